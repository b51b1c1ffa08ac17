/- A part of the framework and of the walks: I8 I9 T27 T35. -/
import Derived.Laws.RangeString
import Derived.Below
import Derived.RangeFuncCalls
import Derived.OrdersIn
import Derived.TacticsIn
import Derived.Test.YtphdikcommfnhaaGreatDoorGg32
import Derived.Test.YtphdikcommfnhaaGreatDoorGg20
set_option linter.unusedSimpArgs false
set_option linter.unusedVariables false
set_option linter.unusedSectionVars false

namespace Go.Proofs
open Go.RowKit Go.Shelf Go.Gv
attribute [local go_sem] Oper.semAt_some
set_option maxRecDepth 100000 in
set_option maxHeartbeats 2000000 in
theorem Tryz.units_in(F:Fence)(n:Nat)(h95:F.fn 259)(hro:F.round=none)(s:ByteArray)(w:World):
 CallsIn F n Tryz.prog 259 #[.string s] w fun e w'=>
  e= .returned (.func (.func 284) #[] #[.pointer (some ⟨w.heap.size,0,none⟩)])/\w'=w.alloc (.cells #[.string s] ay):=by
 refine callsIn_of_wp Tryz.func259 rfl h95 ?_ hro
 simp only[Tryz.ntmps259,List.size_toArray,List.length_cons,List.length_nil,Nat.reduceAdd,Nat.reduceSub,Array.replicate_succ,Array.replicate_zero,List.push_toArray,List.append_toArray,List.nil_append,List.cons_append]
 gi_wp2
 all_goals go_ret
 exact⟨rfl,rfl⟩
theorem Mc{P:Program}(W:World)(Bi:Nat)(s:ByteArray)(pos:Nat)(ty:TypeId)(hB:W.heap[Bi]? =some (.stringIter s pos))(h:pos < s.size)(ha:(s[pos]'h).toNat < 128):
 (Instr.next (.pointer (some ⟨Bi,0,none⟩)) true ty).run P W= .ok (.tuple #[.bool true, .int .i64 pos, .int .i32 (s[pos]'h).toNat]) (W.putObj Bi (.stringIter s (pos+1))):=by
 simp only[Instr.next,getObj,setObj,Sem.run_bind,Sem.run,hB,Result.andThen,h,if_true,decode_ascii s pos h ha]
 simp[goInt,Sem.run,hB,World.putObj]
theorem Md{P:Program}(W:World)(Bi:Nat)(s:ByteArray)(pos:Nat)(ty:TypeId)(hB:W.heap[Bi]? =some (.stringIter s pos))(h:¬pos < s.size):
 (Instr.next (.pointer (some ⟨Bi,0,none⟩)) true ty).run P W= .ok (.tuple #[.bool false]) W:=by
 simp[Instr.next,getObj,Sem.run,hB,h]
theorem oO{W:World}{b k:Nat}{xs:Array Value}{t:TypeId}{v:Value}(h:W.heap[b]? =some (.cells xs t (0,0))):(W.setCell ⟨b,k,none⟩ v).heap[b]? =some (.cells (xs.setIfInBounds k v) t (0,0)):=by
 simp[World.setCell,Array.getElem?_modify,h]
theorem GrL.setCell{B b k:Nat}{W:World}(hb:B<=b)(v:Value):GrL B W (W.setCell ⟨b,k,none⟩ v):=⟨rfl,rfl,rfl,by simp[World.setCell],fun j hj=>Below.heap_setCell W ⟨b,k,none⟩ v j (by show j≠b;omega),Nat.le_refl _⟩
theorem py{W:World}{b k:Nat}{xs:Array Value}{t:TypeId}(h:W.heap[b]? =some (.cells xs t (0,0))):W.frozen? ⟨b,k,none⟩=false:=by simp[World.frozen?,h]
theorem bw{W:World}{b k:Nat}{xs:Array Value}{t:TypeId}{v:Value}(h:W.heap[b]? =some (.cells xs t (0,0)))(hk:xs[k]? =some v):W.cell? ⟨b,k,none⟩=some v:=by simp[World.cell?,h,hk]
theorem qrK{B C b i:Nat}{W:World}{x0 x1 x2:Value}{t:TypeId}{o:Obj}(hb:W.heap[b]? =some (.cells #[x0,x1,x2] t (0,0)))(hi:W.heap[i]? =some o)(hne:i≠b)(hB:B<=b)(hC:b < C)(y0 y1 y2:Value):
 (((W.setCell ⟨b,0,none⟩ y0).setCell ⟨b,1,none⟩ y1).setCell ⟨b,2,none⟩ y2).heap[b]? =some (.cells #[y0,y1,y2] t (0,0))/\(((W.setCell ⟨b,0,none⟩ y0).setCell ⟨b,1,none⟩ y1).setCell ⟨b,2,none⟩ y2).heap[i]? =some o/\GrR B C W (((W.setCell ⟨b,0,none⟩ y0).setCell ⟨b,1,none⟩ y1).setCell ⟨b,2,none⟩ y2):=by
 have hlt:=(Array.getElem?_eq_some_iff.1 hb).1
 refine⟨oO (oO (oO hb)),?_,((GrR.set _ hB hC (by omega) y0).trans (GrR.set _ hB hC (by simp[World.setCell];omega) y1)).trans (GrR.set _ hB hC (by simp[World.setCell];omega) y2)⟩
 rw[Below.heap_setCell _ _ _ _ hne,Below.heap_setCell _ _ _ _ hne,Below.heap_setCell _ _ _ _ hne]
 exact hi
def UY(s:ByteArray)(k:Nat):Array Value:= #[.agg #[.int .i32 (((s.data.toList[k]?).map fun c=>(c.toNat:Int)).getD 0), .int .i64 (k:Int), .int .i64 1]]
set_option maxRecDepth 100000 in
set_option maxHeartbeats 4000000 in
theorem Tryz.units1_it(F:Fence)(n:Nat)(h128:F.fn 284)(hro:F.round=none)(hn:1<=n)(s:ByteArray)(hs:s.size<=100000)(ha:∀ (k:Nat) (h:k < s.size),(s[k]'h).toNat < 128)(S:Nat->Prop)(Bs:Nat)(hBs:S Bs)(w:World)(hS:∀k,S k->k < w.heap.size)(hB:w.cell? ⟨Bs,0,none⟩=some (.string s)):
 qk0 F n Tryz.prog 284 #[.pointer (some ⟨Bs,0,none⟩)] s.size (UY s) S 2 w:=by
 intro l J Jx W hW hsz hJ hY h0
 have hB':W.cell? ⟨Bs,0,none⟩=some (.string s):=by
  rw[World.cell?_of_block (hW.block Bs (hS Bs hBs) (.inl hBs))]
  exact hB
 show CallsIn F n Tryz.prog 284 #[.func (.yield l) #[] #[], .pointer (some ⟨Bs,0,none⟩)] W _
 refine callsIn_of_wp Tryz.func284 rfl h128 ?_ hro
 simp only[Tryz.ntmps284,List.size_toArray,List.length_cons,List.length_nil,Nat.reduceAdd,Nat.reduceSub,Array.replicate_succ,Array.replicate_zero,List.push_toArray,List.append_toArray,List.nil_append,List.cons_append]
 have hBW:Bs < W.heap.size:=Nat.lt_of_lt_of_le (hS Bs hBs) hsz
 have hBx:∀o,(W.alloc o).cell? ⟨Bs,0,none⟩=some (.string s):=fun o=>by
  rw[World.cell?_of_block (Below.heap_alloc W o Bs hBW)]
  exact hB'
 gi_wp2
 gi_loopw [] (fun wr=>∃p:Nat,p<=s.size/\wr.heap[W.heap.size+1]? =some (.stringIter s p)/\(∃r sz:Int,(0 < p->r=((s.data.toList[p -1]?).map fun c=>(c.toNat:Int)).getD 0)/\wr.heap[W.heap.size]? =some (.cells #[.int .i32 r, .int .i64 ((p:Int) -1), .int .i64 sz] 293 (0,0)))/\J (p -1) wr/\W.heap.size+2<=wr.heap.size/\wr.heap[Bs]? =W.heap[Bs]?) (fun wr=>s.size -wr.iterPos (W.heap.size+1))
 case atStart=>
  have hz:(W.alloc (.cells #[.int .i32 0, .int .i64 (-1), .int .i64 0] 293)).heap.size=W.heap.size+1:=by simp
  refine⟨0,Nat.zero_le _,?_,⟨0,0,fun h=>by omega,?_⟩,?_,?_,?_⟩
  ·rw[<-hz]
   exact World.iter_heap _ _ _
  ·exact(Below.heap_alloc _ _ _ (by simp)).trans (World.alloc_heap_new W _)
  ·exact hJ 0 _ _ ((GrR.alloc W (Nat.le_refl _) _).trans (GrR.alloc _ (by simp) _)) h0
  ·simp[World.iter]
  ·exact(Below.heap_alloc _ _ _ (by simp;omega)).trans (Below.heap_alloc W _ Bs hBW)
 case round=>
  obtain⟨p,hp,hBi,⟨r,sz,hr,hBu⟩,hJp,hsz2,hbs⟩:=hrel
  by_cases hlt:p < s.size
  ·have hnx:∀ty,(Instr.next (.pointer (some ⟨W.heap.size+1,0,none⟩)) true ty).run Tryz.prog wr=_:=fun ty=>Mc wr (W.heap.size+1) s p ty hBi hlt (ha p hlt)
   obtain⟨W2,hW2⟩:∃W2,W2=wr.putObj (W.heap.size+1) (.stringIter s (p+1)):=⟨_,rfl⟩
   rw[<-hW2]at hnx
   have hBu2:W2.heap[W.heap.size]? =some (.cells #[.int .i32 r, .int .i64 ((p:Int) -1), .int .i64 sz] 293 (0,0)):=by
    rw[hW2];exact(World.putObj_heap_other (by omega)).trans hBu
   have hBi2:W2.heap[W.heap.size+1]? =some (.stringIter s (p+1)):=by
    rw[hW2];exact World.putObj_heap_same (by omega)
   have hJ2:J (p -1) W2:=by rw[hW2];exact hJ _ _ _ (GrR.put _ (by omega) (by omega) (by omega) _) hJp
   have hbs2:W2.heap[Bs]? =W.heap[Bs]?:=by rw[hW2];exact(World.putObj_heap_other (by omega)).trans hbs
   have hsz3:W2.heap.size=wr.heap.size:=by rw[hW2];simp
   have c0:W2.cell? ⟨W.heap.size,0,none⟩=some (.int .i32 r):=by simp[World.cell?,hBu2]
   have c1:W2.cell? ⟨W.heap.size,1,none⟩=some (.int .i64 ((p:Int) -1)):=by simp[World.cell?,hBu2]
   have c2:W2.cell? ⟨W.heap.size,2,none⟩=some (.int .i64 sz):=by simp[World.cell?,hBu2]
   have f2:W2.frozen? ⟨W.heap.size,2,none⟩=false:=by simp[World.frozen?,hBu2]
   obtain⟨ch,hch⟩:∃ch,ch=(s[p]'hlt).toNat:=⟨_,rfl⟩
   rw[<-hch]at hnx
   have hip:wr.iterPos (W.heap.size+1)=p:=by simp[World.iterPos,hBi]
   have hip2:W2.iterPos (W.heap.size+1)=p+1:=by simp[World.iterPos,hBi2]
   clear hW2
   have hpi:(-9223372036854775808:Int)<=(p:Int) - ((p:Int) -1)/\(p:Int) - ((p:Int) -1)<=9223372036854775807:=by omega
   have hset:∀v,(W2.setCell ⟨W.heap.size,2,none⟩ v).heap[W.heap.size]? =some (.cells #[.int .i32 r, .int .i64 ((p:Int) -1),v] 293 (0,0)):=fun v=>oO hBu2
   have hfr:∀v k,(W2.setCell ⟨W.heap.size,2,none⟩ v).frozen? ⟨W.heap.size,k,none⟩=false:=fun v k=>py (hset v)
   by_cases hp0:p=0
   ·subst hp0
    gi_wp2
    refine⟨fun _ h=>(by cases h),?_⟩
    gi_wp2
    have h3:=hset (.int .i64 1)
    have h3i:(W2.setCell ⟨W.heap.size,2,none⟩ (.int .i64 1)).heap[W.heap.size+1]? =some (.stringIter s (0+1)):=(Below.heap_setCell _ _ _ _ (by simp)).trans hBi2
    obtain⟨q1,q2,q3⟩:=qrK (B:=W.heap.size) (C:=W.heap.size+2) h3 h3i (by omega) (Nat.le_refl _) (by omega) (.int .i32 ((s[0]'hlt).toNat:Int)) (.int .i64 0) (.int .i64 0)
    have q4:=(GrR.set (C:=W.heap.size+2) (k:=2) W2 (Nat.le_refl W.heap.size) (by omega) (by omega) (.int .i64 1)).trans q3
    refine⟨⟨0+1,by omega,q2,⟨((s[0]'hlt).toNat:Int),0,fun _=>?_,q1⟩,hJ _ _ _ q4 hJ2,by have:=q4.size;omega,(q4.toL.low Bs hBW).trans hbs2⟩,?_⟩
    ·have e:s.data.toList[0]? =some (s[0]'hlt):=by
      rw[List.getElem?_eq_getElem (by rw[Array.length_toList];exact hlt),Array.getElem_toList];rfl
     rw[Nat.add_sub_cancel,e];rfl
    ·rw[show((((W2.setCell ⟨W.heap.size,2,none⟩ (.int .i64 1)).setCell ⟨W.heap.size,0,none⟩ (.int .i32 ((s[0]'hlt).toNat:Int))).setCell ⟨W.heap.size,1,none⟩ (.int .i64 0)).setCell ⟨W.heap.size,2,none⟩ (.int .i64 0)).iterPos (W.heap.size+1)=1 from by simp[World.iterPos,q2],hip]
     omega
   have hp1:0 < p:=by omega
   have e1:(p:Int) - ((p:Int) -1)=1:=by omega
   have h3:=hset (.int .i64 ((p:Int) - ((p:Int) -1)))
   obtain⟨W3,hW3⟩:∃W3,W3=W2.setCell ⟨W.heap.size,2,none⟩ (.int .i64 ((p:Int) - ((p:Int) -1))):=⟨_,rfl⟩
   have g3:GrR W.heap.size (W.heap.size+2) W2 W3:=by rw[hW3];exact GrR.set _ (Nat.le_refl W.heap.size) (by omega) (by omega) _
   have hJ3:J (p -1) W3:=hJ _ _ _ g3 hJ2
   have h3i:W3.heap[W.heap.size+1]? =some (.stringIter s (p+1)):=by rw[hW3];exact(Below.heap_setCell _ _ _ _ (by simp)).trans hBi2
   rw[<-hW3]at h3
   have hsz4:W.heap.size+2<=W3.heap.size:=by have:=g3.size;omega
   obtain⟨fn,tmps,assign,body,hy,hR⟩:=hY (p -1) W3 hJ3 (by omega) (by omega)
   have hue:UY s (p -1)= #[.agg #[.int .i32 r, .int .i64 ((p:Int) -1), .int .i64 ((p:Int) - ((p:Int) -1))]]:=by
    unfold UY
    rw[<-hr hp1,e1,show((p -1:Nat):Int)=(p:Int) -1 by omega]
   rw[hue]at hy
   rw[hW3]at hy hR
   clear hr e1 hue
   gi_wp2
   refine hR.mono ?_
   clear hy
   rintro e W4 (⟨rfl,hJ4,hk4⟩|⟨rfl,hJx4⟩)
   ·rw[<-hW3]at hk4
    have h4:W4.heap[W.heap.size]? =some (.cells #[.int .i32 r, .int .i64 ((p:Int) -1), .int .i64 ((p:Int) - ((p:Int) -1))] 293 (0,0)):=(hk4.block _ (by omega) (.inr (Nat.le_refl _))).trans h3
    have h4i:W4.heap[W.heap.size+1]? =some (.stringIter s (p+1)):=(hk4.block _ (by omega) (.inr (by omega))).trans h3i
    have h4s:W4.heap[Bs]? =W.heap[Bs]?:=((hk4.block _ (by omega) (.inl hBs)).trans (g3.toL.low Bs hBW)).trans hbs2
    have hf4:∀k,W4.frozen? ⟨W.heap.size,k,none⟩=false:=fun k=>py h4
    have k0:W4.cell? ⟨W.heap.size,0,none⟩=some (.int .i32 r):=bw h4 rfl
    have k1:W4.cell? ⟨W.heap.size,1,none⟩=some (.int .i64 ((p:Int) -1)):=bw h4 rfl
    have k2:W4.cell? ⟨W.heap.size,2,none⟩=some (.int .i64 ((p:Int) - ((p:Int) -1))):=bw h4 rfl
    have h4z:W.heap.size+2<=W4.heap.size:=by have:=hk4.size;omega
    rw[show p -1+1=p by omega]at hJ4
    clear hW3
    gi_wp2
    obtain⟨q1,q2,q3⟩:=qrK (B:=W.heap.size) (C:=W.heap.size+2) h4 h4i (by omega) (Nat.le_refl _) (by omega) (.int .i32 ((s[p]'hlt).toNat:Int)) (.int .i64 p) (.int .i64 0)
    go_roundw
    case rel=>
     refine⟨p+1,by omega,q2,⟨((s[p]'hlt).toNat:Int),0,fun _=>?_,?_⟩,hJ _ _ _ q3 hJ4,by have:=q3.size;omega,(q3.toL.low Bs hBW).trans h4s⟩
     ·have e:s.data.toList[p]? =some (s[p]'hlt):=by
       rw[List.getElem?_eq_getElem (by rw[Array.length_toList];exact hlt),Array.getElem_toList];rfl
      rw[Nat.add_sub_cancel,e];rfl
     ·rw[show(((p+1:Nat):Int) -1)=(p:Int) by omega]
      exact q1
    case measure=>
     rw[hip]
     simp only[World.iterPos,q2]
     omega
   ·clear hW3
    gi_wp2
    refine bodyPost_ret (results_none rfl _ _ _) rfl ?_
    exact⟨⟨_,rfl⟩, .inr ⟨p -1,by omega,hJx4⟩⟩
  ·have hnx:∀ty,(Instr.next (.pointer (some ⟨W.heap.size+1,0,none⟩)) true ty).run Tryz.prog wr=_:=fun ty=>Md wr (W.heap.size+1) s p ty hBi hlt
   have hpe:p=s.size:=by omega
   subst hpe
   have hcs:wr.cell? ⟨Bs,0,none⟩=some (.string s):=by rw[World.cell?_of_block hbs];exact hB'
   have c1:wr.cell? ⟨W.heap.size,1,none⟩=some (.int .i64 ((s.size:Int) -1)):=bw hBu rfl
   have f2:wr.frozen? ⟨W.heap.size,2,none⟩=false:=py hBu
   have hset:∀v,(wr.setCell ⟨W.heap.size,2,none⟩ v).heap[W.heap.size]? =some (.cells #[.int .i32 r, .int .i64 ((s.size:Int) -1),v] 293 (0,0)):=fun v=>oO hBu
   have hg:∀v,GrR W.heap.size (W.heap.size+2) wr (wr.setCell ⟨W.heap.size,2,none⟩ v):=fun v=>GrR.set _ (Nat.le_refl _) (by omega) (by omega) v
   have c0:wr.cell? ⟨W.heap.size,0,none⟩=some (.int .i32 r):=bw hBu rfl
   have c2:wr.cell? ⟨W.heap.size,2,none⟩=some (.int .i64 sz):=bw hBu rfl
   have hsz': -9223372036854775808<=(s.size:Int) - ((s.size:Int) -1)/\(s.size:Int) - ((s.size:Int) -1)<=9223372036854775807:=by omega
   by_cases h00:s.size=0
   ·have hJ0:∀v,J s.size (wr.setCell ⟨W.heap.size,2,none⟩ v):=fun v=>by
     have:=hJ _ _ _ (hg v) hJp
     rwa [show s.size -1=s.size by omega]at this
    have i0:¬ (0:Int)<=(s.size:Int) -1:=by omega
    clear hset hg hJp hr
    gi_wp2
    go_end0
    have hJ00:=hJ0 (.int .i64 1)
    rw[h00]at hJ00
    exact⟨⟨_,rfl⟩,hJ00⟩
   have hJ3:J (s.size -1) (wr.setCell ⟨W.heap.size,2,none⟩ (.int .i64 ((s.size:Int) - ((s.size:Int) -1)))):=hJ _ _ _ (hg _) hJp
   have hz3:=(hg (.int .i64 ((s.size:Int) - ((s.size:Int) -1)))).size
   obtain⟨fn,tmps,assign,body,hy,hR⟩:=hY (s.size -1) _ hJ3 (by omega) (by omega)
   have hue:UY s (s.size -1)= #[.agg #[.int .i32 r, .int .i64 ((s.size:Int) -1), .int .i64 ((s.size:Int) - ((s.size:Int) -1))]]:=by
    unfold UY
    rw[<-hr (by omega),show((s.size -1:Nat):Int)=(s.size:Int) -1 by omega,show(s.size:Int) - ((s.size:Int) -1)=1 by omega]
   rw[hue]at hy
   clear hr hue
   gi_wp2
   refine hR.mono ?_
   clear hy
   have hl1:s.size -1 < s.size:=by omega
   rintro e W4 (⟨rfl,hJ4,hk4⟩|⟨rfl,hJx4⟩)
   ·rw[show s.size -1+1=s.size by omega]at hJ4
    gi_wp2
    go_end0
    exact⟨⟨_,rfl⟩, .inl hJ4⟩
   ·gi_wp2
    go_end0
    exact⟨⟨_,rfl⟩, .inr ⟨_,hl1,hJx4⟩⟩
end Go.Proofs

namespace Go.Proofs
open Go.RowKit Go.Shelf Go.Gv
attribute [local go_sem] Oper.semAt_some
def J4(s:ByteArray)(k:Nat):Int:=((s.data.toList[k]?).map fun c=>(c.toNat:Int)).getD 0
set_option maxRecDepth 100000 in
set_option maxHeartbeats 2000000 in
theorem Tryz.unit_valid_x(F:Fence)(n:Nat)(h132:F.fn 260)(hro:F.round=none)(r a z:Int)(hr:0<=r)(hr2:r < 128)(w:World):
 CallsIn F n Tryz.prog 260 #[.agg #[.int .i32 r, .int .i64 a, .int .i64 z]] w fun e w'=>
  e= .returned (.bool true)/\w'=w.alloc (.cells #[.int .i32 r, .int .i64 a, .int .i64 z] 293):=by
 refine callsIn_of_wp Tryz.func260 rfl h132 ?_ hro
 simp only[Tryz.ntmps260,List.size_toArray,List.length_cons,List.length_nil,Nat.reduceAdd,Nat.reduceSub,Array.replicate_succ,Array.replicate_zero,List.push_toArray,List.append_toArray,List.nil_append,List.cons_append]
 gi_wp2
 go_ret
 exact⟨rfl,rfl⟩
theorem qdC{s:ByteArray}(ha:∀ (k:Nat) (h:k < s.size),(s[k]'h).toNat < 128){k:Nat}(hk:k < s.size):0<=J4 s k/\J4 s k < 128:=by
 have e:s.data.toList[k]? =some (s[k]'hk):=by
  rw[List.getElem?_eq_getElem (by rw[Array.length_toList];exact hk),Array.getElem_toList];rfl
 have h:=ha k hk
 unfold J4
 rw[e]
 show 0<=((s[k]'hk).toNat:Int)/\((s[k]'hk).toNat:Int) < 128
 omega
theorem LN(s:ByteArray)(k:Nat):UY s k= #[.agg #[.int .i32 (J4 s k), .int .i64 (k:Int), .int .i64 1]]:=rfl
set_option maxRecDepth 100000 in
set_option maxHeartbeats 4000000 in
theorem Tryz.Valid_in(F:Fence)(n:Nat)(h101:F.fn 224)(h95:F.fn 259)(h128:F.fn 284)(h132:F.fn 260)(hro:F.round=none)(hn:10<=n)(s:ByteArray)(hs:s.size<=100000)(ha:∀ (k:Nat) (h:k < s.size),(s[k]'h).toNat < 128)(w:World):
 CallsIn F n Tryz.prog 224 #[.string s] w fun e W'=>e= .returned (.bool true)/\GrL w.heap.size w W':=by
 have h1:1<=n:=by omega
 refine callsIn_of_wp_marks Tryz.func224 rfl h101 ?_ hro
 simp only[Tryz.ntmps224,List.size_toArray,List.length_cons,List.length_nil,Nat.reduceAdd,Nat.reduceSub,Array.replicate_succ,Array.replicate_zero,List.push_toArray,List.append_toArray,List.nil_append,List.cons_append]
 gi_wp2_with (gi_at_call 259;refine(Tryz.units_in F (n -1) h95 hro _ _).mono ?_;rintro e w' ⟨rfl,rfl⟩)
 obtain⟨W0,hW0⟩:∃W0,(w.alloc (.cells #[.bool false] 4)).alloc (.cells #[.string s] ay)=W0:=⟨_,rfl⟩
 rw[hW0]
 have hsz:W0.heap.size=w.heap.size+2:=by rw[<-hW0];simp
 have g0:GrL w.heap.size w W0:=by rw[<-hW0];exact(GrL.alloc w (Nat.le_refl _) _).trans (GrL.alloc _ (by simp) _)
 have b0:W0.heap[w.heap.size]? =some (.cells #[.bool false] 4 (0,0)):=by
  rw[<-hW0];exact(Below.heap_alloc _ _ _ (by simp)).trans (World.alloc_heap_new w _)
 have b1:W0.heap[w.heap.size+1]? =some (.cells #[.string s] ay (0,0)):=by
  have h:=World.alloc_heap_new (w.alloc (.cells #[.bool false] 4)) (.cells #[.string s] ay)
  rw[World.size_alloc]at h
  rw[<-hW0];exact h
 clear hW0
 have hcs:W0.cell? ⟨w.heap.size+1,0,none⟩=some (.string s):=bw b1 rfl
 refine Mf hro h1 (gf:=284) (lb:= #[.pointer (some ⟨w.heap.size+1,0,none⟩)]) rfl h128 (enters_of Tryz.func284 (by kernel_rfl) rfl)
  (Tryz.units1_it F (n -1) h128 hro (by omega) s hs ha (fun k=>k < W0.heap.size) (w.heap.size+1) (by omega) W0 (fun _ h=>h) hcs) (fun _ h=>h) (fun _=>rfl)
  (fun k W=>GrL w.heap.size w W/\W.heap[w.heap.size]? =some (.cells #[.bool false] 4 (0,0)))
  (fun _ _=>False)
  (fun k A C hs hg0=>have hg:=hg0.toL; ⟨hs.1.trans (hg.mono (by omega)),(hg.low _ (by omega)).trans hs.2⟩)
  (fun _ _ _ hs _=>hs)
  ⟨g0,b0⟩
  (fun k a' W=>∃Br,W0.heap.size+2<=Br/\W.heap[Br]? =some (.cells #[.int .i32 (J4 s k), .int .i64 (k:Int), .int .i64 1] 293 (0,0))/\
    a'={ tmps:= #[.string s,undef, .pointer (some ⟨w.heap.size,0,none⟩), .pointer (some ⟨Br,0,none⟩), .string s, .func (.func 284) #[] #[.pointer (some ⟨w.heap.size+1,0,none⟩)], .agg #[.int .i32 (J4 s k), .int .i64 (k:Int), .int .i64 1],undef,undef,undef],defers:=[] })
  (fun a' k W o hlt hs=>by
    obtain⟨Br,q1,q2,q3⟩:=hs
    exact⟨Br,q1,(World.putObj_heap_other (by omega)).trans q2,q3⟩)
  ?assign ?body ?done ?stop
 case assign=>
  rintro l k W hsz2 hl ⟨i1,i2⟩ hk
  rw[LN]
  generalize J4 s k=c
  gi_wp2
  exact⟨(KeepsOthers.alloc _ _).from _,KBt.alloc _ _ _ _,⟨i1.trans (GrL.alloc W i1.size _),(Below.heap_alloc _ _ _ (by omega)).trans i2⟩,W.heap.size,by omega,World.alloc_heap_new W _,rfl⟩
 case body=>
  rintro l k a' W hsz2 hl ⟨i1,i2⟩ ⟨Br,hBr,bR,rfl⟩ hk
  obtain⟨c0,c1⟩:=qdC ha hk
  generalize J4 s k=c at bR c0 c1
  have r0:W.cell? ⟨Br,0,none⟩=some (.int .i32 c):=bw bR rfl
  have r1:W.cell? ⟨Br,1,none⟩=some (.int .i64 (k:Int)):=bw bR rfl
  have r2:W.cell? ⟨Br,2,none⟩=some (.int .i64 1):=bw bR rfl
  have hn2:1<=n -1 -1:=by omega
  gi_wp2_with (gi_at_call 260;refine(CallsIn.inRound l (Tryz.unit_valid_x F _ h132 hro _ _ _ c0 c1 _)).mono ?_;rintro e w' ⟨rfl,rfl⟩)
  exact⟨(KeepsOthers.alloc _ _).from _,KBt.alloc _ _ _ _,i1.trans (GrL.alloc W i1.size _),(Below.heap_alloc _ _ _ (by omega)).trans i2⟩
 case done=>
  rintro D W hD ⟨i1,i2⟩ hK
  have q0:W.cell? ⟨w.heap.size,0,none⟩=some (.bool false):=bw i2 rfl
  have q1:W.frozen? ⟨w.heap.size,0,none⟩=false:=py i2
  gi_wp2
  have hK2:(W.setCell ⟨w.heap.size,0,none⟩ (.bool true)).heap[D]? =some (.deferred (some [])):=(Below.heap_setCell _ _ _ _ (by show D≠w.heap.size;omega)).trans hK
  refine⟨by simp, .inl ⟨_,_,rfl,run_takeDeferred hK2,?_⟩⟩
  have i3:(W.setCell ⟨w.heap.size,0,none⟩ (.bool true)).heap[w.heap.size]? =some (.cells #[.bool true] 4 (0,0)):=oO i2
  have i4:((W.setCell ⟨w.heap.size,0,none⟩ (.bool true)).putObj D (.deferred none)).heap[w.heap.size]? =some (.cells #[.bool true] 4 (0,0)):=(World.putObj_heap_other (by omega)).trans i3
  have g4:GrL w.heap.size w ((W.setCell ⟨w.heap.size,0,none⟩ (.bool true)).putObj D (.deferred none)):=(i1.trans (GrL.setCell (Nat.le_refl _) _)).trans (GrL.put _ (by omega) _)
  have k4:=bw (k:=0) i4 rfl
  have hres:∀tmps:Array Value,tmps[2]? =some (.pointer (some ⟨w.heap.size,0,none⟩))->(results Tryz.f224 tmps).run Tryz.prog ((W.setCell ⟨w.heap.size,0,none⟩ (.bool true)).putObj D (.deferred none))= .ok (.bool true) ((W.setCell ⟨w.heap.size,0,none⟩ (.bool true)).putObj D (.deferred none)):=fun tmps ht=>by
   simp[results,Tryz.f224,go_sem,k4,ht]
  exact⟨_,hres _ rfl,rfl,g4⟩
 case stop=>
  rintro D k W _ _ h _
  exact h.elim
end Go.Proofs

namespace Go.Gv
open Go.RowKit
open Cod (enc dec)
theorem Q4{P:Program}{f:Nat}{X Y:Type}{A:cM X}{pre:X->Prop}{er:Y->D}{post:X->Y->Prop}(hce:ee P f)
 (h:∀ (tp I:Nat->Prop) (w:World) (vs:List Value) (x:X),pre x->(∀p∈rc,∃ (el:Nat) (z:Nat×Nat),w.heap[p.1]? =some (.cells p.2 el z))->(∀b,I b->b < w.heap.size)->vs.length=(A.view x).length->
   (∀ (k:Nat) (v:Value) (d:D),vs[k]? =some v->(A.view x)[k]? =some d->R tp I w v d)->
   Calls P f vs.toArray w fun e w'=>∃v y,e= .returned v/\post x y/\(∀tp' I',R tp' I' w' v (er y))/\Below w.heap.size w w'/\w.drawn<=w'.drawn):Tri P f (aS A pre er post).pt:=by
 intro O tp w vs ds H d K hO htl hsat hlen hargs hA
 rw[ra]at hA
 cases hd:A.dec ds with
 | none=>rw[hd]at hA;exact hA.elim
 | some x=>
   rw[hd]at hA
   obtain⟨hp,hK⟩:=hA
   have hle:=A.le ds x hd
   refine⟨hce,(h tp (aM O tp H w) w vs x hp (fun p hp=>(htl.2 p hp).2.2) (fun b hb=>hb.1) (by rw[hlen,hle.1]) (fun k v d h1 h2=>?_)).mono ?_⟩
   ·have hlt:k < ds.length:=by rw[<-hlen];exact(qtG.1 h1).1
    have he:=qtH hlt
    exact(hle.2 k _ d he h2).R (H:=bB) (fun i r h=>by cases h) (fun _ h=>h) (fun i r b h=>by cases h) (hargs k _ _ h1 he)
   ·rintro e w' ⟨v,y,rfl,hy,hR,hb,hdr⟩
    have hmove:∀y e,R tp (aM O tp H w) w y e->R tp (aM O tp H w') w' y e:=fun y e hr=>
     hr.mono (fun _ h=>h) (fun b hb'=>⟨⟨qt1 hb'.1 hb.size,hb'.2⟩,hb.block b hb'.1⟩) (fun b hb'=> .same (hb.block b (htl.1 b hb')))
    exact⟨v,er y,H,tp,rfl,hK y hy,fun _ h=>h,fun _ h=> .inl h,fun b h=>qt1 (htl.1 b h) hb.size,
     ⟨hb.os,hb.tape,hb.output,hb.size,fun b h1 _ _=>hb.block b h1,fun b h=> .same (hb.block b (htl.1 b h)),hdr⟩,fun _ h=> .inl h,
     ⟨hsat.dis,hsat.out,fun i r h1=>(hsat.ok i r h1).conv hmove fun b h2=>hb.block b ((hsat.ok i r h1).lt h2)⟩,hR _ _⟩
theorem qP{P:Program}{f:Nat}{X Y:Type}{A:cM X}{pre:X->Prop}{er:Y->D}{post:X->Y->Prop}(hce:ee P f)
 (h:∀ (tp I:Nat->Prop) (w:World) (vs:List Value) (x:X),pre x->(∀b,I b->b < w.heap.size)->vs.length=(A.view x).length->
   (∀ (k:Nat) (v:Value) (d:D),vs[k]? =some v->(A.view x)[k]? =some d->R tp I w v d)->
   Calls P f vs.toArray w fun e w'=>∃v y,e= .returned v/\post x y/\(∀tp' I',R tp' I' w' v (er y))/\Below w.heap.size w w'/\w.drawn<=w'.drawn):Tri P f (aS A pre er post).pt:=
 Q4 hce fun tp I w vs x hp _ hI hl hr=>h tp I w vs x hp hI hl hr
theorem B4{tp I:Nat->Prop}{w:World}{x y:Value}(h:R tp I w x (.v y)):x=y:=by cases h;rfl
end Go.Gv

namespace Go.Gv
abbrev RF(l:Nat):Fence:=Fence.wide.inRound l
section
variable {P:Program}{l n:Nat}
theorem Ro{row:String}{args:Array Value}{w:World}{R:Value->World->Prop}(h:Rows P row args w R):RowsIn (RF l) n P row args w R:=fun c cs _=>
 let ⟨v,w',r,s⟩:=h c cs
 ⟨v,w',r,stepsIn_wide.2 s⟩
theorem P6{f:FuncId}{args:Array Value}{w:World}{R:Ending->World->Prop}(h:Calls P f args w R):CallsIn (RF l) n P f args w R:=(callsIn_wide.2 h).inRound l
theorem OH{o:Oper}(hd:∀c,o.op≠ .defer c){a:Act}{w:World}{K:Act->World->Prop}{Q:Exit->Act->World->Prop}(h:o.wp P a w K Q):o.wpIn (RF l) n P a w K Q:=by
 refine⟨fun _ _=>trivial,?_⟩
 rw[Oper.semAt_eq _ _ _ hd]
 unfold Oper.wp at h
 generalize (execOp a.eval o).run P w=r at*
 cases r with
 | ok x w'=>
   cases x <;> simp only[Oper.upon,Oper.uponIn]at h ⊢ <;> first
    | exact h
    | exact⟨fun h=>absurd (show false=true from h) (by decide),CallsIn.mono (P6 h) (fun e w'' he=>by cases e <;> exact he)⟩
    | exact⟨fun h=>absurd (show false=true from h) (by decide),Ro h⟩
    | exact h.elim
 | halt x w'=>cases x <;> simp only[Oper.upon,Oper.uponIn]at h ⊢ <;> exact h
theorem zQ{md:Region.Mode}{ops:Array Oper}{Q:Exit->Act->World->Prop}(hd:∀o∈ops,∀c,o.op≠ .defer c)(hQ:¬LetsOut Q):
 ∀ (fuel:Nat) (listed:Array Bool) (a:Act) (w:World),wpAny P md ops Q fuel listed a w->wpAnyIn (RF l) n P md ops Q fuel listed a w
 | 0,listed,a,w,h=>h
 | fuel+1,listed,a,w,h=>by
   refine⟨h.1,fun i hi=>?_⟩
   have h:=h.2 i hi
   unfold wpOp at h
   unfold wpOpIn
   split
   ·rename_i e
    rw[e]at h
    exact zQ hd hQ fuel _ _ _ h
   ·rename_i o e
    rw[e]at h
    simp only at h
    have ho:o∈ops:=Array.mem_of_getElem? e
    split
    ·rename_i hw
     rw[if_pos hw]at h
     rcases h with h|⟨_,h⟩
     ·exact OH (hd o ho) (Oper.wp_mono (fun a w h=>zQ hd hQ fuel _ _ _ h) h)
     ·exact absurd h hQ
    ·rename_i hw
     rw[if_neg hw]at h
     exact⟨fun _ _=>trivial,zQ hd hQ fuel _ _ _ h⟩
theorem HV{ops:Array Oper}{Q:Exit->Act->World->Prop}(hQ:¬LetsOut Q):
 ∀ (os:List Oper) (hd:∀o∈os,∀c,o.op≠ .defer c) (a:Act) (w:World),wpList P ops Q os a w->wpListIn (RF l) n P ops Q os a w
 | [],hd,a,w,h=>h
 | o::os,hd,a,w,h=>by
   have ih:=HV (ops:=ops) hQ os fun o ho=>hd o (by simp[ho])
   unfold wpList at h
   unfold wpListIn
   split
   ·rename_i hw
    rw[if_pos hw]at h
    rcases h with h|⟨_,h⟩
    ·exact OH (hd o (by simp)) (Oper.wp_mono (fun a w h=>ih _ _ h) h)
    ·exact absurd h hQ
   ·rename_i hw
    rw[if_neg hw]at h
    exact⟨fun _ _=>trivial,ih _ _ h⟩
end
section
variable {P:Program}{S:Nat->Spc}{im:List Nat}{E:xn}{l n:Nat}
theorem FX{o:Oper}{c:COp}(h:ca P im o=some c):∀q,o.op≠ .defer q:=by
 intro q hq
 simp[ca,hq]at h
theorem E8{N:Nat}{ops:Array Oper}{cis:List CI}(h:iS P im N ops=some cis):∀o∈ops,∀q,o.op≠ .defer q:=by
 intro o ho
 obtain⟨hl,hg⟩:=rW h
 obtain⟨i,hi⟩:=Array.mem_iff_getElem?.1 ho
 obtain⟨x,hx,hc⟩:=hg i o hi
 obtain⟨g,c,rfl,hcc,_⟩:=fA hc
 exact FX hcc
theorem qer{z:List PanicEntry->Prop}{K:Ex->Sg->ab->Prop} :¬LetsOut (PostZ E z K):=by
 rintro⟨a,w,h⟩
 exact h
theorem UU{z:List PanicEntry->Prop}(hmix:P.follows .mixedOrders=true)(cc:CC):FQ P z S cc->∀ (code:Code),aA P im E.N code=some (be cc)->∀ (K:Ex->Sg->ab->Prop) (σ:Sg) (H:ab) (a:Act) (w:World),
 St E σ H a w->vc S cc K σ H->code.wpIn (RF l) n P (PostZ E z K) a w:=by
 induction cc with
 | skip=>
   intro hqu code hc K σ H a w hst hv
   rcases aV hc with⟨_,h⟩|⟨_,_,_,_,h,_⟩|⟨_,_,_,_,_,h⟩|⟨_,_,_,_,_,h,_⟩|⟨_,_,_,_,_,_,h,_⟩|⟨_,_,_,_,h,_⟩|⟨_,_,_,h,_⟩|⟨_,_,h⟩|⟨_,h⟩ <;> try (simp[be]at h;done)
   rcases h with rfl|⟨l,rfl⟩
   ·exact wpIn_skip ⟨σ,H,hst,hv⟩
   ·exact wpIn_label ⟨σ,H,hst,hv⟩
 | reg l=>
   intro hqu code hc K σ H a w hst hv
   rcases aV hc with⟨h,_⟩|⟨id,ops,l',rfl,h,hl⟩|⟨_,_,_,_,_,h⟩|⟨_,_,_,_,_,h,_⟩|⟨_,_,_,_,_,_,h,_⟩|⟨_,_,_,_,h,_⟩|⟨_,_,_,h,_⟩|⟨_,_,h⟩|⟨_,h⟩ <;> try (simp[be]at h;done)
   simp only[be,CC.reg.injEq]at h
   subst h
   refine wpIn_region_list (HV qer _ (fun o ho=>E8 hl o (by simpa using ho)) _ _ ?_)
   exact Ki (im:=im) (Q:=PostZ E z K) (K:=K .norm) (fun c a w' h1 h2=>⟨h1,h2⟩) (fun σ H a w hs hk=>⟨σ,H,hs,hk⟩) l hqu ops.toList hl σ H a w hst hv
 | regd pre tl=>
   intro hqu code hc K σ H a w hst hv
   rcases aV hc with⟨h,_⟩|⟨_,_,_,_,h,_⟩|⟨id,ops,pre',tl',rfl,h⟩|⟨_,_,_,_,_,h,_⟩|⟨_,_,_,_,_,_,h,_⟩|⟨_,_,_,_,h,_⟩|⟨_,_,_,h,_⟩|⟨_,_,h⟩|⟨_,h⟩ <;> try (simp[be]at h;done)
   have hc2:=hc
   simp only[aA,qtI,qtE]at hc2
   obtain⟨cis,hcis,_⟩:=hc2
   exact wpIn_region_any hmix (zQ (E8 hcis) qer _ _ _ _ (PG hqu.1 hqu.2.1 hqu.2.2 hc hst hv))
 | seq x y ihx ihy=>
   intro hqu code hc K σ H a w hst hv
   rcases aV hc with⟨h,_⟩|⟨_,_,_,_,h,_⟩|⟨_,_,_,_,_,h⟩|⟨p,q,x',y',rfl,h,hx,hy⟩|⟨_,_,_,_,_,_,h,_⟩|⟨_,_,_,_,h,_⟩|⟨_,_,_,h,_⟩|⟨_,_,h⟩|⟨_,h⟩ <;> try (simp[be]at h;done)
   simp only[be,CC.seq.injEq]at h
   obtain⟨rfl,rfl⟩:=h
   refine wpIn_seq (wpIn_mono (ihx hqu.1 p hx _ σ H a w hst hv) ?_)
   intro e a' w' hp
   cases e with
   | normal=>
     obtain⟨σ',H',hs,hk⟩:=hp
     exact ihy hqu.2 q hy K σ' H' a' w' hs hk
   | exit id=>exact hp
   | ret=>exact hp
   | goto l=>exact hp
   | panic c=>exact hp
   | outgrown=>exact hp
 | ite q x y ihx ihy=>
   intro hqu code hc K σ H a w hst hv
   rcases aV hc with⟨h,_⟩|⟨_,_,_,_,h,_⟩|⟨_,_,_,_,_,h⟩|⟨_,_,_,_,_,h,_⟩|⟨q',p1,p2,x',y',rfl,h,hq,hx,hy⟩|⟨_,_,_,_,h,_⟩|⟨_,_,_,h,_⟩|⟨_,_,h⟩|⟨_,h⟩ <;> try (simp[be]at h;done)
   simp only[be,CC.ite.injEq]at h
   obtain⟨rfl,rfl,rfl⟩:=h
   simp only[vc]at hv
   have hst0:=hst
   obtain⟨hd,hN,tp,hw,hr⟩:=hst
   have hqr:=R2 hr q hq
   split at hv
   ·rename_i t e1
    rw[e1]at hqr
    refine wpIn_cond_split hqr.inv_v (fun h=>?_) (fun h=>?_)
    ·exact ihx hqu.1 p1 hx K σ H a w hst0 (hv.1 h)
    ·exact ihy hqu.2 p2 hy K σ H a w hst0 (hv.2 h)
   ·exact hv.elim
 | block id b ih=>
   intro hqu code hc K σ H a w hst hv
   rcases aV hc with⟨h,_⟩|⟨_,_,_,_,h,_⟩|⟨_,_,_,_,_,h⟩|⟨_,_,_,_,_,h,_⟩|⟨_,_,_,_,_,_,h,_⟩|⟨id',p,x',rfl,h,hx⟩|⟨_,_,_,h,_⟩|⟨_,_,h⟩|⟨_,h⟩ <;> try (simp[be]at h;done)
   simp only[be,CC.block.injEq]at h
   obtain⟨rfl,rfl⟩:=h
   refine wpIn_block (wpIn_mono (ih hqu p hx _ σ H a w hst hv) ?_)
   intro e a' w' hp
   cases e with
   | normal=>exact hp
   | exit i=>
     obtain⟨σ',H',hs,hk⟩:=hp
     simp only[Exit.inBlock]
     by_cases hi:i=id
     ·simp only[if_pos hi]at hk ⊢
      exact⟨σ',H',hs,hk⟩
     ·simp only[if_neg hi]at hk ⊢
      exact⟨σ',H',hs,hk⟩
   | ret=>exact hp
   | goto l=>exact hp
   | panic c=>exact hp
   | outgrown=>exact hp
 | loop key b ih=>
   intro hqu code hc K σ H a w hst hv
   rcases aV hc with⟨h,_⟩|⟨_,_,_,_,h,_⟩|⟨_,_,_,_,_,h⟩|⟨_,_,_,_,_,h,_⟩|⟨_,_,_,_,_,_,h,_⟩|⟨_,_,_,_,h,_⟩|⟨p,x',rfl,h,hx⟩|⟨_,_,h⟩|⟨_,h⟩ <;> try (simp[be]at h;done)
   simp only[be,CC.loop.injEq,true_and]at h
   subst h
   simp only[vc]at hv
   obtain⟨inv,⟨x0,hP0,hm0⟩,hround⟩:=hv
   intro fr k cs hro hb hr
   have key:∀ (m:Nat) (x:inv.X),inv.P x->inv.m x=m->∀a w,St E (inv.s x) (inv.h x) a w->
    ∃e a' w',PostZ E z K e a' w'/\ArrivesIn (Machine.fenced P (RF l)) P (lone (fr.atR a (.code p:: .inLoop p::k)) cs w) fr k cs e a' w':=by
    intro m
    induction m using Nat.strongRecOn with
    | _ m ihn=>
      intro x hP hm a w hst
      obtain⟨e,a1,w1,hq,harr⟩:=ih hqu p hx _ _ _ a w hst (hround x hP) fr (.inLoop p::k) cs hro hb hr
      cases e with
      | normal=>
        obtain⟨σ',H',hs,y,hPy,hy1,hlt⟩:=hq
        obtain⟨e2,a2,w2,hq2,harr2⟩:=ihn (inv.m y) (by omega) y hPy rfl a1 w1 (hy1 _ _ _ hs)
        exact⟨e2,a2,w2,hq2, .of_steps (StepsIn.trans harr (.one (fenced_calm hb hr rfl) stepR_inLoop)) harr2⟩
      | exit id=>
        obtain⟨σ',H',hs,hk⟩:=hq
        exact⟨.exit id,a1,w1,⟨σ',H',hs,hk⟩, .pass (x:= .inLoop p) rfl (fun _ _=> .inl (by simp)) harr⟩
      | ret=>
        obtain⟨σ',H',hs,hk⟩:=hq
        exact⟨.ret,a1,w1,⟨σ',H',hs,hk⟩, .pass (x:= .inLoop p) rfl (fun _ _=> .inl (by simp)) harr⟩
      | goto l=>exact hq.elim
      | panic c=>exact⟨.panic c,a1,w1,hq, .pass (x:= .inLoop p) rfl (fun _ _=> .inl (by simp)) harr⟩
      | outgrown=>exact hq.elim
   obtain⟨e,a',w',hq,harr⟩:=key _ x0 hP0 rfl a w (hm0 _ _ _ hst)
   exact⟨e,a',w',hq, .of_steps (.one (fenced_calm hb hr rfl) stepR_loop) harr⟩
 | exit id=>
   intro hqu code hc K σ H a w hst hv
   rcases aV hc with⟨h,_⟩|⟨_,_,_,_,h,_⟩|⟨_,_,_,_,_,h⟩|⟨_,_,_,_,_,h,_⟩|⟨_,_,_,_,_,_,h,_⟩|⟨_,_,_,_,h,_⟩|⟨_,_,_,h,_⟩|⟨id',rfl,h⟩|⟨_,h⟩ <;> try (simp[be]at h;done)
   simp only[be,CC.exit.injEq]at h
   subst h
   exact wpIn_exit ⟨σ,H,hst,hv⟩
 | ret=>
   intro hqu code hc K σ H a w hst hv
   rcases aV hc with⟨h,_⟩|⟨_,_,_,_,h,_⟩|⟨_,_,_,_,_,h⟩|⟨_,_,_,_,_,h,_⟩|⟨_,_,_,_,_,_,h,_⟩|⟨_,_,_,_,h,_⟩|⟨_,_,_,h,_⟩|⟨_,_,h⟩|⟨rfl,h⟩ <;> try (simp[be]at h;done)
   exact wpIn_ret ⟨σ,H,hst,hv⟩
 | cut key c ih=>
   intro hqu code hc K σ H a w hst hv
   simp only[vc]at hv
   obtain⟨σ',H',hwk,hrest⟩:=hv
   exact ih hqu code hc K _ _ a w (hwk _ _ _ hst) hrest
 | keep ls lh c ih=>
   intro hqu code hc K σ H a w hst hv
   simp only[vc]at hv
   refine ih hqu code hc K _ _ a w ?_ hv
   obtain⟨hd,hN,tp,hw,hr⟩:=hst
   have hm:=hw.sub (Ej (l:=lh))
   refine⟨hd,hN,tp,hm.1,fun t=>hm.2 _ _ ?_⟩
   unfold iJ
   exact MK hr t
theorem NS(hS:∀f,Tri P f (S f).pt)(hmix:P.follows .mixedOrders=true){cc:CC}{code:Code}(hc:aA P im E.N code=some (be cc)){K:Ex->Sg->ab->Prop}{σ:Sg}{H:ab}{a:Act}{w:World}
 (hst:St E σ H a w) (hv:vc S cc K σ H):code.wpIn (RF l) n P (qhj E K) a w:=
 wpIn_mono (UU (z:=OT) hmix cc (mu hS cc) code hc K σ H a w hst hv) fun _ _ _ h=>h.no
end
end Go.Gv
