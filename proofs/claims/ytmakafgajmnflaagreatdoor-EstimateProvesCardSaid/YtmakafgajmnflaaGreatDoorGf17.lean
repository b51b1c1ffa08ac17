/- I8 -/
import Derived.OrdersIn
import Derived.TacticsIn
import Derived.Test.YtmakafgajmnflaaGreatDoorGf16
set_option linter.all false
set_option maxRecDepth 100000
set_option maxHeartbeats 0
open Bool renaming forall_bool → fB', exists_bool → eB'
namespace Go.Proofs
open Go.RowKit Go.Shelf Go.Gv
attribute [local go_sem] Oper.semAt_some
set_option maxRecDepth 100000 in
set_option maxHeartbeats 2000000 in
def Tryz.units_in(F:Fence)(n:Nat)(h95:F.fn 251)(hro:F.round=none)(s:ByteArray)(w:World):
 CallsIn F n Tryz.prog 251 #[.string s] w λe w'=>
  e= .returned (.func (.func 274) #[] #[.pointer (some ⟨w.heap.size,0,none⟩)])/\w'=w.alloc (.cells #[.string s] au):=by
 refine callsIn_of_wp Tryz.func251 rfl h95 ?_ hro;simp only[Tryz.ntmps251,List.size_toArray,List.length_cons,List.length_nil,Nat.reduceAdd,Nat.reduceSub,Array.replicate_succ,Array.replicate_zero,List.push_toArray,List.append_toArray,List.nil_append,List.cons_append]
 gi_wp2
 all_goals go_ret
 exact⟨rfl,rfl⟩
def R1{P:Program}(W:World)(Bi:Nat)(s:ByteArray)(pos:Nat)(ty:TypeId)(hB:W.heap[Bi]? =some (.stringIter s pos))(h:pos<s.size)(ha:(s[pos]'h).toNat< 128):
 (Instr.next (.pointer (some ⟨Bi,0,none⟩)) true ty).run P W= .ok (.tuple #[.bool true, .int .i64 pos, .int .i32 (s[pos]'h).toNat]) (W.putObj Bi (.stringIter s (pos+1))):=by
 simp only[Instr.next,getObj,setObj,Sem.run_bind,Sem.run,hB,Result.andThen,h,if_true,decode_ascii s pos h ha];simp[goInt,Sem.run,hB,World.putObj]
def R2{P:Program}(W:World)(Bi:Nat)(s:ByteArray)(pos:Nat)(ty:TypeId)(hB:W.heap[Bi]? =some (.stringIter s pos))(h:¬pos<s.size):
 (Instr.next (.pointer (some ⟨Bi,0,none⟩)) true ty).run P W= .ok (.tuple #[.bool false]) W:=by
 simp[Instr.next,getObj,Sem.run,hB,h]
def ru{W:World}{b k:Nat}{xs:Array Value}{t:TypeId}{v:Value}(h:W.heap[b]? =some (.cells xs t (0,0))):(W.setCell ⟨b,k,none⟩ v).heap[b]? =some (.cells (xs.setIfInBounds k v) t (0,0)):=by
 simp[World.setCell,Array.getElem?_modify,h]
def GrL.setCell{B b k:Nat}{W:World}(hb:B<=b)(v:Value):GrL B W (W.setCell ⟨b,k,none⟩ v):=⟨rfl,rfl,rfl,by simp[World.setCell],λj hj=>Below.heap_setCell W ⟨b,k,none⟩ v j (by show j≠b;omega),Nat.le_refl _⟩
def rZ{W:World}{b k:Nat}{xs:Array Value}{t:TypeId}(h:W.heap[b]? =some (.cells xs t (0,0))):W.frozen? ⟨b,k,none⟩=false:=by simp[World.frozen?,h]
def bS{W:World}{b k:Nat}{xs:Array Value}{t:TypeId}{v:Value}(h:W.heap[b]? =some (.cells xs t (0,0)))(hk:xs[k]? =some v):W.cell? ⟨b,k,none⟩=some v:=by simp[World.cell?,h,hk]
theorem qAg{B C b i:Nat}{W:World}{x0 x1 x2:Value}{t:TypeId}{o:Obj}(hb:W.heap[b]? =some (.cells #[x0,x1,x2] t (0,0)))(hi:W.heap[i]? =some o)(hne:i≠b)(hB:B<=b)(hC:b<C)(y0 y1 y2:Value):
 (((W.setCell ⟨b,0,none⟩ y0).setCell ⟨b,1,none⟩ y1).setCell ⟨b,2,none⟩ y2).heap[b]? =some (.cells #[y0,y1,y2] t (0,0))/\(((W.setCell ⟨b,0,none⟩ y0).setCell ⟨b,1,none⟩ y1).setCell ⟨b,2,none⟩ y2).heap[i]? =some o/\GrR B C W (((W.setCell ⟨b,0,none⟩ y0).setCell ⟨b,1,none⟩ y1).setCell ⟨b,2,none⟩ y2):=by
 have hlt:=(Array.getElem?_eq_some_iff.1 hb).1;refine⟨ru (ru (ru hb)),?_,((GrR.set _ hB hC (by omega) y0).trans (GrR.set _ hB hC (by simp[World.setCell];omega) y1)).trans (GrR.set _ hB hC (by simp[World.setCell];omega) y2)⟩;rw[Below.heap_setCell _ _ _ _ hne,Below.heap_setCell _ _ _ _ hne,Below.heap_setCell _ _ _ _ hne];exact hi
def qcq(s:ByteArray)(k:Nat):Array Value:= #[.agg #[.int .i32 (((s.data.toList[k]?).map λc=>(c.toNat:Int)).getD 0), .int .i64 (k:Int), .int .i64 1]]
set_option maxRecDepth 100000 in
set_option maxHeartbeats 4000000 in
theorem Tryz.units1_it(F:Fence)(n:Nat)(h128:F.fn 274)(hro:F.round=none)(hn:1<=n)(s:ByteArray)(hs:s.size<=100000)(ha:∀(k:Nat) (h:k<s.size),(s[k]'h).toNat< 128)(S:Nat->Prop)(Bs:Nat)(hBs:S Bs)(w:World)(hS:∀k,S k->k<w.heap.size)(hB:w.cell? ⟨Bs,0,none⟩=some (.string s)):
 qs4 F n Tryz.prog 274 #[.pointer (some ⟨Bs,0,none⟩)] s.size (qcq s) S 2 w:=by
 intro l J Jx W hW hsz hJ hY h0;have hB':W.cell? ⟨Bs,0,none⟩=some (.string s):=by
  rw[World.cell?_of_block (hW.block Bs (hS Bs hBs) (.inl hBs))];exact hB
 show CallsIn F n Tryz.prog 274 #[.func (.yield l) #[] #[], .pointer (some ⟨Bs,0,none⟩)] W _;refine callsIn_of_wp Tryz.func274 rfl h128 ?_ hro;simp only[Tryz.ntmps274,List.size_toArray,List.length_cons,List.length_nil,Nat.reduceAdd,Nat.reduceSub,Array.replicate_succ,Array.replicate_zero,List.push_toArray,List.append_toArray,List.nil_append,List.cons_append];have hBW:Bs<W.heap.size:=Nat.lt_of_lt_of_le (hS Bs hBs) hsz;have hBx:∀o,(W.alloc o).cell? ⟨Bs,0,none⟩=some (.string s):=λo=>by
  rw[World.cell?_of_block (Below.heap_alloc W o Bs hBW)];exact hB'
 gi_wp2
 gi_loopw [] (λwr=>∃p:Nat,p<=s.size/\wr.heap[W.heap.size+1]? =some (.stringIter s p)/\(∃r sz:Int,(0<p->r=((s.data.toList[p -1]?).map λc=>(c.toNat:Int)).getD 0)/\wr.heap[W.heap.size]? =some (.cells #[.int .i32 r, .int .i64 ((p:Int) -1), .int .i64 sz] 290 (0,0)))/\J (p -1) wr/\W.heap.size+2<=wr.heap.size/\wr.heap[Bs]? =W.heap[Bs]?) (λwr=>s.size -wr.iterPos (W.heap.size+1))
 case atStart=>
  have hz:(W.alloc (.cells #[.int .i32 0, .int .i64 (-1), .int .i64 0] 290)).heap.size=W.heap.size+1:=by simp
  refine⟨0,Nat.zero_le _,?_,⟨0,0,λh=>by omega,?_⟩,?_,?_,?_⟩
  ·rw[<-hz];exact World.iter_heap _ _ _
  ·exact(Below.heap_alloc _ _ _ (by simp)).trans (World.alloc_heap_new W _)
  ·exact hJ 0 _ _ ((GrR.alloc W (Nat.le_refl _) _).trans (GrR.alloc _ (by simp) _)) h0
  ·simp[World.iter]
  ·exact(Below.heap_alloc _ _ _ (by simp;omega)).trans (Below.heap_alloc W _ Bs hBW)
 case round=>
  obtain⟨p,hp,hBi,⟨r,sz,hr,hBu⟩,hJp,hsz2,hbs⟩:=hrel;by_cases hlt:p<s.size
  ·have hnx:∀ty,(Instr.next (.pointer (some ⟨W.heap.size+1,0,none⟩)) true ty).run Tryz.prog wr=_:=λty=>R1 wr (W.heap.size+1) s p ty hBi hlt (ha p hlt)
   obtain⟨W2,hW2⟩:∃W2,W2=wr.putObj (W.heap.size+1) (.stringIter s (p+1)):=⟨_,rfl⟩
   rw[<-hW2]at hnx;have hBu2:W2.heap[W.heap.size]? =some (.cells #[.int .i32 r, .int .i64 ((p:Int) -1), .int .i64 sz] 290 (0,0)):=by
    rw[hW2];exact(World.putObj_heap_other (by omega)).trans hBu
   have hBi2:W2.heap[W.heap.size+1]? =some (.stringIter s (p+1)):=by
    rw[hW2];exact World.putObj_heap_same (by omega)
   have hJ2:J (p -1) W2:=by rw[hW2];exact hJ _ _ _ (GrR.put _ (by omega) (by omega) (by omega) _) hJp
   have hbs2:W2.heap[Bs]? =W.heap[Bs]?:=by rw[hW2];exact(World.putObj_heap_other (by omega)).trans hbs
   have hsz3:W2.heap.size=wr.heap.size:=by rw[hW2];simp
   have c0:W2.cell? ⟨W.heap.size,0,none⟩=some (.int .i32 r):=by simp[World.cell?,hBu2]
   have c1:W2.cell? ⟨W.heap.size,1,none⟩=some (.int .i64 ((p:Int) -1)):=by simp[World.cell?,hBu2]
   have c2:W2.cell? ⟨W.heap.size,2,none⟩=some (.int .i64 sz):=by simp[World.cell?,hBu2]
   have f2:W2.frozen? ⟨W.heap.size,2,none⟩=false:=by simp[World.frozen?,hBu2]
   obtain⟨ch,hch⟩:∃ch,ch=(s[p]'hlt).toNat:=⟨_,rfl⟩
   rw[<-hch]at hnx;have hip:wr.iterPos (W.heap.size+1)=p:=by simp[World.iterPos,hBi]
   have hip2:W2.iterPos (W.heap.size+1)=p+1:=by simp[World.iterPos,hBi2]
   clear hW2;have hpi:(-9223372036854775808:Int)<=(p:Int) - ((p:Int) -1)/\(p:Int) - ((p:Int) -1)<=9223372036854775807:=by omega
   have hset:∀v,(W2.setCell ⟨W.heap.size,2,none⟩ v).heap[W.heap.size]? =some (.cells #[.int .i32 r, .int .i64 ((p:Int) -1),v] 290 (0,0)):=λv=>ru hBu2
   have hfr:∀v k,(W2.setCell ⟨W.heap.size,2,none⟩ v).frozen? ⟨W.heap.size,k,none⟩=false:=λv k=>rZ (hset v)
   by_cases hp0:p=0
   ·subst hp0
    gi_wp2
    refine⟨λ_ h=>(by cases h),?_⟩
    gi_wp2
    have h3:=hset (.int .i64 1);have h3i:(W2.setCell ⟨W.heap.size,2,none⟩ (.int .i64 1)).heap[W.heap.size+1]? =some (.stringIter s (0+1)):=(Below.heap_setCell _ _ _ _ (by simp)).trans hBi2;obtain⟨q1,q2,q3⟩:=qAg (B:=W.heap.size) (C:=W.heap.size+2) h3 h3i (by omega) (Nat.le_refl _) (by omega) (.int .i32 ((s[0]'hlt).toNat:Int)) (.int .i64 0) (.int .i64 0);have q4:=(GrR.set (C:=W.heap.size+2) (k:=2) W2 (Nat.le_refl W.heap.size) (by omega) (by omega) (.int .i64 1)).trans q3;refine⟨⟨0+1,by omega,q2,⟨((s[0]'hlt).toNat:Int),0,λ_=>?_,q1⟩,hJ _ _ _ q4 hJ2,by have:=q4.size;omega,(q4.toL.low Bs hBW).trans hbs2⟩,?_⟩
    ·have e:s.data.toList[0]? =some (s[0]'hlt):=by
      rw[List.getElem?_eq_getElem (by rw[Array.length_toList];exact hlt),Array.getElem_toList];rfl
     rw[Nat.add_sub_cancel,e];rfl
    ·rw[show((((W2.setCell ⟨W.heap.size,2,none⟩ (.int .i64 1)).setCell ⟨W.heap.size,0,none⟩ (.int .i32 ((s[0]'hlt).toNat:Int))).setCell ⟨W.heap.size,1,none⟩ (.int .i64 0)).setCell ⟨W.heap.size,2,none⟩ (.int .i64 0)).iterPos (W.heap.size+1)=1 from by simp[World.iterPos,q2],hip];omega
   have hp1:0<p:=by omega
   have e1:(p:Int) - ((p:Int) -1)=1:=by omega
   have h3:=hset (.int .i64 ((p:Int) - ((p:Int) -1)));obtain⟨W3,hW3⟩:∃W3,W3=W2.setCell ⟨W.heap.size,2,none⟩ (.int .i64 ((p:Int) - ((p:Int) -1))):=⟨_,rfl⟩
   have g3:GrR W.heap.size (W.heap.size+2) W2 W3:=by rw[hW3];exact GrR.set _ (Nat.le_refl W.heap.size) (by omega) (by omega) _
   have hJ3:J (p -1) W3:=hJ _ _ _ g3 hJ2;have h3i:W3.heap[W.heap.size+1]? =some (.stringIter s (p+1)):=by rw[hW3];exact(Below.heap_setCell _ _ _ _ (by simp)).trans hBi2
   rw[<-hW3]at h3;have hsz4:W.heap.size+2<=W3.heap.size:=by have:=g3.size;omega
   obtain⟨fn,tmps,assign,body,hy,hR⟩:=hY (p -1) W3 hJ3 (by omega) (by omega);have hue:qcq s (p -1)= #[.agg #[.int .i32 r, .int .i64 ((p:Int) -1), .int .i64 ((p:Int) - ((p:Int) -1))]]:=by
    unfold qcq;rw[<-hr hp1,e1,show((p -1:Nat):Int)=(p:Int) -1 by omega]
   rw[hue]at hy;rw[hW3]at hy hR;clear hr e1 hue
   gi_wp2
   refine hR.mono ?_;clear hy;rintro e W4 (⟨rfl,hJ4,hk4⟩|⟨rfl,hJx4⟩)
   ·rw[<-hW3]at hk4;have h4:W4.heap[W.heap.size]? =some (.cells #[.int .i32 r, .int .i64 ((p:Int) -1), .int .i64 ((p:Int) - ((p:Int) -1))] 290 (0,0)):=(hk4.block _ (by omega) (.inr (Nat.le_refl _))).trans h3;have h4i:W4.heap[W.heap.size+1]? =some (.stringIter s (p+1)):=(hk4.block _ (by omega) (.inr (by omega))).trans h3i;have h4s:W4.heap[Bs]? =W.heap[Bs]?:=((hk4.block _ (by omega) (.inl hBs)).trans (g3.toL.low Bs hBW)).trans hbs2;have hf4:∀k,W4.frozen? ⟨W.heap.size,k,none⟩=false:=λk=>rZ h4
    have k0:W4.cell? ⟨W.heap.size,0,none⟩=some (.int .i32 r):=bS h4 rfl;have k1:W4.cell? ⟨W.heap.size,1,none⟩=some (.int .i64 ((p:Int) -1)):=bS h4 rfl;have k2:W4.cell? ⟨W.heap.size,2,none⟩=some (.int .i64 ((p:Int) - ((p:Int) -1))):=bS h4 rfl;have h4z:W.heap.size+2<=W4.heap.size:=by have:=hk4.size;omega
    rw[show p -1+1=p by omega]at hJ4;clear hW3
    gi_wp2
    obtain⟨q1,q2,q3⟩:=qAg (B:=W.heap.size) (C:=W.heap.size+2) h4 h4i (by omega) (Nat.le_refl _) (by omega) (.int .i32 ((s[p]'hlt).toNat:Int)) (.int .i64 p) (.int .i64 0)
    go_roundw
    case rel=>
     refine⟨p+1,by omega,q2,⟨((s[p]'hlt).toNat:Int),0,λ_=>?_,?_⟩,hJ _ _ _ q3 hJ4,by have:=q3.size;omega,(q3.toL.low Bs hBW).trans h4s⟩
     ·have e:s.data.toList[p]? =some (s[p]'hlt):=by
       rw[List.getElem?_eq_getElem (by rw[Array.length_toList];exact hlt),Array.getElem_toList];rfl
      rw[Nat.add_sub_cancel,e];rfl
     ·rw[show(((p+1:Nat):Int) -1)=(p:Int)by omega];exact q1
    case measure=>
     rw[hip];simp only[World.iterPos,q2];omega
   ·clear hW3
    gi_wp2
    refine bodyPost_ret (results_none rfl _ _ _) rfl ?_;exact⟨⟨_,rfl⟩, .inr ⟨p -1,by omega,hJx4⟩⟩
  ·have hnx:∀ty,(Instr.next (.pointer (some ⟨W.heap.size+1,0,none⟩)) true ty).run Tryz.prog wr=_:=λty=>R2 wr (W.heap.size+1) s p ty hBi hlt
   have hpe:p=s.size:=by omega
   subst hpe;have hcs:wr.cell? ⟨Bs,0,none⟩=some (.string s):=by rw[World.cell?_of_block hbs];exact hB'
   have c1:wr.cell? ⟨W.heap.size,1,none⟩=some (.int .i64 ((s.size:Int) -1)):=bS hBu rfl;have f2:wr.frozen? ⟨W.heap.size,2,none⟩=false:=rZ hBu;have hset:∀v,(wr.setCell ⟨W.heap.size,2,none⟩ v).heap[W.heap.size]? =some (.cells #[.int .i32 r, .int .i64 ((s.size:Int) -1),v] 290 (0,0)):=λv=>ru hBu
   have hg:∀v,GrR W.heap.size (W.heap.size+2) wr (wr.setCell ⟨W.heap.size,2,none⟩ v):=λv=>GrR.set _ (Nat.le_refl _) (by omega) (by omega) v
   have c0:wr.cell? ⟨W.heap.size,0,none⟩=some (.int .i32 r):=bS hBu rfl;have c2:wr.cell? ⟨W.heap.size,2,none⟩=some (.int .i64 sz):=bS hBu rfl;have hsz': -9223372036854775808<=(s.size:Int) - ((s.size:Int) -1)/\(s.size:Int) - ((s.size:Int) -1)<=9223372036854775807:=by omega
   by_cases h00:s.size=0
   ·have hJ0:∀v,J s.size (wr.setCell ⟨W.heap.size,2,none⟩ v):=λv=>by
     have:=hJ _ _ _ (hg v) hJp;rwa [show s.size -1=s.size by omega]at this
    have i0:¬(0:Int)<=(s.size:Int) -1:=by omega
    clear hset hg hJp hr
    gi_wp2
    go_end0
    have hJ00:=hJ0 (.int .i64 1);rw[h00]at hJ00;exact⟨⟨_,rfl⟩,hJ00⟩
   have hJ3:J (s.size -1) (wr.setCell ⟨W.heap.size,2,none⟩ (.int .i64 ((s.size:Int) - ((s.size:Int) -1)))):=hJ _ _ _ (hg _) hJp;have hz3:=(hg (.int .i64 ((s.size:Int) - ((s.size:Int) -1)))).size;obtain⟨fn,tmps,assign,body,hy,hR⟩:=hY (s.size -1) _ hJ3 (by omega) (by omega);have hue:qcq s (s.size -1)= #[.agg #[.int .i32 r, .int .i64 ((s.size:Int) -1), .int .i64 ((s.size:Int) - ((s.size:Int) -1))]]:=by
    unfold qcq;rw[<-hr (by omega),show((s.size -1:Nat):Int)=(s.size:Int) -1 by omega,show(s.size:Int) - ((s.size:Int) -1)=1 by omega]
   rw[hue]at hy;clear hr hue
   gi_wp2
   refine hR.mono ?_;clear hy;have hl1:s.size -1<s.size:=by omega
   rintro e W4 (⟨rfl,hJ4,hk4⟩|⟨rfl,hJx4⟩)
   ·rw[show s.size -1+1=s.size by omega]at hJ4
    gi_wp2
    go_end0
    exact⟨⟨_,rfl⟩, .inl hJ4⟩
   ·gi_wp2
    go_end0
    exact⟨⟨_,rfl⟩, .inr ⟨_,hl1,hJx4⟩⟩
end Go.Proofs
namespace Go.Proofs
open Go.RowKit Go.Shelf Go.Gv
attribute [local go_sem] Oper.semAt_some
def Pw(s:ByteArray)(k:Nat):Int:=((s.data.toList[k]?).map λc=>(c.toNat:Int)).getD 0
set_option maxRecDepth 100000 in
set_option maxHeartbeats 2000000 in
def Tryz.unit_valid_x(F:Fence)(n:Nat)(h132:F.fn 252)(hro:F.round=none)(r a z:Int)(hr:0<=r)(hr2:r< 128)(w:World):
 CallsIn F n Tryz.prog 252 #[.agg #[.int .i32 r, .int .i64 a, .int .i64 z]] w λe w'=>
  e= .returned (.bool true)/\w'=w.alloc (.cells #[.int .i32 r, .int .i64 a, .int .i64 z] 290):=by
 refine callsIn_of_wp Tryz.func252 rfl h132 ?_ hro;simp only[Tryz.ntmps252,List.size_toArray,List.length_cons,List.length_nil,Nat.reduceAdd,Nat.reduceSub,Array.replicate_succ,Array.replicate_zero,List.push_toArray,List.append_toArray,List.nil_append,List.cons_append]
 gi_wp2
 go_ret
 exact⟨rfl,rfl⟩
def qlm{s:ByteArray}(ha:∀(k:Nat) (h:k<s.size),(s[k]'h).toNat< 128){k:Nat}(hk:k<s.size):0<=Pw s k/\Pw s k< 128:=by
 have e:s.data.toList[k]? =some (s[k]'hk):=by
  rw[List.getElem?_eq_getElem (by rw[Array.length_toList];exact hk),Array.getElem_toList];rfl
 have h:=ha k hk;unfold Pw;rw[e];show 0<=((s[k]'hk).toNat:Int)/\((s[k]'hk).toNat:Int)< 128;omega
def RB(s:ByteArray)(k:Nat):qcq s k= #[.agg #[.int .i32 (Pw s k), .int .i64 (k:Int), .int .i64 1]]:=rfl
set_option maxRecDepth 100000 in
set_option maxHeartbeats 4000000 in
theorem Tryz.Valid_in(F:Fence)(n:Nat)(h101:F.fn 208)(h95:F.fn 251)(h128:F.fn 274)(h132:F.fn 252)(hro:F.round=none)(hn:10<=n)(s:ByteArray)(hs:s.size<=100000)(ha:∀(k:Nat) (h:k<s.size),(s[k]'h).toNat< 128)(w:World):
 CallsIn F n Tryz.prog 208 #[.string s] w λe W'=>e= .returned (.bool true)/\GrL w.heap.size w W':=by
 have h1:1<=n:=by omega
 refine callsIn_of_wp_marks Tryz.func208 rfl h101 ?_ hro;simp only[Tryz.ntmps208,List.size_toArray,List.length_cons,List.length_nil,Nat.reduceAdd,Nat.reduceSub,Array.replicate_succ,Array.replicate_zero,List.push_toArray,List.append_toArray,List.nil_append,List.cons_append]
 gi_wp2_with (gi_at_call 251;refine(Tryz.units_in F (n -1) h95 hro _ _).mono ?_;rintro e w' ⟨rfl,rfl⟩)
 obtain⟨W0,hW0⟩:∃W0,(w.alloc (.cells #[.bool false] 4)).alloc (.cells #[.string s] au)=W0:=⟨_,rfl⟩
 rw[hW0];have hsz:W0.heap.size=w.heap.size+2:=by rw[<-hW0];simp
 have g0:GrL w.heap.size w W0:=by rw[<-hW0];exact(GrL.alloc w (Nat.le_refl _) _).trans (GrL.alloc _ (by simp) _)
 have b0:W0.heap[w.heap.size]? =some (.cells #[.bool false] 4 (0,0)):=by
  rw[<-hW0];exact(Below.heap_alloc _ _ _ (by simp)).trans (World.alloc_heap_new w _)
 have b1:W0.heap[w.heap.size+1]? =some (.cells #[.string s] au (0,0)):=by
  have h:=World.alloc_heap_new (w.alloc (.cells #[.bool false] 4)) (.cells #[.string s] au);rw[World.size_alloc]at h;rw[<-hW0];exact h
 clear hW0;have hcs:W0.cell? ⟨w.heap.size+1,0,none⟩=some (.string s):=bS b1 rfl;refine R5 hro h1 (gf:=274) (lb:= #[.pointer (some ⟨w.heap.size+1,0,none⟩)]) rfl h128 (enters_of Tryz.func274 (by kernel_rfl) rfl)
  (Tryz.units1_it F (n -1) h128 hro (by omega) s hs ha (λk=>k<W0.heap.size) (w.heap.size+1) (by omega) W0 (λ_ h=>h) hcs) (λ_ h=>h) (λ_=>rfl)
  (λk W=>GrL w.heap.size w W/\W.heap[w.heap.size]? =some (.cells #[.bool false] 4 (0,0)))
  (λ_ _=>False)
  (λk A C hs hg0=>have hg:=hg0.toL;⟨hs.1.trans (hg.mono (by omega)),(hg.low _ (by omega)).trans hs.2⟩)
  (λ_ _ _ hs _=>hs)
  ⟨g0,b0⟩
  (λk a' W=>∃Br,W0.heap.size+2<=Br/\W.heap[Br]? =some (.cells #[.int .i32 (Pw s k), .int .i64 (k:Int), .int .i64 1] 290 (0,0))/\
    a'={ tmps:= #[.string s,undef, .pointer (some ⟨w.heap.size,0,none⟩), .pointer (some ⟨Br,0,none⟩), .string s, .func (.func 274) #[] #[.pointer (some ⟨w.heap.size+1,0,none⟩)], .agg #[.int .i32 (Pw s k), .int .i64 (k:Int), .int .i64 1],undef,undef,undef],defers:=[] })
  (λa' k W o hlt hs=>by
    obtain⟨Br,q1,q2,q3⟩:=hs;exact⟨Br,q1,(World.putObj_heap_other (by omega)).trans q2,q3⟩)
  ?assign ?body ?done ?stop
 case assign=>
  rintro l k W hsz2 hl ⟨i1,i2⟩ hk;rw[RB];generalize Pw s k=c
  gi_wp2
  exact⟨(KeepsOthers.alloc _ _).from _,KBt.alloc _ _ _ _,⟨i1.trans (GrL.alloc W i1.size _),(Below.heap_alloc _ _ _ (by omega)).trans i2⟩,W.heap.size,by omega,World.alloc_heap_new W _,rfl⟩
 case body=>
  rintro l k a' W hsz2 hl ⟨i1,i2⟩ ⟨Br,hBr,bR,rfl⟩ hk;obtain⟨c0,c1⟩:=qlm ha hk;generalize Pw s k=c at bR c0 c1;have r0:W.cell? ⟨Br,0,none⟩=some (.int .i32 c):=bS bR rfl;have r1:W.cell? ⟨Br,1,none⟩=some (.int .i64 (k:Int)):=bS bR rfl;have r2:W.cell? ⟨Br,2,none⟩=some (.int .i64 1):=bS bR rfl;have hn2:1<=n -1 -1:=by omega
  gi_wp2_with (gi_at_call 252;refine(CallsIn.inRound l (Tryz.unit_valid_x F _ h132 hro _ _ _ c0 c1 _)).mono ?_;rintro e w' ⟨rfl,rfl⟩)
  exact⟨(KeepsOthers.alloc _ _).from _,KBt.alloc _ _ _ _,i1.trans (GrL.alloc W i1.size _),(Below.heap_alloc _ _ _ (by omega)).trans i2⟩
 case done=>
  rintro D W hD ⟨i1,i2⟩ hK;have q0:W.cell? ⟨w.heap.size,0,none⟩=some (.bool false):=bS i2 rfl;have q1:W.frozen? ⟨w.heap.size,0,none⟩=false:=rZ i2
  gi_wp2
  have hK2:(W.setCell ⟨w.heap.size,0,none⟩ (.bool true)).heap[D]? =some (.deferred (some [])):=(Below.heap_setCell _ _ _ _ (by show D≠w.heap.size;omega)).trans hK;refine⟨by simp, .inl ⟨_,_,rfl,run_takeDeferred hK2,?_⟩⟩;have i3:(W.setCell ⟨w.heap.size,0,none⟩ (.bool true)).heap[w.heap.size]? =some (.cells #[.bool true] 4 (0,0)):=ru i2;have i4:((W.setCell ⟨w.heap.size,0,none⟩ (.bool true)).putObj D (.deferred none)).heap[w.heap.size]? =some (.cells #[.bool true] 4 (0,0)):=(World.putObj_heap_other (by omega)).trans i3;have g4:GrL w.heap.size w ((W.setCell ⟨w.heap.size,0,none⟩ (.bool true)).putObj D (.deferred none)):=(i1.trans (GrL.setCell (Nat.le_refl _) _)).trans (GrL.put _ (by omega) _);have k4:=bS (k:=0) i4 rfl;have hres:∀tmps:Array Value,tmps[2]? =some (.pointer (some ⟨w.heap.size,0,none⟩))->(results Tryz.f208 tmps).run Tryz.prog ((W.setCell ⟨w.heap.size,0,none⟩ (.bool true)).putObj D (.deferred none))= .ok (.bool true) ((W.setCell ⟨w.heap.size,0,none⟩ (.bool true)).putObj D (.deferred none)):=λtmps ht=>by
   simp[results,Tryz.f208,go_sem,k4,ht]
  exact⟨_,hres _ rfl,rfl,g4⟩
 case stop=>
  rintro D k W _ _ h _;exact h.elim
end Go.Proofs
namespace Go.Gv
section
open Go.RowKit
open Cod (enc dec)
variable {dq:Prop}
theorem YA{P:Program}{f:Nat}{X Y:Type}{A:dN X}{pre:X->Prop}{er:Y->D}{post:X->Y->Prop}(u:dj P f)
 (h:∀ (tp I:Nat->Prop) (w:World) (vs:List Value) (x:X),pre x->(∀p∈iU,∃(el:Nat) (z:Nat×Nat),w.heap[p.1]? =some (.cells p.2 el z))->(∀b,I b->b<w.heap.size)->vs.length=(A.view x).length->
   (∀(k:Nat) (v:Value) (d:D),vs[k]? =some v->(A.view x)[k]? =some d->R tp I w v d)->
   Calls P f vs.toArray w λe w'=>∃v y,e= .returned v/\post x y/\(∀C L,R C L w' v (er y))/\Below w.heap.size w w'/\w.drawn<=w'.drawn):Tri dq P f (aJ A pre er post).pt:=by
 intro O tp w vs ds H d K hO j a hlen l s;rw[su]at s;cases E:A.dec ds with
 |none=>rw[E]at s;exact s.elim
 | some x=>
   rw[E]at s;obtain⟨hp,M⟩:=s;have t:=A.le ds x E;refine⟨u,(h tp (aN O tp H w) w vs x hp (λp hp=>(j.2 p hp).2.2) (λb hb=>hb.1) (by rw[hlen,t.1]) (λk v d h1 h2=>?_)).mono ?_⟩
   ·have F:k<ds.length:=by rw[<-hlen];exact(qCd.1 h1).1
    have he:=qCe F;exact(t.2 k _ d he h2).R (H:=bV) (λi r h=>by cases h) (λ_ h=>h) (λi r b h=>by cases h) (l k _ _ h1 he)
   ·rintro e w' ⟨v,y,rfl,N,Q,hb,J⟩;have q:∀y e,R tp (aN O tp H w) w y e->R tp (aN O tp H w') w' y e:=λy e S=>
     S.mono (λ_ h=>h) (λb c=>⟨⟨qCt c.1 hb.size,c.2⟩,hb.block b c.1⟩) (λb c=> .same (hb.block b (j.1 b c)))
    exact⟨v,er y,H,tp,rfl,M y N,λ_ h=>h,λ_ h=> .inl h,λb h=>qCt (j.1 b h) hb.size,
     ⟨hb.os,hb.tape,hb.output,hb.size,λb h1 _ _=>hb.block b h1,λb h=> .same (hb.block b (j.1 b h)),λ_=>J⟩,λ_ h=> .inl h,
     ⟨a.dis,a.out,λi r h1=>(a.ok i r h1).conv q λb h2=>hb.block b ((a.ok i r h1).lt h2)⟩,Q _ _⟩
def tU{P:Program}{f:Nat}{X Y:Type}{A:dN X}{pre:X->Prop}{er:Y->D}{post:X->Y->Prop}(a:dj P f)
 (h:∀ (tp I:Nat->Prop) (w:World) (vs:List Value) (x:X),pre x->(∀b,I b->b<w.heap.size)->vs.length=(A.view x).length->
   (∀(k:Nat) (v:Value) (d:D),vs[k]? =some v->(A.view x)[k]? =some d->R tp I w v d)->
   Calls P f vs.toArray w λe w'=>∃v y,e= .returned v/\post x y/\(∀c j,R c j w' v (er y))/\Below w.heap.size w w'/\w.drawn<=w'.drawn):Tri dq P f (aJ A pre er post).pt:=
 YA a λtp I w vs x hp _ hI hl l=>h tp I w vs x hp hI hl l
def Fw{tp I:Nat->Prop}{w:World}{x y:Value}(h:R tp I w x (.v y)):x=y:=by cases h;rfl
end
section
abbrev RF(l:Nat):Fence:=Fence.wide.inRound l
section
variable {P:Program}{l n:Nat}
def YT{row:String}{args:Array Value}{w:World}{R:Value->World->Prop}(h:Rows P row args w R):RowsIn (RF l) n P row args w R:=λc cs _=>
 let ⟨v,w',r,s⟩:=h c cs
 ⟨v,w',r,stepsIn_wide.2 s⟩
def Xz{f:FuncId}{args:Array Value}{w:World}{R:Ending->World->Prop}(h:Calls P f args w R):CallsIn (RF l) n P f args w R:=(callsIn_wide.2 h).inRound l
theorem VM{o:Oper}(b:∀c,o.op≠ .defer c){a:Act}{w:World}{K:Act->World->Prop}{Q:Exit->Act->World->Prop}(h:o.wp P a w K Q):o.wpIn (RF l) n P a w K Q:=by
 refine⟨λ_ _=>trivial,?_⟩;rw[Oper.semAt_eq _ _ _ b];unfold Oper.wp at h;generalize (execOp a.eval o).run P w=r at*;cases r with
 | ok x w'=>
   cases x<;>simp only[Oper.upon,Oper.uponIn]at h ⊢ <;>first
    |exact h
    |exact⟨λh=>absurd (show false=true from h) (by decide),CallsIn.mono (Xz h) (λe d he=>by omega)⟩
    |exact⟨λh=>absurd (show false=true from h) (by decide),YT h⟩
    |exact h.elim
 |halt x w'=>cases x<;>simp only[Oper.upon,Oper.uponIn]at h ⊢ <;>exact h
theorem CJ{k:Region.Mode}{ops:Array Oper}{Q:Exit->Act->World->Prop}(b:∀o∈ops,∀c,o.op≠ .defer c)(d:¬LetsOut Q):
 ∀(fuel:Nat) (listed:Array Bool) (a:Act) (w:World),wpAny P k ops Q fuel listed a w->wpAnyIn (RF l) n P k ops Q fuel listed a w
 | 0,listed,a,w,h=>h
 | fuel+1,listed,a,w,h=>by
   refine⟨h.1,λi hi=>?_⟩;have h:=h.2 i hi;unfold wpOp at h;unfold wpOpIn;split
   ·rename_i e;rw[e]at h;exact CJ b d fuel _ _ _ h
   ·rename_i o e;rw[e]at h;simp only at h;have ho:o∈ops:=Array.mem_of_getElem? e;split
    ·rename_i j;rw[if_pos j]at h;rcases h with h|⟨_,h⟩
     ·exact VM (b o ho) (Oper.wp_mono (λa w h=>CJ b d fuel _ _ _ h) h)
     grind
    ·rename_i j;rw[if_neg j]at h;exact⟨λ_ _=>trivial,CJ b d fuel _ _ _ h⟩
def M7{ops:Array Oper}{Q:Exit->Act->World->Prop}(j:¬LetsOut Q):
 ∀(os:List Oper) (b:∀o∈os,∀c,o.op≠ .defer c) (a:Act) (w:World),wpList P ops Q os a w->wpListIn (RF l) n P ops Q os a w
 | [],b,a,w,h=>h
 | o::os,b,a,w,h=>by
   have k:=M7 (ops:=ops) j os λo ho=>b o (by grind)
   unfold wpList at h;unfold wpListIn;split
   ·rename_i d;rw[if_pos d]at h;grind [VM,Oper.wp_mono]
   ·rename_i d;rw[if_neg d]at h;exact⟨λ_ _=>trivial,k _ _ h⟩
end
section
variable {P:Program}{S:Nat->Spc}{im:List Nat}{E:AF}{l n:Nat}
theorem KN{o:Oper}{c:COp}(h:cQ P im o=some c):∀q,o.op≠ .defer q:=by
 grind [cQ]
def JJ{N:Nat}{ops:Array Oper}{cis:List CI}(h:kQ P im N ops=some cis):∀o∈ops,∀q,o.op≠ .defer q:=by
 intro o ho;obtain⟨hl,a⟩:=vj h;grind [Array.mem_iff_getElem?,gZ,KN]
def qmb{z:List PanicEntry->Prop}{K:Ex->Sg->ab->Prop} :¬LetsOut (PostZ E z K):=by
 rintro⟨a,w,h⟩;exact h
theorem qcl{z:List PanicEntry->Prop}(hmix:P.follows .mixedOrders=true)(cc:CC):Gw E.dq P z S cc->∀(code:Code),ay P im E.N code=some (bH cc)->∀(K:Ex->Sg->ab->Prop) (u:Sg) (H:ab) (a:Act) (w:World),
 St E u H a w->vc S cc K u H->code.wpIn (RF l) n P (PostZ E z K) a w:=by
 induction cc with
 | skip=>
   intro j code hc K u H a w d r;rcases bq hc with⟨_,h⟩|⟨_,_,_,_,h,_⟩|⟨_,_,_,_,_,h⟩|⟨_,_,_,_,_,h,_⟩|⟨_,_,_,_,_,_,h,_⟩|⟨_,_,_,_,h,_⟩|⟨_,_,_,h,_⟩|⟨_,_,h⟩|⟨_,h⟩ <;>try (simp[bH]at h;done)
   rcases h with rfl|⟨l,rfl⟩
   ·exact wpIn_skip ⟨u,H,d,r⟩
   ·exact wpIn_label ⟨u,H,d,r⟩
 | reg l=>
   intro j code hc K u H a w d r;rcases bq hc with⟨h,_⟩|⟨id,ops,l',rfl,h,hl⟩|⟨_,_,_,_,_,h⟩|⟨_,_,_,_,_,h,_⟩|⟨_,_,_,_,_,_,h,_⟩|⟨_,_,_,_,h,_⟩|⟨_,_,_,h,_⟩|⟨_,_,h⟩|⟨_,h⟩ <;>try (simp[bH]at h;done)
   simp only[bH,CC.reg.injEq]at h;subst h;refine wpIn_region_list (M7 qmb _ (λo ho=>JJ hl o (by grind)) _ _ ?_);exact PM (im:=im) (Q:=PostZ E z K) (K:=K .norm) (λc a w' h1 h2=>⟨h1,h2⟩) (λu H a w hs hk=>⟨u,H,hs,hk⟩) l j ops.toList hl u H a w d r
 | regd pre tl=>
   intro j code hc K u H a w d r;rcases bq hc with⟨h,_⟩|⟨_,_,_,_,h,_⟩|⟨id,ops,pre',tl',rfl,h⟩|⟨_,_,_,_,_,h,_⟩|⟨_,_,_,_,_,_,h,_⟩|⟨_,_,_,_,h,_⟩|⟨_,_,_,h,_⟩|⟨_,_,h⟩|⟨_,h⟩ <;>try (simp[bH]at h;done)
   have hc2:=hc;simp only[ay,qCf,qCc]at hc2;obtain⟨cis,hcis,_⟩:=hc2;exact wpIn_region_any hmix (CJ (JJ hcis) qmb _ _ _ _ (Xa j.1 j.2.1 j.2.2 hc d r))
 | seq x y M O=>
   intro j code hc K u H a w d r;rcases bq hc with⟨h,_⟩|⟨_,_,_,_,h,_⟩|⟨_,_,_,_,_,h⟩|⟨p,q,x',y',rfl,h,U,hy⟩|⟨_,_,_,_,_,_,h,_⟩|⟨_,_,_,_,h,_⟩|⟨_,_,_,h,_⟩|⟨_,_,h⟩|⟨_,h⟩ <;>try (simp[bH]at h;done)
   simp only[bH,CC.seq.injEq]at h;obtain⟨rfl,rfl⟩:=h;refine wpIn_seq (wpIn_mono (M j.1 p U _ u H a w d r) ?_);intro e W w' hp;cases e with
   | normal=>
     obtain⟨A,H',hs,hk⟩:=hp;exact O j.2 q hy K A H' W w' hs hk
   |exit id=>exact hp
   |ret=>exact hp
   |goto l=>exact hp
   |panic c=>exact hp
   |outgrown=>exact hp
 | ite q x y M O=>
   intro j code hc K u H a w d r;rcases bq hc with⟨h,_⟩|⟨_,_,_,_,h,_⟩|⟨_,_,_,_,_,h⟩|⟨_,_,_,_,_,h,_⟩|⟨q',p1,p2,x',y',rfl,h,I,U,hy⟩|⟨_,_,_,_,h,_⟩|⟨_,_,_,h,_⟩|⟨_,_,h⟩|⟨_,h⟩ <;>try (simp[bH]at h;done)
   simp only[bH,CC.ite.injEq]at h;obtain⟨rfl,rfl,rfl⟩:=h;simp only[vc]at r;have L:=d;obtain⟨hd,hN,tp,hw,Y⟩:=d;have hqr:=Zu Y q I;split at r
   ·rename_i t e1;rw[e1]at hqr;refine wpIn_cond_split hqr.inv_v (λh=>?_) (λh=>?_)
    ·exact M j.1 p1 U K u H a w L (r.1 h)
    ·exact O j.2 p2 hy K u H a w L (r.2 h)
   grind
 | block id b Z=>
   intro j code hc K u H a w d r;rcases bq hc with⟨h,_⟩|⟨_,_,_,_,h,_⟩|⟨_,_,_,_,_,h⟩|⟨_,_,_,_,_,h,_⟩|⟨_,_,_,_,_,_,h,_⟩|⟨id',p,x',rfl,h,U⟩|⟨_,_,_,h,_⟩|⟨_,_,h⟩|⟨_,h⟩ <;>try (simp[bH]at h;done)
   simp only[bH,CC.block.injEq]at h;obtain⟨rfl,rfl⟩:=h;refine wpIn_block (wpIn_mono (Z j p U _ u H a w d r) ?_);intro e W w' hp;cases e with
   |normal=>exact hp
   | exit i=>
     obtain⟨A,H',hs,hk⟩:=hp;simp only[Exit.inBlock];by_cases hi:i=id
     ·simp only[if_pos hi]at hk ⊢;exact⟨A,H',hs,hk⟩
     ·simp only[if_neg hi]at hk ⊢;exact⟨A,H',hs,hk⟩
   |ret=>exact hp
   |goto l=>exact hp
   |panic c=>exact hp
   |outgrown=>exact hp
 | loop key b Z=>
   intro j code hc K u H a w d r;rcases bq hc with⟨h,_⟩|⟨_,_,_,_,h,_⟩|⟨_,_,_,_,_,h⟩|⟨_,_,_,_,_,h,_⟩|⟨_,_,_,_,_,_,h,_⟩|⟨_,_,_,_,h,_⟩|⟨p,x',rfl,h,U⟩|⟨_,_,h⟩|⟨_,h⟩ <;>try (simp[bH]at h;done)
   simp only[bH,CC.loop.injEq,true_and]at h;subst h;simp only[vc]at r;obtain⟨F,⟨x0,hP0,hm0⟩,J⟩:=r;intro fr k cs hro hb Y;have key:∀(m:Nat) (x:F.X),F.P x->F.m x=m->∀a w,St E (F.s x) (F.h x) a w->
    ∃e W w',PostZ E z K e W w'/\ArrivesIn (Machine.fenced P (RF l)) P (lone (fr.atR a (.code p:: .inLoop p::k)) cs w) fr k cs e W w':=by
    intro m
    induction m using Nat.strongRecOn with
    | _ m ihn=>
      intro x hP hm a w d;obtain⟨e,a1,w1,I,C⟩:=Z j p U _ _ _ a w d (J x hP) fr (.inLoop p::k) cs hro hb Y;cases e with
      | normal=>
        obtain⟨A,H',hs,y,hPy,hy1,hlt⟩:=I;obtain⟨e2,a2,w2,hq2,harr2⟩:=ihn (F.m y) (by omega) y hPy rfl a1 w1 (hy1 _ _ _ hs);exact⟨e2,a2,w2,hq2, .of_steps (StepsIn.trans C (.one (fenced_calm hb Y rfl) stepR_inLoop)) harr2⟩
      | exit id=>
        obtain⟨A,H',hs,hk⟩:=I;exact⟨.exit id,a1,w1,⟨A,H',hs,hk⟩, .pass (x:= .inLoop p) rfl (λ_ _=> .inl (by simp)) C⟩
      | ret=>
        obtain⟨A,H',hs,hk⟩:=I;exact⟨.ret,a1,w1,⟨A,H',hs,hk⟩, .pass (x:= .inLoop p) rfl (λ_ _=> .inl (by simp)) C⟩
      |goto l=>exact I.elim
      |panic c=>exact⟨.panic c,a1,w1,I, .pass (x:= .inLoop p) rfl (λ_ _=> .inl (by simp)) C⟩
      |outgrown=>exact I.elim
   obtain⟨e,W,w',I,C⟩:=key _ x0 hP0 rfl a w (hm0 _ _ _ d);exact⟨e,W,w',I, .of_steps (.one (fenced_calm hb Y rfl) stepR_loop) C⟩
 | exit id=>
   intro j code hc K u H a w d r;rcases bq hc with⟨h,_⟩|⟨_,_,_,_,h,_⟩|⟨_,_,_,_,_,h⟩|⟨_,_,_,_,_,h,_⟩|⟨_,_,_,_,_,_,h,_⟩|⟨_,_,_,_,h,_⟩|⟨_,_,_,h,_⟩|⟨id',rfl,h⟩|⟨_,h⟩ <;>try (simp[bH]at h;done)
   simp only[bH,CC.exit.injEq]at h;subst h;exact wpIn_exit ⟨u,H,d,r⟩
 | ret=>
   intro j code hc K u H a w d r;rcases bq hc with⟨h,_⟩|⟨_,_,_,_,h,_⟩|⟨_,_,_,_,_,h⟩|⟨_,_,_,_,_,h,_⟩|⟨_,_,_,_,_,_,h,_⟩|⟨_,_,_,_,h,_⟩|⟨_,_,_,h,_⟩|⟨_,_,h⟩|⟨rfl,h⟩ <;>try (simp[bH]at h;done)
   exact wpIn_ret ⟨u,H,d,r⟩
 | cut key c Z=>
   intro j code hc K u H a w d r;simp only[vc]at r;obtain⟨A,H',hwk,hrest⟩:=r;exact Z j code hc K _ _ a w (hwk _ _ _ d) hrest
 | keep ls lh c Z=>
   intro j code hc K u H a w d r;simp only[vc]at r;refine Z j code hc K _ _ a w ?_ r;obtain⟨hd,hN,tp,hw,Y⟩:=d;have hm:=hw.sub (IC (l:=lh));refine⟨hd,hN,tp,hm.1,λt=>hm.2 _ _ ?_⟩;unfold ja;exact SK Y t
def Uu(j:∀f,Tri E.dq P f (S f).pt)(b:P.follows .mixedOrders=true){cc:CC}{code:Code}(hc:ay P im E.N code=some (bH cc)){K:Ex->Sg->ab->Prop}{c:Sg}{H:ab}{a:Act}{w:World}
 (d:St E c H a w) (k:vc S cc K c H):code.wpIn (RF l) n P (qpf E K) a w:=
 wpIn_mono (qcl (z:=VZ) b cc (oz j cc) code hc K c H a w d k) λ_ _ _ h=>h.no
end
open Go.Proofs
variable {dq:Prop}
def qc3:Nat->Prop:=λ_=>False
def KM(W:World)(H:ab)(N:Nat)(ds:List Deferred):AF:=⟨qc3,qc3,W,bz H,N,ds,True⟩
def qwN{W:World}{H:ab}{a:Act}{c:Sg}(d:iU=[])(dis:∀i j r s b,H i=some r->H j=some s->r.blk=some b->s.blk=some b->i=j)
 (ok:∀i r,H i=some r->ResOk (R qc3 (aN qc3 qc3 H W) W) W r) (k:∀t,R qc3 (aN qc3 qc3 H W) W (a.tmps.getD t undef) (c t)):
 St (KM W H a.tmps.size a.defers) c H a W:=
 ⟨rfl,rfl,qc3,⟨λb h=>h.elim,λb h=>h,λb h=> .inl h,⟨λb h=>h.elim,λp hp=>by rw[d]at hp;cases hp⟩, .refl _ _ _,λb h=> .inl h,⟨dis,λi r b _ _=>⟨λh=>h,λh=>h⟩,ok⟩⟩,k⟩
def Bx(W:World)(b:Nat)(xs:Array Value):Prop:=∃el,W.heap[b]? =some (.cells xs el (0,0))
def Bx.lt{W:World}{b:Nat}{xs:Array Value}(h:Bx W b xs):b<W.heap.size:=by
 obtain⟨el,h⟩:=h;exact(qCp.1 h).1
def Bx.of{W:World}{b:Nat}{xs:Array Value}{el:Nat}(h:W.heap[b]? =some (.cells xs el (0,0))):Bx W b xs:=⟨el,h⟩
def Bx.keep{W W':World}{b:Nat}{xs:Array Value}(h:Bx W b xs)(hk:W'.heap[b]? =W.heap[b]?):Bx W' b xs:=by
 obtain⟨el,h⟩:=h;exact⟨el,hk.trans h⟩
def Bx.cell{W:World}{b k:Nat}{xs:Array Value}{v:Value}(h:Bx W b xs)(hk:xs[k]? =some v):W.cell? ⟨b,k,none⟩=some v:=by
 obtain⟨el,h⟩:=h;simp[World.cell?,h,hk]
def Bx.fr{W:World}{b k:Nat}{xs:Array Value}(h:Bx W b xs):W.frozen? ⟨b,k,none⟩=false:=by
 obtain⟨el,h⟩:=h;simp[World.frozen?,h]
def Bx.box{W:World}{b:Nat}{Q:Value->D->Prop}{l:List Value}(h:Bx W b l.toArray)(h1:∀x∈l,x.oneCell'=true)(d:∀x∈l,Q x (.v x)):ResOk Q W (.box b (l.map .v)):=by
 obtain⟨el,h⟩:=h;refine⟨l.toArray,el,h,by simp,λk y c a hc=>?_⟩;rw[qCu]at hc;have a:l[k]? =some y:=a;rw[a]at hc;cases hc;have hm:=qCg a;exact⟨h1 y hm,d y hm⟩
def Bx.box1{W:World}{b:Nat}{Q:Value->D->Prop}{v:Value}(h:Bx W b #[v])(h1:v.oneCell'=true)(c:Q v (.v v)):ResOk Q W (.box b [.v v]):=
 h.box (l:=[v]) (λx a=>by rw[qDH.1 a];exact h1) (λx a=>by rw[qDH.1 a];exact c)
def Bx.cptr{tp I:Nat->Prop}{W:World}{b:Nat}(l:List Value)(h:Bx W b l.toArray)(hI:I b)(h1:∀x∈l,x.oneCell'=true/\R tp I W x (.v x)):R tp I W (.pointer (some ⟨b,0,none⟩)) (.cptr (l.map .v) 0):=by
 refine R.cptr b 0 (l.map .v) 0 (λk=>(l[k]?).getD undef) hI (λ_=>let ⟨el,h0⟩:=h;⟨_,el,h0⟩) (λk c hk=>?_) (λk c hk=>?_) (λk c hk=>?_)
 all_goals
  rw[qCu]at hk;obtain⟨x,a,rfl⟩:=qCn.1 hk
 ·rw[a,qCR];have d:l.toArray[k]? =some x:=by simpa using a
  exact h.cell d
 ·rw[a];exact(h1 x (qCg a)).1
 ·rw[a];exact(h1 x (qCg a)).2
def qoX{tp I:Nat->Prop}{W:World}{b:Nat}{l:List Value}(h:ResOk (R tp I W) W (.box b (l.map .v))):Bx W b l.toArray:=by
 obtain⟨xs,el,h1,h2,h3⟩:=h;refine⟨el,?_⟩;rw[h1];have hl:xs.toList=l:=by
  apply qCP;intro k;rw[qC6]at h2;by_cases hk:k<l.length
  ·have a:xs.toList[k]? =some (xs.toList[k]'(by simpa [h2]using hk)):=qCe _;have c:(l.map D.v)[k]? =some (.v l[k]):=by rw[qCu,qCe hk];rfl
   have:=(h3 k _ _ a c).2.inv_v;rw[a,qCe hk,this]
  ·rw[qCz (by simpa [h2]using hk),qCz (by omega)]
 rw[<-hl]
def K7{W W':World}{H H':ab}{N:Nat}{ds:List Deferred}{a:Sg}{b:Act}(h:St (KM W H N ds) a H' b W'):Step True qc3 (bz H) W W':=by
 obtain⟨_,_,tp,c,_⟩:=h;exact c.step
def qeK{W W':World}{H H':ab}{N:Nat}{ds:List Deferred}{a:Sg}{b:Act}(h:St (KM W H N ds) a H' b W'){i:Nat}{r:Res}(hi:H' i=some r):∃tp I,ResOk (R tp I W') W' r:=by
 obtain⟨_,_,tp,c,_⟩:=h;exact⟨_,_,c.sat.ok i r hi⟩
def yJ{W W':World}{H H':ab}{N:Nat}{ds:List Deferred}{a:Sg}{d:Act}(h:St (KM W H N ds) a H' d W'){i b:Nat}(l:List Value)(hi:H' i=some (.box b (l.map .v))):Bx W' b l.toArray:=by
 obtain⟨tp,I,c⟩:=qeK h hi;exact qoX c
def qnb{W W':World}{H H':ab}{N:Nat}{ds:List Deferred}{a:Sg}{c:Act}(h:St (KM W H N ds) a H' c W'){b:Nat}(hb:bz H' b):bz H b\/W.heap.size<=b:=by
 obtain⟨_,_,tp,d,_⟩:=h;exact d.loc b hb
def qnc{W W':World}{H H':ab}{N:Nat}{ds:List Deferred}{a:Sg}{c:Act}(h:St (KM W H N ds) a H' c W'){i j b:Nat}{r s:Res}(hi:H' i=some r)(d:H' j=some s)(h1:r.blk=some b)(h2:s.blk=some b):i=j:=by
 obtain⟨_,_,tp,k,_⟩:=h;exact k.sat.dis i j r s b hi d h1 h2
def qna{W W':World}{H H':ab}{N:Nat}{ds:List Deferred}{a:Sg}{c:Act}(h:St (KM W H N ds) a H' c W'){i b id:Nat}{v:Value}(hi:H' i=some (.box b [.own id v])):Bx W' b #[v]:=by
 obtain⟨tp,I,xs,el,h1,h2,h3⟩:=qeK h hi;refine⟨el,?_⟩;rw[h1];obtain⟨l⟩:=xs
 match l,h2 with
 | [x],_=>
   have:=(h3 0 x _ rfl rfl).2;cases this with
   |own _ _ _=>rfl
def qm8{W W':World}{H H':ab}{N:Nat}{ds:List Deferred}{a:Sg}{b:Act}(h:St (KM W H N ds) a H' b W'){t:Nat}{x:Value}(c:a t= .v x):b.tmps.getD t undef=x:=by
 obtain⟨_,_,tp,j,d⟩:=h;have:=d t;rw[c]at this;exact this.inv_v
def qqP{W W':World}{H H':ab}{N:Nat}{ds:List Deferred}{a:Sg}{b:Act}(h:St (KM W H N ds) a H' b W'):b.defers=ds/\b.tmps.size=N:=⟨h.1,h.2.1⟩
def Step.kbt{W W':World}{H:ab}{B:Nat}{S:Nat->Prop}(h:Step True qc3 (bz H) W W')(a:∀b,bz H b->b<B/\ ¬S b):KBt B S W W':=
 ⟨h.size,λk hk hs=>h.same k hk (λho=>by
  obtain⟨h1,h2⟩:=a k ho;rcases hs with hs|hs
  ·exact h2 hs
  ·omega) (λh=>h)⟩
def Step.kf{W W':World}{H:ab}{B:Nat}(h:Step True qc3 (bz H) W W')(a:∀b,bz H b->b<B):KeepsFrom B W W':=
 ⟨h.size,λk o hb hk _=>by rw[h.same k (qCp.1 hk).1 (λho=>by have:=a k ho;omega) (λh=>h)];exact hk⟩
def Step.grL{W W':World}{H:ab}{B:Nat}(h:Step True qc3 (bz H) W W')(a:∀b,bz H b->B<=b)(hs:B<=W.heap.size):GrL B W W':=
 ⟨h.os,h.tape,h.output,h.size,λj c=>h.same j (by omega) (λho=>by have:=a j ho;omega) (λh=>h),h.drawn trivial⟩
end
section
open Go.Proofs
def jX:CC:= .block 1 (.seq (oX [oC 12 1 3,oB 13 (.eql false false [.int] (oT 12) (oN 0))] [3,4,5,6,7,8,13] [3,4,5,6,7] (.ite (oT 13) (.seq (.regd [oE 14 0 8,oC 15 1 14,oE 16 1 8,oC 17 1 16,oE 18 2 8,oC 19 1 18,.op none none (.store (some 4) 1 (oT 4) (oT 15)),.op none none (.store (some 5) 1 (oT 5) (oT 17))] [.op none none (.store (some 6) 1 (oT 6) (oT 19)),
 .op none none (.store (some 7) 1 (oT 7) (.const (.bool true)))]) (.keep [3,4,5,6,7] [3,4,5,6,7] (.ret))) (.skip))) (.keep [3,4,5,6,7] [3,4,5,6,7] (.reg [oC 20 1 3,oB 21 (.arith .sub (oT 20) (oN 1)),oF 1 3 21])))
def gK:CC:= .block 1 (oX [oE 12 0 4,oC 13 1 12,oZ 14 eQ [oT 13],oA 5 14] [1,2,3,4,5] [2,3,4,22,33] (oX [oA 15 5,oE 16 0 4,oC 17 1 16,oB 18 (.eql true false [.int] (oT 15) (oT 17))] [1,2,3,4,5,18] [2,3,4,22,33] (.ite (oT 18) (.reg [oC 19 1 3,oA 20 5,oB 21 (.rstr (oT 20)),oB 22 (.append none rO 1 1 (oT 19) (oT 21)),
 .op none none (.store (some 3) 1 (oT 3) (oT 22))]) (.regd [oC 23 1 3,oC 24 1 1,oE 25 1 4,oC 26 1 25,oE 27 1 4,oC 28 1 27,oE 29 2 4,oC 30 1 29,oB 31 (.arith .add (oT 28) (oT 30)),oB 32 (.sslice (oT 24) (some (oT 26)) (some (oT 31)))] [oB 33 (.append none rO 1 1 (oT 23) (oT 32)),.op none none (.store (some 3) 1 (oT 3) (oT 33))]))))
def fD:CC:=gq Tryz.f279 [] {} _
def fp:List ak:=[.tmp 2]
def Er:FO eQ [] fD fp 48:=fo
end
end Go.Gv
namespace Go.Proofs
open Go.RowKit Go.Shelf Go.Gv
attribute [local go_sem] Oper.semAt_some
def qsL(s:ByteArray)(i:Nat):Value:=if i<s.size then .tuple #[.int .i32 (Pw s i), .int .i64 (i:Int), .int .i64 1, .bool true]else .tuple #[.int .i32 0, .int .i64 0, .int .i64 0, .bool false]
def dM{l:List (Nat×Res)}{i:Nat}{r:Res}(h:gD l bV i=some r):(i,r) ∈l:=by
 induction l with
 |nil=>cases h
 | cons p l ih=>
   obtain⟨t,q⟩:=p;simp only[gD,ai]at h;split at h
   ·rename_i e;subst e;cases h;simp
   ·exact List.mem_cons_of_mem _ (ih h)
structure qBt (F:Fence):Prop where
 e:F=Fence.wide
def qAF:Nat->Spc:=λ_=> .none
def qgV{b0 b1 b2 b3 b4:Nat}{c0 c1 c2 c3 c4:List D}(h:b0<b1/\b1<b2/\b2<b3/\b3<b4):
 ∀i j r s b,gD [(3,Res.box b0 c0),(4, .box b1 c1),(5, .box b2 c2),(6, .box b3 c3),(7, .box b4 c4)] bV i=some r->gD [(3,Res.box b0 c0),(4, .box b1 c1),(5, .box b2 c2),(6, .box b3 c3),(7, .box b4 c4)] bV j=some s->r.blk=some b->s.blk=some b->i=j:=by
 intro i j r s b hi hj h1 h2;have hi:=dM hi;have hj:=dM hj;simp only[List.mem_cons,Prod.mk.injEq,List.not_mem_nil,or_false]at hi hj;rcases hi with⟨rfl,rfl⟩|⟨rfl,rfl⟩|⟨rfl,rfl⟩|⟨rfl,rfl⟩|⟨rfl,rfl⟩ <;>rcases hj with⟨rfl,rfl⟩|⟨rfl,rfl⟩|⟨rfl,rfl⟩|⟨rfl,rfl⟩|⟨rfl,rfl⟩ <;>simp only[Res.blk,Option.some.injEq]at h1 h2<;>omega
set_option maxRecDepth 100000 in
theorem qiN{F:Fence}{n D:Nat}{w V:World}{R:Ending->World->Prop}{tmps:Array Value}{x1 x2 x3 x4:Value}(hD:w.heap.size+5<=D)(c1:Bx V (w.heap.size+1) #[x1])(c2:Bx V (w.heap.size+2) #[x2])(c3:Bx V (w.heap.size+3) #[x3])(c4:Bx V (w.heap.size+4) #[x4])
 (hK:V.heap[D]? =some (.deferred (some []))) (hg:GrL w.heap.size w V) (t1:tmps[4]? =some (.pointer (some ⟨w.heap.size+1,0,none⟩))) (t2:tmps[5]? =some (.pointer (some ⟨w.heap.size+1+1,0,none⟩))) (t3:tmps[6]? =some (.pointer (some ⟨w.heap.size+1+1+1,0,none⟩))) (t4:tmps[7]? =some (.pointer (some ⟨w.heap.size+1+1+1+1,0,none⟩)))
 (hR:∀V',GrL w.heap.size w V'->R (.returned (.tuple #[x1,x2,x3,x4])) V'):
 bodyPostM F n Tryz.prog Tryz.f209 R .ret { tmps:=tmps,defers:=[{ target:= .collected D,args:= #[] }] } V:=by
 refine⟨by simp, .inl ⟨_,_,rfl,run_takeDeferred hK,?_⟩⟩;have g4:GrL w.heap.size w (V.putObj D (.deferred none)):=hg.trans (GrL.put _ (by omega) _);have k1:=(c1.keep (World.putObj_heap_other (o:= .deferred none) (show w.heap.size+1≠D by omega))).cell (k:=0) rfl;have k2:=(c2.keep (World.putObj_heap_other (o:= .deferred none) (show w.heap.size+2≠D by omega))).cell (k:=0) rfl;have k3:=(c3.keep (World.putObj_heap_other (o:= .deferred none) (show w.heap.size+3≠D by omega))).cell (k:=0) rfl;have k4:=(c4.keep (World.putObj_heap_other (o:= .deferred none) (show w.heap.size+4≠D by omega))).cell (k:=0) rfl;have hres:(results Tryz.f209 tmps).run Tryz.prog (V.putObj D (.deferred none))= .ok (.tuple #[x1,x2,x3,x4]) (V.putObj D (.deferred none)):=by
  simp[results,Tryz.f209,go_sem,k1,k2,k3,k4,t1,t2,t3,t4]
 exact⟨_,hres,hR _ g4⟩
set_option maxRecDepth 100000 in
set_option maxHeartbeats 4000000 in
theorem Tryz.At_in(F:Fence)(hF:qBt F)(n:Nat)(h50:F.fn 209)(h95:F.fn 251)(h128:F.fn 274)(hro:F.round=none)(hn:10<=n)(s:ByteArray)(hs:s.size<=100000)(ha:∀(k:Nat) (h:k<s.size),(s[k]'h).toNat< 128)(i:Nat)(hi:i<=s.size)(w:World):
 CallsIn F n Tryz.prog 209 #[.string s, .int .i64 (i:Int)] w λe W'=>e= .returned (qsL s i)/\GrL w.heap.size w W':=by
 have h1:1<=n:=by omega
 refine callsIn_of_wp_marks Tryz.func209 rfl h50 ?_ hro;simp only[Tryz.ntmps209,List.size_toArray,List.length_cons,List.length_nil,Nat.reduceAdd,Nat.reduceSub,Array.replicate_succ,Array.replicate_zero,List.push_toArray,List.append_toArray,List.nil_append,List.cons_append]
 gi_wp2_with (gi_at_call 251;refine(Tryz.units_in F (n -1) h95 hro _ _).mono ?_;rintro e w' ⟨rfl,rfl⟩)
 obtain⟨W0,hW0⟩:∃W0,(((((w.alloc (.cells #[.int .i64 (i:Int)] 3)).alloc (.cells #[.int .i32 0] 21)).alloc (.cells #[.int .i64 0] 3)).alloc (.cells #[.int .i64 0] 3)).alloc (.cells #[.bool false] 4)).alloc (.cells #[.string s] au)=W0:=⟨_,rfl⟩
 rw[hW0];have hsz:W0.heap.size=w.heap.size+6:=by rw[<-hW0];simp
 have g0:GrL w.heap.size w W0:=by
  rw[<-hW0];exact(((((GrL.alloc w (Nat.le_refl _) _).trans (GrL.alloc _ (by simp) _)).trans (GrL.alloc _ (by first|(simp;done)|(simp;omega)) _)).trans (GrL.alloc _ (by first|(simp;done)|(simp;omega)) _)).trans (GrL.alloc _ (by first|(simp;done)|(simp;omega)) _)).trans (GrL.alloc _ (by first|(simp;done)|(simp;omega)) _)
 have B0:∀W:World,∀o:Obj,(W.alloc o).heap[W.heap.size]? =some o:=λW o=>World.alloc_heap_new W o
 have b5:W0.heap[w.heap.size+5]? =some (.cells #[.string s] au (0,0)):=by
  rw[<-hW0];have h:=B0 (((((w.alloc (.cells #[.int .i64 (i:Int)] 3)).alloc (.cells #[.int .i32 0] 21)).alloc (.cells #[.int .i64 0] 3)).alloc (.cells #[.int .i64 0] 3)).alloc (.cells #[.bool false] 4)) (.cells #[.string s] au);simpa using h
 have b0:W0.heap[w.heap.size]? =some (.cells #[.int .i64 (i:Int)] 3 (0,0)):=by
  rw[<-hW0];have h:=B0 w (.cells #[.int .i64 (i:Int)] 3);rw[show w.heap.size=w.heap.size by simp]at h;exact(Below.heap_alloc _ _ _ (by first|(simp;done)|(simp;omega))).trans ((Below.heap_alloc _ _ _ (by first|(simp;done)|(simp;omega))).trans ((Below.heap_alloc _ _ _ (by first|(simp;done)|(simp;omega))).trans ((Below.heap_alloc _ _ _ (by first|(simp;done)|(simp;omega))).trans ((Below.heap_alloc _ _ _ (by first|(simp;done)|(simp;omega))).trans (h)))))
 have b1:W0.heap[w.heap.size+1]? =some (.cells #[.int .i32 0] 21 (0,0)):=by
  rw[<-hW0];have h:=B0 (w.alloc (.cells #[.int .i64 (i:Int)] 3)) (.cells #[.int .i32 0] 21);rw[show(w.alloc (.cells #[.int .i64 (i:Int)] 3)).heap.size=w.heap.size+1 by simp]at h;exact(Below.heap_alloc _ _ _ (by first|(simp;done)|(simp;omega))).trans ((Below.heap_alloc _ _ _ (by first|(simp;done)|(simp;omega))).trans ((Below.heap_alloc _ _ _ (by first|(simp;done)|(simp;omega))).trans ((Below.heap_alloc _ _ _ (by first|(simp;done)|(simp;omega))).trans (h))))
 have b2:W0.heap[w.heap.size+2]? =some (.cells #[.int .i64 0] 3 (0,0)):=by
  rw[<-hW0];have h:=B0 ((w.alloc (.cells #[.int .i64 (i:Int)] 3)).alloc (.cells #[.int .i32 0] 21)) (.cells #[.int .i64 0] 3);rw[show((w.alloc (.cells #[.int .i64 (i:Int)] 3)).alloc (.cells #[.int .i32 0] 21)).heap.size=w.heap.size+2 by simp]at h;exact(Below.heap_alloc _ _ _ (by first|(simp;done)|(simp;omega))).trans ((Below.heap_alloc _ _ _ (by first|(simp;done)|(simp;omega))).trans ((Below.heap_alloc _ _ _ (by first|(simp;done)|(simp;omega))).trans (h)))
 have b3:W0.heap[w.heap.size+3]? =some (.cells #[.int .i64 0] 3 (0,0)):=by
  rw[<-hW0];have h:=B0 (((w.alloc (.cells #[.int .i64 (i:Int)] 3)).alloc (.cells #[.int .i32 0] 21)).alloc (.cells #[.int .i64 0] 3)) (.cells #[.int .i64 0] 3);rw[show(((w.alloc (.cells #[.int .i64 (i:Int)] 3)).alloc (.cells #[.int .i32 0] 21)).alloc (.cells #[.int .i64 0] 3)).heap.size=w.heap.size+3 by simp]at h;exact(Below.heap_alloc _ _ _ (by first|(simp;done)|(simp;omega))).trans ((Below.heap_alloc _ _ _ (by first|(simp;done)|(simp;omega))).trans (h))
 have b4:W0.heap[w.heap.size+4]? =some (.cells #[.bool false] 4 (0,0)):=by
  rw[<-hW0];have h:=B0 ((((w.alloc (.cells #[.int .i64 (i:Int)] 3)).alloc (.cells #[.int .i32 0] 21)).alloc (.cells #[.int .i64 0] 3)).alloc (.cells #[.int .i64 0] 3)) (.cells #[.bool false] 4);rw[show((((w.alloc (.cells #[.int .i64 (i:Int)] 3)).alloc (.cells #[.int .i32 0] 21)).alloc (.cells #[.int .i64 0] 3)).alloc (.cells #[.int .i64 0] 3)).heap.size=w.heap.size+4 by simp]at h;exact(Below.heap_alloc _ _ _ (by first|(simp;done)|(simp;omega))).trans (h)
 clear hW0 B0;have hcs:W0.cell? ⟨w.heap.size+5,0,none⟩=some (.string s):=bS b5 rfl;refine R5 hro h1 (gf:=274) (lb:= #[.pointer (some ⟨w.heap.size+5,0,none⟩)]) rfl h128 (enters_of Tryz.func274 (by kernel_rfl) rfl)
  (Tryz.units1_it F (n -1) h128 hro (by omega) s hs ha (λk=>k=w.heap.size+5) (w.heap.size+5) rfl W0 (λ_ h=>by omega) hcs) (λ_ h=>by omega) (λ_=>rfl)
  (λk W=>GrL w.heap.size w W/\k<=i/\Bx W w.heap.size #[.int .i64 ((i:Int) - (k:Int))]/\Bx W (w.heap.size+1) #[.int .i32 0]/\Bx W (w.heap.size+2) #[.int .i64 0]/\Bx W (w.heap.size+3) #[.int .i64 0]/\Bx W (w.heap.size+4) #[.bool false])
  (λk W=>GrL w.heap.size w W/\k=i/\Bx W (w.heap.size+1) #[.int .i32 (Pw s i)]/\Bx W (w.heap.size+2) #[.int .i64 (i:Int)]/\Bx W (w.heap.size+3) #[.int .i64 1]/\Bx W (w.heap.size+4) #[.bool true])
  (λk A C hs hg0=>have hg:=hg0.toL;⟨hs.1.trans (hg.mono (by omega)),hs.2.1,hs.2.2.1.keep (hg.low _ (by omega)),hs.2.2.2.1.keep (hg.low _ (by omega)),hs.2.2.2.2.1.keep (hg.low _ (by omega)),hs.2.2.2.2.2.1.keep (hg.low _ (by omega)),hs.2.2.2.2.2.2.keep (hg.low _ (by omega))⟩)
  (λk A C hs hg0=>have hg:=hg0.toL;⟨hs.1.trans (hg.mono (by omega)),hs.2.1,hs.2.2.1.keep (hg.low _ (by omega)),hs.2.2.2.1.keep (hg.low _ (by omega)),hs.2.2.2.2.1.keep (hg.low _ (by omega)),hs.2.2.2.2.2.keep (hg.low _ (by omega))⟩)
  ⟨g0,Nat.zero_le _, .of (by simpa using b0), .of b1, .of b2, .of b3, .of b4⟩
  (λk a' W=>∃Br,W0.heap.size+2<=Br/\W.heap[Br]? =some (.cells #[.int .i32 (Pw s k), .int .i64 (k:Int), .int .i64 1] 290 (0,0))/\
    a'={ tmps:= #[.string s, .int .i64 (i:Int),undef, .pointer (some ⟨w.heap.size,0,none⟩), .pointer (some ⟨w.heap.size+1,0,none⟩), .pointer (some ⟨w.heap.size+1+1,0,none⟩), .pointer (some ⟨w.heap.size+1+1+1,0,none⟩), .pointer (some ⟨w.heap.size+1+1+1+1,0,none⟩), .pointer (some ⟨Br,0,none⟩), .string s, .func (.func 274) #[] #[.pointer (some ⟨w.heap.size+1+1+1+1+1,0,none⟩)], .agg #[.int .i32 (Pw s k), .int .i64 (k:Int), .int .i64 1],undef,undef,undef,undef,undef,undef,undef,undef,undef,undef],defers:=[] })
  (λa' k W o hlt hs=>by
    obtain⟨Br,q1,q2,q3⟩:=hs;exact⟨Br,q1,(World.putObj_heap_other (by omega)).trans q2,q3⟩)
  ?assign ?body ?done ?stop
 case assign=>
  rintro l k W hsz2 hl ⟨i1,ik,i2,i3,i4,i5,i6⟩ hk;rw[RB];generalize Pw s k=c
  gi_wp2
  exact⟨(KeepsOthers.alloc _ _).from _,KBt.alloc _ _ _ _,⟨i1.trans (GrL.alloc W i1.size _),ik,i2.keep (Below.heap_alloc _ _ _ (by omega)),i3.keep (Below.heap_alloc _ _ _ (by omega)),i4.keep (Below.heap_alloc _ _ _ (by omega)),i5.keep (Below.heap_alloc _ _ _ (by omega)),i6.keep (Below.heap_alloc _ _ _ (by omega))⟩,W.heap.size,by omega,World.alloc_heap_new W _,rfl⟩
 case body=>
  rintro l k a' W hsz2 hl ⟨i1,ik,i2,i3,i4,i5,i6⟩ ⟨Br,hBr,bR,rfl⟩ hk;obtain⟨rfl⟩:=hF;generalize hc:Pw s k=c at bR;obtain⟨B,hB⟩:∃B,B=w.heap.size:=⟨_,rfl⟩
  rw[<-hB]at i1 i2 i3 i4 i5 i6 hsz;obtain⟨H,hH⟩:∃H,H=gD [(3,Res.box B [.v (.int .i64 ((i:Int) - (k:Int)))]),(4, .box (B+1) [.v (.int .i32 0)]),(5, .box (B+2) [.v (.int .i64 0)]),(6, .box (B+3) [.v (.int .i64 0)]),(7, .box (B+4) [.v (.bool false)])] bV:=⟨_,rfl⟩
  have hown:∀b,bz H b->B<=b/\b<W0.heap.size/\ ¬b=B+5:=by
   rintro b ⟨j,r,hj,hb⟩;rw[hH]at hj;have hj:=dM hj;simp only[List.mem_cons,Prod.mk.injEq,List.not_mem_nil,or_false]at hj;rcases hj with⟨rfl,rfl⟩|⟨rfl,rfl⟩|⟨rfl,rfl⟩|⟨rfl,rfl⟩|⟨rfl,rfl⟩ <;>simp only[Res.blk,Option.some.injEq]at hb<;>omega
  have hst:St (KM W H 22 []) (dt [.any, .any, .any, .bptr 3 B 0, .bptr 4 (B+1) 0, .bptr 5 (B+2) 0, .bptr 6 (B+3) 0, .bptr 7 (B+4) 0, .cptr [.v (.int .i32 c), .v (.int .i64 (k:Int)), .v (.int .i64 1)] 0]) H { tmps:= #[.string s, .int .i64 (i:Int),undef, .pointer (some ⟨w.heap.size,0,none⟩), .pointer (some ⟨w.heap.size+1,0,none⟩), .pointer (some ⟨w.heap.size+1+1,0,none⟩), .pointer (some ⟨w.heap.size+1+1+1,0,none⟩), .pointer (some ⟨w.heap.size+1+1+1+1,0,none⟩), .pointer (some ⟨Br,0,none⟩), .string s, .func (.func 274) #[] #[.pointer (some ⟨w.heap.size+1+1+1+1+1,0,none⟩)], .agg #[.int .i32 c, .int .i64 (k:Int), .int .i64 1],undef,undef,undef,undef,undef,undef,undef,undef,undef,undef],defers:=[] } W:=by
   refine qwN rfl ?_ ?_ ?_
   ·rw[hH];exact qgV (by omega)
   ·intro j r hj;rw[hH]at hj;have hj:=dM hj;simp only[List.mem_cons,Prod.mk.injEq,List.not_mem_nil,or_false]at hj;rcases hj with⟨rfl,rfl⟩|⟨rfl,rfl⟩|⟨rfl,rfl⟩|⟨rfl,rfl⟩|⟨rfl,rfl⟩
    ·exact i2.box1 rfl (.int _ _)
    ·exact i3.box1 rfl (.int _ _)
    ·exact i4.box1 rfl (.int _ _)
    ·exact i5.box1 rfl (.int _ _)
    ·exact i6.box1 rfl (.bool _)
   ·intro t;rw[<-hB];rcases t with _|_|_|_|_|_|_|_|_|t
    ·exact .any _
    ·exact .any _
    ·exact .any _
    ·exact .bptr 3 B 0
    ·exact .bptr 4 (B+1) 0
    ·exact .bptr 5 (B+2) 0
    ·exact .bptr 6 (B+3) 0
    ·exact .bptr 7 (B+4) 0
    ·have hbx:Bx W Br #[.int .i32 c, .int .i64 (k:Int), .int .i64 1]:= .of bR;exact Bx.cptr [.int .i32 c, .int .i64 (k:Int), .int .i64 1] hbx ⟨hbx.lt,λh=>h,λh=>h,λh=>by have:=hown Br h;omega⟩ (λx hx=>by
      simp only[List.mem_cons,List.not_mem_nil,or_false]at hx;rcases hx with rfl|rfl|rfl<;>exact⟨rfl, .int _ _⟩)
    ·exact .any _
  have hik:(i:Int)<=100000:=by omega
  have hv:vc qAF jX (λe _ H'=>match e with
   | .norm=>k<i/\H' 3=some (.box B [.v (.int .i64 ((i:Int) - (k:Int) -1))])/\H' 4=H 4/\H' 5=H 5/\H' 6=H 6/\H' 7=H 7
   | .ret=>k=i/\H' 4=some (.box (B+1) [.v (.int .i32 c)])/\H' 5=some (.box (B+2) [.v (.int .i64 (k:Int))])/\H' 6=some (.box (B+3) [.v (.int .i64 1)])/\H' 7=some (.box (B+4) [.v (.bool true)])
   | _=>False) (dt [.any, .any, .any, .bptr 3 B 0, .bptr 4 (B+1) 0, .bptr 5 (B+2) 0, .bptr 6 (B+3) 0, .bptr 7 (B+4) 0, .cptr [.v (.int .i32 c), .v (.int .i64 (k:Int)), .v (.int .i64 1)] 0]) H:=by
   rw[hH];by_cases hki:k=i
   ·subst hki;simp[jX,-fB',-eB']
   ·have hne:¬(i:Int) - (k:Int)=0:=by omega
    simp[jX,hne,-fB',-eB'];exact⟨by simp only[InR];omega,by omega⟩
  have hBk:∀b,bz H b->b<W0.heap.size/\ ¬(b=w.heap.size+5):=λb hb=>by have:=hown b hb;omega
  refine wpIn_mono (Uu (S:=qAF) (im:=[2007007,2006006,2005005,2004004]) (λf=>UC _ f) mixed (cc:=jX) (by kernel_rfl) hst hv) ?_;rintro e a2 W2 he;cases e with
  | normal=>
    obtain⟨σ2,H2,hst2,hlt,e3,e4,e5,e6,e7⟩:=he;have hs2:=K7 hst2;have hg:=hs2.grL (B:=B) (λb hb=>(hown b hb).1) (by omega);refine⟨hs2.kf (λb hb=>(hBk b hb).1),hs2.kbt hBk,?_⟩;rw[<-hB];rw[hH]at e4 e5 e6 e7;refine⟨i1.trans hg,by omega,?_,yJ hst2 [_] e4,yJ hst2 [_] e5,yJ hst2 [_] e6,yJ hst2 [_] e7⟩;have:=yJ hst2 [_] e3;rwa [show(i:Int) - ((k+1:Nat):Int)=(i:Int) - (k:Int) -1 by omega]
  | ret=>
    obtain⟨σ2,H2,hst2,rfl,e4,e5,e6,e7⟩:=he;have hs2:=K7 hst2;have hg:=hs2.grL (B:=B) (λb hb=>(hown b hb).1) (by omega);refine⟨hs2.kf (λb hb=>(hBk b hb).1),?_⟩;rw[<-hB,hc];exact⟨i1.trans hg,rfl,yJ hst2 [_] e4,yJ hst2 [_] e5,yJ hst2 [_] e6,yJ hst2 [_] e7⟩
  |exit id=>obtain⟨_,_,_,h⟩:=he;exact h.elim
  |goto t=>exact he.elim
  |panic ch=>exact he.elim
  |outgrown=>exact he.elim
 case done=>
  rintro D W hD ⟨i1,ik,i2,⟨t3,i3⟩,⟨t4,i4⟩,⟨t5,i5⟩,⟨t6,i6⟩⟩ hK;have his:i=s.size:=by omega
  have q3:W.cell? ⟨w.heap.size+1,0,none⟩=some (.int .i32 0):=bS i3 rfl;have q4:W.cell? ⟨w.heap.size+1+1,0,none⟩=some (.int .i64 0):=bS i4 rfl;have q5:W.cell? ⟨w.heap.size+1+1+1,0,none⟩=some (.int .i64 0):=bS i5 rfl;have q6:W.cell? ⟨w.heap.size+1+1+1+1,0,none⟩=some (.bool false):=bS i6 rfl;have f3:W.frozen? ⟨w.heap.size+1,0,none⟩=false:=rZ i3;have f4:W.frozen? ⟨w.heap.size+1+1,0,none⟩=false:=rZ i4;have f5:W.frozen? ⟨w.heap.size+1+1+1,0,none⟩=false:=rZ i5;have f6:W.frozen? ⟨w.heap.size+1+1+1+1,0,none⟩=false:=rZ i6
  gi_wp2
  have g:=((((GrL.setCell (k:=0) (W:=W) (show w.heap.size<=w.heap.size+1 by omega) (.int .i32 0)).trans (GrL.setCell (k:=0) (show w.heap.size<=w.heap.size+1+1 by omega) (.int .i64 0))).trans (GrL.setCell (k:=0) (show w.heap.size<=w.heap.size+1+1+1 by omega) (.int .i64 0))).trans (GrL.setCell (k:=0) (show w.heap.size<=w.heap.size+1+1+1+1 by omega) (.bool false)))
  have k4:∀(X:World) (b:Nat) (x:Value),b≠w.heap.size+4->(X.setCell ⟨w.heap.size+1+1+1+1,0,none⟩ x).heap[b]? =X.heap[b]?:=λX b x h=>Below.heap_setCell _ _ _ _ (by show b≠w.heap.size+1+1+1+1;omega)
  have k3:∀(X:World) (b:Nat) (x:Value),b≠w.heap.size+3->(X.setCell ⟨w.heap.size+1+1+1,0,none⟩ x).heap[b]? =X.heap[b]?:=λX b x h=>Below.heap_setCell _ _ _ _ (by show b≠w.heap.size+1+1+1;omega)
  have k2:∀(X:World) (b:Nat) (x:Value),b≠w.heap.size+2->(X.setCell ⟨w.heap.size+1+1,0,none⟩ x).heap[b]? =X.heap[b]?:=λX b x h=>Below.heap_setCell _ _ _ _ (by show b≠w.heap.size+1+1;omega)
  have k1:∀(X:World) (b:Nat) (x:Value),b≠w.heap.size+1->(X.setCell ⟨w.heap.size+1,0,none⟩ x).heap[b]? =X.heap[b]?:=λX b x h=>Below.heap_setCell _ _ _ _ h
  refine qiN (D:=D) (by omega) (.of (((k4 _ _ _ (by omega)).trans ((k3 _ _ _ (by omega)).trans (k2 _ _ _ (by omega)))).trans (ru i3))) (.of (((k4 _ _ _ (by omega)).trans (k3 _ _ _ (by omega))).trans (ru ((k1 _ _ _ (by omega)).trans i4)))) (.of ((k4 _ _ _ (by omega)).trans (ru ((k2 _ _ _ (by omega)).trans ((k1 _ _ _ (by omega)).trans i5))))) (.of (ru ((k3 _ _ _ (by omega)).trans ((k2 _ _ _ (by omega)).trans ((k1 _ _ _ (by omega)).trans i6)))))
   ((k4 _ _ _ (by omega)).trans ((k3 _ _ _ (by omega)).trans ((k2 _ _ _ (by omega)).trans ((k1 _ _ _ (by omega)).trans hK)))) (i1.trans g) rfl rfl rfl rfl ?_
  intro V' hg';refine⟨?_,hg'⟩;unfold qsL;rw[if_neg (by omega)]
 case stop=>
  rintro D k W hD hk ⟨i1,rfl,⟨t3,i3⟩,⟨t4,i4⟩,⟨t5,i5⟩,⟨t6,i6⟩⟩ hK
  gi_wp2
  refine qiN (D:=D) (by omega) (.of i3) (.of i4) (.of i5) (.of i6) hK i1 rfl rfl rfl rfl ?_;intro V' hg';refine⟨?_,hg'⟩;unfold qsL;rw[if_pos hk]
end Go.Proofs
namespace Go.Gv
section
open Go.Proofs Go.RowKit
open Cod (enc dec)
variable {dq:Prop}
def qh4{s:B}(h:Ak s=true):∀(k:Nat) (hk:k<s.size),(s[k]'hk).toNat< 128:=λk hk=>by
 have hl:k<s.data.toList.length:=by rw[qC3];exact hk
 have:=qCl.1 h _ (qDr hl);have h2:s.data[k].toNat< 128:=by simpa using this
 exact h2
def GrL.below{w w':World}(h:GrL w.heap.size w w'):Below w.heap.size w w':=⟨h.os,h.tape,h.output,h.size,h.low⟩
def PH:Tri dq Tryz.prog pu s_cpVal.pt:=by
 refine tU (fT Tryz.func208 (by kernel_rfl) rfl) λtp I w vs s hp hI hl b=>?_
 obtain⟨d,h⟩:=hp;have a:(a1 B).view s=[.v (.string s)]:=rfl;rw[a]at hl b
 match vs,hl with
 | [j],_=>
   have k:=Fw (b 0 j _ rfl rfl);subst k;refine(callsIn_wide (n:=10)).1 ((Tryz.Valid_in Fence.wide 10 trivial trivial trivial trivial rfl (by omega) s (by omega) (qh4 d) w).mono ?_);rintro e w' ⟨rfl,c⟩;exact⟨_,true,rfl,rfl,λl p=> .bool _,c.below,c.drawn⟩
def qo0(s:B)(i:Nat):(qiW s (i:Int)=(⟨Pw s i⟩,(i:Int),1,true)/\i<s.size)\/(qiW s (i:Int)=(⟨0⟩,0,0,false)/\ ¬i<s.size):=by
 by_cases h:i<s.size
 ·left;obtain⟨c,hc⟩:∃c,s.data[i]? =some c:=⟨s.data[i]'h,qCQ h⟩
  refine⟨?_,h⟩;have e:s.data.toList[i]? =some c:=by rw[qCA];exact hc
  simp[qiW,hc,Pw,e]
 ·right;refine⟨?_,h⟩;have:s.data[i]? =none:=qDN (by have:s.size=s.data.size:=rfl;omega);simp[qiW,this]
def R4{tp I:Nat->Prop}{w:World}{a b c d:Value}{l b' c' p:D}(h1:R tp I w a l)(h2:R tp I w b b')(h3:R tp I w c c')(h4:R tp I w d p):R tp I w (.tuple #[a,b,c,d]) (.tup [l,b',c',p]):=
 R.tup [a,b,c,d] [l,b',c',p] rfl λk x y h j=>by
  rcases k with _|_|_|_|k
  ·cases h;cases j;exact h1
  ·cases h;cases j;exact h2
  ·cases h;cases j;exact h3
  ·cases h;cases j;exact h4
  ·cases h
theorem qm2:Tri dq Tryz.prog BZ s_cpAt.pt:=by
 refine tU (fT Tryz.func209 (by kernel_rfl) rfl) λtp I w vs x hp hI hl c=>?_
 obtain⟨s,i⟩:=x;obtain⟨d,h,h0,h1⟩:=hp;simp only at d h h0 h1;have a:(a2 B Int).view (s,i)=[.v (.string s), .v (.int .i64 i)]:=rfl;rw[a]at hl c
 match vs,hl with
 | [l,v1],_=>
   have p:=Fw (c 0 l _ rfl rfl);have q:=Fw (c 1 v1 _ rfl rfl);subst p q;obtain⟨j,rfl⟩:∃j:Nat,i=(j:Int):=⟨i.toNat,by omega⟩
   refine(callsIn_wide (n:=10)).1 ((Tryz.At_in Fence.wide ⟨rfl⟩ 10 trivial trivial trivial rfl (by omega) s (by omega) (qh4 h) j (by omega) w).mono ?_);rintro e w' ⟨rfl,k⟩;refine⟨_,qiW s j,rfl,rfl,λr t=>?_,k.below,k.drawn⟩;rcases qo0 s j with⟨e,b⟩|⟨e,b⟩
   ·rw[e];unfold qsL;rw[if_pos b];exact R4 (.int _ _) (.int _ _) (.int _ _) (.bool _)
   ·rw[e];unfold qsL;rw[if_neg b];exact R4 (.int _ _) (.int _ _) (.int _ _) (.bool _)
end
section
open Cod (enc dec)
variable {S S0:Nat->Spc}
abbrev Lc:Spc:=aJ (a1 I32) (λc=>0<=c.val/\c.val< 128) (enc (X:=I32)) λc y=>y=⟨low c.val⟩
theorem Fq:aq fD fp S (a1 I32) (λc=>0<=c.val/\c.val< 128) (enc (X:=I32)) λc y=>y=⟨low c.val⟩:=by
 rintro⟨c⟩ ⟨h0,h1⟩;simp only at h0 h1;have d:¬(192:Int)<=c:=by omega
 have j:¬(913:Int)<=c:=by omega
 have k:¬(1040:Int)<=c:=by omega
 have l:¬(1024:Int)<=c:=by omega
 by_cases a:(65:Int)<=c
 ·by_cases b:c<=90
  ·have e:low c=c+32:=by unfold low;rw[if_pos ⟨a,b⟩]
   simp[fD,fp,a,b,e,-fB',-eB'];exact⟨by simp only[InR];omega,bF (⟨c+32⟩:I32) (.same _) rfl⟩
  ·have e:low c=c:=by unfold low;rw[if_neg (λh=>b h.2)]
   simp[fD,fp,a,b,d,j,k,l,e,-fB',-eB'];exact bF (⟨c⟩:I32) (.same _) rfl
 ·have e:low c=c:=by unfold low;rw[if_neg (λh=>a h.1)]
  simp[fD,fp,a,d,j,k,l,e,-fB',-eB'];exact bF (⟨c⟩:I32) (.same _) rfl
end
end Go.Gv
