/- A part of the framework and of the walks: W69 W70 W71 W72. -/
import Derived.WalkKit
import Derived.Lib.Bytealg
import Derived.Shelf.Abstract
import Derived.Shelf.RegionOpen
import Derived.TacticsInMore
import Derived.Lib.Builder
import Derived.Lib.AppendStr
import Derived.Lib.FrozenHead
import Derived.Lib.Strings
import Derived.Lib.Walk
import Derived.Lib.Slices
import Derived.Shelf.RegionOpenPlain
import Derived.Lib.UnsafeStr
import Derived.Test.YtaiffcbkmgfklaaGreatDoorGs29
set_option linter.unusedSimpArgs false
set_option linter.unusedVariables false
set_option maxRecDepth 100000

namespace Go.Gv
open Cod (enc dec)
open Go.Proofs Go.RowKit
theorem Us (s:B) (c:Int) (c0:0≤c) (c1:c < 256):Lib.indexByte s.data.toList c.toNat.toUInt8=ON s ⟨c⟩:=by
 unfold ON
 have e: ∀x:UInt8,(x==c.toNat.toUInt8)=decide ((x.toNat:Int)=c):=fun x=> by
  have h1:c.toNat.toUInt8.toNat=c.toNat:=by
   rw[Nat.toUInt8,UInt8.toNat_ofNat']
   omega
  rw[Bool.eq_iff_iff]
  simp only[beq_iff_eq,decide_eq_true_eq]
  constructor
  ·rintro rfl
   omega
  ·intro h
   exact UInt8.toNat_inj.1 (by omega)
 have key: ∀l:List UInt8,Lib.indexByte l c.toNat.toUInt8=match l.findIdx? (fun x=> decide ((x.toNat:Int)=c)) with
  | some k=> (k:Int)
  | none=> -1:=by
  intro l
  induction l with
  | nil=> rfl
  | cons x l ih=>
    rw[Lib.indexByte,List.findIdx?_cons,e x]
    by_cases h: (x.toNat:Int)=c
    ·simp[h]
    ·simp only[h,decide_false,Bool.false_eq_true,if_false]
     rw[ih]
     cases l.findIdx? (fun x=> decide ((x.toNat:Int)=c)) with
     | none=> rfl
     | some k=>
       have: ¬ ((k:Int)= -1):=by omega
       simp[this]
 exact key _
theorem D0 (s:ByteArray) (c:Int) (w:World):Calls Tryz.prog 180 #[.string s, .int .u8 c] w fun e w'=> e= .returned (.int .i64 (Lib.indexByte s.data.toList c.toNat.toUInt8))∧w'=w:=by
 go_enter Tryz.func180,Tryz.ntmps180
 go_wp2
 rw[run_callFunc_extern Tryz.func190 (by kernel_rfl) (by kernel_rfl) (by kernel_rfl) (e:=Extern.BytealgIndexByte.indexByte) (by kernel_rfl),Lib.run_indexByteString]
 simp only[Result.andThen]
 rw[Oper.upon_value]
 go_wp2
 go_ret
 exact⟨rfl,rfl⟩
theorem sH:Tri Tryz.prog cX s_indexByte.pt:=by
 refine ID (oa Tryz.func180 (by kernel_rfl) rfl) fun tp I w vs x hp hI hl hv=> ?_
 obtain⟨s,⟨c⟩⟩:=x
 obtain⟨c0,c1⟩:=hp
 have hview: (a2 B U8).view (s,⟨c⟩)= [.v (.string s), .v (.int .u8 c)]:=rfl
 rw[hview] at hl hv
 match vs,hl with
 | [v0,v1],_=>
   have e0:=LG (hv 0 v0 _ rfl rfl)
   have e1:=LG (hv 1 v1 _ rfl rfl)
   subst e0;subst e1
   refine(D0 s c w).mono ?_
   rintro e w' ⟨rfl,rfl⟩
   refine⟨_,ON s ⟨c⟩,rfl,rfl,fun tp' I'=> ?_,Below.refl _ _,Nat.le_refl _⟩
   rw[Us s c c0 c1]
   exact .int _ _
end Go.Gv

namespace Go.Gv
open Cod (enc dec)
open Go.Proofs Go.RowKit
theorem GZ (b:Nat) (w:World) (h0:w.cell? ⟨b,0,none⟩=some (.pointer (some ⟨b,0,none⟩))):
 Calls Tryz.prog 119 #[.pointer (some ⟨b,0,none⟩)] w fun e w'=> e= .returned (.tuple #[])∧w'=w:=by
 obtain⟨j,hj,hjs⟩:=Option.map_eq_some_iff.1 (show(Tryz.prog.info? 106).map (·.size)=some 2 by kernel_rfl)
 have t104:Tryz.prog.underlying 104=some (.pointer 106):=by kernel_rfl
 go_enter Tryz.func119,Tryz.ntmps119
 go_wp2
 rw[Lib.run_neq_ptr_same w _ t104 hj]
 go_wp2
 go_end0
 exact⟨rfl,rfl⟩
theorem DZ (b:Nat) (w:World) (h0:w.cell? ⟨b,0,none⟩=some (.pointer none)) (hsh:w.shape? b=some (108,2)) (hfz:w.frozen? ⟨b,0,none⟩=false):
 Calls Tryz.prog 119 #[.pointer (some ⟨b,0,none⟩)] w fun e w'=> e= .returned (.tuple #[])∧w'=w.setCell ⟨b,0,none⟩ (.pointer (some ⟨b,0,none⟩)):=by
 obtain⟨j,hj,hjs⟩:=Option.map_eq_some_iff.1 (show(Tryz.prog.info? 106).map (·.size)=some 2 by kernel_rfl)
 have t104:Tryz.prog.underlying 104=some (.pointer 106):=by kernel_rfl
 have t155:Tryz.prog.underlying 155=some .unsafePointer:=by kernel_rfl
 have hlies:liesAt Tryz.prog Tryz.prog.depth 108 (2/Tryz.prog.cellsOf 108) 0 106 1=true:=by kernel_rfl
 go_enter Tryz.func119,Tryz.ntmps119
 go_wp2
 rw[Lib.run_to_unsafe w ⟨b,0,none⟩ t104 t155 hj (by rw[hjs];decide) hsh (Nat.zero_lt_succ 1)]
 simp only[Result.andThen]
 rw[Oper.upon_value]
 go_wp2
 rw[run_callFunc_extern Tryz.func148 (by kernel_rfl) (by kernel_rfl) (by kernel_rfl) (e:=Extern.AbiNoEscape.same) (by kernel_rfl)]
 rw[Lib.run_noEscape]
 simp only[Result.andThen]
 rw[Oper.upon_value]
 go_wp2
 rw[Lib.run_from_unsafe w ⟨b,0,none⟩ t155 t104 hj hsh hlies]
 simp only[Result.andThen]
 rw[Oper.upon_value]
 go_wp2
 go_end0
 exact⟨rfl,rfl⟩
section
variable {P:Program} {w:World}
theorem Nr (t u ty e:TypeId) (i:TypeInfo) (ht:P.underlying t=some (.slice e)) (hu:P.underlying u=some .string) (hi:P.info? e=some i) (hz:i.zero=some (.int .u8 0)) (hsize:i.size=1) (hby:i.bytes=1)
 (v:Value) (n:Nat) (xs:List Value) (hown:w.ownsRow 0 e 1 v n xs) (s:ByteArray) (hb:n+s.size≤140737488355328):
 ∃v' w',(Builtin.append_ #[t,u] ty #[v, .string s]).run P w= .ok v' w'∧w'.ownsRow 0 e 1 v' (n+s.size) (xs++Lib.strCells s)∧GrB w w' v.ownBlock∧(∀b,v'.ownBlock=some b→w.heap.size≤b∨v.ownBlock=some b):=by
 have hm:n+s.size≤maxLen:=by simp only[maxLen];omega
 have hxl:xs.length=n:=by simpa using hown.1
 have hlen: (xs++Lib.strCells s).length=(n+s.size) *1:=by rw[List.length_append,hxl,Lib.strCells_length,Nat.mul_one]
 have grown: ∀ (old:Nat),old < n+s.size→ ∀ (row:Option Nat),
  (w.drew.alloc (.cells (xs.toArray++ (Lib.strCells s).toArray++Builtin.zeroCells (Value.int .u8 0).cells (grownCap w (n+s.size) old e - (n+s.size))) e)).ownsRow 0 e 1
    (.slice (some ⟨w.heap.size,0,none⟩) (n+s.size) (grownCap w (n+s.size) old e)) (n+s.size) (xs++Lib.strCells s)∧
  GrB w (w.drew.alloc (.cells (xs.toArray++ (Lib.strCells s).toArray++Builtin.zeroCells (Value.int .u8 0).cells (grownCap w (n+s.size) old e - (n+s.size))) e)) row:=by
  intro old ho row
  have hge:=grownCap_ge w (n+s.size) old e
  have hcm:grownCap w (n+s.size) old e≤maxLen:=grownCap_le_maxLen w (n+s.size) old e hm
  refine⟨⟨hlen, .inr ⟨w.heap.size,_,_,rfl,Nat.zero_le _,heap_alloc_new w.drew _,hge,hcm,?_,?_⟩⟩,⟨⟨rfl,rfl,rfl,by simp,fun k hk _=> RowKit.Below.heap_alloc w.drew _ k hk⟩,Nat.le_succ _⟩⟩
  ·have hz1: (Value.int IntKind.u8 0).cells.size=1:=rfl
   simp only[Array.size_append,List.size_toArray,size_zeroCells,hz1,hxl,Lib.strCells_length]
   omega
  ·simp only[Array.toList_append,List.append_assoc]
   rw[←List.append_assoc,←hlen]
   exact List.take_left
 rcases hown.2 with⟨rfl,rfl⟩ | ⟨g,cap,cur,rfl,hbg,hg,hnc,hcm,hcs,htake⟩
 ·have hx:xs= []:=List.eq_nil_of_length_eq_zero hxl
  subst hx
  by_cases hm0:s.size=0
  ·have hn:Lib.strCells s= []:=List.eq_nil_of_length_eq_zero (by rw[Lib.strCells_length];exact hm0)
   refine⟨.slice none 0 0,w,?_,by rw[hm0,hn];exact World.ownsRow_nil w 0 e 1,fQ _ _,fun b hb=> by simp[Value.ownBlock] at hb⟩
   have hf:=Lib.run_firstCells_string (P:=P) w 1 s
   rw[hm0] at hf
   simp[Builtin.append_,run_underlying ht,run_underlying hu,sizeOf,typeInfo,hi,hsize,Builtin.lenOf,hm0,hf]
  ·have hr:=run_append_nil_string (P:=P) w t u ty e i (.int .u8 0) ht hu hi hz s (by omega) (by simp only[maxLen] at hm;omega) (by rw[hby];omega)
   have hgr:=grown 0 (by omega) (Value.ownBlock (.slice none 0 0))
   simp only[Nat.zero_add,List.nil_append,Array.empty_append] at hgr ⊢
   have e1: (s.data.map fun b=> Value.int .u8 b.toNat)=(Lib.strCells s).toArray:=by
    apply Array.ext'
    simp[Lib.strCells]
   rw[e1] at hr
   exact⟨_,_,hr,hgr.1,hgr.2,fun b hb=> .inl (by simp[Value.ownBlock] at hb;omega)⟩
 ·by_cases hroom:n+s.size≤cap
  ·have hcs':cur.size=cap:=by simpa using hcs
   have hr:=Lib.run_append_room_string (P:=P) w t u ty e i ht hu hi hsize g n cap cur hg s hroom (by omega)
   refine⟨_,_,hr,⟨hlen, .inr ⟨g,cap,_,rfl,hbg,setRow_heap w g cur _ e _ hg,hroom,hcm,?_,?_⟩⟩,j9 _ _ _,fun b hb=> .inr hb⟩
   ·simp only[List.size_toArray,List.length_append,List.length_take,List.length_drop,Array.length_toList,Lib.strCells_length]
    omega
   ·have ht':cur.toList.take n=xs:=by simpa using htake
    rw[ht',←hlen]
    exact List.take_left
  ·have holds: ∀j u,xs[j]?=some u→w.cell? ((⟨g,0,none⟩:Addr).add j)=some u:=hown.cells (g:=g) rfl
   have hr:=Lib.run_append_grow_string (P:=P) w t u ty e i (.int .u8 0) ht hu hi hz ⟨g,0,none⟩ n cap xs (by rw[hsize];simpa using hxl) holds s (by omega) (by omega) (by rw[hby];exact growslice_fits (by omega) (by omega))
   have hgr:=grown cap (by omega) (Value.ownBlock (.slice (some ⟨g,0,none⟩) n cap))
   exact⟨_,_,hr,hgr.1,hgr.2,fun b hb=> .inl (by simp[Value.ownBlock] at hb;omega)⟩
theorem Em {ops:Array Oper} {rest:List Oper} {o:Oper} {a:Act} {Q:Exit→Act→World→Prop} (hgd:o.guard=none) (sl x:Operand) (t u:TypeId)
 (ho:o.op= .call { callee:= .builtin .append,args:= #[sl,x],argTypes:= #[t,u] })
 (e:TypeId) (i:TypeInfo) (ht:P.underlying t=some (.slice e)) (hu:P.underlying u=some .string) (hi:P.info? e=some i) (hz:i.zero=some (.int .u8 0))
 (hsize:i.size=1) (hby:i.bytes=1)
 (v:Value) (n:Nat) (xs:List Value) (hs:a.eval sl=v) (hown:w.ownsRow 0 e 1 v n xs) (s:ByteArray) (hx:a.eval x= .string s) (hbytes:n+s.size≤140737488355328)
 (h: ∀v' w',w'.ownsRow 0 e 1 v' (n+s.size) (xs++Lib.strCells s)→GrB w w' v.ownBlock→(∀b,v'.ownBlock=some b→w.heap.size≤b∨v.ownBlock=some b)→wpList P ops Q rest (a.put o.dst v') w'):wpList P ops Q (o::rest) a w:=by
 refine wpList_plain hgd fun K hK=> ?_
 obtain⟨v',w',hr,h2,h3,h4⟩:=Nr (P:=P) (w:=w) t u o.type e i ht hu hi hz hsize hby v n xs hown s hbytes
 unfold Oper.wp execOp
 simp only[ho,resolve,invoke,builtin,Sem.run_bind,Sem.run_pure,Result.andThen_ok,List.map_toArray,List.map_cons,List.map_nil,hs,hx,hr]
 exact hK _ _ (h v' w' h2 h3 h4)
end
def R7 (b:Nat) (u:Bool) (w:World):World:=if u then w else w.setCell ⟨b,0,none⟩ (.pointer (some ⟨b,0,none⟩))
theorem It (b:Nat) (u:Bool) (v:Value) (w:World) (hbk:w.heap[b]?=some (.cells #[pv b u,v] 108 (0,0))):Calls Tryz.prog 119 #[.pointer (some ⟨b,0,none⟩)] w fun e w'=> e= .returned (.tuple #[])∧w'=R7 b u w:=by
 cases u with
 | true=> exact GZ b w (by rw[Lib.cell_of_heap hbk];rfl)
 | false=> exact DZ b w (by rw[Lib.cell_of_heap hbk];rfl) (by simp[World.shape?,hbk]) (Lib.frozen_of_heap hbk 0)
theorem R6 {b:Nat} {u:Bool} {w:World} (k:Nat) (h:k≠b): (R7 b u w).heap[k]?=w.heap[k]?:=by
 cases u with
 | true=> rfl
 | false=> exact heap_setCell_other w ⟨b,0,none⟩ k _ h
theorem AH (b:Nat) (u:Bool) (v:Value) (n:Nat) (xs:List Value) (t:ByteArray) (w:World) (hbk:w.heap[b]?=some (.cells #[pv b u,v] 108 (0,0))) (hown:w.ownsRow 0 5 1 v n xs) (hne:v.ownBlock≠some b) (hb:n+t.size≤140737488355328):
 Calls Tryz.prog 60 #[.pointer (some ⟨b,0,none⟩), .string t] w fun e w'=> e= .returned (.tuple #[.int .i64 t.size, .nilIface])∧
  ∃v' w2,w2.ownsRow 0 5 1 v' (n+t.size) (xs++Lib.strCells t)∧GrB (R7 b u w) w2 v.ownBlock∧(∀b,v'.ownBlock=some b→w.heap.size≤b∨v.ownBlock=some b)∧w'=w2.setCell ⟨b,1,none⟩ v':=by
 have hbk1: (R7 b u w).heap[b]?=some (.cells #[.pointer (some ⟨b,0,none⟩),v] 108 (0,0)):=by
  cases u with
  | true=> exact hbk
  | false=> exact(heap_setCell_same w b 0 _ 108 _ hbk).trans (by rfl)
 have hoth:=R6 (b:=b) (u:=u) (w:=w)
 have hown1: (R7 b u w).ownsRow 0 5 1 v n xs:=by
  obtain⟨g1,g2⟩:=hown
  refine⟨g1,?_⟩
  rcases g2 with h | ⟨g,cap,cur,rfl,h2,h3,h4⟩
  ·exact .inl h
  ·exact .inr ⟨g,cap,cur,rfl,h2,by rw[hoth g (fun e=> hne (by rw[e];rfl))];exact h3,h4⟩
 have hsz1: (R7 b u w).heap.size=w.heap.size:=by
  cases u with
  | true=> rfl
  | false=> simp[R7]
 obtain⟨i0,hi,hi2⟩:=Option.map_eq_some_iff.1 (show(Tryz.prog.info? 5).map (fun i=> (i.zero,i.size,i.bytes))=some (some (.int .u8 0),1,1) by kernel_rfl)
 have hz0:i0.zero=some (.int .u8 0):=by simpa using congrArg (·.1) hi2
 have hz1:i0.size=1:=by simpa using congrArg (·.2.1) hi2
 have hz2:i0.bytes=1:=by simpa using congrArg (·.2.2) hi2
 have t50:Tryz.prog.underlying 50=some (.slice 5):=by kernel_rfl
 have t9:Tryz.prog.underlying 9=some .string:=by kernel_rfl
 have c0: (R7 b u w).cell? ⟨b,0,none⟩=some (.pointer (some ⟨b,0,none⟩)):=by rw[Lib.cell_of_heap hbk1];rfl
 have c1: (R7 b u w).cell? ⟨b,1,none⟩=some v:=by rw[Lib.cell_of_heap hbk1];rfl
 go_enter Tryz.func60,Tryz.ntmps60
 go_wp2_with (go_at_call 119;refine(It b u v w hbk).mono ?_)
 rintro e w1 ⟨rfl,rfl⟩
 go_wp2_with (at_builtin;refine Em rfl _ _ 50 9 rfl 5 i0 t50 t9 hi hz0 hz1 hz2 v n xs rfl hown1 t rfl hb ?_)
 intro v' w2 hown2 hg hfr
 have hb2:w2.heap[b]?=some (.cells #[.pointer (some ⟨b,0,none⟩),v] 108 (0,0)):=by
  rw[hg.block b (by rw[hsz1];exact(Array.getElem?_eq_some_iff.1 hbk).1) (fun e=> hne e.symm)]
  exact hbk1
 have d1:w2.cell? ⟨b,1,none⟩=some v:=by rw[Lib.cell_of_heap hb2];rfl
 have f1:w2.frozen? ⟨b,1,none⟩=false:=Lib.frozen_of_heap hb2 1
 obtain⟨ao,n',cap,rfl⟩: ∃ao n' cap,v'= .slice ao n' cap:=by
  rcases hown2.2 with⟨hv,_⟩ | ⟨g,cap,cur,hv,_⟩
  ·exact⟨_,_,_,hv⟩
  ·exact⟨_,_,_,hv⟩
 go_wp2
 go_ret2
 exact⟨rfl,_,w2,hown2,hg,hfr,rfl⟩
end Go.Gv

namespace Go.Gv
open Cod (enc dec)
open Go.Proofs Go.RowKit
set_option maxHeartbeats 1000000 in
theorem K9 (b:Nat) (u:Bool) (v:Value) (l:List UInt8) (w:World) (hbk:w.heap[b]?=some (.cells #[pv b u,v] 108 (0,0))) (hown:w.ownsRow 0 5 1 v l.length (l.map fun c=> Value.int .u8 c.toNat)) (h0:l≠ []):
 Calls Tryz.prog 64 #[.pointer (some ⟨b,0,none⟩)] w fun e w'=> e= .returned (.string ⟨l.toArray⟩)∧ ∃g cap,v= .slice (some ⟨g,0,none⟩) l.length cap∧w'=w.drew.freeze ⟨g,0,none⟩ l.length:=by
 have hl0:l.length≠0:=by simpa using h0
 obtain⟨g,cap,cur,rfl,hbg,hg,hnc,hcm,hcs,htake⟩: ∃g cap cur,v= .slice (some ⟨g,0,none⟩) l.length cap∧0≤g∧w.heap[g]?=some (.cells cur 5 (0,0))∧l.length≤cap∧cap≤maxLen∧cur.size=cap*1∧cur.toList.take (l.length*1)=l.map fun c=> Value.int .u8 c.toNat:=by
  rcases hown.2 with⟨_,hz⟩ | ⟨g,cap,cur,hv,r⟩
  ·exact absurd hz hl0
  ·exact⟨g,cap,cur,hv,r⟩
 have c1:w.drew.cell? ⟨b,1,none⟩=some (.slice (some ⟨g,0,none⟩) l.length cap):=by
  have:w.drew.heap[b]?=some (.cells #[pv b u, .slice (some ⟨g,0,none⟩) l.length cap] 108 (0,0)):=hbk
  rw[Lib.cell_of_heap this];rfl
 have t145:Tryz.prog.underlying 145=some (.pointer 5):=by kernel_rfl
 have hc5:Tryz.prog.cellsOf 5=1:=by kernel_rfl
 have hSD: (Builtin.unsafeSliceData_ #[50] 145 #[.slice (some ⟨g,0,none⟩) l.length cap]).run Tryz.prog w.drew= .ok (.pointer (some ⟨g,0,none⟩)) w.drew:=
  Lib.run_unsafeSliceData_row _ _ _ _ _ _ (by omega)
 have hUS: (Builtin.unsafeString_ #[145,3] 9 #[.pointer (some ⟨g,0,none⟩), .int .i64 l.length]).run Tryz.prog w.drew= .ok (.string ⟨l.toArray⟩) (w.drew.freeze ⟨g,0,none⟩ l.length):=by
  refine Lib.run_unsafeString_row w.drew 145 3 9 5 t145 hc5 g cur.size (by have hg':w.drew.heap[g]?=some (.cells cur 5 (0,0)):=hg;simp[World.shape?,hg']) l h0 (by omega) (by unfold maxLen at hcm;omega) ?_
  intro j x hx
  have:=hown.cells (g:=g) rfl j (.int .u8 x.toNat) (by simp[hx])
  exact this
 have hmx:=ay
 go_enter Tryz.func64,Tryz.ntmps64
 go_wp2
 go_region_o
 all_goals (go_wp2;go_ret;exact⟨rfl,g,cap,rfl,rfl⟩)
theorem CK (w:World) (b i:Nat) (v:Value):GrB w (w.setCell ⟨b,i,none⟩ v) (some b):=
 ⟨⟨rfl,rfl,rfl,by simp,fun k _ hk=> heap_setCell_other w _ k v (fun e=> hk (by rw[e]))⟩,Nat.le_refl _⟩
theorem StW.ds {E:pR} {tp:Nat→Prop} {H:ae} {w:World} (h:StW E tp H w) (dl:List Deferred):StW { E with ds:=dl } tp H w:=⟨h.1,h.2,h.3,h.4,h.5,h.6,h.7⟩
theorem Ps {E:pR} {tp:Nat→Prop} {w:World} {b:Nat} {u:Bool} {v:Value} {s:ByteArray} {H:ae} (h:StW E tp H w) (h0:H 0=some (.tbox 108 b [.v (pv b u), .own 900 v])) (h9:H 900=some (.row v 5 1 (bD s))):
 w.heap[b]?=some (.cells #[pv b u,v] 108 (0,0))∧w.ownsRow 0 5 1 v s.size (Lib.strCells s)∧v.ownBlock≠some b∧v.oneCell'=true:=by
 obtain⟨xs,h1,h2,h3⟩:=h.sat.ok _ _ h0
 obtain⟨ys,k1,k2,k3⟩:=h.sat.ok _ _ h9
 have hx:xs= #[pv b u,v]∧v.oneCell'=true:=by
  obtain⟨l⟩:=xs
  have h2:l.length=2:=h2
  match l,h2 with
  | [x,y],_=>
    have e0:=(h3 0 x _ rfl rfl).2
    have e1:=(h3 1 y _ rfl rfl)
    have e0:=e0.inv_v
    obtain⟨e1a,e1b⟩:=e1
    cases e1b
    subst e0
    exact⟨rfl,e1a⟩
 have hfl:cJ (bD s)=bD s:=AJ (by
  have:=Ee s.data.toList
  exact this)
 have hlen: (bD s).length=s.size:=by simp[bD]
 have hy:ys=Lib.strCells s:=by
  rw[hfl] at k3
  have hl:ys.length=(bD s).length:=by have:=k1.1;omega
  have e:Lib.strCells s=(bD s).map fun d=> match d with | .v x=> x | _=> undef:=by
   unfold Lib.strCells bD
   rw[List.map_map]
   rfl
  rw[e]
  apply List.ext_getElem?
  intro k
  by_cases hk:k < ys.length
  ·have hk2:k < (bD s).length:=by omega
   have g1:=List.getElem?_eq_getElem hk
   have g2:=List.getElem?_eq_getElem hk2
   have:=(k3 k _ _ g1 g2).2
   rw[g1,List.getElem?_map,g2]
   simp only[bD,List.getElem_map] at this ⊢
   rw[this.inv_v]
   rfl
  ·rw[List.getElem?_eq_none (by omega),List.getElem?_eq_none (by simp;omega)]
 subst hy
 rw[hlen] at k1
 refine⟨by rw[←hx.1];exact h1,k1,fun e=> ?_,hx.2⟩
 have:=h.sat.dis 0 900 _ _ b h0 h9 rfl e
 omega
theorem JN {vs:List Value} {m k:Nat} {x:Value} (h:vs[k]?=some x): (vs.toArray++Array.replicate m undef).getD k undef=x:=by
 have hlt:=(List.getElem?_eq_some_iff.1 h).1
 rw[Array.getD_eq_getD_getElem?,Array.getElem?_append_left (by simpa using hlt)]
 simp[h]
theorem SV {vs:List Value} (h:vs.length=2): ∃x0 x1,vs= [x0,x1]:=by
 match vs,h with
 | [x0,x1],_=> exact⟨x0,x1,rfl⟩
theorem Y9 {vs:List Value} (h:vs.length=1): ∃x0,vs= [x0]:=by
 match vs,h with
 | [x0],_=> exact⟨x0,rfl⟩
theorem XH {b:Nat} {u:Bool} {v:Value} {w:World} (hbk:w.heap[b]?=some (.cells #[pv b u,v] 108 (0,0))): (R7 b u w).heap[b]?=some (.cells #[pv b true,v] 108 (0,0)):=by
 cases u with
 | true=> exact hbk
 | false=> exact(heap_setCell_same w b 0 _ 108 _ hbk).trans (by rfl)
theorem ZU (b:Nat) (u:Bool) (w:World):GrB w (R7 b u w) (some b):=by
 cases u with
 | true=> exact fQ _ _
 | false=> exact CK w b 0 _
theorem Ni (b:Nat) (u:Bool) (w:World): (R7 b u w).heap.size=w.heap.size:=by
 cases u with
 | true=> rfl
 | false=> simp[R7]
theorem Ji {Q:Value→D→Prop} {x y:Value} {c d:D} (h1:Q x c) (hx:x.oneCell'=true) (h2:Q y d) (hy:y.oneCell'=true):cO Q [x,y] [c,d]:=by
 intro k z e hz he
 match k with
 | 0=> simp at hz he;subst hz;subst he;exact⟨hx,h1⟩
 | 1=> simp at hz he;subst hz;subst he;exact⟨hy,h2⟩
 | k+2=> simp at hz
theorem WI {tp I:Nat→Prop} {w:World} {v:Value} {s t:ByteArray} (h:w.ownsRow 0 5 1 v (s.size+t.size) (Lib.strCells s++Lib.strCells t)):ResOk (R tp I w) w (.row v 5 1 (bD (s++t))):=by
 have e1:Lib.strCells s++Lib.strCells t=Lib.strCells (s++t):=by
  unfold Lib.strCells
  rw[ByteArray.data_append,Array.toList_append,List.map_append]
 have e2: (bD (s++t)).length=s.size+t.size:=by simp[bD]
 refine⟨Lib.strCells (s++t),by rw[e2,←e1];exact h,fun d hd=> ?_,?_⟩
 ·obtain⟨c,_,rfl⟩:=List.mem_map.1 hd
  exact⟨rfl,rfl⟩
 ·rw[show cJ (bD (s++t))=bD (s++t) from AJ (Ee (s++t).data.toList)]
  intro k y c hy hc
  unfold Lib.strCells at hy
  unfold bD at hc
  rw[List.getElem?_map] at hy hc
  obtain⟨z,hz,rfl⟩:=Option.map_eq_some_iff.1 hy
  rw[hz] at hc
  cases hc
  exact⟨rfl, .int _ _⟩
abbrev s_wstr:Spc:=QD 108 5 (a1 B) (.tup [.any, .any]) (fun z:B=> some z)
def VW (Q:D→ae→Prop) (ds:List D) (H0:ae):Prop:= ∃b u v s t,ds= [.bptr 0 b 0, .v (.string t)]∧H0=aq (aq cZ 900 (some (.row v 5 1 (bD s)))) 0 (some (.tbox 108 b [.v (pv b u), .own 900 v]))∧s.size+t.size≤mi∧
 ∀u' v',Q (.tup [.any, .any]) (aq (aq cZ 900 (some (.row v' 5 1 (bD (s++t))))) 0 (some (.tbox 108 b [.v (pv b u'), .own 900 v'])))
def qic:List aK:= [.tmp 4, .tmp 5]
theorem Du (E:pR) (ds':List D) (H0:ae) (Q:D→ae→Prop) (vs:List Value) (w:World) (RR:Ending→World→Prop) (hds:E.ds= []) (hN:E.N=19) (hlen:vs.length=ds'.length)
 (hst:St E (eS ds') H0 { tmps:=vs.toArray++Array.replicate (Tryz.f60.ntmps -vs.toArray.size) undef,defers:= [] } w) (hV:VW Q ds' H0)
 (hfin: ∀ (a':Act) (w':World) (σ':Sg) (H':ae) (dl:List Deferred),St { E with ds:=dl } σ' H' a' w'→(l8 qic σ' H' fun ds=> Q (dt ds) H')→ ∃v,(results Tryz.f60 a'.tmps).run Tryz.prog w'= .ok v w'∧RR (.returned v) w'):Calls Tryz.prog 60 vs.toArray w RR:=by
 obtain⟨b,u,v,s,t,rfl,rfl,hsz,hQ⟩:=hV
 obtain⟨hd,hN2,tp,hw,hr⟩:=hst
 obtain⟨x0,x1,rfl⟩:=SV hlen
 have e0:x0= .pointer (some ⟨b,0,none⟩):=by
  have h0:=hr 0
  rw[JN (x:=x0) rfl] at h0
  have h0:R tp (cL E.O tp _ w) w x0 (.bptr 0 b 0):=h0
  cases h0
  rfl
 have e1:x1= .string t:=by
  have h0:=hr 1
  rw[JN (x:=x1) rfl] at h0
  have h0:R tp (cL E.O tp _ w) w x1 (.v (.string t)):=h0
  exact h0.inv_v
 clear hr
 subst e0;subst e1
 obtain⟨hbk,hown,hne,hv1⟩:=Ps (b:=b) (u:=u) (v:=v) (s:=s) hw (by simp[aq]) (by simp[aq])
 refine(AH b u v s.size (Lib.strCells s) t w hbk hown hne (by unfold mi at hsz;omega)).mono ?_
 rintro e w' ⟨rfl,v',w2,g1,g2,g3,rfl⟩
 have hv':v'.oneCell'=true:=by
  rcases g1.2 with⟨rfl,_⟩ | ⟨g,cap,cur,rfl,_⟩ <;> rfl
 have hbk1:=XH hbk
 obtain⟨s1,_⟩:=hw.own 0 (some (.tbox 108 b [.v (pv b true), .own 900 v])) (ZU b u w) (fun b' e=> by cases e;exact⟨_,by simp[aq];rfl,rfl⟩) (fun r b' e1 e2=> by cases e1;cases e2;exact .inr ⟨_,by simp[aq];rfl,rfl⟩) (fun m r e=> by
  cases e
  exact⟨_,hbk1,rfl,Ji (.v _ rfl (fun s h=> by cases h)) rfl (.own _ _ hv1) hv1⟩)
 obtain⟨s2,_⟩:=s1.own 900 (some (.row v' 5 1 (bD (s++t)))) g2 (fun b' e=> ⟨.row v 5 1 (bD s),by simp[aq],e⟩) (fun r b' e1 e2=> by
  cases e1
  rcases g3 b' e2 with h | h
  ·exact .inl (by rw[Ni];exact h)
  ·exact .inr ⟨.row v 5 1 (bD s),by simp[aq],h⟩) (fun m r e=> by
  cases e
  exact WI g1)
 have hb2:w2.heap[b]?=some (.cells #[pv b true,v] 108 (0,0)):=by
  rw[g2.block b (by rw[Ni];exact(Array.getElem?_eq_some_iff.1 hbk).1) (fun e=> hne e.symm)]
  exact hbk1
 obtain⟨s3,_⟩:=s2.own 0 (some (.tbox 108 b [.v (pv b true), .own 900 v'])) (CK w2 b 1 v') (fun b' e=> by cases e;exact⟨_,by simp[aq];rfl,rfl⟩) (fun r b' e1 e2=> by cases e1;cases e2;exact .inr ⟨_,by simp[aq];rfl,rfl⟩) (fun m r e=> by
  cases e
  exact⟨_,(heap_setCell_same w2 b 1 _ 108 v' hb2),rfl,Ji (.v _ rfl (fun s h=> by cases h)) rfl (.own _ _ hv') hv'⟩)
 let a':Act:= { tmps:= #[undef,undef,undef,undef, .int .i64 t.size, .nilIface,undef,undef,undef,undef,undef,undef,undef,undef,undef,undef,undef,undef,undef],defers:= [] }
 obtain⟨q,h1,h2⟩:=hfin a' (w2.setCell ⟨b,1,none⟩ v') (fun _=> .any) _ [] ⟨rfl,by rw[hN];rfl,tp,s3.ds [],fun t=> .any _⟩ (by
  have:=hQ true v'
  have e:aq (aq (aq (aq (aq cZ 900 (some (.row v 5 1 (bD s)))) 0 (some (.tbox 108 b [.v (pv b u), .own 900 v]))) 0 (some (.tbox 108 b [.v (pv b true), .own 900 v]))) 900 (some (.row v' 5 1 (bD (s++t))))) 0 (some (.tbox 108 b [.v (pv b true), .own 900 v']))=
   aq (aq cZ 900 (some (.row v' 5 1 (bD (s++t))))) 0 (some (.tbox 108 b [.v (pv b true), .own 900 v'])):=by
   funext i
   simp only[aq]
   by_cases h0:i=0
   ·simp[h0]
   ·by_cases h9:i=900 <;> simp[h0,h9]
  rw[e]
  exact this)
 have hres: (results Tryz.f60 a'.tmps).run Tryz.prog (w2.setCell ⟨b,1,none⟩ v')= .ok (.tuple #[.int .i64 t.size, .nilIface]) (w2.setCell ⟨b,1,none⟩ v'):=by
  simp[results,Tryz.results60,a']
 rw[hres] at h1
 cases h1
 exact h2
theorem ck:Tri Tryz.prog aa s_wstr.pt:=
 Q2 (V:=VW) (rs:=qic) (N:=19) (by simp) (oa Tryz.func60 (by kernel_rfl) rfl) rfl (by kernel_rfl) (fun z=> by show 2≤19;decide) Du fun b x z hp=> by
  obtain⟨t,ht,hl⟩:=hp
  cases ht
  exact⟨b,x.u,x.v,x.s,z,rfl,rfl,hl,fun u' v'=> ⟨⟨u',v',x.s++z⟩,(), .same _,by simp[aq],fun p hp=> by simp at hp;subst hp;simp[aq],z,rfl,rfl⟩⟩
theorem AA (w:World) (g n k:Nat) (h:k≠g): (w.freeze ⟨g,0,none⟩ n).heap[k]?=w.heap[k]?:=by
 unfold World.freeze
 split
 ·rfl
 ·simp only[Array.getElem?_modify]
  rw[if_neg (by omega)]
theorem CM (w:World) (g n:Nat): (w.freeze ⟨g,0,none⟩ n).heap.size=w.heap.size:=by
 unfold World.freeze
 split
 ·rfl
 ·simp
theorem MI (w:World) (p:Addr) (n:Nat): (w.freeze p n).os=w.os∧(w.freeze p n).tape=w.tape∧(w.freeze p n).output=w.output∧(w.freeze p n).drawn=w.drawn:=by
 unfold World.freeze
 split <;> exact⟨rfl,rfl,rfl,rfl⟩
def qa2:PT:=fun d ds H K=> ∃id b u v s,ds= [.bptr id b 0]∧H id=some (.tbox 108 b [.v (pv b u), .own 900 v])∧H 900=some (.row v 5 1 (bD s))∧id≠900∧(s.size≠0∧s.size≤mi)∧K (.v (.string s)) (aq (aq H 900 none) id none)
theorem WE:uD qa2:=fun d ds H K K' hk ⟨id,b,u,v,s,h1,h2,h3,h4,h5,h6⟩=> ⟨id,b,u,v,s,h1,h2,h3,h4,h5,hk _ _ h6⟩
abbrev s_string:Spc:= .gen qa2 WE
def VG (Q:D→ae→Prop) (ds:List D) (H0:ae):Prop:= ∃b u v s,ds= [.bptr 0 b 0]∧H0=aq (aq cZ 900 (some (.row v 5 1 (bD s)))) 0 (some (.tbox 108 b [.v (pv b u), .own 900 v]))∧s.size≠0∧s.size≤mi∧Q (.v (.string s)) cZ
def qid:List aK:= [.tmp 2]
theorem Ol (E:pR) (ds':List D) (H0:ae) (Q:D→ae→Prop) (vs:List Value) (w:World) (RR:Ending→World→Prop) (hds:E.ds= []) (hN:E.N=14) (hlen:vs.length=ds'.length)
 (hst:St E (eS ds') H0 { tmps:=vs.toArray++Array.replicate (Tryz.f64.ntmps -vs.toArray.size) undef,defers:= [] } w) (hV:VG Q ds' H0)
 (hfin: ∀ (a':Act) (w':World) (σ':Sg) (H':ae) (dl:List Deferred),St { E with ds:=dl } σ' H' a' w'→(l8 qid σ' H' fun ds=> Q (dt ds) H')→ ∃v,(results Tryz.f64 a'.tmps).run Tryz.prog w'= .ok v w'∧RR (.returned v) w'):Calls Tryz.prog 64 vs.toArray w RR:=by
 obtain⟨b,u,v,s,rfl,rfl,hsz,hlim,hQ⟩:=hV
 have hmx:s.size≤maxLen:=by unfold mi at hlim;simp only[maxLen];omega
 obtain⟨hd,hN2,tp,hw,hr⟩:=hst
 obtain⟨x0,rfl⟩:=Y9 hlen
 have e0:x0= .pointer (some ⟨b,0,none⟩):=by
  have h0:=hr 0
  rw[JN (x:=x0) rfl] at h0
  have h0:R tp (cL E.O tp _ w) w x0 (.bptr 0 b 0):=h0
  cases h0
  rfl
 clear hr
 subst e0
 obtain⟨hbk,hown,hne,hv1⟩:=Ps (b:=b) (u:=u) (v:=v) (s:=s) hw (by simp[aq]) (by simp[aq])
 have hl:s.data.toList.length=s.size:=by simp
 refine(K9 b u v s.data.toList w hbk (by rw[hl];exact hown) (fun e=> hsz (by rw[←hl,e];rfl))).mono ?_
 rintro e w' ⟨rfl,g,cap,rfl,rfl⟩
 have hes: (⟨s.data.toList.toArray⟩:ByteArray)=s:=rfl
 rw[hes]
 have hg9:=hw.sat.out 900 (.row (.slice (some ⟨g,0,none⟩) s.data.toList.length cap) 5 1 (bD s)) g (by simp[aq]) rfl
 have hown9:eU (aq (aq cZ 900 (some (.row (.slice (some ⟨g,0,none⟩) s.data.toList.length cap) 5 1 (bD s)))) 0 (some (.tbox 108 b [.v (pv b u), .own 900 (.slice (some ⟨g,0,none⟩) s.data.toList.length cap)]))) g:=⟨900, .row (.slice (some ⟨g,0,none⟩) s.data.toList.length cap) 5 1 (bD s),by simp[aq],rfl⟩
 obtain⟨r1,r2,r3,r4⟩:=MI w.drew ⟨g,0,none⟩ s.data.toList.length
 have hstep:Step tp (eU (aq (aq cZ 900 (some (.row (.slice (some ⟨g,0,none⟩) s.data.toList.length cap) 5 1 (bD s)))) 0 (some (.tbox 108 b [.v (pv b u), .own 900 (.slice (some ⟨g,0,none⟩) s.data.toList.length cap)])))) w (w.drew.freeze ⟨g,0,none⟩ s.data.toList.length):=
  ⟨r1,r2,r3,by rw[CM];exact Nat.le_refl _,fun k _ ho _=> AA _ g _ k (fun e=> ho (e ▸hown9)),fun k hk=> .same (AA _ g _ k (fun e=> hg9.2 (e ▸hk))),by rw[r4];exact Nat.le_succ _⟩
 obtain⟨s1,_⟩:=hw.move (H':=cZ) hstep (fun _ h=> h) (fun _ h=> .inl h) (fun k hk=> by rw[CM];exact hw.tpl.1 k hk) (fun k ⟨i,r,h,_⟩=> by simp[cZ] at h) ⟨fun i j r s b h=> by simp[cZ] at h,fun i r b h=> by simp[cZ] at h,fun i r h=> by simp[cZ] at h⟩
 let a':Act:= { tmps:= #[undef,undef, .string s,undef,undef,undef,undef,undef,undef,undef,undef,undef,undef,undef],defers:= [] }
 obtain⟨q,h1,h2⟩:=hfin a' _ (mG (fun _=> .any) 2 (.v (.string s))) cZ [] ⟨rfl,by rw[hN];rfl,tp,s1.ds [],fun t=> by
  by_cases h:t=2
  ·subst h
   exact .str s hmx
  ·simp only[mG,h,if_false]
   exact .any _⟩ hQ
 have hres: (results Tryz.f64 a'.tmps).run Tryz.prog (w.drew.freeze ⟨g,0,none⟩ s.data.toList.length)= .ok (.string s) (w.drew.freeze ⟨g,0,none⟩ s.data.toList.length):=by
  simp[results,Tryz.results64,a']
 rw[hres] at h1
 cases h1
 exact h2
theorem LO:Tri Tryz.prog cp s_string.pt:=by
 refine yH (V:=VG) (rs:=qid) (N:=14) (oa Tryz.func64 (by kernel_rfl) rfl) rfl (by kernel_rfl) Ol ?_
 rintro ds H d K ⟨id,b,u,v,s,rfl,h1,h2,h3,h4,hK⟩
 have hH0: ∀i r,aq (aq cZ 900 (some (.row v 5 1 (bD s)))) 0 (some (.tbox 108 b [.v (pv b u), .own 900 v])) i=some r→(i=0∧r= .tbox 108 b [.v (pv b u), .own 900 v])∨(i=900∧r= .row v 5 1 (bD s)):=by
  intro i r h
  by_cases e:i=0
  ·subst e
   simp only[aq,if_true] at h
   cases h
   exact .inl ⟨rfl,rfl⟩
  ·by_cases e9:i=900
   ·subst e9
    simp[aq] at h
    exact .inr ⟨rfl,h.symm⟩
   ·simp[aq,e,e9,cZ] at h
 refine⟨by show 1≤14;decide, [.bptr 0 b 0],aq (aq cZ 900 (some (.row v 5 1 (bD s)))) 0 (some (.tbox 108 b [.v (pv b u), .own 900 v])),fun i=> if i=0 then id else i, .cons (.bptr _ _ _ _) .nil,fun i r h=> ?_,fun i j r q h h' e=> ?_,fun r H'=> r= .v (.string s)∧H'=cZ,?_,?_⟩
 ·rcases hH0 i r h with⟨rfl,rfl⟩ | ⟨rfl,rfl⟩
  ·exact h1
  ·exact h2
 ·rcases hH0 i r h with⟨rfl,rfl⟩ | ⟨rfl,rfl⟩ <;> rcases hH0 j q h' with⟨rfl,rfl⟩ | ⟨rfl,rfl⟩ <;> simp at e ⊢
  ·exact absurd e h3
  ·exact absurd e.symm h3
 ·exact⟨b,u,v,s,rfl,rfl,h4.1,h4.2,rfl,rfl⟩
 ·rintro r H' ⟨rfl,rfl⟩
  refine⟨.v (.string s),cZ,aq (aq H 900 none) id none,fun _=> none, .same _,fun j q h=> by simp[cZ] at h,hK,fun i q hi=> ?_,fun i j k q q' _ _ h=> by cases h⟩
  by_cases e:i=id
  ·subst e
   simp[aq] at hi
  ·by_cases e9:i=900
   ·subst e9
    simp[aq,e] at hi
   ·simp only[aq,e,e9,if_false] at hi
    refine⟨hi,fun k p hk hk2=> ?_⟩
    rcases hH0 k p hk with⟨rfl,rfl⟩ | ⟨rfl,rfl⟩
    ·simp at hk2
     exact e hk2.symm
    ·simp at hk2
     exact e9 hk2.symm
end Go.Gv

namespace Go.Gv
open Cod (enc dec)
open Go.Proofs Go.RowKit
variable {S S0:Nat→Spc}
theorem Nj (s:ByteArray) (w:World):Calls Tryz.prog 200 #[.string s, .string ⟨#[34]⟩] w fun e w'=> e= .returned (.int .i64 (Lib.countByte s.data.toList 34))∧w'=w:=by
 go_enter Tryz.func200,Tryz.ntmps200
 go_wp2
 rw[run_callFunc_extern Tryz.func219 (by kernel_rfl) (by kernel_rfl) (by kernel_rfl) (e:=Extern.BytealgCount.count) (by kernel_rfl),Lib.run_countString]
 simp only[Result.andThen]
 rw[Oper.upon_value]
 go_wp2
 go_ret
 exact⟨rfl,rfl⟩
abbrev s_count0:Spc:=cY (a2 B B) (fun x=> x.2=⟨#[34]⟩∧(34:UInt8) ∉x.1.data.toList) (enc (X:=Int)) fun x y=> y=0
theorem Dr:Tri Tryz.prog lU s_count0.pt:=by
 refine ID (oa Tryz.func200 (by kernel_rfl) rfl) fun tp I w vs x hp hI hl hv=> ?_
 obtain⟨s,t⟩:=x
 obtain⟨rfl,c1⟩:=hp
 have hview: (a2 B B).view (s,⟨#[34]⟩)= [.v (.string s), .v (.string ⟨#[34]⟩)]:=rfl
 rw[hview] at hl hv
 obtain⟨v0,v1,rfl⟩:=SV hl
 have e0:=LG (hv 0 v0 _ rfl rfl)
 have e1:=LG (hv 1 v1 _ rfl rfl)
 subst e0;subst e1
 refine(Nj s w).mono ?_
 rintro e w' ⟨rfl,rfl⟩
 refine⟨_,0,rfl,rfl,fun tp' I'=> ?_,Below.refl _ _,Nat.le_refl _⟩
 have h0:Lib.countByte s.data.toList 34=0:=List.count_eq_zero.2 c1
 rw[h0]
 exact .int _ _
abbrev A9:Spc:=cY (a4 B B B Int) (fun x=> x.2.1=⟨#[34]⟩∧x.2.2.1=⟨#[34,34]⟩∧x.2.2.2= -1∧(34:UInt8) ∉x.1.data.toList) (enc (X:=B)) fun x y=> y=x.1
theorem zt (h1:S lU=s_count0):Walk me lZ S (a4 B B B Int) (fun x=> x.2.1=⟨#[34]⟩∧x.2.2.1=⟨#[34,34]⟩∧x.2.2.2= -1∧(34:UInt8) ∉x.1.data.toList) (enc (X:=B)) fun x y=> y=x.1:=by
 rintro⟨s,o,n,k⟩ ⟨c1,c2,c3,c4⟩
 simp only at c1 c2 c3 c4
 subst c1;subst c2;subst c3
 have c4': ¬ (34:UInt8) ∈s.data:=fun h=> c4 (Array.mem_toList_iff.2 h)
 simp[me,lZ,h1,c4,c4']
abbrev Ba:Spc:=cY (a3 B B B) (fun x=> x.2.1=⟨#[34]⟩∧x.2.2=⟨#[34,34]⟩∧(34:UInt8) ∉x.1.data.toList) (enc (X:=B)) fun x y=> y=x.1
theorem vk (h1:S gS=A9):Walk jz jt S (a3 B B B) (fun x=> x.2.1=⟨#[34]⟩∧x.2.2=⟨#[34,34]⟩∧(34:UInt8) ∉x.1.data.toList) (enc (X:=B)) fun x y=> y=x.1:=by
 rintro⟨s,o,n⟩ ⟨c1,c2,c4⟩
 simp only at c1 c2 c4
 subst c1;subst c2
 have c4': ¬ (34:UInt8) ∈s.data:=fun h=> c4 (Array.mem_toList_iff.2 h)
 simp[jz,jt,h1,c4,c4']
end Go.Gv
