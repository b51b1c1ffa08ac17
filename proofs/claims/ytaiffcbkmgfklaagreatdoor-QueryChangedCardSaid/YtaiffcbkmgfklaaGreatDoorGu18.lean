/- A part of the framework and of the walks: W70 W71 W72 W73 W74 W75 W78 W62 W63. -/
import Derived.Lib.Builder
import Derived.Lib.AppendStr
import Derived.Lib.FrozenHead
import Derived.Lib.Strings
import Derived.Lib.Walk
import Derived.Lib.Slices
import Derived.Shelf.RegionOpenPlain
import Derived.Lib.UnsafeStr
import Derived.Test.YtaiffcbkmgfklaaGreatDoorGu17
import Derived.Test.YtaiffcbkmgfklaaGreatDoorGu13
import Derived.Test.YtaiffcbkmgfklaaGreatDoorGu14
import Derived.Test.YtaiffcbkmgfklaaGreatDoorGu12
set_option linter.unusedSimpArgs false
set_option linter.unusedVariables false
set_option maxRecDepth 100000

namespace Go.Gv
open Cod (enc dec)
open Go.Proofs Go.RowKit
theorem HR (b:Nat) (w:World) (h0:w.cell? ⟨b,0,none⟩=some (.pointer (some ⟨b,0,none⟩))):
 Calls Tryz.prog 119 #[.pointer (some ⟨b,0,none⟩)] w fun e w'=> e= .returned (.tuple #[])∧w'=w:=by
 obtain⟨j,hj,hjs⟩:=Option.map_eq_some_iff.1 (show(Tryz.prog.info? 106).map (·.size)=some 2 by kernel_rfl)
 have t104:Tryz.prog.underlying 104=some (.pointer 106):=by kernel_rfl
 go_enter Tryz.func119,Tryz.ntmps119
 go_wp2
 rw[Lib.run_neq_ptr_same w _ t104 hj]
 go_wp2
 go_end0
 exact⟨rfl,rfl⟩
theorem EQ (b:Nat) (w:World) (h0:w.cell? ⟨b,0,none⟩=some (.pointer none)) (hsh:w.shape? b=some (108,2)) (hfz:w.frozen? ⟨b,0,none⟩=false):
 Calls Tryz.prog 119 #[.pointer (some ⟨b,0,none⟩)] w fun e w'=> e= .returned (.tuple #[])∧w'=w.setCell ⟨b,0,none⟩ (.pointer (some ⟨b,0,none⟩)):=by
 obtain⟨j,hj,hjs⟩:=Option.map_eq_some_iff.1 (show(Tryz.prog.info? 106).map (·.size)=some 2 by kernel_rfl)
 have t104:Tryz.prog.underlying 104=some (.pointer 106):=by kernel_rfl
 have t155:Tryz.prog.underlying 155=some .unsafePointer:=by kernel_rfl
 have hlies:liesAt Tryz.prog Tryz.prog.depth 108 (2/Tryz.prog.cellsOf 108) 0 106 1=true:=by kernel_rfl
 go_enter Tryz.func119,Tryz.ntmps119
 go_wp2
 rw[Lib.run_to_unsafe w ⟨b,0,none⟩ t104 t155 hj (by rw[hjs];decide) hsh (Nat.zero_lt_succ 1)]
 simp only[Result.andThen]
 rw[Oper.upon_value]
 go_wp2
 rw[run_callFunc_extern Tryz.func148 (by kernel_rfl) (by kernel_rfl) (by kernel_rfl) (e:=Extern.AbiNoEscape.same) (by kernel_rfl)]
 rw[Lib.run_noEscape]
 simp only[Result.andThen]
 rw[Oper.upon_value]
 go_wp2
 rw[Lib.run_from_unsafe w ⟨b,0,none⟩ t155 t104 hj hsh hlies]
 simp only[Result.andThen]
 rw[Oper.upon_value]
 go_wp2
 go_end0
 exact⟨rfl,rfl⟩
section
variable {P:Program} {w:World}
theorem Ok (t u ty e:TypeId) (i:TypeInfo) (ht:P.underlying t=some (.slice e)) (hu:P.underlying u=some .string) (hi:P.info? e=some i) (hz:i.zero=some (.int .u8 0)) (hsize:i.size=1) (hby:i.bytes=1)
 (v:Value) (n:Nat) (xs:List Value) (hown:w.ownsRow 0 e 1 v n xs) (s:ByteArray) (hb:n+s.size≤140737488355328):
 ∃v' w',(Builtin.append_ #[t,u] ty #[v, .string s]).run P w= .ok v' w'∧w'.ownsRow 0 e 1 v' (n+s.size) (xs++Lib.strCells s)∧GrB w w' v.ownBlock∧(∀b,v'.ownBlock=some b→w.heap.size≤b∨v.ownBlock=some b):=by
 have hm:n+s.size≤maxLen:=by simp only[maxLen];omega
 have hxl:xs.length=n:=by simpa using hown.1
 have hlen: (xs++Lib.strCells s).length=(n+s.size) *1:=by rw[List.length_append,hxl,Lib.strCells_length,Nat.mul_one]
 have grown: ∀ (old:Nat),old < n+s.size→ ∀ (row:Option Nat),
  (w.drew.alloc (.cells (xs.toArray++ (Lib.strCells s).toArray++Builtin.zeroCells (Value.int .u8 0).cells (grownCap w (n+s.size) old e - (n+s.size))) e)).ownsRow 0 e 1
    (.slice (some ⟨w.heap.size,0,none⟩) (n+s.size) (grownCap w (n+s.size) old e)) (n+s.size) (xs++Lib.strCells s)∧
  GrB w (w.drew.alloc (.cells (xs.toArray++ (Lib.strCells s).toArray++Builtin.zeroCells (Value.int .u8 0).cells (grownCap w (n+s.size) old e - (n+s.size))) e)) row:=by
  intro old ho row
  have hge:=grownCap_ge w (n+s.size) old e
  have hcm:grownCap w (n+s.size) old e≤maxLen:=grownCap_le_maxLen w (n+s.size) old e hm
  refine⟨⟨hlen, .inr ⟨w.heap.size,_,_,rfl,Nat.zero_le _,heap_alloc_new w.drew _,hge,hcm,?_,?_⟩⟩,⟨⟨rfl,rfl,rfl,by simp,fun k hk _=> RowKit.Below.heap_alloc w.drew _ k hk⟩,Nat.le_succ _⟩⟩
  ·have hz1: (Value.int IntKind.u8 0).cells.size=1:=rfl
   simp only[Array.size_append,List.size_toArray,size_zeroCells,hz1,hxl,Lib.strCells_length]
   omega
  ·simp only[Array.toList_append,List.append_assoc]
   rw[←List.append_assoc,←hlen]
   exact List.take_left
 rcases hown.2 with⟨rfl,rfl⟩ | ⟨g,cap,cur,rfl,hbg,hg,hnc,hcm,hcs,htake⟩
 ·have hx:xs= []:=List.eq_nil_of_length_eq_zero hxl
  subst hx
  by_cases hm0:s.size=0
  ·have hn:Lib.strCells s= []:=List.eq_nil_of_length_eq_zero (by rw[Lib.strCells_length];exact hm0)
   refine⟨.slice none 0 0,w,?_,by rw[hm0,hn];exact World.ownsRow_nil w 0 e 1,fc _ _,fun b hb=> by simp[Value.ownBlock] at hb⟩
   have hf:=Lib.run_firstCells_string (P:=P) w 1 s
   rw[hm0] at hf
   simp[Builtin.append_,run_underlying ht,run_underlying hu,sizeOf,typeInfo,hi,hsize,Builtin.lenOf,hm0,hf]
  ·have hr:=run_append_nil_string (P:=P) w t u ty e i (.int .u8 0) ht hu hi hz s (by omega) (by simp only[maxLen] at hm;omega) (by rw[hby];omega)
   have hgr:=grown 0 (by omega) (Value.ownBlock (.slice none 0 0))
   simp only[Nat.zero_add,List.nil_append,Array.empty_append] at hgr ⊢
   have e1: (s.data.map fun b=> Value.int .u8 b.toNat)=(Lib.strCells s).toArray:=by
    apply Array.ext'
    simp[Lib.strCells]
   rw[e1] at hr
   exact⟨_,_,hr,hgr.1,hgr.2,fun b hb=> .inl (by simp[Value.ownBlock] at hb;omega)⟩
 ·by_cases hroom:n+s.size≤cap
  ·have hcs':cur.size=cap:=by simpa using hcs
   have hr:=Lib.run_append_room_string (P:=P) w t u ty e i ht hu hi hsize g n cap cur hg s hroom (by omega)
   refine⟨_,_,hr,⟨hlen, .inr ⟨g,cap,_,rfl,hbg,setRow_heap w g cur _ e _ hg,hroom,hcm,?_,?_⟩⟩,jh _ _ _,fun b hb=> .inr hb⟩
   ·simp only[List.size_toArray,List.length_append,List.length_take,List.length_drop,Array.length_toList,Lib.strCells_length]
    omega
   ·have ht':cur.toList.take n=xs:=by simpa using htake
    rw[ht',←hlen]
    exact List.take_left
  ·have holds: ∀j u,xs[j]?=some u→w.cell? ((⟨g,0,none⟩:Addr).add j)=some u:=hown.cells (g:=g) rfl
   have hr:=Lib.run_append_grow_string (P:=P) w t u ty e i (.int .u8 0) ht hu hi hz ⟨g,0,none⟩ n cap xs (by rw[hsize];simpa using hxl) holds s (by omega) (by omega) (by rw[hby];exact growslice_fits (by omega) (by omega))
   have hgr:=grown cap (by omega) (Value.ownBlock (.slice (some ⟨g,0,none⟩) n cap))
   exact⟨_,_,hr,hgr.1,hgr.2,fun b hb=> .inl (by simp[Value.ownBlock] at hb;omega)⟩
theorem Fg {ops:Array Oper} {rest:List Oper} {o:Oper} {a:Act} {Q:Exit→Act→World→Prop} (hgd:o.guard=none) (sl x:Operand) (t u:TypeId)
 (ho:o.op= .call { callee:= .builtin .append,args:= #[sl,x],argTypes:= #[t,u] })
 (e:TypeId) (i:TypeInfo) (ht:P.underlying t=some (.slice e)) (hu:P.underlying u=some .string) (hi:P.info? e=some i) (hz:i.zero=some (.int .u8 0))
 (hsize:i.size=1) (hby:i.bytes=1)
 (v:Value) (n:Nat) (xs:List Value) (hs:a.eval sl=v) (hown:w.ownsRow 0 e 1 v n xs) (s:ByteArray) (hx:a.eval x= .string s) (hbytes:n+s.size≤140737488355328)
 (h: ∀v' w',w'.ownsRow 0 e 1 v' (n+s.size) (xs++Lib.strCells s)→GrB w w' v.ownBlock→(∀b,v'.ownBlock=some b→w.heap.size≤b∨v.ownBlock=some b)→wpList P ops Q rest (a.put o.dst v') w'):wpList P ops Q (o::rest) a w:=by
 refine wpList_plain hgd fun K hK=> ?_
 obtain⟨v',w',hr,h2,h3,h4⟩:=Ok (P:=P) (w:=w) t u o.type e i ht hu hi hz hsize hby v n xs hown s hbytes
 unfold Oper.wp execOp
 simp only[ho,resolve,invoke,builtin,Sem.run_bind,Sem.run_pure,Result.andThen_ok,List.map_toArray,List.map_cons,List.map_nil,hs,hx,hr]
 exact hK _ _ (h v' w' h2 h3 h4)
end
def Tg (b:Nat) (u:Bool) (w:World):World:=if u then w else w.setCell ⟨b,0,none⟩ (.pointer (some ⟨b,0,none⟩))
theorem I8 (b:Nat) (u:Bool) (v:Value) (w:World) (hbk:w.heap[b]?=some (.cells #[pv b u,v] 108 (0,0))):Calls Tryz.prog 119 #[.pointer (some ⟨b,0,none⟩)] w fun e w'=> e= .returned (.tuple #[])∧w'=Tg b u w:=by
 cases u with
 | true=> exact HR b w (by rw[Lib.cell_of_heap hbk];rfl)
 | false=> exact EQ b w (by rw[Lib.cell_of_heap hbk];rfl) (by simp[World.shape?,hbk]) (Lib.frozen_of_heap hbk 0)
theorem Tf {b:Nat} {u:Bool} {w:World} (k:Nat) (h:k≠b): (Tg b u w).heap[k]?=w.heap[k]?:=by
 cases u with
 | true=> rfl
 | false=> exact heap_setCell_other w ⟨b,0,none⟩ k _ h
theorem Bw (b:Nat) (u:Bool) (v:Value) (n:Nat) (xs:List Value) (t:ByteArray) (w:World) (hbk:w.heap[b]?=some (.cells #[pv b u,v] 108 (0,0))) (hown:w.ownsRow 0 5 1 v n xs) (hne:v.ownBlock≠some b) (hb:n+t.size≤140737488355328):
 Calls Tryz.prog 60 #[.pointer (some ⟨b,0,none⟩), .string t] w fun e w'=> e= .returned (.tuple #[.int .i64 t.size, .nilIface])∧
  ∃v' w2,w2.ownsRow 0 5 1 v' (n+t.size) (xs++Lib.strCells t)∧GrB (Tg b u w) w2 v.ownBlock∧(∀b,v'.ownBlock=some b→w.heap.size≤b∨v.ownBlock=some b)∧w'=w2.setCell ⟨b,1,none⟩ v':=by
 have hbk1: (Tg b u w).heap[b]?=some (.cells #[.pointer (some ⟨b,0,none⟩),v] 108 (0,0)):=by
  cases u with
  | true=> exact hbk
  | false=> exact(heap_setCell_same w b 0 _ 108 _ hbk).trans (by rfl)
 have hoth:=Tf (b:=b) (u:=u) (w:=w)
 have hown1: (Tg b u w).ownsRow 0 5 1 v n xs:=by
  obtain⟨g1,g2⟩:=hown
  refine⟨g1,?_⟩
  rcases g2 with h | ⟨g,cap,cur,rfl,h2,h3,h4⟩
  ·exact .inl h
  ·exact .inr ⟨g,cap,cur,rfl,h2,by rw[hoth g (fun e=> hne (by rw[e];rfl))];exact h3,h4⟩
 have hsz1: (Tg b u w).heap.size=w.heap.size:=by
  cases u with
  | true=> rfl
  | false=> simp[Tg]
 obtain⟨i0,hi,hi2⟩:=Option.map_eq_some_iff.1 (show(Tryz.prog.info? 5).map (fun i=> (i.zero,i.size,i.bytes))=some (some (.int .u8 0),1,1) by kernel_rfl)
 have hz0:i0.zero=some (.int .u8 0):=by simpa using congrArg (·.1) hi2
 have hz1:i0.size=1:=by simpa using congrArg (·.2.1) hi2
 have hz2:i0.bytes=1:=by simpa using congrArg (·.2.2) hi2
 have t50:Tryz.prog.underlying 50=some (.slice 5):=by kernel_rfl
 have t9:Tryz.prog.underlying 9=some .string:=by kernel_rfl
 have c0: (Tg b u w).cell? ⟨b,0,none⟩=some (.pointer (some ⟨b,0,none⟩)):=by rw[Lib.cell_of_heap hbk1];rfl
 have c1: (Tg b u w).cell? ⟨b,1,none⟩=some v:=by rw[Lib.cell_of_heap hbk1];rfl
 go_enter Tryz.func60,Tryz.ntmps60
 go_wp2_with (go_at_call 119;refine(I8 b u v w hbk).mono ?_)
 rintro e w1 ⟨rfl,rfl⟩
 go_wp2_with (at_builtin;refine Fg rfl _ _ 50 9 rfl 5 i0 t50 t9 hi hz0 hz1 hz2 v n xs rfl hown1 t rfl hb ?_)
 intro v' w2 hown2 hg hfr
 have hb2:w2.heap[b]?=some (.cells #[.pointer (some ⟨b,0,none⟩),v] 108 (0,0)):=by
  rw[hg.block b (by rw[hsz1];exact(Array.getElem?_eq_some_iff.1 hbk).1) (fun e=> hne e.symm)]
  exact hbk1
 have d1:w2.cell? ⟨b,1,none⟩=some v:=by rw[Lib.cell_of_heap hb2];rfl
 have f1:w2.frozen? ⟨b,1,none⟩=false:=Lib.frozen_of_heap hb2 1
 obtain⟨ao,n',cap,rfl⟩: ∃ao n' cap,v'= .slice ao n' cap:=by
  rcases hown2.2 with⟨hv,_⟩ | ⟨g,cap,cur,hv,_⟩
  ·exact⟨_,_,_,hv⟩
  ·exact⟨_,_,_,hv⟩
 go_wp2
 go_ret2
 exact⟨rfl,_,w2,hown2,hg,hfr,rfl⟩
end Go.Gv

namespace Go.Gv
open Cod (enc dec)
open Go.Proofs Go.RowKit
set_option maxHeartbeats 1000000 in
theorem L2 (b:Nat) (u:Bool) (v:Value) (l:List UInt8) (w:World) (hbk:w.heap[b]?=some (.cells #[pv b u,v] 108 (0,0))) (hown:w.ownsRow 0 5 1 v l.length (l.map fun c=> Value.int .u8 c.toNat)) (h0:l≠ []):
 Calls Tryz.prog 64 #[.pointer (some ⟨b,0,none⟩)] w fun e w'=> e= .returned (.string ⟨l.toArray⟩)∧ ∃g cap,v= .slice (some ⟨g,0,none⟩) l.length cap∧w'=w.drew.freeze ⟨g,0,none⟩ l.length:=by
 have hl0:l.length≠0:=by simpa using h0
 obtain⟨g,cap,cur,rfl,hbg,hg,hnc,hcm,hcs,htake⟩: ∃g cap cur,v= .slice (some ⟨g,0,none⟩) l.length cap∧0≤g∧w.heap[g]?=some (.cells cur 5 (0,0))∧l.length≤cap∧cap≤maxLen∧cur.size=cap*1∧cur.toList.take (l.length*1)=l.map fun c=> Value.int .u8 c.toNat:=by
  rcases hown.2 with⟨_,hz⟩ | ⟨g,cap,cur,hv,r⟩
  ·exact absurd hz hl0
  ·exact⟨g,cap,cur,hv,r⟩
 have c1:w.drew.cell? ⟨b,1,none⟩=some (.slice (some ⟨g,0,none⟩) l.length cap):=by
  have:w.drew.heap[b]?=some (.cells #[pv b u, .slice (some ⟨g,0,none⟩) l.length cap] 108 (0,0)):=hbk
  rw[Lib.cell_of_heap this];rfl
 have t145:Tryz.prog.underlying 145=some (.pointer 5):=by kernel_rfl
 have hc5:Tryz.prog.cellsOf 5=1:=by kernel_rfl
 have hSD: (Builtin.unsafeSliceData_ #[50] 145 #[.slice (some ⟨g,0,none⟩) l.length cap]).run Tryz.prog w.drew= .ok (.pointer (some ⟨g,0,none⟩)) w.drew:=
  Lib.run_unsafeSliceData_row _ _ _ _ _ _ (by omega)
 have hUS: (Builtin.unsafeString_ #[145,3] 9 #[.pointer (some ⟨g,0,none⟩), .int .i64 l.length]).run Tryz.prog w.drew= .ok (.string ⟨l.toArray⟩) (w.drew.freeze ⟨g,0,none⟩ l.length):=by
  refine Lib.run_unsafeString_row w.drew 145 3 9 5 t145 hc5 g cur.size (by have hg':w.drew.heap[g]?=some (.cells cur 5 (0,0)):=hg;simp[World.shape?,hg']) l h0 (by omega) (by unfold maxLen at hcm;omega) ?_
  intro j x hx
  have:=hown.cells (g:=g) rfl j (.int .u8 x.toNat) (by simp[hx])
  exact this
 have hmx:=ay
 go_enter Tryz.func64,Tryz.ntmps64
 go_wp2
 go_region_o
 all_goals (go_wp2;go_ret;exact⟨rfl,g,cap,rfl,rfl⟩)
theorem DY (w:World) (b i:Nat) (v:Value):GrB w (w.setCell ⟨b,i,none⟩ v) (some b):=
 ⟨⟨rfl,rfl,rfl,by simp,fun k _ hk=> heap_setCell_other w _ k v (fun e=> hk (by rw[e]))⟩,Nat.le_refl _⟩
theorem StW.ds {E:pR} {tp:Nat→Prop} {H:ab} {w:World} (h:StW E tp H w) (dl:List Deferred):StW { E with ds:=dl } tp H w:=⟨h.1,h.2,h.3,h.4,h.5,h.6,h.7⟩
theorem Qq {E:pR} {tp:Nat→Prop} {w:World} {b:Nat} {u:Bool} {v:Value} {s:ByteArray} {H:ab} (h:StW E tp H w) (h0:H 0=some (.tbox 108 b [.v (pv b u), .own 900 v])) (h9:H 900=some (.row v 5 1 (bD s))):
 w.heap[b]?=some (.cells #[pv b u,v] 108 (0,0))∧w.ownsRow 0 5 1 v s.size (Lib.strCells s)∧v.ownBlock≠some b∧v.oneCell'=true:=by
 obtain⟨xs,h1,h2,h3⟩:=h.sat.ok _ _ h0
 obtain⟨ys,k1,k2,k3⟩:=h.sat.ok _ _ h9
 have hx:xs= #[pv b u,v]∧v.oneCell'=true:=by
  obtain⟨l⟩:=xs
  have h2:l.length=2:=h2
  match l,h2 with
  | [x,y],_=>
    have e0:=(h3 0 x _ rfl rfl).2
    have e1:=(h3 1 y _ rfl rfl)
    have e0:=e0.inv_v
    obtain⟨e1a,e1b⟩:=e1
    cases e1b
    subst e0
    exact⟨rfl,e1a⟩
 have hfl:cj (bD s)=bD s:=By (by
  have:=E8 s.data.toList
  exact this)
 have hlen: (bD s).length=s.size:=by simp[bD]
 have hy:ys=Lib.strCells s:=by
  rw[hfl] at k3
  have hl:ys.length=(bD s).length:=by have:=k1.1;omega
  have e:Lib.strCells s=(bD s).map fun d=> match d with | .v x=> x | _=> undef:=by
   unfold Lib.strCells bD
   rw[List.map_map]
   rfl
  rw[e]
  apply List.ext_getElem?
  intro k
  by_cases hk:k < ys.length
  ·have hk2:k < (bD s).length:=by omega
   have g1:=List.getElem?_eq_getElem hk
   have g2:=List.getElem?_eq_getElem hk2
   have:=(k3 k _ _ g1 g2).2
   rw[g1,List.getElem?_map,g2]
   simp only[bD,List.getElem_map] at this ⊢
   rw[this.inv_v]
   rfl
  ·rw[List.getElem?_eq_none (by omega),List.getElem?_eq_none (by simp;omega)]
 subst hy
 rw[hlen] at k1
 refine⟨by rw[←hx.1];exact h1,k1,fun e=> ?_,hx.2⟩
 have:=h.sat.dis 0 900 _ _ b h0 h9 rfl e
 omega
theorem KA {vs:List Value} {m k:Nat} {x:Value} (h:vs[k]?=some x): (vs.toArray++Array.replicate m undef).getD k undef=x:=by
 have hlt:=(List.getElem?_eq_some_iff.1 h).1
 rw[Array.getD_eq_getD_getElem?,Array.getElem?_append_left (by simpa using hlt)]
 simp[h]
theorem Uj {vs:List Value} (h:vs.length=2): ∃x0 x1,vs= [x0,x1]:=by
 match vs,h with
 | [x0,x1],_=> exact⟨x0,x1,rfl⟩
theorem qas {vs:List Value} (h:vs.length=1): ∃x0,vs= [x0]:=by
 match vs,h with
 | [x0],_=> exact⟨x0,rfl⟩
theorem Y1 {b:Nat} {u:Bool} {v:Value} {w:World} (hbk:w.heap[b]?=some (.cells #[pv b u,v] 108 (0,0))): (Tg b u w).heap[b]?=some (.cells #[pv b true,v] 108 (0,0)):=by
 cases u with
 | true=> exact hbk
 | false=> exact(heap_setCell_same w b 0 _ 108 _ hbk).trans (by rfl)
theorem qbj (b:Nat) (u:Bool) (w:World):GrB w (Tg b u w) (some b):=by
 cases u with
 | true=> exact fc _ _
 | false=> exact DY w b 0 _
theorem N9 (b:Nat) (u:Bool) (w:World): (Tg b u w).heap.size=w.heap.size:=by
 cases u with
 | true=> rfl
 | false=> simp[Tg]
theorem JY {Q:Value→D→Prop} {x y:Value} {c d:D} (h1:Q x c) (hx:x.oneCell'=true) (h2:Q y d) (hy:y.oneCell'=true):ct Q [x,y] [c,d]:=by
 intro k z e hz he
 match k with
 | 0=> simp at hz he;subst hz;subst he;exact⟨hx,h1⟩
 | 1=> simp at hz he;subst hz;subst he;exact⟨hy,h2⟩
 | k+2=> simp at hz
theorem Yg {tp I:Nat→Prop} {w:World} {v:Value} {s t:ByteArray} (h:w.ownsRow 0 5 1 v (s.size+t.size) (Lib.strCells s++Lib.strCells t)):ResOk (R tp I w) w (.row v 5 1 (bD (s++t))):=by
 have e1:Lib.strCells s++Lib.strCells t=Lib.strCells (s++t):=by
  unfold Lib.strCells
  rw[ByteArray.data_append,Array.toList_append,List.map_append]
 have e2: (bD (s++t)).length=s.size+t.size:=by simp[bD]
 refine⟨Lib.strCells (s++t),by rw[e2,←e1];exact h,fun d hd=> ?_,?_⟩
 ·obtain⟨c,_,rfl⟩:=List.mem_map.1 hd
  exact⟨rfl,rfl⟩
 ·rw[show cj (bD (s++t))=bD (s++t) from By (E8 (s++t).data.toList)]
  intro k y c hy hc
  unfold Lib.strCells at hy
  unfold bD at hc
  rw[List.getElem?_map] at hy hc
  obtain⟨z,hz,rfl⟩:=Option.map_eq_some_iff.1 hy
  rw[hz] at hc
  cases hc
  exact⟨rfl, .int _ _⟩
abbrev s_wstr:Spc:=XH 108 5 (a1 B) (.tup [.any, .any]) (fun z:B=> some z)
def VW (Q:D→ab→Prop) (ds:List D) (H0:ab):Prop:= ∃b u v s t,ds= [.bptr 0 b 0, .v (.string t)]∧H0=au (au cF 900 (some (.row v 5 1 (bD s)))) 0 (some (.tbox 108 b [.v (pv b u), .own 900 v]))∧s.size+t.size≤rl∧
 ∀u' v',Q (.tup [.any, .any]) (au (au cF 900 (some (.row v' 5 1 (bD (s++t))))) 0 (some (.tbox 108 b [.v (pv b u'), .own 900 v'])))
def qjS:List aI:= [.tmp 4, .tmp 5]
theorem En (E:pR) (ds':List D) (H0:ab) (Q:D→ab→Prop) (vs:List Value) (w:World) (RR:Ending→World→Prop) (hds:E.ds= []) (hN:E.N=19) (hlen:vs.length=ds'.length)
 (hst:St E (d9 ds') H0 { tmps:=vs.toArray++Array.replicate (Tryz.f60.ntmps -vs.toArray.size) undef,defers:= [] } w) (hV:VW Q ds' H0)
 (hfin: ∀ (a':Act) (w':World) (σ':Sg) (H':ab) (dl:List Deferred),St { E with ds:=dl } σ' H' a' w'→(ln qjS σ' H' fun ds=> Q (cR ds) H')→ ∃v,(results Tryz.f60 a'.tmps).run Tryz.prog w'= .ok v w'∧RR (.returned v) w'):Calls Tryz.prog 60 vs.toArray w RR:=by
 obtain⟨b,u,v,s,t,rfl,rfl,hsz,hQ⟩:=hV
 obtain⟨hd,hN2,tp,hw,hr⟩:=hst
 obtain⟨x0,x1,rfl⟩:=Uj hlen
 have e0:x0= .pointer (some ⟨b,0,none⟩):=by
  have h0:=hr 0
  rw[KA (x:=x0) rfl] at h0
  have h0:R tp (cm E.O tp _ w) w x0 (.bptr 0 b 0):=h0
  cases h0
  rfl
 have e1:x1= .string t:=by
  have h0:=hr 1
  rw[KA (x:=x1) rfl] at h0
  have h0:R tp (cm E.O tp _ w) w x1 (.v (.string t)):=h0
  exact h0.inv_v
 clear hr
 subst e0;subst e1
 obtain⟨hbk,hown,hne,hv1⟩:=Qq (b:=b) (u:=u) (v:=v) (s:=s) hw (by simp[au]) (by simp[au])
 refine(Bw b u v s.size (Lib.strCells s) t w hbk hown hne (by unfold rl at hsz;omega)).mono ?_
 rintro e w' ⟨rfl,v',w2,g1,g2,g3,rfl⟩
 have hv':v'.oneCell'=true:=by
  rcases g1.2 with⟨rfl,_⟩ | ⟨g,cap,cur,rfl,_⟩ <;> rfl
 have hbk1:=Y1 hbk
 obtain⟨s1,_⟩:=hw.own 0 (some (.tbox 108 b [.v (pv b true), .own 900 v])) (qbj b u w) (fun b' e=> by cases e;exact⟨_,by simp[au];rfl,rfl⟩) (fun r b' e1 e2=> by cases e1;cases e2;exact .inr ⟨_,by simp[au];rfl,rfl⟩) (fun m r e=> by
  cases e
  exact⟨_,hbk1,rfl,JY (.v _ rfl (fun s h=> by cases h)) rfl (.own _ _ hv1) hv1⟩)
 obtain⟨s2,_⟩:=s1.own 900 (some (.row v' 5 1 (bD (s++t)))) g2 (fun b' e=> ⟨.row v 5 1 (bD s),by simp[au],e⟩) (fun r b' e1 e2=> by
  cases e1
  rcases g3 b' e2 with h | h
  ·exact .inl (by rw[N9];exact h)
  ·exact .inr ⟨.row v 5 1 (bD s),by simp[au],h⟩) (fun m r e=> by
  cases e
  exact Yg g1)
 have hb2:w2.heap[b]?=some (.cells #[pv b true,v] 108 (0,0)):=by
  rw[g2.block b (by rw[N9];exact(Array.getElem?_eq_some_iff.1 hbk).1) (fun e=> hne e.symm)]
  exact hbk1
 obtain⟨s3,_⟩:=s2.own 0 (some (.tbox 108 b [.v (pv b true), .own 900 v'])) (DY w2 b 1 v') (fun b' e=> by cases e;exact⟨_,by simp[au];rfl,rfl⟩) (fun r b' e1 e2=> by cases e1;cases e2;exact .inr ⟨_,by simp[au];rfl,rfl⟩) (fun m r e=> by
  cases e
  exact⟨_,(heap_setCell_same w2 b 1 _ 108 v' hb2),rfl,JY (.v _ rfl (fun s h=> by cases h)) rfl (.own _ _ hv') hv'⟩)
 let a':Act:= { tmps:= #[undef,undef,undef,undef, .int .i64 t.size, .nilIface,undef,undef,undef,undef,undef,undef,undef,undef,undef,undef,undef,undef,undef],defers:= [] }
 obtain⟨q,h1,h2⟩:=hfin a' (w2.setCell ⟨b,1,none⟩ v') (fun _=> .any) _ [] ⟨rfl,by rw[hN];rfl,tp,s3.ds [],fun t=> .any _⟩ (by
  have:=hQ true v'
  have e:au (au (au (au (au cF 900 (some (.row v 5 1 (bD s)))) 0 (some (.tbox 108 b [.v (pv b u), .own 900 v]))) 0 (some (.tbox 108 b [.v (pv b true), .own 900 v]))) 900 (some (.row v' 5 1 (bD (s++t))))) 0 (some (.tbox 108 b [.v (pv b true), .own 900 v']))=
   au (au cF 900 (some (.row v' 5 1 (bD (s++t))))) 0 (some (.tbox 108 b [.v (pv b true), .own 900 v'])):=by
   funext i
   simp only[au]
   by_cases h0:i=0
   ·simp[h0]
   ·by_cases h9:i=900 <;> simp[h0,h9]
  rw[e]
  exact this)
 have hres: (results Tryz.f60 a'.tmps).run Tryz.prog (w2.setCell ⟨b,1,none⟩ v')= .ok (.tuple #[.int .i64 t.size, .nilIface]) (w2.setCell ⟨b,1,none⟩ v'):=by
  simp[results,Tryz.results60,a']
 rw[hres] at h1
 cases h1
 exact h2
theorem iw:Tri Tryz.prog ac s_wstr.pt:=
 RW (V:=VW) (rs:=qjS) (N:=19) (by simp) (pV Tryz.func60 (by kernel_rfl) rfl) rfl (by kernel_rfl) (fun z=> by show 2≤19;decide) En fun b x z hp=> by
  obtain⟨t,ht,hl⟩:=hp
  cases ht
  exact⟨b,x.u,x.v,x.s,z,rfl,rfl,hl,fun u' v'=> ⟨⟨u',v',x.s++z⟩,(), .same _,by simp[au],fun p hp=> by simp at hp;subst hp;simp[au],z,rfl,rfl⟩⟩
theorem Bo (w:World) (g n k:Nat) (h:k≠g): (w.freeze ⟨g,0,none⟩ n).heap[k]?=w.heap[k]?:=by
 unfold World.freeze
 split
 ·rfl
 ·simp only[Array.getElem?_modify]
  rw[if_neg (by omega)]
theorem D0 (w:World) (g n:Nat): (w.freeze ⟨g,0,none⟩ n).heap.size=w.heap.size:=by
 unfold World.freeze
 split
 ·rfl
 ·simp
theorem NG (w:World) (p:Addr) (n:Nat): (w.freeze p n).os=w.os∧(w.freeze p n).tape=w.tape∧(w.freeze p n).output=w.output∧(w.freeze p n).drawn=w.drawn:=by
 unfold World.freeze
 split <;> exact⟨rfl,rfl,rfl,rfl⟩
def qcr:PT:=fun d ds H K=> ∃id b u v s,ds= [.bptr id b 0]∧H id=some (.tbox 108 b [.v (pv b u), .own 900 v])∧H 900=some (.row v 5 1 (bD s))∧id≠900∧(s.size≠0∧s.size≤rl)∧K (.v (.string s)) (au (au H 900 none) id none)
theorem Yd:uE qcr:=fun d ds H K K' hk ⟨id,b,u,v,s,h1,h2,h3,h4,h5,h6⟩=> ⟨id,b,u,v,s,h1,h2,h3,h4,h5,hk _ _ h6⟩
abbrev s_string:Spc:= .gen qcr Yd
def VG (Q:D→ab→Prop) (ds:List D) (H0:ab):Prop:= ∃b u v s,ds= [.bptr 0 b 0]∧H0=au (au cF 900 (some (.row v 5 1 (bD s)))) 0 (some (.tbox 108 b [.v (pv b u), .own 900 v]))∧s.size≠0∧s.size≤rl∧Q (.v (.string s)) cF
def qjT:List aI:= [.tmp 2]
theorem Pk (E:pR) (ds':List D) (H0:ab) (Q:D→ab→Prop) (vs:List Value) (w:World) (RR:Ending→World→Prop) (hds:E.ds= []) (hN:E.N=14) (hlen:vs.length=ds'.length)
 (hst:St E (d9 ds') H0 { tmps:=vs.toArray++Array.replicate (Tryz.f64.ntmps -vs.toArray.size) undef,defers:= [] } w) (hV:VG Q ds' H0)
 (hfin: ∀ (a':Act) (w':World) (σ':Sg) (H':ab) (dl:List Deferred),St { E with ds:=dl } σ' H' a' w'→(ln qjT σ' H' fun ds=> Q (cR ds) H')→ ∃v,(results Tryz.f64 a'.tmps).run Tryz.prog w'= .ok v w'∧RR (.returned v) w'):Calls Tryz.prog 64 vs.toArray w RR:=by
 obtain⟨b,u,v,s,rfl,rfl,hsz,hlim,hQ⟩:=hV
 have hmx:s.size≤maxLen:=by unfold rl at hlim;simp only[maxLen];omega
 obtain⟨hd,hN2,tp,hw,hr⟩:=hst
 obtain⟨x0,rfl⟩:=qas hlen
 have e0:x0= .pointer (some ⟨b,0,none⟩):=by
  have h0:=hr 0
  rw[KA (x:=x0) rfl] at h0
  have h0:R tp (cm E.O tp _ w) w x0 (.bptr 0 b 0):=h0
  cases h0
  rfl
 clear hr
 subst e0
 obtain⟨hbk,hown,hne,hv1⟩:=Qq (b:=b) (u:=u) (v:=v) (s:=s) hw (by simp[au]) (by simp[au])
 have hl:s.data.toList.length=s.size:=by simp
 refine(L2 b u v s.data.toList w hbk (by rw[hl];exact hown) (fun e=> hsz (by rw[←hl,e];rfl))).mono ?_
 rintro e w' ⟨rfl,g,cap,rfl,rfl⟩
 have hes: (⟨s.data.toList.toArray⟩:ByteArray)=s:=rfl
 rw[hes]
 have hg9:=hw.sat.out 900 (.row (.slice (some ⟨g,0,none⟩) s.data.toList.length cap) 5 1 (bD s)) g (by simp[au]) rfl
 have hown9:eR (au (au cF 900 (some (.row (.slice (some ⟨g,0,none⟩) s.data.toList.length cap) 5 1 (bD s)))) 0 (some (.tbox 108 b [.v (pv b u), .own 900 (.slice (some ⟨g,0,none⟩) s.data.toList.length cap)]))) g:=⟨900, .row (.slice (some ⟨g,0,none⟩) s.data.toList.length cap) 5 1 (bD s),by simp[au],rfl⟩
 obtain⟨r1,r2,r3,r4⟩:=NG w.drew ⟨g,0,none⟩ s.data.toList.length
 have hstep:Step tp (eR (au (au cF 900 (some (.row (.slice (some ⟨g,0,none⟩) s.data.toList.length cap) 5 1 (bD s)))) 0 (some (.tbox 108 b [.v (pv b u), .own 900 (.slice (some ⟨g,0,none⟩) s.data.toList.length cap)])))) w (w.drew.freeze ⟨g,0,none⟩ s.data.toList.length):=
  ⟨r1,r2,r3,by rw[D0];exact Nat.le_refl _,fun k _ ho _=> Bo _ g _ k (fun e=> ho (e ▸hown9)),fun k hk=> .same (Bo _ g _ k (fun e=> hg9.2 (e ▸hk))),by rw[r4];exact Nat.le_succ _⟩
 obtain⟨s1,_⟩:=hw.move (H':=cF) hstep (fun _ h=> h) (fun _ h=> .inl h) (fun k hk=> by rw[D0];exact hw.tpl k hk) (fun k ⟨i,r,h,_⟩=> by simp[cF] at h) ⟨fun i j r s b h=> by simp[cF] at h,fun i r b h=> by simp[cF] at h,fun i r h=> by simp[cF] at h⟩
 let a':Act:= { tmps:= #[undef,undef, .string s,undef,undef,undef,undef,undef,undef,undef,undef,undef,undef,undef],defers:= [] }
 obtain⟨q,h1,h2⟩:=hfin a' _ (l5 (fun _=> .any) 2 (.v (.string s))) cF [] ⟨rfl,by rw[hN];rfl,tp,s1.ds [],fun t=> by
  by_cases h:t=2
  ·subst h
   exact .str s hmx
  ·simp only[l5,h,if_false]
   exact .any _⟩ hQ
 have hres: (results Tryz.f64 a'.tmps).run Tryz.prog (w.drew.freeze ⟨g,0,none⟩ s.data.toList.length)= .ok (.string s) (w.drew.freeze ⟨g,0,none⟩ s.data.toList.length):=by
  simp[results,Tryz.results64,a']
 rw[hres] at h1
 cases h1
 exact h2
theorem Us:Tri Tryz.prog dh s_string.pt:=by
 refine yM (V:=VG) (rs:=qjT) (N:=14) (pV Tryz.func64 (by kernel_rfl) rfl) rfl (by kernel_rfl) Pk ?_
 rintro ds H d K ⟨id,b,u,v,s,rfl,h1,h2,h3,h4,hK⟩
 have hH0: ∀i r,au (au cF 900 (some (.row v 5 1 (bD s)))) 0 (some (.tbox 108 b [.v (pv b u), .own 900 v])) i=some r→(i=0∧r= .tbox 108 b [.v (pv b u), .own 900 v])∨(i=900∧r= .row v 5 1 (bD s)):=by
  intro i r h
  by_cases e:i=0
  ·subst e
   simp only[au,if_true] at h
   cases h
   exact .inl ⟨rfl,rfl⟩
  ·by_cases e9:i=900
   ·subst e9
    simp[au] at h
    exact .inr ⟨rfl,h.symm⟩
   ·simp[au,e,e9,cF] at h
 refine⟨by show 1≤14;decide, [.bptr 0 b 0],au (au cF 900 (some (.row v 5 1 (bD s)))) 0 (some (.tbox 108 b [.v (pv b u), .own 900 v])),fun i=> if i=0 then id else i, .cons (.bptr _ _ _ _) .nil,fun i r h=> ?_,fun i j r q h h' e=> ?_,fun r H'=> r= .v (.string s)∧H'=cF,?_,?_⟩
 ·rcases hH0 i r h with⟨rfl,rfl⟩ | ⟨rfl,rfl⟩
  ·exact h1
  ·exact h2
 ·rcases hH0 i r h with⟨rfl,rfl⟩ | ⟨rfl,rfl⟩ <;> rcases hH0 j q h' with⟨rfl,rfl⟩ | ⟨rfl,rfl⟩ <;> simp at e ⊢
  ·exact absurd e h3
  ·exact absurd e.symm h3
 ·exact⟨b,u,v,s,rfl,rfl,h4.1,h4.2,rfl,rfl⟩
 ·rintro r H' ⟨rfl,rfl⟩
  refine⟨.v (.string s),cF,au (au H 900 none) id none,fun _=> none, .same _,fun j q h=> by simp[cF] at h,hK,fun i q hi=> ?_,fun i j k q q' _ _ h=> by cases h⟩
  by_cases e:i=id
  ·subst e
   simp[au] at hi
  ·by_cases e9:i=900
   ·subst e9
    simp[au,e] at hi
   ·simp only[au,e,e9,if_false] at hi
    refine⟨hi,fun k p hk hk2=> ?_⟩
    rcases hH0 k p hk with⟨rfl,rfl⟩ | ⟨rfl,rfl⟩
    ·simp at hk2
     exact e hk2.symm
    ·simp at hk2
     exact e9 hk2.symm
end Go.Gv

namespace Go.Gv
open Cod (enc dec)
open Go.Proofs Go.RowKit
variable {S S0:Nat→Spc}
theorem Oa (s:ByteArray) (w:World):Calls Tryz.prog 200 #[.string s, .string ⟨#[34]⟩] w fun e w'=> e= .returned (.int .i64 (Lib.countByte s.data.toList 34))∧w'=w:=by
 go_enter Tryz.func200,Tryz.ntmps200
 go_wp2
 rw[run_callFunc_extern Tryz.func219 (by kernel_rfl) (by kernel_rfl) (by kernel_rfl) (e:=Extern.BytealgCount.count) (by kernel_rfl),Lib.run_countString]
 simp only[Result.andThen]
 rw[Oper.upon_value]
 go_wp2
 go_ret
 exact⟨rfl,rfl⟩
abbrev s_count0:Spc:=dG (a2 B B) (fun x=> x.2=⟨#[34]⟩∧(34:UInt8) ∉x.1.data.toList) (enc (X:=Int)) fun x y=> y=0
theorem El:Tri Tryz.prog kX s_count0.pt:=by
 refine Ji (pV Tryz.func200 (by kernel_rfl) rfl) fun tp I w vs x hp hI hl hv=> ?_
 obtain⟨s,t⟩:=x
 obtain⟨rfl,c1⟩:=hp
 have hview: (a2 B B).view (s,⟨#[34]⟩)= [.v (.string s), .v (.string ⟨#[34]⟩)]:=rfl
 rw[hview] at hl hv
 obtain⟨v0,v1,rfl⟩:=Uj hl
 have e0:=Qt (hv 0 v0 _ rfl rfl)
 have e1:=Qt (hv 1 v1 _ rfl rfl)
 subst e0;subst e1
 refine(Oa s w).mono ?_
 rintro e w' ⟨rfl,rfl⟩
 refine⟨_,0,rfl,rfl,fun tp' I'=> ?_,Below.refl _ _,Nat.le_refl _⟩
 have h0:Lib.countByte s.data.toList 34=0:=List.count_eq_zero.2 c1
 rw[h0]
 exact .int _ _
abbrev B1:Spc:=dG (a4 B B B Int) (fun x=> x.2.1=⟨#[34]⟩∧x.2.2.1=⟨#[34,34]⟩∧x.2.2.2= -1∧(34:UInt8) ∉x.1.data.toList) (enc (X:=B)) fun x y=> y=x.1
theorem z9 (h1:S kX=s_count0):Walk lv kY S (a4 B B B Int) (fun x=> x.2.1=⟨#[34]⟩∧x.2.2.1=⟨#[34,34]⟩∧x.2.2.2= -1∧(34:UInt8) ∉x.1.data.toList) (enc (X:=B)) fun x y=> y=x.1:=by
 rintro⟨s,o,n,k⟩ ⟨c1,c2,c3,c4⟩
 simp only at c1 c2 c3 c4
 subst c1;subst c2;subst c3
 have c4': ¬ (34:UInt8) ∈s.data:=fun h=> c4 (Array.mem_toList_iff.2 h)
 simp[lv,kY,h1,c4,c4']
abbrev B2:Spc:=dG (a3 B B B) (fun x=> x.2.1=⟨#[34]⟩∧x.2.2=⟨#[34,34]⟩∧(34:UInt8) ∉x.1.data.toList) (enc (X:=B)) fun x y=> y=x.1
theorem vt (h1:S gi=B1):Walk iI iC S (a3 B B B) (fun x=> x.2.1=⟨#[34]⟩∧x.2.2=⟨#[34,34]⟩∧(34:UInt8) ∉x.1.data.toList) (enc (X:=B)) fun x y=> y=x.1:=by
 rintro⟨s,o,n⟩ ⟨c1,c2,c4⟩
 simp only at c1 c2 c4
 subst c1;subst c2
 have c4': ¬ (34:UInt8) ∈s.data:=fun h=> c4 (Array.mem_toList_iff.2 h)
 simp[iI,iC,h1,c4,c4']
end Go.Gv

namespace Go.Gv
open Cod (enc dec)
open Go.Proofs
variable {S S0:Nat→Spc}
def na (s:B):Option B:=if(34:UInt8) ∈s.data.toList then none else some (((⟨#[34]⟩:B) ++s) ++ ⟨#[34]⟩)
def iy (z:B×Bool):Option B:=(na z.1).map fun t=> if z.2 then t++ ⟨#[37,99]⟩ else t
def HS (x:Cond):Option B:=if x.op=1 then some ⟨#[91,93]⟩ else if x.op=2 then(iy (x.val,x.fold)).map fun t=> if x.name=E0 then t else(x.name++ ⟨#[61]⟩) ++t else none
def nC (x:Cond):Prop:=x.op=1∨x.op=2∧x.name=E0
instance (x:Cond):Decidable (nC x):=by unfold nC;infer_instance
def eQ (x:Cond) (t:B):B:=if nC x then t else(⟨#[91]⟩ ++t) ++ ⟨#[93]⟩
def ZZ (p:Pat):Option B:=(HS p.cond).map fun t=> if p.lab=E0 then eQ p.cond t else(p.lab++ ⟨#[58]⟩) ++eQ p.cond t
theorem ai (a:Array UInt8):ByteArray.size ⟨a⟩=a.size:=rfl
theorem av (a b:B): (a++b).size=a.size+b.size:=ByteArray.size_append
theorem pj:rl=1000000:=rfl
theorem yl {b:Nat} {s:ByteArray} {H:ab} (u:Bool) (v:Value) (h0:H 0=some (.tbox 108 b [.v (pv b u), .own 900 v])) (h9:H 900=some (.row v 5 1 (bD s))):qbw 108 5 b s (.tup []) (.tup []) H:=
 ⟨u,v, .same _,h0,h9⟩
abbrev O5:Spc:=XH 108 5 (a1 B) (.tup []) na
theorem Kf (h1:S ez=B2) (h2:S ac=s_wstr):J1 kw ka S 108 5 (a1 B) (.tup []) na:=by
 rintro b u v s z t ht hl
 unfold na at ht
 split at ht
 ·cases ht
 ·rename_i hn
  cases ht
  have hn': ¬ (34:UInt8) ∈z.data:=fun h=> hn (Array.mem_toList_iff.2 h)
  simp only[av,ai] at hl
  simp at hl
  simp[kw,ka,h1,h2,hn,hn',av,ai, -Bool.forall_bool, -Bool.exists_bool]
  have hL:=pj
  exact⟨by omega,by omega,by omega,fun u' v'=> yl u' v' (by simp) (by simp)⟩
abbrev FU:Spc:=XH 108 5 (a2 B Bool) (.tup []) iy
theorem Fi (h1:S dx=O5) (h2:S ac=s_wstr):J1 fS fR S 108 5 (a2 B Bool) (.tup []) iy:=by
 rintro b u v s ⟨z,fo⟩ t ht hl
 obtain⟨q,hq,ht⟩:=Option.map_eq_some_iff.1 ht
 simp only at hq ht
 cases fo with
 | false=>
   simp at ht
   subst ht
   simp[fS,fR,h1,h2,hq,hl,av,ai, -Bool.forall_bool, -Bool.exists_bool]
   exact fun u' v'=> yl u' v' (by simp) (by simp)
 | true=>
   simp at ht
   subst ht
   simp only[av,ai] at hl
   simp at hl
   have hl1:s.size+q.size≤rl:=by omega
   simp[fS,fR,h1,h2,hq,hl1,av,ai, -Bool.forall_bool, -Bool.exists_bool]
   exact fun u' v'=> ⟨by omega,fun u' v'=> yl u' v' (by simp) (by simp[ByteArray.append_assoc])⟩
abbrev KF:Spc:=XH 108 5 (a1 Cond) (.tup []) HS
theorem If (h1:S eA=FU) (h2:S ac=s_wstr):J1 eG ew S 108 5 (a1 Cond) (.tup []) HS:=by
 rintro b u v s x t ht hl
 unfold HS at ht
 split at ht
 ·rename_i e
  cases ht
  simp only[ai] at hl
  simp at hl
  simp[eG,ew,e,h1,h2,hl,av,ai, -Bool.forall_bool, -Bool.exists_bool]
  exact fun u' v'=> yl u' v' (by simp) (by simp)
 ·rename_i e1
  split at ht
  ·rename_i e
   obtain⟨q,hq,ht⟩:=Option.map_eq_some_iff.1 ht
   subst ht
   by_cases hn:x.name=E0
   ·rw[if_pos hn] at hl ⊢
    have hn':x.name=⟨#[]⟩:=hn
    simp[eG,ew,e,h1,h2,hl,hn',hq,av,ai, -Bool.forall_bool, -Bool.exists_bool]
    exact fun u' v'=> yl u' v' (by simp) (by simp)
   ·rw[if_neg hn] at hl ⊢
    have hn': ¬x.name=⟨#[]⟩:=hn
    simp only[av,ai] at hl
    simp at hl
    simp[eG,ew,e,h1,h2,hn',hq,av,ai, -Bool.forall_bool, -Bool.exists_bool]
    have hL:=pj
    exact⟨by omega,by omega,fun u' v'=> ⟨by omega,fun u' v'=> yl u' v' (by simp) (by simp[ByteArray.append_assoc])⟩⟩
  ·cases ht
abbrev O4:Spc:=XH 108 5 (a1 Pat) (.tup []) ZZ
theorem Fj (h1:S dU=KF) (h2:S ac=s_wstr):J1 bX bW S 108 5 (a1 Pat) (.tup []) ZZ:=by
 rintro b u v s ⟨op,⟨cop,cname,carg,cval,clab,cfold,ckids⟩,lab,reg,mn,mx,kids⟩ t ht hl
 obtain⟨q,hq,ht⟩:=Option.map_eq_some_iff.1 ht
 simp only at hq ht
 have hL:=pj
 have hop:cop=1∨cop=2∧cname=E0∨cop=2∧ ¬cname=E0:=by
  unfold HS at hq
  split at hq
  ·exact .inl (by assumption)
  ·split at hq
   ·by_cases h:cname=E0
    ·exact .inr (.inl ⟨by assumption,h⟩)
    ·exact .inr (.inr ⟨by assumption,h⟩)
   ·cases hq
 rcases hop with e | e | e
 ·by_cases hn:lab=E0
  ·rw[if_pos hn] at ht
   subst ht
   have hn':lab=⟨#[]⟩:=hn
   obtain rfl:=e
   unfold eQ at hl ⊢
   rw[if_pos (show nC _ from .inl rfl)] at hl ⊢
   simp[bX,bW,E0,h1,h2,hl,hn',hq,av,ai, -Bool.forall_bool, -Bool.exists_bool]
   repeat' first | apply And.intro | intro _
   all_goals first | omega | (rename_i u' v';exact yl u' v' (by simp) (by simp[ByteArray.append_assoc]))
  ·rw[if_neg hn] at ht
   subst ht
   have hn': ¬lab=⟨#[]⟩:=hn
   obtain rfl:=e
   unfold eQ at hl ⊢
   rw[if_pos (show nC _ from .inl rfl)] at hl ⊢
   simp only[av,ai] at hl
   simp at hl
   simp[bX,bW,E0,h1,h2,hl,hn',hq,av,ai, -Bool.forall_bool, -Bool.exists_bool]
   repeat' first | apply And.intro | intro _
   all_goals first | omega | (rename_i u' v';exact yl u' v' (by simp) (by simp[ByteArray.append_assoc]))
 ·by_cases hn:lab=E0
  ·rw[if_pos hn] at ht
   subst ht
   have hn':lab=⟨#[]⟩:=hn
   obtain⟨rfl,rfl⟩:=e
   have hq:HS ⟨2,⟨#[]⟩,carg,cval,clab,cfold,ckids⟩=some q:=hq
   unfold eQ at hl ⊢
   rw[if_pos (show nC _ from .inr ⟨rfl,rfl⟩)] at hl ⊢
   simp[bX,bW,E0,h1,h2,hl,hn',hq,av,ai, -Bool.forall_bool, -Bool.exists_bool]
   repeat' first | apply And.intro | intro _
   all_goals first | omega | (rename_i u' v';exact yl u' v' (by simp) (by simp[ByteArray.append_assoc]))
  ·rw[if_neg hn] at ht
   subst ht
   have hn': ¬lab=⟨#[]⟩:=hn
   obtain⟨rfl,rfl⟩:=e
   have hq:HS ⟨2,⟨#[]⟩,carg,cval,clab,cfold,ckids⟩=some q:=hq
   unfold eQ at hl ⊢
   rw[if_pos (show nC _ from .inr ⟨rfl,rfl⟩)] at hl ⊢
   simp only[av,ai] at hl
   simp at hl
   simp[bX,bW,E0,h1,h2,hl,hn',hq,av,ai, -Bool.forall_bool, -Bool.exists_bool]
   repeat' first | apply And.intro | intro _
   all_goals first | omega | (rename_i u' v';exact yl u' v' (by simp) (by simp[ByteArray.append_assoc]))
 ·by_cases hn:lab=E0
  ·rw[if_pos hn] at ht
   subst ht
   have hn':lab=⟨#[]⟩:=hn
   obtain⟨rfl,e'⟩:=e
   have e'': ¬cname=⟨#[]⟩:=e'
   unfold eQ at hl ⊢
   rw[if_neg (show ¬nC _ from fun h=> h.elim (fun h=> by simp at h) fun h=> e' h.2)] at hl ⊢
   simp only[av,ai] at hl
   simp at hl
   simp[bX,bW,e'',h1,h2,hl,hn',hq,av,ai, -Bool.forall_bool, -Bool.exists_bool]
   repeat' first | apply And.intro | intro _
   all_goals first | omega | (rename_i u' v';exact yl u' v' (by simp) (by simp[ByteArray.append_assoc]))
  ·rw[if_neg hn] at ht
   subst ht
   have hn': ¬lab=⟨#[]⟩:=hn
   obtain⟨rfl,e'⟩:=e
   have e'': ¬cname=⟨#[]⟩:=e'
   unfold eQ at hl ⊢
   rw[if_neg (show ¬nC _ from fun h=> h.elim (fun h=> by simp at h) fun h=> e' h.2)] at hl ⊢
   simp only[av,ai] at hl
   simp at hl
   simp[bX,bW,e'',h1,h2,hl,hn',hq,av,ai, -Bool.forall_bool, -Bool.exists_bool]
   repeat' first | apply And.intro | intro _
   all_goals first | omega | (rename_i u' v';exact yl u' v' (by simp) (by simp[ByteArray.append_assoc]))
end Go.Gv

namespace Go.Gv
open Cod (enc dec)
open Go.Proofs
variable {S S0:Nat→Spc}
def vd (p:Bool) (t:B):B:=if p then(⟨#[40]⟩ ++t) ++ ⟨#[41]⟩ else t
def qbT (CT:List D→Option B) (i b:Nat) (ds:List D):Option B:=match ds with
 | [.cptr [.bptr j b' 0] 0, .cptr cs 0]=> if j=i∧b'=b then CT cs else none
 | _=> none
def qbO (CT:Nat→List D→Option B) (i b:Nat) (ds:List D):Option B:=match ds with
 | [.bptr i' b1 0, .v (.bool p), .clo g [.cptr [.bptr j b' 0] 0, .cptr cs 0]]=> if i'=i∧b1=b∧j=i∧b'=b then(CT g cs).map (vd p) else none
 | _=> none
abbrev QE (CT:List D→Option B):Spc:=qeW 108 5 (qbT CT) (.tup [])
abbrev QD (CT:Nat→List D→Option B):Spc:=qeW 108 5 (qbO CT) (.tup [])
theorem ZC (CT:List D→Option B) (d i b:Nat) (cs:List D) (H:ab) (K:D→ab→Prop):ZP 108 5 (.tup []) (fun t:B=> some t) i b (H i) (H 900) (CT cs) H K→(QE CT).pt d [.cptr [.bptr i b 0] 0, .cptr cs 0] H K:=fun h=>
 QT (i:=i) (b:=b) (by rw[show qbT CT i b [.cptr [.bptr i b 0] 0, .cptr cs 0]=CT cs by simp[qbT]];exact h)
theorem qc3 (CT:Nat→List D→Option B) (d i b g:Nat) (p:Bool) (cs:List D) (H:ab) (K:D→ab→Prop):ZP 108 5 (.tup []) (fun t:B=> some t) i b (H i) (H 900) ((CT g cs).map (vd p)) H K→(QD CT).pt d [.bptr i b 0, .v (.bool p), .clo g [.cptr [.bptr i b 0] 0, .cptr cs 0]] H K:=fun h=>
 QT (i:=i) (b:=b) (by rw[show qbO CT i b [.bptr i b 0, .v (.bool p), .clo g [.cptr [.bptr i b 0] 0, .cptr cs 0]]=(CT g cs).map (vd p) by simp[qbO]];exact h)
theorem Wc {i b:Nat} {s:ByteArray} {H:ab} (u:Bool) (v:Value) (h0:H i=some (.tbox 108 b [.v (pv b u), .own 900 v])) (h9:H 900=some (.row v 5 1 (bD s))):qdT 108 5 i b s (.tup []) (.tup []) H:=
 ⟨u,v, .same _,h0,h9⟩
theorem Mn (CT:Nat→List D→Option B) (h1:S ac=s_wstr) (h2: ∀g cs t,CT g cs=some t→S g=QE (CT g)):WW hZ gY S 108 5 (qbO CT) (.tup []):=by
 intro i b u v s ds t hi hg hl
 have hi': ¬900=i:=fun e=> hi e.symm
 unfold qbO at hg
 split at hg
 ·rename_i i' b1 p g j b' cs
  split at hg
  ·rename_i he
   obtain⟨rfl,rfl,rfl,rfl⟩:=he
   obtain⟨q,hq,rfl⟩:=Option.map_eq_some_iff.1 hg
   have hL:=pj
   have h3:=h2 _ _ _ hq
   cases p with
   | false=>
     simp only[vd,Bool.false_eq_true,if_false] at hl ⊢
     simp[hZ,gY]
     rw[h3]
     refine ZC _ _ _ _ _ _ _ ?_
     simp[hi,hi',hq,hl, -Bool.forall_bool, -Bool.exists_bool]
     exact fun u' v'=> Wc u' v' (by simp) (by simp[hi'])
   | true=>
     simp only[vd,if_true] at hl ⊢
     simp only[av,ai] at hl
     simp at hl
     simp[hZ,gY,h1,hi,hi',ai, -Bool.forall_bool, -Bool.exists_bool]
     refine⟨by omega,fun u' v'=> ?_⟩
     rw[h3]
     refine ZC _ _ _ _ _ _ _ ?_
     simp[hi,hi',hq,av,ai, -Bool.forall_bool, -Bool.exists_bool]
     repeat' first | apply And.intro | intro _
     all_goals first | omega | (rename_i u' v';exact Wc u' v' (by simp) (by simp[hi',ByteArray.append_assoc]))
  ·cases hg
 ·cases hg
def IJ (op:Int) (i:Nat):B:=if i=0 then E0 else if op=5 then⟨#[32,124]⟩ ++ ⟨#[32]⟩ else⟨#[32]⟩
def Cs (op:Int) (k:Pat):Bool:=decide (k.op=5) || (decide (k.op=4) && decide (op=4))
def DU (f:Pat→Option B) (op:Int):Nat→List Pat→Option B
 | _, []=> some E0
 | i,k::ks=> (f k).bind fun t=> (DU f op (i+1) ks).map fun r=> (IJ op i++vd (Cs op k) t) ++r
def UY (f:Pat→Option B) (p:Pat):Option B:=
 if p.op=1 then ZZ p else if p.op=2 then some ((⟨#[60]⟩ ++p.reg) ++ ⟨#[62]⟩) else if p.op=3 then some ((⟨#[60,47]⟩ ++p.reg) ++ ⟨#[62]⟩) else
 if p.op=4∨p.op=5 then DU f p.op 0 p.kids else none
def vY:Nat→Pat→Option B
 | 0=> fun _=> none
 | n+1=> UY (vY n)
def Jx (T:Pat→Option B) (cs:List D):Option B:=if cs.length=13 then(dec (X:=Pat) (.agg cs)).bind T else none
abbrev FV (T:Pat→Option B):Spc:=XH 108 5 (a1 Pat) (.tup []) T
theorem yD (T:Pat→Option B) (h1:S bP=FV T):WW f0 fX S 108 5 (qbT (Jx T)) (.tup []):=by
 intro i b u v s ds t hi hg hl
 have hi': ¬900=i:=fun e=> hi e.symm
 unfold qbT at hg
 split at hg
 ·rename_i j b' cs
  split at hg
  ·rename_i he
   obtain⟨rfl,rfl⟩:=he
   unfold Jx at hg
   split at hg
   ·rename_i h13
    obtain⟨p,hd,ht⟩:=Option.bind_eq_some_iff.1 hg
    have htk:List.take 13 cs=cs:=List.take_of_length_le (by omega)
    simp[f0,fX,h1,h13,htk,hd,ht,hi,hi',hl, -Bool.forall_bool, -Bool.exists_bool]
    exact fun u' v'=> Wc u' v' (by simp) (by simp[hi'])
   ·cases hg
  ·cases hg
 ·cases hg
end Go.Gv

namespace Go.Gv
open Cod (enc dec)
open Go.Proofs
variable {S S0:Nat→Spc}
def qby (T:Pat→Option B) (g:Nat):List D→Option B:=if g=bS then Jx T else fun _=> none
theorem d7 (t:B): (⟨#[]⟩:B) ++t=t:=by
 apply ByteArray.ext
 show((⟨#[]⟩:B) ++t).data=_
 rw[ByteArray.data_append]
 simp
theorem cQ (t:B):t++ (⟨#[]⟩:B)=t:=by
 apply ByteArray.ext
 show(t++ (⟨#[]⟩:B)).data=_
 rw[ByteArray.data_append]
 simp
theorem PH {f:Pat→Option B} {op:Int} {i:Nat} {ks:List Pat} {k:Pat} (hx:ks[i]?=some k) {r:B} (h:DU f op i (ks.drop i)=some r):
 ∃t r',f k=some t∧DU f op (i+1) (ks.drop (i+1))=some r'∧r=(IJ op i++vd (Cs op k) t) ++r':=by
 have hd:ks.drop i=k::ks.drop (i+1):=dv hx
 rw[hd,DU] at h
 obtain⟨t,h1,h⟩:=Option.bind_eq_some_iff.1 h
 obtain⟨r',h2,h⟩:=Option.map_eq_some_iff.1 h
 exact⟨t,r',h1,h2,h.symm⟩
theorem BM (T:Pat→Option B) (h1:S eB=O4) (h2:S ac=s_wstr) (h3:S cA=QD (qby T)):
 J1 cE cD S 108 5 (a1 Pat) (.tup []) (UY T):=by
 rintro b u v s ⟨op,cond,lab,reg,mn,mx,kids⟩ t ht hl
 have hL:=pj
 unfold UY at ht
 simp only at ht
 split at ht
 ·rename_i e
  subst e
  simp[cE,cD,h1,ht,hl, -Bool.forall_bool, -Bool.exists_bool]
  exact fun u' v'=> yl u' v' (by simp) (by simp)
 ·rename_i n1
  split at ht
  ·rename_i e
   subst e
   cases ht
   simp only[av,ai] at hl
   simp at hl
   simp[cE,cD,h2,av,ai, -Bool.forall_bool, -Bool.exists_bool]
   refine⟨by omega,by omega,by omega,fun u' v'=> yl u' v' (by simp) (by simp)⟩
  ·rename_i n2
   split at ht
   ·rename_i e
    subst e
    cases ht
    simp only[av,ai] at hl
    simp at hl
    simp[cE,cD,h2,av,ai, -Bool.forall_bool, -Bool.exists_bool]
    refine⟨by omega,by omega,by omega,fun u' v'=> yl u' v' (by simp) (by simp)⟩
   ·rename_i n3
    split at ht
    ·rename_i h45
     have n6: ¬op=6:=by omega
     simp[cE,cD,n1,n2,n3,n6, -Bool.forall_bool, -Bool.exists_bool]
     intro hkl
     refine aO (X:=Bool×Value×B×B) [2,3,10] [] kids.length (fun k x=> DU T op k (kids.drop k)=some x.2.2.2∧x.2.2.1++x.2.2.2=t) (fun x=> []) (fun x=> [(0, .tbox 108 b [.v (pv b x.1), .own 900 x.2.1]),(900, .row x.2.1 5 1 (bD (s++x.2.2.1)))]) (u,v,E0,t) (by simp) (by simp) (by omega) (by simp) (by simp) ?_ (by simp) (by simp[E0,cQ]) ?_ ?_
     ·refine⟨ht,?_⟩
      simp[E0,d7]
     ·rintro k ⟨u1,v1,acc,r⟩ hk ⟨q1,q2⟩
      simp only at q1 q2
      obtain⟨x,hx⟩:=cP hk
      obtain⟨_,hgx⟩:=List.getElem?_eq_some_iff.1 hx
      obtain⟨tk,r',c1,c2,rfl⟩:=PH hx q1
      rw[←q2] at hl
      simp only[av] at hl
      have inn: ∀ (s0:B) (pb:Bool) (u2:Bool) (v2:Value) (H:ab) (K:D→ab→Prop),H 0=some (.tbox 108 b [.v (pv b u2), .own 900 v2])→H 900=some (.row v2 5 1 (bD s0))→s0=s++ (acc++IJ op k)→pb=Cs op x→
       (∀u3 v3,K (.tup []) (au (au H 900 (some (.row v3 5 1 (bD (s++ (acc++ (IJ op k++vd (Cs op x) tk))))))) 0 (some (.tbox 108 b [.v (pv b u3), .own 900 v3]))))→
       (S cA).pt 49 [.bptr 0 b 0, .v (.bool pb), .clo bS [.cptr [.bptr 0 b 0] 0, .cptr [D.v (Value.int IntKind.i64 x.op),D.v (Value.int IntKind.i64 x.cond.op),
         D.v (Value.string x.cond.name),D.v (Value.string x.cond.arg),D.v (Value.string x.cond.val),D.v (Value.string x.cond.lab),D.v (Value.bool x.cond.fold),D.list 7 (List.map enc x.cond.kids),
         D.v (Value.string x.lab),D.v (Value.string x.reg),D.v (Value.int IntKind.i64 x.mn),D.v (Value.int IntKind.i64 x.mx),D.list 13 (List.map enc x.kids)] 0]] H K:=by
       intro s0 pb u2 v2 H K g0 g9 hs hp hK
       rw[h3]
       refine qc3 _ _ _ _ _ _ _ _ _ ?_
       have hct:qby T bS [D.v (Value.int IntKind.i64 x.op),D.v (Value.int IntKind.i64 x.cond.op),
        D.v (Value.string x.cond.name),D.v (Value.string x.cond.arg),D.v (Value.string x.cond.val),D.v (Value.string x.cond.lab),D.v (Value.bool x.cond.fold),D.list 7 (List.map enc x.cond.kids),
        D.v (Value.string x.lab),D.v (Value.string x.reg),D.v (Value.int IntKind.i64 x.mn),D.v (Value.int IntKind.i64 x.mx),D.list 13 (List.map enc x.kids)]=some tk:=by
        simp[qby,Jx,c1]
       rw[hct,g0,g9,hp]
       simp[-Bool.forall_bool, -Bool.exists_bool]
       refine⟨?_,fun u3 v3=> ?_⟩
       ·rw[hs]
        simp only[av]
        omega
       ·have:=hK u3 v3
        rw[hs]
        simp only[ByteArray.append_assoc] at this ⊢
        exact this
      have eq3: (acc++ (IJ op k++vd (Cs op x) tk)) ++r'=t:=by
       rw[←q2]
       simp[ByteArray.append_assoc]
      by_cases hk0:k=0
      ·subst hk0
       have c2':DU T op 1 kids.tail=some r':=by simpa using c2
       have hsep:IJ op 0=⟨#[]⟩:=rfl
       simp[hk,hx,hgx,h2,ai, -Bool.forall_bool, -Bool.exists_bool]
       refine⟨fun h5=> ⟨fun h4=> ?_,fun h4=> ?_⟩,fun h5=> ?_⟩
       ·refine inn (s++acc) _ u1 v1 _ _ (by simp) (by simp) (by rw[hsep,cQ]) (by simp[Cs,h4,h5]) fun u3 v3=> ⟨u3,v3,_,⟨r',c2',eq3⟩, .inl (by simp), .inl (by simp)⟩
       ·refine inn (s++acc) _ u1 v1 _ _ (by simp) (by simp) (by rw[hsep,cQ]) (by simp[Cs,h4,h5]) fun u3 v3=> ⟨u3,v3,_,⟨r',c2',eq3⟩, .inl (by simp), .inl (by simp)⟩
       ·refine inn (s++acc) _ u1 v1 _ _ (by simp) (by simp) (by rw[hsep,cQ]) (by simp[Cs,h5]) fun u3 v3=> ⟨u3,v3,_,⟨r',c2',eq3⟩, .inl (by simp), .inl (by simp)⟩
      ·have hk1:0 < k:=by omega
       rcases h45 with rfl | rfl
       ·have hsep:IJ 4 k=⟨#[32]⟩:=by simp[IJ,hk0]
        rw[hsep] at hl
        simp only[ai] at hl
        simp at hl
        simp[hk,hx,hgx,h2,hk1,ai,av, -Bool.forall_bool, -Bool.exists_bool]
        refine⟨by omega,fun u4 v4=> ⟨fun h5=> ⟨fun h4=> ?_,fun h4=> ?_⟩,fun h5=> ?_⟩⟩
        ·refine inn (s++acc++ ⟨#[32]⟩) _ u4 v4 _ _ (by simp) (by simp) (by rw[hsep,ByteArray.append_assoc]) (by simp[Cs,h4,h5]) fun u3 v3=> ⟨u3,v3,_,⟨r',c2,eq3⟩, .inl (by simp), .inl (by simp)⟩
        ·refine inn (s++acc++ ⟨#[32]⟩) _ u4 v4 _ _ (by simp) (by simp) (by rw[hsep,ByteArray.append_assoc]) (by simp[Cs,h4,h5]) fun u3 v3=> ⟨u3,v3,_,⟨r',c2,eq3⟩, .inl (by simp), .inl (by simp)⟩
        ·refine inn (s++acc++ ⟨#[32]⟩) _ u4 v4 _ _ (by simp) (by simp) (by rw[hsep,ByteArray.append_assoc]) (by simp[Cs,h5]) fun u3 v3=> ⟨u3,v3,_,⟨r',c2,eq3⟩, .inl (by simp), .inl (by simp)⟩
       ·have hsep:IJ 5 k=⟨#[32,124]⟩ ++ ⟨#[32]⟩:=by simp[IJ,hk0]
        rw[hsep] at hl
        simp only[av,ai] at hl
        simp at hl
        simp[hk,hx,hgx,h2,hk1,ai,av, -Bool.forall_bool, -Bool.exists_bool]
        refine⟨by omega,by omega,fun u4 v4=> ⟨fun h5=> ?_,fun h5=> ?_⟩⟩
        ·refine inn (s++acc++ ⟨#[32,124]⟩ ++ ⟨#[32]⟩) _ u4 v4 _ _ (by simp) (by simp) (by rw[hsep];simp only[ByteArray.append_assoc]) (by simp[Cs,h5]) fun u3 v3=> ⟨u3,v3,_,⟨r',c2,eq3⟩, .inl (by simp), .inl (by simp)⟩
        ·refine inn (s++acc++ ⟨#[32,124]⟩ ++ ⟨#[32]⟩) _ u4 v4 _ _ (by simp) (by simp) (by rw[hsep];simp only[ByteArray.append_assoc]) (by simp[Cs,h5]) fun u3 v3=> ⟨u3,v3,_,⟨r',c2,eq3⟩, .inl (by simp), .inl (by simp)⟩
     ·rintro⟨u1,v1,acc,r⟩ ⟨q1,q2⟩
      simp only at q1 q2
      simp
      rw[List.drop_length,DU] at q1
      cases q1
      refine yl u1 v1 (by simp) ?_
      rw[←q2]
      simp[E0,cQ]
    ·cases ht
end Go.Gv

namespace Go.Gv
open Cod (enc dec)
variable {S S0:Nat→Spc}
theorem OB {σ:Sg} {H:ab} {k j b tw el n:Nat} {cs cs':List D} (hkj:j≠k) (hk:H k=some (.tbox tw b cs)) (hl:cs.length=cs'.length) (hc: ∀ (m:Nat) (c c':D),cs[m]?=some c→cs'[m]?=some c'→FrzTo cF c c'):
 Wk σ H σ (au (au H k (some (.tbox tw b cs'))) j (some (.row (.slice none 0 0) el n []))):=by
 refine Ke (Hf:=cF) id (fun t=> .same _) (fun i r h=> ?_) (fun i j r s _ _ e=> .inl e) (fun i r h=> by simp[cF] at h)
 by_cases e:i=j
 ·subst e
  simp[au] at h
  subst h
  exact .inr ⟨rfl,rfl⟩
 ·by_cases e2:i=k
  ·subst e2
   simp[au,e] at h
   subst h
   exact .inl ⟨_,hk, .inr ⟨rfl,rfl,hl,hc⟩⟩
  ·simp only[au,e,e2,if_false] at h
   exact .inl ⟨r,h, .inl rfl⟩
theorem Ml {σ:Sg} {H:ab} {k j b tw el:Nat} {cs cs':List D} (hkj:j≠k) (hk:H k=some (.tbox tw b cs)) (hl:cs.length=cs'.length) (hc: ∀ (m:Nat) (c c':D),cs[m]?=some c→cs'[m]?=some c'→FrzTo cF c c'):
 Wk σ H σ (au (au H k (some (.tbox tw b cs'))) j (some (.row (.slice none 0 0) el 1 (bD ⟨#[]⟩)))):=OB hkj hk hl hc
theorem X1 {K:Ex→Sg→ab→Prop} {k:Nat} {b:CC} {σ σ':Sg} {H H':ab} (hw:Wk σ H σ' H') (h:vc S b K σ' H'):vc S (.cut k b) K σ H:=by
 rw[Q8]
 exact⟨_,_,hw,h⟩
def qbv (n:Nat) (q:Qry):Prop:=(cJ q.pat 1 && fg nc q.pat)=true∧q.strat=0∧q.filts= []∧q.glob=fP∧qbq q.pat []∧(∀x∈eo q.pat,LC x.cond)∧ ∃t,vY n q.pat=some t∧t.size≤rl∧t.size≠0
abbrev Gd (n:Nat):Spc:=dG (a1 Qry) (qbv n) (enc (X:=B)) fun q y=> vY n q.pat=some y
theorem Fs (n:Nat) (h0:S0 fD=Cj) (h1:S ft=AA) (h2:S cp=Pj) (h3:S kO=K3) (h4:S cq=s_leavesQ) (h5:S aP=zd S0)
 (h6:S bP=FV (vY n)) (h7:S dh=s_string):Walk pw pf S (a1 Qry) (qbv n) (enc (X:=B)) fun q y=> vY n q.pat=some y:=by
 rintro⟨p,g,fs,st⟩ ⟨hs,h8,h9,h10,h11,h12,t,h13,h14,h15⟩
 simp only at hs h8 h9 h10 h11 h12 h13
 subst h8;subst h9;subst h10
 have hf:FunOn S0 (.clo fD []) (eo p) fun _=> false:=by
  refine⟨_, [],_,rfl,h0,fun x hx=> ⟨⟨x,by simp,h12 x hx⟩,fun r hr=> ?_⟩⟩
  obtain⟨y,rfl,hy⟩:=hr x (by simp) (h12 x hx)
  rw[hy]
 simp only[Bool.and_eq_true] at hs
 simp[pw,pf,hs.1,hs.2,h1,h2,h3,h4,h5,uJ, -Bool.forall_bool, -Bool.exists_bool]
 refine .inl ⟨h11,⟨_,hf⟩,fun y hy=> ?_⟩
 have e:y=false:=by
  have hy:y=(eo p).any fun _=> false:=hy _ hf
  rw[hy];simp
 subst e
 refine⟨fun h=> absurd h (by decide),fun _=> ?_⟩
 unfold iB
 simp[fP,E0, -Bool.forall_bool, -Bool.exists_bool]
 intro b
 refine X1 (Ml (k:=36) (j:=900) (b:=b) (tw:=108) (el:=5) (cs:= [.v (.pointer none), .v (.slice none 0 0)]) (cs':= [.v (pv b false), .own 900 (.slice none 0 0)]) (by decide) (by simp) (by simp) ?_) ?_
 ·intro m c c' hc hc'
  match m with
  | 0=> simp at hc hc';subst hc;subst hc';exact .same _
  | 1=> simp at hc hc';subst hc;subst hc';exact .nilown _
  | m+2=> simp at hc
 simp[h6,h13,h14,d7,ai, -Bool.forall_bool, -Bool.exists_bool]
 intro u v
 refine aO (X:=Unit) [1,3] [36,900] 0 (fun _ _=> True) (fun _=> []) (fun _=> []) () (by simp) (by simp) (by omega) (by simp) (by simp) trivial (by simp) (by simp) (fun k x hk=> absurd hk (by omega)) (fun _ _=> ?_)
 simp[h7, -Bool.forall_bool, -Bool.exists_bool]
 exact⟨36,b,u,v,t,rfl,by simp,by simp,by decide,⟨h15,h14⟩,fK (Y:=B) t (.same _) rfl⟩
end Go.Gv

namespace Go.Gv
open Cod (enc dec)
variable {S S0:Nat→Spc}
@[simp] abbrev Fb (s:Rdr) (_:Unit):Option (Rdr×Unit):=(yy s).map fun x=> (x,())
abbrev pI:Spc:=XA a0 Tx Fb
theorem pH {b:Nat} {post:Rdr→Bool→Prop} {v:Bool} {H:ab} (s:Rdr) (h0:H 0=some (.box b (cW s))) (hq:post s v):BI enc b post (.v (.bool v)) H:=gT s v (.same _) h0 hq
theorem V0 {b:Nat} {post:Rdr→B→Prop} {v:B} {H:ab} (s:Rdr) (h0:H 0=some (.box b (cW s))) (hq:post s v):BI enc b post (.v (.string v)) H:=gT s v (.same _) h0 hq
theorem Ik (h1:S gU=Ax):sA jv iZ S a0 Tx (fun s z=> ∃r,Fb s z=some r) (fun s z s' y=> Fb s z=some (s',y)):=by
 rintro b s ⟨⟩ ⟨r,hr⟩
 simp only[Fb,yy] at hr
 split at hr
 ·rename_i h
  simp[jv,iZ,h1,h.1.1,h.1.2,h.2,LS]
  exact gT ⟨s.txt,(cT s.txt s.fin.toNat).2,(cT s.txt s.fin.toNat).1.kind,(cT s.txt s.fin.toNat).1.text,(cT s.txt s.fin.toNat).1.pos⟩ () (.same _) (by simp) (by simp[yy,h])
 ·cases hr
@[simp] abbrev Fa (s:Rdr) (_:Unit):Option (Rdr×Tz):=(Jw s).map fun x=> (s,x)
abbrev KN:Spc:=XA a0 (enc (X:=Tz)) Fa
theorem Ij (h1:S gU=Ax):sA ju iY S a0 (enc (X:=Tz)) (fun s z=> ∃r,Fa s z=some r) (fun s z s' y=> Fa s z=some (s',y)):=by
 rintro b s ⟨⟩ ⟨r,hr⟩
 simp only[Fa,Jw] at hr
 split at hr
 ·rename_i h
  simp[ju,iY,h1,h.1.1,h.1.2,h.2,LS]
  exact fun _=> gT s (cT s.txt s.fin.toNat).1 (.same _) (by simp) (by simp[Jw,h])
 ·cases hr
@[simp] abbrev Mc (s:Rdr) (t:B):Option (Rdr×Bool):=some (s,cO s t)
abbrev me:Spc:=XA (a1 B) (enc (X:=Bool)) Mc
theorem Ii:sA jt iX S (a1 B) (enc (X:=Bool)) (fun s z=> ∃r,Mc s z=some r) (fun s z s' y=> Mc s z=some (s',y)):=by
 rintro b s t ⟨r,hr⟩
 simp[jt,iX]
 refine⟨fun hk=> pH s (by simp) (by simp[cO,hk]),fun hk=> pH s (by simp) (by simp[cO,hk])⟩
@[simp] abbrev E9 (s:Rdr) (t:B):Option (Rdr×Bool):=pF s t
abbrev bN:Spc:=XA (a1 B) (enc (X:=Bool)) E9
theorem Ih (h1:S a5=pI) (h2:S aQ=me):sA gx gd S (a1 B) (enc (X:=Bool)) (fun s z=> ∃r,E9 s z=some r) (fun s z s' y=> E9 s z=some (s',y)):=by
 rintro b s t ⟨r,hr⟩
 have hr0:=hr
 simp only[E9,pF] at hr
 split at hr
 ·rename_i h
  obtain⟨x,hx,rfl⟩:=Option.map_eq_some_iff.1 hr
  simp[gx,gd,h1,h2,h,hx]
  exact pH x (by simp) (by simp[pF,h,hx])
 ·rename_i h
  simp[gx,gd,h1,h2,h]
  exact pH s (by simp) (by simp[pF,h])
@[simp] abbrev Mb (s:Rdr) (l:List B):Option (Rdr×Bool):=some (s,fU s l)
abbrev tH:Spc:=XA (a1 (List B)) (enc (X:=Bool)) Mb
theorem Ig (h1:S di=tL):sA js iW S (a1 (List B)) (enc (X:=Bool)) (fun s z=> ∃r,Mb s z=some r) (fun s z s' y=> Mb s z=some (s',y)):=by
 rintro b s t ⟨r,hr⟩
 simp[js,iW,h1]
 refine⟨fun hk=> pH s (by simp) (by simp[fU,hk]),fun hk=> pH s (by simp) (by simp[fU,hk])⟩
@[simp] abbrev Fc (s:Rdr) (_:Unit):Option (Rdr×Bool):=pF s ⟨#[37,99]⟩
abbrev tI:Spc:=XA a0 (enc (X:=Bool)) Fc
theorem Il (h1:S ae=bN):sA jA i7 S a0 (enc (X:=Bool)) (fun s z=> ∃r,Fc s z=some r) (fun s z s' y=> Fc s z=some (s',y)):=by
 rintro b s ⟨⟩ ⟨⟨s',y⟩,hr⟩
 have hr0:=hr
 simp only[Fc] at hr
 simp[jA,i7,h1,hr, -Bool.forall_bool, -Bool.exists_bool]
 exact pH s' (by simp) ⟨rfl,rfl⟩
end Go.Gv

namespace Go.Gv
open Cod (enc dec)
variable {S S0:Nat→Spc}
abbrev Ay:Spc:=dG (a2 Int (List Cond)) (fun _=> True) (enc (X:=Cond)) fun x y=> y=Ti x.1 x.2
theorem WI {op:Int} {l:List Cond} (h:l.length≠1):Ti op l=⟨op,E0,E0,E0,E0,false,l⟩:=by
 match l,h with
 | [],_=> rfl
 | [x],h=> exact absurd rfl h
 | x::y::l,_=> rfl
theorem X0:Walk qV qp S (a2 Int (List Cond)) (fun _=> True) (enc (X:=Cond)) fun x y=> y=Ti x.1 x.2:=by
 rintro⟨op,l⟩ -
 simp[qV,qp]
 refine fun b _=> ⟨fun h=> ⟨by omega,fun a ha=> ?_⟩,fun h=> ?_⟩
 ·have e:l= [a]:=by
   match l,h,ha with
   | [x],_,ha=> simp at ha;rw[ha]
  exact fK a (by simp) (by rw[e];rfl)
 ·exact fK (⟨op,E0,E0,E0,E0,false,l⟩:Cond) (by simp[E0]) (WI (by omega)).symm
theorem wY {H:ab} {o:Int} {n a v l:B} {f:Bool} {d:D} (ks:List Cond) (hd:FrzTo H d (enc ks)):
 FrzTo H (.agg [.v (.int .i64 o), .v (.string n), .v (.string a), .v (.string v), .v (.string l), .v (.bool f),d]) (enc (⟨o,n,a,v,l,f,ks⟩:Cond)):=by
 rw[NQ]
 refine .agg rfl fun k x y hx hy=> ?_
 rcases k with _ | _ | _ | _ | _ | _ | _ | k
 ·cases hx;cases hy;exact .same _
 ·cases hx;cases hy;exact .same _
 ·cases hx;cases hy;exact .same _
 ·cases hx;cases hy;exact .same _
 ·cases hx;cases hy;exact .same _
 ·cases hx;cases hy;exact .same _
 ·cases hx;cases hy;exact hd
 ·simp at hx
theorem LP {X:Type} [Cod X] {H:ab} {d:D} (y:X) (h:FrzTo H d (enc y)):FrzTo H (.list (Cod.wd X) [d]) (enc [y]):=by
 show FrzTo H (.list (Cod.wd X) [d]) (.list (Cod.wd X) [enc y])
 refine .list rfl (fun z hz=> ?_) fun k c c' hc hc'=> ?_
 ·simp at hz;subst hz;exact⟨Cod.kn y,Cod.wid y⟩
 ·rcases k with _ | k
  ·cases hc;cases hc';exact h
  ·simp at hc
theorem JR {b:Nat} {post:Rdr→Cond→Prop} {H:ab} {o:Int} {n a v l:B} {f:Bool} {d:D} (s:Rdr) (ks:List Cond) (hd:FrzTo (fun i=> if i=0 then none else H i) d (enc ks)) (h0:H 0=some (.box b (cW s))) (hq:post s ⟨o,n,a,v,l,f,ks⟩):
 BI enc b post (.agg [.v (.int .i64 o), .v (.string n), .v (.string a), .v (.string v), .v (.string l), .v (.bool f),d]) H:=gT s (⟨o,n,a,v,l,f,ks⟩:Cond) (wY ks hd) h0 hq
end Go.Gv
