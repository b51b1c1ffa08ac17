/- A part of the framework and of the walks: W71 W72 W73 W74. -/
import Derived.Lib.UnsafeStr
import Derived.Test.YtaiffcbkmgfklaaGreatDoorGt31
import Derived.Test.YtaiffcbkmgfklaaGreatDoorGt22
import Derived.Test.YtaiffcbkmgfklaaGreatDoorGt30
set_option linter.unusedSimpArgs false
set_option linter.unusedVariables false
set_option maxRecDepth 100000

namespace Go.Gv
open Cod (enc dec)
open Go.Proofs Go.RowKit
set_option maxHeartbeats 1000000 in
theorem IZ (b:Nat) (u:Bool) (v:Value) (l:List UInt8) (w:World) (hbk:w.heap[b]?=some (.cells #[pv b u,v] 108 (0,0))) (hown:w.ownsRow 0 5 1 v l.length (l.map fun c=> Value.int .u8 c.toNat)) (h0:l≠ []):
 Calls Tryz.prog 64 #[.pointer (some ⟨b,0,none⟩)] w fun e w'=> e= .returned (.string ⟨l.toArray⟩)∧ ∃g cap,v= .slice (some ⟨g,0,none⟩) l.length cap∧w'=w.drew.freeze ⟨g,0,none⟩ l.length:=by
 have hl0:l.length≠0:=by simpa using h0
 obtain⟨g,cap,cur,rfl,hbg,hg,hnc,hcm,hcs,htake⟩: ∃g cap cur,v= .slice (some ⟨g,0,none⟩) l.length cap∧0≤g∧w.heap[g]?=some (.cells cur 5 (0,0))∧l.length≤cap∧cap≤maxLen∧cur.size=cap*1∧cur.toList.take (l.length*1)=l.map fun c=> Value.int .u8 c.toNat:=by
  rcases hown.2 with⟨_,hz⟩ | ⟨g,cap,cur,hv,r⟩
  ·exact absurd hz hl0
  ·exact⟨g,cap,cur,hv,r⟩
 have c1:w.drew.cell? ⟨b,1,none⟩=some (.slice (some ⟨g,0,none⟩) l.length cap):=by
  have:w.drew.heap[b]?=some (.cells #[pv b u, .slice (some ⟨g,0,none⟩) l.length cap] 108 (0,0)):=hbk
  rw[Lib.cell_of_heap this];rfl
 have t145:Tryz.prog.underlying 145=some (.pointer 5):=by kernel_rfl
 have hc5:Tryz.prog.cellsOf 5=1:=by kernel_rfl
 have hSD: (Builtin.unsafeSliceData_ #[50] 145 #[.slice (some ⟨g,0,none⟩) l.length cap]).run Tryz.prog w.drew= .ok (.pointer (some ⟨g,0,none⟩)) w.drew:=
  Lib.run_unsafeSliceData_row _ _ _ _ _ _ (by omega)
 have hUS: (Builtin.unsafeString_ #[145,3] 9 #[.pointer (some ⟨g,0,none⟩), .int .i64 l.length]).run Tryz.prog w.drew= .ok (.string ⟨l.toArray⟩) (w.drew.freeze ⟨g,0,none⟩ l.length):=by
  refine Lib.run_unsafeString_row w.drew 145 3 9 5 t145 hc5 g cur.size (by have hg':w.drew.heap[g]?=some (.cells cur 5 (0,0)):=hg;simp[World.shape?,hg']) l h0 (by omega) (by unfold maxLen at hcm;omega) ?_
  intro j x hx
  have:=hown.cells (g:=g) rfl j (.int .u8 x.toNat) (by simp[hx])
  exact this
 have hmx:=ay
 go_enter Tryz.func64,Tryz.ntmps64
 go_wp2
 go_region_o
 all_goals (go_wp2;go_ret;exact⟨rfl,g,cap,rfl,rfl⟩)
theorem AT (w:World) (b i:Nat) (v:Value):GrB w (w.setCell ⟨b,i,none⟩ v) (some b):=
 ⟨⟨rfl,rfl,rfl,by simp,fun k _ hk=> heap_setCell_other w _ k v (fun e=> hk (by rw[e]))⟩,Nat.le_refl _⟩
theorem StW.ds {E:ny} {tp:Nat→Prop} {H:aa} {w:World} (h:StW E tp H w) (dl:List Deferred):StW { E with ds:=dl } tp H w:=⟨h.1,h.2,h.3,h.4,h.5,h.6,h.7⟩
theorem Na {E:ny} {tp:Nat→Prop} {w:World} {b:Nat} {u:Bool} {v:Value} {s:ByteArray} {H:aa} (h:StW E tp H w) (h0:H 0=some (.tbox 108 b [.v (pv b u), .own 900 v])) (h9:H 900=some (.row v 5 1 (bD s))):
 w.heap[b]?=some (.cells #[pv b u,v] 108 (0,0))∧w.ownsRow 0 5 1 v s.size (Lib.strCells s)∧v.ownBlock≠some b∧v.oneCell'=true:=by
 obtain⟨xs,h1,h2,h3⟩:=h.sat.ok _ _ h0
 obtain⟨ys,k1,k2,k3⟩:=h.sat.ok _ _ h9
 have hx:xs= #[pv b u,v]∧v.oneCell'=true:=by
  obtain⟨l⟩:=xs
  have h2:l.length=2:=h2
  match l,h2 with
  | [x,y],_=>
    have e0:=(h3 0 x _ rfl rfl).2
    have e1:=(h3 1 y _ rfl rfl)
    have e0:=e0.inv_v
    obtain⟨e1a,e1b⟩:=e1
    cases e1b
    subst e0
    exact⟨rfl,e1a⟩
 have hfl:bT (bD s)=bD s:=yH (by
  have:=B0 s.data.toList
  exact this)
 have hlen: (bD s).length=s.size:=by simp[bD]
 have hy:ys=Lib.strCells s:=by
  rw[hfl] at k3
  have hl:ys.length=(bD s).length:=by have:=k1.1;omega
  have e:Lib.strCells s=(bD s).map fun d=> match d with | .v x=> x | _=> undef:=by
   unfold Lib.strCells bD
   rw[List.map_map]
   rfl
  rw[e]
  apply List.ext_getElem?
  intro k
  by_cases hk:k < ys.length
  ·have hk2:k < (bD s).length:=by omega
   have g1:=List.getElem?_eq_getElem hk
   have g2:=List.getElem?_eq_getElem hk2
   have:=(k3 k _ _ g1 g2).2
   rw[g1,List.getElem?_map,g2]
   simp only[bD,List.getElem_map] at this ⊢
   rw[this.inv_v]
   rfl
  ·rw[List.getElem?_eq_none (by omega),List.getElem?_eq_none (by simp;omega)]
 subst hy
 rw[hlen] at k1
 refine⟨by rw[←hx.1];exact h1,k1,fun e=> ?_,hx.2⟩
 have:=h.sat.dis 0 900 _ _ b h0 h9 rfl e
 omega
theorem HI {vs:List Value} {m k:Nat} {x:Value} (h:vs[k]?=some x): (vs.toArray++Array.replicate m undef).getD k undef=x:=by
 have hlt:=(List.getElem?_eq_some_iff.1 h).1
 rw[Array.getD_eq_getD_getElem?,Array.getElem?_append_left (by simpa using hlt)]
 simp[h]
theorem QE {vs:List Value} (h:vs.length=2): ∃x0 x1,vs= [x0,x1]:=by
 match vs,h with
 | [x0,x1],_=> exact⟨x0,x1,rfl⟩
theorem WH {vs:List Value} (h:vs.length=1): ∃x0,vs= [x0]:=by
 match vs,h with
 | [x0],_=> exact⟨x0,rfl⟩
theorem U7 {b:Nat} {u:Bool} {v:Value} {w:World} (hbk:w.heap[b]?=some (.cells #[pv b u,v] 108 (0,0))): (PV b u w).heap[b]?=some (.cells #[pv b true,v] 108 (0,0)):=by
 cases u with
 | true=> exact hbk
 | false=> exact(heap_setCell_same w b 0 _ 108 _ hbk).trans (by rfl)
theorem XG (b:Nat) (u:Bool) (w:World):GrB w (PV b u w) (some b):=by
 cases u with
 | true=> exact eK _ _
 | false=> exact AT w b 0 _
theorem K5 (b:Nat) (u:Bool) (w:World): (PV b u w).heap.size=w.heap.size:=by
 cases u with
 | true=> rfl
 | false=> simp[PV]
theorem Ha {Q:Value→D→Prop} {x y:Value} {c d:D} (h1:Q x c) (hx:x.oneCell'=true) (h2:Q y d) (hy:y.oneCell'=true):b9 Q [x,y] [c,d]:=by
 intro k z e hz he
 match k with
 | 0=> simp at hz he;subst hz;subst he;exact⟨hx,h1⟩
 | 1=> simp at hz he;subst hz;subst he;exact⟨hy,h2⟩
 | k+2=> simp at hz
theorem Up {tp I:Nat→Prop} {w:World} {v:Value} {s t:ByteArray} (h:w.ownsRow 0 5 1 v (s.size+t.size) (Lib.strCells s++Lib.strCells t)):ResOk (R tp I w) w (.row v 5 1 (bD (s++t))):=by
 have e1:Lib.strCells s++Lib.strCells t=Lib.strCells (s++t):=by
  unfold Lib.strCells
  rw[ByteArray.data_append,Array.toList_append,List.map_append]
 have e2: (bD (s++t)).length=s.size+t.size:=by simp[bD]
 refine⟨Lib.strCells (s++t),by rw[e2,←e1];exact h,fun d hd=> ?_,?_⟩
 ·obtain⟨c,_,rfl⟩:=List.mem_map.1 hd
  exact⟨rfl,rfl⟩
 ·rw[show bT (bD (s++t))=bD (s++t) from yH (B0 (s++t).data.toList)]
  intro k y c hy hc
  unfold Lib.strCells at hy
  unfold bD at hc
  rw[List.getElem?_map] at hy hc
  obtain⟨z,hz,rfl⟩:=Option.map_eq_some_iff.1 hy
  rw[hz] at hc
  cases hc
  exact⟨rfl, .int _ _⟩
abbrev s_wstr:Spc:=TK 108 5 (a1 B) (.tup [.any, .any]) (fun z:B=> some z)
def VW (Q:D→aa→Prop) (ds:List D) (H0:aa):Prop:= ∃b u v s t,ds= [.bptr 0 b 0, .v (.string t)]∧H0=ak (ak cu 900 (some (.row v 5 1 (bD s)))) 0 (some (.tbox 108 b [.v (pv b u), .own 900 v]))∧s.size+t.size≤o9∧
 ∀u' v',Q (.tup [.any, .any]) (ak (ak cu 900 (some (.row v' 5 1 (bD (s++t))))) 0 (some (.tbox 108 b [.v (pv b u'), .own 900 v'])))
def qfT:List aK:= [.tmp 4, .tmp 5]
theorem Bk (E:ny) (ds':List D) (H0:aa) (Q:D→aa→Prop) (vs:List Value) (w:World) (RR:Ending→World→Prop) (hds:E.ds= []) (hN:E.N=19) (hlen:vs.length=ds'.length)
 (hst:St E (d4 ds') H0 { tmps:=vs.toArray++Array.replicate (Tryz.f60.ntmps -vs.toArray.size) undef,defers:= [] } w) (hV:VW Q ds' H0)
 (hfin: ∀ (a':Act) (w':World) (σ':Sg) (H':aa) (dl:List Deferred),St { E with ds:=dl } σ' H' a' w'→(j7 qfT σ' H' fun ds=> Q (cE ds) H')→ ∃v,(results Tryz.f60 a'.tmps).run Tryz.prog w'= .ok v w'∧RR (.returned v) w'):Calls Tryz.prog 60 vs.toArray w RR:=by
 obtain⟨b,u,v,s,t,rfl,rfl,hsz,hQ⟩:=hV
 obtain⟨hd,hN2,tp,hw,hr⟩:=hst
 obtain⟨x0,x1,rfl⟩:=QE hlen
 have e0:x0= .pointer (some ⟨b,0,none⟩):=by
  have h0:=hr 0
  rw[HI (x:=x0) rfl] at h0
  have h0:R tp (bW E.O tp _ w) w x0 (.bptr 0 b 0):=h0
  cases h0
  rfl
 have e1:x1= .string t:=by
  have h0:=hr 1
  rw[HI (x:=x1) rfl] at h0
  have h0:R tp (bW E.O tp _ w) w x1 (.v (.string t)):=h0
  exact h0.inv_v
 clear hr
 subst e0;subst e1
 obtain⟨hbk,hown,hne,hv1⟩:=Na (b:=b) (u:=u) (v:=v) (s:=s) hw (by simp[ak]) (by simp[ak])
 refine(yF b u v s.size (Lib.strCells s) t w hbk hown hne (by unfold o9 at hsz;omega)).mono ?_
 rintro e w' ⟨rfl,v',w2,g1,g2,g3,rfl⟩
 have hv':v'.oneCell'=true:=by
  rcases g1.2 with⟨rfl,_⟩ | ⟨g,cap,cur,rfl,_⟩ <;> rfl
 have hbk1:=U7 hbk
 obtain⟨s1,_⟩:=hw.own 0 (some (.tbox 108 b [.v (pv b true), .own 900 v])) (XG b u w) (fun b' e=> by cases e;exact⟨_,by simp[ak];rfl,rfl⟩) (fun r b' e1 e2=> by cases e1;cases e2;exact .inr ⟨_,by simp[ak];rfl,rfl⟩) (fun m r e=> by
  cases e
  exact⟨_,hbk1,rfl,Ha (.v _ rfl (fun s h=> by cases h)) rfl (.own _ _ hv1) hv1⟩)
 obtain⟨s2,_⟩:=s1.own 900 (some (.row v' 5 1 (bD (s++t)))) g2 (fun b' e=> ⟨.row v 5 1 (bD s),by simp[ak],e⟩) (fun r b' e1 e2=> by
  cases e1
  rcases g3 b' e2 with h | h
  ·exact .inl (by rw[K5];exact h)
  ·exact .inr ⟨.row v 5 1 (bD s),by simp[ak],h⟩) (fun m r e=> by
  cases e
  exact Up g1)
 have hb2:w2.heap[b]?=some (.cells #[pv b true,v] 108 (0,0)):=by
  rw[g2.block b (by rw[K5];exact(Array.getElem?_eq_some_iff.1 hbk).1) (fun e=> hne e.symm)]
  exact hbk1
 obtain⟨s3,_⟩:=s2.own 0 (some (.tbox 108 b [.v (pv b true), .own 900 v'])) (AT w2 b 1 v') (fun b' e=> by cases e;exact⟨_,by simp[ak];rfl,rfl⟩) (fun r b' e1 e2=> by cases e1;cases e2;exact .inr ⟨_,by simp[ak];rfl,rfl⟩) (fun m r e=> by
  cases e
  exact⟨_,(heap_setCell_same w2 b 1 _ 108 v' hb2),rfl,Ha (.v _ rfl (fun s h=> by cases h)) rfl (.own _ _ hv') hv'⟩)
 let a':Act:= { tmps:= #[undef,undef,undef,undef, .int .i64 t.size, .nilIface,undef,undef,undef,undef,undef,undef,undef,undef,undef,undef,undef,undef,undef],defers:= [] }
 obtain⟨q,h1,h2⟩:=hfin a' (w2.setCell ⟨b,1,none⟩ v') (fun _=> .any) _ [] ⟨rfl,by rw[hN];rfl,tp,s3.ds [],fun t=> .any _⟩ (by
  have:=hQ true v'
  have e:ak (ak (ak (ak (ak cu 900 (some (.row v 5 1 (bD s)))) 0 (some (.tbox 108 b [.v (pv b u), .own 900 v]))) 0 (some (.tbox 108 b [.v (pv b true), .own 900 v]))) 900 (some (.row v' 5 1 (bD (s++t))))) 0 (some (.tbox 108 b [.v (pv b true), .own 900 v']))=
   ak (ak cu 900 (some (.row v' 5 1 (bD (s++t))))) 0 (some (.tbox 108 b [.v (pv b true), .own 900 v'])):=by
   funext i
   simp only[ak]
   by_cases h0:i=0
   ·simp[h0]
   ·by_cases h9:i=900 <;> simp[h0,h9]
  rw[e]
  exact this)
 have hres: (results Tryz.f60 a'.tmps).run Tryz.prog (w2.setCell ⟨b,1,none⟩ v')= .ok (.tuple #[.int .i64 t.size, .nilIface]) (w2.setCell ⟨b,1,none⟩ v'):=by
  simp[results,Tryz.results60,a']
 rw[hres] at h1
 cases h1
 exact h2
theorem gM:Tri Tryz.prog ab s_wstr.pt:=
 OH (V:=VW) (rs:=qfT) (N:=19) (by simp) (nD Tryz.func60 (by kernel_rfl) rfl) rfl (by kernel_rfl) (fun z=> by show 2≤19;decide) Bk fun b x z hp=> by
  obtain⟨t,ht,hl⟩:=hp
  cases ht
  exact⟨b,x.u,x.v,x.s,z,rfl,rfl,hl,fun u' v'=> ⟨⟨u',v',x.s++z⟩,(), .same _,by simp[ak],fun p hp=> by simp at hp;subst hp;simp[ak],z,rfl,rfl⟩⟩
theorem yw (w:World) (g n k:Nat) (h:k≠g): (w.freeze ⟨g,0,none⟩ n).heap[k]?=w.heap[k]?:=by
 unfold World.freeze
 split
 ·rfl
 ·simp only[Array.getElem?_modify]
  rw[if_neg (by omega)]
theorem AV (w:World) (g n:Nat): (w.freeze ⟨g,0,none⟩ n).heap.size=w.heap.size:=by
 unfold World.freeze
 split
 ·rfl
 ·simp
theorem KB (w:World) (p:Addr) (n:Nat): (w.freeze p n).os=w.os∧(w.freeze p n).tape=w.tape∧(w.freeze p n).output=w.output∧(w.freeze p n).drawn=w.drawn:=by
 unfold World.freeze
 split <;> exact⟨rfl,rfl,rfl,rfl⟩
def YO:PT:=fun d ds H K=> ∃id b u v s,ds= [.bptr id b 0]∧H id=some (.tbox 108 b [.v (pv b u), .own 900 v])∧H 900=some (.row v 5 1 (bD s))∧id≠900∧(s.size≠0∧s.size≤o9)∧K (.v (.string s)) (ak (ak H 900 none) id none)
theorem Uk:sp YO:=fun d ds H K K' hk ⟨id,b,u,v,s,h1,h2,h3,h4,h5,h6⟩=> ⟨id,b,u,v,s,h1,h2,h3,h4,h5,hk _ _ h6⟩
abbrev s_string:Spc:= .gen YO Uk
def VG (Q:D→aa→Prop) (ds:List D) (H0:aa):Prop:= ∃b u v s,ds= [.bptr 0 b 0]∧H0=ak (ak cu 900 (some (.row v 5 1 (bD s)))) 0 (some (.tbox 108 b [.v (pv b u), .own 900 v]))∧s.size≠0∧s.size≤o9∧Q (.v (.string s)) cu
def qfU:List aK:= [.tmp 2]
theorem Mb (E:ny) (ds':List D) (H0:aa) (Q:D→aa→Prop) (vs:List Value) (w:World) (RR:Ending→World→Prop) (hds:E.ds= []) (hN:E.N=14) (hlen:vs.length=ds'.length)
 (hst:St E (d4 ds') H0 { tmps:=vs.toArray++Array.replicate (Tryz.f64.ntmps -vs.toArray.size) undef,defers:= [] } w) (hV:VG Q ds' H0)
 (hfin: ∀ (a':Act) (w':World) (σ':Sg) (H':aa) (dl:List Deferred),St { E with ds:=dl } σ' H' a' w'→(j7 qfU σ' H' fun ds=> Q (cE ds) H')→ ∃v,(results Tryz.f64 a'.tmps).run Tryz.prog w'= .ok v w'∧RR (.returned v) w'):Calls Tryz.prog 64 vs.toArray w RR:=by
 obtain⟨b,u,v,s,rfl,rfl,hsz,hlim,hQ⟩:=hV
 have hmx:s.size≤maxLen:=by unfold o9 at hlim;simp only[maxLen];omega
 obtain⟨hd,hN2,tp,hw,hr⟩:=hst
 obtain⟨x0,rfl⟩:=WH hlen
 have e0:x0= .pointer (some ⟨b,0,none⟩):=by
  have h0:=hr 0
  rw[HI (x:=x0) rfl] at h0
  have h0:R tp (bW E.O tp _ w) w x0 (.bptr 0 b 0):=h0
  cases h0
  rfl
 clear hr
 subst e0
 obtain⟨hbk,hown,hne,hv1⟩:=Na (b:=b) (u:=u) (v:=v) (s:=s) hw (by simp[ak]) (by simp[ak])
 have hl:s.data.toList.length=s.size:=by simp
 refine(IZ b u v s.data.toList w hbk (by rw[hl];exact hown) (fun e=> hsz (by rw[←hl,e];rfl))).mono ?_
 rintro e w' ⟨rfl,g,cap,rfl,rfl⟩
 have hes: (⟨s.data.toList.toArray⟩:ByteArray)=s:=rfl
 rw[hes]
 have hg9:=hw.sat.out 900 (.row (.slice (some ⟨g,0,none⟩) s.data.toList.length cap) 5 1 (bD s)) g (by simp[ak]) rfl
 have hown9:eA (ak (ak cu 900 (some (.row (.slice (some ⟨g,0,none⟩) s.data.toList.length cap) 5 1 (bD s)))) 0 (some (.tbox 108 b [.v (pv b u), .own 900 (.slice (some ⟨g,0,none⟩) s.data.toList.length cap)]))) g:=⟨900, .row (.slice (some ⟨g,0,none⟩) s.data.toList.length cap) 5 1 (bD s),by simp[ak],rfl⟩
 obtain⟨r1,r2,r3,r4⟩:=KB w.drew ⟨g,0,none⟩ s.data.toList.length
 have hstep:Step tp (eA (ak (ak cu 900 (some (.row (.slice (some ⟨g,0,none⟩) s.data.toList.length cap) 5 1 (bD s)))) 0 (some (.tbox 108 b [.v (pv b u), .own 900 (.slice (some ⟨g,0,none⟩) s.data.toList.length cap)])))) w (w.drew.freeze ⟨g,0,none⟩ s.data.toList.length):=
  ⟨r1,r2,r3,by rw[AV];exact Nat.le_refl _,fun k _ ho _=> yw _ g _ k (fun e=> ho (e ▸hown9)),fun k hk=> .same (yw _ g _ k (fun e=> hg9.2 (e ▸hk))),by rw[r4];exact Nat.le_succ _⟩
 obtain⟨s1,_⟩:=hw.move (H':=cu) hstep (fun _ h=> h) (fun _ h=> .inl h) (fun k hk=> by rw[AV];exact hw.tpl k hk) (fun k ⟨i,r,h,_⟩=> by simp[cu] at h) ⟨fun i j r s b h=> by simp[cu] at h,fun i r b h=> by simp[cu] at h,fun i r h=> by simp[cu] at h⟩
 let a':Act:= { tmps:= #[undef,undef, .string s,undef,undef,undef,undef,undef,undef,undef,undef,undef,undef,undef],defers:= [] }
 obtain⟨q,h1,h2⟩:=hfin a' _ (kI (fun _=> .any) 2 (.v (.string s))) cu [] ⟨rfl,by rw[hN];rfl,tp,s1.ds [],fun t=> by
  by_cases h:t=2
  ·subst h
   exact .str s hmx
  ·simp only[kI,h,if_false]
   exact .any _⟩ hQ
 have hres: (results Tryz.f64 a'.tmps).run Tryz.prog (w.drew.freeze ⟨g,0,none⟩ s.data.toList.length)= .ok (.string s) (w.drew.freeze ⟨g,0,none⟩ s.data.toList.length):=by
  simp[results,Tryz.results64,a']
 rw[hres] at h1
 cases h1
 exact h2
theorem QO:Tri Tryz.prog cR s_string.pt:=by
 refine wy (V:=VG) (rs:=qfU) (N:=14) (nD Tryz.func64 (by kernel_rfl) rfl) rfl (by kernel_rfl) Mb ?_
 rintro ds H d K ⟨id,b,u,v,s,rfl,h1,h2,h3,h4,hK⟩
 have hH0: ∀i r,ak (ak cu 900 (some (.row v 5 1 (bD s)))) 0 (some (.tbox 108 b [.v (pv b u), .own 900 v])) i=some r→(i=0∧r= .tbox 108 b [.v (pv b u), .own 900 v])∨(i=900∧r= .row v 5 1 (bD s)):=by
  intro i r h
  by_cases e:i=0
  ·subst e
   simp only[ak,if_true] at h
   cases h
   exact .inl ⟨rfl,rfl⟩
  ·by_cases e9:i=900
   ·subst e9
    simp[ak] at h
    exact .inr ⟨rfl,h.symm⟩
   ·simp[ak,e,e9,cu] at h
 refine⟨by show 1≤14;decide, [.bptr 0 b 0],ak (ak cu 900 (some (.row v 5 1 (bD s)))) 0 (some (.tbox 108 b [.v (pv b u), .own 900 v])),fun i=> if i=0 then id else i, .cons (.bptr _ _ _ _) .nil,fun i r h=> ?_,fun i j r q h h' e=> ?_,fun r H'=> r= .v (.string s)∧H'=cu,?_,?_⟩
 ·rcases hH0 i r h with⟨rfl,rfl⟩ | ⟨rfl,rfl⟩
  ·exact h1
  ·exact h2
 ·rcases hH0 i r h with⟨rfl,rfl⟩ | ⟨rfl,rfl⟩ <;> rcases hH0 j q h' with⟨rfl,rfl⟩ | ⟨rfl,rfl⟩ <;> simp at e ⊢
  ·exact absurd e h3
  ·exact absurd e.symm h3
 ·exact⟨b,u,v,s,rfl,rfl,h4.1,h4.2,rfl,rfl⟩
 ·rintro r H' ⟨rfl,rfl⟩
  refine⟨.v (.string s),cu,ak (ak H 900 none) id none,fun _=> none, .same _,fun j q h=> by simp[cu] at h,hK,fun i q hi=> ?_,fun i j k q q' _ _ h=> by cases h⟩
  by_cases e:i=id
  ·subst e
   simp[ak] at hi
  ·by_cases e9:i=900
   ·subst e9
    simp[ak,e] at hi
   ·simp only[ak,e,e9,if_false] at hi
    refine⟨hi,fun k p hk hk2=> ?_⟩
    rcases hH0 k p hk with⟨rfl,rfl⟩ | ⟨rfl,rfl⟩
    ·simp at hk2
     exact e hk2.symm
    ·simp at hk2
     exact e9 hk2.symm
end Go.Gv

namespace Go.Gv
open Cod (enc dec)
open Go.Proofs Go.RowKit
variable {S S0:Nat→Spc}
theorem K6 (s:ByteArray) (w:World):Calls Tryz.prog 200 #[.string s, .string ⟨#[34]⟩] w fun e w'=> e= .returned (.int .i64 (Lib.countByte s.data.toList 34))∧w'=w:=by
 go_enter Tryz.func200,Tryz.ntmps200
 go_wp2
 rw[run_callFunc_extern Tryz.func219 (by kernel_rfl) (by kernel_rfl) (by kernel_rfl) (e:=Extern.BytealgCount.count) (by kernel_rfl),Lib.run_countString]
 simp only[Result.andThen]
 rw[Oper.upon_value]
 go_wp2
 go_ret
 exact⟨rfl,rfl⟩
abbrev s_count0:Spc:=dt (a2 B B) (fun x=> x.2=⟨#[34]⟩∧(34:UInt8) ∉x.1.data.toList) (enc (X:=Int)) fun x y=> y=0
theorem Bi:Tri Tryz.prog j0 s_count0.pt:=by
 refine Gm (nD Tryz.func200 (by kernel_rfl) rfl) fun tp I w vs x hp hI hl hv=> ?_
 obtain⟨s,t⟩:=x
 obtain⟨rfl,c1⟩:=hp
 have hview: (a2 B B).view (s,⟨#[34]⟩)= [.v (.string s), .v (.string ⟨#[34]⟩)]:=rfl
 rw[hview] at hl hv
 obtain⟨v0,v1,rfl⟩:=QE hl
 have e0:=Nf (hv 0 v0 _ rfl rfl)
 have e1:=Nf (hv 1 v1 _ rfl rfl)
 subst e0;subst e1
 refine(K6 s w).mono ?_
 rintro e w' ⟨rfl,rfl⟩
 refine⟨_,0,rfl,rfl,fun tp' I'=> ?_,Below.refl _ _,Nat.le_refl _⟩
 have h0:Lib.countByte s.data.toList 34=0:=List.count_eq_zero.2 c1
 rw[h0]
 exact .int _ _
abbrev zj:Spc:=dt (a4 B B B Int) (fun x=> x.2.1=⟨#[34]⟩∧x.2.2.1=⟨#[34,34]⟩∧x.2.2.2= -1∧(34:UInt8) ∉x.1.data.toList) (enc (X:=B)) fun x y=> y=x.1
theorem xk (h1:S j0=s_count0):Walk kf j1 S (a4 B B B Int) (fun x=> x.2.1=⟨#[34]⟩∧x.2.2.1=⟨#[34,34]⟩∧x.2.2.2= -1∧(34:UInt8) ∉x.1.data.toList) (enc (X:=B)) fun x y=> y=x.1:=by
 rintro⟨s,o,n,k⟩ ⟨c1,c2,c3,c4⟩
 simp only at c1 c2 c3 c4
 subst c1;subst c2;subst c3
 have c4': ¬ (34:UInt8) ∈s.data:=fun h=> c4 (Array.mem_toList_iff.2 h)
 simp[kf,j1,h1,c4,c4']
abbrev zk:Spc:=dt (a3 B B B) (fun x=> x.2.1=⟨#[34]⟩∧x.2.2=⟨#[34,34]⟩∧(34:UInt8) ∉x.1.data.toList) (enc (X:=B)) fun x y=> y=x.1
theorem ti (h1:S fJ=zj):Walk gX gT S (a3 B B B) (fun x=> x.2.1=⟨#[34]⟩∧x.2.2=⟨#[34,34]⟩∧(34:UInt8) ∉x.1.data.toList) (enc (X:=B)) fun x y=> y=x.1:=by
 rintro⟨s,o,n⟩ ⟨c1,c2,c4⟩
 simp only at c1 c2 c4
 subst c1;subst c2
 have c4': ¬ (34:UInt8) ∈s.data:=fun h=> c4 (Array.mem_toList_iff.2 h)
 simp[gX,gT,h1,c4,c4']
end Go.Gv

namespace Go.Gv
open Cod (enc dec)
open Go.Proofs
variable {S S0:Nat→Spc}
def lE (s:B):Option B:=if(34:UInt8) ∈s.data.toList then none else some (((⟨#[34]⟩:B) ++s) ++ ⟨#[34]⟩)
def gP (z:B×Bool):Option B:=(lE z.1).map fun t=> if z.2 then t++ ⟨#[37,99]⟩ else t
def ET (x:Cond):Option B:=if x.op=1 then some ⟨#[91,93]⟩ else if x.op=2 then(gP (x.val,x.fold)).map fun t=> if x.name=E0 then t else(x.name++ ⟨#[61]⟩) ++t else none
def lW (x:Cond):Prop:=x.op=1∨x.op=2∧x.name=E0
instance (x:Cond):Decidable (lW x):=by unfold lW;infer_instance
def ez (x:Cond) (t:B):B:=if lW x then t else(⟨#[91]⟩ ++t) ++ ⟨#[93]⟩
def Wm (p:Pat):Option B:=(ET p.cond).map fun t=> if p.lab=E0 then ez p.cond t else(p.lab++ ⟨#[58]⟩) ++ez p.cond t
theorem af (a:Array UInt8):ByteArray.size ⟨a⟩=a.size:=rfl
theorem ai (a b:B): (a++b).size=a.size+b.size:=ByteArray.size_append
theorem mY:o9=1000000:=rfl
theorem v6 {b:Nat} {s:ByteArray} {H:aa} (u:Bool) (v:Value) (h0:H 0=some (.tbox 108 b [.v (pv b u), .own 900 v])) (h9:H 900=some (.row v 5 1 (bD s))):XV 108 5 b s (.tup []) (.tup []) H:=
 ⟨u,v, .same _,h0,h9⟩
abbrev L2:Spc:=TK 108 5 (a1 B) (.tup []) lE
theorem Hn (h1:S d9=zk) (h2:S ab=s_wstr):Hd jB jr S 108 5 (a1 B) (.tup []) lE:=by
 rintro b u v s z t ht hl
 unfold lE at ht
 split at ht
 ·cases ht
 ·rename_i hn
  cases ht
  have hn': ¬ (34:UInt8) ∈z.data:=fun h=> hn (Array.mem_toList_iff.2 h)
  simp only[ai,af] at hl
  simp at hl
  simp[jB,jr,h1,h2,hn,hn',ai,af, -Bool.forall_bool, -Bool.exists_bool]
  have hL:=mY
  exact⟨by omega,by omega,by omega,fun u' v'=> v6 u' v' (by simp) (by simp)⟩
abbrev CO:Spc:=TK 108 5 (a2 B Bool) (.tup []) gP
theorem Cf (h1:S df=L2) (h2:S ab=s_wstr):Hd fl fk S 108 5 (a2 B Bool) (.tup []) gP:=by
 rintro b u v s ⟨z,fo⟩ t ht hl
 obtain⟨q,hq,ht⟩:=Option.map_eq_some_iff.1 ht
 simp only at hq ht
 cases fo with
 | false=>
   simp at ht
   subst ht
   simp[fl,fk,h1,h2,hq,hl,ai,af, -Bool.forall_bool, -Bool.exists_bool]
   exact fun u' v'=> v6 u' v' (by simp) (by simp)
 | true=>
   simp at ht
   subst ht
   simp only[ai,af] at hl
   simp at hl
   have hl1:s.size+q.size≤o9:=by omega
   simp[fl,fk,h1,h2,hq,hl1,ai,af, -Bool.forall_bool, -Bool.exists_bool]
   exact fun u' v'=> ⟨by omega,fun u' v'=> v6 u' v' (by simp) (by simp[ByteArray.append_assoc])⟩
abbrev HN:Spc:=TK 108 5 (a1 Cond) (.tup []) ET
theorem Fh (h1:S ea=CO) (h2:S ab=s_wstr):Hd ei d8 S 108 5 (a1 Cond) (.tup []) ET:=by
 rintro b u v s x t ht hl
 unfold ET at ht
 split at ht
 ·rename_i e
  cases ht
  simp only[af] at hl
  simp at hl
  simp[ei,d8,e,h1,h2,hl,ai,af, -Bool.forall_bool, -Bool.exists_bool]
  exact fun u' v'=> v6 u' v' (by simp) (by simp)
 ·rename_i e1
  split at ht
  ·rename_i e
   obtain⟨q,hq,ht⟩:=Option.map_eq_some_iff.1 ht
   subst ht
   by_cases hn:x.name=E0
   ·rw[if_pos hn] at hl ⊢
    have hn':x.name=⟨#[]⟩:=hn
    simp[ei,d8,e,h1,h2,hl,hn',hq,ai,af, -Bool.forall_bool, -Bool.exists_bool]
    exact fun u' v'=> v6 u' v' (by simp) (by simp)
   ·rw[if_neg hn] at hl ⊢
    have hn': ¬x.name=⟨#[]⟩:=hn
    simp only[ai,af] at hl
    simp at hl
    simp[ei,d8,e,h1,h2,hn',hq,ai,af, -Bool.forall_bool, -Bool.exists_bool]
    have hL:=mY
    exact⟨by omega,by omega,fun u' v'=> ⟨by omega,fun u' v'=> v6 u' v' (by simp) (by simp[ByteArray.append_assoc])⟩⟩
  ·cases ht
abbrev L0:Spc:=TK 108 5 (a1 Pat) (.tup []) Wm
theorem Cg (h1:S dG=HN) (h2:S ab=s_wstr):Hd bL bK S 108 5 (a1 Pat) (.tup []) Wm:=by
 rintro b u v s ⟨op,⟨cop,cname,carg,cval,clab,cfold,ckids⟩,lab,reg,mn,mx,kids⟩ t ht hl
 obtain⟨q,hq,ht⟩:=Option.map_eq_some_iff.1 ht
 simp only at hq ht
 have hL:=mY
 have hop:cop=1∨cop=2∧cname=E0∨cop=2∧ ¬cname=E0:=by
  unfold ET at hq
  split at hq
  ·exact .inl (by assumption)
  ·split at hq
   ·by_cases h:cname=E0
    ·exact .inr (.inl ⟨by assumption,h⟩)
    ·exact .inr (.inr ⟨by assumption,h⟩)
   ·cases hq
 rcases hop with e | e | e
 ·by_cases hn:lab=E0
  ·rw[if_pos hn] at ht
   subst ht
   have hn':lab=⟨#[]⟩:=hn
   obtain rfl:=e
   unfold ez at hl ⊢
   rw[if_pos (show lW _ from .inl rfl)] at hl ⊢
   simp[bL,bK,E0,h1,h2,hl,hn',hq,ai,af, -Bool.forall_bool, -Bool.exists_bool]
   repeat' first | apply And.intro | intro _
   all_goals first | omega | (rename_i u' v';exact v6 u' v' (by simp) (by simp[ByteArray.append_assoc]))
  ·rw[if_neg hn] at ht
   subst ht
   have hn': ¬lab=⟨#[]⟩:=hn
   obtain rfl:=e
   unfold ez at hl ⊢
   rw[if_pos (show lW _ from .inl rfl)] at hl ⊢
   simp only[ai,af] at hl
   simp at hl
   simp[bL,bK,E0,h1,h2,hl,hn',hq,ai,af, -Bool.forall_bool, -Bool.exists_bool]
   repeat' first | apply And.intro | intro _
   all_goals first | omega | (rename_i u' v';exact v6 u' v' (by simp) (by simp[ByteArray.append_assoc]))
 ·by_cases hn:lab=E0
  ·rw[if_pos hn] at ht
   subst ht
   have hn':lab=⟨#[]⟩:=hn
   obtain⟨rfl,rfl⟩:=e
   have hq:ET ⟨2,⟨#[]⟩,carg,cval,clab,cfold,ckids⟩=some q:=hq
   unfold ez at hl ⊢
   rw[if_pos (show lW _ from .inr ⟨rfl,rfl⟩)] at hl ⊢
   simp[bL,bK,E0,h1,h2,hl,hn',hq,ai,af, -Bool.forall_bool, -Bool.exists_bool]
   repeat' first | apply And.intro | intro _
   all_goals first | omega | (rename_i u' v';exact v6 u' v' (by simp) (by simp[ByteArray.append_assoc]))
  ·rw[if_neg hn] at ht
   subst ht
   have hn': ¬lab=⟨#[]⟩:=hn
   obtain⟨rfl,rfl⟩:=e
   have hq:ET ⟨2,⟨#[]⟩,carg,cval,clab,cfold,ckids⟩=some q:=hq
   unfold ez at hl ⊢
   rw[if_pos (show lW _ from .inr ⟨rfl,rfl⟩)] at hl ⊢
   simp only[ai,af] at hl
   simp at hl
   simp[bL,bK,E0,h1,h2,hl,hn',hq,ai,af, -Bool.forall_bool, -Bool.exists_bool]
   repeat' first | apply And.intro | intro _
   all_goals first | omega | (rename_i u' v';exact v6 u' v' (by simp) (by simp[ByteArray.append_assoc]))
 ·by_cases hn:lab=E0
  ·rw[if_pos hn] at ht
   subst ht
   have hn':lab=⟨#[]⟩:=hn
   obtain⟨rfl,e'⟩:=e
   have e'': ¬cname=⟨#[]⟩:=e'
   unfold ez at hl ⊢
   rw[if_neg (show ¬lW _ from fun h=> h.elim (fun h=> by simp at h) fun h=> e' h.2)] at hl ⊢
   simp only[ai,af] at hl
   simp at hl
   simp[bL,bK,e'',h1,h2,hl,hn',hq,ai,af, -Bool.forall_bool, -Bool.exists_bool]
   repeat' first | apply And.intro | intro _
   all_goals first | omega | (rename_i u' v';exact v6 u' v' (by simp) (by simp[ByteArray.append_assoc]))
  ·rw[if_neg hn] at ht
   subst ht
   have hn': ¬lab=⟨#[]⟩:=hn
   obtain⟨rfl,e'⟩:=e
   have e'': ¬cname=⟨#[]⟩:=e'
   unfold ez at hl ⊢
   rw[if_neg (show ¬lW _ from fun h=> h.elim (fun h=> by simp at h) fun h=> e' h.2)] at hl ⊢
   simp only[ai,af] at hl
   simp at hl
   simp[bL,bK,e'',h1,h2,hl,hn',hq,ai,af, -Bool.forall_bool, -Bool.exists_bool]
   repeat' first | apply And.intro | intro _
   all_goals first | omega | (rename_i u' v';exact v6 u' v' (by simp) (by simp[ByteArray.append_assoc]))
end Go.Gv

namespace Go.Gv
open Cod (enc dec)
open Go.Proofs
variable {S S0:Nat→Spc}
def sR (p:Bool) (t:B):B:=if p then(⟨#[40]⟩ ++t) ++ ⟨#[41]⟩ else t
def Yi (CT:List D→Option B) (i b:Nat) (ds:List D):Option B:=match ds with
 | [.cptr [.bptr j b' 0] 0, .cptr cs 0]=> if j=i∧b'=b then CT cs else none
 | _=> none
def Yd (CT:Nat→List D→Option B) (i b:Nat) (ds:List D):Option B:=match ds with
 | [.bptr i' b1 0, .v (.bool p), .clo g [.cptr [.bptr j b' 0] 0, .cptr cs 0]]=> if i'=i∧b1=b∧j=i∧b'=b then(CT g cs).map (sR p) else none
 | _=> none
abbrev Ns (CT:List D→Option B):Spc:=qbk 108 5 (Yi CT) (.tup [])
abbrev Nr (CT:Nat→List D→Option B):Spc:=qbk 108 5 (Yd CT) (.tup [])
theorem VL (CT:List D→Option B) (d i b:Nat) (cs:List D) (H:aa) (K:D→aa→Prop):Wa 108 5 (.tup []) (fun t:B=> some t) i b (H i) (H 900) (CT cs) H K→(Ns CT).pt d [.cptr [.bptr i b 0] 0, .cptr cs 0] H K:=fun h=>
 NE (i:=i) (b:=b) (by rw[show Yi CT i b [.cptr [.bptr i b 0] 0, .cptr cs 0]=CT cs by simp[Yi]];exact h)
theorem Zm (CT:Nat→List D→Option B) (d i b g:Nat) (p:Bool) (cs:List D) (H:aa) (K:D→aa→Prop):Wa 108 5 (.tup []) (fun t:B=> some t) i b (H i) (H 900) ((CT g cs).map (sR p)) H K→(Nr CT).pt d [.bptr i b 0, .v (.bool p), .clo g [.cptr [.bptr i b 0] 0, .cptr cs 0]] H K:=fun h=>
 NE (i:=i) (b:=b) (by rw[show Yd CT i b [.bptr i b 0, .v (.bool p), .clo g [.cptr [.bptr i b 0] 0, .cptr cs 0]]=(CT g cs).map (sR p) by simp[Yd]];exact h)
theorem Sm {i b:Nat} {s:ByteArray} {H:aa} (u:Bool) (v:Value) (h0:H i=some (.tbox 108 b [.v (pv b u), .own 900 v])) (h9:H 900=some (.row v 5 1 (bD s))):qag 108 5 i b s (.tup []) (.tup []) H:=
 ⟨u,v, .same _,h0,h9⟩
theorem Jk (CT:Nat→List D→Option B) (h1:S ab=s_wstr) (h2: ∀g cs t,CT g cs=some t→S g=Ns (CT g)):Th gw gk S 108 5 (Yd CT) (.tup []):=by
 intro i b u v s ds t hi hg hl
 have hi': ¬900=i:=fun e=> hi e.symm
 unfold Yd at hg
 split at hg
 ·rename_i i' b1 p g j b' cs
  split at hg
  ·rename_i he
   obtain⟨rfl,rfl,rfl,rfl⟩:=he
   obtain⟨q,hq,rfl⟩:=Option.map_eq_some_iff.1 hg
   have hL:=mY
   have h3:=h2 _ _ _ hq
   cases p with
   | false=>
     simp only[sR,Bool.false_eq_true,if_false] at hl ⊢
     simp[gw,gk]
     rw[h3]
     refine VL _ _ _ _ _ _ _ ?_
     simp[hi,hi',hq,hl, -Bool.forall_bool, -Bool.exists_bool]
     exact fun u' v'=> Sm u' v' (by simp) (by simp[hi'])
   | true=>
     simp only[sR,if_true] at hl ⊢
     simp only[ai,af] at hl
     simp at hl
     simp[gw,gk,h1,hi,hi',af, -Bool.forall_bool, -Bool.exists_bool]
     refine⟨by omega,fun u' v'=> ?_⟩
     rw[h3]
     refine VL _ _ _ _ _ _ _ ?_
     simp[hi,hi',hq,ai,af, -Bool.forall_bool, -Bool.exists_bool]
     repeat' first | apply And.intro | intro _
     all_goals first | omega | (rename_i u' v';exact Sm u' v' (by simp) (by simp[hi',ByteArray.append_assoc]))
  ·cases hg
 ·cases hg
def FN (op:Int) (i:Nat):B:=if i=0 then E0 else if op=5 then⟨#[32,124]⟩ ++ ⟨#[32]⟩ else⟨#[32]⟩
def zG (op:Int) (k:Pat):Bool:=decide (k.op=5) || (decide (k.op=4) && decide (op=4))
def AQ (f:Pat→Option B) (op:Int):Nat→List Pat→Option B
 | _, []=> some E0
 | i,k::ks=> (f k).bind fun t=> (AQ f op (i+1) ks).map fun r=> (FN op i++sR (zG op k) t) ++r
def Rm (f:Pat→Option B) (p:Pat):Option B:=
 if p.op=1 then Wm p else if p.op=2 then some ((⟨#[60]⟩ ++p.reg) ++ ⟨#[62]⟩) else if p.op=3 then some ((⟨#[60,47]⟩ ++p.reg) ++ ⟨#[62]⟩) else
 if p.op=4∨p.op=5 then AQ f p.op 0 p.kids else none
def tT:Nat→Pat→Option B
 | 0=> fun _=> none
 | n+1=> Rm (tT n)
def GE (T:Pat→Option B) (cs:List D):Option B:=if cs.length=13 then(dec (X:=Pat) (.agg cs)).bind T else none
abbrev CP (T:Pat→Option B):Spc:=TK 108 5 (a1 Pat) (.tup []) T
theorem wn (T:Pat→Option B) (h1:S bG=CP T):Th fu fp S 108 5 (Yi (GE T)) (.tup []):=by
 intro i b u v s ds t hi hg hl
 have hi': ¬900=i:=fun e=> hi e.symm
 unfold Yi at hg
 split at hg
 ·rename_i j b' cs
  split at hg
  ·rename_i he
   obtain⟨rfl,rfl⟩:=he
   unfold GE at hg
   split at hg
   ·rename_i h13
    obtain⟨p,hd,ht⟩:=Option.bind_eq_some_iff.1 hg
    have htk:List.take 13 cs=cs:=List.take_of_length_le (by omega)
    simp[fu,fp,h1,h13,htk,hd,ht,hi,hi',hl, -Bool.forall_bool, -Bool.exists_bool]
    exact fun u' v'=> Sm u' v' (by simp) (by simp[hi'])
   ·cases hg
  ·cases hg
 ·cases hg
end Go.Gv
