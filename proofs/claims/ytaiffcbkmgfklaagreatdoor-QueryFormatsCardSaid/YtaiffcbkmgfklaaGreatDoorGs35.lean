/- A part of the framework and of the walks: W90 W91 W92 W93. -/
import Derived.Test.YtaiffcbkmgfklaaGreatDoorGs34
import Derived.Test.YtaiffcbkmgfklaaGreatDoorGs31
import Derived.Test.YtaiffcbkmgfklaaGreatDoorGs28
import Derived.Test.YtaiffcbkmgfklaaGreatDoorGs32
set_option linter.unusedSimpArgs false
set_option linter.unusedVariables false
set_option maxRecDepth 100000
set_option maxHeartbeats 1000000

namespace Go.Gv
open Cod (enc dec)
variable {S S0:Nat→Spc} {f:Int×Int}
abbrev s_qstrats:Spc:=cY a0 (fun _=> True) (enc (X:=List B)) fun _ y=> y=strategyL
theorem QN:Walk iY iL S a0 (fun _=> True) (enc (X:=List B)) fun _ y=> y=strategyL:=by
 rintro x -
 simp[iY,iL]
 exact gj (Y:=List B) strategyL (.same _) rfl
@[simp] abbrev NC (n:Nat) (s:Rdr) (_:Unit):Out (Rdr×Qry):=queryE n s
abbrev sK (f:Int×Int) (n:Nat):Spc:=z7 a0 (enc (X:=Qry)) f (NC n)
theorem QV (n:Nat) (h1:S a8=pS) (h2:S dg=Fa f (iy n)) (h3:S af=cb) (h4:S aM=mN) (h5:S br=tq) (h6:S b5=oz)
 (h7:S df=E6 f (fa n)) (h8:S bX=mO) (h9:S bk=qk f) (h10:S av=mP f) (h11:S bY=s_qstrats):
 fV i6 iN S a0 (enc (X:=Qry)) f (NC n):=by
 rintro b s ⟨⟩ hf
 have hf: (queryE n s).fine f:=hf
 have e:=queryE.eq_1 n s
 simp only[dx,ir] at e
 simp[i6,iN,h1,h2, -Bool.forall_bool, -Bool.exists_bool]
 intro b2
 refine oO hf e fun q1 e=> ?_
 refine lF hf e fun p e=> ?_
 intro b3
 refine zB (X:=Rdr×Glob) [0,2] [2] [] [] (fun z=> queryE n s=(eu 500 z.1 []).bind fun f=> (ti f.1).bind fun z'=> if z'.1.kind=0 then .ok (z'.1,⟨p.2,z.2,f.2,z'.2⟩) else .err (z'.1.pos,3)) (fun _=> [(3, .bptr 3 b3 0)]) (fun z=> [(0, .box b (dw z.1)),(3, .box b3 [.v (.int .i64 p.2.op), .v (.int .i64 p.2.cond.op), .v (.string p.2.cond.name), .v (.string p.2.cond.arg), .v (.string p.2.cond.val), .v (.string p.2.cond.lab), .v (.bool p.2.cond.fold),enc p.2.cond.kids, .v (.string p.2.lab), .v (.string p.2.reg), .v (.int .i64 p.2.mn), .v (.int .i64 p.2.mx),enc p.2.kids, .v (.int .i64 z.2.op), .v (.string z.2.a), .v (.string z.2.b), .v (.string z.2.name), .v (.string z.2.arg), .v (.string z.2.val), .v (.bool z.2.fold), .v (.int .i64 z.2.mn), .v (.int .i64 z.2.mx),enc z.2.args,enc z.2.kids, .v (.slice none 0 0), .v (.int .i64 0)])]) [0,3] (fun _=> rfl) (by decide) ?_ ?_
 ·simp[h3,h7, -Bool.forall_bool, -Bool.exists_bool]
  refine oO hf e fun w e=> ⟨fun hc=> ?_,fun hc=> ?_⟩
  ·rw[if_pos hc] at e
   refine lF hf e fun g e=> ?_
   exact⟨_,_,e, .inl ⟨rfl,rfl,rfl,rfl,rfl⟩, .inl (.inl ⟨rfl,rfl,rfl,rfl,rfl,rfl,rfl,rfl,rfl,rfl,rfl⟩)⟩
  ·rw[if_neg (by simp[hc]),Out.bind_ok] at e
   exact⟨_,GlobE,e, .inl ⟨rfl,rfl,rfl,rfl,rfl⟩, .inl ⟨rfl,rfl,rfl,rfl,rfl,rfl,rfl,rfl,rfl,rfl,rfl⟩⟩
 clear e
 rintro⟨s1,g⟩ e
 simp only at e
 refine zB (X:=Rdr×List Filt) [0,2] [2] [55] [] (fun z=> queryE n s=(ti z.1).bind fun z'=> if z'.1.kind=0 then .ok (z'.1,⟨p.2,g,z.2,z'.2⟩) else .err (z'.1.pos,3)) (fun _=> [(3, .bptr 3 b3 0)]) (fun z=> [(0, .box b (dw z.1)),(3, .box b3 [.v (.int .i64 p.2.op), .v (.int .i64 p.2.cond.op), .v (.string p.2.cond.name), .v (.string p.2.cond.arg), .v (.string p.2.cond.val), .v (.string p.2.cond.lab), .v (.bool p.2.cond.fold),enc p.2.cond.kids, .v (.string p.2.lab), .v (.string p.2.reg), .v (.int .i64 p.2.mn), .v (.int .i64 p.2.mx),enc p.2.kids, .v (.int .i64 g.op), .v (.string g.a), .v (.string g.b), .v (.string g.name), .v (.string g.arg), .v (.string g.val), .v (.bool g.fold), .v (.int .i64 g.mn), .v (.int .i64 g.mx),enc g.args,enc g.kids,enc z.2, .v (.int .i64 0)])]) [0,3] (fun _=> rfl) (by decide) ?_ ?_
 ·simp
  refine sC (X:=Nat×Rdr×Value×List Filt) [0,2,3] [2] [] [] [] [] (fun z=> (queryE n s=(eu z.1 z.2.1 z.2.2.2).bind fun f=> (ti f.1).bind fun z'=> if z'.1.kind=0 then .ok (z'.1,⟨p.2,g,f.2,z'.2⟩) else .err (z'.1.pos,3))∧z.2.2.2.length+z.1≤500) (fun _=> []) (fun z=> [(0, .box b (dw z.2.1)),(3, .box b3 [.v (.int .i64 p.2.op), .v (.int .i64 p.2.cond.op), .v (.string p.2.cond.name), .v (.string p.2.cond.arg), .v (.string p.2.cond.val), .v (.string p.2.cond.lab), .v (.bool p.2.cond.fold),enc p.2.cond.kids, .v (.string p.2.lab), .v (.string p.2.reg), .v (.int .i64 p.2.mn), .v (.int .i64 p.2.mx),enc p.2.kids, .v (.int .i64 g.op), .v (.string g.a), .v (.string g.b), .v (.string g.name), .v (.string g.arg), .v (.string g.val), .v (.bool g.fold), .v (.int .i64 g.mn), .v (.int .i64 g.mx),enc g.args,enc g.kids, .own 55 z.2.2.1, .v (.int .i64 0)]),(55, .row z.2.2.1 gc 3 (z.2.2.2.map enc))]) (fun z=> z.1) (500,s1, .slice none 0 0, []) [0,3,55] (fun _=> rfl) (by decide) (by decide) ⟨e,by simp⟩ ?_ ?_ ?_
  ·simp
  ·simp[isNilRow]
   exact .nilown 55
  clear e
  rintro⟨k,s2,v,fs⟩ ⟨e,hlen⟩
  simp only at e hlen
  obtain _ | k:=k
  ·rw[e,eu] at hf;exact hf.elim
  rw[eu] at e
  simp[h1,h3,h4,h5,h6,h8,h9,h10, -Bool.forall_bool, -Bool.exists_bool]
  refine⟨fun g1=> ⟨fun g2=> ?_,fun g2=> ?_⟩,fun g1=> ?_⟩
  ·rw[if_pos (by simp[g2])] at e
   simp only[MU,dx,ir,Out.bind_bind] at e
   refine oO hf e fun w e=> ?_
   intro b4
   refine⟨fun k2=> ⟨fun i1=> ?_,fun i1=> ?_⟩,fun k2=> ?_⟩
   ·rw[if_pos (.inr i1)] at e
    rw[e] at hf;exact hf
   ·rw[if_neg (by simp only[B6];omega)] at e
    simp only[Out.bind_bind,Out.map_bind] at e
    refine oO hf e fun x e=> ?_
    refine lF hf e fun r e=> ?_
    exact⟨by omega,by omega,fun v'=> ⟨k,r.1,v',fs++ [⟨B6 filterL w.1.text,w.2,r.2⟩],⟨e,by simp;omega⟩,⟨.inl ⟨rfl,rfl,rfl,rfl,rfl⟩, .inl (.inl rfl), .inl (.inl (by simp[B6]))⟩,by omega⟩⟩
   ·rw[if_pos (.inl k2)] at e
    rw[e] at hf;exact hf
  ·rw[if_neg (by simp[g1,g2]),Out.bind_ok] at e
   exact⟨s2,fs,e, .inl ⟨rfl,rfl,rfl,rfl,rfl⟩, .inl (OY gc (by simp[Rz]))⟩
  ·rw[if_pos (by simp[g1])] at e
   simp only[MU,dx,ir,Out.bind_bind] at e
   refine oO hf e fun w e=> ?_
   intro b4
   refine⟨fun k2=> ⟨fun i1=> ?_,fun i1=> ?_⟩,fun k2=> ?_⟩
   ·rw[if_pos (.inr i1)] at e
    rw[e] at hf;exact hf
   ·rw[if_neg (by simp only[B6];omega)] at e
    simp only[Out.bind_bind,Out.map_bind] at e
    refine oO hf e fun x e=> ?_
    refine lF hf e fun r e=> ?_
    exact⟨by omega,by omega,fun v'=> ⟨k,r.1,v',fs++ [⟨B6 filterL w.1.text,w.2,r.2⟩],⟨e,by simp;omega⟩,⟨.inl ⟨rfl,rfl,rfl,rfl,rfl⟩, .inl (.inl rfl), .inl (.inl (by simp[B6]))⟩,by omega⟩⟩
   ·rw[if_pos (.inl k2)] at e
    rw[e] at hf;exact hf
 clear e
 rintro⟨s2,fs⟩ e
 simp only at e
 simp[h1,h5,h8,h9,h10,h11, -Bool.forall_bool, -Bool.exists_bool]
 simp only[ti,ir] at e
 have fin: ∀ (s':Rdr) (st:Int) (b4:Nat) (H:ae),H 0=some (.box b (dw s'))→queryE n s=(if s'.kind=0 then .ok (s',⟨p.2,g,fs,st⟩) else .err (s'.pos,3))→(¬s'.kind=0→(s'.pos,3)=f)∧(s'.kind=0→queryE n s= .ok (s',⟨p.2,g,fs,st⟩)):=by
  intro s' st _ H _ e
  refine⟨fun h=> ?_,fun h=> ?_⟩
  ·rw[if_neg h] at e
   rw[e] at hf;exact hf
  ·rw[if_pos h] at e;exact e
 refine⟨fun g1=> ?_,fun g1=> ?_⟩
 ·rw[if_pos (show rB s2 [strategyW]=true from g1),Out.bind_bind] at e
  refine oO hf e fun x e=> ⟨fun g2=> ?_,fun g2=> ?_⟩
  ·rw[if_neg (by simp[g2])] at e
   rw[e] at hf;exact hf
  ·rw[if_pos g2,Out.map_bind] at e
   refine lF hf e fun q e=> ?_
   have hx:=fin q.1 _ 0 (aq cZ 0 (some (.box b (dw q.1)))) (by simp) e
   exact⟨hx.1,fun h0=> iC q.1 (⟨p.2,g,fs,B6 strategyL q.2⟩:Qry) (by rw[AF];exact wR (by simp[B6])) (by simp) (hx.2 h0)⟩
 ·rw[if_neg (by rw[show rB s2 [strategyW]=false from g1];simp),Out.bind_ok] at e
  have hx:=fin s2 0 0 (aq cZ 0 (some (.box b (dw s2)))) (by simp) e
  exact⟨hx.1,fun h0=> iC s2 (⟨p.2,g,fs,0⟩:Qry) (by rw[AF];exact wR (by simp)) (by simp) (hx.2 h0)⟩
end Go.Gv

namespace Go.Gv
open Cod (enc dec)
open Go.Proofs
def zeroQ:List Value:= [(.int .i64 0),(.int .i64 0),(.string ⟨#[]⟩),(.string ⟨#[]⟩),(.string ⟨#[]⟩),(.string ⟨#[]⟩),(.bool false),(.slice none 0 0),(.string ⟨#[]⟩),(.string ⟨#[]⟩),(.int .i64 0),(.int .i64 0),(.slice none 0 0),(.int .i64 0),(.string ⟨#[]⟩),(.string ⟨#[]⟩),(.string ⟨#[]⟩),(.string ⟨#[]⟩),(.string ⟨#[]⟩),(.bool false),(.int .i64 0),(.int .i64 0),(.slice none 0 0),(.slice none 0 0),(.slice none 0 0),(.int .i64 0)]
def qhj:List CI:= [.op (some 4) none (.alloc 63 [(.int .i64 0),(.int .i64 0)]), .op none none (.store none 2 (.tmp 4) (.tmp 12)), .op (some 5) none (.mv (.tmp 13))]
def qb6:CC:= .seq (.seq (.reg [
 .op (some 14) none (.mv (.tmp 5)),
 .op (some 15) none (.not (.tmp 14))])
 (.ite (.tmp 15) (.reg [
   .op (some 16) none (.mv (.tmp 3)),
   .op none none (.bad)])
   (.skip)))
 (.regd [
   .op (some 17) none (.build [(.int .i64 0),(.int .i64 0),(.string ⟨#[]⟩),(.string ⟨#[]⟩),(.string ⟨#[]⟩),(.string ⟨#[]⟩),(.bool false),(.slice none 0 0),(.string ⟨#[]⟩),(.string ⟨#[]⟩),(.int .i64 0),(.int .i64 0),(.slice none 0 0),(.int .i64 0),(.string ⟨#[]⟩),(.string ⟨#[]⟩),(.string ⟨#[]⟩),(.string ⟨#[]⟩),(.string ⟨#[]⟩),(.bool false),(.int .i64 0),(.int .i64 0),(.slice none 0 0),(.slice none 0 0),(.slice none 0 0),(.int .i64 0)] []),
   .op (some 18) none (.faddr 0 (.tmp 4)),
   .op (some 19) none (.load false 1 (.tmp 18)),
   .op (some 20) none (.faddr 1 (.tmp 4)),
   .op (some 21) none (.load false 1 (.tmp 20)),
   .op none none (.store (some 100) 26 (.tmp 0) (.tmp 17)),
   .op none none (.store (some 101) 1 (.tmp 1) (.tmp 19))] [
   .op none none (.store (some 102) 1 (.tmp 2) (.tmp 21))])
def qjV:List Nat:= [2000100,2001101,2002102]
def qbY:Code→Option Code
 | .seq _ (.seq _ (.cond _ (.seq _ a) _))=> some a
 | _=> none
theorem qeT: ((Tryz.f27.body.bind qbY).bind fun c=> bm Tryz.prog qjV 22 c)=some (eB qb6):=by kernel_rfl
def qa3 (f:Int×Int) (b2 b3 b4:Nat):Sg:=eS [.bptr 100 b2 0, .bptr 101 b3 0, .bptr 102 b4 0, .any, .any, .any, .any, .any, .any, .any, .any, .any, .agg [.v (.int .i64 f.1), .v (.int .i64 f.2)], .v (.bool true)]
theorem qkn {S:Nat→Spc} (f:Int×Int) (b2 b3 b4:Nat) (c2:List D) (c3 c4:D) (h2:c2.length=26):xu S qhj (qa3 f b2 b3 b4) (aq (aq (aq cZ 100 (some (.box b2 c2))) 101 (some (.box b3 [c3]))) 102 (some (.box b4 [c4])))
 fun σ H=> vc S qb6 (TS fun _ H=> H 100=some (.box b2 (zeroQ.map tb))∧H 101=some (.box b3 [.v (.int .i64 f.1)])∧H 102=some (.box b4 [.v (.int .i64 f.2)])) σ H:=by
 simp[qhj,qb6,qa3,TS,h2,zeroQ]
 skip
def L7 (b:Nat):Value:= .pointer (some ⟨b,0,none⟩)
def X9 (t:Option TypeDesc):Bool:=match t with | some (.struct _)=> true | _=> false
theorem Un {t:Option TypeDesc} (h:X9 t=true): ∃fs,t=some (.struct fs):=by
 unfold X9 at h
 split at h
 ·exact⟨_,rfl⟩
 ·cases h
theorem und_fault: ∃fs,Tryz.prog.underlying 63=some (.struct fs):=Un (by kernel_rfl)
theorem Fk {P:Program} {t u:Nat} {fs:Array Field} (h:P.underlying t=some (.struct fs)) (v:Value) (w:World): (Instr.typeAssert (.iface t v) u t true).run P w= .ok (.tuple #[v, .bool true]) w:=by
 simp[Instr.typeAssert,run_underlying h]
theorem Q5 (v:Value) (w:World): (Instr.typeAssert (.iface 63 v) 20 63 true).run Tryz.prog w= .ok (.tuple #[v, .bool true]) w:=und_fault.elim fun _ h=> Fk h v w
theorem WD {E:pR} {H H':ae} {w:World} (ρ:Nat→Nat) (h: ∃tp,StW E tp H w) (h2: ∀i r,H' i=some r→H (ρ i)=some r) (h3: ∀i j r s,H' i=some r→H' j=some s→ρ i=ρ j→i=j): ∃tp,StW E tp H' w:=by
 obtain⟨tp,h⟩:=h
 have hst:St { E with N:=0,ds:= [] } (fun _=> .any) H { tmps:= #[],defers:= [] } w:=⟨rfl,rfl,tp,⟨h.1,h.2,h.3,h.4,h.5,h.6,h.7⟩,fun t=> .any _⟩
 obtain⟨_,_,tp',h',_⟩:=Js (Hf:=cZ) (σ':=fun _=> .any) ρ (fun t=> .same _) (fun i r k=> .inl ⟨r,h2 i r k, .inl rfl⟩) (fun i j r s a b e=> .inl (h3 i j r s a b e)) (fun i r k=> by cases k) _ _ w hst
 exact⟨tp',⟨h'.1,h'.2,h'.3,h'.4,h'.5,h'.6,h'.7⟩⟩
def H3 (i j k:Nat) (r s t:Res):ae:=aq (aq (aq cZ i (some r)) j (some s)) k (some t)
theorem MW (E:pR) (f:Int×Int) (b2 b3 b4:Nat) (c2:List D) (c3 c4:D) (hc2:c2.length=26) (w:World) (hst: ∃tp,StW E tp (H3 100 101 102 (.box b2 c2) (.box b3 [c3]) (.box b4 [c4])) w):CallsD Tryz.prog 27 #[L7 b2,L7 b3,L7 b4] (.panicking [{ v:=sm 63 f,recovered:=false }]) w fun e u' w'=> e= .returned (.tuple #[])∧u'= .panicking [{ v:=sm 63 f,recovered:=true }]∧
 ∃tp H,StW E tp H w'∧H 100=some (.box b2 (zeroQ.map tb))∧H 101=some (.box b3 [.v (.int .i64 f.1)])∧H 102=some (.box b4 [.v (.int .i64 f.2)]):=by
 refine callsD_of_wpS Tryz.func27 rfl fun c₀ cs hu=> ?_
 apply wpS_seq
 apply wpS_region
 simp[wpOpsS,go_sem,recoverD,hu,Tryz.ntmps27,Exit.thenS]
 apply wpS_seq
 apply wpS_region
 simp[wpOpsS,go_sem,recoverD,hu,Tryz.ntmps27,Exit.thenS,sm]
 refine wpS_cond (t:=true) (by simp[Act.eval,Array.replicate]) ?_
 simp only[if_true]
 refine wpS_of_wp ?_
 refine wp_seq ?_
 refine wp_region_list ?_
 refine wpList_plain rfl fun K hK=> ?_
 simp[go_sem]
 refine hK _ _ ?_
 refine wpList_plain rfl fun K hK=> ?_
 simp[go_sem,Q5]
 refine hK _ _ ?_
 refine wpList_plain rfl fun K hK=> ?_
 simp[go_sem]
 refine hK _ _ ?_
 refine wpList_plain rfl fun K hK=> ?_
 simp[go_sem]
 refine hK _ _ ?_
 refine wpList_plain rfl fun K hK=> ?_
 simp[go_sem]
 refine hK _ _ ?_
 clear hK
 obtain⟨tp,hst⟩:=hst
 refine IE (z:=IU) (E:= { E with N:=22,ds:= [] }) (im:= []) (S:=fun _=> .none) (K:=fun σ H=> vc (fun _=> .none) qb6 (TS fun _ H=> H 100=some (.box b2 (zeroQ.map tb))∧H 101=some (.box b3 [.v (.int .i64 f.1)])∧H 102=some (.box b4 [.v (.int .i64 f.2)])) σ H) (fun c a w' _ h=> h.1.elim) ?_ qhj (fun x hx=> BM (fun _=> mJ _ _) x) _ (by kernel_rfl) (qa3 f b2 b3 b4) (H3 100 101 102 (.box b2 c2) (.box b3 [c3]) (.box b4 [c4])) _ _ ?_ (qkn f b2 b3 b4 c2 c3 c4 hc2)
 ·intro σ H a w hs hk
  refine wp_mono (jc (E:= { E with N:=22,ds:= [] }) (im:=qjV) (fun _=> mJ _ _) ay qb6 _ qeT _ _ _ _ _ hs hk) ?_
  intro e a' w' hP
  cases e with
  | normal=>
    obtain⟨σ',H',hs',hk'⟩:=hP
    refine⟨hs'.1,_,rfl, .tuple #[],by simp[results,Tryz.results27],rfl,rfl,?_⟩
    obtain⟨_,_,tp',h',_⟩:=hs'
    exact⟨tp',H',⟨h'.1,h'.2,h'.3,h'.4,h'.5,h'.6,h'.7⟩,hk'⟩
  | ret=> obtain⟨_,_,_,h⟩:=hP;exact h.elim
  | exit i=> obtain⟨_,_,_,h⟩:=hP;exact h.elim
  | _=> exact hP.elim
 ·refine⟨rfl,by simp,tp,⟨hst.1,hst.2,hst.3,hst.4,hst.5,hst.6,hst.7⟩,fun t=> ?_⟩
  have any: ∀ {x:Value} {k:Nat},qa3 f b2 b3 b4 k= .any→R tp (cL E.O tp (H3 100 101 102 (.box b2 c2) (.box b3 [c3]) (.box b4 [c4])) w) w x (qa3 f b2 b3 b4 k):=fun h=> by rw[h];exact .any _
  rw[Array.getD_eq_getD_getElem?]
  match t with
  | 0=>
    simp[Array.getElem?_append]
    exact .bptr 100 b2 0
  | 1=>
    simp[Array.getElem?_append]
    exact .bptr 101 b3 0
  | 2=>
    simp[Array.getElem?_append]
    exact .bptr 102 b4 0
  | 3=> exact any rfl
  | 4=> exact any rfl
  | 5=> exact any rfl
  | 6=> exact any rfl
  | 7=> exact any rfl
  | 8=> exact any rfl
  | 9=> exact any rfl
  | 10=> exact any rfl
  | 11=> exact any rfl
  | 12=>
    simp[Array.getElem?_append,Array.getElem?_setIfInBounds]
    refine .agg [.int .i64 f.1, .int .i64 f.2] _ rfl (by simp[Value.oneCell']) fun k x c hx hc=> ?_
    rcases k with _ | _ | k
    ·cases hx;cases hc;exact .v _ rfl (fun s hs=> by cases hs)
    ·cases hx;cases hc;exact .v _ rfl (fun s hs=> by cases hs)
    ·simp at hx
  | 13=>
    simp[Array.getElem?_append,Array.getElem?_setIfInBounds]
    exact .v (.bool true) rfl (fun s hs=> by cases hs)
  | t+14=> exact any rfl
end Go.Gv

namespace Go.Gv
open Cod (enc dec)
open Go.Proofs
section
variable {P:Program} {im:List Nat} {E:pR} {S:Nat→Spc}
theorem WF {ops:Array Oper} {Q:Exit→Act→World→Prop} {K:Sg→ae→Prop} {z:List PanicEntry→Prop} (hpan: ∀c a w',a.defers=E.ds→Nw E z c w'→Q (.panic c) a w') {l2:List Oper} (hQ: ∀σ H a w,St E σ H a w→K σ H→wpList P ops Q l2 a w):
 ∀ (cis:List CI) (hS: ∀x∈cis,eq P z S x) (l:List Oper),l.mapM (d4 P im E.N ops)=some (cis.filter CI.real)→ ∀ (σ:Sg) (H:ae) (a:Act) (w:World),St E σ H a w→xu S cis σ H K→wpList P ops Q (l++l2) a w:=by
 intro cis
 induction cis with
 | nil=>
   intro hS l hl σ H a w hst hv
   cases l with
   | nil=> exact hQ σ H a w hst hv
   | cons o l=>
     rw[List.mapM_cons] at hl
     simp only[Option.bind_eq_bind,Option.bind_eq_some_iff,List.filter_nil] at hl
     obtain⟨x,_,y,_,h⟩:=hl
     cases h
 | cons x cis ih=>
   intro hS l hl σ H a w hst hv
   have ih:=ih fun x hx=> hS x (by simp[hx])
   have hS0:=hS _ (List.mem_cons_self ..)
   cases x with
   | frz t n=>
     simp only[xu] at hv
     obtain⟨σ',H',hst',hv'⟩:=Cb hst hv
     exact ih l (by simpa [List.filter_cons,CI.real] using hl) σ' H' a w hst' hv'
   | op dst g c=>
     cases l with
     | nil=> simp[List.filter_cons,CI.real] at hl
     | cons o l=>
       rw[List.mapM_cons] at hl
       simp only[Option.bind_eq_bind,Option.bind_eq_some_iff,List.filter_cons,CI.real,if_true] at hl
       obtain⟨x,hx,y,hy,h⟩:=hl
       cases h
       unfold d4 at hx
       simp only[Option.bind_eq_bind,Option.bind_eq_some_iff] at hx
       obtain⟨c',hc,g',hg,hx⟩:=hx
       split at hx
       ·rename_i hdst
        cases hx
        have hdst:=O9 hdst
        have hst0:=hst
        obtain⟨hd,hN,tp,hw,hr⟩:=hst
        simp only[xu] at hv
        rw[List.cons_append]
        unfold wpList
        rcases rM hg hr hv with⟨hwant,hyes⟩ | ⟨hwant,hno⟩
        ·rw[if_pos hwant]
         exact .inl (xo hS0 hc hw hd hN hr hdst hyes (fun c w'=> hpan c a w' hd) (fun r H' x w' hk hst'=> ih l hy _ _ _ _ hst' hk))
        ·rw[if_neg (by simp[hwant])]
         exact ih l hy _ _ _ _ (hst0.skip o.dst hdst) hno
       ·cases hx
end
def sd (s:B):Option (Qry×Int×Int):=if 400 < s.size then some (L5,0,2) else match queryE 500 ⟨s,0,0,E0,0⟩ with
 | .ok r=> some (r.2,0,0)
 | .err f=> some (L5,f.1,f.2)
 | .no=> none
def qhi:List CI:= [.op (some 10) none (.mv (.tmp 0)), .op (some 11) none (.build [(.string ⟨#[]⟩),(.int .i64 0),(.int .i64 0),(.string ⟨#[]⟩),(.int .i64 0)] [(0,1,(.tmp 10))]), .op (some 12) none (.box 69 false (.tmp 11))]
def KP (s:B) (b2 b3 b4:Nat) (σ:Sg) (H:ae):Prop:=σ 2= .bptr 2 b2 0∧σ 3= .bptr 3 b3 0∧σ 4= .bptr 4 b4 0∧H 2=some (.box b2 (zeroQ.map tb))∧H 3=some (.box b3 [.v (.int .i64 0)])∧H 4=some (.box b4 [.v (.int .i64 0)])∧ ∃b12,σ 12= .bptr 12 b12 0∧H 12=some (.box b12 (dw ⟨s,0,0,E0,0⟩))
theorem qaR {S:Nat→Spc} (s:B) (hs: ¬400 < s.size):vc S Ix (TS fun σ H=> vc S Iw (TS fun σ H=> ∃b2 b3 b4,(σ 2= .bptr 2 b2 0∧σ 3= .bptr 3 b3 0∧σ 4= .bptr 4 b4 0)∧xu S qhi (mG σ 9 .any) H (KP s b2 b3 b4)) σ H) (eS ((a1 B).view s)) cZ:=by
 have hsz': ¬ (400:Int) < s.size:=by omega
 simp[Ix,Iw,qhi,TS,hsz',KP,zeroQ,E0]
 exact fun b b1 b2 _=> ⟨b,b1,b2,⟨rfl,rfl,rfl⟩,rfl,rfl,rfl,rfl,rfl,rfl⟩
theorem OG {E:pR} {tp:Nat→Prop} {H:ae} {w w':World} {b12:Nat} {r2 r3 r4 r12:Res} (h:StW E tp H w) (h2:H 2=some r2) (h3:H 3=some r3) (h4:H 4=some r4) (h12:H 12=some r12) (hb:r12.blk=some b12)
 (hs:Step tp (fun b=> b=b12) w w'): ∃tp,StW E tp (H3 100 101 102 r2 r3 r4) w':=by
 refine WD (H:=aq (aq (aq cZ 2 (some r2)) 3 (some r3)) 4 (some r4)) (fun i=> i -98) ?_ (fun i r hi=> ?_) (fun i j r s hi hj e=> ?_)
 ·have hsub: ∀i r,aq (aq (aq cZ 2 (some r2)) 3 (some r3)) 4 (some r4) i=some r→H i=some r∧i≠12:=by
   intro i r hi
   simp only[aq] at hi
   split at hi
   ·rename_i e;subst e;cases hi;exact⟨h4,by decide⟩
   ·split at hi
    ·rename_i e;subst e;cases hi;exact⟨h3,by decide⟩
    ·split at hi
     ·rename_i e;subst e;cases hi;exact⟨h2,by decide⟩
     ·cases hi
  have hown: ∀b,eU (aq (aq (aq cZ 2 (some r2)) 3 (some r3)) 4 (some r4)) b→eU H b∧b≠b12:=fun b ⟨i,r,hi,hr⟩=> by
   obtain⟨a1,a2⟩:=hsub i r hi
   exact⟨⟨i,r,a1,hr⟩,fun e=> a2 (h.sat.dis i 12 r r12 b a1 h12 hr (by rw[hb,e]))⟩
  have hne: ∀b,¬eU H b→b≠b12:=fun b ho e=> ho ⟨12,r12,h12,by rw[hb,e]⟩
  refine⟨tp,(h.move (H':=aq (aq (aq cZ 2 (some r2)) 3 (some r3)) 4 (some r4)) ⟨hs.os,hs.tape,hs.output,hs.size,fun b hlt ho ht=> hs.same b hlt (hne b ho) ht,hs.tapes,hs.drawn⟩ (fun _ h=> h) (fun b h=> .inl h) (fun b hb'=> Nat.lt_of_lt_of_le (h.tpl.1 b hb') hs.size) (fun b hb'=> .inl (hown b hb').1) ⟨fun i j r s b k1 k2 k3 k4=> ?_,fun i r b k1 k2=> ?_,fun i r k1=> ?_⟩).1⟩
  ·exact h.sat.dis i j r s b (hsub i r k1).1 (hsub j s k2).1 k3 k4
  ·exact h.sat.out i r b (hsub i r k1).1 k2
  ·refine(h.sat.ok i r (hsub i r k1).1).conv (fun x d hr=> hr.mono (fun _ h=> h) (fun b hi=> ⟨⟨Nat.lt_of_lt_of_le hi.1 hs.size,hi.2.1,hi.2.2.1,fun ho=> hi.2.2.2 (hown b ho).1⟩,hs.same b hi.1 (hne b hi.2.2.2) hi.2.2.1⟩) hs.tapes) (fun b hk=> ?_)
   exact hs.same b ((h.sat.ok i r (hsub i r k1).1).lt hk) (hown b ⟨i,r,k1,hk⟩).2 (h.sat.out i r b (hsub i r k1).1 hk).2
 ·simp only[H3,aq] at hi
  split at hi
  ·rename_i e;subst e;cases hi;rfl
  ·split at hi
   ·rename_i e;subst e;cases hi;rfl
   ·split at hi
    ·rename_i e;subst e;cases hi;rfl
    ·cases hi
 ·have hk: ∀i r,H3 100 101 102 r2 r3 r4 i=some r→100≤i:=by
   intro i r hi
   simp only[H3,aq] at hi
   split at hi
   ·omega
   ·split at hi
    ·omega
    ·split at hi
     ·omega
     ·cases hi
  have a:=hk i r hi
  have b:=hk j s hj
  omega
theorem Vo {f:Int×Int} {s:B} (hq:TriZ (zF ax f) Tryz.prog bR (sK f 500).pt) (hF:queryE 500 ⟨s,0,0,E0,0⟩= .err f) {E:pR} {tp:Nat→Prop} {H:ae} {w:World} {a:Act} {σ:Sg} {b2 b3 b4:Nat} (h:StW E tp H w)
 (hr: ∀t,R tp (cL E.O tp H w) w (a.tmps.getD t undef) (σ t)) (hk:KP s b2 b3 b4 σ H): ∃b12,a.tmps.getD 12 undef=L7 b12∧fp Tryz.prog bR∧Calls Tryz.prog bR #[L7 b12] w fun e w'=> e= .panicked [{ v:=sm ax f,recovered:=false }]∧
   ∃tp,StW E tp (H3 100 101 102 (.box b2 (zeroQ.map tb)) (.box b3 [.v (.int .i64 0)]) (.box b4 [.v (.int .i64 0)])) w':=by
 obtain⟨k2,k3,k4,h2,h3,h4,b12,k12,h12⟩:=hk
 have r12:=hr 12
 rw[k12] at r12
 have inv: ∀x,R tp (cL E.O tp H w) w x (.bptr 12 b12 0)→x=L7 b12:=fun x hx=> by cases hx;rfl
 refine⟨b12,inv _ r12,?_⟩
 let O':Nat→Prop:=fun b=> E.O b∨b=b2∨b=b3∨b=b4
 let H':ae:=aq cZ 12 (some (.box b12 (dw ⟨s,0,0,E0,0⟩)))
 have hH: ∀i r,H' i=some r→i=12∧r= .box b12 (dw ⟨s,0,0,E0,0⟩):=by
  intro i r hi
  simp only[H',aq] at hi
  split at hi
  ·rename_i e;cases hi;exact⟨e,rfl⟩
  ·cases hi
 have hown: ∀b,eU H' b→b=b12:=fun b ⟨i,r,hi,hb⟩=> by
  obtain⟨_,rfl⟩:=hH i r hi
  cases hb;rfl
 have l2:b2 < w.heap.size:=(h.sat.ok 2 _ h2).lt rfl
 have l3:b3 < w.heap.size:=(h.sat.ok 3 _ h3).lt rfl
 have l4:b4 < w.heap.size:=(h.sat.ok 4 _ h4).lt rfl
 have n2:b12≠b2:=fun e=> by have:=h.sat.dis 12 2 _ _ b12 h12 h2 rfl (by rw[e];rfl);cases this
 have n3:b12≠b3:=fun e=> by have:=h.sat.dis 12 3 _ _ b12 h12 h3 rfl (by rw[e];rfl);cases this
 have n4:b12≠b4:=fun e=> by have:=h.sat.dis 12 4 _ _ b12 h12 h4 rfl (by rw[e];rfl);cases this
 have himm: ∀b,cL E.O tp H w b→cL O' tp H' w b:=fun b hb=> ⟨hb.1,fun ho=> by
  rcases ho with ho | rfl | rfl | rfl
  ·exact hb.2.1 ho
  ·exact hb.2.2.2 ⟨2,_,h2,rfl⟩
  ·exact hb.2.2.2 ⟨3,_,h3,rfl⟩
  ·exact hb.2.2.2 ⟨4,_,h4,rfl⟩,hb.2.2.1,fun ho=> hb.2.2.2 ⟨12,_,h12,by rw[hown b ho];rfl⟩⟩
 have hsat:Z0 O' tp H' w:=by
  refine⟨fun i j r s b k1 k2 _ _=> (hH i r k1).1.trans (hH j s k2).1.symm,fun i r b k1 kb=> ?_,fun i r k1=> ?_⟩
  ·obtain⟨_,rfl⟩:=hH i r k1
   cases kb
   have:=h.sat.out 12 _ b12 h12 rfl
   refine⟨fun ho=> ?_,this.2⟩
   rcases ho with ho | ho | ho | ho
   ·exact this.1 ho
   ·exact n2 ho
   ·exact n3 ho
   ·exact n4 ho
  ·obtain⟨_,rfl⟩:=hH i r k1
   exact(h.sat.ok 12 _ h12).conv (fun x d hr=> hr.mono (fun _ h=> h) (fun b hb=> ⟨himm b hb,rfl⟩) (fun b _=> .refl _ _)) (fun _ _=> rfl)
 have hO: ∀b,O' b→b < w.heap.size:=fun b ho=> by
  rcases ho with ho | rfl | rfl | rfl
  ·exact Nat.lt_of_lt_of_le (h.hO b ho) h.step.size
  ·exact l2
  ·exact l3
  ·exact l4
 obtain⟨hce,hc⟩:=hq O' tp w [L7 b12] [.bptr 12 b12 0] H' 13 (fun _ _=> False) hO (h.tpg.mono fun b ho=> by rw[hown b ho];exact⟨12,_,h12,rfl⟩) hsat rfl (fun k x c hx hc=> by
  rcases k with _ | k
  ·cases hx;cases hc;exact .bptr _ _ _
  ·simp at hx) (by
  rw[Tn]
  refine⟨⟨s,0,0,E0,0⟩,by simp[H',aq],?_⟩
  show Ae f (queryE 500 ⟨s,0,0,E0,0⟩) _
  rw[hF]
  rfl)
 refine⟨hce,hc.mono ?_⟩
 rintro e w' (⟨x,r,H1,tp1,_,hk,_⟩ | ⟨c,rfl,hz,hs⟩)
 ·exact hk.elim
 ·refine⟨by rw[hz.1],?_⟩
  exact OG h h2 h3 h4 h12 rfl ⟨hs.os,hs.tape,hs.output,hs.size,fun b hlt ho ht=> hs.same b hlt (fun e=> ho (hown b e)) ht,hs.tapes,hs.drawn⟩
theorem Jr {P:Program} {ops:Array Oper} {Q:Exit→Act→World→Prop} {l:List Oper} {a:Act} {w:World} (n:Nat) (h:wpList P ops Q (l.take n++l.drop n) a w):wpList P ops Q l a w:=by rwa [List.take_append_drop] at h
theorem Bv {tp I:Nat→Prop} {w:World} {x:Value} {id b:Nat} (h:R tp I w x (.bptr id b 0)):x=L7 b:=by cases h;rfl
theorem Vr {f:Int×Int} {s:B} (hsz: ¬400 < s.size) (hq:TriZ (zF ax f) Tryz.prog bR (sK f 500).pt) (hF:queryE 500 ⟨s,0,0,E0,0⟩= .err f) (E:pR) (Q:D→ae→Prop) (vs:List Value) (w:World) (R:Ending→World→Prop) (hds:E.ds= []) (hN:E.N=14)
 (hst:St E (eS ((a1 B).view s)) cZ { tmps:=vs.toArray++Array.replicate (Tryz.f11.ntmps -vs.toArray.size) undef,defers:= [] } w)
 (hQ: ∀H r,FrzTo H r (Yf (Y:=Qry) (Z:=Int) (W:=Int) (L5,f.1,f.2))→Q r H)
 (hfin: ∀ (a':Act) (w':World) (σ':Sg) (H':ae) (dl:List Deferred),St { E with ds:=dl } σ' H' a' w'→(l8 WH σ' H' fun ds=> Q (dt ds) H')→ ∃v,(results Tryz.f11 a'.tmps).run Tryz.prog w'= .ok v w'∧R (.returned v) w'):Calls Tryz.prog 11 vs.toArray w R:=by
 have hmf: ∀ (fn:Fn) (first cap:Array Value) (w:World),(Instr.makeFunc fn first cap).run Tryz.prog w= .ok (.func fn first cap) w:=fun _ _ _ _=> rfl
 have hV:=qaR (S:=fun _=> .none) s hsz
 refine calls_of_wp_defers Tryz.func11 rfl ?_
 apply wp_seq
 refine wp_mono (jc (E:=E) (im:= []) (fun _=> mJ _ _) ay Ix _ (by rw[hN];exact TL) _ _ _ _ _ hst hV) ?_
 intro e a1 w1 hP
 cases e with
 | normal=> ?_
 | ret=> obtain⟨_,_,_,h⟩:=hP;exact h.elim
 | exit i=> obtain⟨_,_,_,h⟩:=hP;exact h.elim
 | _=> exact hP.elim
 obtain⟨σ1,H1,hst1,hV1⟩:=hP
 apply wp_seq
 refine wp_mono (jc (E:=E) (im:= []) (fun _=> mJ _ _) ay Iw _ (by rw[hN];exact TK) _ _ _ _ _ hst1 hV1) ?_
 intro e a2 w2 hP
 cases e with
 | normal=> ?_
 | ret=> obtain⟨_,_,_,h⟩:=hP;exact h.elim
 | exit i=> obtain⟨_,_,_,h⟩:=hP;exact h.elim
 | _=> exact hP.elim
 obtain⟨σ2,H2,hst2,b2,b3,b4,⟨s2,s3,s4⟩,hV2⟩:=hP
 apply wp_seq
 have hsz2:a2.tmps.size=14:=by rw[hst2.2.1,hN]
 have hde:a2.defers= []:=by rw[hst2.1,hds]
 refine wp_region_list ?_
 refine wpList_plain rfl fun K hK=> ?_
 simp[go_sem,hmf]
 refine hK _ _ ?_
 refine wpList_plain rfl fun K hK=> ?_
 simp[go_sem,hsz2]
 refine hK _ _ ?_
 refine wpList_nil ?_
 have hst3:=St.defer hst2 (Value.func (Fn.func 27) #[] #[a2.tmps[2],a2.tmps[3],a2.tmps[4]]) ({ target:=Target.fn (Fn.func 27) #[a2.tmps[2],a2.tmps[3],a2.tmps[4]],args:= #[] } ::a2.defers) (by rw[hN];decide)
 apply wp_seq
 refine wp_region_list ?_
 clear hK
 have gt: ∀ (t:Nat) (h:t < a2.tmps.size),a2.tmps.getD t undef=a2.tmps[t]:=fun t h=> by simp[Array.getD,h]
 obtain⟨_,_,tp2,hw2,hr2⟩:=hst2
 have p2:a2.tmps[2]=L7 b2:=by rw[←gt];exact Bv (s2 ▸hr2 2)
 have p3:a2.tmps[3]=L7 b3:=by rw[←gt];exact Bv (s3 ▸hr2 3)
 have p4:a2.tmps[4]=L7 b4:=by rw[←gt];exact Bv (s4 ▸hr2 4)
 refine Jr 3 ?_
 refine WF (z:=IU) (E:= { E with ds:= { target:=Target.fn (Fn.func 27) #[a2.tmps[2],a2.tmps[3],a2.tmps[4]],args:= #[] } ::a2.defers }) (im:= []) (S:=fun _=> .none) (K:=KP s b2 b3 b4) (fun c a w' _ h=> h.1.elim) ?_ qhi (fun x hx=> BM (fun _=> mJ _ _) x) _ (by show List.mapM (d4 _ _ E.N _) _=_;rw[hN];kernel_rfl) _ _ _ _ hst3 hV2
 intro σ H a w' hs hk
 have hs0:=hs
 obtain⟨hd,hn,tp,hw,hr⟩:=hs
 obtain⟨b12,hb,hce,hc⟩:=Vo hq hF (E:=E) ⟨hw.1,hw.2,hw.3,hw.4,hw.5,hw.6,hw.7⟩ hr hk
 change wpList Tryz.prog _ _ ({ dst := some 13, op := Op.call { callee := Callee.value (Operand.func 28), args := #[Operand.tmp 12], argTypes := #[65] }, type := 38, pos := "text.go:522", after := #[{ on := 2, ground := Ground.data }], guard := none } :: _) a w'
 unfold wpList
 rw[if_pos (show Region.wanted _ _=true from rfl)]
 refine .inl ?_
 unfold Oper.wp
 have hrun : (execOp a.eval { dst := some 13, op := Op.call { callee := Callee.value (Operand.func 28), args := #[Operand.tmp 12], argTypes := #[65] }, type := 38, pos := "text.go:522", after := #[{ on := 2, ground := Ground.data }], guard := none }).run Tryz.prog w' = .ok (.enter 28 #[L7 b12]) w' := by
  have hce': (callFunc 28 #[L7 b12]).run Tryz.prog w'= .ok (.enter 28 #[L7 b12]) w':=hce _ w'
  simp[execOp,resolve,Act.eval,Deferred.ofValue,invoke,hb,hce']
 rw[hrun]
 simp only[Oper.upon]
 refine Calls.mono hc ?_
 rintro e w'' ⟨rfl,hst''⟩
 show Leaves Tryz.prog Tryz.f11 a.tmps R a.defers (.panicking [{ v:=sm ax f,recovered:=false }]) w''
 have hd':a.defers= { target:=Target.fn (Fn.func 27) #[a2.tmps[2],a2.tmps[3],a2.tmps[4]],args:= #[] } ::a2.defers:=hd
 rw[hd',hde,p2,p3,p4]
 refine leaves_cons (f:=27) (args:= #[L7 b2,L7 b3,L7 b4]) (by simp) (by simp[go_sem]) ?_
 refine(MW E f b2 b3 b4 _ _ _ (by simp[zeroQ]) w'' hst'').mono ?_
 rintro e u' w3 ⟨rfl,rfl,tp3,H3',hw3,k2,k3,k4⟩
 show Leaves Tryz.prog Tryz.f11 a.tmps R [] .returning w3
 have q2:=hr 2
 have q3:=hr 3
 have q4:=hr 4
 rw[hk.1] at q2
 rw[hk.2.1] at q3
 rw[hk.2.2.1] at q4
 obtain⟨v,h1,h2⟩:=hfin a w3 (fun t=> if t=2 then .bptr 100 b2 0 else if t=3 then .bptr 101 b3 0 else if t=4 then .bptr 102 b4 0 else .any) H3' a.defers ⟨rfl,hn,tp3,⟨hw3.1,hw3.2,hw3.3,hw3.4,hw3.5,hw3.6,hw3.7⟩,fun t=> by
  dsimp only
  split
  ·rename_i e;subst e;rw[Bv q2];exact .bptr _ _ _
  ·split
   ·rename_i e;subst e;rw[Bv q3];exact .bptr _ _ _
   ·split
    ·rename_i e;subst e;rw[Bv q4];exact .bptr _ _ _
    ·exact .any _⟩ (by
  simp[WH,l8,aJ,ev,k2,k3,k4,zeroQ,KF,dt]
  refine hQ _ _ (.tup rfl fun k x y hx hy=> ?_)
  rcases k with _ | _ | _ | k
  ·cases hx
   cases hy
   rw[AF]
   exact wR (by simp[L5,Cond0,E0])
  ·cases hx;cases hy;exact .same _
  ·cases hx;cases hy;exact .same _
  ·simp at hx)
 exact⟨v,h1,h2⟩
end Go.Gv

namespace Go.Gv
open Cod (enc dec)
open Go.Proofs
theorem Qa {H:ae} {r:D} {q:Qry} {a b:Int} (h:FrzTo H r (enc q)):FrzTo H (.tup [r, .v (.int .i64 a), .v (.int .i64 b)]) (Yf (Y:=Qry) (Z:=Int) (W:=Int) (q,a,b)):=by
 refine .tup rfl fun k x y hx hy=> ?_
 rcases k with _ | _ | _ | k
 ·cases hx;cases hy;exact h
 ·cases hx;cases hy;exact .same _
 ·cases hx;cases hy;exact .same _
 ·simp at hx
theorem YK {S:Nat→Spc} (s:B) (hs:400 < s.size) (Q:D→ae→Prop) (hQ: ∀H r,FrzTo H r (Yf (Y:=Qry) (Z:=Int) (W:=Int) (L5,0,2))→Q r H):vc S Ix (TS fun σ H=> vc S Iw (fun e σ H=> match e with | .ret=> l8 WH σ H fun ds=> Q (dt ds) H | _=> False) σ H) (eS ((a1 B).view s)) cZ:=by
 have hsz': (400:Int) < s.size:=by omega
 simp[Ix,Iw,WH,TS,hsz']
 exact fun b b1 b2 _=> hQ _ _ (Qa (by rw[AF];exact wR (by simp[L5,Cond0,E0])))
theorem Sb {s:B} (hsz:400 < s.size) (E:pR) (Q:D→ae→Prop) (vs:List Value) (w:World) (R:Ending→World→Prop) (hds:E.ds= []) (hN:E.N=14)
 (hst:St E (eS ((a1 B).view s)) cZ { tmps:=vs.toArray++Array.replicate (Tryz.f11.ntmps -vs.toArray.size) undef,defers:= [] } w)
 (hQ: ∀H r,FrzTo H r (Yf (Y:=Qry) (Z:=Int) (W:=Int) (L5,0,2))→Q r H)
 (hfin: ∀ (a':Act) (w':World) (σ':Sg) (H':ae) (dl:List Deferred),St { E with ds:=dl } σ' H' a' w'→(l8 WH σ' H' fun ds=> Q (dt ds) H')→ ∃v,(results Tryz.f11 a'.tmps).run Tryz.prog w'= .ok v w'∧R (.returned v) w'):Calls Tryz.prog 11 vs.toArray w R:=by
 have hV:=YK (S:=fun _=> .none) s hsz Q hQ
 refine calls_of_wp_defers Tryz.func11 rfl ?_
 apply wp_seq
 refine wp_mono (jc (E:=E) (im:= []) (fun _=> mJ _ _) ay Ix _ (by rw[hN];exact TL) _ _ _ _ _ hst hV) ?_
 intro e a1 w1 hP
 cases e with
 | normal=> ?_
 | ret=> obtain⟨_,_,_,h⟩:=hP;exact h.elim
 | exit i=> obtain⟨_,_,_,h⟩:=hP;exact h.elim
 | _=> exact hP.elim
 obtain⟨σ1,H1,hst1,hV1⟩:=hP
 apply wp_seq
 refine wp_mono (jc (E:=E) (im:= []) (fun _=> mJ _ _) ay Iw _ (by rw[hN];exact TK) _ _ _ _ _ hst1 hV1) ?_
 intro e a2 w2 hP
 cases e with
 | ret=> ?_
 | normal=> obtain⟨_,_,_,h⟩:=hP;exact h.elim
 | exit i=> obtain⟨_,_,_,h⟩:=hP;exact h.elim
 | _=> exact hP.elim
 obtain⟨σ2,H2,hst2,hV2⟩:=hP
 show Leaves Tryz.prog Tryz.f11 a2.tmps R a2.defers .returning w2
 have hd:a2.defers= []:=by rw[hst2.1,hds]
 rw[hd]
 exact hfin a2 w2 σ2 H2 E.ds hst2 hV2
theorem qeB {S:Nat→Spc} {g:Int×Int} (h:S bR=sK g 500) {s:B} {r:Rdr×Qry} (hsz: ¬400 < s.size) (hF:queryE 500 ⟨s,0,0,E0,0⟩= .ok r) (Q:D→ae→Prop) (hQ: ∀H d,FrzTo H d (Yf (Y:=Qry) (Z:=Int) (W:=Int) (r.2,0,0))→Q d H):VP S Q ((a1 B).view s) cZ:=by
 have hsz': ¬ (400:Int) < s.size:=by omega
 have hF':queryE 500 { txt:=s,fin:=0,kind:=0,text:= { data:= #[] },pos:=0 } = .ok r:=hF
 simp[VP,Ix,Iw,XI,WH,TS,hsz',h,hF']
 exact fun b b1 b2 _ b3=> hQ _ _ (Qa (by rw[AF];exact wR (by simp)))
abbrev s_eParse:Spc:=cY (a1 B) (fun s=> ∃r,sd s=some r) (Yf (Y:=Qry) (Z:=Int) (W:=Int)) fun s y=> sd s=some y
theorem ER (hq: ∀f,TriZ (zF ax f) Tryz.prog bR (sK f 500).pt):Tri Tryz.prog eW s_eParse.pt:=by
 refine WA (V:=fun Q ds' H0=> ∃s r,ds'=(a1 B).view s∧H0=cZ∧sd s=some r∧ ∀H d,FrzTo H d (Yf (Y:=Qry) (Z:=Int) (W:=Int) r)→Q d H) MY (N:=14) rfl qbg (fun x=> by simp) ?_ ?_
 ·rintro E ds' H0 Q vs w R hds hN _ hst ⟨s,r,rfl,rfl,hr,hQ⟩ hfin
  rw[sd] at hr
  split at hr
  ·rename_i hsz
   cases hr
   exact Sb hsz E Q vs w R hds hN hst hQ hfin
  ·rename_i hsz
   split at hr
   ·rename_i q hF
    cases hr
    exact Om (S:=cj [(bR,sK (0,0) 500)]) (ap (ac (Q3 (hq (0,0))) ah)) E _ _ Q vs w R hds hN hst (qeB (g:=(0,0)) rfl hsz hF Q hQ) hfin
   ·rename_i g hF
    cases hr
    exact Vr hsz (hq g) hF E Q vs w R hds hN hst hQ hfin
   ·cases hr
 ·rintro s ⟨r,hr⟩
  exact⟨s,r,rfl,rfl,hr,fun H d hd=> ⟨r,hd,hr⟩⟩
end Go.Gv
