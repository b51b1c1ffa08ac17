/- A part of the framework and of the walks: T36 C61 I13 I10 I14 W170. -/
import Derived.Test.YtphdikcommfnhaaGreatDoorGg33
import Derived.Test.YtphdikcommfnhaaGreatDoorGg32
import Derived.Test.YtphdikcommfnhaaGreatDoorGg20
import Derived.Test.YtphdikcommfnhaaGreatDoorGg18
import Derived.Test.YtphdikcommfnhaaGreatDoorGg28
import Derived.Test.YtphdikcommfnhaaGreatDoorGg31
set_option linter.unusedSimpArgs false
set_option linter.unusedVariables false
set_option linter.unusedSectionVars false
set_option maxRecDepth 100000
set_option maxHeartbeats 0

namespace Go.Gv
open Go.Proofs
def VC:Nat->Prop:=fun _=>False
def FV(W:World)(H:ab)(N:Nat)(ds:List Deferred):xn:=⟨VC,VC,W,bA H,N,ds⟩
theorem qox{W:World}{H:ab}{a:Act}{σ:Sg}(hT:rc=[])(dis:∀i j r s b,H i=some r->H j=some s->r.blk=some b->s.blk=some b->i=j)
 (ok:∀i r,H i=some r->ResOk (R VC (aM VC VC H W) W) W r) (hr:∀t,R VC (aM VC VC H W) W (a.tmps.getD t undef) (σ t)):
 St (FV W H a.tmps.size a.defers) σ H a W:=
 ⟨rfl,rfl,VC,⟨fun b h=>h.elim,fun b h=>h,fun b h=> .inl h,⟨fun b h=>h.elim,fun p hp=>by rw[hT]at hp;cases hp⟩, .refl _ _ _,fun b h=> .inl h,⟨dis,fun i r b _ _=>⟨fun h=>h,fun h=>h⟩,ok⟩⟩,hr⟩
def Bx(W:World)(b:Nat)(xs:Array Value):Prop:=∃el,W.heap[b]? =some (.cells xs el (0,0))
theorem Bx.lt{W:World}{b:Nat}{xs:Array Value}(h:Bx W b xs):b < W.heap.size:=by
 obtain⟨el,h⟩:=h
 exact(qtO.1 h).1
theorem Bx.of{W:World}{b:Nat}{xs:Array Value}{el:Nat}(h:W.heap[b]? =some (.cells xs el (0,0))):Bx W b xs:=⟨el,h⟩
theorem Bx.keep{W W':World}{b:Nat}{xs:Array Value}(h:Bx W b xs)(hk:W'.heap[b]? =W.heap[b]?):Bx W' b xs:=by
 obtain⟨el,h⟩:=h
 exact⟨el,hk.trans h⟩
theorem Bx.cell{W:World}{b k:Nat}{xs:Array Value}{v:Value}(h:Bx W b xs)(hk:xs[k]? =some v):W.cell? ⟨b,k,none⟩=some v:=by
 obtain⟨el,h⟩:=h
 simp[World.cell?,h,hk]
theorem Bx.fr{W:World}{b k:Nat}{xs:Array Value}(h:Bx W b xs):W.frozen? ⟨b,k,none⟩=false:=by
 obtain⟨el,h⟩:=h
 simp[World.frozen?,h]
theorem Bx.box{W:World}{b:Nat}{Q:Value->D->Prop}{l:List Value}(h:Bx W b l.toArray)(h1:∀x∈l,x.oneCell'=true)(hq:∀x∈l,Q x (.v x)):ResOk Q W (.box b (l.map .v)):=by
 obtain⟨el,h⟩:=h
 refine⟨l.toArray,el,h,by simp,fun k y c hy hc=>?_⟩
 rw[qtX]at hc
 have hy:l[k]? =some y:=hy
 rw[hy]at hc
 cases hc
 have hm:=qtJ hy
 exact⟨h1 y hm,hq y hm⟩
theorem Bx.box1{W:World}{b:Nat}{Q:Value->D->Prop}{v:Value}(h:Bx W b #[v])(h1:v.oneCell'=true)(hq:Q v (.v v)):ResOk Q W (.box b [.v v]):=
 h.box (l:=[v]) (fun x hx=>by rw[qvi.1 hx];exact h1) (fun x hx=>by rw[qvi.1 hx];exact hq)
theorem Bx.cptr{tp I:Nat->Prop}{W:World}{b:Nat}(l:List Value)(h:Bx W b l.toArray)(hI:I b)(h1:∀x∈l,x.oneCell'=true/\R tp I W x (.v x)):R tp I W (.pointer (some ⟨b,0,none⟩)) (.cptr (l.map .v) 0):=by
 refine R.cptr b 0 (l.map .v) 0 (fun k=>(l[k]?).getD undef) hI (fun _=>let ⟨el,h0⟩:=h; ⟨_,el,h0⟩) (fun k c hk=>?_) (fun k c hk=>?_) (fun k c hk=>?_)
 all_goals
  rw[qtX]at hk
  obtain⟨x,hx,rfl⟩:=qtR.1 hk
 ·rw[hx,quu]
  have hx2:l.toArray[k]? =some x:=by simpa using hx
  exact h.cell hx2
 ·rw[hx];exact(h1 x (qtJ hx)).1
 ·rw[hx];exact(h1 x (qtJ hx)).2
theorem qg6{tp I:Nat->Prop}{W:World}{b:Nat}{l:List Value}(h:ResOk (R tp I W) W (.box b (l.map .v))):Bx W b l.toArray:=by
 obtain⟨xs,el,h1,h2,h3⟩:=h
 refine⟨el,?_⟩
 rw[h1]
 have hl:xs.toList=l:=by
  apply quC
  intro k
  rw[qux]at h2
  by_cases hk:k < l.length
  ·have e1:xs.toList[k]? =some (xs.toList[k]'(by simpa [h2]using hk)):=qtH _
   have e2:(l.map D.v)[k]? =some (.v l[k]):=by rw[qtX,qtH hk];rfl
   have:=(h3 k _ _ e1 e2).2.inv_v
   rw[e1,qtH hk,this]
  ·rw[qua (by simpa [h2]using hk),qua (by omega)]
 rw[<-hl]
theorem F8{W W':World}{H H':ab}{N:Nat}{ds:List Deferred}{σ':Sg}{a':Act}(h:St (FV W H N ds) σ' H' a' W'):Step VC (bA H) W W':=by
 obtain⟨_,_,tp,hw,_⟩:=h
 exact hw.step
theorem XD{W W':World}{H H':ab}{N:Nat}{ds:List Deferred}{σ':Sg}{a':Act}(h:St (FV W H N ds) σ' H' a' W'){i:Nat}{r:Res}(hi:H' i=some r):∃tp I,ResOk (R tp I W') W' r:=by
 obtain⟨_,_,tp,hw,_⟩:=h
 exact⟨_,_,hw.sat.ok i r hi⟩
theorem vu{W W':World}{H H':ab}{N:Nat}{ds:List Deferred}{σ':Sg}{a':Act}(h:St (FV W H N ds) σ' H' a' W'){i b:Nat}(l:List Value)(hi:H' i=some (.box b (l.map .v))):Bx W' b l.toArray:=by
 obtain⟨tp,I,hok⟩:=XD h hi
 exact qg6 hok
theorem qfv{W W':World}{H H':ab}{N:Nat}{ds:List Deferred}{σ':Sg}{a':Act}(h:St (FV W H N ds) σ' H' a' W'){b:Nat}(hb:bA H' b):bA H b\/W.heap.size<=b:=by
 obtain⟨_,_,tp,hw,_⟩:=h
 exact hw.loc b hb
theorem qfw{W W':World}{H H':ab}{N:Nat}{ds:List Deferred}{σ':Sg}{a':Act}(h:St (FV W H N ds) σ' H' a' W'){i j b:Nat}{r s:Res}(hi:H' i=some r)(hj:H' j=some s)(h1:r.blk=some b)(h2:s.blk=some b):i=j:=by
 obtain⟨_,_,tp,hw,_⟩:=h
 exact hw.sat.dis i j r s b hi hj h1 h2
theorem qfu{W W':World}{H H':ab}{N:Nat}{ds:List Deferred}{σ':Sg}{a':Act}(h:St (FV W H N ds) σ' H' a' W'){i b id:Nat}{v:Value}(hi:H' i=some (.box b [.own id v])):Bx W' b #[v]:=by
 obtain⟨tp,I,xs,el,h1,h2,h3⟩:=XD h hi
 refine⟨el,?_⟩
 rw[h1]
 obtain⟨l⟩:=xs
 match l,h2 with
 | [x],_=>
   have:=(h3 0 x _ rfl rfl).2
   cases this with
   | own _ _ _=>rfl
theorem qft{W W':World}{H H':ab}{N:Nat}{ds:List Deferred}{σ':Sg}{a':Act}(h:St (FV W H N ds) σ' H' a' W'){t:Nat}{x:Value}(ht:σ' t= .v x):a'.tmps.getD t undef=x:=by
 obtain⟨_,_,tp,hw,hr⟩:=h
 have:=hr t
 rw[ht]at this
 exact this.inv_v
theorem qiS{W W':World}{H H':ab}{N:Nat}{ds:List Deferred}{σ':Sg}{a':Act}(h:St (FV W H N ds) σ' H' a' W'):a'.defers=ds/\a'.tmps.size=N:=⟨h.1,h.2.1⟩
theorem Step.kbt{W W':World}{H:ab}{B:Nat}{S:Nat->Prop}(h:Step VC (bA H) W W')(hB:∀b,bA H b->b < B/\ ¬S b):KBt B S W W':=
 ⟨h.size,fun k hk hs=>h.same k hk (fun ho=>by
  obtain⟨h1,h2⟩:=hB k ho
  rcases hs with hs|hs
  ·exact h2 hs
  ·omega) (fun h=>h)⟩
theorem Step.kf{W W':World}{H:ab}{B:Nat}(h:Step VC (bA H) W W')(hB:∀b,bA H b->b < B):KeepsFrom B W W':=
 ⟨h.size,fun k o hb hk _=>by rw[h.same k (qtO.1 hk).1 (fun ho=>by have:=hB k ho;omega) (fun h=>h)];exact hk⟩
theorem Step.grL{W W':World}{H:ab}{B:Nat}(h:Step VC (bA H) W W')(hB:∀b,bA H b->B<=b)(hs:B<=W.heap.size):GrL B W W':=
 ⟨h.os,h.tape,h.output,h.size,fun j hj=>h.same j (by omega) (fun ho=>by have:=hB j ho;omega) (fun h=>h),h.drawn⟩
end Go.Gv

namespace Go.Gv
open Go.Proofs
def ir:CC:= .block 1 (.seq (oX [oC 12 1 3,oB 13 (.eql false false [.int] (oT 12) (oN 0))] [3,4,5,6,7,8,13] [3,4,5,6,7] (.ite (oT 13) (.seq (.regd [oE 14 0 8,oC 15 1 14,oE 16 1 8,oC 17 1 16,oE 18 2 8,oC 19 1 18,.op none none (.store (some 4) 1 (oT 4) (oT 15)),.op none none (.store (some 5) 1 (oT 5) (oT 17))] [.op none none (.store (some 6) 1 (oT 6) (oT 19)),
 .op none none (.store (some 7) 1 (oT 7) (.const (.bool true)))]) (.keep [3,4,5,6,7] [3,4,5,6,7] (.ret))) (.skip))) (.keep [3,4,5,6,7] [3,4,5,6,7] (.reg [oC 20 1 3,oB 21 (.arith .sub (oT 20) (oN 1)),oF 1 3 21])))
def fm:CC:= .block 1 (oX [oE 12 0 4,oC 13 1 12,oZ 14 dJ [oT 13],oA 5 14] [1,2,3,4,5] [2,3,4,22,33] (oX [oA 15 5,oE 16 0 4,oC 17 1 16,oB 18 (.eql true false [.int] (oT 15) (oT 17))] [1,2,3,4,5,18] [2,3,4,22,33] (.ite (oT 18) (.reg [oC 19 1 3,oA 20 5,oB 21 (.rstr (oT 20)),oB 22 (.append none pi 1 1 (oT 19) (oT 21)),
 .op none none (.store (some 3) 1 (oT 3) (oT 22))]) (.regd [oC 23 1 3,oC 24 1 1,oE 25 1 4,oC 26 1 25,oE 27 1 4,oC 28 1 27,oE 29 2 4,oC 30 1 29,oB 31 (.arith .add (oT 28) (oT 30)),oB 32 (.sslice (oT 24) (some (oT 26)) (some (oT 31)))] [oB 33 (.append none pi 1 1 (oT 23) (oT 32)),.op none none (.store (some 3) 1 (oT 3) (oT 33))]))))
def eu:CC:=gq Tryz.f332 [] {} _
def ek:List aj:=[.tmp 2]
theorem Bd:am Tryz.prog dJ [] eu ek 48:=fo
end Go.Gv

namespace Go.Proofs
open Go.RowKit Go.Shelf Go.Gv
attribute [local go_sem] Oper.semAt_some
def qkM(s:ByteArray)(i:Nat):Value:=if i < s.size then .tuple #[.int .i32 (J4 s i), .int .i64 (i:Int), .int .i64 1, .bool true]else .tuple #[.int .i32 0, .int .i64 0, .int .i64 0, .bool false]
theorem cW{l:List (Nat×Res)}{i:Nat}{r:Res}(h:fE l bB i=some r):(i,r) ∈l:=by
 induction l with
 | nil=>cases h
 | cons p l ih=>
   obtain⟨t,q⟩:=p
   simp only[fE,ah]at h
   split at h
   ·rename_i e;subst e;cases h;simp
   ·exact List.mem_cons_of_mem _ (ih h)
structure qsV (F:Fence):Prop where
 e:F=Fence.wide
def qr9:Nat->Spc:=fun _=> .none
theorem ZL{b0 b1 b2 b3 b4:Nat}{c0 c1 c2 c3 c4:List D}(h:b0 < b1/\b1 < b2/\b2 < b3/\b3 < b4):
 ∀i j r s b,fE [(3,Res.box b0 c0),(4, .box b1 c1),(5, .box b2 c2),(6, .box b3 c3),(7, .box b4 c4)] bB i=some r->fE [(3,Res.box b0 c0),(4, .box b1 c1),(5, .box b2 c2),(6, .box b3 c3),(7, .box b4 c4)] bB j=some s->r.blk=some b->s.blk=some b->i=j:=by
 intro i j r s b hi hj h1 h2
 have hi:=cW hi
 have hj:=cW hj
 simp only[List.mem_cons,Prod.mk.injEq,List.not_mem_nil,or_false]at hi hj
 rcases hi with⟨rfl,rfl⟩|⟨rfl,rfl⟩|⟨rfl,rfl⟩|⟨rfl,rfl⟩|⟨rfl,rfl⟩ <;> rcases hj with⟨rfl,rfl⟩|⟨rfl,rfl⟩|⟨rfl,rfl⟩|⟨rfl,rfl⟩|⟨rfl,rfl⟩ <;> simp only[Res.blk,Option.some.injEq]at h1 h2 <;> omega
set_option maxRecDepth 100000 in
theorem qbm{F:Fence}{n D:Nat}{w V:World}{R:Ending->World->Prop}{tmps:Array Value}{x1 x2 x3 x4:Value}(hD:w.heap.size+5<=D)(c1:Bx V (w.heap.size+1) #[x1])(c2:Bx V (w.heap.size+2) #[x2])(c3:Bx V (w.heap.size+3) #[x3])(c4:Bx V (w.heap.size+4) #[x4])
 (hK:V.heap[D]? =some (.deferred (some []))) (hg:GrL w.heap.size w V) (t1:tmps[4]? =some (.pointer (some ⟨w.heap.size+1,0,none⟩))) (t2:tmps[5]? =some (.pointer (some ⟨w.heap.size+1+1,0,none⟩))) (t3:tmps[6]? =some (.pointer (some ⟨w.heap.size+1+1+1,0,none⟩))) (t4:tmps[7]? =some (.pointer (some ⟨w.heap.size+1+1+1+1,0,none⟩)))
 (hR:∀V',GrL w.heap.size w V'->R (.returned (.tuple #[x1,x2,x3,x4])) V'):
 bodyPostM F n Tryz.prog Tryz.f254 R .ret { tmps:=tmps,defers:=[{ target:= .collected D,args:= #[] }] } V:=by
 refine⟨by simp, .inl ⟨_,_,rfl,run_takeDeferred hK,?_⟩⟩
 have g4:GrL w.heap.size w (V.putObj D (.deferred none)):=hg.trans (GrL.put _ (by omega) _)
 have k1:=(c1.keep (World.putObj_heap_other (o:= .deferred none) (show w.heap.size+1≠D by omega))).cell (k:=0) rfl
 have k2:=(c2.keep (World.putObj_heap_other (o:= .deferred none) (show w.heap.size+2≠D by omega))).cell (k:=0) rfl
 have k3:=(c3.keep (World.putObj_heap_other (o:= .deferred none) (show w.heap.size+3≠D by omega))).cell (k:=0) rfl
 have k4:=(c4.keep (World.putObj_heap_other (o:= .deferred none) (show w.heap.size+4≠D by omega))).cell (k:=0) rfl
 have hres:(results Tryz.f254 tmps).run Tryz.prog (V.putObj D (.deferred none))= .ok (.tuple #[x1,x2,x3,x4]) (V.putObj D (.deferred none)):=by
  simp[results,Tryz.f254,go_sem,k1,k2,k3,k4,t1,t2,t3,t4]
 exact⟨_,hres,hR _ g4⟩
set_option maxRecDepth 100000 in
set_option maxHeartbeats 4000000 in
theorem Tryz.At_in(F:Fence)(hF:qsV F)(n:Nat)(h50:F.fn 254)(h95:F.fn 259)(h128:F.fn 284)(hro:F.round=none)(hn:10<=n)(s:ByteArray)(hs:s.size<=100000)(ha:∀ (k:Nat) (h:k < s.size),(s[k]'h).toNat < 128)(i:Nat)(hi:i<=s.size)(w:World):
 CallsIn F n Tryz.prog 254 #[.string s, .int .i64 (i:Int)] w fun e W'=>e= .returned (qkM s i)/\GrL w.heap.size w W':=by
 have h1:1<=n:=by omega
 refine callsIn_of_wp_marks Tryz.func254 rfl h50 ?_ hro
 simp only[Tryz.ntmps254,List.size_toArray,List.length_cons,List.length_nil,Nat.reduceAdd,Nat.reduceSub,Array.replicate_succ,Array.replicate_zero,List.push_toArray,List.append_toArray,List.nil_append,List.cons_append]
 gi_wp2_with (gi_at_call 259;refine(Tryz.units_in F (n -1) h95 hro _ _).mono ?_;rintro e w' ⟨rfl,rfl⟩)
 obtain⟨W0,hW0⟩:∃W0,(((((w.alloc (.cells #[.int .i64 (i:Int)] 3)).alloc (.cells #[.int .i32 0] 21)).alloc (.cells #[.int .i64 0] 3)).alloc (.cells #[.int .i64 0] 3)).alloc (.cells #[.bool false] 4)).alloc (.cells #[.string s] ay)=W0:=⟨_,rfl⟩
 rw[hW0]
 have hsz:W0.heap.size=w.heap.size+6:=by rw[<-hW0];simp
 have g0:GrL w.heap.size w W0:=by
  rw[<-hW0]
  exact(((((GrL.alloc w (Nat.le_refl _) _).trans (GrL.alloc _ (by simp) _)).trans (GrL.alloc _ (by first|(simp;done)|(simp;omega)) _)).trans (GrL.alloc _ (by first|(simp;done)|(simp;omega)) _)).trans (GrL.alloc _ (by first|(simp;done)|(simp;omega)) _)).trans (GrL.alloc _ (by first|(simp;done)|(simp;omega)) _)
 have B0:∀W:World,∀o:Obj,(W.alloc o).heap[W.heap.size]? =some o:=fun W o=>World.alloc_heap_new W o
 have b5:W0.heap[w.heap.size+5]? =some (.cells #[.string s] ay (0,0)):=by
  rw[<-hW0]
  have h:=B0 (((((w.alloc (.cells #[.int .i64 (i:Int)] 3)).alloc (.cells #[.int .i32 0] 21)).alloc (.cells #[.int .i64 0] 3)).alloc (.cells #[.int .i64 0] 3)).alloc (.cells #[.bool false] 4)) (.cells #[.string s] ay)
  simpa using h
 have b0:W0.heap[w.heap.size]? =some (.cells #[.int .i64 (i:Int)] 3 (0,0)):=by
  rw[<-hW0]
  have h:=B0 w (.cells #[.int .i64 (i:Int)] 3)
  rw[show w.heap.size=w.heap.size by simp]at h
  exact(Below.heap_alloc _ _ _ (by first|(simp;done)|(simp;omega))).trans ((Below.heap_alloc _ _ _ (by first|(simp;done)|(simp;omega))).trans ((Below.heap_alloc _ _ _ (by first|(simp;done)|(simp;omega))).trans ((Below.heap_alloc _ _ _ (by first|(simp;done)|(simp;omega))).trans ((Below.heap_alloc _ _ _ (by first|(simp;done)|(simp;omega))).trans (h)))))
 have b1:W0.heap[w.heap.size+1]? =some (.cells #[.int .i32 0] 21 (0,0)):=by
  rw[<-hW0]
  have h:=B0 (w.alloc (.cells #[.int .i64 (i:Int)] 3)) (.cells #[.int .i32 0] 21)
  rw[show(w.alloc (.cells #[.int .i64 (i:Int)] 3)).heap.size=w.heap.size+1 by simp]at h
  exact(Below.heap_alloc _ _ _ (by first|(simp;done)|(simp;omega))).trans ((Below.heap_alloc _ _ _ (by first|(simp;done)|(simp;omega))).trans ((Below.heap_alloc _ _ _ (by first|(simp;done)|(simp;omega))).trans ((Below.heap_alloc _ _ _ (by first|(simp;done)|(simp;omega))).trans (h))))
 have b2:W0.heap[w.heap.size+2]? =some (.cells #[.int .i64 0] 3 (0,0)):=by
  rw[<-hW0]
  have h:=B0 ((w.alloc (.cells #[.int .i64 (i:Int)] 3)).alloc (.cells #[.int .i32 0] 21)) (.cells #[.int .i64 0] 3)
  rw[show((w.alloc (.cells #[.int .i64 (i:Int)] 3)).alloc (.cells #[.int .i32 0] 21)).heap.size=w.heap.size+2 by simp]at h
  exact(Below.heap_alloc _ _ _ (by first|(simp;done)|(simp;omega))).trans ((Below.heap_alloc _ _ _ (by first|(simp;done)|(simp;omega))).trans ((Below.heap_alloc _ _ _ (by first|(simp;done)|(simp;omega))).trans (h)))
 have b3:W0.heap[w.heap.size+3]? =some (.cells #[.int .i64 0] 3 (0,0)):=by
  rw[<-hW0]
  have h:=B0 (((w.alloc (.cells #[.int .i64 (i:Int)] 3)).alloc (.cells #[.int .i32 0] 21)).alloc (.cells #[.int .i64 0] 3)) (.cells #[.int .i64 0] 3)
  rw[show(((w.alloc (.cells #[.int .i64 (i:Int)] 3)).alloc (.cells #[.int .i32 0] 21)).alloc (.cells #[.int .i64 0] 3)).heap.size=w.heap.size+3 by simp]at h
  exact(Below.heap_alloc _ _ _ (by first|(simp;done)|(simp;omega))).trans ((Below.heap_alloc _ _ _ (by first|(simp;done)|(simp;omega))).trans (h))
 have b4:W0.heap[w.heap.size+4]? =some (.cells #[.bool false] 4 (0,0)):=by
  rw[<-hW0]
  have h:=B0 ((((w.alloc (.cells #[.int .i64 (i:Int)] 3)).alloc (.cells #[.int .i32 0] 21)).alloc (.cells #[.int .i64 0] 3)).alloc (.cells #[.int .i64 0] 3)) (.cells #[.bool false] 4)
  rw[show((((w.alloc (.cells #[.int .i64 (i:Int)] 3)).alloc (.cells #[.int .i32 0] 21)).alloc (.cells #[.int .i64 0] 3)).alloc (.cells #[.int .i64 0] 3)).heap.size=w.heap.size+4 by simp]at h
  exact(Below.heap_alloc _ _ _ (by first|(simp;done)|(simp;omega))).trans (h)
 clear hW0 B0
 have hcs:W0.cell? ⟨w.heap.size+5,0,none⟩=some (.string s):=bw b5 rfl
 refine Mf hro h1 (gf:=284) (lb:= #[.pointer (some ⟨w.heap.size+5,0,none⟩)]) rfl h128 (enters_of Tryz.func284 (by kernel_rfl) rfl)
  (Tryz.units1_it F (n -1) h128 hro (by omega) s hs ha (fun k=>k=w.heap.size+5) (w.heap.size+5) rfl W0 (fun _ h=>by omega) hcs) (fun _ h=>by omega) (fun _=>rfl)
  (fun k W=>GrL w.heap.size w W/\k<=i/\Bx W w.heap.size #[.int .i64 ((i:Int) - (k:Int))]/\Bx W (w.heap.size+1) #[.int .i32 0]/\Bx W (w.heap.size+2) #[.int .i64 0]/\Bx W (w.heap.size+3) #[.int .i64 0]/\Bx W (w.heap.size+4) #[.bool false])
  (fun k W=>GrL w.heap.size w W/\k=i/\Bx W (w.heap.size+1) #[.int .i32 (J4 s i)]/\Bx W (w.heap.size+2) #[.int .i64 (i:Int)]/\Bx W (w.heap.size+3) #[.int .i64 1]/\Bx W (w.heap.size+4) #[.bool true])
  (fun k A C hs hg0=>have hg:=hg0.toL; ⟨hs.1.trans (hg.mono (by omega)),hs.2.1,hs.2.2.1.keep (hg.low _ (by omega)),hs.2.2.2.1.keep (hg.low _ (by omega)),hs.2.2.2.2.1.keep (hg.low _ (by omega)),hs.2.2.2.2.2.1.keep (hg.low _ (by omega)),hs.2.2.2.2.2.2.keep (hg.low _ (by omega))⟩)
  (fun k A C hs hg0=>have hg:=hg0.toL; ⟨hs.1.trans (hg.mono (by omega)),hs.2.1,hs.2.2.1.keep (hg.low _ (by omega)),hs.2.2.2.1.keep (hg.low _ (by omega)),hs.2.2.2.2.1.keep (hg.low _ (by omega)),hs.2.2.2.2.2.keep (hg.low _ (by omega))⟩)
  ⟨g0,Nat.zero_le _, .of (by simpa using b0), .of b1, .of b2, .of b3, .of b4⟩
  (fun k a' W=>∃Br,W0.heap.size+2<=Br/\W.heap[Br]? =some (.cells #[.int .i32 (J4 s k), .int .i64 (k:Int), .int .i64 1] 293 (0,0))/\
    a'={ tmps:= #[.string s, .int .i64 (i:Int),undef, .pointer (some ⟨w.heap.size,0,none⟩), .pointer (some ⟨w.heap.size+1,0,none⟩), .pointer (some ⟨w.heap.size+1+1,0,none⟩), .pointer (some ⟨w.heap.size+1+1+1,0,none⟩), .pointer (some ⟨w.heap.size+1+1+1+1,0,none⟩), .pointer (some ⟨Br,0,none⟩), .string s, .func (.func 284) #[] #[.pointer (some ⟨w.heap.size+1+1+1+1+1,0,none⟩)], .agg #[.int .i32 (J4 s k), .int .i64 (k:Int), .int .i64 1],undef,undef,undef,undef,undef,undef,undef,undef,undef,undef],defers:=[] })
  (fun a' k W o hlt hs=>by
    obtain⟨Br,q1,q2,q3⟩:=hs
    exact⟨Br,q1,(World.putObj_heap_other (by omega)).trans q2,q3⟩)
  ?assign ?body ?done ?stop
 case assign=>
  rintro l k W hsz2 hl ⟨i1,ik,i2,i3,i4,i5,i6⟩ hk
  rw[LN]
  generalize J4 s k=c
  gi_wp2
  exact⟨(KeepsOthers.alloc _ _).from _,KBt.alloc _ _ _ _,⟨i1.trans (GrL.alloc W i1.size _),ik,i2.keep (Below.heap_alloc _ _ _ (by omega)),i3.keep (Below.heap_alloc _ _ _ (by omega)),i4.keep (Below.heap_alloc _ _ _ (by omega)),i5.keep (Below.heap_alloc _ _ _ (by omega)),i6.keep (Below.heap_alloc _ _ _ (by omega))⟩,W.heap.size,by omega,World.alloc_heap_new W _,rfl⟩
 case body=>
  rintro l k a' W hsz2 hl ⟨i1,ik,i2,i3,i4,i5,i6⟩ ⟨Br,hBr,bR,rfl⟩ hk
  obtain⟨rfl⟩:=hF
  generalize hc:J4 s k=c at bR
  obtain⟨B,hB⟩:∃B,B=w.heap.size:=⟨_,rfl⟩
  rw[<-hB]at i1 i2 i3 i4 i5 i6 hsz
  obtain⟨H,hH⟩:∃H,H=fE [(3,Res.box B [.v (.int .i64 ((i:Int) - (k:Int)))]),(4, .box (B+1) [.v (.int .i32 0)]),(5, .box (B+2) [.v (.int .i64 0)]),(6, .box (B+3) [.v (.int .i64 0)]),(7, .box (B+4) [.v (.bool false)])] bB:=⟨_,rfl⟩
  have hown:∀b,bA H b->B<=b/\b < W0.heap.size/\ ¬b=B+5:=by
   rintro b ⟨j,r,hj,hb⟩
   rw[hH]at hj
   have hj:=cW hj
   simp only[List.mem_cons,Prod.mk.injEq,List.not_mem_nil,or_false]at hj
   rcases hj with⟨rfl,rfl⟩|⟨rfl,rfl⟩|⟨rfl,rfl⟩|⟨rfl,rfl⟩|⟨rfl,rfl⟩ <;> simp only[Res.blk,Option.some.injEq]at hb <;> omega
  have hst:St (FV W H 22 []) (cR [.any, .any, .any, .bptr 3 B 0, .bptr 4 (B+1) 0, .bptr 5 (B+2) 0, .bptr 6 (B+3) 0, .bptr 7 (B+4) 0, .cptr [.v (.int .i32 c), .v (.int .i64 (k:Int)), .v (.int .i64 1)] 0]) H { tmps:= #[.string s, .int .i64 (i:Int),undef, .pointer (some ⟨w.heap.size,0,none⟩), .pointer (some ⟨w.heap.size+1,0,none⟩), .pointer (some ⟨w.heap.size+1+1,0,none⟩), .pointer (some ⟨w.heap.size+1+1+1,0,none⟩), .pointer (some ⟨w.heap.size+1+1+1+1,0,none⟩), .pointer (some ⟨Br,0,none⟩), .string s, .func (.func 284) #[] #[.pointer (some ⟨w.heap.size+1+1+1+1+1,0,none⟩)], .agg #[.int .i32 c, .int .i64 (k:Int), .int .i64 1],undef,undef,undef,undef,undef,undef,undef,undef,undef,undef],defers:=[] } W:=by
   refine qox rfl ?_ ?_ ?_
   ·rw[hH]
    exact ZL (by omega)
   ·intro j r hj
    rw[hH]at hj
    have hj:=cW hj
    simp only[List.mem_cons,Prod.mk.injEq,List.not_mem_nil,or_false]at hj
    rcases hj with⟨rfl,rfl⟩|⟨rfl,rfl⟩|⟨rfl,rfl⟩|⟨rfl,rfl⟩|⟨rfl,rfl⟩
    ·exact i2.box1 rfl (.int _ _)
    ·exact i3.box1 rfl (.int _ _)
    ·exact i4.box1 rfl (.int _ _)
    ·exact i5.box1 rfl (.int _ _)
    ·exact i6.box1 rfl (.bool _)
   ·intro t
    rw[<-hB]
    rcases t with _|_|_|_|_|_|_|_|_|t
    ·exact .any _
    ·exact .any _
    ·exact .any _
    ·exact .bptr 3 B 0
    ·exact .bptr 4 (B+1) 0
    ·exact .bptr 5 (B+2) 0
    ·exact .bptr 6 (B+3) 0
    ·exact .bptr 7 (B+4) 0
    ·have hbx:Bx W Br #[.int .i32 c, .int .i64 (k:Int), .int .i64 1]:= .of bR
     exact Bx.cptr [.int .i32 c, .int .i64 (k:Int), .int .i64 1] hbx ⟨hbx.lt,fun h=>h,fun h=>h,fun h=>by have:=hown Br h;omega⟩ (fun x hx=>by
      simp only[List.mem_cons,List.not_mem_nil,or_false]at hx
      rcases hx with rfl|rfl|rfl <;> exact⟨rfl, .int _ _⟩)
    ·exact .any _
  have hik:(i:Int)<=100000:=by omega
  have hv:vc qr9 ir (fun e _ H'=>match e with
   | .norm=>k < i/\H' 3=some (.box B [.v (.int .i64 ((i:Int) - (k:Int) -1))])/\H' 4=H 4/\H' 5=H 5/\H' 6=H 6/\H' 7=H 7
   | .ret=>k=i/\H' 4=some (.box (B+1) [.v (.int .i32 c)])/\H' 5=some (.box (B+2) [.v (.int .i64 (k:Int))])/\H' 6=some (.box (B+3) [.v (.int .i64 1)])/\H' 7=some (.box (B+4) [.v (.bool true)])
   | _=>False) (cR [.any, .any, .any, .bptr 3 B 0, .bptr 4 (B+1) 0, .bptr 5 (B+2) 0, .bptr 6 (B+3) 0, .bptr 7 (B+4) 0, .cptr [.v (.int .i32 c), .v (.int .i64 (k:Int)), .v (.int .i64 1)] 0]) H:=by
   rw[hH]
   by_cases hki:k=i
   ·subst hki
    simp[ir, -Bool.forall_bool, -Bool.exists_bool]
   ·have hne:¬ (i:Int) - (k:Int)=0:=by omega
    simp[ir,hne, -Bool.forall_bool, -Bool.exists_bool]
    exact⟨by simp only[InR];omega,by omega⟩
  have hBk:∀b,bA H b->b < W0.heap.size/\ ¬ (b=w.heap.size+5):=fun b hb=>by have:=hown b hb;omega
  refine wpIn_mono (NS (S:=qr9) (im:=[2007007,2006006,2005005,2004004]) (fun f=>NX _ f) mixed (cc:=ir) (by kernel_rfl) hst hv) ?_
  rintro e a2 W2 he
  cases e with
  | normal=>
    obtain⟨σ2,H2,hst2,hlt,e3,e4,e5,e6,e7⟩:=he
    have hs2:=F8 hst2
    have hg:=hs2.grL (B:=B) (fun b hb=>(hown b hb).1) (by omega)
    refine⟨hs2.kf (fun b hb=>(hBk b hb).1),hs2.kbt hBk,?_⟩
    rw[<-hB]
    rw[hH]at e4 e5 e6 e7
    refine⟨i1.trans hg,by omega,?_,vu hst2 [_] e4,vu hst2 [_] e5,vu hst2 [_] e6,vu hst2 [_] e7⟩
    have:=vu hst2 [_] e3
    rwa [show(i:Int) - ((k+1:Nat):Int)=(i:Int) - (k:Int) -1 by omega]
  | ret=>
    obtain⟨σ2,H2,hst2,rfl,e4,e5,e6,e7⟩:=he
    have hs2:=F8 hst2
    have hg:=hs2.grL (B:=B) (fun b hb=>(hown b hb).1) (by omega)
    refine⟨hs2.kf (fun b hb=>(hBk b hb).1),?_⟩
    rw[<-hB,hc]
    exact⟨i1.trans hg,rfl,vu hst2 [_] e4,vu hst2 [_] e5,vu hst2 [_] e6,vu hst2 [_] e7⟩
  | exit id=>obtain⟨_,_,_,h⟩:=he;exact h.elim
  | goto t=>exact he.elim
  | panic ch=>exact he.elim
  | outgrown=>exact he.elim
 case done=>
  rintro D W hD ⟨i1,ik,i2,⟨t3,i3⟩,⟨t4,i4⟩,⟨t5,i5⟩,⟨t6,i6⟩⟩ hK
  have his:i=s.size:=by omega
  have q3:W.cell? ⟨w.heap.size+1,0,none⟩=some (.int .i32 0):=bw i3 rfl
  have q4:W.cell? ⟨w.heap.size+1+1,0,none⟩=some (.int .i64 0):=bw i4 rfl
  have q5:W.cell? ⟨w.heap.size+1+1+1,0,none⟩=some (.int .i64 0):=bw i5 rfl
  have q6:W.cell? ⟨w.heap.size+1+1+1+1,0,none⟩=some (.bool false):=bw i6 rfl
  have f3:W.frozen? ⟨w.heap.size+1,0,none⟩=false:=py i3
  have f4:W.frozen? ⟨w.heap.size+1+1,0,none⟩=false:=py i4
  have f5:W.frozen? ⟨w.heap.size+1+1+1,0,none⟩=false:=py i5
  have f6:W.frozen? ⟨w.heap.size+1+1+1+1,0,none⟩=false:=py i6
  gi_wp2
  have g:=((((GrL.setCell (k:=0) (W:=W) (show w.heap.size<=w.heap.size+1 by omega) (.int .i32 0)).trans (GrL.setCell (k:=0) (show w.heap.size<=w.heap.size+1+1 by omega) (.int .i64 0))).trans (GrL.setCell (k:=0) (show w.heap.size<=w.heap.size+1+1+1 by omega) (.int .i64 0))).trans (GrL.setCell (k:=0) (show w.heap.size<=w.heap.size+1+1+1+1 by omega) (.bool false)))
  have k4:∀ (X:World) (b:Nat) (x:Value),b≠w.heap.size+4->(X.setCell ⟨w.heap.size+1+1+1+1,0,none⟩ x).heap[b]? =X.heap[b]?:=fun X b x h=>Below.heap_setCell _ _ _ _ (by show b≠w.heap.size+1+1+1+1;omega)
  have k3:∀ (X:World) (b:Nat) (x:Value),b≠w.heap.size+3->(X.setCell ⟨w.heap.size+1+1+1,0,none⟩ x).heap[b]? =X.heap[b]?:=fun X b x h=>Below.heap_setCell _ _ _ _ (by show b≠w.heap.size+1+1+1;omega)
  have k2:∀ (X:World) (b:Nat) (x:Value),b≠w.heap.size+2->(X.setCell ⟨w.heap.size+1+1,0,none⟩ x).heap[b]? =X.heap[b]?:=fun X b x h=>Below.heap_setCell _ _ _ _ (by show b≠w.heap.size+1+1;omega)
  have k1:∀ (X:World) (b:Nat) (x:Value),b≠w.heap.size+1->(X.setCell ⟨w.heap.size+1,0,none⟩ x).heap[b]? =X.heap[b]?:=fun X b x h=>Below.heap_setCell _ _ _ _ h
  refine qbm (D:=D) (by omega) (.of (((k4 _ _ _ (by omega)).trans ((k3 _ _ _ (by omega)).trans (k2 _ _ _ (by omega)))).trans (oO i3))) (.of (((k4 _ _ _ (by omega)).trans (k3 _ _ _ (by omega))).trans (oO ((k1 _ _ _ (by omega)).trans i4)))) (.of ((k4 _ _ _ (by omega)).trans (oO ((k2 _ _ _ (by omega)).trans ((k1 _ _ _ (by omega)).trans i5))))) (.of (oO ((k3 _ _ _ (by omega)).trans ((k2 _ _ _ (by omega)).trans ((k1 _ _ _ (by omega)).trans i6)))))
   ((k4 _ _ _ (by omega)).trans ((k3 _ _ _ (by omega)).trans ((k2 _ _ _ (by omega)).trans ((k1 _ _ _ (by omega)).trans hK)))) (i1.trans g) rfl rfl rfl rfl ?_
  intro V' hg'
  refine⟨?_,hg'⟩
  unfold qkM
  rw[if_neg (by omega)]
 case stop=>
  rintro D k W hD hk ⟨i1,rfl,⟨t3,i3⟩,⟨t4,i4⟩,⟨t5,i5⟩,⟨t6,i6⟩⟩ hK
  gi_wp2
  refine qbm (D:=D) (by omega) (.of i3) (.of i4) (.of i5) (.of i6) hK i1 rfl rfl rfl rfl ?_
  intro V' hg'
  refine⟨?_,hg'⟩
  unfold qkM
  rw[if_pos hk]
end Go.Proofs

namespace Go.Gv
open Go.Proofs Go.RowKit
open Cod (enc dec)
theorem qaG{s:B}(h:ux s=true):∀ (k:Nat) (hk:k < s.size),(s[k]'hk).toNat < 128:=fun k hk=>by
 have hl:k < s.data.toList.length:=by rw[qt6];exact hk
 have:=qtL.1 h _ (qu2 hl)
 have h2:s.data[k].toNat < 128:=by simpa using this
 exact h2
theorem GrL.below{w w':World}(h:GrL w.heap.size w w'):Below w.heap.size w w':=⟨h.os,h.tape,h.output,h.size,h.low⟩
theorem Kb:Tri Tryz.prog mP s_cpVal.pt:=by
 refine qP (gD Tryz.func224 (by kernel_rfl) rfl) fun tp I w vs s hp hI hl hr=>?_
 obtain⟨ha,hsz⟩:=hp
 have hview:(a1 B).view s=[.v (.string s)]:=rfl
 rw[hview]at hl hr
 match vs,hl with
 | [v0],_=>
   have e0:=B4 (hr 0 v0 _ rfl rfl)
   subst e0
   refine(callsIn_wide (n:=10)).1 ((Tryz.Valid_in Fence.wide 10 trivial trivial trivial trivial rfl (by omega) s (by omega) (qaG ha) w).mono ?_)
   rintro e w' ⟨rfl,hg⟩
   exact⟨_,true,rfl,rfl,fun tp' I'=> .bool _,hg.below,hg.drawn⟩
end Go.Gv

namespace Go.Gv
open Go.Proofs Go.RowKit
open Cod (enc dec)
theorem qg8(s:B)(i:Nat):(qbt s (i:Int)=(⟨J4 s i⟩,(i:Int),1,true)/\i < s.size)\/(qbt s (i:Int)=(⟨0⟩,0,0,false)/\ ¬i < s.size):=by
 by_cases h:i < s.size
 ·left
  obtain⟨c,hc⟩:∃c,s.data[i]? =some c:=⟨s.data[i]'h,quK h⟩
  refine⟨?_,h⟩
  have e:s.data.toList[i]? =some c:=by rw[qt9];exact hc
  simp[qbt,hc,J4,e]
 ·right
  refine⟨?_,h⟩
  have:s.data[i]? =none:=qu6 (by have:s.size=s.data.size:=rfl;omega)
  simp[qbt,this]
theorem R4{tp I:Nat->Prop}{w:World}{a b c d:Value}{a' b' c' d':D}(h1:R tp I w a a')(h2:R tp I w b b')(h3:R tp I w c c')(h4:R tp I w d d'):R tp I w (.tuple #[a,b,c,d]) (.tup [a',b',c',d']):=
 R.tup [a,b,c,d] [a',b',c',d'] rfl fun k x y hx hy=>by
  rcases k with _|_|_|_|k
  ·cases hx;cases hy;exact h1
  ·cases hx;cases hy;exact h2
  ·cases hx;cases hy;exact h3
  ·cases hx;cases hy;exact h4
  ·cases hx
theorem qfo:Tri Tryz.prog yX s_cpAt.pt:=by
 refine qP (gD Tryz.func254 (by kernel_rfl) rfl) fun tp I w vs x hp hI hl hr=>?_
 obtain⟨s,i⟩:=x
 obtain⟨hsz,ha,h0,h1⟩:=hp
 simp only at hsz ha h0 h1
 have hview:(a2 B Int).view (s,i)=[.v (.string s), .v (.int .i64 i)]:=rfl
 rw[hview]at hl hr
 match vs,hl with
 | [v0,v1],_=>
   have e0:=B4 (hr 0 v0 _ rfl rfl)
   have e1:=B4 (hr 1 v1 _ rfl rfl)
   subst e0 e1
   obtain⟨j,rfl⟩:∃j:Nat,i=(j:Int):=⟨i.toNat,by omega⟩
   refine(callsIn_wide (n:=10)).1 ((Tryz.At_in Fence.wide ⟨rfl⟩ 10 trivial trivial trivial rfl (by omega) s (by omega) (qaG ha) j (by omega) w).mono ?_)
   rintro e w' ⟨rfl,hg⟩
   refine⟨_,qbt s j,rfl,rfl,fun tp' I'=>?_,hg.below,hg.drawn⟩
   rcases qg8 s j with⟨e,hlt⟩|⟨e,hlt⟩
   ·rw[e]
    unfold qkM
    rw[if_pos hlt]
    exact R4 (.int _ _) (.int _ _) (.int _ _) (.bool _)
   ·rw[e]
    unfold qkM
    rw[if_neg hlt]
    exact R4 (.int _ _) (.int _ _) (.int _ _) (.bool _)
end Go.Gv

namespace Go.Gv
open Cod (enc dec)
variable {S S0:Nat->Spc}
abbrev Gb:Spc:=aS (a1 I32) (fun c=>0<=c.val/\c.val < 128) (enc (X:=I32)) fun c y=>y=⟨low c.val⟩
theorem BX:aq eu ek S (a1 I32) (fun c=>0<=c.val/\c.val < 128) (enc (X:=I32)) fun c y=>y=⟨low c.val⟩:=by
 rintro⟨c⟩ ⟨h0,h1⟩
 simp only at h0 h1
 have n1:¬ (192:Int)<=c:=by omega
 have n2:¬ (913:Int)<=c:=by omega
 have n3:¬ (1040:Int)<=c:=by omega
 have n4:¬ (1024:Int)<=c:=by omega
 by_cases q1:(65:Int)<=c
 ·by_cases q2:c<=90
  ·have e:low c=c+32:=by unfold low;rw[if_pos ⟨q1,q2⟩]
   simp[eu,ek,q1,q2,e, -Bool.forall_bool, -Bool.exists_bool]
   exact⟨by simp only[InR];omega,cB (⟨c+32⟩:I32) (.same _) rfl⟩
  ·have e:low c=c:=by unfold low;rw[if_neg (fun h=>q2 h.2)]
   simp[eu,ek,q1,q2,n1,n2,n3,n4,e, -Bool.forall_bool, -Bool.exists_bool]
   exact cB (⟨c⟩:I32) (.same _) rfl
 ·have e:low c=c:=by unfold low;rw[if_neg (fun h=>q1 h.1)]
  simp[eu,ek,q1,n1,n2,n3,n4,e, -Bool.forall_bool, -Bool.exists_bool]
  exact cB (⟨c⟩:I32) (.same _) rfl
end Go.Gv
