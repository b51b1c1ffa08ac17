/- A part of the framework and of the walks: I13 I10 I14 W170. -/
import Derived.Test.YtfbleenmepoodaaGreatDoorGa34
set_option linter.unusedSimpArgs false
set_option linter.unusedVariables false
set_option linter.unusedSectionVars false
set_option linter.defProp false
set_option maxRecDepth 100000
namespace Go.Proofs
open Go.RowKit Go.Shelf Go.Gv
attribute [local go_sem] Oper.semAt_some
def qb5(s:ByteArray)(i:Nat):Value:=if i < s.size then .tuple #[.int .i32 (EO s i), .int .i64 (i:Int), .int .i64 1, .bool true]else .tuple #[.int .i32 0, .int .i64 0, .int .i64 0, .bool false]
def cB{l:List (Nat×Res)}{i:Nat}{r:Res}(h:fq l cv i=some r):(i,r) ∈l:=by
 induction l with
 | nil=>cases h
 | cons p l ih=>
   obtain⟨t,q⟩:=p;simp only[fq,aj]at h;split at h
   ·rename_i e;subst e;cases h;simp
   ·exact List.mem_cons_of_mem _ (ih h)
structure qiG (F:Fence):Prop where
 e:F=Fence.wide
def qh1:Nat->Spc:=λ_=> .none
def RN{b0 b1 b2 b3 b4:Nat}{c0 c1 c2 c3 c4:List D}(h:b0 < b1/\b1 < b2/\b2 < b3/\b3 < b4):
 ∀i j r s b,fq [(3,Res.box b0 c0),(4, .box b1 c1),(5, .box b2 c2),(6, .box b3 c3),(7, .box b4 c4)] cv i=some r->fq [(3,Res.box b0 c0),(4, .box b1 c1),(5, .box b2 c2),(6, .box b3 c3),(7, .box b4 c4)] cv j=some s->r.blk=some b->s.blk=some b->i=j:=by
 intro i j r s b hi hj h1 h2;have hi:=cB hi;have hj:=cB hj;simp only[List.mem_cons,Prod.mk.injEq,List.not_mem_nil,or_false]at hi hj;rcases hi with⟨rfl,rfl⟩|⟨rfl,rfl⟩|⟨rfl,rfl⟩|⟨rfl,rfl⟩|⟨rfl,rfl⟩ <;> rcases hj with⟨rfl,rfl⟩|⟨rfl,rfl⟩|⟨rfl,rfl⟩|⟨rfl,rfl⟩|⟨rfl,rfl⟩ <;> simp only[Res.blk,Option.some.injEq]at h1 h2 <;> omega
set_option maxRecDepth 100000 in
theorem Tf{F:Fence}{n D:Nat}{w V:World}{R:Ending->World->Prop}{tmps:Array Value}{x1 x2 x3 x4:Value}(hD:w.heap.size+5<=D)(c1:Bx V (w.heap.size+1) #[x1])(c2:Bx V (w.heap.size+2) #[x2])(c3:Bx V (w.heap.size+3) #[x3])(c4:Bx V (w.heap.size+4) #[x4])
 (hK:V.heap[D]? =some (.deferred (some []))) (hg:GrL w.heap.size w V) (t1:tmps[4]? =some (.pointer (some ⟨w.heap.size+1,0,none⟩))) (t2:tmps[5]? =some (.pointer (some ⟨w.heap.size+1+1,0,none⟩))) (t3:tmps[6]? =some (.pointer (some ⟨w.heap.size+1+1+1,0,none⟩))) (t4:tmps[7]? =some (.pointer (some ⟨w.heap.size+1+1+1+1,0,none⟩)))
 (hR:∀V',GrL w.heap.size w V'->R (.returned (.tuple #[x1,x2,x3,x4])) V'):
 bodyPostM F n Tryz.prog Tryz.f109 R .ret { tmps:=tmps,defers:=[{ target:= .collected D,args:= #[] }] } V:=by
 refine⟨by simp, .inl ⟨_,_,rfl,run_takeDeferred hK,?_⟩⟩;have g4:GrL w.heap.size w (V.putObj D (.deferred none)):=hg.trans (GrL.put _ (by omega) _);have k1:=(c1.keep (World.putObj_heap_other (o:= .deferred none) (show w.heap.size+1≠D by omega))).cell (k:=0) rfl;have k2:=(c2.keep (World.putObj_heap_other (o:= .deferred none) (show w.heap.size+2≠D by omega))).cell (k:=0) rfl;have k3:=(c3.keep (World.putObj_heap_other (o:= .deferred none) (show w.heap.size+3≠D by omega))).cell (k:=0) rfl;have k4:=(c4.keep (World.putObj_heap_other (o:= .deferred none) (show w.heap.size+4≠D by omega))).cell (k:=0) rfl;have hres:(results Tryz.f109 tmps).run Tryz.prog (V.putObj D (.deferred none))= .ok (.tuple #[x1,x2,x3,x4]) (V.putObj D (.deferred none)):=by
  simp[results,Tryz.f109,go_sem,k1,k2,k3,k4,t1,t2,t3,t4]
 exact⟨_,hres,hR _ g4⟩
set_option maxRecDepth 100000 in
set_option maxHeartbeats 4000000 in
theorem Tryz.At_in(F:Fence)(hF:qiG F)(n:Nat)(h50:F.fn 109)(h95:F.fn 130)(h128:F.fn 162)(hro:F.round=none)(hn:10<=n)(s:ByteArray)(hs:s.size<=100000)(ha:∀ (k:Nat) (h:k < s.size),(s[k]'h).toNat < 128)(i:Nat)(hi:i<=s.size)(w:World):
 CallsIn F n Tryz.prog 109 #[.string s, .int .i64 (i:Int)] w λe W'=>e= .returned (qb5 s i)/\GrL w.heap.size w W':=by
 have h1:1<=n:=by omega
 refine callsIn_of_wp_marks Tryz.func109 rfl h50 ?_ hro;simp only[Tryz.ntmps109,List.size_toArray,List.length_cons,List.length_nil,Nat.reduceAdd,Nat.reduceSub,Array.replicate_succ,Array.replicate_zero,List.push_toArray,List.append_toArray,List.nil_append,List.cons_append]
 gi_wp2_with (gi_at_call 130;refine(Tryz.units_in F (n -1) h95 hro _ _).mono ?_;rintro e w' ⟨rfl,rfl⟩)
 obtain⟨W0,hW0⟩:∃W0,(((((w.alloc (.cells #[.int .i64 (i:Int)] 3)).alloc (.cells #[.int .i32 0] 21)).alloc (.cells #[.int .i64 0] 3)).alloc (.cells #[.int .i64 0] 3)).alloc (.cells #[.bool false] 4)).alloc (.cells #[.string s] aJ)=W0:=⟨_,rfl⟩
 rw[hW0];have hsz:W0.heap.size=w.heap.size+6:=by rw[<-hW0];simp
 have g0:GrL w.heap.size w W0:=by
  rw[<-hW0];exact(((((GrL.alloc w (Nat.le_refl _) _).trans (GrL.alloc _ (by simp) _)).trans (GrL.alloc _ (by first|(simp;done)|(simp;omega)) _)).trans (GrL.alloc _ (by first|(simp;done)|(simp;omega)) _)).trans (GrL.alloc _ (by first|(simp;done)|(simp;omega)) _)).trans (GrL.alloc _ (by first|(simp;done)|(simp;omega)) _)
 have B0:∀W:World,∀o:Obj,(W.alloc o).heap[W.heap.size]? =some o:=λW o=>World.alloc_heap_new W o
 have b5:W0.heap[w.heap.size+5]? =some (.cells #[.string s] aJ (0,0)):=by
  rw[<-hW0];have h:=B0 (((((w.alloc (.cells #[.int .i64 (i:Int)] 3)).alloc (.cells #[.int .i32 0] 21)).alloc (.cells #[.int .i64 0] 3)).alloc (.cells #[.int .i64 0] 3)).alloc (.cells #[.bool false] 4)) (.cells #[.string s] aJ);simpa using h
 have b0:W0.heap[w.heap.size]? =some (.cells #[.int .i64 (i:Int)] 3 (0,0)):=by
  rw[<-hW0];have h:=B0 w (.cells #[.int .i64 (i:Int)] 3);rw[show w.heap.size=w.heap.size by simp]at h;exact(Below.heap_alloc _ _ _ (by first|(simp;done)|(simp;omega))).trans ((Below.heap_alloc _ _ _ (by first|(simp;done)|(simp;omega))).trans ((Below.heap_alloc _ _ _ (by first|(simp;done)|(simp;omega))).trans ((Below.heap_alloc _ _ _ (by first|(simp;done)|(simp;omega))).trans ((Below.heap_alloc _ _ _ (by first|(simp;done)|(simp;omega))).trans (h)))))
 have b1:W0.heap[w.heap.size+1]? =some (.cells #[.int .i32 0] 21 (0,0)):=by
  rw[<-hW0];have h:=B0 (w.alloc (.cells #[.int .i64 (i:Int)] 3)) (.cells #[.int .i32 0] 21);rw[show(w.alloc (.cells #[.int .i64 (i:Int)] 3)).heap.size=w.heap.size+1 by simp]at h;exact(Below.heap_alloc _ _ _ (by first|(simp;done)|(simp;omega))).trans ((Below.heap_alloc _ _ _ (by first|(simp;done)|(simp;omega))).trans ((Below.heap_alloc _ _ _ (by first|(simp;done)|(simp;omega))).trans ((Below.heap_alloc _ _ _ (by first|(simp;done)|(simp;omega))).trans (h))))
 have b2:W0.heap[w.heap.size+2]? =some (.cells #[.int .i64 0] 3 (0,0)):=by
  rw[<-hW0];have h:=B0 ((w.alloc (.cells #[.int .i64 (i:Int)] 3)).alloc (.cells #[.int .i32 0] 21)) (.cells #[.int .i64 0] 3);rw[show((w.alloc (.cells #[.int .i64 (i:Int)] 3)).alloc (.cells #[.int .i32 0] 21)).heap.size=w.heap.size+2 by simp]at h;exact(Below.heap_alloc _ _ _ (by first|(simp;done)|(simp;omega))).trans ((Below.heap_alloc _ _ _ (by first|(simp;done)|(simp;omega))).trans ((Below.heap_alloc _ _ _ (by first|(simp;done)|(simp;omega))).trans (h)))
 have b3:W0.heap[w.heap.size+3]? =some (.cells #[.int .i64 0] 3 (0,0)):=by
  rw[<-hW0];have h:=B0 (((w.alloc (.cells #[.int .i64 (i:Int)] 3)).alloc (.cells #[.int .i32 0] 21)).alloc (.cells #[.int .i64 0] 3)) (.cells #[.int .i64 0] 3);rw[show(((w.alloc (.cells #[.int .i64 (i:Int)] 3)).alloc (.cells #[.int .i32 0] 21)).alloc (.cells #[.int .i64 0] 3)).heap.size=w.heap.size+3 by simp]at h;exact(Below.heap_alloc _ _ _ (by first|(simp;done)|(simp;omega))).trans ((Below.heap_alloc _ _ _ (by first|(simp;done)|(simp;omega))).trans (h))
 have b4:W0.heap[w.heap.size+4]? =some (.cells #[.bool false] 4 (0,0)):=by
  rw[<-hW0];have h:=B0 ((((w.alloc (.cells #[.int .i64 (i:Int)] 3)).alloc (.cells #[.int .i32 0] 21)).alloc (.cells #[.int .i64 0] 3)).alloc (.cells #[.int .i64 0] 3)) (.cells #[.bool false] 4);rw[show((((w.alloc (.cells #[.int .i64 (i:Int)] 3)).alloc (.cells #[.int .i32 0] 21)).alloc (.cells #[.int .i64 0] 3)).alloc (.cells #[.int .i64 0] 3)).heap.size=w.heap.size+4 by simp]at h;exact(Below.heap_alloc _ _ _ (by first|(simp;done)|(simp;omega))).trans (h)
 clear hW0 B0;have hcs:W0.cell? ⟨w.heap.size+5,0,none⟩=some (.string s):=bg b5 rfl;refine GE hro h1 (gf:=162) (lb:= #[.pointer (some ⟨w.heap.size+5,0,none⟩)]) rfl h128 (enters_of Tryz.func162 (by kernel_rfl) rfl)
  (Tryz.units1_it F (n -1) h128 hro (by omega) s hs ha (λk=>k=w.heap.size+5) (w.heap.size+5) rfl W0 (λ_ h=>by omega) hcs) (λ_ h=>by omega) (λ_=>rfl)
  (λk W=>GrL w.heap.size w W/\k<=i/\Bx W w.heap.size #[.int .i64 ((i:Int) - (k:Int))]/\Bx W (w.heap.size+1) #[.int .i32 0]/\Bx W (w.heap.size+2) #[.int .i64 0]/\Bx W (w.heap.size+3) #[.int .i64 0]/\Bx W (w.heap.size+4) #[.bool false])
  (λk W=>GrL w.heap.size w W/\k=i/\Bx W (w.heap.size+1) #[.int .i32 (EO s i)]/\Bx W (w.heap.size+2) #[.int .i64 (i:Int)]/\Bx W (w.heap.size+3) #[.int .i64 1]/\Bx W (w.heap.size+4) #[.bool true])
  (λk A C hs hg0=>have hg:=hg0.toL; ⟨hs.1.trans (hg.mono (by omega)),hs.2.1,hs.2.2.1.keep (hg.low _ (by omega)),hs.2.2.2.1.keep (hg.low _ (by omega)),hs.2.2.2.2.1.keep (hg.low _ (by omega)),hs.2.2.2.2.2.1.keep (hg.low _ (by omega)),hs.2.2.2.2.2.2.keep (hg.low _ (by omega))⟩)
  (λk A C hs hg0=>have hg:=hg0.toL; ⟨hs.1.trans (hg.mono (by omega)),hs.2.1,hs.2.2.1.keep (hg.low _ (by omega)),hs.2.2.2.1.keep (hg.low _ (by omega)),hs.2.2.2.2.1.keep (hg.low _ (by omega)),hs.2.2.2.2.2.keep (hg.low _ (by omega))⟩)
  ⟨g0,Nat.zero_le _, .of (by simpa using b0), .of b1, .of b2, .of b3, .of b4⟩
  (λk a' W=>∃Br,W0.heap.size+2<=Br/\W.heap[Br]? =some (.cells #[.int .i32 (EO s k), .int .i64 (k:Int), .int .i64 1] 152 (0,0))/\
    a'={ tmps:= #[.string s, .int .i64 (i:Int),undef, .pointer (some ⟨w.heap.size,0,none⟩), .pointer (some ⟨w.heap.size+1,0,none⟩), .pointer (some ⟨w.heap.size+1+1,0,none⟩), .pointer (some ⟨w.heap.size+1+1+1,0,none⟩), .pointer (some ⟨w.heap.size+1+1+1+1,0,none⟩), .pointer (some ⟨Br,0,none⟩), .string s, .func (.func 162) #[] #[.pointer (some ⟨w.heap.size+1+1+1+1+1,0,none⟩)], .agg #[.int .i32 (EO s k), .int .i64 (k:Int), .int .i64 1],undef,undef,undef,undef,undef,undef,undef,undef,undef,undef],defers:=[] })
  (λa' k W o hlt hs=>by
    obtain⟨Br,q1,q2,q3⟩:=hs;exact⟨Br,q1,(World.putObj_heap_other (by omega)).trans q2,q3⟩)
  ?assign ?body ?done ?stop
 case assign=>
  rintro l k W hsz2 hl ⟨i1,ik,i2,i3,i4,i5,i6⟩ hk;rw[Gi];generalize EO s k=c
  gi_wp2
  exact⟨(KeepsOthers.alloc _ _).from _,KBt.alloc _ _ _ _,⟨i1.trans (GrL.alloc W i1.size _),ik,i2.keep (Below.heap_alloc _ _ _ (by omega)),i3.keep (Below.heap_alloc _ _ _ (by omega)),i4.keep (Below.heap_alloc _ _ _ (by omega)),i5.keep (Below.heap_alloc _ _ _ (by omega)),i6.keep (Below.heap_alloc _ _ _ (by omega))⟩,W.heap.size,by omega,World.alloc_heap_new W _,rfl⟩
 case body=>
  rintro l k a' W hsz2 hl ⟨i1,ik,i2,i3,i4,i5,i6⟩ ⟨Br,hBr,bR,rfl⟩ hk;obtain⟨rfl⟩:=hF;generalize hc:EO s k=c at bR;obtain⟨B,hB⟩:∃B,B=w.heap.size:=⟨_,rfl⟩
  rw[<-hB]at i1 i2 i3 i4 i5 i6 hsz;obtain⟨H,hH⟩:∃H,H=fq [(3,Res.box B [.v (.int .i64 ((i:Int) - (k:Int)))]),(4, .box (B+1) [.v (.int .i32 0)]),(5, .box (B+2) [.v (.int .i64 0)]),(6, .box (B+3) [.v (.int .i64 0)]),(7, .box (B+4) [.v (.bool false)])] cv:=⟨_,rfl⟩
  have hown:∀b,bF H b->B<=b/\b < W0.heap.size/\ ¬b=B+5:=by
   rintro b ⟨j,r,hj,hb⟩;rw[hH]at hj;have hj:=cB hj;simp only[List.mem_cons,Prod.mk.injEq,List.not_mem_nil,or_false]at hj;rcases hj with⟨rfl,rfl⟩|⟨rfl,rfl⟩|⟨rfl,rfl⟩|⟨rfl,rfl⟩|⟨rfl,rfl⟩ <;> simp only[Res.blk,Option.some.injEq]at hb <;> omega
  have hst:St (Bz W H 22 []) (cR [.any, .any, .any, .bptr 3 B 0, .bptr 4 (B+1) 0, .bptr 5 (B+2) 0, .bptr 6 (B+3) 0, .bptr 7 (B+4) 0, .cptr [.v (.int .i32 c), .v (.int .i64 (k:Int)), .v (.int .i64 1)] 0]) H { tmps:= #[.string s, .int .i64 (i:Int),undef, .pointer (some ⟨w.heap.size,0,none⟩), .pointer (some ⟨w.heap.size+1,0,none⟩), .pointer (some ⟨w.heap.size+1+1,0,none⟩), .pointer (some ⟨w.heap.size+1+1+1,0,none⟩), .pointer (some ⟨w.heap.size+1+1+1+1,0,none⟩), .pointer (some ⟨Br,0,none⟩), .string s, .func (.func 162) #[] #[.pointer (some ⟨w.heap.size+1+1+1+1+1,0,none⟩)], .agg #[.int .i32 c, .int .i64 (k:Int), .int .i64 1],undef,undef,undef,undef,undef,undef,undef,undef,undef,undef],defers:=[] } W:=by
   refine qfb rfl ?_ ?_ ?_
   ·rw[hH];exact RN (by omega)
   ·intro j r hj;rw[hH]at hj;have hj:=cB hj;simp only[List.mem_cons,Prod.mk.injEq,List.not_mem_nil,or_false]at hj;rcases hj with⟨rfl,rfl⟩|⟨rfl,rfl⟩|⟨rfl,rfl⟩|⟨rfl,rfl⟩|⟨rfl,rfl⟩
    ·exact i2.box1 rfl (.int _ _)
    ·exact i3.box1 rfl (.int _ _)
    ·exact i4.box1 rfl (.int _ _)
    ·exact i5.box1 rfl (.int _ _)
    ·exact i6.box1 rfl (.bool _)
   ·intro t;rw[<-hB];rcases t with _|_|_|_|_|_|_|_|_|t
    ·exact .any _
    ·exact .any _
    ·exact .any _
    ·exact .bptr 3 B 0
    ·exact .bptr 4 (B+1) 0
    ·exact .bptr 5 (B+2) 0
    ·exact .bptr 6 (B+3) 0
    ·exact .bptr 7 (B+4) 0
    ·have hbx:Bx W Br #[.int .i32 c, .int .i64 (k:Int), .int .i64 1]:= .of bR;exact Bx.cptr [.int .i32 c, .int .i64 (k:Int), .int .i64 1] hbx ⟨hbx.lt,λh=>h,λh=>h,λh=>by have:=hown Br h;omega⟩ (λx hx=>by
      simp only[List.mem_cons,List.not_mem_nil,or_false]at hx;rcases hx with rfl|rfl|rfl <;> exact⟨rfl, .int _ _⟩)
    ·exact .any _
  have hik:(i:Int)<=100000:=by omega
  have hv:vc qh1 gd (λe _ H'=>match e with
   | .norm=>k < i/\H' 3=some (.box B [.v (.int .i64 ((i:Int) - (k:Int) -1))])/\H' 4=H 4/\H' 5=H 5/\H' 6=H 6/\H' 7=H 7
   | .ret=>k=i/\H' 4=some (.box (B+1) [.v (.int .i32 c)])/\H' 5=some (.box (B+2) [.v (.int .i64 (k:Int))])/\H' 6=some (.box (B+3) [.v (.int .i64 1)])/\H' 7=some (.box (B+4) [.v (.bool true)])
   | _=>False) (cR [.any, .any, .any, .bptr 3 B 0, .bptr 4 (B+1) 0, .bptr 5 (B+2) 0, .bptr 6 (B+3) 0, .bptr 7 (B+4) 0, .cptr [.v (.int .i32 c), .v (.int .i64 (k:Int)), .v (.int .i64 1)] 0]) H:=by
   rw[hH];by_cases hki:k=i
   ·subst hki;simp[gd, -Bool.forall_bool, -Bool.exists_bool]
   ·have hne:¬ (i:Int) - (k:Int)=0:=by omega
    simp[gd,hne, -Bool.forall_bool, -Bool.exists_bool];exact⟨by simp only[InR];omega,by omega⟩
  have hBk:∀b,bF H b->b < W0.heap.size/\ ¬ (b=w.heap.size+5):=λb hb=>by have:=hown b hb;omega
  refine wpIn_mono (IP (S:=qh1) (im:=[2007007,2006006,2005005,2004004]) (λf=>IS _ f) mixed (cc:=gd) (by kernel_rfl) hst hv) ?_;rintro e a2 W2 he;cases e with
  | normal=>
    obtain⟨σ2,H2,hst2,hlt,e3,e4,e5,e6,e7⟩:=he;have hs2:=BQ hst2;have hg:=hs2.grL (B:=B) (λb hb=>(hown b hb).1) (by omega);refine⟨hs2.kf (λb hb=>(hBk b hb).1),hs2.kbt hBk,?_⟩;rw[<-hB];rw[hH]at e4 e5 e6 e7;refine⟨i1.trans hg,by omega,?_,qI hst2 [_] e4,qI hst2 [_] e5,qI hst2 [_] e6,qI hst2 [_] e7⟩;have:=qI hst2 [_] e3;rwa [show(i:Int) - ((k+1:Nat):Int)=(i:Int) - (k:Int) -1 by omega]
  | ret=>
    obtain⟨σ2,H2,hst2,rfl,e4,e5,e6,e7⟩:=he;have hs2:=BQ hst2;have hg:=hs2.grL (B:=B) (λb hb=>(hown b hb).1) (by omega);refine⟨hs2.kf (λb hb=>(hBk b hb).1),?_⟩;rw[<-hB,hc];exact⟨i1.trans hg,rfl,qI hst2 [_] e4,qI hst2 [_] e5,qI hst2 [_] e6,qI hst2 [_] e7⟩
  | exit id=>obtain⟨_,_,_,h⟩:=he;exact h.elim
  | goto t=>exact he.elim
  | panic ch=>exact he.elim
  | outgrown=>exact he.elim
 case done=>
  rintro D W hD ⟨i1,ik,i2,⟨t3,i3⟩,⟨t4,i4⟩,⟨t5,i5⟩,⟨t6,i6⟩⟩ hK;have his:i=s.size:=by omega
  have q3:W.cell? ⟨w.heap.size+1,0,none⟩=some (.int .i32 0):=bg i3 rfl;have q4:W.cell? ⟨w.heap.size+1+1,0,none⟩=some (.int .i64 0):=bg i4 rfl;have q5:W.cell? ⟨w.heap.size+1+1+1,0,none⟩=some (.int .i64 0):=bg i5 rfl;have q6:W.cell? ⟨w.heap.size+1+1+1+1,0,none⟩=some (.bool false):=bg i6 rfl;have f3:W.frozen? ⟨w.heap.size+1,0,none⟩=false:=lC i3;have f4:W.frozen? ⟨w.heap.size+1+1,0,none⟩=false:=lC i4;have f5:W.frozen? ⟨w.heap.size+1+1+1,0,none⟩=false:=lC i5;have f6:W.frozen? ⟨w.heap.size+1+1+1+1,0,none⟩=false:=lC i6
  gi_wp2
  have g:=((((GrL.setCell (k:=0) (W:=W) (show w.heap.size<=w.heap.size+1 by omega) (.int .i32 0)).trans (GrL.setCell (k:=0) (show w.heap.size<=w.heap.size+1+1 by omega) (.int .i64 0))).trans (GrL.setCell (k:=0) (show w.heap.size<=w.heap.size+1+1+1 by omega) (.int .i64 0))).trans (GrL.setCell (k:=0) (show w.heap.size<=w.heap.size+1+1+1+1 by omega) (.bool false)))
  have k4:∀ (X:World) (b:Nat) (x:Value),b≠w.heap.size+4->(X.setCell ⟨w.heap.size+1+1+1+1,0,none⟩ x).heap[b]? =X.heap[b]?:=λX b x h=>Below.heap_setCell _ _ _ _ (by show b≠w.heap.size+1+1+1+1;omega)
  have k3:∀ (X:World) (b:Nat) (x:Value),b≠w.heap.size+3->(X.setCell ⟨w.heap.size+1+1+1,0,none⟩ x).heap[b]? =X.heap[b]?:=λX b x h=>Below.heap_setCell _ _ _ _ (by show b≠w.heap.size+1+1+1;omega)
  have k2:∀ (X:World) (b:Nat) (x:Value),b≠w.heap.size+2->(X.setCell ⟨w.heap.size+1+1,0,none⟩ x).heap[b]? =X.heap[b]?:=λX b x h=>Below.heap_setCell _ _ _ _ (by show b≠w.heap.size+1+1;omega)
  have k1:∀ (X:World) (b:Nat) (x:Value),b≠w.heap.size+1->(X.setCell ⟨w.heap.size+1,0,none⟩ x).heap[b]? =X.heap[b]?:=λX b x h=>Below.heap_setCell _ _ _ _ h
  refine Tf (D:=D) (by omega) (.of (((k4 _ _ _ (by omega)).trans ((k3 _ _ _ (by omega)).trans (k2 _ _ _ (by omega)))).trans (kX i3))) (.of (((k4 _ _ _ (by omega)).trans (k3 _ _ _ (by omega))).trans (kX ((k1 _ _ _ (by omega)).trans i4)))) (.of ((k4 _ _ _ (by omega)).trans (kX ((k2 _ _ _ (by omega)).trans ((k1 _ _ _ (by omega)).trans i5))))) (.of (kX ((k3 _ _ _ (by omega)).trans ((k2 _ _ _ (by omega)).trans ((k1 _ _ _ (by omega)).trans i6)))))
   ((k4 _ _ _ (by omega)).trans ((k3 _ _ _ (by omega)).trans ((k2 _ _ _ (by omega)).trans ((k1 _ _ _ (by omega)).trans hK)))) (i1.trans g) rfl rfl rfl rfl ?_
  intro V' hg';refine⟨?_,hg'⟩;unfold qb5;rw[if_neg (by omega)]
 case stop=>
  rintro D k W hD hk ⟨i1,rfl,⟨t3,i3⟩,⟨t4,i4⟩,⟨t5,i5⟩,⟨t6,i6⟩⟩ hK
  gi_wp2
  refine Tf (D:=D) (by omega) (.of i3) (.of i4) (.of i5) (.of i6) hK i1 rfl rfl rfl rfl ?_;intro V' hg';refine⟨?_,hg'⟩;unfold qb5;rw[if_pos hk]
end Go.Proofs
namespace Go.Gv
open Go.Proofs Go.RowKit
open Cod (enc dec)
variable {dq:Prop}
def SB{s:B}(h:sd s=true):∀ (k:Nat) (hk:k < s.size),(s[k]'hk).toNat < 128:=λk hk=>by
 have hl:k < s.data.toList.length:=by rw[qjT];exact hk
 have:=qjF.1 h _ (qkW hl);have h2:s.data[k].toNat < 128:=by simpa using this
 exact h2
def GrL.below{w w':World}(h:GrL w.heap.size w w'):Below w.heap.size w w':=⟨h.os,h.tape,h.output,h.size,h.low⟩
def EU:Tri dq Tryz.prog jQ s_cpVal.pt:=by
 refine na (kT Tryz.func100 (by kernel_rfl) rfl) λtp I w vs s hp hI hl hr=>?_
 obtain⟨ha,hsz⟩:=hp;have hview:(a1 B).view s=[.v (.string s)]:=rfl;rw[hview]at hl hr
 match vs,hl with
 | [v0],_=>
   have e0:=xI (hr 0 v0 _ rfl rfl);subst e0;refine(callsIn_wide (n:=10)).1 ((Tryz.Valid_in Fence.wide 10 trivial trivial trivial trivial rfl (by omega) s (by omega) (SB ha) w).mono ?_);rintro e w' ⟨rfl,hg⟩;exact⟨_,true,rfl,rfl,λtp' I'=> .bool _,hg.below,hg.drawn⟩
def Yl(s:B)(i:Nat):(Tl s (i:Int)=(⟨EO s i⟩,(i:Int),1,true)/\i < s.size)\/(Tl s (i:Int)=(⟨0⟩,0,0,false)/\ ¬i < s.size):=by
 by_cases h:i < s.size
 ·left;obtain⟨c,hc⟩:∃c,s.data[i]? =some c:=⟨s.data[i]'h,qly h⟩
  refine⟨?_,h⟩;have e:s.data.toList[i]? =some c:=by rw[qj6];exact hc
  simp[Tl,hc,EO,e]
 ·right;refine⟨?_,h⟩;have:s.data[i]? =none:=qlh (by have:s.size=s.data.size:=rfl;omega);simp[Tl,this]
def R4{tp I:Nat->Prop}{w:World}{a b c d:Value}{a' b' c' d':D}(h1:R tp I w a a')(h2:R tp I w b b')(h3:R tp I w c c')(h4:R tp I w d d'):R tp I w (.tuple #[a,b,c,d]) (.tup [a',b',c',d']):=
 R.tup [a,b,c,d] [a',b',c',d'] rfl λk x y hx hy=>by
  rcases k with _|_|_|_|k
  ·cases hx;cases hy;exact h1
  ·cases hx;cases hy;exact h2
  ·cases hx;cases hy;exact h3
  ·cases hx;cases hy;exact h4
  ·cases hx
theorem Wx:Tri dq Tryz.prog tW s_cpAt.pt:=by
 refine na (kT Tryz.func109 (by kernel_rfl) rfl) λtp I w vs x hp hI hl hr=>?_
 obtain⟨s,i⟩:=x;obtain⟨hsz,ha,h0,h1⟩:=hp;simp only at hsz ha h0 h1;have hview:(a2 B Int).view (s,i)=[.v (.string s), .v (.int .i64 i)]:=rfl;rw[hview]at hl hr
 match vs,hl with
 | [v0,v1],_=>
   have e0:=xI (hr 0 v0 _ rfl rfl);have e1:=xI (hr 1 v1 _ rfl rfl);subst e0 e1;obtain⟨j,rfl⟩:∃j:Nat,i=(j:Int):=⟨i.toNat,by omega⟩
   refine(callsIn_wide (n:=10)).1 ((Tryz.At_in Fence.wide ⟨rfl⟩ 10 trivial trivial trivial rfl (by omega) s (by omega) (SB ha) j (by omega) w).mono ?_);rintro e w' ⟨rfl,hg⟩;refine⟨_,Tl s j,rfl,rfl,λtp' I'=>?_,hg.below,hg.drawn⟩;rcases Yl s j with⟨e,hlt⟩|⟨e,hlt⟩
   ·rw[e];unfold qb5;rw[if_pos hlt];exact R4 (.int _ _) (.int _ _) (.int _ _) (.bool _)
   ·rw[e];unfold qb5;rw[if_neg hlt];exact R4 (.int _ _) (.int _ _) (.int _ _) (.bool _)
end Go.Gv
namespace Go.Gv
open Cod (enc dec)
variable {S S0:Nat->Spc}
abbrev BT:Spc:=aZ (a1 I32) (λc=>0<=c.val/\c.val < 128) (enc (X:=I32)) λc y=>y=⟨low c.val⟩
theorem xD:ax dB dx S (a1 I32) (λc=>0<=c.val/\c.val < 128) (enc (X:=I32)) λc y=>y=⟨low c.val⟩:=by
 rintro⟨c⟩ ⟨h0,h1⟩;simp only at h0 h1;have n1:¬ (192:Int)<=c:=by omega
 have n2:¬ (913:Int)<=c:=by omega
 have n3:¬ (1040:Int)<=c:=by omega
 have n4:¬ (1024:Int)<=c:=by omega
 by_cases q1:(65:Int)<=c
 ·by_cases q2:c<=90
  ·have e:low c=c+32:=by unfold low;rw[if_pos ⟨q1,q2⟩]
   simp[dB,dx,q1,q2,e, -Bool.forall_bool, -Bool.exists_bool];exact⟨by simp only[InR];omega,dm (⟨c+32⟩:I32) (.same _) rfl⟩
  ·have e:low c=c:=by unfold low;rw[if_neg (λh=>q2 h.2)]
   simp[dB,dx,q1,q2,n1,n2,n3,n4,e, -Bool.forall_bool, -Bool.exists_bool];exact dm (⟨c⟩:I32) (.same _) rfl
 ·have e:low c=c:=by unfold low;rw[if_neg (λh=>q1 h.1)]
  simp[dB,dx,q1,n1,n2,n3,n4,e, -Bool.forall_bool, -Bool.exists_bool];exact dm (⟨c⟩:I32) (.same _) rfl
end Go.Gv
