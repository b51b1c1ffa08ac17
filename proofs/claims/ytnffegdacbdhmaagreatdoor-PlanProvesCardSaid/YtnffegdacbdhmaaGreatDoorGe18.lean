/- I13 -/
import Derived.Shelf.Strings.Runes
import Derived.Shelf.Strings.Search3
import Derived.Shelf.Unicode.Decode
import Derived.Ground.NamesProg
import Derived.Test.YtnffegdacbdhmaaGreatDoorProg
import Derived.Test.YtnffegdacbdhmaaGreatDoorGe17
set_option linter.all false
set_option maxRecDepth 100000
set_option maxHeartbeats 0
open Bool renaming forall_bool → fB', exists_bool → eB'
namespace Go.Proofs
open Go.RowKit Go.Shelf Go.Gv
attribute [local go_sem] Oper.semAt_some
def qwf(s:ByteArray)(i:Nat):Value:=if i<s.size then .tuple #[.int .i32 (R7 s i), .int .i64 (i:Int), .int .i64 1, .bool true]else .tuple #[.int .i32 0, .int .i64 0, .int .i64 0, .bool false]
def eh{l:List (Nat×Res)}{i:Nat}{r:Res}(h:gS l bS i=some r):(i,r) ∈l:=by
 induction l with
 |nil=>cases h
 | cons p l ih=>
   obtain⟨t,q⟩:=p;simp only[gS,ai]at h;grind
structure qE0 (F:Fence):Prop where
 e:F=Fence.wide
def qEe:Nat->Spc:=λ_=> .none
def qkv{b0 b1 b2 b3 b4:Nat}{c0 c1 c2 c3 c4:List D}(h:b0<b1/\b1<b2/\b2<b3/\b3<b4):
 ∀i j r s b,gS [(3,Res.box b0 c0),(4, .box b1 c1),(5, .box b2 c2),(6, .box b3 c3),(7, .box b4 c4)] bS i=some r->gS [(3,Res.box b0 c0),(4, .box b1 c1),(5, .box b2 c2),(6, .box b3 c3),(7, .box b4 c4)] bS j=some s->r.blk=some b->s.blk=some b->i=j:=by
 intro i j r s b hi hj h1 h2;have hi:=eh hi;have hj:=eh hj;simp only[List.mem_cons,Prod.mk.injEq,List.not_mem_nil,or_false]at hi hj;grind [Res.blk]
set_option maxRecDepth 100000 in
theorem qmp{F:Fence}{n D:Nat}{w V:World}{R:Ending->World->Prop}{tmps:Array Value}{x1 x2 x3 x4:Value}(hD:w.heap.size+5<=D)(c1:Bx V (w.heap.size+1) #[x1])(c2:Bx V (w.heap.size+2) #[x2])(c3:Bx V (w.heap.size+3) #[x3])(c4:Bx V (w.heap.size+4) #[x4])
 (hK:V.heap[D]? =some (.deferred (some []))) (hg:GrL w.heap.size w V) (t1:tmps[4]? =some (.pointer (some ⟨w.heap.size+1,0,none⟩))) (t2:tmps[5]? =some (.pointer (some ⟨w.heap.size+1+1,0,none⟩))) (t3:tmps[6]? =some (.pointer (some ⟨w.heap.size+1+1+1,0,none⟩))) (t4:tmps[7]? =some (.pointer (some ⟨w.heap.size+1+1+1+1,0,none⟩)))
 (hR:∀V',GrL w.heap.size w V'->R (.returned (.tuple #[x1,x2,x3,x4])) V'):
 bodyPostM F n Tryz.prog Tryz.f252 R .ret { tmps:=tmps,defers:=[{ target:= .collected D,args:= #[] }] } V:=by
 refine⟨by simp, .inl ⟨_,_,rfl,run_takeDeferred hK,?_⟩⟩;have g4:GrL w.heap.size w (V.putObj D (.deferred none)):=hg.trans (GrL.put _ (by omega) _);have k1:=(c1.keep (World.putObj_heap_other (o:= .deferred none) (show w.heap.size+1≠D by omega))).cell (k:=0) rfl;have k2:=(c2.keep (World.putObj_heap_other (o:= .deferred none) (show w.heap.size+2≠D by omega))).cell (k:=0) rfl;have k3:=(c3.keep (World.putObj_heap_other (o:= .deferred none) (show w.heap.size+3≠D by omega))).cell (k:=0) rfl;have k4:=(c4.keep (World.putObj_heap_other (o:= .deferred none) (show w.heap.size+4≠D by omega))).cell (k:=0) rfl;have hres:(results Tryz.f252 tmps).run Tryz.prog (V.putObj D (.deferred none))= .ok (.tuple #[x1,x2,x3,x4]) (V.putObj D (.deferred none)):=by
  simp[results,Tryz.f252,go_sem,k1,k2,k3,k4,t1,t2,t3,t4]
 exact⟨_,hres,hR _ g4⟩
set_option maxRecDepth 100000 in
set_option maxHeartbeats 4000000 in
theorem Tryz.At_in(F:Fence)(hF:qE0 F)(n:Nat)(h50:F.fn 252)(h95:F.fn 280)(h128:F.fn 303)(hro:F.round=none)(hn:10<=n)(s:ByteArray)(hs:s.size<=100000)(ha:∀(k:Nat) (h:k<s.size),(s[k]'h).toNat< 128)(i:Nat)(hi:i<=s.size)(w:World):
 CallsIn F n Tryz.prog 252 #[.string s, .int .i64 (i:Int)] w λe W'=>e= .returned (qwf s i)/\GrL w.heap.size w W':=by
 have h1:1<=n:=by omega
 refine callsIn_of_wp_marks Tryz.func252 rfl h50 ?_ hro;simp only[Tryz.ntmps252,List.size_toArray,List.length_cons,List.length_nil,Nat.reduceAdd,Nat.reduceSub,Array.replicate_succ,Array.replicate_zero,List.push_toArray,List.append_toArray,List.nil_append,List.cons_append]
 gi_wp2_with (gi_at_call 280;refine(Tryz.units_in F (n -1) h95 hro _ _).mono ?_;rintro e w' ⟨rfl,rfl⟩)
 obtain⟨W0,hW0⟩:∃W0,(((((w.alloc (.cells #[.int .i64 (i:Int)] 3)).alloc (.cells #[.int .i32 0] 21)).alloc (.cells #[.int .i64 0] 3)).alloc (.cells #[.int .i64 0] 3)).alloc (.cells #[.bool false] 4)).alloc (.cells #[.string s] aw)=W0:=⟨_,rfl⟩
 rw[hW0];have hsz:W0.heap.size=w.heap.size+6:=by rw[<-hW0];simp
 have g0:GrL w.heap.size w W0:=by
  rw[<-hW0];exact(((((GrL.alloc w (Nat.le_refl _) _).trans (GrL.alloc _ (by simp) _)).trans (GrL.alloc _ (by simp;omega) _)).trans (GrL.alloc _ (by simp;omega) _)).trans (GrL.alloc _ (by simp;omega) _)).trans (GrL.alloc _ (by simp;omega) _)
 have B0:∀W:World,∀o:Obj,(W.alloc o).heap[W.heap.size]? =some o:=λW o=>World.alloc_heap_new W o
 have b5:W0.heap[w.heap.size+5]? =some (.cells #[.string s] aw (0,0)):=by
  grind
 have b0:W0.heap[w.heap.size]? =some (.cells #[.int .i64 (i:Int)] 3 (0,0)):=by
  rw[<-hW0];have h:=B0 w (.cells #[.int .i64 (i:Int)] 3);rw[show w.heap.size=w.heap.size by simp]at h;grind [Below.heap_alloc]
 have b1:W0.heap[w.heap.size+1]? =some (.cells #[.int .i32 0] 21 (0,0)):=by
  rw[<-hW0];have h:=B0 (w.alloc (.cells #[.int .i64 (i:Int)] 3)) (.cells #[.int .i32 0] 21);rw[show(w.alloc (.cells #[.int .i64 (i:Int)] 3)).heap.size=w.heap.size+1 by simp]at h;grind [Below.heap_alloc]
 have b2:W0.heap[w.heap.size+2]? =some (.cells #[.int .i64 0] 3 (0,0)):=by
  rw[<-hW0];have h:=B0 ((w.alloc (.cells #[.int .i64 (i:Int)] 3)).alloc (.cells #[.int .i32 0] 21)) (.cells #[.int .i64 0] 3);rw[show((w.alloc (.cells #[.int .i64 (i:Int)] 3)).alloc (.cells #[.int .i32 0] 21)).heap.size=w.heap.size+2 by simp]at h;grind [Below.heap_alloc]
 have b3:W0.heap[w.heap.size+3]? =some (.cells #[.int .i64 0] 3 (0,0)):=by
  rw[<-hW0];have h:=B0 (((w.alloc (.cells #[.int .i64 (i:Int)] 3)).alloc (.cells #[.int .i32 0] 21)).alloc (.cells #[.int .i64 0] 3)) (.cells #[.int .i64 0] 3);rw[show(((w.alloc (.cells #[.int .i64 (i:Int)] 3)).alloc (.cells #[.int .i32 0] 21)).alloc (.cells #[.int .i64 0] 3)).heap.size=w.heap.size+3 by simp]at h;exact(Below.heap_alloc _ _ _ (by first|(simp;done)|(simp;omega))).trans ((Below.heap_alloc _ _ _ (by first|(simp;done)|(simp;omega))).trans (h))
 have b4:W0.heap[w.heap.size+4]? =some (.cells #[.bool false] 4 (0,0)):=by
  rw[<-hW0];have h:=B0 ((((w.alloc (.cells #[.int .i64 (i:Int)] 3)).alloc (.cells #[.int .i32 0] 21)).alloc (.cells #[.int .i64 0] 3)).alloc (.cells #[.int .i64 0] 3)) (.cells #[.bool false] 4);rw[show((((w.alloc (.cells #[.int .i64 (i:Int)] 3)).alloc (.cells #[.int .i32 0] 21)).alloc (.cells #[.int .i64 0] 3)).alloc (.cells #[.int .i64 0] 3)).heap.size=w.heap.size+4 by simp]at h;exact(Below.heap_alloc _ _ _ (by first|(simp;done)|(simp;omega))).trans (h)
 clear hW0 B0;have hcs:W0.cell? ⟨w.heap.size+5,0,none⟩=some (.string s):=bY b5 rfl;refine Vb hro h1 (gf:=303) (lb:= #[.pointer (some ⟨w.heap.size+5,0,none⟩)]) rfl h128 (enters_of Tryz.func303 (by kernel_rfl) rfl)
  (Tryz.units1_it F (n -1) h128 hro (by omega) s hs ha (λk=>k=w.heap.size+5) (w.heap.size+5) rfl W0 (λ_ h=>by omega) hcs) (λ_ h=>by omega) (λ_=>rfl)
  (λk W=>GrL w.heap.size w W/\k<=i/\Bx W w.heap.size #[.int .i64 ((i:Int) - (k:Int))]/\Bx W (w.heap.size+1) #[.int .i32 0]/\Bx W (w.heap.size+2) #[.int .i64 0]/\Bx W (w.heap.size+3) #[.int .i64 0]/\Bx W (w.heap.size+4) #[.bool false])
  (λk W=>GrL w.heap.size w W/\k=i/\Bx W (w.heap.size+1) #[.int .i32 (R7 s i)]/\Bx W (w.heap.size+2) #[.int .i64 (i:Int)]/\Bx W (w.heap.size+3) #[.int .i64 1]/\Bx W (w.heap.size+4) #[.bool true])
  (λk A C hs hg0=>have hg:=hg0.toL;⟨hs.1.trans (hg.mono (by omega)),hs.2.1,hs.2.2.1.keep (hg.low _ (by omega)),hs.2.2.2.1.keep (hg.low _ (by omega)),hs.2.2.2.2.1.keep (hg.low _ (by omega)),hs.2.2.2.2.2.1.keep (hg.low _ (by omega)),hs.2.2.2.2.2.2.keep (hg.low _ (by omega))⟩)
  (λk A C hs hg0=>have hg:=hg0.toL;⟨hs.1.trans (hg.mono (by omega)),hs.2.1,hs.2.2.1.keep (hg.low _ (by omega)),hs.2.2.2.1.keep (hg.low _ (by omega)),hs.2.2.2.2.1.keep (hg.low _ (by omega)),hs.2.2.2.2.2.keep (hg.low _ (by omega))⟩)
  ⟨g0,Nat.zero_le _, .of (by simpa using b0), .of b1, .of b2, .of b3, .of b4⟩
  (λk a' W=>∃Br,W0.heap.size+2<=Br/\W.heap[Br]? =some (.cells #[.int .i32 (R7 s k), .int .i64 (k:Int), .int .i64 1] 307 (0,0))/\
    a'={ tmps:= #[.string s, .int .i64 (i:Int),undef, .pointer (some ⟨w.heap.size,0,none⟩), .pointer (some ⟨w.heap.size+1,0,none⟩), .pointer (some ⟨w.heap.size+1+1,0,none⟩), .pointer (some ⟨w.heap.size+1+1+1,0,none⟩), .pointer (some ⟨w.heap.size+1+1+1+1,0,none⟩), .pointer (some ⟨Br,0,none⟩), .string s, .func (.func 303) #[] #[.pointer (some ⟨w.heap.size+1+1+1+1+1,0,none⟩)], .agg #[.int .i32 (R7 s k), .int .i64 (k:Int), .int .i64 1],undef,undef,undef,undef,undef,undef,undef,undef,undef,undef],defers:=[] })
  (λa' k W o hlt hs=>by
    obtain⟨Br,q1,q2,q3⟩:=hs;exact⟨Br,q1,(World.putObj_heap_other (by omega)).trans q2,q3⟩)
  ?assign ?body ?done ?stop
 case assign=>
  rintro l k W hsz2 hl ⟨i1,ik,i2,i3,i4,i5,i6⟩ hk;rw[UH];generalize R7 s k=c
  gi_wp2
  exact⟨(KeepsOthers.alloc _ _).from _,KBt.alloc _ _ _ _,⟨i1.trans (GrL.alloc W i1.size _),ik,i2.keep (Below.heap_alloc _ _ _ (by omega)),i3.keep (Below.heap_alloc _ _ _ (by omega)),i4.keep (Below.heap_alloc _ _ _ (by omega)),i5.keep (Below.heap_alloc _ _ _ (by omega)),i6.keep (Below.heap_alloc _ _ _ (by omega))⟩,W.heap.size,by omega,World.alloc_heap_new W _,rfl⟩
 case body=>
  rintro l k a' W hsz2 hl ⟨i1,ik,i2,i3,i4,i5,i6⟩ ⟨Br,hBr,bR,rfl⟩ hk;obtain⟨rfl⟩:=hF;generalize hc:R7 s k=c at bR;obtain⟨B,hB⟩:∃B,B=w.heap.size:=⟨_,rfl⟩
  rw[<-hB]at i1 i2 i3 i4 i5 i6 hsz;obtain⟨H,hH⟩:∃H,H=gS [(3,Res.box B [.v (.int .i64 ((i:Int) - (k:Int)))]),(4, .box (B+1) [.v (.int .i32 0)]),(5, .box (B+2) [.v (.int .i64 0)]),(6, .box (B+3) [.v (.int .i64 0)]),(7, .box (B+4) [.v (.bool false)])] bS:=⟨_,rfl⟩
  have hown:∀b,bA H b->B<=b/\b<W0.heap.size/\ ¬b=B+5:=by
   rintro b ⟨j,r,hj,hb⟩;rw[hH]at hj;have hj:=eh hj;simp only[List.mem_cons,Prod.mk.injEq,List.not_mem_nil,or_false]at hj;rcases hj with⟨rfl,rfl⟩|⟨rfl,rfl⟩|⟨rfl,rfl⟩|⟨rfl,rfl⟩|⟨rfl,rfl⟩ <;>simp only[Res.blk,Option.some.injEq]at hb<;>omega
  have hst:St (M8 W H 22 []) (dR [.any, .any, .any, .bptr 3 B 0, .bptr 4 (B+1) 0, .bptr 5 (B+2) 0, .bptr 6 (B+3) 0, .bptr 7 (B+4) 0, .cptr [.v (.int .i32 c), .v (.int .i64 (k:Int)), .v (.int .i64 1)] 0]) H { tmps:= #[.string s, .int .i64 (i:Int),undef, .pointer (some ⟨w.heap.size,0,none⟩), .pointer (some ⟨w.heap.size+1,0,none⟩), .pointer (some ⟨w.heap.size+1+1,0,none⟩), .pointer (some ⟨w.heap.size+1+1+1,0,none⟩), .pointer (some ⟨w.heap.size+1+1+1+1,0,none⟩), .pointer (some ⟨Br,0,none⟩), .string s, .func (.func 303) #[] #[.pointer (some ⟨w.heap.size+1+1+1+1+1,0,none⟩)], .agg #[.int .i32 c, .int .i64 (k:Int), .int .i64 1],undef,undef,undef,undef,undef,undef,undef,undef,undef,undef],defers:=[] } W:=by
   refine qAj rfl ?_ ?_ ?_
   ·rw[hH];exact qkv (by omega)
   ·intro j r hj;rw[hH]at hj;have hj:=eh hj;simp only[List.mem_cons,Prod.mk.injEq,List.not_mem_nil,or_false]at hj;rcases hj with⟨rfl,rfl⟩|⟨rfl,rfl⟩|⟨rfl,rfl⟩|⟨rfl,rfl⟩|⟨rfl,rfl⟩
    ·exact i2.box1 rfl (.int _ _)
    ·exact i3.box1 rfl (.int _ _)
    ·exact i4.box1 rfl (.int _ _)
    ·exact i5.box1 rfl (.int _ _)
    ·exact i6.box1 rfl (.bool _)
   ·intro t;rw[<-hB];rcases t with _|_|_|_|_|_|_|_|_|t
    ·exact .any _
    ·exact .any _
    ·exact .any _
    ·exact .bptr 3 B 0
    ·exact .bptr 4 (B+1) 0
    ·exact .bptr 5 (B+2) 0
    ·exact .bptr 6 (B+3) 0
    ·exact .bptr 7 (B+4) 0
    ·have hbx:Bx W Br #[.int .i32 c, .int .i64 (k:Int), .int .i64 1]:= .of bR;exact Bx.cptr [.int .i32 c, .int .i64 (k:Int), .int .i64 1] hbx ⟨hbx.lt,λh=>h,λh=>h,λh=>by have:=hown Br h;omega⟩ (λx hx=>by
      simp only[List.mem_cons,List.not_mem_nil,or_false]at hx;rcases hx with rfl|rfl|rfl<;>exact⟨rfl, .int _ _⟩)
    ·exact .any _
  have hik:(i:Int)<=100000:=by omega
  have hv:vc qEe kX (λe _ H'=>match e with
   | .norm=>k<i/\H' 3=some (.box B [.v (.int .i64 ((i:Int) - (k:Int) -1))])/\H' 4=H 4/\H' 5=H 5/\H' 6=H 6/\H' 7=H 7
   | .ret=>k=i/\H' 4=some (.box (B+1) [.v (.int .i32 c)])/\H' 5=some (.box (B+2) [.v (.int .i64 (k:Int))])/\H' 6=some (.box (B+3) [.v (.int .i64 1)])/\H' 7=some (.box (B+4) [.v (.bool true)])
   | _=>False) (dR [.any, .any, .any, .bptr 3 B 0, .bptr 4 (B+1) 0, .bptr 5 (B+2) 0, .bptr 6 (B+3) 0, .bptr 7 (B+4) 0, .cptr [.v (.int .i32 c), .v (.int .i64 (k:Int)), .v (.int .i64 1)] 0]) H:=by
   rw[hH];by_cases hki:k=i
   ·subst hki;simp[kX,-fB',-eB']
   ·have hne:¬(i:Int) - (k:Int)=0:=by omega
    simp[kX,hne,-fB',-eB'];exact⟨by simp only[InR];omega,by omega⟩
  have hBk:∀b,bA H b->b<W0.heap.size/\ ¬(b=w.heap.size+5):=λb hb=>by have:=hown b hb;omega
  refine wpIn_mono (XD (S:=qEe) (im:=[2007007,2006006,2005005,2004004]) (λf=>XT _ f) mixed (cc:=kX) (by kernel_rfl) hst hv) ?_;rintro e a2 W2 he;cases e with
  | normal=>
    obtain⟨σ2,H2,hst2,hlt,e3,e4,e5,e6,e7⟩:=he;have hs2:=Nm hst2;have hg:=hs2.grL (B:=B) (λb hb=>(hown b hb).1) (by omega);refine⟨hs2.kf (λb hb=>(hBk b hb).1),hs2.kbt hBk,?_⟩;rw[<-hB];rw[hH]at e4 e5 e6 e7;refine⟨i1.trans hg,by omega,?_,AZ hst2 [_] e4,AZ hst2 [_] e5,AZ hst2 [_] e6,AZ hst2 [_] e7⟩;have:=AZ hst2 [_] e3;rwa [show(i:Int) - ((k+1:Nat):Int)=(i:Int) - (k:Int) -1 by omega]
  | ret=>
    obtain⟨σ2,H2,hst2,rfl,e4,e5,e6,e7⟩:=he;have hs2:=Nm hst2;have hg:=hs2.grL (B:=B) (λb hb=>(hown b hb).1) (by omega);refine⟨hs2.kf (λb hb=>(hBk b hb).1),?_⟩;rw[<-hB,hc];exact⟨i1.trans hg,rfl,AZ hst2 [_] e4,AZ hst2 [_] e5,AZ hst2 [_] e6,AZ hst2 [_] e7⟩
  |exit id=>obtain⟨_,_,_,h⟩:=he;exact h.elim
  |goto t=>exact he.elim
  |panic ch=>exact he.elim
  |outgrown=>exact he.elim
 case done=>
  rintro D W hD ⟨i1,ik,i2,⟨t3,i3⟩,⟨t4,i4⟩,⟨t5,i5⟩,⟨t6,i6⟩⟩ hK;have his:i=s.size:=by omega
  have q3:W.cell? ⟨w.heap.size+1,0,none⟩=some (.int .i32 0):=bY i3 rfl;have q4:W.cell? ⟨w.heap.size+1+1,0,none⟩=some (.int .i64 0):=bY i4 rfl;have q5:W.cell? ⟨w.heap.size+1+1+1,0,none⟩=some (.int .i64 0):=bY i5 rfl;have q6:W.cell? ⟨w.heap.size+1+1+1+1,0,none⟩=some (.bool false):=bY i6 rfl;have f3:W.frozen? ⟨w.heap.size+1,0,none⟩=false:=ua i3;have f4:W.frozen? ⟨w.heap.size+1+1,0,none⟩=false:=ua i4;have f5:W.frozen? ⟨w.heap.size+1+1+1,0,none⟩=false:=ua i5;have f6:W.frozen? ⟨w.heap.size+1+1+1+1,0,none⟩=false:=ua i6
  gi_wp2
  have g:=((((GrL.setCell (k:=0) (W:=W) (show w.heap.size<=w.heap.size+1 by omega) (.int .i32 0)).trans (GrL.setCell (k:=0) (show w.heap.size<=w.heap.size+1+1 by omega) (.int .i64 0))).trans (GrL.setCell (k:=0) (show w.heap.size<=w.heap.size+1+1+1 by omega) (.int .i64 0))).trans (GrL.setCell (k:=0) (show w.heap.size<=w.heap.size+1+1+1+1 by omega) (.bool false)))
  have k4:∀(X:World) (b:Nat) (x:Value),b≠w.heap.size+4->(X.setCell ⟨w.heap.size+1+1+1+1,0,none⟩ x).heap[b]? =X.heap[b]?:=λX b x h=>Below.heap_setCell _ _ _ _ (by show b≠w.heap.size+1+1+1+1;omega)
  have k3:∀(X:World) (b:Nat) (x:Value),b≠w.heap.size+3->(X.setCell ⟨w.heap.size+1+1+1,0,none⟩ x).heap[b]? =X.heap[b]?:=λX b x h=>Below.heap_setCell _ _ _ _ (by show b≠w.heap.size+1+1+1;omega)
  have k2:∀(X:World) (b:Nat) (x:Value),b≠w.heap.size+2->(X.setCell ⟨w.heap.size+1+1,0,none⟩ x).heap[b]? =X.heap[b]?:=λX b x h=>Below.heap_setCell _ _ _ _ (by show b≠w.heap.size+1+1;omega)
  have k1:∀(X:World) (b:Nat) (x:Value),b≠w.heap.size+1->(X.setCell ⟨w.heap.size+1,0,none⟩ x).heap[b]? =X.heap[b]?:=λX b x h=>Below.heap_setCell _ _ _ _ h
  refine qmp (D:=D) (by omega) (.of (((k4 _ _ _ (by omega)).trans ((k3 _ _ _ (by omega)).trans (k2 _ _ _ (by omega)))).trans (tB i3))) (.of (((k4 _ _ _ (by omega)).trans (k3 _ _ _ (by omega))).trans (tB ((k1 _ _ _ (by omega)).trans i4)))) (.of ((k4 _ _ _ (by omega)).trans (tB ((k2 _ _ _ (by omega)).trans ((k1 _ _ _ (by omega)).trans i5))))) (.of (tB ((k3 _ _ _ (by omega)).trans ((k2 _ _ _ (by omega)).trans ((k1 _ _ _ (by omega)).trans i6)))))
   ((k4 _ _ _ (by omega)).trans ((k3 _ _ _ (by omega)).trans ((k2 _ _ _ (by omega)).trans ((k1 _ _ _ (by omega)).trans hK)))) (i1.trans g) rfl rfl rfl rfl ?_
  intro V' hg';refine⟨?_,hg'⟩;unfold qwf;rw[if_neg (by omega)]
 case stop=>
  rintro D k W hD hk ⟨i1,rfl,⟨t3,i3⟩,⟨t4,i4⟩,⟨t5,i5⟩,⟨t6,i6⟩⟩ hK
  gi_wp2
  refine qmp (D:=D) (by omega) (.of i3) (.of i4) (.of i5) (.of i6) hK i1 rfl rfl rfl rfl ?_;intro V' hg';refine⟨?_,hg'⟩;unfold qwf;rw[if_pos hk]
end Go.Proofs
namespace Go.Gv
section
open Go.Proofs Go.RowKit
open Cod (enc dec)
variable {dq:Prop}
def qlE{s:B}(h:Cq s=true):∀(k:Nat) (hk:k<s.size),(s[k]'hk).toNat< 128:=λk hk=>by
 have hl:k<s.data.toList.length:=by rw[qGr];exact hk
 have:=qFN.1 h _ (qG6 hl);have h2:s.data[k].toNat< 128:=by simpa using this
 exact h2
def GrL.below{w w':World}(h:GrL w.heap.size w w'):Below w.heap.size w w':=⟨h.os,h.tape,h.output,h.size,h.low⟩
def Sh:Tri dq Tryz.prog rf s_cpVal.pt:=by
 refine vS (fu Tryz.func239 (by kernel_rfl) rfl) λtp I w vs s hp hI hl b=>?_
 obtain⟨d,h⟩:=hp;have a:(a1 B).view s=[.v (.string s)]:=rfl;rw[a]at hl b
 match vs,hl with
 | [j],_=>
   have k:=HR (b 0 j _ rfl rfl);subst k;refine(callsIn_wide (n:=10)).1 ((Tryz.Valid_in Fence.wide 10 trivial trivial trivial trivial rfl (by omega) s (by omega) (qlE d) w).mono ?_);rintro e w' ⟨rfl,c⟩;exact⟨_,true,rfl,rfl,λl p=> .bool _,c.below,c.drawn⟩
def qsB(s:B)(i:Nat):(qmw s (i:Int)=(⟨R7 s i⟩,(i:Int),1,true)/\i<s.size)\/(qmw s (i:Int)=(⟨0⟩,0,0,false)/\ ¬i<s.size):=by
 by_cases h:i<s.size
 ·left;obtain⟨c,hc⟩:∃c,s.data[i]? =some c:=⟨s.data[i]'h,qGj h⟩
  refine⟨?_,h⟩;have e:s.data.toList[i]? =some c:=by rw[qF4];exact hc
  simp[qmw,hc,R7,e]
 ·right;refine⟨?_,h⟩;have:s.data[i]? =none:=qGN (by have:s.size=s.data.size:=rfl;omega);simp[qmw,this]
def R4{tp I:Nat->Prop}{w:World}{a b c d:Value}{l b' c' p:D}(h1:R tp I w a l)(h2:R tp I w b b')(h3:R tp I w c c')(h4:R tp I w d p):R tp I w (.tuple #[a,b,c,d]) (.tup [l,b',c',p]):=
 R.tup [a,b,c,d] [l,b',c',p] rfl λk x y h j=>by
  rcases k with _|_|_|_|k
  ·cases h;cases j;exact h1
  ·cases h;cases j;exact h2
  ·cases h;cases j;exact h3
  ·cases h;cases j;exact h4
  ·cases h
theorem qqH:Tri dq Tryz.prog Eo s_cpAt.pt:=by
 refine vS (fu Tryz.func252 (by kernel_rfl) rfl) λtp I w vs x hp hI hl c=>?_
 obtain⟨s,i⟩:=x;obtain⟨d,h,h0,h1⟩:=hp;simp only at d h h0 h1;have a:(a2 B Int).view (s,i)=[.v (.string s), .v (.int .i64 i)]:=rfl;rw[a]at hl c
 match vs,hl with
 | [l,v1],_=>
   have p:=HR (c 0 l _ rfl rfl);have q:=HR (c 1 v1 _ rfl rfl);subst p q;obtain⟨j,rfl⟩:∃j:Nat,i=(j:Int):=⟨i.toNat,by omega⟩
   refine(callsIn_wide (n:=10)).1 ((Tryz.At_in Fence.wide ⟨rfl⟩ 10 trivial trivial trivial rfl (by omega) s (by omega) (qlE h) j (by omega) w).mono ?_);rintro e w' ⟨rfl,k⟩;refine⟨_,qmw s j,rfl,rfl,λr t=>?_,k.below,k.drawn⟩;rcases qsB s j with⟨e,b⟩|⟨e,b⟩
   ·rw[e];unfold qwf;rw[if_pos b];exact R4 (.int _ _) (.int _ _) (.int _ _) (.bool _)
   ·rw[e];unfold qwf;rw[if_neg b];exact R4 (.int _ _) (.int _ _) (.int _ _) (.bool _)
end
section
open Cod (enc dec)
variable {S S0:Nat->Spc}
abbrev Nt:Spc:=aG (a1 I32) (λc=>0<=c.val/\c.val< 128) (enc (X:=I32)) λc y=>y=⟨low c.val⟩
theorem HL:ak fZ fS S (a1 I32) (λc=>0<=c.val/\c.val< 128) (enc (X:=I32)) λc y=>y=⟨low c.val⟩:=by
 rintro⟨c⟩ ⟨h0,h1⟩;simp only at h0 h1;have d:¬(192:Int)<=c:=by omega
 have j:¬(913:Int)<=c:=by omega
 have k:¬(1040:Int)<=c:=by omega
 have l:¬(1024:Int)<=c:=by omega
 by_cases a:(65:Int)<=c
 ·by_cases b:c<=90
  ·have e:low c=c+32:=by unfold low;rw[if_pos ⟨a,b⟩]
   simp[fZ,fS,a,b,e,-fB',-eB'];exact⟨by simp only[InR];omega,aL (⟨c+32⟩:I32) (.same _) rfl⟩
  ·have e:low c=c:=by unfold low;rw[if_neg (λh=>b h.2)]
   simp[fZ,fS,a,b,d,j,k,l,e,-fB',-eB'];exact aL (⟨c⟩:I32) (.same _) rfl
 ·have e:low c=c:=by unfold low;rw[if_neg (λh=>a h.1)]
  simp[fZ,fS,a,d,j,k,l,e,-fB',-eB'];exact aL (⟨c⟩:I32) (.same _) rfl
end
end Go.Gv
namespace Go.Proofs
open Go.RowKit Go.Shelf Go.Gv
variable {dq:Prop}
attribute [local go_sem] Oper.semAt_some
def VQ:Value->D->Prop:=λx d=>∃n:Int,x= .int .u8 n/\d= .v (.int .u8 n)
def qcM(l:List Int):List D:=l.map λn=> .v (.int .u8 n)
def qax:∀l:List Int,bp (qcM l)=qcM l
  | []=>rfl
  | b::l=>by
    have ih:=qax l;simp_all [qcM,bp]
def qek(c:Int)(k:Nat):List Int:=if k=0 then[]else[low c]
def qwD(B Z:Nat)(v:Value):Prop:=∀b,v.ownBlock=some b->B<b/\b≠B+2/\b≠B+3/\(b<Z\/Z+4<=b)
def V0(B k:Nat)(v:Value):Prop:=k=0->v= .slice (some ⟨B+1,0,none⟩) 0 1
structure qwx (s:ByteArray) (c:Int):Prop where
  e:s=mz c
def RowB(W:World)(v:Value)(l:List Int):Prop:=ResOk VQ W (.row v tQ 1 (qcM l))
def VQ.R{tp I:Nat->Prop}{w:World}{x:Value}{d:D}(h:VQ x d):R tp I w x d:=by
  obtain⟨n,rfl,rfl⟩:=h;exact .int _ _
def RowB.keep{W W':World}{v:Value}{l:List Int}(h:RowB W v l)(hb:∀b,v.ownBlock=some b->W'.heap[b]? =W.heap[b]?):RowB W' v l:=h.conv (λ_ _ h=>h) hb
def RowB.res{tp I:Nat->Prop}{W:World}{v:Value}{l:List Int}(h:RowB W v l):ResOk (R tp I W) W (.row v tQ 1 (qcM l)):=h.conv (λ_ _ h=>h.R) (λ_ _=>rfl)
def qiZ{tp I:Nat->Prop}{W:World}{v:Value}{l:List Int}(h:ResOk (R tp I W) W (.row v tQ 1 (qcM l))):RowB W v l:=by
  obtain⟨xs,h1,h2,h3⟩:=h;refine⟨xs,h1,h2,λk y c hy hc=>⟨(h3 k y c hy hc).1,?_⟩⟩;have hfl:=qax l;have hc2:=hc;rw[hfl]at hc2;unfold qcM at hc2;rw[List.getElem?_map]at hc2;obtain⟨n,_,rfl⟩:=Option.map_eq_some_iff.1 hc2;exact⟨n,(h3 k y _ hy hc).2.inv_v,rfl⟩
theorem RowB.blk{W:World}{v:Value}{l:List Int}(h:RowB W v l){b:Nat}(hb:v.ownBlock=some b):∃xs el,W.heap[b]? =some (.cells xs el (0,0)):=by
  obtain⟨xs,h1,_⟩:=h;rcases h1.2 with⟨rfl,_⟩|⟨g,cap,cur,rfl,_,hg,_⟩
  · cases hb
  · cases hb;grind
theorem RowB.one{W:World}{v:Value}{l:List Int}(h:RowB W v l):v.oneCell'=true:=by
  obtain⟨xs,h1,_⟩:=h;rcases h1.2 with⟨rfl,_⟩|⟨g,cap,cur,rfl,_⟩ <;>rfl
def X9{c:Int}(h0:0<=c)(h1:c< 128):Kl (mz c)=qcM [c]:=by
  have e:(c.toNat.toUInt8).toNat=c.toNat % 256:=UInt8.toNat_ofNat' ..;have e2:((c.toNat.toUInt8).toNat:Int)=c:=by omega
  show[D.v (.int .u8 ((c.toNat.toUInt8).toNat:Int))]=[D.v (.int .u8 c)]
  rw[e2]
def Ll:CC:= .seq (.reg [oC 34 1 3,oB 35 (.bstr (oT 34)),oA 2 35]) .ret
set_option maxRecDepth 100000 in
set_option maxHeartbeats 4000000 in
theorem Tryz.Fold_in{S:Nat->Spc}(hS:∀f,Tri True Tryz.prog f (S f).pt)(hlo:S fq=Nt)(F:Fence)(hF:qE0 F)(n:Nat)(h105:F.fn 293)(h95:F.fn 280)(h128:F.fn 303)(hro:F.round=none)(hn:10<=n)(c:Int)(c0:0<=c)(c1:c< 128)(w:World):
    CallsIn F n Tryz.prog 293 #[.string (mz c)] w λe W'=>e= .returned (.string (mz (low c)))/\GrL w.heap.size w W':=by
  have h1:1<=n:=by omega
  refine callsIn_of_wp_marks Tryz.func293 rfl h105 ?_ hro;simp only[Tryz.ntmps293,List.size_toArray,List.length_cons,List.length_nil,Nat.reduceAdd,Nat.reduceSub,Array.replicate_succ,Array.replicate_zero,List.push_toArray,List.append_toArray,List.nil_append,List.cons_append];obtain⟨s,hs0⟩:∃s:ByteArray,s=mz c:=⟨_,rfl⟩
  have hs:qwx s c:=⟨hs0⟩
  have hsz:s.size=1:=by rw[hs0];rfl
  have hmk:∀w,(Instr.makeSlice 329 (.int .i64 0) (.int .i64 1)).run Tryz.prog w= .ok (.slice (some ⟨w.heap.size,0,none⟩) 0 1) (w.alloc (.cells #[.int .u8 0] 5)):=λ_=>by kernel_rfl
  have hsl:(s.size:Int)=1:=by omega
  rw[<-hs0];clear hs0
  gi_wp2_with (gi_at_call 280;refine(Tryz.units_in F (n -1) h95 hro _ _).mono ?_;rintro e w' ⟨rfl,rfl⟩)
  obtain⟨B,hB⟩:∃B,B=w.heap.size:=⟨_,rfl⟩
  obtain⟨W0,hW0⟩:∃W0,(((w.alloc (.cells #[.string s] 9)).alloc (.cells #[.int .u8 0] 5)).alloc (.cells #[.slice (some ⟨w.heap.size+1,0,none⟩) 0 1] 329)).alloc (.cells #[.string s] aw)=W0:=⟨_,rfl⟩
  rw[hW0];have hsz0:W0.heap.size=w.heap.size+4:=by rw[<-hW0];simp
  have g0:GrL w.heap.size w W0:=by
    rw[<-hW0];exact(((GrL.alloc w (Nat.le_refl _) _).trans (GrL.alloc _ (by simp) _)).trans (GrL.alloc _ (by simp;omega) _)).trans (GrL.alloc _ (by simp;omega) _)
  have B0:∀W:World,∀o:Obj,(W.alloc o).heap[W.heap.size]? =some o:=λW o=>World.alloc_heap_new W o
  have b3:W0.heap[w.heap.size+3]? =some (.cells #[.string s] aw (0,0)):=by
    grind
  have b0:W0.heap[w.heap.size]? =some (.cells #[.string s] 9 (0,0)):=by
    grind [Tri,Spc,Below.heap_alloc]
  have b1:W0.heap[w.heap.size+1]? =some (.cells #[.int .u8 0] 5 (0,0)):=by
    rw[<-hW0];have h:=B0 (w.alloc (.cells #[.string s] 9)) (.cells #[.int .u8 0] 5);rw[show(w.alloc (.cells #[.string s] 9)).heap.size=w.heap.size+1 by simp]at h;exact(Below.heap_alloc _ _ _ (by first|(simp;done)|(simp;omega))).trans ((Below.heap_alloc _ _ _ (by first|(simp;done)|(simp;omega))).trans h)
  have b2:W0.heap[w.heap.size+2]? =some (.cells #[.slice (some ⟨w.heap.size+1,0,none⟩) 0 1] 329 (0,0)):=by
    rw[<-hW0];have h:=B0 ((w.alloc (.cells #[.string s] 9)).alloc (.cells #[.int .u8 0] 5)) (.cells #[.slice (some ⟨w.heap.size+1,0,none⟩) 0 1] 329);rw[show((w.alloc (.cells #[.string s] 9)).alloc (.cells #[.int .u8 0] 5)).heap.size=w.heap.size+2 by simp]at h;exact(Below.heap_alloc _ _ _ (by first|(simp;done)|(simp;omega))).trans h
  clear hW0 B0;have ha:∀(k:Nat) (h:k<s.size),(s[k]'h).toNat< 128:=λk h=>by
    have hk0:k=0:=by omega
    subst hk0;obtain⟨rfl⟩:=hs;show(c.toNat.toUInt8).toNat< 128;have e:(c.toNat.toUInt8).toNat=c.toNat % 256:=UInt8.toNat_ofNat' ..;omega
  have hcA:R7 s 0=c:=by
    obtain⟨rfl⟩:=hs;show((c.toNat.toUInt8).toNat:Int)=c;have e:(c.toNat.toUInt8).toNat=c.toNat % 256:=UInt8.toNat_ofNat' ..;omega
  have hrow0:RowB W0 (.slice (some ⟨w.heap.size+1,0,none⟩) 0 1) []:=⟨[],⟨rfl, .inr ⟨w.heap.size+1,1, #[.int .u8 0],rfl,Nat.zero_le _,b1,Nat.zero_le _,by decide,rfl,rfl⟩⟩,by simp[qcM],λk y c hy=>by simp at hy⟩
  have hfar0:qwD w.heap.size W0.heap.size (.slice (some ⟨w.heap.size+1,0,none⟩) 0 1):=λb hb=>by
    have hbe:b=w.heap.size+1:=by cases hb;rfl
    omega
  have hcs:W0.cell? ⟨w.heap.size+3,0,none⟩=some (.string s):=bY b3 rfl;refine Vb hro h1 (gf:=303) (lb:= #[.pointer (some ⟨w.heap.size+3,0,none⟩)]) rfl h128 (enters_of Tryz.func303 (by kernel_rfl) rfl)
    (Tryz.units1_it F (n -1) h128 hro (by omega) s (by omega) ha (λk=>k=w.heap.size+3) (w.heap.size+3) rfl W0 (λ_ h=>by omega) hcs) (λ_ h=>by omega) (λ_=>rfl)
    (λk W=>GrL w.heap.size w W/\Bx W w.heap.size #[.string s]/\∃v,Bx W (w.heap.size+2) #[v]/\RowB W v (qek c k)/\qwD w.heap.size W0.heap.size v/\V0 w.heap.size k v)
    (λ_ _=>False)
    (λk A C hs hg0=>by
      have hg:=hg0.toL;obtain⟨i1,i2,v,i3,i4,i5,i6⟩:=hs;exact⟨i1.trans (hg.mono (by omega)),i2.keep (hg.low _ (by omega)),v,i3.keep (hg.low _ (by omega)),i4.keep (λb hb=>by
        obtain⟨xs,el,hx⟩:=i4.blk hb;exact(hg0.get hx (i5 b hb).2.2.2).trans hx.symm),i5,i6⟩)
    (λ_ _ _ hs _=>hs)
    ⟨g0, .of b0,_, .of b2,hrow0,hfar0,λ_=>rfl⟩
    (λk a' W=>∃Br,W0.heap.size+4<=Br/\W.heap[Br]? =some (.cells #[.int .i32 (R7 s k), .int .i64 (k:Int), .int .i64 1] 307 (0,0))/\(∀v,W.cell? ⟨w.heap.size+2,0,none⟩=some v->v.ownBlock≠some Br)/\
      a'={ tmps:= #[.string s, .pointer (some ⟨w.heap.size,0,none⟩), .string { data:= #[] }, .pointer (some ⟨w.heap.size+1+1,0,none⟩), .pointer (some ⟨Br,0,none⟩),undef, .string s, .int .i64 1, .slice (some ⟨w.heap.size+1,0,none⟩) 0 1, .string s, .func (.func 303) #[] #[.pointer (some ⟨w.heap.size+1+1+1,0,none⟩)], .agg #[.int .i32 (R7 s k), .int .i64 (k:Int), .int .i64 1],undef,undef,undef,undef,undef,undef,undef,undef,undef,undef,undef,undef,undef,undef,undef,undef,undef,undef,undef,undef,undef,undef,undef,undef],defers:=[] })
    (λa' k W o hlt hs=>by
      obtain⟨Br,q1,q2,q3,q4⟩:=hs;refine⟨Br,q1,(World.putObj_heap_other (by omega)).trans q2,λv hv=>q3 v ?_,q4⟩;rw[World.cell?_of_block (World.putObj_heap_other (by show w.heap.size+2≠W0.heap.size+1;omega))]at hv;exact hv)
    ?assign ?body ?done ?stop
  case assign=>
    rintro l k W hsz2 hl ⟨i1,i2,v,i3,i4,i5,i6⟩ hk;rw[UH];generalize R7 s k=c
    gi_wp2
    refine⟨(KeepsOthers.alloc _ _).from _,KBt.alloc _ _ _ _,⟨i1.trans (GrL.alloc W i1.size _),i2.keep (Below.heap_alloc _ _ _ (by omega)),v,i3.keep (Below.heap_alloc _ _ _ (by omega)),i4.keep (λb hb=>by
      obtain⟨xs,el,hx⟩:=i4.blk hb;exact Below.heap_alloc _ _ _ (Array.getElem?_eq_some_iff.1 hx).1),i5,i6⟩,W.heap.size,by omega,World.alloc_heap_new W _,λv' hv' hb=>?_,rfl⟩
    have hcv:=(i3.keep (Below.heap_alloc W (.cells #[.int .i32 c, .int .i64 (k:Int), .int .i64 1] 307) _ (by omega))).cell (k:=0) rfl;rw[hcv]at hv';cases hv';obtain⟨xs,el,hx⟩:=i4.blk hb;have:=(Array.getElem?_eq_some_iff.1 hx).1;omega
  case body=>
    rintro l k a' W hsz2 hl ⟨i1,i2,v,i3,i4,i5,i6⟩ ⟨Br,hBr,bR,hnb,rfl⟩ hk;obtain⟨rfl⟩:=hF;obtain rfl:k=0:=by omega
    rw[hcA]at bR;have hnb:=hnb v (i3.cell rfl);rw[<-hB]at i1 i2 i3 i5 i6 hsz0;have hz0:=i1.size;obtain⟨H,hH⟩:∃H,H=gS [(3,Res.box (B+2) [.own 33 v]),(33, .row v tQ 1 (qcM (qek c 0)))] bS:=⟨_,rfl⟩
    have hown:∀b,bA H b->B<=b/\ ¬b=B+3/\ ¬b=B/\b≠Br:=by
      rintro b ⟨j,r,hj,hb⟩;rw[hH]at hj;have hj:=eh hj;simp only[List.mem_cons,Prod.mk.injEq,List.not_mem_nil,or_false]at hj;rcases hj with⟨rfl,rfl⟩|⟨rfl,rfl⟩
      · simp only[Res.blk,Option.some.injEq]at hb;omega
      · have hb:v.ownBlock=some b:=hb
        have:=i5 b hb;exact⟨by omega,by omega,by omega,λe=>hnb (e ▸hb)⟩
    have hst:St (M8 W H 36 []) (dR [.any, .cptr [.v (.string s)] 0, .any, .bptr 3 (B+2) 0, .cptr [.v (.int .i32 c), .v (.int .i64 ((0:Nat):Int)), .v (.int .i64 1)] 0]) H { tmps:= #[.string s, .pointer (some ⟨w.heap.size,0,none⟩), .string { data:= #[] }, .pointer (some ⟨w.heap.size+1+1,0,none⟩), .pointer (some ⟨Br,0,none⟩),undef, .string s, .int .i64 1, .slice (some ⟨w.heap.size+1,0,none⟩) 0 1, .string s, .func (.func 303) #[] #[.pointer (some ⟨w.heap.size+1+1+1,0,none⟩)], .agg #[.int .i32 (R7 s 0), .int .i64 ((0:Nat):Int), .int .i64 1],undef,undef,undef,undef,undef,undef,undef,undef,undef,undef,undef,undef,undef,undef,undef,undef,undef,undef,undef,undef,undef,undef,undef,undef],defers:=[] } W:=by
      refine qAj rfl ?_ ?_ ?_
      · intro i j r1 r2 b hi hj e1 e2
        rw[hH]at hi hj;have hi:=eh hi;have hj:=eh hj;simp only[List.mem_cons,Prod.mk.injEq,List.not_mem_nil,or_false]at hi hj;rcases hi with⟨rfl,rfl⟩|⟨rfl,rfl⟩ <;>rcases hj with⟨rfl,rfl⟩|⟨rfl,rfl⟩
        · rfl
        · cases e1
          exact absurd rfl (i5 _ e2).2.1
        · cases e2
          exact absurd rfl (i5 _ e1).2.1
        · rfl
      · intro j r hj
        rw[hH]at hj;have hj:=eh hj;simp only[List.mem_cons,Prod.mk.injEq,List.not_mem_nil,or_false]at hj;rcases hj with⟨rfl,rfl⟩|⟨rfl,rfl⟩
        · obtain⟨el,h3⟩:=i3
          refine⟨#[v],el,h3,rfl,λk y d hy hd=>?_⟩;rcases k with _|k
          · cases hy;cases hd
            exact⟨i4.one, .own 33 v i4.one⟩
          · cases hd
        · exact i4.res
      · intro t
        rw[<-hB];rcases t with _|_|_|_|_|t
        · exact .any _
        · exact Bx.cptr [.string s] i2 ⟨i2.lt,λh=>h,λh=>h,λh=>(hown B h).2.2.1 rfl⟩ (λx hx=>by rw[List.mem_singleton.1 hx];exact⟨rfl, .str s (by rw[hsz];decide)⟩)
        · exact .any _
        · exact .bptr 3 (B+2) 0
        · have hbx:Bx W Br #[.int .i32 c, .int .i64 ((0:Nat):Int), .int .i64 1]:= .of bR
          exact Bx.cptr [.int .i32 c, .int .i64 ((0:Nat):Int), .int .i64 1] hbx ⟨hbx.lt,λh=>h,λh=>h,λh=>(hown Br h).2.2.2 rfl⟩ (λx hx=>by
            simp only[List.mem_cons,List.not_mem_nil,or_false]at hx;rcases hx with rfl|rfl|rfl<;>exact⟨rfl, .int _ _⟩)
        · exact .any _
    have hv:vc S iu (λe _ H'=>match e with
        | .norm=>∃v',H' 3=some (.box (B+2) [.own 33 v'])/\H' 33=some (.row v' tQ 1 (qcM [low c]))
        | _=>False) (dR [.any, .cptr [.v (.string s)] 0, .any, .bptr 3 (B+2) 0, .cptr [.v (.int .i32 c), .v (.int .i64 ((0:Nat):Int)), .v (.int .i64 1)] 0]) H:=by
      rw[hH];have hd1:Kl (mz c)=qcM [c]:=X9 c0 c1;by_cases hlc:low c=c
      · simp[iu,hlo,c0,c1,hlc,qek,hsz,-fB',-eB']
        have hex:s.extract 0 1=mz c:=by
          obtain⟨rfl⟩:=hs;rfl
        rw[hex,hd1];exact⟨by simp only[InR];omega,Nat.le_of_ble_eq_true rfl,rfl⟩
      · simp[iu,hlo,c0,c1,hlc,qek,hsz,-fB',-eB']
        obtain⟨l0,l1⟩:=VJ c0 c1;rw[Wl l0 l1,X9 l0 l1];exact⟨Nat.le_of_ble_eq_true rfl,rfl⟩
    refine wpIn_mono (XD (im:=[2003003]) hS mixed (cc:=iu) (by kernel_rfl) hst hv) ?_;rintro e a2 W2 he;cases e with
    | normal=>
      obtain⟨σ2,H2,hst2,v',e3,e33⟩:=he;have hs2:=Nm hst2;have hg:=hs2.grL (B:=B) (λb hb=>(hown b hb).1) (by omega);have hownW:∀b,bA H b->b<W.heap.size:=by
        rintro b ⟨j,r,hj,hb⟩;obtain⟨_,_,tp,hw,_⟩:=hst;exact(hw.sat.ok j r hj).lt hb
      refine⟨⟨hs2.size,λk o hk hko hc=>?_⟩,⟨hs2.size,λk hk hs=>?_⟩,?_⟩
      · by_cases ho:bA H k
        · obtain⟨_,_,tp,hw,_⟩:=hst
          obtain⟨j,r,hj,hb⟩:=ho;have hok:=hw.sat.ok j r hj;rw[hH]at hj;have hj:=eh hj;simp only[List.mem_cons,Prod.mk.injEq,List.not_mem_nil,or_false]at hj;rcases hj with⟨rfl,rfl⟩|⟨rfl,rfl⟩
          · cases hb
            obtain⟨el,h3⟩:=i3;rw[h3]at hko;cases hko;cases hc
          · obtain⟨xs,el,hx⟩:=i4.blk hb
            rw[hx]at hko;cases hko;cases hc
        · exact(hs2.same k (Array.getElem?_eq_some_iff.1 hko).1 ho (λh=>h)).trans hko
      · refine hs2.same k hk (λho=>?_) (λh=>h)
        obtain⟨j,r,hj,hb⟩:=ho;rw[hH]at hj;have hj:=eh hj;simp only[List.mem_cons,Prod.mk.injEq,List.not_mem_nil,or_false]at hj;rcases hj with⟨rfl,rfl⟩|⟨rfl,rfl⟩
        · cases hb;omega
        · have hv0:=i6 rfl
          subst hv0;have hkb:k=B+1:=(Option.some.inj hb).symm;rcases hs with hs|hs<;>omega
      · rw[<-hB]
        refine⟨i1.trans hg,i2.keep (hs2.same B i2.lt (λho=>(hown B ho).2.2.1 rfl) (λh=>h)),v',qqO hst2 e3,?_,λb hb=>?_,λh=>by omega⟩
        · obtain⟨tp,I,hok⟩:=qhW hst2 e33
          exact qiZ hok
        · have hne:b≠B+2:=λe=>by
            subst e;have:=qqQ hst2 e3 e33 rfl hb;omega
          rcases qqP hst2 ⟨33,_,e33,hb⟩with ho|ho
          · obtain⟨j,r,hj,hb2⟩:=ho
            rw[hH]at hj;have hj:=eh hj;simp only[List.mem_cons,Prod.mk.injEq,List.not_mem_nil,or_false]at hj;rcases hj with⟨rfl,rfl⟩|⟨rfl,rfl⟩
            · cases hb2;exact absurd rfl hne
            · exact i5 b hb2
          · omega
    |ret=>obtain⟨_,_,_,h⟩:=he;exact h.elim
    |exit id=>obtain⟨_,_,_,h⟩:=he;exact h.elim
    |goto t=>exact he.elim
    |panic ch=>exact he.elim
    |outgrown=>exact he.elim
  case done=>
    rintro D W hD ⟨i1,i2,v,i3,i4,i5,i6⟩ hK;rename_i Qd Kd hKd;refine hKd _ _ ?_;obtain⟨rfl⟩:=hF;refine wpIn_wide.2 ?_;rw[show s.size=1 from hsz]at i4;rw[<-hB]at i1 i2 i3 i5 hsz0;have hz0:=i1.size;obtain⟨H,hH⟩:∃H,H=gS [(3,Res.box (B+2) [.own 33 v]),(33, .row v tQ 1 (qcM [low c]))] bS:=⟨_,rfl⟩
    have hown:∀b,bA H b->B<=b/\b≠D:=by
      rintro b ⟨j,r,hj,hb⟩;rw[hH]at hj;have hj:=eh hj;simp only[List.mem_cons,Prod.mk.injEq,List.not_mem_nil,or_false]at hj;rcases hj with⟨rfl,rfl⟩|⟨rfl,rfl⟩
      · simp only[Res.blk,Option.some.injEq]at hb;omega
      · have hb:v.ownBlock=some b:=hb
        have:=i5 b hb;refine⟨by omega,λe=>?_⟩;obtain⟨xs,el,hx⟩:=i4.blk hb;rw[e,hK]at hx;cases hx
    have hst:∀ (tmps:Array Value) (ds:List Deferred),tmps.getD 3 undef= .pointer (some ⟨B+2,0,none⟩)->St (M8 W H tmps.size ds) (dR [.any, .any, .any, .bptr 3 (B+2) 0]) H { tmps:=tmps,defers:=ds } W:=by
      intro tmps ds ht;refine qAj rfl ?_ ?_ ?_
      · intro i j r1 r2 b hi hj e1 e2
        rw[hH]at hi hj;have hi:=eh hi;have hj:=eh hj;simp only[List.mem_cons,Prod.mk.injEq,List.not_mem_nil,or_false]at hi hj;rcases hi with⟨rfl,rfl⟩|⟨rfl,rfl⟩ <;>rcases hj with⟨rfl,rfl⟩|⟨rfl,rfl⟩
        · rfl
        · cases e1
          exact absurd rfl (i5 _ e2).2.1
        · cases e2
          exact absurd rfl (i5 _ e1).2.1
        · rfl
      · intro j r hj
        rw[hH]at hj;have hj:=eh hj;simp only[List.mem_cons,Prod.mk.injEq,List.not_mem_nil,or_false]at hj;rcases hj with⟨rfl,rfl⟩|⟨rfl,rfl⟩
        · obtain⟨el,h3⟩:=i3
          refine⟨#[v],el,h3,rfl,λk y d hy hd=>?_⟩;rcases k with _|k
          · cases hy;cases hd
            exact⟨i4.one, .own 33 v i4.one⟩
          · cases hd
        · exact i4.res
      · intro t
        rcases t with _|_|_|_|t
        · exact .any _
        · exact .any _
        · exact .any _
        · show R _ _ _ (tmps.getD 3 undef) _
          rw[ht];exact .bptr 3 (B+2) 0
        · exact .any _
    have hbs:qsu (qcM [low c])=mz (low c):=rfl;have hbl:qpT (qcM [low c])=true:=rfl;have hv:vc S Ll (λe σ' _=>match e with
        | .ret=>σ' 2= .v (.string (mz (low c)))
        | _=>False) (dR [.any, .any, .any, .bptr 3 (B+2) 0]) H:=by
      rw[hH];simp[Ll,-fB',-eB'];exact⟨hbl,hbs⟩
    refine Code.wp_mono ?_ (Ae (im:=[]) hS mixed Ll _ (by kernel_rfl) _ _ _ _ _ (hst _ _ (by rw[hB];rfl)) hv);rintro e a2 W2 he;cases e with
    | ret=>
      obtain⟨σ2,H2,hst2,e2⟩:=he;have hs2:=Nm hst2;have hg:=hs2.grL (B:=B) (λb hb=>(hown b hb).1) (by omega);have hv2:=qqN hst2 e2;have hK2:W2.heap[D]? =some (.deferred (some [])):=(hs2.same D (Array.getElem?_eq_some_iff.1 hK).1 (λho=>(hown D ho).2 rfl) (λh=>h)).trans hK;have hds:=(qul hst2).1;have hg2:=i1.trans hg;clear hst2 hs2;obtain⟨tmps2,ds2⟩:=a2;simp only at hds hv2;subst hds;refine⟨by simp, .inl ⟨_,_,rfl,run_takeDeferred hK2,?_⟩⟩;have hres:(results Tryz.f293 tmps2).run Tryz.prog (W2.putObj D (.deferred none))= .ok (.string (mz (low c))) (W2.putObj D (.deferred none)):=by
        simp[results,Tryz.f293,go_sem];simpa using hv2
      rw[hB]at hg2;exact⟨_,hres,rfl,hg2.trans (GrL.put _ (by omega) _)⟩
    |normal=>obtain⟨_,_,_,h⟩:=he;exact h.elim
    |exit id=>obtain⟨_,_,_,h⟩:=he;exact h.elim
    |goto t=>exact he.elim
    |panic ch=>exact he.elim
    |outgrown=>exact he.elim
  simp
end Go.Proofs
namespace Go.Gv
open Go.Proofs Go.RowKit
open Cod (enc dec)
def qfu{dq:Prop}{S:Nat->Spc}(hS:∀f,Tri True Tryz.prog f (S f).pt)(hlo:S fq=Nt):Tri dq Tryz.prog sW s_cpFold1.pt:=by
  refine vS (fu Tryz.func293 (by rfl) rfl) λtp I w vs s hp hI hl hr=>?_
  obtain⟨c,c0,c1,rfl⟩:=hp;have hview:(a1 B).view (mz c)=[.v (.string (mz c))]:=rfl;rw[hview]at hl hr
  match vs,hl with
  | [v0],_=>
    have e0:=HR (hr 0 v0 _ rfl rfl);subst e0;refine(callsIn_wide (n:=10)).1 ((Tryz.Fold_in hS hlo Fence.wide ⟨rfl⟩ 10 trivial trivial trivial rfl (by omega) c c0 c1 w).mono ?_);rintro e w' ⟨rfl,hg⟩;obtain⟨l0,l1⟩:=VJ c0 c1;exact⟨_,mz (low c),rfl,λd d0 d1 e=>by grind [qdU],λtp' I'=> .str _ (Nat.le_of_ble_eq_true rfl),hg.below,hg.drawn⟩
end Go.Gv
namespace Go.Proofs
open Go.Shelf
def Tryz.lays197_ren:Go.Shelf.Ren:=⟨λ|197=>306|260=>316|n=>n,λ|9=>9|21=>21|3=>3|4=>4|5=>5|105=>333|119=>357|0=>0|46=>141|139=>360|138=>359|n=>n,λ|3=>1|4=>2|n=>n⟩
theorem Tryz.lays197:Go.Proofs.Lays.n197 Tryz.prog Tryz.lays197_ren:={
 mixed:=by kernel_rfl
 f197:=Tryz.func306.trans (congrArg some (by kernel_rfl))
 f260:=Tryz.func316.trans (congrArg some (by kernel_rfl))
 t0:=Tryz.underlying0
 a0:=Tryz.isAgg0
 z0:=Tryz.sizeOf0
 v0:=Tryz.zeroValue0
 t3:=Tryz.underlying3
 a3:=Tryz.isAgg3
 z3:=Tryz.sizeOf3
 v3:=Tryz.zeroValue3
 t4:=Tryz.underlying4
 a4:=Tryz.isAgg4
 z4:=Tryz.sizeOf4
 v4:=Tryz.zeroValue4
 t5:=Tryz.underlying5
 a5:=Tryz.isAgg5
 z5:=Tryz.sizeOf5
 v5:=Tryz.zeroValue5
 t9:=Tryz.underlying9
 a9:=Tryz.isAgg9
 z9:=Tryz.sizeOf9
 v9:=Tryz.zeroValue9
 t21:=Tryz.underlying21
 a21:=Tryz.isAgg21
 z21:=Tryz.sizeOf21
 v21:=Tryz.zeroValue21
 t46:=Tryz.underlying141
 a46:=Tryz.isAgg141
 z46:=Tryz.sizeOf141
 v46:=Tryz.zeroValue141
 t105:=Tryz.underlying333
 a105:=Tryz.isAgg333
 z105:=Tryz.sizeOf333
 v105:=Tryz.zeroValue333
 t119:=Tryz.underlying357
 a119:=Tryz.isAgg357
 z119:=Tryz.sizeOf357
 t138:=Tryz.underlying359
 a138:=Tryz.isAgg359
 z138:=Tryz.sizeOf359
 v138:=Tryz.zeroValue359
 t139:=Tryz.underlying360
 a139:=Tryz.isAgg360
 z139:=Tryz.sizeOf360
 v139:=Tryz.zeroValue360
 g3:=by kernel_rfl
 g4:=by kernel_rfl }
def Tryz.lays151_ren:Go.Shelf.Ren:=⟨λ|151=>324|152=>332|137=>338|119=>339|224=>301|225=>300|217=>299|266=>312|n=>n,λ|9=>9|21=>21|4=>4|3=>3|5=>5|0=>0|46=>141|n=>n,λ|n=>n⟩
theorem Tryz.lays151:Go.Proofs.Lays.n151 Tryz.prog Tryz.lays151_ren:={
 mixed:=by kernel_rfl
 f119:=Tryz.func339.trans (congrArg some (by kernel_rfl))
 f137:=Tryz.func338.trans (congrArg some (by kernel_rfl))
 f151:=Tryz.func324.trans (congrArg some (by kernel_rfl))
 f152:=Tryz.func332.trans (congrArg some (by kernel_rfl))
 f217:=Tryz.func299.trans (congrArg some (by kernel_rfl))
 f224:=Tryz.func301.trans (congrArg some (by kernel_rfl))
 f225:=Tryz.func300.trans (congrArg some (by kernel_rfl))
 f266:=Tryz.func312.trans (congrArg some (by kernel_rfl))
 t0:=Tryz.underlying0
 a0:=Tryz.isAgg0
 z0:=Tryz.sizeOf0
 v0:=Tryz.zeroValue0
 t3:=Tryz.underlying3
 a3:=Tryz.isAgg3
 z3:=Tryz.sizeOf3
 v3:=Tryz.zeroValue3
 t4:=Tryz.underlying4
 a4:=Tryz.isAgg4
 z4:=Tryz.sizeOf4
 v4:=Tryz.zeroValue4
 t5:=Tryz.underlying5
 a5:=Tryz.isAgg5
 z5:=Tryz.sizeOf5
 v5:=Tryz.zeroValue5
 t9:=Tryz.underlying9
 a9:=Tryz.isAgg9
 z9:=Tryz.sizeOf9
 v9:=Tryz.zeroValue9
 t21:=Tryz.underlying21
 a21:=Tryz.isAgg21
 z21:=Tryz.sizeOf21
 v21:=Tryz.zeroValue21
 t46:=Tryz.underlying141
 a46:=Tryz.isAgg141
 z46:=Tryz.sizeOf141
 v46:=Tryz.zeroValue141 }
def Tryz.lays144_ren:Go.Shelf.Ren:=⟨λ|144=>182|143=>238|219=>279|217=>299|225=>300|224=>301|267=>302|266=>312|314=>313|n=>n,λ|9=>9|4=>4|3=>3|5=>5|46=>141|146=>345|51=>256|n=>n,λ|1=>0|n=>n⟩
theorem Tryz.lays144:Go.Proofs.Lays.n144 Tryz.prog Tryz.lays144_ren:={
 mixed:=by kernel_rfl
 f143:=Tryz.func238.trans (congrArg some (by kernel_rfl))
 f144:=Tryz.func182.trans (congrArg some (by kernel_rfl))
 f217:=Tryz.func299.trans (congrArg some (by kernel_rfl))
 f219:=Tryz.func279.trans (congrArg some (by kernel_rfl))
 f224:=Tryz.func301.trans (congrArg some (by kernel_rfl))
 f225:=Tryz.func300.trans (congrArg some (by kernel_rfl))
 f266:=Tryz.func312.trans (congrArg some (by kernel_rfl))
 f267:=Tryz.func302.trans (congrArg some (by kernel_rfl))
 f314:=Tryz.func313.trans (congrArg some (by kernel_rfl))
 t3:=Tryz.underlying3
 a3:=Tryz.isAgg3
 z3:=Tryz.sizeOf3
 v3:=Tryz.zeroValue3
 t4:=Tryz.underlying4
 a4:=Tryz.isAgg4
 z4:=Tryz.sizeOf4
 v4:=Tryz.zeroValue4
 t5:=Tryz.underlying5
 a5:=Tryz.isAgg5
 z5:=Tryz.sizeOf5
 v5:=Tryz.zeroValue5
 t9:=Tryz.underlying9
 a9:=Tryz.isAgg9
 z9:=Tryz.sizeOf9
 v9:=Tryz.zeroValue9
 t46:=Tryz.underlying141
 a46:=Tryz.isAgg141
 z46:=Tryz.sizeOf141
 v46:=Tryz.zeroValue141
 t51:=Tryz.underlying256
 a51:=Tryz.isAgg256
 z51:=Tryz.sizeOf256
 v51:=Tryz.zeroValue256
 t146:=Tryz.underlying345
 a146:=Tryz.isAgg345
 z146:=Tryz.sizeOf345
 v146:=Tryz.zeroValue345
 g1:=by kernel_rfl }
end Go.Proofs
namespace Go.Gv
section
open Go.Proofs Go.RowKit
open Cod (enc dec)
variable {dq:Prop}
def qj4(c:UInt8):∀l:List UInt8, -1<=Lib.indexByte l c
 | []=>qGI _
 | b::l=>by
   have:=qj4 c l;rw[Lib.indexByte];split
   ·omega
   ·split<;>omega
theorem qj3(c:Int)(a:0<=c)(c1:c< 128):∀l:List UInt8,decide (0<=Lib.indexByte l c.toNat.toUInt8)=l.any λx=>decide ((x.toNat:Int)=c)
 | []=>rfl
 | x::l=>by
   have b:=qj3 c a c1 l;have e:(x==c.toNat.toUInt8)=decide ((x.toNat:Int)=c):=by
    have h1:c.toNat.toUInt8.toNat=c.toNat:=by
     rw[Nat.toUInt8,qHm];omega
    rw[qGg];simp only[beq_iff_eq,decide_eq_true_eq];constructor
    ·rintro rfl;omega
    ·intro h;exact UInt8.toNat_inj.1 (by omega)
   rw[Lib.indexByte,List.any_cons,e];by_cases h:(x.toNat:Int)=c
   ·simp[h]
   ·simp only[h,decide_false,qGy,if_false,Bool.false_or];rw[<-b];have d:=qj4 c.toNat.toUInt8 l;by_cases h1:Lib.indexByte l c.toNat.toUInt8= -1
    ·simp[h1]
    ·have h2:¬(Lib.indexByte l c.toNat.toUInt8== -1)=true:=by simpa using h1
     rw[if_neg h2];rw[qGg];simp only[decide_eq_true_eq];omega
def Dn:Tri dq Tryz.prog jm s_crune.pt:=by
 refine vS (fu Tryz.func324 (by kernel_rfl) rfl) λtp I w vs x hp hI hl b=>?_
 obtain⟨s,⟨c⟩⟩:=x;obtain⟨d,c1⟩:=hp;have a:(a2 B I32).view (s,⟨c⟩)=[.v (.string s), .v (.int .i32 c)]:=rfl;rw[a]at hl b
 match vs,hl with
 | [h,v1],_=>
   have j:=HR (b 0 h _ rfl rfl);have k:=HR (b 1 v1 _ rfl rfl);subst j;subst k;refine(Any.strings_ContainsRune_ascii Tryz.lays151 s c w d c1).mono ?_;rintro e w' ⟨rfl,rfl⟩;refine⟨_,qoc s c,rfl,rfl,λl p=>?_,Below.refl _ _,qFM _⟩;rw[qj3 c d c1];exact .bool _
def H5:Tri dq Tryz.prog dE s_decR.pt:=by
 refine vS (fu Tryz.func306 (by kernel_rfl) rfl) λtp I w vs s hp hI hl j=>?_
 obtain⟨c,hc,b⟩:=hp;have a:(a1 B).view s=[.v (.string s)]:=rfl;rw[a]at hl j
 match vs,hl with
 | [l],_=>
   have p:=HR (j 0 l _ rfl rfl);subst p;refine(Any.utf8_DecodeRuneInString_ascii Tryz.lays197 s c w (by rw[qF4];exact hc) b).mono ?_;rintro e w' ⟨rfl,rfl⟩;refine⟨_,(⟨c.toNat⟩,1),rfl,λc' d=>by rw[hc]at d;cases d;rfl,λq r=>?_,Below.refl _ _,qFM _⟩;refine .tup _ _ rfl λk x c h hc=>?_
   rcases k with _|_|k
   ·cases h;cases hc;exact .int _ _
   ·cases h;cases hc;exact .int _ _
   ·simp at h
def qee(c:UInt8):∀l:List UInt8, -1<=Lib.indexByte l c
 | []=>qGI _
 | b::l=>by
   have:=qee c l;rw[Lib.indexByte];split
   ·omega
   ·split<;>omega
def Zx:∀l:List UInt8,decide (0<=Lib.indexByte l 124)=l.any λc=>decide (c.toNat=124)
 | []=>rfl
 | x::l=>by
   have a:=Zx l;have e:(x==124)=decide (x.toNat=124):=by
    rw[qGg];simp only[beq_iff_eq,decide_eq_true_eq];exact⟨λh=>by rw[h];rfl,λh=>UInt8.toNat_inj.1 h⟩
   rw[Lib.indexByte,List.any_cons,e];by_cases h:x.toNat=124
   ·simp[h]
   ·simp only[h,decide_false,qGy,if_false,Bool.false_or];rw[<-a];have b:=qee 124 l;by_cases h1:Lib.indexByte l 124= -1
    ·simp[h1]
    ·have h2:¬(Lib.indexByte l 124== -1)=true:=by simpa using h1
     rw[if_neg h2];rw[qGg];simp only[decide_eq_true_eq];omega
def qbt:Tri dq Tryz.prog wS s_sConB.pt:=by
 refine vS (fu Tryz.func182 (by kernel_rfl) rfl) λtp I w vs x hp hI hl b=>?_
 obtain⟨s,t⟩:=x;obtain⟨c,_⟩:=hp;have c:t=⟨#[124]⟩:=c;subst c;have a:(a2 B B).view (s,⟨#[124]⟩)=[.v (.string s), .v (.string ⟨#[124]⟩)]:=rfl;rw[a]at hl b
 match vs,hl with
 | [d,v1],_=>
   have h:=HR (b 0 d _ rfl rfl);have j:=HR (b 1 v1 _ rfl rfl);subst h;subst j;refine(Any.strings_Contains_one Tryz.lays144 s 124 w).mono ?_;rintro e w' ⟨rfl,rfl⟩;refine⟨_,qo1 s,rfl,rfl,λk l=>?_,Below.refl _ _,qFM _⟩;rw[Zx];exact .bool _
end
section
open Go.Proofs
def nr:CC:=gq Tryz.f110 [] {} _
def mT:List aj:=[.tmp 2]
def Fv:FO bO [] nr mT 29:=fo
def tj:CC:=gq Tryz.f176 [] {} _
def sB:List aj:=[.tmp 2]
def KJ:FO cE [] tj sB 21:=fo
def ti:CC:=gq Tryz.f177 [] {} _
def sA:List aj:=[.tmp 2]
def KI:FO fD [] ti sA 17:=fo
def ED:CC:=gq Tryz.f169 [2,3] {} _
def DA:List aj:=[.tmp 4]
def Y3:FO wW [2,3] ED DA 74:=fo
def ta:CC:=gq Tryz.f172 [3,2] {} _
def sk:List aj:=[.tmp 4]
def pf:CC:=gq Tryz.f235 [2] {} _
def ot:List aj:=[.tmp 3]
def zM:CC:=gq Tryz.f236 [1] {} _
def yW:List aj:=[.tmp 2]
def zO:CC:=gq Tryz.f173 [1] {} _
def yY:List aj:=[.tmp 2]
def xI:CC:=gq Tryz.f107 [3,2] {} _
def wB:List aj:=[.tmp 4]
def tc:CC:=gq Tryz.f175 [2] {} _
def sr:List aj:=[.tmp 3]
def xH:CC:=gq Tryz.f108 [1] {} _
def wA:List aj:=[.tmp 2]
def uZ:CC:=gq Tryz.f111 [1] {} _
def uy:List aj:=[.tmp 2]
def xM:CC:=gq Tryz.f106 [1] {} _
def wF:List aj:=[.tmp 2]
def xG:CC:=gq Tryz.f72 [1] {} _
def wz:List aj:=[.tmp 2]
def zN:CC:=gq Tryz.f112 [1] {} _
def yX:List aj:=[.tmp 2]
def zQ:CC:=oX [oB 1 (.box aC true (oT 0)),oB 2 (.mv (oN 0))] [1] [] (.seq (oX [oD 3 13 1,oZ 4 gZ [oT 3],oB 5 (.not (oT 4))] [1,5] [] (.ite (oT 5) (oX [oB 2 (.mv (oN 0))] [2] [] (.ret)) (.skip))) (.keep [1] [] (oX [oD 6 13 1,oZ 7 gK [oT 6],oA 2 7] [2] [] (.ret))))
def za:List aj:=[.tmp 2]
def iL:CC:=gq Tryz.f242 [1] {} _
def iy:List aj:=[.tmp 2, .tmp 3]
def xL:CC:=gq Tryz.f188 [1] {} _
def wE:List aj:=[.tmp 2, .tmp 3]
def eF:CC:=gq Tryz.f174 [] {} _
def ek:List aj:=[.tmp 4]
def fK:CC:=gq Tryz.f237 [] {} _
def fI:List aj:=[.tmp 4]
def B4:CC:=gq Tryz.f101 [2] {} _
def A4:List aj:=[.tmp 4]
def zF:CC:=gq Tryz.f54 [2] {} _
def yP:List aj:=[.tmp 4]
def B5:CC:=gq Tryz.f55 [1] { cu:=[1] } _
def A5:List aj:=[.tmp 2]
def xy:CC:=gq Tryz.f56 [1] { cu:=[1] } _
def wu:List aj:=[.tmp 2]
def sZ:CC:=gq Tryz.f24 [1] {} _
def sj:List aj:=[.tmp 2]
def nR:CC:=gq Tryz.f105 [2] { bx:=[1,23] } _
def nF:List aj:=[.tmp 4]
def zG:CC:=gq Tryz.f60 [1] { bx:=[7] } _
def yQ:List aj:=[.tmp 2]
def EA:CC:=gq Tryz.f57 [1] {} _
def Dx:List aj:=[.tmp 2]
def EC:CC:=gq Tryz.f25 [1] {} _
def Dz:List aj:=[.tmp 2]
def mH:CC:=oX [oB 1 (.box aC true (oT 0)),oB 2 (.mv (oN 0)),oB 3 (.mv (oN 0))] [1] [] (.seq (oX [oE 12 0 1,oC 13 1 12] [1,13] [] (.block 0 (oX [oB 15 (.eql false false [.int] (oT 13) (oN 1)),oA 14 15] [1,13,14] [] (.ite (oT 14) (oX [oB 2 (.mv (oN 1)),oB 3 (.mv (oN 1))] [2,3] [] (.ret)) (.seq (oX [oB 17 (.eql false false [.int] (oT 13) (oN 2)),
 oA 16 17] [1,13,16] [] (.ite (oT 16) (.skip) (.reg [oB 18 (.eql false false [.int] (oT 13) (oN 3)),oA 16 18]))) (.keep [1,13,16] [] (.ite (oT 16) (oX [oB 2 (.mv (oN 0)),oB 3 (.mv (oN 0))] [2,3] [] (.ret)) (oX [oB 20 (.eql false false [.int] (oT 13) (oN 6)),oA 19 20] [1,19] [] (.ite (oT 19) (oX [oE 22 12 1,oC 23 1 22,oB 24 (.iaddr 13 (oT 23) (oN 0)),oD 25 13 24,
 oZ 26 iU [oT 25],oA 21 26,oB 27 (.ext (oT 21) 0),oB 28 (.ext (oT 21) 1),oA 4 27,oA 5 28] [1,4,5] [] (.seq (oX [oE 29 11 1,oC 30 1 29,oB 31 (.eql false false [.int] (oT 30) (oN 0)),oA 32 31,oI 33 32 (.mv (oT 5)),oI 34 32 (.eql false false [.int] (oT 33) (oN 0)),oB 35 (.pick (oT 32) (.const (.bool true)) (oT 34))] [1,4,5,35] [] (.ite (oT 35) (.reg [oB 5 (.mv (oN 0))]) (oX [
 oE 36 11 1,oC 37 1 36,oB 38 (.eql false false [.int] (oT 37) (oN (-1))),oA 39 38,oI 40 39 (.mv (oT 5)),oI 41 39 (.eql false false [.int] (oT 40) (oN (-1))),oB 42 (.pick (oT 39) (.const (.bool true)) (oT 41))] [1,4,5,42] [] (.ite (oT 42) (.reg [oB 5 (.mv (oN (-1)))]) (.reg [oA 43 5,oE 44 11 1,oC 45 1 44,oB 46 (.arith .mul (oT 43) (oT 45)),oB 47 (.mm false [oT 46,oN 10000]),
 oA 5 47]))))) (.keep [1,4,5] [] (oX [oA 48 4,oE 49 10 1,oC 50 1 49,oB 51 (.arith .mul (oT 48) (oT 50)),oB 52 (.mm false [oT 51,oN 10000]),oA 53 5,oA 2 52,oA 3 53] [2,3] [] (.ret))))) (.skip)))))))))) (.keep [1] [] (oX [oB 6 (.mv (oN 0)),oB 7 (.mv (oN 0))] [1,6,7] [] (.seq (oX [oE 54 12 1,oC 55 1 54,oB 56 (.len (oT 55)),
 oB 57 (.mv (oN 0))] [1,6,7,55,56,57] [] (gd 1 57 56 58 2 (oX [oA 59 57,oB 60 (.iaddr 13 (oT 55) (oT 57)),oD 61 13 60,oB 9 (.alloc aC [oi,oi,oe,oe,oe,oe,ob,on,oe,oe,oi,oi,on]),oA 8 59,oF 13 9 61] [1,6,7,8,9,55,56,57] [9] (oX [oD 63 13 9,oZ 64 iU [oT 63],oA 62 64,oB 65 (.ext (oT 62) 0),oB 66 (.ext (oT 62) 1),oA 10 65,
 oA 11 66] [1,6,7,8,10,11,55,56,57] [] (.block 3 (oX [oE 80 0 1,oC 81 1 80,oB 82 (.eql false false [.int] (oT 81) (oN 4)),oA 79 82] [1,6,7,8,10,11,55,56,57,79] [] (.ite (oT 79) (oX [oA 83 6,oA 84 10,oB 85 (.arith .add (oT 83) (oT 84)),oB 86 (.mm false [oT 85,oN 10000]),oA 6 86] [1,6,7,11,55,56,57] [] (oX [oA 87 11,oB 88 (.eql false false [.int] (oT 87) (oN (-1))),oA 89 88,
 oI 90 89 (.mv (oT 7)),oI 91 89 (.eql false false [.int] (oT 90) (oN (-1))),oB 92 (.pick (oT 89) (.const (.bool true)) (oT 91))] [1,6,7,11,55,56,57,92] [] (.ite (oT 92) (.reg [oB 7 (.mv (oN (-1)))]) (.reg [oA 93 7,oA 94 11,oB 95 (.arith .add (oT 93) (oT 94)),oB 96 (.mm false [oT 95,oN 10000]),oA 7 96])))) (oX [oA 98 8,oB 99 (.eql false false [.int] (oT 98) (oN 0)),
 oA 97 99] [1,6,7,10,11,55,56,57,97] [] (.ite (oT 97) (.reg [oA 100 10,oA 101 11,oA 6 100,oA 7 101]) (oX [oA 67 6,oA 68 10,oB 69 (.mm false [oT 67,oT 68]),oA 6 69] [1,6,7,11,55,56,57] [] (oX [oA 70 11,oB 71 (.eql false false [.int] (oT 70) (oN (-1))),oA 72 71,oI 73 72 (.mv (oT 7)),oI 74 72 (.eql false false [.int] (oT 73) (oN (-1))),
 oB 75 (.pick (oT 72) (.const (.bool true)) (oT 74))] [1,6,7,11,55,56,57,75] [] (.ite (oT 75) (.reg [oB 7 (.mv (oN (-1)))]) (.reg [oA 76 7,oA 77 11,oB 78 (.mm true [oT 76,oT 77]),oA 7 78]))))))))))) 102)) (.keep [6,7] [] (oX [oA 103 6,oA 104 7,oA 2 103,oA 3 104] [2,3] [] (.ret)))))))
def mu:List aj:=[.tmp 2, .tmp 3]
def B6:CC:=oX [oB 1 (.box aC true (oT 0)),oB 2 (.mv (oN 0)),oB 3 (.mv (oN 0))] [1] [] (.seq (oX [oD 4 13 1,oZ 5 dT [oT 4],oB 6 (.not (oT 5))] [1,6] [] (.ite (oT 6) (oX [oB 2 (.mv (oN 0)),oB 3 (.mv (oN 0))] [2,3] [] (.ret)) (.skip))) (.keep [1] [] (oX [oD 7 13 1,oZ 8 iU [oT 7],oB 9 (.ext (oT 8) 0),oB 10 (.ext (oT 8) 1),oA 2 9,
 oA 3 10] [2,3] [] (.ret))))
def A6:List aj:=[.tmp 2, .tmp 3]
def zD:CC:=oX [oB 3 (.box aK true (oT 1)),oB 4 (.mv (.const on))] [0,3] [] (oX [oA 6 0,oB 7 (.len (oT 6)),oA 5 7] [0,3,5] [] (MJ 2 (.block 0 (.loop 1 (.seq (.seq (.regd [oA 8 5,oB 9 (.cmp .gtr (oT 8) (oN 0)),oA 10 9,oH 11 10 (.load true 2 (oT 3)),oH 12 10 (.mv (oT 0)),oH 13 10 (.mv (oT 5)),oH 14 10 (.arith .sub (oT 13) (oN 1)),
 oH 15 10 (.iaddr 2 (oT 12) (oT 14)),oH 16 10 (.load true 2 (oT 15))] [oH 17 10 (.call BO [oT 11,oT 16]),oB 18 (.pick (oT 10) (oT 17) (.const ob))]) (.keep [0,3,5,18] [] (.ite (oT 18) (.skip) (.exit 0)))) (.keep [0,3,5] [] (.block 1 (.reg [oA 19 5,oB 20 (.arith .sub (oT 19) (oN 1)),oA 5 20])))))) (.keep [0,3,5] [] (MJ 5 (.seq (.regd [oA 21 5,oB 22 (.cmp .gtr (oT 21) (oN 0)),
 oA 23 22,oH 24 23 (.mv (oT 0)),oH 25 23 (.mv (oT 5)),oH 26 23 (.arith .sub (oT 25) (oN 1)),oH 27 23 (.iaddr 2 (oT 24) (oT 26)),oH 28 23 (.load true 2 (oT 27)),oH 29 23 (.load true 2 (oT 3))] [oH 30 23 (.eql false true [.int,.int] (oT 28) (oT 29)),oB 31 (.pick (oT 23) (oT 30) (.const ob))]) (.keep [0,3,5,31] [] (.ite (oT 31) (oX [oA 32 0,oA 4 32] [4] [33,37,40,44] (.ret)) (.skip))))
 (.keep [0,3,5] [] (.seq (.regd [oB 33 (.nslice aK 2),oA 34 0,oA 35 5,oB 36 (.slice 2 (oT 34) none (some (oT 35))),oB 37 (.append (some 33) aK 2 16 (oT 33) (oT 36)),oD 38 2 3,oB 39 (.bslice aK 2 [oT 38]),oB 40 (.append (some 33) aK 2 16 (oT 37) (oT 39)),oA 41 0,oA 42 5,oB 43 (.slice 2 (oT 41) (some (oT 42)) none)] [
 oB 44 (.append (some 33) aK 2 16 (oT 40) (oT 43)),oA 4 44]) (.keep [4] [33,37,40,44] (.ret))))))))
def yO:List aj:=[.tmp 4]
def Ey:CC:=oX [oB 4 (.mv (.const ob))] [0,1] [] (.seq (oX [oA 6 0,oB 7 (.len (oT 6)),oA 8 1,oB 9 (.len (oT 8)),oB 10 (.eql true false [.int] (oT 7) (oT 9))] [0,1,10] [] (.ite (oT 10) (oX [oB 4 (.mv (.const ob))] [4] [] (.ret)) (.skip))) (.keep [0,1] [] (.seq (oX [oA 11 0,oB 12 (.len (oT 11)),oB 13 (.mv (oN 0))] [0,1,12,13] [] (gd 0 13 12 14 1 (oX [oA 15 13,
 oA 5 15] [0,1,5,12,13] [] (.seq (.regd [oA 16 0,oA 17 5,oB 18 (.iaddr 2 (oT 16) (oT 17)),oD 19 2 18,oA 20 1,oA 21 5,oB 22 (.iaddr 2 (oT 20) (oT 21)),oD 23 2 22] [oB 24 (.eql true true [.int,.int] (oT 19) (oT 23))]) (.keep [0,1,12,13,24] [] (.ite (oT 24) (oX [oB 4 (.mv (.const ob))] [4] [] (.ret)) (.skip))))) 25)) (.keep [] [] (oX [oB 4 (.mv (.const (.bool true)))] [4] [] (.ret))))))
def Dv:List aj:=[.tmp 4]
def Ez:CC:=oX [oB 2 (.box aK true (oT 0)),oB 3 (.box aK true (oT 1)),oB 4 (.mv (.const ob))] [2,3] [] (oX [oE 5 0 2,oC 6 1 5,oE 7 0 3,oC 8 1 7,oB 9 (.cmp .lss (oT 6) (oT 8)),oA 10 9,oI 11 10 (.faddr 0 (oT 2)),oI 12 10 (.load false 1 (oT 11)),oI 13 10 (.faddr 0 (oT 3)),oI 14 10 (.load false 1 (oT 13)),oI 15 10 (.eql false false [.int] (oT 12) (oT 14)),
 oI 16 10 (.mv (oT 15)),oH 17 16 (.faddr 1 (oT 2)),oH 18 16 (.load false 1 (oT 17)),oH 19 16 (.faddr 1 (oT 3)),oH 20 16 (.load false 1 (oT 19)),oH 21 16 (.cmp .lss (oT 18) (oT 20)),oI 22 10 (.pick (oT 16) (oT 21) (.const ob)),oB 23 (.pick (oT 10) (.const (.bool true)) (oT 22)),oA 4 23] [4] [] (.ret))
def Dw:List aj:=[.tmp 4]
def RO:FO vN [1] zQ za 8:=fo
def Vl:FO iU [1] mH mu 105:=fo
def Vp:FO ud [1] B6 A6 11:=fo
def RA:FO vK [3,1044033,1040033,1037033] zD yO 45:=fo
def YY:FO Hb [] Ey Dv 26:=fo
def YZ:FO BO [2,3] Ez Dw 24:=fo
def RS:FO mF [] zT zh 18:=fo
def GY:FO cW [] pp oL 20:=fo
def KP:FO oa [] tn sE 6:=fo
def AC:FO jR [2] iO iB 27:=fo
def KA:FO jO [3,2] ta sk 14:=fo
def GE:FO gL [2] pf ot 9:=fo
def RJ:FO BU [1] zM yW 37:=fo
def RL:FO mC [1] zO yY 69:=fo
def Pk:FO fN [3,2] xI wB 15:=fo
def KC:FO jQ [2] tc sr 8:=fo
def Pj:FO dH [1] xH wA 29:=fo
def MQ:FO dh [1] uZ uy 33:=fo
def Po:FO nP [1] xM wF 9:=fo
def Pi:FO gZ [1] xG wz 13:=fo
def RK:FO gK [1] zN yX 49:=fo
def Ph:FO nM [1] iL iy 107:=fo
def Pn:FO hU [1] xL wE 11:=fo
def sH:FO aV [] eF ek 9:=fo
def vG:FO lH [] fK fI 19:=fo
def Vn:FO Ec [2] B4 A4 99:=fo
def RB:FO qN [2] zF yP 24:=fo
def Vo:FO uc [1] B5 A5 41:=fo
def Pc:FO nL [1] xy wu 46:=fo
def Kz:FO dT [1] sZ sj 13:=fo
def FS:FO jp [2] nR nF 26:=fo
def RC:FO vL [1] zG yQ 8:=fo
def Y0:FO wU [1] EA Dx 44:=fo
def Y2:FO BP [1] EC Dz 8:=fo
def IR:FO cE [] rF qj 21:=fo
def IQ:FO fD [] rE qi 17:=fo
def DS:FO bO [] lX lp 29:=fo
end
end Go.Gv
