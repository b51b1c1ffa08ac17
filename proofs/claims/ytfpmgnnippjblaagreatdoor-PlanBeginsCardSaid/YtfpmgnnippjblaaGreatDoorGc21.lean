/- I13 -/
import Derived.Shelf.Strings.Runes
import Derived.Shelf.Strings.Search3
import Derived.Shelf.Unicode.Decode
import Derived.Ground.NamesProg
import Derived.Test.YtfpmgnnippjblaaGreatDoorProg
import Derived.Test.YtfpmgnnippjblaaGreatDoorGc20
set_option linter.all false
set_option maxRecDepth 100000
set_option maxHeartbeats 0
open Bool renaming forall_bool → fB', exists_bool → eB'
namespace Go.Proofs
open Go.RowKit Go.Shelf Go.Gv
attribute [local go_sem] Oper.semAt_some
def qwA(s:ByteArray)(i:Nat):Value:=if i<s.size then .tuple #[.int .i32 (Sj s i), .int .i64 (i:Int), .int .i64 1, .bool true]else .tuple #[.int .i32 0, .int .i64 0, .int .i64 0, .bool false]
def dV{l:List (Nat×Res)}{i:Nat}{r:Res}(h:gT l dm i=some r):(i,r) ∈l:=by
 induction l with
 |nil=>cases h
 | cons p l ih=>
   obtain⟨t,q⟩:=p;simp only[gT,aj]at h;split at h
   ·rename_i e;subst e;cases h;simp
   ·exact List.mem_cons_of_mem _ (ih h)
structure qFa (F:Fence):Prop where
 e:F=Fence.wide
def qEs:Nat->Spc:=λ_=> .none
def qkJ{b0 b1 b2 b3 b4:Nat}{c0 c1 c2 c3 c4:List D}(h:b0<b1/\b1<b2/\b2<b3/\b3<b4):
 ∀i j r s b,gT [(3,Res.box b0 c0),(4, .box b1 c1),(5, .box b2 c2),(6, .box b3 c3),(7, .box b4 c4)] dm i=some r->gT [(3,Res.box b0 c0),(4, .box b1 c1),(5, .box b2 c2),(6, .box b3 c3),(7, .box b4 c4)] dm j=some s->r.blk=some b->s.blk=some b->i=j:=by
 intro i j r s b hi hj h1 h2;have hi:=dV hi;have hj:=dV hj;simp only[List.mem_cons,Prod.mk.injEq,List.not_mem_nil,or_false]at hi hj;rcases hi with⟨rfl,rfl⟩|⟨rfl,rfl⟩|⟨rfl,rfl⟩|⟨rfl,rfl⟩|⟨rfl,rfl⟩ <;>rcases hj with⟨rfl,rfl⟩|⟨rfl,rfl⟩|⟨rfl,rfl⟩|⟨rfl,rfl⟩|⟨rfl,rfl⟩ <;>simp only[Res.blk,Option.some.injEq]at h1 h2<;>omega
set_option maxRecDepth 100000 in
theorem qmi{F:Fence}{n D:Nat}{w V:World}{R:Ending->World->Prop}{tmps:Array Value}{x1 x2 x3 x4:Value}(hD:w.heap.size+5<=D)(c1:Bx V (w.heap.size+1) #[x1])(c2:Bx V (w.heap.size+2) #[x2])(c3:Bx V (w.heap.size+3) #[x3])(c4:Bx V (w.heap.size+4) #[x4])
 (hK:V.heap[D]? =some (.deferred (some []))) (hg:GrL w.heap.size w V) (t1:tmps[4]? =some (.pointer (some ⟨w.heap.size+1,0,none⟩))) (t2:tmps[5]? =some (.pointer (some ⟨w.heap.size+1+1,0,none⟩))) (t3:tmps[6]? =some (.pointer (some ⟨w.heap.size+1+1+1,0,none⟩))) (t4:tmps[7]? =some (.pointer (some ⟨w.heap.size+1+1+1+1,0,none⟩)))
 (hR:∀V',GrL w.heap.size w V'->R (.returned (.tuple #[x1,x2,x3,x4])) V'):
 bodyPostM F n Tryz.prog Tryz.f269 R .ret { tmps:=tmps,defers:=[{ target:= .collected D,args:= #[] }] } V:=by
 refine⟨by simp, .inl ⟨_,_,rfl,run_takeDeferred hK,?_⟩⟩;have g4:GrL w.heap.size w (V.putObj D (.deferred none)):=hg.trans (GrL.put _ (by omega) _);have k1:=(c1.keep (World.putObj_heap_other (o:= .deferred none) (show w.heap.size+1≠D by omega))).cell (k:=0) rfl;have k2:=(c2.keep (World.putObj_heap_other (o:= .deferred none) (show w.heap.size+2≠D by omega))).cell (k:=0) rfl;have k3:=(c3.keep (World.putObj_heap_other (o:= .deferred none) (show w.heap.size+3≠D by omega))).cell (k:=0) rfl;have k4:=(c4.keep (World.putObj_heap_other (o:= .deferred none) (show w.heap.size+4≠D by omega))).cell (k:=0) rfl;have hres:(results Tryz.f269 tmps).run Tryz.prog (V.putObj D (.deferred none))= .ok (.tuple #[x1,x2,x3,x4]) (V.putObj D (.deferred none)):=by
  simp[results,Tryz.f269,go_sem,k1,k2,k3,k4,t1,t2,t3,t4]
 exact⟨_,hres,hR _ g4⟩
set_option maxRecDepth 100000 in
set_option maxHeartbeats 4000000 in
theorem Tryz.At_in(F:Fence)(hF:qFa F)(n:Nat)(h50:F.fn 269)(h95:F.fn 296)(h128:F.fn 320)(hro:F.round=none)(hn:10<=n)(s:ByteArray)(hs:s.size<=100000)(ha:∀(k:Nat) (h:k<s.size),(s[k]'h).toNat< 128)(i:Nat)(hi:i<=s.size)(w:World):
 CallsIn F n Tryz.prog 269 #[.string s, .int .i64 (i:Int)] w λe W'=>e= .returned (qwA s i)/\GrL w.heap.size w W':=by
 have h1:1<=n:=by omega
 refine callsIn_of_wp_marks Tryz.func269 rfl h50 ?_ hro;simp only[Tryz.ntmps269,List.size_toArray,List.length_cons,List.length_nil,Nat.reduceAdd,Nat.reduceSub,Array.replicate_succ,Array.replicate_zero,List.push_toArray,List.append_toArray,List.nil_append,List.cons_append]
 gi_wp2_with (gi_at_call 296;refine(Tryz.units_in F (n -1) h95 hro _ _).mono ?_;rintro e w' ⟨rfl,rfl⟩)
 obtain⟨W0,hW0⟩:∃W0,(((((w.alloc (.cells #[.int .i64 (i:Int)] 3)).alloc (.cells #[.int .i32 0] 21)).alloc (.cells #[.int .i64 0] 3)).alloc (.cells #[.int .i64 0] 3)).alloc (.cells #[.bool false] 4)).alloc (.cells #[.string s] av)=W0:=⟨_,rfl⟩
 rw[hW0];have hsz:W0.heap.size=w.heap.size+6:=by rw[<-hW0];simp
 have g0:GrL w.heap.size w W0:=by
  rw[<-hW0];exact(((((GrL.alloc w (Nat.le_refl _) _).trans (GrL.alloc _ (by simp) _)).trans (GrL.alloc _ (by first|(simp;done)|(simp;omega)) _)).trans (GrL.alloc _ (by first|(simp;done)|(simp;omega)) _)).trans (GrL.alloc _ (by first|(simp;done)|(simp;omega)) _)).trans (GrL.alloc _ (by first|(simp;done)|(simp;omega)) _)
 have B0:∀W:World,∀o:Obj,(W.alloc o).heap[W.heap.size]? =some o:=λW o=>World.alloc_heap_new W o
 have b5:W0.heap[w.heap.size+5]? =some (.cells #[.string s] av (0,0)):=by
  rw[<-hW0];have h:=B0 (((((w.alloc (.cells #[.int .i64 (i:Int)] 3)).alloc (.cells #[.int .i32 0] 21)).alloc (.cells #[.int .i64 0] 3)).alloc (.cells #[.int .i64 0] 3)).alloc (.cells #[.bool false] 4)) (.cells #[.string s] av);simpa using h
 have b0:W0.heap[w.heap.size]? =some (.cells #[.int .i64 (i:Int)] 3 (0,0)):=by
  rw[<-hW0];have h:=B0 w (.cells #[.int .i64 (i:Int)] 3);rw[show w.heap.size=w.heap.size by simp]at h;exact(Below.heap_alloc _ _ _ (by first|(simp;done)|(simp;omega))).trans ((Below.heap_alloc _ _ _ (by first|(simp;done)|(simp;omega))).trans ((Below.heap_alloc _ _ _ (by first|(simp;done)|(simp;omega))).trans ((Below.heap_alloc _ _ _ (by first|(simp;done)|(simp;omega))).trans ((Below.heap_alloc _ _ _ (by first|(simp;done)|(simp;omega))).trans (h)))))
 have b1:W0.heap[w.heap.size+1]? =some (.cells #[.int .i32 0] 21 (0,0)):=by
  rw[<-hW0];have h:=B0 (w.alloc (.cells #[.int .i64 (i:Int)] 3)) (.cells #[.int .i32 0] 21);rw[show(w.alloc (.cells #[.int .i64 (i:Int)] 3)).heap.size=w.heap.size+1 by simp]at h;exact(Below.heap_alloc _ _ _ (by first|(simp;done)|(simp;omega))).trans ((Below.heap_alloc _ _ _ (by first|(simp;done)|(simp;omega))).trans ((Below.heap_alloc _ _ _ (by first|(simp;done)|(simp;omega))).trans ((Below.heap_alloc _ _ _ (by first|(simp;done)|(simp;omega))).trans (h))))
 have b2:W0.heap[w.heap.size+2]? =some (.cells #[.int .i64 0] 3 (0,0)):=by
  rw[<-hW0];have h:=B0 ((w.alloc (.cells #[.int .i64 (i:Int)] 3)).alloc (.cells #[.int .i32 0] 21)) (.cells #[.int .i64 0] 3);rw[show((w.alloc (.cells #[.int .i64 (i:Int)] 3)).alloc (.cells #[.int .i32 0] 21)).heap.size=w.heap.size+2 by simp]at h;exact(Below.heap_alloc _ _ _ (by first|(simp;done)|(simp;omega))).trans ((Below.heap_alloc _ _ _ (by first|(simp;done)|(simp;omega))).trans ((Below.heap_alloc _ _ _ (by first|(simp;done)|(simp;omega))).trans (h)))
 have b3:W0.heap[w.heap.size+3]? =some (.cells #[.int .i64 0] 3 (0,0)):=by
  rw[<-hW0];have h:=B0 (((w.alloc (.cells #[.int .i64 (i:Int)] 3)).alloc (.cells #[.int .i32 0] 21)).alloc (.cells #[.int .i64 0] 3)) (.cells #[.int .i64 0] 3);rw[show(((w.alloc (.cells #[.int .i64 (i:Int)] 3)).alloc (.cells #[.int .i32 0] 21)).alloc (.cells #[.int .i64 0] 3)).heap.size=w.heap.size+3 by simp]at h;exact(Below.heap_alloc _ _ _ (by first|(simp;done)|(simp;omega))).trans ((Below.heap_alloc _ _ _ (by first|(simp;done)|(simp;omega))).trans (h))
 have b4:W0.heap[w.heap.size+4]? =some (.cells #[.bool false] 4 (0,0)):=by
  rw[<-hW0];have h:=B0 ((((w.alloc (.cells #[.int .i64 (i:Int)] 3)).alloc (.cells #[.int .i32 0] 21)).alloc (.cells #[.int .i64 0] 3)).alloc (.cells #[.int .i64 0] 3)) (.cells #[.bool false] 4);rw[show((((w.alloc (.cells #[.int .i64 (i:Int)] 3)).alloc (.cells #[.int .i32 0] 21)).alloc (.cells #[.int .i64 0] 3)).alloc (.cells #[.int .i64 0] 3)).heap.size=w.heap.size+4 by simp]at h;exact(Below.heap_alloc _ _ _ (by first|(simp;done)|(simp;omega))).trans (h)
 clear hW0 B0;have hcs:W0.cell? ⟨w.heap.size+5,0,none⟩=some (.string s):=bW b5 rfl;refine Vl hro h1 (gf:=320) (lb:= #[.pointer (some ⟨w.heap.size+5,0,none⟩)]) rfl h128 (enters_of Tryz.func320 (by kernel_rfl) rfl)
  (Tryz.units1_it F (n -1) h128 hro (by omega) s hs ha (λk=>k=w.heap.size+5) (w.heap.size+5) rfl W0 (λ_ h=>by omega) hcs) (λ_ h=>by omega) (λ_=>rfl)
  (λk W=>GrL w.heap.size w W/\k<=i/\Bx W w.heap.size #[.int .i64 ((i:Int) - (k:Int))]/\Bx W (w.heap.size+1) #[.int .i32 0]/\Bx W (w.heap.size+2) #[.int .i64 0]/\Bx W (w.heap.size+3) #[.int .i64 0]/\Bx W (w.heap.size+4) #[.bool false])
  (λk W=>GrL w.heap.size w W/\k=i/\Bx W (w.heap.size+1) #[.int .i32 (Sj s i)]/\Bx W (w.heap.size+2) #[.int .i64 (i:Int)]/\Bx W (w.heap.size+3) #[.int .i64 1]/\Bx W (w.heap.size+4) #[.bool true])
  (λk A C hs hg0=>have hg:=hg0.toL;⟨hs.1.trans (hg.mono (by omega)),hs.2.1,hs.2.2.1.keep (hg.low _ (by omega)),hs.2.2.2.1.keep (hg.low _ (by omega)),hs.2.2.2.2.1.keep (hg.low _ (by omega)),hs.2.2.2.2.2.1.keep (hg.low _ (by omega)),hs.2.2.2.2.2.2.keep (hg.low _ (by omega))⟩)
  (λk A C hs hg0=>have hg:=hg0.toL;⟨hs.1.trans (hg.mono (by omega)),hs.2.1,hs.2.2.1.keep (hg.low _ (by omega)),hs.2.2.2.1.keep (hg.low _ (by omega)),hs.2.2.2.2.1.keep (hg.low _ (by omega)),hs.2.2.2.2.2.keep (hg.low _ (by omega))⟩)
  ⟨g0,Nat.zero_le _, .of (by simpa using b0), .of b1, .of b2, .of b3, .of b4⟩
  (λk a' W=>∃Br,W0.heap.size+2<=Br/\W.heap[Br]? =some (.cells #[.int .i32 (Sj s k), .int .i64 (k:Int), .int .i64 1] 289 (0,0))/\
    a'={ tmps:= #[.string s, .int .i64 (i:Int),undef, .pointer (some ⟨w.heap.size,0,none⟩), .pointer (some ⟨w.heap.size+1,0,none⟩), .pointer (some ⟨w.heap.size+1+1,0,none⟩), .pointer (some ⟨w.heap.size+1+1+1,0,none⟩), .pointer (some ⟨w.heap.size+1+1+1+1,0,none⟩), .pointer (some ⟨Br,0,none⟩), .string s, .func (.func 320) #[] #[.pointer (some ⟨w.heap.size+1+1+1+1+1,0,none⟩)], .agg #[.int .i32 (Sj s k), .int .i64 (k:Int), .int .i64 1],undef,undef,undef,undef,undef,undef,undef,undef,undef,undef],defers:=[] })
  (λa' k W o hlt hs=>by
    obtain⟨Br,q1,q2,q3⟩:=hs;exact⟨Br,q1,(World.putObj_heap_other (by omega)).trans q2,q3⟩)
  ?assign ?body ?done ?stop
 case assign=>
  rintro l k W hsz2 hl ⟨i1,ik,i2,i3,i4,i5,i6⟩ hk;rw[UQ];generalize Sj s k=c
  gi_wp2
  exact⟨(KeepsOthers.alloc _ _).from _,KBt.alloc _ _ _ _,⟨i1.trans (GrL.alloc W i1.size _),ik,i2.keep (Below.heap_alloc _ _ _ (by omega)),i3.keep (Below.heap_alloc _ _ _ (by omega)),i4.keep (Below.heap_alloc _ _ _ (by omega)),i5.keep (Below.heap_alloc _ _ _ (by omega)),i6.keep (Below.heap_alloc _ _ _ (by omega))⟩,W.heap.size,by omega,World.alloc_heap_new W _,rfl⟩
 case body=>
  rintro l k a' W hsz2 hl ⟨i1,ik,i2,i3,i4,i5,i6⟩ ⟨Br,hBr,bR,rfl⟩ hk;obtain⟨rfl⟩:=hF;generalize hc:Sj s k=c at bR;obtain⟨B,hB⟩:∃B,B=w.heap.size:=⟨_,rfl⟩
  rw[<-hB]at i1 i2 i3 i4 i5 i6 hsz;obtain⟨H,hH⟩:∃H,H=gT [(3,Res.box B [.v (.int .i64 ((i:Int) - (k:Int)))]),(4, .box (B+1) [.v (.int .i32 0)]),(5, .box (B+2) [.v (.int .i64 0)]),(6, .box (B+3) [.v (.int .i64 0)]),(7, .box (B+4) [.v (.bool false)])] dm:=⟨_,rfl⟩
  have hown:∀b,bG H b->B<=b/\b<W0.heap.size/\ ¬b=B+5:=by
   rintro b ⟨j,r,hj,hb⟩;rw[hH]at hj;have hj:=dV hj;simp only[List.mem_cons,Prod.mk.injEq,List.not_mem_nil,or_false]at hj;rcases hj with⟨rfl,rfl⟩|⟨rfl,rfl⟩|⟨rfl,rfl⟩|⟨rfl,rfl⟩|⟨rfl,rfl⟩ <;>simp only[Res.blk,Option.some.injEq]at hb<;>omega
  have hst:St (Nl W H 22 []) (dI [.any, .any, .any, .bptr 3 B 0, .bptr 4 (B+1) 0, .bptr 5 (B+2) 0, .bptr 6 (B+3) 0, .bptr 7 (B+4) 0, .cptr [.v (.int .i32 c), .v (.int .i64 (k:Int)), .v (.int .i64 1)] 0]) H { tmps:= #[.string s, .int .i64 (i:Int),undef, .pointer (some ⟨w.heap.size,0,none⟩), .pointer (some ⟨w.heap.size+1,0,none⟩), .pointer (some ⟨w.heap.size+1+1,0,none⟩), .pointer (some ⟨w.heap.size+1+1+1,0,none⟩), .pointer (some ⟨w.heap.size+1+1+1+1,0,none⟩), .pointer (some ⟨Br,0,none⟩), .string s, .func (.func 320) #[] #[.pointer (some ⟨w.heap.size+1+1+1+1+1,0,none⟩)], .agg #[.int .i32 c, .int .i64 (k:Int), .int .i64 1],undef,undef,undef,undef,undef,undef,undef,undef,undef,undef],defers:=[] } W:=by
   refine qAG rfl ?_ ?_ ?_
   ·rw[hH];exact qkJ (by omega)
   ·intro j r hj;rw[hH]at hj;have hj:=dV hj;simp only[List.mem_cons,Prod.mk.injEq,List.not_mem_nil,or_false]at hj;rcases hj with⟨rfl,rfl⟩|⟨rfl,rfl⟩|⟨rfl,rfl⟩|⟨rfl,rfl⟩|⟨rfl,rfl⟩
    ·exact i2.box1 rfl (.int _ _)
    ·exact i3.box1 rfl (.int _ _)
    ·exact i4.box1 rfl (.int _ _)
    ·exact i5.box1 rfl (.int _ _)
    ·exact i6.box1 rfl (.bool _)
   ·intro t;rw[<-hB];rcases t with _|_|_|_|_|_|_|_|_|t
    ·exact .any _
    ·exact .any _
    ·exact .any _
    ·exact .bptr 3 B 0
    ·exact .bptr 4 (B+1) 0
    ·exact .bptr 5 (B+2) 0
    ·exact .bptr 6 (B+3) 0
    ·exact .bptr 7 (B+4) 0
    ·have hbx:Bx W Br #[.int .i32 c, .int .i64 (k:Int), .int .i64 1]:= .of bR;exact Bx.cptr [.int .i32 c, .int .i64 (k:Int), .int .i64 1] hbx ⟨hbx.lt,λh=>h,λh=>h,λh=>by have:=hown Br h;omega⟩ (λx hx=>by
      simp only[List.mem_cons,List.not_mem_nil,or_false]at hx;rcases hx with rfl|rfl|rfl<;>exact⟨rfl, .int _ _⟩)
    ·exact .any _
  have hik:(i:Int)<=100000:=by omega
  have hv:vc qEs kD (λe _ H'=>match e with
   | .norm=>k<i/\H' 3=some (.box B [.v (.int .i64 ((i:Int) - (k:Int) -1))])/\H' 4=H 4/\H' 5=H 5/\H' 6=H 6/\H' 7=H 7
   | .ret=>k=i/\H' 4=some (.box (B+1) [.v (.int .i32 c)])/\H' 5=some (.box (B+2) [.v (.int .i64 (k:Int))])/\H' 6=some (.box (B+3) [.v (.int .i64 1)])/\H' 7=some (.box (B+4) [.v (.bool true)])
   | _=>False) (dI [.any, .any, .any, .bptr 3 B 0, .bptr 4 (B+1) 0, .bptr 5 (B+2) 0, .bptr 6 (B+3) 0, .bptr 7 (B+4) 0, .cptr [.v (.int .i32 c), .v (.int .i64 (k:Int)), .v (.int .i64 1)] 0]) H:=by
   rw[hH];by_cases hki:k=i
   ·subst hki;simp[kD,-fB',-eB']
   ·have hne:¬(i:Int) - (k:Int)=0:=by omega
    simp[kD,hne,-fB',-eB'];exact⟨by simp only[InR];omega,by omega⟩
  have hBk:∀b,bG H b->b<W0.heap.size/\ ¬(b=w.heap.size+5):=λb hb=>by have:=hown b hb;omega
  refine wpIn_mono (Ys (S:=qEs) (im:=[2007007,2006006,2005005,2004004]) (λf=>YG _ f) mixed (cc:=kD) (by kernel_rfl) hst hv) ?_;rintro e a2 W2 he;cases e with
  | normal=>
    obtain⟨σ2,H2,hst2,hlt,e3,e4,e5,e6,e7⟩:=he;have hs2:=Nv hst2;have hg:=hs2.grL (B:=B) (λb hb=>(hown b hb).1) (by omega);refine⟨hs2.kf (λb hb=>(hBk b hb).1),hs2.kbt hBk,?_⟩;rw[<-hB];rw[hH]at e4 e5 e6 e7;refine⟨i1.trans hg,by omega,?_,zW hst2 [_] e4,zW hst2 [_] e5,zW hst2 [_] e6,zW hst2 [_] e7⟩;have:=zW hst2 [_] e3;rwa [show(i:Int) - ((k+1:Nat):Int)=(i:Int) - (k:Int) -1 by omega]
  | ret=>
    obtain⟨σ2,H2,hst2,rfl,e4,e5,e6,e7⟩:=he;have hs2:=Nv hst2;have hg:=hs2.grL (B:=B) (λb hb=>(hown b hb).1) (by omega);refine⟨hs2.kf (λb hb=>(hBk b hb).1),?_⟩;rw[<-hB,hc];exact⟨i1.trans hg,rfl,zW hst2 [_] e4,zW hst2 [_] e5,zW hst2 [_] e6,zW hst2 [_] e7⟩
  |exit id=>obtain⟨_,_,_,h⟩:=he;exact h.elim
  |goto t=>exact he.elim
  |panic ch=>exact he.elim
  |outgrown=>exact he.elim
 case done=>
  rintro D W hD ⟨i1,ik,i2,⟨t3,i3⟩,⟨t4,i4⟩,⟨t5,i5⟩,⟨t6,i6⟩⟩ hK;have his:i=s.size:=by omega
  have q3:W.cell? ⟨w.heap.size+1,0,none⟩=some (.int .i32 0):=bW i3 rfl;have q4:W.cell? ⟨w.heap.size+1+1,0,none⟩=some (.int .i64 0):=bW i4 rfl;have q5:W.cell? ⟨w.heap.size+1+1+1,0,none⟩=some (.int .i64 0):=bW i5 rfl;have q6:W.cell? ⟨w.heap.size+1+1+1+1,0,none⟩=some (.bool false):=bW i6 rfl;have f3:W.frozen? ⟨w.heap.size+1,0,none⟩=false:=sD i3;have f4:W.frozen? ⟨w.heap.size+1+1,0,none⟩=false:=sD i4;have f5:W.frozen? ⟨w.heap.size+1+1+1,0,none⟩=false:=sD i5;have f6:W.frozen? ⟨w.heap.size+1+1+1+1,0,none⟩=false:=sD i6
  gi_wp2
  have g:=((((GrL.setCell (k:=0) (W:=W) (show w.heap.size<=w.heap.size+1 by omega) (.int .i32 0)).trans (GrL.setCell (k:=0) (show w.heap.size<=w.heap.size+1+1 by omega) (.int .i64 0))).trans (GrL.setCell (k:=0) (show w.heap.size<=w.heap.size+1+1+1 by omega) (.int .i64 0))).trans (GrL.setCell (k:=0) (show w.heap.size<=w.heap.size+1+1+1+1 by omega) (.bool false)))
  have k4:∀(X:World) (b:Nat) (x:Value),b≠w.heap.size+4->(X.setCell ⟨w.heap.size+1+1+1+1,0,none⟩ x).heap[b]? =X.heap[b]?:=λX b x h=>Below.heap_setCell _ _ _ _ (by show b≠w.heap.size+1+1+1+1;omega)
  have k3:∀(X:World) (b:Nat) (x:Value),b≠w.heap.size+3->(X.setCell ⟨w.heap.size+1+1+1,0,none⟩ x).heap[b]? =X.heap[b]?:=λX b x h=>Below.heap_setCell _ _ _ _ (by show b≠w.heap.size+1+1+1;omega)
  have k2:∀(X:World) (b:Nat) (x:Value),b≠w.heap.size+2->(X.setCell ⟨w.heap.size+1+1,0,none⟩ x).heap[b]? =X.heap[b]?:=λX b x h=>Below.heap_setCell _ _ _ _ (by show b≠w.heap.size+1+1;omega)
  have k1:∀(X:World) (b:Nat) (x:Value),b≠w.heap.size+1->(X.setCell ⟨w.heap.size+1,0,none⟩ x).heap[b]? =X.heap[b]?:=λX b x h=>Below.heap_setCell _ _ _ _ h
  refine qmi (D:=D) (by omega) (.of (((k4 _ _ _ (by omega)).trans ((k3 _ _ _ (by omega)).trans (k2 _ _ _ (by omega)))).trans (rP i3))) (.of (((k4 _ _ _ (by omega)).trans (k3 _ _ _ (by omega))).trans (rP ((k1 _ _ _ (by omega)).trans i4)))) (.of ((k4 _ _ _ (by omega)).trans (rP ((k2 _ _ _ (by omega)).trans ((k1 _ _ _ (by omega)).trans i5))))) (.of (rP ((k3 _ _ _ (by omega)).trans ((k2 _ _ _ (by omega)).trans ((k1 _ _ _ (by omega)).trans i6)))))
   ((k4 _ _ _ (by omega)).trans ((k3 _ _ _ (by omega)).trans ((k2 _ _ _ (by omega)).trans ((k1 _ _ _ (by omega)).trans hK)))) (i1.trans g) rfl rfl rfl rfl ?_
  intro V' hg';refine⟨?_,hg'⟩;unfold qwA;rw[if_neg (by omega)]
 case stop=>
  rintro D k W hD hk ⟨i1,rfl,⟨t3,i3⟩,⟨t4,i4⟩,⟨t5,i5⟩,⟨t6,i6⟩⟩ hK
  gi_wp2
  refine qmi (D:=D) (by omega) (.of i3) (.of i4) (.of i5) (.of i6) hK i1 rfl rfl rfl rfl ?_;intro V' hg';refine⟨?_,hg'⟩;unfold qwA;rw[if_pos hk]
end Go.Proofs
namespace Go.Gv
section
open Go.Proofs Go.RowKit
open Cod (enc dec)
variable {dq:Prop}
def qlL{s:B}(h:yC s=true):∀(k:Nat) (hk:k<s.size),(s[k]'hk).toNat< 128:=λk hk=>by
 have hl:k<s.data.toList.length:=by rw[qGV];exact hk
 have:=qGa.1 h _ (qHE hl);have h2:s.data[k].toNat< 128:=by simpa using this
 exact h2
def GrL.below{w w':World}(h:GrL w.heap.size w w'):Below w.heap.size w w':=⟨h.os,h.tape,h.output,h.size,h.low⟩
def Sv:Tri dq Tryz.prog pV s_cpVal.pt:=by
 refine uC (iz Tryz.func256 (by kernel_rfl) rfl) λtp I w vs s hp hI hl b=>?_
 obtain⟨d,h⟩:=hp;have a:(a1 B).view s=[.v (.string s)]:=rfl;rw[a]at hl b
 match vs,hl with
 | [j],_=>
   have k:=HH (b 0 j _ rfl rfl);subst k;refine(callsIn_wide (n:=10)).1 ((Tryz.Valid_in Fence.wide 10 trivial trivial trivial trivial rfl (by omega) s (by omega) (qlL d) w).mono ?_);rintro e w' ⟨rfl,c⟩;exact⟨_,true,rfl,rfl,λl p=> .bool _,c.below,c.drawn⟩
def qss(s:B)(i:Nat):(qmp s (i:Int)=(⟨Sj s i⟩,(i:Int),1,true)/\i<s.size)\/(qmp s (i:Int)=(⟨0⟩,0,0,false)/\ ¬i<s.size):=by
 by_cases h:i<s.size
 ·left;obtain⟨c,hc⟩:∃c,s.data[i]? =some c:=⟨s.data[i]'h,qGY h⟩
  refine⟨?_,h⟩;have e:s.data.toList[i]? =some c:=by rw[qGx];exact hc
  simp[qmp,hc,Sj,e]
 ·right;refine⟨?_,h⟩;have:s.data[i]? =none:=qHS (by have:s.size=s.data.size:=rfl;omega);simp[qmp,this]
def R4{tp I:Nat->Prop}{w:World}{a b c d:Value}{l b' c' p:D}(h1:R tp I w a l)(h2:R tp I w b b')(h3:R tp I w c c')(h4:R tp I w d p):R tp I w (.tuple #[a,b,c,d]) (.tup [l,b',c',p]):=
 R.tup [a,b,c,d] [l,b',c',p] rfl λk x y h j=>by
  rcases k with _|_|_|_|k
  ·cases h;cases j;exact h1
  ·cases h;cases j;exact h2
  ·cases h;cases j;exact h3
  ·cases h;cases j;exact h4
  ·cases h
theorem qqt:Tri dq Tryz.prog Dv s_cpAt.pt:=by
 refine uC (iz Tryz.func269 (by kernel_rfl) rfl) λtp I w vs x hp hI hl c=>?_
 obtain⟨s,i⟩:=x;obtain⟨d,h,h0,h1⟩:=hp;simp only at d h h0 h1;have a:(a2 B Int).view (s,i)=[.v (.string s), .v (.int .i64 i)]:=rfl;rw[a]at hl c
 match vs,hl with
 | [l,v1],_=>
   have p:=HH (c 0 l _ rfl rfl);have q:=HH (c 1 v1 _ rfl rfl);subst p q;obtain⟨j,rfl⟩:∃j:Nat,i=(j:Int):=⟨i.toNat,by omega⟩
   refine(callsIn_wide (n:=10)).1 ((Tryz.At_in Fence.wide ⟨rfl⟩ 10 trivial trivial trivial rfl (by omega) s (by omega) (qlL h) j (by omega) w).mono ?_);rintro e w' ⟨rfl,k⟩;refine⟨_,qmp s j,rfl,rfl,λr t=>?_,k.below,k.drawn⟩;rcases qss s j with⟨e,b⟩|⟨e,b⟩
   ·rw[e];unfold qwA;rw[if_pos b];exact R4 (.int _ _) (.int _ _) (.int _ _) (.bool _)
   ·rw[e];unfold qwA;rw[if_neg b];exact R4 (.int _ _) (.int _ _) (.int _ _) (.bool _)
end
section
open Cod (enc dec)
variable {S S0:Nat->Spc}
abbrev NB:Spc:=ax (a1 I32) (λc=>0<=c.val/\c.val< 128) (enc (X:=I32)) λc y=>y=⟨low c.val⟩
theorem HA:aq fH fB S (a1 I32) (λc=>0<=c.val/\c.val< 128) (enc (X:=I32)) λc y=>y=⟨low c.val⟩:=by
 rintro⟨c⟩ ⟨h0,h1⟩;simp only at h0 h1;have d:¬(192:Int)<=c:=by omega
 have j:¬(913:Int)<=c:=by omega
 have k:¬(1040:Int)<=c:=by omega
 have l:¬(1024:Int)<=c:=by omega
 by_cases a:(65:Int)<=c
 ·by_cases b:c<=90
  ·have e:low c=c+32:=by unfold low;rw[if_pos ⟨a,b⟩]
   simp[fH,fB,a,b,e,-fB',-eB'];exact⟨by simp only[InR];omega,aL (⟨c+32⟩:I32) (.same _) rfl⟩
  ·have e:low c=c:=by unfold low;rw[if_neg (λh=>b h.2)]
   simp[fH,fB,a,b,d,j,k,l,e,-fB',-eB'];exact aL (⟨c⟩:I32) (.same _) rfl
 ·have e:low c=c:=by unfold low;rw[if_neg (λh=>a h.1)]
  simp[fH,fB,a,d,j,k,l,e,-fB',-eB'];exact aL (⟨c⟩:I32) (.same _) rfl
end
end Go.Gv
namespace Go.Proofs
open Go.RowKit Go.Shelf Go.Gv
variable {dq:Prop}
attribute [local go_sem] Oper.semAt_some
def VQ:Value->D->Prop:=λx d=>∃n:Int,x= .int .u8 n/\d= .v (.int .u8 n)
def qdv(l:List Int):List D:=l.map λn=> .v (.int .u8 n)
def qbh:∀l:List Int,bq (qdv l)=qdv l
  | []=>rfl
  | b::l=>by
    have ih:=qbh l;unfold qdv bq at ih ⊢;rw[List.map_cons,List.flatMap_cons,ih];rfl
def qe1(c:Int)(k:Nat):List Int:=if k=0 then[]else[low c]
def qw1(B Z:Nat)(v:Value):Prop:=∀b,v.ownBlock=some b->B<b/\b≠B+2/\b≠B+3/\(b<Z\/Z+4<=b)
def V0(B k:Nat)(v:Value):Prop:=k=0->v= .slice (some ⟨B+1,0,none⟩) 0 1
structure qwW (s:ByteArray) (c:Int):Prop where
  e:s=lI c
def RowB(W:World)(v:Value)(l:List Int):Prop:=ResOk VQ W (.row v sq 1 (qdv l))
def VQ.R{tp I:Nat->Prop}{w:World}{x:Value}{d:D}(h:VQ x d):R tp I w x d:=by
  obtain⟨n,rfl,rfl⟩:=h;exact .int _ _
def RowB.keep{W W':World}{v:Value}{l:List Int}(h:RowB W v l)(hb:∀b,v.ownBlock=some b->W'.heap[b]? =W.heap[b]?):RowB W' v l:=h.conv (λ_ _ h=>h) hb
def RowB.res{tp I:Nat->Prop}{W:World}{v:Value}{l:List Int}(h:RowB W v l):ResOk (R tp I W) W (.row v sq 1 (qdv l)):=h.conv (λ_ _ h=>h.R) (λ_ _=>rfl)
def qjl{tp I:Nat->Prop}{W:World}{v:Value}{l:List Int}(h:ResOk (R tp I W) W (.row v sq 1 (qdv l))):RowB W v l:=by
  obtain⟨xs,h1,h2,h3⟩:=h;refine⟨xs,h1,h2,λk y c hy hc=>⟨(h3 k y c hy hc).1,?_⟩⟩;have hfl:=qbh l;have hc2:=hc;rw[hfl]at hc2;unfold qdv at hc2;rw[List.getElem?_map]at hc2;obtain⟨n,_,rfl⟩:=Option.map_eq_some_iff.1 hc2;exact⟨n,(h3 k y _ hy hc).2.inv_v,rfl⟩
theorem RowB.blk{W:World}{v:Value}{l:List Int}(h:RowB W v l){b:Nat}(hb:v.ownBlock=some b):∃xs el,W.heap[b]? =some (.cells xs el (0,0)):=by
  obtain⟨xs,h1,_⟩:=h;rcases h1.2 with⟨rfl,_⟩|⟨g,cap,cur,rfl,_,hg,_⟩
  · cases hb
  · cases hb;exact⟨_,_,hg⟩
theorem RowB.one{W:World}{v:Value}{l:List Int}(h:RowB W v l):v.oneCell'=true:=by
  obtain⟨xs,h1,_⟩:=h;rcases h1.2 with⟨rfl,_⟩|⟨g,cap,cur,rfl,_⟩ <;>rfl
def YW{c:Int}(h0:0<=c)(h1:c< 128):HV (lI c)=qdv [c]:=by
  have e:(c.toNat.toUInt8).toNat=c.toNat % 256:=UInt8.toNat_ofNat' ..;have e2:((c.toNat.toUInt8).toNat:Int)=c:=by omega
  show[D.v (.int .u8 ((c.toNat.toUInt8).toNat:Int))]=[D.v (.int .u8 c)]
  rw[e2]
def Ls:CC:= .seq (.reg [oC 34 1 3,oB 35 (.bstr (oT 34)),oA 2 35]) .ret
set_option maxRecDepth 100000 in
set_option maxHeartbeats 4000000 in
theorem Tryz.Fold_in{S:Nat->Spc}(hS:∀f,Tri True Tryz.prog f (S f).pt)(hlo:S eT=NB)(F:Fence)(hF:qFa F)(n:Nat)(h105:F.fn 309)(h95:F.fn 296)(h128:F.fn 320)(hro:F.round=none)(hn:10<=n)(c:Int)(c0:0<=c)(c1:c< 128)(w:World):
    CallsIn F n Tryz.prog 309 #[.string (lI c)] w λe W'=>e= .returned (.string (lI (low c)))/\GrL w.heap.size w W':=by
  have h1:1<=n:=by omega
  refine callsIn_of_wp_marks Tryz.func309 rfl h105 ?_ hro;simp only[Tryz.ntmps309,List.size_toArray,List.length_cons,List.length_nil,Nat.reduceAdd,Nat.reduceSub,Array.replicate_succ,Array.replicate_zero,List.push_toArray,List.append_toArray,List.nil_append,List.cons_append];obtain⟨s,hs0⟩:∃s:ByteArray,s=lI c:=⟨_,rfl⟩
  have hs:qwW s c:=⟨hs0⟩
  have hsz:s.size=1:=by rw[hs0];rfl
  have hmk:∀w,(Instr.makeSlice 290 (.int .i64 0) (.int .i64 1)).run Tryz.prog w= .ok (.slice (some ⟨w.heap.size,0,none⟩) 0 1) (w.alloc (.cells #[.int .u8 0] 5)):=λ_=>by kernel_rfl
  have hsl:(s.size:Int)=1:=by omega
  rw[<-hs0];clear hs0
  gi_wp2_with (gi_at_call 296;refine(Tryz.units_in F (n -1) h95 hro _ _).mono ?_;rintro e w' ⟨rfl,rfl⟩)
  obtain⟨B,hB⟩:∃B,B=w.heap.size:=⟨_,rfl⟩
  obtain⟨W0,hW0⟩:∃W0,(((w.alloc (.cells #[.string s] 9)).alloc (.cells #[.int .u8 0] 5)).alloc (.cells #[.slice (some ⟨w.heap.size+1,0,none⟩) 0 1] 290)).alloc (.cells #[.string s] av)=W0:=⟨_,rfl⟩
  rw[hW0];have hsz0:W0.heap.size=w.heap.size+4:=by rw[<-hW0];simp
  have g0:GrL w.heap.size w W0:=by
    rw[<-hW0];exact(((GrL.alloc w (Nat.le_refl _) _).trans (GrL.alloc _ (by simp) _)).trans (GrL.alloc _ (by first|(simp;done)|(simp;omega)) _)).trans (GrL.alloc _ (by first|(simp;done)|(simp;omega)) _)
  have B0:∀W:World,∀o:Obj,(W.alloc o).heap[W.heap.size]? =some o:=λW o=>World.alloc_heap_new W o
  have b3:W0.heap[w.heap.size+3]? =some (.cells #[.string s] av (0,0)):=by
    rw[<-hW0];have h:=B0 (((w.alloc (.cells #[.string s] 9)).alloc (.cells #[.int .u8 0] 5)).alloc (.cells #[.slice (some ⟨w.heap.size+1,0,none⟩) 0 1] 290)) (.cells #[.string s] av);simpa using h
  have b0:W0.heap[w.heap.size]? =some (.cells #[.string s] 9 (0,0)):=by
    rw[<-hW0];have h:=B0 w (.cells #[.string s] 9);exact(Below.heap_alloc _ _ _ (by first|(simp;done)|(simp;omega))).trans ((Below.heap_alloc _ _ _ (by first|(simp;done)|(simp;omega))).trans ((Below.heap_alloc _ _ _ (by first|(simp;done)|(simp;omega))).trans h))
  have b1:W0.heap[w.heap.size+1]? =some (.cells #[.int .u8 0] 5 (0,0)):=by
    rw[<-hW0];have h:=B0 (w.alloc (.cells #[.string s] 9)) (.cells #[.int .u8 0] 5);rw[show(w.alloc (.cells #[.string s] 9)).heap.size=w.heap.size+1 by simp]at h;exact(Below.heap_alloc _ _ _ (by first|(simp;done)|(simp;omega))).trans ((Below.heap_alloc _ _ _ (by first|(simp;done)|(simp;omega))).trans h)
  have b2:W0.heap[w.heap.size+2]? =some (.cells #[.slice (some ⟨w.heap.size+1,0,none⟩) 0 1] 290 (0,0)):=by
    rw[<-hW0];have h:=B0 ((w.alloc (.cells #[.string s] 9)).alloc (.cells #[.int .u8 0] 5)) (.cells #[.slice (some ⟨w.heap.size+1,0,none⟩) 0 1] 290);rw[show((w.alloc (.cells #[.string s] 9)).alloc (.cells #[.int .u8 0] 5)).heap.size=w.heap.size+2 by simp]at h;exact(Below.heap_alloc _ _ _ (by first|(simp;done)|(simp;omega))).trans h
  clear hW0 B0;have ha:∀(k:Nat) (h:k<s.size),(s[k]'h).toNat< 128:=λk h=>by
    have hk0:k=0:=by omega
    subst hk0;obtain⟨rfl⟩:=hs;show(c.toNat.toUInt8).toNat< 128;have e:(c.toNat.toUInt8).toNat=c.toNat % 256:=UInt8.toNat_ofNat' ..;omega
  have hcA:Sj s 0=c:=by
    obtain⟨rfl⟩:=hs;show((c.toNat.toUInt8).toNat:Int)=c;have e:(c.toNat.toUInt8).toNat=c.toNat % 256:=UInt8.toNat_ofNat' ..;omega
  have hrow0:RowB W0 (.slice (some ⟨w.heap.size+1,0,none⟩) 0 1) []:=⟨[],⟨rfl, .inr ⟨w.heap.size+1,1, #[.int .u8 0],rfl,Nat.zero_le _,b1,Nat.zero_le _,by decide,rfl,rfl⟩⟩,by simp[qdv],λk y c hy=>by simp at hy⟩
  have hfar0:qw1 w.heap.size W0.heap.size (.slice (some ⟨w.heap.size+1,0,none⟩) 0 1):=λb hb=>by
    have hbe:b=w.heap.size+1:=by cases hb;rfl
    omega
  have hcs:W0.cell? ⟨w.heap.size+3,0,none⟩=some (.string s):=bW b3 rfl;refine Vl hro h1 (gf:=320) (lb:= #[.pointer (some ⟨w.heap.size+3,0,none⟩)]) rfl h128 (enters_of Tryz.func320 (by kernel_rfl) rfl)
    (Tryz.units1_it F (n -1) h128 hro (by omega) s (by omega) ha (λk=>k=w.heap.size+3) (w.heap.size+3) rfl W0 (λ_ h=>by omega) hcs) (λ_ h=>by omega) (λ_=>rfl)
    (λk W=>GrL w.heap.size w W/\Bx W w.heap.size #[.string s]/\∃v,Bx W (w.heap.size+2) #[v]/\RowB W v (qe1 c k)/\qw1 w.heap.size W0.heap.size v/\V0 w.heap.size k v)
    (λ_ _=>False)
    (λk A C hs hg0=>by
      have hg:=hg0.toL;obtain⟨i1,i2,v,i3,i4,i5,i6⟩:=hs;exact⟨i1.trans (hg.mono (by omega)),i2.keep (hg.low _ (by omega)),v,i3.keep (hg.low _ (by omega)),i4.keep (λb hb=>by
        obtain⟨xs,el,hx⟩:=i4.blk hb;exact(hg0.get hx (i5 b hb).2.2.2).trans hx.symm),i5,i6⟩)
    (λ_ _ _ hs _=>hs)
    ⟨g0, .of b0,_, .of b2,hrow0,hfar0,λ_=>rfl⟩
    (λk a' W=>∃Br,W0.heap.size+4<=Br/\W.heap[Br]? =some (.cells #[.int .i32 (Sj s k), .int .i64 (k:Int), .int .i64 1] 289 (0,0))/\(∀v,W.cell? ⟨w.heap.size+2,0,none⟩=some v->v.ownBlock≠some Br)/\
      a'={ tmps:= #[.string s, .pointer (some ⟨w.heap.size,0,none⟩), .string { data:= #[] }, .pointer (some ⟨w.heap.size+1+1,0,none⟩), .pointer (some ⟨Br,0,none⟩),undef, .string s, .int .i64 1, .slice (some ⟨w.heap.size+1,0,none⟩) 0 1, .string s, .func (.func 320) #[] #[.pointer (some ⟨w.heap.size+1+1+1,0,none⟩)], .agg #[.int .i32 (Sj s k), .int .i64 (k:Int), .int .i64 1],undef,undef,undef,undef,undef,undef,undef,undef,undef,undef,undef,undef,undef,undef,undef,undef,undef,undef,undef,undef,undef,undef,undef,undef],defers:=[] })
    (λa' k W o hlt hs=>by
      obtain⟨Br,q1,q2,q3,q4⟩:=hs;refine⟨Br,q1,(World.putObj_heap_other (by omega)).trans q2,λv hv=>q3 v ?_,q4⟩;rw[World.cell?_of_block (World.putObj_heap_other (by show w.heap.size+2≠W0.heap.size+1;omega))]at hv;exact hv)
    ?assign ?body ?done ?stop
  case assign=>
    rintro l k W hsz2 hl ⟨i1,i2,v,i3,i4,i5,i6⟩ hk;rw[UQ];generalize Sj s k=c
    gi_wp2
    refine⟨(KeepsOthers.alloc _ _).from _,KBt.alloc _ _ _ _,⟨i1.trans (GrL.alloc W i1.size _),i2.keep (Below.heap_alloc _ _ _ (by omega)),v,i3.keep (Below.heap_alloc _ _ _ (by omega)),i4.keep (λb hb=>by
      obtain⟨xs,el,hx⟩:=i4.blk hb;exact Below.heap_alloc _ _ _ (Array.getElem?_eq_some_iff.1 hx).1),i5,i6⟩,W.heap.size,by omega,World.alloc_heap_new W _,λv' hv' hb=>?_,rfl⟩
    have hcv:=(i3.keep (Below.heap_alloc W (.cells #[.int .i32 c, .int .i64 (k:Int), .int .i64 1] 289) _ (by omega))).cell (k:=0) rfl;rw[hcv]at hv';cases hv';obtain⟨xs,el,hx⟩:=i4.blk hb;have:=(Array.getElem?_eq_some_iff.1 hx).1;omega
  case body=>
    rintro l k a' W hsz2 hl ⟨i1,i2,v,i3,i4,i5,i6⟩ ⟨Br,hBr,bR,hnb,rfl⟩ hk;obtain⟨rfl⟩:=hF;obtain rfl:k=0:=by omega
    rw[hcA]at bR;have hnb:=hnb v (i3.cell rfl);rw[<-hB]at i1 i2 i3 i5 i6 hsz0;have hz0:=i1.size;obtain⟨H,hH⟩:∃H,H=gT [(3,Res.box (B+2) [.own 33 v]),(33, .row v sq 1 (qdv (qe1 c 0)))] dm:=⟨_,rfl⟩
    have hown:∀b,bG H b->B<=b/\ ¬b=B+3/\ ¬b=B/\b≠Br:=by
      rintro b ⟨j,r,hj,hb⟩;rw[hH]at hj;have hj:=dV hj;simp only[List.mem_cons,Prod.mk.injEq,List.not_mem_nil,or_false]at hj;rcases hj with⟨rfl,rfl⟩|⟨rfl,rfl⟩
      · simp only[Res.blk,Option.some.injEq]at hb;omega
      · have hb:v.ownBlock=some b:=hb
        have:=i5 b hb;exact⟨by omega,by omega,by omega,λe=>hnb (e ▸hb)⟩
    have hst:St (Nl W H 36 []) (dI [.any, .cptr [.v (.string s)] 0, .any, .bptr 3 (B+2) 0, .cptr [.v (.int .i32 c), .v (.int .i64 ((0:Nat):Int)), .v (.int .i64 1)] 0]) H { tmps:= #[.string s, .pointer (some ⟨w.heap.size,0,none⟩), .string { data:= #[] }, .pointer (some ⟨w.heap.size+1+1,0,none⟩), .pointer (some ⟨Br,0,none⟩),undef, .string s, .int .i64 1, .slice (some ⟨w.heap.size+1,0,none⟩) 0 1, .string s, .func (.func 320) #[] #[.pointer (some ⟨w.heap.size+1+1+1,0,none⟩)], .agg #[.int .i32 (Sj s 0), .int .i64 ((0:Nat):Int), .int .i64 1],undef,undef,undef,undef,undef,undef,undef,undef,undef,undef,undef,undef,undef,undef,undef,undef,undef,undef,undef,undef,undef,undef,undef,undef],defers:=[] } W:=by
      refine qAG rfl ?_ ?_ ?_
      · intro i j r1 r2 b hi hj e1 e2
        rw[hH]at hi hj;have hi:=dV hi;have hj:=dV hj;simp only[List.mem_cons,Prod.mk.injEq,List.not_mem_nil,or_false]at hi hj;rcases hi with⟨rfl,rfl⟩|⟨rfl,rfl⟩ <;>rcases hj with⟨rfl,rfl⟩|⟨rfl,rfl⟩
        · rfl
        · cases e1
          exact absurd rfl (i5 _ e2).2.1
        · cases e2
          exact absurd rfl (i5 _ e1).2.1
        · rfl
      · intro j r hj
        rw[hH]at hj;have hj:=dV hj;simp only[List.mem_cons,Prod.mk.injEq,List.not_mem_nil,or_false]at hj;rcases hj with⟨rfl,rfl⟩|⟨rfl,rfl⟩
        · obtain⟨el,h3⟩:=i3
          refine⟨#[v],el,h3,rfl,λk y d hy hd=>?_⟩;rcases k with _|k
          · cases hy;cases hd
            exact⟨i4.one, .own 33 v i4.one⟩
          · cases hd
        · exact i4.res
      · intro t
        rw[<-hB];rcases t with _|_|_|_|_|t
        · exact .any _
        · exact Bx.cptr [.string s] i2 ⟨i2.lt,λh=>h,λh=>h,λh=>(hown B h).2.2.1 rfl⟩ (λx hx=>by rw[List.mem_singleton.1 hx];exact⟨rfl, .str s (by rw[hsz];decide)⟩)
        · exact .any _
        · exact .bptr 3 (B+2) 0
        · have hbx:Bx W Br #[.int .i32 c, .int .i64 ((0:Nat):Int), .int .i64 1]:= .of bR
          exact Bx.cptr [.int .i32 c, .int .i64 ((0:Nat):Int), .int .i64 1] hbx ⟨hbx.lt,λh=>h,λh=>h,λh=>(hown Br h).2.2.2 rfl⟩ (λx hx=>by
            simp only[List.mem_cons,List.not_mem_nil,or_false]at hx;rcases hx with rfl|rfl|rfl<;>exact⟨rfl, .int _ _⟩)
        · exact .any _
    have hv:vc S gV (λe _ H'=>match e with
        | .norm=>∃v',H' 3=some (.box (B+2) [.own 33 v'])/\H' 33=some (.row v' sq 1 (qdv [low c]))
        | _=>False) (dI [.any, .cptr [.v (.string s)] 0, .any, .bptr 3 (B+2) 0, .cptr [.v (.int .i32 c), .v (.int .i64 ((0:Nat):Int)), .v (.int .i64 1)] 0]) H:=by
      rw[hH];have hd1:HV (lI c)=qdv [c]:=YW c0 c1;by_cases hlc:low c=c
      · simp[gV,hlo,c0,c1,hlc,qe1,hsz,-fB',-eB']
        have hex:s.extract 0 1=lI c:=by
          obtain⟨rfl⟩:=hs;rfl
        rw[hex,hd1];exact⟨by simp only[InR];omega,Nat.le_of_ble_eq_true rfl,rfl⟩
      · simp[gV,hlo,c0,c1,hlc,qe1,hsz,-fB',-eB']
        obtain⟨l0,l1⟩:=Wl c0 c1;rw[WO l0 l1,YW l0 l1];exact⟨Nat.le_of_ble_eq_true rfl,rfl⟩
    refine wpIn_mono (Ys (im:=[2003003]) hS mixed (cc:=gV) (by kernel_rfl) hst hv) ?_;rintro e a2 W2 he;cases e with
    | normal=>
      obtain⟨σ2,H2,hst2,v',e3,e33⟩:=he;have hs2:=Nv hst2;have hg:=hs2.grL (B:=B) (λb hb=>(hown b hb).1) (by omega);have hownW:∀b,bG H b->b<W.heap.size:=by
        rintro b ⟨j,r,hj,hb⟩;obtain⟨_,_,tp,hw,_⟩:=hst;exact(hw.sat.ok j r hj).lt hb
      refine⟨⟨hs2.size,λk o hk hko hc=>?_⟩,⟨hs2.size,λk hk hs=>?_⟩,?_⟩
      · by_cases ho:bG H k
        · obtain⟨_,_,tp,hw,_⟩:=hst
          obtain⟨j,r,hj,hb⟩:=ho;have hok:=hw.sat.ok j r hj;rw[hH]at hj;have hj:=dV hj;simp only[List.mem_cons,Prod.mk.injEq,List.not_mem_nil,or_false]at hj;rcases hj with⟨rfl,rfl⟩|⟨rfl,rfl⟩
          · cases hb
            obtain⟨el,h3⟩:=i3;rw[h3]at hko;cases hko;cases hc
          · obtain⟨xs,el,hx⟩:=i4.blk hb
            rw[hx]at hko;cases hko;cases hc
        · exact(hs2.same k (Array.getElem?_eq_some_iff.1 hko).1 ho (λh=>h)).trans hko
      · refine hs2.same k hk (λho=>?_) (λh=>h)
        obtain⟨j,r,hj,hb⟩:=ho;rw[hH]at hj;have hj:=dV hj;simp only[List.mem_cons,Prod.mk.injEq,List.not_mem_nil,or_false]at hj;rcases hj with⟨rfl,rfl⟩|⟨rfl,rfl⟩
        · cases hb;omega
        · have hv0:=i6 rfl
          subst hv0;have hkb:k=B+1:=(Option.some.inj hb).symm;rcases hs with hs|hs<;>omega
      · rw[<-hB]
        refine⟨i1.trans hg,i2.keep (hs2.same B i2.lt (λho=>(hown B ho).2.2.1 rfl) (λh=>h)),v',qqA hst2 e3,?_,λb hb=>?_,λh=>by omega⟩
        · obtain⟨tp,I,hok⟩:=qim hst2 e33
          exact qjl hok
        · have hne:b≠B+2:=λe=>by
            subst e;have:=qqC hst2 e3 e33 rfl hb;omega
          rcases qqB hst2 ⟨33,_,e33,hb⟩with ho|ho
          · obtain⟨j,r,hj,hb2⟩:=ho
            rw[hH]at hj;have hj:=dV hj;simp only[List.mem_cons,Prod.mk.injEq,List.not_mem_nil,or_false]at hj;rcases hj with⟨rfl,rfl⟩|⟨rfl,rfl⟩
            · cases hb2;exact absurd rfl hne
            · exact i5 b hb2
          · omega
    |ret=>obtain⟨_,_,_,h⟩:=he;exact h.elim
    |exit id=>obtain⟨_,_,_,h⟩:=he;exact h.elim
    |goto t=>exact he.elim
    |panic ch=>exact he.elim
    |outgrown=>exact he.elim
  case done=>
    rintro D W hD ⟨i1,i2,v,i3,i4,i5,i6⟩ hK;rename_i Qd Kd hKd;refine hKd _ _ ?_;obtain⟨rfl⟩:=hF;refine wpIn_wide.2 ?_;rw[show s.size=1 from hsz]at i4;rw[<-hB]at i1 i2 i3 i5 hsz0;have hz0:=i1.size;obtain⟨H,hH⟩:∃H,H=gT [(3,Res.box (B+2) [.own 33 v]),(33, .row v sq 1 (qdv [low c]))] dm:=⟨_,rfl⟩
    have hown:∀b,bG H b->B<=b/\b≠D:=by
      rintro b ⟨j,r,hj,hb⟩;rw[hH]at hj;have hj:=dV hj;simp only[List.mem_cons,Prod.mk.injEq,List.not_mem_nil,or_false]at hj;rcases hj with⟨rfl,rfl⟩|⟨rfl,rfl⟩
      · simp only[Res.blk,Option.some.injEq]at hb;omega
      · have hb:v.ownBlock=some b:=hb
        have:=i5 b hb;refine⟨by omega,λe=>?_⟩;obtain⟨xs,el,hx⟩:=i4.blk hb;rw[e,hK]at hx;cases hx
    have hst:∀ (tmps:Array Value) (ds:List Deferred),tmps.getD 3 undef= .pointer (some ⟨B+2,0,none⟩)->St (Nl W H tmps.size ds) (dI [.any, .any, .any, .bptr 3 (B+2) 0]) H { tmps:=tmps,defers:=ds } W:=by
      intro tmps ds ht;refine qAG rfl ?_ ?_ ?_
      · intro i j r1 r2 b hi hj e1 e2
        rw[hH]at hi hj;have hi:=dV hi;have hj:=dV hj;simp only[List.mem_cons,Prod.mk.injEq,List.not_mem_nil,or_false]at hi hj;rcases hi with⟨rfl,rfl⟩|⟨rfl,rfl⟩ <;>rcases hj with⟨rfl,rfl⟩|⟨rfl,rfl⟩
        · rfl
        · cases e1
          exact absurd rfl (i5 _ e2).2.1
        · cases e2
          exact absurd rfl (i5 _ e1).2.1
        · rfl
      · intro j r hj
        rw[hH]at hj;have hj:=dV hj;simp only[List.mem_cons,Prod.mk.injEq,List.not_mem_nil,or_false]at hj;rcases hj with⟨rfl,rfl⟩|⟨rfl,rfl⟩
        · obtain⟨el,h3⟩:=i3
          refine⟨#[v],el,h3,rfl,λk y d hy hd=>?_⟩;rcases k with _|k
          · cases hy;cases hd
            exact⟨i4.one, .own 33 v i4.one⟩
          · cases hd
        · exact i4.res
      · intro t
        rcases t with _|_|_|_|t
        · exact .any _
        · exact .any _
        · exact .any _
        · show R _ _ _ (tmps.getD 3 undef) _
          rw[ht];exact .bptr 3 (B+2) 0
        · exact .any _
    have hbs:qsm (qdv [low c])=lI (low c):=rfl;have hbl:qpX (qdv [low c])=true:=rfl;have hv:vc S Ls (λe σ' _=>match e with
        | .ret=>σ' 2= .v (.string (lI (low c)))
        | _=>False) (dI [.any, .any, .any, .bptr 3 (B+2) 0]) H:=by
      rw[hH];simp[Ls,-fB',-eB'];exact⟨hbl,hbs⟩
    refine Code.wp_mono ?_ (yP (im:=[]) hS mixed Ls _ (by kernel_rfl) _ _ _ _ _ (hst _ _ (by rw[hB];rfl)) hv);rintro e a2 W2 he;cases e with
    | ret=>
      obtain⟨σ2,H2,hst2,e2⟩:=he;have hs2:=Nv hst2;have hg:=hs2.grL (B:=B) (λb hb=>(hown b hb).1) (by omega);have hv2:=qqy hst2 e2;have hK2:W2.heap[D]? =some (.deferred (some [])):=(hs2.same D (Array.getElem?_eq_some_iff.1 hK).1 (λho=>(hown D ho).2 rfl) (λh=>h)).trans hK;have hds:=(quc hst2).1;have hg2:=i1.trans hg;clear hst2 hs2;obtain⟨tmps2,ds2⟩:=a2;simp only at hds hv2;subst hds;refine⟨by simp, .inl ⟨_,_,rfl,run_takeDeferred hK2,?_⟩⟩;have hres:(results Tryz.f309 tmps2).run Tryz.prog (W2.putObj D (.deferred none))= .ok (.string (lI (low c))) (W2.putObj D (.deferred none)):=by
        simp[results,Tryz.f309,go_sem];simpa using hv2
      rw[hB]at hg2;exact⟨_,hres,rfl,hg2.trans (GrL.put _ (by omega) _)⟩
    |normal=>obtain⟨_,_,_,h⟩:=he;exact h.elim
    |exit id=>obtain⟨_,_,_,h⟩:=he;exact h.elim
    |goto t=>exact he.elim
    |panic ch=>exact he.elim
    |outgrown=>exact he.elim
  case stop=>
    rintro D k W _ _ h _;exact h.elim
end Go.Proofs
namespace Go.Gv
open Go.Proofs Go.RowKit
open Cod (enc dec)
theorem qfY{dq:Prop}{S:Nat->Spc}(hS:∀f,Tri True Tryz.prog f (S f).pt)(hlo:S eT=NB):Tri dq Tryz.prog ri s_cpFold1.pt:=by
  refine uC (iz Tryz.func309 (by kernel_rfl) rfl) λtp I w vs s hp hI hl hr=>?_
  obtain⟨c,c0,c1,rfl⟩:=hp;have hview:(a1 B).view (lI c)=[.v (.string (lI c))]:=rfl;rw[hview]at hl hr
  match vs,hl with
  | [v0],_=>
    have e0:=HH (hr 0 v0 _ rfl rfl);subst e0;refine(callsIn_wide (n:=10)).1 ((Tryz.Fold_in hS hlo Fence.wide ⟨rfl⟩ 10 trivial trivial trivial rfl (by omega) c c0 c1 w).mono ?_);rintro e w' ⟨rfl,hg⟩;obtain⟨l0,l1⟩:=Wl c0 c1;exact⟨_,lI (low c),rfl,λd d0 d1 e=>by rw[qeF c0 c1 d0 d1 e],λtp' I'=> .str _ (Nat.le_of_ble_eq_true rfl),hg.below,hg.drawn⟩
end Go.Gv
namespace Go.Proofs
open Go.Shelf
def Tryz.lays197_ren:Go.Shelf.Ren:=⟨λ|197=>325|260=>344|n=>n,λ|9=>9|21=>21|3=>3|4=>4|5=>5|105=>318|119=>342|0=>0|46=>159|139=>345|138=>344|n=>n,λ|3=>1|4=>2|n=>n⟩
theorem Tryz.lays197:Go.Proofs.Lays.n197 Tryz.prog Tryz.lays197_ren:={
 mixed:=by kernel_rfl
 f197:=Tryz.func325.trans (congrArg some (by kernel_rfl))
 f260:=Tryz.func344.trans (congrArg some (by kernel_rfl))
 t0:=Tryz.underlying0
 a0:=Tryz.isAgg0
 z0:=Tryz.sizeOf0
 v0:=Tryz.zeroValue0
 t3:=Tryz.underlying3
 a3:=Tryz.isAgg3
 z3:=Tryz.sizeOf3
 v3:=Tryz.zeroValue3
 t4:=Tryz.underlying4
 a4:=Tryz.isAgg4
 z4:=Tryz.sizeOf4
 v4:=Tryz.zeroValue4
 t5:=Tryz.underlying5
 a5:=Tryz.isAgg5
 z5:=Tryz.sizeOf5
 v5:=Tryz.zeroValue5
 t9:=Tryz.underlying9
 a9:=Tryz.isAgg9
 z9:=Tryz.sizeOf9
 v9:=Tryz.zeroValue9
 t21:=Tryz.underlying21
 a21:=Tryz.isAgg21
 z21:=Tryz.sizeOf21
 v21:=Tryz.zeroValue21
 t46:=Tryz.underlying159
 a46:=Tryz.isAgg159
 z46:=Tryz.sizeOf159
 v46:=Tryz.zeroValue159
 t105:=Tryz.underlying318
 a105:=Tryz.isAgg318
 z105:=Tryz.sizeOf318
 v105:=Tryz.zeroValue318
 t119:=Tryz.underlying342
 a119:=Tryz.isAgg342
 z119:=Tryz.sizeOf342
 t138:=Tryz.underlying344
 a138:=Tryz.isAgg344
 z138:=Tryz.sizeOf344
 v138:=Tryz.zeroValue344
 t139:=Tryz.underlying345
 a139:=Tryz.isAgg345
 z139:=Tryz.sizeOf345
 v139:=Tryz.zeroValue345
 g3:=by kernel_rfl
 g4:=by kernel_rfl }
def Tryz.lays151_ren:Go.Shelf.Ren:=⟨λ|151=>356|152=>364|137=>370|119=>371|224=>318|225=>317|217=>316|266=>337|n=>n,λ|9=>9|21=>21|4=>4|3=>3|5=>5|0=>0|46=>159|n=>n,λ|n=>n⟩
theorem Tryz.lays151:Go.Proofs.Lays.n151 Tryz.prog Tryz.lays151_ren:={
 mixed:=by kernel_rfl
 f119:=Tryz.func371.trans (congrArg some (by kernel_rfl))
 f137:=Tryz.func370.trans (congrArg some (by kernel_rfl))
 f151:=Tryz.func356.trans (congrArg some (by kernel_rfl))
 f152:=Tryz.func364.trans (congrArg some (by kernel_rfl))
 f217:=Tryz.func316.trans (congrArg some (by kernel_rfl))
 f224:=Tryz.func318.trans (congrArg some (by kernel_rfl))
 f225:=Tryz.func317.trans (congrArg some (by kernel_rfl))
 f266:=Tryz.func337.trans (congrArg some (by kernel_rfl))
 t0:=Tryz.underlying0
 a0:=Tryz.isAgg0
 z0:=Tryz.sizeOf0
 v0:=Tryz.zeroValue0
 t3:=Tryz.underlying3
 a3:=Tryz.isAgg3
 z3:=Tryz.sizeOf3
 v3:=Tryz.zeroValue3
 t4:=Tryz.underlying4
 a4:=Tryz.isAgg4
 z4:=Tryz.sizeOf4
 v4:=Tryz.zeroValue4
 t5:=Tryz.underlying5
 a5:=Tryz.isAgg5
 z5:=Tryz.sizeOf5
 v5:=Tryz.zeroValue5
 t9:=Tryz.underlying9
 a9:=Tryz.isAgg9
 z9:=Tryz.sizeOf9
 v9:=Tryz.zeroValue9
 t21:=Tryz.underlying21
 a21:=Tryz.isAgg21
 z21:=Tryz.sizeOf21
 v21:=Tryz.zeroValue21
 t46:=Tryz.underlying159
 a46:=Tryz.isAgg159
 z46:=Tryz.sizeOf159
 v46:=Tryz.zeroValue159 }
def Tryz.lays144_ren:Go.Shelf.Ren:=⟨λ|144=>196|143=>255|219=>295|217=>316|225=>317|224=>318|267=>319|266=>337|314=>338|n=>n,λ|9=>9|4=>4|3=>3|5=>5|46=>159|146=>330|51=>243|n=>n,λ|1=>0|n=>n⟩
theorem Tryz.lays144:Go.Proofs.Lays.n144 Tryz.prog Tryz.lays144_ren:={
 mixed:=by kernel_rfl
 f143:=Tryz.func255.trans (congrArg some (by kernel_rfl))
 f144:=Tryz.func196.trans (congrArg some (by kernel_rfl))
 f217:=Tryz.func316.trans (congrArg some (by kernel_rfl))
 f219:=Tryz.func295.trans (congrArg some (by kernel_rfl))
 f224:=Tryz.func318.trans (congrArg some (by kernel_rfl))
 f225:=Tryz.func317.trans (congrArg some (by kernel_rfl))
 f266:=Tryz.func337.trans (congrArg some (by kernel_rfl))
 f267:=Tryz.func319.trans (congrArg some (by kernel_rfl))
 f314:=Tryz.func338.trans (congrArg some (by kernel_rfl))
 t3:=Tryz.underlying3
 a3:=Tryz.isAgg3
 z3:=Tryz.sizeOf3
 v3:=Tryz.zeroValue3
 t4:=Tryz.underlying4
 a4:=Tryz.isAgg4
 z4:=Tryz.sizeOf4
 v4:=Tryz.zeroValue4
 t5:=Tryz.underlying5
 a5:=Tryz.isAgg5
 z5:=Tryz.sizeOf5
 v5:=Tryz.zeroValue5
 t9:=Tryz.underlying9
 a9:=Tryz.isAgg9
 z9:=Tryz.sizeOf9
 v9:=Tryz.zeroValue9
 t46:=Tryz.underlying159
 a46:=Tryz.isAgg159
 z46:=Tryz.sizeOf159
 v46:=Tryz.zeroValue159
 t51:=Tryz.underlying243
 a51:=Tryz.isAgg243
 z51:=Tryz.sizeOf243
 v51:=Tryz.zeroValue243
 t146:=Tryz.underlying330
 a146:=Tryz.isAgg330
 z146:=Tryz.sizeOf330
 v146:=Tryz.zeroValue330
 g1:=by kernel_rfl }
end Go.Proofs
namespace Go.Gv
section
open Go.Proofs Go.RowKit
open Cod (enc dec)
variable {dq:Prop}
def qkj(c:UInt8):∀l:List UInt8, -1<=Lib.indexByte l c
 | []=>qHb _
 | b::l=>by
   have:=qkj c l;rw[Lib.indexByte];split
   ·omega
   ·split<;>omega
theorem qki(c:Int)(a:0<=c)(c1:c< 128):∀l:List UInt8,decide (0<=Lib.indexByte l c.toNat.toUInt8)=l.any λx=>decide ((x.toNat:Int)=c)
 | []=>rfl
 | x::l=>by
   have b:=qki c a c1 l;have e:(x==c.toNat.toUInt8)=decide ((x.toNat:Int)=c):=by
    have h1:c.toNat.toUInt8.toNat=c.toNat:=by
     rw[Nat.toUInt8,qHx];omega
    rw[qGD];simp only[beq_iff_eq,decide_eq_true_eq];constructor
    ·rintro rfl;omega
    ·intro h;exact UInt8.toNat_inj.1 (by omega)
   rw[Lib.indexByte,List.any_cons,e];by_cases h:(x.toNat:Int)=c
   ·simp[h]
   ·simp only[h,decide_false,qGQ,if_false,Bool.false_or];rw[<-b];have d:=qkj c.toNat.toUInt8 l;by_cases h1:Lib.indexByte l c.toNat.toUInt8= -1
    ·simp[h1]
    ·have h2:¬(Lib.indexByte l c.toNat.toUInt8== -1)=true:=by simpa using h1
     rw[if_neg h2];rw[qGD];simp only[decide_eq_true_eq];omega
def Cx:Tri dq Tryz.prog iU s_crune.pt:=by
 refine uC (iz Tryz.func356 (by kernel_rfl) rfl) λtp I w vs x hp hI hl b=>?_
 obtain⟨s,⟨c⟩⟩:=x;obtain⟨d,c1⟩:=hp;have a:(a2 B I32).view (s,⟨c⟩)=[.v (.string s), .v (.int .i32 c)]:=rfl;rw[a]at hl b
 match vs,hl with
 | [h,v1],_=>
   have j:=HH (b 0 h _ rfl rfl);have k:=HH (b 1 v1 _ rfl rfl);subst j;subst k;refine(Any.strings_ContainsRune_ascii Tryz.lays151 s c w d c1).mono ?_;rintro e w' ⟨rfl,rfl⟩;refine⟨_,qog s c,rfl,rfl,λl p=>?_,Below.refl _ _,qGb _⟩;rw[qki c d c1];exact .bool _
def HO:Tri dq Tryz.prog dy s_decR.pt:=by
 refine uC (iz Tryz.func325 (by kernel_rfl) rfl) λtp I w vs s hp hI hl j=>?_
 obtain⟨c,hc,b⟩:=hp;have a:(a1 B).view s=[.v (.string s)]:=rfl;rw[a]at hl j
 match vs,hl with
 | [l],_=>
   have p:=HH (j 0 l _ rfl rfl);subst p;refine(Any.utf8_DecodeRuneInString_ascii Tryz.lays197 s c w (by rw[qGx];exact hc) b).mono ?_;rintro e w' ⟨rfl,rfl⟩;refine⟨_,(⟨c.toNat⟩,1),rfl,λc' d=>by rw[hc]at d;cases d;rfl,λq r=>?_,Below.refl _ _,qGb _⟩;refine .tup _ _ rfl λk x c h hc=>?_
   rcases k with _|_|k
   ·cases h;cases hc;exact .int _ _
   ·cases h;cases hc;exact .int _ _
   ·simp at h
def qeT(c:UInt8):∀l:List UInt8, -1<=Lib.indexByte l c
 | []=>qHb _
 | b::l=>by
   have:=qeT c l;rw[Lib.indexByte];split
   ·omega
   ·split<;>omega
def qaf:∀l:List UInt8,decide (0<=Lib.indexByte l 124)=l.any λc=>decide (c.toNat=124)
 | []=>rfl
 | x::l=>by
   have a:=qaf l;have e:(x==124)=decide (x.toNat=124):=by
    rw[qGD];simp only[beq_iff_eq,decide_eq_true_eq];exact⟨λh=>by rw[h];rfl,λh=>UInt8.toNat_inj.1 h⟩
   rw[Lib.indexByte,List.any_cons,e];by_cases h:x.toNat=124
   ·simp[h]
   ·simp only[h,decide_false,qGQ,if_false,Bool.false_or];rw[<-a];have b:=qeT 124 l;by_cases h1:Lib.indexByte l 124= -1
    ·simp[h1]
    ·have h2:¬(Lib.indexByte l 124== -1)=true:=by simpa using h1
     rw[if_neg h2];rw[qGD];simp only[decide_eq_true_eq];omega
def qb8:Tri dq Tryz.prog vB s_sConB.pt:=by
 refine uC (iz Tryz.func196 (by kernel_rfl) rfl) λtp I w vs x hp hI hl b=>?_
 obtain⟨s,t⟩:=x;obtain⟨c,_⟩:=hp;have c:t=⟨#[124]⟩:=c;subst c;have a:(a2 B B).view (s,⟨#[124]⟩)=[.v (.string s), .v (.string ⟨#[124]⟩)]:=rfl;rw[a]at hl b
 match vs,hl with
 | [d,v1],_=>
   have h:=HH (b 0 d _ rfl rfl);have j:=HH (b 1 v1 _ rfl rfl);subst h;subst j;refine(Any.strings_Contains_one Tryz.lays144 s 124 w).mono ?_;rintro e w' ⟨rfl,rfl⟩;refine⟨_,qo3 s,rfl,rfl,λk l=>?_,Below.refl _ _,qGb _⟩;rw[qaf];exact .bool _
end
section
open Go.Proofs
def RX:FO uy [] yB xO 18:=fo
def Gk:FO kA [] nR nE 20:=fo
def KT:FO np [] rI qN 6:=fo
def KS:FO tI [2] rH qM 27:=fo
def RE:FO AT [2] yj xt 28:=fo
def KF:FO jx [3,2] ru qC 14:=fo
def F7:FO gy [2] nL ny 9:=fo
def RQ:FO A2 [1] yu xI 37:=fo
def RS:FO lM [1] yw xK 69:=fo
def Pm:FO fp [3,2] wh vg 15:=fo
def KH:FO jz [2] rz qE 8:=fo
def Pl:FO dA [1] wg ve 29:=fo
def MY:FO da [1] tR tm 33:=fo
def Pq:FO na [1] wl vk 9:=fo
def Pk:FO mW [1] we vd 13:=fo
def RR:FO iX [1] yv xJ 49:=fo
def Pj:FO mV [1] iv hU 107:=fo
def Pp:FO mY [1] wk vj 11:=fo
def qS:FO aO [] ei dY 9:=fo
def ur:FO kV [] fl fh 19:=fo
def VB:FO Dj [2] A8 Ae 99:=fo
def RG:FO lL [2] yk xu 24:=fo
def VC:FO nX [1] A9 Af 41:=fo
def Pf:FO jG [1] vZ uW 46:=fo
def KD:FO fZ [1] rq qA 13:=fo
def E7:FO gu [2] nb mR 26:=fo
def RH:FO pE [1] yl xw 8:=fo
def ZO:FO ra [1] DF CH 44:=fo
def ZQ:FO GE [1] DH CK 8:=fo
def Iw:FO ct [] qg oR 21:=fo
def Iv:FO fb [] qf oQ 17:=fo
def C1:FO bN [] lq kM 29:=fo

open Cod (enc dec)
section
variable {S:Nat->Spc}{σ:Sg}{H Hr:ab}{K:D->ab->Prop}
def qrm(dst:Option Nat)(H:ab)(K:D->ab->Prop):Prop:=match dst with
 |some t=>∀x,K (.own t x) (aj H t (some (.mrow x [])))
 |none=>False
@[simp] theorem qBt(t:Nat)(H:ab)(K:D->ab->Prop):qrm (some t) H K=∀x,K (.own t x) (aj H t (some (.mrow x []))):=i' rfl
def qgC(id:Nat)(x:Value)(ka:Bool)(ks:List KK)(k v:D)(r:Option Res)(H:ab)(K:D->ab->Prop):Prop:=match r with
 |some (.mrow a es)=>a=x/\Yx ka ks k v es λes'=>K .undef (aj H id (some (.mrow a es')))
 | _=>False
@[simp] theorem qBp(id:Nat)(x a:Value)(ka:Bool)(ks:List KK)(k v:D)(es:List D)(H:ab)(K:D->ab->Prop):qgC id x ka ks k v (some (.mrow a es)) H K=(a=x/\Yx ka ks k v es λes'=>K .undef (aj H id (some (.mrow a es')))):=i' rfl
def qjS(ka:Bool)(ks:List KK)(d k v:D)(H:ab)(K:D->ab->Prop):Prop:=match d with
 | .own id x=>qgC id x ka ks k v (H id) H K
 | _=>False
@[simp] theorem qBo(id:Nat)(x:Value)(ka:Bool)(ks:List KK)(k v:D)(H:ab)(K:D->ab->Prop):qjS ka ks (.own id x) k v H K=qgC id x ka ks k v (H id) H K:=i' rfl
def qnV(dst:Option Nat)(d:D)(H:ab)(K:D->ab->Prop):Prop:=match dst with
 | some t=>(match d with
   | .mp es=>∀b,K (.bptr t b 0) (aj H t (some (.miter b [] es)))
   | .v (.map none)=>∀b,K (.bptr t b 0) (aj H t (some (.miter b [] [])))
   | .own id x=>LV t id x (H id) H K
   | _=>False)
 |none=>False
@[simp] theorem qBq(t id:Nat)(x:Value)(H:ab)(K:D->ab->Prop):qnV (some t) (.own id x) H K=LV t id x (H id) H K:=i' rfl
@[simp] theorem qxO(t id:Nat)(x a:Value)(es:List D)(H:ab)(K:D->ab->Prop):LV t id x (some (.mrow a es)) H K=(a=x/\∀b st clock,qp9 st clock es.length->K (.bptr t b 0) (aj (aj H id (some (.raw (.mrs a es st clock)))) t (some (.raw (.mit b id a clock []))))):=i' rfl
@[congr] theorem qup{t id:Nat}{x:Value}{r r':Option Res}{H:ab}{K:D->ab->Prop}(h:r=r'):LV t id x r H K=LV t id x r' H K:=by grind
def qgF(id:Nat)(x:Value)(ka:Bool)(ks:List KK)(k:D)(r:Option Res)(H:ab)(K:D->ab->Prop):Prop:=match r with
 |some (.raw (.mrs b es st clock))=>b=x/\TG ka ks k es st λes' a=>K (.tup []) (aj H id (some (.raw (.mrs b es' a clock))))
 | _=>False
@[simp] theorem qBE(id:Nat)(x a:Value)(ka:Bool)(ks:List KK)(k:D)(es:List D)(st:List Nat)(c:Nat)(H:ab)(K:D->ab->Prop):qgF id x ka ks k (some (.raw (.mrs a es st c))) H K=(a=x/\TG ka ks k es st λes' b=>K (.tup []) (aj H id (some (.raw (.mrs a es' b c))))):=i' rfl
def qj0(ka:Bool)(ks:List KK)(d k:D)(H:ab)(K:D->ab->Prop):Prop:=match d with
 | .own id x=>qgF id x ka ks k (H id) H K
 | _=>False
@[simp] theorem qBD(id:Nat)(x:Value)(ka:Bool)(ks:List KK)(k:D)(H:ab)(K:D->ab->Prop):qj0 ka ks (.own id x) k H K=qgF id x ka ks k (H id) H K:=i' rfl
@[congr] theorem qyn{id:Nat}{x:Value}{ka:Bool}{ks:List KK}{k a:D}{r r':Option Res}{H:ab}{K:D->ab->Prop}(h1:k=a)(h3:r=r'):qgF id x ka ks k r H K=qgF id x ka ks a r' H K:=by grind
@[congr] theorem qym{ka:Bool}{ks:List KK}{d a k b:D}{H:ab}{K:D->ab->Prop}(h0:d=a)(h1:k=b):qj0 ka ks d k H K=qj0 ka ks a b H K:=by grind
@[simp] theorem qx8(id b m:Nat)(x a:Value)(c c':Nat)(seen st:List Nat)(es:List D)(H:ab)(K:D->ab->Prop):L5 id b m x c seen (some (.raw (.mrs a es st c'))) H K=(a=x/\c'=c/\((∀s∈st,s∈seen)->K (.tup [.v (.bool false)]) (aj H m (some (.mrow a es))))/\
 ∀s,s∈st->s∉seen->K (.tup [.v (.bool true), .any, .any]) (aj H id (some (.raw (.mit b m x c (seen++ [s])))))):=i' rfl
@[congr] theorem quB{id b m:Nat}{x:Value}{c:Nat}{seen:List Nat}{r r':Option Res}{H:ab}{K:D->ab->Prop}(h:r=r'):L5 id b m x c seen r H K=L5 id b m x c seen r' H K:=by grind
@[simp] theorem qzz(x a:Value)(c c':Nat)(seen st:List Nat)(s:Nat)(es:List D)(K:D->Prop):Fa x c (seen++ [s]) (some (.raw (.mrs a es st c'))) K=(a=x/\c'=c/\s∈st/\∀(i:Nat) (e:D),st[i]? =some s->es[i]? =some e->K e):=by
 unfold Fa;simp
@[congr] theorem qwb{x:Value}{c:Nat}{seen:List Nat}{r r':Option Res}{K:D->Prop}(h:r=r'):Fa x c seen r K=Fa x c seen r' K:=by grind
def qgD(id b:Nat)(r:Option Res)(H:ab)(K:D->ab->Prop):Prop:=match r with
 |some (.miter b' cur left)=>b'=b/\(left=[]->K (.tup [.v (.bool false)]) H)/\∀a e c,left=a++e::c->K (.tup [.v (.bool true), .any, .any]) (aj H id (some (.miter b' [e] (a++c))))
 |some (.raw (.mit b' m x clock seen))=>b'=b/\L5 id b' m x clock seen (H m) H K
 | _=>False
@[simp] theorem qBs(id b b' m:Nat)(x:Value)(c:Nat)(seen:List Nat)(H:ab)(K:D->ab->Prop):qgD id b (some (.raw (.mit b' m x c seen))) H K=(b'=b/\L5 id b' m x c seen (H m) H K):=i' rfl
def qjU(d:D)(H:ab)(K:D->ab->Prop):Prop:=match d with
 | .bptr id b off=>off=0/\qgD id b (H id) H K
 | _=>False
@[simp] theorem qBr(i b off:Nat)(H:ab)(K:D->ab->Prop):qjU (.bptr i b off) H K=(off=0/\qgD i b (H i) H K):=i' rfl
def qgE(b:Nat)(r:Option Res)(H:ab)(K:D->Prop):Prop:=match r with
 |some (.miter b' [e] _)=>b'=b/\K e
 |some (.raw (.mit b' m x c seen))=>b'=b/\Fa x c seen (H m) K
 | _=>False
@[simp] theorem qBC(b b' m:Nat)(x:Value)(c:Nat)(seen:List Nat)(H:ab)(K:D->Prop):qgE b (some (.raw (.mit b' m x c seen))) H K=(b'=b/\Fa x c seen (H m) K):=i' rfl
def qjZ(d:D)(H:ab)(K:D->Prop):Prop:=match d with
 | .bptr id b off=>off=0/\qgE b (H id) H K
 | _=>False
@[simp] theorem qBB(i b off:Nat)(H:ab)(K:D->Prop):qjZ (.bptr i b off) H K=(off=0/\qgE b (H i) H K):=i' rfl
@[congr] theorem qyd{id:Nat}{x:Value}{ka:Bool}{ks:List KK}{k v a v':D}{r r':Option Res}{H:ab}{K:D->ab->Prop}(h1:k=a)(h2:v=v')(h3:r=r'):qgC id x ka ks k v r H K=qgC id x ka ks a v' r' H K:=by grind
@[congr] theorem qyc{ka:Bool}{ks:List KK}{d a k v b v':D}{H:ab}{K:D->ab->Prop}(h0:d=a)(h1:k=b)(h2:v=v'):qjS ka ks d k v H K=qjS ka ks a b v' H K:=by grind
@[congr] theorem qye{t:Option Nat}{d a:D}{H:ab}{K:D->ab->Prop}(h:d=a):qnV t d H K=qnV t a H K:=by grind
@[congr] theorem qyg{id b:Nat}{r r':Option Res}{H:ab}{K:D->ab->Prop}(h:r=r'):qgD id b r H K=qgD id b r' H K:=by grind
@[congr] theorem qyf{d a:D}{H:ab}{K:D->ab->Prop}(h:d=a):qjU d H K=qjU a H K:=by grind
@[congr] theorem qyl{b:Nat}{r r':Option Res}{H:ab}{K:D->Prop}(h:r=r'):qgE b r H K=qgE b r' H K:=by grind
@[congr] theorem qyk{d a:D}{H:ab}{K:D->Prop}(h:d=a):qjZ d H K=qjZ a H K:=by grind
@[simp ↓] theorem qEV(dst:Option Nat):aI S (.m .mk []) dst σ H K=qrm dst H K:=by rfl
@[simp ↓] theorem qEd(dst:Option Nat):aw S (.m .mk []) dst σ Hr H K=qrm dst H K:=by rfl
@[simp ↓] theorem qC9(dst:Option Nat)(ka:Bool)(ks:List KK)(x k v:Operand):aI S (.m (.upd ka ks) [x,k,v]) dst σ H K=qjS ka ks (ev σ x) (ev σ k) (ev σ v) H K:=by
 show iR (.upd ka ks) [ev σ x,ev σ k,ev σ v] dst H K=_;unfold qjS qgC;cases ev σ x<;>rfl
@[simp ↓] theorem qDb(dst:Option Nat)(ka:Bool)(ks:List KK)(x k:Operand):aI S (.m (.del ka ks) [x,k]) dst σ H K=qj0 ka ks (ev σ x) (ev σ k) H K:=by
 show iR (.del ka ks) [ev σ x,ev σ k] dst H K=_;unfold qj0 qgF;cases ev σ x<;>rfl
@[simp ↓] theorem qDa(dst:Option Nat)(x:Operand):aI S (.m .rng [x]) dst σ H K=qnV dst (ev σ x) H K:=by
 rfl
@[simp ↓] theorem qzO(dst:Option Nat)(x:Operand):aI S (.m .next [x]) dst σ H K=qjU (ev σ x) H K:=by
 show iR .next [ev σ x] dst H K=_;unfold qjU qgD;cases ev σ x<;>rfl
@[simp ↓] theorem qwr(dst:Option Nat)(x:Operand):aI S (.m .entry [x]) dst σ H K=qjZ (ev σ x) H (λd=>K d H):=by
 show iR .entry [ev σ x] dst H K=_;unfold qjZ qgE;cases ev σ x<;>rfl
end
end
end Go.Gv
