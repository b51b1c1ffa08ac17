/- I13 -/
import Derived.Shelf.Strings.Runes
import Derived.Shelf.Strings.Search3
import Derived.Shelf.Unicode.Decode
import Derived.Ground.NamesProg
import Derived.Test.YtfpmgnnippjblaaGreatDoorProg
import Derived.Shelf.SlMaps.Clone
import Derived.Test.YtfpmgnnippjblaaGreatDoorGa20
set_option linter.all false
set_option maxRecDepth 100000
set_option maxHeartbeats 0
open Bool renaming forall_bool → fB', exists_bool → eB'
namespace Go.Proofs
open Go.RowKit Go.Shelf Go.Gv
attribute [local go_sem] Oper.semAt_some
def qr7(s:ByteArray)(i:Nat):Value:=if i<s.size then .tuple #[.int .i32 (Pv s i), .int .i64 (i:Int), .int .i64 1, .bool true]else .tuple #[.int .i32 0, .int .i64 0, .int .i64 0, .bool false]
def dB{l:List (Nat×Res)}{i:Nat}{r:Res}(h:gk l cX i=some r):(i,r) ∈l:=by
 induction l with
 |nil=>cases h
 | cons p l ih=>
   obtain⟨t,q⟩:=p;simp only[gk,ak]at h;split at h
   ·rename_i e;subst e;cases h;simp
   ·exact List.mem_cons_of_mem _ (ih h)
structure qAh (F:Fence):Prop where
 e:F=Fence.wide
def qzA:Nat->Spc:=λ_=> .none
def qgL{b0 b1 b2 b3 b4:Nat}{c0 c1 c2 c3 c4:List D}(h:b0<b1/\b1<b2/\b2<b3/\b3<b4):
 ∀i j r s b,gk [(3,Res.box b0 c0),(4, .box b1 c1),(5, .box b2 c2),(6, .box b3 c3),(7, .box b4 c4)] cX i=some r->gk [(3,Res.box b0 c0),(4, .box b1 c1),(5, .box b2 c2),(6, .box b3 c3),(7, .box b4 c4)] cX j=some s->r.blk=some b->s.blk=some b->i=j:=by
 intro i j r s b hi hj h1 h2;have hi:=dB hi;have hj:=dB hj;simp only[List.mem_cons,Prod.mk.injEq,List.not_mem_nil,or_false]at hi hj;rcases hi with⟨rfl,rfl⟩|⟨rfl,rfl⟩|⟨rfl,rfl⟩|⟨rfl,rfl⟩|⟨rfl,rfl⟩ <;>rcases hj with⟨rfl,rfl⟩|⟨rfl,rfl⟩|⟨rfl,rfl⟩|⟨rfl,rfl⟩|⟨rfl,rfl⟩ <;>simp only[Res.blk,Option.some.injEq]at h1 h2<;>omega
set_option maxRecDepth 100000 in
theorem qih{F:Fence}{n D:Nat}{w V:World}{R:Ending->World->Prop}{tmps:Array Value}{x1 x2 x3 x4:Value}(hD:w.heap.size+5<=D)(c1:Bx V (w.heap.size+1) #[x1])(c2:Bx V (w.heap.size+2) #[x2])(c3:Bx V (w.heap.size+3) #[x3])(c4:Bx V (w.heap.size+4) #[x4])
 (hK:V.heap[D]? =some (.deferred (some []))) (hg:GrL w.heap.size w V) (t1:tmps[4]? =some (.pointer (some ⟨w.heap.size+1,0,none⟩))) (t2:tmps[5]? =some (.pointer (some ⟨w.heap.size+1+1,0,none⟩))) (t3:tmps[6]? =some (.pointer (some ⟨w.heap.size+1+1+1,0,none⟩))) (t4:tmps[7]? =some (.pointer (some ⟨w.heap.size+1+1+1+1,0,none⟩)))
 (hR:∀V',GrL w.heap.size w V'->R (.returned (.tuple #[x1,x2,x3,x4])) V'):
 bodyPostM F n Tryz.prog Tryz.f269 R .ret { tmps:=tmps,defers:=[{ target:= .collected D,args:= #[] }] } V:=by
 refine⟨by simp, .inl ⟨_,_,rfl,run_takeDeferred hK,?_⟩⟩;have g4:GrL w.heap.size w (V.putObj D (.deferred none)):=hg.trans (GrL.put _ (by omega) _);have k1:=(c1.keep (World.putObj_heap_other (o:= .deferred none) (show w.heap.size+1≠D by omega))).cell (k:=0) rfl;have k2:=(c2.keep (World.putObj_heap_other (o:= .deferred none) (show w.heap.size+2≠D by omega))).cell (k:=0) rfl;have k3:=(c3.keep (World.putObj_heap_other (o:= .deferred none) (show w.heap.size+3≠D by omega))).cell (k:=0) rfl;have k4:=(c4.keep (World.putObj_heap_other (o:= .deferred none) (show w.heap.size+4≠D by omega))).cell (k:=0) rfl;have hres:(results Tryz.f269 tmps).run Tryz.prog (V.putObj D (.deferred none))= .ok (.tuple #[x1,x2,x3,x4]) (V.putObj D (.deferred none)):=by
  simp[results,Tryz.f269,go_sem,k1,k2,k3,k4,t1,t2,t3,t4]
 exact⟨_,hres,hR _ g4⟩
set_option maxRecDepth 100000 in
set_option maxHeartbeats 4000000 in
theorem Tryz.At_in(F:Fence)(hF:qAh F)(n:Nat)(h50:F.fn 269)(h95:F.fn 296)(h128:F.fn 320)(hro:F.round=none)(hn:10<=n)(s:ByteArray)(hs:s.size<=100000)(ha:∀(k:Nat) (h:k<s.size),(s[k]'h).toNat< 128)(i:Nat)(hi:i<=s.size)(w:World):
 CallsIn F n Tryz.prog 269 #[.string s, .int .i64 (i:Int)] w λe W'=>e= .returned (qr7 s i)/\GrL w.heap.size w W':=by
 have h1:1<=n:=by omega
 refine callsIn_of_wp_marks Tryz.func269 rfl h50 ?_ hro;simp only[Tryz.ntmps269,List.size_toArray,List.length_cons,List.length_nil,Nat.reduceAdd,Nat.reduceSub,Array.replicate_succ,Array.replicate_zero,List.push_toArray,List.append_toArray,List.nil_append,List.cons_append]
 gi_wp2_with (gi_at_call 296;refine(Tryz.units_in F (n -1) h95 hro _ _).mono ?_;rintro e w' ⟨rfl,rfl⟩)
 obtain⟨W0,hW0⟩:∃W0,(((((w.alloc (.cells #[.int .i64 (i:Int)] 3)).alloc (.cells #[.int .i32 0] 21)).alloc (.cells #[.int .i64 0] 3)).alloc (.cells #[.int .i64 0] 3)).alloc (.cells #[.bool false] 4)).alloc (.cells #[.string s] av)=W0:=⟨_,rfl⟩
 rw[hW0];have hsz:W0.heap.size=w.heap.size+6:=by rw[<-hW0];simp
 have g0:GrL w.heap.size w W0:=by
  rw[<-hW0];exact(((((GrL.alloc w (Nat.le_refl _) _).trans (GrL.alloc _ (by simp) _)).trans (GrL.alloc _ (by first|(simp;done)|(simp;omega)) _)).trans (GrL.alloc _ (by first|(simp;done)|(simp;omega)) _)).trans (GrL.alloc _ (by first|(simp;done)|(simp;omega)) _)).trans (GrL.alloc _ (by first|(simp;done)|(simp;omega)) _)
 have B0:∀W:World,∀o:Obj,(W.alloc o).heap[W.heap.size]? =some o:=λW o=>World.alloc_heap_new W o
 have b5:W0.heap[w.heap.size+5]? =some (.cells #[.string s] av (0,0)):=by
  rw[<-hW0];have h:=B0 (((((w.alloc (.cells #[.int .i64 (i:Int)] 3)).alloc (.cells #[.int .i32 0] 21)).alloc (.cells #[.int .i64 0] 3)).alloc (.cells #[.int .i64 0] 3)).alloc (.cells #[.bool false] 4)) (.cells #[.string s] av);simpa using h
 have b0:W0.heap[w.heap.size]? =some (.cells #[.int .i64 (i:Int)] 3 (0,0)):=by
  rw[<-hW0];have h:=B0 w (.cells #[.int .i64 (i:Int)] 3);rw[show w.heap.size=w.heap.size by simp]at h;exact(Below.heap_alloc _ _ _ (by first|(simp;done)|(simp;omega))).trans ((Below.heap_alloc _ _ _ (by first|(simp;done)|(simp;omega))).trans ((Below.heap_alloc _ _ _ (by first|(simp;done)|(simp;omega))).trans ((Below.heap_alloc _ _ _ (by first|(simp;done)|(simp;omega))).trans ((Below.heap_alloc _ _ _ (by first|(simp;done)|(simp;omega))).trans (h)))))
 have b1:W0.heap[w.heap.size+1]? =some (.cells #[.int .i32 0] 21 (0,0)):=by
  rw[<-hW0];have h:=B0 (w.alloc (.cells #[.int .i64 (i:Int)] 3)) (.cells #[.int .i32 0] 21);rw[show(w.alloc (.cells #[.int .i64 (i:Int)] 3)).heap.size=w.heap.size+1 by simp]at h;exact(Below.heap_alloc _ _ _ (by first|(simp;done)|(simp;omega))).trans ((Below.heap_alloc _ _ _ (by first|(simp;done)|(simp;omega))).trans ((Below.heap_alloc _ _ _ (by first|(simp;done)|(simp;omega))).trans ((Below.heap_alloc _ _ _ (by first|(simp;done)|(simp;omega))).trans (h))))
 have b2:W0.heap[w.heap.size+2]? =some (.cells #[.int .i64 0] 3 (0,0)):=by
  rw[<-hW0];have h:=B0 ((w.alloc (.cells #[.int .i64 (i:Int)] 3)).alloc (.cells #[.int .i32 0] 21)) (.cells #[.int .i64 0] 3);rw[show((w.alloc (.cells #[.int .i64 (i:Int)] 3)).alloc (.cells #[.int .i32 0] 21)).heap.size=w.heap.size+2 by simp]at h;exact(Below.heap_alloc _ _ _ (by first|(simp;done)|(simp;omega))).trans ((Below.heap_alloc _ _ _ (by first|(simp;done)|(simp;omega))).trans ((Below.heap_alloc _ _ _ (by first|(simp;done)|(simp;omega))).trans (h)))
 have b3:W0.heap[w.heap.size+3]? =some (.cells #[.int .i64 0] 3 (0,0)):=by
  rw[<-hW0];have h:=B0 (((w.alloc (.cells #[.int .i64 (i:Int)] 3)).alloc (.cells #[.int .i32 0] 21)).alloc (.cells #[.int .i64 0] 3)) (.cells #[.int .i64 0] 3);rw[show(((w.alloc (.cells #[.int .i64 (i:Int)] 3)).alloc (.cells #[.int .i32 0] 21)).alloc (.cells #[.int .i64 0] 3)).heap.size=w.heap.size+3 by simp]at h;exact(Below.heap_alloc _ _ _ (by first|(simp;done)|(simp;omega))).trans ((Below.heap_alloc _ _ _ (by first|(simp;done)|(simp;omega))).trans (h))
 have b4:W0.heap[w.heap.size+4]? =some (.cells #[.bool false] 4 (0,0)):=by
  rw[<-hW0];have h:=B0 ((((w.alloc (.cells #[.int .i64 (i:Int)] 3)).alloc (.cells #[.int .i32 0] 21)).alloc (.cells #[.int .i64 0] 3)).alloc (.cells #[.int .i64 0] 3)) (.cells #[.bool false] 4);rw[show((((w.alloc (.cells #[.int .i64 (i:Int)] 3)).alloc (.cells #[.int .i32 0] 21)).alloc (.cells #[.int .i64 0] 3)).alloc (.cells #[.int .i64 0] 3)).heap.size=w.heap.size+4 by simp]at h;exact(Below.heap_alloc _ _ _ (by first|(simp;done)|(simp;omega))).trans (h)
 clear hW0 B0;have hcs:W0.cell? ⟨w.heap.size+5,0,none⟩=some (.string s):=bL b5 rfl;refine R7 hro h1 (gf:=320) (lb:= #[.pointer (some ⟨w.heap.size+5,0,none⟩)]) rfl h128 (enters_of Tryz.func320 (by kernel_rfl) rfl)
  (Tryz.units1_it F (n -1) h128 hro (by omega) s hs ha (λk=>k=w.heap.size+5) (w.heap.size+5) rfl W0 (λ_ h=>by omega) hcs) (λ_ h=>by omega) (λ_=>rfl)
  (λk W=>GrL w.heap.size w W/\k<=i/\Bx W w.heap.size #[.int .i64 ((i:Int) - (k:Int))]/\Bx W (w.heap.size+1) #[.int .i32 0]/\Bx W (w.heap.size+2) #[.int .i64 0]/\Bx W (w.heap.size+3) #[.int .i64 0]/\Bx W (w.heap.size+4) #[.bool false])
  (λk W=>GrL w.heap.size w W/\k=i/\Bx W (w.heap.size+1) #[.int .i32 (Pv s i)]/\Bx W (w.heap.size+2) #[.int .i64 (i:Int)]/\Bx W (w.heap.size+3) #[.int .i64 1]/\Bx W (w.heap.size+4) #[.bool true])
  (λk A C hs hg0=>have hg:=hg0.toL;⟨hs.1.trans (hg.mono (by omega)),hs.2.1,hs.2.2.1.keep (hg.low _ (by omega)),hs.2.2.2.1.keep (hg.low _ (by omega)),hs.2.2.2.2.1.keep (hg.low _ (by omega)),hs.2.2.2.2.2.1.keep (hg.low _ (by omega)),hs.2.2.2.2.2.2.keep (hg.low _ (by omega))⟩)
  (λk A C hs hg0=>have hg:=hg0.toL;⟨hs.1.trans (hg.mono (by omega)),hs.2.1,hs.2.2.1.keep (hg.low _ (by omega)),hs.2.2.2.1.keep (hg.low _ (by omega)),hs.2.2.2.2.1.keep (hg.low _ (by omega)),hs.2.2.2.2.2.keep (hg.low _ (by omega))⟩)
  ⟨g0,Nat.zero_le _, .of (by simpa using b0), .of b1, .of b2, .of b3, .of b4⟩
  (λk a' W=>∃Br,W0.heap.size+2<=Br/\W.heap[Br]? =some (.cells #[.int .i32 (Pv s k), .int .i64 (k:Int), .int .i64 1] 289 (0,0))/\
    a'={ tmps:= #[.string s, .int .i64 (i:Int),undef, .pointer (some ⟨w.heap.size,0,none⟩), .pointer (some ⟨w.heap.size+1,0,none⟩), .pointer (some ⟨w.heap.size+1+1,0,none⟩), .pointer (some ⟨w.heap.size+1+1+1,0,none⟩), .pointer (some ⟨w.heap.size+1+1+1+1,0,none⟩), .pointer (some ⟨Br,0,none⟩), .string s, .func (.func 320) #[] #[.pointer (some ⟨w.heap.size+1+1+1+1+1,0,none⟩)], .agg #[.int .i32 (Pv s k), .int .i64 (k:Int), .int .i64 1],undef,undef,undef,undef,undef,undef,undef,undef,undef,undef],defers:=[] })
  (λa' k W o hlt hs=>by
    obtain⟨Br,q1,q2,q3⟩:=hs;exact⟨Br,q1,(World.putObj_heap_other (by omega)).trans q2,q3⟩)
  ?assign ?body ?done ?stop
 case assign=>
  rintro l k W hsz2 hl ⟨i1,ik,i2,i3,i4,i5,i6⟩ hk;rw[RD];generalize Pv s k=c
  gi_wp2
  exact⟨(KeepsOthers.alloc _ _).from _,KBt.alloc _ _ _ _,⟨i1.trans (GrL.alloc W i1.size _),ik,i2.keep (Below.heap_alloc _ _ _ (by omega)),i3.keep (Below.heap_alloc _ _ _ (by omega)),i4.keep (Below.heap_alloc _ _ _ (by omega)),i5.keep (Below.heap_alloc _ _ _ (by omega)),i6.keep (Below.heap_alloc _ _ _ (by omega))⟩,W.heap.size,by omega,World.alloc_heap_new W _,rfl⟩
 case body=>
  rintro l k a' W hsz2 hl ⟨i1,ik,i2,i3,i4,i5,i6⟩ ⟨Br,hBr,bR,rfl⟩ hk;obtain⟨rfl⟩:=hF;generalize hc:Pv s k=c at bR;obtain⟨B,hB⟩:∃B,B=w.heap.size:=⟨_,rfl⟩
  rw[<-hB]at i1 i2 i3 i4 i5 i6 hsz;obtain⟨H,hH⟩:∃H,H=gk [(3,Res.box B [.v (.int .i64 ((i:Int) - (k:Int)))]),(4, .box (B+1) [.v (.int .i32 0)]),(5, .box (B+2) [.v (.int .i64 0)]),(6, .box (B+3) [.v (.int .i64 0)]),(7, .box (B+4) [.v (.bool false)])] cX:=⟨_,rfl⟩
  have hown:∀b,bA H b->B<=b/\b<W0.heap.size/\ ¬b=B+5:=by
   rintro b ⟨j,r,hj,hb⟩;rw[hH]at hj;have hj:=dB hj;simp only[List.mem_cons,Prod.mk.injEq,List.not_mem_nil,or_false]at hj;rcases hj with⟨rfl,rfl⟩|⟨rfl,rfl⟩|⟨rfl,rfl⟩|⟨rfl,rfl⟩|⟨rfl,rfl⟩ <;>simp only[Res.blk,Option.some.injEq]at hb<;>omega
  have hst:St (K0 W H 22 []) (dr [.any, .any, .any, .bptr 3 B 0, .bptr 4 (B+1) 0, .bptr 5 (B+2) 0, .bptr 6 (B+3) 0, .bptr 7 (B+4) 0, .cptr [.v (.int .i32 c), .v (.int .i64 (k:Int)), .v (.int .i64 1)] 0]) H { tmps:= #[.string s, .int .i64 (i:Int),undef, .pointer (some ⟨w.heap.size,0,none⟩), .pointer (some ⟨w.heap.size+1,0,none⟩), .pointer (some ⟨w.heap.size+1+1,0,none⟩), .pointer (some ⟨w.heap.size+1+1+1,0,none⟩), .pointer (some ⟨w.heap.size+1+1+1+1,0,none⟩), .pointer (some ⟨Br,0,none⟩), .string s, .func (.func 320) #[] #[.pointer (some ⟨w.heap.size+1+1+1+1+1,0,none⟩)], .agg #[.int .i32 c, .int .i64 (k:Int), .int .i64 1],undef,undef,undef,undef,undef,undef,undef,undef,undef,undef],defers:=[] } W:=by
   refine qv1 rfl ?_ ?_ ?_
   ·rw[hH];exact qgL (by omega)
   ·intro j r hj;rw[hH]at hj;have hj:=dB hj;simp only[List.mem_cons,Prod.mk.injEq,List.not_mem_nil,or_false]at hj;rcases hj with⟨rfl,rfl⟩|⟨rfl,rfl⟩|⟨rfl,rfl⟩|⟨rfl,rfl⟩|⟨rfl,rfl⟩
    ·exact i2.box1 rfl (.int _ _)
    ·exact i3.box1 rfl (.int _ _)
    ·exact i4.box1 rfl (.int _ _)
    ·exact i5.box1 rfl (.int _ _)
    ·exact i6.box1 rfl (.bool _)
   ·intro t;rw[<-hB];rcases t with _|_|_|_|_|_|_|_|_|t
    ·exact .any _
    ·exact .any _
    ·exact .any _
    ·exact .bptr 3 B 0
    ·exact .bptr 4 (B+1) 0
    ·exact .bptr 5 (B+2) 0
    ·exact .bptr 6 (B+3) 0
    ·exact .bptr 7 (B+4) 0
    ·have hbx:Bx W Br #[.int .i32 c, .int .i64 (k:Int), .int .i64 1]:= .of bR;exact Bx.cptr [.int .i32 c, .int .i64 (k:Int), .int .i64 1] hbx ⟨hbx.lt,λh=>h,λh=>h,λh=>by have:=hown Br h;omega⟩ (λx hx=>by
      simp only[List.mem_cons,List.not_mem_nil,or_false]at hx;rcases hx with rfl|rfl|rfl<;>exact⟨rfl, .int _ _⟩)
    ·exact .any _
  have hik:(i:Int)<=100000:=by omega
  have hv:vc qzA jy (λe _ H'=>match e with
   | .norm=>k<i/\H' 3=some (.box B [.v (.int .i64 ((i:Int) - (k:Int) -1))])/\H' 4=H 4/\H' 5=H 5/\H' 6=H 6/\H' 7=H 7
   | .ret=>k=i/\H' 4=some (.box (B+1) [.v (.int .i32 c)])/\H' 5=some (.box (B+2) [.v (.int .i64 (k:Int))])/\H' 6=some (.box (B+3) [.v (.int .i64 1)])/\H' 7=some (.box (B+4) [.v (.bool true)])
   | _=>False) (dr [.any, .any, .any, .bptr 3 B 0, .bptr 4 (B+1) 0, .bptr 5 (B+2) 0, .bptr 6 (B+3) 0, .bptr 7 (B+4) 0, .cptr [.v (.int .i32 c), .v (.int .i64 (k:Int)), .v (.int .i64 1)] 0]) H:=by
   rw[hH];by_cases hki:k=i
   ·subst hki;simp[jy,-fB',-eB']
   ·have hne:¬(i:Int) - (k:Int)=0:=by omega
    simp[jy,hne,-fB',-eB'];exact⟨by simp only[InR];omega,by omega⟩
  have hBk:∀b,bA H b->b<W0.heap.size/\ ¬(b=w.heap.size+5):=λb hb=>by have:=hown b hb;omega
  refine wpIn_mono (US (S:=qzA) (im:=[2007007,2006006,2005005,2004004]) (λf=>U1 _ f) mixed (cc:=jy) (by kernel_rfl) hst hv) ?_;rintro e a2 W2 he;cases e with
  | normal=>
    obtain⟨σ2,H2,hst2,hlt,e3,e4,e5,e6,e7⟩:=he;have hs2:=La hst2;have hg:=hs2.grL (B:=B) (λb hb=>(hown b hb).1) (by omega);refine⟨hs2.kf (λb hb=>(hBk b hb).1),hs2.kbt hBk,?_⟩;rw[<-hB];rw[hH]at e4 e5 e6 e7;refine⟨i1.trans hg,by omega,?_,xX hst2 [_] e4,xX hst2 [_] e5,xX hst2 [_] e6,xX hst2 [_] e7⟩;have:=xX hst2 [_] e3;rwa [show(i:Int) - ((k+1:Nat):Int)=(i:Int) - (k:Int) -1 by omega]
  | ret=>
    obtain⟨σ2,H2,hst2,rfl,e4,e5,e6,e7⟩:=he;have hs2:=La hst2;have hg:=hs2.grL (B:=B) (λb hb=>(hown b hb).1) (by omega);refine⟨hs2.kf (λb hb=>(hBk b hb).1),?_⟩;rw[<-hB,hc];exact⟨i1.trans hg,rfl,xX hst2 [_] e4,xX hst2 [_] e5,xX hst2 [_] e6,xX hst2 [_] e7⟩
  |exit id=>obtain⟨_,_,_,h⟩:=he;exact h.elim
  |goto t=>exact he.elim
  |panic ch=>exact he.elim
  |outgrown=>exact he.elim
 case done=>
  rintro D W hD ⟨i1,ik,i2,⟨t3,i3⟩,⟨t4,i4⟩,⟨t5,i5⟩,⟨t6,i6⟩⟩ hK;have his:i=s.size:=by omega
  have q3:W.cell? ⟨w.heap.size+1,0,none⟩=some (.int .i32 0):=bL i3 rfl;have q4:W.cell? ⟨w.heap.size+1+1,0,none⟩=some (.int .i64 0):=bL i4 rfl;have q5:W.cell? ⟨w.heap.size+1+1+1,0,none⟩=some (.int .i64 0):=bL i5 rfl;have q6:W.cell? ⟨w.heap.size+1+1+1+1,0,none⟩=some (.bool false):=bL i6 rfl;have f3:W.frozen? ⟨w.heap.size+1,0,none⟩=false:=re i3;have f4:W.frozen? ⟨w.heap.size+1+1,0,none⟩=false:=re i4;have f5:W.frozen? ⟨w.heap.size+1+1+1,0,none⟩=false:=re i5;have f6:W.frozen? ⟨w.heap.size+1+1+1+1,0,none⟩=false:=re i6
  gi_wp2
  have g:=((((GrL.setCell (k:=0) (W:=W) (show w.heap.size<=w.heap.size+1 by omega) (.int .i32 0)).trans (GrL.setCell (k:=0) (show w.heap.size<=w.heap.size+1+1 by omega) (.int .i64 0))).trans (GrL.setCell (k:=0) (show w.heap.size<=w.heap.size+1+1+1 by omega) (.int .i64 0))).trans (GrL.setCell (k:=0) (show w.heap.size<=w.heap.size+1+1+1+1 by omega) (.bool false)))
  have k4:∀(X:World) (b:Nat) (x:Value),b≠w.heap.size+4->(X.setCell ⟨w.heap.size+1+1+1+1,0,none⟩ x).heap[b]? =X.heap[b]?:=λX b x h=>Below.heap_setCell _ _ _ _ (by show b≠w.heap.size+1+1+1+1;omega)
  have k3:∀(X:World) (b:Nat) (x:Value),b≠w.heap.size+3->(X.setCell ⟨w.heap.size+1+1+1,0,none⟩ x).heap[b]? =X.heap[b]?:=λX b x h=>Below.heap_setCell _ _ _ _ (by show b≠w.heap.size+1+1+1;omega)
  have k2:∀(X:World) (b:Nat) (x:Value),b≠w.heap.size+2->(X.setCell ⟨w.heap.size+1+1,0,none⟩ x).heap[b]? =X.heap[b]?:=λX b x h=>Below.heap_setCell _ _ _ _ (by show b≠w.heap.size+1+1;omega)
  have k1:∀(X:World) (b:Nat) (x:Value),b≠w.heap.size+1->(X.setCell ⟨w.heap.size+1,0,none⟩ x).heap[b]? =X.heap[b]?:=λX b x h=>Below.heap_setCell _ _ _ _ h
  refine qih (D:=D) (by omega) (.of (((k4 _ _ _ (by omega)).trans ((k3 _ _ _ (by omega)).trans (k2 _ _ _ (by omega)))).trans (qw i3))) (.of (((k4 _ _ _ (by omega)).trans (k3 _ _ _ (by omega))).trans (qw ((k1 _ _ _ (by omega)).trans i4)))) (.of ((k4 _ _ _ (by omega)).trans (qw ((k2 _ _ _ (by omega)).trans ((k1 _ _ _ (by omega)).trans i5))))) (.of (qw ((k3 _ _ _ (by omega)).trans ((k2 _ _ _ (by omega)).trans ((k1 _ _ _ (by omega)).trans i6)))))
   ((k4 _ _ _ (by omega)).trans ((k3 _ _ _ (by omega)).trans ((k2 _ _ _ (by omega)).trans ((k1 _ _ _ (by omega)).trans hK)))) (i1.trans g) rfl rfl rfl rfl ?_
  intro V' hg';refine⟨?_,hg'⟩;unfold qr7;rw[if_neg (by omega)]
 case stop=>
  rintro D k W hD hk ⟨i1,rfl,⟨t3,i3⟩,⟨t4,i4⟩,⟨t5,i5⟩,⟨t6,i6⟩⟩ hK
  gi_wp2
  refine qih (D:=D) (by omega) (.of i3) (.of i4) (.of i5) (.of i6) hK i1 rfl rfl rfl rfl ?_;intro V' hg';refine⟨?_,hg'⟩;unfold qr7;rw[if_pos hk]
end Go.Proofs
namespace Go.Gv
section
open Go.Proofs Go.RowKit
open Cod (enc dec)
variable {dq:Prop}
def qhL{s:B}(h:wE s=true):∀(k:Nat) (hk:k<s.size),(s[k]'hk).toNat< 128:=λk hk=>by
 have hl:k<s.data.toList.length:=by rw[qB5];exact hk
 have:=qBi.1 h _ (qCH hl);have h2:s.data[k].toNat< 128:=by simpa using this
 exact h2
def GrL.below{w w':World}(h:GrL w.heap.size w w'):Below w.heap.size w w':=⟨h.os,h.tape,h.output,h.size,h.low⟩
def PI:Tri dq Tryz.prog om s_cpVal.pt:=by
 refine sW (kP Tryz.func256 (by kernel_rfl) rfl) λtp I w vs s hp hI hl b=>?_
 obtain⟨d,h⟩:=hp;have a:(a1 B).view s=[.v (.string s)]:=rfl;rw[a]at hl b
 match vs,hl with
 | [j],_=>
   have k:=Ft (b 0 j _ rfl rfl);subst k;refine(callsIn_wide (n:=10)).1 ((Tryz.Valid_in Fence.wide 10 trivial trivial trivial trivial rfl (by omega) s (by omega) (qhL d) w).mono ?_);rintro e w' ⟨rfl,c⟩;exact⟨_,true,rfl,rfl,λl p=> .bool _,c.below,c.drawn⟩
def qoa(s:B)(i:Nat):(qin s (i:Int)=(⟨Pv s i⟩,(i:Int),1,true)/\i<s.size)\/(qin s (i:Int)=(⟨0⟩,0,0,false)/\ ¬i<s.size):=by
 by_cases h:i<s.size
 ·left;obtain⟨c,hc⟩:∃c,s.data[i]? =some c:=⟨s.data[i]'h,qB4 h⟩
  refine⟨?_,h⟩;have e:s.data.toList[i]? =some c:=by rw[qBD];exact hc
  simp[qin,hc,Pv,e]
 ·right;refine⟨?_,h⟩;have:s.data[i]? =none:=qCX (by have:s.size=s.data.size:=rfl;omega);simp[qin,this]
def R4{tp I:Nat->Prop}{w:World}{a b c d:Value}{l b' c' p:D}(h1:R tp I w a l)(h2:R tp I w b b')(h3:R tp I w c c')(h4:R tp I w d p):R tp I w (.tuple #[a,b,c,d]) (.tup [l,b',c',p]):=
 R.tup [a,b,c,d] [l,b',c',p] rfl λk x y h j=>by
  rcases k with _|_|_|_|k
  ·cases h;cases j;exact h1
  ·cases h;cases j;exact h2
  ·cases h;cases j;exact h3
  ·cases h;cases j;exact h4
  ·cases h
theorem qmi:Tri dq Tryz.prog Bw s_cpAt.pt:=by
 refine sW (kP Tryz.func269 (by kernel_rfl) rfl) λtp I w vs x hp hI hl c=>?_
 obtain⟨s,i⟩:=x;obtain⟨d,h,h0,h1⟩:=hp;simp only at d h h0 h1;have a:(a2 B Int).view (s,i)=[.v (.string s), .v (.int .i64 i)]:=rfl;rw[a]at hl c
 match vs,hl with
 | [l,v1],_=>
   have p:=Ft (c 0 l _ rfl rfl);have q:=Ft (c 1 v1 _ rfl rfl);subst p q;obtain⟨j,rfl⟩:∃j:Nat,i=(j:Int):=⟨i.toNat,by omega⟩
   refine(callsIn_wide (n:=10)).1 ((Tryz.At_in Fence.wide ⟨rfl⟩ 10 trivial trivial trivial rfl (by omega) s (by omega) (qhL h) j (by omega) w).mono ?_);rintro e w' ⟨rfl,k⟩;refine⟨_,qin s j,rfl,rfl,λr t=>?_,k.below,k.drawn⟩;rcases qoa s j with⟨e,b⟩|⟨e,b⟩
   ·rw[e];unfold qr7;rw[if_pos b];exact R4 (.int _ _) (.int _ _) (.int _ _) (.bool _)
   ·rw[e];unfold qr7;rw[if_neg b];exact R4 (.int _ _) (.int _ _) (.int _ _) (.bool _)
end
section
open Cod (enc dec)
variable {S S0:Nat->Spc}
abbrev Lf:Spc:=aA (a1 I32) (λc=>0<=c.val/\c.val< 128) (enc (X:=I32)) λc y=>y=⟨low c.val⟩
theorem Fm:aq fg eX S (a1 I32) (λc=>0<=c.val/\c.val< 128) (enc (X:=I32)) λc y=>y=⟨low c.val⟩:=by
 rintro⟨c⟩ ⟨h0,h1⟩;simp only at h0 h1;have d:¬(192:Int)<=c:=by omega
 have j:¬(913:Int)<=c:=by omega
 have k:¬(1040:Int)<=c:=by omega
 have l:¬(1024:Int)<=c:=by omega
 by_cases a:(65:Int)<=c
 ·by_cases b:c<=90
  ·have e:low c=c+32:=by unfold low;rw[if_pos ⟨a,b⟩]
   simp[fg,eX,a,b,e,-fB',-eB'];exact⟨by simp only[InR];omega,br (⟨c+32⟩:I32) (.same _) rfl⟩
  ·have e:low c=c:=by unfold low;rw[if_neg (λh=>b h.2)]
   simp[fg,eX,a,b,d,j,k,l,e,-fB',-eB'];exact br (⟨c⟩:I32) (.same _) rfl
 ·have e:low c=c:=by unfold low;rw[if_neg (λh=>a h.1)]
  simp[fg,eX,a,d,j,k,l,e,-fB',-eB'];exact br (⟨c⟩:I32) (.same _) rfl
end
end Go.Gv
namespace Go.Proofs
open Go.RowKit Go.Shelf Go.Gv
variable {dq:Prop}
attribute [local go_sem] Oper.semAt_some
def VQ:Value->D->Prop:=λx d=>∃n:Int,x= .int .u8 n/\d= .v (.int .u8 n)
def Z9(l:List Int):List D:=l.map λn=> .v (.int .u8 n)
def Ya:∀l:List Int,bk (Z9 l)=Z9 l
  | []=>rfl
  | b::l=>by
    have ih:=Ya l;unfold Z9 bk at ih ⊢;rw[List.map_cons,List.flatMap_cons,ih];rfl
def qbB(c:Int)(k:Nat):List Int:=if k=0 then[]else[low c]
def qsy(B Z:Nat)(v:Value):Prop:=∀b,v.ownBlock=some b->B<b/\b≠B+2/\b≠B+3/\(b<Z\/Z+4<=b)
def V0(B k:Nat)(v:Value):Prop:=k=0->v= .slice (some ⟨B+1,0,none⟩) 0 1
structure qst (s:ByteArray) (c:Int):Prop where
  e:s=kG c
def RowB(W:World)(v:Value)(l:List Int):Prop:=ResOk VQ W (.row v qS 1 (Z9 l))
def VQ.R{tp I:Nat->Prop}{w:World}{x:Value}{d:D}(h:VQ x d):R tp I w x d:=by
  obtain⟨n,rfl,rfl⟩:=h;exact .int _ _
def RowB.keep{W W':World}{v:Value}{l:List Int}(h:RowB W v l)(hb:∀b,v.ownBlock=some b->W'.heap[b]? =W.heap[b]?):RowB W' v l:=h.conv (λ_ _ h=>h) hb
def RowB.res{tp I:Nat->Prop}{W:World}{v:Value}{l:List Int}(h:RowB W v l):ResOk (R tp I W) W (.row v qS 1 (Z9 l)):=h.conv (λ_ _ h=>h.R) (λ_ _=>rfl)
def qfu{tp I:Nat->Prop}{W:World}{v:Value}{l:List Int}(h:ResOk (R tp I W) W (.row v qS 1 (Z9 l))):RowB W v l:=by
  obtain⟨xs,h1,h2,h3⟩:=h;refine⟨xs,h1,h2,λk y c hy hc=>⟨(h3 k y c hy hc).1,?_⟩⟩;have hfl:=Ya l;have hc2:=hc;rw[hfl]at hc2;unfold Z9 at hc2;rw[List.getElem?_map]at hc2;obtain⟨n,_,rfl⟩:=Option.map_eq_some_iff.1 hc2;exact⟨n,(h3 k y _ hy hc).2.inv_v,rfl⟩
theorem RowB.blk{W:World}{v:Value}{l:List Int}(h:RowB W v l){b:Nat}(hb:v.ownBlock=some b):∃xs el,W.heap[b]? =some (.cells xs el (0,0)):=by
  obtain⟨xs,h1,_⟩:=h;rcases h1.2 with⟨rfl,_⟩|⟨g,cap,cur,rfl,_,hg,_⟩
  · cases hb
  · cases hb;exact⟨_,_,hg⟩
theorem RowB.one{W:World}{v:Value}{l:List Int}(h:RowB W v l):v.oneCell'=true:=by
  obtain⟨xs,h1,_⟩:=h;rcases h1.2 with⟨rfl,_⟩|⟨g,cap,cur,rfl,_⟩ <;>rfl
def Vi{c:Int}(h0:0<=c)(h1:c< 128):FH (kG c)=Z9 [c]:=by
  have e:(c.toNat.toUInt8).toNat=c.toNat % 256:=UInt8.toNat_ofNat' ..;have e2:((c.toNat.toUInt8).toNat:Int)=c:=by omega
  show[D.v (.int .u8 ((c.toNat.toUInt8).toNat:Int))]=[D.v (.int .u8 c)]
  rw[e2]
def Jg:CC:= .seq (.reg [oC 34 1 3,oB 35 (.bstr (oT 34)),oA 2 35]) .ret
set_option maxRecDepth 100000 in
set_option maxHeartbeats 4000000 in
theorem Tryz.Fold_in{S:Nat->Spc}(hS:∀f,Tri True Tryz.prog f (S f).pt)(hlo:S eC=Lf)(F:Fence)(hF:qAh F)(n:Nat)(h105:F.fn 309)(h95:F.fn 296)(h128:F.fn 320)(hro:F.round=none)(hn:10<=n)(c:Int)(c0:0<=c)(c1:c< 128)(w:World):
    CallsIn F n Tryz.prog 309 #[.string (kG c)] w λe W'=>e= .returned (.string (kG (low c)))/\GrL w.heap.size w W':=by
  have h1:1<=n:=by omega
  refine callsIn_of_wp_marks Tryz.func309 rfl h105 ?_ hro;simp only[Tryz.ntmps309,List.size_toArray,List.length_cons,List.length_nil,Nat.reduceAdd,Nat.reduceSub,Array.replicate_succ,Array.replicate_zero,List.push_toArray,List.append_toArray,List.nil_append,List.cons_append];obtain⟨s,hs0⟩:∃s:ByteArray,s=kG c:=⟨_,rfl⟩
  have hs:qst s c:=⟨hs0⟩
  have hsz:s.size=1:=by rw[hs0];rfl
  have hmk:∀w,(Instr.makeSlice 290 (.int .i64 0) (.int .i64 1)).run Tryz.prog w= .ok (.slice (some ⟨w.heap.size,0,none⟩) 0 1) (w.alloc (.cells #[.int .u8 0] 5)):=λ_=>by kernel_rfl
  have hsl:(s.size:Int)=1:=by omega
  rw[<-hs0];clear hs0
  gi_wp2_with (gi_at_call 296;refine(Tryz.units_in F (n -1) h95 hro _ _).mono ?_;rintro e w' ⟨rfl,rfl⟩)
  obtain⟨B,hB⟩:∃B,B=w.heap.size:=⟨_,rfl⟩
  obtain⟨W0,hW0⟩:∃W0,(((w.alloc (.cells #[.string s] 9)).alloc (.cells #[.int .u8 0] 5)).alloc (.cells #[.slice (some ⟨w.heap.size+1,0,none⟩) 0 1] 290)).alloc (.cells #[.string s] av)=W0:=⟨_,rfl⟩
  rw[hW0];have hsz0:W0.heap.size=w.heap.size+4:=by rw[<-hW0];simp
  have g0:GrL w.heap.size w W0:=by
    rw[<-hW0];exact(((GrL.alloc w (Nat.le_refl _) _).trans (GrL.alloc _ (by simp) _)).trans (GrL.alloc _ (by first|(simp;done)|(simp;omega)) _)).trans (GrL.alloc _ (by first|(simp;done)|(simp;omega)) _)
  have B0:∀W:World,∀o:Obj,(W.alloc o).heap[W.heap.size]? =some o:=λW o=>World.alloc_heap_new W o
  have b3:W0.heap[w.heap.size+3]? =some (.cells #[.string s] av (0,0)):=by
    rw[<-hW0];have h:=B0 (((w.alloc (.cells #[.string s] 9)).alloc (.cells #[.int .u8 0] 5)).alloc (.cells #[.slice (some ⟨w.heap.size+1,0,none⟩) 0 1] 290)) (.cells #[.string s] av);simpa using h
  have b0:W0.heap[w.heap.size]? =some (.cells #[.string s] 9 (0,0)):=by
    rw[<-hW0];have h:=B0 w (.cells #[.string s] 9);exact(Below.heap_alloc _ _ _ (by first|(simp;done)|(simp;omega))).trans ((Below.heap_alloc _ _ _ (by first|(simp;done)|(simp;omega))).trans ((Below.heap_alloc _ _ _ (by first|(simp;done)|(simp;omega))).trans h))
  have b1:W0.heap[w.heap.size+1]? =some (.cells #[.int .u8 0] 5 (0,0)):=by
    rw[<-hW0];have h:=B0 (w.alloc (.cells #[.string s] 9)) (.cells #[.int .u8 0] 5);rw[show(w.alloc (.cells #[.string s] 9)).heap.size=w.heap.size+1 by simp]at h;exact(Below.heap_alloc _ _ _ (by first|(simp;done)|(simp;omega))).trans ((Below.heap_alloc _ _ _ (by first|(simp;done)|(simp;omega))).trans h)
  have b2:W0.heap[w.heap.size+2]? =some (.cells #[.slice (some ⟨w.heap.size+1,0,none⟩) 0 1] 290 (0,0)):=by
    rw[<-hW0];have h:=B0 ((w.alloc (.cells #[.string s] 9)).alloc (.cells #[.int .u8 0] 5)) (.cells #[.slice (some ⟨w.heap.size+1,0,none⟩) 0 1] 290);rw[show((w.alloc (.cells #[.string s] 9)).alloc (.cells #[.int .u8 0] 5)).heap.size=w.heap.size+2 by simp]at h;exact(Below.heap_alloc _ _ _ (by first|(simp;done)|(simp;omega))).trans h
  clear hW0 B0;have ha:∀(k:Nat) (h:k<s.size),(s[k]'h).toNat< 128:=λk h=>by
    have hk0:k=0:=by omega
    subst hk0;obtain⟨rfl⟩:=hs;show(c.toNat.toUInt8).toNat< 128;have e:(c.toNat.toUInt8).toNat=c.toNat % 256:=UInt8.toNat_ofNat' ..;omega
  have hcA:Pv s 0=c:=by
    obtain⟨rfl⟩:=hs;show((c.toNat.toUInt8).toNat:Int)=c;have e:(c.toNat.toUInt8).toNat=c.toNat % 256:=UInt8.toNat_ofNat' ..;omega
  have hrow0:RowB W0 (.slice (some ⟨w.heap.size+1,0,none⟩) 0 1) []:=⟨[],⟨rfl, .inr ⟨w.heap.size+1,1, #[.int .u8 0],rfl,Nat.zero_le _,b1,Nat.zero_le _,by decide,rfl,rfl⟩⟩,by simp[Z9],λk y c hy=>by simp at hy⟩
  have hfar0:qsy w.heap.size W0.heap.size (.slice (some ⟨w.heap.size+1,0,none⟩) 0 1):=λb hb=>by
    have hbe:b=w.heap.size+1:=by cases hb;rfl
    omega
  have hcs:W0.cell? ⟨w.heap.size+3,0,none⟩=some (.string s):=bL b3 rfl;refine R7 hro h1 (gf:=320) (lb:= #[.pointer (some ⟨w.heap.size+3,0,none⟩)]) rfl h128 (enters_of Tryz.func320 (by kernel_rfl) rfl)
    (Tryz.units1_it F (n -1) h128 hro (by omega) s (by omega) ha (λk=>k=w.heap.size+3) (w.heap.size+3) rfl W0 (λ_ h=>by omega) hcs) (λ_ h=>by omega) (λ_=>rfl)
    (λk W=>GrL w.heap.size w W/\Bx W w.heap.size #[.string s]/\∃v,Bx W (w.heap.size+2) #[v]/\RowB W v (qbB c k)/\qsy w.heap.size W0.heap.size v/\V0 w.heap.size k v)
    (λ_ _=>False)
    (λk A C hs hg0=>by
      have hg:=hg0.toL;obtain⟨i1,i2,v,i3,i4,i5,i6⟩:=hs;exact⟨i1.trans (hg.mono (by omega)),i2.keep (hg.low _ (by omega)),v,i3.keep (hg.low _ (by omega)),i4.keep (λb hb=>by
        obtain⟨xs,el,hx⟩:=i4.blk hb;exact(hg0.get hx (i5 b hb).2.2.2).trans hx.symm),i5,i6⟩)
    (λ_ _ _ hs _=>hs)
    ⟨g0, .of b0,_, .of b2,hrow0,hfar0,λ_=>rfl⟩
    (λk a' W=>∃Br,W0.heap.size+4<=Br/\W.heap[Br]? =some (.cells #[.int .i32 (Pv s k), .int .i64 (k:Int), .int .i64 1] 289 (0,0))/\(∀v,W.cell? ⟨w.heap.size+2,0,none⟩=some v->v.ownBlock≠some Br)/\
      a'={ tmps:= #[.string s, .pointer (some ⟨w.heap.size,0,none⟩), .string { data:= #[] }, .pointer (some ⟨w.heap.size+1+1,0,none⟩), .pointer (some ⟨Br,0,none⟩),undef, .string s, .int .i64 1, .slice (some ⟨w.heap.size+1,0,none⟩) 0 1, .string s, .func (.func 320) #[] #[.pointer (some ⟨w.heap.size+1+1+1,0,none⟩)], .agg #[.int .i32 (Pv s k), .int .i64 (k:Int), .int .i64 1],undef,undef,undef,undef,undef,undef,undef,undef,undef,undef,undef,undef,undef,undef,undef,undef,undef,undef,undef,undef,undef,undef,undef,undef],defers:=[] })
    (λa' k W o hlt hs=>by
      obtain⟨Br,q1,q2,q3,q4⟩:=hs;refine⟨Br,q1,(World.putObj_heap_other (by omega)).trans q2,λv hv=>q3 v ?_,q4⟩;rw[World.cell?_of_block (World.putObj_heap_other (by show w.heap.size+2≠W0.heap.size+1;omega))]at hv;exact hv)
    ?assign ?body ?done ?stop
  case assign=>
    rintro l k W hsz2 hl ⟨i1,i2,v,i3,i4,i5,i6⟩ hk;rw[RD];generalize Pv s k=c
    gi_wp2
    refine⟨(KeepsOthers.alloc _ _).from _,KBt.alloc _ _ _ _,⟨i1.trans (GrL.alloc W i1.size _),i2.keep (Below.heap_alloc _ _ _ (by omega)),v,i3.keep (Below.heap_alloc _ _ _ (by omega)),i4.keep (λb hb=>by
      obtain⟨xs,el,hx⟩:=i4.blk hb;exact Below.heap_alloc _ _ _ (Array.getElem?_eq_some_iff.1 hx).1),i5,i6⟩,W.heap.size,by omega,World.alloc_heap_new W _,λv' hv' hb=>?_,rfl⟩
    have hcv:=(i3.keep (Below.heap_alloc W (.cells #[.int .i32 c, .int .i64 (k:Int), .int .i64 1] 289) _ (by omega))).cell (k:=0) rfl;rw[hcv]at hv';cases hv';obtain⟨xs,el,hx⟩:=i4.blk hb;have:=(Array.getElem?_eq_some_iff.1 hx).1;omega
  case body=>
    rintro l k a' W hsz2 hl ⟨i1,i2,v,i3,i4,i5,i6⟩ ⟨Br,hBr,bR,hnb,rfl⟩ hk;obtain⟨rfl⟩:=hF;obtain rfl:k=0:=by omega
    rw[hcA]at bR;have hnb:=hnb v (i3.cell rfl);rw[<-hB]at i1 i2 i3 i5 i6 hsz0;have hz0:=i1.size;obtain⟨H,hH⟩:∃H,H=gk [(3,Res.box (B+2) [.own 33 v]),(33, .row v qS 1 (Z9 (qbB c 0)))] cX:=⟨_,rfl⟩
    have hown:∀b,bA H b->B<=b/\ ¬b=B+3/\ ¬b=B/\b≠Br:=by
      rintro b ⟨j,r,hj,hb⟩;rw[hH]at hj;have hj:=dB hj;simp only[List.mem_cons,Prod.mk.injEq,List.not_mem_nil,or_false]at hj;rcases hj with⟨rfl,rfl⟩|⟨rfl,rfl⟩
      · simp only[Res.blk,Option.some.injEq]at hb;omega
      · have hb:v.ownBlock=some b:=hb
        have:=i5 b hb;exact⟨by omega,by omega,by omega,λe=>hnb (e ▸hb)⟩
    have hst:St (K0 W H 36 []) (dr [.any, .cptr [.v (.string s)] 0, .any, .bptr 3 (B+2) 0, .cptr [.v (.int .i32 c), .v (.int .i64 ((0:Nat):Int)), .v (.int .i64 1)] 0]) H { tmps:= #[.string s, .pointer (some ⟨w.heap.size,0,none⟩), .string { data:= #[] }, .pointer (some ⟨w.heap.size+1+1,0,none⟩), .pointer (some ⟨Br,0,none⟩),undef, .string s, .int .i64 1, .slice (some ⟨w.heap.size+1,0,none⟩) 0 1, .string s, .func (.func 320) #[] #[.pointer (some ⟨w.heap.size+1+1+1,0,none⟩)], .agg #[.int .i32 (Pv s 0), .int .i64 ((0:Nat):Int), .int .i64 1],undef,undef,undef,undef,undef,undef,undef,undef,undef,undef,undef,undef,undef,undef,undef,undef,undef,undef,undef,undef,undef,undef,undef,undef],defers:=[] } W:=by
      refine qv1 rfl ?_ ?_ ?_
      · intro i j r1 r2 b hi hj e1 e2
        rw[hH]at hi hj;have hi:=dB hi;have hj:=dB hj;simp only[List.mem_cons,Prod.mk.injEq,List.not_mem_nil,or_false]at hi hj;rcases hi with⟨rfl,rfl⟩|⟨rfl,rfl⟩ <;>rcases hj with⟨rfl,rfl⟩|⟨rfl,rfl⟩
        · rfl
        · cases e1
          exact absurd rfl (i5 _ e2).2.1
        · cases e2
          exact absurd rfl (i5 _ e1).2.1
        · rfl
      · intro j r hj
        rw[hH]at hj;have hj:=dB hj;simp only[List.mem_cons,Prod.mk.injEq,List.not_mem_nil,or_false]at hj;rcases hj with⟨rfl,rfl⟩|⟨rfl,rfl⟩
        · obtain⟨el,h3⟩:=i3
          refine⟨#[v],el,h3,rfl,λk y d hy hd=>?_⟩;rcases k with _|k
          · cases hy;cases hd
            exact⟨i4.one, .own 33 v i4.one⟩
          · cases hd
        · exact i4.res
      · intro t
        rw[<-hB];rcases t with _|_|_|_|_|t
        · exact .any _
        · exact Bx.cptr [.string s] i2 ⟨i2.lt,λh=>h,λh=>h,λh=>(hown B h).2.2.1 rfl⟩ (λx hx=>by rw[List.mem_singleton.1 hx];exact⟨rfl, .str s (by rw[hsz];decide)⟩)
        · exact .any _
        · exact .bptr 3 (B+2) 0
        · have hbx:Bx W Br #[.int .i32 c, .int .i64 ((0:Nat):Int), .int .i64 1]:= .of bR
          exact Bx.cptr [.int .i32 c, .int .i64 ((0:Nat):Int), .int .i64 1] hbx ⟨hbx.lt,λh=>h,λh=>h,λh=>(hown Br h).2.2.2 rfl⟩ (λx hx=>by
            simp only[List.mem_cons,List.not_mem_nil,or_false]at hx;rcases hx with rfl|rfl|rfl<;>exact⟨rfl, .int _ _⟩)
        · exact .any _
    have hv:vc S gp (λe _ H'=>match e with
        | .norm=>∃v',H' 3=some (.box (B+2) [.own 33 v'])/\H' 33=some (.row v' qS 1 (Z9 [low c]))
        | _=>False) (dr [.any, .cptr [.v (.string s)] 0, .any, .bptr 3 (B+2) 0, .cptr [.v (.int .i32 c), .v (.int .i64 ((0:Nat):Int)), .v (.int .i64 1)] 0]) H:=by
      rw[hH];have hd1:FH (kG c)=Z9 [c]:=Vi c0 c1;by_cases hlc:low c=c
      · simp[gp,hlo,c0,c1,hlc,qbB,hsz,-fB',-eB']
        have hex:s.extract 0 1=kG c:=by
          obtain⟨rfl⟩:=hs;rfl
        rw[hex,hd1];exact⟨by simp only[InR];omega,Nat.le_of_ble_eq_true rfl,rfl⟩
      · simp[gp,hlo,c0,c1,hlc,qbB,hsz,-fB',-eB']
        obtain⟨l0,l1⟩:=ST c0 c1;rw[Ty l0 l1,Vi l0 l1];exact⟨Nat.le_of_ble_eq_true rfl,rfl⟩
    refine wpIn_mono (US (im:=[2003003]) hS mixed (cc:=gp) (by kernel_rfl) hst hv) ?_;rintro e a2 W2 he;cases e with
    | normal=>
      obtain⟨σ2,H2,hst2,v',e3,e33⟩:=he;have hs2:=La hst2;have hg:=hs2.grL (B:=B) (λb hb=>(hown b hb).1) (by omega);have hownW:∀b,bA H b->b<W.heap.size:=by
        rintro b ⟨j,r,hj,hb⟩;obtain⟨_,_,tp,hw,_⟩:=hst;exact(hw.sat.ok j r hj).lt hb
      refine⟨⟨hs2.size,λk o hk hko hc=>?_⟩,⟨hs2.size,λk hk hs=>?_⟩,?_⟩
      · by_cases ho:bA H k
        · obtain⟨_,_,tp,hw,_⟩:=hst
          obtain⟨j,r,hj,hb⟩:=ho;have hok:=hw.sat.ok j r hj;rw[hH]at hj;have hj:=dB hj;simp only[List.mem_cons,Prod.mk.injEq,List.not_mem_nil,or_false]at hj;rcases hj with⟨rfl,rfl⟩|⟨rfl,rfl⟩
          · cases hb
            obtain⟨el,h3⟩:=i3;rw[h3]at hko;cases hko;cases hc
          · obtain⟨xs,el,hx⟩:=i4.blk hb
            rw[hx]at hko;cases hko;cases hc
        · exact(hs2.same k (Array.getElem?_eq_some_iff.1 hko).1 ho (λh=>h)).trans hko
      · refine hs2.same k hk (λho=>?_) (λh=>h)
        obtain⟨j,r,hj,hb⟩:=ho;rw[hH]at hj;have hj:=dB hj;simp only[List.mem_cons,Prod.mk.injEq,List.not_mem_nil,or_false]at hj;rcases hj with⟨rfl,rfl⟩|⟨rfl,rfl⟩
        · cases hb;omega
        · have hv0:=i6 rfl
          subst hv0;have hkb:k=B+1:=(Option.some.inj hb).symm;rcases hs with hs|hs<;>omega
      · rw[<-hB]
        refine⟨i1.trans hg,i2.keep (hs2.same B i2.lt (λho=>(hown B ho).2.2.1 rfl) (λh=>h)),v',qmp hst2 e3,?_,λb hb=>?_,λh=>by omega⟩
        · obtain⟨tp,I,hok⟩:=qeH hst2 e33
          exact qfu hok
        · have hne:b≠B+2:=λe=>by
            subst e;have:=qmr hst2 e3 e33 rfl hb;omega
          rcases qmq hst2 ⟨33,_,e33,hb⟩with ho|ho
          · obtain⟨j,r,hj,hb2⟩:=ho
            rw[hH]at hj;have hj:=dB hj;simp only[List.mem_cons,Prod.mk.injEq,List.not_mem_nil,or_false]at hj;rcases hj with⟨rfl,rfl⟩|⟨rfl,rfl⟩
            · cases hb2;exact absurd rfl hne
            · exact i5 b hb2
          · omega
    |ret=>obtain⟨_,_,_,h⟩:=he;exact h.elim
    |exit id=>obtain⟨_,_,_,h⟩:=he;exact h.elim
    |goto t=>exact he.elim
    |panic ch=>exact he.elim
    |outgrown=>exact he.elim
  case done=>
    rintro D W hD ⟨i1,i2,v,i3,i4,i5,i6⟩ hK;rename_i Qd Kd hKd;refine hKd _ _ ?_;obtain⟨rfl⟩:=hF;refine wpIn_wide.2 ?_;rw[show s.size=1 from hsz]at i4;rw[<-hB]at i1 i2 i3 i5 hsz0;have hz0:=i1.size;obtain⟨H,hH⟩:∃H,H=gk [(3,Res.box (B+2) [.own 33 v]),(33, .row v qS 1 (Z9 [low c]))] cX:=⟨_,rfl⟩
    have hown:∀b,bA H b->B<=b/\b≠D:=by
      rintro b ⟨j,r,hj,hb⟩;rw[hH]at hj;have hj:=dB hj;simp only[List.mem_cons,Prod.mk.injEq,List.not_mem_nil,or_false]at hj;rcases hj with⟨rfl,rfl⟩|⟨rfl,rfl⟩
      · simp only[Res.blk,Option.some.injEq]at hb;omega
      · have hb:v.ownBlock=some b:=hb
        have:=i5 b hb;refine⟨by omega,λe=>?_⟩;obtain⟨xs,el,hx⟩:=i4.blk hb;rw[e,hK]at hx;cases hx
    have hst:∀ (tmps:Array Value) (ds:List Deferred),tmps.getD 3 undef= .pointer (some ⟨B+2,0,none⟩)->St (K0 W H tmps.size ds) (dr [.any, .any, .any, .bptr 3 (B+2) 0]) H { tmps:=tmps,defers:=ds } W:=by
      intro tmps ds ht;refine qv1 rfl ?_ ?_ ?_
      · intro i j r1 r2 b hi hj e1 e2
        rw[hH]at hi hj;have hi:=dB hi;have hj:=dB hj;simp only[List.mem_cons,Prod.mk.injEq,List.not_mem_nil,or_false]at hi hj;rcases hi with⟨rfl,rfl⟩|⟨rfl,rfl⟩ <;>rcases hj with⟨rfl,rfl⟩|⟨rfl,rfl⟩
        · rfl
        · cases e1
          exact absurd rfl (i5 _ e2).2.1
        · cases e2
          exact absurd rfl (i5 _ e1).2.1
        · rfl
      · intro j r hj
        rw[hH]at hj;have hj:=dB hj;simp only[List.mem_cons,Prod.mk.injEq,List.not_mem_nil,or_false]at hj;rcases hj with⟨rfl,rfl⟩|⟨rfl,rfl⟩
        · obtain⟨el,h3⟩:=i3
          refine⟨#[v],el,h3,rfl,λk y d hy hd=>?_⟩;rcases k with _|k
          · cases hy;cases hd
            exact⟨i4.one, .own 33 v i4.one⟩
          · cases hd
        · exact i4.res
      · intro t
        rcases t with _|_|_|_|t
        · exact .any _
        · exact .any _
        · exact .any _
        · show R _ _ _ (tmps.getD 3 undef) _
          rw[ht];exact .bptr 3 (B+2) 0
        · exact .any _
    have hbs:qn5 (Z9 [low c])=kG (low c):=rfl;have hbl:qlS (Z9 [low c])=true:=rfl;have hv:vc S Jg (λe σ' _=>match e with
        | .ret=>σ' 2= .v (.string (kG (low c)))
        | _=>False) (dr [.any, .any, .any, .bptr 3 (B+2) 0]) H:=by
      rw[hH];simp[Jg,-fB',-eB'];exact⟨hbl,hbs⟩
    refine Code.wp_mono ?_ (wS (im:=[]) hS mixed Jg _ (by kernel_rfl) _ _ _ _ _ (hst _ _ (by rw[hB];rfl)) hv);rintro e a2 W2 he;cases e with
    | ret=>
      obtain⟨σ2,H2,hst2,e2⟩:=he;have hs2:=La hst2;have hg:=hs2.grL (B:=B) (λb hb=>(hown b hb).1) (by omega);have hv2:=qmn hst2 e2;have hK2:W2.heap[D]? =some (.deferred (some [])):=(hs2.same D (Array.getElem?_eq_some_iff.1 hK).1 (λho=>(hown D ho).2 rfl) (λh=>h)).trans hK;have hds:=(qpQ hst2).1;have hg2:=i1.trans hg;clear hst2 hs2;obtain⟨tmps2,ds2⟩:=a2;simp only at hds hv2;subst hds;refine⟨by simp, .inl ⟨_,_,rfl,run_takeDeferred hK2,?_⟩⟩;have hres:(results Tryz.f309 tmps2).run Tryz.prog (W2.putObj D (.deferred none))= .ok (.string (kG (low c))) (W2.putObj D (.deferred none)):=by
        simp[results,Tryz.f309,go_sem];simpa using hv2
      rw[hB]at hg2;exact⟨_,hres,rfl,hg2.trans (GrL.put _ (by omega) _)⟩
    |normal=>obtain⟨_,_,_,h⟩:=he;exact h.elim
    |exit id=>obtain⟨_,_,_,h⟩:=he;exact h.elim
    |goto t=>exact he.elim
    |panic ch=>exact he.elim
    |outgrown=>exact he.elim
  case stop=>
    rintro D k W _ _ h _;exact h.elim
end Go.Proofs
namespace Go.Gv
open Go.Proofs Go.RowKit
open Cod (enc dec)
theorem qcx{dq:Prop}{S:Nat->Spc}(hS:∀f,Tri True Tryz.prog f (S f).pt)(hlo:S eC=Lf):Tri dq Tryz.prog qb s_cpFold1.pt:=by
  refine sW (kP Tryz.func309 (by kernel_rfl) rfl) λtp I w vs s hp hI hl hr=>?_
  obtain⟨c,c0,c1,rfl⟩:=hp;have hview:(a1 B).view (kG c)=[.v (.string (kG c))]:=rfl;rw[hview]at hl hr
  match vs,hl with
  | [v0],_=>
    have e0:=Ft (hr 0 v0 _ rfl rfl);subst e0;refine(callsIn_wide (n:=10)).1 ((Tryz.Fold_in hS hlo Fence.wide ⟨rfl⟩ 10 trivial trivial trivial rfl (by omega) c c0 c1 w).mono ?_);rintro e w' ⟨rfl,hg⟩;obtain⟨l0,l1⟩:=ST c0 c1;exact⟨_,kG (low c),rfl,λd d0 d1 e=>by rw[qbg c0 c1 d0 d1 e],λtp' I'=> .str _ (Nat.le_of_ble_eq_true rfl),hg.below,hg.drawn⟩
end Go.Gv
namespace Go.Proofs
open Go.Shelf
def Tryz.lays197_ren:Go.Shelf.Ren:=⟨λ|197=>325|260=>344|n=>n,λ|9=>9|21=>21|3=>3|4=>4|5=>5|105=>318|119=>342|0=>0|46=>159|139=>345|138=>344|n=>n,λ|3=>1|4=>2|n=>n⟩
theorem Tryz.lays197:Go.Proofs.Lays.n197 Tryz.prog Tryz.lays197_ren:={
 mixed:=by kernel_rfl
 f197:=Tryz.func325.trans (congrArg some (by kernel_rfl))
 f260:=Tryz.func344.trans (congrArg some (by kernel_rfl))
 t0:=Tryz.underlying0
 a0:=Tryz.isAgg0
 z0:=Tryz.sizeOf0
 v0:=Tryz.zeroValue0
 t3:=Tryz.underlying3
 a3:=Tryz.isAgg3
 z3:=Tryz.sizeOf3
 v3:=Tryz.zeroValue3
 t4:=Tryz.underlying4
 a4:=Tryz.isAgg4
 z4:=Tryz.sizeOf4
 v4:=Tryz.zeroValue4
 t5:=Tryz.underlying5
 a5:=Tryz.isAgg5
 z5:=Tryz.sizeOf5
 v5:=Tryz.zeroValue5
 t9:=Tryz.underlying9
 a9:=Tryz.isAgg9
 z9:=Tryz.sizeOf9
 v9:=Tryz.zeroValue9
 t21:=Tryz.underlying21
 a21:=Tryz.isAgg21
 z21:=Tryz.sizeOf21
 v21:=Tryz.zeroValue21
 t46:=Tryz.underlying159
 a46:=Tryz.isAgg159
 z46:=Tryz.sizeOf159
 v46:=Tryz.zeroValue159
 t105:=Tryz.underlying318
 a105:=Tryz.isAgg318
 z105:=Tryz.sizeOf318
 v105:=Tryz.zeroValue318
 t119:=Tryz.underlying342
 a119:=Tryz.isAgg342
 z119:=Tryz.sizeOf342
 t138:=Tryz.underlying344
 a138:=Tryz.isAgg344
 z138:=Tryz.sizeOf344
 v138:=Tryz.zeroValue344
 t139:=Tryz.underlying345
 a139:=Tryz.isAgg345
 z139:=Tryz.sizeOf345
 v139:=Tryz.zeroValue345
 g3:=by kernel_rfl
 g4:=by kernel_rfl }
def Tryz.lays151_ren:Go.Shelf.Ren:=⟨λ|151=>356|152=>364|137=>370|119=>371|224=>318|225=>317|217=>316|266=>337|n=>n,λ|9=>9|21=>21|4=>4|3=>3|5=>5|0=>0|46=>159|n=>n,λ|n=>n⟩
theorem Tryz.lays151:Go.Proofs.Lays.n151 Tryz.prog Tryz.lays151_ren:={
 mixed:=by kernel_rfl
 f119:=Tryz.func371.trans (congrArg some (by kernel_rfl))
 f137:=Tryz.func370.trans (congrArg some (by kernel_rfl))
 f151:=Tryz.func356.trans (congrArg some (by kernel_rfl))
 f152:=Tryz.func364.trans (congrArg some (by kernel_rfl))
 f217:=Tryz.func316.trans (congrArg some (by kernel_rfl))
 f224:=Tryz.func318.trans (congrArg some (by kernel_rfl))
 f225:=Tryz.func317.trans (congrArg some (by kernel_rfl))
 f266:=Tryz.func337.trans (congrArg some (by kernel_rfl))
 t0:=Tryz.underlying0
 a0:=Tryz.isAgg0
 z0:=Tryz.sizeOf0
 v0:=Tryz.zeroValue0
 t3:=Tryz.underlying3
 a3:=Tryz.isAgg3
 z3:=Tryz.sizeOf3
 v3:=Tryz.zeroValue3
 t4:=Tryz.underlying4
 a4:=Tryz.isAgg4
 z4:=Tryz.sizeOf4
 v4:=Tryz.zeroValue4
 t5:=Tryz.underlying5
 a5:=Tryz.isAgg5
 z5:=Tryz.sizeOf5
 v5:=Tryz.zeroValue5
 t9:=Tryz.underlying9
 a9:=Tryz.isAgg9
 z9:=Tryz.sizeOf9
 v9:=Tryz.zeroValue9
 t21:=Tryz.underlying21
 a21:=Tryz.isAgg21
 z21:=Tryz.sizeOf21
 v21:=Tryz.zeroValue21
 t46:=Tryz.underlying159
 a46:=Tryz.isAgg159
 z46:=Tryz.sizeOf159
 v46:=Tryz.zeroValue159 }
def Tryz.lays144_ren:Go.Shelf.Ren:=⟨λ|144=>196|143=>255|219=>295|217=>316|225=>317|224=>318|267=>319|266=>337|314=>338|n=>n,λ|9=>9|4=>4|3=>3|5=>5|46=>159|146=>330|51=>243|n=>n,λ|1=>0|n=>n⟩
theorem Tryz.lays144:Go.Proofs.Lays.n144 Tryz.prog Tryz.lays144_ren:={
 mixed:=by kernel_rfl
 f143:=Tryz.func255.trans (congrArg some (by kernel_rfl))
 f144:=Tryz.func196.trans (congrArg some (by kernel_rfl))
 f217:=Tryz.func316.trans (congrArg some (by kernel_rfl))
 f219:=Tryz.func295.trans (congrArg some (by kernel_rfl))
 f224:=Tryz.func318.trans (congrArg some (by kernel_rfl))
 f225:=Tryz.func317.trans (congrArg some (by kernel_rfl))
 f266:=Tryz.func337.trans (congrArg some (by kernel_rfl))
 f267:=Tryz.func319.trans (congrArg some (by kernel_rfl))
 f314:=Tryz.func338.trans (congrArg some (by kernel_rfl))
 t3:=Tryz.underlying3
 a3:=Tryz.isAgg3
 z3:=Tryz.sizeOf3
 v3:=Tryz.zeroValue3
 t4:=Tryz.underlying4
 a4:=Tryz.isAgg4
 z4:=Tryz.sizeOf4
 v4:=Tryz.zeroValue4
 t5:=Tryz.underlying5
 a5:=Tryz.isAgg5
 z5:=Tryz.sizeOf5
 v5:=Tryz.zeroValue5
 t9:=Tryz.underlying9
 a9:=Tryz.isAgg9
 z9:=Tryz.sizeOf9
 v9:=Tryz.zeroValue9
 t46:=Tryz.underlying159
 a46:=Tryz.isAgg159
 z46:=Tryz.sizeOf159
 v46:=Tryz.zeroValue159
 t51:=Tryz.underlying243
 a51:=Tryz.isAgg243
 z51:=Tryz.sizeOf243
 v51:=Tryz.zeroValue243
 t146:=Tryz.underlying330
 a146:=Tryz.isAgg330
 z146:=Tryz.sizeOf330
 v146:=Tryz.zeroValue330
 g1:=by kernel_rfl }
end Go.Proofs
namespace Go.Gv
section
open Go.Proofs Go.RowKit
open Cod (enc dec)
variable {dq:Prop}
def qgm(c:UInt8):∀l:List UInt8, -1<=Lib.indexByte l c
 | []=>qCi _
 | b::l=>by
   have:=qgm c l;rw[Lib.indexByte];split
   ·omega
   ·split<;>omega
theorem qgl(c:Int)(a:0<=c)(c1:c< 128):∀l:List UInt8,decide (0<=Lib.indexByte l c.toNat.toUInt8)=l.any λx=>decide ((x.toNat:Int)=c)
 | []=>rfl
 | x::l=>by
   have b:=qgl c a c1 l;have e:(x==c.toNat.toUInt8)=decide ((x.toNat:Int)=c):=by
    have h1:c.toNat.toUInt8.toNat=c.toNat:=by
     rw[Nat.toUInt8,qCz];omega
    rw[qBK];simp only[beq_iff_eq,decide_eq_true_eq];constructor
    ·rintro rfl;omega
    ·intro h;exact UInt8.toNat_inj.1 (by omega)
   rw[Lib.indexByte,List.any_cons,e];by_cases h:(x.toNat:Int)=c
   ·simp[h]
   ·simp only[h,decide_false,qB1,if_false,Bool.false_or];rw[<-b];have d:=qgm c.toNat.toUInt8 l;by_cases h1:Lib.indexByte l c.toNat.toUInt8= -1
    ·simp[h1]
    ·have h2:¬(Lib.indexByte l c.toNat.toUInt8== -1)=true:=by simpa using h1
     rw[if_neg h2];rw[qBK];simp only[decide_eq_true_eq];omega
def AF:Tri dq Tryz.prog io s_crune.pt:=by
 refine sW (kP Tryz.func356 (by kernel_rfl) rfl) λtp I w vs x hp hI hl b=>?_
 obtain⟨s,⟨c⟩⟩:=x;obtain⟨d,c1⟩:=hp;have a:(a2 B I32).view (s,⟨c⟩)=[.v (.string s), .v (.int .i32 c)]:=rfl;rw[a]at hl b
 match vs,hl with
 | [h,v1],_=>
   have j:=Ft (b 0 h _ rfl rfl);have k:=Ft (b 1 v1 _ rfl rfl);subst j;subst k;refine(Any.strings_ContainsRune_ascii Tryz.lays151 s c w d c1).mono ?_;rintro e w' ⟨rfl,rfl⟩;refine⟨_,qj8 s c,rfl,rfl,λl p=>?_,Below.refl _ _,qBj _⟩;rw[qgl c d c1];exact .bool _
def FA:Tri dq Tryz.prog de s_decR.pt:=by
 refine sW (kP Tryz.func325 (by kernel_rfl) rfl) λtp I w vs s hp hI hl j=>?_
 obtain⟨c,hc,b⟩:=hp;have a:(a1 B).view s=[.v (.string s)]:=rfl;rw[a]at hl j
 match vs,hl with
 | [l],_=>
   have p:=Ft (j 0 l _ rfl rfl);subst p;refine(Any.utf8_DecodeRuneInString_ascii Tryz.lays197 s c w (by rw[qBD];exact hc) b).mono ?_;rintro e w' ⟨rfl,rfl⟩;refine⟨_,(⟨c.toNat⟩,1),rfl,λc' d=>by rw[hc]at d;cases d;rfl,λq r=>?_,Below.refl _ _,qBj _⟩;refine .tup _ _ rfl λk x c h hc=>?_
   rcases k with _|_|k
   ·cases h;cases hc;exact .int _ _
   ·cases h;cases hc;exact .int _ _
   ·simp at h
def qbt(c:UInt8):∀l:List UInt8, -1<=Lib.indexByte l c
 | []=>qCi _
 | b::l=>by
   have:=qbt c l;rw[Lib.indexByte];split
   ·omega
   ·split<;>omega
def WH:∀l:List UInt8,decide (0<=Lib.indexByte l 124)=l.any λc=>decide (c.toNat=124)
 | []=>rfl
 | x::l=>by
   have a:=WH l;have e:(x==124)=decide (x.toNat=124):=by
    rw[qBK];simp only[beq_iff_eq,decide_eq_true_eq];exact⟨λh=>by rw[h];rfl,λh=>UInt8.toNat_inj.1 h⟩
   rw[Lib.indexByte,List.any_cons,e];by_cases h:x.toNat=124
   ·simp[h]
   ·simp only[h,decide_false,qB1,if_false,Bool.false_or];rw[<-a];have b:=qbt 124 l;by_cases h1:Lib.indexByte l 124= -1
    ·simp[h1]
    ·have h2:¬(Lib.indexByte l 124== -1)=true:=by simpa using h1
     rw[if_neg h2];rw[qBK];simp only[decide_eq_true_eq];omega
def YV:Tri dq Tryz.prog tO s_sConB.pt:=by
 refine sW (kP Tryz.func196 (by kernel_rfl) rfl) λtp I w vs x hp hI hl b=>?_
 obtain⟨s,t⟩:=x;obtain⟨c,_⟩:=hp;have c:t=⟨#[124]⟩:=c;subst c;have a:(a2 B B).view (s,⟨#[124]⟩)=[.v (.string s), .v (.string ⟨#[124]⟩)]:=rfl;rw[a]at hl b
 match vs,hl with
 | [d,v1],_=>
   have h:=Ft (b 0 d _ rfl rfl);have j:=Ft (b 1 v1 _ rfl rfl);subst h;subst j;refine(Any.strings_Contains_one Tryz.lays144 s 124 w).mono ?_;rintro e w' ⟨rfl,rfl⟩;refine⟨_,qkS s,rfl,rfl,λk l=>?_,Below.refl _ _,qBj _⟩;rw[WH];exact .bool _
end
section
open Go.Proofs
def Pe:FO yV [] wD vQ 18:=fo
def Ef:FO oo [] mG mq 20:=fo
def ID:FO rZ [] qr pI 6:=fo
def Is:FO iL [3,2] qi py 14:=fo
def D1:FO fQ [2] mA mf 9:=fo
def O6:FO yS [1] wx vK 37:=fo
def O9:FO kL [1] wz vM 69:=fo
def MJ:FO gd [3,2] uv tz 15:=fo
def Iu:FO iN [2] qk pA 8:=fo
def MI:FO eS [1] uu tw 29:=fo
def KE:FO ed [1] sq rL 33:=fo
def MO:FO qK [1] uz tD 9:=fo
def MH:FO lO [1] ur tv 13:=fo
def O7:FO kK [1] wy vL 49:=fo
def MG:FO lN [1] gO gA 107:=fo
def MM:FO lQ [1] uy tC 11:=fo
def pP:FO aM [] dM dF 9:=fo
def sO:FO jQ [] eQ eN 19:=fo
def Sl:FO Bk [2] za yc 99:=fo
def OV:FO kJ [2] wm vB 24:=fo
def Sm:FO mN [1] zd yd 41:=fo
def MC:FO iR [1] um tq 46:=fo
def Iq:FO rU [1] qg pw 13:=fo
def C8:FO fO [2] lR lK 26:=fo
def OW:FO nR [1] wn vC 8:=fo
def Wm:FO tQ [1] BE AN 44:=fo
def Gh:FO ca [] oR np 21:=fo
def Gg:FO eJ [] oQ nn 17:=fo
def A2:FO bC [] km jH 29:=fo

open Cod (enc dec)
section
variable {S:Nat->Spc}{σ:Sg}{H Hr:ab}{K:D->ab->Prop}
end
section
variable {X:Type}[Cod X][DecidableEq X]
end
structure St3 where
 p:Int
 b0:Int
 b1:Int
 b2:Int
deriving DecidableEq
instance:Cod St3 where
 wd:=4
 enc s:= .agg [enc s.p,enc s.b0,enc s.b1,enc s.b2]
 dec| .agg [a,b,c,j]=>(dec a).bind λa=>(dec b).bind λb=>(dec c).bind λc=>(dec j).bind λj=>some ⟨a,b,c,j⟩|_=>none
 kn _:=rfl
 wid _:=rfl
 dec_enc s:=by simp
 le d x h:=by
  split at h;grind [FrzTo,Option.bind_eq_some_iff,Cod.le];grind
structure Rn where
 c:Corpus
 lb:List B
 bg:Int
 en:Int
def St3.get(s:St3)(i:Nat):Int:=match i with|0=>s.b0|1=>s.b1|_=>s.b2
def St3.set(s:St3)(i:Nat)(x:Int):St3:=match i with|0=>⟨s.p,x,s.b1,s.b2⟩|1=>⟨s.p,s.b0,x,s.b2⟩|_=>⟨s.p,s.b0,s.b1,x⟩
def qvq(r:Rn)(s:St3):List Int:=(List.range r.lb.length).map λi=>s.get i -1
def qvZ(r:Rn)(p:Pat)(s:St3):Option Bool:=qD ⟨r.c,s.p,r.lb,qvq r s⟩ 21 p.cond
section
variable {α:Type}
def Pow(R:α->α->Prop):Nat->α->α->Prop
 | 0=>λs t=>s=t
 |n+1=>λs t=>∃u,R s u/\Pow R n u t
def Star(R:α->α->Prop)(s t:α):Prop:=∃n,Pow R n s t
def Pow.add{R:α->α->Prop} :∀{m n:Nat} {s t u:α},Pow R m s t->Pow R n t u->Pow R (m+n) s u
 | 0,n,s,t,u,h,k=>by cases h;grind
 | m+1,n,s,t,u,⟨v,h1,h2⟩,k=>by
   rw[Nat.succ_add];exact⟨v,h1,h2.add k⟩
def Star.refl(R:α->α->Prop)(s:α):Star R s s:=⟨0,rfl⟩
theorem Star.one{R:α->α->Prop}{s t:α}(h:R s t):Star R s t:=⟨1,t,h,rfl⟩
def Star.trans{R:α->α->Prop}{s t u:α}(h:Star R s t)(k:Star R t u):Star R s u:=by
 obtain⟨m,h⟩:=h;obtain⟨n,k⟩:=k;exact⟨m+n,h.add k⟩
def Star.mono{R Q:α->α->Prop}(a:∀s t,R s t->Star Q s t){s t:α}(h:Star R s t):Star Q s t:=by
 obtain⟨n,h⟩:=h
 induction n generalizing s with
 |zero=>cases h;exact .refl _ _
 | succ n b=>
   obtain⟨u,h1,h2⟩:=h;exact(a _ _ h1).trans (b h2)
def Pow.mono{R Q:α->α->Prop}(a:∀s t,R s t->Q s t):∀{n:Nat} {s t:α},Pow R n s t->Pow Q n s t
 | 0,_,_,h=>h
 |n+1,_,_,⟨u,h1,h2⟩=>⟨u,a _ _ h1,h2.mono a⟩
end
def qA7(m:Int)(s:St3):Prop:=0<=s.p/\s.p<=m/\∀i,0<=s.get i/\s.get i<=m
mutual
def rT:Pat->List Pat
 | .mk op cond lab reg mn mx ks=> .mk op cond lab reg mn mx ks::yE ks
def yE:List Pat->List Pat
 | []=>[]
 |k::ks=>rT k++yE ks
end
def CT(C:Pat->Prop)(p:Pat):Prop:=∀q∈rT p,C q
theorem JO:∀{ks:List Pat} {k q:Pat},k∈ks->q∈rT k->q∈yE ks
 | a::ks,k,q,h,b=>by
   rw[yE,qBo];rcases qBt.1 h with rfl|h;grind
   ·exact .inr (JO h b)
theorem uY:∀{ks:List Pat} {q:Pat},q∈yE ks->∃k∈ks,q∈rT k
 | [],q,h=>by grind [yE]
 | a::ks,q,h=>by
   rw[yE,qBo]at h;rcases h with h|h;grind
   ·obtain⟨k,h1,h2⟩:=uY h;grind
def Wx(p:Pat):p∈rT p:=by cases p;grind [rT]
def Il{C:Pat->Prop}{p:Pat}(h:CT C p):C p:=h p (Wx p)
def Mx{C:Pat->Prop}{p k:Pat}(h:CT C p)(hk:k∈p.kids):CT C k:=λq a=>h q (by cases p;grind [rT,JO])
def qjA{C:Pat->Prop}{p:Pat}(h:C p)(hk:∀k∈p.kids,CT C k):CT C p:=λq a=>by
 cases p<;>grind [CT,rT,uY]
def B3{C D:Pat->Prop}{p:Pat}(h:CT C p)(a:∀q,C q->D q):CT D p:=λq b=>a q (h q b)

def qfs(c:Corpus)(lb:List B)(t:BV):Rn:=⟨c,lb,t.b,min t.e c.toks.length⟩
def qkU(r:Rn)(s:St3):(qvq r s).length=r.lb.length:=by simp[qvq]
def Ww:∀(n:Nat) (l:List Nat),l.Nodup->(∀x∈l,x<n)->l.length<=n
 | 0, [],_,_=>qBj _
 | 0,x::l,_,h=>absurd (h x (by simp)) (Nat.not_lt_zero _)
 | n+1,l,hn,h=>by
   have b:=Ww n (l.erase n) (hn.erase n) λx a=>by
    have h1:=(List.Nodup.mem_erase_iff hn).1 a;have:=h x h1.2;omega
   have h2:l.length<=(l.erase n).length+1:=by
    rw[List.length_erase];split<;>omega
   omega
def qc5{α:Type}{l:List α}{f:α->Nat}{n:Nat}(h1:l.Nodup)(h2:∀x∈l,f x<n)(h3:∀x∈l,∀y∈l,f x=f y->x=y):l.length<=n:=by
 have hn:∀{l:List α},l.Nodup->(∀x∈l,∀y∈l,f x=f y->x=y)->(l.map f).Nodup:=λ{l} h1 h3=>by
  induction l with
  |nil=>exact List.nodup_nil
  | cons a l d=>
    rw[qBZ,List.nodup_cons];have h4:=List.nodup_cons.1 h1;refine⟨λhm=>?_,d h4.2 λx c y b=>h3 x (by simp[c]) y (by simp[b])⟩;obtain⟨y,b,e⟩:=qBr.1 hm;have:=h3 y (by simp[b]) a (by simp) e;subst this;exact h4.1 b
 have:=Ww n (l.map f) (hn h1 h3) λx c=>by
  obtain⟨y,b,rfl⟩:=qBr.1 c;exact h2 y b
 simpa using this

variable {S S0:Nat->Spc}


end
section
open Cod (enc dec)
variable {dq:Prop}
section
variable {Y Z:Type}
variable {P:Program}{S:Nat->Spc}{f:Nat}{im:List Nat}{cc:CC}{rs:List ai}{N:Nat}
end
section
variable {Y Z:Type}
variable {P:Program}{S:Nat->Spc}{f:Nat}{im:List Nat}{cc:CC}{rs:List ai}{N:Nat}
end
open Go.Proofs Go.Shelf Go.RowKit
section
variable {X:Type}
variable {P:Program}{S:Nat->Spc}{f:Nat}{im:List Nat}{cc:CC}{rs:List ai}{N:Nat}{A:fm X}
end
end
section
open Cod (enc dec)
variable {dq:Prop}
section
variable {X Z:Type}
end
open Go.Proofs
section
variable {Y Z:Type}
variable {P:Program}{S:Nat->Spc}{f:Nat}{im:List Nat}{cc:CC}{rs:List ai}{N:Nat}
end
section
variable {X Y Z:Type}
end
end
section
open Cod (enc dec)
open Go.Proofs
variable {S S0:Nat->Spc}


end
section
open Go.Proofs
open Cod (enc dec)
variable {S S0:Nat->Spc}
structure qA6 (r:Rn) (q:Pat):Prop where
 nd:qt q
 num:nE q=true
 lab:q.lab≠eT->nL r.lb q.lab=true
 tok:q.op=1->∀s,qA7 r.en s->s.p<r.en->∃y,qvZ r q s=some y
end
section
open Go.Proofs
open Cod (enc dec)
variable {S S0:Nat->Spc}
end
end Go.Gv
