/- A part of the framework and of the walks: I15 Sh24 I6 I12 C2 C71. -/
import Derived.Shelf.Strings.Runes
import Derived.Shelf.Strings.Search3
import Derived.Shelf.Unicode.Decode
import Derived.Ground.NamesProg
import Derived.Test.YtphdikcommfnhaaGreatDoorProg
import Derived.Test.YtphdikcommfnhaaGreatDoorGg34
import Derived.Test.YtphdikcommfnhaaGreatDoorGg33
import Derived.Test.YtphdikcommfnhaaGreatDoorGg30
import Derived.Test.YtphdikcommfnhaaGreatDoorGg29
import Derived.Test.YtphdikcommfnhaaGreatDoorGg20
set_option linter.unusedSimpArgs false
set_option linter.unusedVariables false
set_option linter.unusedSectionVars false
set_option maxRecDepth 100000
set_option maxHeartbeats 0

namespace Go.Proofs
open Go.RowKit Go.Shelf Go.Gv
attribute [local go_sem] Oper.semAt_some
def VQ:Value->D->Prop:=fun x d=>∃n:Int,x= .int .u8 n/\d= .v (.int .u8 n)
def Sj(l:List Int):List D:=l.map fun n=> .v (.int .u8 n)
theorem Qg:∀l:List Int,aU (Sj l)=Sj l
  | []=>rfl
  | b::l=>by
    have ih:=Qg l
    unfold Sj aU at ih ⊢
    rw[List.map_cons,List.flatMap_cons,ih]
    rfl
def TJ(c:Int)(k:Nat):List Int:=if k=0 then[]else[low c]
def qk6(B Z:Nat)(v:Value):Prop:=∀b,v.ownBlock=some b->B < b/\b≠B+2/\b≠B+3/\(b < Z\/Z+4<=b)
def V0(B k:Nat)(v:Value):Prop:=k=0->v= .slice (some ⟨B+1,0,none⟩) 0 1
structure qk1 (s:ByteArray) (c:Int):Prop where
  e:s=jm c
def RowB(W:World)(v:Value)(l:List Int):Prop:=ResOk VQ W (.row v pi 1 (Sj l))
theorem VQ.R{tp I:Nat->Prop}{w:World}{x:Value}{d:D}(h:VQ x d):R tp I w x d:=by
  obtain⟨n,rfl,rfl⟩:=h
  exact .int _ _
theorem RowB.keep{W W':World}{v:Value}{l:List Int}(h:RowB W v l)(hb:∀b,v.ownBlock=some b->W'.heap[b]? =W.heap[b]?):RowB W' v l:=h.conv (fun _ _ h=>h) hb
theorem RowB.res{tp I:Nat->Prop}{W:World}{v:Value}{l:List Int}(h:RowB W v l):ResOk (R tp I W) W (.row v pi 1 (Sj l)):=h.conv (fun _ _ h=>h.R) (fun _ _=>rfl)
theorem Ys{tp I:Nat->Prop}{W:World}{v:Value}{l:List Int}(h:ResOk (R tp I W) W (.row v pi 1 (Sj l))):RowB W v l:=by
  obtain⟨xs,h1,h2,h3⟩:=h
  refine⟨xs,h1,h2,fun k y c hy hc=>⟨(h3 k y c hy hc).1,?_⟩⟩
  have hfl:=Qg l
  have hc2:=hc
  rw[hfl]at hc2
  unfold Sj at hc2
  rw[List.getElem?_map]at hc2
  obtain⟨n,_,rfl⟩:=Option.map_eq_some_iff.1 hc2
  exact⟨n,(h3 k y _ hy hc).2.inv_v,rfl⟩
theorem RowB.blk{W:World}{v:Value}{l:List Int}(h:RowB W v l){b:Nat}(hb:v.ownBlock=some b):∃xs el,W.heap[b]? =some (.cells xs el (0,0)):=by
  obtain⟨xs,h1,_⟩:=h
  rcases h1.2 with⟨rfl,_⟩|⟨g,cap,cur,rfl,_,hg,_⟩
  · cases hb
  · cases hb;exact⟨_,_,hg⟩
theorem RowB.one{W:World}{v:Value}{l:List Int}(h:RowB W v l):v.oneCell'=true:=by
  obtain⟨xs,h1,_⟩:=h
  rcases h1.2 with⟨rfl,_⟩|⟨g,cap,cur,rfl,_⟩ <;> rfl
theorem Ob{c:Int}(h0:0<=c)(h1:c < 128):DP (jm c)=Sj [c]:=by
  have e:(c.toNat.toUInt8).toNat=c.toNat % 256:=UInt8.toNat_ofNat' ..
  have e2:((c.toNat.toUInt8).toNat:Int)=c:=by omega
  show[D.v (.int .u8 ((c.toNat.toUInt8).toNat:Int))]=[D.v (.int .u8 c)]
  rw[e2]
def EB:CC:= .seq (.reg [oC 34 1 3,oB 35 (.bstr (oT 34)),oA 2 35]) .ret
set_option maxRecDepth 100000 in
set_option maxHeartbeats 4000000 in
theorem Tryz.Fold_in{S:Nat->Spc}(hS:∀f,Tri Tryz.prog f (S f).pt)(hlo:S dJ=Gb)(F:Fence)(hF:qsV F)(n:Nat)(h105:F.fn 320)(h95:F.fn 259)(h128:F.fn 284)(hro:F.round=none)(hn:10<=n)(c:Int)(c0:0<=c)(c1:c < 128)(w:World):
    CallsIn F n Tryz.prog 320 #[.string (jm c)] w fun e W'=>e= .returned (.string (jm (low c)))/\GrL w.heap.size w W':=by
  have h1:1<=n:=by omega
  refine callsIn_of_wp_marks Tryz.func320 rfl h105 ?_ hro
  simp only[Tryz.ntmps320,List.size_toArray,List.length_cons,List.length_nil,Nat.reduceAdd,Nat.reduceSub,Array.replicate_succ,Array.replicate_zero,List.push_toArray,List.append_toArray,List.nil_append,List.cons_append]
  obtain⟨s,hs0⟩:∃s:ByteArray,s=jm c:=⟨_,rfl⟩
  have hs:qk1 s c:=⟨hs0⟩
  have hsz:s.size=1:=by rw[hs0];rfl
  have hmk:∀w,(Instr.makeSlice 300 (.int .i64 0) (.int .i64 1)).run Tryz.prog w= .ok (.slice (some ⟨w.heap.size,0,none⟩) 0 1) (w.alloc (.cells #[.int .u8 0] 5)):=fun _=>by kernel_rfl
  have hsl:(s.size:Int)=1:=by omega
  rw[<-hs0]
  clear hs0
  gi_wp2_with (gi_at_call 259;refine(Tryz.units_in F (n -1) h95 hro _ _).mono ?_;rintro e w' ⟨rfl,rfl⟩)
  obtain⟨B,hB⟩:∃B,B=w.heap.size:=⟨_,rfl⟩
  obtain⟨W0,hW0⟩:∃W0,(((w.alloc (.cells #[.string s] 9)).alloc (.cells #[.int .u8 0] 5)).alloc (.cells #[.slice (some ⟨w.heap.size+1,0,none⟩) 0 1] 300)).alloc (.cells #[.string s] ay)=W0:=⟨_,rfl⟩
  rw[hW0]
  have hsz0:W0.heap.size=w.heap.size+4:=by rw[<-hW0];simp
  have g0:GrL w.heap.size w W0:=by
    rw[<-hW0]
    exact(((GrL.alloc w (Nat.le_refl _) _).trans (GrL.alloc _ (by simp) _)).trans (GrL.alloc _ (by first|(simp;done)|(simp;omega)) _)).trans (GrL.alloc _ (by first|(simp;done)|(simp;omega)) _)
  have B0:∀W:World,∀o:Obj,(W.alloc o).heap[W.heap.size]? =some o:=fun W o=>World.alloc_heap_new W o
  have b3:W0.heap[w.heap.size+3]? =some (.cells #[.string s] ay (0,0)):=by
    rw[<-hW0]
    have h:=B0 (((w.alloc (.cells #[.string s] 9)).alloc (.cells #[.int .u8 0] 5)).alloc (.cells #[.slice (some ⟨w.heap.size+1,0,none⟩) 0 1] 300)) (.cells #[.string s] ay)
    simpa using h
  have b0:W0.heap[w.heap.size]? =some (.cells #[.string s] 9 (0,0)):=by
    rw[<-hW0]
    have h:=B0 w (.cells #[.string s] 9)
    exact(Below.heap_alloc _ _ _ (by first|(simp;done)|(simp;omega))).trans ((Below.heap_alloc _ _ _ (by first|(simp;done)|(simp;omega))).trans ((Below.heap_alloc _ _ _ (by first|(simp;done)|(simp;omega))).trans h))
  have b1:W0.heap[w.heap.size+1]? =some (.cells #[.int .u8 0] 5 (0,0)):=by
    rw[<-hW0]
    have h:=B0 (w.alloc (.cells #[.string s] 9)) (.cells #[.int .u8 0] 5)
    rw[show(w.alloc (.cells #[.string s] 9)).heap.size=w.heap.size+1 by simp]at h
    exact(Below.heap_alloc _ _ _ (by first|(simp;done)|(simp;omega))).trans ((Below.heap_alloc _ _ _ (by first|(simp;done)|(simp;omega))).trans h)
  have b2:W0.heap[w.heap.size+2]? =some (.cells #[.slice (some ⟨w.heap.size+1,0,none⟩) 0 1] 300 (0,0)):=by
    rw[<-hW0]
    have h:=B0 ((w.alloc (.cells #[.string s] 9)).alloc (.cells #[.int .u8 0] 5)) (.cells #[.slice (some ⟨w.heap.size+1,0,none⟩) 0 1] 300)
    rw[show((w.alloc (.cells #[.string s] 9)).alloc (.cells #[.int .u8 0] 5)).heap.size=w.heap.size+2 by simp]at h
    exact(Below.heap_alloc _ _ _ (by first|(simp;done)|(simp;omega))).trans h
  clear hW0 B0
  have ha:∀ (k:Nat) (h:k < s.size),(s[k]'h).toNat < 128:=fun k h=>by
    have hk0:k=0:=by omega
    subst hk0
    obtain⟨rfl⟩:=hs
    show(c.toNat.toUInt8).toNat < 128
    have e:(c.toNat.toUInt8).toNat=c.toNat % 256:=UInt8.toNat_ofNat' ..
    omega
  have hcA:J4 s 0=c:=by
    obtain⟨rfl⟩:=hs
    show((c.toNat.toUInt8).toNat:Int)=c
    have e:(c.toNat.toUInt8).toNat=c.toNat % 256:=UInt8.toNat_ofNat' ..
    omega
  have hrow0:RowB W0 (.slice (some ⟨w.heap.size+1,0,none⟩) 0 1) []:=⟨[],⟨rfl, .inr ⟨w.heap.size+1,1, #[.int .u8 0],rfl,Nat.zero_le _,b1,Nat.zero_le _,by decide,rfl,rfl⟩⟩,by simp[Sj],fun k y c hy=>by simp at hy⟩
  have hfar0:qk6 w.heap.size W0.heap.size (.slice (some ⟨w.heap.size+1,0,none⟩) 0 1):=fun b hb=>by
    have hbe:b=w.heap.size+1:=by cases hb;rfl
    omega
  have hcs:W0.cell? ⟨w.heap.size+3,0,none⟩=some (.string s):=bw b3 rfl
  refine Mf hro h1 (gf:=284) (lb:= #[.pointer (some ⟨w.heap.size+3,0,none⟩)]) rfl h128 (enters_of Tryz.func284 (by kernel_rfl) rfl)
    (Tryz.units1_it F (n -1) h128 hro (by omega) s (by omega) ha (fun k=>k=w.heap.size+3) (w.heap.size+3) rfl W0 (fun _ h=>by omega) hcs) (fun _ h=>by omega) (fun _=>rfl)
    (fun k W=>GrL w.heap.size w W/\Bx W w.heap.size #[.string s]/\∃v,Bx W (w.heap.size+2) #[v]/\RowB W v (TJ c k)/\qk6 w.heap.size W0.heap.size v/\V0 w.heap.size k v)
    (fun _ _=>False)
    (fun k A C hs hg0=>by
      have hg:=hg0.toL
      obtain⟨i1,i2,v,i3,i4,i5,i6⟩:=hs
      exact⟨i1.trans (hg.mono (by omega)),i2.keep (hg.low _ (by omega)),v,i3.keep (hg.low _ (by omega)),i4.keep (fun b hb=>by
        obtain⟨xs,el,hx⟩:=i4.blk hb
        exact(hg0.get hx (i5 b hb).2.2.2).trans hx.symm),i5,i6⟩)
    (fun _ _ _ hs _=>hs)
    ⟨g0, .of b0,_, .of b2,hrow0,hfar0,fun _=>rfl⟩
    (fun k a' W=>∃Br,W0.heap.size+4<=Br/\W.heap[Br]? =some (.cells #[.int .i32 (J4 s k), .int .i64 (k:Int), .int .i64 1] 293 (0,0))/\(∀v,W.cell? ⟨w.heap.size+2,0,none⟩=some v->v.ownBlock≠some Br)/\
      a'={ tmps:= #[.string s, .pointer (some ⟨w.heap.size,0,none⟩), .string { data:= #[] }, .pointer (some ⟨w.heap.size+1+1,0,none⟩), .pointer (some ⟨Br,0,none⟩),undef, .string s, .int .i64 1, .slice (some ⟨w.heap.size+1,0,none⟩) 0 1, .string s, .func (.func 284) #[] #[.pointer (some ⟨w.heap.size+1+1+1,0,none⟩)], .agg #[.int .i32 (J4 s k), .int .i64 (k:Int), .int .i64 1],undef,undef,undef,undef,undef,undef,undef,undef,undef,undef,undef,undef,undef,undef,undef,undef,undef,undef,undef,undef,undef,undef,undef,undef],defers:=[] })
    (fun a' k W o hlt hs=>by
      obtain⟨Br,q1,q2,q3,q4⟩:=hs
      refine⟨Br,q1,(World.putObj_heap_other (by omega)).trans q2,fun v hv=>q3 v ?_,q4⟩
      rw[World.cell?_of_block (World.putObj_heap_other (by show w.heap.size+2≠W0.heap.size+1;omega))]at hv
      exact hv)
    ?assign ?body ?done ?stop
  case assign=>
    rintro l k W hsz2 hl ⟨i1,i2,v,i3,i4,i5,i6⟩ hk
    rw[LN]
    generalize J4 s k=c
    gi_wp2
    refine⟨(KeepsOthers.alloc _ _).from _,KBt.alloc _ _ _ _,⟨i1.trans (GrL.alloc W i1.size _),i2.keep (Below.heap_alloc _ _ _ (by omega)),v,i3.keep (Below.heap_alloc _ _ _ (by omega)),i4.keep (fun b hb=>by
      obtain⟨xs,el,hx⟩:=i4.blk hb
      exact Below.heap_alloc _ _ _ (Array.getElem?_eq_some_iff.1 hx).1),i5,i6⟩,W.heap.size,by omega,World.alloc_heap_new W _,fun v' hv' hb=>?_,rfl⟩
    have hcv:=(i3.keep (Below.heap_alloc W (.cells #[.int .i32 c, .int .i64 (k:Int), .int .i64 1] 293) _ (by omega))).cell (k:=0) rfl
    rw[hcv]at hv'
    cases hv'
    obtain⟨xs,el,hx⟩:=i4.blk hb
    have:=(Array.getElem?_eq_some_iff.1 hx).1
    omega
  case body=>
    rintro l k a' W hsz2 hl ⟨i1,i2,v,i3,i4,i5,i6⟩ ⟨Br,hBr,bR,hnb,rfl⟩ hk
    obtain⟨rfl⟩:=hF
    obtain rfl:k=0:=by omega
    rw[hcA]at bR
    have hnb:=hnb v (i3.cell rfl)
    rw[<-hB]at i1 i2 i3 i5 i6 hsz0
    have hz0:=i1.size
    obtain⟨H,hH⟩:∃H,H=fE [(3,Res.box (B+2) [.own 33 v]),(33, .row v pi 1 (Sj (TJ c 0)))] bB:=⟨_,rfl⟩
    have hown:∀b,bA H b->B<=b/\ ¬b=B+3/\ ¬b=B/\b≠Br:=by
      rintro b ⟨j,r,hj,hb⟩
      rw[hH]at hj
      have hj:=cW hj
      simp only[List.mem_cons,Prod.mk.injEq,List.not_mem_nil,or_false]at hj
      rcases hj with⟨rfl,rfl⟩|⟨rfl,rfl⟩
      · simp only[Res.blk,Option.some.injEq]at hb;omega
      · have hb:v.ownBlock=some b:=hb
        have:=i5 b hb
        exact⟨by omega,by omega,by omega,fun e=>hnb (e ▸hb)⟩
    have hst:St (FV W H 36 []) (cR [.any, .cptr [.v (.string s)] 0, .any, .bptr 3 (B+2) 0, .cptr [.v (.int .i32 c), .v (.int .i64 ((0:Nat):Int)), .v (.int .i64 1)] 0]) H { tmps:= #[.string s, .pointer (some ⟨w.heap.size,0,none⟩), .string { data:= #[] }, .pointer (some ⟨w.heap.size+1+1,0,none⟩), .pointer (some ⟨Br,0,none⟩),undef, .string s, .int .i64 1, .slice (some ⟨w.heap.size+1,0,none⟩) 0 1, .string s, .func (.func 284) #[] #[.pointer (some ⟨w.heap.size+1+1+1,0,none⟩)], .agg #[.int .i32 (J4 s 0), .int .i64 ((0:Nat):Int), .int .i64 1],undef,undef,undef,undef,undef,undef,undef,undef,undef,undef,undef,undef,undef,undef,undef,undef,undef,undef,undef,undef,undef,undef,undef,undef],defers:=[] } W:=by
      refine qox rfl ?_ ?_ ?_
      · intro i j r1 r2 b hi hj e1 e2
        rw[hH]at hi hj
        have hi:=cW hi
        have hj:=cW hj
        simp only[List.mem_cons,Prod.mk.injEq,List.not_mem_nil,or_false]at hi hj
        rcases hi with⟨rfl,rfl⟩|⟨rfl,rfl⟩ <;> rcases hj with⟨rfl,rfl⟩|⟨rfl,rfl⟩
        · rfl
        · cases e1
          exact absurd rfl (i5 _ e2).2.1
        · cases e2
          exact absurd rfl (i5 _ e1).2.1
        · rfl
      · intro j r hj
        rw[hH]at hj
        have hj:=cW hj
        simp only[List.mem_cons,Prod.mk.injEq,List.not_mem_nil,or_false]at hj
        rcases hj with⟨rfl,rfl⟩|⟨rfl,rfl⟩
        · obtain⟨el,h3⟩:=i3
          refine⟨#[v],el,h3,rfl,fun k y d hy hd=>?_⟩
          rcases k with _|k
          · cases hy;cases hd
            exact⟨i4.one, .own 33 v i4.one⟩
          · cases hd
        · exact i4.res
      · intro t
        rw[<-hB]
        rcases t with _|_|_|_|_|t
        · exact .any _
        · exact Bx.cptr [.string s] i2 ⟨i2.lt,fun h=>h,fun h=>h,fun h=>(hown B h).2.2.1 rfl⟩ (fun x hx=>by rw[List.mem_singleton.1 hx];exact⟨rfl, .str s (by rw[hsz];decide)⟩)
        · exact .any _
        · exact .bptr 3 (B+2) 0
        · have hbx:Bx W Br #[.int .i32 c, .int .i64 ((0:Nat):Int), .int .i64 1]:= .of bR
          exact Bx.cptr [.int .i32 c, .int .i64 ((0:Nat):Int), .int .i64 1] hbx ⟨hbx.lt,fun h=>h,fun h=>h,fun h=>(hown Br h).2.2.2 rfl⟩ (fun x hx=>by
            simp only[List.mem_cons,List.not_mem_nil,or_false]at hx
            rcases hx with rfl|rfl|rfl <;> exact⟨rfl, .int _ _⟩)
        · exact .any _
    have hv:vc S fm (fun e _ H'=>match e with
        | .norm=>∃v',H' 3=some (.box (B+2) [.own 33 v'])/\H' 33=some (.row v' pi 1 (Sj [low c]))
        | _=>False) (cR [.any, .cptr [.v (.string s)] 0, .any, .bptr 3 (B+2) 0, .cptr [.v (.int .i32 c), .v (.int .i64 ((0:Nat):Int)), .v (.int .i64 1)] 0]) H:=by
      rw[hH]
      have hd1:DP (jm c)=Sj [c]:=Ob c0 c1
      by_cases hlc:low c=c
      · simp[fm,hlo,c0,c1,hlc,TJ,hsz, -Bool.forall_bool, -Bool.exists_bool]
        have hex:s.extract 0 1=jm c:=by
          obtain⟨rfl⟩:=hs
          rfl
        rw[hex,hd1]
        exact⟨by simp only[InR];omega,Nat.le_of_ble_eq_true rfl,rfl⟩
      · simp[fm,hlo,c0,c1,hlc,TJ,hsz, -Bool.forall_bool, -Bool.exists_bool]
        obtain⟨l0,l1⟩:=MD c0 c1
        rw[M0 l0 l1,Ob l0 l1]
        exact⟨Nat.le_of_ble_eq_true rfl,rfl⟩
    refine wpIn_mono (NS (im:=[2003003]) hS mixed (cc:=fm) (by kernel_rfl) hst hv) ?_
    rintro e a2 W2 he
    cases e with
    | normal=>
      obtain⟨σ2,H2,hst2,v',e3,e33⟩:=he
      have hs2:=F8 hst2
      have hg:=hs2.grL (B:=B) (fun b hb=>(hown b hb).1) (by omega)
      have hownW:∀b,bA H b->b < W.heap.size:=by
        rintro b ⟨j,r,hj,hb⟩
        obtain⟨_,_,tp,hw,_⟩:=hst
        exact(hw.sat.ok j r hj).lt hb
      refine⟨⟨hs2.size,fun k o hk hko hc=>?_⟩,⟨hs2.size,fun k hk hs=>?_⟩,?_⟩
      · by_cases ho:bA H k
        · obtain⟨_,_,tp,hw,_⟩:=hst
          obtain⟨j,r,hj,hb⟩:=ho
          have hok:=hw.sat.ok j r hj
          rw[hH]at hj
          have hj:=cW hj
          simp only[List.mem_cons,Prod.mk.injEq,List.not_mem_nil,or_false]at hj
          rcases hj with⟨rfl,rfl⟩|⟨rfl,rfl⟩
          · cases hb
            obtain⟨el,h3⟩:=i3
            rw[h3]at hko
            cases hko
            cases hc
          · obtain⟨xs,el,hx⟩:=i4.blk hb
            rw[hx]at hko
            cases hko
            cases hc
        · exact(hs2.same k (Array.getElem?_eq_some_iff.1 hko).1 ho (fun h=>h)).trans hko
      · refine hs2.same k hk (fun ho=>?_) (fun h=>h)
        obtain⟨j,r,hj,hb⟩:=ho
        rw[hH]at hj
        have hj:=cW hj
        simp only[List.mem_cons,Prod.mk.injEq,List.not_mem_nil,or_false]at hj
        rcases hj with⟨rfl,rfl⟩|⟨rfl,rfl⟩
        · cases hb;omega
        · have hv0:=i6 rfl
          subst hv0
          have hkb:k=B+1:=(Option.some.inj hb).symm
          rcases hs with hs|hs <;> omega
      · rw[<-hB]
        refine⟨i1.trans hg,i2.keep (hs2.same B i2.lt (fun ho=>(hown B ho).2.2.1 rfl) (fun h=>h)),v',qfu hst2 e3,?_,fun b hb=>?_,fun h=>by omega⟩
        · obtain⟨tp,I,hok⟩:=XD hst2 e33
          exact Ys hok
        · have hne:b≠B+2:=fun e=>by
            subst e
            have:=qfw hst2 e3 e33 rfl hb
            omega
          rcases qfv hst2 ⟨33,_,e33,hb⟩with ho|ho
          · obtain⟨j,r,hj,hb2⟩:=ho
            rw[hH]at hj
            have hj:=cW hj
            simp only[List.mem_cons,Prod.mk.injEq,List.not_mem_nil,or_false]at hj
            rcases hj with⟨rfl,rfl⟩|⟨rfl,rfl⟩
            · cases hb2;exact absurd rfl hne
            · exact i5 b hb2
          · omega
    | ret=>obtain⟨_,_,_,h⟩:=he;exact h.elim
    | exit id=>obtain⟨_,_,_,h⟩:=he;exact h.elim
    | goto t=>exact he.elim
    | panic ch=>exact he.elim
    | outgrown=>exact he.elim
  case done=>
    rintro D W hD ⟨i1,i2,v,i3,i4,i5,i6⟩ hK
    rename_i Qd Kd hKd
    refine hKd _ _ ?_
    obtain⟨rfl⟩:=hF
    refine wpIn_wide.2 ?_
    rw[show s.size=1 from hsz]at i4
    rw[<-hB]at i1 i2 i3 i5 hsz0
    have hz0:=i1.size
    obtain⟨H,hH⟩:∃H,H=fE [(3,Res.box (B+2) [.own 33 v]),(33, .row v pi 1 (Sj [low c]))] bB:=⟨_,rfl⟩
    have hown:∀b,bA H b->B<=b/\b≠D:=by
      rintro b ⟨j,r,hj,hb⟩
      rw[hH]at hj
      have hj:=cW hj
      simp only[List.mem_cons,Prod.mk.injEq,List.not_mem_nil,or_false]at hj
      rcases hj with⟨rfl,rfl⟩|⟨rfl,rfl⟩
      · simp only[Res.blk,Option.some.injEq]at hb;omega
      · have hb:v.ownBlock=some b:=hb
        have:=i5 b hb
        refine⟨by omega,fun e=>?_⟩
        obtain⟨xs,el,hx⟩:=i4.blk hb
        rw[e,hK]at hx
        cases hx
    have hst:∀ (tmps:Array Value) (ds:List Deferred),tmps.getD 3 undef= .pointer (some ⟨B+2,0,none⟩)->St (FV W H tmps.size ds) (cR [.any, .any, .any, .bptr 3 (B+2) 0]) H { tmps:=tmps,defers:=ds } W:=by
      intro tmps ds ht
      refine qox rfl ?_ ?_ ?_
      · intro i j r1 r2 b hi hj e1 e2
        rw[hH]at hi hj
        have hi:=cW hi
        have hj:=cW hj
        simp only[List.mem_cons,Prod.mk.injEq,List.not_mem_nil,or_false]at hi hj
        rcases hi with⟨rfl,rfl⟩|⟨rfl,rfl⟩ <;> rcases hj with⟨rfl,rfl⟩|⟨rfl,rfl⟩
        · rfl
        · cases e1
          exact absurd rfl (i5 _ e2).2.1
        · cases e2
          exact absurd rfl (i5 _ e1).2.1
        · rfl
      · intro j r hj
        rw[hH]at hj
        have hj:=cW hj
        simp only[List.mem_cons,Prod.mk.injEq,List.not_mem_nil,or_false]at hj
        rcases hj with⟨rfl,rfl⟩|⟨rfl,rfl⟩
        · obtain⟨el,h3⟩:=i3
          refine⟨#[v],el,h3,rfl,fun k y d hy hd=>?_⟩
          rcases k with _|k
          · cases hy;cases hd
            exact⟨i4.one, .own 33 v i4.one⟩
          · cases hd
        · exact i4.res
      · intro t
        rcases t with _|_|_|_|t
        · exact .any _
        · exact .any _
        · exact .any _
        · show R _ _ _ (tmps.getD 3 undef) _
          rw[ht]
          exact .bptr 3 (B+2) 0
        · exact .any _
    have hbs:qg4 (Sj [low c])=jm (low c):=rfl
    have hbl:qeD (Sj [low c])=true:=rfl
    have hv:vc S EB (fun e σ' _=>match e with
        | .ret=>σ' 2= .v (.string (jm (low c)))
        | _=>False) (cR [.any, .any, .any, .bptr 3 (B+2) 0]) H:=by
      rw[hH]
      simp[EB, -Bool.forall_bool, -Bool.exists_bool]
      exact⟨hbl,hbs⟩
    refine Code.wp_mono ?_ (uG (im:=[]) hS mixed EB _ (by kernel_rfl) _ _ _ _ _ (hst _ _ (by rw[hB];rfl)) hv)
    rintro e a2 W2 he
    cases e with
    | ret=>
      obtain⟨σ2,H2,hst2,e2⟩:=he
      have hs2:=F8 hst2
      have hg:=hs2.grL (B:=B) (fun b hb=>(hown b hb).1) (by omega)
      have hv2:=qft hst2 e2
      have hK2:W2.heap[D]? =some (.deferred (some [])):=(hs2.same D (Array.getElem?_eq_some_iff.1 hK).1 (fun ho=>(hown D ho).2 rfl) (fun h=>h)).trans hK
      have hds:=(qiS hst2).1
      have hg2:=i1.trans hg
      clear hst2 hs2
      obtain⟨tmps2,ds2⟩:=a2
      simp only at hds hv2
      subst hds
      refine⟨by simp, .inl ⟨_,_,rfl,run_takeDeferred hK2,?_⟩⟩
      have hres:(results Tryz.f320 tmps2).run Tryz.prog (W2.putObj D (.deferred none))= .ok (.string (jm (low c))) (W2.putObj D (.deferred none)):=by
        simp[results,Tryz.f320,go_sem]
        simpa using hv2
      rw[hB]at hg2
      exact⟨_,hres,rfl,hg2.trans (GrL.put _ (by omega) _)⟩
    | normal=>obtain⟨_,_,_,h⟩:=he;exact h.elim
    | exit id=>obtain⟨_,_,_,h⟩:=he;exact h.elim
    | goto t=>exact he.elim
    | panic ch=>exact he.elim
    | outgrown=>exact he.elim
  case stop=>
    rintro D k W _ _ h _
    exact h.elim
end Go.Proofs
namespace Go.Gv
open Go.Proofs Go.RowKit
open Cod (enc dec)
theorem UX{S:Nat->Spc}(hS:∀f,Tri Tryz.prog f (S f).pt)(hlo:S dJ=Gb):Tri Tryz.prog nZ s_cpFold1.pt:=by
  refine qP (gD Tryz.func320 (by kernel_rfl) rfl) fun tp I w vs s hp hI hl hr=>?_
  obtain⟨c,c0,c1,rfl⟩:=hp
  have hview:(a1 B).view (jm c)=[.v (.string (jm c))]:=rfl
  rw[hview]at hl hr
  match vs,hl with
  | [v0],_=>
    have e0:=B4 (hr 0 v0 _ rfl rfl)
    subst e0
    refine(callsIn_wide (n:=10)).1 ((Tryz.Fold_in hS hlo Fence.wide ⟨rfl⟩ 10 trivial trivial trivial rfl (by omega) c c0 c1 w).mono ?_)
    rintro e w' ⟨rfl,hg⟩
    obtain⟨l0,l1⟩:=MD c0 c1
    exact⟨_,jm (low c),rfl,fun d d0 d1 e=>by rw[Tl c0 c1 d0 d1 e],fun tp' I'=> .str _ (Nat.le_of_ble_eq_true rfl),hg.below,hg.drawn⟩
end Go.Gv

namespace Go.Proofs
open Go.Shelf
def Tryz.lays197_ren:Go.Shelf.Ren:=⟨fun|197=>299|260=>315|n=>n,fun|9=>9|21=>21|3=>3|4=>4|5=>5|105=>315|119=>342|0=>0|46=>190|139=>345|138=>344|n=>n,fun|3=>1|4=>2|n=>n⟩
theorem Tryz.lays197:Go.Proofs.Lays.n197 Tryz.prog Tryz.lays197_ren:={
 mixed:=by kernel_rfl
 f197:=Tryz.func299.trans (congrArg some (by kernel_rfl))
 f260:=Tryz.func315.trans (congrArg some (by kernel_rfl))
 t0:=Tryz.underlying0
 a0:=Tryz.isAgg0
 z0:=Tryz.sizeOf0
 v0:=Tryz.zeroValue0
 t3:=Tryz.underlying3
 a3:=Tryz.isAgg3
 z3:=Tryz.sizeOf3
 v3:=Tryz.zeroValue3
 t4:=Tryz.underlying4
 a4:=Tryz.isAgg4
 z4:=Tryz.sizeOf4
 v4:=Tryz.zeroValue4
 t5:=Tryz.underlying5
 a5:=Tryz.isAgg5
 z5:=Tryz.sizeOf5
 v5:=Tryz.zeroValue5
 t9:=Tryz.underlying9
 a9:=Tryz.isAgg9
 z9:=Tryz.sizeOf9
 v9:=Tryz.zeroValue9
 t21:=Tryz.underlying21
 a21:=Tryz.isAgg21
 z21:=Tryz.sizeOf21
 v21:=Tryz.zeroValue21
 t46:=Tryz.underlying190
 a46:=Tryz.isAgg190
 z46:=Tryz.sizeOf190
 v46:=Tryz.zeroValue190
 t105:=Tryz.underlying315
 a105:=Tryz.isAgg315
 z105:=Tryz.sizeOf315
 v105:=Tryz.zeroValue315
 t119:=Tryz.underlying342
 a119:=Tryz.isAgg342
 z119:=Tryz.sizeOf342
 t138:=Tryz.underlying344
 a138:=Tryz.isAgg344
 z138:=Tryz.sizeOf344
 v138:=Tryz.zeroValue344
 t139:=Tryz.underlying345
 a139:=Tryz.isAgg345
 z139:=Tryz.sizeOf345
 v139:=Tryz.zeroValue345
 g3:=by kernel_rfl
 g4:=by kernel_rfl }
def Tryz.lays151_ren:Go.Shelf.Ren:=⟨fun|151=>328|152=>338|137=>353|119=>354|224=>282|225=>281|217=>280|266=>301|n=>n,fun|9=>9|21=>21|4=>4|3=>3|5=>5|0=>0|46=>190|n=>n,fun|n=>n⟩
theorem Tryz.lays151:Go.Proofs.Lays.n151 Tryz.prog Tryz.lays151_ren:={
 mixed:=by kernel_rfl
 f119:=Tryz.func354.trans (congrArg some (by kernel_rfl))
 f137:=Tryz.func353.trans (congrArg some (by kernel_rfl))
 f151:=Tryz.func328.trans (congrArg some (by kernel_rfl))
 f152:=Tryz.func338.trans (congrArg some (by kernel_rfl))
 f217:=Tryz.func280.trans (congrArg some (by kernel_rfl))
 f224:=Tryz.func282.trans (congrArg some (by kernel_rfl))
 f225:=Tryz.func281.trans (congrArg some (by kernel_rfl))
 f266:=Tryz.func301.trans (congrArg some (by kernel_rfl))
 t0:=Tryz.underlying0
 a0:=Tryz.isAgg0
 z0:=Tryz.sizeOf0
 v0:=Tryz.zeroValue0
 t3:=Tryz.underlying3
 a3:=Tryz.isAgg3
 z3:=Tryz.sizeOf3
 v3:=Tryz.zeroValue3
 t4:=Tryz.underlying4
 a4:=Tryz.isAgg4
 z4:=Tryz.sizeOf4
 v4:=Tryz.zeroValue4
 t5:=Tryz.underlying5
 a5:=Tryz.isAgg5
 z5:=Tryz.sizeOf5
 v5:=Tryz.zeroValue5
 t9:=Tryz.underlying9
 a9:=Tryz.isAgg9
 z9:=Tryz.sizeOf9
 v9:=Tryz.zeroValue9
 t21:=Tryz.underlying21
 a21:=Tryz.isAgg21
 z21:=Tryz.sizeOf21
 v21:=Tryz.zeroValue21
 t46:=Tryz.underlying190
 a46:=Tryz.isAgg190
 z46:=Tryz.sizeOf190
 v46:=Tryz.zeroValue190 }
def Tryz.lays144_ren:Go.Shelf.Ren:=⟨fun|144=>174|143=>223|219=>258|217=>280|225=>281|224=>282|267=>283|266=>301|314=>302|n=>n,fun|9=>9|4=>4|3=>3|5=>5|46=>190|146=>317|51=>239|n=>n,fun|1=>0|n=>n⟩
theorem Tryz.lays144:Go.Proofs.Lays.n144 Tryz.prog Tryz.lays144_ren:={
 mixed:=by kernel_rfl
 f143:=Tryz.func223.trans (congrArg some (by kernel_rfl))
 f144:=Tryz.func174.trans (congrArg some (by kernel_rfl))
 f217:=Tryz.func280.trans (congrArg some (by kernel_rfl))
 f219:=Tryz.func258.trans (congrArg some (by kernel_rfl))
 f224:=Tryz.func282.trans (congrArg some (by kernel_rfl))
 f225:=Tryz.func281.trans (congrArg some (by kernel_rfl))
 f266:=Tryz.func301.trans (congrArg some (by kernel_rfl))
 f267:=Tryz.func283.trans (congrArg some (by kernel_rfl))
 f314:=Tryz.func302.trans (congrArg some (by kernel_rfl))
 t3:=Tryz.underlying3
 a3:=Tryz.isAgg3
 z3:=Tryz.sizeOf3
 v3:=Tryz.zeroValue3
 t4:=Tryz.underlying4
 a4:=Tryz.isAgg4
 z4:=Tryz.sizeOf4
 v4:=Tryz.zeroValue4
 t5:=Tryz.underlying5
 a5:=Tryz.isAgg5
 z5:=Tryz.sizeOf5
 v5:=Tryz.zeroValue5
 t9:=Tryz.underlying9
 a9:=Tryz.isAgg9
 z9:=Tryz.sizeOf9
 v9:=Tryz.zeroValue9
 t46:=Tryz.underlying190
 a46:=Tryz.isAgg190
 z46:=Tryz.sizeOf190
 v46:=Tryz.zeroValue190
 t51:=Tryz.underlying239
 a51:=Tryz.isAgg239
 z51:=Tryz.sizeOf239
 v51:=Tryz.zeroValue239
 t146:=Tryz.underlying317
 a146:=Tryz.isAgg317
 z146:=Tryz.sizeOf317
 v146:=Tryz.zeroValue317
 g1:=by kernel_rfl }
end Go.Proofs

namespace Go.Gv
open Go.Proofs Go.RowKit
open Cod (enc dec)
theorem Zt(c:UInt8):∀l:List UInt8, -1<=Lib.indexByte l c
 | []=>qvv _
 | b::l=>by
   have:=Zt c l
   rw[Lib.indexByte]
   split
   ·omega
   ·split <;> omega
theorem Zs(c:Int)(c0:0<=c)(c1:c < 128):∀l:List UInt8,decide (0<=Lib.indexByte l c.toNat.toUInt8)=l.any fun x=>decide ((x.toNat:Int)=c)
 | []=>rfl
 | x::l=>by
   have ih:=Zs c c0 c1 l
   have e:(x==c.toNat.toUInt8)=decide ((x.toNat:Int)=c):=by
    have h1:c.toNat.toUInt8.toNat=c.toNat:=by
     rw[Nat.toUInt8,qvj]
     omega
    rw[qum]
    simp only[beq_iff_eq,decide_eq_true_eq]
    constructor
    ·rintro rfl
     omega
    ·intro h
     exact UInt8.toNat_inj.1 (by omega)
   rw[Lib.indexByte,List.any_cons,e]
   by_cases h:(x.toNat:Int)=c
   ·simp[h]
   ·simp only[h,decide_false,qul,if_false,Bool.false_or]
    rw[<-ih]
    have hg:=Zt c.toNat.toUInt8 l
    by_cases h1:Lib.indexByte l c.toNat.toUInt8= -1
    ·simp[h1]
    ·have h2:¬ (Lib.indexByte l c.toNat.toUInt8== -1)=true:=by simpa using h1
     rw[if_neg h2]
     rw[qum]
     simp only[decide_eq_true_eq]
     omega
theorem xU:Tri Tryz.prog fU s_crune.pt:=by
 refine qP (gD Tryz.func328 (by kernel_rfl) rfl) fun tp I w vs x hp hI hl hr=>?_
 obtain⟨s,⟨c⟩⟩:=x
 obtain⟨c0,c1⟩:=hp
 have hview:(a2 B I32).view (s,⟨c⟩)=[.v (.string s), .v (.int .i32 c)]:=rfl
 rw[hview]at hl hr
 match vs,hl with
 | [v0,v1],_=>
   have e0:=B4 (hr 0 v0 _ rfl rfl)
   have e1:=B4 (hr 1 v1 _ rfl rfl)
   subst e0;subst e1
   refine(Any.strings_ContainsRune_ascii Tryz.lays151 s c w c0 c1).mono ?_
   rintro e w' ⟨rfl,rfl⟩
   refine⟨_,qc1 s c,rfl,rfl,fun tp' I'=>?_,Below.refl _ _,qtP _⟩
   rw[Zs c c0 c1]
   exact .bool _
theorem Ce:Tri Tryz.prog cD s_decR.pt:=by
 refine qP (gD Tryz.func299 (by kernel_rfl) rfl) fun tp I w vs s hp hI hl hr=>?_
 obtain⟨c,hc,h128⟩:=hp
 have hview:(a1 B).view s=[.v (.string s)]:=rfl
 rw[hview]at hl hr
 match vs,hl with
 | [v0],_=>
   have e0:=B4 (hr 0 v0 _ rfl rfl)
   subst e0
   refine(Any.utf8_DecodeRuneInString_ascii Tryz.lays197 s c w (by rw[qt9];exact hc) h128).mono ?_
   rintro e w' ⟨rfl,rfl⟩
   refine⟨_,(⟨c.toNat⟩,1),rfl,fun c' hc'=>by rw[hc]at hc';cases hc';rfl,fun tp' I'=>?_,Below.refl _ _,qtP _⟩
   refine .tup _ _ rfl fun k x c hx hc=>?_
   rcases k with _|_|k
   ·cases hx;cases hc;exact .int _ _
   ·cases hx;cases hc;exact .int _ _
   ·simp at hx
end Go.Gv

namespace Go.Gv
open Go.Proofs Go.RowKit
open Cod (enc dec)
theorem TD(c:UInt8):∀l:List UInt8, -1<=Lib.indexByte l c
 | []=>qvv _
 | b::l=>by
   have:=TD c l
   rw[Lib.indexByte]
   split
   ·omega
   ·split <;> omega
theorem Pb:∀l:List UInt8,decide (0<=Lib.indexByte l 124)=l.any fun c=>decide (c.toNat=124)
 | []=>rfl
 | x::l=>by
   have ih:=Pb l
   have e:(x==124)=decide (x.toNat=124):=by
    rw[qum]
    simp only[beq_iff_eq,decide_eq_true_eq]
    exact⟨fun h=>by rw[h];rfl,fun h=>UInt8.toNat_inj.1 h⟩
   rw[Lib.indexByte,List.any_cons,e]
   by_cases h:x.toNat=124
   ·simp[h]
   ·simp only[h,decide_false,qul,if_false,Bool.false_or]
    rw[<-ih]
    have hg:=TD 124 l
    by_cases h1:Lib.indexByte l 124= -1
    ·simp[h1]
    ·have h2:¬ (Lib.indexByte l 124== -1)=true:=by simpa using h1
     rw[if_neg h2]
     rw[qum]
     simp only[decide_eq_true_eq]
     omega
theorem GK:Tri Tryz.prog kS s_sConB.pt:=by
 refine qP (gD Tryz.func174 (by kernel_rfl) rfl) fun tp I w vs x hp hI hl hr=>?_
 obtain⟨s,t⟩:=x
 obtain⟨ht,_⟩:=hp
 have ht:t=⟨#[124]⟩:=ht
 subst ht
 have hview:(a2 B B).view (s,⟨#[124]⟩)=[.v (.string s), .v (.string ⟨#[124]⟩)]:=rfl
 rw[hview]at hl hr
 match vs,hl with
 | [v0,v1],_=>
   have e0:=B4 (hr 0 v0 _ rfl rfl)
   have e1:=B4 (hr 1 v1 _ rfl rfl)
   subst e0;subst e1
   refine(Any.strings_Contains_one Tryz.lays144 s 124 w).mono ?_
   rintro e w' ⟨rfl,rfl⟩
   refine⟨_,qaD s,rfl,rfl,fun tp' I'=>?_,Below.refl _ _,qtP _⟩
   rw[Pb]
   exact .bool _
end Go.Gv

namespace Go.Gv
open Go.Proofs
def jR:CC:=gq Tryz.f117 [] {} _
def jD:List aj:=[.tmp 2]
theorem zZ:am Tryz.prog de [] jR jD 29:=fo
def ot:CC:=gq Tryz.f166 [] {} _
def nJ:List aj:=[.tmp 2]
theorem D7:am Tryz.prog bL [] ot nJ 21:=fo
def oo:CC:=gq Tryz.f167 [] {} _
def nI:List aj:=[.tmp 2]
theorem D6:am Tryz.prog dQ [] oo nI 17:=fo
def oh:CC:=gq Tryz.f154 [3,2] {} _
def nE:List aj:=[.tmp 4]
def li:CC:=gq Tryz.f210 [2] {} _
def kK:List aj:=[.tmp 3]
def un:CC:=gq Tryz.f211 [1] {} _
def tH:List aj:=[.tmp 2]
def ur:CC:=gq Tryz.f155 [1] {} _
def tK:List aj:=[.tmp 2]
def sq:CC:=gq Tryz.f111 [3,2] {} _
def ru:List aj:=[.tmp 4]
def oj:CC:=gq Tryz.f157 [2] {} _
def nF:List aj:=[.tmp 3]
def so:CC:=gq Tryz.f112 [1] {} _
def rr:List aj:=[.tmp 2]
def qn:CC:=gq Tryz.f113 [1] {} _
def pP:List aj:=[.tmp 2]
def su:CC:=gq Tryz.f110 [1] {} _
def rA:List aj:=[.tmp 2]
def sk:CC:=gq Tryz.f57 [1] {} _
def rq:List aj:=[.tmp 2]
def uo:CC:=gq Tryz.f118 [1] {} _
def tI:List aj:=[.tmp 2]
def dg:CC:=gq Tryz.f156 [] {} _
def cY:List aj:=[.tmp 4]
def dV:CC:=gq Tryz.f212 [] {} _
def dT:List aj:=[.tmp 4]
end Go.Gv

namespace Go.Gv
open Go.Proofs
theorem JP:am Tryz.prog ww [] uv tN 18:=fo
theorem Be:am Tryz.prog iq [] lr kQ 20:=fo
theorem Eb:am Tryz.prog qe [] ow nM 6:=fo
theorem Ea:am Tryz.prog qd [2] ov nL 27:=fo
theorem D2:am Tryz.prog gx [3,2] oh nE 14:=fo
theorem A2:am Tryz.prog eR [2] li kK 9:=fo
theorem JI:am Tryz.prog ws [1] un tH 37:=fo
theorem JL:am Tryz.prog jp [1] ur tK 69:=fo
theorem HG:am Tryz.prog ff [3,2] sq ru 15:=fo
theorem D3:am Tryz.prog gy [2] oj nF 8:=fo
theorem HF:am Tryz.prog dX [1] so rr 29:=fo
theorem FJ:am Tryz.prog dz [1] qn pP 33:=fo
theorem HJ:am Tryz.prog pb [1] su rA 9:=fo
theorem HE:am Tryz.prog tZ [1] sk rq 13:=fo
theorem JJ:am Tryz.prog mK [1] uo tI 49:=fo
theorem nP:am Tryz.prog aK [] dg cY 9:=fo
theorem qG:am Tryz.prog iL [] dV dT 19:=fo
theorem CP:am Tryz.prog bL [] ni mh 21:=fo
theorem CO:am Tryz.prog dQ [] nh mg 17:=fo
theorem yt:am Tryz.prog de [] iX iz 29:=fo
end Go.Gv
