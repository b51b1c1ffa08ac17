/- I15 -/
import Derived.Shelf.Strings.Runes
import Derived.Shelf.Strings.Search3
import Derived.Shelf.Unicode.Decode
import Derived.Ground.NamesProg
import Derived.Test.YtmakafgajmnflaaGreatDoorProg
import Derived.Shelf.SlGeneric
import Derived.Shelf.SlLaysF0
import Derived.Shelf.SlMaps.Clone
import Derived.Ground.SlsfProg
import Derived.Ground.SlmcProg
import Derived.Test.YtmakafgajmnflaaGreatDoorGf17
set_option linter.all false
set_option maxRecDepth 100000
set_option maxHeartbeats 0
open Bool renaming forall_bool → fB', exists_bool → eB'
namespace Go.Proofs
open Go.RowKit Go.Shelf Go.Gv
variable {dq:Prop}
attribute [local go_sem] Oper.semAt_some
def VQ:Value->D->Prop:=λx d=>∃n:Int,x= .int .u8 n/\d= .v (.int .u8 n)
def ZG(l:List Int):List D:=l.map λn=> .v (.int .u8 n)
def XI:∀l:List Int,ba (ZG l)=ZG l
  | []=>rfl
  | b::l=>by
    have ih:=XI l;unfold ZG ba at ih ⊢;rw[List.map_cons,List.flatMap_cons,ih];rfl
def qbh(c:Int)(k:Nat):List Int:=if k=0 then[]else[low c]
def qtb(B Z:Nat)(v:Value):Prop:=∀b,v.ownBlock=some b->B<b/\b≠B+2/\b≠B+3/\(b<Z\/Z+4<=b)
def V0(B k:Nat)(v:Value):Prop:=k=0->v= .slice (some ⟨B+1,0,none⟩) 0 1
structure qs5 (s:ByteArray) (c:Int):Prop where
  e:s=lr c
def RowB(W:World)(v:Value)(l:List Int):Prop:=ResOk VQ W (.row v rO 1 (ZG l))
def VQ.R{tp I:Nat->Prop}{w:World}{x:Value}{d:D}(h:VQ x d):R tp I w x d:=by
  obtain⟨n,rfl,rfl⟩:=h;exact .int _ _
def RowB.keep{W W':World}{v:Value}{l:List Int}(h:RowB W v l)(hb:∀b,v.ownBlock=some b->W'.heap[b]? =W.heap[b]?):RowB W' v l:=h.conv (λ_ _ h=>h) hb
def RowB.res{tp I:Nat->Prop}{W:World}{v:Value}{l:List Int}(h:RowB W v l):ResOk (R tp I W) W (.row v rO 1 (ZG l)):=h.conv (λ_ _ h=>h.R) (λ_ _=>rfl)
def qfy{tp I:Nat->Prop}{W:World}{v:Value}{l:List Int}(h:ResOk (R tp I W) W (.row v rO 1 (ZG l))):RowB W v l:=by
  obtain⟨xs,h1,h2,h3⟩:=h;refine⟨xs,h1,h2,λk y c hy hc=>⟨(h3 k y c hy hc).1,?_⟩⟩;have hfl:=XI l;have hc2:=hc;rw[hfl]at hc2;unfold ZG at hc2;rw[List.getElem?_map]at hc2;obtain⟨n,_,rfl⟩:=Option.map_eq_some_iff.1 hc2;exact⟨n,(h3 k y _ hy hc).2.inv_v,rfl⟩
theorem RowB.blk{W:World}{v:Value}{l:List Int}(h:RowB W v l){b:Nat}(hb:v.ownBlock=some b):∃xs el,W.heap[b]? =some (.cells xs el (0,0)):=by
  obtain⟨xs,h1,_⟩:=h;rcases h1.2 with⟨rfl,_⟩|⟨g,cap,cur,rfl,_,hg,_⟩
  · cases hb
  · cases hb;exact⟨_,_,hg⟩
theorem RowB.one{W:World}{v:Value}{l:List Int}(h:RowB W v l):v.oneCell'=true:=by
  obtain⟨xs,h1,_⟩:=h;rcases h1.2 with⟨rfl,_⟩|⟨g,cap,cur,rfl,_⟩ <;>rfl
def UU{c:Int}(h0:0<=c)(h1:c< 128):FK (lr c)=ZG [c]:=by
  have e:(c.toNat.toUInt8).toNat=c.toNat % 256:=UInt8.toNat_ofNat' ..;have e2:((c.toNat.toUInt8).toNat:Int)=c:=by omega
  show[D.v (.int .u8 ((c.toNat.toUInt8).toNat:Int))]=[D.v (.int .u8 c)]
  rw[e2]
def Ja:CC:= .seq (.reg [oC 34 1 3,oB 35 (.bstr (oT 34)),oA 2 35]) .ret
set_option maxRecDepth 100000 in
set_option maxHeartbeats 4000000 in
theorem Tryz.Fold_in{S:Nat->Spc}(hS:∀f,Tri True Tryz.prog f (S f).pt)(hlo:S eQ=Lc)(F:Fence)(hF:qBt F)(n:Nat)(h105:F.fn 261)(h95:F.fn 251)(h128:F.fn 274)(hro:F.round=none)(hn:10<=n)(c:Int)(c0:0<=c)(c1:c< 128)(w:World):
    CallsIn F n Tryz.prog 261 #[.string (lr c)] w λe W'=>e= .returned (.string (lr (low c)))/\GrL w.heap.size w W':=by
  have h1:1<=n:=by omega
  refine callsIn_of_wp_marks Tryz.func261 rfl h105 ?_ hro;simp only[Tryz.ntmps261,List.size_toArray,List.length_cons,List.length_nil,Nat.reduceAdd,Nat.reduceSub,Array.replicate_succ,Array.replicate_zero,List.push_toArray,List.append_toArray,List.nil_append,List.cons_append];obtain⟨s,hs0⟩:∃s:ByteArray,s=lr c:=⟨_,rfl⟩
  have hs:qs5 s c:=⟨hs0⟩
  have hsz:s.size=1:=by rw[hs0];rfl
  have hmk:∀w,(Instr.makeSlice 319 (.int .i64 0) (.int .i64 1)).run Tryz.prog w= .ok (.slice (some ⟨w.heap.size,0,none⟩) 0 1) (w.alloc (.cells #[.int .u8 0] 5)):=λ_=>by kernel_rfl
  have hsl:(s.size:Int)=1:=by omega
  rw[<-hs0];clear hs0
  gi_wp2_with (gi_at_call 251;refine(Tryz.units_in F (n -1) h95 hro _ _).mono ?_;rintro e w' ⟨rfl,rfl⟩)
  obtain⟨B,hB⟩:∃B,B=w.heap.size:=⟨_,rfl⟩
  obtain⟨W0,hW0⟩:∃W0,(((w.alloc (.cells #[.string s] 9)).alloc (.cells #[.int .u8 0] 5)).alloc (.cells #[.slice (some ⟨w.heap.size+1,0,none⟩) 0 1] 319)).alloc (.cells #[.string s] au)=W0:=⟨_,rfl⟩
  rw[hW0];have hsz0:W0.heap.size=w.heap.size+4:=by rw[<-hW0];simp
  have g0:GrL w.heap.size w W0:=by
    rw[<-hW0];exact(((GrL.alloc w (Nat.le_refl _) _).trans (GrL.alloc _ (by simp) _)).trans (GrL.alloc _ (by first|(simp;done)|(simp;omega)) _)).trans (GrL.alloc _ (by first|(simp;done)|(simp;omega)) _)
  have B0:∀W:World,∀o:Obj,(W.alloc o).heap[W.heap.size]? =some o:=λW o=>World.alloc_heap_new W o
  have b3:W0.heap[w.heap.size+3]? =some (.cells #[.string s] au (0,0)):=by
    rw[<-hW0];have h:=B0 (((w.alloc (.cells #[.string s] 9)).alloc (.cells #[.int .u8 0] 5)).alloc (.cells #[.slice (some ⟨w.heap.size+1,0,none⟩) 0 1] 319)) (.cells #[.string s] au);simpa using h
  have b0:W0.heap[w.heap.size]? =some (.cells #[.string s] 9 (0,0)):=by
    rw[<-hW0];have h:=B0 w (.cells #[.string s] 9);exact(Below.heap_alloc _ _ _ (by first|(simp;done)|(simp;omega))).trans ((Below.heap_alloc _ _ _ (by first|(simp;done)|(simp;omega))).trans ((Below.heap_alloc _ _ _ (by first|(simp;done)|(simp;omega))).trans h))
  have b1:W0.heap[w.heap.size+1]? =some (.cells #[.int .u8 0] 5 (0,0)):=by
    rw[<-hW0];have h:=B0 (w.alloc (.cells #[.string s] 9)) (.cells #[.int .u8 0] 5);rw[show(w.alloc (.cells #[.string s] 9)).heap.size=w.heap.size+1 by simp]at h;exact(Below.heap_alloc _ _ _ (by first|(simp;done)|(simp;omega))).trans ((Below.heap_alloc _ _ _ (by first|(simp;done)|(simp;omega))).trans h)
  have b2:W0.heap[w.heap.size+2]? =some (.cells #[.slice (some ⟨w.heap.size+1,0,none⟩) 0 1] 319 (0,0)):=by
    rw[<-hW0];have h:=B0 ((w.alloc (.cells #[.string s] 9)).alloc (.cells #[.int .u8 0] 5)) (.cells #[.slice (some ⟨w.heap.size+1,0,none⟩) 0 1] 319);rw[show((w.alloc (.cells #[.string s] 9)).alloc (.cells #[.int .u8 0] 5)).heap.size=w.heap.size+2 by simp]at h;exact(Below.heap_alloc _ _ _ (by first|(simp;done)|(simp;omega))).trans h
  clear hW0 B0;have ha:∀(k:Nat) (h:k<s.size),(s[k]'h).toNat< 128:=λk h=>by
    have hk0:k=0:=by omega
    subst hk0;obtain⟨rfl⟩:=hs;show(c.toNat.toUInt8).toNat< 128;have e:(c.toNat.toUInt8).toNat=c.toNat % 256:=UInt8.toNat_ofNat' ..;omega
  have hcA:Pw s 0=c:=by
    obtain⟨rfl⟩:=hs;show((c.toNat.toUInt8).toNat:Int)=c;have e:(c.toNat.toUInt8).toNat=c.toNat % 256:=UInt8.toNat_ofNat' ..;omega
  have hrow0:RowB W0 (.slice (some ⟨w.heap.size+1,0,none⟩) 0 1) []:=⟨[],⟨rfl, .inr ⟨w.heap.size+1,1, #[.int .u8 0],rfl,Nat.zero_le _,b1,Nat.zero_le _,by decide,rfl,rfl⟩⟩,by simp[ZG],λk y c hy=>by simp at hy⟩
  have hfar0:qtb w.heap.size W0.heap.size (.slice (some ⟨w.heap.size+1,0,none⟩) 0 1):=λb hb=>by
    have hbe:b=w.heap.size+1:=by cases hb;rfl
    omega
  have hcs:W0.cell? ⟨w.heap.size+3,0,none⟩=some (.string s):=bS b3 rfl;refine R5 hro h1 (gf:=274) (lb:= #[.pointer (some ⟨w.heap.size+3,0,none⟩)]) rfl h128 (enters_of Tryz.func274 (by kernel_rfl) rfl)
    (Tryz.units1_it F (n -1) h128 hro (by omega) s (by omega) ha (λk=>k=w.heap.size+3) (w.heap.size+3) rfl W0 (λ_ h=>by omega) hcs) (λ_ h=>by omega) (λ_=>rfl)
    (λk W=>GrL w.heap.size w W/\Bx W w.heap.size #[.string s]/\∃v,Bx W (w.heap.size+2) #[v]/\RowB W v (qbh c k)/\qtb w.heap.size W0.heap.size v/\V0 w.heap.size k v)
    (λ_ _=>False)
    (λk A C hs hg0=>by
      have hg:=hg0.toL;obtain⟨i1,i2,v,i3,i4,i5,i6⟩:=hs;exact⟨i1.trans (hg.mono (by omega)),i2.keep (hg.low _ (by omega)),v,i3.keep (hg.low _ (by omega)),i4.keep (λb hb=>by
        obtain⟨xs,el,hx⟩:=i4.blk hb;exact(hg0.get hx (i5 b hb).2.2.2).trans hx.symm),i5,i6⟩)
    (λ_ _ _ hs _=>hs)
    ⟨g0, .of b0,_, .of b2,hrow0,hfar0,λ_=>rfl⟩
    (λk a' W=>∃Br,W0.heap.size+4<=Br/\W.heap[Br]? =some (.cells #[.int .i32 (Pw s k), .int .i64 (k:Int), .int .i64 1] 290 (0,0))/\(∀v,W.cell? ⟨w.heap.size+2,0,none⟩=some v->v.ownBlock≠some Br)/\
      a'={ tmps:= #[.string s, .pointer (some ⟨w.heap.size,0,none⟩), .string { data:= #[] }, .pointer (some ⟨w.heap.size+1+1,0,none⟩), .pointer (some ⟨Br,0,none⟩),undef, .string s, .int .i64 1, .slice (some ⟨w.heap.size+1,0,none⟩) 0 1, .string s, .func (.func 274) #[] #[.pointer (some ⟨w.heap.size+1+1+1,0,none⟩)], .agg #[.int .i32 (Pw s k), .int .i64 (k:Int), .int .i64 1],undef,undef,undef,undef,undef,undef,undef,undef,undef,undef,undef,undef,undef,undef,undef,undef,undef,undef,undef,undef,undef,undef,undef,undef],defers:=[] })
    (λa' k W o hlt hs=>by
      obtain⟨Br,q1,q2,q3,q4⟩:=hs;refine⟨Br,q1,(World.putObj_heap_other (by omega)).trans q2,λv hv=>q3 v ?_,q4⟩;rw[World.cell?_of_block (World.putObj_heap_other (by show w.heap.size+2≠W0.heap.size+1;omega))]at hv;exact hv)
    ?assign ?body ?done ?stop
  case assign=>
    rintro l k W hsz2 hl ⟨i1,i2,v,i3,i4,i5,i6⟩ hk;rw[RB];generalize Pw s k=c
    gi_wp2
    refine⟨(KeepsOthers.alloc _ _).from _,KBt.alloc _ _ _ _,⟨i1.trans (GrL.alloc W i1.size _),i2.keep (Below.heap_alloc _ _ _ (by omega)),v,i3.keep (Below.heap_alloc _ _ _ (by omega)),i4.keep (λb hb=>by
      obtain⟨xs,el,hx⟩:=i4.blk hb;exact Below.heap_alloc _ _ _ (Array.getElem?_eq_some_iff.1 hx).1),i5,i6⟩,W.heap.size,by omega,World.alloc_heap_new W _,λv' hv' hb=>?_,rfl⟩
    have hcv:=(i3.keep (Below.heap_alloc W (.cells #[.int .i32 c, .int .i64 (k:Int), .int .i64 1] 290) _ (by omega))).cell (k:=0) rfl;rw[hcv]at hv';cases hv';obtain⟨xs,el,hx⟩:=i4.blk hb;have:=(Array.getElem?_eq_some_iff.1 hx).1;omega
  case body=>
    rintro l k a' W hsz2 hl ⟨i1,i2,v,i3,i4,i5,i6⟩ ⟨Br,hBr,bR,hnb,rfl⟩ hk;obtain⟨rfl⟩:=hF;obtain rfl:k=0:=by omega
    rw[hcA]at bR;have hnb:=hnb v (i3.cell rfl);rw[<-hB]at i1 i2 i3 i5 i6 hsz0;have hz0:=i1.size;obtain⟨H,hH⟩:∃H,H=gD [(3,Res.box (B+2) [.own 33 v]),(33, .row v rO 1 (ZG (qbh c 0)))] bV:=⟨_,rfl⟩
    have hown:∀b,bz H b->B<=b/\ ¬b=B+3/\ ¬b=B/\b≠Br:=by
      rintro b ⟨j,r,hj,hb⟩;rw[hH]at hj;have hj:=dM hj;simp only[List.mem_cons,Prod.mk.injEq,List.not_mem_nil,or_false]at hj;rcases hj with⟨rfl,rfl⟩|⟨rfl,rfl⟩
      · simp only[Res.blk,Option.some.injEq]at hb;omega
      · have hb:v.ownBlock=some b:=hb
        have:=i5 b hb;exact⟨by omega,by omega,by omega,λe=>hnb (e ▸hb)⟩
    have hst:St (KM W H 36 []) (dt [.any, .cptr [.v (.string s)] 0, .any, .bptr 3 (B+2) 0, .cptr [.v (.int .i32 c), .v (.int .i64 ((0:Nat):Int)), .v (.int .i64 1)] 0]) H { tmps:= #[.string s, .pointer (some ⟨w.heap.size,0,none⟩), .string { data:= #[] }, .pointer (some ⟨w.heap.size+1+1,0,none⟩), .pointer (some ⟨Br,0,none⟩),undef, .string s, .int .i64 1, .slice (some ⟨w.heap.size+1,0,none⟩) 0 1, .string s, .func (.func 274) #[] #[.pointer (some ⟨w.heap.size+1+1+1,0,none⟩)], .agg #[.int .i32 (Pw s 0), .int .i64 ((0:Nat):Int), .int .i64 1],undef,undef,undef,undef,undef,undef,undef,undef,undef,undef,undef,undef,undef,undef,undef,undef,undef,undef,undef,undef,undef,undef,undef,undef],defers:=[] } W:=by
      refine qwN rfl ?_ ?_ ?_
      · intro i j r1 r2 b hi hj e1 e2
        rw[hH]at hi hj;have hi:=dM hi;have hj:=dM hj;simp only[List.mem_cons,Prod.mk.injEq,List.not_mem_nil,or_false]at hi hj;rcases hi with⟨rfl,rfl⟩|⟨rfl,rfl⟩ <;>rcases hj with⟨rfl,rfl⟩|⟨rfl,rfl⟩
        · rfl
        · cases e1
          exact absurd rfl (i5 _ e2).2.1
        · cases e2
          exact absurd rfl (i5 _ e1).2.1
        · rfl
      · intro j r hj
        rw[hH]at hj;have hj:=dM hj;simp only[List.mem_cons,Prod.mk.injEq,List.not_mem_nil,or_false]at hj;rcases hj with⟨rfl,rfl⟩|⟨rfl,rfl⟩
        · obtain⟨el,h3⟩:=i3
          refine⟨#[v],el,h3,rfl,λk y d hy hd=>?_⟩;rcases k with _|k
          · cases hy;cases hd
            exact⟨i4.one, .own 33 v i4.one⟩
          · cases hd
        · exact i4.res
      · intro t
        rw[<-hB];rcases t with _|_|_|_|_|t
        · exact .any _
        · exact Bx.cptr [.string s] i2 ⟨i2.lt,λh=>h,λh=>h,λh=>(hown B h).2.2.1 rfl⟩ (λx hx=>by rw[List.mem_singleton.1 hx];exact⟨rfl, .str s (by rw[hsz];decide)⟩)
        · exact .any _
        · exact .bptr 3 (B+2) 0
        · have hbx:Bx W Br #[.int .i32 c, .int .i64 ((0:Nat):Int), .int .i64 1]:= .of bR
          exact Bx.cptr [.int .i32 c, .int .i64 ((0:Nat):Int), .int .i64 1] hbx ⟨hbx.lt,λh=>h,λh=>h,λh=>(hown Br h).2.2.2 rfl⟩ (λx hx=>by
            simp only[List.mem_cons,List.not_mem_nil,or_false]at hx;rcases hx with rfl|rfl|rfl<;>exact⟨rfl, .int _ _⟩)
        · exact .any _
    have hv:vc S gK (λe _ H'=>match e with
        | .norm=>∃v',H' 3=some (.box (B+2) [.own 33 v'])/\H' 33=some (.row v' rO 1 (ZG [low c]))
        | _=>False) (dt [.any, .cptr [.v (.string s)] 0, .any, .bptr 3 (B+2) 0, .cptr [.v (.int .i32 c), .v (.int .i64 ((0:Nat):Int)), .v (.int .i64 1)] 0]) H:=by
      rw[hH];have hd1:FK (lr c)=ZG [c]:=UU c0 c1;by_cases hlc:low c=c
      · simp[gK,hlo,c0,c1,hlc,qbh,hsz,-fB',-eB']
        have hex:s.extract 0 1=lr c:=by
          obtain⟨rfl⟩:=hs;rfl
        rw[hex,hd1];exact⟨by simp only[InR];omega,Nat.le_of_ble_eq_true rfl,rfl⟩
      · simp[gK,hlo,c0,c1,hlc,qbh,hsz,-fB',-eB']
        obtain⟨l0,l1⟩:=SE c0 c1;rw[Tl l0 l1,UU l0 l1];exact⟨Nat.le_of_ble_eq_true rfl,rfl⟩
    refine wpIn_mono (Uu (im:=[2003003]) hS mixed (cc:=gK) (by kernel_rfl) hst hv) ?_;rintro e a2 W2 he;cases e with
    | normal=>
      obtain⟨σ2,H2,hst2,v',e3,e33⟩:=he;have hs2:=K7 hst2;have hg:=hs2.grL (B:=B) (λb hb=>(hown b hb).1) (by omega);have hownW:∀b,bz H b->b<W.heap.size:=by
        rintro b ⟨j,r,hj,hb⟩;obtain⟨_,_,tp,hw,_⟩:=hst;exact(hw.sat.ok j r hj).lt hb
      refine⟨⟨hs2.size,λk o hk hko hc=>?_⟩,⟨hs2.size,λk hk hs=>?_⟩,?_⟩
      · by_cases ho:bz H k
        · obtain⟨_,_,tp,hw,_⟩:=hst
          obtain⟨j,r,hj,hb⟩:=ho;have hok:=hw.sat.ok j r hj;rw[hH]at hj;have hj:=dM hj;simp only[List.mem_cons,Prod.mk.injEq,List.not_mem_nil,or_false]at hj;rcases hj with⟨rfl,rfl⟩|⟨rfl,rfl⟩
          · cases hb
            obtain⟨el,h3⟩:=i3;rw[h3]at hko;cases hko;cases hc
          · obtain⟨xs,el,hx⟩:=i4.blk hb
            rw[hx]at hko;cases hko;cases hc
        · exact(hs2.same k (Array.getElem?_eq_some_iff.1 hko).1 ho (λh=>h)).trans hko
      · refine hs2.same k hk (λho=>?_) (λh=>h)
        obtain⟨j,r,hj,hb⟩:=ho;rw[hH]at hj;have hj:=dM hj;simp only[List.mem_cons,Prod.mk.injEq,List.not_mem_nil,or_false]at hj;rcases hj with⟨rfl,rfl⟩|⟨rfl,rfl⟩
        · cases hb;omega
        · have hv0:=i6 rfl
          subst hv0;have hkb:k=B+1:=(Option.some.inj hb).symm;rcases hs with hs|hs<;>omega
      · rw[<-hB]
        refine⟨i1.trans hg,i2.keep (hs2.same B i2.lt (λho=>(hown B ho).2.2.1 rfl) (λh=>h)),v',qna hst2 e3,?_,λb hb=>?_,λh=>by omega⟩
        · obtain⟨tp,I,hok⟩:=qeK hst2 e33
          exact qfy hok
        · have hne:b≠B+2:=λe=>by
            subst e;have:=qnc hst2 e3 e33 rfl hb;omega
          rcases qnb hst2 ⟨33,_,e33,hb⟩with ho|ho
          · obtain⟨j,r,hj,hb2⟩:=ho
            rw[hH]at hj;have hj:=dM hj;simp only[List.mem_cons,Prod.mk.injEq,List.not_mem_nil,or_false]at hj;rcases hj with⟨rfl,rfl⟩|⟨rfl,rfl⟩
            · cases hb2;exact absurd rfl hne
            · exact i5 b hb2
          · omega
    |ret=>obtain⟨_,_,_,h⟩:=he;exact h.elim
    |exit id=>obtain⟨_,_,_,h⟩:=he;exact h.elim
    |goto t=>exact he.elim
    |panic ch=>exact he.elim
    |outgrown=>exact he.elim
  case done=>
    rintro D W hD ⟨i1,i2,v,i3,i4,i5,i6⟩ hK;rename_i Qd Kd hKd;refine hKd _ _ ?_;obtain⟨rfl⟩:=hF;refine wpIn_wide.2 ?_;rw[show s.size=1 from hsz]at i4;rw[<-hB]at i1 i2 i3 i5 hsz0;have hz0:=i1.size;obtain⟨H,hH⟩:∃H,H=gD [(3,Res.box (B+2) [.own 33 v]),(33, .row v rO 1 (ZG [low c]))] bV:=⟨_,rfl⟩
    have hown:∀b,bz H b->B<=b/\b≠D:=by
      rintro b ⟨j,r,hj,hb⟩;rw[hH]at hj;have hj:=dM hj;simp only[List.mem_cons,Prod.mk.injEq,List.not_mem_nil,or_false]at hj;rcases hj with⟨rfl,rfl⟩|⟨rfl,rfl⟩
      · simp only[Res.blk,Option.some.injEq]at hb;omega
      · have hb:v.ownBlock=some b:=hb
        have:=i5 b hb;refine⟨by omega,λe=>?_⟩;obtain⟨xs,el,hx⟩:=i4.blk hb;rw[e,hK]at hx;cases hx
    have hst:∀ (tmps:Array Value) (ds:List Deferred),tmps.getD 3 undef= .pointer (some ⟨B+2,0,none⟩)->St (KM W H tmps.size ds) (dt [.any, .any, .any, .bptr 3 (B+2) 0]) H { tmps:=tmps,defers:=ds } W:=by
      intro tmps ds ht;refine qwN rfl ?_ ?_ ?_
      · intro i j r1 r2 b hi hj e1 e2
        rw[hH]at hi hj;have hi:=dM hi;have hj:=dM hj;simp only[List.mem_cons,Prod.mk.injEq,List.not_mem_nil,or_false]at hi hj;rcases hi with⟨rfl,rfl⟩|⟨rfl,rfl⟩ <;>rcases hj with⟨rfl,rfl⟩|⟨rfl,rfl⟩
        · rfl
        · cases e1
          exact absurd rfl (i5 _ e2).2.1
        · cases e2
          exact absurd rfl (i5 _ e1).2.1
        · rfl
      · intro j r hj
        rw[hH]at hj;have hj:=dM hj;simp only[List.mem_cons,Prod.mk.injEq,List.not_mem_nil,or_false]at hj;rcases hj with⟨rfl,rfl⟩|⟨rfl,rfl⟩
        · obtain⟨el,h3⟩:=i3
          refine⟨#[v],el,h3,rfl,λk y d hy hd=>?_⟩;rcases k with _|k
          · cases hy;cases hd
            exact⟨i4.one, .own 33 v i4.one⟩
          · cases hd
        · exact i4.res
      · intro t
        rcases t with _|_|_|_|t
        · exact .any _
        · exact .any _
        · exact .any _
        · show R _ _ _ (tmps.getD 3 undef) _
          rw[ht];exact .bptr 3 (B+2) 0
        · exact .any _
    have hbs:qoV (ZG [low c])=lr (low c):=rfl;have hbl:qmo (ZG [low c])=true:=rfl;have hv:vc S Ja (λe σ' _=>match e with
        | .ret=>σ' 2= .v (.string (lr (low c)))
        | _=>False) (dt [.any, .any, .any, .bptr 3 (B+2) 0]) H:=by
      rw[hH];simp[Ja,-fB',-eB'];exact⟨hbl,hbs⟩
    refine Code.wp_mono ?_ (xK (im:=[]) hS mixed Ja _ (by kernel_rfl) _ _ _ _ _ (hst _ _ (by rw[hB];rfl)) hv);rintro e a2 W2 he;cases e with
    | ret=>
      obtain⟨σ2,H2,hst2,e2⟩:=he;have hs2:=K7 hst2;have hg:=hs2.grL (B:=B) (λb hb=>(hown b hb).1) (by omega);have hv2:=qm8 hst2 e2;have hK2:W2.heap[D]? =some (.deferred (some [])):=(hs2.same D (Array.getElem?_eq_some_iff.1 hK).1 (λho=>(hown D ho).2 rfl) (λh=>h)).trans hK;have hds:=(qqP hst2).1;have hg2:=i1.trans hg;clear hst2 hs2;obtain⟨tmps2,ds2⟩:=a2;simp only at hds hv2;subst hds;refine⟨by simp, .inl ⟨_,_,rfl,run_takeDeferred hK2,?_⟩⟩;have hres:(results Tryz.f261 tmps2).run Tryz.prog (W2.putObj D (.deferred none))= .ok (.string (lr (low c))) (W2.putObj D (.deferred none)):=by
        simp[results,Tryz.f261,go_sem];simpa using hv2
      rw[hB]at hg2;exact⟨_,hres,rfl,hg2.trans (GrL.put _ (by omega) _)⟩
    |normal=>obtain⟨_,_,_,h⟩:=he;exact h.elim
    |exit id=>obtain⟨_,_,_,h⟩:=he;exact h.elim
    |goto t=>exact he.elim
    |panic ch=>exact he.elim
    |outgrown=>exact he.elim
  case stop=>
    rintro D k W _ _ h _;exact h.elim
end Go.Proofs
namespace Go.Gv
open Go.Proofs Go.RowKit
open Cod (enc dec)
theorem qcp{dq:Prop}{S:Nat->Spc}(hS:∀f,Tri True Tryz.prog f (S f).pt)(hlo:S eQ=Lc):Tri dq Tryz.prog qP s_cpFold1.pt:=by
  refine tU (fT Tryz.func261 (by kernel_rfl) rfl) λtp I w vs s hp hI hl hr=>?_
  obtain⟨c,c0,c1,rfl⟩:=hp;have hview:(a1 B).view (lr c)=[.v (.string (lr c))]:=rfl;rw[hview]at hl hr
  match vs,hl with
  | [v0],_=>
    have e0:=Fw (hr 0 v0 _ rfl rfl);subst e0;refine(callsIn_wide (n:=10)).1 ((Tryz.Fold_in hS hlo Fence.wide ⟨rfl⟩ 10 trivial trivial trivial rfl (by omega) c c0 c1 w).mono ?_);rintro e w' ⟨rfl,hg⟩;obtain⟨l0,l1⟩:=SE c0 c1;exact⟨_,lr (low c),rfl,λd d0 d1 e=>by rw[qaQ c0 c1 d0 d1 e],λtp' I'=> .str _ (Nat.le_of_ble_eq_true rfl),hg.below,hg.drawn⟩
end Go.Gv
namespace Go.Proofs
open Go.Shelf
def Tryz.lays197_ren:Go.Shelf.Ren:=⟨λ|197=>276|260=>287|n=>n,λ|9=>9|21=>21|3=>3|4=>4|5=>5|105=>312|119=>338|0=>0|46=>164|139=>341|138=>340|n=>n,λ|3=>1|4=>2|n=>n⟩
theorem Tryz.lays197:Go.Proofs.Lays.n197 Tryz.prog Tryz.lays197_ren:={
 mixed:=by kernel_rfl
 f197:=Tryz.func276.trans (congrArg some (by kernel_rfl))
 f260:=Tryz.func287.trans (congrArg some (by kernel_rfl))
 t0:=Tryz.underlying0
 a0:=Tryz.isAgg0
 z0:=Tryz.sizeOf0
 v0:=Tryz.zeroValue0
 t3:=Tryz.underlying3
 a3:=Tryz.isAgg3
 z3:=Tryz.sizeOf3
 v3:=Tryz.zeroValue3
 t4:=Tryz.underlying4
 a4:=Tryz.isAgg4
 z4:=Tryz.sizeOf4
 v4:=Tryz.zeroValue4
 t5:=Tryz.underlying5
 a5:=Tryz.isAgg5
 z5:=Tryz.sizeOf5
 v5:=Tryz.zeroValue5
 t9:=Tryz.underlying9
 a9:=Tryz.isAgg9
 z9:=Tryz.sizeOf9
 v9:=Tryz.zeroValue9
 t21:=Tryz.underlying21
 a21:=Tryz.isAgg21
 z21:=Tryz.sizeOf21
 v21:=Tryz.zeroValue21
 t46:=Tryz.underlying164
 a46:=Tryz.isAgg164
 z46:=Tryz.sizeOf164
 v46:=Tryz.zeroValue164
 t105:=Tryz.underlying312
 a105:=Tryz.isAgg312
 z105:=Tryz.sizeOf312
 v105:=Tryz.zeroValue312
 t119:=Tryz.underlying338
 a119:=Tryz.isAgg338
 z119:=Tryz.sizeOf338
 t138:=Tryz.underlying340
 a138:=Tryz.isAgg340
 z138:=Tryz.sizeOf340
 v138:=Tryz.zeroValue340
 t139:=Tryz.underlying341
 a139:=Tryz.isAgg341
 z139:=Tryz.sizeOf341
 v139:=Tryz.zeroValue341
 g3:=by kernel_rfl
 g4:=by kernel_rfl }
def Tryz.lays151_ren:Go.Shelf.Ren:=⟨λ|151=>296|152=>304|137=>310|119=>311|224=>272|225=>271|217=>270|266=>283|n=>n,λ|9=>9|21=>21|4=>4|3=>3|5=>5|0=>0|46=>164|n=>n,λ|n=>n⟩
theorem Tryz.lays151:Go.Proofs.Lays.n151 Tryz.prog Tryz.lays151_ren:={
 mixed:=by kernel_rfl
 f119:=Tryz.func311.trans (congrArg some (by kernel_rfl))
 f137:=Tryz.func310.trans (congrArg some (by kernel_rfl))
 f151:=Tryz.func296.trans (congrArg some (by kernel_rfl))
 f152:=Tryz.func304.trans (congrArg some (by kernel_rfl))
 f217:=Tryz.func270.trans (congrArg some (by kernel_rfl))
 f224:=Tryz.func272.trans (congrArg some (by kernel_rfl))
 f225:=Tryz.func271.trans (congrArg some (by kernel_rfl))
 f266:=Tryz.func283.trans (congrArg some (by kernel_rfl))
 t0:=Tryz.underlying0
 a0:=Tryz.isAgg0
 z0:=Tryz.sizeOf0
 v0:=Tryz.zeroValue0
 t3:=Tryz.underlying3
 a3:=Tryz.isAgg3
 z3:=Tryz.sizeOf3
 v3:=Tryz.zeroValue3
 t4:=Tryz.underlying4
 a4:=Tryz.isAgg4
 z4:=Tryz.sizeOf4
 v4:=Tryz.zeroValue4
 t5:=Tryz.underlying5
 a5:=Tryz.isAgg5
 z5:=Tryz.sizeOf5
 v5:=Tryz.zeroValue5
 t9:=Tryz.underlying9
 a9:=Tryz.isAgg9
 z9:=Tryz.sizeOf9
 v9:=Tryz.zeroValue9
 t21:=Tryz.underlying21
 a21:=Tryz.isAgg21
 z21:=Tryz.sizeOf21
 v21:=Tryz.zeroValue21
 t46:=Tryz.underlying164
 a46:=Tryz.isAgg164
 z46:=Tryz.sizeOf164
 v46:=Tryz.zeroValue164 }
def Tryz.lays144_ren:Go.Shelf.Ren:=⟨λ|144=>150|143=>207|219=>250|217=>270|225=>271|224=>272|267=>273|266=>283|314=>284|n=>n,λ|9=>9|4=>4|3=>3|5=>5|46=>164|146=>322|51=>208|n=>n,λ|1=>0|n=>n⟩
theorem Tryz.lays144:Go.Proofs.Lays.n144 Tryz.prog Tryz.lays144_ren:={
 mixed:=by kernel_rfl
 f143:=Tryz.func207.trans (congrArg some (by kernel_rfl))
 f144:=Tryz.func150.trans (congrArg some (by kernel_rfl))
 f217:=Tryz.func270.trans (congrArg some (by kernel_rfl))
 f219:=Tryz.func250.trans (congrArg some (by kernel_rfl))
 f224:=Tryz.func272.trans (congrArg some (by kernel_rfl))
 f225:=Tryz.func271.trans (congrArg some (by kernel_rfl))
 f266:=Tryz.func283.trans (congrArg some (by kernel_rfl))
 f267:=Tryz.func273.trans (congrArg some (by kernel_rfl))
 f314:=Tryz.func284.trans (congrArg some (by kernel_rfl))
 t3:=Tryz.underlying3
 a3:=Tryz.isAgg3
 z3:=Tryz.sizeOf3
 v3:=Tryz.zeroValue3
 t4:=Tryz.underlying4
 a4:=Tryz.isAgg4
 z4:=Tryz.sizeOf4
 v4:=Tryz.zeroValue4
 t5:=Tryz.underlying5
 a5:=Tryz.isAgg5
 z5:=Tryz.sizeOf5
 v5:=Tryz.zeroValue5
 t9:=Tryz.underlying9
 a9:=Tryz.isAgg9
 z9:=Tryz.sizeOf9
 v9:=Tryz.zeroValue9
 t46:=Tryz.underlying164
 a46:=Tryz.isAgg164
 z46:=Tryz.sizeOf164
 v46:=Tryz.zeroValue164
 t51:=Tryz.underlying208
 a51:=Tryz.isAgg208
 z51:=Tryz.sizeOf208
 v51:=Tryz.zeroValue208
 t146:=Tryz.underlying322
 a146:=Tryz.isAgg322
 z146:=Tryz.sizeOf322
 v146:=Tryz.zeroValue322
 g1:=by kernel_rfl }
end Go.Proofs
namespace Go.Gv
section
open Go.Proofs Go.RowKit
open Cod (enc dec)
variable {dq:Prop}
def qgv(c:UInt8):∀l:List UInt8, -1<=Lib.indexByte l c
 | []=>qDe _
 | b::l=>by
   have:=qgv c l;rw[Lib.indexByte];split
   ·omega
   ·split<;>omega
theorem qgu(c:Int)(a:0<=c)(c1:c< 128):∀l:List UInt8,decide (0<=Lib.indexByte l c.toNat.toUInt8)=l.any λx=>decide ((x.toNat:Int)=c)
 | []=>rfl
 | x::l=>by
   have b:=qgu c a c1 l;have e:(x==c.toNat.toUInt8)=decide ((x.toNat:Int)=c):=by
    have h1:c.toNat.toUInt8.toNat=c.toNat:=by
     rw[Nat.toUInt8,qDL];omega
    rw[qCS];simp only[beq_iff_eq,decide_eq_true_eq];constructor
    ·rintro rfl;omega
    ·intro h;exact UInt8.toNat_inj.1 (by omega)
   rw[Lib.indexByte,List.any_cons,e];by_cases h:(x.toNat:Int)=c
   ·simp[h]
   ·simp only[h,decide_false,qC4,if_false,Bool.false_or];rw[<-b];have d:=qgv c.toNat.toUInt8 l;by_cases h1:Lib.indexByte l c.toNat.toUInt8= -1
    ·simp[h1]
    ·have h2:¬(Lib.indexByte l c.toNat.toUInt8== -1)=true:=by simpa using h1
     rw[if_neg h2];rw[qCS];simp only[decide_eq_true_eq];omega
def A9:Tri dq Tryz.prog iD s_crune.pt:=by
 refine tU (fT Tryz.func296 (by kernel_rfl) rfl) λtp I w vs x hp hI hl b=>?_
 obtain⟨s,⟨c⟩⟩:=x;obtain⟨d,c1⟩:=hp;have a:(a2 B I32).view (s,⟨c⟩)=[.v (.string s), .v (.int .i32 c)]:=rfl;rw[a]at hl b
 match vs,hl with
 | [h,v1],_=>
   have j:=Fw (b 0 h _ rfl rfl);have k:=Fw (b 1 v1 _ rfl rfl);subst j;subst k;refine(Any.strings_ContainsRune_ascii Tryz.lays151 s c w d c1).mono ?_;rintro e w' ⟨rfl,rfl⟩;refine⟨_,qkH s c,rfl,rfl,λl p=>?_,Below.refl _ _,qCj _⟩;rw[qgu c d c1];exact .bool _
def FC:Tri dq Tryz.prog dn s_decR.pt:=by
 refine tU (fT Tryz.func276 (by kernel_rfl) rfl) λtp I w vs s hp hI hl j=>?_
 obtain⟨c,hc,b⟩:=hp;have a:(a1 B).view s=[.v (.string s)]:=rfl;rw[a]at hl j
 match vs,hl with
 | [l],_=>
   have p:=Fw (j 0 l _ rfl rfl);subst p;refine(Any.utf8_DecodeRuneInString_ascii Tryz.lays197 s c w (by rw[qCA];exact hc) b).mono ?_;rintro e w' ⟨rfl,rfl⟩;refine⟨_,(⟨c.toNat⟩,1),rfl,λc' d=>by rw[hc]at d;cases d;rfl,λq r=>?_,Below.refl _ _,qCj _⟩;refine .tup _ _ rfl λk x c h hc=>?_
   rcases k with _|_|k
   ·cases h;cases hc;exact .int _ _
   ·cases h;cases hc;exact .int _ _
   ·simp at h
def qba(c:UInt8):∀l:List UInt8, -1<=Lib.indexByte l c
 | []=>qDe _
 | b::l=>by
   have:=qba c l;rw[Lib.indexByte];split
   ·omega
   ·split<;>omega
def Wp:∀l:List UInt8,decide (0<=Lib.indexByte l 124)=l.any λc=>decide (c.toNat=124)
 | []=>rfl
 | x::l=>by
   have a:=Wp l;have e:(x==124)=decide (x.toNat=124):=by
    rw[qCS];simp only[beq_iff_eq,decide_eq_true_eq];exact⟨λh=>by rw[h];rfl,λh=>UInt8.toNat_inj.1 h⟩
   rw[Lib.indexByte,List.any_cons,e];by_cases h:x.toNat=124
   ·simp[h]
   ·simp only[h,decide_false,qC4,if_false,Bool.false_or];rw[<-a];have b:=qba 124 l;by_cases h1:Lib.indexByte l 124= -1
    ·simp[h1]
    ·have h2:¬(Lib.indexByte l 124== -1)=true:=by simpa using h1
     rw[if_neg h2];rw[qCS];simp only[decide_eq_true_eq];omega
def Ys:Tri dq Tryz.prog uP s_sConB.pt:=by
 refine tU (fT Tryz.func150 (by kernel_rfl) rfl) λtp I w vs x hp hI hl b=>?_
 obtain⟨s,t⟩:=x;obtain⟨c,_⟩:=hp;have c:t=⟨#[124]⟩:=c;subst c;have a:(a2 B B).view (s,⟨#[124]⟩)=[.v (.string s), .v (.string ⟨#[124]⟩)]:=rfl;rw[a]at hl b
 match vs,hl with
 | [d,v1],_=>
   have h:=Fw (b 0 d _ rfl rfl);have j:=Fw (b 1 v1 _ rfl rfl);subst h;subst j;refine(Any.strings_Contains_one Tryz.lays144 s 124 w).mono ?_;rintro e w' ⟨rfl,rfl⟩;refine⟨_,qlt s,rfl,rfl,λk l=>?_,Below.refl _ _,qCj _⟩;rw[Wp];exact .bool _
end
section
open Go.Proofs
def mf:CC:=gq Tryz.f109 [] {} _
def lM:List ak:=[.tmp 2]
def CZ:FO bJ [] mf lM 29:=fo
def rc:CC:=gq Tryz.f175 [] {} _
def qt:List ak:=[.tmp 2]
def Im:FO ct [] rc qt 21:=fo
def rb:CC:=gq Tryz.f176 [] {} _
def qs:List ak:=[.tmp 2]
def Il:FO eV [] rb qs 17:=fo
def B8:CC:=gq Tryz.f198 [2,3] {} _
def Bg:List ak:=[.tmp 4]
def VP:FO uR [2,3] B8 Bg 74:=fo
def qU:CC:=gq Tryz.f171 [3,2] {} _
def qj:List ak:=[.tmp 4]
def nh:CC:=gq Tryz.f224 [2] {} _
def mR:List ak:=[.tmp 3]
def xk:CC:=gq Tryz.f225 [1] {} _
def wD:List ak:=[.tmp 2]
def xo:CC:=gq Tryz.f172 [1] {} _
def wF:List ak:=[.tmp 2]
def vw:CC:=gq Tryz.f106 [3,2] {} _
def uy:List ak:=[.tmp 4]
def qW:CC:=gq Tryz.f174 [2] {} _
def ql:List ak:=[.tmp 3]
def vv:CC:=gq Tryz.f107 [1] {} _
def ux:List ak:=[.tmp 2]
def sY:CC:=gq Tryz.f110 [1] {} _
def sA:List ak:=[.tmp 2]
def vA:CC:=gq Tryz.f105 [1] {} _
def uC:List ak:=[.tmp 2]
def vu:CC:=gq Tryz.f78 [1] {} _
def uw:List ak:=[.tmp 2]
def xn:CC:=gq Tryz.f79 [1] {} _
def wE:List ak:=[.tmp 2]
def xq:CC:=oX [oB 1 (.box aW true (oT 0)),oB 2 (.mv (oN 0))] [1] [] (.seq (oX [oD 3 13 1,oZ 4 jk [oT 3],oB 5 (.not (oT 4))] [1,5] [] (.ite (oT 5) (oX [oB 2 (.mv (oN 0))] [2] [] (.ret)) (.skip))) (.keep [1] [] (oX [oD 6 13 1,oZ 7 iH [oT 6],oA 2 7] [2] [] (.ret))))
def wH:List ak:=[.tmp 2]
def ia:CC:=gq Tryz.f133 [1] {} _
def gO:List ak:=[.tmp 2, .tmp 3]
def vz:CC:=gq Tryz.f80 [1] {} _
def uB:List ak:=[.tmp 2, .tmp 3]
def dX:CC:=gq Tryz.f173 [] {} _
def dQ:List ak:=[.tmp 4]
def fg:CC:=gq Tryz.f226 [] {} _
def fb:List ak:=[.tmp 4]
def zU:CC:=gq Tryz.f131 [2] {} _
def yO:List ak:=[.tmp 4]
def xc:CC:=gq Tryz.f75 [2] {} _
def ww:List ak:=[.tmp 4]
def zV:CC:=gq Tryz.f76 [1] { cu:=[1] } _
def yP:List ak:=[.tmp 2]
def vp:CC:=gq Tryz.f77 [1] { cu:=[1] } _
def ur:List ak:=[.tmp 2]
def qT:CC:=gq Tryz.f25 [1] {} _
def qi:List ak:=[.tmp 2]
def mF:CC:=gq Tryz.f26 [2] { bx:=[1,23] } _
def my:List ak:=[.tmp 4]
def xe:CC:=gq Tryz.f9 [1] { bx:=[7] } _
def wx:List ak:=[.tmp 2]
def B7:CC:=oX [oB 4 (.mv (.const ob))] [0,1] [] (.seq (oX [oA 6 0,oB 7 (.len (oT 6)),oA 8 1,oB 9 (.len (oT 8)),oB 10 (.eql true false [.int] (oT 7) (oT 9))] [0,1,10] [] (.ite (oT 10) (oX [oB 4 (.mv (.const ob))] [4] [] (.ret)) (.skip))) (.keep [0,1] [] (.seq (oX [oA 11 0,oB 12 (.len (oT 11)),oB 13 (.mv (oN 0))] [0,1,12,13] [] (gH 0 13 12 14 1 (oX [oA 15 13,
 oA 5 15] [0,1,5,12,13] [] (.seq (.regd [oA 16 0,oA 17 5,oB 18 (.iaddr 2 (oT 16) (oT 17)),oD 19 2 18,oA 20 1,oA 21 5,oB 22 (.iaddr 2 (oT 20) (oT 21)),oD 23 2 22] [oB 24 (.eql true true [.int,.int] (oT 19) (oT 23))]) (.keep [0,1,12,13,24] [] (.ite (oT 24) (oX [oB 4 (.mv (.const ob))] [4] [] (.ret)) (.skip))))) 25)) (.keep [] [] (oX [oB 4 (.mv (.const (.bool true)))] [4] [] (.ret))))))
def Bf:List ak:=[.tmp 4]
def Pb:FO tP [1] xq wH 8:=fo
def VO:FO EG [] B7 Bf 26:=fo
def Pf:FO pv [] xu wK 18:=fo
def Es:FO dD [] np mX 20:=fo
def Is:FO sS [] ri qz 6:=fo
def Ir:FO sR [2] rh qw 27:=fo
def OW:FO zG [2] xb wv 28:=fo
def Ie:FO je [3,2] qU qj 14:=fo
def Ec:FO gd [2] nh mR 9:=fo
def O5:FO zM [1] xk wD 37:=fo
def O8:FO lz [1] xo wF 69:=fo
def MN:FO gw [3,2] vw uy 15:=fo
def Ig:FO jh [2] qW ql 8:=fo
def MM:FO fj [1] vv ux 29:=fo
def Ks:FO eB [1] sY sA 33:=fo
def MS:FO rG [1] vA uC 9:=fo
def ML:FO jk [1] vu uw 13:=fo
def O6:FO iH [1] xn wE 49:=fo
def MK:FO mD [1] ia gO 107:=fo
def MQ:FO gy [1] vz uB 11:=fo
def qE:FO aM [] dX dQ 9:=fo
def tL:FO kH [] fg fb 19:=fo
def Si:FO BO [2] zU yO 99:=fo
def OX:FO pb [2] xc ww 24:=fo
def Sj:FO sd [1] zV yP 41:=fo
def MH:FO mC [1] vp ur 46:=fo
def Id:FO sK [1] qT qi 13:=fo
def Dp:FO iG [2] mF my 26:=fo
def OY:FO zH [1] xe wx 8:=fo
def Gk:FO ct [] pN oh 21:=fo
def Gj:FO eV [] pM od 17:=fo
def Bw:FO bJ [] kX kw 29:=fo
end
end Go.Gv
namespace Go.Proofs
open Go.Shelf
def Tryz.sortMatch_ren:Go.Shelf.Ren:=⟨λ|6=>62|15=>84|14=>123|28=>144|29=>145|20=>187|21=>188|22=>189|23=>190|24=>191|25=>192|26=>193|27=>194|46=>230|47=>203|48=>204|49=>231|50=>232|57=>264|n=>n,λ|22=>47|24=>61|25=>141|3=>3|39=>164|0=>0|53=>208|55=>210|4=>4|46=>201|45=>200|50=>205|5=>5|9=>9|66=>248|70=>252|76=>285|77=>158|n=>n,λ|n=>n⟩
theorem Tryz.sortMatch:Go.Proofs.SlLaysF0.n6 Tryz.prog Tryz.sortMatch_ren:={
 mixed:=by kernel_rfl
 f6:=⟨Tryz.f62.name,by decide,Tryz.func62.trans (congrArg some (by kernel_rfl))⟩
 f14:=⟨Tryz.f123.name,by decide,Tryz.func123.trans (congrArg some (by kernel_rfl))⟩
 f15:=Tryz.func84.trans (congrArg some (by kernel_rfl))
 f20:=⟨Tryz.f187.name,by decide,Tryz.func187.trans (congrArg some (by kernel_rfl))⟩
 f21:=⟨Tryz.f188.name,by decide,Tryz.func188.trans (congrArg some (by kernel_rfl))⟩
 f22:=⟨Tryz.f189.name,by decide,Tryz.func189.trans (congrArg some (by kernel_rfl))⟩
 f23:=⟨Tryz.f190.name,by decide,Tryz.func190.trans (congrArg some (by kernel_rfl))⟩
 f24:=⟨Tryz.f191.name,by decide,Tryz.func191.trans (congrArg some (by kernel_rfl))⟩
 f25:=⟨Tryz.f192.name,by decide,Tryz.func192.trans (congrArg some (by kernel_rfl))⟩
 f26:=⟨Tryz.f193.name,by decide,Tryz.func193.trans (congrArg some (by kernel_rfl))⟩
 f27:=⟨Tryz.f194.name,by decide,Tryz.func194.trans (congrArg some (by kernel_rfl))⟩
 f28:=Tryz.func144.trans (congrArg some (by kernel_rfl))
 f29:=Tryz.func145.trans (congrArg some (by kernel_rfl))
 f46:=⟨Tryz.f230.name,by decide,Tryz.func230.trans (congrArg some (by kernel_rfl))⟩
 f47:=Tryz.func203.trans (congrArg some (by kernel_rfl))
 f48:=Tryz.func204.trans (congrArg some (by kernel_rfl))
 f49:=⟨Tryz.f231.name,by decide,Tryz.func231.trans (congrArg some (by kernel_rfl))⟩
 f50:=⟨Tryz.f232.name,by decide,Tryz.func232.trans (congrArg some (by kernel_rfl))⟩
 f57:=⟨Tryz.f264.name,by decide,Tryz.func264.trans (congrArg some (by kernel_rfl))⟩
 t0:=Tryz.underlying0
 a0:=Tryz.isAgg0
 z0:=Tryz.sizeOf0
 v0:=Tryz.zeroValue0
 t3:=Tryz.underlying3
 a3:=Tryz.isAgg3
 z3:=Tryz.sizeOf3
 v3:=Tryz.zeroValue3
 t4:=Tryz.underlying4
 a4:=Tryz.isAgg4
 z4:=Tryz.sizeOf4
 v4:=Tryz.zeroValue4
 t5:=Tryz.underlying5
 a5:=Tryz.isAgg5
 z5:=Tryz.sizeOf5
 v5:=Tryz.zeroValue5
 t9:=Tryz.underlying9
 a9:=Tryz.isAgg9
 z9:=Tryz.sizeOf9
 v9:=Tryz.zeroValue9
 t22:=Tryz.underlying47
 a22:=Tryz.isAgg47
 z22:=Tryz.sizeOf47
 v22:=Tryz.zeroValue47
 t25:=Tryz.underlying141
 a25:=Tryz.isAgg141
 z25:=Tryz.sizeOf141
 v25:=Tryz.zeroValue141
 t39:=Tryz.underlying164
 a39:=Tryz.isAgg164
 z39:=Tryz.sizeOf164
 v39:=Tryz.zeroValue164
 t45:=Tryz.underlying200
 a45:=Tryz.isAgg200
 z45:=Tryz.sizeOf200
 v45:=Tryz.zeroValue200
 t46:=Tryz.underlying201
 a46:=Tryz.isAgg201
 z46:=Tryz.sizeOf201
 v46:=Tryz.zeroValue201
 t50:=Tryz.underlying205
 a50:=Tryz.isAgg205
 z50:=Tryz.sizeOf205
 v50:=Tryz.zeroValue205
 t53:=Tryz.underlying208
 a53:=Tryz.isAgg208
 z53:=Tryz.sizeOf208
 v53:=Tryz.zeroValue208
 t55:=Tryz.underlying210
 a55:=Tryz.isAgg210
 z55:=Tryz.sizeOf210
 v55:=Tryz.zeroValue210
 t66:=Tryz.underlying248
 a66:=Tryz.isAgg248
 z66:=Tryz.sizeOf248
 v66:=Tryz.zeroValue248
 t70:=Tryz.underlying252
 a70:=Tryz.isAgg252
 z70:=Tryz.sizeOf252
 v70:=Tryz.zeroValue252
 t76:=Tryz.underlying285
 a76:=Tryz.isAgg285
 z76:=Tryz.sizeOf285
 v76:=Tryz.zeroValue285
 t77:=Tryz.underlying158
 a77:=Tryz.isAgg158
 z77:=Tryz.sizeOf158
 v77:=Tryz.zeroValue158 }
def Tryz.cloneSet_ren:Go.Shelf.Ren:=⟨λ|5=>185|7=>229|n=>n,λ|23=>133|25=>138|3=>4|4=>4|20=>20|n=>n,λ|n=>n⟩
def Tryz.cloneSet:Go.Proofs.SlLaysW.n5 Tryz.prog Tryz.cloneSet_ren:={
 mixed:=by kernel_rfl
 f5:=⟨Tryz.f185.name,by decide,Tryz.func185.trans (congrArg some (by kernel_rfl))⟩
 f7:=Tryz.func229.trans (congrArg some (by kernel_rfl))
 t4:=Tryz.underlying4
 a4:=Tryz.isAgg4
 z4:=Tryz.sizeOf4
 v4:=Tryz.zeroValue4
 t20:=Tryz.underlying20
 a20:=Tryz.isAgg20
 z20:=Tryz.sizeOf20
 v20:=Tryz.zeroValue20
 t23:=Tryz.underlying133
 a23:=Tryz.isAgg133
 z23:=Tryz.sizeOf133
 v23:=Tryz.zeroValue133 }
end Go.Proofs
namespace Go.Gv
section
open Go.Proofs
open Cod (enc dec)
variable {S S0:Nat->Spc}
def RN(c:Corpus)(x:Cond)(k:Nat):List Int:=((List.range k).filter λi:Nat=>(qH ⟨c,(i:Int), [], []⟩ 21 (iY x)).getD false).map λi:Nat=>(i:Int)
def U9(c:Corpus)(x:Cond):List Int:=RN c x c.toks.length
def qcC(c:Corpus)(x:Cond)(k:Nat):RN c x (k+1)=RN c x k++ (if(qH ⟨c,(k:Int), [], []⟩ 21 (iY x)).getD false=true then[(k:Int)]else[]):=by
 unfold RN;rw[List.range_succ,qD1,qDZ];congr 1;simp only[List.filter];cases(qH ⟨c,(k:Int), [], []⟩ 21 (iY x)).getD false<;>rfl
def qeV(c:Corpus)(x:Cond)(k:Nat):(RN c x k).length<=k:=by
 unfold RN;rw[qC6];exact qCU (List.length_filter_le _ _) (by simp)
def qb0(z:Corpus×Cond):Prop:=qm6 z.1/\iX z.2<=60/\dE z.2<=60/\qka z.1.attrs [] (iY z.2)=true/\∀i:Nat,i<z.1.toks.length->∃y,qH ⟨z.1,(i:Int), [], []⟩ 21 (iY z.2)=some y
abbrev ql0:Spc:=aJ (a2 Corpus Cond) qb0 (qR (Y:=List Int) (Z:=Int)) λz y=>y=(U9 z.1 z.2,0)
theorem qem(h1:S jU=Vs)(h2:S dC=qaw)(h3:S eC=YR)(h4:S eP=F1 21):aq mj lQ S (a2 Corpus Cond) qb0 (qR (Y:=List Int) (Z:=Int)) λz y=>y=(U9 z.1 z.2,0):=by
 rintro⟨c,x⟩ ⟨⟨t,u,j⟩,hn,A,h,d⟩;simp only at t u j hn A h d;have hl:(c.toks.length:Int)<=9223372036854775807:=by omega
 have q:∃n,dE x<=n/\iX x<=60:=⟨_,qCj _,hn⟩
 simp[mj,lQ,h1,h2,h3,hn,A,h,q,hl,j,-fB',-eB'];intro b;refine⟨⟨_,qCj _⟩,⟨h,j⟩,?_⟩;refine ah (X:=Value×List Int) [2,3] [3] c.toks.length (λk z=>z.2=RN c x k) (λz=>[(7, .own 33 z.1)]) (λz=>[(33, .row z.1 bE 1 (z.2.map enc))]) (.slice none 0 0, []) (by simp[RN]) ?_ ?_ (hh:=by simp[isNilRow])
 ·rintro k ⟨v,l⟩ hk a;simp only at a;obtain⟨y,r⟩:=d k hk;have hp:qiX 21 (c,iY x,(k:Int), [], []):=⟨⟨t,u,j⟩,y,r⟩
  have hs:=qcC c x k;have s:=qeV c x k;rw[<-a]at hs s;have C:(if(qH ⟨c,(k:Int), [], []⟩ 21 (iY x)).getD false=true then[(k:Int)]else[])=if y=true then[(k:Int)]else[]:=by rw[r];rfl
  rw[C]at hs;simp[hk,h4,hp,-fB',-eB'];intro w p;have p:qH ⟨c,(k:Int), [], []⟩ 21 (iY x)=some w:=p;rw[r]at p;cases p;refine⟨λe=>⟨by omega,by omega,λv'=> .inl ?_⟩,λe=> .inl ?_⟩
  ·rw[hs,e];simp
  ·rw[hs,e];simp
 ·rintro⟨v,l⟩ a;simp only at a;simp[-fB',-eB'];have e:U9 c x=l:=a.symm;rw[e];exact gp bE rfl
end
section
open Go.Proofs
def valsA:List B:=[⟨#[97]⟩,⟨#[98]⟩,⟨#[97,46,42]⟩,⟨#[91,97,98,93]⟩,⟨#[88]⟩,⟨#[]⟩,⟨#[99,63]⟩,⟨#[97,124,98]⟩,⟨#[89]⟩,⟨#[111,46,42]⟩,⟨#[78]⟩,⟨#[97,124,88]⟩]
def wordsA:List B:=[⟨#[97]⟩,⟨#[98]⟩,⟨#[99]⟩,⟨#[65]⟩,⟨#[97,98]⟩,⟨#[]⟩,⟨#[88]⟩,⟨#[89]⟩,⟨#[116,104,101]⟩,⟨#[111,108,100]⟩,⟨#[109,97,110]⟩,⟨#[68]⟩,⟨#[65]⟩,⟨#[78]⟩,⟨#[124]⟩,⟨#[124,112,124]⟩,⟨#[124,112,124,113,124]⟩,⟨#[124,113,124]⟩]
def qqF:Bool:=valsA.all λv=>wordsA.all λw=>(Ey v w false).isSome && (Ey v w true).isSome
def qkn:qqF=true:=by kernel_rfl
def M5{v w:B}(a:v∈valsA)(b:w∈wordsA)(f:Bool):∃y,Ey v w f=some y:=by
 have h:=qCl.1 (qCl.1 qkn v a) w b;simp only[qCi]at h;cases f
 ·exact qDa.1 h.1
 ·exact qDa.1 h.2
open Cod (enc dec)
variable {S S0:Nat->Spc}
def qAU:Corpus:=⟨[⟨⟨#[119,111,114,100]⟩,false⟩,⟨⟨#[112,111,115]⟩,false⟩], [[⟨#[116,104,101]⟩,⟨#[68]⟩], [⟨#[111,108,100]⟩,⟨#[65]⟩], [⟨#[109,97,110]⟩,⟨#[78]⟩]], [⟨⟨#[116]⟩,0,3, []⟩], [], [], [], []⟩
def OkCorp(c:Corpus):Prop:=c.attrs=iS/\1<=c.toks.length/\c.toks.length<=4096/\∀r∈c.toks,Dw r
def OkCorp.sz{c:Corpus}(h:OkCorp c):qm6 c:=by
 obtain⟨h1,h2,h3,h4⟩:=h;refine⟨by omega,λr a=>?_,by rw[h1];decide⟩;obtain⟨w,t,f,_,_,_,rfl⟩:=h4 r a;simp
def Xx:∀{l:List ro} {s e:Int},lI s l e->s<=e
 | [],s,e,h=>by have h:s=e:=h;omega
 |a::l,s,e,h=>by have:=Xx h.2.2;have:=h.1;have:=h.2.1;omega
def qnO{c:Corpus}(h:X6 c)(hk:TX c):OkCorp c:=by
 obtain⟨h1,h2,h3,_⟩:=h;refine⟨hk.1,?_,h3,hk.2⟩;cases hl:c.texts with
 |nil=>exact absurd hl h2
 | cons a l=>
   rw[hl]at h1;have:=Xx h1.2.2;have:=h1.1;have:=h1.2.1;omega
end
section
mutual
def SrcE:Pat->Int->Int->Span->Prop
 | .mk op c l r mn mx ks,d,leaf,s=>if op=1 then s=⟨leaf,d⟩else if op=4 then xy ks d leaf s else if op=6 then(match ks with|[]=>False|k::_=>∃i:Int,0<=i/\i<mn/\(i=0\/(bG k).1=(bG k).2)/\SrcE k (d+i* (bG k).1) leaf s)else False
def xy:List Pat->Int->Int->Span->Prop
 | [],_,_,_=>False
 |k::ks,d,leaf,s=>SrcE k d leaf s\/((bG k).1=(bG k).2/\xy ks (d+ (bG k).1) (leaf+ (am k).length) s)
end
def qnj{p:Pat}(h:p.op=1)(d leaf:Int)(s:Span):SrcE p d leaf s↔s=⟨leaf,d⟩:=by cases p;simp only at h;unfold SrcE;grind
def qni{p:Pat}(h:p.op=4)(d leaf:Int)(s:Span):SrcE p d leaf s↔xy p.kids d leaf s:=by cases p;simp only at h;unfold SrcE;grind
def qjH{p k:Pat}(h:p.op=6){ks:List Pat}(hk:p.kids=k::ks)(d leaf:Int)(s:Span):SrcE p d leaf s↔ ∃i:Int,0<=i/\i<p.mn/\(i=0\/(bG k).1=(bG k).2)/\SrcE k (d+i* (bG k).1) leaf s:=by
 cases p;simp only at h hk;subst hk;rw[SrcE.eq_def];grind
theorem qeP{p:Pat}(h:p.op≠1/\p.op≠4/\p.op≠6)(d leaf:Int)(s:Span):¬SrcE p d leaf s:=by
 cases p;simp_all [SrcE.eq_def]
theorem qab{v:B->Bool}(p:Pat):fJ v p=true->∀(d leaf:Int) (s:Span),SrcE p d leaf s->leaf<=s.b/\s.b<leaf+ (am p).length/\d<=s.e/\s.e<=d+200000*ff p:=by
 induction p using eb with|_ p a=>?_
 intro hp d leaf s h;rw[aQ];rcases qF (eJ hp).1 with⟨ho,_⟩|⟨ho,_⟩|⟨ho,k,ks,hk⟩|⟨ho,k,hk⟩
 ·rw[qnj ho]at h;grind
 ·exact absurd h (qeP (by omega) _ _ _)
 ·by_cases h4:p.op=4
  ·rw[qni h4]at h;rw[if_neg (by omega),dv];have:∀ks:List Pat,(∀k∈ks,k∈p.kids)->∀d leaf:Int,xy ks d leaf s->leaf<=s.b/\s.b<leaf+ (ks.flatMap am).length/\d<=s.e/\s.e<=d+200000*bK ks:=by
    intro ks
    induction ks with
    |nil=>intro _ d leaf h;rw[xy]at h;grind
    | cons k ks c=>
      grind [xy,bK,List.length_append,eW,gG,bG,vS,ff,dv]
   have:=this p.kids (λk hk=>hk) d leaf h;omega
  grind [absurd,qeP]
 ·rw[qjH ho hk]at h;obtain⟨i,h0,h1,_,h3⟩:=h;rw[if_neg (by omega),dv,hk,bK,bK];have h4:=a k (by rw[hk];simp) (eW hp (by rw[hk];simp)) _ _ _ h3;have h2:gG (bG k):=vS k (eW hp (by rw[hk];simp));have hn:=(eJ hp).2.2;unfold nL at hn;rw[decide_eq_true_eq]at hn;have hn:=hn ho;unfold gG at h2;have h5:0<=i* (bG k).1:=qDB h0 h2.1;have h6:i* (bG k).1<=16*10000:=Int.mul_le_mul (by omega) h2.2.1 h2.1 (by omega);have j:1<=ff k:=by rw[dv];omega
  simp only[qC9,List.flatMap_nil,qDo];generalize i* (bG k).1=z at*;omega
def SrcsOf(p:Pat)(r:List Span):Prop:=SS r/\∀s,s∈r↔SrcE p 0 0 s
def SrcsOf.eq{p:Pat}{a b:List Span}(h:SrcsOf p a)(k:SrcsOf p b):a=b:=YG h.1 k.1 λx=>(h.2 x).trans (k.2 x).symm
def qwe:B:=⟨#[115]⟩
def qlu:B:=⟨#[110,112]⟩
def qwd:B:=⟨#[116]⟩
def qoZ:B:=⟨#[120]⟩
def qp9:B:=⟨#[121]⟩
def Types:List B:=[qwe,qlu,qwd]
def XT:List (Int×Int):=[(0,1),(0, -1),(1, -1),(2,2),(0,2),(1,3),(0,0)]
def qqi(lb:List B)(p:Pat):Prop:=(p.op=1/\(p.lab=⟨#[]⟩\/p.lab∈lb)/\p.reg=⟨#[]⟩/\p.mn=0/\p.mx=0/\p.kids=[])\/((p.op=2\/p.op=3)/\p.cond=qd/\p.lab=⟨#[]⟩/\p.reg∈Types/\p.mn=0/\p.mx=0/\p.kids=[])
def WP(lb:List B):Nat->Pat->Prop
 | 0,p=>qqi lb p
 | n+1,p=>qqi lb p\/((p.op=4\/p.op=5)/\p.cond=qd/\p.lab=⟨#[]⟩/\p.reg=⟨#[]⟩/\p.mn=0/\p.mx=0/\∃a b,p.kids=[a,b]/\WP lb n a/\WP lb n b)\/
   (p.op=6/\p.cond=qd/\p.lab=⟨#[]⟩/\p.reg=⟨#[]⟩/\(p.mn,p.mx) ∈XT/\∃a,p.kids=[a]/\WP lb n a)
theorem qwx{lb:List B}{n:Nat}{p:Pat}(h:qqi lb p):WP lb n p:=by
 cases n<;>grind [WP]
def qb4(lb:List B):Prop:=∀l∈lb,l=qoZ\/l=qp9
def xF{lb:List B}{n:Nat}{p:Pat}(h:WP lb n p):qqi lb p\/ ∃m,n=m+1/\(((p.op=4\/p.op=5)/\p.cond=qd/\p.lab=⟨#[]⟩/\p.reg=⟨#[]⟩/\p.mn=0/\p.mx=0/\∃a b,p.kids=[a,b]/\WP lb m a/\WP lb m b)\/
 (p.op=6/\p.cond=qd/\p.lab=⟨#[]⟩/\p.reg=⟨#[]⟩/\(p.mn,p.mx) ∈XT/\∃a,p.kids=[a]/\WP lb m a)):=by
 cases n with
 |zero=>exact .inl h
 |succ m=>exact h.elim .inl λh=> .inr ⟨m,rfl,h⟩
def Hw{lb:List B}{C:Nat->Pat->Prop}(h:∀n p,WP lb n p->(∀k∈p.kids,∃m,n=m+1/\WP lb m k/\C m k)->C n p):∀n p,WP lb n p->C n p:=by
 intro n
 induction n with
 | zero=>
   intro p hp;refine h 0 p hp λk hk=>?_
   rcases hp with hp|hp;grind;grind
 | succ m a=>
   intro p hp;refine h (m+1) p hp λk hk=>⟨m,rfl,?_⟩
   have:WP lb m k:=by
    rcases hp with(hp|hp)|hp|hp;grind;grind;grind;grind
   grind
theorem ZZ{v:B->Bool}{lb:List B}(hl:qb4 lb)(l:v qwe=true/\v qlu=true/\v qwd=true/\v qoZ=true/\v qp9=true):∀n p,WP lb n p->n<=90->fJ v p=true:=by
 have key:∀n p,WP lb n p->(n<=90->∀d:Int,d+n<=100->bZ p d=true)/\cm oL p=true/\cm (nD v) p=true/\cm nL p=true:=by
  refine Hw λn p hp q=>?_
  have c:oL p=true/\nD v p=true/\nL p=true:=by
   rw[tY];unfold vK nD nL;rw[decide_eq_true_eq,decide_eq_true_eq];have r:(p.mn,p.mx) ∈XT->0<=p.mn/\p.mn<=16/\(p.mx= -1\/p.mn<=p.mx/\p.mx<=16):=by
    intro h;simp[XT]at h;omega
   have s:p.reg∈Types->v p.reg=true:=by
    grind [qb4,WP,Types]
   rcases xF hp with(⟨h1,h2,h3,h4,h5,h6⟩|⟨h1,h2,h3,h4,h5,h6,j⟩)|⟨m,_,(⟨h1,h2,h3,h4,h5,h6,a,b,j,_⟩|⟨h1,h2,h3,h4,h5,a,j,_⟩)⟩
   ·refine⟨.inl ⟨h1,h3,h4,h5,h6⟩,⟨λh=>by omega,λk=>?_⟩,λh=>by omega⟩;rcases h2 with h2|h2;grind
    ·rcases hl _ h2 with h|h<;>rw[h];grind;grind
   grind;grind;grind
  refine⟨λhn d t=>?_,?_,?_,?_⟩
  ·rw[ki,qCi,decide_eq_true_eq,qCl];grind
  ·rw[cP,qCi,qCl];grind
  ·rw[cP,qCi,qCl];grind
  ·rw[cP,qCi,qCl];grind
 intro n p hp hn;obtain⟨h1,h2,h3,h4⟩:=key n p hp;grind [fJ]
theorem ZY{lb:List B} :∀n p,WP lb n p->n<=5->1<=kg p/\kg p<=3^n/\ff p+1<=2^ (n+1):=by
 refine Hw λn p hp j hn=>?_
 have hb:(1:Int)<=3^n/\1<=2^n:=⟨Int.pow_pos (by omega),Nat.one_le_two_pow⟩
 rcases xF hp with(⟨h1,h2,h3,h4,h5,h6⟩|⟨h1,h2,h3,h4,h5,h6,d⟩)|⟨m,rfl,(⟨h1,h2,h3,h4,h5,h6,a,b,d,_⟩|⟨h1,h2,h3,h4,h5,a,d,_⟩)⟩
 ·rw[uj,FN,if_pos h6,dv,h6,bK,Nat.pow_succ];omega
 ·rw[uj,FN,if_pos d,dv,d,bK,Nat.pow_succ];omega
 ·obtain⟨c,h,_,a1⟩:=j a (by grind);obtain⟨l,k,_,a2⟩:=j b (by grind);have h:c=m:=by omega
  have k:l=m:=by omega
  subst h;subst k;have a1:=a1 (by omega);have a2:=a2 (by omega);rw[uj,FN,if_neg (by grind),if_neg (by omega),dv,d];grind [fH,bK,Int.pow_succ,Nat.pow_succ]
 ·obtain⟨c,h,_,a1⟩:=j a (by grind);have h:c=m:=by omega
  subst h;have a1:=a1 (by omega);rw[uj,FN,if_neg (by grind),if_pos h1,dv,d];simp only[fH,bK];rw[Int.pow_succ,Nat.pow_succ];rw[Nat.pow_succ]at a1 ⊢;have:(3:Int) ^c<=243:=by
   have:c=0\/c=1\/c=2\/c=3\/c=4:=by omega
   grind
  simp only[XT,qCm,Prod.mk.injEq,qCN,or_false]at h5;grind
def CS:Nat->Cond->Prop
 | 0,c=>c.kids=[]
 |n+1,c=>c.kids.length<=2/\∀k∈c.kids,CS n k
def ZB{n:Nat}{c:Cond}(h:c.kids=[]):CS n c:=by
 cases n
 ·exact h
 ·exact⟨by rw[h];exact qCC _,λk hk=>by rw[h]at hk;simp at hk⟩
def qoL{n m:Nat}{c a:Cond}(hm:n=m+1)(h:c.kids=[a])(b:CS m a):CS n c:=by
 subst hm;refine⟨by rw[h];exact qDm _,λk hk=>?_⟩;rw[h]at hk;have:k=a:=by simpa using hk
 subst this;exact b
def qoK{n m:Nat}{c a b:Cond}(hm:n=m+1)(h:c.kids=[a,b])(d:CS m a)(hb:CS m b):CS n c:=by
 subst hm;refine⟨by rw[h];exact qCj _,λk hk=>?_⟩;rw[h]at hk;have:k=a\/k=b:=by simpa using hk
 rcases this with rfl|rfl
 ·exact d
 ·exact hb
def qlb{n:Nat}{c d:Cond}(h:c.kids=d.kids)(a:CS n d):CS n c:=by
 cases n
 ·exact h.trans a
 ·exact⟨by rw[h];exact a.1,λk hk=>a.2 k (by rw[<-h];exact hk)⟩
def qoM{n:Nat}{c:Cond}(h:CS n c):c.kids.length<=2:=by
 cases n
 ·have:c.kids=[]:=h;rw[this];exact qCC _
 ·exact h.1
def PD:Nat->Pat->Prop
 | 0,p=>(∃m,CS m p.cond)/\p.kids=[]
 |n+1,p=>(∃m,CS m p.cond)/\p.kids.length<=2/\∀k∈p.kids,PD n k
def qfM{n:Nat}{p:Pat}(hc:∃m,CS m p.cond)(h:p.kids=[]):PD n p:=by
 cases n
 ·exact⟨hc,h⟩
 ·exact⟨hc,by rw[h];exact qCC _,λk hk=>by rw[h]at hk;simp at hk⟩
def qnG{n m:Nat}{p a:Pat}(hm:n=m+1)(hc:∃m,CS m p.cond)(h:p.kids=[a])(b:PD m a):PD n p:=by
 subst hm;refine⟨hc,by rw[h];exact qDm _,λk hk=>?_⟩;rw[h]at hk;have:k=a:=by simpa using hk
 subst this;exact b
def qfL{n m:Nat}{p a b:Pat}(hm:n=m+1)(hc:∃m,CS m p.cond)(h:p.kids=[a,b])(c:PD m a)(hb:PD m b):PD n p:=by
 subst hm;refine⟨hc,by rw[h];exact qCj _,λk hk=>?_⟩;rw[h]at hk;have:k=a\/k=b:=by simpa using hk
 rcases this with rfl|rfl
 ·exact c
 ·exact hb
def qbA:∃m,CS m qd:=⟨0,rfl⟩
def qj7{n:Nat}{p:Pat}(h:PD n p):∃m,CS m p.cond:=by cases n<;>exact h.1
def qnH{n:Nat}{p:Pat}(h:PD n p):p.kids.length<=2:=by
 cases n
 ·rw[h.2];exact qCC _
 ·exact h.2.1
def qnI{n:Nat}{p k:Pat}(h:PD n p)(hk:k∈p.kids):∃m,n=m+1/\PD m k:=by
 cases n
 ·rw[h.2]at hk;simp at hk
 ·exact⟨_,rfl,h.2.2 k hk⟩
def qoN{n:Nat}{p k:Cond}(h:CS n p)(hk:k∈p.kids):∃m,n=m+1/\CS m k:=by
 cases n
 ·have h:p.kids=[]:=h;rw[h]at hk;simp at hk
 ·exact⟨_,rfl,h.2 k hk⟩
open Cod (enc dec)
structure Glob where
 op:Int
 a:B
 b:B
 name:B
 arg:B
 val:B
 fold:Bool
 mn:Int
 mx:Int
 args:List B
 kids:List Glob
mutual
def NA:Glob->D
 | .mk a b c d h j k l p q ks=> .agg [enc a,enc b,enc c,enc d,enc h,enc j,enc k,enc l,enc p,enc q, .list 11 (Aw ks)]
def Aw:List Glob->List D
 | []=>[]
 |k::ks=>NA k::Aw ks
end
mutual
def Xp:D->Option Glob
 | .agg [b,c,d,h,j,k,l,p,q,r,a]=>(dec b).bind λs=>(dec c).bind λt=>(dec d).bind λu=>(dec h).bind λw=>(dec j).bind λx=>(dec k).bind λy=>(dec l).bind λA=>(dec p).bind λC=>(dec q).bind λE=>(dec r).bind λF=>(JW a).bind λks=>some (.mk s t u w x y A C E F ks)
 | _=>none
def JW:D->Option (List Glob)
 | .list n es=>if n=11 then B5 es else none
 | .v (.slice none 0 0)=>some []
 | _=>none
def B5:List D->Option (List Glob)
 | []=>some []
 |d::ds=>(Xp d).bind λx=>(B5 ds).bind λxs=>some (x::xs)
end
def IX:∀l:List Glob,Aw l=l.map NA
 | []=>rfl
 | _::l=>by rw[Aw,IX l];rfl
def qbq:∀c:Glob,(NA c).kn=true
 | .mk .. =>rfl
def WW:∀c:Glob,(NA c).cells.length=11
 | .mk .. =>rfl
mutual
def Xo:∀c:Glob,Xp (NA c)=some c
 | .mk a b d j k l p q r s ks=>by
   have h:JW (.list 11 (Aw ks))=some ks:=by rw[JW,if_pos rfl];exact QJ ks
   simp only[NA,Xp,Cod.dec_enc,qCy,h]
def QJ:∀l:List Glob,B5 (Aw l)=some l
 | []=>by simp only[Aw,B5]
 |c::l=>by simp only[Aw,B5,Xo c,QJ l,qCy]
end
mutual
def qby:∀(d:D) (c:Glob),Xp d=some c->FrzTo bV d (NA c)
 | .agg [l,p,q,r,s,t,u,w,x,y,a],c,h=>by
   simp only[Xp,qCc,qCq]at h;obtain⟨A,h0,C,h1,E,h2,F,h3,I,h4,J,h5,K,h6,L,b,M,j,N,k,ks,hk,rfl⟩:=h;rw[NA];exact LeL.agg (.cons (Cod.le _ _ h0) (.cons (Cod.le _ _ h1) (.cons (Cod.le _ _ h2) (.cons (Cod.le _ _ h3) (.cons (Cod.le _ _ h4) (.cons (Cod.le _ _ h5) (.cons (Cod.le _ _ h6) (.cons (Cod.le _ _ b) (.cons (Cod.le _ _ j) (.cons (Cod.le _ _ k) ((.cons (qhv a ks hk) .nil))))))))))))
def qhv:∀(d:D) (l:List Glob),JW d=some l->FrzTo bV d (.list 11 (Aw l))
 | .list n es,l,h=>by
   simp only[JW]at h;split at h
   ·rename_i hn;subst hn;have hl:=Xn es l h;refine .list hl.1 (λe he=>?_) hl.2;rw[IX]at he;obtain⟨x,a,rfl⟩:=qCo.1 he;exact⟨qbq x,WW x⟩
   ·cases h
 | .v (.slice none 0 0),l,h=>by
   simp only[JW,qCq]at h;subst h;exact .nil _
def Xn:∀(es:List D) (l:List Glob),B5 es=some l->LeL es (Aw l)
 | [],l,h=>by
   simp only[B5,qCq]at h;subst h;exact .nil
 | d::ds,l,h=>by
   simp only[B5,qCc,qCq]at h;obtain⟨x,h1,xs,h2,rfl⟩:=h;rw[Aw];exact .cons (qby d x h1) (Xn ds xs h2)
end
instance:Cod Glob where
 wd:=11
 enc:=NA
 dec:=Xp
 kn:=qbq
 wid:=WW
 dec_enc:=Xo
 le:=qby
def qdH(ks:List Glob):D.list 11 (Aw ks)=enc ks:=by rw[IX];rfl
def NH:∀es:List D,B5 es=es.mapM (dec (X:=Glob))
 | []=>by simp[B5]
 | d::es=>by
   rw[B5,qCY,NH es];rfl
def qhw:∀d:D,JW d=dec (X:=List Glob) d:=λd=>by
 unfold JW;split
 ·rename_i n es;show _=if n=11 then es.mapM (dec (X:=Glob))else none
  rw[NH]
 ·rfl
 ·rename_i h1 h2;show _=(match d with
   | .list n es=>if n=11 then es.mapM (dec (X:=Glob))else none
   | .v (.slice none 0 0)=>some []
   | _=>none)
  split
  ·exact absurd rfl (h1 _ _)
  ·exact absurd rfl h2
  ·rfl
@[simp] theorem qr6(s:Glob):Glob.mk s.op s.a s.b s.name s.arg s.val s.fold s.mn s.mx s.args s.kids=s:=by cases s;rfl
@[simp] theorem Ny(s:Glob):enc s= .agg [enc s.op,enc s.a,enc s.b,enc s.name,enc s.arg,enc s.val,enc s.fold,enc s.mn,enc s.mx,enc s.args,enc s.kids]:=by
 rw[<-qdH];cases s;show NA _=_;rw[NA]
@[simp] theorem qtn:Cod.wd Glob=11:=i' rfl
@[simp] theorem qsk(b c d h j k l p q r a:D):dec (X:=Glob) (.agg [b,c,d,h,j,k,l,p,q,r,a])=((dec b).bind λb=>(dec c).bind λc=>(dec d).bind λd=>(dec h).bind λh=>(dec j).bind λj=>(dec k).bind λk=>(dec l).bind λl=>(dec p).bind λp=>(dec q).bind λq=>(dec r).bind λr=>(dec a).bind λa=>some ⟨b,c,d,h,j,k,l,p,q,r,a⟩):=by
 show Xp _=_;simp only[Xp,qhw]
structure yB where
 op:Int
 neg:Bool
 reg:B
instance:Cod yB where
 wd:=3
 enc f:= .agg [enc f.op,enc f.neg,enc f.reg]
 dec| .agg [j,k,l]=>(dec j).bind λa=>(dec k).bind λb=>(dec l).bind λc=>some ⟨a,b,c⟩|_=>none
 kn _:=rfl
 wid _:=rfl
 dec_enc f:=by simp only[Cod.dec_enc,qCy]
 le d x h:=by
  split at h
  ·simp only[qCc,qCq]at h;obtain⟨a,h0,b,h1,c,h2,rfl⟩:=h;exact LeL.agg (.cons (Cod.le _ _ h0) (.cons (Cod.le _ _ h1) (.cons (Cod.le _ _ h2) .nil)))
  ·cases h
@[simp] theorem qsd(s:yB):enc s= .agg [enc s.op,enc s.neg,enc s.reg]:=i' rfl
@[simp] theorem qto:Cod.wd yB=3:=i' rfl
structure Qry where
 pat:Pat
 glob:Glob
 filts:List yB
 strat:Int
def I3:Pat->List D| .mk op c l r mn mx ks=>enc op::(B6 c++ [enc l,enc r,enc mn,enc mx,enc ks])
def qdP:∀p:Pat,D.agg (I3 p)=enc p
 | .mk .. =>(Tk ..).symm
def ZE:∀p:Pat,(I3 p).length=13
 | .mk op c l r mn mx ks=>by simp[I3,NO]
def NN(g:Glob):List D:=[enc g.op,enc g.a,enc g.b,enc g.name,enc g.arg,enc g.val,enc g.fold,enc g.mn,enc g.mx,enc g.args,enc g.kids]
def qdQ(g:Glob):D.agg (NN g)=enc g:=(Ny g).symm
def qie{l l':List D}(h:FrzTo bV (.agg l) (.agg l')):LeL l l':=by
 cases h with
 |same=>exact⟨rfl,λk x y b a=>by rw[b]at a;cases a;exact .same _⟩
 |agg hl h=>exact⟨hl,h⟩
def qhp{l:List D}{p:Pat}(h:dec (D.agg l)=some p):LeL l (I3 p):=qie (by rw[qdP];exact Cod.le _ _ h)
def qdJ{l:List D}{p:Glob}(h:dec (D.agg l)=some p):LeL l (NN p):=qie (by rw[qdQ];exact Cod.le _ _ h)
def qoq(q:Qry):D:= .agg (I3 q.pat++ (NN q.glob++ [enc q.filts,enc q.strat]))
def qoE:D->Option Qry
 | .agg [h,j,k,l,q,r,t,u,w,x,a,b,c,y,A,C,E,F,I,J,K,L,M,d,f,s]=>(dec (D.agg [h,j,k,l,q,r,t,u,w,x,a,b,c])).bind λp=>(dec (D.agg [y,A,C,E,F,I,J,K,L,M,d])).bind λg=>(dec f).bind λfs=>(dec s).bind λst=>some ⟨p,g,fs,st⟩
 | _=>none
instance:Cod Qry where
 wd:=26
 enc:=qoq
 dec:=qoE
 kn _:=rfl
 wid q:=by simp[qoq,D.cells,ZE,NN]
 dec_enc q:=by
  obtain⟨⟨op,⟨o,n,a,v,l,f,b⟩,lb,rg,mn,mx,ks⟩,g,fs,st⟩:=q;have h1:=Cod.dec_enc (⟨op,⟨o,n,a,v,l,f,b⟩,lb,rg,mn,mx,ks⟩:Pat);have h2:=Cod.dec_enc g;rw[Tk]at h1;rw[Ny]at h2;simp only[B6,qC8,qC5]at h1;simp only[qoq,I3,B6,NN,qC8,qC5,qoE,h1,h2,Cod.dec_enc,qCy]
 le d x h:=by
  unfold qoE at h;split at h
  ·simp only[qCc,qCq]at h;obtain⟨p,h0,g,h1,fs,h2,st,h3,rfl⟩:=h;exact LeL.agg ((qhp h0).append ((qdJ h1).append (.cons (Cod.le _ _ h2) (.cons (Cod.le _ _ h3) .nil))))
  ·cases h
@[simp] theorem qvm(s:Qry):Qry.mk s.pat s.glob s.filts s.strat=s:=by cases s;rfl
@[simp] theorem qvu(s:Qry):enc s= .agg [enc s.pat.op,enc s.pat.cond.op,enc s.pat.cond.name,enc s.pat.cond.arg,enc s.pat.cond.val,enc s.pat.cond.lab,enc s.pat.cond.fold,enc s.pat.cond.kids,enc s.pat.lab,enc s.pat.reg,enc s.pat.mn,enc s.pat.mx,enc s.pat.kids,enc s.glob.op,enc s.glob.a,enc s.glob.b,enc s.glob.name,enc s.glob.arg,enc s.glob.val,enc s.glob.fold,enc s.glob.mn,enc s.glob.mx,enc s.glob.args,enc s.glob.kids,enc s.filts,enc s.strat]:=by
 obtain⟨⟨op,⟨o,n,a,v,l,f,c⟩,lb,rg,mn,mx,ks⟩,g,fs,st⟩:=s;rfl
@[simp] theorem qvD(h j k l q r t u w x a b c y A C E F I J K L M d f s:D):dec (X:=Qry) (.agg [h,j,k,l,q,r,t,u,w,x,a,b,c,y,A,C,E,F,I,J,K,L,M,d,f,s])=((dec (D.agg [h,j,k,l,q,r,t,u,w,x,a,b,c])).bind λp=>(dec (D.agg [y,A,C,E,F,I,J,K,L,M,d])).bind λg=>(dec f).bind λfs=>(dec s).bind λst=>some ⟨p,g,fs,st⟩):=i' rfl
structure qBp where
 kind:Int
 text:B
 pos:Int
instance:Cod qBp where
 wd:=3
 enc t:= .agg [.v (.int .u8 t.kind),enc t.text,enc t.pos]
 dec| .agg [.v (.int .u8 k),a,j]=>(dec a).bind λb=>(dec j).bind λc=>some ⟨k,b,c⟩|_=>none
 kn _:=rfl
 wid _:=rfl
 dec_enc f:=by simp only[Cod.dec_enc,qCy]
 le d x h:=by
  split at h
  ·simp only[qCc,qCq]at h;obtain⟨b,h1,c,h2,rfl⟩:=h;exact LeL.agg (.cons (.same _) (.cons (Cod.le _ _ h1) (.cons (Cod.le _ _ h2) .nil)))
  ·cases h
structure Pst where
 l:List qBp
 pos:Int
 deep:Int
 e:Int
 fail:Int
def Pst.step(s:Pst):Pst:={ s with pos:=s.pos+1 }
def E0:B:=⟨#[]⟩
section
variable (A:Pst->Option (Pst×Pat))
end

section
variable (N:Pst->Option (Pst×Cond))(O:Pst->Option (Pst×Cond))
end
section
variable (A:Pst->Option (Pst×Pat))(O:Pst->Option (Pst×Cond))
end
section
variable (N:Pst->Option (Pst×Glob))(O:Pst->Option (Pst×Glob))
end

variable {S S0:Nat->Spc}
end
end Go.Gv
