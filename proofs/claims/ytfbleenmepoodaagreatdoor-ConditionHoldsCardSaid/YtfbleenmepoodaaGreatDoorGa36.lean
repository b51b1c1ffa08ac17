/- A part of the framework and of the walks: I15 Sh24 I6 I12 C62 C4 V5 W42. -/
import Derived.Shelf.Strings.Runes
import Derived.Shelf.Strings.Search3
import Derived.Shelf.Unicode.Decode
import Derived.Ground.NamesProg
import Derived.Test.YtfbleenmepoodaaGreatDoorProg
import Derived.Test.YtfbleenmepoodaaGreatDoorGa35
set_option linter.unusedSimpArgs false
set_option linter.unusedVariables false
set_option linter.unusedSectionVars false
set_option linter.defProp false
set_option maxRecDepth 100000
set_option maxHeartbeats 0
namespace Go.Proofs
open Go.RowKit Go.Shelf Go.Gv
variable {dq:Prop}
attribute [local go_sem] Oper.semAt_some
def VQ:Value->D->Prop:=λx d=>∃n:Int,x= .int .u8 n/\d= .v (.int .u8 n)
def Mw(l:List Int):List D:=l.map λn=> .v (.int .u8 n)
def KU:∀l:List Int,aR (Mw l)=Mw l
  | []=>rfl
  | b::l=>by
    have ih:=KU l;unfold Mw aR at ih ⊢;rw[List.map_cons,List.flatMap_cons,ih];rfl
def Nr(c:Int)(k:Nat):List Int:=if k=0 then[]else[low c]
def qco(B Z:Nat)(v:Value):Prop:=∀b,v.ownBlock=some b->B < b/\b≠B+2/\b≠B+3/\(b < Z\/Z+4<=b)
def V0(B k:Nat)(v:Value):Prop:=k=0->v= .slice (some ⟨B+1,0,none⟩) 0 1
structure qcj (s:ByteArray) (c:Int):Prop where
  e:s=gW c
def RowB(W:World)(v:Value)(l:List Int):Prop:=ResOk VQ W (.row v lp 1 (Mw l))
def VQ.R{tp I:Nat->Prop}{w:World}{x:Value}{d:D}(h:VQ x d):R tp I w x d:=by
  obtain⟨n,rfl,rfl⟩:=h;exact .int _ _
def RowB.keep{W W':World}{v:Value}{l:List Int}(h:RowB W v l)(hb:∀b,v.ownBlock=some b->W'.heap[b]? =W.heap[b]?):RowB W' v l:=h.conv (λ_ _ h=>h) hb
def RowB.res{tp I:Nat->Prop}{W:World}{v:Value}{l:List Int}(h:RowB W v l):ResOk (R tp I W) W (.row v lp 1 (Mw l)):=h.conv (λ_ _ h=>h.R) (λ_ _=>rfl)
def QL{tp I:Nat->Prop}{W:World}{v:Value}{l:List Int}(h:ResOk (R tp I W) W (.row v lp 1 (Mw l))):RowB W v l:=by
  obtain⟨xs,h1,h2,h3⟩:=h;refine⟨xs,h1,h2,λk y c hy hc=>⟨(h3 k y c hy hc).1,?_⟩⟩;have hfl:=KU l;have hc2:=hc;rw[hfl]at hc2;unfold Mw at hc2;rw[List.getElem?_map]at hc2;obtain⟨n,_,rfl⟩:=Option.map_eq_some_iff.1 hc2;exact⟨n,(h3 k y _ hy hc).2.inv_v,rfl⟩
def RowB.blk{W:World}{v:Value}{l:List Int}(h:RowB W v l){b:Nat}(hb:v.ownBlock=some b):∃xs el,W.heap[b]? =some (.cells xs el (0,0)):=by
  obtain⟨xs,h1,_⟩:=h;rcases h1.2 with⟨rfl,_⟩|⟨g,cap,cur,rfl,_,hg,_⟩
  · cases hb
  · cases hb;exact⟨_,_,hg⟩
def RowB.one{W:World}{v:Value}{l:List Int}(h:RowB W v l):v.oneCell'=true:=by
  obtain⟨xs,h1,_⟩:=h;rcases h1.2 with⟨rfl,_⟩|⟨g,cap,cur,rfl,_⟩ <;> rfl
def I5{c:Int}(h0:0<=c)(h1:c < 128):xR (gW c)=Mw [c]:=by
  have e:(c.toNat.toUInt8).toNat=c.toNat % 256:=UInt8.toNat_ofNat' ..;have e2:((c.toNat.toUInt8).toNat:Int)=c:=by omega
  show[D.v (.int .u8 ((c.toNat.toUInt8).toNat:Int))]=[D.v (.int .u8 c)]
  rw[e2]
def At:CC:= .seq (.reg [oC 34 1 3,oB 35 (.bstr (oT 34)),oA 2 35]) .ret
set_option maxRecDepth 100000 in
set_option maxHeartbeats 4000000 in
theorem Tryz.Fold_in{S:Nat->Spc}(hS:∀f,Tri True Tryz.prog f (S f).pt)(hlo:S dc=BT)(F:Fence)(hF:qiG F)(n:Nat)(h105:F.fn 146)(h95:F.fn 130)(h128:F.fn 162)(hro:F.round=none)(hn:10<=n)(c:Int)(c0:0<=c)(c1:c < 128)(w:World):
    CallsIn F n Tryz.prog 146 #[.string (gW c)] w λe W'=>e= .returned (.string (gW (low c)))/\GrL w.heap.size w W':=by
  have h1:1<=n:=by omega
  refine callsIn_of_wp_marks Tryz.func146 rfl h105 ?_ hro;simp only[Tryz.ntmps146,List.size_toArray,List.length_cons,List.length_nil,Nat.reduceAdd,Nat.reduceSub,Array.replicate_succ,Array.replicate_zero,List.push_toArray,List.append_toArray,List.nil_append,List.cons_append];obtain⟨s,hs0⟩:∃s:ByteArray,s=gW c:=⟨_,rfl⟩
  have hs:qcj s c:=⟨hs0⟩
  have hsz:s.size=1:=by rw[hs0];rfl
  have hmk:∀w,(Instr.makeSlice 175 (.int .i64 0) (.int .i64 1)).run Tryz.prog w= .ok (.slice (some ⟨w.heap.size,0,none⟩) 0 1) (w.alloc (.cells #[.int .u8 0] 5)):=λ_=>by kernel_rfl
  have hsl:(s.size:Int)=1:=by omega
  rw[<-hs0];clear hs0
  gi_wp2_with (gi_at_call 130;refine(Tryz.units_in F (n -1) h95 hro _ _).mono ?_;rintro e w' ⟨rfl,rfl⟩)
  obtain⟨B,hB⟩:∃B,B=w.heap.size:=⟨_,rfl⟩
  obtain⟨W0,hW0⟩:∃W0,(((w.alloc (.cells #[.string s] 9)).alloc (.cells #[.int .u8 0] 5)).alloc (.cells #[.slice (some ⟨w.heap.size+1,0,none⟩) 0 1] 175)).alloc (.cells #[.string s] aJ)=W0:=⟨_,rfl⟩
  rw[hW0];have hsz0:W0.heap.size=w.heap.size+4:=by rw[<-hW0];simp
  have g0:GrL w.heap.size w W0:=by
    rw[<-hW0];exact(((GrL.alloc w (Nat.le_refl _) _).trans (GrL.alloc _ (by simp) _)).trans (GrL.alloc _ (by first|(simp;done)|(simp;omega)) _)).trans (GrL.alloc _ (by first|(simp;done)|(simp;omega)) _)
  have B0:∀W:World,∀o:Obj,(W.alloc o).heap[W.heap.size]? =some o:=λW o=>World.alloc_heap_new W o
  have b3:W0.heap[w.heap.size+3]? =some (.cells #[.string s] aJ (0,0)):=by
    rw[<-hW0];have h:=B0 (((w.alloc (.cells #[.string s] 9)).alloc (.cells #[.int .u8 0] 5)).alloc (.cells #[.slice (some ⟨w.heap.size+1,0,none⟩) 0 1] 175)) (.cells #[.string s] aJ);simpa using h
  have b0:W0.heap[w.heap.size]? =some (.cells #[.string s] 9 (0,0)):=by
    rw[<-hW0];have h:=B0 w (.cells #[.string s] 9);exact(Below.heap_alloc _ _ _ (by first|(simp;done)|(simp;omega))).trans ((Below.heap_alloc _ _ _ (by first|(simp;done)|(simp;omega))).trans ((Below.heap_alloc _ _ _ (by first|(simp;done)|(simp;omega))).trans h))
  have b1:W0.heap[w.heap.size+1]? =some (.cells #[.int .u8 0] 5 (0,0)):=by
    rw[<-hW0];have h:=B0 (w.alloc (.cells #[.string s] 9)) (.cells #[.int .u8 0] 5);rw[show(w.alloc (.cells #[.string s] 9)).heap.size=w.heap.size+1 by simp]at h;exact(Below.heap_alloc _ _ _ (by first|(simp;done)|(simp;omega))).trans ((Below.heap_alloc _ _ _ (by first|(simp;done)|(simp;omega))).trans h)
  have b2:W0.heap[w.heap.size+2]? =some (.cells #[.slice (some ⟨w.heap.size+1,0,none⟩) 0 1] 175 (0,0)):=by
    rw[<-hW0];have h:=B0 ((w.alloc (.cells #[.string s] 9)).alloc (.cells #[.int .u8 0] 5)) (.cells #[.slice (some ⟨w.heap.size+1,0,none⟩) 0 1] 175);rw[show((w.alloc (.cells #[.string s] 9)).alloc (.cells #[.int .u8 0] 5)).heap.size=w.heap.size+2 by simp]at h;exact(Below.heap_alloc _ _ _ (by first|(simp;done)|(simp;omega))).trans h
  clear hW0 B0;have ha:∀ (k:Nat) (h:k < s.size),(s[k]'h).toNat < 128:=λk h=>by
    have hk0:k=0:=by omega
    subst hk0;obtain⟨rfl⟩:=hs;show(c.toNat.toUInt8).toNat < 128;have e:(c.toNat.toUInt8).toNat=c.toNat % 256:=UInt8.toNat_ofNat' ..;omega
  have hcA:EO s 0=c:=by
    obtain⟨rfl⟩:=hs;show((c.toNat.toUInt8).toNat:Int)=c;have e:(c.toNat.toUInt8).toNat=c.toNat % 256:=UInt8.toNat_ofNat' ..;omega
  have hrow0:RowB W0 (.slice (some ⟨w.heap.size+1,0,none⟩) 0 1) []:=⟨[],⟨rfl, .inr ⟨w.heap.size+1,1, #[.int .u8 0],rfl,Nat.zero_le _,b1,Nat.zero_le _,by decide,rfl,rfl⟩⟩,by simp[Mw],λk y c hy=>by simp at hy⟩
  have hfar0:qco w.heap.size W0.heap.size (.slice (some ⟨w.heap.size+1,0,none⟩) 0 1):=λb hb=>by
    have hbe:b=w.heap.size+1:=by cases hb;rfl
    omega
  have hcs:W0.cell? ⟨w.heap.size+3,0,none⟩=some (.string s):=bg b3 rfl;refine GE hro h1 (gf:=162) (lb:= #[.pointer (some ⟨w.heap.size+3,0,none⟩)]) rfl h128 (enters_of Tryz.func162 (by kernel_rfl) rfl)
    (Tryz.units1_it F (n -1) h128 hro (by omega) s (by omega) ha (λk=>k=w.heap.size+3) (w.heap.size+3) rfl W0 (λ_ h=>by omega) hcs) (λ_ h=>by omega) (λ_=>rfl)
    (λk W=>GrL w.heap.size w W/\Bx W w.heap.size #[.string s]/\∃v,Bx W (w.heap.size+2) #[v]/\RowB W v (Nr c k)/\qco w.heap.size W0.heap.size v/\V0 w.heap.size k v)
    (λ_ _=>False)
    (λk A C hs hg0=>by
      have hg:=hg0.toL;obtain⟨i1,i2,v,i3,i4,i5,i6⟩:=hs;exact⟨i1.trans (hg.mono (by omega)),i2.keep (hg.low _ (by omega)),v,i3.keep (hg.low _ (by omega)),i4.keep (λb hb=>by
        obtain⟨xs,el,hx⟩:=i4.blk hb;exact(hg0.get hx (i5 b hb).2.2.2).trans hx.symm),i5,i6⟩)
    (λ_ _ _ hs _=>hs)
    ⟨g0, .of b0,_, .of b2,hrow0,hfar0,λ_=>rfl⟩
    (λk a' W=>∃Br,W0.heap.size+4<=Br/\W.heap[Br]? =some (.cells #[.int .i32 (EO s k), .int .i64 (k:Int), .int .i64 1] 152 (0,0))/\(∀v,W.cell? ⟨w.heap.size+2,0,none⟩=some v->v.ownBlock≠some Br)/\
      a'={ tmps:= #[.string s, .pointer (some ⟨w.heap.size,0,none⟩), .string { data:= #[] }, .pointer (some ⟨w.heap.size+1+1,0,none⟩), .pointer (some ⟨Br,0,none⟩),undef, .string s, .int .i64 1, .slice (some ⟨w.heap.size+1,0,none⟩) 0 1, .string s, .func (.func 162) #[] #[.pointer (some ⟨w.heap.size+1+1+1,0,none⟩)], .agg #[.int .i32 (EO s k), .int .i64 (k:Int), .int .i64 1],undef,undef,undef,undef,undef,undef,undef,undef,undef,undef,undef,undef,undef,undef,undef,undef,undef,undef,undef,undef,undef,undef,undef,undef],defers:=[] })
    (λa' k W o hlt hs=>by
      obtain⟨Br,q1,q2,q3,q4⟩:=hs;refine⟨Br,q1,(World.putObj_heap_other (by omega)).trans q2,λv hv=>q3 v ?_,q4⟩;rw[World.cell?_of_block (World.putObj_heap_other (by show w.heap.size+2≠W0.heap.size+1;omega))]at hv;exact hv)
    ?assign ?body ?done ?stop
  case assign=>
    rintro l k W hsz2 hl ⟨i1,i2,v,i3,i4,i5,i6⟩ hk;rw[Gi];generalize EO s k=c
    gi_wp2
    refine⟨(KeepsOthers.alloc _ _).from _,KBt.alloc _ _ _ _,⟨i1.trans (GrL.alloc W i1.size _),i2.keep (Below.heap_alloc _ _ _ (by omega)),v,i3.keep (Below.heap_alloc _ _ _ (by omega)),i4.keep (λb hb=>by
      obtain⟨xs,el,hx⟩:=i4.blk hb;exact Below.heap_alloc _ _ _ (Array.getElem?_eq_some_iff.1 hx).1),i5,i6⟩,W.heap.size,by omega,World.alloc_heap_new W _,λv' hv' hb=>?_,rfl⟩
    have hcv:=(i3.keep (Below.heap_alloc W (.cells #[.int .i32 c, .int .i64 (k:Int), .int .i64 1] 152) _ (by omega))).cell (k:=0) rfl;rw[hcv]at hv';cases hv';obtain⟨xs,el,hx⟩:=i4.blk hb;have:=(Array.getElem?_eq_some_iff.1 hx).1;omega
  case body=>
    rintro l k a' W hsz2 hl ⟨i1,i2,v,i3,i4,i5,i6⟩ ⟨Br,hBr,bR,hnb,rfl⟩ hk;obtain⟨rfl⟩:=hF;obtain rfl:k=0:=by omega
    rw[hcA]at bR;have hnb:=hnb v (i3.cell rfl);rw[<-hB]at i1 i2 i3 i5 i6 hsz0;have hz0:=i1.size;obtain⟨H,hH⟩:∃H,H=fq [(3,Res.box (B+2) [.own 33 v]),(33, .row v lp 1 (Mw (Nr c 0)))] cv:=⟨_,rfl⟩
    have hown:∀b,bF H b->B<=b/\ ¬b=B+3/\ ¬b=B/\b≠Br:=by
      rintro b ⟨j,r,hj,hb⟩;rw[hH]at hj;have hj:=cB hj;simp only[List.mem_cons,Prod.mk.injEq,List.not_mem_nil,or_false]at hj;rcases hj with⟨rfl,rfl⟩|⟨rfl,rfl⟩
      · simp only[Res.blk,Option.some.injEq]at hb;omega
      · have hb:v.ownBlock=some b:=hb
        have:=i5 b hb;exact⟨by omega,by omega,by omega,λe=>hnb (e ▸hb)⟩
    have hst:St (Bz W H 36 []) (cR [.any, .cptr [.v (.string s)] 0, .any, .bptr 3 (B+2) 0, .cptr [.v (.int .i32 c), .v (.int .i64 ((0:Nat):Int)), .v (.int .i64 1)] 0]) H { tmps:= #[.string s, .pointer (some ⟨w.heap.size,0,none⟩), .string { data:= #[] }, .pointer (some ⟨w.heap.size+1+1,0,none⟩), .pointer (some ⟨Br,0,none⟩),undef, .string s, .int .i64 1, .slice (some ⟨w.heap.size+1,0,none⟩) 0 1, .string s, .func (.func 162) #[] #[.pointer (some ⟨w.heap.size+1+1+1,0,none⟩)], .agg #[.int .i32 (EO s 0), .int .i64 ((0:Nat):Int), .int .i64 1],undef,undef,undef,undef,undef,undef,undef,undef,undef,undef,undef,undef,undef,undef,undef,undef,undef,undef,undef,undef,undef,undef,undef,undef],defers:=[] } W:=by
      refine qfb rfl ?_ ?_ ?_
      · intro i j r1 r2 b hi hj e1 e2
        rw[hH]at hi hj;have hi:=cB hi;have hj:=cB hj;simp only[List.mem_cons,Prod.mk.injEq,List.not_mem_nil,or_false]at hi hj;rcases hi with⟨rfl,rfl⟩|⟨rfl,rfl⟩ <;> rcases hj with⟨rfl,rfl⟩|⟨rfl,rfl⟩
        · rfl
        · cases e1
          exact absurd rfl (i5 _ e2).2.1
        · cases e2
          exact absurd rfl (i5 _ e1).2.1
        · rfl
      · intro j r hj
        rw[hH]at hj;have hj:=cB hj;simp only[List.mem_cons,Prod.mk.injEq,List.not_mem_nil,or_false]at hj;rcases hj with⟨rfl,rfl⟩|⟨rfl,rfl⟩
        · obtain⟨el,h3⟩:=i3
          refine⟨#[v],el,h3,rfl,λk y d hy hd=>?_⟩;rcases k with _|k
          · cases hy;cases hd
            exact⟨i4.one, .own 33 v i4.one⟩
          · cases hd
        · exact i4.res
      · intro t
        rw[<-hB];rcases t with _|_|_|_|_|t
        · exact .any _
        · exact Bx.cptr [.string s] i2 ⟨i2.lt,λh=>h,λh=>h,λh=>(hown B h).2.2.1 rfl⟩ (λx hx=>by rw[List.mem_singleton.1 hx];exact⟨rfl, .str s (by rw[hsz];decide)⟩)
        · exact .any _
        · exact .bptr 3 (B+2) 0
        · have hbx:Bx W Br #[.int .i32 c, .int .i64 ((0:Nat):Int), .int .i64 1]:= .of bR
          exact Bx.cptr [.int .i32 c, .int .i64 ((0:Nat):Int), .int .i64 1] hbx ⟨hbx.lt,λh=>h,λh=>h,λh=>(hown Br h).2.2.2 rfl⟩ (λx hx=>by
            simp only[List.mem_cons,List.not_mem_nil,or_false]at hx;rcases hx with rfl|rfl|rfl <;> exact⟨rfl, .int _ _⟩)
        · exact .any _
    have hv:vc S eu (λe _ H'=>match e with
        | .norm=>∃v',H' 3=some (.box (B+2) [.own 33 v'])/\H' 33=some (.row v' lp 1 (Mw [low c]))
        | _=>False) (cR [.any, .cptr [.v (.string s)] 0, .any, .bptr 3 (B+2) 0, .cptr [.v (.int .i32 c), .v (.int .i64 ((0:Nat):Int)), .v (.int .i64 1)] 0]) H:=by
      rw[hH];have hd1:xR (gW c)=Mw [c]:=I5 c0 c1;by_cases hlc:low c=c
      · simp[eu,hlo,c0,c1,hlc,Nr,hsz, -Bool.forall_bool, -Bool.exists_bool]
        have hex:s.extract 0 1=gW c:=by
          obtain⟨rfl⟩:=hs;rfl
        rw[hex,hd1];exact⟨by simp only[InR];omega,Nat.le_of_ble_eq_true rfl,rfl⟩
      · simp[eu,hlo,c0,c1,hlc,Nr,hsz, -Bool.forall_bool, -Bool.exists_bool]
        obtain⟨l0,l1⟩:=Hd c0 c1;rw[HH l0 l1,I5 l0 l1];exact⟨Nat.le_of_ble_eq_true rfl,rfl⟩
    refine wpIn_mono (IP (im:=[2003003]) hS mixed (cc:=eu) (by kernel_rfl) hst hv) ?_;rintro e a2 W2 he;cases e with
    | normal=>
      obtain⟨σ2,H2,hst2,v',e3,e33⟩:=he;have hs2:=BQ hst2;have hg:=hs2.grL (B:=B) (λb hb=>(hown b hb).1) (by omega);have hownW:∀b,bF H b->b < W.heap.size:=by
        rintro b ⟨j,r,hj,hb⟩;obtain⟨_,_,tp,hw,_⟩:=hst;exact(hw.sat.ok j r hj).lt hb
      refine⟨⟨hs2.size,λk o hk hko hc=>?_⟩,⟨hs2.size,λk hk hs=>?_⟩,?_⟩
      · by_cases ho:bF H k
        · obtain⟨_,_,tp,hw,_⟩:=hst
          obtain⟨j,r,hj,hb⟩:=ho;have hok:=hw.sat.ok j r hj;rw[hH]at hj;have hj:=cB hj;simp only[List.mem_cons,Prod.mk.injEq,List.not_mem_nil,or_false]at hj;rcases hj with⟨rfl,rfl⟩|⟨rfl,rfl⟩
          · cases hb
            obtain⟨el,h3⟩:=i3;rw[h3]at hko;cases hko;cases hc
          · obtain⟨xs,el,hx⟩:=i4.blk hb
            rw[hx]at hko;cases hko;cases hc
        · exact(hs2.same k (Array.getElem?_eq_some_iff.1 hko).1 ho (λh=>h)).trans hko
      · refine hs2.same k hk (λho=>?_) (λh=>h)
        obtain⟨j,r,hj,hb⟩:=ho;rw[hH]at hj;have hj:=cB hj;simp only[List.mem_cons,Prod.mk.injEq,List.not_mem_nil,or_false]at hj;rcases hj with⟨rfl,rfl⟩|⟨rfl,rfl⟩
        · cases hb;omega
        · have hv0:=i6 rfl
          subst hv0;have hkb:k=B+1:=(Option.some.inj hb).symm;rcases hs with hs|hs <;> omega
      · rw[<-hB]
        refine⟨i1.trans hg,i2.keep (hs2.same B i2.lt (λho=>(hown B ho).2.2.1 rfl) (λh=>h)),v',WC hst2 e3,?_,λb hb=>?_,λh=>by omega⟩
        · obtain⟨tp,I,hok⟩:=P8 hst2 e33
          exact QL hok
        · have hne:b≠B+2:=λe=>by
            subst e;have:=WE hst2 e3 e33 rfl hb;omega
          rcases WD hst2 ⟨33,_,e33,hb⟩with ho|ho
          · obtain⟨j,r,hj,hb2⟩:=ho
            rw[hH]at hj;have hj:=cB hj;simp only[List.mem_cons,Prod.mk.injEq,List.not_mem_nil,or_false]at hj;rcases hj with⟨rfl,rfl⟩|⟨rfl,rfl⟩
            · cases hb2;exact absurd rfl hne
            · exact i5 b hb2
          · omega
    | ret=>obtain⟨_,_,_,h⟩:=he;exact h.elim
    | exit id=>obtain⟨_,_,_,h⟩:=he;exact h.elim
    | goto t=>exact he.elim
    | panic ch=>exact he.elim
    | outgrown=>exact he.elim
  case done=>
    rintro D W hD ⟨i1,i2,v,i3,i4,i5,i6⟩ hK;rename_i Qd Kd hKd;refine hKd _ _ ?_;obtain⟨rfl⟩:=hF;refine wpIn_wide.2 ?_;rw[show s.size=1 from hsz]at i4;rw[<-hB]at i1 i2 i3 i5 hsz0;have hz0:=i1.size;obtain⟨H,hH⟩:∃H,H=fq [(3,Res.box (B+2) [.own 33 v]),(33, .row v lp 1 (Mw [low c]))] cv:=⟨_,rfl⟩
    have hown:∀b,bF H b->B<=b/\b≠D:=by
      rintro b ⟨j,r,hj,hb⟩;rw[hH]at hj;have hj:=cB hj;simp only[List.mem_cons,Prod.mk.injEq,List.not_mem_nil,or_false]at hj;rcases hj with⟨rfl,rfl⟩|⟨rfl,rfl⟩
      · simp only[Res.blk,Option.some.injEq]at hb;omega
      · have hb:v.ownBlock=some b:=hb
        have:=i5 b hb;refine⟨by omega,λe=>?_⟩;obtain⟨xs,el,hx⟩:=i4.blk hb;rw[e,hK]at hx;cases hx
    have hst:∀ (tmps:Array Value) (ds:List Deferred),tmps.getD 3 undef= .pointer (some ⟨B+2,0,none⟩)->St (Bz W H tmps.size ds) (cR [.any, .any, .any, .bptr 3 (B+2) 0]) H { tmps:=tmps,defers:=ds } W:=by
      intro tmps ds ht;refine qfb rfl ?_ ?_ ?_
      · intro i j r1 r2 b hi hj e1 e2
        rw[hH]at hi hj;have hi:=cB hi;have hj:=cB hj;simp only[List.mem_cons,Prod.mk.injEq,List.not_mem_nil,or_false]at hi hj;rcases hi with⟨rfl,rfl⟩|⟨rfl,rfl⟩ <;> rcases hj with⟨rfl,rfl⟩|⟨rfl,rfl⟩
        · rfl
        · cases e1
          exact absurd rfl (i5 _ e2).2.1
        · cases e2
          exact absurd rfl (i5 _ e1).2.1
        · rfl
      · intro j r hj
        rw[hH]at hj;have hj:=cB hj;simp only[List.mem_cons,Prod.mk.injEq,List.not_mem_nil,or_false]at hj;rcases hj with⟨rfl,rfl⟩|⟨rfl,rfl⟩
        · obtain⟨el,h3⟩:=i3
          refine⟨#[v],el,h3,rfl,λk y d hy hd=>?_⟩;rcases k with _|k
          · cases hy;cases hd
            exact⟨i4.one, .own 33 v i4.one⟩
          · cases hd
        · exact i4.res
      · intro t
        rcases t with _|_|_|_|t
        · exact .any _
        · exact .any _
        · exact .any _
        · show R _ _ _ (tmps.getD 3 undef) _
          rw[ht];exact .bptr 3 (B+2) 0
        · exact .any _
    have hbs:Yh (Mw [low c])=gW (low c):=rfl;have hbl:Wg (Mw [low c])=true:=rfl;have hv:vc S At (λe σ' _=>match e with
        | .ret=>σ' 2= .v (.string (gW (low c)))
        | _=>False) (cR [.any, .any, .any, .bptr 3 (B+2) 0]) H:=by
      rw[hH];simp[At, -Bool.forall_bool, -Bool.exists_bool];exact⟨hbl,hbs⟩
    refine Code.wp_mono ?_ (qh (im:=[]) hS mixed At _ (by kernel_rfl) _ _ _ _ _ (hst _ _ (by rw[hB];rfl)) hv);rintro e a2 W2 he;cases e with
    | ret=>
      obtain⟨σ2,H2,hst2,e2⟩:=he;have hs2:=BQ hst2;have hg:=hs2.grL (B:=B) (λb hb=>(hown b hb).1) (by omega);have hv2:=WB hst2 e2;have hK2:W2.heap[D]? =some (.deferred (some [])):=(hs2.same D (Array.getElem?_eq_some_iff.1 hK).1 (λho=>(hown D ho).2 rfl) (λh=>h)).trans hK;have hds:=(ZU hst2).1;have hg2:=i1.trans hg;clear hst2 hs2;obtain⟨tmps2,ds2⟩:=a2;simp only at hds hv2;subst hds;refine⟨by simp, .inl ⟨_,_,rfl,run_takeDeferred hK2,?_⟩⟩;have hres:(results Tryz.f146 tmps2).run Tryz.prog (W2.putObj D (.deferred none))= .ok (.string (gW (low c))) (W2.putObj D (.deferred none)):=by
        simp[results,Tryz.f146,go_sem];simpa using hv2
      rw[hB]at hg2;exact⟨_,hres,rfl,hg2.trans (GrL.put _ (by omega) _)⟩
    | normal=>obtain⟨_,_,_,h⟩:=he;exact h.elim
    | exit id=>obtain⟨_,_,_,h⟩:=he;exact h.elim
    | goto t=>exact he.elim
    | panic ch=>exact he.elim
    | outgrown=>exact he.elim
  case stop=>
    rintro D k W _ _ h _;exact h.elim
end Go.Proofs
namespace Go.Gv
open Go.Proofs Go.RowKit
open Cod (enc dec)
def Oh{dq:Prop}{S:Nat->Spc}(hS:∀f,Tri True Tryz.prog f (S f).pt)(hlo:S dc=BT):Tri dq Tryz.prog kM s_cpFold1.pt:=by
  refine na (kT Tryz.func146 (by kernel_rfl) rfl) λtp I w vs s hp hI hl hr=>?_
  obtain⟨c,c0,c1,rfl⟩:=hp;have hview:(a1 B).view (gW c)=[.v (.string (gW c))]:=rfl;rw[hview]at hl hr
  match vs,hl with
  | [v0],_=>
    have e0:=xI (hr 0 v0 _ rfl rfl);subst e0;refine(callsIn_wide (n:=10)).1 ((Tryz.Fold_in hS hlo Fence.wide ⟨rfl⟩ 10 trivial trivial trivial rfl (by omega) c c0 c1 w).mono ?_);rintro e w' ⟨rfl,hg⟩;obtain⟨l0,l1⟩:=Hd c0 c1;exact⟨_,gW (low c),rfl,λd d0 d1 e=>by rw[M9 c0 c1 d0 d1 e],λtp' I'=> .str _ (Nat.le_of_ble_eq_true rfl),hg.below,hg.drawn⟩
end Go.Gv
namespace Go.Proofs
open Go.Shelf
def Tryz.lays197_ren:Go.Shelf.Ren:=⟨λ|197=>165|260=>182|n=>n,λ|9=>9|21=>21|3=>3|4=>4|5=>5|105=>186|119=>214|0=>0|46=>184|139=>217|138=>216|n=>n,λ|3=>1|4=>2|n=>n⟩
theorem Tryz.lays197:Go.Proofs.Lays.n197 Tryz.prog Tryz.lays197_ren:={
 mixed:=by kernel_rfl
 f197:=Tryz.func165.trans (congrArg some (by kernel_rfl))
 f260:=Tryz.func182.trans (congrArg some (by kernel_rfl))
 t0:=Tryz.underlying0
 a0:=Tryz.isAgg0
 z0:=Tryz.sizeOf0
 v0:=Tryz.zeroValue0
 t3:=Tryz.underlying3
 a3:=Tryz.isAgg3
 z3:=Tryz.sizeOf3
 v3:=Tryz.zeroValue3
 t4:=Tryz.underlying4
 a4:=Tryz.isAgg4
 z4:=Tryz.sizeOf4
 v4:=Tryz.zeroValue4
 t5:=Tryz.underlying5
 a5:=Tryz.isAgg5
 z5:=Tryz.sizeOf5
 v5:=Tryz.zeroValue5
 t9:=Tryz.underlying9
 a9:=Tryz.isAgg9
 z9:=Tryz.sizeOf9
 v9:=Tryz.zeroValue9
 t21:=Tryz.underlying21
 a21:=Tryz.isAgg21
 z21:=Tryz.sizeOf21
 v21:=Tryz.zeroValue21
 t46:=Tryz.underlying184
 a46:=Tryz.isAgg184
 z46:=Tryz.sizeOf184
 v46:=Tryz.zeroValue184
 t105:=Tryz.underlying186
 a105:=Tryz.isAgg186
 z105:=Tryz.sizeOf186
 v105:=Tryz.zeroValue186
 t119:=Tryz.underlying214
 a119:=Tryz.isAgg214
 z119:=Tryz.sizeOf214
 t138:=Tryz.underlying216
 a138:=Tryz.isAgg216
 z138:=Tryz.sizeOf216
 v138:=Tryz.zeroValue216
 t139:=Tryz.underlying217
 a139:=Tryz.isAgg217
 z139:=Tryz.sizeOf217
 v139:=Tryz.zeroValue217
 g3:=by kernel_rfl
 g4:=by kernel_rfl }
def Tryz.lays151_ren:Go.Shelf.Ren:=⟨λ|151=>193|152=>204|137=>213|119=>214|224=>160|225=>159|217=>158|266=>178|n=>n,λ|9=>9|21=>21|4=>4|3=>3|5=>5|0=>0|46=>184|n=>n,λ|n=>n⟩
theorem Tryz.lays151:Go.Proofs.Lays.n151 Tryz.prog Tryz.lays151_ren:={
 mixed:=by kernel_rfl
 f119:=Tryz.func214.trans (congrArg some (by kernel_rfl))
 f137:=Tryz.func213.trans (congrArg some (by kernel_rfl))
 f151:=Tryz.func193.trans (congrArg some (by kernel_rfl))
 f152:=Tryz.func204.trans (congrArg some (by kernel_rfl))
 f217:=Tryz.func158.trans (congrArg some (by kernel_rfl))
 f224:=Tryz.func160.trans (congrArg some (by kernel_rfl))
 f225:=Tryz.func159.trans (congrArg some (by kernel_rfl))
 f266:=Tryz.func178.trans (congrArg some (by kernel_rfl))
 t0:=Tryz.underlying0
 a0:=Tryz.isAgg0
 z0:=Tryz.sizeOf0
 v0:=Tryz.zeroValue0
 t3:=Tryz.underlying3
 a3:=Tryz.isAgg3
 z3:=Tryz.sizeOf3
 v3:=Tryz.zeroValue3
 t4:=Tryz.underlying4
 a4:=Tryz.isAgg4
 z4:=Tryz.sizeOf4
 v4:=Tryz.zeroValue4
 t5:=Tryz.underlying5
 a5:=Tryz.isAgg5
 z5:=Tryz.sizeOf5
 v5:=Tryz.zeroValue5
 t9:=Tryz.underlying9
 a9:=Tryz.isAgg9
 z9:=Tryz.sizeOf9
 v9:=Tryz.zeroValue9
 t21:=Tryz.underlying21
 a21:=Tryz.isAgg21
 z21:=Tryz.sizeOf21
 v21:=Tryz.zeroValue21
 t46:=Tryz.underlying184
 a46:=Tryz.isAgg184
 z46:=Tryz.sizeOf184
 v46:=Tryz.zeroValue184 }
def Tryz.lays144_ren:Go.Shelf.Ren:=⟨λ|144=>75|143=>99|219=>129|217=>158|225=>159|224=>160|267=>161|266=>178|314=>179|n=>n,λ|9=>9|4=>4|3=>3|5=>5|46=>184|146=>202|51=>201|n=>n,λ|1=>0|n=>n⟩
theorem Tryz.lays144:Go.Proofs.Lays.n144 Tryz.prog Tryz.lays144_ren:={
 mixed:=by kernel_rfl
 f143:=Tryz.func99.trans (congrArg some (by kernel_rfl))
 f144:=Tryz.func75.trans (congrArg some (by kernel_rfl))
 f217:=Tryz.func158.trans (congrArg some (by kernel_rfl))
 f219:=Tryz.func129.trans (congrArg some (by kernel_rfl))
 f224:=Tryz.func160.trans (congrArg some (by kernel_rfl))
 f225:=Tryz.func159.trans (congrArg some (by kernel_rfl))
 f266:=Tryz.func178.trans (congrArg some (by kernel_rfl))
 f267:=Tryz.func161.trans (congrArg some (by kernel_rfl))
 f314:=Tryz.func179.trans (congrArg some (by kernel_rfl))
 t3:=Tryz.underlying3
 a3:=Tryz.isAgg3
 z3:=Tryz.sizeOf3
 v3:=Tryz.zeroValue3
 t4:=Tryz.underlying4
 a4:=Tryz.isAgg4
 z4:=Tryz.sizeOf4
 v4:=Tryz.zeroValue4
 t5:=Tryz.underlying5
 a5:=Tryz.isAgg5
 z5:=Tryz.sizeOf5
 v5:=Tryz.zeroValue5
 t9:=Tryz.underlying9
 a9:=Tryz.isAgg9
 z9:=Tryz.sizeOf9
 v9:=Tryz.zeroValue9
 t46:=Tryz.underlying184
 a46:=Tryz.isAgg184
 z46:=Tryz.sizeOf184
 v46:=Tryz.zeroValue184
 t51:=Tryz.underlying201
 a51:=Tryz.isAgg201
 z51:=Tryz.sizeOf201
 v51:=Tryz.zeroValue201
 t146:=Tryz.underlying202
 a146:=Tryz.isAgg202
 z146:=Tryz.sizeOf202
 v146:=Tryz.zeroValue202
 g1:=by kernel_rfl }
end Go.Proofs
namespace Go.Gv
open Go.Proofs Go.RowKit
open Cod (enc dec)
variable {dq:Prop}
def Rw(c:UInt8):∀l:List UInt8, -1<=Lib.indexByte l c
 | []=>qlg _
 | b::l=>by
   have:=Rw c l;rw[Lib.indexByte];split
   ·omega
   ·split <;> omega
theorem Rv(c:Int)(c0:0<=c)(c1:c < 128):∀l:List UInt8,decide (0<=Lib.indexByte l c.toNat.toUInt8)=l.any λx=>decide ((x.toNat:Int)=c)
 | []=>rfl
 | x::l=>by
   have ih:=Rv c c0 c1 l;have e:(x==c.toNat.toUInt8)=decide ((x.toNat:Int)=c):=by
    have h1:c.toNat.toUInt8.toNat=c.toNat:=by
     rw[Nat.toUInt8,qk1];omega
    rw[qkx];simp only[beq_iff_eq,decide_eq_true_eq];constructor
    ·rintro rfl;omega
    ·intro h;exact UInt8.toNat_inj.1 (by omega)
   rw[Lib.indexByte,List.any_cons,e];by_cases h:(x.toNat:Int)=c
   ·simp[h]
   ·simp only[h,decide_false,qkc,if_false,Bool.false_or];rw[<-ih];have hg:=Rw c.toNat.toUInt8 l;by_cases h1:Lib.indexByte l c.toNat.toUInt8= -1
    ·simp[h1]
    ·have h2:¬ (Lib.indexByte l c.toNat.toUInt8== -1)=true:=by simpa using h1
     rw[if_neg h2];rw[qkx];simp only[decide_eq_true_eq];omega
def te:Tri dq Tryz.prog eZ s_crune.pt:=by
 refine na (kT Tryz.func193 (by kernel_rfl) rfl) λtp I w vs x hp hI hl hr=>?_
 obtain⟨s,⟨c⟩⟩:=x;obtain⟨c0,c1⟩:=hp;have hview:(a2 B I32).view (s,⟨c⟩)=[.v (.string s), .v (.int .i32 c)]:=rfl;rw[hview]at hl hr
 match vs,hl with
 | [v0,v1],_=>
   have e0:=xI (hr 0 v0 _ rfl rfl);have e1:=xI (hr 1 v1 _ rfl rfl);subst e0;subst e1;refine(Any.strings_ContainsRune_ascii Tryz.lays151 s c w c0 c1).mono ?_;rintro e w' ⟨rfl,rfl⟩;refine⟨_,UK s c,rfl,rfl,λtp' I'=>?_,Below.refl _ _,qjL _⟩;rw[Rv c c0 c1];exact .bool _
def xK:Tri dq Tryz.prog ck s_decR.pt:=by
 refine na (kT Tryz.func165 (by kernel_rfl) rfl) λtp I w vs s hp hI hl hr=>?_
 obtain⟨c,hc,h128⟩:=hp;have hview:(a1 B).view s=[.v (.string s)]:=rfl;rw[hview]at hl hr
 match vs,hl with
 | [v0],_=>
   have e0:=xI (hr 0 v0 _ rfl rfl);subst e0;refine(Any.utf8_DecodeRuneInString_ascii Tryz.lays197 s c w (by rw[qj6];exact hc) h128).mono ?_;rintro e w' ⟨rfl,rfl⟩;refine⟨_,(⟨c.toNat⟩,1),rfl,λc' hc'=>by rw[hc]at hc';cases hc';rfl,λtp' I'=>?_,Below.refl _ _,qjL _⟩;refine .tup _ _ rfl λk x c hx hc=>?_
   rcases k with _|_|k
   ·cases hx;cases hc;exact .int _ _
   ·cases hx;cases hc;exact .int _ _
   ·simp at hx
def Nl(c:UInt8):∀l:List UInt8, -1<=Lib.indexByte l c
 | []=>qlg _
 | b::l=>by
   have:=Nl c l;rw[Lib.indexByte];split
   ·omega
   ·split <;> omega
def JX:∀l:List UInt8,decide (0<=Lib.indexByte l 124)=l.any λc=>decide (c.toNat=124)
 | []=>rfl
 | x::l=>by
   have ih:=JX l;have e:(x==124)=decide (x.toNat=124):=by
    rw[qkx];simp only[beq_iff_eq,decide_eq_true_eq];exact⟨λh=>by rw[h];rfl,λh=>UInt8.toNat_inj.1 h⟩
   rw[Lib.indexByte,List.any_cons,e];by_cases h:x.toNat=124
   ·simp[h]
   ·simp only[h,decide_false,qkc,if_false,Bool.false_or];rw[<-ih];have hg:=Nl 124 l;by_cases h1:Lib.indexByte l 124= -1
    ·simp[h1]
    ·have h2:¬ (Lib.indexByte l 124== -1)=true:=by simpa using h1
     rw[if_neg h2];rw[qkx];simp only[decide_eq_true_eq];omega
def Lo:Tri dq Tryz.prog nG s_sConB.pt:=by
 refine na (kT Tryz.func75 (by kernel_rfl) rfl) λtp I w vs x hp hI hl hr=>?_
 obtain⟨s,t⟩:=x;obtain⟨ht,_⟩:=hp;have ht:t=⟨#[124]⟩:=ht;subst ht;have hview:(a2 B B).view (s,⟨#[124]⟩)=[.v (.string s), .v (.string ⟨#[124]⟩)]:=rfl;rw[hview]at hl hr
 match vs,hl with
 | [v0,v1],_=>
   have e0:=xI (hr 0 v0 _ rfl rfl);have e1:=xI (hr 1 v1 _ rfl rfl);subst e0;subst e1;refine(Any.strings_Contains_one Tryz.lays144 s 124 w).mono ?_;rintro e w' ⟨rfl,rfl⟩;refine⟨_,Vn s,rfl,rfl,λtp' I'=>?_,Below.refl _ _,qjL _⟩;rw[JX];exact .bool _
end Go.Gv
namespace Go.Gv
open Go.Proofs
def oc:CC:=gq Tryz.f9 [3] {} _
def ny:List ai:=[.tmp 4]
def C3:aq Tryz.prog pK [3] oc ny 20:=fo
def eK:CC:=gq Tryz.f3 [] {} _
def eC:List ai:=[.tmp 4]
def qn:aq Tryz.prog jK [] eK eC 50:=fo
def nZ:CC:=gq Tryz.f7 [2006006] { cu:=[1] } _
def nr:List ai:=[.cell 6 true 7]
def C0:aq Tryz.prog pI [2006006] nZ nr 28:=fo
def mu:CC:=gq Tryz.f26 [2006006,2006006,2083008,2082008] { cu:=[2,4,6,18,21,24] } _
def lW:List ai:=[.cell 6 true 7]
def Bk:aq Tryz.prog gH [2006006,2006006,2083008,2082008] mu lW 110:=fo

open Cod (enc dec)
variable {S S0:Nat->Spc}
abbrev E4:Spc:=aZ (a1 Int) bk (enc (X:=B)) (λ_ y=>y∈Types)
def N8(h1:S ph=s_m_Mod):ax qu qj S (a1 Int) bk (enc (X:=B)) (λ_ y=>y∈Types):=by
 rintro n -;simp[qu,qj,h1];have h3:=C9 n 3 (by omega);refine⟨h3.1,h3.2,?_⟩;have:Ag n 3=0\/Ag n 3=1\/Ag n 3=2:=by omega
 rcases this with h|h|h <;> simp[h,Types,qix,qb4,qiw]
def FM(n:Nat)(x:List Int×Int×List B):Prop:=x.2.1.toNat < n/\ -10<=x.2.1/\x.2.1<=100/\x.2.2.length<=1000
def gD{q:Cond->Prop}{H:aa}{op:Int}{n a v l:B}{f:Bool}{d:D}(ks:List Cond)(hd:FrzTo H d (enc ks))(hq:q ⟨op,n,a,v,l,f,ks⟩):Fin enc q (.agg [.v (.int .i64 op), .v (.string n), .v (.string a), .v (.string v), .v (.string l), .v (.bool f),d]) H:=by
 refine dm (⟨op,n,a,v,l,f,ks⟩:Cond) ?_ hq;rw[R5];refine .agg rfl λk x y hx hy=>?_
 rcases k with _|_|_|_|_|_|_|k
 ·cases hx;cases hy;exact .same _
 ·cases hx;cases hy;exact .same _
 ·cases hx;cases hy;exact .same _
 ·cases hx;cases hy;exact .same _
 ·cases hx;cases hy;exact .same _
 ·cases hx;cases hy;exact .same _
 ·cases hx;cases hy;exact hd
 ·simp at hx
def ZO(a b c d e f g h:B):D.list 1 [.v (.string a), .v (.string b), .v (.string c), .v (.string d), .v (.string e), .v (.string f), .v (.string g), .v (.string h)]= .list 1 (I4 [a,b,c,d,e,f,g,h]):=id rfl
def VG(a b c d:B):D.list 1 [.v (.string a), .v (.string b), .v (.string c), .v (.string d)]= .list 1 (I4 [a,b,c,d]):=id rfl
end Go.Gv
