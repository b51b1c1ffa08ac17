/- I15 -/
import Derived.Shelf.Strings.Runes
import Derived.Shelf.Strings.Search3
import Derived.Shelf.Unicode.Decode
import Derived.Ground.NamesProg
import Derived.Test.YtnffegdacbdhmaaGreatDoorProg
import Derived.Shelf.SlGeneric
import Derived.Shelf.SlLaysF0
import Derived.Shelf.SlMaps.Clone
import Derived.Ground.SlsfProg
import Derived.Ground.SlmcProg
import Derived.Test.YtnffegdacbdhmaaGreatDoorGe11
set_option linter.all false
set_option maxRecDepth 100000
set_option maxHeartbeats 0
open Bool renaming forall_bool → fB', exists_bool → eB'
namespace Go.Proofs
open Go.RowKit Go.Shelf Go.Gv
variable {dq:Prop}
attribute [local go_sem] Oper.semAt_some
def VQ:Value->D->Prop:=λx d=>∃n:Int,x= .int .u8 n/\d= .v (.int .u8 n)
def qcL(l:List Int):List D:=l.map λn=> .v (.int .u8 n)
def qaw:∀l:List Int,bp (qcL l)=qcL l
  | []=>rfl
  | b::l=>by
    have a:=qaw l;simp_all [qcL,bp]
def qej(c:Int)(k:Nat):List Int:=if k=0 then[]else[low c]
def qwC(B Z:Nat)(v:Value):Prop:=∀b,v.ownBlock=some b->B<b/\b≠B+2/\b≠B+3/\(b<Z\/Z+4<=b)
def V0(B k:Nat)(v:Value):Prop:=k=0->v= .slice (some ⟨B+1,0,none⟩) 0 1
structure qww (s:ByteArray) (c:Int):Prop where
  e:s=mz c
def RowB(W:World)(v:Value)(l:List Int):Prop:=ResOk VQ W (.row v tQ 1 (qcL l))
def VQ.R{tp I:Nat->Prop}{w:World}{x:Value}{d:D}(h:VQ x d):R tp I w x d:=by
  obtain⟨n,rfl,rfl⟩:=h;exact .int _ _
def RowB.keep{W W':World}{v:Value}{l:List Int}(h:RowB W v l)(hb:∀b,v.ownBlock=some b->W'.heap[b]? =W.heap[b]?):RowB W' v l:=h.conv (λ_ _ h=>h) hb
def RowB.res{tp I:Nat->Prop}{W:World}{v:Value}{l:List Int}(h:RowB W v l):ResOk (R tp I W) W (.row v tQ 1 (qcL l)):=h.conv (λ_ _ h=>h.R) (λ_ _=>rfl)
def qiY{tp I:Nat->Prop}{W:World}{v:Value}{l:List Int}(h:ResOk (R tp I W) W (.row v tQ 1 (qcL l))):RowB W v l:=by
  obtain⟨xs,h1,h2,h3⟩:=h;refine⟨xs,h1,h2,λk y c d hc=>⟨(h3 k y c d hc).1,?_⟩⟩;have b:=qaw l;have a:=hc;rw[b]at a;unfold qcL at a;rw[List.getElem?_map]at a;obtain⟨n,_,rfl⟩:=Option.map_eq_some_iff.1 a;exact⟨n,(h3 k y _ d hc).2.inv_v,rfl⟩
def RowB.blk{W:World}{v:Value}{l:List Int}(h:RowB W v l){b:Nat}(hb:v.ownBlock=some b):∃xs el,W.heap[b]? =some (.cells xs el (0,0)):=by
  obtain⟨xs,h1,_⟩:=h;rcases h1.2 with⟨rfl,_⟩|⟨g,cap,cur,rfl,_,a,_⟩
  · cases hb
  · cases hb;grind
def RowB.one{W:World}{v:Value}{l:List Int}(h:RowB W v l):v.oneCell'=true:=by
  obtain⟨xs,h1,_⟩:=h;rcases h1.2 with⟨rfl,_⟩|⟨g,cap,cur,rfl,_⟩ <;>rfl
def X8{c:Int}(h0:0<=c)(h1:c< 128):Kl (mz c)=qcL [c]:=by
  have e:(c.toNat.toUInt8).toNat=c.toNat % 256:=UInt8.toNat_ofNat' ..;have a:((c.toNat.toUInt8).toNat:Int)=c:=by omega
  show[D.v (.int .u8 ((c.toNat.toUInt8).toNat:Int))]=[D.v (.int .u8 c)]
  rw[a]
def Lk:CC:= .seq (.reg [oC 34 1 3,oB 35 (.bstr (oT 34)),oA 2 35]) .ret
set_option maxRecDepth 100000 in
set_option maxHeartbeats 4000000 in
theorem Tryz.Fold_in{S:Nat->Spc}(hS:∀f,Tri True Tryz.prog f (S f).pt)(hlo:S fq=Ns)(F:Fence)(hF:qEW F)(n:Nat)(h105:F.fn 293)(h95:F.fn 280)(h128:F.fn 303)(hro:F.round=none)(hn:10<=n)(c:Int)(c0:0<=c)(c1:c< 128)(w:World):
    CallsIn F n Tryz.prog 293 #[.string (mz c)] w λe W'=>e= .returned (.string (mz (low c)))/\GrL w.heap.size w W':=by
  have h1:1<=n:=by omega
  refine callsIn_of_wp_marks Tryz.func293 rfl h105 ?_ hro;simp only[Tryz.ntmps293,List.size_toArray,List.length_cons,List.length_nil,Nat.reduceAdd,Nat.reduceSub,Array.replicate_succ,Array.replicate_zero,List.push_toArray,List.append_toArray,List.nil_append,List.cons_append];obtain⟨s,hs0⟩:∃s:ByteArray,s=mz c:=⟨_,rfl⟩
  have hs:qww s c:=⟨hs0⟩
  have hsz:s.size=1:=by rw[hs0];rfl
  have hmk:∀w,(Instr.makeSlice 329 (.int .i64 0) (.int .i64 1)).run Tryz.prog w= .ok (.slice (some ⟨w.heap.size,0,none⟩) 0 1) (w.alloc (.cells #[.int .u8 0] 5)):=λ_=>by kernel_rfl
  have hsl:(s.size:Int)=1:=by omega
  rw[<-hs0];clear hs0
  gi_wp2_with (gi_at_call 280;refine(Tryz.units_in F (n -1) h95 hro _ _).mono ?_;rintro e w' ⟨rfl,rfl⟩)
  obtain⟨B,hB⟩:∃B,B=w.heap.size:=⟨_,rfl⟩
  obtain⟨W0,hW0⟩:∃W0,(((w.alloc (.cells #[.string s] 9)).alloc (.cells #[.int .u8 0] 5)).alloc (.cells #[.slice (some ⟨w.heap.size+1,0,none⟩) 0 1] 329)).alloc (.cells #[.string s] aw)=W0:=⟨_,rfl⟩
  rw[hW0];have hsz0:W0.heap.size=w.heap.size+4:=by rw[<-hW0];simp
  have g0:GrL w.heap.size w W0:=by
    rw[<-hW0];exact(((GrL.alloc w (Nat.le_refl _) _).trans (GrL.alloc _ (by simp) _)).trans (GrL.alloc _ (by simp;omega) _)).trans (GrL.alloc _ (by simp;omega) _)
  have B0:∀W:World,∀o:Obj,(W.alloc o).heap[W.heap.size]? =some o:=λW o=>World.alloc_heap_new W o
  have b3:W0.heap[w.heap.size+3]? =some (.cells #[.string s] aw (0,0)):=by
    grind
  have b0:W0.heap[w.heap.size]? =some (.cells #[.string s] 9 (0,0)):=by
    grind [Tri,Spc,Below.heap_alloc]
  have b1:W0.heap[w.heap.size+1]? =some (.cells #[.int .u8 0] 5 (0,0)):=by
    rw[<-hW0];have h:=B0 (w.alloc (.cells #[.string s] 9)) (.cells #[.int .u8 0] 5);rw[show(w.alloc (.cells #[.string s] 9)).heap.size=w.heap.size+1 by simp]at h;exact(Below.heap_alloc _ _ _ (by first|(simp;done)|(simp;omega))).trans ((Below.heap_alloc _ _ _ (by first|(simp;done)|(simp;omega))).trans h)
  have b2:W0.heap[w.heap.size+2]? =some (.cells #[.slice (some ⟨w.heap.size+1,0,none⟩) 0 1] 329 (0,0)):=by
    rw[<-hW0];have h:=B0 ((w.alloc (.cells #[.string s] 9)).alloc (.cells #[.int .u8 0] 5)) (.cells #[.slice (some ⟨w.heap.size+1,0,none⟩) 0 1] 329);rw[show((w.alloc (.cells #[.string s] 9)).alloc (.cells #[.int .u8 0] 5)).heap.size=w.heap.size+2 by simp]at h;exact(Below.heap_alloc _ _ _ (by first|(simp;done)|(simp;omega))).trans h
  clear hW0 B0;have ha:∀(k:Nat) (h:k<s.size),(s[k]'h).toNat< 128:=λk h=>by
    have hk0:k=0:=by omega
    subst hk0;obtain⟨rfl⟩:=hs;show(c.toNat.toUInt8).toNat< 128;have e:(c.toNat.toUInt8).toNat=c.toNat % 256:=UInt8.toNat_ofNat' ..;omega
  have hcA:R6 s 0=c:=by
    obtain⟨rfl⟩:=hs;show((c.toNat.toUInt8).toNat:Int)=c;have e:(c.toNat.toUInt8).toNat=c.toNat % 256:=UInt8.toNat_ofNat' ..;omega
  have hrow0:RowB W0 (.slice (some ⟨w.heap.size+1,0,none⟩) 0 1) []:=⟨[],⟨rfl, .inr ⟨w.heap.size+1,1, #[.int .u8 0],rfl,Nat.zero_le _,b1,Nat.zero_le _,by decide,rfl,rfl⟩⟩,by simp[qcL],λk y c hy=>by simp at hy⟩
  have hfar0:qwC w.heap.size W0.heap.size (.slice (some ⟨w.heap.size+1,0,none⟩) 0 1):=λb hb=>by
    have hbe:b=w.heap.size+1:=by cases hb;rfl
    omega
  have hcs:W0.cell? ⟨w.heap.size+3,0,none⟩=some (.string s):=bY b3 rfl;refine Va hro h1 (gf:=303) (lb:= #[.pointer (some ⟨w.heap.size+3,0,none⟩)]) rfl h128 (enters_of Tryz.func303 (by kernel_rfl) rfl)
    (Tryz.units1_it F (n -1) h128 hro (by omega) s (by omega) ha (λk=>k=w.heap.size+3) (w.heap.size+3) rfl W0 (λ_ h=>by omega) hcs) (λ_ h=>by omega) (λ_=>rfl)
    (λk W=>GrL w.heap.size w W/\Bx W w.heap.size #[.string s]/\∃v,Bx W (w.heap.size+2) #[v]/\RowB W v (qej c k)/\qwC w.heap.size W0.heap.size v/\V0 w.heap.size k v)
    (λ_ _=>False)
    (λk A C hs hg0=>by
      have hg:=hg0.toL;obtain⟨i1,i2,v,i3,i4,i5,i6⟩:=hs;exact⟨i1.trans (hg.mono (by omega)),i2.keep (hg.low _ (by omega)),v,i3.keep (hg.low _ (by omega)),i4.keep (λb hb=>by
        obtain⟨xs,el,hx⟩:=i4.blk hb;exact(hg0.get hx (i5 b hb).2.2.2).trans hx.symm),i5,i6⟩)
    (λ_ _ _ hs _=>hs)
    ⟨g0, .of b0,_, .of b2,hrow0,hfar0,λ_=>rfl⟩
    (λk a' W=>∃Br,W0.heap.size+4<=Br/\W.heap[Br]? =some (.cells #[.int .i32 (R6 s k), .int .i64 (k:Int), .int .i64 1] 307 (0,0))/\(∀v,W.cell? ⟨w.heap.size+2,0,none⟩=some v->v.ownBlock≠some Br)/\
      a'={ tmps:= #[.string s, .pointer (some ⟨w.heap.size,0,none⟩), .string { data:= #[] }, .pointer (some ⟨w.heap.size+1+1,0,none⟩), .pointer (some ⟨Br,0,none⟩),undef, .string s, .int .i64 1, .slice (some ⟨w.heap.size+1,0,none⟩) 0 1, .string s, .func (.func 303) #[] #[.pointer (some ⟨w.heap.size+1+1+1,0,none⟩)], .agg #[.int .i32 (R6 s k), .int .i64 (k:Int), .int .i64 1],undef,undef,undef,undef,undef,undef,undef,undef,undef,undef,undef,undef,undef,undef,undef,undef,undef,undef,undef,undef,undef,undef,undef,undef],defers:=[] })
    (λa' k W o hlt hs=>by
      obtain⟨Br,q1,q2,q3,q4⟩:=hs;refine⟨Br,q1,(World.putObj_heap_other (by omega)).trans q2,λv hv=>q3 v ?_,q4⟩;rw[World.cell?_of_block (World.putObj_heap_other (by show w.heap.size+2≠W0.heap.size+1;omega))]at hv;exact hv)
    ?assign ?body ?done ?stop
  case assign=>
    rintro l k W hsz2 hl ⟨i1,i2,v,i3,i4,i5,i6⟩ hk;rw[UG];generalize R6 s k=c
    gi_wp2
    refine⟨(KeepsOthers.alloc _ _).from _,KBt.alloc _ _ _ _,⟨i1.trans (GrL.alloc W i1.size _),i2.keep (Below.heap_alloc _ _ _ (by omega)),v,i3.keep (Below.heap_alloc _ _ _ (by omega)),i4.keep (λb hb=>by
      obtain⟨xs,el,hx⟩:=i4.blk hb;exact Below.heap_alloc _ _ _ (Array.getElem?_eq_some_iff.1 hx).1),i5,i6⟩,W.heap.size,by omega,World.alloc_heap_new W _,λv' hv' hb=>?_,rfl⟩
    have hcv:=(i3.keep (Below.heap_alloc W (.cells #[.int .i32 c, .int .i64 (k:Int), .int .i64 1] 307) _ (by omega))).cell (k:=0) rfl;rw[hcv]at hv';cases hv';obtain⟨xs,el,hx⟩:=i4.blk hb;have:=(Array.getElem?_eq_some_iff.1 hx).1;omega
  case body=>
    rintro l k a' W hsz2 hl ⟨i1,i2,v,i3,i4,i5,i6⟩ ⟨Br,hBr,bR,hnb,rfl⟩ hk;obtain⟨rfl⟩:=hF;obtain rfl:k=0:=by omega
    rw[hcA]at bR;have hnb:=hnb v (i3.cell rfl);rw[<-hB]at i1 i2 i3 i5 i6 hsz0;have hz0:=i1.size;obtain⟨H,hH⟩:∃H,H=gS [(3,Res.box (B+2) [.own 33 v]),(33, .row v tQ 1 (qcL (qej c 0)))] bS:=⟨_,rfl⟩
    have hown:∀b,bA H b->B<=b/\ ¬b=B+3/\ ¬b=B/\b≠Br:=by
      rintro b ⟨j,r,hj,hb⟩;rw[hH]at hj;have hj:=eh hj;simp only[List.mem_cons,Prod.mk.injEq,List.not_mem_nil,or_false]at hj;rcases hj with⟨rfl,rfl⟩|⟨rfl,rfl⟩
      · simp only[Res.blk,Option.some.injEq]at hb;omega
      · have hb:v.ownBlock=some b:=hb
        have:=i5 b hb;exact⟨by omega,by omega,by omega,λe=>hnb (e ▸hb)⟩
    have hst:St (M7 W H 36 []) (dR [.any, .cptr [.v (.string s)] 0, .any, .bptr 3 (B+2) 0, .cptr [.v (.int .i32 c), .v (.int .i64 ((0:Nat):Int)), .v (.int .i64 1)] 0]) H { tmps:= #[.string s, .pointer (some ⟨w.heap.size,0,none⟩), .string { data:= #[] }, .pointer (some ⟨w.heap.size+1+1,0,none⟩), .pointer (some ⟨Br,0,none⟩),undef, .string s, .int .i64 1, .slice (some ⟨w.heap.size+1,0,none⟩) 0 1, .string s, .func (.func 303) #[] #[.pointer (some ⟨w.heap.size+1+1+1,0,none⟩)], .agg #[.int .i32 (R6 s 0), .int .i64 ((0:Nat):Int), .int .i64 1],undef,undef,undef,undef,undef,undef,undef,undef,undef,undef,undef,undef,undef,undef,undef,undef,undef,undef,undef,undef,undef,undef,undef,undef],defers:=[] } W:=by
      refine qAh rfl ?_ ?_ ?_
      · intro i j r1 r2 b hi hj e1 e2
        rw[hH]at hi hj;have hi:=eh hi;have hj:=eh hj;simp only[List.mem_cons,Prod.mk.injEq,List.not_mem_nil,or_false]at hi hj;rcases hi with⟨rfl,rfl⟩|⟨rfl,rfl⟩ <;>rcases hj with⟨rfl,rfl⟩|⟨rfl,rfl⟩
        · rfl
        · cases e1
          exact absurd rfl (i5 _ e2).2.1
        · cases e2
          exact absurd rfl (i5 _ e1).2.1
        · rfl
      · intro j r hj
        rw[hH]at hj;have hj:=eh hj;simp only[List.mem_cons,Prod.mk.injEq,List.not_mem_nil,or_false]at hj;rcases hj with⟨rfl,rfl⟩|⟨rfl,rfl⟩
        · obtain⟨el,h3⟩:=i3
          refine⟨#[v],el,h3,rfl,λk y d hy hd=>?_⟩;rcases k with _|k
          · cases hy;cases hd
            exact⟨i4.one, .own 33 v i4.one⟩
          · cases hd
        · exact i4.res
      · intro t
        rw[<-hB];rcases t with _|_|_|_|_|t
        · exact .any _
        · exact Bx.cptr [.string s] i2 ⟨i2.lt,λh=>h,λh=>h,λh=>(hown B h).2.2.1 rfl⟩ (λx hx=>by rw[List.mem_singleton.1 hx];exact⟨rfl, .str s (by rw[hsz];decide)⟩)
        · exact .any _
        · exact .bptr 3 (B+2) 0
        · have hbx:Bx W Br #[.int .i32 c, .int .i64 ((0:Nat):Int), .int .i64 1]:= .of bR
          exact Bx.cptr [.int .i32 c, .int .i64 ((0:Nat):Int), .int .i64 1] hbx ⟨hbx.lt,λh=>h,λh=>h,λh=>(hown Br h).2.2.2 rfl⟩ (λx hx=>by
            simp only[List.mem_cons,List.not_mem_nil,or_false]at hx;rcases hx with rfl|rfl|rfl<;>exact⟨rfl, .int _ _⟩)
        · exact .any _
    have hv:vc S iu (λe _ H'=>match e with
        | .norm=>∃v',H' 3=some (.box (B+2) [.own 33 v'])/\H' 33=some (.row v' tQ 1 (qcL [low c]))
        | _=>False) (dR [.any, .cptr [.v (.string s)] 0, .any, .bptr 3 (B+2) 0, .cptr [.v (.int .i32 c), .v (.int .i64 ((0:Nat):Int)), .v (.int .i64 1)] 0]) H:=by
      rw[hH];have hd1:Kl (mz c)=qcL [c]:=X8 c0 c1;by_cases hlc:low c=c
      · simp[iu,hlo,c0,c1,hlc,qej,hsz,-fB',-eB']
        have hex:s.extract 0 1=mz c:=by
          obtain⟨rfl⟩:=hs;rfl
        rw[hex,hd1];exact⟨by simp only[InR];omega,Nat.le_of_ble_eq_true rfl,rfl⟩
      · simp[iu,hlo,c0,c1,hlc,qej,hsz,-fB',-eB']
        obtain⟨l0,l1⟩:=VI c0 c1;rw[Wj l0 l1,X8 l0 l1];exact⟨Nat.le_of_ble_eq_true rfl,rfl⟩
    refine wpIn_mono (XC (im:=[2003003]) hS mixed (cc:=iu) (by kernel_rfl) hst hv) ?_;rintro e a2 W2 he;cases e with
    | normal=>
      obtain⟨σ2,H2,hst2,v',e3,e33⟩:=he;have hs2:=Nl hst2;have hg:=hs2.grL (B:=B) (λb hb=>(hown b hb).1) (by omega);have hownW:∀b,bA H b->b<W.heap.size:=by
        rintro b ⟨j,r,hj,hb⟩;obtain⟨_,_,tp,hw,_⟩:=hst;exact(hw.sat.ok j r hj).lt hb
      refine⟨⟨hs2.size,λk o hk hko hc=>?_⟩,⟨hs2.size,λk hk hs=>?_⟩,?_⟩
      · by_cases ho:bA H k
        · obtain⟨_,_,tp,hw,_⟩:=hst
          obtain⟨j,r,hj,hb⟩:=ho;have hok:=hw.sat.ok j r hj;rw[hH]at hj;have hj:=eh hj;simp only[List.mem_cons,Prod.mk.injEq,List.not_mem_nil,or_false]at hj;rcases hj with⟨rfl,rfl⟩|⟨rfl,rfl⟩
          · cases hb
            obtain⟨el,h3⟩:=i3;rw[h3]at hko;cases hko;cases hc
          · obtain⟨xs,el,hx⟩:=i4.blk hb
            rw[hx]at hko;cases hko;cases hc
        · exact(hs2.same k (Array.getElem?_eq_some_iff.1 hko).1 ho (λh=>h)).trans hko
      · refine hs2.same k hk (λho=>?_) (λh=>h)
        obtain⟨j,r,hj,hb⟩:=ho;rw[hH]at hj;have hj:=eh hj;simp only[List.mem_cons,Prod.mk.injEq,List.not_mem_nil,or_false]at hj;rcases hj with⟨rfl,rfl⟩|⟨rfl,rfl⟩
        · cases hb;omega
        · have hv0:=i6 rfl
          subst hv0;have hkb:k=B+1:=(Option.some.inj hb).symm;rcases hs with hs|hs<;>omega
      · rw[<-hB]
        refine⟨i1.trans hg,i2.keep (hs2.same B i2.lt (λho=>(hown B ho).2.2.1 rfl) (λh=>h)),v',qqN hst2 e3,?_,λb hb=>?_,λh=>by omega⟩
        · obtain⟨tp,I,hok⟩:=qhV hst2 e33
          exact qiY hok
        · have hne:b≠B+2:=λe=>by
            subst e;have:=qqP hst2 e3 e33 rfl hb;omega
          rcases qqO hst2 ⟨33,_,e33,hb⟩with ho|ho
          · obtain⟨j,r,hj,hb2⟩:=ho
            rw[hH]at hj;have hj:=eh hj;simp only[List.mem_cons,Prod.mk.injEq,List.not_mem_nil,or_false]at hj;rcases hj with⟨rfl,rfl⟩|⟨rfl,rfl⟩
            · cases hb2;exact absurd rfl hne
            · exact i5 b hb2
          · omega
    |ret=>obtain⟨_,_,_,h⟩:=he;exact h.elim
    |exit id=>obtain⟨_,_,_,h⟩:=he;exact h.elim
    |goto t=>exact he.elim
    |panic ch=>exact he.elim
    |outgrown=>exact he.elim
  case done=>
    rintro D W hD ⟨i1,i2,v,i3,i4,i5,i6⟩ hK;rename_i Qd Kd hKd;refine hKd _ _ ?_;obtain⟨rfl⟩:=hF;refine wpIn_wide.2 ?_;rw[show s.size=1 from hsz]at i4;rw[<-hB]at i1 i2 i3 i5 hsz0;have hz0:=i1.size;obtain⟨H,hH⟩:∃H,H=gS [(3,Res.box (B+2) [.own 33 v]),(33, .row v tQ 1 (qcL [low c]))] bS:=⟨_,rfl⟩
    have hown:∀b,bA H b->B<=b/\b≠D:=by
      rintro b ⟨j,r,hj,hb⟩;rw[hH]at hj;have hj:=eh hj;simp only[List.mem_cons,Prod.mk.injEq,List.not_mem_nil,or_false]at hj;rcases hj with⟨rfl,rfl⟩|⟨rfl,rfl⟩
      · simp only[Res.blk,Option.some.injEq]at hb;omega
      · have hb:v.ownBlock=some b:=hb
        have:=i5 b hb;refine⟨by omega,λe=>?_⟩;obtain⟨xs,el,hx⟩:=i4.blk hb;rw[e,hK]at hx;cases hx
    have hst:∀ (tmps:Array Value) (ds:List Deferred),tmps.getD 3 undef= .pointer (some ⟨B+2,0,none⟩)->St (M7 W H tmps.size ds) (dR [.any, .any, .any, .bptr 3 (B+2) 0]) H { tmps:=tmps,defers:=ds } W:=by
      intro tmps ds ht;refine qAh rfl ?_ ?_ ?_
      · intro i j r1 r2 b hi hj e1 e2
        rw[hH]at hi hj;have hi:=eh hi;have hj:=eh hj;simp only[List.mem_cons,Prod.mk.injEq,List.not_mem_nil,or_false]at hi hj;rcases hi with⟨rfl,rfl⟩|⟨rfl,rfl⟩ <;>rcases hj with⟨rfl,rfl⟩|⟨rfl,rfl⟩
        · rfl
        · cases e1
          exact absurd rfl (i5 _ e2).2.1
        · cases e2
          exact absurd rfl (i5 _ e1).2.1
        · rfl
      · intro j r hj
        rw[hH]at hj;have hj:=eh hj;simp only[List.mem_cons,Prod.mk.injEq,List.not_mem_nil,or_false]at hj;rcases hj with⟨rfl,rfl⟩|⟨rfl,rfl⟩
        · obtain⟨el,h3⟩:=i3
          refine⟨#[v],el,h3,rfl,λk y d hy hd=>?_⟩;rcases k with _|k
          · cases hy;cases hd
            exact⟨i4.one, .own 33 v i4.one⟩
          · cases hd
        · exact i4.res
      · intro t
        rcases t with _|_|_|_|t
        · exact .any _
        · exact .any _
        · exact .any _
        · show R _ _ _ (tmps.getD 3 undef) _
          rw[ht];exact .bptr 3 (B+2) 0
        · exact .any _
    have hbs:qst (qcL [low c])=mz (low c):=rfl;have hbl:qpS (qcL [low c])=true:=rfl;have hv:vc S Lk (λe σ' _=>match e with
        | .ret=>σ' 2= .v (.string (mz (low c)))
        | _=>False) (dR [.any, .any, .any, .bptr 3 (B+2) 0]) H:=by
      rw[hH];simp[Lk,-fB',-eB'];exact⟨hbl,hbs⟩
    refine Code.wp_mono ?_ (Ae (im:=[]) hS mixed Lk _ (by kernel_rfl) _ _ _ _ _ (hst _ _ (by rw[hB];rfl)) hv);rintro e a2 W2 he;cases e with
    | ret=>
      obtain⟨σ2,H2,hst2,e2⟩:=he;have hs2:=Nl hst2;have hg:=hs2.grL (B:=B) (λb hb=>(hown b hb).1) (by omega);have hv2:=qqM hst2 e2;have hK2:W2.heap[D]? =some (.deferred (some [])):=(hs2.same D (Array.getElem?_eq_some_iff.1 hK).1 (λho=>(hown D ho).2 rfl) (λh=>h)).trans hK;have hds:=(quj hst2).1;have hg2:=i1.trans hg;clear hst2 hs2;obtain⟨tmps2,ds2⟩:=a2;simp only at hds hv2;subst hds;refine⟨by simp, .inl ⟨_,_,rfl,run_takeDeferred hK2,?_⟩⟩;have hres:(results Tryz.f293 tmps2).run Tryz.prog (W2.putObj D (.deferred none))= .ok (.string (mz (low c))) (W2.putObj D (.deferred none)):=by
        simp[results,Tryz.f293,go_sem];simpa using hv2
      rw[hB]at hg2;exact⟨_,hres,rfl,hg2.trans (GrL.put _ (by omega) _)⟩
    |normal=>obtain⟨_,_,_,h⟩:=he;exact h.elim
    |exit id=>obtain⟨_,_,_,h⟩:=he;exact h.elim
    |goto t=>exact he.elim
    |panic ch=>exact he.elim
    |outgrown=>exact he.elim
  simp
end Go.Proofs
namespace Go.Gv
open Go.Proofs Go.RowKit
open Cod (enc dec)
def qft{dq:Prop}{S:Nat->Spc}(l:∀f,Tri True Tryz.prog f (S f).pt)(b:S fq=Ns):Tri dq Tryz.prog sW s_cpFold1.pt:=by
  refine vS (fu Tryz.func293 (by rfl) rfl) λtp I w vs s hp hI hl h=>?_
  obtain⟨c,j,c1,rfl⟩:=hp;have a:(a1 B).view (mz c)=[.v (.string (mz c))]:=rfl;rw[a]at hl h
  match vs,hl with
  | [p],_=>
    have q:=HR (h 0 p _ rfl rfl);subst q;refine(callsIn_wide (n:=10)).1 ((Tryz.Fold_in l b Fence.wide ⟨rfl⟩ 10 trivial trivial trivial rfl (by omega) c j c1 w).mono ?_);rintro e w' ⟨rfl,k⟩;obtain⟨t,u⟩:=VI j c1;exact⟨_,mz (low c),rfl,λd x y e=>by grind [qdT],λr A=> .str _ (Nat.le_of_ble_eq_true rfl),k.below,k.drawn⟩
end Go.Gv
namespace Go.Proofs
open Go.Shelf
def Tryz.lays197_ren:Go.Shelf.Ren:=⟨λ|197=>306|260=>316|n=>n,λ|9=>9|21=>21|3=>3|4=>4|5=>5|105=>333|119=>357|0=>0|46=>141|139=>360|138=>359|n=>n,λ|3=>1|4=>2|n=>n⟩
theorem Tryz.lays197:Go.Proofs.Lays.n197 Tryz.prog Tryz.lays197_ren:={
 mixed:=by kernel_rfl
 a:=Tryz.func306.trans (congrArg some (by kernel_rfl))
 b:=Tryz.func316.trans (congrArg some (by kernel_rfl))
 t0:=Tryz.underlying0
 a0:=Tryz.isAgg0
 M:=Tryz.sizeOf0
 N:=Tryz.zeroValue0
 O:=Tryz.underlying3
 a3:=Tryz.isAgg3
 Q:=Tryz.sizeOf3
 S:=Tryz.zeroValue3
 U:=Tryz.underlying4
 a4:=Tryz.isAgg4
 W:=Tryz.sizeOf4
 Y:=Tryz.zeroValue4
 Z:=Tryz.underlying5
 a5:=Tryz.isAgg5
 z5:=Tryz.sizeOf5
 v5:=Tryz.zeroValue5
 t9:=Tryz.underlying9
 a9:=Tryz.isAgg9
 z9:=Tryz.sizeOf9
 v9:=Tryz.zeroValue9
 A:=Tryz.underlying21
 C:=Tryz.isAgg21
 E:=Tryz.sizeOf21
 F:=Tryz.zeroValue21
 I:=Tryz.underlying141
 J:=Tryz.isAgg141
 K:=Tryz.sizeOf141
 L:=Tryz.zeroValue141
 c:=Tryz.underlying333
 d:=Tryz.isAgg333
 h:=Tryz.sizeOf333
 j:=Tryz.zeroValue333
 k:=Tryz.underlying357
 l:=Tryz.isAgg357
 p:=Tryz.sizeOf357
 q:=Tryz.underlying359
 r:=Tryz.isAgg359
 s:=Tryz.sizeOf359
 t:=Tryz.zeroValue359
 u:=Tryz.underlying360
 w:=Tryz.isAgg360
 x:=Tryz.sizeOf360
 y:=Tryz.zeroValue360
 g3:=by kernel_rfl
 g4:=by kernel_rfl }
def Tryz.lays151_ren:Go.Shelf.Ren:=⟨λ|151=>324|152=>332|137=>338|119=>339|224=>301|225=>300|217=>299|266=>312|n=>n,λ|9=>9|21=>21|4=>4|3=>3|5=>5|0=>0|46=>141|n=>n,λ|n=>n⟩
theorem Tryz.lays151:Go.Proofs.Lays.n151 Tryz.prog Tryz.lays151_ren:={
 mixed:=by kernel_rfl
 a:=Tryz.func339.trans (congrArg some (by kernel_rfl))
 b:=Tryz.func338.trans (congrArg some (by kernel_rfl))
 c:=Tryz.func324.trans (congrArg some (by kernel_rfl))
 d:=Tryz.func332.trans (congrArg some (by kernel_rfl))
 h:=Tryz.func299.trans (congrArg some (by kernel_rfl))
 j:=Tryz.func301.trans (congrArg some (by kernel_rfl))
 k:=Tryz.func300.trans (congrArg some (by kernel_rfl))
 l:=Tryz.func312.trans (congrArg some (by kernel_rfl))
 t0:=Tryz.underlying0
 a0:=Tryz.isAgg0
 y:=Tryz.sizeOf0
 A:=Tryz.zeroValue0
 C:=Tryz.underlying3
 a3:=Tryz.isAgg3
 E:=Tryz.sizeOf3
 F:=Tryz.zeroValue3
 I:=Tryz.underlying4
 a4:=Tryz.isAgg4
 J:=Tryz.sizeOf4
 K:=Tryz.zeroValue4
 L:=Tryz.underlying5
 M:=Tryz.isAgg5
 N:=Tryz.sizeOf5
 O:=Tryz.zeroValue5
 Q:=Tryz.underlying9
 S:=Tryz.isAgg9
 U:=Tryz.sizeOf9
 W:=Tryz.zeroValue9
 p:=Tryz.underlying21
 q:=Tryz.isAgg21
 r:=Tryz.sizeOf21
 s:=Tryz.zeroValue21
 t:=Tryz.underlying141
 u:=Tryz.isAgg141
 w:=Tryz.sizeOf141
 x:=Tryz.zeroValue141 }
def Tryz.lays144_ren:Go.Shelf.Ren:=⟨λ|144=>182|143=>238|219=>279|217=>299|225=>300|224=>301|267=>302|266=>312|314=>313|n=>n,λ|9=>9|4=>4|3=>3|5=>5|46=>141|146=>345|51=>256|n=>n,λ|1=>0|n=>n⟩
theorem Tryz.lays144:Go.Proofs.Lays.n144 Tryz.prog Tryz.lays144_ren:={
 mixed:=by kernel_rfl
 a:=Tryz.func238.trans (congrArg some (by kernel_rfl))
 b:=Tryz.func182.trans (congrArg some (by kernel_rfl))
 c:=Tryz.func299.trans (congrArg some (by kernel_rfl))
 d:=Tryz.func279.trans (congrArg some (by kernel_rfl))
 h:=Tryz.func301.trans (congrArg some (by kernel_rfl))
 j:=Tryz.func300.trans (congrArg some (by kernel_rfl))
 k:=Tryz.func312.trans (congrArg some (by kernel_rfl))
 l:=Tryz.func302.trans (congrArg some (by kernel_rfl))
 p:=Tryz.func313.trans (congrArg some (by kernel_rfl))
 I:=Tryz.underlying3
 a3:=Tryz.isAgg3
 J:=Tryz.sizeOf3
 K:=Tryz.zeroValue3
 L:=Tryz.underlying4
 a4:=Tryz.isAgg4
 M:=Tryz.sizeOf4
 N:=Tryz.zeroValue4
 O:=Tryz.underlying5
 Q:=Tryz.isAgg5
 S:=Tryz.sizeOf5
 U:=Tryz.zeroValue5
 W:=Tryz.underlying9
 Y:=Tryz.isAgg9
 Z:=Tryz.sizeOf9
 v9:=Tryz.zeroValue9
 u:=Tryz.underlying141
 w:=Tryz.isAgg141
 x:=Tryz.sizeOf141
 y:=Tryz.zeroValue141
 A:=Tryz.underlying256
 C:=Tryz.isAgg256
 E:=Tryz.sizeOf256
 F:=Tryz.zeroValue256
 q:=Tryz.underlying345
 r:=Tryz.isAgg345
 s:=Tryz.sizeOf345
 t:=Tryz.zeroValue345
 g1:=by kernel_rfl }
end Go.Proofs
namespace Go.Gv
section
open Go.Proofs Go.RowKit
open Cod (enc dec)
variable {dq:Prop}
def qj3(c:UInt8):∀l:List UInt8, -1<=Lib.indexByte l c
 | []=>qGD _
 | b::l=>by
   have:=qj3 c l;rw[Lib.indexByte];split
   ·omega
   ·split<;>omega
theorem qj2(c:Int)(a:0<=c)(c1:c< 128):∀l:List UInt8,decide (0<=Lib.indexByte l c.toNat.toUInt8)=l.any λx=>decide ((x.toNat:Int)=c)
 | []=>rfl
 | x::l=>by
   have b:=qj2 c a c1 l;have e:(x==c.toNat.toUInt8)=decide ((x.toNat:Int)=c):=by
    have h1:c.toNat.toUInt8.toNat=c.toNat:=by
     rw[Nat.toUInt8,qHh];omega
    rw[qGb];simp only[beq_iff_eq,decide_eq_true_eq];constructor
    ·rintro rfl;omega
    ·intro h;exact UInt8.toNat_inj.1 (by omega)
   rw[Lib.indexByte,List.any_cons,e];by_cases h:(x.toNat:Int)=c
   ·simp[h]
   ·simp only[h,decide_false,qGt,if_false,Bool.false_or];rw[<-b];have d:=qj3 c.toNat.toUInt8 l;by_cases h1:Lib.indexByte l c.toNat.toUInt8= -1
    ·simp[h1]
    ·have h2:¬(Lib.indexByte l c.toNat.toUInt8== -1)=true:=by simpa using h1
     rw[if_neg h2];rw[qGb];simp only[decide_eq_true_eq];omega
def Dn:Tri dq Tryz.prog jm s_crune.pt:=by
 refine vS (fu Tryz.func324 (by kernel_rfl) rfl) λtp I w vs x hp hI hl b=>?_
 obtain⟨s,⟨c⟩⟩:=x;obtain⟨d,c1⟩:=hp;have a:(a2 B I32).view (s,⟨c⟩)=[.v (.string s), .v (.int .i32 c)]:=rfl;rw[a]at hl b
 match vs,hl with
 | [h,v1],_=>
   have j:=HR (b 0 h _ rfl rfl);have k:=HR (b 1 v1 _ rfl rfl);subst j;subst k;refine(Any.strings_ContainsRune_ascii Tryz.lays151 s c w d c1).mono ?_;rintro e w' ⟨rfl,rfl⟩;refine⟨_,qob s c,rfl,rfl,λl p=>?_,Below.refl _ _,qFH _⟩;rw[qj2 c d c1];exact .bool _
def H5:Tri dq Tryz.prog dE s_decR.pt:=by
 refine vS (fu Tryz.func306 (by kernel_rfl) rfl) λtp I w vs s hp hI hl j=>?_
 obtain⟨c,hc,b⟩:=hp;have a:(a1 B).view s=[.v (.string s)]:=rfl;rw[a]at hl j
 match vs,hl with
 | [l],_=>
   have p:=HR (j 0 l _ rfl rfl);subst p;refine(Any.utf8_DecodeRuneInString_ascii Tryz.lays197 s c w (by rw[qFZ];exact hc) b).mono ?_;rintro e w' ⟨rfl,rfl⟩;refine⟨_,(⟨c.toNat⟩,1),rfl,λc' d=>by rw[hc]at d;cases d;rfl,λq r=>?_,Below.refl _ _,qFH _⟩;refine .tup _ _ rfl λk x c h hc=>?_
   rcases k with _|_|k
   ·cases h;cases hc;exact .int _ _
   ·cases h;cases hc;exact .int _ _
   ·simp at h
def qed(c:UInt8):∀l:List UInt8, -1<=Lib.indexByte l c
 | []=>qGD _
 | b::l=>by
   have:=qed c l;rw[Lib.indexByte];split
   ·omega
   ·split<;>omega
def Zw:∀l:List UInt8,decide (0<=Lib.indexByte l 124)=l.any λc=>decide (c.toNat=124)
 | []=>rfl
 | x::l=>by
   have a:=Zw l;have e:(x==124)=decide (x.toNat=124):=by
    rw[qGb];simp only[beq_iff_eq,decide_eq_true_eq];exact⟨λh=>by rw[h];rfl,λh=>UInt8.toNat_inj.1 h⟩
   rw[Lib.indexByte,List.any_cons,e];by_cases h:x.toNat=124
   ·simp[h]
   ·simp only[h,decide_false,qGt,if_false,Bool.false_or];rw[<-a];have b:=qed 124 l;by_cases h1:Lib.indexByte l 124= -1
    ·simp[h1]
    ·have h2:¬(Lib.indexByte l 124== -1)=true:=by simpa using h1
     rw[if_neg h2];rw[qGb];simp only[decide_eq_true_eq];omega
def qbs:Tri dq Tryz.prog wS s_sConB.pt:=by
 refine vS (fu Tryz.func182 (by kernel_rfl) rfl) λtp I w vs x hp hI hl b=>?_
 obtain⟨s,t⟩:=x;obtain⟨c,_⟩:=hp;have c:t=⟨#[124]⟩:=c;subst c;have a:(a2 B B).view (s,⟨#[124]⟩)=[.v (.string s), .v (.string ⟨#[124]⟩)]:=rfl;rw[a]at hl b
 match vs,hl with
 | [d,v1],_=>
   have h:=HR (b 0 d _ rfl rfl);have j:=HR (b 1 v1 _ rfl rfl);subst h;subst j;refine(Any.strings_Contains_one Tryz.lays144 s 124 w).mono ?_;rintro e w' ⟨rfl,rfl⟩;refine⟨_,qo0 s,rfl,rfl,λk l=>?_,Below.refl _ _,qFH _⟩;rw[Zw];exact .bool _
end
section
open Go.Proofs
def nr:CC:=gq Tryz.f110 [] {} _
def mT:List aj:=[.tmp 2]
def Fv:FO bO [] nr mT 29:=fo
def tj:CC:=gq Tryz.f176 [] {} _
def sB:List aj:=[.tmp 2]
def KJ:FO cE [] tj sB 21:=fo
def ti:CC:=gq Tryz.f177 [] {} _
def sA:List aj:=[.tmp 2]
def KI:FO fD [] ti sA 17:=fo
def ED:CC:=gq Tryz.f169 [2,3] {} _
def DA:List aj:=[.tmp 4]
def Y2:FO wW [2,3] ED DA 74:=fo
def ta:CC:=gq Tryz.f172 [3,2] {} _
def sk:List aj:=[.tmp 4]
def pf:CC:=gq Tryz.f235 [2] {} _
def ot:List aj:=[.tmp 3]
def zM:CC:=gq Tryz.f236 [1] {} _
def yW:List aj:=[.tmp 2]
def zO:CC:=gq Tryz.f173 [1] {} _
def yY:List aj:=[.tmp 2]
def xI:CC:=gq Tryz.f107 [3,2] {} _
def wB:List aj:=[.tmp 4]
def tc:CC:=gq Tryz.f175 [2] {} _
def sr:List aj:=[.tmp 3]
def xH:CC:=gq Tryz.f108 [1] {} _
def wA:List aj:=[.tmp 2]
def uZ:CC:=gq Tryz.f111 [1] {} _
def uy:List aj:=[.tmp 2]
def xM:CC:=gq Tryz.f106 [1] {} _
def wF:List aj:=[.tmp 2]
def xG:CC:=gq Tryz.f72 [1] {} _
def wz:List aj:=[.tmp 2]
def zN:CC:=gq Tryz.f112 [1] {} _
def yX:List aj:=[.tmp 2]
def zQ:CC:=oX [oB 1 (.box aC true (oT 0)),oB 2 (.mv (oN 0))] [1] [] (.seq (oX [oD 3 13 1,oZ 4 gZ [oT 3],oB 5 (.not (oT 4))] [1,5] [] (.ite (oT 5) (oX [oB 2 (.mv (oN 0))] [2] [] (.ret)) (.skip))) (.keep [1] [] (oX [oD 6 13 1,oZ 7 gK [oT 6],oA 2 7] [2] [] (.ret))))
def za:List aj:=[.tmp 2]
def iL:CC:=gq Tryz.f242 [1] {} _
def iy:List aj:=[.tmp 2, .tmp 3]
def xL:CC:=gq Tryz.f188 [1] {} _
def wE:List aj:=[.tmp 2, .tmp 3]
def eF:CC:=gq Tryz.f174 [] {} _
def ek:List aj:=[.tmp 4]
def fK:CC:=gq Tryz.f237 [] {} _
def fI:List aj:=[.tmp 4]
def B4:CC:=gq Tryz.f101 [2] {} _
def A4:List aj:=[.tmp 4]
def zF:CC:=gq Tryz.f54 [2] {} _
def yP:List aj:=[.tmp 4]
def B5:CC:=gq Tryz.f55 [1] { cu:=[1] } _
def A5:List aj:=[.tmp 2]
def xy:CC:=gq Tryz.f56 [1] { cu:=[1] } _
def wu:List aj:=[.tmp 2]
def sZ:CC:=gq Tryz.f24 [1] {} _
def sj:List aj:=[.tmp 2]
def nR:CC:=gq Tryz.f105 [2] { bx:=[1,23] } _
def nF:List aj:=[.tmp 4]
def zG:CC:=gq Tryz.f60 [1] { bx:=[7] } _
def yQ:List aj:=[.tmp 2]
def EA:CC:=gq Tryz.f57 [1] {} _
def Dx:List aj:=[.tmp 2]
def EC:CC:=gq Tryz.f25 [1] {} _
def Dz:List aj:=[.tmp 2]
def mH:CC:=oX [oB 1 (.box aC true (oT 0)),oB 2 (.mv (oN 0)),oB 3 (.mv (oN 0))] [1] [] (.seq (oX [oE 12 0 1,oC 13 1 12] [1,13] [] (.block 0 (oX [oB 15 (.eql false false [.int] (oT 13) (oN 1)),oA 14 15] [1,13,14] [] (.ite (oT 14) (oX [oB 2 (.mv (oN 1)),oB 3 (.mv (oN 1))] [2,3] [] (.ret)) (.seq (oX [oB 17 (.eql false false [.int] (oT 13) (oN 2)),
 oA 16 17] [1,13,16] [] (.ite (oT 16) (.skip) (.reg [oB 18 (.eql false false [.int] (oT 13) (oN 3)),oA 16 18]))) (.keep [1,13,16] [] (.ite (oT 16) (oX [oB 2 (.mv (oN 0)),oB 3 (.mv (oN 0))] [2,3] [] (.ret)) (oX [oB 20 (.eql false false [.int] (oT 13) (oN 6)),oA 19 20] [1,19] [] (.ite (oT 19) (oX [oE 22 12 1,oC 23 1 22,oB 24 (.iaddr 13 (oT 23) (oN 0)),oD 25 13 24,
 oZ 26 iU [oT 25],oA 21 26,oB 27 (.ext (oT 21) 0),oB 28 (.ext (oT 21) 1),oA 4 27,oA 5 28] [1,4,5] [] (.seq (oX [oE 29 11 1,oC 30 1 29,oB 31 (.eql false false [.int] (oT 30) (oN 0)),oA 32 31,oI 33 32 (.mv (oT 5)),oI 34 32 (.eql false false [.int] (oT 33) (oN 0)),oB 35 (.pick (oT 32) (.const (.bool true)) (oT 34))] [1,4,5,35] [] (.ite (oT 35) (.reg [oB 5 (.mv (oN 0))]) (oX [
 oE 36 11 1,oC 37 1 36,oB 38 (.eql false false [.int] (oT 37) (oN (-1))),oA 39 38,oI 40 39 (.mv (oT 5)),oI 41 39 (.eql false false [.int] (oT 40) (oN (-1))),oB 42 (.pick (oT 39) (.const (.bool true)) (oT 41))] [1,4,5,42] [] (.ite (oT 42) (.reg [oB 5 (.mv (oN (-1)))]) (.reg [oA 43 5,oE 44 11 1,oC 45 1 44,oB 46 (.arith .mul (oT 43) (oT 45)),oB 47 (.mm false [oT 46,oN 10000]),
 oA 5 47]))))) (.keep [1,4,5] [] (oX [oA 48 4,oE 49 10 1,oC 50 1 49,oB 51 (.arith .mul (oT 48) (oT 50)),oB 52 (.mm false [oT 51,oN 10000]),oA 53 5,oA 2 52,oA 3 53] [2,3] [] (.ret))))) (.skip)))))))))) (.keep [1] [] (oX [oB 6 (.mv (oN 0)),oB 7 (.mv (oN 0))] [1,6,7] [] (.seq (oX [oE 54 12 1,oC 55 1 54,oB 56 (.len (oT 55)),
 oB 57 (.mv (oN 0))] [1,6,7,55,56,57] [] (gd 1 57 56 58 2 (oX [oA 59 57,oB 60 (.iaddr 13 (oT 55) (oT 57)),oD 61 13 60,oB 9 (.alloc aC [oi,oi,oe,oe,oe,oe,ob,on,oe,oe,oi,oi,on]),oA 8 59,oF 13 9 61] [1,6,7,8,9,55,56,57] [9] (oX [oD 63 13 9,oZ 64 iU [oT 63],oA 62 64,oB 65 (.ext (oT 62) 0),oB 66 (.ext (oT 62) 1),oA 10 65,
 oA 11 66] [1,6,7,8,10,11,55,56,57] [] (.block 3 (oX [oE 80 0 1,oC 81 1 80,oB 82 (.eql false false [.int] (oT 81) (oN 4)),oA 79 82] [1,6,7,8,10,11,55,56,57,79] [] (.ite (oT 79) (oX [oA 83 6,oA 84 10,oB 85 (.arith .add (oT 83) (oT 84)),oB 86 (.mm false [oT 85,oN 10000]),oA 6 86] [1,6,7,11,55,56,57] [] (oX [oA 87 11,oB 88 (.eql false false [.int] (oT 87) (oN (-1))),oA 89 88,
 oI 90 89 (.mv (oT 7)),oI 91 89 (.eql false false [.int] (oT 90) (oN (-1))),oB 92 (.pick (oT 89) (.const (.bool true)) (oT 91))] [1,6,7,11,55,56,57,92] [] (.ite (oT 92) (.reg [oB 7 (.mv (oN (-1)))]) (.reg [oA 93 7,oA 94 11,oB 95 (.arith .add (oT 93) (oT 94)),oB 96 (.mm false [oT 95,oN 10000]),oA 7 96])))) (oX [oA 98 8,oB 99 (.eql false false [.int] (oT 98) (oN 0)),
 oA 97 99] [1,6,7,10,11,55,56,57,97] [] (.ite (oT 97) (.reg [oA 100 10,oA 101 11,oA 6 100,oA 7 101]) (oX [oA 67 6,oA 68 10,oB 69 (.mm false [oT 67,oT 68]),oA 6 69] [1,6,7,11,55,56,57] [] (oX [oA 70 11,oB 71 (.eql false false [.int] (oT 70) (oN (-1))),oA 72 71,oI 73 72 (.mv (oT 7)),oI 74 72 (.eql false false [.int] (oT 73) (oN (-1))),
 oB 75 (.pick (oT 72) (.const (.bool true)) (oT 74))] [1,6,7,11,55,56,57,75] [] (.ite (oT 75) (.reg [oB 7 (.mv (oN (-1)))]) (.reg [oA 76 7,oA 77 11,oB 78 (.mm true [oT 76,oT 77]),oA 7 78]))))))))))) 102)) (.keep [6,7] [] (oX [oA 103 6,oA 104 7,oA 2 103,oA 3 104] [2,3] [] (.ret)))))))
def mu:List aj:=[.tmp 2, .tmp 3]
def B6:CC:=oX [oB 1 (.box aC true (oT 0)),oB 2 (.mv (oN 0)),oB 3 (.mv (oN 0))] [1] [] (.seq (oX [oD 4 13 1,oZ 5 dT [oT 4],oB 6 (.not (oT 5))] [1,6] [] (.ite (oT 6) (oX [oB 2 (.mv (oN 0)),oB 3 (.mv (oN 0))] [2,3] [] (.ret)) (.skip))) (.keep [1] [] (oX [oD 7 13 1,oZ 8 iU [oT 7],oB 9 (.ext (oT 8) 0),oB 10 (.ext (oT 8) 1),oA 2 9,
 oA 3 10] [2,3] [] (.ret))))
def A6:List aj:=[.tmp 2, .tmp 3]
def zD:CC:=oX [oB 3 (.box aK true (oT 1)),oB 4 (.mv (.const on))] [0,3] [] (oX [oA 6 0,oB 7 (.len (oT 6)),oA 5 7] [0,3,5] [] (MI 2 (.block 0 (.loop 1 (.seq (.seq (.regd [oA 8 5,oB 9 (.cmp .gtr (oT 8) (oN 0)),oA 10 9,oH 11 10 (.load true 2 (oT 3)),oH 12 10 (.mv (oT 0)),oH 13 10 (.mv (oT 5)),oH 14 10 (.arith .sub (oT 13) (oN 1)),
 oH 15 10 (.iaddr 2 (oT 12) (oT 14)),oH 16 10 (.load true 2 (oT 15))] [oH 17 10 (.call BO [oT 11,oT 16]),oB 18 (.pick (oT 10) (oT 17) (.const ob))]) (.keep [0,3,5,18] [] (.ite (oT 18) (.skip) (.exit 0)))) (.keep [0,3,5] [] (.block 1 (.reg [oA 19 5,oB 20 (.arith .sub (oT 19) (oN 1)),oA 5 20])))))) (.keep [0,3,5] [] (MI 5 (.seq (.regd [oA 21 5,oB 22 (.cmp .gtr (oT 21) (oN 0)),
 oA 23 22,oH 24 23 (.mv (oT 0)),oH 25 23 (.mv (oT 5)),oH 26 23 (.arith .sub (oT 25) (oN 1)),oH 27 23 (.iaddr 2 (oT 24) (oT 26)),oH 28 23 (.load true 2 (oT 27)),oH 29 23 (.load true 2 (oT 3))] [oH 30 23 (.eql false true [.int,.int] (oT 28) (oT 29)),oB 31 (.pick (oT 23) (oT 30) (.const ob))]) (.keep [0,3,5,31] [] (.ite (oT 31) (oX [oA 32 0,oA 4 32] [4] [33,37,40,44] (.ret)) (.skip))))
 (.keep [0,3,5] [] (.seq (.regd [oB 33 (.nslice aK 2),oA 34 0,oA 35 5,oB 36 (.slice 2 (oT 34) none (some (oT 35))),oB 37 (.append (some 33) aK 2 16 (oT 33) (oT 36)),oD 38 2 3,oB 39 (.bslice aK 2 [oT 38]),oB 40 (.append (some 33) aK 2 16 (oT 37) (oT 39)),oA 41 0,oA 42 5,oB 43 (.slice 2 (oT 41) (some (oT 42)) none)] [
 oB 44 (.append (some 33) aK 2 16 (oT 40) (oT 43)),oA 4 44]) (.keep [4] [33,37,40,44] (.ret))))))))
def yO:List aj:=[.tmp 4]
def Ey:CC:=oX [oB 4 (.mv (.const ob))] [0,1] [] (.seq (oX [oA 6 0,oB 7 (.len (oT 6)),oA 8 1,oB 9 (.len (oT 8)),oB 10 (.eql true false [.int] (oT 7) (oT 9))] [0,1,10] [] (.ite (oT 10) (oX [oB 4 (.mv (.const ob))] [4] [] (.ret)) (.skip))) (.keep [0,1] [] (.seq (oX [oA 11 0,oB 12 (.len (oT 11)),oB 13 (.mv (oN 0))] [0,1,12,13] [] (gd 0 13 12 14 1 (oX [oA 15 13,
 oA 5 15] [0,1,5,12,13] [] (.seq (.regd [oA 16 0,oA 17 5,oB 18 (.iaddr 2 (oT 16) (oT 17)),oD 19 2 18,oA 20 1,oA 21 5,oB 22 (.iaddr 2 (oT 20) (oT 21)),oD 23 2 22] [oB 24 (.eql true true [.int,.int] (oT 19) (oT 23))]) (.keep [0,1,12,13,24] [] (.ite (oT 24) (oX [oB 4 (.mv (.const ob))] [4] [] (.ret)) (.skip))))) 25)) (.keep [] [] (oX [oB 4 (.mv (.const (.bool true)))] [4] [] (.ret))))))
def Dv:List aj:=[.tmp 4]
def Ez:CC:=oX [oB 2 (.box aK true (oT 0)),oB 3 (.box aK true (oT 1)),oB 4 (.mv (.const ob))] [2,3] [] (oX [oE 5 0 2,oC 6 1 5,oE 7 0 3,oC 8 1 7,oB 9 (.cmp .lss (oT 6) (oT 8)),oA 10 9,oI 11 10 (.faddr 0 (oT 2)),oI 12 10 (.load false 1 (oT 11)),oI 13 10 (.faddr 0 (oT 3)),oI 14 10 (.load false 1 (oT 13)),oI 15 10 (.eql false false [.int] (oT 12) (oT 14)),
 oI 16 10 (.mv (oT 15)),oH 17 16 (.faddr 1 (oT 2)),oH 18 16 (.load false 1 (oT 17)),oH 19 16 (.faddr 1 (oT 3)),oH 20 16 (.load false 1 (oT 19)),oH 21 16 (.cmp .lss (oT 18) (oT 20)),oI 22 10 (.pick (oT 16) (oT 21) (.const ob)),oB 23 (.pick (oT 10) (.const (.bool true)) (oT 22)),oA 4 23] [4] [] (.ret))
def Dw:List aj:=[.tmp 4]
def RN:FO vN [1] zQ za 8:=fo
def Vk:FO iU [1] mH mu 105:=fo
def Vo:FO ud [1] B6 A6 11:=fo
def Rz:FO vK [3,1044033,1040033,1037033] zD yO 45:=fo
def YX:FO Hb [] Ey Dv 26:=fo
def YY:FO BO [2,3] Ez Dw 24:=fo
def RR:FO mF [] zT zh 18:=fo
def GY:FO cW [] pp oL 20:=fo
def KO:FO oa [] tn sE 6:=fo
def AC:FO jR [2] iO iB 27:=fo
def KA:FO jO [3,2] ta sk 14:=fo
def GE:FO gL [2] pf ot 9:=fo
def RI:FO BU [1] zM yW 37:=fo
def RK:FO mC [1] zO yY 69:=fo
def Pj:FO fN [3,2] xI wB 15:=fo
def KC:FO jQ [2] tc sr 8:=fo
def Pi:FO dH [1] xH wA 29:=fo
def MP:FO dh [1] uZ uy 33:=fo
def Pn:FO nP [1] xM wF 9:=fo
def Ph:FO gZ [1] xG wz 13:=fo
def RJ:FO gK [1] zN yX 49:=fo
def Pg:FO nM [1] iL iy 107:=fo
def Pm:FO hU [1] xL wE 11:=fo
def sH:FO aV [] eF ek 9:=fo
def vG:FO lH [] fK fI 19:=fo
def Vm:FO Ec [2] B4 A4 99:=fo
def RA:FO qN [2] zF yP 24:=fo
def Vn:FO uc [1] B5 A5 41:=fo
def Pb:FO nL [1] xy wu 46:=fo
def Kz:FO dT [1] sZ sj 13:=fo
def FS:FO jp [2] nR nF 26:=fo
def RB:FO vL [1] zG yQ 8:=fo
def YZ:FO wU [1] EA Dx 44:=fo
def Y1:FO BP [1] EC Dz 8:=fo
def IR:FO cE [] rF qj 21:=fo
def IQ:FO fD [] rE qi 17:=fo
def DS:FO bO [] lX lp 29:=fo
end
end Go.Gv
namespace Go.Proofs
open Go.Shelf
def Tryz.sortMatch_ren:Go.Shelf.Ren:=⟨λ|6=>96|15=>147|14=>159|28=>211|29=>212|20=>221|21=>222|22=>223|23=>224|24=>225|25=>226|26=>227|27=>228|46=>274|47=>262|48=>263|49=>275|50=>276|57=>297|n=>n,λ|22=>64|24=>69|25=>175|3=>3|39=>141|0=>0|53=>256|55=>258|4=>4|46=>250|45=>249|50=>90|5=>5|9=>9|66=>294|70=>298|76=>324|77=>127|n=>n,λ|n=>n⟩
theorem Tryz.sortMatch:Go.Proofs.SlLaysF0.n6 Tryz.prog Tryz.sortMatch_ren:={
 mixed:=by kernel_rfl
 f6:=⟨Tryz.f96.name,by decide,Tryz.func96.trans (congrArg some (by kernel_rfl))⟩
 a:=⟨Tryz.f159.name,by decide,Tryz.func159.trans (congrArg some (by kernel_rfl))⟩
 b:=Tryz.func147.trans (congrArg some (by kernel_rfl))
 c:=⟨Tryz.f221.name,by decide,Tryz.func221.trans (congrArg some (by kernel_rfl))⟩
 d:=⟨Tryz.f222.name,by decide,Tryz.func222.trans (congrArg some (by kernel_rfl))⟩
 h:=⟨Tryz.f223.name,by decide,Tryz.func223.trans (congrArg some (by kernel_rfl))⟩
 j:=⟨Tryz.f224.name,by decide,Tryz.func224.trans (congrArg some (by kernel_rfl))⟩
 k:=⟨Tryz.f225.name,by decide,Tryz.func225.trans (congrArg some (by kernel_rfl))⟩
 l:=⟨Tryz.f226.name,by decide,Tryz.func226.trans (congrArg some (by kernel_rfl))⟩
 p:=⟨Tryz.f227.name,by decide,Tryz.func227.trans (congrArg some (by kernel_rfl))⟩
 q:=⟨Tryz.f228.name,by decide,Tryz.func228.trans (congrArg some (by kernel_rfl))⟩
 r:=Tryz.func211.trans (congrArg some (by kernel_rfl))
 s:=Tryz.func212.trans (congrArg some (by kernel_rfl))
 t:=⟨Tryz.f274.name,by decide,Tryz.func274.trans (congrArg some (by kernel_rfl))⟩
 u:=Tryz.func262.trans (congrArg some (by kernel_rfl))
 w:=Tryz.func263.trans (congrArg some (by kernel_rfl))
 x:=⟨Tryz.f275.name,by decide,Tryz.func275.trans (congrArg some (by kernel_rfl))⟩
 y:=⟨Tryz.f276.name,by decide,Tryz.func276.trans (congrArg some (by kernel_rfl))⟩
 A:=⟨Tryz.f297.name,by decide,Tryz.func297.trans (congrArg some (by kernel_rfl))⟩
 t0:=Tryz.underlying0
 a0:=Tryz.isAgg0
 z0:=Tryz.sizeOf0
 v0:=Tryz.zeroValue0
 t3:=Tryz.underlying3
 a3:=Tryz.isAgg3
 z3:=Tryz.sizeOf3
 v3:=Tryz.zeroValue3
 t4:=Tryz.underlying4
 a4:=Tryz.isAgg4
 z4:=Tryz.sizeOf4
 v4:=Tryz.zeroValue4
 t5:=Tryz.underlying5
 a5:=Tryz.isAgg5
 z5:=Tryz.sizeOf5
 v5:=Tryz.zeroValue5
 t9:=Tryz.underlying9
 a9:=Tryz.isAgg9
 z9:=Tryz.sizeOf9
 v9:=Tryz.zeroValue9
 C:=Tryz.underlying64
 E:=Tryz.isAgg64
 F:=Tryz.sizeOf64
 I:=Tryz.zeroValue64
 J:=Tryz.underlying175
 K:=Tryz.isAgg175
 L:=Tryz.sizeOf175
 M:=Tryz.zeroValue175
 N:=Tryz.underlying141
 O:=Tryz.isAgg141
 Q:=Tryz.sizeOf141
 S:=Tryz.zeroValue141
 U:=Tryz.underlying249
 W:=Tryz.isAgg249
 Y:=Tryz.sizeOf249
 Z:=Tryz.zeroValue249
 t46:=Tryz.underlying250
 a46:=Tryz.isAgg250
 z46:=Tryz.sizeOf250
 v46:=Tryz.zeroValue250
 t50:=Tryz.underlying90
 a50:=Tryz.isAgg90
 z50:=Tryz.sizeOf90
 v50:=Tryz.zeroValue90
 t53:=Tryz.underlying256
 a53:=Tryz.isAgg256
 z53:=Tryz.sizeOf256
 v53:=Tryz.zeroValue256
 t55:=Tryz.underlying258
 a55:=Tryz.isAgg258
 z55:=Tryz.sizeOf258
 v55:=Tryz.zeroValue258
 t66:=Tryz.underlying294
 a66:=Tryz.isAgg294
 z66:=Tryz.sizeOf294
 v66:=Tryz.zeroValue294
 t70:=Tryz.underlying298
 a70:=Tryz.isAgg298
 z70:=Tryz.sizeOf298
 v70:=Tryz.zeroValue298
 t76:=Tryz.underlying324
 a76:=Tryz.isAgg324
 z76:=Tryz.sizeOf324
 v76:=Tryz.zeroValue324
 t77:=Tryz.underlying127
 a77:=Tryz.isAgg127
 z77:=Tryz.sizeOf127
 v77:=Tryz.zeroValue127 }
def Tryz.cloneSet_ren:Go.Shelf.Ren:=⟨λ|5=>219|7=>273|n=>n,λ|23=>167|25=>172|3=>4|4=>4|20=>20|n=>n,λ|n=>n⟩
def Tryz.cloneSet:Go.Proofs.SlLaysW.n5 Tryz.prog Tryz.cloneSet_ren:={
 mixed:=by kernel_rfl
 p:=⟨Tryz.f219.name,by decide,Tryz.func219.trans (congrArg some (by kernel_rfl))⟩
 q:=Tryz.func273.trans (congrArg some (by kernel_rfl))
 r:=Tryz.underlying4
 a4:=Tryz.isAgg4
 s:=Tryz.sizeOf4
 t:=Tryz.zeroValue4
 a:=Tryz.underlying20
 b:=Tryz.isAgg20
 c:=Tryz.sizeOf20
 d:=Tryz.zeroValue20
 h:=Tryz.underlying167
 j:=Tryz.isAgg167
 k:=Tryz.sizeOf167
 l:=Tryz.zeroValue167 }
end Go.Proofs
namespace Go.Gv
section
open Go.Proofs
open Cod (enc dec)
variable {S S0:Nat->Spc}
def Rw(c:Corpus)(x:Cond)(k:Nat):List Int:=((List.range k).filter λi:Nat=>(nJ ⟨c,(i:Int), [], []⟩ 21 (iQ x)).getD false).map λi:Nat=>(i:Int)
def If(c:Corpus)(x:Cond):List Int:=Rw c x c.toks.length
def qfI(c:Corpus)(x:Cond)(k:Nat):Rw c x (k+1)=Rw c x k++ (if(nJ ⟨c,(k:Int), [], []⟩ 21 (iQ x)).getD false=true then[(k:Int)]else[]):=by
 unfold Rw;rw[List.range_succ,qHu,qHs];congr 1;simp only[List.filter];cases(nJ ⟨c,(k:Int), [], []⟩ 21 (iQ x)).getD false<;>rfl
def Yl(c:Corpus)(x:Cond)(k:Nat):(Rw c x k).length<=k:=by
 unfold Rw;rw[qGl];exact qGg (List.length_filter_le _ _) (by simp)
def JK(z:Corpus×Cond):Prop:=qqK z.1/\io z.2<=60/\dB z.2<=60/\qms z.1.attrs [] (iQ z.2)=true/\∀i:Nat,i<z.1.toks.length->∃y,nJ ⟨z.1,(i:Int), [], []⟩ 21 (iQ z.2)=some y
abbrev qiJ:Spc:=aG (a2 Corpus Cond) JK (kZ (Y:=List Int) (Z:=Int)) λz y=>y=(If z.1 z.2,0)
theorem qhv(h1:S kT=YD)(h2:S dO=qdE)(h3:S dz=U1)(h4:S fp=It 21):ak nA mY S (a2 Corpus Cond) JK (kZ (Y:=List Int) (Z:=Int)) λz y=>y=(If z.1 z.2,0):=by
 rintro⟨c,x⟩ ⟨⟨t,u,j⟩,hn,A,h,d⟩;simp only at t u j hn A h d;have hl:(c.toks.length:Int)<=9223372036854775807:=by omega
 have q:∃n,dB x<=n/\io x<=60:=⟨_,qFH _,hn⟩
 simp[nA,mY,h1,h2,h3,hn,A,h,q,hl,j,-fB',-eB'];intro b;refine⟨⟨_,qFH _⟩,⟨h,j⟩,?_⟩;refine ah (X:=Value×List Int) [2,3] [3] c.toks.length (λk z=>z.2=Rw c x k) (λz=>[(7, .own 33 z.1)]) (λz=>[(33, .row z.1 bj 1 (z.2.map enc))]) (.slice none 0 0, []) (by simp[Rw]) ?_ ?_ (hh:=by simp[isNilRow])
 ·rintro k ⟨v,l⟩ hk a;simp only at a;obtain⟨y,r⟩:=d k hk;have hp:qmw 21 (c,iQ x,(k:Int), [], []):=⟨⟨t,u,j⟩,y,r⟩
  have hs:=qfI c x k;have s:=Yl c x k;rw[<-a]at hs s;have C:(if(nJ ⟨c,(k:Int), [], []⟩ 21 (iQ x)).getD false=true then[(k:Int)]else[])=if y=true then[(k:Int)]else[]:=by rw[r];rfl
  rw[C]at hs;simp[hk,h4,hp,-fB',-eB'];intro w p;have p:nJ ⟨c,(k:Int), [], []⟩ 21 (iQ x)=some w:=p;rw[r]at p;cases p;refine⟨λe=>⟨by omega,by omega,λv'=> .inl ?_⟩,λe=> .inl ?_⟩
  ·rw[hs,e];simp
  ·rw[hs,e];simp
 ·rintro⟨v,l⟩ a;simp only at a;simp[-fB',-eB'];have e:If c x=l:=a.symm;rw[e];exact fA bj rfl
end
section
open Go.Proofs
def yz:CC:=gq Tryz.f12 [] {} _
def yn:List aj:=[.tmp 4]
def Y3:FO He [] yz yn 26:=fo
def valsA:List B:=[⟨#[97]⟩,⟨#[98]⟩,⟨#[97,46,42]⟩,⟨#[91,97,98,93]⟩,⟨#[88]⟩,⟨#[]⟩,⟨#[99,63]⟩,⟨#[97,124,98]⟩,⟨#[89]⟩,⟨#[111,46,42]⟩,⟨#[78]⟩,⟨#[97,124,88]⟩]
def wordsA:List B:=[⟨#[97]⟩,⟨#[98]⟩,⟨#[99]⟩,⟨#[65]⟩,⟨#[97,98]⟩,⟨#[]⟩,⟨#[88]⟩,⟨#[89]⟩,⟨#[116,104,101]⟩,⟨#[111,108,100]⟩,⟨#[109,97,110]⟩,⟨#[68]⟩,⟨#[65]⟩,⟨#[78]⟩,⟨#[124]⟩,⟨#[124,112,124]⟩,⟨#[124,112,124,113,124]⟩,⟨#[124,113,124]⟩]
def qt9:Bool:=valsA.all λv=>wordsA.all λw=>(G3 v w false).isSome && (G3 v w true).isSome
def qnQ:qt9=true:=by kernel_rfl
def PE{v w:B}(a:v∈valsA)(b:w∈wordsA)(f:Bool):∃y,G3 v w f=some y:=by
 have h:=qFI.1 (qFI.1 qnQ v a) w b;simp only[qFJ]at h;cases f
 ·exact qGB.1 h.1
 ·exact qGB.1 h.2
open Cod (enc dec)
variable {S S0:Nat->Spc}
def Ig(a b:List Int):Bool:=decide (a=b)
abbrev qiL:Spc:=aG (a2 (List Int) (List Int)) (λx=>x.1.length<=100000/\x.2.length<=100000) (enc (X:=Bool)) λx y=>y=Ig x.1 x.2
theorem qa4:ak yz yn S (a2 (List Int) (List Int)) (λx=>x.1.length<=100000/\x.2.length<=100000) (enc (X:=Bool)) λx y=>y=Ig x.1 x.2:=by
 rintro⟨a,b⟩ ⟨la,lb⟩;simp only at la lb;have p:(a.length:Int)<=9223372036854775807:=by omega
 have lb':(b.length:Int)<=9223372036854775807:=by omega
 by_cases hl:a.length=b.length
 ·have c:(a.length:Int)=b.length:=by omega
  simp[yz,yn,p,lb',hl,c,-fB',-eB'];refine ah (X:=Unit) [0,1] [] b.length (λk _=>a.take k=b.take k) (λ_=>[]) (λ_=>[]) () (by simp) ?_ ?_
  ·rintro k -hk t;have d:k<a.length:=by omega
   obtain⟨x,q⟩:=eK d;obtain⟨y,l⟩:=eK hk;obtain⟨_,r⟩:=qFB.1 q;obtain⟨_,s⟩:=qFB.1 l;have u:Ig a b=decide (a=b):=rfl;by_cases h:x=y
   ·subst h;simp[hk,d,q,l,r,s,-fB',-eB'];rw[av q,av l,t]
   ·have j:Ig a b=false:=by
     unfold Ig;rw[decide_eq_false_iff_not];intro e;subst e;rw[q]at l;exact h (qFO l)
    simp[hk,d,q,l,r,s,h,j,-fB',-eB']
  ·rintro -t;rw[<-hl,qFT,hl,qFT]at t;have he:Ig a b=true:=decide_eq_true t;simp[he,-fB',-eB']
 ·have c:¬(a.length:Int)=b.length:=by omega
  have j:Ig a b=false:=by
   unfold Ig;rw[decide_eq_false_iff_not];intro e;exact hl (by rw[e])
  simp[yz,yn,p,lb',hl,c,j,-fB',-eB']
def OkCorp(c:Corpus):Prop:=c.attrs=ij/\1<=c.toks.length/\c.toks.length<=4096/\∀r∈c.toks,JI r
def OkCorp.sz{c:Corpus}(h:OkCorp c):qqK c:=by
 obtain⟨h1,h2,h3,h4⟩:=h;refine⟨by omega,λr a=>?_,by rw[h1];decide⟩;obtain⟨w,t,f,_,_,_,rfl⟩:=h4 r a;simp
def qam:∀{l:List xX} {s e:Int},ER s l e->s<=e
 | [],s,e,h=>by have h:s=e:=h;omega
 |a::l,s,e,h=>by have:=qam h.2.2;have:=h.1;have:=h.2.1;omega
def qrq{c:Corpus}(h:qaH c)(hk:WX c):OkCorp c:=by
 obtain⟨h1,h2,h3,_⟩:=h;refine⟨hk.1,?_,h3,hk.2⟩;cases hl:c.texts with
 |nil=>exact absurd hl h2
 | cons a l=>
   rw[hl]at h1;have:=qam h1.2.2;have:=h1.1;have:=h1.2.1;omega
end
section
mutual
def SrcE:Pat->Int->Int->Span->Prop
 | .mk op c l r mn mx ks,d,leaf,s=>if op=1 then s=⟨leaf,d⟩else if op=4 then pK ks d leaf s else if op=6 then(match ks with|[]=>False|k::_=>∃i:Int,0<=i/\i<mn/\(i=0\/(aO k).1=(aO k).2)/\SrcE k (d+i* (aO k).1) leaf s)else False
def pK:List Pat->Int->Int->Span->Prop
 | [],_,_,_=>False
 |k::ks,d,leaf,s=>SrcE k d leaf s\/((aO k).1=(aO k).2/\pK ks (d+ (aO k).1) (leaf+ (aq k).length) s)
end
def qfF{p:Pat}(h:p.op=1)(d leaf:Int)(s:Span):SrcE p d leaf s↔s=⟨leaf,d⟩:=by cases p;simp only at h;unfold SrcE;rw[if_pos h]
def qfE{p:Pat}(h:p.op=4)(d leaf:Int)(s:Span):SrcE p d leaf s↔pK p.kids d leaf s:=by cases p;simp only at h;unfold SrcE;rw[if_neg (by omega),if_pos h]
def qhZ{p k:Pat}(h:p.op=6){ks:List Pat}(hk:p.kids=k::ks)(d leaf:Int)(s:Span):SrcE p d leaf s↔ ∃i:Int,0<=i/\i<p.mn/\(i=0\/(aO k).1=(aO k).2)/\SrcE k (d+i* (aO k).1) leaf s:=by
 cases p;simp only at h hk;subst hk;rw[SrcE.eq_def];simp only;rw[if_neg (by omega),if_neg (by omega),if_pos h]
def qbI{p:Pat}(h:p.op≠1/\p.op≠4/\p.op≠6)(d leaf:Int)(s:Span):¬SrcE p d leaf s:=by
 cases p;simp only at h;rw[SrcE.eq_def];simp only;rw[if_neg h.1,if_neg h.2.1,if_neg h.2.2];exact id
theorem UQ{v:B->Bool}(p:Pat):fy v p=true->∀(d leaf:Int) (s:Span),SrcE p d leaf s->leaf<=s.b/\s.b<leaf+ (aq p).length/\d<=s.e/\s.e<=d+200000*dm p:=by
 induction p using fg with|_ p c=>?_
 intro hp d leaf s h;rw[bc];rcases mA (cH hp).1 with⟨ho,_⟩|⟨ho,_⟩|⟨ho,k,ks,hk⟩|⟨ho,k,hk⟩
 ·rw[qfF ho]at h;subst h;rw[cI,if_pos ho];simp only[qGi,qHq];omega
 ·exact absurd h (qbI (by omega) _ _ _)
 ·by_cases h4:p.op=4
  ·rw[qfE h4]at h;rw[if_neg (by omega),cI];have:∀ks:List Pat,(∀k∈ks,k∈p.kids)->∀d leaf:Int,pK ks d leaf s->leaf<=s.b/\s.b<leaf+ (ks.flatMap aq).length/\d<=s.e/\s.e<=d+200000*bu ks:=by
    intro ks
    induction ks with
    |nil=>intro _ d leaf h;rw[pK]at h;exact h.elim
    | cons k ks a=>
      intro hk d leaf h;rw[pK]at h;rw[bu,qGf,qF5];rcases h with h|⟨j,h⟩
      ·have:=c k (hk k (by simp)) (dX hp (hk k (by simp))) d leaf s h;omega
      ·have h1:=a (λz hz=>hk z (by simp[hz])) _ _ h;have h2:dG (aO k):=tu k (dX hp (hk k (by simp)));have h3:1<=dm k:=by rw[cI];omega
       unfold dG at h2;omega
   have:=this p.kids (λk hk=>hk) d leaf h;omega
  ·exact absurd h (qbI (by omega) _ _ _)
 ·rw[qhZ ho hk]at h;obtain⟨i,h0,h1,_,h3⟩:=h;rw[if_neg (by omega),cI,hk,bu,bu];have h4:=c k (by rw[hk];simp) (dX hp (by rw[hk];simp)) _ _ _ h3;have h2:dG (aO k):=tu k (dX hp (by rw[hk];simp));have hn:=(cH hp).2.2;unfold lF at hn;rw[decide_eq_true_eq]at hn;have hn:=hn ho;unfold dG at h2;have h5:0<=i* (aO k).1:=qHc h0 h2.1;have h6:i* (aO k).1<=16*10000:=Int.mul_le_mul (by omega) h2.2.1 h2.1 (by omega);have l:1<=dm k:=by rw[cI];omega
  simp only[qGf,List.flatMap_nil,qGR];generalize i* (aO k).1=z at*;omega
def SrcsOf(p:Pat)(r:List Span):Prop:=SS r/\∀s,s∈r↔SrcE p 0 0 s
def SrcsOf.eq{p:Pat}{a b:List Span}(h:SrcsOf p a)(k:SrcsOf p b):a=b:=qbH h.1 k.1 λx=>(h.2 x).trans (k.2 x).symm
def qzF:B:=⟨#[115]⟩
def qo1:B:=⟨#[110,112]⟩
def qzE:B:=⟨#[116]⟩
def qsz:B:=⟨#[120]⟩
def qtA:B:=⟨#[121]⟩
def Types:List B:=[qzF,qo1,qzE]
def qaI:List (Int×Int):=[(0,1),(0, -1),(1, -1),(2,2),(0,2),(1,3),(0,0)]
def qtJ(lb:List B)(p:Pat):Prop:=(p.op=1/\(p.lab=⟨#[]⟩\/p.lab∈lb)/\p.reg=⟨#[]⟩/\p.mn=0/\p.mx=0/\p.kids=[])\/((p.op=2\/p.op=3)/\p.cond=Cond0/\p.lab=⟨#[]⟩/\p.reg∈Types/\p.mn=0/\p.mx=0/\p.kids=[])
def WP(lb:List B):Nat->Pat->Prop
 | 0,p=>qtJ lb p
 | n+1,p=>qtJ lb p\/((p.op=4\/p.op=5)/\p.cond=Cond0/\p.lab=⟨#[]⟩/\p.reg=⟨#[]⟩/\p.mn=0/\p.mx=0/\∃a b,p.kids=[a,b]/\WP lb n a/\WP lb n b)\/
   (p.op=6/\p.cond=Cond0/\p.lab=⟨#[]⟩/\p.reg=⟨#[]⟩/\(p.mn,p.mx) ∈qaI/\∃a,p.kids=[a]/\WP lb n a)
def qz0{lb:List B}{n:Nat}{p:Pat}(h:qtJ lb p):WP lb n p:=by
 cases n
 ·exact h
 ·exact .inl h
def qmj(lb:List B):Prop:=∀l∈lb,l=qsz\/l=qtA
def Aa{lb:List B}{n:Nat}{p:Pat}(h:WP lb n p):qtJ lb p\/ ∃m,n=m+1/\(((p.op=4\/p.op=5)/\p.cond=Cond0/\p.lab=⟨#[]⟩/\p.reg=⟨#[]⟩/\p.mn=0/\p.mx=0/\∃a b,p.kids=[a,b]/\WP lb m a/\WP lb m b)\/
 (p.op=6/\p.cond=Cond0/\p.lab=⟨#[]⟩/\p.reg=⟨#[]⟩/\(p.mn,p.mx) ∈qaI/\∃a,p.kids=[a]/\WP lb m a)):=by
 cases n with
 |zero=>exact .inl h
 |succ m=>exact h.elim .inl λh=> .inr ⟨m,rfl,h⟩
theorem JP{lb:List B}{C:Nat->Pat->Prop}(h:∀n p,WP lb n p->(∀k∈p.kids,∃m,n=m+1/\WP lb m k/\C m k)->C n p):∀n p,WP lb n p->C n p:=by
 intro n
 induction n with
 | zero=>
   intro p hp;refine h 0 p hp λk hk=>?_
   rcases hp with hp|hp
   ·rw[hp.2.2.2.2.2]at hk;simp at hk
   ·rw[hp.2.2.2.2.2.2]at hk;simp at hk
 | succ m d=>
   intro p hp;refine h (m+1) p hp λk hk=>⟨m,rfl,?_⟩
   have:WP lb m k:=by
    rcases hp with(hp|hp)|hp|hp
    ·rw[hp.2.2.2.2.2]at hk;simp at hk
    ·rw[hp.2.2.2.2.2.2]at hk;simp at hk
    ·obtain⟨a,b,e,c,hb⟩:=hp.2.2.2.2.2.2;rw[e]at hk;simp at hk;rcases hk with rfl|rfl
     ·exact c
     ·exact hb
    ·obtain⟨a,e,c⟩:=hp.2.2.2.2.2;rw[e]at hk;simp at hk;subst hk;exact c
   exact⟨this,d k this⟩
theorem qc6{v:B->Bool}{lb:List B}(hl:qmj lb)(j:v qzF=true/\v qo1=true/\v qzE=true/\v qsz=true/\v qtA=true):∀n p,WP lb n p->n<=90->fy v p=true:=by
 have key:∀n p,WP lb n p->(n<=90->∀d:Int,d+n<=100->cm p d=true)/\cx qC p=true/\cx (nI v) p=true/\cx lF p=true:=by
  refine JP λn p hp q=>?_
  have c:qC p=true/\nI v p=true/\lF p=true:=by
   rw[vX];unfold xY nI lF;rw[decide_eq_true_eq,decide_eq_true_eq];have s:(p.mn,p.mx) ∈qaI->0<=p.mn/\p.mn<=16/\(p.mx= -1\/p.mn<=p.mx/\p.mx<=16):=by
    intro h;simp[qaI]at h;omega
   have t:p.reg∈Types->v p.reg=true:=by
    intro h;simp[Types]at h;rcases h with h|h|h<;>rw[h]
    ·exact j.1
    ·exact j.2.1
    ·exact j.2.2.1
   rcases Aa hp with(⟨h1,h2,h3,h4,h5,h6⟩|⟨h1,h2,h3,h4,h5,h6,l⟩)|⟨m,_,(⟨h1,h2,h3,h4,h5,h6,a,b,l,_⟩|⟨h1,h2,h3,h4,h5,a,l,_⟩)⟩
   ·refine⟨.inl ⟨h1,h3,h4,h5,h6⟩,⟨λh=>by omega,λr=>?_⟩,λh=>by omega⟩;rcases h2 with h2|h2
    ·exact absurd h2 r
    ·rcases hl _ h2 with h|h<;>rw[h]
     ·exact j.2.2.2.1
     ·exact j.2.2.2.2
   ·exact⟨.inr (.inl ⟨h1,h2,h3,h5,h6,l⟩),⟨λ_=>t h4,λh=>absurd h3 h⟩,λh=>by omega⟩
   ·exact⟨.inr (.inr (.inl ⟨h1,h2,h3,h4,h5,h6,by rw[l];simp⟩)),⟨λh=>by omega,λh=>absurd h3 h⟩,λh=>by omega⟩
   ·exact⟨.inr (.inr (.inr ⟨h1,h2,h3,h4,by rw[l];simp⟩)),⟨λh=>by omega,λh=>absurd h3 h⟩,λ_=>s h5⟩
  refine⟨λhn d u=>?_,?_,?_,?_⟩
  ·rw[ld,qFJ,decide_eq_true_eq,qFI];refine⟨by omega,λk hk=>?_⟩;obtain⟨m,e,_,h,_⟩:=q k hk;exact h (by omega) _ (by omega)
  ·rw[cZ,qFJ,qFI];exact⟨c.1,λk hk=>by obtain⟨m,e,_,h⟩:=q k hk;exact h.2.1⟩
  ·rw[cZ,qFJ,qFI];exact⟨c.2.1,λk hk=>by obtain⟨m,e,_,h⟩:=q k hk;exact h.2.2.1⟩
  ·rw[cZ,qFJ,qFI];exact⟨c.2.2,λk hk=>by obtain⟨m,e,_,h⟩:=q k hk;exact h.2.2.2⟩
 intro n p hp hn;obtain⟨h1,h2,h3,h4⟩:=key n p hp;unfold fy;rw[h1 hn 1 (by omega),h2,h3,h4];rfl
theorem qc5{lb:List B} :∀n p,WP lb n p->n<=5->1<=fM p/\fM p<=3^n/\dm p+1<=2^ (n+1):=by
 refine JP λn p hp l hn=>?_
 have hb:(1:Int)<=3^n/\1<=2^n:=⟨Int.pow_pos (by omega),Nat.one_le_two_pow⟩
 rcases Aa hp with(⟨h1,h2,h3,h4,h5,h6⟩|⟨h1,h2,h3,h4,h5,h6,d⟩)|⟨m,rfl,(⟨h1,h2,h3,h4,h5,h6,a,b,d,_⟩|⟨h1,h2,h3,h4,h5,a,d,_⟩)⟩
 ·rw[pR,Dr,if_pos h6,cI,h6,bu,Nat.pow_succ];omega
 ·rw[pR,Dr,if_pos d,cI,d,bu,Nat.pow_succ];omega
 ·obtain⟨j,c,_,a1⟩:=l a (by rw[d];simp);obtain⟨k,h,_,a2⟩:=l b (by rw[d];simp);have c:j=m:=by omega
  have h:k=m:=by omega
  subst c;subst h;have a1:=a1 (by omega);have a2:=a2 (by omega);rw[pR,Dr,if_neg (by rw[d];simp),if_neg (by omega),cI,d];simp only[eP,bu];rw[Int.pow_succ,Nat.pow_succ];rw[Nat.pow_succ]at a1 a2 ⊢;have h2:(0:Int)<=3^k:=by omega
  have:(3:Int) ^k<=243:=by
   have:k=0\/k=1\/k=2\/k=3\/k=4:=by omega
   rcases this with rfl|rfl|rfl|rfl|rfl<;>decide
  omega
 ·obtain⟨j,c,_,a1⟩:=l a (by rw[d];simp);have c:j=m:=by omega
  subst c;have a1:=a1 (by omega);rw[pR,Dr,if_neg (by rw[d];simp),if_pos h1,cI,d];simp only[eP,bu];rw[Int.pow_succ,Nat.pow_succ];rw[Nat.pow_succ]at a1 ⊢;have:(3:Int) ^j<=243:=by
   have:j=0\/j=1\/j=2\/j=3\/j=4:=by omega
   rcases this with rfl|rfl|rfl|rfl|rfl<;>decide
  simp only[qaI,qFK,qHT,qGd,or_false]at h5;rw[show min (0+fM a) 1000=fM a by omega];rcases h5 with⟨c,h⟩|⟨c,h⟩|⟨c,h⟩|⟨c,h⟩|⟨c,h⟩|⟨c,h⟩|⟨c,h⟩ <;>rw[c,h] <;>simp<;>omega
def CS:Nat->Cond->Prop
 | 0,c=>c.kids=[]
 |n+1,c=>c.kids.length<=2/\∀k∈c.kids,CS n k
def qcF{n:Nat}{c:Cond}(h:c.kids=[]):CS n c:=by
 cases n
 ·exact h
 ·exact⟨by rw[h];exact qFY _,λk hk=>by rw[h]at hk;simp at hk⟩
def qsj{n m:Nat}{c a:Cond}(hm:n=m+1)(h:c.kids=[a])(b:CS m a):CS n c:=by
 subst hm;refine⟨by rw[h];exact qGV _,λk hk=>?_⟩;rw[h]at hk;have:k=a:=by simpa using hk
 subst this;exact b
def qsi{n m:Nat}{c a b:Cond}(hm:n=m+1)(h:c.kids=[a,b])(d:CS m a)(hb:CS m b):CS n c:=by
 subst hm;refine⟨by rw[h];exact qFH _,λk hk=>?_⟩;rw[h]at hk;have:k=a\/k=b:=by simpa using hk
 rcases this with rfl|rfl
 ·exact d
 ·exact hb
def qoG{n:Nat}{c d:Cond}(h:c.kids=d.kids)(a:CS n d):CS n c:=by
 cases n
 ·exact h.trans a
 ·exact⟨by rw[h];exact a.1,λk hk=>a.2 k (by rw[<-h];exact hk)⟩
def qsk{n:Nat}{c:Cond}(h:CS n c):c.kids.length<=2:=by
 cases n
 ·have:c.kids=[]:=h;rw[this];exact qFY _
 ·exact h.1
def PD:Nat->Pat->Prop
 | 0,p=>(∃m,CS m p.cond)/\p.kids=[]
 |n+1,p=>(∃m,CS m p.cond)/\p.kids.length<=2/\∀k∈p.kids,PD n k
def qje{n:Nat}{p:Pat}(hc:∃m,CS m p.cond)(h:p.kids=[]):PD n p:=by
 cases n
 ·exact⟨hc,h⟩
 ·exact⟨hc,by rw[h];exact qFY _,λk hk=>by rw[h]at hk;simp at hk⟩
def qri{n m:Nat}{p a:Pat}(hm:n=m+1)(hc:∃m,CS m p.cond)(h:p.kids=[a])(b:PD m a):PD n p:=by
 subst hm;refine⟨hc,by rw[h];exact qGV _,λk hk=>?_⟩;rw[h]at hk;have:k=a:=by simpa using hk
 subst this;exact b
def qjd{n m:Nat}{p a b:Pat}(hm:n=m+1)(hc:∃m,CS m p.cond)(h:p.kids=[a,b])(c:PD m a)(hb:PD m b):PD n p:=by
 subst hm;refine⟨hc,by rw[h];exact qFH _,λk hk=>?_⟩;rw[h]at hk;have:k=a\/k=b:=by simpa using hk
 rcases this with rfl|rfl
 ·exact c
 ·exact hb
def qey:∃m,CS m Cond0:=⟨0,rfl⟩
def qnz{n:Nat}{p:Pat}(h:PD n p):∃m,CS m p.cond:=by cases n<;>exact h.1
def qrj{n:Nat}{p:Pat}(h:PD n p):p.kids.length<=2:=by
 cases n
 ·rw[h.2];exact qFY _
 ·exact h.2.1
def qrk{n:Nat}{p k:Pat}(h:PD n p)(hk:k∈p.kids):∃m,n=m+1/\PD m k:=by
 cases n
 ·rw[h.2]at hk;simp at hk
 ·exact⟨_,rfl,h.2.2 k hk⟩
def qsl{n:Nat}{p k:Cond}(h:CS n p)(hk:k∈p.kids):∃m,n=m+1/\CS m k:=by
 cases n
 ·have h:p.kids=[]:=h;rw[h]at hk;simp at hk
 ·exact⟨_,rfl,h.2 k hk⟩
open Cod (enc dec)
structure Glob where
 op:Int
 a:B
 b:B
 name:B
 arg:B
 val:B
 fold:Bool
 mn:Int
 mx:Int
 args:List B
 kids:List Glob
mutual
def P9:Glob->D
 | .mk a b c d h j k l p q ks=> .agg [enc a,enc b,enc c,enc d,enc h,enc j,enc k,enc l,enc p,enc q, .list 11 (CE ks)]
def CE:List Glob->List D
 | []=>[]
 |k::ks=>P9 k::CE ks
end
mutual
def qag:D->Option Glob
 | .agg [b,c,d,h,j,k,l,p,q,r,a]=>(dec b).bind λs=>(dec c).bind λt=>(dec d).bind λu=>(dec h).bind λw=>(dec j).bind λx=>(dec k).bind λy=>(dec l).bind λA=>(dec p).bind λC=>(dec q).bind λE=>(dec r).bind λF=>(Me a).bind λks=>some (.mk s t u w x y A C E F ks)
 | _=>none
def Me:D->Option (List Glob)
 | .list n es=>if n=11 then Et es else none
 | .v (.slice none 0 0)=>some []
 | _=>none
def Et:List D->Option (List Glob)
 | []=>some []
 |d::ds=>(qag d).bind λx=>(Et ds).bind λxs=>some (x::xs)
end
def K9:∀l:List Glob,CE l=l.map P9
 | []=>rfl
 | _::l=>by rw[CE,K9 l];rfl
def qeo:∀c:Glob,(P9 c).kn=true
 | .mk .. =>rfl
def ZY:∀c:Glob,(P9 c).cells.length=11
 | .mk .. =>rfl
mutual
def qaf:∀c:Glob,qag (P9 c)=some c
 | .mk a b d j k l p q r s ks=>by
   have h:Me (.list 11 (CE ks))=some ks:=by rw[Me,if_pos rfl];exact TC ks
   simp only[P9,qag,Cod.dec_enc,qFW,h]
def TC:∀l:List Glob,Et (CE l)=some l
 | []=>by simp only[CE,Et]
 |c::l=>by simp only[CE,Et,qaf c,TC l,qFW]
end
mutual
def qew:∀(d:D) (c:Glob),qag d=some c->FrzTo bS d (P9 c)
 | .agg [l,p,q,r,s,t,u,w,x,y,a],c,h=>by
   simp only[qag,qFA,qFQ]at h;obtain⟨A,h0,C,h1,E,h2,F,h3,I,h4,J,h5,K,h6,L,b,M,j,N,k,ks,hk,rfl⟩:=h;rw[P9];exact LeL.agg (.cons (Cod.le _ _ h0) (.cons (Cod.le _ _ h1) (.cons (Cod.le _ _ h2) (.cons (Cod.le _ _ h3) (.cons (Cod.le _ _ h4) (.cons (Cod.le _ _ h5) (.cons (Cod.le _ _ h6) (.cons (Cod.le _ _ b) (.cons (Cod.le _ _ j) (.cons (Cod.le _ _ k) ((.cons (qk2 a ks hk) .nil))))))))))))
def qk2:∀(d:D) (l:List Glob),Me d=some l->FrzTo bS d (.list 11 (CE l))
 | .list n es,l,h=>by
   simp only[Me]at h;split at h
   ·rename_i hn;subst hn;have hl:=qae es l h;refine .list hl.1 (λe he=>?_) hl.2;rw[K9]at he;obtain⟨x,a,rfl⟩:=qFL.1 he;exact⟨qeo x,ZY x⟩
   ·cases h
 | .v (.slice none 0 0),l,h=>by
   simp only[Me,qFQ]at h;subst h;exact .nil _
def qae:∀(es:List D) (l:List Glob),Et es=some l->LeL es (CE l)
 | [],l,h=>by
   simp only[Et,qFQ]at h;subst h;exact .nil
 | d::ds,l,h=>by
   simp only[Et,qFA,qFQ]at h;obtain⟨x,h1,xs,h2,rfl⟩:=h;rw[CE];exact .cons (qew d x h1) (qae ds xs h2)
end
instance:Cod Glob where
 wd:=11
 enc:=P9
 dec:=qag
 kn:=qeo
 wid:=ZY
 dec_enc:=qaf
 le:=qew
def qgQ(ks:List Glob):D.list 11 (CE ks)=enc ks:=by rw[K9];rfl
def Qh:∀es:List D,Et es=es.mapM (dec (X:=Glob))
 | []=>by simp[Et]
 | d::es=>by
   rw[Et,qGq,Qh es];rfl
def qk3:∀d:D,Me d=dec (X:=List Glob) d:=λd=>by
 unfold Me;split
 ·rename_i n es;show _=if n=11 then es.mapM (dec (X:=Glob))else none
  rw[Qh]
 ·rfl
 ·rename_i h1 h2;show _=(match d with
   | .list n es=>if n=11 then es.mapM (dec (X:=Glob))else none
   | .v (.slice none 0 0)=>some []
   | _=>none)
  split
  ·exact absurd rfl (h1 _ _)
  ·exact absurd rfl h2
  ·rfl
@[simp] theorem qvy(s:Glob):Glob.mk s.op s.a s.b s.name s.arg s.val s.fold s.mn s.mx s.args s.kids=s:=by cases s;rfl
@[simp] theorem P7(s:Glob):enc s= .agg [enc s.op,enc s.a,enc s.b,enc s.name,enc s.arg,enc s.val,enc s.fold,enc s.mn,enc s.mx,enc s.args,enc s.kids]:=by
 rw[<-qgQ];cases s;show P9 _=_;rw[P9]
@[simp] theorem qwO:Cod.wd Glob=11:=i' rfl
@[simp] theorem qvL(b c d h j k l p q r a:D):dec (X:=Glob) (.agg [b,c,d,h,j,k,l,p,q,r,a])=((dec b).bind λb=>(dec c).bind λc=>(dec d).bind λd=>(dec h).bind λh=>(dec j).bind λj=>(dec k).bind λk=>(dec l).bind λl=>(dec p).bind λp=>(dec q).bind λq=>(dec r).bind λr=>(dec a).bind λa=>some ⟨b,c,d,h,j,k,l,p,q,r,a⟩):=by
 show qag _=_;simp only[qag,qk3]
structure vR where
 op:Int
 neg:Bool
 reg:B
instance:Cod vR where
 wd:=3
 enc f:= .agg [enc f.op,enc f.neg,enc f.reg]
 dec| .agg [j,k,l]=>(dec j).bind λa=>(dec k).bind λb=>(dec l).bind λc=>some ⟨a,b,c⟩|_=>none
 kn _:=rfl
 wid _:=rfl
 dec_enc f:=by simp only[Cod.dec_enc,qFW]
 le d x h:=by
  split at h
  ·simp only[qFA,qFQ]at h;obtain⟨a,h0,b,h1,c,h2,rfl⟩:=h;exact LeL.agg (.cons (Cod.le _ _ h0) (.cons (Cod.le _ _ h1) (.cons (Cod.le _ _ h2) .nil)))
  ·cases h
@[simp] theorem qvF(s:vR):enc s= .agg [enc s.op,enc s.neg,enc s.reg]:=i' rfl
@[simp] theorem qwP:Cod.wd vR=3:=i' rfl
structure Qry where
 pat:Pat
 glob:Glob
 filts:List vR
 strat:Int
def Lh:Pat->List D| .mk op c l r mn mx ks=>enc op::(Ew c++ [enc l,enc r,enc mn,enc mx,enc ks])
def qgY:∀p:Pat,D.agg (Lh p)=enc p
 | .mk .. =>(Wi ..).symm
def qcJ:∀p:Pat,(Lh p).length=13
 | .mk op c l r mn mx ks=>by simp[Lh,Qp]
def Qo(g:Glob):List D:=[enc g.op,enc g.a,enc g.b,enc g.name,enc g.arg,enc g.val,enc g.fold,enc g.mn,enc g.mx,enc g.args,enc g.kids]
def qgZ(g:Glob):D.agg (Qo g)=enc g:=(P7 g).symm
def qlO{l l':List D}(h:FrzTo bS (.agg l) (.agg l')):LeL l l':=by
 cases h with
 |same=>exact⟨rfl,λk x y b a=>by rw[b]at a;cases a;exact .same _⟩
 |agg hl h=>exact⟨hl,h⟩
def qkW{l:List D}{p:Pat}(h:dec (D.agg l)=some p):LeL l (Lh p):=qlO (by rw[qgY];exact Cod.le _ _ h)
def qgS{l:List D}{p:Glob}(h:dec (D.agg l)=some p):LeL l (Qo p):=qlO (by rw[qgZ];exact Cod.le _ _ h)
def qr0(q:Qry):D:= .agg (Lh q.pat++ (Qo q.glob++ [enc q.filts,enc q.strat]))
def qsc:D->Option Qry
 | .agg [h,j,k,l,q,r,t,u,w,x,a,b,c,y,A,C,E,F,I,J,K,L,M,d,f,s]=>(dec (D.agg [h,j,k,l,q,r,t,u,w,x,a,b,c])).bind λp=>(dec (D.agg [y,A,C,E,F,I,J,K,L,M,d])).bind λg=>(dec f).bind λfs=>(dec s).bind λst=>some ⟨p,g,fs,st⟩
 | _=>none
instance:Cod Qry where
 wd:=26
 enc:=qr0
 dec:=qsc
 kn _:=rfl
 wid q:=by simp[qr0,D.cells,qcJ,Qo]
 dec_enc q:=by
  obtain⟨⟨op,⟨o,n,a,v,l,f,b⟩,lb,rg,mn,mx,ks⟩,g,fs,st⟩:=q;have h1:=Cod.dec_enc (⟨op,⟨o,n,a,v,l,f,b⟩,lb,rg,mn,mx,ks⟩:Pat);have h2:=Cod.dec_enc g;rw[Wi]at h1;rw[P7]at h2;simp only[Ew,qGk,qGz]at h1;simp only[qr0,Lh,Ew,Qo,qGk,qGz,qsc,h1,h2,Cod.dec_enc,qFW]
 le d x h:=by
  unfold qsc at h;split at h
  ·simp only[qFA,qFQ]at h;obtain⟨p,h0,g,h1,fs,h2,st,h3,rfl⟩:=h;exact LeL.agg ((qkW h0).append ((qgS h1).append (.cons (Cod.le _ _ h2) (.cons (Cod.le _ _ h3) .nil))))
  ·cases h
@[simp] theorem qyK(s:Qry):Qry.mk s.pat s.glob s.filts s.strat=s:=by cases s;rfl
@[simp] theorem qyU(s:Qry):enc s= .agg [enc s.pat.op,enc s.pat.cond.op,enc s.pat.cond.name,enc s.pat.cond.arg,enc s.pat.cond.val,enc s.pat.cond.lab,enc s.pat.cond.fold,enc s.pat.cond.kids,enc s.pat.lab,enc s.pat.reg,enc s.pat.mn,enc s.pat.mx,enc s.pat.kids,enc s.glob.op,enc s.glob.a,enc s.glob.b,enc s.glob.name,enc s.glob.arg,enc s.glob.val,enc s.glob.fold,enc s.glob.mn,enc s.glob.mx,enc s.glob.args,enc s.glob.kids,enc s.filts,enc s.strat]:=by
 obtain⟨⟨op,⟨o,n,a,v,l,f,c⟩,lb,rg,mn,mx,ks⟩,g,fs,st⟩:=s;rfl
@[simp] theorem qy3(h j k l q r t u w x a b c y A C E F I J K L M d f s:D):dec (X:=Qry) (.agg [h,j,k,l,q,r,t,u,w,x,a,b,c,y,A,C,E,F,I,J,K,L,M,d,f,s])=((dec (D.agg [h,j,k,l,q,r,t,u,w,x,a,b,c])).bind λp=>(dec (D.agg [y,A,C,E,F,I,J,K,L,M,d])).bind λg=>(dec f).bind λfs=>(dec s).bind λst=>some ⟨p,g,fs,st⟩):=i' rfl
structure Mg where
 kind:Int
 text:B
 pos:Int
instance:Cod Mg where
 wd:=3
 enc t:= .agg [.v (.int .u8 t.kind),enc t.text,enc t.pos]
 dec| .agg [.v (.int .u8 k),a,j]=>(dec a).bind λb=>(dec j).bind λc=>some ⟨k,b,c⟩|_=>none
 kn _:=rfl
 wid _:=rfl
 dec_enc f:=by simp only[Cod.dec_enc,qFW]
 le d x h:=by
  split at h
  ·simp only[qFA,qFQ]at h;obtain⟨b,h1,c,h2,rfl⟩:=h;exact LeL.agg (.cons (.same _) (.cons (Cod.le _ _ h1) (.cons (Cod.le _ _ h2) .nil)))
  ·cases h
@[simp] theorem qyR(s:Mg):enc s= .agg [.v (.int .u8 s.kind),enc s.text,enc s.pos]:=i' rfl
@[simp] theorem qAa:Cod.wd Mg=3:=i' rfl
structure Pst where
 l:List Mg
 pos:Int
 deep:Int
 e:Int
 fail:Int
@[simp] theorem qyL(s:Pst):Pst.mk s.l s.pos s.deep s.e s.fail=s:=by cases s;rfl
def nQ(s:Pst):List D:=[enc s.l,enc s.pos,enc s.deep,enc s.e,enc s.fail]
@[simp] theorem qvY(s:Pst):nQ s=[enc s.l,enc s.pos,enc s.deep,enc s.e,enc s.fail]:=i' rfl
def Pst.step(s:Pst):Pst:={ s with pos:=s.pos+1 }
def BD(s:Pst):Option Mg:=if 0<=s.pos/\s.l.length<=1000000 then s.l[s.pos.toNat]? else none
def qeb(s:Pst)(k:Int)(t:B):Option Bool:=if s.e≠0 then some false else(BD s).map λx=>decide (x.kind=k/\x.text=t)
def uS(s:Pst)(t:B):Option (Pst×Bool):=(qeb s 111 t).map λb=>if b then(s.step,true)else(s,false)
def Hw(s:Pst)(k:Int)(t:B):Option (Pst×B):=if s.e≠0 then none else(BD s).bind λx=>if x.kind≠k\/k=111/\x.text≠t then none else some (s.step,x.text)
def E0:B:=⟨#[]⟩
section
variable (A:Pst->Option (Pst×Pat))
def qpD(op:Int)(l:List Pat):Pat:=match l with
 | [x]=>x
 |l=>⟨op,Cond0,E0,E0,0,0,l⟩
end
def qn5(s:B)(i:Nat):Bool:=match s.data[i]? with
 |some c=>decide (c.toNat=32\/c.toNat=10)
 |none=>false
def qdh:Nat->B->Nat->Nat
 | 0,_,i=>i
 |n+1,s,i=>if qn5 s i then qdh n s (i+1)else i
def yl(s:B)(i:Nat):Nat:=qdh (s.size -i) s i
def qnq:Nat->B->Nat->B->Option (Nat×B)
 | 0,_,_,_=>none
 | n+1,s,j,v=>match s.data[j]? with
   |none=>none
   | some c=>if c.toNat=34 then(match s.data[j+1]? with
      |some d=>if d.toNat=34 then none else some (j,v)
      |none=>some (j,v))else qnq n s (j+1) (v++s.extract j (j+1))
def qb0(s:B)(j:Nat)(v:B):Option (Nat×B):=qnq (s.size -j) s j v
def signsL:List B:=[⟨#[60,47]⟩,⟨#[33,61]⟩,⟨#[58,58]⟩,⟨#[37,99]⟩,⟨#[91]⟩,⟨#[93]⟩,⟨#[40]⟩,⟨#[41]⟩,⟨#[123]⟩,⟨#[125]⟩,⟨#[60]⟩,⟨#[62]⟩,⟨#[124]⟩,⟨#[38]⟩,⟨#[33]⟩,⟨#[61]⟩,⟨#[58]⟩,⟨#[46]⟩,⟨#[44]⟩,⟨#[63]⟩,⟨#[42]⟩,⟨#[43]⟩,⟨#[45]⟩]
def qrg(s:B)(i:Nat)(x:B):Bool:=decide (i+x.size<=s.size/\s.extract i (i+x.size)=x)
def Gk{s:B}{i:Nat}(h:i<s.size):yl s i=if qn5 s i then yl s (i+1)else i:=by
 unfold yl;rw[show s.size -i=(s.size - (i+1)) +1 by omega,qdh]
def Sl{s:B}{i:Nat}(h:s.size<=i):yl s i=i:=by
 unfold yl;rw[show s.size -i=0 by omega,qdh]
def qfQ{s:B}{j:Nat}{v:B}{c:UInt8}(h:s.data[j]? =some c):qb0 s j v=if c.toNat=34 then(match s.data[j+1]? with
 |some d=>if d.toNat=34 then none else some (j,v)
 |none=>some (j,v))else qb0 s (j+1) (v++s.extract j (j+1)):=by
 have a:j<s.size:=(qFN.1 h).1;unfold qb0;rw[show s.size -j=(s.size - (j+1)) +1 by omega,qnq,h]
def qi4{s:B}{j:Nat}{v:B}(h:s.size<=j):qb0 s j v=none:=by
 unfold qb0;rw[show s.size -j=0 by omega,qnq]
section
variable (N:Pst->Option (Pst×Cond))(O:Pst->Option (Pst×Cond))
end
section
variable (A:Pst->Option (Pst×Pat))(O:Pst->Option (Pst×Cond))
end
section
variable (N:Pst->Option (Pst×Glob))(O:Pst->Option (Pst×Glob))
end
def qjS(c:Nat):Bool:=decide (65<=c/\c<=90\/97<=c/\c<=122\/c=95)
def qjY(s:B)(i:Nat):Bool:=match s.data[i]? with
 |some c=>qjS c.toNat||decide (48<=c.toNat/\c.toNat<=57\/c.toNat=45)
 |none=>false
def qnM:Nat->B->Nat->Nat
 | 0,_,i=>i
 |n+1,s,i=>if qjY s i then qnM n s (i+1)else i
def KT(s:B)(i:Nat):Nat:=qnM (s.size -i) s i
variable {S S0:Nat->Spc}
def AP(c:Int):Bool:=decide (65<=c/\c<=90\/97<=c/\c<=122\/c=95)
def RW(c:Int):Bool:=AP c||decide (48<=c/\c<=57\/c=45)
def QI(s:B):Prop:=1<=s.size/\s.size<=32/\(∀c:UInt8,s.data[0]? =some c->AP c.toNat=true)/\∀(k:Nat) (c:UInt8),s.data[k]? =some c->RW c.toNat=true
noncomputable def aB(s:B):Bool:= @decide (QI s) (Classical.propDecidable _)
def Gb(s:B):aB s=true↔QI s:= @decide_eq_true_iff (QI s) (Classical.propDecidable _)
def XE{s:B}(h:QI s):true=aB s:=((Gb s).2 h).symm
def tP{s:B}(h:¬QI s):false=aB s:=by
 rcases hb:aB s
 ·rfl
 ·exact absurd ((Gb s).1 hb) h
abbrev tT:Spc:=aG (a1 U8) (λ_=>True) (enc (X:=Bool)) λx y=>y=AP x.val
abbrev Iq:Spc:=aG (a1 U8) (λ_=>True) (enc (X:=Bool)) λx y=>y=RW x.val
abbrev wn:Spc:=aG (a1 B) (λ_=>True) (enc (X:=Bool)) λx y=>y=aB x
def Mu:ak tj sB S (a1 U8) (λ_=>True) (enc (X:=Bool)) λx y=>y=AP x.val:=by
 rintro⟨c⟩ -;simp[tj,sB,AP]
 repeat' first|apply And.intro|intro _
 all_goals first|omega|(rw[qGb];simp;omega)
def Uj:ak rC qg S (a1 U8) (λ_=>True) (enc (X:=Bool)) λx y=>y=AP x.val:=by
 rintro⟨c⟩ -;simp[rC,qg,AP]
 repeat' first|apply And.intro|intro _
 all_goals first|omega|(rw[qGb];simp;omega)
def Mt(h1:S cE=tT):ak ti sA S (a1 U8) (λ_=>True) (enc (X:=Bool)) λx y=>y=RW x.val:=by
 rintro⟨c⟩ -;simp[ti,sA,h1,RW,-fB'];rcases hb:AP c<;>simp[hb]
 repeat' first|apply And.intro|intro _
 all_goals first|omega|(rw[qGb];simp;omega)
def Xs(h1:S lM=tT):ak uh tU S (a1 U8) (λ_=>True) (enc (X:=Bool)) λx y=>y=RW x.val:=by
 rintro⟨c⟩ -;simp[uh,tU,h1,RW,-fB'];rcases hb:AP c<;>simp[hb]
 repeat' first|apply And.intro|intro _
 all_goals first|omega|(rw[qGb];simp;omega)
theorem JY(h1:S lM=tT)(h2:S xa=Iq):ak iK ix S (a1 B) (λ_=>True) (enc (X:=Bool)) λx y=>y=aB x:=by
 rintro s -;simp[iK,ix,h1,h2];refineλ_=>⟨λl _=>⟨λp=>⟨by omega,λc hc=>⟨λhb=>(tP λh=>by rw[h.2.2.1 c hc]at hb;cases hb).symm,λhb=>?_⟩⟩,λp=>(tP λh=>by have:=h.2.1;omega).symm⟩,λl=>(tP λh=>by have:=h.1;omega).symm⟩
 refine au (X:=Nat) [0] [] (λk=>1<=k/\k<=s.size/\∀(j:Nat) (c:UInt8),j<k->s.data[j]? =some c->RW c.toNat=true) (λk=>[(3,enc (k:Int))]) (λ_=>[]) (λk=>s.size -k) 1 ⟨by omega,by omega,λj d q a=>?_⟩ ?_
 ·have:j=0:=by omega
  subst this;rw[hc]at a;cases a;simp[RW,hb]
 rintro k ⟨h3,h4,h5⟩;simp[h2];refineλ_=>⟨λhk=>⟨by omega,λd a=>⟨λb=>(tP λh=>by rw[h.2.2.2 k d a]at b;cases b).symm,λr=>⟨by simp only[InR];omega,k+1,⟨by omega,by omega,λj e q he=>?_⟩,by omega,by omega⟩⟩⟩,λhk=>?_⟩
 ·by_cases t:j=k
  ·subst t;rw[a]at he;cases he;exact r
  ·exact h5 j e (by omega) he
 ·refine(XE ⟨by omega,by omega,λd a=>by rw[hc]at a;cases a;exact hb,λj e he=>h5 j e ?_ he⟩).symm;have:=(qFN.1 he).1;have:j<s.size:=this;omega
theorem F4(h1:S cE=tT)(h2:S fD=Iq):ak nr mT S (a1 B) (λ_=>True) (enc (X:=Bool)) λx y=>y=aB x:=by
 rintro s -;simp[nr,mT,h1,h2];refineλ_=>⟨λl _=>⟨λp=>⟨by omega,λc hc=>⟨λhb=>(tP λh=>by rw[h.2.2.1 c hc]at hb;cases hb).symm,λhb _=>?_⟩⟩,λp=>(tP λh=>by have:=h.2.1;omega).symm⟩,λl=>(tP λh=>by have:=h.1;omega).symm⟩
 refine ah (X:=Unit) [0] [] s.size (λk _=>∀(j:Nat) (c:UInt8),j<k->s.data[j]? =some c->RW c.toNat=true) (λ_=>[]) (λ_=>[]) () (by intro j d q;omega) ?_ ?_
 ·rintro k -hk h5;simp[h2];refine⟨hk,λd a=>⟨λb=>(tP λh=>by rw[h.2.2.2 k d a]at b;cases b).symm,λr j e q he=>?_⟩⟩;by_cases t:j=k
  ·subst t;rw[a]at he;cases he;exact r
  ·exact h5 j e (by omega) he
 ·rintro -h5;simp;refine(XE ⟨by omega,by omega,λd a=>by rw[hc]at a;cases a;exact hb,λj e he=>h5 j e ?_ he⟩).symm;exact(qFN.1 he).1
end
section

open Cod (enc dec)
variable {dq:Prop}
structure qpW where
 txt:B
 fin:Int
 kind:Int
 text:B
 pos:Int
section
variable {Y Z:Type}
variable {P:Program}{S:Nat->Spc}{f:Nat}{im:List Nat}{cc:CC}{rs:List aj}{N:Nat}
end
section
variable {Y Z:Type}
variable {P:Program}{S:Nat->Spc}{f:Nat}{im:List Nat}{cc:CC}{rs:List aj}{N:Nat}
end
end
section
section
variable (N:qpW->Option (qpW×Cond))(O:qpW->Option (qpW×Cond))
end
section
variable (A:qpW->Bool->Option (qpW×Pat))(O:qpW->Option (qpW×Cond))
end
def GlobE:Glob:=⟨0,E0,E0,E0,E0,E0,false,0,0, [], []⟩
def Of:B:=⟨#[119,111,114,100]⟩
def qhQ:B:=⟨#[116,97,103]⟩
def Om:B:=⟨#[102,101,97,116]⟩
def ValsT:List B:=[⟨#[97]⟩,⟨#[98]⟩,⟨#[97,46,42]⟩,⟨#[91,97,98,93]⟩]
def ValsI:List B:=[⟨#[97]⟩,⟨#[98]⟩,⟨#[97,46,42]⟩,⟨#[91,97,98,93]⟩,⟨#[88]⟩,⟨#[]⟩,⟨#[99,63]⟩,⟨#[97,124,98]⟩,⟨#[89]⟩,⟨#[97,124,88]⟩]
def Attr2:List B:=[Of,qhQ]
def FeatL:List B:=[⟨#[112]⟩,⟨#[113]⟩]
def NumL:List B:=[⟨#[49]⟩,⟨#[50]⟩]
def qwX:B:=⟨#[110]⟩
inductive GA (lb:List B):Cond->Prop
 |val (n v:B) (f:Bool) (h1:n∈Attr2) (h2:v∈ValsI):GA lb ⟨2,n,E0,v,E0,f, []⟩
 |feat (v:B) (h:v∈FeatL):GA lb ⟨3,Om,E0,v,E0,false, []⟩
 |same (n l a:B) (h1:n∈Attr2) (h2:l∈lb) (h3:a∈Attr2):GA lb ⟨4,n,a,E0,l,false, []⟩
 |reg (n:B) (h:n∈Types):GA lb ⟨5,n,E0,E0,E0,false, []⟩
 |regk (n v:B) (h1:n∈Types) (h2:v∈NumL):GA lb ⟨5,n,qwX,v,E0,false, []⟩
inductive GI (lb:List B):Nat->Cond->Prop
 |atom (n:Nat) (c:Cond) (h:GA lb c):GI lb n c
 |not (n:Nat) (k:Cond) (h:GI lb n k):GI lb (n+1) ⟨6,E0,E0,E0,E0,false, [k]⟩
 |two (n:Nat) (op:Int) (a b:Cond) (ho:op=7\/op=8) (h1:GI lb n a) (h2:GI lb n b):GI lb (n+1) ⟨op,E0,E0,E0,E0,false, [a,b]⟩
inductive GC (lb:List B) (n:Nat):Cond->Prop
 |any:GC lb n ⟨1,E0,E0,E0,E0,false, []⟩
 |top (v:B) (f:Bool) (h:v∈ValsT):GC lb n ⟨2,E0,E0,v,E0,f, []⟩
 |inner (c:Cond) (h:GI lb n c):GC lb n c
def yt{lb:List B}{c:Cond}(h:GA lb c):c.kids=[]:=by cases h<;>rfl
def qei{lb:List B} :∀{n:Nat} {c:Cond},GI lb n c->CS n c
 | _,_, .atom n c h=>qcF (yt h)
 | _,_, .not n k h=>qsj rfl rfl (qei h)
 | _,_, .two n op a b _ h1 h2=>qsi rfl rfl (qei h1) (qei h2)
def qvi{lb:List B}{n:Nat}{c:Cond}(h:GC lb n c):CS n c:=by
 cases h with
 |any=>exact qcF rfl
 |top v f h=>exact qcF rfl
 |inner c h=>exact qei h
def qrN(l:List B)(x:B):Bool:=l.any λz=>decide (z=x)
def ZB(l:List B)(x:B):qrN l x=true↔x∈l:=by
 unfold qrN;rw[qGP];exact⟨λ⟨z,h1,h2⟩=>by rw[decide_eq_true_eq]at h2;rwa [<-h2],λh=>⟨x,h,decide_eq_true rfl⟩⟩
instance decMem (l:List B) (x:B):Decidable (x∈l):=if h:qrN l x=true then .isTrue ((ZB l x).1 h)else .isFalse λa=>h ((ZB l x).2 a)
mutual
def Av(lb:List B):Cond->Cond
 | .mk op n a v l f ks=>if op=4 then(if l∈lb then .mk op n a v l f ks else⟨2,n,E0,⟨#[97,124,88]⟩,E0,false, []⟩)else .mk op n a v l f (YP lb ks)
def YP(lb:List B):List Cond->List Cond
 | []=>[]
 |k::ks=>Av lb k::YP lb ks
end
def SJ(lb:List B):∀l:List Cond,YP lb l=l.map (Av lb)
 | []=>by rw[YP];rfl
 |k::l=>by rw[YP,SJ lb l];rfl
def my(lb:List B)(c:Cond):Av lb c=if c.op=4 then(if c.lab∈lb then c else⟨2,c.name,E0,⟨#[97,124,88]⟩,E0,false, []⟩)else⟨c.op,c.name,c.arg,c.val,c.lab,c.fold,c.kids.map (Av lb)⟩:=by
 cases c;rw[Av,SJ]
def qbX(lb:List B):Av lb Cond0=Cond0:=by
 rw[my,if_neg (show ¬Cond0.op=4 from by decide)];rfl
mutual
def nV(lb:List B):Pat->Pat
 | .mk op c l r mn mx ks=>⟨op,Av lb c,l,r,mn,mx,QA lb ks⟩
def QA(lb:List B):List Pat->List Pat
 | []=>[]
 |k::ks=>nV lb k::QA lb ks
end
def Qz(lb:List B):∀l:List Pat,QA lb l=l.map (nV lb)
 | []=>by rw[QA];rfl
 |k::l=>by rw[QA,Qz lb l];rfl
def ul(lb:List B)(p:Pat):nV lb p=⟨p.op,Av lb p.cond,p.lab,p.reg,p.mn,p.mx,p.kids.map (nV lb)⟩:=by
 cases p;rw[nV,Qz]
def FG(out:List B)(x:B):List B:=if x∈out then out else out++ [x]
mutual
def jW:Pat->List B->List B
 | .mk op c l r mn mx ks,out=>if op=1/\l≠E0 then FG out l else qaz ks out
def qaz:List Pat->List B->List B
 | [],out=>out
 |k::ks,out=>qaz ks (jW k out)
end
def Qy:∀(l:List Pat) (out:List B),qaz l out=l.foldl (λo k=>jW k o) out
 | [],out=>by rw[qaz];rfl
 |k::l,out=>by rw[qaz,Qy l];rfl
def rQ(p:Pat)(out:List B):jW p out=if p.op=1/\p.lab≠E0 then FG out p.lab else p.kids.foldl (λo k=>jW k o) out:=by
 cases p;rw[jW,Qy]
theorem VV{lb lb':List B} :∀{n:Nat} {c:Cond},GI lb n c->GI lb' n (Av lb' c)
 | _,_, .atom n c h=>by
   cases h with
   |val nm v f h1 h2=>rw[my,if_neg (by decide:¬(2:Int)=4)];exact .atom _ _ (.val nm v f h1 h2)
   |feat v h=>rw[my,if_neg (by decide:¬(3:Int)=4)];exact .atom _ _ (.feat v h)
   | same nm l a h1 h2 h3=>
     rw[my,if_pos rfl];split
     ·rename_i hl;exact .atom _ _ (.same nm l a h1 hl h3)
     ·exact .atom _ _ (.val nm _ false h1 (by simp[ValsI]))
   |reg nm h=>rw[my,if_neg (by decide:¬(5:Int)=4)];exact .atom _ _ (.reg nm h)
   |regk nm v h1 h2=>rw[my,if_neg (by decide:¬(5:Int)=4)];exact .atom _ _ (.regk nm v h1 h2)
 | _,_, .not n k h=>by
   rw[my,if_neg (by decide:¬(6:Int)=4)];exact .not n _ (VV h)
 | _,_, .two n op a b ho h1 h2=>by
   rw[my,if_neg (show ¬op=4 by omega)];exact .two n op _ _ ho (VV h1) (VV h2)
def qrP{lb lb':List B}{n:Nat}{c:Cond}(h:GC lb n c):GC lb' n (Av lb' c):=by
 cases h with
 |any=>rw[my,if_neg (by decide:¬(1:Int)=4)];exact .any
 |top v f h=>rw[my,if_neg (by decide:¬(2:Int)=4)];exact .top v f h
 |inner c h=>exact .inner _ (VV h)
def qhk{lb lb':List B}{p:Pat}(h:qtJ lb p):qtJ lb (nV lb' p):=by
 rw[ul];rcases h with⟨h1,h2,h3,h4,h5,h6⟩|⟨h1,h2,h3,h4,h5,h6,a⟩
 ·exact .inl ⟨h1,h2,h3,h4,h5,by show p.kids.map _=[];rw[h6];rfl⟩
 ·exact .inr ⟨h1,by show Av lb' p.cond=_;rw[h2,qbX],h3,h4,h5,h6,by show p.kids.map _=[];rw[a];rfl⟩
def qmz{lb lb':List B} :∀n p,WP lb n p->WP lb n (nV lb' p):=by
 refine JP λn p hp h=>?_
 rcases Aa hp with hp|⟨m,rfl,(⟨h1,h2,h3,h4,h5,h6,a,b,c,l,hb⟩|⟨h1,h2,h3,h4,h5,a,c,l⟩)⟩
 ·exact qz0 (qhk hp)
 ·obtain⟨j,d,_,a1⟩:=h a (by rw[c];simp);obtain⟨q,k,_,a2⟩:=h b (by rw[c];simp);have d:j=m:=by omega
  have k:q=m:=by omega
  subst d;subst k;rw[ul];exact .inr (.inl ⟨h1,by show Av lb' p.cond=_;rw[h2,qbX],h3,h4,h5,h6,_,_,by show p.kids.map _=_;rw[c];rfl,a1,a2⟩)
 ·obtain⟨j,d,_,a1⟩:=h a (by rw[c];simp);have d:j=m:=by omega
  subst d;rw[ul];exact .inr (.inr ⟨h1,by show Av lb' p.cond=_;rw[h2,qbX],h3,h4,h5,_,by show p.kids.map _=_;rw[c];rfl,a1⟩)
def Zr(lb:List B)(p:Pat):aq (nV lb p)=(aq p).map (nV lb):=by
 induction p using fg with|_ p c=>?_
 rw[bc,bc p,ul];simp only;split
 ·rw[List.map_singleton,ul]
 ·rw[List.flatMap_map,List.map_flatMap];have:∀ks:List Pat,(∀k∈ks,aq (nV lb k)=(aq k).map (nV lb))->ks.flatMap (λa=>aq (nV lb a))=ks.flatMap (λa=>(aq a).map (nV lb)):=by
   intro ks
   induction ks with
   |nil=>intro _;rfl
   | cons k ks b=>
     intro h;rw[qGf,qGf,h k (by simp),b λz hz=>h z (by simp[hz])]
  exact this p.kids c
def qlr(lb:List B)(p:Pat):∀out,jW (nV lb p) out=jW p out:=by
 induction p using fg with|_ p b=>?_
 intro out;rw[rQ,rQ p,ul];simp only;split
 ·rfl
 ·have:∀(ks:List Pat) (o:List B),(∀k∈ks,∀out,jW (nV lb k) out=jW k out)->(ks.map (nV lb)).foldl (λo k=>jW k o) o=ks.foldl (λo k=>jW k o) o:=by
   intro ks
   induction ks with
   |nil=>intro o _;rfl
   | cons k ks a=>
     intro o h;rw[qF6,qGC,qGC,h k (by simp),a _ λz hz=>h z (by simp[hz])]
  exact this p.kids out b
def qlP{out:List B}{x y:B}(h:y∈FG out x):y∈out\/y=x:=by
 unfold FG at h;split at h
 ·exact .inl h
 ·rcases qFG.1 h with h|h
  ·exact .inl h
  ·exact .inr (by simpa using h)
theorem qoX{lb:List B} :∀n p,WP lb n p->∀out,(∀y∈jW p out,y∈out\/y∈lb):=by
 refine JP λn p hp c=>λout y a=>?_
 rw[rQ]at a;split at a
 ·rename_i h;rcases qlP a with h1|rfl
  ·exact .inl h1
  ·rcases Aa hp with(⟨h1,h2,_⟩|⟨h1,_⟩)|⟨m,rfl,(⟨h1,_⟩|⟨h1,_⟩)⟩
   ·exact .inr (h2.resolve_left h.2)
   ·omega
   ·omega
   ·omega
 ·have:∀(ks:List Pat) (o:List B),(∀k∈ks,k∈p.kids)->y∈ks.foldl (λo k=>jW k o) o->y∈o\/y∈lb:=by
   intro ks
   induction ks with
   |nil=>intro o _ h;exact .inl h
   | cons k ks b=>
     intro o hk h;rw[qGC]at h;rcases b _ (λz hz=>hk z (by simp[hz])) h with h1|h1
     ·obtain⟨m,_,_,h2⟩:=c k (hk k (by simp));exact h2 o y h1
     ·exact .inr h1
  exact this p.kids out (λ_ h=>h) a
def qe2:List B:=[⟨#[97]⟩,⟨#[98,124,99]⟩,⟨#[46]⟩]
def qaJ:List B:=[⟨#[111,98,106]⟩,⟨#[100,101,116]⟩,⟨#[]⟩]
def qe1:List B:=[⟨#[83]⟩,⟨#[78,80]⟩,⟨#[86,80]⟩]
inductive GG (lb:List B):Nat->Glob->Prop
 |bound (n:Nat) (a:B) (h:a∈lb):GG lb n ⟨1,a,E0,E0,E0,E0,false,0,0, [], []⟩
 |val (n:Nat) (a v:B) (f:Bool) (h1:a∈lb) (h2:v∈qe2):GG lb n ⟨2,a,E0,Of,E0,v,f,0,0, [], []⟩
 |same (n:Nat) (a b g:B) (h1:a∈lb) (h2:b∈lb) (h3:g∈Attr2):GG lb n ⟨3,a,b,Of,g,E0,false,0,0, [], []⟩
 |dist (n:Nat) (a b:B) (mn mx:Int) (h1:a∈lb) (h2:b∈lb) (h3: -2<=mn) (h4:mn<=2) (h5:mn<=mx) (h6:mx<=mn+3):GG lb n ⟨4,a,b,E0,E0,E0,false,mn,mx, [], []⟩
 |reg (n:Nat) (a b t:B) (h1:a∈lb) (h2:b∈lb) (h3:t∈Types):GG lb n ⟨5,a,b,t,E0,E0,false,0,0, [], []⟩
 |head (n:Nat) (op:Int) (a b:B) (ho:op=6\/op=7) (h1:a∈lb) (h2:b∈lb):GG lb n ⟨op,a,b,E0,E0,E0,false,0,0, [], []⟩
 |path (n:Nat) (a b:B) (l:List B) (h1:a∈lb) (h2:b∈lb) (h3:l.length<=2) (h4:∀x∈l,x∈qaJ):GG lb n ⟨8,a,b,E0,E0,E0,false,0,0,l, []⟩
 |node (n:Nat) (a b t:B) (h1:a∈lb) (h2:b∈lb) (h3:t∈qe1):GG lb n ⟨9,a,b,t,E0,E0,false,0,0, [], []⟩
 |depth (n:Nat) (a:B) (mn mx:Int) (h1:a∈lb) (h3:0<=mn) (h4:mn<=2) (h5:mn<=mx) (h6:mx<=mn+1):GG lb n ⟨10,a,E0,E0,E0,E0,false,mn,mx, [], []⟩
 |not (n:Nat) (k:Glob) (h:GG lb n k):GG lb (n+1) ⟨11,E0,E0,E0,E0,E0,false,0,0, [], [k]⟩
 |two (n:Nat) (op:Int) (a b:Glob) (ho:op=12\/op=13) (h1:GG lb n a) (h2:GG lb n b):GG lb (n+1) ⟨op,E0,E0,E0,E0,E0,false,0,0, [], [a,b]⟩
def GF(f:vR):Prop:=(f.op=1\/f.op=2\/f.op=3)/\f.reg∈Types
structure GQ (n:Nat) (q:Qry):Prop where
 lab:∃lb,qmj lb/\WP lb n q.pat
 cond:∀y∈aq q.pat,GC (jW q.pat []) 1 y.cond
 glob:q.glob=GlobE\/GG (jW q.pat []) 2 q.glob
 filts:q.filts.length<=1/\∀f∈q.filts,GF f
 strat:0<=q.strat/\q.strat< 4
end
end Go.Gv
