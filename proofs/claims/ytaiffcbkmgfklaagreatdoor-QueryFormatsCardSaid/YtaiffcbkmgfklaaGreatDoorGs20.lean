/- A part of the framework and of the walks: W11 W12 W4 W5 W6 W7 W8 W13 T18 W14 T19 W15 T20 W16 W9. -/
import Derived.Test.YtaiffcbkmgfklaaGreatDoorGs19
set_option linter.unusedSimpArgs false
set_option linter.unusedVariables false
set_option maxRecDepth 100000

namespace Go.Gv
open Cod (enc dec)
theorem F3 {tp I tp' I':Nat→Prop} {w w':World} {s:Value} {es:List D} (hes: ∀d∈es,∃n,d= .v (.int .i64 n)) (h:R tp I w s (.list 1 es)) (hI: ∀c,I c→I' c∧w'.heap[c]?=w.heap[c]?):R tp' I' w' s (.list 1 es):=by
 cases h with
 | nolist a cap _=> exact .nolist _ _ _
 | list b off cap n es f hb hc hm hn hcell h1 h2=>
   refine .list b off cap _ es f (hI b hb).1 hc hm hn (fun k c hk=> by rw[World.cell?_of_block (w:=w) (hI b hb).2];exact hcell k c hk) h1 (fun k c hk=> ?_)
   have hc':=List.mem_of_getElem? hk
   simp only[cJ,List.mem_flatMap] at hc'
   obtain⟨d,hd,hcd⟩:=hc'
   obtain⟨n,rfl⟩:=hes d hd
   simp[D.cells] at hcd
   subst hcd
   have:=h2 k _ hk
   generalize f k=y at this ⊢
   cases this with
   | v _ a1 a2=> exact .v _ a1 a2
theorem G1 {P:Program} {im:List Nat} {N:Nat} {code:Code} {a b:CC} (h:bm P im N code=some (.seq a b)): ∃x y,code= .seq x y∧bm P im N x=some a∧bm P im N y=some b:=by
 rcases f8 h with⟨h,_⟩ | ⟨_,_,_,_,h,_⟩ | ⟨_,_,_,_,_,h⟩ | ⟨a',b',x,y,h1,h2,h3,h4⟩ | ⟨_,_,_,_,_,_,h,_⟩ | ⟨_,_,_,_,h,_⟩ | ⟨_,_,_,h,_⟩ | ⟨_,_,h⟩ | ⟨_,h⟩ <;> try (simp at h;done)
 cases h2
 exact⟨a',b',h1,h3,h4⟩
abbrev s_m_Next:Spc:=cY (aT (a1 Int)) (fun x=> x.2≤1000000000) (enc (X:=Int)) (fun x y=> x.2 < 1∧y=0∨1≤x.2∧0≤y∧y < x.2)
section
variable {P:Program} {S:Nat→Spc} {f:Nat} {im:List Nat} {N:Nat}
theorem SX (hS: ∀f,Tri P f (S f).pt) (hm:S oo=xe) (h:aS P f im qY vN N) (hN:2≤N):Tri P f s_m_Next.pt:=by
 obtain⟨Ea,enter,fn,code,h1,h2,h3,h4,h5⟩:=h
 subst h3
 rw[TR] at h4
 obtain⟨x0,y0,rfl,hc0,h4⟩:=G1 h4
 obtain⟨xA,yA,rfl,hcA,h4⟩:=G1 h4
 obtain⟨xB,xC,rfl,hcB,hcC⟩:=G1 h4
 intro O tp w vs ds H d K hO htl hsat hlen hargs hA
 refine⟨enter,calls_of_wp h1 h2 ?_⟩
 simp only[s_m_Next,tj] at hA
 cases hd: (aT (a1 Int)).dec ds with
 | none=> rw[hd] at hA;exact hA.elim
 | some x=>
 rw[hd] at hA
 obtain⟨L,n⟩:=x
 obtain⟨hp,hK⟩:=hA
 have hl:=(aT (a1 Int)).le ds (L,n) hd
 have hl1:ds.length=2:=hl.1
 match ds,vs,hl,hl1,hlen,hargs with
 | [d0,d1], [v0,v1],hl,_,_,hargs=>
 have e0:d0= .tape L:=by
  have:=hl.2 0 d0 (.tape L) rfl rfl
  cases this;rfl
 have e1:d1= .v (.int .i64 n):=by
  have:=hl.2 1 d1 (.v (.int .i64 n)) rfl rfl
  cases this;rfl
 subst e0;subst e1
 have r1:=(hargs 1 v1 _ rfl rfl).inv_v
 subst r1
 have r0:=hargs 0 v0 _ rfl rfl
 cases r0 with
 | tape b _ s i el hb hh g0 g1 gs hR=>
 obtain⟨a,len,cap,rfl⟩: ∃a len cap,s= .slice a len cap:=by
  generalize L.map (fun n=> D.v (.int .i64 n))=es at hR
  cases hR <;> exact⟨_,_,_,rfl⟩
 have hlen: (len:Int)≤9223372036854775807:=by
  generalize L.map (fun n=> D.v (.int .i64 n))=es at hR
  cases hR with
  | nolist=> simp
  | list b off cap n es f hI hc hm=> simp only[maxLen] at hm;omega
 have hLl:len=L.length:=gs
 have hbl:=htl.1 b hb
 -- the first piece: the tape's memory is the frame's own
 let O2:Nat→Prop:=fun x=> (O x∨eU H x)∧x≠b
 let tp2:Nat→Prop:=fun x=> tp x∧x≠b
 let E2:pR:= { O:=O2,tp0:=tp2,w0:=w,own0:=fun x=> x=b,N:=fn.ntmps }
 let H2:ae:=aq cZ 0 (some (.box b [.v (.slice a len cap), .v (.int .i64 i)]))
 have hownlt: ∀c,eU H c→c < w.heap.size:=fun c ⟨j,r,k1,k2⟩=> (hsat.ok j r k1).lt k2
 have h2: ∀j r,H2 j=some r→j=0∧r= .box b [.v (.slice a len cap), .v (.int .i64 i)]:=fun j r hj=> by
  by_cases e:j=0
  ·subst e
   simp only[H2,aq,if_true] at hj
   cases hj
   exact⟨rfl,rfl⟩
  ·simp[H2,aq,e,cZ] at hj
 have hst:St E2 (eS [.bptr 0 b 0, .v (.int .i64 n)]) H2 { tmps:= #[.pointer (some ⟨b,0,none⟩), .int .i64 n] ++Array.replicate (fn.ntmps -2) undef,defers:= [] } w:=by
  refine⟨rfl,?_,tp2,⟨fun c hc=> hc.1.elim (hO c) (hownlt c),fun c hc=> hc,fun c hc=> .inl hc,⟨fun c hc=> htl.1 c hc.1,fun p hp=> ⟨fun h=> (htl.2 p hp).1 h.1,fun h=> (htl.2 p hp).1 (h ▸hb),(htl.2 p hp).2.2⟩⟩, .refl _ _ _,fun c ⟨j,r,k1,k2⟩=> ?_,⟨fun j k r q c k1 k2 k3 k4=> ?_,fun j r c k1 k2=> ?_,fun j r k1=> ?_⟩⟩,fun t=> ?_⟩
  ·show(_:Array Value).size=fn.ntmps
   simp
   omega
  ·obtain⟨_,rfl⟩:=h2 j r k1
   cases k2
   exact .inl rfl
  ·rw[(h2 j r k1).1,(h2 k q k2).1]
  ·obtain⟨_,rfl⟩:=h2 j r k1
   cases k2
   exact⟨fun h=> h.2 rfl,fun h=> h.2 rfl⟩
  ·obtain⟨_,rfl⟩:=h2 j r k1
   refine⟨_,el,hh,rfl,fun k y c hy hc=> ?_⟩
   rcases k with _ | _ | k
   ·simp at hy hc;subst hy;subst hc;exact⟨rfl, .v _ rfl (fun s hs=> by cases hs)⟩
   ·simp at hy hc;subst hy;subst hc;exact⟨rfl, .v _ rfl (fun s hs=> by cases hs)⟩
   ·simp at hy
  ·have q0: (#[Value.pointer (some ⟨b,0,none⟩), .int .i64 n] ++Array.replicate (fn.ntmps -2) undef).getD 0 undef=Value.pointer (some ⟨b,0,none⟩):=by
    rw[Array.getD_eq_getD_getElem?,Array.getElem?_append_left (by simp)];rfl
   have q1: (#[Value.pointer (some ⟨b,0,none⟩), .int .i64 n] ++Array.replicate (fn.ntmps -2) undef).getD 1 undef=Value.int .i64 n:=by
    rw[Array.getD_eq_getD_getElem?,Array.getElem?_append_left (by simp)];rfl
   rcases t with _ | _ | t
   ·show R _ _ _ (Array.getD _ 0 undef) _
    rw[q0];exact .bptr _ _ _
   ·show R _ _ _ (Array.getD _ 1 undef) _
    rw[q1];exact .v _ rfl (fun s hs=> by cases hs)
   ·exact .any _
 -- what is known when the frame OP left the tape's place at j
 have fin: ∀ (w2:World) (j y:Int) (el':Nat),w2.os=w.os→w2.tape=w.tape→w2.output=w.output→w.heap.size≤w2.heap.size→(∀c,c < w.heap.size→ ¬tp c→w2.heap[c]?=w.heap[c]?)→
  (∀c,tp c→c≠b→TapeStep w w2 c)→w2.heap[b]?=some (.cells #[.slice a len cap, .int .i64 j] el' (0,0))→0≤j→j≤len→w.drawn≤w2.drawn→
  (n < 1∧y=0∨1≤n∧0≤y∧y < n)→Pn O tp H w K (.returned (.int .i64 y)) w2:=by
  intro w2 j y el' s1 s2 s3 s4 s5 s6 s7 s8 s9 s11 s10
  have htapes: ∀c,tp c→TapeStep w w2 c:=fun c hc=> by
   by_cases e:c=b
   ·subst e
    intro s' i' el0 hh' _ _
    rw[hh] at hh'
    cases hh'
    exact⟨j,el',s7,s8,s9⟩
   ·exact s6 c hc e
  refine⟨_, .v (.int .i64 y),H,tp,rfl,hK y s10,fun c hc=> hc,fun c hc=> .inl hc,fun c hc=> Nat.lt_of_lt_of_le (htl.1 c hc) s4,⟨s1,s2,s3,s4,fun c hc _ ht=> s5 c hc ht,htapes,s11⟩,fun c hc=> .inl hc,
   ⟨hsat.dis,hsat.out,fun k r hk=> (hsat.ok k r hk).conv (fun x d hr=> hr.mono (fun _ h=> h) (fun c hc=> ⟨⟨Nat.lt_of_lt_of_le hc.1 s4,hc.2.1,hc.2.2.1,hc.2.2.2⟩,s5 c hc.1 hc.2.2.1⟩) htapes) (fun c hc=> s5 c ((hsat.ok k r hk).lt hc) (hsat.out k r c hk hc).2)⟩, .v _ rfl (fun s hs=> by cases hs)⟩
 have hv:=WV (S:=S) b a len cap i n g0 hlen
 have cells2: ∀ (tp':Nat→Prop) (H':ae) (w':World) (j:Int),StW E2 tp' H' w'→H' 0=some (.box b [.v (.slice a len cap), .v (.int .i64 j)])→ ∃el',w'.heap[b]?=some (.cells #[.slice a len cap, .int .i64 j] el' (0,0)):=by
  intro tp' H' w' j hw hH
  obtain⟨xs,el',k1,k2,k3⟩:=hw.sat.ok 0 _ hH
  refine⟨el',?_⟩
  rw[k1]
  obtain⟨l⟩:=xs
  match l,k2,k3 with
  | [x,y],_,k3=>
    have a1:=(k3 0 x _ rfl rfl).2.inv_v
    have a2:=(k3 1 y _ rfl rfl).2.inv_v
    rw[a1,a2]
 have hret: ∀ (a':Act) (w':World) (σ':Sg) (H':ae),St E2 σ' H' a' w'→X5 b (.slice a len cap) i n .ret σ' H'→a'.defers= []∧ ∃v,(results fn a'.tmps).run P w'= .ok v w'∧Pn O tp H w K (.returned v) w':=by
  rintro a' w' σ' H' ⟨hd',hN',tp',hw',hr'⟩ ⟨k1,k2⟩
  obtain⟨v,r0,hrun,hRv,hq⟩:=od (H:=H') (K:=fun r=> r= .v (.int .i64 0)) h5 hr' hw'.sat.ok k1
  subst hq
  have:=hRv.inv_v
  subst this
  obtain⟨el',k3⟩:=cells2 tp' H' w' i hw' k2
  have st:=hw'.step
  refine⟨hd',_,hrun,fin w' i 0 el' st.os st.tape st.output st.size (fun c hc ht=> st.same c hc (fun e=> ht (e ▸hb)) (fun h=> ht h.1)) (fun c hc hcb=> st.tapes c ⟨hc,hcb⟩) k3 g0 g1 st.drawn ?_⟩
  rcases Int.lt_or_le n 1 with h | h
  ·exact .inl ⟨h,rfl⟩
  ·exact .inr ⟨h,by omega,by omega⟩
 have htail: ∀ (a':Act) (w':World) (σ':Sg) (H':ae),St E2 σ' H' a' w'→X5 b (.slice a len cap) i n .norm σ' H'→xC.wp P (bodyPost P fn (Pn O tp H w K)) a' w':=by
  rintro a1 w1 σ1 H1 ⟨hd1,hN1,tp1,hw1,hr1⟩ ⟨k1,k2,k3,k4⟩
  obtain⟨el1,k5⟩:=cells2 tp1 H1 w1 (i+1) hw1 k3
  have st1:=hw1.step
  have hsz1:w.heap.size≤w1.heap.size:=st1.size
  have same1: ∀c,c < w.heap.size→ ¬tp c→w1.heap[c]?=w.heap[c]?:=fun c hc ht=> st1.same c hc (fun e=> ht (e ▸hb)) (fun h=> ht h.1)
  have tp1o: ∀c,c < w.heap.size→tp1 c→tp2 c:=fun c hc h=> (hw1.tpn c h).elim id (fun h=> by
   have h:w.heap.size≤c:=h
   omega)
  have hb1: ¬tp1 b:=fun h=> (tp1o b hbl h).2 rfl
  let E3:pR:= { O:=O2,tp0:=tp1,w0:=w1,own0:=fun _=> False,N:=fn.ntmps }
  have himm: ∀c,cL O tp H w c→cL O2 tp1 cZ w1 c∧w1.heap[c]?=w.heap[c]?:=fun c hc=> ⟨⟨Nat.lt_of_lt_of_le hc.1 hsz1,fun h=> h.1.elim hc.2.1 hc.2.2.2,fun h=> hc.2.2.1 (tp1o c hc.1 h).1,fun⟨j,r,h,_⟩=> by simp[cZ] at h⟩,same1 c hc.1 hc.2.2.1⟩
  have hbi:cL O2 tp1 cZ w1 b:=⟨Nat.lt_of_lt_of_le hbl hsz1,fun h=> h.2 rfl,hb1,fun⟨j,r,h,_⟩=> by simp[cZ] at h⟩
  have hRs:R tp1 (cL O2 tp1 cZ w1) w1 (.slice a len cap) (.list 1 (L.map enc)):=F3 (es:=L.map fun n=> D.v (.int .i64 n)) (fun d hd=> by simp at hd;obtain⟨n,_,rfl⟩:=hd;exact⟨n,rfl⟩) hR himm
  have st3:St E3 (eS [.cptr [.list 1 (L.map enc), .v (.int .i64 (i+1))] 0, .v (.int .i64 n)]) cZ a1 w1:=by
   refine⟨hd1,hN1,tp1,⟨fun c hc=> Nat.lt_of_lt_of_le (hc.1.elim (hO c) (hownlt c)) hsz1,fun c hc=> hc,fun c hc=> .inl hc,⟨hw1.tpl.1,hw1.tpg.2.mono (fun _ h=> h) (fun b h=> h.elim)⟩, .refl _ _ _,fun c ⟨j,r,k1,k2⟩=> by simp[cZ] at k1,⟨fun j k r q c k1 k2 k3 k4=> by simp[cZ] at k1,fun j r c k1 k2=> by simp[cZ] at k1,fun j r k1=> by simp[cZ] at k1⟩⟩,fun t=> ?_⟩
   rcases t with _ | _ | t
   ·have r0:=hr1 0
    rw[k1] at r0
    generalize a1.tmps.getD 0 undef=v0 at r0 ⊢
    cases r0
    obtain⟨f,q1,q2,q3⟩:=sY (tp:=tp1) (I:=cL O2 tp1 cZ w1) (w:=w1) (cells:= [.list 1 (L.map enc), .v (.int .i64 (i+1))]) k5 rfl (by
     intro k y c hy hc
     rcases k with _ | _ | k
     ·simp at hy hc;subst hy;subst hc;exact⟨rfl,by simpa using hRs⟩
     ·simp at hy hc;subst hy;subst hc;exact⟨rfl, .v _ rfl (fun s hs=> by cases hs)⟩
     ·simp at hy)
    have:=Gv.R.cptr (tp:=tp1) (I:=cL O2 tp1 cZ w1) b 0 [.list 1 (L.map enc), .v (.int .i64 (i+1))] 0 f hbi q1 q2 q3
    simpa [eS] using this
   ·have r0:=hr1 1
    rw[k2] at r0
    have:=r0.inv_v
    show R _ _ _ _ (.v (.int .i64 n))
    rw[this]
    exact .v _ rfl (fun s hs=> by cases hs)
   ·exact .any _
  have hv3:=WU (S:=S) hm L i n g0 (by have:i < (len:Int):=k4;omega) hp (by omega)
  refine Code.wp_mono ?_ (jc (E:=E3) hS Ea qam xC (by rw[qbi];exact hcC) _ _ _ _ _ st3 hv3)
  intro e a2 w2 hp2
  cases e with
  | ret=>
    obtain⟨σ2,H2',⟨hd2,hN2,tp2',hw2,hr2⟩,y,k6,k7⟩:=hp2
    obtain⟨v,r0,hrun,hRv,hq⟩:=od (H:=H2') (K:=fun r=> r= .v (.int .i64 y)) h5 hr2 hw2.sat.ok k6
    subst hq
    have:=hRv.inv_v
    subst this
    have st2:=hw2.step
    have hsz2:w1.heap.size≤w2.heap.size:=st2.size
    have same2: ∀c,c < w1.heap.size→ ¬tp1 c→w2.heap[c]?=w1.heap[c]?:=fun c hc ht=> st2.same c hc (fun h=> h) ht
    refine⟨hd2,_,hrun,fin w2 (i+1) y el1 (st2.os.trans st1.os) (st2.tape.trans st1.tape) (st2.output.trans st1.output) (Nat.le_trans hsz1 hsz2) (fun c hc ht=> ?_) (fun c hc hcb=> (st1.tapes c ⟨hc,hcb⟩).trans (st2.tapes c (hw1.tpx c ⟨hc,hcb⟩))) ?_ (by omega) (by have:i < (len:Int):=k4;omega) (Nat.le_trans st1.drawn st2.drawn) k7⟩
    ·rw[same2 c (by omega) (fun h=> ht (tp1o c hc h).1),same1 c hc ht]
    ·rw[same2 b (by omega) hb1,k5]
  | normal=> obtain⟨σ2,H2',_,k⟩:=hp2;exact k.elim
  | exit j=> obtain⟨σ2,H2',_,k⟩:=hp2;exact k.elim
  | goto l=> exact hp2.elim
  | panic c=> exact hp2.elim
  | outgrown=> exact hp2.elim
 refine wp_seq (Code.wp_mono ?_ (jc (E:=E2) hS Ea qan x0 (by rw[qbl];exact hc0) (N9 S (.seq Zc X6) (X5 b (.slice a len cap) i n)) _ _ _ _ hst hv))
 intro e a1 w1 hp1
 cases e with
 | normal=>
   obtain⟨σ1,H1,st1,k1⟩:=hp1
   refine wp_seq (Code.wp_mono ?_ (jc (E:=E2) hS Ea Zc xA (by rw[qbk];exact hcA) (N9 S X6 (X5 b (.slice a len cap) i n)) _ _ _ _ st1 k1))
   intro e a1 w1 hp1
   cases e with
   | normal=>
     obtain⟨σ1,H1,st1,k1⟩:=hp1
     refine wp_seq (Code.wp_mono ?_ (jc (E:=E2) hS Ea X6 xB (by rw[qbj];exact hcB) (X5 b (.slice a len cap) i n) _ _ _ _ st1 k1))
     intro e a1 w1 hp1
     cases e with
     | normal=> obtain⟨σ1,H1,st1,k1⟩:=hp1;exact htail a1 w1 σ1 H1 st1 k1
     | ret=> obtain⟨σ1,H1,st1,k1⟩:=hp1;exact hret a1 w1 σ1 H1 st1 k1
     | exit j=> obtain⟨σ2,H2',_,k⟩:=hp1;exact k.elim
     | goto l=> exact hp1.elim
     | panic c=> exact hp1.elim
     | outgrown=> exact hp1.elim
   | ret=> obtain⟨σ1,H1,st1,k1⟩:=hp1;exact hret a1 w1 σ1 H1 st1 k1
   | exit j=> obtain⟨σ2,H2',_,k⟩:=hp1;exact k.elim
   | goto l=> exact hp1.elim
   | panic c=> exact hp1.elim
   | outgrown=> exact hp1.elim
 | ret=> obtain⟨σ1,H1,st1,k1⟩:=hp1;exact hret a1 w1 σ1 H1 st1 k1
 | exit j=> obtain⟨σ2,H2',_,k⟩:=hp1;exact k.elim
 | goto l=> exact hp1.elim
 | panic c=> exact hp1.elim
 | outgrown=> exact hp1.elim
end
end Go.Gv

namespace Go.Gv
open Cod (enc dec)
def zM (b:Nat) (L:List Int):Res:= .box b [.list 1 (L.map enc), .v (.int .i64 0)]
def qbM:PT:=fun d ds H K=> ∃l,(a1 (List Int)).dec ds=some l∧ ∀b L,K (.bptr d b 0) (aq H d (some (zM b L)))
def VC (cc:CC) (rs:List aK) (S:Nat→Spc):Prop:=
 ∀l:List Int,vc S cc (vO rs fun r H'=> ∃j b L,r= .bptr j b 0∧H' j=some (zM b L)) (eS [enc l]) cZ
section
variable {P:Program} {S:Nat→Spc} {f:Nat} {im:List Nat} {cc:CC} {rs:List aK} {N:Nat}
theorem N0 (hS: ∀f,Tri P f (S f).pt) (h:aS P f im cc rs N) (hN:1≤N) (hw:VC cc rs S):Tri P f qbM:=by
 obtain⟨Ea,enter,fn,code,h1,h2,h3,h4,h5⟩:=h
 refine nt hS Ea h1 h2 enter h3 h4 h5 ?_
 rintro ds H d K ⟨l,hd,hK⟩
 have hl:=(a1 (List Int)).le ds l hd
 refine⟨by rw[hl.1];exact hN,_,cZ,fun _=> 0,hl,fun i r h=> by simp[cZ] at h,fun i j r s h=> by simp[cZ] at h,_,hw l,?_⟩
 rintro r H' ⟨j,b,L,rfl,hj⟩
 refine⟨.bptr d b 0,cZ,aq H d (some (zM b L)),fun i=> if i=d then some j else none, .bptr _ _ _ _,fun j q h=> by simp[cZ] at h,hK b L,fun i s hi=> ?_,fun i j' k s q hi hj' e1 e2=> ?_⟩
 ·by_cases e:i=d
  ·subst e
   simp only[aq,if_true] at hi
   cases hi
   simpa using hj
  ·simp only[aq,e,if_false] at hi ⊢
   exact⟨hi,fun k q h=> by simp[cZ] at h⟩
 ·have a:i=d:=by
   by_cases e:i=d
   ·exact e
   ·simp[e] at e1
  have b:j'=d:=by
   by_cases e:j'=d
   ·exact e
   ·simp[e] at e2
  exact a.trans b.symm
abbrev s_m_New:Spc:=cY (a1 (List Int)) (fun _=> True) (fun L:List Int=> D.tape L) (fun _ _=> True)
theorem WB (hf:Tri P f qbM):Tri P f s_m_New.pt:=by
 intro O tp w vs ds H d K hO htl hsat hlen hargs hA
 simp only[s_m_New,tj] at hA
 cases hd: (a1 (List Int)).dec ds with
 | none=> rw[hd] at hA;exact hA.elim
 | some l=>
 rw[hd] at hA
 obtain⟨_,hK⟩:=hA
 have hownlt: ∀c,eU H c→c < w.heap.size:=fun c ⟨j,r,k1,k2⟩=> (hsat.ok j r k1).lt k2
 have hno: ∀c,¬eU cZ c:=fun c ⟨j,r,h,_⟩=> by simp[cZ] at h
 have himm: ∀c,cL O tp H w c→cL (fun c=> O c∨eU H c) tp cZ w c:=fun c hc=> ⟨hc.1,fun h=> h.elim hc.2.1 hc.2.2.2,hc.2.2.1,hno c⟩
 obtain⟨c1,c2⟩:=hf (fun c=> O c∨eU H c) tp w vs ds cZ 0 (fun r H'=> ∃b L,r= .bptr 0 b 0∧H'=aq cZ 0 (some (zM b L))) (fun c hc=> hc.elim (hO c) (hownlt c)) (htl.mono fun b h=> (hno b h).elim)
  ⟨fun i j r s b h=> by simp[cZ] at h,fun i r b h=> by simp[cZ] at h,fun i r h=> by simp[cZ] at h⟩ hlen
  (fun k x c hx hc=> (hargs k x c hx hc).mono (fun _ h=> h) (fun c hc=> ⟨himm c hc,rfl⟩) (fun b _=> .refl _ _)) ⟨l,hd,fun b L=> ⟨b,L,rfl,rfl⟩⟩
 refine⟨c1,c2.mono ?_⟩
 rintro e w1 ⟨x,r,H',tp',rfl,⟨b,L,rfl,rfl⟩,tpx,tpn,tpl,st,loc,sat,hR⟩
 cases hR
 have hH:aq cZ 0 (some (zM b L)) 0=some (zM b L):=rfl
 have hbo:eU (aq cZ 0 (some (zM b L))) b:=⟨0,_,hH,rfl⟩
 have hbs:w.heap.size≤b:=(loc b hbo).elim (fun h=> (hno b h).elim) id
 have hbl:b < w1.heap.size:=(sat.ok 0 _ hH).lt rfl
 have hbtp:=sat.out 0 _ b hH rfl
 have hsz:w.heap.size≤w1.heap.size:=st.size
 have old: ∀c,c < w.heap.size→ ¬tp c→ ¬ (tp' c∨c=b):=fun c hc ht h=> h.elim (fun h=> (tpn c h).elim ht (fun h=> by
  have h:w.heap.size≤c:=h
  omega)) (fun h=> by omega)
 have same: ∀c,c < w.heap.size→ ¬tp c→w1.heap[c]?=w.heap[c]?:=fun c hc ht=> st.same c hc (hno c) ht
 obtain⟨xs,el,q1,q2,q3⟩:=sat.ok 0 _ hH
 obtain⟨xl⟩:=xs
 match xl,q2,q3,q1 with
 | [s,y],_,q3,q1=>
 have a1':=(q3 0 s _ rfl rfl).2
 have a2:=(q3 1 y _ rfl rfl).2.inv_v
 subst a2
 have hsl:slen s=L.length:=by
  generalize hes:L.map enc=es at a1'
  have hl2:L.length=es.length:=by rw[←hes];simp
  cases a1' with
  | nolist=> simp at hl2;simp[slen,hl2]
  | list=> rw[hl2];rfl
 refine⟨_, .tape L,H,fun c=> tp' c∨c=b,rfl,hK L trivial,fun c hc=> .inl (tpx c hc),fun c hc=> hc.elim (tpn c) (fun e=> .inr (e ▸hbs)),fun c hc=> hc.elim (tpl c) (fun e=> e ▸hbl),
  ⟨st.os,st.tape,st.output,st.size,fun c hc _ ht=> same c hc ht,st.tapes,st.drawn⟩,fun c hc=> .inl hc,
  ⟨hsat.dis,fun i r c hi hc=> ⟨(hsat.out i r c hi hc).1,old c ((hsat.ok i r hi).lt hc) (hsat.out i r c hi hc).2⟩,fun i r hi=> (hsat.ok i r hi).conv (fun x d hr=> hr.mono (fun c hc=> .inl (tpx c hc)) (fun c hc=> ⟨⟨Nat.lt_of_lt_of_le hc.1 hsz,hc.2.1,old c hc.1 hc.2.2.1,hc.2.2.2⟩,same c hc.1 hc.2.2.1⟩) st.tapes) (fun c hc=> same c ((hsat.ok i r hi).lt hc) (hsat.out i r c hi hc).2)⟩,?_⟩
 refine .tape b L s 0 el (.inr rfl) q1 (by omega) (by omega) hsl ?_
 have a3:R tp' (cL (fun c=> O c∨eU H c) tp' (aq cZ 0 (some (zM b L))) w1) w1 s (.list 1 (L.map fun n=> D.v (.int .i64 n))):=a1'
 exact F3 (fun d hd=> by simp at hd;obtain⟨n,_,rfl⟩:=hd;exact⟨n,rfl⟩) a3 (fun c hc=> ⟨⟨hc.1,fun h=> hc.2.1 (.inl h),fun h=> h.elim hc.2.2.1 (fun e=> hc.2.2.2 (e ▸hbo)),fun h=> hc.2.1 (.inr h)⟩,rfl⟩)
end
end Go.Gv

namespace Go.Gv
open Cod (enc dec)
variable {S S0:Nat→Spc}
def XU {X:Type} (_:X):Prop:=True
end Go.Gv

namespace Go.Gv
open Cod (enc dec)
variable {S S0:Nat→Spc}
theorem SZ {X:Type} [Cod X] (l:List X) (k:Nat):List.take k (List.map enc l)=List.map enc (List.take k l):=List.map_take.symm
end Go.Gv

namespace Go.Gv
open Cod (enc dec)
variable {S S0:Nat→Spc}
end Go.Gv

namespace Go.Gv
open Cod (enc dec)
variable {S S0:Nat→Spc}
end Go.Gv

namespace Go.Gv
open Cod (enc dec)
variable {S S0:Nat→Spc}
def Ea {X:Type} (f:X→X) (a b:List X) (j:Nat):List X:=a++ ((b.take j).map f++b.drop j)
end Go.Gv

namespace Go.Gv
open Cod (enc dec)
variable {S S0:Nat→Spc}
end Go.Gv

namespace Go.Gv
def RFz (Hf:ae):Res→Res→Prop
 | .box b cs, .box b' cs'=> b=b'∧cs.length=cs'.length∧ ∀ (m:Nat) (c c':D),cs[m]?=some c→cs'[m]?=some c'→FrzTo Hf c c'
 | .row x el n es, .row x' el' n' es'=> x=x'∧el=el'∧n=n'∧es.length=es'.length∧(∀d∈es',d.kn=true∧d.cells.length=n)∧ ∀ (m:Nat) (c c':D),es[m]?=some c→es'[m]?=some c'→ ∀ (j:Nat) (e e':D),c.cells[j]?=some e→c'.cells[j]?=some e'→FrzTo Hf e e'
 | .tbox el b cs, .tbox el' b' cs'=> el=el'∧b=b'∧cs.length=cs'.length∧ ∀ (m:Nat) (c c':D),cs[m]?=some c→cs'[m]?=some c'→FrzTo Hf c c'
 | r,r'=> r=r'
theorem RFz.blk {Hf:ae} {r r':Res} (h:RFz Hf r r'):r'.blk=r.blk:=by
 cases r <;> cases r' <;> simp only[RFz] at h
 ·obtain⟨rfl,_⟩:=h;rfl
 all_goals first
  | (obtain⟨rfl,rfl,rfl,_⟩:=h;rfl)
  | (obtain⟨rfl,rfl,_⟩:=h;rfl)
  | (cases h;done)
  | (cases h;rfl)
theorem RFz.ok {tp I I':Nat→Prop} {w:World} {Hf:ae} {r r':Res} (h:RFz Hf r r') (hr:ResOk (R tp I w) w r) (hok: ∀i q,Hf i=some q→ResOk (R tp I w) w q) (hI: ∀b,I b→I' b) (hb: ∀i q b,Hf i=some q→q.blk=some b→I' b):ResOk (R tp I' w) w r':=by
 have fz: ∀ {c c':D} {y:Value},FrzTo Hf c c'→R tp I w y c→R tp I' w y c':=fun h hr=> h.R (H:=cZ) hok hI hb hr
 have same:ResOk (R tp I' w) w r:=hr.conv (fun x d hr=> hr.mono (fun _ h=> h) (fun b hb=> ⟨hI b hb,rfl⟩) (fun b _=> .refl _ _)) (fun _ _=> rfl)
 cases r with
 | box b cs=>
   cases r' with
   | box b' cs'=>
     obtain⟨rfl,hl,hc⟩:=h
     obtain⟨xs,el,h1,h2,h3⟩:=hr
     refine⟨xs,el,h1,h2.trans hl,fun k y c hy hc'=> ?_⟩
     have hk:k < cs.length:=by rw[hl];exact(List.getElem?_eq_some_iff.1 hc').1
     have h4:=h3 k y cs[k] hy (List.getElem?_eq_getElem hk)
     exact⟨h4.1,fz (hc k _ _ (List.getElem?_eq_getElem hk) hc') h4.2⟩
   | row x el n es=> cases h
   | iter b s p=> cases h
   | tbox b s p=> cases h
 | iter b s p=>
   cases r' with
   | box b' cs'=> cases h
   | row x el n es=> cases h
   | iter b' s' p'=> cases h;exact same
   | tbox b' s' p'=> cases h
 | tbox b s p=>
   cases r' with
   | box b' cs'=> cases h
   | row x el n es=> cases h
   | iter b' s' p'=> cases h
   | tbox b' s' cs'=>
     obtain⟨rfl,rfl,hl,hc⟩:=h
     obtain⟨xs,h1,h2,h3⟩:=hr
     refine⟨xs,h1,h2.trans hl,fun k y c hy hc'=> ?_⟩
     have hk:k < p.length:=by rw[hl];exact(List.getElem?_eq_some_iff.1 hc').1
     have h4:=h3 k y p[k] hy (List.getElem?_eq_getElem hk)
     exact⟨h4.1,fz (hc k _ _ (List.getElem?_eq_getElem hk) hc') h4.2⟩
 | row x el n es=>
   cases r' with
   | box b' cs'=> cases h
   | iter b' s' p'=> cases h
   | tbox b' s' p'=> cases h
   | row x' el' n' es'=>
     obtain⟨rfl,rfl,rfl,hl,hkn,hc⟩:=h
     obtain⟨xs,h1,h2,h3⟩:=hr
     refine⟨xs,hl ▸h1,hkn,fun k y c hy hc'=> ?_⟩
     have hw: ∀d∈es,d.cells.length=n:=fun d hd=> (h2 d hd).2
     have hw': ∀d∈es',d.cells.length=n:=fun d hd=> (hkn d hd).2
     have hfl:=bP hw
     have hfl':=bP hw'
     have hk:k < (cJ es).length:=by
      have:=(List.getElem?_eq_some_iff.1 hc').1
      rw[hfl,hl,←hfl'];exact this
     have hk2:k < es.length*n:=by rw[←hfl];exact hk
     have hn:0 < n:=by
      rcases Nat.eq_zero_or_pos n with e | e
      ·subst e;simp at hk2
      ·exact e
     have h4:=h3 k y (cJ es)[k] hy (List.getElem?_eq_getElem hk)
     refine⟨h4.1,fz ?_ h4.2⟩
     have hdm:k=(k/n) *n+k % n:=by have:=Nat.div_add_mod k n;rw[Nat.mul_comm] at this;omega
     have hmod:k % n < n:=Nat.mod_lt _ hn
     have g1:=iu hw (i:=k/n) (j:=k % n) hmod
     have g2:=iu hw' (i:=k/n) (j:=k % n) hmod
     rw[←hdm] at g1 g2
     rw[hc'] at g2
     rw[List.getElem?_eq_getElem hk] at g1
     cases e1:es[k/n]? with
     | none=> rw[e1] at g1;cases g1
     | some c1=>
       cases e2:es'[k/n]? with
       | none=> rw[e2] at g2;cases g2
       | some c2=>
         rw[e1] at g1
         rw[e2] at g2
         exact hc _ c1 c2 e1 e2 _ _ _ g1.symm g2.symm
def RFe (Hf:ae) (r r':Res):Prop:=r=r'∨RFz Hf r r'
theorem RFe.blk {Hf:ae} {r r':Res} (h:RFe Hf r r'):r'.blk=r.blk:=by
 rcases h with rfl | h
 ·rfl
 ·exact h.blk
theorem RFe.ok {tp I I':Nat→Prop} {w:World} {Hf:ae} {r r':Res} (h:RFe Hf r r') (hr:ResOk (R tp I w) w r) (hok: ∀i q,Hf i=some q→ResOk (R tp I w) w q) (hI: ∀b,I b→I' b) (hb: ∀i q b,Hf i=some q→q.blk=some b→I' b):ResOk (R tp I' w) w r':=by
 rcases h with rfl | h
 ·exact hr.conv (fun x d hr=> hr.mono (fun _ h=> h) (fun b hb=> ⟨hI b hb,rfl⟩) (fun b _=> .refl _ _)) (fun _ _=> rfl)
 ·exact h.ok hr hok hI hb
theorem isNilRow.blk' {r:Res} (h:isNilRow r):r.blk=none:=by
 cases r with
 | box b c=> exact h.elim
 | iter b s p=> exact h.elim
 | tbox b s p=> exact h.elim
 | row x el n es=> obtain⟨rfl,rfl⟩:=h;rfl
theorem Js {σ σ':Sg} {H H' Hf:ae} (ρ:Nat→Nat) (h1: ∀t,FrzTo Hf (σ t) (σ' t)) (h2: ∀i r,H' i=some r→(∃r0,H (ρ i)=some r0∧RFe Hf r0 r)∨isNilRow r)
 (h3: ∀i j r s,H' i=some r→H' j=some s→ρ i=ρ j→i=j∨isNilRow r∨isNilRow s) (h4: ∀i r,Hf i=some r→H i=some r∧ ∀j r',H' j=some r'→ρ j=i→isNilRow r'):Wk σ H σ' H':=by
 intro E a w ⟨hd,hN,tp,h,hr⟩
 have hblk: ∀i r c,H' i=some r→r.blk=some c→ ∃r0,H (ρ i)=some r0∧r0.blk=some c∧ ¬isNilRow r:=fun i r c k1 k2=> by
  have hn: ¬isNilRow r:=fun hn=> by rw[hn.blk'] at k2;cases k2
  rcases h2 i r k1 with⟨r0,k3,k4⟩ | k3
  ·exact⟨r0,k3,k4.blk ▸k2,hn⟩
  ·exact absurd k3 hn
 have hown: ∀c,eU H' c→eU H c:=fun c ⟨i,r,k1,k2⟩=> by
  obtain⟨r0,k3,k4,_⟩:=hblk i r c k1 k2
  exact⟨ρ i,r0,k3,k4⟩
 have himm: ∀c,cL E.O tp H w c→cL E.O tp H' w c:=fun c hb=> ⟨hb.1,hb.2.1,hb.2.2.1,fun ho=> hb.2.2.2 (hown c ho)⟩
 have hfok: ∀i q,Hf i=some q→ResOk (R tp (cL E.O tp H w) w) w q:=fun i q hq=> h.sat.ok i q (h4 i q hq).1
 have hfb: ∀i q b,Hf i=some q→q.blk=some b→cL E.O tp H' w b:=fun i q b hq hb=> by
  obtain⟨k1,k2⟩:=h4 i q hq
  have ho:=h.sat.out i q b k1 hb
  refine⟨(h.sat.ok i q k1).lt hb,ho.1,ho.2,fun⟨j,s,k3,k4⟩=> ?_⟩
  obtain⟨s0,k5,k6,k7⟩:=hblk j s b k3 k4
  exact k7 (k2 j s k3 (h.sat.dis (ρ j) i s0 q b k5 k1 k6 hb))
 have move: ∀x d,R tp (cL E.O tp H w) w x d→R tp (cL E.O tp H' w) w x d:=fun x d hr=>
  hr.mono (fun _ h=> h) (fun b hb=> ⟨himm b hb,rfl⟩) (fun b _=> .refl _ _)
 refine⟨hd,hN,tp,⟨h.hO,h.tpx,h.tpn,h.tpl,h.step,fun b hb=> h.loc b (hown b hb),⟨fun i j r s c k1 k2 k3 k4=> ?_,fun i r c k1 k2=> ?_,fun i r k1=> ?_⟩⟩,fun t=> (h1 t).R (H:=cZ) hfok himm hfb (hr t)⟩
 ·obtain⟨r0,a1,a2,a3⟩:=hblk i r c k1 k3
  obtain⟨s0,b1,b2,b3⟩:=hblk j s c k2 k4
  rcases h3 i j r s k1 k2 (h.sat.dis _ _ r0 s0 c a1 b1 a2 b2) with e | e | e
  ·exact e
  ·exact absurd e a3
  ·exact absurd e b3
 ·obtain⟨r0,a1,a2,_⟩:=hblk i r c k1 k2
  exact h.sat.out _ r0 c a1 a2
 ·rcases h2 i r k1 with⟨r0,k3,k4⟩ | k3
  ·exact k4.ok (h.sat.ok _ r0 k3) hfok himm hfb
  ·cases r with
   | box b c=> exact k3.elim
   | iter b s p=> exact k3.elim
   | tbox b s p=> exact k3.elim
   | row x el n es=>
     obtain⟨rfl,rfl⟩:=k3
     exact⟨[],World.ownsRow_nil _ _ _ _,by simp,fun k y c h=> by simp at h⟩
def w9 (Hf:ae):List (Nat×D)→Sg→Prop
 | [],_=> True
 | (t,d)::l,σ=> FrzTo Hf (σ t) d∧w9 Hf l σ
@[simp] theorem qbr (Hf:ae) (σ:Sg):w9 Hf [] σ=True:=id rfl
@[simp] theorem qbs (Hf:ae) (t:Nat) (d:D) (l:List (Nat×D)) (σ:Sg):w9 Hf ((t,d)::l) σ=(FrzTo Hf (σ t) d∧w9 Hf l σ):=id rfl
def Sm (rn:List (Nat×Nat)) (i:Nat):Nat:=(rn.lookup i).getD i
def uE (Hf:ae) (rn:List (Nat×Nat)):List (Nat×Res)→ae→Prop
 | [],_=> True
 | (i,r)::l,H=> ((∃r0,H (Sm rn i)=some r0∧RFe Hf r0 r)∨isNilRow r)∧uE Hf rn l H
@[simp] theorem qbp (Hf:ae) (rn:List (Nat×Nat)) (H:ae):uE Hf rn [] H=True:=id rfl
@[simp] theorem qbq (Hf:ae) (rn:List (Nat×Nat)) (i:Nat) (r:Res) (l:List (Nat×Res)) (H:ae):uE Hf rn ((i,r)::l) H=(((∃r0,H (Sm rn i)=some r0∧RFe Hf r0 r)∨isNilRow r)∧uE Hf rn l H):=id rfl
def Rz (gv:List Nat) (H:ae):ae:=fun i=> if i∈gv then H i else none
def qaJ (rn:List (Nat×Nat)) (ids gv:List Nat):Prop:=(∀i∈ids,∀j∈ids,Sm rn i=Sm rn j→i=j)∧(∀i∈ids,Sm rn i∉gv)
instance (rn:List (Nat×Nat)) (ids gv:List Nat):Decidable (qaJ rn ids gv):=by unfold qaJ;infer_instance
theorem Nu {l:List (Nat×Res)} {H:ae} {i:Nat} {r:Res} (h:ig l H i=some r): (i,r) ∈l∨(i∉l.map (·.1)∧H i=some r):=by
 induction l with
 | nil=> exact .inr ⟨by simp,h⟩
 | cons p l ih=>
   obtain⟨j,q⟩:=p
   simp only[ig,aq] at h
   split at h
   ·rename_i e;subst e;cases h;exact .inl (by simp)
   ·rename_i e
    rcases ih h with h | ⟨h1,h2⟩
    ·exact .inl (by simp[h])
    ·exact .inr ⟨by simp[e,h1],h2⟩
theorem OB {Hf:ae} {rn:List (Nat×Nat)} {l:List (Nat×Res)} {H:ae} {i:Nat} {r:Res} (h:uE Hf rn l H) (hm: (i,r) ∈l): (∃r0,H (Sm rn i)=some r0∧RFe Hf r0 r)∨isNilRow r:=by
 induction l with
 | nil=> simp at hm
 | cons p l ih=>
   obtain⟨j,q⟩:=p
   rcases List.mem_cons.1 hm with e | hm
   ·cases e;exact h.1
   ·exact ih h.2 hm
theorem AU {σ0 σ:Sg} {H0 H:ae} {ks hk gv:List Nat} {rn:List (Nat×Nat)} {sl:List (Nat×D)} {hp:List (Nat×Res)} (hi:qaJ rn (hp.map (·.1) ++hk) gv) (hid: ∀i∈hk,i∉hp.map (·.1)→Sm rn i=i)
 (h1:w9 (Rz gv H) sl σ) (h2:sZ ks σ0 σ) (h3:uE (Rz gv H) rn hp H) (h4:xa hk H0 H):Wk σ H (rc sl (kS ks σ0)) (ig hp (kT hk H0)):=by
 have hmem: ∀i r,ig hp (kT hk H0) i=some r→i∈hp.map (·.1) ++hk:=fun i r h=> by
  rcases Nu h with h | ⟨_,h⟩
  ·exact List.mem_append.2 (.inl (List.mem_map.2 ⟨_,h,rfl⟩))
  ·rw[Ga] at h
   split at h
   ·rename_i e;exact List.mem_append.2 (.inr e)
   ·cases h
 refine Js (Hf:=Rz gv H) (Sm rn) (fun t=> ?_) (fun i r h=> ?_) (fun i j r s k1 k2 e=> .inl (hi.1 i (hmem i r k1) j (hmem j s k2) e)) (fun i r h=> ?_)
 ·clear hi hid h3 hmem
  induction sl with
  | nil=>
    rw[Pg,F9]
    split
    ·rename_i h;rw[←h2 t h];exact .same _
    ·exact .any _
  | cons p sl ih=>
    obtain⟨s,d⟩:=p
    simp only[rc,mG]
    split
    ·rename_i e;subst e;exact h1.1
    ·exact ih h1.2
 ·rcases Nu h with h | ⟨h5,h⟩
  ·exact OB h3 h
  ·rw[Ga] at h
   split at h
   ·rename_i e
    rw[hid i e h5,h4 i e]
    exact .inl ⟨r,h, .inl rfl⟩
   ·cases h
 ·simp only[Rz] at h
  split at h
  ·rename_i e
   exact⟨h,fun j r' k1 k2=> absurd e (k2 ▸hi.2 j (hmem j r' k1))⟩
  ·cases h
@[simp] theorem qie (i:Nat):Sm [] i=i:=id rfl
def FzL (Hf:ae):List D→List D→Prop
 | [], []=> True
 | a::l,b::r=> FrzTo Hf a b∧FzL Hf l r
 | _,_=> False
@[simp] theorem qjY (Hf:ae):FzL Hf [] []=True:=id rfl
@[simp] theorem qjZ (Hf:ae) (a b:D) (l r:List D):FzL Hf (a::l) (b::r)=(FrzTo Hf a b∧FzL Hf l r):=id rfl
theorem FzL.get {Hf:ae} : ∀ {l r:List D},FzL Hf l r→l.length=r.length∧ ∀ (m:Nat) (c c':D),l[m]?=some c→r[m]?=some c'→FrzTo Hf c c'
 | [], [],_=> ⟨rfl,fun m c c' h=> by simp at h⟩
 | a::l,b::r,h=> by
   obtain⟨h1,h2⟩:=h
   have ih:=FzL.get h2
   refine⟨by simp[ih.1],fun m c c' e1 e2=> ?_⟩
   cases m with
   | zero=> simp at e1 e2;subst e1;subst e2;exact h1
   | succ m=> simp at e1 e2;exact ih.2 m c c' e1 e2
@[simp] theorem qcN (Hf:ae) (b:Nat) (cs cs':List D):RFe Hf (.box b cs) (.box b cs')=(cs=cs'∨FzL Hf cs cs'):=by
 refine propext ⟨fun h=> ?_,fun h=> ?_⟩
 ·rcases h with h | ⟨_,hl,hc⟩
  ·cases h;exact .inl rfl
  ·right
   induction cs generalizing cs' with
   | nil=> cases cs' with
     | nil=> trivial
     | cons b r=> simp at hl
   | cons a l ih=> cases cs' with
     | nil=> simp at hl
     | cons b r=> exact⟨hc 0 a b rfl rfl,ih r (by simpa using hl) fun m c c' h1 h2=> hc (m+1) c c' (by simpa using h1) (by simpa using h2)⟩
 ·rcases h with rfl | h
  ·exact .inl rfl
  ·exact .inr ⟨rfl,h.get.1,h.get.2⟩
def VU (σ0:Sg) (H0:ae) (ks hk gv:List Nat) (rn:List (Nat×Nat)) (sl:List (Nat×D)) (hp:List (Nat×Res)) (σ:Sg) (H:ae):Prop:=w9 (Rz gv H) sl σ∧sZ ks σ0 σ∧uE (Rz gv H) rn hp H∧xa hk H0 H
@[simp] theorem qcf (σ0:Sg) (H0:ae) (ks hk gv:List Nat) (rn:List (Nat×Nat)) (sl:List (Nat×D)) (hp:List (Nat×Res)) (σ:Sg) (H:ae):VU σ0 H0 ks hk gv rn sl hp σ H=(w9 (Rz gv H) sl σ∧sZ ks σ0 σ∧uE (Rz gv H) rn hp H∧xa hk H0 H):=id rfl
section
variable {S:Nat→Spc} {σ:Sg} {H:ae} {K:Ex→Sg→ae→Prop}
theorem zB {X:Type} (ks hk gv:List Nat) (rn:List (Nat×Nat)) (P:X→Prop) (sl:X→List (Nat×D)) (hp:X→List (Nat×Res)) {k:Nat} {a b:CC} (ids:List Nat) (hids: ∀x,(hp x).map (·.1)=ids) (hi:qaJ rn (ids++hk) gv∧ ∀i∈hk,i∉ids→Sm rn i=i)
 (ha:vc S a (TU (fun σ' H'=> ∃x,P x∧VU σ H ks hk gv rn (sl x) (hp x) σ' H') K) σ H)
 (hb: ∀x,P x→vc S b K (rc (sl x) (kS ks σ)) (ig (hp x) (kT hk H))):vc S (mu k a b) K σ H:=by
 refine Wx P _ _ (rD a _ _ (fun e σ' H' h=> ?_) ha) hb
 cases e with
 | norm=>
   obtain⟨x,h1,h2⟩:=h
   exact⟨x,h1,AU (by rw[hids x];exact hi.1) (by rw[hids x];exact hi.2) h2.1 h2.2.1 h2.2.2.1 h2.2.2.2⟩
 | ex i=> exact h
 | ret=> exact h
end
end Go.Gv

namespace Go.Gv
open Cod (enc dec)
variable {S S0:Nat→Spc}
end Go.Gv

namespace Go.Gv
section
variable {X Y:Type}
variable {P:Program} {S:Nat→Spc} {f:Nat} {im:List Nat} {cc:CC} {rs:List aK} {N:Nat}
end
end Go.Gv

namespace Go.Gv
open Cod (enc dec)
variable {S S0:Nat→Spc}
theorem Wm:VC G4 Fp S:=by
 intro l
 simp[G4,Fp, -List.map_take,SZ,zM]
 omega
end Go.Gv

namespace Go.Gv
section
variable {S:Nat→Spc} {σ:Sg} {H:ae} {K:Ex→Sg→ae→Prop}
theorem sC {X:Type} (ks hk gv0 gv:List Nat) (rn0 rn:List (Nat×Nat)) (P:X→Prop) (sl:X→List (Nat×D)) (hp:X→List (Nat×Res)) (m:X→Nat) (x0:X) (ids:List Nat) (hids: ∀x,(hp x).map (·.1)=ids)
 (hi0:qaJ rn0 (ids++hk) gv0∧ ∀i∈hk,i∉ids→Sm rn0 i=i) (hi:qaJ rn (ids++hk) gv∧ ∀i∈hk,i∉ids→Sm rn i=i) {k:Nat} {b:CC} (h0:P x0)
 (hs:w9 (Rz gv0 H) (sl x0) σ) (hh:uE (Rz gv0 H) rn0 (hp x0) H)
 (hr: ∀x,P x→vc S b (Sz P (fun y=> VU σ H ks hk gv rn (sl y) (hp y)) m x K) (rc (sl x) (kS ks σ)) (ig (hp x) (kT hk H))):vc S (.loop k b) K σ H:=by
 rw[K3]
 refine⟨⟨X,P,fun x=> rc (sl x) (kS ks σ),fun x=> ig (hp x) (kT hk H),m⟩,⟨x0,h0,AU (by rw[hids x0];exact hi0.1) (by rw[hids x0];exact hi0.2) hs (fun _ _=> rfl) hh (fun _ _=> rfl)⟩,fun x hx=> rD b _ _ (fun e σ' H' h=> ?_) (hr x hx)⟩
 cases e with
 | norm=>
   obtain⟨y,h1,h2,h3⟩:=h
   exact⟨y,h1,AU (by rw[hids y];exact hi.1) (by rw[hids y];exact hi.2) h2.1 h2.2.1 h2.2.2.1 h2.2.2.2,h3⟩
 | ex i=> exact h
 | ret=> exact h
end
end Go.Gv

namespace Go.Gv
open Cod (enc dec)
variable {S S0:Nat→Spc}
def LP (l:List B):List D:=l.map enc
theorem Td (a b:B):D.list 1 [.v (.string a), .v (.string b)]= .list 1 (LP [a,b]):=id rfl
theorem Tc (a b c:B):D.list 1 [.v (.string a), .v (.string b), .v (.string c)]= .list 1 (LP [a,b,c]):=id rfl
theorem vB (l:List B): (LP l).length=l.length:=by simp[LP]
theorem zO (l:List B) (i:Nat) (d:D): ((LP l)[i]?=some d)= ∃s,l[i]?=some s∧ .v (.string s)=d:=by
 simp[LP]
end Go.Gv

namespace Go.Gv
open Cod (enc dec)
variable {S S0:Nat→Spc}
end Go.Gv
