/- A part of the framework and of the walks: W10 W11 W12 W4. -/
import Derived.Test.YticbieanhfdnoaaGreatDoorGc21
import Derived.Test.YticbieanhfdnoaaGreatDoorGc23
import Derived.Test.YticbieanhfdnoaaGreatDoorGc22
set_option linter.unusedSimpArgs false
set_option linter.unusedVariables false
set_option maxRecDepth 100000

namespace Go.Gv
open Cod (enc dec)
variable {S S0:Nat→Spc}
theorem AP (x n:Int) (h:1≤n):0≤xE x n∧xE x n < n:=by
 unfold xE
 rw[if_neg (by omega)]
 have h1:=Int.tmod_lt_of_pos x (show 0 < n by omega)
 have h2: -n < x.tmod n:=by
  have h3:=Int.natAbs_tmod x n
  have h4:x.natAbs % n.natAbs < n.natAbs:=Nat.mod_lt _ (by omega)
  omega
 split <;> omega
def TA:CC:= .reg [
 .op (some 4) none (.mv (.const (.int .i64 0)))]
def R5:CC:= .seq (.regd [
 .op (some 5) none (.mv (.tmp 0)),
 .op (some 6) none (.nilck (.tmp 5)),
 .op (some 7) none (.faddr 1 (.tmp 6)),
 .op (some 8) none (.load false 1 (.tmp 7)),
 .op (some 9) none (.mv (.tmp 0)),
 .op (some 10) none (.nilck (.tmp 9)),
 .op (some 11) none (.faddr 0 (.tmp 10)),
 .op (some 12) none (.load false 1 (.tmp 11)),
 .op (some 13) none (.len (.tmp 12))] [
 .op (some 14) none (.cmp .geq (.tmp 8) (.tmp 13))]) (.ite (.tmp 14) (.seq (.reg [
  .op (some 4) none (.mv (.const (.int .i64 0)))]) .ret) .skip)
def Q5:CC:= .reg [
 .op (some 15) none (.mv (.tmp 0)),
 .op (some 16) none (.nilck (.tmp 15)),
 .op (some 17) none (.faddr 1 (.tmp 16)),
 .op (some 18) none (.load false 1 (.tmp 17)),
 .op (some 19) none (.arith .add (.tmp 18) (.const (.int .i64 1))),
 .op (some 20) none (.nilck (.tmp 15)),
 .op (some 21) none (.faddr 1 (.tmp 20)),
 .op none none (.store none 1 (.tmp 21) (.tmp 19))]
def Tz:CC:= .seq (.regd [
 .op (some 22) none (.mv (.tmp 0)),
 .op (some 23) none (.nilck (.tmp 22)),
 .op (some 24) none (.faddr 0 (.tmp 23)),
 .op (some 25) none (.load false 1 (.tmp 24)),
 .op (some 26) none (.mv (.tmp 0)),
 .op (some 27) none (.nilck (.tmp 26)),
 .op (some 28) none (.faddr 1 (.tmp 27)),
 .op (some 29) none (.load false 1 (.tmp 28)),
 .op (some 30) none (.arith .sub (.tmp 29) (.const (.int .i64 1))),
 .op (some 31) none (.iaddr 1 (.tmp 25) (.tmp 30)),
 .op (some 32) none (.load false 1 (.tmp 31)),
 .op (some 33) none (.mv (.tmp 1))] [
 .op (some 34) none (.call jn [(.tmp 32),(.tmp 33)]),
 .op (some 4) none (.mv (.tmp 34))]) .ret
theorem Nb:bP nB= .seq TA (.seq R5 (.seq Q5 Tz)):=rfl
theorem UW:bP TA=TA:=rfl
theorem UV:bP R5=R5:=rfl
theorem UU:bP Q5=Q5:=rfl
theorem UT:bP Tz=Tz:=rfl
def Q4 (b:Nat) (s:Value) (i n:Int):Ex→Sg→aa→Prop:=fun e σ H=> match e with
 | .norm=> σ 0= .bptr 0 b 0∧σ 1= .v (.int .i64 n)∧H 0=some (.box b [.v s, .v (.int .i64 (i+1))])∧i < slen s
 | .ret=> σ 4= .v (.int .i64 0)∧H 0=some (.box b [.v s, .v (.int .i64 i)])
 | .ex _=> False
@[simp ↓] theorem qeN (b:Nat) (s:Value) (i n:Int) (σ:Sg) (H:aa):Q4 b s i n .norm σ H=(σ 0= .bptr 0 b 0∧σ 1= .v (.int .i64 n)∧H 0=some (.box b [.v s, .v (.int .i64 (i+1))])∧i < slen s):=id rfl
@[simp ↓] theorem qeM (b:Nat) (s:Value) (i n:Int) (σ:Sg) (H:aa):Q4 b s i n .ret σ H=(σ 4= .v (.int .i64 0)∧H 0=some (.box b [.v s, .v (.int .i64 i)])):=id rfl
theorem PK (b:Nat) (a:Option Addr) (len cap:Nat) (i n:Int) (h0:0≤i) (hl: (len:Int)≤9223372036854775807):vc S (.seq TA (.seq R5 Q5)) (Q4 b (.slice a len cap) i n) (dC [.bptr 0 b 0, .v (.int .i64 n)]) (aj df 0 (some (.box b [.v (.slice a len cap), .v (.int .i64 i)]))):=by
 simp[TA,R5,Q5,slen]
 intro h
 exact⟨by simp only[InR];omega,h⟩
def qeL (n:Int):Ex→Sg→aa→Prop:=fun e σ H=> match e with
 | .ret=> ∃y,σ 4= .v (.int .i64 y)∧(n < 1∧y=0∨1≤n∧0≤y∧y < n)
 | _=> False
@[simp ↓] theorem qeK (n:Int) (σ:Sg) (H:aa):qeL n .ret σ H=(∃y,σ 4= .v (.int .i64 y)∧(n < 1∧y=0∨1≤n∧0≤y∧y < n)):=id rfl
theorem PJ (hm:S jn=s_m_Mod) (L:List Int) (i n:Int) (h0:0≤i) (hi:i < L.length) (hn:n≤1000000000) (hl: (L.length:Int)≤9223372036854775807):vc S Tz (qeL n) (dC [.cptr [.list 1 (L.map enc), .v (.int .i64 (i+1))] 0, .v (.int .i64 n)]) df:=by
 obtain⟨x,hx⟩:=fE (l:=L) (k:=i.toNat) (by omega)
 simp[Tz,hm]
 refine⟨by simp only[InR];omega,h0,hi,fun a _=> ⟨hn,?_⟩⟩
 rcases Int.lt_or_le n 1 with h | h
 ·exact .inl ⟨h,by simp[xE,h]⟩
 ·exact .inr ⟨h,AP a n h⟩
end Go.Gv

namespace Go.Gv
open Cod (enc dec)
theorem AV {tp I tp' I':Nat→Prop} {w w':World} {s:Value} {es:List D} (hes: ∀d∈es,∃n,d= .v (.int .i64 n)) (h:R tp I w s (.list 1 es)) (hI: ∀c,I c→I' c∧w'.heap[c]?=w.heap[c]?):R tp' I' w' s (.list 1 es):=by
 cases h with
 | nolist a cap _=> exact .nolist _ _ _
 | list b off cap n es f hb hc hm hz hn hcell h1 h2=>
   refine .list b off cap _ es f (hI b hb).1 hc hm (fun h=> absurd rfl h) hn (fun k c hk=> by rw[World.cell?_of_block (w:=w) (hI b hb).2];exact hcell k c hk) h1 (fun k c hk=> ?_)
   have hc':=List.mem_of_getElem? hk
   simp only[bJ,List.mem_flatMap] at hc'
   obtain⟨d,hd,hcd⟩:=hc'
   obtain⟨n,rfl⟩:=hes d hd
   simp[D.cells] at hcd
   subst hcd
   have:=h2 k _ hk
   generalize f k=y at this ⊢
   cases this with
   | v _ a1 a2=> exact .v _ a1 a2
theorem BD {P:Program} {im:List Nat} {N:Nat} {code:Code} {a b:CC} (h:aK P im N code=some (.seq a b)): ∃x y,code= .seq x y∧aK P im N x=some a∧aK P im N y=some b:=by
 rcases bA h with⟨h,_⟩ | ⟨_,_,_,_,h,_⟩ | ⟨_,_,_,_,_,h⟩ | ⟨a',b',x,y,h1,h2,h3,h4⟩ | ⟨_,_,_,_,_,_,h,_⟩ | ⟨_,_,_,_,h,_⟩ | ⟨_,_,_,h,_⟩ | ⟨_,_,h⟩ | ⟨_,h⟩ <;> try (simp at h;done)
 cases h2
 exact⟨a',b',h1,h3,h4⟩
abbrev s_m_Next:Spc:=cv (aT (a1 Int)) (fun x=> x.2≤1000000000) (enc (X:=Int)) (fun x y=> x.2 < 1∧y=0∨1≤x.2∧0≤y∧y < x.2)
section
variable {P:Program} {S:Nat→Spc} {f:Nat} {im:List Nat} {N:Nat}
theorem Mm (hS: ∀f,Tri P f (S f).pt) (hm:S jn=s_m_Mod) (h:ay P f im nB rV N) (hN:2≤N):Tri P f s_m_Next.pt:=by
 obtain⟨qn,enter,fn,code,h1,h2,h3,h4,h5⟩:=h
 subst h3
 rw[Nb] at h4
 obtain⟨x0,y0,rfl,hc0,h4⟩:=BD h4
 obtain⟨xA,yA,rfl,hcA,h4⟩:=BD h4
 obtain⟨xB,xC,rfl,hcB,hcC⟩:=BD h4
 intro O tp w vs ds H d K hO htl hsat hlen hargs hA
 refine⟨enter,calls_of_wp h1 h2 ?_⟩
 simp only[s_m_Next,pN] at hA
 cases hd: (aT (a1 Int)).dec ds with
 | none=> rw[hd] at hA;exact hA.elim
 | some x=>
 rw[hd] at hA
 obtain⟨L,n⟩:=x
 obtain⟨hp,hK⟩:=hA
 have hl:=(aT (a1 Int)).le ds (L,n) hd
 have hl1:ds.length=2:=hl.1
 match ds,vs,hl,hl1,hlen,hargs with
 | [d0,d1], [v0,v1],hl,_,_,hargs=>
 have e0:d0= .tape L:=by
  have:=hl.2 0 d0 (.tape L) rfl rfl
  cases this;rfl
 have e1:d1= .v (.int .i64 n):=by
  have:=hl.2 1 d1 (.v (.int .i64 n)) rfl rfl
  cases this;rfl
 subst e0;subst e1
 have r1:=(hargs 1 v1 _ rfl rfl).inv_v
 subst r1
 have r0:=hargs 0 v0 _ rfl rfl
 cases r0 with
 | tape b _ s i el hb hh g0 g1 gs hR=>
 obtain⟨a,len,cap,rfl⟩: ∃a len cap,s= .slice a len cap:=by
  generalize L.map (fun n=> D.v (.int .i64 n))=es at hR
  cases hR <;> exact⟨_,_,_,rfl⟩
 have hlen: (len:Int)≤9223372036854775807:=by
  generalize L.map (fun n=> D.v (.int .i64 n))=es at hR
  cases hR with
  | nolist=> simp
  | list b off cap n es f hI hc hm=> simp only[maxLen] at hm;omega
 have hLl:len=L.length:=gs
 have hbl:=htl.1 b hb
 -- the first piece: the tape's memory is the frame's own
 let O2:Nat→Prop:=fun x=> (O x∨cw H x)∧x≠b
 let tp2:Nat→Prop:=fun x=> tp x∧x≠b
 let E2:q7:= { O:=O2,tp0:=tp2,w0:=w,own0:=fun x=> x=b,N:=fn.ntmps }
 let H2:aa:=aj df 0 (some (.box b [.v (.slice a len cap), .v (.int .i64 i)]))
 have hownlt: ∀c,cw H c→c < w.heap.size:=fun c ⟨j,r,k1,k2⟩=> (hsat.ok j r k1).lt k2
 have h2: ∀j r,H2 j=some r→j=0∧r= .box b [.v (.slice a len cap), .v (.int .i64 i)]:=fun j r hj=> by
  by_cases e:j=0
  ·subst e
   simp only[H2,aj,if_true] at hj
   cases hj
   exact⟨rfl,rfl⟩
  ·simp[H2,aj,e,df] at hj
 have hst:St E2 (dC [.bptr 0 b 0, .v (.int .i64 n)]) H2 { tmps:= #[.pointer (some ⟨b,0,none⟩), .int .i64 n] ++Array.replicate (fn.ntmps -2) undef,defers:= [] } w:=by
  refine⟨rfl,?_,tp2,⟨fun c hc=> hc.1.elim (hO c) (hownlt c),fun c hc=> hc,fun c hc=> .inl hc,⟨fun c hc=> htl.1 c hc.1,fun p hp=> ⟨fun h=> (htl.2 p hp).1 h.1,fun h=> (htl.2 p hp).1 (h ▸hb),(htl.2 p hp).2.2⟩⟩, .refl _ _ _,fun c ⟨j,r,k1,k2⟩=> ?_,⟨fun j k r q c k1 k2 k3 k4=> ?_,fun j r c k1 k2=> ?_,fun j r k1=> ?_⟩⟩,fun t=> ?_⟩
  ·show(_:Array Value).size=fn.ntmps
   simp
   omega
  ·obtain⟨_,rfl⟩:=h2 j r k1
   cases k2
   exact .inl rfl
  ·rw[(h2 j r k1).1,(h2 k q k2).1]
  ·obtain⟨_,rfl⟩:=h2 j r k1
   cases k2
   exact⟨fun h=> h.2 rfl,fun h=> h.2 rfl⟩
  ·obtain⟨_,rfl⟩:=h2 j r k1
   refine⟨_,el,hh,rfl,fun k y c hy hc=> ?_⟩
   rcases k with _ | _ | k
   ·simp at hy hc;subst hy;subst hc;exact⟨rfl, .v _ rfl (fun s hs=> by cases hs)⟩
   ·simp at hy hc;subst hy;subst hc;exact⟨rfl, .v _ rfl (fun s hs=> by cases hs)⟩
   ·simp at hy
  ·have q0: (#[Value.pointer (some ⟨b,0,none⟩), .int .i64 n] ++Array.replicate (fn.ntmps -2) undef).getD 0 undef=Value.pointer (some ⟨b,0,none⟩):=by
    rw[Array.getD_eq_getD_getElem?,Array.getElem?_append_left (by simp)];rfl
   have q1: (#[Value.pointer (some ⟨b,0,none⟩), .int .i64 n] ++Array.replicate (fn.ntmps -2) undef).getD 1 undef=Value.int .i64 n:=by
    rw[Array.getD_eq_getD_getElem?,Array.getElem?_append_left (by simp)];rfl
   rcases t with _ | _ | t
   ·show R _ _ _ (Array.getD _ 0 undef) _
    rw[q0];exact .bptr _ _ _
   ·show R _ _ _ (Array.getD _ 1 undef) _
    rw[q1];exact .v _ rfl (fun s hs=> by cases hs)
   ·exact .any _
 -- what is known when the frame IU left the tape's place at j
 have fin: ∀ (w2:World) (j y:Int) (el':Nat),w2.os=w.os→w2.tape=w.tape→w2.output=w.output→w.heap.size≤w2.heap.size→(∀c,c < w.heap.size→ ¬tp c→w2.heap[c]?=w.heap[c]?)→
  (∀c,tp c→c≠b→TapeStep w w2 c)→w2.heap[b]?=some (.cells #[.slice a len cap, .int .i64 j] el' (0,0))→0≤j→j≤len→w.drawn≤w2.drawn→
  (n < 1∧y=0∨1≤n∧0≤y∧y < n)→JC O tp H w K (.returned (.int .i64 y)) w2:=by
  intro w2 j y el' s1 s2 s3 s4 s5 s6 s7 s8 s9 s11 s10
  have htapes: ∀c,tp c→TapeStep w w2 c:=fun c hc=> by
   by_cases e:c=b
   ·subst e
    intro s' i' el0 hh' _ _
    rw[hh] at hh'
    cases hh'
    exact⟨j,el',s7,s8,s9⟩
   ·exact s6 c hc e
  refine⟨_, .v (.int .i64 y),H,tp,rfl,hK y s10,fun c hc=> hc,fun c hc=> .inl hc,fun c hc=> Nat.lt_of_lt_of_le (htl.1 c hc) s4,⟨s1,s2,s3,s4,fun c hc _ ht=> s5 c hc ht,htapes,s11⟩,fun c hc=> .inl hc,
   ⟨hsat.dis,hsat.out,fun k r hk=> (hsat.ok k r hk).conv (fun x d hr=> hr.mono (fun _ h=> h) (fun c hc=> ⟨⟨Nat.lt_of_lt_of_le hc.1 s4,hc.2.1,hc.2.2.1,hc.2.2.2⟩,s5 c hc.1 hc.2.2.1⟩) htapes) (fun c hc=> s5 c ((hsat.ok k r hk).lt hc) (hsat.out k r c hk hc).2)⟩, .v _ rfl (fun s hs=> by cases hs)⟩
 have hv:=PK (S:=S) b a len cap i n g0 hlen
 have cells2: ∀ (tp':Nat→Prop) (H':aa) (w':World) (j:Int),StW E2 tp' H' w'→H' 0=some (.box b [.v (.slice a len cap), .v (.int .i64 j)])→ ∃el',w'.heap[b]?=some (.cells #[.slice a len cap, .int .i64 j] el' (0,0)):=by
  intro tp' H' w' j hw hH
  obtain⟨xs,el',k1,k2,k3⟩:=hw.sat.ok 0 _ hH
  refine⟨el',?_⟩
  rw[k1]
  obtain⟨l⟩:=xs
  match l,k2,k3 with
  | [x,y],_,k3=>
    have a1:=(k3 0 x _ rfl rfl).2.inv_v
    have a2:=(k3 1 y _ rfl rfl).2.inv_v
    rw[a1,a2]
 have hret: ∀ (a':Act) (w':World) (σ':Sg) (H':aa),St E2 σ' H' a' w'→Q4 b (.slice a len cap) i n .ret σ' H'→a'.defers= []∧ ∃v,(results fn a'.tmps).run P w'= .ok v w'∧JC O tp H w K (.returned v) w':=by
  rintro a' w' σ' H' ⟨hd',hN',tp',hw',hr'⟩ ⟨k1,k2⟩
  obtain⟨v,r0,hrun,hRv,hq⟩:=lr (H:=H') (K:=fun r=> r= .v (.int .i64 0)) h5 hr' hw'.sat.ok k1
  subst hq
  have:=hRv.inv_v
  subst this
  obtain⟨el',k3⟩:=cells2 tp' H' w' i hw' k2
  have st:=hw'.step
  refine⟨hd',_,hrun,fin w' i 0 el' st.os st.tape st.output st.size (fun c hc ht=> st.same c hc (fun e=> ht (e ▸hb)) (fun h=> ht h.1)) (fun c hc hcb=> st.tapes c ⟨hc,hcb⟩) k3 g0 g1 st.drawn ?_⟩
  rcases Int.lt_or_le n 1 with h | h
  ·exact .inl ⟨h,rfl⟩
  ·exact .inr ⟨h,by omega,by omega⟩
 have htail: ∀ (a':Act) (w':World) (σ':Sg) (H':aa),St E2 σ' H' a' w'→Q4 b (.slice a len cap) i n .norm σ' H'→xC.wp P (bodyPost P fn (JC O tp H w K)) a' w':=by
  rintro a1 w1 σ1 H1 ⟨hd1,hN1,tp1,hw1,hr1⟩ ⟨k1,k2,k3,k4⟩
  obtain⟨el1,k5⟩:=cells2 tp1 H1 w1 (i+1) hw1 k3
  have st1:=hw1.step
  have hsz1:w.heap.size≤w1.heap.size:=st1.size
  have same1: ∀c,c < w.heap.size→ ¬tp c→w1.heap[c]?=w.heap[c]?:=fun c hc ht=> st1.same c hc (fun e=> ht (e ▸hb)) (fun h=> ht h.1)
  have tp1o: ∀c,c < w.heap.size→tp1 c→tp2 c:=fun c hc h=> (hw1.tpn c h).elim id (fun h=> by
   have h:w.heap.size≤c:=h
   omega)
  have hb1: ¬tp1 b:=fun h=> (tp1o b hbl h).2 rfl
  let E3:q7:= { O:=O2,tp0:=tp1,w0:=w1,own0:=fun _=> False,N:=fn.ntmps }
  have himm: ∀c,bB O tp H w c→bB O2 tp1 df w1 c∧w1.heap[c]?=w.heap[c]?:=fun c hc=> ⟨⟨Nat.lt_of_lt_of_le hc.1 hsz1,fun h=> h.1.elim hc.2.1 hc.2.2.2,fun h=> hc.2.2.1 (tp1o c hc.1 h).1,fun⟨j,r,h,_⟩=> by simp[df] at h⟩,same1 c hc.1 hc.2.2.1⟩
  have hbi:bB O2 tp1 df w1 b:=⟨Nat.lt_of_lt_of_le hbl hsz1,fun h=> h.2 rfl,hb1,fun⟨j,r,h,_⟩=> by simp[df] at h⟩
  have hRs:R tp1 (bB O2 tp1 df w1) w1 (.slice a len cap) (.list 1 (L.map enc)):=AV (es:=L.map fun n=> D.v (.int .i64 n)) (fun d hd=> by simp at hd;obtain⟨n,_,rfl⟩:=hd;exact⟨n,rfl⟩) hR himm
  have st3:St E3 (dC [.cptr [.list 1 (L.map enc), .v (.int .i64 (i+1))] 0, .v (.int .i64 n)]) df a1 w1:=by
   refine⟨hd1,hN1,tp1,⟨fun c hc=> Nat.lt_of_lt_of_le (hc.1.elim (hO c) (hownlt c)) hsz1,fun c hc=> hc,fun c hc=> .inl hc,⟨hw1.tpl.1,hw1.tpg.2.mono (fun _ h=> h) (fun b h=> h.elim)⟩, .refl _ _ _,fun c ⟨j,r,k1,k2⟩=> by simp[df] at k1,⟨fun j k r q c k1 k2 k3 k4=> by simp[df] at k1,fun j r c k1 k2=> by simp[df] at k1,fun j r k1=> by simp[df] at k1⟩⟩,fun t=> ?_⟩
   rcases t with _ | _ | t
   ·have r0:=hr1 0
    rw[k1] at r0
    generalize a1.tmps.getD 0 undef=v0 at r0 ⊢
    cases r0
    obtain⟨f,q1,q2,q3⟩:=pD (tp:=tp1) (I:=bB O2 tp1 df w1) (w:=w1) (cells:= [.list 1 (L.map enc), .v (.int .i64 (i+1))]) k5 rfl (by
     intro k y c hy hc
     rcases k with _ | _ | k
     ·simp at hy hc;subst hy;subst hc;exact⟨rfl,by simpa using hRs⟩
     ·simp at hy hc;subst hy;subst hc;exact⟨rfl, .v _ rfl (fun s hs=> by cases hs)⟩
     ·simp at hy)
    have:=Gv.R.cptr (tp:=tp1) (I:=bB O2 tp1 df w1) b 0 [.list 1 (L.map enc), .v (.int .i64 (i+1))] 0 f hbi (fun _=> ⟨_,_,k5⟩) q1 q2 q3
    simpa [dC] using this
   ·have r0:=hr1 1
    rw[k2] at r0
    have:=r0.inv_v
    show R _ _ _ _ (.v (.int .i64 n))
    rw[this]
    exact .v _ rfl (fun s hs=> by cases hs)
   ·exact .any _
  have hv3:=PJ (S:=S) hm L i n g0 (by have:i < (len:Int):=k4;omega) hp (by omega)
  refine Code.wp_mono ?_ (pd (E:=E3) hS qn Tz xC (by rw[UT];exact hcC) _ _ _ _ _ st3 hv3)
  intro e a2 w2 hp2
  cases e with
  | ret=>
    obtain⟨σ2,H2',⟨hd2,hN2,tp2',hw2,hr2⟩,y,k6,k7⟩:=hp2
    obtain⟨v,r0,hrun,hRv,hq⟩:=lr (H:=H2') (K:=fun r=> r= .v (.int .i64 y)) h5 hr2 hw2.sat.ok k6
    subst hq
    have:=hRv.inv_v
    subst this
    have st2:=hw2.step
    have hsz2:w1.heap.size≤w2.heap.size:=st2.size
    have same2: ∀c,c < w1.heap.size→ ¬tp1 c→w2.heap[c]?=w1.heap[c]?:=fun c hc ht=> st2.same c hc (fun h=> h) ht
    refine⟨hd2,_,hrun,fin w2 (i+1) y el1 (st2.os.trans st1.os) (st2.tape.trans st1.tape) (st2.output.trans st1.output) (Nat.le_trans hsz1 hsz2) (fun c hc ht=> ?_) (fun c hc hcb=> (st1.tapes c ⟨hc,hcb⟩).trans (st2.tapes c (hw1.tpx c ⟨hc,hcb⟩))) ?_ (by omega) (by have:i < (len:Int):=k4;omega) (Nat.le_trans st1.drawn st2.drawn) k7⟩
    ·rw[same2 c (by omega) (fun h=> ht (tp1o c hc h).1),same1 c hc ht]
    ·rw[same2 b (by omega) hb1,k5]
  | normal=> obtain⟨σ2,H2',_,k⟩:=hp2;exact k.elim
  | exit j=> obtain⟨σ2,H2',_,k⟩:=hp2;exact k.elim
  | goto l=> exact hp2.elim
  | panic c=> exact hp2.elim
  | outgrown=> exact hp2.elim
 refine wp_seq (Code.wp_mono ?_ (pd (E:=E2) hS qn TA x0 (by rw[UW];exact hc0) (Ii S (.seq R5 Q5) (Q4 b (.slice a len cap) i n)) _ _ _ _ hst hv))
 intro e a1 w1 hp1
 cases e with
 | normal=>
   obtain⟨σ1,H1,st1,k1⟩:=hp1
   refine wp_seq (Code.wp_mono ?_ (pd (E:=E2) hS qn R5 xA (by rw[UV];exact hcA) (Ii S Q5 (Q4 b (.slice a len cap) i n)) _ _ _ _ st1 k1))
   intro e a1 w1 hp1
   cases e with
   | normal=>
     obtain⟨σ1,H1,st1,k1⟩:=hp1
     refine wp_seq (Code.wp_mono ?_ (pd (E:=E2) hS qn Q5 xB (by rw[UU];exact hcB) (Q4 b (.slice a len cap) i n) _ _ _ _ st1 k1))
     intro e a1 w1 hp1
     cases e with
     | normal=> obtain⟨σ1,H1,st1,k1⟩:=hp1;exact htail a1 w1 σ1 H1 st1 k1
     | ret=> obtain⟨σ1,H1,st1,k1⟩:=hp1;exact hret a1 w1 σ1 H1 st1 k1
     | exit j=> obtain⟨σ2,H2',_,k⟩:=hp1;exact k.elim
     | goto l=> exact hp1.elim
     | panic c=> exact hp1.elim
     | outgrown=> exact hp1.elim
   | ret=> obtain⟨σ1,H1,st1,k1⟩:=hp1;exact hret a1 w1 σ1 H1 st1 k1
   | exit j=> obtain⟨σ2,H2',_,k⟩:=hp1;exact k.elim
   | goto l=> exact hp1.elim
   | panic c=> exact hp1.elim
   | outgrown=> exact hp1.elim
 | ret=> obtain⟨σ1,H1,st1,k1⟩:=hp1;exact hret a1 w1 σ1 H1 st1 k1
 | exit j=> obtain⟨σ2,H2',_,k⟩:=hp1;exact k.elim
 | goto l=> exact hp1.elim
 | panic c=> exact hp1.elim
 | outgrown=> exact hp1.elim
end
end Go.Gv

namespace Go.Gv
open Cod (enc dec)
def vC (b:Nat) (L:List Int):Res:= .box b [.list 1 (L.map enc), .v (.int .i64 0)]
def Vt:PT:=fun d ds H K=> ∃l,(a1 (List Int)).dec ds=some l∧ ∀b L,K (.bptr d b 0) (aj H d (some (vC b L)))
def OL (cc:CC) (rs:List au) (S:Nat→Spc):Prop:=
 ∀l:List Int,vc S cc (oJ rs fun r H'=> ∃j b L,r= .bptr j b 0∧H' j=some (vC b L)) (dC [enc l]) df
section
variable {P:Program} {S:Nat→Spc} {f:Nat} {im:List Nat} {cc:CC} {rs:List au} {N:Nat}
theorem H9 (hS: ∀f,Tri P f (S f).pt) (h:ay P f im cc rs N) (hN:1≤N) (hw:OL cc rs S):Tri P f Vt:=by
 obtain⟨qn,enter,fn,code,h1,h2,h3,h4,h5⟩:=h
 refine mM hS qn h1 h2 enter h3 h4 h5 ?_
 rintro ds H d K ⟨l,hd,hK⟩
 have hl:=(a1 (List Int)).le ds l hd
 refine⟨by rw[hl.1];exact hN,_,df,fun _=> 0,hl,fun i r h=> by simp[df] at h,fun i j r s h=> by simp[df] at h,_,hw l,?_⟩
 rintro r H' ⟨j,b,L,rfl,hj⟩
 refine⟨.bptr d b 0,df,aj H d (some (vC b L)),fun i=> if i=d then some j else none, .bptr _ _ _ _,fun j q h=> by simp[df] at h,hK b L,fun i s hi=> ?_,fun i j' k s q hi hj' e1 e2=> ?_⟩
 ·by_cases e:i=d
  ·subst e
   simp only[aj,if_true] at hi
   cases hi
   simpa using hj
  ·simp only[aj,e,if_false] at hi ⊢
   exact⟨hi,fun k q h=> by simp[df] at h⟩
 ·have a:i=d:=by
   by_cases e:i=d
   ·exact e
   ·simp[e] at e1
  have b:j'=d:=by
   by_cases e:j'=d
   ·exact e
   ·simp[e] at e2
  exact a.trans b.symm
abbrev s_m_New:Spc:=cv (a1 (List Int)) (fun _=> True) (fun L:List Int=> D.tape L) (fun _ _=> True)
theorem Pp (hf:Tri P f Vt):Tri P f s_m_New.pt:=by
 intro O tp w vs ds H d K hO htl hsat hlen hargs hA
 simp only[s_m_New,pN] at hA
 cases hd: (a1 (List Int)).dec ds with
 | none=> rw[hd] at hA;exact hA.elim
 | some l=>
 rw[hd] at hA
 obtain⟨_,hK⟩:=hA
 have hownlt: ∀c,cw H c→c < w.heap.size:=fun c ⟨j,r,k1,k2⟩=> (hsat.ok j r k1).lt k2
 have hno: ∀c,¬cw df c:=fun c ⟨j,r,h,_⟩=> by simp[df] at h
 have himm: ∀c,bB O tp H w c→bB (fun c=> O c∨cw H c) tp df w c:=fun c hc=> ⟨hc.1,fun h=> h.elim hc.2.1 hc.2.2.2,hc.2.2.1,hno c⟩
 obtain⟨c1,c2⟩:=hf (fun c=> O c∨cw H c) tp w vs ds df 0 (fun r H'=> ∃b L,r= .bptr 0 b 0∧H'=aj df 0 (some (vC b L))) (fun c hc=> hc.elim (hO c) (hownlt c)) (htl.mono fun b h=> (hno b h).elim)
  ⟨fun i j r s b h=> by simp[df] at h,fun i r b h=> by simp[df] at h,fun i r h=> by simp[df] at h⟩ hlen
  (fun k x c hx hc=> (hargs k x c hx hc).mono (fun _ h=> h) (fun c hc=> ⟨himm c hc,rfl⟩) (fun b _=> .refl _ _)) ⟨l,hd,fun b L=> ⟨b,L,rfl,rfl⟩⟩
 refine⟨c1,c2.mono ?_⟩
 rintro e w1 ⟨x,r,H',tp',rfl,⟨b,L,rfl,rfl⟩,tpx,tpn,tpl,st,loc,sat,hR⟩
 cases hR
 have hH:aj df 0 (some (vC b L)) 0=some (vC b L):=rfl
 have hbo:cw (aj df 0 (some (vC b L))) b:=⟨0,_,hH,rfl⟩
 have hbs:w.heap.size≤b:=(loc b hbo).elim (fun h=> (hno b h).elim) id
 have hbl:b < w1.heap.size:=(sat.ok 0 _ hH).lt rfl
 have hbtp:=sat.out 0 _ b hH rfl
 have hsz:w.heap.size≤w1.heap.size:=st.size
 have old: ∀c,c < w.heap.size→ ¬tp c→ ¬ (tp' c∨c=b):=fun c hc ht h=> h.elim (fun h=> (tpn c h).elim ht (fun h=> by
  have h:w.heap.size≤c:=h
  omega)) (fun h=> by omega)
 have same: ∀c,c < w.heap.size→ ¬tp c→w1.heap[c]?=w.heap[c]?:=fun c hc ht=> st.same c hc (hno c) ht
 obtain⟨xs,el,q1,q2,q3⟩:=sat.ok 0 _ hH
 obtain⟨xl⟩:=xs
 match xl,q2,q3,q1 with
 | [s,y],_,q3,q1=>
 have a1':=(q3 0 s _ rfl rfl).2
 have a2:=(q3 1 y _ rfl rfl).2.inv_v
 subst a2
 have hsl:slen s=L.length:=by
  generalize hes:L.map enc=es at a1'
  have hl2:L.length=es.length:=by rw[←hes];simp
  cases a1' with
  | nolist=> simp at hl2;simp[slen,hl2]
  | list=> rw[hl2];rfl
 refine⟨_, .tape L,H,fun c=> tp' c∨c=b,rfl,hK L trivial,fun c hc=> .inl (tpx c hc),fun c hc=> hc.elim (tpn c) (fun e=> .inr (e ▸hbs)),fun c hc=> hc.elim (tpl c) (fun e=> e ▸hbl),
  ⟨st.os,st.tape,st.output,st.size,fun c hc _ ht=> same c hc ht,st.tapes,st.drawn⟩,fun c hc=> .inl hc,
  ⟨hsat.dis,fun i r c hi hc=> ⟨(hsat.out i r c hi hc).1,old c ((hsat.ok i r hi).lt hc) (hsat.out i r c hi hc).2⟩,fun i r hi=> (hsat.ok i r hi).conv (fun x d hr=> hr.mono (fun c hc=> .inl (tpx c hc)) (fun c hc=> ⟨⟨Nat.lt_of_lt_of_le hc.1 hsz,hc.2.1,old c hc.1 hc.2.2.1,hc.2.2.2⟩,same c hc.1 hc.2.2.1⟩) st.tapes) (fun c hc=> same c ((hsat.ok i r hi).lt hc) (hsat.out i r c hi hc).2)⟩,?_⟩
 refine .tape b L s 0 el (.inr rfl) q1 (by omega) (by omega) hsl ?_
 have a3:R tp' (bB (fun c=> O c∨cw H c) tp' (aj df 0 (some (vC b L))) w1) w1 s (.list 1 (L.map fun n=> D.v (.int .i64 n))):=a1'
 exact AV (fun d hd=> by simp at hd;obtain⟨n,_,rfl⟩:=hd;exact⟨n,rfl⟩) a3 (fun c hc=> ⟨⟨hc.1,fun h=> hc.2.1 (.inl h),fun h=> h.elim hc.2.2.1 (fun e=> hc.2.2.2 (e ▸hbo)),fun h=> hc.2.1 (.inr h)⟩,rfl⟩)
end
end Go.Gv

namespace Go.Gv
open Cod (enc dec)
variable {S S0:Nat→Spc}
def lz {X Y:Type} (_:X) (_:Y):Prop:=True
@[simp] theorem qet {X Y:Type} (x:X) (y:Y):lz x y=True:=id rfl
def cd {X:Type} (_:X):Prop:=True
abbrev s_r04_First:Spc:=cv (a1 U8) cd (enc (X:=Bool)) lz
theorem FG:aN qK qa S (a1 U8) cd (enc (X:=Bool)) lz:=by
 rintro c -
 simp[qK,qa]
abbrev s_r04_Next:Spc:=cv (a1 U8) cd (enc (X:=Bool)) lz
theorem HS (h1:S fJ=s_r04_First):aN sO rU S (a1 U8) cd (enc (X:=Bool)) lz:=by
 rintro c -
 simp[sO,rU,h1,cd]
abbrev s_r04_ValidName:Spc:=cv (a1 B) cd (enc (X:=Bool)) lz
theorem yz (h1:S fJ=s_r04_First) (h2:S np=s_r04_Next):aN lj kV S (a1 B) cd (enc (X:=Bool)) lz:=by
 rintro s -
 simp[lj,kV,h1,h2,cd]
 intro _ h1 _ h32
 refine⟨by omega,fun c _=> ?_⟩
 refine bq (X:=Nat) [0] [] (fun k=> k≤s.size) (fun k=> [(3,enc (k:Int))]) (fun _=> []) (fun k=> s.size -k) 1 (by omega) (by simp) (by simp) ?_
 intro k hk
 simp[h2,cd,InR]
 repeat' first | apply And.intro | intro _
 all_goals first | omega | exact⟨k+1,by omega,by omega,by omega⟩
abbrev s_r01_Units:Spc:=cv (a1 B) (fun s=> s.size≤100000) (enc (X:=List o9)) lz
theorem FI:aN qM qc S (a1 B) (fun s=> s.size≤100000) (enc (X:=List o9)) lz:=by
 rintro s hs
 have hs:s.size≤100000:=hs
 simp[qM,qc]
 intro b
 refine cS (X:=Value×List o9) [0] [] (fun x=> x.2.length≤100000∧ ∀u∈x.2,0≤u.pos∧u.pos≤100000) (fun x=> [(3, .own 36 x.1)]) (fun x=> [(36, .row x.1 br 4 (x.2.map enc))]) ?_ ?_
 ·simp
  refine bq (X:=Nat×Value×List o9) [0,8] [] (fun x=> x.1≤s.size∧x.2.2.length≤x.1∧ ∀u∈x.2.2,0≤u.pos∧u.pos≤x.1) (fun x=> [(3, .own 36 x.2.1)]) (fun x=> [(8, .iter b s x.1),(36, .row x.2.1 br 4 (x.2.2.map enc))]) (fun x=> s.size -x.1) (0, .slice none 0 0, []) (by simp) (by simp) (by simp[isNilRow]) ?_
  rintro⟨p,v,l⟩ ⟨h1,h2,h3⟩
  simp at h1 h2 h3
  simp
  refine⟨fun hp=> ?_,fun hp=> ?_⟩
  ·have hw:=LK s p hp
   refine cS (X:=Value×List o9) [0,4,5,8] [8] (fun x=> x.2.length≤p∧ ∀u∈x.2,0≤u.pos∧u.pos≤p) (fun x=> [(3, .own 36 x.1)]) (fun x=> [(36, .row x.1 br 4 (x.2.map enc))]) ?_ ?_
   ·simp
    refine fun _=> ⟨fun h4 _=> ?_,fun h4=> ⟨v,l,⟨h2,h3⟩,rfl, .inl ⟨rfl,rfl⟩⟩⟩
    obtain⟨a,ha⟩:=fE (l:=l) (k:=l.length -1) (by omega)
    have h5:=h3 a (gu ha)
    simp only[InR]
    refine⟨by omega,fun _=> ⟨by omega,by omega,by omega,by omega,fun a' ha'=> ?_⟩⟩
    rw[ha] at ha'
    cases ha'
    refine⟨by omega,by omega,by omega,by omega,fun a' ha'=> ?_⟩
    rw[ha] at ha'
    cases ha'
    refine⟨v,l.set (l.length -1) ⟨a.r,a.pos,p -a.pos,a.ok⟩,⟨by simpa using h2,fun u hu=> ?_⟩,rfl, .inl ⟨rfl,gF l _ ⟨a.r,a.pos,p -a.pos,a.ok⟩⟩⟩
    rcases List.mem_or_eq_of_mem_set hu with hu | rfl
    ·exact h3 u hu
    ·exact h5
   ·rintro⟨v,l⟩ ⟨h4,h5⟩
    simp at h4 h5
    simp
    refine⟨by omega,by omega,fun v=> ⟨p+ (Utf8.decode s p).2,v,l++ [⟨⟨(Utf8.decode s p).1⟩,p,0,false⟩],⟨hw.2,by simp;omega,fun u hu=> ?_⟩,⟨rfl, .inl rfl, .inl ⟨rfl,Fl l ⟨⟨(Utf8.decode s p).1⟩,p,0,false⟩⟩⟩,by omega⟩⟩
    rcases List.mem_append.1 hu with hu | hu
    ·have:=h5 u hu;omega
    ·simp at hu;subst hu;simp;omega
  ·exact⟨v,l,⟨by omega,fun u hu=> by have:=h3 u hu;omega⟩,by simp⟩
 ·rintro⟨v,l⟩ ⟨h1,h2⟩
  simp at h1 h2
  simp
  refine cS (X:=List o9) [3] [] (fun x=> x.length=l.length) (fun x=> []) (fun x=> [(36, .row v br 4 (x.map enc))]) ?_ ?_
  ·simp
   refine fun _=> ⟨fun h4 _=> ?_,fun h4=> ⟨l,rfl, .inl rfl⟩⟩
   obtain⟨a,ha⟩:=fE (l:=l) (k:=l.length -1) (by omega)
   have h5:=h2 a (gu ha)
   simp only[InR]
   refine⟨by omega,fun _ _=> ⟨by omega,by omega,by omega,by omega,fun a' ha'=> ?_⟩⟩
   rw[ha] at ha'
   cases ha'
   refine⟨by omega,by omega,by omega,by omega,fun a' ha'=> ?_⟩
   rw[ha] at ha'
   cases ha'
   exact⟨l.set (l.length -1) ⟨a.r,a.pos,s.size -a.pos,a.ok⟩,by simp, .inl (gF l _ ⟨a.r,a.pos,s.size -a.pos,a.ok⟩)⟩
  ·intro l h3
   simp
   intro _
   refine aq (X:=List o9) [3] [] l.length (fun k x=> x.length=l.length) (fun x=> []) (fun x=> [(36, .row v br 4 (x.map enc))]) l (by simp) (by simp) (by omega) (by simp) (by simp) (by simp) (by simp) (by simp) ?_ ?_
   ·intro k x hk h4
    simp
    obtain⟨a,ha⟩:=fE (l:=x) (k:=k) (by omega)
    simp[ha]
    have hkx:k < x.length:=by omega
    exact⟨hkx,fun _=> ⟨hkx,x.set k ⟨a.r,a.pos,a.sz,decide (a.sz=3)⟩,by simpa using h4, .inl (gF x k ⟨a.r,a.pos,a.sz,decide (a.sz=3)⟩)⟩,fun _=> ⟨hkx,x.set k ⟨a.r,a.pos,a.sz,true⟩,by simpa using h4, .inl (gF x k ⟨a.r,a.pos,a.sz,true⟩)⟩⟩
   ·intro x h4
    simp
    exact dE x (jQ br (by simp)) trivial
abbrev s_r01_Valid:Spc:=cv (a1 B) (fun s=> s.size≤100000) (enc (X:=Bool)) lz
theorem FH (h1:S lQ=s_r01_Units):aN qL qb S (a1 B) (fun s=> s.size≤100000) (enc (X:=Bool)) lz:=by
 rintro s hs
 have hs:s.size≤100000:=hs
 simp[qL,qb,h1]
 refine⟨hs,fun l _=> ?_⟩
 refine aq (X:=Unit) [6] [] l.length (fun _ _=> True) (fun _=> []) (fun _=> []) () (by simp) (by simp) (by omega) (by simp) (by simp) trivial (by simp) (by simp) ?_ ?_
 ·intro k _ hk _
  simp[hk]
 ·intro _ _
  simp
def mL (s:B) (y:Int):Prop:=y=0→s.size≤120
abbrev s_r04_ValidValue:Spc:=cv (a1 B) cd (enc (X:=Int)) mL
theorem w6 (h1:S lP=s_r01_Valid):aN kI j3 S (a1 B) cd (enc (X:=Int)) mL:=by
 rintro s -
 simp[kI,j3,h1]
 refine fun _=> ⟨fun h h'=> by omega,fun hs=> ⟨by omega,fun h'=> by omega,fun hlen=> ?_⟩⟩
 refine aq (X:=Unit) [12] [] (s.data.toList.length) (fun _ _=> True) (fun _=> []) (fun _=> []) () (by simp) (by simp) (by simpa using hlen) (by simp) (by simp) trivial (by simp) (by simp) ?_ ?_
 ·intro k _ hk _
  simp at hk
  simp[hk,mL]
 ·intro _ _
  simp[mL]
  omega
abbrev s_r05_Parse:Spc:=cv (a1 B) cd (tG (Y:=List B) (Z:=Int)) lz
theorem FF (h1:S bH=s_r04_ValidValue):aN qJ pZ S (a1 B) cd (tG (Y:=List B) (Z:=Int)) lz:=by
 rintro s -
 simp[qJ,pZ,h1,cd]
 intro e he he0 _ hne
 have hs:=he he0
 have hpos:0 < s.size:=by
  rcases Nat.eq_zero_or_pos s.size with h | h
  ·exact absurd (ByteArray.size_eq_zero_iff.1 h) hne
  ·exact h
 refine⟨hpos,fun c _ _=> ⟨by simp[InR];omega,by omega,by omega,fun c' _ _=> ?_⟩⟩
 refine bq (X:=Nat×Nat×Value×List B) [0,5] [] (fun x=> 1≤x.1∧x.1≤s.size∧x.2.1≤x.1∧x.2.2.2.length≤x.1) (fun x=> [(8,enc (x.1:Int)),(7,enc (x.2.1:Int)),(6, .own 49 x.2.2.1)]) (fun x=> [(49, .row x.2.2.1 ai 1 (x.2.2.2.map enc))]) (fun x=> s.size -x.1) (1,1, .slice none 0 0, []) (by simp;omega) (by simp) (by simp[isNilRow]) ?_
 rintro⟨i,fr,v,l⟩ ⟨q1,q2,q3,q4⟩
 simp at q1 q2 q3 q4
 simp
 refine⟨fun hi=> ⟨hi,fun c _=> ⟨fun _=> ⟨by simp[InR];omega,i+1,fr,v,l,⟨by omega,by omega,by omega,by omega⟩,⟨⟨rfl,rfl,rfl⟩, .inl ⟨rfl,rfl⟩⟩,by omega⟩,fun _ _=> ⟨by omega,by omega,by omega,by omega,fun v=> ⟨by simp[InR];omega,i+1,i+1,v,l++ [s.extract fr i],⟨by omega,by omega,by omega,by simp;omega⟩,⟨⟨rfl,rfl,rfl⟩, .inl ⟨rfl,Fl l _⟩⟩,by omega⟩⟩⟩⟩,fun _=> ?_⟩
 refine bq (X:=Nat) [6] [49] (fun x=> 1≤x∧x≤l.length+1) (fun x=> [(9,enc (x:Int))]) (fun x=> []) (fun x=> l.length+1 -x) 1 (by simp) (by simp) (by simp) ?_
 intro k hk
 simp
 exact fun _=> ⟨fun _=> ⟨by simp[InR];omega,by omega,by omega,by omega,fun _ _=> ⟨by omega,fun _ _ _=> ⟨by simp[InR];omega,k+1,by omega,by omega,by omega⟩⟩⟩,fun _=> ⟨l,jQ ai (by simp)⟩⟩
end Go.Gv
