/- W10 -/
import Derived.Test.YtnffegdacbdhmaaGreatDoorGd14
set_option linter.all false
set_option maxRecDepth 100000
open Bool renaming forall_bool → fB', exists_bool → eB'
namespace Go.Gv
open Cod (enc dec)
variable {S S0:Nat->Spc}
def MP(x n:Int)(h:1<=n):0<=In x n/\In x n<n:=by
 unfold In;rw[if_neg (by omega)];have h1:=Int.tmod_lt_of_pos x (show 0<n by omega);have h2: -n<x.tmod n:=by
  have h3:=Int.natAbs_tmod x n;have h4:x.natAbs % n.natAbs<n.natAbs:=qBG _ (by omega);omega
 split<;>omega
def qoe:CC:= .reg [
 .op (some 4) none (.mv (.const (.int .i64 0)))]
def qms:CC:= .seq (.regd [
 .op (some 5) none (.mv (.tmp 0)),
 .op (some 6) none (.nilck (.tmp 5)),
 .op (some 7) none (.faddr 1 (.tmp 6)),
 .op (some 8) none (.load false 1 (.tmp 7)),
 .op (some 9) none (.mv (.tmp 0)),
 .op (some 10) none (.nilck (.tmp 9)),
 .op (some 11) none (.faddr 0 (.tmp 10)),
 .op (some 12) none (.load false 1 (.tmp 11)),
 .op (some 13) none (.len (.tmp 12))] [
 .op (some 14) none (.cmp .geq (.tmp 8) (.tmp 13))]) (.ite (.tmp 14) (.seq (.reg [
  .op (some 4) none (.mv (.const (.int .i64 0)))]) .ret) .skip)
def qkV:CC:= .reg [
 .op (some 15) none (.mv (.tmp 0)),
 .op (some 16) none (.nilck (.tmp 15)),
 .op (some 17) none (.faddr 1 (.tmp 16)),
 .op (some 18) none (.load false 1 (.tmp 17)),
 .op (some 19) none (.arith .add (.tmp 18) (.const (.int .i64 1))),
 .op (some 20) none (.nilck (.tmp 15)),
 .op (some 21) none (.faddr 1 (.tmp 20)),
 .op none none (.store none 1 (.tmp 21) (.tmp 19))]
def qod:CC:= .seq (.regd [
 .op (some 22) none (.mv (.tmp 0)),
 .op (some 23) none (.nilck (.tmp 22)),
 .op (some 24) none (.faddr 0 (.tmp 23)),
 .op (some 25) none (.load false 1 (.tmp 24)),
 .op (some 26) none (.mv (.tmp 0)),
 .op (some 27) none (.nilck (.tmp 26)),
 .op (some 28) none (.faddr 1 (.tmp 27)),
 .op (some 29) none (.load false 1 (.tmp 28)),
 .op (some 30) none (.arith .sub (.tmp 29) (.const (.int .i64 1))),
 .op (some 31) none (.iaddr 1 (.tmp 25) (.tmp 30)),
 .op (some 32) none (.load false 1 (.tmp 31)),
 .op (some 33) none (.mv (.tmp 1))] [
 .op (some 34) none (.call wg [(.tmp 32),(.tmp 33)]),
 .op (some 4) none (.mv (.tmp 34))]) .ret
def qfk:bG vw= .seq qoe (.seq qms (.seq qkV qod)):=rfl
def qpD:bG qoe=qoe:=rfl
def qpC:bG qms=qms:=rfl
def qpB:bG qkV=qkV:=rfl
def qpA:bG qod=qod:=rfl
def qkU(b:Nat)(s:Value)(i n:Int):Ex->Sg->ab->Prop:=λe σ H=>match e with
 | .norm=>σ 0= .bptr 0 b 0/\σ 1= .v (.int .i64 n)/\H 0=some (.box b [.v s, .v (.int .i64 (i+1))])/\i<slen s
 | .ret=>σ 4= .v (.int .i64 0)/\H 0=some (.box b [.v s, .v (.int .i64 i)])
 | .ex _=>False
@[simp ↓] theorem qyq(b:Nat)(s:Value)(i n:Int)(σ:Sg)(H:ab):qkU b s i n .norm σ H=(σ 0= .bptr 0 b 0/\σ 1= .v (.int .i64 n)/\H 0=some (.box b [.v s, .v (.int .i64 (i+1))])/\i<slen s):=i' rfl
@[simp ↓] theorem qyp(b:Nat)(s:Value)(i n:Int)(σ:Sg)(H:ab):qkU b s i n .ret σ H=(σ 4= .v (.int .i64 0)/\H 0=some (.box b [.v s, .v (.int .i64 i)])):=i' rfl
def qi9(b:Nat)(a:Option Addr)(len cap:Nat)(i n:Int)(h0:0<=i)(hl:(len:Int)<=9223372036854775807):vc S (.seq qoe (.seq qms qkV)) (qkU b (.slice a len cap) i n) (dC [.bptr 0 b 0, .v (.int .i64 n)]) (ai cY 0 (some (.box b [.v (.slice a len cap), .v (.int .i64 i)]))):=by
 simp[qoe,qms,qkV,slen];intro h;exact⟨by simp only[InR];omega,h⟩
def qyo(n:Int):Ex->Sg->ab->Prop:=λe σ H=>match e with
 | .ret=>∃y,σ 4= .v (.int .i64 y)/\(n< 1/\y=0\/1<=n/\0<=y/\y<n)
 | _=>False
@[simp ↓] theorem qyn(n:Int)(σ:Sg)(H:ab):qyo n .ret σ H=(∃y,σ 4= .v (.int .i64 y)/\(n< 1/\y=0\/1<=n/\0<=y/\y<n)):=i' rfl
def qi8(hm:S wg=s_m_Mod)(L:List Int)(i n:Int)(h0:0<=i)(hi:i<L.length)(hn:n<=1000000000)(hl:(L.length:Int)<=9223372036854775807):vc S qod (qyo n) (dC [.cptr [.list 1 (L.map enc), .v (.int .i64 (i+1))] 0, .v (.int .i64 n)]) cY:=by
 obtain⟨x,hx⟩:=aQ (l:=L) (k:=i.toNat) (by omega);simp[qod,hm];refine⟨by simp only[InR];omega,h0,hi,λa _=>⟨hn,?_⟩⟩;rcases Int.lt_or_le n 1 with h|h
 ·exact .inl ⟨h,by simp[In,h]⟩
 ·exact .inr ⟨h,MP a n h⟩
end Go.Gv
namespace Go.Gv
open Cod (enc dec)
variable {dq:Prop}
def MW{tp I tp' I':Nat->Prop}{w w':World}{s:Value}{es:List D}(hes:∀d∈es,∃n,d= .v (.int .i64 n))(h:R tp I w s (.list 1 es))(hI:∀c,I c->I' c/\w'.heap[c]? =w.heap[c]?):R tp' I' w' s (.list 1 es):=by
 cases h with
 |nolist a cap _=>exact .nolist _ _ _
 | list b off cap n es f hb hc hm hz hn hcell h1 h2=>
   refine .list b off cap _ es f (hI b hb).1 hc hm (λh=>absurd rfl h) hn (λk c hk=>by rw[qBZ (w:=w) (hI b hb).2];exact hcell k c hk) h1 (λk c hk=>?_);have hc':=qzY hk;simp only[be,qBB]at hc';obtain⟨d,hd,hcd⟩:=hc';obtain⟨n,rfl⟩:=hes d hd;simp[D.cells]at hcd;subst hcd;have:=h2 k _ hk;generalize f k=y at this ⊢;cases this with
   |v _ a1 a2=>exact .v _ a1 a2
def Ny{P:Program}{im:List Nat}{N:Nat}{code:Code}{a b:CC}(h:aG P im N code=some (.seq a b)):∃x y,code= .seq x y/\aG P im N x=some a/\aG P im N y=some b:=by
 rcases bq h with⟨h,_⟩|⟨_,_,_,_,h,_⟩|⟨_,_,_,_,_,h⟩|⟨a',b',x,y,h1,h2,h3,h4⟩|⟨_,_,_,_,_,_,h,_⟩|⟨_,_,_,_,h,_⟩|⟨_,_,_,h,_⟩|⟨_,_,h⟩|⟨_,h⟩ <;>try (simp at h;done)
 cases h2;exact⟨a',b',h1,h3,h4⟩
abbrev s_m_Next:Spc:=aL (aT (a1 Int)) (λx=>x.2<=1000000000) (enc (X:=Int)) (λx y=>x.2< 1/\y=0\/1<=x.2/\0<=y/\y<x.2)
section
variable {P:Program}{S:Nat->Spc}{f:Nat}{im:List Nat}{N:Nat}
theorem qdN(hS:∀f,Tri dq P f (S f).pt)(hm:S wg=s_m_Mod)(h:Ak P f im vw Bl N)(hN:2<=N):Tri dq P f s_m_Next.pt:=by
 obtain⟨wQ,enter,fn,code,h1,h2,h3,h4,h5⟩:=h;subst h3;rw[qfk]at h4;obtain⟨x0,y0,rfl,hc0,h4⟩:=Ny h4;obtain⟨xA,yA,rfl,hcA,h4⟩:=Ny h4;obtain⟨xB,xC,rfl,hcB,hcC⟩:=Ny h4;intro O tp w vs ds H d K hO htl hsat hlen hargs hA;refine⟨enter,calls_of_wp h1 h2 ?_⟩;simp only[s_m_Next,nQ]at hA;cases hd:(aT (a1 Int)).dec ds with
 |none=>rw[hd]at hA;exact hA.elim
 |some x=>
 rw[hd]at hA;obtain⟨L,n⟩:=x;obtain⟨hp,hK⟩:=hA;have hl:=(aT (a1 Int)).le ds (L,n) hd;have hl1:ds.length=2:=hl.1
 match ds,vs,hl,hl1,hlen,hargs with
 | [d0,d1], [v0,v1],hl,_,_,hargs=>
 have e0:d0= .tape L:=by
  have:=hl.2 0 d0 (.tape L) rfl rfl;cases this;rfl
 have e1:d1= .v (.int .i64 n):=by
  have:=hl.2 1 d1 (.v (.int .i64 n)) rfl rfl;cases this;rfl
 subst e0;subst e1;have r1:=(hargs 1 v1 _ rfl rfl).inv_v;subst r1;have r0:=hargs 0 v0 _ rfl rfl;cases r0 with
 |tape b _ s i el hb hh g0 g1 gs hR=>
 obtain⟨a,len,cap,rfl⟩:∃a len cap,s= .slice a len cap:=by
  generalize L.map (λn=>D.v (.int .i64 n))=es at hR;cases hR<;>exact⟨_,_,_,rfl⟩
 have hlen:(len:Int)<=9223372036854775807:=by
  generalize L.map (λn=>D.v (.int .i64 n))=es at hR;cases hR with
  |nolist=>simp
  |list b off cap n es f hI hc hm=>simp only[maxLen]at hm;omega
 have hLl:len=L.length:=gs;have hbl:=htl.1 b hb
 let O2:Nat->Prop:=λx=>(O x\/bL H x)/\x≠b
 let tp2:Nat->Prop:=λx=>tp x/\x≠b
 let E2:AD:={ O:=O2,tp0:=tp2,w0:=w,own0:=λx=>x=b,N:=fn.ntmps,dq:=dq }
 let H2:ab:=ai cY 0 (some (.box b [.v (.slice a len cap), .v (.int .i64 i)]))
 have hownlt:∀c,bL H c->c<w.heap.size:=λc ⟨j,r,k1,k2⟩=>(hsat.ok j r k1).lt k2
 have h2:∀j r,H2 j=some r->j=0/\r= .box b [.v (.slice a len cap), .v (.int .i64 i)]:=λj r hj=>by
  by_cases e:j=0
  ·subst e;simp only[H2,ai,if_true]at hj;cases hj;exact⟨rfl,rfl⟩
  ·simp[H2,ai,e,cY]at hj
 have hst:St E2 (dC [.bptr 0 b 0, .v (.int .i64 n)]) H2 { tmps:= #[.pointer (some ⟨b,0,none⟩), .int .i64 n] ++Array.replicate (fn.ntmps -2) undef,defers:=[] } w:=by
  refine⟨rfl,?_,tp2,⟨λc hc=>hc.1.elim (hO c) (hownlt c),λc hc=>hc,λc hc=> .inl hc,⟨λc hc=>htl.1 c hc.1,λp hp=>⟨λh=>(htl.2 p hp).1 h.1,λh=>(htl.2 p hp).1 (h ▸hb),(htl.2 p hp).2.2⟩⟩, .refl _ _ _,λc ⟨j,r,k1,k2⟩=>?_,⟨λj k r q c k1 k2 k3 k4=>?_,λj r c k1 k2=>?_,λj r k1=>?_⟩⟩,λt=>?_⟩
  ·show(_:Array Value).size=fn.ntmps;simp;omega
  ·obtain⟨_,rfl⟩:=h2 j r k1;cases k2;exact .inl rfl
  ·rw[(h2 j r k1).1,(h2 k q k2).1]
  ·obtain⟨_,rfl⟩:=h2 j r k1;cases k2;exact⟨λh=>h.2 rfl,λh=>h.2 rfl⟩
  ·obtain⟨_,rfl⟩:=h2 j r k1;refine⟨_,el,hh,rfl,λk y c hy hc=>?_⟩;rcases k with _|_|k
   ·simp at hy hc;subst hy;subst hc;exact⟨rfl, .v _ rfl (λs hs=>by cases hs)⟩
   ·simp at hy hc;subst hy;subst hc;exact⟨rfl, .v _ rfl (λs hs=>by cases hs)⟩
   ·simp at hy
  ·have q0:(#[Value.pointer (some ⟨b,0,none⟩), .int .i64 n] ++Array.replicate (fn.ntmps -2) undef).getD 0 undef=Value.pointer (some ⟨b,0,none⟩):=by
    rw[qAv,qAM (by simp)];rfl
   have q1:(#[Value.pointer (some ⟨b,0,none⟩), .int .i64 n] ++Array.replicate (fn.ntmps -2) undef).getD 1 undef=Value.int .i64 n:=by
    rw[qAv,qAM (by simp)];rfl
   rcases t with _|_|t
   ·show R _ _ _ (Array.getD _ 0 undef) _;rw[q0];exact .bptr _ _ _
   ·show R _ _ _ (Array.getD _ 1 undef) _;rw[q1];exact .v _ rfl (λs hs=>by cases hs)
   ·exact .any _
 have sC:∀(w2:World) (j y:Int) (el':Nat),w2.os=w.os->w2.tape=w.tape->w2.output=w.output->w.heap.size<=w2.heap.size->(∀c,c<w.heap.size->¬tp c->w2.heap[c]? =w.heap[c]?)->
  (∀c,tp c->c≠b->TapeStep w w2 c)->w2.heap[b]? =some (.cells #[.slice a len cap, .int .i64 j] el' (0,0))->0<=j->j<=len->(dq->w.drawn<=w2.drawn)->
  (n< 1/\y=0\/1<=n/\0<=y/\y<n)->ZJ dq O tp H w K (.returned (.int .i64 y)) w2:=by
  intro w2 j y el' s1 s2 s3 s4 s5 s6 s7 s8 s9 s11 s10;have htapes:∀c,tp c->TapeStep w w2 c:=λc hc=>by
   by_cases e:c=b
   ·subst e;intro s' i' el0 hh' _ _;rw[hh]at hh';cases hh';exact⟨j,el',s7,s8,s9⟩
   ·exact s6 c hc e
  refine⟨_, .v (.int .i64 y),H,tp,rfl,hK y s10,λc hc=>hc,λc hc=> .inl hc,λc hc=>qAj (htl.1 c hc) s4,⟨s1,s2,s3,s4,λc hc _ ht=>s5 c hc ht,htapes,s11⟩,λc hc=> .inl hc,
   ⟨hsat.dis,hsat.out,λk r hk=>(hsat.ok k r hk).conv (λx d hr=>hr.mono (λ_ h=>h) (λc hc=>⟨⟨qAj hc.1 s4,hc.2.1,hc.2.2.1,hc.2.2.2⟩,s5 c hc.1 hc.2.2.1⟩) htapes) (λc hc=>s5 c ((hsat.ok k r hk).lt hc) (hsat.out k r c hk hc).2)⟩, .v _ rfl (λs hs=>by cases hs)⟩
 have hv:=qi9 (S:=S) b a len cap i n g0 hlen;have cells2:∀(tp':Nat->Prop) (H':ab) (w':World) (j:Int),StW E2 tp' H' w'->H' 0=some (.box b [.v (.slice a len cap), .v (.int .i64 j)])->∃el',w'.heap[b]? =some (.cells #[.slice a len cap, .int .i64 j] el' (0,0)):=by
  intro tp' H' w' j hw hH;obtain⟨xs,el',k1,k2,k3⟩:=hw.sat.ok 0 _ hH;refine⟨el',?_⟩;rw[k1];obtain⟨l⟩:=xs
  match l,k2,k3 with
  | [x,y],_,k3=>
    have a1:=(k3 0 x _ rfl rfl).2.inv_v;have a2:=(k3 1 y _ rfl rfl).2.inv_v;rw[a1,a2]
 have hret:∀(a':Act) (w':World) (σ':Sg) (H':ab),St E2 σ' H' a' w'->qkU b (.slice a len cap) i n .ret σ' H'->a'.defers=[]/\∃v,(results fn a'.tmps).run P w'= .ok v w'/\ZJ dq O tp H w K (.returned v) w':=by
  rintro a' w' σ' H' ⟨hd',hN',tp',hw',hr'⟩ ⟨k1,k2⟩;obtain⟨v,r0,hrun,hRv,hq⟩:=rh (H:=H') (K:=λr=>r= .v (.int .i64 0)) h5 hr' hw'.sat.ok k1;subst hq;have:=hRv.inv_v;subst this;obtain⟨el',k3⟩:=cells2 tp' H' w' i hw' k2;have st:=hw'.step;refine⟨hd',_,hrun,sC w' i 0 el' st.os st.tape st.output st.size (λc hc ht=>st.same c hc (λe=>ht (e ▸hb)) (λh=>ht h.1)) (λc hc hcb=>st.tapes c ⟨hc,hcb⟩) k3 g0 g1 st.drawn ?_⟩;rcases Int.lt_or_le n 1 with h|h
  ·exact .inl ⟨h,rfl⟩
  ·exact .inr ⟨h,by omega,by omega⟩
 have htail:∀(a':Act) (w':World) (σ':Sg) (H':ab),St E2 σ' H' a' w'->qkU b (.slice a len cap) i n .norm σ' H'->xC.wp P (bodyPost P fn (ZJ dq O tp H w K)) a' w':=by
  rintro a1 w1 σ1 H1 ⟨hd1,hN1,tp1,hw1,hr1⟩ ⟨k1,k2,k3,k4⟩;obtain⟨el1,k5⟩:=cells2 tp1 H1 w1 (i+1) hw1 k3;have st1:=hw1.step;have hsz1:w.heap.size<=w1.heap.size:=st1.size;have same1:∀c,c<w.heap.size->¬tp c->w1.heap[c]? =w.heap[c]?:=λc hc ht=>st1.same c hc (λe=>ht (e ▸hb)) (λh=>ht h.1)
  have tp1o:∀c,c<w.heap.size->tp1 c->tp2 c:=λc hc h=>(hw1.tpn c h).elim id (λh=>by
   have h:w.heap.size<=c:=h;omega)
  have hb1:¬tp1 b:=λh=>(tp1o b hbl h).2 rfl
  let E3:AD:={ O:=O2,tp0:=tp1,w0:=w1,own0:=λ_=>False,N:=fn.ntmps,dq:=dq }
  have himm:∀c,bh O tp H w c->bh O2 tp1 cY w1 c/\w1.heap[c]? =w.heap[c]?:=λc hc=>⟨⟨qAj hc.1 hsz1,λh=>h.1.elim hc.2.1 hc.2.2.2,λh=>hc.2.2.1 (tp1o c hc.1 h).1,λ⟨j,r,h,_⟩=>by simp[cY]at h⟩,same1 c hc.1 hc.2.2.1⟩
  have hbi:bh O2 tp1 cY w1 b:=⟨qAj hbl hsz1,λh=>h.2 rfl,hb1,λ⟨j,r,h,_⟩=>by simp[cY]at h⟩
  have hRs:R tp1 (bh O2 tp1 cY w1) w1 (.slice a len cap) (.list 1 (L.map enc)):=MW (es:=L.map λn=>D.v (.int .i64 n)) (λd hd=>by simp at hd;obtain⟨n,_,rfl⟩:=hd;exact⟨n,rfl⟩) hR himm;have st3:St E3 (dC [.cptr [.list 1 (L.map enc), .v (.int .i64 (i+1))] 0, .v (.int .i64 n)]) cY a1 w1:=by
   refine⟨hd1,hN1,tp1,⟨λc hc=>qAj (hc.1.elim (hO c) (hownlt c)) hsz1,λc hc=>hc,λc hc=> .inl hc,⟨hw1.tpl.1,hw1.tpg.2.mono (λ_ h=>h) (λb h=>h.elim)⟩, .refl _ _ _,λc ⟨j,r,k1,k2⟩=>by simp[cY]at k1,⟨λj k r q c k1 k2 k3 k4=>by simp[cY]at k1,λj r c k1 k2=>by simp[cY]at k1,λj r k1=>by simp[cY]at k1⟩⟩,λt=>?_⟩;rcases t with _|_|t
   ·have r0:=hr1 0;rw[k1]at r0;generalize a1.tmps.getD 0 undef=v0 at r0 ⊢;cases r0;obtain⟨f,q1,q2,q3⟩:=yn (tp:=tp1) (I:=bh O2 tp1 cY w1) (w:=w1) (cells:=[.list 1 (L.map enc), .v (.int .i64 (i+1))]) k5 rfl (by
     intro k y c hy hc;rcases k with _|_|k
     ·simp at hy hc;subst hy;subst hc;exact⟨rfl,by simpa using hRs⟩
     ·simp at hy hc;subst hy;subst hc;exact⟨rfl, .v _ rfl (λs hs=>by cases hs)⟩
     ·simp at hy)
    have:=Gv.R.cptr (tp:=tp1) (I:=bh O2 tp1 cY w1) b 0 [.list 1 (L.map enc), .v (.int .i64 (i+1))] 0 f hbi (λ_=>⟨_,_,k5⟩) q1 q2 q3;simpa [dC]using this
   ·have r0:=hr1 1;rw[k2]at r0;have:=r0.inv_v;show R _ _ _ _ (.v (.int .i64 n));rw[this];exact .v _ rfl (λs hs=>by cases hs)
   ·exact .any _
  have hv3:=qi8 (S:=S) hm L i n g0 (by have:i<(len:Int):=k4;omega) hp (by omega);refine qBr ?_ (xD (E:=E3) hS wQ qod xC (by rw[qpA];exact hcC) _ _ _ _ _ st3 hv3);intro e a2 w2 hp2;cases e with
  | ret=>
    obtain⟨σ2,H2',⟨hd2,hN2,tp2',hw2,hr2⟩,y,k6,k7⟩:=hp2;obtain⟨v,r0,hrun,hRv,hq⟩:=rh (H:=H2') (K:=λr=>r= .v (.int .i64 y)) h5 hr2 hw2.sat.ok k6;subst hq;have:=hRv.inv_v;subst this;have st2:=hw2.step;have hsz2:w1.heap.size<=w2.heap.size:=st2.size;have same2:∀c,c<w1.heap.size->¬tp1 c->w2.heap[c]? =w1.heap[c]?:=λc hc ht=>st2.same c hc (λh=>h) ht
    refine⟨hd2,_,hrun,sC w2 (i+1) y el1 (st2.os.trans st1.os) (st2.tape.trans st1.tape) (st2.output.trans st1.output) (qAx hsz1 hsz2) (λc hc ht=>?_) (λc hc hcb=>(st1.tapes c ⟨hc,hcb⟩).trans (st2.tapes c (hw1.tpx c ⟨hc,hcb⟩))) ?_ (by omega) (by have:i<(len:Int):=k4;omega) (λq=>qAx (st1.drawn q) (st2.drawn q)) k7⟩
    ·rw[same2 c (by omega) (λh=>ht (tp1o c hc h).1),same1 c hc ht]
    ·rw[same2 b (by omega) hb1,k5]
  |normal=>obtain⟨σ2,H2',_,k⟩:=hp2;exact k.elim
  |exit j=>obtain⟨σ2,H2',_,k⟩:=hp2;exact k.elim
  |goto l=>exact hp2.elim
  |panic c=>exact hp2.elim
  |outgrown=>exact hp2.elim
 refine wp_seq (qBr ?_ (xD (E:=E2) hS wQ qoe x0 (by rw[qpD];exact hc0) (Yv S (.seq qms qkV) (qkU b (.slice a len cap) i n)) _ _ _ _ hst hv));intro e a1 w1 hp1;cases e with
 | normal=>
   obtain⟨σ1,H1,st1,k1⟩:=hp1;refine wp_seq (qBr ?_ (xD (E:=E2) hS wQ qms xA (by rw[qpC];exact hcA) (Yv S qkV (qkU b (.slice a len cap) i n)) _ _ _ _ st1 k1));intro e a1 w1 hp1;cases e with
   | normal=>
     obtain⟨σ1,H1,st1,k1⟩:=hp1;refine wp_seq (qBr ?_ (xD (E:=E2) hS wQ qkV xB (by rw[qpB];exact hcB) (qkU b (.slice a len cap) i n) _ _ _ _ st1 k1));intro e a1 w1 hp1;cases e with
     |normal=>obtain⟨σ1,H1,st1,k1⟩:=hp1;exact htail a1 w1 σ1 H1 st1 k1
     |ret=>obtain⟨σ1,H1,st1,k1⟩:=hp1;exact hret a1 w1 σ1 H1 st1 k1
     |exit j=>obtain⟨σ2,H2',_,k⟩:=hp1;exact k.elim
     |goto l=>exact hp1.elim
     |panic c=>exact hp1.elim
     |outgrown=>exact hp1.elim
   |ret=>obtain⟨σ1,H1,st1,k1⟩:=hp1;exact hret a1 w1 σ1 H1 st1 k1
   |exit j=>obtain⟨σ2,H2',_,k⟩:=hp1;exact k.elim
   |goto l=>exact hp1.elim
   |panic c=>exact hp1.elim
   |outgrown=>exact hp1.elim
 |ret=>obtain⟨σ1,H1,st1,k1⟩:=hp1;exact hret a1 w1 σ1 H1 st1 k1
 |exit j=>obtain⟨σ2,H2',_,k⟩:=hp1;exact k.elim
 |goto l=>exact hp1.elim
 |panic c=>exact hp1.elim
 |outgrown=>exact hp1.elim
end
def FD(b:Nat)(L:List Int):Res:= .box b [.list 1 (L.map enc), .v (.int .i64 0)]
def qqi:PT:=λd ds H K=>∃l,(a1 (List Int)).dec ds=some l/\∀b L,K (.bptr d b 0) (ai H d (some (FD b L)))
def qhu(cc:CC)(rs:List ak)(S:Nat->Spc):Prop:=
 ∀l:List Int,vc S cc (vN rs λr H'=>∃j b L,r= .bptr j b 0/\H' j=some (FD b L)) (dC [enc l]) cY
section
variable {P:Program}{S:Nat->Spc}{f:Nat}{im:List Nat}{cc:CC}{rs:List ak}{N:Nat}
theorem Yi(hS:∀f,Tri dq P f (S f).pt)(h:Ak P f im cc rs N)(hN:1<=N)(hw:qhu cc rs S):Tri dq P f qqi:=by
 obtain⟨wQ,enter,fn,code,h1,h2,h3,h4,h5⟩:=h;refine nG hS wQ h1 h2 enter h3 h4 h5 ?_;rintro ds H d K ⟨l,hd,hK⟩;have hl:=(a1 (List Int)).le ds l hd;refine⟨by rw[hl.1];exact hN,_,cY,λ_=>0,hl,λi r h=>by simp[cY]at h,λi j r s h=>by simp[cY]at h,_,hw l,?_⟩;rintro r H' ⟨j,b,L,rfl,hj⟩;refine⟨.bptr d b 0,cY,ai H d (some (FD b L)),λi=>if i=d then some j else none, .bptr _ _ _ _,λj q h=>by simp[cY]at h,hK b L,λi s hi=>?_,λi j' k s q hi hj' e1 e2=>?_⟩
 ·by_cases e:i=d
  ·subst e;simp only[ai,if_true]at hi;cases hi;simpa using hj
  ·simp only[ai,e,if_false]at hi ⊢;exact⟨hi,λk q h=>by simp[cY]at h⟩
 ·have a:i=d:=by
   by_cases e:i=d
   ·exact e
   ·simp[e]at e1
  have b:j'=d:=by
   by_cases e:j'=d
   ·exact e
   ·simp[e]at e2
  exact a.trans b.symm
abbrev s_m_New:Spc:=aL (a1 (List Int)) (λ_=>True) (λL:List Int=>D.tape L) (λ_ _=>True)
theorem qiy(hf:Tri dq P f qqi):Tri dq P f s_m_New.pt:=by
 intro O tp w vs ds H d K hO htl hsat hlen hargs hA;simp only[s_m_New,nQ]at hA;cases hd:(a1 (List Int)).dec ds with
 |none=>rw[hd]at hA;exact hA.elim
 |some l=>
 rw[hd]at hA;obtain⟨_,hK⟩:=hA;have hownlt:∀c,bL H c->c<w.heap.size:=λc ⟨j,r,k1,k2⟩=>(hsat.ok j r k1).lt k2
 have hno:∀c,¬bL cY c:=λc ⟨j,r,h,_⟩=>by simp[cY]at h
 have himm:∀c,bh O tp H w c->bh (λc=>O c\/bL H c) tp cY w c:=λc hc=>⟨hc.1,λh=>h.elim hc.2.1 hc.2.2.2,hc.2.2.1,hno c⟩
 obtain⟨c1,c2⟩:=hf (λc=>O c\/bL H c) tp w vs ds cY 0 (λr H'=>∃b L,r= .bptr 0 b 0/\H'=ai cY 0 (some (FD b L))) (λc hc=>hc.elim (hO c) (hownlt c)) (htl.mono λb h=>(hno b h).elim)
  ⟨λi j r s b h=>by simp[cY]at h,λi r b h=>by simp[cY]at h,λi r h=>by simp[cY]at h⟩ hlen
  (λk x c hx hc=>(hargs k x c hx hc).mono (λ_ h=>h) (λc hc=>⟨himm c hc,rfl⟩) (λb _=> .refl _ _)) ⟨l,hd,λb L=>⟨b,L,rfl,rfl⟩⟩
 refine⟨c1,c2.mono ?_⟩;rintro e w1 ⟨x,r,H',tp',rfl,⟨b,L,rfl,rfl⟩,tpx,tpn,tpl,st,loc,sat,hR⟩;cases hR;have hH:ai cY 0 (some (FD b L)) 0=some (FD b L):=rfl;have hbo:bL (ai cY 0 (some (FD b L))) b:=⟨0,_,hH,rfl⟩
 have hbs:w.heap.size<=b:=(loc b hbo).elim (λh=>(hno b h).elim) id;have hbl:b<w1.heap.size:=(sat.ok 0 _ hH).lt rfl;have hbtp:=sat.out 0 _ b hH rfl;have hsz:w.heap.size<=w1.heap.size:=st.size;have old:∀c,c<w.heap.size->¬tp c->¬(tp' c\/c=b):=λc hc ht h=>h.elim (λh=>(tpn c h).elim ht (λh=>by
  have h:w.heap.size<=c:=h;omega)) (λh=>by omega)
 have same:∀c,c<w.heap.size->¬tp c->w1.heap[c]? =w.heap[c]?:=λc hc ht=>st.same c hc (hno c) ht
 obtain⟨xs,el,q1,q2,q3⟩:=sat.ok 0 _ hH;obtain⟨xl⟩:=xs
 match xl,q2,q3,q1 with
 | [s,y],_,q3,q1=>
 have a1':=(q3 0 s _ rfl rfl).2;have a2:=(q3 1 y _ rfl rfl).2.inv_v;subst a2;have hsl:slen s=L.length:=by
  generalize hes:L.map enc=es at a1';have hl2:L.length=es.length:=by rw[<-hes];simp
  cases a1' with
  |nolist=>simp at hl2;simp[slen,hl2]
  |list=>rw[hl2];rfl
 refine⟨_, .tape L,H,λc=>tp' c\/c=b,rfl,hK L trivial,λc hc=> .inl (tpx c hc),λc hc=>hc.elim (tpn c) (λe=> .inr (e ▸hbs)),λc hc=>hc.elim (tpl c) (λe=>e ▸hbl),
  ⟨st.os,st.tape,st.output,st.size,λc hc _ ht=>same c hc ht,st.tapes,st.drawn⟩,λc hc=> .inl hc,
  ⟨hsat.dis,λi r c hi hc=>⟨(hsat.out i r c hi hc).1,old c ((hsat.ok i r hi).lt hc) (hsat.out i r c hi hc).2⟩,λi r hi=>(hsat.ok i r hi).conv (λx d hr=>hr.mono (λc hc=> .inl (tpx c hc)) (λc hc=>⟨⟨qAj hc.1 hsz,hc.2.1,old c hc.1 hc.2.2.1,hc.2.2.2⟩,same c hc.1 hc.2.2.1⟩) st.tapes) (λc hc=>same c ((hsat.ok i r hi).lt hc) (hsat.out i r c hi hc).2)⟩,?_⟩
 refine .tape b L s 0 el (.inr rfl) q1 (by omega) (by omega) hsl ?_;have a3:R tp' (bh (λc=>O c\/bL H c) tp' (ai cY 0 (some (FD b L))) w1) w1 s (.list 1 (L.map λn=>D.v (.int .i64 n))):=a1';exact MW (λd hd=>by simp at hd;obtain⟨n,_,rfl⟩:=hd;exact⟨n,rfl⟩) a3 (λc hc=>⟨⟨hc.1,λh=>hc.2.1 (.inl h),λh=>h.elim hc.2.2.1 (λe=>hc.2.2.2 (e ▸hbo)),λh=>hc.2.1 (.inr h)⟩,rfl⟩)
end
end Go.Gv
namespace Go.Gv
open Cod (enc dec)
variable {S S0:Nat->Spc}
def rB{X Y:Type}(_:X)(_:Y):Prop:=True
@[simp] theorem qx2{X Y:Type}(x:X)(y:Y):rB x y=True:=i' rfl
def bW{X:Type}(_:X):Prop:=True
abbrev s_r04_First:Spc:=aL (a1 U8) bW (enc (X:=Bool)) rB
def TT:am pE oc S (a1 U8) bW (enc (X:=Bool)) rB:=by
 rintro c -;simp[pE,oc]
abbrev s_r04_Next:Spc:=aL (a1 U8) bW (enc (X:=Bool)) rB
def XX(h1:S kY=s_r04_First):am rR rD S (a1 U8) bW (enc (X:=Bool)) rB:=by
 rintro c -;simp[rR,rD,h1,bW]
abbrev s_r04_ValidName:Spc:=aL (a1 B) bW (enc (X:=Bool)) rB
def JP(h1:S kY=s_r04_First)(h2:S uR=s_r04_Next):am il gT S (a1 B) bW (enc (X:=Bool)) rB:=by
 rintro s -;simp[il,gT,h1,h2,bW];intro _ h1 _ h32;refine⟨by omega,λc _=>?_⟩;refine ay (X:=Nat) [0] [] (λk=>k<=s.size) (λk=>[(3,enc (k:Int))]) (λ_=>[]) (λk=>s.size -k) 1 (by omega) ?_;intro k hk;simp[h2,bW,InR]
 repeat' first|apply And.intro|intro _
 all_goals first|omega|exact⟨k+1,by omega,by omega,by omega⟩
abbrev s_r01_Units:Spc:=aL (a1 B) (λs=>s.size<=100000) (enc (X:=List xu)) rB
theorem TV:am Ab yS S (a1 B) (λs=>s.size<=100000) (enc (X:=List xu)) rB:=by
 rintro s hs;have hs:s.size<=100000:=hs;simp[Ab,yS];intro b;refine bj (X:=Value×List xu) [0] [] (λx=>x.2.length<=100000/\∀u∈x.2,0<=u.pos/\u.pos<=100000) (λx=>[(3, .own 36 x.1)]) (λx=>[(36, .row x.1 de 4 (x.2.map enc))]) ?_ ?_
 ·simp;refine ay (X:=Nat×Value×List xu) [0,8] [] (λx=>x.1<=s.size/\x.2.2.length<=x.1/\∀u∈x.2.2,0<=u.pos/\u.pos<=x.1) (λx=>[(3, .own 36 x.2.1)]) (λx=>[(8, .iter b s x.1),(36, .row x.2.1 de 4 (x.2.2.map enc))]) (λx=>s.size -x.1) (0, .slice none 0 0, []) (by simp) ?_ (hh:=by simp[isNilRow]);rintro⟨p,v,l⟩ ⟨h1,h2,h3⟩;simp at h1 h2 h3;simp;refine⟨λhp=>?_,λhp=>?_⟩
  ·have hw:=qcY s p hp;refine bj (X:=Value×List xu) [0,4,5,8] [8] (λx=>x.2.length<=p/\∀u∈x.2,0<=u.pos/\u.pos<=p) (λx=>[(3, .own 36 x.1)]) (λx=>[(36, .row x.1 de 4 (x.2.map enc))]) ?_ ?_
   ·simp;refineλ_=>⟨λh4 _=>?_,λh4=>⟨v,l,⟨h2,h3⟩,rfl, .inl ⟨rfl,rfl⟩⟩⟩
    obtain⟨a,ha⟩:=aQ (l:=l) (k:=l.length -1) (by omega);have h5:=h3 a (aP ha);simp only[InR];refine⟨by omega,λ_=>⟨by omega,by omega,by omega,by omega,λa' ha'=>?_⟩⟩;rw[ha]at ha';cases ha';refine⟨by omega,by omega,by omega,by omega,λa' ha'=>?_⟩;rw[ha]at ha';cases ha';refine⟨v,l.set (l.length -1) ⟨a.r,a.pos,p -a.pos,a.ok⟩,⟨by simpa using h2,λu hu=>?_⟩,rfl, .inl ⟨rfl,jZ l _ ⟨a.r,a.pos,p -a.pos,a.ok⟩⟩⟩;rcases qA0 hu with hu|rfl
    ·exact h3 u hu
    ·exact h5
   ·rintro⟨v,l⟩ ⟨h4,h5⟩;simp at h4 h5;simp;refine⟨by omega,by omega,λv=>⟨p+ (Utf8.decode s p).2,v,l++ [⟨⟨(Utf8.decode s p).1⟩,p,0,false⟩],⟨hw.2,by simp;omega,λu hu=>?_⟩,⟨rfl, .inl rfl, .inl ⟨rfl,Tj l ⟨⟨(Utf8.decode s p).1⟩,p,0,false⟩⟩⟩,by omega⟩⟩;rcases qz5.1 hu with hu|hu
    ·have:=h5 u hu;omega
    ·simp at hu;subst hu;simp;omega
  ·exact⟨v,l,⟨by omega,λu hu=>by have:=h3 u hu;omega⟩,by simp⟩
 ·rintro⟨v,l⟩ ⟨h1,h2⟩;simp at h1 h2;simp;refine bj (X:=List xu) [3] [] (λx=>x.length=l.length) (λx=>[]) (λx=>[(36, .row v de 4 (x.map enc))]) ?_ ?_
  ·simp;refineλ_=>⟨λh4 _=>?_,λh4=>⟨l,rfl, .inl rfl⟩⟩
   obtain⟨a,ha⟩:=aQ (l:=l) (k:=l.length -1) (by omega);have h5:=h2 a (aP ha);simp only[InR];refine⟨by omega,λ_ _=>⟨by omega,by omega,by omega,by omega,λa' ha'=>?_⟩⟩;rw[ha]at ha';cases ha';refine⟨by omega,by omega,by omega,by omega,λa' ha'=>?_⟩;rw[ha]at ha';cases ha';exact⟨l.set (l.length -1) ⟨a.r,a.pos,s.size -a.pos,a.ok⟩,by simp, .inl (jZ l _ ⟨a.r,a.pos,s.size -a.pos,a.ok⟩)⟩
  ·intro l h3;simp;intro _;refine ah (X:=List xu) [3] [] l.length (λk x=>x.length=l.length) (λx=>[]) (λx=>[(36, .row v de 4 (x.map enc))]) l (by simp) ?_ ?_
   ·intro k x hk h4;simp;obtain⟨a,ha⟩:=aQ (l:=x) (k:=k) (by omega);simp[ha];have hkx:k<x.length:=by omega
    exact⟨hkx,λ_=>⟨hkx,x.set k ⟨a.r,a.pos,a.sz,decide (a.sz=3)⟩,by simpa using h4, .inl (jZ x k ⟨a.r,a.pos,a.sz,decide (a.sz=3)⟩)⟩,λ_=>⟨hkx,x.set k ⟨a.r,a.pos,a.sz,true⟩,by simpa using h4, .inl (jZ x k ⟨a.r,a.pos,a.sz,true⟩)⟩⟩
   ·intro x h4;simp;exact ba x (fG de (by simp)) trivial
abbrev s_r01_Valid:Spc:=aL (a1 B) (λs=>s.size<=100000) (enc (X:=Bool)) rB
def TU(h1:S BX=s_r01_Units):am Aa yR S (a1 B) (λs=>s.size<=100000) (enc (X:=Bool)) rB:=by
 rintro s hs;have hs:s.size<=100000:=hs;simp[Aa,yR,h1];refine⟨hs,λl _=>?_⟩;refine ah (X:=Unit) [6] [] l.length (λ_ _=>True) (λ_=>[]) (λ_=>[]) () trivial ?_ ?_
 ·intro k _ hk _;simp[hk]
 ·intro _ _;simp
def tL(s:B)(y:Int):Prop:=y=0->s.size<=120
abbrev s_r04_ValidValue:Spc:=aL (a1 B) bW (enc (X:=Int)) tL
def Hw(h1:S BW=s_r01_Valid):am pD oa S (a1 B) bW (enc (X:=Int)) tL:=by
 rintro s -;simp[pD,oa,h1];refineλ_=>⟨λh h'=>by omega,λhs=>⟨by omega,λh'=>by omega,λhlen=>?_⟩⟩
 refine ah (X:=Unit) [12] [] (s.data.toList.length) (λ_ _=>True) (λ_=>[]) (λ_=>[]) () trivial ?_ ?_ (hlen:=by simpa using hlen)
 ·intro k _ hk _;simp at hk;simp[hk,tL]
 ·intro _ _;simp[tL];omega
abbrev s_r05_Parse:Spc:=aL (a1 B) bW (mj (Y:=List B) (Z:=Int)) rB
theorem TR(h1:S hZ=s_r04_ValidValue):am zZ yQ S (a1 B) bW (mj (Y:=List B) (Z:=Int)) rB:=by
 rintro s -;simp[zZ,yQ,h1,bW];intro e he he0 _ hne;have hs:=he he0;have hpos:0<s.size:=by
  rcases qA4 s.size with h|h
  ·exact absurd (ByteArray.size_eq_zero_iff.1 h) hne
  ·exact h
 refine⟨hpos,λc _ _=>⟨by simp[InR];omega,by omega,by omega,λc' _ _=>?_⟩⟩;refine ay (X:=Nat×Nat×Value×List B) [0,5] [] (λx=>1<=x.1/\x.1<=s.size/\x.2.1<=x.1/\x.2.2.2.length<=x.1) (λx=>[(8,enc (x.1:Int)),(7,enc (x.2.1:Int)),(6, .own 49 x.2.2.1)]) (λx=>[(49, .row x.2.2.1 av 1 (x.2.2.2.map enc))]) (λx=>s.size -x.1) (1,1, .slice none 0 0, []) (by simp;omega) ?_ (hh:=by simp[isNilRow]);rintro⟨i,fr,v,l⟩ ⟨q1,q2,q3,q4⟩;simp at q1 q2 q3 q4;simp;refine⟨λhi=>⟨hi,λc _=>⟨λ_=>⟨by simp[InR];omega,i+1,fr,v,l,⟨by omega,by omega,by omega,by omega⟩,⟨⟨rfl,rfl,rfl⟩, .inl ⟨rfl,rfl⟩⟩,by omega⟩,λ_ _=>⟨by omega,by omega,by omega,by omega,λv=>⟨by simp[InR];omega,i+1,i+1,v,l++ [s.extract fr i],⟨by omega,by omega,by omega,by simp;omega⟩,⟨⟨rfl,rfl,rfl⟩, .inl ⟨rfl,Tj l _⟩⟩,by omega⟩⟩⟩⟩,λ_=>?_⟩;refine ay (X:=Nat) [6] [49] (λx=>1<=x/\x<=l.length+1) (λx=>[(9,enc (x:Int))]) (λx=>[]) (λx=>l.length+1 -x) 1 (by simp) ?_;intro k hk;simp;exactλ_=>⟨λ_=>⟨by simp[InR];omega,by omega,by omega,by omega,λ_ _=>⟨by omega,λ_ _ _=>⟨by simp[InR];omega,k+1,by omega,by omega,by omega⟩⟩⟩,λ_=>⟨l,fG av (by simp)⟩⟩
def A9{X:Type}[Cod X](l:List X)(k:Nat):List.take k (List.map enc l)=List.map enc (List.take k l):=List.map_take.symm
def qgI{X:Type}[Cod X](l:List X)(k:Nat):List.drop k (List.map enc l)=List.map enc (List.drop k l):=List.map_drop.symm
abbrev s_r06_sign:Spc:=aL (a1 Bool) bW (enc (X:=Int)) rB
def XV:am Ch Bj S (a1 Bool) bW (enc (X:=Int)) rB:=by
 rintro s -;simp[Ch,Bj,-fB']
abbrev s_r06_compare:Spc:=aL (a2 B B) bW (enc (X:=Int)) rB
def Ok:am vk uj S (a2 B B) bW (enc (X:=Int)) rB:=by
 rintro⟨a,b⟩ -;simp[vk,uj]
abbrev s_r06_CompareRegions:Spc:=aL (a2 Region Region) bW (enc (X:=Int)) rB
def AY(h1:S EK=s_r06_sign)(h2:S wT=s_r06_compare):am jQ jC S (a2 Region Region) bW (enc (X:=Int)) rB:=by
 rintro⟨a,b⟩ -;simp[jQ,jC,h1,h2,bW,-fB'];intro _ _ _;refine ay (X:=Nat) [2,3] [] (λk=>True) (λk=>[(5,enc (k:Int))]) (λ_=>[]) (λk=>a.kv.length -k) 0 trivial ?_;intro k _;simp[h1,h2,bW,-fB']
 repeat' first|apply And.intro|intro _
 all_goals first|omega|(simp only[InR];omega)|exact⟨k+1,by omega,by omega⟩
abbrev s_r06_Attributes:Spc:=aL (a1 (List Attr)) bW (mj (Y:=Int) (Z:=Int)) rB
theorem Hv(h1:S cq=s_r04_ValidName):am pB nZ S (a1 (List Attr)) bW (mj (Y:=Int) (Z:=Int)) rB:=by
 rintro l -;simp[pB,nZ,h1,bW,-fB'];intro _ _ _ _ _;refine ah (X:=Unit) [0,14] [] (l.length) (λ_ _=>True) (λ_=>[]) (λ_=>[]) () trivial ?_ ?_ (hlen:=by first|omega|(simp;omega))
 ·intro k _ hk _;obtain⟨x,hx⟩:=aQ hk;simp[h1,bW,-fB',hx,hk];refineλb=>⟨by omega,λ_=>?_⟩
  refine ah (X:=Unit) [0,4,5,14,15,16,28] [5] (min k l.length) (λ_ _=>True) (λ_=>[]) (λ_=>[]) () trivial ?_ ?_ (hlen:=by first|omega|(simp;omega))
  ·intro j _ hj _;obtain⟨y,hy⟩:∃y,(l.take k)[j]? =some y:=aQ (by simpa using hj);simp[hy,A9, -List.map_take];simpa using hj
  ·intro _ _;simp
 ·intro _ _;simp
abbrev s_r06_Value:Spc:=aL (a2 Attr B) bW (enc (X:=Int)) rB
def TN(h1:S BV=s_r05_Parse)(h2:S hZ=s_r04_ValidValue):am zW yN S (a2 Attr B) bW (enc (X:=Int)) rB:=by
 rintro⟨a,b⟩ -;simp[zW,yN,h1,h2,bW,-fB']
abbrev s_r06_pairs:Spc:=aL (a1 (List Pair)) bW (enc (X:=Int)) rB
def TL(h1:S cq=s_r04_ValidName)(h2:S hZ=s_r04_ValidValue):am zU yL S (a1 (List Pair)) bW (enc (X:=Int)) rB:=by
 rintro l -;simp[zU,yL,h1,h2,bW,-fB'];intro _ _ _;refine ah (X:=Unit) [0,9] [] (l.length) (λ_ _=>True) (λ_=>[]) (λ_=>[]) () trivial ?_ ?_ (hlen:=by first|omega|(simp;omega))
 ·intro k _ hk _;obtain⟨x,hx⟩:=aQ hk;simp[h1,h2,bW,-fB',hx,hk]
  ((repeat' first|apply And.intro|intro _)<;>first|omega|(simp only[InR];omega)|assumption|trivial)
 ·intro _ _;simp
abbrev s_r06_within:Spc:=aL (a3 Corpus Int Int) bW (enc (X:=Bool)) rB
def QQ:am xe wz S (a3 Corpus Int Int) bW (enc (X:=Bool)) rB:=by
 rintro⟨c,x,y⟩ -;simp[xe,wz,-fB'];intro _;refine ah (X:=Unit) [1,2,10] [] (c.texts.length) (λ_ _=>True) (λ_=>[]) (λ_=>[]) () trivial ?_ ?_ (hlen:=by first|omega|(simp;omega))
 ·intro k _ hk _;obtain⟨t,ht⟩:=aQ hk;simp[ht,hk,-fB']
 ·intro _ _;simp
abbrev s_r06_bare:Spc:=aL (a2 (List Int) (List B)) (λx=>x.1.length=x.2.length) (enc (X:=Bool)) rB
def XW:am Ci Bk S (a2 (List Int) (List B)) (λx=>x.1.length=x.2.length) (enc (X:=Bool)) rB:=by
 rintro⟨l,r⟩ hl;have hl:l.length=r.length:=hl;simp[Ci,Bk,-fB'];intro _;refine ah (X:=Unit) [0,1] [] (l.length) (λ_ _=>True) (λ_=>[]) (λ_=>[]) () trivial ?_ ?_ (hlen:=by first|omega|(simp;omega))
 ·intro k _ hk _;obtain⟨t,ht⟩:=aQ hk;obtain⟨u,hu⟩:=aQ (l:=r) (k:=k) (by omega);have hk2:k<r.length:=by omega
  simp[ht,hu,hk,hk2,-fB']
 ·intro _ _;simp
abbrev s_r06_TextAt:Spc:=aL (a2 Corpus Int) bW (enc (X:=Int)) rB
def QT:am xh wC S (a2 Corpus Int) bW (enc (X:=Int)) rB:=by
 rintro⟨c,x⟩ -;simp[xh,wC,-fB'];intro _;refine ah (X:=Unit) [1,8] [] (c.texts.length) (λ_ _=>True) (λ_=>[]) (λ_=>[]) () trivial ?_ ?_ (hlen:=by first|omega|(simp;omega))
 ·intro k _ hk _;obtain⟨t,ht⟩:=aQ hk;simp[ht,hk,-fB']
 ·intro _ _;simp
abbrev s_r06_FindText:Spc:=aL (a2 Corpus B) bW (enc (X:=Int)) rB
def Ll:am sO se S (a2 Corpus B) bW (enc (X:=Int)) rB:=by
 rintro⟨c,x⟩ -;simp[sO,se,-fB'];intro _;refine ah (X:=Unit) [1,8] [] (c.texts.length) (λ_ _=>True) (λ_=>[]) (λ_=>[]) () trivial ?_ ?_ (hlen:=by first|omega|(simp;omega))
 ·intro k _ hk _;obtain⟨t,ht⟩:=aQ hk;simp[ht,hk,-fB']
 ·intro _ _;simp
abbrev s_r06_sameAttributes:Spc:=aL (a2 (List Attr) (List Attr)) bW (enc (X:=Bool)) rB
def AX:am jP jB S (a2 (List Attr) (List Attr)) bW (enc (X:=Bool)) rB:=by
 rintro⟨l,r⟩ -;simp[jP,jB,-fB'];intro _ _ he _;refine ah (X:=Unit) [0,1] [] (l.length) (λ_ _=>True) (λ_=>[]) (λ_=>[]) () trivial ?_ ?_ (hlen:=by first|omega|(simp;omega))
 ·intro k _ hk _;obtain⟨t,ht⟩:=aQ hk;obtain⟨u,hu⟩:=aQ (l:=r) (k:=k) (by omega);have hk2:k<r.length:=by omega
  simp[ht,hu,hk,hk2,-fB']
 ·intro _ _;simp
abbrev s_r06_cyclic:Spc:=aL (a2 (List Int) Int) (λx=>0<=x.2/\x.2<x.1.length) (enc (X:=Bool)) rB
def QS:am xg wB S (a2 (List Int) Int) (λx=>0<=x.2/\x.2<x.1.length) (enc (X:=Bool)) rB:=by
 rintro⟨l,i⟩ hl;have hl:0<=i/\i<l.length:=hl;simp[xg,wB,-fB'];intro _;refine ah (X:=Int) [0,1] [] l.length (λ_ a=>0<=a/\a<l.length) (λa=>[(5,enc a)]) (λ_=>[]) i hl ?_ ?_
 ·intro k a hk ha;simp[-fB'];refine⟨ha.1,ha.2,λb _ h1 _ h2 _=>⟨h1,h2⟩⟩
 ·intro _ _;simp
abbrev s_r06_tokens:Spc:=aL (a1 Corpus) bW (mj (Y:=Int) (Z:=Int)) rB
def QR(h1:S BS=s_r06_Value):am xf wA S (a1 Corpus) bW (mj (Y:=Int) (Z:=Int)) rB:=by
 rintro c -;simp[xf,wA,h1,bW,-fB'];intro _ _ _;refine ah (X:=Unit) [1,14] [] (c.toks.length) (λ_ _=>True) (λ_=>[]) (λ_=>[]) () trivial ?_ ?_ (hlen:=by first|omega|(simp;omega))
 ·intro k _ hk _;obtain⟨t,ht⟩:=aQ hk;simp[ht,hk,-fB'];intro hl1 hl2 hle hl3;refine ah (X:=Unit) [1,4,14,15,16,28] [] (c.toks[k].length) (λ_ _=>True) (λ_=>[]) (λ_=>[]) () trivial ?_ ?_ (hlen:=by first|omega|(simp;omega))
  ·intro j _ hj _;have hj2:j<c.attrs.length:=by omega
   simp[hj,hj2,h1,bW,-fB']
  ·intro _ _;simp
 ·intro _ _;simp
abbrev s_r06_texts:Spc:=aL (a1 Corpus) bW (mj (Y:=Int) (Z:=Int)) rB
theorem TK(h1:S cq=s_r04_ValidName)(h2:S we=s_r06_pairs):am zT yK S (a1 Corpus) bW (mj (Y:=Int) (Z:=Int)) rB:=by
 rintro c -;simp[zT,yK,h1,h2,bW,-fB'];intro _ _ _ _ _ _;refine ah (X:=Int) [1,4,26] [] c.texts.length (λ_ _=>True) (λa=>[(5,enc a)]) (λ_=>[]) 0 trivial ?_ ?_
 ·intro k a hk _;obtain⟨t,ht⟩:=aQ hk;simp[ht,hk,h1,bW,-fB'];refineλb=>⟨by omega,λ_=>?_⟩
  refine ah (X:=Unit) [1,4,5,6,7,26,27,28,41] [7] (min k c.texts.length) (λ_ _=>True) (λ_=>[]) (λ_=>[]) () trivial ?_ ?_ (hlen:=by first|omega|(simp;omega))
  ·intro j _ hj _;obtain⟨y,hy⟩:∃y,(c.texts.take k)[j]? =some y:=aQ (by simpa using hj);simp[hy,A9, -List.map_take];simpa using hj
  ·intro _ _;simp[h2,bW,-fB']
   ((repeat' first|apply And.intro|intro _)<;>first|omega|(simp only[InR];omega)|assumption|trivial)
 ·intro _ _;simp
abbrev s_r06_regions:Spc:=aL (a1 Corpus) bW (mj (Y:=Int) (Z:=Int)) rB
theorem Oj(h1:S cq=s_r04_ValidName)(h2:S we=s_r06_pairs)(h3:S tI=s_r06_within)(h4:S ge=s_r06_CompareRegions):am vj ui S (a1 Corpus) bW (mj (Y:=Int) (Z:=Int)) rB:=by
 rintro c -;simp[vj,ui,h1,h2,h3,h4,bW,-fB'];intro _ _ _;refine ah (X:=Unit) [1,15] [] (c.regs.length) (λ_ _=>True) (λ_=>[]) (λ_=>[]) () trivial ?_ ?_ (hlen:=by first|omega|(simp;omega))
 ·intro k _ hk _;obtain⟨t,ht⟩:=aQ hk;simp[ht,hk,h1,h2,h3,h4,bW,-fB'];refineλb=>⟨λh0=>⟨by simp only[InR];omega,by omega,by omega,λa _ y _=>⟨by simp only[InR];omega,by omega,by omega,λ_=>?_⟩⟩,λh0=>⟨by simp only[InR];omega,by omega,by omega,λ_=>?_⟩⟩
  all_goals
   refine ah (X:=Nat) [1,4,5,15,16,17,62] [5] (min (k+1) c.regs.length) (λj d=>d<=j) (λd=>[(7,enc (d:Int))]) (λ_=>[]) 0 (by omega) ?_ ?_
   ·intro j d hj hd;obtain⟨y,hy⟩:∃y,(c.regs.take (k+1))[j]? =some y:=aQ (by simpa using hj);simp[hy,A9, -List.map_take,-fB']
    repeat' first|apply And.intro|intro _
    all_goals first|omega|(simp only[InR];omega)|exact⟨d,by omega,by omega⟩|exact⟨d+1,by omega,by omega⟩|(simp;omega)|skip
   ·intro d hd;simp
 ·intro _ _;simp
def qbo(x:List yq×Corpus):Prop:=∀(j:Nat) (y:yq),x.1[j]? =some y->y.par<j
abbrev s_r06_Nodes:Spc:=aL (a2 (List yq) Corpus) qbo (mj (Y:=Int) (Z:=Int)) rB
theorem TP(h1:S cq=s_r04_ValidName)(h3:S tI=s_r06_within):am zY yP S (a2 (List yq) Corpus) qbo (mj (Y:=Int) (Z:=Int)) rB:=by
 rintro⟨l,c⟩ hp;have hp:∀(j:Nat) (y:yq),l[j]? =some y->y.par<j:=hp;simp[zY,yP,h1,h3,bW,-fB'];intro _ _ _;refine⟨by omega,by omega,λx _=>?_⟩;refine ah (X:=List Int) [0,3,18] [] l.length (λ_ d=>d.length=l.length/\∀a∈d,0<=a/\a<=40) (λ_=>[(6, .own 17 x)]) (λd=>[(17, .row x bb 1 (d.map enc))]) (List.replicate l.length 0) (by simp) ?_ ?_
 ·rintro k d hk ⟨hd1,hd2⟩;obtain⟨t,ht⟩:=aQ hk;have htp:=hp k t ht;have ht':=qzV.1 ht;obtain⟨_,ht'⟩:=ht';simp[ht,ht',hk,h1,h3,bW,-fB'];refineλb=>⟨by simp only[InR];omega,?_⟩
  refine bj (X:=Int) [0,3,6,7,8,18,19,20] [8,17] (λ_=>True) (λa=>[(9,enc a)]) (λ_=>[]) ?_ ?_
  ·simp;refine ay (X:=Int) [0,3,6,7,8,18,19,20] [8,17] (λa=>a<k) (λa=>[(9,enc a)]) (λ_=>[]) (λa=>(a+1).toNat) ((k:Int) -1) (by omega) ?_;intro a ha;simp;intro h0 _;refine⟨h0,by omega,λy hy=>?_⟩;have:=hp a.toNat y hy;exact⟨y.par,by omega,rfl,by omega⟩
  ·intro a _;refine bj (X:=Unit) [0,3,6,7,8,18,19,20] [8,17] (λ_=>True) (λ_=>[]) (λ_=>[]) ?_ ?_
   ·simp
   ·rintro - -;refine bj (X:=List Int) [0,3,6,7,8,18,19,20] [8] (λd=>d.length=l.length/\∀a∈d,0<=a/\a<=40) (λ_=>[]) (λd=>[(17, .row x bb 1 (d.map enc))]) ?_ ?_
    ·simp;refine⟨λh0=>⟨h0,by omega,λy _ _ _=>⟨h0,by omega,by omega,λa2 ha2=>⟨by omega,λa3 _=>⟨d.set k a2,⟨by simpa using hd1,λa4 h4=>?_⟩, .inl (jZ d k a2)⟩⟩⟩⟩,λ_=>⟨d,⟨hd1,hd2⟩, .inl rfl⟩⟩;rcases qA0 h4 with h4|rfl
     ·exact hd2 _ h4
     ·exact hd2 _ (aP ha2)
    ·rintro d ⟨hd1,hd2⟩;refine bj (X:=Unit) [0,3,6,7,18,19,20] [17] (λ_=>True) (λ_=>[]) (λ_=>[]) ?_ ?_
     ·simp;refine⟨by simp only[InR];omega,?_⟩;refine ay (X:=Int) [0,3,6,7,8,18,19,20] [8,17] (λa=>a<k) (λa=>[(11,enc a)]) (λ_=>[]) (λa=>(a+1).toNat) ((k:Int) -1) (by omega) ?_;intro a ha;simp;exactλh0=>⟨h0,by omega,λy _=>⟨λ_=>⟨h0,by omega⟩,λ_=>⟨by simp only[InR];omega,a -1,by omega,rfl,by omega⟩⟩⟩
     ·rintro - -;simp;refine⟨by omega,λa2 ha2=>?_⟩;have h4:=hd2 _ (aP ha2);refine⟨by simp only[InR];omega,by omega,λ_ _=>⟨by omega,λd1 h5=>?_⟩⟩;have hkd:k<d.length:=by omega
      rw[qBm (by simpa using hkd)]at h5;cases h5;simp;refineλh6=>⟨d.set k (a2+1),⟨by simpa using hd1,λa4 h4=>?_⟩, .inl (jZ d k (a2+1))⟩
      rcases qA0 h4 with h4|rfl
      ·exact hd2 _ h4
      ·omega
 ·intro d hd;simp
def qbm(c:Corpus):Prop:=True
abbrev s_r06_heads:Spc:=aL (a1 Corpus) qbm (mj (Y:=Int) (Z:=Int)) rB
theorem TM(h1:S cq=s_r04_ValidName)(h3:S EL=s_r06_bare)(h4:S zI=s_r06_TextAt)(h5:S zH=s_r06_cyclic):am zV yM S (a1 Corpus) qbm (mj (Y:=Int) (Z:=Int)) rB:=by
 rintro c -;simp[zV,yM,h1,h3,h4,h5,bW,-fB'];intro _;refine bj (X:=Unit) [1,4] [] (λ_=>c.heads.length=c.rels.length) (λ_=>[]) (λ_=>[]) ?_ ?_
 ·simp
  ((repeat' first|apply And.intro|intro _)<;>first|omega|(simp only[InR];omega)|assumption|trivial)
 ·rintro -hl;refine bj (X:=Unit) [1,4] [] (λ_=>True) (λ_=>[]) (λ_=>[]) ?_ ?_
  ·simp[h1,h3,h4,h5,bW,hl,-fB']
  ·rintro - -;simp;intro _;refine ah (X:=Unit) [1,4,36] [] (c.heads.length) (λ_ _=>True) (λ_=>[]) (λ_=>[]) () trivial ?_ ?_ (hlen:=by first|omega|(simp;omega))
   ·intro k _ hk _;have hk2:k<c.rels.length:=by omega
    simp[hk,hk2];refine bj (X:=Unit) [1,4,5,36,37,38] [] (λ_=>True) (λ_=>[]) (λ_=>[]) ?_ ?_
    ·simp[h1,h3,h4,h5,bW,hk,hk2,hl,-fB']
    ·rintro - -;refine bj (X:=Unit) [1,4,5,36,37,38] [] (λ_=>True) (λ_=>[]) (λ_=>[]) ?_ ?_
     ·simp[h1,h3,h4,h5,bW,hk,hk2,hl,-fB']
     ·rintro - -;simp[h1,h3,h4,h5,bW,hk,hk2,hl,-fB']
   ·intro _ _;simp
def qY(c:Corpus):Prop:=∀(j:Nat) (y:yq),c.nodes[j]? =some y->y.par<j
abbrev s_r06_Validate:Spc:=aL (a1 Corpus) qY (qk5 (Y:=Int) (Z:=Int) (W:=Int)) rB
def Lk(h1:S qB=s_r06_Attributes)(h2:S zG=s_r06_tokens)(h3:S BQ=s_r06_texts)(h4:S wS=s_r06_regions)(h5:S BU=s_r06_Nodes)(h6:S BR=s_r06_heads):am sM sd S (a1 Corpus) qY (qk5 (Y:=Int) (Z:=Int) (W:=Int)) rB:=by
 rintro c hc;simp[sM,sd,h1,h2,h3,h4,h5,h6,bW,-fB'];exact⟨hc,trivial⟩
abbrev s_r06_Valid:Spc:=aL (a1 Corpus) qY (enc (X:=Bool)) rB
def TO(h1:S uP=s_r06_Validate):am zX yO S (a1 Corpus) qY (enc (X:=Bool)) rB:=by
 rintro c hc;simp[zX,yO,h1,bW,-fB'];exact hc
theorem qmJ{α:Type}(m:List α)(bl x:α)(j:Nat)(hj:j<=m.length):(List.take (j+1) (m++ [bl]) ++ (List.take (m.length -j) (List.drop j (List.take (m.length+1) (m++ [bl]))) ++List.drop (j+1+min (m.length+1-j) (m.length-j)) (m++ [bl]))).set j x=m.take j++x::m.drop j:=by
 have h1:List.take (m.length+1) (m++ [bl])=m++ [bl]:=qAT (by simp);have h2:List.drop j (m++ [bl])=m.drop j++ [bl]:=List.drop_append_of_le_length hj;have h3:List.take (m.length -j) (m.drop j++ [bl])=m.drop j:=by rw[List.take_left'];simp
 have h4:List.drop (j+1+min (m.length+1-j) (m.length-j)) (m++ [bl])=[]:=List.drop_of_length_le (by simp;omega);rw[h1,h2,h3,h4,qA7];have h5:List.take (j+1) (m++[bl])=m.take j++ [(m++ [bl])[j]'(by simp;omega)]:=by
  rw[List.take_succ_eq_append_getElem (by simp;omega),List.take_append_of_le_length hj]
 rw[h5,qAH,List.set_append_right _ _ (by simp;omega)];simp[hj]
def qjw{α:Type}{m:List α}{bl x:α}{j n:Nat}(hn:m.length=n)(hj:j<=n):(List.take (j+1) (m++ [bl]) ++ (List.take (n -j) (List.drop j (List.take (n+1) (m++ [bl]))) ++List.drop (j+1+min (n+1-j) (n-j)) (m++ [bl]))).set j x=m.take j++x::m.drop j:=by
 subst hn;exact qmJ m bl x j hj
def qhA(l m:List Region):Prop:=m.length=l.length/\∀x∈m,x∈l
def ZG(l:List Region):Prop:=l.length<=1000000
abbrev s_r06_SortRegions:Spc:=aL (a1 (List Region)) ZG (enc (X:=List Region)) qhA
theorem Fd(h1:S ge=s_r06_CompareRegions):am nt na S (a1 (List Region)) ZG (enc (X:=List Region)) qhA:=by
 rintro l hl;have hl:l.length<=1000000:=hl;simp[nt,na,-fB'];intro _;refine ah (X:=Value×List Region) [7] [] l.length (λk x=>x.2.length=k/\∀y∈x.2,y∈l) (λx=>[(3, .own 32 x.1)]) (λx=>[(32, .row x.1 nF 4 (x.2.map enc))]) (.slice none 0 0, []) (by simp) ?_ ?_ (hh:=by simp[isNilRow])
 ·rintro k ⟨v,m⟩ hk ⟨hm1,hm2⟩;simp at hm1 hm2;simp[hk];refineλb _=>?_
  refine bj (X:=Nat) [3,5,7,8,9] [5,32] (λx=>x<=m.length) (λx=>[(6,enc (x:Int))]) (λx=>[]) ?_ ?_
  ·simp;refine ay (X:=Nat) [3,5,7,8,9] [5,32] (λx=>x<=m.length) (λx=>[(6,enc (x:Int))]) (λx=>[]) (λx=>x) m.length (by simp) ?_;intro j hj;simp[h1,bW];refine⟨λh0=>⟨by simp only[InR];omega,by omega,by omega,by omega,λa _ y=>⟨λ_=>⟨by simp only[InR];omega,j -1,by omega,by omega,by omega⟩,λ_=>⟨j,hj,rfl⟩⟩⟩,λ_=>⟨j,hj,rfl⟩⟩
  ·intro j hj;simp;have hx:D.agg [D.v (Value.string l[k].ty),D.v (Value.int IntKind.i64 l[k].b),D.v (Value.int IntKind.i64 l[k].e),D.list 2 (List.map enc l[k].kv)]=enc l[k]:=by simp
   refine⟨by omega,by omega,λv=>⟨by simp only[InR];omega,by omega,by omega,by omega,by omega,by omega,λd _=>⟨v,m.take j++l[k]::m.drop j,⟨by simp;omega,λy hy=>?_⟩,rfl, .inl ⟨rfl,?_⟩⟩⟩⟩
   ·rcases qz5.1 hy with h|h
    ·exact hm2 _ (qAl h)
    ·rcases qAc.1 h with rfl|h
     ·exact qBC hk
     ·exact hm2 _ (qAP h)
   ·refine(qjw (by simp) hj).trans ?_;rw[hx,A9,qgI,qBt,qAo]
 ·rintro⟨v,m⟩ ⟨hm1,hm2⟩;simp at hm1 hm2;simp;exact ba m (fG nF (by simp)) ⟨hm1,hm2⟩
def DB(s:Int):List Ai->Int->Prop
 | [],e=>s=e
 |t::r,e=>t.b=s/\t.b<t.e/\DB t.e r e
def Xx(c:Corpus):Prop:=DB 0 c.texts c.toks.length/\c.texts≠ []/\c.toks.length<=4096/\c.texts.length<=64/\c.regs.length<=1024/\c.nodes.length<=2048/\c.attrs.length<=1000/\c.heads.length<=c.toks.length/\c.rels.length<=c.toks.length/\
 (∀x∈c.regs,0<=x.b/\x.b<=c.toks.length/\0<=x.e/\x.e<=c.toks.length)/\(∀x∈c.nodes,0<=x.b/\x.b<=c.toks.length/\0<=x.e/\x.e<=c.toks.length)/\(∀(j:Nat) (y:yq),c.nodes[j]? =some y->y.par<j)/\∀h∈c.heads,h<=c.toks.length
def N1(c:Corpus)(x:List Int×List B):Prop:=(∀h∈x.1,h<=c.toks.length)/\x.1.length<=c.toks.length/\x.2.length<=c.toks.length
abbrev s_r06_allHeads:Spc:=aL (a1 Corpus) Xx (mj (Y:=List Int) (Z:=List B)) N1
theorem Lj:am sL sa S (a1 Corpus) Xx (mj (Y:=List Int) (Z:=List B)) N1:=by
 rintro c hc;obtain⟨c1,c2,c3,c4,c5,c6,c7,c8,c9,c10,c11,c12,c13⟩:=hc;simp[sL,sa,-fB'];refineλ_=>⟨λ_=>⟨c.heads, .same _,c.rels, .same _,c13,c8,c9⟩,λ_ _=>⟨by omega,by omega,λv _=>?_⟩⟩
 refine ah (X:=List Int) [1] [] c.toks.length (λk x=>x.length=c.toks.length/\∀(j:Nat) (y:Int),x[j]? =some y->j<k->y= -1) (λx=>[(4, .own 17 v)]) (λx=>[(17, .row v bb 1 (x.map enc))]) (List.replicate c.toks.length 0) (by simp) ?_ ?_
 ·rintro k m hk ⟨hm1,hm2⟩;simp;refine⟨by omega,λa _=>⟨m.set k (-1),⟨by simpa using hm1,λj y hy hj=>?_⟩, .inl (jZ m k (-1))⟩⟩;rw[List.getElem?_set]at hy;split at hy
  ·split at hy
   ·cases hy;rfl
   ·cases hy
  ·exact hm2 j y hy (by omega)
 ·rintro m ⟨hm1,hm2⟩;simp;refineλ_=>⟨by omega,by omega,λx=>⟨m,fG bb (by simp),List.replicate c.toks.length ⟨#[]⟩,fG av (by simp),λy hy=>?_,by show m.length<=_;omega,by simp⟩⟩
  obtain⟨j,hj⟩:=qAp.1 hy;have:=hm2 j y hj (by have:=(qzV.1 hj).1;have h9:j<m.length:=this;omega);omega
def eB(H:ab)(a b:D)(l bs:List D):FrzTo H (.agg (a::l)) (.agg (b::bs))=(FrzTo H a b/\FrzTo H (.agg l) (.agg bs)):=by
 refine propext ⟨λh=>?_,λ⟨h1,h2⟩=>?_⟩
 ·cases h with
  |same=>exact⟨.same _, .same _⟩
  |agg hl h=>exact⟨h 0 a b rfl rfl, .agg (by simpa using hl) λk c c' h1 h2=>h (k+1) c c' (by simpa using h1) (by simpa using h2)⟩
 ·have hl:l.length=bs.length:=by
   cases h2 with
   |same=>rfl
   |agg hl _=>exact hl
  refine .agg (by simp[hl]) λk c c' e1 e2=>?_
  cases k with
  |zero=>simp at e1 e2;subst e1;subst e2;exact h1
  | succ k=>
    simp at e1 e2;cases h2 with
    |same=>rw[e1]at e2;cases e2;exact .same _
    |agg _ h=>exact h k c c' e1 e2
def zc:Corpus:=⟨[], [], [], [], [], [], []⟩
def wQ{X:Type}(f:X->X)(a b:List X)(j:Nat):List X:=a++ ((b.take j).map f++b.drop j)
def qfv{X:Type}(f:X->X)(a b:List X):wQ f a b 0=a++b:=by simp[wQ]
def qfu{X:Type}(f:X->X)(a b:List X):wQ f a b b.length=a++b.map f:=by simp[wQ]
def CG{X:Type}(f:X->X)(a b:List X)(j:Nat):(wQ f a b j).length=a.length+b.length:=by simp[wQ];omega
def qmw{X:Type}(f:X->X)(a b:List X){j:Nat}{y:X}(hy:b[j]? =some y):(wQ f a b j)[a.length+j]? =some y:=by
 have hj:=(qzV.1 hy).1;simp only[wQ];rw[qz9 (by omega),qz9 (by simp;omega)];simp only[qAs,qAq,qAF];rw[<-hy];congr 1;omega
def qjh{X:Type}(f:X->X)(a b:List X){j:Nat}{y:X}(hy:b[j]? =some y):(wQ f a b j).set (a.length+j) (f y)=wQ f a b (j+1):=by
 have hj:=(qzV.1 hy).1;have hd:b.drop j=y::b.drop (j+1):=by
  rw[qAQ hj];rw[(qzV.1 hy).2]
 simp only[wQ];rw[List.set_append_right _ _ (by omega),List.set_append_right _ _ (by simp;omega)];have:a.length+j -a.length - (List.map f (List.take j b)).length=0:=by simp;omega
 rw[this,hd,List.set_cons_zero];rw[List.take_succ_eq_append_getElem hj,(qzV.1 hy).2];simp
def So{X:Type}(f:X->X)(a b:List X){k:Nat}{y:X}(hk:a.length<=k)(hy:b[k -a.length]? =some y):(wQ f a b (k -a.length))[k]? =some y:=by
 have:=qmw f a b hy;rwa [Nat.add_sub_cancel' hk]at this
def MQ{X:Type}(f:X->X)(a b:List X){k:Nat}{y:X}(hk:a.length<=k)(hy:b[k -a.length]? =some y):(wQ f a b (k -a.length)).set k (f y)=wQ f a b (k+1 -a.length):=by
 have:=qjh f a b hy;rw[Nat.add_sub_cancel' hk]at this;rw[this];congr 1;omega
def Qw:∀{l:List Ai} {s e:Int},DB s l e->∀t∈l,s<=t.b/\t.b<t.e/\t.e<=e
 | [],s,e,h,t,ht=>by simp at ht
 | x::r,s,e,h,t,ht=>by
   obtain⟨h1,h2,h3⟩:=h;have hle:∀{l:List Ai} {s e:Int},DB s l e->s<=e:=by
    intro l
    induction l with
    |nil=>intro s e h;have h:s=e:=h;omega
    |cons a l ih=>intro s e h;have:=ih h.2.2;have:=h.1;have:=h.2.1;omega
   rcases qAc.1 ht with rfl|ht
   ·have:=hle h3;omega
   ·have:=Qw h3 t ht;omega
def qkI(n:Int)(t:Ai):Ai:=⟨t.nm,t.b+n,t.e+n,t.kv⟩
def Qx:∀{l:List Ai} {s e:Int} {r:List Ai} {n f:Int},DB s l e->DB 0 r f->n=e->DB s (l++r.map (qkI n)) (n+f)
 | [],s,e,r,n,f,h,hr,hn=>by
   have h:s=e:=h;subst h;subst hn;have go:∀(r:List Ai) (a:Int),DB a r f->DB (a+n) (r.map (qkI n)) (n+f):=by
    intro r
    induction r with
    |nil=>intro a h;have h:a=f:=h;show a+n=n+f;omega
    |cons x r ih=>intro a h;obtain⟨h1,h2,h3⟩:=h;exact⟨by show x.b+n=a+n;omega,by show x.b+n<x.e+n;omega,ih _ h3⟩
   have:=go r 0 hr;simpa using this
 |x::l,s,e,r,n,f,h,hr,hn=>⟨h.1,h.2.1,Qx h.2.2 hr hn⟩
def qlT(n:Int)(x:Region):Region:=⟨x.ty,x.b+n,x.e+n,x.kv⟩
def qiH(n m:Int)(x:yq):yq:=⟨x.lb,x.b+n,x.e+n,if 0<=x.par then x.par+m else x.par⟩
def gZ(a b:Corpus)(hd:List Int)(rl:List B):Corpus:=⟨a.attrs,a.toks++b.toks,a.texts++b.texts.map (qkI a.toks.length),a.regs++b.regs.map (qlT a.toks.length),a.nodes++b.nodes.map (qiH a.toks.length a.nodes.length),hd,rl⟩
theorem ZM{a b:Corpus}{hd:List Int}{rl:List B}(ha:Xx a)(hb:Xx b)(l1:a.toks.length+b.toks.length<=4096)(l2:a.texts.length+b.texts.length<=64)(l3:a.regs.length+b.regs.length<=1024)(l4:a.nodes.length+b.nodes.length<=2048)
 (h1:hd.length<=a.toks.length+b.toks.length) (h2:rl.length<=a.toks.length+b.toks.length) (h3:∀h∈hd,h<=a.toks.length+b.toks.length):Xx (gZ a b hd rl):=by
 obtain⟨a1,a2,a3,a4,a5,a6,a7,a8,a9,a10,a11,a12,a13⟩:=ha;obtain⟨b1,b2,b3,b4,b5,b6,b7,b8,b9,b10,b11,b12,b13⟩:=hb;refine⟨?_,?_,?_,?_,?_,?_,a7,?_,?_,?_,?_,?_,?_⟩
 ·have:=Qx (n:=a.toks.length) a1 b1 rfl;simpa [gZ]using this
 ·simp[gZ,a2]
 ·simpa [gZ]using l1
 ·simpa [gZ]using l2
 ·simpa [gZ]using l3
 ·simpa [gZ]using l4
 ·simpa [gZ]using h1
 ·simpa [gZ]using h2
 ·intro x hx;simp only[gZ,qz5,qz1,qAm]at hx ⊢;rcases hx with hx|⟨y,hy,rfl⟩
  ·have:=a10 x hx;omega
  ·have:=b10 y hy;simp only[qlT];omega
 ·intro x hx;simp only[gZ,qz5,qz1,qAm]at hx ⊢;rcases hx with hx|⟨y,hy,rfl⟩
  ·have:=a11 x hx;omega
  ·have:=b11 y hy;simp only[qiH];omega
 ·intro j y hy;simp only[gZ]at hy;by_cases hj:j<a.nodes.length
  ·rw[qAe hj]at hy;exact a12 j y hy
  ·rw[qz9 (by omega),qz7]at hy;simp only[qz6]at hy;obtain⟨z,hz,rfl⟩:=hy;have:=b12 _ z hz;simp only[qiH];split<;>omega
 ·intro h hh;simp only[gZ,qAm]at hh ⊢;have:=h3 h hh;omega
def XF(x:Corpus×Corpus):Prop:=Xx x.1/\Xx x.2
def XC(x:Corpus×Corpus)(z:Corpus×Int):Prop:=z.2=0->Xx z.1/\z.1.attrs=x.1.attrs/\z.1.toks=x.1.toks++x.2.toks
abbrev s_r06_Concat:Spc:=aL (a2 Corpus Corpus) XF (mj (Y:=Corpus) (Z:=Int)) XC
theorem QU(h1:S BT=s_r06_Valid)(h2:S kX=s_r06_sameAttributes)(h3:S uQ=s_r06_FindText)(h4:S uN=s_r06_allHeads):am xi wD S (a2 Corpus Corpus) XF (mj (Y:=Corpus) (Z:=Int)) XC:=by
 rintro⟨a,b⟩ ⟨ha,hb⟩;have ha:Xx a:=ha;have hb:Xx b:=hb;have va:qY a:=ha.2.2.2.2.2.2.2.2.2.2.2.1;have vb:qY b:=hb.2.2.2.2.2.2.2.2.2.2.2.1;simp[xi,wD,h1,h2,va,vb,bW,-fB'];intro r y;refine⟨λ_ y2=>⟨λ_=>?_,λ_ y3=>⟨λ_=>?_,λ_=>?_⟩⟩,λ_=>?_⟩
 case refine_1=>exact⟨zc,by simp[zc,eB],λh=>by simp at h⟩
 case refine_2=>exact⟨zc,by simp[zc,eB],λh=>by simp at h⟩
 case refine_4=>exact⟨zc,by simp[zc,eB],λh=>by simp at h⟩
 refine bj (X:=Unit) [2,3,4] [4] (λ_=>True) (λ_=>[]) (λ_=>[]) ?_ ?_
 ·simp;intro _;refine ah (X:=Unit) [2,3,4,37] [4] (b.texts.length) (λ_ _=>True) (λ_=>[]) (λ_=>[]) () trivial ?_ ?_ (hlen:=by first|omega|(simp;omega))
  ·intro k _ hk _;simp[hk,h3,bW];intro _ _;exact⟨zc,by simp[zc,eB],λh=>by simp at h⟩
  ·simp
 rintro - -;simp;intro _ _;refine bj (X:=Unit) [2,3,4,8,9] [4] (λ_=>a.toks.length+b.toks.length<=4096/\a.texts.length+b.texts.length<=64/\a.regs.length+b.regs.length<=1024/\a.nodes.length+b.nodes.length<=2048) (λ_=>[]) (λ_=>[]) ?_ ?_
 ·obtain⟨a1,a2,a3,a4,a5,a6,a7,a8,a9,a10,a11,a12,a13⟩:=ha;obtain⟨b1,b2,b3,b4,b5,b6,b7,b8,b9,b10,b11,b12,b13⟩:=hb;simp;intro _;refine⟨by simp only[InR];omega,λ_ _ _=>⟨by simp only[InR];omega,λ_ _ _=>⟨by simp only[InR];omega,λ_ _=>⟨by simp only[InR];omega,λ_=>?_,by omega⟩,λ_=>?_⟩,λ_=>?_⟩,λ_=>?_⟩
  all_goals exact⟨zc,by simp[zc,eB],λh=>by simp at h⟩
 ·rintro - ⟨l1,l2,l3,l4⟩;have hA:=ha;have hB:=hb;obtain⟨a1,a2,a3,a4,a5,a6,a7,a8,a9,a10,a11,a12,a13⟩:=ha;obtain⟨b1,b2,b3,b4,b5,b6,b7,b8,b9,b10,b11,b12,b13⟩:=hb;simp;refine⟨by omega,by omega,λv0 bx=>⟨by omega,by omega,by omega,by omega,λv1=>⟨by omega,by omega,by omega,by omega,λv2=>?_⟩⟩⟩;refine bj (X:=Unit) [2,3,4,8,9,10] [4,10,93,97] (λ_=>True) (λ_=>[]) (λ_=>[(104, .row v2 Cu 4 ((a.texts++b.texts.map (qkI a.toks.length)).map enc))]) ?_ ?_
  ·simp;intro _;refine ay (X:=Nat) [2,3,4,8,9,10] [4,10,93,97] (λk=>a.texts.length<=k/\k<=a.texts.length+b.texts.length) (λk=>[(11,enc (k:Int))]) (λk=>[(104, .row v2 Cu 4 ((wQ (qkI a.toks.length) a.texts b.texts (k -a.texts.length)).map enc))]) (λk=>a.texts.length+b.texts.length -k) a.texts.length (by omega) ?_ (hh:=by simp[qfv]);intro k hk;by_cases hkb:k<a.texts.length+b.texts.length
   ·obtain⟨t,ht⟩:=aQ (l:=b.texts) (k:=k -a.texts.length) (by omega);have hat:=So (qkI a.toks.length) a.texts b.texts hk.1 ht;have hset:=MQ (qkI a.toks.length) a.texts b.texts hk.1 ht;have hc:=Qw b1 t (aP ht);obtain⟨hk9,hgk⟩:=qzV.1 hat;simp[CG,hat,hgk,hkb,qBm,List.set_set];refineλ_=>⟨λ_=>⟨by omega,by simp only[InR];omega,by omega,by simp only[InR];omega,by omega,by simp only[InR];omega,k+1,by omega,⟨by omega, .inl ?_⟩,by omega⟩,λh=>by omega⟩
    rw[<-hset,<-jZ];simp[qkI]
   ·have hke:k -a.texts.length=b.texts.length:=by omega
    simp[CG,hkb,hke,qfu];omega
  rintro - -;simp;refine⟨by omega,by omega,by omega,by omega,λv3=>?_⟩;refine bj (X:=Unit) [2,3,4,8,9,10] [4,10,93,97,104] (λ_=>True) (λ_=>[]) (λ_=>[(141, .row v3 nF 4 ((a.regs++b.regs.map (qlT a.toks.length)).map enc))]) ?_ ?_
  ·simp;intro _;refine ay (X:=Nat) [2,3,4,8,9,10] [4,10,93,97,104] (λk=>a.regs.length<=k/\k<=a.regs.length+b.regs.length) (λk=>[(12,enc (k:Int))]) (λk=>[(141, .row v3 nF 4 ((wQ (qlT a.toks.length) a.regs b.regs (k -a.regs.length)).map enc))]) (λk=>a.regs.length+b.regs.length -k) a.regs.length (by omega) ?_ (hh:=by simp[qfv]);intro k hk;by_cases hkb:k<a.regs.length+b.regs.length
   ·obtain⟨t,ht⟩:=aQ (l:=b.regs) (k:=k -a.regs.length) (by omega);have hat:=So (qlT a.toks.length) a.regs b.regs hk.1 ht;have hset:=MQ (qlT a.toks.length) a.regs b.regs hk.1 ht;have hc:=b10 t (aP ht);obtain⟨hk9,hgk⟩:=qzV.1 hat;simp[CG,hat,hgk,hkb,qBm,List.set_set];refineλ_=>⟨λ_=>⟨by omega,by simp only[InR];omega,by omega,by simp only[InR];omega,by omega,by simp only[InR];omega,k+1,by omega,⟨by omega, .inl ?_⟩,by omega⟩,λh=>by omega⟩
    rw[<-hset,<-jZ];simp[qlT]
   ·have hke:k -a.regs.length=b.regs.length:=by omega
    simp[CG,hkb,hke,qfu];omega
  rintro - -;simp;refine⟨by omega,by omega,by omega,by omega,λv4=>?_⟩;refine bj (X:=Unit) [2,3,4,8,10] [4,10,93,97,104,141] (λ_=>True) (λ_=>[]) (λ_=>[(178, .row v4 vU 4 ((a.nodes++b.nodes.map (qiH a.toks.length a.nodes.length)).map enc))]) ?_ ?_
  ·simp;refine ay (X:=Nat) [2,3,4,8,9,10] [4,10,93,97,104,141] (λk=>a.nodes.length<=k/\k<=a.nodes.length+b.nodes.length) (λk=>[(13,enc (k:Int))]) (λk=>[(178, .row v4 vU 4 ((wQ (qiH a.toks.length a.nodes.length) a.nodes b.nodes (k -a.nodes.length)).map enc))]) (λk=>a.nodes.length+b.nodes.length -k) a.nodes.length (by omega) ?_ (hh:=by simp[qfv]);intro k hk;by_cases hkb:k<a.nodes.length+b.nodes.length
   ·obtain⟨t,ht⟩:=aQ (l:=b.nodes) (k:=k -a.nodes.length) (by omega);have hat:=So (qiH a.toks.length a.nodes.length) a.nodes b.nodes hk.1 ht;have hset:=MQ (qiH a.toks.length a.nodes.length) a.nodes b.nodes hk.1 ht;have hc:=b11 t (aP ht);have hc2:=b12 _ t ht;obtain⟨hk9,hgk⟩:=qzV.1 hat;simp[CG,hat,hgk,hkb,qBm,List.set_set];refineλ_=>⟨λ_=>⟨by omega,by simp only[InR];omega,by omega,by simp only[InR];omega,by omega,λhp=>⟨by omega,by simp only[InR];omega,by omega,by simp only[InR];omega,k+1,by omega,⟨by omega, .inl ?_⟩,by omega⟩,λhp=>⟨by simp only[InR];omega,k+1,by omega,⟨by omega, .inl ?_⟩,by omega⟩⟩,λh=>by omega⟩
    ·rw[<-hset,<-jZ];simp[qiH,hp]
    ·rw[<-hset,<-jZ];simp[qiH,show ¬(0<=t.par)by omega]
   ·have hke:k -a.nodes.length=b.nodes.length:=by omega
    simp[CG,hkb,hke,qfu];omega
  rintro - -;simp[h4,hA,hB];refineλ_ _=>⟨by simp only[InR];omega,λ_=>?_,λ_=>?_⟩
  ·rintro hd1 rl1 ⟨q1,q2,q3⟩ hd2 rl2 ⟨p1,p2,p3⟩;simp only at q1 q2 q3 p1 p2 p3;refine⟨by omega,by omega,λv5=>⟨by omega,by omega,by omega,by omega,λv6 _=>?_⟩⟩;refine HK (qln 247 269 10 bx _ [D.own 93 v0,D.own 97 v1,D.own 104 v2,D.own 141 v3,D.own 178 v4,D.own 269 v5,D.own 249 v6] (by decide) (by decide) rfl rfl (λm c c' h h'=>?_)) ?_
   ·rcases m with _|_|_|_|_|_|_|m<;>simp at h h'<;>subst h<;>subst h'<;>simp
   refine ah (X:=Value×List Int) [4,8,10,254] [4,93,97,104,141,178,249] hd2.length (λk x=>x.2.length=hd1.length+k/\∀h∈x.2,h<=a.toks.length+b.toks.length) (λ_=>[]) (λx=>[(10, .box bx [D.own 93 v0,D.own 97 v1,D.own 104 v2,D.own 141 v3,D.own 178 v4,D.own 269 x.1,D.own 249 v6]),(269, .row x.1 bb 1 (x.2.map enc))]) (v5,hd1) ⟨rfl,λh hh=>by have:=q1 h hh;omega⟩ ?_ ?_
   ·rintro k ⟨v,l⟩ hk ⟨hx1,hx2⟩;simp only at hx1 hx2;obtain⟨x,hx⟩:=aQ hk;have hpx:=p1 x (aP hx);obtain⟨_,hgx⟩:=qzV.1 hx;simp[hk,hx,hgx];refine bj (X:=Int) [4,8,10,254,255,256] [4,10,93,97,104,141,178,249,269] (λy=>y<=a.toks.length+b.toks.length) (λy=>[(19,enc y)]) (λ_=>[]) ?_ ?_
    ·simp;exact⟨λh0=>⟨by simp only[InR];omega,by omega⟩,λh0=>by omega⟩
    ·intro y hy;simp;refine⟨by omega,by omega,λv=>⟨v,l++ [y],⟨by simp;omega,λh hh=>?_⟩, .inl rfl, .inl ⟨rfl,Tj l y⟩⟩⟩;rcases qz5.1 hh with hh|hh
     ·exact hx2 h hh
     ·simp at hh;omega
   ·rintro⟨v,l⟩ ⟨hx1,hx2⟩;simp only at hx1 hx2;simp;refine⟨gZ a b l (rl1++rl2),?_,λ_=>⟨ZM hA hB l1 l2 l3 l4 (by omega) (by simp;omega) hx2,rfl,rfl⟩⟩;simp only[eB];refine⟨fG (X:=Attr) FC (by simp[gZ]),fG (X:=List B) vV (by simp[gZ]),fG (X:=Ai) Cu (by simp[gZ]),fG (X:=Region) nF (by simp[gZ]),fG (X:=yq) vU (by simp[gZ]),fG (X:=Int) bb (by simp[gZ]),fG (X:=B) av (by simp[gZ]), .same _⟩
  ·refine⟨gZ a b [] [],?_,λ_=>⟨ZM hA hB l1 l2 l3 l4 (by simp) (by simp) (by simp),rfl,rfl⟩⟩;simp only[eB];refine⟨fG (X:=Attr) FC (by simp[gZ]),fG (X:=List B) vV (by simp[gZ]),fG (X:=Ai) Cu (by simp[gZ]),fG (X:=Region) nF (by simp[gZ]),fG (X:=yq) vU (by simp[gZ]), .nil _, .nil _, .same _⟩
end Go.Gv
namespace Go.Gv
def Xv:List B:=[⟨#[97]⟩,⟨#[98]⟩,⟨#[99]⟩,⟨#[65]⟩,⟨#[97,98]⟩,⟨#[]⟩]
def qhw:List B:=[⟨#[88]⟩,⟨#[89]⟩]
def QD:List B:=[⟨#[124]⟩,⟨#[124,112,124]⟩,⟨#[124,112,124,113,124]⟩,⟨#[124,113,124]⟩]
def gJ:List Attr:=[⟨⟨#[119,111,114,100]⟩,false⟩,⟨⟨#[116,97,103]⟩,false⟩,⟨⟨#[102,101,97,116]⟩,true⟩]
def qli(l:List Attr):Prop:=l=gJ
def He(r:List B):Prop:=∃w t f,w∈Xv/\t∈qhw/\f∈QD/\r=[w,t,f]
def Pi(c:Corpus):Prop:=c.attrs=gJ/\∀r∈c.toks,He r
end Go.Gv
