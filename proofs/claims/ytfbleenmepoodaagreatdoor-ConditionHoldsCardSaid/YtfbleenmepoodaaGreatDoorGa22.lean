/- A part of the framework and of the walks: W11 W12 W4. -/
import Derived.Test.YtfbleenmepoodaaGreatDoorGa21
set_option linter.unusedSimpArgs false
set_option linter.unusedVariables false
set_option linter.unusedSectionVars false
set_option linter.defProp false
set_option maxRecDepth 100000
namespace Go.Gv
open Cod (enc dec)
variable {dq:Prop}
def De{tp I tp' I':Nat->Prop}{w w':World}{s:Value}{es:List D}(hes:∀d∈es,∃n,d= .v (.int .i64 n))(h:R tp I w s (.list 1 es))(hI:∀c,I c->I' c/\w'.heap[c]? =w.heap[c]?):R tp' I' w' s (.list 1 es):=by
 cases h with
 | nolist a cap _=>exact .nolist _ _ _
 | list b off cap n es f hb hc hm hz hn hcell h1 h2=>
   refine .list b off cap _ es f (hI b hb).1 hc hm (λh=>absurd rfl h) hn (λk c hk=>by rw[qlk (w:=w) (hI b hb).2];exact hcell k c hk) h1 (λk c hk=>?_);have hc':=qjD hk;simp only[aR,qlz]at hc';obtain⟨d,hd,hcd⟩:=hc';obtain⟨n,rfl⟩:=hes d hd;simp[D.cells]at hcd;subst hcd;have:=h2 k _ hk;generalize f k=y at this ⊢;cases this with
   | v _ a1 a2=>exact .v _ a1 a2
def DF{P:Program}{im:List Nat}{N:Nat}{code:Code}{a b:CC}(h:aw P im N code=some (.seq a b)):∃x y,code= .seq x y/\aw P im N x=some a/\aw P im N y=some b:=by
 rcases aN h with⟨h,_⟩|⟨_,_,_,_,h,_⟩|⟨_,_,_,_,_,h⟩|⟨a',b',x,y,h1,h2,h3,h4⟩|⟨_,_,_,_,_,_,h,_⟩|⟨_,_,_,_,h,_⟩|⟨_,_,_,h,_⟩|⟨_,_,h⟩|⟨_,h⟩ <;> try (simp at h;done)
 cases h2;exact⟨a',b',h1,h3,h4⟩
abbrev s_m_Next:Spc:=aZ (aT (a1 Int)) (λx=>x.2<=1000000000) (enc (X:=Int)) (λx y=>x.2 < 1/\y=0\/1<=x.2/\0<=y/\y < x.2)
section
variable {P:Program}{S:Nat->Spc}{f:Nat}{im:List Nat}{N:Nat}
theorem PX(hS:∀f,Tri dq P f (S f).pt)(hm:S ph=s_m_Mod)(h:aq P f im nY tr N)(hN:2<=N):Tri dq P f s_m_Next.pt:=by
 obtain⟨rp,enter,fn,code,h1,h2,h3,h4,h5⟩:=h;subst h3;rw[Ra]at h4;obtain⟨x0,y0,rfl,hc0,h4⟩:=DF h4;obtain⟨xA,yA,rfl,hcA,h4⟩:=DF h4;obtain⟨xB,xC,rfl,hcB,hcC⟩:=DF h4;intro O tp w vs ds H d K hO htl hsat hlen hargs hA;refine⟨enter,calls_of_wp h1 h2 ?_⟩;simp only[s_m_Next,kA]at hA;cases hd:(aT (a1 Int)).dec ds with
 | none=>rw[hd]at hA;exact hA.elim
 | some x=>
 rw[hd]at hA;obtain⟨L,n⟩:=x;obtain⟨hp,hK⟩:=hA;have hl:=(aT (a1 Int)).le ds (L,n) hd;have hl1:ds.length=2:=hl.1
 match ds,vs,hl,hl1,hlen,hargs with
 | [d0,d1], [v0,v1],hl,_,_,hargs=>
 have e0:d0= .tape L:=by
  have:=hl.2 0 d0 (.tape L) rfl rfl;cases this;rfl
 have e1:d1= .v (.int .i64 n):=by
  have:=hl.2 1 d1 (.v (.int .i64 n)) rfl rfl;cases this;rfl
 subst e0;subst e1;have r1:=(hargs 1 v1 _ rfl rfl).inv_v;subst r1;have r0:=hargs 0 v0 _ rfl rfl;cases r0 with
 | tape b _ s i el hb hh g0 g1 gs hR=>
 obtain⟨a,len,cap,rfl⟩:∃a len cap,s= .slice a len cap:=by
  generalize L.map (λn=>D.v (.int .i64 n))=es at hR;cases hR <;> exact⟨_,_,_,rfl⟩
 have hlen:(len:Int)<=9223372036854775807:=by
  generalize L.map (λn=>D.v (.int .i64 n))=es at hR;cases hR with
  | nolist=>simp
  | list b off cap n es f hI hc hm=>simp only[maxLen]at hm;omega
 have hLl:len=L.length:=gs;have hbl:=htl.1 b hb
 let O2:Nat->Prop:=λx=>(O x\/bF H x)/\x≠b
 let tp2:Nat->Prop:=λx=>tp x/\x≠b
 let E2:sw:={ O:=O2,tp0:=tp2,w0:=w,own0:=λx=>x=b,N:=fn.ntmps,dq:=dq }
 let H2:aa:=aj cv 0 (some (.box b [.v (.slice a len cap), .v (.int .i64 i)]))
 have hownlt:∀c,bF H c->c < w.heap.size:=λc ⟨j,r,k1,k2⟩=>(hsat.ok j r k1).lt k2
 have h2:∀j r,H2 j=some r->j=0/\r= .box b [.v (.slice a len cap), .v (.int .i64 i)]:=λj r hj=>by
  by_cases e:j=0
  ·subst e;simp only[H2,aj,if_true]at hj;cases hj;exact⟨rfl,rfl⟩
  ·simp[H2,aj,e,cv]at hj
 have hst:St E2 (cR [.bptr 0 b 0, .v (.int .i64 n)]) H2 { tmps:= #[.pointer (some ⟨b,0,none⟩), .int .i64 n] ++Array.replicate (fn.ntmps -2) undef,defers:=[] } w:=by
  refine⟨rfl,?_,tp2,⟨λc hc=>hc.1.elim (hO c) (hownlt c),λc hc=>hc,λc hc=> .inl hc,⟨λc hc=>htl.1 c hc.1,λp hp=>⟨λh=>(htl.2 p hp).1 h.1,λh=>(htl.2 p hp).1 (h ▸hb),(htl.2 p hp).2.2⟩⟩, .refl _ _ _,λc ⟨j,r,k1,k2⟩=>?_,⟨λj k r q c k1 k2 k3 k4=>?_,λj r c k1 k2=>?_,λj r k1=>?_⟩⟩,λt=>?_⟩
  ·show(_:Array Value).size=fn.ntmps;simp;omega
  ·obtain⟨_,rfl⟩:=h2 j r k1;cases k2;exact .inl rfl
  ·rw[(h2 j r k1).1,(h2 k q k2).1]
  ·obtain⟨_,rfl⟩:=h2 j r k1;cases k2;exact⟨λh=>h.2 rfl,λh=>h.2 rfl⟩
  ·obtain⟨_,rfl⟩:=h2 j r k1;refine⟨_,el,hh,rfl,λk y c hy hc=>?_⟩;rcases k with _|_|k
   ·simp at hy hc;subst hy;subst hc;exact⟨rfl, .v _ rfl (λs hs=>by cases hs)⟩
   ·simp at hy hc;subst hy;subst hc;exact⟨rfl, .v _ rfl (λs hs=>by cases hs)⟩
   ·simp at hy
  ·have q0:(#[Value.pointer (some ⟨b,0,none⟩), .int .i64 n] ++Array.replicate (fn.ntmps -2) undef).getD 0 undef=Value.pointer (some ⟨b,0,none⟩):=by
    rw[qj1,qkv (by simp)];rfl
   have q1:(#[Value.pointer (some ⟨b,0,none⟩), .int .i64 n] ++Array.replicate (fn.ntmps -2) undef).getD 1 undef=Value.int .i64 n:=by
    rw[qj1,qkv (by simp)];rfl
   rcases t with _|_|t
   ·show R _ _ _ (Array.getD _ 0 undef) _;rw[q0];exact .bptr _ _ _
   ·show R _ _ _ (Array.getD _ 1 undef) _;rw[q1];exact .v _ rfl (λs hs=>by cases hs)
   ·exact .any _
 have rv:∀ (w2:World) (j y:Int) (el':Nat),w2.os=w.os->w2.tape=w.tape->w2.output=w.output->w.heap.size<=w2.heap.size->(∀c,c < w.heap.size->¬tp c->w2.heap[c]? =w.heap[c]?)->
  (∀c,tp c->c≠b->TapeStep w w2 c)->w2.heap[b]? =some (.cells #[.slice a len cap, .int .i64 j] el' (0,0))->0<=j->j<=len->(dq->w.drawn<=w2.drawn)->
  (n < 1/\y=0\/1<=n/\0<=y/\y < n)->MG dq O tp H w K (.returned (.int .i64 y)) w2:=by
  intro w2 j y el' s1 s2 s3 s4 s5 s6 s7 s8 s9 s11 s10;have htapes:∀c,tp c->TapeStep w w2 c:=λc hc=>by
   by_cases e:c=b
   ·subst e;intro s' i' el0 hh' _ _;rw[hh]at hh';cases hh';exact⟨j,el',s7,s8,s9⟩
   ·exact s6 c hc e
  refine⟨_, .v (.int .i64 y),H,tp,rfl,hK y s10,λc hc=>hc,λc hc=> .inl hc,λc hc=>qjZ (htl.1 c hc) s4,⟨s1,s2,s3,s4,λc hc _ ht=>s5 c hc ht,htapes,s11⟩,λc hc=> .inl hc,
   ⟨hsat.dis,hsat.out,λk r hk=>(hsat.ok k r hk).conv (λx d hr=>hr.mono (λ_ h=>h) (λc hc=>⟨⟨qjZ hc.1 s4,hc.2.1,hc.2.2.1,hc.2.2.2⟩,s5 c hc.1 hc.2.2.1⟩) htapes) (λc hc=>s5 c ((hsat.ok k r hk).lt hc) (hsat.out k r c hk hc).2)⟩, .v _ rfl (λs hs=>by cases hs)⟩
 have hv:=Up (S:=S) b a len cap i n g0 hlen;have cells2:∀ (tp':Nat->Prop) (H':aa) (w':World) (j:Int),StW E2 tp' H' w'->H' 0=some (.box b [.v (.slice a len cap), .v (.int .i64 j)])->∃el',w'.heap[b]? =some (.cells #[.slice a len cap, .int .i64 j] el' (0,0)):=by
  intro tp' H' w' j hw hH;obtain⟨xs,el',k1,k2,k3⟩:=hw.sat.ok 0 _ hH;refine⟨el',?_⟩;rw[k1];obtain⟨l⟩:=xs
  match l,k2,k3 with
  | [x,y],_,k3=>
    have a1:=(k3 0 x _ rfl rfl).2.inv_v;have a2:=(k3 1 y _ rfl rfl).2.inv_v;rw[a1,a2]
 have hret:∀ (a':Act) (w':World) (σ':Sg) (H':aa),St E2 σ' H' a' w'->VW b (.slice a len cap) i n .ret σ' H'->a'.defers=[]/\∃v,(results fn a'.tmps).run P w'= .ok v w'/\MG dq O tp H w K (.returned v) w':=by
  rintro a' w' σ' H' ⟨hd',hN',tp',hw',hr'⟩ ⟨k1,k2⟩;obtain⟨v,r0,hrun,hRv,hq⟩:=kY (H:=H') (K:=λr=>r= .v (.int .i64 0)) h5 hr' hw'.sat.ok k1;subst hq;have:=hRv.inv_v;subst this;obtain⟨el',k3⟩:=cells2 tp' H' w' i hw' k2;have st:=hw'.step;refine⟨hd',_,hrun,rv w' i 0 el' st.os st.tape st.output st.size (λc hc ht=>st.same c hc (λe=>ht (e ▸hb)) (λh=>ht h.1)) (λc hc hcb=>st.tapes c ⟨hc,hcb⟩) k3 g0 g1 st.drawn ?_⟩;rcases Int.lt_or_le n 1 with h|h
  ·exact .inl ⟨h,rfl⟩
  ·exact .inr ⟨h,by omega,by omega⟩
 have htail:∀ (a':Act) (w':World) (σ':Sg) (H':aa),St E2 σ' H' a' w'->VW b (.slice a len cap) i n .norm σ' H'->xC.wp P (bodyPost P fn (MG dq O tp H w K)) a' w':=by
  rintro a1 w1 σ1 H1 ⟨hd1,hN1,tp1,hw1,hr1⟩ ⟨k1,k2,k3,k4⟩;obtain⟨el1,k5⟩:=cells2 tp1 H1 w1 (i+1) hw1 k3;have st1:=hw1.step;have hsz1:w.heap.size<=w1.heap.size:=st1.size;have same1:∀c,c < w.heap.size->¬tp c->w1.heap[c]? =w.heap[c]?:=λc hc ht=>st1.same c hc (λe=>ht (e ▸hb)) (λh=>ht h.1)
  have tp1o:∀c,c < w.heap.size->tp1 c->tp2 c:=λc hc h=>(hw1.tpn c h).elim id (λh=>by
   have h:w.heap.size<=c:=h;omega)
  have hb1:¬tp1 b:=λh=>(tp1o b hbl h).2 rfl
  let E3:sw:={ O:=O2,tp0:=tp1,w0:=w1,own0:=λ_=>False,N:=fn.ntmps,dq:=dq }
  have himm:∀c,aI O tp H w c->aI O2 tp1 cv w1 c/\w1.heap[c]? =w.heap[c]?:=λc hc=>⟨⟨qjZ hc.1 hsz1,λh=>h.1.elim hc.2.1 hc.2.2.2,λh=>hc.2.2.1 (tp1o c hc.1 h).1,λ⟨j,r,h,_⟩=>by simp[cv]at h⟩,same1 c hc.1 hc.2.2.1⟩
  have hbi:aI O2 tp1 cv w1 b:=⟨qjZ hbl hsz1,λh=>h.2 rfl,hb1,λ⟨j,r,h,_⟩=>by simp[cv]at h⟩
  have hRs:R tp1 (aI O2 tp1 cv w1) w1 (.slice a len cap) (.list 1 (L.map enc)):=De (es:=L.map λn=>D.v (.int .i64 n)) (λd hd=>by simp at hd;obtain⟨n,_,rfl⟩:=hd;exact⟨n,rfl⟩) hR himm;have st3:St E3 (cR [.cptr [.list 1 (L.map enc), .v (.int .i64 (i+1))] 0, .v (.int .i64 n)]) cv a1 w1:=by
   refine⟨hd1,hN1,tp1,⟨λc hc=>qjZ (hc.1.elim (hO c) (hownlt c)) hsz1,λc hc=>hc,λc hc=> .inl hc,⟨hw1.tpl.1,hw1.tpg.2.mono (λ_ h=>h) (λb h=>h.elim)⟩, .refl _ _ _,λc ⟨j,r,k1,k2⟩=>by simp[cv]at k1,⟨λj k r q c k1 k2 k3 k4=>by simp[cv]at k1,λj r c k1 k2=>by simp[cv]at k1,λj r k1=>by simp[cv]at k1⟩⟩,λt=>?_⟩;rcases t with _|_|t
   ·have r0:=hr1 0;rw[k1]at r0;generalize a1.tmps.getD 0 undef=v0 at r0 ⊢;cases r0;obtain⟨f,q1,q2,q3⟩:=qz (tp:=tp1) (I:=aI O2 tp1 cv w1) (w:=w1) (cells:=[.list 1 (L.map enc), .v (.int .i64 (i+1))]) k5 rfl (by
     intro k y c hy hc;rcases k with _|_|k
     ·simp at hy hc;subst hy;subst hc;exact⟨rfl,by simpa using hRs⟩
     ·simp at hy hc;subst hy;subst hc;exact⟨rfl, .v _ rfl (λs hs=>by cases hs)⟩
     ·simp at hy)
    have:=Gv.R.cptr (tp:=tp1) (I:=aI O2 tp1 cv w1) b 0 [.list 1 (L.map enc), .v (.int .i64 (i+1))] 0 f hbi (λ_=>⟨_,_,k5⟩) q1 q2 q3;simpa [cR]using this
   ·have r0:=hr1 1;rw[k2]at r0;have:=r0.inv_v;show R _ _ _ _ (.v (.int .i64 n));rw[this];exact .v _ rfl (λs hs=>by cases hs)
   ·exact .any _
  have hv3:=Uo (S:=S) hm L i n g0 (by have:i < (len:Int):=k4;omega) hp (by omega);refine qkM ?_ (qh (E:=E3) hS rp Y3 xC (by rw[qah];exact hcC) _ _ _ _ _ st3 hv3);intro e a2 w2 hp2;cases e with
  | ret=>
    obtain⟨σ2,H2',⟨hd2,hN2,tp2',hw2,hr2⟩,y,k6,k7⟩:=hp2;obtain⟨v,r0,hrun,hRv,hq⟩:=kY (H:=H2') (K:=λr=>r= .v (.int .i64 y)) h5 hr2 hw2.sat.ok k6;subst hq;have:=hRv.inv_v;subst this;have st2:=hw2.step;have hsz2:w1.heap.size<=w2.heap.size:=st2.size;have same2:∀c,c < w1.heap.size->¬tp1 c->w2.heap[c]? =w1.heap[c]?:=λc hc ht=>st2.same c hc (λh=>h) ht
    refine⟨hd2,_,hrun,rv w2 (i+1) y el1 (st2.os.trans st1.os) (st2.tape.trans st1.tape) (st2.output.trans st1.output) (qj8 hsz1 hsz2) (λc hc ht=>?_) (λc hc hcb=>(st1.tapes c ⟨hc,hcb⟩).trans (st2.tapes c (hw1.tpx c ⟨hc,hcb⟩))) ?_ (by omega) (by have:i < (len:Int):=k4;omega) (λq=>qj8 (st1.drawn q) (st2.drawn q)) k7⟩
    ·rw[same2 c (by omega) (λh=>ht (tp1o c hc h).1),same1 c hc ht]
    ·rw[same2 b (by omega) hb1,k5]
  | normal=>obtain⟨σ2,H2',_,k⟩:=hp2;exact k.elim
  | exit j=>obtain⟨σ2,H2',_,k⟩:=hp2;exact k.elim
  | goto l=>exact hp2.elim
  | panic c=>exact hp2.elim
  | outgrown=>exact hp2.elim
 refine wp_seq (qkM ?_ (qh (E:=E2) hS rp Y4 x0 (by rw[qak];exact hc0) (LE S (.seq Xl VX) (VW b (.slice a len cap) i n)) _ _ _ _ hst hv));intro e a1 w1 hp1;cases e with
 | normal=>
   obtain⟨σ1,H1,st1,k1⟩:=hp1;refine wp_seq (qkM ?_ (qh (E:=E2) hS rp Xl xA (by rw[qaj];exact hcA) (LE S VX (VW b (.slice a len cap) i n)) _ _ _ _ st1 k1));intro e a1 w1 hp1;cases e with
   | normal=>
     obtain⟨σ1,H1,st1,k1⟩:=hp1;refine wp_seq (qkM ?_ (qh (E:=E2) hS rp VX xB (by rw[qai];exact hcB) (VW b (.slice a len cap) i n) _ _ _ _ st1 k1));intro e a1 w1 hp1;cases e with
     | normal=>obtain⟨σ1,H1,st1,k1⟩:=hp1;exact htail a1 w1 σ1 H1 st1 k1
     | ret=>obtain⟨σ1,H1,st1,k1⟩:=hp1;exact hret a1 w1 σ1 H1 st1 k1
     | exit j=>obtain⟨σ2,H2',_,k⟩:=hp1;exact k.elim
     | goto l=>exact hp1.elim
     | panic c=>exact hp1.elim
     | outgrown=>exact hp1.elim
   | ret=>obtain⟨σ1,H1,st1,k1⟩:=hp1;exact hret a1 w1 σ1 H1 st1 k1
   | exit j=>obtain⟨σ2,H2',_,k⟩:=hp1;exact k.elim
   | goto l=>exact hp1.elim
   | panic c=>exact hp1.elim
   | outgrown=>exact hp1.elim
 | ret=>obtain⟨σ1,H1,st1,k1⟩:=hp1;exact hret a1 w1 σ1 H1 st1 k1
 | exit j=>obtain⟨σ2,H2',_,k⟩:=hp1;exact k.elim
 | goto l=>exact hp1.elim
 | panic c=>exact hp1.elim
 | outgrown=>exact hp1.elim
end
def xM(b:Nat)(L:List Int):Res:= .box b [.list 1 (L.map enc), .v (.int .i64 0)]
def qbq:PT:=λd ds H K=>∃l,(a1 (List Int)).dec ds=some l/\∀b L,K (.bptr d b 0) (aj H d (some (xM b L)))
def SN(cc:CC)(rs:List ai)(S:Nat->Spc):Prop:=
 ∀l:List Int,vc S cc (ra rs λr H'=>∃j b L,r= .bptr j b 0/\H' j=some (xM b L)) (cR [enc l]) cv
section
variable {P:Program}{S:Nat->Spc}{f:Nat}{im:List Nat}{cc:CC}{rs:List ai}{N:Nat}
theorem Ls(hS:∀f,Tri dq P f (S f).pt)(h:aq P f im cc rs N)(hN:1<=N)(hw:SN cc rs S):Tri dq P f qbq:=by
 obtain⟨rp,enter,fn,code,h1,h2,h3,h4,h5⟩:=h;refine mZ hS rp h1 h2 enter h3 h4 h5 ?_;rintro ds H d K ⟨l,hd,hK⟩;have hl:=(a1 (List Int)).le ds l hd;refine⟨by rw[hl.1];exact hN,_,cv,λ_=>0,hl,λi r h=>by simp[cv]at h,λi j r s h=>by simp[cv]at h,_,hw l,?_⟩;rintro r H' ⟨j,b,L,rfl,hj⟩;refine⟨.bptr d b 0,cv,aj H d (some (xM b L)),λi=>if i=d then some j else none, .bptr _ _ _ _,λj q h=>by simp[cv]at h,hK b L,λi s hi=>?_,λi j' k s q hi hj' e1 e2=>?_⟩
 ·by_cases e:i=d
  ·subst e;simp only[aj,if_true]at hi;cases hi;simpa using hj
  ·simp only[aj,e,if_false]at hi ⊢;exact⟨hi,λk q h=>by simp[cv]at h⟩
 ·have a:i=d:=by
   by_cases e:i=d
   ·exact e
   ·simp[e]at e1
  have b:j'=d:=by
   by_cases e:j'=d
   ·exact e
   ·simp[e]at e2
  exact a.trans b.symm
abbrev s_m_New:Spc:=aZ (a1 (List Int)) (λ_=>True) (λL:List Int=>D.tape L) (λ_ _=>True)
theorem TK(hf:Tri dq P f qbq):Tri dq P f s_m_New.pt:=by
 intro O tp w vs ds H d K hO htl hsat hlen hargs hA;simp only[s_m_New,kA]at hA;cases hd:(a1 (List Int)).dec ds with
 | none=>rw[hd]at hA;exact hA.elim
 | some l=>
 rw[hd]at hA;obtain⟨_,hK⟩:=hA;have hownlt:∀c,bF H c->c < w.heap.size:=λc ⟨j,r,k1,k2⟩=>(hsat.ok j r k1).lt k2
 have hno:∀c,¬bF cv c:=λc ⟨j,r,h,_⟩=>by simp[cv]at h
 have himm:∀c,aI O tp H w c->aI (λc=>O c\/bF H c) tp cv w c:=λc hc=>⟨hc.1,λh=>h.elim hc.2.1 hc.2.2.2,hc.2.2.1,hno c⟩
 obtain⟨c1,c2⟩:=hf (λc=>O c\/bF H c) tp w vs ds cv 0 (λr H'=>∃b L,r= .bptr 0 b 0/\H'=aj cv 0 (some (xM b L))) (λc hc=>hc.elim (hO c) (hownlt c)) (htl.mono λb h=>(hno b h).elim)
  ⟨λi j r s b h=>by simp[cv]at h,λi r b h=>by simp[cv]at h,λi r h=>by simp[cv]at h⟩ hlen
  (λk x c hx hc=>(hargs k x c hx hc).mono (λ_ h=>h) (λc hc=>⟨himm c hc,rfl⟩) (λb _=> .refl _ _)) ⟨l,hd,λb L=>⟨b,L,rfl,rfl⟩⟩
 refine⟨c1,c2.mono ?_⟩;rintro e w1 ⟨x,r,H',tp',rfl,⟨b,L,rfl,rfl⟩,tpx,tpn,tpl,st,loc,sat,hR⟩;cases hR;have hH:aj cv 0 (some (xM b L)) 0=some (xM b L):=rfl;have hbo:bF (aj cv 0 (some (xM b L))) b:=⟨0,_,hH,rfl⟩
 have hbs:w.heap.size<=b:=(loc b hbo).elim (λh=>(hno b h).elim) id;have hbl:b < w1.heap.size:=(sat.ok 0 _ hH).lt rfl;have hbtp:=sat.out 0 _ b hH rfl;have hsz:w.heap.size<=w1.heap.size:=st.size;have old:∀c,c < w.heap.size->¬tp c->¬ (tp' c\/c=b):=λc hc ht h=>h.elim (λh=>(tpn c h).elim ht (λh=>by
  have h:w.heap.size<=c:=h;omega)) (λh=>by omega)
 have same:∀c,c < w.heap.size->¬tp c->w1.heap[c]? =w.heap[c]?:=λc hc ht=>st.same c hc (hno c) ht
 obtain⟨xs,el,q1,q2,q3⟩:=sat.ok 0 _ hH;obtain⟨xl⟩:=xs
 match xl,q2,q3,q1 with
 | [s,y],_,q3,q1=>
 have a1':=(q3 0 s _ rfl rfl).2;have a2:=(q3 1 y _ rfl rfl).2.inv_v;subst a2;have hsl:slen s=L.length:=by
  generalize hes:L.map enc=es at a1';have hl2:L.length=es.length:=by rw[<-hes];simp
  cases a1' with
  | nolist=>simp at hl2;simp[slen,hl2]
  | list=>rw[hl2];rfl
 refine⟨_, .tape L,H,λc=>tp' c\/c=b,rfl,hK L trivial,λc hc=> .inl (tpx c hc),λc hc=>hc.elim (tpn c) (λe=> .inr (e ▸hbs)),λc hc=>hc.elim (tpl c) (λe=>e ▸hbl),
  ⟨st.os,st.tape,st.output,st.size,λc hc _ ht=>same c hc ht,st.tapes,st.drawn⟩,λc hc=> .inl hc,
  ⟨hsat.dis,λi r c hi hc=>⟨(hsat.out i r c hi hc).1,old c ((hsat.ok i r hi).lt hc) (hsat.out i r c hi hc).2⟩,λi r hi=>(hsat.ok i r hi).conv (λx d hr=>hr.mono (λc hc=> .inl (tpx c hc)) (λc hc=>⟨⟨qjZ hc.1 hsz,hc.2.1,old c hc.1 hc.2.2.1,hc.2.2.2⟩,same c hc.1 hc.2.2.1⟩) st.tapes) (λc hc=>same c ((hsat.ok i r hi).lt hc) (hsat.out i r c hi hc).2)⟩,?_⟩
 refine .tape b L s 0 el (.inr rfl) q1 (by omega) (by omega) hsl ?_;have a3:R tp' (aI (λc=>O c\/bF H c) tp' (aj cv 0 (some (xM b L))) w1) w1 s (.list 1 (L.map λn=>D.v (.int .i64 n))):=a1';exact De (λd hd=>by simp at hd;obtain⟨n,_,rfl⟩:=hd;exact⟨n,rfl⟩) a3 (λc hc=>⟨⟨hc.1,λh=>hc.2.1 (.inl h),λh=>h.elim hc.2.2.1 (λe=>hc.2.2.2 (e ▸hbo)),λh=>hc.2.1 (.inr h)⟩,rfl⟩)
end
end Go.Gv
namespace Go.Gv
open Cod (enc dec)
variable {S S0:Nat->Spc}
def lr{X Y:Type}(_:X)(_:Y):Prop:=True
@[simp] theorem qhD{X Y:Type}(x:X)(y:Y):lr x y=True:=id rfl
def bk{X:Type}(_:X):Prop:=True
abbrev s_r04_First:Spc:=aZ (a1 U8) bk (enc (X:=Bool)) lr
def IG:ax rU qW S (a1 U8) bk (enc (X:=Bool)) lr:=by
 rintro c -;simp[rU,qW]
abbrev s_r04_Next:Spc:=aZ (a1 U8) bk (enc (X:=Bool)) lr
def Lg(h1:S lH=s_r04_First):ax ue tq S (a1 U8) bk (enc (X:=Bool)) lr:=by
 rintro c -;simp[ue,tq,h1,bk]
abbrev s_r04_ValidName:Spc:=aZ (a1 B) bk (enc (X:=Bool)) lr
def A8(h1:S lH=s_r04_First)(h2:S rE=s_r04_Next):ax kQ kD S (a1 B) bk (enc (X:=Bool)) lr:=by
 rintro s -;simp[kQ,kD,h1,h2,bk];intro _ h1 _ h32;refine⟨by omega,λc _=>?_⟩;refine aL (X:=Nat) [0] [] (λk=>k<=s.size) (λk=>[(3,enc (k:Int))]) (λ_=>[]) (λk=>s.size -k) 1 (by omega) (by simp) (by simp) ?_;intro k hk;simp[h2,bk,InR]
 repeat' first|apply And.intro|intro _
 all_goals first|omega|exact⟨k+1,by omega,by omega,by omega⟩
abbrev s_r01_Units:Spc:=aZ (a1 B) (λs=>s.size<=100000) (enc (X:=List pY)) lr
theorem IJ:ax rW qY S (a1 B) (λs=>s.size<=100000) (enc (X:=List pY)) lr:=by
 rintro s hs;have hs:s.size<=100000:=hs;simp[rW,qY];intro b;refine cm (X:=Value×List pY) [0] [] (λx=>x.2.length<=100000/\∀u∈x.2,0<=u.pos/\u.pos<=100000) (λx=>[(3, .own 36 x.1)]) (λx=>[(36, .row x.1 ca 4 (x.2.map enc))]) ?_ ?_
 ·simp;refine aL (X:=Nat×Value×List pY) [0,8] [] (λx=>x.1<=s.size/\x.2.2.length<=x.1/\∀u∈x.2.2,0<=u.pos/\u.pos<=x.1) (λx=>[(3, .own 36 x.2.1)]) (λx=>[(8, .iter b s x.1),(36, .row x.2.1 ca 4 (x.2.2.map enc))]) (λx=>s.size -x.1) (0, .slice none 0 0, []) (by simp) (by simp) (by simp[isNilRow]) ?_;rintro⟨p,v,l⟩ ⟨h1,h2,h3⟩;simp at h1 h2 h3;simp;refine⟨λhp=>?_,λhp=>?_⟩
  ·have hw:=Pi s p hp;refine cm (X:=Value×List pY) [0,4,5,8] [8] (λx=>x.2.length<=p/\∀u∈x.2,0<=u.pos/\u.pos<=p) (λx=>[(3, .own 36 x.1)]) (λx=>[(36, .row x.1 ca 4 (x.2.map enc))]) ?_ ?_
   ·simp;refineλ_=>⟨λh4 _=>?_,λh4=>⟨v,l,⟨h2,h3⟩,rfl, .inl ⟨rfl,rfl⟩⟩⟩
    obtain⟨a,ha⟩:=eM (l:=l) (k:=l.length -1) (by omega);have h5:=h3 a (fF ha);simp only[InR];refine⟨by omega,λ_=>⟨by omega,by omega,by omega,by omega,λa' ha'=>?_⟩⟩;rw[ha]at ha';cases ha';refine⟨by omega,by omega,by omega,by omega,λa' ha'=>?_⟩;rw[ha]at ha';cases ha';refine⟨v,l.set (l.length -1) ⟨a.r,a.pos,p -a.pos,a.ok⟩,⟨by simpa using h2,λu hu=>?_⟩,rfl, .inl ⟨rfl,fU l _ ⟨a.r,a.pos,p -a.pos,a.ok⟩⟩⟩;rcases qkp hu with hu|rfl
    ·exact h3 u hu
    ·exact h5
   ·rintro⟨v,l⟩ ⟨h4,h5⟩;simp at h4 h5;simp;refine⟨by omega,by omega,λv=>⟨p+ (Utf8.decode s p).2,v,l++ [⟨⟨(Utf8.decode s p).1⟩,p,0,false⟩],⟨hw.2,by simp;omega,λu hu=>?_⟩,⟨rfl, .inl rfl, .inl ⟨rfl,HX l ⟨⟨(Utf8.decode s p).1⟩,p,0,false⟩⟩⟩,by omega⟩⟩;rcases qjM.1 hu with hu|hu
    ·have:=h5 u hu;omega
    ·simp at hu;subst hu;simp;omega
  ·exact⟨v,l,⟨by omega,λu hu=>by have:=h3 u hu;omega⟩,by simp⟩
 ·rintro⟨v,l⟩ ⟨h1,h2⟩;simp at h1 h2;simp;refine cm (X:=List pY) [3] [] (λx=>x.length=l.length) (λx=>[]) (λx=>[(36, .row v ca 4 (x.map enc))]) ?_ ?_
  ·simp;refineλ_=>⟨λh4 _=>?_,λh4=>⟨l,rfl, .inl rfl⟩⟩
   obtain⟨a,ha⟩:=eM (l:=l) (k:=l.length -1) (by omega);have h5:=h2 a (fF ha);simp only[InR];refine⟨by omega,λ_ _=>⟨by omega,by omega,by omega,by omega,λa' ha'=>?_⟩⟩;rw[ha]at ha';cases ha';refine⟨by omega,by omega,by omega,by omega,λa' ha'=>?_⟩;rw[ha]at ha';cases ha';exact⟨l.set (l.length -1) ⟨a.r,a.pos,s.size -a.pos,a.ok⟩,by simp, .inl (fU l _ ⟨a.r,a.pos,s.size -a.pos,a.ok⟩)⟩
  ·intro l h3;simp;intro _;refine am (X:=List pY) [3] [] l.length (λk x=>x.length=l.length) (λx=>[]) (λx=>[(36, .row v ca 4 (x.map enc))]) l (by simp) (by simp) (by omega) (by simp) (by simp) (by simp) (by simp) (by simp) ?_ ?_
   ·intro k x hk h4;simp;obtain⟨a,ha⟩:=eM (l:=x) (k:=k) (by omega);simp[ha];have hkx:k < x.length:=by omega
    exact⟨hkx,λ_=>⟨hkx,x.set k ⟨a.r,a.pos,a.sz,decide (a.sz=3)⟩,by simpa using h4, .inl (fU x k ⟨a.r,a.pos,a.sz,decide (a.sz=3)⟩)⟩,λ_=>⟨hkx,x.set k ⟨a.r,a.pos,a.sz,true⟩,by simpa using h4, .inl (fU x k ⟨a.r,a.pos,a.sz,true⟩)⟩⟩
   ·intro x h4;simp;exact dm x (jD ca (by simp)) trivial
abbrev s_r01_Valid:Spc:=aZ (a1 B) (λs=>s.size<=100000) (enc (X:=Bool)) lr
def II(h1:S lJ=s_r01_Units):ax rV qX S (a1 B) (λs=>s.size<=100000) (enc (X:=Bool)) lr:=by
 rintro s hs;have hs:s.size<=100000:=hs;simp[rV,qX,h1];refine⟨hs,λl _=>?_⟩;refine am (X:=Unit) [6] [] l.length (λ_ _=>True) (λ_=>[]) (λ_=>[]) () (by simp) (by simp) (by omega) (by simp) (by simp) trivial (by simp) (by simp) ?_ ?_
 ·intro k _ hk _;simp[hk]
 ·intro _ _;simp
def mY(s:B)(y:Int):Prop:=y=0->s.size<=120
abbrev s_r04_ValidValue:Spc:=aZ (a1 B) bk (enc (X:=Int)) mY
def zI(h1:S lI=s_r01_Valid):ax jX jp S (a1 B) bk (enc (X:=Int)) mY:=by
 rintro s -;simp[jX,jp,h1];refineλ_=>⟨λh h'=>by omega,λhs=>⟨by omega,λh'=>by omega,λhlen=>?_⟩⟩
 refine am (X:=Unit) [12] [] (s.data.toList.length) (λ_ _=>True) (λ_=>[]) (λ_=>[]) () (by simp) (by simp) (by simpa using hlen) (by simp) (by simp) trivial (by simp) (by simp) ?_ ?_
 ·intro k _ hk _;simp at hk;simp[hk,mY]
 ·intro _ _;simp[mY];omega
abbrev s_r05_Parse:Spc:=aZ (a1 B) bk (sj (Y:=List B) (Z:=Int)) lr
theorem IF(h1:S bb=s_r04_ValidValue):ax rT qV S (a1 B) bk (sj (Y:=List B) (Z:=Int)) lr:=by
 rintro s -;simp[rT,qV,h1,bk];intro e he he0 _ hne;have hs:=he he0;have hpos:0 < s.size:=by
  rcases qlr s.size with h|h
  ·exact absurd (ByteArray.size_eq_zero_iff.1 h) hne
  ·exact h
 refine⟨hpos,λc _ _=>⟨by simp[InR];omega,by omega,by omega,λc' _ _=>?_⟩⟩;refine aL (X:=Nat×Nat×Value×List B) [0,5] [] (λx=>1<=x.1/\x.1<=s.size/\x.2.1<=x.1/\x.2.2.2.length<=x.1) (λx=>[(8,enc (x.1:Int)),(7,enc (x.2.1:Int)),(6, .own 49 x.2.2.1)]) (λx=>[(49, .row x.2.2.1 aJ 1 (x.2.2.2.map enc))]) (λx=>s.size -x.1) (1,1, .slice none 0 0, []) (by simp;omega) (by simp) (by simp[isNilRow]) ?_;rintro⟨i,fr,v,l⟩ ⟨q1,q2,q3,q4⟩;simp at q1 q2 q3 q4;simp;refine⟨λhi=>⟨hi,λc _=>⟨λ_=>⟨by simp[InR];omega,i+1,fr,v,l,⟨by omega,by omega,by omega,by omega⟩,⟨⟨rfl,rfl,rfl⟩, .inl ⟨rfl,rfl⟩⟩,by omega⟩,λ_ _=>⟨by omega,by omega,by omega,by omega,λv=>⟨by simp[InR];omega,i+1,i+1,v,l++ [s.extract fr i],⟨by omega,by omega,by omega,by simp;omega⟩,⟨⟨rfl,rfl,rfl⟩, .inl ⟨rfl,HX l _⟩⟩,by omega⟩⟩⟩⟩,λ_=>?_⟩;refine aL (X:=Nat) [6] [49] (λx=>1<=x/\x<=l.length+1) (λx=>[(9,enc (x:Int))]) (λx=>[]) (λx=>l.length+1 -x) 1 (by simp) (by simp) (by simp) ?_;intro k hk;simp;exactλ_=>⟨λ_=>⟨by simp[InR];omega,by omega,by omega,by omega,λ_ _=>⟨by omega,λ_ _ _=>⟨by simp[InR];omega,k+1,by omega,by omega,by omega⟩⟩⟩,λ_=>⟨l,jD aJ (by simp)⟩⟩
end Go.Gv
