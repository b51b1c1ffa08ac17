/- W11 -/
import Derived.Test.YtfpmgnnippjblaaGreatDoorGc17
set_option linter.all false
set_option maxRecDepth 100000
open Bool renaming forall_bool → fB', exists_bool → eB'
namespace Go.Gv
section
open Cod (enc dec)
variable {dq:Prop}
def PN{tp I p r:Nat->Prop}{w w':World}{s:Value}{es:List D}(q:∀d∈es,∃n,d= .v (.int .i64 n))(h:R tp I w s (.list 1 es))(hI:∀c,I c->r c/\w'.heap[c]? =w.heap[c]?):R p r w' s (.list 1 es):=by
 cases h with
 |nolist a cap _=>exact .nolist _ _ _
 | list b off cap n es f hb hc hm hz hn hcell h1 h2=>
   refine .list b off cap _ es f (hI b hb).1 hc hm (λh=>absurd rfl h) hn (λk c hk=>by grind [D,PlainB,World.cell?_of_block]) h1 (λk c hk=>?_);have j:=qF7 hk;simp only[bq,qHW]at j;obtain⟨d,t,l⟩:=j;obtain⟨n,rfl⟩:=q d t;simp[D.cells]at l;subst l;have:=h2 k _ hk;generalize f k=y at this ⊢;cases this with
   |v _ a1 a2=>exact .v _ a1 a2
def Qp{P:Program}{im:List Nat}{N:Nat}{code:Code}{a b:CC}(h:aG P im N code=some (.seq a b)):∃x y,code= .seq x y/\aG P im N x=some a/\aG P im N y=some b:=by
 grind [br]
abbrev s_m_Next:Spc:=ax (aT (a1 Int)) (λx=>x.2<=1000000000) (enc (X:=Int)) (λx y=>x.2< 1/\y=0\/1<=x.2/\0<=y/\y<x.2)
section
variable {P:Program}{S:Nat->Spc}{f:Nat}{im:List Nat}{N:Nat}
theorem qia(hS:∀f,Tri dq P f (S f).pt)(hm:S wZ=s_m_Mod)(h:BA P f im wn CO N)(hN:2<=N):Tri dq P f s_m_Next.pt:=by
 obtain⟨yH,enter,fn,code,h1,h2,h3,h4,h5⟩:=h;subst h3;rw[qjO]at h4;obtain⟨x0,y0,rfl,hc0,h4⟩:=Qp h4;obtain⟨xA,yA,rfl,hcA,h4⟩:=Qp h4;obtain⟨xB,xC,rfl,hcB,hcC⟩:=Qp h4;intro O tp w vs ds H d K hO htl Q hlen U hA;refine⟨enter,calls_of_wp h1 h2 ?_⟩;simp only[s_m_Next,lZ]at hA;cases hd:(aT (a1 Int)).dec ds with
 |none=>simp_all
 |some x=>
 rw[hd]at hA;obtain⟨L,n⟩:=x;obtain⟨hp,hK⟩:=hA;have hl:=(aT (a1 Int)).le ds (L,n) hd;have hl1:ds.length=2:=hl.1
 match ds,vs,hl,hl1,hlen,U with
 | [d0,d1], [v0,v1],hl,_,_,U=>
 have e0:d0= .tape L:=by
  have:=hl.2 0 d0 (.tape L) rfl rfl;cases this;rfl
 have e1:d1= .v (.int .i64 n):=by
  have:=hl.2 1 d1 (.v (.int .i64 n)) rfl rfl;cases this;rfl
 subst e0;subst e1;have r1:=(U 1 v1 _ rfl rfl).inv_v;subst r1;have r0:=U 0 v0 _ rfl rfl;cases r0 with
 |tape b _ s i el hb hh g0 g1 gs hR=>
 obtain⟨a,len,cap,rfl⟩:∃a len cap,s= .slice a len cap:=by
  generalize L.map (λn=>D.v (.int .i64 n))=es at hR;cases hR<;>exact⟨_,_,_,rfl⟩
 have hlen:(len:Int)<=9223372036854775807:=by
  generalize L.map (λn=>D.v (.int .i64 n))=es at hR;cases hR with
  |nolist=>simp
  |list b off cap n es f hI hc hm=>simp only[maxLen]at hm;omega
 have hLl:len=L.length:=gs;have hbl:=htl.1 b hb
 let O2:Nat->Prop:=λx=>(O x\/bG H x)/\x≠b
 let tp2:Nat->Prop:=λx=>tp x/\x≠b
 let E2:BU:={ O:=O2,tp0:=tp2,w0:=w,own0:=λx=>x=b,N:=fn.ntmps,dq:=dq }
 let H2:ab:=aj dm 0 (some (.box b [.v (.slice a len cap), .v (.int .i64 i)]))
 have hownlt:∀c,bG H c->c<w.heap.size:=λc ⟨j,r,C,Y⟩=>(Q.ok j r C).lt Y
 have h2:∀j r,H2 j=some r->j=0/\r= .box b [.v (.slice a len cap), .v (.int .i64 i)]:=λj r hj=>by
  by_cases e:j=0
  ·subst e;simp only[H2,aj,if_true]at hj;cases hj;exact⟨rfl,rfl⟩
  ·simp[H2,aj,e,dm]at hj
 have hst:St E2 (dI [.bptr 0 b 0, .v (.int .i64 n)]) H2 { tmps:= #[.pointer (some ⟨b,0,none⟩), .int .i64 n] ++Array.replicate (fn.ntmps -2) undef,defers:=[] } w:=by
  refine⟨rfl,?_,tp2,⟨λc hc=>hc.1.elim (hO c) (hownlt c),λc hc=>hc,λc hc=> .inl hc,⟨λc hc=>htl.1 c hc.1,λp hp=>⟨λh=>(htl.2 p hp).1 h.1,λh=>(htl.2 p hp).1 (h ▸hb),(htl.2 p hp).2.2⟩⟩, .refl _ _ _,λc ⟨j,r,C,Y⟩=>?_,⟨λj k r q c C Y k3 k4=>?_,λj r c C Y=>?_,λj r C=>?_⟩⟩,λt=>?_⟩
  ·show(_:Array Value).size=fn.ntmps;simp;omega
  ·obtain⟨_,rfl⟩:=h2 j r C;cases Y;exact .inl rfl
  ·rw[(h2 j r C).1,(h2 k q Y).1]
  ·obtain⟨_,rfl⟩:=h2 j r C;cases Y;exact⟨λh=>h.2 rfl,λh=>h.2 rfl⟩
  ·obtain⟨_,rfl⟩:=h2 j r C;refine⟨_,el,hh,rfl,λk y c hy hc=>?_⟩;rcases k with _|_|k
   ·simp at hy hc;subst hy;subst hc;exact⟨rfl, .v _ rfl (λs hs=>by cases hs)⟩
   ·simp at hy hc;subst hy;subst hc;exact⟨rfl, .v _ rfl (λs hs=>by cases hs)⟩
   ·simp at hy
  ·have q0:(#[Value.pointer (some ⟨b,0,none⟩), .int .i64 n] ++Array.replicate (fn.ntmps -2) undef).getD 0 undef=Value.pointer (some ⟨b,0,none⟩):=by
    rw[qGL,qGX (by simp)];rfl
   have q1:(#[Value.pointer (some ⟨b,0,none⟩), .int .i64 n] ++Array.replicate (fn.ntmps -2) undef).getD 1 undef=Value.int .i64 n:=by
    rw[qGL,qGX (by simp)];rfl
   rcases t with _|_|t
   ·show R _ _ _ (Array.getD _ 0 undef) _;rw[q0];exact .bptr _ _ _
   ·show R _ _ _ (Array.getD _ 1 undef) _;rw[q1];exact .v _ rfl (λs hs=>by cases hs)
   ·exact .any _
 have tD:∀(Z:World) (j y:Int) (W:Nat),Z.os=w.os->Z.tape=w.tape->Z.output=w.output->w.heap.size<=Z.heap.size->(∀c,c<w.heap.size->¬tp c->Z.heap[c]? =w.heap[c]?)->
  (∀c,tp c->c≠b->TapeStep w Z c)->Z.heap[b]? =some (.cells #[.slice a len cap, .int .i64 j] W (0,0))->0<=j->j<=len->(dq->w.drawn<=Z.drawn)->
  (n< 1/\y=0\/1<=n/\0<=y/\y<n)->qdM dq O tp H w K (.returned (.int .i64 y)) Z:=by
  intro Z j y W s1 s2 s3 s4 s5 s6 s7 s8 s9 s11 s10;have htapes:∀c,tp c->TapeStep w Z c:=λc hc=>by
   by_cases e:c=b
   ·subst e;intro s' i' el0 hh' _ _;rw[hh]at hh';cases hh';exact⟨j,W,s7,s8,s9⟩
   ·exact s6 c hc e
  refine⟨_, .v (.int .i64 y),H,tp,rfl,hK y s10,λc hc=>hc,λc hc=> .inl hc,λc hc=>qGl (htl.1 c hc) s4,⟨s1,s2,s3,s4,λc hc _ ht=>s5 c hc ht,htapes,s11⟩,λc hc=> .inl hc,
   ⟨Q.dis,Q.out,λk r hk=>(Q.ok k r hk).conv (λx d hr=>hr.mono (λ_ h=>h) (λc hc=>⟨⟨qGl hc.1 s4,hc.2.1,hc.2.2.1,hc.2.2.2⟩,s5 c hc.1 hc.2.2.1⟩) htapes) (λc hc=>s5 c ((Q.ok k r hk).lt hc) (Q.out k r c hk hc).2)⟩, .v _ rfl (λs hs=>by cases hs)⟩
 have hv:=qnN (S:=S) b a len cap i n g0 hlen;have cells2:∀(tp':Nat->Prop) (H':ab) (w':World) (j:Int),StW E2 tp' H' w'->H' 0=some (.box b [.v (.slice a len cap), .v (.int .i64 j)])->∃W,w'.heap[b]? =some (.cells #[.slice a len cap, .int .i64 j] W (0,0)):=by
  intro tp' H' w' j hw hH;obtain⟨xs,W,C,Y,k3⟩:=hw.sat.ok 0 _ hH;refine⟨W,?_⟩;rw[C];obtain⟨l⟩:=xs
  match l,Y,k3 with
  | [x,y],_,k3=>
    have a1:=(k3 0 x _ rfl rfl).2.inv_v;have a2:=(k3 1 y _ rfl rfl).2.inv_v;rw[a1,a2]
 have hret:∀(a':Act) (w':World) (σ':Sg) (H':ab),St E2 σ' H' a' w'->qpI b (.slice a len cap) i n .ret σ' H'->a'.defers=[]/\∃v,(results fn a'.tmps).run P w'= .ok v w'/\qdM dq O tp H w K (.returned v) w':=by
  rintro a' w' σ' H' ⟨hd',hN',tp',hw',hr'⟩ ⟨C,Y⟩;obtain⟨v,r0,hrun,hRv,hq⟩:=rR (H:=H') (K:=λr=>r= .v (.int .i64 0)) h5 hr' hw'.sat.ok C;subst hq;have:=hRv.inv_v;subst this;obtain⟨W,k3⟩:=cells2 tp' H' w' i hw' Y;have st:=hw'.step;refine⟨hd',_,hrun,tD w' i 0 W st.os st.tape st.output st.size (λc hc ht=>st.same c hc (λe=>ht (e ▸hb)) (λh=>ht h.1)) (λc hc hcb=>st.tapes c ⟨hc,hcb⟩) k3 g0 g1 st.drawn ?_⟩;rcases Int.lt_or_le n 1 with h|h
  ·exact .inl ⟨h,rfl⟩
  ·exact .inr ⟨h,by omega,by omega⟩
 have htail:∀(a':Act) (w':World) (σ':Sg) (H':ab),St E2 σ' H' a' w'->qpI b (.slice a len cap) i n .norm σ' H'->xC.wp P (bodyPost P fn (qdM dq O tp H w K)) a' w':=by
  rintro a1 J M H1 ⟨hd1,hN1,F,hw1,hr1⟩ ⟨C,Y,k3,k4⟩;obtain⟨el1,k5⟩:=cells2 F H1 J (i+1) hw1 k3;have A:=hw1.step;have hsz1:w.heap.size<=J.heap.size:=A.size;have same1:∀c,c<w.heap.size->¬tp c->J.heap[c]? =w.heap[c]?:=λc hc ht=>A.same c hc (λe=>ht (e ▸hb)) (λh=>ht h.1)
  have tp1o:∀c,c<w.heap.size->F c->tp2 c:=λc hc h=>(hw1.tpn c h).elim id (λh=>by
   have h:w.heap.size<=c:=h;omega)
  have hb1:¬F b:=λh=>(tp1o b hbl h).2 rfl
  let E3:BU:={ O:=O2,tp0:=F,w0:=J,own0:=λ_=>False,N:=fn.ntmps,dq:=dq }
  have himm:∀c,be O tp H w c->be O2 F dm J c/\J.heap[c]? =w.heap[c]?:=λc hc=>⟨⟨qGl hc.1 hsz1,λh=>h.1.elim hc.2.1 hc.2.2.2,λh=>hc.2.2.1 (tp1o c hc.1 h).1,λ⟨j,r,h,_⟩=>by simp[dm]at h⟩,same1 c hc.1 hc.2.2.1⟩
  have hbi:be O2 F dm J b:=⟨qGl hbl hsz1,λh=>h.2 rfl,hb1,λ⟨j,r,h,_⟩=>by simp[dm]at h⟩
  have hRs:R F (be O2 F dm J) J (.slice a len cap) (.list 1 (L.map enc)):=PN (es:=L.map λn=>D.v (.int .i64 n)) (λd hd=>by simp at hd;obtain⟨n,_,rfl⟩:=hd;exact⟨n,rfl⟩) hR himm;have st3:St E3 (dI [.cptr [.list 1 (L.map enc), .v (.int .i64 (i+1))] 0, .v (.int .i64 n)]) dm a1 J:=by
   refine⟨hd1,hN1,F,⟨λc hc=>qGl (hc.1.elim (hO c) (hownlt c)) hsz1,λc hc=>hc,λc hc=> .inl hc,⟨hw1.tpl.1,hw1.tpg.2.mono (λ_ h=>h) (λb h=>h.elim)⟩, .refl _ _ _,λc ⟨j,r,C,Y⟩=>by simp[dm]at C,⟨λj k r q c C Y k3 k4=>by simp[dm]at C,λj r c C Y=>by simp[dm]at C,λj r C=>by simp[dm]at C⟩⟩,λt=>?_⟩;rcases t with _|_|t
   ·have r0:=hr1 0;rw[C]at r0;generalize a1.tmps.getD 0 undef=v0 at r0 ⊢;cases r0;obtain⟨f,q1,q2,q3⟩:=zJ (tp:=F) (I:=be O2 F dm J) (w:=J) (cells:=[.list 1 (L.map enc), .v (.int .i64 (i+1))]) k5 rfl (by
     intro k y c hy hc;rcases k with _|_|k
     ·simp at hy hc;subst hy;subst hc;exact⟨rfl,by simpa using hRs⟩
     ·simp at hy hc;subst hy;subst hc;exact⟨rfl, .v _ rfl (λs hs=>by cases hs)⟩
     ·simp at hy)
    have:=Gv.R.cptr (tp:=F) (I:=be O2 F dm J) b 0 [.list 1 (L.map enc), .v (.int .i64 (i+1))] 0 f hbi (λ_=>⟨_,_,k5⟩) q1 q2 q3;simpa [dI]using this
   ·have r0:=hr1 1;rw[Y]at r0;have:=r0.inv_v;show R _ _ _ _ (.v (.int .i64 n));rw[this];exact .v _ rfl (λs hs=>by cases hs)
   ·exact .any _
  have hv3:=qnM (S:=S) hm L i n g0 (by have:i<(len:Int):=k4;omega) hp (by omega);refine qHm ?_ (yP (E:=E3) hS yH qtd xC (by rw[quC];exact hcC) _ _ _ _ _ st3 hv3);intro e a2 Z hp2;cases e with
  | ret=>
    obtain⟨σ2,H2',⟨hd2,hN2,tp2',hw2,hr2⟩,y,k6,k7⟩:=hp2;obtain⟨v,r0,hrun,hRv,hq⟩:=rR (H:=H2') (K:=λr=>r= .v (.int .i64 y)) h5 hr2 hw2.sat.ok k6;subst hq;have:=hRv.inv_v;subst this;have st2:=hw2.step;have hsz2:J.heap.size<=Z.heap.size:=st2.size;have same2:∀c,c<J.heap.size->¬F c->Z.heap[c]? =J.heap[c]?:=λc hc ht=>st2.same c hc (λh=>h) ht
    refine⟨hd2,_,hrun,tD Z (i+1) y el1 (st2.os.trans A.os) (st2.tape.trans A.tape) (st2.output.trans A.output) (qGA hsz1 hsz2) (λc hc ht=>?_) (λc hc hcb=>(A.tapes c ⟨hc,hcb⟩).trans (st2.tapes c (hw1.tpx c ⟨hc,hcb⟩))) ?_ (by omega) (by have:i<(len:Int):=k4;omega) (λq=>qGA (A.drawn q) (st2.drawn q)) k7⟩
    ·rw[same2 c (by omega) (λh=>ht (tp1o c hc h).1),same1 c hc ht]
    ·rw[same2 b (by omega) hb1,k5]
  |normal=>obtain⟨σ2,H2',_,k⟩:=hp2;exact k.elim
  |exit j=>obtain⟨σ2,H2',_,k⟩:=hp2;exact k.elim
  |goto l=>exact hp2.elim
  |panic c=>exact hp2.elim
  |outgrown=>exact hp2.elim
 refine wp_seq (qHm ?_ (yP (E:=E2) hS yH qte x0 (by rw[quF];exact hc0) (qcq S (.seq qri qpJ) (qpI b (.slice a len cap) i n)) _ _ _ _ hst hv));intro e a1 J u;cases e with
 | normal=>
   obtain⟨M,H1,A,C⟩:=u;refine wp_seq (qHm ?_ (yP (E:=E2) hS yH qri xA (by rw[quE];exact hcA) (qcq S qpJ (qpI b (.slice a len cap) i n)) _ _ _ _ A C));intro e a1 J u;cases e with
   | normal=>
     obtain⟨M,H1,A,C⟩:=u;refine wp_seq (qHm ?_ (yP (E:=E2) hS yH qpJ xB (by rw[quD];exact hcB) (qpI b (.slice a len cap) i n) _ _ _ _ A C));intro e a1 J u;cases e with
     |normal=>obtain⟨M,H1,A,C⟩:=u;exact htail a1 J M H1 A C
     |ret=>obtain⟨M,H1,A,C⟩:=u;exact hret a1 J M H1 A C
     |exit j=>obtain⟨σ2,H2',_,k⟩:=u;exact k.elim
     |goto l=>exact u.elim
     |panic c=>exact u.elim
     |outgrown=>exact u.elim
   |ret=>obtain⟨M,H1,A,C⟩:=u;exact hret a1 J M H1 A C
   |exit j=>obtain⟨σ2,H2',_,k⟩:=u;exact k.elim
   |goto l=>exact u.elim
   |panic c=>exact u.elim
   |outgrown=>exact u.elim
 |ret=>obtain⟨M,H1,A,C⟩:=u;exact hret a1 J M H1 A C
 |exit j=>obtain⟨σ2,H2',_,k⟩:=u;exact k.elim
 |goto l=>exact u.elim
 |panic c=>exact u.elim
 |outgrown=>exact u.elim
end
def HR(b:Nat)(L:List Int):Res:= .box b [.list 1 (L.map enc), .v (.int .i64 0)]
def qvM:PT:=λd ds H K=>∃l,(a1 (List Int)).dec ds=some l/\∀b L,K (.bptr d b 0) (aj H d (some (HR b L)))
def qlX(cc:CC)(rs:List ai)(S:Nat->Spc):Prop:=
 ∀l:List Int,vc S cc (wC rs λr H'=>∃j b L,r= .bptr j b 0/\H' j=some (HR b L)) (dI [enc l]) dm
section
variable {P:Program}{S:Nat->Spc}{f:Nat}{im:List Nat}{cc:CC}{rs:List ai}{N:Nat}
theorem qcb(p:∀f,Tri dq P f (S f).pt)(h:BA P f im cc rs N)(t:1<=N)(u:qlX cc rs S):Tri dq P f qvM:=by
 obtain⟨yH,enter,fn,code,h1,h2,h3,h4,h5⟩:=h;refine nU p yH h1 h2 enter h3 h4 h5 ?_;rintro ds H d K ⟨l,w,x⟩;have hl:=(a1 (List Int)).le ds l w;refine⟨by rw[hl.1];exact t,_,dm,λ_=>0,hl,λi r h=>by simp[dm]at h,λi j r s h=>by simp[dm]at h,_,u l,?_⟩;rintro r H' ⟨j,b,L,rfl,y⟩;refine⟨.bptr d b 0,dm,aj H d (some (HR b L)),λi=>if i=d then some j else none, .bptr _ _ _ _,λj q h=>by simp[dm]at h,x b L,λi s hi=>?_,λi c k s q hi A C E=>?_⟩
 ·by_cases e:i=d
  ·subst e;simp only[aj,if_true]at hi;cases hi;simpa using y
  ·simp only[aj,e,if_false]at hi ⊢;exact⟨hi,λk q h=>by simp[dm]at h⟩
 ·have a:i=d:=by
   by_cases e:i=d
   ·exact e
   ·simp[e]at C
  have b:c=d:=by
   by_cases e:c=d
   ·exact e
   ·simp[e]at E
  exact a.trans b.symm
abbrev s_m_New:Spc:=ax (a1 (List Int)) (λ_=>True) (λL:List Int=>D.tape L) (λ_ _=>True)
theorem qna(hf:Tri dq P f qvM):Tri dq P f s_m_New.pt:=by
 intro O tp w vs ds H d K hO Z a hlen u F;simp only[s_m_New,lZ]at F;cases E:(a1 (List Int)).dec ds with
 |none=>rw[E]at F;exact F.elim
 |some l=>
 rw[E]at F;obtain⟨_,hK⟩:=F;have p:∀c,bG H c->c<w.heap.size:=λc ⟨j,r,k1,k2⟩=>(a.ok j r k1).lt k2
 have q:∀c,¬bG dm c:=λc ⟨j,r,h,_⟩=>by simp[dm]at h
 have I:∀c,be O tp H w c->be (λc=>O c\/bG H c) tp dm w c:=λc hc=>⟨hc.1,λh=>h.elim hc.2.1 hc.2.2.2,hc.2.2.1,q c⟩
 obtain⟨c1,c2⟩:=hf (λc=>O c\/bG H c) tp w vs ds dm 0 (λr H'=>∃b L,r= .bptr 0 b 0/\H'=aj dm 0 (some (HR b L))) (λc hc=>hc.elim (hO c) (p c)) (Z.mono λb h=>(q b h).elim)
  ⟨λi j r s b h=>by simp[dm]at h,λi r b h=>by simp[dm]at h,λi r h=>by simp[dm]at h⟩ hlen
  (λk x c hx hc=>(u k x c hx hc).mono (λ_ h=>h) (λc hc=>⟨I c hc,rfl⟩) (λb _=> .refl _ _)) ⟨l,E,λb L=>⟨b,L,rfl,rfl⟩⟩
 refine⟨c1,c2.mono ?_⟩;rintro e J ⟨x,r,H',t,rfl,⟨b,L,rfl,rfl⟩,tpx,tpn,tpl,st,loc,sat,hR⟩;cases hR;have W:aj dm 0 (some (HR b L)) 0=some (HR b L):=rfl;have M:bG (aj dm 0 (some (HR b L))) b:=⟨0,_,W,rfl⟩
 have hbs:w.heap.size<=b:=(loc b M).elim (λh=>(q b h).elim) id;have hbl:b<J.heap.size:=(sat.ok 0 _ W).lt rfl;have hbtp:=sat.out 0 _ b W rfl;have hsz:w.heap.size<=J.heap.size:=st.size;have Q:∀c,c<w.heap.size->¬tp c->¬(t c\/c=b):=λc hc U h=>h.elim (λh=>(tpn c h).elim U (λh=>by
  have h:w.heap.size<=c:=h;omega)) (λh=>by omega)
 have same:∀c,c<w.heap.size->¬tp c->J.heap[c]? =w.heap[c]?:=λc hc U=>st.same c hc (q c) U
 obtain⟨xs,el,q1,q2,Y⟩:=sat.ok 0 _ W;obtain⟨xl⟩:=xs
 match xl,q2,Y,q1 with
 | [s,y],_,Y,q1=>
 have A:=(Y 0 s _ rfl rfl).2;have a2:=(Y 1 y _ rfl rfl).2.inv_v;subst a2;have hsl:slen s=L.length:=by
  generalize hes:L.map enc=es at A;have C:L.length=es.length:=by rw[<-hes];simp
  cases A with
  |nolist=>simp at C;simp[slen,C]
  |list=>rw[C];rfl
 refine⟨_, .tape L,H,λc=>t c\/c=b,rfl,hK L trivial,λc hc=> .inl (tpx c hc),λc hc=>hc.elim (tpn c) (λe=> .inr (e ▸hbs)),λc hc=>hc.elim (tpl c) (λe=>e ▸hbl),
  ⟨st.os,st.tape,st.output,st.size,λc hc _ U=>same c hc U,st.tapes,st.drawn⟩,λc hc=> .inl hc,
  ⟨a.dis,λi r c hi hc=>⟨(a.out i r c hi hc).1,Q c ((a.ok i r hi).lt hc) (a.out i r c hi hc).2⟩,λi r hi=>(a.ok i r hi).conv (λx d hr=>hr.mono (λc hc=> .inl (tpx c hc)) (λc hc=>⟨⟨qGl hc.1 hsz,hc.2.1,Q c hc.1 hc.2.2.1,hc.2.2.2⟩,same c hc.1 hc.2.2.1⟩) st.tapes) (λc hc=>same c ((a.ok i r hi).lt hc) (a.out i r c hi hc).2)⟩,?_⟩
 refine .tape b L s 0 el (.inr rfl) q1 (by omega) (by omega) hsl ?_;have a3:R t (be (λc=>O c\/bG H c) t (aj dm 0 (some (HR b L))) J) J s (.list 1 (L.map λn=>D.v (.int .i64 n))):=A;exact PN (λd E=>by simp at E;obtain⟨n,_,rfl⟩:=E;exact⟨n,rfl⟩) a3 (λc hc=>⟨⟨hc.1,λh=>hc.2.1 (.inl h),λh=>h.elim hc.2.2.1 (λe=>hc.2.2.2 (e ▸M)),λh=>hc.2.1 (.inr h)⟩,rfl⟩)
end
end
section
open Cod (enc dec)
variable {S S0:Nat->Spc}
def su{X Y:Type}(_:X)(_:Y):Prop:=True
@[simp] theorem qD3{X Y:Type}(x:X)(y:Y):su x y=True:=i' rfl
def bY{X:Type}(_:X):Prop:=True
abbrev s_r04_First:Spc:=ax (a1 U8) bY (enc (X:=Bool)) su
def Yh:aq qe oP S (a1 U8) bY (enc (X:=Bool)) su:=by
 rintro c -;simp[qe,oP]
abbrev s_r04_Next:Spc:=ax (a1 U8) bY (enc (X:=Bool)) su
def qbS(h1:S iC=s_r04_First):aq sR sx S (a1 U8) bY (enc (X:=Bool)) su:=by
 rintro c -;simp[sR,sx,h1,bY]
abbrev s_r04_ValidName:Spc:=ax (a1 B) bY (enc (X:=Bool)) su
def Ms(h1:S iC=s_r04_First)(h2:S rc=s_r04_Next):aq iu gZ S (a1 B) bY (enc (X:=Bool)) su:=by
 rintro s -;simp[iu,gZ,h1,h2,bY];intro _ h1 _ a;refine⟨by omega,λc _=>?_⟩;refine aA (X:=Nat) [0] [] (λk=>k<=s.size) (λk=>[(3,enc (k:Int))]) (λ_=>[]) (λk=>s.size -k) 1 (by omega) ?_;intro k hk;simp[h2,bY,InR]
 repeat' first|apply And.intro|intro _
 all_goals first|omega|exact⟨k+1,by omega,by omega,by omega⟩
abbrev s_r01_Units:Spc:=ax (a1 B) (λs=>s.size<=100000) (enc (X:=List yE)) su
theorem Yj:aq Bo At S (a1 B) (λs=>s.size<=100000) (enc (X:=List yE)) su:=by
 rintro s hs;have hs:s.size<=100000:=hs;simp[Bo,At];intro b;refine bh (X:=Value×List yE) [0] [] (λx=>x.2.length<=100000/\∀u∈x.2,0<=u.pos/\u.pos<=100000) (λx=>[(3, .own 36 x.1)]) (λx=>[(36, .row x.1 dn 4 (x.2.map enc))]) ?_ ?_
 ·simp;refine aA (X:=Nat×Value×List yE) [0,8] [] (λx=>x.1<=s.size/\x.2.2.length<=x.1/\∀u∈x.2.2,0<=u.pos/\u.pos<=x.1) (λx=>[(3, .own 36 x.2.1)]) (λx=>[(8, .iter b s x.1),(36, .row x.2.1 dn 4 (x.2.2.map enc))]) (λx=>s.size -x.1) (0, .slice none 0 0, []) (by simp) ?_ (hh:=by simp[isNilRow]);rintro⟨p,v,l⟩ ⟨h1,h2,h3⟩;simp at h1 h2 h3;simp;refine⟨λhp=>?_,λhp=>?_⟩
  ·have t:=qhd s p hp;refine bh (X:=Value×List yE) [0,4,5,8] [8] (λx=>x.2.length<=p/\∀u∈x.2,0<=u.pos/\u.pos<=p) (λx=>[(3, .own 36 x.1)]) (λx=>[(36, .row x.1 dn 4 (x.2.map enc))]) ?_ ?_
   ·simp;refineλ_=>⟨λh4 _=>?_,λh4=>⟨v,l,⟨h2,h3⟩,rfl, .inl ⟨rfl,rfl⟩⟩⟩
    obtain⟨a,d⟩:=aR (l:=l) (k:=l.length -1) (by omega);have h5:=h3 a (aP d);simp only[InR];refine⟨by omega,λ_=>⟨by omega,by omega,by omega,by omega,λj c=>?_⟩⟩;rw[d]at c;cases c;refine⟨by omega,by omega,by omega,by omega,λj c=>?_⟩;rw[d]at c;cases c;refine⟨v,l.set (l.length -1) ⟨a.r,a.pos,p -a.pos,a.ok⟩,⟨by grind,λu q=>?_⟩,rfl, .inl ⟨rfl,ki l _ ⟨a.r,a.pos,p -a.pos,a.ok⟩⟩⟩;grind
   ·rintro⟨v,l⟩ ⟨h4,h5⟩;simp at h4 h5;simp;refine⟨by omega,by omega,λv=>⟨p+ (Utf8.decode s p).2,v,l++ [⟨⟨(Utf8.decode s p).1⟩,p,0,false⟩],⟨t.2,by grind,λu q=>?_⟩,⟨rfl, .inl rfl, .inl ⟨rfl,Xk l ⟨⟨(Utf8.decode s p).1⟩,p,0,false⟩⟩⟩,by omega⟩⟩;grind
  ·exact⟨v,l,⟨by omega,λu q=>by grind⟩,by simp⟩
 ·rintro⟨v,l⟩ ⟨h1,h2⟩;simp at h1 h2;simp;refine bh (X:=List yE) [3] [] (λx=>x.length=l.length) (λx=>[]) (λx=>[(36, .row v dn 4 (x.map enc))]) ?_ ?_
  ·simp;refineλ_=>⟨λh4 _=>?_,λh4=>⟨l,rfl, .inl rfl⟩⟩
   obtain⟨a,d⟩:=aR (l:=l) (k:=l.length -1) (by omega);have h5:=h2 a (aP d);simp only[InR];refine⟨by omega,λ_ _=>⟨by omega,by omega,by omega,by omega,λj c=>?_⟩⟩;rw[d]at c;cases c;refine⟨by omega,by omega,by omega,by omega,λj c=>?_⟩;rw[d]at c;cases c;exact⟨l.set (l.length -1) ⟨a.r,a.pos,s.size -a.pos,a.ok⟩,by simp, .inl (ki l _ ⟨a.r,a.pos,s.size -a.pos,a.ok⟩)⟩
  ·intro l h3;simp;intro _;refine ah (X:=List yE) [3] [] l.length (λk x=>x.length=l.length) (λx=>[]) (λx=>[(36, .row v dn 4 (x.map enc))]) l (by simp) ?_ ?_
   ·intro k x hk h4;simp;obtain⟨a,d⟩:=aR (l:=x) (k:=k) (by omega);simp[d];have h:k<x.length:=by omega
    exact⟨h,λ_=>⟨h,x.set k ⟨a.r,a.pos,a.sz,decide (a.sz=3)⟩,by simpa using h4, .inl (ki x k ⟨a.r,a.pos,a.sz,decide (a.sz=3)⟩)⟩,λ_=>⟨h,x.set k ⟨a.r,a.pos,a.sz,true⟩,by simpa using h4, .inl (ki x k ⟨a.r,a.pos,a.sz,true⟩)⟩⟩
   ·intro x h4;simp;exact aL x (fq dn (by simp)) trivial
abbrev s_r01_Valid:Spc:=ax (a1 B) (λs=>s.size<=100000) (enc (X:=Bool)) su
def Yi(h1:S sM=s_r01_Units):aq Bn As S (a1 B) (λs=>s.size<=100000) (enc (X:=Bool)) su:=by
 rintro s hs;have hs:s.size<=100000:=hs;simp[Bn,As,h1];refine⟨hs,λl _=>?_⟩;refine ah (X:=Unit) [6] [] l.length (λ_ _=>True) (λ_=>[]) (λ_=>[]) () trivial ?_ ?_;simp;simp
def uA(s:B)(y:Int):Prop:=y=0->s.size<=120
abbrev s_r04_ValidValue:Spc:=ax (a1 B) bY (enc (X:=Int)) uA
def JZ(h1:S sL=s_r01_Valid):aq qd oO S (a1 B) bY (enc (X:=Int)) uA:=by
 rintro s -;simp[qd,oO,h1];refineλ_=>⟨λh a=>by omega,λhs=>⟨by omega,λa=>by omega,λhlen=>?_⟩⟩
 refine ah (X:=Unit) [12] [] (s.data.toList.length) (λ_ _=>True) (λ_=>[]) (λ_=>[]) () trivial ?_ ?_ (hlen:=by simp_all);simp[uA]
 ·intro _ _;simp[uA];omega
abbrev s_r05_Parse:Spc:=ax (a1 B) bY (iA (Y:=List B) (Z:=Int)) su
theorem Yf(h1:S bQ=s_r04_ValidValue):aq Bm Ar S (a1 B) bY (iA (Y:=List B) (Z:=Int)) su:=by
 rintro s -;simp[Bm,Ar,h1,bY];intro e he b _ d;have hs:=he b;have a:0<s.size:=by
  rcases qHa s.size with h|h;simp_all;omega
 refine⟨a,λc _ _=>⟨by grind [Spc,InR],by omega,by omega,λc' _ _=>?_⟩⟩;refine aA (X:=Nat×Nat×Value×List B) [0,5] [] (λx=>1<=x.1/\x.1<=s.size/\x.2.1<=x.1/\x.2.2.2.length<=x.1) (λx=>[(8,enc (x.1:Int)),(7,enc (x.2.1:Int)),(6, .own 49 x.2.2.1)]) (λx=>[(49, .row x.2.2.1 av 1 (x.2.2.2.map enc))]) (λx=>s.size -x.1) (1,1, .slice none 0 0, []) (by grind) ?_ (hh:=by simp[isNilRow]);rintro⟨i,fr,v,l⟩ ⟨j,p,q,r⟩;simp at j p q r;simp;refine⟨λhi=>⟨hi,λc _=>⟨λ_=>⟨by grind [Spc,InR],i+1,fr,v,l,⟨by omega,by omega,by omega,by omega⟩,⟨⟨rfl,rfl,rfl⟩, .inl ⟨rfl,rfl⟩⟩,by omega⟩,λ_ _=>⟨by omega,by omega,by omega,by omega,λv=>⟨by grind [Spc,InR],i+1,i+1,v,l++ [s.extract fr i],⟨by omega,by omega,by omega,by grind⟩,⟨⟨rfl,rfl,rfl⟩, .inl ⟨rfl,Xk l _⟩⟩,by omega⟩⟩⟩⟩,λ_=>?_⟩;refine aA (X:=Nat) [6] [49] (λx=>1<=x/\x<=l.length+1) (λx=>[(9,enc (x:Int))]) (λx=>[]) (λx=>l.length+1 -x) 1 (by simp) ?_;intro k hk;simp;exactλ_=>⟨λ_=>⟨by grind [Spc,InR],by omega,by omega,by omega,λ_ _=>⟨by omega,λ_ _ _=>⟨by grind [Spc,InR],k+1,by omega,by omega,by omega⟩⟩⟩,λ_=>⟨l,fq av (by simp)⟩⟩
def Cz{X:Type}[Cod X](l:List X)(k:Nat):List.take k (List.map enc l)=List.map enc (List.take k l):=List.map_take.symm
def qla{X:Type}[Cod X](l:List X)(k:Nat):List.drop k (List.map enc l)=List.map enc (List.drop k l):=List.map_drop.symm
abbrev s_r06_sign:Spc:=ax (a1 Bool) bY (enc (X:=Int)) su
def qbQ:aq DJ CM S (a1 Bool) bY (enc (X:=Int)) su:=by
 rintro s -;simp[DJ,CM,-fB']
abbrev s_r06_compare:Spc:=ax (a2 B B) bY (enc (X:=Int)) su
def Rc:aq wc uZ S (a2 B B) bY (enc (X:=Int)) su:=by
 rintro⟨a,b⟩ -;simp[wc,uZ]
abbrev s_r06_CompareRegions:Spc:=ax (a2 Region Region) bY (enc (X:=Int)) su
def Cn(h1:S GO=s_r06_sign)(h2:S yc=s_r06_compare):aq jX jM S (a2 Region Region) bY (enc (X:=Int)) su:=by
 rintro⟨a,b⟩ -;simp[jX,jM,h1,h2,bY,-fB'];intro _ _ _;refine aA (X:=Nat) [2,3] [] (λk=>True) (λk=>[(5,enc (k:Int))]) (λ_=>[]) (λk=>a.kv.length -k) 0 trivial ?_;intro k _;simp[h1,h2,bY,-fB']
 repeat' first|apply And.intro|intro _
 all_goals first|omega|(simp only[InR];omega)|exact⟨k+1,by omega,by omega⟩
abbrev s_r06_Attributes:Spc:=ax (a1 (List Attr)) bY (iA (Y:=Int) (Z:=Int)) su
def JY(h1:S aK=s_r04_ValidName):aq qc oL S (a1 (List Attr)) bY (iA (Y:=Int) (Z:=Int)) su:=by
 rintro l -;simp[qc,oL,h1,bY,-fB'];intro _ _ _ _ _;refine ah (X:=Unit) [0,14] [] (l.length) (λ_ _=>True) (λ_=>[]) (λ_=>[]) () trivial ?_ ?_
 ·intro k _ hk _;obtain⟨x,a⟩:=aR hk;simp[h1,bY,-fB',a,hk];refineλb=>⟨by omega,λ_=>?_⟩
  refine ah (X:=Unit) [0,4,5,14,15,16,28] [5] (min k l.length) (λ_ _=>True) (λ_=>[]) (λ_=>[]) () trivial ?_ ?_
  ·intro j _ d _;obtain⟨y,c⟩:∃y,(l.take k)[j]? =some y:=aR (by grind);simp[c,Cz, -List.map_take];omega
  simp
 simp
abbrev s_r06_Value:Spc:=ax (a2 Attr B) bY (enc (X:=Int)) su
def Yc(h1:S Dr=s_r05_Parse)(h2:S bQ=s_r04_ValidValue):aq Bj Ao S (a2 Attr B) bY (enc (X:=Int)) su:=by
 rintro⟨a,b⟩ -;simp_all [Bj,Ao,bY]
abbrev s_r06_pairs:Spc:=ax (a1 (List Pair)) bY (enc (X:=Int)) su
def Ya(h1:S aK=s_r04_ValidName)(h2:S bQ=s_r04_ValidValue):aq Bg Am S (a1 (List Pair)) bY (enc (X:=Int)) su:=by
 rintro l -;simp[Bg,Am,h1,h2,bY,-fB'];intro _ _ _;refine ah (X:=Unit) [0,9] [] (l.length) (λ_ _=>True) (λ_=>[]) (λ_=>[]) () trivial ?_ ?_
 ·intro k _ hk _;obtain⟨x,a⟩:=aR hk;simp[h1,h2,bY,-fB',a,hk]
  ((repeat' first|apply And.intro|intro _)<;>first|omega|(simp only[InR];omega)|assumption|trivial)
 simp
abbrev s_r06_within:Spc:=ax (a3 Corpus Int Int) bY (enc (X:=Bool)) su
def Uq:aq yo xz S (a3 Corpus Int Int) bY (enc (X:=Bool)) su:=by
 rintro⟨c,x,y⟩ -;simp[yo,xz,-fB'];intro _;refine ah (X:=Unit) [1,2,10] [] (c.texts.length) (λ_ _=>True) (λ_=>[]) (λ_=>[]) () trivial ?_ ?_;simp;simp
abbrev s_r06_bare:Spc:=ax (a2 (List Int) (List B)) (λx=>x.1.length=x.2.length) (enc (X:=Bool)) su
def qbR:aq DK CN S (a2 (List Int) (List B)) (λx=>x.1.length=x.2.length) (enc (X:=Bool)) su:=by
 rintro⟨l,r⟩ hl;have hl:l.length=r.length:=hl;simp[DK,CN,-fB'];intro _;refine ah (X:=Unit) [0,1] [] (l.length) (λ_ _=>True) (λ_=>[]) (λ_=>[]) () trivial ?_ ?_
 ·intro k _ hk _;obtain⟨t,b⟩:=aR hk;obtain⟨u,c⟩:=aR (l:=r) (k:=k) (by omega);have a:k<r.length:=by omega
  simp[b,c,hk,a,-fB']
 simp
abbrev s_r06_TextAt:Spc:=ax (a2 Corpus Int) bY (enc (X:=Int)) su
def Ut:aq yr xF S (a2 Corpus Int) bY (enc (X:=Int)) su:=by
 rintro⟨c,x⟩ -;simp[yr,xF,-fB'];intro _;refine ah (X:=Unit) [1,8] [] (c.texts.length) (λ_ _=>True) (λ_=>[]) (λ_=>[]) () trivial ?_ ?_;simp;simp
abbrev s_r06_FindText:Spc:=ax (a2 Corpus B) bY (enc (X:=Int)) su
def NZ:aq tQ tj S (a2 Corpus B) bY (enc (X:=Int)) su:=by
 rintro⟨c,x⟩ -;simp[tQ,tj,-fB'];intro _;refine ah (X:=Unit) [1,8] [] (c.texts.length) (λ_ _=>True) (λ_=>[]) (λ_=>[]) () trivial ?_ ?_;simp;simp
abbrev s_r06_sameAttributes:Spc:=ax (a2 (List Attr) (List Attr)) bY (enc (X:=Bool)) su
def Cm:aq jW jL S (a2 (List Attr) (List Attr)) bY (enc (X:=Bool)) su:=by
 rintro⟨l,r⟩ -;simp[jW,jL,-fB'];intro _ _ he _;refine ah (X:=Unit) [0,1] [] (l.length) (λ_ _=>True) (λ_=>[]) (λ_=>[]) () trivial ?_ ?_;simp_all;omega;simp
abbrev s_r06_cyclic:Spc:=ax (a2 (List Int) Int) (λx=>0<=x.2/\x.2<x.1.length) (enc (X:=Bool)) su
def Us:aq yq xE S (a2 (List Int) Int) (λx=>0<=x.2/\x.2<x.1.length) (enc (X:=Bool)) su:=by
 rintro⟨l,i⟩ hl;have hl:0<=i/\i<l.length:=hl;simp[yq,xE,-fB'];intro _;refine ah (X:=Int) [0,1] [] l.length (λ_ a=>0<=a/\a<l.length) (λa=>[(5,enc a)]) (λ_=>[]) i hl ?_ ?_
 ·intro k a hk b;simp[-fB'];grind
 simp
abbrev s_r06_tokens:Spc:=ax (a1 Corpus) bY (iA (Y:=Int) (Z:=Int)) su
def Ur(h1:S Do=s_r06_Value):aq yp xD S (a1 Corpus) bY (iA (Y:=Int) (Z:=Int)) su:=by
 rintro c -;simp[yp,xD,h1,bY,-fB'];intro _ _ _;refine ah (X:=Unit) [1,14] [] (c.toks.length) (λ_ _=>True) (λ_=>[]) (λ_=>[]) () trivial ?_ ?_
 ·intro k _ hk _;obtain⟨t,b⟩:=aR hk;simp[b,hk,-fB'];intro d h l p;refine ah (X:=Unit) [1,4,14,15,16,28] [] (c.toks[k].length) (λ_ _=>True) (λ_=>[]) (λ_=>[]) () trivial ?_ ?_
  ·intro j _ q _;have a:j<c.attrs.length:=by omega
   simp[q,a,h1,bY,-fB']
  simp
 simp
abbrev s_r06_texts:Spc:=ax (a1 Corpus) bY (iA (Y:=Int) (Z:=Int)) su
theorem XZ(h1:S aK=s_r04_ValidName)(h2:S wY=s_r06_pairs):aq Bf Al S (a1 Corpus) bY (iA (Y:=Int) (Z:=Int)) su:=by
 rintro c -;simp[Bf,Al,h1,h2,bY,-fB'];intro _ _ _ _ _ _;refine ah (X:=Int) [1,4,26] [] c.texts.length (λ_ _=>True) (λa=>[(5,enc a)]) (λ_=>[]) 0 trivial ?_ ?_
 ·intro k a hk _;obtain⟨t,h⟩:=aR hk;simp[h,hk,h1,bY,-fB'];refineλb=>⟨by omega,λ_=>?_⟩
  refine ah (X:=Unit) [1,4,5,6,7,26,27,28,41] [7] (min k c.texts.length) (λ_ _=>True) (λ_=>[]) (λ_=>[]) () trivial ?_ ?_
  ·intro j _ d _;obtain⟨y,l⟩:∃y,(c.texts.take k)[j]? =some y:=aR (by simpa using d);simp[l,Cz, -List.map_take];simpa using d
  ·intro _ _;simp[h2,bY,-fB']
   ((repeat' first|apply And.intro|intro _)<;>first|omega|(simp only[InR];omega)|assumption|trivial)
 simp
abbrev s_r06_regions:Spc:=ax (a1 Corpus) bY (iA (Y:=Int) (Z:=Int)) su
theorem Rb(h1:S aK=s_r04_ValidName)(h2:S wY=s_r06_pairs)(h3:S uw=s_r06_within)(h4:S gw=s_r06_CompareRegions):aq wb uY S (a1 Corpus) bY (iA (Y:=Int) (Z:=Int)) su:=by
 rintro c -;simp[wb,uY,h1,h2,h3,h4,bY,-fB'];intro _ _ _;refine ah (X:=Unit) [1,15] [] (c.regs.length) (λ_ _=>True) (λ_=>[]) (λ_=>[]) () trivial ?_ ?_ (hlen:=by first|omega|(simp;omega))
 ·intro k _ hk _;obtain⟨t,h⟩:=aR hk;simp[h,hk,h1,h2,h3,h4,bY,-fB'];refineλb=>⟨λh0=>⟨by simp only[InR];omega,by omega,by omega,λa _ y _=>⟨by simp only[InR];omega,by omega,by omega,λ_=>?_⟩⟩,λh0=>⟨by simp only[InR];omega,by omega,by omega,λ_=>?_⟩⟩
  all_goals
   refine ah (X:=Nat) [1,4,5,15,16,17,62] [5] (min (k+1) c.regs.length) (λj d=>d<=j) (λd=>[(7,enc (d:Int))]) (λ_=>[]) 0 (by omega) ?_ ?_
   ·intro j d l p;obtain⟨y,q⟩:∃y,(c.regs.take (k+1))[j]? =some y:=aR (by simpa using l);simp[q,Cz, -List.map_take,-fB']
    repeat' first|apply And.intro|intro _
    all_goals first|omega|(simp only[InR];omega)|exact⟨d,by omega,by omega⟩|exact⟨d+1,by omega,by omega⟩|(simp;omega)|skip
   ·intro d p;simp
 ·intro _ _;simp
def qfB(x:List zM×Corpus):Prop:=∀(j:Nat) (y:zM),x.1[j]? =some y->y.par<j
abbrev s_r06_Nodes:Spc:=ax (a2 (List zM) Corpus) qfB (iA (Y:=Int) (Z:=Int)) su
theorem Ye(h1:S aK=s_r04_ValidName)(h3:S uw=s_r06_within):aq Bl Aq S (a2 (List zM) Corpus) qfB (iA (Y:=Int) (Z:=Int)) su:=by
 rintro⟨l,c⟩ hp;have hp:∀(j:Nat) (y:zM),l[j]? =some y->y.par<j:=hp;simp[Bl,Aq,h1,h3,bY,-fB'];intro _ _ _;refine⟨by omega,by omega,λx _=>?_⟩;refine ah (X:=List Int) [0,3,18] [] l.length (λ_ d=>d.length=l.length/\∀a∈d,0<=a/\a<=40) (λ_=>[(6, .own 17 x)]) (λd=>[(17, .row x bC 1 (d.map enc))]) (List.replicate l.length 0) (by simp) ?_ ?_
 ·rintro k d hk ⟨p,h⟩;obtain⟨t,s⟩:=aR hk;have w:=hp k t s;have q:=qF4.1 s;obtain⟨_,q⟩:=q;simp[s,q,hk,h1,h3,bY,-fB'];refineλb=>⟨by simp only[InR];omega,?_⟩
  refine bh (X:=Int) [0,3,6,7,8,18,19,20] [8,17] (λ_=>True) (λa=>[(9,enc a)]) (λ_=>[]) ?_ ?_
  ·simp;refine aA (X:=Int) [0,3,6,7,8,18,19,20] [8,17] (λa=>a<k) (λa=>[(9,enc a)]) (λ_=>[]) (λa=>(a+1).toNat) ((k:Int) -1) (by omega) ?_;intro a A;simp;intro h0 _;refine⟨h0,by omega,λy C=>?_⟩;have:=hp a.toNat y C;exact⟨y.par,by omega,rfl,by omega⟩
  ·intro a _;refine bh (X:=Unit) [0,3,6,7,8,18,19,20] [8,17] (λ_=>True) (λ_=>[]) (λ_=>[]) ?_ ?_
   ·simp
   ·rintro - -;refine bh (X:=List Int) [0,3,6,7,8,18,19,20] [8] (λd=>d.length=l.length/\∀a∈d,0<=a/\a<=40) (λ_=>[]) (λd=>[(17, .row x bC 1 (d.map enc))]) ?_ ?_
    ·simp;refine⟨λh0=>⟨h0,by omega,λy _ _ _=>⟨h0,by omega,by omega,λa2 r=>⟨by omega,λa3 _=>⟨d.set k a2,⟨by simpa using p,λa4 h4=>?_⟩, .inl (ki d k a2)⟩⟩⟩⟩,λ_=>⟨d,⟨p,h⟩, .inl rfl⟩⟩;rcases qHd h4 with h4|rfl
     ·exact h _ h4
     ·exact h _ (aP r)
    ·rintro d ⟨p,h⟩;refine bh (X:=Unit) [0,3,6,7,18,19,20] [17] (λ_=>True) (λ_=>[]) (λ_=>[]) ?_ ?_
     ·simp;refine⟨by simp only[InR];omega,?_⟩;refine aA (X:=Int) [0,3,6,7,8,18,19,20] [8,17] (λa=>a<k) (λa=>[(11,enc a)]) (λ_=>[]) (λa=>(a+1).toNat) ((k:Int) -1) (by omega) ?_;intro a A;simp;exactλh0=>⟨h0,by omega,λy _=>⟨λ_=>⟨h0,by omega⟩,λ_=>⟨by simp only[InR];omega,a -1,by omega,rfl,by omega⟩⟩⟩
     ·rintro - -;simp;refine⟨by omega,λa2 r=>?_⟩;have h4:=h _ (aP r);refine⟨by simp only[InR];omega,by omega,λ_ _=>⟨by omega,λE h5=>?_⟩⟩;have u:k<d.length:=by omega
      rw[qHi (by simpa using u)]at h5;cases h5;simp;refineλh6=>⟨d.set k (a2+1),⟨by simpa using p,λa4 h4=>?_⟩, .inl (ki d k (a2+1))⟩
      rcases qHd h4 with h4|rfl
      ·exact h _ h4
      ·omega
 ·intro d F;simp
def qfy(c:Corpus):Prop:=True
abbrev s_r06_heads:Spc:=ax (a1 Corpus) qfy (iA (Y:=Int) (Z:=Int)) su
theorem Yb(h1:S aK=s_r04_ValidName)(h3:S GP=s_r06_bare)(h4:S A0=s_r06_TextAt)(h5:S AZ=s_r06_cyclic):aq Bh An S (a1 Corpus) qfy (iA (Y:=Int) (Z:=Int)) su:=by
 rintro c -;simp[Bh,An,h1,h3,h4,h5,bY,-fB'];intro _;refine bh (X:=Unit) [1,4] [] (λ_=>c.heads.length=c.rels.length) (λ_=>[]) (λ_=>[]) ?_ ?_
 ·simp
  ((repeat' first|apply And.intro|intro _)<;>first|omega|(simp only[InR];omega)|assumption|trivial)
 ·rintro -hl;refine bh (X:=Unit) [1,4] [] (λ_=>True) (λ_=>[]) (λ_=>[]) ?_ ?_
  ·simp[h1,h3,h4,h5,bY,hl,-fB']
  ·rintro - -;simp;intro _;refine ah (X:=Unit) [1,4,36] [] (c.heads.length) (λ_ _=>True) (λ_=>[]) (λ_=>[]) () trivial ?_ ?_ (hlen:=by first|omega|(simp;omega))
   ·intro k _ hk _;have a:k<c.rels.length:=by omega
    simp[hk,a];refine bh (X:=Unit) [1,4,5,36,37,38] [] (λ_=>True) (λ_=>[]) (λ_=>[]) ?_ ?_
    ·simp[h1,h3,h4,h5,bY,hk,a,hl,-fB']
    ·rintro - -;refine bh (X:=Unit) [1,4,5,36,37,38] [] (λ_=>True) (λ_=>[]) (λ_=>[]) ?_ ?_
     ·simp[h1,h3,h4,h5,bY,hk,a,hl,-fB']
     ·rintro - -;simp[h1,h3,h4,h5,bY,hk,a,hl,-fB']
   ·intro _ _;simp
def rK(c:Corpus):Prop:=∀(j:Nat) (y:zM),c.nodes[j]? =some y->y.par<j
abbrev s_r06_Validate:Spc:=ax (a1 Corpus) rK (qpT (Y:=Int) (Z:=Int) (W:=Int)) su
def NY(h1:S rb=s_r06_Attributes)(h2:S AY=s_r06_tokens)(h3:S Dm=s_r06_texts)(h4:S yb=s_r06_regions)(h5:S Dq=s_r06_Nodes)(h6:S Dn=s_r06_heads):aq tP ti S (a1 Corpus) rK (qpT (Y:=Int) (Z:=Int) (W:=Int)) su:=by
 rintro c hc;simp[tP,ti,h1,h2,h3,h4,h5,h6,bY,-fB'];exact⟨hc,trivial⟩
abbrev s_r06_Valid:Spc:=ax (a1 Corpus) rK (enc (X:=Bool)) su
def Yd(h1:S vH=s_r06_Validate):aq Bk Ap S (a1 Corpus) rK (enc (X:=Bool)) su:=by
 rintro c hc;simp[Bk,Ap,h1,bY,-fB'];exact hc
theorem qrC{α:Type}(m:List α)(bl x:α)(j:Nat)(a:j<=m.length):(List.take (j+1) (m++ [bl]) ++ (List.take (m.length -j) (List.drop j (List.take (m.length+1) (m++ [bl]))) ++List.drop (j+1+min (m.length+1-j) (m.length-j)) (m++ [bl]))).set j x=m.take j++x::m.drop j:=by
 have h1:List.take (m.length+1) (m++ [bl])=m++ [bl]:=qGR (by simp);have h2:List.drop j (m++ [bl])=m.drop j++ [bl]:=List.drop_append_of_le_length a;have h3:List.take (m.length -j) (m.drop j++ [bl])=m.drop j:=by rw[List.take_left'];simp
 have h4:List.drop (j+1+min (m.length+1-j) (m.length-j)) (m++ [bl])=[]:=List.drop_of_length_le (by simp;omega);rw[h1,h2,h3,h4,qHg];have h5:List.take (j+1) (m++[bl])=m.take j++ [(m++ [bl])[j]'(by simp;omega)]:=by
  rw[List.take_succ_eq_append_getElem (by simp;omega),List.take_append_of_le_length a]
 rw[h5,qG6,List.set_append_right _ _ (by simp;omega)];simp[a]
def qof{α:Type}{m:List α}{bl x:α}{j n:Nat}(hn:m.length=n)(a:j<=n):(List.take (j+1) (m++ [bl]) ++ (List.take (n -j) (List.drop j (List.take (n+1) (m++ [bl]))) ++List.drop (j+1+min (n+1-j) (n-j)) (m++ [bl]))).set j x=m.take j++x::m.drop j:=by
 subst hn;exact qrC m bl x j a
def ql1(l m:List Region):Prop:=m.length=l.length/\∀x∈m,x∈l
def qdJ(l:List Region):Prop:=l.length<=1000000
abbrev s_r06_SortRegions:Spc:=ax (a1 (List Region)) qdJ (enc (X:=List Region)) ql1
theorem Hp(h1:S gw=s_r06_CompareRegions):aq nK nt S (a1 (List Region)) qdJ (enc (X:=List Region)) ql1:=by
 rintro l hl;have hl:l.length<=1000000:=hl;simp[nK,nt,-fB'];intro _;refine ah (X:=Value×List Region) [7] [] l.length (λk x=>x.2.length=k/\∀y∈x.2,y∈l) (λx=>[(3, .own 32 x.1)]) (λx=>[(32, .row x.1 nT 4 (x.2.map enc))]) (.slice none 0 0, []) (by simp) ?_ ?_ (hh:=by simp[isNilRow])
 ·rintro k ⟨v,m⟩ hk ⟨p,c⟩;simp at p c;simp[hk];refineλb _=>?_
  refine bh (X:=Nat) [3,5,7,8,9] [5,32] (λx=>x<=m.length) (λx=>[(6,enc (x:Int))]) (λx=>[]) ?_ ?_
  ·simp;refine aA (X:=Nat) [3,5,7,8,9] [5,32] (λx=>x<=m.length) (λx=>[(6,enc (x:Int))]) (λx=>[]) (λx=>x) m.length (by simp) ?_;intro j q;simp[h1,bY];refine⟨λh0=>⟨by simp only[InR];omega,by omega,by omega,by omega,λa _ y=>⟨λ_=>⟨by simp only[InR];omega,j -1,by omega,by omega,by omega⟩,λ_=>⟨j,q,rfl⟩⟩⟩,λ_=>⟨j,q,rfl⟩⟩
  ·intro j q;simp;have r:D.agg [D.v (Value.string l[k].ty),D.v (Value.int IntKind.i64 l[k].b),D.v (Value.int IntKind.i64 l[k].e),D.list 2 (List.map enc l[k].kv)]=enc l[k]:=by simp
   refine⟨by omega,by omega,λv=>⟨by simp only[InR];omega,by omega,by omega,by omega,by omega,by omega,λd _=>⟨v,m.take j++l[k]::m.drop j,⟨by simp;omega,λy s=>?_⟩,rfl, .inl ⟨rfl,?_⟩⟩⟩⟩
   ·rcases qGi.1 s with h|h
    ·exact c _ (qGq h)
    ·rcases qGm.1 h with rfl|h
     ·exact qHE hk
     ·exact c _ (qGO h)
   ·refine(qof (by simp) q).trans ?_;rw[r,Cz,qla,qHL,qGG]
 ·rintro⟨v,m⟩ ⟨p,c⟩;simp at p c;simp;exact aL m (fq nT (by simp)) ⟨p,c⟩
def kF(s:Int):List uz->Int->Prop
 | [],e=>s=e
 |t::r,e=>t.b=s/\t.b<t.e/\kF t.e r e
def XC(c:Corpus):Prop:=kF 0 c.texts c.toks.length/\c.texts≠ []/\c.toks.length<=4096/\c.texts.length<=64/\c.regs.length<=1024/\c.nodes.length<=2048/\c.attrs.length<=1000/\c.heads.length<=c.toks.length/\c.rels.length<=c.toks.length/\
 (∀x∈c.regs,0<=x.b/\x.b<=c.toks.length/\0<=x.e/\x.e<=c.toks.length)/\(∀x∈c.nodes,0<=x.b/\x.b<=c.toks.length/\0<=x.e/\x.e<=c.toks.length)/\(∀(j:Nat) (y:zM),c.nodes[j]? =some y->y.par<j)/\∀h∈c.heads,h<=c.toks.length
def QP(c:Corpus)(x:List Int×List B):Prop:=(∀h∈x.1,h<=c.toks.length)/\x.1.length<=c.toks.length/\x.2.length<=c.toks.length
abbrev s_r06_allHeads:Spc:=ax (a1 Corpus) XC (iA (Y:=List Int) (Z:=List B)) QP
theorem NX:aq tO th S (a1 Corpus) XC (iA (Y:=List Int) (Z:=List B)) QP:=by
 rintro c hc;obtain⟨c1,c2,c3,c4,w,A,C,q,r,s,t,u,l⟩:=hc;simp[tO,th,-fB'];refineλ_=>⟨λ_=>⟨c.heads, .same _,c.rels, .same _,l,q,r⟩,λ_ _=>⟨by omega,by omega,λv _=>?_⟩⟩
 refine ah (X:=List Int) [1] [] c.toks.length (λk x=>x.length=c.toks.length/\∀(j:Nat) (y:Int),x[j]? =some y->j<k->y= -1) (λx=>[(4, .own 17 v)]) (λx=>[(17, .row v bC 1 (x.map enc))]) (List.replicate c.toks.length 0) (by simp) ?_ ?_
 ·rintro k m hk ⟨h,d⟩;simp;refine⟨by omega,λa _=>⟨m.set k (-1),⟨by simpa using h,λj y b p=>?_⟩, .inl (ki m k (-1))⟩⟩;rw[List.getElem?_set]at b;split at b
  ·split at b
   ·cases b;rfl
   ·cases b
  ·exact d j y b (by omega)
 ·rintro m ⟨h,d⟩;simp;refineλ_=>⟨by omega,by omega,λx=>⟨m,fq bC (by simp),List.replicate c.toks.length ⟨#[]⟩,fq av (by simp),λy b=>?_,by show m.length<=_;omega,by simp⟩⟩
  obtain⟨j,p⟩:=qGp.1 b;have:=d j y p (by have:=(qF4.1 p).1;have E:j<m.length:=this;omega);omega
def dJ(H:ab)(a b:D)(l d:List D):FrzTo H (.agg (a::l)) (.agg (b::d))=(FrzTo H a b/\FrzTo H (.agg l) (.agg d)):=by
 refine propext ⟨λh=>?_,λ⟨h1,h2⟩=>?_⟩
 ·cases h with
  |same=>simp
  |agg hl h=>exact⟨h 0 a b rfl rfl, .agg (by grind) λk c c' h1 h2=>h (k+1) c c' (by grind) (by grind)⟩
 ·have hl:l.length=d.length:=by
   grind [FrzTo]
  refine .agg (by grind) λk c c' j p=>?_
  grind [FrzTo]
def zc:Corpus:=⟨[], [], [], [], [], [], []⟩
def yH{X:Type}(f:X->X)(a b:List X)(j:Nat):List X:=a++ ((b.take j).map f++b.drop j)
def qjY{X:Type}(f:X->X)(a b:List X):yH f a b 0=a++b:=by rfl
def qjX{X:Type}(f:X->X)(a b:List X):yH f a b b.length=a++b.map f:=by simp[yH]
def D9{X:Type}(f:X->X)(a b:List X)(j:Nat):(yH f a b j).length=a.length+b.length:=by grind [yH]
theorem qrn{X:Type}(f:X->X)(a b:List X){j:Nat}{y:X}(c:b[j]? =some y):(yH f a b j)[a.length+j]? =some y:=by
 grind [yH]
theorem qnX{X:Type}(f:X->X)(a b:List X){j:Nat}{y:X}(c:b[j]? =some y):(yH f a b j).set (a.length+j) (f y)=yH f a b (j+1):=by
 have d:=(qF4.1 c).1;have h:b.drop j=y::b.drop (j+1):=by
  grind [List.drop_eq_getElem_cons]
 simp only[yH];rw[List.set_append_right _ _ (by omega),List.set_append_right _ _ (by grind)];have:a.length+j -a.length - (List.map f (List.take j b)).length=0:=by grind
 grind
def Wi{X:Type}(f:X->X)(a b:List X){k:Nat}{y:X}(hk:a.length<=k)(c:b[k -a.length]? =some y):(yH f a b (k -a.length))[k]? =some y:=by
 grind [qrn]
def PG{X:Type}(f:X->X)(a b:List X){k:Nat}{y:X}(hk:a.length<=k)(c:b[k -a.length]? =some y):(yH f a b (k -a.length)).set k (f y)=yH f a b (k+1 -a.length):=by
 grind [qnX]
def TO:∀{l:List uz} {s e:Int},kF s l e->∀t∈l,s<=t.b/\t.b<t.e/\t.e<=e
 | [],s,e,h,t,ht=>by grind
 | x::r,s,e,h,t,ht=>by
   obtain⟨h1,h2,h3⟩:=h;have c:∀{l:List uz} {s e:Int},kF s l e->s<=e:=by
    intro l
    induction l with
    |nil=>intro s e h;have h:s=e:=h;omega
    |cons a l d=>intro s e h;have:=d h.2.2;have:=h.1;have:=h.2.1;omega
   rcases qGm.1 ht with rfl|ht;grind
   ·have:=TO h3 t ht;omega
def qpu(n:Int)(t:uz):uz:=⟨t.nm,t.b+n,t.e+n,t.kv⟩
def TP:∀{l:List uz} {s e:Int} {r:List uz} {n f:Int},kF s l e->kF 0 r f->n=e->kF s (l++r.map (qpu n)) (n+f)
 | [],s,e,r,n,f,h,c,hn=>by
   have h:s=e:=h;subst h;subst hn;have go:∀(r:List uz) (a:Int),kF a r f->kF (a+n) (r.map (qpu n)) (n+f):=by
    intro r
    induction r with
    |nil=>grind [kF]
    |cons x r d=>intro a h;obtain⟨h1,h2,h3⟩:=h;exact⟨by show x.b+n=a+n;omega,by show x.b+n<x.e+n;omega,d _ h3⟩
   grind
 |x::l,s,e,r,n,f,h,c,hn=>⟨h.1,h.2.1,TP h.2.2 c hn⟩
def qqJ(n:Int)(x:Region):Region:=⟨x.ty,x.b+n,x.e+n,x.kv⟩
def qnm(n m:Int)(x:zM):zM:=⟨x.lb,x.b+n,x.e+n,if 0<=x.par then x.par+m else x.par⟩
def ic(a b:Corpus)(c:List Int)(d:List B):Corpus:=⟨a.attrs,a.toks++b.toks,a.texts++b.texts.map (qpu a.toks.length),a.regs++b.regs.map (qqJ a.toks.length),a.nodes++b.nodes.map (qnm a.toks.length a.nodes.length),c,d⟩
theorem qdT{a b:Corpus}{c:List Int}{d:List B}(k:XC a)(hb:XC b)(C:a.toks.length+b.toks.length<=4096)(E:a.texts.length+b.texts.length<=64)(l3:a.regs.length+b.regs.length<=1024)(F:a.nodes.length+b.nodes.length<=2048)
 (h1:c.length<=a.toks.length+b.toks.length) (h2:d.length<=a.toks.length+b.toks.length) (h3:∀h∈c,h<=a.toks.length+b.toks.length):XC (ic a b c d):=by
 obtain⟨a1,a2,a3,a4,I,J,l,K,L,p,q,r,s⟩:=k;obtain⟨b1,b2,M,N,O,Q,U,W,Y,t,u,w,x⟩:=hb;refine⟨?_,?_,?_,?_,?_,?_,l,?_,?_,?_,?_,?_,?_⟩
 ·have:=TP (n:=a.toks.length) a1 b1 rfl;grind [kF,ic]
 simp_all [ic];grind [kF,ic];grind [kF,ic];grind [kF,ic];grind [kF,ic];grind [kF,ic];grind [kF,ic];grind [kF,ic,qqJ];grind [kF,ic,qnm]
 ·intro j y A;simp only[ic]at A;by_cases Z:j<a.nodes.length;grind;grind [kF,qnm]
 grind [kF,ic]
def qbA(x:Corpus×Corpus):Prop:=XC x.1/\XC x.2
def qbx(x:Corpus×Corpus)(z:Corpus×Int):Prop:=z.2=0->XC z.1/\z.1.attrs=x.1.attrs/\z.1.toks=x.1.toks++x.2.toks
abbrev s_r06_Concat:Spc:=ax (a2 Corpus Corpus) qbA (iA (Y:=Corpus) (Z:=Int)) qbx
theorem Uu(h1:S Dp=s_r06_Valid)(h2:S kZ=s_r06_sameAttributes)(h3:S vI=s_r06_FindText)(h4:S vG=s_r06_allHeads):aq yt xG S (a2 Corpus Corpus) qbA (iA (Y:=Corpus) (Z:=Int)) qbx:=by
 rintro⟨a,b⟩ ⟨C,hb⟩;have C:XC a:=C;have hb:XC b:=hb;have va:rK a:=C.2.2.2.2.2.2.2.2.2.2.2.1;have vb:rK b:=hb.2.2.2.2.2.2.2.2.2.2.2.1;simp[yt,xG,h1,h2,va,vb,bY,-fB'];intro r y;refine⟨λ_ y2=>⟨λ_=>?_,λ_ y3=>⟨λ_=>?_,λ_=>?_⟩⟩,λ_=>?_⟩
 case refine_1=>exact⟨zc,by simp[zc,dJ],λh=>by omega⟩
 case refine_2=>exact⟨zc,by simp[zc,dJ],λh=>by omega⟩
 case refine_4=>exact⟨zc,by simp[zc,dJ],λh=>by omega⟩
 refine bh (X:=Unit) [2,3,4] [4] (λ_=>True) (λ_=>[]) (λ_=>[]) ?_ ?_
 ·simp;intro _;refine ah (X:=Unit) [2,3,4,37] [4] (b.texts.length) (λ_ _=>True) (λ_=>[]) (λ_=>[]) () trivial ?_ ?_
  ·intro k _ hk _;simp[hk,h3,bY];intro _ _;exact⟨zc,by simp[zc,dJ],λh=>by simp at h⟩
  ·simp
 rintro - -;simp;intro _ _;refine bh (X:=Unit) [2,3,4,8,9] [4] (λ_=>a.toks.length+b.toks.length<=4096/\a.texts.length+b.texts.length<=64/\a.regs.length+b.regs.length<=1024/\a.nodes.length+b.nodes.length<=2048) (λ_=>[]) (λ_=>[]) ?_ ?_
 ·obtain⟨a1,a2,a3,a4,a5,a6,a7,a8,a9,O,Q,U,W⟩:=C;obtain⟨b1,b2,b3,b4,b5,b6,b7,b8,b9,E,F,I,b13⟩:=hb;simp;intro _;refine⟨by simp only[InR];omega,λ_ _ _=>⟨by simp only[InR];omega,λ_ _ _=>⟨by simp only[InR];omega,λ_ _=>⟨by simp only[InR];omega,λ_=>?_,by omega⟩,λ_=>?_⟩,λ_=>?_⟩,λ_=>?_⟩
  all_goals exact⟨zc,by simp[zc,dJ],λh=>by simp at h⟩
 ·rintro - ⟨l1,l2,l3,l4⟩;have hA:=C;have hB:=hb;obtain⟨a1,a2,a3,a4,a5,a6,a7,a8,a9,O,Q,U,W⟩:=C;obtain⟨b1,b2,b3,b4,b5,b6,b7,b8,b9,E,F,I,b13⟩:=hb;simp;refine⟨by omega,by omega,λv0 bx=>⟨by omega,by omega,by omega,by omega,λv1=>⟨by omega,by omega,by omega,by omega,λL=>?_⟩⟩⟩;refine bh (X:=Unit) [2,3,4,8,9,10] [4,10,93,97] (λ_=>True) (λ_=>[]) (λ_=>[(104, .row L DY 4 ((a.texts++b.texts.map (qpu a.toks.length)).map enc))]) ?_ ?_
  ·simp;intro _;refine aA (X:=Nat) [2,3,4,8,9,10] [4,10,93,97] (λk=>a.texts.length<=k/\k<=a.texts.length+b.texts.length) (λk=>[(11,enc (k:Int))]) (λk=>[(104, .row L DY 4 ((yH (qpu a.toks.length) a.texts b.texts (k -a.texts.length)).map enc))]) (λk=>a.texts.length+b.texts.length -k) a.texts.length (by omega) ?_ (hh:=by simp[qjY]);intro k hk;by_cases j:k<a.texts.length+b.texts.length
   ·obtain⟨t,q⟩:=aR (l:=b.texts) (k:=k -a.texts.length) (by omega);have p:=Wi (qpu a.toks.length) a.texts b.texts hk.1 q;have d:=PG (qpu a.toks.length) a.texts b.texts hk.1 q;have hc:=TO b1 t (aP q);obtain⟨J,s⟩:=qF4.1 p;simp[D9,p,s,j,qHi,List.set_set];refineλ_=>⟨λ_=>⟨by omega,by simp only[InR];omega,by omega,by simp only[InR];omega,by omega,by simp only[InR];omega,k+1,by omega,⟨by omega, .inl ?_⟩,by omega⟩,λh=>by omega⟩
    rw[<-d,<-ki];simp[qpu]
   ·have u:k -a.texts.length=b.texts.length:=by omega
    simp[D9,j,u,qjX];omega
  rintro - -;simp;refine⟨by omega,by omega,by omega,by omega,λM=>?_⟩;refine bh (X:=Unit) [2,3,4,8,9,10] [4,10,93,97,104] (λ_=>True) (λ_=>[]) (λ_=>[(141, .row M nT 4 ((a.regs++b.regs.map (qqJ a.toks.length)).map enc))]) ?_ ?_
  ·simp;intro _;refine aA (X:=Nat) [2,3,4,8,9,10] [4,10,93,97,104] (λk=>a.regs.length<=k/\k<=a.regs.length+b.regs.length) (λk=>[(12,enc (k:Int))]) (λk=>[(141, .row M nT 4 ((yH (qqJ a.toks.length) a.regs b.regs (k -a.regs.length)).map enc))]) (λk=>a.regs.length+b.regs.length -k) a.regs.length (by omega) ?_ (hh:=by simp[qjY]);intro k hk;by_cases j:k<a.regs.length+b.regs.length
   ·obtain⟨t,q⟩:=aR (l:=b.regs) (k:=k -a.regs.length) (by omega);have p:=Wi (qqJ a.toks.length) a.regs b.regs hk.1 q;have d:=PG (qqJ a.toks.length) a.regs b.regs hk.1 q;have hc:=E t (aP q);obtain⟨J,s⟩:=qF4.1 p;simp[D9,p,s,j,qHi,List.set_set];refineλ_=>⟨λ_=>⟨by omega,by simp only[InR];omega,by omega,by simp only[InR];omega,by omega,by simp only[InR];omega,k+1,by omega,⟨by omega, .inl ?_⟩,by omega⟩,λh=>by omega⟩
    rw[<-d,<-ki];simp[qqJ]
   ·have u:k -a.regs.length=b.regs.length:=by omega
    simp[D9,j,u,qjX];omega
  rintro - -;simp;refine⟨by omega,by omega,by omega,by omega,λN=>?_⟩;refine bh (X:=Unit) [2,3,4,8,10] [4,10,93,97,104,141] (λ_=>True) (λ_=>[]) (λ_=>[(178, .row N wJ 4 ((a.nodes++b.nodes.map (qnm a.toks.length a.nodes.length)).map enc))]) ?_ ?_
  ·simp;refine aA (X:=Nat) [2,3,4,8,9,10] [4,10,93,97,104,141] (λk=>a.nodes.length<=k/\k<=a.nodes.length+b.nodes.length) (λk=>[(13,enc (k:Int))]) (λk=>[(178, .row N wJ 4 ((yH (qnm a.toks.length a.nodes.length) a.nodes b.nodes (k -a.nodes.length)).map enc))]) (λk=>a.nodes.length+b.nodes.length -k) a.nodes.length (by omega) ?_ (hh:=by simp[qjY]);intro k hk;by_cases j:k<a.nodes.length+b.nodes.length
   ·obtain⟨t,q⟩:=aR (l:=b.nodes) (k:=k -a.nodes.length) (by omega);have p:=Wi (qnm a.toks.length a.nodes.length) a.nodes b.nodes hk.1 q;have d:=PG (qnm a.toks.length a.nodes.length) a.nodes b.nodes hk.1 q;have hc:=F t (aP q);have hc2:=I _ t q;obtain⟨J,s⟩:=qF4.1 p;simp[D9,p,s,j,qHi,List.set_set];refineλ_=>⟨λ_=>⟨by omega,by simp only[InR];omega,by omega,by simp only[InR];omega,by omega,λhp=>⟨by omega,by simp only[InR];omega,by omega,by simp only[InR];omega,k+1,by omega,⟨by omega, .inl ?_⟩,by omega⟩,λhp=>⟨by simp only[InR];omega,k+1,by omega,⟨by omega, .inl ?_⟩,by omega⟩⟩,λh=>by omega⟩
    ·rw[<-d,<-ki];simp[qnm,hp]
    ·rw[<-d,<-ki];simp[qnm,show ¬(0<=t.par)by omega]
   ·have u:k -a.nodes.length=b.nodes.length:=by omega
    simp[D9,j,u,qjX];omega
  rintro - -;simp[h4,hA,hB];refineλ_ _=>⟨by simp only[InR];omega,λ_=>?_,λ_=>?_⟩
  ·rintro K rl1 ⟨q1,q2,q3⟩ hd2 rl2 ⟨p1,p2,p3⟩;simp only at q1 q2 q3 p1 p2 p3;refine⟨by omega,by omega,λv5=>⟨by omega,by omega,by omega,by omega,λv6 _=>?_⟩⟩;refine Ke (qqd 247 269 10 bx _ [D.own 93 v0,D.own 97 v1,D.own 104 L,D.own 141 M,D.own 178 N,D.own 269 v5,D.own 249 v6] (by decide) (by decide) rfl rfl (λm c c' h h'=>?_)) ?_
   ·rcases m with _|_|_|_|_|_|_|m<;>simp at h h'<;>subst h<;>subst h'<;>simp
   refine ah (X:=Value×List Int) [4,8,10,254] [4,93,97,104,141,178,249] hd2.length (λk x=>x.2.length=K.length+k/\∀h∈x.2,h<=a.toks.length+b.toks.length) (λ_=>[]) (λx=>[(10, .box bx [D.own 93 v0,D.own 97 v1,D.own 104 L,D.own 141 M,D.own 178 N,D.own 269 x.1,D.own 249 v6]),(269, .row x.1 bC 1 (x.2.map enc))]) (v5,K) ⟨rfl,λh hh=>by have:=q1 h hh;omega⟩ ?_ ?_
   ·rintro k ⟨v,l⟩ hk ⟨A,w⟩;simp only at A w;obtain⟨x,hx⟩:=aR hk;have hpx:=p1 x (aP hx);obtain⟨_,hgx⟩:=qF4.1 hx;simp[hk,hx,hgx];refine bh (X:=Int) [4,8,10,254,255,256] [4,10,93,97,104,141,178,249,269] (λy=>y<=a.toks.length+b.toks.length) (λy=>[(19,enc y)]) (λ_=>[]) ?_ ?_
    ·simp;exact⟨λh0=>⟨by simp only[InR];omega,by omega⟩,λh0=>by omega⟩
    ·intro y hy;simp;refine⟨by omega,by omega,λv=>⟨v,l++ [y],⟨by simp;omega,λh hh=>?_⟩, .inl rfl, .inl ⟨rfl,Xk l y⟩⟩⟩;rcases qGi.1 hh with hh|hh
     ·exact w h hh
     ·simp at hh;omega
   ·rintro⟨v,l⟩ ⟨A,w⟩;simp only at A w;simp;refine⟨ic a b l (rl1++rl2),?_,λ_=>⟨qdT hA hB l1 l2 l3 l4 (by omega) (by simp;omega) w,rfl,rfl⟩⟩;simp only[dJ];refine⟨fq (X:=Attr) HQ (by simp[ic]),fq (X:=List B) wK (by simp[ic]),fq (X:=uz) DY (by simp[ic]),fq (X:=Region) nT (by simp[ic]),fq (X:=zM) wJ (by simp[ic]),fq (X:=Int) bC (by simp[ic]),fq (X:=B) av (by simp[ic]), .same _⟩
  ·refine⟨ic a b [] [],?_,λ_=>⟨qdT hA hB l1 l2 l3 l4 (by simp) (by simp) (by simp),rfl,rfl⟩⟩;simp only[dJ];refine⟨fq (X:=Attr) HQ (by simp[ic]),fq (X:=List B) wK (by simp[ic]),fq (X:=uz) DY (by simp[ic]),fq (X:=Region) nT (by simp[ic]),fq (X:=zM) wJ (by simp[ic]), .nil _, .nil _, .same _⟩
def qkA{a b c:Corpus}(d:Sl a)(hb:Sl b)(h:c.attrs=a.attrs/\c.toks=a.toks++b.toks):Sl c:=by
 refine⟨h.1.trans d.1,λr hr=>?_⟩;rw[h.2]at hr;rcases qGi.1 hr with hr|hr
 ·exact d.2 r hr
 ·exact hb.2 r hr
abbrev s_m_Document:Spc:=ax (aT (a2 B Int)) (λx=>1<=x.2.2/\x.2.2<=1000) (enc (X:=Corpus)) (λx c=>XC c/\Sl c/\(c.toks.length:Int)<=x.2.2)
abbrev s_m_Corpus:Spc:=ax (aT (a1 Int)) (λx=>1<=x.2/\x.2<=1000) (enc (X:=Corpus)) (λx c=>XC c/\Sl c/\(c.toks.length:Int)<=3*x.2)
theorem qbW(h1:S bS=s_m_Next)(h2:S pN=s_m_Document)(h3:S A1=s_r06_Concat):aq rG qL S (aT (a1 Int)) (λx=>1<=x.2/\x.2<=1000) (enc (X:=Corpus)) (λx c=>XC c/\Sl c/\(c.toks.length:Int)<=3*x.2):=by
 rintro⟨L,n⟩ hn;have hn:1<=n/\n<=1000:=hn;simp[rG,qL,h1,h2,hn];intro b y l d p b1 k q r;refine aA (X:=Int×Corpus) [0,1,4,5] [4] (λx=>0<=x.1/\x.1<=2/\XC x.2/\Sl x.2/\(x.2.toks.length:Int) +x.1*n<=3*n) (λx=>[(6,enc x.1)]) (λx=>[(5, .box b1 (enc x.2).cells)]) (λx=>x.1.toNat) (k,y) ⟨q,by omega,l,d,by
  have:k=0\/k=1\/k=2:=by omega
  show(y.toks.length:Int) +k*n<=3*n;rcases this with rfl|rfl|rfl<;>omega⟩ ?_
 rintro⟨k,c⟩ ⟨s,t,h,j,u⟩;simp only at s t h j u;simp[h1,h2,h3,hn];refine⟨λhk=>⟨by omega,by omega,?_⟩,λhk=>?_⟩
 ·have:k=1\/k=2:=by omega
  rcases this with rfl|rfl
  all_goals
   simp[hn];refineλy l d p=>⟨⟨h,l⟩,λa e he=>⟨λh0=>⟨by simp[InR],_,a,⟨?_,?_,(he h0).1,qkA j d (he h0).2,by
    have e:=(he h0).2.2;simp only at e;rw[e,qGC];omega⟩,⟨rfl, .inl ⟨rfl,rfl,rfl,rfl,rfl,rfl,rfl⟩⟩,?_⟩,λh0=>⟨by simp[InR],_,c,⟨?_,?_,h,j,by omega⟩,⟨rfl, .inl ⟨rfl,rfl,rfl,rfl,rfl,rfl,rfl⟩⟩,?_⟩⟩⟩
   all_goals omega
 ·have:k=0:=by omega
  subst this;exact aL c (by simp) ⟨h,j,by show(c.toks.length:Int)<=3*n;omega⟩
open Go.Proofs
def OkCorp(c:Corpus):Prop:=c.attrs=att3/\1<=c.toks.length/\c.toks.length<=4096/\∀r∈c.toks,Fh r
def OkCorp.sz{c:Corpus}(h:OkCorp c):qt3 c:=by
 obtain⟨h1,h2,h3,h4⟩:=h;refine⟨by omega,λr a=>?_,by rw[h1];decide⟩;obtain⟨w,t,f,_,_,_,rfl⟩:=h4 r a;simp
def qa2:∀{l:List uz} {s e:Int},kF s l e->s<=e
 | [],s,e,h=>by have h:s=e:=h;omega
 |a::l,s,e,h=>by have:=qa2 h.2.2;have:=h.1;have:=h.2.1;omega
def qrc{c:Corpus}(h:XC c)(hk:Sl c):OkCorp c:=by
 obtain⟨h1,h2,h3,_⟩:=h;refine⟨hk.1,?_,h3,hk.2⟩;cases hl:c.texts with
 |nil=>exact absurd hl h2
 | cons a l=>
   rw[hl]at h1;have:=qa2 h1.2.2;have:=h1.1;have:=h1.2.1;omega
end
end Go.Gv
