/- W227 -/
import Derived.Ground.GgzProg
import Derived.Test.YtnffegdacbdhmaaGreatDoorProg
import Derived.ProofKit
import Derived.OpenShut
import Derived.ShutString
import Derived.ChangeOld
import Derived.Test.YtnffegdacbdhmaaGreatDoorGe27
set_option linter.all false
set_option maxRecDepth 100000
open Bool renaming forall_bool → fB', exists_bool → eB'
namespace Go.Gv
open Go.Proofs
open Cod (enc dec)
variable {S S0:Nat->Spc}
end Go.Gv
namespace Go.Proofs
open Go.Shelf
def Tryz.keysA_ren:Go.Shelf.Ren:=⟨λ|7=>35|10=>80|n=>n,λ|23=>67|26=>3|3=>4|28=>95|0=>0|27=>94|33=>143|4=>4|n=>n,λ|n=>n⟩
theorem Tryz.keysA:Go.Proofs.SlLaysZI.n7 Tryz.prog Tryz.keysA_ren:={
 mixed:=by kernel_rfl
 f7:=⟨Tryz.f35.name,by decide,Tryz.func35.trans (congrArg some (by kernel_rfl))⟩
 f10:=⟨Tryz.f80.name,by decide,Tryz.func80.trans (congrArg some (by kernel_rfl))⟩
 t0:=Tryz.underlying0
 a0:=Tryz.isAgg0
 z0:=Tryz.sizeOf0
 v0:=Tryz.zeroValue0
 t4:=Tryz.underlying4
 a4:=Tryz.isAgg4
 z4:=Tryz.sizeOf4
 v4:=Tryz.zeroValue4
 t23:=Tryz.underlying67
 a23:=Tryz.isAgg67
 z23:=Tryz.sizeOf67
 v23:=Tryz.zeroValue67
 t26:=Tryz.underlying3
 a26:=Tryz.isAgg3
 z26:=Tryz.sizeOf3
 v26:=Tryz.zeroValue3
 t27:=Tryz.underlying94
 a27:=Tryz.isAgg94
 z27:=Tryz.sizeOf94
 v27:=Tryz.zeroValue94
 t28:=Tryz.underlying95
 a28:=Tryz.isAgg95
 z28:=Tryz.sizeOf95
 v28:=Tryz.zeroValue95
 t33:=Tryz.underlying143
 a33:=Tryz.isAgg143
 z33:=Tryz.sizeOf143
 v33:=Tryz.zeroValue143 }
def Tryz.sortedA_ren:Go.Shelf.Ren:=⟨λ|6=>34|8=>78|9=>79|11=>145|13=>147|12=>146|23=>211|24=>212|14=>203|15=>204|16=>205|17=>206|18=>207|19=>208|20=>76|21=>209|22=>210|25=>261|26=>262|27=>263|28=>264|29=>265|30=>144|31=>294|n=>n,λ|26=>3|28=>95|24=>22|0=>0|3=>3|37=>141|48=>256|50=>258|4=>4|40=>250|39=>249|45=>90|5=>5|9=>9|51=>294|55=>298|57=>324|58=>127|33=>143|n=>n,λ|n=>n⟩
def Tryz.sortedA:Go.Proofs.SlLaysZI.n6 Tryz.prog Tryz.sortedA_ren:={
 mixed:=by kernel_rfl
 f6:=⟨Tryz.f34.name,by decide,Tryz.func34.trans (congrArg some (by kernel_rfl))⟩
 f8:=⟨Tryz.f78.name,by decide,Tryz.func78.trans (congrArg some (by kernel_rfl))⟩
 f11:=⟨Tryz.f145.name,by decide,Tryz.func145.trans (congrArg some (by kernel_rfl))⟩
 t0:=Tryz.underlying0
 a0:=Tryz.isAgg0
 z0:=Tryz.sizeOf0
 v0:=Tryz.zeroValue0
 t24:=Tryz.underlying22
 a24:=Tryz.isAgg22
 z24:=Tryz.sizeOf22
 v24:=Tryz.zeroValue22
 t26:=Tryz.underlying3
 a26:=Tryz.isAgg3
 z26:=Tryz.sizeOf3
 v26:=Tryz.zeroValue3
 t28:=Tryz.underlying95
 a28:=Tryz.isAgg95
 z28:=Tryz.sizeOf95
 v28:=Tryz.zeroValue95
 i26:=by kernel_rfl }
end Go.Proofs
namespace Go.Gv
section
open Go.Proofs Cod
variable {dq:Prop}
def qfy{P:Program}{f:Nat}{X Y:Type}{A:dP X}{k l:X->Prop}{er:Y->D}{post:X->Y->Prop}(h1:Tri dq P f (aG A k er post).pt)(h2:Tri dq P f (aG A l er post).pt):Tri dq P f (aG A (λx=>k x\/l x) er post).pt:=λO tp w vs ds H d K a b c e g h=>by
 rw[mO]at h;cases j:A.dec ds with
 |none=>rw[j]at h;exact h.elim
 | some x=>
   rw[j]at h;rcases h.1 with hp|hp
   ·exact h1 O tp w vs ds H d K a b c e g (by rw[mO,j];exact⟨hp,h.2⟩)
   ·exact h2 O tp w vs ds H d K a b c e g (by rw[mO,j];exact⟨hp,h.2⟩)
def qhC:TQ dq eB (EV V12):=qfy O0 Kg
def H4:TQ dq kT YE:=
 ac (ag (aa vC ae)) GS (HH rfl)
def yC:∀n,TQ dq bJ (Ir n)
 | 0=>bH λx h=>qsr h
 | n+1=>
   have h1:TQ dq fj (YO Cond (JN [(bJ,Ir n)])):=ac (ag (aa (yC n) ae)) nH (Sc);have h2:TQ dq bI (YP Cond (JN [(bJ,Ir n)])):=ac (ag (aa h1 ae)) kP (Sd rfl)
   ac (ag (aa h2 ae)) IZ (J7 (S0:=(JN [(bJ,Ir n)])) n rfl rfl)
def Lt:TQ dq bJ Yz:=dC (λn=>yC n) (fH (λx h=>h))
def xV:∀n,TQ dq dO (YD n)
 | 0=>bH λx h=>qsr h.1
 |n+1=>ck (ag (aa Lt (aa (xV n) ae))) GR (λ_=>qFJ rfl) (HG n rfl rfl)
def JC:TQ dq dO qdF:=dC (λn=>xV n) (fH (λx h=>h))
def wj:TQ dq js qiK:=
 ac (ag (aa H4 (aa JC (aa mi (aa (pq 21) ae))))) FA (qhw rfl rfl rfl rfl)
def N6:TQ dq xc od:=
 ac (ag (aa kY (aa Cp ae))) MU (NW rfl rfl)
def CQ:TQ dq kA qdy:=
 ac (ag ae) Bt (NZ)
def yK:TQ dq gY qdD:=
 ac (ag (aa CQ ae)) yc (HO rfl)
def MF:TQ dq uM Cv:=
 ac (ag (aa Al (aa N6 (aa yK ae)))) KE (Mt rfl rfl rfl)
def N9:TQ dq xk qiL:=
 ac (ag (aa CL ae)) M1 (qbe rfl)
def Gc:TQ dq oO qil:=
 ac (ag ae) Fq (qqk)
def yb:TQ dq gj qiS:=
 ac (ag (aa N9 (aa Gc ae))) wO (qqC rfl rfl)
def MB:TQ dq jR Cx:=
 ac (ag ae) AC (My)
def Dm:TQ dq qW wo:=
 ac (ag (aa tv (aa wi ae))) MS (Ms rfl rfl)
def XQ:TQ dq sR (qd9 jr):=qhM Tryz.keysA rfl (fu Tryz.func35 (by kernel_rfl) rfl)
def qqW(m:Nat):AnyZI.SortsIn Tryz.prog Tryz.sortedA_ren Go.Fence.wide m:=
 ⟨λblk off cap c W d a b=>callsIn_wide.2 (AnyG.slices_Sort_int Tryz.sortInt blk off cap c W d a b),λp cap W=>callsIn_wide.2 (AnyG.slices_Sort_int_none Tryz.sortInt p cap W)⟩
def MC(a:¬dq):TQ dq vx (US jr):=qbz (fk:=sR) a Tryz.sortedA Tryz.keysA rfl (fu Tryz.func34 (by kernel_rfl) rfl) rfl qqW (enters_of Tryz.func79 (by kernel_rfl) rfl) (enters_of Tryz.func80 (by kernel_rfl) rfl)
def FJ(a:¬dq):TQ dq tK (UX V12):=
 ac (ag (aa qhC (aa MF (aa Dm (aa wj (aa yb (aa MB (aa XQ (aa (MC a) ae))))))))) Pp (Rj rfl rfl rfl rfl rfl rfl rfl rfl)
def Ki:TQ dq sU Yw:=
 ac (ag (aa wj ae)) IX (J6 rfl)
def H3:TQ dq qZ (SC V12):=
 ac (ag (aa qhC (aa Dm (aa Ki ae)))) GN (HD rfl rfl rfl)
def XP:TQ dq El (qds V12):=
 ac (ag (aa H3 (aa Al ae))) VA (Xx rfl rfl)
def N8:TQ dq xi YF:=
 ac (ag (aa XI (aa de ae))) M0 (qht rfl rfl)
def qbr:TQ dq He qiM:=
 ac (ag ae) Y4 (qa5)
def qft(a:¬dq):TQ dq zA Sy:=
 ac (ag (aa qfA (aa (FJ a) (aa XP (aa qbr (aa qbl ae)))))) Pt (qfj rfl rfl rfl rfl rfl qoZ)
end
section
open Go.Proofs
def qE1(r:Rn)(y:Pat)(s t:St3)(i:Int):Prop:=∃a:St3,a.p=i/\s.p<=i/\i<t.p/\i<r.en/\Kj r y a=some true
def SD(r:Rn)(p:Pat):Prop:=∀s t,pM r p s t->t.p -s.p<=10000->∀(d leaf:Int) (x:Span),SrcE p d leaf x->∃y,(aq p)[(x.b -leaf).toNat]? =some y/\leaf<=x.b/\qE1 r y s t (s.p+ (x.e -d))
def qkV{r:Rn}{p:Pat}{s t:St3}(h:pM r p s t):s.p<=t.p:=by
 rcases D8 r p s t h with rfl|h
 ·exact qGI _
 ·omega
def qoE{r:Rn}{ks:List Pat}{s t:St3}(h:zZ r ks s t):s.p<=t.p:=by
 rcases E8 r ks s t h with rfl|h
 ·exact qGI _
 ·omega
theorem Yd{r:Rn} :∀(ks:List Pat),(∀k∈ks,SD r k/\WD r k/\dG (aO k))->∀s t,zZ r ks s t->t.p -s.p<=10000->∀(d leaf:Int) (x:Span),pK ks d leaf x->∃y,(ks.flatMap aq)[(x.b -leaf).toNat]? =some y/\leaf<=x.b/\qE1 r y s t (s.p+ (x.e -d))
 | [],_,s,t,_,_,d,leaf,x,h=>by rw[pK]at h;exact h.elim
 | k::ks,hk,s,t,l,hl,d,leaf,x,h=>by
   rw[pF]at l;obtain⟨u,a,b⟩:=l;have la:=qkV a;have lb:=qoE b;obtain⟨q,A,C⟩:=hk k (by simp);rw[pK]at h;rw[qGk];rcases h with h|⟨E,h⟩
   ·obtain⟨y,c,h0,j,e,h1,h2,h3,h4⟩:=q s u a (by omega) d leaf x h;refine⟨y,?_,h0,j,e,h1,by omega,h3,h4⟩;rw[qGh (qFG.1 c).1];exact c
   ·have w:=A s u a;unfold WB at w;unfold dG at C;have F:u.p=s.p+ (aO k).1:=by omega
    obtain⟨y,c,h0,j,e,h1,h2,h3,h4⟩:=Yd ks (λz hz=>hk z (by simp[hz])) u t b (by omega) _ _ x h;have he:u.p+ (x.e - (d+ (aO k).1))=s.p+ (x.e -d):=by omega
    rw[he]at e h1 h2 h3;refine⟨y,?_,by omega,j,e,by omega,h2,h3,h4⟩;rw[qF9 (by omega)];rw[show(x.b -leaf).toNat - (aq k).length=(x.b - (leaf+ ((aq k).length:Int))).toNat by omega];exact c
theorem qnd{r:Rn}{v:B->Bool}(p:Pat):fy v p=true->SD r p:=by
 induction p using fg with|_ p A=>?_
 intro hp s t j hl d leaf x h;rw[bc];rcases mA (cH hp).1 with⟨ho,_⟩|⟨ho,_⟩|⟨ho,k,ks,hk⟩|⟨ho,k,hk⟩
 ·rw[qfG ho]at h;subst h;obtain⟨h1,h2,h3⟩:=(qet ho s t).1 j;have N:t.p=s.p+1:=by
   have w:=Wq p hp s t j;rw[Xf ho]at w;unfold WB at w;simp only at w;omega
  rw[if_pos ho];exact⟨p,by simp,qGI _,s,by simp,by simp,by simp only;omega,by simp only;omega,h2⟩
 ·exact absurd h (qbJ (by omega) _ _ _)
 ·by_cases h4:p.op=4
  ·rw[qfF h4]at h;rw[if_neg (by omega)];exact Yd p.kids (λz hz=>⟨A z hz (dX hp hz),Wq z (dX hp hz),tu z (dX hp hz)⟩) s t ((qkW h4 s t).1 j) hl d leaf x h
  ·exact absurd h (qbJ (by omega) _ _ _)
 ·rw[qh0 ho hk]at h;obtain⟨i,h0,h1,h2,h3⟩:=h;rw[if_neg (by omega),hk];have l:k∈p.kids:=by rw[hk];simp
  have c:=dX hp l;have wd:WD r k:=Wq k c;rw[qes ho hk]at j;obtain⟨u,a,n,_,b⟩:=j;have O:u.p<=t.p:=by
   have:=JR (λs t q=>wd s t q.1) n u t b;omega
  have hm:p.mn.toNat=i.toNat+ (1+ (p.mn.toNat -i.toNat -1)):=by omega
  rw[hm]at a;obtain⟨v,a1,a2⟩:=Ku a;obtain⟨w,a2,a3⟩:=Ku a2;obtain⟨w',a2,e⟩:=a2;have e:w'=w:=e;subst e;have C:=JR wd _ s v a1;have Q:=JR wd _ w' u a3;have S:=qkV a2;have ok:=tu k c;unfold dG at ok;rw[Int.toNat_of_nonneg h0]at C;have U:v.p=s.p+i* (aO k).1:=by
   rcases h2 with rfl|h2
   ·have a1:s=v:=a1;subst a1;simp
   ·rw[<-h2]at C;rw[Int.mul_comm i];omega
  obtain⟨y,E,I,J,e,K,L,F,M⟩:=A k l c v w' a2 (by omega) _ _ x h3;have he:v.p+ (x.e - (d+i* (aO k).1))=s.p+ (x.e -d):=by omega
  rw[he]at e K L F;refine⟨y,?_,I,J,e,by omega,by omega,F,M⟩;rw[qGk];rw[qGh (qFG.1 E).1];exact E
def qjG{c:Corpus}{x:Cond}{i:Int}{n:Nat}(h:∃k:Nat,k<n/\i=k/\nJ ⟨c,k, [], []⟩ 21 (iQ x)=some true):i∈Ry c x n:=by
 obtain⟨k,hk,rfl,a⟩:=h;exact qFQ.2 ⟨k,qGF.2 ⟨qGV.2 hk,by rw[a];rfl⟩,rfl⟩
theorem qjJ{n:Nat}{c:Corpus}{q:Qry}(hc:TR c)(l:GQ n q)(hn:n<=5){m:cb}(h:qhb c (aZ q.pat []) q.pat m){x:Span}(w:SrcE q.pat 0 0 x):
 ∃t y,qhI c m.b=some t/\(aq q.pat)[x.b.toNat]? =some y/\0<=x.b/\0<=x.e/\m.b+x.e<t.e/\m.b+x.e<c.toks.length/\m.b+x.e∈If c y.cond:=by
 obtain⟨lb,hl,K⟩:=l.lab;have d:fy aB q.pat=true:=qc7 hl qhz n q.pat K (by omega);obtain⟨k,L⟩:=qeg l;obtain⟨h0,h1,t,A,s,hs,h2,_,_⟩:=h;have a:(Kt c (aZ q.pat []) t).en=min t.e c.toks.length:=rfl;have M:=List.find?_some A;simp only[qFO,decide_eq_true_eq]at M;have r:qaY (Kt c (aZ q.pat []) t).en (qfB m.b):=⟨h0,by show m.b<=_;rw[a];omega,λi=>by
  have:0<=(Kt c (aZ q.pat []) t).en:=by rw[a];omega
  rcases i with _|_|i<;>exact⟨qGI 0,this⟩⟩
 have hk:=(BI _ _ _ _ hs r).2.1;rw[a]at hk;have C:=hc.few;have E:(qfB m.b).p=m.b:=rfl;have N:=UR q.pat d 0 0 x w;obtain⟨y,F,hb,j,es,O,I,u,Q⟩:=qnd q.pat d _ _ hs (by rw[E];omega) 0 0 x w;rw[E]at es O I u;rw[a]at u;rw[show m.b+ (x.e -0)=m.b+x.e by omega]at es I u;refine⟨t,y,A,by simpa using F,hb,N.2.2.1,by omega,by omega,?_⟩;have J:=l.cond y (qFK F);rw[<-k]at J;have S:JM ⟨c,j.p,aZ q.pat [],WE (Kt c (aZ q.pat []) t) j⟩:=⟨hc.ok,by show 0<=j.p;omega,by show j.p<c.toks.length;omega,qeM _ j⟩
 have U:=qoh S J (by decide) Q;refine qjG ⟨j.p.toNat,by omega,by omega,?_⟩;rw[Int.toNat_of_nonneg (by omega)];exact U
open Cod (enc dec)
variable {S S0:Nat->Spc}
theorem TJ{a b:Int}{t:xX} :∀{l:List xX} {s e:Int},ER s l e->l.find? (λt=>decide (t.b<=a) && decide (a<t.e))=some t->a<=b->b<t.e->fe l (Zw a)=fe l (Zw b)
 | [],_,_,_,h,_,_=>by cases h
 | u::l,s,e,hc,h,c,hb=>by
   rw[List.find?_cons]at h;rw[fe,fe];by_cases d:u.b<=a/\a<u.e
   ·rw[show(decide (u.b<=a) && decide (a<u.e))=true by simp[d]]at h;cases h;rw[if_pos (by simp[Zw];omega),if_pos (by simp[Zw];omega)]
   ·rw[show(decide (u.b<=a) && decide (a<u.e))=false by simp;omega]at h;have h2:=List.find?_some h;simp only[qFO,decide_eq_true_eq]at h2;have h3:=(Lh hc.2.2 _ (List.mem_of_find?_eq_some h)).1;have h4:=hc.2.1;have j:Zw a u=false:=by simp only[Zw,decide_eq_false_iff_not];omega
    have k:Zw b u=false:=by simp only[Zw,decide_eq_false_iff_not];omega
    rw[j,k,TJ hc.2.2 h c hb]
def qBm{n:Nat}{c:Corpus}{q:Qry}(p:qaI c)(hc:TR c)(r:GQ n q)(hn:n<=5){F s:List Span}(u:SrcsOf q.pat F)(d:qc2 F s){m:cb}(h:qhb c (aZ q.pat []) q.pat m):m.b∈qlx c q s:=by
 obtain⟨h0,h1,t,j,w⟩:=id h;have A:=List.find?_some j;simp only[qFO,decide_eq_true_eq]at A;have hlen:m.b<c.toks.length:=by
  obtain⟨K,hs,h2,_,_⟩:=w;omega
 refine qGF.2 ⟨PE.2 ⟨h0,hlen⟩,qFN.2 λx C=>?_⟩;obtain⟨k,hk⟩:=List.getElem?_of_mem C;obtain⟨t',y,a,E,L,M,I,N,J⟩:=qjJ hc r hn h ((u.2 x).1 (d k x hk).1);rw[j]at a;cases a;have l:Zt q x.b=y.cond:=by unfold Zt;rw[E];rfl
 unfold YV;rw[l];simp only[qFO,decide_eq_true_eq];exact⟨J,TJ p.1 j (by omega) I⟩
theorem Uw(h1:S Wf=s_m_New)(h2:S uQ=s_m_Corpus)(h3:S xg=OJ)(h4:S tK=UX V12)(h5:S xi=YF)(h6:S zA=Sy)(h7:S uO=qiv WK):
 ak nt mU S (a3 (List Int) (List Int) (List Int)) (λ_=>True) (enc (X:=Bool)) λ_ y=>y=true:=by
 rintro⟨l,m,n⟩ -;simp[nt,mU,h1,h2,h3,-fB',-eB'];refineλc C hk hl L q t b1 b2=>?_
 have hc:TR c:=⟨qrr C hk,by omega⟩
 have hM:qaT WK c q:=Zl hc t (by show 3<=5;decide);have Q:yI V12 c q:=qaB hc t (by show 3<=5;decide);have E:=(QD hc t (by show 3<=5;decide)).2;have I:∀L,qme (L,q):=λ_=>⟨Q.fx,E⟩
 have U:=hc.few;clear h1 h2 h3 hk hl;simp[h4,h5,I,-fB',-eB'];intro s hs;have J:qeY V12 (c,q,s):=⟨Q,by show s.length<=100000;omega⟩
 refine⟨J,λa e r=>?_⟩;obtain⟨F,W,r⟩:=r;rcases r with⟨h,u⟩|⟨h,_⟩
 rotate_left
 ·cases h;simp[h6,-fB',-eB']
 have K:a=qlx c q s:=congrArg (·.1) h;obtain rfl:e=0:=congrArg (·.2) h;have Y:a.length<=c.toks.length:=by rw[K];exact qGl (List.length_filter_le _ _) (by rw[qiY];exact qFM _)
 have d:=λm h=>qBm (m:=m) C hc t (by show 3<=5;decide) W u h
 rw[<-K]at d;clear h K u W C t;simp[h7,hM,-fB',-eB'];intro x f r;have w:(∀m∈x,m.b∈a)/\x.length<=4096/\(f=0\/f=2):=by
  rcases r with⟨A,w,hl⟩|⟨A,Z,_⟩
  ·exact⟨λm hm=>d m ((w.2 m).1 hm),hl, .inl A⟩
  ·simp only at A Z;subst A;subst Z;exact⟨by simp,by simp, .inr rfl⟩
 clear r d;obtain⟨w,hxl,hf⟩:=w;intro v hal;refine ah (X:=List Int) [12,13,14,50] [] a.length (λk ks=>∀i,i∈ks↔i∈a.take k) (λ_=>[]) (λks=>[(49, .mrow v (aW ks))]) [] (by simp) ?_ ?_ (hh:=by simp;exact .inl rfl)
 ·rintro k ks hk p;obtain⟨i,hi⟩:=eK hk;obtain⟨_,M⟩:=qFG.1 hi;simp[hk,hi,M,-fB',-eB'];exact Uy (X:=Int) Jf rfl ⟨ye i ks,λj=>by rw[fU,p,av hi];simp[or_comm], .inl rfl⟩
 rintro ks p;rw[qFY]at p;simp[-fB',-eB'];intro hxl2;refine ah (X:=Unit) [13,14,59] [49] x.length (λ_ _=>True) (λ_=>[]) (λ_=>[]) () trivial ?_ ?_
 ·rintro k -hk -;obtain⟨m,hm⟩:=eK hk;obtain⟨_,N⟩:=qFG.1 hm;have O:m.b∈ks:=(p _).2 (w m (qFK hm));simp[hk,hm,N,O,-fB',-eB']
 ·rintro - -;rcases hf with rfl|rfl<;>simp[h6,-fB',-eB']
end
section
open Go.Proofs Cod
variable {dq:Prop}
def X5(a:¬dq):TQ dq xj quu:=
 ac (ag (aa qnb (aa MI (aa N7 (aa (FJ a) (aa N8 (aa (qft a) (aa qfS ae)))))))) Fw (Uw rfl rfl rfl rfl rfl rfl rfl)
end
section
open Go.ChangeShapes Go.WideShapes Go.ChangeAt Go.RowKit
section
variable {H:Type}{ec:TypeId×Value->H}{P:Program}{w:World}{base:Nat}{spare:Nat->Bool}{held:Bool}{tp I:Nat->Prop}
def OpR(tp I:Nat->Prop)(w:World)(cs:List Value)(d:D):Prop:=cs.length=d.cells.length/\∀(k:Nat) (y:Value) (c:D),cs[k]? =some y->d.cells[k]? =some c->y.oneCell'=true/\R tp I w y c
theorem OpR.one{y:Value}{d:D}(h:OpR tp I w [y] d)(a:d.cells=[d]):R tp I w y d:=(h.2 0 y d rfl (by rw[a];rfl)).2
def qb7{t:TypeId}{fuel:Nat}{cs:List Value}{x:DataW H×List MemPlace}(a:P.underlying t=some (.int .i64))(h:DataW.trod ec P w base spare held fuel t cs=some x):∃n:Int,OpR tp I w cs (Cod.enc n):=by
 obtain⟨n,rfl,_,_⟩:=DataW.trod_int a h;refine⟨n,rfl,λk y c h1 h2=>?_⟩;cases k with
 |zero=>cases h1;cases h2;exact⟨rfl, .v _ rfl (λs h=>by cases h)⟩
 |succ k=>simp at h1
theorem O7{Y:Type}[Cod Y]{t e:TypeId}(ht:P.underlying t=some (.slice e))(hc:P.cellsOf e=Cod.wd Y)(h0:0<Cod.wd Y)
 (O:∀(n:Nat) (cs:List Value) (x:DataW H×List MemPlace),DataW.trod ec P w base spare held n e cs=some x->∃y:Y,OpR tp I w cs (Cod.enc y)) (hI:∀b,b<w.heap.size->I b)
 {fuel:Nat} {cs:List Value} {x:DataW H×List MemPlace} (h:DataW.trod ec P w base spare held fuel t cs=some x) (Q:Cod.wd Y=1:=by rfl):∃l:List Y,OpR tp I w cs (Cod.enc l):=by
 have one:∀(v:Value) (l:List Y),v.oneCell'=true->R tp I w v (.list (Cod.wd Y) (l.map Cod.enc))->OpR tp I w [v] (Cod.enc l):=λv l h1 h2=>⟨rfl,λk y c e1 e2=>by
  cases k with
  |zero=>cases e1;cases e2;exact⟨h1,h2⟩
  |succ k=>simp at e1⟩
 rcases DataW.trod_slice ht h with⟨rfl,_⟩|⟨a,len,cap,S,rest,n,_,rfl,_,_,hl,hm,hlen,C,_⟩
 ·exact⟨[],one _ [] rfl (.nolist none 0 _)⟩
 ·by_cases hz:len=0
  ·subst hz;exact⟨[],one _ [] rfl (.nolist (some a) cap _)⟩
  ·have each:∀i:_root_.Fin len,∃p:List Value×Y,w.cells? base (a.add (i*P.cellsOf e)) (P.cellsOf e)=some p.1/\OpR tp I w p.1 (Cod.enc p.2):=λi=>by
    have h1:=C i i.2;rw[qFH (by omega)]at h1;obtain⟨cs',h2,h3⟩:=qFF.1 h1;obtain⟨y,hy⟩:=O n cs' _ h3;exact⟨(cs',y),h2,hy⟩
   obtain⟨g,hg⟩:=qH3 each;obtain⟨b,off,spot⟩:=a;have cellAt:∀(i:_root_.Fin len) (j:Nat),j<Cod.wd Y->∃v,(g i).1[j]? =some v/\w.cell? ((Addr.add ⟨b,off,spot⟩ (i*Cod.wd Y)).add j)=some v:=λi j N=>by
    have h1:=World.cells?_some (hg i).1;have h2:=h1.2.2 j (by rw[hc];exact N);have h3:j<(g i).1.length:=by rw[h1.2.1,hc];exact N
    refine⟨(g i).1[j],qFH h3,?_⟩;rw[hc]at h2;rw[h2,qFH h3]
   have hs:spot=none:=by
    obtain⟨v,_,h2⟩:=cellAt ⟨0,by omega⟩ 0 h0;have:=World.cell?_spot h2;simpa [Addr.add]using this
   subst hs;have s:∀(o n:Nat),Addr.add ⟨b,o,none⟩ n=⟨b,o+n,none⟩:=λo n=>by
    unfold Addr.add;split
    ·rename_i e;subst e;rfl
    ·rfl
   have r:∀(i:_root_.Fin len) (j:Nat),j<Cod.wd Y->∃v,(g i).1[j]? =some v/\w.cell? ⟨b,off+ (i*Cod.wd Y+j),none⟩=some v:=λi j N=>by
    obtain⟨v,h1,h2⟩:=cellAt i j N;refine⟨v,h1,?_⟩;rw[s,s]at h2;rw[<-qHW];exact h2
   have hb:b<w.heap.size:=by
    obtain⟨v,_,h2⟩:=r ⟨0,by omega⟩ 0 h0;unfold World.cell? at h2;by_cases E:b<w.heap.size
    ·exact E
    ·simp only[qGN (Nat.le_of_not_lt E)]at h2;cases h2
   let es:List Y:=List.ofFn λi=>(g i).2
   have u:es.length=len:=by simp[es]
   have F:∀i:_root_.Fin len,(es.map Cod.enc)[(i:Nat)]? =some (Cod.enc (g i).2):=λi=>by
    rw[qFU];have:es[(i:Nat)]? =some (g i).2:=by simp[es]
    rw[this];rfl
   have U:∀d∈es.map Cod.enc,d.kn=true/\d.cells.length=Cod.wd Y:=λd J=>by
    obtain⟨y,_,rfl⟩:=qFQ.1 J;exact⟨Cod.kn y,Cod.wid y⟩
   have q:∀(k:Nat) (c:D),(bp (es.map Cod.enc))[k]? =some c->∃v,w.cell? ⟨b,off+k,none⟩=some v/\v.oneCell'=true/\R tp I w v c:=λk c hk=>by
    have K:=(qFG.1 hk).1;rw[bh (λd J=>(U d J).2),qGq,u]at K;have L:k=(k/Cod.wd Y) *Cod.wd Y+k % Cod.wd Y:=by have:=qG1 k (Cod.wd Y);rw[qHB]at this;omega
    have A:k % Cod.wd Y<Cod.wd Y:=qG8 _ h0;have W:k/Cod.wd Y<len:=qHQ (by rw[qHB];exact K);have Z:=dY (es:=es.map Cod.enc) (λd J=>(U d J).2) (i:=k/Cod.wd Y) A;rw[<-L,hk,F ⟨k/Cod.wd Y,W⟩]at Z;simp only[qF1]at Z;obtain⟨v,h1,h2⟩:=r ⟨k/Cod.wd Y,W⟩ (k % Cod.wd Y) A;simp only at h2;rw[<-L]at h2;exact⟨v,h2,(hg ⟨k/Cod.wd Y,W⟩).2.2 _ v c h1 Z.symm⟩
   have hR:R tp I w (.slice (some ⟨b,off,none⟩) len cap) (.list (Cod.wd Y) (es.map Cod.enc)):=by
    have M:(es.map (Cod.enc (X:=Y))).length=len:=by simp[u]
    rw[<-M];have rd:∀(k:Nat) (c:D),(bp (es.map Cod.enc))[k]? =some c->w.cell? ⟨b,off+k,none⟩=some ((w.cell? ⟨b,off+k,none⟩).getD Go.undef):=λk c hk=>by
     obtain⟨v,h1,_⟩:=q k c hk;rw[h1];rfl
    refine .list b off cap _ (es.map Cod.enc) (λk=>(w.cell? ⟨b,off+k,none⟩).getD Go.undef) (hI b hb) (by rw[M];exact hl) hm (λh=>absurd Q h) U rd (λk c hk=>?_) (λk c hk=>?_)
    ·obtain⟨v,h1,h2,_⟩:=q k c hk;rw[h1];exact h2
    ·obtain⟨v,h1,_,h2⟩:=q k c hk;rw[h1];exact h2
   exact⟨es,one _ es rfl hR⟩
end
variable {dq:Prop}
section
variable {H:Type}{ec:TypeId×Value->H}{P:Program}{w:World}{base:Nat}{spare:Nat->Bool}{held:Bool}{tp I:Nat->Prop}
end
abbrev quR(w:World):Nat->Prop:=aR (λ_=>False) (λ_=>False) bS w
def qcb{w:World}{b:Nat}(h:b<w.heap.size):quR w b:=⟨h,λh=>h,λh=>h,λ⟨i,r,h,_⟩=>by simp[bS]at h⟩
end
section
open Go.ChangeShapes Go.WideShapes Go.ChangeAt Go.RowKit
section
variable {H:Type}{ec:TypeId×Value->H}{P:Program}{w:World}{base:Nat}{spare:Nat->Bool}{held:Bool}{tp I:Nat->Prop}
end
open Cod (enc dec)
instance:Cod UInt8 where
 wd:=1
 enc n:= .v (.int .u8 n.toNat)
 dec| .v (.int .u8 n)=>if 0<=n/\n<=255 then some (UInt8.ofNat n.toNat)else none|_=>none
 kn _:=rfl
 wid _:=rfl
 dec_enc n:=by
  have:=n.toNat_lt;simp only;rw[if_pos (by omega)];congr 1;rw[qHZ,UInt8.ofNat_toNat]
 le d x h:=by
  split at h
  ·split at h
   ·rename_i n hn;cases h;have e:((UInt8.ofNat n.toNat).toNat:Int)=n:=by
     rw[qHm];omega
    show FrzTo bS _ (.v (.int .u8 ((UInt8.ofNat n.toNat).toNat:Int)));rw[e];exact .same _
   ·cases h
  ·cases h
variable {dq:Prop}
section
variable {H:Type}{ec:TypeId×Value->H}{P:Program}{w:World}{base:Nat}{spare:Nat->Bool}{held:Bool}{tp I:Nat->Prop}
end
theorem qck{P:Program}{f:Nat}{X:Type}{A:dP X}{p:X->Prop}{q:X->Bool->Prop}(h:Tri dq P f (aG A p (Cod.enc (X:=Bool)) q).pt)(l:∀x y,q x y->y=true){w:World}{vs:List Value}{ds:List D}{x:X}(hp:p x)(hlen:vs.length=ds.length)
 (t:∀(k:Nat) (y:Value) (c:D),vs[k]? =some y->ds[k]? =some c->R (λ_=>False) (quR w) w y c) (a:A.dec ds=some x) (u:GlW (λ_=>False) (λ_=>False) w):
 Calls P f vs.toArray w λe w'=>e= .returned (.bool true)/\Below w.heap.size w w':=by
 obtain⟨_,hc⟩:=h (λ_=>False) (λ_=>False) w vs ds bS 0 (λr H'=>r= .v (.bool true)) (λb h=>h.elim) ⟨λb h=>h.elim,u.mono (λ_ h=>h) (λb ⟨i,r,h,_⟩=>by simp[bS]at h)⟩
  ⟨λi j r s b h=>by simp[bS]at h,λi r b h=>by simp[bS]at h,λi r h=>by simp[bS]at h⟩ hlen t
  (by rw[mO,a];exact⟨hp,λy C=>by rw[l x y C];rfl⟩)
 refine hc.mono ?_;rintro e w' ⟨v,r,H',E,rfl,F,_,_,_,hs,_,_,J⟩;subst F;have d:=J.inv_v;subst d;exact⟨rfl,hs.os,hs.tape,hs.output,hs.size,λk hk=>hs.same k hk (λ⟨i,r,h,_⟩=>by simp[bS]at h) (λh=>h)⟩
end
end Go.Gv
