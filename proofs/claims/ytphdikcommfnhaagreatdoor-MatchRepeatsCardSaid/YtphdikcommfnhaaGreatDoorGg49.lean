/- A part of the framework and of the walks: V74 C74 W208 Asm28 Fr Fr2 Fr3 V32 Fr4. -/
import Derived.WalkKit
import Derived.ProofKit
import Derived.OpenShut
import Derived.ShutString
import Derived.ChangeOld
import Derived.Below
import Derived.Test.YtphdikcommfnhaaGreatDoorGg48
import Derived.Test.YtphdikcommfnhaaGreatDoorGg20
import Derived.Test.YtphdikcommfnhaaGreatDoorGg39
import Derived.Test.YtphdikcommfnhaaGreatDoorGg21
import Derived.Test.YtphdikcommfnhaaGreatDoorGg19
set_option linter.unusedSimpArgs false
set_option linter.unusedVariables false
set_option linter.unusedSectionVars false
set_option maxRecDepth 100000
set_option maxHeartbeats 0

namespace Go.Gv
open Go.Proofs
def qkO(p r:Pat):Pat:=⟨5,jh,E0,E0,0,0, [p,r]⟩
def Al(p r:Pat):Pat:=⟨4,jh,E0,E0,0,0, [p,r]⟩
def ez(p:Pat):Pat:=⟨6,jh,E0,E0,1, -1, [p]⟩
def oz(p:Pat):Pat:=qkO p (Al p (ez p))
theorem VV(p:Pat):∀out:List B,(∀q∈gO p,q.lab≠E0->q.lab∈out)->aw p out=out:=by
 induction p using kw with|_ p ih=>?_
 intro out h
 have hself:p∈gO p:=by cases p;rw[gO];simp
 have he:lu out p.lab=out:=by
  unfold lu EO
  split
  ·rfl
  ·rename_i hl
   rw[if_pos (h p hself hl)]
 rw[gu,he]
 have hk:∀k∈p.kids,∀q∈gO k,q∈gO p:=fun k hk q hq=>by
  cases p with
  | mk op cond lab reg mn mx ks=>
    rw[gO]
    exact qvs _ (yB hk hq)
 have:∀ks:List Pat,(∀k∈ks,k∈p.kids)->ks.foldl (fun o k=>aw k o) out=out:=by
  intro ks
  induction ks with
  | nil=>intro _;rfl
  | cons k ks ihk=>
    intro hks
    rw[quR,ih k (hks k (by simp)) out fun q hq hl=>h q (hk k (hks k (by simp)) q hq) hl]
    exact ihk fun z hz=>hks z (by simp[hz])
 exact this _ fun _ h=>h
theorem KQ(p:Pat):aw p (aw p [])=aw p []:=VV p _ fun q hq hl=>KP p q hq hl []
theorem qaS(out:List B):lu out E0=out:=by unfold lu;rw[if_pos rfl]
theorem KO(p:Pat)(out:List B):aw (ez p) out=aw p out:=by
 rw[gu,show(ez p).lab=E0 from rfl,qaS];rfl
theorem RK(p:Pat):aw (oz p) []=aw p []:=by
 rw[gu,show(oz p).lab=E0 from rfl,qaS]
 show aw (Al p (ez p)) (aw p [])=_
 rw[gu,show(Al p (ez p)).lab=E0 from rfl,qaS]
 show aw (ez p) (aw p (aw p []))=_
 rw[KO,KQ,KQ]
theorem Fb(p:Pat):aC (ez p)=aC p:=by
 rw[cm,if_neg (show ¬ (ez p).op=1 by show ¬ (6:Int)=1;decide)]
 show aC p++ []=_
 rw[quE]
theorem MG(p:Pat):aC (oz p)=aC p++ (aC p++aC p):=by
 rw[cm,if_neg (show ¬ (oz p).op=1 by show ¬ (5:Int)=1;decide)]
 show aC p++ (aC (Al p (ez p)) ++ [])=_
 rw[quE,cm (Al p (ez p)),if_neg (show ¬ (Al p (ez p)).op=1 by show ¬ (4:Int)=1;decide)]
 show aC p++ (aC p++ (aC (ez p) ++ []))=_
 rw[quE,Fb]
theorem qjU{lb lb':List B}{c:Cond}(h:GA lb c)(hb:Do lb' c=false):GA lb' c:=by
 cases h with
 | val n v f h1 h2=>exact .val n v f h1 h2
 | feat v h=>exact .feat v h
 | same n l a h1 h2 h3=>
   refine .same n l a h1 ?_ h3
   have:kb lb' l=true:=by simpa [Do]using hb
   unfold kb at this
   simpa using this
 | reg n h=>exact .reg n h
 | regk n v h1 h2=>exact .regk n v h1 h2
theorem TH{lb lb':List B} :∀ {n:Nat} {c:Cond},GI lb n c->uw lb' c=false->GI lb' n c
 | _,_, .atom n c h,hb=>by
   rw[Gk,Bool.or_eq_false_iff]at hb
   exact .atom n c (qjU h hb.1)
 | _,_, .not n k h,hb=>by
   rw[Gk,Bool.or_eq_false_iff]at hb
   exact .not n k (TH h (by simpa using hb.2))
 | _,_, .two n op a b ho h1 h2,hb=>by
   rw[Gk,Bool.or_eq_false_iff]at hb
   have:=hb.2
   simp only[List.any_cons,List.any_nil,Bool.or_false,Bool.or_eq_false_iff]at this
   exact .two n op a b ho (TH h1 this.1) (TH h2 this.2)
theorem qjS{lb lb':List B}{n:Nat}{c:Cond}(h:GC lb n c)(hb:uw lb' c=false):GC lb' n c:=by
 cases h with
 | any=>exact .any
 | top v f h=>exact .top v f h
 | inner c h=>exact .inner c (TH h hb)
structure Ln (p:Pat):Prop where
 wp:∃n,n<=5/\WP [Sk] n p
 lv:∀y∈aC p,GC [Sk] 1 y.cond
theorem qpB:qeS [Sk]:=fun l h=>by simp at h;exact .inl h
theorem OY{c:Corpus}{p:Pat}(hc:qeR c)(hp:Ln p):Uz c (qoZ p):=by
 obtain⟨n,hn,hw⟩:=hp.wp
 have hpat:pW bT p=true:=qbw qpB qfj n p hw (by omega)
 obtain⟨_,hs1,hs2⟩:=qbv n p hw hn
 have h3:(3:Int) ^n<=243:=by
  rcases n with _|_|_|_|_|_|n
  all_goals first|decide|omega
 have h2:2^ (n+1)<=64:=by
  rcases n with _|_|_|_|_|_|n
  all_goals first|decide|omega
 have hpn:pY p<=1000000:=by omega
 have hm:∀y∈aw p [],y=Sk:=fun y hy=>by
  rw[qcL n p hw []]at hy
  rcases qdI n p hw [] y hy with h|h
  ·cases h
  ·simpa using h
 have hl1:(aw p []).length<=1:=KH (f:=fun _=>0) (qcK p [] qvp) (fun y _=>Nat.zero_lt_one) fun x hx y hy _=>(hm x hx).trans (hm y hy).symm
 have hl3:(aw p []).length<=3:=by omega
 have he:eC yC p=true/\eC xG p=true:=by
  unfold pW at hpat
  simp only[qtN]at hpat
  exact⟨hpat.1.1.2,hpat.2⟩
 have hN:jv uA p:=qT (In p he.1) fun q h=>(zK q).1 h
 refine⟨⟨rfl,rfl,rfl,hpat,by show jX p<=256;omega,hl3,hpn,by rw[hc.ok.1];decide,fun x hx=>?_⟩,fun hb=>⟨hc.ok.sz,by have:=hc.few;omega,hpat,hl3,hpn,fun t ht=>?_⟩⟩
 ·have hg:=hp.lv x hx
  rw[hc.ok.1]
  exact⟨⟨_,qf0 hg (by omega)⟩,qf5 hg⟩
 ·show jv (qbu (Hm c (aw p []) t)) p
  intro z hz
  refine⟨hN z hz,In p he.2 z hz,fun h=>?_,fun h1 s hs hlt=>?_⟩
  ·have:=KP p z hz h []
   show kb (aw p []) z.lab=true
   unfold kb
   simpa using this
  ·have hlf:=VB p hN z hz h1
   have hb:Nj p=false:=hb
   have hbz:uw (aw p []) z.cond=false:=by
    have:=List.any_eq_false.1 hb z hlf
    simpa using this
   have hg:=qjS (hp.lv z hlf) hbz
   have hen:(Hm c (aw p []) t).en<=c.toks.length:=by show min t.e (c.toks.length:Int)<=_;omega
   exact qjO (E:=⟨(Hm c (aw p []) t).c,s.p,(Hm c (aw p []) t).lb,Nl (Hm c (aw p []) t) s⟩) ⟨hc.ok,hs.1,by show s.p < (c.toks.length:Int);omega,Ul _ s⟩ hg (by decide)
theorem VL{p:Pat}(h:Ln p)(hn:WP [Sk] 2 p):Ln (ez p):=by
 refine⟨⟨3,by decide, .inr (.inr ⟨rfl,rfl,rfl,rfl,by show((1:Int),(-1:Int)) ∈Nr;decide,p,rfl,hn⟩)⟩,fun y hy=>h.lv y (by rwa [Fb]at hy)⟩
theorem qd2{lb:List B} :∀n p,WP lb n p->WP lb (n+1) p:=by
 refine Gl fun n p hp ih=>?_
 rcases xL hp with h|⟨m,rfl,(⟨h1,h2,h3,h4,h5,h6,a,b,h7,_⟩|⟨h1,h2,h3,h4,h5,a,h7,_⟩)⟩
 ·exact qog h
 ·have ha:∀k∈p.kids,WP lb (m+1) k:=fun k hk=>by obtain⟨m',e,_,h⟩:=ih k hk;cases e;exact h
  exact .inr (.inl ⟨h1,h2,h3,h4,h5,h6,a,b,h7,ha a (by rw[h7];simp),ha b (by rw[h7];simp)⟩)
 ·have ha:∀k∈p.kids,WP lb (m+1) k:=fun k hk=>by obtain⟨m',e,_,h⟩:=ih k hk;cases e;exact h
  exact .inr (.inr ⟨h1,h2,h3,h4,h5,a,h7,ha a (by rw[h7];simp)⟩)
theorem RH{p:Pat}(h:Ln p)(hn:WP [Sk] 2 p):Ln (oz p):=by
 have h3:WP [Sk] 3 p:=qd2 _ _ hn
 have h4:WP [Sk] 4 p:=qd2 _ _ h3
 have hp:WP [Sk] 3 (ez p):= .inr (.inr ⟨rfl,rfl,rfl,rfl,by show((1:Int),(-1:Int)) ∈Nr;decide,p,rfl,hn⟩)
 have hs:WP [Sk] 4 (Al p (ez p)):= .inr (.inl ⟨.inl rfl,rfl,rfl,rfl,rfl,rfl,p,ez p,rfl,h3,hp⟩)
 refine⟨⟨5,by decide, .inr (.inl ⟨.inr rfl,rfl,rfl,rfl,rfl,rfl,p,_,rfl,h4,hs⟩)⟩,fun y hy=>h.lv y ?_⟩
 rw[MG]at hy
 simp only[qtK]at hy
 rcases hy with h|h|h <;> exact h
theorem K9(r:Rn)(p:Pat)(s t:St3):jW r (ez p) s t↔jW r (oz p) s t:=by
 have h6:∀s t,jW r (ez p) s t↔ ∃u,jW r p s u/\Star (jW r p) u t:=fun s t=>by
  rw[qaa (k:=p) (ks:=[]) rfl rfl,show(ez p).mn=1 from rfl,show(ez p).mx= -1 from rfl,nN (yJ r p)]
  constructor
  ·rintro⟨u,⟨v,h,e⟩,h2⟩
   have e:v=u:=e
   subst e
   exact⟨v,h,h2⟩
  ·rintro⟨u,h,h2⟩
   exact⟨u,⟨u,h,rfl⟩,h2⟩
 rw[qez (p:=oz p) rfl,show(oz p).kids=[p,Al p (ez p)]from rfl,qW,qW,Df,or_false,qeA (p:=Al p (ez p)) rfl,show(Al p (ez p)).kids=[p,ez p]from rfl,lI,h6 s t]
 constructor
 ·rintro⟨u,h,n,h2⟩
  cases n with
  | zero=>
    have e:u=t:=h2
    subst e
    exact .inl h
  | succ n=>
    obtain⟨v,h3,h4⟩:=h2
    exact .inr ⟨u,h,by rw[lI];exact⟨t,(h6 u t).2 ⟨v,h3,n,h4⟩,by rw[pB]⟩⟩
 ·rintro(h|⟨u,h,h2⟩)
  ·exact⟨t,h, .refl _ _⟩
  ·rw[lI]at h2
   obtain⟨v,h3,h4⟩:=h2
   rw[pB]at h4
   subst h4
   obtain⟨w,h5,n,h7⟩:=(h6 u v).1 h3
   exact⟨u,h,n+1,w,h5,h7⟩
theorem VJ{c:Corpus}{lb:List B}{p:Pat}(m:Match):Sy c lb (ez p) m↔Sy c lb (oz p) m:=by
 unfold Sy
 constructor
 ·rintro⟨h0,h1,t,ht,s,hs,h2⟩
  exact⟨h0,h1,t,ht,s,(K9 _ p _ _).1 hs,h2⟩
 ·rintro⟨h0,h1,t,ht,s,hs,h2⟩
  exact⟨h0,h1,t,ht,s,(K9 _ p _ _).2 hs,h2⟩
end Go.Gv

namespace Go.Gv
open Go.Proofs
def hU:CC:=gq Tryz.f6 [] {} _
def gN:List aj:=[.tmp 4]
theorem xD:am Tryz.prog pA [] hU gN 70:=fo
end Go.Gv

namespace Go.Gv
open Go.Proofs
open Cod (enc dec)
variable {S S0:Nat->Spc}
theorem ZM{c:Corpus}{lb:List B}{p:Pat}{a:List Match}(hl:lb.length<=3)(h:J7 c lb p a):∀m∈a,Bq m:=fun m hm=>by
 obtain⟨_,_,t,_,s,_,_,_,h⟩:=(h.2 m).1 hm
 show(2+m.lbs.length) *8<=_
 rw[h,Ul]
 show(2+lb.length) *8<=_
 omega
abbrev qfH:Spc:=aS (a2 (List Int) (List Int)) (fun _=>True) enc (fun(_:List Int×List Int) (y:Bool)=>y=true)
theorem qfc(h1:S MX=s_m_New)(h2:S qb=s_m_Corpus)(h3:S js=vw 3)(h4:S gz=Ya)(h6:S uc=Kn)(h7:S wl=L2):aq hU gN S (a2 (List Int) (List Int)) (fun _=>True) enc (fun(_:List Int×List Int) (y:Bool)=>y=true):=by
 rintro⟨l,m⟩ -
 simp[hU,gN,h1,h2,h3, -Bool.forall_bool, -Bool.exists_bool]
 have pp:∀L:List Int,Qx 3 (L,2, [Sk]):=fun L=>⟨by show(2:Int).toNat < 3;decide,by show(-10:Int)<=2;decide,by show(2:Int)<=100;decide,by show 1<=1000;decide⟩
 refine fun c hw hk hl b L=>⟨pp L,fun p hp b1 b2=>?_⟩
 have hc:=qju hw hk hl
 have hp2:WP [Sk] 2 p:=hp.1.1
 have hX:Ln p:=⟨⟨2,by decide,hp2⟩,hp.2⟩
 have hP:=VL hX hp2
 have hA:=RH hX hp2
 have q1:aw (ez p) []=aw p []:=KO p []
 have q2:aw (oz p) []=aw p []:=RK p
 have hM:=OY hc hP
 have hl3:(aw p []).length<=3:=by
  have:(aw (ez p) []).length<=3:=hM.v.l3
  rwa [q1]at this
 clear h1 h2 h3 hw hk hl hp pp
 simp[h4, -Bool.forall_bool, -Bool.exists_bool]
 refine⟨hM,fun a e hq=>?_⟩
 have hq:Qu (c,qoZ (ez p)) (a,e):=hq
 refine⟨OY hc hA,fun a2 e2 hq2=>?_⟩
 have hq2:Qu (c,qoZ (oz p)) (a2,e2):=hq2
 clear h4
 rcases hq with⟨_,hq⟩|⟨_,hq⟩
 ·cases hq
  simp[h6, -Bool.forall_bool, -Bool.exists_bool]
 rcases hq2 with⟨_,hq2⟩|⟨_,hq2⟩
 ·cases hq2
  simp[h6, -Bool.forall_bool, -Bool.exists_bool]
 rcases hq with⟨e0,ha,hla⟩|⟨e0,e1,_⟩
 ·rcases hq2 with⟨e0',ha2,hla2⟩|⟨e0',e1',_⟩
  ·simp only at e0 e0' ha ha2
   subst e0;subst e0'
   have ha:J7 c (aw (ez p) []) (ez p) a:=ha
   have ha2:J7 c (aw (oz p) []) (oz p) a2:=ha2
   rw[q1]at ha
   rw[q2]at ha2
   have hft:=ZM hl3 ha
   have hft2:=ZM hl3 ha2
   have he:a=a2:=zH ha.1 ha2.1 fun x=>by rw[ha.2,ha2.2,VJ]
   subst he
   simp[h6,h7, -Bool.forall_bool, -Bool.exists_bool]
   exact hft
  ·simp only at e0'
   subst e0'
   simp[h6, -Bool.forall_bool, -Bool.exists_bool]
 ·simp only at e0
  subst e0
  simp[h6, -Bool.forall_bool, -Bool.exists_bool]
end Go.Gv

namespace Go.Gv
open Go.Proofs Cod
theorem qcM:Tri Tryz.prog eT (Ku).pt:=
 ae (ag (aa tn (aa tq (aa At (aa cV (aa GK (aa jV (aa ko ac)))))))) rI (fun _=>qtF rfl) (AF rfl rfl rfl rfl rfl rfl rfl)
theorem MH:Tri Tryz.prog au (OC).pt:=
 ae (ag (aa qcM ac)) lE (fun _=>qtF rfl) (uE rfl)
theorem Tw:∀n,Tri Tryz.prog bO (Ks n).pt
 | 0=>gl fun x h=>by obtain⟨a,lb,_,⟨L,h⟩,_⟩:=h;cases h
 | n+1=>ae (ag (aa MH (aa (Tw n) ac))) sY (fun _=>qtF rfl) (AC n rfl rfl)
theorem qgd:Tri Tryz.prog bO (Kr).pt:=tz (fun n=>Tw n) (xY (fun x h=>h))
theorem RL:Tri Tryz.prog dB (Tc).pt:=
 ae (ag (aa qD (aa qgd ac))) nz (fun _=>qtF rfl) (xo rfl rfl)
theorem qge:Tri Tryz.prog fy (SR).pt:=
 ae (ag (aa ph (aa lL (aa xT (aa RL (aa dR (aa As (aa vg ac)))))))) sX (fun _=>qtF rfl) (qbC rfl rfl rfl rfl rfl rfl rfl)
theorem VY:Tri Tryz.prog gz (Ya).pt:=
 ae (ag (aa qge (aa Cb ac))) uQ (fun _=>qtF rfl) (qe9 rfl rfl)
theorem N8:Tri Tryz.prog pA (qfH).pt:=
 ae (ag (aa qb2 (aa FC (aa (vh 3) (aa VY (aa Jw (aa IM ac))))))) xD (fun _=>qtF rfl) (qfc rfl rfl rfl rfl rfl rfl)
end Go.Gv

namespace Go.Gv
open Go.ChangeShapes Go.WideShapes Go.ChangeAt Go.RowKit
section
variable {H:Type}{ec:TypeId×Value->H}{P:Program}{w:World}{base:Nat}{spare:Nat->Bool}{held:Bool}{tp I:Nat->Prop}
def OpR(tp I:Nat->Prop)(w:World)(cs:List Value)(d:D):Prop:=cs.length=d.cells.length/\∀ (k:Nat) (y:Value) (c:D),cs[k]? =some y->d.cells[k]? =some c->y.oneCell'=true/\R tp I w y c
theorem OpR.one{y:Value}{d:D}(h:OpR tp I w [y] d)(hd:d.cells=[d]):R tp I w y d:=(h.2 0 y d rfl (by rw[hd];rfl)).2
theorem YJ{t:TypeId}{fuel:Nat}{cs:List Value}{x:DataW H×List MemPlace}(ht:P.underlying t=some (.int .i64))(h:DataW.trod ec P w base spare held fuel t cs=some x):∃n:Int,OpR tp I w cs (Cod.enc n):=by
 obtain⟨n,rfl,_,_⟩:=DataW.trod_int ht h
 refine⟨n,rfl,fun k y c h1 h2=>?_⟩
 cases k with
 | zero=>cases h1;cases h2;exact⟨rfl, .v _ rfl (fun s h=>by cases h)⟩
 | succ k=>simp at h1
theorem OG{Y:Type}[Cod Y]{t e:TypeId}(ht:P.underlying t=some (.slice e))(hc:P.cellsOf e=Cod.wd Y)(h0:0 < Cod.wd Y)
 (hel:∀ (n:Nat) (cs:List Value) (x:DataW H×List MemPlace),DataW.trod ec P w base spare held n e cs=some x->∃y:Y,OpR tp I w cs (Cod.enc y)) (hI:∀b,b < w.heap.size->I b)
 {fuel:Nat} {cs:List Value} {x:DataW H×List MemPlace} (h:DataW.trod ec P w base spare held fuel t cs=some x) (h1w:Cod.wd Y=1:=by rfl):∃l:List Y,OpR tp I w cs (Cod.enc l):=by
 have one:∀ (v:Value) (l:List Y),v.oneCell'=true->R tp I w v (.list (Cod.wd Y) (l.map Cod.enc))->OpR tp I w [v] (Cod.enc l):=fun v l h1 h2=>⟨rfl,fun k y c e1 e2=>by
  cases k with
  | zero=>cases e1;cases e2;exact⟨h1,h2⟩
  | succ k=>simp at e1⟩
 rcases DataW.trod_slice ht h with⟨rfl,_⟩|⟨a,len,cap,elems,rest,n,_,rfl,_,_,hl,hm,hlen,hel',_⟩
 ·exact⟨[],one _ [] rfl (.nolist none 0 _)⟩
 ·by_cases hz:len=0
  ·subst hz
   exact⟨[],one _ [] rfl (.nolist (some a) cap _)⟩
  ·have each:∀i:_root_.Fin len,∃p:List Value×Y,w.cells? base (a.add (i*P.cellsOf e)) (P.cellsOf e)=some p.1/\OpR tp I w p.1 (Cod.enc p.2):=fun i=>by
    have h1:=hel' i i.2
    rw[qtH (by omega)]at h1
    obtain⟨cs',h2,h3⟩:=qtE.1 h1
    obtain⟨y,hy⟩:=hel n cs' _ h3
    exact⟨(cs',y),h2,hy⟩
   obtain⟨g,hg⟩:=qvV each
   obtain⟨b,off,spot⟩:=a
   have cellAt:∀ (i:_root_.Fin len) (j:Nat),j < Cod.wd Y->∃v,(g i).1[j]? =some v/\w.cell? ((Addr.add ⟨b,off,spot⟩ (i*Cod.wd Y)).add j)=some v:=fun i j hj=>by
    have h1:=World.cells?_some (hg i).1
    have h2:=h1.2.2 j (by rw[hc];exact hj)
    have h3:j < (g i).1.length:=by rw[h1.2.1,hc];exact hj
    refine⟨(g i).1[j],qtH h3,?_⟩
    rw[hc]at h2
    rw[h2,qtH h3]
   have hs:spot=none:=by
    obtain⟨v,_,h2⟩:=cellAt ⟨0,by omega⟩ 0 h0
    have:=World.cell?_spot h2
    simpa [Addr.add]using this
   subst hs
   have hadd:∀ (o n:Nat),Addr.add ⟨b,o,none⟩ n=⟨b,o+n,none⟩:=fun o n=>by
    unfold Addr.add
    split
    ·rename_i e;subst e;rfl
    ·rfl
   have cellAt':∀ (i:_root_.Fin len) (j:Nat),j < Cod.wd Y->∃v,(g i).1[j]? =some v/\w.cell? ⟨b,off+ (i*Cod.wd Y+j),none⟩=some v:=fun i j hj=>by
    obtain⟨v,h1,h2⟩:=cellAt i j hj
    refine⟨v,h1,?_⟩
    rw[hadd,hadd]at h2
    rw[<-qu0]
    exact h2
   have hb:b < w.heap.size:=by
    obtain⟨v,_,h2⟩:=cellAt' ⟨0,by omega⟩ 0 h0
    unfold World.cell? at h2
    by_cases hlt:b < w.heap.size
    ·exact hlt
    ·simp only[qu6 (Nat.le_of_not_lt hlt)]at h2
     cases h2
   let es:List Y:=List.ofFn fun i=>(g i).2
   have hesl:es.length=len:=by simp[es]
   have hesi:∀i:_root_.Fin len,(es.map Cod.enc)[(i:Nat)]? =some (Cod.enc (g i).2):=fun i=>by
    rw[qtX]
    have:es[(i:Nat)]? =some (g i).2:=by simp[es]
    rw[this];rfl
   have hw:∀d∈es.map Cod.enc,d.kn=true/\d.cells.length=Cod.wd Y:=fun d hd=>by
    obtain⟨y,_,rfl⟩:=qtU.1 hd
    exact⟨Cod.kn y,Cod.wid y⟩
   have flatAt:∀ (k:Nat) (c:D),(aU (es.map Cod.enc))[k]? =some c->∃v,w.cell? ⟨b,off+k,none⟩=some v/\v.oneCell'=true/\R tp I w v c:=fun k c hk=>by
    have hkl:=(qtG.1 hk).1
    rw[aO (fun d hd=>(hw d hd).2),qux,hesl]at hkl
    have hdm:k=(k/Cod.wd Y) *Cod.wd Y+k % Cod.wd Y:=by have:=quX k (Cod.wd Y);rw[quT]at this;omega
    have hmod:k % Cod.wd Y < Cod.wd Y:=qu4 _ h0
    have hq:k/Cod.wd Y < len:=qvN (by rw[quT];exact hkl)
    have g1:=cS (es:=es.map Cod.enc) (fun d hd=>(hw d hd).2) (i:=k/Cod.wd Y) hmod
    rw[<-hdm,hk,hesi ⟨k/Cod.wd Y,hq⟩]at g1
    simp only[qtY]at g1
    obtain⟨v,h1,h2⟩:=cellAt' ⟨k/Cod.wd Y,hq⟩ (k % Cod.wd Y) hmod
    simp only at h2
    rw[<-hdm]at h2
    exact⟨v,h2,(hg ⟨k/Cod.wd Y,hq⟩).2.2 _ v c h1 g1.symm⟩
   have hR:R tp I w (.slice (some ⟨b,off,none⟩) len cap) (.list (Cod.wd Y) (es.map Cod.enc)):=by
    have hll:(es.map (Cod.enc (X:=Y))).length=len:=by simp[hesl]
    rw[<-hll]
    have rd:∀ (k:Nat) (c:D),(aU (es.map Cod.enc))[k]? =some c->w.cell? ⟨b,off+k,none⟩=some ((w.cell? ⟨b,off+k,none⟩).getD Go.undef):=fun k c hk=>by
     obtain⟨v,h1,_⟩:=flatAt k c hk
     rw[h1];rfl
    refine .list b off cap _ (es.map Cod.enc) (fun k=>(w.cell? ⟨b,off+k,none⟩).getD Go.undef) (hI b hb) (by rw[hll];exact hl) hm (fun h=>absurd h1w h) hw rd (fun k c hk=>?_) (fun k c hk=>?_)
    ·obtain⟨v,h1,h2,_⟩:=flatAt k c hk
     rw[h1];exact h2
    ·obtain⟨v,h1,_,h2⟩:=flatAt k c hk
     rw[h1];exact h2
   exact⟨es,one _ es rfl hR⟩
end
end Go.Gv

namespace Go.Gv
open Go.ChangeShapes Go.WideShapes Go.ChangeAt Go.RowKit
section
variable {H:Type}{ec:TypeId×Value->H}{P:Program}{w:World}{base:Nat}{spare:Nat->Bool}{held:Bool}{tp I:Nat->Prop}
end
abbrev ql2(w:World):Nat->Prop:=aM (fun _=>False) (fun _=>False) bB w
theorem YX{w:World}{b:Nat}(h:b < w.heap.size):ql2 w b:=⟨h,fun h=>h,fun h=>h,fun⟨i,r,h,_⟩=>by simp[bB]at h⟩
end Go.Gv

namespace Go.Gv
open Go.ChangeShapes Go.WideShapes Go.ChangeAt Go.RowKit
section
variable {H:Type}{ec:TypeId×Value->H}{P:Program}{w:World}{base:Nat}{spare:Nat->Bool}{held:Bool}{tp I:Nat->Prop}
end
end Go.Gv

namespace Go.Gv
open Cod (enc dec)
instance:Cod UInt8 where
 wd:=1
 enc n:= .v (.int .u8 n.toNat)
 dec| .v (.int .u8 n)=>if 0<=n/\n<=255 then some (UInt8.ofNat n.toNat)else none|_=>none
 kn _:=rfl
 wid _:=rfl
 dec_enc n:=by
  have:=n.toNat_lt
  simp only
  rw[if_pos (by omega)]
  congr 1
  rw[qwl,UInt8.ofNat_toNat]
 le d x h:=by
  split at h
  ·split at h
   ·rename_i n hn
    cases h
    have e:((UInt8.ofNat n.toNat).toNat:Int)=n:=by
     rw[qvj]
     omega
    show FrzTo bB _ (.v (.int .u8 ((UInt8.ofNat n.toNat).toNat:Int)))
    rw[e]
    exact .same _
   ·cases h
  ·cases h
end Go.Gv

namespace Go.Gv
open Go.ChangeShapes Go.WideShapes Go.ChangeAt Go.RowKit
section
variable {H:Type}{ec:TypeId×Value->H}{P:Program}{w:World}{base:Nat}{spare:Nat->Bool}{held:Bool}{tp I:Nat->Prop}
end
theorem RJ{P:Program}{f:Nat}{X:Type}{A:cM X}{p:X->Prop}{q:X->Bool->Prop}(h:Tri P f (aS A p (Cod.enc (X:=Bool)) q).pt)(hq:∀x y,q x y->y=true){w:World}{vs:List Value}{ds:List D}{x:X}(hp:p x)(hlen:vs.length=ds.length)
 (hR:∀ (k:Nat) (y:Value) (c:D),vs[k]? =some y->ds[k]? =some c->R (fun _=>False) (ql2 w) w y c) (hdec:A.dec ds=some x) (hG:GlW (fun _=>False) (fun _=>False) w):
 Calls P f vs.toArray w fun e w'=>e= .returned (.bool true)/\Below w.heap.size w w':=by
 obtain⟨_,hc⟩:=h (fun _=>False) (fun _=>False) w vs ds bB 0 (fun r H'=>r= .v (.bool true)) (fun b h=>h.elim) ⟨fun b h=>h.elim,hG.mono (fun _ h=>h) (fun b ⟨i,r,h,_⟩=>by simp[bB]at h)⟩
  ⟨fun i j r s b h=>by simp[bB]at h,fun i r b h=>by simp[bB]at h,fun i r h=>by simp[bB]at h⟩ hlen hR
  (by rw[ra,hdec];exact⟨hp,fun y hy=>by rw[hq x y hy];rfl⟩)
 refine hc.mono ?_
 rintro e w' ⟨v,r,H',tp',rfl,hr,_,_,_,hs,_,_,hv⟩
 subst hr
 have hv':=hv.inv_v
 subst hv'
 exact⟨rfl,hs.os,hs.tape,hs.output,hs.size,fun k hk=>hs.same k hk (fun⟨i,r,h,_⟩=>by simp[bB]at h) (fun h=>h)⟩
end Go.Gv
