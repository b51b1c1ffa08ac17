/- A part of the framework and of the walks: T45 Asm24 C4. -/
import Derived.Test.YtphdikcommfnhaaGreatDoorGd40
import Derived.Test.YtphdikcommfnhaaGreatDoorGd41
import Derived.Test.YtphdikcommfnhaaGreatDoorGd28
import Derived.Test.YtphdikcommfnhaaGreatDoorGd32
import Derived.Test.YtphdikcommfnhaaGreatDoorGd30
import Derived.Test.YtphdikcommfnhaaGreatDoorGd36
import Derived.Test.YtphdikcommfnhaaGreatDoorGd37
import Derived.Test.YtphdikcommfnhaaGreatDoorGd47
import Derived.Test.YtphdikcommfnhaaGreatDoorGd45
import Derived.Test.YtphdikcommfnhaaGreatDoorGd20
set_option linter.unusedSimpArgs false
set_option linter.unusedVariables false
set_option linter.unusedSectionVars false
set_option maxRecDepth 100000
set_option maxHeartbeats 0

namespace Go.Gv
open Cod (enc dec)
theorem qag{ds:List D}(h:∀d∈ds,Rm d):Rm (.agg ds):=fun tp I tp' I' w w' x hr=>by
 cases hr with
 | agg xs _ hl h1' hk=>exact .agg xs _ hl h1' fun k y c h1 h2=>h c (qtY h2) _ _ _ _ _ _ _ (hk k y c h1 h2)
section
variable {X Y:Type}[Cod Y]
theorem OY{P:Program}{f:Nat}{A:df X}{pre:D×X->Prop}{post:D×X->List Y->Prop}{el n:Nat}(hn:n=Cod.wd Y)(hf:Tri P f (qkc (Y:=Y) (aD A) pre post el n).pt)(hflat:∀y:Y,∀c∈ (enc y).cells,Rm c):Tri P f (qeX A pre (enc (X:=List Y)) post).pt:=by
 intro O tp w vs ds H d K hO htl hsat hlen hargs hA
 obtain⟨id,bk,cells,ds',x,rfl,hd,hid,hp,hK⟩:=hA
 cases vs with
 | nil=>simp at hlen
 | cons v0 vs=>
   have hv0:v0= .pointer (some ⟨bk,0,none⟩):=by
    have:=hargs 0 v0 (.bptr id bk 0) rfl rfl
    cases this;rfl
   subst hv0
   let O':Nat->Prop:=fun b=>O b\/ ∃i r,i≠id/\H i=some r/\r.blk=some b
   have himm:∀b,aP O tp H w b->aP O' tp bY w b:=fun b hb=>⟨hb.1,fun h=>h.elim hb.2.1 fun⟨i,r,_,h1,h2⟩=>hb.2.2.2 ⟨i,r,h1,h2⟩,hb.2.2.1,fun⟨i,r,h1,_⟩=>by simp at h1⟩
   have hmv:∀y e,R tp (aP O tp H w) w y e->R tp (aP O' tp bY w) w y e:=fun y e hr=>hr.mono (fun _ h=>h) (fun b hb=>⟨himm b hb,rfl⟩) (fun b _=> .refl _ _)
   have hl:R tp (aP O' tp bY w) w (.pointer (some ⟨bk,0,none⟩)) (.cptr cells 0):=by
    have hbk:(Res.box bk cells).blk=some bk:=rfl
    have h1:=hsat.out id _ bk hid hbk
    have hI:aP O' tp bY w bk:=⟨(hsat.ok id _ hid).lt hbk,fun h=>h.elim h1.1 fun⟨i,r,hne,h2,h3⟩=>hne (hsat.dis _ _ _ _ bk h2 hid h3 hbk),h1.2,fun⟨i,r,h2,_⟩=>by simp at h2⟩
    obtain⟨xs,el,g1,g2,g3⟩:=(hsat.ok id _ hid).conv hmv (fun _ _=>rfl)
    obtain⟨f,k1,k2,k3⟩:=pA g1 g2 g3
    have:=R.cptr (tp:=tp) bk 0 cells 0 f hI (fun _=>⟨_,_,g1⟩) k1 k2 k3
    simpa using this
   have hdec:(aD A).dec (.cptr cells 0::ds')=some (.cptr cells 0,x):=by simp[hd]
   obtain⟨hce,hc⟩:=hf O' tp w (.pointer (some ⟨bk,0,none⟩)::vs) (.cptr cells 0::ds') bY d (fun r H'=>∃v l,r= .own d v/\post (.cptr cells 0,x) l/\H'=ah bY d (some (.row v el n (l.map enc))))
    (fun b hb=>hb.elim (hO b) fun⟨i,r,_,h1,h2⟩=>(hsat.ok i r h1).lt h2) (htl.mono fun b ⟨i,r,h,_⟩=>by simp at h) ⟨fun i j r s b h=>by simp at h,fun i r b h=>by simp at h,fun i r h=>by simp at h⟩ (by simpa using hlen)
    (fun k y e h1 h2=>by
      cases k with
      | zero=>simp at h1 h2;subst h1;subst h2;exact hl
      | succ k=>simp at h1 h2;exact hmv _ _ (hargs (k+1) y e (by simpa using h1) (by simpa using h2)))
    (by rw[qae,hdec];exact⟨hp,fun v l hz=>⟨v,l,rfl,hz,rfl⟩⟩)
   refine⟨hce,hc.mono ?_⟩
   rintro e w' ⟨q,r,H',tp',rfl,⟨v,l,rfl,hz,rfl⟩,t1,t2,t3,hs,ho,hsat',hR⟩
   have hsame:∀b,b < w.heap.size->¬tp b->w'.heap[b]? =w.heap[b]?:=fun b hb ht=>hs.same b hb (fun⟨i,r,h,_⟩=>by simp at h) ht
   have hmove:∀y e,R tp (aP O tp H w) w y e->R tp' (aP O tp' H w') w' y e:=fun y e hr=>hr.mono t1 (fun b hb=>⟨⟨qug hb.1 hs.size,hb.2.1,fun h=>by
    rcases t2 b h with h|h
    ·exact hb.2.2.1 h
    ·have:=hb.1;omega,hb.2.2.2⟩,hsame b hb.1 hb.2.2.1⟩) hs.tapes
   have hrow:ah bY d (some (.row v el n (l.map enc))) d=some (.row v el n (l.map enc)):=by simp[ah]
   have hrk:=hsat'.ok d _ hrow
   have hrk':ResOk (R tp' (aP O tp' H w') w') w' (.row v el n (l.map enc)):=by
    obtain⟨xs,g1,g2,g3⟩:=hrk
    refine⟨xs,g1,g2,fun k y c h1 h2=>⟨(g3 k y c h1 h2).1,?_⟩⟩
    have hm:c∈br (l.map enc):=qtY h2
    obtain⟨e,he,hce⟩:=qu0.1 hm
    obtain⟨y',_,rfl⟩:=qt9.1 he
    exact hflat y' c hce _ _ _ _ _ _ _ (g3 k y c h1 h2).2
   have hfresh:∀b,(Res.row v el n (l.map enc)).blk=some b->aP O tp' H w' b:=fun b hb=>by
    have h1:=ho b ⟨d,_,hrow,hb⟩
    have h2:w.heap.size<=b:=h1.elim (fun⟨i,r,h,_⟩=>by simp at h) fun h=>h
    refine⟨hrk.lt hb,fun h=>?_,(hsat'.out d _ b hrow hb).2,fun⟨i,r,h3,h4⟩=>?_⟩
    ·have:=hO b h;omega
    ·have:=(hsat.ok i r h3).lt h4;omega
   refine⟨q,enc l,H,tp',rfl,hK l hz,t1,t2,t3,⟨hs.os,hs.tape,hs.output,hs.size,fun b hb _ ht=>hsame b hb ht,hs.tapes,hs.drawn⟩,fun b h=> .inl h,⟨hsat.dis,fun i r b h1 h2=>?_,fun i r h1=>?_⟩,?_⟩
   ·have:=hsat.out i r b h1 h2
    refine⟨this.1,fun h=>?_⟩
    rcases t2 b h with h|h
    ·exact this.2 h
    ·have:=(hsat.ok i r h1).lt h2;omega
   ·exact(hsat.ok i r h1).conv hmove fun b hb=>hsame b ((hsat.ok i r h1).lt hb) (hsat.out i r b h1 hb).2
   ·have hone:∀i r,ah bY d (some (.row v el n (l.map enc))) i=some r->r= .row v el n (l.map enc):=fun i r h=>by
     unfold ah at h
     split at h
     ·exact(qua h).symm
     ·simp at h
    have hfz:FrzTo (ah bY d (some (.row v el n (l.map enc)))) (.own d v) (.list n (l.map enc)):=jj el hrow hn
    have e1:(enc l:D)= .list n (l.map enc):=by subst hn;rfl
    have hRo:R tp' (aP O tp' H w') w' q (.own d v):=by
     cases hR with
     | own _ _ h=>exact .own _ _ h
    rw[e1]
    exact FrzTo.R (H:=H) hfz (fun i r h=>by rw[hone i r h];exact hrk') (fun _ h=>h) (fun i r b h hb=>by rw[hone i r h]at hb;exact hfresh b hb) hRo
end
open Go.Proofs
variable {S:Nat->Spc}
set_option maxRecDepth 100000 in
theorem qca:Vm (Y:=Int) cV cR S (aD (a1 St3)) L6 Rf ix 1:=by
 rintro⟨d,s⟩ ⟨⟨r,k,hd,hl⟩,hs⟩
 have hd:d= .cptr (ll r k) 0:=hd
 subst hd
 simp[cV,cR,ll, -Bool.forall_bool, -Bool.exists_bool]
 intro hl1
 refine⟨by omega,by omega,fun v hl2=>?_⟩
 refine aj (X:=List Int) [3,5] [] r.lb.length (fun k z=>z.length=r.lb.length/\∀i,i < k->z[i]? =some (s.get i -1)) (fun _=>[]) (fun z=>[(12, .row v ix 1 (z.map enc))]) (List.replicate r.lb.length 0) (by simp) (by simp) (by omega) (by simp) (by simp) (by simp) (by simp) (by simp) ?_ ?_
 ·rintro j z hj ⟨hz1,hz2⟩
  have hg:=Qc s (k:=j) (by omega)
  have hb:0<=s.get j/\s.get j<=1000000:=hs.2.2 j
  have hjz:j < z.length:=by omega
  simp[hj,hg,hjz, -Bool.forall_bool, -Bool.exists_bool]
  refine⟨by omega,by omega,by simp only[InR];omega,z.set j (s.get j -1),⟨by simp[hz1],fun i hi=>?_⟩, .inl (by rw[qwa];rfl)⟩
  by_cases e:j=i
  ·subst e
   rw[qu1 (by omega)]
  ·rw[qv2 e]
   exact hz2 i (by omega)
 ·rintro z ⟨hz1,hz2⟩
  simp[-Bool.forall_bool, -Bool.exists_bool]
  refine ub z (by simp[ah]) fun r' k' e=>?_
  have e:D.cptr (ll r k) 0= .cptr (ll r' k') 0:=e
  obtain rfl:=CX e
  refine quQ fun i=>?_
  unfold Oh
  rw[quc]
  by_cases hi:i < r.lb.length
  ·rw[hz2 i hi,qu2 hi];rfl
  ·rw[qur (by omega),qur (by simp;omega)];rfl
end Go.Gv

namespace Go.Gv
open Go.Proofs Cod
theorem uz{P:Program}{f:Nat}{A:Nat->PT}{A':PT}(h:∀n,Tri P f (A n))(hs:∀d ds H K,A' d ds H K->∃n,A n d ds H K):Tri P f A':=
 fun O tp w vs ds H d K a b c e g hA=>(hs d ds H K hA).elim fun n hn=>h n O tp w vs ds H d K a b c e g hn
theorem vD{P:Program}{f:Nat}{A:PT}(hs:∀d ds H K,¬A d ds H K):Tri P f A:=fun O tp w vs ds H d K a b c e g hA=>absurd hA (hs d ds H K)
theorem yP{X Y:Type}{A:df X}{pre:Nat->X->Prop}{pre':X->Prop}{er:Y->D}{post:X->Y->Prop}(hx:∀x,pre' x->∃n,pre n x):∀d ds H K,(bj A pre' er post).pt d ds H K->∃n,(bj A (pre n) er post).pt d ds H K:=by
 intro d ds H K h
 rw[so]at h
 cases e:A.dec ds with
 | none=>rw[e]at h;exact h.elim
 | some x=>
   rw[e]at h
   obtain⟨h1,h2⟩:=h
   obtain⟨n,hn⟩:=hx x h1
   exact⟨n,by rw[so,e];exact⟨hn,h2⟩⟩
theorem gW{P:Program}{f:Nat}{X Y:Type}{A:df X}{pre:X->Prop}{er:Y->D}{post:X->Y->Prop}(hx:∀x,¬pre x):Tri P f (bj A pre er post).pt:=vD fun d ds H K h=>by
 rw[so]at h
 cases e:A.dec ds with
 | none=>rw[e]at h;exact h.elim
 | some x=>rw[e]at h;exact hx x h.1
theorem ME{P:Program}{f:Nat}{Y Z:Type}{A:df Z}{er:Y->D} :Tri P f (qbX A er fun _ _=>none).pt:=vD fun d ds H K h=>by
 obtain⟨id,b',x,z,ds',h1,h2,h3,h4,h5,⟨r,h6⟩,h7⟩:=h
 cases h6
theorem qcA{P:Program}{f:Nat} :Tri P f (qey fun _ _ _=>none).pt:=vD fun d ds H K h=>by
 obtain⟨id',b',x,n',k,r,d0',h1,h2,h3,h4,h5⟩:=h
 cases h4
theorem qqS{p:Cond}(h:mg p<=0):False:=by rw[Oc]at h;omega
theorem DV:Tri Tryz.prog dX (GY).pt:=
 ae (S:=aJ []) (ag ac) BK (fun _=>qtU rfl) (Cq)
theorem Ft:Tri Tryz.prog ko (s_cpFold1).pt:=VW (S:=aJ [(dX,GY)]) (ag (aa DV ac)) rfl
theorem Fu:Tri Tryz.prog kq (So).pt:=
 ae (S:=aJ []) (ag ac) Dp (fun _=>qtU rfl) (Ed)
theorem B7:Tri Tryz.prog gJ (SB).pt:=
 ae (S:=aJ [(kq,So)]) (ag (aa Fu ac)) AH (fun _=>qtU rfl) (A7 rfl)
theorem Fm:Tri Tryz.prog ct (Sp).pt:=
 ae (S:=aJ [(gJ,SB)]) (ag (aa B7 ac)) C6 (fun _=>qtU rfl) (D6 rfl)
theorem lg:Tri Tryz.prog bH (Sv).pt:=
 ae (S:=aJ [(ct,Sp)]) (ag (aa Fm ac)) kM (fun _=>qtU rfl) (J9 rfl)
theorem qt:Tri Tryz.prog cD (Sl).pt:=
 ae (S:=aJ [(bH,Sv)]) (ag (aa lg ac)) pa (fun _=>qtU rfl) (J8 rfl)
theorem DP:Tri Tryz.prog ja (Ih).pt:=
 ae (S:=aJ []) (ag ac) BA (fun _=>qtU rfl) (Mt)
theorem GL:Tri Tryz.prog lp (M6).pt:=
 ae (S:=aJ [(ja,Ih)]) (ag (aa DP ac)) EK (fun _=>qtU rfl) (RD rfl)
theorem vY:Tri Tryz.prog cS (qcE).pt:=
 ae (S:=aJ [(lp,M6),(cD,Sl)]) (ag (aa GL (aa qt ac))) uP (fun _=>qtU rfl) (vx rfl rfl)
theorem we:Tri Tryz.prog cS (Of).pt:=HD vY rfl (fun _=>Qe (fun _ h=>by cases h))
theorem JT:Tri Tryz.prog np (H5).pt:=
 RO (S:=aJ [(cS,Of)]) (ag (aa we ac)) Gm (fun _=>qtU rfl) (Hg rfl)
theorem QY:Tri Tryz.prog uc (R9).pt:=
 ae (S:=aJ []) (ag ac) Nk (fun _=>qtU rfl) (OF)
theorem cB:Tri Tryz.prog aw (gr).pt:=
 fa (S:=aJ [(bi,s_decR)]) (ag (aa CE ac)) zo (fun _=>qtU rfl) (Me rfl)
theorem AJ:Tri Tryz.prog fN (MM).pt:=
 fa (S:=aJ [(bi,s_decR)]) (ag (aa CE ac)) zn (fun _=>qtU rfl) (Md rfl)
theorem li:Tri Tryz.prog bS (CQ).pt:=
 fa (S:=aJ [(aw,gr),(fN,MM)]) (ag (aa cB (aa AJ ac))) tK (fun _=>qtU rfl) (Ch rfl rfl)
theorem yz:Tri Tryz.prog eN (Sa).pt:=
 fa (S:=aJ [(aw,gr),(cY,s_crune),(bS,CQ)]) (ag (aa cB (aa yL (aa li ac)))) wQ (fun _=>qtU rfl) (Hh rfl rfl rfl)
theorem zZ:Tri Tryz.prog fp (Sb).pt:=
 fa (S:=aJ [(aw,gr),(eN,Sa),(np,H5)]) (ag (aa cB (aa yz (aa JT ac)))) yo (fun _=>qtU rfl) (Kf rfl rfl rfl)
theorem AK:Tri Tryz.prog fO (MN).pt:=
 fa (S:=aJ [(aw,gr),(uc,R9),(fp,Sb),(cY,s_crune),(bS,CQ)]) (ag (aa cB (aa QY (aa zZ (aa yL (aa li ac)))))) zq (fun _=>qtU rfl) (Mf rfl rfl rfl rfl rfl)
theorem yy:Tri Tryz.prog eM (R8).pt:=
 fa (S:=aJ [(aw,gr),(fO,MN)]) (ag (aa cB (aa AK ac))) wP (fun _=>qtU rfl) (He rfl rfl)
theorem yB:Tri Tryz.prog eO (Sc).pt:=
 fa (S:=aJ [(aw,gr),(eM,R8)]) (ag (aa cB (aa yy ac))) wR (fun _=>qtU rfl) (Hi rfl rfl)
theorem zY:Tri Tryz.prog fm (R7).pt:=
 fa (S:=aJ [(aw,gr),(eO,Sc)]) (ag (aa cB (aa yB ac))) yn (fun _=>qtU rfl) (Ka rfl rfl)
theorem zX:∀n,Tri Tryz.prog il (qey (qB n)).pt
 | 0=>qcA
 | n+1=>RK (S:=aJ [(il,qey (qB n))]) (ag (aa (zX n) ac)) Iy (by decide) (Kb n rfl)
theorem Fl:Tri Tryz.prog jS (HX).pt:=
 ae (S:=aJ []) (ag ac) C5 (fun _=>qtU rfl) (D5)
theorem DM:Tri Tryz.prog iR (Er).pt:=
 ae (S:=aJ [(jS,HX)]) (ag (aa Fl ac)) Bm (fun _=>qtU rfl) (Cf rfl)
theorem rp:∀n,Tri Tryz.prog dx (sr n).pt
 | 0=>gW fun x h=>by cases h
 | n+1=>ae (S:=aJ [(iR,Er),(dx,sr n)]) (ag (aa DM (aa (rp n) ac))) AB (fun _=>qtU rfl) (A2 n rfl rfl)
theorem tA:∀n,Tri Tryz.prog dU (H4 n).pt
 | 0=>gW fun x h=>by obtain⟨m,h⟩:=h;cases h
 | n+1=>ae (S:=aJ [(dU,H4 n)]) (ag (aa (tA n) ac)) Bn (fun _=>qtU rfl) (Cg n rfl)
theorem vZ:Tri Tryz.prog eq (H3).pt:=
 ae (S:=aJ [(il,qey (qB 50)),(dx,sr 50),(dU,H4 50)]) (ag (aa (zX 50) (aa (rp 50) (aa (tA 50) ac)))) C8 (fun _=>qtU rfl) (D8 rfl rfl rfl)
theorem AY:Tri Tryz.prog ip (vG).pt:=
 ae (S:=aJ [(sW,s_cpAt),(fm,R7),(eq,H3)]) (ag (aa qfC (aa zY (aa vZ ac)))) IA (fun _=>qtU rfl) (Kg rfl rfl rfl)
theorem Lc:Tri Tryz.prog qa (qcG).pt:=
 ae (S:=aJ [(ip,vG)]) (ag (aa AY ac)) IW (fun _=>qtU rfl) (Kw rfl)
theorem Fn:Tri Tryz.prog jT (qcF).pt:=
 ae (S:=aJ []) (ag ac) C7 (fun _=>qtU rfl) (D7)
theorem rr:Tri Tryz.prog db (CT).pt:=
 sk (S:=aJ []) (ag ac) zw (fun _=>qtU rfl) (qfp)
theorem iO:Tri Tryz.prog bE (ws).pt:=
 sk (S:=aJ [(db,CT)]) (ag (aa rr ac)) wT (fun _=>qtU rfl) (Yc rfl)
theorem JS:∀n,Tri Tryz.prog aU (wt n).pt/\Tri Tryz.prog eP (Sf n).pt/\Tri Tryz.prog ca (HY n).pt
 | 0=>⟨ME,ME,ME⟩
 | n+1=>⟨sk (S:=aJ [(aU,wt n),(eP,Sf n),(bE,ws)]) (ag (aa (JS n).1 (aa (JS n).2.1 (aa iO ac)))) yu (fun _=>qtU rfl) (qci n rfl rfl rfl),sk (S:=aJ [(aU,wt n),(ca,HY n),(bE,ws),(db,CT)]) (ag (aa (JS n).1 (aa (JS n).2.2 (aa iO (aa rr ac))))) wS (fun _=>qtU rfl) (X9 n rfl rfl rfl rfl),sk (S:=aJ [(aU,wt n),(ca,HY n),(bE,ws)]) (ag (aa (JS n).1 (aa (JS n).2.2 (aa iO ac)))) uR (fun _=>qtU rfl) (Rz n rfl rfl rfl)⟩
theorem Q0:Tri Tryz.prog uo (YK 50).pt:=
 ae (S:=aJ [(aU,wt 50)]) (ag (aa (JS 50).1 ac)) Ny (fun _=>qtU rfl) (qoI 50 rfl)
theorem AL:Tri Tryz.prog fQ (Sh).pt:=
 ae (S:=aJ []) (ag ac) zx (fun _=>qtU rfl) (qck)
theorem Fk:Tri Tryz.prog cq (YJ).pt:=
 ae (S:=aJ [(ko,s_cpFold1)]) (ag (aa Ft ac)) C3 (fun _=>qtU rfl) (Ru rfl)
theorem GK:Tri Tryz.prog cM (YQ).pt:=
 ae (S:=aJ []) (ag ac) EF (fun _=>qtU rfl) (F4)
theorem AX:Tri Tryz.prog io (Po).pt:=
 ae (S:=aJ [(eq,Lo),(fA,s_cpVal),(uo,YK 50),(fQ,Sh),(jT,Pn),(cM,YQ),(cq,YJ)]) (ag (aa vZ (aa Li (aa Q0 (aa AL (aa Fn (aa GK (aa Fk ac)))))))) Iz (fun _=>qtU rfl) (Ke rfl rfl rfl rfl rfl rfl rfl)
theorem K5:Tri Tryz.prog pJ (Lp false).pt:=
 ae (S:=aJ [(io,Po)]) (ag (aa AX ac)) IB (fun _=>qtU rfl) (Kh rfl)
theorem DN:Tri Tryz.prog iS (Lp true).pt:=
 ae (S:=aJ [(io,Po)]) (ag (aa AX ac)) Bo (fun _=>qtU rfl) (Ci rfl)
theorem Lb:Tri Tryz.prog pY (M1).pt:=
 ae (S:=aJ [(ip,vG),(pJ,Lp false),(iS,Lp true)]) (ag (aa AY (aa K5 (aa DN ac)))) IV (fun _=>qtU rfl) (Kv rfl rfl rfl)
theorem yd:Tri Tryz.prog aY (Ps).pt:=
 ae (S:=aJ []) (ag ac) Dk (fun _=>qtU rfl) (Ec)
theorem GN:Tri Tryz.prog cN (Ew).pt:=
 ae (S:=aJ [(aY,Ps)]) (ag (aa yd ac)) Dj (fun _=>qtU rfl) (Eb rfl)
theorem B4:Tri Tryz.prog ck (MP).pt:=
 ae (S:=aJ [(aY,Ps),(cN,Ew)]) (ag (aa yd (aa GN ac))) zu (fun _=>qtU rfl) (Ay rfl rfl)
theorem rq:Tri Tryz.prog bG (yR).pt:=
 ae (S:=aJ [(fA,s_cpVal)]) (ag (aa Li ac)) zt (fun _=>qtU rfl) (Aw rfl)
theorem GO:Tri Tryz.prog lu (H8).pt:=
 ae (S:=aJ [(bG,yR)]) (ag (aa rq ac)) EQ (fun _=>qtU rfl) (Gc rfl)
theorem B5:Tri Tryz.prog gH (Sy).pt:=
 ae (S:=aJ []) (ag ac) AF (fun _=>qtU rfl) (A4)
theorem La:Tri Tryz.prog pX (Sx).pt:=
 ae (S:=aJ [(lu,H8),(gH,Sy)]) (ag (aa GO (aa B5 ac))) IU (fun _=>qtU rfl) (Ku rfl rfl)
theorem qu:∀n,Tri Tryz.prog cz (Id n).pt
 | 0=>gW fun x h=>qqS h.1
 | n+1=>ae (S:=aJ [(cz,Id n)]) (ag (aa (qu n) ac)) zy (fun _=>qtU rfl) (yF n rfl)
theorem AM:Tri Tryz.prog cz (Ie).pt:=uz (fun n=>qu n) (yP (fun x h=>h))
theorem DR:Tri Tryz.prog jd (Ey).pt:=
 ae (S:=aJ []) (ag ac) BE (fun _=>qtU rfl) (A5)
theorem wb:Tri Tryz.prog bb (EB).pt:=
 ae (S:=aJ []) (ag ac) uS (fun _=>qtU rfl) (vy)
theorem rf:Tri Tryz.prog cL (Ii Attr (aJ [(bb,EB)])).pt:=
 ae (S:=aJ [(bb,EB)]) (ag (aa wb ac)) qn (fun _=>qtU rfl) (Hu)
theorem eR:Tri Tryz.prog aN (ru).pt:=
 ae (S:=aJ [(cL,Ii Attr (aJ [(bb,EB)]))]) (ag (aa rf ac)) wU (fun _=>qtU rfl) (yj (S0:=(aJ [(bb,EB)])) rfl rfl)
theorem uu:Tri Tryz.prog dW (yW).pt:=
 ae (S:=aJ [(aN,ru)]) (ag (aa eR ac)) BH (fun _=>qtU rfl) (Cn rfl)
theorem DU:Tri Tryz.prog jh (Ig).pt:=
 ae (S:=aJ []) (ag ac) BJ (fun _=>qtU rfl) (Cp)
theorem eQ:Tri Tryz.prog aM (wu).pt:=
 ae (S:=aJ []) (ag ac) wO (fun _=>qtU rfl) (Ht)
theorem vr:Tri Tryz.prog aF (SA).pt:=
 ae (S:=aJ [(aM,wu)]) (ag (aa eQ ac)) kB (fun _=>qtU rfl) (Cs rfl)
theorem DS:Tri Tryz.prog je (Ic).pt:=
 ae (S:=aJ [(dW,yW),(aN,ru),(ck,MP)]) (ag (aa uu (aa eR (aa B4 ac)))) BF (fun _=>qtU rfl) (Cm rfl rfl rfl)
theorem DT:Tri Tryz.prog jg (If).pt:=
 ae (S:=aJ [(jd,Ey),(je,Ic),(qa,Pr),(aN,ru),(lP,s_sConB),(bG,yR),(aF,SA)]) (ag (aa DR (aa DS (aa Lc (aa eR (aa RJ (aa rq (aa vr ac)))))))) BI (fun _=>qtU rfl) (Co rfl rfl rfl rfl rfl rfl rfl)
theorem xL:Tri Tryz.prog bM (M5).pt:=
 ae (S:=aJ [(jg,If)]) (ag (aa DT ac)) vN (fun _=>qtU rfl) (wj rfl)
theorem ut:∀n,Tri Tryz.prog dy (Ia n).pt
 | 0=>gW fun x h=>by obtain⟨a,lb,_,h,_⟩:=h;cases h
 | n+1=>ae (S:=aJ [(bM,M5),(dy,Ia n)]) (ag (aa xL (aa (ut n) ac))) Dn (fun _=>qtU rfl) (Cl n rfl rfl)
theorem Fq:Tri Tryz.prog dy (H9).pt:=uz (fun n=>ut n) (yP (fun x h=>h))
theorem Ac:Tri Tryz.prog fy (SF).pt:=
 ae (S:=aJ [(cz,Ie),(dy,H9)]) (ag (aa AM (aa Fq ac))) yw (fun _=>qtU rfl) (yG rfl rfl)
theorem AI:Tri Tryz.prog fM (M0).pt:=
 ae (S:=aJ []) (ag ac) zl (fun _=>qtU rfl) (Mu)
theorem xJ:Tri Tryz.prog ei (M3).pt:=
 ae (S:=aJ [(fM,M0)]) (ag (aa AI ac)) vL (fun _=>qtU rfl) (Ge rfl)
theorem Ab:Tri Tryz.prog aV (tU).pt:=
 ae (S:=aJ [(ei,M3)]) (ag (aa xJ ac)) yv (fun _=>qtU rfl) (yE rfl)
theorem tM:Tri Tryz.prog bK (Ii Region (aJ [(aV,tU)])).pt:=
 ae (S:=aJ [(aV,tU)]) (ag (aa Ab ac)) jx (fun _=>qtU rfl) (FC)
theorem rh:Tri Tryz.prog aO (Na Region (aJ [(aV,tU)])).pt:=
 ae (S:=aJ [(bK,Ii Region (aJ [(aV,tU)]))]) (ag (aa tM ac)) gl (fun _=>qtU rfl) (FD rfl)
theorem B6:Tri Tryz.prog gI (Sz).pt:=
 ae (S:=aJ [(aO,Na Region (aJ [(aV,tU)]))]) (ag (aa rh ac)) AG (fun _=>qtU rfl) (A6 (S0:=(aJ [(aV,tU)])) rfl rfl)
theorem tB:∀n,Tri Tryz.prog dV (yV n).pt
 | 0=>gW fun x h=>by obtain⟨_,y,h⟩:=h;cases h
 | n+1=>
   have g1:Tri Tryz.prog au (Gk n).pt:=ae (S:=aJ [(dV,yV n)]) (ag (aa (tB n) ac)) zA (fun _=>qtU rfl) (VN n rfl)
   have g2:Tri Tryz.prog bh (Pq n).pt:=ae (S:=aJ [(au,Gk n)]) (ag (aa g1 ac)) zz (fun _=>qtU rfl) (VM n rfl)
   have g3:Tri Tryz.prog dT (Ii Cond (aJ [(au,Gk n),(bh,Pq n)])).pt:=ae (S:=aJ [(au,Gk n),(bh,Pq n)]) (ag (aa g1 (aa g2 ac))) uQ (fun _=>qtU rfl) (VR)
   have g4:Tri Tryz.prog cZ (Na Cond (aJ [(au,Gk n),(bh,Pq n)])).pt:=ae (S:=aJ [(dT,Ii Cond (aJ [(au,Gk n),(bh,Pq n)]))]) (ag (aa g3 ac)) rB (fun _=>qtU rfl) (VS rfl)
   ae (S:=aJ [(au,Gk n),(cZ,Na Cond (aJ [(au,Gk n),(bh,Pq n)])),(dW,yW),(jh,Ig),(pY,M1),(aN,ru),(pX,Sx),(aM,wu),(gI,Sz)]) (ag (aa g1 (aa g4 (aa uu (aa DU (aa Lb (aa eR (aa La (aa eQ (aa B6 ac)))))))))) BG (fun _=>qtU rfl) (qcg (S0:=(aJ [(au,Gk n),(bh,Pq n)])) n rfl rfl rfl rfl rfl rfl rfl rfl rfl rfl rfl)
theorem GQ:Tri Tryz.prog lz (qC).pt:=
 ae (S:=aJ []) (ag ac) ES (fun _=>qtU rfl) (Gd)
theorem uv:Tri Tryz.prog dY (fe).pt:=
 ae (S:=aJ [(lz,qC)]) (ag (aa GQ ac)) BL (fun _=>qtU rfl) (Cr rfl)
theorem Ob:Tri Tryz.prog rN (wv).pt:=
 ae (S:=aJ []) (ag ac) KW (fun _=>qtU rfl) (Ms)
theorem zW:Tri Tryz.prog fl (SC).pt:=
 ae (S:=aJ [(dY,fe)]) (ag (aa uv ac)) ym (fun _=>qtU rfl) (qfv rfl)
theorem GM:Tri Tryz.prog ia (s_cmpM).pt:=
 ae (S:=aJ [(dY,fe),(fl,SC),(rN,wv)]) (ag (aa uv (aa zW (aa Ob ac)))) EM (fun _=>qtU rfl) (qfu rfl rfl rfl)
theorem GP:Tri Tryz.prog lw (EA).pt:=
 ae (S:=aJ []) (ag ac) ER (fun _=>qtU rfl) (VP)
theorem K6:Tri Tryz.prog pK (Sk).pt:=
 ae (S:=aJ []) (ag ac) IC (fun _=>qtU rfl) (qfi)
theorem TI:Tri Tryz.prog xh (MU).pt:=
 ae (S:=aJ [(pK,Sk)]) (ag (aa K6 ac)) Px (fun _=>qtU rfl) (qb7 rfl)
theorem K9:Tri Tryz.prog pV (MV).pt:=
 ae (S:=aJ []) (ag ac) IS (fun _=>qtU rfl) (Kt)
theorem Fs:Tri Tryz.prog km (MZ).pt:=
 ae (S:=aJ [(dV,yV 21)]) (ag (aa (tB 21) ac)) Do (fun _=>qtU rfl) (qcf rfl)
theorem xK:Tri Tryz.prog bL (Sr).pt:=
 ae (S:=aJ []) (ag ac) mw (fun _=>qtU rfl) (qfn)
theorem qkW:Tri Tryz.prog bL b_masg.pt:=OY rfl (Ej (S:=aJ []) (ag ac) mw (fun _=>qtU rfl) (qca)) fun y c hc=>by
 simp at hc
 subst hc
 exact Jn _
theorem DQ:Tri Tryz.prog fw (qfR).pt:=
 ae (S:=aJ [(bL,Sr),(km,MZ),(aM,wu)]) (ag (aa xK (aa Fs (aa eQ ac)))) BB (fun _=>qtU rfl) (qfl rfl rfl rfl)
theorem qkU:Tri Tryz.prog fw b_mtok.pt:=FF DQ fun z=>by
 obtain⟨s,v⟩:=z
 simp only[qkp]
 refine Qe fun d hd=>?_
 simp only[qt1,qus,or_false]at hd
 rcases hd with rfl|rfl
 ·exact qag fun d hd=>by
   simp only[qt1,qus,or_false]at hd
   rcases hd with rfl|rfl|rfl|rfl <;> exact Jn _
 ·exact Jn _
theorem Aa:Tri Tryz.prog aS (tT).pt:=
 ae (S:=aJ []) (ag ac) yt (fun _=>qtU rfl) (qcb)
theorem B3:Tri Tryz.prog eH (qfS).pt:=
 have h1:Tri Tryz.prog bK (Ii Region (aJ [(aS,tT)])).pt:=ae (S:=aJ [(aS,tT)]) (ag (aa Aa ac)) jx (fun _=>qtU rfl) (FC)
 have h2:Tri Tryz.prog aO (Na Region (aJ [(aS,tT)])).pt:=ae (S:=aJ [(bK,Ii Region (aJ [(aS,tT)]))]) (ag (aa h1 ac)) gl (fun _=>qtU rfl) (FD rfl)
 ae (S:=aJ [(aO,Na Region (aJ [(aS,tT)]))]) (ag (aa h2 ac)) AD (fun _=>qtU rfl) (qfo (S0:=aJ [(aS,tT)]) rfl rfl)
theorem qkX:Tri Tryz.prog eH b_manc.pt:=FF B3 fun _=>Jn _
theorem N9:Tri Tryz.prog rK (MX).pt:=
 ae (S:=aJ []) (ag ac) KT (fun _=>qtU rfl) (qb8)
theorem Oa:Tri Tryz.prog nz clC.pt:=VZ Tryz.cloneSet rfl (iw Tryz.func184 (by kernel_rfl) rfl)
theorem Fp:Tri Tryz.prog kj (Sq).pt:=
 RN (S:=aJ []) (ag ac) Dl (fun _=>qtU rfl) (qfm)
theorem Y3:Tri Tryz.prog bv (AR 0).pt:=vD fun d ds H K h=>by
 obtain⟨id,b',x,z,ds',h1,h2,h3,h4,h5,h6,h7⟩:=h
 obtain⟨_,_,_,q,_,hq,_⟩:=h6
 rw[GZ]at hq
 omega
theorem Vd:∀n,Tri Tryz.prog bv (AR n).pt
 | 0=>Y3
 | n+1=>
   have h1:Tri Tryz.prog eu (H6 n).pt:=Ba (S:=aJ [(bv,AR n)]) (ag (aa (Vd n) ac)) Di (fun _=>qtU rfl) (qfq n rfl)
   have h2:Tri Tryz.prog gG (YN n).pt:=Ba (S:=aJ [(rK,MX),(eu,H6 n),(bv,AR n),(nz,clC),(kj,Sq)]) (ag (aa N9 (aa h1 (aa (Vd n) (aa Oa (aa Fp ac)))))) AC (fun _=>qtU rfl) (qiL n rfl rfl rfl rfl rfl)
   Ba (S:=aJ [(fw,b_mtok),(eH,b_manc),(eu,H6 n),(bv,AR n),(gG,YN n)]) (ag (aa qkU (aa qkX (aa h1 (aa (Vd n) (aa h2 ac)))))) BC (fun _=>qtU rfl) (qb6 n rfl rfl rfl rfl rfl)
theorem qhf:Tri Tryz.prog fY (MR ia sj).pt:=VY Tryz.sortMatch rfl (fun w=>Tryz.isAgg55 w) (fun w=>Tryz.sizeOf55 w) rfl GM (iw Tryz.func19 (by kernel_rfl) rfl) (iw Tryz.func83 (by kernel_rfl) rfl)
theorem qhZ{p:Pat}(h:fk p<=0):False:=by rw[GZ]at h;omega
theorem xR:Tri Tryz.prog aY (qj).pt:=
 ae (S:=aJ []) (ag ac) EO (fun _=>qtU rfl) (Gb)
theorem Gg:Tri Tryz.prog cN (H7).pt:=
 ae (S:=aJ [(aY,qj)]) (ag (aa xR ac)) EN (fun _=>qtU rfl) (Ga rfl)
theorem A9:Tri Tryz.prog ck (HW).pt:=
 ae (S:=aJ [(aY,qj),(cN,H7)]) (ag (aa xR (aa Gg ac))) AE (fun _=>qtU rfl) (A3 rfl rfl)
theorem Mx:Tri Tryz.prog rI (R6).pt:=
 ae (S:=aJ []) (ag ac) KP (fun _=>qtU rfl) (Ml)
theorem Mz:Tri Tryz.prog jZ (MW).pt:=
 ae (S:=aJ [(rI,R6)]) (ag (aa Mx ac)) KS (fun _=>qtU rfl) (Mo rfl)
theorem KB:Tri Tryz.prog eo (CU).pt:=
 ae (S:=aJ [(ck,HW)]) (ag (aa A9 ac)) IJ (fun _=>qtU rfl) (Km rfl)
theorem Hx:Tri Tryz.prog dN (yS).pt:=
 ae (S:=aJ []) (ag ac) Gs (fun _=>qtU rfl) (Hm)
def Rr:Nat->Spc:=aJ [(jZ,MW),(eo,CU),(dN,yS)]
def qrH(n:Nat):Nat->Spc:=aJ [(ft,YL n)]
theorem qaV{S:Nat->Spc}(h:∀f,Tri Tryz.prog f (S f).pt):Tri Tryz.prog aC (Ij S).pt:=
 ae (S:=aJ [(eF,YT S)]) (ag (aa (ae (S:=S) h rA (fun _=>qtU rfl) se) ac)) pb (fun _=>qtU rfl) (qd rfl)
theorem xS:∀n,Tri Tryz.prog ed (Es n).pt
 | 0=>gW fun x h=>qhZ h.1
 | n+1=>
   have h1:Tri Tryz.prog ft (YL n).pt:=ae (S:=aJ [(ed,Es n)]) (ag (aa (xS n) ac)) By (fun _=>qtU rfl) (Ck n rfl)
   ae (S:=aJ [(aC,Ij (qrH n))]) (ag (aa (qaV (S:=qrH n) (ag (aa h1 ac))) ac)) EI (fun _=>qtU rfl) (F6 (S0:=qrH n) n rfl rfl)
theorem Gf:Tri Tryz.prog ed (Be).pt:=
 uz (fun n=>xS n) (yP (fun x h=>⟨fk x.1,qt4 _,h⟩))
def qrL(n:Nat):Nat->Spc:=aJ [(hZ,YR Rr n)]
def qrK(n:Nat):Nat->Spc:=aJ [(aC,Ij (qrL n)),(jZ,MW),(eo,CU),(dN,yS)]
theorem qc2(n:Nat)(d:D)(f:Pat->Bool)(h:FunIs Rr d f):FunIs (qrK n) d f:=by
 obtain⟨g,c,pc,a,b,e⟩:=h
 refine⟨g,c,pc,a,?_,e⟩
 by_cases hg:g=aC
 ·subst hg
  have:Rr aC=Spc.none:=rfl
  rw[this]at b
  cases b
 ·rw[<-b]
  unfold qrK Rr
  rw[aJ,if_neg hg]
theorem AT:∀n,Tri Tryz.prog cJ (M2 Rr n).pt
 | 0=>gW fun x h=>by obtain⟨f,h1,h2⟩:=h;exact qhZ h2
 | n+1=>
   have h1:Tri Tryz.prog hZ (YR Rr n).pt:=ae (S:=aJ [(cJ,M2 Rr n)]) (ag (aa (AT n) ac)) EJ (fun _=>qtU rfl) (F9 (S0:=Rr) n rfl)
   ae (S:=qrK n) (ag (aa (qaV (S:=qrL n) (ag (aa h1 ac))) (aa Mz (aa KB (aa Hx ac))))) IK (fun _=>qtU rfl) (Kn (S0:=qrL n) (N:=Rr) n (qc2 n) rfl rfl)
theorem uy:Tri Tryz.prog cJ (su Rr).pt:=
 uz (fun n=>AT n) (yP (fun x h=>by obtain⟨f,h⟩:=h;exact⟨fk x.1,f,h,qt4 _⟩))
theorem AQ:Tri Tryz.prog iu (CW).pt:=
 ae (S:=aJ [(ed,Be),(cJ,su Rr)]) (ag (aa Gf (aa uy ac))) IP (fun _=>qtU rfl) (Kr (N:=Rr) rfl rfl rfl)
theorem AO:Tri Tryz.prog iq (gY).pt:=
 ae (S:=aJ [(iu,CW),(cJ,su Rr)]) (ag (aa AQ (aa uy ac))) II (fun _=>qtU rfl) (Kl (N:=Rr) rfl rfl rfl rfl)
theorem CZ:∀n,Tri Tryz.prog gF (Si n).pt
 | 0=>gW fun x h=>qhZ h.1
 | n+1=>ae (S:=aJ [(gF,Si n)]) (ag (aa (CZ n) ac)) KQ (fun _=>qtU rfl) (Mm n rfl)
theorem My:Tri Tryz.prog gF (MS).pt:=
 uz (fun n=>CZ n) (yP (fun x h=>⟨fk x,qt4 _,h⟩))
theorem zj:∀n,Tri Tryz.prog eG (Ib n).pt
 | 0=>gW fun x h=>h
 | n+1=>ae (S:=aJ [(eG,Ib n)]) (ag (aa (zj n) ac)) Gt (fun _=>qtU rfl) (Hp n rfl)
theorem Hz:Tri Tryz.prog eG (Ez).pt:=
 uz (fun n=>zj n) (yP (fun x h=>h))
theorem AP:Tri Tryz.prog ir (CV).pt:=
 ae (S:=aJ [(eG,Ez)]) (ag (aa Hz ac)) IL (fun _=>qtU rfl) (Ko rfl)
theorem zh:∀n,Tri Tryz.prog cI (E1 n).pt
 | 0=>vD fun d ds H K ⟨id,v,l,a,x,h1,h2,h3,h4,h5⟩=>qhZ h4.1
 | n+1=>HC (S:=aJ [(cI,E1 n),(ir,CV)]) (ag (aa (zh n) (aa AP ac))) xT (by decide) (Hn n rfl rfl)
theorem vA:Tri Tryz.prog cI i_leavesQA.pt:=uz (fun n=>zh n) fun d ds H K ⟨id,v,l,a,x,h1,h2,h3,h4,h5⟩=>⟨fk x,id,v,l,a,x,h1,h2,h3,⟨qt4 _,h4⟩,h5⟩
theorem Hy:Tri Tryz.prog cI s_leavesQ.pt:=RQ (Ej (S:=aJ [(cI,i_leavesQA),(ir,CV)]) (ag (aa vA (aa AP ac))) xT (fun _=>qtU rfl) (F7 rfl rfl)) vA
theorem Yl:Tri Tryz.prog aF s_has2.pt:=
 have h:Tri Tryz.prog aF s_hasE.pt:=ae (S:=aJ [(aM,wu)]) (ag (aa eQ ac)) kB (fun _=>qtU rfl) (A1 rfl)
 RQ h (HD h rfl fun _=>Jn _)
theorem zi:∀n,Tri Tryz.prog bu (Jj n).pt
 | 0=>vD fun d ds H K ⟨id,v,l,a,x,h1,h2,h3,h4,h5⟩=>qhZ h4.1
 | n+1=>HC (S:=aJ [(aF,s_has2),(bu,Jj n)]) (ag (aa Yl (aa (zi n) ac))) xU (by decide) (Ho n rfl rfl)
theorem vB:Tri Tryz.prog bu i_labelsA.pt:=uz (fun n=>zi n) fun d ds H K ⟨id,v,l,a,x,h1,h2,h3,h4,h5⟩=>⟨fk x,id,v,l,a,x,h1,h2,h3,⟨qt4 _,h4⟩,h5⟩
theorem sf:Tri Tryz.prog bu s_qlabels.pt:=RQ (Ej (S:=aJ [(aF,s_has2),(bu,i_labelsA)]) (ag (aa Yl (aa vB ac))) xU (fun _=>qtU rfl) (F8 rfl rfl)) vB
theorem HA:Tri Tryz.prog ny (ss).pt:=
 ae (S:=aJ [(iq,gY),(bu,s_qlabels)]) (ag (aa AO (aa sf ac))) Gu (fun _=>qtU rfl) (Hq rfl rfl)
theorem N8:Tri Tryz.prog rJ (Sm).pt:=
 ae (S:=aJ []) (ag ac) KR (fun _=>qtU rfl) (Mn)
theorem K7:Tri Tryz.prog pS (M8).pt:=
 ae (S:=aJ [(rJ,Sm)]) (ag (aa N8 ac)) IN (fun _=>qtU rfl) (Kq rfl)
theorem tN:Tri Tryz.prog dg (SG).pt:=
 ae (S:=aJ []) (ag ac) sS (fun _=>qtU rfl) (tH)
theorem ig:Tri Tryz.prog bp (Ik).pt:=
 ae (S:=aJ [(dg,SG)]) (ag (aa tN ac)) qp (fun _=>qtU rfl) (qz rfl)
theorem yK:Tri Tryz.prog fu (SD).pt:=
 ae (S:=aJ [(iu,CW),(cJ,su Rr),(gF,MS),(bu,s_qlabels),(bp,Ik)]) (ag (aa AQ (aa uy (aa My (aa sf (aa ig ac)))))) yr (fun _=>qtU rfl) (qfw (N:=Rr) rfl rfl rfl rfl rfl rfl rfl)
theorem DO:Tri Tryz.prog iZ (M4).pt:=
 ae (S:=aJ []) (ag ac) Bz (fun _=>qtU rfl) (qch)
theorem Fo:Tri Tryz.prog kb (SE).pt:=
 ae (S:=aJ [(iZ,M4)]) (ag (aa DO ac)) Dg (fun _=>qtU rfl) (qfx rfl)
theorem Ei:Tri Tryz.prog kg (YP).pt:=
 ae (S:=aJ [(fu,SD),(bu,s_qlabels),(cI,s_leavesQ),(fy,SF),(bp,Ik),(pS,M8),(kb,SE)]) (ag (aa yK (aa sf (aa Hy (aa Ac (aa ig (aa K7 (aa Fo ac)))))))) Dh (fun _=>qtU rfl) (qfj rfl rfl rfl rfl rfl rfl rfl)
theorem MA:Tri Tryz.prog rL (MY).pt:=
 ae (S:=aJ [(lw,EA),(ny,ss),(bv,AR 101),(bL,b_masg),(fY,MR ia sj)]) (ag (aa GP (aa HA (aa (Vd 101) (aa qkW (aa qhf ac)))))) KU (fun _=>qtU rfl) (qb9 rfl rfl rfl rfl rfl)
theorem xQ:Tri Tryz.prog eY (Pp).pt:=
 ae (S:=aJ [(kg,YP),(rL,MY)]) (ag (aa Ei (aa MA ac))) EL (fun _=>qtU rfl) (qiO rfl rfl)
theorem ep:Tri Tryz.prog aK (vH).pt:=
 dc (S:=aJ []) (ag ac) Db (fun _=>qtU rfl) (qiN)
theorem qA:Tri Tryz.prog de (Su).pt:=
 dc (S:=aJ [(aK,vH)]) (ag (aa ep ac)) EG (fun _=>qtU rfl) (qoH rfl)
theorem fS:Tri Tryz.prog bq (yU).pt:=
 dc (S:=aJ [(de,Su)]) (ag (aa qA ac)) Dc (fun _=>qtU rfl) (qiP rfl)
theorem Cz:Tri Tryz.prog iU (Se).pt:=
 dc (S:=aJ [(aK,vH)]) (ag (aa ep ac)) Bq (fun _=>qtU rfl) (qfg rfl)
theorem CD:Tri Tryz.prog iX (Sw).pt:=
 dc (S:=aJ [(bq,yU)]) (ag (aa fS ac)) Bv (fun _=>qtU rfl) (qft rfl)
theorem CA:Tri Tryz.prog iV (Sn).pt:=
 dc (S:=aJ []) (ag ac) Bt (fun _=>qtU rfl) (qfk)
theorem Az:Tri Tryz.prog fP (Bg).pt:=
 dc (S:=aJ [(aK,vH),(iV,Sn)]) (ag (aa ep (aa CA ac))) zr (fun _=>qtU rfl) (Yd rfl rfl)
theorem CB:Tri Tryz.prog iW (Ss).pt:=
 dc (S:=aJ [(aK,vH),(bq,yU),(iU,Se),(iX,Sw)]) (ag (aa ep (aa fS (aa Cz (aa CD ac))))) Bu (fun _=>qtU rfl) (qfs rfl rfl rfl rfl)
theorem Eg:Tri Tryz.prog jV (YO).pt:=
 dc (S:=aJ [(aK,vH),(bq,yU),(iW,Ss)]) (ag (aa ep (aa fS (aa CB ac)))) Da (fun _=>qtU rfl) (qiM rfl rfl rfl)
theorem Ef:Tri Tryz.prog jU (YM).pt:=
 dc (S:=aJ [(fP,Bg),(jV,YO)]) (ag (aa Az (aa Eg ac))) C9 (fun _=>qtU rfl) (qiK rfl rfl)
theorem Eh:Tri Tryz.prog jW (YS).pt:=
 dc (S:=aJ [(bq,yU),(jU,YM)]) (ag (aa fS (aa Ef ac))) Dd (fun _=>qtU rfl) (qiQ rfl rfl)
theorem Hw:Tri Tryz.prog nq (qj).pt:=
 ae (S:=aJ []) (ag ac) Gn (fun _=>qtU rfl) (RC)
theorem Kx:Tri Tryz.prog pM (Ev).pt:=
 ae (S:=aJ []) (ag ac) ID (fun _=>qtU rfl) (VL)
theorem OV:Tri Tryz.prog ud (MT).pt:=
 ae (S:=aJ []) (ag ac) Nl (fun _=>qtU rfl) (qb5)
theorem RI:Tri Tryz.prog xi (Sj).pt:=
 ae (S:=aJ [(nq,qj),(pM,Ev),(ud,MT)]) (ag (aa Hw (aa Kx (aa OV ac)))) Py (fun _=>qtU rfl) (qfh rfl rfl rfl)
theorem Cy:Tri Tryz.prog iT (Sd).pt:=
 dc (S:=aJ [(de,Su)]) (ag (aa qA ac)) Bp (fun _=>qtU rfl) (qff rfl)
theorem Kz:Tri Tryz.prog pN (MQ).pt:=
 ae (S:=aJ []) (ag ac) IE (fun _=>qtU rfl) (VO)
theorem OW:Tri Tryz.prog ue (M9).pt:=
 ae (S:=aJ [(xi,Sj),(jW,YS),(bq,yU),(pN,MQ),(iT,Sd),(de,Su),(aK,vH)]) (ag (aa RI (aa Eh (aa fS (aa Kz (aa Cy (aa qA (aa ep ac)))))))) Nm (fun _=>qtU rfl) (qcj rfl rfl rfl rfl rfl rfl rfl)
theorem KD:Tri Tryz.prog pW (Eu).pt:=
 ae (S:=aJ [(ue,M9),(pV,MV),(eY,Pp),(xh,MU)]) (ag (aa OW (aa K9 (aa xQ (aa TI ac))))) IT (fun _=>qtU rfl) (VK rfl rfl rfl rfl)
end Go.Gv

namespace Go.Gv
open Go.Proofs
def tt:CC:=by refine(fun(_:G.ap (G.gn Tryz.prog Tryz.f49 [2006006] { cu:=[1] })=?c)=>?c) ?h;case h=>conv=>lhs; (conv=>arg 1;reduce);dsimp only[G.ap]
def sL:List ak:=[.cell 6 true 7]
theorem IR:aq Tryz.prog pT [2006006] tt sL 28:=ai mixed (by kernel_rfl)
def rb:CC:=by refine(fun(_:G.ap (G.gn Tryz.prog Tryz.f107 [2006006,2006006,2083008,2082008] { cu:=[2,4,6,18,21,24] })=?c)=>?c) ?h;case h=>conv=>lhs; (conv=>arg 1;reduce);dsimp only[G.ap]
def qM:List ak:=[.cell 6 true 7]
theorem Gx:aq Tryz.prog eI [2006006,2006006,2083008,2082008] rb qM 110:=ai mixed (by kernel_rfl)
def nZ:CC:=by refine(fun(_:G.ap (G.gn Tryz.prog Tryz.f21 [2006006] { cu:=[2,4,7] })=?c)=>?c) ?h;case h=>conv=>lhs; (conv=>arg 1;reduce);dsimp only[G.ap]
def na:List ak:=[.cell 6 true 13]
end Go.Gv
