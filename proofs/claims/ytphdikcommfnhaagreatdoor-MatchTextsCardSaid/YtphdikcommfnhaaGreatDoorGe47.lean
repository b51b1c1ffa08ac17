/- A part of the framework and of the walks: T45 Asm24 C4 W42. -/
import Derived.Test.YtphdikcommfnhaaGreatDoorGe39
import Derived.Test.YtphdikcommfnhaaGreatDoorGe40
import Derived.Test.YtphdikcommfnhaaGreatDoorGe28
import Derived.Test.YtphdikcommfnhaaGreatDoorGe32
import Derived.Test.YtphdikcommfnhaaGreatDoorGe29
import Derived.Test.YtphdikcommfnhaaGreatDoorGe35
import Derived.Test.YtphdikcommfnhaaGreatDoorGe36
import Derived.Test.YtphdikcommfnhaaGreatDoorGe46
import Derived.Test.YtphdikcommfnhaaGreatDoorGe44
import Derived.Test.YtphdikcommfnhaaGreatDoorGe20
import Derived.Test.YtphdikcommfnhaaGreatDoorGe25
import Derived.Test.YtphdikcommfnhaaGreatDoorGe22
set_option linter.unusedSimpArgs false
set_option linter.unusedVariables false
set_option linter.unusedSectionVars false
set_option maxRecDepth 100000
set_option maxHeartbeats 0

namespace Go.Gv
open Cod (enc dec)
theorem qcS{ds:List D}(h:∀d∈ds,To d):To (.agg ds):=fun tp I tp' I' w w' x hr=>by
 cases hr with
 | agg xs _ hl h1' hk=>exact .agg xs _ hl h1' fun k y c h1 h2=>h c (qxC h2) _ _ _ _ _ _ _ (hk k y c h1 h2)
section
variable {X Y:Type}[Cod Y]
theorem Qt{P:Program}{f:Nat}{A:df X}{pre:D×X->Prop}{post:D×X->List Y->Prop}{el n:Nat}(hn:n=Cod.wd Y)(hf:Tri P f (qlJ (Y:=Y) (aD A) pre post el n).pt)(hflat:∀y:Y,∀c∈ (enc y).cells,To c):Tri P f (qh7 A pre (enc (X:=List Y)) post).pt:=by
 intro O tp w vs ds H d K hO htl hsat hlen hargs hA
 obtain⟨id,bk,cells,ds',x,rfl,hd,hid,hp,hK⟩:=hA
 cases vs with
 | nil=>simp at hlen
 | cons v0 vs=>
   have hv0:v0= .pointer (some ⟨bk,0,none⟩):=by
    have:=hargs 0 v0 (.bptr id bk 0) rfl rfl
    cases this;rfl
   subst hv0
   let O':Nat->Prop:=fun b=>O b\/ ∃i r,i≠id/\H i=some r/\r.blk=some b
   have himm:∀b,aN O tp H w b->aN O' tp bM w b:=fun b hb=>⟨hb.1,fun h=>h.elim hb.2.1 fun⟨i,r,_,h1,h2⟩=>hb.2.2.2 ⟨i,r,h1,h2⟩,hb.2.2.1,fun⟨i,r,h1,_⟩=>by simp at h1⟩
   have hmv:∀y e,R tp (aN O tp H w) w y e->R tp (aN O' tp bM w) w y e:=fun y e hr=>hr.mono (fun _ h=>h) (fun b hb=>⟨himm b hb,rfl⟩) (fun b _=> .refl _ _)
   have hl:R tp (aN O' tp bM w) w (.pointer (some ⟨bk,0,none⟩)) (.cptr cells 0):=by
    have hbk:(Res.box bk cells).blk=some bk:=rfl
    have h1:=hsat.out id _ bk hid hbk
    have hI:aN O' tp bM w bk:=⟨(hsat.ok id _ hid).lt hbk,fun h=>h.elim h1.1 fun⟨i,r,hne,h2,h3⟩=>hne (hsat.dis _ _ _ _ bk h2 hid h3 hbk),h1.2,fun⟨i,r,h2,_⟩=>by simp at h2⟩
    obtain⟨xs,el,g1,g2,g3⟩:=(hsat.ok id _ hid).conv hmv (fun _ _=>rfl)
    obtain⟨f,k1,k2,k3⟩:=ql g1 g2 g3
    have:=R.cptr (tp:=tp) bk 0 cells 0 f hI (fun _=>⟨_,_,g1⟩) k1 k2 k3
    simpa using this
   have hdec:(aD A).dec (.cptr cells 0::ds')=some (.cptr cells 0,x):=by simp[hd]
   obtain⟨hce,hc⟩:=hf O' tp w (.pointer (some ⟨bk,0,none⟩)::vs) (.cptr cells 0::ds') bM d (fun r H'=>∃v l,r= .own d v/\post (.cptr cells 0,x) l/\H'=ah bM d (some (.row v el n (l.map enc))))
    (fun b hb=>hb.elim (hO b) fun⟨i,r,_,h1,h2⟩=>(hsat.ok i r h1).lt h2) (htl.mono fun b ⟨i,r,h,_⟩=>by simp at h) ⟨fun i j r s b h=>by simp at h,fun i r b h=>by simp at h,fun i r h=>by simp at h⟩ (by simpa using hlen)
    (fun k y e h1 h2=>by
      cases k with
      | zero=>simp at h1 h2;subst h1;subst h2;exact hl
      | succ k=>simp at h1 h2;exact hmv _ _ (hargs (k+1) y e (by simpa using h1) (by simpa using h2)))
    (by rw[qcQ,hdec];exact⟨hp,fun v l hz=>⟨v,l,rfl,hz,rfl⟩⟩)
   refine⟨hce,hc.mono ?_⟩
   rintro e w' ⟨q,r,H',tp',rfl,⟨v,l,rfl,hz,rfl⟩,t1,t2,t3,hs,ho,hsat',hR⟩
   have hsame:∀b,b < w.heap.size->¬tp b->w'.heap[b]? =w.heap[b]?:=fun b hb ht=>hs.same b hb (fun⟨i,r,h,_⟩=>by simp at h) ht
   have hmove:∀y e,R tp (aN O tp H w) w y e->R tp' (aN O tp' H w') w' y e:=fun y e hr=>hr.mono t1 (fun b hb=>⟨⟨qxU hb.1 hs.size,hb.2.1,fun h=>by
    rcases t2 b h with h|h
    ·exact hb.2.2.1 h
    ·have:=hb.1;omega,hb.2.2.2⟩,hsame b hb.1 hb.2.2.1⟩) hs.tapes
   have hrow:ah bM d (some (.row v el n (l.map enc))) d=some (.row v el n (l.map enc)):=by simp[ah]
   have hrk:=hsat'.ok d _ hrow
   have hrk':ResOk (R tp' (aN O tp' H w') w') w' (.row v el n (l.map enc)):=by
    obtain⟨xs,g1,g2,g3⟩:=hrk
    refine⟨xs,g1,g2,fun k y c h1 h2=>⟨(g3 k y c h1 h2).1,?_⟩⟩
    have hm:c∈aW (l.map enc):=qxC h2
    obtain⟨e,he,hce⟩:=qyE.1 hm
    obtain⟨y',_,rfl⟩:=qxL.1 he
    exact hflat y' c hce _ _ _ _ _ _ _ (g3 k y c h1 h2).2
   have hfresh:∀b,(Res.row v el n (l.map enc)).blk=some b->aN O tp' H w' b:=fun b hb=>by
    have h1:=ho b ⟨d,_,hrow,hb⟩
    have h2:w.heap.size<=b:=h1.elim (fun⟨i,r,h,_⟩=>by simp at h) fun h=>h
    refine⟨hrk.lt hb,fun h=>?_,(hsat'.out d _ b hrow hb).2,fun⟨i,r,h3,h4⟩=>?_⟩
    ·have:=hO b h;omega
    ·have:=(hsat.ok i r h3).lt h4;omega
   refine⟨q,enc l,H,tp',rfl,hK l hz,t1,t2,t3,⟨hs.os,hs.tape,hs.output,hs.size,fun b hb _ ht=>hsame b hb ht,hs.tapes,hs.drawn⟩,fun b h=> .inl h,⟨hsat.dis,fun i r b h1 h2=>?_,fun i r h1=>?_⟩,?_⟩
   ·have:=hsat.out i r b h1 h2
    refine⟨this.1,fun h=>?_⟩
    rcases t2 b h with h|h
    ·exact this.2 h
    ·have:=(hsat.ok i r h1).lt h2;omega
   ·exact(hsat.ok i r h1).conv hmove fun b hb=>hsame b ((hsat.ok i r h1).lt hb) (hsat.out i r b h1 hb).2
   ·have hone:∀i r,ah bM d (some (.row v el n (l.map enc))) i=some r->r= .row v el n (l.map enc):=fun i r h=>by
     unfold ah at h
     split at h
     ·exact(qxO h).symm
     ·simp at h
    have hfz:FrzTo (ah bM d (some (.row v el n (l.map enc)))) (.own d v) (.list n (l.map enc)):=gl el hrow hn
    have e1:(enc l:D)= .list n (l.map enc):=by subst hn;rfl
    have hRo:R tp' (aN O tp' H w') w' q (.own d v):=by
     cases hR with
     | own _ _ h=>exact .own _ _ h
    rw[e1]
    exact FrzTo.R (H:=H) hfz (fun i r h=>by rw[hone i r h];exact hrk') (fun _ h=>h) (fun i r b h hb=>by rw[hone i r h]at hb;exact hfresh b hb) hRo
end
open Go.Proofs
variable {S:Nat->Spc}
set_option maxRecDepth 100000 in
theorem qeS:Tg (Y:=Int) cP cK S (aD (a1 St3)) ND Tj iB 1:=by
 rintro⟨d,s⟩ ⟨⟨r,k,hd,hl⟩,hs⟩
 have hd:d= .cptr (lF r k) 0:=hd
 subst hd
 simp[cP,cK,lF, -Bool.forall_bool, -Bool.exists_bool]
 intro hl1
 refine⟨by omega,by omega,fun v hl2=>?_⟩
 refine ai (X:=List Int) [3,5] [] r.lb.length (fun k z=>z.length=r.lb.length/\∀i,i < k->z[i]? =some (s.get i -1)) (fun _=>[]) (fun z=>[(12, .row v iB 1 (z.map enc))]) (List.replicate r.lb.length 0) (by simp) (by simp) (by omega) (by simp) (by simp) (by simp) (by simp) (by simp) ?_ ?_
 ·rintro j z hj ⟨hz1,hz2⟩
  have hg:=R2 s (k:=j) (by omega)
  have hb:0<=s.get j/\s.get j<=1000000:=hs.2.2 j
  have hjz:j < z.length:=by omega
  simp[hj,hg,hjz, -Bool.forall_bool, -Bool.exists_bool]
  refine⟨by omega,by omega,by simp only[InR];omega,z.set j (s.get j -1),⟨by simp[hz1],fun i hi=>?_⟩, .inl (by rw[qzO];rfl)⟩
  by_cases e:j=i
  ·subst e
   rw[qyF (by omega)]
  ·rw[qzI e]
   exact hz2 i (by omega)
 ·rintro z ⟨hz1,hz2⟩
  simp[-Bool.forall_bool, -Bool.exists_bool]
  refine kg z (by simp[ah]) fun r' k' e=>?_
  have e:D.cptr (lF r k) 0= .cptr (lF r' k') 0:=e
  obtain rfl:=D7 e
  refine qyw fun i=>?_
  unfold NB
  rw[qxQ]
  by_cases hi:i < r.lb.length
  ·rw[hz2 i hi,qyG hi];rfl
  ·rw[qx7 (by omega),qx7 (by simp;omega)];rfl
end Go.Gv

namespace Go.Gv
open Go.Proofs Cod
theorem iD{P:Program}{f:Nat}{A:Nat->PT}{A':PT}(h:∀n,Tri P f (A n))(hs:∀d ds H K,A' d ds H K->∃n,A n d ds H K):Tri P f A':=
 fun O tp w vs ds H d K a b c e g hA=>(hs d ds H K hA).elim fun n hn=>h n O tp w vs ds H d K a b c e g hn
theorem sS{P:Program}{f:Nat}{A:PT}(hs:∀d ds H K,¬A d ds H K):Tri P f A:=fun O tp w vs ds H d K a b c e g hA=>absurd hA (hs d ds H K)
theorem lK{X Y:Type}{A:df X}{pre:Nat->X->Prop}{pre':X->Prop}{er:Y->D}{post:X->Y->Prop}(hx:∀x,pre' x->∃n,pre n x):∀d ds H K,(aI A pre' er post).pt d ds H K->∃n,(aI A (pre n) er post).pt d ds H K:=by
 intro d ds H K h
 rw[sT]at h
 cases e:A.dec ds with
 | none=>rw[e]at h;exact h.elim
 | some x=>
   rw[e]at h
   obtain⟨h1,h2⟩:=h
   obtain⟨n,hn⟩:=hx x h1
   exact⟨n,by rw[sT,e];exact⟨hn,h2⟩⟩
theorem dj{P:Program}{f:Nat}{X Y:Type}{A:df X}{pre:X->Prop}{er:Y->D}{post:X->Y->Prop}(hx:∀x,¬pre x):Tri P f (aI A pre er post).pt:=sS fun d ds H K h=>by
 rw[sT]at h
 cases e:A.dec ds with
 | none=>rw[e]at h;exact h.elim
 | some x=>rw[e]at h;exact hx x h.1
theorem Ob{P:Program}{f:Nat}{Y Z:Type}{A:df Z}{er:Y->D} :Tri P f (qeD A er fun _ _=>none).pt:=sS fun d ds H K h=>by
 obtain⟨id,b',x,z,ds',h1,h2,h3,h4,h5,⟨r,h6⟩,h7⟩:=h
 cases h6
theorem qfo{P:Program}{f:Nat} :Tri P f (qlm fun _ _ _=>none).pt:=sS fun d ds H K h=>by
 obtain⟨id',b',x,n',k,r,d0',h1,h2,h3,h4,h5⟩:=h
 cases h4
theorem quu{p:Cond}(h:mC p<=0):False:=by rw[PB]at h;omega
theorem E7:Tri Tryz.prog ei (Ik).pt:=
 ae (ag ac) CO (fun _=>qxy rfl) (DA)
theorem GH:Tri Tryz.prog pS (s_cpFold1).pt:=Yd (S:=Ig [(ei,Ik)]) (ag (aa E7 ac)) rfl
theorem GJ:Tri Tryz.prog pT (qa3).pt:=
 ae (ag ac) Ew (fun _=>qxy rfl) (Fs)
theorem Di:Tri Tryz.prog mg (qbg).pt:=
 ae (ag (aa GJ ac)) BJ (fun _=>qxy rfl) (Cg rfl)
theorem Gx:Tri Tryz.prog cM (qa4).pt:=
 ae (ag (aa Di ac)) Ee (fun _=>qxy rfl) (Fj rfl)
theorem lB:Tri Tryz.prog cE (qa8).pt:=
 ae (ag (aa Gx ac)) kQ (fun _=>qxy rfl) (Lr rfl)
theorem qX:Tri Tryz.prog dU (qa0).pt:=
 ae (ag (aa lB ac)) pB (fun _=>qxy rfl) (Lq rfl)
theorem EX:Tri Tryz.prog nR (Q8).pt:=
 ae (ag ac) CD (fun _=>qxy rfl) (N3)
theorem H8:Tri Tryz.prog rF (Wg).pt:=
 ae (ag (aa EX ac)) FT (fun _=>qxy rfl) (TD rfl)
theorem wS:Tri Tryz.prog ee (qfs).pt:=
 ae (ag (aa H8 (aa qX ac))) vB (fun _=>qxy rfl) (wq rfl rfl)
theorem wW:Tri Tryz.prog ee (Xu).pt:=IW wS rfl (fun _=>R5 (fun _ h=>by cases h))
theorem K3:Tri Tryz.prog tC (QT).pt:=
 TO (ag (aa wW ac)) HI (fun _=>qxy rfl) (IA rfl)
theorem SP:Tri Tryz.prog AA (qaM).pt:=
 ae (ag ac) OG (fun _=>qxy rfl) (P5)
theorem cw:Tri Tryz.prog bi (uJ).pt:=
 ff (ag (aa DQ ac)) Ae (fun _=>qxy rfl) (NM rfl)
theorem BL:Tri Tryz.prog kS (VK).pt:=
 ff (ag (aa DQ ac)) Ad (fun _=>qxy rfl) (NL rfl)
theorem lD:Tri Tryz.prog dM (Oj).pt:=
 ff (ag (aa cw (aa BL ac))) uA (fun _=>qxy rfl) (Dr rfl rfl)
theorem zy:Tri Tryz.prog iM (qaN).pt:=
 ff (ag (aa cw (aa zK (aa lD ac)))) xJ (fun _=>qxy rfl) (IB rfl rfl rfl)
theorem A2:Tri Tryz.prog jE (qaO).pt:=
 ff (ag (aa cw (aa zy (aa K3 ac)))) zl (fun _=>qxy rfl) (Lv rfl rfl rfl)
theorem BM:Tri Tryz.prog kT (VL).pt:=
 ff (ag (aa cw (aa SP (aa A2 (aa zK (aa lD ac)))))) Af (fun _=>qxy rfl) (NN rfl rfl rfl rfl rfl)
theorem zx:Tri Tryz.prog iL (qaL).pt:=
 ff (ag (aa cw (aa BM ac))) xI (fun _=>qxy rfl) (Iz rfl rfl)
theorem zz:Tri Tryz.prog iN (qaP).pt:=
 ff (ag (aa cw (aa zx ac))) xK (fun _=>qxy rfl) (IC rfl rfl)
theorem A1:Tri Tryz.prog jD (qaK).pt:=
 ff (ag (aa cw (aa zz ac))) zj (fun _=>qxy rfl) (Ls rfl rfl)
theorem A0:∀n,Tri Tryz.prog qz (qlm (vm n)).pt
 | 0=>qfo
 | n+1=>TK (ag (aa (A0 n) ac)) JI (by decide) (Lt n rfl)
theorem Gw:Tri Tryz.prog pH (QR).pt:=
 ae (ag ac) Ed (fun _=>qxy rfl) (Fi)
theorem EU:Tri Tryz.prog nH (MH).pt:=
 ae (ag (aa Gw ac)) Cs (fun _=>qxy rfl) (Dp rfl)
theorem so:∀n,Tri Tryz.prog gN (Cn n).pt
 | 0=>dj fun x h=>by cases h
 | n+1=>ae (ag (aa EU (aa (so n) ac))) BC (fun _=>qxy rfl) (B9 n rfl rfl)
theorem uo:∀n,Tri Tryz.prog iY (Ue n).pt
 | 0=>dj fun x h=>by obtain⟨m,h⟩:=h;cases h
 | n+1=>ae (ag (aa (uo n) ac)) Ct (fun _=>qxy rfl) (Dq n rfl)
theorem wT:Tri Tryz.prog kj (QS).pt:=
 ae (ag (aa (A0 50) (aa (so 50) (aa (uo 50) ac)))) Eg (fun _=>qxy rfl) (Fl rfl rfl rfl)
theorem B3:Tri Tryz.prog qB (FG).pt:=
 ae (ag (aa qiR (aa A1 (aa wT ac)))) JK (fun _=>qxy rfl) (Lw rfl rfl rfl)
theorem B4:Tri Tryz.prog qE (VZ).pt:=
 ae (ag (aa B3 ac)) J6 (fun _=>qxy rfl) (LP rfl)
theorem Gy:Tri Tryz.prog pI (qft).pt:=
 ae (ag ac) Ef (fun _=>qxy rfl) (Fk)
theorem sr:Tri Tryz.prog fN (Ok).pt:=
 sR (ag ac) Am (fun _=>qxy rfl) (qiB)
theorem iV:Tri Tryz.prog dt (Ij).pt:=
 sR (ag (aa sr ac)) xM (fun _=>qxy rfl) (qad rfl)
theorem K2:∀n,Tri Tryz.prog cO (Jk n).pt/\Tri Tryz.prog iO (qaS n).pt/\Tri Tryz.prog eh (Uc n).pt
 | 0=>⟨Ob,Ob,Ob⟩
 | n+1=>⟨sR (ag (aa (K2 n).1 (aa (K2 n).2.1 (aa iV ac)))) zr (fun _=>qxy rfl) (qe4 n rfl rfl rfl),sR (ag (aa (K2 n).1 (aa (K2 n).2.2 (aa iV (aa sr ac))))) xL (fun _=>qxy rfl) (qaa n rfl rfl rfl rfl),sR (ag (aa (K2 n).1 (aa (K2 n).2.2 (aa iV ac)))) vD (fun _=>qxy rfl) (Ty n rfl rfl rfl)⟩
theorem SQ:Tri Tryz.prog AM (qhB 50).pt:=
 ae (ag (aa (K2 50).1 ac)) OU (fun _=>qxy rfl) (qsh 50 rfl)
theorem BN:Tri Tryz.prog kV (qaT).pt:=
 ae (ag ac) An (fun _=>qxy rfl) (qe6)
theorem Gu:Tri Tryz.prog cL (qhA).pt:=
 ae (ag (aa GH ac)) Ec (fun _=>qxy rfl) (Tu rfl)
theorem H7:Tri Tryz.prog dc (qhF).pt:=
 ae (ag ac) FM (fun _=>qxy rfl) (Ho)
theorem B2:Tri Tryz.prog qA (qaY).pt:=
 ae (ag (aa wT (aa Mz (aa SQ (aa BN (aa Gy (aa H7 (aa Gu ac)))))))) JJ (fun _=>qxy rfl) (Lu rfl rfl rfl rfl rfl rfl rfl)
theorem Mo:Tri Tryz.prog vG (Wm false).pt:=
 ae (ag (aa B2 ac)) JL (fun _=>qxy rfl) (Lx rfl)
theorem EV:Tri Tryz.prog nI (Wm true).pt:=
 ae (ag (aa B2 ac)) Cu (fun _=>qxy rfl) (Ds rfl)
theorem Mu:Tri Tryz.prog vR (VY).pt:=
 ae (ag (aa B3 (aa Mo (aa EV ac)))) J5 (fun _=>qxy rfl) (LO rfl rfl rfl)
theorem yY:Tri Tryz.prog bZ (qbk).pt:=
 ae (ag ac) Er (fun _=>qxy rfl) (Fq)
theorem H9:Tri Tryz.prog eq (MO).pt:=
 ae (ag (aa yY ac)) Ep (fun _=>qxy rfl) (Fp rfl)
theorem Df:Tri Tryz.prog bw (VN).pt:=
 ae (ag (aa yY (aa H9 ac))) Ak (fun _=>qxy rfl) (By rfl rfl)
theorem sq:Tri Tryz.prog cq (FF).pt:=
 ae (ag (aa Mz ac)) Aj (fun _=>qxy rfl) (Bw rfl)
theorem Ia:Tri Tryz.prog rI (QX).pt:=
 ae (ag (aa sq ac)) FZ (fun _=>qxy rfl) (Hz rfl)
theorem Dg:Tri Tryz.prog lZ (qbc).pt:=
 ae (ag ac) BH (fun _=>qxy rfl) (Cb)
theorem Mt:Tri Tryz.prog vQ (qbb).pt:=
 ae (ag (aa Ia (aa Dg ac))) J4 (fun _=>qxy rfl) (LN rfl rfl)
theorem qY:∀n,Tri Tryz.prog eA (Q2 n).pt
 | 0=>dj fun x h=>quu h.1
 | n+1=>ae (ag (aa (qY n) ac)) Ao (fun _=>qxy rfl) (zF n rfl)
theorem BO:Tri Tryz.prog eA (Q3).pt:=iD (fun n=>qY n) (lK (fun x h=>h))
theorem E1:Tri Tryz.prog nT (MQ).pt:=
 ae (ag ac) CH (fun _=>qxy rfl) (Ce)
theorem wV:Tri Tryz.prog bN (Ou).pt:=
 ae (ag ac) vE (fun _=>qxy rfl) (ws)
theorem sa:Tri Tryz.prog eo (Ul Attr (Ig [(bN,Ou)])).pt:=
 ae (ag (aa wV ac)) qN (fun _=>qxy rfl) (IP)
theorem dv:Tri Tryz.prog bG (Bg).pt:=
 ae (ag (aa sa ac)) xN (fun _=>qxy rfl) (zg (S0:=(Ig [(bN,Ou)])) rfl rfl)
theorem vd:Tri Tryz.prog jc (Js).pt:=
 ae (ag (aa dv ac)) CL (fun _=>qxy rfl) (Dx rfl)
theorem E6:Tri Tryz.prog nW (Q7).pt:=
 ae (ag ac) CN (fun _=>qxy rfl) (Dz)
theorem eT:Tri Tryz.prog cy (Jq).pt:=
 ae (ag ac) xH (fun _=>qxy rfl) (IN)
theorem lC:Tri Tryz.prog aQ (Ui).pt:=
 ae (ag (aa eT ac)) kC (fun _=>qxy rfl) (DD rfl)
theorem E4:Tri Tryz.prog nU (Q1).pt:=
 ae (ag (aa vd (aa dv (aa Df ac)))) CJ (fun _=>qxy rfl) (Dw rfl rfl rfl)
theorem E5:Tri Tryz.prog nV (Q6).pt:=
 ae (ag (aa E1 (aa E4 (aa B4 (aa dv (aa TJ (aa sq (aa lC ac)))))))) CM (fun _=>qxy rfl) (Dy rfl rfl rfl rfl rfl rfl rfl)
theorem yF:Tri Tryz.prog cg (Wf).pt:=
 ae (ag (aa E5 ac)) wK (fun _=>qxy rfl) (xa rfl)
theorem uZ:∀n,Tri Tryz.prog ga (QZ n).pt
 | 0=>dj fun x h=>by obtain⟨a,lb,_,h,_⟩:=h;cases h
 | n+1=>ae (ag (aa yF (aa (uZ n) ac))) Eu (fun _=>qxy rfl) (Dv n rfl rfl)
theorem GD:Tri Tryz.prog ga (QY).pt:=iD (fun n=>uZ n) (lK (fun x h=>h))
theorem qZ:Tri Tryz.prog fw (Uk).pt:=
 ae (ag (aa BO (aa GD ac))) zu (fun _=>qxy rfl) (zG rfl rfl)
theorem BK:Tri Tryz.prog kR (VX).pt:=
 ae (ag ac) Ac (fun _=>qxy rfl) (N4)
theorem yD:Tri Tryz.prog gM (Wb).pt:=
 ae (ag (aa BK ac)) wH (fun _=>qxy rfl) (HB rfl)
theorem A4:Tri Tryz.prog bV (D5).pt:=
 ae (ag (aa yD ac)) zt (fun _=>qxy rfl) (zD rfl)
theorem uD:Tri Tryz.prog dh (Ul Region (Ig [(bV,D5)])).pt:=
 ae (ag (aa A4 ac)) jx (fun _=>qxy rfl) (GR)
theorem sd:Tri Tryz.prog bA (Yp Region (Ig [(bV,D5)])).pt:=
 ae (ag (aa uD ac)) gr (fun _=>qxy rfl) (GS rfl)
theorem Dh:Tri Tryz.prog mf (qbf).pt:=
 ae (ag (aa sd ac)) BI (fun _=>qxy rfl) (Cf (S0:=(Ig [(bV,D5)])) rfl rfl)
theorem uq:∀n,Tri Tryz.prog ja (Jr n).pt
 | 0=>dj fun x h=>by obtain⟨_,y,h⟩:=h;cases h
 | n+1=>
   have g1:Tri Tryz.prog aG (Uh n).pt:=ae (ag (aa (uq n) ac)) Aq (fun _=>qxy rfl) (X4 n rfl)
   have g2:Tri Tryz.prog ct (qa9 n).pt:=ae (ag (aa g1 ac)) Ap (fun _=>qxy rfl) (X3 n rfl)
   have g3:Tri Tryz.prog fX (Ul Cond (Ig [(aG,Uh n),(ct,qa9 n)])).pt:=ae (ag (aa g1 (aa g2 ac))) vC (fun _=>qxy rfl) (X7)
   have g4:Tri Tryz.prog eP (Yp Cond (Ig [(aG,Uh n),(ct,qa9 n)])).pt:=ae (ag (aa g3 ac)) sw (fun _=>qxy rfl) (X8 rfl)
   ae (ag (aa g1 (aa g4 (aa vd (aa E6 (aa Mu (aa dv (aa Mt (aa eT (aa Dh ac)))))))))) CK (fun _=>qxy rfl) (qeZ (S0:=(Ig [(aG,Uh n),(ct,qa9 n)])) n rfl rfl rfl rfl rfl rfl rfl rfl rfl rfl rfl)
theorem Ic:Tri Tryz.prog rK (yM).pt:=
 ae (ag ac) F1 (fun _=>qxy rfl) (HA)
theorem ve:Tri Tryz.prog jd (mV).pt:=
 ae (ag (aa Ic ac)) CP (fun _=>qxy rfl) (DB rfl)
theorem PA:Tri Tryz.prog yj (D6).pt:=
 ae (ag ac) Mg (fun _=>qxy rfl) (N1)
theorem AZ:Tri Tryz.prog jC (qbh).pt:=
 ae (ag (aa ve ac)) zi (fun _=>qxy rfl) (qiG rfl)
theorem yX:Tri Tryz.prog iq (s_cmpM).pt:=
 ae (ag (aa ve (aa AZ (aa PA ac)))) FU (fun _=>qxy rfl) (qiF rfl rfl rfl)
theorem Ib:Tri Tryz.prog rJ (MS).pt:=
 ae (ag ac) F0 (fun _=>qxy rfl) (X6)
theorem Mp:Tri Tryz.prog vH (qaZ).pt:=
 ae (ag ac) JM (fun _=>qxy rfl) (qiu)
theorem Vc:Tri Tryz.prog C7 (VR).pt:=
 ae (ag (aa Mp ac)) Rk (fun _=>qxy rfl) (qeO rfl)
theorem Ms:Tri Tryz.prog vO (VS).pt:=
 ae (ag ac) J2 (fun _=>qxy rfl) (LM)
theorem GE:Tri Tryz.prog pR (VW).pt:=
 ae (ag (aa (uq 21) ac)) Ev (fun _=>qxy rfl) (qeX rfl)
theorem yE:Tri Tryz.prog da (qa6).pt:=
 ae (ag ac) mJ (fun _=>qxy rfl) (qiz)
theorem qoq:Tri Tryz.prog da b_masg.pt:=Qt rfl (Bd (ag ac) mJ (fun _=>qxy rfl) (qeS)) fun y c hc=>by
 simp at hc
 subst hc
 exact Ku _
theorem EY:Tri Tryz.prog iZ (qi7).pt:=
 ae (ag (aa yE (aa GE (aa eT ac)))) CE (fun _=>qxy rfl) (qix rfl rfl rfl)
theorem qoo:Tri Tryz.prog iZ b_mtok.pt:=GV EY fun z=>by
 obtain⟨s,v⟩:=z
 simp only[qnS]
 refine R5 fun d hd=>?_
 simp only[qxD,qxY,or_false]at hd
 rcases hd with rfl|rfl
 ·exact qcS fun d hd=>by
   simp only[qxD,qxY,or_false]at hd
   rcases hd with rfl|rfl|rfl|rfl <;> exact Ku _
 ·exact Ku _
theorem A3:Tri Tryz.prog bU (D2).pt:=
 ae (ag ac) zq (fun _=>qxy rfl) (qeT)
theorem De:Tri Tryz.prog gO (qi8).pt:=
 have h1:Tri Tryz.prog dh (Ul Region (Ig [(bU,D2)])).pt:=ae (ag (aa A3 ac)) jx (fun _=>qxy rfl) (GR)
 have h2:Tri Tryz.prog bA (Yp Region (Ig [(bU,D2)])).pt:=ae (ag (aa h1 ac)) gr (fun _=>qxy rfl) (GS rfl)
 ae (ag (aa h2 ac)) BE (fun _=>qxy rfl) (qiA (S0:=Ig [(bU,D2)]) rfl rfl)
theorem qor:Tri Tryz.prog gO b_manc.pt:=GV De fun _=>Ku _
theorem Py:Tri Tryz.prog yg (VU).pt:=
 ae (ag ac) Md (fun _=>qxy rfl) (qeQ)
theorem Pz:Tri Tryz.prog uV clC.pt:=Yg Tryz.cloneSet rfl (iA Tryz.func184 (by kernel_rfl) rfl)
theorem GB:Tri Tryz.prog pP (qa5).pt:=
 TN (ag ac) Es (fun _=>qxy rfl) (qiy)
theorem qbz:Tri Tryz.prog cZ (MJ 0).pt:=sS fun d ds H K h=>by
 obtain⟨id,b',x,z,ds',h1,h2,h3,h4,h5,h6,h7⟩:=h
 obtain⟨_,_,_,q,_,hq,_⟩:=h6
 rw[Im]at hq
 omega
theorem Xq:∀n,Tri Tryz.prog cZ (MJ n).pt
 | 0=>qbz
 | n+1=>
   have h1:Tri Tryz.prog ku (Ug n).pt:=Ci (ag (aa (Xq n) ac)) Eo (fun _=>qxy rfl) (qiC n rfl)
   have h2:Tri Tryz.prog lY (qhD n).pt:=Ci (ag (aa Py (aa h1 (aa (Xq n) (aa Pz (aa GB ac)))))) BD (fun _=>qxy rfl) (qmf n rfl rfl rfl rfl rfl)
   Ci (ag (aa qoo (aa qor (aa h1 (aa (Xq n) (aa h2 ac)))))) CF (fun _=>qxy rfl) (qeN n rfl rfl rfl rfl rfl)
theorem qkH:Tri Tryz.prog mO (Ud iq wy).pt:=Yf Tryz.sortMatch rfl (fun w=>Tryz.isAgg55 w) (fun w=>Tryz.sizeOf55 w) rfl yX (iA Tryz.func19 (by kernel_rfl) rfl) (iA Tryz.func83 (by kernel_rfl) rfl)
theorem qju{p:Pat}(h:eD p<=0):False:=by rw[Im]at h;omega
theorem yK:Tri Tryz.prog bZ (zS).pt:=
 ae (ag ac) FW (fun _=>qxy rfl) (Hx)
theorem HE:Tri Tryz.prog eq (QU).pt:=
 ae (ag (aa yK ac)) FV (fun _=>qxy rfl) (Hw rfl)
theorem gz:Tri Tryz.prog bw (zP).pt:=
 ae (ag (aa yK (aa HE ac))) BF (fun _=>qxy rfl) (Ca rfl rfl)
theorem N6:Tri Tryz.prog yf (qaJ).pt:=
 ae (ag ac) L8 (fun _=>qxy rfl) (NT)
theorem N7:Tri Tryz.prog ko (On).pt:=
 ae (ag (aa N6 ac)) Ma (fun _=>qxy rfl) (NW rfl)
theorem LT:Tri Tryz.prog cV (Bf).pt:=
 ae (ag (aa gz ac)) JT (fun _=>qxy rfl) (LD rfl)
theorem IR:Tri Tryz.prog cF (wB).pt:=
 ae (ag ac) HN (fun _=>qxy rfl) (IG)
def ZR:Nat->Spc:=Ig [(ko,On),(cV,Bf),(cF,wB)]
def qwM(n:Nat):Nat->Spc:=Ig [(ft,qaV n)]
theorem qdw{S:Nat->Spc}(h:∀f,Tri Tryz.prog f (S f).pt):Tri Tryz.prog aJ (Ov S).pt:=
 ae (ag (aa (ae (S:=S) h sv (fun _=>qxy rfl) sQ) ac)) pE (fun _=>qxy rfl) (qH rfl)
theorem yN:∀n,Tri Tryz.prog ij (MI n).pt
 | 0=>dj fun x h=>qju h.1
 | n+1=>
   have h1:Tri Tryz.prog ft (qaV n).pt:=ae (ag (aa (yN n) ac)) CB (fun _=>qxy rfl) (Du n rfl)
   ae (ag (aa (qdw (S:=qwM n) (ag (aa h1 ac))) ac)) FP (fun _=>qxy rfl) (Hq (S0:=qwM n) n rfl rfl)
theorem HC:Tri Tryz.prog ij (Jl).pt:=
 iD (fun n=>yN n) (lK (fun x h=>⟨eD x.1,qxI _,h⟩))
def qvn(n:Nat):Nat->Spc:=Ig [(io,qbe ZR n)]
def qvm(n:Nat):Nat->Spc:=Ig [(aJ,Ov (qvn n)),(ko,On),(cV,Bf),(cF,wB)]
theorem qfY(n:Nat)(d:D)(f:Pat->Bool)(h:FunIs ZR d f):FunIs (qvm n) d f:=by
 obtain⟨g,c,pc,a,b,e⟩:=h
 refine⟨g,c,pc,a,?_,e⟩
 by_cases hg:g=aJ
 ·subst hg
  have:ZR aJ=Spc.none:=rfl
  rw[this]at b
  cases b
 ·rw[<-b]
  unfold qvm ZR
  rw[Ig,if_neg hg]
theorem BW:∀n,Tri Tryz.prog eG (V9 ZR n).pt
 | 0=>dj fun x h=>by obtain⟨f,h1,h2⟩:=h;exact qju h2
 | n+1=>
   have h1:Tri Tryz.prog io (qbe ZR n).pt:=ae (ag (aa (BW n) ac)) FR (fun _=>qxy rfl) (Hu (S0:=ZR) n rfl)
   ae (S:=qvm n) (ag (aa (qdw (S:=qvn n) (ag (aa h1 ac))) (aa N7 (aa LT (aa IR ac))))) JU (fun _=>qxy rfl) (LE (S0:=qvn n) (N:=ZR) n (qfY n) rfl rfl)
theorem qr:Tri Tryz.prog eG (zR ZR).pt:=
 iD (fun n=>BW n) (lK (fun x h=>by obtain⟨f,h⟩:=h;exact⟨eD x.1,f,h,qxI _⟩))
theorem vj:Tri Tryz.prog lz (Il).pt:=
 ae (ag (aa HC (aa qr ac))) JY (fun _=>qxy rfl) (LK (N:=ZR) rfl rfl rfl)
theorem BR:Tri Tryz.prog qC (rh).pt:=
 ae (ag (aa vj (aa qr ac))) JS (fun _=>qxy rfl) (LB (N:=ZR) rfl rfl rfl rfl)
theorem D9:∀n,Tri Tryz.prog km (qaU n).pt
 | 0=>dj fun x h=>qju h.1
 | n+1=>ae (ag (aa (D9 n) ac)) L9 (fun _=>qxy rfl) (NU n rfl)
theorem DO:Tri Tryz.prog km (Ol).pt:=
 iD (fun n=>D9 n) (lK (fun x h=>⟨eD x,qxI _,h⟩))
theorem Ab:∀n,Tri Tryz.prog jG (Q0 n).pt
 | 0=>dj fun x h=>h
 | n+1=>ae (ag (aa (Ab n) ac)) HO (fun _=>qxy rfl) (IJ n rfl)
theorem IS:Tri Tryz.prog jG (MR).pt:=
 iD (fun n=>Ab n) (lK (fun x h=>h))
theorem BS:Tri Tryz.prog qD (Oq).pt:=
 ae (ag (aa IS ac)) JV (fun _=>qxy rfl) (LF rfl)
theorem zZ:∀n,Tri Tryz.prog dW (Ne n).pt
 | 0=>sS fun d ds H K ⟨id,v,l,a,x,h1,h2,h3,h4,h5⟩=>qju h4.1
 | n+1=>Cj (ag (aa (zZ n) (aa BS ac))) yO (by decide) (IH n rfl rfl)
theorem wv:Tri Tryz.prog dW i_leavesQA.pt:=iD (fun n=>zZ n) fun d ds H K ⟨id,v,l,a,x,h1,h2,h3,h4,h5⟩=>⟨eD x,id,v,l,a,x,h1,h2,h3,⟨qxI _,h4⟩,h5⟩
theorem zI:Tri Tryz.prog dW s_leavesQ.pt:=N9 (Bd (ag (aa wv (aa BS ac))) yO (fun _=>qxy rfl) (Hs rfl rfl)) wv
theorem qao:Tri Tryz.prog aQ s_has2.pt:=
 have h:Tri Tryz.prog aQ s_hasE.pt:=ae (ag (aa eT ac)) kC (fun _=>qxy rfl) (B8 rfl)
 N9 h (IW h rfl fun _=>Ku _)
theorem Aa:∀n,Tri Tryz.prog bT (RQ n).pt
 | 0=>sS fun d ds H K ⟨id,v,l,a,x,h1,h2,h3,h4,h5⟩=>qju h4.1
 | n+1=>Cj (ag (aa qao (aa (Aa n) ac))) yP (by decide) (II n rfl rfl)
theorem ww:Tri Tryz.prog bT i_labelsA.pt:=iD (fun n=>Aa n) fun d ds H K ⟨id,v,l,a,x,h1,h2,h3,h4,h5⟩=>⟨eD x,id,v,l,a,x,h1,h2,h3,⟨qxI _,h4⟩,h5⟩
theorem ji:Tri Tryz.prog bT s_qlabels.pt:=N9 (Bd (ag (aa qao (aa ww ac))) yP (fun _=>qxy rfl) (Ht rfl rfl)) ww
theorem IT:Tri Tryz.prog tH (zQ).pt:=
 ae (ag (aa BR (aa ji ac))) HP (fun _=>qxy rfl) (IL rfl rfl)
theorem Px:Tri Tryz.prog nP (qa1).pt:=
 ae (ag ac) BY (fun _=>qxy rfl) (NV)
theorem Mq:Tri Tryz.prog lw (Wj).pt:=
 ae (ag (aa Px ac)) Ai (fun _=>qxy rfl) (LJ rfl)
theorem uE:Tri Tryz.prog ck (qbn).pt:=
 ae (ag ac) jy (fun _=>qxy rfl) (uy)
theorem iv:Tri Tryz.prog aL (Um).pt:=
 ae (ag (aa uE ac)) gu (fun _=>qxy rfl) (re rfl)
theorem zJ:Tri Tryz.prog dX (qbi).pt:=
 ae (ag (aa vj (aa qr (aa DO (aa ji (aa iv ac)))))) pd (fun _=>qxy rfl) (qiH (N:=ZR) rfl rfl rfl rfl rfl rfl rfl)
theorem EW:Tri Tryz.prog fu (Wd).pt:=
 ae (ag ac) tw (fun _=>qxy rfl) (qe2)
theorem Gz:Tri Tryz.prog dE (qbj).pt:=
 ae (ag (aa EW ac)) uL (fun _=>qxy rfl) (qiI rfl)
theorem Fy:Tri Tryz.prog kq (qi6).pt:=
 ae (ag (aa zJ (aa ji (aa zI (aa qZ (aa iv (aa Mq (aa Gz ac)))))))) uM (fun _=>qxy rfl) (qiv rfl rfl rfl rfl rfl rfl rfl)
theorem DP:Tri Tryz.prog yh (VV).pt:=
 ae (ag (aa Ib (aa IT (aa (Xq 101) (aa qoq (aa qkH ac)))))) Me (fun _=>qxy rfl) (qeR rfl rfl rfl rfl rfl)
theorem HD:Tri Tryz.prog ip (qhG).pt:=
 ae (ag (aa Fy (aa DP ac))) wJ (fun _=>qxy rfl) (qht rfl rfl)
theorem eH:Tri Tryz.prog cN (Jm).pt:=
 db (ag ac) Ej (fun _=>qxy rfl) (qmh)
theorem rf:Tri Tryz.prog ig (qfu).pt:=
 db (ag (aa eH ac)) FN (fun _=>qxy rfl) (qsg rfl)
theorem fP:Tri Tryz.prog dD (MP).pt:=
 db (ag (aa rf ac)) Ek (fun _=>qxy rfl) (qmj rfl)
theorem DK:Tri Tryz.prog nK (qaR).pt:=
 db (ag (aa eH ac)) Cw (fun _=>qxy rfl) (qis rfl)
theorem DN:Tri Tryz.prog nN (qba).pt:=
 db (ag (aa fP ac)) Cz (fun _=>qxy rfl) (qiE rfl)
theorem DL:Tri Tryz.prog nL (qa2).pt:=
 db (ag ac) Cx (fun _=>qxy rfl) (qiw)
theorem Bz:Tri Tryz.prog kU (Jt).pt:=
 db (ag (aa eH (aa DL ac))) Ag (fun _=>qxy rfl) (qaf rfl rfl)
theorem DM:Tri Tryz.prog nM (qa7).pt:=
 db (ag (aa eH (aa fP (aa DK (aa DN ac))))) Cy (fun _=>qxy rfl) (qiD rfl rfl rfl rfl)
theorem Fv:Tri Tryz.prog pK (qhE).pt:=
 db (ag (aa eH (aa fP (aa DM ac)))) Ei (fun _=>qxy rfl) (qmg rfl rfl rfl)
theorem Fu:Tri Tryz.prog pJ (qhC).pt:=
 db (ag (aa Bz (aa Fv ac))) Eh (fun _=>qxy rfl) (qme rfl rfl)
theorem Fw:Tri Tryz.prog pM (qhH).pt:=
 db (ag (aa fP (aa Fu ac))) El (fun _=>qxy rfl) (qmk rfl rfl)
theorem IQ:Tri Tryz.prog tD (zS).pt:=
 ae (ag ac) HJ (fun _=>qxy rfl) (TC)
theorem LQ:Tri Tryz.prog vI (MN).pt:=
 ae (ag ac) JN (fun _=>qxy rfl) (X2)
theorem Qp:Tri Tryz.prog AB (VP).pt:=
 ae (ag ac) OH (fun _=>qxy rfl) (qeM)
theorem TI:Tri Tryz.prog C8 (qaW).pt:=
 ae (ag (aa IQ (aa LQ (aa Qp ac)))) Rl (fun _=>qxy rfl) (qit rfl rfl rfl)
theorem DJ:Tri Tryz.prog nJ (qaQ).pt:=
 db (ag (aa rf ac)) Cv (fun _=>qxy rfl) (qir rfl)
theorem LR:Tri Tryz.prog vJ (VO).pt:=
 ae (ag ac) JO (fun _=>qxy rfl) (X5)
theorem Qq:Tri Tryz.prog AC (Wl).pt:=
 ae (ag (aa TI (aa Fw (aa fP (aa LR (aa DJ (aa rf (aa eH ac)))))))) OI (fun _=>qxy rfl) (qe5 rfl rfl rfl rfl rfl rfl rfl)
theorem LV:Tri Tryz.prog vP (MM).pt:=
 ae (ag (aa Qq (aa Ms (aa HD (aa Vc ac))))) J3 (fun _=>qxy rfl) (X1 rfl rfl rfl rfl)
end Go.Gv

namespace Go.Gv
open Go.Proofs
def uh:CC:=gq Tryz.f49 [2006006] { cu:=[1] } _
def tm:List aj:=[.cell 6 true 7]
theorem J0:ak Tryz.prog vN [2006006] uh tm 28:=fo
def rW:CC:=gq Tryz.f107 [2006006,2006006,2083008,2082008] { cu:=[2,4,6,18,21,24] } _
def rz:List aj:=[.cell 6 true 7]
theorem HR:ak Tryz.prog jH [2006006,2006006,2083008,2082008] rW rz 110:=fo
def oJ:CC:=gq Tryz.f21 [2006006] { cu:=[2,4,7] } _
def nq:List aj:=[.cell 6 true 13]
end Go.Gv

namespace Go.Gv
open Cod (enc dec)
variable {S S0:Nat->Spc}
abbrev wC:Spc:=aI (a1 Int) bK (enc (X:=B)) (fun _ y=>y∈Types)
theorem XZ(h1:S uW=s_m_Mod):aq wR wE S (a1 Int) bK (enc (X:=B)) (fun _ y=>y∈Types):=by
 rintro n -
 simp[wR,wE,h1]
 have h3:=J7 n 3 (by omega)
 refine⟨h3.1,h3.2,?_⟩
 have:F6 n 3=0\/F6 n 3=1\/F6 n 3=2:=by omega
 rcases this with h|h|h <;> simp[h,Types,qrI,qg8,qrH]
def NC(n:Nat)(x:List Int×Int×List B):Prop:=x.2.1.toNat < n/\ -10<=x.2.1/\x.2.1<=100/\x.2.2.length<=1000
theorem fp{q:Cond->Prop}{H:ab}{op:Int}{n a v l:B}{f:Bool}{d:D}(ks:List Cond)(hd:FrzTo H d (enc ks))(hq:q ⟨op,n,a,v,l,f,ks⟩):Fin enc q (.agg [.v (.int .i64 op), .v (.string n), .v (.string a), .v (.string v), .v (.string l), .v (.bool f),d]) H:=by
 refine cp (⟨op,n,a,v,l,f,ks⟩:Cond) ?_ hq
 rw[qc7]
 refine .agg rfl fun k x y hx hy=>?_
 rcases k with _|_|_|_|_|_|_|k
 ·cases hx;cases hy;exact .same _
 ·cases hx;cases hy;exact .same _
 ·cases hx;cases hy;exact .same _
 ·cases hx;cases hy;exact .same _
 ·cases hx;cases hy;exact .same _
 ·cases hx;cases hy;exact .same _
 ·cases hx;cases hy;exact hd
 ·simp at hx
theorem qmx(a b c d e f g h:B):D.list 1 [.v (.string a), .v (.string b), .v (.string c), .v (.string d), .v (.string e), .v (.string f), .v (.string g), .v (.string h)]= .list 1 (QE [a,b,c,d,e,f,g,h]):=id rfl
theorem qhx(a b c d:B):D.list 1 [.v (.string a), .v (.string b), .v (.string c), .v (.string d)]= .list 1 (QE [a,b,c,d]):=id rfl
theorem Bn{q:Pat->Prop}{H:ab}{op o:Int}{n a v l lb rg:B}{f:Bool}{cd d:D}{mn mx:Int}(cks:List Cond)(ks:List Pat)(hc:FrzTo H cd (enc cks))(hd:FrzTo H d (enc ks))(hq:q ⟨op,⟨o,n,a,v,l,f,cks⟩,lb,rg,mn,mx,ks⟩):
 Fin enc q (.agg [.v (.int .i64 op), .v (.int .i64 o), .v (.string n), .v (.string a), .v (.string v), .v (.string l), .v (.bool f),cd, .v (.string lb), .v (.string rg), .v (.int .i64 mn), .v (.int .i64 mx),d]) H:=by
 refine cp (⟨op,⟨o,n,a,v,l,f,cks⟩,lb,rg,mn,mx,ks⟩:Pat) ?_ hq
 rw[Po]
 refine .agg rfl fun k x y hx hy=>?_
 rcases k with _|_|_|_|_|_|_|_|_|_|_|_|_|k
 ·cases hx;cases hy;exact .same _
 ·cases hx;cases hy;exact .same _
 ·cases hx;cases hy;exact .same _
 ·cases hx;cases hy;exact .same _
 ·cases hx;cases hy;exact .same _
 ·cases hx;cases hy;exact .same _
 ·cases hx;cases hy;exact .same _
 ·cases hx;cases hy;exact hc
 ·cases hx;cases hy;exact .same _
 ·cases hx;cases hy;exact .same _
 ·cases hx;cases hy;exact .same _
 ·cases hx;cases hy;exact .same _
 ·cases hx;cases hy;exact hd
 ·simp at hx
def XE(n:Nat)(x:List Int×Int×List B):Prop:=x.2.1.toNat < n/\ -10<=x.2.1/\x.2.1<=100/\x.2.2.length<=1000
def qoy(x:List Int×Int×List B)(p:Pat):Prop:=WP x.2.2 x.2.1.toNat p/\PD x.2.1.toNat p
end Go.Gv
