/- A part of the framework and of the walks: T45 Asm24. -/
import Derived.Test.YtphdikcommfnhaaGreatDoorGa36
import Derived.Test.YtphdikcommfnhaaGreatDoorGa37
import Derived.Test.YtphdikcommfnhaaGreatDoorGa24
import Derived.Test.YtphdikcommfnhaaGreatDoorGa29
import Derived.Test.YtphdikcommfnhaaGreatDoorGa25
import Derived.Test.YtphdikcommfnhaaGreatDoorGa32
import Derived.Test.YtphdikcommfnhaaGreatDoorGa33
import Derived.Test.YtphdikcommfnhaaGreatDoorGa44
import Derived.Test.YtphdikcommfnhaaGreatDoorGa41
set_option linter.unusedSimpArgs false
set_option linter.unusedVariables false
set_option linter.unusedSectionVars false
set_option maxRecDepth 100000

namespace Go.Gv
open Cod (enc dec)
theorem Tu {ds:List D} (h: ∀d∈ds,Me d):Me (.agg ds):=fun tp I tp' I' w w' x hr=> by
 cases hr with
 | agg xs _ hl h1' hk=> exact .agg xs _ hl h1' fun k y c h1 h2=> h c (List.mem_of_getElem? h2) _ _ _ _ _ _ _ (hk k y c h1 h2)
section
variable {X Y:Type} [Cod Y]
theorem Kh {P:Program} {f:Nat} {A:du X} {pre:D×X->Prop} {post:D×X->List Y->Prop} {el n:Nat} (hn:n=Cod.wd Y) (hf:Tri P f (qbO (Y:=Y) (aD A) pre post el n).pt) (hflat: ∀y:Y,∀c∈ (enc y).cells,Me c):Tri P f (XJ A pre (enc (X:=List Y)) post).pt:=by
 intro O tp w vs ds H d K hO htl hsat hlen hargs hA
 obtain⟨id,bk,cells,ds',x,rfl,hd,hid,hp,hK⟩:=hA
 cases vs with
 | nil=> simp at hlen
 | cons v0 vs=>
   have hv0:v0= .pointer (some ⟨bk,0,none⟩):=by
    have:=hargs 0 v0 (.bptr id bk 0) rfl rfl
    cases this;rfl
   subst hv0
   let O':Nat->Prop:=fun b=> O b\/ ∃i r,i≠id/\H i=some r/\r.blk=some b
   have himm: ∀b,bG O tp H w b->bG O' tp ed w b:=fun b hb=> ⟨hb.1,fun h=> h.elim hb.2.1 fun⟨i,r,_,h1,h2⟩=> hb.2.2.2 ⟨i,r,h1,h2⟩,hb.2.2.1,fun⟨i,r,h1,_⟩=> by simp at h1⟩
   have hmv: ∀y e,R tp (bG O tp H w) w y e->R tp (bG O' tp ed w) w y e:=fun y e hr=> hr.mono (fun _ h=> h) (fun b hb=> ⟨himm b hb,rfl⟩) (fun b _=> .refl _ _)
   have hl:R tp (bG O' tp ed w) w (.pointer (some ⟨bk,0,none⟩)) (.cptr cells 0):=by
    have hbk: (Res.box bk cells).blk=some bk:=rfl
    have h1:=hsat.out id _ bk hid hbk
    have hI:bG O' tp ed w bk:=⟨(hsat.ok id _ hid).lt hbk,fun h=> h.elim h1.1 fun⟨i,r,hne,h2,h3⟩=> hne (hsat.dis _ _ _ _ bk h2 hid h3 hbk),h1.2,fun⟨i,r,h2,_⟩=> by simp at h2⟩
    obtain⟨xs,el,g1,g2,g3⟩:=(hsat.ok id _ hid).conv hmv (fun _ _=> rfl)
    obtain⟨f,k1,k2,k3⟩:=oW g1 g2 g3
    have:=R.cptr (tp:=tp) bk 0 cells 0 f hI (fun _=> ⟨_,_,g1⟩) k1 k2 k3
    simpa using this
   have hdec: (aD A).dec (.cptr cells 0::ds')=some (.cptr cells 0,x):=by simp[hd]
   obtain⟨hce,hc⟩:=hf O' tp w (.pointer (some ⟨bk,0,none⟩)::vs) (.cptr cells 0::ds') ed d (fun r H'=> ∃v l,r= .own d v/\post (.cptr cells 0,x) l/\H'=ah ed d (some (.row v el n (l.map enc))))
    (fun b hb=> hb.elim (hO b) fun⟨i,r,_,h1,h2⟩=> (hsat.ok i r h1).lt h2) (htl.mono fun b ⟨i,r,h,_⟩=> by simp at h) ⟨fun i j r s b h=> by simp at h,fun i r b h=> by simp at h,fun i r h=> by simp at h⟩ (by simpa using hlen)
    (fun k y e h1 h2=> by
      cases k with
      | zero=> simp at h1 h2;subst h1;subst h2;exact hl
      | succ k=> simp at h1 h2;exact hmv _ _ (hargs (k+1) y e (by simpa using h1) (by simpa using h2)))
    (by rw[Ts,hdec];exact⟨hp,fun v l hz=> ⟨v,l,rfl,hz,rfl⟩⟩)
   refine⟨hce,hc.mono ?_⟩
   rintro e w' ⟨q,r,H',tp',rfl,⟨v,l,rfl,hz,rfl⟩,t1,t2,t3,hs,ho,hsat',hR⟩
   have hsame: ∀b,b < w.heap.size-> ¬tp b->w'.heap[b]?=w.heap[b]?:=fun b hb ht=> hs.same b hb (fun⟨i,r,h,_⟩=> by simp at h) ht
   have hmove: ∀y e,R tp (bG O tp H w) w y e->R tp' (bG O tp' H w') w' y e:=fun y e hr=> hr.mono t1 (fun b hb=> ⟨⟨Nat.lt_of_lt_of_le hb.1 hs.size,hb.2.1,fun h=> by
    rcases t2 b h with h | h
    ·exact hb.2.2.1 h
    ·have:=hb.1;omega,hb.2.2.2⟩,hsame b hb.1 hb.2.2.1⟩) hs.tapes
   have hrow:ah ed d (some (.row v el n (l.map enc))) d=some (.row v el n (l.map enc)):=by simp[ah]
   have hrk:=hsat'.ok d _ hrow
   have hrk':ResOk (R tp' (bG O tp' H w') w') w' (.row v el n (l.map enc)):=by
    obtain⟨xs,g1,g2,g3⟩:=hrk
    refine⟨xs,g1,g2,fun k y c h1 h2=> ⟨(g3 k y c h1 h2).1,?_⟩⟩
    have hm:c∈bF (l.map enc):=List.mem_of_getElem? h2
    obtain⟨e,he,hce⟩:=List.mem_flatMap.1 hm
    obtain⟨y',_,rfl⟩:=List.mem_map.1 he
    exact hflat y' c hce _ _ _ _ _ _ _ (g3 k y c h1 h2).2
   have hfresh: ∀b,(Res.row v el n (l.map enc)).blk=some b->bG O tp' H w' b:=fun b hb=> by
    have h1:=ho b ⟨d,_,hrow,hb⟩
    have h2:w.heap.size<=b:=h1.elim (fun⟨i,r,h,_⟩=> by simp at h) fun h=> h
    refine⟨hrk.lt hb,fun h=> ?_,(hsat'.out d _ b hrow hb).2,fun⟨i,r,h3,h4⟩=> ?_⟩
    ·have:=hO b h;omega
    ·have:=(hsat.ok i r h3).lt h4;omega
   refine⟨q,enc l,H,tp',rfl,hK l hz,t1,t2,t3,⟨hs.os,hs.tape,hs.output,hs.size,fun b hb _ ht=> hsame b hb ht,hs.tapes,hs.drawn⟩,fun b h=> .inl h,⟨hsat.dis,fun i r b h1 h2=> ?_,fun i r h1=> ?_⟩,?_⟩
   ·have:=hsat.out i r b h1 h2
    refine⟨this.1,fun h=> ?_⟩
    rcases t2 b h with h | h
    ·exact this.2 h
    ·have:=(hsat.ok i r h1).lt h2;omega
   ·exact(hsat.ok i r h1).conv hmove fun b hb=> hsame b ((hsat.ok i r h1).lt hb) (hsat.out i r b h1 hb).2
   ·have hone: ∀i r,ah ed d (some (.row v el n (l.map enc))) i=some r->r= .row v el n (l.map enc):=fun i r h=> by
     unfold ah at h
     split at h
     ·exact(Option.some.inj h).symm
     ·simp at h
    have hfz:FrzTo (ah ed d (some (.row v el n (l.map enc)))) (.own d v) (.list n (l.map enc)):=xI el hrow hn
    have e1: (enc l:D)= .list n (l.map enc):=by subst hn;rfl
    have hRo:R tp' (bG O tp' H w') w' q (.own d v):=by
     cases hR with
     | own _ _ h=> exact .own _ _ h
    rw[e1]
    exact FrzTo.R (H:=H) hfz (fun i r h=> by rw[hone i r h];exact hrk') (fun _ h=> h) (fun i r b h hb=> by rw[hone i r h] at hb;exact hfresh b hb) hRo
end
open Go.Proofs
variable {S:Nat->Spc}
set_option maxRecDepth 100000 in
theorem Vh:Pj (Y:=Int) c6 cV S (aD (a1 St3)) H4 Ma fV 1:=by
 rintro⟨d,s⟩ ⟨⟨r,k,hd,hl⟩,hs⟩
 have hd:d= .cptr (kg r k) 0:=hd
 subst hd
 simp[c6,cV,kg, -Bool.forall_bool, -Bool.exists_bool]
 intro hl1
 refine⟨by omega,by omega,fun v hl2=> ?_⟩
 refine aA (X:=List Int) [3,5] [] r.lb.length (fun k z=> z.length=r.lb.length/\ ∀i,i < k->z[i]?=some (s.get i -1)) (fun _=> []) (fun z=> [(12, .row v fV 1 (z.map enc))]) (List.replicate r.lb.length 0) (by simp) (by simp) (by omega) (by simp) (by simp) (by simp) (by simp) (by simp) ?_ ?_
 ·rintro j z hj ⟨hz1,hz2⟩
  have hg:=Le s (k:=j) (by omega)
  have hb:0<=s.get j/\s.get j<=1000000:=hs.2.2 j
  have hjz:j < z.length:=by omega
  simp[hj,hg,hjz, -Bool.forall_bool, -Bool.exists_bool]
  refine⟨by omega,by omega,by simp only[InR];omega,z.set j (s.get j -1),⟨by simp[hz1],fun i hi=> ?_⟩, .inl (by rw[List.map_set];rfl)⟩
  by_cases e:j=i
  ·subst e
   rw[List.getElem?_set_self (by omega)]
  ·rw[List.getElem?_set_ne e]
   exact hz2 i (by omega)
 ·rintro z ⟨hz1,hz2⟩
  simp[-Bool.forall_bool, -Bool.exists_bool]
  refine qG z (by simp[ah]) fun r' k' e=> ?_
  have e:D.cptr (kg r k) 0= .cptr (kg r' k') 0:=e
  obtain rfl:=yN e
  refine List.ext_getElem? fun i=> ?_
  unfold Mh
  rw[List.getElem?_map]
  by_cases hi:i < r.lb.length
  ·rw[hz2 i hi,List.getElem?_range hi];rfl
  ·rw[List.getElem?_eq_none (by omega),List.getElem?_eq_none (by simp;omega)];rfl
end Go.Gv

namespace Go.Gv
open Go.Proofs Cod
theorem ud {P:Program} {f:Nat} {A:Nat->PT} {A':PT} (h: ∀n,Tri P f (A n)) (hs: ∀d ds H K,A' d ds H K-> ∃n,A n d ds H K):Tri P f A':=
 fun O tp w vs ds H d K a b c e g hA=> (hs d ds H K hA).elim fun n hn=> h n O tp w vs ds H d K a b c e g hn
theorem rA {P:Program} {f:Nat} {A:PT} (hs: ∀d ds H K,¬A d ds H K):Tri P f A:=fun O tp w vs ds H d K a b c e g hA=> absurd hA (hs d ds H K)
theorem AE {X Y:Type} {A:du X} {pre:Nat->X->Prop} {pre':X->Prop} {er:Y->D} {post:X->Y->Prop} (hx: ∀x,pre' x-> ∃n,pre n x): ∀d ds H K,(cC A pre' er post).pt d ds H K-> ∃n,(cC A (pre n) er post).pt d ds H K:=by
 intro d ds H K h
 rw[sk] at h
 cases e:A.dec ds with
 | none=> rw[e] at h;exact h.elim
 | some x=>
   rw[e] at h
   obtain⟨h1,h2⟩:=h
   obtain⟨n,hn⟩:=hx x h1
   exact⟨n,by rw[sk,e];exact⟨hn,h2⟩⟩
theorem li {P:Program} {f:Nat} {X Y:Type} {A:du X} {pre:X->Prop} {er:Y->D} {post:X->Y->Prop} (hx: ∀x,¬pre x):Tri P f (cC A pre er post).pt:=rA fun d ds H K h=> by
 rw[sk] at h
 cases e:A.dec ds with
 | none=> rw[e] at h;exact h.elim
 | some x=> rw[e] at h;exact hx x h.1
theorem Iq {P:Program} {f:Nat} {Y Z:Type} {A:du Z} {er:Y->D} :Tri P f (U7 A er fun _ _=> none).pt:=rA fun d ds H K h=> by
 obtain⟨id,b',x,z,ds',h1,h2,h3,h4,h5,⟨r,h6⟩,h7⟩:=h
 cases h6
theorem Vz {P:Program} {f:Nat} :Tri P f (Xq fun _ _ _=> none).pt:=rA fun d ds H K h=> by
 obtain⟨id',b',x,n',k,r,d0',h1,h2,h3,h4,h5⟩:=h
 cases h4
theorem qjg {p:Cond} (h:rZ p<=0):False:=by rw[Pb] at h;omega
theorem Ae:Tri Tryz.prog d9 (Dg).pt:=
 ae (S:=bH []) (ag ac) xb (fun _=> Nat.le_of_ble_eq_true rfl) (ym)
theorem BS:Tri Tryz.prog eL (s_cpFold1).pt:=PK (S:=bH [(d9,Dg)]) (ag (ab Ae ac)) rfl
theorem BT:Tri Tryz.prog eM (MY).pt:=
 ae (S:=bH []) (ag ac) zk (fun _=> Nat.le_of_ble_eq_true rfl) (Au)
theorem xV:Tri Tryz.prog eV (Na).pt:=
 ae (S:=bH [(eM,MY)]) (ag (ab BT ac)) vM (fun _=> Nat.le_of_ble_eq_true rfl) (wC rfl)
theorem BM:Tri Tryz.prog bZ (MZ).pt:=
 ae (S:=bH [(eV,Na)]) (ag (ab xV ac)) yU (fun _=> Nat.le_of_ble_eq_true rfl) (Ap rfl)
theorem kb:Tri Tryz.prog bu (M4).pt:=
 ae (S:=bH [(bZ,MZ)]) (ag (ab BM ac)) jy (fun _=> Nat.le_of_ble_eq_true rfl) (F8 rfl)
theorem nA:Tri Tryz.prog bb (MV).pt:=
 ae (S:=bH [(bu,M4)]) (ag (ab kb ac)) mP (fun _=> Nat.le_of_ble_eq_true rfl) (F7 rfl)
theorem z7:Tri Tryz.prog fC (Ee).pt:=
 ae (S:=bH []) (ag ac) wZ (fun _=> Nat.le_of_ble_eq_true rfl) (Ig)
theorem C6:Tri Tryz.prog gU (IM).pt:=
 ae (S:=bH [(fC,Ee)]) (ag (ab z7 ac)) AX (fun _=> Nat.le_of_ble_eq_true rfl) (Mo rfl)
theorem rW:Tri Tryz.prog ci (VB).pt:=
 ae (S:=bH [(gU,IM),(bb,MV)]) (ag (ab C6 (ab nA ac))) qX (fun _=> Nat.le_of_ble_eq_true rfl) (rr rfl rfl)
theorem r6:Tri Tryz.prog ci (JR).pt:=DM rW rfl (fun _=> Lg (fun _ h=> by cases h))
theorem FR:Tri Tryz.prog iN (D2).pt:=
 Mz (S:=bH [(ci,JR)]) (ag (ab r6 ac)) CJ (fun _=> Nat.le_of_ble_eq_true rfl) (Dt rfl)
theorem LW:Tri Tryz.prog k8 (MK).pt:=
 ae (S:=bH []) (ag ac) I0 (fun _=> Nat.le_of_ble_eq_true rfl) (J6)
theorem cF:Tri Tryz.prog ai (gn).pt:=
 fj (S:=bH [(aN,s_decR)]) (ag (ab yA ac)) uu (fun _=> Nat.le_of_ble_eq_true rfl) (H9 rfl)
theorem vZ:Tri Tryz.prog ej (It).pt:=
 fj (S:=bH [(aN,s_decR)]) (ag (ab yA ac)) ut (fun _=> Nat.le_of_ble_eq_true rfl) (H8 rfl)
theorem ke:Tri Tryz.prog bv (yH).pt:=
 fj (S:=bH [(ai,gn),(ej,It)]) (ag (ab cF (ab vZ ac))) ql (fun _=> Nat.le_of_ble_eq_true rfl) (ye rfl rfl)
theorem tW:Tri Tryz.prog cL (ML).pt:=
 fj (S:=bH [(ai,gn),(bD,s_crune),(bv,yH)]) (ag (ab cF (ab ub (ab ke ac)))) sE (fun _=> Nat.le_of_ble_eq_true rfl) (Du rfl rfl rfl)
theorem va:Tri Tryz.prog dR (MM).pt:=
 fj (S:=bH [(ai,gn),(cL,ML),(iN,D2)]) (ag (ab cF (ab tW (ab FR ac)))) tF (fun _=> Nat.le_of_ble_eq_true rfl) (Gc rfl rfl rfl)
theorem wa:Tri Tryz.prog ek (Iu).pt:=
 fj (S:=bH [(ai,gn),(k8,MK),(dR,MM),(bD,s_crune),(bv,yH)]) (ag (ab cF (ab LW (ab va (ab ub (ab ke ac)))))) uv (fun _=> Nat.le_of_ble_eq_true rfl) (Ia rfl rfl rfl rfl rfl)
theorem tV:Tri Tryz.prog dn (MJ).pt:=
 fj (S:=bH [(ai,gn),(ek,Iu)]) (ag (ab cF (ab wa ac))) sD (fun _=> Nat.le_of_ble_eq_true rfl) (Ds rfl rfl)
theorem tX:Tri Tryz.prog dq (MN).pt:=
 fj (S:=bH [(ai,gn),(dn,MJ)]) (ag (ab cF (ab tV ac))) sF (fun _=> Nat.le_of_ble_eq_true rfl) (Dv rfl rfl)
theorem u9:Tri Tryz.prog cX (MI).pt:=
 fj (S:=bH [(ai,gn),(dq,MN)]) (ag (ab cF (ab tX ac))) tE (fun _=> Nat.le_of_ble_eq_true rfl) (F9 rfl rfl)
theorem u7: ∀n,Tri Tryz.prog eB (Xq (nH n)).pt
 | 0=> Vz
 | n+1=> Mv (S:=bH [(eB,Xq (nH n))]) (ag (ab (u7 n) ac)) Es (by decide) (Ga n rfl)
theorem BL:Tri Tryz.prog fZ (DX).pt:=
 ae (S:=bH []) (ag ac) yT (fun _=> Nat.le_of_ble_eq_true rfl) (Ao)
theorem zY:Tri Tryz.prog ft (AI).pt:=
 ae (S:=bH [(fZ,DX)]) (ag (ab BL ac)) wP (fun _=> Nat.le_of_ble_eq_true rfl) (yc rfl)
theorem oa: ∀n,Tri Tryz.prog cm (pb n).pt
 | 0=> li fun x h=> by cases h
 | n+1=> ae (S:=bH [(ft,AI),(cm,pb n)]) (ag (ab zY (ab (oa n) ac))) vF (fun _=> Nat.le_of_ble_eq_true rfl) (wx n rfl rfl)
theorem qe: ∀n,Tri Tryz.prog cG (D1 n).pt
 | 0=> li fun x h=> by obtain⟨m,h⟩:=h;cases h
 | n+1=> ae (S:=bH [(cG,D1 n)]) (ag (ab (qe n) ac)) wQ (fun _=> Nat.le_of_ble_eq_true rfl) (yd n rfl)
theorem rX:Tri Tryz.prog cY (DZ).pt:=
 ae (S:=bH [(eB,Xq (nH 50)),(cm,pb 50),(cG,D1 50)]) (ag (ab (u7 50) (ab (oa 50) (ab (qe 50) ac)))) yW (fun _=> Nat.le_of_ble_eq_true rfl) (Ar rfl rfl rfl)
theorem ws:Tri Tryz.prog eD (rD).pt:=
 ae (S:=bH [(lU,s_cpAt),(cX,MI),(cY,DZ)]) (ag (ab Yh (ab u9 (ab rX ac)))) Eu (fun _=> Nat.le_of_ble_eq_true rfl) (Gd rfl rfl rfl)
theorem G3:Tri Tryz.prog ia (VD).pt:=
 ae (S:=bH [(eD,rD)]) (ag (ab ws ac)) EK (fun _=> Nat.le_of_ble_eq_true rfl) (Gq rfl)
theorem BN:Tri Tryz.prog f8 (VC).pt:=
 ae (S:=bH []) (ag ac) yV (fun _=> Nat.le_of_ble_eq_true rfl) (Aq)
theorem od:Tri Tryz.prog bM (yI).pt:=
 o7 (S:=bH []) (ag ac) uz (fun _=> Nat.le_of_ble_eq_true rfl) (X5)
theorem iw:Tri Tryz.prog aO (so).pt:=
 o7 (S:=bH [(bM,yI)]) (ag (ab od ac)) sH (fun _=> Nat.le_of_ble_eq_true rfl) (Rq rfl)
theorem FQ: ∀n,Tri Tryz.prog az (sq n).pt/\Tri Tryz.prog dr (MQ n).pt/\Tri Tryz.prog bB (DY n).pt
 | 0=> ⟨Iq,Iq,Iq⟩
 | n+1=> ⟨o7 (S:=bH [(az,sq n),(dr,MQ n),(aO,so)]) (ag (ab (FQ n).1 (ab (FQ n).2.1 (ab iw ac)))) tI (fun _=> Nat.le_of_ble_eq_true rfl) (Vm n rfl rfl rfl),o7 (S:=bH [(az,sq n),(bB,DY n),(aO,so),(bM,yI)]) (ag (ab (FQ n).1 (ab (FQ n).2.2 (ab iw (ab od ac))))) sG (fun _=> Nat.le_of_ble_eq_true rfl) (Ro n rfl rfl rfl rfl),o7 (S:=bH [(az,sq n),(bB,DY n),(aO,so)]) (ag (ab (FQ n).1 (ab (FQ n).2.2 (ab iw ac)))) qZ (fun _=> Nat.le_of_ble_eq_true rfl) (Mm n rfl rfl rfl)⟩
theorem LX:Tri Tryz.prog nz (RU 50).pt:=
 ae (S:=bH [(az,sq 50)]) (ag (ab (FQ 50).1 ac)) I3 (fun _=> Nat.le_of_ble_eq_true rfl) (qfY 50 rfl)
theorem wb:Tri Tryz.prog ep (MR).pt:=
 ae (S:=bH []) (ag ac) uA (fun _=> Nat.le_of_ble_eq_true rfl) (Vo)
theorem BK:Tri Tryz.prog bY (RT).pt:=
 ae (S:=bH [(eL,s_cpFold1)]) (ag (ab BS ac)) yS (fun _=> Nat.le_of_ble_eq_true rfl) (Ml rfl)
theorem C5:Tri Tryz.prog cq (RZ).pt:=
 ae (S:=bH []) (ag ac) AT (fun _=> Nat.le_of_ble_eq_true rfl) (Cq)
theorem wq:Tri Tryz.prog eC (Kv).pt:=
 ae (S:=bH [(cY,Hj),(df,s_cpVal),(nz,RU 50),(ep,MR),(f8,Ku),(cq,RZ),(bY,RT)]) (ag (ab rX (ab G9 (ab LX (ab wb (ab BN (ab C5 (ab BK ac)))))))) Et (fun _=> Nat.le_of_ble_eq_true rfl) (Gb rfl rfl rfl rfl rfl rfl rfl)
theorem GY:Tri Tryz.prog jR (Hk false).pt:=
 ae (S:=bH [(eC,Kv)]) (ag (ab wq ac)) Ev (fun _=> Nat.le_of_ble_eq_true rfl) (Ge rfl)
theorem zZ:Tri Tryz.prog fu (Hk true).pt:=
 ae (S:=bH [(eC,Kv)]) (ag (ab wq ac)) wR (fun _=> Nat.le_of_ble_eq_true rfl) (yf rfl)
theorem G2:Tri Tryz.prog jY (IH).pt:=
 ae (S:=bH [(eD,rD),(jR,Hk false),(fu,Hk true)]) (ag (ab ws (ab GY (ab zZ ac)))) EJ (fun _=> Nat.le_of_ble_eq_true rfl) (Gp rfl rfl rfl)
theorem tz:Tri Tryz.prog a8 (Kz).pt:=
 ae (S:=bH []) (ag ac) zg (fun _=> Nat.le_of_ble_eq_true rfl) (At)
theorem C7:Tri Tryz.prog ct (AM).pt:=
 ae (S:=bH [(a8,Kz)]) (ag (ab tz ac)) zf (fun _=> Nat.le_of_ble_eq_true rfl) (As rfl)
theorem xS:Tri Tryz.prog aW (Iv).pt:=
 ae (S:=bH [(a8,Kz),(ct,AM)]) (ag (ab tz (ab C7 ac))) uy (fun _=> Nat.le_of_ble_eq_true rfl) (vB rfl rfl)
theorem oc:Tri Tryz.prog ba (uf).pt:=
 ae (S:=bH [(df,s_cpVal)]) (ag (ab G9 ac)) ux (fun _=> Nat.le_of_ble_eq_true rfl) (vA rfl)
theorem C8:Tri Tryz.prog gW (D5).pt:=
 ae (S:=bH [(ba,uf)]) (ag (ab oc ac)) A2 (fun _=> Nat.le_of_ble_eq_true rfl) (Cx rfl)
theorem xT:Tri Tryz.prog eT (M7).pt:=
 ae (S:=bH []) (ag ac) vK (fun _=> Nat.le_of_ble_eq_true rfl) (wz)
theorem G1:Tri Tryz.prog jX (M6).pt:=
 ae (S:=bH [(gW,D5),(eT,M7)]) (ag (ab C8 (ab xT ac))) EI (fun _=> Nat.le_of_ble_eq_true rfl) (Gn rfl rfl)
theorem nB: ∀n,Tri Tryz.prog bN (Ea n).pt
 | 0=> li fun x h=> qjg h.1
 | n+1=> ae (S:=bH [(bN,Ea n)]) (ag (ab (nB n) ac)) uB (fun _=> Nat.le_of_ble_eq_true rfl) (tZ n rfl)
theorem we:Tri Tryz.prog bN (Eb).pt:=ud (fun n=> nB n) (AE (fun x h=> h))
theorem Aa:Tri Tryz.prog fD (AN).pt:=
 ae (S:=bH []) (ag ac) w5 (fun _=> Nat.le_of_ble_eq_true rfl) (wA)
theorem rY:Tri Tryz.prog bi (AQ).pt:=
 ae (S:=bH []) (ag ac) q7 (fun _=> Nat.le_of_ble_eq_true rfl) (ru)
theorem nY:Tri Tryz.prog bU (Ef fJ (bH [(bi,AQ)])).pt:=
 ae (S:=bH [(bi,AQ)]) (ag (ab rY ac)) nj (fun _=> Nat.le_of_ble_eq_true rfl) (DD)
theorem e8:Tri Tryz.prog ap (ol).pt:=
 ae (S:=bH [(bU,Ef fJ (bH [(bi,AQ)]))]) (ag (ab nY ac)) sI (fun _=> Nat.le_of_ble_eq_true rfl) (tC (S0:=(bH [(bi,AQ)])) rfl rfl)
theorem qJ:Tri Tryz.prog cI (uj).pt:=
 ae (S:=bH [(ap,ol)]) (ag (ab e8 ac)) w8 (fun _=> Nat.le_of_ble_eq_true rfl) (yj rfl)
theorem Ad:Tri Tryz.prog cJ (Ed).pt:=
 ae (S:=bH []) (ag ac) xa (fun _=> Nat.le_of_ble_eq_true rfl) (yl)
theorem eZ:Tri Tryz.prog aF (sr).pt:=
 ae (S:=bH []) (ag ac) sC (fun _=> Nat.le_of_ble_eq_true rfl) (DB)
theorem rl:Tri Tryz.prog aw (M9).pt:=
 ae (S:=bH [(aF,sr)]) (ag (ab eZ ac)) jm (fun _=> Nat.le_of_ble_eq_true rfl) (yo rfl)
theorem Ab:Tri Tryz.prog fE (D9).pt:=
 ae (S:=bH [(cI,uj),(ap,ol),(aW,Iv)]) (ag (ab qJ (ab e8 (ab xS ac)))) w6 (fun _=> Nat.le_of_ble_eq_true rfl) (yi rfl rfl rfl)
theorem Ac:Tri Tryz.prog fF (Ec).pt:=
 ae (S:=bH [(fD,AN),(fE,D9),(ia,Kx),(ap,ol),(gB,s_sConB),(ba,uf),(aw,M9)]) (ag (ab Aa (ab Ab (ab G3 (ab e8 (ab Mu (ab oc (ab rl ac)))))))) w9 (fun _=> Nat.le_of_ble_eq_true rfl) (yk rfl rfl rfl rfl rfl rfl rfl)
theorem td:Tri Tryz.prog bE (IL).pt:=
 ae (S:=bH [(fF,Ec)]) (ag (ab Ac ac)) rL (fun _=> Nat.le_of_ble_eq_true rfl) (r9 rfl)
theorem qI: ∀n,Tri Tryz.prog cw (D7 n).pt
 | 0=> li fun x h=> by obtain⟨a,lb,_,h,_⟩:=h;cases h
 | n+1=> ae (S:=bH [(bE,IL),(cw,D7 n)]) (ag (ab td (ab (qI n) ac))) zi (fun _=> Nat.le_of_ble_eq_true rfl) (yh n rfl rfl)
theorem BQ:Tri Tryz.prog cw (D6).pt:=ud (fun n=> qI n) (AE (fun x h=> h))
theorem ve:Tri Tryz.prog dT (Ne).pt:=
 ae (S:=bH [(bN,Eb),(cw,D6)]) (ag (ab we (ab BQ ac))) tK (fun _=> Nat.le_of_ble_eq_true rfl) (t7 rfl rfl)
theorem vY:Tri Tryz.prog ei (IG).pt:=
 ae (S:=bH []) (ag ac) ur (fun _=> Nat.le_of_ble_eq_true rfl) (Ih)
theorem tb:Tri Tryz.prog dc (IJ).pt:=
 ae (S:=bH [(ei,IG)]) (ag (ab vY ac)) rK (fun _=> Nat.le_of_ble_eq_true rfl) (Cz rfl)
theorem vd:Tri Tryz.prog bh (qA).pt:=
 ae (S:=bH [(dc,IJ)]) (ag (ab tb ac)) tJ (fun _=> Nat.le_of_ble_eq_true rfl) (tY rfl)
theorem qs:Tri Tryz.prog bC (Ef Region (bH [(bh,qA)])).pt:=
 ae (S:=bH [(bh,qA)]) (ag (ab vd ac)) iK (fun _=> Nat.le_of_ble_eq_true rfl) (B1)
theorem nZ:Tri Tryz.prog aG (IQ Region (bH [(bh,qA)])).pt:=
 ae (S:=bH [(bC,Ef Region (bH [(bh,qA)]))]) (ag (ab qs ac)) gl (fun _=> Nat.le_of_ble_eq_true rfl) (B2 rfl)
theorem xU:Tri Tryz.prog eU (M8).pt:=
 ae (S:=bH [(aG,IQ Region (bH [(bh,qA)]))]) (ag (ab nZ ac)) vL (fun _=> Nat.le_of_ble_eq_true rfl) (wB (S0:=(bH [(bh,qA)])) rfl rfl)
theorem qf: ∀n,Tri Tryz.prog cH (ui n).pt
 | 0=> li fun x h=> by obtain⟨_,y,h⟩:=h;cases h
 | n+1=>
   have g1:Tri Tryz.prog ax (CG n).pt:=ae (S:=bH [(cH,ui n)]) (ag (ab (qf n) ac)) uD (fun _=> Nat.le_of_ble_eq_true rfl) (PA n rfl)
   have g2:Tri Tryz.prog bp (Kw n).pt:=ae (S:=bH [(ax,CG n)]) (ag (ab g1 ac)) uC (fun _=> Nat.le_of_ble_eq_true rfl) (Pz n rfl)
   have g3:Tri Tryz.prog cW (Ef Cond (bH [(ax,CG n),(bp,Kw n)])).pt:=ae (S:=bH [(ax,CG n),(bp,Kw n)]) (ag (ab g1 (ab g2 ac))) qY (fun _=> Nat.le_of_ble_eq_true rfl) (PE)
   have g4:Tri Tryz.prog bP (IQ Cond (bH [(ax,CG n),(bp,Kw n)])).pt:=ae (S:=bH [(cW,Ef Cond (bH [(ax,CG n),(bp,Kw n)]))]) (ag (ab g3 ac)) ou (fun _=> Nat.le_of_ble_eq_true rfl) (PF rfl)
   ae (S:=bH [(ax,CG n),(bP,IQ Cond (bH [(ax,CG n),(bp,Kw n)])),(cI,uj),(cJ,Ed),(jY,IH),(ap,ol),(jX,M6),(aF,sr),(eU,M8)]) (ag (ab g1 (ab g4 (ab qJ (ab Ad (ab G2 (ab e8 (ab G1 (ab eZ (ab xU ac)))))))))) w7 (fun _=> Nat.le_of_ble_eq_true rfl) (Vk (S0:=(bH [(ax,CG n),(bp,Kw n)])) n rfl rfl rfl rfl rfl rfl rfl rfl rfl rfl rfl)
theorem Da:Tri Tryz.prog ff (nJ).pt:=
 ae (S:=bH []) (ag ac) A4 (fun _=> Nat.le_of_ble_eq_true rfl) (Cy)
theorem qK:Tri Tryz.prog cg (fl).pt:=
 ae (S:=bH [(ff,nJ)]) (ag (ab Da ac)) xc (fun _=> Nat.le_of_ble_eq_true rfl) (yn rfl)
theorem JO:Tri Tryz.prog lV (ss).pt:=
 ae (S:=bH []) (ag ac) GH (fun _=> Nat.le_of_ble_eq_true rfl) (If)
theorem u6:Tri Tryz.prog dQ (Nb).pt:=
 ae (S:=bH [(cg,fl)]) (ag (ab qK ac)) tD (fun _=> Nat.le_of_ble_eq_true rfl) (Yb rfl)
theorem tw:Tri Tryz.prog cr (s_cmpM).pt:=
 ae (S:=bH [(cg,fl),(dQ,Nb),(lV,ss)]) (ag (ab qK (ab u6 (ab JO ac)))) AZ (fun _=> Nat.le_of_ble_eq_true rfl) (Ya rfl rfl rfl)
theorem C9:Tri Tryz.prog gX (AP).pt:=
 ae (S:=bH []) (ag ac) A3 (fun _=> Nat.le_of_ble_eq_true rfl) (PD)
theorem wt:Tri Tryz.prog eE (D0).pt:=
 ae (S:=bH []) (ag ac) Ew (fun _=> Nat.le_of_ble_eq_true rfl) (XY)
theorem FS:Tri Tryz.prog iO (yJ).pt:=
 ae (S:=bH [(eE,D0)]) (ag (ab wt ac)) KF (fun _=> Nat.le_of_ble_eq_true rfl) (Ve rfl)
theorem G0:Tri Tryz.prog jV (IB).pt:=
 ae (S:=bH []) (ag ac) EG (fun _=> Nat.le_of_ble_eq_true rfl) (Gm)
theorem BR:Tri Tryz.prog gd (IF).pt:=
 ae (S:=bH [(cH,ui 21)]) (ag (ab (qf 21) ac)) zj (fun _=> Nat.le_of_ble_eq_true rfl) (Vj rfl)
theorem tc:Tri Tryz.prog bq (M1).pt:=
 ae (S:=bH []) (ag ac) kX (fun _=> Nat.le_of_ble_eq_true rfl) (X3)
theorem qcu:Tri Tryz.prog bq b_masg.pt:=Kh rfl (AA (S:=bH []) (ag ac) kX (fun _=> Nat.le_of_ble_eq_true rfl) (Vh)) fun y c hc=> by
 simp at hc
 subst hc
 exact Fl _
theorem z8:Tri Tryz.prog d8 (Yr).pt:=
 ae (S:=bH [(bq,M1),(gd,IF),(aF,sr)]) (ag (ab tc (ab BR (ab eZ ac)))) w3 (fun _=> Nat.le_of_ble_eq_true rfl) (X1 rfl rfl rfl)
theorem qcs:Tri Tryz.prog d8 b_mtok.pt:=B3 z8 fun z=> by
 obtain⟨s,v⟩:=z
 simp only[qb0]
 refine Lg fun d hd=> ?_
 simp only[List.mem_cons,List.not_mem_nil,or_false] at hd
 rcases hd with rfl | rfl
 ·exact Tu fun d hd=> by
   simp only[List.mem_cons,List.not_mem_nil,or_false] at hd
   rcases hd with rfl | rfl | rfl | rfl <;> exact Fl _
 ·exact Fl _
theorem vb:Tri Tryz.prog bc (qz).pt:=
 ae (S:=bH []) (ag ac) tH (fun _=> Nat.le_of_ble_eq_true rfl) (Vi)
theorem xR:Tri Tryz.prog dA (Ys).pt:=
 have h1:Tri Tryz.prog bC (Ef Region (bH [(bc,qz)])).pt:=ae (S:=bH [(bc,qz)]) (ag (ab vb ac)) iK (fun _=> Nat.le_of_ble_eq_true rfl) (B1)
 have h2:Tri Tryz.prog aG (IQ Region (bH [(bc,qz)])).pt:=ae (S:=bH [(bC,Ef Region (bH [(bc,qz)]))]) (ag (ab h1 ac)) gl (fun _=> Nat.le_of_ble_eq_true rfl) (B2 rfl)
 ae (S:=bH [(aG,IQ Region (bH [(bc,qz)]))]) (ag (ab h2 ac)) vH (fun _=> Nat.le_of_ble_eq_true rfl) (X4 (S0:=bH [(bc,qz)]) rfl rfl)
theorem qcv:Tri Tryz.prog dA b_manc.pt:=B3 xR fun _=> Fl _
theorem JM:Tri Tryz.prog jh (ID).pt:=
 ae (S:=bH []) (ag ac) GF (fun _=> Nat.le_of_ble_eq_true rfl) (Vf)
theorem JN:Tri Tryz.prog iy clC.pt:=PO Tryz.cloneSet rfl (ib Tryz.func184 (by kernel_rfl) rfl)
theorem BP:Tri Tryz.prog gc (M0).pt:=
 My (S:=bH []) (ag ac) zh (fun _=> Nat.le_of_ble_eq_true rfl) (X2)
theorem Se:Tri Tryz.prog aQ (wj 0).pt:=rA fun d ds H K h=> by
 obtain⟨id,b',x,z,ds',h1,h2,h3,h4,h5,h6,h7⟩:=h
 obtain⟨_,_,_,q,_,hq,_⟩:=h6
 rw[Di] at hq
 omega
theorem Pa: ∀n,Tri Tryz.prog aQ (wj n).pt
 | 0=> Se
 | n+1=>
   have h1:Tri Tryz.prog cZ (D3 n).pt:=wG (S:=bH [(aQ,wj n)]) (ag (ab (Pa n) ac)) ze (fun _=> Nat.le_of_ble_eq_true rfl) (X6 n rfl)
   have h2:Tri Tryz.prog eS (RX n).pt:=wG (S:=bH [(jh,ID),(cZ,D3 n),(aQ,wj n),(iy,clC),(gc,M0)]) (ag (ab JM (ab h1 (ab (Pa n) (ab JN (ab BP ac)))))) vG (fun _=> Nat.le_of_ble_eq_true rfl) (qaI n rfl rfl rfl rfl rfl)
   wG (S:=bH [(d8,b_mtok),(dA,b_manc),(cZ,D3 n),(aQ,wj n),(eS,RX n)]) (ag (ab qcs (ab qcv (ab h1 (ab (Pa n) (ab h2 ac)))))) w4 (fun _=> Nat.le_of_ble_eq_true rfl) (Vd n rfl rfl rfl rfl rfl)
theorem Zr:Tri Tryz.prog d5 (Iy cr c9).pt:=PN Tryz.sortMatch rfl (fun w=> Tryz.isAgg55 w) (fun w=> Tryz.sizeOf55 w) rfl tw (ib Tryz.func19 (by kernel_rfl) rfl) (ib Tryz.func83 (by kernel_rfl) rfl)
theorem qbh {p:Pat} (h:fN p<=0):False:=by rw[Di] at h;omega
theorem tj:Tri Tryz.prog a8 (ni).pt:=
 ae (S:=bH []) (ag ac) A1 (fun _=> Nat.le_of_ble_eq_true rfl) (Cw)
theorem CD:Tri Tryz.prog ct (D4).pt:=
 ae (S:=bH [(a8,ni)]) (ag (ab tj ac)) A0 (fun _=> Nat.le_of_ble_eq_true rfl) (Cv rfl)
theorem wF:Tri Tryz.prog aW (DW).pt:=
 ae (S:=bH [(a8,ni),(ct,D4)]) (ag (ab tj (ab CD ac))) vI (fun _=> Nat.le_of_ble_eq_true rfl) (wy rfl rfl)
theorem Ii:Tri Tryz.prog lR (MH).pt:=
 ae (S:=bH []) (ag ac) GB (fun _=> Nat.le_of_ble_eq_true rfl) (Ib)
theorem Ik:Tri Tryz.prog gE (IC).pt:=
 ae (S:=bH [(lR,MH)]) (ag (ab Ii ac)) GE (fun _=> Nat.le_of_ble_eq_true rfl) (Ie rfl)
theorem Gu:Tri Tryz.prog c8 (yK).pt:=
 ae (S:=bH [(aW,DW)]) (ag (ab wF ac)) EB (fun _=> Nat.le_of_ble_eq_true rfl) (Gg rfl)
theorem DF:Tri Tryz.prog cO (ug).pt:=
 ae (S:=bH []) (ag ac) CL (fun _=> Nat.le_of_ble_eq_true rfl) (Dw)
def Mj:Nat->Spc:=bH [(gE,IC),(c8,yK),(cO,ug)]
def qjU (n:Nat):Nat->Spc:=bH [(d7,RV n)]
theorem T0 {S:Nat->Spc} (h: ∀f,Tri Tryz.prog f (S f).pt):Tri Tryz.prog aB (Eg S).pt:=
 ae (S:=bH [(db,R5 S)]) (ag (ab (ae (S:=S) h ot (fun _=> Nat.le_of_ble_eq_true rfl) o3) ac)) mQ (fun _=> Nat.le_of_ble_eq_true rfl) (nf rfl)
theorem tk: ∀n,Tri Tryz.prog cR (AJ n).pt
 | 0=> li fun x h=> qbh h.1
 | n+1=>
   have h1:Tri Tryz.prog d7 (RV n).pt:=ae (S:=bH [(cR,AJ n)]) (ag (ab (tk n) ac)) wX (fun _=> Nat.le_of_ble_eq_true rfl) (yg n rfl)
   ae (S:=bH [(aB,Eg (qjU n))]) (ag (ab (T0 (S:=qjU n) (ag (ab h1 ac))) ac)) AV (fun _=> Nat.le_of_ble_eq_true rfl) (Cr (S0:=qjU n) n rfl rfl)
theorem CA:Tri Tryz.prog cR (wJ).pt:=
 ud (fun n=> tk n) (AE (fun x h=> ⟨fN x.1,Nat.le_refl _,h⟩))
def qjY (n:Nat):Nat->Spc:=bH [(fe,R2 Mj n)]
def qjX (n:Nat):Nat->Spc:=bH [(aB,Eg (qjY n)),(gE,IC),(c8,yK),(cO,ug)]
theorem VV (n:Nat) (d:D) (f:Pat->Bool) (h:FunIs Mj d f):FunIs (qjX n) d f:=by
 obtain⟨g,c,pc,a,b,e⟩:=h
 refine⟨g,c,pc,a,?_,e⟩
 by_cases hg:g=aB
 ·subst hg
  have:Mj aB=Spc.none:=rfl
  rw[this] at b
  cases b
 ·rw[<-b]
  unfold qjX Mj
  rw[bH,if_neg hg]
theorem wk: ∀n,Tri Tryz.prog bw (II Mj n).pt
 | 0=> li fun x h=> by obtain⟨f,h1,h2⟩:=h;exact qbh h2
 | n+1=>
   have h1:Tri Tryz.prog fe (R2 Mj n).pt:=ae (S:=bH [(bw,II Mj n)]) (ag (ab (wk n) ac)) AW (fun _=> Nat.le_of_ble_eq_true rfl) (Cu (S0:=Mj) n rfl)
   ae (S:=qjX n) (ag (ab (T0 (S:=qjY n) (ag (ab h1 ac))) (ab Ik (ab Gu (ab DF ac))))) EC (fun _=> Nat.le_of_ble_eq_true rfl) (Gh (S0:=qjY n) (N:=Mj) n (VV n) rfl rfl)
theorem qP:Tri Tryz.prog bw (pf Mj).pt:=
 ud (fun n=> wk n) (AE (fun x h=> by obtain⟨f,h⟩:=h;exact⟨fN x.1,f,h,Nat.le_refl _⟩))
theorem wi:Tri Tryz.prog eF (yM).pt:=
 ae (S:=bH [(cR,wJ),(bw,pf Mj)]) (ag (ab CA (ab qP ac))) EF (fun _=> Nat.le_of_ble_eq_true rfl) (Gk (N:=Mj) rfl rfl rfl)
theorem Gt:Tri Tryz.prog jT (nI).pt:=
 ae (S:=bH [(eF,yM),(bw,pf Mj)]) (ag (ab wi (ab qP ac))) EA (fun _=> Nat.le_of_ble_eq_true rfl) (Gf (N:=Mj) rfl rfl rfl rfl)
theorem yP: ∀n,Tri Tryz.prog ew (MS n).pt
 | 0=> li fun x h=> qbh h.1
 | n+1=> ae (S:=bH [(ew,MS n)]) (ag (ab (yP n) ac)) GC (fun _=> Nat.le_of_ble_eq_true rfl) (Ic n rfl)
theorem Ij:Tri Tryz.prog ew (Iz).pt:=
 ud (fun n=> yP n) (AE (fun x h=> ⟨fN x,Nat.le_refl _,h⟩))
theorem uq: ∀n,Tri Tryz.prog de (D8 n).pt
 | 0=> li fun x h=> h
 | n+1=> ae (S:=bH [(de,D8 n)]) (ag (ab (uq n) ac)) CM (fun _=> Nat.le_of_ble_eq_true rfl) (Dz n rfl)
theorem DH:Tri Tryz.prog de (AO).pt:=
 ud (fun n=> uq n) (AE (fun x h=> h))
theorem wh:Tri Tryz.prog fP (yL).pt:=
 ae (S:=bH [(de,AO)]) (ag (ab DH ac)) ED (fun _=> Nat.le_of_ble_eq_true rfl) (Gi rfl)
theorem un: ∀n,Tri Tryz.prog bW (Bq n).pt
 | 0=> rA fun d ds H K ⟨id,v,l,a,x,h1,h2,h3,h4,h5⟩=> qbh h4.1
 | n+1=> DL (S:=bH [(bW,Bq n),(fP,yL)]) (ag (ab (un n) (ab wh ac))) tm (by decide) (Dx n rfl rfl)
theorem rv:Tri Tryz.prog bW i_leavesQA.pt:=ud (fun n=> un n) fun d ds H K ⟨id,v,l,a,x,h1,h2,h3,h4,h5⟩=> ⟨fN x,id,v,l,a,x,h1,h2,h3,⟨Nat.le_refl _,h4⟩,h5⟩
theorem DG:Tri Tryz.prog bW s_leavesQ.pt:=MA (AA (S:=bH [(bW,i_leavesQA),(fP,yL)]) (ag (ab rv (ab wh ac))) tm (fun _=> Nat.le_of_ble_eq_true rfl) (Cs rfl rfl)) rv
theorem RA:Tri Tryz.prog aw s_has2.pt:=
 have h:Tri Tryz.prog aw s_hasE.pt:=ae (S:=bH [(aF,sr)]) (ag (ab eZ ac)) jm (fun _=> Nat.le_of_ble_eq_true rfl) (ww rfl)
 MA h (DM h rfl fun _=> Fl _)
theorem uo: ∀n,Tri Tryz.prog aU (Fh n).pt
 | 0=> rA fun d ds H K ⟨id,v,l,a,x,h1,h2,h3,h4,h5⟩=> qbh h4.1
 | n+1=> DL (S:=bH [(aw,s_has2),(aU,Fh n)]) (ag (ab RA (ab (uo n) ac))) tn (by decide) (Dy n rfl rfl)
theorem rz:Tri Tryz.prog aU i_labelsA.pt:=ud (fun n=> uo n) fun d ds H K ⟨id,v,l,a,x,h1,h2,h3,h4,h5⟩=> ⟨fN x,id,v,l,a,x,h1,h2,h3,⟨Nat.le_refl _,h4⟩,h5⟩
theorem o4:Tri Tryz.prog aU s_qlabels.pt:=MA (AA (S:=bH [(aw,s_has2),(aU,i_labelsA)]) (ag (ab RA (ab rz ac))) tn (fun _=> Nat.le_of_ble_eq_true rfl) (Ct rfl rfl)) rz
theorem DI:Tri Tryz.prog iP (pd).pt:=
 ae (S:=bH [(jT,nI),(aU,s_qlabels)]) (ag (ab Gt (ab o4 ac))) CN (fun _=> Nat.le_of_ble_eq_true rfl) (DA rfl rfl)
theorem JL:Tri Tryz.prog lS (MW).pt:=
 ae (S:=bH []) (ag ac) GD (fun _=> Nat.le_of_ble_eq_true rfl) (Id)
theorem GZ:Tri Tryz.prog jU (IN).pt:=
 ae (S:=bH [(lS,MW)]) (ag (ab JL ac)) EE (fun _=> Nat.le_of_ble_eq_true rfl) (Gj rfl)
theorem qt:Tri Tryz.prog cA (Nf).pt:=
 ae (S:=bH []) (ag ac) pD (fun _=> Nat.le_of_ble_eq_true rfl) (qk)
theorem hU:Tri Tryz.prog aS (Eh).pt:=
 ae (S:=bH [(cA,Nf)]) (ag (ab qt ac)) nk (fun _=> Nat.le_of_ble_eq_true rfl) (nF rfl)
theorem ua:Tri Tryz.prog dS (Nc).pt:=
 ae (S:=bH [(eF,yM),(bw,pf Mj),(ew,Iz),(aU,s_qlabels),(aS,Eh)]) (ag (ab wi (ab qP (ab Ij (ab o4 (ab hU ac)))))) tG (fun _=> Nat.le_of_ble_eq_true rfl) (Yc (N:=Mj) rfl rfl rfl rfl rfl rfl rfl)
theorem z6:Tri Tryz.prog fB (IK).pt:=
 ae (S:=bH []) (ag ac) wY (fun _=> Nat.le_of_ble_eq_true rfl) (Vl)
theorem BO:Tri Tryz.prog eK (Nd).pt:=
 ae (S:=bH [(fB,IK)]) (ag (ab z6 ac)) zc (fun _=> Nat.le_of_ble_eq_true rfl) (Yd rfl)
theorem Az:Tri Tryz.prog ga (MU).pt:=
 ae (S:=bH [(dS,Nc),(aU,s_qlabels),(bW,s_leavesQ),(dT,Ne),(aS,Eh),(jU,IN),(eK,Nd)]) (ag (ab ua (ab o4 (ab DG (ab ve (ab hU (ab GZ (ab BO ac)))))))) zd (fun _=> Nat.le_of_ble_eq_true rfl) (XZ rfl rfl rfl rfl rfl rfl rfl)
theorem Il:Tri Tryz.prog lT (IE).pt:=
 ae (S:=bH [(gX,AP),(iP,pd),(aQ,wj 101),(bq,b_masg),(d5,Iy cr c9)]) (ag (ab C9 (ab DI (ab (Pa 101) (ab qcu (ab Zr ac)))))) GG (fun _=> Nat.le_of_ble_eq_true rfl) (Vg rfl rfl rfl rfl rfl)
theorem CB:Tri Tryz.prog gV (R1).pt:=
 ae (S:=bH [(ga,MU),(lT,IE)]) (ag (ab Az (ab Il ac))) AY (fun _=> Nat.le_of_ble_eq_true rfl) (qaL rfl rfl)
theorem eG:Tri Tryz.prog av (rE).pt:=
 dh (S:=bH []) (ag ac) yZ (fun _=> Nat.le_of_ble_eq_true rfl) (qaK)
theorem nG:Tri Tryz.prog bV (M3).pt:=
 dh (S:=bH [(av,rE)]) (ag (ab eG ac)) AU (fun _=> Nat.le_of_ble_eq_true rfl) (qfX rfl)
theorem fU:Tri Tryz.prog au (uh).pt:=
 dh (S:=bH [(bV,M3)]) (ag (ab nG ac)) za (fun _=> Nat.le_of_ble_eq_true rfl) (qaM rfl)
theorem yw:Tri Tryz.prog aK (MP).pt:=
 dh (S:=bH [(av,rE)]) (ag (ab eG ac)) wT (fun _=> Nat.le_of_ble_eq_true rfl) (XW rfl)
theorem yz:Tri Tryz.prog fA (M5).pt:=
 dh (S:=bH [(au,uh)]) (ag (ab fU ac)) wW (fun _=> Nat.le_of_ble_eq_true rfl) (X9 rfl)
theorem yx:Tri Tryz.prog fw (MX).pt:=
 dh (S:=bH []) (ag ac) wU (fun _=> Nat.le_of_ble_eq_true rfl) (X0)
theorem vD:Tri Tryz.prog eo (wK).pt:=
 dh (S:=bH [(av,rE),(fw,MX)]) (ag (ab eG (ab yx ac))) uw (fun _=> Nat.le_of_ble_eq_true rfl) (Rr rfl rfl)
theorem yy:Tri Tryz.prog fy (M2).pt:=
 dh (S:=bH [(av,rE),(au,uh),(aK,MP),(fA,M5)]) (ag (ab eG (ab fU (ab yw (ab yz ac))))) wV (fun _=> Nat.le_of_ble_eq_true rfl) (X8 rfl rfl rfl rfl)
theorem Aw:Tri Tryz.prog eI (RY).pt:=
 dh (S:=bH [(av,rE),(au,uh),(fy,M2)]) (ag (ab eG (ab fU (ab yy ac)))) yY (fun _=> Nat.le_of_ble_eq_true rfl) (qaJ rfl rfl rfl)
theorem Av:Tri Tryz.prog eH (RW).pt:=
 dh (S:=bH [(eo,wK),(eI,RY)]) (ag (ab vD (ab Aw ac))) yX (fun _=> Nat.le_of_ble_eq_true rfl) (qaH rfl rfl)
theorem Ay:Tri Tryz.prog eJ (R3).pt:=
 dh (S:=bH [(au,uh),(eH,RW)]) (ag (ab fU (ab Av ac))) zb (fun _=> Nat.le_of_ble_eq_true rfl) (qaN rfl rfl)
theorem DE:Tri Tryz.prog f9 (ni).pt:=
 ae (S:=bH []) (ag ac) CK (fun _=> Nat.le_of_ble_eq_true rfl) (Mn)
theorem Gr:Tri Tryz.prog fO (AL).pt:=
 ae (S:=bH []) (ag ac) Ey (fun _=> Nat.le_of_ble_eq_true rfl) (Py)
theorem Ke:Tri Tryz.prog nw (IA).pt:=
 ae (S:=bH []) (ag ac) I1 (fun _=> Nat.le_of_ble_eq_true rfl) (Vc)
theorem Mt:Tri Tryz.prog pJ (MT).pt:=
 ae (S:=bH [(f9,ni),(fO,AL),(nw,IA)]) (ag (ab DE (ab Gr (ab Ke ac)))) KG (fun _=> Nat.le_of_ble_eq_true rfl) (XX rfl rfl rfl)
theorem yv:Tri Tryz.prog d6 (MO).pt:=
 dh (S:=bH [(bV,M3)]) (ag (ab nG ac)) wS (fun _=> Nat.le_of_ble_eq_true rfl) (XV rfl)
theorem Gs:Tri Tryz.prog jS (Iw).pt:=
 ae (S:=bH []) (ag ac) Ez (fun _=> Nat.le_of_ble_eq_true rfl) (PB)
theorem Kf:Tri Tryz.prog ny (IP).pt:=
 ae (S:=bH [(pJ,MT),(eJ,R3),(au,uh),(jS,Iw),(d6,MO),(bV,M3),(av,rE)]) (ag (ab Mt (ab Ay (ab fU (ab Gs (ab yv (ab nG (ab eG ac)))))))) I2 (fun _=> Nat.le_of_ble_eq_true rfl) (Vn rfl rfl rfl rfl rfl rfl rfl)
theorem Gw:Tri Tryz.prog jW (AK).pt:=
 ae (S:=bH [(ny,IP),(jV,IB),(gV,R1),(iO,yJ)]) (ag (ab Kf (ab G0 (ab CB (ab FS ac))))) EH (fun _=> Nat.le_of_ble_eq_true rfl) (Px rfl rfl rfl rfl)
theorem Gx:Tri Tryz.prog pK (Yt).pt:=
 ae (S:=bH [(cr,s_cmpM),(eE,D0),(iO,yJ),(jW,AK)]) (ag (ab tw (ab wt (ab FS (ab Gw ac))))) vJ (fun _=> Nat.le_of_ble_eq_true rfl) (X7 rfl rfl rfl rfl)
end Go.Gv
