/- A part of the framework and of the walks: W205 Asm27 Fr Fr2 Fr3 V32 Fr4. -/
import Derived.WalkKit
import Derived.ProofKit
import Derived.OpenShut
import Derived.ShutString
import Derived.ChangeOld
import Derived.Below
import Derived.Test.YtphdikcommfnhaaGreatDoorGf49
import Derived.Test.YtphdikcommfnhaaGreatDoorGf48
import Derived.Test.YtphdikcommfnhaaGreatDoorGf21
import Derived.Test.YtphdikcommfnhaaGreatDoorGf19
set_option linter.unusedSimpArgs false
set_option linter.unusedVariables false
set_option linter.unusedSectionVars false
set_option maxRecDepth 100000

namespace Go.Gv
open Go.Proofs
open Cod (enc dec)
variable {S S0:Nat->Spc}
end Go.Gv

namespace Go.Gv
open Go.Proofs Cod
theorem qiC:Tri Tryz.prog nI (N5).pt:=
 ae (ag ac) LN (fun _=>qwO rfl) (qei)
theorem qeW:Tri Tryz.prog cW (N7).pt:=
 ae (ag (aa gr ac)) wl (fun _=>qwO rfl) (qel rfl)
def qn1:Nat->Spc:=HU [(nI,N5),(cW,N7)]
theorem qe0:Tri Tryz.prog cg (VI qn1).pt:=
 ae (S:=qn1) (ag (aa qiC (aa qeW ac))) jt (fun _=>qwO rfl) qer
theorem VL:Tri Tryz.prog aL (Oa qn1).pt:=
 ae (ag (aa qe0 ac)) gl (fun _=>qwO rfl) (qes rfl)
theorem qiD:Tri Tryz.prog eu (TT).pt:=
 ae (ag (aa gr ac)) zR (fun _=>qwO rfl) (qh2 rfl)
def qrj:Nat->Spc:=HU [(eu,TT)]
theorem qiG:Tri Tryz.prog eU (qaM qrj).pt:=
 ae (S:=qrj) (ag (aa qiD ac)) td (fun _=>qwO rfl) qh3
theorem qiH:Tri Tryz.prog eo (qaP qrj).pt:=
 ae (ag (aa qiG ac)) qE (fun _=>qwO rfl) (qh4 rfl)
theorem qa2:Tri Tryz.prog ft (QL).pt:=
 ae (ag (aa ll (aa dt (aa gr (aa qiH (aa BO ac)))))) te (fun _=>qwO rfl) (ZF (S0:=qrj) rfl rfl rfl rfl rfl rfl)
theorem QV:∀n,Tri Tryz.prog dC (VB n).pt
 | 0=>dN fun x h=>by have:=h.1;have:=Ib x.1;omega
 | n+1=>ae (ag (aa qa2 (aa (QV n) ac))) uo (fun _=>qwO rfl) (qen n rfl rfl)
theorem qeX:Tri Tryz.prog dC (QM).pt:=jc (fun n=>QV n) (mK (fun x h=>⟨lM x.1,qwY _,h⟩))
theorem qiA:Tri Tryz.prog nH (Vr).pt:=
 ae (ag ac) BJ (fun _=>qwO rfl) (Li)
theorem VK:∀n,Tri Tryz.prog ib (QC n).pt
 | 0=>dN fun x h=>by have:=h.1;have:=Ib x.1;omega
 | n+1=>ae (ag (aa (VK n) ac)) Fu (fun _=>qwO rfl) (E5 n rfl)
theorem qiB:Tri Tryz.prog ib (QD).pt:=jc (fun n=>VK n) (mK (fun x h=>h))
theorem qiE:Tri Tryz.prog dL (VE).pt:=
 ae (ag ac) LO (fun _=>qwO rfl) (Ln)
def qri(n:Nat):Nat->Spc:=HU [(fa,Jb n)]
theorem QW:∀n,Tri Tryz.prog lc (QQ n).pt
 | 0=>dN fun x h=>by have:=h.1.1;have:=Ib x.1;omega
 | n+1=>
   have h1:Tri Tryz.prog fa (Jb n).pt:=ae (ag (aa (QW n) ac)) Fw (fun _=>qwO rfl) (G9 n rfl)
   have h2:Tri Tryz.prog dU (qaN (qri n)).pt:=ae (S:=qri n) (ag (aa h1 ac)) pu (fun _=>qwO rfl) qv
   have h3:Tri Tryz.prog cV (qaQ (qri n)).pt:=ae (ag (aa h2 ac)) mH (fun _=>qwO rfl) (mI rfl)
   ae (ag (aa h3 (aa qiE ac))) JD (fun _=>qwO rfl) (Lm (S0:=qri n) n rfl rfl rfl)
theorem qeY:Tri Tryz.prog lc (QR).pt:=jc (fun n=>QW n) (mK (fun x h=>by obtain⟨⟨n,h1⟩,h2⟩:=h;exact⟨n,h1,h2⟩))
theorem qeZ:Tri Tryz.prog ld (QS).pt:=
 ae (ag (aa qiA (aa qiB (aa qeY ac)))) zS (fun _=>qwO rfl) (Ir rfl rfl rfl)
theorem qeV:Tri Tryz.prog dW (Vz).pt:=
 ae (ag (aa uL (aa qh (aa Dy (aa ja (aa VL ac)))))) oQ (fun _=>qwO rfl) (qek (N:=Zm) (N2:=qn1) rfl rfl rfl rfl rfl rfl rfl rfl)
theorem Jl:Tri Tryz.prog fV (HY Mb).pt:=
 ae (ag (aa qeV (aa ja (aa zo (aa qO (aa VL (aa qeZ (aa qeX ac)))))))) uq (fun _=>qwO rfl) (qd8 (N:=qn1) rfl rfl rfl rfl rfl rfl rfl rfl)
theorem X2:Tri Tryz.prog ig (TP Mb).pt:=
 ae (ag (aa Jl (aa wM ac))) wm (fun _=>qwO rfl) (qgM rfl rfl)
theorem qiF:Tri Tryz.prog xR (QA Mb).pt:=
 ae (ag (aa Jl (aa wM ac))) LR (fun _=>qwO rfl) (qeh rfl rfl)
theorem DA:Tri Tryz.prog fW (BG).pt:=
 jc (fun n=>wC n) (mK (fun x h=>⟨x.2.1.toNat+1,Nat.lt_succ_self _,h⟩))
theorem GJ:∀n,Tri Tryz.prog qK (DN n).pt
 | 0=>dN fun x h=>absurd h.1 (Nat.not_lt_zero _)
 | n+1=>ae (ag (aa (GJ n) ac)) OA (fun _=>qwO rfl) (ND n rfl)
theorem P6:Tri Tryz.prog qK (BF).pt:=
 jc (fun n=>GJ n) (mK (fun x h=>by obtain⟨n,h⟩:=h;exact⟨n+1,Nat.succ_pos _,h⟩))
theorem QU:∀n,Tri Tryz.prog Av (Mq n).pt
 | 0=>dN fun x h=>absurd h.1 (Nat.not_lt_zero _)
 | n+1=>ae (ag (aa P6 (aa (QU n) ac))) Yd (fun _=>qwO rfl) (Xu n rfl rfl)
theorem ZO:Tri Tryz.prog Av (I1).pt:=
 jc (fun n=>QU n) (mK (fun x h=>by obtain⟨n,h⟩:=h;exact⟨n+1,Nat.succ_pos _,h⟩))
theorem MC:∀n,Tri Tryz.prog pH (Rz n).pt
 | 0=>sD fun d ds H K ⟨id,v,l,a,x,h1,h2,h3,h4,h5⟩=>qkK h4.1
 | n+1=>B2 (ag (aa (MC n) ac)) JH (by decide) (PZ n rfl)
theorem Gs:Tri Tryz.prog pH i_BoundA2.pt:=jc (fun n=>MC n) fun d ds H K ⟨id,v,l,a,x,h1,h2,h3,h4,h5⟩=>⟨eG x,id,v,l,a,x,h1,h2,h3,⟨qwY _,h4⟩,h5⟩
theorem XI:Tri Tryz.prog pH s_Bound2.pt:=NN (AY (ag (aa Gs ac)) JH (fun _=>qwO rfl) (P0 rfl)) Gs
theorem rQ:∀n,Tri Tryz.prog ew (yw n).pt
 | 0=>dN fun x h=>absurd h.1 (Nat.not_lt_zero _)
 | n+1=>ae (ag (aa cS (aa EG (aa (rQ n) ac)))) zV (fun _=>qwO rfl) (Hd n rfl rfl rfl)
theorem Bl:Tri Tryz.prog ew (wg).pt:=
 jc (fun n=>rQ n) (mK (fun x h=>h))
theorem Hl:Tri Tryz.prog rk (GE).pt:=
 ae (ag (aa cS (aa EG ac))) FC (fun _=>qwO rfl) (PY rfl rfl)
theorem IB:Tri Tryz.prog tu (I2).pt:=
 ae (ag (aa cS (aa DA (aa XI (aa ZO (aa Bl (aa Hl ac))))))) HA (fun _=>qwO rfl) (Tj rfl rfl rfl rfl rfl rfl)
theorem Qj:Tri Tryz.prog wv (qis).pt:=
 ae (ag (aa qeE (aa Hm (aa IB (aa X2 (aa qiF (aa Lz (aa KJ ac)))))))) Ed (fun _=>qwO rfl) (qhV rfl rfl rfl rfl rfl rfl rfl)
end Go.Gv

namespace Go.Gv
open Go.ChangeShapes Go.WideShapes Go.ChangeAt Go.RowKit
section
variable {H:Type}{ec:TypeId×Value->H}{P:Program}{w:World}{base:Nat}{spare:Nat->Bool}{held:Bool}{tp I:Nat->Prop}
def OpR(tp I:Nat->Prop)(w:World)(cs:List Value)(d:D):Prop:=cs.length=d.cells.length/\∀ (k:Nat) (y:Value) (c:D),cs[k]? =some y->d.cells[k]? =some c->y.oneCell'=true/\R tp I w y c
theorem OpR.one{y:Value}{d:D}(h:OpR tp I w [y] d)(hd:d.cells=[d]):R tp I w y d:=(h.2 0 y d rfl (by rw[hd];rfl)).2
theorem qbd{t:TypeId}{fuel:Nat}{cs:List Value}{x:DataW H×List MemPlace}(ht:P.underlying t=some (.int .i64))(h:DataW.trod ec P w base spare held fuel t cs=some x):∃n:Int,OpR tp I w cs (Cod.enc n):=by
 obtain⟨n,rfl,_,_⟩:=DataW.trod_int ht h
 refine⟨n,rfl,fun k y c h1 h2=>?_⟩
 cases k with
 | zero=>cases h1;cases h2;exact⟨rfl, .v _ rfl (fun s h=>by cases h)⟩
 | succ k=>simp at h1
theorem QZ{Y:Type}[Cod Y]{t e:TypeId}(ht:P.underlying t=some (.slice e))(hc:P.cellsOf e=Cod.wd Y)(h0:0 < Cod.wd Y)
 (hel:∀ (n:Nat) (cs:List Value) (x:DataW H×List MemPlace),DataW.trod ec P w base spare held n e cs=some x->∃y:Y,OpR tp I w cs (Cod.enc y)) (hI:∀b,b < w.heap.size->I b)
 {fuel:Nat} {cs:List Value} {x:DataW H×List MemPlace} (h:DataW.trod ec P w base spare held fuel t cs=some x) (h1w:Cod.wd Y=1:=by rfl):∃l:List Y,OpR tp I w cs (Cod.enc l):=by
 have one:∀ (v:Value) (l:List Y),v.oneCell'=true->R tp I w v (.list (Cod.wd Y) (l.map Cod.enc))->OpR tp I w [v] (Cod.enc l):=fun v l h1 h2=>⟨rfl,fun k y c e1 e2=>by
  cases k with
  | zero=>cases e1;cases e2;exact⟨h1,h2⟩
  | succ k=>simp at e1⟩
 rcases DataW.trod_slice ht h with⟨rfl,_⟩|⟨a,len,cap,elems,rest,n,_,rfl,_,_,hl,hm,hlen,hel',_⟩
 ·exact⟨[],one _ [] rfl (.nolist none 0 _)⟩
 ·by_cases hz:len=0
  ·subst hz
   exact⟨[],one _ [] rfl (.nolist (some a) cap _)⟩
  ·have each:∀i:_root_.Fin len,∃p:List Value×Y,w.cells? base (a.add (i*P.cellsOf e)) (P.cellsOf e)=some p.1/\OpR tp I w p.1 (Cod.enc p.2):=fun i=>by
    have h1:=hel' i i.2
    rw[qwQ (by omega)]at h1
    obtain⟨cs',h2,h3⟩:=qwN.1 h1
    obtain⟨y,hy⟩:=hel n cs' _ h3
    exact⟨(cs',y),h2,hy⟩
   obtain⟨g,hg⟩:=qy5 each
   obtain⟨b,off,spot⟩:=a
   have cellAt:∀ (i:_root_.Fin len) (j:Nat),j < Cod.wd Y->∃v,(g i).1[j]? =some v/\w.cell? ((Addr.add ⟨b,off,spot⟩ (i*Cod.wd Y)).add j)=some v:=fun i j hj=>by
    have h1:=World.cells?_some (hg i).1
    have h2:=h1.2.2 j (by rw[hc];exact hj)
    have h3:j < (g i).1.length:=by rw[h1.2.1,hc];exact hj
    refine⟨(g i).1[j],qwQ h3,?_⟩
    rw[hc]at h2
    rw[h2,qwQ h3]
   have hs:spot=none:=by
    obtain⟨v,_,h2⟩:=cellAt ⟨0,by omega⟩ 0 h0
    have:=World.cell?_spot h2
    simpa [Addr.add]using this
   subst hs
   have hadd:∀ (o n:Nat),Addr.add ⟨b,o,none⟩ n=⟨b,o+n,none⟩:=fun o n=>by
    unfold Addr.add
    split
    ·rename_i e;subst e;rfl
    ·rfl
   have cellAt':∀ (i:_root_.Fin len) (j:Nat),j < Cod.wd Y->∃v,(g i).1[j]? =some v/\w.cell? ⟨b,off+ (i*Cod.wd Y+j),none⟩=some v:=fun i j hj=>by
    obtain⟨v,h1,h2⟩:=cellAt i j hj
    refine⟨v,h1,?_⟩
    rw[hadd,hadd]at h2
    rw[<-qx9]
    exact h2
   have hb:b < w.heap.size:=by
    obtain⟨v,_,h2⟩:=cellAt' ⟨0,by omega⟩ 0 h0
    unfold World.cell? at h2
    by_cases hlt:b < w.heap.size
    ·exact hlt
    ·simp only[qyf (Nat.le_of_not_lt hlt)]at h2
     cases h2
   let es:List Y:=List.ofFn fun i=>(g i).2
   have hesl:es.length=len:=by simp[es]
   have hesi:∀i:_root_.Fin len,(es.map Cod.enc)[(i:Nat)]? =some (Cod.enc (g i).2):=fun i=>by
    rw[qw6]
    have:es[(i:Nat)]? =some (g i).2:=by simp[es]
    rw[this];rfl
   have hw:∀d∈es.map Cod.enc,d.kn=true/\d.cells.length=Cod.wd Y:=fun d hd=>by
    obtain⟨y,_,rfl⟩:=qw3.1 hd
    exact⟨Cod.kn y,Cod.wid y⟩
   have flatAt:∀ (k:Nat) (c:D),(aW (es.map Cod.enc))[k]? =some c->∃v,w.cell? ⟨b,off+k,none⟩=some v/\v.oneCell'=true/\R tp I w v c:=fun k c hk=>by
    have hkl:=(qwP.1 hk).1
    rw[aQ (fun d hd=>(hw d hd).2),qxC,hesl]at hkl
    have hdm:k=(k/Cod.wd Y) *Cod.wd Y+k % Cod.wd Y:=by have:=qx5 k (Cod.wd Y);rw[qx0]at this;omega
    have hmod:k % Cod.wd Y < Cod.wd Y:=qyd _ h0
    have hq:k/Cod.wd Y < len:=qyW (by rw[qx0];exact hkl)
    have g1:=dn (es:=es.map Cod.enc) (fun d hd=>(hw d hd).2) (i:=k/Cod.wd Y) hmod
    rw[<-hdm,hk,hesi ⟨k/Cod.wd Y,hq⟩]at g1
    simp only[qw7]at g1
    obtain⟨v,h1,h2⟩:=cellAt' ⟨k/Cod.wd Y,hq⟩ (k % Cod.wd Y) hmod
    simp only at h2
    rw[<-hdm]at h2
    exact⟨v,h2,(hg ⟨k/Cod.wd Y,hq⟩).2.2 _ v c h1 g1.symm⟩
   have hR:R tp I w (.slice (some ⟨b,off,none⟩) len cap) (.list (Cod.wd Y) (es.map Cod.enc)):=by
    have hll:(es.map (Cod.enc (X:=Y))).length=len:=by simp[hesl]
    rw[<-hll]
    have rd:∀ (k:Nat) (c:D),(aW (es.map Cod.enc))[k]? =some c->w.cell? ⟨b,off+k,none⟩=some ((w.cell? ⟨b,off+k,none⟩).getD Go.undef):=fun k c hk=>by
     obtain⟨v,h1,_⟩:=flatAt k c hk
     rw[h1];rfl
    refine .list b off cap _ (es.map Cod.enc) (fun k=>(w.cell? ⟨b,off+k,none⟩).getD Go.undef) (hI b hb) (by rw[hll];exact hl) hm (fun h=>absurd h1w h) hw rd (fun k c hk=>?_) (fun k c hk=>?_)
    ·obtain⟨v,h1,h2,_⟩:=flatAt k c hk
     rw[h1];exact h2
    ·obtain⟨v,h1,_,h2⟩:=flatAt k c hk
     rw[h1];exact h2
   exact⟨es,one _ es rfl hR⟩
end
end Go.Gv

namespace Go.Gv
open Go.ChangeShapes Go.WideShapes Go.ChangeAt Go.RowKit
section
variable {H:Type}{ec:TypeId×Value->H}{P:Program}{w:World}{base:Nat}{spare:Nat->Bool}{held:Bool}{tp I:Nat->Prop}
end
abbrev qo6(w:World):Nat->Prop:=aO (fun _=>False) (fun _=>False) bJ w
theorem qbr{w:World}{b:Nat}(h:b < w.heap.size):qo6 w b:=⟨h,fun h=>h,fun h=>h,fun⟨i,r,h,_⟩=>by simp[bJ]at h⟩
end Go.Gv

namespace Go.Gv
open Go.ChangeShapes Go.WideShapes Go.ChangeAt Go.RowKit
section
variable {H:Type}{ec:TypeId×Value->H}{P:Program}{w:World}{base:Nat}{spare:Nat->Bool}{held:Bool}{tp I:Nat->Prop}
end
end Go.Gv

namespace Go.Gv
open Cod (enc dec)
instance:Cod UInt8 where
 wd:=1
 enc n:= .v (.int .u8 n.toNat)
 dec| .v (.int .u8 n)=>if 0<=n/\n<=255 then some (UInt8.ofNat n.toNat)else none|_=>none
 kn _:=rfl
 wid _:=rfl
 dec_enc n:=by
  have:=n.toNat_lt
  simp only
  rw[if_pos (by omega)]
  congr 1
  rw[qzu,UInt8.ofNat_toNat]
 le d x h:=by
  split at h
  ·split at h
   ·rename_i n hn
    cases h
    have e:((UInt8.ofNat n.toNat).toNat:Int)=n:=by
     rw[qys]
     omega
    show FrzTo bJ _ (.v (.int .u8 ((UInt8.ofNat n.toNat).toNat:Int)))
    rw[e]
    exact .same _
   ·cases h
  ·cases h
end Go.Gv

namespace Go.Gv
open Go.ChangeShapes Go.WideShapes Go.ChangeAt Go.RowKit
section
variable {H:Type}{ec:TypeId×Value->H}{P:Program}{w:World}{base:Nat}{spare:Nat->Bool}{held:Bool}{tp I:Nat->Prop}
end
theorem Un{P:Program}{f:Nat}{X:Type}{A:de X}{p:X->Prop}{q:X->Bool->Prop}(h:Tri P f (aJ A p (Cod.enc (X:=Bool)) q).pt)(hq:∀x y,q x y->y=true){w:World}{vs:List Value}{ds:List D}{x:X}(hp:p x)(hlen:vs.length=ds.length)
 (hR:∀ (k:Nat) (y:Value) (c:D),vs[k]? =some y->ds[k]? =some c->R (fun _=>False) (qo6 w) w y c) (hdec:A.dec ds=some x) (hG:GlW (fun _=>False) (fun _=>False) w):
 Calls P f vs.toArray w fun e w'=>e= .returned (.bool true)/\Below w.heap.size w w':=by
 obtain⟨_,hc⟩:=h (fun _=>False) (fun _=>False) w vs ds bJ 0 (fun r H'=>r= .v (.bool true)) (fun b h=>h.elim) ⟨fun b h=>h.elim,hG.mono (fun _ h=>h) (fun b ⟨i,r,h,_⟩=>by simp[bJ]at h)⟩
  ⟨fun i j r s b h=>by simp[bJ]at h,fun i r b h=>by simp[bJ]at h,fun i r h=>by simp[bJ]at h⟩ hlen hR
  (by rw[sE,hdec];exact⟨hp,fun y hy=>by rw[hq x y hy];rfl⟩)
 refine hc.mono ?_
 rintro e w' ⟨v,r,H',tp',rfl,hr,_,_,_,hs,_,_,hv⟩
 subst hr
 have hv':=hv.inv_v
 subst hv'
 exact⟨rfl,hs.os,hs.tape,hs.output,hs.size,fun k hk=>hs.same k hk (fun⟨i,r,h,_⟩=>by simp[bJ]at h) (fun h=>h)⟩
end Go.Gv
