/- W229 -/
import Derived.Ground.GgzProg
import Derived.Test.YtfpmgnnippjblaaGreatDoorProg
import Derived.Test.YtfpmgnnippjblaaGreatDoorGa24
set_option linter.all false
set_option maxRecDepth 100000
set_option maxHeartbeats 0
open Bool renaming forall_bool → fB', exists_bool → eB'
namespace Go.Gv
section
open Cod (enc dec)
open Go.Proofs Go.Sort Go.Shelf Go.Lib Go.RowKit
variable {dq:Prop}
section
variable {P:Program}{ρ:Ren}{X:Type}[Cod X][Inhabited X]
def qsj(g:Nat)(x:D×Unit)(l:List X):Prop:=x.1= .clo g []/\l.length<=100000
def qhY(cf:X->X->Int)(_:D×Unit)(l r:List X):Prop:=r=l.mergeSort λx y=>!(ltOf cf) y x
theorem qhv(hTb:qW=[]){g:Nat}{cf:X->X->Int}(ev:X->List Value)(l:∀x,enc x=D.agg ((ev x).map D.v))(a:∀x,∀v∈ev x,v.oneCell'=true/\∀s,v= .string s->s.size<=maxLen)
 (A:Tri True P g (aA (a2 X X) (λ_=>True) (enc (X:=Int)) λx y=>y=cf x.1 x.2).pt) (blk size k:Nat) (w:World):CmpLays P g #[] ev k cf blk 0 size w:=by
 intro m os C _ x y;generalize sortWorldK ev k w blk 0 m C os=W;have E:∀z,R (λ_=>False) (aW (λb=>b<W.heap.size) (λ_=>False) cX W) W (.agg (ev z).toArray) (enc z):=λz=>by
  rw[l z];refine .agg (ev z) _ (by simp) (λv q=>(a z v q).1) λj v c h1 h2=>?_
  rw[qBw]at h2;rw[h1]at h2;cases h2;exact .v v (a z v (qBf h1)).1 (a z v (qBf h1)).2
 obtain⟨_,hc⟩:=A (λb=>b<W.heap.size) (λ_=>False) W [.agg (ev x).toArray, .agg (ev y).toArray] [enc x,enc y] cX 0 (λr H'=>r=enc (cf x y)/\H'=cX) (λb h=>h) ⟨λb h=>h.elim,λp hp=>by grind⟩
  ⟨λi j r s b h=>by simp,λi r b h=>by simp_all,λi r h=>by simp_all⟩ rfl
  (λj v c h1 h2=>by
    grind)
  (by simp)
 refine hc.mono ?_;rintro e w' ⟨v,r,H',d,rfl,⟨rfl,rfl⟩,_,_,_,hs,_,_,q⟩;have t:v= .int .i64 (cf x y):=by
  have:R d (aW (λb=>b<W.heap.size) d cX w') w' v (.v (.int .i64 (cf x y))):=q;exact this.inv_v
 subst t;refine⟨rfl,w'.drawn -W.drawn,w'.heap.extract W.heap.size w'.heap.size,?_⟩;have u:w'.heap=W.heap++w'.heap.extract W.heap.size w'.heap.size:=by
  apply Array.ext_getElem?;intro b;by_cases hb:b<W.heap.size
  ·rw[qB0 hb];exact hs.same b hb (λ⟨i,r,h,_⟩=>by simp_all) (λh=>h)
  grind
 have h1:=hs.os;have h2:=hs.tape;have h3:=hs.output;have h4:=hs.drawn trivial;have h5:W.drawn+ (w'.drawn -W.drawn)=w'.drawn:=by omega
 cases w';grind [qW,D,Cod.enc,Tri,grow,World.drewN]
theorem RE(hTb:qW=[]){I g:Nat}{cf:X->X->Int}(L:SlLaysF0.n6 P ρ)(hf:ρ.f 6=I)(ev:X->List Value)(k el:Nat)(hk:∀x,(ev x).length=k)(hev:∀x,enc x=D.agg ((ev x).map D.v))
 (C:∀x,∀v∈ev x,v.oneCell'=true/\∀s,v= .string s->s.size<=maxLen) (aE:∀w,(isAgg (ρ.t 24)).run P w= .ok true w) (zE:∀w,(Go.sizeOf (ρ.t 24)).run P w= .ok k w)
 (hO:SWO (ltOf cf)) (hT:∀x y,(ltOf cf) x y=false->(ltOf cf) y x=false->x=y) (hg:Tri True P g (aA (a2 X X) (λ_=>True) (enc (X:=Int)) λx y=>y=cf x.1 x.2).pt) (eg:eE P g) (ef:eE P I):
 Tri dq P I (qoZ (aD a0) (qsj g) (qhY cf) el k).pt:=by
 subst hf;intro O tp w vs ds H d K hO' htl p hlen u hA;obtain⟨id,v,l,ds',x,rfl,hd,hid,⟨hx1,hl5⟩,hK⟩:=hA;have hds:ds'=[.clo g []]:=by
  match ds',hd with
  | [],h=>cases h
  | a::r,h=>
    rw[qoh]at h
    match r,h with
    | [],h=>
      simp at h;grind
    |b::r,h=>cases h
 subst hds
 match vs,hlen,u with
 | [v0,fv],_,u=>
 have e0:v0=v:=by
  have:=u 0 v0 _ rfl rfl;cases this;rfl
 have e1:fv= .func (.func g) #[] #[]:=by
  have:=u 1 fv _ rfl rfl;cases this<;>grind
 subst e0;subst e1;refine⟨ef,?_⟩;obtain⟨xs,⟨hxl,hx⟩,hkn,hcells⟩:=p.ok id _ hid;rcases hx with⟨rfl,h0⟩|⟨E,cap,cur,rfl,_,hgb,hcap,hcapm,hsz,S⟩
 ·have hl0:l=[]:=by grind
  subst hl0;refine(AnyF.slices_SortFunc_none L none 0 _ w).mono ?_;rintro e w' ⟨rfl,rfl⟩;have hH:ak H id (some (.row (.slice none 0 0) el k (([]:List X).map enc)))=H:=by
   grind [ak]
  refine⟨_,_,_,tp,rfl,hK [] (by simp[qhY]),λb h=>h,λb h=> .inl h,htl.1, .refl _ _ _,λb h=> .inl (by grind),by grind, .tup [] [] rfl (λk x c h=>by simp)⟩
 ·have hll:(l.map (enc (X:=X))).length=l.length:=by simp
  rw[hll]at hcap hxl S ⊢;have hval:∀(j:Nat) (y v':Value),xs[j]? =some y->(bk (l.map enc))[j]? =some (.v v')->y=v':=λj y v' h1 h2=>((hcells j y _ h1 h2).2).inv_v
  have hfl:bk (l.map enc)=(l.flatMap ev).map D.v:=by
   unfold bk;rw[List.flatMap_map,List.map_flatMap];congr 1;funext z;rw[hev z];rfl
  have hfml:=Tm (f:=ev) (n:=k) (l:=l) (λx _=>hk x);have hxs:xs=l.flatMap ev:=by
   apply qBX;intro j;by_cases Z:j<l.length*k
   ·have e1:xs[j]? =some xs[j]:=qBe (by omega);have e2:(l.flatMap ev)[j]? =some (l.flatMap ev)[j]:=qBe (by omega);rw[e1,e2];congr 1;refine hval j _ _ e1 ?_;rw[hfl,qBw,e2];rfl
   ·rw[qBE (by omega),qBE (by omega)]
  have hcur:∀j,j<l.length*k->cur[j]? =(l.flatMap ev)[j]?:=λj Z=>by
   rw[<-hxs,<-S,qBv,if_pos Z,qBD]
  have hgs:E<w.heap.size:=(qBn.1 hgb).1;have hH:HoldsK ev k w E 0 l.toArray:=by
   intro j Z;have hj':j<l.length*k:=by simpa using Z
   refine⟨?_,GN hgb⟩;rw[NJ hgb,qBV,hcur j hj',<-Ni ev k hk l,qBD,qB4 Z,getElem!_pos _ j Z];rfl
  have J:=AnyQ.slices_SortFunc_total L k aE zE ev hk (λx v hv=>(C x v hv).1) cf hO g #[] E 0 cap l.toArray w eg (qhv hTb ev hev C hg E _ k w) hH hgs (by simp;omega) hT;simp only[qCr]at J;refine J.mono ?_;rintro e w' ⟨rfl,n,os,N⟩;generalize hl':(l.mergeSort λx y=>!(ltOf cf) y x)=Q at N;have A:Q.length=l.length:=by rw[<-hl'];simp
  have hwo:∀b,b<w.heap.size->b≠E->w'.heap[b]? =w.heap[b]?:=λb hb hne=>by
   rw[N];exact Qb (w:=Sort.ahead w n) hb hne
  have hthis:w'.heap[E]? =some (.cells (putCells _root_.id 0 (flatK ev k Q.toArray) cur) el (0,0)):=by
   rw[N];exact We (w:=Sort.ahead w n) hgb
  have hws:w.heap.size<=w'.heap.size:=by
   rw[N];simp[sortWorldK,grow,putRowK,putRow,mapBlock,Sort.ahead]
  have hos:w'.os=w.os/\w'.tape=w.tape/\w'.output=w.output/\w.drawn<=w'.drawn:=by
   rw[N];exact⟨rfl,rfl,rfl,Nat.le_add_right _ _⟩
  clear N J;have hbo:(Res.row (.slice (some ⟨E,0,none⟩) l.length cap) el k (l.map enc)).blk=some E:=rfl;have q:H id=some (.row (.slice (some ⟨E,0,none⟩) l.length cap) el k (l.map enc)):=by rw[hid,hll]
  have U:bA H E:=⟨id,_,q,hbo⟩
  have htp:∀b,tp b->b≠E:=λb hb e=>(p.out id _ E q hbo).2 (e ▸hb)
  have M:∀b,tp b->TapeStep w w' b:=λb hb=> .same (hwo b (htl.1 b hb) (htp b hb))
  have hK':=hK Q (by simp only[qhY];rw[hl']);rw[hll]at hK';generalize hH2:ak H id (some (.row (.slice (some ⟨E,0,none⟩) l.length cap) el k (Q.map enc)))=H2 at hK';have W:∀b,bA H2 b->bA H b:=λb ⟨i,r,h1,h2⟩=>by
   rw[<-hH2]at h1;simp only[ak]at h1;split at h1
   ·cases h1;cases h2;exact U
   ·exact⟨i,r,h1,h2⟩
  have hmove:∀y c,R tp (aW O tp H w) w y c->R tp (aW O tp H2 w') w' y c:=λy c hr=>hr.mono (λ_ h=>h) (λb hb=>⟨⟨qBu hb.1 hws,hb.2.1,hb.2.2.1,λh=>hb.2.2.2 (W b h)⟩,hwo b hb.1 (λe=>hb.2.2.2 (e ▸U))⟩) M
  have F:∀i r,H2 i=some r->(i=id/\r= .row (.slice (some ⟨E,0,none⟩) l.length cap) el k (Q.map enc))\/(i≠id/\H i=some r):=λi r h=>by
   rw[<-hH2]at h;simp only[ak]at h;split at h
   ·rename_i e;cases h;exact .inl ⟨e,rfl⟩
   ·rename_i e;exact .inr ⟨e,h⟩
  refine⟨_,_,H2,tp,rfl,hK',λb h=>h,λb h=> .inl h,λb hb=>qBu (htl.1 b hb) hws,⟨hos.1,hos.2.1,hos.2.2.1,hws,λb hb ho ht=>hwo b hb (λe=>ho (e ▸U)),M,λ_=>hos.2.2.2⟩,λb h=> .inl (W b h),⟨?_,?_,?_⟩, .tup [] [] rfl (λk x c h=>by simp at h)⟩
  ·intro i j r s b h1 h2 h3 h4;rcases F i r h1 with⟨rfl,rfl⟩|⟨n1,k1⟩
   ·rcases F j s h2 with⟨rfl,rfl⟩|⟨n2,k2⟩
    ·rfl
    ·exact p.dis _ j _ s b q k2 h3 h4
   ·rcases F j s h2 with⟨rfl,rfl⟩|⟨n2,k2⟩
    ·exact p.dis i _ r _ b k1 q h3 h4
    ·exact p.dis i j r s b k1 k2 h3 h4
  ·intro i r b h1 h2;rcases F i r h1 with⟨rfl,rfl⟩|⟨n1,k1⟩
   ·exact p.out _ _ b q h2
   ·exact p.out i r b k1 h2
  ·intro i r h1;rcases F i r h1 with⟨rfl,rfl⟩|⟨n1,k1⟩
   ·have Y:=Tm (f:=ev) (n:=k) (l:=Q) (λx _=>hk x);have hps:(putCells _root_.id 0 (flatK ev k Q.toArray) cur).size=cur.size:=by simp[putCells]
    refine⟨Q.flatMap ev,⟨by simp;rw[<-List.length_flatMap];exact Y, .inr ⟨E,cap,_,by simp[A],qBB _,hthis,by simp;omega,hcapm,by rw[hps,hsz],?_⟩⟩,λd hd=>?_,λj y c h1 h2=>?_⟩
    ·simp only[qBO,A];apply qBX;intro j;rw[qBv];by_cases Z:j<l.length*k
     ·have hjc:j<cur.size:=by
       have:l.length*k<=cap*k:=qBH k hcap;omega
      have hjf:j<(flatK ev k Q.toArray).size:=by simp[A];exact Z
      rw[if_pos Z,qBD,<-Ni ev k hk Q,qBD];simp only[putCells,Array.getElem?_mapIdx,qB4 hjc,qCN,qBB,qBV,hjf,and_self,if_true,Nat.sub_zero,id_eq];rw[qB4 hjf,getElem!_pos _ j hjf]
     ·rw[if_neg Z,qBE (by rw[Y,A];omega)]
    ·obtain⟨z,_,rfl⟩:=qBr.1 hd;rw[hev z];exact⟨rfl,by simp[D.cells,hk]⟩
    ·have hfl':bk (Q.map enc)=(Q.flatMap ev).map D.v:=by
      unfold bk;rw[List.flatMap_map,List.map_flatMap];congr 1;funext z;rw[hev z];rfl
     rw[hfl',qBw,h1]at h2;cases h2;obtain⟨z,_,hz⟩:=qCG.1 (qBf h1);exact⟨(C z y hz).1, .v y (C z y hz).1 (C z y hz).2⟩
   ·have hne:∀b,r.blk=some b->b≠E:=λb hb e=>n1 (p.dis i id r _ E k1 q (e ▸hb) hbo)
    exact(p.ok i r k1).conv hmove (λb hb=>hwo b ((p.ok i r k1).lt hb) (hne b hb))
end
instance:Inhabited Span:=⟨⟨0,0⟩⟩
def qzN(s:Span):List Value:=[.int .i64 s.b, .int .i64 s.e]
theorem yH(x y:Span):ltOf zS x y=decide (Qq x y):=by
 unfold ltOf;have:=qhw x y;grind
def qmm:Go.Sort.SWO (ltOf zS) where
 irrefl x:=by grind [yH,Lj]
 trans x y z h1 h2:=by grind [yH,Qp]
 ntrans x y z h1 h2:=by grind [yH,Qq]
def U2{P:Program}{f:Nat}{X Y:Type}[Cod Y]{A:fm X}{pre j:X->List Y->Prop}{post k:X->List Y->List Y->Prop}{el n:Nat}(h:Tri dq P f (qoZ A pre post el n).pt)(h1:∀x l,j x l->pre x l)(h2:∀x l r,j x l->post x l r->k x l r):
 Tri dq P f (qoZ A j k el n).pt:=λO tp w vs ds H d K a b c e g ⟨id,v,l,p,x,t,u,y,q,C⟩=>h O tp w vs ds H d K a b c e g ⟨id,v,l,p,x,t,u,y,h1 x l q,λs hp=>C s (h2 x l s q hp)⟩
open Go.Proofs Cod
def qhC{p:Cond}(h:bb p<=0):False:=by rw[zC]at h;omega
def Jt:TQ dq gU xf:=
 ac (ag ae) Gd (Rj)
def YU:TQ dq pW FU:=
 ac (ag (aa Jt ae)) JN (UG rfl)
def rE:TQ dq aJ mX:=
 ac (ag (aa Jt (aa YU ae))) xr (HN rfl rfl)
def Mv:∀n,TQ dq tT (qaJ n)
 | 0=>bF λx h=>qhC h
 |n+1=>aZ (ag (aa (Mv n) ae)) Wp (λ_=>qBg rfl) (YB n rfl)
def YS:TQ dq tT qaK:=
 cK (λn=>Mv n) (dC (λx _=>⟨bb x.1,qBj _⟩))
def UY:TQ dq Bk JD:=
 ac (ag (aa YS ae)) Sl (Uq rfl)
def F2:∀n,TQ dq kJ (Vv n)
 | 0=>bF λx h=>qcQ h.1
 |n+1=>aZ (ag (aa UY (aa (F2 n) ae))) OV (λ_=>qBg rfl) (Q8 n rfl rfl)
def Fw:TQ dq kJ Ie:=
 cK (λn=>F2 n) (dC (λx h=>⟨dJ x.1,qBj _,h⟩))
def JJ:∀n,TQ dq mN (qaQ n)
 | 0=>bF λx h=>qcQ h
 |n+1=>aZ (ag (aa rE (aa (JJ n) ae))) Sm (λ_=>qBg rfl) (Ur n rfl rfl)
def Js:TQ dq mN Ma:=
 cK (λn=>JJ n) (dC (λx _=>⟨dJ x,qBj _⟩))
def C1:∀n,TQ dq iR (PW n)
 | 0=>bF λx h=>qcQ h
 |n+1=>aZ (ag (aa (C1 n) ae)) MC (λ_=>qBg rfl) (Oq n rfl)
def CU:TQ dq iR DQ:=
 cK (λn=>C1 n) (dC (λx _=>⟨dJ x,qBj _⟩))
def Kq:TQ dq rU fC:=
 ac (ag (aa Fw (aa Js (aa CU ae)))) Iq (J7 rfl rfl rfl)
def Mt:∀n,TQ dq tQ (RR n)
 | 0=>bF λx h=>qcQ h.1
 |n+1=>aZ (ag (aa (Mt n) ae)) Wm (λ_=>qBg rfl) (Yy n rfl)
def YQ:TQ dq tQ FN:=
 cK (λn=>Mt n) (dC (λx h=>⟨dJ x,qBj _,h⟩))
def F3:∀n,TQ dq fO (WI n)
 | 0=>qT λd ds H K ⟨id,v,l,a,x,h1,h2,h3,h4,h5⟩=>qcQ h4.1
 |n+1=>xV (ag (aa (F3 n) ae)) C8 (by decide) (Q9 n rfl)
def AC:Tri dq Tryz.prog fO i_leavesA.pt:=cK (λn=>F3 n) λd ds H K ⟨id,v,l,a,x,h1,h2,h3,h4,h5⟩=>⟨dJ x,id,v,l,a,x,h1,h2,h3,⟨qBj _,h4⟩,h5⟩
def Fx:Tri dq Tryz.prog fO s_leaves.pt:=LP (BY (ag (aa AC ae)) C8 (λ_=>qBg rfl) (Ot rfl)) AC
def xU:TQ dq nR sM:=
 ac (ag (aa Kq (aa Fx ae))) OW (Ra rfl rfl)
def RC:TQ dq sT FQ:=
 ac (ag (aa vy (aa Fy ae))) Pc (Ro rfl rfl)
def YP:TQ dq Es L9:=
 ac (ag ae) Wl (Yx)
def wX:TQ dq gJ kE:=
 ac (ag ae) Gk (HT)
def AB:TQ dq jR C0:=
 DK (ag ae) zY (λ_=>qBg rfl) (At)
def wU:TQ dq eA xg:=
 DK (ag ae) vT (λ_=>qBg rfl) (wQ)
def DH:TQ dq eZ DR:=
 ac (ag (aa Hq (aa TL ae))) ok_estimate_compare (Dz rfl rfl)
theorem vx:Tri dq Tryz.prog gc s_SortFunc_Source.pt:=by
 have h:=RE (dq:=dq) (hTb:=rfl) (cf:=zS) (el:=cF) Tryz.sortSource rfl qzN 2 (λ_=>rfl) (λ_=>rfl) (λx v p=>by simp[qzN]at p;rcases p with rfl|rfl<;>exact⟨rfl,λs h=>by cases h⟩) Tryz.isAgg84 Tryz.sizeOf84
  qmm (λx y h1 h2=>by rw[yH]at h1 h2;simp at h1 h2;rcases SR x y with h|h|h<;>first|exact h|exact absurd h h1|exact absurd h h2) DH ok_estimate_compare.enter (kP Tryz.func100 (by kernel_rfl) rfl)
 refine U2 h (λx l hp=>hp) (λx l r hp d=>?_);have d:r=l.mergeSort λx y=>!(ltOf zS) y x:=d
 subst d;refine⟨by simp,λx=>by simp[List.mem_mergeSort],?_⟩;have:=List.pairwise_mergeSort (le:=λx y=>!(ltOf zS) y x) (λa b c h1 h2=>by simp only[yH]at*;simp at*;unfold Qq at*;omega) (λa b=>by simp only[yH];simp;unfold Qq;omega) l;refine qCQ.2 λi j hi q k=>?_
 have h:=qCQ.1 this i j hi q k;generalize (l.mergeSort λx y=>!(ltOf zS) y x)[i]=a at h ⊢;generalize (l.mergeSort λx y=>!(ltOf zS) y x)[j]=b at h ⊢;rw[yH]at h;simpa using h
def Fv:Tri dq Tryz.prog vg s_Sort_int.pt:=U0 Tryz.sortInt rfl (kP Tryz.func108 (by kernel_rfl) rfl)
def H5:TQ dq kM pq:=
 ac (ag (aa CW (aa wX (aa Fv (aa AB ae))))) Gj (HS rfl rfl rfl rfl)
def xn:∀n,TQ dq bw (Ld n)
 | 0=>qT λd ds H K ⟨id,b,x,z,a,h1,h2,h3,h4,h5,hp,c⟩=>qcQ hp.1.1
 |n+1=>DL (by decide) (S:=H7 [(lQ,Lg),(gJ,kE),(kM,pq),(bw,Ld n)]) (ag (aa CW (aa wX (aa H5 (aa (xn n) ae))))) vV (λ_=>qBg rfl) (HR n rfl rfl rfl rfl)
def wY:Tri dq Tryz.prog bw s_visitA.pt:=cK (λn=>xn n) λd ds H K ⟨id,b,x,z,a,h1,h2,h3,h4,h5,⟨n,hp⟩,c⟩=>⟨n,id,b,x,z,a,h1,h2,h3,h4,h5,hp,c⟩
def H6:TQ dq qa xe:=
 ac (ag (aa RC (aa wY (aa vx (aa wU ae))))) Gl (HU rfl rfl rfl rfl)
end
section
open Go.Proofs
open Cod (enc dec)
variable {dq:Prop}
section
variable {X Y Z:Type}
variable {P:Program}{S:Nat->Spc}{f:Nat}{im:List Nat}{cc:CC}{rs:List ai}{N:Nat}
end
end
section
open Go.Proofs
open Cod (enc dec)
variable {S S0:Nat->Spc}
end
section
open Go.Proofs
def Ic{x:Cond}(h:mR x=false):x.op≠4/\∀k∈x.kids,mR k=false:=by
 grind [Lc]
mutual
theorem Bd:∀x:Cond,mR x=false->dh x=x
 | .mk op n a v l f ks,h=>by
   have h2:=Ic h;have h4:¬op=4:=h2.1;rw[dh,if_neg (by grind),Qr ks h2.2]
theorem Qr:∀ks:List Cond,(∀k∈ks,mR k=false)->C9 ks=ks
 | [],_=>rfl
 |k::ks,h=>by rw[C9,Bd k (h k (by simp)),Qr ks λk hk=>h k (by grind)]
end
mutual
def SM:∀x:Cond,cM (dh x)<=cM x/\bb (dh x)<=bb x
 | .mk op n a v l f ks=>by
   rw[dh];have:=Wv ks;grind [cM,fK,bb,iQ]
def Wv:∀ks:List Cond,fK (C9 ks)<=fK ks/\iQ (C9 ks)<=iQ ks
 | []=>by simp[C9]
 | k::ks=>by
   have:=SM k;have:=Wv ks;grind [C9,fK,iQ]
end
inductive GL:Nat->Cond->Prop
 |atom (n:Nat) (c:Cond) (h:GA [] c):GL n c
 |any (n:Nat):GL n ⟨1,E0,E0,E0,E0,false, []⟩
 |top (n:Nat) (v:B) (f:Bool) (h:v∈ValsT):GL n ⟨2,E0,E0,v,E0,f, []⟩
 |not (n:Nat) (k:Cond) (h:GL n k):GL (n+1) ⟨6,E0,E0,E0,E0,false, [k]⟩
 |two (n:Nat) (op:Int) (a b:Cond) (ho:op=7\/op=8) (h1:GL n a) (h2:GL n b):GL (n+1) ⟨op,E0,E0,E0,E0,false, [a,b]⟩
theorem qgD{lb:List B}{c:Cond}(h:GA lb c)(hs:mR c=false):GA [] c:=by
 cases h with
 |val n v f h1 h2=>grind [GA]
 |feat v h=>exact .feat v h
 |same n l a h1 h2 h3=>exact absurd rfl (Ic hs).1
 |reg n h=>exact .reg n h
 |regk n v h1 h2=>grind [GA]
def Ll{lb:List B} :∀{n:Nat} {x:Cond},GI lb n x->mR x=false->GL n x
 | _,_, .atom n c h,hs=> .atom n c (qgD h hs)
 | _,_, .not n k h,hs=> .not n k (Ll h ((Ic hs).2 k (by simp)))
 | _,_, .two n op a b ho h1 h2,hs=> .two n op a b ho (Ll h1 ((Ic hs).2 a (by simp))) (Ll h2 ((Ic hs).2 b (by simp)))
def qbl{x:Cond}(h:x.op=4\/x.op=6/\mR x=true):dh x=⟨1,E0,E0,E0,E0,false, []⟩:=by rw[B9,if_pos h];rfl
def qjT{op:Int}{a b:Cond}(ho:op=7\/op=8):dh ⟨op,E0,E0,E0,E0,false, [a,b]⟩=⟨op,E0,E0,E0,E0,false, [dh a,dh b]⟩:=by
 rw[B9,if_neg (by
  grind)]
 rfl
def qgz{lb:List B} :∀{n:Nat} {x:Cond},GI lb n x->GL n (dh x)
 | _,_, .atom n c h=>by
   cases hs:mR c with
   |false=>grind [GL,Bd,qgD]
   | true=>
     have h4:c.op=4:=by
      grind [Lc,vd]
     rw[qbl (.inl h4)];exact .any n
 | _,_, .not n k h=>by
   cases hs:mR ⟨6,E0,E0,E0,E0,false, [k]⟩with
   |false=>rw[Bd _ hs];exact .not n k (Ll h ((Ic hs).2 k (by simp)))
   |true=>rw[qbl (.inr ⟨rfl,hs⟩)];exact .any _
 | _,_, .two n op a b ho h1 h2=>by
   rw[qjT ho];exact .two n op _ _ ho (qgz h1) (qgz h2)
def qlJ{lb:List B}{n:Nat}{x:Cond}(h:GC lb n x):GL n (dh x):=by
 cases h with
 |any=>rw[Bd _ rfl];exact .any n
 |top v f h=>rw[Bd _ rfl];grind [GL]
 |inner c h=>exact qgz h
def WL{E:Py}(j:Yu E)(d:E.lb=[]):∀{n m:Nat} {x:Cond},GL n x->n<m->∃y,qD E m x=some y
 | _,m+1,_, .atom n c h,_=>qlI j (d ▸h)
 | _,m+1,_, .any n,_=>qgo j (n:=0) .any (by omega)
 | _,m+1,_, .top n v f h,_=>qgo j (n:=0) (.top v f h) (by omega)
 | _,m+1,_, .not n k h,hm=>by
   obtain⟨y,l⟩:=WL (m:=m) j d h (by omega);simp_all [qgn]
 | _,m+1,_, .two n op a b ho h1 h2,hm=>by
   obtain⟨p,hp⟩:=WL (m:=m) j d h1 (by omega);obtain⟨q,r⟩:=WL (m:=m) j d h2 (by omega);rcases ho with rfl|rfl;simp_all [qgp];simp_all [qlH]
def Gs:∀{n m:Nat} {x:Cond},GL n x->n<m->rc att3 [] m x=true
 | _,m+1,_, .atom n c h,_=>Eg (SI h) (vd h)
 | _,m+1,_, .any n,_=>MY (n:=0) .any (by omega)
 | _,m+1,_, .top n v f h,_=>MY (n:=0) (.top v f h) (by omega)
 | _,m+1,_, .not n k h,hm=>Qi (Gs h (by omega))
 | _,m+1,_, .two n op a b ho h1 h2,hm=>Qh ho (Gs h1 (by omega)) (Gs h2 (by omega))
open Cod (enc dec)
variable {S S0:Nat->Spc}
def qeP{c:Corpus}(hc:OkCorp c){lb:List B}{n:Nat}{x:Cond}(d:GC lb n x)(hn:n<=3):JZ (c,x):=by
 have a:=qlJ d;have h:=ZM d;have j:=SM x;have h3:2^ (n+1)<=2^4:=Nat.pow_le_pow_right (by decide) (by omega);have b:∀i:Nat,i<c.toks.length->Yu ⟨c,(i:Int), [], []⟩:=λi hi=>⟨hc,by show(0:Int)<=(i:Int);omega,by show(i:Int)<c.toks.length;omega,rfl⟩
 exact⟨hc.sz,by show cM x<=60;omega,by show bb x<=60;omega,by
  show qjC c.attrs [] (dh x)=true;rw[show c.attrs=att3 from hc.1];exact qfN (by omega) (by omega) (Gs a (by omega)),λi hi=>WL (b i hi) rfl a (by omega)⟩
def NU{n:Nat}{c:Corpus}{q:Qry}(hc:qca c)(b:GQ n q)(hn:n<=5):qcc Pw c q/\uP q.pat<=1000:=by
 have a:=qf5 hc b hn;obtain⟨lb,hl,h⟩:=b.lab;have h1:=ql6 n q.pat h;have h2:2^n<=32:=by
  rcases n with _|_|_|_|_|_|n
  all_goals first|decide|omega
 refine⟨⟨a.v,a.v.pat,a.v.size,⟨a.v.num,by omega⟩,⟨?_,λx d=>(a.v.lv x d).2⟩,by have:=hc.few;omega,λx d=>qeP hc.ok (b.cond x d) (by decide)⟩,by omega⟩;have:=jP q.pat;have:=a.v.num;simp;omega
end
section
open Go.Proofs
open Cod (enc dec)
def OP(c:UInt8):Pat:=⟨1,⟨2,E0,E0,⟨#[c]⟩,E0,false, []⟩,E0,E0,0,0, []⟩
abbrev VD(s:B)(q:Qry):Spc:=aA (a1 B) (λx=>x=s) (qlN (Y:=Qry) (Z:=Int) (W:=Int)) λ_ y=>y=(q,0,0)
variable {dq:Prop}
end
section
open Go.Proofs
open Cod (enc dec)
variable {S S0:Nat->Spc}
def V12(a:List Attr)(q:Qry):Prop:=Pw a q\/qA3 a q
def qbe{f:Pat->Bool}(p:Pat)(h:CT (λq=>f q=true) p):bX f p=true:=by
 induction p using fh with|_ p a=>?_
 rw[cH,Il h,qCu,qBi];exactλk hk=>a k hk (Mx h hk)

end
section
open Go.Proofs
open Cod (enc dec)
variable {S S0:Nat->Spc}
end
end Go.Gv
namespace Go.Proofs
open Go.Shelf
end Go.Proofs
namespace Go.Gv
section
open Go.Proofs
def EY:X.Fn:=gx Tryz.f39 _
def Uh:X.Fn:=gx Tryz.f87 _
def EX:X.Fn:=gx Tryz.f88 _
def EV:X.Fn:=gx Tryz.f89 _
def EU:X.Fn:=gx Tryz.f90 _
def Dh:X.Fn:=gx Tryz.f91 _
def Cp:X.Fn:=gx Tryz.f93 _
def Di:X.Fn:=gx Tryz.f94 _
def Hz:X.Fn:=gx Tryz.f95 _
def ES:X.Fn:=gx Tryz.f97 _
def EQ:X.Fn:=gx Tryz.f161 _
def Dn:X.Fn:=gx Tryz.f162 _
def Cq:X.Fn:=gx Tryz.f163 _
def ER:X.Fn:=gx Tryz.f219 _
def Am:X.Fn:=gx Tryz.f220 _
def Dm:X.Fn:=gx Tryz.f221 _
def Dl:X.Fn:=gx Tryz.f278 _
def Al:X.Fn:=gx Tryz.f279 _
def Dk:X.Fn:=gx Tryz.f280 _
def Dj:X.Fn:=gx Tryz.f281 _
def Dp:X.Fn:=gx Tryz.f283 _
def Do:X.Fn:=gx Tryz.f284 _
def Hy:X.Fn:=gx Tryz.f310 _
def Ak:X.Fn:=gx Tryz.f311 _
def EW:X.Fn:=gx Tryz.f329 _
def ET:X.Fn:=gx Tryz.f348 _
def Lp:X.Fn:=gx Tryz.f92 _
def EP:X.Fn:=gx Tryz.f96 _
def HA:X.Fn:=gx Tryz.f282 _
def J0:X.Fn:=gx Tryz.f158 _
def Lo:X.Fn:=gx Tryz.f159 _
def QW:X.Fn:=gx Tryz.f160 _
open Go.Proofs X
variable {dq:Prop}
def qx1:List (Nat×X.Fn):=[(vh,EY),(ZS,Uh),(IY,EX),(IW,EV),(IV,EU),(GR,Dh),(Et,Cp),(GS,Di),(KV,Hz),(IT,ES),(IR,EQ),(GX,Dn),(Eu,Cq),(IS,ER),(CJ,Am),(GW,Dm),(GV,Dl),(CH,Al),(GU,Dk),(GT,Dj),(GZ,Dp),(GY,Do),(KU,Hy),(CG,Ak),(IX,EW),(IU,ET),(Pj,Lp),(IQ,EP),(KW,HA),(Nm,J0),(Pi,Lo),(Xe,QW)]
def qnM:∀p∈qx1,qio p:=by
 unfold qx1
 repeat' first|exact ql4|refine qd8 qvI ?_
noncomputable def qAS(s:B):Option (D×XH):=Kv (ΔL qx1) qlv 10000 vh [.v (.string s)] ⟨.e, [], [],0⟩
open Cod (enc dec)
noncomputable def qxg(s:B)(q:Qry):Bool:=match qAS s with
 |some (r,h)=>fz 60 h.he r (qlN (Y:=Qry) (Z:=Int) (W:=Int) (q,0,0))
 |none=>false
def qeD{s:B}{q:Qry}(h:qxg s q=true):TQ dq vh (VD s q):=by
 refine U3 (qd7 qnM (fn:=EY) rfl 10000) ?_;rintro x rfl;refine⟨rfl,?_⟩;unfold qxg at h;split at h
 ·rename_i r hh he;exact⟨r,hh,(q,0,0),he,h,rfl⟩
 ·cases h
open Go.Proofs Cod
def Fz:TQ dq oh VO:=
 ac (ag (aa sL ae)) D9 (Fi rfl)
def vr:∀n,TQ dq cm (FY n)
 | 0=>bF λx h=>qhC h
 | n+1=>
   have h1:TQ dq ez (Zi Cond (H7 [(cm,FY n)])):=ac (ag (aa (vr n) ae)) lL (PB);have h2:TQ dq bV (qcI Cond (H7 [(cm,FY n)])):=ac (ag (aa h1 ae)) js (PE rfl)
   ac (ag (aa h2 ae)) Gp (HW (S0:=(H7 [(cm,FY n)])) n rfl rfl)
def Jm:TQ dq cm Mf:=cK (λn=>vr n) (dC (λx h=>h))
def uH:∀n,TQ dq fR (Mh n)
 | 0=>bF λx h=>qhC h.1
 |n+1=>aZ (ag (aa Jm (aa (uH n) ae))) D8 (λ_=>qBg rfl) (Fh n rfl rfl)
def Hm:TQ dq fR qaW:=cK (λn=>uH n) (dC (λx h=>h))
def DI:TQ dq mu qls:=
 ac (ag (aa Fz (aa Hm (aa rA (aa (uI 21) ae))))) CD (qek rfl rfl rfl rfl)
def LM:TQ dq tX AL:=
 ac (ag (aa vy (aa AD ae))) KG (Kh rfl rfl)
def wZ:TQ dq kN Me:=
 ac (ag (aa DI ae)) Gm (HV rfl)
def YT:TQ dq Ew qfg:=
 ac (ag ae) Wq (YC)
end
section
open Go.Proofs
open Cod (enc dec)
variable {S S0:Nat->Spc}
def DV{x:Cond}(o:Int)(e:x.op=o)(h:o≠2/\o≠3/\o≠4/\o≠5):qtp x:=⟨λq=>(h.1 (e.symm.trans q)).elim,λq=>(h.2.1 (e.symm.trans q)).elim,λq=>(h.2.2.1 (e.symm.trans q)).elim,λq=>(h.2.2.2 (e.symm.trans q)).elim⟩
def qmJ{lb:List B}{x:Cond}(h:GA lb x):qtp x:=by
 cases h with
 |val nm v f h1 h2=>exact⟨λ_=>⟨h2, .inr h1⟩,λh=>(by cases h),λh=>(by cases h),λh=>(by cases h)⟩
 |feat v h=>exact⟨λh=>(by cases h),λ_=>⟨h,rfl⟩,λh=>(by cases h),λh=>(by cases h)⟩
 |same nm l a h1 h2 h3=>exact⟨λh=>(by cases h),λh=>(by cases h),λ_=>⟨h1,h3⟩,λh=>(by cases h)⟩
 |reg nm h=>exact⟨λh=>(by cases h),λh=>(by cases h),λh=>(by cases h),λ_=>⟨.tail _ h, .inl rfl, .head _⟩⟩
 |regk nm v h1 h2=>exact⟨λh=>(by cases h),λh=>(by cases h),λh=>(by cases h),λ_=>⟨.tail _ h1, .inr (.head _), .tail _ h2⟩⟩
def MW{lb:List B} :∀{n m:Nat} {x:Cond},GI lb n x->n<m->qlz att3 lb m x
 | _,m+1,_, .atom n c h,_=>⟨SI h,qmJ h,λk hk=>by rw[vd h]at hk;cases hk⟩
 | _,m+1,_, .not n k h,hm=>⟨rfl,DV 6 rfl (by decide),λz hz=>by
    rcases qCo.1 hz with rfl;exact MW h (by omega)⟩
 | _,m+1,_, .two n op a b ho h1 h2,hm=>⟨by rcases ho with rfl|rfl<;>rfl,by rcases ho with e|e;exact DV 7 e (by decide);exact DV 8 e (by decide),λz hz=>by
    have hz:z∈ [a,b]:=hz;simp only[qBt,qBF,or_false]at hz;rcases hz with rfl|rfl
    ·exact MW h1 (by omega)
    ·exact MW h2 (by omega)⟩
def qiX:∀v∈ValsT,v∈ValsI:=by decide
def Zt{lb:List B}{n m:Nat}{x:Cond}(h:GC lb n x)(hm:n<m):qlz att3 lb m x:=by
 obtain⟨m,rfl⟩:∃k,m=k+1:=⟨m -1,by omega⟩
 cases h with
 |any=>exact⟨rfl,DV 1 rfl (by decide),λk hk=>by cases hk⟩
 | top v f h=>
   have h0:=qBi.1 qex v h;simp only[qBh]at h0;refine⟨?_,⟨λ_=>⟨qiX v h, .inl rfl⟩,λh=>(by cases h),λh=>(by cases h),λh=>(by cases h)⟩,λk hk=>by cases hk⟩;rw[MX];cases f
   ·exact h0.1
   ·exact h0.2
 |inner c h=>exact MW h hm
end
section
open Go.Proofs
def qf:CC:=gq Tryz.f142 [2] {} _
def pu:List ai:=[.tmp 4, .tmp 5]
def Ip:FO iJ [2] qf pu 42:=fo
def dO:CC:=gq Tryz.f143 [2] {} _
def dH:List ai:=[.tmp 4]
def Io:FO iI [2] dO dH 146:=fo
def un:CC:=gq Tryz.f82 [1] {} _
def tr:List ai:=[.tmp 2]
def MD:FO wb [1] un tr 20:=fo
def BF:CC:=gq Tryz.f83 [3] { cu:=[1,5] } _
def AO:List ai:=[.tmp 6]
def Wn:FO tR [3] BF AO 142:=fo
def Jc:CC:=gq Tryz.f144 [] {} _
def Ig:List ai:=[.tmp 4]
def qcW:FO Nn [] Jc Ig 17:=fo
def wo:CC:=gq Tryz.f80 [1] {} _
def vD:List ai:=[.tmp 2]
def OX:FO yL [1] wo vD 42:=fo
def se:CC:=gq Tryz.f34 [2] { bx:=[59] } _
def rG:List ai:=[.tmp 4]
def Kz:FO tS [2] se rG 99:=fo
def yZ:CC:=gq Tryz.f35 [2,3] {} _
def yb:List ai:=[.tmp 4, .tmp 5]
def Sk:FO Bj [2,3] yZ yb 17:=fo
def wl:CC:=gq Tryz.f10 [2,3] {} _
def vA:List ai:=[.tmp 4, .tmp 5]
def OU:FO yK [2,3] wl vA 40:=fo
def gQ:CC:=gq Tryz.f3 [] {} _
def gC:List ai:=[.tmp 4]
def xu:FO nZ [] gQ gC 76:=fo
open Cod (enc dec)
variable {S S0:Nat->Spc}
def qsn(n:Nat)(x:Glob×Int):Prop:=fl x.1<=n/\0<=x.2/\x.2+fl x.1<=61/\vX x.1<=60
abbrev JH(n:Nat):Spc:=aA (a2 Glob Int) (qsn n) (lH (Y:=Int) (Z:=Int)) λx y=>y=((vX x.1:Int),(fl x.1:Int))
theorem J6(n:Nat)(h1:S iJ=JH n):aq qf pu S (a2 Glob Int) (qsn (n+1)) (lH (Y:=Int) (Z:=Int)) λx y=>y=((vX x.1:Int),(fl x.1:Int)):=by
 rintro⟨x,deep⟩ ⟨hn,h0,h2,h3⟩;simp only at hn h0 h2 h3;have l:=Cf x;have p:=SN x;have a:¬60<deep:=by omega
 simp[qf,pu,a];intro q;refine ah (X:=Int×Int) [1,15] [] x.kids.length (λk z=>z.1=1+ (kT (x.kids.take k):Int)/\z.2=(kV (x.kids.take k):Int)) (λz=>[(6,enc z.1),(7,enc z.2)]) (λ_=>[]) (1,0) (by simp[kT,kV]) ?_ ?_
 ·rintro k ⟨m,d⟩ hk ⟨b,c⟩;simp only at b c;obtain⟨y,h⟩:=aY hk;obtain⟨_,j⟩:=qBc.1 h;have hm:=Qk h;have r:=Ce (aP h);have hp:qsn n (y,deep+1):=⟨by show fl y<=n;omega,by show 0<=deep+1;omega,by show deep+1+fl y<=61;omega,by show vX y<=60;omega⟩
  simp[h1,hk,h,j,hp];exact⟨by simp only[InR];omega,by simp only[InR];omega,λ_=>by omega,λ_=>by omega⟩
 ·rintro⟨m,d⟩ ⟨b,c⟩;simp only at b c;rw[qBm]at b c;simp;exact⟨by simp only[InR];omega,by omega,by omega⟩
abbrev FW:Spc:=aA (a2 Glob Int) (λx=>∃n,qsn n x) (lH (Y:=Int) (Z:=Int)) λx y=>y=((vX x.1:Int),(fl x.1:Int))
def qsm(n:Nat)(x:Glob×Bool):Prop:=fl x.1<=n/\((x.2=true/\x.1=GlobE)\/ ∃lb m,GG lb m x.1)
abbrev JG(n:Nat):Spc:=aA (a2 Glob Bool) (qsm n) (enc (X:=Bool)) λx y=>y=true
set_option maxHeartbeats 2000000 in
theorem J5(n:Nat)(h1:S iI=JG n):aq dO dH S (a2 Glob Bool) (qsm (n+1)) (enc (X:=Bool)) λx y=>y=true:=by
 rintro⟨g,b⟩ ⟨hn,hg⟩;simp only at hn hg;have p5:∀k∈g.kids,qsm n (k,false):=λk hk=>by
  have:=GM hk;rcases hg with⟨_,rfl⟩|⟨lb,m,h⟩
  ·cases hk
  ·obtain⟨m',_,h2⟩:=Ti h hk;exact⟨by show fl k<=n;omega, .inr ⟨lb,m',h2⟩⟩
 rcases hg with⟨rfl,rfl⟩|⟨lb,m,h⟩
 rotate_left
 ·cases h with
  | not n k h=>
    simp[dO,dH,E0,GlobE,-fB',-eB'];refine ah (X:=Unit) [136] [] 1 (λk _=>True) (λ_=>[]) (λ_=>[]) () (by simp) ?_ ?_ (hlen:=by simp)
    ·rintro j -hj -;obtain rfl:j=0:=by omega
     have hp:=p5 k (by simp);simp[h1,hp,-fB',-eB']
    ·rintro - -;simp
  | two n op a b' ho hh1 hh2=>
    rcases ho with rfl|rfl
    all_goals
     simp[dO,dH,E0,GlobE,-fB',-eB'];refine ah (X:=Unit) [136] [] 2 (λk _=>True) (λ_=>[]) (λ_=>[]) () (by simp) ?_ ?_ (hlen:=by simp)
     ·rintro j -hj -;have hp1:=p5 a (by simp);have hp2:=p5 b' (by simp);obtain rfl|rfl:j=0\/j=1:=by omega
      all_goals simp[h1,hp1,hp2,-fB',-eB']
     ·rintro - -;simp
  | head n op a b ho h1 h2=>
    rcases ho with rfl|rfl
    all_goals
     simp[dO,dH,E0,GlobE,-fB',-eB'];refine ah (X:=Unit) [136] [] 0 (λk _=>True) (λ_=>[]) (λ_=>[]) () (by simp) (λk x hk=>absurd hk (by omega)) (λ_ _=>?_) (hlen:=by simp);simp
  | _=>
    simp[dO,dH,E0,GlobE,-fB',-eB'];refine ah (X:=Unit) [136] [] 0 (λk _=>True) (λ_=>[]) (λ_=>[]) () (by simp) (λk x hk=>absurd hk (by omega)) (λ_ _=>?_) (hlen:=by simp);simp
 simp[dO,dH,E0,GlobE,-fB',-eB'];refine ah (X:=Unit) [136] [] 0 (λk _=>True) (λ_=>[]) (λ_=>[]) () (by simp) (λk x hk=>absurd hk (by omega)) (λ_ _=>?_) (hlen:=by simp);simp
abbrev FV:Spc:=aA (a2 Glob Bool) (λx=>∃n,qsm n x) (enc (X:=Bool)) λx y=>y=true
def qy1(g:Glob):Prop:=g=GlobE\/ ∃lb m,m<=2/\GG lb m g
abbrev P1:Spc:=aA (a1 Glob) qy1 (enc (X:=Bool)) λx y=>y=true
def Ou(h1:S iJ=FW)(h2:S iI=FV):aq un tr S (a1 Glob) qy1 (enc (X:=Bool)) λx y=>y=true:=by
 rintro g a;have b:vX g<=7/\fl g<=3:=by
  rcases a with rfl|⟨lb,m,hm,h⟩
  ·decide
  ·have:=qgA h;have c:2^ (m+1)<=2^3:=Nat.pow_le_pow_right (by omega) (by omega);omega
 have d:∃n,qsn n (g,0):=⟨fl g,qBj _,qCi _,by show(0:Int) +fl g<=61;omega,by show vX g<=60;omega⟩
 have j:∃n,qsm n (g,true):=⟨fl g,qBj _,a.elim (λe=> .inl ⟨rfl,e⟩) λ⟨lb,m,_,h⟩=> .inr ⟨lb,m,h⟩⟩
 simp[un,tr,h1,h2,d,j,-fB',-eB'];exact⟨λ_=>by omega,by omega⟩
def qee:aq Jc Ig S (a2 (List B) B) (λ_=>True) (enc (X:=Bool)) λx y=>y=nL x.1 x.2:=by
 rintro⟨l,s⟩ -;simp[Jc,Ig,-fB',-eB'];intro _;refine ah (X:=Unit) [1,7] [] l.length (λk _=>∀x∈l.take k,¬x=s) (λ_=>[]) (λ_=>[]) () (by simp) ?_ ?_
 ·intro k _ hk c;obtain⟨x,a⟩:=bD hk;obtain⟨_,b⟩:=qBc.1 a;simp[hk,a,b,-fB',-eB'];refine⟨λh=>?_,λh=>?_⟩
  ·simp[nL];exact h ▸qBf a
  ·rw[au a];grind
 ·intro _ c;simp[nL,-fB',-eB'];grind
def qh7(n:Nat)(x:Glob×List Attr×List B):Prop:=fl x.1<=n/\wH x
abbrev qaL(n:Nat):Spc:=aA (a3 Glob (List Attr) (List B)) (qh7 n) (enc (X:=Int)) λ_ y=>y=0
def qj2{x:B}(h:x∈Types\/x∈Yr\/(x∈TW/\x≠ ⟨#[]⟩)):aB x=true:=Be h
set_option maxHeartbeats 4000000 in
theorem Yz(n:Nat)(h1:S Nn=s_rIn)(h2:S fE=s_rAttr)(h3:S mO=s_rParse0)(h4:S aJ=mX)(h5:S tR=qaL n):
 aq BF AO S (a3 Glob (List Attr) (List B)) (qh7 (n+1)) (enc (X:=Int)) λ_ y=>y=0:=by
 rintro⟨g,a,lb⟩ ⟨hn,ha,hg⟩;simp only at hn ha hg;subst ha;have hk:∀k∈g.kids,qh7 n (k,att3,lb):=λk hk=>by
  have:=GM hk;rcases hg with rfl|⟨m,h⟩
  ·cases hk
  ·obtain⟨m',_,h2⟩:=Ti h hk;exact⟨by show fl k<=n;omega,rfl, .inr ⟨m',h2⟩⟩
 have hw:¬dA att3 th= -1:=by decide
 have hkl:g.kids.length<=2:=by
  rcases hg with rfl|⟨m,h⟩
  ·decide
  ·cases h<;>simp
 simp[BF,AO,-fB',-eB'];refine ba (X:=Unit) [1,2,3] [] (λ_=>True) (λ_=>[]) (λ_=>[]) ?_ ?_
 ·rcases hg with rfl|⟨m,h⟩
  ·simp[GlobE,E0,-fB',-eB']
  cases h with
  |bound n a k1=>simp[h1,di k1,-fB',-eB']
  |val n a v f k1 k2=>simp[h1,di k1,-fB',-eB']
  |depth n a mn mx k1 k3 k4 k5 k6=>simp[h1,di k1,-fB',-eB']
  |same n a b g k1 k2 k3|dist n a b mn mx k1 k2|reg n a b t k1 k2 k3|node n a b t k1 k2 k3|path n a b l k1 k2 k3 k4=>simp[h1,di k1,di k2,-fB',-eB']
  |head n op a b ho k1 k2=>rcases ho with rfl|rfl<;>simp[h1,di k1,di k2,-fB',-eB']
  |not n k h=>simp[-fB',-eB']
  |two n op a b ho k1 k2=>rcases ho with rfl|rfl<;>simp[-fB',-eB']
 rintro - -;simp[-fB',-eB'];refine ba (X:=Unit) [1,2,3] [] (λ_=>True) (λ_=>[]) (λ_=>[]) ?_ ?_
 ·rcases hg with rfl|⟨m,h⟩
  ·simp[GlobE,E0,-fB',-eB']
  cases h with
  |bound n a k1=>simp[-fB',-eB']
  | val n a v f k1 k2=>
    have hv:v∈ValsI\/v∈Ob:= .inr k2;simp[h2,h3,hw,hv,-fB',-eB']
  | same n a b g k1 k2 k3=>
    have hg2:¬dA att3 g= -1:=by have:=Yd k3;omega
    simp[h2,hw,hg2,-fB',-eB']
  | dist n a b mn mx k1 k2 k3 k4 k5 k6=>
    have e1:¬mx<mn:=by omega
    simp[e1,-fB',-eB']
  |reg n a b t k1 k2 k3=>simp[h4,qj2 (.inl k3),-fB',-eB']
  |node n a b t k1 k2 k3=>simp[h4,qj2 (.inr (.inl k3)),-fB',-eB']
  | path n a b l k1 k2 k3 k4=>
    simp[-fB',-eB'];intro _;refine ah (X:=Unit) [1,2,3,95] [] l.length (λ_ _=>True) (λ_=>[]) (λ_=>[]) () trivial ?_ ?_
    ·rintro k -hk -;obtain⟨x,hx⟩:=bD hk;obtain⟨_,hgx⟩:=qBc.1 hx;have hv:¬x=⟨#[]⟩->aB x=true:=λh=>qj2 (.inr (.inr ⟨k4 x (qBf hx),h⟩))
     simp[hk,hx,hgx,h4,-fB',-eB'];grind
    ·rintro - -;simp[-fB',-eB']
  | depth n a mn mx k1 k3 k4 k5 k6=>
    have e1:¬mx<mn:=by omega
    have e2:¬mn< 0:=by omega
    simp[e1,e2,-fB',-eB']
  |head n op a b ho k1 k2=>rcases ho with rfl|rfl<;>simp[-fB',-eB']
  |not n k h=>simp[-fB',-eB']
  |two n op a b ho k1 k2=>rcases ho with rfl|rfl<;>simp[-fB',-eB']
 rintro - -;simp[-fB',-eB'];intro _;refine ah (X:=Unit) [1,2,128] [] g.kids.length (λ_ _=>True) (λ_=>[]) (λ_=>[]) () trivial ?_ ?_
 ·rintro k -hkk -;obtain⟨x,hx⟩:=bD hkk;obtain⟨_,hgx⟩:=qBc.1 hx;have hp:=hk x (qBf hx);simp[hkk,hx,hgx,h5,hp,-fB',-eB']
 ·rintro - -;simp[-fB',-eB']
abbrev Vx:Spc:=aA (a3 Glob (List Attr) (List B)) wH (enc (X:=Int)) λ_ y=>y=0
def Em(l:List Pat)(out:List B):List B:=l.foldl (λo p=>lG o p.lab) out
theorem qjW{p:Pat}(h:CT qt p):∀out,Em (am p) out=bv p out:=by
 induction p using fh with|_ p b=>?_
 intro out;have hs:=Il h;rw[aV,nJ];split
 ·rename_i h1;have hk:p.kids=[]:=by
   rcases hs with h|h|h|h<;>grind
  rw[hk];rfl
 ·rename_i h1;have hl:p.lab=E0:=by
   rcases hs with h|h|h|h<;>grind [E0]
  rw[hl,show lG out E0=out from if_pos rfl];have:∀(ks:List Pat) (o:List B),(∀k∈ks,k∈p.kids)->Em (ks.flatMap am) o=ks.foldl (λo k=>bv k o) o:=by
   intro ks
   induction ks with
   |nil=>intro o _;rfl
   | cons k ks a=>
     intro o hk;rw[qCg,Em,qDs,qCj];have e:=b k (hk k (by simp)) (Mx h (hk k (by simp))) o;unfold Em at e a;rw[e,a _ λz hz=>hk z (by simp[hz])]
  exact this _ _ λ_ h=>h
def qdj(l:List Pat)(x:Pat)(out:List B):Em (l++ [x]) out=lG (Em l out) x.lab:=by
 simp[Em]
def qgf(l:List Pat):∀out,(Em l out).length<=out.length+l.length:=by
 induction l with
 |nil=>intro out;simp[Em]
 | cons x l a=>
   intro out;have:=a (lG out x.lab);have:=Ht out x.lab;unfold Em at*;simp only[qCj,qB2];omega
def qcR{p:Pat}(h:fk aB p=true):CT qt p:=by
 unfold fk at h;simp only[qBh]at h;exact B3 (EF p h.1.1.2) λq h=>(pQ q).1 h
abbrev qaN:Spc:=aA (a1 Pat) (λp=>fk aB p=true/\eY p<=1000000) (enc (X:=List B)) λp y=>y=bv p []
theorem Rb(h1:S nR=sM):aq wo vD S (a1 Pat) (λp=>fk aB p=true/\eY p<=1000000) (enc (X:=List B)) λp y=>y=bv p []:=by
 rintro p ⟨hp,hn⟩;have hl:=jP p;have c:(am p).length<=100000000:=by omega
 have d:=qjW (qcR hp) [];simp[wo,vD,h1,hp,c,-fB',-eB'];intro u;refine ah (X:=Value×List B) [10] [] (am p).length (λk z=>z.2=Em ((am p).take k) []) (λz=>[(3, .own 39 z.1)]) (λz=>[(39, .row z.1 av 1 (z.2.map enc))]) (.slice none 0 0, []) (by simp[Em]) ?_ ?_ (hh:=by simp[isNilRow])
 ·rintro k ⟨v,z⟩ hk hz;have hz:z=Em ((am p).take k) []:=hz;obtain⟨x,h⟩:=bD hk;obtain⟨_,l⟩:=qBc.1 h;have w:z.length<=k:=by
   have:=qgf ((am p).take k) [];rw[hz];simp only[qBC,qCL]at this;omega
  have q:Em ((am p).take (k+1)) []=lG z x.lab:=by rw[au h,qdj,<-hz]
  simp[hk,h,l,-fB',-eB'];intro b A;refine ah (X:=Bool) [3,5,10,11,12,19] [5,39] z.length (λj kn=>kn=(decide (x.lab=E0)||decide (x.lab∈z.take j))) (λkn=>[(6,enc kn)]) (λ_=>[]) (decide (x.lab=⟨#[]⟩)) (by simp[E0];congr) ?_ ?_
  ·rintro j kn t a;obtain⟨y,r⟩:=bD t;obtain⟨_,s⟩:=qBc.1 r;have e:(decide (x.lab=E0)||decide (x.lab∈z.take (j+1)))=(kn||decide (y=x.lab)):=by rw[au r,a];simp[Bool.or_assoc,eq_comm]
   rw[e];clear a;cases kn<;>simp[t,r,s,-fB',-eB']
  ·rintro kn a;rw[qBm]at a;rw[q];unfold lG BT;by_cases h0:x.lab=E0
   ·have:kn=true:=by simp[a,h0]
    subst this;simp[h0,-fB',-eB']
   ·by_cases h1:x.lab∈z
    ·have:kn=true:=by simp[a,h1]
     subst this;simp[h0,h1,-fB',-eB']
    ·have:kn=false:=by simp[a,h0,h1]
     subst this;simp[h0,h1,-fB',-eB'];exact⟨by omega,by omega⟩
 ·rintro⟨v,z⟩ hz;have hz:z=Em ((am p).take (am p).length) []:=hz;rw[qBm,d]at hz;subst hz;simp[-fB',-eB'];exact br (bv p []) (fM av (by simp)) rfl
structure qom (a:List Attr) (q:Qry):Prop where
 v:Pw a q
 lv:∀x∈am q.pat,qh6 (x.cond,a,bv q.pat [])
def qkb{f:Filt}(h:GF f):aB f.reg=true:=qj2 (.inl h.2)
abbrev VB:Spc:=aA (a2 Qry (List Attr)) (λx=>qom x.2 x.1) (enc (X:=Int)) λ_ y=>y=0
theorem Lw(h1:S kJ=Ie)(h2:S mN=Ma)(h3:S aJ=mX)(h4:S iR=DQ)(h5:S tQ=FN)(h6:S yL=qaN)(A:S fO=s_leaves)(C:S nT=s_rVal)(E:S wb=P1)(l:S tR=Vx):
 aq se rG S (a2 Qry (List Attr)) (λx=>qom x.2 x.1) (enc (X:=Int)) λ_ y=>y=0:=by
 rintro⟨q,a⟩ ⟨b,p⟩;have b:Pw a q:=b;have hp:=b.pat;unfold fk at hp;simp only[qBh]at hp;obtain⟨⟨⟨F,I⟩,J⟩,K⟩:=hp;have j:¬256<gw q.pat:=by have:=b.size;omega
 have r:¬3<((bv q.pat []).length:Int):=by have:=b.l3;omega
 have L:(bv q.pat []).length<=100:=by have:=b.l3;omega
 have M:¬q.strat< 0:=by have:=b.strat;omega
 have N:¬3<q.strat:=by have:=b.strat;omega
 have O:fk aB q.pat=true/\eY q.pat<=1000000:=⟨b.pat,b.num⟩
 have s:qd3 q.pat []:=by have:=jP q.pat;have:=b.num;show 0+_<=_;omega
 have t:qy1 q.glob:=b.glob.imp id λh=>⟨_,2,qBj _,h⟩
 have u:wH (q.glob,a,bv q.pat []):=⟨b.att,b.glob.imp id λh=>⟨2,h⟩⟩
 simp[se,rG,h1,F,I,M,N,h2,J,-fB',-eB'];intro Q;refine ah (X:=Unit) [1,2,32] [] q.filts.length (λ_ _=>True) (λ_=>[]) (λ_=>[]) () trivial ?_ ?_
 ·rintro k -hk -;obtain⟨x,c⟩:=bD hk;obtain⟨_,d⟩:=qBc.1 c;have hn:=qkb (b.filts x (qBf c));simp[hk,c,d,h3,hn,-fB',-eB']
 rintro - -;simp[h4,K,h5,b.pat,j,h6,O,r,A,s,-fB',-eB'];refine⟨by omega,λ_ U=>⟨by omega,λ_=> .inl λv w=>?_⟩⟩;refine ah (X:=Unit) [1,2,7,59] [59] (am q.pat).length (λ_ _=>True) (λ_=>[]) (λ_=>[]) () trivial ?_ ?_
 ·rintro k -hk -;obtain⟨x,c⟩:=bD hk;obtain⟨_,d⟩:=qBc.1 c;have W:qh6 (x.cond,a,bv q.pat []):=p x (qBf c);simp[hk,c,d,C,W,-fB',-eB']
 rintro - -;simp[-fB',-eB'];intro _;refine ah (X:=Unit) [1,2,7,75] [] q.filts.length (λ_ _=>True) (λ_=>[]) (λ_=>[]) () trivial ?_ ?_
 ·rintro k -hk -;obtain⟨x,c⟩:=bD hk;obtain⟨_,d⟩:=qBc.1 c;have hf:=(b.filts x (qBf c)).1;have Y:¬x.op< 1:=by omega
  have Z:¬3<x.op:=by omega
  simp[hk,c,d,Y,Z,-fB',-eB']
 ·rintro - -;simp[E,l,t,u,-fB',-eB']
end
section
open Go.Proofs
def qM:CC:=gq Tryz.f243 [1] {} _
def qx:List ai:=[.tmp 2]
def OY:FO nS [1] qM qx 18:=fo
def kO:CC:=gq Tryz.f175 [] {} _
def kF:List ai:=[.cell 2 true 7]
def Sn:FO rh [] kO kF 35:=fo
def zj:CC:=gq Tryz.f111 [1] {} _
def yh:List ai:=[.cell 2 true 7]
def Su:FO Bl [1] zj yh 15:=fo
def wq:CC:=gq Tryz.f46 [2] {} _
def vE:List ai:=[.tmp 4, .tmp 5]
def OZ:FO yM [2] wq vE 43:=fo
open Cod (enc dec)
variable {S S0:Nat->Spc}
abbrev qe3(n:Nat):Spc:=aA (a1 Cond) (λx=>bb x<=n) (enc (X:=Bool)) λx y=>y=mR x
theorem Rc(n:Nat)(h1:S nS=qe3 n):aq qM qx S (a1 Cond) (λx=>bb x<=n+1) (enc (X:=Bool)) λx y=>y=mR x:=by
 rintro x j;have j:bb x<=n+1:=j;have a:=Lc x;by_cases e:x.op=4
 ·simp[qM,qx,h1,a,e,-fB',-eB']
 simp[qM,qx,e,-fB',-eB'];intro l;refine ah (X:=Unit) [9] [] x.kids.length (λk _=>∀z∈x.kids.take k,mR z=false) (λ_=>[]) (λ_=>[]) () (by simp) ?_ ?_
 ·intro k _ hk c;obtain⟨z,b⟩:=bD hk;obtain⟨_,d⟩:=qBc.1 b;have hz:=qBf b;have hp:bb z<=n:=by have:=BQ hz;omega
  simp[hk,b,d,h1,hp,-fB',-eB'];refine⟨λh=>?_,λh=>?_⟩
  ·rw[a,qCe.2 ⟨z,hz,h⟩];simp
  ·rw[au b];intro u hu;rcases qBo.1 hu with hu|hu
   ·exact c u hu
   ·simp at hu;subst hu;exact h
 ·intro _ c;have:x.kids.any mR=false:=List.any_eq_false.2 λz hz=>by rw[c z (by simpa using hz)];decide
  simp[a,e,this,-fB',-eB']
abbrev qaM:Spc:=aA (a1 Cond) (λx=>∃n,bb x<=n) (enc (X:=Bool)) λx y=>y=mR x
def QB{H:ab}{i:Nat}{op:Int}{name arg val lab:B}{fold:Bool}{l:List Cond}{v:Value}(h:H i=some (.row v gW 7 (l.map enc))):FrzTo H (.agg [.v (.int .i64 op), .v (.string name), .v (.string arg), .v (.string val), .v (.string lab), .v (.bool fold), .own i v]) (enc (Cond.mk op name arg val lab fold l)):=by
 simp;refine .agg rfl λk c c' h1 h2=>?_
 match k,h1,h2 with
 | 0,h1,h2|1,h1,h2|2,h1,h2|3,h1,h2|4,h1,h2|5,h1,h2=>cases h1;cases h2;exact .same _
 | 6,h1,h2=>cases h1;cases h2;exact fM gW h
 |k+7,h1,_=>simp at h1
abbrev Vw(n:Nat):Spc:=aA (a1 Cond) (λx=>bb x<=n/\cM x<=60) (enc (X:=Cond)) λx y=>y=dh x
set_option maxHeartbeats 1000000 in
theorem Us(n:Nat)(h1:S nS=qaM)(h2:S rh=Vw n):aq kO kF S (a1 Cond) (λx=>bb x<=n+1/\cM x<=60) (enc (X:=Cond)) λx y=>y=dh x:=by
 rintro x ⟨hd,hn⟩;have hsm:∃n,bb x<=n:=⟨_,qBj _⟩
 have hany:∀H:ab,Fin (enc (X:=Cond)) (λy=>y=⟨1,eT,eT,eT,eT,false, []⟩) (D.agg [.v (.int .i64 1), .v (.string ⟨#[]⟩), .v (.string ⟨#[]⟩), .v (.string ⟨#[]⟩), .v (.string ⟨#[]⟩), .v (.bool false), .v (.slice none 0 0)]) H:=λH=>by
  refine br ⟨1,eT,eT,eT,eT,false, []⟩ ?_ rfl;simp[eT];refine .agg rfl λk c c' h1 h2=>?_
  match k,h1,h2 with
  | 0,h1,h2|1,h1,h2|2,h1,h2|3,h1,h2|4,h1,h2|5,h1,h2=>cases h1;cases h2;exact .same _
  | 6,h1,h2=>cases h1;cases h2;exact .nil 7
  |k+7,h1,_=>simp at h1
 by_cases hc:x.op=4\/x.op=6/\mR x=true
 ·have hl:dh x=⟨1,eT,eT,eT,eT,false, []⟩:=by rw[B9,if_pos hc]
  rcases hc with e|⟨e,e'⟩
  ·simp[kO,kF,h1,hsm,e,hl,-fB',-eB'];exactλ_=>hany _
  ·obtain⟨op,name,arg,val,lab,fold,ks⟩:=x;simp only at e;subst e;simp[kO,kF,h1,hsm,e',hl,-fB',-eB'];exactλ_=>hany _
 ·have hl:dh x=⟨x.op,x.name,x.arg,x.val,x.lab,x.fold,x.kids.map dh⟩:=by rw[B9,if_neg hc]
  have e4:¬x.op=4:=λh=>hc (.inl h)
  obtain⟨op,name,arg,val,lab,fold,ks⟩:=x;simp only at hl e4;have hs:op=6->mR ⟨op,name,arg,val,lab,fold,ks⟩=false:=λh=>by
   cases hb:mR ⟨op,name,arg,val,lab,fold,ks⟩with
   |false=>rfl
   |true=>exact absurd (.inr ⟨h,hb⟩) hc
  have hkn:∀y∈ks,bb y<=n/\cM y<=60:=λy hy=>by
   have h1:=BQ (p:=⟨op,name,arg,val,lab,fold,ks⟩) hy;have h2:=B5 hy;have h3:=qC ⟨op,name,arg,val,lab,fold,ks⟩;simp only at h3;exact⟨by omega,by omega⟩
  have hks:ks.length<=60:=by
   have h3:=qC ⟨op,name,arg,val,lab,fold,ks⟩;simp only at h3;have:=IG ks;omega
  by_cases e6:op=6
  ·subst e6;have hs':=hs rfl;simp[kO,kF,h1,hsm,hs',hl,-fB',-eB'];intro b1 b2 hkl;refine ah (X:=Value×List Cond) [1,2,20] [1,2] ks.length (λk z=>z.2=(ks.take k).map dh/\z.2.length=k) (λz=>[(3, .own 30 z.1)]) (λz=>[(30, .row z.1 gW 7 (z.2.map enc))]) (.slice none 0 0, []) ⟨rfl,rfl⟩ ?_ ?_ (hh:=by simp[isNilRow])
   ·rintro k ⟨v,l⟩ hk ⟨hl1,hl2⟩;simp only at hl1 hl2;obtain⟨y,hy⟩:=bD hk;obtain⟨_,hgy⟩:=qBc.1 hy;obtain⟨q1,q2⟩:=hkn y (qBf hy);have hk60:ks.length<=60:=hks;simp[h2,hk,hy,hgy,q1,q2,-fB',-eB'];refine⟨by omega,by omega,λv'=>⟨v',l++ [dh y],⟨?_,by simp;omega⟩,rfl, .inl ⟨rfl,by simp⟩⟩⟩;rw[hl1,<-List.map_take,au hy];simp
   ·rintro⟨v,l⟩ ⟨hl1,hl2⟩;simp only at hl1 hl2;rw[qBm]at hl1;simp[-fB',-eB'];exact br _ (QB rfl) (by rw[hl1])
  ·simp[kO,kF,h1,hsm,e4,e6,hl,-fB',-eB'];intro b1 b2 hkl;refine ah (X:=Value×List Cond) [1,2,20] [1,2] ks.length (λk z=>z.2=(ks.take k).map dh/\z.2.length=k) (λz=>[(3, .own 30 z.1)]) (λz=>[(30, .row z.1 gW 7 (z.2.map enc))]) (.slice none 0 0, []) ⟨rfl,rfl⟩ ?_ ?_ (hh:=by simp[isNilRow])
   ·rintro k ⟨v,l⟩ hk ⟨hl1,hl2⟩;simp only at hl1 hl2;obtain⟨y,hy⟩:=bD hk;obtain⟨_,hgy⟩:=qBc.1 hy;obtain⟨q1,q2⟩:=hkn y (qBf hy);have hk60:ks.length<=60:=hks;simp[h2,hk,hy,hgy,q1,q2,-fB',-eB'];refine⟨by omega,by omega,λv'=>⟨v',l++ [dh y],⟨?_,by simp;omega⟩,rfl, .inl ⟨rfl,by simp⟩⟩⟩;rw[hl1,<-List.map_take,au hy];simp
   ·rintro⟨v,l⟩ ⟨hl1,hl2⟩;simp only at hl1 hl2;rw[qBm]at hl1;simp[-fB',-eB'];exact br _ (QB rfl) (by rw[hl1])
abbrev PV:Spc:=aA (a1 Cond) (λx=>∃n,bb x<=n/\cM x<=60) (enc (X:=Cond)) λx y=>y=dh x
abbrev VC:Spc:=aA (a1 Cond) (λx=>cM x<=60/\bb x<=20) (enc (X:=Cond)) λx y=>y=dh x
def Uy(h1:S rk=s_rNodes)(h2:S rh=PV):aq zj yh S (a1 Cond) (λx=>cM x<=60/\bb x<=20) (enc (X:=Cond)) λx y=>y=dh x:=by
 rintro x ⟨hn,a⟩;have hp:∃n,bb x<=n/\cM x<=60:=⟨20,a,hn⟩
 have c:¬60<(cM x:Int):=by omega
 simp[zj,yh,h1,h2,hn,a,c,-fB',-eB'];exactλb=>⟨⟨20,a⟩,br (dh x) (by simp) rfl⟩
def N7(z:Corpus×Cond):Prop:=OkCorp z.1/\cM z.2<=60/\bb z.2<=20/\cM (dh z.2)<=60/\bb (dh z.2)<=20/\qlz z.1.attrs [] 21 (dh z.2)/\∀i:Nat,i<z.1.toks.length->∃y,qD ⟨z.1,(i:Int), [], []⟩ 21 (dh z.2)=some y
abbrev qe2:Spc:=aA (a2 Corpus Cond) N7 (lH (Y:=List Int) (Z:=Int)) λz y=>y=(FL z.1 z.2,0)
theorem Rd(h1:S rk=s_rNodes)(h2:S Bl=VC)(h3:S nT=s_rVal)(h4:S vi=L8 21):aq wq vE S (a2 Corpus Cond) N7 (lH (Y:=List Int) (Z:=Int)) λz y=>y=(FL z.1 z.2,0):=by
 rintro⟨c,x⟩ ⟨hc,hn,t,j,p,h,d⟩;simp only at hc hn t j p h d;have hl:(c.toks.length:Int)<=9223372036854775807:=by have:=hc.2.2.1;omega
 have u:=hc.2.2.1;have A:c.attrs.length<=1000:=by rw[hc.1];decide
 have C:qh6 (dh x,c.attrs, []):=⟨j,p,21,h,A⟩
 have E:¬60<(cM x:Int):=by omega
 simp[wq,vE,h1,h2,h3,hn,t,C,E,hl,-fB',-eB'];intro b;refine ah (X:=Value×List Int) [2,3] [3] c.toks.length (λk z=>z.2=OS c x k) (λz=>[(9, .own 40 z.1)]) (λz=>[(40, .row z.1 bP 1 (z.2.map enc))]) (.slice none 0 0, []) (by simp[OS]) ?_ ?_ (hh:=by simp[isNilRow])
 ·rintro k ⟨v,l⟩ hk a;simp only at a;obtain⟨y,r⟩:=d k hk;have hp:qdW 21 (c,dh x,(k:Int), [], []):=⟨hc,h,by show(0:Int)<=(k:Int);omega,by show(k:Int)<c.toks.length;omega,rfl,qBB _,λb hb=>(by cases hb),y,r⟩
  have hs:=PQ c x k;have s:=Vr c x k;rw[<-a]at hs s;have F:(if(qD ⟨c,(k:Int), [], []⟩ 21 (dh x)).getD false=true then[(k:Int)]else[])=if y=true then[(k:Int)]else[]:=by rw[r];rfl
  rw[F]at hs;simp[hk,h4,hp,-fB',-eB'];intro w q;have q:qD ⟨c,(k:Int), [], []⟩ 21 (dh x)=some w:=q;rw[r]at q;cases q;refine⟨λe=>⟨by omega,by omega,λv'=> .inl ?_⟩,λe=> .inl ?_⟩
  ·rw[hs,e];simp
  ·rw[hs,e];simp
 ·rintro⟨v,l⟩ a;simp only at a;simp[-fB',-eB'];have e:FL c x=l:=a.symm;rw[e];exact fM bP rfl

def SH:∀{n m:Nat} {x:Cond},GL n x->n<m->qlz att3 [] m x
 | _,m+1,_, .atom n c h,_=>MW (.atom 0 _ h) (by omega)
 | _,m+1,_, .any n,_=>Zt (n:=0) .any (by omega)
 | _,m+1,_, .top n v f h,_=>Zt (n:=0) (.top v f h) (by omega)
 | _,m+1,_, .not n k h,hm=>⟨rfl,DV 6 rfl (by decide),λz hz=>by
    rcases qCo.1 hz with rfl;exact SH h (by omega)⟩
 | _,m+1,_, .two n op a b ho h1 h2,hm=>⟨by rcases ho with rfl|rfl<;>rfl,by rcases ho with e|e;exact DV 7 e (by decide);exact DV 8 e (by decide),λz hz=>by
    have hz:z∈ [a,b]:=hz;simp only[qBt,qBF,or_false]at hz;rcases hz with rfl|rfl
    ·exact SH h1 (by omega)
    ·exact SH h2 (by omega)⟩
abbrev JC:Spc:=aA (a2 Corpus Cond) N7 (lH (Y:=Int) (Z:=Int)) λz y=>y=(((FL z.1 z.2).length:Int),0)
def Up(h1:S yM=qe2):aq yZ yb S (a2 Corpus Cond) N7 (lH (Y:=Int) (Z:=Int)) λz y=>y=(((FL z.1 z.2).length:Int),0):=by
 rintro⟨c,x⟩ a;simp[yZ,yb,h1,a,-fB',-eB']
structure RBegOk (c:Corpus) (q:Qry):Prop where
 v:qom c.attrs q
 ch:kB 0 c.texts c.toks.length
 few:c.toks.length<=100000
 fx:Hw q.pat
 sel:∀x∈am q.pat,N7 (c,x.cond)
def RBegOk.lv{c:Corpus}{q:Qry}(h:RBegOk c q):(am q.pat).length<=100000000:=by
 have:=jP q.pat;have:=h.fx.1;omega
abbrev FP:Spc:=aA (a2 Corpus Qry) (λz=>RBegOk z.1 z.2) (lH (Y:=List Int) (Z:=Int)) λz y=>y=(jA z.1 z.2,0)
theorem Q7(h1:S tS=VB)(h2:S nR=sM)(h3:S Bj=JC):aq wl vA S (a2 Corpus Qry) (λz=>RBegOk z.1 z.2) (lH (Y:=List Int) (Z:=Int)) λz y=>y=(jA z.1 z.2,0):=by
 rintro⟨c,q⟩ b;have b:RBegOk c q:=b;have s:=b.v;have l:=b.lv;have d:=b.v.v.pat;simp[wl,vA,h1,h2,s,d,l,-fB',-eB'];intro t;refine ah (X:=Value×List Int) [2,21] [] (am q.pat).length (λk z=>z.2=(jA c q).take k) (λz=>[(7, .own 37 z.1)]) (λz=>[(37, .row z.1 bP 1 (z.2.map enc))]) (.slice none 0 0, []) (by simp) ?_ ?_ (hh:=by simp[isNilRow])
 ·rintro k ⟨v,z⟩ hk hz;have hz:z=(jA c q).take k:=hz;obtain⟨a,j⟩:=bD hk;obtain⟨_,p⟩:=qBc.1 j;have h:=b.sel a (qBf j);have r:(jA c q)[k]? =some (((FL c a.cond).length:Int)):=by unfold jA;rw[qBw,j];rfl
  have u:z.length=k:=by rw[hz,qBC];unfold jA;rw[qBO];omega
  simp[hk,j,p,h3,h,-fB',-eB'];refine⟨by omega,by omega,λv'=> .inl ?_⟩;rw[hz,<-List.map_take,au r];simp
 ·rintro⟨v,z⟩ hz;have hz:z=(jA c q).take (am q.pat).length:=hz;have:z=jA c q:=by rw[hz,qBQ];unfold jA;rw[qBO];omega
  subst this;simp[-fB',-eB'];exact fM bP (by simp[ak])
end
section
mutual
def srcL:Pat->Int->Int->List Span
 | .mk op _ _ _ mn _ ks,d,leaf=>if op=1 then[⟨leaf,d⟩]else if op=4 then Vl ks d leaf else if op=6 then(match ks with|[]=>[]|k::_=>(List.range mn.toNat).flatMap λ(i:Nat)=>if i=0\/(cq k).1=(cq k).2 then srcL k (d+i* (cq k).1) leaf else[])else[]
def Vl:List Pat->Int->Int->List Span
 | [],_,_=>[]
 |k::ks,d,leaf=>srcL k d leaf++if(cq k).1=(cq k).2 then Vl ks (d+ (cq k).1) (leaf+ (am k).length)else[]
end
theorem qeK(p:Pat):∀(d leaf:Int) (s:Span),s∈srcL p d leaf↔SrcE p d leaf s:=by
 induction p using fh with|_ p j=>?_
 intro d leaf s;obtain⟨op,c,l,r,mn,mx,ks⟩:=p;simp only at j;rw[srcL.eq_def,SrcE.eq_def];simp only;split
 ·simp
 ·split
  ·have:∀a:List Pat,(∀k∈a,k∈ks)->∀d leaf:Int,s∈Vl a d leaf↔EN a d leaf s:=by
    intro a
    induction a with
    |nil=>intro _ d leaf;rw[Vl,EN];simp
    | cons k a q=>
      intro hk d leaf;rw[Vl,EN,qBo,j k (hk k (by simp))];refine or_congr_right ?_;split
      ·rename_i h;rw[q (λz hz=>hk z (by simp[hz]))];exact⟨λb=>⟨h,b⟩,λb=>b.2⟩
      ·rename_i h;exact⟨λb=>by simp at b,λb=>absurd b.1 h⟩
   exact this ks (λ_ h=>h) d leaf
  ·split
   ·split
    ·simp
    ·rename_i k a;rw[qCG];constructor
     ·rintro⟨i,hi,hs⟩;split at hs
      ·rename_i t;rw[j k (by simp)]at hs;rw[qCF]at hi;exact⟨i,by omega,by omega,t.imp (λh=>by omega) id,hs⟩
      ·simp at hs
     ·rintro⟨i,h0,h1,h2,h3⟩;refine⟨i.toNat,by rw[qCF];omega,?_⟩;rw[if_pos (h2.imp (λh=>by omega) id),j k (by simp),show((i.toNat:Nat):Int)=i by omega];exact h3
   ·simp
def qcz{p:Pat}{l:List Span}(h:SS l)(h1:∀s,s∈l↔s∈srcL p 0 0):SrcsOf p l:=⟨h,λs=>(h1 s).trans (qeK p 0 0 s)⟩
open Go.Proofs

def uD:CC:=gq Tryz.f14 [] {} _
def tG:List ai:=[.tmp 0]
def MS:FO wi [] uD tG 23:=fo
open Cod (enc dec)
variable {S S0:Nat->Spc}
def qlh:B:=⟨#[40,34,97,34,32,34,98,34,41,123,50,125,32,34,99,34]⟩
def qaE(l:List Pat):Pat:=⟨4,pi,E0,E0,0,0,l⟩
def qlx:Pat:=qaE [⟨6,pi,E0,E0,2,2, [qaE [OP 97,OP 98]]⟩,OP 99]
def q31:Qry:=⟨qlx,GlobE, [],0⟩
def qnj:qxg qlh q31=true:=by kernel_rfl
def qpU:srcL qlx 0 0=[⟨0,0⟩,⟨1,1⟩,⟨0,2⟩,⟨1,3⟩,⟨2,4⟩]:=by kernel_rfl
theorem qlD:CT (λq=>qt q/\mM aB q=true) qlx:=by
 have a:∀q:Pat,q.op≠2->q.op≠3->q.lab=⟨#[]⟩->mM aB q=true:=λq h2 h3 h=>by
  unfold mM;rw[decide_eq_true_eq];exact⟨λb=>by omega,λb=>absurd h b⟩
 intro q c;have:q∈ [qlx,⟨6,pi,E0,E0,2,2, [qaE [OP 97,OP 98]]⟩,qaE [OP 97,OP 98],OP 97,OP 98,OP 99]:=c;simp only[qBt,qBF,or_false]at this;rcases this with rfl|rfl|rfl|rfl|rfl|rfl
 ·exact⟨.inr (.inr (.inl ⟨.inl rfl,rfl,rfl,rfl,rfl,rfl,by decide⟩)),a _ (by decide) (by decide) rfl⟩
 ·exact⟨.inr (.inr (.inr ⟨rfl,rfl,rfl,rfl,rfl⟩)),a _ (by decide) (by decide) rfl⟩
 ·exact⟨.inr (.inr (.inl ⟨.inl rfl,rfl,rfl,rfl,rfl,rfl,by decide⟩)),a _ (by decide) (by decide) rfl⟩
 all_goals exact⟨.inl ⟨rfl,rfl,rfl,rfl,rfl⟩,a _ (by decide) (by decide) rfl⟩
def qqd:fk aB qlx=true:=by
 unfold fk;rw[qbe qlx (B3 qlD λq h=>(pQ q).2 h.1),qbe qlx (B3 qlD λq h=>h.2)]
 kernel_rfl
def qmv{y:List Span}(h:vv qlx y):y=[⟨0,0⟩,⟨0,2⟩,⟨1,1⟩,⟨1,3⟩,⟨2,4⟩]:=by
 unfold vv at h;rw[if_pos ⟨qqd,by decide⟩]at h;refine h.eq (qcz (by simp[SS,Qq]) λs=>?_);rw[qpU];simp only[qBt,qBF,or_false];constructor
 ·rintro(h|h|h|h|h)<;>simp[h]
 ·rintro(h|h|h|h|h)<;>simp[h]
abbrev PZ:Spc:=aA a0 (λ_=>True) (enc (X:=Bool)) λ_ y=>y=true
def qcq(h1:S vh=VD qlh q31)(h2:S qa=xe)(h3:S Es=L9):aq uD tG S a0 (λ_=>True) (enc (X:=Bool)) λ_ y=>y=true:=by
 rintro⟨⟩ -;have a:Hw q31.pat:=⟨by decide,by decide⟩
 simp[uD,tG,h1,h2,h3,a,-fB'];refine⟨rfl,λy b=>?_⟩;rw[qmv b]
abbrev qp0:Spc:=aA (a2 (List Int) (List Int)) (λ_=>True) (enc (X:=Bool)) λ_ y=>y=true
end
end Go.Gv
