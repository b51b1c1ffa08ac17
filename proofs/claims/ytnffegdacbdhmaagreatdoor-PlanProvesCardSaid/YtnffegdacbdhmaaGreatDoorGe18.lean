/- W229 -/
import Derived.Ground.GgzProg
import Derived.Test.YtnffegdacbdhmaaGreatDoorProg
import Derived.ProofKit
import Derived.OpenShut
import Derived.ShutString
import Derived.ChangeOld
import Derived.Test.YtnffegdacbdhmaaGreatDoorGe17
set_option linter.all false
set_option maxRecDepth 100000
set_option maxHeartbeats 0
open Bool renaming forall_bool → fB', exists_bool → eB'
namespace Go.Gv
section
open Cod (enc dec)
open Go.Proofs Go.Sort Go.Shelf Go.Lib Go.RowKit
variable {dq:Prop}
section
variable {P:Program}{ρ:Ren}{X:Type}[Cod X][Inhabited X]
def qwo(g:Nat)(x:D×Unit)(l:List X):Prop:=x.1= .clo g []/\l.length<=100000
def qlW(cf:X->X->Int)(_:D×Unit)(l r:List X):Prop:=r=l.mergeSort λx y=>!(ltOf cf) y x
theorem qlf(hTb:lg=[]){g:Nat}{cf:X->X->Int}(ev:X->List Value)(q:∀x,enc x=D.agg ((ev x).map D.v))(a:∀x,∀v∈ev x,v.oneCell'=true/\∀s,v= .string s->s.size<=maxLen)
 (C:Tri True P g (aG (a2 X X) (λ_=>True) (enc (X:=Int)) λx y=>y=cf x.1 x.2).pt) (blk size k:Nat) (w:World):CmpLays P g #[] ev k cf blk 0 size w:=by
 intro m os E _ x y;generalize sortWorldK ev k w blk 0 m E os=W;have A:∀z,R (λ_=>False) (aR (λb=>b<W.heap.size) (λ_=>False) bS W) W (.agg (ev z).toArray) (enc z):=λz=>by
  rw[q z];refine .agg (ev z) _ (by simp) (λv t=>(a z v t).1) λj v c h1 h2=>?_
  rw[qFP]at h2;rw[h1]at h2;cases h2;exact .v v (a z v (qFF h1)).1 (a z v (qFF h1)).2
 obtain⟨_,hc⟩:=C (λb=>b<W.heap.size) (λ_=>False) W [.agg (ev x).toArray, .agg (ev y).toArray] [enc x,enc y] bS 0 (λr H'=>r=enc (cf x y)/\H'=bS) (λb h=>h) ⟨λb h=>h.elim,λp hp=>by rw[hTb]at hp;cases hp⟩
  ⟨λi j r s b h=>by simp[bS]at h,λi r b h=>by simp[bS]at h,λi r h=>by simp[bS]at h⟩ rfl
  (λj v c h1 h2=>by
    rcases j with _|_|j
    ·simp at h1 h2;subst h1;subst h2;exact A x
    ·simp at h1 h2;subst h1;subst h2;exact A y
    ·simp at h1)
  (by rw[mO];simp)
 refine hc.mono ?_;rintro e w' ⟨v,r,H',l,rfl,⟨rfl,rfl⟩,_,_,_,hs,_,_,t⟩;have u:v= .int .i64 (cf x y):=by
  have:R l (aR (λb=>b<W.heap.size) l bS w') w' v (.v (.int .i64 (cf x y))):=t;exact this.inv_v
 subst u;refine⟨rfl,w'.drawn -W.drawn,w'.heap.extract W.heap.size w'.heap.size,?_⟩;have d:w'.heap=W.heap++w'.heap.extract W.heap.size w'.heap.size:=by
  apply Array.ext_getElem?;intro b;by_cases hb:b<W.heap.size
  ·rw[qGv hb];exact hs.same b hb (λ⟨i,r,h,_⟩=>by simp[bS]at h) (λh=>h)
  ·rw[Array.getElem?_append_right (by omega),qHD];have F:W.heap.size<=w'.heap.size:=hs.size;by_cases I:b<w'.heap.size
   ·rw[if_pos (by omega)];congr 1;omega
   ·rw[if_neg (by omega),qGI (by omega)]
 have h1:=hs.os;have h2:=hs.tape;have h3:=hs.output;have h4:=hs.drawn trivial;have h5:W.drawn+ (w'.drawn -W.drawn)=w'.drawn:=by omega
 cases w';cases W;simp only[grow,World.drewN]at*;subst h1;subst h2;subst h3;rw[h5,<-d]
theorem UH(hTb:lg=[]){F g:Nat}{cf:X->X->Int}(L:SlLaysF0.n6 P ρ)(hf:ρ.f 6=F)(ev:X->List Value)(k el:Nat)(hk:∀x,(ev x).length=k)(Y:∀x,enc x=D.agg ((ev x).map D.v))
 (C:∀x,∀v∈ev x,v.oneCell'=true/\∀s,v= .string s->s.size<=maxLen) (aE:∀w,(isAgg (ρ.t 24)).run P w= .ok true w) (zE:∀w,(Go.sizeOf (ρ.t 24)).run P w= .ok k w)
 (hO:SWO (ltOf cf)) (hT:∀x y,(ltOf cf) x y=false->(ltOf cf) y x=false->x=y) (hg:Tri True P g (aG (a2 X X) (λ_=>True) (enc (X:=Int)) λx y=>y=cf x.1 x.2).pt) (eg:dc P g) (ef:dc P F):
 Tri dq P F (qrK (aD a0) (qwo g) (qlW cf) el k).pt:=by
 subst hf;intro O tp w vs ds H d K hO' htl p hlen u hA;obtain⟨id,v,l,ds',x,rfl,hd,hid,⟨hx1,hl5⟩,hK⟩:=hA;have hds:ds'=[.clo g []]:=by
  match ds',hd with
  | [],h=>cases h
  | a::r,h=>
    rw[qlQ]at h
    match r,h with
    | [],h=>
      simp at h;subst h;simp only at hx1;rw[hx1]
    |b::r,h=>cases h
 subst hds
 match vs,hlen,u with
 | [v0,fv],_,u=>
 have e0:v0=v:=by
  have:=u 0 v0 _ rfl rfl;cases this;rfl
 have e1:fv= .func (.func g) #[] #[]:=by
  have:=u 1 fv _ rfl rfl;cases this with
  | clo _ xs _ hl _=>
    have:xs=[]:=by simpa using hl
    subst this;rfl
 subst e0;subst e1;refine⟨ef,?_⟩;obtain⟨xs,⟨hxl,hx⟩,hkn,Z⟩:=p.ok id _ hid;rcases hx with⟨rfl,h0⟩|⟨gb,cap,cur,rfl,_,hgb,hcap,hcapm,hsz,N⟩
 ·have hl0:l=[]:=by simpa using h0
  subst hl0;refine(AnyF.slices_SortFunc_none L none 0 _ w).mono ?_;rintro e w' ⟨rfl,rfl⟩;have hH:ai H id (some (.row (.slice none 0 0) el k (([]:List X).map enc)))=H:=by
   funext i;simp only[ai];by_cases hi:i=id
   ·subst hi;simp[hid]
   ·simp[hi]
  refine⟨_,_,_,tp,rfl,hK [] (by simp[qlW]),λb h=>h,λb h=> .inl h,htl.1, .refl _ _ _,λb h=> .inl (by rwa [hH]at h),by rw[hH];exact p, .tup [] [] rfl (λk x c h=>by simp at h)⟩
 ·have hll:(l.map (enc (X:=X))).length=l.length:=by simp
  rw[hll]at hcap hxl N ⊢;have hval:∀(j:Nat) (y v':Value),xs[j]? =some y->(bp (l.map enc))[j]? =some (.v v')->y=v':=λj y v' h1 h2=>((Z j y _ h1 h2).2).inv_v
  have hfl:bp (l.map enc)=(l.flatMap ev).map D.v:=by
   unfold bp;rw[List.flatMap_map,List.map_flatMap];congr 1;funext z;rw[Y z];rfl
  have hfml:=K5 (f:=ev) (n:=k) (l:=l) (λx _=>hk x);have hxs:xs=l.flatMap ev:=by
   apply qGj;intro j;by_cases W:j<l.length*k
   ·have e1:xs[j]? =some xs[j]:=qFC (by omega);have e2:(l.flatMap ev)[j]? =some (l.flatMap ev)[j]:=qFC (by omega);rw[e1,e2];congr 1;refine hval j _ _ e1 ?_;rw[hfl,qFP,e2];rfl
   ·rw[qFV (by omega),qFV (by omega)]
  have hcur:∀j,j<l.length*k->cur[j]? =(l.flatMap ev)[j]?:=λj W=>by
   rw[<-hxs,<-N,qFX,if_pos W,qFZ]
  have hgs:gb<w.heap.size:=(qFN.1 hgb).1;have hH:HoldsK ev k w gb 0 l.toArray:=by
   intro j W;have hj':j<l.length*k:=by simpa using W
   refine⟨?_,BK hgb⟩;rw[Hk hgb,qGn,hcur j hj',<-BM ev k hk l,qFZ,qGe W,getElem!_pos _ j W];rfl
  have I:=AnyQ.slices_SortFunc_total L k aE zE ev hk (λx v hv=>(C x v hv).1) cf hO g #[] gb 0 cap l.toArray w eg (qlf hTb ev Y C hg gb _ k w) hH hgs (by simp;omega) hT;simp only[qG9]at I;refine I.mono ?_;rintro e w' ⟨rfl,n,os,M⟩;generalize hl':(l.mergeSort λx y=>!(ltOf cf) y x)=l' at M;have A:l'.length=l.length:=by rw[<-hl'];simp
  have hwo:∀b,b<w.heap.size->b≠gb->w'.heap[b]? =w.heap[b]?:=λb hb hne=>by
   rw[M];exact EZ (w:=Sort.ahead w n) hb hne
  have hthis:w'.heap[gb]? =some (.cells (putCells _root_.id 0 (flatK ev k l'.toArray) cur) el (0,0)):=by
   rw[M];exact O0 (w:=Sort.ahead w n) hgb
  have hws:w.heap.size<=w'.heap.size:=by
   rw[M];simp[sortWorldK,grow,putRowK,putRow,mapBlock,Sort.ahead]
  have hos:w'.os=w.os/\w'.tape=w.tape/\w'.output=w.output/\w.drawn<=w'.drawn:=by
   rw[M];exact⟨rfl,rfl,rfl,Nat.le_add_right _ _⟩
  clear M I;have hbo:(Res.row (.slice (some ⟨gb,0,none⟩) l.length cap) el k (l.map enc)).blk=some gb:=rfl;have q:H id=some (.row (.slice (some ⟨gb,0,none⟩) l.length cap) el k (l.map enc)):=by rw[hid,hll]
  have Q:bA H gb:=⟨id,_,q,hbo⟩
  have htp:∀b,tp b->b≠gb:=λb hb e=>(p.out id _ gb q hbo).2 (e ▸hb)
  have J:∀b,tp b->TapeStep w w' b:=λb hb=> .same (hwo b (htl.1 b hb) (htp b hb))
  have hK':=hK l' (by simp only[qlW];rw[hl']);rw[hll]at hK';generalize hH2:ai H id (some (.row (.slice (some ⟨gb,0,none⟩) l.length cap) el k (l'.map enc)))=H2 at hK';have S:∀b,bA H2 b->bA H b:=λb ⟨i,r,h1,h2⟩=>by
   rw[<-hH2]at h1;simp only[ai]at h1;split at h1
   ·cases h1;cases h2;exact Q
   ·exact⟨i,r,h1,h2⟩
  have hmove:∀y c,R tp (aR O tp H w) w y c->R tp (aR O tp H2 w') w' y c:=λy c hr=>hr.mono (λ_ h=>h) (λb hb=>⟨⟨qFS hb.1 hws,hb.2.1,hb.2.2.1,λh=>hb.2.2.2 (S b h)⟩,hwo b hb.1 (λe=>hb.2.2.2 (e ▸Q))⟩) J
  have E:∀i r,H2 i=some r->(i=id/\r= .row (.slice (some ⟨gb,0,none⟩) l.length cap) el k (l'.map enc))\/(i≠id/\H i=some r):=λi r h=>by
   rw[<-hH2]at h;simp only[ai]at h;split at h
   ·rename_i e;cases h;exact .inl ⟨e,rfl⟩
   ·rename_i e;exact .inr ⟨e,h⟩
  refine⟨_,_,H2,tp,rfl,hK',λb h=>h,λb h=> .inl h,λb hb=>qFS (htl.1 b hb) hws,⟨hos.1,hos.2.1,hos.2.2.1,hws,λb hb ho ht=>hwo b hb (λe=>ho (e ▸Q)),J,λ_=>hos.2.2.2⟩,λb h=> .inl (S b h),⟨?_,?_,?_⟩, .tup [] [] rfl (λk x c h=>by simp at h)⟩
  ·intro i j r s b h1 h2 h3 h4;rcases E i r h1 with⟨rfl,rfl⟩|⟨n1,k1⟩
   ·rcases E j s h2 with⟨rfl,rfl⟩|⟨n2,k2⟩
    ·rfl
    ·exact p.dis _ j _ s b q k2 h3 h4
   ·rcases E j s h2 with⟨rfl,rfl⟩|⟨n2,k2⟩
    ·exact p.dis i _ r _ b k1 q h3 h4
    ·exact p.dis i j r s b k1 k2 h3 h4
  ·intro i r b h1 h2;rcases E i r h1 with⟨rfl,rfl⟩|⟨n1,k1⟩
   ·exact p.out _ _ b q h2
   ·exact p.out i r b k1 h2
  ·intro i r h1;rcases E i r h1 with⟨rfl,rfl⟩|⟨n1,k1⟩
   ·have U:=K5 (f:=ev) (n:=k) (l:=l') (λx _=>hk x);have hps:(putCells _root_.id 0 (flatK ev k l'.toArray) cur).size=cur.size:=by simp[putCells]
    refine⟨l'.flatMap ev,⟨by simp;rw[<-List.length_flatMap];exact U, .inr ⟨gb,cap,_,by simp[A],qFY _,hthis,by simp;omega,hcapm,by rw[hps,hsz],?_⟩⟩,λd hd=>?_,λj y c h1 h2=>?_⟩
    ·simp only[qGl,A];apply qGj;intro j;rw[qFX];by_cases W:j<l.length*k
     ·have hjc:j<cur.size:=by
       have:l.length*k<=cap*k:=qF2 k hcap;omega
      have hjf:j<(flatK ev k l'.toArray).size:=by simp[A];exact W
      rw[if_pos W,qFZ,<-BM ev k hk l',qFZ];simp only[putCells,Array.getElem?_mapIdx,qGe hjc,qG8,qFY,qGn,hjf,and_self,if_true,Nat.sub_zero,id_eq];rw[qGe hjf,getElem!_pos _ j hjf]
     ·rw[if_neg W,qFV (by rw[U,A];omega)]
    ·obtain⟨z,_,rfl⟩:=qFL.1 hd;rw[Y z];exact⟨rfl,by simp[D.cells,hk]⟩
    ·have hfl':bp (l'.map enc)=(l'.flatMap ev).map D.v:=by
      unfold bp;rw[List.flatMap_map,List.map_flatMap];congr 1;funext z;rw[Y z];rfl
     rw[hfl',qFP,h1]at h2;cases h2;obtain⟨z,_,hz⟩:=qG0.1 (qFF h1);exact⟨(C z y hz).1, .v y (C z y hz).1 (C z y hz).2⟩
   ·have hne:∀b,r.blk=some b->b≠gb:=λb hb e=>n1 (p.dis i id r _ gb k1 q (e ▸hb) hbo)
    exact(p.ok i r k1).conv hmove (λb hb=>hwo b ((p.ok i r k1).lt hb) (hne b hb))
end
instance:Inhabited Span:=⟨⟨0,0⟩⟩
def qEp(s:Span):List Value:=[.int .i64 s.b, .int .i64 s.e]
def BG(x y:Span):ltOf vy x y=decide (C9 x y):=by
 unfold ltOf;have:=qlg x y;by_cases h:C9 x y
 ·simp only[h,decide_true,decide_eq_true_eq];by_cases h0:0<=vy x y
  ·exact absurd h (this.1 h0)
  ·omega
 ·simp only[h,decide_false,decide_eq_false_iff_not];have:=this.2 h;omega
def qqL:Go.Sort.SWO (ltOf vy) where
 a x:=by rw[BG];simp[Jd]
 trans x y z h1 h2:=by rw[BG]at*;simp at*;exact KW h1 h2
 b x y z h1 h2:=by rw[BG]at*;simp at*;unfold C9 at*;omega
def XT{P:Program}{f:Nat}{X Y:Type}[Cod Y]{A:dP X}{pre j:X->List Y->Prop}{post k:X->List Y->List Y->Prop}{el n:Nat}(h:Tri dq P f (qrK A pre post el n).pt)(h1:∀x l,j x l->pre x l)(h2:∀x l r,j x l->post x l r->k x l r):
 Tri dq P f (qrK A j k el n).pt:=λO tp w vs ds H d K a b c e g ⟨id,v,l,p,x,s,t,u,q,y⟩=>h O tp w vs ds H d K a b c e g ⟨id,v,l,p,x,s,t,u,h1 x l q,λl' hp=>y l' (h2 x l l' q hp)⟩
open Go.Proofs Cod
def qsq{p:Cond}(h:dB p<=0):False:=by rw[JG]at h;omega
def LD:TQ dq lM tT:=
 ac (ag ae) IN (Uj)
def qbr:TQ dq xa Iq:=
 ac (ag (aa LD ae)) LY (Xs rfl)
def MC:TQ dq cD wn:=
 ac (ag (aa LD (aa qbr ae))) AA (JY rfl rfl)
def OX:∀n,TQ dq wW (qdp n)
 | 0=>bH λx h=>qsq h
 |n+1=>ck (ag (aa (OX n) ae)) Y2 (λ_=>qFE rfl) (qa3 n rfl)
def qbp:TQ dq wW qdq:=
 dC (λn=>OX n) (fH (λx _=>⟨dB x.1,qFH _⟩))
def XK:TQ dq Ec LM:=
 ac (ag (aa qbp ae)) Vm (Xi rfl)
def Iw:∀n,TQ dq qN (Yo n)
 | 0=>bH λx h=>qb5 h.1
 |n+1=>ck (ag (aa XK (aa (Iw n) ae))) RA (λ_=>qFE rfl) (Ub n rfl rfl)
def Uz:TQ dq qN Sq:=
 dC (λn=>Iw n) (fH (λx h=>⟨cg x.1,qFH _,h⟩))
def LT:∀n,TQ dq uc (qdt n)
 | 0=>bH λx h=>qb5 h
 |n+1=>ck (ag (aa MC (aa (LT n) ae))) Vn (λ_=>qFE rfl) (Xj n rfl rfl)
def XL:TQ dq uc Yq:=
 dC (λn=>LT n) (fH (λx _=>⟨cg x,qFH _⟩))
def FN:∀n,TQ dq nL (Su n)
 | 0=>bH λx h=>qb5 h
 |n+1=>ck (ag (aa (FN n) ae)) Pb (λ_=>qFE rfl) (Q3 n rfl)
def Ro:TQ dq nL OE:=
 dC (λn=>FN n) (fH (λx _=>⟨cg x,qFH _⟩))
def nW:TQ dq dT cB:=
 ac (ag (aa Uz (aa XL (aa Ro ae)))) Kz (Mk rfl rfl rfl)
def OW:∀n,TQ dq wU (UV n)
 | 0=>bH λx h=>qb5 h.1
 |n+1=>ck (ag (aa (OW n) ae)) YZ (λ_=>qFE rfl) (qa1 n rfl)
def qbm:TQ dq wU EU:=
 dC (λn=>OW n) (fH (λx h=>⟨cg x,qFH _,h⟩))
def LS:∀n,TQ dq iU (Np n)
 | 0=>bH λx h=>qb5 h.1
 |n+1=>ck (ag (aa (LS n) ae)) Vk (λ_=>qFE rfl) (Xh n rfl)
def XI:TQ dq iU Ih:=
 dC (λn=>LS n) (fH (λx h=>⟨cg x,qFH _,h⟩))
def Iy:∀n,TQ dq jp (Zx n)
 | 0=>pP λd ds H K ⟨id,v,l,a,x,h1,h2,h3,h4,h5⟩=>qb5 h4.1
 |n+1=>AY (ag (aa (Iy n) ae)) FS (by decide) (Uc n rfl)
def Dk:Tri dq Tryz.prog jp i_leavesA.pt:=dC (λn=>Iy n) λd ds H K ⟨id,v,l,a,x,h1,h2,h3,h4,h5⟩=>⟨cg x,id,v,l,a,x,h1,h2,h3,⟨qFH _,h4⟩,h5⟩
def UA:Tri dq Tryz.prog jp s_leaves.pt:=Oa (Ao (ag (aa Dk ae)) FS (λ_=>qFE rfl) (Q4 rfl)) Dk
def UB:TQ dq vL Il:=
 ac (ag (aa nW (aa UA ae))) RB (Ud rfl rfl)
def qbo:TQ dq BP Gn:=
 ac (ag (aa nW (aa qbm ae))) Y1 (qa2 rfl rfl)
def XM:TQ dq ud EY:=
 ac (ag (aa nW (aa XI ae))) Vo (Xk rfl rfl)
def UE:TQ dq vN Im:=
 ac (ag (aa tv (aa AX ae))) RN (Uo rfl rfl)
def qbk:TQ dq Hb OB:=
 ac (ag ae) YX (qaZ)
def qbl:TQ dq BO OC:=
 ac (ag ae) YY (qa0)
def Uy:TQ dq vK Ii:=
 ac (ag (aa qbl ae)) Rz (T0 rfl)
def LR:∀n,TQ dq iT (LL n)
 | 0=>bH λx h=>qb5 h.1.1
 |n+1=>ck (ag (aa Uy (aa XM (aa UB (aa (LR n) ae))))) Vi (λ_=>qFE rfl) (Xg n rfl rfl rfl rfl)
def XG:TQ dq iT Ij:=
 dC (λn=>LR n) (fH (λx h=>h))
def XH:TQ dq Ea Ik:=
 ac (ag (aa nW (aa qbo (aa XG ae)))) Vj (Ua rfl rfl rfl)
def Aj:TQ dq eC ms:=
 ac (ag ae) IV (J4)
def Dj:TQ dq gI FM:=
 Gg (ag ae) CU (λ_=>qFE rfl) (Da)
def Ag:TQ dq fl At:=
 Gg (ag ae) zj (λ_=>qFE rfl) (Ac)
def Gd:TQ dq fV od:=
 ac (ag (aa kY (aa Cp ae))) ok_estimate_compare (F6 rfl rfl)
theorem yJ:Tri dq Tryz.prog gX s_SortFunc_Source.pt:=by
 have h:=UH (dq:=dq) (hTb:=rfl) (cf:=vy) (el:=aK) Tryz.sortSource rfl qEp 2 (λ_=>rfl) (λ_=>rfl) (λx v p=>by simp[qEp]at p;rcases p with rfl|rfl<;>exact⟨rfl,λs h=>by cases h⟩) Tryz.isAgg50 Tryz.sizeOf50
  qqL (λx y h1 h2=>by rw[BG]at h1 h2;simp at h1 h2;rcases Nw x y with h|h|h<;>first|exact h|exact absurd h h1|exact absurd h h2) Gd ok_estimate_compare.enter (fu Tryz.func127 (by kernel_rfl) rfl)
 refine XT h (λx l hp=>hp) (λx l r hp d=>?_);have d:r=l.mergeSort λx y=>!(ltOf vy) y x:=d
 subst d;refine⟨by simp,λx=>by simp[List.mem_mergeSort],?_⟩;have:=List.pairwise_mergeSort (le:=λx y=>!(ltOf vy) y x) (λa b c h1 h2=>by simp only[BG]at*;simp at*;unfold C9 at*;omega) (λa b=>by simp only[BG];simp;unfold C9;omega) l;refine qGE.2 λi j hi q k=>?_
 have h:=qGE.1 this i j hi q k;generalize (l.mergeSort λx y=>!(ltOf vy) y x)[i]=a at h ⊢;generalize (l.mergeSort λx y=>!(ltOf vy) y x)[j]=b at h ⊢;rw[BG]at h;simpa using h
def HT:Tri dq Tryz.prog qK s_Sort_int.pt:=XR Tryz.sortInt rfl (fu Tryz.func79 (by kernel_rfl) rfl)
def Kh:TQ dq iG sd:=
 ac (ag (aa FI (aa Aj (aa HT (aa Dj ae))))) IU (J3 rfl rfl rfl rfl)
def Aw:∀n,TQ dq aM (Nq n)
 | 0=>pP λd ds H K ⟨id,b,x,z,a,h1,h2,h3,h4,h5,hp,c⟩=>qb5 hp.1.1
 |n+1=>wl (by decide) (S:=JN [(hU,EY),(eC,ms),(iG,sd),(aM,Nq n)]) (ag (aa FI (aa Aj (aa Kh (aa (Aw n) ae))))) zn (λ_=>qFE rfl) (J2 n rfl rfl rfl rfl)
def Ak:Tri dq Tryz.prog aM s_visitA.pt:=dC (λn=>Aw n) λd ds H K ⟨id,b,x,z,a,h1,h2,h3,h4,h5,⟨n,hp⟩,c⟩=>⟨n,id,b,x,z,a,h1,h2,h3,h4,h5,hp,c⟩
def Al:TQ dq mE se:=
 ac (ag (aa UE (aa Ak (aa yJ (aa Ag ae))))) IW (J5 rfl rfl rfl rfl)
end
section
open Go.Proofs
open Cod (enc dec)
variable {dq:Prop}
section
variable {X Y Z:Type}
variable {P:Program}{S:Nat->Spc}{f:Nat}{im:List Nat}{cc:CC}{rs:List aj}{N:Nat}
end
end
section
open Go.Proofs
open Cod (enc dec)
variable {S S0:Nat->Spc}
end
section
open Go.Proofs
def Gl{x:Cond}(h:sa x=false):x.op≠4/\∀k∈x.kids,sa k=false:=by
 rw[Nn,Bool.or_eq_false_iff]at h;refine⟨λe=>by simp[e]at h,λk hk=>?_⟩;cases hs:sa k with
 |false=>rfl
 | true=>
   have:=qGP.2 ⟨k,hk,hs⟩;rw[h.2]at this;cases this
theorem Jh{c:Corpus}{t:Int}{lb lb':List B}{bd bd':List Int} :∀(n:Nat) (x:Cond),sa x=false->nJ ⟨c,t,lb,bd⟩ n x=nJ ⟨c,t,lb',bd'⟩ n x
 | 0,_,_=>rfl
 | n+1,x,h=>by
   obtain⟨h4,hk⟩:=Gl h;have a:∀k∈x.kids,nJ ⟨c,t,lb,bd⟩ n k=nJ ⟨c,t,lb',bd'⟩ n k:=λk hm=>Jh n k (hk k hm)
   rw[nJ,nJ];dsimp only;rw[if_neg h4,if_neg h4];have a0:(x.kids.all λk=>(nJ ⟨c,t,lb,bd⟩ n k).isSome)=x.kids.all λk=>(nJ ⟨c,t,lb',bd'⟩ n k).isSome:=by
    rw[qGb,qFI,qFI];exact⟨λg k hm=>by rw[<-a k hm];exact g k hm,λg k hm=>by rw[a k hm];exact g k hm⟩
   have a1:(x.kids.any λk=>!((nJ ⟨c,t,lb,bd⟩ n k).getD false))=x.kids.any λk=>!((nJ ⟨c,t,lb',bd'⟩ n k).getD false):=zU λk hm=>by rw[a k hm]
   have a2:(x.kids.any λk=>(nJ ⟨c,t,lb,bd⟩ n k).getD false)=x.kids.any λk=>(nJ ⟨c,t,lb',bd'⟩ n k).getD false:=zU λk hm=>by rw[a k hm]
   rw[a0,a1,a2];cases b:x.kids with
   |nil=>rfl
   |cons k ks=>dsimp only;rw[a k (by rw[b];simp)]
mutual
def qE:∀x:Cond,sa x=false->iQ x=x
 | .mk op n a v l f ks,h=>by
   have h2:=Gl h;have h4:¬op=4:=h2.1;rw[iQ,if_neg (by simp[h4,h]),Tc ks h2.2]
def Tc:∀ks:List Cond,(∀k∈ks,sa k=false)->D4 ks=ks
 | [],_=>rfl
 |k::ks,h=>by rw[D4,qE k (h k (by simp)),Tc ks λk hk=>h k (by simp[hk])]
end
mutual
def qdW:∀x:Cond,io (iQ x)<=io x/\dB (iQ x)<=dB x
 | .mk op n a v l f ks=>by
   rw[iQ];have:=Y9 ks;split
   ·simp only[io,fE,dB,iV];omega
   ·simp only[io,dB];omega
def Y9:∀ks:List Cond,fE (D4 ks)<=fE ks/\iV (D4 ks)<=iV ks
 | []=>by simp[D4]
 | k::ks=>by
   have:=qdW k;have:=Y9 ks;simp only[D4,fE,iV];omega
end
inductive GL:Nat->Cond->Prop
 |atom (n:Nat) (c:Cond) (h:GA [] c):GL n c
 |any (n:Nat):GL n ⟨1,E0,E0,E0,E0,false, []⟩
 |top (n:Nat) (v:B) (f:Bool) (h:v∈ValsT):GL n ⟨2,E0,E0,v,E0,f, []⟩
 |not (n:Nat) (k:Cond) (h:GL n k):GL (n+1) ⟨6,E0,E0,E0,E0,false, [k]⟩
 |two (n:Nat) (op:Int) (a b:Cond) (ho:op=7\/op=8) (h1:GL n a) (h2:GL n b):GL (n+1) ⟨op,E0,E0,E0,E0,false, [a,b]⟩
def qkl{lb:List B}{c:Cond}(h:GA lb c)(hs:sa c=false):GA [] c:=by
 cases h with
 |val n v f h1 h2=>exact .val n v f h1 h2
 |feat v h=>exact .feat v h
 |same n l a h1 h2 h3=>exact absurd rfl (Gl hs).1
 |reg n h=>exact .reg n h
 |regk n v h1 h2=>exact .regk n v h1 h2
def ND{lb:List B} :∀{n:Nat} {x:Cond},GI lb n x->sa x=false->GL n x
 | _,_, .atom n c h,hs=> .atom n c (qkl h hs)
 | _,_, .not n k h,hs=> .not n k (ND h ((Gl hs).2 k (by simp)))
 | _,_, .two n op a b ho h1 h2,hs=> .two n op a b ho (ND h1 ((Gl hs).2 a (by simp))) (ND h2 ((Gl hs).2 b (by simp)))
def Ny{x:Cond}(h:x.op=4\/x.op=6/\sa x=true):iQ x=⟨1,E0,E0,E0,E0,false, []⟩:=by rw[Nz,if_pos h];rfl
def qd2{op:Int}{a b:Cond}(ho:op=7\/op=8):iQ ⟨op,E0,E0,E0,E0,false, [a,b]⟩=⟨op,E0,E0,E0,E0,false, [iQ a,iQ b]⟩:=by
 rw[Nz,if_neg (by
  rintro(h|⟨h,_⟩)
  ·rcases ho with rfl|rfl<;>cases h
  ·rcases ho with rfl|rfl<;>cases h)]
 rfl
def ZL{lb:List B} :∀{n:Nat} {x:Cond},GI lb n x->GL n (iQ x)
 | _,_, .atom n c h=>by
   cases hs:sa c with
   |false=>rw[qE c hs];exact .atom n c (qkl h hs)
   | true=>
     have h4:c.op=4:=by
      rw[Nn,yt h]at hs;simpa using hs
     rw[Ny (.inl h4)];exact .any n
 | _,_, .not n k h=>by
   cases hs:sa ⟨6,E0,E0,E0,E0,false, [k]⟩with
   |false=>rw[qE _ hs];exact .not n k (ND h ((Gl hs).2 k (by simp)))
   |true=>rw[Ny (.inr ⟨rfl,hs⟩)];exact .any _
 | _,_, .two n op a b ho h1 h2=>by
   rw[qd2 ho];exact .two n op _ _ ho (ZL h1) (ZL h2)
def qvh{lb:List B}{n:Nat}{x:Cond}(h:GC lb n x):GL n (iQ x):=by
 cases h with
 |any=>rw[qE _ rfl];exact .any n
 |top v f h=>rw[qE _ rfl];exact .top n v f h
 |inner c h=>exact ZL h
def Tk{E:R8}(j:JM E)(d:E.lb=[]):∀{n m:Nat} {x:Cond},GL n x->n<m->∃y,nJ E m x=some y
 | _,m+1,_, .atom n c h,_=>qpN j (d ▸h)
 | _,m+1,_, .any n,_=>qj6 j (n:=0) .any (by omega)
 | _,m+1,_, .top n v f h,_=>qj6 j (n:=0) (.top v f h) (by omega)
 | _,m+1,_, .not n k h,hm=>by
   obtain⟨y,r⟩:=Tk (m:=m) j d h (by omega);exact⟨_,qj5 r⟩
 | _,m+1,_, .two n op a b ho h1 h2,hm=>by
   obtain⟨p,hp⟩:=Tk (m:=m) j d h1 (by omega);obtain⟨q,l⟩:=Tk (m:=m) j d h2 (by omega);rcases ho with rfl|rfl
   ·exact⟨_,VR hp l⟩
   ·exact⟨_,qee hp l⟩
def I3:∀{n m:Nat} {x:Cond},GL n x->n<m->tX ij [] m x=true
 | _,m+1,_, .atom n c h,_=>BB (qdV h) (yt h)
 | _,m+1,_, .any n,_=>Pw (n:=0) .any (by omega)
 | _,m+1,_, .top n v f h,_=>Pw (n:=0) (.top v f h) (by omega)
 | _,m+1,_, .not n k h,hm=>SR (I3 h (by omega))
 | _,m+1,_, .two n op a b ho h1 h2,hm=>SQ ho (I3 h1 (by omega)) (I3 h2 (by omega))
theorem qck{c:Corpus}{t:Int}{lb:List B}{bd:List Int}(j:JM ⟨c,t,lb,bd⟩):∀{n m:Nat} {x:Cond},GI lb n x->n<m->nJ ⟨c,t,lb,bd⟩ m x=some true->nJ ⟨c,t, [], []⟩ m (iQ x)=some true
 | _,m+1,_, .atom n x h,_,d=>by
   cases hs:sa x with
   |false=>rw[qE x hs,Jh (lb':=lb) (bd':=bd) _ x hs];exact d
   | true=>
     have h4:x.op=4:=by
      rw[Nn,yt h]at hs;simpa using hs
     rw[Ny (.inl h4)];unfold nJ;rw[if_pos rfl]
 | _,m+1,_, .not n k h,_,d=>by
   cases hs:sa ⟨6,E0,E0,E0,E0,false, [k]⟩with
   |false=>rw[qE _ hs,Jh (lb':=lb) (bd':=bd) _ _ hs];exact d
   | true=>
     rw[Ny (.inr ⟨rfl,hs⟩)];unfold nJ;rw[if_pos rfl]
 | _,m+1,_, .two n op a b ho h1 h2,hm,d=>by
   have s:JM ⟨c,t, [], []⟩:=⟨j.c,j.t0,j.t1,rfl⟩
   obtain⟨p,hp⟩:=Tl (m:=m) j h1 (by omega);obtain⟨q,u⟩:=Tl (m:=m) j h2 (by omega);obtain⟨A,l⟩:=Tk (m:=m) s rfl (ZL h1) (by omega);obtain⟨C,r⟩:=Tk (m:=m) s rfl (ZL h2) (by omega);have w:p=true->A=true:=λe=>by
    subst e;exact qFO (l.symm.trans (qck j h1 (by omega) hp))
   have y:q=true->C=true:=λe=>by
    subst e;exact qFO (r.symm.trans (qck j h2 (by omega) u))
   rw[qd2 ho];rcases ho with rfl|rfl
   ·rw[VR hp u]at d;rw[VR l r];have h3:=qFO d;simp only[qFJ]at h3;rw[w h3.1,y h3.2];rfl
   ·rw[qee hp u]at d;rw[qee l r];have h3:=qFO d;simp only[Bool.or_eq_true]at h3;rcases h3 with h3|h3
    ·rw[w h3];rfl
    ·rw[y h3];simp
def qog{c:Corpus}{t:Int}{lb:List B}{bd:List Int}(b:JM ⟨c,t,lb,bd⟩){n m:Nat}{x:Cond}(h:GC lb n x)(hm:n<m)(a:nJ ⟨c,t,lb,bd⟩ m x=some true):nJ ⟨c,t, [], []⟩ m (iQ x)=some true:=by
 cases h with
 |any=>rw[qE _ rfl,Jh (lb':=lb) (bd':=bd) _ _ rfl];exact a
 |top v f h=>rw[qE _ rfl,Jh (lb':=lb) (bd':=bd) _ _ rfl];exact a
 |inner x h=>exact qck b h hm a
open Cod (enc dec)
variable {S S0:Nat->Spc}
def qh6{c:Corpus}(hc:OkCorp c){lb:List B}{n:Nat}{x:Cond}(d:GC lb n x)(hn:n<=3):JK (c,x):=by
 have a:=qvh d;have h:=qkk d;have j:=qdW x;have h3:2^ (n+1)<=2^4:=Nat.pow_le_pow_right (by decide) (by omega);have b:∀i:Nat,i<c.toks.length->JM ⟨c,(i:Int), [], []⟩:=λi hi=>⟨hc,by show(0:Int)<=(i:Int);omega,by show(i:Int)<c.toks.length;omega,rfl⟩
 exact⟨hc.sz,by show io x<=60;omega,by show dB x<=60;omega,by
  show qms c.attrs [] (iQ x)=true;rw[show c.attrs=ij from hc.1];exact qjj (by omega) (by omega) (I3 a (by omega)),λi hi=>Tk (b i hi) rfl a (by omega)⟩
def QC{n:Nat}{c:Corpus}{q:Qry}(hc:TP c)(b:GQ n q)(hn:n<=5):yI WJ c q/\jS q.pat<=1000:=by
 have a:=Zk hc b hn;obtain⟨lb,hl,h⟩:=b.lab;have h1:=qqb n q.pat h;have h2:2^n<=32:=by
  rcases n with _|_|_|_|_|_|n
  all_goals first|decide|omega
 refine⟨⟨a.v,a.v.pat,a.v.size,⟨a.v.num,by omega⟩,⟨?_,λx d=>(a.v.lv x d).2⟩,by have:=hc.few;omega,λx d=>qh6 hc.ok (b.cond x d) (by decide)⟩,by omega⟩;have:=sJ q.pat;have:=a.v.num;simp;omega
end
section
open Go.Proofs
open Cod (enc dec)
def Gh(c:UInt8):Pat:=⟨1,⟨2,E0,E0,⟨#[c]⟩,E0,false, []⟩,E0,E0,0,0, []⟩
def qpk:B:=⟨#[34,97,34,32,34,99,34]⟩
def q32:Qry:=⟨⟨4,Cond0,E0,E0,0,0, [Gh 97,Gh 99]⟩,GlobE, [],0⟩
abbrev OD(s:B)(q:Qry):Spc:=aG (a1 B) (λx=>x=s) (qov (Y:=Qry) (Z:=Int) (W:=Int)) λ_ y=>y=(q,0,0)
variable {dq:Prop}
def qhR{s:B}{p:Pat}(h:O5 s=some p)(t:Tri dq Tryz.prog pE s_Parse.pt):TQ dq pE (OD s ⟨p,GlobE, [],0⟩):=
 dC (λ_=>t) λd ds H K hk=>⟨0,by
  rw[mO]at hk ⊢;cases e:(a1 B).dec ds with
  |none=>rw[e]at hk;exact hk
  | some x=>
    rw[e]at hk;obtain⟨rfl,hk⟩:=hk;exact⟨⟨_,h⟩,λy ⟨a,hp,e⟩=>hk y (by rw[h]at hp;cases hp;exact e)⟩⟩
def qfz:TQ dq pE (OD qpk q32):=qhR (by kernel_rfl) XN
end
section
open Go.Proofs
open Cod (enc dec)
variable {S S0:Nat->Spc}
def c32:Corpus:=⟨[⟨⟨#[119,111,114,100]⟩,false⟩], [[⟨#[97]⟩], [⟨#[98]⟩], [⟨#[97]⟩], [⟨#[99]⟩]], [⟨⟨#[116]⟩,0,4, []⟩], [], [], [], []⟩
abbrev Sx:Spc:=aG a0 (λ_=>True) (enc (X:=Bool)) λ_ y=>y=true
def Xc:List Span:=[⟨0,0⟩,⟨1,1⟩]
def qpn:SrcsOf q32.pat Xc:=by
 refine⟨by simp[SS,Xc,C9],λs=>?_⟩;show s∈Xc↔SrcE ⟨4,Cond0,E0,E0,0,0, [Gh 97,Gh 99]⟩ 0 0 s;have a:aO (Gh 97)=(1,1):=by decide
 have b:aq (Gh 97)=[Gh 97]:=rfl;rw[qfE rfl];show s∈Xc↔pK [Gh 97,Gh 99] 0 0 s;rw[pK,pK,pK,qfF rfl,qfF rfl,a,b];simp[Xc]
def qv8:qlw c32 q32 Xc=[2]:=by kernel_rfl
def qsy:yE (pJ c32 q32) [] Xc=[⟨1,1⟩]:=by kernel_rfl
def qAP:qc1 Xc Xc:=by
 intro k x a
 match k with
 | 0=>simp[Xc]at a;subst a;exact⟨by simp[Xc],λ_ h=>by omega⟩
 | 1=>simp[Xc]at a;subst a;exact⟨by simp[Xc],λy _ b=>by simp[Xc]at b;subst b;decide⟩
 |k+2=>simp[Xc]at a
def qnu{y:List Int×Int}(h:ql0 (c32,q32,Xc) y):y=([2],0):=by
 obtain⟨F,a,h⟩:=h;have e:F=Xc:=SrcsOf.eq a qpn;subst e;rcases h with⟨rfl,_⟩|⟨_,h⟩
 ·exact congrArg (·,0) qv8
 ·exact absurd qAP h
def qi6{y:List Span×Int}(h:qcV (c32,q32) y):y=([⟨1,1⟩],0):=by
 obtain⟨F,a,rfl⟩:=h;have e:F=Xc:=SrcsOf.eq a qpn;subst e;exact congrArg (·,0) qsy
theorem qfi{V:List Attr->Qry->Prop}(h1:S pE=OD qpk q32)(h2:S tK=UW V)(h3:S El=qdr V)(h4:S He=qiL)(h5:S Hb=OB)(j:yI V c32 q32):ak xR wJ S a0 (λ_=>True) (enc (X:=Bool)) λ_ y=>y=true:=by
 rintro⟨⟩ -;have k:qeX V (⟨[⟨⟨#[119,111,114,100]⟩,false⟩], [[⟨#[97]⟩], [⟨#[98]⟩], [⟨#[97]⟩], [⟨#[99]⟩]], [⟨⟨#[116]⟩,0,4, []⟩], [], [], [], []⟩,q32, [⟨0,0⟩,⟨1,1⟩]):=⟨j,by decide⟩
 have d:yI V ⟨[⟨⟨#[119,111,114,100]⟩,false⟩], [[⟨#[97]⟩], [⟨#[98]⟩], [⟨#[97]⟩], [⟨#[99]⟩]], [⟨⟨#[116]⟩,0,4, []⟩], [], [], [], []⟩ q32:=j;simp[xR,wJ,h1,h2,h3,k,d,-fB'];refine⟨rfl,λa e h=>?_⟩;have h:(a,e)=([2],0):=qnu h;cases h;intro b f c;have c:(b,f)=([⟨1,1⟩],0):=qi6 c;cases c;simp[h4,h5,Ig,-fB']
def V12(a:List Attr)(q:Qry):Prop:=WJ a q\/qzX a q
def qpp{x:Cond}(h1:io x<=60)(h2:dB x<=60)(h:(qms c32.attrs [] (iQ x) && (List.range 4).all λi=>(nJ ⟨c32,(i:Int), [], []⟩ 21 (iQ x)).isSome)=true):JK (c32,x):=by
 simp only[qFJ,qFI,qGQ]at h;exact⟨⟨(by decide:c32.toks.length<=100000),(by decide:∀r∈c32.toks,r.length<=100000),(by decide:c32.attrs.length<=1000)⟩,h1,h2,h.1,λi hi=>qGB.1 (h.2 i hi)⟩
def qrD{x:Pat}(a:x∈aq q32.pat):x=Gh 97\/x=Gh 99:=by
 have h:x∈ [Gh 97,Gh 99]:=a;simpa using h
def qjv:tt (λq=>xY q/\lF q=true/\nI aB q=true) q32.pat:=by
 have a:∀q:Pat,q.op≠2->q.op≠3->q.lab=⟨#[]⟩->nI aB q=true:=λq h2 h3 h=>by
  unfold nI;rw[decide_eq_true_eq];exact⟨λb=>by omega,λb=>absurd h b⟩
 intro q c;have:q∈ [q32.pat,Gh 97,Gh 99]:=c;simp only[qFK,qGd,or_false]at this;rcases this with rfl|rfl|rfl
 ·exact⟨.inr (.inr (.inl ⟨.inl rfl,rfl,rfl,rfl,rfl,rfl,by decide⟩)),rfl,a _ (by decide) (by decide) rfl⟩
 ·exact⟨.inl ⟨rfl,rfl,rfl,rfl,rfl⟩,rfl,a _ (by decide) (by decide) rfl⟩
 ·exact⟨.inl ⟨rfl,rfl,rfl,rfl,rfl⟩,rfl,a _ (by decide) (by decide) rfl⟩
def Vg{f:Pat->Bool}(p:Pat)(h:tt (λq=>f q=true) p):cx f p=true:=by
 induction p using fg with|_ p a=>?_
 rw[cZ,py h,qHg,qFI];exactλk hk=>a k hk (wM h hk)
def qpB:fy aB q32.pat=true:=by
 unfold fy;rw[Vg q32.pat (vW qjv λq h=>(vX q).2 h.1),Vg q32.pat (vW qjv λq h=>h.2.2),Vg q32.pat (vW qjv λq h=>h.2.1)];rfl
def qoY:yI V12 c32 q32:=by
 refine⟨.inr ⟨rfl,rfl,rfl,qpB,by decide,by decide,by decide,by decide,λx a=>?_⟩,qpB,by decide,⟨by decide,by decide⟩,⟨by decide,λx a=>?_⟩,by decide,λx a=>?_⟩
 ·rcases qrD a with rfl|rfl
  ·exact⟨by kernel_rfl,1,by decide,λk hk=>by cases hk⟩
  ·exact⟨by kernel_rfl,1,by decide,λk hk=>by cases hk⟩
 ·rcases qrD a with rfl|rfl
  ·exact⟨1,by decide,λk hk=>by cases hk⟩
  ·exact⟨1,by decide,λk hk=>by cases hk⟩
 ·rcases qrD a with rfl|rfl
  ·exact qpp (by decide) (by decide) (by kernel_rfl)
  ·exact qpp (by decide) (by decide) (by kernel_rfl)
def qaA{n:Nat}{c:Corpus}{q:Qry}(hc:TP c)(a:GQ n q)(hn:n<=5):yI V12 c q:=
 have h:=(QC hc a hn).1
 ⟨.inl h.v,h.pat,h.size,h.fx,h.pl,h.few,h.sel⟩
def qiX(n:Nat):(Bl n).length=n:=by simp[Bl]
abbrev qus:Spc:=aG (a3 (List Int) (List Int) (List Int)) (λ_=>True) (enc (X:=Bool)) λ_ y=>y=true
end
section
open Go.Proofs
open Cod (enc dec)
variable {S S0:Nat->Spc}
end
end Go.Gv
namespace Go.Proofs
open Go.Shelf
def Tryz.keysA_ren:Go.Shelf.Ren:=⟨λ|7=>35|10=>80|n=>n,λ|23=>67|26=>3|3=>4|28=>95|0=>0|27=>94|33=>143|4=>4|n=>n,λ|n=>n⟩
theorem Tryz.keysA:Go.Proofs.SlLaysZI.n7 Tryz.prog Tryz.keysA_ren:={
 mixed:=by kernel_rfl
 I:=⟨Tryz.f35.name,by decide,Tryz.func35.trans (congrArg some (by kernel_rfl))⟩
 a:=⟨Tryz.f80.name,by decide,Tryz.func80.trans (congrArg some (by kernel_rfl))⟩
 t0:=Tryz.underlying0
 a0:=Tryz.isAgg0
 J:=Tryz.sizeOf0
 K:=Tryz.zeroValue0
 L:=Tryz.underlying4
 a4:=Tryz.isAgg4
 M:=Tryz.sizeOf4
 N:=Tryz.zeroValue4
 b:=Tryz.underlying67
 c:=Tryz.isAgg67
 d:=Tryz.sizeOf67
 h:=Tryz.zeroValue67
 j:=Tryz.underlying3
 k:=Tryz.isAgg3
 l:=Tryz.sizeOf3
 p:=Tryz.zeroValue3
 q:=Tryz.underlying94
 r:=Tryz.isAgg94
 s:=Tryz.sizeOf94
 t:=Tryz.zeroValue94
 u:=Tryz.underlying95
 w:=Tryz.isAgg95
 x:=Tryz.sizeOf95
 y:=Tryz.zeroValue95
 A:=Tryz.underlying143
 C:=Tryz.isAgg143
 E:=Tryz.sizeOf143
 F:=Tryz.zeroValue143 }
def Tryz.sortedA_ren:Go.Shelf.Ren:=⟨λ|6=>34|8=>78|9=>79|11=>145|13=>147|12=>146|23=>211|24=>212|14=>203|15=>204|16=>205|17=>206|18=>207|19=>208|20=>76|21=>209|22=>210|25=>261|26=>262|27=>263|28=>264|29=>265|30=>144|31=>294|n=>n,λ|26=>3|28=>95|24=>22|0=>0|3=>3|37=>141|48=>256|50=>258|4=>4|40=>250|39=>249|45=>90|5=>5|9=>9|51=>294|55=>298|57=>324|58=>127|33=>143|n=>n,λ|n=>n⟩
def Tryz.sortedA:Go.Proofs.SlLaysZI.n6 Tryz.prog Tryz.sortedA_ren:={
 mixed:=by kernel_rfl
 w:=⟨Tryz.f34.name,by decide,Tryz.func34.trans (congrArg some (by kernel_rfl))⟩
 x:=⟨Tryz.f78.name,by decide,Tryz.func78.trans (congrArg some (by kernel_rfl))⟩
 a:=⟨Tryz.f145.name,by decide,Tryz.func145.trans (congrArg some (by kernel_rfl))⟩
 t0:=Tryz.underlying0
 a0:=Tryz.isAgg0
 y:=Tryz.sizeOf0
 A:=Tryz.zeroValue0
 b:=Tryz.underlying22
 c:=Tryz.isAgg22
 d:=Tryz.sizeOf22
 h:=Tryz.zeroValue22
 j:=Tryz.underlying3
 k:=Tryz.isAgg3
 l:=Tryz.sizeOf3
 p:=Tryz.zeroValue3
 q:=Tryz.underlying95
 r:=Tryz.isAgg95
 s:=Tryz.sizeOf95
 t:=Tryz.zeroValue95
 u:=by kernel_rfl }
end Go.Proofs
namespace Go.Gv
section
open Go.Proofs Cod
variable {dq:Prop}
def qfx{P:Program}{f:Nat}{X Y:Type}{A:dP X}{k l:X->Prop}{er:Y->D}{post:X->Y->Prop}(h1:Tri dq P f (aG A k er post).pt)(h2:Tri dq P f (aG A l er post).pt):Tri dq P f (aG A (λx=>k x\/l x) er post).pt:=λO tp w vs ds H d K a b c e g h=>by
 rw[mO]at h;cases j:A.dec ds with
 |none=>rw[j]at h;exact h.elim
 | some x=>
   rw[j]at h;rcases h.1 with hp|hp
   ·exact h1 O tp w vs ds H d K a b c e g (by rw[mO,j];exact⟨hp,h.2⟩)
   ·exact h2 O tp w vs ds H d K a b c e g (by rw[mO,j];exact⟨hp,h.2⟩)
def qhB:TQ dq eB (EV V12):=qfx OZ Kg
def H4:TQ dq kT YD:=
 ac (ag (aa vC ae)) GS (HH rfl)
def yC:∀n,TQ dq bJ (Ir n)
 | 0=>bH λx h=>qsq h
 | n+1=>
   have h1:TQ dq fj (YN Cond (JN [(bJ,Ir n)])):=ac (ag (aa (yC n) ae)) nH (Sb);have h2:TQ dq bI (YO Cond (JN [(bJ,Ir n)])):=ac (ag (aa h1 ae)) kP (Sc rfl)
   ac (ag (aa h2 ae)) IZ (J7 (S0:=(JN [(bJ,Ir n)])) n rfl rfl)
def Ls:TQ dq bJ Yy:=dC (λn=>yC n) (fH (λx h=>h))
def xV:∀n,TQ dq dO (YC n)
 | 0=>bH λx h=>qsq h.1
 |n+1=>ck (ag (aa Ls (aa (xV n) ae))) GR (λ_=>qFE rfl) (HG n rfl rfl)
def JC:TQ dq dO qdE:=dC (λn=>xV n) (fH (λx h=>h))
def wj:TQ dq js qiJ:=
 ac (ag (aa H4 (aa JC (aa mi (aa (pq 21) ae))))) FA (qhv rfl rfl rfl rfl)
def N5:TQ dq xc od:=
 ac (ag (aa kY (aa Cp ae))) MT (NV rfl rfl)
def CQ:TQ dq kA qdx:=
 ac (ag ae) Bt (NY)
def yK:TQ dq gY qdC:=
 ac (ag (aa CQ ae)) yc (HO rfl)
def ME:TQ dq uM Cv:=
 ac (ag (aa Al (aa N5 (aa yK ae)))) KE (Ms rfl rfl rfl)
def N8:TQ dq xk qiK:=
 ac (ag (aa CL ae)) M0 (qbd rfl)
def Gc:TQ dq oO qik:=
 ac (ag ae) Fq (qqj)
def yb:TQ dq gj qiR:=
 ac (ag (aa N8 (aa Gc ae))) wO (qqB rfl rfl)
def MA:TQ dq jR Cx:=
 ac (ag ae) AC (Mx)
def Dm:TQ dq qW wo:=
 ac (ag (aa tv (aa wi ae))) MR (Mr rfl rfl)
def XP:TQ dq sR (qd8 jr):=qhL Tryz.keysA rfl (fu Tryz.func35 (by kernel_rfl) rfl)
def qqV(m:Nat):AnyZI.SortsIn Tryz.prog Tryz.sortedA_ren Go.Fence.wide m:=
 ⟨λblk off cap c W d a b=>callsIn_wide.2 (AnyG.slices_Sort_int Tryz.sortInt blk off cap c W d a b),λp cap W=>callsIn_wide.2 (AnyG.slices_Sort_int_none Tryz.sortInt p cap W)⟩
def MB(a:¬dq):TQ dq vx (UR jr):=qby (fk:=sR) a Tryz.sortedA Tryz.keysA rfl (fu Tryz.func34 (by kernel_rfl) rfl) rfl qqV (enters_of Tryz.func79 (by kernel_rfl) rfl) (enters_of Tryz.func80 (by kernel_rfl) rfl)
def FJ(a:¬dq):TQ dq tK (UW V12):=
 ac (ag (aa qhB (aa ME (aa Dm (aa wj (aa yb (aa MA (aa XP (aa (MB a) ae))))))))) Po (Ri rfl rfl rfl rfl rfl rfl rfl rfl)
def Ki:TQ dq sU Yv:=
 ac (ag (aa wj ae)) IX (J6 rfl)
def H3:TQ dq qZ (SB V12):=
 ac (ag (aa qhB (aa Dm (aa Ki ae)))) GN (HD rfl rfl rfl)
def XO:TQ dq El (qdr V12):=
 ac (ag (aa H3 (aa Al ae))) Vz (Xw rfl rfl)
def N7:TQ dq xi YE:=
 ac (ag (aa XH (aa de ae))) MZ (qhs rfl rfl)
def qbq:TQ dq He qiL:=
 ac (ag ae) Y3 (qa4)
def qfs(a:¬dq):TQ dq zA Sx:=
 ac (ag (aa qfz (aa (FJ a) (aa XO (aa qbq (aa qbk ae)))))) Ps (qfi rfl rfl rfl rfl rfl qoY)
end
section
open Go.Proofs
def qEX(r:Rn)(y:Pat)(s t:St3)(i:Int):Prop:=∃a:St3,a.p=i/\s.p<=i/\i<t.p/\i<r.en/\Kj r y a=some true
def SD(r:Rn)(p:Pat):Prop:=∀s t,pM r p s t->t.p -s.p<=10000->∀(d leaf:Int) (x:Span),SrcE p d leaf x->∃y,(aq p)[(x.b -leaf).toNat]? =some y/\leaf<=x.b/\qEX r y s t (s.p+ (x.e -d))
def qkU{r:Rn}{p:Pat}{s t:St3}(h:pM r p s t):s.p<=t.p:=by
 rcases D8 r p s t h with rfl|h
 ·exact qGD _
 ·omega
def qoD{r:Rn}{ks:List Pat}{s t:St3}(h:zZ r ks s t):s.p<=t.p:=by
 rcases E8 r ks s t h with rfl|h
 ·exact qGD _
 ·omega
theorem Yc{r:Rn} :∀(ks:List Pat),(∀k∈ks,SD r k/\WD r k/\dG (aO k))->∀s t,zZ r ks s t->t.p -s.p<=10000->∀(d leaf:Int) (x:Span),pK ks d leaf x->∃y,(ks.flatMap aq)[(x.b -leaf).toNat]? =some y/\leaf<=x.b/\qEX r y s t (s.p+ (x.e -d))
 | [],_,s,t,_,_,d,leaf,x,h=>by rw[pK]at h;exact h.elim
 | k::ks,hk,s,t,l,hl,d,leaf,x,h=>by
   rw[pF]at l;obtain⟨u,a,b⟩:=l;have la:=qkU a;have lb:=qoD b;obtain⟨q,A,C⟩:=hk k (by simp);rw[pK]at h;rw[qGf];rcases h with h|⟨E,h⟩
   ·obtain⟨y,c,h0,j,e,h1,h2,h3,h4⟩:=q s u a (by omega) d leaf x h;refine⟨y,?_,h0,j,e,h1,by omega,h3,h4⟩;rw[qGc (qFB.1 c).1];exact c
   ·have w:=A s u a;unfold WB at w;unfold dG at C;have F:u.p=s.p+ (aO k).1:=by omega
    obtain⟨y,c,h0,j,e,h1,h2,h3,h4⟩:=Yc ks (λz hz=>hk z (by simp[hz])) u t b (by omega) _ _ x h;have he:u.p+ (x.e - (d+ (aO k).1))=s.p+ (x.e -d):=by omega
    rw[he]at e h1 h2 h3;refine⟨y,?_,by omega,j,e,by omega,h2,h3,h4⟩;rw[qF4 (by omega)];rw[show(x.b -leaf).toNat - (aq k).length=(x.b - (leaf+ ((aq k).length:Int))).toNat by omega];exact c
theorem qnc{r:Rn}{v:B->Bool}(p:Pat):fy v p=true->SD r p:=by
 induction p using fg with|_ p A=>?_
 intro hp s t j hl d leaf x h;rw[bc];rcases mA (cH hp).1 with⟨ho,_⟩|⟨ho,_⟩|⟨ho,k,ks,hk⟩|⟨ho,k,hk⟩
 ·rw[qfF ho]at h;subst h;obtain⟨h1,h2,h3⟩:=(qes ho s t).1 j;have N:t.p=s.p+1:=by
   have w:=Wp p hp s t j;rw[Xe ho]at w;unfold WB at w;simp only at w;omega
  rw[if_pos ho];exact⟨p,by simp,qGD _,s,by simp,by simp,by simp only;omega,by simp only;omega,h2⟩
 ·exact absurd h (qbI (by omega) _ _ _)
 ·by_cases h4:p.op=4
  ·rw[qfE h4]at h;rw[if_neg (by omega)];exact Yc p.kids (λz hz=>⟨A z hz (dX hp hz),Wp z (dX hp hz),tu z (dX hp hz)⟩) s t ((qkV h4 s t).1 j) hl d leaf x h
  ·exact absurd h (qbI (by omega) _ _ _)
 ·rw[qhZ ho hk]at h;obtain⟨i,h0,h1,h2,h3⟩:=h;rw[if_neg (by omega),hk];have l:k∈p.kids:=by rw[hk];simp
  have c:=dX hp l;have wd:WD r k:=Wp k c;rw[qer ho hk]at j;obtain⟨u,a,n,_,b⟩:=j;have O:u.p<=t.p:=by
   have:=JR (λs t q=>wd s t q.1) n u t b;omega
  have hm:p.mn.toNat=i.toNat+ (1+ (p.mn.toNat -i.toNat -1)):=by omega
  rw[hm]at a;obtain⟨v,a1,a2⟩:=Ku a;obtain⟨w,a2,a3⟩:=Ku a2;obtain⟨w',a2,e⟩:=a2;have e:w'=w:=e;subst e;have C:=JR wd _ s v a1;have Q:=JR wd _ w' u a3;have S:=qkU a2;have ok:=tu k c;unfold dG at ok;rw[Int.toNat_of_nonneg h0]at C;have U:v.p=s.p+i* (aO k).1:=by
   rcases h2 with rfl|h2
   ·have a1:s=v:=a1;subst a1;simp
   ·rw[<-h2]at C;rw[Int.mul_comm i];omega
  obtain⟨y,E,I,J,e,K,L,F,M⟩:=A k l c v w' a2 (by omega) _ _ x h3;have he:v.p+ (x.e - (d+i* (aO k).1))=s.p+ (x.e -d):=by omega
  rw[he]at e K L F;refine⟨y,?_,I,J,e,by omega,by omega,F,M⟩;rw[qGf];rw[qGc (qFB.1 E).1];exact E
def qjF{c:Corpus}{x:Cond}{i:Int}{n:Nat}(h:∃k:Nat,k<n/\i=k/\nJ ⟨c,k, [], []⟩ 21 (iQ x)=some true):i∈Rw c x n:=by
 obtain⟨k,hk,rfl,a⟩:=h;exact qFL.2 ⟨k,qGA.2 ⟨qGQ.2 hk,by rw[a];rfl⟩,rfl⟩
theorem qjI{n:Nat}{c:Corpus}{q:Qry}(hc:TP c)(l:GQ n q)(hn:n<=5){m:cb}(h:qha c (aZ q.pat []) q.pat m){x:Span}(w:SrcE q.pat 0 0 x):
 ∃t y,qhH c m.b=some t/\(aq q.pat)[x.b.toNat]? =some y/\0<=x.b/\0<=x.e/\m.b+x.e<t.e/\m.b+x.e<c.toks.length/\m.b+x.e∈If c y.cond:=by
 obtain⟨lb,hl,K⟩:=l.lab;have d:fy aB q.pat=true:=qc6 hl qhy n q.pat K (by omega);obtain⟨k,L⟩:=qef l;obtain⟨h0,h1,t,A,s,hs,h2,_,_⟩:=h;have a:(Kt c (aZ q.pat []) t).en=min t.e c.toks.length:=rfl;have M:=List.find?_some A;simp only[qFJ,decide_eq_true_eq]at M;have r:qaX (Kt c (aZ q.pat []) t).en (qfA m.b):=⟨h0,by show m.b<=_;rw[a];omega,λi=>by
  have:0<=(Kt c (aZ q.pat []) t).en:=by rw[a];omega
  rcases i with _|_|i<;>exact⟨qGD 0,this⟩⟩
 have hk:=(BI _ _ _ _ hs r).2.1;rw[a]at hk;have C:=hc.few;have E:(qfA m.b).p=m.b:=rfl;have N:=UQ q.pat d 0 0 x w;obtain⟨y,F,hb,j,es,O,I,u,Q⟩:=qnc q.pat d _ _ hs (by rw[E];omega) 0 0 x w;rw[E]at es O I u;rw[a]at u;rw[show m.b+ (x.e -0)=m.b+x.e by omega]at es I u;refine⟨t,y,A,by simpa using F,hb,N.2.2.1,by omega,by omega,?_⟩;have J:=l.cond y (qFF F);rw[<-k]at J;have S:JM ⟨c,j.p,aZ q.pat [],WC (Kt c (aZ q.pat []) t) j⟩:=⟨hc.ok,by show 0<=j.p;omega,by show j.p<c.toks.length;omega,qeL _ j⟩
 have U:=qog S J (by decide) Q;refine qjF ⟨j.p.toNat,by omega,by omega,?_⟩;rw[Int.toNat_of_nonneg (by omega)];exact U
open Cod (enc dec)
variable {S S0:Nat->Spc}
theorem TI{a b:Int}{t:xX} :∀{l:List xX} {s e:Int},ER s l e->l.find? (λt=>decide (t.b<=a) && decide (a<t.e))=some t->a<=b->b<t.e->fe l (Zv a)=fe l (Zv b)
 | [],_,_,_,h,_,_=>by cases h
 | u::l,s,e,hc,h,c,hb=>by
   rw[List.find?_cons]at h;rw[fe,fe];by_cases d:u.b<=a/\a<u.e
   ·rw[show(decide (u.b<=a) && decide (a<u.e))=true by simp[d]]at h;cases h;rw[if_pos (by simp[Zv];omega),if_pos (by simp[Zv];omega)]
   ·rw[show(decide (u.b<=a) && decide (a<u.e))=false by simp;omega]at h;have h2:=List.find?_some h;simp only[qFJ,decide_eq_true_eq]at h2;have h3:=(Lg hc.2.2 _ (List.mem_of_find?_eq_some h)).1;have h4:=hc.2.1;have j:Zv a u=false:=by simp only[Zv,decide_eq_false_iff_not];omega
    have k:Zv b u=false:=by simp only[Zv,decide_eq_false_iff_not];omega
    rw[j,k,TI hc.2.2 h c hb]
def qBk{n:Nat}{c:Corpus}{q:Qry}(p:qaH c)(hc:TP c)(r:GQ n q)(hn:n<=5){F s:List Span}(u:SrcsOf q.pat F)(d:qc1 F s){m:cb}(h:qha c (aZ q.pat []) q.pat m):m.b∈qlw c q s:=by
 obtain⟨h0,h1,t,j,w⟩:=id h;have A:=List.find?_some j;simp only[qFJ,decide_eq_true_eq]at A;have hlen:m.b<c.toks.length:=by
  obtain⟨K,hs,h2,_,_⟩:=w;omega
 refine qGA.2 ⟨PB.2 ⟨h0,hlen⟩,qFI.2 λx C=>?_⟩;obtain⟨k,hk⟩:=List.getElem?_of_mem C;obtain⟨t',y,a,E,L,M,I,N,J⟩:=qjI hc r hn h ((u.2 x).1 (d k x hk).1);rw[j]at a;cases a;have l:Zs q x.b=y.cond:=by unfold Zs;rw[E];rfl
 unfold YU;rw[l];simp only[qFJ,decide_eq_true_eq];exact⟨J,TI p.1 j (by omega) I⟩
theorem Uv(h1:S We=s_m_New)(h2:S uQ=s_m_Corpus)(h3:S xg=OI)(h4:S tK=UW V12)(h5:S xi=YE)(h6:S zA=Sx)(h7:S uO=qiu WJ):
 ak nt mU S (a3 (List Int) (List Int) (List Int)) (λ_=>True) (enc (X:=Bool)) λ_ y=>y=true:=by
 rintro⟨l,m,n⟩ -;simp[nt,mU,h1,h2,h3,-fB',-eB'];refineλc C hk hl L q t b1 b2=>?_
 have hc:TP c:=⟨qrq C hk,by omega⟩
 have hM:qaS WJ c q:=Zk hc t (by show 3<=5;decide);have Q:yI V12 c q:=qaA hc t (by show 3<=5;decide);have E:=(QC hc t (by show 3<=5;decide)).2;have I:∀L,qmd (L,q):=λ_=>⟨Q.fx,E⟩
 have U:=hc.few;clear h1 h2 h3 hk hl;simp[h4,h5,I,-fB',-eB'];intro s hs;have J:qeX V12 (c,q,s):=⟨Q,by show s.length<=100000;omega⟩
 refine⟨J,λa e r=>?_⟩;obtain⟨F,W,r⟩:=r;rcases r with⟨h,u⟩|⟨h,_⟩
 rotate_left
 ·cases h;simp[h6,-fB',-eB']
 have K:a=qlw c q s:=congrArg (·.1) h;obtain rfl:e=0:=congrArg (·.2) h;have Y:a.length<=c.toks.length:=by rw[K];exact qGg (List.length_filter_le _ _) (by rw[qiX];exact qFH _)
 have d:=λm h=>qBk (m:=m) C hc t (by show 3<=5;decide) W u h
 rw[<-K]at d;clear h K u W C t;simp[h7,hM,-fB',-eB'];intro x f r;have w:(∀m∈x,m.b∈a)/\x.length<=4096/\(f=0\/f=2):=by
  rcases r with⟨A,w,hl⟩|⟨A,Z,_⟩
  ·exact⟨λm hm=>d m ((w.2 m).1 hm),hl, .inl A⟩
  ·simp only at A Z;subst A;subst Z;exact⟨by simp,by simp, .inr rfl⟩
 clear r d;obtain⟨w,hxl,hf⟩:=w;intro v hal;refine ah (X:=List Int) [12,13,14,50] [] a.length (λk ks=>∀i,i∈ks↔i∈a.take k) (λ_=>[]) (λks=>[(49, .mrow v (aW ks))]) [] (by simp) ?_ ?_ (hh:=by simp;exact .inl rfl)
 ·rintro k ks hk p;obtain⟨i,hi⟩:=eK hk;obtain⟨_,M⟩:=qFB.1 hi;simp[hk,hi,M,-fB',-eB'];exact Ux (X:=Int) Jf rfl ⟨ye i ks,λj=>by rw[fU,p,av hi];simp[or_comm], .inl rfl⟩
 rintro ks p;rw[qFT]at p;simp[-fB',-eB'];intro hxl2;refine ah (X:=Unit) [13,14,59] [49] x.length (λ_ _=>True) (λ_=>[]) (λ_=>[]) () trivial ?_ ?_
 ·rintro k -hk -;obtain⟨m,hm⟩:=eK hk;obtain⟨_,N⟩:=qFB.1 hm;have O:m.b∈ks:=(p _).2 (w m (qFF hm));simp[hk,hm,N,O,-fB',-eB']
 ·rintro - -;rcases hf with rfl|rfl<;>simp[h6,-fB',-eB']
end
section
open Go.Proofs Cod
variable {dq:Prop}
def X4(a:¬dq):TQ dq xj qus:=
 ac (ag (aa qna (aa MH (aa N6 (aa (FJ a) (aa N7 (aa (qfs a) (aa qfR ae)))))))) Fw (Uv rfl rfl rfl rfl rfl rfl rfl)
end
section
open Go.ChangeShapes Go.WideShapes Go.ChangeAt Go.RowKit
section
variable {H:Type}{ec:TypeId×Value->H}{P:Program}{w:World}{base:Nat}{spare:Nat->Bool}{held:Bool}{tp I:Nat->Prop}
def OpR(tp I:Nat->Prop)(w:World)(cs:List Value)(d:D):Prop:=cs.length=d.cells.length/\∀(k:Nat) (y:Value) (c:D),cs[k]? =some y->d.cells[k]? =some c->y.oneCell'=true/\R tp I w y c
def OpR.one{y:Value}{d:D}(h:OpR tp I w [y] d)(a:d.cells=[d]):R tp I w y d:=(h.2 0 y d rfl (by rw[a];rfl)).2
def qb6{t:TypeId}{fuel:Nat}{cs:List Value}{x:DataW H×List MemPlace}(a:P.underlying t=some (.int .i64))(h:DataW.trod ec P w base spare held fuel t cs=some x):∃n:Int,OpR tp I w cs (Cod.enc n):=by
 obtain⟨n,rfl,_,_⟩:=DataW.trod_int a h;refine⟨n,rfl,λk y c h1 h2=>?_⟩;cases k with
 |zero=>cases h1;cases h2;exact⟨rfl, .v _ rfl (λs h=>by cases h)⟩
 |succ k=>simp at h1
theorem O6{Y:Type}[Cod Y]{t e:TypeId}(ht:P.underlying t=some (.slice e))(hc:P.cellsOf e=Cod.wd Y)(h0:0<Cod.wd Y)
 (O:∀(n:Nat) (cs:List Value) (x:DataW H×List MemPlace),DataW.trod ec P w base spare held n e cs=some x->∃y:Y,OpR tp I w cs (Cod.enc y)) (hI:∀b,b<w.heap.size->I b)
 {fuel:Nat} {cs:List Value} {x:DataW H×List MemPlace} (h:DataW.trod ec P w base spare held fuel t cs=some x) (Q:Cod.wd Y=1:=by rfl):∃l:List Y,OpR tp I w cs (Cod.enc l):=by
 have one:∀(v:Value) (l:List Y),v.oneCell'=true->R tp I w v (.list (Cod.wd Y) (l.map Cod.enc))->OpR tp I w [v] (Cod.enc l):=λv l h1 h2=>⟨rfl,λk y c e1 e2=>by
  cases k with
  |zero=>cases e1;cases e2;exact⟨h1,h2⟩
  |succ k=>simp at e1⟩
 rcases DataW.trod_slice ht h with⟨rfl,_⟩|⟨a,len,cap,S,rest,n,_,rfl,_,_,hl,hm,hlen,C,_⟩
 ·exact⟨[],one _ [] rfl (.nolist none 0 _)⟩
 ·by_cases hz:len=0
  ·subst hz;exact⟨[],one _ [] rfl (.nolist (some a) cap _)⟩
  ·have each:∀i:_root_.Fin len,∃p:List Value×Y,w.cells? base (a.add (i*P.cellsOf e)) (P.cellsOf e)=some p.1/\OpR tp I w p.1 (Cod.enc p.2):=λi=>by
    have h1:=C i i.2;rw[qFC (by omega)]at h1;obtain⟨cs',h2,h3⟩:=qFA.1 h1;obtain⟨y,hy⟩:=O n cs' _ h3;exact⟨(cs',y),h2,hy⟩
   obtain⟨g,hg⟩:=qHY each;obtain⟨b,off,spot⟩:=a;have cellAt:∀(i:_root_.Fin len) (j:Nat),j<Cod.wd Y->∃v,(g i).1[j]? =some v/\w.cell? ((Addr.add ⟨b,off,spot⟩ (i*Cod.wd Y)).add j)=some v:=λi j N=>by
    have h1:=World.cells?_some (hg i).1;have h2:=h1.2.2 j (by rw[hc];exact N);have h3:j<(g i).1.length:=by rw[h1.2.1,hc];exact N
    refine⟨(g i).1[j],qFC h3,?_⟩;rw[hc]at h2;rw[h2,qFC h3]
   have hs:spot=none:=by
    obtain⟨v,_,h2⟩:=cellAt ⟨0,by omega⟩ 0 h0;have:=World.cell?_spot h2;simpa [Addr.add]using this
   subst hs;have s:∀(o n:Nat),Addr.add ⟨b,o,none⟩ n=⟨b,o+n,none⟩:=λo n=>by
    unfold Addr.add;split
    ·rename_i e;subst e;rfl
    ·rfl
   have r:∀(i:_root_.Fin len) (j:Nat),j<Cod.wd Y->∃v,(g i).1[j]? =some v/\w.cell? ⟨b,off+ (i*Cod.wd Y+j),none⟩=some v:=λi j N=>by
    obtain⟨v,h1,h2⟩:=cellAt i j N;refine⟨v,h1,?_⟩;rw[s,s]at h2;rw[<-qHR];exact h2
   have hb:b<w.heap.size:=by
    obtain⟨v,_,h2⟩:=r ⟨0,by omega⟩ 0 h0;unfold World.cell? at h2;by_cases E:b<w.heap.size
    ·exact E
    ·simp only[qGI (Nat.le_of_not_lt E)]at h2;cases h2
   let es:List Y:=List.ofFn λi=>(g i).2
   have u:es.length=len:=by simp[es]
   have F:∀i:_root_.Fin len,(es.map Cod.enc)[(i:Nat)]? =some (Cod.enc (g i).2):=λi=>by
    rw[qFP];have:es[(i:Nat)]? =some (g i).2:=by simp[es]
    rw[this];rfl
   have U:∀d∈es.map Cod.enc,d.kn=true/\d.cells.length=Cod.wd Y:=λd J=>by
    obtain⟨y,_,rfl⟩:=qFL.1 J;exact⟨Cod.kn y,Cod.wid y⟩
   have q:∀(k:Nat) (c:D),(bp (es.map Cod.enc))[k]? =some c->∃v,w.cell? ⟨b,off+k,none⟩=some v/\v.oneCell'=true/\R tp I w v c:=λk c hk=>by
    have K:=(qFB.1 hk).1;rw[bh (λd J=>(U d J).2),qGl,u]at K;have L:k=(k/Cod.wd Y) *Cod.wd Y+k % Cod.wd Y:=by have:=qGW k (Cod.wd Y);rw[qHw]at this;omega
    have A:k % Cod.wd Y<Cod.wd Y:=qG3 _ h0;have W:k/Cod.wd Y<len:=qHL (by rw[qHw];exact K);have Z:=dY (es:=es.map Cod.enc) (λd J=>(U d J).2) (i:=k/Cod.wd Y) A;rw[<-L,hk,F ⟨k/Cod.wd Y,W⟩]at Z;simp only[qFW]at Z;obtain⟨v,h1,h2⟩:=r ⟨k/Cod.wd Y,W⟩ (k % Cod.wd Y) A;simp only at h2;rw[<-L]at h2;exact⟨v,h2,(hg ⟨k/Cod.wd Y,W⟩).2.2 _ v c h1 Z.symm⟩
   have hR:R tp I w (.slice (some ⟨b,off,none⟩) len cap) (.list (Cod.wd Y) (es.map Cod.enc)):=by
    have M:(es.map (Cod.enc (X:=Y))).length=len:=by simp[u]
    rw[<-M];have rd:∀(k:Nat) (c:D),(bp (es.map Cod.enc))[k]? =some c->w.cell? ⟨b,off+k,none⟩=some ((w.cell? ⟨b,off+k,none⟩).getD Go.undef):=λk c hk=>by
     obtain⟨v,h1,_⟩:=q k c hk;rw[h1];rfl
    refine .list b off cap _ (es.map Cod.enc) (λk=>(w.cell? ⟨b,off+k,none⟩).getD Go.undef) (hI b hb) (by rw[M];exact hl) hm (λh=>absurd Q h) U rd (λk c hk=>?_) (λk c hk=>?_)
    ·obtain⟨v,h1,h2,_⟩:=q k c hk;rw[h1];exact h2
    ·obtain⟨v,h1,_,h2⟩:=q k c hk;rw[h1];exact h2
   exact⟨es,one _ es rfl hR⟩
end
variable {dq:Prop}
section
variable {H:Type}{ec:TypeId×Value->H}{P:Program}{w:World}{base:Nat}{spare:Nat->Bool}{held:Bool}{tp I:Nat->Prop}
end
abbrev quP(w:World):Nat->Prop:=aR (λ_=>False) (λ_=>False) bS w
def qca{w:World}{b:Nat}(h:b<w.heap.size):quP w b:=⟨h,λh=>h,λh=>h,λ⟨i,r,h,_⟩=>by simp[bS]at h⟩
end
section
open Go.ChangeShapes Go.WideShapes Go.ChangeAt Go.RowKit
section
variable {H:Type}{ec:TypeId×Value->H}{P:Program}{w:World}{base:Nat}{spare:Nat->Bool}{held:Bool}{tp I:Nat->Prop}
end
open Cod (enc dec)
instance:Cod UInt8 where
 wd:=1
 enc n:= .v (.int .u8 n.toNat)
 dec| .v (.int .u8 n)=>if 0<=n/\n<=255 then some (UInt8.ofNat n.toNat)else none|_=>none
 kn _:=rfl
 wid _:=rfl
 dec_enc n:=by
  have:=n.toNat_lt;simp only;rw[if_pos (by omega)];congr 1;rw[qHU,UInt8.ofNat_toNat]
 le d x h:=by
  split at h
  ·split at h
   ·rename_i n hn;cases h;have e:((UInt8.ofNat n.toNat).toNat:Int)=n:=by
     rw[qHh];omega
    show FrzTo bS _ (.v (.int .u8 ((UInt8.ofNat n.toNat).toNat:Int)));rw[e];exact .same _
   ·cases h
  ·cases h
variable {dq:Prop}
section
variable {H:Type}{ec:TypeId×Value->H}{P:Program}{w:World}{base:Nat}{spare:Nat->Bool}{held:Bool}{tp I:Nat->Prop}
end
theorem qcj{P:Program}{f:Nat}{X:Type}{A:dP X}{p:X->Prop}{q:X->Bool->Prop}(h:Tri dq P f (aG A p (Cod.enc (X:=Bool)) q).pt)(l:∀x y,q x y->y=true){w:World}{vs:List Value}{ds:List D}{x:X}(hp:p x)(hlen:vs.length=ds.length)
 (t:∀(k:Nat) (y:Value) (c:D),vs[k]? =some y->ds[k]? =some c->R (λ_=>False) (quP w) w y c) (a:A.dec ds=some x) (u:GlW (λ_=>False) (λ_=>False) w):
 Calls P f vs.toArray w λe w'=>e= .returned (.bool true)/\Below w.heap.size w w':=by
 obtain⟨_,hc⟩:=h (λ_=>False) (λ_=>False) w vs ds bS 0 (λr H'=>r= .v (.bool true)) (λb h=>h.elim) ⟨λb h=>h.elim,u.mono (λ_ h=>h) (λb ⟨i,r,h,_⟩=>by simp[bS]at h)⟩
  ⟨λi j r s b h=>by simp[bS]at h,λi r b h=>by simp[bS]at h,λi r h=>by simp[bS]at h⟩ hlen t
  (by rw[mO,a];exact⟨hp,λy C=>by rw[l x y C];rfl⟩)
 refine hc.mono ?_;rintro e w' ⟨v,r,H',E,rfl,F,_,_,_,hs,_,_,J⟩;subst F;have d:=J.inv_v;subst d;exact⟨rfl,hs.os,hs.tape,hs.output,hs.size,λk hk=>hs.same k hk (λ⟨i,r,h,_⟩=>by simp[bS]at h) (λh=>h)⟩
end
end Go.Gv
