/- W222 -/
import Derived.Ground.GgzProg
import Derived.Test.YtfpmgnnippjblaaGreatDoorProg
import Derived.Test.YtfpmgnnippjblaaGreatDoorGb25
set_option linter.all false
set_option maxRecDepth 100000
set_option maxHeartbeats 0
open Bool renaming forall_bool → fB', exists_bool → eB'
namespace Go.Gv
section
open Cod (enc dec)
variable {S S0:Nat->Spc}
def Mn(h1:S mV=de)(h2:S dE=s_leavesQ):aq tO tj S (a1 Pat) (λx=>qha x []) (enc (X:=List Pat)) λx y=>y=if eP ax x then bA x else[]:=by
 rintro p hp;have hp:qha p []:=hp;simp[tO,tj,h1,h2,hp,-fB',-eB'];clear h1 h2;exact⟨λh=>aM [] (by simp) (by rw[h];rfl),λh=> .inl λv=>aM (bA p) (fM bL (by simp)) (by rw[h];rfl)⟩
abbrev Y5:Spc:=ay (a2 Corpus Cond) Jz (io (Y:=Int) (Z:=Int)) λz y=>y=(((zL z.1 z.2).length:Int),0)
def JX(h1:S iY=qiI):aq qm pb S (a2 Corpus Cond) Jz (io (Y:=Int) (Z:=Int)) λz y=>y=(((zL z.1 z.2).length:Int),0):=by
 rintro⟨c,x⟩ a;simp[qm,pb,h1,a,-fB',-eB']
def fj(c:Corpus)(q:Qry):List Int:=(am q.pat).map λx=>((zL c x.cond).length:Int)
abbrev Sx(V:List Attr->Qry->Prop):Spc:=ay (a2 Corpus Qry) (λz=>wW V z.1 z.2) (io (Y:=List Int) (Z:=Int)) λz y=>y=(fj z.1 z.2,0)
theorem Hd{V:List Attr->Qry->Prop}(h1:S fq=HU V)(h2:S pJ=uH)(h3:S rh=Y5):aq nO nB S (a2 Corpus Qry) (λz=>wW V z.1 z.2) (io (Y:=List Int) (Z:=Int)) λz y=>y=(fj z.1 z.2,0):=by
 rintro⟨c,q⟩ d;have d:wW V c q:=d;have r:V c.attrs q:=d.v;have hlen:(bA q.pat).length=(am q.pat).length:=by unfold bA;simp
 have s:(am q.pat).length<=100000000:=by have:=d.pl.1;simpa using this
 simp[nO,nB,h1,h2,r,d.pat,d.pl,-fB',-eB'];intro t;refine ah (X:=Value×List Int) [2,21] [] (bA q.pat).length (λk z=>z.2=(fj c q).take k) (λz=>[(7, .own 40 z.1)]) (λz=>[(40, .row z.1 bC 1 (z.2.map enc))]) (.slice none 0 0, []) (by simp) ?_ ?_ (hh:=by simp[isNilRow])
 ·rintro k ⟨v,z⟩ hk hz;have hz:z=(fj c q).take k:=hz;obtain⟨a,l⟩:=aQ (show k<(am q.pat).length by omega);have p:(bA q.pat)[k]? =some (mC a):=by unfold bA;rw[qF6,l];rfl
  obtain⟨u,h⟩:=qFN.1 p;have b:Jz (c,(mC a).cond):=d.sel a (qFP l);have j:(fj c q)[k]? =some (((zL c (mC a).cond).length:Int)):=by unfold fj;rw[qF6,l];rfl
  have w:z.length=k:=by rw[hz,qGd];unfold fj;rw[qGm];omega
  generalize x:mC a=A at p h b j;simp[hk,p,h,h3,b,-fB',-eB'];refine⟨by omega,by omega,λv'=> .inl ?_⟩;rw[hz,<-List.map_take,au j];simp
 ·rintro⟨v,z⟩ hz;have hz:z=(fj c q).take (bA q.pat).length:=hz;have:z=fj c q:=by rw[hz,qGt];unfold fj;rw[qGm];omega
  subst this;simp[-fB',-eB'];exact fM bC (by simp[aj])
def lB(n:List Int):List Span->List Span->List Span
 |out, []=>out
 | out,s::l=>lB n (match out with
   | []=>[s]
   |o::_=>if(n[s.b.toNat]?).getD 0<(n[o.b.toNat]?).getD 0 then[s]else out) l
def GM(n:List Int):∀(l out:List Span) (s:Span),lB n out (l++ [s])=lB n (lB n out l) [s]
 | [],out,s=>rfl
 | a::l,out,s=>by
   show lB n _ (l++ [s])=lB n (lB n _ l) [s];exact GM n l _ s
def Lt(z:Corpus×Qry)(y:List Span×Int):Prop:=∃F,SrcsOf z.2.pat F/\y=(lB (fj z.1 z.2) [] F,0)
abbrev UM(V:List Attr->Qry->Prop):Spc:=ay (a2 Corpus Qry) (λz=>wW V z.1 z.2) (io (Y:=List Span) (Z:=Int)) Lt
theorem XT{V:List Attr->Qry->Prop}(h1:S pN=Sx V)(h2:S lP=qw):aq Bb Ai S (a2 Corpus Qry) (λz=>wW V z.1 z.2) (io (Y:=List Span) (Z:=Int)) Lt:=by
 rintro⟨c,q⟩ d;have d:wW V c q:=d;have y:np q.pat:=d.fx;have Q:=d;simp[Bb,Ai,h1,h2,d,y,-fB',-eB'];intro F j I;have j:SrcsOf q.pat F:=by
  have j:eA q.pat F:=j;unfold eA at j;rwa [if_pos ⟨d.pat,d.size⟩]at j
 have J:(fj c q).length=(am q.pat).length:=by unfold fj;simp
 have p:∀s∈F,0<=s.b/\s.b<(fj c q).length:=λs hs=>by
  obtain⟨U,W,r3,r4⟩:=UF q.pat d.pat 0 0 s ((j.2 s).1 hs);omega
 refine ah (X:=List Span) [6,22] [] F.length (λk z=>z=lB (fj c q) [] (F.take k)/\z.length<=1/\∀s∈z,s∈F) (λz=>[(8, .list 2 (z.map enc))]) (λ_=>[]) [] ⟨rfl,by simp,by simp⟩ ?_ ?_
 ·rintro k z hk ⟨hz,A,r⟩;obtain⟨x,l⟩:=aQ hk;obtain⟨_,t⟩:=qFN.1 l;obtain⟨K,L⟩:=p x (qFP l);obtain⟨nx,u⟩:=aQ (show x.b.toNat<(fj c q).length by omega);obtain⟨_,C⟩:=qFN.1 u;have a:lB (fj c q) [] (F.take (k+1))=lB (fj c q) z [x]:=by rw[au l,GM,<-hz]
  clear hz;cases z with
  | nil=>
    simp[hk,l,t,a,lB,-fB',-eB'];exact⟨[x],⟨rfl,by simp,λs hs=>by simp at hs;subst hs;exact qFP l⟩,by simp⟩
  | cons o M=>
    have:M=[]:=by simpa using A
    subst this;obtain⟨N,O⟩:=p o (r o (by simp));obtain⟨no,w⟩:=aQ (show o.b.toNat<(fj c q).length by omega);obtain⟨_,E⟩:=qFN.1 w;simp[hk,l,t,u,C,w,E,K,L,N,O,a,lB,-fB',-eB'];have mx:∀s∈ [x],s∈F:=λs hs=>by simp at hs;subst hs;exact qFP l
    exact⟨λh=>⟨[x],⟨by rw[if_pos h],by simp,mx⟩,by simp⟩,λh=>⟨[o],⟨by rw[if_neg (by omega)],by simp,r⟩,by simp⟩⟩
 ·rintro z ⟨hz,_,_⟩;rw[qFX]at hz;simp[-fB',-eB'];exact⟨z, .same _,F,j,by rw[hz]⟩
def qbh(p:Pat)(y:List Span):Prop:=eA p y/\y.length<=kE p
abbrev HS:Spc:=ay (a1 Pat) np (enc (X:=List Span)) qbh
def TS(h1:S fY=de)(h2:S Gm=FG)(h3:S sE=HQ):aq AT zQ S (a1 Pat) np (enc (X:=List Span)) qbh:=by
 rintro p ⟨b,a⟩;simp[AT,zQ,h1,h2,h3,-fB'];clear h1 h2 h3;refine⟨λh=>?_,λh=>aM [] (by simp) ⟨by unfold eA;rw[if_neg (by rw[h];simp)],qGb _⟩⟩;rw[if_pos h];refine⟨λh2=>aM [] (by simp) ⟨by unfold eA;rw[if_neg (by omega)],qGb _⟩,λh2=>⟨⟨dK p,⟨qFU _,h⟩,qGT _,by show(0:Int) +200000* (cX p:Int)<=_;omega,qGT _,by show(0:Int) + (cX p:Int)<=_;omega,SS.nil,by show([]:List Span).length+_<=_;simpa using a⟩,?_⟩⟩;rintro y ⟨c1,c2,c3⟩;refine aM y (by simp) ⟨?_,by simpa using c3⟩;unfold eA;rw[if_pos ⟨h,h2⟩];exact⟨c1,λs=>by rw[c2 s];simp⟩
end
section
open Cod (enc dec)
open Go.Proofs Go.Sort Go.Shelf Go.Lib Go.RowKit
variable {dq:Prop}
section
variable {P:Program}{ρ:Ren}{X:Type}[Cod X][Inhabited X]
def qws(g:Nat)(x:D×Unit)(l:List X):Prop:=x.1= .clo g []/\l.length<=100000
def qlF(cf:X->X->Int)(_:D×Unit)(l r:List X):Prop:=r=l.mergeSort λx y=>!(ltOf cf) y x
theorem qlc(hTb:sv=[]){g:Nat}{cf:X->X->Int}(ev:X->List Value)(l:∀x,enc x=D.agg ((ev x).map D.v))(a:∀x,∀v∈ev x,v.oneCell'=true/\∀s,v= .string s->s.size<=maxLen)
 (A:Tri True P g (ay (a2 X X) (λ_=>True) (enc (X:=Int)) λx y=>y=cf x.1 x.2).pt) (blk size k:Nat) (w:World):CmpLays P g #[] ev k cf blk 0 size w:=by
 intro m os C _ x y;generalize sortWorldK ev k w blk 0 m C os=W;have E:∀z,R (λ_=>False) (be (λb=>b<W.heap.size) (λ_=>False) dj W) W (.agg (ev z).toArray) (enc z):=λz=>by
  rw[l z];refine .agg (ev z) _ (by simp) (λv q=>(a z v q).1) λj v c h1 h2=>?_
  rw[qF6]at h2;rw[h1]at h2;cases h2;exact .v v (a z v (qFP h1)).1 (a z v (qFP h1)).2
 obtain⟨_,hc⟩:=A (λb=>b<W.heap.size) (λ_=>False) W [.agg (ev x).toArray, .agg (ev y).toArray] [enc x,enc y] dj 0 (λr H'=>r=enc (cf x y)/\H'=dj) (λb h=>h) ⟨λb h=>h.elim,λp hp=>by grind⟩
  ⟨λi j r s b h=>by simp,λi r b h=>by simp_all,λi r h=>by simp_all⟩ rfl
  (λj v c h1 h2=>by
    grind)
  (by simp)
 refine hc.mono ?_;rintro e w' ⟨v,r,H',d,rfl,⟨rfl,rfl⟩,_,_,_,hs,_,_,q⟩;have t:v= .int .i64 (cf x y):=by
  have:R d (be (λb=>b<W.heap.size) d dj w') w' v (.v (.int .i64 (cf x y))):=q;exact this.inv_v
 subst t;refine⟨rfl,w'.drawn -W.drawn,w'.heap.extract W.heap.size w'.heap.size,?_⟩;have u:w'.heap=W.heap++w'.heap.extract W.heap.size w'.heap.size:=by
  apply Array.ext_getElem?;intro b;by_cases hb:b<W.heap.size
  ·rw[qGF hb];exact hs.same b hb (λ⟨i,r,h,_⟩=>by simp_all) (λh=>h)
  grind
 have h1:=hs.os;have h2:=hs.tape;have h3:=hs.output;have h4:=hs.drawn trivial;have h5:W.drawn+ (w'.drawn -W.drawn)=w'.drawn:=by omega
 cases w';grind [sv,D,Cod.enc,Tri,grow,World.drewN]
theorem Ux(hTb:sv=[]){I g:Nat}{cf:X->X->Int}(L:SlLaysF0.n6 P ρ)(hf:ρ.f 6=I)(ev:X->List Value)(k el:Nat)(hk:∀x,(ev x).length=k)(hev:∀x,enc x=D.agg ((ev x).map D.v))
 (C:∀x,∀v∈ev x,v.oneCell'=true/\∀s,v= .string s->s.size<=maxLen) (aE:∀w,(isAgg (ρ.t 24)).run P w= .ok true w) (zE:∀w,(Go.sizeOf (ρ.t 24)).run P w= .ok k w)
 (hO:SWO (ltOf cf)) (hT:∀x y,(ltOf cf) x y=false->(ltOf cf) y x=false->x=y) (hg:Tri True P g (ay (a2 X X) (λ_=>True) (enc (X:=Int)) λx y=>y=cf x.1 x.2).pt) (eg:dH P g) (ef:dH P I):
 Tri dq P I (qs0 (aD a0) (qws g) (qlF cf) el k).pt:=by
 subst hf;intro O tp w vs ds H d K hO' htl p hlen u hA;obtain⟨id,v,l,ds',x,rfl,hd,hid,⟨hx1,hl5⟩,hK⟩:=hA;have hds:ds'=[.clo g []]:=by
  match ds',hd with
  | [],h=>cases h
  | a::r,h=>
    rw[qsh]at h
    match r,h with
    | [],h=>
      simp at h;grind
    |b::r,h=>cases h
 subst hds
 match vs,hlen,u with
 | [v0,fv],_,u=>
 have e0:v0=v:=by
  have:=u 0 v0 _ rfl rfl;cases this;rfl
 have e1:fv= .func (.func g) #[] #[]:=by
  have:=u 1 fv _ rfl rfl;cases this<;>grind
 subst e0;subst e1;refine⟨ef,?_⟩;obtain⟨xs,⟨hxl,hx⟩,hkn,hcells⟩:=p.ok id _ hid;rcases hx with⟨rfl,h0⟩|⟨E,cap,cur,rfl,_,hgb,hcap,hcapm,hsz,S⟩
 ·have hl0:l=[]:=by grind
  subst hl0;refine(AnyF.slices_SortFunc_none L none 0 _ w).mono ?_;rintro e w' ⟨rfl,rfl⟩;have hH:aj H id (some (.row (.slice none 0 0) el k (([]:List X).map enc)))=H:=by
   grind [aj]
  refine⟨_,_,_,tp,rfl,hK [] (by simp[qlF]),λb h=>h,λb h=> .inl h,htl.1, .refl _ _ _,λb h=> .inl (by grind),by grind, .tup [] [] rfl (λk x c h=>by simp)⟩
 ·have hll:(l.map (enc (X:=X))).length=l.length:=by simp
  rw[hll]at hcap hxl S ⊢;have hval:∀(j:Nat) (y v':Value),xs[j]? =some y->(bq (l.map enc))[j]? =some (.v v')->y=v':=λj y v' h1 h2=>((hcells j y _ h1 h2).2).inv_v
  have hfl:bq (l.map enc)=(l.flatMap ev).map D.v:=by
   unfold bq;rw[List.flatMap_map,List.map_flatMap];congr 1;funext z;rw[hev z];rfl
  have hfml:=Wi (f:=ev) (n:=k) (l:=l) (λx _=>hk x);have hxs:xs=l.flatMap ev:=by
   apply qGx;intro j;by_cases Z:j<l.length*k
   ·have e1:xs[j]? =some xs[j]:=qFQ (by omega);have e2:(l.flatMap ev)[j]? =some (l.flatMap ev)[j]:=qFQ (by omega);rw[e1,e2];congr 1;refine hval j _ _ e1 ?_;rw[hfl,qF6,e2];rfl
   ·rw[qGg (by omega),qGg (by omega)]
  have hcur:∀j,j<l.length*k->cur[j]? =(l.flatMap ev)[j]?:=λj Z=>by
   rw[<-hxs,<-S,qF7,if_pos Z,qGf]
  have hgs:E<w.heap.size:=(qFZ.1 hgb).1;have hH:HoldsK ev k w E 0 l.toArray:=by
   intro j Z;have hj':j<l.length*k:=by simpa using Z
   refine⟨?_,IM hgb⟩;rw[Qb hgb,qGA,hcur j hj',<-PJ ev k hk l,qGf,qGH Z,getElem!_pos _ j Z];rfl
  have J:=AnyQ.slices_SortFunc_total L k aE zE ev hk (λx v hv=>(C x v hv).1) cf hO g #[] E 0 cap l.toArray w eg (qlc hTb ev hev C hg E _ k w) hH hgs (by simp;omega) hT;simp only[qG6]at J;refine J.mono ?_;rintro e w' ⟨rfl,n,os,N⟩;generalize hl':(l.mergeSort λx y=>!(ltOf cf) y x)=Q at N;have A:Q.length=l.length:=by rw[<-hl'];simp
  have hwo:∀b,b<w.heap.size->b≠E->w'.heap[b]? =w.heap[b]?:=λb hb hne=>by
   rw[N];exact SG (w:=Sort.ahead w n) hb hne
  have hthis:w'.heap[E]? =some (.cells (putCells _root_.id 0 (flatK ev k Q.toArray) cur) el (0,0)):=by
   rw[N];exact Zq (w:=Sort.ahead w n) hgb
  have hws:w.heap.size<=w'.heap.size:=by
   rw[N];simp[sortWorldK,grow,putRowK,putRow,mapBlock,Sort.ahead]
  have hos:w'.os=w.os/\w'.tape=w.tape/\w'.output=w.output/\w.drawn<=w'.drawn:=by
   rw[N];exact⟨rfl,rfl,rfl,Nat.le_add_right _ _⟩
  clear N J;have hbo:(Res.row (.slice (some ⟨E,0,none⟩) l.length cap) el k (l.map enc)).blk=some E:=rfl;have q:H id=some (.row (.slice (some ⟨E,0,none⟩) l.length cap) el k (l.map enc)):=by rw[hid,hll]
  have U:bG H E:=⟨id,_,q,hbo⟩
  have htp:∀b,tp b->b≠E:=λb hb e=>(p.out id _ E q hbo).2 (e ▸hb)
  have M:∀b,tp b->TapeStep w w' b:=λb hb=> .same (hwo b (htl.1 b hb) (htp b hb))
  have hK':=hK Q (by simp only[qlF];rw[hl']);rw[hll]at hK';generalize hH2:aj H id (some (.row (.slice (some ⟨E,0,none⟩) l.length cap) el k (Q.map enc)))=H2 at hK';have W:∀b,bG H2 b->bG H b:=λb ⟨i,r,h1,h2⟩=>by
   rw[<-hH2]at h1;simp only[aj]at h1;split at h1
   ·cases h1;cases h2;exact U
   ·exact⟨i,r,h1,h2⟩
  have hmove:∀y c,R tp (be O tp H w) w y c->R tp (be O tp H2 w') w' y c:=λy c hr=>hr.mono (λ_ h=>h) (λb hb=>⟨⟨qF4 hb.1 hws,hb.2.1,hb.2.2.1,λh=>hb.2.2.2 (W b h)⟩,hwo b hb.1 (λe=>hb.2.2.2 (e ▸U))⟩) M
  have F:∀i r,H2 i=some r->(i=id/\r= .row (.slice (some ⟨E,0,none⟩) l.length cap) el k (Q.map enc))\/(i≠id/\H i=some r):=λi r h=>by
   rw[<-hH2]at h;simp only[aj]at h;split at h
   ·rename_i e;cases h;exact .inl ⟨e,rfl⟩
   ·rename_i e;exact .inr ⟨e,h⟩
  refine⟨_,_,H2,tp,rfl,hK',λb h=>h,λb h=> .inl h,λb hb=>qF4 (htl.1 b hb) hws,⟨hos.1,hos.2.1,hos.2.2.1,hws,λb hb ho ht=>hwo b hb (λe=>ho (e ▸U)),M,λ_=>hos.2.2.2⟩,λb h=> .inl (W b h),⟨?_,?_,?_⟩, .tup [] [] rfl (λk x c h=>by simp at h)⟩
  ·intro i j r s b h1 h2 h3 h4;rcases F i r h1 with⟨rfl,rfl⟩|⟨n1,k1⟩
   ·rcases F j s h2 with⟨rfl,rfl⟩|⟨n2,k2⟩
    ·rfl
    ·exact p.dis _ j _ s b q k2 h3 h4
   ·rcases F j s h2 with⟨rfl,rfl⟩|⟨n2,k2⟩
    ·exact p.dis i _ r _ b k1 q h3 h4
    ·exact p.dis i j r s b k1 k2 h3 h4
  ·intro i r b h1 h2;rcases F i r h1 with⟨rfl,rfl⟩|⟨n1,k1⟩
   ·exact p.out _ _ b q h2
   ·exact p.out i r b k1 h2
  ·intro i r h1;rcases F i r h1 with⟨rfl,rfl⟩|⟨n1,k1⟩
   ·have Y:=Wi (f:=ev) (n:=k) (l:=Q) (λx _=>hk x);have hps:(putCells _root_.id 0 (flatK ev k Q.toArray) cur).size=cur.size:=by simp[putCells]
    refine⟨Q.flatMap ev,⟨by simp;rw[<-List.length_flatMap];exact Y, .inr ⟨E,cap,_,by simp[A],qGb _,hthis,by simp;omega,hcapm,by rw[hps,hsz],?_⟩⟩,λd hd=>?_,λj y c h1 h2=>?_⟩
    ·simp only[qGm,A];apply qGx;intro j;rw[qF7];by_cases Z:j<l.length*k
     ·have hjc:j<cur.size:=by
       have:l.length*k<=cap*k:=qGe k hcap;omega
      have hjf:j<(flatK ev k Q.toArray).size:=by simp[A];exact Z
      rw[if_pos Z,qGf,<-PJ ev k hk Q,qGf];simp only[putCells,Array.getElem?_mapIdx,qGH hjc,qHr,qGb,qGA,hjf,and_self,if_true,Nat.sub_zero,id_eq];rw[qGH hjf,getElem!_pos _ j hjf]
     ·rw[if_neg Z,qGg (by rw[Y,A];omega)]
    ·obtain⟨z,_,rfl⟩:=qFV.1 hd;rw[hev z];exact⟨rfl,by simp[D.cells,hk]⟩
    ·have hfl':bq (Q.map enc)=(Q.flatMap ev).map D.v:=by
      unfold bq;rw[List.flatMap_map,List.map_flatMap];congr 1;funext z;rw[hev z];rfl
     rw[hfl',qF6,h1]at h2;cases h2;obtain⟨z,_,hz⟩:=qHE.1 (qFP h1);exact⟨(C z y hz).1, .v y (C z y hz).1 (C z y hz).2⟩
   ·have hne:∀b,r.blk=some b->b≠E:=λb hb e=>n1 (p.dis i id r _ E k1 q (e ▸hb) hbo)
    exact(p.ok i r k1).conv hmove (λb hb=>hwo b ((p.ok i r k1).lt hb) (hne b hb))
end
instance:Inhabited Span:=⟨⟨0,0⟩⟩
def qEm(s:Span):List Value:=[.int .i64 s.b, .int .i64 s.e]
theorem AA(x y:Span):ltOf vJ x y=decide (CW x y):=by
 unfold ltOf;have:=qld x y;grind
def qqe:Go.Sort.SWO (ltOf vJ) where
 irrefl x:=by grind [AA,Nt]
 trans x y z h1 h2:=by grind [AA,KN]
 ntrans x y z h1 h2:=by grind [AA,CW]
def Yr{P:Program}{f:Nat}{X Y:Type}[Cod Y]{A:fN X}{pre j:X->List Y->Prop}{post k:X->List Y->List Y->Prop}{el n:Nat}(h:Tri dq P f (qs0 A pre post el n).pt)(h1:∀x l,j x l->pre x l)(h2:∀x l r,j x l->post x l r->k x l r):
 Tri dq P f (qs0 A j k el n).pt:=λO tp w vs ds H d K a b c e g ⟨id,v,l,p,x,t,u,y,q,C⟩=>h O tp w vs ds H d K a b c e g ⟨id,v,l,p,x,t,u,y,h1 x l q,λs hp=>C s (h2 x l s q hp)⟩
open Go.Proofs Cod
def qlj{p:Cond}(h:bi p<=0):False:=by rw[Bg]at h;omega
def Lv:TQ dq iB yO:=
 ac (ag ae) Ii (Ud)
def qbX:TQ dq rc HX:=
 ac (ag (aa Lv ae)) LT (XO rfl)
def sX:TQ dq aK oq:=
 ac (ag (aa Lv (aa qbX ae))) yY (JP rfl rfl)
def OR:∀n,TQ dq vv (qdO n)
 | 0=>bF λx h=>qlj h
 |n+1=>aY (ag (aa (OR n) ae)) ZD (λ_=>qFR rfl) (qbB n rfl)
def qbV:TQ dq vv qdP:=
 cw (λn=>OR n) (dB (λx _=>⟨bi x.1,qFU _⟩))
def Yl:TQ dq C6 LG:=
 ac (ag (aa qbV ae)) Vi (Xw rfl)
def H8:∀n,TQ dq lM (YS n)
 | 0=>bF λx h=>qcy h.1
 |n+1=>aY (ag (aa Yl (aa (H8 n) ae))) Rm (λ_=>qFR rfl) (TT n rfl rfl)
def Hx:TQ dq lM Ke:=
 cw (λn=>H8 n) (dB (λx h=>⟨dK x.1,qFU _,h⟩))
def LP:∀n,TQ dq nX (qdV n)
 | 0=>bF λx h=>qcy h
 |n+1=>aY (ag (aa sX (aa (LP n) ae))) Vj (λ_=>qFR rfl) (Xx n rfl rfl)
def Lu:TQ dq nX Ox:=
 cw (λn=>LP n) (dB (λx _=>⟨dK x,qFU _⟩))
def EL:∀n,TQ dq jE (Sq n)
 | 0=>bF λx h=>qcy h
 |n+1=>aY (ag (aa (EL n) ae)) OY (λ_=>qFR rfl) (QS n rfl)
def EF:TQ dq jE FH:=
 cw (λn=>EL n) (dB (λx _=>⟨dK x,qFU _⟩))
def ni:TQ dq fY de:=
 ac (ag (aa Hx (aa Lu (aa EF ae)))) Kq (Mf rfl rfl rfl)
def OP:∀n,TQ dq ra (UL n)
 | 0=>bF λx h=>qcy h.1
 |n+1=>aY (ag (aa (OP n) ae)) Zz (λ_=>qFR rfl) (qbx n rfl)
def NX:TQ dq ra zM:=
 cw (λn=>OP n) (dB (λx h=>⟨dK x,qFU _,h⟩))
def LO:∀n,TQ dq sF (Nk n)
 | 0=>bF λx h=>qcy h.1
 |n+1=>aY (ag (aa (LO n) ae)) Vh (λ_=>qFR rfl) (Xv n rfl)
def Yk:TQ dq sF HO:=
 cw (λn=>LO n) (dB (λx h=>⟨dK x,qFU _,h⟩))
def H9:∀n,TQ dq gp (Z1 n)
 | 0=>sq λd ds H K ⟨id,v,l,a,x,h1,h2,h3,h4,h5⟩=>qcy h4.1
 |n+1=>zI (ag (aa (H9 n) ae)) EP (by decide) (TU n rfl)
def Cb:Tri dq Tryz.prog gp i_leavesA.pt:=cw (λn=>H9 n) λd ds H K ⟨id,v,l,a,x,h1,h2,h3,h4,h5⟩=>⟨dK x,id,v,l,a,x,h1,h2,h3,⟨qFU _,h4⟩,h5⟩
def Hy:Tri dq Tryz.prog gp s_leaves.pt:=N6 (DM (ag (aa Cb ae)) EP (λ_=>qFR rfl) (QT rfl)) Cb
def zG:TQ dq pD uh:=
 ac (ag (aa ni (aa Hy ae))) Ro (TV rfl rfl)
def qbU:TQ dq Gm FG:=
 ac (ag (aa ni (aa NX ae))) ZB (qbz rfl rfl)
def Ym:TQ dq C7 DQ:=
 ac (ag (aa ni (aa Yk ae))) Vk (Xy rfl rfl)
def Uv:TQ dq un HT:=
 ac (ag (aa wZ (aa zH ae))) RE (Ui rfl rfl)
def NW:TQ dq AF FF:=
 ac (ag ae) Zx (qbv)
def qbS:TQ dq Gj Ow:=
 ac (ag ae) Zy (qbw)
def Uq:TQ dq AE HP:=
 ac (ag (aa qbS ae)) Rk (TP rfl)
def LN:∀n,TQ dq sE (LE n)
 | 0=>bF λx h=>qcy h.1.1
 |n+1=>aY (ag (aa Uq (aa Ym (aa zG (aa (LN n) ae))))) Ve (λ_=>qFR rfl) (Xt n rfl rfl rfl rfl)
def Yh:TQ dq sE HQ:=
 cw (λn=>LN n) (dB (λx h=>h))
def Yi:TQ dq C1 HS:=
 ac (ag (aa ni (aa qbU (aa Yh ae)))) Vf (TS rfl rfl rfl)
def yH:TQ dq ij lG:=
 ac (ag ae) Io (JV)
def Ca:TQ dq kV EK:=
 Fy (ag ae) BI (λ_=>qFR rfl) (B3)
def yE:TQ dq eS yP:=
 Fy (ag ae) xD (λ_=>qFR rfl) (yz)
def Fw:TQ dq fC nq:=
 ac (ag (aa wT (aa Jt ae))) ok_estimate_compare (Fm rfl rfl)
theorem wX:Tri dq Tryz.prog gK s_SortFunc_Source.pt:=by
 have h:=Ux (dq:=dq) (hTb:=rfl) (cf:=vJ) (el:=cv) Tryz.sortSource rfl qEm 2 (λ_=>rfl) (λ_=>rfl) (λx v p=>by simp[qEm]at p;rcases p with rfl|rfl<;>exact⟨rfl,λs h=>by cases h⟩) Tryz.isAgg84 Tryz.sizeOf84
  qqe (λx y h1 h2=>by rw[AA]at h1 h2;simp at h1 h2;rcases Ns x y with h|h|h<;>first|exact h|exact absurd h h1|exact absurd h h2) Fw ok_estimate_compare.enter (iy Tryz.func100 (by kernel_rfl) rfl)
 refine Yr h (λx l hp=>hp) (λx l r hp d=>?_);have d:r=l.mergeSort λx y=>!(ltOf vJ) y x:=d
 subst d;refine⟨by simp,λx=>by simp[List.mem_mergeSort],?_⟩;have:=List.pairwise_mergeSort (le:=λx y=>!(ltOf vJ) y x) (λa b c h1 h2=>by simp only[AA]at*;simp at*;unfold CW at*;omega) (λa b=>by simp only[AA];simp;unfold CW;omega) l;refine qGX.2 λi j hi q k=>?_
 have h:=qGX.1 this i j hi q k;generalize (l.mergeSort λx y=>!(ltOf vJ) y x)[i]=a at h ⊢;generalize (l.mergeSort λx y=>!(ltOf vJ) y x)[j]=b at h ⊢;rw[AA]at h;simpa using h
def Hw:Tri dq Tryz.prog wI s_Sort_int.pt:=Yp Tryz.sortInt rfl (iy Tryz.func108 (by kernel_rfl) rfl)
def J3:TQ dq lO qv:=
 ac (ag (aa EH (aa yH (aa Hw (aa Ca ae))))) In (JU rfl rfl rfl rfl)
def yU:∀n,TQ dq bH (Nl n)
 | 0=>sq λd ds H K ⟨id,b,x,z,a,h1,h2,h3,h4,h5,hp,c⟩=>qcy hp.1.1
 |n+1=>Fz (by decide) (S:=J5 [(mX,DQ),(ij,lG),(lO,qv),(bH,Nl n)]) (ag (aa EH (aa yH (aa J3 (aa (yU n) ae))))) xF (λ_=>qFR rfl) (JT n rfl rfl rfl rfl)
def yI:Tri dq Tryz.prog bH s_visitA.pt:=cw (λn=>yU n) λd ds H K ⟨id,b,x,z,a,h1,h2,h3,h4,h5,⟨n,hp⟩,c⟩=>⟨n,id,b,x,z,a,h1,h2,h3,h4,h5,hp,c⟩
def yJ:TQ dq lP qw:=
 ac (ag (aa Uv (aa yI (aa wX (aa yE ae))))) Ip (JW rfl rfl rfl rfl)
end
section
open Go.Proofs
open Cod (enc dec)
variable {dq:Prop}
section
variable {X Y Z:Type}
variable {P:Program}{S:Nat->Spc}{f:Nat}{im:List Nat}{cc:CC}{rs:List ai}{N:Nat}
end
end
section
open Go.Proofs
open Cod (enc dec)
variable {S S0:Nat->Spc}
end
section
open Go.Proofs
def Ka{x:Cond}(h:oc x=false):x.op≠4/\∀k∈x.kids,oc k=false:=by
 grind [Nj]
mutual
theorem CX:∀x:Cond,oc x=false->dw x=x
 | .mk op n a v l f ks,h=>by
   have h2:=Ka h;have h4:¬op=4:=h2.1;rw[dw,if_neg (by grind),SX ks h2.2]
theorem SX:∀ks:List Cond,(∀k∈ks,oc k=false)->ER ks=ks
 | [],_=>rfl
 |k::ks,h=>by rw[ER,CX k (h k (by simp)),SX ks λk hk=>h k (by grind)]
end
mutual
def VJ:∀x:Cond,cQ (dw x)<=cQ x/\bi (dw x)<=bi x
 | .mk op n a v l f ks=>by
   rw[dw];have:=ZJ ks;grind [cQ,gj,bi,jC]
def ZJ:∀ks:List Cond,gj (ER ks)<=gj ks/\jC (ER ks)<=jC ks
 | []=>by simp[ER]
 | k::ks=>by
   have:=VJ k;have:=ZJ ks;grind [ER,gj,jC]
end
inductive GL:Nat->Cond->Prop
 |atom (n:Nat) (c:Cond) (h:GA [] c):GL n c
 |any (n:Nat):GL n ⟨1,E0,E0,E0,E0,false, []⟩
 |top (n:Nat) (v:B) (f:Bool) (h:v∈ValsT):GL n ⟨2,E0,E0,v,E0,f, []⟩
 |not (n:Nat) (k:Cond) (h:GL n k):GL (n+1) ⟨6,E0,E0,E0,E0,false, [k]⟩
 |two (n:Nat) (op:Int) (a b:Cond) (ho:op=7\/op=8) (h1:GL n a) (h2:GL n b):GL (n+1) ⟨op,E0,E0,E0,E0,false, [a,b]⟩
theorem qki{lb:List B}{c:Cond}(h:GA lb c)(hs:oc c=false):GA [] c:=by
 cases h with
 |val n v f h1 h2=>grind [GA]
 |feat v h=>exact .feat v h
 |same n l a h1 h2 h3=>exact absurd rfl (Ka hs).1
 |reg n h=>exact .reg n h
 |regk n v h1 h2=>grind [GA]
def Nv{lb:List B} :∀{n:Nat} {x:Cond},GI lb n x->oc x=false->GL n x
 | _,_, .atom n c h,hs=> .atom n c (qki h hs)
 | _,_, .not n k h,hs=> .not n k (Nv h ((Ka hs).2 k (by simp)))
 | _,_, .two n op a b ho h1 h2,hs=> .two n op a b ho (Nv h1 ((Ka hs).2 a (by simp))) (Nv h2 ((Ka hs).2 b (by simp)))
def qet{x:Cond}(h:x.op=4\/x.op=6/\oc x=true):dw x=⟨1,E0,E0,E0,E0,false, []⟩:=by rw[DW,if_pos h];rfl
def qnJ{op:Int}{a b:Cond}(ho:op=7\/op=8):dw ⟨op,E0,E0,E0,E0,false, [a,b]⟩=⟨op,E0,E0,E0,E0,false, [dw a,dw b]⟩:=by
 rw[DW,if_neg (by
  grind)]
 rfl
def qke{lb:List B} :∀{n:Nat} {x:Cond},GI lb n x->GL n (dw x)
 | _,_, .atom n c h=>by
   cases hs:oc c with
   |false=>grind [GL,CX,qki]
   | true=>
     have h4:c.op=4:=by
      grind [Nj,wG]
     rw[qet (.inl h4)];exact .any n
 | _,_, .not n k h=>by
   cases hs:oc ⟨6,E0,E0,E0,E0,false, [k]⟩with
   |false=>rw[CX _ hs];exact .not n k (Nv h ((Ka hs).2 k (by simp)))
   |true=>rw[qet (.inr ⟨rfl,hs⟩)];exact .any _
 | _,_, .two n op a b ho h1 h2=>by
   rw[qnJ ho];exact .two n op _ _ ho (qke h1) (qke h2)
def qpw{lb:List B}{n:Nat}{x:Cond}(h:GC lb n x):GL n (dw x):=by
 cases h with
 |any=>rw[CX _ rfl];exact .any n
 |top v f h=>rw[CX _ rfl];grind [GL]
 |inner c h=>exact qke h
def Z4{E:R3}(j:qbq E)(d:E.lb=[]):∀{n m:Nat} {x:Cond},GL n x->n<m->∃y,qW E m x=some y
 | _,m+1,_, .atom n c h,_=>qpv j (d ▸h)
 | _,m+1,_, .any n,_=>qj3 j (n:=0) .any (by omega)
 | _,m+1,_, .top n v f h,_=>qj3 j (n:=0) (.top v f h) (by omega)
 | _,m+1,_, .not n k h,hm=>by
   obtain⟨y,l⟩:=Z4 (m:=m) j d h (by omega);simp_all [qj2]
 | _,m+1,_, .two n op a b ho h1 h2,hm=>by
   obtain⟨p,hp⟩:=Z4 (m:=m) j d h1 (by omega);obtain⟨q,r⟩:=Z4 (m:=m) j d h2 (by omega);rcases ho with rfl|rfl;simp_all [qj4];simp_all [qpu]
def Iv:∀{n m:Nat} {x:Cond},GL n x->n<m->sB att3 [] m x=true
 | _,m+1,_, .atom n c h,_=>F6 (VG h) (wG h)
 | _,m+1,_, .any n,_=>Pl (n:=0) .any (by omega)
 | _,m+1,_, .top n v f h,_=>Pl (n:=0) (.top v f h) (by omega)
 | _,m+1,_, .not n k h,hm=>SO (Iv h (by omega))
 | _,m+1,_, .two n op a b ho h1 h2,hm=>SN ho (Iv h1 (by omega)) (Iv h2 (by omega))
open Cod (enc dec)
variable {S S0:Nat->Spc}
def qid{c:Corpus}(hc:OkCorp c){lb:List B}{n:Nat}{x:Cond}(d:GC lb n x)(hn:n<=3):Jz (c,x):=by
 have a:=qpw d;have h:=qcU d;have j:=VJ x;have h3:2^ (n+1)<=2^4:=Nat.pow_le_pow_right (by decide) (by omega);have b:∀i:Nat,i<c.toks.length->qbq ⟨c,(i:Int), [], []⟩:=λi hi=>⟨hc,by show(0:Int)<=(i:Int);omega,by show(i:Int)<c.toks.length;omega,rfl⟩
 exact⟨hc.sz,by show cQ x<=60;omega,by show bi x<=60;omega,by
  show ql4 c.attrs [] (dw x)=true;rw[show c.attrs=att3 from hc.1];exact qjl (by omega) (by omega) (Iv a (by omega)),λi hi=>Z4 (b i hi) rfl a (by omega)⟩
def Qn{n:Nat}{c:Corpus}{q:Qry}(hc:qbn c)(b:GQ n q)(hn:n<=5):wW qbd c q/\kE q.pat<=1000:=by
 have a:=qjI hc b hn;obtain⟨lb,hl,h⟩:=b.lab;have h1:=qpT n q.pat h;have h2:2^n<=32:=by
  rcases n with _|_|_|_|_|_|n
  all_goals first|decide|omega
 refine⟨⟨a.v,a.v.pat,a.v.size,⟨a.v.num,by omega⟩,⟨?_,λx d=>(a.v.lv x d).2⟩,by have:=hc.few;omega,λx d=>qid hc.ok (b.cond x d) (by decide)⟩,by omega⟩;have:=iR q.pat;have:=a.v.num;simp;omega
end
section
open Go.Proofs
open Cod (enc dec)
def FA(c:UInt8):Pat:=⟨1,⟨2,E0,E0,⟨#[c]⟩,E0,false, []⟩,E0,E0,0,0, []⟩
def qo4:B:=⟨#[34,97,34,32,34,99,34]⟩
def q32:Qry:=⟨⟨4,sU,E0,E0,0,0, [FA 97,FA 99]⟩,GlobE, [],0⟩
abbrev Y0(s:B)(q:Qry):Spc:=ay (a1 B) (λx=>x=s) (qpA (Y:=Qry) (Z:=Int) (W:=Int)) λ_ y=>y=(q,0,0)
variable {dq:Prop}
end
section
open Go.Proofs
open Cod (enc dec)
variable {S S0:Nat->Spc}
def c32:Corpus:=⟨[⟨⟨#[119,111,114,100]⟩,false⟩], [[⟨#[97]⟩], [⟨#[98]⟩], [⟨#[97]⟩], [⟨#[99]⟩]], [⟨⟨#[116]⟩,0,4, []⟩], [], [], [], []⟩
abbrev Su:Spc:=ay a0 (λ_=>True) (enc (X:=Bool)) λ_ y=>y=true
def Xi:List Span:=[⟨0,0⟩,⟨1,1⟩]
def qo9:SrcsOf q32.pat Xi:=by
 refine⟨by simp[SS,Xi,CW],λs=>?_⟩;show s∈Xi↔SrcE ⟨4,sU,E0,E0,0,0, [FA 97,FA 99]⟩ 0 0 s;have a:aS (FA 97)=(1,1):=by decide
 have b:am (FA 97)=[FA 97]:=rfl;rw[qh3 rfl];show s∈Xi↔rJ [FA 97,FA 99] 0 0 s;rw[rJ,rJ,rJ,qh4 rfl,qh4 rfl,a,b];simp[Xi]
def qwd:qr8 c32 q32 Xi=[2]:=by kernel_rfl
def qr7:lB (fj c32 q32) [] Xi=[⟨1,1⟩]:=by kernel_rfl
def qAW:qhb Xi Xi:=by
 intro k x a
 match k with
 | 0=>simp[Xi]at a;subst a;exact⟨by simp[Xi],λ_ h=>by omega⟩
 | 1=>simp[Xi]at a;subst a;exact⟨by simp[Xi],λy _ b=>by simp[Xi]at b;subst b;decide⟩
 |k+2=>simp[Xi]at a
def qnj{y:List Int×Int}(h:qlI (c32,q32,Xi) y):y=([2],0):=by
 obtain⟨F,a,h⟩:=h;have e:F=Xi:=SrcsOf.eq a qo9;subst e;rcases h with⟨rfl,_⟩|⟨_,h⟩
 ·exact congrArg (·,0) qwd
 ·exact absurd qAW h
def qi7{y:List Span×Int}(h:Lt (c32,q32) y):y=([⟨1,1⟩],0):=by
 obtain⟨F,a,rfl⟩:=h;have e:F=Xi:=SrcsOf.eq a qo9;subst e;exact congrArg (·,0) qr7
theorem qfw{V:List Attr->Qry->Prop}(h1:S wJ=Y0 qo4 q32)(h2:S xP=qdT V)(h3:S wN=UM V)(h4:S Gp=qiK)(h5:S AF=FF)(j:wW V c32 q32):aq we vd S a0 (λ_=>True) (enc (X:=Bool)) λ_ y=>y=true:=by
 rintro⟨⟩ -;have k:qlU V (⟨[⟨⟨#[119,111,114,100]⟩,false⟩], [[⟨#[97]⟩], [⟨#[98]⟩], [⟨#[97]⟩], [⟨#[99]⟩]], [⟨⟨#[116]⟩,0,4, []⟩], [], [], [], []⟩,q32, [⟨0,0⟩,⟨1,1⟩]):=⟨j,by decide⟩
 have d:wW V ⟨[⟨⟨#[119,111,114,100]⟩,false⟩], [[⟨#[97]⟩], [⟨#[98]⟩], [⟨#[97]⟩], [⟨#[99]⟩]], [⟨⟨#[116]⟩,0,4, []⟩], [], [], [], []⟩ q32:=j;simp[we,vd,h1,h2,h3,k,d,-fB'];refine⟨rfl,λa e h=>?_⟩;have h:(a,e)=([2],0):=qnj h;cases h;intro b f c;have c:(b,f)=([⟨1,1⟩],0):=qi7 c;cases c;simp[h4,h5,HN,-fB']
def V12(a:List Attr)(q:Qry):Prop:=qbd a q\/qz1 a q
def qpc{x:Cond}(h1:cQ x<=60)(h2:bi x<=60)(h:(ql4 c32.attrs [] (dw x) && (List.range 4).all λi=>(qW ⟨c32,(i:Int), [], []⟩ 21 (dw x)).isSome)=true):Jz (c32,x):=by
 simp only[qFS,qFT,qHk]at h;exact⟨⟨(by decide:c32.toks.length<=100000),(by decide:∀r∈c32.toks,r.length<=100000),(by decide:c32.attrs.length<=1000)⟩,h1,h2,h.1,λi hi=>qGu.1 (h.2 i hi)⟩
def qra{x:Pat}(a:x∈am q32.pat):x=FA 97\/x=FA 99:=by
 have h:x∈ [FA 97,FA 99]:=a;simpa using h
def qjw:EE (λq=>rL q/\lK q=true/\mS ax q=true) q32.pat:=by
 have a:∀q:Pat,q.op≠2->q.op≠3->q.lab=⟨#[]⟩->mS ax q=true:=λq h2 h3 h=>by
  unfold mS;rw[decide_eq_true_eq];exact⟨λb=>by omega,λb=>absurd h b⟩
 intro q c;have:q∈ [q32.pat,FA 97,FA 99]:=c;simp only[qF5,qGi,or_false]at this;rcases this with rfl|rfl|rfl
 ·exact⟨.inr (.inr (.inl ⟨.inl rfl,rfl,rfl,rfl,rfl,rfl,by decide⟩)),rfl,a _ (by decide) (by decide) rfl⟩
 ·exact⟨.inl ⟨rfl,rfl,rfl,rfl,rfl⟩,rfl,a _ (by decide) (by decide) rfl⟩
 ·exact⟨.inl ⟨rfl,rfl,rfl,rfl,rfl⟩,rfl,a _ (by decide) (by decide) rfl⟩
def Vc{f:Pat->Bool}(p:Pat)(h:EE (λq=>f q=true) p):cj f p=true:=by
 induction p using fJ with|_ p a=>?_
 rw[cT,Kl h,qHb,qFT];exactλk hk=>a k hk (OT h hk)
def qpk:eP ax q32.pat=true:=by
 unfold eP;rw[Vc q32.pat (yW qjw λq h=>(qU q).2 h.1),Vc q32.pat (yW qjw λq h=>h.2.2),Vc q32.pat (yW qjw λq h=>h.2.1)];rfl
def qoK:wW V12 c32 q32:=by
 refine⟨.inr ⟨rfl,rfl,rfl,qpk,by decide,by decide,by decide,by decide,λx a=>?_⟩,qpk,by decide,⟨by decide,by decide⟩,⟨by decide,λx a=>?_⟩,by decide,λx a=>?_⟩
 ·rcases qra a with rfl|rfl
  ·exact⟨by kernel_rfl,1,by decide,λk hk=>by cases hk⟩
  ·exact⟨by kernel_rfl,1,by decide,λk hk=>by cases hk⟩
 ·rcases qra a with rfl|rfl
  ·exact⟨1,by decide,λk hk=>by cases hk⟩
  ·exact⟨1,by decide,λk hk=>by cases hk⟩
 ·rcases qra a with rfl|rfl
  ·exact qpc (by decide) (by decide) (by kernel_rfl)
  ·exact qpc (by decide) (by decide) (by kernel_rfl)
def qa5{n:Nat}{c:Corpus}{q:Qry}(hc:qbn c)(a:GQ n q)(hn:n<=5):wW V12 c q:=
 have h:=(Qn hc a hn).1
 ⟨.inl h.v,h.pat,h.size,h.fx,h.pl,h.few,h.sel⟩
def qq6{c:Corpus}(h:Xj c)(hk:R2 c)(hl:(c.toks.length:Int)<=3*6):qbn c:=⟨qqU h hk,by omega⟩
end
section
open Go.Proofs
open Cod (enc dec)
variable {S S0:Nat->Spc}
end
end Go.Gv
namespace Go.Proofs
open Go.Shelf
def Tryz.keysA_ren:Go.Shelf.Ren:=⟨λ|7=>45|10=>109|n=>n,λ|23=>85|26=>3|3=>4|28=>91|0=>0|27=>90|33=>161|4=>4|n=>n,λ|n=>n⟩
theorem Tryz.keysA:Go.Proofs.SlLaysZI.n7 Tryz.prog Tryz.keysA_ren:={
 mixed:=by kernel_rfl
 f7:=⟨Tryz.f45.name,by decide,Tryz.func45.trans (congrArg some (by kernel_rfl))⟩
 f10:=⟨Tryz.f109.name,by decide,Tryz.func109.trans (congrArg some (by kernel_rfl))⟩
 t0:=Tryz.underlying0
 a0:=Tryz.isAgg0
 z0:=Tryz.sizeOf0
 v0:=Tryz.zeroValue0
 t4:=Tryz.underlying4
 a4:=Tryz.isAgg4
 z4:=Tryz.sizeOf4
 v4:=Tryz.zeroValue4
 t23:=Tryz.underlying85
 a23:=Tryz.isAgg85
 z23:=Tryz.sizeOf85
 v23:=Tryz.zeroValue85
 t26:=Tryz.underlying3
 a26:=Tryz.isAgg3
 z26:=Tryz.sizeOf3
 v26:=Tryz.zeroValue3
 t27:=Tryz.underlying90
 a27:=Tryz.isAgg90
 z27:=Tryz.sizeOf90
 v27:=Tryz.zeroValue90
 t28:=Tryz.underlying91
 a28:=Tryz.isAgg91
 z28:=Tryz.sizeOf91
 v28:=Tryz.zeroValue91
 t33:=Tryz.underlying161
 a33:=Tryz.isAgg161
 z33:=Tryz.sizeOf161
 v33:=Tryz.zeroValue161 }
def Tryz.sortedA_ren:Go.Shelf.Ren:=⟨λ|6=>44|8=>107|9=>108|11=>172|13=>168|12=>173|23=>232|24=>233|14=>235|15=>236|16=>237|17=>238|18=>239|19=>240|20=>105|21=>241|22=>242|25=>290|26=>286|27=>287|28=>291|29=>292|30=>171|31=>313|n=>n,λ|26=>3|28=>91|24=>22|0=>0|3=>3|37=>159|48=>243|50=>245|4=>4|40=>237|39=>236|45=>86|5=>5|9=>9|51=>277|55=>281|57=>306|58=>163|33=>161|n=>n,λ|n=>n⟩
def Tryz.sortedA:Go.Proofs.SlLaysZI.n6 Tryz.prog Tryz.sortedA_ren:={
 mixed:=by kernel_rfl
 f6:=⟨Tryz.f44.name,by decide,Tryz.func44.trans (congrArg some (by kernel_rfl))⟩
 f8:=⟨Tryz.f107.name,by decide,Tryz.func107.trans (congrArg some (by kernel_rfl))⟩
 f11:=⟨Tryz.f172.name,by decide,Tryz.func172.trans (congrArg some (by kernel_rfl))⟩
 t0:=Tryz.underlying0
 a0:=Tryz.isAgg0
 z0:=Tryz.sizeOf0
 v0:=Tryz.zeroValue0
 t24:=Tryz.underlying22
 a24:=Tryz.isAgg22
 z24:=Tryz.sizeOf22
 v24:=Tryz.zeroValue22
 t26:=Tryz.underlying3
 a26:=Tryz.isAgg3
 z26:=Tryz.sizeOf3
 v26:=Tryz.zeroValue3
 t28:=Tryz.underlying91
 a28:=Tryz.isAgg91
 z28:=Tryz.sizeOf91
 v28:=Tryz.zeroValue91
 i26:=by kernel_rfl }
end Go.Proofs
namespace Go.Gv
section
open Go.Proofs
def GZ:X.Fn:=gx Tryz.f39 _
def Xk:X.Fn:=gx Tryz.f87 _
def GY:X.Fn:=gx Tryz.f88 _
def GW:X.Fn:=gx Tryz.f89 _
def GV:X.Fn:=gx Tryz.f90 _
def E4:X.Fn:=gx Tryz.f91 _
def Ea:X.Fn:=gx Tryz.f93 _
def E5:X.Fn:=gx Tryz.f94 _
def JC:X.Fn:=gx Tryz.f95 _
def GT:X.Fn:=gx Tryz.f97 _
def GR:X.Fn:=gx Tryz.f161 _
def Fa:X.Fn:=gx Tryz.f162 _
def Eb:X.Fn:=gx Tryz.f163 _
def GS:X.Fn:=gx Tryz.f219 _
def BV:X.Fn:=gx Tryz.f220 _
def E9:X.Fn:=gx Tryz.f221 _
def E8:X.Fn:=gx Tryz.f278 _
def BU:X.Fn:=gx Tryz.f279 _
def E7:X.Fn:=gx Tryz.f280 _
def E6:X.Fn:=gx Tryz.f281 _
def Fc:X.Fn:=gx Tryz.f283 _
def Fb:X.Fn:=gx Tryz.f284 _
def JB:X.Fn:=gx Tryz.f310 _
def BT:X.Fn:=gx Tryz.f311 _
def GX:X.Fn:=gx Tryz.f329 _
def GU:X.Fn:=gx Tryz.f348 _
def NA:X.Fn:=gx Tryz.f92 _
def GP:X.Fn:=gx Tryz.f96 _
def JD:X.Fn:=gx Tryz.f282 _
def L8:X.Fn:=gx Tryz.f158 _
def Nz:X.Fn:=gx Tryz.f159 _
def TF:X.Fn:=gx Tryz.f160 _
open Go.Proofs X
variable {dq:Prop}
def qCu:List (Nat×X.Fn):=[(wJ,GZ),(qc0,Xk),(K2,GY),(K0,GW),(KZ,GV),(IQ,E4),(Gk,Ea),(IR,E5),(M3,JC),(KX,GT),(KV,GR),(IW,Fa),(Gl,Eb),(KW,GS),(Eu,BV),(IV,E9),(IU,E8),(Et,BU),(IT,E7),(IS,E6),(IY,Fc),(IX,Fb),(M2,JB),(Es,BT),(K1,GX),(KY,GU),(RM,NA),(KU,GP),(M4,JD),(PN,L8),(RL,Nz),(qal,TF)]
def qrK:∀p∈qCu,ql8 p:=by
 unfold qCu
 repeat' first|exact qpR|refine qhm qz4 ?_
noncomputable def qFu(s:B):Option (D×XH):=ME (ΔL qCu) qpj 10000 wJ [.v (.string s)] ⟨.e, [], [],0⟩
open Cod (enc dec)
noncomputable def qBJ(s:B)(q:Qry):Bool:=match qFu s with
 |some (r,h)=>fz 60 h.he r (qpA (Y:=Qry) (Z:=Int) (W:=Int) (q,0,0))
 |none=>false
def qhW{s:B}{q:Qry}(h:qBJ s q=true):TQ dq wJ (Y0 s q):=by
 refine Ys (qhl qrK (fn:=GZ) rfl 10000) ?_;rintro x rfl;refine⟨rfl,?_⟩;unfold qBJ at h;split at h
 ·rename_i r hh he;exact⟨r,hh,(q,0,0),he,h,rfl⟩
 ·cases h
open Go.Proofs Cod
def qrh:qBJ qo4 q32=true:=by kernel_rfl
def qfG{P:Program}{f:Nat}{X Y:Type}{A:fN X}{k l:X->Prop}{er:Y->D}{post:X->Y->Prop}(h1:Tri dq P f (ay A k er post).pt)(h2:Tri dq P f (ay A l er post).pt):Tri dq P f (ay A (λx=>k x\/l x) er post).pt:=λO tp w vs ds H d K a b c e g h=>by
 rw[me]at h;cases j:A.dec ds with
 |none=>rw[j]at h;exact h.elim
 | some x=>
   rw[j]at h;rcases h.1 with hp|hp
   ·exact h1 O tp w vs ds H d K a b c e g (by rw[me,j];exact⟨hp,h.2⟩)
   ·exact h2 O tp w vs ds H d K a b c e g (by rw[me,j];exact⟨hp,h.2⟩)
def qhH:TQ dq fq (HU V12):=qfG qcu J2
def HA:TQ dq pR Zb:=
 ac (ag (aa ug ae)) FZ (Hi rfl)
def wR:∀n,TQ dq cA (H5 n)
 | 0=>bF λx h=>qlj h
 | n+1=>
   have h1:TQ dq eR (qcn Cond (J5 [(cA,H5 n)])):=ac (ag (aa (wR n) ae)) mR (R8);have h2:TQ dq cb (qfO Cond (J5 [(cA,H5 n)])):=ac (ag (aa h1 ae)) km (R9 rfl)
   ac (ag (aa h2 ae)) Is (JY (S0:=(J5 [(cA,H5 n)])) n rfl rfl)
def Ln:TQ dq cA OB:=cw (λn=>wR n) (dB (λx h=>h))
def wj:∀n,TQ dq gz (OD n)
 | 0=>bF λx h=>qlj h.1
 |n+1=>aY (ag (aa Ln (aa (wj n) ae))) FY (λ_=>qFR rfl) (Hh n rfl rfl)
def Jp:TQ dq gz qd3:=cw (λn=>wj n) (dB (λx h=>h))
def uD:TQ dq iY qiI:=
 ac (ag (aa HA (aa Jp (aa lA (aa (wk 21) ae))))) Ep (qhB rfl rfl rfl rfl)
def N1:TQ dq vz nq:=
 ac (ag (aa wT (aa Jt ae))) MP (NR rfl rfl)
def BH:TQ dq jN qdW:=
 ac (ag ae) Ap (NU)
def wY:TQ dq gL qd1:=
 ac (ag (aa BH ae)) ws (Hq rfl)
def Bm:TQ dq nl sY:=
 ac (ag (aa yJ (aa N1 (aa wY ae)))) Kw (Mo rfl rfl rfl)
def N4:TQ dq vE qiJ:=
 ac (ag (aa BD ae)) MV (qbK rfl)
def Fv:TQ dq nF qio:=
 ac (ag ae) Ek (qpX)
def wo:TQ dq fS qiQ:=
 ac (ag (aa N4 (aa Fv ae))) vk (qp5 rfl rfl)
def Mw:TQ dq tE Bp:=
 ac (ag ae) KE (Mt)
def Cf:TQ dq pJ uH:=
 ac (ag (aa wZ (aa uC ae))) MO (Mn rfl rfl)
def Yn:TQ dq re (qez iX):=qhP Tryz.keysA rfl (iy Tryz.func45 (by kernel_rfl) rfl)
def qqp(m:Nat):AnyZI.SortsIn Tryz.prog Tryz.sortedA_ren Go.Fence.wide m:=
 ⟨λblk off cap c W d a b=>callsIn_wide.2 (AnyG.slices_Sort_int Tryz.sortInt blk off cap c W d a b),λp cap W=>callsIn_wide.2 (AnyG.slices_Sort_int_none Tryz.sortInt p cap W)⟩
def Mx(a:¬dq):TQ dq uc (UG iX):=qb2 (fk:=re) a Tryz.sortedA Tryz.keysA rfl (iy Tryz.func44 (by kernel_rfl) rfl) rfl qqp (enters_of Tryz.func108 (by kernel_rfl) rfl) (enters_of Tryz.func109 (by kernel_rfl) rfl)
def Rg(a:¬dq):TQ dq xP (qdT V12):=
 ac (ag (aa qhH (aa Bm (aa Cf (aa uD (aa wo (aa Mw (aa Yn (aa (Mx a) ae))))))))) Pb (Q8 rfl rfl rfl rfl rfl rfl rfl rfl)
def J4:TQ dq rh Y5:=
 ac (ag (aa uD ae)) Iq (JX rfl)
def Hz:TQ dq pN (Sx V12):=
 ac (ag (aa qhH (aa Cf (aa J4 ae)))) FV (Hd rfl rfl rfl)
def Lw:TQ dq wN (UM V12):=
 ac (ag (aa Hz (aa yJ ae))) VB (XT rfl rfl)
def qbW:TQ dq Gp qiK:=
 ac (ag ae) ZE (qbC)
def qfD(a:¬dq):TQ dq xR Su:=
 ac (ag (aa (qhW qrh) (aa (Rg a) (aa Lw (aa qbW (aa NW ae)))))) Pf (qfw rfl rfl rfl rfl rfl qoK)
end
section
open Go.Proofs
open Cod (enc dec)
variable {S S0:Nat->Spc}
def FL{x:Cond}(o:Int)(e:x.op=o)(h:o≠2/\o≠3/\o≠4/\o≠5):qxz x:=⟨λq=>(h.1 (e.symm.trans q)).elim,λq=>(h.2.1 (e.symm.trans q)).elim,λq=>(h.2.2.1 (e.symm.trans q)).elim,λq=>(h.2.2.2 (e.symm.trans q)).elim⟩
def qqD{lb:List B}{x:Cond}(h:GA lb x):qxz x:=by
 cases h with
 |val nm v f h1 h2=>exact⟨λ_=>⟨h2, .inr h1⟩,λh=>(by cases h),λh=>(by cases h),λh=>(by cases h)⟩
 |feat v h=>exact⟨λh=>(by cases h),λ_=>⟨h,rfl⟩,λh=>(by cases h),λh=>(by cases h)⟩
 |same nm l a h1 h2 h3=>exact⟨λh=>(by cases h),λh=>(by cases h),λ_=>⟨h1,h3⟩,λh=>(by cases h)⟩
 |reg nm h=>exact⟨λh=>(by cases h),λh=>(by cases h),λh=>(by cases h),λ_=>⟨.tail _ h, .inl rfl, .head _⟩⟩
 |regk nm v h1 h2=>exact⟨λh=>(by cases h),λh=>(by cases h),λh=>(by cases h),λ_=>⟨.tail _ h1, .inr (.head _), .tail _ h2⟩⟩
def Pj{lb:List B} :∀{n m:Nat} {x:Cond},GI lb n x->n<m->qpn att3 lb m x
 | _,m+1,_, .atom n c h,_=>⟨VG h,qqD h,λk hk=>by rw[wG h]at hk;cases hk⟩
 | _,m+1,_, .not n k h,hm=>⟨rfl,FL 6 rfl (by decide),λz hz=>by
    rcases qG3.1 hz with rfl;exact Pj h (by omega)⟩
 | _,m+1,_, .two n op a b ho h1 h2,hm=>⟨by rcases ho with rfl|rfl<;>rfl,by rcases ho with e|e;exact FL 7 e (by decide);exact FL 8 e (by decide),λz hz=>by
    have hz:z∈ [a,b]:=hz;simp only[qF5,qGi,or_false]at hz;rcases hz with rfl|rfl
    ·exact Pj h1 (by omega)
    ·exact Pj h2 (by omega)⟩
def qmK:∀v∈ValsT,v∈ValsI:=by decide
def qcA{lb:List B}{n m:Nat}{x:Cond}(h:GC lb n x)(hm:n<m):qpn att3 lb m x:=by
 obtain⟨m,rfl⟩:∃k,m=k+1:=⟨m -1,by omega⟩
 cases h with
 |any=>exact⟨rfl,FL 1 rfl (by decide),λk hk=>by cases hk⟩
 | top v f h=>
   have h0:=qFT.1 qhQ v h;simp only[qFS]at h0;refine⟨?_,⟨λ_=>⟨qmK v h, .inl rfl⟩,λh=>(by cases h),λh=>(by cases h),λh=>(by cases h)⟩,λk hk=>by cases hk⟩;rw[Pk];cases f
   ·exact h0.1
   ·exact h0.2
 |inner c h=>exact Pj h hm
end
section
open Go.Proofs
def rp:CC:=gq Tryz.f142 [2] {} _
def qz:List ai:=[.tmp 4, .tmp 5]
def Kp:FO ju [2] rp qz 42:=fo
def ej:CC:=gq Tryz.f143 [2] {} _
def dZ:List ai:=[.tmp 4]
def Ko:FO jt [2] ej dZ 146:=fo
def vP:CC:=gq Tryz.f82 [1] {} _
def uM:List ai:=[.tmp 2]
def OZ:FO xM [1] vP uM 20:=fo
def Ds:CC:=gq Tryz.f83 [3] { cu:=[1,5] } _
def Cq:List ai:=[.tmp 6]
def ZA:FO vt [3] Ds Cq 142:=fo
def Lc:CC:=gq Tryz.f144 [] {} _
def Kg:List ai:=[.tmp 4]
def qf3:FO PO [] Lc Kg 17:=fo
def xZ:CC:=gq Tryz.f80 [1] {} _
def xg:List ai:=[.tmp 2]
def Rq:FO AH [1] xZ xg 42:=fo
def tH:CC:=gq Tryz.f34 [2] { bx:=[59] } _
def tb:List ai:=[.tmp 4]
def MH:FO vu [2] tH tb 99:=fo
def AU:CC:=gq Tryz.f35 [2,3] {} _
def zR:List ai:=[.tmp 4, .tmp 5]
def Vg:FO C5 [2,3] AU zR 17:=fo
def xV:CC:=gq Tryz.f10 [2,3] {} _
def xc:List ai:=[.tmp 4, .tmp 5]
def Rl:FO AG [2,3] xV xc 40:=fo
def Do:CC:=gq Tryz.f22 [2,3] {} _
def Cm:List ai:=[.tmp 4, .tmp 5]
def Zw:FO Gi [2,3] Do Cm 49:=fo
def qh:CC:=gq Tryz.f5 [] {} _
def oU:List ai:=[.tmp 4]
def Im:FO zl [] qh oU 51:=fo
open Cod (enc dec)
variable {S S0:Nat->Spc}
def qww(n:Nat)(x:Glob×Int):Prop:=fL x.1<=n/\0<=x.2/\x.2+fL x.1<=61/\xI x.1<=60
abbrev LK(n:Nat):Spc:=ay (a2 Glob Int) (qww n) (io (Y:=Int) (Z:=Int)) λx y=>y=((xI x.1:Int),(fL x.1:Int))
theorem Me(n:Nat)(h1:S ju=LK n):aq rp qz S (a2 Glob Int) (qww (n+1)) (io (Y:=Int) (Z:=Int)) λx y=>y=((xI x.1:Int),(fL x.1:Int)):=by
 rintro⟨x,deep⟩ ⟨hn,h0,h2,h3⟩;simp only at hn h0 h2 h3;have l:=DZ x;have p:=VK x;have a:¬60<deep:=by omega
 simp[rp,qz,a];intro q;refine ah (X:=Int×Int) [1,15] [] x.kids.length (λk z=>z.1=1+ (lV (x.kids.take k):Int)/\z.2=(lX (x.kids.take k):Int)) (λz=>[(6,enc z.1),(7,enc z.2)]) (λ_=>[]) (1,0) (by simp[lV,lX]) ?_ ?_
 ·rintro k ⟨m,d⟩ hk ⟨b,c⟩;simp only at b c;obtain⟨y,h⟩:=aU hk;obtain⟨_,j⟩:=qFN.1 h;have hm:=SQ h;have r:=DY (aO h);have hp:qww n (y,deep+1):=⟨by show fL y<=n;omega,by show 0<=deep+1;omega,by show deep+1+fL y<=61;omega,by show xI y<=60;omega⟩
  simp[h1,hk,h,j,hp];exact⟨by simp only[InR];omega,by simp only[InR];omega,λ_=>by omega,λ_=>by omega⟩
 ·rintro⟨m,d⟩ ⟨b,c⟩;simp only at b c;rw[qFX]at b c;simp;exact⟨by simp only[InR];omega,by omega,by omega⟩
abbrev H4:Spc:=ay (a2 Glob Int) (λx=>∃n,qww n x) (io (Y:=Int) (Z:=Int)) λx y=>y=((xI x.1:Int),(fL x.1:Int))
def qwv(n:Nat)(x:Glob×Bool):Prop:=fL x.1<=n/\((x.2=true/\x.1=GlobE)\/ ∃lb m,GG lb m x.1)
abbrev LJ(n:Nat):Spc:=ay (a2 Glob Bool) (qwv n) (enc (X:=Bool)) λx y=>y=true
set_option maxHeartbeats 2000000 in
theorem Md(n:Nat)(h1:S jt=LJ n):aq ej dZ S (a2 Glob Bool) (qwv (n+1)) (enc (X:=Bool)) λx y=>y=true:=by
 rintro⟨g,b⟩ ⟨hn,hg⟩;simp only at hn hg;have p5:∀k∈g.kids,qwv n (k,false):=λk hk=>by
  have:=IL hk;rcases hg with⟨_,rfl⟩|⟨lb,m,h⟩
  ·cases hk
  ·obtain⟨m',_,h2⟩:=We h hk;exact⟨by show fL k<=n;omega, .inr ⟨lb,m',h2⟩⟩
 rcases hg with⟨rfl,rfl⟩|⟨lb,m,h⟩
 rotate_left
 ·cases h with
  | not n k h=>
    simp[ej,dZ,E0,GlobE,-fB',-eB'];refine ah (X:=Unit) [136] [] 1 (λk _=>True) (λ_=>[]) (λ_=>[]) () (by simp) ?_ ?_ (hlen:=by simp)
    ·rintro j -hj -;obtain rfl:j=0:=by omega
     have hp:=p5 k (by simp);simp[h1,hp,-fB',-eB']
    ·rintro - -;simp
  | two n op a b' ho hh1 hh2=>
    rcases ho with rfl|rfl
    all_goals
     simp[ej,dZ,E0,GlobE,-fB',-eB'];refine ah (X:=Unit) [136] [] 2 (λk _=>True) (λ_=>[]) (λ_=>[]) () (by simp) ?_ ?_ (hlen:=by simp)
     ·rintro j -hj -;have hp1:=p5 a (by simp);have hp2:=p5 b' (by simp);obtain rfl|rfl:j=0\/j=1:=by omega
      all_goals simp[h1,hp1,hp2,-fB',-eB']
     ·rintro - -;simp
  | head n op a b ho h1 h2=>
    rcases ho with rfl|rfl
    all_goals
     simp[ej,dZ,E0,GlobE,-fB',-eB'];refine ah (X:=Unit) [136] [] 0 (λk _=>True) (λ_=>[]) (λ_=>[]) () (by simp) (λk x hk=>absurd hk (by omega)) (λ_ _=>?_) (hlen:=by simp);simp
  | _=>
    simp[ej,dZ,E0,GlobE,-fB',-eB'];refine ah (X:=Unit) [136] [] 0 (λk _=>True) (λ_=>[]) (λ_=>[]) () (by simp) (λk x hk=>absurd hk (by omega)) (λ_ _=>?_) (hlen:=by simp);simp
 simp[ej,dZ,E0,GlobE,-fB',-eB'];refine ah (X:=Unit) [136] [] 0 (λk _=>True) (λ_=>[]) (λ_=>[]) () (by simp) (λk x hk=>absurd hk (by omega)) (λ_ _=>?_) (hlen:=by simp);simp
abbrev HY:Spc:=ay (a2 Glob Bool) (λx=>∃n,qwv n x) (enc (X:=Bool)) λx y=>y=true
def qDx(g:Glob):Prop:=g=GlobE\/ ∃lb m,m<=2/\GG lb m g
abbrev Sw:Spc:=ay (a1 Glob) qDx (enc (X:=Bool)) λx y=>y=true
def QU(h1:S ju=H4)(h2:S jt=HY):aq vP uM S (a1 Glob) qDx (enc (X:=Bool)) λx y=>y=true:=by
 rintro g a;have b:xI g<=7/\fL g<=3:=by
  rcases a with rfl|⟨lb,m,hm,h⟩
  ·decide
  ·have:=qkf h;have c:2^ (m+1)<=2^3:=Nat.pow_le_pow_right (by omega) (by omega);omega
 have d:∃n,qww n (g,0):=⟨fL g,qFU _,qGT _,by show(0:Int) +fL g<=61;omega,by show xI g<=60;omega⟩
 have j:∃n,qwv n (g,true):=⟨fL g,qFU _,a.elim (λe=> .inl ⟨rfl,e⟩) λ⟨lb,m,_,h⟩=> .inr ⟨lb,m,h⟩⟩
 simp[vP,uM,h1,h2,d,j,-fB',-eB'];exact⟨λ_=>by omega,by omega⟩
def qhv:aq Lc Kg S (a2 (List B) B) (λ_=>True) (enc (X:=Bool)) λx y=>y=pw x.1 x.2:=by
 rintro⟨l,s⟩ -;simp[Lc,Kg,-fB',-eB'];intro _;refine ah (X:=Unit) [1,7] [] l.length (λk _=>∀x∈l.take k,¬x=s) (λ_=>[]) (λ_=>[]) () (by simp) ?_ ?_
 ·intro k _ hk c;obtain⟨x,a⟩:=aQ hk;obtain⟨_,b⟩:=qFN.1 a;simp[hk,a,b,-fB',-eB'];refine⟨λh=>?_,λh=>?_⟩
  ·simp[pw];exact h ▸qFP a
  ·rw[au a];grind
 ·intro _ c;simp[pw,-fB',-eB'];grind
def qlP(n:Nat)(x:Glob×List Attr×List B):Prop:=fL x.1<=n/\yq x
abbrev qdQ(n:Nat):Spc:=ay (a3 Glob (List Attr) (List B)) (qlP n) (enc (X:=Int)) λ_ y=>y=0
def qnS{x:B}(h:x∈Types\/x∈qbm\/(x∈WW/\x≠ ⟨#[]⟩)):ax x=true:=CY h
set_option maxHeartbeats 4000000 in
theorem qby(n:Nat)(h1:S PO=s_rIn)(h2:S fZ=s_rAttr)(h3:S nY=s_rParse0)(h4:S aK=oq)(h5:S vt=qdQ n):
 aq Ds Cq S (a3 Glob (List Attr) (List B)) (qlP (n+1)) (enc (X:=Int)) λ_ y=>y=0:=by
 rintro⟨g,a,lb⟩ ⟨hn,ha,hg⟩;simp only at hn ha hg;subst ha;have hk:∀k∈g.kids,qlP n (k,att3,lb):=λk hk=>by
  have:=IL hk;rcases hg with rfl|⟨m,h⟩
  ·cases hk
  ·obtain⟨m',_,h2⟩:=We h hk;exact⟨by show fL k<=n;omega,rfl, .inr ⟨m',h2⟩⟩
 have hw:¬dT att3 uF= -1:=by decide
 have hkl:g.kids.length<=2:=by
  rcases hg with rfl|⟨m,h⟩
  ·decide
  ·cases h<;>simp
 simp[Ds,Cq,-fB',-eB'];refine bh (X:=Unit) [1,2,3] [] (λ_=>True) (λ_=>[]) (λ_=>[]) ?_ ?_
 ·rcases hg with rfl|⟨m,h⟩
  ·simp[GlobE,E0,-fB',-eB']
  cases h with
  |bound n a k1=>simp[h1,dC k1,-fB',-eB']
  |val n a v f k1 k2=>simp[h1,dC k1,-fB',-eB']
  |depth n a mn mx k1 k3 k4 k5 k6=>simp[h1,dC k1,-fB',-eB']
  |same n a b g k1 k2 k3|dist n a b mn mx k1 k2|reg n a b t k1 k2 k3|node n a b t k1 k2 k3|path n a b l k1 k2 k3 k4=>simp[h1,dC k1,dC k2,-fB',-eB']
  |head n op a b ho k1 k2=>rcases ho with rfl|rfl<;>simp[h1,dC k1,dC k2,-fB',-eB']
  |not n k h=>simp[-fB',-eB']
  |two n op a b ho k1 k2=>rcases ho with rfl|rfl<;>simp[-fB',-eB']
 rintro - -;simp[-fB',-eB'];refine bh (X:=Unit) [1,2,3] [] (λ_=>True) (λ_=>[]) (λ_=>[]) ?_ ?_
 ·rcases hg with rfl|⟨m,h⟩
  ·simp[GlobE,E0,-fB',-eB']
  cases h with
  |bound n a k1=>simp[-fB',-eB']
  | val n a v f k1 k2=>
    have hv:v∈ValsI\/v∈QD:= .inr k2;simp[h2,h3,hw,hv,-fB',-eB']
  | same n a b g k1 k2 k3=>
    have hg2:¬dT att3 g= -1:=by have:=qa6 k3;omega
    simp[h2,hw,hg2,-fB',-eB']
  | dist n a b mn mx k1 k2 k3 k4 k5 k6=>
    have e1:¬mx<mn:=by omega
    simp[e1,-fB',-eB']
  |reg n a b t k1 k2 k3=>simp[h4,qnS (.inl k3),-fB',-eB']
  |node n a b t k1 k2 k3=>simp[h4,qnS (.inr (.inl k3)),-fB',-eB']
  | path n a b l k1 k2 k3 k4=>
    simp[-fB',-eB'];intro _;refine ah (X:=Unit) [1,2,3,95] [] l.length (λ_ _=>True) (λ_=>[]) (λ_=>[]) () trivial ?_ ?_
    ·rintro k -hk -;obtain⟨x,hx⟩:=aQ hk;obtain⟨_,hgx⟩:=qFN.1 hx;have hv:¬x=⟨#[]⟩->ax x=true:=λh=>qnS (.inr (.inr ⟨k4 x (qFP hx),h⟩))
     simp[hk,hx,hgx,h4,-fB',-eB'];grind
    ·rintro - -;simp[-fB',-eB']
  | depth n a mn mx k1 k3 k4 k5 k6=>
    have e1:¬mx<mn:=by omega
    have e2:¬mn< 0:=by omega
    simp[e1,e2,-fB',-eB']
  |head n op a b ho k1 k2=>rcases ho with rfl|rfl<;>simp[-fB',-eB']
  |not n k h=>simp[-fB',-eB']
  |two n op a b ho k1 k2=>rcases ho with rfl|rfl<;>simp[-fB',-eB']
 rintro - -;simp[-fB',-eB'];intro _;refine ah (X:=Unit) [1,2,128] [] g.kids.length (λ_ _=>True) (λ_=>[]) (λ_=>[]) () trivial ?_ ?_
 ·rintro k -hkk -;obtain⟨x,hx⟩:=aQ hkk;obtain⟨_,hgx⟩:=qFN.1 hx;have hp:=hk x (qFP hx);simp[hkk,hx,hgx,h5,hp,-fB',-eB']
 ·rintro - -;simp[-fB',-eB']
abbrev YU:Spc:=ay (a3 Glob (List Attr) (List B)) yq (enc (X:=Int)) λ_ y=>y=0
def Gd(l:List Pat)(out:List B):List B:=l.foldl (λo p=>mM o p.lab) out
theorem qnM{p:Pat}(h:EE rL p):∀out,Gd (am p) out=bp p out:=by
 induction p using fJ with|_ p b=>?_
 intro out;have hs:=Kl h;rw[aW,pr];split
 ·rename_i h1;have hk:p.kids=[]:=by
   rcases hs with h|h|h|h<;>grind
  rw[hk];rfl
 ·rename_i h1;have hl:p.lab=E0:=by
   rcases hs with h|h|h|h<;>grind [E0]
  rw[hl,show mM out E0=out from if_pos rfl];have:∀(ks:List Pat) (o:List B),(∀k∈ks,k∈p.kids)->Gd (ks.flatMap am) o=ks.foldl (λo k=>bp k o) o:=by
   intro ks
   induction ks with
   |nil=>intro o _;rfl
   | cons k ks a=>
     intro o hk;rw[qGJ,Gd,qH8,qGY];have e:=b k (hk k (by simp)) (OT h (hk k (by simp))) o;unfold Gd at e a;rw[e,a _ λz hz=>hk z (by simp[hz])]
  exact this _ _ λ_ h=>h
def qgv(l:List Pat)(x:Pat)(out:List B):Gd (l++ [x]) out=mM (Gd l out) x.lab:=by
 simp[Gd]
def qjT(l:List Pat):∀out,(Gd l out).length<=out.length+l.length:=by
 induction l with
 |nil=>intro out;simp[Gd]
 | cons x l a=>
   intro out;have:=a (mM out x.lab);have:=Jv out x.lab;unfold Gd at*;simp only[qGY,qGB];omega
def qfY{p:Pat}(h:eP ax p=true):EE rL p:=by
 unfold eP at h;simp only[qFS]at h;exact yW (Gy p h.1.1.2) λq h=>(qU q).1 h
abbrev qdS:Spc:=ay (a1 Pat) (λp=>eP ax p=true/\cX p<=1000000) (enc (X:=List B)) λp y=>y=bp p []
theorem TW(h1:S pD=uh):aq xZ xg S (a1 Pat) (λp=>eP ax p=true/\cX p<=1000000) (enc (X:=List B)) λp y=>y=bp p []:=by
 rintro p ⟨hp,hn⟩;have hl:=iR p;have c:(am p).length<=100000000:=by omega
 have d:=qnM (qfY hp) [];simp[xZ,xg,h1,hp,c,-fB',-eB'];intro u;refine ah (X:=Value×List B) [10] [] (am p).length (λk z=>z.2=Gd ((am p).take k) []) (λz=>[(3, .own 39 z.1)]) (λz=>[(39, .row z.1 av 1 (z.2.map enc))]) (.slice none 0 0, []) (by simp[Gd]) ?_ ?_ (hh:=by simp[isNilRow])
 ·rintro k ⟨v,z⟩ hk hz;have hz:z=Gd ((am p).take k) []:=hz;obtain⟨x,h⟩:=aQ hk;obtain⟨_,l⟩:=qFN.1 h;have w:z.length<=k:=by
   have:=qjT ((am p).take k) [];rw[hz];simp only[qGd,qHq]at this;omega
  have q:Gd ((am p).take (k+1)) []=mM z x.lab:=by rw[au h,qgv,<-hz]
  simp[hk,h,l,-fB',-eB'];intro b A;refine ah (X:=Bool) [3,5,10,11,12,19] [5,39] z.length (λj kn=>kn=(decide (x.lab=E0)||decide (x.lab∈z.take j))) (λkn=>[(6,enc kn)]) (λ_=>[]) (decide (x.lab=⟨#[]⟩)) (by simp[E0];congr) ?_ ?_
  ·rintro j kn t a;obtain⟨y,r⟩:=aQ t;obtain⟨_,s⟩:=qFN.1 r;have e:(decide (x.lab=E0)||decide (x.lab∈z.take (j+1)))=(kn||decide (y=x.lab)):=by rw[au r,a];simp[Bool.or_assoc,eq_comm]
   rw[e];clear a;cases kn<;>simp[t,r,s,-fB',-eB']
  ·rintro kn a;rw[qFX]at a;rw[q];unfold mM DI;by_cases h0:x.lab=E0
   ·have:kn=true:=by simp[a,h0]
    subst this;simp[h0,-fB',-eB']
   ·by_cases h1:x.lab∈z
    ·have:kn=true:=by simp[a,h1]
     subst this;simp[h0,h1,-fB',-eB']
    ·have:kn=false:=by simp[a,h0,h1]
     subst this;simp[h0,h1,-fB',-eB'];exact⟨by omega,by omega⟩
 ·rintro⟨v,z⟩ hz;have hz:z=Gd ((am p).take (am p).length) []:=hz;rw[qFX,d]at hz;subst hz;simp[-fB',-eB'];exact aM (bp p []) (fM av (by simp)) rfl
structure qsm (a:List Attr) (q:Qry):Prop where
 v:qbd a q
 lv:∀x∈am q.pat,qlO (x.cond,a,bp q.pat [])
def qn2{f:Filt}(h:GF f):ax f.reg=true:=qnS (.inl h.2)
abbrev YY:Spc:=ay (a2 Qry (List Attr)) (λx=>qsm x.2 x.1) (enc (X:=Int)) λ_ y=>y=0
theorem NH(h1:S lM=Ke)(h2:S nX=Ox)(h3:S aK=oq)(h4:S jE=FH)(h5:S ra=zM)(h6:S AH=qdS)(A:S gp=s_leaves)(C:S pF=s_rVal)(E:S xM=Sw)(l:S vt=YU):
 aq tH tb S (a2 Qry (List Attr)) (λx=>qsm x.2 x.1) (enc (X:=Int)) λ_ y=>y=0:=by
 rintro⟨q,a⟩ ⟨b,p⟩;have b:qbd a q:=b;have hp:=b.pat;unfold eP at hp;simp only[qFS]at hp;obtain⟨⟨⟨F,I⟩,J⟩,K⟩:=hp;have j:¬256<fu q.pat:=by have:=b.size;omega
 have r:¬3<((bp q.pat []).length:Int):=by have:=b.l3;omega
 have L:(bp q.pat []).length<=100:=by have:=b.l3;omega
 have M:¬q.strat< 0:=by have:=b.strat;omega
 have N:¬3<q.strat:=by have:=b.strat;omega
 have O:eP ax q.pat=true/\cX q.pat<=1000000:=⟨b.pat,b.num⟩
 have s:qhj q.pat []:=by have:=iR q.pat;have:=b.num;show 0+_<=_;omega
 have t:qDx q.glob:=b.glob.imp id λh=>⟨_,2,qFU _,h⟩
 have u:yq (q.glob,a,bp q.pat []):=⟨b.att,b.glob.imp id λh=>⟨2,h⟩⟩
 simp[tH,tb,h1,F,I,M,N,h2,J,-fB',-eB'];intro Q;refine ah (X:=Unit) [1,2,32] [] q.filts.length (λ_ _=>True) (λ_=>[]) (λ_=>[]) () trivial ?_ ?_
 ·rintro k -hk -;obtain⟨x,c⟩:=aQ hk;obtain⟨_,d⟩:=qFN.1 c;have hn:=qn2 (b.filts x (qFP c));simp[hk,c,d,h3,hn,-fB',-eB']
 rintro - -;simp[h4,K,h5,b.pat,j,h6,O,r,A,s,-fB',-eB'];refine⟨by omega,λ_ U=>⟨by omega,λ_=> .inl λv w=>?_⟩⟩;refine ah (X:=Unit) [1,2,7,59] [59] (am q.pat).length (λ_ _=>True) (λ_=>[]) (λ_=>[]) () trivial ?_ ?_
 ·rintro k -hk -;obtain⟨x,c⟩:=aQ hk;obtain⟨_,d⟩:=qFN.1 c;have W:qlO (x.cond,a,bp q.pat []):=p x (qFP c);simp[hk,c,d,C,W,-fB',-eB']
 rintro - -;simp[-fB',-eB'];intro _;refine ah (X:=Unit) [1,2,7,75] [] q.filts.length (λ_ _=>True) (λ_=>[]) (λ_=>[]) () trivial ?_ ?_
 ·rintro k -hk -;obtain⟨x,c⟩:=aQ hk;obtain⟨_,d⟩:=qFN.1 c;have hf:=(b.filts x (qFP c)).1;have Y:¬x.op< 1:=by omega
  have Z:¬3<x.op:=by omega
  simp[hk,c,d,Y,Z,-fB',-eB']
 ·rintro - -;simp[E,l,t,u,-fB',-eB']
end
section
open Go.Proofs
def sa:CC:=gq Tryz.f243 [1] {} _
def rQ:List ai:=[.tmp 2]
def Rr:FO pE [1] sa rQ 18:=fo
def lR:CC:=gq Tryz.f175 [] {} _
def lI:List ai:=[.cell 2 true 7]
def Vl:FO sG [] lR lI 35:=fo
def A1:CC:=gq Tryz.f111 [1] {} _
def zY:List ai:=[.cell 2 true 7]
def Vr:FO C8 [1] A1 zY 15:=fo
def ya:CC:=gq Tryz.f46 [2] {} _
def xh:List ai:=[.tmp 4, .tmp 5]
def Rs:FO AI [2] ya xh 43:=fo
end
end Go.Gv
