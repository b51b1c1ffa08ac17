/- W222 -/
import Derived.Ground.GgzProg
import Derived.Test.YtfpmgnnippjblaaGreatDoorProg
import Derived.Test.YtfpmgnnippjblaaGreatDoorGc25
set_option linter.all false
set_option maxRecDepth 100000
set_option maxHeartbeats 0
open Bool renaming forall_bool → fB', exists_bool → eB'
namespace Go.Gv
section
open Cod (enc dec)
variable {S S0:Nat->Spc}
def My(h1:S mW=df)(h2:S dE=s_leavesQ):aq tT tq S (a1 Pat) (λx=>qhv x []) (enc (X:=List Pat)) λx y=>y=if eX ay x then bA x else[]:=by
 rintro p hp;have hp:qhv p []:=hp;simp[tT,tq,h1,h2,hp,-fB',-eB'];clear h1 h2;exact⟨λh=>aL [] (by simp) (by rw[h];rfl),λh=> .inl λv=>aL (bA p) (fq bM (by simp)) (by rw[h];rfl)⟩
abbrev Zl:Spc:=ax (a2 Corpus Cond) JK (iA (Y:=Int) (Z:=Int)) λz y=>y=(((uQ z.1 z.2).length:Int),0)
def J8(h1:S iZ=qi4):aq qm pb S (a2 Corpus Cond) JK (iA (Y:=Int) (Z:=Int)) λz y=>y=(((uQ z.1 z.2).length:Int),0):=by
 rintro⟨c,x⟩ a;simp[qm,pb,h1,a,-fB',-eB']
def oj(c:Corpus)(q:Qry):List Int:=(am q.pat).map λx=>((uQ c x.cond).length:Int)
abbrev SP(V:List Attr->Qry->Prop):Spc:=ax (a2 Corpus Qry) (λz=>xj V z.1 z.2) (iA (Y:=List Int) (Z:=Int)) λz y=>y=(oj z.1 z.2,0)
theorem Hs{V:List Attr->Qry->Prop}(h1:S ft=Ib V)(h2:S pK=uS)(h3:S rh=Zl):aq nO nB S (a2 Corpus Qry) (λz=>xj V z.1 z.2) (iA (Y:=List Int) (Z:=Int)) λz y=>y=(oj z.1 z.2,0):=by
 rintro⟨c,q⟩ d;have d:xj V c q:=d;have r:V c.attrs q:=d.v;have hlen:(bA q.pat).length=(am q.pat).length:=by unfold bA;simp
 have s:(am q.pat).length<=100000000:=by have:=d.pl.1;simpa using this
 simp[nO,nB,h1,h2,r,d.pat,d.pl,-fB',-eB'];intro t;refine ah (X:=Value×List Int) [2,21] [] (bA q.pat).length (λk z=>z.2=(oj c q).take k) (λz=>[(7, .own 40 z.1)]) (λz=>[(40, .row z.1 bC 1 (z.2.map enc))]) (.slice none 0 0, []) (by simp) ?_ ?_ (hh:=by simp[isNilRow])
 ·rintro k ⟨v,z⟩ hk hz;have hz:z=(oj c q).take k:=hz;obtain⟨a,l⟩:=aM (show k<(am q.pat).length by omega);have p:(bA q.pat)[k]? =some (mC a):=by unfold bA;rw[qGn,l];rfl
  obtain⟨u,h⟩:=qF4.1 p;have b:JK (c,(mC a).cond):=d.sel a (qF7 l);have j:(oj c q)[k]? =some (((uQ c (mC a).cond).length:Int)):=by unfold oj;rw[qGn,l];rfl
  have w:z.length=k:=by rw[hz,qGv];unfold oj;rw[qGE];omega
  generalize x:mC a=A at p h b j;simp[hk,p,h,h3,b,-fB',-eB'];refine⟨by omega,by omega,λv'=> .inl ?_⟩;rw[hz,<-List.map_take,au j];simp
 ·rintro⟨v,z⟩ hz;have hz:z=(oj c q).take (bA q.pat).length:=hz;have:z=oj c q:=by rw[hz,qGR];unfold oj;rw[qGE];omega
  subst this;simp[-fB',-eB'];exact fq bC (by simp[aj])
def xg(n:List Int):List Span->List Span->List Span
 |out, []=>out
 | out,s::l=>xg n (match out with
   | []=>[s]
   |o::_=>if(n[s.b.toNat]?).getD 0<(n[o.b.toNat]?).getD 0 then[s]else out) l
def QE(n:List Int):∀(l out:List Span) (s:Span),xg n out (l++ [s])=xg n (xg n out l) [s]
 | [],out,s=>rfl
 | a::l,out,s=>by
   show xg n _ (l++ [s])=xg n (xg n _ l) [s];exact QE n l _ s
def qdE(z:Corpus×Qry)(y:List Span×Int):Prop:=∃F,SrcsOf z.2.pat F/\y=(xg (oj z.1 z.2) [] F,0)
abbrev qea(V:List Attr->Qry->Prop):Spc:=ax (a2 Corpus Qry) (λz=>xj V z.1 z.2) (iA (Y:=List Span) (Z:=Int)) qdE
theorem Yk{V:List Attr->Qry->Prop}(h1:S pP=SP V)(h2:S lO=qw):aq Bp Au S (a2 Corpus Qry) (λz=>xj V z.1 z.2) (iA (Y:=List Span) (Z:=Int)) qdE:=by
 rintro⟨c,q⟩ d;have d:xj V c q:=d;have y:gX q.pat:=d.fx;have Q:=d;simp[Bp,Au,h1,h2,d,y,-fB',-eB'];intro F j I;have j:SrcsOf q.pat F:=by
  have j:eV q.pat F:=j;unfold eV at j;rwa [if_pos ⟨d.pat,d.size⟩]at j
 have J:(oj c q).length=(am q.pat).length:=by unfold oj;simp
 have p:∀s∈F,0<=s.b/\s.b<(oj c q).length:=λs hs=>by
  obtain⟨U,W,r3,r4⟩:=UZ q.pat d.pat 0 0 s ((j.2 s).1 hs);omega
 refine ah (X:=List Span) [6,22] [] F.length (λk z=>z=xg (oj c q) [] (F.take k)/\z.length<=1/\∀s∈z,s∈F) (λz=>[(8, .list 2 (z.map enc))]) (λ_=>[]) [] ⟨rfl,by simp,by simp⟩ ?_ ?_
 ·rintro k z hk ⟨hz,A,r⟩;obtain⟨x,l⟩:=aM hk;obtain⟨_,t⟩:=qF4.1 l;obtain⟨K,L⟩:=p x (qF7 l);obtain⟨nx,u⟩:=aM (show x.b.toNat<(oj c q).length by omega);obtain⟨_,C⟩:=qF4.1 u;have a:xg (oj c q) [] (F.take (k+1))=xg (oj c q) z [x]:=by rw[au l,QE,<-hz]
  clear hz;cases z with
  | nil=>
    simp[hk,l,t,a,xg,-fB',-eB'];exact⟨[x],⟨rfl,by simp,λs hs=>by simp at hs;subst hs;exact qF7 l⟩,by simp⟩
  | cons o M=>
    have:M=[]:=by simpa using A
    subst this;obtain⟨N,O⟩:=p o (r o (by simp));obtain⟨no,w⟩:=aM (show o.b.toNat<(oj c q).length by omega);obtain⟨_,E⟩:=qF4.1 w;simp[hk,l,t,u,C,w,E,K,L,N,O,a,xg,-fB',-eB'];have mx:∀s∈ [x],s∈F:=λs hs=>by simp at hs;subst hs;exact qF7 l
    exact⟨λh=>⟨[x],⟨by rw[if_pos h],by simp,mx⟩,by simp⟩,λh=>⟨[o],⟨by rw[if_neg (by omega)],by simp,r⟩,by simp⟩⟩
 ·rintro z ⟨hz,_,_⟩;rw[qGc]at hz;simp[-fB',-eB'];exact⟨z, .same _,F,j,by rw[hz]⟩
def qbw(p:Pat)(y:List Span):Prop:=eV p y/\y.length<=jA p
abbrev zZ:Spc:=ax (a1 Pat) gX (enc (X:=List Span)) qbw
def Ui(h1:S fZ=df)(h2:S GE=FW)(h3:S sF=H8):aq A7 Ad S (a1 Pat) gX (enc (X:=List Span)) qbw:=by
 rintro p ⟨b,a⟩;simp[A7,Ad,h1,h2,h3,-fB'];clear h1 h2 h3;refine⟨λh=>?_,λh=>aL [] (by simp) ⟨by unfold eV;rw[if_neg (by rw[h];simp)],qGr _⟩⟩;rw[if_pos h];refine⟨λh2=>aL [] (by simp) ⟨by unfold eV;rw[if_neg (by omega)],qGr _⟩,λh2=>⟨⟨dL p,⟨qGb _,h⟩,qHb _,by show(0:Int) +200000* (cK p:Int)<=_;omega,qHb _,by show(0:Int) + (cK p:Int)<=_;omega,SS.nil,by show([]:List Span).length+_<=_;simpa using a⟩,?_⟩⟩;rintro y ⟨c1,c2,c3⟩;refine aL y (by simp) ⟨?_,by simpa using c3⟩;unfold eV;rw[if_pos ⟨h,h2⟩];exact⟨c1,λs=>by rw[c2 s];simp⟩
def qmc(x:List Int×Qry):Prop:=gX x.2.pat/\jA x.2.pat<=1000
abbrev Zs:Spc:=ax (aT (a1 Qry)) qmc (enc (X:=List Span)) λ_ y=>y.length<=2000
theorem qhU(h1:S wU=zZ)(h2:S bS=s_m_Next):aq ua tA S (aT (a1 Qry)) qmc (enc (X:=List Span)) λ_ y=>y.length<=2000:=by
 rintro⟨L,q⟩ ⟨c,d⟩;have c:gX q.pat:=c;have d:jA q.pat<=1000:=d;simp[ua,tA,h1,c,-fB',-eB'];rintro F ⟨r,l⟩ p;refine ah (X:=Value×List Span) [0,10] [] F.length (λk z=>z.2.length<=k) (λz=>[(5, .own 22 z.1)]) (λz=>[(22, .row z.1 bL 2 (z.2.map enc))]) (.slice none 0 0, []) (by simp) ?_ ?_ (hh:=by simp[isNilRow])
 ·rintro k ⟨v,z⟩ hk hz;have hz:z.length<=k:=hz;obtain⟨x,j⟩:=aM hk;obtain⟨_,h⟩:=qF4.1 j;simp[hk,j,h,h2,-fB',-eB'];refineλy _ _=>⟨λ_=>⟨by omega,by omega,λv'=>⟨v',z++ [x],by simp;omega,rfl, .inl ⟨rfl,by simp⟩⟩⟩,λ_=>⟨v,z,by omega,rfl, .inl ⟨rfl,rfl⟩⟩⟩
 ·rintro⟨v,z⟩ hz;have hz:z.length<=F.length:=hz;simp[h2,-fB',-eB'];refineλy _ _=>⟨λ_ a _ _ b _ _=>⟨by omega,by omega,λv'=>aL (z++ [⟨a,b⟩]) (fq bL (by simp[aj])) (by simp;omega)⟩,λ_=>aL z (fq bL (by simp[aj])) (by omega)⟩
end
section
open Cod (enc dec)
open Go.Proofs Go.Sort Go.Shelf Go.Lib Go.RowKit
variable {dq:Prop}
section
variable {P:Program}{ρ:Ren}{X:Type}[Cod X][Inhabited X]
def qwM(g:Nat)(x:D×Unit)(l:List X):Prop:=x.1= .clo g []/\l.length<=100000
def qlY(cf:X->X->Int)(_:D×Unit)(l r:List X):Prop:=r=l.mergeSort λx y=>!(ltOf cf) y x
theorem qlv(hTb:sw=[]){g:Nat}{cf:X->X->Int}(ev:X->List Value)(l:∀x,enc x=D.agg ((ev x).map D.v))(a:∀x,∀v∈ev x,v.oneCell'=true/\∀s,v= .string s->s.size<=maxLen)
 (A:Tri True P g (ax (a2 X X) (λ_=>True) (enc (X:=Int)) λx y=>y=cf x.1 x.2).pt) (blk size k:Nat) (w:World):CmpLays P g #[] ev k cf blk 0 size w:=by
 intro m os C _ x y;generalize sortWorldK ev k w blk 0 m C os=W;have E:∀z,R (λ_=>False) (be (λb=>b<W.heap.size) (λ_=>False) dm W) W (.agg (ev z).toArray) (enc z):=λz=>by
  rw[l z];refine .agg (ev z) _ (by simp) (λv q=>(a z v q).1) λj v c h1 h2=>?_
  rw[qGn]at h2;rw[h1]at h2;cases h2;exact .v v (a z v (qF7 h1)).1 (a z v (qF7 h1)).2
 obtain⟨_,hc⟩:=A (λb=>b<W.heap.size) (λ_=>False) W [.agg (ev x).toArray, .agg (ev y).toArray] [enc x,enc y] dm 0 (λr H'=>r=enc (cf x y)/\H'=dm) (λb h=>h) ⟨λb h=>h.elim,λp hp=>by grind⟩
  ⟨λi j r s b h=>by simp,λi r b h=>by simp_all,λi r h=>by simp_all⟩ rfl
  (λj v c h1 h2=>by
    grind)
  (by simp)
 refine hc.mono ?_;rintro e w' ⟨v,r,H',d,rfl,⟨rfl,rfl⟩,_,_,_,hs,_,_,q⟩;have t:v= .int .i64 (cf x y):=by
  have:R d (be (λb=>b<W.heap.size) d dm w') w' v (.v (.int .i64 (cf x y))):=q;exact this.inv_v
 subst t;refine⟨rfl,w'.drawn -W.drawn,w'.heap.extract W.heap.size w'.heap.size,?_⟩;have u:w'.heap=W.heap++w'.heap.extract W.heap.size w'.heap.size:=by
  apply Array.ext_getElem?;intro b;by_cases hb:b<W.heap.size
  ·rw[qGX hb];exact hs.same b hb (λ⟨i,r,h,_⟩=>by simp_all) (λh=>h)
  grind
 have h1:=hs.os;have h2:=hs.tape;have h3:=hs.output;have h4:=hs.drawn trivial;have h5:W.drawn+ (w'.drawn -W.drawn)=w'.drawn:=by omega
 cases w';grind [sw,D,Cod.enc,Tri,grow,World.drewN]
theorem UR(hTb:sw=[]){I g:Nat}{cf:X->X->Int}(L:SlLaysF0.n6 P ρ)(hf:ρ.f 6=I)(ev:X->List Value)(k el:Nat)(hk:∀x,(ev x).length=k)(hev:∀x,enc x=D.agg ((ev x).map D.v))
 (C:∀x,∀v∈ev x,v.oneCell'=true/\∀s,v= .string s->s.size<=maxLen) (aE:∀w,(isAgg (ρ.t 24)).run P w= .ok true w) (zE:∀w,(Go.sizeOf (ρ.t 24)).run P w= .ok k w)
 (hO:SWO (ltOf cf)) (hT:∀x y,(ltOf cf) x y=false->(ltOf cf) y x=false->x=y) (hg:Tri True P g (ax (a2 X X) (λ_=>True) (enc (X:=Int)) λx y=>y=cf x.1 x.2).pt) (eg:dH P g) (ef:dH P I):
 Tri dq P I (qti (aD a0) (qwM g) (qlY cf) el k).pt:=by
 subst hf;intro O tp w vs ds H d K hO' htl p hlen u hA;obtain⟨id,v,l,ds',x,rfl,hd,hid,⟨hx1,hl5⟩,hK⟩:=hA;have hds:ds'=[.clo g []]:=by
  match ds',hd with
  | [],h=>cases h
  | a::r,h=>
    rw[qsz]at h
    match r,h with
    | [],h=>
      simp at h;grind
    |b::r,h=>cases h
 subst hds
 match vs,hlen,u with
 | [v0,fv],_,u=>
 have e0:v0=v:=by
  have:=u 0 v0 _ rfl rfl;cases this;rfl
 have e1:fv= .func (.func g) #[] #[]:=by
  have:=u 1 fv _ rfl rfl;cases this<;>grind
 subst e0;subst e1;refine⟨ef,?_⟩;obtain⟨xs,⟨hxl,hx⟩,hkn,hcells⟩:=p.ok id _ hid;rcases hx with⟨rfl,h0⟩|⟨E,cap,cur,rfl,_,hgb,hcap,hcapm,hsz,S⟩
 ·have hl0:l=[]:=by grind
  subst hl0;refine(AnyF.slices_SortFunc_none L none 0 _ w).mono ?_;rintro e w' ⟨rfl,rfl⟩;have hH:aj H id (some (.row (.slice none 0 0) el k (([]:List X).map enc)))=H:=by
   grind [aj]
  refine⟨_,_,_,tp,rfl,hK [] (by simp[qlY]),λb h=>h,λb h=> .inl h,htl.1, .refl _ _ _,λb h=> .inl (by grind),by grind, .tup [] [] rfl (λk x c h=>by simp)⟩
 ·have hll:(l.map (enc (X:=X))).length=l.length:=by simp
  rw[hll]at hcap hxl S ⊢;have hval:∀(j:Nat) (y v':Value),xs[j]? =some y->(bq (l.map enc))[j]? =some (.v v')->y=v':=λj y v' h1 h2=>((hcells j y _ h1 h2).2).inv_v
  have hfl:bq (l.map enc)=(l.flatMap ev).map D.v:=by
   unfold bq;rw[List.flatMap_map,List.map_flatMap];congr 1;funext z;rw[hev z];rfl
  have hfml:=WD (f:=ev) (n:=k) (l:=l) (λx _=>hk x);have hxs:xs=l.flatMap ev:=by
   apply qGN;intro j;by_cases Z:j<l.length*k
   ·have e1:xs[j]? =some xs[j]:=qF6 (by omega);have e2:(l.flatMap ev)[j]? =some (l.flatMap ev)[j]:=qF6 (by omega);rw[e1,e2];congr 1;refine hval j _ _ e1 ?_;rw[hfl,qGn,e2];rfl
   ·rw[qGu (by omega),qGu (by omega)]
  have hcur:∀j,j<l.length*k->cur[j]? =(l.flatMap ev)[j]?:=λj Z=>by
   rw[<-hxs,<-S,qGo,if_pos Z,qGx]
  have hgs:E<w.heap.size:=(qGg.1 hgb).1;have hH:HoldsK ev k w E 0 l.toArray:=by
   intro j Z;have hj':j<l.length*k:=by simpa using Z
   refine⟨?_,IY hgb⟩;rw[Qt hgb,qGS,hcur j hj',<-P1 ev k hk l,qGx,qGY Z,getElem!_pos _ j Z];rfl
  have J:=AnyQ.slices_SortFunc_total L k aE zE ev hk (λx v hv=>(C x v hv).1) cf hO g #[] E 0 cap l.toArray w eg (qlv hTb ev hev C hg E _ k w) hH hgs (by simp;omega) hT;simp only[qHn]at J;refine J.mono ?_;rintro e w' ⟨rfl,n,os,N⟩;generalize hl':(l.mergeSort λx y=>!(ltOf cf) y x)=Q at N;have A:Q.length=l.length:=by rw[<-hl'];simp
  have hwo:∀b,b<w.heap.size->b≠E->w'.heap[b]? =w.heap[b]?:=λb hb hne=>by
   rw[N];exact SZ (w:=Sort.ahead w n) hb hne
  have hthis:w'.heap[E]? =some (.cells (putCells _root_.id 0 (flatK ev k Q.toArray) cur) el (0,0)):=by
   rw[N];exact ZH (w:=Sort.ahead w n) hgb
  have hws:w.heap.size<=w'.heap.size:=by
   rw[N];simp[sortWorldK,grow,putRowK,putRow,mapBlock,Sort.ahead]
  have hos:w'.os=w.os/\w'.tape=w.tape/\w'.output=w.output/\w.drawn<=w'.drawn:=by
   rw[N];exact⟨rfl,rfl,rfl,Nat.le_add_right _ _⟩
  clear N J;have hbo:(Res.row (.slice (some ⟨E,0,none⟩) l.length cap) el k (l.map enc)).blk=some E:=rfl;have q:H id=some (.row (.slice (some ⟨E,0,none⟩) l.length cap) el k (l.map enc)):=by rw[hid,hll]
  have U:bG H E:=⟨id,_,q,hbo⟩
  have htp:∀b,tp b->b≠E:=λb hb e=>(p.out id _ E q hbo).2 (e ▸hb)
  have M:∀b,tp b->TapeStep w w' b:=λb hb=> .same (hwo b (htl.1 b hb) (htp b hb))
  have hK':=hK Q (by simp only[qlY];rw[hl']);rw[hll]at hK';generalize hH2:aj H id (some (.row (.slice (some ⟨E,0,none⟩) l.length cap) el k (Q.map enc)))=H2 at hK';have W:∀b,bG H2 b->bG H b:=λb ⟨i,r,h1,h2⟩=>by
   rw[<-hH2]at h1;simp only[aj]at h1;split at h1
   ·cases h1;cases h2;exact U
   ·exact⟨i,r,h1,h2⟩
  have hmove:∀y c,R tp (be O tp H w) w y c->R tp (be O tp H2 w') w' y c:=λy c hr=>hr.mono (λ_ h=>h) (λb hb=>⟨⟨qGl hb.1 hws,hb.2.1,hb.2.2.1,λh=>hb.2.2.2 (W b h)⟩,hwo b hb.1 (λe=>hb.2.2.2 (e ▸U))⟩) M
  have F:∀i r,H2 i=some r->(i=id/\r= .row (.slice (some ⟨E,0,none⟩) l.length cap) el k (Q.map enc))\/(i≠id/\H i=some r):=λi r h=>by
   rw[<-hH2]at h;simp only[aj]at h;split at h
   ·rename_i e;cases h;exact .inl ⟨e,rfl⟩
   ·rename_i e;exact .inr ⟨e,h⟩
  refine⟨_,_,H2,tp,rfl,hK',λb h=>h,λb h=> .inl h,λb hb=>qGl (htl.1 b hb) hws,⟨hos.1,hos.2.1,hos.2.2.1,hws,λb hb ho ht=>hwo b hb (λe=>ho (e ▸U)),M,λ_=>hos.2.2.2⟩,λb h=> .inl (W b h),⟨?_,?_,?_⟩, .tup [] [] rfl (λk x c h=>by simp at h)⟩
  ·intro i j r s b h1 h2 h3 h4;rcases F i r h1 with⟨rfl,rfl⟩|⟨n1,k1⟩
   ·rcases F j s h2 with⟨rfl,rfl⟩|⟨n2,k2⟩
    ·rfl
    ·exact p.dis _ j _ s b q k2 h3 h4
   ·rcases F j s h2 with⟨rfl,rfl⟩|⟨n2,k2⟩
    ·exact p.dis i _ r _ b k1 q h3 h4
    ·exact p.dis i j r s b k1 k2 h3 h4
  ·intro i r b h1 h2;rcases F i r h1 with⟨rfl,rfl⟩|⟨n1,k1⟩
   ·exact p.out _ _ b q h2
   ·exact p.out i r b k1 h2
  ·intro i r h1;rcases F i r h1 with⟨rfl,rfl⟩|⟨n1,k1⟩
   ·have Y:=WD (f:=ev) (n:=k) (l:=Q) (λx _=>hk x);have hps:(putCells _root_.id 0 (flatK ev k Q.toArray) cur).size=cur.size:=by simp[putCells]
    refine⟨Q.flatMap ev,⟨by simp;rw[<-List.length_flatMap];exact Y, .inr ⟨E,cap,_,by simp[A],qGr _,hthis,by simp;omega,hcapm,by rw[hps,hsz],?_⟩⟩,λd hd=>?_,λj y c h1 h2=>?_⟩
    ·simp only[qGE,A];apply qGN;intro j;rw[qGo];by_cases Z:j<l.length*k
     ·have hjc:j<cur.size:=by
       have:l.length*k<=cap*k:=qGw k hcap;omega
      have hjf:j<(flatK ev k Q.toArray).size:=by simp[A];exact Z
      rw[if_pos Z,qGx,<-P1 ev k hk Q,qGx];simp only[putCells,Array.getElem?_mapIdx,qGY hjc,qHJ,qGr,qGS,hjf,and_self,if_true,Nat.sub_zero,id_eq];rw[qGY hjf,getElem!_pos _ j hjf]
     ·rw[if_neg Z,qGu (by rw[Y,A];omega)]
    ·obtain⟨z,_,rfl⟩:=qGd.1 hd;rw[hev z];exact⟨rfl,by simp[D.cells,hk]⟩
    ·have hfl':bq (Q.map enc)=(Q.flatMap ev).map D.v:=by
      unfold bq;rw[List.flatMap_map,List.map_flatMap];congr 1;funext z;rw[hev z];rfl
     rw[hfl',qGn,h1]at h2;cases h2;obtain⟨z,_,hz⟩:=qHW.1 (qF7 h1);exact⟨(C z y hz).1, .v y (C z y hz).1 (C z y hz).2⟩
   ·have hne:∀b,r.blk=some b->b≠E:=λb hb e=>n1 (p.dis i id r _ E k1 q (e ▸hb) hbo)
    exact(p.ok i r k1).conv hmove (λb hb=>hwo b ((p.ok i r k1).lt hb) (hne b hb))
end
instance:Inhabited Span:=⟨⟨0,0⟩⟩
def qEF(s:Span):List Value:=[.int .i64 s.b, .int .i64 s.e]
theorem AM(x y:Span):ltOf sQ x y=decide (B6 x y):=by
 unfold ltOf;have:=qlw x y;grind
def qqx:Go.Sort.SWO (ltOf sQ) where
 irrefl x:=by grind [AM,NG]
 trans x y z h1 h2:=by grind [AM,KZ]
 ntrans x y z h1 h2:=by grind [AM,B6]
def YH{P:Program}{f:Nat}{X Y:Type}[Cod Y]{A:fN X}{pre j:X->List Y->Prop}{post k:X->List Y->List Y->Prop}{el n:Nat}(h:Tri dq P f (qti A pre post el n).pt)(h1:∀x l,j x l->pre x l)(h2:∀x l r,j x l->post x l r->k x l r):
 Tri dq P f (qti A j k el n).pt:=λO tp w vs ds H d K a b c e g ⟨id,v,l,p,x,t,u,y,q,C⟩=>h O tp w vs ds H d K a b c e g ⟨id,v,l,p,x,t,u,y,h1 x l q,λs hp=>C s (h2 x l s q hp)⟩
open Go.Proofs Cod
def qlC{p:Cond}(h:bi p<=0):False:=by rw[Bw]at h;omega
def LH:TQ dq iC zd:=
 ac (ag ae) Iu (Uv)
def qb7:TQ dq rc Ie:=
 ac (ag (aa LH ae)) L4 (Yg rfl)
def sZ:TQ dq aK ot:=
 ac (ag (aa LH (aa qb7 ae))) zt (J0 rfl rfl)
def O6:∀n,TQ dq vF (qd5 n)
 | 0=>bF λx h=>qlC h
 |n+1=>aY (ag (aa (O6 n) ae)) ZS (λ_=>qF8 rfl) (qbO n rfl)
def qb6:TQ dq vF qd6:=
 cw (λn=>O6 n) (dB (λx _=>⟨bi x.1,qGb _⟩))
def YA:TQ dq Dj LQ:=
 ac (ag (aa qb6 ae)) VB (XO rfl)
def Ik:∀n,TQ dq lL (Y8 n)
 | 0=>bF λx h=>qcJ h.1
 |n+1=>aY (ag (aa YA (aa (Ik n) ae))) RG (λ_=>qF8 rfl) (Uk n rfl rfl)
def HK:TQ dq lL Kq:=
 cw (λn=>Ik n) (dB (λx h=>⟨dL x.1,qGb _,h⟩))
def LZ:∀n,TQ dq nX (qec n)
 | 0=>bF λx h=>qcJ h
 |n+1=>aY (ag (aa sZ (aa (LZ n) ae))) VC (λ_=>qF8 rfl) (XP n rfl rfl)
def LG:TQ dq nX OL:=
 cw (λn=>LZ n) (dB (λx _=>⟨dL x,qGb _⟩))
def E1:∀n,TQ dq jG (SI n)
 | 0=>bF λx h=>qcJ h
 |n+1=>aY (ag (aa (E1 n) ae)) Pf (λ_=>qF8 rfl) (Q8 n rfl)
def ES:TQ dq jG FX:=
 cw (λn=>E1 n) (dB (λx _=>⟨dL x,qGb _⟩))
def nj:TQ dq fZ df:=
 ac (ag (aa HK (aa LG (aa ES ae)))) KD (Mq rfl rfl rfl)
def O4:∀n,TQ dq ra (U5 n)
 | 0=>bF λx h=>qcJ h.1
 |n+1=>aY (ag (aa (O4 n) ae)) ZO (λ_=>qF8 rfl) (qbK n rfl)
def Oc:TQ dq ra zY:=
 cw (λn=>O4 n) (dB (λx h=>⟨dL x,qGb _,h⟩))
def LY:∀n,TQ dq sG (Ny n)
 | 0=>bF λx h=>qcJ h.1
 |n+1=>aY (ag (aa (LY n) ae)) VA (λ_=>qF8 rfl) (XN n rfl)
def Yz:TQ dq sG H5:=
 cw (λn=>LY n) (dB (λx h=>⟨dL x,qGb _,h⟩))
def Il:∀n,TQ dq gu (qag n)
 | 0=>sr λd ds H K ⟨id,v,l,a,x,h1,h2,h3,h4,h5⟩=>qcJ h4.1
 |n+1=>zV (ag (aa (Il n) ae)) E7 (by decide) (Ul n rfl)
def Cu:Tri dq Tryz.prog gu i_leavesA.pt:=cw (λn=>Il n) λd ds H K ⟨id,v,l,a,x,h1,h2,h3,h4,h5⟩=>⟨dL x,id,v,l,a,x,h1,h2,h3,⟨qGb _,h4⟩,h5⟩
def HL:Tri dq Tryz.prog gu s_leaves.pt:=Om (DZ (ag (aa Cu ae)) E7 (λ_=>qF8 rfl) (Q9 rfl)) Cu
def zT:TQ dq pE uo:=
 ac (ag (aa nj (aa HL ae))) RH (Um rfl rfl)
def qb5:TQ dq GE FW:=
 ac (ag (aa nj (aa Oc ae))) ZQ (qbM rfl rfl)
def YB:TQ dq Dk D4:=
 ac (ag (aa nj (aa Yz ae))) VD (XQ rfl rfl)
def UP:TQ dq ux Ia:=
 ac (ag (aa xo (aa zU ae))) RV (UA rfl rfl)
def qb3:TQ dq Gz OK:=
 ac (ag ae) ZM (qbI)
def Ob:TQ dq AS FV:=
 ac (ag ae) ZN (qbJ)
def UL:TQ dq AR H7:=
 ac (ag (aa Ob ae)) RD (Uh rfl)
def LX:∀n,TQ dq sF (LP n)
 | 0=>bF λx h=>qcJ h.1.1
 |n+1=>aY (ag (aa UL (aa YB (aa zT (aa (LX n) ae))))) Vy (λ_=>qF8 rfl) (XM n rfl rfl rfl rfl)
def Yy:TQ dq sF H8:=
 cw (λn=>LX n) (dB (λx h=>h))
def LF:TQ dq wU zZ:=
 ac (ag (aa nj (aa qb5 (aa Yy ae)))) Vz (Ui rfl rfl rfl)
def yU:TQ dq io lF:=
 ac (ag ae) IA (J6)
def Cs:TQ dq kW EZ:=
 FN (ag ae) BX (λ_=>qF8 rfl) (Cl)
def yR:TQ dq eR zg:=
 FN (ag ae) xR (λ_=>qF8 rfl) (yN)
def FL:TQ dq fC nq:=
 ac (ag (aa xf (aa JF ae))) ok_estimate_compare (FD rfl rfl)
theorem xk:Tri dq Tryz.prog gL s_SortFunc_Source.pt:=by
 have h:=UR (dq:=dq) (hTb:=rfl) (cf:=sQ) (el:=bL) Tryz.sortSource rfl qEF 2 (λ_=>rfl) (λ_=>rfl) (λx v p=>by simp[qEF]at p;rcases p with rfl|rfl<;>exact⟨rfl,λs h=>by cases h⟩) Tryz.isAgg84 Tryz.sizeOf84
  qqx (λx y h1 h2=>by rw[AM]at h1 h2;simp at h1 h2;rcases NF x y with h|h|h<;>first|exact h|exact absurd h h1|exact absurd h h2) FL ok_estimate_compare.enter (iz Tryz.func100 (by kernel_rfl) rfl)
 refine YH h (λx l hp=>hp) (λx l r hp d=>?_);have d:r=l.mergeSort λx y=>!(ltOf sQ) y x:=d
 subst d;refine⟨by simp,λx=>by simp[List.mem_mergeSort],?_⟩;have:=List.pairwise_mergeSort (le:=λx y=>!(ltOf sQ) y x) (λa b c h1 h2=>by simp only[AM]at*;simp at*;unfold B6 at*;omega) (λa b=>by simp only[AM];simp;unfold B6;omega) l;refine qHe.2 λi j hi q k=>?_
 have h:=qHe.1 this i j hi q k;generalize (l.mergeSort λx y=>!(ltOf sQ) y x)[i]=a at h ⊢;generalize (l.mergeSort λx y=>!(ltOf sQ) y x)[j]=b at h ⊢;rw[AM]at h;simpa using h
def HJ:Tri dq Tryz.prog wT s_Sort_int.pt:=YF Tryz.sortInt rfl (iz Tryz.func108 (by kernel_rfl) rfl)
def Kg:TQ dq lN qv:=
 ac (ag (aa EU (aa yU (aa HJ (aa Cs ae))))) Iz (J5 rfl rfl rfl rfl)
def zn:∀n,TQ dq bH (Nz n)
 | 0=>sr λd ds H K ⟨id,b,x,z,a,h1,h2,h3,h4,h5,hp,c⟩=>qcJ hp.1.1
 |n+1=>FP (by decide) (S:=Kj [(mY,D4),(io,lF),(lN,qv),(bH,Nz n)]) (ag (aa EU (aa yU (aa Kg (aa (zn n) ae))))) xT (λ_=>qF8 rfl) (J4 n rfl rfl rfl rfl)
def yV:Tri dq Tryz.prog bH s_visitA.pt:=cw (λn=>zn n) λd ds H K ⟨id,b,x,z,a,h1,h2,h3,h4,h5,⟨n,hp⟩,c⟩=>⟨n,id,b,x,z,a,h1,h2,h3,h4,h5,hp,c⟩
def yW:TQ dq lO qw:=
 ac (ag (aa UP (aa yV (aa xk (aa yR ae))))) IB (J7 rfl rfl rfl rfl)
end
section
open Go.Proofs
open Cod (enc dec)
variable {dq:Prop}
section
variable {X Y Z:Type}
variable {P:Program}{S:Nat->Spc}{f:Nat}{im:List Nat}{cc:CC}{rs:List ai}{N:Nat}
end
end
section
open Go.Proofs
open Cod (enc dec)
variable {S S0:Nat->Spc}
end
section
open Go.Proofs
def Ko{x:Cond}(h:oc x=false):x.op≠4/\∀k∈x.kids,oc k=false:=by
 grind [Nx]
mutual
theorem Df:∀x:Cond,oc x=false->dx x=x
 | .mk op n a v l f ks,h=>by
   have h2:=Ko h;have h4:¬op=4:=h2.1;rw[dx,if_neg (by grind),Tp ks h2.2]
theorem Tp:∀ks:List Cond,(∀k∈ks,oc k=false)->E9 ks=ks
 | [],_=>rfl
 |k::ks,h=>by rw[E9,Df k (h k (by simp)),Tp ks λk hk=>h k (by grind)]
end
mutual
def Wf:∀x:Cond,cR (dx x)<=cR x/\bi (dx x)<=bi x
 | .mk op n a v l f ks=>by
   rw[dx];have:=ZY ks;grind [cR,gk,bi,jE]
def ZY:∀ks:List Cond,gk (E9 ks)<=gk ks/\jE (E9 ks)<=jE ks
 | []=>by simp[E9]
 | k::ks=>by
   have:=Wf k;have:=ZY ks;grind [E9,gk,jE]
end
inductive GL:Nat->Cond->Prop
 |atom (n:Nat) (c:Cond) (h:GA [] c):GL n c
 |any (n:Nat):GL n ⟨1,E0,E0,E0,E0,false, []⟩
 |top (n:Nat) (v:B) (f:Bool) (h:v∈ValsT):GL n ⟨2,E0,E0,v,E0,f, []⟩
 |not (n:Nat) (k:Cond) (h:GL n k):GL (n+1) ⟨6,E0,E0,E0,E0,false, [k]⟩
 |two (n:Nat) (op:Int) (a b:Cond) (ho:op=7\/op=8) (h1:GL n a) (h2:GL n b):GL (n+1) ⟨op,E0,E0,E0,E0,false, [a,b]⟩
theorem qkB{lb:List B}{c:Cond}(h:GA lb c)(hs:oc c=false):GA [] c:=by
 cases h with
 |val n v f h1 h2=>grind [GA]
 |feat v h=>exact .feat v h
 |same n l a h1 h2 h3=>exact absurd rfl (Ko hs).1
 |reg n h=>exact .reg n h
 |regk n v h1 h2=>grind [GA]
def NJ{lb:List B} :∀{n:Nat} {x:Cond},GI lb n x->oc x=false->GL n x
 | _,_, .atom n c h,hs=> .atom n c (qkB h hs)
 | _,_, .not n k h,hs=> .not n k (NJ h ((Ko hs).2 k (by simp)))
 | _,_, .two n op a b ho h1 h2,hs=> .two n op a b ho (NJ h1 ((Ko hs).2 a (by simp))) (NJ h2 ((Ko hs).2 b (by simp)))
def qeK{x:Cond}(h:x.op=4\/x.op=6/\oc x=true):dx x=⟨1,E0,E0,E0,E0,false, []⟩:=by rw[Ea,if_pos h];rfl
def qn1{op:Int}{a b:Cond}(ho:op=7\/op=8):dx ⟨op,E0,E0,E0,E0,false, [a,b]⟩=⟨op,E0,E0,E0,E0,false, [dx a,dx b]⟩:=by
 rw[Ea,if_neg (by
  grind)]
 rfl
def qkx{lb:List B} :∀{n:Nat} {x:Cond},GI lb n x->GL n (dx x)
 | _,_, .atom n c h=>by
   cases hs:oc c with
   |false=>grind [GL,Df,qkB]
   | true=>
     have h4:c.op=4:=by
      grind [Nx,wR]
     rw[qeK (.inl h4)];exact .any n
 | _,_, .not n k h=>by
   cases hs:oc ⟨6,E0,E0,E0,E0,false, [k]⟩with
   |false=>rw[Df _ hs];exact .not n k (NJ h ((Ko hs).2 k (by simp)))
   |true=>rw[qeK (.inr ⟨rfl,hs⟩)];exact .any _
 | _,_, .two n op a b ho h1 h2=>by
   rw[qn1 ho];exact .two n op _ _ ho (qkx h1) (qkx h2)
def qpP{lb:List B}{n:Nat}{x:Cond}(h:GC lb n x):GL n (dx x):=by
 cases h with
 |any=>rw[Df _ rfl];exact .any n
 |top v f h=>rw[Df _ rfl];grind [GL]
 |inner c h=>exact qkx h
def qaj{E:Sm}(j:qbF E)(d:E.lb=[]):∀{n m:Nat} {x:Cond},GL n x->n<m->∃y,qW E m x=some y
 | _,m+1,_, .atom n c h,_=>qpO j (d ▸h)
 | _,m+1,_, .any n,_=>qkm j (n:=0) .any (by omega)
 | _,m+1,_, .top n v f h,_=>qkm j (n:=0) (.top v f h) (by omega)
 | _,m+1,_, .not n k h,hm=>by
   obtain⟨y,l⟩:=qaj (m:=m) j d h (by omega);simp_all [qkl]
 | _,m+1,_, .two n op a b ho h1 h2,hm=>by
   obtain⟨p,hp⟩:=qaj (m:=m) j d h1 (by omega);obtain⟨q,r⟩:=qaj (m:=m) j d h2 (by omega);rcases ho with rfl|rfl;simp_all [qkn];simp_all [qpN]
def II:∀{n m:Nat} {x:Cond},GL n x->n<m->sC att3 [] m x=true
 | _,m+1,_, .atom n c h,_=>Gl (Wb h) (wR h)
 | _,m+1,_, .any n,_=>PB (n:=0) .any (by omega)
 | _,m+1,_, .top n v f h,_=>PB (n:=0) (.top v f h) (by omega)
 | _,m+1,_, .not n k h,hm=>Th (II h (by omega))
 | _,m+1,_, .two n op a b ho h1 h2,hm=>Tg ho (II h1 (by omega)) (II h2 (by omega))
open Cod (enc dec)
variable {S S0:Nat->Spc}
def qiz{c:Corpus}(hc:OkCorp c){lb:List B}{n:Nat}{x:Cond}(d:GC lb n x)(hn:n<=3):JK (c,x):=by
 have a:=qpP d;have h:=qc7 d;have j:=Wf x;have h3:2^ (n+1)<=2^4:=Nat.pow_le_pow_right (by decide) (by omega);have b:∀i:Nat,i<c.toks.length->qbF ⟨c,(i:Int), [], []⟩:=λi hi=>⟨hc,by show(0:Int)<=(i:Int);omega,by show(i:Int)<c.toks.length;omega,rfl⟩
 exact⟨hc.sz,by show cR x<=60;omega,by show bi x<=60;omega,by
  show qmm c.attrs [] (dx x)=true;rw[show c.attrs=att3 from hc.1];exact qjH (by omega) (by omega) (II a (by omega)),λi hi=>qaj (b i hi) rfl a (by omega)⟩
def G0{n:Nat}{c:Corpus}{q:Qry}(hc:qbC c)(b:GQ n q)(hn:n<=5):xj qbs c q/\jA q.pat<=1000:=by
 have a:=qj2 hc b hn;obtain⟨lb,hl,h⟩:=b.lab;have h1:=qqc n q.pat h;have h2:2^n<=32:=by
  rcases n with _|_|_|_|_|_|n
  all_goals first|decide|omega
 refine⟨⟨a.v,a.v.pat,a.v.size,⟨a.v.num,by omega⟩,⟨?_,λx d=>(a.v.lv x d).2⟩,by have:=hc.few;omega,λx d=>qiz hc.ok (b.cond x d) (by decide)⟩,by omega⟩;have:=iS q.pat;have:=a.v.num;simp;omega
end
section
open Go.Proofs
open Cod (enc dec)
def FQ(c:UInt8):Pat:=⟨1,⟨2,E0,E0,⟨#[c]⟩,E0,false, []⟩,E0,E0,0,0, []⟩
def qpn:B:=⟨#[34,97,34,32,34,99,34]⟩
def q32:Qry:=⟨⟨4,sW,E0,E0,0,0, [FQ 97,FQ 99]⟩,GlobE, [],0⟩
abbrev Zg(s:B)(q:Qry):Spc:=ax (a1 B) (λx=>x=s) (qpT (Y:=Qry) (Z:=Int) (W:=Int)) λ_ y=>y=(q,0,0)
variable {dq:Prop}
end
section
open Go.Proofs
open Cod (enc dec)
variable {S S0:Nat->Spc}
def c32:Corpus:=⟨[⟨⟨#[119,111,114,100]⟩,false⟩], [[⟨#[97]⟩], [⟨#[98]⟩], [⟨#[97]⟩], [⟨#[99]⟩]], [⟨⟨#[116]⟩,0,4, []⟩], [], [], [], []⟩
abbrev SM:Spc:=ax a0 (λ_=>True) (enc (X:=Bool)) λ_ y=>y=true
def XB:List Span:=[⟨0,0⟩,⟨1,1⟩]
def qps:SrcsOf q32.pat XB:=by
 refine⟨by simp[SS,XB,B6],λs=>?_⟩;show s∈XB↔SrcE ⟨4,sW,E0,E0,0,0, [FQ 97,FQ 99]⟩ 0 0 s;have a:aU (FQ 97)=(1,1):=by decide
 have b:am (FQ 97)=[FQ 97]:=rfl;rw[qip rfl];show s∈XB↔rJ [FQ 97,FQ 99] 0 0 s;rw[rJ,rJ,rJ,qiq rfl,qiq rfl,a,b];simp[XB]
def qwx:qo2 c32 q32 XB=[2]:=by kernel_rfl
def qsq:xg (oj c32 q32) [] XB=[⟨1,1⟩]:=by kernel_rfl
def qBf:qdL XB XB:=by
 intro k x a
 match k with
 | 0=>simp[XB]at a;subst a;exact⟨by simp[XB],λ_ h=>by omega⟩
 | 1=>simp[XB]at a;subst a;exact⟨by simp[XB],λy _ b=>by simp[XB]at b;subst b;decide⟩
 |k+2=>simp[XB]at a
def qnB{y:List Int×Int}(h:Mi (c32,q32,XB) y):y=([2],0):=by
 obtain⟨F,a,h⟩:=h;have e:F=XB:=SrcsOf.eq a qps;subst e;rcases h with⟨rfl,_⟩|⟨_,h⟩
 ·exact congrArg (·,0) qwx
 ·exact absurd qBf h
def qjt{y:List Span×Int}(h:qdE (c32,q32) y):y=([⟨1,1⟩],0):=by
 obtain⟨F,a,rfl⟩:=h;have e:F=XB:=SrcsOf.eq a qps;subst e;exact congrArg (·,0) qsq
theorem qfQ{V:List Attr->Qry->Prop}(h1:S wV=Zg qpn q32)(h2:S rZ=U6 V)(h3:S Ds=qea V)(h4:S AW=qcx)(h5:S Gz=OK)(j:xj V c32 q32):aq ws vp S a0 (λ_=>True) (enc (X:=Bool)) λ_ y=>y=true:=by
 rintro⟨⟩ -;have k:qfz V (⟨[⟨⟨#[119,111,114,100]⟩,false⟩], [[⟨#[97]⟩], [⟨#[98]⟩], [⟨#[97]⟩], [⟨#[99]⟩]], [⟨⟨#[116]⟩,0,4, []⟩], [], [], [], []⟩,q32, [⟨0,0⟩,⟨1,1⟩]):=⟨j,by decide⟩
 have d:xj V ⟨[⟨⟨#[119,111,114,100]⟩,false⟩], [[⟨#[97]⟩], [⟨#[98]⟩], [⟨#[97]⟩], [⟨#[99]⟩]], [⟨⟨#[116]⟩,0,4, []⟩], [], [], [], []⟩ q32:=j;simp[ws,vp,h1,h2,h3,k,d,-fB'];refine⟨rfl,λa e h=>?_⟩;have h:(a,e)=([2],0):=qnB h;cases h;intro b f c;have c:(b,f)=([⟨1,1⟩],0):=qjt c;cases c;simp[h4,h5,EW,-fB']
def V12(a:List Attr)(q:Qry):Prop:=qbs a q\/qAk a q
def qpv{x:Cond}(h1:cR x<=60)(h2:bi x<=60)(h:(qmm c32.attrs [] (dx x) && (List.range 4).all λi=>(qW ⟨c32,(i:Int), [], []⟩ 21 (dx x)).isSome)=true):JK (c32,x):=by
 simp only[qF9,qGa,qHC]at h;exact⟨⟨(by decide:c32.toks.length<=100000),(by decide:∀r∈c32.toks,r.length<=100000),(by decide:c32.attrs.length<=1000)⟩,h1,h2,h.1,λi hi=>qGK.1 (h.2 i hi)⟩
def qrs{x:Pat}(a:x∈am q32.pat):x=FQ 97\/x=FQ 99:=by
 have h:x∈ [FQ 97,FQ 99]:=a;simpa using h
def qjR:ER (λq=>rL q/\lJ q=true/\mT ay q=true) q32.pat:=by
 have a:∀q:Pat,q.op≠2->q.op≠3->q.lab=⟨#[]⟩->mT ay q=true:=λq h2 h3 h=>by
  unfold mT;rw[decide_eq_true_eq];exact⟨λb=>by omega,λb=>absurd h b⟩
 intro q c;have:q∈ [q32.pat,FQ 97,FQ 99]:=c;simp only[qGm,qGz,or_false]at this;rcases this with rfl|rfl|rfl
 ·exact⟨.inr (.inr (.inl ⟨.inl rfl,rfl,rfl,rfl,rfl,rfl,by decide⟩)),rfl,a _ (by decide) (by decide) rfl⟩
 ·exact⟨.inl ⟨rfl,rfl,rfl,rfl,rfl⟩,rfl,a _ (by decide) (by decide) rfl⟩
 ·exact⟨.inl ⟨rfl,rfl,rfl,rfl,rfl⟩,rfl,a _ (by decide) (by decide) rfl⟩
def Vw{f:Pat->Bool}(p:Pat)(h:ER (λq=>f q=true) p):cm f p=true:=by
 induction p using fJ with|_ p a=>?_
 rw[cU,Kx h,qHs,qGa];exactλk hk=>a k hk (O9 h hk)
def qpD:eX ay q32.pat=true:=by
 unfold eX;rw[Vw q32.pat (zq qjR λq h=>(qU q).2 h.1),Vw q32.pat (zq qjR λq h=>h.2.2),Vw q32.pat (zq qjR λq h=>h.2.1)];rfl
def qo1:xj V12 c32 q32:=by
 refine⟨.inr ⟨rfl,rfl,rfl,qpD,by decide,by decide,by decide,by decide,λx a=>?_⟩,qpD,by decide,⟨by decide,by decide⟩,⟨by decide,λx a=>?_⟩,by decide,λx a=>?_⟩
 ·rcases qrs a with rfl|rfl
  ·exact⟨by kernel_rfl,1,by decide,λk hk=>by cases hk⟩
  ·exact⟨by kernel_rfl,1,by decide,λk hk=>by cases hk⟩
 ·rcases qrs a with rfl|rfl
  ·exact⟨1,by decide,λk hk=>by cases hk⟩
  ·exact⟨1,by decide,λk hk=>by cases hk⟩
 ·rcases qrs a with rfl|rfl
  ·exact qpv (by decide) (by decide) (by kernel_rfl)
  ·exact qpv (by decide) (by decide) (by kernel_rfl)
def qbk{n:Nat}{c:Corpus}{q:Qry}(hc:qbC c)(a:GQ n q)(hn:n<=5):xj V12 c q:=
 have h:=(G0 hc a hn).1
 ⟨.inl h.v,h.pat,h.size,h.fx,h.pl,h.few,h.sel⟩
def qro{c:Corpus}(h:XC c)(hk:Sl c)(hl:(c.toks.length:Int)<=3*6):qbC c:=⟨qrc h hk,by omega⟩
def qji(n:Nat):(uq n).length=n:=by simp[uq]
def NI{X:Type}(p:X->Bool):∀l:List X, -1<=fL l p
 | []=>by simp[fL]
 | a::l=>by
   have:=NI p l;rw[fL];split
   ·omega
   ·split<;>omega
abbrev quk:Spc:=ax (a3 (List Int) (List Int) (List Int)) (λ_=>True) (enc (X:=Bool)) λ_ y=>y=true
end
section
open Go.Proofs
open Cod (enc dec)
variable {S S0:Nat->Spc}
end
end Go.Gv
namespace Go.Proofs
open Go.Shelf
def Tryz.keysA_ren:Go.Shelf.Ren:=⟨λ|7=>45|10=>109|n=>n,λ|23=>85|26=>3|3=>4|28=>91|0=>0|27=>90|33=>161|4=>4|n=>n,λ|n=>n⟩
theorem Tryz.keysA:Go.Proofs.SlLaysZI.n7 Tryz.prog Tryz.keysA_ren:={
 mixed:=by kernel_rfl
 f7:=⟨Tryz.f45.name,by decide,Tryz.func45.trans (congrArg some (by kernel_rfl))⟩
 f10:=⟨Tryz.f109.name,by decide,Tryz.func109.trans (congrArg some (by kernel_rfl))⟩
 t0:=Tryz.underlying0
 a0:=Tryz.isAgg0
 z0:=Tryz.sizeOf0
 v0:=Tryz.zeroValue0
 t4:=Tryz.underlying4
 a4:=Tryz.isAgg4
 z4:=Tryz.sizeOf4
 v4:=Tryz.zeroValue4
 t23:=Tryz.underlying85
 a23:=Tryz.isAgg85
 z23:=Tryz.sizeOf85
 v23:=Tryz.zeroValue85
 t26:=Tryz.underlying3
 a26:=Tryz.isAgg3
 z26:=Tryz.sizeOf3
 v26:=Tryz.zeroValue3
 t27:=Tryz.underlying90
 a27:=Tryz.isAgg90
 z27:=Tryz.sizeOf90
 v27:=Tryz.zeroValue90
 t28:=Tryz.underlying91
 a28:=Tryz.isAgg91
 z28:=Tryz.sizeOf91
 v28:=Tryz.zeroValue91
 t33:=Tryz.underlying161
 a33:=Tryz.isAgg161
 z33:=Tryz.sizeOf161
 v33:=Tryz.zeroValue161 }
def Tryz.sortedA_ren:Go.Shelf.Ren:=⟨λ|6=>44|8=>107|9=>108|11=>172|13=>168|12=>173|23=>232|24=>233|14=>235|15=>236|16=>237|17=>238|18=>239|19=>240|20=>105|21=>241|22=>242|25=>290|26=>286|27=>287|28=>291|29=>292|30=>171|31=>313|n=>n,λ|26=>3|28=>91|24=>22|0=>0|3=>3|37=>159|48=>243|50=>245|4=>4|40=>237|39=>236|45=>86|5=>5|9=>9|51=>277|55=>281|57=>306|58=>163|33=>161|n=>n,λ|n=>n⟩
def Tryz.sortedA:Go.Proofs.SlLaysZI.n6 Tryz.prog Tryz.sortedA_ren:={
 mixed:=by kernel_rfl
 f6:=⟨Tryz.f44.name,by decide,Tryz.func44.trans (congrArg some (by kernel_rfl))⟩
 f8:=⟨Tryz.f107.name,by decide,Tryz.func107.trans (congrArg some (by kernel_rfl))⟩
 f11:=⟨Tryz.f172.name,by decide,Tryz.func172.trans (congrArg some (by kernel_rfl))⟩
 t0:=Tryz.underlying0
 a0:=Tryz.isAgg0
 z0:=Tryz.sizeOf0
 v0:=Tryz.zeroValue0
 t24:=Tryz.underlying22
 a24:=Tryz.isAgg22
 z24:=Tryz.sizeOf22
 v24:=Tryz.zeroValue22
 t26:=Tryz.underlying3
 a26:=Tryz.isAgg3
 z26:=Tryz.sizeOf3
 v26:=Tryz.zeroValue3
 t28:=Tryz.underlying91
 a28:=Tryz.isAgg91
 z28:=Tryz.sizeOf91
 v28:=Tryz.zeroValue91
 i26:=by kernel_rfl }
end Go.Proofs
namespace Go.Gv
section
open Go.Proofs
def Hb:X.Fn:=gx Tryz.f39 _
def XD:X.Fn:=gx Tryz.f87 _
def Ha:X.Fn:=gx Tryz.f88 _
def G8:X.Fn:=gx Tryz.f89 _
def G7:X.Fn:=gx Tryz.f90 _
def Fj:X.Fn:=gx Tryz.f91 _
def En:X.Fn:=gx Tryz.f93 _
def Fk:X.Fn:=gx Tryz.f94 _
def JN:X.Fn:=gx Tryz.f95 _
def G5:X.Fn:=gx Tryz.f97 _
def G3:X.Fn:=gx Tryz.f161 _
def Fq:X.Fn:=gx Tryz.f162 _
def Eo:X.Fn:=gx Tryz.f163 _
def G4:X.Fn:=gx Tryz.f219 _
def Ce:X.Fn:=gx Tryz.f220 _
def Fp:X.Fn:=gx Tryz.f221 _
def Fo:X.Fn:=gx Tryz.f278 _
def Cb:X.Fn:=gx Tryz.f279 _
def Fm:X.Fn:=gx Tryz.f280 _
def Fl:X.Fn:=gx Tryz.f281 _
def Ft:X.Fn:=gx Tryz.f283 _
def Fs:X.Fn:=gx Tryz.f284 _
def JM:X.Fn:=gx Tryz.f310 _
def Ca:X.Fn:=gx Tryz.f311 _
def G9:X.Fn:=gx Tryz.f329 _
def G6:X.Fn:=gx Tryz.f348 _
def NN:X.Fn:=gx Tryz.f92 _
def G2:X.Fn:=gx Tryz.f96 _
def JO:X.Fn:=gx Tryz.f282 _
def Mj:X.Fn:=gx Tryz.f158 _
def NM:X.Fn:=gx Tryz.f159 _
def TX:X.Fn:=gx Tryz.f160 _
open Go.Proofs X
variable {dq:Prop}
def qCN:List (Nat×X.Fn):=[(wV,Hb),(qde,XD),(Le,Ha),(Lc,G8),(Lb,G7),(I1,Fj),(GB,En),(I2,Fk),(Ng,JN),(K9,G5),(K7,G3),(Jb,Fq),(GD,Eo),(K8,G4),(EI,Ce),(Ja,Fp),(I5,Fo),(EH,Cb),(I4,Fm),(I3,Fl),(Jd,Ft),(Jc,Fs),(Nf,JM),(EG,Ca),(Ld,G9),(La,G6),(R3,NN),(K6,G2),(Nh,JO),(P5,Mj),(R2,NM),(qaz,TX)]
def qr3:∀p∈qCN,qmq p:=by
 unfold qCN
 repeat' first|exact qqa|refine qhG qAn ?_
noncomputable def qFL(s:B):Option (D×XH):=MP (ΔL qCN) qpC 10000 wV [.v (.string s)] ⟨.e, [], [],0⟩
open Cod (enc dec)
noncomputable def qB2(s:B)(q:Qry):Bool:=match qFL s with
 |some (r,h)=>fz 60 h.he r (qpT (Y:=Qry) (Z:=Int) (W:=Int) (q,0,0))
 |none=>false
def qii{s:B}{q:Qry}(h:qB2 s q=true):TQ dq wV (Zg s q):=by
 refine YI (qhF qr3 (fn:=Hb) rfl 10000) ?_;rintro x rfl;refine⟨rfl,?_⟩;unfold qB2 at h;split at h
 ·rename_i r hh he;exact⟨r,hh,(q,0,0),he,h,rfl⟩
 ·cases h
open Go.Proofs Cod
def qrz:qB2 qpn q32=true:=by kernel_rfl
def qf0{P:Program}{f:Nat}{X Y:Type}{A:fN X}{k l:X->Prop}{er:Y->D}{post:X->Y->Prop}(h1:Tri dq P f (ax A k er post).pt)(h2:Tri dq P f (ax A l er post).pt):Tri dq P f (ax A (λx=>k x\/l x) er post).pt:=λO tp w vs ds H d K a b c e g h=>by
 rw[lZ]at h;cases j:A.dec ds with
 |none=>rw[j]at h;exact h.elim
 | some x=>
   rw[j]at h;rcases h.1 with hp|hp
   ·exact h1 O tp w vs ds H d K a b c e g (by rw[lZ,j];exact⟨hp,h.2⟩)
   ·exact h2 O tp w vs ds H d K a b c e g (by rw[lZ,j];exact⟨hp,h.2⟩)
def qh2:TQ dq ft (Ib V12):=qf0 qcF Kf
def HN:TQ dq pS Zr:=
 ac (ag (aa un ae)) Ge (Hw rfl)
def xc:∀n,TQ dq cA (Ih n)
 | 0=>bF λx h=>qlC h
 | n+1=>
   have h1:TQ dq eQ (qcy Cond (Kj [(cA,Ih n)])):=ac (ag (aa (xc n) ae)) mS (Sq);have h2:TQ dq cj (qf8 Cond (Kj [(cA,Ih n)])):=ac (ag (aa h1 ae)) ko (Sr rfl)
   ac (ag (aa h2 ae)) IE (J9 (S0:=(Kj [(cA,Ih n)])) n rfl rfl)
def Lz:TQ dq cA OP:=cw (λn=>xc n) (dB (λx h=>h))
def ww:∀n,TQ dq gA (OR n)
 | 0=>bF λx h=>qlC h.1
 |n+1=>aY (ag (aa Lz (aa (ww n) ae))) Gd (λ_=>qF8 rfl) (Hv n rfl rfl)
def JB:TQ dq gA qek:=cw (λn=>ww n) (dB (λx h=>h))
def uL:TQ dq iZ qi4:=
 ac (ag (aa HN (aa JB (aa lB (aa (wx 21) ae))))) EE (qhW rfl rfl rfl rfl)
def Oh:TQ dq vJ nq:=
 ac (ag (aa xf (aa JF ae))) M1 (N6 rfl rfl)
def BW:TQ dq jO qed:=
 ac (ag ae) AC (N9)
def xn:TQ dq gM qei:=
 ac (ag (aa BW ae)) wD (HD rfl)
def BC:TQ dq nn ta:=
 ac (ag (aa yW (aa Oh (aa xn ae)))) KJ (Mz rfl rfl rfl)
def Ok:TQ dq vQ qi5:=
 ac (ag (aa BS ae)) M8 (qbX rfl)
def FK:TQ dq nF qiK:=
 ac (ag ae) Ey (qqg)
def wB:TQ dq fT qjb:=
 ac (ag (aa Ok (aa FK ae))) vx (qqo rfl rfl)
def MH:TQ dq tI BF:=
 ac (ag ae) KS (ME)
def Cw:TQ dq pK uS:=
 ac (ag (aa xo (aa uK ae))) M0 (My rfl rfl)
def YD:TQ dq re (qeQ iY):=qib Tryz.keysA rfl (iz Tryz.func45 (by kernel_rfl) rfl)
def qqI(m:Nat):AnyZI.SortsIn Tryz.prog Tryz.sortedA_ren Go.Fence.wide m:=
 ⟨λblk off cap c W d a b=>callsIn_wide.2 (AnyG.slices_Sort_int Tryz.sortInt blk off cap c W d a b),λp cap W=>callsIn_wide.2 (AnyG.slices_Sort_int_none Tryz.sortInt p cap W)⟩
def MI(a:¬dq):TQ dq ui (U0 iY):=qcc (fk:=re) a Tryz.sortedA Tryz.keysA rfl (iz Tryz.func44 (by kernel_rfl) rfl) rfl qqI (enters_of Tryz.func108 (by kernel_rfl) rfl) (enters_of Tryz.func109 (by kernel_rfl) rfl)
def EV(a:¬dq):TQ dq rZ (U6 V12):=
 ac (ag (aa qh2 (aa BC (aa Cw (aa uL (aa wB (aa MH (aa YD (aa (MI a) ae))))))))) Pr (Rq rfl rfl rfl rfl rfl rfl rfl rfl)
def Kh:TQ dq rh Zl:=
 ac (ag (aa uL ae)) IC (J8 rfl)
def HM:TQ dq pP (SP V12):=
 ac (ag (aa qh2 (aa Cw (aa Kh ae)))) Ga (Hs rfl rfl rfl)
def YC:TQ dq Ds (qea V12):=
 ac (ag (aa HM (aa yW ae))) VW (Yk rfl rfl)
def Oj:TQ dq vO Zs:=
 ac (ag (aa LF (aa cX ae))) M7 (qhU rfl rfl)
def Oe:TQ dq AW qcx:=
 ac (ag ae) ZT (qbP)
def UJ:TQ dq AT H9:=
 ac (ag ae) RE (Uj)
def qfX(a:¬dq):TQ dq ye SM:=
 ac (ag (aa (qii qrz) (aa (EV a) (aa YC (aa Oe (aa qb3 ae)))))) Pv (qfQ rfl rfl rfl rfl rfl qo1)
end
section
open Go.Proofs
open Cod (enc dec)
variable {S S0:Nat->Spc}
def F1{x:Cond}(o:Int)(e:x.op=o)(h:o≠2/\o≠3/\o≠4/\o≠5):qxT x:=⟨λq=>(h.1 (e.symm.trans q)).elim,λq=>(h.2.1 (e.symm.trans q)).elim,λq=>(h.2.2.1 (e.symm.trans q)).elim,λq=>(h.2.2.2 (e.symm.trans q)).elim⟩
def qqV{lb:List B}{x:Cond}(h:GA lb x):qxT x:=by
 cases h with
 |val nm v f h1 h2=>exact⟨λ_=>⟨h2, .inr h1⟩,λh=>(by cases h),λh=>(by cases h),λh=>(by cases h)⟩
 |feat v h=>exact⟨λh=>(by cases h),λ_=>⟨h,rfl⟩,λh=>(by cases h),λh=>(by cases h)⟩
 |same nm l a h1 h2 h3=>exact⟨λh=>(by cases h),λh=>(by cases h),λ_=>⟨h1,h3⟩,λh=>(by cases h)⟩
 |reg nm h=>exact⟨λh=>(by cases h),λh=>(by cases h),λh=>(by cases h),λ_=>⟨.tail _ h, .inl rfl, .head _⟩⟩
 |regk nm v h1 h2=>exact⟨λh=>(by cases h),λh=>(by cases h),λh=>(by cases h),λ_=>⟨.tail _ h1, .inr (.head _), .tail _ h2⟩⟩
def Pz{lb:List B} :∀{n m:Nat} {x:Cond},GI lb n x->n<m->qpG att3 lb m x
 | _,m+1,_, .atom n c h,_=>⟨Wb h,qqV h,λk hk=>by rw[wR h]at hk;cases hk⟩
 | _,m+1,_, .not n k h,hm=>⟨rfl,F1 6 rfl (by decide),λz hz=>by
    rcases qHk.1 hz with rfl;exact Pz h (by omega)⟩
 | _,m+1,_, .two n op a b ho h1 h2,hm=>⟨by rcases ho with rfl|rfl<;>rfl,by rcases ho with e|e;exact F1 7 e (by decide);exact F1 8 e (by decide),λz hz=>by
    have hz:z∈ [a,b]:=hz;simp only[qGm,qGz,or_false]at hz;rcases hz with rfl|rfl
    ·exact Pz h1 (by omega)
    ·exact Pz h2 (by omega)⟩
def qm2:∀v∈ValsT,v∈ValsI:=by decide
def qcM{lb:List B}{n m:Nat}{x:Cond}(h:GC lb n x)(hm:n<m):qpG att3 lb m x:=by
 obtain⟨m,rfl⟩:∃k,m=k+1:=⟨m -1,by omega⟩
 cases h with
 |any=>exact⟨rfl,F1 1 rfl (by decide),λk hk=>by cases hk⟩
 | top v f h=>
   have h0:=qGa.1 qic v h;simp only[qF9]at h0;refine⟨?_,⟨λ_=>⟨qm2 v h, .inl rfl⟩,λh=>(by cases h),λh=>(by cases h),λh=>(by cases h)⟩,λk hk=>by cases hk⟩;rw[PA];cases f
   ·exact h0.1
   ·exact h0.2
 |inner c h=>exact Pz h hm
end
section
open Go.Proofs
def rp:CC:=gq Tryz.f142 [2] {} _
def qz:List ai:=[.tmp 4, .tmp 5]
def KC:FO jv [2] rp qz 42:=fo
def ek:CC:=gq Tryz.f143 [2] {} _
def ea:List ai:=[.tmp 4]
def KB:FO ju [2] ek ea 146:=fo
def wa:CC:=gq Tryz.f82 [1] {} _
def uX:List ai:=[.tmp 2]
def Pg:FO ya [1] wa uX 20:=fo
def DG:CC:=gq Tryz.f83 [3] { cu:=[1,5] } _
def CJ:List ai:=[.tmp 6]
def ZP:FO vD [3] DG CJ 142:=fo
def Lo:CC:=gq Tryz.f144 [] {} _
def Ks:List ai:=[.tmp 4]
def qgo:FO P6 [] Lo Ks 17:=fo
def ym:CC:=gq Tryz.f80 [1] {} _
def xx:List ai:=[.tmp 2]
def RI:FO AU [1] ym xx 42:=fo
def tM:CC:=gq Tryz.f34 [2] { bx:=[59] } _
def te:List ai:=[.tmp 4]
def MT:FO vE [2] tM te 99:=fo
def tL:CC:=gq Tryz.f19 [2] {} _
def td:List ai:=[.tmp 4]
def MS:FO pD [2] tL td 51:=fo
def yh:CC:=gq Tryz.f17 [3,4] {} _
def xq:List ai:=[.tmp 6, .tmp 7]
def RC:FO AQ [3,4] yh xq 120:=fo
def mG:CC:=gq Tryz.f4 [] {} _
def mh:List ai:=[.tmp 6]
def EB:FO vP [] mG mh 58:=fo
open Cod (enc dec)
variable {S S0:Nat->Spc}
def qwQ(n:Nat)(x:Glob×Int):Prop:=fM x.1<=n/\0<=x.2/\x.2+fM x.1<=61/\xV x.1<=60
abbrev LU(n:Nat):Spc:=ax (a2 Glob Int) (qwQ n) (iA (Y:=Int) (Z:=Int)) λx y=>y=((xV x.1:Int),(fM x.1:Int))
theorem Mp(n:Nat)(h1:S jv=LU n):aq rp qz S (a2 Glob Int) (qwQ (n+1)) (iA (Y:=Int) (Z:=Int)) λx y=>y=((xV x.1:Int),(fM x.1:Int)):=by
 rintro⟨x,deep⟩ ⟨hn,h0,h2,h3⟩;simp only at hn h0 h2 h3;have l:=Ed x;have p:=Wg x;have a:¬60<deep:=by omega
 simp[rp,qz,a];intro q;refine ah (X:=Int×Int) [1,15] [] x.kids.length (λk z=>z.1=1+ (lU (x.kids.take k):Int)/\z.2=(lW (x.kids.take k):Int)) (λz=>[(6,enc z.1),(7,enc z.2)]) (λ_=>[]) (1,0) (by simp[lU,lW]) ?_ ?_
 ·rintro k ⟨m,d⟩ hk ⟨b,c⟩;simp only at b c;obtain⟨y,h⟩:=aR hk;obtain⟨_,j⟩:=qF4.1 h;have hm:=Tj h;have r:=Ec (aP h);have hp:qwQ n (y,deep+1):=⟨by show fM y<=n;omega,by show 0<=deep+1;omega,by show deep+1+fM y<=61;omega,by show xV y<=60;omega⟩
  simp[h1,hk,h,j,hp];exact⟨by simp only[InR];omega,by simp only[InR];omega,λ_=>by omega,λ_=>by omega⟩
 ·rintro⟨m,d⟩ ⟨b,c⟩;simp only at b c;rw[qGc]at b c;simp;exact⟨by simp only[InR];omega,by omega,by omega⟩
abbrev Ig:Spc:=ax (a2 Glob Int) (λx=>∃n,qwQ n x) (iA (Y:=Int) (Z:=Int)) λx y=>y=((xV x.1:Int),(fM x.1:Int))
def qwP(n:Nat)(x:Glob×Bool):Prop:=fM x.1<=n/\((x.2=true/\x.1=GlobE)\/ ∃lb m,GG lb m x.1)
abbrev LT(n:Nat):Spc:=ax (a2 Glob Bool) (qwP n) (enc (X:=Bool)) λx y=>y=true
set_option maxHeartbeats 2000000 in
theorem Mo(n:Nat)(h1:S ju=LT n):aq ek ea S (a2 Glob Bool) (qwP (n+1)) (enc (X:=Bool)) λx y=>y=true:=by
 rintro⟨g,b⟩ ⟨hn,hg⟩;simp only at hn hg;have p5:∀k∈g.kids,qwP n (k,false):=λk hk=>by
  have:=IX hk;rcases hg with⟨_,rfl⟩|⟨lb,m,h⟩
  ·cases hk
  ·obtain⟨m',_,h2⟩:=Wz h hk;exact⟨by show fM k<=n;omega, .inr ⟨lb,m',h2⟩⟩
 rcases hg with⟨rfl,rfl⟩|⟨lb,m,h⟩
 rotate_left
 ·cases h with
  | not n k h=>
    simp[ek,ea,E0,GlobE,-fB',-eB'];refine ah (X:=Unit) [136] [] 1 (λk _=>True) (λ_=>[]) (λ_=>[]) () (by simp) ?_ ?_ (hlen:=by simp)
    ·rintro j -hj -;obtain rfl:j=0:=by omega
     have hp:=p5 k (by simp);simp[h1,hp,-fB',-eB']
    ·rintro - -;simp
  | two n op a b' ho hh1 hh2=>
    rcases ho with rfl|rfl
    all_goals
     simp[ek,ea,E0,GlobE,-fB',-eB'];refine ah (X:=Unit) [136] [] 2 (λk _=>True) (λ_=>[]) (λ_=>[]) () (by simp) ?_ ?_ (hlen:=by simp)
     ·rintro j -hj -;have hp1:=p5 a (by simp);have hp2:=p5 b' (by simp);obtain rfl|rfl:j=0\/j=1:=by omega
      all_goals simp[h1,hp1,hp2,-fB',-eB']
     ·rintro - -;simp
  | head n op a b ho h1 h2=>
    rcases ho with rfl|rfl
    all_goals
     simp[ek,ea,E0,GlobE,-fB',-eB'];refine ah (X:=Unit) [136] [] 0 (λk _=>True) (λ_=>[]) (λ_=>[]) () (by simp) (λk x hk=>absurd hk (by omega)) (λ_ _=>?_) (hlen:=by simp);simp
  | _=>
    simp[ek,ea,E0,GlobE,-fB',-eB'];refine ah (X:=Unit) [136] [] 0 (λk _=>True) (λ_=>[]) (λ_=>[]) () (by simp) (λk x hk=>absurd hk (by omega)) (λ_ _=>?_) (hlen:=by simp);simp
 simp[ek,ea,E0,GlobE,-fB',-eB'];refine ah (X:=Unit) [136] [] 0 (λk _=>True) (λ_=>[]) (λ_=>[]) () (by simp) (λk x hk=>absurd hk (by omega)) (λ_ _=>?_) (hlen:=by simp);simp
abbrev If:Spc:=ax (a2 Glob Bool) (λx=>∃n,qwP n x) (enc (X:=Bool)) λx y=>y=true
def qDQ(g:Glob):Prop:=g=GlobE\/ ∃lb m,m<=2/\GG lb m g
abbrev SO:Spc:=ax (a1 Glob) qDQ (enc (X:=Bool)) λx y=>y=true
def Ra(h1:S jv=Ig)(h2:S ju=If):aq wa uX S (a1 Glob) qDQ (enc (X:=Bool)) λx y=>y=true:=by
 rintro g a;have b:xV g<=7/\fM g<=3:=by
  rcases a with rfl|⟨lb,m,hm,h⟩
  ·decide
  ·have:=qky h;have c:2^ (m+1)<=2^3:=Nat.pow_le_pow_right (by omega) (by omega);omega
 have d:∃n,qwQ n (g,0):=⟨fM g,qGb _,qHb _,by show(0:Int) +fM g<=61;omega,by show xV g<=60;omega⟩
 have j:∃n,qwP n (g,true):=⟨fM g,qGb _,a.elim (λe=> .inl ⟨rfl,e⟩) λ⟨lb,m,_,h⟩=> .inr ⟨lb,m,h⟩⟩
 simp[wa,uX,h1,h2,d,j,-fB',-eB'];exact⟨λ_=>by omega,by omega⟩
def qhP:aq Lo Ks S (a2 (List B) B) (λ_=>True) (enc (X:=Bool)) λx y=>y=pw x.1 x.2:=by
 rintro⟨l,s⟩ -;simp[Lo,Ks,-fB',-eB'];intro _;refine ah (X:=Unit) [1,7] [] l.length (λk _=>∀x∈l.take k,¬x=s) (λ_=>[]) (λ_=>[]) () (by simp) ?_ ?_
 ·intro k _ hk c;obtain⟨x,a⟩:=aM hk;obtain⟨_,b⟩:=qF4.1 a;simp[hk,a,b,-fB',-eB'];refine⟨λh=>?_,λh=>?_⟩
  ·simp[pw];exact h ▸qF7 a
  ·rw[au a];grind
 ·intro _ c;simp[pw,-fB',-eB'];grind
def ql7(n:Nat)(x:Glob×List Attr×List B):Prop:=fM x.1<=n/\yF x
abbrev qd7(n:Nat):Spc:=ax (a3 Glob (List Attr) (List B)) (ql7 n) (enc (X:=Int)) λ_ y=>y=0
def qoa{x:B}(h:x∈Types\/x∈qbB\/(x∈Xo/\x≠ ⟨#[]⟩)):ay x=true:=Dg h
set_option maxHeartbeats 4000000 in
theorem qbL(n:Nat)(h1:S P6=s_rIn)(h2:S ga=s_rAttr)(h3:S nY=s_rParse0)(h4:S aK=ot)(h5:S vD=qd7 n):
 aq DG CJ S (a3 Glob (List Attr) (List B)) (ql7 (n+1)) (enc (X:=Int)) λ_ y=>y=0:=by
 rintro⟨g,a,lb⟩ ⟨hn,ha,hg⟩;simp only at hn ha hg;subst ha;have hk:∀k∈g.kids,ql7 n (k,att3,lb):=λk hk=>by
  have:=IX hk;rcases hg with rfl|⟨m,h⟩
  ·cases hk
  ·obtain⟨m',_,h2⟩:=Wz h hk;exact⟨by show fM k<=n;omega,rfl, .inr ⟨m',h2⟩⟩
 have hw:¬dU att3 uN= -1:=by decide
 have hkl:g.kids.length<=2:=by
  rcases hg with rfl|⟨m,h⟩
  ·decide
  ·cases h<;>simp
 simp[DG,CJ,-fB',-eB'];refine bh (X:=Unit) [1,2,3] [] (λ_=>True) (λ_=>[]) (λ_=>[]) ?_ ?_
 ·rcases hg with rfl|⟨m,h⟩
  ·simp[GlobE,E0,-fB',-eB']
  cases h with
  |bound n a k1=>simp[h1,dC k1,-fB',-eB']
  |val n a v f k1 k2=>simp[h1,dC k1,-fB',-eB']
  |depth n a mn mx k1 k3 k4 k5 k6=>simp[h1,dC k1,-fB',-eB']
  |same n a b g k1 k2 k3|dist n a b mn mx k1 k2|reg n a b t k1 k2 k3|node n a b t k1 k2 k3|path n a b l k1 k2 k3 k4=>simp[h1,dC k1,dC k2,-fB',-eB']
  |head n op a b ho k1 k2=>rcases ho with rfl|rfl<;>simp[h1,dC k1,dC k2,-fB',-eB']
  |not n k h=>simp[-fB',-eB']
  |two n op a b ho k1 k2=>rcases ho with rfl|rfl<;>simp[-fB',-eB']
 rintro - -;simp[-fB',-eB'];refine bh (X:=Unit) [1,2,3] [] (λ_=>True) (λ_=>[]) (λ_=>[]) ?_ ?_
 ·rcases hg with rfl|⟨m,h⟩
  ·simp[GlobE,E0,-fB',-eB']
  cases h with
  |bound n a k1=>simp[-fB',-eB']
  | val n a v f k1 k2=>
    have hv:v∈ValsI\/v∈QT:= .inr k2;simp[h2,h3,hw,hv,-fB',-eB']
  | same n a b g k1 k2 k3=>
    have hg2:¬dU att3 g= -1:=by have:=qbl k3;omega
    simp[h2,hw,hg2,-fB',-eB']
  | dist n a b mn mx k1 k2 k3 k4 k5 k6=>
    have e1:¬mx<mn:=by omega
    simp[e1,-fB',-eB']
  |reg n a b t k1 k2 k3=>simp[h4,qoa (.inl k3),-fB',-eB']
  |node n a b t k1 k2 k3=>simp[h4,qoa (.inr (.inl k3)),-fB',-eB']
  | path n a b l k1 k2 k3 k4=>
    simp[-fB',-eB'];intro _;refine ah (X:=Unit) [1,2,3,95] [] l.length (λ_ _=>True) (λ_=>[]) (λ_=>[]) () trivial ?_ ?_
    ·rintro k -hk -;obtain⟨x,hx⟩:=aM hk;obtain⟨_,hgx⟩:=qF4.1 hx;have hv:¬x=⟨#[]⟩->ay x=true:=λh=>qoa (.inr (.inr ⟨k4 x (qF7 hx),h⟩))
     simp[hk,hx,hgx,h4,-fB',-eB'];grind
    ·rintro - -;simp[-fB',-eB']
  | depth n a mn mx k1 k3 k4 k5 k6=>
    have e1:¬mx<mn:=by omega
    have e2:¬mn< 0:=by omega
    simp[e1,e2,-fB',-eB']
  |head n op a b ho k1 k2=>rcases ho with rfl|rfl<;>simp[-fB',-eB']
  |not n k h=>simp[-fB',-eB']
  |two n op a b ho k1 k2=>rcases ho with rfl|rfl<;>simp[-fB',-eB']
 rintro - -;simp[-fB',-eB'];intro _;refine ah (X:=Unit) [1,2,128] [] g.kids.length (λ_ _=>True) (λ_=>[]) (λ_=>[]) () trivial ?_ ?_
 ·rintro k -hkk -;obtain⟨x,hx⟩:=aM hkk;obtain⟨_,hgx⟩:=qF4.1 hx;have hp:=hk x (qF7 hx);simp[hkk,hx,hgx,h5,hp,-fB',-eB']
 ·rintro - -;simp[-fB',-eB']
abbrev Za:Spc:=ax (a3 Glob (List Attr) (List B)) yF (enc (X:=Int)) λ_ y=>y=0
def Gt(l:List Pat)(out:List B):List B:=l.foldl (λo p=>mN o p.lab) out
theorem qn4{p:Pat}(h:ER rL p):∀out,Gt (am p) out=bp p out:=by
 induction p using fJ with|_ p b=>?_
 intro out;have hs:=Kx h;rw[aW,pr];split
 ·rename_i h1;have hk:p.kids=[]:=by
   rcases hs with h|h|h|h<;>grind
  rw[hk];rfl
 ·rename_i h1;have hl:p.lab=E0:=by
   rcases hs with h|h|h|h<;>grind [E0]
  rw[hl,show mN out E0=out from if_pos rfl];have:∀(ks:List Pat) (o:List B),(∀k∈ks,k∈p.kids)->Gt (ks.flatMap am) o=ks.foldl (λo k=>bp k o) o:=by
   intro ks
   induction ks with
   |nil=>intro o _;rfl
   | cons k ks a=>
     intro o hk;rw[qG0,Gt,qIp,qHf];have e:=b k (hk k (by simp)) (O9 h (hk k (by simp))) o;unfold Gt at e a;rw[e,a _ λz hz=>hk z (by simp[hz])]
  exact this _ _ λ_ h=>h
def qgQ(l:List Pat)(x:Pat)(out:List B):Gt (l++ [x]) out=mN (Gt l out) x.lab:=by
 simp[Gt]
def qkc(l:List Pat):∀out,(Gt l out).length<=out.length+l.length:=by
 induction l with
 |nil=>intro out;simp[Gt]
 | cons x l a=>
   intro out;have:=a (mN out x.lab);have:=JH out x.lab;unfold Gt at*;simp only[qHf,qGT];omega
def qgj{p:Pat}(h:eX ay p=true):ER rL p:=by
 unfold eX at h;simp only[qF9]at h;exact zq (GS p h.1.1.2) λq h=>(qU q).1 h
abbrev qd9:Spc:=ax (a1 Pat) (λp=>eX ay p=true/\cK p<=1000000) (enc (X:=List B)) λp y=>y=bp p []
theorem Un(h1:S pE=uo):aq ym xx S (a1 Pat) (λp=>eX ay p=true/\cK p<=1000000) (enc (X:=List B)) λp y=>y=bp p []:=by
 rintro p ⟨hp,hn⟩;have hl:=iS p;have c:(am p).length<=100000000:=by omega
 have d:=qn4 (qgj hp) [];simp[ym,xx,h1,hp,c,-fB',-eB'];intro u;refine ah (X:=Value×List B) [10] [] (am p).length (λk z=>z.2=Gt ((am p).take k) []) (λz=>[(3, .own 39 z.1)]) (λz=>[(39, .row z.1 av 1 (z.2.map enc))]) (.slice none 0 0, []) (by simp[Gt]) ?_ ?_ (hh:=by simp[isNilRow])
 ·rintro k ⟨v,z⟩ hk hz;have hz:z=Gt ((am p).take k) []:=hz;obtain⟨x,h⟩:=aM hk;obtain⟨_,l⟩:=qF4.1 h;have w:z.length<=k:=by
   have:=qkc ((am p).take k) [];rw[hz];simp only[qGv,qHI]at this;omega
  have q:Gt ((am p).take (k+1)) []=mN z x.lab:=by rw[au h,qgQ,<-hz]
  simp[hk,h,l,-fB',-eB'];intro b A;refine ah (X:=Bool) [3,5,10,11,12,19] [5,39] z.length (λj kn=>kn=(decide (x.lab=E0)||decide (x.lab∈z.take j))) (λkn=>[(6,enc kn)]) (λ_=>[]) (decide (x.lab=⟨#[]⟩)) (by simp[E0];congr) ?_ ?_
  ·rintro j kn t a;obtain⟨y,r⟩:=aM t;obtain⟨_,s⟩:=qF4.1 r;have e:(decide (x.lab=E0)||decide (x.lab∈z.take (j+1)))=(kn||decide (y=x.lab)):=by rw[au r,a];simp[Bool.or_assoc,eq_comm]
   rw[e];clear a;cases kn<;>simp[t,r,s,-fB',-eB']
  ·rintro kn a;rw[qGc]at a;rw[q];unfold mN DV;by_cases h0:x.lab=E0
   ·have:kn=true:=by simp[a,h0]
    subst this;simp[h0,-fB',-eB']
   ·by_cases h1:x.lab∈z
    ·have:kn=true:=by simp[a,h1]
     subst this;simp[h0,h1,-fB',-eB']
    ·have:kn=false:=by simp[a,h0,h1]
     subst this;simp[h0,h1,-fB',-eB'];exact⟨by omega,by omega⟩
 ·rintro⟨v,z⟩ hz;have hz:z=Gt ((am p).take (am p).length) []:=hz;rw[qGc,d]at hz;subst hz;simp[-fB',-eB'];exact aL (bp p []) (fq av (by simp)) rfl
structure qsE (a:List Attr) (q:Qry):Prop where
 v:qbs a q
 lv:∀x∈am q.pat,ql6 (x.cond,a,bp q.pat [])
def qoj{f:Filt}(h:GF f):ay f.reg=true:=qoa (.inl h.2)
abbrev Ze:Spc:=ax (a2 Qry (List Attr)) (λx=>qsE x.2 x.1) (enc (X:=Int)) λ_ y=>y=0
theorem NV(h1:S lL=Kq)(h2:S nX=OL)(h3:S aK=ot)(h4:S jG=FX)(h5:S ra=zY)(h6:S AU=qd9)(A:S gu=s_leaves)(C:S pG=s_rVal)(E:S ya=SO)(l:S vD=Za):
 aq tM te S (a2 Qry (List Attr)) (λx=>qsE x.2 x.1) (enc (X:=Int)) λ_ y=>y=0:=by
 rintro⟨q,a⟩ ⟨b,p⟩;have b:qbs a q:=b;have hp:=b.pat;unfold eX at hp;simp only[qF9]at hp;obtain⟨⟨⟨F,I⟩,J⟩,K⟩:=hp;have j:¬256<fO q.pat:=by have:=b.size;omega
 have r:¬3<((bp q.pat []).length:Int):=by have:=b.l3;omega
 have L:(bp q.pat []).length<=100:=by have:=b.l3;omega
 have M:¬q.strat< 0:=by have:=b.strat;omega
 have N:¬3<q.strat:=by have:=b.strat;omega
 have O:eX ay q.pat=true/\cK q.pat<=1000000:=⟨b.pat,b.num⟩
 have s:qhD q.pat []:=by have:=iS q.pat;have:=b.num;show 0+_<=_;omega
 have t:qDQ q.glob:=b.glob.imp id λh=>⟨_,2,qGb _,h⟩
 have u:yF (q.glob,a,bp q.pat []):=⟨b.att,b.glob.imp id λh=>⟨2,h⟩⟩
 simp[tM,te,h1,F,I,M,N,h2,J,-fB',-eB'];intro Q;refine ah (X:=Unit) [1,2,32] [] q.filts.length (λ_ _=>True) (λ_=>[]) (λ_=>[]) () trivial ?_ ?_
 ·rintro k -hk -;obtain⟨x,c⟩:=aM hk;obtain⟨_,d⟩:=qF4.1 c;have hn:=qoj (b.filts x (qF7 c));simp[hk,c,d,h3,hn,-fB',-eB']
 rintro - -;simp[h4,K,h5,b.pat,j,h6,O,r,A,s,-fB',-eB'];refine⟨by omega,λ_ U=>⟨by omega,λ_=> .inl λv w=>?_⟩⟩;refine ah (X:=Unit) [1,2,7,59] [59] (am q.pat).length (λ_ _=>True) (λ_=>[]) (λ_=>[]) () trivial ?_ ?_
 ·rintro k -hk -;obtain⟨x,c⟩:=aM hk;obtain⟨_,d⟩:=qF4.1 c;have W:ql6 (x.cond,a,bp q.pat []):=p x (qF7 c);simp[hk,c,d,C,W,-fB',-eB']
 rintro - -;simp[-fB',-eB'];intro _;refine ah (X:=Unit) [1,2,7,75] [] q.filts.length (λ_ _=>True) (λ_=>[]) (λ_=>[]) () trivial ?_ ?_
 ·rintro k -hk -;obtain⟨x,c⟩:=aM hk;obtain⟨_,d⟩:=qF4.1 c;have hf:=(b.filts x (qF7 c)).1;have Y:¬x.op< 1:=by omega
  have Z:¬3<x.op:=by omega
  simp[hk,c,d,Y,Z,-fB',-eB']
 ·rintro - -;simp[E,l,t,u,-fB',-eB']
end
section
open Go.Proofs
def sd:CC:=gq Tryz.f243 [1] {} _
def rQ:List ai:=[.tmp 2]
def RJ:FO pF [1] sd rQ 18:=fo
def lQ:CC:=gq Tryz.f175 [] {} _
def lH:List ai:=[.cell 2 true 7]
def VE:FO sH [] lQ lH 35:=fo
def Be:CC:=gq Tryz.f111 [1] {} _
def Ak:List ai:=[.cell 2 true 7]
def VK:FO Dl [1] Be Ak 15:=fo
def yn:CC:=gq Tryz.f46 [2] {} _
def xy:List ai:=[.tmp 4, .tmp 5]
def RK:FO AV [2] yn xy 43:=fo
end
end Go.Gv
