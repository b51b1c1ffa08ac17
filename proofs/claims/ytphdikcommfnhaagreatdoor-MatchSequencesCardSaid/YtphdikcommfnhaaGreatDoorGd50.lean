/- A part of the framework and of the walks: W201 Asm26 Fr Fr2 Fr3 V32 Fr4. -/
import Derived.WalkKit
import Derived.ProofKit
import Derived.OpenShut
import Derived.ShutString
import Derived.ChangeOld
import Derived.Below
import Derived.Test.YtphdikcommfnhaaGreatDoorGd49
import Derived.Test.YtphdikcommfnhaaGreatDoorGd21
import Derived.Test.YtphdikcommfnhaaGreatDoorGd19
set_option linter.unusedSimpArgs false
set_option linter.unusedVariables false
set_option linter.unusedSectionVars false
set_option maxRecDepth 100000

namespace Go.Gv
open Go.Proofs
open Cod (enc dec)
variable {S S0:Nat->Spc}
def XY:mh:=⟨⟨#[]⟩,0,0, []⟩
def qhO(c:Corpus)(i:Int):mh×Bool:=match Gh c i with
 | some t=>(t,true)
 | none=>(XY,false)
theorem Qi{α:Type}{p:α->Bool} :∀ {l:List α} {k:Nat} {x:α},l[k]? =some x->p x=true->(∀y∈l.take k,p y=false)->l.find? p=some x
 | [],k,x,h,_,_=>by simp at h
 | a::l,0,x,h,h1,_=>by simp at h;subst h;simp[h1]
 | a::l,k+1,x,h,h1,h2=>by
   have ha:p a=false:=h2 a (by simp)
   rw[List.find?_cons_of_neg (by simp[ha])]
   exact Qi (k:=k) (by simpa using h) h1 fun y hy=>h2 y (by simp[hy])
abbrev s_rTextOf:Spc:=bj (a2 Corpus Int) (fun _=>True) (ro (Y:=mh) (Z:=Bool)) fun x y=>y=qhO x.1 x.2
theorem VF:ar uZ uB S (a2 Corpus Int) (fun _=>True) (ro (Y:=mh) (Z:=Bool)) fun x y=>y=qhO x.1 x.2:=by
 rintro⟨c,p⟩ -
 simp[uZ,uB]
 intro b hlen
 refine aj (X:=Unit) [1,4,9] [4] c.texts.length (fun k _=>∀y∈c.texts.take k,(decide (y.b<=p) && decide (p < y.e))=false) (fun _=>[]) (fun _=>[]) () (by simp) (by simp) (by omega) (by simp) (by simp) (by simp) (by simp) (by simp) ?_ ?_
 ·intro k _ hk hP
  replace hP:∀y∈c.texts.take k,(decide (y.b<=p) && decide (p < y.e))=false:=hP
  obtain⟨t,ht⟩:=da hk
  obtain⟨_,hgt⟩:=qtV.1 ht
  simp[ht,hk,hgt]
  refine⟨fun h1=>⟨fun h2=>?_,fun h2=>?_⟩,fun h1=>?_⟩
  ·refine⟨t, .same _,?_⟩
   simp[qhO,Gh,Qi (p:=fun t:mh=>decide (t.b<=p) && decide (p < t.e)) ht (by simp;omega) hP]
  all_goals
   intro y hy
   rw[bJ ht]at hy
   rcases qtZ.1 hy with hy|hy
   ·have:=hP y hy
    simpa using this
   ·simp at hy;subst hy;omega
 ·intro _ hP
  rw[quy]at hP
  simp
  refine⟨XY,?_,?_⟩
  ·rw[bT,bT,bT,bT]
   exact⟨.same _, .same _, .same _, .nil _, .same _⟩
  ·simp only[qhO,Gh]
   rw[qv6.2 (fun y hy=>by simp[hP y hy])]
theorem UF:TX Span true [.int .i64, .int .i64]:=⟨fun _=>rfl,fun _=>rfl⟩
theorem PO(s:Span):F3 (enc s) (enc s):=by
 refine⟨fun _=>False,fun _=>False,default, .agg [Value.int .i64 s.b, .int .i64 s.e].toArray,?_,?_⟩ <;>
 ·refine R.agg _ _ rfl (by simp[Value.oneCell']) fun k x c h1 h2=>?_
  rcases k with _|_|k
  ·cases h1;cases h2;exact R.int .i64 _
  ·cases h1;cases h2;exact R.int .i64 _
  ·simp at h1
@[simp] theorem qoL(a b:Int)(l:List Span)(K:List D->Prop):yJ true [.int .i64, .int .i64] (.agg [.v (.int .i64 a), .v (.int .i64 b)]) (.v (.bool true)) (bz l) K=K (bz (uX (⟨a,b⟩:Span) l)):=
 Hv UF ⟨a,b⟩ (PO _) l K
@[simp] theorem qmA(ok:Bool)(a b:Int)(l:List Span)(K:D->Prop):uW ok false true [.int .i64, .int .i64] [.bool false] (.agg [.v (.int .i64 a), .v (.int .i64 b)]) (bz l) K=K (qdc ok (.v (.bool (decide ((⟨a,b⟩:Span) ∈l)))) (decide ((⟨a,b⟩:Span) ∈l))):=
 FR UF ⟨a,b⟩ (PO _) l K
def qlj(c:Corpus)(a b:List Match)(k:Nat)(es:List Span):Prop:=es.Nodup/\∀sp,sp∈es↔ ∃x∈a.take k,∃y∈b,qiD c x y sp
def XQ(c:Corpus)(a b:List Match)(k:Nat)(x:Match)(j:Nat)(es:List Span):Prop:=es.Nodup/\∀sp,sp∈es↔ (∃x∈a.take k,∃y∈b,qiD c x y sp)\/ ∃y∈b.take j,qiD c x y sp
theorem qaR{c:Corpus}{a b:List Match}{k j:Nat}{x y:Match}{es:List Span}(h:XQ c a b k x j es)(hy:b[j]? =some y)(hc:qiD c x y ⟨x.b,y.e⟩):XQ c a b k x (j+1) (uX ⟨x.b,y.e⟩ es):=by
 refine⟨sT h.1,fun sp=>?_⟩
 rw[dL,h.2,bJ hy]
 simp only[qtZ,qu5]
 constructor
 ·rintro(rfl|h|⟨z,hz,h⟩)
  ·exact .inr ⟨y, .inr rfl,hc⟩
  ·exact .inl h
  ·exact .inr ⟨z, .inl hz,h⟩
 ·rintro(h|⟨z,hz|rfl,h⟩)
  ·exact .inr (.inl h)
  ·exact .inr (.inr ⟨z,hz,h⟩)
  ·exact .inl h.2.2
theorem U5{c:Corpus}{a b:List Match}{k j:Nat}{x y:Match}{es:List Span}(h:XQ c a b k x j es)(hy:b[j]? =some y)(hc:∀sp,¬qiD c x y sp):XQ c a b k x (j+1) es:=by
 refine⟨h.1,fun sp=>?_⟩
 rw[h.2,bJ hy]
 simp only[qtZ,qu5]
 constructor
 ·rintro(h|⟨z,hz,h⟩)
  ·exact .inl h
  ·exact .inr ⟨z, .inl hz,h⟩
 ·rintro(h|⟨z,hz|rfl,h⟩)
  ·exact .inl h
  ·exact .inr ⟨z,hz,h⟩
  ·exact(hc sp h).elim
theorem qaS{c:Corpus}{a b:List Match}{k:Nat}{x:Match}{es:List Span}(h:XQ c a b k x b.length es)(hx:a[k]? =some x):qlj c a b (k+1) es:=by
 refine⟨h.1,fun sp=>?_⟩
 rw[h.2,bJ hx,quy]
 simp only[qtZ,qu5]
 constructor
 ·rintro(⟨z,hz,h⟩|h)
  ·exact⟨z, .inl hz,h⟩
  ·exact⟨x, .inr rfl,h⟩
 ·rintro⟨z,hz|rfl,hc⟩
  ·exact .inl ⟨z,hz,hc⟩
  ·exact .inr hc
theorem qdU{u:List Match}{es:List Span}(hn:u.Nodup)(h:es.Nodup)(h1:∀sp,sp∈es↔ ∃m∈u,sp=⟨m.b,m.e⟩)(h2:∀m∈u,m.lbs=[]):u.length=es.length:=by
 have e:(u.map fun m=>(⟨m.b,m.e⟩:Span)).Nodup:=by
  refine qv8.2 (List.Pairwise.imp_of_mem (fun {x y} hx hy hne e=>hne ?_) hn)
  have e1:=h2 x hx
  have e2:=h2 y hy
  obtain⟨a,b,c⟩:=x
  obtain⟨a',b',c'⟩:=y
  simp only[Span.mk.injEq]at e e1 e2
  rw[e.1,e.2,e1,e2]
 have:es.Perm (u.map fun m=>(⟨m.b,m.e⟩:Span)):=(List.perm_ext_iff_of_nodup h e).2 fun sp=>by
  rw[h1,qt9]
  exact⟨fun⟨m,h,e⟩=>⟨m,h,e.symm⟩,fun⟨m,h,e⟩=>⟨m,h,e.symm⟩⟩
 rw[this.length_eq,quM]
theorem qeN{L:List Int}{p:Pat}(h:J1 (L,1, []) p):Ah p:=⟨⟨1,by decide,h.1.1⟩,h.2⟩
abbrev qfU:Spc:=bj (a2 (List Int) (List Int)) (fun _=>True) enc (fun(_:List Int×List Int) (y:Bool)=>y=true)
theorem qfr(h1:S G7=s_m_New)(h2:S lr=s_m_Corpus)(h3:S ew=mH 3)(h4:S eY=Pp)(h5:S rD=s_rTextOf)(h6:S pW=Eu)(h7:S pR=M7):ar gd fV S (a2 (List Int) (List Int)) (fun _=>True) enc (fun(_:List Int×List Int) (y:Bool)=>y=true):=by
 rintro⟨l,m⟩ -
 simp[gd,fV,h1,h2,h3, -Bool.forall_bool, -Bool.exists_bool]
 have pp:∀L:List Int,Rh 3 (L,1, []):=fun L=>⟨by show(1:Int).toNat < 3;decide,by show(-10:Int)<=1;decide,by show(1:Int)<=100;decide,qul _⟩
 refine fun c hw hk hl b L=>⟨pp L,fun p hp=>⟨pp L,fun r hr b1 b2=>?_⟩⟩
 have hc:=qjK hw hk hl
 have hP:=qeN hp
 have hR:=qeN hr
 have hA:=qjJ hP hR ⟨1,by decide,hp.1.1,hr.1.1⟩
 have hch:=hw.1
 have vP:lO bP p=true:=by obtain⟨n,hn,hw⟩:=hP.wp;exact GT (fun l h=>by cases h) Mv n p hw (by omega)
 have vR:lO bP r=true:=by obtain⟨n,hn,hw⟩:=hR.wp;exact GT (fun l h=>by cases h) Mv n r hw (by omega)
 clear h1 h2 h3 hw hk hl hp hr pp
 have kP:=(GU p vP).1
 have kR:=(GU r vR).1
 simp[h7,vP,vR,ro,h6, -Bool.forall_bool, -Bool.exists_bool]
 intro w1 w2
 have w1:1<=(gh p).1:=by omega
 have w2:1<=(gh r).1:=by omega
 clear h7 kP kR vP vR
 simp[h4, -Bool.forall_bool, -Bool.exists_bool]
 refine⟨NE hc hP,fun a e hq=>?_⟩
 obtain⟨e0,ha,hla⟩:=I2 hc hP hq
 simp only at e0 ha hla
 subst e0
 clear hq
 simp[h4, -Bool.forall_bool, -Bool.exists_bool]
 refine⟨NE hc hR,fun a2 e hq=>?_⟩
 obtain⟨e0,ha2,hla2⟩:=I2 hc hR hq
 simp only at e0 ha2 hla2
 subst e0
 clear hq
 refine⟨NE hc hA,fun u e hq=>?_⟩
 obtain⟨e0,hu,hlu⟩:=I2 hc hA hq
 simp only at e0 hu hlu
 subst e0
 clear hq h4
 simp[-Bool.forall_bool, -Bool.exists_bool]
 intro v _
 have hT:∀x∈a,∃t,Gh c x.b=some t:=fun x hx=>by obtain⟨_,_,t,h,_⟩:=(ha.2 x).1 hx;exact⟨t,h⟩
 refine aj (X:=List Span) [5,15,17,19,89] [5] a.length (fun k es=>qlj c a a2 k es) (fun _=>[]) (fun es=>[(88, .mrow v (bz es))]) [] (by simp) (by simp) (by omega) (by simp) (by simp) ⟨qvG,fun sp=>by simp⟩ (by simp) (by simp[qi]) ?_ ?_
 ·rintro k es hk hes
  obtain⟨x,hx⟩:=da hk
  obtain⟨_,hgx⟩:=qtV.1 hx
  obtain⟨t,ht⟩:=hT x (qtY hx)
  have htx:qhO c x.b=(t,true):=by unfold qhO;rw[ht]
  simp[hk,hx,hgx, -Bool.forall_bool, -Bool.exists_bool]
  intro b21 _
  refine aj (X:=List Span) [5,15,17,19,21,89,90,91,95] [5,21] a2.length (fun j es=>XQ c a a2 k x j es) (fun _=>[]) (fun es=>[(88, .mrow v (bz es))]) es (by simp) (by simp) (by omega) (by simp) (by simp) ⟨hes.1,fun sp=>by rw[hes.2];simp⟩ (by simp) (by simp) ?_ ?_
  ·rintro j es' hj hes'
   obtain⟨y,hy⟩:=da hj
   obtain⟨_,hgy⟩:=qtV.1 hy
   simp[hj,hy,hgy,h5,htx,ro, -Bool.forall_bool, -Bool.exists_bool]
   refine⟨fun e=>⟨fun h=>⟨_,qaR hes' hy ⟨e,⟨t,ht,h⟩,rfl⟩, .inl rfl⟩,fun h=>⟨_,U5 hes' hy fun sp hc=>?_, .inl rfl⟩⟩,fun h=>⟨_,U5 hes' hy fun sp hc=>h hc.1, .inl rfl⟩⟩
   obtain⟨t',ht',hc⟩:=hc.2.1
   rw[ht]at ht'
   cases ht'
   omega
  ·rintro es' hes'
   simp[-Bool.forall_bool, -Bool.exists_bool]
   exact⟨_,qaS hes' hx, .inl rfl⟩
 ·rintro es hes
  have hes2:∀sp,sp∈es↔ ∃m∈u,sp=⟨m.b,m.e⟩:=fun sp=>by
   rw[hes.2,quy]
   constructor
   ·rintro⟨x,hx,y,hy,h⟩
    obtain⟨m,hm,e⟩:=(Uv hch hP hR w1 w2 sp).2 ⟨x,y,(ha.2 x).1 hx,(ha2.2 y).1 hy,h⟩
    exact⟨m,(hu.2 m).2 hm,e⟩
   ·rintro⟨m,hm,e⟩
    obtain⟨x,y,hx,hy,h⟩:=(Uv hch hP hR w1 w2 sp).1 ⟨m,(hu.2 m).1 hm,e⟩
    exact⟨x,(ha.2 x).2 hx,y,(ha2.2 y).2 hy,h⟩
  have hlen:=qdU (CO hu.1) hes.1 hes2 fun m hm=>qda ((hu.2 m).1 hm)
  simp[-Bool.forall_bool, -Bool.exists_bool]
  intro _
  refine aj (X:=Unit) [17,19,128] [88] u.length (fun k _=>True) (fun _=>[]) (fun _=>[]) () (by simp) (by simp) (by omega) (by simp) (by simp) trivial (by simp) (by simp) ?_ ?_
  ·rintro k ⟨⟩ hk -
   obtain⟨x,hx⟩:=da hk
   obtain⟨_,hgx⟩:=qtV.1 hx
   have hin:(⟨x.b,x.e⟩:Span) ∈es:=(hes2 _).2 ⟨x,qtY hx,rfl⟩
   simp[hk,hx,hgx,hin, -Bool.forall_bool, -Bool.exists_bool]
  ·rintro⟨⟩ -
   simp[h6,hlen,YG, -Bool.forall_bool, -Bool.exists_bool]
end Go.Gv

namespace Go.Gv
open Go.Proofs Cod
theorem AS:∀n,Tri Tryz.prog fI (MO n).pt
 | 0=>gW fun x h=>qhZ h.1
 | n+1=>ae (S:=aJ [(fI,MO n)]) (ag (aa (AS n) ac)) IH (fun _=>qtU rfl) (Kk n rfl)
theorem KA:Tri Tryz.prog fI (HV).pt:=
 uz (fun n=>AS n) (yP (fun x h=>⟨fk x,qt4 _,h⟩))
theorem KC:Tri Tryz.prog pR (M7).pt:=
 ae (S:=aJ [(iq,gY),(fI,HV)]) (ag (aa AO (aa KA ac))) IM (fun _=>qtU rfl) (Kp rfl rfl)
theorem Mw:Tri Tryz.prog rD s_rTextOf.pt:=
 ae (S:=aJ []) (ag ac) KI (fun _=>qtU rfl) VF
theorem O9:Tri Tryz.prog nE (qfU).pt:=
 ae (S:=aJ [(G7,s_m_New),(lr,s_m_Corpus),(ew,mH 3),(eY,Pp),(rD,s_rTextOf),(pW,Eu),(pR,M7)]) (ag (aa qcw (aa Gi (aa (wa 3) (aa xQ (aa Mw (aa KD (aa KC ac)))))))) vM (fun _=>qtU rfl) (qfr rfl rfl rfl rfl rfl rfl rfl)
end Go.Gv

namespace Go.Gv
open Go.ChangeShapes Go.WideShapes Go.ChangeAt Go.RowKit
section
variable {H:Type}{ec:TypeId×Value->H}{P:Program}{w:World}{base:Nat}{spare:Nat->Bool}{held:Bool}{tp I:Nat->Prop}
def OpR(tp I:Nat->Prop)(w:World)(cs:List Value)(d:D):Prop:=cs.length=d.cells.length/\∀ (k:Nat) (y:Value) (c:D),cs[k]? =some y->d.cells[k]? =some c->y.oneCell'=true/\R tp I w y c
theorem OpR.one{y:Value}{d:D}(h:OpR tp I w [y] d)(hd:d.cells=[d]):R tp I w y d:=(h.2 0 y d rfl (by rw[hd];rfl)).2
theorem Zf{t:TypeId}{fuel:Nat}{cs:List Value}{x:DataW H×List MemPlace}(ht:P.underlying t=some (.int .i64))(h:DataW.trod ec P w base spare held fuel t cs=some x):∃n:Int,OpR tp I w cs (Cod.enc n):=by
 obtain⟨n,rfl,_,_⟩:=DataW.trod_int ht h
 refine⟨n,rfl,fun k y c h1 h2=>?_⟩
 cases k with
 | zero=>cases h1;cases h2;exact⟨rfl, .v _ rfl (fun s h=>by cases h)⟩
 | succ k=>simp at h1
theorem Pu{Y:Type}[Cod Y]{t e:TypeId}(ht:P.underlying t=some (.slice e))(hc:P.cellsOf e=Cod.wd Y)(h0:0 < Cod.wd Y)
 (hel:∀ (n:Nat) (cs:List Value) (x:DataW H×List MemPlace),DataW.trod ec P w base spare held n e cs=some x->∃y:Y,OpR tp I w cs (Cod.enc y)) (hI:∀b,b < w.heap.size->I b)
 {fuel:Nat} {cs:List Value} {x:DataW H×List MemPlace} (h:DataW.trod ec P w base spare held fuel t cs=some x) (h1w:Cod.wd Y=1:=by rfl):∃l:List Y,OpR tp I w cs (Cod.enc l):=by
 have one:∀ (v:Value) (l:List Y),v.oneCell'=true->R tp I w v (.list (Cod.wd Y) (l.map Cod.enc))->OpR tp I w [v] (Cod.enc l):=fun v l h1 h2=>⟨rfl,fun k y c e1 e2=>by
  cases k with
  | zero=>cases e1;cases e2;exact⟨h1,h2⟩
  | succ k=>simp at e1⟩
 rcases DataW.trod_slice ht h with⟨rfl,_⟩|⟨a,len,cap,elems,rest,n,_,rfl,_,_,hl,hm,hlen,hel',_⟩
 ·exact⟨[],one _ [] rfl (.nolist none 0 _)⟩
 ·by_cases hz:len=0
  ·subst hz
   exact⟨[],one _ [] rfl (.nolist (some a) cap _)⟩
  ·have each:∀i:_root_.Fin len,∃p:List Value×Y,w.cells? base (a.add (i*P.cellsOf e)) (P.cellsOf e)=some p.1/\OpR tp I w p.1 (Cod.enc p.2):=fun i=>by
    have h1:=hel' i i.2
    rw[qtW (by omega)]at h1
    obtain⟨cs',h2,h3⟩:=qtT.1 h1
    obtain⟨y,hy⟩:=hel n cs' _ h3
    exact⟨(cs',y),h2,hy⟩
   obtain⟨g,hg⟩:=qwd each
   obtain⟨b,off,spot⟩:=a
   have cellAt:∀ (i:_root_.Fin len) (j:Nat),j < Cod.wd Y->∃v,(g i).1[j]? =some v/\w.cell? ((Addr.add ⟨b,off,spot⟩ (i*Cod.wd Y)).add j)=some v:=fun i j hj=>by
    have h1:=World.cells?_some (hg i).1
    have h2:=h1.2.2 j (by rw[hc];exact hj)
    have h3:j < (g i).1.length:=by rw[h1.2.1,hc];exact hj
    refine⟨(g i).1[j],qtW h3,?_⟩
    rw[hc]at h2
    rw[h2,qtW h3]
   have hs:spot=none:=by
    obtain⟨v,_,h2⟩:=cellAt ⟨0,by omega⟩ 0 h0
    have:=World.cell?_spot h2
    simpa [Addr.add]using this
   subst hs
   have hadd:∀ (o n:Nat),Addr.add ⟨b,o,none⟩ n=⟨b,o+n,none⟩:=fun o n=>by
    unfold Addr.add
    split
    ·rename_i e;subst e;rfl
    ·rfl
   have cellAt':∀ (i:_root_.Fin len) (j:Nat),j < Cod.wd Y->∃v,(g i).1[j]? =some v/\w.cell? ⟨b,off+ (i*Cod.wd Y+j),none⟩=some v:=fun i j hj=>by
    obtain⟨v,h1,h2⟩:=cellAt i j hj
    refine⟨v,h1,?_⟩
    rw[hadd,hadd]at h2
    rw[<-qve]
    exact h2
   have hb:b < w.heap.size:=by
    obtain⟨v,_,h2⟩:=cellAt' ⟨0,by omega⟩ 0 h0
    unfold World.cell? at h2
    by_cases hlt:b < w.heap.size
    ·exact hlt
    ·simp only[qvk (Nat.le_of_not_lt hlt)]at h2
     cases h2
   let es:List Y:=List.ofFn fun i=>(g i).2
   have hesl:es.length=len:=by simp[es]
   have hesi:∀i:_root_.Fin len,(es.map Cod.enc)[(i:Nat)]? =some (Cod.enc (g i).2):=fun i=>by
    rw[quc]
    have:es[(i:Nat)]? =some (g i).2:=by simp[es]
    rw[this];rfl
   have hw:∀d∈es.map Cod.enc,d.kn=true/\d.cells.length=Cod.wd Y:=fun d hd=>by
    obtain⟨y,_,rfl⟩:=qt9.1 hd
    exact⟨Cod.kn y,Cod.wid y⟩
   have flatAt:∀ (k:Nat) (c:D),(br (es.map Cod.enc))[k]? =some c->∃v,w.cell? ⟨b,off+k,none⟩=some v/\v.oneCell'=true/\R tp I w v c:=fun k c hk=>by
    have hkl:=(qtV.1 hk).1
    rw[aR (fun d hd=>(hw d hd).2),quM,hesl]at hkl
    have hdm:k=(k/Cod.wd Y) *Cod.wd Y+k % Cod.wd Y:=by have:=qvc k (Cod.wd Y);rw[qu7]at this;omega
    have hmod:k % Cod.wd Y < Cod.wd Y:=qvi _ h0
    have hq:k/Cod.wd Y < len:=qv3 (by rw[qu7];exact hkl)
    have g1:=dm (es:=es.map Cod.enc) (fun d hd=>(hw d hd).2) (i:=k/Cod.wd Y) hmod
    rw[<-hdm,hk,hesi ⟨k/Cod.wd Y,hq⟩]at g1
    simp only[qud]at g1
    obtain⟨v,h1,h2⟩:=cellAt' ⟨k/Cod.wd Y,hq⟩ (k % Cod.wd Y) hmod
    simp only at h2
    rw[<-hdm]at h2
    exact⟨v,h2,(hg ⟨k/Cod.wd Y,hq⟩).2.2 _ v c h1 g1.symm⟩
   have hR:R tp I w (.slice (some ⟨b,off,none⟩) len cap) (.list (Cod.wd Y) (es.map Cod.enc)):=by
    have hll:(es.map (Cod.enc (X:=Y))).length=len:=by simp[hesl]
    rw[<-hll]
    have rd:∀ (k:Nat) (c:D),(br (es.map Cod.enc))[k]? =some c->w.cell? ⟨b,off+k,none⟩=some ((w.cell? ⟨b,off+k,none⟩).getD Go.undef):=fun k c hk=>by
     obtain⟨v,h1,_⟩:=flatAt k c hk
     rw[h1];rfl
    refine .list b off cap _ (es.map Cod.enc) (fun k=>(w.cell? ⟨b,off+k,none⟩).getD Go.undef) (hI b hb) (by rw[hll];exact hl) hm (fun h=>absurd h1w h) hw rd (fun k c hk=>?_) (fun k c hk=>?_)
    ·obtain⟨v,h1,h2,_⟩:=flatAt k c hk
     rw[h1];exact h2
    ·obtain⟨v,h1,_,h2⟩:=flatAt k c hk
     rw[h1];exact h2
   exact⟨es,one _ es rfl hR⟩
end
end Go.Gv

namespace Go.Gv
open Go.ChangeShapes Go.WideShapes Go.ChangeAt Go.RowKit
section
variable {H:Type}{ec:TypeId×Value->H}{P:Program}{w:World}{base:Nat}{spare:Nat->Bool}{held:Bool}{tp I:Nat->Prop}
end
abbrev qmg(w:World):Nat->Prop:=aP (fun _=>False) (fun _=>False) bY w
theorem Zt{w:World}{b:Nat}(h:b < w.heap.size):qmg w b:=⟨h,fun h=>h,fun h=>h,fun⟨i,r,h,_⟩=>by simp[bY]at h⟩
end Go.Gv

namespace Go.Gv
open Go.ChangeShapes Go.WideShapes Go.ChangeAt Go.RowKit
section
variable {H:Type}{ec:TypeId×Value->H}{P:Program}{w:World}{base:Nat}{spare:Nat->Bool}{held:Bool}{tp I:Nat->Prop}
end
end Go.Gv

namespace Go.Gv
open Cod (enc dec)
instance:Cod UInt8 where
 wd:=1
 enc n:= .v (.int .u8 n.toNat)
 dec| .v (.int .u8 n)=>if 0<=n/\n<=255 then some (UInt8.ofNat n.toNat)else none|_=>none
 kn _:=rfl
 wid _:=rfl
 dec_enc n:=by
  have:=n.toNat_lt
  simp only
  rw[if_pos (by omega)]
  congr 1
  rw[qwB,UInt8.ofNat_toNat]
 le d x h:=by
  split at h
  ·split at h
   ·rename_i n hn
    cases h
    have e:((UInt8.ofNat n.toNat).toNat:Int)=n:=by
     rw[qvy]
     omega
    show FrzTo bY _ (.v (.int .u8 ((UInt8.ofNat n.toNat).toNat:Int)))
    rw[e]
    exact .same _
   ·cases h
  ·cases h
end Go.Gv

namespace Go.Gv
open Go.ChangeShapes Go.WideShapes Go.ChangeAt Go.RowKit
section
variable {H:Type}{ec:TypeId×Value->H}{P:Program}{w:World}{base:Nat}{spare:Nat->Bool}{held:Bool}{tp I:Nat->Prop}
end
theorem Ta{P:Program}{f:Nat}{X:Type}{A:df X}{p:X->Prop}{q:X->Bool->Prop}(h:Tri P f (bj A p (Cod.enc (X:=Bool)) q).pt)(hq:∀x y,q x y->y=true){w:World}{vs:List Value}{ds:List D}{x:X}(hp:p x)(hlen:vs.length=ds.length)
 (hR:∀ (k:Nat) (y:Value) (c:D),vs[k]? =some y->ds[k]? =some c->R (fun _=>False) (qmg w) w y c) (hdec:A.dec ds=some x) (hG:GlW (fun _=>False) (fun _=>False) w):
 Calls P f vs.toArray w fun e w'=>e= .returned (.bool true)/\Below w.heap.size w w':=by
 obtain⟨_,hc⟩:=h (fun _=>False) (fun _=>False) w vs ds bY 0 (fun r H'=>r= .v (.bool true)) (fun b h=>h.elim) ⟨fun b h=>h.elim,hG.mono (fun _ h=>h) (fun b ⟨i,r,h,_⟩=>by simp[bY]at h)⟩
  ⟨fun i j r s b h=>by simp[bY]at h,fun i r b h=>by simp[bY]at h,fun i r h=>by simp[bY]at h⟩ hlen hR
  (by rw[so,hdec];exact⟨hp,fun y hy=>by rw[hq x y hy];rfl⟩)
 refine hc.mono ?_
 rintro e w' ⟨v,r,H',tp',rfl,hr,_,_,_,hs,_,_,hv⟩
 subst hr
 have hv':=hv.inv_v
 subst hv'
 exact⟨rfl,hs.os,hs.tape,hs.output,hs.size,fun k hk=>hs.same k hk (fun⟨i,r,h,_⟩=>by simp[bY]at h) (fun h=>h)⟩
end Go.Gv
