/- A part of the framework and of the walks: W37 V5 W190 V65. -/
import Derived.Test.YtphdikcommfnhaaGreatDoorGd44
import Derived.Test.YtphdikcommfnhaaGreatDoorGd37
import Derived.Test.YtphdikcommfnhaaGreatDoorGd25
import Derived.Test.YtphdikcommfnhaaGreatDoorGd29
import Derived.Test.YtphdikcommfnhaaGreatDoorGd38
import Derived.Test.YtphdikcommfnhaaGreatDoorGd39
import Derived.Test.YtphdikcommfnhaaGreatDoorGd42
set_option linter.unusedSimpArgs false
set_option linter.unusedVariables false
set_option linter.unusedSectionVars false
set_option maxRecDepth 100000

namespace Go.Gv
open Cod (enc dec)
variable {S S0:Nat->Spc}
def FunOnP{X Y:Type}[Cod X][Cod Y](S:Nat->Spc)(d:D)(l:List X)(p:X->Y):Prop:=
 ∃g caps pc,d= .clo g caps/\S g= .pure pc/\∀x∈l,pc.pre (enc x::caps)/\∀r,pc.post (enc x::caps) r->r=enc (p x)
theorem FunOnP.useB{X:Type}[Cod X]{S:Nat->Spc}{d:D}{l:List X}{p:X->Bool}(h:FunOnP S d l p)(x:X)(hx:x∈l){d':Nat}{H:ab}{K:D->ab->Prop}(hk:∀y:Bool,(∀q,FunOnP S d l q->y=q x)->K (.v (.bool y)) H):zV S d d' [enc x] H K:=by
 obtain⟨g,caps,pc,rfl,h1,h2⟩:=h
 simp only[zV,h1,Spc.pt]
 refine⟨(h2 x hx).1,fun r hr=>?_⟩
 have e:=(h2 x hx).2 r hr
 rw[e]
 refine hk (p x) fun q hq=>?_
 obtain⟨g',caps',pc',e',k1,k2⟩:=hq
 cases e'
 rw[h1]at k1
 cases k1
 exact aL (e.symm.trans ((k2 x hx).2 r hr))
theorem FunIs.on{X Y:Type}[Cod X][Cod Y]{S:Nat->Spc}{d:D}{p:X->Y}(h:FunIs S d p)(l:List X):FunOnP S d l p:=by
 obtain⟨g,caps,pc,h1,h2,h3⟩:=h
 exact⟨g,caps,pc,h1,h2,fun x _=>h3 x⟩
theorem LM{X Y:Type}[Cod X][Cod Y]{S:Nat->Spc}{g:Nat}{c:D}{l:List X}{pre:X×D×Unit->Prop}{post:X×D×Unit->Y->Prop}{p:X->Y}(h:S g=bj (aE X (aD a0)) pre enc post)(hp:∀x∈l,pre (x,c,()))(hq:∀x∈l,∀y,post (x,c,()) y->y=p x):FunOnP S (.clo g [c]) l p:=by
 refine⟨g, [c],_,rfl,h,fun x hx=>⟨⟨(x,c,()),by simp,hp x hx⟩,fun r hr=>?_⟩⟩
 obtain⟨y,rfl,hy⟩:=hr (x,c,()) (by simp) (hp x hx)
 rw[hq x hx y hy]
theorem Up(x:Pat):D.agg [D.v (Value.int IntKind.i64 x.op),D.v (Value.int IntKind.i64 x.cond.op),D.v (Value.string x.cond.name),D.v (Value.string x.cond.arg),D.v (Value.string x.cond.val),D.v (Value.string x.cond.lab),D.v (Value.bool x.cond.fold),D.list 7 (List.map enc x.cond.kids),D.v (Value.string x.lab),D.v (Value.string x.reg),D.v (Value.int IntKind.i64 x.mn),D.v (Value.int IntKind.i64 x.mx),D.list 13 (List.map enc x.kids)]=enc x:=by simp
def On(S0:Nat->Spc)(x:List Pat×D×Unit):Prop:=∃p:Pat->Bool,FunOnP S0 x.2.1 x.1 p
def qbC(S0:Nat->Spc)(x:List Pat×D×Unit)(y:Int):Prop:=∀p:Pat->Bool,FunOnP S0 x.2.1 x.1 p->y=gi x.1 p
abbrev YT(S0:Nat->Spc):Spc:=bj (aE (List Pat) (aD a0)) (On S0) enc (qbC S0)
theorem se:ar ej ee S (aE (List Pat) (aD a0)) (On S) enc (qbC S):=by
 rintro⟨l,d,⟨⟩⟩ ⟨p,hp⟩
 simp at hp
 simp[ej,ee]
 intro _
 refine aj (X:=Unit) [0,1] [] l.length (fun k _=>∀p:Pat->Bool,FunOnP S d l p->∀x∈l.take k,p x=false) (fun _=>[]) (fun _=>[]) () (by simp) (by simp) (by omega) (by simp) (by simp) (by simp) (by simp) (by simp) ?_ ?_
 ·intro k _ hk hP
  simp
  refine⟨hk,fun x hx=>?_⟩
  rw[Up x]
  refine hp.useB x (dM hx) fun y hy=>?_
  simp
  refine⟨fun h=>?_,fun h p' hp'=>?_⟩
  ·intro p' hp'
   exact(tZ hx (by rw[<-hy p' hp',h]) (hP p' hp')).symm
  ·rw[bJ hx]
   intro z hz
   rcases qtZ.1 hz with hz|hz
   ·exact hP p' hp' z hz
   ·simp at hz;subst hz;rw[<-hy p' hp',h]
 ·intro _ hP
  simp
  intro p' hp'
  exact(mz (by simpa using hP p' hp')).symm
def qbD(S0:Nat->Spc)(x:List Pat×D×Unit)(y:Bool):Prop:=∀p:Pat->Bool,FunOnP S0 x.2.1 x.1 p->y=x.1.any p
abbrev Ij(S0:Nat->Spc):Spc:=bj (aE (List Pat) (aD a0)) (On S0) enc (qbD S0)
theorem qd(h1:S eF=YT S0):ar dA dr S (aE (List Pat) (aD a0)) (On S0) enc (qbD S0):=by
 rintro⟨l,d,⟨⟩⟩ hp
 simp[dA,dr,h1, -Bool.forall_bool]
 refine⟨hp,fun y hy p' hp'=>?_⟩
 rw[hy p' hp']
 exact tY p' l
abbrev Es(n:Nat):Spc:=bj (a2 Pat Int) (fun x=>fk x.1<=n/\0<=x.2/\x.2<=101) (enc (X:=Bool)) fun x y=>y=di x.1 x.2
def qe5(n:Nat)(x:Pat×D×Unit):Prop:=∃d:Int,x.2.1= .cptr [enc d] 0/\fk x.1<=n/\0<=d/\d<=100
def qbv(x:Pat×D×Unit)(y:Bool):Prop:=∀d:Int,x.2.1= .cptr [enc d] 0->y=!di x.1 (d+1)
abbrev YL(n:Nat):Spc:=bj (aE Pat (aD a0)) (qe5 n) enc qbv
theorem Ck(n:Nat)(h1:S ed=Es n):ar lW lH S (aE Pat (aD a0)) (qe5 n) enc qbv:=by
 rintro⟨p,d,⟨⟩⟩ ⟨e,hd,h2,h3,h4⟩
 simp at hd h2
 subst hd
 simp[lW,lH,h1,qbv,h2, -Bool.forall_bool]
 exact⟨by simp only[InR];omega,by omega⟩
theorem F6(n:Nat)(h0:S0 ft=YL n)(h1:S aC=Ij S0):ar pj oz S (a2 Pat Int) (fun x=>fk x.1<=n+1/\0<=x.2/\x.2<=101) (enc (X:=Bool)) fun x y=>y=di x.1 x.2:=by
 rintro⟨p,d⟩ ⟨hn,hd0,hd1⟩
 have hk:∀k∈p.kids,fk k<=n:=fun k hk=>by have:=kZ hk;have:fk p<=n+1:=hn;omega
 simp only at hd0 hd1
 simp[pj,oz,h1, -Bool.forall_bool]
 rw[mu]
 refine⟨fun h=>?_,fun h=>by rw[decide_eq_false (by omega)];rfl⟩
 have hf:FunOnP S0 (.clo ft [.cptr [.v (.int .i64 d)] 0]) p.kids fun x=>!di x (d+1):=
  LM h0 (fun x hx=>⟨d,rfl,hk x hx,hd0,h⟩) (fun x _ y hy=>hy d rfl)
 refine⟨⟨_,hf⟩,fun y hy=>?_⟩
 rw[hy _ hf,decide_eq_true h,qvL]
 simp[qwe]
def qe6(S0:Nat->Spc)(n:Nat)(x:Pat×D×Unit):Prop:=∃ (d:D) (f:Pat->Bool),x.2.1= .cptr [d] 0/\FunIs S0 d f/\fk x.1<=n
def qbx(S0:Nat->Spc)(x:Pat×D×Unit)(y:Bool):Prop:=∀ (d:D) (f:Pat->Bool),x.2.1= .cptr [d] 0->FunIs S0 d f->y=!eT f x.1
abbrev M2(S0:Nat->Spc)(n:Nat):Spc:=bj (aE Pat (aD a0)) (fun x=>∃f:Pat->Bool,FunIs S0 x.2.1 f/\fk x.1<=n) enc fun x y=>∀f:Pat->Bool,FunIs S0 x.2.1 f->y=eT f x.1
abbrev YR(S0:Nat->Spc)(n:Nat):Spc:=bj (aE Pat (aD a0)) (qe6 S0 n) enc (qbx S0)
theorem F9(n:Nat)(h1:S cJ=M2 S0 n):ar pk oJ S (aE Pat (aD a0)) (qe6 S0 n) enc (qbx S0):=by
 rintro⟨p,d,⟨⟩⟩ ⟨e,f,hd,h2,h3⟩
 simp at hd h3
 subst hd
 simp[pk,oJ,h1,qbx,h3, -Bool.forall_bool]
 exact⟨⟨f,h2⟩,fun y hy d g e hg=>by subst e;exact hy g hg⟩
theorem Kn{N:Nat->Spc}(n:Nat)(hN:∀ (d:D) (f:Pat->Bool),FunIs N d f->FunIs S d f)(h0:S0 hZ=YR N n)(h1:S aC=Ij S0):ar tk sG S (aE Pat (aD a0)) (fun x=>∃f:Pat->Bool,FunIs N x.2.1 f/\fk x.1<=n+1) enc fun x y=>∀f:Pat->Bool,FunIs N x.2.1 f->y=eT f x.1:=by
 rintro⟨p,d,⟨⟩⟩ ⟨f,hf,hn⟩
 have hk:∀k∈p.kids,fk k<=n:=fun k hk=>by have:=kZ hk;have:fk p<=n+1:=hn;omega
 simp at hf
 have hd1:d.kn=true/\d.cells=[d]:=by obtain⟨g,caps,pc,rfl,_⟩:=hf;exact⟨rfl,rfl⟩
 simp[tk,sG,h1,hd1, -Bool.forall_bool]
 rw[Up p]
 refine((hN d f hf).on [p]).useB p (by simp) fun y hy=>?_
 have hy:∀f,FunIs N d f->y=f p:=fun f hf=>hy f ((hN d f hf).on [p])
 simp[h1, -Bool.forall_bool]
 refine⟨fun ht=>?_,fun hff g hg=>by rw[ez,<-hy g hg,hff];rfl⟩
 have hO:∀g,FunIs N d g->FunOnP S0 (.clo hZ [.cptr [d] 0]) p.kids fun x=>!eT g x:=fun g hg=>
  LM h0 (fun x hx=>⟨d,g,rfl,hg,hk x hx⟩) (fun x _ y hy=>hy d g rfl hg)
 refine⟨⟨_,hO f hf⟩,fun z hz g hg=>?_⟩
 rw[hz _ (hO g hg),ez,<-hy g hg,ht,qvL]
 simp[qwe]
abbrev Be:Spc:=bj (a2 Pat Int) (fun x=>0<=x.2/\x.2<=101) (enc (X:=Bool)) fun x y=>y=di x.1 x.2
abbrev su(N:Nat->Spc):Spc:=bj (aE Pat (aD a0)) (fun x=>∃f:Pat->Bool,FunIs N x.2.1 f) enc fun x y=>∀f:Pat->Bool,FunIs N x.2.1 f->y=eT f x.1
abbrev CW:Spc:=bj (a1 Pat) (fun _=>True) (enc (X:=Bool)) fun x y=>y=(di x 1 && eT xV x)
theorem zL{X:Type}[Cod X]{S:Nat->Spc}{g:Nat}{pre:X->Prop}{p:X->Bool}(h:S g=bj (a1 X) pre enc fun x y=>y=p x)(hp:∀x,pre x):FunIs S (.clo g []) p:=by
 refine⟨g, [],_,rfl,h,fun x=>⟨⟨x,by simp,hp x⟩,fun r hr=>?_⟩⟩
 obtain⟨y,rfl,hy⟩:=hr x (by simp) (hp x)
 rw[hy]
theorem Kr{N:Nat->Spc}(h0:N jZ=MW)(h1:S ed=Be)(h2:S cJ=su N):ar tr sK S (a1 Pat) (fun _=>True) (enc (X:=Bool)) fun x y=>y=(di x 1 && eT xV x):=by
 rintro p -
 have f1:FunIs N (.clo jZ []) xV:=zL h0 fun _=>trivial
 simp[tr,sK,h1,h2, -Bool.forall_bool]
 refine⟨fun h=>⟨⟨_,f1⟩,fun y hy=>by rw[hy _ f1,h];rfl⟩,fun h h'=>absurd (h.symm.trans h') (by simp)⟩
theorem Kl{N:Nat->Spc}(h0:N eo=CU)(h0':N dN=yS)(h1:S iu=CW)(h2:S cJ=su N):ar ti sE S (a1 Pat) (fun _=>True) (enc (X:=Bool)) fun x y=>y=lO bP x:=by
 rintro p -
 have f1:FunIs N (.clo eo []) (vS bP):=zL h0 fun _=>trivial
 have f2:FunIs N (.clo dN []) uT:=zL h0' fun _=>trivial
 simp[ti,sE,h1,h2, -Bool.forall_bool]
 unfold lO
 refine⟨fun h1 h2=>⟨⟨_,f1⟩,fun y hy=>?_⟩,fun h=>?_⟩
 ·have hy:=hy _ f1
  refine⟨fun ht=>⟨⟨_,f2⟩,fun z hz=>?_⟩,fun hf=>?_⟩
  ·rw[hz _ f2,h1,h2,<-hy,ht];rfl
  ·rw[<-hy,hf];simp
 ·rcases hs:di p 1
  ·rfl
  ·rw[h hs];rfl
end Go.Gv

namespace Go.Gv
theorem Lv(a b:List Pat):fj (a++b)=fj a+fj b:=by
 induction a with
 | nil=>simp[fj]
 | cons k a ih=>simp only[quI,fj];omega
end Go.Gv

namespace Go.Gv
open Cod (enc dec)
variable {S S0:Nat->Spc}
theorem VD{σ:Sg}{H:ab}{k j b el n:Nat}{cs cs':List D}(hkj:j≠k)(hk:H k=some (.box b cs))(hl:cs.length=cs'.length)(hc:∀ (m:Nat) (c c':D),cs[m]? =some c->cs'[m]? =some c'->FrzTo bY c c'):
 Wk σ H σ (ah (ah H k (some (.box b cs'))) j (some (.row (.slice none 0 0) el n []))):=by
 refine X2 (Hf:=bY) id (fun t=> .same _) (fun i r h=>?_) (fun i j r s _ _ e=> .inl e) (fun i r h=>by simp[bY]at h)
 by_cases e:i=j
 ·subst e
  simp[ah]at h
  subst h
  exact .inr ⟨rfl,rfl⟩
 ·by_cases e2:i=k
  ·subst e2
   simp[ah,e]at h
   subst h
   exact .inl ⟨_,hk, .inr ⟨rfl,hl,hc⟩⟩
  ·simp only[ah,e,e2,if_false]at h
   exact .inl ⟨r,h, .inl rfl⟩
def IX:Nat->Cond->Prop
 | 0,_=>False
 | n+1,x=>x.kids.length<=1000000/\∀k∈x.kids,IX n k
abbrev Ib(n:Nat):Spc:=bj (a1 Cond) (IX n) (enc (X:=Cond)) fun x y=>y=x
theorem Hp(n:Nat)(h1:S eG=Ib n):ar qY qJ S (a1 Cond) (IX (n+1)) (enc (X:=Cond)) fun x y=>y=x:=by
 rintro⟨op,name,arg,val,lab,fold,kids⟩ ⟨hlen,hk⟩
 simp only at hlen hk
 simp[qY,qJ]
 intro b2 b3 hkl
 refine Ee (VD (k:=3) (j:=20) (b:=b3) (el:=MC) (n:=7) (cs':=[.v (.int .i64 op), .v (.string name), .v (.string arg), .v (.string val), .v (.string lab), .v (.bool fold), .own 20 (.slice none 0 0)]) (by decide) (by simp;rfl) (by simp) ?_) ?_
 ·intro m c c' hc hc'
  match m with
  | 0|1|2|3|4|5=>simp at hc hc';subst hc;subst hc';exact .same _
  | 6=>simp at hc hc';subst hc;subst hc';exact .nilown _
  | m+7=>simp at hc
 refine aj (X:=Value×List Cond) [2,9] [2] kids.length (fun k x=>x.2=kids.take k) (fun x=>[(3, .bptr 3 b3 0)]) (fun x=>[(3, .box b3 [.v (.int .i64 op), .v (.string name), .v (.string arg), .v (.string val), .v (.string lab), .v (.bool fold), .own 20 x.1]),(20, .row x.1 MC 7 (x.2.map enc))]) (.slice none 0 0, []) (by simp) (by simp) (by omega) (by simp) (by simp) (by simp) (by simp) (by simp) ?_ ?_
 ·rintro k ⟨v,m⟩ hkl' hm
  simp only at hm
  obtain⟨x,hx⟩:=da hkl'
  obtain⟨_,hgx⟩:=qtV.1 hx
  have hx1:=hk x (dM hx)
  have hml:m.length=k:=by rw[hm,quw];omega
  simp[h1,hkl',hx,hgx,hx1]
  refine⟨by omega,by omega,fun v=> .inl (.inl ?_)⟩
  rw[hm,List.map_take,qvV]
  simp[hx]
 ·rintro⟨v,m⟩ hm
  simp only at hm
  rw[quy]at hm
  subst hm
  simp
  refine cX (Y:=Cond) ⟨op,name,arg,val,lab,fold,m⟩ ?_ rfl
  simp
  refine .agg (by simp) fun i c c' h h'=>?_
  match i with
  | 0|1|2|3|4|5=>simp at h h';subst h;subst h';exact .same _
  | 6=>simp at h h';subst h;subst h';exact jj MC (by simp)
  | i+7=>simp at h
theorem qtL{H:ab}{l l':List D}(h:FzL H l l'):FrzTo H (.agg l) (.agg l'):= .agg h.get.1 h.get.2
abbrev Ez:Spc:=bj (a1 Cond) (fun x=>∃n,IX n x) (enc (X:=Cond)) fun x y=>y=x
def B1(p:Pat):Pat:=⟨p.op,p.cond,p.lab,⟨#[]⟩,0,0, []⟩
abbrev CV:Spc:=bj (a1 Pat) (fun p=>∃n,IX n p.cond) (enc (X:=Pat)) fun x y=>y=B1 x
theorem Ko(h1:S eG=Ez):ar tm sH S (a1 Pat) (fun p=>∃n,IX n p.cond) (enc (X:=Pat)) fun x y=>y=B1 x:=by
 rintro p hp
 simp[tm,sH,h1,hp]
 intro b
 refine cX (Y:=Pat) (B1 p) ?_ rfl
 unfold B1
 simp
 refine qtL ?_
 simp
def dS(p:Pat):List Pat:=(bF p).map B1
theorem wZ(p:Pat):dS p=if p.op=1 then[B1 p]else p.kids.flatMap dS:=by
 unfold dS
 rw[dw]
 split
 ·rfl
 ·rw[List.map_flatMap]
def PLc(p:Pat):Prop:=∀y∈bF p,∃n,IX n y.cond
theorem PLc.kid{p k:Pat}(h:PLc p)(hne:¬p.op=1)(hk:k∈p.kids):PLc k:=fun y hy=>h y (by rw[dw,if_neg hne];exact qu0.2 ⟨k,hk,hy⟩)
theorem ZI{ks:List Pat}{k:Nat}{x:Pat}(l:List Pat)(hx:ks[k]? =some x):(l++ (ks.take k).flatMap dS) ++dS x=l++ (ks.take (k+1)).flatMap dS:=by
 rw[bJ hx,qwv,List.flatMap_singleton,quJ]
def qhy(x:Pat)(l:List Pat):Prop:=l.length+ (bF x).length<=100000000/\PLc x
theorem qgq(ks:List Pat):(ks.flatMap dS).length=(ks.flatMap bF).length:=by
 induction ks with
 | nil=>rfl
 | cons k ks ih=>simp only[quG,quj,ih];unfold dS;simp
theorem ZH{ks:List Pat}{k:Nat}{x:Pat}{l:List Pat}(hx:ks[k]? =some x)(h:l.length+ (ks.flatMap bF).length<=100000000)(hc:PLc x):qhy x (l++ (ks.take k).flatMap dS):=by
 have:=qgp hx h
 unfold qrI at this
 refine⟨?_,hc⟩
 simp only[quj]at this ⊢
 rw[qgq]
 exact this
abbrev E1(n:Nat):Spc:=qid (X:=Pat) (Y:=Pat) (fun x l=>fk x<=n/\qhy x l) (fun x l r=>r=l++dS x) gp 13
abbrev i_leavesQA:Spc:=qid (X:=Pat) (Y:=Pat) (fun x l=>qhy x l) (fun x l r=>r=l++dS x) gp 13
theorem Hn(n:Nat)(h1:S cI=E1 n)(h2:S ir=CV):TQ (X:=Pat) (Y:=Pat) ib gZ S (fun x l=>fk x<=n+1/\qhy x l) (fun x l r=>r=l++dS x) gp 13:=by
 rintro v l p ⟨hp,hl,hc⟩
 have hk:∀k∈p.kids,fk k<=n:=fun k hk=>by have:=kZ hk;have:fk p<=n+1:=hp;omega
 have hl':=hl
 rw[dw]at hl'
 simp[ib,gZ,h2]
 refine⟨fun h1=>?_,fun hne _=>?_⟩
 ·have hcc:∃n,IX n p.cond:=hc p (by rw[dw,if_pos h1];simp)
  simp[h1]at hl'
  exact⟨hcc,by omega,by omega,fun v=>ub (l++dS p) (by simp[wZ,h1]) rfl⟩
 rw[if_neg hne]at hl'
 refine aj (X:=Value×List Pat) [16] [] p.kids.length (fun k x=>x.2=l++ (p.kids.take k).flatMap dS) (fun x=>[(1, .own 1 x.1)]) (fun x=>[(1, .row x.1 gp 13 (x.2.map enc))]) (v,l) (by simp) (by simp) (by omega) (by simp) (by simp) (by simp) (by simp) (by simp[isNilRow]) ?_ ?_
 ·rintro k ⟨v,m⟩ hkl hm
  simp only at hm
  obtain⟨x,hx⟩:=da hkl
  have hx1:=dM hx
  obtain⟨_,hgx⟩:=qtV.1 hx
  have q1:=ZH hx hl' (hc.kid hne hx1)
  rw[<-hm]at q1
  have q2:=hk x hx1
  simp[h1,hkl,hx,hgx,q1,q2]
  intro v'
  refine .inl ?_
  rw[hm,ZI _ hx]
 ·rintro⟨v,m⟩ hm
  simp only at hm
  rw[quy]at hm
  simp
  refine ub m (by simp) ?_
  rw[hm,wZ,if_neg hne]
abbrev Xu:Spc:=qkc (Y:=Pat) (aE Pat (aD a0)) (fun x=>x.2.1=Zu/\qhy x.1 []) (fun x r=>r=dS x.1) gp 13
theorem F7(h1:S cI=i_leavesQA)(h2:S ir=CV):Vm (Y:=Pat) ib gZ S (aE Pat (aD a0)) (fun x=>x.2.1=Zu/\qhy x.1 []) (fun x r=>r=dS x.1) gp 13:=by
 rintro⟨p,d,⟨⟩⟩ ⟨hd,hl,hc⟩
 have hd:d=Zu:=hd
 subst hd
 have hl':([]:List Pat).length+ (bF p).length<=100000000:=hl
 rw[dw]at hl'
 simp[ib,gZ,h2]
 refine⟨fun h1=>⟨hc p (by rw[dw,if_pos h1];simp),fun v=>ub (dS p) (by simp[wZ,h1]) rfl⟩,fun hne _=>?_⟩
 rw[if_neg hne]at hl'
 refine aj (X:=Value×List Pat) [16] [] p.kids.length (fun k x=>x.2=[] ++ (p.kids.take k).flatMap dS) (fun x=>[(1, .own 1 x.1)]) (fun x=>[(1, .row x.1 gp 13 (x.2.map enc))]) (.slice none 0 0, []) (by simp) (by simp) (by omega) (by simp) (by simp) (by simp) (by simp) (by simp[isNilRow]) ?_ ?_
 ·rintro k ⟨v,m⟩ hkl hm
  simp only at hm
  obtain⟨x,hx⟩:=da hkl
  have hx1:=dM hx
  obtain⟨_,hgx⟩:=qtV.1 hx
  have q1:=ZH hx hl' (hc.kid hne hx1)
  rw[<-hm]at q1
  simp[h1,hkl,hx,hgx,q1]
  intro v'
  refine .inl ?_
  rw[hm,ZI _ hx]
  rfl
 ·rintro⟨v,m⟩ hm
  simp only at hm
  rw[quy]at hm
  simp
  refine ub m (by simp) ?_
  rw[hm,wZ,if_neg hne]
  rfl
abbrev s_leavesQ:Spc:=qjt Xu i_leavesQA
def vv(out:List B)(x:B):List B:=if x=E0 then out else qbp out x
mutual
def bZ:Pat->List B->List B
 | .mk op c l r mn mx ks,out=>Je ks (vv out l)
def Je:List Pat->List B->List B
 | [],out=>out
 | k::ks,out=>Je ks (bZ k out)
end
theorem FU:∀ (l:List Pat) (out:List B),Je l out=l.foldl (fun o k=>bZ k o) out
 | [],out=>by rw[Je];rfl
 | k::l,out=>by rw[Je,FU l];rfl
theorem Dv(p:Pat)(out:List B):bZ p out=p.kids.foldl (fun o k=>bZ k o) (vv out p.lab):=by
 cases p;rw[bZ,FU]
theorem JZ(out:List B)(x:B):(vv out x).length<=out.length+1:=by
 unfold vv qbp
 split
 ·omega
 ·split
  ·omega
  ·simp
theorem Xb(p:Pat):∀out,(bZ p out).length<=out.length+tJ p:=by
 induction p using pH with|_ p ih=>?_
 intro out
 rw[Dv,tW]
 have:∀ (ks:List Pat) (o:List B),(∀k∈ks,k∈p.kids)->(ks.foldl (fun o k=>bZ k o) o).length<=o.length+fj ks:=by
  intro ks
  induction ks with
  | nil=>intro o _;simp[fj]
  | cons k ks ihk=>
    intro o hk
    rw[qvx,fj]
    have h1:=ihk (bZ k o) fun z hz=>hk z (by simp[hz])
    have:=ih k (hk k (by simp)) o
    omega
 have h1:=this p.kids (vv out p.lab) fun _ h=>h
 have h2:=JZ out p.lab
 omega
theorem LG(ks:List Pat)(k:Nat)(lb:List B):((ks.take k).foldl (fun o k=>bZ k o) lb).length<=lb.length+fj (ks.take k):=by
 generalize ks.take k=l
 induction l generalizing lb with
 | nil=>simp[fj]
 | cons a l ih=>
   rw[qvx,fj]
   have h1:=ih (bZ a lb)
   have h2:=Xb a lb
   omega
def Z2(l:List B)(x:B):Bool:=l.any fun z=>decide (z=x)
theorem Jk{l:List B}{x:B} :Z2 l x=true↔x∈l:=by
 unfold Z2
 rw[qva]
 exact⟨fun⟨z,h1,h2⟩=>by rw[decide_eq_true_eq]at h2;rwa [<-h2],fun h=>⟨x,h,decide_eq_true rfl⟩⟩
abbrev s_hasE:Spc:=bj (aE (List B) (a1 B)) (fun _=>True) (enc (X:=Bool)) fun x y=>y=Z2 x.1 x.2
abbrev qkV:Spc:=qn5 (Y:=B) (a1 B) (fun _=>True) (enc (X:=Bool)) (fun x y=>y=Z2 x.1 x.2) az 1
theorem A1(h1:S aM=wu):ar cx cw S (aE (List B) (a1 B)) (fun _=>True) (enc (X:=Bool)) fun x y=>y=Z2 x.1 x.2:=by
 rintro⟨l,x⟩ -
 simp[cx,cw,h1]
 exact tY _ l
abbrev s_has2:Spc:=qjt s_hasE qkV
def XX(x:Pat)(l:List B):Prop:=l.length+tJ x<=1000000
def qk5(x:Pat)(l r:List B):Prop:=r=bZ x l
abbrev Jj(n:Nat):Spc:=qid (X:=Pat) (Y:=B) (fun x l=>fk x<=n/\XX x l) qk5 az 1
abbrev i_labelsA:Spc:=qid (X:=Pat) (Y:=B) XX qk5 az 1
theorem Ho(n:Nat)(h0:S aF=s_has2)(h1:S bu=Jj n):TQ (X:=Pat) (Y:=B) ic hU S (fun x l=>fk x<=n+1/\XX x l) qk5 az 1:=by
 rintro v lb p ⟨hd,hl⟩
 have hk:∀k∈p.kids,fk k<=n:=fun k h=>by have:=kZ h;have:fk p<=n+1:=hd;omega
 have hl:lb.length+tJ p<=1000000:=hl
 have hpn:=tW p
 simp[ic,hU,h0]
 refine bD (X:=Value) [2] [] (fun _=>True) (fun v=>[(1, .own 1 v)]) (fun v=>[(1, .row v az 1 ((vv lb p.lab).map enc))]) ?_ ?_
 ·simp[h0, -Bool.forall_bool]
  refine⟨fun hn=>?_,fun he=>?_⟩
  ·have hn:¬p.lab=E0:=hn
   refine .inr ⟨fun hf=>⟨by omega,by omega,fun v=> .inl ?_⟩,fun ht=> .inl ?_⟩
   ·rw[vv,if_neg hn,qbp,if_neg (fun h=>by rw[Jk.2 h]at hf;cases hf)]
    simp
   ·rw[vv,if_neg hn,qbp,if_pos (Jk.1 ht)]
  ·have he:p.lab=E0:=he
   refine .inl ?_
   rw[vv,if_pos he]
 ·rintro v -
  have hae:=JZ lb p.lab
  simp
  intro hkl
  refine aj (X:=Value×List B) [23] [] p.kids.length (fun k x=>x.2=(p.kids.take k).foldl (fun o k=>bZ k o) (vv lb p.lab)) (fun x=>[(1, .own 1 x.1)]) (fun x=>[(1, .row x.1 az 1 (x.2.map enc))]) (v,vv lb p.lab) (by simp) (by simp) (by omega) (by simp) (by simp) (by simp) (by simp) (by simp) ?_ ?_
  ·rintro k ⟨v,ls⟩ hkk hls
   simp only at hls
   obtain⟨x,hx⟩:=da hkk
   obtain⟨_,hgx⟩:=qtV.1 hx
   have hq:XX x ls:=by
    have h2:=LG p.kids k (vv lb p.lab)
    rw[<-hls]at h2
    have h4:fj (p.kids.take k) +fj (p.kids.drop k)=fj p.kids:=by rw[<-Lv,quH]
    rw[nF hx,fj]at h4
    show ls.length+tJ x<=_
    omega
   have hq2:=hk x (dM hx)
   simp[hkk,hx,hgx,h1,hq,hq2]
   intro v' l' hy
   obtain rfl:l'=bZ x ls:=hy
   refine .inl ?_
   rw[bJ hx,qwI,<-hls]
   rfl
  ·rintro⟨v,ls⟩ hls
   simp only at hls
   rw[quy]at hls
   simp
   refine ub ls (by simp) ?_
   show ls=bZ p lb
   rw[Dv,hls]
abbrev qan:Spc:=qkc (Y:=B) (aE Pat (aD a0)) (fun x=>x.2.1= .v (.slice none 0 0)/\XX x.1 []) (fun x r=>qk5 x.1 [] r) az 1
theorem F8(h0:S aF=s_has2)(h1:S bu=i_labelsA):Vm (Y:=B) ic hU S (aE Pat (aD a0)) (fun x=>x.2.1= .v (.slice none 0 0)/\XX x.1 []) (fun x r=>qk5 x.1 [] r) az 1:=by
 rintro⟨p,d,⟨⟩⟩ ⟨hd,hl⟩
 have hd:d= .v (.slice none 0 0):=hd
 subst hd
 have hl:0+tJ p<=1000000:=hl
 have hpn:=tW p
 simp[ic,hU,h0]
 refine bD (X:=Value) [2] [] (fun _=>True) (fun v=>[(1, .own 21 v)]) (fun v=>[(21, .row v az 1 ((vv [] p.lab).map enc))]) ?_ ?_
 ·simp[h0, -Bool.forall_bool]
  refine⟨fun hn=>?_,fun he=>?_⟩
  ·have hn:¬p.lab=E0:=hn
   refine .inl ⟨fun hf v=> .inl ?_,fun ht=>absurd (Jk.1 ht) (by simp)⟩
   rw[vv,if_neg hn,qbp,if_neg (by simp)]
   simp
  ·have he:p.lab=E0:=he
   rw[vv,if_pos he]
   simp[isNilRow]
 ·rintro v -
  have hae:=JZ [] p.lab
  simp
  intro hkl
  refine aj (X:=Value×List B) [23] [] p.kids.length (fun k x=>x.2=(p.kids.take k).foldl (fun o k=>bZ k o) (vv [] p.lab)) (fun x=>[(1, .own 21 x.1)]) (fun x=>[(21, .row x.1 az 1 (x.2.map enc))]) (v,vv [] p.lab) (by simp) (by simp) (by omega) (by simp) (by simp) (by simp) (by simp) (by simp) ?_ ?_
  ·rintro k ⟨v,ls⟩ hkk hls
   simp only at hls
   obtain⟨x,hx⟩:=da hkk
   obtain⟨_,hgx⟩:=qtV.1 hx
   have hq:XX x ls:=by
    have h2:=LG p.kids k (vv [] p.lab)
    rw[<-hls]at h2
    have hae2:(vv [] p.lab).length<=0+1:=hae
    have h4:fj (p.kids.take k) +fj (p.kids.drop k)=fj p.kids:=by rw[<-Lv,quH]
    rw[nF hx,fj]at h4
    show ls.length+tJ x<=_
    omega
   simp[hkk,hx,hgx,h1,hq]
   intro v' l' hy
   obtain rfl:l'=bZ x ls:=hy
   refine .inl ?_
   rw[bJ hx,qwI,<-hls]
   rfl
  ·rintro⟨v,ls⟩ hls
   simp only at hls
   rw[quy]at hls
   simp
   refine ub ls (by simp) ?_
   show ls=bZ p []
   rw[Dv,hls]
abbrev s_qlabels:Spc:=qjt qan i_labelsA
abbrev ss:Spc:=bj (a1 Pat) (fun x=>XX x []) (enc (X:=List B)) fun x y=>y=if lO bP x then bZ x []else[]
theorem Hq(h1:S iq=gY)(h2:S bu=s_qlabels):ar qZ qK S (a1 Pat) (fun x=>XX x []) (enc (X:=List B)) fun x y=>y=if lO bP x then bZ x []else[]:=by
 rintro p hp
 simp[qZ,qK,h1,h2, -Bool.forall_bool]
 clear h1 h2
 exact⟨fun h=>cX [] (by simp) (by rw[h];rfl),fun h=> .inl ⟨hp,fun v l hl=>cX l (jj az (by simp)) (by rw[h];exact hl)⟩⟩
end Go.Gv

namespace Go.Gv
open Go.Proofs
theorem Nj{T R:St3->St3->Prop}(h0:∀s,T s s)(h1:∀s t u,T s t->T t u->T s u)(hR:∀s t,R s t->T s t):∀ {n:Nat} {s t:St3},Pow R n s t->T s t
 | 0,s,t,h=>by cases h;exact h0 s
 | n+1,s,t,⟨u,a,b⟩=>h1 _ _ _ (hR _ _ a) (Nj h0 h1 hR b)
section
variable {T:St3->St3->Prop}(h0:∀s,T s s)(h1:∀s t u,T s t->T t u->T s u)(r:Rn)
include h0 h1
mutual
theorem G9:∀p:Pat,kA (fun q=>q.op=1->∀s,T s (D0 r q s)) p->∀s t,kX r p s t->T s t
 | .mk op cond lab reg mn mx ks,h,s,t,hD=>by
   have hs:=jP h
   have hk:∀k∈ks,kA (fun q=>q.op=1->∀s,T s (D0 r q s)) k:=fun k hk=>ql h hk
   rw[kX]at hD
   split at hD
   ·rename_i e
    rw[hD.2.2]
    exact hs e s
   ·split at hD
    ·rw[hD.2];exact h0 s
    ·split at hD
     ·exact Qz ks hk s t hD
     ·split at hD
      ·exact QA ks hk s t hD
      ·exact qaE ks mn mx hk s t hD
theorem Qz:∀ks:List Pat,(∀k∈ks,kA (fun q=>q.op=1->∀s,T s (D0 r q s)) k)->∀s t,tO r ks s t->T s t
 | [],_,s,t,h=>by rw[nG]at h;rw[<-h];exact h0 s
 | k::ks,hk,s,t,h=>by
   rw[iv]at h
   obtain⟨u,a,b⟩:=h
   exact h1 _ _ _ (G9 k (hk k (by simp)) s u a) (Qz ks (fun q hq=>hk q (by simp[hq])) u t b)
theorem QA:∀ks:List Pat,(∀k∈ks,kA (fun q=>q.op=1->∀s,T s (D0 r q s)) k)->∀s t,tP r ks s t->T s t
 | [],_,s,t,h=>by rw[DL]at h;exact h.elim
 | k::ks,hk,s,t,h=>by
   rw[sa]at h
   rcases h with h|h
   ·exact G9 k (hk k (by simp)) s t h
   ·exact QA ks (fun q hq=>hk q (by simp[hq])) s t h
theorem qaE:∀ (ks:List Pat) (mn mx:Int),(∀k∈ks,kA (fun q=>q.op=1->∀s,T s (D0 r q s)) k)->∀s t,DZ r ks mn mx s t->T s t
 | [],_,_,_,s,t,h=>by rw[DZ]at h;exact h.elim
 | k::ks,mn,mx,hk,s,t,h=>by
   rw[DZ]at h
   obtain⟨u,a,n,_,b⟩:=h
   have hT:=G9 k (hk k (by simp))
   exact h1 _ _ _ (Nj h0 h1 hT a) (Nj h0 h1 (fun s t q=>hT s t q.1) b)
end
end
def Fx(n:Nat)(s t:St3):Prop:=∀i,n<=i->i < 3->t.get i=s.get i
theorem Tl(s:St3)(i j:Nat)(x:Int)(hi:i < 3)(hj:j < 3)(h:i≠j):(s.set i x).get j=s.get j:=by
 rcases i with _|_|_|i <;> rcases j with _|_|_|j <;> first|rfl|omega
theorem Tm{r:Rn}{p:Pat}(hl:r.lb.length<=3)(h:kA (fun q=>q.lab≠ri->sU r.lb q.lab=true) p){s t:St3}(hD:kX r p s t):Fx r.lb.length s t:=by
 refine G9 (T:=Fx r.lb.length) (fun s i _ _=>rfl) (fun s t u a b i hi h3=>(b i hi h3).trans (a i hi h3)) r p (oY h fun q hq _ s i hi h3=>?_) s t hD
 unfold D0
 dsimp only
 split
 ·rcases i with _|_|i <;> rfl
 ·rename_i hne
  have hin:=hq hne
  have h4:=zJ (fun z=>decide (z=q.lab)) r.lb
  have h5:decide (0<=gi r.lb fun z=>decide (z=q.lab))=true:=(tY _ _).trans hin
  have h6:=of_decide_eq_true h5
  have:((s.set (gi r.lb fun z=>decide (z=q.lab)).toNat (s.p+1)).get i)=s.get i:=Tl _ _ _ _ (by omega) h3 (by omega)
  rcases i with _|_|i <;> exact this
theorem Vj(r:Rn)(s:St3){i:Nat}(hi:i < r.lb.length):(Oh r s)[i]? =some (s.get i -1):=by
 unfold Oh
 rw[quc,qu2 hi];rfl
theorem R1{s t:St3}(h:s.p=t.p)(hg:∀i,i < 3->s.get i=t.get i):s=t:=by
 obtain⟨a,b,c,d⟩:=s
 obtain⟨a',b',c',d'⟩:=t
 have e0:=hg 0 (by decide)
 have e1:=hg 1 (by decide)
 have e2:=hg 2 (by decide)
 simp only[St3.get]at e0 e1 e2 h
 rw[h,e0,e1,e2]
theorem qed{r:Rn}{p:Pat}(hl:r.lb.length<=3)(h:kA (fun q=>q.lab≠ri->sU r.lb q.lab=true) p){s t u:St3}(h1:kX r p s t)(h2:kX r p s u)(e1:t.p=u.p)(e2:Oh r t=Oh r u):t=u:=by
 refine R1 e1 fun i hi=>?_
 by_cases hn:i < r.lb.length
 ·have a:=Vj r t hn
  have b:=Vj r u hn
  rw[e2,b]at a
  have:=qua a
  omega
 ·rw[Tm hl h h1 i (by omega) hi,Tm hl h h2 i (by omega) hi]
theorem qcY{m:Nat}{s:St3}(h:OC m s):WG (m+1) s < (m+1) * (m+1) * (m+1) * (m+1):=by
 obtain⟨h1,h2,h3⟩:=h
 have a:=h3 0
 have b:=h3 1
 have c:=h3 2
 simp only[St3.get]at a b c
 unfold WG
 have p1:s.p.toNat<=m:=by omega
 have p2:s.b0.toNat<=m:=by omega
 have p3:s.b1.toNat<=m:=by omega
 have p4:s.b2.toNat<=m:=by omega
 generalize s.p.toNat=x at*
 generalize s.b0.toNat=y at*
 generalize s.b1.toNat=z at*
 generalize s.b2.toNat=w at*
 have q1:x* (m+1) +y < (m+1) * (m+1):=by
  have:=quv (m+1) p1
  rw[quE m (m+1)];omega
 have q2:(x* (m+1) +y) * (m+1) +z < (m+1) * (m+1) * (m+1):=by
  have:=quv (m+1) (qwJ q1)
  rw[quE]at this;omega
 have:=quv (m+1) (qwJ q2)
 rw[quE]at this
 omega
theorem TA{m a b c d:Nat}(hb:b < m)(hd:d < m)(h:a*m+b=c*m+d):a=c/\b=d:=by
 have h1:(a*m+b) /m=a:=by rw[qu7,Nat.mul_add_div (by omega),Nat.div_eq_of_lt hb];omega
 have h2:(c*m+d) /m=c:=by rw[qu7,Nat.mul_add_div (by omega),Nat.div_eq_of_lt hd];omega
 rw[h]at h1
 have e:a=c:=h1.symm.trans h2
 subst e
 exact⟨rfl,by omega⟩
theorem Zs{m:Nat}{s t:St3}(hs:OC m s)(ht:OC m t)(h:WG (m+1) s=WG (m+1) t):s=t:=by
 obtain⟨h1,h2,h3⟩:=hs
 obtain⟨k1,k2,k3⟩:=ht
 have a0:=h3 0;have a1:=h3 1;have a2:=h3 2
 have b0:=k3 0;have b1:=k3 1;have b2:=k3 2
 simp only[St3.get]at a0 a1 a2 b0 b1 b2
 unfold WG at h
 obtain⟨h,e1⟩:=TA (by omega) (by omega) h
 obtain⟨h,e2⟩:=TA (by omega) (by omega) h
 obtain⟨e4,e3⟩:=TA (by omega) (by omega) h
 refine R1 (by omega) fun i hi=>?_
 rcases i with _|_|_|i
 ·show s.b0=t.b0;omega
 ·show s.b1=t.b1;omega
 ·show s.b2=t.b2;omega
 ·omega
theorem RZ{m:Int}(hm:m<=170){l:List St3}(hn:l.Nodup)(h:∀s∈l,OC m s):l.length<=1000000000:=by
 by_cases h0:0<=m
 ·obtain⟨k,rfl⟩:∃k:Nat,m=(k:Int):=⟨m.toNat,by omega⟩
  have h1:=LA (f:=WG (k+1)) hn (fun x hx=>qcY (h x hx)) fun x hx y hy e=>Zs (h x hx) (h y hy) e
  have h2:(k+1) * (k+1)<=171*171:=qwk (by omega) (by omega)
  have h3:=qwk h2 (show k+1<=171 by omega)
  have h4:=qwk h3 (show k+1<=171 by omega)
  omega
 ·cases l with
  | nil=>exact qul _
  | cons s l=>have:=(h s (by simp));have a:=this.1;have b:=this.2.1;omega
end Go.Gv
