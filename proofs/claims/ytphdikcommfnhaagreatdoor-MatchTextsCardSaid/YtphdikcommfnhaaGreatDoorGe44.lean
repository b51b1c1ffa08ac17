/- A part of the framework and of the walks: W37 V5 W190 V65. -/
import Derived.Test.YtphdikcommfnhaaGreatDoorGe43
import Derived.Test.YtphdikcommfnhaaGreatDoorGe36
import Derived.Test.YtphdikcommfnhaaGreatDoorGe25
import Derived.Test.YtphdikcommfnhaaGreatDoorGe29
import Derived.Test.YtphdikcommfnhaaGreatDoorGe37
import Derived.Test.YtphdikcommfnhaaGreatDoorGe38
import Derived.Test.YtphdikcommfnhaaGreatDoorGe41
set_option linter.unusedSimpArgs false
set_option linter.unusedVariables false
set_option linter.unusedSectionVars false
set_option maxRecDepth 100000

namespace Go.Gv
open Cod (enc dec)
variable {S S0:Nat->Spc}
def FunOnP{X Y:Type}[Cod X][Cod Y](S:Nat->Spc)(d:D)(l:List X)(p:X->Y):Prop:=
 ∃g caps pc,d= .clo g caps/\S g= .pure pc/\∀x∈l,pc.pre (enc x::caps)/\∀r,pc.post (enc x::caps) r->r=enc (p x)
theorem FunOnP.useB{X:Type}[Cod X]{S:Nat->Spc}{d:D}{l:List X}{p:X->Bool}(h:FunOnP S d l p)(x:X)(hx:x∈l){d':Nat}{H:ab}{K:D->ab->Prop}(hk:∀y:Bool,(∀q,FunOnP S d l q->y=q x)->K (.v (.bool y)) H):AY S d d' [enc x] H K:=by
 obtain⟨g,caps,pc,rfl,h1,h2⟩:=h
 simp only[AY,h1,Spc.pt]
 refine⟨(h2 x hx).1,fun r hr=>?_⟩
 have e:=(h2 x hx).2 r hr
 rw[e]
 refine hk (p x) fun q hq=>?_
 obtain⟨g',caps',pc',e',k1,k2⟩:=hq
 cases e'
 rw[h1]at k1
 cases k1
 exact aK (e.symm.trans ((k2 x hx).2 r hr))
theorem FunIs.on{X Y:Type}[Cod X][Cod Y]{S:Nat->Spc}{d:D}{p:X->Y}(h:FunIs S d p)(l:List X):FunOnP S d l p:=by
 obtain⟨g,caps,pc,h1,h2,h3⟩:=h
 exact⟨g,caps,pc,h1,h2,fun x _=>h3 x⟩
theorem Gd{X Y:Type}[Cod X][Cod Y]{S:Nat->Spc}{g:Nat}{c:D}{l:List X}{pre:X×D×Unit->Prop}{post:X×D×Unit->Y->Prop}{p:X->Y}(h:S g=aI (aE X (aD a0)) pre enc post)(hp:∀x∈l,pre (x,c,()))(hq:∀x∈l,∀y,post (x,c,()) y->y=p x):FunOnP S (.clo g [c]) l p:=by
 refine⟨g, [c],_,rfl,h,fun x hx=>⟨⟨(x,c,()),by simp,hp x hx⟩,fun r hr=>?_⟩⟩
 obtain⟨y,rfl,hy⟩:=hr (x,c,()) (by simp) (hp x hx)
 rw[hq x hx y hy]
theorem Wt(x:Pat):D.agg [D.v (Value.int IntKind.i64 x.op),D.v (Value.int IntKind.i64 x.cond.op),D.v (Value.string x.cond.name),D.v (Value.string x.cond.arg),D.v (Value.string x.cond.val),D.v (Value.string x.cond.lab),D.v (Value.bool x.cond.fold),D.list 7 (List.map enc x.cond.kids),D.v (Value.string x.lab),D.v (Value.string x.reg),D.v (Value.int IntKind.i64 x.mn),D.v (Value.int IntKind.i64 x.mx),D.list 13 (List.map enc x.kids)]=enc x:=by simp
def PQ(S0:Nat->Spc)(x:List Pat×D×Unit):Prop:=∃p:Pat->Bool,FunOnP S0 x.2.1 x.1 p
def qef(S0:Nat->Spc)(x:List Pat×D×Unit)(y:Int):Prop:=∀p:Pat->Bool,FunOnP S0 x.2.1 x.1 p->y=fW x.1 p
abbrev qi9(S0:Nat->Spc):Spc:=aI (aE (List Pat) (aD a0)) (PQ S0) enc (qef S0)
theorem sQ:aq eE eB S (aE (List Pat) (aD a0)) (PQ S) enc (qef S):=by
 rintro⟨l,d,⟨⟩⟩ ⟨p,hp⟩
 simp at hp
 simp[eE,eB]
 intro _
 refine ai (X:=Unit) [0,1] [] l.length (fun k _=>∀p:Pat->Bool,FunOnP S d l p->∀x∈l.take k,p x=false) (fun _=>[]) (fun _=>[]) () (by simp) (by simp) (by omega) (by simp) (by simp) (by simp) (by simp) (by simp) ?_ ?_
 ·intro k _ hk hP
  simp
  refine⟨hk,fun x hx=>?_⟩
  rw[Wt x]
  refine hp.useB x (bj hx) fun y hy=>?_
  simp
  refine⟨fun h=>?_,fun h p' hp'=>?_⟩
  ·intro p' hp'
   exact(uR hx (by rw[<-hy p' hp',h]) (hP p' hp')).symm
  ·rw[bc hx]
   intro z hz
   rcases qxE.1 hz with hz|hz
   ·exact hP p' hp' z hz
   ·simp at hz;subst hz;rw[<-hy p' hp',h]
 ·intro _ hP
  simp
  intro p' hp'
  exact(mM (by simpa using hP p' hp')).symm
def qeg(S0:Nat->Spc)(x:List Pat×D×Unit)(y:Bool):Prop:=∀p:Pat->Bool,FunOnP S0 x.2.1 x.1 p->y=x.1.any p
abbrev Ov(S0:Nat->Spc):Spc:=aI (aE (List Pat) (aD a0)) (PQ S0) enc (qeg S0)
theorem qH(h1:S jB=qi9 S0):aq dH dz S (aE (List Pat) (aD a0)) (PQ S0) enc (qeg S0):=by
 rintro⟨l,d,⟨⟩⟩ hp
 simp[dH,dz,h1, -Bool.forall_bool]
 refine⟨hp,fun y hy p' hp'=>?_⟩
 rw[hy p' hp']
 exact uQ p' l
abbrev MI(n:Nat):Spc:=aI (a2 Pat Int) (fun x=>eD x.1<=n/\0<=x.2/\x.2<=101) (enc (X:=Bool)) fun x y=>y=dm x.1 x.2
def qie(n:Nat)(x:Pat×D×Unit):Prop:=∃d:Int,x.2.1= .cptr [enc d] 0/\eD x.1<=n/\0<=d/\d<=100
def qd8(x:Pat×D×Unit)(y:Bool):Prop:=∀d:Int,x.2.1= .cptr [enc d] 0->y=!dm x.1 (d+1)
abbrev qaV(n:Nat):Spc:=aI (aE Pat (aD a0)) (qie n) enc qd8
theorem Du(n:Nat)(h1:S ij=MI n):aq mu lR S (aE Pat (aD a0)) (qie n) enc qd8:=by
 rintro⟨p,d,⟨⟩⟩ ⟨e,hd,h2,h3,h4⟩
 simp at hd h2
 subst hd
 simp[mu,lR,h1,qd8,h2, -Bool.forall_bool]
 exact⟨by simp only[InR];omega,by omega⟩
theorem Hq(n:Nat)(h0:S0 ft=qaV n)(h1:S aJ=Ov S0):aq pX pi S (a2 Pat Int) (fun x=>eD x.1<=n+1/\0<=x.2/\x.2<=101) (enc (X:=Bool)) fun x y=>y=dm x.1 x.2:=by
 rintro⟨p,d⟩ ⟨hn,hd0,hd1⟩
 have hk:∀k∈p.kids,eD k<=n:=fun k hk=>by have:=jv hk;have:eD p<=n+1:=hn;omega
 simp only at hd0 hd1
 simp[pX,pi,h1, -Bool.forall_bool]
 rw[mI]
 refine⟨fun h=>?_,fun h=>by rw[decide_eq_false (by omega)];rfl⟩
 have hf:FunOnP S0 (.clo ft [.cptr [.v (.int .i64 d)] 0]) p.kids fun x=>!dm x (d+1):=
  Gd h0 (fun x hx=>⟨d,rfl,hk x hx,hd0,h⟩) (fun x _ y hy=>hy d rfl)
 refine⟨⟨_,hf⟩,fun y hy=>?_⟩
 rw[hy _ hf,decide_eq_true h,qzp]
 simp[qzS]
def qif(S0:Nat->Spc)(n:Nat)(x:Pat×D×Unit):Prop:=∃ (d:D) (f:Pat->Bool),x.2.1= .cptr [d] 0/\FunIs S0 d f/\eD x.1<=n
def qea(S0:Nat->Spc)(x:Pat×D×Unit)(y:Bool):Prop:=∀ (d:D) (f:Pat->Bool),x.2.1= .cptr [d] 0->FunIs S0 d f->y=!eW f x.1
abbrev V9(S0:Nat->Spc)(n:Nat):Spc:=aI (aE Pat (aD a0)) (fun x=>∃f:Pat->Bool,FunIs S0 x.2.1 f/\eD x.1<=n) enc fun x y=>∀f:Pat->Bool,FunIs S0 x.2.1 f->y=eW f x.1
abbrev qbe(S0:Nat->Spc)(n:Nat):Spc:=aI (aE Pat (aD a0)) (qif S0 n) enc (qea S0)
theorem Hu(n:Nat)(h1:S eG=V9 S0 n):aq qa pk S (aE Pat (aD a0)) (qif S0 n) enc (qea S0):=by
 rintro⟨p,d,⟨⟩⟩ ⟨e,f,hd,h2,h3⟩
 simp at hd h3
 subst hd
 simp[qa,pk,h1,qea,h3, -Bool.forall_bool]
 exact⟨⟨f,h2⟩,fun y hy d g e hg=>by subst e;exact hy g hg⟩
theorem LE{N:Nat->Spc}(n:Nat)(hN:∀ (d:D) (f:Pat->Bool),FunIs N d f->FunIs S d f)(h0:S0 io=qbe N n)(h1:S aJ=Ov S0):aq ub tg S (aE Pat (aD a0)) (fun x=>∃f:Pat->Bool,FunIs N x.2.1 f/\eD x.1<=n+1) enc fun x y=>∀f:Pat->Bool,FunIs N x.2.1 f->y=eW f x.1:=by
 rintro⟨p,d,⟨⟩⟩ ⟨f,hf,hn⟩
 have hk:∀k∈p.kids,eD k<=n:=fun k hk=>by have:=jv hk;have:eD p<=n+1:=hn;omega
 simp at hf
 have hd1:d.kn=true/\d.cells=[d]:=by obtain⟨g,caps,pc,rfl,_⟩:=hf;exact⟨rfl,rfl⟩
 simp[ub,tg,h1,hd1, -Bool.forall_bool]
 rw[Wt p]
 refine((hN d f hf).on [p]).useB p (by simp) fun y hy=>?_
 have hy:∀f,FunIs N d f->y=f p:=fun f hf=>hy f ((hN d f hf).on [p])
 simp[h1, -Bool.forall_bool]
 refine⟨fun ht=>?_,fun hff g hg=>by rw[eI,<-hy g hg,hff];rfl⟩
 have hO:∀g,FunIs N d g->FunOnP S0 (.clo io [.cptr [d] 0]) p.kids fun x=>!eW g x:=fun g hg=>
  Gd h0 (fun x hx=>⟨d,g,rfl,hg,hk x hx⟩) (fun x _ y hy=>hy d g rfl hg)
 refine⟨⟨_,hO f hf⟩,fun z hz g hg=>?_⟩
 rw[hz _ (hO g hg),eI,<-hy g hg,ht,qzp]
 simp[qzS]
abbrev Jl:Spc:=aI (a2 Pat Int) (fun x=>0<=x.2/\x.2<=101) (enc (X:=Bool)) fun x y=>y=dm x.1 x.2
abbrev zR(N:Nat->Spc):Spc:=aI (aE Pat (aD a0)) (fun x=>∃f:Pat->Bool,FunIs N x.2.1 f) enc fun x y=>∀f:Pat->Bool,FunIs N x.2.1 f->y=eW f x.1
abbrev Il:Spc:=aI (a1 Pat) (fun _=>True) (enc (X:=Bool)) fun x y=>y=(dm x 1 && eW yQ x)
theorem tA{X:Type}[Cod X]{S:Nat->Spc}{g:Nat}{pre:X->Prop}{p:X->Bool}(h:S g=aI (a1 X) pre enc fun x y=>y=p x)(hp:∀x,pre x):FunIs S (.clo g []) p:=by
 refine⟨g, [],_,rfl,h,fun x=>⟨⟨x,by simp,hp x⟩,fun r hr=>?_⟩⟩
 obtain⟨y,rfl,hy⟩:=hr x (by simp) (hp x)
 rw[hy]
theorem LK{N:Nat->Spc}(h0:N ko=On)(h1:S ij=Jl)(h2:S eG=zR N):aq uf tk S (a1 Pat) (fun _=>True) (enc (X:=Bool)) fun x y=>y=(dm x 1 && eW yQ x):=by
 rintro p -
 have f1:FunIs N (.clo ko []) yQ:=tA h0 fun _=>trivial
 simp[uf,tk,h1,h2, -Bool.forall_bool]
 refine⟨fun h=>⟨⟨_,f1⟩,fun y hy=>by rw[hy _ f1,h];rfl⟩,fun h h'=>absurd (h.symm.trans h') (by simp)⟩
theorem LB{N:Nat->Spc}(h0:N cV=Bf)(h0':N cF=wB)(h1:S lz=Il)(h2:S eG=zR N):aq tZ te S (a1 Pat) (fun _=>True) (enc (X:=Bool)) fun x y=>y=kP aZ x:=by
 rintro p -
 have f1:FunIs N (.clo cV []) (uO aZ):=tA h0 fun _=>trivial
 have f2:FunIs N (.clo cF []) uB:=tA h0' fun _=>trivial
 simp[tZ,te,h1,h2, -Bool.forall_bool]
 unfold kP
 refine⟨fun h1 h2=>⟨⟨_,f1⟩,fun y hy=>?_⟩,fun h=>?_⟩
 ·have hy:=hy _ f1
  refine⟨fun ht=>⟨⟨_,f2⟩,fun z hz=>?_⟩,fun hf=>?_⟩
  ·rw[hz _ f2,h1,h2,<-hy,ht];rfl
  ·rw[<-hy,hf];simp
 ·rcases hs:dm p 1
  ·rfl
  ·rw[h hs];rfl
end Go.Gv

namespace Go.Gv
theorem Bh(a b:List Pat):cD (a++b)=cD a+cD b:=by
 induction a with
 | nil=>simp[cD]
 | cons k a ih=>simp only[qyf,cD];omega
end Go.Gv

namespace Go.Gv
open Cod (enc dec)
variable {S S0:Nat->Spc}
theorem XT{σ:Sg}{H:ab}{k j b el n:Nat}{cs cs':List D}(hkj:j≠k)(hk:H k=some (.box b cs))(hl:cs.length=cs'.length)(hc:∀ (m:Nat) (c c':D),cs[m]? =some c->cs'[m]? =some c'->FrzTo bM c c'):
 Wk σ H σ (ah (ah H k (some (.box b cs'))) j (some (.row (.slice none 0 0) el n []))):=by
 refine Z3 (Hf:=bM) id (fun t=> .same _) (fun i r h=>?_) (fun i j r s _ _ e=> .inl e) (fun i r h=>by simp[bM]at h)
 by_cases e:i=j
 ·subst e
  simp[ah]at h
  subst h
  exact .inr ⟨rfl,rfl⟩
 ·by_cases e2:i=k
  ·subst e2
   simp[ah,e]at h
   subst h
   exact .inl ⟨_,hk, .inr ⟨rfl,hl,hc⟩⟩
  ·simp only[ah,e,e2,if_false]at h
   exact .inl ⟨r,h, .inl rfl⟩
def HW:Nat->Cond->Prop
 | 0,_=>False
 | n+1,x=>x.kids.length<=1000000/\∀k∈x.kids,HW n k
abbrev Q0(n:Nat):Spc:=aI (a1 Cond) (HW n) (enc (X:=Cond)) fun x y=>y=x
theorem IJ(n:Nat)(h1:S jG=Q0 n):aq rT rr S (a1 Cond) (HW (n+1)) (enc (X:=Cond)) fun x y=>y=x:=by
 rintro⟨op,name,arg,val,lab,fold,kids⟩ ⟨hlen,hk⟩
 simp only at hlen hk
 simp[rT,rr]
 intro b2 b3 hkl
 refine Ft (XT (k:=3) (j:=20) (b:=b3) (el:=DS) (n:=7) (cs':=[.v (.int .i64 op), .v (.string name), .v (.string arg), .v (.string val), .v (.string lab), .v (.bool fold), .own 20 (.slice none 0 0)]) (by decide) (by simp;rfl) (by simp) ?_) ?_
 ·intro m c c' hc hc'
  match m with
  | 0|1|2|3|4|5=>simp at hc hc';subst hc;subst hc';exact .same _
  | 6=>simp at hc hc';subst hc;subst hc';exact .nilown _
  | m+7=>simp at hc
 refine ai (X:=Value×List Cond) [2,9] [2] kids.length (fun k x=>x.2=kids.take k) (fun x=>[(3, .bptr 3 b3 0)]) (fun x=>[(3, .box b3 [.v (.int .i64 op), .v (.string name), .v (.string arg), .v (.string val), .v (.string lab), .v (.bool fold), .own 20 x.1]),(20, .row x.1 DS 7 (x.2.map enc))]) (.slice none 0 0, []) (by simp) (by simp) (by omega) (by simp) (by simp) (by simp) (by simp) (by simp) ?_ ?_
 ·rintro k ⟨v,m⟩ hkl' hm
  simp only at hm
  obtain⟨x,hx⟩:=bJ hkl'
  obtain⟨_,hgx⟩:=qxz.1 hx
  have hx1:=hk x (bj hx)
  have hml:m.length=k:=by rw[hm,qx4];omega
  simp[h1,hkl',hx,hgx,hx1]
  refine⟨by omega,by omega,fun v=> .inl (.inl ?_)⟩
  rw[hm,List.map_take,qy5]
  simp[hx]
 ·rintro⟨v,m⟩ hm
  simp only at hm
  rw[qx1]at hm
  subst hm
  simp
  refine cp (Y:=Cond) ⟨op,name,arg,val,lab,fold,m⟩ ?_ rfl
  simp
  refine .agg (by simp) fun i c c' h h'=>?_
  match i with
  | 0|1|2|3|4|5=>simp at h h';subst h;subst h';exact .same _
  | 6=>simp at h h';subst h;subst h';exact gl DS (by simp)
  | i+7=>simp at h
theorem qxo{H:ab}{l l':List D}(h:FzL H l l'):FrzTo H (.agg l) (.agg l'):= .agg h.get.1 h.get.2
abbrev MR:Spc:=aI (a1 Cond) (fun x=>∃n,HW n x) (enc (X:=Cond)) fun x y=>y=x
def AS(p:Pat):Pat:=⟨p.op,p.cond,p.lab,⟨#[]⟩,0,0, []⟩
abbrev Oq:Spc:=aI (a1 Pat) (fun p=>∃n,HW n p.cond) (enc (X:=Pat)) fun x y=>y=AS x
theorem LF(h1:S jG=MR):aq uc th S (a1 Pat) (fun p=>∃n,HW n p.cond) (enc (X:=Pat)) fun x y=>y=AS x:=by
 rintro p hp
 simp[uc,th,h1,hp]
 intro b
 refine cp (Y:=Pat) (AS p) ?_ rfl
 unfold AS
 simp
 refine qxo ?_
 simp
def dg(p:Pat):List Pat:=(aM p).map AS
theorem xT(p:Pat):dg p=if p.op=1 then[AS p]else p.kids.flatMap dg:=by
 unfold dg
 rw[cW]
 split
 ·rfl
 ·rw[List.map_flatMap]
def PLc(p:Pat):Prop:=∀y∈aM p,∃n,HW n y.cond
theorem PLc.kid{p k:Pat}(h:PLc p)(hne:¬p.op=1)(hk:k∈p.kids):PLc k:=fun y hy=>h y (by rw[cW,if_neg hne];exact qyE.2 ⟨k,hk,hy⟩)
theorem qch{ks:List Pat}{k:Nat}{x:Pat}(l:List Pat)(hx:ks[k]? =some x):(l++ (ks.take k).flatMap dg) ++dg x=l++ (ks.take (k+1)).flatMap dg:=by
 rw[bc hx,qz8,List.flatMap_singleton,qyn]
def qih(x:Pat)(l:List Pat):Prop:=l.length+ (aM x).length<=100000000/\PLc x
theorem qjO(ks:List Pat):(ks.flatMap dg).length=(ks.flatMap aM).length:=by
 induction ks with
 | nil=>rfl
 | cons k ks ih=>simp only[qyd,qxX,ih];unfold dg;simp
theorem qcg{ks:List Pat}{k:Nat}{x:Pat}{l:List Pat}(hx:ks[k]? =some x)(h:l.length+ (ks.flatMap aM).length<=100000000)(hc:PLc x):qih x (l++ (ks.take k).flatMap dg):=by
 have:=qjN hx h
 unfold qvk at this
 refine⟨?_,hc⟩
 simp only[qxX]at this ⊢
 rw[qjO]
 exact this
abbrev Ne(n:Nat):Spc:=qhY (X:=Pat) (Y:=Pat) (fun x l=>eD x<=n/\qih x l) (fun x l r=>r=l++dg x) eL 13
abbrev i_leavesQA:Spc:=qhY (X:=Pat) (Y:=Pat) (fun x l=>qih x l) (fun x l r=>r=l++dg x) eL 13
theorem IH(n:Nat)(h1:S dW=Ne n)(h2:S qD=Oq):PL (X:=Pat) (Y:=Pat) ir ia S (fun x l=>eD x<=n+1/\qih x l) (fun x l r=>r=l++dg x) eL 13:=by
 rintro v l p ⟨hp,hl,hc⟩
 have hk:∀k∈p.kids,eD k<=n:=fun k hk=>by have:=jv hk;have:eD p<=n+1:=hp;omega
 have hl':=hl
 rw[cW]at hl'
 simp[ir,ia,h2]
 refine⟨fun h1=>?_,fun hne _=>?_⟩
 ·have hcc:∃n,HW n p.cond:=hc p (by rw[cW,if_pos h1];simp)
  simp[h1]at hl'
  exact⟨hcc,by omega,by omega,fun v=>kg (l++dg p) (by simp[xT,h1]) rfl⟩
 rw[if_neg hne]at hl'
 refine ai (X:=Value×List Pat) [16] [] p.kids.length (fun k x=>x.2=l++ (p.kids.take k).flatMap dg) (fun x=>[(1, .own 1 x.1)]) (fun x=>[(1, .row x.1 eL 13 (x.2.map enc))]) (v,l) (by simp) (by simp) (by omega) (by simp) (by simp) (by simp) (by simp) (by simp[isNilRow]) ?_ ?_
 ·rintro k ⟨v,m⟩ hkl hm
  simp only at hm
  obtain⟨x,hx⟩:=bJ hkl
  have hx1:=bj hx
  obtain⟨_,hgx⟩:=qxz.1 hx
  have q1:=qcg hx hl' (hc.kid hne hx1)
  rw[<-hm]at q1
  have q2:=hk x hx1
  simp[h1,hkl,hx,hgx,q1,q2]
  intro v'
  refine .inl ?_
  rw[hm,qch _ hx]
 ·rintro⟨v,m⟩ hm
  simp only at hm
  rw[qx1]at hm
  simp
  refine kg m (by simp) ?_
  rw[hm,xT,if_neg hne]
abbrev Zu:Spc:=qlJ (Y:=Pat) (aE Pat (aD a0)) (fun x=>x.2.1=qb2/\qih x.1 []) (fun x r=>r=dg x.1) eL 13
theorem Hs(h1:S dW=i_leavesQA)(h2:S qD=Oq):Tg (Y:=Pat) ir ia S (aE Pat (aD a0)) (fun x=>x.2.1=qb2/\qih x.1 []) (fun x r=>r=dg x.1) eL 13:=by
 rintro⟨p,d,⟨⟩⟩ ⟨hd,hl,hc⟩
 have hd:d=qb2:=hd
 subst hd
 have hl':([]:List Pat).length+ (aM p).length<=100000000:=hl
 rw[cW]at hl'
 simp[ir,ia,h2]
 refine⟨fun h1=>⟨hc p (by rw[cW,if_pos h1];simp),fun v=>kg (dg p) (by simp[xT,h1]) rfl⟩,fun hne _=>?_⟩
 rw[if_neg hne]at hl'
 refine ai (X:=Value×List Pat) [16] [] p.kids.length (fun k x=>x.2=[] ++ (p.kids.take k).flatMap dg) (fun x=>[(1, .own 1 x.1)]) (fun x=>[(1, .row x.1 eL 13 (x.2.map enc))]) (.slice none 0 0, []) (by simp) (by simp) (by omega) (by simp) (by simp) (by simp) (by simp) (by simp[isNilRow]) ?_ ?_
 ·rintro k ⟨v,m⟩ hkl hm
  simp only at hm
  obtain⟨x,hx⟩:=bJ hkl
  have hx1:=bj hx
  obtain⟨_,hgx⟩:=qxz.1 hx
  have q1:=qcg hx hl' (hc.kid hne hx1)
  rw[<-hm]at q1
  simp[h1,hkl,hx,hgx,q1]
  intro v'
  refine .inl ?_
  rw[hm,qch _ hx]
  rfl
 ·rintro⟨v,m⟩ hm
  simp only at hm
  rw[qx1]at hm
  simp
  refine kg m (by simp) ?_
  rw[hm,xT,if_neg hne]
  rfl
abbrev s_leavesQ:Spc:=qlt Zu i_leavesQA
def qn(out:List B)(x:B):List B:=if x=E0 then out else BP out x
mutual
def aS:Pat->List B->List B
 | .mk op c l r mn mx ks,out=>Kl ks (qn out l)
def Kl:List Pat->List B->List B
 | [],out=>out
 | k::ks,out=>Kl ks (aS k out)
end
theorem Hd:∀ (l:List Pat) (out:List B),Kl l out=l.foldl (fun o k=>aS k o) out
 | [],out=>by rw[Kl];rfl
 | k::l,out=>by rw[Kl,Hd l];rfl
theorem qQ(p:Pat)(out:List B):aS p out=p.kids.foldl (fun o k=>aS k o) (qn out p.lab):=by
 cases p;rw[aS,Hd]
theorem Lc(out:List B)(x:B):(qn out x).length<=out.length+1:=by
 unfold qn BP
 split
 ·omega
 ·split
  ·omega
  ·simp
theorem Zb(p:Pat):∀out,(aS p out).length<=out.length+jg p:=by
 induction p using fL with|_ p ih=>?_
 intro out
 rw[qQ,nA]
 have:∀ (ks:List Pat) (o:List B),(∀k∈ks,k∈p.kids)->(ks.foldl (fun o k=>aS k o) o).length<=o.length+cD ks:=by
  intro ks
  induction ks with
  | nil=>intro o _;simp[cD]
  | cons k ks ihk=>
    intro o hk
    rw[qyu,cD]
    have h1:=ihk (aS k o) fun z hz=>hk z (by simp[hz])
    have:=ih k (hk k (by simp)) o
    omega
 have h1:=this p.kids (qn out p.lab) fun _ h=>h
 have h2:=Lc out p.lab
 omega
theorem Na(ks:List Pat)(k:Nat)(lb:List B):((ks.take k).foldl (fun o k=>aS k o) lb).length<=lb.length+cD (ks.take k):=by
 generalize ks.take k=l
 induction l generalizing lb with
 | nil=>simp[cD]
 | cons a l ih=>
   rw[qyu,cD]
   have h1:=ih (aS a lb)
   have h2:=Zb a lb
   omega
def qcB(l:List B)(x:B):Bool:=l.any fun z=>decide (z=x)
theorem Kq{l:List B}{x:B} :qcB l x=true↔x∈l:=by
 unfold qcB
 rw[qyN]
 exact⟨fun⟨z,h1,h2⟩=>by rw[decide_eq_true_eq]at h2;rwa [<-h2],fun h=>⟨x,h,decide_eq_true rfl⟩⟩
abbrev s_hasE:Spc:=aI (aE (List B) (a1 B)) (fun _=>True) (enc (X:=Bool)) fun x y=>y=qcB x.1 x.2
abbrev qop:Spc:=qrC (Y:=B) (a1 B) (fun _=>True) (enc (X:=Bool)) (fun x y=>y=qcB x.1 x.2) au 1
theorem B8(h1:S cy=Jq):aq cm cj S (aE (List B) (a1 B)) (fun _=>True) (enc (X:=Bool)) fun x y=>y=qcB x.1 x.2:=by
 rintro⟨l,x⟩ -
 simp[cm,cj,h1]
 exact uQ _ l
abbrev s_has2:Spc:=qlt s_hasE qop
def XH(x:Pat)(l:List B):Prop:=l.length+jg x<=1000000
def qoA(x:Pat)(l r:List B):Prop:=r=aS x l
abbrev RQ(n:Nat):Spc:=qhY (X:=Pat) (Y:=B) (fun x l=>eD x<=n/\XH x l) qoA au 1
abbrev i_labelsA:Spc:=qhY (X:=Pat) (Y:=B) XH qoA au 1
theorem II(n:Nat)(h0:S aQ=s_has2)(h1:S bT=RQ n):PL (X:=Pat) (Y:=B) iu ib S (fun x l=>eD x<=n+1/\XH x l) qoA au 1:=by
 rintro v lb p ⟨hd,hl⟩
 have hk:∀k∈p.kids,eD k<=n:=fun k h=>by have:=jv h;have:eD p<=n+1:=hd;omega
 have hl:lb.length+jg p<=1000000:=hl
 have hpn:=nA p
 simp[iu,ib,h0]
 refine aR (X:=Value) [2] [] (fun _=>True) (fun v=>[(1, .own 1 v)]) (fun v=>[(1, .row v au 1 ((qn lb p.lab).map enc))]) ?_ ?_
 ·simp[h0, -Bool.forall_bool]
  refine⟨fun hn=>?_,fun he=>?_⟩
  ·have hn:¬p.lab=E0:=hn
   refine .inr ⟨fun hf=>⟨by omega,by omega,fun v=> .inl ?_⟩,fun ht=> .inl ?_⟩
   ·rw[qn,if_neg hn,BP,if_neg (fun h=>by rw[Kq.2 h]at hf;cases hf)]
    simp
   ·rw[qn,if_neg hn,BP,if_pos (Kq.1 ht)]
  ·have he:p.lab=E0:=he
   refine .inl ?_
   rw[qn,if_pos he]
 ·rintro v -
  have hae:=Lc lb p.lab
  simp
  intro hkl
  refine ai (X:=Value×List B) [23] [] p.kids.length (fun k x=>x.2=(p.kids.take k).foldl (fun o k=>aS k o) (qn lb p.lab)) (fun x=>[(1, .own 1 x.1)]) (fun x=>[(1, .row x.1 au 1 (x.2.map enc))]) (v,qn lb p.lab) (by simp) (by simp) (by omega) (by simp) (by simp) (by simp) (by simp) (by simp) ?_ ?_
  ·rintro k ⟨v,ls⟩ hkk hls
   simp only at hls
   obtain⟨x,hx⟩:=bJ hkk
   obtain⟨_,hgx⟩:=qxz.1 hx
   have hq:XH x ls:=by
    have h2:=Na p.kids k (qn lb p.lab)
    rw[<-hls]at h2
    have h4:cD (p.kids.take k) +cD (p.kids.drop k)=cD p.kids:=by rw[<-Bh,qyc]
    rw[gP hx,cD]at h4
    show ls.length+jg x<=_
    omega
   have hq2:=hk x (bj hx)
   simp[hkk,hx,hgx,h1,hq,hq2]
   intro v' l' hy
   obtain rfl:l'=aS x ls:=hy
   refine .inl ?_
   rw[bc hx,qzA,<-hls]
   rfl
  ·rintro⟨v,ls⟩ hls
   simp only at hls
   rw[qx1]at hls
   simp
   refine kg ls (by simp) ?_
   show ls=aS p lb
   rw[qQ,hls]
abbrev qc0:Spc:=qlJ (Y:=B) (aE Pat (aD a0)) (fun x=>x.2.1= .v (.slice none 0 0)/\XH x.1 []) (fun x r=>qoA x.1 [] r) au 1
theorem Ht(h0:S aQ=s_has2)(h1:S bT=i_labelsA):Tg (Y:=B) iu ib S (aE Pat (aD a0)) (fun x=>x.2.1= .v (.slice none 0 0)/\XH x.1 []) (fun x r=>qoA x.1 [] r) au 1:=by
 rintro⟨p,d,⟨⟩⟩ ⟨hd,hl⟩
 have hd:d= .v (.slice none 0 0):=hd
 subst hd
 have hl:0+jg p<=1000000:=hl
 have hpn:=nA p
 simp[iu,ib,h0]
 refine aR (X:=Value) [2] [] (fun _=>True) (fun v=>[(1, .own 21 v)]) (fun v=>[(21, .row v au 1 ((qn [] p.lab).map enc))]) ?_ ?_
 ·simp[h0, -Bool.forall_bool]
  refine⟨fun hn=>?_,fun he=>?_⟩
  ·have hn:¬p.lab=E0:=hn
   refine .inl ⟨fun hf v=> .inl ?_,fun ht=>absurd (Kq.1 ht) (by simp)⟩
   rw[qn,if_neg hn,BP,if_neg (by simp)]
   simp
  ·have he:p.lab=E0:=he
   rw[qn,if_pos he]
   simp[isNilRow]
 ·rintro v -
  have hae:=Lc [] p.lab
  simp
  intro hkl
  refine ai (X:=Value×List B) [23] [] p.kids.length (fun k x=>x.2=(p.kids.take k).foldl (fun o k=>aS k o) (qn [] p.lab)) (fun x=>[(1, .own 21 x.1)]) (fun x=>[(21, .row x.1 au 1 (x.2.map enc))]) (v,qn [] p.lab) (by simp) (by simp) (by omega) (by simp) (by simp) (by simp) (by simp) (by simp) ?_ ?_
  ·rintro k ⟨v,ls⟩ hkk hls
   simp only at hls
   obtain⟨x,hx⟩:=bJ hkk
   obtain⟨_,hgx⟩:=qxz.1 hx
   have hq:XH x ls:=by
    have h2:=Na p.kids k (qn [] p.lab)
    rw[<-hls]at h2
    have hae2:(qn [] p.lab).length<=0+1:=hae
    have h4:cD (p.kids.take k) +cD (p.kids.drop k)=cD p.kids:=by rw[<-Bh,qyc]
    rw[gP hx,cD]at h4
    show ls.length+jg x<=_
    omega
   simp[hkk,hx,hgx,h1,hq]
   intro v' l' hy
   obtain rfl:l'=aS x ls:=hy
   refine .inl ?_
   rw[bc hx,qzA,<-hls]
   rfl
  ·rintro⟨v,ls⟩ hls
   simp only at hls
   rw[qx1]at hls
   simp
   refine kg ls (by simp) ?_
   show ls=aS p []
   rw[qQ,hls]
abbrev s_qlabels:Spc:=qlt qc0 i_labelsA
abbrev zQ:Spc:=aI (a1 Pat) (fun x=>XH x []) (enc (X:=List B)) fun x y=>y=if kP aZ x then aS x []else[]
theorem IL(h1:S qC=rh)(h2:S bT=s_qlabels):aq rU ru S (a1 Pat) (fun x=>XH x []) (enc (X:=List B)) fun x y=>y=if kP aZ x then aS x []else[]:=by
 rintro p hp
 simp[rU,ru,h1,h2, -Bool.forall_bool]
 clear h1 h2
 exact⟨fun h=>cp [] (by simp) (by rw[h];rfl),fun h=> .inl ⟨hp,fun v l hl=>cp l (gl au (by simp)) (by rw[h];exact hl)⟩⟩
end Go.Gv

namespace Go.Gv
open Go.Proofs
theorem OF{T R:St3->St3->Prop}(h0:∀s,T s s)(h1:∀s t u,T s t->T t u->T s u)(hR:∀s t,R s t->T s t):∀ {n:Nat} {s t:St3},Pow R n s t->T s t
 | 0,s,t,h=>by cases h;exact h0 s
 | n+1,s,t,⟨u,a,b⟩=>h1 _ _ _ (hR _ _ a) (OF h0 h1 hR b)
section
variable {T:St3->St3->Prop}(h0:∀s,T s s)(h1:∀s t u,T s t->T t u->T s u)(r:Rn)
include h0 h1
mutual
theorem ES:∀p:Pat,ll (fun q=>q.op=1->∀s,T s (Ez r q s)) p->∀s t,lJ r p s t->T s t
 | .mk op cond lab reg mn mx ks,h,s,t,hD=>by
   have hs:=jY h
   have hk:∀k∈ks,ll (fun q=>q.op=1->∀s,T s (Ez r q s)) k:=fun k hk=>qM h hk
   rw[lJ]at hD
   split at hD
   ·rename_i e
    rw[hD.2.2]
    exact hs e s
   ·split at hD
    ·rw[hD.2];exact h0 s
    ·split at hD
     ·exact Sp ks hk s t hD
     ·split at hD
      ·exact Sq ks hk s t hD
      ·exact qdi ks mn mx hk s t hD
theorem Sp:∀ks:List Pat,(∀k∈ks,ll (fun q=>q.op=1->∀s,T s (Ez r q s)) k)->∀s t,uF r ks s t->T s t
 | [],_,s,t,h=>by rw[tP]at h;rw[<-h];exact h0 s
 | k::ks,hk,s,t,h=>by
   rw[pU]at h
   obtain⟨u,a,b⟩:=h
   exact h1 _ _ _ (ES k (hk k (by simp)) s u a) (Sp ks (fun q hq=>hk q (by simp[hq])) u t b)
theorem Sq:∀ks:List Pat,(∀k∈ks,ll (fun q=>q.op=1->∀s,T s (Ez r q s)) k)->∀s t,uG r ks s t->T s t
 | [],_,s,t,h=>by rw[ET]at h;exact h.elim
 | k::ks,hk,s,t,h=>by
   rw[sO]at h
   rcases h with h|h
   ·exact ES k (hk k (by simp)) s t h
   ·exact Sq ks (fun q hq=>hk q (by simp[hq])) s t h
theorem qdi:∀ (ks:List Pat) (mn mx:Int),(∀k∈ks,ll (fun q=>q.op=1->∀s,T s (Ez r q s)) k)->∀s t,Fd r ks mn mx s t->T s t
 | [],_,_,_,s,t,h=>by rw[Fd]at h;exact h.elim
 | k::ks,mn,mx,hk,s,t,h=>by
   rw[Fd]at h
   obtain⟨u,a,n,_,b⟩:=h
   have hT:=ES k (hk k (by simp))
   exact h1 _ _ _ (OF h0 h1 hT a) (OF h0 h1 (fun s t q=>hT s t q.1) b)
end
end
def Fx(n:Nat)(s t:St3):Prop:=∀i,n<=i->i < 3->t.get i=s.get i
theorem UQ(s:St3)(i j:Nat)(x:Int)(hi:i < 3)(hj:j < 3)(h:i≠j):(s.set i x).get j=s.get j:=by
 rcases i with _|_|_|i <;> rcases j with _|_|_|j <;> first|rfl|omega
theorem qcO{r:Rn}{p:Pat}(hl:r.lb.length<=3)(h:ll (fun q=>q.lab≠se->qR r.lb q.lab=true) p){s t:St3}(hD:lJ r p s t):Fx r.lb.length s t:=by
 refine ES (T:=Fx r.lb.length) (fun s i _ _=>rfl) (fun s t u a b i hi h3=>(b i hi h3).trans (a i hi h3)) r p (sK h fun q hq _ s i hi h3=>?_) s t hD
 unfold Ez
 dsimp only
 split
 ·rcases i with _|_|i <;> rfl
 ·rename_i hne
  have hin:=hq hne
  have h4:=Ay (fun z=>decide (z=q.lab)) r.lb
  have h5:decide (0<=fW r.lb fun z=>decide (z=q.lab))=true:=(uQ _ _).trans hin
  have h6:=of_decide_eq_true h5
  have:((s.set (fW r.lb fun z=>decide (z=q.lab)).toNat (s.p+1)).get i)=s.get i:=UQ _ _ _ _ (by omega) h3 (by omega)
  rcases i with _|_|i <;> exact this
theorem Xw(r:Rn)(s:St3){i:Nat}(hi:i < r.lb.length):(NB r s)[i]? =some (s.get i -1):=by
 unfold NB
 rw[qxQ,qyG hi];rfl
theorem qaB{s t:St3}(h:s.p=t.p)(hg:∀i,i < 3->s.get i=t.get i):s=t:=by
 obtain⟨a,b,c,d⟩:=s
 obtain⟨a',b',c',d'⟩:=t
 have e0:=hg 0 (by decide)
 have e1:=hg 1 (by decide)
 have e2:=hg 2 (by decide)
 simp only[St3.get]at e0 e1 e2 h
 rw[h,e0,e1,e2]
theorem qhb{r:Rn}{p:Pat}(hl:r.lb.length<=3)(h:ll (fun q=>q.lab≠se->qR r.lb q.lab=true) p){s t u:St3}(h1:lJ r p s t)(h2:lJ r p s u)(e1:t.p=u.p)(e2:NB r t=NB r u):t=u:=by
 refine qaB e1 fun i hi=>?_
 by_cases hn:i < r.lb.length
 ·have a:=Xw r t hn
  have b:=Xw r u hn
  rw[e2,b]at a
  have:=qxO a
  omega
 ·rw[qcO hl h h1 i (by omega) hi,qcO hl h h2 i (by omega) hi]
theorem qfV{m:Nat}{s:St3}(h:P2 m s):YO (m+1) s < (m+1) * (m+1) * (m+1) * (m+1):=by
 obtain⟨h1,h2,h3⟩:=h
 have a:=h3 0
 have b:=h3 1
 have c:=h3 2
 simp only[St3.get]at a b c
 unfold YO
 have p1:s.p.toNat<=m:=by omega
 have p2:s.b0.toNat<=m:=by omega
 have p3:s.b1.toNat<=m:=by omega
 have p4:s.b2.toNat<=m:=by omega
 generalize s.p.toNat=x at*
 generalize s.b0.toNat=y at*
 generalize s.b1.toNat=z at*
 generalize s.b2.toNat=w at*
 have q1:x* (m+1) +y < (m+1) * (m+1):=by
  have:=qya (m+1) p1
  rw[qyj m (m+1)];omega
 have q2:(x* (m+1) +y) * (m+1) +z < (m+1) * (m+1) * (m+1):=by
  have:=qya (m+1) (qAm q1)
  rw[qyj]at this;omega
 have:=qya (m+1) (qAm q2)
 rw[qyj]at this
 omega
theorem U3{m a b c d:Nat}(hb:b < m)(hd:d < m)(h:a*m+b=c*m+d):a=c/\b=d:=by
 have h1:(a*m+b) /m=a:=by rw[qyK,Nat.mul_add_div (by omega),Nat.div_eq_of_lt hb];omega
 have h2:(c*m+d) /m=c:=by rw[qyK,Nat.mul_add_div (by omega),Nat.div_eq_of_lt hd];omega
 rw[h]at h1
 have e:a=c:=h1.symm.trans h2
 subst e
 exact⟨rfl,by omega⟩
theorem qbZ{m:Nat}{s t:St3}(hs:P2 m s)(ht:P2 m t)(h:YO (m+1) s=YO (m+1) t):s=t:=by
 obtain⟨h1,h2,h3⟩:=hs
 obtain⟨k1,k2,k3⟩:=ht
 have a0:=h3 0;have a1:=h3 1;have a2:=h3 2
 have b0:=k3 0;have b1:=k3 1;have b2:=k3 2
 simp only[St3.get]at a0 a1 a2 b0 b1 b2
 unfold YO at h
 obtain⟨h,e1⟩:=U3 (by omega) (by omega) h
 obtain⟨h,e2⟩:=U3 (by omega) (by omega) h
 obtain⟨e4,e3⟩:=U3 (by omega) (by omega) h
 refine qaB (by omega) fun i hi=>?_
 rcases i with _|_|_|i
 ·show s.b0=t.b0;omega
 ·show s.b1=t.b1;omega
 ·show s.b2=t.b2;omega
 ·omega
theorem TZ{m:Int}(hm:m<=170){l:List St3}(hn:l.Nodup)(h:∀s∈l,P2 m s):l.length<=1000000000:=by
 by_cases h0:0<=m
 ·obtain⟨k,rfl⟩:∃k:Nat,m=(k:Int):=⟨m.toNat,by omega⟩
  have h1:=M4 (f:=YO (k+1)) hn (fun x hx=>qfV (h x hx)) fun x hx y hy e=>qbZ (h x hx) (h y hy) e
  have h2:(k+1) * (k+1)<=171*171:=qzX (by omega) (by omega)
  have h3:=qzX h2 (show k+1<=171 by omega)
  have h4:=qzX h3 (show k+1<=171 by omega)
  omega
 ·cases l with
  | nil=>exact qx3 _
  | cons s l=>have:=(h s (by simp));have a:=this.1;have b:=this.2.1;omega
end Go.Gv
