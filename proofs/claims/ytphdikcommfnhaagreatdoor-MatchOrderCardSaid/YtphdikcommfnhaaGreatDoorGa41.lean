/- A part of the framework and of the walks: W36 W37 V5 W190 V65. -/
import Derived.Test.YtphdikcommfnhaaGreatDoorGa40
import Derived.Test.YtphdikcommfnhaaGreatDoorGa33
import Derived.Test.YtphdikcommfnhaaGreatDoorGa21
import Derived.Test.YtphdikcommfnhaaGreatDoorGa25
import Derived.Test.YtphdikcommfnhaaGreatDoorGa34
import Derived.Test.YtphdikcommfnhaaGreatDoorGa35
import Derived.Test.YtphdikcommfnhaaGreatDoorGa38
set_option linter.unusedSimpArgs false
set_option linter.unusedVariables false
set_option maxRecDepth 100000
set_option linter.unusedSectionVars false

namespace Go.Gv
open Cod (enc dec)
variable {S S0:Nat->Spc}
theorem Ic (n:Nat) (h1:S ew=MS n):aV rf qS S (a1 Pat) (PPat (n+1)) (enc (X:=Int)) fun x y=> y=o8 x:=by
 rintro p hp
 have hk: ∀k∈p.kids,PPat n k:=fun k=> hp.kid
 have hs: ∀k∈p.kids,0<=o8 k/\o8 k<=1000:=fun k h=> PU (v:=eb) k (hk k h).2
 simp[rf,qS]
 intro _
 refine aA (X:=Int) [1,7] [] p.kids.length (fun k n=> n=jp (p.kids.take k) 0) (fun n=> [(3,enc n)]) (fun _=> []) 0 (by simp) (by simp) (by omega) (by simp) (by simp) (by simp[jp]) (by simp) (by simp) ?_ ?_
 ·rintro k m hkl hP
  obtain⟨x,hx⟩:=FU hkl
  have hx1:=xf hx
  obtain⟨_,hgx⟩:=List.getElem?_eq_some_iff.1 hx
  have hm:=sm (p.kids.take k) 0 (by omega) (by omega) (fun y hy=> (hs y (List.mem_of_mem_take hy)).1)
  have h2:=hs x hx1
  rw[<-hP] at hm
  have q1:=hk x hx1
  simp[h1,hkl,hx,hgx,q1]
  refine⟨by simp only[InR];omega,?_⟩
  rw[cU hx,MG,<-hP,jp,jp]
 ·rintro m hP
  have hm:=sm (p.kids.take p.kids.length) 0 (by omega) (by omega) (fun y hy=> (hs y (List.mem_of_mem_take hy)).1)
  rw[<-hP] at hm
  rw[List.take_length] at hP
  have hn:=(Hq hp.2).2.2
  unfold zl at hn
  rw[decide_eq_true_eq] at hn
  rw[Kp,Ok,<-hP]
  simp
  intro _
  refine⟨fun h=> fun h'=> absurd h h',fun h0=> ⟨fun h6=> ?_,fun h6=> by rw[if_neg h0,if_neg h6]⟩⟩
  rw[if_neg h0,if_pos h6]
  have hn:=hn h6
  refine⟨fun e=> by rw[if_neg (by omega),if_pos e],fun e=> ⟨fun e2=> ?_,fun e2=> ?_⟩⟩
  ·have h2:=Ox hm.1 hm.2 (show 0<=p.mn+1 by omega) (show p.mn+1<=17 by omega)
   rw[if_pos (by omega)]
   exact⟨by simp only[InR];omega,by simp only[InR];omega,rfl⟩
  ·have h2:=Ox hm.1 hm.2 (show 0<=p.mx by omega) (show p.mx<=16 by omega)
   rw[if_neg (by omega),if_neg e]
   exact⟨by simp only[InR];omega,rfl⟩
end Go.Gv

namespace Go.Gv
open Cod (enc dec)
variable {S S0:Nat->Spc}
def FunOnP {X Y:Type} [Cod X] [Cod Y] (S:Nat->Spc) (d:D) (l:List X) (p:X->Y):Prop:=
 ∃g caps pc,d= .clo g caps/\S g= .pure pc/\ ∀x∈l,pc.pre (enc x::caps)/\ ∀r,pc.post (enc x::caps) r->r=enc (p x)
theorem FunOnP.useB {X:Type} [Cod X] {S:Nat->Spc} {d:D} {l:List X} {p:X->Bool} (h:FunOnP S d l p) (x:X) (hx:x∈l) {d':Nat} {H:aa} {K:D->aa->Prop} (hk: ∀y:Bool,(∀q,FunOnP S d l q->y=q x)->K (.v (.bool y)) H):u5 S d d' [enc x] H K:=by
 obtain⟨g,caps,pc,rfl,h1,h2⟩:=h
 simp only[u5,h1,Spc.pt]
 refine⟨(h2 x hx).1,fun r hr=> ?_⟩
 have e:=(h2 x hx).2 r hr
 rw[e]
 refine hk (p x) fun q hq=> ?_
 obtain⟨g',caps',pc',e',k1,k2⟩:=hq
 cases e'
 rw[h1] at k1
 cases k1
 exact bj (e.symm.trans ((k2 x hx).2 r hr))
theorem FunIs.on {X Y:Type} [Cod X] [Cod Y] {S:Nat->Spc} {d:D} {p:X->Y} (h:FunIs S d p) (l:List X):FunOnP S d l p:=by
 obtain⟨g,caps,pc,h1,h2,h3⟩:=h
 exact⟨g,caps,pc,h1,h2,fun x _=> h3 x⟩
theorem HJ {X Y:Type} [Cod X] [Cod Y] {S:Nat->Spc} {g:Nat} {c:D} {l:List X} {pre:X×D×Unit->Prop} {post:X×D×Unit->Y->Prop} {p:X->Y} (h:S g=cC (aE X (aD a0)) pre enc post) (hp: ∀x∈l,pre (x,c,())) (hq: ∀x∈l,∀y,post (x,c,()) y->y=p x):FunOnP S (.clo g [c]) l p:=by
 refine⟨g, [c],_,rfl,h,fun x hx=> ⟨⟨(x,c,()),by simp,hp x hx⟩,fun r hr=> ?_⟩⟩
 obtain⟨y,rfl,hy⟩:=hr (x,c,()) (by simp) (hp x hx)
 rw[hq x hx y hy]
theorem Oq (x:Pat):D.agg [D.v (Value.int IntKind.i64 x.op),D.v (Value.int IntKind.i64 x.cond.op),D.v (Value.string x.cond.name),D.v (Value.string x.cond.arg),D.v (Value.string x.cond.val),D.v (Value.string x.cond.lab),D.v (Value.bool x.cond.fold),D.list 7 (List.map enc x.cond.kids),D.v (Value.string x.lab),D.v (Value.string x.reg),D.v (Value.int IntKind.i64 x.mn),D.v (Value.int IntKind.i64 x.mx),D.list 13 (List.map enc x.kids)]=enc x:=by simp
def JV (S0:Nat->Spc) (x:List Pat×D×Unit):Prop:= ∃p:Pat->Bool,FunOnP S0 x.2.1 x.1 p
def UO (S0:Nat->Spc) (x:List Pat×D×Unit) (y:Int):Prop:= ∀p:Pat->Bool,FunOnP S0 x.2.1 x.1 p->y=gT x.1 p
abbrev R5 (S0:Nat->Spc):Spc:=cC (aE (List Pat) (aD a0)) (JV S0) enc (UO S0)
theorem o3:aV ez eq S (aE (List Pat) (aD a0)) (JV S) enc (UO S):=by
 rintro⟨l,d,⟨⟩⟩ ⟨p,hp⟩
 simp at hp
 simp[ez,eq]
 intro _
 refine aA (X:=Unit) [0,1] [] l.length (fun k _=> ∀p:Pat->Bool,FunOnP S d l p-> ∀x∈l.take k,p x=false) (fun _=> []) (fun _=> []) () (by simp) (by simp) (by omega) (by simp) (by simp) (by simp) (by simp) (by simp) ?_ ?_
 ·intro k _ hk hP
  simp
  refine⟨hk,fun x hx=> ?_⟩
  rw[Oq x]
  refine hp.useB x (xf hx) fun y hy=> ?_
  simp
  refine⟨fun h=> ?_,fun h p' hp'=> ?_⟩
  ·intro p' hp'
   exact(qE hx (by rw[<-hy p' hp',h]) (hP p' hp')).symm
  ·rw[cU hx]
   intro z hz
   rcases List.mem_append.1 hz with hz | hz
   ·exact hP p' hp' z hz
   ·simp at hz;subst hz;rw[<-hy p' hp',h]
 ·intro _ hP
  simp
  intro p' hp'
  exact(kZ (by simpa using hP p' hp')).symm
def UP (S0:Nat->Spc) (x:List Pat×D×Unit) (y:Bool):Prop:= ∀p:Pat->Bool,FunOnP S0 x.2.1 x.1 p->y=x.1.any p
abbrev Eg (S0:Nat->Spc):Spc:=cC (aE (List Pat) (aD a0)) (JV S0) enc (UP S0)
theorem nf (h1:S db=R5 S0):aV dC dw S (aE (List Pat) (aD a0)) (JV S0) enc (UP S0):=by
 rintro⟨l,d,⟨⟩⟩ hp
 simp[dC,dw,h1, -Bool.forall_bool]
 refine⟨hp,fun y hy p' hp'=> ?_⟩
 rw[hy p' hp']
 exact qD p' l
abbrev AJ (n:Nat):Spc:=cC (a2 Pat Int) (fun x=> fN x.1<=n/\0<=x.2/\x.2<=101) (enc (X:=Bool)) fun x y=> y=dJ x.1 x.2
def XP (n:Nat) (x:Pat×D×Unit):Prop:= ∃d:Int,x.2.1= .cptr [enc d] 0/\fN x.1<=n/\0<=d/\d<=100
def UI (x:Pat×D×Unit) (y:Bool):Prop:= ∀d:Int,x.2.1= .cptr [enc d] 0->y=!dJ x.1 (d+1)
abbrev RV (n:Nat):Spc:=cC (aE Pat (aD a0)) (XP n) enc UI
theorem yg (n:Nat) (h1:S cR=AJ n):aV kO kB S (aE Pat (aD a0)) (XP n) enc UI:=by
 rintro⟨p,d,⟨⟩⟩ ⟨e,hd,h2,h3,h4⟩
 simp at hd h2
 subst hd
 simp[kO,kB,h1,UI,h2, -Bool.forall_bool]
 exact⟨by simp only[InR];omega,by omega⟩
theorem Cr (n:Nat) (h0:S0 d7=RV n) (h1:S aB=Eg S0):aV mW mG S (a2 Pat Int) (fun x=> fN x.1<=n+1/\0<=x.2/\x.2<=101) (enc (X:=Bool)) fun x y=> y=dJ x.1 x.2:=by
 rintro⟨p,d⟩ ⟨hn,hd0,hd1⟩
 have hk: ∀k∈p.kids,fN k<=n:=fun k hk=> by have:=jM hk;have:fN p<=n+1:=hn;omega
 simp only at hd0 hd1
 simp[mW,mG,h1, -Bool.forall_bool]
 rw[nh]
 refine⟨fun h=> ?_,fun h=> by rw[decide_eq_false (by omega)];rfl⟩
 have hf:FunOnP S0 (.clo d7 [.cptr [.v (.int .i64 d)] 0]) p.kids fun x=> !dJ x (d+1):=
  HJ h0 (fun x hx=> ⟨d,rfl,hk x hx,hd0,h⟩) (fun x _ y hy=> hy d rfl)
 refine⟨⟨_,hf⟩,fun y hy=> ?_⟩
 rw[hy _ hf,decide_eq_true h,Bool.true_and]
 simp[List.any_eq_not_all_not]
def XQ (S0:Nat->Spc) (n:Nat) (x:Pat×D×Unit):Prop:= ∃ (d:D) (f:Pat->Bool),x.2.1= .cptr [d] 0/\FunIs S0 d f/\fN x.1<=n
def UK (S0:Nat->Spc) (x:Pat×D×Unit) (y:Bool):Prop:= ∀ (d:D) (f:Pat->Bool),x.2.1= .cptr [d] 0->FunIs S0 d f->y=!jB f x.1
abbrev II (S0:Nat->Spc) (n:Nat):Spc:=cC (aE Pat (aD a0)) (fun x=> ∃f:Pat->Bool,FunIs S0 x.2.1 f/\fN x.1<=n) enc fun x y=> ∀f:Pat->Bool,FunIs S0 x.2.1 f->y=jB f x.1
abbrev R2 (S0:Nat->Spc) (n:Nat):Spc:=cC (aE Pat (aD a0)) (XQ S0 n) enc (UK S0)
theorem Cu (n:Nat) (h1:S bw=II S0 n):aV mX mH S (aE Pat (aD a0)) (XQ S0 n) enc (UK S0):=by
 rintro⟨p,d,⟨⟩⟩ ⟨e,f,hd,h2,h3⟩
 simp at hd h3
 subst hd
 simp[mX,mH,h1,UK,h3, -Bool.forall_bool]
 exact⟨⟨f,h2⟩,fun y hy d g e hg=> by subst e;exact hy g hg⟩
theorem Gh {N:Nat->Spc} (n:Nat) (hN: ∀ (d:D) (f:Pat->Bool),FunIs N d f->FunIs S d f) (h0:S0 fe=R2 N n) (h1:S aB=Eg S0):aV pW pr S (aE Pat (aD a0)) (fun x=> ∃f:Pat->Bool,FunIs N x.2.1 f/\fN x.1<=n+1) enc fun x y=> ∀f:Pat->Bool,FunIs N x.2.1 f->y=jB f x.1:=by
 rintro⟨p,d,⟨⟩⟩ ⟨f,hf,hn⟩
 have hk: ∀k∈p.kids,fN k<=n:=fun k hk=> by have:=jM hk;have:fN p<=n+1:=hn;omega
 simp at hf
 have hd1:d.kn=true/\d.cells= [d]:=by obtain⟨g,caps,pc,rfl,_⟩:=hf;exact⟨rfl,rfl⟩
 simp[pW,pr,h1,hd1, -Bool.forall_bool]
 rw[Oq p]
 refine((hN d f hf).on [p]).useB p (by simp) fun y hy=> ?_
 have hy: ∀f,FunIs N d f->y=f p:=fun f hf=> hy f ((hN d f hf).on [p])
 simp[h1, -Bool.forall_bool]
 refine⟨fun ht=> ?_,fun hff g hg=> by rw[ji,<-hy g hg,hff];rfl⟩
 have hO: ∀g,FunIs N d g->FunOnP S0 (.clo fe [.cptr [d] 0]) p.kids fun x=> !jB g x:=fun g hg=>
  HJ h0 (fun x hx=> ⟨d,g,rfl,hg,hk x hx⟩) (fun x _ y hy=> hy d g rfl hg)
 refine⟨⟨_,hO f hf⟩,fun z hz g hg=> ?_⟩
 rw[hz _ (hO g hg),ji,<-hy g hg,ht,Bool.true_and]
 simp[List.any_eq_not_all_not]
abbrev wJ:Spc:=cC (a2 Pat Int) (fun x=> 0<=x.2/\x.2<=101) (enc (X:=Bool)) fun x y=> y=dJ x.1 x.2
abbrev pf (N:Nat->Spc):Spc:=cC (aE Pat (aD a0)) (fun x=> ∃f:Pat->Bool,FunIs N x.2.1 f) enc fun x y=> ∀f:Pat->Bool,FunIs N x.2.1 f->y=jB f x.1
abbrev yM:Spc:=cC (a1 Pat) (fun _=> True) (enc (X:=Bool)) fun x y=> y=(dJ x 1 && jB Ce x)
theorem uX {X:Type} [Cod X] {S:Nat->Spc} {g:Nat} {pre:X->Prop} {p:X->Bool} (h:S g=cC (a1 X) pre enc fun x y=> y=p x) (hp: ∀x,pre x):FunIs S (.clo g []) p:=by
 refine⟨g, [],_,rfl,h,fun x=> ⟨⟨x,by simp,hp x⟩,fun r hr=> ?_⟩⟩
 obtain⟨y,rfl,hy⟩:=hr x (by simp) (hp x)
 rw[hy]
theorem Gk {N:Nat->Spc} (h0:N gE=IC) (h1:S cR=wJ) (h2:S bw=pf N):aV pZ pw S (a1 Pat) (fun _=> True) (enc (X:=Bool)) fun x y=> y=(dJ x 1 && jB Ce x):=by
 rintro p -
 have f1:FunIs N (.clo gE []) Ce:=uX h0 fun _=> trivial
 simp[pZ,pw,h1,h2, -Bool.forall_bool]
 refine⟨fun h=> ⟨⟨_,f1⟩,fun y hy=> by rw[hy _ f1,h];rfl⟩,fun h h'=> absurd (h.symm.trans h') (by simp)⟩
theorem Gf {N:Nat->Spc} (h0:N c8=yK) (h0':N cO=ug) (h1:S eF=yM) (h2:S bw=pf N):aV pU pp S (a1 Pat) (fun _=> True) (enc (X:=Bool)) fun x y=> y=rH eb x:=by
 rintro p -
 have f1:FunIs N (.clo c8 []) (wm eb):=uX h0 fun _=> trivial
 have f2:FunIs N (.clo cO []) zl:=uX h0' fun _=> trivial
 simp[pU,pp,h1,h2, -Bool.forall_bool]
 unfold rH
 refine⟨fun h1 h2=> ⟨⟨_,f1⟩,fun y hy=> ?_⟩,fun h=> ?_⟩
 ·have hy:=hy _ f1
  refine⟨fun ht=> ⟨⟨_,f2⟩,fun z hz=> ?_⟩,fun hf=> ?_⟩
  ·rw[hz _ f2,h1,h2,<-hy,ht];rfl
  ·rw[<-hy,hf];simp
 ·rcases hs:dJ p 1
  ·rfl
  ·rw[h hs];rfl
end Go.Gv

namespace Go.Gv
theorem Hs (a b:List Pat):gS (a++b)=gS a+gS b:=by
 induction a with
 | nil=> simp[gS]
 | cons k a ih=> simp only[List.cons_append,gS];omega
end Go.Gv

namespace Go.Gv
open Cod (enc dec)
variable {S S0:Nat->Spc}
theorem Pw {σ:Sg} {H:aa} {k j b el n:Nat} {cs cs':List D} (hkj:j≠k) (hk:H k=some (.box b cs)) (hl:cs.length=cs'.length) (hc: ∀ (m:Nat) (c c':D),cs[m]?=some c->cs'[m]?=some c'->FrzTo ed c c'):
 Wk σ H σ (ah (ah H k (some (.box b cs'))) j (some (.row (.slice none 0 0) el n []))):=by
 refine Rk (Hf:=ed) id (fun t=> .same _) (fun i r h=> ?_) (fun i j r s _ _ e=> .inl e) (fun i r h=> by simp[ed] at h)
 by_cases e:i=j
 ·subst e
  simp[ah] at h
  subst h
  exact .inr ⟨rfl,rfl⟩
 ·by_cases e2:i=k
  ·subst e2
   simp[ah,e] at h
   subst h
   exact .inl ⟨_,hk, .inr ⟨rfl,hl,hc⟩⟩
  ·simp only[ah,e,e2,if_false] at h
   exact .inl ⟨r,h, .inl rfl⟩
def Jc:Nat->Cond->Prop
 | 0,_=> False
 | n+1,x=> x.kids.length<=1000000/\ ∀k∈x.kids,Jc n k
abbrev D8 (n:Nat):Spc:=cC (a1 Cond) (Jc n) (enc (X:=Cond)) fun x y=> y=x
theorem Dz (n:Nat) (h1:S de=D8 n):aV nW nN S (a1 Cond) (Jc (n+1)) (enc (X:=Cond)) fun x y=> y=x:=by
 rintro⟨op,name,arg,val,lab,fold,kids⟩ ⟨hlen,hk⟩
 simp only at hlen hk
 simp[nW,nN]
 intro b2 b3 hkl
 refine PH (Pw (k:=3) (j:=20) (b:=b3) (el:=cQ) (n:=7) (cs':= [.v (.int .i64 op), .v (.string name), .v (.string arg), .v (.string val), .v (.string lab), .v (.bool fold), .own 20 (.slice none 0 0)]) (by decide) (by simp;rfl) (by simp) ?_) ?_
 ·intro m c c' hc hc'
  match m with
  | 0 | 1 | 2 | 3 | 4 | 5=> simp at hc hc';subst hc;subst hc';exact .same _
  | 6=> simp at hc hc';subst hc;subst hc';exact .nilown _
  | m+7=> simp at hc
 refine aA (X:=Value×List Cond) [2,9] [2] kids.length (fun k x=> x.2=kids.take k) (fun x=> [(3, .bptr 3 b3 0)]) (fun x=> [(3, .box b3 [.v (.int .i64 op), .v (.string name), .v (.string arg), .v (.string val), .v (.string lab), .v (.bool fold), .own 20 x.1]),(20, .row x.1 cQ 7 (x.2.map enc))]) (.slice none 0 0, []) (by simp) (by simp) (by omega) (by simp) (by simp) (by simp) (by simp) (by simp) ?_ ?_
 ·rintro k ⟨v,m⟩ hkl' hm
  simp only at hm
  obtain⟨x,hx⟩:=FU hkl'
  obtain⟨_,hgx⟩:=List.getElem?_eq_some_iff.1 hx
  have hx1:=hk x (xf hx)
  have hml:m.length=k:=by rw[hm,List.length_take];omega
  simp[h1,hkl',hx,hgx,hx1]
  refine⟨by omega,by omega,fun v=> .inl (.inl ?_)⟩
  rw[hm,List.map_take,List.take_add_one]
  simp[hx]
 ·rintro⟨v,m⟩ hm
  simp only at hm
  rw[List.take_length] at hm
  subst hm
  simp
  refine eR (Y:=Cond) ⟨op,name,arg,val,lab,fold,m⟩ ?_ rfl
  simp
  refine .agg (by simp) fun i c c' h h'=> ?_
  match i with
  | 0 | 1 | 2 | 3 | 4 | 5=> simp at h h';subst h;subst h';exact .same _
  | 6=> simp at h h';subst h;subst h';exact xI cQ (by simp)
  | i+7=> simp at h
theorem qnk {H:aa} {l l':List D} (h:FzL H l l'):FrzTo H (.agg l) (.agg l'):= .agg h.get.1 h.get.2
abbrev AO:Spc:=cC (a1 Cond) (fun x=> ∃n,Jc n x) (enc (X:=Cond)) fun x y=> y=x
def xQ (p:Pat):Pat:=⟨p.op,p.cond,p.lab,⟨#[]⟩,0,0, []⟩
abbrev yL:Spc:=cC (a1 Pat) (fun p=> ∃n,Jc n p.cond) (enc (X:=Pat)) fun x y=> y=xQ x
theorem Gi (h1:S de=AO):aV pX pu S (a1 Pat) (fun p=> ∃n,Jc n p.cond) (enc (X:=Pat)) fun x y=> y=xQ x:=by
 rintro p hp
 simp[pX,pu,h1,hp]
 intro b
 refine eR (Y:=Pat) (xQ p) ?_ rfl
 unfold xQ
 simp
 refine qnk ?_
 simp
def dZ (p:Pat):List Pat:=(dH p).map xQ
theorem sO (p:Pat):dZ p=if p.op=1 then[xQ p] else p.kids.flatMap dZ:=by
 unfold dZ
 rw[kH]
 split
 ·rfl
 ·rw[List.map_flatMap]
def PLc (p:Pat):Prop:= ∀y∈dH p,∃n,Jc n y.cond
theorem PLc.kid {p k:Pat} (h:PLc p) (hne: ¬p.op=1) (hk:k∈p.kids):PLc k:=fun y hy=> h y (by rw[kH,if_neg hne];exact List.mem_flatMap.2 ⟨k,hk,hy⟩)
theorem SM {ks:List Pat} {k:Nat} {x:Pat} (l:List Pat) (hx:ks[k]?=some x): (l++ (ks.take k).flatMap dZ) ++dZ x=l++ (ks.take (k+1)).flatMap dZ:=by
 rw[cU hx,List.flatMap_append,List.flatMap_singleton,List.append_assoc]
def ZJ (x:Pat) (l:List Pat):Prop:=l.length+ (dH x).length<=100000000/\PLc x
theorem YN (ks:List Pat): (ks.flatMap dZ).length=(ks.flatMap dH).length:=by
 induction ks with
 | nil=> rfl
 | cons k ks ih=> simp only[List.flatMap_cons,List.length_append,ih];unfold dZ;simp
theorem SL {ks:List Pat} {k:Nat} {x:Pat} {l:List Pat} (hx:ks[k]?=some x) (h:l.length+ (ks.flatMap dH).length<=100000000) (hc:PLc x):ZJ x (l++ (ks.take k).flatMap dZ):=by
 have:=YM hx h
 unfold qjV at this
 refine⟨?_,hc⟩
 simp only[List.length_append] at this ⊢
 rw[YN]
 exact this
abbrev Bq (n:Nat):Spc:=qae (X:=Pat) (Y:=Pat) (fun x l=> fN x<=n/\ZJ x l) (fun x l r=> r=l++dZ x) aq 13
abbrev i_leavesQA:Spc:=qae (X:=Pat) (Y:=Pat) (fun x l=> ZJ x l) (fun x l r=> r=l++dZ x) aq 13
theorem Dx (n:Nat) (h1:S bW=Bq n) (h2:S fP=yL):N6 (X:=Pat) (Y:=Pat) gY gQ S (fun x l=> fN x<=n+1/\ZJ x l) (fun x l r=> r=l++dZ x) aq 13:=by
 rintro v l p ⟨hp,hl,hc⟩
 have hk: ∀k∈p.kids,fN k<=n:=fun k hk=> by have:=jM hk;have:fN p<=n+1:=hp;omega
 have hl':=hl
 rw[kH] at hl'
 simp[gY,gQ,h2]
 refine⟨fun h1=> ?_,fun hne _=> ?_⟩
 ·have hcc: ∃n,Jc n p.cond:=hc p (by rw[kH,if_pos h1];simp)
  simp[h1] at hl'
  exact⟨hcc,by omega,by omega,fun v=> qG (l++dZ p) (by simp[sO,h1]) rfl⟩
 rw[if_neg hne] at hl'
 refine aA (X:=Value×List Pat) [16] [] p.kids.length (fun k x=> x.2=l++ (p.kids.take k).flatMap dZ) (fun x=> [(1, .own 1 x.1)]) (fun x=> [(1, .row x.1 aq 13 (x.2.map enc))]) (v,l) (by simp) (by simp) (by omega) (by simp) (by simp) (by simp) (by simp) (by simp[isNilRow]) ?_ ?_
 ·rintro k ⟨v,m⟩ hkl hm
  simp only at hm
  obtain⟨x,hx⟩:=FU hkl
  have hx1:=xf hx
  obtain⟨_,hgx⟩:=List.getElem?_eq_some_iff.1 hx
  have q1:=SL hx hl' (hc.kid hne hx1)
  rw[<-hm] at q1
  have q2:=hk x hx1
  simp[h1,hkl,hx,hgx,q1,q2]
  intro v'
  refine .inl ?_
  rw[hm,SM _ hx]
 ·rintro⟨v,m⟩ hm
  simp only at hm
  rw[List.take_length] at hm
  simp
  refine qG m (by simp) ?_
  rw[hm,sO,if_neg hne]
abbrev QU:Spc:=qbO (Y:=Pat) (aE Pat (aD a0)) (fun x=> x.2.1=SB/\ZJ x.1 []) (fun x r=> r=dZ x.1) aq 13
theorem Cs (h1:S bW=i_leavesQA) (h2:S fP=yL):Pj (Y:=Pat) gY gQ S (aE Pat (aD a0)) (fun x=> x.2.1=SB/\ZJ x.1 []) (fun x r=> r=dZ x.1) aq 13:=by
 rintro⟨p,d,⟨⟩⟩ ⟨hd,hl,hc⟩
 have hd:d=SB:=hd
 subst hd
 have hl': ([]:List Pat).length+ (dH p).length<=100000000:=hl
 rw[kH] at hl'
 simp[gY,gQ,h2]
 refine⟨fun h1=> ⟨hc p (by rw[kH,if_pos h1];simp),fun v=> qG (dZ p) (by simp[sO,h1]) rfl⟩,fun hne _=> ?_⟩
 rw[if_neg hne] at hl'
 refine aA (X:=Value×List Pat) [16] [] p.kids.length (fun k x=> x.2= [] ++ (p.kids.take k).flatMap dZ) (fun x=> [(1, .own 1 x.1)]) (fun x=> [(1, .row x.1 aq 13 (x.2.map enc))]) (.slice none 0 0, []) (by simp) (by simp) (by omega) (by simp) (by simp) (by simp) (by simp) (by simp[isNilRow]) ?_ ?_
 ·rintro k ⟨v,m⟩ hkl hm
  simp only at hm
  obtain⟨x,hx⟩:=FU hkl
  have hx1:=xf hx
  obtain⟨_,hgx⟩:=List.getElem?_eq_some_iff.1 hx
  have q1:=SL hx hl' (hc.kid hne hx1)
  rw[<-hm] at q1
  simp[h1,hkl,hx,hgx,q1]
  intro v'
  refine .inl ?_
  rw[hm,SM _ hx]
  rfl
 ·rintro⟨v,m⟩ hm
  simp only at hm
  rw[List.take_length] at hm
  simp
  refine qG m (by simp) ?_
  rw[hm,sO,if_neg hne]
  rfl
abbrev s_leavesQ:Spc:=qbj QU i_leavesQA
def tf (out:List B) (x:B):List B:=if x=E0 then out else UE out x
mutual
def di:Pat->List B->List B
 | .mk op c l r mn mx ks,out=> ER ks (tf out l)
def ER:List Pat->List B->List B
 | [],out=> out
 | k::ks,out=> ER ks (di k out)
end
theorem Ch: ∀ (l:List Pat) (out:List B),ER l out=l.foldl (fun o k=> di k o) out
 | [],out=> by rw[ER];rfl
 | k::l,out=> by rw[ER,Ch l];rfl
theorem ES (p:Pat) (out:List B):di p out=p.kids.foldl (fun o k=> di k o) (tf out p.lab):=by
 cases p;rw[di,Ch]
theorem FY (out:List B) (x:B): (tf out x).length<=out.length+1:=by
 unfold tf UE
 split
 ·omega
 ·split
  ·omega
  ·simp
theorem QB (p:Pat): ∀out,(di p out).length<=out.length+rJ p:=by
 induction p using vo with | _ p ih=> ?_
 intro out
 rw[ES,Dh]
 have: ∀ (ks:List Pat) (o:List B),(∀k∈ks,k∈p.kids)->(ks.foldl (fun o k=> di k o) o).length<=o.length+gS ks:=by
  intro ks
  induction ks with
  | nil=> intro o _;simp[gS]
  | cons k ks ihk=>
    intro o hk
    rw[List.foldl_cons,gS]
    have h1:=ihk (di k o) fun z hz=> hk z (by simp[hz])
    have:=ih k (hk k (by simp)) o
    omega
 have h1:=this p.kids (tf out p.lab) fun _ h=> h
 have h2:=FY out p.lab
 omega
theorem HC (ks:List Pat) (k:Nat) (lb:List B): ((ks.take k).foldl (fun o k=> di k o) lb).length<=lb.length+gS (ks.take k):=by
 generalize ks.take k=l
 induction l generalizing lb with
 | nil=> simp[gS]
 | cons a l ih=>
   rw[List.foldl_cons,gS]
   have h1:=ih (di a lb)
   have h2:=QB a lb
   omega
def Tg (l:List B) (x:B):Bool:=l.any fun z=> decide (z=x)
theorem Fi {l:List B} {x:B} :Tg l x=true↔x∈l:=by
 unfold Tg
 rw[List.any_eq_true]
 exact⟨fun⟨z,h1,h2⟩=> by rw[decide_eq_true_eq] at h2;rwa [<-h2],fun h=> ⟨x,h,decide_eq_true rfl⟩⟩
abbrev s_hasE:Spc:=cC (aE (List B) (a1 B)) (fun _=> True) (enc (X:=Bool)) fun x y=> y=Tg x.1 x.2
abbrev qct:Spc:=qfq (Y:=B) (a1 B) (fun _=> True) (enc (X:=Bool)) (fun x y=> y=Tg x.1 x.2) aL 1
theorem ww (h1:S aF=sr):aV cB cy S (aE (List B) (a1 B)) (fun _=> True) (enc (X:=Bool)) fun x y=> y=Tg x.1 x.2:=by
 rintro⟨l,x⟩ -
 simp[cB,cy,h1]
 exact qD _ l
abbrev s_has2:Spc:=qbj s_hasE qct
def Ri (x:Pat) (l:List B):Prop:=l.length+rJ x<=1000000
def qcF (x:Pat) (l r:List B):Prop:=r=di x l
abbrev Fh (n:Nat):Spc:=qae (X:=Pat) (Y:=B) (fun x l=> fN x<=n/\Ri x l) qcF aL 1
abbrev i_labelsA:Spc:=qae (X:=Pat) (Y:=B) Ri qcF aL 1
theorem Dy (n:Nat) (h0:S aw=s_has2) (h1:S aU=Fh n):N6 (X:=Pat) (Y:=B) gZ gR S (fun x l=> fN x<=n+1/\Ri x l) qcF aL 1:=by
 rintro v lb p ⟨hd,hl⟩
 have hk: ∀k∈p.kids,fN k<=n:=fun k h=> by have:=jM h;have:fN p<=n+1:=hd;omega
 have hl:lb.length+rJ p<=1000000:=hl
 have hpn:=Dh p
 simp[gZ,gR,h0]
 refine qO (X:=Value) [2] [] (fun _=> True) (fun v=> [(1, .own 1 v)]) (fun v=> [(1, .row v aL 1 ((tf lb p.lab).map enc))]) ?_ ?_
 ·simp[h0, -Bool.forall_bool]
  refine⟨fun hn=> ?_,fun he=> ?_⟩
  ·have hn: ¬p.lab=E0:=hn
   refine .inr ⟨fun hf=> ⟨by omega,by omega,fun v=> .inl ?_⟩,fun ht=> .inl ?_⟩
   ·rw[tf,if_neg hn,UE,if_neg (fun h=> by rw[Fi.2 h] at hf;cases hf)]
    simp
   ·rw[tf,if_neg hn,UE,if_pos (Fi.1 ht)]
  ·have he:p.lab=E0:=he
   refine .inl ?_
   rw[tf,if_pos he]
 ·rintro v -
  have hae:=FY lb p.lab
  simp
  intro hkl
  refine aA (X:=Value×List B) [23] [] p.kids.length (fun k x=> x.2=(p.kids.take k).foldl (fun o k=> di k o) (tf lb p.lab)) (fun x=> [(1, .own 1 x.1)]) (fun x=> [(1, .row x.1 aL 1 (x.2.map enc))]) (v,tf lb p.lab) (by simp) (by simp) (by omega) (by simp) (by simp) (by simp) (by simp) (by simp) ?_ ?_
  ·rintro k ⟨v,ls⟩ hkk hls
   simp only at hls
   obtain⟨x,hx⟩:=FU hkk
   obtain⟨_,hgx⟩:=List.getElem?_eq_some_iff.1 hx
   have hq:Ri x ls:=by
    have h2:=HC p.kids k (tf lb p.lab)
    rw[<-hls] at h2
    have h4:gS (p.kids.take k) +gS (p.kids.drop k)=gS p.kids:=by rw[<-Hs,List.take_append_drop]
    rw[lX hx,gS] at h4
    show ls.length+rJ x<=_
    omega
   have hq2:=hk x (xf hx)
   simp[hkk,hx,hgx,h1,hq,hq2]
   intro v' l' hy
   obtain rfl:l'=di x ls:=hy
   refine .inl ?_
   rw[cU hx,List.foldl_append,<-hls]
   rfl
  ·rintro⟨v,ls⟩ hls
   simp only at hls
   rw[List.take_length] at hls
   simp
   refine qG ls (by simp) ?_
   show ls=di p lb
   rw[ES,hls]
abbrev TB:Spc:=qbO (Y:=B) (aE Pat (aD a0)) (fun x=> x.2.1= .v (.slice none 0 0)/\Ri x.1 []) (fun x r=> qcF x.1 [] r) aL 1
theorem Ct (h0:S aw=s_has2) (h1:S aU=i_labelsA):Pj (Y:=B) gZ gR S (aE Pat (aD a0)) (fun x=> x.2.1= .v (.slice none 0 0)/\Ri x.1 []) (fun x r=> qcF x.1 [] r) aL 1:=by
 rintro⟨p,d,⟨⟩⟩ ⟨hd,hl⟩
 have hd:d= .v (.slice none 0 0):=hd
 subst hd
 have hl:0+rJ p<=1000000:=hl
 have hpn:=Dh p
 simp[gZ,gR,h0]
 refine qO (X:=Value) [2] [] (fun _=> True) (fun v=> [(1, .own 21 v)]) (fun v=> [(21, .row v aL 1 ((tf [] p.lab).map enc))]) ?_ ?_
 ·simp[h0, -Bool.forall_bool]
  refine⟨fun hn=> ?_,fun he=> ?_⟩
  ·have hn: ¬p.lab=E0:=hn
   refine .inl ⟨fun hf v=> .inl ?_,fun ht=> absurd (Fi.1 ht) (by simp)⟩
   rw[tf,if_neg hn,UE,if_neg (by simp)]
   simp
  ·have he:p.lab=E0:=he
   rw[tf,if_pos he]
   simp[isNilRow]
 ·rintro v -
  have hae:=FY [] p.lab
  simp
  intro hkl
  refine aA (X:=Value×List B) [23] [] p.kids.length (fun k x=> x.2=(p.kids.take k).foldl (fun o k=> di k o) (tf [] p.lab)) (fun x=> [(1, .own 21 x.1)]) (fun x=> [(21, .row x.1 aL 1 (x.2.map enc))]) (v,tf [] p.lab) (by simp) (by simp) (by omega) (by simp) (by simp) (by simp) (by simp) (by simp) ?_ ?_
  ·rintro k ⟨v,ls⟩ hkk hls
   simp only at hls
   obtain⟨x,hx⟩:=FU hkk
   obtain⟨_,hgx⟩:=List.getElem?_eq_some_iff.1 hx
   have hq:Ri x ls:=by
    have h2:=HC p.kids k (tf [] p.lab)
    rw[<-hls] at h2
    have hae2: (tf [] p.lab).length<=0+1:=hae
    have h4:gS (p.kids.take k) +gS (p.kids.drop k)=gS p.kids:=by rw[<-Hs,List.take_append_drop]
    rw[lX hx,gS] at h4
    show ls.length+rJ x<=_
    omega
   simp[hkk,hx,hgx,h1,hq]
   intro v' l' hy
   obtain rfl:l'=di x ls:=hy
   refine .inl ?_
   rw[cU hx,List.foldl_append,<-hls]
   rfl
  ·rintro⟨v,ls⟩ hls
   simp only at hls
   rw[List.take_length] at hls
   simp
   refine qG ls (by simp) ?_
   show ls=di p []
   rw[ES,hls]
abbrev s_qlabels:Spc:=qbj TB i_labelsA
abbrev pd:Spc:=cC (a1 Pat) (fun x=> Ri x []) (enc (X:=List B)) fun x y=> y=if rH eb x then di x [] else[]
theorem DA (h1:S jT=nI) (h2:S aU=s_qlabels):aV nX nO S (a1 Pat) (fun x=> Ri x []) (enc (X:=List B)) fun x y=> y=if rH eb x then di x [] else[]:=by
 rintro p hp
 simp[nX,nO,h1,h2, -Bool.forall_bool]
 clear h1 h2
 exact⟨fun h=> eR [] (by simp) (by rw[h];rfl),fun h=> .inl ⟨hp,fun v l hl=> eR l (xI aL (by simp)) (by rw[h];exact hl)⟩⟩
end Go.Gv

namespace Go.Gv
open Go.Proofs
theorem IZ {T R:St3->St3->Prop} (h0: ∀s,T s s) (h1: ∀s t u,T s t->T t u->T s u) (hR: ∀s t,R s t->T s t): ∀ {n:Nat} {s t:St3},Pow R n s t->T s t
 | 0,s,t,h=> by cases h;exact h0 s
 | n+1,s,t,⟨u,a,b⟩=> h1 _ _ _ (hR _ _ a) (IZ h0 h1 hR b)
section
variable {T:St3->St3->Prop} (h0: ∀s,T s s) (h1: ∀s t u,T s t->T t u->T s u) (r:Rn)
include h0 h1
mutual
theorem Dq: ∀p:Pat,mD (fun q=> q.op=1-> ∀s,T s (A6 r q s)) p-> ∀s t,ld r p s t->T s t
 | .mk op cond lab reg mn mx ks,h,s,t,hD=> by
   have hs:=kW h
   have hk: ∀k∈ks,mD (fun q=> q.op=1-> ∀s,T s (A6 r q s)) k:=fun k hk=> pC h hk
   rw[ld] at hD
   split at hD
   ·rename_i e
    rw[hD.2.2]
    exact hs e s
   ·split at hD
    ·rw[hD.2];exact h0 s
    ·split at hD
     ·exact Lz ks hk s t hD
     ·split at hD
      ·exact LA ks hk s t hD
      ·exact TP ks mn mx hk s t hD
theorem Lz: ∀ks:List Pat,(∀k∈ks,mD (fun q=> q.op=1-> ∀s,T s (A6 r q s)) k)-> ∀s t,rp r ks s t->T s t
 | [],_,s,t,h=> by rw[rU] at h;rw[<-h];exact h0 s
 | k::ks,hk,s,t,h=> by
   rw[rV] at h
   obtain⟨u,a,b⟩:=h
   exact h1 _ _ _ (Dq k (hk k (by simp)) s u a) (Lz ks (fun q hq=> hk q (by simp[hq])) u t b)
theorem LA: ∀ks:List Pat,(∀k∈ks,mD (fun q=> q.op=1-> ∀s,T s (A6 r q s)) k)-> ∀s t,rq r ks s t->T s t
 | [],_,s,t,h=> by rw[FF] at h;exact h.elim
 | k::ks,hk,s,t,h=> by
   rw[vv] at h
   rcases h with h | h
   ·exact Dq k (hk k (by simp)) s t h
   ·exact LA ks (fun q hq=> hk q (by simp[hq])) s t h
theorem TP: ∀ (ks:List Pat) (mn mx:Int),(∀k∈ks,mD (fun q=> q.op=1-> ∀s,T s (A6 r q s)) k)-> ∀s t,Aj r ks mn mx s t->T s t
 | [],_,_,_,s,t,h=> by rw[Aj] at h;exact h.elim
 | k::ks,mn,mx,hk,s,t,h=> by
   rw[Aj] at h
   obtain⟨u,a,n,_,b⟩:=h
   have hT:=Dq k (hk k (by simp))
   exact h1 _ _ _ (IZ h0 h1 hT a) (IZ h0 h1 (fun s t q=> hT s t q.1) b)
end
end
def Fx (n:Nat) (s t:St3):Prop:= ∀i,n<=i->i < 3->t.get i=s.get i
theorem NH (s:St3) (i j:Nat) (x:Int) (hi:i < 3) (hj:j < 3) (h:i≠j): (s.set i x).get j=s.get j:=by
 rcases i with _ | _ | _ | i <;> rcases j with _ | _ | _ | j <;> first | rfl | omega
theorem Tp {r:Rn} {p:Pat} (hl:r.lb.length<=3) (h:mD (fun q=> q.lab≠oj->pH r.lb q.lab=true) p) {s t:St3} (hD:ld r p s t):Fx r.lb.length s t:=by
 refine Dq (T:=Fx r.lb.length) (fun s i _ _=> rfl) (fun s t u a b i hi h3=> (b i hi h3).trans (a i hi h3)) r p (rI h fun q hq _ s i hi h3=> ?_) s t hD
 unfold A6
 dsimp only
 split
 ·rcases i with _ | _ | i <;> rfl
 ·rename_i hne
  have hin:=hq hne
  have h4:=zO (fun z=> decide (z=q.lab)) r.lb
  have h5:decide (0<=gT r.lb fun z=> decide (z=q.lab))=true:=(qD _ _).trans hin
  have h6:=of_decide_eq_true h5
  have: ((s.set (gT r.lb fun z=> decide (z=q.lab)).toNat (s.p+1)).get i)=s.get i:=NH _ _ _ _ (by omega) h3 (by omega)
  rcases i with _ | _ | i <;> exact this
theorem Pg (r:Rn) (s:St3) {i:Nat} (hi:i < r.lb.length): (Mh r s)[i]?=some (s.get i -1):=by
 unfold Mh
 rw[List.getElem?_map,List.getElem?_range hi];rfl
theorem RK {s t:St3} (h:s.p=t.p) (hg: ∀i,i < 3->s.get i=t.get i):s=t:=by
 obtain⟨a,b,c,d⟩:=s
 obtain⟨a',b',c',d'⟩:=t
 have e0:=hg 0 (by decide)
 have e1:=hg 1 (by decide)
 have e2:=hg 2 (by decide)
 simp only[St3.get] at e0 e1 e2 h
 rw[h,e0,e1,e2]
theorem WY {r:Rn} {p:Pat} (hl:r.lb.length<=3) (h:mD (fun q=> q.lab≠oj->pH r.lb q.lab=true) p) {s t u:St3} (h1:ld r p s t) (h2:ld r p s u) (e1:t.p=u.p) (e2:Mh r t=Mh r u):t=u:=by
 refine RK e1 fun i hi=> ?_
 by_cases hn:i < r.lb.length
 ·have a:=Pg r t hn
  have b:=Pg r u hn
  rw[e2,b] at a
  have:=Option.some.inj a
  omega
 ·rw[Tp hl h h1 i (by omega) hi,Tp hl h h2 i (by omega) hi]
theorem VR {m:Nat} {s:St3} (h:Mc m s):Qg (m+1) s < (m+1) * (m+1) * (m+1) * (m+1):=by
 obtain⟨h1,h2,h3⟩:=h
 have a:=h3 0
 have b:=h3 1
 have c:=h3 2
 simp only[St3.get] at a b c
 unfold Qg
 have p1:s.p.toNat<=m:=by omega
 have p2:s.b0.toNat<=m:=by omega
 have p3:s.b1.toNat<=m:=by omega
 have p4:s.b2.toNat<=m:=by omega
 generalize s.p.toNat=x at*
 generalize s.b0.toNat=y at*
 generalize s.b1.toNat=z at*
 generalize s.b2.toNat=w at*
 have q1:x* (m+1) +y < (m+1) * (m+1):=by
  have:=Nat.mul_le_mul_right (m+1) p1
  rw[Nat.succ_mul m (m+1)];omega
 have q2: (x* (m+1) +y) * (m+1) +z < (m+1) * (m+1) * (m+1):=by
  have:=Nat.mul_le_mul_right (m+1) (Nat.succ_le_of_lt q1)
  rw[Nat.succ_mul] at this;omega
 have:=Nat.mul_le_mul_right (m+1) (Nat.succ_le_of_lt q2)
 rw[Nat.succ_mul] at this
 omega
theorem NU {m a b c d:Nat} (hb:b < m) (hd:d < m) (h:a*m+b=c*m+d):a=c/\b=d:=by
 have h1: (a*m+b) /m=a:=by rw[Nat.mul_comm,Nat.mul_add_div (by omega),Nat.div_eq_of_lt hb];omega
 have h2: (c*m+d) /m=c:=by rw[Nat.mul_comm,Nat.mul_add_div (by omega),Nat.div_eq_of_lt hd];omega
 rw[h] at h1
 have e:a=c:=h1.symm.trans h2
 subst e
 exact⟨rfl,by omega⟩
theorem Sz {m:Nat} {s t:St3} (hs:Mc m s) (ht:Mc m t) (h:Qg (m+1) s=Qg (m+1) t):s=t:=by
 obtain⟨h1,h2,h3⟩:=hs
 obtain⟨k1,k2,k3⟩:=ht
 have a0:=h3 0;have a1:=h3 1;have a2:=h3 2
 have b0:=k3 0;have b1:=k3 1;have b2:=k3 2
 simp only[St3.get] at a0 a1 a2 b0 b1 b2
 unfold Qg at h
 obtain⟨h,e1⟩:=NU (by omega) (by omega) h
 obtain⟨h,e2⟩:=NU (by omega) (by omega) h
 obtain⟨e4,e3⟩:=NU (by omega) (by omega) h
 refine RK (by omega) fun i hi=> ?_
 rcases i with _ | _ | _ | i
 ·show s.b0=t.b0;omega
 ·show s.b1=t.b1;omega
 ·show s.b2=t.b2;omega
 ·omega
theorem MF {m:Int} (hm:m<=170) {l:List St3} (hn:l.Nodup) (h: ∀s∈l,Mc m s):l.length<=1000000000:=by
 by_cases h0:0<=m
 ·obtain⟨k,rfl⟩: ∃k:Nat,m=(k:Int):=⟨m.toNat,by omega⟩
  have h1:=Qj (f:=Qg (k+1)) hn (fun x hx=> VR (h x hx)) fun x hx y hy e=> Sz (h x hx) (h y hy) e
  have h2: (k+1) * (k+1)<=171*171:=Nat.mul_le_mul (by omega) (by omega)
  have h3:=Nat.mul_le_mul h2 (show k+1<=171 by omega)
  have h4:=Nat.mul_le_mul h3 (show k+1<=171 by omega)
  omega
 ·cases l with
  | nil=> exact Nat.zero_le _
  | cons s l=> have:=(h s (by simp));have a:=this.1;have b:=this.2.1;omega
end Go.Gv
