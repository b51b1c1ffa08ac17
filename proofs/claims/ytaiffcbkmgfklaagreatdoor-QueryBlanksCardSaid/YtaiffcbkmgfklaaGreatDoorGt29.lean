/- A part of the framework and of the walks: W32 W36 W37 W60 W83 W77. -/
import Derived.Test.YtaiffcbkmgfklaaGreatDoorGt23
import Derived.Test.YtaiffcbkmgfklaaGreatDoorGt27
import Derived.Test.YtaiffcbkmgfklaaGreatDoorGt28
import Derived.Test.YtaiffcbkmgfklaaGreatDoorGt20
import Derived.Test.YtaiffcbkmgfklaaGreatDoorGt25
import Derived.Test.YtaiffcbkmgfklaaGreatDoorGt24
set_option linter.unusedSimpArgs false
set_option linter.unusedVariables false
set_option maxRecDepth 100000

namespace Go.Gv
open Cod (enc dec)
variable {S S0:Nat→Spc}
abbrev LZ:Spc:=dt (a1 Cond) (fun _=> True) (enc (X:=Bool)) fun x y=> (y=true↔x=Cond0)
theorem Ht:Walk qb pQ S (a1 Cond) (fun _=> True) (enc (X:=Bool)) fun x y=> (y=true↔x=Cond0):=by
 rintro⟨op,n,a,v,l,f,ks⟩ -
 simp[qb,pQ,Cond0]
 repeat' first | apply And.intro | intro _
 all_goals simp_all
abbrev HW:Spc:=dt (a1 Pat) (fun _=> True) (enc (X:=Bool)) fun x y=> y=lG x
theorem Hw (h1:S lj=LZ):Walk qe pT S (a1 Pat) (fun _=> True) (enc (X:=Bool)) fun x y=> y=lG x:=by
 rintro p -
 simp[qe,pT,h1, -Bool.forall_bool]
 clear h1
 repeat' first | apply And.intro | intro _
 all_goals (rw[Bool.eq_iff_iff,zY];unfold AB;simp_all;try omega)
abbrev BR:Spc:=dt (a1 Pat) (fun _=> True) (enc (X:=Bool)) fun x y=> y=yi eo x
theorem Fw (h1:S dW=CQ):Walk oJ nQ S (a1 Pat) (fun _=> True) (enc (X:=Bool)) fun x y=> y=yi eo x:=by
 rintro p -
 simp[oJ,nQ,h1,yi, -Bool.forall_bool]
 clear h1
 repeat' first | apply And.intro | intro _
 all_goals (first | omega | simp_all;try omega)
abbrev xM:Spc:=dt (a1 Pat) (fun _=> True) (enc (X:=Bool)) fun x y=> y=zX x
theorem Ci:Walk m5 mQ S (a1 Pat) (fun _=> True) (enc (X:=Bool)) fun x y=> y=zX x:=by
 rintro p -
 simp[m5,mQ,zX]
 repeat' first | apply And.intro | intro _
 all_goals (first | omega | (rw[Bool.eq_iff_iff];simp;omega))
end Go.Gv

namespace Go.Gv
open Cod (enc dec)
variable {S S0:Nat→Spc}
theorem Hu (n:Nat) (h1:S eM=L3 n):Walk qc pR S (a1 Pat) (PPat (n+1)) (enc (X:=Int)) fun x y=> y=kM x:=by
 rintro p hp
 have hk: ∀k∈p.kids,PPat n k:=fun k=> hp.kid
 have hs: ∀k∈p.kids,0≤kM k∧kM k≤1000:=fun k h=> OJ (v:=eo) k (hk k h).2
 simp[qc,pR]
 intro _
 refine aJ (X:=Int) [1,7] [] p.kids.length (fun k n=> n=gR (p.kids.take k) 0) (fun n=> [(3,enc n)]) (fun _=> []) 0 (by simp) (by simp) (by omega) (by simp) (by simp) (by simp[gR]) (by simp) (by simp) ?_ ?_
 ·rintro k m hkl hP
  obtain⟨x,hx⟩:=cV hkl
  have hx1:=cn hx
  obtain⟨_,hgx⟩:=List.getElem?_eq_some_iff.1 hx
  have hm:=rc (p.kids.take k) 0 (by omega) (by omega) (fun y hy=> (hs y (List.mem_of_mem_take hy)).1)
  have h2:=hs x hx1
  rw[←hP] at hm
  have q1:=hk x hx1
  simp[h1,hkl,hx,hgx,q1]
  refine⟨by simp only[InR];omega,?_⟩
  rw[cp hx,LV,←hP,gR,gR]
 ·rintro m hP
  have hm:=rc (p.kids.take p.kids.length) 0 (by omega) (by omega) (fun y hy=> (hs y (List.mem_of_mem_take hy)).1)
  rw[←hP] at hm
  rw[List.take_length] at hP
  have hn:=(GH hp.2).2.2
  unfold zX at hn
  rw[decide_eq_true_eq] at hn
  rw[qr,AG,←hP]
  simp
  intro _
  refine⟨fun h=> fun h'=> absurd h h',fun h0=> ⟨fun h6=> ?_,fun h6=> by rw[if_neg h0,if_neg h6]⟩⟩
  rw[if_neg h0,if_pos h6]
  have hn:=hn h6
  refine⟨fun e=> by rw[if_neg (by omega),if_pos e],fun e=> ⟨fun e2=> ?_,fun e2=> ?_⟩⟩
  ·have h2:=NA hm.1 hm.2 (show 0≤p.mn+1 by omega) (show p.mn+1≤17 by omega)
   rw[if_pos (by omega)]
   exact⟨by simp only[InR];omega,by simp only[InR];omega,rfl⟩
  ·have h2:=NA hm.1 hm.2 (show 0≤p.mx by omega) (show p.mx≤16 by omega)
   rw[if_neg (by omega),if_neg e]
   exact⟨by simp only[InR];omega,rfl⟩
theorem Hx (h1:S jS=mM) (h2:S eM=HP):Walk qf pU S (a1 Pat) (fun _=> True) (enc (X:=Int)) fun x y=> y=if qE eo x then kM x else 0:=by
 rintro p -
 simp[qf,pU,h1,h2, -Bool.forall_bool]
 exact⟨fun h1 h2=> absurd (h1.symm.trans h2) (by simp),fun h1=> ⟨h1,fun h2=> absurd (h2.symm.trans h1) (by simp)⟩⟩
end Go.Gv

namespace Go.Gv
open Cod (enc dec)
variable {S S0:Nat→Spc}
def FunOn {X Y:Type} [Cod X] [Cod Y] (S:Nat→Spc) (d:D) (l:List X) (p:X→Y):Prop:=
 ∃g caps pc,d= .clo g caps∧S g= .pure pc∧ ∀x∈l,pc.pre (enc x::caps)∧ ∀r,pc.post (enc x::caps) r→r=enc (p x)
theorem FunOn.useB {X:Type} [Cod X] {S:Nat→Spc} {d:D} {l:List X} {p:X→Bool} (h:FunOn S d l p) (x:X) (hx:x∈l) {d':Nat} {H:aa} {K:D→aa→Prop} (hk: ∀y:Bool,(∀q,FunOn S d l q→y=q x)→K (.v (.bool y)) H):yG S d d' [enc x] H K:=by
 obtain⟨g,caps,pc,rfl,h1,h2⟩:=h
 simp only[yG,h1,Spc.pt]
 refine⟨(h2 x hx).1,fun r hr=> ?_⟩
 have e:=(h2 x hx).2 r hr
 rw[e]
 refine hk (p x) fun q hq=> ?_
 obtain⟨g',caps',pc',e',k1,k2⟩:=hq
 cases e'
 rw[h1] at k1
 cases k1
 exact pE (e.symm.trans ((k2 x hx).2 r hr))
theorem FunIs.on {X Y:Type} [Cod X] [Cod Y] {S:Nat→Spc} {d:D} {p:X→Y} (h:FunIs S d p) (l:List X):FunOn S d l p:=by
 obtain⟨g,caps,pc,h1,h2,h3⟩:=h
 exact⟨g,caps,pc,h1,h2,fun x _=> h3 x⟩
theorem GZ {X Y:Type} [Cod X] [Cod Y] {S:Nat→Spc} {g:Nat} {c:D} {l:List X} {pre:X×D×Unit→Prop} {post:X×D×Unit→Y→Prop} {p:X→Y} (h:S g=dt (aE X (aD a0)) pre enc post) (hp: ∀x∈l,pre (x,c,())) (hq: ∀x∈l,∀y,post (x,c,()) y→y=p x):FunOn S (.clo g [c]) l p:=by
 refine⟨g, [c],_,rfl,h,fun x hx=> ⟨⟨(x,c,()),by simp,hp x hx⟩,fun r hr=> ?_⟩⟩
 obtain⟨y,rfl,hy⟩:=hr (x,c,()) (by simp) (hp x hx)
 rw[hq x hx y hy]
theorem Nw (x:Pat):D.agg [D.v (Value.int IntKind.i64 x.op),D.v (Value.int IntKind.i64 x.cond.op),D.v (Value.string x.cond.name),D.v (Value.string x.cond.arg),D.v (Value.string x.cond.val),D.v (Value.string x.cond.lab),D.v (Value.bool x.cond.fold),D.list 7 (List.map enc x.cond.kids),D.v (Value.string x.lab),D.v (Value.string x.reg),D.v (Value.int IntKind.i64 x.mn),D.v (Value.int IntKind.i64 x.mx),D.list 13 (List.map enc x.kids)]=enc x:=by simp
def I8 (S0:Nat→Spc) (x:List Pat×D×Unit):Prop:= ∃p:Pat→Bool,FunOn S0 x.2.1 x.1 p
def Tn (S0:Nat→Spc) (x:List Pat×D×Unit) (y:Int):Prop:= ∀p:Pat→Bool,FunOn S0 x.2.1 x.1 p→y=uL x.1 p
abbrev Q8 (S0:Nat→Spc):Spc:=dt (aE (List Pat) (aD a0)) (I8 S0) enc (Tn S0)
theorem nF:Walk eO eI S (aE (List Pat) (aD a0)) (I8 S) enc (Tn S):=by
 rintro⟨l,d,⟨⟩⟩ ⟨p,hp⟩
 simp at hp
 simp[eO,eI]
 intro _
 refine aJ (X:=Unit) [0,1] [] l.length (fun k _=> ∀p:Pat→Bool,FunOn S d l p→ ∀x∈l.take k,p x=false) (fun _=> []) (fun _=> []) () (by simp) (by simp) (by omega) (by simp) (by simp) (by simp) (by simp) (by simp) ?_ ?_
 ·intro k _ hk hP
  simp
  refine⟨hk,fun x hx=> ?_⟩
  rw[Nw x]
  refine hp.useB x (cn hx) fun y hy=> ?_
  simp
  refine⟨fun h=> ?_,fun h p' hp'=> ?_⟩
  ·intro p' hp'
   exact(IG hx (by rw[←hy p' hp',h]) (hP p' hp')).symm
  ·rw[cp hx]
   intro z hz
   rcases List.mem_append.1 hz with hz | hz
   ·exact hP p' hp' z hz
   ·simp at hz;subst hz;rw[←hy p' hp',h]
 ·intro _ hP
  simp
  intro p' hp'
  exact(Ad (by simpa using hP p' hp')).symm
def To (S0:Nat→Spc) (x:List Pat×D×Unit) (y:Bool):Prop:= ∀p:Pat→Bool,FunOn S0 x.2.1 x.1 p→y=x.1.any p
abbrev wJ (S0:Nat→Spc):Spc:=dt (aE (List Pat) (aD a0)) (I8 S0) enc (To S0)
theorem mr (h1:S dz=Q8 S0):Walk dZ dQ S (aE (List Pat) (aD a0)) (I8 S0) enc (To S0):=by
 rintro⟨l,d,⟨⟩⟩ hp
 simp[dZ,dQ,h1, -Bool.forall_bool]
 refine⟨hp,fun y hy p' hp'=> ?_⟩
 rw[hy p' hp']
 exact NH p' l
abbrev zi (n:Nat):Spc:=dt (a2 Pat Int) (fun x=> eJ x.1≤n∧0≤x.2∧x.2≤101) (enc (X:=Bool)) fun x y=> y=cx x.1 x.2
def VS (n:Nat) (x:Pat×D×Unit):Prop:= ∃d:Int,x.2.1= .cptr [enc d] 0∧eJ x.1≤n∧0≤d∧d≤100
def Tl (x:Pat×D×Unit) (y:Bool):Prop:= ∀d:Int,x.2.1= .cptr [enc d] 0→y=!cx x.1 (d+1)
abbrev Q5 (n:Nat):Spc:=dt (aE Pat (aD a0)) (VS n) enc Tl
theorem xn (n:Nat) (h1:S db=zi n):Walk ki j3 S (aE Pat (aD a0)) (VS n) enc Tl:=by
 rintro⟨p,d,⟨⟩⟩ ⟨e,hd,h2,h3,h4⟩
 simp at hd h2
 subst hd
 simp[ki,j3,h1,Tl,h2, -Bool.forall_bool]
 exact⟨by simp only[InR];omega,by omega⟩
theorem A8 (n:Nat) (h0:S0 ek=Q5 n) (h1:S aI=wJ S0):Walk l9 lQ S (a2 Pat Int) (fun x=> eJ x.1≤n+1∧0≤x.2∧x.2≤101) (enc (X:=Bool)) fun x y=> y=cx x.1 x.2:=by
 rintro⟨p,d⟩ ⟨hn,hd0,hd1⟩
 have hk: ∀k∈p.kids,eJ k≤n:=fun k hk=> by have:=k9 hk;have:eJ p≤n+1:=hn;omega
 simp only at hd0 hd1
 simp[l9,lQ,h1, -Bool.forall_bool]
 rw[kq]
 refine⟨fun h=> ?_,fun h=> by rw[decide_eq_false (by omega)];rfl⟩
 have hf:FunOn S0 (.clo ek [.cptr [.v (.int .i64 d)] 0]) p.kids fun x=> !cx x (d+1):=
  GZ h0 (fun x hx=> ⟨d,rfl,hk x hx,hd0,h⟩) (fun x _ y hy=> hy d rfl)
 refine⟨⟨_,hf⟩,fun y hy=> ?_⟩
 rw[hy _ hf,decide_eq_true h,Bool.true_and]
 simp[List.any_eq_not_all_not]
def VT (S0:Nat→Spc) (n:Nat) (x:Pat×D×Unit):Prop:= ∃ (d:D) (f:Pat→Bool),x.2.1= .cptr [d] 0∧FunIs S0 d f∧eJ x.1≤n
def Tm (S0:Nat→Spc) (x:Pat×D×Unit) (y:Bool):Prop:= ∀ (d:D) (f:Pat→Bool),x.2.1= .cptr [d] 0→FunIs S0 d f→y=!eN f x.1
abbrev HX (S0:Nat→Spc) (n:Nat):Spc:=dt (aE Pat (aD a0)) (fun x=> ∃f:Pat→Bool,FunIs S0 x.2.1 f∧eJ x.1≤n) enc fun x y=> ∀f:Pat→Bool,FunIs S0 x.2.1 f→y=eN f x.1
abbrev Q6 (S0:Nat→Spc) (n:Nat):Spc:=dt (aE Pat (aD a0)) (VT S0 n) enc (Tm S0)
theorem Ba (n:Nat) (h1:S cb=HX S0 n):Walk mb lR S (aE Pat (aD a0)) (VT S0 n) enc (Tm S0):=by
 rintro⟨p,d,⟨⟩⟩ ⟨e,f,hd,h2,h3⟩
 simp at hd h3
 subst hd
 simp[mb,lR,h1,Tm,h3, -Bool.forall_bool]
 exact⟨⟨f,h2⟩,fun y hy d g e hg=> by subst e;exact hy g hg⟩
theorem Fz {N:Nat→Spc} (n:Nat) (hN: ∀ (d:D) (f:Pat→Bool),FunIs N d f→FunIs S d f) (h0:S0 fA=Q6 N n) (h1:S aI=wJ S0):Walk oP nU S (aE Pat (aD a0)) (fun x=> ∃f:Pat→Bool,FunIs N x.2.1 f∧eJ x.1≤n+1) enc fun x y=> ∀f:Pat→Bool,FunIs N x.2.1 f→y=eN f x.1:=by
 rintro⟨p,d,⟨⟩⟩ ⟨f,hf,hn⟩
 have hk: ∀k∈p.kids,eJ k≤n:=fun k hk=> by have:=k9 hk;have:eJ p≤n+1:=hn;omega
 simp at hf
 have hd1:d.kn=true∧d.cells= [d]:=by obtain⟨g,caps,pc,rfl,_⟩:=hf;exact⟨rfl,rfl⟩
 simp[oP,nU,h1,hd1, -Bool.forall_bool]
 rw[Nw p]
 refine((hN d f hf).on [p]).useB p (by simp) fun y hy=> ?_
 have hy: ∀f,FunIs N d f→y=f p:=fun f hf=> hy f ((hN d f hf).on [p])
 simp[h1, -Bool.forall_bool]
 refine⟨fun ht=> ?_,fun hff g hg=> by rw[fC,←hy g hg,hff];rfl⟩
 have hO: ∀g,FunIs N d g→FunOn S0 (.clo fA [.cptr [d] 0]) p.kids fun x=> !eN g x:=fun g hg=>
  GZ h0 (fun x hx=> ⟨d,g,rfl,hg,hk x hx⟩) (fun x _ y hy=> hy d g rfl hg)
 refine⟨⟨_,hO f hf⟩,fun z hz g hg=> ?_⟩
 rw[hz _ (hO g hg),fC,←hy g hg,ht,Bool.true_and]
 simp[List.any_eq_not_all_not]
abbrev wA:Spc:=dt (a2 Pat Int) (fun x=> 0≤x.2∧x.2≤101) (enc (X:=Bool)) fun x y=> y=cx x.1 x.2
abbrev tJ (N:Nat→Spc):Spc:=dt (aE Pat (aD a0)) (fun x=> ∃f:Pat→Bool,FunIs N x.2.1 f) enc fun x y=> ∀f:Pat→Bool,FunIs N x.2.1 f→y=eN f x.1
abbrev xQ:Spc:=dt (a1 Pat) (fun _=> True) (enc (X:=Bool)) fun x y=> y=(cx x 1 && eN lG x)
theorem qN {X:Type} [Cod X] {S:Nat→Spc} {g:Nat} {pre:X→Prop} {p:X→Bool} (h:S g=dt (a1 X) pre enc fun x y=> y=p x) (hp: ∀x,pre x):FunIs S (.clo g []) p:=by
 refine⟨g, [],_,rfl,h,fun x=> ⟨⟨x,by simp,hp x⟩,fun r hr=> ?_⟩⟩
 obtain⟨y,rfl,hy⟩:=hr x (by simp) (hp x)
 rw[hy]
theorem FD {N:Nat→Spc} (h0:N gr=HW) (h1:S db=wA) (h2:S cb=tJ N):Walk oW nZ S (a1 Pat) (fun _=> True) (enc (X:=Bool)) fun x y=> y=(cx x 1 && eN lG x):=by
 rintro p -
 have f1:FunIs N (.clo gr []) lG:=qN h0 fun _=> trivial
 simp[oW,nZ,h1,h2, -Bool.forall_bool]
 refine⟨fun h=> ⟨⟨_,f1⟩,fun y hy=> by rw[hy _ f1,h];rfl⟩,fun h h'=> absurd (h.symm.trans h') (by simp)⟩
theorem Fv {N:Nat→Spc} (h0:N fT=BR) (h0':N ff=xM) (h1:S eU=xQ) (h2:S cb=tJ N):Walk oz nP S (a1 Pat) (fun _=> True) (enc (X:=Bool)) fun x y=> y=qE eo x:=by
 rintro p -
 have f1:FunIs N (.clo fT []) (yi eo):=qN h0 fun _=> trivial
 have f2:FunIs N (.clo ff []) zX:=qN h0' fun _=> trivial
 simp[oz,nP,h1,h2, -Bool.forall_bool]
 unfold qE
 refine⟨fun h1 h2=> ⟨⟨_,f1⟩,fun y hy=> ?_⟩,fun h=> ?_⟩
 ·have hy:=hy _ f1
  refine⟨fun ht=> ⟨⟨_,f2⟩,fun z hz=> ?_⟩,fun hf=> ?_⟩
  ·rw[hz _ f2,h1,h2,←hy,ht];rfl
  ·rw[←hy,hf];simp
 ·rcases hs:cx p 1
  ·rfl
  ·rw[h hs];rfl
end Go.Gv

namespace Go.Gv
open Cod (enc dec)
variable {S S0:Nat→Spc}
abbrev nI:Spc:=dt (a1 U8) (fun _=> True) (enc (X:=Bool)) fun x y=> y=yl x
theorem Ck:Walk m7 mS S (a1 U8) (fun _=> True) (enc (X:=Bool)) fun x y=> y=yl x:=by
 rintro⟨c⟩ -
 simp[m7,mS,yl,yK]
 repeat' first | apply And.intro | intro _
 all_goals first | omega | (rw[Bool.eq_iff_iff];simp;omega)
abbrev lK:Spc:=dt (a1 U8) (fun _=> True) (enc (X:=Bool)) fun x y=> y=lr x
theorem FA:Walk oQ nV S (a1 U8) (fun _=> True) (enc (X:=Bool)) fun x y=> y=lr x:=by
 rintro⟨c⟩ -
 simp[oQ,nV,lr]
 repeat' first | apply And.intro | intro _
 all_goals first | omega | (rw[Bool.eq_iff_iff];simp;omega)
abbrev zo:Spc:=dt (a1 U8) (fun _=> True) (enc (X:=Bool)) fun x y=> y=Bj x
theorem Fy:Walk oM nS S (a1 U8) (fun _=> True) (enc (X:=Bool)) fun x y=> y=Bj x:=by
 rintro⟨c⟩ -
 simp[oM,nS,Bj]
 repeat' first | apply And.intro | intro _
 all_goals first | omega | (rw[Bool.eq_iff_iff];simp;omega)
abbrev CV:Spc:=dt (a1 U8) (fun _=> True) (enc (X:=Bool)) fun x y=> y=vQ x
theorem Fx (h1:S eg=nI) (h2:S bR=lK):Walk oL nR S (a1 U8) (fun _=> True) (enc (X:=Bool)) fun x y=> y=vQ x:=by
 rintro⟨c⟩ -
 simp[oL,nR,h1,h2,vQ, -Bool.forall_bool]
 rcases yl ⟨c⟩ <;> rcases lr ⟨c⟩ <;> simp
def Lp (S0:Nat→Spc) (x:B×Int×D×Unit):Prop:=(∃p:U8→Bool,FunIs S0 x.2.2.1 p)∧0≤x.2.1∧x.2.1≤x.1.size
def Oc (S0:Nat→Spc) (x:B×Int×D×Unit) (y:Int):Prop:= ∀p:U8→Bool,FunIs S0 x.2.2.1 p→y=gS p x.1 x.2.1.toNat
abbrev HV (S0:Nat→Spc):Spc:=dt (aE B (aE Int (aD a0))) (Lp S0) enc (Oc S0)
theorem Jr:Walk sf rz S (aE B (aE Int (aD a0))) (Lp S) enc (Oc S):=by
 rintro⟨s,i,d,⟨⟩⟩ ⟨⟨p,hp⟩,h0,h1⟩
 simp only at hp h0 h1
 simp[sf,rz]
 refine gB (X:=Nat) [0,2] [] (fun k=> k≤s.size∧ ∀q:U8→Bool,FunIs S d q→gS q s k=gS q s i.toNat) (fun k=> [(1,enc (k:Int))]) (fun _=> []) (fun k=> s.size -k) i.toNat ⟨by omega,fun _ _=> rfl⟩ (by simp;omega) (by simp) ?_
 rintro k ⟨hk,hq⟩
 simp
 refine fun hsz=> ⟨fun hlt=> ⟨hlt,fun c hc=> ?_⟩,fun hge q hf=> ?_⟩
 ·refine hp.useB (⟨c.toNat⟩:U8) fun y hy=> ?_
  simp
  refine⟨fun hb=> ⟨by simp only[InR];omega,k+1,⟨by omega,fun q hf=> ?_⟩,by omega,by omega⟩,fun hb q hf=> ?_⟩
  ·rw[←hq q hf,qA hc,if_pos (by rw[←hy q hf];exact hb)]
  ·show(k:Int)=_
   rw[←hq q hf,qA hc,if_neg (by rw[←hy q hf,hb];simp)]
 ·show(k:Int)=_
  rw[←hq q hf,Dh hge]
abbrev kt:Spc:=dt (a2 B B) (fun _=> True) (enc (X:=Bool)) fun x y=> y=gF x.1 0 x.2
theorem qk:Walk dq dn S (a2 B B) (fun _=> True) (enc (X:=Bool)) fun x y=> y=gF x.1 0 x.2:=by
 rintro⟨s,t⟩ -
 simp[dq,dn]
 refine fun _ _=> ⟨fun h _=> ⟨h,?_⟩,fun h=> ?_⟩
 ·unfold gF
  rw[Nat.zero_add,Bool.eq_iff_iff]
  simp[h]
 ·unfold gF
  rw[Nat.zero_add,decide_eq_false]
  omega
theorem vq (h1:S bH=kt):Walk iO ic S (a2 B B) (fun _=> True) (enc (X:=Bool)) fun x y=> y=gF x.1 0 x.2:=by
 rintro⟨s,t⟩ -
 simp[iO,ic,h1]
def Mw (s:B) (c:U8):Int:=match s.data.toList.findIdx? (fun x=> decide ((x.toNat:Int)=c.val)) with
 | some k=> k
 | none=> -1
abbrev s_indexByte:Spc:=dt (a2 B U8) (fun x=> 0≤x.2.val∧x.2.val < 256) (enc (X:=Int)) fun x y=> y=Mw x.1 x.2
theorem vp (h1:S cm=s_indexByte):Walk iN ib S (a2 B U8) (fun x=> 0≤x.2.val∧x.2.val < 256) (enc (X:=Int)) fun x y=> y=Mw x.1 x.2:=by
 rintro⟨s,c⟩ ⟨c0,c1⟩
 simp only at c0 c1
 simp[iN,ib,h1,c0,c1]
abbrev kQ:Spc:=dt (a2 (List B) B) (fun _=> True) (enc (X:=Int)) fun x y=> y=uL x.1 (fun z=> decide (x.2=z))
theorem sG:Walk gu gj S (a2 (List B) B) (fun _=> True) (enc (X:=Int)) fun x y=> y=uL x.1 (fun z=> decide (x.2=z)):=by
 rintro⟨l,v⟩ -
 simp[gu,gj]
 intro _
 refine aJ (X:=Unit) [0,1] [] l.length (fun k _=> ∀x∈l.take k,decide (v=x)=false) (fun _=> []) (fun _=> []) () (by simp) (by simp) (by omega) (by simp) (by simp) (by simp) (by simp) (by simp) ?_ ?_
 ·rintro k -hk hP
  obtain⟨x,hx⟩:=cV hk
  obtain⟨_,hgx⟩:=List.getElem?_eq_some_iff.1 hx
  simp[hk,hx,hgx]
  refine⟨fun h=> ?_,fun h z hz=> ?_⟩
  ·exact(IG hx (by simp[h]) hP).symm
  ·rw[cp hx] at hz
   rcases List.mem_append.1 hz with hz | hz
   ·simpa using hP z hz
   ·simp at hz;subst hz;exact h
 ·rintro -hP
  simp
  exact(Ad (by simpa using hP)).symm
abbrev rl:Spc:=dt (a2 (List B) B) (fun _=> True) (enc (X:=Bool)) fun x y=> y=x.1.any (fun z=> decide (x.2=z))
theorem pI (h1:S bB=kQ):Walk ft fm S (a2 (List B) B) (fun _=> True) (enc (X:=Bool)) fun x y=> y=x.1.any (fun z=> decide (x.2=z)):=by
 rintro⟨l,v⟩ -
 simp[ft,fm,h1]
 exact NH _ l
end Go.Gv

namespace Go.Gv
open Cod (enc dec)
variable {S S0:Nat→Spc}
abbrev HR (n:Nat):Spc:=dt (a2 Pat Pat) (P8 (fun x=> eJ x.1) n) (enc (X:=Bool)) fun x y=> (y=true↔x.1=x.2)
abbrev CU:Spc:=dt (a2 Pat Pat) (fun _=> True) (enc (X:=Bool)) fun x y=> (y=true↔x.1=x.2)
theorem Uw {a b:Pat} (h1:a.op=b.op) (h2:a.cond=b.cond) (h3:a.lab=b.lab) (h4:a.reg=b.reg) (h5:a.mn=b.mn) (h6:a.mx=b.mx) (h7:a.kids=b.kids):a=b:=by
 cases a;cases b;simp only at*;subst h1;subst h2;subst h3;subst h4;subst h5;subst h6;subst h7;rfl
theorem xm (n:Nat) (h0:S eq=xL) (h1:S cj=HR n):Walk kg j2 S (a2 Pat Pat) (P8 (fun x=> eJ x.1) (n+1)) (enc (X:=Bool)) fun x y=> (y=true↔x.1=x.2):=by
 rintro⟨a,b⟩ hn
 have hn:eJ a≤n+1:=hn
 have hpre: ∀k∈a.kids,∀y,P8 (fun x:Pat×Pat=> eJ x.1) n (k,y):=fun k hk y=> by have:=k9 hk;show eJ k≤n;omega
 simp[kg,j2,h0, -Bool.forall_bool]
 refine⟨fun e1 c hc=> ⟨fun e2=> ⟨fun e3=> ⟨fun e4=> ⟨fun e5=> ⟨fun e6 _ _=> ⟨fun h e=> h (by rw[e]),fun hl _=> ?_⟩,fun h e=> h (by rw[e])⟩,fun h e=> h (by rw[e])⟩,fun h e=> h (by rw[e])⟩,fun h e=> h (by rw[e])⟩,fun hf e=> by rw[hc.2 (by rw[e])] at hf;cases hf⟩,fun h e=> h (by rw[e])⟩
 refine aJ (X:=Unit) [2,3] [] a.kids.length (fun k _=> a.kids.take k=b.kids.take k) (fun _=> []) (fun _=> []) () (by simp) (by simp) (by omega) (by simp) (by simp) (by simp) (by simp) (by simp) ?_ ?_
 ·rintro k -hk hP
  obtain⟨x,hx⟩:=cV hk
  obtain⟨y,hy⟩:=cV (l:=b.kids) (k:=k) (by omega)
  have hx1:=cn hx
  obtain⟨_,hgx⟩:=List.getElem?_eq_some_iff.1 hx
  obtain⟨_,hgy⟩:=List.getElem?_eq_some_iff.1 hy
  simp[h1,hk,hx,hy,hgx,hgy,hpre x hx1, -Bool.forall_bool]
  refine⟨by omega,fun r hr=> ⟨fun hf e=> ?_,fun ht=> ?_⟩⟩
  ·subst e
   rw[hx] at hy
   cases hy
   rw[hr.2 rfl] at hf
   cases hf
  ·rw[cp hx,cp hy,hP,hr.1 ht]
 ·rintro -hP
  simp
  have h8:a.kids=b.kids:=by
   rw[List.take_of_length_le (by omega),List.take_of_length_le (by omega)] at hP
   exact hP
  exact Uw e1 (hc.1 e2) e3 e4 e5 e6 h8
abbrev HO:Spc:=dt (a2 (List B) (List B)) (fun _=> True) (enc (X:=Bool)) fun x y=> (y=true↔x.1=x.2)
theorem Jo:Walk sd ru S (a2 (List B) (List B)) (fun _=> True) (enc (X:=Bool)) fun x y=> (y=true↔x.1=x.2):=by
 rintro⟨a,b⟩ -
 simp[sd,ru, -Bool.forall_bool]
 refine fun _ _=> ⟨fun h e=> h (by rw[e]),fun hl _=> ?_⟩
 refine aJ (X:=Unit) [0,1] [] a.length (fun k _=> a.take k=b.take k) (fun _=> []) (fun _=> []) () (by simp) (by simp) (by omega) (by simp) (by simp) (by simp) (by simp) (by simp) ?_ ?_
 ·rintro k -hk hP
  obtain⟨x,hx⟩:=cV hk
  obtain⟨y,hy⟩:=cV (l:=b) (k:=k) (by omega)
  obtain⟨_,hgx⟩:=List.getElem?_eq_some_iff.1 hx
  obtain⟨_,hgy⟩:=List.getElem?_eq_some_iff.1 hy
  simp[hk,hx,hy,hgx,hgy, -Bool.forall_bool]
  refine⟨by omega,fun ht e=> ?_,fun ht=> ?_⟩
  ·subst e
   rw[hx] at hy
   cases hy
   exact ht rfl
  ·rw[cp hx,cp hy,hP,ht]
 ·rintro -hP
  simp
  rw[List.take_of_length_le (by omega),List.take_of_length_le (by omega)] at hP
  exact hP
end Go.Gv

namespace Go.Gv
open Cod (enc dec)
variable {S S0:Nat→Spc}
def LC (x:Cond):Prop:=x.op=2∧x.arg=⟨#[]⟩∧x.lab=⟨#[]⟩∧x.kids= []
abbrev Da:Spc:=dt (a1 Cond) LC (enc (X:=Bool)) fun x y=> y=true
theorem xo:Walk km j5 S (a1 Cond) LC (enc (X:=Bool)) fun x y=> y=true:=by
 rintro⟨op,name,arg,val,lab,fold,kids⟩ ⟨h1,h2,h3,h4⟩
 simp only at h1 h2 h3 h4
 subst h1;subst h2;subst h3;subst h4
 simp[km,j5, -Bool.forall_bool]
abbrev zw:Spc:=dt (a1 Cond) LC (enc (X:=Int)) fun x y=> y=0
theorem vu (h1:S fN=Da):Walk i6 iA S (a1 Cond) LC (enc (X:=Int)) fun x y=> y=0:=by
 rintro x hx
 simp[i6,iA,h1,hx, -Bool.forall_bool]
abbrev wI:Spc:=dt (a3 Cond Int Int) (fun x=> LC x.1∧x.2=(0,1)) (IR (Y:=Int) (Z:=Int)) fun x y=> y=(1,1)
theorem vt:Walk i5 iz S (a3 Cond Int Int) (fun x=> LC x.1∧x.2=(0,1)) (IR (Y:=Int) (Z:=Int)) fun x y=> y=(1,1):=by
 rintro⟨⟨op,name,arg,val,lab,fold,kids⟩,n,d⟩ ⟨⟨h1,h2,h3,h4⟩,h5⟩
 simp only at h1 h2 h3 h4 h5
 simp only[Prod.mk.injEq] at h5
 obtain⟨rfl,rfl⟩:=h5
 subst h1;subst h2;subst h3;subst h4
 simp[i5,iz, -Bool.forall_bool]
 refine⟨by simp only[InR];omega,?_⟩
 refine aJ (X:=Unit) [1,8] [] 0 (fun _ _=> True) (fun _=> []) (fun _=> []) () (by simp) (by simp) (by omega) (by simp) (by simp) trivial (by simp) (by simp) (fun k x hk=> absurd hk (by omega)) (fun _ _=> ?_)
 simp
abbrev H6:Spc:=dt (aE Cond (aD a0)) (fun x=> LC x.1∧x.2.1= .clo cJ []) (enc (X:=Int)) fun x y=> y=0
theorem yX (h1:S cJ=zw):Walk lC kZ S (aE Cond (aD a0)) (fun x=> LC x.1∧x.2.1= .clo cJ []) (enc (X:=Int)) fun x y=> y=0:=by
 rintro⟨⟨op,name,arg,val,lab,fold,kids⟩,d,⟨⟩⟩ ⟨hx,hd⟩
 have hx':=hx
 obtain⟨h1',h2,h3,h4⟩:=hx'
 simp only at h1' h2 h3 h4 hd
 subst h1';subst h2;subst h3;subst h4;subst hd
 simp[lC,kZ,h1,hx, -Bool.forall_bool]
 refine aJ (X:=Unit) [] [] 0 (fun _ _=> True) (fun _=> []) (fun _=> []) () (by simp) (by simp) (by omega) (by simp) (by simp) trivial (by simp) (by simp) (fun k x hk=> absurd hk (by omega)) (fun _ _=> ?_)
 simp
abbrev Dc:Spc:=dt (a1 Cond) LC (enc (X:=Bool)) fun x y=> y=true
theorem xp (h1:S dI=wI) (h2:S eY=H6):Walk ko j6 S (a1 Cond) LC (enc (X:=Bool)) fun x y=> y=true:=by
 rintro x hx
 simp[ko,j6,h1,h2,hx, -Bool.forall_bool]
abbrev zx:Spc:=dt (a1 Pat) (fun p=> LC p.cond) (enc (X:=Bool)) fun x y=> y=false
theorem yW (h1:S fO=Dc):Walk lA kX S (a1 Pat) (fun p=> LC p.cond) (enc (X:=Bool)) fun x y=> y=false:=by
 rintro x hx
 simp[lA,kX,h1,hx, -Bool.forall_bool]
abbrev L4:Spc:=dt (a1 Glob) (fun g=> g=fh) (enc (X:=Bool)) fun x y=> y=true
theorem Hv:Walk qd pS S (a1 Glob) (fun g=> g=fh) (enc (X:=Bool)) fun x y=> y=true:=by
 rintro x rfl
 simp[qd,pS,fh,E0, -Bool.forall_bool]
abbrev H8:Spc:=dt (a1 Glob) (fun g=> g=fh) (enc (X:=Bool)) fun x y=> y=true
theorem FC (h1:S lk=L4):Walk oV nY S (a1 Glob) (fun g=> g=fh) (enc (X:=Bool)) fun x y=> y=true:=by
 rintro x rfl
 simp[oV,nY,h1, -Bool.forall_bool]
abbrev L9:Spc:=dt (aE (List jK) (aD a0)) (fun x=> x.1= []) (enc (X:=Int)) fun x y=> y= -1
theorem pa:Walk fg fb S (aE (List jK) (aD a0)) (fun x=> x.1= []) (enc (X:=Int)) fun x y=> y= -1:=by
 rintro⟨l,d,⟨⟩⟩ h
 have h:l= []:=h
 subst h
 simp[fg,fb, -Bool.forall_bool]
 refine aJ (X:=Unit) [] [] 0 (fun _ _=> True) (fun _=> []) (fun _=> []) () (by simp) (by simp) (by omega) (by simp) (by simp) trivial (by simp) (by simp) (fun k x hk=> absurd hk (by omega)) (fun _ _=> ?_)
 simp
abbrev Ma:Spc:=dt (aE (List jK) (aD a0)) (fun x=> x.1= []) (enc (X:=Bool)) fun x y=> y=false
theorem mK (h1:S cH=L9):Walk eh d7 S (aE (List jK) (aD a0)) (fun x=> x.1= []) (enc (X:=Bool)) fun x y=> y=false:=by
 rintro⟨l,d,⟨⟩⟩ h
 have h:l= []:=h
 subst h
 simp[eh,d7,h1, -Bool.forall_bool]
end Go.Gv
