/- A part of the framework and of the walks: W32 W36 W37 W60 W83 W77 T25. -/
import Derived.Test.YtaiffcbkmgfklaaGreatDoorGs22
import Derived.Test.YtaiffcbkmgfklaaGreatDoorGs26
import Derived.Test.YtaiffcbkmgfklaaGreatDoorGs27
import Derived.Test.YtaiffcbkmgfklaaGreatDoorGs19
import Derived.Test.YtaiffcbkmgfklaaGreatDoorGs24
import Derived.Test.YtaiffcbkmgfklaaGreatDoorGs16
set_option linter.unusedSimpArgs false
set_option linter.unusedVariables false
set_option maxRecDepth 100000

namespace Go.Gv
open Cod (enc dec)
variable {S S0:Nat→Spc}
abbrev Oa:Spc:=cY (a1 Cond) (fun _=> True) (enc (X:=Bool)) fun x y=> (y=true↔x=Cond0)
theorem Jy:Walk ss rZ S (a1 Cond) (fun _=> True) (enc (X:=Bool)) fun x y=> (y=true↔x=Cond0):=by
 rintro⟨op,n,a,v,l,f,ks⟩ -
 simp[ss,rZ,Cond0]
 repeat' first | apply And.intro | intro _
 all_goals simp_all
abbrev J3:Spc:=cY (a1 Pat) (fun _=> True) (enc (X:=Bool)) fun x y=> y=nq x
theorem JB (h1:S m7=Oa):Walk sv r7 S (a1 Pat) (fun _=> True) (enc (X:=Bool)) fun x y=> y=nq x:=by
 rintro p -
 simp[sv,r7,h1, -Bool.forall_bool]
 clear h1
 repeat' first | apply And.intro | intro _
 all_goals (rw[Bool.eq_iff_iff,BR];unfold Cs;simp_all;try omega)
abbrev D4:Spc:=cY (a1 Pat) (fun _=> True) (enc (X:=Bool)) fun x y=> y=Al ft x
theorem HF (h1:S eM=EV):Walk qP qq S (a1 Pat) (fun _=> True) (enc (X:=Bool)) fun x y=> y=Al ft x:=by
 rintro p -
 simp[qP,qq,h1,Al, -Bool.forall_bool]
 clear h1
 repeat' first | apply And.intro | intro _
 all_goals (first | omega | simp_all;try omega)
abbrev zT:Spc:=cY (a1 Pat) (fun _=> True) (enc (X:=Bool)) fun x y=> y=BQ x
theorem Es:Walk pC pm S (a1 Pat) (fun _=> True) (enc (X:=Bool)) fun x y=> y=BQ x:=by
 rintro p -
 simp[pC,pm,BQ]
 repeat' first | apply And.intro | intro _
 all_goals (first | omega | (rw[Bool.eq_iff_iff];simp;omega))
end Go.Gv

namespace Go.Gv
open Cod (enc dec)
variable {S S0:Nat→Spc}
theorem Jz (n:Nat) (h1:S fS=Oc n):Walk su r6 S (a1 Pat) (PPat (n+1)) (enc (X:=Int)) fun x y=> y=mL x:=by
 rintro p hp
 have hk: ∀k∈p.kids,PPat n k:=fun k=> hp.kid
 have hs: ∀k∈p.kids,0≤mL k∧mL k≤1000:=fun k h=> Q4 (v:=ft) k (hk k h).2
 simp[su,r6]
 intro _
 refine aw (X:=Int) [1,7] [] p.kids.length (fun k n=> n=js (p.kids.take k) 0) (fun n=> [(3,enc n)]) (fun _=> []) 0 (by simp) (by simp) (by omega) (by simp) (by simp) (by simp[js]) (by simp) (by simp) ?_ ?_
 ·rintro k m hkl hP
  obtain⟨x,hx⟩:=cz hkl
  have hx1:=cn hx
  obtain⟨_,hgx⟩:=List.getElem?_eq_some_iff.1 hx
  have hm:=tm (p.kids.take k) 0 (by omega) (by omega) (fun y hy=> (hs y (List.mem_of_mem_take hy)).1)
  have h2:=hs x hx1
  rw[←hP] at hm
  have q1:=hk x hx1
  simp[h1,hkl,hx,hgx,q1]
  refine⟨by simp only[InR];omega,?_⟩
  rw[dq hx,N7,←hP,js,js]
 ·rintro m hP
  have hm:=tm (p.kids.take p.kids.length) 0 (by omega) (by omega) (fun y hy=> (hs y (List.mem_of_mem_take hy)).1)
  rw[←hP] at hm
  rw[List.take_length] at hP
  have hn:=(IN hp.2).2.2
  unfold BQ at hn
  rw[decide_eq_true_eq] at hn
  rw[sI,Cz,←hP]
  simp
  intro _
  refine⟨fun h=> fun h'=> absurd h h',fun h0=> ⟨fun h6=> ?_,fun h6=> by rw[if_neg h0,if_neg h6]⟩⟩
  rw[if_neg h0,if_pos h6]
  have hn:=hn h6
  refine⟨fun e=> by rw[if_neg (by omega),if_pos e],fun e=> ⟨fun e2=> ?_,fun e2=> ?_⟩⟩
  ·have h2:=PM hm.1 hm.2 (show 0≤p.mn+1 by omega) (show p.mn+1≤17 by omega)
   rw[if_pos (by omega)]
   exact⟨by simp only[InR];omega,by simp only[InR];omega,rfl⟩
  ·have h2:=PM hm.1 hm.2 (show 0≤p.mx by omega) (show p.mx≤16 by omega)
   rw[if_neg (by omega),if_neg e]
   exact⟨by simp only[InR];omega,rfl⟩
theorem JC (h1:S lK=ph) (h2:S fS=JV):Walk sx r9 S (a1 Pat) (fun _=> True) (enc (X:=Int)) fun x y=> y=if sa ft x then mL x else 0:=by
 rintro p -
 simp[sx,r9,h1,h2, -Bool.forall_bool]
 exact⟨fun h1 h2=> absurd (h1.symm.trans h2) (by simp),fun h1=> ⟨h1,fun h2=> absurd (h2.symm.trans h1) (by simp)⟩⟩
end Go.Gv

namespace Go.Gv
open Cod (enc dec)
variable {S S0:Nat→Spc}
def FunOn {X Y:Type} [Cod X] [Cod Y] (S:Nat→Spc) (d:D) (l:List X) (p:X→Y):Prop:=
 ∃g caps pc,d= .clo g caps∧S g= .pure pc∧ ∀x∈l,pc.pre (enc x::caps)∧ ∀r,pc.post (enc x::caps) r→r=enc (p x)
theorem FunOn.useB {X:Type} [Cod X] {S:Nat→Spc} {d:D} {l:List X} {p:X→Bool} (h:FunOn S d l p) (x:X) (hx:x∈l) {d':Nat} {H:ae} {K:D→ae→Prop} (hk: ∀y:Bool,(∀q,FunOn S d l q→y=q x)→K (.v (.bool y)) H):AI S d d' [enc x] H K:=by
 obtain⟨g,caps,pc,rfl,h1,h2⟩:=h
 simp only[AI,h1,Spc.pt]
 refine⟨(h2 x hx).1,fun r hr=> ?_⟩
 have e:=(h2 x hx).2 r hr
 rw[e]
 refine hk (p x) fun q hq=> ?_
 obtain⟨g',caps',pc',e',k1,k2⟩:=hq
 cases e'
 rw[h1] at k1
 cases k1
 exact rO (e.symm.trans ((k2 x hx).2 r hr))
theorem FunIs.on {X Y:Type} [Cod X] [Cod Y] {S:Nat→Spc} {d:D} {p:X→Y} (h:FunIs S d p) (l:List X):FunOn S d l p:=by
 obtain⟨g,caps,pc,h1,h2,h3⟩:=h
 exact⟨g,caps,pc,h1,h2,fun x _=> h3 x⟩
theorem Ca {X Y:Type} [Cod X] [Cod Y] {S:Nat→Spc} {g:Nat} {c:D} {l:List X} {pre:X×D×Unit→Prop} {post:X×D×Unit→Y→Prop} {p:X→Y} (h:S g=cY (aE X (aD a0)) pre enc post) (hp: ∀x∈l,pre (x,c,())) (hq: ∀x∈l,∀y,post (x,c,()) y→y=p x):FunOn S (.clo g [c]) l p:=by
 refine⟨g, [c],_,rfl,h,fun x hx=> ⟨⟨(x,c,()),by simp,hp x hx⟩,fun r hr=> ?_⟩⟩
 obtain⟨y,rfl,hy⟩:=hr (x,c,()) (by simp) (hp x hx)
 rw[hq x hx y hy]
theorem PJ (x:Pat):D.agg [D.v (Value.int IntKind.i64 x.op),D.v (Value.int IntKind.i64 x.cond.op),D.v (Value.string x.cond.name),D.v (Value.string x.cond.arg),D.v (Value.string x.cond.val),D.v (Value.string x.cond.lab),D.v (Value.bool x.cond.fold),D.list 7 (List.map enc x.cond.kids),D.v (Value.string x.lab),D.v (Value.string x.reg),D.v (Value.int IntKind.i64 x.mn),D.v (Value.int IntKind.i64 x.mx),D.list 13 (List.map enc x.kids)]=enc x:=by simp
def Lf (S0:Nat→Spc) (x:List Pat×D×Unit):Prop:= ∃p:Pat→Bool,FunOn S0 x.2.1 x.1 p
def VH (S0:Nat→Spc) (x:List Pat×D×Unit) (y:Int):Prop:= ∀p:Pat→Bool,FunOn S0 x.2.1 x.1 p→y=wP x.1 p
abbrev Tl (S0:Nat→Spc):Spc:=cY (aE (List Pat) (aD a0)) (Lf S0) enc (VH S0)
theorem qc:Walk fU fO S (aE (List Pat) (aD a0)) (Lf S) enc (VH S):=by
 rintro⟨l,d,⟨⟩⟩ ⟨p,hp⟩
 simp at hp
 simp[fU,fO]
 intro _
 refine aw (X:=Unit) [0,1] [] l.length (fun k _=> ∀p:Pat→Bool,FunOn S d l p→ ∀x∈l.take k,p x=false) (fun _=> []) (fun _=> []) () (by simp) (by simp) (by omega) (by simp) (by simp) (by simp) (by simp) (by simp) ?_ ?_
 ·intro k _ hk hP
  simp
  refine⟨hk,fun x hx=> ?_⟩
  rw[PJ x]
  refine hp.useB x (cn hx) fun y hy=> ?_
  simp
  refine⟨fun h=> ?_,fun h p' hp'=> ?_⟩
  ·intro p' hp'
   exact(KR hx (by rw[←hy p' hp',h]) (hP p' hp')).symm
  ·rw[dq hx]
   intro z hz
   rcases List.mem_append.1 hz with hz | hz
   ·exact hP p' hp' z hz
   ·simp at hz;subst hz;rw[←hy p' hp',h]
 ·intro _ hP
  simp
  intro p' hp'
  exact(B7 (by simpa using hP p' hp')).symm
def VI (S0:Nat→Spc) (x:List Pat×D×Unit) (y:Bool):Prop:= ∀p:Pat→Bool,FunOn S0 x.2.1 x.1 p→y=x.1.any p
abbrev tB (S0:Nat→Spc):Spc:=cY (aE (List Pat) (aD a0)) (Lf S0) enc (VI S0)
theorem ov (h1:S eh=Tl S0):Walk eP eH S (aE (List Pat) (aD a0)) (Lf S0) enc (VI S0):=by
 rintro⟨l,d,⟨⟩⟩ hp
 simp[eP,eH,h1, -Bool.forall_bool]
 refine⟨hp,fun y hy p' hp'=> ?_⟩
 rw[hy p' hp']
 exact PU p' l
abbrev A8 (n:Nat):Spc:=cY (a2 Pat Int) (fun x=> fP x.1≤n∧0≤x.2∧x.2≤101) (enc (X:=Bool)) fun x y=> y=dc x.1 x.2
def Yr (n:Nat) (x:Pat×D×Unit):Prop:= ∃d:Int,x.2.1= .cptr [enc d] 0∧fP x.1≤n∧0≤d∧d≤100
def VE (x:Pat×D×Unit) (y:Bool):Prop:= ∀d:Int,x.2.1= .cptr [enc d] 0→y=!dc x.1 (d+1)
abbrev Ti (n:Nat):Spc:=cY (aE Pat (aD a0)) (Yr n) enc VE
theorem zw (n:Nat) (h1:S dS=A8 n):Walk mg l6 S (aE Pat (aD a0)) (Yr n) enc VE:=by
 rintro⟨p,d,⟨⟩⟩ ⟨e,hd,h2,h3,h4⟩
 simp at hd h2
 subst hd
 simp[mg,l6,h1,VE,h2, -Bool.forall_bool]
 exact⟨by simp only[InR];omega,by omega⟩
theorem Df (n:Nat) (h0:S0 fl=Ti n) (h1:S aC=tB S0):Walk nT nC S (a2 Pat Int) (fun x=> fP x.1≤n+1∧0≤x.2∧x.2≤101) (enc (X:=Bool)) fun x y=> y=dc x.1 x.2:=by
 rintro⟨p,d⟩ ⟨hn,hd0,hd1⟩
 have hk: ∀k∈p.kids,fP k≤n:=fun k hk=> by have:=mV hk;have:fP p≤n+1:=hn;omega
 simp only at hd0 hd1
 simp[nT,nC,h1, -Bool.forall_bool]
 rw[mj]
 refine⟨fun h=> ?_,fun h=> by rw[decide_eq_false (by omega)];rfl⟩
 have hf:FunOn S0 (.clo fl [.cptr [.v (.int .i64 d)] 0]) p.kids fun x=> !dc x (d+1):=
  Ca h0 (fun x hx=> ⟨d,rfl,hk x hx,hd0,h⟩) (fun x _ y hy=> hy d rfl)
 refine⟨⟨_,hf⟩,fun y hy=> ?_⟩
 rw[hy _ hf,decide_eq_true h,Bool.true_and]
 simp[List.any_eq_not_all_not]
def Ys (S0:Nat→Spc) (n:Nat) (x:Pat×D×Unit):Prop:= ∃ (d:D) (f:Pat→Bool),x.2.1= .cptr [d] 0∧FunIs S0 d f∧fP x.1≤n
def VF (S0:Nat→Spc) (x:Pat×D×Unit) (y:Bool):Prop:= ∀ (d:D) (f:Pat→Bool),x.2.1= .cptr [d] 0→FunIs S0 d f→y=!fT f x.1
abbrev J5 (S0:Nat→Spc) (n:Nat):Spc:=cY (aE Pat (aD a0)) (fun x=> ∃f:Pat→Bool,FunIs S0 x.2.1 f∧fP x.1≤n) enc fun x y=> ∀f:Pat→Bool,FunIs S0 x.2.1 f→y=fT f x.1
abbrev Tj (S0:Nat→Spc) (n:Nat):Spc:=cY (aE Pat (aD a0)) (Ys S0 n) enc (VF S0)
theorem Dh (n:Nat) (h1:S cS=J5 S0 n):Walk nV nE S (aE Pat (aD a0)) (Ys S0 n) enc (VF S0):=by
 rintro⟨p,d,⟨⟩⟩ ⟨e,f,hd,h2,h3⟩
 simp at hd h3
 subst hd
 simp[nV,nE,h1,VF,h3, -Bool.forall_bool]
 exact⟨⟨f,h2⟩,fun y hy d g e hg=> by subst e;exact hy g hg⟩
theorem HJ {N:Nat→Spc} (n:Nat) (hN: ∀ (d:D) (f:Pat→Bool),FunIs N d f→FunIs S d f) (h0:S0 gG=Tj N n) (h1:S aC=tB S0):Walk qT qu S (aE Pat (aD a0)) (fun x=> ∃f:Pat→Bool,FunIs N x.2.1 f∧fP x.1≤n+1) enc fun x y=> ∀f:Pat→Bool,FunIs N x.2.1 f→y=fT f x.1:=by
 rintro⟨p,d,⟨⟩⟩ ⟨f,hf,hn⟩
 have hk: ∀k∈p.kids,fP k≤n:=fun k hk=> by have:=mV hk;have:fP p≤n+1:=hn;omega
 simp at hf
 have hd1:d.kn=true∧d.cells= [d]:=by obtain⟨g,caps,pc,rfl,_⟩:=hf;exact⟨rfl,rfl⟩
 simp[qT,qu,h1,hd1, -Bool.forall_bool]
 rw[PJ p]
 refine((hN d f hf).on [p]).useB p (by simp) fun y hy=> ?_
 have hy: ∀f,FunIs N d f→y=f p:=fun f hf=> hy f ((hN d f hf).on [p])
 simp[h1, -Bool.forall_bool]
 refine⟨fun ht=> ?_,fun hff g hg=> by rw[gI,←hy g hg,hff];rfl⟩
 have hO: ∀g,FunIs N d g→FunOn S0 (.clo gG [.cptr [d] 0]) p.kids fun x=> !fT g x:=fun g hg=>
  Ca h0 (fun x hx=> ⟨d,g,rfl,hg,hk x hx⟩) (fun x _ y hy=> hy d g rfl hg)
 refine⟨⟨_,hO f hf⟩,fun z hz g hg=> ?_⟩
 rw[hz _ (hO g hg),gI,←hy g hg,ht,Bool.true_and]
 simp[List.any_eq_not_all_not]
abbrev yJ:Spc:=cY (a2 Pat Int) (fun x=> 0≤x.2∧x.2≤101) (enc (X:=Bool)) fun x y=> y=dc x.1 x.2
abbrev vJ (N:Nat→Spc):Spc:=cY (aE Pat (aD a0)) (fun x=> ∃f:Pat→Bool,FunIs N x.2.1 f) enc fun x y=> ∀f:Pat→Bool,FunIs N x.2.1 f→y=fT f x.1
abbrev tA:Spc:=cY (a1 Pat) (fun _=> True) (enc (X:=Bool)) fun x y=> y=(dc x 1 && fT nq x)
theorem sV {X:Type} [Cod X] {S:Nat→Spc} {g:Nat} {pre:X→Prop} {p:X→Bool} (h:S g=cY (a1 X) pre enc fun x y=> y=p x) (hp: ∀x,pre x):FunIs S (.clo g []) p:=by
 refine⟨g, [],_,rfl,h,fun x=> ⟨⟨x,by simp,hp x⟩,fun r hr=> ?_⟩⟩
 obtain⟨y,rfl,hy⟩:=hr x (by simp) (hp x)
 rw[hy]
theorem HQ {N:Nat→Spc} (h0:N iQ=J3) (h1:S dS=yJ) (h2:S cS=vJ N):Walk qX qz S (a1 Pat) (fun _=> True) (enc (X:=Bool)) fun x y=> y=(dc x 1 && fT nq x):=by
 rintro p -
 have f1:FunIs N (.clo iQ []) nq:=sV h0 fun _=> trivial
 simp[qX,qz,h1,h2, -Bool.forall_bool]
 refine⟨fun h=> ⟨⟨_,f1⟩,fun y hy=> by rw[hy _ f1,h];rfl⟩,fun h h'=> absurd (h.symm.trans h') (by simp)⟩
theorem HD {N:Nat→Spc} (h0:N hU=D4) (h0':N gl=zT) (h1:S d9=tA) (h2:S cS=vJ N):Walk qO qp S (a1 Pat) (fun _=> True) (enc (X:=Bool)) fun x y=> y=sa ft x:=by
 rintro p -
 have f1:FunIs N (.clo hU []) (Al ft):=sV h0 fun _=> trivial
 have f2:FunIs N (.clo gl []) BQ:=sV h0' fun _=> trivial
 simp[qO,qp,h1,h2, -Bool.forall_bool]
 unfold sa
 refine⟨fun h1 h2=> ⟨⟨_,f1⟩,fun y hy=> ?_⟩,fun h=> ?_⟩
 ·have hy:=hy _ f1
  refine⟨fun ht=> ⟨⟨_,f2⟩,fun z hz=> ?_⟩,fun hf=> ?_⟩
  ·rw[hz _ f2,h1,h2,←hy,ht];rfl
  ·rw[←hy,hf];simp
 ·rcases hs:dc p 1
  ·rfl
  ·rw[h hs];rfl
end Go.Gv

namespace Go.Gv
open Cod (enc dec)
variable {S S0:Nat→Spc}
abbrev qi:Spc:=cY (a1 U8) (fun _=> True) (enc (X:=Bool)) fun x y=> y=pW x
theorem Eu:Walk pE pp S (a1 U8) (fun _=> True) (enc (X:=Bool)) fun x y=> y=pW x:=by
 rintro⟨c⟩ -
 simp[pE,pp,pW,yf]
 repeat' first | apply And.intro | intro _
 all_goals first | omega | (rw[Bool.eq_iff_iff];simp;omega)
abbrev nu:Spc:=cY (a1 U8) (fun _=> True) (enc (X:=Bool)) fun x y=> y=o8 x
theorem HK:Walk qU qv S (a1 U8) (fun _=> True) (enc (X:=Bool)) fun x y=> y=o8 x:=by
 rintro⟨c⟩ -
 simp[qU,qv,o8]
 repeat' first | apply And.intro | intro _
 all_goals first | omega | (rw[Bool.eq_iff_iff];simp;omega)
abbrev Be:Spc:=cY (a1 U8) (fun _=> True) (enc (X:=Bool)) fun x y=> y=Cy x
theorem HH:Walk qR qs S (a1 U8) (fun _=> True) (enc (X:=Bool)) fun x y=> y=Cy x:=by
 rintro⟨c⟩ -
 simp[qR,qs,Cy]
 repeat' first | apply And.intro | intro _
 all_goals first | omega | (rw[Bool.eq_iff_iff];simp;omega)
abbrev EZ:Spc:=cY (a1 U8) (fun _=> True) (enc (X:=Bool)) fun x y=> y=oU x
theorem HG (h1:S fe=qi) (h2:S cA=nu):Walk qQ qr S (a1 U8) (fun _=> True) (enc (X:=Bool)) fun x y=> y=oU x:=by
 rintro⟨c⟩ -
 simp[qQ,qr,h1,h2,oU, -Bool.forall_bool]
 rcases pW ⟨c⟩ <;> rcases o8 ⟨c⟩ <;> simp
def Nx (S0:Nat→Spc) (x:B×Int×D×Unit):Prop:=(∃p:U8→Bool,FunIs S0 x.2.2.1 p)∧0≤x.2.1∧x.2.1≤x.1.size
def Qr (S0:Nat→Spc) (x:B×Int×D×Unit) (y:Int):Prop:= ∀p:U8→Bool,FunIs S0 x.2.2.1 p→y=jK p x.1 x.2.1.toNat
abbrev J1 (S0:Nat→Spc):Spc:=cY (aE B (aE Int (aD a0))) (Nx S0) enc (Qr S0)
theorem Ly:Walk uy tJ S (aE B (aE Int (aD a0))) (Nx S) enc (Qr S):=by
 rintro⟨s,i,d,⟨⟩⟩ ⟨⟨p,hp⟩,h0,h1⟩
 simp only at hp h0 h1
 simp[uy,tJ]
 refine jL (X:=Nat) [0,2] [] (fun k=> k≤s.size∧ ∀q:U8→Bool,FunIs S d q→jK q s k=jK q s i.toNat) (fun k=> [(1,enc (k:Int))]) (fun _=> []) (fun k=> s.size -k) i.toNat ⟨by omega,fun _ _=> rfl⟩ (by simp;omega) (by simp) ?_
 rintro k ⟨hk,hq⟩
 simp
 refine fun hsz=> ⟨fun hlt=> ⟨hlt,fun c hc=> ?_⟩,fun hge q hf=> ?_⟩
 ·refine hp.useB (⟨c.toNat⟩:U8) fun y hy=> ?_
  simp
  refine⟨fun hb=> ⟨by simp only[InR];omega,k+1,⟨by omega,fun q hf=> ?_⟩,by omega,by omega⟩,fun hb q hf=> ?_⟩
  ·rw[←hq q hf,sO hc,if_pos (by rw[←hy q hf];exact hb)]
  ·show(k:Int)=_
   rw[←hq q hf,sO hc,if_neg (by rw[←hy q hf,hb];simp)]
 ·show(k:Int)=_
  rw[←hq q hf,Fm hge]
abbrev ml:Spc:=cY (a2 B B) (fun _=> True) (enc (X:=Bool)) fun x y=> y=j5 x.1 0 x.2
theorem sB:Walk d8 d6 S (a2 B B) (fun _=> True) (enc (X:=Bool)) fun x y=> y=j5 x.1 0 x.2:=by
 rintro⟨s,t⟩ -
 simp[d8,d6]
 refine fun _ _=> ⟨fun h _=> ⟨h,?_⟩,fun h=> ?_⟩
 ·unfold j5
  rw[Nat.zero_add,Bool.eq_iff_iff]
  simp[h]
 ·unfold j5
  rw[Nat.zero_add,decide_eq_false]
  omega
theorem xq (h1:S ch=ml):Walk kq jS S (a2 B B) (fun _=> True) (enc (X:=Bool)) fun x y=> y=j5 x.1 0 x.2:=by
 rintro⟨s,t⟩ -
 simp[kq,jS,h1]
def ON (s:B) (c:U8):Int:=match s.data.toList.findIdx? (fun x=> decide ((x.toNat:Int)=c.val)) with
 | some k=> k
 | none=> -1
abbrev s_indexByte:Spc:=cY (a2 B U8) (fun x=> 0≤x.2.val∧x.2.val < 256) (enc (X:=Int)) fun x y=> y=ON x.1 x.2
theorem xp (h1:S cX=s_indexByte):Walk kp jR S (a2 B U8) (fun x=> 0≤x.2.val∧x.2.val < 256) (enc (X:=Int)) fun x y=> y=ON x.1 x.2:=by
 rintro⟨s,c⟩ ⟨c0,c1⟩
 simp only at c0 c1
 simp[kp,jR,h1,c0,c1]
abbrev mO:Spc:=cY (a2 (List B) B) (fun _=> True) (enc (X:=Int)) fun x y=> y=wP x.1 (fun z=> decide (x.2=z))
theorem uS:Walk iS iF S (a2 (List B) B) (fun _=> True) (enc (X:=Int)) fun x y=> y=wP x.1 (fun z=> decide (x.2=z)):=by
 rintro⟨l,v⟩ -
 simp[iS,iF]
 intro _
 refine aw (X:=Unit) [0,1] [] l.length (fun k _=> ∀x∈l.take k,decide (v=x)=false) (fun _=> []) (fun _=> []) () (by simp) (by simp) (by omega) (by simp) (by simp) (by simp) (by simp) (by simp) ?_ ?_
 ·rintro k -hk hP
  obtain⟨x,hx⟩:=cz hk
  obtain⟨_,hgx⟩:=List.getElem?_eq_some_iff.1 hx
  simp[hk,hx,hgx]
  refine⟨fun h=> ?_,fun h z hz=> ?_⟩
  ·exact(KR hx (by simp[h]) hP).symm
  ·rw[dq hx] at hz
   rcases List.mem_append.1 hz with hz | hz
   ·simpa using hP z hz
   ·simp at hz;subst hz;exact h
 ·rintro -hP
  simp
  exact(B7 (by simpa using hP)).symm
abbrev tv:Spc:=cY (a2 (List B) B) (fun _=> True) (enc (X:=Bool)) fun x y=> y=x.1.any (fun z=> decide (x.2=z))
theorem rQ (h1:S bX=mO):Walk gC gy S (a2 (List B) B) (fun _=> True) (enc (X:=Bool)) fun x y=> y=x.1.any (fun z=> decide (x.2=z)):=by
 rintro⟨l,v⟩ -
 simp[gC,gy,h1]
 exact PU _ l
end Go.Gv

namespace Go.Gv
open Cod (enc dec)
variable {S S0:Nat→Spc}
abbrev JX (n:Nat):Spc:=cY (a2 Pat Pat) (Sl (fun x=> fP x.1) n) (enc (X:=Bool)) fun x y=> (y=true↔x.1=x.2)
abbrev EY:Spc:=cY (a2 Pat Pat) (fun _=> True) (enc (X:=Bool)) fun x y=> (y=true↔x.1=x.2)
theorem WN {a b:Pat} (h1:a.op=b.op) (h2:a.cond=b.cond) (h3:a.lab=b.lab) (h4:a.reg=b.reg) (h5:a.mn=b.mn) (h6:a.mx=b.mx) (h7:a.kids=b.kids):a=b:=by
 cases a;cases b;simp only at*;subst h1;subst h2;subst h3;subst h4;subst h5;subst h6;subst h7;rfl
theorem zu (n:Nat) (h0:S fA=zS) (h1:S cW=JX n):Walk mf l5 S (a2 Pat Pat) (Sl (fun x=> fP x.1) (n+1)) (enc (X:=Bool)) fun x y=> (y=true↔x.1=x.2):=by
 rintro⟨a,b⟩ hn
 have hn:fP a≤n+1:=hn
 have hpre: ∀k∈a.kids,∀y,Sl (fun x:Pat×Pat=> fP x.1) n (k,y):=fun k hk y=> by have:=mV hk;show fP k≤n;omega
 simp[mf,l5,h0, -Bool.forall_bool]
 refine⟨fun e1 c hc=> ⟨fun e2=> ⟨fun e3=> ⟨fun e4=> ⟨fun e5=> ⟨fun e6 _ _=> ⟨fun h e=> h (by rw[e]),fun hl _=> ?_⟩,fun h e=> h (by rw[e])⟩,fun h e=> h (by rw[e])⟩,fun h e=> h (by rw[e])⟩,fun h e=> h (by rw[e])⟩,fun hf e=> by rw[hc.2 (by rw[e])] at hf;cases hf⟩,fun h e=> h (by rw[e])⟩
 refine aw (X:=Unit) [2,3] [] a.kids.length (fun k _=> a.kids.take k=b.kids.take k) (fun _=> []) (fun _=> []) () (by simp) (by simp) (by omega) (by simp) (by simp) (by simp) (by simp) (by simp) ?_ ?_
 ·rintro k -hk hP
  obtain⟨x,hx⟩:=cz hk
  obtain⟨y,hy⟩:=cz (l:=b.kids) (k:=k) (by omega)
  have hx1:=cn hx
  obtain⟨_,hgx⟩:=List.getElem?_eq_some_iff.1 hx
  obtain⟨_,hgy⟩:=List.getElem?_eq_some_iff.1 hy
  simp[h1,hk,hx,hy,hgx,hgy,hpre x hx1, -Bool.forall_bool]
  refine⟨by omega,fun r hr=> ⟨fun hf e=> ?_,fun ht=> ?_⟩⟩
  ·subst e
   rw[hx] at hy
   cases hy
   rw[hr.2 rfl] at hf
   cases hf
  ·rw[dq hx,dq hy,hP,hr.1 ht]
 ·rintro -hP
  simp
  have h8:a.kids=b.kids:=by
   rw[List.take_of_length_le (by omega),List.take_of_length_le (by omega)] at hP
   exact hP
  exact WN e1 (hc.1 e2) e3 e4 e5 e6 h8
abbrev JU:Spc:=cY (a2 (List B) (List B)) (fun _=> True) (enc (X:=Bool)) fun x y=> (y=true↔x.1=x.2)
theorem Lu:Walk uw tH S (a2 (List B) (List B)) (fun _=> True) (enc (X:=Bool)) fun x y=> (y=true↔x.1=x.2):=by
 rintro⟨a,b⟩ -
 simp[uw,tH, -Bool.forall_bool]
 refine fun _ _=> ⟨fun h e=> h (by rw[e]),fun hl _=> ?_⟩
 refine aw (X:=Unit) [0,1] [] a.length (fun k _=> a.take k=b.take k) (fun _=> []) (fun _=> []) () (by simp) (by simp) (by omega) (by simp) (by simp) (by simp) (by simp) (by simp) ?_ ?_
 ·rintro k -hk hP
  obtain⟨x,hx⟩:=cz hk
  obtain⟨y,hy⟩:=cz (l:=b) (k:=k) (by omega)
  obtain⟨_,hgx⟩:=List.getElem?_eq_some_iff.1 hx
  obtain⟨_,hgy⟩:=List.getElem?_eq_some_iff.1 hy
  simp[hk,hx,hy,hgx,hgy, -Bool.forall_bool]
  refine⟨by omega,fun ht e=> ?_,fun ht=> ?_⟩
  ·subst e
   rw[hx] at hy
   cases hy
   exact ht rfl
  ·rw[dq hx,dq hy,hP,ht]
 ·rintro -hP
  simp
  rw[List.take_of_length_le (by omega),List.take_of_length_le (by omega)] at hP
  exact hP
end Go.Gv

namespace Go.Gv
open Cod (enc dec)
variable {S S0:Nat→Spc}
def LC (x:Cond):Prop:=x.op=2∧x.arg=⟨#[]⟩∧x.lab=⟨#[]⟩∧x.kids= []
abbrev Fc:Spc:=cY (a1 Cond) LC (enc (X:=Bool)) fun x y=> y=true
theorem zz:Walk bB bA S (a1 Cond) LC (enc (X:=Bool)) fun x y=> y=true:=by
 rintro⟨op,name,arg,val,lab,fold,kids⟩ ⟨h1,h2,h3,h4⟩
 simp only at h1 h2 h3 h4
 subst h1;subst h2;subst h3;subst h4
 simp[bB,bA, -Bool.forall_bool]
abbrev Bn:Spc:=cY (a1 Cond) LC (enc (X:=Int)) fun x y=> y=0
theorem xt (h1:S dB=Fc):Walk fg eZ S (a1 Cond) LC (enc (X:=Int)) fun x y=> y=0:=by
 rintro x hx
 simp[fg,eZ,h1,hx, -Bool.forall_bool]
abbrev yR:Spc:=cY (a3 Cond Int Int) (fun x=> LC x.1∧x.2=(0,1)) (DX (Y:=Int) (Z:=Int)) fun x y=> y=(1,1)
theorem xr:Walk ff eY S (a3 Cond Int Int) (fun x=> LC x.1∧x.2=(0,1)) (DX (Y:=Int) (Z:=Int)) fun x y=> y=(1,1):=by
 rintro⟨⟨op,name,arg,val,lab,fold,kids⟩,n,d⟩ ⟨⟨h1,h2,h3,h4⟩,h5⟩
 simp only at h1 h2 h3 h4 h5
 simp only[Prod.mk.injEq] at h5
 obtain⟨rfl,rfl⟩:=h5
 subst h1;subst h2;subst h3;subst h4
 simp[ff,eY, -Bool.forall_bool]
 refine⟨by simp only[InR];omega,?_⟩
 refine aw (X:=Unit) [1,8] [] 0 (fun _ _=> True) (fun _=> []) (fun _=> []) () (by simp) (by simp) (by omega) (by simp) (by simp) trivial (by simp) (by simp) (fun k x hk=> absurd hk (by omega)) (fun _ _=> ?_)
 simp
abbrev Ka:Spc:=cY (aE Cond (aD a0)) (fun x=> LC x.1∧x.2.1= .clo bu []) (enc (X:=Int)) fun x y=> y=0
theorem A0 (h1:S bu=Bn):Walk hJ gO S (aE Cond (aD a0)) (fun x=> LC x.1∧x.2.1= .clo bu []) (enc (X:=Int)) fun x y=> y=0:=by
 rintro⟨⟨op,name,arg,val,lab,fold,kids⟩,d,⟨⟩⟩ ⟨hx,hd⟩
 have hx':=hx
 obtain⟨h1',h2,h3,h4⟩:=hx'
 simp only at h1' h2 h3 h4 hd
 subst h1';subst h2;subst h3;subst h4;subst hd
 simp[hJ,gO,h1,hx, -Bool.forall_bool]
 refine aw (X:=Unit) [] [] 0 (fun _ _=> True) (fun _=> []) (fun _=> []) () (by simp) (by simp) (by omega) (by simp) (by simp) trivial (by simp) (by simp) (fun k x hk=> absurd hk (by omega)) (fun _ _=> ?_)
 simp
abbrev Ff:Spc:=cY (a1 Cond) LC (enc (X:=Bool)) fun x y=> y=true
theorem zA (h1:S bF=yR) (h2:S ca=Ka):Walk gn gg S (a1 Cond) LC (enc (X:=Bool)) fun x y=> y=true:=by
 rintro x hx
 simp[gn,gg,h1,h2,hx, -Bool.forall_bool]
abbrev Bp:Spc:=cY (a1 Pat) (fun p=> LC p.cond) (enc (X:=Bool)) fun x y=> y=false
theorem AZ (h1:S dC=Ff):Walk hD gN S (a1 Pat) (fun p=> LC p.cond) (enc (X:=Bool)) fun x y=> y=false:=by
 rintro x hx
 simp[hD,gN,h1,hx, -Bool.forall_bool]
abbrev Od:Spc:=cY (a1 Glob) (fun g=> g=GlobE) (enc (X:=Bool)) fun x y=> y=true
theorem JA:Walk jq jn S (a1 Glob) (fun g=> g=GlobE) (enc (X:=Bool)) fun x y=> y=true:=by
 rintro x rfl
 simp[jq,jn,GlobE,E0, -Bool.forall_bool]
abbrev Kf:Spc:=cY (a1 Glob) (fun g=> g=GlobE) (enc (X:=Bool)) fun x y=> y=true
theorem HP (h1:S gU=Od):Walk ix iq S (a1 Glob) (fun g=> g=GlobE) (enc (X:=Bool)) fun x y=> y=true:=by
 rintro x rfl
 simp[ix,iq,h1, -Bool.forall_bool]
abbrev Oi:Spc:=cY (aE (List Filt) (aD a0)) (fun x=> x.1= []) (enc (X:=Int)) fun x y=> y= -1
theorem rh:Walk di de S (aE (List Filt) (aD a0)) (fun x=> x.1= []) (enc (X:=Int)) fun x y=> y= -1:=by
 rintro⟨l,d,⟨⟩⟩ h
 have h:l= []:=h
 subst h
 simp[di,de, -Bool.forall_bool]
 refine aw (X:=Unit) [] [] 0 (fun _ _=> True) (fun _=> []) (fun _=> []) () (by simp) (by simp) (by omega) (by simp) (by simp) trivial (by simp) (by simp) (fun k x hk=> absurd hk (by omega)) (fun _ _=> ?_)
 simp
abbrev Ok:Spc:=cY (aE (List Filt) (aD a0)) (fun x=> x.1= []) (enc (X:=Bool)) fun x y=> y=false
theorem pe (h1:S b9=Oi):Walk cF cC S (aE (List Filt) (aD a0)) (fun x=> x.1= []) (enc (X:=Bool)) fun x y=> y=false:=by
 rintro⟨l,d,⟨⟩⟩ h
 have h:l= []:=h
 subst h
 simp[cF,cC,h1, -Bool.forall_bool]
end Go.Gv

namespace Go.Gv
section
variable {P:Program} {im:List Nat} {E:pR} {S:Nat→Spc}
theorem yH {f:Nat} {fn:Func} {rs:List aK} {A:PT} (hce:fp P f) {N:Nat} (hN:fn.ntmps=N) (hrs:fn.results.toList.mapM (fC P)=some rs) {V: (D→ae→Prop)→List D→ae→Prop}
 (hrun: ∀ (E:pR) (ds':List D) (H0:ae) (Q:D→ae→Prop) (vs:List Value) (w:World) (R:Ending→World→Prop),E.ds= []→E.N=N→vs.length=ds'.length→St E (eS ds') H0 { tmps:=vs.toArray++Array.replicate (fn.ntmps -vs.toArray.size) undef,defers:= [] } w→V Q ds' H0→
   (∀ (a':Act) (w':World) (σ':Sg) (H':ae) (dl:List Deferred),St { E with ds:=dl } σ' H' a' w'→(l8 rs σ' H' fun ds=> Q (dt ds) H')→ ∃v,(results fn a'.tmps).run P w'= .ok v w'∧R (.returned v) w')→Calls P f vs.toArray w R)
 (hA: ∀ (ds:List D) (H:ae) (d:Nat) (K:D→ae→Prop),A d ds H K→ds.length≤N∧
   ∃ (ds':List D) (H0:ae) (ι:Nat→Nat),LeL ds ds'∧(∀i r,H0 i=some r→H (ι i)=some r)∧(∀i j r s,H0 i=some r→H0 j=some s→ι i=ι j→i=j)∧
    ∃Q:D→ae→Prop,V Q ds' H0∧ ∀r H',Q r H'→ ∃ (r':D) (Hf Hc:ae) (κ:Nat→Option Nat),FrzTo Hf r r'∧(∀j q,Hf j=some q→H' j=some q∧ ∀i,κ i≠some j)∧K r' Hc∧
     (∀i s,Hc i=some s→match κ i with | some j=> H' j=some s | none=> H i=some s∧ ∀k q,H0 k=some q→ι k≠i)∧
     (∀i j k s q,Hc i=some s→Hc j=some q→κ i=some k→κ j=some k→i=j)):Tri P f A:=by
 intro O tp w vs ds H d K hO htl hsat hlen hargs hAK
 refine⟨hce,?_⟩
 obtain⟨hdN,ds',H0,ι,hle,hsub,hinj,Q,hv,hQ⟩:=hA ds H d K hAK
 -- the callee's constants
 let passed:Nat→Prop:=fun i=> ∃k q,H0 k=some q∧ι k=i
 let rest:Nat→Prop:=fun b=> ∃i r,H i=some r∧ ¬passed i∧r.blk=some b
 let E:pR:= { O:=fun b=> O b∨rest b,tp0:=tp,w0:=w,own0:=eU H0,N:=N }
 have hownH0: ∀b,eU H0 b→eU H b:=fun b ⟨i,r,h1,h2⟩=> ⟨ι i,r,hsub i r h1,h2⟩
 have hrestlt: ∀b,rest b→b < w.heap.size:=fun b ⟨i,r,h1,_,h2⟩=> (hsat.ok i r h1).lt h2
 have hrestown: ∀b,rest b→ ¬eU H0 b:=fun b ⟨i,r,h1,h2,h3⟩ ⟨j,s,h4,h5⟩=> h2 ⟨j,s,h4,(hsat.dis i (ι j) r s b h1 (hsub j s h4) h3 h5).symm⟩
 have himm: ∀b,cL O tp H w b→cL E.O tp H0 w b:=fun b hb=> ⟨hb.1,fun h=> h.elim hb.2.1 (fun⟨i,r,h1,_,h2⟩=> hb.2.2.2 ⟨i,r,h1,h2⟩),hb.2.2.1,fun h=> hb.2.2.2 (hownH0 b h)⟩
 have hmove: ∀x e,R tp (cL O tp H w) w x e→R tp (cL E.O tp H0 w) w x e:=fun x e hr=> hr.mono (fun _ h=> h) (fun b hb=> ⟨himm b hb,rfl⟩) (fun b _=> .refl _ _)
 have hstw:StW E tp H0 w:=by
  refine⟨fun b hb=> hb.elim (hO b) (hrestlt b),fun b h=> h,fun b h=> .inl h,⟨htl.1,htl.2.mono (fun _ h=> h) hownH0⟩, .refl _ _ _,fun b hb=> .inl hb,⟨fun i j r s b h1 h2 h3 h4=> ?_,fun i r b h1 h2=> ⟨fun h=> ?_,?_⟩,fun i r h1=> ?_⟩⟩
  ·exact hinj i j r s h1 h2 (hsat.dis _ _ r s b (hsub i r h1) (hsub j s h2) h3 h4)
  ·rcases h with h | h
   ·exact(hsat.out _ r b (hsub i r h1) h2).1 h
   ·exact hrestown b h ⟨i,r,h1,h2⟩
  ·exact(hsat.out _ r b (hsub i r h1) h2).2
  ·exact(hsat.ok _ r (hsub i r h1)).conv hmove (fun _ _=> rfl)
 have hst:St E (eS ds') H0 { tmps:=vs.toArray++Array.replicate (fn.ntmps -vs.toArray.size) undef,defers:= [] } w:=by
  refine⟨rfl,?_,tp,hstw,fun t=> ?_⟩
  ·show(vs.toArray++Array.replicate (fn.ntmps -vs.toArray.size) undef).size=N
   simp
   omega
  ·unfold eS
   cases hd:ds'[t]? with
   | none=> exact .any _
   | some e'=>
     have hlt:t < vs.length:=by rw[hlen,hle.1];exact(List.getElem?_eq_some_iff.1 hd).1
     have hlt':t < ds.length:=by rw[←hlen];exact hlt
     have hg: (vs.toArray++Array.replicate (fn.ntmps -vs.toArray.size) undef).getD t undef=vs[t]:=by
      rw[Array.getD_eq_getD_getElem?,Array.getElem?_append_left (by simpa using hlt)]
      simp[hlt]
     simp only[Option.getD_some,hg]
     have he:=List.getElem?_eq_getElem hlt'
     exact(hle.2 t _ e' he hd).R (H:=cZ) (fun i r h=> by cases h) (fun _ h=> h) (fun i r b h=> by cases h) (hmove _ _ (hargs t _ _ (by simp[hlt]) he))
 -- at the end
 have fin: ∀ (a':Act) (w':World) (σ':Sg) (H':ae) (dl:List Deferred),St { E with ds:=dl } σ' H' a' w'→(l8 rs σ' H' fun ds=> Q (dt ds) H')→
  ∃v,(results fn a'.tmps).run P w'= .ok v w'∧Pn O tp H w K (.returned v) w':=by
  intro a' w' σ' H' dl hst' hres
  obtain⟨hd',hN',tp',hw0,hr0⟩:=hst'
  have hw':StW E tp' H' w':=⟨hw0.1,hw0.2,hw0.3,hw0.4,hw0.5,hw0.6,hw0.7⟩
  have hr': ∀t,R tp' (cL E.O tp' H' w') w' (a'.tmps.getD t undef) (σ' t):=hr0
  obtain⟨v,r0,hrun',hR,hq⟩:=od (K:=fun r=> Q r H') hrs hr' hw'.sat.ok hres
  obtain⟨r,Hf,Hc,κ,hfz,hHf,hK,hκ,hκi⟩:=hQ r0 H' hq
  refine⟨v,hrun',v,r,Hc,tp',rfl,hK,hw'.tpx,hw'.tpn,hw'.tpl.1,?_,?_,?_,?_⟩
  ·-- the step
   have hs:=hw'.step
   exact⟨hs.os,hs.tape,hs.output,hs.size,fun b hb ho ht=> hs.same b hb (fun h=> ho (hownH0 b h)) ht,hs.tapes,hs.drawn⟩
  all_goals
   have hkn: ∀i s,Hc i=some s→(∃j,κ i=some j∧H' j=some s)∨(κ i=none∧H i=some s∧ ¬passed i):=fun i s hi=> by
    have:=hκ i s hi
    cases hk:κ i with
    | some j=> rw[hk] at this;exact .inl ⟨j,rfl,this⟩
    | none=> rw[hk] at this;exact .inr ⟨rfl,this.1,fun⟨k,q,h1,h2⟩=> this.2 k q h1 h2⟩
  ·intro b ⟨i,s,h1,h2⟩
   rcases hkn i s h1 with⟨j,_,h3⟩ | ⟨_,h3,_⟩
   ·rcases hw'.loc b ⟨j,s,h3,h2⟩ with h4 | h4
    ·exact .inl (hownH0 b h4)
    ·exact .inr h4
   ·exact .inl ⟨i,s,h3,h2⟩
  all_goals
   have hownc: ∀b,eU Hc b→eU H' b∨rest b:=fun b ⟨i,s,h1,h2⟩=> by
    rcases hkn i s h1 with⟨j,_,h3⟩ | ⟨_,h3,h4⟩
    ·exact .inl ⟨j,s,h3,h2⟩
    ·exact .inr ⟨i,s,h3,h4,h2⟩
   have himmc: ∀b,cL E.O tp' H' w' b→cL O tp' Hc w' b:=fun b hb=> ⟨hb.1,fun h=> hb.2.1 (.inl h),hb.2.2.1,fun h=> by
    rcases hownc b h with h | h
    ·exact hb.2.2.2 h
    ·exact hb.2.1 (.inr h)⟩
   have hmovec: ∀x e,R tp' (cL E.O tp' H' w') w' x e→R tp' (cL O tp' Hc w') w' x e:=fun x e hr=> hr.mono (fun _ h=> h) (fun b hb=> ⟨himmc b hb,rfl⟩) (fun b _=> .refl _ _)
  ·refine⟨fun i j s q b h1 h2 h3 h4=> ?_,fun i s b h1 h2=> ?_,fun i s h1=> ?_⟩
   ·rcases hkn i s h1 with⟨i',e1,k1⟩ | ⟨e1,k1,p1⟩
    ·rcases hkn j q h2 with⟨j',e2,k2⟩ | ⟨e2,k2,p2⟩
     ·have:=hw'.sat.dis i' j' s q b k1 k2 h3 h4
      subst this
      exact hκi i j i' s q h1 h2 e1 e2
     ·exact absurd (Or.inr ⟨j,q,k2,p2,h4⟩) (hw'.sat.out i' s b k1 h3).1
    ·rcases hkn j q h2 with⟨j',e2,k2⟩ | ⟨e2,k2,p2⟩
     ·exact absurd (Or.inr ⟨i,s,k1,p1,h3⟩) (hw'.sat.out j' q b k2 h4).1
     ·exact hsat.dis i j s q b k1 k2 h3 h4
   ·rcases hkn i s h1 with⟨i',e1,k1⟩ | ⟨e1,k1,p1⟩
    ·have:=hw'.sat.out i' s b k1 h2
     exact⟨fun h=> this.1 (.inl h),this.2⟩
    ·have h3:=hsat.out i s b k1 h2
     refine⟨h3.1,fun h=> ?_⟩
     rcases hw'.tpn b h with h4 | h4
     ·exact h3.2 h4
     ·have:=(hsat.ok i s k1).lt h2
      have h4':w.heap.size≤b:=h4
      omega
   ·rcases hkn i s h1 with⟨i',e1,k1⟩ | ⟨e1,k1,p1⟩
    ·exact(hw'.sat.ok i' s k1).conv hmovec (fun _ _=> rfl)
    ·-- a resource that was not handed in is as it was
     have hs:=hw'.step
     have hsame: ∀b,b < w.heap.size→ ¬eU H0 b→ ¬tp b→w'.heap[b]?=w.heap[b]?:=hs.same
     refine(hsat.ok i s k1).conv (fun x e hr=> ?_) (fun b hb=> hsame b ((hsat.ok i s k1).lt hb) (hrestown b ⟨i,s,k1,p1,hb⟩) (hsat.out i s b k1 hb).2)
     refine hr.mono hw'.tpx (fun b hb=> ?_) hs.tapes
     have h0: ¬eU H0 b:=fun h=> hb.2.2.2 (hownH0 b h)
     have hsz:w.heap.size≤w'.heap.size:=hs.size
     have hbl:b < w.heap.size:=hb.1
     refine⟨⟨by omega,hb.2.1,fun h=> ?_,fun h=> ?_⟩,hsame b hb.1 h0 hb.2.2.1⟩
     ·rcases hw'.tpn b h with h4 | h4
      ·exact hb.2.2.1 h4
      ·have h4':w.heap.size≤b:=h4
       omega
     ·rcases hownc b h with h | h
      ·rcases hw'.loc b h with h4 | h4
       ·exact h0 h4
       ·have h4':w.heap.size≤b:=h4
        omega
      ·obtain⟨j,q,h5,_,h6⟩:=h
       exact hb.2.2.2 ⟨j,q,h5,h6⟩
  ·refine hfz.R (H:=cZ) (fun i q hi=> hw'.sat.ok i q (hHf i q hi).1) himmc (fun i q b hi hb=> ?_) hR
   obtain⟨hi',hne⟩:=hHf i q hi
   have ho:=hw'.sat.out i q b hi' hb
   refine⟨(hw'.sat.ok i q hi').lt hb,fun h=> ho.1 (.inl h),ho.2,fun⟨j,s,h1,h2⟩=> ?_⟩
   rcases hkn j s h1 with⟨j',e1,k1⟩ | ⟨e1,k1,p1⟩
   ·have:=hw'.sat.dis i j' q s b hi' k1 hb h2
    subst this
    exact hne j e1
   ·exact ho.1 (.inr ⟨j,s,k1,p1,h2⟩)
 exact hrun E ds' H0 Q vs w _ rfl rfl (by rw[hlen,hle.1]) hst hv fin
theorem WA {f:Nat} {fn:Func} {rs:List aK} {X Y:Type} {A:lB X} {pre:X→Prop} {er:Y→D} {post:X→Y→Prop} (hce:fp P f) {N:Nat} (hN:fn.ntmps=N) (hrs:fn.results.toList.mapM (fC P)=some rs)
 (hAN: ∀x,(A.view x).length≤N) {V: (D→ae→Prop)→List D→ae→Prop}
 (hrun: ∀ (E:pR) (ds':List D) (H0:ae) (Q:D→ae→Prop) (vs:List Value) (w:World) (R:Ending→World→Prop),E.ds= []→E.N=N→vs.length=ds'.length→St E (eS ds') H0 { tmps:=vs.toArray++Array.replicate (fn.ntmps -vs.toArray.size) undef,defers:= [] } w→V Q ds' H0→
   (∀ (a':Act) (w':World) (σ':Sg) (H':ae) (dl:List Deferred),St { E with ds:=dl } σ' H' a' w'→(l8 rs σ' H' fun ds=> Q (dt ds) H')→ ∃v,(results fn a'.tmps).run P w'= .ok v w'∧R (.returned v) w')→Calls P f vs.toArray w R)
 (hw: ∀x,pre x→V (fun r H'=> Fin er (post x) r H') (A.view x) cZ):Tri P f (cY A pre er post).pt:=by
 refine yH hce hN hrs hrun ?_
 intro ds H d K hA
 rw[tj] at hA
 cases hd:A.dec ds with
 | none=> rw[hd] at hA;exact hA.elim
 | some x=>
   rw[hd] at hA
   obtain⟨hp,hK⟩:=hA
   have hl:=A.le ds x hd
   refine⟨by rw[hl.1];exact hAN x,A.view x,cZ,id,hl,fun i r h=> by simp[cZ] at h,fun i j r s h=> by simp[cZ] at h,_,hw x hp,?_⟩
   rintro r H' ⟨y,hf,hpost⟩
   exact⟨er y,H',H,fun _=> none,hf,fun j q h=> ⟨h,fun i=> by simp⟩,hK y hpost,fun i s hi=> ⟨hi,fun k q h=> by simp[cZ] at h⟩,fun i j k s q _ _ h=> by cases h⟩
end
end Go.Gv
