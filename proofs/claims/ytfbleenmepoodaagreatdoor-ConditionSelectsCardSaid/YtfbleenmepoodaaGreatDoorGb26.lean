/- A part of the framework and of the walks: W150 V50 V51 V52 V53 V54 V3 V55 W151. -/
import Derived.Laws.RangeString
import Derived.Test.YtfbleenmepoodaaGreatDoorGb25
set_option linter.unusedSimpArgs false
set_option linter.unusedVariables false
set_option linter.unusedSectionVars false
set_option linter.defProp false
set_option maxRecDepth 100000
namespace Go.Gv
open Cod (enc dec)
variable {S S0:Nat->Spc}
def FunOn{X Y:Type}[Cod X][Cod Y](S:Nat->Spc)(d:D)(l:List X)(p:X->Y):Prop:=
 ∃g caps pc,d= .clo g caps/\S g= .pure pc/\∀x∈l,pc.pre (enc x::caps)/\∀r,pc.post (enc x::caps) r->r=enc (p x)
def FunOn.useB{X:Type}[Cod X]{S:Nat->Spc}{d:D}{l:List X}{p:X->Bool}(h:FunOn S d l p){x:X}(hx:x∈l){d':Nat}{H:ab}{K:D->ab->Prop}(hk:∀y:Bool,(∀q:X->Bool,FunOn S d l q->y=q x)->K (.v (.bool y)) H):Az S d d' [enc x] H K:=by
 obtain⟨g,caps,pc,rfl,h1,h2⟩:=h;simp only[Az,h1,Spc.pt];refine⟨(h2 x hx).1,λr hr=>?_⟩;have e:=(h2 x hx).2 r hr;rw[e];refine hk (p x) λq hq=>?_
 obtain⟨g',caps',pc',e',k1,k2⟩:=hq;cases e';rw[h1]at k1;cases k1;exact bJ (e.symm.trans ((k2 x hx).2 r hr))
def oj{X Y Z:Type}[Cod X][Cod Y]{S:Nat->Spc}{g:Nat}{caps:List D}{A:eZ Z}{pre:Z->Prop}{post:Z->Y->Prop}{l:List X}{p:X->Y}{f:X->Z}(h:S g=aY A pre enc post)(hd:∀x∈l,A.dec (enc x::caps)=some (f x))(hp:∀x∈l,pre (f x))(hq:∀x∈l,∀y,post (f x) y->y=p x):FunOn S (.clo g caps) l p:=by
 refine⟨g,caps,_,rfl,h,λx hx=>⟨⟨f x,hd x hx,hp x hx⟩,λr hr=>?_⟩⟩;obtain⟨y,h1,h2⟩:=hr (f x) (hd x hx) (hp x hx);rw[h1,hq x hx y h2]
def Ke{X:Type}[Cod X](S0:Nat->Spc)(x:List X×D×Unit):Prop:=∃p:X->Bool,FunOn S0 x.2.1 x.1 p
def Vt{X:Type}[Cod X](S0:Nat->Spc)(x:List X×D×Unit)(y:Int):Prop:=∀p:X->Bool,FunOn S0 x.2.1 x.1 p->y=ln x.1 p
def Yp{X:Type}[Cod X](S0:Nat->Spc)(x:List X×D×Unit)(y:Bool):Prop:=∀p:X->Bool,FunOn S0 x.2.1 x.1 p->y=x.1.any p
abbrev IB(X:Type)[Cod X](S0:Nat->Spc):Spc:=aY (aE (List X) (aD a0)) (Ke S0) (enc (X:=Int)) (Vt S0)
abbrev LE(X:Type)[Cod X](S0:Nat->Spc):Spc:=aY (aE (List X) (aD a0)) (Ke S0) (enc (X:=Bool)) (Yp S0)
theorem DS:av di dc S (aE (List Attr) (aD a0)) (Ke S) (enc (X:=Int)) (Vt S):=by
 rintro⟨l,d,⟨⟩⟩ ⟨p,hp⟩;simp only at hp;simp[di,dc, -Bool.forall_bool, -Bool.exists_bool];intro _;refine ak (X:=Unit) [0,1] [] l.length (λk _=>∀p:Attr->Bool,FunOn S d l p->∀x∈l.take k,p x=false) (λ_=>[]) (λ_=>[]) () (by simp) (by simp) (by omega) (by simp) (by simp) (by simp) (by simp) (by simp) ?_ ?_
 ·intro k _ hk hP;obtain⟨x,hx⟩:∃x,l[k]? =some x:=⟨_,qmd hk⟩
  obtain⟨_,hgx⟩:=qmb.1 hx;simp[hk,hx,hgx, -Bool.forall_bool, -Bool.exists_bool];refine hp.useB (x:=x) (qme hx) λy hy=>?_
  simp[-Bool.forall_bool, -Bool.exists_bool];refine⟨λh=>?_,λh p' hp'=>?_⟩
  ·intro p' hp';exact(nU hx (by rw[<-hy p' hp',h]) (hP p' hp')).symm
  ·rw[aK hx];intro z hz;rcases qml.1 hz with hz|hz
   ·exact hP p' hp' z hz
   ·simp at hz;subst hz;rw[<-hy p' hp',h]
 ·intro _ hP;simp[-Bool.forall_bool, -Bool.exists_bool];intro p' hp';exact(iy (by simpa using hP p' hp')).symm
theorem GB:av eH eE S (aE (List Cond) (aD a0)) (Ke S) (enc (X:=Int)) (Vt S):=by
 rintro⟨l,d,⟨⟩⟩ ⟨p,hp⟩;simp only at hp;simp[eH,eE, -Bool.forall_bool, -Bool.exists_bool];intro _;refine ak (X:=Unit) [0,1] [] l.length (λk _=>∀p:Cond->Bool,FunOn S d l p->∀x∈l.take k,p x=false) (λ_=>[]) (λ_=>[]) () (by simp) (by simp) (by omega) (by simp) (by simp) (by simp) (by simp) (by simp) ?_ ?_
 ·intro k _ hk hP;obtain⟨x,hx⟩:∃x,l[k]? =some x:=⟨_,qmd hk⟩
  obtain⟨_,hgx⟩:=qmb.1 hx;simp[hk,hx,hgx, -Bool.forall_bool, -Bool.exists_bool];have e:D.agg [.v (.int .i64 x.op), .v (.string x.name), .v (.string x.arg), .v (.string x.val), .v (.string x.lab), .v (.bool x.fold), .list 7 (x.kids.map enc)]=enc x:=by simp
  rw[e];refine hp.useB (x:=x) (qme hx) λy hy=>?_
  simp[-Bool.forall_bool, -Bool.exists_bool];refine⟨λh=>?_,λh p' hp'=>?_⟩
  ·intro p' hp';exact(nU hx (by rw[<-hy p' hp',h]) (hP p' hp')).symm
  ·rw[aK hx];intro z hz;rcases qml.1 hz with hz|hz
   ·exact hP p' hp' z hz
   ·simp at hz;subst hz;rw[<-hy p' hp',h]
 ·intro _ hP;simp[-Bool.forall_bool, -Bool.exists_bool];intro p' hp';exact(iy (by simpa using hP p' hp')).symm
def GD(h1:S dr=IB Cond S0):av dF dD S (aE (List Cond) (aD a0)) (Ke S0) (enc (X:=Bool)) (Yp S0):=by
 rintro⟨l,d,⟨⟩⟩ hp;simp[dF,dD,h1, -Bool.forall_bool, -Bool.exists_bool];refine⟨hp,λy hy p' hp'=>?_⟩;rw[hy p' hp'];exact Al p' l
theorem RY:av eT eM S (aE (List Int) (aD a0)) (Ke S) (enc (X:=Int)) (Vt S):=by
 rintro⟨l,d,⟨⟩⟩ ⟨p,hp⟩;simp only at hp;simp[eT,eM, -Bool.forall_bool, -Bool.exists_bool];intro _;refine ak (X:=Unit) [0,1] [] l.length (λk _=>∀p:Int->Bool,FunOn S d l p->∀x∈l.take k,p x=false) (λ_=>[]) (λ_=>[]) () (by simp) (by simp) (by omega) (by simp) (by simp) (by simp) (by simp) (by simp) ?_ ?_
 ·intro k _ hk hP;obtain⟨x,hx⟩:∃x,l[k]? =some x:=⟨_,qmd hk⟩
  obtain⟨_,hgx⟩:=qmb.1 hx;simp[hk,hx,hgx, -Bool.forall_bool, -Bool.exists_bool];refine hp.useB (x:=x) (qme hx) λy hy=>?_
  simp[-Bool.forall_bool, -Bool.exists_bool];refine⟨λh=>?_,λh p' hp'=>?_⟩
  ·intro p' hp';exact(nU hx (by rw[<-hy p' hp',h]) (hP p' hp')).symm
  ·rw[aK hx];intro z hz;rcases qml.1 hz with hz|hz
   ·exact hP p' hp' z hz
   ·simp at hz;subst hz;rw[<-hy p' hp',h]
 ·intro _ hP;simp[-Bool.forall_bool, -Bool.exists_bool];intro p' hp';exact(iy (by simpa using hP p' hp')).symm
def RZ(h1:S dE=IB Int S0):av dM dJ S (aE (List Int) (aD a0)) (Ke S0) (enc (X:=Bool)) (Yp S0):=by
 rintro⟨l,d,⟨⟩⟩ hp;simp[dM,dJ,h1, -Bool.forall_bool, -Bool.exists_bool];refine⟨hp,λy hy p' hp'=>?_⟩;rw[hy p' hp'];exact Al p' l
theorem KW:av dL dI S (aE (List Region) (aD a0)) (Ke S) (enc (X:=Int)) (Vt S):=by
 rintro⟨l,d,⟨⟩⟩ ⟨p,hp⟩;simp only at hp;simp[dL,dI, -Bool.forall_bool, -Bool.exists_bool];intro _;refine ak (X:=Unit) [0,1] [] l.length (λk _=>∀p:Region->Bool,FunOn S d l p->∀x∈l.take k,p x=false) (λ_=>[]) (λ_=>[]) () (by simp) (by simp) (by omega) (by simp) (by simp) (by simp) (by simp) (by simp) ?_ ?_
 ·intro k _ hk hP;obtain⟨x,hx⟩:∃x,l[k]? =some x:=⟨_,qmd hk⟩
  obtain⟨_,hgx⟩:=qmb.1 hx;simp[hk,hx,hgx, -Bool.forall_bool, -Bool.exists_bool];refine hp.useB (x:=x) (qme hx) λy hy=>?_
  simp[-Bool.forall_bool, -Bool.exists_bool];refine⟨λh=>?_,λh p' hp'=>?_⟩
  ·intro p' hp';exact(nU hx (by rw[<-hy p' hp',h]) (hP p' hp')).symm
  ·rw[aK hx];intro z hz;rcases qml.1 hz with hz|hz
   ·exact hP p' hp' z hz
   ·simp at hz;subst hz;rw[<-hy p' hp',h]
 ·intro _ hP;simp[-Bool.forall_bool, -Bool.exists_bool];intro p' hp';exact(iy (by simpa using hP p' hp')).symm
def KX(h1:S dU=IB Region S0):av dj de S (aE (List Region) (aD a0)) (Ke S0) (enc (X:=Bool)) (Yp S0):=by
 rintro⟨l,d,⟨⟩⟩ hp;simp[dj,de,h1, -Bool.forall_bool, -Bool.exists_bool];refine⟨hp,λy hy p' hp'=>?_⟩;rw[hy p' hp'];exact Al p' l
end Go.Gv
namespace Go.Gv
open Cod (enc dec)
structure U64 where
 val:Int
deriving DecidableEq
instance:Cod U64 where
 wd:=1
 enc n:= .v (.int .u64 n.val)
 dec| .v (.int .u64 n)=>some ⟨n⟩|_=>none
 kn _:=rfl
 wid _:=rfl
 dec_enc _:=rfl
 le d x h:=by
  split at h
  ·cases h;exact .same _
  ·cases h
@[simp] theorem qgt(n:U64):enc n= .v (.int .u64 n.val):=id rfl
@[simp] theorem qhq:Cod.wd U64=1:=id rfl
@[simp] theorem qgA(n:Int):dec (X:=U64) (.v (.int .u64 n))=some ⟨n⟩:=id rfl
@[simp] theorem qgn(n:U64):U64.mk n.val=n:=id rfl
structure Rng where
 fr:I32
 to:I32
deriving DecidableEq
instance:Cod Rng where
 wd:=2
 enc s:= .agg [enc s.fr,enc s.to]
 dec| .agg [x0,x1]=>(dec x0).bind λx0=>(dec x1).bind λx1=>some ⟨x0,x1⟩|_=>none
 kn _:=rfl
 wid _:=rfl
 dec_enc s:=by simp
 le d x h:=by
  split at h
  ·simp only[ql9]at h;obtain⟨x0,h0,x1,h1,h⟩:=h;cases h;exact LeL.agg (.cons (Cod.le _ _ h0) (.cons (Cod.le _ _ h1) .nil))
  ·cases h
@[simp] theorem qgq(s:Rng):(Rng.mk s.fr s.to)=s:=id rfl
@[simp] theorem qgw(s:Rng):enc s= .agg [enc s.fr,enc s.to]:=id rfl
@[simp] theorem qhu:Cod.wd Rng=2:=id rfl
@[simp] theorem qgD(x0 x1:D):dec (X:=Rng) (.agg [x0,x1])=((dec x0).bind λx0=>(dec x1).bind λx1=>some ⟨x0,x1⟩):=id rfl
structure Rx where
 op:Int
 mn:Int
 mx:Int
 rs:List Rng
 kids:List Rx
mutual
def Fa:Rx->D
 | .mk op mn mx rs ks=> .agg [enc op,enc mn,enc mx,enc rs, .list 5 (tI ks)]
def tI:List Rx->List D
 | []=>[]
 | k::ks=>Fa k::tI ks
end
mutual
def Mx:D->Option Rx
 | .agg [x0,x1,x2,x3,x4]=>(dec x0).bind λop=>(dec x1).bind λmn=>(dec x2).bind λmx=>(dec x3).bind λrs=>(Ci x4).bind λks=>some (.mk op mn mx rs ks)
 | _=>none
def Ci:D->Option (List Rx)
 | .list n es=>if n=5 then vy es else none
 | .v (.slice none 0 0)=>some []
 | _=>none
def vy:List D->Option (List Rx)
 | []=>some []
 | d::ds=>(Mx d).bind λx=>(vy ds).bind λxs=>some (x::xs)
end
def BN:∀l:List Rx,tI l=l.map Fa
 | []=>rfl
 | _::l=>by rw[tI,BN l];rfl
def PH:∀c:Rx,(Fa c).kn=true
 | .mk .. =>rfl
def Mp:∀c:Rx,(Fa c).cells.length=5
 | .mk .. =>rfl
mutual
def Mw:∀c:Rx,Mx (Fa c)=some c
 | .mk op mn mx rs ks=>by
   have h:Ci (.list 5 (tI ks))=some ks:=by rw[Ci,if_pos rfl];exact Hq ks
   simp only[Fa,Mx,Cod.dec_enc,qmx,h]
def Hq:∀l:List Rx,vy (tI l)=some l
 | []=>by simp only[tI,vy]
 | c::l=>by simp only[tI,vy,Mw c,Hq l,qmx]
end
mutual
def PM:∀ (d:D) (c:Rx),Mx d=some c->FrzTo cw d (Fa c)
 | .agg [x0,x1,x2,x3,x4],c,h=>by
   simp only[Mx,ql9,qmp]at h;obtain⟨op,h0,mn,h1,mx,h2,rs,h3,ks,h4,rfl⟩:=h;rw[Fa];exact LeL.agg (.cons (Cod.le _ _ h0) (.cons (Cod.le _ _ h1) (.cons (Cod.le _ _ h2) (.cons (Cod.le _ _ h3) (.cons (UQ x4 ks h4) .nil)))))
def UQ:∀ (d:D) (l:List Rx),Ci d=some l->FrzTo cw d (.list 5 (tI l))
 | .list n es,l,h=>by
   simp only[Ci]at h;split at h
   ·rename_i hn;subst hn;have hl:=Mv es l h;refine .list hl.1 (λe he=>?_) hl.2;rw[BN]at he;obtain⟨x,hx,rfl⟩:=qmo.1 he;exact⟨PH x,Mp x⟩
   ·cases h
 | .v (.slice none 0 0),l,h=>by
   simp only[Ci,qmp]at h;subst h;exact .nil _
def Mv:∀ (es:List D) (l:List Rx),vy es=some l->LeL es (tI l)
 | [],l,h=>by
   simp only[vy,qmp]at h;subst h;exact .nil
 | d::ds,l,h=>by
   simp only[vy,ql9,qmp]at h;obtain⟨x,h1,xs,h2,rfl⟩:=h;rw[tI];exact .cons (PM d x h1) (Mv ds xs h2)
end
instance:Cod Rx where
 wd:=5
 enc:=Fa
 dec:=Mx
 kn:=PH
 wid:=Mp
 dec_enc:=Mw
 le:=PM
def Rt(ks:List Rx):D.list 5 (tI ks)=enc ks:=by rw[BN];rfl
def UE(op mn mx:Int)(rs:List Rng)(ks:List Rx):enc (Rx.mk op mn mx rs ks)= .agg [enc op,enc mn,enc mx,enc rs,enc ks]:=by
 rw[<-Rt];show Fa _=_;rw[Fa]
def Fg:∀es:List D,vy es=es.mapM (dec (X:=Rx))
 | []=>by simp[vy]
 | d::es=>by
   rw[vy,qmQ,Fg es];rfl
def UR:∀d:D,Ci d=dec (X:=List Rx) d:=λd=>by
 unfold Ci;split
 ·rename_i n es;show _=if n=5 then es.mapM (dec (X:=Rx))else none
  rw[Fg]
 ·rfl
 ·rename_i h1 h2;show _=(match d with
   | .list n es=>if n=5 then es.mapM (dec (X:=Rx))else none
   | .v (.slice none 0 0)=>some []
   | _=>none)
  split
  ·exact absurd rfl (h1 _ _)
  ·exact absurd rfl h2
  ·rfl
@[simp] theorem qiW(s:Rx):Rx.mk s.op s.mn s.mx s.rs s.kids=s:=by cases s;rfl
@[simp] theorem qi3(s:Rx):enc s= .agg [enc s.op,enc s.mn,enc s.mx,enc s.rs,enc s.kids]:=by cases s;exact UE ..
@[simp] theorem qj6:Cod.wd Rx=5:=id rfl
@[simp] theorem qjb(x0 x1 x2 x3 x4:D):dec (X:=Rx) (.agg [x0,x1,x2,x3,x4])=((dec x0).bind λx0=>(dec x1).bind λx1=>(dec x2).bind λx2=>(dec x3).bind λx3=>(dec x4).bind λx4=>some ⟨x0,x1,x2,x3,x4⟩):=by
 show Mx _=_;simp only[Mx,UR]
structure Rp where
 s:B
 pos:Int
 fault:Int
 e:Int
def Rp.bump(p:Rp):Rp:={ p with pos:=p.pos+1 }
def Ft(p:Rp):Option Int:=
 if 200 < p.s.size then none else
 if p.pos=p.s.size then some (-1)else
 if 0<=p.pos then match p.s.data[p.pos.toNat]? with
  | some c=>if c.toNat < 128 then some c.toNat else none
  | none=>none
 else none
def Xv(sp:B)(c:Int):Bool:=sp.data.toList.any λx=>decide ((x.toNat:Int)=c)
def iC(p:Rp)(_:Unit):Option (Rp×I32):=(Ft p).map λc=>(p,⟨c⟩)
def GM(p:Rp)(_:Unit):Option (Rp×Unit):=(Ft p).bind λc=>if 0<=c then some (p.bump,())else none
def wR(p:Rp)(_:B):Option (Rp× (I32×Bool)):=(Ft p).bind λc=>if c < 0\/c=92 then none else some (p.bump,⟨c⟩,true)
def PX:B:=⟨#[92,91,93,94,45]⟩
def LS(p:Rp)(_:Unit):Option (Rp× (I32×Bool)):=(Ft p).bind λc=>if c < 0\/Xv PX c=true then none else wR p PX
def Sp(fr to:Int):Rx:=⟨1,0,0, [⟨⟨fr⟩,⟨to⟩⟩], []⟩
def nR(out:List Rng)(r:Rng):List Rng:=match out.getLast? with
 | some q=>if r.fr.val<=q.to.val+1 then out.dropLast++ [⟨q.fr,⟨max q.to.val r.to.val⟩⟩]else out++ [r]
 | none=>[r]
def Bh(l:List Rng):Bool:=match l with
 | [x]=>decide (0<=x.fr.val/\x.fr.val<=1114111/\0<=x.to.val/\x.to.val<=1114111)
 | [x,y]=>decide (0<=x.fr.val/\x.fr.val<=1114111/\0<=x.to.val/\x.to.val<=1114111/\0<=y.fr.val/\y.fr.val<=1114111/\0<=y.to.val/\y.to.val<=1114111/\x.fr.val<=y.fr.val)
 | _=>false
def Af(l:List Rng):List Rng:=l.foldl nR []
def UZ:Nat->Rp->List Rng->Option (Rp×List Rng)
 | 0,_,_=>none
 | n+1,p,l=>(Ft p).bind λc=>if l≠ []/\c=93 then some (p,l)else
   (LS p ()).bind λq=>(Ft q.1).bind λd=>if d=45 then none else UZ n q.1 (l++ [⟨q.2.1,q.2.1⟩])
def Ya(p:Rp)(_:Unit):Option (Rp× (Rx×Bool)):=(Ft p).bind λa=>if a≠91 then none else(Ft p.bump).bind λc=>if c=94 then none else
 (UZ 100 p.bump []).bind λq=>if Bh q.2=true then some (q.1.bump,⟨1,0,0,Af q.2, []⟩,true)else none
def qcq:B:=⟨#[92,46,91,93,40,41,123,125,124,42,43,63]⟩
def P4(p:Rp)(_:Unit):Option (Rp× (Rx×Bool)):=(Ft p).bind λc=>
 if c=40 then none else if c=46 then some (p.bump,Sp 0 1114111,true)else if c=91 then Ya p ()else
 if c≠92/\Xv qcq c=true then none else(wR p qcq).map λq=>(q.1,Sp q.2.1.val q.2.1.val,q.2.2)
def F6(c:Int):Option (Int×Int):=if c=42 then some (0, -1)else if c=43 then some (1, -1)else if c=63 then some (0,1)else none
def Tc(p:Rp)(_:Unit):Option (Rp× (Rx×Bool)):=(P4 p ()).bind λq=>if q.2.2=true then(Ft q.1).bind λc=>if c=123 then none else match F6 c with
 | some m=>(Ft q.1.bump).bind λd=>if d=123\/(F6 d).isSome=true then none else some (q.1.bump,⟨4,m.1,m.2, [], [q.2.1]⟩,true)
 | none=>some (q.1,q.2.1,true)
 else none
def MH:Nat->Rp->List Rx->Option (Rp×List Rx)
 | 0,_,_=>none
 | n+1,p,l=>(Ft p).bind λc=>if c < 0\/c=124\/c=41 then some (p,l)else
   (Tc p ()).bind λq=>if q.2.1.op=2 then none else MH n q.1 (l++ [q.2.1])
def NQ(op:Int):List Rx->Rx
 | [e]=>e
 | l=>⟨op,0,0, [],l⟩
def U2(p:Rp)(_:Unit):Option (Rp× (Rx×Bool)):=(MH 100 p []).map λq=>(q.1,NQ 2 q.2,true)
def R6:Nat->Rp->List Rx->Option (Rp×List Rx)
 | 0,_,_=>none
 | n+1,p,l=>(U2 p ()).bind λq=>(Ft q.1).bind λc=>
   if q.2.1.op=3 then none else if c=124 then R6 n q.1.bump (l++ [q.2.1])else some (q.1,l++ [q.2.1])
def Wp(p:Rp)(_:Unit):Option (Rp× (Rx×Bool)):=(R6 100 p []).map λq=>(q.1,NQ 3 q.2,true)
def qck(f:Rx->Int->Int->Option (Bool×Int))(d:Int):List Rx->Int->Option (Bool×Int)
 | [],k=>some (true,k)
 | x::l,k=>(f x (d+1) k).bind λr=>if r.1=true then qck f d l r.2 else some (false,r.2)
def qp:Nat->Rx->Int->Int->Option (Bool×Int)
 | 0=>λ_ _ _=>none
 | n+1=>λx d k=>if d < 0\/1000 < d\/k < 0\/1000 < k then none else if 40 < d\/200 < k+1 then some (false,k+1)else qck (qp n) d x.kids (k+1)
def Pi(l:List Rng):Bool:=match l with
 | [r]=>decide (0<=r.fr.val/\r.fr.val<=r.to.val/\r.to.val<=1114111)
 | _=>false
def qcB(x:Rx):Bool:=
 if x.op=1 then decide (x.mn=0/\x.mx=0) && x.kids.isEmpty && Pi x.rs else
 if x.op=2 then decide (x.mn=0/\x.mx=0) && x.rs.isEmpty && decide (x.kids.length≠1/\x.kids.length<=300) && x.kids.all λk=>decide (k.op≠2)else
 if x.op=3 then decide (x.mn=0/\x.mx=0) && x.rs.isEmpty && decide (1 < x.kids.length/\x.kids.length<=300) && x.kids.all λk=>decide (k.op≠3)else
 if x.op=4 then decide (0<=x.mn/\x.mn<=16/\(x.mx= -1\/x.mn<=x.mx/\x.mx<=16)) && x.rs.isEmpty && decide (x.kids.length=1)else false
def QR:Nat->Rx->Bool
 | 0=>λ_=>false
 | n+1=>λx=>qcB x && x.kids.all (QR n)
def qcx(f:Rx->Option Int):List Rx->Int->Option Int
 | [],k=>some k
 | x::l,k=>(f x).bind λy=>if k < 0\/1000 < k\/y < 0\/1000 < y then none else qcx f l (min (k+y) 65)
def qcz(x:Rx)(m:Int):Option Int:=
 if x.mx= -1 then(if -1000000<=m*max x.mn 1/\m*max x.mn 1<=1000000 then some (min (m*max x.mn 1) 65)else none)
 else if -1000000<=m*x.mx/\m*x.mx<=1000000 then some (min (m*x.mx) 65)else none
def Es:Nat->Rx->Option Int
 | 0=>λ_=>none
 | n+1=>λx=>if x.op=1 then some 1 else(qcx (Es n) x.kids 0).bind λm=>if x.op≠4 then some m else qcz x m
def xD(n:Nat)(x:Rx):Bool:=(match qp n x 1 0 with|some r=>r.1|none=>false) && QR n x && (match Es n x with|some m=>decide (m<=64)|none=>false)
def tE(s:B):Bool:=s.data.toList.all λc=>decide (c.toNat < 128)
def kj(s:B):Option Rx:=if s.size<=200/\tE s=true then(Wp ⟨s,0,0,0⟩ ()).bind λq=>if q.2.2=true/\q.1.pos=s.size/\xD 50 q.2.1=true then some q.2.1 else none else none
structure Prt where
 first:U64
 last:U64
 nul:Bool
deriving DecidableEq
instance:Cod Prt where
 wd:=3
 enc s:= .agg [enc s.first,enc s.last,enc s.nul]
 dec| .agg [x0,x1,x2]=>(dec x0).bind λx0=>(dec x1).bind λx1=>(dec x2).bind λx2=>some ⟨x0,x1,x2⟩|_=>none
 kn _:=rfl
 wid _:=rfl
 dec_enc s:=by simp
 le d x h:=by
  split at h
  ·simp only[ql9]at h;obtain⟨x0,h0,x1,h1,x2,h2,h⟩:=h;cases h;exact LeL.agg (.cons (Cod.le _ _ h0) (.cons (Cod.le _ _ h1) (.cons (Cod.le _ _ h2) .nil)))
  ·cases h
@[simp] theorem qgr(s:Prt):(Prt.mk s.first s.last s.nul)=s:=id rfl
@[simp] theorem qgx(s:Prt):enc s= .agg [enc s.first,enc s.last,enc s.nul]:=id rfl
@[simp] theorem qgE(x0 x1 x2:D):dec (X:=Prt) (.agg [x0,x1,x2])=((dec x0).bind λx0=>(dec x1).bind λx1=>(dec x2).bind λx2=>some ⟨x0,x1,x2⟩):=id rfl
structure Tbk where
 lvs:List (List Rng)
 fi:U64
 la:U64
 fol:List U64
 nul:Bool
def RE(m:U64)(i:Nat):Bool:=decide (MY .u64 (QD .u64 m.val i) 1=1)
def WS(a b:U64):U64:=⟨qbo .u64 a.val b.val⟩
def Pp(fr to:U64):Nat->List U64->List U64
 | _, []=>[]
 | i,f::l=>(if RE fr i=true then WS f to else f)::Pp fr to (i+1) l
def Ai(t:Tbk)(z:U64×U64):Option (Tbk×Unit):=if t.fol.length<=100000 then some ({ t with fol:=Pp z.1 z.2 0 t.fol },())else none
def qcX(a b:Prt):Prt:=⟨if a.nul=true then WS a.first b.first else a.first,if b.nul=true then WS b.last a.last else b.last,a.nul && b.nul⟩
def tL(t:Tbk)(z:Prt×Prt):Option (Tbk×Prt):=(Ai t (z.1.last,z.2.first)).map λq=>(q.1,qcX z.1 z.2)
def yh:Prt:=⟨⟨0⟩,⟨0⟩,true⟩
def qh8:Prt:=⟨⟨0⟩,⟨0⟩,false⟩
def qd5(f:Tbk->Rx->Option (Tbk×Prt)):List Rx->Tbk->Prt->Option (Tbk×Prt)
 | [],t,p=>some (t,p)
 | x::l,t,p=>(f t x).bind λq=>(tL q.1 (p,q.2)).bind λr=>qd5 f l r.1 r.2
def RI(f:Tbk->Rx->Option (Tbk×Prt)):List Rx->Tbk->Prt->Option (Tbk×Prt)
 | [],t,p=>some (t,p)
 | x::l,t,p=>(f t x).bind λq=>RI f l q.1 ⟨WS p.first q.2.first,WS p.last q.2.last,p.nul||q.2.nul⟩
def Jg(t:Tbk):Bool:=decide (t.lvs.length<=1000/\t.fol.length<=1000)
def qaJ(b r:Tbk->Rx->Option (Tbk×Prt))(t:Tbk)(x:Rx):Option (Tbk×Prt):=
 if Jg t=false\/1000 < x.kids.length then none else
 if x.op=1 then some ({ t with lvs:=t.lvs++ [x.rs],fol:=t.fol++ [⟨0⟩] },⟨⟨It .u64 1 t.lvs.length⟩,⟨It .u64 1 t.lvs.length⟩,false⟩)else
 if x.op=2 then qd5 b x.kids t yh else
 if x.op=3 then RI b x.kids t qh8 else r t x
def qcr(b:Tbk->Rx->Option (Tbk×Prt))(y:Rx)(mx:Int):Nat->Tbk->Prt->Option (Tbk×Prt×Bool)
 | 0,t,p=>some (t,p,false)
 | k+1,t,p=>if Jg t=false then none else(b t y).bind λq=>if Jg q.1=false then none else
   if q.1.lvs.length=t.lvs.length then some (q.1,yh,true)else
   (if mx < 0/\k=0 then Ai q.1 (q.2.last,q.2.first)else some (q.1,())).bind λl=>(tL l.1 (p,q.2)).bind λr=>qcr b y mx k r.1 r.2
def Td(b:Tbk->Rx->Option (Tbk×Prt))(o:Tbk->Rx×Int->Option (Tbk×Prt))(t:Tbk)(x:Rx):Option (Tbk×Prt):=match x.kids with
 | []=>none
 | y::_=>if x.mn < 0\/100 < x.mn\/x.mx < -1\/100 < x.mx then none else
   (qcr b y x.mx x.mn.toNat t yh).bind λq=>if q.2.2=true then some (q.1,yh)else
   if x.mx < 0/\x.mn=0 then(b q.1 y).bind λr=>(Ai r.1 (r.2.last,r.2.first)).map λl=>(l.1, { r.2 with nul:=true })else
   if x.mn < x.mx then(o q.1 (y,x.mx -x.mn)).bind λr=>tL r.1 (q.2.1,r.2)else some (q.1,q.2.1)
def ZR(b:Tbk->Rx->Option (Tbk×Prt))(o:Tbk->Rx×Int->Option (Tbk×Prt))(t:Tbk)(z:Rx×Int):Option (Tbk×Prt):=
 if z.2 < 0\/100 < z.2\/Jg t=false then none else
 if z.2=0 then some (t,yh)else
 (b t z.1).bind λq=>if Jg q.1=false then none else
 if q.1.lvs.length=t.lvs.length then some (q.1,yh)else
 (o q.1 (z.1,z.2 -1)).bind λr=>(tL r.1 (q.2,r.2)).map λl=>(l.1, { l.2 with nul:=true })
structure ql6 where
 b:Tbk->Rx->Option (Tbk×Prt)
 r:Tbk->Rx->Option (Tbk×Prt)
 o:Tbk->Rx×Int->Option (Tbk×Prt)
def yJ:Nat->ql6
 | 0=>⟨λ_ _=>none,λ_ _=>none,λ_ _=>none⟩
 | n+1=>⟨qaJ (yJ n).b (yJ n).r,Td (yJ n).b (yJ n).o,ZR (yJ n).b (yJ n).o⟩
def qlo:Tbk:=⟨[],⟨0⟩,⟨0⟩, [],false⟩
def Ws(n:Nat)(x:Rx):Option Tbk:=((yJ n).b qlo x).map λq=>{ q.1 with fi:=q.2.first,la:=q.2.last,nul:=q.2.nul }
def YT(set:U64):Nat->List U64->U64->U64
 | _, [],m=>m
 | i,f::l,m=>YT set (i+1) l (if RE set i=true then WS m f else m)
def uX(t:Tbk)(set:U64)(beg:Bool):U64:=if beg=true then t.fi else YT set 0 t.fol ⟨0⟩
def JT(l:List Rng)(c:Int):Bool:=l.any λr=>decide (r.fr.val<=c) && decide (c<=r.to.val)
def qbs(next:U64)(c:I32):Nat->List (List Rng)->U64->U64
 | _, [],m=>m
 | i,l::ls,m=>qbs next c (i+1) ls (if RE next i && JT l c.val then⟨qbo .u64 m.val (It .u64 1 i)⟩else m)
def Wn(next:U64)(lvs:List (List Rng)):List I32->U64->U64
 | [],m=>m
 | v::vs,m=>Wn next lvs vs (qbs next v 0 lvs m)
def qcL(t:Tbk)(vf:I32->List I32):List I32->U64->Bool->Bool
 | [],set,beg=>(beg && t.nul)||decide (MY .u64 set.val t.la.val≠0)
 | c::l,set,beg=>if(Wn (uX t set beg) t.lvs (vf c) ⟨0⟩).val=0 then false else qcL t vf l (Wn (uX t set beg) t.lvs (vf c) ⟨0⟩) false
def low(c:Int):Int:=if 65<=c/\c<=90 then c+32 else c
def EY(c:I32):List I32:=([⟨low c.val⟩,⟨low c.val -32⟩,⟨low c.val -80⟩]:List I32).filter λv=>decide (0<=v.val/\low v.val=low c.val)
def Ni(f:Bool)(c:I32):List I32:=if f=true then EY c else[c]
def Yb(l:List UInt8):List I32:=l.map λc=>⟨(c.toNat:Int)⟩
def sH(x:Rx)(s:B)(f:Bool):Option Bool:=if xD 50 x=true/\tE s=true/\s.size<=1000 then(Ws 50 x).bind λt=>if Jg t=true then some (qcL t (Ni f) (Yb s.data.toList) ⟨0⟩ true)else none else none
instance:Inhabited Cond:=⟨⟨0,⟨#[]⟩,⟨#[]⟩,⟨#[]⟩,⟨#[]⟩,false, []⟩⟩
instance:Inhabited Kb:=⟨⟨0,default,⟨#[]⟩,⟨#[]⟩,0,0, []⟩⟩
mutual
def aA:Cond->Nat| .mk _ _ _ _ _ _ ks=>eA ks+1
def eA:List Cond->Nat|[]=>0|k::ks=>max (aA k) (eA ks)
end
def tD(p:Cond):aA p=eA p.kids+1:=by cases p;rw[aA]
def rG{k:Cond} :∀ {ks:List Cond},k∈ks->aA k<=eA ks
 | a::ks,h=>by
   rw[eA];rcases qmw.1 h with rfl|h
   ·omega
   ·have:=rG h;omega
def rH{p k:Cond}(h:k∈p.kids):aA k < aA p:=by have:=rG h;rw[tD p];omega
mutual
def aJ:Cond->Nat| .mk _ _ _ _ _ _ ks=>cv ks+1
def cv:List Cond->Nat|[]=>0|k::ks=>aJ k+cv ks
end
def ej(x:Cond):aJ x=cv x.kids+1:=by cases x;rw[aJ]
def rr:∀ (a b:List Cond),cv (a++b)=cv a+cv b
 | [],b=>by rw[qm9,cv];omega
 | k::a,b=>by rw[qm5,cv,cv,rr a b];omega
def HB:∀ (a b:List Cond),eA (a++b)=max (eA a) (eA b)
 | [],b=>by rw[qm9,eA];omega
 | k::a,b=>by rw[qm5,eA,eA,HB a b];omega
def rq:∀ {ks:List Cond} {k:Cond},k∈ks->aJ k<=cv ks
 | x::ks,k,h=>by
   rw[cv];rcases qmw.1 h with rfl|h
   ·omega
   ·have:=rq h;omega
def BE{ks:List Cond}{k:Nat}{x:Cond}(h:ks[k]? =some x):cv (ks.take (k+1))=cv (ks.take k) +aJ x/\eA (ks.take (k+1))=max (eA (ks.take k)) (aA x)/\cv (ks.take k) +aJ x<=cv ks:=by
 have e:=aK h;refine⟨by rw[e,rr,cv,cv];omega,by rw[e,HB,eA,eA];omega,?_⟩
 conv=>rhs;rw[<-qm0 (k+1) ks,rr]
 rw[e,rr,cv,cv];omega
def dm:B:=⟨#[]⟩
def dB(a:List Attr)(n:B):Int:=ln a λx=>decide (x.nm=n)
def lF(a:List Attr)(n:B):Int:=if n=dm then min 0 ((a.length:Int) -1)else dB a n
def P2(c:UInt8):Bool:=(decide (65<=c.toNat) && decide (c.toNat<=90))||(decide (97<=c.toNat) && decide (c.toNat<=122))||decide (c.toNat=95)
def qiK(c:UInt8):Bool:=P2 c||(decide (48<=c.toNat) && decide (c.toNat<=57))||decide (c.toNat=45)
def BD(s:B):Bool:=decide (1<=s.size/\s.size<=32) && (match s.data.toList with|c::_=>P2 c|[]=>false) && s.data.toList.all qiK
def uW(s:B):Bool:=decide (s.size<=120) && s.data.toList.all λc=>decide (32<=c.toNat/\c.toNat < 127)
def O0(x:Cond):Bool:=
 if x.op=1 then decide (x.name=dm/\x.arg=dm/\x.val=dm/\x.lab=dm/\x.fold=false) && x.kids.isEmpty else
 if x.op=2 then decide (x.arg=dm/\x.lab=dm) && x.kids.isEmpty else
 if x.op=3 then decide (x.arg=dm/\x.lab=dm/\x.fold=false) && x.kids.isEmpty else
 if x.op=4 then decide (x.val=dm/\x.fold=false) && x.kids.isEmpty else
 if x.op=5 then decide (x.lab=dm/\x.fold=false/\(x.arg=dm->x.val=dm)) && x.kids.isEmpty else
 if x.op=6 then decide (x.name=dm/\x.arg=dm/\x.val=dm/\x.lab=dm/\x.fold=false) && decide (x.kids.length=1)else
 if x.op=7\/x.op=8 then decide (x.name=dm/\x.arg=dm/\x.val=dm/\x.lab=dm/\x.fold=false) && decide (2<=x.kids.length/\x.kids.length<=60)else false
def Xc(a:List Attr)(x:Cond):Bool:=
 if x.op=2 then decide (0<=lF a x.name)else
 if x.op=3 then decide (0<=dB a x.name)else
 if x.op=4 then decide (0<=dB a x.name/\0<=dB a x.arg)else
 if x.op=5 then BD x.name && (decide (x.arg=dm)||BD x.arg)else true
def Yl(s:B):Bool:=s.data.toList.any λc=>decide (c.toNat=124)
def qee(a:List Attr)(lb:List B)(x:Cond):Bool:=
 if x.op=2 then(kj x.val).isSome else
 if x.op=3 then(match a[(dB a x.name).toNat]? with|some b=>b.st|none=>false) && decide (x.val≠dm) && !Yl x.val && uW x.val else
 if x.op=4 then lb.any λl=>decide (l=x.lab)else
 if x.op=5 then uW x.val else true
def iL(a:List Attr)(lb:List B)(x:Cond):Bool:=O0 x && Xc a x && qee a lb x
def my(a:List Attr)(lb:List B):Nat->Cond->Bool
 | 0=>λ_=>false
 | n+1=>λx=>iL a lb x && x.kids.all (my a lb n)
def QT(a:List Attr)(lb:List B)(x:Cond):Bool:=decide (aJ x<=60/\aA x<=20) && my a lb 20 x
variable {S S0:Nat->Spc}
def bL{X:Type}{l:List X}{k:Nat}(h:k < l.length):∃x,l[k]? =some x:=⟨_,qmd h⟩
def qbR(n:Nat)(x:Cond×Int×Int):Prop:=aA x.1<=n/\0<=x.2.1/\x.2.1+aJ x.1<=60/\0<=x.2.2/\x.2.2+aA x.1<=1000/\aA x.1<=60
abbrev Ly(n:Nat):Spc:=aY (a3 Cond Int Int) (qbR n) (rN (Y:=Int) (Z:=Int)) λx y=>y=(x.2.1+aJ x.1,x.2.2+aA x.1 -1)
abbrev Ef:Spc:=aY (a3 Cond Int Int) (λx=>∃n,qbR n x) (rN (Y:=Int) (Z:=Int)) λx y=>y=(x.2.1+aJ x.1,x.2.2+aA x.1 -1)
theorem uw(n:Nat)(h1:S bQ=Ly n):av il gO S (a3 Cond Int Int) (qbR (n+1)) (rN (Y:=Int) (Z:=Int)) λx y=>y=(x.2.1+aJ x.1,x.2.2+aA x.1 -1):=by
 rintro⟨x,nodes,deep⟩ ⟨hn,h0,h2,h3,h4,h5⟩;simp only at hn h0 h2 h3 h4 h5;have hd1:=tD x;have hn1:=ej x;simp[il,gO];refine⟨by simp only[InR];omega,λhkl=>?_⟩;refine ak (X:=Int×Int) [2,17] [] x.kids.length (λk z=>z.1=nodes+1+ (cv (x.kids.take k):Int)/\z.2=deep+ (eA (x.kids.take k):Int)) (λz=>[(1,enc z.1),(8,enc z.2)]) (λ_=>[]) (nodes+1,deep) (by simp) (by simp) (by omega) (by simp) (by simp) (by simp[cv,eA]) (by simp) (by simp) ?_ ?_
 ·rintro k ⟨m,d⟩ hk ⟨e1,e2⟩;simp only at e1 e2;obtain⟨y,hy⟩:=bL hk;obtain⟨_,hgy⟩:=qmb.1 hy;have hm:=BE hy;have hd:=rG (qme hy);have hp:qbR n (y,m,deep+1):=⟨by show aA y<=n;omega,by show 0<=m;omega,by show m+aJ y<=60;omega,by show 0<=deep+1;omega,by show deep+1+aA y<=1000;omega,by show aA y<=60;omega⟩
  have hm60:¬60 < m:=by have:=ej y;omega
  simp[h1,hk,hy,hgy,hp,hm60];exact⟨by simp only[InR];omega,by omega,by rw[hm.2.1,e2];omega⟩
 ·rintro⟨m,d⟩ ⟨e1,e2⟩;simp only at e1 e2;rw[qmJ]at e1 e2;simp;exact⟨by omega,by omega⟩
abbrev zL:Spc:=aY (a1 Cond) (λx=>aJ x<=60/\aA x<=60) (enc (X:=Bool)) λ_ y=>y=false
def zi(h1:S bQ=Ef):av jE jr S (a1 Cond) (λx=>aJ x<=60/\aA x<=60) (enc (X:=Bool)) λ_ y=>y=false:=by
 rintro x ⟨hn,hd⟩;have hp:∃n,qbR n (x,0,1):=⟨aA x,qmm _,qnR _,by show(0:Int) +aJ x<=60;omega,by show(0:Int)<=1;omega,by show(1:Int) +aA x<=1000;omega,hd⟩
 simp[jE,jr,h1,hp, -Bool.forall_bool, -Bool.exists_bool];omega
abbrev GT:Spc:=aY (a1 Cond) (λx=>O0 x=true) (enc (X:=Bool)) λ_ y=>y=true
set_option maxHeartbeats 1000000 in
theorem xw:av aW aS S (a1 Cond) (λx=>O0 x=true) (enc (X:=Bool)) λ_ y=>y=true:=by
 rintro⟨op,name,arg,val,lab,fold,ks⟩ hx;have hx:O0 ⟨op,name,arg,val,lab,fold,ks⟩=true:=hx;unfold O0 at hx;simp only at hx;split at hx
 ·rename_i e;subst e;simp at hx;obtain⟨⟨rfl,rfl,rfl,rfl,rfl⟩,rfl⟩:=hx;simp[aW,aS,dm, -Bool.forall_bool, -Bool.exists_bool]
 split at hx
 ·rename_i e;subst e;simp at hx;obtain⟨⟨rfl,rfl⟩,rfl⟩:=hx;simp[aW,aS,dm, -Bool.forall_bool, -Bool.exists_bool]
 split at hx
 ·rename_i e;subst e;simp at hx;obtain⟨⟨rfl,rfl,rfl⟩,rfl⟩:=hx;simp[aW,aS,dm, -Bool.forall_bool, -Bool.exists_bool]
 split at hx
 ·rename_i e;subst e;simp at hx;obtain⟨⟨rfl,rfl⟩,rfl⟩:=hx;simp[aW,aS,dm, -Bool.forall_bool, -Bool.exists_bool]
 split at hx
 ·rename_i e;subst e;simp at hx;obtain⟨⟨rfl,rfl,hav⟩,rfl⟩:=hx;by_cases ha:arg=dm
  ·have hv:=hav.resolve_left λh=>h ha
   subst ha;subst hv;simp[aW,aS,dm, -Bool.forall_bool, -Bool.exists_bool]
  ·have ha':¬arg=⟨#[]⟩:=ha;simp[aW,aS,dm,ha', -Bool.forall_bool, -Bool.exists_bool]
 split at hx
 ·rename_i e;subst e;simp at hx;obtain⟨⟨rfl,rfl,rfl,rfl,rfl⟩,hk⟩:=hx;simp[aW,aS,dm,hk, -Bool.forall_bool, -Bool.exists_bool]
 split at hx
 ·rename_i e;simp at hx;obtain⟨⟨rfl,rfl,rfl,rfl,rfl⟩,hk1,hk2⟩:=hx;have q1:(2:Int)<=(ks.length:Int):=by omega
  have q2:(ks.length:Int)<=60:=by omega
  have q3:(ks.length:Int)<=9223372036854775807:=by omega
  rcases e with rfl|rfl <;> simp[aW,aS,dm,q1,q2,q3, -Bool.forall_bool, -Bool.exists_bool]
 ·cases hx
end Go.Gv
