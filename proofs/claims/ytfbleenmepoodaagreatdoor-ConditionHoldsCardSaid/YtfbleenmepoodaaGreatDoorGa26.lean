/- A part of the framework and of the walks: W150 V50 V51 V52 V53 V54 V3 V55 W151. -/
import Derived.Laws.RangeString
import Derived.Test.YtfbleenmepoodaaGreatDoorGa25
set_option linter.unusedSimpArgs false
set_option linter.unusedVariables false
set_option linter.unusedSectionVars false
set_option linter.defProp false
set_option maxRecDepth 100000
namespace Go.Gv
open Cod (enc dec)
variable {S S0:Nat->Spc}
def FunOn{X Y:Type}[Cod X][Cod Y](S:Nat->Spc)(d:D)(l:List X)(p:X->Y):Prop:=
 ∃g caps pc,d= .clo g caps/\S g= .pure pc/\∀x∈l,pc.pre (enc x::caps)/\∀r,pc.post (enc x::caps) r->r=enc (p x)
def FunOn.useB{X:Type}[Cod X]{S:Nat->Spc}{d:D}{l:List X}{p:X->Bool}(h:FunOn S d l p){x:X}(hx:x∈l){d':Nat}{H:aa}{K:D->aa->Prop}(hk:∀y:Bool,(∀q:X->Bool,FunOn S d l q->y=q x)->K (.v (.bool y)) H):yM S d d' [enc x] H K:=by
 obtain⟨g,caps,pc,rfl,h1,h2⟩:=h;simp only[yM,h1,Spc.pt];refine⟨(h2 x hx).1,λr hr=>?_⟩;have e:=(h2 x hx).2 r hr;rw[e];refine hk (p x) λq hq=>?_
 obtain⟨g',caps',pc',e',k1,k2⟩:=hq;cases e';rw[h1]at k1;cases k1;exact bC (e.symm.trans ((k2 x hx).2 r hr))
def nh{X Y Z:Type}[Cod X][Cod Y]{S:Nat->Spc}{g:Nat}{caps:List D}{A:fw Z}{pre:Z->Prop}{post:Z->Y->Prop}{l:List X}{p:X->Y}{f:X->Z}(h:S g=aZ A pre enc post)(hd:∀x∈l,A.dec (enc x::caps)=some (f x))(hp:∀x∈l,pre (f x))(hq:∀x∈l,∀y,post (f x) y->y=p x):FunOn S (.clo g caps) l p:=by
 refine⟨g,caps,_,rfl,h,λx hx=>⟨⟨f x,hd x hx,hp x hx⟩,λr hr=>?_⟩⟩;obtain⟨y,h1,h2⟩:=hr (f x) (hd x hx) (hp x hx);rw[h1,hq x hx y h2]
def H7{X:Type}[Cod X](S0:Nat->Spc)(x:List X×D×Unit):Prop:=∃p:X->Bool,FunOn S0 x.2.1 x.1 p
def SR{X:Type}[Cod X](S0:Nat->Spc)(x:List X×D×Unit)(y:Int):Prop:=∀p:X->Bool,FunOn S0 x.2.1 x.1 p->y=ko x.1 p
def Vr{X:Type}[Cod X](S0:Nat->Spc)(x:List X×D×Unit)(y:Bool):Prop:=∀p:X->Bool,FunOn S0 x.2.1 x.1 p->y=x.1.any p
abbrev Gx(X:Type)[Cod X](S0:Nat->Spc):Spc:=aZ (aE (List X) (aD a0)) (H7 S0) (enc (X:=Int)) (SR S0)
abbrev JC(X:Type)[Cod X](S0:Nat->Spc):Spc:=aZ (aE (List X) (aD a0)) (H7 S0) (enc (X:=Bool)) (Vr S0)
theorem Cj:ax cU cO S (aE (List Attr) (aD a0)) (H7 S) (enc (X:=Int)) (SR S):=by
 rintro⟨l,d,⟨⟩⟩ ⟨p,hp⟩;simp only at hp;simp[cU,cO, -Bool.forall_bool, -Bool.exists_bool];intro _;refine am (X:=Unit) [0,1] [] l.length (λk _=>∀p:Attr->Bool,FunOn S d l p->∀x∈l.take k,p x=false) (λ_=>[]) (λ_=>[]) () (by simp) (by simp) (by omega) (by simp) (by simp) (by simp) (by simp) (by simp) ?_ ?_
 ·intro k _ hk hP;obtain⟨x,hx⟩:∃x,l[k]? =some x:=⟨_,qjC hk⟩
  obtain⟨_,hgx⟩:=qjA.1 hx;simp[hk,hx,hgx, -Bool.forall_bool, -Bool.exists_bool];refine hp.useB (x:=x) (qjD hx) λy hy=>?_
  simp[-Bool.forall_bool, -Bool.exists_bool];refine⟨λh=>?_,λh p' hp'=>?_⟩
  ·intro p' hp';exact(mV hx (by rw[<-hy p' hp',h]) (hP p' hp')).symm
  ·rw[bi hx];intro z hz;rcases qjM.1 hz with hz|hz
   ·exact hP p' hp' z hz
   ·simp at hz;subst hz;rw[<-hy p' hp',h]
 ·intro _ hP;simp[-Bool.forall_bool, -Bool.exists_bool];intro p' hp';exact(gX (by simpa using hP p' hp')).symm
theorem EP:ax ek ef S (aE (List Cond) (aD a0)) (H7 S) (enc (X:=Int)) (SR S):=by
 rintro⟨l,d,⟨⟩⟩ ⟨p,hp⟩;simp only at hp;simp[ek,ef, -Bool.forall_bool, -Bool.exists_bool];intro _;refine am (X:=Unit) [0,1] [] l.length (λk _=>∀p:Cond->Bool,FunOn S d l p->∀x∈l.take k,p x=false) (λ_=>[]) (λ_=>[]) () (by simp) (by simp) (by omega) (by simp) (by simp) (by simp) (by simp) (by simp) ?_ ?_
 ·intro k _ hk hP;obtain⟨x,hx⟩:∃x,l[k]? =some x:=⟨_,qjC hk⟩
  obtain⟨_,hgx⟩:=qjA.1 hx;simp[hk,hx,hgx, -Bool.forall_bool, -Bool.exists_bool];have e:D.agg [.v (.int .i64 x.op), .v (.string x.name), .v (.string x.arg), .v (.string x.val), .v (.string x.lab), .v (.bool x.fold), .list 7 (x.kids.map enc)]=enc x:=by simp
  rw[e];refine hp.useB (x:=x) (qjD hx) λy hy=>?_
  simp[-Bool.forall_bool, -Bool.exists_bool];refine⟨λh=>?_,λh p' hp'=>?_⟩
  ·intro p' hp';exact(mV hx (by rw[<-hy p' hp',h]) (hP p' hp')).symm
  ·rw[bi hx];intro z hz;rcases qjM.1 hz with hz|hz
   ·exact hP p' hp' z hz
   ·simp at hz;subst hz;rw[<-hy p' hp',h]
 ·intro _ hP;simp[-Bool.forall_bool, -Bool.exists_bool];intro p' hp';exact(gX (by simpa using hP p' hp')).symm
def EQ(h1:S da=Gx Cond S0):ax dr dk S (aE (List Cond) (aD a0)) (H7 S0) (enc (X:=Bool)) (Vr S0):=by
 rintro⟨l,d,⟨⟩⟩ hp;simp[dr,dk,h1, -Bool.forall_bool, -Bool.exists_bool];refine⟨hp,λy hy p' hp'=>?_⟩;rw[hy p' hp'];exact yy p' l
theorem PO:ax eI eA S (aE (List Int) (aD a0)) (H7 S) (enc (X:=Int)) (SR S):=by
 rintro⟨l,d,⟨⟩⟩ ⟨p,hp⟩;simp only at hp;simp[eI,eA, -Bool.forall_bool, -Bool.exists_bool];intro _;refine am (X:=Unit) [0,1] [] l.length (λk _=>∀p:Int->Bool,FunOn S d l p->∀x∈l.take k,p x=false) (λ_=>[]) (λ_=>[]) () (by simp) (by simp) (by omega) (by simp) (by simp) (by simp) (by simp) (by simp) ?_ ?_
 ·intro k _ hk hP;obtain⟨x,hx⟩:∃x,l[k]? =some x:=⟨_,qjC hk⟩
  obtain⟨_,hgx⟩:=qjA.1 hx;simp[hk,hx,hgx, -Bool.forall_bool, -Bool.exists_bool];refine hp.useB (x:=x) (qjD hx) λy hy=>?_
  simp[-Bool.forall_bool, -Bool.exists_bool];refine⟨λh=>?_,λh p' hp'=>?_⟩
  ·intro p' hp';exact(mV hx (by rw[<-hy p' hp',h]) (hP p' hp')).symm
  ·rw[bi hx];intro z hz;rcases qjM.1 hz with hz|hz
   ·exact hP p' hp' z hz
   ·simp at hz;subst hz;rw[<-hy p' hp',h]
 ·intro _ hP;simp[-Bool.forall_bool, -Bool.exists_bool];intro p' hp';exact(gX (by simpa using hP p' hp')).symm
def PP(h1:S dn=Gx Int S0):ax dA dw S (aE (List Int) (aD a0)) (H7 S0) (enc (X:=Bool)) (Vr S0):=by
 rintro⟨l,d,⟨⟩⟩ hp;simp[dA,dw,h1, -Bool.forall_bool, -Bool.exists_bool];refine⟨hp,λy hy p' hp'=>?_⟩;rw[hy p' hp'];exact yy p' l
theorem IM:ax dz dv S (aE (List Region) (aD a0)) (H7 S) (enc (X:=Int)) (SR S):=by
 rintro⟨l,d,⟨⟩⟩ ⟨p,hp⟩;simp only at hp;simp[dz,dv, -Bool.forall_bool, -Bool.exists_bool];intro _;refine am (X:=Unit) [0,1] [] l.length (λk _=>∀p:Region->Bool,FunOn S d l p->∀x∈l.take k,p x=false) (λ_=>[]) (λ_=>[]) () (by simp) (by simp) (by omega) (by simp) (by simp) (by simp) (by simp) (by simp) ?_ ?_
 ·intro k _ hk hP;obtain⟨x,hx⟩:∃x,l[k]? =some x:=⟨_,qjC hk⟩
  obtain⟨_,hgx⟩:=qjA.1 hx;simp[hk,hx,hgx, -Bool.forall_bool, -Bool.exists_bool];refine hp.useB (x:=x) (qjD hx) λy hy=>?_
  simp[-Bool.forall_bool, -Bool.exists_bool];refine⟨λh=>?_,λh p' hp'=>?_⟩
  ·intro p' hp';exact(mV hx (by rw[<-hy p' hp',h]) (hP p' hp')).symm
  ·rw[bi hx];intro z hz;rcases qjM.1 hz with hz|hz
   ·exact hP p' hp' z hz
   ·simp at hz;subst hz;rw[<-hy p' hp',h]
 ·intro _ hP;simp[-Bool.forall_bool, -Bool.exists_bool];intro p' hp';exact(gX (by simpa using hP p' hp')).symm
def IN(h1:S dJ=Gx Region S0):ax cV cP S (aE (List Region) (aD a0)) (H7 S0) (enc (X:=Bool)) (Vr S0):=by
 rintro⟨l,d,⟨⟩⟩ hp;simp[cV,cP,h1, -Bool.forall_bool, -Bool.exists_bool];refine⟨hp,λy hy p' hp'=>?_⟩;rw[hy p' hp'];exact yy p' l
end Go.Gv
namespace Go.Gv
open Cod (enc dec)
structure U64 where
 val:Int
deriving DecidableEq
instance:Cod U64 where
 wd:=1
 enc n:= .v (.int .u64 n.val)
 dec| .v (.int .u64 n)=>some ⟨n⟩|_=>none
 kn _:=rfl
 wid _:=rfl
 dec_enc _:=rfl
 le d x h:=by
  split at h
  ·cases h;exact .same _
  ·cases h
@[simp] theorem qd5(n:U64):enc n= .v (.int .u64 n.val):=id rfl
@[simp] theorem qe2:Cod.wd U64=1:=id rfl
@[simp] theorem qec(n:Int):dec (X:=U64) (.v (.int .u64 n))=some ⟨n⟩:=id rfl
@[simp] theorem qdZ(n:U64):U64.mk n.val=n:=id rfl
structure Rng where
 fr:I32
 to:I32
deriving DecidableEq
instance:Cod Rng where
 wd:=2
 enc s:= .agg [enc s.fr,enc s.to]
 dec| .agg [x0,x1]=>(dec x0).bind λx0=>(dec x1).bind λx1=>some ⟨x0,x1⟩|_=>none
 kn _:=rfl
 wid _:=rfl
 dec_enc s:=by simp
 le d x h:=by
  split at h
  ·simp only[qjy]at h;obtain⟨x0,h0,x1,h1,h⟩:=h;cases h;exact LeL.agg (.cons (Cod.le _ _ h0) (.cons (Cod.le _ _ h1) .nil))
  ·cases h
@[simp] theorem qd2(s:Rng):(Rng.mk s.fr s.to)=s:=id rfl
@[simp] theorem qd8(s:Rng):enc s= .agg [enc s.fr,enc s.to]:=id rfl
@[simp] theorem qe6:Cod.wd Rng=2:=id rfl
@[simp] theorem qef(x0 x1:D):dec (X:=Rng) (.agg [x0,x1])=((dec x0).bind λx0=>(dec x1).bind λx1=>some ⟨x0,x1⟩):=id rfl
structure Rx where
 op:Int
 mn:Int
 mx:Int
 rs:List Rng
 kids:List Rx
mutual
def Dw:Rx->D
 | .mk op mn mx rs ks=> .agg [enc op,enc mn,enc mx,enc rs, .list 5 (sk ks)]
def sk:List Rx->List D
 | []=>[]
 | k::ks=>Dw k::sk ks
end
mutual
def Kt:D->Option Rx
 | .agg [x0,x1,x2,x3,x4]=>(dec x0).bind λop=>(dec x1).bind λmn=>(dec x2).bind λmx=>(dec x3).bind λrs=>(AS x4).bind λks=>some (.mk op mn mx rs ks)
 | _=>none
def AS:D->Option (List Rx)
 | .list n es=>if n=5 then ua es else none
 | .v (.slice none 0 0)=>some []
 | _=>none
def ua:List D->Option (List Rx)
 | []=>some []
 | d::ds=>(Kt d).bind λx=>(ua ds).bind λxs=>some (x::xs)
end
def Ao:∀l:List Rx,sk l=l.map Dw
 | []=>rfl
 | _::l=>by rw[sk,Ao l];rfl
def Nw:∀c:Rx,(Dw c).kn=true
 | .mk .. =>rfl
def Kl:∀c:Rx,(Dw c).cells.length=5
 | .mk .. =>rfl
mutual
def Ks:∀c:Rx,Kt (Dw c)=some c
 | .mk op mn mx rs ks=>by
   have h:AS (.list 5 (sk ks))=some ks:=by rw[AS,if_pos rfl];exact FB ks
   simp only[Dw,Kt,Cod.dec_enc,qjV,h]
def FB:∀l:List Rx,ua (sk l)=some l
 | []=>by simp only[sk,ua]
 | c::l=>by simp only[sk,ua,Ks c,FB l,qjV]
end
mutual
def NB:∀ (d:D) (c:Rx),Kt d=some c->FrzTo cv d (Dw c)
 | .agg [x0,x1,x2,x3,x4],c,h=>by
   simp only[Kt,qjy,qjO]at h;obtain⟨op,h0,mn,h1,mx,h2,rs,h3,ks,h4,rfl⟩:=h;rw[Dw];exact LeL.agg (.cons (Cod.le _ _ h0) (.cons (Cod.le _ _ h1) (.cons (Cod.le _ _ h2) (.cons (Cod.le _ _ h3) (.cons (Sf x4 ks h4) .nil)))))
def Sf:∀ (d:D) (l:List Rx),AS d=some l->FrzTo cv d (.list 5 (sk l))
 | .list n es,l,h=>by
   simp only[AS]at h;split at h
   ·rename_i hn;subst hn;have hl:=Kr es l h;refine .list hl.1 (λe he=>?_) hl.2;rw[Ao]at he;obtain⟨x,hx,rfl⟩:=qjN.1 he;exact⟨Nw x,Kl x⟩
   ·cases h
 | .v (.slice none 0 0),l,h=>by
   simp only[AS,qjO]at h;subst h;exact .nil _
def Kr:∀ (es:List D) (l:List Rx),ua es=some l->LeL es (sk l)
 | [],l,h=>by
   simp only[ua,qjO]at h;subst h;exact .nil
 | d::ds,l,h=>by
   simp only[ua,qjy,qjO]at h;obtain⟨x,h1,xs,h2,rfl⟩:=h;rw[sk];exact .cons (NB d x h1) (Kr ds xs h2)
end
instance:Cod Rx where
 wd:=5
 enc:=Dw
 dec:=Kt
 kn:=Nw
 wid:=Kl
 dec_enc:=Ks
 le:=NB
def Ph(ks:List Rx):D.list 5 (sk ks)=enc ks:=by rw[Ao];rfl
def R2(op mn mx:Int)(rs:List Rng)(ks:List Rx):enc (Rx.mk op mn mx rs ks)= .agg [enc op,enc mn,enc mx,enc rs,enc ks]:=by
 rw[<-Ph];show Dw _=_;rw[Dw]
def DD:∀es:List D,ua es=es.mapM (dec (X:=Rx))
 | []=>by simp[ua]
 | d::es=>by
   rw[ua,qkd,DD es];rfl
def Sh:∀d:D,AS d=dec (X:=List Rx) d:=λd=>by
 unfold AS;split
 ·rename_i n es;show _=if n=5 then es.mapM (dec (X:=Rx))else none
  rw[DD]
 ·rfl
 ·rename_i h1 h2;show _=(match d with
   | .list n es=>if n=5 then es.mapM (dec (X:=Rx))else none
   | .v (.slice none 0 0)=>some []
   | _=>none)
  split
  ·exact absurd rfl (h1 _ _)
  ·exact absurd rfl h2
  ·rfl
@[simp] theorem qgp(s:Rx):Rx.mk s.op s.mn s.mx s.rs s.kids=s:=by cases s;rfl
@[simp] theorem qgw(s:Rx):enc s= .agg [enc s.op,enc s.mn,enc s.mx,enc s.rs,enc s.kids]:=by cases s;exact R2 ..
@[simp] theorem qhw:Cod.wd Rx=5:=id rfl
@[simp] theorem qgE(x0 x1 x2 x3 x4:D):dec (X:=Rx) (.agg [x0,x1,x2,x3,x4])=((dec x0).bind λx0=>(dec x1).bind λx1=>(dec x2).bind λx2=>(dec x3).bind λx3=>(dec x4).bind λx4=>some ⟨x0,x1,x2,x3,x4⟩):=by
 show Kt _=_;simp only[Kt,Sh]
structure Rp where
 s:B
 pos:Int
 fault:Int
 e:Int
def Rp.bump(p:Rp):Rp:={ p with pos:=p.pos+1 }
def DP(p:Rp):Option Int:=
 if 200 < p.s.size then none else
 if p.pos=p.s.size then some (-1)else
 if 0<=p.pos then match p.s.data[p.pos.toNat]? with
  | some c=>if c.toNat < 128 then some c.toNat else none
  | none=>none
 else none
def UK(sp:B)(c:Int):Bool:=sp.data.toList.any λx=>decide ((x.toNat:Int)=c)
def gZ(p:Rp)(_:Unit):Option (Rp×I32):=(DP p).map λc=>(p,⟨c⟩)
def EX(p:Rp)(_:Unit):Option (Rp×Unit):=(DP p).bind λc=>if 0<=c then some (p.bump,())else none
def vu(p:Rp)(_:B):Option (Rp× (I32×Bool)):=(DP p).bind λc=>if c < 0\/c=92 then none else some (p.bump,⟨c⟩,true)
def NL:B:=⟨#[92,91,93,94,45]⟩
def JO(p:Rp)(_:Unit):Option (Rp× (I32×Bool)):=(DP p).bind λc=>if c < 0\/UK NL c=true then none else vu p NL
def Qe(fr to:Int):Rx:=⟨1,0,0, [⟨⟨fr⟩,⟨to⟩⟩], []⟩
def mT(out:List Rng)(r:Rng):List Rng:=match out.getLast? with
 | some q=>if r.fr.val<=q.to.val+1 then out.dropLast++ [⟨q.fr,⟨max q.to.val r.to.val⟩⟩]else out++ [r]
 | none=>[r]
def zO(l:List Rng):Bool:=match l with
 | [x]=>decide (0<=x.fr.val/\x.fr.val<=1114111/\0<=x.to.val/\x.to.val<=1114111)
 | [x,y]=>decide (0<=x.fr.val/\x.fr.val<=1114111/\0<=x.to.val/\x.to.val<=1114111/\0<=y.fr.val/\y.fr.val<=1114111/\0<=y.to.val/\y.to.val<=1114111/\x.fr.val<=y.fr.val)
 | _=>false
def yr(l:List Rng):List Rng:=l.foldl mT []
def Sp:Nat->Rp->List Rng->Option (Rp×List Rng)
 | 0,_,_=>none
 | n+1,p,l=>(DP p).bind λc=>if l≠ []/\c=93 then some (p,l)else
   (JO p ()).bind λq=>(DP q.1).bind λd=>if d=45 then none else Sp n q.1 (l++ [⟨q.2.1,q.2.1⟩])
def Ve(p:Rp)(_:Unit):Option (Rp× (Rx×Bool)):=(DP p).bind λa=>if a≠91 then none else(DP p.bump).bind λc=>if c=94 then none else
 (Sp 100 p.bump []).bind λq=>if zO q.2=true then some (q.1.bump,⟨1,0,0,yr q.2, []⟩,true)else none
def Z4:B:=⟨#[92,46,91,93,40,41,123,125,124,42,43,63]⟩
def NR(p:Rp)(_:Unit):Option (Rp× (Rx×Bool)):=(DP p).bind λc=>
 if c=40 then none else if c=46 then some (p.bump,Qe 0 1114111,true)else if c=91 then Ve p ()else
 if c≠92/\UK Z4 c=true then none else(vu p Z4).map λq=>(q.1,Qe q.2.1.val q.2.1.val,q.2.2)
def Eo(c:Int):Option (Int×Int):=if c=42 then some (0, -1)else if c=43 then some (1, -1)else if c=63 then some (0,1)else none
def QN(p:Rp)(_:Unit):Option (Rp× (Rx×Bool)):=(NR p ()).bind λq=>if q.2.2=true then(DP q.1).bind λc=>if c=123 then none else match Eo c with
 | some m=>(DP q.1.bump).bind λd=>if d=123\/(Eo d).isSome=true then none else some (q.1.bump,⟨4,m.1,m.2, [], [q.2.1]⟩,true)
 | none=>some (q.1,q.2.1,true)
 else none
def KE:Nat->Rp->List Rx->Option (Rp×List Rx)
 | 0,_,_=>none
 | n+1,p,l=>(DP p).bind λc=>if c < 0\/c=124\/c=41 then some (p,l)else
   (QN p ()).bind λq=>if q.2.1.op=2 then none else KE n q.1 (l++ [q.2.1])
def LT(op:Int):List Rx->Rx
 | [e]=>e
 | l=>⟨op,0,0, [],l⟩
def Ss(p:Rp)(_:Unit):Option (Rp× (Rx×Bool)):=(KE 100 p []).map λq=>(q.1,LT 2 q.2,true)
def PV:Nat->Rp->List Rx->Option (Rp×List Rx)
 | 0,_,_=>none
 | n+1,p,l=>(Ss p ()).bind λq=>(DP q.1).bind λc=>
   if q.2.1.op=3 then none else if c=124 then PV n q.1.bump (l++ [q.2.1])else some (q.1,l++ [q.2.1])
def TI(p:Rp)(_:Unit):Option (Rp× (Rx×Bool)):=(PV 100 p []).map λq=>(q.1,LT 3 q.2,true)
def ZY(f:Rx->Int->Int->Option (Bool×Int))(d:Int):List Rx->Int->Option (Bool×Int)
 | [],k=>some (true,k)
 | x::l,k=>(f x (d+1) k).bind λr=>if r.1=true then ZY f d l r.2 else some (false,r.2)
def pq:Nat->Rx->Int->Int->Option (Bool×Int)
 | 0=>λ_ _ _=>none
 | n+1=>λx d k=>if d < 0\/1000 < d\/k < 0\/1000 < k then none else if 40 < d\/200 < k+1 then some (false,k+1)else ZY (pq n) d x.kids (k+1)
def Na(l:List Rng):Bool:=match l with
 | [r]=>decide (0<=r.fr.val/\r.fr.val<=r.to.val/\r.to.val<=1114111)
 | _=>false
def qaf(x:Rx):Bool:=
 if x.op=1 then decide (x.mn=0/\x.mx=0) && x.kids.isEmpty && Na x.rs else
 if x.op=2 then decide (x.mn=0/\x.mx=0) && x.rs.isEmpty && decide (x.kids.length≠1/\x.kids.length<=300) && x.kids.all λk=>decide (k.op≠2)else
 if x.op=3 then decide (x.mn=0/\x.mx=0) && x.rs.isEmpty && decide (1 < x.kids.length/\x.kids.length<=300) && x.kids.all λk=>decide (k.op≠3)else
 if x.op=4 then decide (0<=x.mn/\x.mn<=16/\(x.mx= -1\/x.mn<=x.mx/\x.mx<=16)) && x.rs.isEmpty && decide (x.kids.length=1)else false
def OG:Nat->Rx->Bool
 | 0=>λ_=>false
 | n+1=>λx=>qaf x && x.kids.all (OG n)
def qab(f:Rx->Option Int):List Rx->Int->Option Int
 | [],k=>some k
 | x::l,k=>(f x).bind λy=>if k < 0\/1000 < k\/y < 0\/1000 < y then none else qab f l (min (k+y) 65)
def qad(x:Rx)(m:Int):Option Int:=
 if x.mx= -1 then(if -1000000<=m*max x.mn 1/\m*max x.mn 1<=1000000 then some (min (m*max x.mn 1) 65)else none)
 else if -1000000<=m*x.mx/\m*x.mx<=1000000 then some (min (m*x.mx) 65)else none
def CS:Nat->Rx->Option Int
 | 0=>λ_=>none
 | n+1=>λx=>if x.op=1 then some 1 else(qab (CS n) x.kids 0).bind λm=>if x.op≠4 then some m else qad x m
def vT(n:Nat)(x:Rx):Bool:=(match pq n x 1 0 with|some r=>r.1|none=>false) && OG n x && (match CS n x with|some m=>decide (m<=64)|none=>false)
def sd(s:B):Bool:=s.data.toList.all λc=>decide (c.toNat < 128)
def jv(s:B):Option Rx:=if s.size<=200/\sd s=true then(TI ⟨s,0,0,0⟩ ()).bind λq=>if q.2.2=true/\q.1.pos=s.size/\vT 50 q.2.1=true then some q.2.1 else none else none
structure Prt where
 first:U64
 last:U64
 nul:Bool
deriving DecidableEq
instance:Cod Prt where
 wd:=3
 enc s:= .agg [enc s.first,enc s.last,enc s.nul]
 dec| .agg [x0,x1,x2]=>(dec x0).bind λx0=>(dec x1).bind λx1=>(dec x2).bind λx2=>some ⟨x0,x1,x2⟩|_=>none
 kn _:=rfl
 wid _:=rfl
 dec_enc s:=by simp
 le d x h:=by
  split at h
  ·simp only[qjy]at h;obtain⟨x0,h0,x1,h1,x2,h2,h⟩:=h;cases h;exact LeL.agg (.cons (Cod.le _ _ h0) (.cons (Cod.le _ _ h1) (.cons (Cod.le _ _ h2) .nil)))
  ·cases h
@[simp] theorem qd3(s:Prt):(Prt.mk s.first s.last s.nul)=s:=id rfl
@[simp] theorem qd9(s:Prt):enc s= .agg [enc s.first,enc s.last,enc s.nul]:=id rfl
@[simp] theorem qeg(x0 x1 x2:D):dec (X:=Prt) (.agg [x0,x1,x2])=((dec x0).bind λx0=>(dec x1).bind λx1=>(dec x2).bind λx2=>some ⟨x0,x1,x2⟩):=id rfl
structure Tbk where
 lvs:List (List Rng)
 fi:U64
 la:U64
 fol:List U64
 nul:Bool
def Pr(m:U64)(i:Nat):Bool:=decide (KX .u64 (Oo .u64 m.val i) 1=1)
def Ul(a b:U64):U64:=⟨Y1 .u64 a.val b.val⟩
def Nh(fr to:U64):Nat->List U64->List U64
 | _, []=>[]
 | i,f::l=>(if Pr fr i=true then Ul f to else f)::Nh fr to (i+1) l
def yv(t:Tbk)(z:U64×U64):Option (Tbk×Unit):=if t.fol.length<=100000 then some ({ t with fol:=Nh z.1 z.2 0 t.fol },())else none
def qaB(a b:Prt):Prt:=⟨if a.nul=true then Ul a.first b.first else a.first,if b.nul=true then Ul b.last a.last else b.last,a.nul && b.nul⟩
def sr(t:Tbk)(z:Prt×Prt):Option (Tbk×Prt):=(yv t (z.1.last,z.2.first)).map λq=>(q.1,qaB z.1 z.2)
def wx:Prt:=⟨⟨0⟩,⟨0⟩,true⟩
def qfH:Prt:=⟨⟨0⟩,⟨0⟩,false⟩
def qbK(f:Tbk->Rx->Option (Tbk×Prt)):List Rx->Tbk->Prt->Option (Tbk×Prt)
 | [],t,p=>some (t,p)
 | x::l,t,p=>(f t x).bind λq=>(sr q.1 (p,q.2)).bind λr=>qbK f l r.1 r.2
def Pv(f:Tbk->Rx->Option (Tbk×Prt)):List Rx->Tbk->Prt->Option (Tbk×Prt)
 | [],t,p=>some (t,p)
 | x::l,t,p=>(f t x).bind λq=>Pv f l q.1 ⟨Ul p.first q.2.first,Ul p.last q.2.last,p.nul||q.2.nul⟩
def G7(t:Tbk):Bool:=decide (t.lvs.length<=1000/\t.fol.length<=1000)
def Yk(b r:Tbk->Rx->Option (Tbk×Prt))(t:Tbk)(x:Rx):Option (Tbk×Prt):=
 if G7 t=false\/1000 < x.kids.length then none else
 if x.op=1 then some ({ t with lvs:=t.lvs++ [x.rs],fol:=t.fol++ [⟨0⟩] },⟨⟨Gr .u64 1 t.lvs.length⟩,⟨Gr .u64 1 t.lvs.length⟩,false⟩)else
 if x.op=2 then qbK b x.kids t wx else
 if x.op=3 then Pv b x.kids t qfH else r t x
def Z5(b:Tbk->Rx->Option (Tbk×Prt))(y:Rx)(mx:Int):Nat->Tbk->Prt->Option (Tbk×Prt×Bool)
 | 0,t,p=>some (t,p,false)
 | k+1,t,p=>if G7 t=false then none else(b t y).bind λq=>if G7 q.1=false then none else
   if q.1.lvs.length=t.lvs.length then some (q.1,wx,true)else
   (if mx < 0/\k=0 then yv q.1 (q.2.last,q.2.first)else some (q.1,())).bind λl=>(sr l.1 (p,q.2)).bind λr=>Z5 b y mx k r.1 r.2
def QO(b:Tbk->Rx->Option (Tbk×Prt))(o:Tbk->Rx×Int->Option (Tbk×Prt))(t:Tbk)(x:Rx):Option (Tbk×Prt):=match x.kids with
 | []=>none
 | y::_=>if x.mn < 0\/100 < x.mn\/x.mx < -1\/100 < x.mx then none else
   (Z5 b y x.mx x.mn.toNat t wx).bind λq=>if q.2.2=true then some (q.1,wx)else
   if x.mx < 0/\x.mn=0 then(b q.1 y).bind λr=>(yv r.1 (r.2.last,r.2.first)).map λl=>(l.1, { r.2 with nul:=true })else
   if x.mn < x.mx then(o q.1 (y,x.mx -x.mn)).bind λr=>sr r.1 (q.2.1,r.2)else some (q.1,q.2.1)
def Xc(b:Tbk->Rx->Option (Tbk×Prt))(o:Tbk->Rx×Int->Option (Tbk×Prt))(t:Tbk)(z:Rx×Int):Option (Tbk×Prt):=
 if z.2 < 0\/100 < z.2\/G7 t=false then none else
 if z.2=0 then some (t,wx)else
 (b t z.1).bind λq=>if G7 q.1=false then none else
 if q.1.lvs.length=t.lvs.length then some (q.1,wx)else
 (o q.1 (z.1,z.2 -1)).bind λr=>(sr r.1 (q.2,r.2)).map λl=>(l.1, { l.2 with nul:=true })
structure qjv where
 b:Tbk->Rx->Option (Tbk×Prt)
 r:Tbk->Rx->Option (Tbk×Prt)
 o:Tbk->Rx×Int->Option (Tbk×Prt)
def wW:Nat->qjv
 | 0=>⟨λ_ _=>none,λ_ _=>none,λ_ _=>none⟩
 | n+1=>⟨Yk (wW n).b (wW n).r,QO (wW n).b (wW n).o,Xc (wW n).b (wW n).o⟩
def qiN:Tbk:=⟨[],⟨0⟩,⟨0⟩, [],false⟩
def TL(n:Nat)(x:Rx):Option Tbk:=((wW n).b qiN x).map λq=>{ q.1 with fi:=q.2.first,la:=q.2.last,nul:=q.2.nul }
def VV(set:U64):Nat->List U64->U64->U64
 | _, [],m=>m
 | i,f::l,m=>VV set (i+1) l (if Pr set i=true then Ul m f else m)
def tI(t:Tbk)(set:U64)(beg:Bool):U64:=if beg=true then t.fi else VV set 0 t.fol ⟨0⟩
def HM(l:List Rng)(c:Int):Bool:=l.any λr=>decide (r.fr.val<=c) && decide (c<=r.to.val)
def Y6(next:U64)(c:I32):Nat->List (List Rng)->U64->U64
 | _, [],m=>m
 | i,l::ls,m=>Y6 next c (i+1) ls (if Pr next i && HM l c.val then⟨Y1 .u64 m.val (Gr .u64 1 i)⟩else m)
def TG(next:U64)(lvs:List (List Rng)):List I32->U64->U64
 | [],m=>m
 | v::vs,m=>TG next lvs vs (Y6 next v 0 lvs m)
def qap(t:Tbk)(vf:I32->List I32):List I32->U64->Bool->Bool
 | [],set,beg=>(beg && t.nul)||decide (KX .u64 set.val t.la.val≠0)
 | c::l,set,beg=>if(TG (tI t set beg) t.lvs (vf c) ⟨0⟩).val=0 then false else qap t vf l (TG (tI t set beg) t.lvs (vf c) ⟨0⟩) false
def low(c:Int):Int:=if 65<=c/\c<=90 then c+32 else c
def Dn(c:I32):List I32:=([⟨low c.val⟩,⟨low c.val -32⟩,⟨low c.val -80⟩]:List I32).filter λv=>decide (0<=v.val/\low v.val=low c.val)
def Ll(f:Bool)(c:I32):List I32:=if f=true then Dn c else[c]
def Vf(l:List UInt8):List I32:=l.map λc=>⟨(c.toNat:Int)⟩
def rq(x:Rx)(s:B)(f:Bool):Option Bool:=if vT 50 x=true/\sd s=true/\s.size<=1000 then(TL 50 x).bind λt=>if G7 t=true then some (qap t (Ll f) (Vf s.data.toList) ⟨0⟩ true)else none else none
instance:Inhabited Cond:=⟨⟨0,⟨#[]⟩,⟨#[]⟩,⟨#[]⟩,⟨#[]⟩,false, []⟩⟩
instance:Inhabited H6:=⟨⟨0,default,⟨#[]⟩,⟨#[]⟩,0,0, []⟩⟩
mutual
def bM:Cond->Nat| .mk _ _ _ _ _ _ ks=>ge ks+1
def ge:List Cond->Nat|[]=>0|k::ks=>max (bM k) (ge ks)
end
def uE(p:Cond):bM p=ge p.kids+1:=by cases p;rw[bM]
def uD{k:Cond} :∀ {ks:List Cond},k∈ks->bM k<=ge ks
 | a::ks,h=>by
   rw[ge];rcases qjW.1 h with rfl|h
   ·omega
   ·have:=uD h;omega
def KR{p k:Cond}(h:k∈p.kids):bM k < bM p:=by have:=uD h;rw[uE p];omega
mutual
def cY:Cond->Nat| .mk _ _ _ _ _ _ ks=>dy ks+1
def dy:List Cond->Nat|[]=>0|k::ks=>cY k+dy ks
end
def oW(x:Cond):cY x=dy x.kids+1:=by cases x;rw[cY]
def uz:∀ (a b:List Cond),dy (a++b)=dy a+dy b
 | [],b=>by rw[qky,dy];omega
 | k::a,b=>by rw[qku,dy,dy,uz a b];omega
def FJ:∀ (a b:List Cond),ge (a++b)=max (ge a) (ge b)
 | [],b=>by rw[qky,ge];omega
 | k::a,b=>by rw[qku,ge,ge,FJ a b];omega
def Af:∀ {ks:List Cond} {k:Cond},k∈ks->cY k<=dy ks
 | x::ks,k,h=>by
   rw[dy];rcases qjW.1 h with rfl|h
   ·omega
   ·have:=Af h;omega
def Fi{ks:List Cond}{k:Nat}{x:Cond}(h:ks[k]? =some x):dy (ks.take (k+1))=dy (ks.take k) +cY x/\ge (ks.take (k+1))=max (ge (ks.take k)) (bM x)/\dy (ks.take k) +cY x<=dy ks:=by
 have e:=bi h;refine⟨by rw[e,uz,dy,dy];omega,by rw[e,FJ,ge,ge];omega,?_⟩
 conv=>rhs;rw[<-qkr (k+1) ks,uz]
 rw[e,uz,dy,dy];omega
def dF:B:=⟨#[]⟩
def di(a:List Attr)(n:B):Int:=ko a λx=>decide (x.nm=n)
def kI(a:List Attr)(n:B):Int:=if n=dF then min 0 ((a.length:Int) -1)else di a n
def NP(c:UInt8):Bool:=(decide (65<=c.toNat) && decide (c.toNat<=90))||(decide (97<=c.toNat) && decide (c.toNat<=122))||decide (c.toNat=95)
def qgf(c:UInt8):Bool:=NP c||(decide (48<=c.toNat) && decide (c.toNat<=57))||decide (c.toNat=45)
def Ae(s:B):Bool:=decide (1<=s.size/\s.size<=32) && (match s.data.toList with|c::_=>NP c|[]=>false) && s.data.toList.all qgf
def tH(s:B):Bool:=decide (s.size<=120) && s.data.toList.all λc=>decide (32<=c.toNat/\c.toNat < 127)
def MT(x:Cond):Bool:=
 if x.op=1 then decide (x.name=dF/\x.arg=dF/\x.val=dF/\x.lab=dF/\x.fold=false) && x.kids.isEmpty else
 if x.op=2 then decide (x.arg=dF/\x.lab=dF) && x.kids.isEmpty else
 if x.op=3 then decide (x.arg=dF/\x.lab=dF/\x.fold=false) && x.kids.isEmpty else
 if x.op=4 then decide (x.val=dF/\x.fold=false) && x.kids.isEmpty else
 if x.op=5 then decide (x.lab=dF/\x.fold=false/\(x.arg=dF->x.val=dF)) && x.kids.isEmpty else
 if x.op=6 then decide (x.name=dF/\x.arg=dF/\x.val=dF/\x.lab=dF/\x.fold=false) && decide (x.kids.length=1)else
 if x.op=7\/x.op=8 then decide (x.name=dF/\x.arg=dF/\x.val=dF/\x.lab=dF/\x.fold=false) && decide (2<=x.kids.length/\x.kids.length<=60)else false
def Ut(a:List Attr)(x:Cond):Bool:=
 if x.op=2 then decide (0<=kI a x.name)else
 if x.op=3 then decide (0<=di a x.name)else
 if x.op=4 then decide (0<=di a x.name/\0<=di a x.arg)else
 if x.op=5 then Ae x.name && (decide (x.arg=dF)||Ae x.arg)else true
def Vn(s:B):Bool:=s.data.toList.any λc=>decide (c.toNat=124)
def qbT(a:List Attr)(lb:List B)(x:Cond):Bool:=
 if x.op=2 then(jv x.val).isSome else
 if x.op=3 then(match a[(di a x.name).toNat]? with|some b=>b.st|none=>false) && decide (x.val≠dF) && !Vn x.val && tH x.val else
 if x.op=4 then lb.any λl=>decide (l=x.lab)else
 if x.op=5 then tH x.val else true
def io(a:List Attr)(lb:List B)(x:Cond):Bool:=MT x && Ut a x && qbT a lb x
def mE(a:List Attr)(lb:List B):Nat->Cond->Bool
 | 0=>λ_=>false
 | n+1=>λx=>io a lb x && x.kids.all (mE a lb n)
def Pz(a:List Attr)(lb:List B)(x:Cond):Bool:=decide (cY x<=60/\bM x<=20) && mE a lb 20 x
variable {S S0:Nat->Spc}
def cX{X:Type}{l:List X}{k:Nat}(h:k < l.length):∃x,l[k]? =some x:=⟨_,qjC h⟩
def Zv(n:Nat)(x:Cond×Int×Int):Prop:=bM x.1<=n/\0<=x.2.1/\x.2.1+cY x.1<=60/\0<=x.2.2/\x.2.2+bM x.1<=1000/\bM x.1<=60
abbrev Ju(n:Nat):Spc:=aZ (a3 Cond Int Int) (Zv n) (sj (Y:=Int) (Z:=Int)) λx y=>y=(x.2.1+cY x.1,x.2.2+bM x.1 -1)
abbrev CE:Spc:=aZ (a3 Cond Int Int) (λx=>∃n,Zv n x) (sj (Y:=Int) (Z:=Int)) λx y=>y=(x.2.1+cY x.1,x.2.2+bM x.1 -1)
theorem tb(n:Nat)(h1:S bI=Ju n):ax gP gx S (a3 Cond Int Int) (Zv (n+1)) (sj (Y:=Int) (Z:=Int)) λx y=>y=(x.2.1+cY x.1,x.2.2+bM x.1 -1):=by
 rintro⟨x,nodes,deep⟩ ⟨hn,h0,h2,h3,h4,h5⟩;simp only at hn h0 h2 h3 h4 h5;have hd1:=uE x;have hn1:=oW x;simp[gP,gx];refine⟨by simp only[InR];omega,λhkl=>?_⟩;refine am (X:=Int×Int) [2,17] [] x.kids.length (λk z=>z.1=nodes+1+ (dy (x.kids.take k):Int)/\z.2=deep+ (ge (x.kids.take k):Int)) (λz=>[(1,enc z.1),(8,enc z.2)]) (λ_=>[]) (nodes+1,deep) (by simp) (by simp) (by omega) (by simp) (by simp) (by simp[dy,ge]) (by simp) (by simp) ?_ ?_
 ·rintro k ⟨m,d⟩ hk ⟨e1,e2⟩;simp only at e1 e2;obtain⟨y,hy⟩:=cX hk;obtain⟨_,hgy⟩:=qjA.1 hy;have hm:=Fi hy;have hd:=uD (qjD hy);have hp:Zv n (y,m,deep+1):=⟨by show bM y<=n;omega,by show 0<=m;omega,by show m+cY y<=60;omega,by show 0<=deep+1;omega,by show deep+1+bM y<=1000;omega,by show bM y<=60;omega⟩
  have hm60:¬60 < m:=by have:=oW y;omega
  simp[h1,hk,hy,hgy,hp,hm60];exact⟨by simp only[InR];omega,by omega,by rw[hm.2.1,e2];omega⟩
 ·rintro⟨m,d⟩ ⟨e1,e2⟩;simp only at e1 e2;rw[qkl]at e1 e2;simp;exact⟨by omega,by omega⟩
abbrev Jw:Spc:=aZ (a1 Cond) (λx=>cY x<=60/\bM x<=60) (enc (X:=Bool)) λ_ y=>y=false
def xw(h1:S bI=CE):ax iZ iN S (a1 Cond) (λx=>cY x<=60/\bM x<=60) (enc (X:=Bool)) λ_ y=>y=false:=by
 rintro x ⟨hn,hd⟩;have hp:∃n,Zv n (x,0,1):=⟨bM x,qjL _,qlg _,by show(0:Int) +cY x<=60;omega,by show(0:Int)<=1;omega,by show(1:Int) +bM x<=1000;omega,hd⟩
 simp[iZ,iN,h1,hp, -Bool.forall_bool, -Bool.exists_bool];omega
abbrev E8:Spc:=aZ (a1 Cond) (λx=>MT x=true) (enc (X:=Bool)) λ_ y=>y=true
set_option maxHeartbeats 1000000 in
theorem vQ:ax aQ aO S (a1 Cond) (λx=>MT x=true) (enc (X:=Bool)) λ_ y=>y=true:=by
 rintro⟨op,name,arg,val,lab,fold,ks⟩ hx;have hx:MT ⟨op,name,arg,val,lab,fold,ks⟩=true:=hx;unfold MT at hx;simp only at hx;split at hx
 ·rename_i e;subst e;simp at hx;obtain⟨⟨rfl,rfl,rfl,rfl,rfl⟩,rfl⟩:=hx;simp[aQ,aO,dF, -Bool.forall_bool, -Bool.exists_bool]
 split at hx
 ·rename_i e;subst e;simp at hx;obtain⟨⟨rfl,rfl⟩,rfl⟩:=hx;simp[aQ,aO,dF, -Bool.forall_bool, -Bool.exists_bool]
 split at hx
 ·rename_i e;subst e;simp at hx;obtain⟨⟨rfl,rfl,rfl⟩,rfl⟩:=hx;simp[aQ,aO,dF, -Bool.forall_bool, -Bool.exists_bool]
 split at hx
 ·rename_i e;subst e;simp at hx;obtain⟨⟨rfl,rfl⟩,rfl⟩:=hx;simp[aQ,aO,dF, -Bool.forall_bool, -Bool.exists_bool]
 split at hx
 ·rename_i e;subst e;simp at hx;obtain⟨⟨rfl,rfl,hav⟩,rfl⟩:=hx;by_cases ha:arg=dF
  ·have hv:=hav.resolve_left λh=>h ha
   subst ha;subst hv;simp[aQ,aO,dF, -Bool.forall_bool, -Bool.exists_bool]
  ·have ha':¬arg=⟨#[]⟩:=ha;simp[aQ,aO,dF,ha', -Bool.forall_bool, -Bool.exists_bool]
 split at hx
 ·rename_i e;subst e;simp at hx;obtain⟨⟨rfl,rfl,rfl,rfl,rfl⟩,hk⟩:=hx;simp[aQ,aO,dF,hk, -Bool.forall_bool, -Bool.exists_bool]
 split at hx
 ·rename_i e;simp at hx;obtain⟨⟨rfl,rfl,rfl,rfl,rfl⟩,hk1,hk2⟩:=hx;have q1:(2:Int)<=(ks.length:Int):=by omega
  have q2:(ks.length:Int)<=60:=by omega
  have q3:(ks.length:Int)<=9223372036854775807:=by omega
  rcases e with rfl|rfl <;> simp[aQ,aO,dF,q1,q2,q3, -Bool.forall_bool, -Bool.exists_bool]
 ·cases hx
end Go.Gv
