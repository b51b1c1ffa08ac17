/- V50 -/
import Derived.Laws.RangeString
import Derived.Test.YtnffegdacbdhmaaGreatDoorGe08
set_option linter.all false
set_option maxRecDepth 100000
set_option maxHeartbeats 0
open Bool renaming forall_bool → fB', exists_bool → eB'
namespace Go.Gv
section
open Cod (enc dec)
structure U64 where
 val:Int
deriving DecidableEq
instance:Cod U64 where
 wd:=1
 enc n:= .v (.int .u64 n.val)
 dec| .v (.int .u64 n)=>some ⟨n⟩|_=>none
 kn _:=rfl
 wid _:=rfl
 dec_enc _:=rfl
 le d x h:=by
  split at h
  ·cases h;exact .same _
  ·cases h
@[simp] theorem qyO(n:U64):enc n= .v (.int .u64 n.val):=i' rfl
@[simp] theorem qz6:Cod.wd U64=1:=i' rfl
@[simp] theorem qyY(n:Int):dec (X:=U64) (.v (.int .u64 n))=some ⟨n⟩:=i' rfl
@[simp] theorem qyF(n:U64):U64.mk n.val=n:=i' rfl
structure Rng where
 fr:I32
 to:I32
deriving DecidableEq
instance:Cod Rng where
 wd:=2
 enc s:= .agg [enc s.fr,enc s.to]
 dec| .agg [a,b]=>(dec a).bind λa=>(dec b).bind λb=>some ⟨a,b⟩|_=>none
 kn _:=rfl
 wid _:=rfl
 dec_enc s:=by simp
 le d x h:=by
  split at h
  ·simp only[qFA]at h;obtain⟨a,h0,b,h1,h⟩:=h;cases h;exact LeL.agg (.cons (Cod.le _ _ h0) (.cons (Cod.le _ _ h1) .nil))
  ·cases h
@[simp] theorem qyJ(s:Rng):(Rng.mk s.fr s.to)=s:=i' rfl
@[simp] theorem qyT(s:Rng):enc s= .agg [enc s.fr,enc s.to]:=i' rfl
@[simp] theorem qAb:Cod.wd Rng=2:=i' rfl
@[simp] theorem qy2(a b:D):dec (X:=Rng) (.agg [a,b])=((dec a).bind λa=>(dec b).bind λb=>some ⟨a,b⟩):=i' rfl
structure Rx where
 op:Int
 mn:Int
 mx:Int
 rs:List Rng
 kids:List Rx
mutual
def P8:Rx->D
 | .mk op mn mx rs ks=> .agg [enc op,enc mn,enc mx,enc rs, .list 5 (CB ks)]
def CB:List Rx->List D
 | []=>[]
 |k::ks=>P8 k::CB ks
end
mutual
def Z9:D->Option Rx
 | .agg [a,b,c,d,h]=>(dec a).bind λop=>(dec b).bind λmn=>(dec c).bind λmx=>(dec d).bind λrs=>(Mc h).bind λks=>some (.mk op mn mx rs ks)
 | _=>none
def Mc:D->Option (List Rx)
 | .list n es=>if n=5 then Er es else none
 | .v (.slice none 0 0)=>some []
 | _=>none
def Er:List D->Option (List Rx)
 | []=>some []
 |d::ds=>(Z9 d).bind λx=>(Er ds).bind λxs=>some (x::xs)
end
def K7:∀l:List Rx,CB l=l.map P8
 | []=>rfl
 | _::l=>by rw[CB,K7 l];rfl
def qem:∀c:Rx,(P8 c).kn=true
 | .mk .. =>rfl
def ZW:∀c:Rx,(P8 c).cells.length=5
 | .mk .. =>rfl
mutual
def Z8:∀c:Rx,Z9 (P8 c)=some c
 | .mk op mn mx rs ks=>by
   have h:Mc (.list 5 (CB ks))=some ks:=by rw[Mc,if_pos rfl];exact TA ks
   simp only[P8,Z9,Cod.dec_enc,qFW,h]
def TA:∀l:List Rx,Er (CB l)=some l
 | []=>by simp only[CB,Er]
 |c::l=>by simp only[CB,Er,Z8 c,TA l,qFW]
end
mutual
def qet:∀(d:D) (c:Rx),Z9 d=some c->FrzTo bS d (P8 c)
 | .agg [b,j,k,l,a],c,h=>by
   simp only[Z9,qFA,qFQ]at h;obtain⟨op,h0,mn,h1,mx,h2,rs,h3,ks,h4,rfl⟩:=h;rw[P8];exact LeL.agg (.cons (Cod.le _ _ h0) (.cons (Cod.le _ _ h1) (.cons (Cod.le _ _ h2) (.cons (Cod.le _ _ h3) (.cons (qkY a ks h4) .nil)))))
def qkY:∀(d:D) (l:List Rx),Mc d=some l->FrzTo bS d (.list 5 (CB l))
 | .list n es,l,h=>by
   simp only[Mc]at h;split at h
   ·rename_i hn;subst hn;have hl:=Z7 es l h;refine .list hl.1 (λe he=>?_) hl.2;rw[K7]at he;obtain⟨x,a,rfl⟩:=qFL.1 he;exact⟨qem x,ZW x⟩
   ·cases h
 | .v (.slice none 0 0),l,h=>by
   simp only[Mc,qFQ]at h;subst h;exact .nil _
def Z7:∀(es:List D) (l:List Rx),Er es=some l->LeL es (CB l)
 | [],l,h=>by
   simp only[Er,qFQ]at h;subst h;exact .nil
 | d::ds,l,h=>by
   simp only[Er,qFA,qFQ]at h;obtain⟨x,h1,xs,h2,rfl⟩:=h;rw[CB];exact .cons (qet d x h1) (Z7 ds xs h2)
end
instance:Cod Rx where
 wd:=5
 enc:=P8
 dec:=Z9
 kn:=qem
 wid:=ZW
 dec_enc:=Z8
 le:=qet
def qgO(ks:List Rx):D.list 5 (CB ks)=enc ks:=by rw[K7];rfl
def qkG(op mn mx:Int)(rs:List Rng)(ks:List Rx):enc (Rx.mk op mn mx rs ks)= .agg [enc op,enc mn,enc mx,enc rs,enc ks]:=by
 rw[<-qgO];show P8 _=_;rw[P8]
def Qf:∀es:List D,Er es=es.mapM (dec (X:=Rx))
 | []=>by simp[Er]
 | d::es=>by
   rw[Er,qGq,Qf es];rfl
def qkZ:∀d:D,Mc d=dec (X:=List Rx) d:=λd=>by
 unfold Mc;split
 ·rename_i n es;show _=if n=5 then es.mapM (dec (X:=Rx))else none
  rw[Qf]
 ·rfl
 ·rename_i h1 h2;show _=(match d with
   | .list n es=>if n=5 then es.mapM (dec (X:=Rx))else none
   | .v (.slice none 0 0)=>some []
   | _=>none)
  split
  ·exact absurd rfl (h1 _ _)
  ·exact absurd rfl h2
  ·rfl
@[simp] theorem qB8(s:Rx):Rx.mk s.op s.mn s.mx s.rs s.kids=s:=by cases s;rfl
@[simp] theorem qCf(s:Rx):enc s= .agg [enc s.op,enc s.mn,enc s.mx,enc s.rs,enc s.kids]:=by cases s;exact qkG ..
@[simp] theorem qDz:Cod.wd Rx=5:=i' rfl
@[simp] theorem qCn(a b c d h:D):dec (X:=Rx) (.agg [a,b,c,d,h])=((dec a).bind λa=>(dec b).bind λb=>(dec c).bind λc=>(dec d).bind λd=>(dec h).bind λh=>some ⟨a,b,c,d,h⟩):=by
 show Z9 _=_;simp only[Z9,qkZ]
structure Rp where
 s:B
 pos:Int
 fault:Int
 e:Int
def Rp.bump(p:Rp):Rp:={ p with pos:=p.pos+1 }
def Qx(p:Rp):Option Int:=
 if 200<p.s.size then none else
 if p.pos=p.s.size then some (-1)else
 if 0<=p.pos then match p.s.data[p.pos.toNat]? with
  |some c=>if c.toNat< 128 then some c.toNat else none
  |none=>none
 else none
def qob(a:B)(c:Int):Bool:=a.data.toList.any λx=>decide ((x.toNat:Int)=c)
def mM(p:Rp)(_:Unit):Option (Rp×I32):=(Qx p).map λc=>(p,⟨c⟩)
def Sk(p:Rp)(_:Unit):Option (Rp×Unit):=(Qx p).bind λc=>if 0<=c then some (p.bump,())else none
def FW(p:Rp)(_:B):Option (Rp× (I32×Bool)):=(Qx p).bind λc=>if c< 0\/c=92 then none else some (p.bump,⟨c⟩,true)
def qeC:B:=⟨#[92,91,93,94,45]⟩
def Zh(p:Rp)(_:Unit):Option (Rp× (I32×Bool)):=(Qx p).bind λc=>if c< 0\/qob qeC c=true then none else FW p qeC
def qh4(fr to:Int):Rx:=⟨1,0,0, [⟨⟨fr⟩,⟨to⟩⟩], []⟩
def vH(out:List Rng)(r:Rng):List Rng:=match out.getLast? with
 |some q=>if r.fr.val<=q.to.val+1 then out.dropLast++ [⟨q.fr,⟨max q.to.val r.to.val⟩⟩]else out++ [r]
 |none=>[r]
def Km(l:List Rng):Bool:=match l with
 | [x]=>decide (0<=x.fr.val/\x.fr.val<=1114111/\0<=x.to.val/\x.to.val<=1114111)
 | [x,y]=>decide (0<=x.fr.val/\x.fr.val<=1114111/\0<=x.to.val/\x.to.val<=1114111/\0<=y.fr.val/\y.fr.val<=1114111/\0<=y.to.val/\y.to.val<=1114111/\x.fr.val<=y.fr.val)
 | _=>false
def Jb(l:List Rng):List Rng:=l.foldl vH []
def qlk:Nat->Rp->List Rng->Option (Rp×List Rng)
 | 0,_,_=>none
 | n+1,p,l=>(Qx p).bind λc=>if l≠ []/\c=93 then some (p,l)else
   (Zh p ()).bind λq=>(Qx q.1).bind λd=>if d=45 then none else qlk n q.1 (l++ [⟨q.2.1,q.2.1⟩])
def qoL(p:Rp)(_:Unit):Option (Rp× (Rx×Bool)):=(Qx p).bind λa=>if a≠91 then none else(Qx p.bump).bind λc=>if c=94 then none else
 (qlk 100 p.bump []).bind λq=>if Km q.2=true then some (q.1.bump,⟨1,0,0,Jb q.2, []⟩,true)else none
def qut:B:=⟨#[92,46,91,93,40,41,123,125,124,42,43,63]⟩
def qeK(p:Rp)(_:Unit):Option (Rp× (Rx×Bool)):=(Qx p).bind λc=>
 if c=40 then none else if c=46 then some (p.bump,qh4 0 1114111,true)else if c=91 then qoL p ()else
 if c≠92/\qob qut c=true then none else(FW p qut).map λq=>(q.1,qh4 q.2.1.val q.2.1.val,q.2.2)
def Ry(c:Int):Option (Int×Int):=if c=42 then some (0, -1)else if c=43 then some (1, -1)else if c=63 then some (0,1)else none
def qiZ(p:Rp)(_:Unit):Option (Rp× (Rx×Bool)):=(qeK p ()).bind λq=>if q.2.2=true then(Qx q.1).bind λc=>if c=123 then none else match Ry c with
 |some m=>(Qx q.1.bump).bind λd=>if d=123\/(Ry d).isSome=true then none else some (q.1.bump,⟨4,m.1,m.2, [], [q.2.1]⟩,true)
 |none=>some (q.1,q.2.1,true)
 else none
def qan:Nat->Rp->List Rx->Option (Rp×List Rx)
 | 0,_,_=>none
 | n+1,p,l=>(Qx p).bind λc=>if c< 0\/c=124\/c=41 then some (p,l)else
   (qiZ p ()).bind λq=>if q.2.1.op=2 then none else qan n q.1 (l++ [q.2.1])
def qb7(op:Int):List Rx->Rx
 | [e]=>e
 |l=>⟨op,0,0, [],l⟩
def qlp(p:Rp)(_:Unit):Option (Rp× (Rx×Bool)):=(qan 100 p []).map λq=>(q.1,qb7 2 q.2,true)
def qhE:Nat->Rp->List Rx->Option (Rp×List Rx)
 | 0,_,_=>none
 | n+1,p,l=>(qlp p ()).bind λq=>(Qx q.1).bind λc=>
   if q.2.1.op=3 then none else if c=124 then qhE n q.1.bump (l++ [q.2.1])else some (q.1,l++ [q.2.1])
def qm5(p:Rp)(_:Unit):Option (Rp× (Rx×Bool)):=(qhE 100 p []).map λq=>(q.1,qb7 3 q.2,true)
def qul(f:Rx->Int->Int->Option (Bool×Int))(d:Int):List Rx->Int->Option (Bool×Int)
 | [],k=>some (true,k)
 |x::l,k=>(f x (d+1) k).bind λr=>if r.1=true then qul f d l r.2 else some (false,r.2)
def yN:Nat->Rx->Int->Int->Option (Bool×Int)
 | 0=>λ_ _ _=>none
 |n+1=>λx d k=>if d< 0\/1000<d\/k< 0\/1000<k then none else if 40<d\/200<k+1 then some (false,k+1)else qul (yN n) d x.kids (k+1)
def qdU(l:List Rng):Bool:=match l with
 | [r]=>decide (0<=r.fr.val/\r.fr.val<=r.to.val/\r.to.val<=1114111)
 | _=>false
def quI(x:Rx):Bool:=
 if x.op=1 then decide (x.mn=0/\x.mx=0) && x.kids.isEmpty && qdU x.rs else
 if x.op=2 then decide (x.mn=0/\x.mx=0) && x.rs.isEmpty && decide (x.kids.length≠1/\x.kids.length<=300) && x.kids.all λk=>decide (k.op≠2)else
 if x.op=3 then decide (x.mn=0/\x.mx=0) && x.rs.isEmpty && decide (1<x.kids.length/\x.kids.length<=300) && x.kids.all λk=>decide (k.op≠3)else
 if x.op=4 then decide (0<=x.mn/\x.mn<=16/\(x.mx= -1\/x.mn<=x.mx/\x.mx<=16)) && x.rs.isEmpty && decide (x.kids.length=1)else false
def qf1:Nat->Rx->Bool
 | 0=>λ_=>false
 |n+1=>λx=>quI x && x.kids.all (qf1 n)
def quC(f:Rx->Option Int):List Rx->Int->Option Int
 | [],k=>some k
 |x::l,k=>(f x).bind λy=>if k< 0\/1000<k\/y< 0\/1000<y then none else quC f l (min (k+y) 65)
def quE(x:Rx)(m:Int):Option Int:=
 if x.mx= -1 then(if -1000000<=m*max x.mn 1/\m*max x.mn 1<=1000000 then some (min (m*max x.mn 1) 65)else none)
 else if -1000000<=m*x.mx/\m*x.mx<=1000000 then some (min (m*x.mx) 65)else none
def O4:Nat->Rx->Option Int
 | 0=>λ_=>none
 |n+1=>λx=>if x.op=1 then some 1 else(quC (O4 n) x.kids 0).bind λm=>if x.op≠4 then some m else quE x m
def Ga(n:Nat)(x:Rx):Bool:=(match yN n x 1 0 with|some r=>r.1|none=>false) && qf1 n x && (match O4 n x with|some m=>decide (m<=64)|none=>false)
def Cq(s:B):Bool:=s.data.toList.all λc=>decide (c.toNat< 128)
def qw(s:B):Option Rx:=if s.size<=200/\Cq s=true then(qm5 ⟨s,0,0,0⟩ ()).bind λq=>if q.2.2=true/\q.1.pos=s.size/\Ga 50 q.2.1=true then some q.2.1 else none else none
structure Prt where
 first:U64
 last:U64
 nul:Bool
deriving DecidableEq
instance:Cod Prt where
 wd:=3
 enc s:= .agg [enc s.first,enc s.last,enc s.nul]
 dec| .agg [a,b,c]=>(dec a).bind λa=>(dec b).bind λb=>(dec c).bind λc=>some ⟨a,b,c⟩|_=>none
 kn _:=rfl
 wid _:=rfl
 dec_enc s:=by simp
 le d x h:=by
  split at h
  ·simp only[qFA]at h;obtain⟨a,h0,b,h1,c,h2,h⟩:=h;cases h;exact LeL.agg (.cons (Cod.le _ _ h0) (.cons (Cod.le _ _ h1) (.cons (Cod.le _ _ h2) .nil)))
  ·cases h
@[simp] theorem qyM(s:Prt):(Prt.mk s.first s.last s.nul)=s:=i' rfl
@[simp] theorem qyV(s:Prt):enc s= .agg [enc s.first,enc s.last,enc s.nul]:=i' rfl
@[simp] theorem qy4(a b c:D):dec (X:=Prt) (.agg [a,b,c])=((dec a).bind λa=>(dec b).bind λb=>(dec c).bind λc=>some ⟨a,b,c⟩):=i' rfl
structure Tbk where
 lvs:List (List Rng)
 fi:U64
 la:U64
 fol:List U64
 nul:Bool
def qg4(m:U64)(i:Nat):Bool:=decide (qcP .u64 (qfH .u64 m.val i) 1=1)
def qnB(a b:U64):U64:=⟨quG .u64 a.val b.val⟩
def qd4(fr to:U64):Nat->List U64->List U64
 | _, []=>[]
 |i,f::l=>(if qg4 fr i=true then qnB f to else f)::qd4 fr to (i+1) l
def Je(t:Tbk)(z:U64×U64):Option (Tbk×Unit):=if t.fol.length<=100000 then some ({ t with fol:=qd4 z.1 z.2 0 t.fol },())else none
def qu6(a b:Prt):Prt:=⟨if a.nul=true then qnB a.first b.first else a.first,if b.nul=true then qnB b.last a.last else b.last,a.nul && b.nul⟩
def CH(t:Tbk)(z:Prt×Prt):Option (Tbk×Prt):=(Je t (z.1.last,z.2.first)).map λq=>(q.1,qu6 z.1 z.2)
def GZ:Prt:=⟨⟨0⟩,⟨0⟩,true⟩
def qAR:Prt:=⟨⟨0⟩,⟨0⟩,false⟩
def qvP(f:Tbk->Rx->Option (Tbk×Prt)):List Rx->Tbk->Prt->Option (Tbk×Prt)
 | [],t,p=>some (t,p)
 |x::l,t,p=>(f t x).bind λq=>(CH q.1 (p,q.2)).bind λr=>qvP f l r.1 r.2
def qhd(f:Tbk->Rx->Option (Tbk×Prt)):List Rx->Tbk->Prt->Option (Tbk×Prt)
 | [],t,p=>some (t,p)
 |x::l,t,p=>(f t x).bind λq=>qhd f l q.1 ⟨qnB p.first q.2.first,qnB p.last q.2.last,p.nul||q.2.nul⟩
def VC(t:Tbk):Bool:=decide (t.lvs.length<=1000/\t.fol.length<=1000)
def qsx(b r:Tbk->Rx->Option (Tbk×Prt))(t:Tbk)(x:Rx):Option (Tbk×Prt):=
 if VC t=false\/1000<x.kids.length then none else
 if x.op=1 then some ({ t with lvs:=t.lvs++ [x.rs],fol:=t.fol++ [⟨0⟩] },⟨⟨Yh .u64 1 t.lvs.length⟩,⟨Yh .u64 1 t.lvs.length⟩,false⟩)else
 if x.op=2 then qvP b x.kids t GZ else
 if x.op=3 then qhd b x.kids t qAR else r t x
def quu(b:Tbk->Rx->Option (Tbk×Prt))(y:Rx)(mx:Int):Nat->Tbk->Prt->Option (Tbk×Prt×Bool)
 | 0,t,p=>some (t,p,false)
 | k+1,t,p=>if VC t=false then none else(b t y).bind λq=>if VC q.1=false then none else
   if q.1.lvs.length=t.lvs.length then some (q.1,GZ,true)else
   (if mx< 0/\k=0 then Je q.1 (q.2.last,q.2.first)else some (q.1,())).bind λl=>(CH l.1 (p,q.2)).bind λr=>quu b y mx k r.1 r.2
def qi0(b:Tbk->Rx->Option (Tbk×Prt))(o:Tbk->Rx×Int->Option (Tbk×Prt))(t:Tbk)(x:Rx):Option (Tbk×Prt):=match x.kids with
 | []=>none
 | y::_=>if x.mn< 0\/100<x.mn\/x.mx< -1\/100<x.mx then none else
   (quu b y x.mx x.mn.toNat t GZ).bind λq=>if q.2.2=true then some (q.1,GZ)else
   if x.mx< 0/\x.mn=0 then(b q.1 y).bind λr=>(Je r.1 (r.2.last,r.2.first)).map λl=>(l.1, { r.2 with nul:=true })else
   if x.mn<x.mx then(o q.1 (y,x.mx -x.mn)).bind λr=>CH r.1 (q.2.1,r.2)else some (q.1,q.2.1)
def qro(b:Tbk->Rx->Option (Tbk×Prt))(o:Tbk->Rx×Int->Option (Tbk×Prt))(t:Tbk)(z:Rx×Int):Option (Tbk×Prt):=
 if z.2< 0\/100<z.2\/VC t=false then none else
 if z.2=0 then some (t,GZ)else
 (b t z.1).bind λq=>if VC q.1=false then none else
 if q.1.lvs.length=t.lvs.length then some (q.1,GZ)else
 (o q.1 (z.1,z.2 -1)).bind λr=>(CH r.1 (q.2,r.2)).map λl=>(l.1, { l.2 with nul:=true })
structure qFx where
 b:Tbk->Rx->Option (Tbk×Prt)
 r:Tbk->Rx->Option (Tbk×Prt)
 o:Tbk->Rx×Int->Option (Tbk×Prt)
def Hu:Nat->qFx
 | 0=>⟨λ_ _=>none,λ_ _=>none,λ_ _=>none⟩
 |n+1=>⟨qsx (Hu n).b (Hu n).r,qi0 (Hu n).b (Hu n).o,qro (Hu n).b (Hu n).o⟩
def qE4:Tbk:=⟨[],⟨0⟩,⟨0⟩, [],false⟩
def qm8(n:Nat)(x:Rx):Option Tbk:=((Hu n).b qE4 x).map λq=>{ q.1 with fi:=q.2.first,la:=q.2.last,nul:=q.2.nul }
def qpF(set:U64):Nat->List U64->U64->U64
 | _, [],m=>m
 |i,f::l,m=>qpF set (i+1) l (if qg4 set i=true then qnB m f else m)
def D1(t:Tbk)(set:U64)(a:Bool):U64:=if a=true then t.fi else qpF set 0 t.fol ⟨0⟩
variable {dq:Prop}
section
variable {X Y:Type}[Cod X][Cod Y]
def qBL(pre:X->List Y->Prop)(post:X->List Y->List Y->Prop)(el n:Nat):PT:=λd ds H K=>∃id v l a x,ds=[a, .own id v]/\dec a=some x/\H id=some (.row v el n (l.map enc))/\pre x l/\
 ∀v' l',post x l l'->K (.own id v') (ai H id (some (.row v' el n (l'.map enc))))
def qoe(pre:X->List Y->Prop)(post:X->List Y->List Y->Prop)(el n:Nat):nC (qBL pre post el n):=λd ds H K b hk ⟨id,v,l,a,x,h1,h2,h3,h4,h5⟩=>⟨id,v,l,a,x,h1,h2,h3,h4,λv' l' hp=>hk _ _ (h5 v' l' hp)⟩
def qmt(pre:X->List Y->Prop)(post:X->List Y->List Y->Prop)(el n:Nat):Spc:= .gen _ (qoe pre post el n)
def qym(pre:X->List Y->Prop)(post:X->List Y->List Y->Prop)(el n id:Nat)(v:Value)(o:Option X)(r:Option Res)(H:ab)(K:D->ab->Prop):Prop:=∃l,r=some (.row v el n (l.map enc))/\eL o λx=>pre x l/\∀v' l',post x l l'->K (.own id v') (ai H id (some (.row v' el n (l'.map enc))))
@[congr] theorem qBK{pre:X->List Y->Prop}{post:X->List Y->List Y->Prop}{el n id:Nat}{v:Value}{o a:Option X}{r r':Option Res}{H:ab}{K:D->ab->Prop}(h1:o=a)(h2:r=r'):qym pre post el n id v o r H K=qym pre post el n id v a r' H K:=by subst h1;subst h2;rfl
@[simp] theorem qBM(pre:X->List Y->Prop)(post:X->List Y->List Y->Prop)(el n:Nat)(d i:Nat)(a:D)(v:Value)(H:ab)(K:D->ab->Prop):(qmt pre post el n).pt d [a, .own i v] H K=qym pre post el n i v (dec a) (H i) H K:=by
 refine propext ⟨λh=>?_,λh=>?_⟩
 ·obtain⟨id,v,l,a,x,h1,h2,h3,h4,h5⟩:=h;cases h1;refine⟨l,h3,?_⟩;rw[h2];exact⟨h4,h5⟩
 ·obtain⟨l,h1,h2⟩:=h;cases b:dec (X:=X) a with
  |none=>rw[b]at h2;exact h2.elim
  |some x=>rw[b]at h2;exact⟨i,v,l,a,x,rfl,b,h1,h2.1,h2.2⟩
@[simp] theorem qEk(pre:X->List Y->Prop)(post:X->List Y->List Y->Prop)(el n id:Nat)(v:Value)(o:Option X)(l:List Y)(H:ab)(K:D->ab->Prop):qym pre post el n id v o (some (.row v el n (l.map enc))) H K=eL o λx=>pre x l/\∀v' l',post x l l'->K (.own id v') (ai H id (some (.row v' el n (l'.map enc)))):=by
 refine propext ⟨λ⟨l',h1,h2⟩=>?_,λh=>⟨l,rfl,h⟩⟩;simp at h1;subst h1;exact h2
def QH(cc:CC)(rs:List aj)(S:Nat->Spc)(pre:X->List Y->Prop)(post:X->List Y->List Y->Prop)(el n:Nat):Prop:=
 ∀v l x,pre x l->vc S cc (vE rs λr H'=>qpe el n (post x l) r H') (dR [enc x, .own 1 v]) (ai bS 1 (some (.row v el n (l.map enc))))
variable {P:Program}{S:Nat->Spc}{f:Nat}{im:List Nat}{cc:CC}{rs:List aj}{N:Nat}{el n:Nat}
theorem AY{pre:X->List Y->Prop}{post:X->List Y->List Y->Prop}(t:∀f,Tri dq P f (S f).pt)(h:zY P f im cc rs N)(u:2<=N)(w:QH cc rs S pre post el n):Tri dq P f (qmt pre post el n).pt:=by
 obtain⟨zq,enter,fn,code,h1,h2,h3,h4,h5⟩:=h;refine pw t zq h1 h2 enter h3 h4 h5 ?_;rintro ds H d K ⟨id,v,l,a,x,rfl,y,hid,hp,A⟩;have hl:=Cod.le _ _ y;refine⟨u, [enc x, .own 1 v],ai bS 1 (some (.row v el n (l.map enc))),λ_=>id, .cons hl (.cons (.own _ _ _) .nil),λi r h=>?_,λi j r s h C _=>?_,_,w v l x hp,?_⟩
 ·by_cases e:i=1
  ·subst e;simp only[ai,if_true]at h;cases h;exact hid
  ·simp[ai,e]at h
 ·have a:i=1:=by
   by_cases e:i=1
   ·exact e
   ·simp[ai,e]at h
  have b:j=1:=by
   by_cases e:j=1
   ·exact e
   ·simp[ai,e]at C
  exact a.trans b.symm
 ·rintro r H' ⟨j,v',l',rfl,E,c⟩;refine⟨.own id v',bS,ai H id (some (.row v' el n (l'.map enc))),λi=>if i=id then some j else none, .own _ _ _,λj q h=>by simp at h,A v' l' c,λi s hi=>?_,λi p k s q hi F I J=>?_⟩
  ·by_cases e:i=id
   ·subst e;simp only[ai,if_true]at hi;cases hi;simpa using E
   ·simp only[ai,e,if_false]at hi ⊢;exact⟨hi,λk q h he=>e he.symm⟩
  ·have a:i=id:=by
    by_cases e:i=id
    ·exact e
    ·simp[e]at I
   have b:p=id:=by
    by_cases e:p=id
    ·exact e
    ·simp[e]at J
   exact a.trans b.symm
end
section
variable {X Y Z:Type}
structure Ni (X:Type) where
 ids:List Nat
 ce:X->List D
 hp:X->List (Nat×Res)
 keys:∀x,(hp x).map (·.1)=ids
def qaE:∀{l:List (Nat×Res)} {i:Nat} {s:Res},gS l bS i=some s->(i,s) ∈l
 | [],i,s,h=>by simp[gS,bS]at h
 | (j,r)::l,i,s,h=>by
  simp only[gS,ai]at h;by_cases e:i=j
  ·subst e;simp only[if_true]at h;cases h;simp
  ·simp only[e,if_false]at h;exact qHn _ (qaE h)
def qaF:∀{l:List (Nat×Res)} {H:ab} {i:Nat} {s:Res},i∈l.map (·.1)->gS l H i=some s->(i,s) ∈l
 | (j,r)::l,H,i,s,hi,h=>by
  simp only[gS,ai]at h;by_cases e:i=j
  ·subst e;simp only[if_true]at h;cases h;simp
  ·simp only[e,if_false]at h;simp[e]at hi;refine qHn _ (qaF (H:=H) ?_ h);simpa using hi
def qaD:∀{l:List (Nat×Res)} {H:ab} {i:Nat},i∉l.map (·.1)->gS l H i=H i
 | [],H,i,_=>rfl
 | (j,r)::l,H,i,hi=>by
  simp only[qF6,qFK,not_or]at hi;simp only[gS,ai,hi.1,if_false];exact qaD hi.2
def qC3(B:Ni X)(A:dP Z)(er:Y->D)(pre:X->Z->Prop)(post:X->Z->X->Y->Prop):PT:=λd ds H K=>∃id b x z a,ds= .bptr id b 0::a/\A.dec a=some z/\H id=some (.box b (B.ce x))/\(∀p∈B.hp x,H p.1=some p.2)/\id∉B.ids/\pre x z/\
 ∀c y,post x z c y->K (er y) (ai (gS (B.hp c) H) id (some (.box b (B.ce c))))
def qoW(B:Ni X)(A:dP Z)(er:Y->D)(pre:X->Z->Prop)(post:X->Z->X->Y->Prop):nC (qC3 B A er pre post):=λd ds H K j hk ⟨id,b,x,z,a,h1,h2,h3,h4,h5,h6,c⟩=>⟨id,b,x,z,a,h1,h2,h3,h4,h5,h6,λh y hp=>hk _ _ (c h y hp)⟩
def qsv(B:Ni X)(A:dP Z)(er:Y->D)(pre:X->Z->Prop)(post:X->Z->X->Y->Prop):Spc:= .gen _ (qoW B A er pre post)
def Mi(B:Ni X)(er:Y->D)(b:Nat)(post:X->Y->Prop)(r:D)(H:ab):Prop:=∃x y,FrzTo (λi=>if i=0\/i∈B.ids then none else H i) r (er y)/\H 0=some (.box b (B.ce x))/\(∀p∈B.hp x,H p.1=some p.2)/\post x y
def qlU(cc:CC)(rs:List aj)(S:Nat->Spc)(B:Ni X)(A:dP Z)(er:Y->D)(pre:X->Z->Prop)(post:X->Z->X->Y->Prop):Prop:=
 ∀b x z,pre x z->vc S cc (vE rs λr H'=>Mi B er b (post x z) r H') (dR (.bptr 0 b 0::A.view z)) (ai (gS (B.hp x) bS) 0 (some (.box b (B.ce x))))
variable {P:Program}{S:Nat->Spc}{f:Nat}{im:List Nat}{cc:CC}{rs:List aj}{N:Nat}
theorem wl{B:Ni X}{A:dP Z}{er:Y->D}{pre:X->Z->Prop}{post:X->Z->X->Y->Prop}(p:0∉B.ids)(M:∀f,Tri dq P f (S f).pt)(h:zY P f im cc rs N)(O:∀z,(A.view z).length+1<=N)(Q:qlU cc rs S B A er pre post):Tri dq P f (qsv B A er pre post).pt:=by
 obtain⟨zq,enter,fn,code,h1,h2,h3,h4,h5⟩:=h;refine pw M zq h1 h2 enter h3 h4 h5 ?_;rintro ds H d K ⟨id,b,x,z,E,rfl,U,hid,F,t,hp,W⟩;have hl:=A.le E z U;have h0:∀i r,ai (gS (B.hp x) bS) 0 (some (.box b (B.ce x))) i=some r->i=0/\r= .box b (B.ce x)\/i≠0/\(i,r) ∈B.hp x:=by
  intro i r h;by_cases e:i=0
  ·subst e;simp only[ai,if_true]at h;cases h;exact .inl ⟨rfl,rfl⟩
  ·simp only[ai,e,if_false]at h;exact .inr ⟨e,qaE h⟩
 have hk:∀{x:X} {i:Nat} {r:Res},(i,r) ∈B.hp x->i∈B.ids:=by
  intro x i r h;rw[<-B.keys x];exact qFL.2 ⟨_,h,rfl⟩
 refine⟨by simp only[qGi];rw[hl.1];exact O z, .bptr 0 b 0::A.view z,ai (gS (B.hp x) bS) 0 (some (.box b (B.ce x))),λi=>if i=0 then id else i, .cons (.bptr _ _ _ _) hl,λi r h=>?_,λi j r s h L e=>?_,_,Q b x z hp,?_⟩
 ·rcases h0 i r h with⟨rfl,rfl⟩|⟨e,hm⟩
  ·exact hid
  ·simp only[e,if_false];exact F _ hm
 ·rcases h0 i r h with⟨rfl,rfl⟩|⟨c,hm⟩
  ·rcases h0 j s L with⟨rfl,rfl⟩|⟨a,u⟩
   ·rfl
   ·simp only[a,if_true,if_false]at e;subst e;exact absurd (hk u) t
  ·rcases h0 j s L with⟨rfl,rfl⟩|⟨a,u⟩
   ·simp only[c,if_true,if_false]at e;subst e;exact absurd (hk hm) t
   ·simpa only[c,a,if_false]using e
 ·rintro r H' ⟨I,y,J,hj,w,l⟩;refine⟨er y,λi=>if i=0\/i∈B.ids then none else H' i,ai (gS (B.hp I) H) id (some (.box b (B.ce I))),λi=>if i=id then some 0 else if i∈B.ids then some i else none,J,λj q h=>?_,W I y l,λi s hi=>?_,λi C k s q hi hj' c a=>?_⟩
  ·by_cases e:j=0\/j∈B.ids
   ·simp[e]at h
   ·simp only[e,if_false]at h;refine⟨h,λi hh=>e ?_⟩;by_cases c:i=id
    ·simp only[c,if_true]at hh;cases hh;exact .inl rfl
    ·simp only[c,if_false]at hh;by_cases a:i∈B.ids
     ·simp only[a,if_true]at hh;cases hh;exact .inr a
     ·simp[a]at hh
  ·by_cases e:i=id
   ·subst e;simp only[ai,if_true]at hi;cases hi;simpa using hj
   ·simp only[ai,e,if_false]at hi ⊢;by_cases a:i∈B.ids
    ·simp only[a,if_true];exact w _ (qaF (by rw[B.keys];exact a) hi)
    ·simp only[a,if_false];rw[qaD (by rw[B.keys];exact a)]at hi;refine⟨hi,λk q h he=>?_⟩;rcases h0 k q h with⟨rfl,rfl⟩|⟨e3,hm⟩
     ·simp only[if_true]at he;exact e he.symm
     ·simp only[e3,if_false]at he;subst he;exact a (hk hm)
  ·by_cases c1:i=id
   ·by_cases c2:C=id
    ·exact c1.trans c2.symm
    ·simp only[c1,if_true]at c;cases c;simp only[c2,if_false]at a;by_cases c3:C∈B.ids
     ·simp only[c3,if_true]at a;cases a;exact absurd c3 p
     ·simp[c3]at a
   ·simp only[c1,if_false]at c;by_cases c3:i∈B.ids
    ·simp only[c3,if_true]at c;cases c;by_cases c2:C=id
     ·simp only[c2,if_true]at a;cases a;exact absurd c3 p
     ·simp only[c2,if_false]at a;by_cases c4:C∈B.ids
      ·simp only[c4,if_true]at a;cases a;rfl
      ·simp[c4]at a
    ·simp[c3]at c
def Ng{X:Type}(ce:X->List D):Ni X:=⟨[],ce,λ_=>[],λ_=>rfl⟩
end
structure qET where
 v:Value
 v':Value
 t:Tbk
def vO(v v':Value)(t:Tbk):List D:=[.own 990 v, .v (.int .u64 t.fi.val), .v (.int .u64 t.la.val), .own 991 v', .v (.bool t.nul)]
def rT(v:Value)(l:List (List Rng)):Res:= .row v fw 1 (l.map enc)
def rU(v:Value)(l:List U64):Res:= .row v gm 1 (l.map enc)
def tbB:Ni qET:=⟨[990,991],λx=>vO x.v x.v' x.t,λx=>[(990,rT x.v x.t.lvs),(991,rU x.v' x.t.fol)],λ_=>rfl⟩
section
variable {Y Z:Type}
def qmr(A:dP Z)(er:Y->D)(F:Tbk->Z->Option (Tbk×Y)):Spc:=qsv tbB A er (λs z=>∃r,F s.t z=some r) (λs z a y=>F s.t z=some (a.t,y))
def Ay(H:ab)(id b:Nat)(v v':Value)(t:Tbk):ab:=ai (ai (ai H 991 (some (rU v' t.fol))) 990 (some (rT v t.lvs))) id (some (.box b (vO v v' t)))
def XV(er:Y->D)(F:Tbk->Z->Option (Tbk×Y))(id b:Nat)(r a c:Option Res)(o:Option Z)(H:ab)(K:D->ab->Prop):Prop:=
 ∃v v' t,r=some (.box b (vO v v' t))/\a=some (rT v t.lvs)/\c=some (rU v' t.fol)/\id≠990/\id≠991/\eL o λz=>eL (F t z) λq=>∀w w',K (er q.2) (Ay H id b w w' q.1)
@[congr] theorem qwW{er:Y->D}{F:Tbk->Z->Option (Tbk×Y)}{id b:Nat}{r r' d a h c:Option Res}{o j:Option Z}{H:ab}{K:D->ab->Prop}(h1:r=r')(h2:d=a)(h3:h=c)(h4:o=j):XV er F id b r d h o H K=XV er F id b r' a c j H K:=by subst h1;subst h2;subst h3;subst h4;rfl
def G5{X:Type}[Cod X]:∀{l l':List X},l.map enc=l'.map enc->l=l'
 | [], [],_=>rfl
 | [],_::_,h=>by simp at h
 | _::_, [],h=>by simp at h
 | a::l,b::l',h=>by
   rw[qF6,qF6,qF8]at h;rw[aP h.1,G5 h.2]
def qiT{v v':Value}{l l':List (List Rng)}(h:rT v l=rT v' l'):v=v'/\l=l':=by
 unfold rT at h;injection h with h1 h2 h3 h4;exact⟨h1,G5 h4⟩
def qiU{v v':Value}{l l':List U64}(h:rU v l=rU v' l'):v=v'/\l=l':=by
 unfold rU at h;injection h with h1 h2 h3 h4;exact⟨h1,G5 h4⟩
def qhN{b b':Nat}{v v' w w':Value}{t t':Tbk}(h:Res.box b (vO v v' t)=Res.box b' (vO w w' t'))(h1:rT v t.lvs=rT w t'.lvs)(h2:rU v' t.fol=rU w' t'.fol):b=b'/\v=w/\v'=w'/\t=t':=by
 obtain⟨d,a⟩:=qiT h1;obtain⟨j,c⟩:=qiU h2;obtain⟨hb,hc⟩:=Res.box.inj h;simp only[vO,qF8,D.own.injEq,D.v.injEq,qH1,Value.bool.injEq,true_and,and_true]at hc;obtain⟨_,⟨c1,c2,_,c3⟩⟩:=hc;refine⟨hb,d,j,?_⟩;obtain⟨a1,⟨a2⟩,⟨a3⟩,a4,k⟩:=t;obtain⟨b1,⟨b2⟩,⟨l⟩,p,q⟩:=t';simp only at a c c1 c2 c3;subst a;subst c;subst c1;subst c2;subst c3;rfl
def qhO(x:qET)(H:ab)(id b:Nat):ai (gS (tbB.hp x) H) id (some (.box b (tbB.ce x)))=Ay H id b x.v x.v' x.t:=by
 rfl
theorem qbC(A:dP Z)(er:Y->D)(F:Tbk->Z->Option (Tbk×Y))(d i b:Nat)(ds:List D)(H:ab)(K:D->ab->Prop):(qmr A er F).pt d (.bptr i b 0::ds) H K=XV er F i b (H i) (H 990) (H 991) (A.dec ds) H K:=by
 refine propext ⟨λh=>?_,λh=>?_⟩
 ·obtain⟨id,b',x,z,l,h1,h2,h3,h4,h5,h6,r⟩:=h;cases h1;simp only[tbB,qFK,qGd,or_false,not_or]at h5;refine⟨x.v,x.v',x.t,h3,h4 (990,rT x.v x.t.lvs) (by simp[tbB]),h4 (991,rU x.v' x.t.fol) (by simp[tbB]),h5.1,h5.2,?_⟩;rw[h2];obtain⟨⟨t',y⟩,k⟩:=h6;show eL (F x.t z) _;rw[k];intro w w';have:=r ⟨w,w',t'⟩ y k;rwa [qhO]at this
 ·obtain⟨v,v',t,h1,h2,h3,h4,h5,h6⟩:=h;cases hz:A.dec ds with
  |none=>rw[hz]at h6;exact h6.elim
  | some z=>
    rw[hz]at h6;have h6:eL (F t z) λq=>∀w w',K (er q.2) (Ay H i b w w' q.1):=h6
    cases a:F t z with
    |none=>rw[a]at h6;exact h6.elim
    | some q=>
      rw[a]at h6;have h6:∀w w',K (er q.2) (Ay H i b w w' q.1):=h6;refine⟨i,b,⟨v,v',t⟩,z,ds,rfl,hz,h1,λp hp=>?_,by simp[tbB,h4,h5],⟨q,a⟩,λj y c=>?_⟩
      ·simp only[tbB,qFK,qGd,or_false]at hp;rcases hp with rfl|rfl
       ·exact h2
       ·exact h3
      ·have c:F t z=some (j.t,y):=c;rw[a]at c;cases c;rw[qhO];exact h6 j.v j.v'
theorem qn6(A:dP Z)(er:Y->D)(F:Tbk->Z->Option (Tbk×Y))(b:Nat)(ds:List D):qml 0 (qmr A er F).pt (.bptr 0 b 0::ds):=by
 refine⟨λR=>XV er F 0 b (R 0) (R 990) (R 991) (A.dec ds) R λ_ _=>True,λR d u=>∃v v' t z q w w',R 0=some (.box b (vO v v' t))/\R 990=some (rT v t.lvs)/\R 991=some (rU v' t.fol)/\A.dec ds=some z/\F t z=some q/\d=er q.2/\u=[(0, .box b (vO w w' q.1)),(990,rT w q.1.lvs),(991,rU w' q.1.fol)],λt H K=>?_⟩;rw[qbC];have l:uK H (some 0) 0=H 0:=by simp only[uK];exact if_pos rfl
 have p:uK H (some 0) 990=H 990:=by simp only[uK];exact if_pos rfl
 have r:uK H (some 0) 991=H 991:=by simp only[uK];exact if_pos rfl
 show _↔XV er F 0 b (uK H (some 0) 0) (uK H (some 0) 990) (uK H (some 0) 991) (A.dec ds) (uK H (some 0)) (λ_ _=>True)/\∀d u,(∃v v' t z q w w',uK H (some 0) 0=some (.box b (vO v v' t))/\uK H (some 0) 990=some (rT v t.lvs)/\uK H (some 0) 991=some (rU v' t.fol)/\A.dec ds=some z/\F t z=some q/\d=er q.2/\u=[(0, .box b (vO w w' q.1)),(990,rT w q.1.lvs),(991,rU w' q.1.fol)])->K d (jX H (some 0) u);rw[l,p,r];have hp:∀(w w':Value) (q:Tbk),jX H (some 0) [(0, .box b (vO w w' q)),(990,rT w q.lvs),(991,rU w' q.fol)]=Ay H 0 b w w' q:=λw w' q=>by
  funext i;simp only[jX,Ay,ai];by_cases h0:i=0
  ·subst h0;rfl
  ·by_cases h1:i=990
   ·subst h1;rfl
   ·by_cases h2:i=991
    ·subst h2;rfl
    ·have e:([(0, .box b (vO w w' q)),(990,rT w q.lvs),(991,rU w' q.fol)]:List (Nat×Res)).lookup i=none:=by
      have s:(i==0)=false:=by simp[h0]
      have x:(i==990)=false:=by simp[h1]
      have y:(i==991)=false:=by simp[h2]
      simp only[List.lookup,s,x,y]
     rw[e,if_neg h0,if_neg h1,if_neg h2];split<;>rfl
 constructor
 ·rintro⟨v,v',t,h1,h2,h3,h4,h5,h6⟩;cases hz:A.dec ds with
  |none=>rw[hz]at h6;exact h6.elim
  | some z=>
    rw[hz]at h6;have h6:eL (F t z) λq=>∀w w',K (er q.2) (Ay H 0 b w w' q.1):=h6
    cases a:F t z with
    |none=>rw[a]at h6;exact h6.elim
    | some q=>
      rw[a]at h6;have h6:∀w w',K (er q.2) (Ay H 0 b w w' q.1):=h6;refine⟨⟨v,v',t,h1,h2,h3,h4,h5,?_⟩,?_⟩
      ·show eL (F t z) _;rw[a];exactλ_ _=>trivial
      ·rintro d u ⟨v1,C,t1,J,L,w,w',c,h,j,E,k,rfl,rfl⟩;rw[h1]at c;rw[h2]at h;rw[h3]at j;obtain⟨_,_,_,rfl⟩:=qhN (qFO c) (qFO h) (qFO j);cases E;rw[a]at k;cases k;rw[hp];exact h6 w w'
 ·rintro⟨⟨v,v',t,h1,h2,h3,h4,h5,h6⟩,I⟩;refine⟨v,v',t,h1,h2,h3,h4,h5,?_⟩;cases hz:A.dec ds with
  |none=>rw[hz]at h6;exact h6.elim
  | some z=>
    rw[hz]at h6;have h6:eL (F t z) λq=>∀w w':Value,True:=h6
    show eL (F t z) _;cases a:F t z with
    |none=>rw[a]at h6;exact h6.elim
    | some q=>
      intro w w';have:=I (er q.2) _ ⟨v,v',t,z,q,w,w',h1,h2,h3,hz,a,rfl,rfl⟩;rwa [hp]at this
def qjc(A:dP Z)(er:Y->D)(F:Tbk->Z->Option (Tbk×Y))(b:Nat)(dst:Option Nat)(ds:List D)(H:ab)(K:D->ab->Prop):O1 0 dst (qmr A er F) (.bptr 0 b 0::ds) H K=XV er F 0 b (H 0) (H 990) (H 991) (A.dec ds) H K:=by
 rw[<-qbC A er F (dst.getD 0)];exact propext ⟨λh=>h.2,λh=>⟨qn6 A er F b ds,h⟩⟩
def qqI(er:Y->D)(F:Tbk->Z->Option (Tbk×Y))(id b:Nat)(v v':Value)(f l:Int)(n:Bool)(lv:List (List Rng))(fo:List U64)(o:Option Z)(H:ab)(K:D->ab->Prop):
 XV er F id b (some (.box b [.own 990 v, .v (.int .u64 f), .v (.int .u64 l), .own 991 v', .v (.bool n)])) (some (.row v fw 1 (lv.map enc))) (some (.row v' gm 1 (fo.map enc))) o H K=(id≠990/\id≠991/\eL o λz=>eL (F ⟨lv,⟨f⟩,⟨l⟩,fo,n⟩ z) λq=>∀w w',K (er q.2) (Ay H id b w w' q.1)):=by
 refine propext ⟨λ⟨w,w',t,h1,h2,h3,h4,h5,h6⟩=>⟨h4,h5,?_⟩,λh=>⟨v,v',⟨lv,⟨f⟩,⟨l⟩,fo,n⟩,rfl,rfl,rfl,h.1,h.2.1,h.2.2⟩⟩;obtain⟨_,_,_,e⟩:=qhN (t:=⟨lv,⟨f⟩,⟨l⟩,fo,n⟩) (t':=t) (b:=b) (b':=b) (qFO h1) (qFO h2) (qFO h3);subst e;exact h6
def qaV(er:Y->D)(b:Nat)(post:Tbk->Y->Prop)(r:D)(H:ab):Prop:=Mi tbB er b (λs y=>post s.t y) r H
def qpO{er:Y->D}{b:Nat}{post:Tbk->Y->Prop}{r:D}{H:ab}(v v':Value)(t:Tbk)(y:Y)(a:FrzTo (λi=>if i=0\/i=990\/i=991 then none else H i) r (er y))(h0:H 0=some (.box b (vO v v' t)))(h1:H 990=some (rT v t.lvs))(h2:H 991=some (rU v' t.fol))(c:post t y):qaV er b post r H:=
 ⟨⟨v,v',t⟩,y,by simpa [tbB]using a,h0,λp hp=>by
  simp only[tbB,qFK,qGd,or_false]at hp;rcases hp with rfl|rfl
  ·exact h1
  ·exact h2,c⟩
def Lz(cc:CC)(rs:List aj)(S:Nat->Spc)(A:dP Z)(er:Y->D)(F:Tbk->Z->Option (Tbk×Y)):Prop:=
 ∀b v v' t z r,F t z=some r->vc S cc (vE rs λd H'=>qaV er b (λt' y=>r=(t',y)) d H') (dR (.bptr 0 b 0::A.view z)) (Ay bS 0 b v v' t)
variable {P:Program}{S:Nat->Spc}{f:Nat}{im:List Nat}{cc:CC}{rs:List aj}{N:Nat}
def wk{A:dP Z}{er:Y->D}{F:Tbk->Z->Option (Tbk×Y)}(j:∀f,Tri dq P f (S f).pt)(h:zY P f im cc rs N)(k:∀z,(A.view z).length+1<=N)(l:Lz cc rs S A er F):Tri dq P f (qmr A er F).pt:=
 wl (by simp[tbB]) j h k λb x z hp=>by
  obtain⟨r,a⟩:=hp;rw[qhO];have:=l b x.v x.v' x.t z r a;have e:(λ(d:D) (H':ab)=>Mi tbB er b (λc y=>F x.t z=some (c.t,y)) d H')=λd H'=>qaV er b (λt' y=>r=(t',y)) d H':=by
   funext d H';unfold qaV;congr 1;funext c y;rw[a];exact propext ⟨λh=>qFO h,λh=>congrArg some h⟩
  rw[e];exact this
end
@[simp] theorem qzC(m:U64)(i:Nat):decide (qcP .u64 (qfH .u64 m.val i) 1=1)=qg4 m i:=i' rfl
end
section
open Go.Proofs
def Cl:CC:=gq Tryz.f290 [1,2024006,2022006,2020006] { cu:=[1,4],kz:=[990,991] } _
def Bk:List aj:=[.tmp 2]
def VB:FO En [1,2024006,2022006,2020006] Cl Bk 26:=fo
def lZ:CC:=gq Tryz.f327 [] { bx:=[0],kz:=[990,991] } _
def lr:List aj:=[]
def DU:FO ir [] lZ lr 31:=fo
def jB:CC:=gq Tryz.f318 [4,5] { ke:=[0],kz:=[990,991] } _
def ji:List aj:=[.cell 6 true 3]
def Bz:FO dZ [4,5] jB ji 42:=fo
def db:CC:=gq Tryz.f308 [3,3060000,1031990,2033000,2006006] { bx:=[0],kz:=[990,991] } _
def cX:List aj:=[.cell 4 true 3]
def C0:FO dy [3,3060000,1031990,2033000,2006006] db cX 98:=fo
def jA:CC:=gq Tryz.f319 [3,3095000,2005005] { bx:=[0],kz:=[990,991] } _
def jh:List aj:=[.cell 4 true 3]
def By:FO kE [3,3095000,2005005] jA jh 98:=fo
def di:CC:=gq Tryz.f328 [4,3035000,3036000,2009009] { bx:=[0],kz:=[990,991] } _
def df:List aj:=[.cell 6 true 3]
def zl:FO fm [4,3035000,3036000,2009009] di df 39:=fo
def gR:CC:=gq Tryz.f291 [] { ke:=[0],kz:=[990,991] } _
def gF:List aj:=[.tmp 6]
def DV:FO nj [] gR gF 35:=fo
open Cod (enc dec)
variable {S S0:Nat->Spc}
@[simp] theorem qyH(t:Tbk):Tbk.mk t.lvs t.fi t.la t.fol t.nul=t:=i' rfl
abbrev UU:Spc:=qmr (a2 U64 U64) Wg Je
def qd3(fr to:U64):∀(l:List U64) (i:Nat),(qd4 fr to i l).length=l.length
 | [],_=>rfl
 |f::l,i=>by rw[qd4,qGi,qGi,qd3 fr to l (i+1)]
def Zn{fr to f:U64} :∀{l:List U64} {i k:Nat},l[k]? =some f->qd4 fr to i (l.take k) ++ (if qg4 fr (i+k)=true then qnB f to else f)::l.drop (k+1)=qd4 fr to i (l.take (k+1)) ++l.drop (k+1)
 | [],i,k,h=>by simp at h
 | g::l,i,0,h=>by
   simp at h;subst h;simp[qd4]
 | g::l,i,k+1,h=>by
   simp at h;have:=Zn (fr:=fr) (to:=to) (i:=i+1) h;rw[show i+1+k=i+ (k+1)by omega]at this;simp only[qH6,qd4,qGk,List.drop_succ_cons];rw[this]
theorem qqq:Lz lZ lr S (a2 U64 U64) Wg Je:=by
 rintro b v v' ⟨lv,fi,la,fo,w⟩ ⟨fr,to⟩ r h;unfold Je at h;simp only at h;split at h
 ·rename_i hlen;cases h;have hl:(fo.length:Int)<=9223372036854775807:=by omega
  simp[lZ,lr,Ay,rT,rU,vO,hl,-fB',-eB'];refine ah (X:=List U64) [0,1,2] [] fo.length (λk x=>x=qd4 fr to 0 (fo.take k) ++fo.drop k) (λx=>[]) (λx=>[(0, .box b [.own 990 v, .v (.int .u64 fi.val), .v (.int .u64 la.val), .own 991 v', .v (.bool w)]),(990, .row v fw 1 (lv.map enc)),(991, .row v' gm 1 (x.map enc))]) fo (by simp[qd4]) ?_ ?_
  ·rintro k x hk d;obtain⟨f,A⟩:∃f,fo[k]? =some f:=⟨_,qFC hk⟩
   have a:(qd4 fr to 0 (fo.take k)).length=k:=by rw[qd3,qF7];omega
   have q:x.length=fo.length:=by rw[d,qF5,a,qGO];omega
   have j:x[k]? =some f:=by
    rw[d,qF4 (by omega),a,qHt,qGx];simpa using A
   have s:x.drop (k+1)=fo.drop (k+1):=by
    rw[d,List.drop_append,a,List.drop_drop,qGS (by rw[a];omega)];simp
   have t:x.take k=qd4 fr to 0 (fo.take k):=by
    rw[d,List.take_append,a,qHt,qHl,qGR,qGy (by rw[a];omega)]
   have l:∀g,x.set k g=qd4 fr to 0 (fo.take k) ++g::fo.drop (k+1):=λg=>by
    rw[qHC,if_pos (by omega),t,s]
   have c:=Zn (fr:=fr) (to:=to) (i:=0) A;rw[qGn,<-l]at c;have u:k<x.length:=by omega
   obtain⟨_,p⟩:=qFB.1 j;simp[u,j,p,hk,q,-fB',-eB'];refine⟨λhb=>?_,λhb=>?_⟩
   ·rw[if_pos hb]at c;left;rw[<-List.map_drop,<-qHs,<-c,qHv];rfl
   ·rw[if_neg (by simp[hb])]at c;rw[show x.set k f=x from by rw[<-p];exact List.set_getElem_self _]at c;exact .inl c
  ·rintro x d;rw[qFT,qGr,qGR]at d;subst d;simp[-fB',-eB'];exact qpO (er:=Wg) (y:=()) v v' ⟨lv,fi,la,qd4 fr to 0 fo,w⟩ (.same _) rfl rfl rfl rfl
 ·cases h
attribute [simp] qbC qjc
@[simp] theorem qwV{Y Z:Type}(er:Y->D)(F:Tbk->Z->Option (Tbk×Y))(id b:Nat)(v v':Value)(f l:Int)(n:Bool)(lv:List (List Rng))(fo:List U64)(o:Option Z)(H:ab)(K:D->ab->Prop):
 XV er F id b (some (.box b [.own 990 v, .v (.int .u64 f), .v (.int .u64 l), .own 991 v', .v (.bool n)])) (some (.row v fw 1 (lv.map enc))) (some (.row v' gm 1 (fo.map enc))) o H K=(id≠990/\id≠991/\eL o λz=>eL (F ⟨lv,⟨f⟩,⟨l⟩,fo,n⟩ z) λq=>∀w w',K (er q.2) (ai (ai (ai H 991 (some (.row w' gm 1 (q.1.fol.map enc)))) 990 (some (.row w fw 1 (q.1.lvs.map enc)))) id (some (.box b [.own 990 w, .v (.int .u64 q.1.fi.val), .v (.int .u64 q.1.la.val), .own 991 w', .v (.bool q.1.nul)])))):=qqI er F id b v v' f l n lv fo o H K
abbrev Nr:Spc:=qmr (a2 Prt Prt) (enc (X:=Prt)) CH
def AJ{b:Nat}{post:Tbk->Prt->Prop}{d:D}{H:ab}(v v':Value)(t:Tbk)(y:Prt)(a:d=enc y)(h0:H 0=some (.box b (vO v v' t)))(h1:H 990=some (rT v t.lvs))(h2:H 991=some (rU v' t.fol))(c:post t y):qaV enc b post d H:=
 qpO (er:=enc) (y:=y) v v' t (by rw[a];exact .same _) h0 h1 h2 c
def qhr(h1:S ir=UU):Lz jB ji S (a2 Prt Prt) (enc (X:=Prt)) CH:=by
 rintro b v v' ⟨lv,fi,la,fo,d⟩ ⟨⟨h,j,an⟩,⟨k,bl,c⟩⟩ r a;unfold CH at a;simp only at a;obtain⟨q,hl,rfl⟩:=qFM.1 a;cases an<;>cases c<;>simp[jB,ji,Ay,rT,rU,vO,h1,hl,-fB',-eB'] <;>intro b1 w w'<;>exact AJ w w' q.1 _ rfl rfl rfl rfl ⟨rfl,rfl⟩
def qjs{set f:U64}{l:List U64}{k:Nat}(h:l[k]? =some f)(m:U64):qpF set k (l.drop k) m=qpF set (k+1) (l.drop (k+1)) (if qg4 set k=true then qnB m f else m):=by
 obtain⟨h1,h2⟩:=qFB.1 h;rw[qGh h1,h2,qpF]
abbrev Oz(n:Nat):Spc:=qmr (a1 Rx) (enc (X:=Prt)) (Hu n).b
abbrev qig(n:Nat):Spc:=qmr (a1 Rx) (enc (X:=Prt)) (Hu n).r
abbrev qbM(n:Nat):Spc:=qmr (a2 Rx Int) (enc (X:=Prt)) (Hu n).o
def WA{X:Type}{l:List X}{k:Nat}(h:k<l.length):∃x,l[k]? =some x:=⟨_,qFC h⟩
def xo{X:Type}{l:List X}{k:Nat}{x:X}(h:l[k]? =some x):l.drop k=x::l.drop (k+1):=by
 obtain⟨h1,h2⟩:=qFB.1 h;rw[qGh h1,h2]
set_option maxHeartbeats 1000000 in
theorem qmV(n:Nat)(h1:S dy=Oz n)(h2:S kE=qig n)(h3:S dZ=Nr):Lz db cX S (a1 Rx) (enc (X:=Prt)) (Hu (n+1)).b:=by
 rintro b v v' t ⟨op,mn,mx,rs,ks⟩ r hF;replace hF:qsx (Hu n).b (Hu n).r t ⟨op,mn,mx,rs,ks⟩=some r:=hF;unfold qsx at hF;simp only at hF;split at hF
 ·cases hF
 rename_i hok;have hok1:t.lvs.length<=1000/\t.fol.length<=1000:=by
  cases hb:VC t with
  |true=>exact of_decide_eq_true hb
  |false=>exact absurd (.inl hb) hok
 have hkl:ks.length<=1000:=by
  have:¬1000<ks.length:=λh=>hok (.inr h)
  omega
 obtain⟨hlv,hfo⟩:=hok1;have hkl':(ks.length:Int)<=9223372036854775807:=by omega
 have hlv':(t.lvs.length:Int)<=9223372036854775807:=by omega
 split at hF
 ·rename_i e;subst e;obtain rfl:=qFO hF;simp[db,cX,Ay,rT,rU,vO,hlv',-fB',-eB'];refineλb1=>⟨by omega,by omega,λw=>⟨by omega,by omega,λw'=>?_⟩⟩
  exact AJ w w' ⟨t.lvs++ [rs],t.fi,t.la,t.fol++ [⟨0⟩],t.nul⟩ ⟨⟨Yh .u64 1 t.lvs.length⟩,⟨Yh .u64 1 t.lvs.length⟩,false⟩ rfl rfl (by simp[rT,ai]) (by simp[rU,ai]) ⟨rfl,rfl⟩
 rename_i e1;split at hF
 ·rename_i e;subst e;simp[db,cX,Ay,rT,rU,vO,hkl',-fB',-eB'];intro b4 b6;refine ah (X:=Tbk×Prt×Value×Value) [0,4,6,50] [4] ks.length (λk x=>qvP (Hu n).b (ks.drop k) x.1 x.2.1=some r) (λx=>[]) (λx=>[(0, .box b [.own 990 x.2.2.1, .v (.int .u64 x.1.fi.val), .v (.int .u64 x.1.la.val), .own 991 x.2.2.2, .v (.bool x.1.nul)]),(990, .row x.2.2.1 fw 1 (x.1.lvs.map enc)),(991, .row x.2.2.2 gm 1 (x.1.fol.map enc)),(6, .box b6 [.v (.int .u64 x.2.1.first.val), .v (.int .u64 x.2.1.last.val), .v (.bool x.2.1.nul)])]) (t,GZ,v,v') (by simpa using hF) ?_ ?_ (hh:=by simp[GZ])
  ·rintro k ⟨t,p,w,w'⟩ hk hx;obtain⟨y,hy⟩:=WA hk;obtain⟨_,hgy⟩:=qFB.1 hy;rw[xo hy,qvP]at hx;obtain⟨q,hq,hx⟩:=qFA.1 hx;obtain⟨c,hc,hx⟩:=qFA.1 hx;simp[hk,hy,hgy,h1,h3,hq,hc,-fB',-eB'];exactλu u'=>⟨c.1,c.2,hx,u,u', .inl ⟨rfl,rfl,rfl,rfl,rfl⟩, .inl ⟨rfl,rfl⟩, .inl ⟨rfl,rfl⟩, .inl ⟨rfl,rfl,rfl⟩⟩
  ·rintro⟨t,p,w,w'⟩ hx;rw[qGr,qvP]at hx;obtain rfl:=qFO hx;simp[-fB',-eB'];exact AJ w w' t p rfl rfl rfl rfl ⟨rfl,rfl⟩
 rename_i e2;split at hF
 ·rename_i e;subst e;simp[db,cX,Ay,rT,rU,vO,hkl',-fB',-eB'];intro b4 b9;refine ah (X:=Tbk×Prt×Value×Value) [0,4,9,67] [4] ks.length (λk x=>qhd (Hu n).b (ks.drop k) x.1 x.2.1=some r) (λx=>[]) (λx=>[(0, .box b [.own 990 x.2.2.1, .v (.int .u64 x.1.fi.val), .v (.int .u64 x.1.la.val), .own 991 x.2.2.2, .v (.bool x.1.nul)]),(990, .row x.2.2.1 fw 1 (x.1.lvs.map enc)),(991, .row x.2.2.2 gm 1 (x.1.fol.map enc)),(9, .box b9 [.v (.int .u64 x.2.1.first.val), .v (.int .u64 x.2.1.last.val), .v (.bool x.2.1.nul)])]) (t,qAR,v,v') (by simpa using hF) ?_ ?_ (hh:=by simp[qAR])
  ·rintro k ⟨t,p,w,w'⟩ hk hx;obtain⟨y,hy⟩:=WA hk;obtain⟨_,hgy⟩:=qFB.1 hy;rw[xo hy,qhd]at hx;obtain⟨q,hq,hx⟩:=qFA.1 hx;simp[hk,hy,hgy,h1,hq,-fB',-eB'];refineλu u'=>⟨λhn=>⟨q.1,_,hx,u,u', .inl ⟨rfl,rfl,rfl,rfl,rfl⟩, .inl ⟨rfl,rfl⟩, .inl ⟨rfl,rfl⟩, .inl ⟨rfl,rfl,by simp[hn]⟩⟩,λhn=>⟨q.1,_,hx,u,u', .inl ⟨rfl,rfl,rfl,rfl,rfl⟩, .inl ⟨rfl,rfl⟩, .inl ⟨rfl,rfl⟩, .inl ⟨rfl,rfl,by simp[hn]⟩⟩⟩
  ·rintro⟨t,p,w,w'⟩ hx;rw[qGr,qhd]at hx;obtain rfl:=qFO hx;simp[-fB',-eB'];exact AJ w w' t p rfl rfl rfl rfl ⟨rfl,rfl⟩
 rename_i e3;simp[db,cX,Ay,rT,rU,vO,h2,e1,e2,e3,hF,-fB',-eB'];intro b1 w w';exact AJ w w' r.1 r.2 rfl rfl rfl rfl rfl
def AE{t:Tbk}(h:VC t≠false):t.lvs.length<=1000/\t.fol.length<=1000:=by
 cases hb:VC t with
 |true=>exact of_decide_eq_true hb
 |false=>exact absurd hb h
set_option maxHeartbeats 1000000 in
theorem qa8(n:Nat)(h1:S dy=Oz n)(h2:S fm=qbM n)(h3:S dZ=Nr):Lz di df S (a2 Rx Int) (enc (X:=Prt)) (Hu (n+1)).o:=by
 rintro b v v' t ⟨y,m⟩ r hF;replace hF:qro (Hu n).b (Hu n).o t ⟨y,m⟩=some r:=hF;unfold qro at hF;simp only at hF;split at hF
 ·cases hF
 rename_i hok;have hok1:=AE λh=>hok (.inr (.inr h))
 have hm0:0<=m:=by have:¬m< 0:=λh=>hok (.inl h);omega
 have hm1:m<=100:=by have:¬100<m:=λh=>hok (.inr (.inl h));omega
 obtain⟨hlv,hfo⟩:=hok1;have hlv':(t.lvs.length:Int)<=9223372036854775807:=by omega
 split at hF
 ·rename_i e;subst e;obtain rfl:=qFO hF;simp[di,df,Ay,rT,rU,vO,-fB',-eB'];intro b1;exact AJ v v' t GZ rfl rfl rfl rfl ⟨rfl,rfl⟩
 rename_i e0;obtain⟨q,hq,hF⟩:=qFA.1 hF;split at hF
 ·cases hF
 rename_i hok2;have hok3:=AE hok2;obtain⟨hlq,hfq⟩:=hok3;have hlq':(q.1.lvs.length:Int)<=9223372036854775807:=by omega
 split at hF
 ·rename_i e;obtain rfl:=qFO hF;have e':(q.1.lvs.length:Int)=t.lvs.length:=by omega
  simp[di,df,Ay,rT,rU,vO,h1,hq,e0,hlv',hlq',e,e',-fB',-eB'];intro b1 w w';exact AJ w w' q.1 GZ rfl rfl rfl rfl ⟨rfl,rfl⟩
 rename_i e;obtain⟨c,hc,hF⟩:=qFA.1 hF;obtain⟨l,hl,hF⟩:=qFM.1 hF;subst hF;have e':¬(q.1.lvs.length:Int)=t.lvs.length:=by omega
 have hin:InR .i64 (m -1):=by simp only[InR];omega
 simp[di,df,Ay,rT,rU,vO,h1,h2,h3,hq,hc,hl,e0,hlv',hlq',e,e',hin,-fB',-eB'];exactλb1 w w'=>AJ w w' l.1 _ rfl rfl rfl rfl ⟨rfl,rfl⟩
def qpy(b:Tbk->Rx->Option (Tbk×Prt))(o:Tbk->Rx×Int->Option (Tbk×Prt))(y:Rx)(mn mx:Int)(q:Tbk×Prt×Bool):Option (Tbk×Prt):=
 if q.2.2=true then some (q.1,GZ)else
  if mx< 0/\mn=0 then(b q.1 y).bind λr=>(Je r.1 (r.2.last,r.2.first)).map λl=>(l.1, { r.2 with nul:=true })else
  if mn<mx then(o q.1 (y,mx -mn)).bind λr=>CH r.1 (q.2.1,r.2)else some (q.1,q.2.1)
set_option maxHeartbeats 2000000 in
theorem qho(n:Nat)(h1:S dy=Oz n)(h2:S fm=qbM n)(h3:S dZ=Nr)(h4:S ir=UU):Lz jA jh S (a1 Rx) (enc (X:=Prt)) (Hu (n+1)).r:=by
 rintro b v v' t ⟨op,mn,mx,rs,ks⟩ r hF;replace hF:qi0 (Hu n).b (Hu n).o t ⟨op,mn,mx,rs,ks⟩=some r:=hF;unfold qi0 at hF;simp only at hF;split at hF
 ·cases hF
 rename_i y ks';split at hF
 ·cases hF
 rename_i hrng;obtain⟨q,hq,hF⟩:=qFA.1 hF;have hF:qpy (Hu n).b (Hu n).o y mn mx q=some r:=hF;have hm:mn=(mn.toNat:Int):=by omega
 generalize mn.toNat=m at hm hq;subst hm;have hm':(m:Int)<=9223372036854775807:=by omega
 have hpos:(0:Int)<((y::ks').length:Int):=by simp
 simp[jA,jh,Ay,rT,rU,vO,hm',-fB',-eB'];intro b4 b5;refine ah (X:=Tbk×Prt×Value×Value) [0,3,4,5] [4] m (λk x=>(quu (Hu n).b y mx (m -k) x.1 x.2.1).bind (qpy (Hu n).b (Hu n).o y m mx)=some r) (λx=>[]) (λx=>[(0, .box b [.own 990 x.2.2.1, .v (.int .u64 x.1.fi.val), .v (.int .u64 x.1.la.val), .own 991 x.2.2.2, .v (.bool x.1.nul)]),(990, .row x.2.2.1 fw 1 (x.1.lvs.map enc)),(991, .row x.2.2.2 gm 1 (x.1.fol.map enc)),(5, .box b5 [.v (.int .u64 x.2.1.first.val), .v (.int .u64 x.2.1.last.val), .v (.bool x.2.1.nul)])]) (t,GZ,v,v') (by simp[hq,hF]) ?_ ?_ (hh:=by simp[GZ])
 ·rintro k ⟨t,p,w,w'⟩ hk hx;rw[show m -k=(m - (k+1)) +1 by omega,quu]at hx;simp only at hx;split at hx
  ·cases hx
  rename_i hok;obtain⟨hlv,hfo⟩:=AE hok;have hlv':(t.lvs.length:Int)<=9223372036854775807:=by omega
  cases hb:(Hu n).b t y with
  |none=>rw[hb]at hx;cases hx
  |some c=>
  rw[hb,qFW]at hx;split at hx
  ·cases hx
  rename_i hok2;obtain⟨hlq,hfq⟩:=AE hok2;have hlq':(c.1.lvs.length:Int)<=9223372036854775807:=by omega
  split at hx
  ·rename_i e;have e':(c.1.lvs.length:Int)=t.lvs.length:=by omega
   simp[hk,h1,hb,hlv',hlq',e,e',-fB',-eB'];have hx:some (c.1,GZ)=some r:=hx;obtain rfl:=qFO hx;exactλu u'=>AJ u u' c.1 GZ rfl rfl rfl rfl rfl
  rename_i e;have e':¬(c.1.lvs.length:Int)=t.lvs.length:=by omega
  have hin:InR .i64 ((m:Int) -1):=by simp only[InR];omega
  by_cases hmx:mx< 0
  ·by_cases hkm:m - (k+1)=0
   ·rw[if_pos ⟨hmx,hkm⟩]at hx;have hkm':(k:Int)=m -1:=by omega
    cases hl:Je c.1 (c.2.last,c.2.first)with
    |none=>rw[hl]at hx;cases hx
    |some l=>
    rw[hl,qFW]at hx;cases hc:CH l.1 (p,c.2)with
    |none=>rw[hc]at hx;cases hx
    |some d=>
    rw[hc,qFW]at hx;simp[hk,h1,h3,h4,hb,hl,hc,hlv',hlq',e,e',hin,hmx,hkm',-fB',-eB'];exactλu u'=>⟨d.1,d.2,hx,u,u', .inl ⟨rfl,rfl,rfl,rfl,rfl⟩, .inl ⟨rfl,rfl⟩, .inl ⟨rfl,rfl⟩, .inl ⟨rfl,rfl,rfl⟩⟩
   ·rw[if_neg (λh=>hkm h.2)]at hx;have hkm':¬(k:Int)=m -1:=by omega
    rw[qFW]at hx;cases hc:CH c.1 (p,c.2)with
    |none=>rw[hc]at hx;cases hx
    |some d=>
    rw[hc,qFW]at hx;simp[hk,h1,h3,h4,hb,hc,hlv',hlq',e,e',hin,hmx,hkm',-fB',-eB'];exactλu u'=>⟨d.1,d.2,hx,u,u', .inl ⟨rfl,rfl,rfl,rfl,rfl⟩, .inl ⟨rfl,rfl⟩, .inl ⟨rfl,rfl⟩, .inl ⟨rfl,rfl,rfl⟩⟩
  ·rw[if_neg (λh=>hmx h.1)]at hx;rw[qFW]at hx;cases hc:CH c.1 (p,c.2)with
   |none=>rw[hc]at hx;cases hx
   |some d=>
   rw[hc,qFW]at hx;simp[hk,h1,h3,h4,hb,hc,hlv',hlq',e,e',hmx,-fB',-eB'];exactλu u'=>⟨d.1,d.2,hx,u,u', .inl ⟨rfl,rfl,rfl,rfl,rfl⟩, .inl ⟨rfl,rfl⟩, .inl ⟨rfl,rfl⟩, .inl ⟨rfl,rfl,rfl⟩⟩
 ·rintro⟨t,p,w,w'⟩ hx;simp only[qHt,quu,qFW]at hx;have hx:(if mx< 0/\(m:Int)=0 then((Hu n).b t y).bind λr=>(Je r.1 (r.2.last,r.2.first)).map λl=>(l.1, { r.2 with nul:=true })else
   if(m:Int)<mx then((Hu n).o t (y,mx -m)).bind λr=>CH r.1 (p,r.2)else some (t,p))=some r:=hx
  by_cases hA:mx< 0/\(m:Int)=0
  ·rw[if_pos hA]at hx;obtain⟨hmx,hm0⟩:=hA;obtain⟨c,hb,hx⟩:=qFA.1 hx;obtain⟨l,hl,rfl⟩:=qFM.1 hx;have hm0':m=0:=by omega
   subst hm0';simp[h1,h4,hb,hl,hmx,-fB',-eB'];exactλu u'=>AJ u u' l.1 _ rfl rfl rfl rfl ⟨rfl,rfl⟩
  ·rw[if_neg hA]at hx;by_cases hB:(m:Int)<mx
   ·rw[if_pos hB]at hx;obtain⟨c,hb,hx⟩:=qFA.1 hx;have n0:¬mx< 0:=by omega
    have hin:InR .i64 (mx -m):=by simp only[InR];omega
    simp[h2,h3,hb,hx,n0,hB,hin,-fB',-eB'];exactλu u'=>AJ u u' r.1 r.2 rfl rfl rfl rfl rfl
   ·rw[if_neg hB]at hx;obtain rfl:=qFO hx;by_cases hmx:mx< 0
    ·have hm0:¬(m:Int)=0:=λh=>hA ⟨hmx,h⟩
     have hm0':¬m=0:=by omega
     simp[hmx,hm0,hm0',hB,-fB',-eB'];exact AJ w w' t p rfl rfl rfl rfl ⟨rfl,rfl⟩
    ·simp[hmx,hB,-fB',-eB'];exact AJ w w' t p rfl rfl rfl rfl ⟨rfl,rfl⟩
end
section
open Cod (enc dec)
def qcA(t:Tbk):D:= .cptr [enc t.lvs,enc t.fi,enc t.la,enc t.fol,enc t.nul] 0
def qkK{t t':Tbk}(h:qcA t=qcA t'):t=t':=by
 obtain⟨a1,a2,a3,a4,a⟩:=t;obtain⟨b1,b2,b,c,d⟩:=t';unfold qcA at h;injection h with h1 h2;simp only[qF8]at h1;obtain⟨h1,h2,h3,h4,h5,_⟩:=h1;have h1:=aP h1;have h2:=aP h2;have h3:=aP h3;have h4:=aP h4;have h5:=aP h5;subst h1;subst h2;subst h3;subst h4;subst h5;rfl
open Classical in
noncomputable instance:Cod Tbk where
 wd:=1
 enc:=qcA
 dec d:=if h:∃t,d=qcA t then some h.choose else none
 kn _:=rfl
 wid _:=rfl
 dec_enc t:=by
  have h:∃t',qcA t=qcA t':=⟨t,rfl⟩
  rw[dif_pos h];exact congrArg some (qkK h.choose_spec).symm
 le d x h:=by
  split at h
  ·rename_i h';cases h;rw[h'.choose_spec.symm];exact .same _
  ·cases h
@[simp] theorem qyP(t:Tbk):enc t= .cptr [enc t.lvs,enc t.fi,enc t.la,enc t.fol,enc t.nul] 0:=i' rfl
@[simp] theorem qyZ(l:List (List Rng))(f a:Int)(fo:List U64)(n:Bool):dec (X:=Tbk) (.cptr [.list 1 (l.map enc), .v (.int .u64 f), .v (.int .u64 a), .list 1 (fo.map enc), .v (.bool n)] 0)=some ⟨l,⟨f⟩,⟨a⟩,fo,n⟩:=Cod.dec_enc (X:=Tbk) ⟨l,⟨f⟩,⟨a⟩,fo,n⟩
variable {S S0:Nat->Spc}
def qpa(n:Nat)(x:Rx):Prop:=(qm8 n x).isSome=true
def qsH(n:Nat)(x:Rx)(t:Tbk):Prop:=qm8 n x=some t
noncomputable abbrev qps(n:Nat):Spc:=aG (a1 Rx) (qpa n) (enc (X:=Tbk)) (qsH n)
theorem qAe(n:Nat)(h1:S dy=Oz n):ak Cl Bk S (a1 Rx) (qpa n) (enc (X:=Tbk)) (qsH n):=by
 rintro x d;obtain⟨t,c⟩:=qGB.1 d;obtain⟨q,h,rfl⟩:=qFM.1 c;have a:(Hu n).b ⟨[],⟨0⟩,⟨0⟩, [],false⟩ x=some q:=h;simp[Cl,Bk,-fB',-eB'];refine gc (X:=Nat) [1] [] [] [] (λ_=>True) (λb=>[(3, .bptr 6 b 0)]) (λb=>[(6, .box b [.own 990 (.slice none 0 0), .v (.int .u64 0), .v (.int .u64 0), .own 991 (.slice none 0 0), .v (.bool false)]),(990, .row (.slice none 0 0) fw 1 []),(991, .row (.slice none 0 0) gm 1 [])]) [6,990,991] (λ_=>rfl) (by decide) ?_ ?_
 ·simp;refineλb=>⟨b, .same _, .inl ?_,by simp[isNilRow],by simp[isNilRow]⟩
  simp;exact⟨.nilown 990, .nilown 991⟩
 ·rintro b -;have j:(Res.row (.slice none 0 0) fw 1 []:Res)= .row (.slice none 0 0) fw 1 (([]:List (List Rng)).map enc):=rfl;have k:(Res.row (.slice none 0 0) gm 1 []:Res)= .row (.slice none 0 0) gm 1 (([]:List U64).map enc):=rfl;rw[j,k];simp[h1,a, -List.map_nil,-fB',-eB'];simp[a,-fB',-eB'];intro w w';refine gc (X:=Unit) [] [] [990,991] [] (λ_=>True) (λ_=>[(2, .bptr 6 b 0)]) (λ_=>[(6, .box b [enc q.1.lvs, .v (.int .u64 q.2.first.val), .v (.int .u64 q.2.last.val),enc q.1.fol, .v (.bool q.2.nul)])]) [6] (λ_=>rfl) (by decide) ?_ ?_
  ·simp;exact .inl ⟨fA (l:=q.1.lvs) fw rfl,fA (l:=q.1.fol) gm rfl⟩
  ·rintro - -;simp;refine aL ⟨q.1.lvs,q.2.first,q.2.last,q.1.fol,q.2.nul⟩ ?_ c;exact .box rfl
def qmf(x:Tbk×U64×Bool):Prop:=x.1.fol.length<=100000
def ql3(x:Tbk×U64×Bool)(y:U64):Prop:=y=D1 x.1 x.2.1 x.2.2
noncomputable abbrev qih:Spc:=aG (a3 Tbk U64 Bool) qmf (enc (X:=U64)) ql3
theorem qmX:ak gR gF S (a3 Tbk U64 Bool) qmf (enc (X:=U64)) ql3:=by
 rintro⟨⟨lv,fi,la,fo,d⟩,set,a⟩ hlen;have hlen:fo.length<=100000:=hlen;have hl:(fo.length:Int)<=9223372036854775807:=by omega
 cases a
 ·simp[gR,gF,hl,-fB',-eB'];refine ah (X:=U64) [1,18] [] fo.length (λk m=>qpF set k (fo.drop k) m=qpF set 0 fo ⟨0⟩) (λm=>[(7,enc m)]) (λx=>[]) ⟨0⟩ (by simp) ?_ ?_
  ·rintro k m hk hm;obtain⟨f,b⟩:∃f,fo[k]? =some f:=⟨_,qFC hk⟩
   obtain⟨_,c⟩:=qFB.1 b;rw[qjs b]at hm;simp[hk,b,c,-fB',-eB'];exact⟨λhb=>⟨qnB m f,by simpa [hb]using hm,rfl⟩,λhb=>⟨m,by simpa [hb]using hm,rfl⟩⟩
  ·rintro m hm;rw[qGr,qpF]at hm;subst hm;simp[-fB',-eB'];exact aL _ (.same _) rfl
 ·simp[gR,gF,hl,-fB',-eB'];exact aL _ (.same _) rfl
end
section
open Cod (enc dec)
def Wq(l:List Rng)(c:Int):Bool:=l.any λr=>decide (r.fr.val<=c) && decide (c<=r.to.val)
def qti(next:U64)(c:I32):Nat->List (List Rng)->U64->U64
 | _, [],m=>m
 |i,l::ls,m=>qti next c (i+1) ls (if qg4 next i && Wq l c.val then⟨quG .u64 m.val (Yh .u64 1 i)⟩else m)
def qm3(next:U64)(lvs:List (List Rng)):List I32->U64->U64
 | [],m=>m
 |v::vs,m=>qm3 next lvs vs (qti next v 0 lvs m)
def quT(t:Tbk)(b:I32->List I32):List I32->U64->Bool->Bool
 | [],set,a=>(a && t.nul)||decide (qcP .u64 set.val t.la.val≠0)
 |c::l,set,a=>if(qm3 (D1 t set a) t.lvs (b c) ⟨0⟩).val=0 then false else quT t b l (qm3 (D1 t set a) t.lvs (b c) ⟨0⟩) false
def low(c:Int):Int:=if 65<=c/\c<=90 then c+32 else c
def PW(c:I32):List I32:=([⟨low c.val⟩,⟨low c.val -32⟩,⟨low c.val -80⟩]:List I32).filter λv=>decide (0<=v.val/\low v.val=low c.val)
def qbg(f:Bool)(c:I32):List I32:=if f=true then PW c else[c]
def qoO(l:List UInt8):List I32:=l.map λc=>⟨(c.toNat:Int)⟩
def G1(x:Rx)(s:B)(f:Bool):Option Bool:=if Ga 50 x=true/\Cq s=true/\s.size<=1000 then(qm8 50 x).bind λt=>if VC t=true then some (quT t (qbg f) (qoO s.data.toList) ⟨0⟩ true)else none else none
open Go.Proofs
def xu:CC:=gq Tryz.f256 [3] {} _
def wq:List aj:=[.tmp 6]
def O8:FO tH [3] xu wq 88:=fo
def xx:CC:=gq Tryz.f194 [2] {} _
def wt:List aj:=[.tmp 4]
def Pa:FO zt [2] xx wt 8:=fo
def sY:CC:=gq Tryz.f258 [] {} _
def sf:List aj:=[.tmp 2]
def Kw:FO dS [] sY sf 5:=fo
def oV:CC:=gq Tryz.f193 [2] {} _
def oh:List aj:=[.tmp 4]
def Gu:FO qM [2] oV oh 8:=fo
def ri:CC:=gq Tryz.f257 [] {} _
def pT:List aj:=[.tmp 2]
def IB:FO dv [] ri pT 43:=fo
variable {S S0:Nat->Spc}
def aMt:dP (Rx×B×Bool):=⟨λds=>match ds with
 | [a,b, .clo f []]=>if f=dS then(dec a).bind λx=>(dec b).map λs=>(x,s,false)else if f=dv then(dec a).bind λx=>(dec b).map λs=>(x,s,true)else none
 | _=>none,λx=>[enc x.1,enc x.2.1, .clo (if x.2.2=true then dv else dS) []],λds x h=>by
 split at h
 ·rename_i a b f;split at h
  ·rename_i e;simp only[qFA,qFM]at h;obtain⟨x,c,s,hs,rfl⟩:=h;subst e;exact .cons (Cod.le _ _ c) (.cons (Cod.le _ _ hs) (.cons (.same _) .nil))
  ·split at h
   ·rename_i e;simp only[qFA,qFM]at h;obtain⟨x,c,s,hs,rfl⟩:=h;subst e;exact .cons (Cod.le _ _ c) (.cons (Cod.le _ _ hs) (.cons (.same _) .nil))
   ·cases h
 ·cases h⟩
@[simp] theorem qwg(x:Rx)(s:B)(f:Bool):aMt.view (x,s,f)=[enc x,enc s, .clo (if f=true then dv else dS) []]:=i' rfl
@[simp] theorem qwi(a b:D):aMt.dec [a,b, .clo dS []]=(dec a).bind λx=>(dec b).map λs=>(x,s,false):=i' rfl
@[simp] theorem qwh(a b:D):aMt.dec [a,b, .clo dv []]=(dec a).bind λx=>(dec b).map λs=>(x,s,true):=i' rfl
abbrev qfK:Spc:=aG (a1 Rx) (λx=>Ga 50 x=true) (enc (X:=Int)) λx y=>y=0
abbrev qil:Spc:=aG (a2 (List Rng) I32) (λ_=>True) (enc (X:=Bool)) λx y=>y=Wq x.1 x.2.val
abbrev s_cpVal:Spc:=aG (a1 B) (λs=>Cq s=true/\s.size<=1000) (enc (X:=Bool)) λ_ y=>y=true
abbrev qpw:Spc:=aG (a1 I32) (λc=>0<=c.val/\c.val< 128) (enc (X:=List I32)) λc y=>y=qbg false c
abbrev qpr:Spc:=aG (a1 I32) (λc=>0<=c.val/\c.val< 128) (enc (X:=List I32)) λc y=>y=qbg true c
def qo9(x:Rx×B×Bool):Prop:=∃y,G1 x.1 x.2.1 x.2.2=some y
def qsF(x:Rx×B×Bool)(y:Bool):Prop:=G1 x.1 x.2.1 x.2.2=some y
abbrev qim:Spc:=aG aMt qo9 (enc (X:=Bool)) qsF
def TL{s:B}(h:Cq s=true){p:Nat}(hp:p<s.size):∃c:UInt8,s.data.toList[p]? =some c/\c.toNat< 128/\Utf8.decode s p=(c.toNat,1):=by
 have hl:p<s.data.toList.length:=by rw[qGm];exact hp
 refine⟨s.data.toList[p],qFC hl,?_,?_⟩
 ·have:=qFI.1 h _ (qG1 hl);simpa using this
 ·have h1:(s[p]'hp).toNat< 128:=by
   have:=qFI.1 h _ (qG1 hl);have h2:s.data[p].toNat< 128:=by simpa using this
   exact h2
  have:=Go.decode_ascii s p hp h1;rw[this];have:s[p]=s.data.toList[p]:=by
   rw[Array.getElem_toList];rfl
  rw[this]
set_option maxHeartbeats 2000000 in
theorem QZ(h1:S mB=qfK)(h2:S rf=s_cpVal)(h3:S En=qps 50)(h4:S nj=qih)(h5:S sL=qil)(h6:S dS=qpw)(h7:S dv=qpr):
 ak xu wq S aMt qo9 (enc (X:=Bool)) qsF:=by
 rintro⟨x,s,f⟩ ⟨y,hy⟩;have hy0:G1 x s f=some y:=hy;unfold G1 at hy0;split at hy0
 rotate_left
 ·cases hy0
 rename_i hc;obtain⟨hv,ha,hsz⟩:=hc;obtain⟨t,ht,hy1⟩:=qFA.1 hy0;split at hy1
 rotate_left
 ·cases hy1
 rename_i hok;have hres:quT t (qbg f) (qoO s.data.toList) ⟨0⟩ true=y:=qFO hy1;obtain⟨hlv,hfo⟩:=AE (t:=t) (by rw[hok];simp);have hOf:qsH 50 x t:=ht;have hPOf:qpa 50 x:=by unfold qpa;rw[ht];rfl
 simp[xu,wq,h1,h2,h3,hv,ha,hsz,hPOf,-fB',-eB'];intro t' ht' b;obtain rfl:t=t':=by
  have h:qm8 50 x=some t':=ht';rw[ht]at h;exact qFO h
 refine au (X:=U64×Bool×Nat) [2,7,28] [] (λz=>quT t (qbg f) (qoO (s.data.toList.drop z.2.2)) z.1 z.2.1=y/\z.2.2<=s.size) (λz=>[(8,enc z.1),(9,enc z.2.1)]) (λz=>[(28, .iter b s z.2.2)]) (λz=>s.size -z.2.2) (⟨0⟩,true,0) ⟨by simpa using hres,qFY _⟩ ?_;rintro⟨set,beg,pos⟩ ⟨hm,hp⟩;simp only at hm hp;by_cases hlt:pos<s.size
 ·obtain⟨c,hc,hc128,hdec⟩:=TL ha hlt;rw[xo hc]at hm;have hm:(if(qm3 (D1 t set beg) t.lvs (qbg f ⟨(c.toNat:Int)⟩) ⟨0⟩).val=0 then false else quT t (qbg f) (qoO (s.data.toList.drop (pos+1))) (qm3 (D1 t set beg) t.lvs (qbg f ⟨(c.toNat:Int)⟩) ⟨0⟩) false)=y:=hm;have hN:qmf (t,set,beg):=by show t.fol.length<=100000;omega
  have hq:ql3 (t,set,beg) (D1 t set beg):=rfl;have c0:(0:Int)<=(c.toNat:Int):=by omega
  have c1:(c.toNat:Int)< 128:=by omega
  have hvl:((qbg f ⟨(c.toNat:Int)⟩).length:Int)<=9223372036854775807:=by
   have:(qbg f ⟨(c.toNat:Int)⟩).length<=3:=by
    unfold qbg;split
    ·unfold PW;exact qGg (List.length_filter_le _ _) (by simp)
    ·simp
   omega
  have h8:S (if f=true then dv else dS)=aG (a1 I32) (λc=>0<=c.val/\c.val< 128) (enc (X:=List I32)) λc y=>y=qbg f c:=by
   cases f
   ·exact h6
   ·exact h7
  simp[hlt,hdec,h4,hN,h8,c0,c1,hvl,-fB',-eB'];intro nx hnx;obtain rfl:nx=D1 t set beg:=hnx;generalize D1 t set beg=nx at hm;generalize qbg f ⟨(c.toNat:Int)⟩=vs at hm hvl;refine ah (X:=U64) [2,7,9,12,28,38] [28] vs.length (λk m=>qm3 nx t.lvs (vs.drop k) m=qm3 nx t.lvs vs ⟨0⟩) (λm=>[(8,enc m)]) (λ_=>[]) ⟨0⟩ (by simp) ?_ ?_
  ·rintro k m hk hm2;obtain⟨v,hvk⟩:=WA hk;obtain⟨_,hgv⟩:=qFB.1 hvk;rw[xo hvk,qm3]at hm2;have hlv':(t.lvs.length:Int)<=9223372036854775807:=by omega
   simp[hk,hvk,hgv,hlv',-fB',-eB'];refine ah (X:=U64) [2,7,9,12,14,28,38,39,40,47] [28] t.lvs.length (λk m'=>qti nx v k (t.lvs.drop k) m'=qti nx v 0 t.lvs m) (λm=>[(8,enc m)]) (λ_=>[]) m (by simp) ?_ ?_
   ·rintro j m' hj hm3;obtain⟨lf,hlf⟩:=WA hj;obtain⟨_,hgl⟩:=qFB.1 hlf;rw[xo hlf,qti]at hm3;simp[hj,hlf,hgl,h5,-fB',-eB'];refine⟨λhb=>⟨λhc=>⟨_,by rw[if_pos (by simp[hb,hc])]at hm3;exact hm3,rfl⟩,λhc=>⟨m',by rw[if_neg (by simp[hc])]at hm3;exact hm3,rfl⟩⟩,λhb=>⟨m',by rw[if_neg (by simp[hb])]at hm3;exact hm3,rfl⟩⟩
   ·rintro m' hm3;rw[qGr,qti]at hm3;subst hm3;simp[-fB',-eB'];exact⟨_,hm2,rfl⟩
  ·rintro m hm2;rw[qGr,qm3]at hm2;subst hm2;simp[-fB',-eB'];refine⟨λh0=>?_,λh0=>?_⟩
   ·rw[if_pos h0]at hm;subst hm;exact hy
   ·rw[if_neg h0]at hm;exact⟨_,false,pos+1,⟨hm,by omega⟩,⟨⟨rfl,rfl⟩, .inl rfl⟩,by omega⟩
 ·have hpe:pos=s.size:=by omega
  subst hpe;rw[qGS (by rw[qGm];exact qFH _)]at hm;have hm:((beg && t.nul)||decide (qcP .u64 set.val t.la.val≠0))=y:=hm;simp[-fB',-eB'];have hQ:∀w,w=y->qsF (x,s,f) w:=λw e=>by subst e;exact hy
  refine⟨λhb=>⟨λhn=>hQ _ ?_,λhn=>hQ _ ?_⟩,λhb=>hQ _ ?_⟩
  all_goals
   subst hb
   first|subst hn|skip
   rw[<-hm];simp[*]
def Mj:ak sY sf S (a1 I32) (λc=>0<=c.val/\c.val< 128) (enc (X:=List I32)) λc y=>y=qbg false c:=by
 rintro⟨c⟩ ⟨a,c1⟩;simp[sY,sf,-fB',-eB'];exact aL [⟨c⟩] (by simp) rfl
def qaQ(f:Bool)(x:Rx×B):Prop:=∃y,G1 x.1 x.2 f=some y
def ql4(f:Bool)(x:Rx×B)(y:Bool):Prop:=G1 x.1 x.2 f=some y
abbrev qdM(f:Bool):Spc:=aG (a2 Rx B) (qaQ f) (enc (X:=Bool)) (ql4 f)
def Q2(h1:S tH=qim):ak xx wt S (a2 Rx B) (qaQ false) (enc (X:=Bool)) (ql4 false):=by
 rintro⟨x,s⟩ hp;have a:qo9 (x,s,false):=hp;simp[xx,wt,h1,a,-fB',-eB'];exactλy b=>b
def HA(h1:S tH=qim):ak oV oh S (a2 Rx B) (qaQ true) (enc (X:=Bool)) (ql4 true):=by
 rintro⟨x,s⟩ hp;have a:qo9 (x,s,true):=hp;simp[oV,oh,h1,a,-fB',-eB'];exactλy b=>b
def mz(c:Int):B:=⟨#[c.toNat.toUInt8]⟩
abbrev s_cpFold1:Spc:=aG (a1 B) (λs=>∃c:Int,0<=c/\c< 128/\s=mz c) (enc (X:=B)) λs y=>∀c:Int,0<=c->c< 128->s=mz c->y=mz (low c)
def Wj{c:Int}(h0:0<=c)(h1:c< 128):Utf8.encode c=mz c:=by
 unfold Utf8.encode mz;have e:c.toNat< 128:=by omega
 have h:Utf8.valid c=true:=by
  unfold Utf8.valid;have:c< 55296:=by omega
  simp[h0,this]
 simp[e,h]
def VI{c:Int}(h0:0<=c)(h1:c< 128):0<=low c/\low c< 128:=by unfold low;split<;>omega
def qdT{c d:Int}(hc:0<=c)(a:c< 128)(k:0<=d)(j:d< 128)(h:mz c=mz d):c=d:=by
 have:c.toNat.toUInt8=d.toNat.toUInt8:=by
  have:=congrArg (λb:B=>b.data.toList.head?) h;simpa [mz]using this
 have:=congrArg UInt8.toNat this;have l:c.toNat.toUInt8.toNat=c.toNat % 256:=qHh ..;have p:d.toNat.toUInt8.toNat=d.toNat % 256:=qHh ..;omega
def qrp{c d:Int}(hc:0<=c)(a:c< 128)(j:0<=d)(b:d< 128):(mz c=mz d)=(c=d):=propext ⟨qdT hc a j b,λh=>by rw[h]⟩
theorem qaY(h1:S sW=s_cpFold1):ak ri pT S (a1 I32) (λc=>0<=c.val/\c.val< 128) (enc (X:=List I32)) λc y=>y=qbg true c:=by
 rintro⟨c⟩ ⟨q,c1⟩;have q:0<=c:=q;have c1:c< 128:=c1;obtain⟨I,J⟩:=VI q c1;have L:∃d:Int,0<=d/\d< 128/\mz c=mz d:=⟨c,q,c1,rfl⟩
 simp[ri,pT,h1,Wj q c1,L,-fB',-eB'];intro y w b;obtain rfl:=w c q c1 rfl;clear w;obtain⟨r,K⟩:∃r,r=low c:=⟨_,rfl⟩
 rw[<-K]at I J ⊢;have j:(mz r).size=1:=rfl;have s:Utf8.decode (mz r) 0=(r.toNat,1):=by
  have h0:0<(mz r).size:=by rw[j];omega
  have W:((mz r)[0]'h0).toNat=r.toNat % 256:=qHh ..;have M:((mz r)[0]'h0).toNat=r.toNat:=by omega
  rw[Go.decode_ascii (mz r) 0 h0 (by omega),M]
 refine au (X:=Nat×Value×List I32) [4,13] [] (λz=>z.1=0/\z.2.1= .slice none 0 0/\z.2.2=[]\/z.1=1/\z.2.2=PW ⟨c⟩) (λz=>[(3, .own 40 z.2.1)]) (λz=>[(13, .iter b (mz r) z.1),(40, .row z.2.1 N9 1 (z.2.2.map enc))]) (λz=>1 -z.1) (0, .slice none 0 0, []) (.inl ⟨rfl,rfl,rfl⟩) ?_ (hh:=by simp[isNilRow]);rintro⟨pos,v,l⟩ hz;simp only at hz;rcases hz with⟨rfl,rfl,rfl⟩|⟨rfl,rfl⟩
 ·have x:((r.toNat:Nat):Int)=r:=by omega
  have N:InR .i32 (r -32):=by simp only[InR];omega
  have O:InR .i32 (r -80):=by simp only[InR];omega
  simp[j,s,x,N,O,-fB',-eB'];have A:∀l:List I32,l=([⟨r⟩,⟨r -32⟩,⟨r -80⟩]:List I32).filter (λv=>decide (0<=v.val/\low v.val=r))->l=PW ⟨c⟩:=λl hl=>by
   rw[hl,PW];simp only[<-K]
  refine ah (X:=Value×List I32) [4,13,22] [13] 3 (λk z=>z.2=(([⟨r⟩,⟨r -32⟩,⟨r -80⟩]:List I32).take k).filter (λv=>decide (0<=v.val/\low v.val=r))/\z.2.length<=k) (λz=>[(3, .own 40 z.1)]) (λz=>[(40, .row z.1 N9 1 (z.2.map enc))]) (.slice none 0 0, []) ⟨rfl,by simp⟩ ?_ ?_ (hh:=by simp[isNilRow])
  ·rintro k ⟨v,l⟩ hk ⟨hl,hlen⟩;simp only at hl hlen;obtain⟨e,he,C⟩:∃e:Int,e< 128/\([⟨r⟩,⟨r -32⟩,⟨r -80⟩]:List I32)[k]? =some ⟨e⟩/\([.v (.int .i32 r), .v (.int .i32 (r -32)), .v (.int .i32 (r -80))]:List D)[k]? =some (.v (.int .i32 e)):=by
    rcases(by omega:k=0\/k=1\/k=2)with rfl|rfl|rfl
    ·exact⟨r,by omega,rfl,rfl⟩
    ·exact⟨r -32,by omega,rfl,rfl⟩
    ·exact⟨r -80,by omega,rfl,rfl⟩
   obtain⟨E,p⟩:=C;have t:∀h,([.v (.int .i32 r), .v (.int .i32 (r -32)), .v (.int .i32 (r -80))]:List D)[k]'h= .v (.int .i32 e):=λh=>by
    obtain⟨_,h2⟩:=qFB.1 p;exact h2
   have u:(k:Int)< 3:=by omega
   have a:(([⟨r⟩,⟨r -32⟩,⟨r -80⟩]:List I32).take (k+1)).filter (λv=>decide (0<=v.val/\low v.val=r))=l++ ([⟨e⟩]:List I32).filter (λv=>decide (0<=v.val/\low v.val=r)):=by
    rw[qGK,E,qHu,<-hl];rfl
   by_cases h0:0<=e
   ·obtain⟨Q,U⟩:=VI h0 he;have F:∃d:Int,0<=d/\d< 128/\mz e=mz d:=⟨e,h0,he,rfl⟩
    simp[hk,u,p,t,h0,h1,Wj h0 he,F,-fB',-eB'];intro y w;obtain rfl:=w e h0 he rfl;rw[qrp Q U I J];refine⟨λhh=>⟨by omega,by omega,λv=>⟨v,l++ [⟨e⟩],⟨?_,by simp;omega⟩,rfl, .inl ⟨rfl,by simp⟩⟩⟩,λhh=>⟨v,l,⟨?_,by omega⟩,rfl, .inl ⟨rfl,rfl⟩⟩⟩
    ·simpa [h0,hh]using a.symm
    ·simpa [h0,hh]using a.symm
   ·simp[hk,u,p,t,h0,-fB',-eB'];refine⟨v,l,⟨?_,by omega⟩,rfl, .inl ⟨rfl,rfl⟩⟩;simpa [h0]using a.symm
  ·rintro⟨v,l⟩ ⟨hl,hlen⟩;simp only at hl hlen;have hl:=A l hl;simp[-fB',-eB'];exact⟨1,v,l, .inr ⟨rfl,hl⟩,⟨rfl, .inl rfl, .inl ⟨rfl,rfl⟩⟩,rfl⟩
 ·simp[j,-fB',-eB'];exact aL (PW ⟨c⟩) (fA (l:=PW ⟨c⟩) N9 rfl) rfl
end
section
open Go.Proofs
def eY:CC:=gq Tryz.f197 [] {} _
def eQ:List aj:=[.tmp 4]
def tV:FO fB [] eY eQ 19:=fo
def fL:CC:=gq Tryz.f142 [] {} _
def fJ:List aj:=[.tmp 4]
def kP:FO bI [] fL fJ 9:=fo
def ib:CC:=gq Tryz.f202 [] {} _
def gU:List aj:=[.tmp 4]
def nH:FO fj [] ib gU 19:=fo
def fa:CC:=gq Tryz.f199 [] {} _
def eS:List aj:=[.tmp 4]
def iR:FO bQ [] fa eS 9:=fo
def fX:CC:=gq Tryz.f259 [] {} _
def fQ:List aj:=[.tmp 4]
def lD:FO dU [] fX fQ 19:=fo
def iJ:CC:=gq Tryz.f201 [3] {} _
def iw:List aj:=[.tmp 4]
def Az:FO jn [3] iJ iw 9:=fo
def lS:CC:=gq Tryz.f260 [3] {} _
def li:List aj:=[.tmp 4]
def DK:FO nf [3] lS li 19:=fo
def jt:CC:=gq Tryz.f140 [] {} _
def iY:List aj:=[.tmp 4]
def Bq:FO cY [] jt iY 19:=fo
def cO:CC:=gq Tryz.f113 [] {} _
def cL:List aj:=[.tmp 4]
def mL:FO bi [] cO cL 9:=fo
def mf:CC:=gq Tryz.f115 [3] {} _
def lw:List aj:=[.tmp 6, .tmp 7]
def DW:FO cR [3] mf lw 40:=fo
def pk:CC:=oX [oB 1 (.box ff true (oT 0)),oB 2 (.mv (.const ob))] [1] [] (oX [oD 6 7 1,oZ 7 cR [oT 6,oN 0,oN 1],oA 5 7,oB 8 (.ext (oT 5) 0),oB 9 (.ext (oT 5) 1),oA 3 8,oA 4 9] [3] [] (oX [oA 10 3,oB 11 (.cmp .gtr (oT 10) (oN 60)),oA 2 11] [2] [] (.ret)))
def oz:List aj:=[.tmp 2]
def rN:CC:=gq Tryz.f116 [2] {} _
def qt:List aj:=[.tmp 4]
def IY:FO iH [2] rN qt 29:=fo
def bE:CC:=gq Tryz.f179 [1,2034005,2033005,2043005,2042005,2041005,2052005,2051005,2050005] {} _
def bC:List aj:=[.tmp 2]
def GO:FO ra [1,2034005,2033005,2043005,2042005,2041005,2052005,2051005,2050005] bE bC 108:=fo
def jD:CC:=gq Tryz.f139 [3] {} _
def jk:List aj:=[.tmp 4]
def BA:FO bX [3] jD jk 8:=fo
def ig:CC:=gq Tryz.f198 [2] {} _
def gW:List aj:=[.tmp 3]
def zo:FO ci [2] ig gW 8:=fo
def jC:CC:=gq Tryz.f137 [] {} _
def jj:List aj:=[.tmp 4]
def GU:FO kU [] jC jj 14:=fo
def cz:CC:=gq Tryz.f180 [2] {} _
def cp:List aj:=[.tmp 4]
def GP:FO rb [2] cz cp 50:=fo
def dr:CC:=gq Tryz.f118 [3] {} _
def dn:List aj:=[.tmp 6]
def GV:FO rc [3] dr dn 59:=fo
def kL:CC:=gq Tryz.f64 [5,4,3] {} _
def kw:List aj:=[.tmp 6]
def C5:FO dz [5,4,3] kL kw 23:=fo
def iP:CC:=gq Tryz.f117 [3] {} _
def iC:List aj:=[.tmp 4]
def AD:FO cJ [3] iP iC 9:=fo
def kW:CC:=oX [oB 1 (.box ff true (oT 0)),oB 2 (.mv (.const ob))] [1] [] (oX [oE 3 0 1,oC 4 1 3,oB 5 (.eql false false [.int] (oT 4) (oN 4)),oA 6 5,oI 7 6 (.faddr 6 (oT 1)),oI 8 6 (.load false 1 (oT 7)),oI 9 6 (.call bI [oT 8,.func bJ]),oB 10 (.pick (oT 6) (.const (.bool true)) (oT 9)),oA 2 10] [2] [] (.ret))
def kO:List aj:=[.tmp 2]
def eJ:CC:=oX [oB 1 (.box ff true (oT 0)),oB 2 (.alloc ff [oi,oe,oe,oe,oe,ob,on])] [1,2] [2,33] (.seq (oX [oE 6 0 1,oC 7 1 6,oB 8 (.eql false false [.int] (oT 7) (oN 4)),oA 9 8,oI 10 9 (.faddr 0 (oT 1)),oI 11 9 (.load false 1 (oT 10)),oI 12 9 (.eql false false [.int] (oT 11) (oN 6)),oI 13 9 (.mv (oT 12)),oH 14 13 (.load true 7 (oT 1)),
 oH 15 13 (.call bJ [oT 14]),oI 16 9 (.pick (oT 13) (oT 15) (.const ob)),oB 17 (.pick (oT 9) (.const (.bool true)) (oT 16))] [1,2,17] [2,33] (.ite (oT 17) (oX [oB 18 (.build [oi,oe,oe,oe,oe,ob,on] [(0,1,oN 1)]),oF 7 2 18] [2] [2,33] (.ret)) (.skip))) (.keep [1,2] [2,33] (oX [oD 19 7 1,oB 3 (.alloc ff [oi,oe,oe,oe,oe,ob,on]),oF 7 3 19] [1,2,3] [2,3,33] (MI 5 (.reg [
 oE 20 6 3,.op none none (.store none 1 (oT 20) (.const on))]) (.keep [1,2,3] [2,3,33] (.seq (oX [oE 21 6 1,oC 22 1 21,oB 23 (.len (oT 22)),oB 24 (.mv (oN 0))] [2,3,22,23,24] [2,3,33] (gd 0 24 23 25 1 (oX [oB 26 (.iaddr 7 (oT 22) (oT 24)),oD 27 7 26,oB 5 (.alloc ff [oi,oe,oe,oe,oe,ob,on]),oF 7 5 27] [2,3,5,22,23,24] [2,3,5,33] (.regd [oE 28 6 3,oC 29 1 28,oD 30 7 5,
 oZ 31 dO [oT 30],oB 32 (.bslice ff 7 [oT 31])] [oB 33 (.append (some 33) ff 7 104 (oT 29) (oT 32)),oE 34 6 3,.op none none (.store (some 3) 1 (oT 34) (oT 33))])) 35)) (.keep [2,3] [2,3,33] (oX [oD 36 7 3,oF 7 2 36] [2] [2,33] (.ret)))))))))
def ew:List aj:=[.cell 2 true 7]
def cA:CC:=gq Tryz.f136 [3] {} _
def cq:List aj:=[.tmp 6]
def GW:FO re [3] cA cq 38:=fo
def nz:CC:=gq Tryz.f141 [5,4,3] {} _
def mX:List aj:=[.tmp 6]
def Fz:FO oR [5,4,3] nz mX 11:=fo
def bZ:CC:=gq Tryz.f200 [3] {} _
def bW:List aj:=[.tmp 4]
def C1:FO cw [3] bZ bW 37:=fo
def GS:FO kT [1] pk oz 12:=fo
def IZ:FO bJ [1] kW kO 11:=fo
def GR:FO dO [1,2034003,1033033] eJ ew 37:=fo
open Cod (enc dec)
variable {S S0:Nat->Spc}
def FunOn{X Y:Type}[Cod X][Cod Y](S:Nat->Spc)(d:D)(l:List X)(p:X->Y):Prop:=
 ∃g caps a,d= .clo g caps/\S g= .pure a/\∀x∈l,a.pre (enc x::caps)/\∀r,a.post (enc x::caps) r->r=enc (p x)
def FunOn.useB{X:Type}[Cod X]{S:Nat->Spc}{d:D}{l:List X}{p:X->Bool}(h:FunOn S d l p){x:X}(a:x∈l){k:Nat}{H:ab}{K:D->ab->Prop}(hk:∀y:Bool,(∀q:X->Bool,FunOn S d l q->y=q x)->K (.v (.bool y)) H):EG S d k [enc x] H K:=by
 obtain⟨g,caps,A,rfl,h1,h2⟩:=h;simp only[EG,h1,Spc.pt];refine⟨(h2 x a).1,λr c=>?_⟩;have e:=(h2 x a).2 r c;rw[e];refine hk (p x) λq s=>?_
 obtain⟨C,b,t,u,j,w⟩:=s;cases u;rw[h1]at j;cases j;exact aP (e.symm.trans ((w x a).2 r c))
def wb{X Y Z:Type}[Cod X][Cod Y]{S:Nat->Spc}{g:Nat}{caps:List D}{A:dP Z}{pre:Z->Prop}{post:Z->Y->Prop}{l:List X}{p:X->Y}{f:X->Z}(h:S g=aG A pre enc post)(b:∀x∈l,A.dec (enc x::caps)=some (f x))(hp:∀x∈l,pre (f x))(c:∀x∈l,∀y,post (f x) y->y=p x):FunOn S (.clo g caps) l p:=by
 refine⟨g,caps,_,rfl,h,λx a=>⟨⟨f x,b x a,hp x a⟩,λr d=>?_⟩⟩;obtain⟨y,h1,h2⟩:=d (f x) (b x a) (hp x a);rw[h1,c x a y h2]
def qc0{X:Type}[Cod X](S0:Nat->Spc)(x:List X×D×Unit):Prop:=∃p:X->Bool,FunOn S0 x.2.1 x.1 p
def qo8{X:Type}[Cod X](S0:Nat->Spc)(x:List X×D×Unit)(y:Int):Prop:=∀p:X->Bool,FunOn S0 x.2.1 x.1 p->y=fe x.1 p
def qsI{X:Type}[Cod X](S0:Nat->Spc)(x:List X×D×Unit)(y:Bool):Prop:=∀p:X->Bool,FunOn S0 x.2.1 x.1 p->y=x.1.any p
abbrev YN(X:Type)[Cod X](S0:Nat->Spc):Spc:=aG (aE (List X) (aD a0)) (qc0 S0) (enc (X:=Int)) (qo8 S0)
abbrev YO(X:Type)[Cod X](S0:Nat->Spc):Spc:=aG (aE (List X) (aD a0)) (qc0 S0) (enc (X:=Bool)) (qsI S0)
theorem NZ:ak eY eQ S (aE (List Attr) (aD a0)) (qc0 S) (enc (X:=Int)) (qo8 S):=by
 rintro⟨l,d,⟨⟩⟩ ⟨p,hp⟩;simp only at hp;simp[eY,eQ,-fB',-eB'];intro _;refine ah (X:=Unit) [0,1] [] l.length (λk _=>∀p:Attr->Bool,FunOn S d l p->∀x∈l.take k,p x=false) (λ_=>[]) (λ_=>[]) () (by simp) ?_ ?_
 ·intro k _ hk j;obtain⟨x,c⟩:∃x,l[k]? =some x:=⟨_,qFC hk⟩
  obtain⟨_,q⟩:=qFB.1 c;simp[hk,c,q,-fB',-eB'];refine hp.useB (x:=x) (qFF c) λy r=>?_
  simp[-fB',-eB'];refine⟨λh=>?_,λh b a=>?_⟩
  ·intro b a;exact(tE c (by rw[<-r b a,h]) (j b a)).symm
  ·rw[av c];intro z hz;rcases qFG.1 hz with hz|hz
   ·exact j b a z hz
   ·simp at hz;subst hz;rw[<-r b a,h]
 ·intro _ j;simp[-fB',-eB'];intro b a;exact(jZ (by simpa using j b a)).symm
theorem Sb:ak ib gU S (aE (List Cond) (aD a0)) (qc0 S) (enc (X:=Int)) (qo8 S):=by
 rintro⟨l,d,⟨⟩⟩ ⟨p,hp⟩;simp only at hp;simp[ib,gU,-fB',-eB'];intro _;refine ah (X:=Unit) [0,1] [] l.length (λk _=>∀p:Cond->Bool,FunOn S d l p->∀x∈l.take k,p x=false) (λ_=>[]) (λ_=>[]) () (by simp) ?_ ?_
 ·intro k _ hk j;obtain⟨x,c⟩:∃x,l[k]? =some x:=⟨_,qFC hk⟩
  obtain⟨_,q⟩:=qFB.1 c;simp[hk,c,q,-fB',-eB'];have e:D.agg [.v (.int .i64 x.op), .v (.string x.name), .v (.string x.arg), .v (.string x.val), .v (.string x.lab), .v (.bool x.fold), .list 7 (x.kids.map enc)]=enc x:=by simp
  rw[e];refine hp.useB (x:=x) (qFF c) λy r=>?_
  simp[-fB',-eB'];refine⟨λh=>?_,λh b a=>?_⟩
  ·intro b a;exact(tE c (by rw[<-r b a,h]) (j b a)).symm
  ·rw[av c];intro z hz;rcases qFG.1 hz with hz|hz
   ·exact j b a z hz
   ·simp at hz;subst hz;rw[<-r b a,h]
 ·intro _ j;simp[-fB',-eB'];intro b a;exact(jZ (by simpa using j b a)).symm
def Sc(h1:S fj=YN Cond S0):ak fL fJ S (aE (List Cond) (aD a0)) (qc0 S0) (enc (X:=Bool)) (qsI S0):=by
 rintro⟨l,d,⟨⟩⟩ hp;simp[fL,fJ,h1,-fB',-eB'];refine⟨hp,λy c b a=>?_⟩;rw[c b a];exact vJ b l
theorem LB:ak fX fQ S (aE (List Region) (aD a0)) (qc0 S) (enc (X:=Int)) (qo8 S):=by
 rintro⟨l,d,⟨⟩⟩ ⟨p,hp⟩;simp only at hp;simp[fX,fQ,-fB',-eB'];intro _;refine ah (X:=Unit) [0,1] [] l.length (λk _=>∀p:Region->Bool,FunOn S d l p->∀x∈l.take k,p x=false) (λ_=>[]) (λ_=>[]) () (by simp) ?_ ?_
 ·intro k _ hk j;obtain⟨x,c⟩:∃x,l[k]? =some x:=⟨_,qFC hk⟩
  obtain⟨_,q⟩:=qFB.1 c;simp[hk,c,q,-fB',-eB'];refine hp.useB (x:=x) (qFF c) λy r=>?_
  simp[-fB',-eB'];refine⟨λh=>?_,λh b a=>?_⟩
  ·intro b a;exact(tE c (by rw[<-r b a,h]) (j b a)).symm
  ·rw[av c];intro z hz;rcases qFG.1 hz with hz|hz
   ·exact j b a z hz
   ·simp at hz;subst hz;rw[<-r b a,h]
 ·intro _ j;simp[-fB',-eB'];intro b a;exact(jZ (by simpa using j b a)).symm
def LC(h1:S dU=YN Region S0):ak fa eS S (aE (List Region) (aD a0)) (qc0 S0) (enc (X:=Bool)) (qsI S0):=by
 rintro⟨l,d,⟨⟩⟩ hp;simp[fa,eS,h1,-fB',-eB'];refine⟨hp,λy c b a=>?_⟩;rw[c b a];exact vJ b l
end
section
instance:Inhabited Cond:=⟨⟨0,⟨#[]⟩,⟨#[]⟩,⟨#[]⟩,⟨#[]⟩,false, []⟩⟩
instance:Inhabited Pat:=⟨⟨0,default,⟨#[]⟩,⟨#[]⟩,0,0, []⟩⟩
def Cond0:Cond:=⟨0,⟨#[]⟩,⟨#[]⟩,⟨#[]⟩,⟨#[]⟩,false, []⟩
mutual
def cg:Pat->Nat| .mk _ _ _ _ _ _ ks=>LW ks+1
def LW:List Pat->Nat|[]=>0|k::ks=>max (cg k) (LW ks)
end
mutual
def dB:Cond->Nat| .mk _ _ _ _ _ _ ks=>iV ks+1
def iV:List Cond->Nat|[]=>0|k::ks=>max (dB k) (iV ks)
end
mutual
def dm:Pat->Nat| .mk _ _ _ _ _ _ ks=>bu ks+1
def bu:List Pat->Nat|[]=>0|k::ks=>dm k+bu ks
end
def Nu(p:Pat):cg p=LW p.kids+1:=by cases p;rw[cg]
def JG(p:Cond):dB p=iV p.kids+1:=by cases p;rw[dB]
def cI(p:Pat):dm p=bu p.kids+1:=by cases p;rw[dm]
def SN{k:Pat} :∀{ks:List Pat},k∈ks->cg k<=LW ks
 | a::ks,h=>by
   rw[LW];rcases qFK.1 h with rfl|h
   ·omega
   ·have:=SN h;omega
def Lw{k:Cond} :∀{ks:List Cond},k∈ks->dB k<=iV ks
 | a::ks,h=>by
   rw[iV];rcases qFK.1 h with rfl|h
   ·omega
   ·have:=Lw h;omega
def fT{p k:Pat}(h:k∈p.kids):cg k<cg p:=by have:=SN h;rw[Nu p];omega
def Qw{p k:Cond}(h:k∈p.kids):dB k<dB p:=by have:=Lw h;rw[JG p];omega
def fg{C:Pat->Prop}(h:∀p,(∀k∈p.kids,C k)->C p)(p:Pat):C p:=by
 generalize hn:cg p=n
 induction n using Nat.strongRecOn generalizing p with
 | _ n a=>exact h p λk hk=>a (cg k) (by rw[<-hn];exact fT hk) k rfl
mutual
def cx(f:Pat->Bool):Pat->Bool| .mk op c l r mn mx ks=>f ⟨op,c,l,r,mn,mx,ks⟩ && Jo f ks
def Jo(f:Pat->Bool):List Pat->Bool|[]=>true|k::ks=>cx f k && Jo f ks
end
def P4(f:Pat->Bool):∀ks:List Pat,Jo f ks=ks.all (cx f)
 | []=>by rw[Jo];rfl
 |k::ks=>by rw[Jo,P4 f ks,qHo]
def cZ(f:Pat->Bool)(p:Pat):cx f p=(f p && p.kids.all (cx f)):=by cases p;rw[cx,P4]
mutual
def cm:Pat->Int->Bool| .mk _ _ _ _ _ _ ks,d=>decide (d<=100) && Ap ks (d+1)
def Ap:List Pat->Int->Bool|[],_=>true|k::ks,d=>cm k d && Ap ks d
end
def Ie(d:Int):∀ks:List Pat,Ap ks d=ks.all (cm · d)
 | []=>by rw[Ap];rfl
 |k::ks=>by rw[Ap,Ie d ks,qHo]
def ld(p:Pat)(d:Int):cm p d=(decide (d<=100) && p.kids.all (cm · (d+1))):=by cases p;rw[cm,Ie]
def US(p:Pat):∀d a:Int,a<=d->cm p d=true->cm p a=true:=by
 induction p using fg with|_ p b=>?_
 intro d a h;rw[ld,ld];simp only[qFJ,decide_eq_true_eq,qFI];exactλ⟨h1,h2⟩=>⟨by omega,λk hk=>b k hk (d+1) (a+1) (by omega) (h2 k hk)⟩
def xY(p:Pat):Prop:=(p.op=1/\p.reg=⟨#[]⟩/\p.mn=0/\p.mx=0/\p.kids=[])\/
 ((p.op=2\/p.op=3)/\p.cond=Cond0/\p.lab=⟨#[]⟩/\p.mn=0/\p.mx=0/\p.kids=[])\/
 ((p.op=4\/p.op=5)/\p.cond=Cond0/\p.lab=⟨#[]⟩/\p.reg=⟨#[]⟩/\p.mn=0/\p.mx=0/\2<=p.kids.length)\/
 (p.op=6/\p.cond=Cond0/\p.lab=⟨#[]⟩/\p.reg=⟨#[]⟩/\p.kids.length=1)
noncomputable def qC(p:Pat):Bool:= @decide (xY p) (Classical.propDecidable _)
def vX(p:Pat):qC p=true↔xY p:= @decide_eq_true_iff (xY p) (Classical.propDecidable _)
def lF(p:Pat):Bool:=decide (p.op=6->0<=p.mn/\p.mn<=16/\(p.mx= -1\/p.mn<=p.mx/\p.mx<=16))
def nI(v:B->Bool)(p:Pat):Bool:=decide (((p.op=2\/p.op=3)->v p.reg=true)/\(p.lab≠ ⟨#[]⟩->v p.lab=true))
noncomputable def fy(v:B->Bool)(p:Pat):Bool:=cm p 1 && cx qC p && cx (nI v) p && cx lF p
def dX{v:B->Bool}{p k:Pat}(h:fy v p=true)(hk:k∈p.kids):fy v k=true:=by
 unfold fy at*;rw[cZ,cZ,cZ lF,ld]at h;simp only[qFJ,qFI]at h;obtain⟨⟨⟨⟨_,h1⟩,_,h2⟩,_,h3⟩,_,h4⟩:=h;rw[h2 k hk,h3 k hk,h4 k hk,US k _ 1 (by omega) (h1 k hk)];rfl
def cH{v:B->Bool}{p:Pat}(h:fy v p=true):qC p=true/\nI v p=true/\lF p=true:=by
 unfold fy at*;rw[cZ,cZ,cZ lF]at h;simp only[qFJ]at h;exact⟨h.1.1.2.1,h.1.2.1,h.2.1⟩
def Dr(p:Pat)(n:Int):Int:=if p.kids=[]then 1 else if p.op=6 then(if p.mx= -1 then min (n* (p.mn+1)) 1000 else if p.mx=0 then n else min (n*p.mx) 1000)else n
mutual
def fM:Pat->Int| .mk op c l r mn mx ks=>Dr ⟨op,c,l,r,mn,mx,ks⟩ (eP ks 0)
def eP:List Pat->Int->Int|[],n=>n|k::ks,n=>eP ks (min (n+fM k) 1000)
end
def pR(p:Pat):fM p=Dr p (eP p.kids 0):=by cases p;rw[fM]
def Ov(a b:List Pat)(n:Int):eP (a++b) n=eP b (eP a n):=by
 induction a generalizing n with
 |nil=>rfl
 |cons k a c=>simp only[qGk,eP];exact c _
def Fl(seq:Bool)(a b:Int×Int):Int×Int:=
 if seq then(min (a.1+b.1) 10000,if a.2= -1\/b.2= -1 then -1 else min (a.2+b.2) 10000)else(min a.1 b.1,if a.2= -1\/b.2= -1 then -1 else max a.2 b.2)
mutual
def aO:Pat->Int×Int
 | .mk op _ _ _ mn mx ks=>if op=1 then(1,1)else if op=2\/op=3 then(0,0)else match ks with
   | []=>(0,0)
   |k::ks=>if op=6 then(min ((aO k).1*mn) 10000,if mx=0\/(aO k).2=0 then 0 else if mx= -1\/(aO k).2= -1 then -1 else min ((aO k).2*mx) 10000)else gw (decide (op=4)) ks (aO k)
def gw(seq:Bool):List Pat->Int×Int->Int×Int|[],w=>w|k::ks,w=>gw seq ks (Fl seq w (aO k))
end
def Sa(s:Bool)(a b:List Pat)(n:Int×Int):gw s (a++b) n=gw s b (gw s a n):=by
 induction a generalizing n with
 |nil=>rfl
 |cons k a c=>simp only[qGk,gw];exact c _
def Xe{p:Pat}(h:p.op=1):aO p=(1,1):=by cases p;simp only at h;unfold aO;rw[if_pos h]
def qc9{p:Pat}(h:p.op=2\/p.op=3):aO p=(0,0):=by cases p;simp only at h;unfold aO;rw[if_neg (by omega),if_pos h]
def qc7{p k:Pat}(h:p.op=6){ks:List Pat}(hk:p.kids=k::ks):aO p=(min ((aO k).1*p.mn) 10000,if p.mx=0\/(aO k).2=0 then 0 else if p.mx= -1\/(aO k).2= -1 then -1 else min ((aO k).2*p.mx) 10000):=by
 cases p;simp only at h hk;subst hk;rw[aO,if_neg (by omega),if_neg (by omega)];simp only[h,if_true]
def qc8{p k:Pat}(h:p.op=4\/p.op=5){ks:List Pat}(hk:p.kids=k::ks):aO p=gw (decide (p.op=4)) ks (aO k):=by
 cases p;simp only at h hk;subst hk;rw[aO,if_neg (by omega),if_neg (by omega)];simp only;rw[if_neg (by omega)]
mutual
def aq:Pat->List Pat| .mk op c l r mn mx ks=>if op=1 then[⟨op,c,l,r,mn,mx,ks⟩]else D5 ks
def D5:List Pat->List Pat|[]=>[]|k::ks=>aq k++D5 ks
end
def L4:∀ks:List Pat,D5 ks=ks.flatMap aq
 | []=>by rw[D5];rfl
 |k::ks=>by rw[D5,L4 ks,qGf]
def bc(p:Pat):aq p=if p.op=1 then[p]else p.kids.flatMap aq:=by cases p;rw[aq,L4]
def sJ(p:Pat):(aq p).length<=dm p:=by
 induction p using fg with|_ p a=>?_
 rw[bc,cI];split
 ·simp
 ·have:∀ks:List Pat,(∀k∈ks,(aq k).length<=dm k)->(ks.flatMap aq).length<=bu ks:=by
   intro ks
   induction ks with
   |nil=>intro _;simp[bu]
   | cons k ks a=>
     intro h;rw[qGf,qF5,bu];have h1:=h k (by simp);have h2:=a λx b=>h x (by simp[b])
     omega
  have:=this p.kids a;omega
def mA{p:Pat}(h:qC p=true):(p.op=1/\p.kids=[])\/((p.op=2\/p.op=3)/\p.kids=[])\/((p.op=4\/p.op=5)/\∃k ks,p.kids=k::ks)\/(p.op=6/\∃k,p.kids=[k]):=by
 rw[vX]at h;unfold xY at h;rcases h with h|h|h|h
 ·exact .inl ⟨h.1,h.2.2.2.2⟩
 ·exact .inr (.inl ⟨h.1,h.2.2.2.2.2⟩)
 ·refine .inr (.inr (.inl ⟨h.1,?_⟩));rcases hk:p.kids with _|⟨k,ks⟩
  ·rw[hk]at h;simp at h
  ·exact⟨k,ks,rfl⟩
 ·refine .inr (.inr (.inr ⟨h.1,?_⟩));rcases hk:p.kids with _|⟨k,_|⟨a,ks⟩⟩
  ·rw[hk]at h;simp at h
  ·exact⟨k,rfl⟩
  ·rw[hk]at h;simp at h
def rZ:∀(ks:List Pat) (n:Int),0<=n->n<=1000->(∀k∈ks,0<=fM k)->0<=eP ks n/\eP ks n<=1000
 | [],n,h0,h1,_=>by rw[eP];exact⟨h0,h1⟩
 | k::ks,n,h0,h1,h=>by
   rw[eP];have:=h k (by simp);exact rZ ks _ (by omega) (by omega) λx a=>h x (by simp[a])
def Sm{v:B->Bool}(p:Pat):fy v p=true->0<=fM p/\fM p<=1000:=by
 induction p using fg with|_ p a=>?_
 intro h;have hk:=rZ p.kids 0 (by omega) (by omega) λk hk=>(a k hk (dX h hk)).1
 have hn:=(cH h).2.2;unfold lF at hn;rw[decide_eq_true_eq]at hn;rw[pR];generalize eP p.kids 0=n at hk;unfold Dr;split
 ·omega
 ·split
  ·rename_i h6;have hn:=hn h6;split
   ·have:0<=n* (p.mn+1):=qHc hk.1 (by omega);omega
   ·split
    ·exact hk
    ·have:0<=n*p.mx:=qHc hk.1 (by omega);omega
  ·exact hk
def dG(w:Int×Int):Prop:=0<=w.1/\w.1<=10000/\ -1<=w.2/\w.2<=10000
def TV{s:Bool}{a b:Int×Int}(c:dG a)(hb:dG b):dG (Fl s a b):=by
 unfold dG Fl at*;split<;>simp only<;>split<;>omega
def Xd(s:Bool):∀(ks:List Pat) (w:Int×Int),dG w->(∀k∈ks,dG (aO k))->dG (gw s ks w)
 | [],w,h,_=>by rw[gw];exact h
 | k::ks,w,h,hk=>by
   rw[gw];exact Xd s ks _ (TV h (hk k (by simp))) λx a=>hk x (by simp[a])
theorem tu{v:B->Bool}(p:Pat):fy v p=true->dG (aO p):=by
 induction p using fg with|_ p a=>?_
 intro h;obtain⟨h1,_,hn⟩:=cH h;unfold lF at hn;rw[decide_eq_true_eq]at hn;rcases mA h1 with⟨ho,_⟩|⟨ho,_⟩|⟨ho,k,ks,hk⟩|⟨ho,k,hk⟩
 ·rw[Xe ho];simp[dG]
 ·rw[qc9 ho];simp[dG]
 ·rw[qc8 ho hk];exact Xd _ _ _ (a k (by rw[hk];simp) (dX h (by rw[hk];simp))) λx b=>a x (by rw[hk];simp[b]) (dX h (by rw[hk];simp[b]))
 ·rw[qc7 ho hk];have c:=a k (by rw[hk];simp) (dX h (by rw[hk];simp));have hn:=hn ho;generalize aO k=w at c;unfold dG at*;have h1:0<=w.1*p.mn:=qHc c.1 hn.1;refine⟨by simp only;omega,by simp only;omega,?_⟩;simp only;split
  ·omega
  ·split
   ·omega
   ·have h2:0<=w.2*p.mx:=qHc (by omega) (by omega);omega
open Cod (enc dec)
mutual
def io:Cond->Nat| .mk _ _ _ _ _ _ ks=>fE ks+1
def fE:List Cond->Nat|[]=>0|k::ks=>io k+fE ks
end
def BC(x:Cond):io x=fE x.kids+1:=by cases x;rw[io]
def E4:∀(a b:List Cond),fE (a++b)=fE a+fE b
 | [],b=>by rw[qGz,fE];omega
 |k::a,b=>by rw[qGk,fE,fE,E4 a b];omega
def TK:∀(a b:List Cond),iV (a++b)=max (iV a) (iV b)
 | [],b=>by rw[qGz,iV];omega
 |k::a,b=>by rw[qGk,iV,iV,TK a b];omega
def KS:∀{ks:List Cond} {k:Cond},k∈ks->io k<=fE ks
 | x::ks,k,h=>by
   rw[fE];rcases qFK.1 h with rfl|h
   ·omega
   ·have:=KS h;omega
def qf8{ks:List Cond}{k:Nat}{x:Cond}(h:ks[k]? =some x):fE (ks.take (k+1))=fE (ks.take k) +io x/\iV (ks.take (k+1))=max (iV (ks.take k)) (dB x)/\fE (ks.take k) +io x<=fE ks:=by
 have e:=av h;refine⟨by rw[e,E4,fE,fE];omega,by rw[e,TK,iV,iV];omega,?_⟩
 conv=>rhs;rw[<-qGa (k+1) ks,E4]
 rw[e,E4,fE,fE];omega
def mq:B:=⟨#[]⟩
def mN(a:List Attr)(n:B):Int:=fe a λx=>decide (x.nm=n)
def BN(a:List Attr)(n:B):Int:=if n=mq then min 0 ((a.length:Int) -1)else mN a n
def qeI(c:UInt8):Bool:=(decide (65<=c.toNat) && decide (c.toNat<=90))||(decide (97<=c.toNat) && decide (c.toNat<=122))||decide (c.toNat=95)
def qBO(c:UInt8):Bool:=qeI c||(decide (48<=c.toNat) && decide (c.toNat<=57))||decide (c.toNat=45)
def KP(s:B):Bool:=decide (1<=s.size/\s.size<=32) && (match s.data.toList with|c::_=>qeI c|[]=>false) && s.data.toList.all qBO
def DZ(s:B):Bool:=decide (s.size<=120) && s.data.toList.all λc=>decide (32<=c.toNat/\c.toNat< 127)
def qqX(x:Cond):Bool:=
 if x.op=1 then decide (x.name=mq/\x.arg=mq/\x.val=mq/\x.lab=mq/\x.fold=false) && x.kids.isEmpty else
 if x.op=2 then decide (x.arg=mq/\x.lab=mq) && x.kids.isEmpty else
 if x.op=3 then decide (x.arg=mq/\x.lab=mq/\x.fold=false) && x.kids.isEmpty else
 if x.op=4 then decide (x.val=mq/\x.fold=false) && x.kids.isEmpty else
 if x.op=5 then decide (x.lab=mq/\x.fold=false/\(x.arg=mq->x.val=mq)) && x.kids.isEmpty else
 if x.op=6 then decide (x.name=mq/\x.arg=mq/\x.val=mq/\x.lab=mq/\x.fold=false) && decide (x.kids.length=1)else
 if x.op=7\/x.op=8 then decide (x.name=mq/\x.arg=mq/\x.val=mq/\x.lab=mq/\x.fold=false) && decide (2<=x.kids.length/\x.kids.length<=60)else false
def qpK(a:List Attr)(x:Cond):Bool:=
 if x.op=2 then decide (0<=BN a x.name)else
 if x.op=3 then decide (0<=mN a x.name)else
 if x.op=4 then decide (0<=mN a x.name/\0<=mN a x.arg)else
 if x.op=5 then KP x.name && (decide (x.arg=mq)||KP x.arg)else true
def qo0(s:B):Bool:=s.data.toList.any λc=>decide (c.toNat=124)
def qzg(a:List Attr)(lb:List B)(x:Cond):Bool:=
 if x.op=2 then(qw x.val).isSome else
 if x.op=3 then(match a[(mN a x.name).toNat]? with|some b=>b.st|none=>false) && decide (x.val≠mq) && !qo0 x.val && DZ x.val else
 if x.op=4 then lb.any λl=>decide (l=x.lab)else
 if x.op=5 then DZ x.val else true
def rV(a:List Attr)(lb:List B)(x:Cond):Bool:=qqX x && qpK a x && qzg a lb x
def tX(a:List Attr)(lb:List B):Nat->Cond->Bool
 | 0=>λ_=>false
 |n+1=>λx=>rV a lb x && x.kids.all (tX a lb n)
def qms(a:List Attr)(lb:List B)(x:Cond):Bool:=decide (io x<=60/\dB x<=20) && tX a lb 20 x
end
end Go.Gv
