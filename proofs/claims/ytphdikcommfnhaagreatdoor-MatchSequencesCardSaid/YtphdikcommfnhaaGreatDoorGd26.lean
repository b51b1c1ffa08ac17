/- A part of the framework and of the walks: V2 V50 V51 V52 V53. -/
import Derived.Test.YtphdikcommfnhaaGreatDoorGd19
set_option linter.unusedSimpArgs false
set_option linter.unusedVariables false
set_option linter.unusedSectionVars false

namespace Go.Gv
open Cod (enc dec)
structure Cond where
 op:Int
 name:B
 arg:B
 val:B
 lab:B
 fold:Bool
 kids:List Cond
mutual
def JC:Cond->D
 | .mk op n a v l f ks=> .agg [enc op,enc n,enc a,enc v,enc l,enc f, .list 7 (xZ ks)]
def xZ:List Cond->List D
 | []=>[]
 | k::ks=>JC k::xZ ks
end
mutual
def K2:D->Option Cond
 | .agg [x0,x1,x2,x3,x4,x5,x6]=>(dec x0).bind fun op=>(dec x1).bind fun n=>(dec x2).bind fun a=>(dec x3).bind fun v=>(dec x4).bind fun l=>(dec x5).bind fun f=>(QK x6).bind fun ks=>some (.mk op n a v l f ks)
 | _=>none
def QK:D->Option (List Cond)
 | .list n es=>if n=7 then zP es else none
 | .v (.slice none 0 0)=>some []
 | _=>none
def zP:List D->Option (List Cond)
 | []=>some []
 | d::ds=>(K2 d).bind fun x=>(zP ds).bind fun xs=>some (x::xs)
end
theorem Fc:∀l:List Cond,xZ l=l.map JC
 | []=>rfl
 | _::l=>by rw[xZ,Fc l];rfl
theorem UX:∀c:Cond,(JC c).kn=true
 | .mk .. =>rfl
theorem Qt:∀c:Cond,(JC c).cells.length=7
 | .mk .. =>rfl
mutual
theorem QP:∀c:Cond,K2 (JC c)=some c
 | .mk op n a v l f ks=>by
   have h:QK (.list 7 (xZ ks))=some ks:=by rw[QK,if_pos rfl];exact LZ ks
   simp only[JC,K2,Cod.dec_enc,qud,h]
theorem LZ:∀l:List Cond,zP (xZ l)=some l
 | []=>by simp only[xZ,zP]
 | c::l=>by simp only[xZ,zP,QP c,LZ l,qud]
end
mutual
theorem U4:∀ (d:D) (c:Cond),K2 d=some c->FrzTo bY d (JC c)
 | .agg [x0,x1,x2,x3,x4,x5,x6],c,h=>by
   simp only[K2,qtT,qt8]at h
   obtain⟨op,h0,n,h1,a,h2,v,h3,l,h4,f,h5,ks,h6,rfl⟩:=h
   rw[JC]
   exact LeL.agg (.cons (Cod.le _ _ h0) (.cons (Cod.le _ _ h1) (.cons (Cod.le _ _ h2) (.cons (Cod.le _ _ h3) (.cons (Cod.le _ _ h4) (.cons (Cod.le _ _ h5) (.cons (U2 x6 ks h6) .nil)))))))
theorem U2:∀ (d:D) (l:List Cond),QK d=some l->FrzTo bY d (.list 7 (xZ l))
 | .list n es,l,h=>by
   simp only[QK]at h
   split at h
   ·rename_i hn
    subst hn
    have hl:=QO es l h
    refine .list hl.1 (fun e he=>?_) hl.2
    rw[Fc]at he
    obtain⟨x,hx,rfl⟩:=qt9.1 he
    exact⟨UX x,Qt x⟩
   ·cases h
 | .v (.slice none 0 0),l,h=>by
   simp only[QK,qt8]at h
   subst h
   exact .nil _
theorem QO:∀ (es:List D) (l:List Cond),zP es=some l->LeL es (xZ l)
 | [],l,h=>by
   simp only[zP,qt8]at h
   subst h
   exact .nil
 | d::ds,l,h=>by
   simp only[zP,qtT,qt8]at h
   obtain⟨x,h1,xs,h2,rfl⟩:=h
   rw[xZ]
   exact .cons (U4 d x h1) (QO ds xs h2)
end
instance:Cod Cond where
 wd:=7
 enc:=JC
 dec:=K2
 kn:=UX
 wid:=Qt
 dec_enc:=QP
 le:=U4
theorem LT(ks:List Cond):D.list 7 (xZ ks)=enc ks:=by rw[Fc];rfl
theorem Jz(op:Int)(n a v l:B)(f:Bool)(ks:List Cond):enc (Cond.mk op n a v l f ks)= .agg [enc op,enc n,enc a,enc v,enc l,enc f,enc ks]:=by
 rw[<-LT]
 show JC _=_
 rw[JC]
structure Pat where
 op:Int
 cond:Cond
 lab:B
 reg:B
 mn:Int
 mx:Int
 kids:List Pat
def zQ:Cond->List D
 | .mk op n a v l f ks=>[enc op,enc n,enc a,enc v,enc l,enc f,enc ks]
theorem JO:∀c:Cond,(zQ c).length=7
 | .mk .. =>rfl
mutual
def GH:Pat->D
 | .mk op c l r mn mx ks=> .agg (enc op::(zQ c++ [enc l,enc r,enc mn,enc mx, .list 13 (xX ks)]))
def xX:List Pat->List D
 | []=>[]
 | k::ks=>GH k::xX ks
end
mutual
def QJ:D->Option Pat
 | .agg [x0,y0,y1,y2,y3,y4,y5,y6,x1,x2,x3,x4,x5]=>(dec x0).bind fun op=>(dec (D.agg [y0,y1,y2,y3,y4,y5,y6])).bind fun c=>(dec x1).bind fun l=>(dec x2).bind fun r=>(dec x3).bind fun mn=>(dec x4).bind fun mx=>(FZ x5).bind fun ks=>some (.mk op c l r mn mx ks)
 | _=>none
def FZ:D->Option (List Pat)
 | .list n es=>if n=13 then zN es else none
 | .v (.slice none 0 0)=>some []
 | _=>none
def zN:List D->Option (List Pat)
 | []=>some []
 | d::ds=>(QJ d).bind fun x=>(zN ds).bind fun xs=>some (x::xs)
end
theorem Fa:∀l:List Pat,xX l=l.map GH
 | []=>rfl
 | _::l=>by rw[xX,Fa l];rfl
theorem UV:∀c:Pat,(GH c).kn=true
 | .mk .. =>rfl
theorem Qr:∀c:Pat,(GH c).cells.length=13
 | .mk op c l r mn mx ks=>by simp[GH,D.cells,JO]
mutual
theorem QI:∀c:Pat,QJ (GH c)=some c
 | .mk op (.mk cop n a v cl f cks) l r mn mx ks=>by
   have h:FZ (.list 13 (xX ks))=some ks:=by rw[FZ,if_pos rfl];exact LX ks
   have hc:dec (D.agg [enc cop,enc n,enc a,enc v,enc cl,enc f,enc cks])=some (Cond.mk cop n a v cl f cks):=by rw[<-Jz];exact Cod.dec_enc _
   simp only[GH,zQ,quI,quR,QJ,Cod.dec_enc,qud,h,hc]
theorem LX:∀l:List Pat,zN (xX l)=some l
 | []=>by simp only[xX,zN]
 | c::l=>by simp only[xX,zN,QI c,LX l,qud]
end
theorem XB{y0 y1 y2 y3 y4 y5 y6:D}{c:Cond}(h:dec (D.agg [y0,y1,y2,y3,y4,y5,y6])=some c):LeL [y0,y1,y2,y3,y4,y5,y6] (zQ c):=by
 have h':K2 (D.agg [y0,y1,y2,y3,y4,y5,y6])=some c:=h
 simp only[K2,qtT,qt8]at h'
 obtain⟨op,h0,n,h1,a,h2,v,h3,l,h4,f,h5,ks,h6,rfl⟩:=h'
 have hk:=U2 y6 ks h6
 rw[LT]at hk
 exact .cons (Cod.le _ _ h0) (.cons (Cod.le _ _ h1) (.cons (Cod.le _ _ h2) (.cons (Cod.le _ _ h3) (.cons (Cod.le _ _ h4) (.cons (Cod.le _ _ h5) (.cons hk .nil))))))
theorem LeL.append{a b c d:List D}(h:LeL a b)(k:LeL c d):LeL (a++c) (b++d):=by
 refine⟨by simp[h.1,k.1],fun i x y hx hy=>?_⟩
 rw[List.getElem?_append]at hx hy
 by_cases hi:i < a.length
 ·rw[if_pos hi]at hx
  rw[if_pos (by rw[<-h.1];exact hi)]at hy
  exact h.2 i x y hx hy
 ·rw[if_neg hi]at hx
  rw[if_neg (by rw[<-h.1];exact hi),<-h.1]at hy
  exact k.2 _ x y hx hy
mutual
theorem U1:∀ (d:D) (c:Pat),QJ d=some c->FrzTo bY d (GH c)
 | .agg [x0,y0,y1,y2,y3,y4,y5,y6,x1,x2,x3,x4,x5],c,h=>by
   simp only[QJ,qtT,qt8]at h
   obtain⟨op,h0,c,h1,l,h2,r,h3,mn,h4,mx,h5,ks,h6,rfl⟩:=h
   rw[GH]
   exact LeL.agg (.cons (Cod.le _ _ h0) ((XB h1).append (.cons (Cod.le _ _ h2) (.cons (Cod.le _ _ h3) (.cons (Cod.le _ _ h4) (.cons (Cod.le _ _ h5) (.cons (qaM x5 ks h6) .nil)))))))
theorem qaM:∀ (d:D) (l:List Pat),FZ d=some l->FrzTo bY d (.list 13 (xX l))
 | .list n es,l,h=>by
   simp only[FZ]at h
   split at h
   ·rename_i hn
    subst hn
    have hl:=QH es l h
    refine .list hl.1 (fun e he=>?_) hl.2
    rw[Fa]at he
    obtain⟨x,hx,rfl⟩:=qt9.1 he
    exact⟨UV x,Qr x⟩
   ·cases h
 | .v (.slice none 0 0),l,h=>by
   simp only[FZ,qt8]at h
   subst h
   exact .nil _
theorem QH:∀ (es:List D) (l:List Pat),zN es=some l->LeL es (xX l)
 | [],l,h=>by
   simp only[zN,qt8]at h
   subst h
   exact .nil
 | d::ds,l,h=>by
   simp only[zN,qtT,qt8]at h
   obtain⟨x,h1,xs,h2,rfl⟩:=h
   rw[xX]
   exact .cons (U1 d x h1) (QH ds xs h2)
end
instance:Cod Pat where
 wd:=13
 enc:=GH
 dec:=QJ
 kn:=UV
 wid:=Qr
 dec_enc:=QI
 le:=U1
theorem Xx(ks:List Pat):D.list 13 (xX ks)=enc ks:=by rw[Fa];rfl
theorem NX(op:Int)(c:Cond)(l r:B)(mn mx:Int)(ks:List Pat):enc (Pat.mk op c l r mn mx ks)= .agg (enc op::(zQ c++ [enc l,enc r,enc mn,enc mx,enc ks])):=by
 rw[<-Xx]
 show GH _=_
 rw[GH]
theorem JK:∀es:List D,zP es=es.mapM (dec (X:=Cond))
 | []=>by simp[zP]
 | d::es=>by
   rw[zP,quz,JK es]
   rfl
theorem qdT:∀d:D,QK d=dec (X:=List Cond) d:=fun d=>by
 unfold QK
 split
 ·rename_i n es
  show _=if n=7 then es.mapM (dec (X:=Cond))else none
  rw[JK]
 ·rfl
 ·rename_i h1 h2
  show _=(match d with
   | .list n es=>if n=7 then es.mapM (dec (X:=Cond))else none
   | .v (.slice none 0 0)=>some []
   | _=>none)
  split
  ·exact absurd rfl (h1 _ _)
  ·exact absurd rfl h2
  ·rfl
theorem JI:∀es:List D,zN es=es.mapM (dec (X:=Pat))
 | []=>by simp[zN]
 | d::es=>by
   rw[zN,quz,JI es]
   rfl
theorem qaN:∀d:D,FZ d=dec (X:=List Pat) d:=fun d=>by
 unfold FZ
 split
 ·rename_i n es
  show _=if n=13 then es.mapM (dec (X:=Pat))else none
  rw[JI]
 ·rfl
 ·rename_i h1 h2
  show _=(match d with
   | .list n es=>if n=13 then es.mapM (dec (X:=Pat))else none
   | .v (.slice none 0 0)=>some []
   | _=>none)
  split
  ·exact absurd rfl (h1 _ _)
  ·exact absurd rfl h2
  ·rfl
@[simp] theorem Ql(s:Cond):Cond.mk s.op s.name s.arg s.val s.lab s.fold s.kids=s:=by cases s;rfl
@[simp] theorem qat(s:Cond):enc s= .agg [enc s.op,enc s.name,enc s.arg,enc s.val,enc s.lab,enc s.fold,enc s.kids]:=by cases s;exact Jz ..
@[simp] theorem qlu:Cod.wd Cond=7:=id rfl
@[simp] theorem qaJ(x0 x1 x2 x3 x4 x5 x6:D):dec (X:=Cond) (.agg [x0,x1,x2,x3,x4,x5,x6])=((dec x0).bind fun x0=>(dec x1).bind fun x1=>(dec x2).bind fun x2=>(dec x3).bind fun x3=>(dec x4).bind fun x4=>(dec x5).bind fun x5=>(dec x6).bind fun x6=>some ⟨x0,x1,x2,x3,x4,x5,x6⟩):=by
 show K2 _=_
 simp only[K2,qdT]
@[simp] theorem qnl(s:Pat):Pat.mk s.op s.cond s.lab s.reg s.mn s.mx s.kids=s:=by cases s;rfl
@[simp] theorem NZ(s:Pat):enc s= .agg [enc s.op,enc s.cond.op,enc s.cond.name,enc s.cond.arg,enc s.cond.val,enc s.cond.lab,enc s.cond.fold,enc s.cond.kids,enc s.lab,enc s.reg,enc s.mn,enc s.mx,enc s.kids]:=by
 obtain⟨op,⟨a,b,c,d,e,f,g⟩,l,r,mn,mx,ks⟩:=s
 exact NX ..
@[simp] theorem qoG:Cod.wd Pat=13:=id rfl
@[simp] theorem qnE(x0 y0 y1 y2 y3 y4 y5 y6 x1 x2 x3 x4 x5:D):dec (X:=Pat) (.agg [x0,y0,y1,y2,y3,y4,y5,y6,x1,x2,x3,x4,x5])=
 ((dec x0).bind fun x0=>(dec y0).bind fun y0=>(dec y1).bind fun y1=>(dec y2).bind fun y2=>(dec y3).bind fun y3=>(dec y4).bind fun y4=>(dec y5).bind fun y5=>(dec y6).bind fun y6=>
   (dec x1).bind fun x1=>(dec x2).bind fun x2=>(dec x3).bind fun x3=>(dec x4).bind fun x4=>(dec x5).bind fun x5=>some ⟨x0,⟨y0,y1,y2,y3,y4,y5,y6⟩,x1,x2,x3,x4,x5⟩):=by
 show QJ _=_
 simp only[QJ,qaN,qaJ,Option.bind_assoc,qud]
end Go.Gv

namespace Go.Gv
open Cod (enc dec)
structure U64 where
 val:Int
deriving DecidableEq
instance:Cod U64 where
 wd:=1
 enc n:= .v (.int .u64 n.val)
 dec| .v (.int .u64 n)=>some ⟨n⟩|_=>none
 kn _:=rfl
 wid _:=rfl
 dec_enc _:=rfl
 le d x h:=by
  split at h
  ·cases h;exact .same _
  ·cases h
@[simp] theorem qnn(n:U64):enc n= .v (.int .u64 n.val):=id rfl
@[simp] theorem qoA:Cod.wd U64=1:=id rfl
@[simp] theorem qnx(n:Int):dec (X:=U64) (.v (.int .u64 n))=some ⟨n⟩:=id rfl
@[simp] theorem qnd(n:U64):U64.mk n.val=n:=id rfl
structure Rng where
 fr:I32
 to:I32
deriving DecidableEq
instance:Cod Rng where
 wd:=2
 enc s:= .agg [enc s.fr,enc s.to]
 dec| .agg [x0,x1]=>(dec x0).bind fun x0=>(dec x1).bind fun x1=>some ⟨x0,x1⟩|_=>none
 kn _:=rfl
 wid _:=rfl
 dec_enc s:=by simp
 le d x h:=by
  split at h
  ·simp only[qtT]at h
   obtain⟨x0,h0,x1,h1,h⟩:=h
   cases h
   exact LeL.agg (.cons (Cod.le _ _ h0) (.cons (Cod.le _ _ h1) .nil))
  ·cases h
@[simp] theorem qnh(s:Rng):(Rng.mk s.fr s.to)=s:=id rfl
@[simp] theorem qns(s:Rng):enc s= .agg [enc s.fr,enc s.to]:=id rfl
@[simp] theorem qoF:Cod.wd Rng=2:=id rfl
@[simp] theorem qnB(x0 x1:D):dec (X:=Rng) (.agg [x0,x1])=((dec x0).bind fun x0=>(dec x1).bind fun x1=>some ⟨x0,x1⟩):=id rfl
structure Rx where
 op:Int
 mn:Int
 mx:Int
 rs:List Rng
 kids:List Rx
mutual
def JA:Rx->D
 | .mk op mn mx rs ks=> .agg [enc op,enc mn,enc mx,enc rs, .list 5 (xW ks)]
def xW:List Rx->List D
 | []=>[]
 | k::ks=>JA k::xW ks
end
mutual
def QG:D->Option Rx
 | .agg [x0,x1,x2,x3,x4]=>(dec x0).bind fun op=>(dec x1).bind fun mn=>(dec x2).bind fun mx=>(dec x3).bind fun rs=>(FY x4).bind fun ks=>some (.mk op mn mx rs ks)
 | _=>none
def FY:D->Option (List Rx)
 | .list n es=>if n=5 then zM es else none
 | .v (.slice none 0 0)=>some []
 | _=>none
def zM:List D->Option (List Rx)
 | []=>some []
 | d::ds=>(QG d).bind fun x=>(zM ds).bind fun xs=>some (x::xs)
end
theorem E9:∀l:List Rx,xW l=l.map JA
 | []=>rfl
 | _::l=>by rw[xW,E9 l];rfl
theorem UU:∀c:Rx,(JA c).kn=true
 | .mk .. =>rfl
theorem Qq:∀c:Rx,(JA c).cells.length=5
 | .mk .. =>rfl
mutual
theorem QF:∀c:Rx,QG (JA c)=some c
 | .mk op mn mx rs ks=>by
   have h:FY (.list 5 (xW ks))=some ks:=by rw[FY,if_pos rfl];exact LW ks
   simp only[JA,QG,Cod.dec_enc,qud,h]
theorem LW:∀l:List Rx,zM (xW l)=some l
 | []=>by simp only[xW,zM]
 | c::l=>by simp only[xW,zM,QF c,LW l,qud]
end
mutual
theorem U0:∀ (d:D) (c:Rx),QG d=some c->FrzTo bY d (JA c)
 | .agg [x0,x1,x2,x3,x4],c,h=>by
   simp only[QG,qtT,qt8]at h
   obtain⟨op,h0,mn,h1,mx,h2,rs,h3,ks,h4,rfl⟩:=h
   rw[JA]
   exact LeL.agg (.cons (Cod.le _ _ h0) (.cons (Cod.le _ _ h1) (.cons (Cod.le _ _ h2) (.cons (Cod.le _ _ h3) (.cons (qaK x4 ks h4) .nil)))))
theorem qaK:∀ (d:D) (l:List Rx),FY d=some l->FrzTo bY d (.list 5 (xW l))
 | .list n es,l,h=>by
   simp only[FY]at h
   split at h
   ·rename_i hn
    subst hn
    have hl:=QE es l h
    refine .list hl.1 (fun e he=>?_) hl.2
    rw[E9]at he
    obtain⟨x,hx,rfl⟩:=qt9.1 he
    exact⟨UU x,Qq x⟩
   ·cases h
 | .v (.slice none 0 0),l,h=>by
   simp only[FY,qt8]at h
   subst h
   exact .nil _
theorem QE:∀ (es:List D) (l:List Rx),zM es=some l->LeL es (xW l)
 | [],l,h=>by
   simp only[zM,qt8]at h
   subst h
   exact .nil
 | d::ds,l,h=>by
   simp only[zM,qtT,qt8]at h
   obtain⟨x,h1,xs,h2,rfl⟩:=h
   rw[xW]
   exact .cons (U0 d x h1) (QE ds xs h2)
end
instance:Cod Rx where
 wd:=5
 enc:=JA
 dec:=QG
 kn:=UU
 wid:=Qq
 dec_enc:=QF
 le:=U0
theorem Xw(ks:List Rx):D.list 5 (xW ks)=enc ks:=by rw[E9];rfl
theorem qaq(op mn mx:Int)(rs:List Rng)(ks:List Rx):enc (Rx.mk op mn mx rs ks)= .agg [enc op,enc mn,enc mx,enc rs,enc ks]:=by
 rw[<-Xw]
 show JA _=_
 rw[JA]
theorem JH:∀es:List D,zM es=es.mapM (dec (X:=Rx))
 | []=>by simp[zM]
 | d::es=>by
   rw[zM,quz,JH es]
   rfl
theorem qaL:∀d:D,FY d=dec (X:=List Rx) d:=fun d=>by
 unfold FY
 split
 ·rename_i n es
  show _=if n=5 then es.mapM (dec (X:=Rx))else none
  rw[JH]
 ·rfl
 ·rename_i h1 h2
  show _=(match d with
   | .list n es=>if n=5 then es.mapM (dec (X:=Rx))else none
   | .v (.slice none 0 0)=>some []
   | _=>none)
  split
  ·exact absurd rfl (h1 _ _)
  ·exact absurd rfl h2
  ·rfl
@[simp] theorem qqs(s:Rx):Rx.mk s.op s.mn s.mx s.rs s.kids=s:=by cases s;rfl
@[simp] theorem qqz(s:Rx):enc s= .agg [enc s.op,enc s.mn,enc s.mx,enc s.rs,enc s.kids]:=by cases s;exact qaq ..
@[simp] theorem qrQ:Cod.wd Rx=5:=id rfl
@[simp] theorem qqH(x0 x1 x2 x3 x4:D):dec (X:=Rx) (.agg [x0,x1,x2,x3,x4])=((dec x0).bind fun x0=>(dec x1).bind fun x1=>(dec x2).bind fun x2=>(dec x3).bind fun x3=>(dec x4).bind fun x4=>some ⟨x0,x1,x2,x3,x4⟩):=by
 show QG _=_
 simp only[QG,qaL]
end Go.Gv

namespace Go.Gv
open Cod (enc dec)
structure Rp where
 s:B
 pos:Int
 fault:Int
 e:Int
def Rp.bump(p:Rp):Rp:={ p with pos:=p.pos+1 }
def JV(p:Rp):Option Int:=
 if 200 < p.s.size then none else
 if p.pos=p.s.size then some (-1)else
 if 0<=p.pos then match p.s.data[p.pos.toNat]? with
  | some c=>if c.toNat < 128 then some c.toNat else none
  | none=>none
 else none
def qdr(sp:B)(c:Int):Bool:=sp.data.toList.any fun x=>decide ((x.toNat:Int)=c)
def kC(p:Rp)(_:Unit):Option (Rp×I32):=(JV p).map fun c=>(p,⟨c⟩)
def Ll(p:Rp)(_:Unit):Option (Rp×Unit):=(JV p).bind fun c=>if 0<=c then some (p.bump,())else none
def AW(p:Rp)(_:B):Option (Rp× (I32×Bool)):=(JV p).bind fun c=>if c < 0\/c=92 then none else some (p.bump,⟨c⟩,true)
def Vb:B:=⟨#[92,91,93,94,45]⟩
def PM(p:Rp)(_:Unit):Option (Rp× (I32×Bool)):=(JV p).bind fun c=>if c < 0\/qdr Vb c=true then none else AW p Vb
def YF(fr to:Int):Rx:=⟨1,0,0, [⟨⟨fr⟩,⟨to⟩⟩], []⟩
def rC(out:List Rng)(r:Rng):List Rng:=match out.getLast? with
 | some q=>if r.fr.val<=q.to.val+1 then out.dropLast++ [⟨q.fr,⟨max q.to.val r.to.val⟩⟩]else out++ [r]
 | none=>[r]
def Em(l:List Rng):Bool:=match l with
 | [x]=>decide (0<=x.fr.val/\x.fr.val<=1114111/\0<=x.to.val/\x.to.val<=1114111)
 | [x,y]=>decide (0<=x.fr.val/\x.fr.val<=1114111/\0<=x.to.val/\x.to.val<=1114111/\0<=y.fr.val/\y.fr.val<=1114111/\0<=y.to.val/\y.to.val<=1114111/\x.fr.val<=y.fr.val)
 | _=>false
def Dr(l:List Rng):List Rng:=l.foldl rC []
def qaZ:Nat->Rp->List Rng->Option (Rp×List Rng)
 | 0,_,_=>none
 | n+1,p,l=>(JV p).bind fun c=>if l≠ []/\c=93 then some (p,l)else
   (PM p ()).bind fun q=>(JV q.1).bind fun d=>if d=45 then none else qaZ n q.1 (l++ [⟨q.2.1,q.2.1⟩])
def qdZ(p:Rp)(_:Unit):Option (Rp× (Rx×Bool)):=(JV p).bind fun a=>if a≠91 then none else(JV p.bump).bind fun c=>if c=94 then none else
 (qaZ 100 p.bump []).bind fun q=>if Em q.2=true then some (q.1.bump,⟨1,0,0,Dr q.2, []⟩,true)else none
def qjg:B:=⟨#[92,46,91,93,40,41,123,125,124,42,43,63]⟩
def Vh(p:Rp)(_:Unit):Option (Rp× (Rx×Bool)):=(JV p).bind fun c=>
 if c=40 then none else if c=46 then some (p.bump,YF 0 1114111,true)else if c=91 then qdZ p ()else
 if c≠92/\qdr qjg c=true then none else(AW p qjg).map fun q=>(q.1,YF q.2.1.val q.2.1.val,q.2.2)
def KG(c:Int):Option (Int×Int):=if c=42 then some (0, -1)else if c=43 then some (1, -1)else if c=63 then some (0,1)else none
def YZ(p:Rp)(_:Unit):Option (Rp× (Rx×Bool)):=(Vh p ()).bind fun q=>if q.2.2=true then(JV q.1).bind fun c=>if c=123 then none else match KG c with
 | some m=>(JV q.1.bump).bind fun d=>if d=123\/(KG d).isSome=true then none else some (q.1.bump,⟨4,m.1,m.2, [], [q.2.1]⟩,true)
 | none=>some (q.1,q.2.1,true)
 else none
def QT:Nat->Rp->List Rx->Option (Rp×List Rx)
 | 0,_,_=>none
 | n+1,p,l=>(JV p).bind fun c=>if c < 0\/c=124\/c=41 then some (p,l)else
   (YZ p ()).bind fun q=>if q.2.1.op=2 then none else QT n q.1 (l++ [q.2.1])
def SR(op:Int):List Rx->Rx
 | [e]=>e
 | l=>⟨op,0,0, [],l⟩
def qa3(p:Rp)(_:Unit):Option (Rp× (Rx×Bool)):=(QT 100 p []).map fun q=>(q.1,SR 2 q.2,true)
def Yk:Nat->Rp->List Rx->Option (Rp×List Rx)
 | 0,_,_=>none
 | n+1,p,l=>(qa3 p ()).bind fun q=>(JV q.1).bind fun c=>
   if q.2.1.op=3 then none else if c=124 then Yk n q.1.bump (l++ [q.2.1])else some (q.1,l++ [q.2.1])
def qcr(p:Rp)(_:Unit):Option (Rp× (Rx×Bool)):=(Yk 100 p []).map fun q=>(q.1,SR 3 q.2,true)
end Go.Gv

namespace Go.Gv
open Cod (enc dec)
def qja(f:Rx->Int->Int->Option (Bool×Int))(d:Int):List Rx->Int->Option (Bool×Int)
 | [],k=>some (true,k)
 | x::l,k=>(f x (d+1) k).bind fun r=>if r.1=true then qja f d l r.2 else some (false,r.2)
def qB:Nat->Rx->Int->Int->Option (Bool×Int)
 | 0=>fun _ _ _=>none
 | n+1=>fun x d k=>if d < 0\/1000 < d\/k < 0\/1000 < k then none else if 40 < d\/200 < k+1 then some (false,k+1)else qja (qB n) d x.kids (k+1)
def Us(l:List Rng):Bool:=match l with
 | [r]=>decide (0<=r.fr.val/\r.fr.val<=r.to.val/\r.to.val<=1114111)
 | _=>false
def qjv(x:Rx):Bool:=
 if x.op=1 then decide (x.mn=0/\x.mx=0) && x.kids.isEmpty && Us x.rs else
 if x.op=2 then decide (x.mn=0/\x.mx=0) && x.rs.isEmpty && decide (x.kids.length≠1/\x.kids.length<=300) && x.kids.all fun k=>decide (k.op≠2)else
 if x.op=3 then decide (x.mn=0/\x.mx=0) && x.rs.isEmpty && decide (1 < x.kids.length/\x.kids.length<=300) && x.kids.all fun k=>decide (k.op≠3)else
 if x.op=4 then decide (0<=x.mn/\x.mn<=16/\(x.mx= -1\/x.mn<=x.mx/\x.mx<=16)) && x.rs.isEmpty && decide (x.kids.length=1)else false
def Wx:Nat->Rx->Bool
 | 0=>fun _=>false
 | n+1=>fun x=>qjv x && x.kids.all (Wx n)
def qjo(f:Rx->Option Int):List Rx->Int->Option Int
 | [],k=>some k
 | x::l,k=>(f x).bind fun y=>if k < 0\/1000 < k\/y < 0\/1000 < y then none else qjo f l (min (k+y) 65)
def qjq(x:Rx)(m:Int):Option Int:=
 if x.mx= -1 then(if -1000000<=m*max x.mn 1/\m*max x.mn 1<=1000000 then some (min (m*max x.mn 1) 65)else none)
 else if -1000000<=m*x.mx/\m*x.mx<=1000000 then some (min (m*x.mx) 65)else none
def Iw:Nat->Rx->Option Int
 | 0=>fun _=>none
 | n+1=>fun x=>if x.op=1 then some 1 else(qjo (Iw n) x.kids 0).bind fun m=>if x.op≠4 then some m else qjq x m
def A8(n:Nat)(x:Rx):Bool:=(match qB n x 1 0 with|some r=>r.1|none=>false) && Wx n x && (match Iw n x with|some m=>decide (m<=64)|none=>false)
def vt(s:B):Bool:=s.data.toList.all fun c=>decide (c.toNat < 128)
def qP(s:B):Option Rx:=if s.size<=200/\vt s=true then(qcr ⟨s,0,0,0⟩ ()).bind fun q=>if q.2.2=true/\q.1.pos=s.size/\A8 50 q.2.1=true then some q.2.1 else none else none
end Go.Gv

namespace Go.Gv
open Cod (enc dec)
structure Prt where
 first:U64
 last:U64
 nul:Bool
deriving DecidableEq
instance:Cod Prt where
 wd:=3
 enc s:= .agg [enc s.first,enc s.last,enc s.nul]
 dec| .agg [x0,x1,x2]=>(dec x0).bind fun x0=>(dec x1).bind fun x1=>(dec x2).bind fun x2=>some ⟨x0,x1,x2⟩|_=>none
 kn _:=rfl
 wid _:=rfl
 dec_enc s:=by simp
 le d x h:=by
  split at h
  ·simp only[qtT]at h
   obtain⟨x0,h0,x1,h1,x2,h2,h⟩:=h
   cases h
   exact LeL.agg (.cons (Cod.le _ _ h0) (.cons (Cod.le _ _ h1) (.cons (Cod.le _ _ h2) .nil)))
  ·cases h
@[simp] theorem qnk(s:Prt):(Prt.mk s.first s.last s.nul)=s:=id rfl
@[simp] theorem qnu(s:Prt):enc s= .agg [enc s.first,enc s.last,enc s.nul]:=id rfl
@[simp] theorem qnD(x0 x1 x2:D):dec (X:=Prt) (.agg [x0,x1,x2])=((dec x0).bind fun x0=>(dec x1).bind fun x1=>(dec x2).bind fun x2=>some ⟨x0,x1,x2⟩):=id rfl
structure Tbk where
 lvs:List (List Rng)
 fi:U64
 la:U64
 fol:List U64
 nul:Bool
def XM(m:U64)(i:Nat):Bool:=decide (TN .u64 (YD .u64 m.val i) 1=1)
def qcO(a b:U64):U64:=⟨qjs .u64 a.val b.val⟩
def Uz(fr to:U64):Nat->List U64->List U64
 | _, []=>[]
 | i,f::l=>(if XM fr i=true then qcO f to else f)::Uz fr to (i+1) l
def Du(t:Tbk)(z:U64×U64):Option (Tbk×Unit):=if t.fol.length<=100000 then some ({ t with fol:=Uz z.1 z.2 0 t.fol },())else none
def qjV(a b:Prt):Prt:=⟨if a.nul=true then qcO a.first b.first else a.first,if b.nul=true then qcO b.last a.last else b.last,a.nul && b.nul⟩
def yc(t:Tbk)(z:Prt×Prt):Option (Tbk×Prt):=(Du t (z.1.last,z.2.first)).map fun q=>(q.1,qjV z.1 z.2)
def BN:Prt:=⟨⟨0⟩,⟨0⟩,true⟩
def qpl:Prt:=⟨⟨0⟩,⟨0⟩,false⟩
def qkA(f:Tbk->Rx->Option (Tbk×Prt)):List Rx->Tbk->Prt->Option (Tbk×Prt)
 | [],t,p=>some (t,p)
 | x::l,t,p=>(f t x).bind fun q=>(yc q.1 (p,q.2)).bind fun r=>qkA f l r.1 r.2
def XS(f:Tbk->Rx->Option (Tbk×Prt)):List Rx->Tbk->Prt->Option (Tbk×Prt)
 | [],t,p=>some (t,p)
 | x::l,t,p=>(f t x).bind fun q=>XS f l q.1 ⟨qcO p.first q.2.first,qcO p.last q.2.last,p.nul||q.2.nul⟩
def Nz(t:Tbk):Bool:=decide (t.lvs.length<=1000/\t.fol.length<=1000)
def qhj(b r:Tbk->Rx->Option (Tbk×Prt))(t:Tbk)(x:Rx):Option (Tbk×Prt):=
 if Nz t=false\/1000 < x.kids.length then none else
 if x.op=1 then some ({ t with lvs:=t.lvs++ [x.rs],fol:=t.fol++ [⟨0⟩] },⟨⟨Pj .u64 1 t.lvs.length⟩,⟨Pj .u64 1 t.lvs.length⟩,false⟩)else
 if x.op=2 then qkA b x.kids t BN else
 if x.op=3 then XS b x.kids t qpl else r t x
def qjh(b:Tbk->Rx->Option (Tbk×Prt))(y:Rx)(mx:Int):Nat->Tbk->Prt->Option (Tbk×Prt×Bool)
 | 0,t,p=>some (t,p,false)
 | k+1,t,p=>if Nz t=false then none else(b t y).bind fun q=>if Nz q.1=false then none else
   if q.1.lvs.length=t.lvs.length then some (q.1,BN,true)else
   (if mx < 0/\k=0 then Du q.1 (q.2.last,q.2.first)else some (q.1,())).bind fun l=>(yc l.1 (p,q.2)).bind fun r=>qjh b y mx k r.1 r.2
def Y0(b:Tbk->Rx->Option (Tbk×Prt))(o:Tbk->Rx×Int->Option (Tbk×Prt))(t:Tbk)(x:Rx):Option (Tbk×Prt):=match x.kids with
 | []=>none
 | y::_=>if x.mn < 0\/100 < x.mn\/x.mx < -1\/100 < x.mx then none else
   (qjh b y x.mx x.mn.toNat t BN).bind fun q=>if q.2.2=true then some (q.1,BN)else
   if x.mx < 0/\x.mn=0 then(b q.1 y).bind fun r=>(Du r.1 (r.2.last,r.2.first)).map fun l=>(l.1, { r.2 with nul:=true })else
   if x.mn < x.mx then(o q.1 (y,x.mx -x.mn)).bind fun r=>yc r.1 (q.2.1,r.2)else some (q.1,q.2.1)
def qf8(b:Tbk->Rx->Option (Tbk×Prt))(o:Tbk->Rx×Int->Option (Tbk×Prt))(t:Tbk)(z:Rx×Int):Option (Tbk×Prt):=
 if z.2 < 0\/100 < z.2\/Nz t=false then none else
 if z.2=0 then some (t,BN)else
 (b t z.1).bind fun q=>if Nz q.1=false then none else
 if q.1.lvs.length=t.lvs.length then some (q.1,BN)else
 (o q.1 (z.1,z.2 -1)).bind fun r=>(yc r.1 (q.2,r.2)).map fun l=>(l.1, { l.2 with nul:=true })
structure qtQ where
 b:Tbk->Rx->Option (Tbk×Prt)
 r:Tbk->Rx->Option (Tbk×Prt)
 o:Tbk->Rx×Int->Option (Tbk×Prt)
def Ca:Nat->qtQ
 | 0=>⟨fun _ _=>none,fun _ _=>none,fun _ _=>none⟩
 | n+1=>⟨qhj (Ca n).b (Ca n).r,Y0 (Ca n).b (Ca n).o,qf8 (Ca n).b (Ca n).o⟩
def qtj:Tbk:=⟨[],⟨0⟩,⟨0⟩, [],false⟩
def qcu(n:Nat)(x:Rx):Option Tbk:=((Ca n).b qtj x).map fun q=>{ q.1 with fi:=q.2.first,la:=q.2.last,nul:=q.2.nul }
def qeH(set:U64):Nat->List U64->U64->U64
 | _, [],m=>m
 | i,f::l,m=>qeH set (i+1) l (if XM set i=true then qcO m f else m)
def zD(t:Tbk)(set:U64)(beg:Bool):U64:=if beg=true then t.fi else qeH set 0 t.fol ⟨0⟩
end Go.Gv
