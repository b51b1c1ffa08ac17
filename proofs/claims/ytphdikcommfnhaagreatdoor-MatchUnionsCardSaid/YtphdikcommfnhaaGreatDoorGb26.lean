/- A part of the framework and of the walks: V2 V50 V51 V52 V53. -/
import Derived.Test.YtphdikcommfnhaaGreatDoorGb19
set_option linter.unusedSimpArgs false
set_option linter.unusedVariables false

namespace Go.Gv
open Cod (enc dec)
structure Cond where
 op:Int
 name:B
 arg:B
 val:B
 lab:B
 fold:Bool
 kids:List Cond
mutual
def I2:Cond->D
 | .mk op n a v l f ks=> .agg [enc op,enc n,enc a,enc v,enc l,enc f, .list 7 (xD ks)]
def xD:List Cond->List D
 | []=>[]
 | k::ks=>I2 k::xD ks
end
mutual
def Kq:D->Option Cond
 | .agg [x0,x1,x2,x3,x4,x5,x6]=>(dec x0).bind fun op=>(dec x1).bind fun n=>(dec x2).bind fun a=>(dec x3).bind fun v=>(dec x4).bind fun l=>(dec x5).bind fun f=>(P4 x6).bind fun ks=>some (.mk op n a v l f ks)
 | _=>none
def P4:D->Option (List Cond)
 | .list n es=>if n=7 then zt es else none
 | .v (.slice none 0 0)=>some []
 | _=>none
def zt:List D->Option (List Cond)
 | []=>some []
 | d::ds=>(Kq d).bind fun x=>(zt ds).bind fun xs=>some (x::xs)
end
theorem EQ:∀l:List Cond,xD l=l.map I2
 | []=>rfl
 | _::l=>by rw[xD,EQ l];rfl
theorem Uc:∀c:Cond,(I2 c).kn=true
 | .mk .. =>rfl
theorem PM:∀c:Cond,(I2 c).cells.length=7
 | .mk .. =>rfl
mutual
theorem P9:∀c:Cond,Kq (I2 c)=some c
 | .mk op n a v l f ks=>by
   have h:P4 (.list 7 (xD ks))=some ks:=by rw[P4,if_pos rfl];exact Lq ks
   simp only[I2,Kq,Cod.dec_enc,qtb,h]
theorem Lq:∀l:List Cond,zt (xD l)=some l
 | []=>by simp only[xD,zt]
 | c::l=>by simp only[xD,zt,P9 c,Lq l,qtb]
end
mutual
theorem Uj:∀ (d:D) (c:Cond),Kq d=some c->FrzTo bU d (I2 c)
 | .agg [x0,x1,x2,x3,x4,x5,x6],c,h=>by
   simp only[Kq,qsR,qs6]at h
   obtain⟨op,h0,n,h1,a,h2,v,h3,l,h4,f,h5,ks,h6,rfl⟩:=h
   rw[I2]
   exact LeL.agg (.cons (Cod.le _ _ h0) (.cons (Cod.le _ _ h1) (.cons (Cod.le _ _ h2) (.cons (Cod.le _ _ h3) (.cons (Cod.le _ _ h4) (.cons (Cod.le _ _ h5) (.cons (Uh x6 ks h6) .nil)))))))
theorem Uh:∀ (d:D) (l:List Cond),P4 d=some l->FrzTo bU d (.list 7 (xD l))
 | .list n es,l,h=>by
   simp only[P4]at h
   split at h
   ·rename_i hn
    subst hn
    have hl:=P8 es l h
    refine .list hl.1 (fun e he=>?_) hl.2
    rw[EQ]at he
    obtain⟨x,hx,rfl⟩:=qs7.1 he
    exact⟨Uc x,PM x⟩
   ·cases h
 | .v (.slice none 0 0),l,h=>by
   simp only[P4,qs6]at h
   subst h
   exact .nil _
theorem P8:∀ (es:List D) (l:List Cond),zt es=some l->LeL es (xD l)
 | [],l,h=>by
   simp only[zt,qs6]at h
   subst h
   exact .nil
 | d::ds,l,h=>by
   simp only[zt,qsR,qs6]at h
   obtain⟨x,h1,xs,h2,rfl⟩:=h
   rw[xD]
   exact .cons (Uj d x h1) (P8 ds xs h2)
end
instance:Cod Cond where
 wd:=7
 enc:=I2
 dec:=Kq
 kn:=Uc
 wid:=PM
 dec_enc:=P9
 le:=Uj
theorem Lk(ks:List Cond):D.list 7 (xD ks)=enc ks:=by rw[EQ];rfl
theorem IZ(op:Int)(n a v l:B)(f:Bool)(ks:List Cond):enc (Cond.mk op n a v l f ks)= .agg [enc op,enc n,enc a,enc v,enc l,enc f,enc ks]:=by
 rw[<-Lk]
 show I2 _=_
 rw[I2]
structure Pat where
 op:Int
 cond:Cond
 lab:B
 reg:B
 mn:Int
 mx:Int
 kids:List Pat
def zu:Cond->List D
 | .mk op n a v l f ks=>[enc op,enc n,enc a,enc v,enc l,enc f,enc ks]
theorem Jh:∀c:Cond,(zu c).length=7
 | .mk .. =>rfl
mutual
def Gg:Pat->D
 | .mk op c l r mn mx ks=> .agg (enc op::(zu c++ [enc l,enc r,enc mn,enc mx, .list 13 (xy ks)]))
def xy:List Pat->List D
 | []=>[]
 | k::ks=>Gg k::xy ks
end
mutual
def P3:D->Option Pat
 | .agg [x0,y0,y1,y2,y3,y4,y5,y6,x1,x2,x3,x4,x5]=>(dec x0).bind fun op=>(dec (D.agg [y0,y1,y2,y3,y4,y5,y6])).bind fun c=>(dec x1).bind fun l=>(dec x2).bind fun r=>(dec x3).bind fun mn=>(dec x4).bind fun mx=>(FE x5).bind fun ks=>some (.mk op c l r mn mx ks)
 | _=>none
def FE:D->Option (List Pat)
 | .list n es=>if n=13 then zq es else none
 | .v (.slice none 0 0)=>some []
 | _=>none
def zq:List D->Option (List Pat)
 | []=>some []
 | d::ds=>(P3 d).bind fun x=>(zq ds).bind fun xs=>some (x::xs)
end
theorem EO:∀l:List Pat,xy l=l.map Gg
 | []=>rfl
 | _::l=>by rw[xy,EO l];rfl
theorem Ua:∀c:Pat,(Gg c).kn=true
 | .mk .. =>rfl
theorem PK:∀c:Pat,(Gg c).cells.length=13
 | .mk op c l r mn mx ks=>by simp[Gg,D.cells,Jh]
mutual
theorem P2:∀c:Pat,P3 (Gg c)=some c
 | .mk op (.mk cop n a v cl f cks) l r mn mx ks=>by
   have h:FE (.list 13 (xy ks))=some ks:=by rw[FE,if_pos rfl];exact Lo ks
   have hc:dec (D.agg [enc cop,enc n,enc a,enc v,enc cl,enc f,enc cks])=some (Cond.mk cop n a v cl f cks):=by rw[<-IZ];exact Cod.dec_enc _
   simp only[Gg,zu,qtI,qtO,P3,Cod.dec_enc,qtb,h,hc]
theorem Lo:∀l:List Pat,zq (xy l)=some l
 | []=>by simp only[xy,zq]
 | c::l=>by simp only[xy,zq,P2 c,Lo l,qtb]
end
theorem WB{y0 y1 y2 y3 y4 y5 y6:D}{c:Cond}(h:dec (D.agg [y0,y1,y2,y3,y4,y5,y6])=some c):LeL [y0,y1,y2,y3,y4,y5,y6] (zu c):=by
 have h':Kq (D.agg [y0,y1,y2,y3,y4,y5,y6])=some c:=h
 simp only[Kq,qsR,qs6]at h'
 obtain⟨op,h0,n,h1,a,h2,v,h3,l,h4,f,h5,ks,h6,rfl⟩:=h'
 have hk:=Uh y6 ks h6
 rw[Lk]at hk
 exact .cons (Cod.le _ _ h0) (.cons (Cod.le _ _ h1) (.cons (Cod.le _ _ h2) (.cons (Cod.le _ _ h3) (.cons (Cod.le _ _ h4) (.cons (Cod.le _ _ h5) (.cons hk .nil))))))
theorem LeL.append{a b c d:List D}(h:LeL a b)(k:LeL c d):LeL (a++c) (b++d):=by
 refine⟨by simp[h.1,k.1],fun i x y hx hy=>?_⟩
 rw[List.getElem?_append]at hx hy
 by_cases hi:i < a.length
 ·rw[if_pos hi]at hx
  rw[if_pos (by rw[<-h.1];exact hi)]at hy
  exact h.2 i x y hx hy
 ·rw[if_neg hi]at hx
  rw[if_neg (by rw[<-h.1];exact hi),<-h.1]at hy
  exact k.2 _ x y hx hy
mutual
theorem Ug:∀ (d:D) (c:Pat),P3 d=some c->FrzTo bU d (Gg c)
 | .agg [x0,y0,y1,y2,y3,y4,y5,y6,x1,x2,x3,x4,x5],c,h=>by
   simp only[P3,qsR,qs6]at h
   obtain⟨op,h0,c,h1,l,h2,r,h3,mn,h4,mx,h5,ks,h6,rfl⟩:=h
   rw[Gg]
   exact LeL.agg (.cons (Cod.le _ _ h0) ((WB h1).append (.cons (Cod.le _ _ h2) (.cons (Cod.le _ _ h3) (.cons (Cod.le _ _ h4) (.cons (Cod.le _ _ h5) (.cons (ZQ x5 ks h6) .nil)))))))
theorem ZQ:∀ (d:D) (l:List Pat),FE d=some l->FrzTo bU d (.list 13 (xy l))
 | .list n es,l,h=>by
   simp only[FE]at h
   split at h
   ·rename_i hn
    subst hn
    have hl:=P1 es l h
    refine .list hl.1 (fun e he=>?_) hl.2
    rw[EO]at he
    obtain⟨x,hx,rfl⟩:=qs7.1 he
    exact⟨Ua x,PK x⟩
   ·cases h
 | .v (.slice none 0 0),l,h=>by
   simp only[FE,qs6]at h
   subst h
   exact .nil _
theorem P1:∀ (es:List D) (l:List Pat),zq es=some l->LeL es (xy l)
 | [],l,h=>by
   simp only[zq,qs6]at h
   subst h
   exact .nil
 | d::ds,l,h=>by
   simp only[zq,qsR,qs6]at h
   obtain⟨x,h1,xs,h2,rfl⟩:=h
   rw[xy]
   exact .cons (Ug d x h1) (P1 ds xs h2)
end
instance:Cod Pat where
 wd:=13
 enc:=Gg
 dec:=P3
 kn:=Ua
 wid:=PK
 dec_enc:=P2
 le:=Ug
theorem Wx(ks:List Pat):D.list 13 (xy ks)=enc ks:=by rw[EO];rfl
theorem Nk(op:Int)(c:Cond)(l r:B)(mn mx:Int)(ks:List Pat):enc (Pat.mk op c l r mn mx ks)= .agg (enc op::(zu c++ [enc l,enc r,enc mn,enc mx,enc ks])):=by
 rw[<-Wx]
 show Gg _=_
 rw[Gg]
theorem Jd:∀es:List D,zt es=es.mapM (dec (X:=Cond))
 | []=>by simp[zt]
 | d::es=>by
   rw[zt,qtv,Jd es]
   rfl
theorem qcU:∀d:D,P4 d=dec (X:=List Cond) d:=fun d=>by
 unfold P4
 split
 ·rename_i n es
  show _=if n=7 then es.mapM (dec (X:=Cond))else none
  rw[Jd]
 ·rfl
 ·rename_i h1 h2
  show _=(match d with
   | .list n es=>if n=7 then es.mapM (dec (X:=Cond))else none
   | .v (.slice none 0 0)=>some []
   | _=>none)
  split
  ·exact absurd rfl (h1 _ _)
  ·exact absurd rfl h2
  ·rfl
theorem Jb:∀es:List D,zq es=es.mapM (dec (X:=Pat))
 | []=>by simp[zq]
 | d::es=>by
   rw[zq,qtv,Jb es]
   rfl
theorem ZR:∀d:D,FE d=dec (X:=List Pat) d:=fun d=>by
 unfold FE
 split
 ·rename_i n es
  show _=if n=13 then es.mapM (dec (X:=Pat))else none
  rw[Jb]
 ·rfl
 ·rename_i h1 h2
  show _=(match d with
   | .list n es=>if n=13 then es.mapM (dec (X:=Pat))else none
   | .v (.slice none 0 0)=>some []
   | _=>none)
  split
  ·exact absurd rfl (h1 _ _)
  ·exact absurd rfl h2
  ·rfl
@[simp] theorem PB(s:Cond):Cond.mk s.op s.name s.arg s.val s.lab s.fold s.kids=s:=by cases s;rfl
@[simp] theorem ZA(s:Cond):enc s= .agg [enc s.op,enc s.name,enc s.arg,enc s.val,enc s.lab,enc s.fold,enc s.kids]:=by cases s;exact IZ ..
@[simp] theorem qku:Cod.wd Cond=7:=id rfl
@[simp] theorem ZN(x0 x1 x2 x3 x4 x5 x6:D):dec (X:=Cond) (.agg [x0,x1,x2,x3,x4,x5,x6])=((dec x0).bind fun x0=>(dec x1).bind fun x1=>(dec x2).bind fun x2=>(dec x3).bind fun x3=>(dec x4).bind fun x4=>(dec x5).bind fun x5=>(dec x6).bind fun x6=>some ⟨x0,x1,x2,x3,x4,x5,x6⟩):=by
 show Kq _=_
 simp only[Kq,qcU]
@[simp] theorem qmk(s:Pat):Pat.mk s.op s.cond s.lab s.reg s.mn s.mx s.kids=s:=by cases s;rfl
@[simp] theorem Nm(s:Pat):enc s= .agg [enc s.op,enc s.cond.op,enc s.cond.name,enc s.cond.arg,enc s.cond.val,enc s.cond.lab,enc s.cond.fold,enc s.cond.kids,enc s.lab,enc s.reg,enc s.mn,enc s.mx,enc s.kids]:=by
 obtain⟨op,⟨a,b,c,d,e,f,g⟩,l,r,mn,mx,ks⟩:=s
 exact Nk ..
@[simp] theorem qnF:Cod.wd Pat=13:=id rfl
@[simp] theorem qmD(x0 y0 y1 y2 y3 y4 y5 y6 x1 x2 x3 x4 x5:D):dec (X:=Pat) (.agg [x0,y0,y1,y2,y3,y4,y5,y6,x1,x2,x3,x4,x5])=
 ((dec x0).bind fun x0=>(dec y0).bind fun y0=>(dec y1).bind fun y1=>(dec y2).bind fun y2=>(dec y3).bind fun y3=>(dec y4).bind fun y4=>(dec y5).bind fun y5=>(dec y6).bind fun y6=>
   (dec x1).bind fun x1=>(dec x2).bind fun x2=>(dec x3).bind fun x3=>(dec x4).bind fun x4=>(dec x5).bind fun x5=>some ⟨x0,⟨y0,y1,y2,y3,y4,y5,y6⟩,x1,x2,x3,x4,x5⟩):=by
 show P3 _=_
 simp only[P3,ZR,ZN,Option.bind_assoc,qtb]
end Go.Gv

namespace Go.Gv
open Cod (enc dec)
structure U64 where
 val:Int
deriving DecidableEq
instance:Cod U64 where
 wd:=1
 enc n:= .v (.int .u64 n.val)
 dec| .v (.int .u64 n)=>some ⟨n⟩|_=>none
 kn _:=rfl
 wid _:=rfl
 dec_enc _:=rfl
 le d x h:=by
  split at h
  ·cases h;exact .same _
  ·cases h
@[simp] theorem qmm(n:U64):enc n= .v (.int .u64 n.val):=id rfl
@[simp] theorem qnz:Cod.wd U64=1:=id rfl
@[simp] theorem qmw(n:Int):dec (X:=U64) (.v (.int .u64 n))=some ⟨n⟩:=id rfl
@[simp] theorem qmc(n:U64):U64.mk n.val=n:=id rfl
structure Rng where
 fr:I32
 to:I32
deriving DecidableEq
instance:Cod Rng where
 wd:=2
 enc s:= .agg [enc s.fr,enc s.to]
 dec| .agg [x0,x1]=>(dec x0).bind fun x0=>(dec x1).bind fun x1=>some ⟨x0,x1⟩|_=>none
 kn _:=rfl
 wid _:=rfl
 dec_enc s:=by simp
 le d x h:=by
  split at h
  ·simp only[qsR]at h
   obtain⟨x0,h0,x1,h1,h⟩:=h
   cases h
   exact LeL.agg (.cons (Cod.le _ _ h0) (.cons (Cod.le _ _ h1) .nil))
  ·cases h
@[simp] theorem qmg(s:Rng):(Rng.mk s.fr s.to)=s:=id rfl
@[simp] theorem qmr(s:Rng):enc s= .agg [enc s.fr,enc s.to]:=id rfl
@[simp] theorem qnE:Cod.wd Rng=2:=id rfl
@[simp] theorem qmA(x0 x1:D):dec (X:=Rng) (.agg [x0,x1])=((dec x0).bind fun x0=>(dec x1).bind fun x1=>some ⟨x0,x1⟩):=id rfl
structure Rx where
 op:Int
 mn:Int
 mx:Int
 rs:List Rng
 kids:List Rx
mutual
def I0:Rx->D
 | .mk op mn mx rs ks=> .agg [enc op,enc mn,enc mx,enc rs, .list 5 (xx ks)]
def xx:List Rx->List D
 | []=>[]
 | k::ks=>I0 k::xx ks
end
mutual
def P0:D->Option Rx
 | .agg [x0,x1,x2,x3,x4]=>(dec x0).bind fun op=>(dec x1).bind fun mn=>(dec x2).bind fun mx=>(dec x3).bind fun rs=>(FD x4).bind fun ks=>some (.mk op mn mx rs ks)
 | _=>none
def FD:D->Option (List Rx)
 | .list n es=>if n=5 then zo es else none
 | .v (.slice none 0 0)=>some []
 | _=>none
def zo:List D->Option (List Rx)
 | []=>some []
 | d::ds=>(P0 d).bind fun x=>(zo ds).bind fun xs=>some (x::xs)
end
theorem EN:∀l:List Rx,xx l=l.map I0
 | []=>rfl
 | _::l=>by rw[xx,EN l];rfl
theorem T0:∀c:Rx,(I0 c).kn=true
 | .mk .. =>rfl
theorem PJ:∀c:Rx,(I0 c).cells.length=5
 | .mk .. =>rfl
mutual
theorem PZ:∀c:Rx,P0 (I0 c)=some c
 | .mk op mn mx rs ks=>by
   have h:FD (.list 5 (xx ks))=some ks:=by rw[FD,if_pos rfl];exact Ln ks
   simp only[I0,P0,Cod.dec_enc,qtb,h]
theorem Ln:∀l:List Rx,zo (xx l)=some l
 | []=>by simp only[xx,zo]
 | c::l=>by simp only[xx,zo,PZ c,Ln l,qtb]
end
mutual
theorem Uf:∀ (d:D) (c:Rx),P0 d=some c->FrzTo bU d (I0 c)
 | .agg [x0,x1,x2,x3,x4],c,h=>by
   simp only[P0,qsR,qs6]at h
   obtain⟨op,h0,mn,h1,mx,h2,rs,h3,ks,h4,rfl⟩:=h
   rw[I0]
   exact LeL.agg (.cons (Cod.le _ _ h0) (.cons (Cod.le _ _ h1) (.cons (Cod.le _ _ h2) (.cons (Cod.le _ _ h3) (.cons (ZO x4 ks h4) .nil)))))
theorem ZO:∀ (d:D) (l:List Rx),FD d=some l->FrzTo bU d (.list 5 (xx l))
 | .list n es,l,h=>by
   simp only[FD]at h
   split at h
   ·rename_i hn
    subst hn
    have hl:=PY es l h
    refine .list hl.1 (fun e he=>?_) hl.2
    rw[EN]at he
    obtain⟨x,hx,rfl⟩:=qs7.1 he
    exact⟨T0 x,PJ x⟩
   ·cases h
 | .v (.slice none 0 0),l,h=>by
   simp only[FD,qs6]at h
   subst h
   exact .nil _
theorem PY:∀ (es:List D) (l:List Rx),zo es=some l->LeL es (xx l)
 | [],l,h=>by
   simp only[zo,qs6]at h
   subst h
   exact .nil
 | d::ds,l,h=>by
   simp only[zo,qsR,qs6]at h
   obtain⟨x,h1,xs,h2,rfl⟩:=h
   rw[xx]
   exact .cons (Uf d x h1) (PY ds xs h2)
end
instance:Cod Rx where
 wd:=5
 enc:=I0
 dec:=P0
 kn:=T0
 wid:=PJ
 dec_enc:=PZ
 le:=Uf
theorem Ww(ks:List Rx):D.list 5 (xx ks)=enc ks:=by rw[EN];rfl
theorem Zx(op mn mx:Int)(rs:List Rng)(ks:List Rx):enc (Rx.mk op mn mx rs ks)= .agg [enc op,enc mn,enc mx,enc rs,enc ks]:=by
 rw[<-Ww]
 show I0 _=_
 rw[I0]
theorem Ja:∀es:List D,zo es=es.mapM (dec (X:=Rx))
 | []=>by simp[zo]
 | d::es=>by
   rw[zo,qtv,Ja es]
   rfl
theorem ZP:∀d:D,FD d=dec (X:=List Rx) d:=fun d=>by
 unfold FD
 split
 ·rename_i n es
  show _=if n=5 then es.mapM (dec (X:=Rx))else none
  rw[Ja]
 ·rfl
 ·rename_i h1 h2
  show _=(match d with
   | .list n es=>if n=5 then es.mapM (dec (X:=Rx))else none
   | .v (.slice none 0 0)=>some []
   | _=>none)
  split
  ·exact absurd rfl (h1 _ _)
  ·exact absurd rfl h2
  ·rfl
@[simp] theorem qpq(s:Rx):Rx.mk s.op s.mn s.mx s.rs s.kids=s:=by cases s;rfl
@[simp] theorem qpx(s:Rx):enc s= .agg [enc s.op,enc s.mn,enc s.mx,enc s.rs,enc s.kids]:=by cases s;exact Zx ..
@[simp] theorem qqO:Cod.wd Rx=5:=id rfl
@[simp] theorem qpF(x0 x1 x2 x3 x4:D):dec (X:=Rx) (.agg [x0,x1,x2,x3,x4])=((dec x0).bind fun x0=>(dec x1).bind fun x1=>(dec x2).bind fun x2=>(dec x3).bind fun x3=>(dec x4).bind fun x4=>some ⟨x0,x1,x2,x3,x4⟩):=by
 show P0 _=_
 simp only[P0,ZP]
end Go.Gv

namespace Go.Gv
open Cod (enc dec)
structure Rp where
 s:B
 pos:Int
 fault:Int
 e:Int
def Rp.bump(p:Rp):Rp:={ p with pos:=p.pos+1 }
def Jo(p:Rp):Option Int:=
 if 200 < p.s.size then none else
 if p.pos=p.s.size then some (-1)else
 if 0<=p.pos then match p.s.data[p.pos.toNat]? with
  | some c=>if c.toNat < 128 then some c.toNat else none
  | none=>none
 else none
def qct(sp:B)(c:Int):Bool:=sp.data.toList.any fun x=>decide ((x.toNat:Int)=c)
def km(p:Rp)(_:Unit):Option (Rp×I32):=(Jo p).map fun c=>(p,⟨c⟩)
def KL(p:Rp)(_:Unit):Option (Rp×Unit):=(Jo p).bind fun c=>if 0<=c then some (p.bump,())else none
def AC(p:Rp)(_:B):Option (Rp× (I32×Bool)):=(Jo p).bind fun c=>if c < 0\/c=92 then none else some (p.bump,⟨c⟩,true)
def Up:B:=⟨#[92,91,93,94,45]⟩
def O6(p:Rp)(_:Unit):Option (Rp× (I32×Bool)):=(Jo p).bind fun c=>if c < 0\/qct Up c=true then none else AC p Up
def XO(fr to:Int):Rx:=⟨1,0,0, [⟨⟨fr⟩,⟨to⟩⟩], []⟩
def rc(out:List Rng)(r:Rng):List Rng:=match out.getLast? with
 | some q=>if r.fr.val<=q.to.val+1 then out.dropLast++ [⟨q.fr,⟨max q.to.val r.to.val⟩⟩]else out++ [r]
 | none=>[r]
def D4(l:List Rng):Bool:=match l with
 | [x]=>decide (0<=x.fr.val/\x.fr.val<=1114111/\0<=x.to.val/\x.to.val<=1114111)
 | [x,y]=>decide (0<=x.fr.val/\x.fr.val<=1114111/\0<=x.to.val/\x.to.val<=1114111/\0<=y.fr.val/\y.fr.val<=1114111/\0<=y.to.val/\y.to.val<=1114111/\x.fr.val<=y.fr.val)
 | _=>false
def C8(l:List Rng):List Rng:=l.foldl rc []
def Z2:Nat->Rp->List Rng->Option (Rp×List Rng)
 | 0,_,_=>none
 | n+1,p,l=>(Jo p).bind fun c=>if l≠ []/\c=93 then some (p,l)else
   (O6 p ()).bind fun q=>(Jo q.1).bind fun d=>if d=45 then none else Z2 n q.1 (l++ [⟨q.2.1,q.2.1⟩])
def qcZ(p:Rp)(_:Unit):Option (Rp× (Rx×Bool)):=(Jo p).bind fun a=>if a≠91 then none else(Jo p.bump).bind fun c=>if c=94 then none else
 (Z2 100 p.bump []).bind fun q=>if D4 q.2=true then some (q.1.bump,⟨1,0,0,C8 q.2, []⟩,true)else none
def qif:B:=⟨#[92,46,91,93,40,41,123,125,124,42,43,63]⟩
def Uv(p:Rp)(_:Unit):Option (Rp× (Rx×Bool)):=(Jo p).bind fun c=>
 if c=40 then none else if c=46 then some (p.bump,XO 0 1114111,true)else if c=91 then qcZ p ()else
 if c≠92/\qct qif c=true then none else(AC p qif).map fun q=>(q.1,XO q.2.1.val q.2.1.val,q.2.2)
def J4(c:Int):Option (Int×Int):=if c=42 then some (0, -1)else if c=43 then some (1, -1)else if c=63 then some (0,1)else none
def X5(p:Rp)(_:Unit):Option (Rp× (Rx×Bool)):=(Uv p ()).bind fun q=>if q.2.2=true then(Jo q.1).bind fun c=>if c=123 then none else match J4 c with
 | some m=>(Jo q.1.bump).bind fun d=>if d=123\/(J4 d).isSome=true then none else some (q.1.bump,⟨4,m.1,m.2, [], [q.2.1]⟩,true)
 | none=>some (q.1,q.2.1,true)
 else none
def Qf:Nat->Rp->List Rx->Option (Rp×List Rx)
 | 0,_,_=>none
 | n+1,p,l=>(Jo p).bind fun c=>if c < 0\/c=124\/c=41 then some (p,l)else
   (X5 p ()).bind fun q=>if q.2.1.op=2 then none else Qf n q.1 (l++ [q.2.1])
def Sc(op:Int):List Rx->Rx
 | [e]=>e
 | l=>⟨op,0,0, [],l⟩
def Z6(p:Rp)(_:Unit):Option (Rp× (Rx×Bool)):=(Qf 100 p []).map fun q=>(q.1,Sc 2 q.2,true)
def Xr:Nat->Rp->List Rx->Option (Rp×List Rx)
 | 0,_,_=>none
 | n+1,p,l=>(Z6 p ()).bind fun q=>(Jo q.1).bind fun c=>
   if q.2.1.op=3 then none else if c=124 then Xr n q.1.bump (l++ [q.2.1])else some (q.1,l++ [q.2.1])
def qbu(p:Rp)(_:Unit):Option (Rp× (Rx×Bool)):=(Xr 100 p []).map fun q=>(q.1,Sc 3 q.2,true)
end Go.Gv

namespace Go.Gv
open Cod (enc dec)
def qh9(f:Rx->Int->Int->Option (Bool×Int))(d:Int):List Rx->Int->Option (Bool×Int)
 | [],k=>some (true,k)
 | x::l,k=>(f x (d+1) k).bind fun r=>if r.1=true then qh9 f d l r.2 else some (false,r.2)
def qe:Nat->Rx->Int->Int->Option (Bool×Int)
 | 0=>fun _ _ _=>none
 | n+1=>fun x d k=>if d < 0\/1000 < d\/k < 0\/1000 < k then none else if 40 < d\/200 < k+1 then some (false,k+1)else qh9 (qe n) d x.kids (k+1)
def TA(l:List Rng):Bool:=match l with
 | [r]=>decide (0<=r.fr.val/\r.fr.val<=r.to.val/\r.to.val<=1114111)
 | _=>false
def qiv(x:Rx):Bool:=
 if x.op=1 then decide (x.mn=0/\x.mx=0) && x.kids.isEmpty && TA x.rs else
 if x.op=2 then decide (x.mn=0/\x.mx=0) && x.rs.isEmpty && decide (x.kids.length≠1/\x.kids.length<=300) && x.kids.all fun k=>decide (k.op≠2)else
 if x.op=3 then decide (x.mn=0/\x.mx=0) && x.rs.isEmpty && decide (1 < x.kids.length/\x.kids.length<=300) && x.kids.all fun k=>decide (k.op≠3)else
 if x.op=4 then decide (0<=x.mn/\x.mn<=16/\(x.mx= -1\/x.mn<=x.mx/\x.mx<=16)) && x.rs.isEmpty && decide (x.kids.length=1)else false
def Vy:Nat->Rx->Bool
 | 0=>fun _=>false
 | n+1=>fun x=>qiv x && x.kids.all (Vy n)
def qin(f:Rx->Option Int):List Rx->Int->Option Int
 | [],k=>some k
 | x::l,k=>(f x).bind fun y=>if k < 0\/1000 < k\/y < 0\/1000 < y then none else qin f l (min (k+y) 65)
def qip(x:Rx)(m:Int):Option Int:=
 if x.mx= -1 then(if -1000000<=m*max x.mn 1/\m*max x.mn 1<=1000000 then some (min (m*max x.mn 1) 65)else none)
 else if -1000000<=m*x.mx/\m*x.mx<=1000000 then some (min (m*x.mx) 65)else none
def H3:Nat->Rx->Option Int
 | 0=>fun _=>none
 | n+1=>fun x=>if x.op=1 then some 1 else(qin (H3 n) x.kids 0).bind fun m=>if x.op≠4 then some m else qip x m
def AP(n:Nat)(x:Rx):Bool:=(match qe n x 1 0 with|some r=>r.1|none=>false) && Vy n x && (match H3 n x with|some m=>decide (m<=64)|none=>false)
def uO(s:B):Bool:=s.data.toList.all fun c=>decide (c.toNat < 128)
def qv(s:B):Option Rx:=if s.size<=200/\uO s=true then(qbu ⟨s,0,0,0⟩ ()).bind fun q=>if q.2.2=true/\q.1.pos=s.size/\AP 50 q.2.1=true then some q.2.1 else none else none
end Go.Gv

namespace Go.Gv
open Cod (enc dec)
structure Prt where
 first:U64
 last:U64
 nul:Bool
deriving DecidableEq
instance:Cod Prt where
 wd:=3
 enc s:= .agg [enc s.first,enc s.last,enc s.nul]
 dec| .agg [x0,x1,x2]=>(dec x0).bind fun x0=>(dec x1).bind fun x1=>(dec x2).bind fun x2=>some ⟨x0,x1,x2⟩|_=>none
 kn _:=rfl
 wid _:=rfl
 dec_enc s:=by simp
 le d x h:=by
  split at h
  ·simp only[qsR]at h
   obtain⟨x0,h0,x1,h1,x2,h2,h⟩:=h
   cases h
   exact LeL.agg (.cons (Cod.le _ _ h0) (.cons (Cod.le _ _ h1) (.cons (Cod.le _ _ h2) .nil)))
  ·cases h
@[simp] theorem qmj(s:Prt):(Prt.mk s.first s.last s.nul)=s:=id rfl
@[simp] theorem qmt(s:Prt):enc s= .agg [enc s.first,enc s.last,enc s.nul]:=id rfl
@[simp] theorem qmC(x0 x1 x2:D):dec (X:=Prt) (.agg [x0,x1,x2])=((dec x0).bind fun x0=>(dec x1).bind fun x1=>(dec x2).bind fun x2=>some ⟨x0,x1,x2⟩):=id rfl
structure Tbk where
 lvs:List (List Rng)
 fi:U64
 la:U64
 fol:List U64
 nul:Bool
def WM(m:U64)(i:Nat):Bool:=decide (SX .u64 (XM .u64 m.val i) 1=1)
def qbR(a b:U64):U64:=⟨qis .u64 a.val b.val⟩
def TG(fr to:U64):Nat->List U64->List U64
 | _, []=>[]
 | i,f::l=>(if WM fr i=true then qbR f to else f)::TG fr to (i+1) l
def Db(t:Tbk)(z:U64×U64):Option (Tbk×Unit):=if t.fol.length<=100000 then some ({ t with fol:=TG z.1 z.2 0 t.fol },())else none
def qiV(a b:Prt):Prt:=⟨if a.nul=true then qbR a.first b.first else a.first,if b.nul=true then qbR b.last a.last else b.last,a.nul && b.nul⟩
def xF(t:Tbk)(z:Prt×Prt):Option (Tbk×Prt):=(Db t (z.1.last,z.2.first)).map fun q=>(q.1,qiV z.1 z.2)
def Bu:Prt:=⟨⟨0⟩,⟨0⟩,true⟩
def qoj:Prt:=⟨⟨0⟩,⟨0⟩,false⟩
def qjB(f:Tbk->Rx->Option (Tbk×Prt)):List Rx->Tbk->Prt->Option (Tbk×Prt)
 | [],t,p=>some (t,p)
 | x::l,t,p=>(f t x).bind fun q=>(xF q.1 (p,q.2)).bind fun r=>qjB f l r.1 r.2
def WU(f:Tbk->Rx->Option (Tbk×Prt)):List Rx->Tbk->Prt->Option (Tbk×Prt)
 | [],t,p=>some (t,p)
 | x::l,t,p=>(f t x).bind fun q=>WU f l q.1 ⟨qbR p.first q.2.first,qbR p.last q.2.last,p.nul||q.2.nul⟩
def MW(t:Tbk):Bool:=decide (t.lvs.length<=1000/\t.fol.length<=1000)
def qgm(b r:Tbk->Rx->Option (Tbk×Prt))(t:Tbk)(x:Rx):Option (Tbk×Prt):=
 if MW t=false\/1000 < x.kids.length then none else
 if x.op=1 then some ({ t with lvs:=t.lvs++ [x.rs],fol:=t.fol++ [⟨0⟩] },⟨⟨OE .u64 1 t.lvs.length⟩,⟨OE .u64 1 t.lvs.length⟩,false⟩)else
 if x.op=2 then qjB b x.kids t Bu else
 if x.op=3 then WU b x.kids t qoj else r t x
def qig(b:Tbk->Rx->Option (Tbk×Prt))(y:Rx)(mx:Int):Nat->Tbk->Prt->Option (Tbk×Prt×Bool)
 | 0,t,p=>some (t,p,false)
 | k+1,t,p=>if MW t=false then none else(b t y).bind fun q=>if MW q.1=false then none else
   if q.1.lvs.length=t.lvs.length then some (q.1,Bu,true)else
   (if mx < 0/\k=0 then Db q.1 (q.2.last,q.2.first)else some (q.1,())).bind fun l=>(xF l.1 (p,q.2)).bind fun r=>qig b y mx k r.1 r.2
def X6(b:Tbk->Rx->Option (Tbk×Prt))(o:Tbk->Rx×Int->Option (Tbk×Prt))(t:Tbk)(x:Rx):Option (Tbk×Prt):=match x.kids with
 | []=>none
 | y::_=>if x.mn < 0\/100 < x.mn\/x.mx < -1\/100 < x.mx then none else
   (qig b y x.mx x.mn.toNat t Bu).bind fun q=>if q.2.2=true then some (q.1,Bu)else
   if x.mx < 0/\x.mn=0 then(b q.1 y).bind fun r=>(Db r.1 (r.2.last,r.2.first)).map fun l=>(l.1, { r.2 with nul:=true })else
   if x.mn < x.mx then(o q.1 (y,x.mx -x.mn)).bind fun r=>xF r.1 (q.2.1,r.2)else some (q.1,q.2.1)
def qfb(b:Tbk->Rx->Option (Tbk×Prt))(o:Tbk->Rx×Int->Option (Tbk×Prt))(t:Tbk)(z:Rx×Int):Option (Tbk×Prt):=
 if z.2 < 0\/100 < z.2\/MW t=false then none else
 if z.2=0 then some (t,Bu)else
 (b t z.1).bind fun q=>if MW q.1=false then none else
 if q.1.lvs.length=t.lvs.length then some (q.1,Bu)else
 (o q.1 (z.1,z.2 -1)).bind fun r=>(xF r.1 (q.2,r.2)).map fun l=>(l.1, { l.2 with nul:=true })
structure qsO where
 b:Tbk->Rx->Option (Tbk×Prt)
 r:Tbk->Rx->Option (Tbk×Prt)
 o:Tbk->Rx×Int->Option (Tbk×Prt)
def BR:Nat->qsO
 | 0=>⟨fun _ _=>none,fun _ _=>none,fun _ _=>none⟩
 | n+1=>⟨qgm (BR n).b (BR n).r,X6 (BR n).b (BR n).o,qfb (BR n).b (BR n).o⟩
def qsh:Tbk:=⟨[],⟨0⟩,⟨0⟩, [],false⟩
def qbx(n:Nat)(x:Rx):Option Tbk:=((BR n).b qsh x).map fun q=>{ q.1 with fi:=q.2.first,la:=q.2.last,nul:=q.2.nul }
def qdH(set:U64):Nat->List U64->U64->U64
 | _, [],m=>m
 | i,f::l,m=>qdH set (i+1) l (if WM set i=true then qbR m f else m)
def za(t:Tbk)(set:U64)(beg:Bool):U64:=if beg=true then t.fi else qdH set 0 t.fol ⟨0⟩
end Go.Gv
