/- A part of the framework and of the walks: V2 V50 V51 V52 V53. -/
import Derived.Test.YtphdikcommfnhaaGreatDoorGg19
set_option linter.unusedSimpArgs false
set_option linter.unusedVariables false
set_option linter.unusedSectionVars false

namespace Go.Gv
open Cod (enc dec)
structure Cond where
 op:Int
 name:B
 arg:B
 val:B
 lab:B
 fold:Bool
 kids:List Cond
mutual
def Iu:Cond->D
 | .mk op n a v l f ks=> .agg [enc op,enc n,enc a,enc v,enc l,enc f, .list 7 (xg ks)]
def xg:List Cond->List D
 | []=>[]
 | k::ks=>Iu k::xg ks
end
mutual
def JV:D->Option Cond
 | .agg [x0,x1,x2,x3,x4,x5,x6]=>(dec x0).bind fun op=>(dec x1).bind fun n=>(dec x2).bind fun a=>(dec x3).bind fun v=>(dec x4).bind fun l=>(dec x5).bind fun f=>(PW x6).bind fun ks=>some (.mk op n a v l f ks)
 | _=>none
def PW:D->Option (List Cond)
 | .list n es=>if n=7 then zd es else none
 | .v (.slice none 0 0)=>some []
 | _=>none
def zd:List D->Option (List Cond)
 | []=>some []
 | d::ds=>(JV d).bind fun x=>(zd ds).bind fun xs=>some (x::xs)
end
theorem Et:∀l:List Cond,xg l=l.map Iu
 | []=>rfl
 | _::l=>by rw[xg,Et l];rfl
theorem TS:∀c:Cond,(Iu c).kn=true
 | .mk .. =>rfl
theorem PB:∀c:Cond,(Iu c).cells.length=7
 | .mk .. =>rfl
mutual
theorem P1:∀c:Cond,JV (Iu c)=some c
 | .mk op n a v l f ks=>by
   have h:PW (.list 7 (xg ks))=some ks:=by rw[PW,if_pos rfl];exact Le ks
   simp only[Iu,JV,Cod.dec_enc,qtY,h]
theorem Le:∀l:List Cond,zd (xg l)=some l
 | []=>by simp only[xg,zd]
 | c::l=>by simp only[xg,zd,P1 c,Le l,qtY]
end
mutual
theorem TZ:∀ (d:D) (c:Cond),JV d=some c->FrzTo bB d (Iu c)
 | .agg [x0,x1,x2,x3,x4,x5,x6],c,h=>by
   simp only[JV,qtE,qtT]at h
   obtain⟨op,h0,n,h1,a,h2,v,h3,l,h4,f,h5,ks,h6,rfl⟩:=h
   rw[Iu]
   exact LeL.agg (.cons (Cod.le _ _ h0) (.cons (Cod.le _ _ h1) (.cons (Cod.le _ _ h2) (.cons (Cod.le _ _ h3) (.cons (Cod.le _ _ h4) (.cons (Cod.le _ _ h5) (.cons (TX x6 ks h6) .nil)))))))
theorem TX:∀ (d:D) (l:List Cond),PW d=some l->FrzTo bB d (.list 7 (xg l))
 | .list n es,l,h=>by
   simp only[PW]at h
   split at h
   ·rename_i hn
    subst hn
    have hl:=P0 es l h
    refine .list hl.1 (fun e he=>?_) hl.2
    rw[Et]at he
    obtain⟨x,hx,rfl⟩:=qtU.1 he
    exact⟨TS x,PB x⟩
   ·cases h
 | .v (.slice none 0 0),l,h=>by
   simp only[PW,qtT]at h
   subst h
   exact .nil _
theorem P0:∀ (es:List D) (l:List Cond),zd es=some l->LeL es (xg l)
 | [],l,h=>by
   simp only[zd,qtT]at h
   subst h
   exact .nil
 | d::ds,l,h=>by
   simp only[zd,qtE,qtT]at h
   obtain⟨x,h1,xs,h2,rfl⟩:=h
   rw[xg]
   exact .cons (TZ d x h1) (P0 ds xs h2)
end
instance:Cod Cond where
 wd:=7
 enc:=Iu
 dec:=JV
 kn:=TS
 wid:=PB
 dec_enc:=P1
 le:=TZ
theorem K7(ks:List Cond):D.list 7 (xg ks)=enc ks:=by rw[Et];rfl
theorem Ir(op:Int)(n a v l:B)(f:Bool)(ks:List Cond):enc (Cond.mk op n a v l f ks)= .agg [enc op,enc n,enc a,enc v,enc l,enc f,enc ks]:=by
 rw[<-K7]
 show Iu _=_
 rw[Iu]
structure Pat where
 op:Int
 cond:Cond
 lab:B
 reg:B
 mn:Int
 mx:Int
 kids:List Pat
def zg:Cond->List D
 | .mk op n a v l f ks=>[enc op,enc n,enc a,enc v,enc l,enc f,enc ks]
theorem IG:∀c:Cond,(zg c).length=7
 | .mk .. =>rfl
mutual
def FW:Pat->D
 | .mk op c l r mn mx ks=> .agg (enc op::(zg c++ [enc l,enc r,enc mn,enc mx, .list 13 (xe ks)]))
def xe:List Pat->List D
 | []=>[]
 | k::ks=>FW k::xe ks
end
mutual
def PV:D->Option Pat
 | .agg [x0,y0,y1,y2,y3,y4,y5,y6,x1,x2,x3,x4,x5]=>(dec x0).bind fun op=>(dec (D.agg [y0,y1,y2,y3,y4,y5,y6])).bind fun c=>(dec x1).bind fun l=>(dec x2).bind fun r=>(dec x3).bind fun mn=>(dec x4).bind fun mx=>(Fi x5).bind fun ks=>some (.mk op c l r mn mx ks)
 | _=>none
def Fi:D->Option (List Pat)
 | .list n es=>if n=13 then yZ es else none
 | .v (.slice none 0 0)=>some []
 | _=>none
def yZ:List D->Option (List Pat)
 | []=>some []
 | d::ds=>(PV d).bind fun x=>(yZ ds).bind fun xs=>some (x::xs)
end
theorem Er:∀l:List Pat,xe l=l.map FW
 | []=>rfl
 | _::l=>by rw[xe,Er l];rfl
theorem TQ:∀c:Pat,(FW c).kn=true
 | .mk .. =>rfl
theorem Pz:∀c:Pat,(FW c).cells.length=13
 | .mk op c l r mn mx ks=>by simp[FW,D.cells,IG]
mutual
theorem PU:∀c:Pat,PV (FW c)=some c
 | .mk op (.mk cop n a v cl f cks) l r mn mx ks=>by
   have h:Fi (.list 13 (xe ks))=some ks:=by rw[Fi,if_pos rfl];exact Lc ks
   have hc:dec (D.agg [enc cop,enc n,enc a,enc v,enc cl,enc f,enc cks])=some (Cond.mk cop n a v cl f cks):=by rw[<-Ir];exact Cod.dec_enc _
   simp only[FW,zg,quv,quD,PV,Cod.dec_enc,qtY,h,hc]
theorem Lc:∀l:List Pat,yZ (xe l)=some l
 | []=>by simp only[xe,yZ]
 | c::l=>by simp only[xe,yZ,PU c,Lc l,qtY]
end
theorem Wx{y0 y1 y2 y3 y4 y5 y6:D}{c:Cond}(h:dec (D.agg [y0,y1,y2,y3,y4,y5,y6])=some c):LeL [y0,y1,y2,y3,y4,y5,y6] (zg c):=by
 have h':JV (D.agg [y0,y1,y2,y3,y4,y5,y6])=some c:=h
 simp only[JV,qtE,qtT]at h'
 obtain⟨op,h0,n,h1,a,h2,v,h3,l,h4,f,h5,ks,h6,rfl⟩:=h'
 have hk:=TX y6 ks h6
 rw[K7]at hk
 exact .cons (Cod.le _ _ h0) (.cons (Cod.le _ _ h1) (.cons (Cod.le _ _ h2) (.cons (Cod.le _ _ h3) (.cons (Cod.le _ _ h4) (.cons (Cod.le _ _ h5) (.cons hk .nil))))))
theorem LeL.append{a b c d:List D}(h:LeL a b)(k:LeL c d):LeL (a++c) (b++d):=by
 refine⟨by simp[h.1,k.1],fun i x y hx hy=>?_⟩
 rw[List.getElem?_append]at hx hy
 by_cases hi:i < a.length
 ·rw[if_pos hi]at hx
  rw[if_pos (by rw[<-h.1];exact hi)]at hy
  exact h.2 i x y hx hy
 ·rw[if_neg hi]at hx
  rw[if_neg (by rw[<-h.1];exact hi),<-h.1]at hy
  exact k.2 _ x y hx hy
mutual
theorem TW:∀ (d:D) (c:Pat),PV d=some c->FrzTo bB d (FW c)
 | .agg [x0,y0,y1,y2,y3,y4,y5,y6,x1,x2,x3,x4,x5],c,h=>by
   simp only[PV,qtE,qtT]at h
   obtain⟨op,h0,c,h1,l,h2,r,h3,mn,h4,mx,h5,ks,h6,rfl⟩:=h
   rw[FW]
   exact LeL.agg (.cons (Cod.le _ _ h0) ((Wx h1).append (.cons (Cod.le _ _ h2) (.cons (Cod.le _ _ h3) (.cons (Cod.le _ _ h4) (.cons (Cod.le _ _ h5) (.cons (qaf x5 ks h6) .nil)))))))
theorem qaf:∀ (d:D) (l:List Pat),Fi d=some l->FrzTo bB d (.list 13 (xe l))
 | .list n es,l,h=>by
   simp only[Fi]at h
   split at h
   ·rename_i hn
    subst hn
    have hl:=PS es l h
    refine .list hl.1 (fun e he=>?_) hl.2
    rw[Er]at he
    obtain⟨x,hx,rfl⟩:=qtU.1 he
    exact⟨TQ x,Pz x⟩
   ·cases h
 | .v (.slice none 0 0),l,h=>by
   simp only[Fi,qtT]at h
   subst h
   exact .nil _
theorem PS:∀ (es:List D) (l:List Pat),yZ es=some l->LeL es (xe l)
 | [],l,h=>by
   simp only[yZ,qtT]at h
   subst h
   exact .nil
 | d::ds,l,h=>by
   simp only[yZ,qtE,qtT]at h
   obtain⟨x,h1,xs,h2,rfl⟩:=h
   rw[xe]
   exact .cons (TW d x h1) (PS ds xs h2)
end
instance:Cod Pat where
 wd:=13
 enc:=FW
 dec:=PV
 kn:=TQ
 wid:=Pz
 dec_enc:=PU
 le:=TW
theorem Wt(ks:List Pat):D.list 13 (xe ks)=enc ks:=by rw[Er];rfl
theorem MZ(op:Int)(c:Cond)(l r:B)(mn mx:Int)(ks:List Pat):enc (Pat.mk op c l r mn mx ks)= .agg (enc op::(zg c++ [enc l,enc r,enc mn,enc mx,enc ks])):=by
 rw[<-Wt]
 show FW _=_
 rw[FW]
theorem IC:∀es:List D,zd es=es.mapM (dec (X:=Cond))
 | []=>by simp[zd]
 | d::es=>by
   rw[zd,qui,IC es]
   rfl
theorem qds:∀d:D,PW d=dec (X:=List Cond) d:=fun d=>by
 unfold PW
 split
 ·rename_i n es
  show _=if n=7 then es.mapM (dec (X:=Cond))else none
  rw[IC]
 ·rfl
 ·rename_i h1 h2
  show _=(match d with
   | .list n es=>if n=7 then es.mapM (dec (X:=Cond))else none
   | .v (.slice none 0 0)=>some []
   | _=>none)
  split
  ·exact absurd rfl (h1 _ _)
  ·exact absurd rfl h2
  ·rfl
theorem IA:∀es:List D,yZ es=es.mapM (dec (X:=Pat))
 | []=>by simp[yZ]
 | d::es=>by
   rw[yZ,qui,IA es]
   rfl
theorem qag:∀d:D,Fi d=dec (X:=List Pat) d:=fun d=>by
 unfold Fi
 split
 ·rename_i n es
  show _=if n=13 then es.mapM (dec (X:=Pat))else none
  rw[IA]
 ·rfl
 ·rename_i h1 h2
  show _=(match d with
   | .list n es=>if n=13 then es.mapM (dec (X:=Pat))else none
   | .v (.slice none 0 0)=>some []
   | _=>none)
  split
  ·exact absurd rfl (h1 _ _)
  ·exact absurd rfl h2
  ·rfl
@[simp] theorem Pt(s:Cond):Cond.mk s.op s.name s.arg s.val s.lab s.fold s.kids=s:=by cases s;rfl
@[simp] theorem ZY(s:Cond):enc s= .agg [enc s.op,enc s.name,enc s.arg,enc s.val,enc s.lab,enc s.fold,enc s.kids]:=by cases s;exact Ir ..
@[simp] theorem qlh:Cod.wd Cond=7:=id rfl
@[simp] theorem qac(x0 x1 x2 x3 x4 x5 x6:D):dec (X:=Cond) (.agg [x0,x1,x2,x3,x4,x5,x6])=((dec x0).bind fun x0=>(dec x1).bind fun x1=>(dec x2).bind fun x2=>(dec x3).bind fun x3=>(dec x4).bind fun x4=>(dec x5).bind fun x5=>(dec x6).bind fun x6=>some ⟨x0,x1,x2,x3,x4,x5,x6⟩):=by
 show JV _=_
 simp only[JV,qds]
@[simp] theorem qm6(s:Pat):Pat.mk s.op s.cond s.lab s.reg s.mn s.mx s.kids=s:=by cases s;rfl
@[simp] theorem M1(s:Pat):enc s= .agg [enc s.op,enc s.cond.op,enc s.cond.name,enc s.cond.arg,enc s.cond.val,enc s.cond.lab,enc s.cond.fold,enc s.cond.kids,enc s.lab,enc s.reg,enc s.mn,enc s.mx,enc s.kids]:=by
 obtain⟨op,⟨a,b,c,d,e,f,g⟩,l,r,mn,mx,ks⟩:=s
 exact MZ ..
@[simp] theorem qos:Cod.wd Pat=13:=id rfl
@[simp] theorem qnp(x0 y0 y1 y2 y3 y4 y5 y6 x1 x2 x3 x4 x5:D):dec (X:=Pat) (.agg [x0,y0,y1,y2,y3,y4,y5,y6,x1,x2,x3,x4,x5])=
 ((dec x0).bind fun x0=>(dec y0).bind fun y0=>(dec y1).bind fun y1=>(dec y2).bind fun y2=>(dec y3).bind fun y3=>(dec y4).bind fun y4=>(dec y5).bind fun y5=>(dec y6).bind fun y6=>
   (dec x1).bind fun x1=>(dec x2).bind fun x2=>(dec x3).bind fun x3=>(dec x4).bind fun x4=>(dec x5).bind fun x5=>some ⟨x0,⟨y0,y1,y2,y3,y4,y5,y6⟩,x1,x2,x3,x4,x5⟩):=by
 show PV _=_
 simp only[PV,qag,qac,Option.bind_assoc,qtY]
end Go.Gv

namespace Go.Gv
open Cod (enc dec)
structure U64 where
 val:Int
deriving DecidableEq
instance:Cod U64 where
 wd:=1
 enc n:= .v (.int .u64 n.val)
 dec| .v (.int .u64 n)=>some ⟨n⟩|_=>none
 kn _:=rfl
 wid _:=rfl
 dec_enc _:=rfl
 le d x h:=by
  split at h
  ·cases h;exact .same _
  ·cases h
@[simp] theorem qm8(n:U64):enc n= .v (.int .u64 n.val):=id rfl
@[simp] theorem qom:Cod.wd U64=1:=id rfl
@[simp] theorem qni(n:Int):dec (X:=U64) (.v (.int .u64 n))=some ⟨n⟩:=id rfl
@[simp] theorem qmY(n:U64):U64.mk n.val=n:=id rfl
structure Rng where
 fr:I32
 to:I32
deriving DecidableEq
instance:Cod Rng where
 wd:=2
 enc s:= .agg [enc s.fr,enc s.to]
 dec| .agg [x0,x1]=>(dec x0).bind fun x0=>(dec x1).bind fun x1=>some ⟨x0,x1⟩|_=>none
 kn _:=rfl
 wid _:=rfl
 dec_enc s:=by simp
 le d x h:=by
  split at h
  ·simp only[qtE]at h
   obtain⟨x0,h0,x1,h1,h⟩:=h
   cases h
   exact LeL.agg (.cons (Cod.le _ _ h0) (.cons (Cod.le _ _ h1) .nil))
  ·cases h
@[simp] theorem qm2(s:Rng):(Rng.mk s.fr s.to)=s:=id rfl
@[simp] theorem qnd(s:Rng):enc s= .agg [enc s.fr,enc s.to]:=id rfl
@[simp] theorem qor:Cod.wd Rng=2:=id rfl
@[simp] theorem qnm(x0 x1:D):dec (X:=Rng) (.agg [x0,x1])=((dec x0).bind fun x0=>(dec x1).bind fun x1=>some ⟨x0,x1⟩):=id rfl
structure Rx where
 op:Int
 mn:Int
 mx:Int
 rs:List Rng
 kids:List Rx
mutual
def Is:Rx->D
 | .mk op mn mx rs ks=> .agg [enc op,enc mn,enc mx,enc rs, .list 5 (xc ks)]
def xc:List Rx->List D
 | []=>[]
 | k::ks=>Is k::xc ks
end
mutual
def PR:D->Option Rx
 | .agg [x0,x1,x2,x3,x4]=>(dec x0).bind fun op=>(dec x1).bind fun mn=>(dec x2).bind fun mx=>(dec x3).bind fun rs=>(Fh x4).bind fun ks=>some (.mk op mn mx rs ks)
 | _=>none
def Fh:D->Option (List Rx)
 | .list n es=>if n=5 then yY es else none
 | .v (.slice none 0 0)=>some []
 | _=>none
def yY:List D->Option (List Rx)
 | []=>some []
 | d::ds=>(PR d).bind fun x=>(yY ds).bind fun xs=>some (x::xs)
end
theorem Ep:∀l:List Rx,xc l=l.map Is
 | []=>rfl
 | _::l=>by rw[xc,Ep l];rfl
theorem TP:∀c:Rx,(Is c).kn=true
 | .mk .. =>rfl
theorem Py:∀c:Rx,(Is c).cells.length=5
 | .mk .. =>rfl
mutual
theorem PQ:∀c:Rx,PR (Is c)=some c
 | .mk op mn mx rs ks=>by
   have h:Fh (.list 5 (xc ks))=some ks:=by rw[Fh,if_pos rfl];exact Lb ks
   simp only[Is,PR,Cod.dec_enc,qtY,h]
theorem Lb:∀l:List Rx,yY (xc l)=some l
 | []=>by simp only[xc,yY]
 | c::l=>by simp only[xc,yY,PQ c,Lb l,qtY]
end
mutual
theorem TV:∀ (d:D) (c:Rx),PR d=some c->FrzTo bB d (Is c)
 | .agg [x0,x1,x2,x3,x4],c,h=>by
   simp only[PR,qtE,qtT]at h
   obtain⟨op,h0,mn,h1,mx,h2,rs,h3,ks,h4,rfl⟩:=h
   rw[Is]
   exact LeL.agg (.cons (Cod.le _ _ h0) (.cons (Cod.le _ _ h1) (.cons (Cod.le _ _ h2) (.cons (Cod.le _ _ h3) (.cons (qad x4 ks h4) .nil)))))
theorem qad:∀ (d:D) (l:List Rx),Fh d=some l->FrzTo bB d (.list 5 (xc l))
 | .list n es,l,h=>by
   simp only[Fh]at h
   split at h
   ·rename_i hn
    subst hn
    have hl:=PP es l h
    refine .list hl.1 (fun e he=>?_) hl.2
    rw[Ep]at he
    obtain⟨x,hx,rfl⟩:=qtU.1 he
    exact⟨TP x,Py x⟩
   ·cases h
 | .v (.slice none 0 0),l,h=>by
   simp only[Fh,qtT]at h
   subst h
   exact .nil _
theorem PP:∀ (es:List D) (l:List Rx),yY es=some l->LeL es (xc l)
 | [],l,h=>by
   simp only[yY,qtT]at h
   subst h
   exact .nil
 | d::ds,l,h=>by
   simp only[yY,qtE,qtT]at h
   obtain⟨x,h1,xs,h2,rfl⟩:=h
   rw[xc]
   exact .cons (TV d x h1) (PP ds xs h2)
end
instance:Cod Rx where
 wd:=5
 enc:=Is
 dec:=PR
 kn:=TP
 wid:=Py
 dec_enc:=PQ
 le:=TV
theorem Ws(ks:List Rx):D.list 5 (xc ks)=enc ks:=by rw[Ep];rfl
theorem ZV(op mn mx:Int)(rs:List Rng)(ks:List Rx):enc (Rx.mk op mn mx rs ks)= .agg [enc op,enc mn,enc mx,enc rs,enc ks]:=by
 rw[<-Ws]
 show Is _=_
 rw[Is]
theorem Iz:∀es:List D,yY es=es.mapM (dec (X:=Rx))
 | []=>by simp[yY]
 | d::es=>by
   rw[yY,qui,Iz es]
   rfl
theorem qae:∀d:D,Fh d=dec (X:=List Rx) d:=fun d=>by
 unfold Fh
 split
 ·rename_i n es
  show _=if n=5 then es.mapM (dec (X:=Rx))else none
  rw[Iz]
 ·rfl
 ·rename_i h1 h2
  show _=(match d with
   | .list n es=>if n=5 then es.mapM (dec (X:=Rx))else none
   | .v (.slice none 0 0)=>some []
   | _=>none)
  split
  ·exact absurd rfl (h1 _ _)
  ·exact absurd rfl h2
  ·rfl
@[simp] theorem qqf(s:Rx):Rx.mk s.op s.mn s.mx s.rs s.kids=s:=by cases s;rfl
@[simp] theorem qqm(s:Rx):enc s= .agg [enc s.op,enc s.mn,enc s.mx,enc s.rs,enc s.kids]:=by cases s;exact ZV ..
@[simp] theorem qrz:Cod.wd Rx=5:=id rfl
@[simp] theorem qqu(x0 x1 x2 x3 x4:D):dec (X:=Rx) (.agg [x0,x1,x2,x3,x4])=((dec x0).bind fun x0=>(dec x1).bind fun x1=>(dec x2).bind fun x2=>(dec x3).bind fun x3=>(dec x4).bind fun x4=>some ⟨x0,x1,x2,x3,x4⟩):=by
 show PR _=_
 simp only[PR,qae]
end Go.Gv

namespace Go.Gv
open Cod (enc dec)
structure Rp where
 s:B
 pos:Int
 fault:Int
 e:Int
def Rp.bump(p:Rp):Rp:={ p with pos:=p.pos+1 }
def IP(p:Rp):Option Int:=
 if 200 < p.s.size then none else
 if p.pos=p.s.size then some (-1)else
 if 0<=p.pos then match p.s.data[p.pos.toNat]? with
  | some c=>if c.toNat < 128 then some c.toNat else none
  | none=>none
 else none
def qc1(sp:B)(c:Int):Bool:=sp.data.toList.any fun x=>decide ((x.toNat:Int)=c)
def jx(p:Rp)(_:Unit):Option (Rp×I32):=(IP p).map fun c=>(p,⟨c⟩)
def Kg(p:Rp)(_:Unit):Option (Rp×Unit):=(IP p).bind fun c=>if 0<=c then some (p.bump,())else none
def Ap(p:Rp)(_:B):Option (Rp× (I32×Bool)):=(IP p).bind fun c=>if c < 0\/c=92 then none else some (p.bump,⟨c⟩,true)
def Ud:B:=⟨#[92,91,93,94,45]⟩
def OV(p:Rp)(_:Unit):Option (Rp× (I32×Bool)):=(IP p).bind fun c=>if c < 0\/qc1 Ud c=true then none else Ap p Ud
def XK(fr to:Int):Rx:=⟨1,0,0, [⟨⟨fr⟩,⟨to⟩⟩], []⟩
def qI(out:List Rng)(r:Rng):List Rng:=match out.getLast? with
 | some q=>if r.fr.val<=q.to.val+1 then out.dropLast++ [⟨q.fr,⟨max q.to.val r.to.val⟩⟩]else out++ [r]
 | none=>[r]
def DQ(l:List Rng):Bool:=match l with
 | [x]=>decide (0<=x.fr.val/\x.fr.val<=1114111/\0<=x.to.val/\x.to.val<=1114111)
 | [x,y]=>decide (0<=x.fr.val/\x.fr.val<=1114111/\0<=x.to.val/\x.to.val<=1114111/\0<=y.fr.val/\y.fr.val<=1114111/\0<=y.to.val/\y.to.val<=1114111/\x.fr.val<=y.fr.val)
 | _=>false
def CY(l:List Rng):List Rng:=l.foldl qI []
def qaq:Nat->Rp->List Rng->Option (Rp×List Rng)
 | 0,_,_=>none
 | n+1,p,l=>(IP p).bind fun c=>if l≠ []/\c=93 then some (p,l)else
   (OV p ()).bind fun q=>(IP q.1).bind fun d=>if d=45 then none else qaq n q.1 (l++ [⟨q.2.1,q.2.1⟩])
def qdx(p:Rp)(_:Unit):Option (Rp× (Rx×Bool)):=(IP p).bind fun a=>if a≠91 then none else(IP p.bump).bind fun c=>if c=94 then none else
 (qaq 100 p.bump []).bind fun q=>if DQ q.2=true then some (q.1.bump,⟨1,0,0,CY q.2, []⟩,true)else none
def qi0:B:=⟨#[92,46,91,93,40,41,123,125,124,42,43,63]⟩
def Uk(p:Rp)(_:Unit):Option (Rp× (Rx×Bool)):=(IP p).bind fun c=>
 if c=40 then none else if c=46 then some (p.bump,XK 0 1114111,true)else if c=91 then qdx p ()else
 if c≠92/\qc1 qi0 c=true then none else(Ap p qi0).map fun q=>(q.1,XK q.2.1.val q.2.1.val,q.2.2)
def JB(c:Int):Option (Int×Int):=if c=42 then some (0, -1)else if c=43 then some (1, -1)else if c=63 then some (0,1)else none
def Yt(p:Rp)(_:Unit):Option (Rp× (Rx×Bool)):=(Uk p ()).bind fun q=>if q.2.2=true then(IP q.1).bind fun c=>if c=123 then none else match JB c with
 | some m=>(IP q.1.bump).bind fun d=>if d=123\/(JB d).isSome=true then none else some (q.1.bump,⟨4,m.1,m.2, [], [q.2.1]⟩,true)
 | none=>some (q.1,q.2.1,true)
 else none
def P5:Nat->Rp->List Rx->Option (Rp×List Rx)
 | 0,_,_=>none
 | n+1,p,l=>(IP p).bind fun c=>if c < 0\/c=124\/c=41 then some (p,l)else
   (Yt p ()).bind fun q=>if q.2.1.op=2 then none else P5 n q.1 (l++ [q.2.1])
def RA(op:Int):List Rx->Rx
 | [e]=>e
 | l=>⟨op,0,0, [],l⟩
def qau(p:Rp)(_:Unit):Option (Rp× (Rx×Bool)):=(P5 100 p []).map fun q=>(q.1,RA 2 q.2,true)
def Xo:Nat->Rp->List Rx->Option (Rp×List Rx)
 | 0,_,_=>none
 | n+1,p,l=>(qau p ()).bind fun q=>(IP q.1).bind fun c=>
   if q.2.1.op=3 then none else if c=124 then Xo n q.1.bump (l++ [q.2.1])else some (q.1,l++ [q.2.1])
def qbX(p:Rp)(_:Unit):Option (Rp× (Rx×Bool)):=(Xo 100 p []).map fun q=>(q.1,RA 3 q.2,true)
end Go.Gv

namespace Go.Gv
open Cod (enc dec)
def qiU(f:Rx->Int->Int->Option (Bool×Int))(d:Int):List Rx->Int->Option (Bool×Int)
 | [],k=>some (true,k)
 | x::l,k=>(f x (d+1) k).bind fun r=>if r.1=true then qiU f d l r.2 else some (false,r.2)
def tB:Nat->Rx->Int->Int->Option (Bool×Int)
 | 0=>fun _ _ _=>none
 | n+1=>fun x d k=>if d < 0\/1000 < d\/k < 0\/1000 < k then none else if 40 < d\/200 < k+1 then some (false,k+1)else qiU (tB n) d x.kids (k+1)
def Tm(l:List Rng):Bool:=match l with
 | [r]=>decide (0<=r.fr.val/\r.fr.val<=r.to.val/\r.to.val<=1114111)
 | _=>false
def qjg(x:Rx):Bool:=
 if x.op=1 then decide (x.mn=0/\x.mx=0) && x.kids.isEmpty && Tm x.rs else
 if x.op=2 then decide (x.mn=0/\x.mx=0) && x.rs.isEmpty && decide (x.kids.length≠1/\x.kids.length<=300) && x.kids.all fun k=>decide (k.op≠2)else
 if x.op=3 then decide (x.mn=0/\x.mx=0) && x.rs.isEmpty && decide (1 < x.kids.length/\x.kids.length<=300) && x.kids.all fun k=>decide (k.op≠3)else
 if x.op=4 then decide (0<=x.mn/\x.mn<=16/\(x.mx= -1\/x.mn<=x.mx/\x.mx<=16)) && x.rs.isEmpty && decide (x.kids.length=1)else false
def Vr:Nat->Rx->Bool
 | 0=>fun _=>false
 | n+1=>fun x=>qjg x && x.kids.all (Vr n)
def qi8(f:Rx->Option Int):List Rx->Int->Option Int
 | [],k=>some k
 | x::l,k=>(f x).bind fun y=>if k < 0\/1000 < k\/y < 0\/1000 < y then none else qi8 f l (min (k+y) 65)
def qja(x:Rx)(m:Int):Option Int:=
 if x.mx= -1 then(if -1000000<=m*max x.mn 1/\m*max x.mn 1<=1000000 then some (min (m*max x.mn 1) 65)else none)
 else if -1000000<=m*x.mx/\m*x.mx<=1000000 then some (min (m*x.mx) 65)else none
def Hu:Nat->Rx->Option Int
 | 0=>fun _=>none
 | n+1=>fun x=>if x.op=1 then some 1 else(qi8 (Hu n) x.kids 0).bind fun m=>if x.op≠4 then some m else qja x m
def AH(n:Nat)(x:Rx):Bool:=(match tB n x 1 0 with|some r=>r.1|none=>false) && Vr n x && (match Hu n x with|some m=>decide (m<=64)|none=>false)
def ux(s:B):Bool:=s.data.toList.all fun c=>decide (c.toNat < 128)
def pX(s:B):Option Rx:=if s.size<=200/\ux s=true then(qbX ⟨s,0,0,0⟩ ()).bind fun q=>if q.2.2=true/\q.1.pos=s.size/\AH 50 q.2.1=true then some q.2.1 else none else none
end Go.Gv

namespace Go.Gv
open Cod (enc dec)
structure Prt where
 first:U64
 last:U64
 nul:Bool
deriving DecidableEq
instance:Cod Prt where
 wd:=3
 enc s:= .agg [enc s.first,enc s.last,enc s.nul]
 dec| .agg [x0,x1,x2]=>(dec x0).bind fun x0=>(dec x1).bind fun x1=>(dec x2).bind fun x2=>some ⟨x0,x1,x2⟩|_=>none
 kn _:=rfl
 wid _:=rfl
 dec_enc s:=by simp
 le d x h:=by
  split at h
  ·simp only[qtE]at h
   obtain⟨x0,h0,x1,h1,x2,h2,h⟩:=h
   cases h
   exact LeL.agg (.cons (Cod.le _ _ h0) (.cons (Cod.le _ _ h1) (.cons (Cod.le _ _ h2) .nil)))
  ·cases h
@[simp] theorem qm5(s:Prt):(Prt.mk s.first s.last s.nul)=s:=id rfl
@[simp] theorem qnf(s:Prt):enc s= .agg [enc s.first,enc s.last,enc s.nul]:=id rfl
@[simp] theorem qno(x0 x1 x2:D):dec (X:=Prt) (.agg [x0,x1,x2])=((dec x0).bind fun x0=>(dec x1).bind fun x1=>(dec x2).bind fun x2=>some ⟨x0,x1,x2⟩):=id rfl
structure Tbk where
 lvs:List (List Rng)
 fi:U64
 la:U64
 fol:List U64
 nul:Bool
def WI(m:U64)(i:Nat):Bool:=decide (So .u64 (XI .u64 m.val i) 1=1)
def qcm(a b:U64):U64:=⟨qjd .u64 a.val b.val⟩
def Tt(fr to:U64):Nat->List U64->List U64
 | _, []=>[]
 | i,f::l=>(if WI fr i=true then qcm f to else f)::Tt fr to (i+1) l
def C1(t:Tbk)(z:U64×U64):Option (Tbk×Unit):=if t.fol.length<=100000 then some ({ t with fol:=Tt z.1 z.2 0 t.fol },())else none
def qjF(a b:Prt):Prt:=⟨if a.nul=true then qcm a.first b.first else a.first,if b.nul=true then qcm b.last a.last else b.last,a.nul && b.nul⟩
def xi(t:Tbk)(z:Prt×Prt):Option (Tbk×Prt):=(C1 t (z.1.last,z.2.first)).map fun q=>(q.1,qjF z.1 z.2)
def Bg:Prt:=⟨⟨0⟩,⟨0⟩,true⟩
def qo7:Prt:=⟨⟨0⟩,⟨0⟩,false⟩
def qkn(f:Tbk->Rx->Option (Tbk×Prt)):List Rx->Tbk->Prt->Option (Tbk×Prt)
 | [],t,p=>some (t,p)
 | x::l,t,p=>(f t x).bind fun q=>(xi q.1 (p,q.2)).bind fun r=>qkn f l r.1 r.2
def WS(f:Tbk->Rx->Option (Tbk×Prt)):List Rx->Tbk->Prt->Option (Tbk×Prt)
 | [],t,p=>some (t,p)
 | x::l,t,p=>(f t x).bind fun q=>WS f l q.1 ⟨qcm p.first q.2.first,qcm p.last q.2.last,p.nul||q.2.nul⟩
def My(t:Tbk):Bool:=decide (t.lvs.length<=1000/\t.fol.length<=1000)
def qg7(b r:Tbk->Rx->Option (Tbk×Prt))(t:Tbk)(x:Rx):Option (Tbk×Prt):=
 if My t=false\/1000 < x.kids.length then none else
 if x.op=1 then some ({ t with lvs:=t.lvs++ [x.rs],fol:=t.fol++ [⟨0⟩] },⟨⟨Oi .u64 1 t.lvs.length⟩,⟨Oi .u64 1 t.lvs.length⟩,false⟩)else
 if x.op=2 then qkn b x.kids t Bg else
 if x.op=3 then WS b x.kids t qo7 else r t x
def qi1(b:Tbk->Rx->Option (Tbk×Prt))(y:Rx)(mx:Int):Nat->Tbk->Prt->Option (Tbk×Prt×Bool)
 | 0,t,p=>some (t,p,false)
 | k+1,t,p=>if My t=false then none else(b t y).bind fun q=>if My q.1=false then none else
   if q.1.lvs.length=t.lvs.length then some (q.1,Bg,true)else
   (if mx < 0/\k=0 then C1 q.1 (q.2.last,q.2.first)else some (q.1,())).bind fun l=>(xi l.1 (p,q.2)).bind fun r=>qi1 b y mx k r.1 r.2
def Yu(b:Tbk->Rx->Option (Tbk×Prt))(o:Tbk->Rx×Int->Option (Tbk×Prt))(t:Tbk)(x:Rx):Option (Tbk×Prt):=match x.kids with
 | []=>none
 | y::_=>if x.mn < 0\/100 < x.mn\/x.mx < -1\/100 < x.mx then none else
   (qi1 b y x.mx x.mn.toNat t Bg).bind fun q=>if q.2.2=true then some (q.1,Bg)else
   if x.mx < 0/\x.mn=0 then(b q.1 y).bind fun r=>(C1 r.1 (r.2.last,r.2.first)).map fun l=>(l.1, { r.2 with nul:=true })else
   if x.mn < x.mx then(o q.1 (y,x.mx -x.mn)).bind fun r=>xi r.1 (q.2.1,r.2)else some (q.1,q.2.1)
def qfW(b:Tbk->Rx->Option (Tbk×Prt))(o:Tbk->Rx×Int->Option (Tbk×Prt))(t:Tbk)(z:Rx×Int):Option (Tbk×Prt):=
 if z.2 < 0\/100 < z.2\/My t=false then none else
 if z.2=0 then some (t,Bg)else
 (b t z.1).bind fun q=>if My q.1=false then none else
 if q.1.lvs.length=t.lvs.length then some (q.1,Bg)else
 (o q.1 (z.1,z.2 -1)).bind fun r=>(xi r.1 (q.2,r.2)).map fun l=>(l.1, { l.2 with nul:=true })
structure qtB where
 b:Tbk->Rx->Option (Tbk×Prt)
 r:Tbk->Rx->Option (Tbk×Prt)
 o:Tbk->Rx×Int->Option (Tbk×Prt)
def BJ:Nat->qtB
 | 0=>⟨fun _ _=>none,fun _ _=>none,fun _ _=>none⟩
 | n+1=>⟨qg7 (BJ n).b (BJ n).r,Yu (BJ n).b (BJ n).o,qfW (BJ n).b (BJ n).o⟩
def qs2:Tbk:=⟨[],⟨0⟩,⟨0⟩, [],false⟩
def qb0(n:Nat)(x:Rx):Option Tbk:=((BJ n).b qs2 x).map fun q=>{ q.1 with fi:=q.2.first,la:=q.2.last,nul:=q.2.nul }
def qeo(set:U64):Nat->List U64->U64->U64
 | _, [],m=>m
 | i,f::l,m=>qeo set (i+1) l (if WI set i=true then qcm m f else m)
def yD(t:Tbk)(set:U64)(beg:Bool):U64:=if beg=true then t.fi else qeo set 0 t.fol ⟨0⟩
end Go.Gv
