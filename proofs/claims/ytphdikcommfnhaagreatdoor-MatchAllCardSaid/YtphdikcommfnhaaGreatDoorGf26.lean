/- A part of the framework and of the walks: V2 V50 V51 V52 V53. -/
import Derived.Test.YtphdikcommfnhaaGreatDoorGf19
set_option linter.unusedSimpArgs false
set_option linter.unusedVariables false
set_option linter.unusedSectionVars false

namespace Go.Gv
open Cod (enc dec)
structure Cond where
 op:Int
 name:B
 arg:B
 val:B
 lab:B
 fold:Bool
 kids:List Cond
mutual
def Kq:Cond->D
 | .mk op n a v l f ks=> .agg [enc op,enc n,enc a,enc v,enc l,enc f, .list 7 (yF ks)]
def yF:List Cond->List D
 | []=>[]
 | k::ks=>Kq k::yF ks
end
mutual
def LY:D->Option Cond
 | .agg [x0,x1,x2,x3,x4,x5,x6]=>(dec x0).bind fun op=>(dec x1).bind fun n=>(dec x2).bind fun a=>(dec x3).bind fun v=>(dec x4).bind fun l=>(dec x5).bind fun f=>(Si x6).bind fun ks=>some (.mk op n a v l f ks)
 | _=>none
def Si:D->Option (List Cond)
 | .list n es=>if n=7 then AC es else none
 | .v (.slice none 0 0)=>some []
 | _=>none
def AC:List D->Option (List Cond)
 | []=>some []
 | d::ds=>(LY d).bind fun x=>(AC ds).bind fun xs=>some (x::xs)
end
theorem FZ:∀l:List Cond,yF l=l.map Kq
 | []=>rfl
 | _::l=>by rw[yF,FZ l];rfl
theorem Wy:∀c:Cond,(Kq c).kn=true
 | .mk .. =>rfl
theorem RY:∀c:Cond,(Kq c).cells.length=7
 | .mk .. =>rfl
mutual
theorem Sn:∀c:Cond,LY (Kq c)=some c
 | .mk op n a v l f ks=>by
   have h:Si (.list 7 (yF ks))=some ks:=by rw[Si,if_pos rfl];exact Ne ks
   simp only[Kq,LY,Cod.dec_enc,qw7,h]
theorem Ne:∀l:List Cond,AC (yF l)=some l
 | []=>by simp only[yF,AC]
 | c::l=>by simp only[yF,AC,Sn c,Ne l,qw7]
end
mutual
theorem WF:∀ (d:D) (c:Cond),LY d=some c->FrzTo bJ d (Kq c)
 | .agg [x0,x1,x2,x3,x4,x5,x6],c,h=>by
   simp only[LY,qwN,qw2]at h
   obtain⟨op,h0,n,h1,a,h2,v,h3,l,h4,f,h5,ks,h6,rfl⟩:=h
   rw[Kq]
   exact LeL.agg (.cons (Cod.le _ _ h0) (.cons (Cod.le _ _ h1) (.cons (Cod.le _ _ h2) (.cons (Cod.le _ _ h3) (.cons (Cod.le _ _ h4) (.cons (Cod.le _ _ h5) (.cons (WD x6 ks h6) .nil)))))))
theorem WD:∀ (d:D) (l:List Cond),Si d=some l->FrzTo bJ d (.list 7 (yF l))
 | .list n es,l,h=>by
   simp only[Si]at h
   split at h
   ·rename_i hn
    subst hn
    have hl:=Sm es l h
    refine .list hl.1 (fun e he=>?_) hl.2
    rw[FZ]at he
    obtain⟨x,hx,rfl⟩:=qw3.1 he
    exact⟨Wy x,RY x⟩
   ·cases h
 | .v (.slice none 0 0),l,h=>by
   simp only[Si,qw2]at h
   subst h
   exact .nil _
theorem Sm:∀ (es:List D) (l:List Cond),AC es=some l->LeL es (yF l)
 | [],l,h=>by
   simp only[AC,qw2]at h
   subst h
   exact .nil
 | d::ds,l,h=>by
   simp only[AC,qwN,qw2]at h
   obtain⟨x,h1,xs,h2,rfl⟩:=h
   rw[yF]
   exact .cons (WF d x h1) (Sm ds xs h2)
end
instance:Cod Cond where
 wd:=7
 enc:=Kq
 dec:=LY
 kn:=Wy
 wid:=RY
 dec_enc:=Sn
 le:=WF
theorem M8(ks:List Cond):D.list 7 (yF ks)=enc ks:=by rw[FZ];rfl
theorem Km(op:Int)(n a v l:B)(f:Bool)(ks:List Cond):enc (Cond.mk op n a v l f ks)= .agg [enc op,enc n,enc a,enc v,enc l,enc f,enc ks]:=by
 rw[<-M8]
 show Kq _=_
 rw[Kq]
structure Pat where
 op:Int
 cond:Cond
 lab:B
 reg:B
 mn:Int
 mx:Int
 kids:List Pat
def AE:Cond->List D
 | .mk op n a v l f ks=>[enc op,enc n,enc a,enc v,enc l,enc f,enc ks]
theorem KD:∀c:Cond,(AE c).length=7
 | .mk .. =>rfl
mutual
def HI:Pat->D
 | .mk op c l r mn mx ks=> .agg (enc op::(AE c++ [enc l,enc r,enc mn,enc mx, .list 13 (yD ks)]))
def yD:List Pat->List D
 | []=>[]
 | k::ks=>HI k::yD ks
end
mutual
def Sh:D->Option Pat
 | .agg [x0,y0,y1,y2,y3,y4,y5,y6,x1,x2,x3,x4,x5]=>(dec x0).bind fun op=>(dec (D.agg [y0,y1,y2,y3,y4,y5,y6])).bind fun c=>(dec x1).bind fun l=>(dec x2).bind fun r=>(dec x3).bind fun mn=>(dec x4).bind fun mx=>(GY x5).bind fun ks=>some (.mk op c l r mn mx ks)
 | _=>none
def GY:D->Option (List Pat)
 | .list n es=>if n=13 then AA es else none
 | .v (.slice none 0 0)=>some []
 | _=>none
def AA:List D->Option (List Pat)
 | []=>some []
 | d::ds=>(Sh d).bind fun x=>(AA ds).bind fun xs=>some (x::xs)
end
theorem FX:∀l:List Pat,yD l=l.map HI
 | []=>rfl
 | _::l=>by rw[yD,FX l];rfl
theorem Ww:∀c:Pat,(HI c).kn=true
 | .mk .. =>rfl
theorem RW:∀c:Pat,(HI c).cells.length=13
 | .mk op c l r mn mx ks=>by simp[HI,D.cells,KD]
mutual
theorem Sf:∀c:Pat,Sh (HI c)=some c
 | .mk op (.mk cop n a v cl f cks) l r mn mx ks=>by
   have h:GY (.list 13 (yD ks))=some ks:=by rw[GY,if_pos rfl];exact Nc ks
   have hc:dec (D.agg [enc cop,enc n,enc a,enc v,enc cl,enc f,enc cks])=some (Cond.mk cop n a v cl f cks):=by rw[<-Km];exact Cod.dec_enc _
   simp only[HI,AE,qxA,qxG,Sh,Cod.dec_enc,qw7,h,hc]
theorem Nc:∀l:List Pat,AA (yD l)=some l
 | []=>by simp only[yD,AA]
 | c::l=>by simp only[yD,AA,Sf c,Nc l,qw7]
end
theorem Y6{y0 y1 y2 y3 y4 y5 y6:D}{c:Cond}(h:dec (D.agg [y0,y1,y2,y3,y4,y5,y6])=some c):LeL [y0,y1,y2,y3,y4,y5,y6] (AE c):=by
 have h':LY (D.agg [y0,y1,y2,y3,y4,y5,y6])=some c:=h
 simp only[LY,qwN,qw2]at h'
 obtain⟨op,h0,n,h1,a,h2,v,h3,l,h4,f,h5,ks,h6,rfl⟩:=h'
 have hk:=WD y6 ks h6
 rw[M8]at hk
 exact .cons (Cod.le _ _ h0) (.cons (Cod.le _ _ h1) (.cons (Cod.le _ _ h2) (.cons (Cod.le _ _ h3) (.cons (Cod.le _ _ h4) (.cons (Cod.le _ _ h5) (.cons hk .nil))))))
theorem LeL.append{a b c d:List D}(h:LeL a b)(k:LeL c d):LeL (a++c) (b++d):=by
 refine⟨by simp[h.1,k.1],fun i x y hx hy=>?_⟩
 rw[List.getElem?_append]at hx hy
 by_cases hi:i < a.length
 ·rw[if_pos hi]at hx
  rw[if_pos (by rw[<-h.1];exact hi)]at hy
  exact h.2 i x y hx hy
 ·rw[if_neg hi]at hx
  rw[if_neg (by rw[<-h.1];exact hi),<-h.1]at hy
  exact k.2 _ x y hx hy
mutual
theorem WC:∀ (d:D) (c:Pat),Sh d=some c->FrzTo bJ d (HI c)
 | .agg [x0,y0,y1,y2,y3,y4,y5,y6,x1,x2,x3,x4,x5],c,h=>by
   simp only[Sh,qwN,qw2]at h
   obtain⟨op,h0,c,h1,l,h2,r,h3,mn,h4,mx,h5,ks,h6,rfl⟩:=h
   rw[HI]
   exact LeL.agg (.cons (Cod.le _ _ h0) ((Y6 h1).append (.cons (Cod.le _ _ h2) (.cons (Cod.le _ _ h3) (.cons (Cod.le _ _ h4) (.cons (Cod.le _ _ h5) (.cons (qcM x5 ks h6) .nil)))))))
theorem qcM:∀ (d:D) (l:List Pat),GY d=some l->FrzTo bJ d (.list 13 (yD l))
 | .list n es,l,h=>by
   simp only[GY]at h
   split at h
   ·rename_i hn
    subst hn
    have hl:=Se es l h
    refine .list hl.1 (fun e he=>?_) hl.2
    rw[FX]at he
    obtain⟨x,hx,rfl⟩:=qw3.1 he
    exact⟨Ww x,RW x⟩
   ·cases h
 | .v (.slice none 0 0),l,h=>by
   simp only[GY,qw2]at h
   subst h
   exact .nil _
theorem Se:∀ (es:List D) (l:List Pat),AA es=some l->LeL es (yD l)
 | [],l,h=>by
   simp only[AA,qw2]at h
   subst h
   exact .nil
 | d::ds,l,h=>by
   simp only[AA,qwN,qw2]at h
   obtain⟨x,h1,xs,h2,rfl⟩:=h
   rw[yD]
   exact .cons (WC d x h1) (Se ds xs h2)
end
instance:Cod Pat where
 wd:=13
 enc:=HI
 dec:=Sh
 kn:=Ww
 wid:=RW
 dec_enc:=Sf
 le:=WC
theorem Y2(ks:List Pat):D.list 13 (yD ks)=enc ks:=by rw[FX];rfl
theorem O3(op:Int)(c:Cond)(l r:B)(mn mx:Int)(ks:List Pat):enc (Pat.mk op c l r mn mx ks)= .agg (enc op::(AE c++ [enc l,enc r,enc mn,enc mx,enc ks])):=by
 rw[<-Y2]
 show HI _=_
 rw[HI]
theorem Kz:∀es:List D,AC es=es.mapM (dec (X:=Cond))
 | []=>by simp[AC]
 | d::es=>by
   rw[AC,qxu,Kz es]
   rfl
theorem qf8:∀d:D,Si d=dec (X:=List Cond) d:=fun d=>by
 unfold Si
 split
 ·rename_i n es
  show _=if n=7 then es.mapM (dec (X:=Cond))else none
  rw[Kz]
 ·rfl
 ·rename_i h1 h2
  show _=(match d with
   | .list n es=>if n=7 then es.mapM (dec (X:=Cond))else none
   | .v (.slice none 0 0)=>some []
   | _=>none)
  split
  ·exact absurd rfl (h1 _ _)
  ·exact absurd rfl h2
  ·rfl
theorem Kw:∀es:List D,AA es=es.mapM (dec (X:=Pat))
 | []=>by simp[AA]
 | d::es=>by
   rw[AA,qxu,Kw es]
   rfl
theorem qcN:∀d:D,GY d=dec (X:=List Pat) d:=fun d=>by
 unfold GY
 split
 ·rename_i n es
  show _=if n=13 then es.mapM (dec (X:=Pat))else none
  rw[Kw]
 ·rfl
 ·rename_i h1 h2
  show _=(match d with
   | .list n es=>if n=13 then es.mapM (dec (X:=Pat))else none
   | .v (.slice none 0 0)=>some []
   | _=>none)
  split
  ·exact absurd rfl (h1 _ _)
  ·exact absurd rfl h2
  ·rfl
@[simp] theorem Ez(s:Cond):Cond.mk s.op s.name s.arg s.val s.lab s.fold s.kids=s:=by cases s;rfl
@[simp] theorem qcw(s:Cond):enc s= .agg [enc s.op,enc s.name,enc s.arg,enc s.val,enc s.lab,enc s.fold,enc s.kids]:=by cases s;exact Km ..
@[simp] theorem qol:Cod.wd Cond=7:=id rfl
@[simp] theorem qcJ(x0 x1 x2 x3 x4 x5 x6:D):dec (X:=Cond) (.agg [x0,x1,x2,x3,x4,x5,x6])=((dec x0).bind fun x0=>(dec x1).bind fun x1=>(dec x2).bind fun x2=>(dec x3).bind fun x3=>(dec x4).bind fun x4=>(dec x5).bind fun x5=>(dec x6).bind fun x6=>some ⟨x0,x1,x2,x3,x4,x5,x6⟩):=by
 show LY _=_
 simp only[LY,qf8]
@[simp] theorem qqa(s:Pat):Pat.mk s.op s.cond s.lab s.reg s.mn s.mx s.kids=s:=by cases s;rfl
@[simp] theorem O5(s:Pat):enc s= .agg [enc s.op,enc s.cond.op,enc s.cond.name,enc s.cond.arg,enc s.cond.val,enc s.cond.lab,enc s.cond.fold,enc s.cond.kids,enc s.lab,enc s.reg,enc s.mn,enc s.mx,enc s.kids]:=by
 obtain⟨op,⟨a,b,c,d,e,f,g⟩,l,r,mn,mx,ks⟩:=s
 exact O3 ..
@[simp] theorem qrx:Cod.wd Pat=13:=id rfl
@[simp] theorem qqt(x0 y0 y1 y2 y3 y4 y5 y6 x1 x2 x3 x4 x5:D):dec (X:=Pat) (.agg [x0,y0,y1,y2,y3,y4,y5,y6,x1,x2,x3,x4,x5])=
 ((dec x0).bind fun x0=>(dec y0).bind fun y0=>(dec y1).bind fun y1=>(dec y2).bind fun y2=>(dec y3).bind fun y3=>(dec y4).bind fun y4=>(dec y5).bind fun y5=>(dec y6).bind fun y6=>
   (dec x1).bind fun x1=>(dec x2).bind fun x2=>(dec x3).bind fun x3=>(dec x4).bind fun x4=>(dec x5).bind fun x5=>some ⟨x0,⟨y0,y1,y2,y3,y4,y5,y6⟩,x1,x2,x3,x4,x5⟩):=by
 show Sh _=_
 simp only[Sh,qcN,qcJ,Option.bind_assoc,qw7]
end Go.Gv

namespace Go.Gv
open Cod (enc dec)
structure U64 where
 val:Int
deriving DecidableEq
instance:Cod U64 where
 wd:=1
 enc n:= .v (.int .u64 n.val)
 dec| .v (.int .u64 n)=>some ⟨n⟩|_=>none
 kn _:=rfl
 wid _:=rfl
 dec_enc _:=rfl
 le d x h:=by
  split at h
  ·cases h;exact .same _
  ·cases h
@[simp] theorem qqc(n:U64):enc n= .v (.int .u64 n.val):=id rfl
@[simp] theorem qrr:Cod.wd U64=1:=id rfl
@[simp] theorem qqm(n:Int):dec (X:=U64) (.v (.int .u64 n))=some ⟨n⟩:=id rfl
@[simp] theorem qp2(n:U64):U64.mk n.val=n:=id rfl
structure Rng where
 fr:I32
 to:I32
deriving DecidableEq
instance:Cod Rng where
 wd:=2
 enc s:= .agg [enc s.fr,enc s.to]
 dec| .agg [x0,x1]=>(dec x0).bind fun x0=>(dec x1).bind fun x1=>some ⟨x0,x1⟩|_=>none
 kn _:=rfl
 wid _:=rfl
 dec_enc s:=by simp
 le d x h:=by
  split at h
  ·simp only[qwN]at h
   obtain⟨x0,h0,x1,h1,h⟩:=h
   cases h
   exact LeL.agg (.cons (Cod.le _ _ h0) (.cons (Cod.le _ _ h1) .nil))
  ·cases h
@[simp] theorem qp6(s:Rng):(Rng.mk s.fr s.to)=s:=id rfl
@[simp] theorem qqh(s:Rng):enc s= .agg [enc s.fr,enc s.to]:=id rfl
@[simp] theorem qrw:Cod.wd Rng=2:=id rfl
@[simp] theorem qqq(x0 x1:D):dec (X:=Rng) (.agg [x0,x1])=((dec x0).bind fun x0=>(dec x1).bind fun x1=>some ⟨x0,x1⟩):=id rfl
structure Rx where
 op:Int
 mn:Int
 mx:Int
 rs:List Rng
 kids:List Rx
mutual
def Ko:Rx->D
 | .mk op mn mx rs ks=> .agg [enc op,enc mn,enc mx,enc rs, .list 5 (yC ks)]
def yC:List Rx->List D
 | []=>[]
 | k::ks=>Ko k::yC ks
end
mutual
def Sd:D->Option Rx
 | .agg [x0,x1,x2,x3,x4]=>(dec x0).bind fun op=>(dec x1).bind fun mn=>(dec x2).bind fun mx=>(dec x3).bind fun rs=>(GX x4).bind fun ks=>some (.mk op mn mx rs ks)
 | _=>none
def GX:D->Option (List Rx)
 | .list n es=>if n=5 then Az es else none
 | .v (.slice none 0 0)=>some []
 | _=>none
def Az:List D->Option (List Rx)
 | []=>some []
 | d::ds=>(Sd d).bind fun x=>(Az ds).bind fun xs=>some (x::xs)
end
theorem FW:∀l:List Rx,yC l=l.map Ko
 | []=>rfl
 | _::l=>by rw[yC,FW l];rfl
theorem Wv:∀c:Rx,(Ko c).kn=true
 | .mk .. =>rfl
theorem RV:∀c:Rx,(Ko c).cells.length=5
 | .mk .. =>rfl
mutual
theorem Sc:∀c:Rx,Sd (Ko c)=some c
 | .mk op mn mx rs ks=>by
   have h:GX (.list 5 (yC ks))=some ks:=by rw[GX,if_pos rfl];exact Nb ks
   simp only[Ko,Sd,Cod.dec_enc,qw7,h]
theorem Nb:∀l:List Rx,Az (yC l)=some l
 | []=>by simp only[yC,Az]
 | c::l=>by simp only[yC,Az,Sc c,Nb l,qw7]
end
mutual
theorem WB:∀ (d:D) (c:Rx),Sd d=some c->FrzTo bJ d (Ko c)
 | .agg [x0,x1,x2,x3,x4],c,h=>by
   simp only[Sd,qwN,qw2]at h
   obtain⟨op,h0,mn,h1,mx,h2,rs,h3,ks,h4,rfl⟩:=h
   rw[Ko]
   exact LeL.agg (.cons (Cod.le _ _ h0) (.cons (Cod.le _ _ h1) (.cons (Cod.le _ _ h2) (.cons (Cod.le _ _ h3) (.cons (qcK x4 ks h4) .nil)))))
theorem qcK:∀ (d:D) (l:List Rx),GX d=some l->FrzTo bJ d (.list 5 (yC l))
 | .list n es,l,h=>by
   simp only[GX]at h
   split at h
   ·rename_i hn
    subst hn
    have hl:=Sb es l h
    refine .list hl.1 (fun e he=>?_) hl.2
    rw[FW]at he
    obtain⟨x,hx,rfl⟩:=qw3.1 he
    exact⟨Wv x,RV x⟩
   ·cases h
 | .v (.slice none 0 0),l,h=>by
   simp only[GX,qw2]at h
   subst h
   exact .nil _
theorem Sb:∀ (es:List D) (l:List Rx),Az es=some l->LeL es (yC l)
 | [],l,h=>by
   simp only[Az,qw2]at h
   subst h
   exact .nil
 | d::ds,l,h=>by
   simp only[Az,qwN,qw2]at h
   obtain⟨x,h1,xs,h2,rfl⟩:=h
   rw[yC]
   exact .cons (WB d x h1) (Sb ds xs h2)
end
instance:Cod Rx where
 wd:=5
 enc:=Ko
 dec:=Sd
 kn:=Wv
 wid:=RV
 dec_enc:=Sc
 le:=WB
theorem Y1(ks:List Rx):D.list 5 (yC ks)=enc ks:=by rw[FW];rfl
theorem qct(op mn mx:Int)(rs:List Rng)(ks:List Rx):enc (Rx.mk op mn mx rs ks)= .agg [enc op,enc mn,enc mx,enc rs,enc ks]:=by
 rw[<-Y1]
 show Ko _=_
 rw[Ko]
theorem Kv:∀es:List D,Az es=es.mapM (dec (X:=Rx))
 | []=>by simp[Az]
 | d::es=>by
   rw[Az,qxu,Kv es]
   rfl
theorem qcL:∀d:D,GX d=dec (X:=List Rx) d:=fun d=>by
 unfold GX
 split
 ·rename_i n es
  show _=if n=5 then es.mapM (dec (X:=Rx))else none
  rw[Kv]
 ·rfl
 ·rename_i h1 h2
  show _=(match d with
   | .list n es=>if n=5 then es.mapM (dec (X:=Rx))else none
   | .v (.slice none 0 0)=>some []
   | _=>none)
  split
  ·exact absurd rfl (h1 _ _)
  ·exact absurd rfl h2
  ·rfl
@[simp] theorem qtl(s:Rx):Rx.mk s.op s.mn s.mx s.rs s.kids=s:=by cases s;rfl
@[simp] theorem qts(s:Rx):enc s= .agg [enc s.op,enc s.mn,enc s.mx,enc s.rs,enc s.kids]:=by cases s;exact qct ..
@[simp] theorem quJ:Cod.wd Rx=5:=id rfl
@[simp] theorem qtA(x0 x1 x2 x3 x4:D):dec (X:=Rx) (.agg [x0,x1,x2,x3,x4])=((dec x0).bind fun x0=>(dec x1).bind fun x1=>(dec x2).bind fun x2=>(dec x3).bind fun x3=>(dec x4).bind fun x4=>some ⟨x0,x1,x2,x3,x4⟩):=by
 show Sd _=_
 simp only[Sd,qcL]
end Go.Gv

namespace Go.Gv
open Cod (enc dec)
structure Rp where
 s:B
 pos:Int
 fault:Int
 e:Int
def Rp.bump(p:Rp):Rp:={ p with pos:=p.pos+1 }
def KM(p:Rp):Option Int:=
 if 200 < p.s.size then none else
 if p.pos=p.s.size then some (-1)else
 if 0<=p.pos then match p.s.data[p.pos.toNat]? with
  | some c=>if c.toNat < 128 then some c.toNat else none
  | none=>none
 else none
def qfG(sp:B)(c:Int):Bool:=sp.data.toList.any fun x=>decide ((x.toNat:Int)=c)
def kq(p:Rp)(_:Unit):Option (Rp×I32):=(KM p).map fun c=>(p,⟨c⟩)
def Mk(p:Rp)(_:Unit):Option (Rp×Unit):=(KM p).bind fun c=>if 0<=c then some (p.bump,())else none
def BL(p:Rp)(_:B):Option (Rp× (I32×Bool)):=(KM p).bind fun c=>if c < 0\/c=92 then none else some (p.bump,⟨c⟩,true)
def WK:B:=⟨#[92,91,93,94,45]⟩
def Re(p:Rp)(_:Unit):Option (Rp× (I32×Bool)):=(KM p).bind fun c=>if c < 0\/qfG WK c=true then none else BL p WK
def Z8(fr to:Int):Rx:=⟨1,0,0, [⟨⟨fr⟩,⟨to⟩⟩], []⟩
def rZ(out:List Rng)(r:Rng):List Rng:=match out.getLast? with
 | some q=>if r.fr.val<=q.to.val+1 then out.dropLast++ [⟨q.fr,⟨max q.to.val r.to.val⟩⟩]else out++ [r]
 | none=>[r]
def Fg(l:List Rng):Bool:=match l with
 | [x]=>decide (0<=x.fr.val/\x.fr.val<=1114111/\0<=x.to.val/\x.to.val<=1114111)
 | [x,y]=>decide (0<=x.fr.val/\x.fr.val<=1114111/\0<=x.to.val/\x.to.val<=1114111/\0<=y.fr.val/\y.fr.val<=1114111/\0<=y.to.val/\y.to.val<=1114111/\x.fr.val<=y.fr.val)
 | _=>false
def Ei(l:List Rng):List Rng:=l.foldl rZ []
def qcX:Nat->Rp->List Rng->Option (Rp×List Rng)
 | 0,_,_=>none
 | n+1,p,l=>(KM p).bind fun c=>if l≠ []/\c=93 then some (p,l)else
   (Re p ()).bind fun q=>(KM q.1).bind fun d=>if d=45 then none else qcX n q.1 (l++ [⟨q.2.1,q.2.1⟩])
def qgd(p:Rp)(_:Unit):Option (Rp× (Rx×Bool)):=(KM p).bind fun a=>if a≠91 then none else(KM p.bump).bind fun c=>if c=94 then none else
 (qcX 100 p.bump []).bind fun q=>if Fg q.2=true then some (q.1.bump,⟨1,0,0,Ei q.2, []⟩,true)else none
def ql3:B:=⟨#[92,46,91,93,40,41,123,125,124,42,43,63]⟩
def WS(p:Rp)(_:Unit):Option (Rp× (Rx×Bool)):=(KM p).bind fun c=>
 if c=40 then none else if c=46 then some (p.bump,Z8 0 1114111,true)else if c=91 then qgd p ()else
 if c≠92/\qfG ql3 c=true then none else(BL p ql3).map fun q=>(q.1,Z8 q.2.1.val q.2.1.val,q.2.2)
def LD(c:Int):Option (Int×Int):=if c=42 then some (0, -1)else if c=43 then some (1, -1)else if c=63 then some (0,1)else none
def qaW(p:Rp)(_:Unit):Option (Rp× (Rx×Bool)):=(WS p ()).bind fun q=>if q.2.2=true then(KM q.1).bind fun c=>if c=123 then none else match LD c with
 | some m=>(KM q.1.bump).bind fun d=>if d=123\/(LD d).isSome=true then none else some (q.1.bump,⟨4,m.1,m.2, [], [q.2.1]⟩,true)
 | none=>some (q.1,q.2.1,true)
 else none
def Sr:Nat->Rp->List Rx->Option (Rp×List Rx)
 | 0,_,_=>none
 | n+1,p,l=>(KM p).bind fun c=>if c < 0\/c=124\/c=41 then some (p,l)else
   (qaW p ()).bind fun q=>if q.2.1.op=2 then none else Sr n q.1 (l++ [q.2.1])
def Uh(op:Int):List Rx->Rx
 | [e]=>e
 | l=>⟨op,0,0, [],l⟩
def qc1(p:Rp)(_:Unit):Option (Rp× (Rx×Bool)):=(Sr 100 p []).map fun q=>(q.1,Uh 2 q.2,true)
def ZN:Nat->Rp->List Rx->Option (Rp×List Rx)
 | 0,_,_=>none
 | n+1,p,l=>(qc1 p ()).bind fun q=>(KM q.1).bind fun c=>
   if q.2.1.op=3 then none else if c=124 then ZN n q.1.bump (l++ [q.2.1])else some (q.1,l++ [q.2.1])
def qez(p:Rp)(_:Unit):Option (Rp× (Rx×Bool)):=(ZN 100 p []).map fun q=>(q.1,Uh 3 q.2,true)
end Go.Gv

namespace Go.Gv
open Cod (enc dec)
def qlX(f:Rx->Int->Int->Option (Bool×Int))(d:Int):List Rx->Int->Option (Bool×Int)
 | [],k=>some (true,k)
 | x::l,k=>(f x (d+1) k).bind fun r=>if r.1=true then qlX f d l r.2 else some (false,r.2)
def uN:Nat->Rx->Int->Int->Option (Bool×Int)
 | 0=>fun _ _ _=>none
 | n+1=>fun x d k=>if d < 0\/1000 < d\/k < 0\/1000 < k then none else if 40 < d\/200 < k+1 then some (false,k+1)else qlX (uN n) d x.kids (k+1)
def VR(l:List Rng):Bool:=match l with
 | [r]=>decide (0<=r.fr.val/\r.fr.val<=r.to.val/\r.to.val<=1114111)
 | _=>false
def qmh(x:Rx):Bool:=
 if x.op=1 then decide (x.mn=0/\x.mx=0) && x.kids.isEmpty && VR x.rs else
 if x.op=2 then decide (x.mn=0/\x.mx=0) && x.rs.isEmpty && decide (x.kids.length≠1/\x.kids.length<=300) && x.kids.all fun k=>decide (k.op≠2)else
 if x.op=3 then decide (x.mn=0/\x.mx=0) && x.rs.isEmpty && decide (1 < x.kids.length/\x.kids.length<=300) && x.kids.all fun k=>decide (k.op≠3)else
 if x.op=4 then decide (0<=x.mn/\x.mn<=16/\(x.mx= -1\/x.mn<=x.mx/\x.mx<=16)) && x.rs.isEmpty && decide (x.kids.length=1)else false
def Ye:Nat->Rx->Bool
 | 0=>fun _=>false
 | n+1=>fun x=>qmh x && x.kids.all (Ye n)
def qmb(f:Rx->Option Int):List Rx->Int->Option Int
 | [],k=>some k
 | x::l,k=>(f x).bind fun y=>if k < 0\/1000 < k\/y < 0\/1000 < y then none else qmb f l (min (k+y) 65)
def qmd(x:Rx)(m:Int):Option Int:=
 if x.mx= -1 then(if -1000000<=m*max x.mn 1/\m*max x.mn 1<=1000000 then some (min (m*max x.mn 1) 65)else none)
 else if -1000000<=m*x.mx/\m*x.mx<=1000000 then some (min (m*x.mx) 65)else none
def Jo:Nat->Rx->Option Int
 | 0=>fun _=>none
 | n+1=>fun x=>if x.op=1 then some 1 else(qmb (Jo n) x.kids 0).bind fun m=>if x.op≠4 then some m else qmd x m
def BZ(n:Nat)(x:Rx):Bool:=(match uN n x 1 0 with|some r=>r.1|none=>false) && Ye n x && (match Jo n x with|some m=>decide (m<=64)|none=>false)
def vM(s:B):Bool:=s.data.toList.all fun c=>decide (c.toNat < 128)
def nl(s:B):Option Rx:=if s.size<=200/\vM s=true then(qez ⟨s,0,0,0⟩ ()).bind fun q=>if q.2.2=true/\q.1.pos=s.size/\BZ 50 q.2.1=true then some q.2.1 else none else none
end Go.Gv

namespace Go.Gv
open Cod (enc dec)
structure Prt where
 first:U64
 last:U64
 nul:Bool
deriving DecidableEq
instance:Cod Prt where
 wd:=3
 enc s:= .agg [enc s.first,enc s.last,enc s.nul]
 dec| .agg [x0,x1,x2]=>(dec x0).bind fun x0=>(dec x1).bind fun x1=>(dec x2).bind fun x2=>some ⟨x0,x1,x2⟩|_=>none
 kn _:=rfl
 wid _:=rfl
 dec_enc s:=by simp
 le d x h:=by
  split at h
  ·simp only[qwN]at h
   obtain⟨x0,h0,x1,h1,x2,h2,h⟩:=h
   cases h
   exact LeL.agg (.cons (Cod.le _ _ h0) (.cons (Cod.le _ _ h1) (.cons (Cod.le _ _ h2) .nil)))
  ·cases h
@[simp] theorem qp9(s:Prt):(Prt.mk s.first s.last s.nul)=s:=id rfl
@[simp] theorem qqj(s:Prt):enc s= .agg [enc s.first,enc s.last,enc s.nul]:=id rfl
@[simp] theorem qqs(x0 x1 x2:D):dec (X:=Prt) (.agg [x0,x1,x2])=((dec x0).bind fun x0=>(dec x1).bind fun x1=>(dec x2).bind fun x2=>some ⟨x0,x1,x2⟩):=id rfl
structure Tbk where
 lvs:List (List Rng)
 fi:U64
 la:U64
 fol:List U64
 nul:Bool
def Zh(m:U64)(i:Nat):Bool:=decide (UX .u64 (Z6 .u64 m.val i) 1=1)
def qe4(a b:U64):U64:=⟨qmf .u64 a.val b.val⟩
def VY(fr to:U64):Nat->List U64->List U64
 | _, []=>[]
 | i,f::l=>(if Zh fr i=true then qe4 f to else f)::VY fr to (i+1) l
def El(t:Tbk)(z:U64×U64):Option (Tbk×Unit):=if t.fol.length<=100000 then some ({ t with fol:=VY z.1 z.2 0 t.fol },())else none
def qmG(a b:Prt):Prt:=⟨if a.nul=true then qe4 a.first b.first else a.first,if b.nul=true then qe4 b.last a.last else b.last,a.nul && b.nul⟩
def yH(t:Tbk)(z:Prt×Prt):Option (Tbk×Prt):=(El t (z.1.last,z.2.first)).map fun q=>(q.1,qmG z.1 z.2)
def CB:Prt:=⟨⟨0⟩,⟨0⟩,true⟩
def qsb:Prt:=⟨⟨0⟩,⟨0⟩,false⟩
def qno(f:Tbk->Rx->Option (Tbk×Prt)):List Rx->Tbk->Prt->Option (Tbk×Prt)
 | [],t,p=>some (t,p)
 | x::l,t,p=>(f t x).bind fun q=>(yH q.1 (p,q.2)).bind fun r=>qno f l r.1 r.2
def Zq(f:Tbk->Rx->Option (Tbk×Prt)):List Rx->Tbk->Prt->Option (Tbk×Prt)
 | [],t,p=>some (t,p)
 | x::l,t,p=>(f t x).bind fun q=>Zq f l q.1 ⟨qe4 p.first q.2.first,qe4 p.last q.2.last,p.nul||q.2.nul⟩
def OC(t:Tbk):Bool:=decide (t.lvs.length<=1000/\t.fol.length<=1000)
def qj4(b r:Tbk->Rx->Option (Tbk×Prt))(t:Tbk)(x:Rx):Option (Tbk×Prt):=
 if OC t=false\/1000 < x.kids.length then none else
 if x.op=1 then some ({ t with lvs:=t.lvs++ [x.rs],fol:=t.fol++ [⟨0⟩] },⟨⟨Qt .u64 1 t.lvs.length⟩,⟨Qt .u64 1 t.lvs.length⟩,false⟩)else
 if x.op=2 then qno b x.kids t CB else
 if x.op=3 then Zq b x.kids t qsb else r t x
def ql4(b:Tbk->Rx->Option (Tbk×Prt))(y:Rx)(mx:Int):Nat->Tbk->Prt->Option (Tbk×Prt×Bool)
 | 0,t,p=>some (t,p,false)
 | k+1,t,p=>if OC t=false then none else(b t y).bind fun q=>if OC q.1=false then none else
   if q.1.lvs.length=t.lvs.length then some (q.1,CB,true)else
   (if mx < 0/\k=0 then El q.1 (q.2.last,q.2.first)else some (q.1,())).bind fun l=>(yH l.1 (p,q.2)).bind fun r=>ql4 b y mx k r.1 r.2
def qaX(b:Tbk->Rx->Option (Tbk×Prt))(o:Tbk->Rx×Int->Option (Tbk×Prt))(t:Tbk)(x:Rx):Option (Tbk×Prt):=match x.kids with
 | []=>none
 | y::_=>if x.mn < 0\/100 < x.mn\/x.mx < -1\/100 < x.mx then none else
   (ql4 b y x.mx x.mn.toNat t CB).bind fun q=>if q.2.2=true then some (q.1,CB)else
   if x.mx < 0/\x.mn=0 then(b q.1 y).bind fun r=>(El r.1 (r.2.last,r.2.first)).map fun l=>(l.1, { r.2 with nul:=true })else
   if x.mn < x.mx then(o q.1 (y,x.mx -x.mn)).bind fun r=>yH r.1 (q.2.1,r.2)else some (q.1,q.2.1)
def qiR(b:Tbk->Rx->Option (Tbk×Prt))(o:Tbk->Rx×Int->Option (Tbk×Prt))(t:Tbk)(z:Rx×Int):Option (Tbk×Prt):=
 if z.2 < 0\/100 < z.2\/OC t=false then none else
 if z.2=0 then some (t,CB)else
 (b t z.1).bind fun q=>if OC q.1=false then none else
 if q.1.lvs.length=t.lvs.length then some (q.1,CB)else
 (o q.1 (z.1,z.2 -1)).bind fun r=>(yH r.1 (q.2,r.2)).map fun l=>(l.1, { l.2 with nul:=true })
structure qwK where
 b:Tbk->Rx->Option (Tbk×Prt)
 r:Tbk->Rx->Option (Tbk×Prt)
 o:Tbk->Rx×Int->Option (Tbk×Prt)
def C7:Nat->qwK
 | 0=>⟨fun _ _=>none,fun _ _=>none,fun _ _=>none⟩
 | n+1=>⟨qj4 (C7 n).b (C7 n).r,qaX (C7 n).b (C7 n).o,qiR (C7 n).b (C7 n).o⟩
def qwc:Tbk:=⟨[],⟨0⟩,⟨0⟩, [],false⟩
def qeC(n:Nat)(x:Rx):Option Tbk:=((C7 n).b qwc x).map fun q=>{ q.1 with fi:=q.2.first,la:=q.2.last,nul:=q.2.nul }
def qg8(set:U64):Nat->List U64->U64->U64
 | _, [],m=>m
 | i,f::l,m=>qg8 set (i+1) l (if Zh set i=true then qe4 m f else m)
def Ad(t:Tbk)(set:U64)(beg:Bool):U64:=if beg=true then t.fi else qg8 set 0 t.fol ⟨0⟩
end Go.Gv
