/- A part of the framework and of the walks: V2 V50 V51 V52 V53. -/
import Derived.Test.YtphdikcommfnhaaGreatDoorGe19
set_option linter.unusedSimpArgs false
set_option linter.unusedVariables false
set_option linter.unusedSectionVars false

namespace Go.Gv
open Cod (enc dec)
structure Cond where
 op:Int
 name:B
 arg:B
 val:B
 lab:B
 fold:Bool
 kids:List Cond
mutual
def KM:Cond->D
 | .mk op n a v l f ks=> .agg [enc op,enc n,enc a,enc v,enc l,enc f, .list 7 (yU ks)]
def yU:List Cond->List D
 | []=>[]
 | k::ks=>KM k::yU ks
end
mutual
def Ml:D->Option Cond
 | .agg [x0,x1,x2,x3,x4,x5,x6]=>(dec x0).bind fun op=>(dec x1).bind fun n=>(dec x2).bind fun a=>(dec x3).bind fun v=>(dec x4).bind fun l=>(dec x5).bind fun f=>(SB x6).bind fun ks=>some (.mk op n a v l f ks)
 | _=>none
def SB:D->Option (List Cond)
 | .list n es=>if n=7 then AR es else none
 | .v (.slice none 0 0)=>some []
 | _=>none
def AR:List D->Option (List Cond)
 | []=>some []
 | d::ds=>(Ml d).bind fun x=>(AR ds).bind fun xs=>some (x::xs)
end
theorem Gk:∀l:List Cond,yU l=l.map KM
 | []=>rfl
 | _::l=>by rw[yU,Gk l];rfl
theorem Xc:∀c:Cond,(KM c).kn=true
 | .mk .. =>rfl
theorem Sj:∀c:Cond,(KM c).cells.length=7
 | .mk .. =>rfl
mutual
theorem SG:∀c:Cond,Ml (KM c)=some c
 | .mk op n a v l f ks=>by
   have h:SB (.list 7 (yU ks))=some ks:=by rw[SB,if_pos rfl];exact Nv ks
   simp only[KM,Ml,Cod.dec_enc,qxR,h]
theorem Nv:∀l:List Cond,AR (yU l)=some l
 | []=>by simp only[yU,AR]
 | c::l=>by simp only[yU,AR,SG c,Nv l,qxR]
end
mutual
theorem Xj:∀ (d:D) (c:Cond),Ml d=some c->FrzTo bM d (KM c)
 | .agg [x0,x1,x2,x3,x4,x5,x6],c,h=>by
   simp only[Ml,qxx,qxN]at h
   obtain⟨op,h0,n,h1,a,h2,v,h3,l,h4,f,h5,ks,h6,rfl⟩:=h
   rw[KM]
   exact LeL.agg (.cons (Cod.le _ _ h0) (.cons (Cod.le _ _ h1) (.cons (Cod.le _ _ h2) (.cons (Cod.le _ _ h3) (.cons (Cod.le _ _ h4) (.cons (Cod.le _ _ h5) (.cons (Xh x6 ks h6) .nil)))))))
theorem Xh:∀ (d:D) (l:List Cond),SB d=some l->FrzTo bM d (.list 7 (yU l))
 | .list n es,l,h=>by
   simp only[SB]at h
   split at h
   ·rename_i hn
    subst hn
    have hl:=SF es l h
    refine .list hl.1 (fun e he=>?_) hl.2
    rw[Gk]at he
    obtain⟨x,hx,rfl⟩:=qxL.1 he
    exact⟨Xc x,Sj x⟩
   ·cases h
 | .v (.slice none 0 0),l,h=>by
   simp only[SB,qxN]at h
   subst h
   exact .nil _
theorem SF:∀ (es:List D) (l:List Cond),AR es=some l->LeL es (yU l)
 | [],l,h=>by
   simp only[AR,qxN]at h
   subst h
   exact .nil
 | d::ds,l,h=>by
   simp only[AR,qxx,qxN]at h
   obtain⟨x,h1,xs,h2,rfl⟩:=h
   rw[yU]
   exact .cons (Xj d x h1) (SF ds xs h2)
end
instance:Cod Cond where
 wd:=7
 enc:=KM
 dec:=Ml
 kn:=Xc
 wid:=Sj
 dec_enc:=SG
 le:=Xj
theorem Np(ks:List Cond):D.list 7 (yU ks)=enc ks:=by rw[Gk];rfl
theorem KH(op:Int)(n a v l:B)(f:Bool)(ks:List Cond):enc (Cond.mk op n a v l f ks)= .agg [enc op,enc n,enc a,enc v,enc l,enc f,enc ks]:=by
 rw[<-Np]
 show KM _=_
 rw[KM]
structure Pat where
 op:Int
 cond:Cond
 lab:B
 reg:B
 mn:Int
 mx:Int
 kids:List Pat
def AT:Cond->List D
 | .mk op n a v l f ks=>[enc op,enc n,enc a,enc v,enc l,enc f,enc ks]
theorem KY:∀c:Cond,(AT c).length=7
 | .mk .. =>rfl
mutual
def H5:Pat->D
 | .mk op c l r mn mx ks=> .agg (enc op::(AT c++ [enc l,enc r,enc mn,enc mx, .list 13 (yS ks)]))
def yS:List Pat->List D
 | []=>[]
 | k::ks=>H5 k::yS ks
end
mutual
def SA:D->Option Pat
 | .agg [x0,y0,y1,y2,y3,y4,y5,y6,x1,x2,x3,x4,x5]=>(dec x0).bind fun op=>(dec (D.agg [y0,y1,y2,y3,y4,y5,y6])).bind fun c=>(dec x1).bind fun l=>(dec x2).bind fun r=>(dec x3).bind fun mn=>(dec x4).bind fun mx=>(Hk x5).bind fun ks=>some (.mk op c l r mn mx ks)
 | _=>none
def Hk:D->Option (List Pat)
 | .list n es=>if n=13 then AP es else none
 | .v (.slice none 0 0)=>some []
 | _=>none
def AP:List D->Option (List Pat)
 | []=>some []
 | d::ds=>(SA d).bind fun x=>(AP ds).bind fun xs=>some (x::xs)
end
theorem Gi:∀l:List Pat,yS l=l.map H5
 | []=>rfl
 | _::l=>by rw[yS,Gi l];rfl
theorem Xa:∀c:Pat,(H5 c).kn=true
 | .mk .. =>rfl
theorem Sh:∀c:Pat,(H5 c).cells.length=13
 | .mk op c l r mn mx ks=>by simp[H5,D.cells,KY]
mutual
theorem Sz:∀c:Pat,SA (H5 c)=some c
 | .mk op (.mk cop n a v cl f cks) l r mn mx ks=>by
   have h:Hk (.list 13 (yS ks))=some ks:=by rw[Hk,if_pos rfl];exact Nt ks
   have hc:dec (D.agg [enc cop,enc n,enc a,enc v,enc cl,enc f,enc cks])=some (Cond.mk cop n a v cl f cks):=by rw[<-KH];exact Cod.dec_enc _
   simp only[H5,AT,qyf,qyq,SA,Cod.dec_enc,qxR,h,hc]
theorem Nt:∀l:List Pat,AP (yS l)=some l
 | []=>by simp only[yS,AP]
 | c::l=>by simp only[yS,AP,Sz c,Nt l,qxR]
end
theorem ZB{y0 y1 y2 y3 y4 y5 y6:D}{c:Cond}(h:dec (D.agg [y0,y1,y2,y3,y4,y5,y6])=some c):LeL [y0,y1,y2,y3,y4,y5,y6] (AT c):=by
 have h':Ml (D.agg [y0,y1,y2,y3,y4,y5,y6])=some c:=h
 simp only[Ml,qxx,qxN]at h'
 obtain⟨op,h0,n,h1,a,h2,v,h3,l,h4,f,h5,ks,h6,rfl⟩:=h'
 have hk:=Xh y6 ks h6
 rw[Np]at hk
 exact .cons (Cod.le _ _ h0) (.cons (Cod.le _ _ h1) (.cons (Cod.le _ _ h2) (.cons (Cod.le _ _ h3) (.cons (Cod.le _ _ h4) (.cons (Cod.le _ _ h5) (.cons hk .nil))))))
theorem LeL.append{a b c d:List D}(h:LeL a b)(k:LeL c d):LeL (a++c) (b++d):=by
 refine⟨by simp[h.1,k.1],fun i x y hx hy=>?_⟩
 rw[List.getElem?_append]at hx hy
 by_cases hi:i < a.length
 ·rw[if_pos hi]at hx
  rw[if_pos (by rw[<-h.1];exact hi)]at hy
  exact h.2 i x y hx hy
 ·rw[if_neg hi]at hx
  rw[if_neg (by rw[<-h.1];exact hi),<-h.1]at hy
  exact k.2 _ x y hx hy
mutual
theorem Xg:∀ (d:D) (c:Pat),SA d=some c->FrzTo bM d (H5 c)
 | .agg [x0,y0,y1,y2,y3,y4,y5,y6,x1,x2,x3,x4,x5],c,h=>by
   simp only[SA,qxx,qxN]at h
   obtain⟨op,h0,c,h1,l,h2,r,h3,mn,h4,mx,h5,ks,h6,rfl⟩:=h
   rw[H5]
   exact LeL.agg (.cons (Cod.le _ _ h0) ((ZB h1).append (.cons (Cod.le _ _ h2) (.cons (Cod.le _ _ h3) (.cons (Cod.le _ _ h4) (.cons (Cod.le _ _ h5) (.cons (qdp x5 ks h6) .nil)))))))
theorem qdp:∀ (d:D) (l:List Pat),Hk d=some l->FrzTo bM d (.list 13 (yS l))
 | .list n es,l,h=>by
   simp only[Hk]at h
   split at h
   ·rename_i hn
    subst hn
    have hl:=Sy es l h
    refine .list hl.1 (fun e he=>?_) hl.2
    rw[Gi]at he
    obtain⟨x,hx,rfl⟩:=qxL.1 he
    exact⟨Xa x,Sh x⟩
   ·cases h
 | .v (.slice none 0 0),l,h=>by
   simp only[Hk,qxN]at h
   subst h
   exact .nil _
theorem Sy:∀ (es:List D) (l:List Pat),AP es=some l->LeL es (yS l)
 | [],l,h=>by
   simp only[AP,qxN]at h
   subst h
   exact .nil
 | d::ds,l,h=>by
   simp only[AP,qxx,qxN]at h
   obtain⟨x,h1,xs,h2,rfl⟩:=h
   rw[yS]
   exact .cons (Xg d x h1) (Sy ds xs h2)
end
instance:Cod Pat where
 wd:=13
 enc:=H5
 dec:=SA
 kn:=Xa
 wid:=Sh
 dec_enc:=Sz
 le:=Xg
theorem Zx(ks:List Pat):D.list 13 (yS ks)=enc ks:=by rw[Gi];rfl
theorem Pm(op:Int)(c:Cond)(l r:B)(mn mx:Int)(ks:List Pat):enc (Pat.mk op c l r mn mx ks)= .agg (enc op::(AT c++ [enc l,enc r,enc mn,enc mx,enc ks])):=by
 rw[<-Zx]
 show H5 _=_
 rw[H5]
theorem KU:∀es:List D,AR es=es.mapM (dec (X:=Cond))
 | []=>by simp[AR]
 | d::es=>by
   rw[AR,qye,KU es]
   rfl
theorem qgP:∀d:D,SB d=dec (X:=List Cond) d:=fun d=>by
 unfold SB
 split
 ·rename_i n es
  show _=if n=7 then es.mapM (dec (X:=Cond))else none
  rw[KU]
 ·rfl
 ·rename_i h1 h2
  show _=(match d with
   | .list n es=>if n=7 then es.mapM (dec (X:=Cond))else none
   | .v (.slice none 0 0)=>some []
   | _=>none)
  split
  ·exact absurd rfl (h1 _ _)
  ·exact absurd rfl h2
  ·rfl
theorem KS:∀es:List D,AP es=es.mapM (dec (X:=Pat))
 | []=>by simp[AP]
 | d::es=>by
   rw[AP,qye,KS es]
   rfl
theorem qdq:∀d:D,Hk d=dec (X:=List Pat) d:=fun d=>by
 unfold Hk
 split
 ·rename_i n es
  show _=if n=13 then es.mapM (dec (X:=Pat))else none
  rw[KS]
 ·rfl
 ·rename_i h1 h2
  show _=(match d with
   | .list n es=>if n=13 then es.mapM (dec (X:=Pat))else none
   | .v (.slice none 0 0)=>some []
   | _=>none)
  split
  ·exact absurd rfl (h1 _ _)
  ·exact absurd rfl h2
  ·rfl
@[simp] theorem EQ(s:Cond):Cond.mk s.op s.name s.arg s.val s.lab s.fold s.kids=s:=by cases s;rfl
@[simp] theorem qc7(s:Cond):enc s= .agg [enc s.op,enc s.name,enc s.arg,enc s.val,enc s.lab,enc s.fold,enc s.kids]:=by cases s;exact KH ..
@[simp] theorem qo3:Cod.wd Cond=7:=id rfl
@[simp] theorem qdm(x0 x1 x2 x3 x4 x5 x6:D):dec (X:=Cond) (.agg [x0,x1,x2,x3,x4,x5,x6])=((dec x0).bind fun x0=>(dec x1).bind fun x1=>(dec x2).bind fun x2=>(dec x3).bind fun x3=>(dec x4).bind fun x4=>(dec x5).bind fun x5=>(dec x6).bind fun x6=>some ⟨x0,x1,x2,x3,x4,x5,x6⟩):=by
 show Ml _=_
 simp only[Ml,qgP]
@[simp] theorem qqS(s:Pat):Pat.mk s.op s.cond s.lab s.reg s.mn s.mx s.kids=s:=by cases s;rfl
@[simp] theorem Po(s:Pat):enc s= .agg [enc s.op,enc s.cond.op,enc s.cond.name,enc s.cond.arg,enc s.cond.val,enc s.cond.lab,enc s.cond.fold,enc s.cond.kids,enc s.lab,enc s.reg,enc s.mn,enc s.mx,enc s.kids]:=by
 obtain⟨op,⟨a,b,c,d,e,f,g⟩,l,r,mn,mx,ks⟩:=s
 exact Pm ..
@[simp] theorem qsf:Cod.wd Pat=13:=id rfl
@[simp] theorem qrb(x0 y0 y1 y2 y3 y4 y5 y6 x1 x2 x3 x4 x5:D):dec (X:=Pat) (.agg [x0,y0,y1,y2,y3,y4,y5,y6,x1,x2,x3,x4,x5])=
 ((dec x0).bind fun x0=>(dec y0).bind fun y0=>(dec y1).bind fun y1=>(dec y2).bind fun y2=>(dec y3).bind fun y3=>(dec y4).bind fun y4=>(dec y5).bind fun y5=>(dec y6).bind fun y6=>
   (dec x1).bind fun x1=>(dec x2).bind fun x2=>(dec x3).bind fun x3=>(dec x4).bind fun x4=>(dec x5).bind fun x5=>some ⟨x0,⟨y0,y1,y2,y3,y4,y5,y6⟩,x1,x2,x3,x4,x5⟩):=by
 show SA _=_
 simp only[SA,qdq,qdm,Option.bind_assoc,qxR]
end Go.Gv

namespace Go.Gv
open Cod (enc dec)
structure U64 where
 val:Int
deriving DecidableEq
instance:Cod U64 where
 wd:=1
 enc n:= .v (.int .u64 n.val)
 dec| .v (.int .u64 n)=>some ⟨n⟩|_=>none
 kn _:=rfl
 wid _:=rfl
 dec_enc _:=rfl
 le d x h:=by
  split at h
  ·cases h;exact .same _
  ·cases h
@[simp] theorem qqU(n:U64):enc n= .v (.int .u64 n.val):=id rfl
@[simp] theorem qr9:Cod.wd U64=1:=id rfl
@[simp] theorem qq4(n:Int):dec (X:=U64) (.v (.int .u64 n))=some ⟨n⟩:=id rfl
@[simp] theorem qqK(n:U64):U64.mk n.val=n:=id rfl
structure Rng where
 fr:I32
 to:I32
deriving DecidableEq
instance:Cod Rng where
 wd:=2
 enc s:= .agg [enc s.fr,enc s.to]
 dec| .agg [x0,x1]=>(dec x0).bind fun x0=>(dec x1).bind fun x1=>some ⟨x0,x1⟩|_=>none
 kn _:=rfl
 wid _:=rfl
 dec_enc s:=by simp
 le d x h:=by
  split at h
  ·simp only[qxx]at h
   obtain⟨x0,h0,x1,h1,h⟩:=h
   cases h
   exact LeL.agg (.cons (Cod.le _ _ h0) (.cons (Cod.le _ _ h1) .nil))
  ·cases h
@[simp] theorem qqO(s:Rng):(Rng.mk s.fr s.to)=s:=id rfl
@[simp] theorem qqZ(s:Rng):enc s= .agg [enc s.fr,enc s.to]:=id rfl
@[simp] theorem qse:Cod.wd Rng=2:=id rfl
@[simp] theorem qq8(x0 x1:D):dec (X:=Rng) (.agg [x0,x1])=((dec x0).bind fun x0=>(dec x1).bind fun x1=>some ⟨x0,x1⟩):=id rfl
structure Rx where
 op:Int
 mn:Int
 mx:Int
 rs:List Rng
 kids:List Rx
mutual
def KJ:Rx->D
 | .mk op mn mx rs ks=> .agg [enc op,enc mn,enc mx,enc rs, .list 5 (yR ks)]
def yR:List Rx->List D
 | []=>[]
 | k::ks=>KJ k::yR ks
end
mutual
def Sx:D->Option Rx
 | .agg [x0,x1,x2,x3,x4]=>(dec x0).bind fun op=>(dec x1).bind fun mn=>(dec x2).bind fun mx=>(dec x3).bind fun rs=>(Hj x4).bind fun ks=>some (.mk op mn mx rs ks)
 | _=>none
def Hj:D->Option (List Rx)
 | .list n es=>if n=5 then AO es else none
 | .v (.slice none 0 0)=>some []
 | _=>none
def AO:List D->Option (List Rx)
 | []=>some []
 | d::ds=>(Sx d).bind fun x=>(AO ds).bind fun xs=>some (x::xs)
end
theorem Gh:∀l:List Rx,yR l=l.map KJ
 | []=>rfl
 | _::l=>by rw[yR,Gh l];rfl
theorem WZ:∀c:Rx,(KJ c).kn=true
 | .mk .. =>rfl
theorem Sf:∀c:Rx,(KJ c).cells.length=5
 | .mk .. =>rfl
mutual
theorem Sw:∀c:Rx,Sx (KJ c)=some c
 | .mk op mn mx rs ks=>by
   have h:Hj (.list 5 (yR ks))=some ks:=by rw[Hj,if_pos rfl];exact Ns ks
   simp only[KJ,Sx,Cod.dec_enc,qxR,h]
theorem Ns:∀l:List Rx,AO (yR l)=some l
 | []=>by simp only[yR,AO]
 | c::l=>by simp only[yR,AO,Sw c,Ns l,qxR]
end
mutual
theorem Xf:∀ (d:D) (c:Rx),Sx d=some c->FrzTo bM d (KJ c)
 | .agg [x0,x1,x2,x3,x4],c,h=>by
   simp only[Sx,qxx,qxN]at h
   obtain⟨op,h0,mn,h1,mx,h2,rs,h3,ks,h4,rfl⟩:=h
   rw[KJ]
   exact LeL.agg (.cons (Cod.le _ _ h0) (.cons (Cod.le _ _ h1) (.cons (Cod.le _ _ h2) (.cons (Cod.le _ _ h3) (.cons (qdn x4 ks h4) .nil)))))
theorem qdn:∀ (d:D) (l:List Rx),Hj d=some l->FrzTo bM d (.list 5 (yR l))
 | .list n es,l,h=>by
   simp only[Hj]at h
   split at h
   ·rename_i hn
    subst hn
    have hl:=Sv es l h
    refine .list hl.1 (fun e he=>?_) hl.2
    rw[Gh]at he
    obtain⟨x,hx,rfl⟩:=qxL.1 he
    exact⟨WZ x,Sf x⟩
   ·cases h
 | .v (.slice none 0 0),l,h=>by
   simp only[Hj,qxN]at h
   subst h
   exact .nil _
theorem Sv:∀ (es:List D) (l:List Rx),AO es=some l->LeL es (yR l)
 | [],l,h=>by
   simp only[AO,qxN]at h
   subst h
   exact .nil
 | d::ds,l,h=>by
   simp only[AO,qxx,qxN]at h
   obtain⟨x,h1,xs,h2,rfl⟩:=h
   rw[yR]
   exact .cons (Xf d x h1) (Sv ds xs h2)
end
instance:Cod Rx where
 wd:=5
 enc:=KJ
 dec:=Sx
 kn:=WZ
 wid:=Sf
 dec_enc:=Sw
 le:=Xf
theorem Zw(ks:List Rx):D.list 5 (yR ks)=enc ks:=by rw[Gh];rfl
theorem qc4(op mn mx:Int)(rs:List Rng)(ks:List Rx):enc (Rx.mk op mn mx rs ks)= .agg [enc op,enc mn,enc mx,enc rs,enc ks]:=by
 rw[<-Zw]
 show KJ _=_
 rw[KJ]
theorem KR:∀es:List D,AO es=es.mapM (dec (X:=Rx))
 | []=>by simp[AO]
 | d::es=>by
   rw[AO,qye,KR es]
   rfl
theorem qdo:∀d:D,Hj d=dec (X:=List Rx) d:=fun d=>by
 unfold Hj
 split
 ·rename_i n es
  show _=if n=5 then es.mapM (dec (X:=Rx))else none
  rw[KR]
 ·rfl
 ·rename_i h1 h2
  show _=(match d with
   | .list n es=>if n=5 then es.mapM (dec (X:=Rx))else none
   | .v (.slice none 0 0)=>some []
   | _=>none)
  split
  ·exact absurd rfl (h1 _ _)
  ·exact absurd rfl h2
  ·rfl
@[simp] theorem qt3(s:Rx):Rx.mk s.op s.mn s.mx s.rs s.kids=s:=by cases s;rfl
@[simp] theorem qua(s:Rx):enc s= .agg [enc s.op,enc s.mn,enc s.mx,enc s.rs,enc s.kids]:=by cases s;exact qc4 ..
@[simp] theorem qvr:Cod.wd Rx=5:=id rfl
@[simp] theorem qui(x0 x1 x2 x3 x4:D):dec (X:=Rx) (.agg [x0,x1,x2,x3,x4])=((dec x0).bind fun x0=>(dec x1).bind fun x1=>(dec x2).bind fun x2=>(dec x3).bind fun x3=>(dec x4).bind fun x4=>some ⟨x0,x1,x2,x3,x4⟩):=by
 show Sx _=_
 simp only[Sx,qdo]
end Go.Gv

namespace Go.Gv
open Cod (enc dec)
structure Rp where
 s:B
 pos:Int
 fault:Int
 e:Int
def Rp.bump(p:Rp):Rp:={ p with pos:=p.pos+1 }
def K5(p:Rp):Option Int:=
 if 200 < p.s.size then none else
 if p.pos=p.s.size then some (-1)else
 if 0<=p.pos then match p.s.data[p.pos.toNat]? with
  | some c=>if c.toNat < 128 then some c.toNat else none
  | none=>none
 else none
def qgn(sp:B)(c:Int):Bool:=sp.data.toList.any fun x=>decide ((x.toNat:Int)=c)
def kD(p:Rp)(_:Unit):Option (Rp×I32):=(K5 p).map fun c=>(p,⟨c⟩)
def ME(p:Rp)(_:Unit):Option (Rp×Unit):=(K5 p).bind fun c=>if 0<=c then some (p.bump,())else none
def B1(p:Rp)(_:B):Option (Rp× (I32×Bool)):=(K5 p).bind fun c=>if c < 0\/c=92 then none else some (p.bump,⟨c⟩,true)
def Xo:B:=⟨#[92,91,93,94,45]⟩
def Rz(p:Rp)(_:Unit):Option (Rp× (I32×Bool)):=(K5 p).bind fun c=>if c < 0\/qgn Xo c=true then none else B1 p Xo
def qaH(fr to:Int):Rx:=⟨1,0,0, [⟨⟨fr⟩,⟨to⟩⟩], []⟩
def sx(out:List Rng)(r:Rng):List Rng:=match out.getLast? with
 | some q=>if r.fr.val<=q.to.val+1 then out.dropLast++ [⟨q.fr,⟨max q.to.val r.to.val⟩⟩]else out++ [r]
 | none=>[r]
def FB(l:List Rng):Bool:=match l with
 | [x]=>decide (0<=x.fr.val/\x.fr.val<=1114111/\0<=x.to.val/\x.to.val<=1114111)
 | [x,y]=>decide (0<=x.fr.val/\x.fr.val<=1114111/\0<=x.to.val/\x.to.val<=1114111/\0<=y.fr.val/\y.fr.val<=1114111/\0<=y.to.val/\y.to.val<=1114111/\x.fr.val<=y.fr.val)
 | _=>false
def EA(l:List Rng):List Rng:=l.foldl sx []
def qdA:Nat->Rp->List Rng->Option (Rp×List Rng)
 | 0,_,_=>none
 | n+1,p,l=>(K5 p).bind fun c=>if l≠ []/\c=93 then some (p,l)else
   (Rz p ()).bind fun q=>(K5 q.1).bind fun d=>if d=45 then none else qdA n q.1 (l++ [⟨q.2.1,q.2.1⟩])
def qgU(p:Rp)(_:Unit):Option (Rp× (Rx×Bool)):=(K5 p).bind fun a=>if a≠91 then none else(K5 p.bump).bind fun c=>if c=94 then none else
 (qdA 100 p.bump []).bind fun q=>if FB q.2=true then some (q.1.bump,⟨1,0,0,EA q.2, []⟩,true)else none
def qmM:B:=⟨#[92,46,91,93,40,41,123,125,124,42,43,63]⟩
def Xv(p:Rp)(_:Unit):Option (Rp× (Rx×Bool)):=(K5 p).bind fun c=>
 if c=40 then none else if c=46 then some (p.bump,qaH 0 1114111,true)else if c=91 then qgU p ()else
 if c≠92/\qgn qmM c=true then none else(B1 p qmM).map fun q=>(q.1,qaH q.2.1.val q.2.1.val,q.2.2)
def LZ(c:Int):Option (Int×Int):=if c=42 then some (0, -1)else if c=43 then some (1, -1)else if c=63 then some (0,1)else none
def qbv(p:Rp)(_:Unit):Option (Rp× (Rx×Bool)):=(Xv p ()).bind fun q=>if q.2.2=true then(K5 q.1).bind fun c=>if c=123 then none else match LZ c with
 | some m=>(K5 q.1.bump).bind fun d=>if d=123\/(LZ d).isSome=true then none else some (q.1.bump,⟨4,m.1,m.2, [], [q.2.1]⟩,true)
 | none=>some (q.1,q.2.1,true)
 else none
def SK:Nat->Rp->List Rx->Option (Rp×List Rx)
 | 0,_,_=>none
 | n+1,p,l=>(K5 p).bind fun c=>if c < 0\/c=124\/c=41 then some (p,l)else
   (qbv p ()).bind fun q=>if q.2.1.op=2 then none else SK n q.1 (l++ [q.2.1])
def Uz(op:Int):List Rx->Rx
 | [e]=>e
 | l=>⟨op,0,0, [],l⟩
def qdE(p:Rp)(_:Unit):Option (Rp× (Rx×Bool)):=(SK 100 p []).map fun q=>(q.1,Uz 2 q.2,true)
def qam:Nat->Rp->List Rx->Option (Rp×List Rx)
 | 0,_,_=>none
 | n+1,p,l=>(qdE p ()).bind fun q=>(K5 q.1).bind fun c=>
   if q.2.1.op=3 then none else if c=124 then qam n q.1.bump (l++ [q.2.1])else some (q.1,l++ [q.2.1])
def qff(p:Rp)(_:Unit):Option (Rp× (Rx×Bool)):=(qam 100 p []).map fun q=>(q.1,Uz 3 q.2,true)
end Go.Gv

namespace Go.Gv
open Cod (enc dec)
def qmF(f:Rx->Int->Int->Option (Bool×Int))(d:Int):List Rx->Int->Option (Bool×Int)
 | [],k=>some (true,k)
 | x::l,k=>(f x (d+1) k).bind fun r=>if r.1=true then qmF f d l r.2 else some (false,r.2)
def vm:Nat->Rx->Int->Int->Option (Bool×Int)
 | 0=>fun _ _ _=>none
 | n+1=>fun x d k=>if d < 0\/1000 < d\/k < 0\/1000 < k then none else if 40 < d\/200 < k+1 then some (false,k+1)else qmF (vm n) d x.kids (k+1)
def Wv(l:List Rng):Bool:=match l with
 | [r]=>decide (0<=r.fr.val/\r.fr.val<=r.to.val/\r.to.val<=1114111)
 | _=>false
def qm0(x:Rx):Bool:=
 if x.op=1 then decide (x.mn=0/\x.mx=0) && x.kids.isEmpty && Wv x.rs else
 if x.op=2 then decide (x.mn=0/\x.mx=0) && x.rs.isEmpty && decide (x.kids.length≠1/\x.kids.length<=300) && x.kids.all fun k=>decide (k.op≠2)else
 if x.op=3 then decide (x.mn=0/\x.mx=0) && x.rs.isEmpty && decide (1 < x.kids.length/\x.kids.length<=300) && x.kids.all fun k=>decide (k.op≠3)else
 if x.op=4 then decide (0<=x.mn/\x.mn<=16/\(x.mx= -1\/x.mn<=x.mx/\x.mx<=16)) && x.rs.isEmpty && decide (x.kids.length=1)else false
def YH:Nat->Rx->Bool
 | 0=>fun _=>false
 | n+1=>fun x=>qm0 x && x.kids.all (YH n)
def qmU(f:Rx->Option Int):List Rx->Int->Option Int
 | [],k=>some k
 | x::l,k=>(f x).bind fun y=>if k < 0\/1000 < k\/y < 0\/1000 < y then none else qmU f l (min (k+y) 65)
def qmW(x:Rx)(m:Int):Option Int:=
 if x.mx= -1 then(if -1000000<=m*max x.mn 1/\m*max x.mn 1<=1000000 then some (min (m*max x.mn 1) 65)else none)
 else if -1000000<=m*x.mx/\m*x.mx<=1000000 then some (min (m*x.mx) 65)else none
def JH:Nat->Rx->Option Int
 | 0=>fun _=>none
 | n+1=>fun x=>if x.op=1 then some 1 else(qmU (JH n) x.kids 0).bind fun m=>if x.op≠4 then some m else qmW x m
def Ch(n:Nat)(x:Rx):Bool:=(match vm n x 1 0 with|some r=>r.1|none=>false) && YH n x && (match JH n x with|some m=>decide (m<=64)|none=>false)
def wm(s:B):Bool:=s.data.toList.all fun c=>decide (c.toNat < 128)
def nz(s:B):Option Rx:=if s.size<=200/\wm s=true then(qff ⟨s,0,0,0⟩ ()).bind fun q=>if q.2.2=true/\q.1.pos=s.size/\Ch 50 q.2.1=true then some q.2.1 else none else none
end Go.Gv

namespace Go.Gv
open Cod (enc dec)
structure Prt where
 first:U64
 last:U64
 nul:Bool
deriving DecidableEq
instance:Cod Prt where
 wd:=3
 enc s:= .agg [enc s.first,enc s.last,enc s.nul]
 dec| .agg [x0,x1,x2]=>(dec x0).bind fun x0=>(dec x1).bind fun x1=>(dec x2).bind fun x2=>some ⟨x0,x1,x2⟩|_=>none
 kn _:=rfl
 wid _:=rfl
 dec_enc s:=by simp
 le d x h:=by
  split at h
  ·simp only[qxx]at h
   obtain⟨x0,h0,x1,h1,x2,h2,h⟩:=h
   cases h
   exact LeL.agg (.cons (Cod.le _ _ h0) (.cons (Cod.le _ _ h1) (.cons (Cod.le _ _ h2) .nil)))
  ·cases h
@[simp] theorem qqR(s:Prt):(Prt.mk s.first s.last s.nul)=s:=id rfl
@[simp] theorem qq1(s:Prt):enc s= .agg [enc s.first,enc s.last,enc s.nul]:=id rfl
@[simp] theorem qra(x0 x1 x2:D):dec (X:=Prt) (.agg [x0,x1,x2])=((dec x0).bind fun x0=>(dec x1).bind fun x1=>(dec x2).bind fun x2=>some ⟨x0,x1,x2⟩):=id rfl
structure Tbk where
 lvs:List (List Rng)
 fi:U64
 la:U64
 fol:List U64
 nul:Bool
def ZM(m:U64)(i:Nat):Bool:=decide (Vh .u64 (qaF .u64 m.val i) 1=1)
def qfK(a b:U64):U64:=⟨qmY .u64 a.val b.val⟩
def WC(fr to:U64):Nat->List U64->List U64
 | _, []=>[]
 | i,f::l=>(if ZM fr i=true then qfK f to else f)::WC fr to (i+1) l
def ED(t:Tbk)(z:U64×U64):Option (Tbk×Unit):=if t.fol.length<=100000 then some ({ t with fol:=WC z.1 z.2 0 t.fol },())else none
def qno(a b:Prt):Prt:=⟨if a.nul=true then qfK a.first b.first else a.first,if b.nul=true then qfK b.last a.last else b.last,a.nul && b.nul⟩
def yW(t:Tbk)(z:Prt×Prt):Option (Tbk×Prt):=(ED t (z.1.last,z.2.first)).map fun q=>(q.1,qno z.1 z.2)
def CU:Prt:=⟨⟨0⟩,⟨0⟩,true⟩
def qsT:Prt:=⟨⟨0⟩,⟨0⟩,false⟩
def qn4(f:Tbk->Rx->Option (Tbk×Prt)):List Rx->Tbk->Prt->Option (Tbk×Prt)
 | [],t,p=>some (t,p)
 | x::l,t,p=>(f t x).bind fun q=>(yW q.1 (p,q.2)).bind fun r=>qn4 f l r.1 r.2
def ZU(f:Tbk->Rx->Option (Tbk×Prt)):List Rx->Tbk->Prt->Option (Tbk×Prt)
 | [],t,p=>some (t,p)
 | x::l,t,p=>(f t x).bind fun q=>ZU f l q.1 ⟨qfK p.first q.2.first,qfK p.last q.2.last,p.nul||q.2.nul⟩
def OV(t:Tbk):Bool:=decide (t.lvs.length<=1000/\t.fol.length<=1000)
def qkL(b r:Tbk->Rx->Option (Tbk×Prt))(t:Tbk)(x:Rx):Option (Tbk×Prt):=
 if OV t=false\/1000 < x.kids.length then none else
 if x.op=1 then some ({ t with lvs:=t.lvs++ [x.rs],fol:=t.fol++ [⟨0⟩] },⟨⟨QM .u64 1 t.lvs.length⟩,⟨QM .u64 1 t.lvs.length⟩,false⟩)else
 if x.op=2 then qn4 b x.kids t CU else
 if x.op=3 then ZU b x.kids t qsT else r t x
def qmN(b:Tbk->Rx->Option (Tbk×Prt))(y:Rx)(mx:Int):Nat->Tbk->Prt->Option (Tbk×Prt×Bool)
 | 0,t,p=>some (t,p,false)
 | k+1,t,p=>if OV t=false then none else(b t y).bind fun q=>if OV q.1=false then none else
   if q.1.lvs.length=t.lvs.length then some (q.1,CU,true)else
   (if mx < 0/\k=0 then ED q.1 (q.2.last,q.2.first)else some (q.1,())).bind fun l=>(yW l.1 (p,q.2)).bind fun r=>qmN b y mx k r.1 r.2
def qbw(b:Tbk->Rx->Option (Tbk×Prt))(o:Tbk->Rx×Int->Option (Tbk×Prt))(t:Tbk)(x:Rx):Option (Tbk×Prt):=match x.kids with
 | []=>none
 | y::_=>if x.mn < 0\/100 < x.mn\/x.mx < -1\/100 < x.mx then none else
   (qmN b y x.mx x.mn.toNat t CU).bind fun q=>if q.2.2=true then some (q.1,CU)else
   if x.mx < 0/\x.mn=0 then(b q.1 y).bind fun r=>(ED r.1 (r.2.last,r.2.first)).map fun l=>(l.1, { r.2 with nul:=true })else
   if x.mn < x.mx then(o q.1 (y,x.mx -x.mn)).bind fun r=>yW r.1 (q.2.1,r.2)else some (q.1,q.2.1)
def qjx(b:Tbk->Rx->Option (Tbk×Prt))(o:Tbk->Rx×Int->Option (Tbk×Prt))(t:Tbk)(z:Rx×Int):Option (Tbk×Prt):=
 if z.2 < 0\/100 < z.2\/OV t=false then none else
 if z.2=0 then some (t,CU)else
 (b t z.1).bind fun q=>if OV q.1=false then none else
 if q.1.lvs.length=t.lvs.length then some (q.1,CU)else
 (o q.1 (z.1,z.2 -1)).bind fun r=>(yW r.1 (q.2,r.2)).map fun l=>(l.1, { l.2 with nul:=true })
structure qxu where
 b:Tbk->Rx->Option (Tbk×Prt)
 r:Tbk->Rx->Option (Tbk×Prt)
 o:Tbk->Rx×Int->Option (Tbk×Prt)
def Dm:Nat->qxu
 | 0=>⟨fun _ _=>none,fun _ _=>none,fun _ _=>none⟩
 | n+1=>⟨qkL (Dm n).b (Dm n).r,qbw (Dm n).b (Dm n).o,qjx (Dm n).b (Dm n).o⟩
def qwW:Tbk:=⟨[],⟨0⟩,⟨0⟩, [],false⟩
def qfi(n:Nat)(x:Rx):Option Tbk:=((Dm n).b qwW x).map fun q=>{ q.1 with fi:=q.2.first,la:=q.2.last,nul:=q.2.nul }
def qhP(set:U64):Nat->List U64->U64->U64
 | _, [],m=>m
 | i,f::l,m=>qhP set (i+1) l (if ZM set i=true then qfK m f else m)
def As(t:Tbk)(set:U64)(beg:Bool):U64:=if beg=true then t.fi else qhP set 0 t.fol ⟨0⟩
end Go.Gv
