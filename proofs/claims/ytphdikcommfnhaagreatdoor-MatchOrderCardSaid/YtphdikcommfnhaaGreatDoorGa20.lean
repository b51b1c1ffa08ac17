/- A part of the framework and of the walks: V2 V50 V51 V52 V53. -/
import Derived.Test.YtphdikcommfnhaaGreatDoorGa19
set_option linter.unusedSimpArgs false
set_option linter.unusedVariables false

namespace Go.Gv
open Cod (enc dec)
structure Cond where
 op:Int
 name:B
 arg:B
 val:B
 lab:B
 fold:Bool
 kids:List Cond
mutual
def FB:Cond->D
 | .mk op n a v l f ks=> .agg [enc op,enc n,enc a,enc v,enc l,enc f, .list 7 (tt ks)]
def tt:List Cond->List D
 | []=> []
 | k::ks=> FB k::tt ks
end
mutual
def GV:D->Option Cond
 | .agg [x0,x1,x2,x3,x4,x5,x6]=> (dec x0).bind fun op=> (dec x1).bind fun n=> (dec x2).bind fun a=> (dec x3).bind fun v=> (dec x4).bind fun l=> (dec x5).bind fun f=> (LK x6).bind fun ks=> some (.mk op n a v l f ks)
 | _=> none
def LK:D->Option (List Cond)
 | .list n es=> if n=7 then u1 es else none
 | .v (.slice none 0 0)=> some []
 | _=> none
def u1:List D->Option (List Cond)
 | []=> some []
 | d::ds=> (GV d).bind fun x=> (u1 ds).bind fun xs=> some (x::xs)
end
theorem BE: ∀l:List Cond,tt l=l.map FB
 | []=> rfl
 | _::l=> by rw[tt,BE l];rfl
theorem OX: ∀c:Cond,(FB c).kn=true
 | .mk .. => rfl
theorem Lt: ∀c:Cond,(FB c).cells.length=7
 | .mk .. => rfl
mutual
theorem LP: ∀c:Cond,GV (FB c)=some c
 | .mk op n a v l f ks=> by
   have h:LK (.list 7 (tt ks))=some ks:=by rw[LK,if_pos rfl];exact HW ks
   simp only[FB,GV,Cod.dec_enc,Option.bind_some,h]
theorem HW: ∀l:List Cond,u1 (tt l)=some l
 | []=> by simp only[tt,u1]
 | c::l=> by simp only[tt,u1,LP c,HW l,Option.bind_some]
end
mutual
theorem O4: ∀ (d:D) (c:Cond),GV d=some c->FrzTo ed d (FB c)
 | .agg [x0,x1,x2,x3,x4,x5,x6],c,h=> by
   simp only[GV,Option.bind_eq_some_iff,Option.some.injEq] at h
   obtain⟨op,h0,n,h1,a,h2,v,h3,l,h4,f,h5,ks,h6,rfl⟩:=h
   rw[FB]
   exact LeL.agg (.cons (Cod.le _ _ h0) (.cons (Cod.le _ _ h1) (.cons (Cod.le _ _ h2) (.cons (Cod.le _ _ h3) (.cons (Cod.le _ _ h4) (.cons (Cod.le _ _ h5) (.cons (O2 x6 ks h6) .nil)))))))
theorem O2: ∀ (d:D) (l:List Cond),LK d=some l->FrzTo ed d (.list 7 (tt l))
 | .list n es,l,h=> by
   simp only[LK] at h
   split at h
   ·rename_i hn
    subst hn
    have hl:=LO es l h
    refine .list hl.1 (fun e he=> ?_) hl.2
    rw[BE] at he
    obtain⟨x,hx,rfl⟩:=List.mem_map.1 he
    exact⟨OX x,Lt x⟩
   ·cases h
 | .v (.slice none 0 0),l,h=> by
   simp only[LK,Option.some.injEq] at h
   subst h
   exact .nil _
theorem LO: ∀ (es:List D) (l:List Cond),u1 es=some l->LeL es (tt l)
 | [],l,h=> by
   simp only[u1,Option.some.injEq] at h
   subst h
   exact .nil
 | d::ds,l,h=> by
   simp only[u1,Option.bind_eq_some_iff,Option.some.injEq] at h
   obtain⟨x,h1,xs,h2,rfl⟩:=h
   rw[tt]
   exact .cons (O4 d x h1) (LO ds xs h2)
end
instance:Cod Cond where
 wd:=7
 enc:=FB
 dec:=GV
 kn:=OX
 wid:=Lt
 dec_enc:=LP
 le:=O4
theorem HQ (ks:List Cond):D.list 7 (tt ks)=enc ks:=by rw[BE];rfl
theorem Fy (op:Int) (n a v l:B) (f:Bool) (ks:List Cond):enc (Cond.mk op n a v l f ks)= .agg [enc op,enc n,enc a,enc v,enc l,enc f,enc ks]:=by
 rw[<-HQ]
 show FB _=_
 rw[FB]
structure Pat where
 op:Int
 cond:Cond
 lab:B
 reg:B
 mn:Int
 mx:Int
 kids:List Pat
def u3:Cond->List D
 | .mk op n a v l f ks=> [enc op,enc n,enc a,enc v,enc l,enc f,enc ks]
theorem FP: ∀c:Cond,(u3 c).length=7
 | .mk .. => rfl
mutual
def C3:Pat->D
 | .mk op c l r mn mx ks=> .agg (enc op:: (u3 c++ [enc l,enc r,enc mn,enc mx, .list 13 (tr ks)]))
def tr:List Pat->List D
 | []=> []
 | k::ks=> C3 k::tr ks
end
mutual
def LJ:D->Option Pat
 | .agg [x0,y0,y1,y2,y3,y4,y5,y6,x1,x2,x3,x4,x5]=> (dec x0).bind fun op=> (dec (D.agg [y0,y1,y2,y3,y4,y5,y6])).bind fun c=> (dec x1).bind fun l=> (dec x2).bind fun r=> (dec x3).bind fun mn=> (dec x4).bind fun mx=> (Cm x5).bind fun ks=> some (.mk op c l r mn mx ks)
 | _=> none
def Cm:D->Option (List Pat)
 | .list n es=> if n=13 then uZ es else none
 | .v (.slice none 0 0)=> some []
 | _=> none
def uZ:List D->Option (List Pat)
 | []=> some []
 | d::ds=> (LJ d).bind fun x=> (uZ ds).bind fun xs=> some (x::xs)
end
theorem BC: ∀l:List Pat,tr l=l.map C3
 | []=> rfl
 | _::l=> by rw[tr,BC l];rfl
theorem OV: ∀c:Pat,(C3 c).kn=true
 | .mk .. => rfl
theorem Lr: ∀c:Pat,(C3 c).cells.length=13
 | .mk op c l r mn mx ks=> by simp[C3,D.cells,FP]
mutual
theorem LI: ∀c:Pat,LJ (C3 c)=some c
 | .mk op (.mk cop n a v cl f cks) l r mn mx ks=> by
   have h:Cm (.list 13 (tr ks))=some ks:=by rw[Cm,if_pos rfl];exact HU ks
   have hc:dec (D.agg [enc cop,enc n,enc a,enc v,enc cl,enc f,enc cks])=some (Cond.mk cop n a v cl f cks):=by rw[<-Fy];exact Cod.dec_enc _
   simp only[C3,u3,List.cons_append,List.nil_append,LJ,Cod.dec_enc,Option.bind_some,h,hc]
theorem HU: ∀l:List Pat,uZ (tr l)=some l
 | []=> by simp only[tr,uZ]
 | c::l=> by simp only[tr,uZ,LI c,HU l,Option.bind_some]
end
theorem Q0 {y0 y1 y2 y3 y4 y5 y6:D} {c:Cond} (h:dec (D.agg [y0,y1,y2,y3,y4,y5,y6])=some c):LeL [y0,y1,y2,y3,y4,y5,y6] (u3 c):=by
 have h':GV (D.agg [y0,y1,y2,y3,y4,y5,y6])=some c:=h
 simp only[GV,Option.bind_eq_some_iff,Option.some.injEq] at h'
 obtain⟨op,h0,n,h1,a,h2,v,h3,l,h4,f,h5,ks,h6,rfl⟩:=h'
 have hk:=O2 y6 ks h6
 rw[HQ] at hk
 exact .cons (Cod.le _ _ h0) (.cons (Cod.le _ _ h1) (.cons (Cod.le _ _ h2) (.cons (Cod.le _ _ h3) (.cons (Cod.le _ _ h4) (.cons (Cod.le _ _ h5) (.cons hk .nil))))))
theorem LeL.append {a b c d:List D} (h:LeL a b) (k:LeL c d):LeL (a++c) (b++d):=by
 refine⟨by simp[h.1,k.1],fun i x y hx hy=> ?_⟩
 rw[List.getElem?_append] at hx hy
 by_cases hi:i < a.length
 ·rw[if_pos hi] at hx
  rw[if_pos (by rw[<-h.1];exact hi)] at hy
  exact h.2 i x y hx hy
 ·rw[if_neg hi] at hx
  rw[if_neg (by rw[<-h.1];exact hi),<-h.1] at hy
  exact k.2 _ x y hx hy
mutual
theorem O1: ∀ (d:D) (c:Pat),LJ d=some c->FrzTo ed d (C3 c)
 | .agg [x0,y0,y1,y2,y3,y4,y5,y6,x1,x2,x3,x4,x5],c,h=> by
   simp only[LJ,Option.bind_eq_some_iff,Option.some.injEq] at h
   obtain⟨op,h0,c,h1,l,h2,r,h3,mn,h4,mx,h5,ks,h6,rfl⟩:=h
   rw[C3]
   exact LeL.agg (.cons (Cod.le _ _ h0) ((Q0 h1).append (.cons (Cod.le _ _ h2) (.cons (Cod.le _ _ h3) (.cons (Cod.le _ _ h4) (.cons (Cod.le _ _ h5) (.cons (TU x5 ks h6) .nil)))))))
theorem TU: ∀ (d:D) (l:List Pat),Cm d=some l->FrzTo ed d (.list 13 (tr l))
 | .list n es,l,h=> by
   simp only[Cm] at h
   split at h
   ·rename_i hn
    subst hn
    have hl:=LH es l h
    refine .list hl.1 (fun e he=> ?_) hl.2
    rw[BC] at he
    obtain⟨x,hx,rfl⟩:=List.mem_map.1 he
    exact⟨OV x,Lr x⟩
   ·cases h
 | .v (.slice none 0 0),l,h=> by
   simp only[Cm,Option.some.injEq] at h
   subst h
   exact .nil _
theorem LH: ∀ (es:List D) (l:List Pat),uZ es=some l->LeL es (tr l)
 | [],l,h=> by
   simp only[uZ,Option.some.injEq] at h
   subst h
   exact .nil
 | d::ds,l,h=> by
   simp only[uZ,Option.bind_eq_some_iff,Option.some.injEq] at h
   obtain⟨x,h1,xs,h2,rfl⟩:=h
   rw[tr]
   exact .cons (O1 d x h1) (LH ds xs h2)
end
instance:Cod Pat where
 wd:=13
 enc:=C3
 dec:=LJ
 kn:=OV
 wid:=Lr
 dec_enc:=LI
 le:=O1
theorem QX (ks:List Pat):D.list 13 (tr ks)=enc ks:=by rw[BC];rfl
theorem JB (op:Int) (c:Cond) (l r:B) (mn mx:Int) (ks:List Pat):enc (Pat.mk op c l r mn mx ks)= .agg (enc op:: (u3 c++ [enc l,enc r,enc mn,enc mx,enc ks])):=by
 rw[<-QX]
 show C3 _=_
 rw[C3]
theorem FJ: ∀es:List D,u1 es=es.mapM (dec (X:=Cond))
 | []=> by simp[u1]
 | d::es=> by
   rw[u1,List.mapM_cons,FJ es]
   rfl
theorem WK: ∀d:D,LK d=dec (X:=List Cond) d:=fun d=> by
 unfold LK
 split
 ·rename_i n es
  show _=if n=7 then es.mapM (dec (X:=Cond)) else none
  rw[FJ]
 ·rfl
 ·rename_i h1 h2
  show _=(match d with
   | .list n es=> if n=7 then es.mapM (dec (X:=Cond)) else none
   | .v (.slice none 0 0)=> some []
   | _=> none)
  split
  ·exact absurd rfl (h1 _ _)
  ·exact absurd rfl h2
  ·rfl
theorem FH: ∀es:List D,uZ es=es.mapM (dec (X:=Pat))
 | []=> by simp[uZ]
 | d::es=> by
   rw[uZ,List.mapM_cons,FH es]
   rfl
theorem TV: ∀d:D,Cm d=dec (X:=List Pat) d:=fun d=> by
 unfold Cm
 split
 ·rename_i n es
  show _=if n=13 then es.mapM (dec (X:=Pat)) else none
  rw[FH]
 ·rfl
 ·rename_i h1 h2
  show _=(match d with
   | .list n es=> if n=13 then es.mapM (dec (X:=Pat)) else none
   | .v (.slice none 0 0)=> some []
   | _=> none)
  split
  ·exact absurd rfl (h1 _ _)
  ·exact absurd rfl h2
  ·rfl
@[simp] theorem qbZ (s:Cond):Cond.mk s.op s.name s.arg s.val s.lab s.fold s.kids=s:=by cases s;rfl
@[simp] theorem qb3 (s:Cond):enc s= .agg [enc s.op,enc s.name,enc s.arg,enc s.val,enc s.lab,enc s.fold,enc s.kids]:=by cases s;exact Fy ..
@[simp] theorem qc4:Cod.wd Cond=7:=id rfl
@[simp] theorem TR (x0 x1 x2 x3 x4 x5 x6:D):dec (X:=Cond) (.agg [x0,x1,x2,x3,x4,x5,x6])=((dec x0).bind fun x0=> (dec x1).bind fun x1=> (dec x2).bind fun x2=> (dec x3).bind fun x3=> (dec x4).bind fun x4=> (dec x5).bind fun x5=> (dec x6).bind fun x6=> some ⟨x0,x1,x2,x3,x4,x5,x6⟩):=by
 show GV _=_
 simp only[GV,WK]
@[simp] theorem qeL (s:Pat):Pat.mk s.op s.cond s.lab s.reg s.mn s.mx s.kids=s:=by cases s;rfl
@[simp] theorem WI (s:Pat):enc s= .agg [enc s.op,enc s.cond.op,enc s.cond.name,enc s.cond.arg,enc s.cond.val,enc s.cond.lab,enc s.cond.fold,enc s.cond.kids,enc s.lab,enc s.reg,enc s.mn,enc s.mx,enc s.kids]:=by
 obtain⟨op,⟨a,b,c,d,e,f,g⟩,l,r,mn,mx,ks⟩:=s
 exact JB ..
@[simp] theorem qfW:Cod.wd Pat=13:=id rfl
@[simp] theorem qe4 (x0 y0 y1 y2 y3 y4 y5 y6 x1 x2 x3 x4 x5:D):dec (X:=Pat) (.agg [x0,y0,y1,y2,y3,y4,y5,y6,x1,x2,x3,x4,x5])=
 ((dec x0).bind fun x0=> (dec y0).bind fun y0=> (dec y1).bind fun y1=> (dec y2).bind fun y2=> (dec y3).bind fun y3=> (dec y4).bind fun y4=> (dec y5).bind fun y5=> (dec y6).bind fun y6=>
   (dec x1).bind fun x1=> (dec x2).bind fun x2=> (dec x3).bind fun x3=> (dec x4).bind fun x4=> (dec x5).bind fun x5=> some ⟨x0,⟨y0,y1,y2,y3,y4,y5,y6⟩,x1,x2,x3,x4,x5⟩):=by
 show LJ _=_
 simp only[LJ,TV,TR,Option.bind_assoc,Option.bind_some]
end Go.Gv

namespace Go.Gv
open Cod (enc dec)
structure U64 where
 val:Int
deriving DecidableEq
instance:Cod U64 where
 wd:=1
 enc n:= .v (.int .u64 n.val)
 dec | .v (.int .u64 n)=> some ⟨n⟩ | _=> none
 kn _:=rfl
 wid _:=rfl
 dec_enc _:=rfl
 le d x h:=by
  split at h
  ·cases h;exact .same _
  ·cases h
@[simp] theorem qeN (n:U64):enc n= .v (.int .u64 n.val):=id rfl
@[simp] theorem qfQ:Cod.wd U64=1:=id rfl
@[simp] theorem qeX (n:Int):dec (X:=U64) (.v (.int .u64 n))=some ⟨n⟩:=id rfl
@[simp] theorem qeD (n:U64):U64.mk n.val=n:=id rfl
structure Rng where
 fr:I32
 to:I32
deriving DecidableEq
instance:Cod Rng where
 wd:=2
 enc s:= .agg [enc s.fr,enc s.to]
 dec | .agg [x0,x1]=> (dec x0).bind fun x0=> (dec x1).bind fun x1=> some ⟨x0,x1⟩ | _=> none
 kn _:=rfl
 wid _:=rfl
 dec_enc s:=by simp
 le d x h:=by
  split at h
  ·simp only[Option.bind_eq_some_iff] at h
   obtain⟨x0,h0,x1,h1,h⟩:=h
   cases h
   exact LeL.agg (.cons (Cod.le _ _ h0) (.cons (Cod.le _ _ h1) .nil))
  ·cases h
@[simp] theorem qeH (s:Rng): (Rng.mk s.fr s.to)=s:=id rfl
@[simp] theorem qeS (s:Rng):enc s= .agg [enc s.fr,enc s.to]:=id rfl
@[simp] theorem qfV:Cod.wd Rng=2:=id rfl
@[simp] theorem qe1 (x0 x1:D):dec (X:=Rng) (.agg [x0,x1])=((dec x0).bind fun x0=> (dec x1).bind fun x1=> some ⟨x0,x1⟩):=id rfl
structure Rx where
 op:Int
 mn:Int
 mx:Int
 rs:List Rng
 kids:List Rx
mutual
def Fz:Rx->D
 | .mk op mn mx rs ks=> .agg [enc op,enc mn,enc mx,enc rs, .list 5 (tq ks)]
def tq:List Rx->List D
 | []=> []
 | k::ks=> Fz k::tq ks
end
mutual
def LG:D->Option Rx
 | .agg [x0,x1,x2,x3,x4]=> (dec x0).bind fun op=> (dec x1).bind fun mn=> (dec x2).bind fun mx=> (dec x3).bind fun rs=> (Cl x4).bind fun ks=> some (.mk op mn mx rs ks)
 | _=> none
def Cl:D->Option (List Rx)
 | .list n es=> if n=5 then uY es else none
 | .v (.slice none 0 0)=> some []
 | _=> none
def uY:List D->Option (List Rx)
 | []=> some []
 | d::ds=> (LG d).bind fun x=> (uY ds).bind fun xs=> some (x::xs)
end
theorem BB: ∀l:List Rx,tq l=l.map Fz
 | []=> rfl
 | _::l=> by rw[tq,BB l];rfl
theorem OU: ∀c:Rx,(Fz c).kn=true
 | .mk .. => rfl
theorem Lq: ∀c:Rx,(Fz c).cells.length=5
 | .mk .. => rfl
mutual
theorem LF: ∀c:Rx,LG (Fz c)=some c
 | .mk op mn mx rs ks=> by
   have h:Cl (.list 5 (tq ks))=some ks:=by rw[Cl,if_pos rfl];exact HT ks
   simp only[Fz,LG,Cod.dec_enc,Option.bind_some,h]
theorem HT: ∀l:List Rx,uY (tq l)=some l
 | []=> by simp only[tq,uY]
 | c::l=> by simp only[tq,uY,LF c,HT l,Option.bind_some]
end
mutual
theorem O0: ∀ (d:D) (c:Rx),LG d=some c->FrzTo ed d (Fz c)
 | .agg [x0,x1,x2,x3,x4],c,h=> by
   simp only[LG,Option.bind_eq_some_iff,Option.some.injEq] at h
   obtain⟨op,h0,mn,h1,mx,h2,rs,h3,ks,h4,rfl⟩:=h
   rw[Fz]
   exact LeL.agg (.cons (Cod.le _ _ h0) (.cons (Cod.le _ _ h1) (.cons (Cod.le _ _ h2) (.cons (Cod.le _ _ h3) (.cons (TS x4 ks h4) .nil)))))
theorem TS: ∀ (d:D) (l:List Rx),Cl d=some l->FrzTo ed d (.list 5 (tq l))
 | .list n es,l,h=> by
   simp only[Cl] at h
   split at h
   ·rename_i hn
    subst hn
    have hl:=LE es l h
    refine .list hl.1 (fun e he=> ?_) hl.2
    rw[BB] at he
    obtain⟨x,hx,rfl⟩:=List.mem_map.1 he
    exact⟨OU x,Lq x⟩
   ·cases h
 | .v (.slice none 0 0),l,h=> by
   simp only[Cl,Option.some.injEq] at h
   subst h
   exact .nil _
theorem LE: ∀ (es:List D) (l:List Rx),uY es=some l->LeL es (tq l)
 | [],l,h=> by
   simp only[uY,Option.some.injEq] at h
   subst h
   exact .nil
 | d::ds,l,h=> by
   simp only[uY,Option.bind_eq_some_iff,Option.some.injEq] at h
   obtain⟨x,h1,xs,h2,rfl⟩:=h
   rw[tq]
   exact .cons (O0 d x h1) (LE ds xs h2)
end
instance:Cod Rx where
 wd:=5
 enc:=Fz
 dec:=LG
 kn:=OU
 wid:=Lq
 dec_enc:=LF
 le:=O0
theorem QW (ks:List Rx):D.list 5 (tq ks)=enc ks:=by rw[BB];rfl
theorem TE (op mn mx:Int) (rs:List Rng) (ks:List Rx):enc (Rx.mk op mn mx rs ks)= .agg [enc op,enc mn,enc mx,enc rs,enc ks]:=by
 rw[<-QW]
 show Fz _=_
 rw[Fz]
theorem FG: ∀es:List D,uY es=es.mapM (dec (X:=Rx))
 | []=> by simp[uY]
 | d::es=> by
   rw[uY,List.mapM_cons,FG es]
   rfl
theorem TT: ∀d:D,Cl d=dec (X:=List Rx) d:=fun d=> by
 unfold Cl
 split
 ·rename_i n es
  show _=if n=5 then es.mapM (dec (X:=Rx)) else none
  rw[FG]
 ·rfl
 ·rename_i h1 h2
  show _=(match d with
   | .list n es=> if n=5 then es.mapM (dec (X:=Rx)) else none
   | .v (.slice none 0 0)=> some []
   | _=> none)
  split
  ·exact absurd rfl (h1 _ _)
  ·exact absurd rfl h2
  ·rfl
@[simp] theorem qiU (s:Rx):Rx.mk s.op s.mn s.mx s.rs s.kids=s:=by cases s;rfl
@[simp] theorem qi1 (s:Rx):enc s= .agg [enc s.op,enc s.mn,enc s.mx,enc s.rs,enc s.kids]:=by cases s;exact TE ..
@[simp] theorem qj2:Cod.wd Rx=5:=id rfl
@[simp] theorem qi9 (x0 x1 x2 x3 x4:D):dec (X:=Rx) (.agg [x0,x1,x2,x3,x4])=((dec x0).bind fun x0=> (dec x1).bind fun x1=> (dec x2).bind fun x2=> (dec x3).bind fun x3=> (dec x4).bind fun x4=> some ⟨x0,x1,x2,x3,x4⟩):=by
 show LG _=_
 simp only[LG,TT]
end Go.Gv

namespace Go.Gv
open Cod (enc dec)
structure Rp where
 s:B
 pos:Int
 fault:Int
 e:Int
def Rp.bump (p:Rp):Rp:= { p with pos:=p.pos+1 }
def FT (p:Rp):Option Int:=
 if 200 < p.s.size then none else
 if p.pos=p.s.size then some (-1) else
 if 0<=p.pos then match p.s.data[p.pos.toNat]? with
  | some c=> if c.toNat < 128 then some c.toNat else none
  | none=> none
 else none
def Wo (sp:B) (c:Int):Bool:=sp.data.toList.any fun x=> decide ((x.toNat:Int)=c)
def jn (p:Rp) (_:Unit):Option (Rp×I32):=(FT p).map fun c=> (p,⟨c⟩)
def Hg (p:Rp) (_:Unit):Option (Rp×Unit):=(FT p).bind fun c=> if 0<=c then some (p.bump,()) else none
def wo (p:Rp) (_:B):Option (Rp× (I32×Bool)):=(FT p).bind fun c=> if c < 0\/c=92 then none else some (p.bump,⟨c⟩,true)
def O8:B:=⟨#[92,91,93,94,45]⟩
def KO (p:Rp) (_:Unit):Option (Rp× (I32×Bool)):=(FT p).bind fun c=> if c < 0\/Wo O8 c=true then none else wo p O8
def RQ (fr to:Int):Rx:=⟨1,0,0, [⟨⟨fr⟩,⟨to⟩⟩], []⟩
def ov (out:List Rng) (r:Rng):List Rng:=match out.getLast? with
 | some q=> if r.fr.val<=q.to.val+1 then out.dropLast++ [⟨q.fr,⟨max q.to.val r.to.val⟩⟩] else out++ [r]
 | none=> [r]
def AD (l:List Rng):Bool:=match l with
 | [x]=> decide (0<=x.fr.val/\x.fr.val<=1114111/\0<=x.to.val/\x.to.val<=1114111)
 | [x,y]=> decide (0<=x.fr.val/\x.fr.val<=1114111/\0<=x.to.val/\x.to.val<=1114111/\0<=y.fr.val/\y.fr.val<=1114111/\0<=y.to.val/\y.to.val<=1114111/\x.fr.val<=y.fr.val)
 | _=> false
def zm (l:List Rng):List Rng:=l.foldl ov []
def Uf:Nat->Rp->List Rng->Option (Rp×List Rng)
 | 0,_,_=> none
 | n+1,p,l=> (FT p).bind fun c=> if l≠ []/\c=93 then some (p,l) else
   (KO p ()).bind fun q=> (FT q.1).bind fun d=> if d=45 then none else Uf n q.1 (l++ [⟨q.2.1,q.2.1⟩])
def WM (p:Rp) (_:Unit):Option (Rp× (Rx×Bool)):=(FT p).bind fun a=> if a≠91 then none else(FT p.bump).bind fun c=> if c=94 then none else
 (Uf 100 p.bump []).bind fun q=> if AD q.2=true then some (q.1.bump,⟨1,0,0,zm q.2, []⟩,true) else none
def qa7:B:=⟨#[92,46,91,93,40,41,123,125,124,42,43,63]⟩
def Pf (p:Rp) (_:Unit):Option (Rp× (Rx×Bool)):=(FT p).bind fun c=>
 if c=40 then none else if c=46 then some (p.bump,RQ 0 1114111,true) else if c=91 then WM p () else
 if c≠92/\Wo qa7 c=true then none else(wo p qa7).map fun q=> (q.1,RQ q.2.1.val q.2.1.val,q.2.2)
def Gz (c:Int):Option (Int×Int):=if c=42 then some (0, -1) else if c=43 then some (1, -1) else if c=63 then some (0,1) else none
def Sb (p:Rp) (_:Unit):Option (Rp× (Rx×Bool)):=(Pf p ()).bind fun q=> if q.2.2=true then(FT q.1).bind fun c=> if c=123 then none else match Gz c with
 | some m=> (FT q.1.bump).bind fun d=> if d=123\/(Gz d).isSome=true then none else some (q.1.bump,⟨4,m.1,m.2, [], [q.2.1]⟩,true)
 | none=> some (q.1,q.2.1,true)
 else none
def LR:Nat->Rp->List Rx->Option (Rp×List Rx)
 | 0,_,_=> none
 | n+1,p,l=> (FT p).bind fun c=> if c < 0\/c=124\/c=41 then some (p,l) else
   (Sb p ()).bind fun q=> if q.2.1.op=2 then none else LR n q.1 (l++ [q.2.1])
def Nq (op:Int):List Rx->Rx
 | [e]=> e
 | l=> ⟨op,0,0, [],l⟩
def Uj (p:Rp) (_:Unit):Option (Rp× (Rx×Bool)):=(LR 100 p []).map fun q=> (q.1,Nq 2 q.2,true)
def Rz:Nat->Rp->List Rx->Option (Rp×List Rx)
 | 0,_,_=> none
 | n+1,p,l=> (Uj p ()).bind fun q=> (FT q.1).bind fun c=>
   if q.2.1.op=3 then none else if c=124 then Rz n q.1.bump (l++ [q.2.1]) else some (q.1,l++ [q.2.1])
def Vt (p:Rp) (_:Unit):Option (Rp× (Rx×Bool)):=(Rz 100 p []).map fun q=> (q.1,Nq 3 q.2,true)
end Go.Gv

namespace Go.Gv
open Cod (enc dec)
def qa2 (f:Rx->Int->Int->Option (Bool×Int)) (d:Int):List Rx->Int->Option (Bool×Int)
 | [],k=> some (true,k)
 | x::l,k=> (f x (d+1) k).bind fun r=> if r.1=true then qa2 f d l r.2 else some (false,r.2)
def nH:Nat->Rx->Int->Int->Option (Bool×Int)
 | 0=> fun _ _ _=> none
 | n+1=> fun x d k=> if d < 0\/1000 < d\/k < 0\/1000 < k then none else if 40 < d\/200 < k+1 then some (false,k+1) else qa2 (nH n) d x.kids (k+1)
def Ou (l:List Rng):Bool:=match l with
 | [r]=> decide (0<=r.fr.val/\r.fr.val<=r.to.val/\r.to.val<=1114111)
 | _=> false
def qbl (x:Rx):Bool:=
 if x.op=1 then decide (x.mn=0/\x.mx=0) && x.kids.isEmpty && Ou x.rs else
 if x.op=2 then decide (x.mn=0/\x.mx=0) && x.rs.isEmpty && decide (x.kids.length≠1/\x.kids.length<=300) && x.kids.all fun k=> decide (k.op≠2) else
 if x.op=3 then decide (x.mn=0/\x.mx=0) && x.rs.isEmpty && decide (1 < x.kids.length/\x.kids.length<=300) && x.kids.all fun k=> decide (k.op≠3) else
 if x.op=4 then decide (0<=x.mn/\x.mn<=16/\(x.mx= -1\/x.mn<=x.mx/\x.mx<=16)) && x.rs.isEmpty && decide (x.kids.length=1) else false
def Qb:Nat->Rx->Bool
 | 0=> fun _=> false
 | n+1=> fun x=> qbl x && x.kids.all (Qb n)
def qbd (f:Rx->Option Int):List Rx->Int->Option Int
 | [],k=> some k
 | x::l,k=> (f x).bind fun y=> if k < 0\/1000 < k\/y < 0\/1000 < y then none else qbd f l (min (k+y) 65)
def qbf (x:Rx) (m:Int):Option Int:=
 if x.mx= -1 then(if -1000000<=m*max x.mn 1/\m*max x.mn 1<=1000000 then some (min (m*max x.mn 1) 65) else none)
 else if -1000000<=m*x.mx/\m*x.mx<=1000000 then some (min (m*x.mx) 65) else none
def Er:Nat->Rx->Option Int
 | 0=> fun _=> none
 | n+1=> fun x=> if x.op=1 then some 1 else(qbd (Er n) x.kids 0).bind fun m=> if x.op≠4 then some m else qbf x m
def wD (n:Nat) (x:Rx):Bool:=(match nH n x 1 0 with | some r=> r.1 | none=> false) && Qb n x && (match Er n x with | some m=> decide (m<=64) | none=> false)
def rm (s:B):Bool:=s.data.toList.all fun c=> decide (c.toNat < 128)
def nP (s:B):Option Rx:=if s.size<=200/\rm s=true then(Vt ⟨s,0,0,0⟩ ()).bind fun q=> if q.2.2=true/\q.1.pos=s.size/\wD 50 q.2.1=true then some q.2.1 else none else none
end Go.Gv

namespace Go.Gv
open Cod (enc dec)
structure Prt where
 first:U64
 last:U64
 nul:Bool
deriving DecidableEq
instance:Cod Prt where
 wd:=3
 enc s:= .agg [enc s.first,enc s.last,enc s.nul]
 dec | .agg [x0,x1,x2]=> (dec x0).bind fun x0=> (dec x1).bind fun x1=> (dec x2).bind fun x2=> some ⟨x0,x1,x2⟩ | _=> none
 kn _:=rfl
 wid _:=rfl
 dec_enc s:=by simp
 le d x h:=by
  split at h
  ·simp only[Option.bind_eq_some_iff] at h
   obtain⟨x0,h0,x1,h1,x2,h2,h⟩:=h
   cases h
   exact LeL.agg (.cons (Cod.le _ _ h0) (.cons (Cod.le _ _ h1) (.cons (Cod.le _ _ h2) .nil)))
  ·cases h
@[simp] theorem qeK (s:Prt): (Prt.mk s.first s.last s.nul)=s:=id rfl
@[simp] theorem qeU (s:Prt):enc s= .agg [enc s.first,enc s.last,enc s.nul]:=id rfl
@[simp] theorem qe3 (x0 x1 x2:D):dec (X:=Prt) (.agg [x0,x1,x2])=((dec x0).bind fun x0=> (dec x1).bind fun x1=> (dec x2).bind fun x2=> some ⟨x0,x1,x2⟩):=id rfl
structure Tbk where
 lvs:List (List Rng)
 fi:U64
 la:U64
 fol:List U64
 nul:Bool
def Ra (m:U64) (i:Nat):Bool:=decide (N3 .u64 (RO .u64 m.val i) 1=1)
def VL (a b:U64):U64:=⟨qbi .u64 a.val b.val⟩
def OB (fr to:U64):Nat->List U64->List U64
 | _, []=> []
 | i,f::l=> (if Ra fr i=true then VL f to else f)::OB fr to (i+1) l
def zp (t:Tbk) (z:U64×U64):Option (Tbk×Unit):=if t.fol.length<=100000 then some ({ t with fol:=OB z.1 z.2 0 t.fol },()) else none
def qbG (a b:Prt):Prt:=⟨if a.nul=true then VL a.first b.first else a.first,if b.nul=true then VL b.last a.last else b.last,a.nul && b.nul⟩
def tv (t:Tbk) (z:Prt×Prt):Option (Tbk×Prt):=(zp t (z.1.last,z.2.first)).map fun q=> (q.1,qbG z.1 z.2)
def xe:Prt:=⟨⟨0⟩,⟨0⟩,true⟩
def qgy:Prt:=⟨⟨0⟩,⟨0⟩,false⟩
def qcb (f:Tbk->Rx->Option (Tbk×Prt)):List Rx->Tbk->Prt->Option (Tbk×Prt)
 | [],t,p=> some (t,p)
 | x::l,t,p=> (f t x).bind fun q=> (tv q.1 (p,q.2)).bind fun r=> qcb f l r.1 r.2
def qaQ (f:Tbk->Rx->Option (Tbk×Prt)):List Rx->Tbk->Prt->Option (Tbk×Prt)
 | [],t,p=> some (t,p)
 | x::l,t,p=> (f t x).bind fun q=> qaQ f l q.1 ⟨VL p.first q.2.first,VL p.last q.2.last,p.nul || q.2.nul⟩
def I4 (t:Tbk):Bool:=decide (t.lvs.length<=1000/\t.fol.length<=1000)
def Zv (b r:Tbk->Rx->Option (Tbk×Prt)) (t:Tbk) (x:Rx):Option (Tbk×Prt):=
 if I4 t=false\/1000 < x.kids.length then none else
 if x.op=1 then some ({ t with lvs:=t.lvs++ [x.rs],fol:=t.fol++ [⟨0⟩] },⟨⟨Kq .u64 1 t.lvs.length⟩,⟨Kq .u64 1 t.lvs.length⟩,false⟩) else
 if x.op=2 then qcb b x.kids t xe else
 if x.op=3 then qaQ b x.kids t qgy else r t x
def qa8 (b:Tbk->Rx->Option (Tbk×Prt)) (y:Rx) (mx:Int):Nat->Tbk->Prt->Option (Tbk×Prt×Bool)
 | 0,t,p=> some (t,p,false)
 | k+1,t,p=> if I4 t=false then none else(b t y).bind fun q=> if I4 q.1=false then none else
   if q.1.lvs.length=t.lvs.length then some (q.1,xe,true) else
   (if mx < 0/\k=0 then zp q.1 (q.2.last,q.2.first) else some (q.1,())).bind fun l=> (tv l.1 (p,q.2)).bind fun r=> qa8 b y mx k r.1 r.2
def Sc (b:Tbk->Rx->Option (Tbk×Prt)) (o:Tbk->Rx×Int->Option (Tbk×Prt)) (t:Tbk) (x:Rx):Option (Tbk×Prt):=match x.kids with
 | []=> none
 | y::_=> if x.mn < 0\/100 < x.mn\/x.mx < -1\/100 < x.mx then none else
   (qa8 b y x.mx x.mn.toNat t xe).bind fun q=> if q.2.2=true then some (q.1,xe) else
   if x.mx < 0/\x.mn=0 then(b q.1 y).bind fun r=> (zp r.1 (r.2.last,r.2.first)).map fun l=> (l.1, { r.2 with nul:=true }) else
   if x.mn < x.mx then(o q.1 (y,x.mx -x.mn)).bind fun r=> tv r.1 (q.2.1,r.2) else some (q.1,q.2.1)
def YF (b:Tbk->Rx->Option (Tbk×Prt)) (o:Tbk->Rx×Int->Option (Tbk×Prt)) (t:Tbk) (z:Rx×Int):Option (Tbk×Prt):=
 if z.2 < 0\/100 < z.2\/I4 t=false then none else
 if z.2=0 then some (t,xe) else
 (b t z.1).bind fun q=> if I4 q.1=false then none else
 if q.1.lvs.length=t.lvs.length then some (q.1,xe) else
 (o q.1 (z.1,z.2 -1)).bind fun r=> (tv r.1 (q.2,r.2)).map fun l=> (l.1, { l.2 with nul:=true })
structure qnm where
 b:Tbk->Rx->Option (Tbk×Prt)
 r:Tbk->Rx->Option (Tbk×Prt)
 o:Tbk->Rx×Int->Option (Tbk×Prt)
def xZ:Nat->qnm
 | 0=> ⟨fun _ _=> none,fun _ _=> none,fun _ _=> none⟩
 | n+1=> ⟨Zv (xZ n).b (xZ n).r,Sc (xZ n).b (xZ n).o,YF (xZ n).b (xZ n).o⟩
def qmQ:Tbk:=⟨[],⟨0⟩,⟨0⟩, [],false⟩
def Vv (n:Nat) (x:Rx):Option Tbk:=((xZ n).b qmQ x).map fun q=> { q.1 with fi:=q.2.first,la:=q.2.last,nul:=q.2.nul }
def Xx (set:U64):Nat->List U64->U64->U64
 | _, [],m=> m
 | i,f::l,m=> Xx set (i+1) l (if Ra set i=true then VL m f else m)
def uF (t:Tbk) (set:U64) (beg:Bool):U64:=if beg=true then t.fi else Xx set 0 t.fol ⟨0⟩
end Go.Gv
