/- A part of the framework and of the walks: V2 L1 V3 V4 V5 V11 Cc W1. -/
import Derived.Test.YtaiffcbkmgfklaaGreatDoorGt17
set_option linter.unusedSimpArgs false
set_option linter.unusedVariables false
set_option maxRecDepth 100000

namespace Go.Gv
open Cod (enc dec)
structure Cond where
 op:Int
 name:B
 arg:B
 val:B
 lab:B
 fold:Bool
 kids:List Cond
mutual
def EH:Cond→D
 | .mk op n a v l f ks=> .agg [enc op,enc n,enc a,enc v,enc l,enc f, .list 7 (sE ks)]
def sE:List Cond→List D
 | []=> []
 | k::ks=> EH k::sE ks
end
mutual
def F9:D→Option Cond
 | .agg [x0,x1,x2,x3,x4,x5,x6]=> (dec x0).bind fun op=> (dec x1).bind fun n=> (dec x2).bind fun a=> (dec x3).bind fun v=> (dec x4).bind fun l=> (dec x5).bind fun f=> (KV x6).bind fun ks=> some (.mk op n a v l f ks)
 | _=> none
def KV:D→Option (List Cond)
 | .list n es=> if n=7 then uU es else none
 | .v (.slice none 0 0)=> some []
 | _=> none
def uU:List D→Option (List Cond)
 | []=> some []
 | d::ds=> (F9 d).bind fun x=> (uU ds).bind fun xs=> some (x::xs)
end
theorem Ap: ∀l:List Cond,sE l=l.map EH
 | []=> rfl
 | _::l=> by rw[sE,Ap l];rfl
theorem NR: ∀c:Cond,(EH c).kn=true
 | .mk .. => rfl
theorem KO: ∀c:Cond,(EH c).cells.length=7
 | .mk .. => rfl
mutual
theorem K0: ∀c:Cond,F9 (EH c)=some c
 | .mk op n a v l f ks=> by
   have h:KV (.list 7 (sE ks))=some ks:=by rw[KV,if_pos rfl];exact G9 ks
   simp only[EH,F9,Cod.dec_enc,Option.bind_some,h]
theorem G9: ∀l:List Cond,uU (sE l)=some l
 | []=> by simp only[sE,uU]
 | c::l=> by simp only[sE,uU,K0 c,G9 l,Option.bind_some]
end
mutual
theorem NX: ∀ (d:D) (c:Cond),F9 d=some c→FrzTo cu d (EH c)
 | .agg [x0,x1,x2,x3,x4,x5,x6],c,h=> by
   simp only[F9,Option.bind_eq_some_iff,Option.some.injEq] at h
   obtain⟨op,h0,n,h1,a,h2,v,h3,l,h4,f,h5,ks,h6,rfl⟩:=h
   rw[EH]
   exact LeL.agg (.cons (Cod.le _ _ h0) (.cons (Cod.le _ _ h1) (.cons (Cod.le _ _ h2) (.cons (Cod.le _ _ h3) (.cons (Cod.le _ _ h4) (.cons (Cod.le _ _ h5) (.cons (NV x6 ks h6) .nil)))))))
theorem NV: ∀ (d:D) (l:List Cond),KV d=some l→FrzTo cu d (.list 7 (sE l))
 | .list n es,l,h=> by
   simp only[KV] at h
   split at h
   ·rename_i hn
    subst hn
    have hl:=KZ es l h
    refine .list hl.1 (fun e he=> ?_) hl.2
    rw[Ap] at he
    obtain⟨x,hx,rfl⟩:=List.mem_map.1 he
    exact⟨NR x,KO x⟩
   ·cases h
 | .v (.slice none 0 0),l,h=> by
   simp only[KV,Option.some.injEq] at h
   subst h
   exact .nil _
theorem KZ: ∀ (es:List D) (l:List Cond),uU es=some l→LeL es (sE l)
 | [],l,h=> by
   simp only[uU,Option.some.injEq] at h
   subst h
   exact .nil
 | d::ds,l,h=> by
   simp only[uU,Option.bind_eq_some_iff,Option.some.injEq] at h
   obtain⟨x,h1,xs,h2,rfl⟩:=h
   rw[sE]
   exact .cons (NX d x h1) (KZ ds xs h2)
end
instance:Cod Cond where
 wd:=7
 enc:=EH
 dec:=F9
 kn:=NR
 wid:=KO
 dec_enc:=K0
 le:=NX
theorem G5 (ks:List Cond):D.list 7 (sE ks)=enc ks:=by rw[Ap];rfl
theorem KK (op:Int) (n a v l:B) (f:Bool) (ks:List Cond):enc (Cond.mk op n a v l f ks)= .agg [enc op,enc n,enc a,enc v,enc l,enc f,enc ks]:=by
 rw[←G5]
 show EH _=_
 rw[EH]
structure Pat where
 op:Int
 cond:Cond
 lab:B
 reg:B
 mn:Int
 mx:Int
 kids:List Pat
def uX:Cond→List D
 | .mk op n a v l f ks=> [enc op,enc n,enc a,enc v,enc l,enc f,enc ks]
theorem EW: ∀c:Cond,(uX c).length=7
 | .mk .. => rfl
mutual
def BJ:Pat→D
 | .mk op c l r mn mx ks=> .agg (enc op:: (uX c++ [enc l,enc r,enc mn,enc mx, .list 13 (sC ks)]))
def sC:List Pat→List D
 | []=> []
 | k::ks=> BJ k::sC ks
end
mutual
def KU:D→Option Pat
 | .agg [x0,y0,y1,y2,y3,y4,y5,y6,x1,x2,x3,x4,x5]=> (dec x0).bind fun op=> (dec (D.agg [y0,y1,y2,y3,y4,y5,y6])).bind fun c=> (dec x1).bind fun l=> (dec x2).bind fun r=> (dec x3).bind fun mn=> (dec x4).bind fun mx=> (AW x5).bind fun ks=> some (.mk op c l r mn mx ks)
 | _=> none
def AW:D→Option (List Pat)
 | .list n es=> if n=13 then uS es else none
 | .v (.slice none 0 0)=> some []
 | _=> none
def uS:List D→Option (List Pat)
 | []=> some []
 | d::ds=> (KU d).bind fun x=> (uS ds).bind fun xs=> some (x::xs)
end
theorem An: ∀l:List Pat,sC l=l.map BJ
 | []=> rfl
 | _::l=> by rw[sC,An l];rfl
theorem NP: ∀c:Pat,(BJ c).kn=true
 | .mk .. => rfl
theorem KM: ∀c:Pat,(BJ c).cells.length=13
 | .mk op c l r mn mx ks=> by simp[BJ,D.cells,EW]
mutual
theorem KT: ∀c:Pat,KU (BJ c)=some c
 | .mk op (.mk cop n a v cl f cks) l r mn mx ks=> by
   have h:AW (.list 13 (sC ks))=some ks:=by rw[AW,if_pos rfl];exact G7 ks
   have hc:dec (D.agg [enc cop,enc n,enc a,enc v,enc cl,enc f,enc cks])=some (Cond.mk cop n a v cl f cks):=by rw[←KK];exact Cod.dec_enc _
   simp only[BJ,uX,List.cons_append,List.nil_append,KU,Cod.dec_enc,Option.bind_some,h,hc]
theorem G7: ∀l:List Pat,uS (sC l)=some l
 | []=> by simp only[sC,uS]
 | c::l=> by simp only[sC,uS,KT c,G7 l,Option.bind_some]
end
theorem PM {y0 y1 y2 y3 y4 y5 y6:D} {c:Cond} (h:dec (D.agg [y0,y1,y2,y3,y4,y5,y6])=some c):LeL [y0,y1,y2,y3,y4,y5,y6] (uX c):=by
 have h':F9 (D.agg [y0,y1,y2,y3,y4,y5,y6])=some c:=h
 simp only[F9,Option.bind_eq_some_iff,Option.some.injEq] at h'
 obtain⟨op,h0,n,h1,a,h2,v,h3,l,h4,f,h5,ks,h6,rfl⟩:=h'
 have hk:=NV y6 ks h6
 rw[G5] at hk
 exact .cons (Cod.le _ _ h0) (.cons (Cod.le _ _ h1) (.cons (Cod.le _ _ h2) (.cons (Cod.le _ _ h3) (.cons (Cod.le _ _ h4) (.cons (Cod.le _ _ h5) (.cons hk .nil))))))
theorem LeL.append {a b c d:List D} (h:LeL a b) (k:LeL c d):LeL (a++c) (b++d):=by
 refine⟨by simp[h.1,k.1],fun i x y hx hy=> ?_⟩
 rw[List.getElem?_append] at hx hy
 by_cases hi:i < a.length
 ·rw[if_pos hi] at hx
  rw[if_pos (by rw[←h.1];exact hi)] at hy
  exact h.2 i x y hx hy
 ·rw[if_neg hi] at hx
  rw[if_neg (by rw[←h.1];exact hi),←h.1] at hy
  exact k.2 _ x y hx hy
mutual
theorem NU: ∀ (d:D) (c:Pat),KU d=some c→FrzTo cu d (BJ c)
 | .agg [x0,y0,y1,y2,y3,y4,y5,y6,x1,x2,x3,x4,x5],c,h=> by
   simp only[KU,Option.bind_eq_some_iff,Option.some.injEq] at h
   obtain⟨op,h0,c,h1,l,h2,r,h3,mn,h4,mx,h5,ks,h6,rfl⟩:=h
   rw[BJ]
   exact LeL.agg (.cons (Cod.le _ _ h0) ((PM h1).append (.cons (Cod.le _ _ h2) (.cons (Cod.le _ _ h3) (.cons (Cod.le _ _ h4) (.cons (Cod.le _ _ h5) (.cons (SD x5 ks h6) .nil)))))))
theorem SD: ∀ (d:D) (l:List Pat),AW d=some l→FrzTo cu d (.list 13 (sC l))
 | .list n es,l,h=> by
   simp only[AW] at h
   split at h
   ·rename_i hn
    subst hn
    have hl:=KS es l h
    refine .list hl.1 (fun e he=> ?_) hl.2
    rw[An] at he
    obtain⟨x,hx,rfl⟩:=List.mem_map.1 he
    exact⟨NP x,KM x⟩
   ·cases h
 | .v (.slice none 0 0),l,h=> by
   simp only[AW,Option.some.injEq] at h
   subst h
   exact .nil _
theorem KS: ∀ (es:List D) (l:List Pat),uS es=some l→LeL es (sC l)
 | [],l,h=> by
   simp only[uS,Option.some.injEq] at h
   subst h
   exact .nil
 | d::ds,l,h=> by
   simp only[uS,Option.bind_eq_some_iff,Option.some.injEq] at h
   obtain⟨x,h1,xs,h2,rfl⟩:=h
   rw[sC]
   exact .cons (NU d x h1) (KS ds xs h2)
end
instance:Cod Pat where
 wd:=13
 enc:=BJ
 dec:=KU
 kn:=NP
 wid:=KM
 dec_enc:=KT
 le:=NU
theorem PH (ks:List Pat):D.list 13 (sC ks)=enc ks:=by rw[An];rfl
theorem IS (op:Int) (c:Cond) (l r:B) (mn mx:Int) (ks:List Pat):enc (Pat.mk op c l r mn mx ks)= .agg (enc op:: (uX c++ [enc l,enc r,enc mn,enc mx,enc ks])):=by
 rw[←PH]
 show BJ _=_
 rw[BJ]
theorem EM: ∀es:List D,uU es=es.mapM (dec (X:=Cond))
 | []=> by simp[uU]
 | d::es=> by
   rw[uU,List.mapM_cons,EM es]
   rfl
theorem U3: ∀d:D,KV d=dec (X:=List Cond) d:=fun d=> by
 unfold KV
 split
 ·rename_i n es
  show _=if n=7 then es.mapM (dec (X:=Cond)) else none
  rw[EM]
 ·rfl
 ·rename_i h1 h2
  show _=(match d with
   | .list n es=> if n=7 then es.mapM (dec (X:=Cond)) else none
   | .v (.slice none 0 0)=> some []
   | _=> none)
  split
  ·exact absurd rfl (h1 _ _)
  ·exact absurd rfl h2
  ·rfl
theorem EK: ∀es:List D,uS es=es.mapM (dec (X:=Pat))
 | []=> by simp[uS]
 | d::es=> by
   rw[uS,List.mapM_cons,EK es]
   rfl
theorem SE: ∀d:D,AW d=dec (X:=List Pat) d:=fun d=> by
 unfold AW
 split
 ·rename_i n es
  show _=if n=13 then es.mapM (dec (X:=Pat)) else none
  rw[EK]
 ·rfl
 ·rename_i h1 h2
  show _=(match d with
   | .list n es=> if n=13 then es.mapM (dec (X:=Pat)) else none
   | .v (.slice none 0 0)=> some []
   | _=> none)
  split
  ·exact absurd rfl (h1 _ _)
  ·exact absurd rfl h2
  ·rfl
@[simp] theorem yB (s:Cond):Cond.mk s.op s.name s.arg s.val s.lab s.fold s.kids=s:=by cases s;rfl
@[simp] theorem KL (s:Cond):enc s= .agg [enc s.op,enc s.name,enc s.arg,enc s.val,enc s.lab,enc s.fold,enc s.kids]:=by cases s;exact KK ..
@[simp] theorem qar:Cod.wd Cond=7:=id rfl
@[simp] theorem SC (x0 x1 x2 x3 x4 x5 x6:D):dec (X:=Cond) (.agg [x0,x1,x2,x3,x4,x5,x6])=((dec x0).bind fun x0=> (dec x1).bind fun x1=> (dec x2).bind fun x2=> (dec x3).bind fun x3=> (dec x4).bind fun x4=> (dec x5).bind fun x5=> (dec x6).bind fun x6=> some ⟨x0,x1,x2,x3,x4,x5,x6⟩):=by
 show F9 _=_
 simp only[F9,U3]
@[simp] theorem qbA (s:Pat):Pat.mk s.op s.cond s.lab s.reg s.mn s.mx s.kids=s:=by cases s;rfl
@[simp] theorem IT (s:Pat):enc s= .agg [enc s.op,enc s.cond.op,enc s.cond.name,enc s.cond.arg,enc s.cond.val,enc s.cond.lab,enc s.cond.fold,enc s.cond.kids,enc s.lab,enc s.reg,enc s.mn,enc s.mx,enc s.kids]:=by
 obtain⟨op,⟨a,b,c,d,e,f,g⟩,l,r,mn,mx,ks⟩:=s
 exact IS ..
@[simp] theorem qcn:Cod.wd Pat=13:=id rfl
@[simp] theorem qbG (x0 y0 y1 y2 y3 y4 y5 y6 x1 x2 x3 x4 x5:D):dec (X:=Pat) (.agg [x0,y0,y1,y2,y3,y4,y5,y6,x1,x2,x3,x4,x5])=
 ((dec x0).bind fun x0=> (dec y0).bind fun y0=> (dec y1).bind fun y1=> (dec y2).bind fun y2=> (dec y3).bind fun y3=> (dec y4).bind fun y4=> (dec y5).bind fun y5=> (dec y6).bind fun y6=>
   (dec x1).bind fun x1=> (dec x2).bind fun x2=> (dec x3).bind fun x3=> (dec x4).bind fun x4=> (dec x5).bind fun x5=> some ⟨x0,⟨y0,y1,y2,y3,y4,y5,y6⟩,x1,x2,x3,x4,x5⟩):=by
 show KU _=_
 simp only[KU,SE,SC,Option.bind_assoc,Option.bind_some]
end Go.Gv

namespace Go.Gv
theorem cp {α:Type} {l:List α} {k:Nat} {a:α} (h:l[k]?=some a):l.take (k+1)=l.take k++ [a]:=by
 rw[List.take_add_one,h];rfl
theorem dC {α:Type} {l:List α} {k:Nat} {a:α} (h:l[k]?=some a):l.drop k=a::l.drop (k+1):=by
 obtain⟨hk,rfl⟩:=List.getElem?_eq_some_iff.1 h
 exact List.drop_eq_getElem_cons hk
theorem cn {α:Type} {l:List α} {k:Nat} {a:α} (h:l[k]?=some a):a∈l:=List.mem_of_getElem? h
theorem cV {α:Type} {l:List α} {k:Nat} (h:k < l.length): ∃a,l[k]?=some a:=⟨l[k],List.getElem?_eq_getElem h⟩
def Zf (a b:Span):Prop:=a.b < b.b∨a.b=b.b∧a.e < b.e
instance (a b:Span):Decidable (Zf a b):=by unfold Zf;infer_instance
theorem UL (a:Span): ¬Zf a a:=by unfold Zf;omega
theorem Span.ext' {a b:Span} (h:a.b=b.b) (k:a.e=b.e):a=b:=by cases a;cases b;simp at h k;simp[h,k]
def SS (l:List Span):Prop:=l.Pairwise Zf
theorem SS.nil:SS []:=List.Pairwise.nil
def IsNorm (l r:List Span):Prop:=SS r∧ ∀x,x∈r↔x∈l
theorem IsNorm.nil:IsNorm [] []:=⟨SS.nil,fun _=> Iff.rfl⟩
theorem IsNorm.congr {l l' r:List Span} (h:IsNorm l r) (hl: ∀x,x∈l↔x∈l'):IsNorm l' r:=⟨h.1,fun x=> (h.2 x).trans (hl x)⟩
theorem QU: ∀ {r l:List Span},SS r→(∀x∈r,x∈l)→r.length≤l.length
 | [],l,_,_=> Nat.zero_le _
 | x::r,l,h,hl=> by
   have h':=List.pairwise_cons.1 h
   have hx:=hl x (by simp)
   have:=QU (l:=l.erase x) h'.2 fun y hy=> (List.mem_erase_of_ne (fun(e:y=x)=> UL x (by have:=h'.1 y hy;rwa [e] at this))).2 (hl y (by simp[hy]))
   rw[List.length_erase_of_mem hx] at this
   have:=List.length_pos_of_mem hx
   simp;omega
theorem IsNorm.len {l r:List Span} (h:IsNorm l r):r.length≤l.length:=QU h.1 fun x hx=> (h.2 x).1 hx
theorem IsNorm.same {l l' r:List Span} (h:IsNorm l r) (hl: ∀x,x∈l'↔x∈l):IsNorm l' r:=⟨h.1,fun x=> (h.2 x).trans (hl x).symm⟩
def uL {X:Type} :List X→(X→Bool)→Int
 | [],_=> -1
 | x::l,p=> if p x then 0 else if uL l p < 0 then -1 else uL l p+1
theorem Ad {X:Type} {p:X→Bool} : ∀ {l:List X},(∀y∈l,p y=false)→uL l p= -1
 | [],_=> rfl
 | x::l,h=> by
   have:=Ad (l:=l) (fun y hy=> h y (by simp[hy]))
   simp[uL,h x (by simp),this]
theorem IG {X:Type} {p:X→Bool} : ∀ {l:List X} {k:Nat} {x:X},l[k]?=some x→p x=true→(∀y∈l.take k,p y=false)→uL l p=k
 | [],k,x,hx,_,_=> by simp at hx
 | z::l,0,x,hx,hp,_=> by
   simp at hx
   subst hx
   simp[uL,hp]
 | z::l,k+1,x,hx,hp,hb=> by
   have hz:=hb z (by simp)
   have ih:=IG (l:=l) (k:=k) (by simpa using hx) hp (fun y hy=> hb y (by simp[hy]))
   simp[uL,hz,ih]
   omega
theorem Mv {X:Type} (p:X→Bool) (l:List X): (uL l p= -1∧ ∀y∈l,p y=false)∨ ∃k x,uL l p=(k:Nat)∧l[k]?=some x∧p x=true∧ ∀y∈l.take k,p y=false:=by
 induction l with
 | nil=> exact .inl ⟨rfl,by simp⟩
 | cons z l ih=>
   by_cases hz:p z=true
   ·exact .inr ⟨0,z,by simp[uL,hz],by simp,hz,by simp⟩
   ·have hz:p z=false:=by simpa using hz
    rcases ih with⟨h1,h2⟩ | ⟨k,x,h1,h2,h3,h4⟩
    ·refine .inl ⟨by simp[uL,hz,h1],fun y hy=> ?_⟩
     rcases List.mem_cons.1 hy with rfl | hy
     ·exact hz
     ·exact h2 y hy
    ·refine .inr ⟨k+1,x,?_,by simpa using h2,h3,fun y hy=> ?_⟩
     ·simp[uL,hz,h1];omega
     ·rw[List.take_succ_cons] at hy
      rcases List.mem_cons.1 hy with rfl | hy
      ·exact hz
      ·exact h4 y hy
theorem NH {X:Type} (p:X→Bool) (l:List X):decide (0≤uL l p)=l.any p:=by
 rcases Mv p l with⟨h1,h2⟩ | ⟨k,x,h1,h2,h3,h4⟩
 ·have:l.any p=false:=by simpa using h2
  rw[h1,this];rfl
 ·have:l.any p=true:=List.any_eq_true.2 ⟨x,cn h2,h3⟩
  rw[h1,this];simp
theorem SS.filter {l:List Span} (h:SS l) (p:Span→Bool):SS (l.filter p):=List.Pairwise.filter p h
theorem IsNorm.filter {l r:List Span} (h:IsNorm l r) (p:Span→Bool):IsNorm (l.filter p) (r.filter p):=⟨h.1.filter p,fun x=> by simp[h.2 x]⟩
end Go.Gv

namespace Go.Gv
instance:Inhabited Cond:=⟨⟨0,⟨#[]⟩,⟨#[]⟩,⟨#[]⟩,⟨#[]⟩,false, []⟩⟩
instance:Inhabited Pat:=⟨⟨0,default,⟨#[]⟩,⟨#[]⟩,0,0, []⟩⟩
def Cond0:Cond:=⟨0,⟨#[]⟩,⟨#[]⟩,⟨#[]⟩,⟨#[]⟩,false, []⟩
mutual
def eJ:Pat→Nat | .mk _ _ _ _ _ _ ks=> J2 ks+1
def J2:List Pat→Nat | []=> 0 | k::ks=> max (eJ k) (J2 ks)
end
mutual
def hJ:Cond→Nat | .mk _ _ _ _ _ _ ks=> jn ks+1
def jn:List Cond→Nat | []=> 0 | k::ks=> max (hJ k) (jn ks)
end
mutual
def vF:Pat→Nat | .mk _ _ _ _ _ _ ks=> fH ks+1
def fH:List Pat→Nat | []=> 0 | k::ks=> vF k+fH ks
end
theorem Nx (p:Pat):eJ p=J2 p.kids+1:=by cases p;rw[eJ]
theorem vk (p:Cond):hJ p=jn p.kids+1:=by cases p;rw[hJ]
theorem pz (p:Pat):vF p=fH p.kids+1:=by cases p;rw[vF]
theorem GL {k:Pat} : ∀ {ks:List Pat},k∈ks→eJ k≤J2 ks
 | a::ks,h=> by
   rw[J2]
   rcases List.mem_cons.1 h with rfl | h
   ·omega
   ·have:=GL h;omega
theorem Aw {k:Cond} : ∀ {ks:List Cond},k∈ks→hJ k≤jn ks
 | a::ks,h=> by
   rw[jn]
   rcases List.mem_cons.1 h with rfl | h
   ·omega
   ·have:=Aw h;omega
theorem k9 {p k:Pat} (h:k∈p.kids):eJ k < eJ p:=by have:=GL h;rw[Nx p];omega
theorem La {p k:Cond} (h:k∈p.kids):hJ k < hJ p:=by have:=Aw h;rw[vk p];omega
theorem vf {C:Pat→Prop} (h: ∀p,(∀k∈p.kids,C k)→C p) (p:Pat):C p:=by
 generalize hn:eJ p=n
 induction n using Nat.strongRecOn generalizing p with
 | _ n ih=> exact h p fun k hk=> ih (eJ k) (by rw[←hn];exact k9 hk) k rfl
mutual
def eN (f:Pat→Bool):Pat→Bool | .mk op c l r mn mx ks=> f ⟨op,c,l,r,mn,mx,ks⟩ && yz f ks
def yz (f:Pat→Bool):List Pat→Bool | []=> true | k::ks=> eN f k && yz f ks
end
theorem ED (f:Pat→Bool): ∀ks:List Pat,yz f ks=ks.all (eN f)
 | []=> by rw[yz];rfl
 | k::ks=> by rw[yz,ED f ks,List.all_cons]
theorem fC (f:Pat→Bool) (p:Pat):eN f p=(f p && p.kids.all (eN f)):=by cases p;rw[eN,ED]
mutual
def cx:Pat→Int→Bool | .mk _ _ _ _ _ _ ks,d=> decide (d≤100) && qs ks (d+1)
def qs:List Pat→Int→Bool | [],_=> true | k::ks,d=> cx k d && qs ks d
end
theorem xK (d:Int): ∀ks:List Pat,qs ks d=ks.all (cx · d)
 | []=> by rw[qs];rfl
 | k::ks=> by rw[qs,xK d ks,List.all_cons]
theorem kq (p:Pat) (d:Int):cx p d=(decide (d≤100) && p.kids.all (cx · (d+1))):=by cases p;rw[cx,xK]
theorem HK (p:Pat): ∀d d':Int,d'≤d→cx p d=true→cx p d'=true:=by
 induction p using vf with | _ p ih=> ?_
 intro d d' h
 rw[kq,kq]
 simp only[Bool.and_eq_true,decide_eq_true_eq,List.all_eq_true]
 exact fun⟨h1,h2⟩=> ⟨by omega,fun k hk=> ih k hk (d+1) (d'+1) (by omega) (h2 k hk)⟩
def AB (p:Pat):Prop:=(p.op=1∧p.reg=⟨#[]⟩∧p.mn=0∧p.mx=0∧p.kids= [])∨
 ((p.op=2∨p.op=3)∧p.cond=Cond0∧p.lab=⟨#[]⟩∧p.mn=0∧p.mx=0∧p.kids= [])∨
 ((p.op=4∨p.op=5)∧p.cond=Cond0∧p.lab=⟨#[]⟩∧p.reg=⟨#[]⟩∧p.mn=0∧p.mx=0∧2≤p.kids.length)∨
 (p.op=6∧p.cond=Cond0∧p.lab=⟨#[]⟩∧p.reg=⟨#[]⟩∧p.kids.length=1)
noncomputable def lG (p:Pat):Bool:= @decide (AB p) (Classical.propDecidable _)
theorem zY (p:Pat):lG p=true↔AB p:= @decide_eq_true_iff (AB p) (Classical.propDecidable _)
def zX (p:Pat):Bool:=decide (p.op=6→0≤p.mn∧p.mn≤16∧(p.mx= -1∨p.mn≤p.mx∧p.mx≤16))
def yi (v:B→Bool) (p:Pat):Bool:=decide (((p.op=2∨p.op=3)→v p.reg=true)∧(p.lab≠ ⟨#[]⟩→v p.lab=true))
noncomputable def qE (v:B→Bool) (p:Pat):Bool:=cx p 1 && eN lG p && eN (yi v) p && eN zX p
theorem JZ {v:B→Bool} {p k:Pat} (h:qE v p=true) (hk:k∈p.kids):qE v k=true:=by
 unfold qE at*
 rw[fC,fC,fC zX,kq] at h
 simp only[Bool.and_eq_true,List.all_eq_true] at h
 obtain⟨⟨⟨⟨_,h1⟩,_,h2⟩,_,h3⟩,_,h4⟩:=h
 rw[h2 k hk,h3 k hk,h4 k hk,HK k _ 1 (by omega) (h1 k hk)]
 rfl
theorem GH {v:B→Bool} {p:Pat} (h:qE v p=true):lG p=true∧yi v p=true∧zX p=true:=by
 unfold qE at*
 rw[fC,fC,fC zX] at h
 simp only[Bool.and_eq_true] at h
 exact⟨h.1.1.2.1,h.1.2.1,h.2.1⟩
def AG (p:Pat) (n:Int):Int:=if p.kids= [] then 1 else if p.op=6 then(if p.mx= -1 then min (n* (p.mn+1)) 1000 else if p.mx=0 then n else min (n*p.mx) 1000) else n
mutual
def kM:Pat→Int | .mk op c l r mn mx ks=> AG ⟨op,c,l,r,mn,mx,ks⟩ (gR ks 0)
def gR:List Pat→Int→Int | [],n=> n | k::ks,n=> gR ks (min (n+kM k) 1000)
end
theorem qr (p:Pat):kM p=AG p (gR p.kids 0):=by cases p;rw[kM]
theorem LV (a b:List Pat) (n:Int):gR (a++b) n=gR b (gR a n):=by
 induction a generalizing n with
 | nil=> rfl
 | cons k a ih=> simp only[List.cons_append,gR];exact ih _
mutual
def aQ:Pat→List Pat | .mk op c l r mn mx ks=> if op=1 then[⟨op,c,l,r,mn,mx,ks⟩] else ul ks
def ul:List Pat→List Pat | []=> [] | k::ks=> aQ k++ul ks
end
theorem AP: ∀ks:List Pat,ul ks=ks.flatMap aQ
 | []=> by rw[ul];rfl
 | k::ks=> by rw[ul,AP ks,List.flatMap_cons]
theorem bq (p:Pat):aQ p=if p.op=1 then[p] else p.kids.flatMap aQ:=by cases p;rw[aQ,AP]
theorem Mp (p:Pat): (aQ p).length≤vF p:=by
 induction p using vf with | _ p ih=> ?_
 rw[bq,pz]
 split
 ·simp
 ·have: ∀ks:List Pat,(∀k∈ks,(aQ k).length≤vF k)→(ks.flatMap aQ).length≤fH ks:=by
   intro ks
   induction ks with
   | nil=> intro _;simp[fH]
   | cons k ks ih=>
     intro h
     rw[List.flatMap_cons,List.length_append,fH]
     have h1:=h k (by simp)
     have h2:=ih fun x hx=> h x (by simp[hx])
     omega
  have:=this p.kids ih
  omega
theorem rc: ∀ (ks:List Pat) (n:Int),0≤n→n≤1000→(∀k∈ks,0≤kM k)→0≤gR ks n∧gR ks n≤1000
 | [],n,h0,h1,_=> by rw[gR];exact⟨h0,h1⟩
 | k::ks,n,h0,h1,h=> by
   rw[gR]
   have:=h k (by simp)
   exact rc ks _ (by omega) (by omega) fun x hx=> h x (by simp[hx])
theorem OJ {v:B→Bool} (p:Pat):qE v p=true→0≤kM p∧kM p≤1000:=by
 induction p using vf with | _ p ih=> ?_
 intro h
 have hk:=rc p.kids 0 (by omega) (by omega) fun k hk=> (ih k hk (JZ h hk)).1
 have hn:=(GH h).2.2
 unfold zX at hn
 rw[decide_eq_true_eq] at hn
 rw[qr]
 generalize gR p.kids 0=n at hk
 unfold AG
 split
 ·omega
 ·split
  ·rename_i h6
   have hn:=hn h6
   split
   ·have:0≤n* (p.mn+1):=Int.mul_nonneg hk.1 (by omega)
    omega
   ·split
    ·exact hk
    ·have:0≤n*p.mx:=Int.mul_nonneg hk.1 (by omega)
     omega
  ·exact hk
end Go.Gv

namespace Go.Gv
def Z4:B:=⟨#[115]⟩
def Vk:B:=⟨#[110,112]⟩
def qb0:B:=⟨#[116]⟩
def Z2:B:=⟨#[120]⟩
def Z1:B:=⟨#[121]⟩
def pH:List B:= [Z4,Vk,qb0]
def Reps:List (Int×Int):= [(0,1),(0, -1),(1, -1),(2,2),(0,2),(1,3),(0,0)]
def Yt (lb:List B) (p:Pat):Prop:=(p.op=1∧(p.lab=⟨#[]⟩∨p.lab∈lb)∧p.reg=⟨#[]⟩∧p.mn=0∧p.mx=0∧p.kids= [])∨((p.op=2∨p.op=3)∧p.cond=Cond0∧p.lab=⟨#[]⟩∧p.reg∈pH∧p.mn=0∧p.mx=0∧p.kids= [])
def WP (lb:List B):Nat→Pat→Prop
 | 0,p=> Yt lb p
 | n+1,p=> Yt lb p∨((p.op=4∨p.op=5)∧p.cond=Cond0∧p.lab=⟨#[]⟩∧p.reg=⟨#[]⟩∧p.mn=0∧p.mx=0∧ ∃a b,p.kids= [a,b]∧WP lb n a∧WP lb n b)∨
   (p.op=6∧p.cond=Cond0∧p.lab=⟨#[]⟩∧p.reg=⟨#[]⟩∧(p.mn,p.mx) ∈Reps∧ ∃a,p.kids= [a]∧WP lb n a)
theorem Yx {lb:List B} {n:Nat} {p:Pat} (h:Yt lb p):WP lb n p:=by
 cases n
 ·exact h
 ·exact .inl h
def Hg (lb:List B):Prop:= ∀l∈lb,l=Z2∨l=Z1
theorem th {lb:List B} {n:Nat} {p:Pat} (h:WP lb n p):Yt lb p∨ ∃m,n=m+1∧(((p.op=4∨p.op=5)∧p.cond=Cond0∧p.lab=⟨#[]⟩∧p.reg=⟨#[]⟩∧p.mn=0∧p.mx=0∧ ∃a b,p.kids= [a,b]∧WP lb m a∧WP lb m b)∨
 (p.op=6∧p.cond=Cond0∧p.lab=⟨#[]⟩∧p.reg=⟨#[]⟩∧(p.mn,p.mx) ∈Reps∧ ∃a,p.kids= [a]∧WP lb m a)):=by
 cases n with
 | zero=> exact .inl h
 | succ m=> exact h.elim .inl fun h=> .inr ⟨m,rfl,h⟩
theorem Ca {lb:List B} {C:Nat→Pat→Prop} (h: ∀n p,WP lb n p→(∀k∈p.kids,∃m,n=m+1∧WP lb m k∧C m k)→C n p): ∀n p,WP lb n p→C n p:=by
 intro n
 induction n with
 | zero=>
   intro p hp
   refine h 0 p hp fun k hk=> ?_
   rcases hp with hp | hp
   ·rw[hp.2.2.2.2.2] at hk;simp at hk
   ·rw[hp.2.2.2.2.2.2] at hk;simp at hk
 | succ m ih=>
   intro p hp
   refine h (m+1) p hp fun k hk=> ⟨m,rfl,?_⟩
   have:WP lb m k:=by
    rcases hp with(hp | hp) | hp | hp
    ·rw[hp.2.2.2.2.2] at hk;simp at hk
    ·rw[hp.2.2.2.2.2.2] at hk;simp at hk
    ·obtain⟨a,b,e,ha,hb⟩:=hp.2.2.2.2.2.2
     rw[e] at hk
     simp at hk
     rcases hk with rfl | rfl
     ·exact ha
     ·exact hb
    ·obtain⟨a,e,ha⟩:=hp.2.2.2.2.2
     rw[e] at hk
     simp at hk
     subst hk
     exact ha
   exact⟨this,ih k this⟩
theorem Nc {v:B→Bool} {lb:List B} (hl:Hg lb) (hv:v Z4=true∧v Vk=true∧v qb0=true∧v Z2=true∧v Z1=true): ∀n p,WP lb n p→n≤90→qE v p=true:=by
 have key: ∀n p,WP lb n p→(n≤90→ ∀d:Int,d+n≤100→cx p d=true)∧eN lG p=true∧eN (yi v) p=true∧eN zX p=true:=by
  refine Ca fun n p hp ih=> ?_
  have hnode:lG p=true∧yi v p=true∧zX p=true:=by
   rw[zY]
   unfold AB yi zX
   rw[decide_eq_true_eq,decide_eq_true_eq]
   have hr: (p.mn,p.mx) ∈Reps→0≤p.mn∧p.mn≤16∧(p.mx= -1∨p.mn≤p.mx∧p.mx≤16):=by
    intro h
    simp[Reps] at h
    omega
   have ht:p.reg∈pH→v p.reg=true:=by
    intro h
    simp[pH] at h
    rcases h with h | h | h <;> rw[h]
    ·exact hv.1
    ·exact hv.2.1
    ·exact hv.2.2.1
   rcases th hp with(⟨h1,h2,h3,h4,h5,h6⟩ | ⟨h1,h2,h3,h4,h5,h6,h7⟩) | ⟨m,_,(⟨h1,h2,h3,h4,h5,h6,a,b,h7,_⟩ | ⟨h1,h2,h3,h4,h5,a,h7,_⟩)⟩
   ·refine⟨.inl ⟨h1,h3,h4,h5,h6⟩,⟨fun h=> by omega,fun hne=> ?_⟩,fun h=> by omega⟩
    rcases h2 with h2 | h2
    ·exact absurd h2 hne
    ·rcases hl _ h2 with h | h <;> rw[h]
     ·exact hv.2.2.2.1
     ·exact hv.2.2.2.2
   ·exact⟨.inr (.inl ⟨h1,h2,h3,h5,h6,h7⟩),⟨fun _=> ht h4,fun h=> absurd h3 h⟩,fun h=> by omega⟩
   ·exact⟨.inr (.inr (.inl ⟨h1,h2,h3,h4,h5,h6,by rw[h7];simp⟩)),⟨fun h=> by omega,fun h=> absurd h3 h⟩,fun h=> by omega⟩
   ·exact⟨.inr (.inr (.inr ⟨h1,h2,h3,h4,by rw[h7];simp⟩)),⟨fun h=> by omega,fun h=> absurd h3 h⟩,fun _=> hr h5⟩
  refine⟨fun hn d hd=> ?_,?_,?_,?_⟩
  ·rw[kq,Bool.and_eq_true,decide_eq_true_eq,List.all_eq_true]
   refine⟨by omega,fun k hk=> ?_⟩
   obtain⟨m,e,_,h,_⟩:=ih k hk
   exact h (by omega) _ (by omega)
  ·rw[fC,Bool.and_eq_true,List.all_eq_true]
   exact⟨hnode.1,fun k hk=> by obtain⟨m,e,_,h⟩:=ih k hk;exact h.2.1⟩
  ·rw[fC,Bool.and_eq_true,List.all_eq_true]
   exact⟨hnode.2.1,fun k hk=> by obtain⟨m,e,_,h⟩:=ih k hk;exact h.2.2.1⟩
  ·rw[fC,Bool.and_eq_true,List.all_eq_true]
   exact⟨hnode.2.2,fun k hk=> by obtain⟨m,e,_,h⟩:=ih k hk;exact h.2.2.2⟩
 intro n p hp hn
 obtain⟨h1,h2,h3,h4⟩:=key n p hp
 unfold qE
 rw[h1 hn 1 (by omega),h2,h3,h4]
 rfl
theorem Nb {lb:List B} : ∀n p,WP lb n p→n≤5→1≤kM p∧kM p≤3^n∧vF p+1≤2^ (n+1):=by
 refine Ca fun n p hp ih hn=> ?_
 have hb: (1:Int)≤3^n∧1≤2^n:=⟨Int.pow_pos (by omega),Nat.one_le_two_pow⟩
 rcases th hp with(⟨h1,h2,h3,h4,h5,h6⟩ | ⟨h1,h2,h3,h4,h5,h6,h7⟩) | ⟨m,rfl,(⟨h1,h2,h3,h4,h5,h6,a,b,h7,_⟩ | ⟨h1,h2,h3,h4,h5,a,h7,_⟩)⟩
 ·rw[qr,AG,if_pos h6,pz,h6,fH,Nat.pow_succ];omega
 ·rw[qr,AG,if_pos h7,pz,h7,fH,Nat.pow_succ];omega
 ·obtain⟨m1,e1,_,a1⟩:=ih a (by rw[h7];simp)
  obtain⟨m2,e2,_,a2⟩:=ih b (by rw[h7];simp)
  have e1:m1=m:=by omega
  have e2:m2=m:=by omega
  subst e1;subst e2
  have a1:=a1 (by omega)
  have a2:=a2 (by omega)
  rw[qr,AG,if_neg (by rw[h7];simp),if_neg (by omega),pz,h7]
  simp only[gR,fH]
  rw[Int.pow_succ,Nat.pow_succ]
  rw[Nat.pow_succ] at a1 a2 ⊢
  have h2: (0:Int)≤3^m2:=by omega
  have: (3:Int) ^m2≤243:=by
   have:m2=0∨m2=1∨m2=2∨m2=3∨m2=4:=by omega
   rcases this with rfl | rfl | rfl | rfl | rfl <;> decide
  omega
 ·obtain⟨m1,e1,_,a1⟩:=ih a (by rw[h7];simp)
  have e1:m1=m:=by omega
  subst e1
  have a1:=a1 (by omega)
  rw[qr,AG,if_neg (by rw[h7];simp),if_pos h1,pz,h7]
  simp only[gR,fH]
  rw[Int.pow_succ,Nat.pow_succ]
  rw[Nat.pow_succ] at a1 ⊢
  have: (3:Int) ^m1≤243:=by
   have:m1=0∨m1=1∨m1=2∨m1=3∨m1=4:=by omega
   rcases this with rfl | rfl | rfl | rfl | rfl <;> decide
  simp only[Reps,List.mem_cons,Prod.mk.injEq,List.not_mem_nil,or_false] at h5
  rw[show min (0+kM a) 1000=kM a by omega]
  rcases h5 with⟨e1,e2⟩ | ⟨e1,e2⟩ | ⟨e1,e2⟩ | ⟨e1,e2⟩ | ⟨e1,e2⟩ | ⟨e1,e2⟩ | ⟨e1,e2⟩ <;> rw[e1,e2] <;> simp <;> omega
end Go.Gv

namespace Go.Gv
theorem GK (a b:List Pat):fH (a++b)=fH a+fH b:=by
 induction a with
 | nil=> simp[fH]
 | cons k a ih=> simp only[List.cons_append,fH];omega
end Go.Gv

namespace Go.Gv
def CS:Nat→Cond→Prop
 | 0,c=> c.kids= []
 | n+1,c=> c.kids.length≤2∧ ∀k∈c.kids,CS n k
theorem MP {n:Nat} {c:Cond} (h:c.kids= []):CS n c:=by
 cases n
 ·exact h
 ·exact⟨by rw[h];exact Nat.zero_le _,fun k hk=> by rw[h] at hk;simp at hk⟩
theorem Xy {n m:Nat} {c a:Cond} (hm:n=m+1) (h:c.kids= [a]) (ha:CS m a):CS n c:=by
 subst hm
 refine⟨by rw[h];exact Nat.le_succ _,fun k hk=> ?_⟩
 rw[h] at hk
 have:k=a:=by simpa using hk
 subst this
 exact ha
theorem Xx {n m:Nat} {c a b:Cond} (hm:n=m+1) (h:c.kids= [a,b]) (ha:CS m a) (hb:CS m b):CS n c:=by
 subst hm
 refine⟨by rw[h];exact Nat.le_refl _,fun k hk=> ?_⟩
 rw[h] at hk
 have:k=a∨k=b:=by simpa using hk
 rcases this with rfl | rfl
 ·exact ha
 ·exact hb
theorem U5 {n:Nat} {c d:Cond} (h:c.kids=d.kids) (hd:CS n d):CS n c:=by
 cases n
 ·exact h.trans hd
 ·exact⟨by rw[h];exact hd.1,fun k hk=> hd.2 k (by rw[←h];exact hk)⟩
theorem Xz {n:Nat} {c:Cond} (h:CS n c):c.kids.length≤2:=by
 cases n
 ·have:c.kids= []:=h
  rw[this];exact Nat.zero_le _
 ·exact h.1
def PD:Nat→Pat→Prop
 | 0,p=> (∃m,CS m p.cond)∧p.kids= []
 | n+1,p=> (∃m,CS m p.cond)∧p.kids.length≤2∧ ∀k∈p.kids,PD n k
theorem Rk {n:Nat} {p:Pat} (hc: ∃m,CS m p.cond) (h:p.kids= []):PD n p:=by
 cases n
 ·exact⟨hc,h⟩
 ·exact⟨hc,by rw[h];exact Nat.zero_le _,fun k hk=> by rw[h] at hk;simp at hk⟩
theorem WA {n m:Nat} {p a:Pat} (hm:n=m+1) (hc: ∃m,CS m p.cond) (h:p.kids= [a]) (ha:PD m a):PD n p:=by
 subst hm
 refine⟨hc,by rw[h];exact Nat.le_succ _,fun k hk=> ?_⟩
 rw[h] at hk
 have:k=a:=by simpa using hk
 subst this
 exact ha
theorem Rj {n m:Nat} {p a b:Pat} (hm:n=m+1) (hc: ∃m,CS m p.cond) (h:p.kids= [a,b]) (ha:PD m a) (hb:PD m b):PD n p:=by
 subst hm
 refine⟨hc,by rw[h];exact Nat.le_refl _,fun k hk=> ?_⟩
 rw[h] at hk
 have:k=a∨k=b:=by simpa using hk
 rcases this with rfl | rfl
 ·exact ha
 ·exact hb
theorem NZ: ∃m,CS m Cond0:=⟨0,rfl⟩
theorem Uv {n:Nat} {p:Pat} (h:PD n p): ∃m,CS m p.cond:=by cases n <;> exact h.1
theorem WB {n:Nat} {p:Pat} (h:PD n p):p.kids.length≤2:=by
 cases n
 ·rw[h.2];exact Nat.zero_le _
 ·exact h.2.1
theorem WC {n:Nat} {p k:Pat} (h:PD n p) (hk:k∈p.kids): ∃m,n=m+1∧PD m k:=by
 cases n
 ·rw[h.2] at hk;simp at hk
 ·exact⟨_,rfl,h.2.2 k hk⟩
theorem XA {n:Nat} {p k:Cond} (h:CS n p) (hk:k∈p.kids): ∃m,n=m+1∧CS m k:=by
 cases n
 ·have h:p.kids= []:=h
  rw[h] at hk;simp at hk
 ·exact⟨_,rfl,h.2 k hk⟩
end Go.Gv

namespace Go.Gv
open Go.Proofs
def EY:CC:=oX [oB 4 (.mv (oN 0))] [0,1] [] (.seq (oX [oA 5 1,oB 6 (.cmp .lss (oT 5) (oN 1))] [0,1,6] [] (.ite (oT 6) (oX [oB 4 (.mv (oN 0))] [4] [] (.ret)) (.skip))) (.keep [0,1] [] (oX [oA 7 0,oA 8 1,oB 9 (.arith .rem (oT 7) (oT 8)),oA 0 9] [0,1] [] (.seq (oX [oA 10 0,oB 11 (.cmp .lss (oT 10) (oN 0))] [0,1,11] [] (.ite (oT 11) (.reg [oA 12 0,oA 13 1,
 oB 14 (.arith .add (oT 12) (oT 13)),oA 0 14]) (.skip))) (.keep [0] [] (oX [oA 15 0,oA 4 15] [4] [] (.ret)))))))
def Dl:List aK:= [.tmp 4]
def R0:List Nat:= []
theorem Rs:aS Tryz.prog mo R0 EY Dl 16:=aF ay (by kernel_rfl)
-- r04_ValidName while id=0: live [0:s, 3:i] changed [3] res []
def Av:CC:=oX [oB 2 (.mv (oS ⟨#[]⟩))] [0] [] (oX [oB 3 (.bslice ax 1 [oS ⟨#[115]⟩,oS ⟨#[110,112]⟩,oS ⟨#[116]⟩]),oA 4 0,oZ 5 mo [oT 4,oN 3],oB 6 (.iaddr 1 (oT 3) (oT 5)),oC 7 1 6,oA 2 7] [2] [] (.ret))
def zz:List aK:= [.tmp 2]
def Pn:List Nat:= []
theorem O5:aS Tryz.prog fM Pn Av zz 8:=aF ay (by kernel_rfl)
def oY:CC:=oX [oB 4 (.mv (oN 0))] [0,1] [] (.seq (.seq (.regd [oA 5 0,oG 6 5,oE 7 1 6,oC 8 1 7,oA 9 0,oG 10 9,oE 11 0 10,oC 12 1 11,oB 13 (.len (oT 12))] [oB 14 (.cmp .geq (oT 8) (oT 13))]) (.keep [0,1,14] [] (.ite (oT 14) (oX [oB 4 (.mv (oN 0))] [4] [] (.ret)) (.skip)))) (.keep [0,1] [] (oX [oA 15 0,oG 16 15,oE 17 1 16,oC 18 1 17,
 oB 19 (.arith .add (oT 18) (oN 1)),oG 20 15,oE 21 1 20,oF 1 21 19] [0,1] [] (.seq (.regd [oA 22 0,oG 23 22,oE 24 0 23,oC 25 1 24,oA 26 0,oG 27 26,oE 28 1 27,oC 29 1 28,oB 30 (.arith .sub (oT 29) (oN 1)),oB 31 (.iaddr 1 (oT 25) (oT 30)),oC 32 1 31,oA 33 1] [oZ 34 mo [oT 32,oT 33],oA 4 34]) (.keep [4] [] (.ret))))))
def tN:List aK:= [.tmp 4]
def En:List Nat:= []
theorem DP:aS Tryz.prog aj En oY tN 35:=aF ay (by kernel_rfl)
def EX:CC:=oX [oB 2 (.mv (.const (.pointer none)))] [0] [] (.seq (oX [oA 3 0,oB 4 (.len (oT 3)),oB 5 (.cmp .gtr (oT 4) (oN 120))] [0,5] [] (.ite (oT 5) (.reg [oA 6 0,oB 7 (.slice 1 (oT 6) none (some (oN 120))),oA 0 7]) (.skip))) (.keep [0] [] (oX [oA 8 0,oB 9 (.build [on,oi] [(0,1,oT 8)]),oB 10 (.box vE false (oT 9)),oA 2 10] [2] [10] (.ret))))
def Dk:List aK:= [.tmp 2]
def RZ:List Nat:= [999]
theorem Rr:aS Tryz.prog yy RZ EX Dk 11:=aF ay (by kernel_rfl)
end Go.Gv

namespace Go.Gv
open Cod (enc dec)
variable {S:Nat→Spc}
def FW (x n:Int):Int:=if n < 1 then 0 else if x.tmod n < 0 then x.tmod n+n else x.tmod n
abbrev vd:Spc:=dt (a2 Int Int) (fun x=> x.2≤1000000000) enc fun x y=> y=FW x.1 x.2
theorem TR:Walk EY Dl S (a2 Int Int) (fun x=> x.2≤1000000000) enc fun x y=> y=FW x.1 x.2:=by
 rintro⟨a,b⟩ hl
 simp at hl
 simp[EY,Dl,FW]
 refine⟨fun h1 h2=> by omega,fun h1=> ⟨by omega,fun h2=> ⟨?_,?_⟩,fun h2=> ?_⟩⟩
 ·have:=Int.lt_tmod_of_pos a (b:=b) (by omega)
  simp[InR];omega
 ·rw[if_neg (by omega),if_pos h2]
 ·rw[if_neg (by omega),if_neg (by omega)]
end Go.Gv
