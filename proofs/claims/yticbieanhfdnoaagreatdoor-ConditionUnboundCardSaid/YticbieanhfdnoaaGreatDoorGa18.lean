/- A part of the framework and of the walks: V1 L1 Cd. -/
import Derived.Test.YticbieanhfdnoaaGreatDoorProg
import Derived.Test.YticbieanhfdnoaaGreatDoorGa17
set_option linter.unusedSimpArgs false
set_option linter.unusedVariables false

namespace Go.Gv
open Cod (enc dec)
abbrev B:=ByteArray
structure I32 where
 val:Int
deriving DecidableEq
instance:Cod I32 where
 wd:=1
 enc n:= .v (.int .i32 n.val)
 dec | .v (.int .i32 n)=> some ⟨n⟩ | _=> none
 kn _:=rfl
 wid _:=rfl
 dec_enc _:=rfl
 le d x h:=by
  split at h
  ·cases h;exact .same _
  ·cases h
@[simp] theorem Ta (n:I32):enc n= .v (.int .i32 n.val):=id rfl
@[simp] theorem Uj:Cod.wd I32=1:=id rfl
@[simp] theorem Ti (n:Int):dec (X:=I32) (.v (.int .i32 n))=some ⟨n⟩:=id rfl
@[simp] theorem SV (n:I32):I32.mk n.val=n:=id rfl
structure U8 where
 val:Int
deriving DecidableEq
instance:Cod U8 where
 wd:=1
 enc n:= .v (.int .u8 n.val)
 dec | .v (.int .u8 n)=> some ⟨n⟩ | _=> none
 kn _:=rfl
 wid _:=rfl
 dec_enc _:=rfl
 le d x h:=by
  split at h
  ·cases h;exact .same _
  ·cases h
@[simp] theorem YB (n:U8):enc n= .v (.int .u8 n.val):=id rfl
@[simp] theorem YK (n:Int):dec (X:=U8) (.v (.int .u8 n))=some ⟨n⟩:=id rfl
@[simp] theorem Yw (n:U8):U8.mk n.val=n:=id rfl
structure Pair where
 nm:B
 vl:B
deriving DecidableEq
instance:Cod Pair where
 wd:=2
 enc s:= .agg [enc s.nm,enc s.vl]
 dec | .agg [x0,x1]=> (dec x0).bind fun x0=> (dec x1).bind fun x1=> some ⟨x0,x1⟩ | _=> none
 kn _:=rfl
 wid _:=rfl
 dec_enc s:=by simp
 le d x h:=by
  split at h
  ·simp only[Option.bind_eq_some_iff] at h
   obtain⟨x0,h0,x1,h1,h⟩:=h
   cases h
   exact LeL.agg (.cons (Cod.le _ _ h0) (.cons (Cod.le _ _ h1) .nil))
  ·cases h
@[simp] theorem QD (s:Pair): (Pair.mk s.nm s.vl)=s:=id rfl
@[simp] theorem QH (s:Pair):enc s= .agg [enc s.nm,enc s.vl]:=id rfl
@[simp] theorem Rw:Cod.wd Pair=2:=id rfl
@[simp] theorem QN (x0 x1:D):dec (X:=Pair) (.agg [x0,x1])=((dec x0).bind fun x0=> (dec x1).bind fun x1=> some ⟨x0,x1⟩):=id rfl
structure Attr where
 nm:B
 st:Bool
deriving DecidableEq
instance:Cod Attr where
 wd:=2
 enc s:= .agg [enc s.nm,enc s.st]
 dec | .agg [x0,x1]=> (dec x0).bind fun x0=> (dec x1).bind fun x1=> some ⟨x0,x1⟩ | _=> none
 kn _:=rfl
 wid _:=rfl
 dec_enc s:=by simp
 le d x h:=by
  split at h
  ·simp only[Option.bind_eq_some_iff] at h
   obtain⟨x0,h0,x1,h1,h⟩:=h
   cases h
   exact LeL.agg (.cons (Cod.le _ _ h0) (.cons (Cod.le _ _ h1) .nil))
  ·cases h
@[simp] theorem QF (s:Attr): (Attr.mk s.nm s.st)=s:=id rfl
@[simp] theorem QK (s:Attr):enc s= .agg [enc s.nm,enc s.st]:=id rfl
@[simp] theorem RA:Cod.wd Attr=2:=id rfl
@[simp] theorem QP (x0 x1:D):dec (X:=Attr) (.agg [x0,x1])=((dec x0).bind fun x0=> (dec x1).bind fun x1=> some ⟨x0,x1⟩):=id rfl
structure vh where
 b:Int
 e:Int
deriving DecidableEq
instance:Cod vh where
 wd:=2
 enc s:= .agg [enc s.b,enc s.e]
 dec | .agg [x0,x1]=> (dec x0).bind fun x0=> (dec x1).bind fun x1=> some ⟨x0,x1⟩ | _=> none
 kn _:=rfl
 wid _:=rfl
 dec_enc s:=by simp
 le d x h:=by
  split at h
  ·simp only[Option.bind_eq_some_iff] at h
   obtain⟨x0,h0,x1,h1,h⟩:=h
   cases h
   exact LeL.agg (.cons (Cod.le _ _ h0) (.cons (Cod.le _ _ h1) .nil))
  ·cases h
structure rp where
 nm:B
 b:Int
 e:Int
 kv:List Pair
deriving DecidableEq
instance:Cod rp where
 wd:=4
 enc s:= .agg [enc s.nm,enc s.b,enc s.e,enc s.kv]
 dec | .agg [x0,x1,x2,x3]=> (dec x0).bind fun x0=> (dec x1).bind fun x1=> (dec x2).bind fun x2=> (dec x3).bind fun x3=> some ⟨x0,x1,x2,x3⟩ | _=> none
 kn _:=rfl
 wid _:=rfl
 dec_enc s:=by simp
 le d x h:=by
  split at h
  ·simp only[Option.bind_eq_some_iff] at h
   obtain⟨x0,h0,x1,h1,x2,h2,x3,h3,h⟩:=h
   cases h
   exact LeL.agg (.cons (Cod.le _ _ h0) (.cons (Cod.le _ _ h1) (.cons (Cod.le _ _ h2) (.cons (Cod.le _ _ h3) .nil))))
  ·cases h
@[simp] theorem QG (s:rp):enc s= .agg [enc s.nm,enc s.b,enc s.e,enc s.kv]:=id rfl
@[simp] theorem Rv:Cod.wd rp=4:=id rfl
@[simp] theorem QM (x0 x1 x2 x3:D):dec (X:=rp) (.agg [x0,x1,x2,x3])=((dec x0).bind fun x0=> (dec x1).bind fun x1=> (dec x2).bind fun x2=> (dec x3).bind fun x3=> some ⟨x0,x1,x2,x3⟩):=id rfl
structure Region where
 ty:B
 b:Int
 e:Int
 kv:List Pair
deriving DecidableEq
instance:Cod Region where
 wd:=4
 enc s:= .agg [enc s.ty,enc s.b,enc s.e,enc s.kv]
 dec | .agg [x0,x1,x2,x3]=> (dec x0).bind fun x0=> (dec x1).bind fun x1=> (dec x2).bind fun x2=> (dec x3).bind fun x3=> some ⟨x0,x1,x2,x3⟩ | _=> none
 kn _:=rfl
 wid _:=rfl
 dec_enc s:=by simp
 le d x h:=by
  split at h
  ·simp only[Option.bind_eq_some_iff] at h
   obtain⟨x0,h0,x1,h1,x2,h2,x3,h3,h⟩:=h
   cases h
   exact LeL.agg (.cons (Cod.le _ _ h0) (.cons (Cod.le _ _ h1) (.cons (Cod.le _ _ h2) (.cons (Cod.le _ _ h3) .nil))))
  ·cases h
@[simp] theorem NU (s:Region): (Region.mk s.ty s.b s.e s.kv)=s:=id rfl
@[simp] theorem NY (s:Region):enc s= .agg [enc s.ty,enc s.b,enc s.e,enc s.kv]:=id rfl
@[simp] theorem OL:Cod.wd Region=4:=id rfl
@[simp] theorem N7 (x0 x1 x2 x3:D):dec (X:=Region) (.agg [x0,x1,x2,x3])=((dec x0).bind fun x0=> (dec x1).bind fun x1=> (dec x2).bind fun x2=> (dec x3).bind fun x3=> some ⟨x0,x1,x2,x3⟩):=id rfl
structure nU where
 lb:B
 b:Int
 e:Int
 par:Int
deriving DecidableEq
instance:Cod nU where
 wd:=4
 enc s:= .agg [enc s.lb,enc s.b,enc s.e,enc s.par]
 dec | .agg [x0,x1,x2,x3]=> (dec x0).bind fun x0=> (dec x1).bind fun x1=> (dec x2).bind fun x2=> (dec x3).bind fun x3=> some ⟨x0,x1,x2,x3⟩ | _=> none
 kn _:=rfl
 wid _:=rfl
 dec_enc s:=by simp
 le d x h:=by
  split at h
  ·simp only[Option.bind_eq_some_iff] at h
   obtain⟨x0,h0,x1,h1,x2,h2,x3,h3,h⟩:=h
   cases h
   exact LeL.agg (.cons (Cod.le _ _ h0) (.cons (Cod.le _ _ h1) (.cons (Cod.le _ _ h2) (.cons (Cod.le _ _ h3) .nil))))
  ·cases h
@[simp] theorem QI (s:nU):enc s= .agg [enc s.lb,enc s.b,enc s.e,enc s.par]:=id rfl
@[simp] theorem Ry:Cod.wd nU=4:=id rfl
structure Corpus where
 attrs:List Attr
 toks:List (List B)
 texts:List rp
 regs:List Region
 nodes:List nU
 heads:List Int
 rels:List B
deriving DecidableEq
instance:Cod Corpus where
 wd:=7
 enc s:= .agg [enc s.attrs,enc s.toks,enc s.texts,enc s.regs,enc s.nodes,enc s.heads,enc s.rels]
 dec | .agg [x0,x1,x2,x3,x4,x5,x6]=> (dec x0).bind fun x0=> (dec x1).bind fun x1=> (dec x2).bind fun x2=> (dec x3).bind fun x3=> (dec x4).bind fun x4=> (dec x5).bind fun x5=> (dec x6).bind fun x6=> some ⟨x0,x1,x2,x3,x4,x5,x6⟩ | _=> none
 kn _:=rfl
 wid _:=rfl
 dec_enc s:=by simp
 le d x h:=by
  split at h
  ·simp only[Option.bind_eq_some_iff] at h
   obtain⟨x0,h0,x1,h1,x2,h2,x3,h3,x4,h4,x5,h5,x6,h6,h⟩:=h
   cases h
   exact LeL.agg (.cons (Cod.le _ _ h0) (.cons (Cod.le _ _ h1) (.cons (Cod.le _ _ h2) (.cons (Cod.le _ _ h3) (.cons (Cod.le _ _ h4) (.cons (Cod.le _ _ h5) (.cons (Cod.le _ _ h6) .nil)))))))
  ·cases h
@[simp] theorem NV (s:Corpus): (Corpus.mk s.attrs s.toks s.texts s.regs s.nodes s.heads s.rels)=s:=id rfl
@[simp] theorem NZ (s:Corpus):enc s= .agg [enc s.attrs,enc s.toks,enc s.texts,enc s.regs,enc s.nodes,enc s.heads,enc s.rels]:=id rfl
@[simp] theorem N8 (x0 x1 x2 x3 x4 x5 x6:D):dec (X:=Corpus) (.agg [x0,x1,x2,x3,x4,x5,x6])=((dec x0).bind fun x0=> (dec x1).bind fun x1=> (dec x2).bind fun x2=> (dec x3).bind fun x3=> (dec x4).bind fun x4=> (dec x5).bind fun x5=> (dec x6).bind fun x6=> some ⟨x0,x1,x2,x3,x4,x5,x6⟩):=id rfl
structure ny where
 r:I32
 pos:Int
 sz:Int
 ok:Bool
deriving DecidableEq
instance:Cod ny where
 wd:=4
 enc s:= .agg [enc s.r,enc s.pos,enc s.sz,enc s.ok]
 dec | .agg [x0,x1,x2,x3]=> (dec x0).bind fun x0=> (dec x1).bind fun x1=> (dec x2).bind fun x2=> (dec x3).bind fun x3=> some ⟨x0,x1,x2,x3⟩ | _=> none
 kn _:=rfl
 wid _:=rfl
 dec_enc s:=by simp
 le d x h:=by
  split at h
  ·simp only[Option.bind_eq_some_iff] at h
   obtain⟨x0,h0,x1,h1,x2,h2,x3,h3,h⟩:=h
   cases h
   exact LeL.agg (.cons (Cod.le _ _ h0) (.cons (Cod.le _ _ h1) (.cons (Cod.le _ _ h2) (.cons (Cod.le _ _ h3) .nil))))
  ·cases h
@[simp] theorem NX (s:ny):enc s= .agg [enc s.r,enc s.pos,enc s.sz,enc s.ok]:=id rfl
@[simp] theorem OK:Cod.wd ny=4:=id rfl
end Go.Gv

namespace Go.Gv
theorem ed {α:Type} {l:List α} {k:Nat} {a:α} (h:l[k]?=some a):l.take (k+1)=l.take k++ [a]:=by
 rw[List.take_add_one,h];rfl
theorem me {α:Type} {l:List α} {k:Nat} {a:α} (h:l[k]?=some a):a∈l:=List.mem_of_getElem? h
theorem fb {α:Type} {l:List α} {k:Nat} (h:k < l.length): ∃a,l[k]?=some a:=⟨l[k],List.getElem?_eq_getElem h⟩
def Qb (a b:vh):Prop:=a.b < b.b∨a.b=b.b∧a.e < b.e
instance (a b:vh):Decidable (Qb a b):=by unfold Qb;infer_instance
theorem LZ (a:vh): ¬Qb a a:=by unfold Qb;omega
def SS (l:List vh):Prop:=l.Pairwise Qb
theorem SS.nil:SS []:=List.Pairwise.nil
def IsNorm (l r:List vh):Prop:=SS r∧ ∀x,x∈r↔x∈l
theorem IsNorm.nil:IsNorm [] []:=⟨SS.nil,fun _=> Iff.rfl⟩
theorem IsNorm.congr {l l' r:List vh} (h:IsNorm l r) (hl: ∀x,x∈l↔x∈l'):IsNorm l' r:=⟨h.1,fun x=> (h.2 x).trans (hl x)⟩
theorem Jb: ∀ {r l:List vh},SS r→(∀x∈r,x∈l)→r.length≤l.length
 | [],l,_,_=> Nat.zero_le _
 | x::r,l,h,hl=> by
   have h':=List.pairwise_cons.1 h
   have hx:=hl x (by simp)
   have:=Jb (l:=l.erase x) h'.2 fun y hy=> (List.mem_erase_of_ne (fun(e:y=x)=> LZ x (by have:=h'.1 y hy;rwa [e] at this))).2 (hl y (by simp[hy]))
   rw[List.length_erase_of_mem hx] at this
   have:=List.length_pos_of_mem hx
   simp;omega
theorem IsNorm.len {l r:List vh} (h:IsNorm l r):r.length≤l.length:=Jb h.1 fun x hx=> (h.2 x).1 hx
theorem IsNorm.same {l l' r:List vh} (h:IsNorm l r) (hl: ∀x,x∈l'↔x∈l):IsNorm l' r:=⟨h.1,fun x=> (h.2 x).trans (hl x).symm⟩
def jS {X:Type} :List X→(X→Bool)→Int
 | [],_=> -1
 | x::l,p=> if p x then 0 else if jS l p < 0 then -1 else jS l p+1
theorem j7 {X:Type} {p:X→Bool} : ∀ {l:List X},(∀y∈l,p y=false)→jS l p= -1
 | [],_=> rfl
 | x::l,h=> by
   have:=j7 (l:=l) (fun y hy=> h y (by simp[hy]))
   simp[jS,h x (by simp),this]
theorem o8 {X:Type} {p:X→Bool} : ∀ {l:List X} {k:Nat} {x:X},l[k]?=some x→p x=true→(∀y∈l.take k,p y=false)→jS l p=k
 | [],k,x,hx,_,_=> by simp at hx
 | z::l,0,x,hx,hp,_=> by
   simp at hx
   subst hx
   simp[jS,hp]
 | z::l,k+1,x,hx,hp,hb=> by
   have hz:=hb z (by simp)
   have ih:=o8 (l:=l) (k:=k) (by simpa using hx) hp (fun y hy=> hb y (by simp[hy]))
   simp[jS,hz,ih]
   omega
theorem F2 {X:Type} (p:X→Bool) (l:List X): (jS l p= -1∧ ∀y∈l,p y=false)∨ ∃k x,jS l p=(k:Nat)∧l[k]?=some x∧p x=true∧ ∀y∈l.take k,p y=false:=by
 induction l with
 | nil=> exact .inl ⟨rfl,by simp⟩
 | cons z l ih=>
   by_cases hz:p z=true
   ·exact .inr ⟨0,z,by simp[jS,hz],by simp,hz,by simp⟩
   ·have hz:p z=false:=by simpa using hz
    rcases ih with⟨h1,h2⟩ | ⟨k,x,h1,h2,h3,h4⟩
    ·refine .inl ⟨by simp[jS,hz,h1],fun y hy=> ?_⟩
     rcases List.mem_cons.1 hy with rfl | hy
     ·exact hz
     ·exact h2 y hy
    ·refine .inr ⟨k+1,x,?_,by simpa using h2,h3,fun y hy=> ?_⟩
     ·simp[jS,hz,h1];omega
     ·rw[List.take_succ_cons] at hy
      rcases List.mem_cons.1 hy with rfl | hy
      ·exact hz
      ·exact h4 y hy
theorem uR {X:Type} (p:X→Bool) (l:List X):decide (0≤jS l p)=l.any p:=by
 rcases F2 p l with⟨h1,h2⟩ | ⟨k,x,h1,h2,h3,h4⟩
 ·have:l.any p=false:=by simpa using h2
  rw[h1,this];rfl
 ·have:l.any p=true:=List.any_eq_true.2 ⟨x,me h2,h3⟩
  rw[h1,this];simp
theorem SS.filter {l:List vh} (h:SS l) (p:vh→Bool):SS (l.filter p):=List.Pairwise.filter p h
theorem IsNorm.filter {l r:List vh} (h:IsNorm l r) (p:vh→Bool):IsNorm (l.filter p) (r.filter p):=⟨h.1.filter p,fun x=> by simp[h.2 x]⟩
theorem Iq (s:ByteArray) (p:Nat) (h:p < s.size):1≤(Utf8.decode s p).2∧p+ (Utf8.decode s p).2≤s.size:=by
 unfold Utf8.decode
 simp only[Bool.and_eq_true,decide_eq_true_eq]
 repeat' split
 all_goals (try simp only[])
 all_goals omega
end Go.Gv

namespace Go.Gv
open Go.Proofs
abbrev oA (d s:Nat):CI:= .op (some d) none (.mv (.tmp s))
abbrev oB (d:Nat) (c:COp):CI:= .op (some d) none c
abbrev oC (d w s:Nat):CI:= .op (some d) none (.load false w (.tmp s))
abbrev oD (d w s:Nat):CI:= .op (some d) none (.load true w (.tmp s))
abbrev oE (d n s:Nat):CI:= .op (some d) none (.faddr n (.tmp s))
abbrev oF (w a b:Nat):CI:= .op none none (.store none w (.tmp a) (.tmp b))
abbrev oG (d s:Nat):CI:= .op (some d) none (.nilck (.tmp s))
abbrev oH (d g:Nat) (c:COp):CI:= .op (some d) (some (g,true)) c
abbrev oI (d g:Nat) (c:COp):CI:= .op (some d) (some (g,false)) c
abbrev oT (n:Nat):Operand:= .tmp n
abbrev oK (v:Value):Operand:= .const v
abbrev oN (n:Int):Operand:= .const (.int .i64 n)
abbrev oS (b:ByteArray):Operand:= .const (.string b)
abbrev oi:Value:= .int .i64 0
abbrev oe:Value:= .string ⟨#[]⟩
abbrev ob:Value:= .bool false
abbrev on:Value:= .slice none 0 0
abbrev oZ (d f:Nat) (l:List Operand):CI:= .op (some d) none (.call f l)
abbrev oX (l:List CI) (a b:List Nat) (x:CC):CC:= .seq (.reg l) (.keep a b x)
def ix:Nat:=6
def uY:Nat:=10
def eX:Nat:=12
def gS:Nat:=13
def gE:Nat:=14
def bE:Nat:=15
def iw:Nat:=17
def fQ:Nat:=18
def dw:Nat:=20
def dL:Nat:=23
def iu:Nat:=24
def en:Nat:=25
def da:Nat:=26
def j9:Nat:=28
def am:Nat:=35
def aM:Nat:=37
def cg:Nat:=38
def bk:Nat:=39
def ez:Nat:=40
def eY:Nat:=43
def dv:Nat:=44
def jA:Nat:=45
def cp:Nat:=46
def aV:Nat:=47
def bj:Nat:=48
def jC:Nat:=50
def cI:Nat:=51
def cP:Nat:=52
def cJ:Nat:=53
def dK:Nat:=54
def ca:Nat:=55
def bL:Nat:=56
def ew:Nat:=57
def bQ:Nat:=58
def cD:Nat:=61
def q7:Nat:=63
def et:Nat:=64
def eu:Nat:=65
def iA:Nat:=66
def ap:Nat:=67
def fy:Nat:=68
def aL:Nat:=69
def qZ:Nat:=72
def uX:Nat:=73
def jB:Nat:=74
def ep:Nat:=75
def gC:Nat:=76
def gD:Nat:=77
def iZ:Nat:=78
def dm:Nat:=79
def gB:Nat:=80
def eV:Nat:=81
def cM:Nat:=82
def av:Nat:=83
def iz:Nat:=84
def cy:Nat:=85
def cx:Nat:=86
def iy:Nat:=87
def br:Nat:=88
def dS:Nat:=89
def aB:Nat:=90
def aU:Nat:=91
def cT:Nat:=96
def ah:Nat:=97
def dJ:Nat:=98
def bX:Nat:=99
def cw:Nat:=100
def cO:Nat:=101
def kQ:Nat:=102
def dD:Nat:=103
def eU:Nat:=104
def dM:Nat:=105
def aK:Nat:=106
def cZ:Nat:=109
def bI:Nat:=110
def aS:Nat:=111
def az:Nat:=116
def bv:Nat:=117
def bD:Nat:=118
def gA:Nat:=119
def fR:Nat:=120
def dR:Nat:=121
def bJ:Nat:=122
def aR:Nat:=123
def cN:Nat:=124
def bu:Nat:=125
def cS:Nat:=129
def aF:Nat:=130
def em:Nat:=131
def aw:Nat:=133
def dx:Nat:=134
def cQ:Nat:=135
def fP:Nat:=136
def kP:Nat:=138
def ff:Nat:=142
def mi:Nat:=143
def kO:Nat:=144
def iO:Nat:=145
def eG:Nat:=146
def eW:Nat:=147
def jy:Nat:=148
def kJ:Nat:=149
def iv:Nat:=150
def kM:Nat:=151
def kK:Nat:=152
def cn:Nat:=153
def dA:Nat:=154
def dC:Nat:=156
def pY:Nat:=157
def eT:Nat:=159
def aG:Nat:=160
def cU:Nat:=161
def kL:Nat:=172
def fe:Nat:=173
def eo:Nat:=174
def mh:Nat:=175
def gR:Nat:=176
def jz:Nat:=177
def tr:Nat:=180
def iY:Nat:=181
def dk:Nat:=182
def bi:Nat:=183
def ba:Nat:=184
def bt:Nat:=186
def be:Nat:=187
def kN:Nat:=192
def cA:Nat:=200
def gz:Nat:=201
def zl:Nat:=202
def dB:Nat:=204
def bS:Nat:=210
def bM:Nat:=211
def dT:Nat:=212
def aQ:Nat:=218
def fO:Nat:=219
def dN:Nat:=220
def aZ:Nat:=224
def j8:Nat:=225
def ir:Nat:=226
def ja:Nat:=227
def iN:Nat:=228
def fA:Nat:=229
def ib:Nat:=230
def jT:Nat:=231
def uW:Nat:=232
def eq:Nat:=233
def bT:Nat:=3
def kw:Nat:=5
def ar:Nat:=9
def lS:Nat:=21
def IW:Nat:=22
def bA:Nat:=25
def df:Nat:=29
def xN:Nat:=33
def aW:Nat:=45
def cL:Nat:=52
def aA:Nat:=55
def rJ:Nat:=68
def dE:Nat:=71
def wO:Nat:=86
def tX:Nat:=94
def eK:Nat:=105
def tY:Nat:=107
def bF:Nat:=109
def eL:Nat:=117
def du:Nat:=139
def wP:Nat:=144
def bc:Nat:=163
def dz:Nat:=166
def bh:Nat:=176
theorem mixed:Tryz.prog.follows .mixedOrders=true:=by kernel_rfl
end Go.Gv
