/- A part of the framework and of the walks: V1 L1 Cd. -/
import Derived.Test.YticbieanhfdnoaaGreatDoorProg
import Derived.Test.YticbieanhfdnoaaGreatDoorGc20
set_option linter.unusedSimpArgs false
set_option linter.unusedVariables false

namespace Go.Gv
open Cod (enc dec)
abbrev B:=ByteArray
structure I32 where
 val:Int
deriving DecidableEq
instance:Cod I32 where
 wd:=1
 enc n:= .v (.int .i32 n.val)
 dec | .v (.int .i32 n)=> some ⟨n⟩ | _=> none
 kn _:=rfl
 wid _:=rfl
 dec_enc _:=rfl
 le d x h:=by
  split at h
  ·cases h;exact .same _
  ·cases h
@[simp] theorem Yc (n:I32):enc n= .v (.int .i32 n.val):=id rfl
@[simp] theorem Zf:Cod.wd I32=1:=id rfl
@[simp] theorem Yj (n:Int):dec (X:=I32) (.v (.int .i32 n))=some ⟨n⟩:=id rfl
@[simp] theorem X5 (n:I32):I32.mk n.val=n:=id rfl
structure U8 where
 val:Int
deriving DecidableEq
instance:Cod U8 where
 wd:=1
 enc n:= .v (.int .u8 n.val)
 dec | .v (.int .u8 n)=> some ⟨n⟩ | _=> none
 kn _:=rfl
 wid _:=rfl
 dec_enc _:=rfl
 le d x h:=by
  split at h
  ·cases h;exact .same _
  ·cases h
@[simp] theorem qdi (n:U8):enc n= .v (.int .u8 n.val):=id rfl
@[simp] theorem qdr (n:Int):dec (X:=U8) (.v (.int .u8 n))=some ⟨n⟩:=id rfl
@[simp] theorem qdc (n:U8):U8.mk n.val=n:=id rfl
structure Pair where
 nm:B
 vl:B
deriving DecidableEq
instance:Cod Pair where
 wd:=2
 enc s:= .agg [enc s.nm,enc s.vl]
 dec | .agg [x0,x1]=> (dec x0).bind fun x0=> (dec x1).bind fun x1=> some ⟨x0,x1⟩ | _=> none
 kn _:=rfl
 wid _:=rfl
 dec_enc s:=by simp
 le d x h:=by
  split at h
  ·simp only[Option.bind_eq_some_iff] at h
   obtain⟨x0,h0,x1,h1,h⟩:=h
   cases h
   exact LeL.agg (.cons (Cod.le _ _ h0) (.cons (Cod.le _ _ h1) .nil))
  ·cases h
@[simp] theorem Vx (s:Pair): (Pair.mk s.nm s.vl)=s:=id rfl
@[simp] theorem VA (s:Pair):enc s= .agg [enc s.nm,enc s.vl]:=id rfl
@[simp] theorem WA:Cod.wd Pair=2:=id rfl
@[simp] theorem VF (x0 x1:D):dec (X:=Pair) (.agg [x0,x1])=((dec x0).bind fun x0=> (dec x1).bind fun x1=> some ⟨x0,x1⟩):=id rfl
structure Attr where
 nm:B
 st:Bool
deriving DecidableEq
instance:Cod Attr where
 wd:=2
 enc s:= .agg [enc s.nm,enc s.st]
 dec | .agg [x0,x1]=> (dec x0).bind fun x0=> (dec x1).bind fun x1=> some ⟨x0,x1⟩ | _=> none
 kn _:=rfl
 wid _:=rfl
 dec_enc s:=by simp
 le d x h:=by
  split at h
  ·simp only[Option.bind_eq_some_iff] at h
   obtain⟨x0,h0,x1,h1,h⟩:=h
   cases h
   exact LeL.agg (.cons (Cod.le _ _ h0) (.cons (Cod.le _ _ h1) .nil))
  ·cases h
@[simp] theorem Vy (s:Attr): (Attr.mk s.nm s.st)=s:=id rfl
@[simp] theorem VC (s:Attr):enc s= .agg [enc s.nm,enc s.st]:=id rfl
@[simp] theorem WD:Cod.wd Attr=2:=id rfl
@[simp] theorem VH (x0 x1:D):dec (X:=Attr) (.agg [x0,x1])=((dec x0).bind fun x0=> (dec x1).bind fun x1=> some ⟨x0,x1⟩):=id rfl
structure wQ where
 b:Int
 e:Int
deriving DecidableEq
instance:Cod wQ where
 wd:=2
 enc s:= .agg [enc s.b,enc s.e]
 dec | .agg [x0,x1]=> (dec x0).bind fun x0=> (dec x1).bind fun x1=> some ⟨x0,x1⟩ | _=> none
 kn _:=rfl
 wid _:=rfl
 dec_enc s:=by simp
 le d x h:=by
  split at h
  ·simp only[Option.bind_eq_some_iff] at h
   obtain⟨x0,h0,x1,h1,h⟩:=h
   cases h
   exact LeL.agg (.cons (Cod.le _ _ h0) (.cons (Cod.le _ _ h1) .nil))
  ·cases h
structure sV where
 nm:B
 b:Int
 e:Int
 kv:List Pair
deriving DecidableEq
instance:Cod sV where
 wd:=4
 enc s:= .agg [enc s.nm,enc s.b,enc s.e,enc s.kv]
 dec | .agg [x0,x1,x2,x3]=> (dec x0).bind fun x0=> (dec x1).bind fun x1=> (dec x2).bind fun x2=> (dec x3).bind fun x3=> some ⟨x0,x1,x2,x3⟩ | _=> none
 kn _:=rfl
 wid _:=rfl
 dec_enc s:=by simp
 le d x h:=by
  split at h
  ·simp only[Option.bind_eq_some_iff] at h
   obtain⟨x0,h0,x1,h1,x2,h2,x3,h3,h⟩:=h
   cases h
   exact LeL.agg (.cons (Cod.le _ _ h0) (.cons (Cod.le _ _ h1) (.cons (Cod.le _ _ h2) (.cons (Cod.le _ _ h3) .nil))))
  ·cases h
@[simp] theorem Vz (s:sV):enc s= .agg [enc s.nm,enc s.b,enc s.e,enc s.kv]:=id rfl
@[simp] theorem Wz:Cod.wd sV=4:=id rfl
@[simp] theorem VE (x0 x1 x2 x3:D):dec (X:=sV) (.agg [x0,x1,x2,x3])=((dec x0).bind fun x0=> (dec x1).bind fun x1=> (dec x2).bind fun x2=> (dec x3).bind fun x3=> some ⟨x0,x1,x2,x3⟩):=id rfl
structure Region where
 ty:B
 b:Int
 e:Int
 kv:List Pair
deriving DecidableEq
instance:Cod Region where
 wd:=4
 enc s:= .agg [enc s.ty,enc s.b,enc s.e,enc s.kv]
 dec | .agg [x0,x1,x2,x3]=> (dec x0).bind fun x0=> (dec x1).bind fun x1=> (dec x2).bind fun x2=> (dec x3).bind fun x3=> some ⟨x0,x1,x2,x3⟩ | _=> none
 kn _:=rfl
 wid _:=rfl
 dec_enc s:=by simp
 le d x h:=by
  split at h
  ·simp only[Option.bind_eq_some_iff] at h
   obtain⟨x0,h0,x1,h1,x2,h2,x3,h3,h⟩:=h
   cases h
   exact LeL.agg (.cons (Cod.le _ _ h0) (.cons (Cod.le _ _ h1) (.cons (Cod.le _ _ h2) (.cons (Cod.le _ _ h3) .nil))))
  ·cases h
@[simp] theorem Sl (s:Region): (Region.mk s.ty s.b s.e s.kv)=s:=id rfl
@[simp] theorem Sp (s:Region):enc s= .agg [enc s.ty,enc s.b,enc s.e,enc s.kv]:=id rfl
@[simp] theorem Tn:Cod.wd Region=4:=id rfl
@[simp] theorem Sz (x0 x1 x2 x3:D):dec (X:=Region) (.agg [x0,x1,x2,x3])=((dec x0).bind fun x0=> (dec x1).bind fun x1=> (dec x2).bind fun x2=> (dec x3).bind fun x3=> some ⟨x0,x1,x2,x3⟩):=id rfl
structure pG where
 lb:B
 b:Int
 e:Int
 par:Int
deriving DecidableEq
instance:Cod pG where
 wd:=4
 enc s:= .agg [enc s.lb,enc s.b,enc s.e,enc s.par]
 dec | .agg [x0,x1,x2,x3]=> (dec x0).bind fun x0=> (dec x1).bind fun x1=> (dec x2).bind fun x2=> (dec x3).bind fun x3=> some ⟨x0,x1,x2,x3⟩ | _=> none
 kn _:=rfl
 wid _:=rfl
 dec_enc s:=by simp
 le d x h:=by
  split at h
  ·simp only[Option.bind_eq_some_iff] at h
   obtain⟨x0,h0,x1,h1,x2,h2,x3,h3,h⟩:=h
   cases h
   exact LeL.agg (.cons (Cod.le _ _ h0) (.cons (Cod.le _ _ h1) (.cons (Cod.le _ _ h2) (.cons (Cod.le _ _ h3) .nil))))
  ·cases h
@[simp] theorem VB (s:pG):enc s= .agg [enc s.lb,enc s.b,enc s.e,enc s.par]:=id rfl
@[simp] theorem WB:Cod.wd pG=4:=id rfl
structure Corpus where
 attrs:List Attr
 toks:List (List B)
 texts:List sV
 regs:List Region
 nodes:List pG
 heads:List Int
 rels:List B
deriving DecidableEq
instance:Cod Corpus where
 wd:=7
 enc s:= .agg [enc s.attrs,enc s.toks,enc s.texts,enc s.regs,enc s.nodes,enc s.heads,enc s.rels]
 dec | .agg [x0,x1,x2,x3,x4,x5,x6]=> (dec x0).bind fun x0=> (dec x1).bind fun x1=> (dec x2).bind fun x2=> (dec x3).bind fun x3=> (dec x4).bind fun x4=> (dec x5).bind fun x5=> (dec x6).bind fun x6=> some ⟨x0,x1,x2,x3,x4,x5,x6⟩ | _=> none
 kn _:=rfl
 wid _:=rfl
 dec_enc s:=by simp
 le d x h:=by
  split at h
  ·simp only[Option.bind_eq_some_iff] at h
   obtain⟨x0,h0,x1,h1,x2,h2,x3,h3,x4,h4,x5,h5,x6,h6,h⟩:=h
   cases h
   exact LeL.agg (.cons (Cod.le _ _ h0) (.cons (Cod.le _ _ h1) (.cons (Cod.le _ _ h2) (.cons (Cod.le _ _ h3) (.cons (Cod.le _ _ h4) (.cons (Cod.le _ _ h5) (.cons (Cod.le _ _ h6) .nil)))))))
  ·cases h
@[simp] theorem Sm (s:Corpus): (Corpus.mk s.attrs s.toks s.texts s.regs s.nodes s.heads s.rels)=s:=id rfl
@[simp] theorem Sq (s:Corpus):enc s= .agg [enc s.attrs,enc s.toks,enc s.texts,enc s.regs,enc s.nodes,enc s.heads,enc s.rels]:=id rfl
@[simp] theorem SA (x0 x1 x2 x3 x4 x5 x6:D):dec (X:=Corpus) (.agg [x0,x1,x2,x3,x4,x5,x6])=((dec x0).bind fun x0=> (dec x1).bind fun x1=> (dec x2).bind fun x2=> (dec x3).bind fun x3=> (dec x4).bind fun x4=> (dec x5).bind fun x5=> (dec x6).bind fun x6=> some ⟨x0,x1,x2,x3,x4,x5,x6⟩):=id rfl
structure o9 where
 r:I32
 pos:Int
 sz:Int
 ok:Bool
deriving DecidableEq
instance:Cod o9 where
 wd:=4
 enc s:= .agg [enc s.r,enc s.pos,enc s.sz,enc s.ok]
 dec | .agg [x0,x1,x2,x3]=> (dec x0).bind fun x0=> (dec x1).bind fun x1=> (dec x2).bind fun x2=> (dec x3).bind fun x3=> some ⟨x0,x1,x2,x3⟩ | _=> none
 kn _:=rfl
 wid _:=rfl
 dec_enc s:=by simp
 le d x h:=by
  split at h
  ·simp only[Option.bind_eq_some_iff] at h
   obtain⟨x0,h0,x1,h1,x2,h2,x3,h3,h⟩:=h
   cases h
   exact LeL.agg (.cons (Cod.le _ _ h0) (.cons (Cod.le _ _ h1) (.cons (Cod.le _ _ h2) (.cons (Cod.le _ _ h3) .nil))))
  ·cases h
@[simp] theorem So (s:o9):enc s= .agg [enc s.r,enc s.pos,enc s.sz,enc s.ok]:=id rfl
@[simp] theorem Tm:Cod.wd o9=4:=id rfl
end Go.Gv

namespace Go.Gv
theorem dM {α:Type} {l:List α} {k:Nat} {a:α} (h:l[k]?=some a):l.take (k+1)=l.take k++ [a]:=by
 rw[List.take_add_one,h];rfl
theorem gu {α:Type} {l:List α} {k:Nat} {a:α} (h:l[k]?=some a):a∈l:=List.mem_of_getElem? h
theorem fE {α:Type} {l:List α} {k:Nat} (h:k < l.length): ∃a,l[k]?=some a:=⟨l[k],List.getElem?_eq_getElem h⟩
def U3 (a b:wQ):Prop:=a.b < b.b∨a.b=b.b∧a.e < b.e
instance (a b:wQ):Decidable (U3 a b):=by unfold U3;infer_instance
theorem PV (a:wQ): ¬U3 a a:=by unfold U3;omega
def SS (l:List wQ):Prop:=l.Pairwise U3
theorem SS.nil:SS []:=List.Pairwise.nil
def IsNorm (l r:List wQ):Prop:=SS r∧ ∀x,x∈r↔x∈l
theorem IsNorm.nil:IsNorm [] []:=⟨SS.nil,fun _=> Iff.rfl⟩
theorem IsNorm.congr {l l' r:List wQ} (h:IsNorm l r) (hl: ∀x,x∈l↔x∈l'):IsNorm l' r:=⟨h.1,fun x=> (h.2 x).trans (hl x)⟩
theorem My: ∀ {r l:List wQ},SS r→(∀x∈r,x∈l)→r.length≤l.length
 | [],l,_,_=> Nat.zero_le _
 | x::r,l,h,hl=> by
   have h':=List.pairwise_cons.1 h
   have hx:=hl x (by simp)
   have:=My (l:=l.erase x) h'.2 fun y hy=> (List.mem_erase_of_ne (fun(e:y=x)=> PV x (by have:=h'.1 y hy;rwa [e] at this))).2 (hl y (by simp[hy]))
   rw[List.length_erase_of_mem hx] at this
   have:=List.length_pos_of_mem hx
   simp;omega
theorem IsNorm.len {l r:List wQ} (h:IsNorm l r):r.length≤l.length:=My h.1 fun x hx=> (h.2 x).1 hx
theorem IsNorm.same {l l' r:List wQ} (h:IsNorm l r) (hl: ∀x,x∈l'↔x∈l):IsNorm l' r:=⟨h.1,fun x=> (h.2 x).trans (hl x).symm⟩
def lc {X:Type} :List X→(X→Bool)→Int
 | [],_=> -1
 | x::l,p=> if p x then 0 else if lc l p < 0 then -1 else lc l p+1
theorem k9 {X:Type} {p:X→Bool} : ∀ {l:List X},(∀y∈l,p y=false)→lc l p= -1
 | [],_=> rfl
 | x::l,h=> by
   have:=k9 (l:=l) (fun y hy=> h y (by simp[hy]))
   simp[lc,h x (by simp),this]
theorem qx {X:Type} {p:X→Bool} : ∀ {l:List X} {k:Nat} {x:X},l[k]?=some x→p x=true→(∀y∈l.take k,p y=false)→lc l p=k
 | [],k,x,hx,_,_=> by simp at hx
 | z::l,0,x,hx,hp,_=> by
   simp at hx
   subst hx
   simp[lc,hp]
 | z::l,k+1,x,hx,hp,hb=> by
   have hz:=hb z (by simp)
   have ih:=qx (l:=l) (k:=k) (by simpa using hx) hp (fun y hy=> hb y (by simp[hy]))
   simp[lc,hz,ih]
   omega
theorem Bh {X:Type} (p:X→Bool) (l:List X): (lc l p= -1∧ ∀y∈l,p y=false)∨ ∃k x,lc l p=(k:Nat)∧l[k]?=some x∧p x=true∧ ∀y∈l.take k,p y=false:=by
 induction l with
 | nil=> exact .inl ⟨rfl,by simp⟩
 | cons z l ih=>
   by_cases hz:p z=true
   ·exact .inr ⟨0,z,by simp[lc,hz],by simp,hz,by simp⟩
   ·have hz:p z=false:=by simpa using hz
    rcases ih with⟨h1,h2⟩ | ⟨k,x,h1,h2,h3,h4⟩
    ·refine .inl ⟨by simp[lc,hz,h1],fun y hy=> ?_⟩
     rcases List.mem_cons.1 hy with rfl | hy
     ·exact hz
     ·exact h2 y hy
    ·refine .inr ⟨k+1,x,?_,by simpa using h2,h3,fun y hy=> ?_⟩
     ·simp[lc,hz,h1];omega
     ·rw[List.take_succ_cons] at hy
      rcases List.mem_cons.1 hy with rfl | hy
      ·exact hz
      ·exact h4 y hy
theorem wx {X:Type} (p:X→Bool) (l:List X):decide (0≤lc l p)=l.any p:=by
 rcases Bh p l with⟨h1,h2⟩ | ⟨k,x,h1,h2,h3,h4⟩
 ·have:l.any p=false:=by simpa using h2
  rw[h1,this];rfl
 ·have:l.any p=true:=List.any_eq_true.2 ⟨x,gu h2,h3⟩
  rw[h1,this];simp
theorem SS.filter {l:List wQ} (h:SS l) (p:wQ→Bool):SS (l.filter p):=List.Pairwise.filter p h
theorem IsNorm.filter {l r:List wQ} (h:IsNorm l r) (p:wQ→Bool):IsNorm (l.filter p) (r.filter p):=⟨h.1.filter p,fun x=> by simp[h.2 x]⟩
theorem LK (s:ByteArray) (p:Nat) (h:p < s.size):1≤(Utf8.decode s p).2∧p+ (Utf8.decode s p).2≤s.size:=by
 unfold Utf8.decode
 simp only[Bool.and_eq_true,decide_eq_true_eq]
 repeat' split
 all_goals (try simp only[])
 all_goals omega
end Go.Gv

namespace Go.Gv
open Go.Proofs
abbrev oA (d s:Nat):CI:= .op (some d) none (.mv (.tmp s))
abbrev oB (d:Nat) (c:COp):CI:= .op (some d) none c
abbrev oC (d w s:Nat):CI:= .op (some d) none (.load false w (.tmp s))
abbrev oD (d w s:Nat):CI:= .op (some d) none (.load true w (.tmp s))
abbrev oE (d n s:Nat):CI:= .op (some d) none (.faddr n (.tmp s))
abbrev oF (w a b:Nat):CI:= .op none none (.store none w (.tmp a) (.tmp b))
abbrev oG (d s:Nat):CI:= .op (some d) none (.nilck (.tmp s))
abbrev oH (d g:Nat) (c:COp):CI:= .op (some d) (some (g,true)) c
abbrev oI (d g:Nat) (c:COp):CI:= .op (some d) (some (g,false)) c
abbrev oT (n:Nat):Operand:= .tmp n
abbrev oK (v:Value):Operand:= .const v
abbrev oN (n:Int):Operand:= .const (.int .i64 n)
abbrev oS (b:ByteArray):Operand:= .const (.string b)
abbrev oi:Value:= .int .i64 0
abbrev oe:Value:= .string ⟨#[]⟩
abbrev ob:Value:= .bool false
abbrev on:Value:= .slice none 0 0
abbrev oZ (d f:Nat) (l:List Operand):CI:= .op (some d) none (.call f l)
abbrev oX (l:List CI) (a b:List Nat) (x:CC):CC:= .seq (.reg l) (.keep a b x)
def kz:Nat:=9
def tg:Nat:=10
def jc:Nat:=11
def ft:Nat:=12
def jn:Nat:=13
def ic:Nat:=14
def bM:Nat:=15
def jd:Nat:=17
def gj:Nat:=18
def je:Nat:=19
def eP:Nat:=20
def d6:Nat:=23
def i9:Nat:=24
def eH:Nat:=25
def bO:Nat:=26
def lg:Nat:=28
def eO:Nat:=30
def dr:Nat:=33
def ag:Nat:=35
def ck:Nat:=36
def aS:Nat:=37
def aC:Nat:=38
def bw:Nat:=39
def eN:Nat:=40
def fu:Nat:=43
def dN:Nat:=44
def kq:Nat:=45
def cz:Nat:=46
def bc:Nat:=47
def bv:Nat:=48
def kA:Nat:=50
def cO:Nat:=51
def cY:Nat:=52
def cP:Nat:=53
def d5:Nat:=54
def cp:Nat:=55
def bW:Nat:=56
def bu:Nat:=57
def bj:Nat:=58
def bz:Nat:=60
def aL:Nat:=61
def kw:Nat:=63
def eL:Nat:=64
def eM:Nat:=65
def jh:Nat:=66
def ar:Nat:=67
def fW:Nat:=68
def aR:Nat:=69
def sG:Nat:=72
def wD:Nat:=73
def ku:Nat:=74
def eJ:Nat:=75
def ia:Nat:=76
def ib:Nat:=77
def jM:Nat:=78
def dG:Nat:=79
def hZ:Nat:=80
def fp:Nat:=81
def cV:Nat:=82
def av:Nat:=83
def jg:Nat:=84
def cG:Nat:=85
def cF:Nat:=86
def jf:Nat:=87
def ba:Nat:=88
def eh:Nat:=89
def aF:Nat:=90
def bb:Nat:=91
def dh:Nat:=96
def ak:Nat:=97
def dZ:Nat:=98
def cj:Nat:=99
def cE:Nat:=100
def cX:Nat:=101
def lR:Nat:=102
def dU:Nat:=103
def fm:Nat:=104
def d7:Nat:=105
def aQ:Nat:=106
def dq:Nat:=109
def bS:Nat:=110
def aZ:Nat:=111
def az:Nat:=116
def bH:Nat:=117
def bL:Nat:=118
def hU:Nat:=119
def gk:Nat:=120
def ef:Nat:=121
def bT:Nat:=122
def aW:Nat:=123
def cW:Nat:=124
def bG:Nat:=125
def dg:Nat:=129
def aI:Nat:=130
def eG:Nat:=131
def ax:Nat:=133
def dO:Nat:=134
def da:Nat:=135
def gi:Nat:=136
def lQ:Nat:=138
def fJ:Nat:=142
def np:Nat:=143
def lP:Nat:=144
def jy:Nat:=145
def eY:Nat:=146
def fq:Nat:=147
def ko:Nat:=148
def lK:Nat:=149
def ja:Nat:=150
def lN:Nat:=151
def lL:Nat:=152
def cy:Nat:=153
def dR:Nat:=154
def dT:Nat:=156
def rz:Nat:=157
def fl:Nat:=159
def aJ:Nat:=160
def di:Nat:=161
def lM:Nat:=172
def fI:Nat:=173
def eI:Nat:=174
def nn:Nat:=175
def iB:Nat:=176
def kp:Nat:=177
def u0:Nat:=180
def jL:Nat:=181
def dF:Nat:=182
def bt:Nat:=183
def bi:Nat:=184
def bF:Nat:=186
def bp:Nat:=187
def lO:Nat:=192
def cI:Nat:=200
def hL:Nat:=201
def Bq:Nat:=202
def dS:Nat:=204
def cb:Nat:=210
def bX:Nat:=211
def ei:Nat:=212
def aV:Nat:=218
def gh:Nat:=219
def d8:Nat:=220
def bh:Nat:=224
def ld:Nat:=225
def i7:Nat:=226
def jR:Nat:=227
def jx:Nat:=228
def fX:Nat:=229
def iQ:Nat:=230
def kS:Nat:=231
def wC:Nat:=232
def eK:Nat:=233
def cq:Nat:=3
def lw:Nat:=5
def ai:Nat:=9
def mT:Nat:=21
def Mk:Nat:=22
def aU:Nat:=25
def cZ:Nat:=29
def zJ:Nat:=33
def aY:Nat:=45
def cT:Nat:=52
def aA:Nat:=55
def tq:Nat:=68
def dV:Nat:=71
def yD:Nat:=86
def vA:Nat:=94
def fa:Nat:=105
def vB:Nat:=107
def bN:Nat:=109
def fb:Nat:=117
def dL:Nat:=139
def yE:Nat:=144
def bk:Nat:=163
def dQ:Nat:=166
def br:Nat:=176
theorem mixed:Tryz.prog.follows .mixedOrders=true:=by kernel_rfl
end Go.Gv
