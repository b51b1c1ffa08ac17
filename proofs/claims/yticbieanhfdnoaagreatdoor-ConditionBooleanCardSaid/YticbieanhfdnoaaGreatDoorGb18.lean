/- A part of the framework and of the walks: V1 L1 Cd. -/
import Derived.Test.YticbieanhfdnoaaGreatDoorProg
import Derived.Test.YticbieanhfdnoaaGreatDoorGb17
set_option linter.unusedSimpArgs false
set_option linter.unusedVariables false

namespace Go.Gv
open Cod (enc dec)
abbrev B:=ByteArray
structure I32 where
 val:Int
deriving DecidableEq
instance:Cod I32 where
 wd:=1
 enc n:= .v (.int .i32 n.val)
 dec | .v (.int .i32 n)=> some ⟨n⟩ | _=> none
 kn _:=rfl
 wid _:=rfl
 dec_enc _:=rfl
 le d x h:=by
  split at h
  ·cases h;exact .same _
  ·cases h
@[simp] theorem UI (n:I32):enc n= .v (.int .i32 n.val):=id rfl
@[simp] theorem VI:Cod.wd I32=1:=id rfl
@[simp] theorem UP (n:Int):dec (X:=I32) (.v (.int .i32 n))=some ⟨n⟩:=id rfl
@[simp] theorem UB (n:I32):I32.mk n.val=n:=id rfl
structure U8 where
 val:Int
deriving DecidableEq
instance:Cod U8 where
 wd:=1
 enc n:= .v (.int .u8 n.val)
 dec | .v (.int .u8 n)=> some ⟨n⟩ | _=> none
 kn _:=rfl
 wid _:=rfl
 dec_enc _:=rfl
 le d x h:=by
  split at h
  ·cases h;exact .same _
  ·cases h
@[simp] theorem Z0 (n:U8):enc n= .v (.int .u8 n.val):=id rfl
@[simp] theorem Z9 (n:Int):dec (X:=U8) (.v (.int .u8 n))=some ⟨n⟩:=id rfl
@[simp] theorem ZV (n:U8):U8.mk n.val=n:=id rfl
structure Pair where
 nm:B
 vl:B
deriving DecidableEq
instance:Cod Pair where
 wd:=2
 enc s:= .agg [enc s.nm,enc s.vl]
 dec | .agg [x0,x1]=> (dec x0).bind fun x0=> (dec x1).bind fun x1=> some ⟨x0,x1⟩ | _=> none
 kn _:=rfl
 wid _:=rfl
 dec_enc s:=by simp
 le d x h:=by
  split at h
  ·simp only[Option.bind_eq_some_iff] at h
   obtain⟨x0,h0,x1,h1,h⟩:=h
   cases h
   exact LeL.agg (.cons (Cod.le _ _ h0) (.cons (Cod.le _ _ h1) .nil))
  ·cases h
@[simp] theorem R6 (s:Pair): (Pair.mk s.nm s.vl)=s:=id rfl
@[simp] theorem R9 (s:Pair):enc s= .agg [enc s.nm,enc s.vl]:=id rfl
@[simp] theorem SZ:Cod.wd Pair=2:=id rfl
@[simp] theorem Se (x0 x1:D):dec (X:=Pair) (.agg [x0,x1])=((dec x0).bind fun x0=> (dec x1).bind fun x1=> some ⟨x0,x1⟩):=id rfl
structure Attr where
 nm:B
 st:Bool
deriving DecidableEq
instance:Cod Attr where
 wd:=2
 enc s:= .agg [enc s.nm,enc s.st]
 dec | .agg [x0,x1]=> (dec x0).bind fun x0=> (dec x1).bind fun x1=> some ⟨x0,x1⟩ | _=> none
 kn _:=rfl
 wid _:=rfl
 dec_enc s:=by simp
 le d x h:=by
  split at h
  ·simp only[Option.bind_eq_some_iff] at h
   obtain⟨x0,h0,x1,h1,h⟩:=h
   cases h
   exact LeL.agg (.cons (Cod.le _ _ h0) (.cons (Cod.le _ _ h1) .nil))
  ·cases h
@[simp] theorem R7 (s:Attr): (Attr.mk s.nm s.st)=s:=id rfl
@[simp] theorem Sb (s:Attr):enc s= .agg [enc s.nm,enc s.st]:=id rfl
@[simp] theorem Ta:Cod.wd Attr=2:=id rfl
@[simp] theorem Sh (x0 x1:D):dec (X:=Attr) (.agg [x0,x1])=((dec x0).bind fun x0=> (dec x1).bind fun x1=> some ⟨x0,x1⟩):=id rfl
structure vG where
 b:Int
 e:Int
deriving DecidableEq
instance:Cod vG where
 wd:=2
 enc s:= .agg [enc s.b,enc s.e]
 dec | .agg [x0,x1]=> (dec x0).bind fun x0=> (dec x1).bind fun x1=> some ⟨x0,x1⟩ | _=> none
 kn _:=rfl
 wid _:=rfl
 dec_enc s:=by simp
 le d x h:=by
  split at h
  ·simp only[Option.bind_eq_some_iff] at h
   obtain⟨x0,h0,x1,h1,h⟩:=h
   cases h
   exact LeL.agg (.cons (Cod.le _ _ h0) (.cons (Cod.le _ _ h1) .nil))
  ·cases h
structure rR where
 nm:B
 b:Int
 e:Int
 kv:List Pair
deriving DecidableEq
instance:Cod rR where
 wd:=4
 enc s:= .agg [enc s.nm,enc s.b,enc s.e,enc s.kv]
 dec | .agg [x0,x1,x2,x3]=> (dec x0).bind fun x0=> (dec x1).bind fun x1=> (dec x2).bind fun x2=> (dec x3).bind fun x3=> some ⟨x0,x1,x2,x3⟩ | _=> none
 kn _:=rfl
 wid _:=rfl
 dec_enc s:=by simp
 le d x h:=by
  split at h
  ·simp only[Option.bind_eq_some_iff] at h
   obtain⟨x0,h0,x1,h1,x2,h2,x3,h3,h⟩:=h
   cases h
   exact LeL.agg (.cons (Cod.le _ _ h0) (.cons (Cod.le _ _ h1) (.cons (Cod.le _ _ h2) (.cons (Cod.le _ _ h3) .nil))))
  ·cases h
@[simp] theorem R8 (s:rR):enc s= .agg [enc s.nm,enc s.b,enc s.e,enc s.kv]:=id rfl
@[simp] theorem SY:Cod.wd rR=4:=id rfl
@[simp] theorem Sd (x0 x1 x2 x3:D):dec (X:=rR) (.agg [x0,x1,x2,x3])=((dec x0).bind fun x0=> (dec x1).bind fun x1=> (dec x2).bind fun x2=> (dec x3).bind fun x3=> some ⟨x0,x1,x2,x3⟩):=id rfl
structure Region where
 ty:B
 b:Int
 e:Int
 kv:List Pair
deriving DecidableEq
instance:Cod Region where
 wd:=4
 enc s:= .agg [enc s.ty,enc s.b,enc s.e,enc s.kv]
 dec | .agg [x0,x1,x2,x3]=> (dec x0).bind fun x0=> (dec x1).bind fun x1=> (dec x2).bind fun x2=> (dec x3).bind fun x3=> some ⟨x0,x1,x2,x3⟩ | _=> none
 kn _:=rfl
 wid _:=rfl
 dec_enc s:=by simp
 le d x h:=by
  split at h
  ·simp only[Option.bind_eq_some_iff] at h
   obtain⟨x0,h0,x1,h1,x2,h2,x3,h3,h⟩:=h
   cases h
   exact LeL.agg (.cons (Cod.le _ _ h0) (.cons (Cod.le _ _ h1) (.cons (Cod.le _ _ h2) (.cons (Cod.le _ _ h3) .nil))))
  ·cases h
@[simp] theorem Ph (s:Region): (Region.mk s.ty s.b s.e s.kv)=s:=id rfl
@[simp] theorem Pl (s:Region):enc s= .agg [enc s.ty,enc s.b,enc s.e,enc s.kv]:=id rfl
@[simp] theorem P8:Cod.wd Region=4:=id rfl
@[simp] theorem Pu (x0 x1 x2 x3:D):dec (X:=Region) (.agg [x0,x1,x2,x3])=((dec x0).bind fun x0=> (dec x1).bind fun x1=> (dec x2).bind fun x2=> (dec x3).bind fun x3=> some ⟨x0,x1,x2,x3⟩):=id rfl
structure oz where
 lb:B
 b:Int
 e:Int
 par:Int
deriving DecidableEq
instance:Cod oz where
 wd:=4
 enc s:= .agg [enc s.lb,enc s.b,enc s.e,enc s.par]
 dec | .agg [x0,x1,x2,x3]=> (dec x0).bind fun x0=> (dec x1).bind fun x1=> (dec x2).bind fun x2=> (dec x3).bind fun x3=> some ⟨x0,x1,x2,x3⟩ | _=> none
 kn _:=rfl
 wid _:=rfl
 dec_enc s:=by simp
 le d x h:=by
  split at h
  ·simp only[Option.bind_eq_some_iff] at h
   obtain⟨x0,h0,x1,h1,x2,h2,x3,h3,h⟩:=h
   cases h
   exact LeL.agg (.cons (Cod.le _ _ h0) (.cons (Cod.le _ _ h1) (.cons (Cod.le _ _ h2) (.cons (Cod.le _ _ h3) .nil))))
  ·cases h
@[simp] theorem Sa (s:oz):enc s= .agg [enc s.lb,enc s.b,enc s.e,enc s.par]:=id rfl
@[simp] theorem S8:Cod.wd oz=4:=id rfl
structure Corpus where
 attrs:List Attr
 toks:List (List B)
 texts:List rR
 regs:List Region
 nodes:List oz
 heads:List Int
 rels:List B
deriving DecidableEq
instance:Cod Corpus where
 wd:=7
 enc s:= .agg [enc s.attrs,enc s.toks,enc s.texts,enc s.regs,enc s.nodes,enc s.heads,enc s.rels]
 dec | .agg [x0,x1,x2,x3,x4,x5,x6]=> (dec x0).bind fun x0=> (dec x1).bind fun x1=> (dec x2).bind fun x2=> (dec x3).bind fun x3=> (dec x4).bind fun x4=> (dec x5).bind fun x5=> (dec x6).bind fun x6=> some ⟨x0,x1,x2,x3,x4,x5,x6⟩ | _=> none
 kn _:=rfl
 wid _:=rfl
 dec_enc s:=by simp
 le d x h:=by
  split at h
  ·simp only[Option.bind_eq_some_iff] at h
   obtain⟨x0,h0,x1,h1,x2,h2,x3,h3,x4,h4,x5,h5,x6,h6,h⟩:=h
   cases h
   exact LeL.agg (.cons (Cod.le _ _ h0) (.cons (Cod.le _ _ h1) (.cons (Cod.le _ _ h2) (.cons (Cod.le _ _ h3) (.cons (Cod.le _ _ h4) (.cons (Cod.le _ _ h5) (.cons (Cod.le _ _ h6) .nil)))))))
  ·cases h
@[simp] theorem Pi (s:Corpus): (Corpus.mk s.attrs s.toks s.texts s.regs s.nodes s.heads s.rels)=s:=id rfl
@[simp] theorem Pm (s:Corpus):enc s= .agg [enc s.attrs,enc s.toks,enc s.texts,enc s.regs,enc s.nodes,enc s.heads,enc s.rels]:=id rfl
@[simp] theorem Pv (x0 x1 x2 x3 x4 x5 x6:D):dec (X:=Corpus) (.agg [x0,x1,x2,x3,x4,x5,x6])=((dec x0).bind fun x0=> (dec x1).bind fun x1=> (dec x2).bind fun x2=> (dec x3).bind fun x3=> (dec x4).bind fun x4=> (dec x5).bind fun x5=> (dec x6).bind fun x6=> some ⟨x0,x1,x2,x3,x4,x5,x6⟩):=id rfl
structure nR where
 r:I32
 pos:Int
 sz:Int
 ok:Bool
deriving DecidableEq
instance:Cod nR where
 wd:=4
 enc s:= .agg [enc s.r,enc s.pos,enc s.sz,enc s.ok]
 dec | .agg [x0,x1,x2,x3]=> (dec x0).bind fun x0=> (dec x1).bind fun x1=> (dec x2).bind fun x2=> (dec x3).bind fun x3=> some ⟨x0,x1,x2,x3⟩ | _=> none
 kn _:=rfl
 wid _:=rfl
 dec_enc s:=by simp
 le d x h:=by
  split at h
  ·simp only[Option.bind_eq_some_iff] at h
   obtain⟨x0,h0,x1,h1,x2,h2,x3,h3,h⟩:=h
   cases h
   exact LeL.agg (.cons (Cod.le _ _ h0) (.cons (Cod.le _ _ h1) (.cons (Cod.le _ _ h2) (.cons (Cod.le _ _ h3) .nil))))
  ·cases h
@[simp] theorem Pk (s:nR):enc s= .agg [enc s.r,enc s.pos,enc s.sz,enc s.ok]:=id rfl
@[simp] theorem P7:Cod.wd nR=4:=id rfl
end Go.Gv

namespace Go.Gv
theorem eh {α:Type} {l:List α} {k:Nat} {a:α} (h:l[k]?=some a):l.take (k+1)=l.take k++ [a]:=by
 rw[List.take_add_one,h];rfl
theorem ga {α:Type} {l:List α} {k:Nat} {a:α} (h:l[k]?=some a):a∈l:=List.mem_of_getElem? h
theorem fh {α:Type} {l:List α} {k:Nat} (h:k < l.length): ∃a,l[k]?=some a:=⟨l[k],List.getElem?_eq_getElem h⟩
def RB (a b:vG):Prop:=a.b < b.b∨a.b=b.b∧a.e < b.e
instance (a b:vG):Decidable (RB a b):=by unfold RB;infer_instance
theorem Nc (a:vG): ¬RB a a:=by unfold RB;omega
def SS (l:List vG):Prop:=l.Pairwise RB
theorem SS.nil:SS []:=List.Pairwise.nil
def IsNorm (l r:List vG):Prop:=SS r∧ ∀x,x∈r↔x∈l
theorem IsNorm.nil:IsNorm [] []:=⟨SS.nil,fun _=> Iff.rfl⟩
theorem IsNorm.congr {l l' r:List vG} (h:IsNorm l r) (hl: ∀x,x∈l↔x∈l'):IsNorm l' r:=⟨h.1,fun x=> (h.2 x).trans (hl x)⟩
theorem Kg: ∀ {r l:List vG},SS r→(∀x∈r,x∈l)→r.length≤l.length
 | [],l,_,_=> Nat.zero_le _
 | x::r,l,h,hl=> by
   have h':=List.pairwise_cons.1 h
   have hx:=hl x (by simp)
   have:=Kg (l:=l.erase x) h'.2 fun y hy=> (List.mem_erase_of_ne (fun(e:y=x)=> Nc x (by have:=h'.1 y hy;rwa [e] at this))).2 (hl y (by simp[hy]))
   rw[List.length_erase_of_mem hx] at this
   have:=List.length_pos_of_mem hx
   simp;omega
theorem IsNorm.len {l r:List vG} (h:IsNorm l r):r.length≤l.length:=Kg h.1 fun x hx=> (h.2 x).1 hx
theorem IsNorm.same {l l' r:List vG} (h:IsNorm l r) (hl: ∀x,x∈l'↔x∈l):IsNorm l' r:=⟨h.1,fun x=> (h.2 x).trans (hl x).symm⟩
def kq {X:Type} :List X→(X→Bool)→Int
 | [],_=> -1
 | x::l,p=> if p x then 0 else if kq l p < 0 then -1 else kq l p+1
theorem kp {X:Type} {p:X→Bool} : ∀ {l:List X},(∀y∈l,p y=false)→kq l p= -1
 | [],_=> rfl
 | x::l,h=> by
   have:=kp (l:=l) (fun y hy=> h y (by simp[hy]))
   simp[kq,h x (by simp),this]
theorem pB {X:Type} {p:X→Bool} : ∀ {l:List X} {k:Nat} {x:X},l[k]?=some x→p x=true→(∀y∈l.take k,p y=false)→kq l p=k
 | [],k,x,hx,_,_=> by simp at hx
 | z::l,0,x,hx,hp,_=> by
   simp at hx
   subst hx
   simp[kq,hp]
 | z::l,k+1,x,hx,hp,hb=> by
   have hz:=hb z (by simp)
   have ih:=pB (l:=l) (k:=k) (by simpa using hx) hp (fun y hy=> hb y (by simp[hy]))
   simp[kq,hz,ih]
   omega
theorem zV {X:Type} (p:X→Bool) (l:List X): (kq l p= -1∧ ∀y∈l,p y=false)∨ ∃k x,kq l p=(k:Nat)∧l[k]?=some x∧p x=true∧ ∀y∈l.take k,p y=false:=by
 induction l with
 | nil=> exact .inl ⟨rfl,by simp⟩
 | cons z l ih=>
   by_cases hz:p z=true
   ·exact .inr ⟨0,z,by simp[kq,hz],by simp,hz,by simp⟩
   ·have hz:p z=false:=by simpa using hz
    rcases ih with⟨h1,h2⟩ | ⟨k,x,h1,h2,h3,h4⟩
    ·refine .inl ⟨by simp[kq,hz,h1],fun y hy=> ?_⟩
     rcases List.mem_cons.1 hy with rfl | hy
     ·exact hz
     ·exact h2 y hy
    ·refine .inr ⟨k+1,x,?_,by simpa using h2,h3,fun y hy=> ?_⟩
     ·simp[kq,hz,h1];omega
     ·rw[List.take_succ_cons] at hy
      rcases List.mem_cons.1 hy with rfl | hy
      ·exact hz
      ·exact h4 y hy
theorem vj {X:Type} (p:X→Bool) (l:List X):decide (0≤kq l p)=l.any p:=by
 rcases zV p l with⟨h1,h2⟩ | ⟨k,x,h1,h2,h3,h4⟩
 ·have:l.any p=false:=by simpa using h2
  rw[h1,this];rfl
 ·have:l.any p=true:=List.any_eq_true.2 ⟨x,ga h2,h3⟩
  rw[h1,this];simp
theorem SS.filter {l:List vG} (h:SS l) (p:vG→Bool):SS (l.filter p):=List.Pairwise.filter p h
theorem IsNorm.filter {l r:List vG} (h:IsNorm l r) (p:vG→Bool):IsNorm (l.filter p) (r.filter p):=⟨h.1.filter p,fun x=> by simp[h.2 x]⟩
theorem Jv (s:ByteArray) (p:Nat) (h:p < s.size):1≤(Utf8.decode s p).2∧p+ (Utf8.decode s p).2≤s.size:=by
 unfold Utf8.decode
 simp only[Bool.and_eq_true,decide_eq_true_eq]
 repeat' split
 all_goals (try simp only[])
 all_goals omega
end Go.Gv

namespace Go.Gv
open Go.Proofs
abbrev oA (d s:Nat):CI:= .op (some d) none (.mv (.tmp s))
abbrev oB (d:Nat) (c:COp):CI:= .op (some d) none c
abbrev oC (d w s:Nat):CI:= .op (some d) none (.load false w (.tmp s))
abbrev oD (d w s:Nat):CI:= .op (some d) none (.load true w (.tmp s))
abbrev oE (d n s:Nat):CI:= .op (some d) none (.faddr n (.tmp s))
abbrev oF (w a b:Nat):CI:= .op none none (.store none w (.tmp a) (.tmp b))
abbrev oG (d s:Nat):CI:= .op (some d) none (.nilck (.tmp s))
abbrev oH (d g:Nat) (c:COp):CI:= .op (some d) (some (g,true)) c
abbrev oI (d g:Nat) (c:COp):CI:= .op (some d) (some (g,false)) c
abbrev oT (n:Nat):Operand:= .tmp n
abbrev oK (v:Value):Operand:= .const v
abbrev oN (n:Int):Operand:= .const (.int .i64 n)
abbrev oS (b:ByteArray):Operand:= .const (.string b)
abbrev oi:Value:= .int .i64 0
abbrev oe:Value:= .string ⟨#[]⟩
abbrev ob:Value:= .bool false
abbrev on:Value:= .slice none 0 0
abbrev oZ (d f:Nat) (l:List Operand):CI:= .op (some d) none (.call f l)
abbrev oX (l:List CI) (a b:List Nat) (x:CC):CC:= .seq (.reg l) (.keep a b x)
def iF:Nat:=5
def r6:Nat:=10
def fX:Nat:=11
def ca:Nat:=12
def iN:Nat:=13
def gL:Nat:=14
def bF:Nat:=15
def iD:Nat:=17
def fU:Nat:=18
def iE:Nat:=19
def bS:Nat:=20
def dQ:Nat:=23
def iB:Nat:=24
def et:Nat:=25
def de:Nat:=26
def ku:Nat:=28
def ag:Nat:=35
def bZ:Nat:=36
def aN:Nat:=37
def ck:Nat:=38
def bm:Nat:=39
def eD:Nat:=40
def fb:Nat:=43
def dz:Nat:=44
def jL:Nat:=45
def cu:Nat:=46
def aY:Nat:=47
def bk:Nat:=48
def jO:Nat:=50
def cL:Nat:=51
def cT:Nat:=52
def cM:Nat:=53
def dP:Nat:=54
def cg:Nat:=55
def bL:Nat:=56
def eC:Nat:=57
def bQ:Nat:=58
def cH:Nat:=61
def jN:Nat:=63
def eA:Nat:=64
def eB:Nat:=65
def iI:Nat:=66
def aq:Nat:=67
def fE:Nat:=68
def aM:Nat:=69
def rD:Nat:=72
def vq:Nat:=73
def jM:Nat:=74
def ew:Nat:=75
def gJ:Nat:=76
def gK:Nat:=77
def ji:Nat:=78
def dt:Nat:=79
def gI:Nat:=80
def e9:Nat:=81
def cQ:Nat:=82
def av:Nat:=83
def iH:Nat:=84
def cC:Nat:=85
def cB:Nat:=86
def iG:Nat:=87
def bt:Nat:=88
def dX:Nat:=89
def aB:Nat:=90
def aW:Nat:=91
def cX:Nat:=96
def ai:Nat:=97
def dO:Nat:=98
def bY:Nat:=99
def cA:Nat:=100
def cS:Nat:=101
def lc:Nat:=102
def dG:Nat:=103
def e8:Nat:=104
def dR:Nat:=105
def aL:Nat:=106
def dd:Nat:=109
def bI:Nat:=110
def aV:Nat:=111
def az:Nat:=116
def bw:Nat:=117
def bE:Nat:=118
def gH:Nat:=119
def fV:Nat:=120
def dW:Nat:=121
def bJ:Nat:=122
def aR:Nat:=123
def cR:Nat:=124
def bv:Nat:=125
def cW:Nat:=129
def aF:Nat:=130
def eq:Nat:=131
def aw:Nat:=133
def dA:Nat:=134
def cU:Nat:=135
def fT:Nat:=136
def k9:Nat:=138
def fl:Nat:=142
def mC:Nat:=143
def k8:Nat:=144
def iX:Nat:=145
def eM:Nat:=146
def fa:Nat:=147
def jJ:Nat:=148
def kV:Nat:=149
def iC:Nat:=150
def kY:Nat:=151
def kW:Nat:=152
def ct:Nat:=153
def dD:Nat:=154
def dF:Nat:=156
def qw:Nat:=157
def eZ:Nat:=159
def aG:Nat:=160
def cY:Nat:=161
def kX:Nat:=172
def fk:Nat:=173
def eu:Nat:=174
def mB:Nat:=175
def gY:Nat:=176
def jK:Nat:=177
def tR:Nat:=180
def jh:Nat:=181
def dr:Nat:=182
def bj:Nat:=183
def bb:Nat:=184
def bu:Nat:=186
def bg:Nat:=187
def kZ:Nat:=192
def cE:Nat:=200
def gG:Nat:=201
def z6:Nat:=202
def dE:Nat:=204
def bT:Nat:=210
def bM:Nat:=211
def dY:Nat:=212
def aQ:Nat:=218
def fS:Nat:=219
def dS:Nat:=220
def ba:Nat:=224
def kt:Nat:=225
def iA:Nat:=226
def jm:Nat:=227
def iW:Nat:=228
def fF:Nat:=229
def iq:Nat:=230
def j7:Nat:=231
def vp:Nat:=232
def ez:Nat:=233
def ci:Nat:=3
def kJ:Nat:=5
def ak:Nat:=9
def mb:Nat:=21
def J1:Nat:=22
def aU:Nat:=25
def dj:Nat:=29
def yo:Nat:=33
def aS:Nat:=45
def cP:Nat:=52
def aA:Nat:=55
def se:Nat:=68
def dI:Nat:=71
def xg:Nat:=86
def uv:Nat:=94
def eQ:Nat:=105
def uw:Nat:=107
def bG:Nat:=109
def eR:Nat:=117
def dy:Nat:=139
def xh:Nat:=144
def be:Nat:=163
def dC:Nat:=166
def bi:Nat:=176
theorem mixed:Tryz.prog.follows .mixedOrders=true:=by kernel_rfl
end Go.Gv
