/- A part of the framework and of the walks: L1 G Cd Cc W1. -/
import Derived.Test.YtphdikcommfnhaaGreatDoorProg
import Derived.Test.YtphdikcommfnhaaGreatDoorGg19
import Derived.Test.YtphdikcommfnhaaGreatDoorGg18
set_option linter.unusedSimpArgs false
set_option linter.unusedVariables false
set_option linter.unusedSectionVars false
set_option maxRecDepth 100000
set_option maxHeartbeats 0

namespace Go.Gv
theorem bM{α:Type}{l:List α}{k:Nat}{a:α}(h:l[k]? =some a):l.take (k+1)=l.take k++ [a]:=by
 rw[qvF,h];rfl
theorem mQ{α:Type}{l:List α}{k:Nat}{a:α}(h:l[k]? =some a):l.drop k=a::l.drop (k+1):=by
 obtain⟨hk,rfl⟩:=qtG.1 h
 exact quh hk
theorem dO{α:Type}{l:List α}{k:Nat}{a:α}(h:l[k]? =some a):a∈l:=qtJ h
theorem qet{α:Type}{l:List α}{k:Nat}{a:α}(h:l[k]? =some a):k < l.length:=(qtG.1 h).1
theorem dM{α:Type}{l:List α}{k:Nat}(h:k < l.length):∃a,l[k]? =some a:=⟨l[k],qtH h⟩
def qjv(a b:Dq):Prop:=a.b < b.b\/a.b=b.b/\a.e < b.e
instance (a b:Dq):Decidable (qjv a b):=by unfold qjv;infer_instance
theorem qcJ(a:Dq):¬qjv a a:=by unfold qjv;omega
def SS(l:List Dq):Prop:=l.Pairwise qjv
theorem SS.nil:SS []:=List.Pairwise.nil
def IsNorm(l r:List Dq):Prop:=SS r/\∀x,x∈r↔x∈l
theorem IsNorm.nil:IsNorm [] []:=⟨SS.nil,fun _=>quJ⟩
theorem IsNorm.congr{l l' r:List Dq}(h:IsNorm l r)(hl:∀x,x∈l↔x∈l'):IsNorm l' r:=⟨h.1,fun x=>(h.2 x).trans (hl x)⟩
theorem XF:∀ {r l:List Dq},SS r->(∀x∈r,x∈l)->r.length<=l.length
 | [],l,_,_=>qub _
 | x::r,l,h,hl=>by
   have h':=qvB.1 h
   have hx:=hl x (by simp)
   have:=XF (l:=l.erase x) h'.2 fun y hy=>(List.mem_erase_of_ne (fun(e:y=x)=>qcJ x (by have:=h'.1 y hy;rwa [e]at this))).2 (hl y (by simp[hy]))
   rw[List.length_erase_of_mem hx]at this
   have:=List.length_pos_of_mem hx
   simp;omega
theorem IsNorm.len{l r:List Dq}(h:IsNorm l r):r.length<=l.length:=XF h.1 fun x hx=>(h.2 x).1 hx
theorem IsNorm.same{l l' r:List Dq}(h:IsNorm l r)(hl:∀x,x∈l'↔x∈l):IsNorm l' r:=⟨h.1,fun x=>(h.2 x).trans (hl x).symm⟩
def fS{X:Type} :List X->(X->Bool)->Int
 | [],_=> -1
 | x::l,p=>if p x then 0 else if fS l p < 0 then -1 else fS l p+1
theorem lG{X:Type}{p:X->Bool} :∀ {l:List X},(∀y∈l,p y=false)->fS l p= -1
 | [],_=>rfl
 | x::l,h=>by
   have:=lG (l:=l) (fun y hy=>h y (by simp[hy]))
   simp[fS,h x (by simp),this]
theorem tc{X:Type}{p:X->Bool} :∀ {l:List X} {k:Nat} {x:X},l[k]? =some x->p x=true->(∀y∈l.take k,p y=false)->fS l p=k
 | [],k,x,hx,_,_=>by simp at hx
 | z::l,0,x,hx,hp,_=>by
   simp at hx
   subst hx
   simp[fS,hp]
 | z::l,k+1,x,hx,hp,hb=>by
   have hz:=hb z (by simp)
   have ih:=tc (l:=l) (k:=k) (by simpa using hx) hp (fun y hy=>hb y (by simp[hy]))
   simp[fS,hz,ih]
   omega
theorem Bo{X:Type}(p:X->Bool)(l:List X):(fS l p= -1/\∀y∈l,p y=false)\/ ∃k x,fS l p=(k:Nat)/\l[k]? =some x/\p x=true/\∀y∈l.take k,p y=false:=by
 induction l with
 | nil=>exact .inl ⟨rfl,by simp⟩
 | cons z l ih=>
   by_cases hz:p z=true
   ·exact .inr ⟨0,z,by simp[fS,hz],by simp,hz,by simp⟩
   ·have hz:p z=false:=by simpa using hz
    rcases ih with⟨h1,h2⟩|⟨k,x,h1,h2,h3,h4⟩
    ·refine .inl ⟨by simp[fS,hz,h1],fun y hy=>?_⟩
     rcases qtM.1 hy with rfl|hy
     ·exact hz
     ·exact h2 y hy
    ·refine .inr ⟨k+1,x,?_,by simpa using h2,h3,fun y hy=>?_⟩
     ·simp[fS,hz,h1];omega
     ·rw[qwc]at hy
      rcases qtM.1 hy with rfl|hy
      ·exact hz
      ·exact h4 y hy
theorem tb{X:Type}(p:X->Bool)(l:List X):decide (0<=fS l p)=l.any p:=by
 rcases Bo p l with⟨h1,h2⟩|⟨k,x,h1,h2,h3,h4⟩
 ·have:l.any p=false:=by simpa using h2
  rw[h1,this];rfl
 ·have:l.any p=true:=quN.2 ⟨x,dO h2,h3⟩
  rw[h1,this];simp
theorem SS.filter{l:List Dq}(h:SS l)(p:Dq->Bool):SS (l.filter p):=List.Pairwise.filter p h
theorem IsNorm.filter{l r:List Dq}(h:IsNorm l r)(p:Dq->Bool):IsNorm (l.filter p) (r.filter p):=⟨h.1.filter p,fun x=>by simp[h.2 x]⟩
theorem Wv(s:ByteArray)(p:Nat)(h:p < s.size):1<=(Utf8.decode s p).2/\p+ (Utf8.decode s p).2<=s.size:=by
 unfold Utf8.decode
 simp only[qtN,decide_eq_true_eq]
 repeat' split
 all_goals (try simp only[])
 all_goals omega
end Go.Gv

namespace Go.Gv
namespace G
variable {α:Type}
def fc(n:Nat)(f:Nat->α):α:=match n with
 | 0=>f 0
 | k+1=>f (k+1)
def bt(t:Nat):Nat:=Nat.shiftLeft 1 t
def oM:Operand->Nat
 | .tmp t=>bt t
 | _=>0
def qr4:List Operand->Nat
 | []=>0
 | o::l=>Nat.lor (oM o) (qr4 l)
def qrS:CI->Nat
 | .op _ g c=>Nat.lor (qr4 c.ops) (match g with|some (s,_)=>bt s|none=>0)
 | .frz _ _=>0
def rm(m t:Nat):Nat:=Nat.sub m (Nat.land m (bt t))
def qmk:List CI->Nat->Nat
 | [],o=>o
 | x::l,o=>fc (qmk l o) fun o=>match x with
   | .op (some d) g c=>Nat.lor (rm o d) (qrS (.op (some d) g c))
   | .op none g c=>Nat.lor o (qrS (.op none g c))
   | .frz _ _=>o
def lk:List (Nat×Nat)->Nat->Nat
 | [],_=>0
 | (i,m)::l,k=>match Nat.beq i k with
  | true=>m
  | false=>lk l k
def qpN:Nat->(Nat->Nat)->Nat->Nat
 | 0,_,c=>c
 | n+1,f,c=>fc (Nat.lor c (f c)) fun d=>match Nat.beq d c with
   | true=>d
   | false=>qpN n f d
def lv(r:Nat):CC->List (Nat×Nat)->Nat->Nat
 | .skip,_,o=>o
 | .reg l,_,o=>qmk l o
 | .regd p t,_,o=>fc (qmk t o) (qmk p)
 | .seq a b,e,o=>fc (lv r b e o) (lv r a e)
 | .ite c a b,e,o=>Nat.lor (Nat.lor (lv r a e o) (lv r b e o)) (oM c)
 | .block i b,e,o=>lv r b ((i,o)::e) o
 | .loop _ b,e,_=>qpN 50 (lv r b e) 0
 | .exit i,e,_=>lk e i
 | .ret,_,_=>r
 | .cut _ c,e,o=>lv r c e o
 | .keep _ _ c,e,o=>lv r c e o
def gt(W x t:Nat):Nat:=Nat.land (Nat.shiftRight x (Nat.mul t W)) (Nat.sub (bt W) 1)
def ad(W x t m:Nat):Nat:=Nat.lor x (Nat.shiftLeft m (Nat.mul t W))
def hO(W h:Nat):Operand->Nat
 | .tmp t=>gt W h t
 | _=>0
def qhY(W h:Nat):List Operand->Nat
 | []=>0
 | o::l=>Nat.lor (hO W h o) (qhY W h l)
def qaw:Nat->Nat->Nat->List Nat
 | 0,_,_=>[]
 | n+1,i,m=>match Nat.beq m 0 with
   | true=>[]
   | false=>match Nat.beq (Nat.land m 1) 1 with
     | true=>i::qaw n (i+1) (Nat.shiftRight m 1)
     | false=>qaw n (i+1) (Nat.shiftRight m 1)
def bl(m:Nat):List Nat:=qaw 1000 0 m
def WS(f:Nat->Nat):List Nat->Nat
 | []=>0
 | i::l=>Nat.lor (f i) (WS f l)
def qhD(W:Nat)(f:Nat->Nat):List Nat->Nat->Nat
 | [],c=>c
 | i::l,c=>fc (ad W c i (f i)) (qhD W f l)
def qs3(W:Nat)(x:CI)(h c:Nat)(K:Nat->Nat->α):α:=match x with
 | .frz _ _=>K h c
 | .op d _ o=>
   let put (m:Nat):α:=match d with
    | some d=>fc (ad W h d m) fun h=>K h c
    | none=>K h c
   let own:Nat:=match d with
    | some d=>bt d
    | none=>0
   let cal (s:Nat):α:=fc s fun s=>fc (qhD W (fun i=>rm s i) (bl s) c) fun c=>match d with
    | some d=>fc (ad W h d s) fun h=>K h c
    | none=>K h c
   match o with
   | .alloc _ _=>put own
   | .nslice _ _=>put own
   | .mslice _ _ _=>put own
   | .mkslice _ _ _ _ _ _ _=>put own
   | .srange _=>put own
   | .appmk _ _ _ _ _ _ _=>put own
   | .m .mk _=>put own
   | .m .rng _=>put own
   | .m .len _=>K h c
   | .m (.upd _ _) (x::ys)=>fc (qhY W h ys) fun v=>fc (qhD W (fun _=>v) (bl (hO W h x)) c) fun c=>K h c
   | .m (.look _ _ _ _ _) (x::_)=>put (WS (gt W c) (bl (hO W h x)))
   | .m .entry (x::_)=>put (WS (gt W c) (bl (hO W h x)))
   | .load _ _ x=>put (WS (gt W c) (bl (hO W h x)))
   | .tbx _ x=>fc (qhD W (fun _=>hO W h x) (bl own) c) fun c=>match d with
     | some d=>fc (ad W h d own) fun h=>K h c
     | none=>K h c
   | .box _ false x=>fc (qhD W (fun _=>hO W h x) (bl own) c) fun c=>match d with
     | some d=>fc (ad W h d own) fun h=>K h c
     | none=>K h c
   | .store _ _ x y=>fc (hO W h y) fun v=>fc (qhD W (fun _=>v) (bl (hO W h x)) c) fun c=>K h c
   | .append _ _ _ _ x _=>put (Nat.lor own (hO W h x))
   | .call _ xs=>cal (qhY W h xs)
   | .callb _ _ xs=>cal (qhY W h xs)
   | .callv f xs=>put (Nat.lor (qhY W h xs) (hO W h f))
   | o=>put (qhY W h o.ops)
def qls(W:Nat):List CI->Nat->Nat->(Nat->Nat->α)->α
 | [],h,c,K=>K h c
 | x::l,h,c,K=>qs3 W x h c fun h c=>qls W l h c K
def qfx(W:Nat):CC->Nat->Nat->(Nat->Nat->α)->α
 | .reg l,h,c,K=>qls W l h c K
 | .regd p t,h,c,K=>qls W p h c fun h c=>qls W t h c K
 | .seq a b,h,c,K=>qfx W a h c fun h c=>qfx W b h c K
 | .ite _ a b,h,c,K=>qfx W a h c fun h c=>qfx W b h c K
 | .block _ b,h,c,K=>qfx W b h c K
 | .loop _ b,h,c,K=>qfx W b h c K
 | _,h,c,K=>K h c
def fx(W:Nat)(cc:CC):Nat->Nat->Nat->(Nat->Nat->α)->α
 | 0,h,c,K=>K h c
 | n+1,h,c,K=>qfx W cc h c fun h' c'=>match Nat.beq h h' with
   | false=>fx W cc n h' c' K
   | true=>match Nat.beq c c' with
     | false=>fx W cc n h' c' K
     | true=>K h c
def cl(W c:Nat):Nat->Nat->Nat
 | 0,s=>s
 | n+1,s=>fc (Nat.lor s (WS (gt W c) (bl s))) fun t=>match Nat.beq t s with
   | true=>s
   | false=>cl W c n t
def qjG:Value->Bool
 | .int .i64 k=>decide (k=1)
 | _=>false
def qtn:List CI->Option (Nat×Nat×Nat)
 | [.op (some c) none (.cmp .lss (.tmp i) (.tmp n))]=>some (c,i,n)
 | _=>none
def qto:List CI->Option (Nat×Nat)
 | [.op (some i2) none (.arith .add (.tmp i) (.const v)), .op (some j) none (.mv (.tmp j2))]=>match qjG v && Nat.beq i j && Nat.beq i2 j2 with
   | true=>some (i2,i)
   | false=>none
 | _=>none
def qpO(id:Nat):CC->Option (Nat×Nat×Nat×Nat×Nat)
 | .loop _ (.seq (.reg l) (.seq (.ite (.tmp c2) .skip (.exit id3)) (.seq (.block id2 _) (.reg l2))))=>match qtn l,qto l2 with
   | some (c,i,n),some (i2,j)=>match Nat.beq id id3 && Nat.beq c c2 && Nat.beq i j with
     | true=>some (i,n,c,id2,i2)
     | false=>none
   | _,_=>none
 | _=>none
def qdw:CC->Nat
 | .seq a b=>qdw a+qdw b+1
 | .ite _ a b=>qdw a+qdw b
 | .block i b=>match qpO i b with
   | some _=>qdw b -3
   | none=>qdw b
 | .loop _ b=>qdw b
 | _=>0
def M7:CC->Nat
 | .seq a b=>M7 a+M7 b
 | .ite _ a b=>M7 a+M7 b
 | .block i b=>match qpO i b with
   | some _=>M7 b -1
   | none=>M7 b
 | .loop _ b=>M7 b+1
 | _=>0
def uk:CC->CC
 | .keep _ _ c=>c
 | c=>c
def qtw(b:CC):CC:=match b with
 | .loop _ b=>match uk b with
   | .seq _ b=>match uk b with
     | .seq _ b=>match uk b with
       | .seq a _=>match uk a with
         | .block _ b=>b
         | _=> .skip
       | _=> .skip
     | _=> .skip
   | _=> .skip
 | _=> .skip
section
variable (f:Operand->Operand)(z:List Value->List Value)
def pC:COp->COp
 | .mv x=> .mv (f x)
 | .pick c x y=> .pick (f c) (f x) (f y)
 | .alloc el l=> .alloc el (z l)
 | .box el im x=> .box el im (f x)
 | .tbx el x=> .tbx el (f x)
 | .build l ps=> .build (z l) (ps.map fun p=>(p.1,p.2.1,f p.2.2))
 | .bslice el n ps=> .bslice el n (ps.map f)
 | .nslice el n=> .nslice el n
 | .mslice el n ps=> .mslice el n (ps.map f)
 | .load a s x=> .load a s (f x)
 | .store r s x y=> .store r s (f x) (f y)
 | .nilck x=> .nilck (f x)
 | .arith o x y=> .arith o (f x) (f y)
 | .cmp o x y=> .cmp o (f x) (f y)
 | .eql n a ks x y=> .eql n a ks (f x) (f y)
 | .scat x y=> .scat (f x) (f y)
 | .not x=> .not (f x)
 | .neg x=> .neg (f x)
 | .conv k x=> .conv k (f x)
 | .clo g l=> .clo g (l.map f)
 | .mkslice el n b a l x y=> .mkslice el n b a (z l) (f x) (f y)
 | .slice n x l h=> .slice n (f x) (l.map f) (h.map f)
 | .sslice x l h=> .sslice (f x) (l.map f) (h.map f)
 | .faddr o x=> .faddr o (f x)
 | .fld a s o x=> .fld a s o (f x)
 | .iaddr n x i=> .iaddr n (f x) (f i)
 | .sidx x i=> .sidx (f x) (f i)
 | .ext x i=> .ext (f x) i
 | .len x=> .len (f x)
 | .slen x=> .slen (f x)
 | .mm m l=> .mm m (l.map f)
 | .append r el n b x y=> .append r el n b (f x) (f y)
 | .appmk el n b a l x y=> .appmk el n b a (z l) (f x) (f y)
 | .clear n a l x=> .clear n a (z l) (f x)
 | .copy n x y=> .copy n (f x) (f y)
 | .cap x=> .cap (f x)
 | .srange x=> .srange (f x)
 | .snext x=> .snext (f x)
 | .sbytes x=> .sbytes (f x)
 | .bstr x=> .bstr (f x)
 | .rstr x=> .rstr (f x)
 | .mkif t x=> .mkif t (f x)
 | .m (.look ok a ka ks l) xs=> .m (.look ok a ka ks (z l)) (xs.map f)
 | .m o xs=> .m o (xs.map f)
 | .bad=> .bad
 | .call g l=> .call g (l.map f)
 | .callv g l=> .callv (f g) (l.map f)
 | .callb r g l=> .callb r g (l.map f)
def pL(fz:List (Nat×Nat)):List CI->List CI
 | []=>[]
 | .op (some d) g c::l=>match fz.lookup d with
   | some n=> .op (some d) g (pC f z c):: .frz d n::pL fz l
   | none=> .op (some d) g (pC f z c)::pL fz l
 | .op none g c::l=> .op none g (pC f z c)::pL fz l
 | .frz t n::l=> .frz t n::pL fz l
end
structure Opt where
 bx:List Nat:=[]
 fz:List (Nat×Nat):=[]
 cu:List Nat:=[]
 ke:List Nat:=[]
 kz:List Nat:=[]
abbrev PF:=(rg:Nat->Nat->Nat->Nat->Nat->CC->Nat->CC)->(sm:Nat->CC->CC->CC)->(kk:{_:Value} ->Operand)->(zk:IntKind->Value)->(ze zb zs zp zm zf:Value)->CC
section
variable (kk:{_:Value} ->Operand)(zk:IntKind->Value)(ze zb zs zp zm zf:Value)
def pO:Operand->Operand
 | .const v=> @kk v
 | .tmp t=> .tmp t
 | .global g=> .global g
 | .func f=> .func f
def pZ:List Value->List Value
 | []=>[]
 | v::l=>(match v with
   | .int k _=>zk k
   | .string _=>ze
   | .bool _=>zb
   | .slice _ _ _=>zs
   | .pointer _=>zp
   | .map _=>zm
   | _=>zf)::pZ l
end
section
variable (rg:Nat->Nat->Nat->Nat->Nat->CC->Nat->CC)(sm:Nat->CC->CC->CC)(f:Operand->Operand)(z:List Value->List Value)(op:Opt)(W h c r:Nat)
def qrj(l:List Nat):List Nat:=op.ke.filter (fun x=>!l.contains x) ++l++op.kz
def an:CC->List (Nat×Nat)->Nat->Nat->Nat->Nat->CC
 | .skip,_,_,_,_,_=> .skip
 | .reg l,_,_,_,_,_=> .reg (pL f z op.fz l)
 | .regd p l,_,_,_,_,_=> .regd (pL f z op.fz p) (pL f z op.fz l)
 | .seq a b,e,o,m,k,s=>fc (lv r b e o) fun p=>fc (match s with|0=>m+1|_=>m) fun m1=>
   let a':=an a e p m1 k 0
   let b':=an b e o (m1+qdw a) (k+M7 a) (s -1)
   let b2:=match a with
    | .skip=>b'
    | _=> .keep (bl p) (qrj op (bl (cl W c 5 (WS (gt W h) (bl p))))) b'
   match s with
   | 0=>match op.cu.contains m with
     | true=>sm m a' b2
     | false=> .seq a' b2
   | _=> .seq a' b2
 | .ite q a b,e,o,m,k,_=> .ite (f q) (an a e o m k 0) (an b e o (m+qdw a) (k+M7 a) 0)
 | .block i b,e,o,m,k,_=>match qpO i b with
   | some (ii,n,c,id2,i2)=>rg i ii n c id2 (qtw (an b ((i,o)::e) o m k 3)) i2
   | none=> .block i (an b ((i,o)::e) o m k 0)
 | .loop _ b,e,_,m,k,s=>fc (qpN 50 (lv r b e) 0) fun o=>match s with
   | 0=> .loop k (an b e o m (k+1) 0)
   | _=> .loop 0 (an b e o m k s)
 | .exit i,_,_,_,_,_=> .exit i
 | .ret,_,_,_,_,_=> .ret
 | .cut _ c,e,o,m,k,s=>an c e o m k s
 | .keep _ _ c,e,o,m,k,s=>an c e o m k s
end
def qd9(W:Nat):List Nat->Nat
 | []=>0
 | t::l=>ad W (qd9 W l) t (bt t)
def qfN:List ResultVar->Nat
 | []=>0
 | .tmp t::l=>Nat.lor (bt t) (qfN l)
 | .cell t _::l=>Nat.lor (bt t) (qfN l)
def qsu(P:Program)(neg:Bool)(t:TypeId)(x y:Operand):COp:=match P.underlying t with
 | some (.struct fs)=> .eql neg true (fs.toList.map fun f=>(jN P f.type).getD .int) x y
 | _=> .eql neg false [(jN P t).getD .int] x y
def qqV(P:Program)(im:List Nat)(ops:Array Oper)(o:Oper):CI:= .op o.dst ((C8 ops o).getD none) (match o.op with
 | .binOp .eql t x y _=>qsu P false t x y
 | .binOp .neq t x y _=>qsu P true t x y
 | _=>(ca P im o).getD .bad)
def cC(P:Program)(im:List Nat):Code->CC
 | .region _ ops false=> .reg (ops.toList.map (qqV P im ops))
 | .region _ ops true=> .regd (Tj ops (ops.toList.map (qqV P im ops)) (bG ops)) ((ops.toList.map (qqV P im ops)).drop (bG ops))
 | .seq a b=> .seq (cC P im a) (cC P im b)
 | .cond c a b=> .ite c (cC P im a) (cC P im b)
 | .block id b=> .block id (cC P im b)
 | .loop b=> .loop 0 (cC P im b)
 | .exit id=> .exit id
 | .ret=> .ret
 | _=> .skip
def gn(P:Program)(fn:Func)(im:List Nat)(op:Opt):PF:=fun rg sm kk zk ze zb zs zp zm zf=>match fn.body with
 | none=> .skip
 | some code=>fc (qd9 fn.ntmps op.bx) fun h0=>fx fn.ntmps (cC { P with cutTypes:= #[] } im code) 6 h0 0 fun h c=>fc (qfN fn.results.toList) fun r=>
   an rg sm (pO @kk) (pZ zk ze zb zs zp zm zf) op fn.ntmps h c r (cC { P with cutTypes:= #[] } im code) [] r 0 1 0
def ap(c:PF):CC:=c vM U7 (fun {v} => .const v) (fun k=> .int k 0) (.string ⟨#[]⟩) (.bool false) (.slice none 0 0) (.pointer none) (.map none) .nilFunc
end G
end Go.Gv

namespace Go.Gv
open Go.Proofs
abbrev oA(d s:Nat):CI:= .op (some d) none (.mv (.tmp s))
abbrev oB(d:Nat)(c:COp):CI:= .op (some d) none c
abbrev oC(d w s:Nat):CI:= .op (some d) none (.load false w (.tmp s))
abbrev oD(d w s:Nat):CI:= .op (some d) none (.load true w (.tmp s))
abbrev oE(d n s:Nat):CI:= .op (some d) none (.faddr n (.tmp s))
abbrev oF(w a b:Nat):CI:= .op none none (.store none w (.tmp a) (.tmp b))
abbrev oG(d s:Nat):CI:= .op (some d) none (.nilck (.tmp s))
abbrev oH(d g:Nat)(c:COp):CI:= .op (some d) (some (g,true)) c
abbrev oI(d g:Nat)(c:COp):CI:= .op (some d) (some (g,false)) c
abbrev oT(n:Nat):Operand:= .tmp n
abbrev oK(v:Value):Operand:= .const v
abbrev oN(n:Int):Operand:= .const (.int .i64 n)
abbrev oS(b:ByteArray):Operand:= .const (.string b)
abbrev oi:Value:= .int .i64 0
abbrev oe:Value:= .string ⟨#[]⟩
abbrev ob:Value:= .bool false
abbrev on:Value:= .slice none 0 0
abbrev oZ(d f:Nat)(l:List Operand):CI:= .op (some d) none (.call f l)
abbrev oX(l:List CI)(a b:List Nat)(x:CC):CC:= .seq (.reg l) (.keep a b x)
abbrev pA:Nat:=6
abbrev MX:Nat:=12
abbrev qb:Nat:=13
abbrev gz:Nat:=15
abbrev wl:Nat:=17
abbrev uc:Nat:=18
abbrev kC:Nat:=19
abbrev tU:Nat:=20
abbrev js:Nat:=21
abbrev ti:Nat:=23
abbrev mN:Nat:=33
abbrev dq:Nat:=34
abbrev wq:Nat:=35
abbrev fy:Nat:=40
abbrev qK:Nat:=41
abbrev yN:Nat:=44
abbrev ub:Nat:=45
abbrev ww:Nat:=46
abbrev iq:Nat:=47
abbrev iM:Nat:=48
abbrev ua:Nat:=49
abbrev uY:Nat:=50
abbrev tZ:Nat:=57
abbrev rT:Nat:=59
abbrev Im:Nat:=60
abbrev MW:Nat:=61
abbrev wv:Nat:=62
abbrev mJ:Nat:=63
abbrev rR:Nat:=64
abbrev rS:Nat:=65
abbrev yR:Nat:=66
abbrev iP:Nat:=67
abbrev rP:Nat:=68
abbrev rN:Nat:=69
abbrev eS:Nat:=71
abbrev cj:Nat:=72
abbrev dA:Nat:=73
abbrev dB:Nat:=74
abbrev bp:Nat:=75
abbrev pa:Nat:=77
abbrev jq:Nat:=78
abbrev qd:Nat:=79
abbrev rQ:Nat:=80
abbrev cF:Nat:=81
abbrev cG:Nat:=82
abbrev lH:Nat:=83
abbrev cL:Nat:=86
abbrev Bv:Nat:=95
abbrev nV:Nat:=96
abbrev dc:Nat:=97
abbrev mE:Nat:=99
abbrev tW:Nat:=100
abbrev mF:Nat:=102
abbrev gw:Nat:=103
abbrev cw:Nat:=105
abbrev qe:Nat:=106
abbrev iR:Nat:=107
abbrev pb:Nat:=110
abbrev ff:Nat:=111
abbrev dX:Nat:=112
abbrev dz:Nat:=113
abbrev eQ:Nat:=114
abbrev rO:Nat:=115
abbrev de:Nat:=117
abbrev mK:Nat:=118
abbrev aP:Nat:=119
abbrev oY:Nat:=120
abbrev cH:Nat:=121
abbrev bO:Nat:=122
abbrev au:Nat:=123
abbrev eT:Nat:=124
abbrev eB:Nat:=125
abbrev wt:Nat:=126
abbrev mL:Nat:=130
abbrev ig:Nat:=131
abbrev fX:Nat:=132
abbrev jr:Nat:=133
abbrev kT:Nat:=134
abbrev qa:Nat:=136
abbrev tg:Nat:=138
abbrev Bz:Nat:=139
abbrev rM:Nat:=148
abbrev tV:Nat:=149
abbrev yM:Nat:=150
abbrev nT:Nat:=151
abbrev gx:Nat:=154
abbrev jp:Nat:=155
abbrev aK:Nat:=156
abbrev gy:Nat:=157
abbrev Bw:Nat:=158
abbrev tY:Nat:=159
abbrev nW:Nat:=160
abbrev wm:Nat:=161
abbrev yO:Nat:=162
abbrev tX:Nat:=163
abbrev yS:Nat:=164
abbrev yP:Nat:=165
abbrev bL:Nat:=166
abbrev dQ:Nat:=167
abbrev bZ:Nat:=168
abbrev iQ:Nat:=169
abbrev ij:Nat:=170
abbrev il:Nat:=171
abbrev pd:Nat:=172
abbrev bv:Nat:=173
abbrev kS:Nat:=174
abbrev br:Nat:=175
abbrev nY:Nat:=180
abbrev bj:Nat:=181
abbrev bH:Nat:=182
abbrev wu:Nat:=183
abbrev th:Nat:=184
abbrev nX:Nat:=185
abbrev mM:Nat:=195
abbrev yV:Nat:=199
abbrev nU:Nat:=207
abbrev jL:Nat:=208
abbrev eR:Nat:=210
abbrev ws:Nat:=211
abbrev iL:Nat:=212
abbrev yQ:Nat:=213
abbrev tf:Nat:=214
abbrev qJ:Nat:=215
abbrev By:Nat:=216
abbrev wo:Nat:=217
abbrev wn:Nat:=218
abbrev ip:Nat:=219
abbrev oW:Nat:=220
abbrev dP:Nat:=221
abbrev bC:Nat:=222
abbrev mP:Nat:=224
abbrev io:Nat:=227
abbrev cN:Nat:=228
abbrev fw:Nat:=238
abbrev mH:Nat:=246
abbrev mG:Nat:=248
abbrev mI:Nat:=252
abbrev yT:Nat:=253
abbrev yX:Nat:=254
abbrev iN:Nat:=255
abbrev jo:Nat:=257
abbrev aJ:Nat:=261
abbrev ue:Nat:=262
abbrev mO:Nat:=263
abbrev ud:Nat:=264
abbrev kV:Nat:=265
abbrev eo:Nat:=266
abbrev bV:Nat:=267
abbrev yU:Nat:=269
abbrev gS:Nat:=275
abbrev bb:Nat:=276
abbrev oU:Nat:=277
abbrev fW:Nat:=278
abbrev ic:Nat:=279
abbrev mD:Nat:=285
abbrev tT:Nat:=286
abbrev qc:Nat:=287
abbrev kU:Nat:=288
abbrev bI:Nat:=289
abbrev fV:Nat:=290
abbrev fu:Nat:=291
abbrev gQ:Nat:=298
abbrev cD:Nat:=299
abbrev mC:Nat:=300
abbrev oV:Nat:=303
abbrev ct:Nat:=304
abbrev cK:Nat:=305
abbrev jI:Nat:=306
abbrev jK:Nat:=313
abbrev nR:Nat:=316
abbrev yW:Nat:=317
abbrev jM:Nat:=318
abbrev nS:Nat:=319
abbrev nZ:Nat:=320
abbrev yL:Nat:=326
abbrev iO:Nat:=327
abbrev fU:Nat:=328
abbrev dn:Nat:=329
abbrev cx:Nat:=331
abbrev dJ:Nat:=332
abbrev gR:Nat:=335
abbrev rL:Nat:=336
abbrev jJ:Nat:=339
abbrev cT:Nat:=341
abbrev gT:Nat:=342
abbrev dH:Nat:=350
abbrev cv:Nat:=351
abbrev kW:Nat:=352
abbrev fl:Nat:=355
abbrev dI:Nat:=356
abbrev dy:Nat:=358
abbrev oa:Nat:=359
abbrev ci:Nat:=360
abbrev gE:Nat:=3
abbrev pi:Nat:=5
abbrev ay:Nat:=9
abbrev GL:Nat:=21
abbrev lA:Nat:=28
abbrev LO:Nat:=36
abbrev fH:Nat:=39
abbrev pj:Nat:=55
abbrev zF:Nat:=71
abbrev lz:Nat:=109
abbrev sR:Nat:=117
abbrev gF:Nat:=163
abbrev Cf:Nat:=166
abbrev dN:Nat:=196
abbrev xV:Nat:=199
abbrev eF:Nat:=241
abbrev cn:Nat:=250
abbrev uJ:Nat:=314
theorem mixed:Tryz.prog.follows .mixedOrders=true:=by kernel_rfl
abbrev gq(f:Func)(im:List Nat)(op:G.Opt)(c:CC)(_:G.ap (G.gn Tryz.prog f im op)=c:=by conv=>lhs; (conv=>arg 1;reduce);dsimp only[G.ap]):CC:=c
theorem fo {f : Nat} {im : List Nat} {cc : CC} {rs : List aj} {N : Nat} (h : ((Tryz.prog.funcs[f]?).bind fun g => if g.name == "runtime.NumGoroutine" then none else g.body.bind fun c => (aA Tryz.prog im g.ntmps c).bind fun cc => (g.results.toList.mapM (fg Tryz.prog)).bind fun rs => some (g.ntmps, cc, rs)) = some (N, be cc, rs) := by kernel_rfl) : am Tryz.prog f im cc rs N := qjZ mixed h
end Go.Gv

namespace Go.Gv
open Go.Proofs
def IJ:CC:=gq Tryz.f23 [] {} _
def Hk:List aj:=[.tmp 4]
theorem YM:am Tryz.prog ti [] IJ Hk 16:=fo
def wK:CC:=gq Tryz.f138 [] {} _
def vI:List aj:=[.tmp 2]
theorem Mu:am Tryz.prog tg [] wK vI 21:=fo
def zl:CC:=gq Tryz.f139 [] {} _
def yg:List aj:=[.tmp 2]
theorem ON:am Tryz.prog Bz [] zl yg 17:=fo
def od:CC:=gq Tryz.f86 [] {} _
def nD:List aj:=[.tmp 2]
theorem D1:am Tryz.prog cL [] od nD 29:=fo
def nc:CC:=gq Tryz.f238 [] {} _
def ma:List aj:=[.tmp 2]
theorem CL:am Tryz.prog fw [] nc ma 25:=fo
def wM:CC:=gq Tryz.f199 [] { cu:=[2,7,9] } _
def vK:List aj:=[.tmp 2]
theorem Mw:am Tryz.prog yV [] wM vK 81:=fo
def wL:CC:=gq Tryz.f269 [] {} _
def vJ:List aj:=[.tmp 2]
theorem Mv:am Tryz.prog yU [] wL vJ 16:=fo
def wJ:CC:=gq Tryz.f253 [] {} _
def vH:List aj:=[.tmp 2, .tmp 3]
theorem Mt:am Tryz.prog yT [] wJ vH 69:=fo
def zi:CC:=gq Tryz.f158 [] {} _
def ye:List aj:=[.tmp 2]
theorem OL:am Tryz.prog Bw [] zi ye 4:=fo
def sj:CC:=gq Tryz.f159 [] {} _
def rp:List aj:=[.tmp 4]
theorem HD:am Tryz.prog tY [] sj rp 13:=fo
def gY:CC:=gq Tryz.f114 [2,3] {} _
def gL:List aj:=[.tmp 4]
theorem xx:am Tryz.prog eQ [2,3] gY gL 122:=fo
def lg:CC:=gq Tryz.f63 [] { cu:=[6] } _
def kJ:List aj:=[.tmp 2]
theorem A1:am Tryz.prog mJ [] lg kJ 47:=fo
def wG:CC:=gq Tryz.f213 [2] {} _
def vE:List aj:=[.tmp 4]
theorem Mq:am Tryz.prog yQ [2] wG vE 17:=fo
def wE:CC:=gq Tryz.f214 [] {} _
def vC:List aj:=[.tmp 2]
theorem Mo:am Tryz.prog tf [] wE vC 42:=fo
def uh:CC:=gq Tryz.f215 [3] {} _
def tC:List aj:=[.tmp 6]
theorem JD:am Tryz.prog qJ [3] uh tC 32:=fo
def zj:CC:=gq Tryz.f216 [] {} _
def yf:List aj:=[.tmp 4]
theorem OM:am Tryz.prog By [] zj yf 24:=fo
def ul:CC:=gq Tryz.f217 [2] {} _
def tF:List aj:=[.tmp 4]
theorem JG:am Tryz.prog wo [2] ul tF 27:=fo
def uj:CC:=gq Tryz.f218 [] {} _
def tE:List aj:=[.tmp 4]
theorem JF:am Tryz.prog wn [] uj tE 27:=fo
def nb:CC:=gq Tryz.f160 [] {} _
def lZ:List aj:=[.tmp 2, .tmp 3]
theorem CK:am Tryz.prog nW [] nb lZ 42:=fo
def ui:CC:=gq Tryz.f161 [1] {} _
def tD:List aj:=[.tmp 2, .tmp 3]
theorem JE:am Tryz.prog wm [1] ui tD 48:=fo
def wD:CC:=gq Tryz.f162 [1] {} _
def vB:List aj:=[.tmp 2, .tmp 3]
theorem Mn:am Tryz.prog yO [1] wD vB 96:=fo
def sf:CC:=gq Tryz.f163 [1] {} _
def ro:List aj:=[.tmp 2, .tmp 3]
theorem HC:am Tryz.prog tX [1] sf ro 143:=fo
def wI:CC:=gq Tryz.f164 [3] { cu:=[14,17,20,26] } _
def vG:List aj:=[.tmp 4, .tmp 5]
theorem Ms:am Tryz.prog yS [3] wI vG 128:=fo
def wF:CC:=gq Tryz.f165 [1] { cu:=[2,5,11,14] } _
def vD:List aj:=[.tmp 2, .tmp 3]
theorem Mp:am Tryz.prog yP [1] wF vD 86:=fo
def qk:CC:=gq Tryz.f115 [1] {} _
def pM:List aj:=[.tmp 2, .tmp 3, .tmp 4]
theorem FH:am Tryz.prog rO [1] qk pM 74:=fo
def wH:CC:=gq Tryz.f66 [1] {} _
def vF:List aj:=[.tmp 2]
theorem Mr:am Tryz.prog yR [1] wH vF 14:=fo
def gX:CC:=gq Tryz.f67 [] {} _
def gK:List aj:=[.tmp 4]
theorem xw:am Tryz.prog iP [] gX gK 26:=fo
def ql:CC:=gq Tryz.f68 [2] {} _
def pN:List aj:=[.tmp 4]
theorem FI:am Tryz.prog rP [2] ql pN 21:=fo
def qj:CC:=gq Tryz.f69 [1] {} _
def pK:List aj:=[.tmp 2, .tmp 3]
theorem FG:am Tryz.prog rN [1] qj pK 32:=fo
def um:CC:=gq Tryz.f35 [2,3,2101010,1100097,2108010,1107104,2145010,1144141,2182010,1181178] { cu:=[7,13,19,26,33,48] } _
def tG:List aj:=[.cell 4 true 7, .tmp 5]
theorem JH:am Tryz.prog wq [2,3,2101010,1100097,2108010,1107104,2145010,1144141,2182010,1181178] um tG 273:=fo
def uZ:CC:=gq Tryz.f50 [] {} _
def uN:List aj:=[.tmp 2]
theorem KF:am Tryz.prog uY [] uZ uN 8:=fo
def EA:CC:=gq Tryz.f60 [] {} _
def DW:List aj:=[.tmp 2]
theorem Vq:am Tryz.prog Im [] EA DW 7:=fo
def IH:CC:=gq Tryz.f61 [] {} _
def Hi:List aj:=[.tmp 2]
theorem YK:am Tryz.prog MW [] IH Hi 7:=fo
def uu:CC:=gq Tryz.f62 [] {} _
def tM:List aj:=[.tmp 2]
theorem JO:am Tryz.prog wv [] uu tM 7:=fo
def qu:CC:=gq Tryz.f59 [] {} _
def pV:List aj:=[.tmp 0]
theorem FP:am Tryz.prog rT [] qu pV 5:=fo
def sv:CC:=gq Tryz.f34 [] {} _
def yh:List aj:=[.tmp 4]
theorem HK:am Tryz.prog dq [] sv yh 35:=fo
def II:CC:=gq Tryz.f12 [999] {} _
def Hj:List aj:=[.tmp 2]
theorem YL:am Tryz.prog MX [999] II Hj 11:=fo
def ln:CC:=gq Tryz.f33 [100026,2067008] { cu:=[3,5,12,19,22,28] } _
def kO:List aj:=[.cell 6 true 7]
theorem A7:am Tryz.prog mN [100026,2067008] ln kO 177:=fo
def qr:CC:=gq Tryz.f64 [1061061,1096061,2063001,2098001] { bx:=[1],cu:=[12] } _
def pS:List aj:=[]
theorem FM:am Tryz.prog rR [1061061,1096061,2063001,2098001] qr pS 100:=fo
def qt:CC:=gq Tryz.f65 [1038027,1034027,1031027,2076042,2075040] { bx:=[1],cu:=[10,14] } _
def pU:List aj:=[]
theorem FO:am Tryz.prog rS [1038027,1034027,1031027,2076042,2075040] qt pU 102:=fo
def ou:CC:=gq Tryz.f13 [] {} _
def nK:List aj:=[.cell 4 true 7]
theorem D8:am Tryz.prog qb [] ou nK 36:=fo
def uv:CC:=gq Tryz.f46 [] {} _
def tN:List aj:=[.tmp 2]
def lr:CC:=gq Tryz.f47 [] {} _
def kQ:List aj:=[.tmp 4]
def ow:CC:=gq Tryz.f106 [] {} _
def nM:List aj:=[.tmp 2]
def ov:CC:=gq Tryz.f79 [2] {} _
def nL:List aj:=[.tmp 4]
end Go.Gv

namespace Go.Gv
open Cod (enc dec)
variable {S:Nat->Spc}
abbrev wX:Spc:=aS (a1 Int) (fun _=>True) enc fun _ y=>y=false
theorem Fw:aq ow nM S (a1 Int) (fun _=>True) enc fun _ y=>y=false:=by
 rintro x -
 simp[ow,nM]
def xH(a b:Int):Int:=if a < b then -1 else if b < a then 1 else 0
abbrev lO:Spc:=aS (a2 Int Int) (fun _=>True) enc fun x y=>y=xH x.1 x.2
theorem BY(h1:S qe=wX):aq lr kQ S (a2 Int Int) (fun _=>True) enc fun x y=>y=xH x.1 x.2:=by
 rintro⟨a,b⟩ -
 simp[lr,kQ,h1,xH]
 refine⟨fun h1 h2=>by omega,fun h1=>⟨fun h2=>?_,fun h2=>?_⟩⟩
 ·rw[if_neg (by omega),if_pos h2]
 ·rw[if_neg (by omega),if_neg (by omega)]
abbrev Cs:Spc:=aS (a1 (List Int)) (fun _=>True) enc fun x y=>y=(x.find? (· ≠0)).getD 0
theorem LH:aq uv tN S (a1 (List Int)) (fun _=>True) enc fun x y=>y=(x.find? (· ≠0)).getD 0:=by
 rintro l -
 simp[uv,tN]
 intro _
 refine ai (X:=Unit) [3,6] [] l.length (fun k _=>(l.find? fun x=>!decide (x=0))=(l.drop k).find? fun x=>!decide (x=0)) (fun _=>[]) (fun _=>[]) () (by simp) (by simp) (by omega) (by simp) (by simp) (by simp) (by simp) (by simp) ?_ ?_
 ·intro k _ hk hP
  simp
  refine⟨hk,fun x hx=>?_⟩
  rw[mQ hx]at hP
  refine⟨fun h=>?_,fun h=>?_⟩
  ·rw[hP];simp[h]
  ·rw[hP];simp[h]
 ·intro _ hP
  rw[quH]at hP
  simp[hP]
def Eg(x n:Int):Int:=if n < 1 then 0 else if x.tmod n < 0 then x.tmod n+n else x.tmod n
abbrev s_m_Mod:Spc:=aS (a2 Int Int) (fun x=>x.2<=1000000000) enc fun x y=>y=Eg x.1 x.2
theorem qbJ:aq IJ Hk S (a2 Int Int) (fun x=>x.2<=1000000000) enc fun x y=>y=Eg x.1 x.2:=by
 rintro⟨a,b⟩ hl
 simp at hl
 simp[IJ,Hk,Eg]
 refine⟨fun h1 h2=>by omega,fun h1=>⟨by omega,fun h2=>⟨?_,?_⟩,fun h2=>?_⟩⟩
 ·have:=Int.lt_tmod_of_pos a (b:=b) (by omega)
  simp[InR];omega
 ·rw[if_neg (by omega),if_pos h2]
 ·rw[if_neg (by omega),if_neg (by omega)]
end Go.Gv
