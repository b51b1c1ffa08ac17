/- A part of the framework and of the walks: L1 G Cd Cc W1. -/
import Derived.Test.YtphdikcommfnhaaGreatDoorProg
import Derived.Test.YtphdikcommfnhaaGreatDoorGf19
import Derived.Test.YtphdikcommfnhaaGreatDoorGf18
set_option linter.unusedSimpArgs false
set_option linter.unusedVariables false
set_option linter.unusedSectionVars false
set_option maxRecDepth 100000
set_option maxHeartbeats 0

namespace Go.Gv
theorem br{α:Type}{l:List α}{k:Nat}{a:α}(h:l[k]? =some a):l.take (k+1)=l.take k++ [a]:=by
 rw[qyk,h];rfl
theorem gL{α:Type}{l:List α}{k:Nat}{a:α}(h:l[k]? =some a):l.drop k=a::l.drop (k+1):=by
 obtain⟨hk,rfl⟩:=qwP.1 h
 exact qxr hk
theorem bh{α:Type}{l:List α}{k:Nat}{a:α}(h:l[k]? =some a):a∈l:=qwS h
theorem qhe{α:Type}{l:List α}{k:Nat}{a:α}(h:l[k]? =some a):k < l.length:=(qwP.1 h).1
theorem cj{α:Type}{l:List α}{k:Nat}(h:k < l.length):∃a,l[k]? =some a:=⟨l[k],qwQ h⟩
def qmw(a b:EO):Prop:=a.b < b.b\/a.b=b.b/\a.e < b.e
instance (a b:EO):Decidable (qmw a b):=by unfold qmw;infer_instance
theorem qfq(a:EO):¬qmw a a:=by unfold qmw;omega
def SS(l:List EO):Prop:=l.Pairwise qmw
theorem SS.nil:SS []:=List.Pairwise.nil
def IsNorm(l r:List EO):Prop:=SS r/\∀x,x∈r↔x∈l
theorem IsNorm.nil:IsNorm [] []:=⟨SS.nil,fun _=>qxR⟩
theorem IsNorm.congr{l l' r:List EO}(h:IsNorm l r)(hl:∀x,x∈l↔x∈l'):IsNorm l' r:=⟨h.1,fun x=>(h.2 x).trans (hl x)⟩
theorem Z3:∀ {r l:List EO},SS r->(∀x∈r,x∈l)->r.length<=l.length
 | [],l,_,_=>qxi _
 | x::r,l,h,hl=>by
   have h':=qyJ.1 h
   have hx:=hl x (by simp)
   have:=Z3 (l:=l.erase x) h'.2 fun y hy=>(List.mem_erase_of_ne (fun(e:y=x)=>qfq x (by have:=h'.1 y hy;rwa [e]at this))).2 (hl y (by simp[hy]))
   rw[List.length_erase_of_mem hx]at this
   have:=List.length_pos_of_mem hx
   simp;omega
theorem IsNorm.len{l r:List EO}(h:IsNorm l r):r.length<=l.length:=Z3 h.1 fun x hx=>(h.2 x).1 hx
theorem IsNorm.same{l l' r:List EO}(h:IsNorm l r)(hl:∀x,x∈l'↔x∈l):IsNorm l' r:=⟨h.1,fun x=>(h.2 x).trans (hl x).symm⟩
def gF{X:Type} :List X->(X->Bool)->Int
 | [],_=> -1
 | x::l,p=>if p x then 0 else if gF l p < 0 then -1 else gF l p+1
theorem mB{X:Type}{p:X->Bool} :∀ {l:List X},(∀y∈l,p y=false)->gF l p= -1
 | [],_=>rfl
 | x::l,h=>by
   have:=mB (l:=l) (fun y hy=>h y (by simp[hy]))
   simp[gF,h x (by simp),this]
theorem ux{X:Type}{p:X->Bool} :∀ {l:List X} {k:Nat} {x:X},l[k]? =some x->p x=true->(∀y∈l.take k,p y=false)->gF l p=k
 | [],k,x,hx,_,_=>by simp at hx
 | z::l,0,x,hx,hp,_=>by
   simp at hx
   subst hx
   simp[gF,hp]
 | z::l,k+1,x,hx,hp,hb=>by
   have hz:=hb z (by simp)
   have ih:=ux (l:=l) (k:=k) (by simpa using hx) hp (fun y hy=>hb y (by simp[hy]))
   simp[gF,hz,ih]
   omega
theorem CK{X:Type}(p:X->Bool)(l:List X):(gF l p= -1/\∀y∈l,p y=false)\/ ∃k x,gF l p=(k:Nat)/\l[k]? =some x/\p x=true/\∀y∈l.take k,p y=false:=by
 induction l with
 | nil=>exact .inl ⟨rfl,by simp⟩
 | cons z l ih=>
   by_cases hz:p z=true
   ·exact .inr ⟨0,z,by simp[gF,hz],by simp,hz,by simp⟩
   ·have hz:p z=false:=by simpa using hz
    rcases ih with⟨h1,h2⟩|⟨k,x,h1,h2,h3,h4⟩
    ·refine .inl ⟨by simp[gF,hz,h1],fun y hy=>?_⟩
     rcases qwT.1 hy with rfl|hy
     ·exact hz
     ·exact h2 y hy
    ·refine .inr ⟨k+1,x,?_,by simpa using h2,h3,fun y hy=>?_⟩
     ·simp[gF,hz,h1];omega
     ·rw[qzl]at hy
      rcases qwT.1 hy with rfl|hy
      ·exact hz
      ·exact h4 y hy
theorem uw{X:Type}(p:X->Bool)(l:List X):decide (0<=gF l p)=l.any p:=by
 rcases CK p l with⟨h1,h2⟩|⟨k,x,h1,h2,h3,h4⟩
 ·have:l.any p=false:=by simpa using h2
  rw[h1,this];rfl
 ·have:l.any p=true:=qx3.2 ⟨x,bh h2,h3⟩
  rw[h1,this];simp
theorem SS.filter{l:List EO}(h:SS l)(p:EO->Bool):SS (l.filter p):=List.Pairwise.filter p h
theorem IsNorm.filter{l r:List EO}(h:IsNorm l r)(p:EO->Bool):IsNorm (l.filter p) (r.filter p):=⟨h.1.filter p,fun x=>by simp[h.2 x]⟩
theorem Y4(s:ByteArray)(p:Nat)(h:p < s.size):1<=(Utf8.decode s p).2/\p+ (Utf8.decode s p).2<=s.size:=by
 unfold Utf8.decode
 simp only[qwX,decide_eq_true_eq]
 repeat' split
 all_goals (try simp only[])
 all_goals omega
end Go.Gv

namespace Go.Gv
namespace G
variable {α:Type}
def fc(n:Nat)(f:Nat->α):α:=match n with
 | 0=>f 0
 | k+1=>f (k+1)
def bt(t:Nat):Nat:=Nat.shiftLeft 1 t
def oM:Operand->Nat
 | .tmp t=>bt t
 | _=>0
def qve:List Operand->Nat
 | []=>0
 | o::l=>Nat.lor (oM o) (qve l)
def qu2:CI->Nat
 | .op _ g c=>Nat.lor (qve c.ops) (match g with|some (s,_)=>bt s|none=>0)
 | .frz _ _=>0
def rm(m t:Nat):Nat:=Nat.sub m (Nat.land m (bt t))
def qpo:List CI->Nat->Nat
 | [],o=>o
 | x::l,o=>fc (qpo l o) fun o=>match x with
   | .op (some d) g c=>Nat.lor (rm o d) (qu2 (.op (some d) g c))
   | .op none g c=>Nat.lor o (qu2 (.op none g c))
   | .frz _ _=>o
def lk:List (Nat×Nat)->Nat->Nat
 | [],_=>0
 | (i,m)::l,k=>match Nat.beq i k with
  | true=>m
  | false=>lk l k
def qsR:Nat->(Nat->Nat)->Nat->Nat
 | 0,_,c=>c
 | n+1,f,c=>fc (Nat.lor c (f c)) fun d=>match Nat.beq d c with
   | true=>d
   | false=>qsR n f d
def lv(r:Nat):CC->List (Nat×Nat)->Nat->Nat
 | .skip,_,o=>o
 | .reg l,_,o=>qpo l o
 | .regd p t,_,o=>fc (qpo t o) (qpo p)
 | .seq a b,e,o=>fc (lv r b e o) (lv r a e)
 | .ite c a b,e,o=>Nat.lor (Nat.lor (lv r a e o) (lv r b e o)) (oM c)
 | .block i b,e,o=>lv r b ((i,o)::e) o
 | .loop _ b,e,_=>qsR 50 (lv r b e) 0
 | .exit i,e,_=>lk e i
 | .ret,_,_=>r
 | .cut _ c,e,o=>lv r c e o
 | .keep _ _ c,e,o=>lv r c e o
def gt(W x t:Nat):Nat:=Nat.land (Nat.shiftRight x (Nat.mul t W)) (Nat.sub (bt W) 1)
def ad(W x t m:Nat):Nat:=Nat.lor x (Nat.shiftLeft m (Nat.mul t W))
def hO(W h:Nat):Operand->Nat
 | .tmp t=>gt W h t
 | _=>0
def qkZ(W h:Nat):List Operand->Nat
 | []=>0
 | o::l=>Nat.lor (hO W h o) (qkZ W h l)
def qc4:Nat->Nat->Nat->List Nat
 | 0,_,_=>[]
 | n+1,i,m=>match Nat.beq m 0 with
   | true=>[]
   | false=>match Nat.beq (Nat.land m 1) 1 with
     | true=>i::qc4 n (i+1) (Nat.shiftRight m 1)
     | false=>qc4 n (i+1) (Nat.shiftRight m 1)
def bl(m:Nat):List Nat:=qc4 1000 0 m
def Zq(f:Nat->Nat):List Nat->Nat
 | []=>0
 | i::l=>Nat.lor (f i) (Zq f l)
def qkD(W:Nat)(f:Nat->Nat):List Nat->Nat->Nat
 | [],c=>c
 | i::l,c=>fc (ad W c i (f i)) (qkD W f l)
def qwd(W:Nat)(x:CI)(h c:Nat)(K:Nat->Nat->α):α:=match x with
 | .frz _ _=>K h c
 | .op d _ o=>
   let put (m:Nat):α:=match d with
    | some d=>fc (ad W h d m) fun h=>K h c
    | none=>K h c
   let own:Nat:=match d with
    | some d=>bt d
    | none=>0
   let cal (s:Nat):α:=fc s fun s=>fc (qkD W (fun i=>rm s i) (bl s) c) fun c=>match d with
    | some d=>fc (ad W h d s) fun h=>K h c
    | none=>K h c
   match o with
   | .alloc _ _=>put own
   | .nslice _ _=>put own
   | .mslice _ _ _=>put own
   | .mkslice _ _ _ _ _ _ _=>put own
   | .srange _=>put own
   | .appmk _ _ _ _ _ _ _=>put own
   | .m .mk _=>put own
   | .m .rng _=>put own
   | .m .len _=>K h c
   | .m (.upd _ _) (x::ys)=>fc (qkZ W h ys) fun v=>fc (qkD W (fun _=>v) (bl (hO W h x)) c) fun c=>K h c
   | .m (.look _ _ _ _ _) (x::_)=>put (Zq (gt W c) (bl (hO W h x)))
   | .m .entry (x::_)=>put (Zq (gt W c) (bl (hO W h x)))
   | .load _ _ x=>put (Zq (gt W c) (bl (hO W h x)))
   | .tbx _ x=>fc (qkD W (fun _=>hO W h x) (bl own) c) fun c=>match d with
     | some d=>fc (ad W h d own) fun h=>K h c
     | none=>K h c
   | .box _ false x=>fc (qkD W (fun _=>hO W h x) (bl own) c) fun c=>match d with
     | some d=>fc (ad W h d own) fun h=>K h c
     | none=>K h c
   | .store _ _ x y=>fc (hO W h y) fun v=>fc (qkD W (fun _=>v) (bl (hO W h x)) c) fun c=>K h c
   | .append _ _ _ _ x _=>put (Nat.lor own (hO W h x))
   | .call _ xs=>cal (qkZ W h xs)
   | .callb _ _ xs=>cal (qkZ W h xs)
   | .callv f xs=>put (Nat.lor (qkZ W h xs) (hO W h f))
   | o=>put (qkZ W h o.ops)
def qow(W:Nat):List CI->Nat->Nat->(Nat->Nat->α)->α
 | [],h,c,K=>K h c
 | x::l,h,c,K=>qwd W x h c fun h c=>qow W l h c K
def qij(W:Nat):CC->Nat->Nat->(Nat->Nat->α)->α
 | .reg l,h,c,K=>qow W l h c K
 | .regd p t,h,c,K=>qow W p h c fun h c=>qow W t h c K
 | .seq a b,h,c,K=>qij W a h c fun h c=>qij W b h c K
 | .ite _ a b,h,c,K=>qij W a h c fun h c=>qij W b h c K
 | .block _ b,h,c,K=>qij W b h c K
 | .loop _ b,h,c,K=>qij W b h c K
 | _,h,c,K=>K h c
def fx(W:Nat)(cc:CC):Nat->Nat->Nat->(Nat->Nat->α)->α
 | 0,h,c,K=>K h c
 | n+1,h,c,K=>qij W cc h c fun h' c'=>match Nat.beq h h' with
   | false=>fx W cc n h' c' K
   | true=>match Nat.beq c c' with
     | false=>fx W cc n h' c' K
     | true=>K h c
def cl(W c:Nat):Nat->Nat->Nat
 | 0,s=>s
 | n+1,s=>fc (Nat.lor s (Zq (gt W c) (bl s))) fun t=>match Nat.beq t s with
   | true=>s
   | false=>cl W c n t
def qmH:Value->Bool
 | .int .i64 k=>decide (k=1)
 | _=>false
def qwx:List CI->Option (Nat×Nat×Nat)
 | [.op (some c) none (.cmp .lss (.tmp i) (.tmp n))]=>some (c,i,n)
 | _=>none
def qwy:List CI->Option (Nat×Nat)
 | [.op (some i2) none (.arith .add (.tmp i) (.const v)), .op (some j) none (.mv (.tmp j2))]=>match qmH v && Nat.beq i j && Nat.beq i2 j2 with
   | true=>some (i2,i)
   | false=>none
 | _=>none
def qsS(id:Nat):CC->Option (Nat×Nat×Nat×Nat×Nat)
 | .loop _ (.seq (.reg l) (.seq (.ite (.tmp c2) .skip (.exit id3)) (.seq (.block id2 _) (.reg l2))))=>match qwx l,qwy l2 with
   | some (c,i,n),some (i2,j)=>match Nat.beq id id3 && Nat.beq c c2 && Nat.beq i j with
     | true=>some (i,n,c,id2,i2)
     | false=>none
   | _,_=>none
 | _=>none
def qgc:CC->Nat
 | .seq a b=>qgc a+qgc b+1
 | .ite _ a b=>qgc a+qgc b
 | .block i b=>match qsS i b with
   | some _=>qgc b -3
   | none=>qgc b
 | .loop _ b=>qgc b
 | _=>0
def Pb:CC->Nat
 | .seq a b=>Pb a+Pb b
 | .ite _ a b=>Pb a+Pb b
 | .block i b=>match qsS i b with
   | some _=>Pb b -1
   | none=>Pb b
 | .loop _ b=>Pb b+1
 | _=>0
def uk:CC->CC
 | .keep _ _ c=>c
 | c=>c
def qwG(b:CC):CC:=match b with
 | .loop _ b=>match uk b with
   | .seq _ b=>match uk b with
     | .seq _ b=>match uk b with
       | .seq a _=>match uk a with
         | .block _ b=>b
         | _=> .skip
       | _=> .skip
     | _=> .skip
   | _=> .skip
 | _=> .skip
section
variable (f:Operand->Operand)(z:List Value->List Value)
def pC:COp->COp
 | .mv x=> .mv (f x)
 | .pick c x y=> .pick (f c) (f x) (f y)
 | .alloc el l=> .alloc el (z l)
 | .box el im x=> .box el im (f x)
 | .tbx el x=> .tbx el (f x)
 | .build l ps=> .build (z l) (ps.map fun p=>(p.1,p.2.1,f p.2.2))
 | .bslice el n ps=> .bslice el n (ps.map f)
 | .nslice el n=> .nslice el n
 | .mslice el n ps=> .mslice el n (ps.map f)
 | .load a s x=> .load a s (f x)
 | .store r s x y=> .store r s (f x) (f y)
 | .nilck x=> .nilck (f x)
 | .arith o x y=> .arith o (f x) (f y)
 | .cmp o x y=> .cmp o (f x) (f y)
 | .eql n a ks x y=> .eql n a ks (f x) (f y)
 | .scat x y=> .scat (f x) (f y)
 | .not x=> .not (f x)
 | .neg x=> .neg (f x)
 | .conv k x=> .conv k (f x)
 | .clo g l=> .clo g (l.map f)
 | .mkslice el n b a l x y=> .mkslice el n b a (z l) (f x) (f y)
 | .slice n x l h=> .slice n (f x) (l.map f) (h.map f)
 | .sslice x l h=> .sslice (f x) (l.map f) (h.map f)
 | .faddr o x=> .faddr o (f x)
 | .fld a s o x=> .fld a s o (f x)
 | .iaddr n x i=> .iaddr n (f x) (f i)
 | .sidx x i=> .sidx (f x) (f i)
 | .ext x i=> .ext (f x) i
 | .len x=> .len (f x)
 | .slen x=> .slen (f x)
 | .mm m l=> .mm m (l.map f)
 | .append r el n b x y=> .append r el n b (f x) (f y)
 | .appmk el n b a l x y=> .appmk el n b a (z l) (f x) (f y)
 | .clear n a l x=> .clear n a (z l) (f x)
 | .copy n x y=> .copy n (f x) (f y)
 | .cap x=> .cap (f x)
 | .srange x=> .srange (f x)
 | .snext x=> .snext (f x)
 | .sbytes x=> .sbytes (f x)
 | .bstr x=> .bstr (f x)
 | .rstr x=> .rstr (f x)
 | .mkif t x=> .mkif t (f x)
 | .m (.look ok a ka ks l) xs=> .m (.look ok a ka ks (z l)) (xs.map f)
 | .m o xs=> .m o (xs.map f)
 | .bad=> .bad
 | .call g l=> .call g (l.map f)
 | .callv g l=> .callv (f g) (l.map f)
 | .callb r g l=> .callb r g (l.map f)
def pL(fz:List (Nat×Nat)):List CI->List CI
 | []=>[]
 | .op (some d) g c::l=>match fz.lookup d with
   | some n=> .op (some d) g (pC f z c):: .frz d n::pL fz l
   | none=> .op (some d) g (pC f z c)::pL fz l
 | .op none g c::l=> .op none g (pC f z c)::pL fz l
 | .frz t n::l=> .frz t n::pL fz l
end
structure Opt where
 bx:List Nat:=[]
 fz:List (Nat×Nat):=[]
 cu:List Nat:=[]
 ke:List Nat:=[]
 kz:List Nat:=[]
abbrev PF:=(rg:Nat->Nat->Nat->Nat->Nat->CC->Nat->CC)->(sm:Nat->CC->CC->CC)->(kk:{_:Value} ->Operand)->(zk:IntKind->Value)->(ze zb zs zp zm zf:Value)->CC
section
variable (kk:{_:Value} ->Operand)(zk:IntKind->Value)(ze zb zs zp zm zf:Value)
def pO:Operand->Operand
 | .const v=> @kk v
 | .tmp t=> .tmp t
 | .global g=> .global g
 | .func f=> .func f
def pZ:List Value->List Value
 | []=>[]
 | v::l=>(match v with
   | .int k _=>zk k
   | .string _=>ze
   | .bool _=>zb
   | .slice _ _ _=>zs
   | .pointer _=>zp
   | .map _=>zm
   | _=>zf)::pZ l
end
section
variable (rg:Nat->Nat->Nat->Nat->Nat->CC->Nat->CC)(sm:Nat->CC->CC->CC)(f:Operand->Operand)(z:List Value->List Value)(op:Opt)(W h c r:Nat)
def qus(l:List Nat):List Nat:=op.ke.filter (fun x=>!l.contains x) ++l++op.kz
def an:CC->List (Nat×Nat)->Nat->Nat->Nat->Nat->CC
 | .skip,_,_,_,_,_=> .skip
 | .reg l,_,_,_,_,_=> .reg (pL f z op.fz l)
 | .regd p l,_,_,_,_,_=> .regd (pL f z op.fz p) (pL f z op.fz l)
 | .seq a b,e,o,m,k,s=>fc (lv r b e o) fun p=>fc (match s with|0=>m+1|_=>m) fun m1=>
   let a':=an a e p m1 k 0
   let b':=an b e o (m1+qgc a) (k+Pb a) (s -1)
   let b2:=match a with
    | .skip=>b'
    | _=> .keep (bl p) (qus op (bl (cl W c 5 (Zq (gt W h) (bl p))))) b'
   match s with
   | 0=>match op.cu.contains m with
     | true=>sm m a' b2
     | false=> .seq a' b2
   | _=> .seq a' b2
 | .ite q a b,e,o,m,k,_=> .ite (f q) (an a e o m k 0) (an b e o (m+qgc a) (k+Pb a) 0)
 | .block i b,e,o,m,k,_=>match qsS i b with
   | some (ii,n,c,id2,i2)=>rg i ii n c id2 (qwG (an b ((i,o)::e) o m k 3)) i2
   | none=> .block i (an b ((i,o)::e) o m k 0)
 | .loop _ b,e,_,m,k,s=>fc (qsR 50 (lv r b e) 0) fun o=>match s with
   | 0=> .loop k (an b e o m (k+1) 0)
   | _=> .loop 0 (an b e o m k s)
 | .exit i,_,_,_,_,_=> .exit i
 | .ret,_,_,_,_,_=> .ret
 | .cut _ c,e,o,m,k,s=>an c e o m k s
 | .keep _ _ c,e,o,m,k,s=>an c e o m k s
end
def qgS(W:Nat):List Nat->Nat
 | []=>0
 | t::l=>ad W (qgS W l) t (bt t)
def qiy:List ResultVar->Nat
 | []=>0
 | .tmp t::l=>Nat.lor (bt t) (qiy l)
 | .cell t _::l=>Nat.lor (bt t) (qiy l)
def qvE(P:Program)(neg:Bool)(t:TypeId)(x y:Operand):COp:=match P.underlying t with
 | some (.struct fs)=> .eql neg true (fs.toList.map fun f=>(kO P f.type).getD .int) x y
 | _=> .eql neg false [(kO P t).getD .int] x y
def qt1(P:Program)(im:List Nat)(ops:Array Oper)(o:Oper):CI:= .op o.dst ((Es ops o).getD none) (match o.op with
 | .binOp .eql t x y _=>qvE P false t x y
 | .binOp .neq t x y _=>qvE P true t x y
 | _=>(cx P im o).getD .bad)
def cC(P:Program)(im:List Nat):Code->CC
 | .region _ ops false=> .reg (ops.toList.map (qt1 P im ops))
 | .region _ ops true=> .regd (VN ops (ops.toList.map (qt1 P im ops)) (bO ops)) ((ops.toList.map (qt1 P im ops)).drop (bO ops))
 | .seq a b=> .seq (cC P im a) (cC P im b)
 | .cond c a b=> .ite c (cC P im a) (cC P im b)
 | .block id b=> .block id (cC P im b)
 | .loop b=> .loop 0 (cC P im b)
 | .exit id=> .exit id
 | .ret=> .ret
 | _=> .skip
def gn(P:Program)(fn:Func)(im:List Nat)(op:Opt):PF:=fun rg sm kk zk ze zb zs zp zm zf=>match fn.body with
 | none=> .skip
 | some code=>fc (qgS fn.ntmps op.bx) fun h0=>fx fn.ntmps (cC { P with cutTypes:= #[] } im code) 6 h0 0 fun h c=>fc (qiy fn.results.toList) fun r=>
   an rg sm (pO @kk) (pZ zk ze zb zs zp zm zf) op fn.ntmps h c r (cC { P with cutTypes:= #[] } im code) [] r 0 1 0
def ap(c:PF):CC:=c xh XT (fun {v} => .const v) (fun k=> .int k 0) (.string ⟨#[]⟩) (.bool false) (.slice none 0 0) (.pointer none) (.map none) .nilFunc
end G
end Go.Gv

namespace Go.Gv
open Go.Proofs
abbrev oA(d s:Nat):CI:= .op (some d) none (.mv (.tmp s))
abbrev oB(d:Nat)(c:COp):CI:= .op (some d) none c
abbrev oC(d w s:Nat):CI:= .op (some d) none (.load false w (.tmp s))
abbrev oD(d w s:Nat):CI:= .op (some d) none (.load true w (.tmp s))
abbrev oE(d n s:Nat):CI:= .op (some d) none (.faddr n (.tmp s))
abbrev oF(w a b:Nat):CI:= .op none none (.store none w (.tmp a) (.tmp b))
abbrev oG(d s:Nat):CI:= .op (some d) none (.nilck (.tmp s))
abbrev oH(d g:Nat)(c:COp):CI:= .op (some d) (some (g,true)) c
abbrev oI(d g:Nat)(c:COp):CI:= .op (some d) (some (g,false)) c
abbrev oT(n:Nat):Operand:= .tmp n
abbrev oK(v:Value):Operand:= .const v
abbrev oN(n:Int):Operand:= .const (.int .i64 n)
abbrev oS(b:ByteArray):Operand:= .const (.string b)
abbrev oi:Value:= .int .i64 0
abbrev oe:Value:= .string ⟨#[]⟩
abbrev ob:Value:= .bool false
abbrev on:Value:= .slice none 0 0
abbrev oZ(d f:Nat)(l:List Operand):CI:= .op (some d) none (.call f l)
abbrev oX(l:List CI)(a b:List Nat)(x:CC):CC:= .seq (.reg l) (.keep a b x)
abbrev wv:Nat:=7
abbrev O0:Nat:=12
abbrev ro:Nat:=13
abbrev tu:Nat:=14
abbrev ig:Nat:=15
abbrev xK:Nat:=17
abbrev vv:Nat:=18
abbrev lw:Nat:=19
abbrev vm:Nat:=20
abbrev fW:Nat:=21
abbrev xR:Nat:=22
abbrev uC:Nat:=23
abbrev nK:Nat:=33
abbrev bX:Nat:=34
abbrev xO:Nat:=35
abbrev pH:Nat:=36
abbrev Av:Nat:=37
abbrev ew:Nat:=38
abbrev rk:Nat:=39
abbrev fV:Nat:=40
abbrev sd:Nat:=41
abbrev Am:Nat:=44
abbrev vu:Nat:=45
abbrev xT:Nat:=46
abbrev iX:Nat:=47
abbrev jx:Nat:=48
abbrev vt:Nat:=49
abbrev qL:Nat:=50
abbrev vr:Nat:=57
abbrev tv:Nat:=59
abbrev Kh:Nat:=60
abbrev OZ:Nat:=61
abbrev xS:Nat:=62
abbrev nG:Nat:=63
abbrev ts:Nat:=64
abbrev tt:Nat:=65
abbrev Aq:Nat:=66
abbrev jA:Nat:=67
abbrev tq:Nat:=68
abbrev tm:Nat:=69
abbrev qK:Nat:=70
abbrev dW:Nat:=71
abbrev bP:Nat:=72
abbrev dV:Nat:=73
abbrev fu:Nat:=74
abbrev aL:Nat:=75
abbrev nI:Nat:=76
abbrev ld:Nat:=77
abbrev dC:Nat:=78
abbrev rq:Nat:=79
abbrev tr:Nat:=80
abbrev cX:Nat:=81
abbrev cY:Nat:=82
abbrev mD:Nat:=83
abbrev dc:Nat:=86
abbrev CP:Nat:=95
abbrev pE:Nat:=96
abbrev dB:Nat:=97
abbrev nB:Nat:=99
abbrev vo:Nat:=100
abbrev nC:Nat:=102
abbrev hZ:Nat:=103
abbrev cL:Nat:=105
abbrev rr:Nat:=106
abbrev jC:Nat:=107
abbrev lg:Nat:=110
abbrev eE:Nat:=111
abbrev cT:Nat:=112
abbrev cD:Nat:=113
abbrev fp:Nat:=114
abbrev tn:Nat:=115
abbrev cW:Nat:=116
abbrev bu:Nat:=117
abbrev jY:Nat:=118
abbrev aR:Nat:=119
abbrev qs:Nat:=120
abbrev ez:Nat:=121
abbrev fX:Nat:=122
abbrev bZ:Nat:=123
abbrev nN:Nat:=124
abbrev cg:Nat:=125
abbrev nH:Nat:=126
abbrev ib:Nat:=127
abbrev lc:Nat:=128
abbrev dL:Nat:=129
abbrev ft:Nat:=130
abbrev iU:Nat:=131
abbrev gK:Nat:=132
abbrev kb:Nat:=133
abbrev lN:Nat:=134
abbrev rj:Nat:=136
abbrev uA:Nat:=138
abbrev CU:Nat:=139
abbrev tk:Nat:=148
abbrev vn:Nat:=149
abbrev Al:Nat:=150
abbrev pB:Nat:=151
abbrev ia:Nat:=154
abbrev jZ:Nat:=155
abbrev aI:Nat:=156
abbrev ic:Nat:=157
abbrev CQ:Nat:=158
abbrev vq:Nat:=159
abbrev pF:Nat:=160
abbrev xL:Nat:=161
abbrev An:Nat:=162
abbrev vp:Nat:=163
abbrev Ar:Nat:=164
abbrev Ao:Nat:=165
abbrev bW:Nat:=166
abbrev ep:Nat:=167
abbrev cw:Nat:=168
abbrev jB:Nat:=169
abbrev nL:Nat:=170
abbrev nM:Nat:=171
abbrev qt:Nat:=172
abbrev bE:Nat:=173
abbrev ti:Nat:=174
abbrev cn:Nat:=175
abbrev cV:Nat:=176
abbrev fa:Nat:=177
abbrev eo:Nat:=178
abbrev eu:Nat:=179
abbrev pI:Nat:=180
abbrev bz:Nat:=181
abbrev bQ:Nat:=182
abbrev xQ:Nat:=183
abbrev uB:Nat:=184
abbrev pG:Nat:=185
abbrev nJ:Nat:=195
abbrev Au:Nat:=199
abbrev pD:Nat:=207
abbrev kM:Nat:=208
abbrev fq:Nat:=210
abbrev xP:Nat:=211
abbrev jw:Nat:=212
abbrev Ap:Nat:=213
abbrev uz:Nat:=214
abbrev sa:Nat:=215
abbrev CT:Nat:=216
abbrev xN:Nat:=217
abbrev xM:Nat:=218
abbrev iW:Nat:=219
abbrev qr:Nat:=220
abbrev ek:Nat:=221
abbrev bK:Nat:=222
abbrev nP:Nat:=224
abbrev dU:Nat:=225
abbrev eU:Nat:=226
abbrev iV:Nat:=227
abbrev dg:Nat:=228
abbrev fU:Nat:=238
abbrev nE:Nat:=246
abbrev nD:Nat:=248
abbrev nF:Nat:=252
abbrev As:Nat:=253
abbrev Ay:Nat:=254
abbrev jy:Nat:=255
abbrev jX:Nat:=257
abbrev aG:Nat:=261
abbrev vx:Nat:=262
abbrev nO:Nat:=263
abbrev vw:Nat:=264
abbrev lP:Nat:=265
abbrev eO:Nat:=266
abbrev cp:Nat:=267
abbrev At:Nat:=269
abbrev iH:Nat:=275
abbrev bc:Nat:=276
abbrev qp:Nat:=277
abbrev gJ:Nat:=278
abbrev iT:Nat:=279
abbrev nA:Nat:=285
abbrev vk:Nat:=286
abbrev rp:Nat:=287
abbrev lO:Nat:=288
abbrev bS:Nat:=289
abbrev gI:Nat:=290
abbrev fT:Nat:=291
abbrev iF:Nat:=298
abbrev cQ:Nat:=299
abbrev nz:Nat:=300
abbrev qq:Nat:=303
abbrev cJ:Nat:=304
abbrev db:Nat:=305
abbrev kJ:Nat:=306
abbrev kL:Nat:=313
abbrev pz:Nat:=316
abbrev Aw:Nat:=317
abbrev kN:Nat:=318
abbrev pA:Nat:=319
abbrev pJ:Nat:=320
abbrev Ak:Nat:=326
abbrev jz:Nat:=327
abbrev gH:Nat:=328
abbrev dK:Nat:=329
abbrev cM:Nat:=331
abbrev eh:Nat:=332
abbrev iG:Nat:=335
abbrev tj:Nat:=336
abbrev kK:Nat:=339
abbrev dq:Nat:=341
abbrev iI:Nat:=342
abbrev ed:Nat:=350
abbrev cK:Nat:=351
abbrev lQ:Nat:=352
abbrev fL:Nat:=355
abbrev ee:Nat:=356
abbrev dT:Nat:=358
abbrev pK:Nat:=359
abbrev cB:Nat:=360
abbrev iw:Nat:=3
abbrev qz:Nat:=5
abbrev au:Nat:=9
abbrev IC:Nat:=21
abbrev ms:Nat:=28
abbrev DB:Nat:=36
abbrev eK:Nat:=39
abbrev sB:Nat:=55
abbrev AX:Nat:=71
abbrev Mg:Nat:=87
abbrev mr:Nat:=109
abbrev uj:Nat:=117
abbrev ix:Nat:=163
abbrev DD:Nat:=166
abbrev ej:Nat:=196
abbrev zt:Nat:=199
abbrev eY:Nat:=241
abbrev cH:Nat:=250
abbrev vY:Nat:=314
theorem mixed:Tryz.prog.follows .mixedOrders=true:=by kernel_rfl
abbrev gq(f:Func)(im:List Nat)(op:G.Opt)(c:CC)(_:G.ap (G.gn Tryz.prog f im op)=c:=by conv=>lhs; (conv=>arg 1;reduce);dsimp only[G.ap]):CC:=c
theorem fo {f : Nat} {im : List Nat} {cc : CC} {rs : List aj} {N : Nat} (h : ((Tryz.prog.funcs[f]?).bind fun g => if g.name == "runtime.NumGoroutine" then none else g.body.bind fun c => (aB Tryz.prog im g.ntmps c).bind fun cc => (g.results.toList.mapM (fG Tryz.prog)).bind fun rs => some (g.ntmps, cc, rs)) = some (N, bi cc, rs) := by kernel_rfl) : ak Tryz.prog f im cc rs N := qmX mixed h
end Go.Gv

namespace Go.Gv
open Go.Proofs
def KG:CC:=gq Tryz.f23 [] {} _
def Jf:List aj:=[.tmp 4]
theorem qbg:ak Tryz.prog uC [] KG Jf 16:=fo
def yh:CC:=gq Tryz.f138 [] {} _
def xb:List aj:=[.tmp 2]
theorem Ox:ak Tryz.prog uA [] yh xb 21:=fo
def AI:CC:=gq Tryz.f139 [] {} _
def zG:List aj:=[.tmp 2]
theorem Q6:ak Tryz.prog CU [] AI zG 17:=fo
def pN:CC:=gq Tryz.f86 [] {} _
def oV:List aj:=[.tmp 2]
theorem Fs:ak Tryz.prog dc [] pN oV 29:=fo
def oc:CC:=gq Tryz.f238 [] {} _
def mY:List aj:=[.tmp 2]
theorem D7:ak Tryz.prog fU [] oc mY 25:=fo
def yj:CC:=gq Tryz.f199 [] { cu:=[2,7,9] } _
def xe:List aj:=[.tmp 2]
theorem Oz:ak Tryz.prog Au [] yj xe 81:=fo
def yi:CC:=gq Tryz.f269 [] {} _
def xc:List aj:=[.tmp 2]
theorem Oy:ak Tryz.prog At [] yi xc 16:=fo
def yg:CC:=gq Tryz.f253 [] {} _
def xa:List aj:=[.tmp 2, .tmp 3]
theorem Ow:ak Tryz.prog As [] yg xa 69:=fo
def AG:CC:=gq Tryz.f158 [] {} _
def zD:List aj:=[.tmp 2]
theorem Q4:ak Tryz.prog CQ [] AG zD 4:=fo
def tI:CC:=gq Tryz.f159 [] {} _
def sP:List aj:=[.tmp 4]
theorem Jy:ak Tryz.prog vq [] tI sP 13:=fo
def iN:CC:=gq Tryz.f114 [2,3] {} _
def iD:List aj:=[.tmp 4]
theorem yS:ak Tryz.prog fp [2,3] iN iD 122:=fo
def lW:CC:=gq Tryz.f63 [] { cu:=[6] } _
def lF:List aj:=[.tmp 2]
theorem Cl:ak Tryz.prog nG [] lW lF 47:=fo
def yd:CC:=gq Tryz.f213 [2] {} _
def wX:List aj:=[.tmp 4]
theorem Ot:ak Tryz.prog Ap [2] yd wX 17:=fo
def yb:CC:=gq Tryz.f214 [] {} _
def wV:List aj:=[.tmp 2]
theorem Oo:ak Tryz.prog uz [] yb wV 42:=fo
def vz:CC:=gq Tryz.f215 [3] {} _
def uO:List aj:=[.tmp 6]
theorem LF:ak Tryz.prog sa [3] vz uO 32:=fo
def AH:CC:=gq Tryz.f216 [] {} _
def zF:List aj:=[.tmp 4]
theorem Q5:ak Tryz.prog CT [] AH zF 24:=fo
def vC:CC:=gq Tryz.f217 [2] {} _
def uR:List aj:=[.tmp 4]
theorem LI:ak Tryz.prog xN [2] vC uR 27:=fo
def vB:CC:=gq Tryz.f218 [] {} _
def uQ:List aj:=[.tmp 4]
theorem LH:ak Tryz.prog xM [] vB uQ 27:=fo
def oa:CC:=gq Tryz.f160 [] {} _
def mX:List aj:=[.tmp 2, .tmp 3]
theorem D6:ak Tryz.prog pF [] oa mX 42:=fo
def vA:CC:=gq Tryz.f161 [1] {} _
def uP:List aj:=[.tmp 2, .tmp 3]
theorem LG:ak Tryz.prog xL [1] vA uP 48:=fo
def ya:CC:=gq Tryz.f162 [1] {} _
def wU:List aj:=[.tmp 2, .tmp 3]
theorem On:ak Tryz.prog An [1] ya wU 96:=fo
def tH:CC:=gq Tryz.f163 [1] {} _
def sO:List aj:=[.tmp 2, .tmp 3]
theorem Jw:ak Tryz.prog vp [1] tH sO 143:=fo
def yf:CC:=gq Tryz.f164 [3] { cu:=[14,17,20,26] } _
def wZ:List aj:=[.tmp 4, .tmp 5]
theorem Ov:ak Tryz.prog Ar [3] yf wZ 128:=fo
def yc:CC:=gq Tryz.f165 [1] { cu:=[2,5,11,14] } _
def wW:List aj:=[.tmp 2, .tmp 3]
theorem Oq:ak Tryz.prog Ao [1] yc wW 86:=fo
def rC:CC:=gq Tryz.f115 [1] {} _
def qW:List aj:=[.tmp 2, .tmp 3, .tmp 4]
theorem Hs:ak Tryz.prog tn [1] rC qW 74:=fo
def ye:CC:=gq Tryz.f66 [1] {} _
def wY:List aj:=[.tmp 2]
theorem Ou:ak Tryz.prog Aq [1] ye wY 14:=fo
def iM:CC:=gq Tryz.f67 [] {} _
def iC:List aj:=[.tmp 4]
theorem yR:ak Tryz.prog jA [] iM iC 26:=fo
def rD:CC:=gq Tryz.f68 [2] {} _
def qX:List aj:=[.tmp 4]
theorem Ht:ak Tryz.prog tq [2] rD qX 21:=fo
def rB:CC:=gq Tryz.f69 [1] {} _
def qV:List aj:=[.tmp 2, .tmp 3]
theorem Hq:ak Tryz.prog tm [1] rB qV 32:=fo
def vD:CC:=gq Tryz.f35 [2,3,2101010,1100097,2108010,1107104,2145010,1144141,2182010,1181178] { cu:=[7,13,19,26,33,48] } _
def uS:List aj:=[.cell 4 true 7, .tmp 5]
theorem LJ:ak Tryz.prog xO [2,3,2101010,1100097,2108010,1107104,2145010,1144141,2182010,1181178] vD uS 273:=fo
def wz:CC:=gq Tryz.f50 [] {} _
def wh:List aj:=[.tmp 2]
theorem MI:ak Tryz.prog qL [] wz wh 8:=fo
def F5:CC:=gq Tryz.f60 [] {} _
def Fl:List aj:=[.tmp 2]
theorem Yc:ak Tryz.prog Kh [] F5 Fl 7:=fo
def KE:CC:=gq Tryz.f61 [] {} _
def Jd:List aj:=[.tmp 2]
theorem qbe:ak Tryz.prog OZ [] KE Jd 7:=fo
def vK:CC:=gq Tryz.f62 [] {} _
def uZ:List aj:=[.tmp 2]
theorem LS:ak Tryz.prog xS [] vK uZ 7:=fo
def rL:CC:=gq Tryz.f59 [] {} _
def rh:List aj:=[.tmp 0]
theorem HB:ak Tryz.prog tv [] rL rh 5:=fo
def tP:CC:=gq Tryz.f34 [] {} _
def zH:List aj:=[.tmp 4]
theorem JF:ak Tryz.prog bX [] tP zH 35:=fo
def KF:CC:=gq Tryz.f12 [999] {} _
def Je:List aj:=[.tmp 2]
theorem qbf:ak Tryz.prog O0 [999] KF Je 11:=fo
def mf:CC:=gq Tryz.f33 [100026,2067008] { cu:=[3,5,12,19,22,28] } _
def lJ:List aj:=[.cell 6 true 7]
theorem Cq:ak Tryz.prog nK [100026,2067008] mf lJ 177:=fo
def rH:CC:=gq Tryz.f64 [1061061,1096061,2063001,2098001] { bx:=[1],cu:=[12] } _
def rb:List aj:=[]
theorem Hx:ak Tryz.prog ts [1061061,1096061,2063001,2098001] rH rb 100:=fo
def rJ:CC:=gq Tryz.f65 [1038027,1034027,1031027,2076042,2075040] { bx:=[1],cu:=[10,14] } _
def re:List aj:=[]
theorem Hz:ak Tryz.prog tt [1038027,1034027,1031027,2076042,2075040] rJ re 102:=fo
def qa:CC:=gq Tryz.f13 [] {} _
def pk:List aj:=[.cell 4 true 7]
theorem FD:ak Tryz.prog ro [] qa pk 36:=fo
def vL:CC:=gq Tryz.f46 [] {} _
def vd:List aj:=[.tmp 2]
def mh:CC:=gq Tryz.f47 [] {} _
def lL:List aj:=[.tmp 4]
def qc:CC:=gq Tryz.f106 [] {} _
def pp:List aj:=[.tmp 2]
def qb:CC:=gq Tryz.f79 [2] {} _
def pn:List aj:=[.tmp 4]
end Go.Gv

namespace Go.Gv
open Cod (enc dec)
variable {S:Nat->Spc}
abbrev yx:Spc:=aJ (a1 Int) (fun _=>True) enc fun _ y=>y=false
theorem Hg:aq qc pp S (a1 Int) (fun _=>True) enc fun _ y=>y=false:=by
 rintro x -
 simp[qc,pp]
def yX(a b:Int):Int:=if a < b then -1 else if b < a then 1 else 0
abbrev mM:Spc:=aJ (a2 Int Int) (fun _=>True) enc fun x y=>y=yX x.1 x.2
theorem Dm(h1:S rr=yx):aq mh lL S (a2 Int Int) (fun _=>True) enc fun x y=>y=yX x.1 x.2:=by
 rintro⟨a,b⟩ -
 simp[mh,lL,h1,yX]
 refine⟨fun h1 h2=>by omega,fun h1=>⟨fun h2=>?_,fun h2=>?_⟩⟩
 ·rw[if_neg (by omega),if_pos h2]
 ·rw[if_neg (by omega),if_neg (by omega)]
abbrev DQ:Spc:=aJ (a1 (List Int)) (fun _=>True) enc fun x y=>y=(x.find? (· ≠0)).getD 0
theorem NH:aq vL vd S (a1 (List Int)) (fun _=>True) enc fun x y=>y=(x.find? (· ≠0)).getD 0:=by
 rintro l -
 simp[vL,vd]
 intro _
 refine ai (X:=Unit) [3,6] [] l.length (fun k _=>(l.find? fun x=>!decide (x=0))=(l.drop k).find? fun x=>!decide (x=0)) (fun _=>[]) (fun _=>[]) () (by simp) (by simp) (by omega) (by simp) (by simp) (by simp) (by simp) (by simp) ?_ ?_
 ·intro k _ hk hP
  simp
  refine⟨hk,fun x hx=>?_⟩
  rw[gL hx]at hP
  refine⟨fun h=>?_,fun h=>?_⟩
  ·rw[hP];simp[h]
  ·rw[hP];simp[h]
 ·intro _ hP
  rw[qxP]at hP
  simp[hP]
def FL(x n:Int):Int:=if n < 1 then 0 else if x.tmod n < 0 then x.tmod n+n else x.tmod n
abbrev s_m_Mod:Spc:=aJ (a2 Int Int) (fun x=>x.2<=1000000000) enc fun x y=>y=FL x.1 x.2
theorem qef:aq KG Jf S (a2 Int Int) (fun x=>x.2<=1000000000) enc fun x y=>y=FL x.1 x.2:=by
 rintro⟨a,b⟩ hl
 simp at hl
 simp[KG,Jf,FL]
 refine⟨fun h1 h2=>by omega,fun h1=>⟨by omega,fun h2=>⟨?_,?_⟩,fun h2=>?_⟩⟩
 ·have:=Int.lt_tmod_of_pos a (b:=b) (by omega)
  simp[InR];omega
 ·rw[if_neg (by omega),if_pos h2]
 ·rw[if_neg (by omega),if_neg (by omega)]
end Go.Gv
