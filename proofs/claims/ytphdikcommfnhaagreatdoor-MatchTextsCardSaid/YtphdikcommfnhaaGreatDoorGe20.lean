/- A part of the framework and of the walks: L1 G Cd Cc W1. -/
import Derived.Test.YtphdikcommfnhaaGreatDoorProg
import Derived.Test.YtphdikcommfnhaaGreatDoorGe19
import Derived.Test.YtphdikcommfnhaaGreatDoorGe18
set_option linter.unusedSimpArgs false
set_option linter.unusedVariables false
set_option linter.unusedSectionVars false
set_option maxRecDepth 100000
set_option maxHeartbeats 0

namespace Go.Gv
theorem bc{α:Type}{l:List α}{k:Nat}{a:α}(h:l[k]? =some a):l.take (k+1)=l.take k++ [a]:=by
 rw[qy5,h];rfl
theorem gP{α:Type}{l:List α}{k:Nat}{a:α}(h:l[k]? =some a):l.drop k=a::l.drop (k+1):=by
 obtain⟨hk,rfl⟩:=qxz.1 h
 exact qyb hk
theorem bj{α:Type}{l:List α}{k:Nat}{a:α}(h:l[k]? =some a):a∈l:=qxC h
theorem qhV{α:Type}{l:List α}{k:Nat}{a:α}(h:l[k]? =some a):k < l.length:=(qxz.1 h).1
theorem bJ{α:Type}{l:List α}{k:Nat}(h:k < l.length):∃a,l[k]? =some a:=⟨l[k],qxA h⟩
def qne(a b:Fa):Prop:=a.b < b.b\/a.b=b.b/\a.e < b.e
instance (a b:Fa):Decidable (qne a b):=by unfold qne;infer_instance
theorem qf6(a:Fa):¬qne a a:=by unfold qne;omega
def SS(l:List Fa):Prop:=l.Pairwise qne
theorem SS.nil:SS []:=List.Pairwise.nil
def IsNorm(l r:List Fa):Prop:=SS r/\∀x,x∈r↔x∈l
theorem IsNorm.nil:IsNorm [] []:=⟨SS.nil,fun _=>qyB⟩
theorem IsNorm.congr{l l' r:List Fa}(h:IsNorm l r)(hl:∀x,x∈l↔x∈l'):IsNorm l' r:=⟨h.1,fun x=>(h.2 x).trans (hl x)⟩
theorem qaC:∀ {r l:List Fa},SS r->(∀x∈r,x∈l)->r.length<=l.length
 | [],l,_,_=>qx3 _
 | x::r,l,h,hl=>by
   have h':=qzw.1 h
   have hx:=hl x (by simp)
   have:=qaC (l:=l.erase x) h'.2 fun y hy=>(List.mem_erase_of_ne (fun(e:y=x)=>qf6 x (by have:=h'.1 y hy;rwa [e]at this))).2 (hl y (by simp[hy]))
   rw[List.length_erase_of_mem hx]at this
   have:=List.length_pos_of_mem hx
   simp;omega
theorem IsNorm.len{l r:List Fa}(h:IsNorm l r):r.length<=l.length:=qaC h.1 fun x hx=>(h.2 x).1 hx
theorem IsNorm.same{l l' r:List Fa}(h:IsNorm l r)(hl:∀x,x∈l'↔x∈l):IsNorm l' r:=⟨h.1,fun x=>(h.2 x).trans (hl x).symm⟩
def fW{X:Type} :List X->(X->Bool)->Int
 | [],_=> -1
 | x::l,p=>if p x then 0 else if fW l p < 0 then -1 else fW l p+1
theorem mM{X:Type}{p:X->Bool} :∀ {l:List X},(∀y∈l,p y=false)->fW l p= -1
 | [],_=>rfl
 | x::l,h=>by
   have:=mM (l:=l) (fun y hy=>h y (by simp[hy]))
   simp[fW,h x (by simp),this]
theorem uR{X:Type}{p:X->Bool} :∀ {l:List X} {k:Nat} {x:X},l[k]? =some x->p x=true->(∀y∈l.take k,p y=false)->fW l p=k
 | [],k,x,hx,_,_=>by simp at hx
 | z::l,0,x,hx,hp,_=>by
   simp at hx
   subst hx
   simp[fW,hp]
 | z::l,k+1,x,hx,hp,hb=>by
   have hz:=hb z (by simp)
   have ih:=uR (l:=l) (k:=k) (by simpa using hx) hp (fun y hy=>hb y (by simp[hy]))
   simp[fW,hz,ih]
   omega
theorem C1{X:Type}(p:X->Bool)(l:List X):(fW l p= -1/\∀y∈l,p y=false)\/ ∃k x,fW l p=(k:Nat)/\l[k]? =some x/\p x=true/\∀y∈l.take k,p y=false:=by
 induction l with
 | nil=>exact .inl ⟨rfl,by simp⟩
 | cons z l ih=>
   by_cases hz:p z=true
   ·exact .inr ⟨0,z,by simp[fW,hz],by simp,hz,by simp⟩
   ·have hz:p z=false:=by simpa using hz
    rcases ih with⟨h1,h2⟩|⟨k,x,h1,h2,h3,h4⟩
    ·refine .inl ⟨by simp[fW,hz,h1],fun y hy=>?_⟩
     rcases qxD.1 hy with rfl|hy
     ·exact hz
     ·exact h2 y hy
    ·refine .inr ⟨k+1,x,?_,by simpa using h2,h3,fun y hy=>?_⟩
     ·simp[fW,hz,h1];omega
     ·rw[qz6]at hy
      rcases qxD.1 hy with rfl|hy
      ·exact hz
      ·exact h4 y hy
theorem uQ{X:Type}(p:X->Bool)(l:List X):decide (0<=fW l p)=l.any p:=by
 rcases C1 p l with⟨h1,h2⟩|⟨k,x,h1,h2,h3,h4⟩
 ·have:l.any p=false:=by simpa using h2
  rw[h1,this];rfl
 ·have:l.any p=true:=qyN.2 ⟨x,bj h2,h3⟩
  rw[h1,this];simp
theorem SS.filter{l:List Fa}(h:SS l)(p:Fa->Bool):SS (l.filter p):=List.Pairwise.filter p h
theorem IsNorm.filter{l r:List Fa}(h:IsNorm l r)(p:Fa->Bool):IsNorm (l.filter p) (r.filter p):=⟨h.1.filter p,fun x=>by simp[h.2 x]⟩
theorem Zz(s:ByteArray)(p:Nat)(h:p < s.size):1<=(Utf8.decode s p).2/\p+ (Utf8.decode s p).2<=s.size:=by
 unfold Utf8.decode
 simp only[qxH,decide_eq_true_eq]
 repeat' split
 all_goals (try simp only[])
 all_goals omega
end Go.Gv

namespace Go.Gv
namespace G
variable {α:Type}
def fc(n:Nat)(f:Nat->α):α:=match n with
 | 0=>f 0
 | k+1=>f (k+1)
def bt(t:Nat):Nat:=Nat.shiftLeft 1 t
def oM:Operand->Nat
 | .tmp t=>bt t
 | _=>0
def qvX:List Operand->Nat
 | []=>0
 | o::l=>Nat.lor (oM o) (qvX l)
def qvK:CI->Nat
 | .op _ g c=>Nat.lor (qvX c.ops) (match g with|some (s,_)=>bt s|none=>0)
 | .frz _ _=>0
def rm(m t:Nat):Nat:=Nat.sub m (Nat.land m (bt t))
def qp6:List CI->Nat->Nat
 | [],o=>o
 | x::l,o=>fc (qp6 l o) fun o=>match x with
   | .op (some d) g c=>Nat.lor (rm o d) (qvK (.op (some d) g c))
   | .op none g c=>Nat.lor o (qvK (.op none g c))
   | .frz _ _=>o
def lk:List (Nat×Nat)->Nat->Nat
 | [],_=>0
 | (i,m)::l,k=>match Nat.beq i k with
  | true=>m
  | false=>lk l k
def qtz:Nat->(Nat->Nat)->Nat->Nat
 | 0,_,c=>c
 | n+1,f,c=>fc (Nat.lor c (f c)) fun d=>match Nat.beq d c with
   | true=>d
   | false=>qtz n f d
def lv(r:Nat):CC->List (Nat×Nat)->Nat->Nat
 | .skip,_,o=>o
 | .reg l,_,o=>qp6 l o
 | .regd p t,_,o=>fc (qp6 t o) (qp6 p)
 | .seq a b,e,o=>fc (lv r b e o) (lv r a e)
 | .ite c a b,e,o=>Nat.lor (Nat.lor (lv r a e o) (lv r b e o)) (oM c)
 | .block i b,e,o=>lv r b ((i,o)::e) o
 | .loop _ b,e,_=>qtz 50 (lv r b e) 0
 | .exit i,e,_=>lk e i
 | .ret,_,_=>r
 | .cut _ c,e,o=>lv r c e o
 | .keep _ _ c,e,o=>lv r c e o
def gt(W x t:Nat):Nat:=Nat.land (Nat.shiftRight x (Nat.mul t W)) (Nat.sub (bt W) 1)
def ad(W x t m:Nat):Nat:=Nat.lor x (Nat.shiftLeft m (Nat.mul t W))
def hO(W h:Nat):Operand->Nat
 | .tmp t=>gt W h t
 | _=>0
def qlG(W h:Nat):List Operand->Nat
 | []=>0
 | o::l=>Nat.lor (hO W h o) (qlG W h l)
def qdH:Nat->Nat->Nat->List Nat
 | 0,_,_=>[]
 | n+1,i,m=>match Nat.beq m 0 with
   | true=>[]
   | false=>match Nat.beq (Nat.land m 1) 1 with
     | true=>i::qdH n (i+1) (Nat.shiftRight m 1)
     | false=>qdH n (i+1) (Nat.shiftRight m 1)
def bl(m:Nat):List Nat:=qdH 1000 0 m
def ZU(f:Nat->Nat):List Nat->Nat
 | []=>0
 | i::l=>Nat.lor (f i) (ZU f l)
def qll(W:Nat)(f:Nat->Nat):List Nat->Nat->Nat
 | [],c=>c
 | i::l,c=>fc (ad W c i (f i)) (qll W f l)
def qwX(W:Nat)(x:CI)(h c:Nat)(K:Nat->Nat->α):α:=match x with
 | .frz _ _=>K h c
 | .op d _ o=>
   let put (m:Nat):α:=match d with
    | some d=>fc (ad W h d m) fun h=>K h c
    | none=>K h c
   let own:Nat:=match d with
    | some d=>bt d
    | none=>0
   let cal (s:Nat):α:=fc s fun s=>fc (qll W (fun i=>rm s i) (bl s) c) fun c=>match d with
    | some d=>fc (ad W h d s) fun h=>K h c
    | none=>K h c
   match o with
   | .alloc _ _=>put own
   | .nslice _ _=>put own
   | .mslice _ _ _=>put own
   | .mkslice _ _ _ _ _ _ _=>put own
   | .srange _=>put own
   | .appmk _ _ _ _ _ _ _=>put own
   | .m .mk _=>put own
   | .m .rng _=>put own
   | .m .len _=>K h c
   | .m (.upd _ _) (x::ys)=>fc (qlG W h ys) fun v=>fc (qll W (fun _=>v) (bl (hO W h x)) c) fun c=>K h c
   | .m (.look _ _ _ _ _) (x::_)=>put (ZU (gt W c) (bl (hO W h x)))
   | .m .entry (x::_)=>put (ZU (gt W c) (bl (hO W h x)))
   | .load _ _ x=>put (ZU (gt W c) (bl (hO W h x)))
   | .tbx _ x=>fc (qll W (fun _=>hO W h x) (bl own) c) fun c=>match d with
     | some d=>fc (ad W h d own) fun h=>K h c
     | none=>K h c
   | .box _ false x=>fc (qll W (fun _=>hO W h x) (bl own) c) fun c=>match d with
     | some d=>fc (ad W h d own) fun h=>K h c
     | none=>K h c
   | .store _ _ x y=>fc (hO W h y) fun v=>fc (qll W (fun _=>v) (bl (hO W h x)) c) fun c=>K h c
   | .append _ _ _ _ x _=>put (Nat.lor own (hO W h x))
   | .call _ xs=>cal (qlG W h xs)
   | .callb _ _ xs=>cal (qlG W h xs)
   | .callv f xs=>put (Nat.lor (qlG W h xs) (hO W h f))
   | o=>put (qlG W h o.ops)
def qpe(W:Nat):List CI->Nat->Nat->(Nat->Nat->α)->α
 | [],h,c,K=>K h c
 | x::l,h,c,K=>qwX W x h c fun h c=>qpe W l h c K
def qi0(W:Nat):CC->Nat->Nat->(Nat->Nat->α)->α
 | .reg l,h,c,K=>qpe W l h c K
 | .regd p t,h,c,K=>qpe W p h c fun h c=>qpe W t h c K
 | .seq a b,h,c,K=>qi0 W a h c fun h c=>qi0 W b h c K
 | .ite _ a b,h,c,K=>qi0 W a h c fun h c=>qi0 W b h c K
 | .block _ b,h,c,K=>qi0 W b h c K
 | .loop _ b,h,c,K=>qi0 W b h c K
 | _,h,c,K=>K h c
def fx(W:Nat)(cc:CC):Nat->Nat->Nat->(Nat->Nat->α)->α
 | 0,h,c,K=>K h c
 | n+1,h,c,K=>qi0 W cc h c fun h' c'=>match Nat.beq h h' with
   | false=>fx W cc n h' c' K
   | true=>match Nat.beq c c' with
     | false=>fx W cc n h' c' K
     | true=>K h c
def cl(W c:Nat):Nat->Nat->Nat
 | 0,s=>s
 | n+1,s=>fc (Nat.lor s (ZU (gt W c) (bl s))) fun t=>match Nat.beq t s with
   | true=>s
   | false=>cl W c n t
def qnp:Value->Bool
 | .int .i64 k=>decide (k=1)
 | _=>false
def qxh:List CI->Option (Nat×Nat×Nat)
 | [.op (some c) none (.cmp .lss (.tmp i) (.tmp n))]=>some (c,i,n)
 | _=>none
def qxi:List CI->Option (Nat×Nat)
 | [.op (some i2) none (.arith .add (.tmp i) (.const v)), .op (some j) none (.mv (.tmp j2))]=>match qnp v && Nat.beq i j && Nat.beq i2 j2 with
   | true=>some (i2,i)
   | false=>none
 | _=>none
def qtA(id:Nat):CC->Option (Nat×Nat×Nat×Nat×Nat)
 | .loop _ (.seq (.reg l) (.seq (.ite (.tmp c2) .skip (.exit id3)) (.seq (.block id2 _) (.reg l2))))=>match qxh l,qxi l2 with
   | some (c,i,n),some (i2,j)=>match Nat.beq id id3 && Nat.beq c c2 && Nat.beq i j with
     | true=>some (i,n,c,id2,i2)
     | false=>none
   | _,_=>none
 | _=>none
def qgT:CC->Nat
 | .seq a b=>qgT a+qgT b+1
 | .ite _ a b=>qgT a+qgT b
 | .block i b=>match qtA i b with
   | some _=>qgT b -3
   | none=>qgT b
 | .loop _ b=>qgT b
 | _=>0
def Pt:CC->Nat
 | .seq a b=>Pt a+Pt b
 | .ite _ a b=>Pt a+Pt b
 | .block i b=>match qtA i b with
   | some _=>Pt b -1
   | none=>Pt b
 | .loop _ b=>Pt b+1
 | _=>0
def uk:CC->CC
 | .keep _ _ c=>c
 | c=>c
def qxq(b:CC):CC:=match b with
 | .loop _ b=>match uk b with
   | .seq _ b=>match uk b with
     | .seq _ b=>match uk b with
       | .seq a _=>match uk a with
         | .block _ b=>b
         | _=> .skip
       | _=> .skip
     | _=> .skip
   | _=> .skip
 | _=> .skip
section
variable (f:Operand->Operand)(z:List Value->List Value)
def pC:COp->COp
 | .mv x=> .mv (f x)
 | .pick c x y=> .pick (f c) (f x) (f y)
 | .alloc el l=> .alloc el (z l)
 | .box el im x=> .box el im (f x)
 | .tbx el x=> .tbx el (f x)
 | .build l ps=> .build (z l) (ps.map fun p=>(p.1,p.2.1,f p.2.2))
 | .bslice el n ps=> .bslice el n (ps.map f)
 | .nslice el n=> .nslice el n
 | .mslice el n ps=> .mslice el n (ps.map f)
 | .load a s x=> .load a s (f x)
 | .store r s x y=> .store r s (f x) (f y)
 | .nilck x=> .nilck (f x)
 | .arith o x y=> .arith o (f x) (f y)
 | .cmp o x y=> .cmp o (f x) (f y)
 | .eql n a ks x y=> .eql n a ks (f x) (f y)
 | .scat x y=> .scat (f x) (f y)
 | .not x=> .not (f x)
 | .neg x=> .neg (f x)
 | .conv k x=> .conv k (f x)
 | .clo g l=> .clo g (l.map f)
 | .mkslice el n b a l x y=> .mkslice el n b a (z l) (f x) (f y)
 | .slice n x l h=> .slice n (f x) (l.map f) (h.map f)
 | .sslice x l h=> .sslice (f x) (l.map f) (h.map f)
 | .faddr o x=> .faddr o (f x)
 | .fld a s o x=> .fld a s o (f x)
 | .iaddr n x i=> .iaddr n (f x) (f i)
 | .sidx x i=> .sidx (f x) (f i)
 | .ext x i=> .ext (f x) i
 | .len x=> .len (f x)
 | .slen x=> .slen (f x)
 | .mm m l=> .mm m (l.map f)
 | .append r el n b x y=> .append r el n b (f x) (f y)
 | .appmk el n b a l x y=> .appmk el n b a (z l) (f x) (f y)
 | .clear n a l x=> .clear n a (z l) (f x)
 | .copy n x y=> .copy n (f x) (f y)
 | .cap x=> .cap (f x)
 | .srange x=> .srange (f x)
 | .snext x=> .snext (f x)
 | .sbytes x=> .sbytes (f x)
 | .bstr x=> .bstr (f x)
 | .rstr x=> .rstr (f x)
 | .mkif t x=> .mkif t (f x)
 | .m (.look ok a ka ks l) xs=> .m (.look ok a ka ks (z l)) (xs.map f)
 | .m o xs=> .m o (xs.map f)
 | .bad=> .bad
 | .call g l=> .call g (l.map f)
 | .callv g l=> .callv (f g) (l.map f)
 | .callb r g l=> .callb r g (l.map f)
def pL(fz:List (Nat×Nat)):List CI->List CI
 | []=>[]
 | .op (some d) g c::l=>match fz.lookup d with
   | some n=> .op (some d) g (pC f z c):: .frz d n::pL fz l
   | none=> .op (some d) g (pC f z c)::pL fz l
 | .op none g c::l=> .op none g (pC f z c)::pL fz l
 | .frz t n::l=> .frz t n::pL fz l
end
structure Opt where
 bx:List Nat:=[]
 fz:List (Nat×Nat):=[]
 cu:List Nat:=[]
 ke:List Nat:=[]
 kz:List Nat:=[]
abbrev PF:=(rg:Nat->Nat->Nat->Nat->Nat->CC->Nat->CC)->(sm:Nat->CC->CC->CC)->(kk:{_:Value} ->Operand)->(zk:IntKind->Value)->(ze zb zs zp zm zf:Value)->CC
section
variable (kk:{_:Value} ->Operand)(zk:IntKind->Value)(ze zb zs zp zm zf:Value)
def pO:Operand->Operand
 | .const v=> @kk v
 | .tmp t=> .tmp t
 | .global g=> .global g
 | .func f=> .func f
def pZ:List Value->List Value
 | []=>[]
 | v::l=>(match v with
   | .int k _=>zk k
   | .string _=>ze
   | .bool _=>zb
   | .slice _ _ _=>zs
   | .pointer _=>zp
   | .map _=>zm
   | _=>zf)::pZ l
end
section
variable (rg:Nat->Nat->Nat->Nat->Nat->CC->Nat->CC)(sm:Nat->CC->CC->CC)(f:Operand->Operand)(z:List Value->List Value)(op:Opt)(W h c r:Nat)
def qva(l:List Nat):List Nat:=op.ke.filter (fun x=>!l.contains x) ++l++op.kz
def an:CC->List (Nat×Nat)->Nat->Nat->Nat->Nat->CC
 | .skip,_,_,_,_,_=> .skip
 | .reg l,_,_,_,_,_=> .reg (pL f z op.fz l)
 | .regd p l,_,_,_,_,_=> .regd (pL f z op.fz p) (pL f z op.fz l)
 | .seq a b,e,o,m,k,s=>fc (lv r b e o) fun p=>fc (match s with|0=>m+1|_=>m) fun m1=>
   let a':=an a e p m1 k 0
   let b':=an b e o (m1+qgT a) (k+Pt a) (s -1)
   let b2:=match a with
    | .skip=>b'
    | _=> .keep (bl p) (qva op (bl (cl W c 5 (ZU (gt W h) (bl p))))) b'
   match s with
   | 0=>match op.cu.contains m with
     | true=>sm m a' b2
     | false=> .seq a' b2
   | _=> .seq a' b2
 | .ite q a b,e,o,m,k,_=> .ite (f q) (an a e o m k 0) (an b e o (m+qgT a) (k+Pt a) 0)
 | .block i b,e,o,m,k,_=>match qtA i b with
   | some (ii,n,c,id2,i2)=>rg i ii n c id2 (qxq (an b ((i,o)::e) o m k 3)) i2
   | none=> .block i (an b ((i,o)::e) o m k 0)
 | .loop _ b,e,_,m,k,s=>fc (qtz 50 (lv r b e) 0) fun o=>match s with
   | 0=> .loop k (an b e o m (k+1) 0)
   | _=> .loop 0 (an b e o m k s)
 | .exit i,_,_,_,_,_=> .exit i
 | .ret,_,_,_,_,_=> .ret
 | .cut _ c,e,o,m,k,s=>an c e o m k s
 | .keep _ _ c,e,o,m,k,s=>an c e o m k s
end
def qhz(W:Nat):List Nat->Nat
 | []=>0
 | t::l=>ad W (qhz W l) t (bt t)
def qje:List ResultVar->Nat
 | []=>0
 | .tmp t::l=>Nat.lor (bt t) (qje l)
 | .cell t _::l=>Nat.lor (bt t) (qje l)
def qwn(P:Program)(neg:Bool)(t:TypeId)(x y:Operand):COp:=match P.underlying t with
 | some (.struct fs)=> .eql neg true (fs.toList.map fun f=>(kW P f.type).getD .int) x y
 | _=> .eql neg false [(kW P t).getD .int] x y
def quK(P:Program)(im:List Nat)(ops:Array Oper)(o:Oper):CI:= .op o.dst ((EJ ops o).getD none) (match o.op with
 | .binOp .eql t x y _=>qwn P false t x y
 | .binOp .neq t x y _=>qwn P true t x y
 | _=>(cz P im o).getD .bad)
def cC(P:Program)(im:List Nat):Code->CC
 | .region _ ops false=> .reg (ops.toList.map (quK P im ops))
 | .region _ ops true=> .regd (Ws ops (ops.toList.map (quK P im ops)) (bS ops)) ((ops.toList.map (quK P im ops)).drop (bS ops))
 | .seq a b=> .seq (cC P im a) (cC P im b)
 | .cond c a b=> .ite c (cC P im a) (cC P im b)
 | .block id b=> .block id (cC P im b)
 | .loop b=> .loop 0 (cC P im b)
 | .exit id=> .exit id
 | .ret=> .ret
 | _=> .skip
def gn(P:Program)(fn:Func)(im:List Nat)(op:Opt):PF:=fun rg sm kk zk ze zb zs zp zm zf=>match fn.body with
 | none=> .skip
 | some code=>fc (qhz fn.ntmps op.bx) fun h0=>fx fn.ntmps (cC { P with cutTypes:= #[] } im code) 6 h0 0 fun h c=>fc (qje fn.results.toList) fun r=>
   an rg sm (pO @kk) (pZ zk ze zb zs zp zm zf) op fn.ntmps h c r (cC { P with cutTypes:= #[] } im code) [] r 0 1 0
def ap(c:PF):CC:=c xE Ym (fun {v} => .const v) (fun k=> .int k 0) (.string ⟨#[]⟩) (.bool false) (.slice none 0 0) (.pointer none) (.map none) .nilFunc
end G
end Go.Gv

namespace Go.Gv
open Go.Proofs
abbrev oA(d s:Nat):CI:= .op (some d) none (.mv (.tmp s))
abbrev oB(d:Nat)(c:COp):CI:= .op (some d) none c
abbrev oC(d w s:Nat):CI:= .op (some d) none (.load false w (.tmp s))
abbrev oD(d w s:Nat):CI:= .op (some d) none (.load true w (.tmp s))
abbrev oE(d n s:Nat):CI:= .op (some d) none (.faddr n (.tmp s))
abbrev oF(w a b:Nat):CI:= .op none none (.store none w (.tmp a) (.tmp b))
abbrev oG(d s:Nat):CI:= .op (some d) none (.nilck (.tmp s))
abbrev oH(d g:Nat)(c:COp):CI:= .op (some d) (some (g,true)) c
abbrev oI(d g:Nat)(c:COp):CI:= .op (some d) (some (g,false)) c
abbrev oT(n:Nat):Operand:= .tmp n
abbrev oK(v:Value):Operand:= .const v
abbrev oN(n:Int):Operand:= .const (.int .i64 n)
abbrev oS(b:ByteArray):Operand:= .const (.string b)
abbrev oi:Value:= .int .i64 0
abbrev oe:Value:= .string ⟨#[]⟩
abbrev ob:Value:= .bool false
abbrev on:Value:= .slice none 0 0
abbrev oZ(d f:Nat)(l:List Operand):CI:= .op (some d) none (.call f l)
abbrev oX(l:List CI)(a b:List Nat)(x:CC):CC:= .seq (.reg l) (.keep a b x)
abbrev tM:Nat:=10
abbrev Pk:Nat:=12
abbrev rH:Nat:=13
abbrev tK:Nat:=14
abbrev ip:Nat:=15
abbrev C7:Nat:=17
abbrev vP:Nat:=18
abbrev iq:Nat:=19
abbrev vH:Nat:=20
abbrev fZ:Nat:=21
abbrev uW:Nat:=23
abbrev vM:Nat:=31
abbrev ya:Nat:=32
abbrev nS:Nat:=33
abbrev ca:Nat:=34
abbrev ye:Nat:=35
abbrev pQ:Nat:=36
abbrev AL:Nat:=37
abbrev ez:Nat:=38
abbrev rG:Nat:=39
abbrev kq:Nat:=40
abbrev yh:Nat:=41
abbrev AC:Nat:=44
abbrev vO:Nat:=45
abbrev yj:Nat:=46
abbrev jd:Nat:=47
abbrev jC:Nat:=48
abbrev vN:Nat:=49
abbrev qV:Nat:=50
abbrev qC:Nat:=57
abbrev lr:Nat:=58
abbrev tL:Nat:=59
abbrev KC:Nat:=60
abbrev Pj:Nat:=61
abbrev yi:Nat:=62
abbrev nO:Nat:=63
abbrev tI:Nat:=64
abbrev tJ:Nat:=65
abbrev AG:Nat:=66
abbrev jF:Nat:=67
abbrev tG:Nat:=68
abbrev tE:Nat:=69
abbrev qU:Nat:=70
abbrev dX:Nat:=71
abbrev bT:Nat:=72
abbrev dW:Nat:=73
abbrev fw:Nat:=74
abbrev aL:Nat:=75
abbrev nQ:Nat:=76
abbrev lw:Nat:=77
abbrev dE:Nat:=78
abbrev rJ:Nat:=79
abbrev tH:Nat:=80
abbrev cZ:Nat:=81
abbrev da:Nat:=82
abbrev mO:Nat:=83
abbrev de:Nat:=86
abbrev C8:Nat:=95
abbrev pM:Nat:=96
abbrev dD:Nat:=97
abbrev nJ:Nat:=99
abbrev vJ:Nat:=100
abbrev nK:Nat:=102
abbrev ig:Nat:=103
abbrev cN:Nat:=105
abbrev rK:Nat:=106
abbrev jH:Nat:=107
abbrev lz:Nat:=110
abbrev eG:Nat:=111
abbrev cV:Nat:=112
abbrev cF:Nat:=113
abbrev fq:Nat:=114
abbrev tF:Nat:=115
abbrev cY:Nat:=116
abbrev bw:Nat:=117
abbrev km:Nat:=118
abbrev aQ:Nat:=119
abbrev qD:Nat:=120
abbrev eA:Nat:=121
abbrev ga:Nat:=122
abbrev cg:Nat:=123
abbrev nV:Nat:=124
abbrev ck:Nat:=125
abbrev nP:Nat:=126
abbrev il:Nat:=127
abbrev lu:Nat:=128
abbrev dN:Nat:=129
abbrev fu:Nat:=130
abbrev iZ:Nat:=131
abbrev gO:Nat:=132
abbrev ku:Nat:=133
abbrev lY:Nat:=134
abbrev rF:Nat:=136
abbrev uU:Nat:=138
abbrev Db:Nat:=139
abbrev tD:Nat:=148
abbrev vI:Nat:=149
abbrev AB:Nat:=150
abbrev pJ:Nat:=151
abbrev ij:Nat:=154
abbrev ko:Nat:=155
abbrev aJ:Nat:=156
abbrev io:Nat:=157
abbrev C9:Nat:=158
abbrev vL:Nat:=159
abbrev pN:Nat:=160
abbrev yb:Nat:=161
abbrev AD:Nat:=162
abbrev vK:Nat:=163
abbrev AH:Nat:=164
abbrev AE:Nat:=165
abbrev bZ:Nat:=166
abbrev eq:Nat:=167
abbrev cy:Nat:=168
abbrev jG:Nat:=169
abbrev nT:Nat:=170
abbrev nU:Nat:=171
abbrev qE:Nat:=172
abbrev bG:Nat:=173
abbrev tB:Nat:=174
abbrev cq:Nat:=175
abbrev cX:Nat:=176
abbrev fb:Nat:=177
abbrev ep:Nat:=178
abbrev ew:Nat:=179
abbrev pR:Nat:=180
abbrev bA:Nat:=181
abbrev bU:Nat:=182
abbrev yg:Nat:=183
abbrev uV:Nat:=184
abbrev pP:Nat:=185
abbrev nR:Nat:=195
abbrev AK:Nat:=199
abbrev pK:Nat:=207
abbrev kU:Nat:=208
abbrev ft:Nat:=210
abbrev yf:Nat:=211
abbrev jB:Nat:=212
abbrev AF:Nat:=213
abbrev uT:Nat:=214
abbrev sy:Nat:=215
abbrev Da:Nat:=216
abbrev yd:Nat:=217
abbrev yc:Nat:=218
abbrev jc:Nat:=219
abbrev qB:Nat:=220
abbrev eo:Nat:=221
abbrev bN:Nat:=222
abbrev nX:Nat:=224
abbrev dV:Nat:=225
abbrev eV:Nat:=226
abbrev ja:Nat:=227
abbrev dh:Nat:=228
abbrev fY:Nat:=238
abbrev nM:Nat:=246
abbrev nL:Nat:=248
abbrev nN:Nat:=252
abbrev AI:Nat:=253
abbrev AN:Nat:=254
abbrev jD:Nat:=255
abbrev kj:Nat:=257
abbrev aG:Nat:=261
abbrev vR:Nat:=262
abbrev nW:Nat:=263
abbrev vQ:Nat:=264
abbrev mf:Nat:=265
abbrev eP:Nat:=266
abbrev ct:Nat:=267
abbrev AJ:Nat:=269
abbrev iN:Nat:=275
abbrev bi:Nat:=276
abbrev qz:Nat:=277
abbrev gN:Nat:=278
abbrev iY:Nat:=279
abbrev nI:Nat:=285
abbrev vG:Nat:=286
abbrev rI:Nat:=287
abbrev lZ:Nat:=288
abbrev bV:Nat:=289
abbrev gM:Nat:=290
abbrev fX:Nat:=291
abbrev iL:Nat:=298
abbrev cS:Nat:=299
abbrev nH:Nat:=300
abbrev qA:Nat:=303
abbrev cL:Nat:=304
abbrev dc:Nat:=305
abbrev kR:Nat:=306
abbrev kT:Nat:=313
abbrev pH:Nat:=316
abbrev AM:Nat:=317
abbrev kV:Nat:=318
abbrev pI:Nat:=319
abbrev pS:Nat:=320
abbrev AA:Nat:=326
abbrev jE:Nat:=327
abbrev gL:Nat:=328
abbrev dM:Nat:=329
abbrev cO:Nat:=331
abbrev ei:Nat:=332
abbrev iM:Nat:=335
abbrev tC:Nat:=336
abbrev kS:Nat:=339
abbrev dt:Nat:=341
abbrev iO:Nat:=342
abbrev ee:Nat:=350
abbrev cM:Nat:=351
abbrev mg:Nat:=352
abbrev fN:Nat:=355
abbrev eh:Nat:=356
abbrev dU:Nat:=358
abbrev pT:Nat:=359
abbrev cE:Nat:=360
abbrev iB:Nat:=3
abbrev qI:Nat:=5
abbrev au:Nat:=9
abbrev IV:Nat:=21
abbrev mG:Nat:=28
abbrev DS:Nat:=36
abbrev eL:Nat:=39
abbrev wy:Nat:=55
abbrev Bc:Nat:=71
abbrev MA:Nat:=87
abbrev mF:Nat:=109
abbrev uH:Nat:=117
abbrev iC:Nat:=163
abbrev DT:Nat:=166
abbrev ek:Nat:=196
abbrev zL:Nat:=199
abbrev eZ:Nat:=241
abbrev cJ:Nat:=250
abbrev wx:Nat:=314
theorem mixed:Tryz.prog.follows .mixedOrders=true:=by kernel_rfl
abbrev gq(f:Func)(im:List Nat)(op:G.Opt)(c:CC)(_:G.ap (G.gn Tryz.prog f im op)=c:=by conv=>lhs; (conv=>arg 1;reduce);dsimp only[G.ap]):CC:=c
theorem fo {f : Nat} {im : List Nat} {cc : CC} {rs : List aj} {N : Nat} (h : ((Tryz.prog.funcs[f]?).bind fun g => if g.name == "runtime.NumGoroutine" then none else g.body.bind fun c => (aB Tryz.prog im g.ntmps c).bind fun cc => (g.results.toList.mapM (fH Tryz.prog)).bind fun rs => some (g.ntmps, cc, rs)) = some (N, bq cc, rs) := by kernel_rfl) : ak Tryz.prog f im cc rs N := qnF mixed h
end Go.Gv

namespace Go.Gv
open Go.Proofs
def K1:CC:=gq Tryz.f23 [] {} _
def Jz:List aj:=[.tmp 4]
theorem qbP:ak Tryz.prog uW [] K1 Jz 16:=fo
def yx:CC:=gq Tryz.f138 [] {} _
def xw:List aj:=[.tmp 2]
theorem OQ:ak Tryz.prog uU [] yx xw 21:=fo
def AX:CC:=gq Tryz.f139 [] {} _
def zW:List aj:=[.tmp 2]
theorem Rq:ak Tryz.prog Db [] AX zW 17:=fo
def pW:CC:=gq Tryz.f86 [] {} _
def ph:List aj:=[.tmp 2]
theorem FO:ak Tryz.prog de [] pW ph 29:=fo
def ou:CC:=gq Tryz.f238 [] {} _
def nj:List aj:=[.tmp 2]
theorem En:ak Tryz.prog fY [] ou nj 25:=fo
def yz:CC:=gq Tryz.f199 [] { cu:=[2,7,9] } _
def xy:List aj:=[.tmp 2]
theorem OS:ak Tryz.prog AK [] yz xy 81:=fo
def yy:CC:=gq Tryz.f269 [] {} _
def xx:List aj:=[.tmp 2]
theorem OR:ak Tryz.prog AJ [] yy xx 16:=fo
def yw:CC:=gq Tryz.f253 [] {} _
def xu:List aj:=[.tmp 2, .tmp 3]
theorem OP:ak Tryz.prog AI [] yw xu 69:=fo
def AV:CC:=gq Tryz.f158 [] {} _
def zU:List aj:=[.tmp 2]
theorem Rm:ak Tryz.prog C9 [] AV zU 4:=fo
def tY:CC:=gq Tryz.f159 [] {} _
def td:List aj:=[.tmp 4]
theorem JQ:ak Tryz.prog vL [] tY td 13:=fo
def iT:CC:=gq Tryz.f114 [2,3] {} _
def iJ:List aj:=[.tmp 4]
theorem zo:ak Tryz.prog fq [2,3] iT iJ 122:=fo
def ms:CC:=gq Tryz.f63 [] { cu:=[6] } _
def lQ:List aj:=[.tmp 2]
theorem CA:ak Tryz.prog nO [] ms lQ 47:=fo
def yt:CC:=gq Tryz.f213 [2] {} _
def xq:List aj:=[.tmp 4]
theorem OM:ak Tryz.prog AF [2] yt xq 17:=fo
def yq:CC:=gq Tryz.f214 [] {} _
def xo:List aj:=[.tmp 2]
theorem OK:ak Tryz.prog uT [] yq xo 42:=fo
def vV:CC:=gq Tryz.f215 [3] {} _
def vo:List aj:=[.tmp 6]
theorem L3:ak Tryz.prog sy [3] vV vo 32:=fo
def AW:CC:=gq Tryz.f216 [] {} _
def zV:List aj:=[.tmp 4]
theorem Ro:ak Tryz.prog Da [] AW zV 24:=fo
def vY:CC:=gq Tryz.f217 [2] {} _
def vr:List aj:=[.tmp 4]
theorem L6:ak Tryz.prog yd [2] vY vr 27:=fo
def vX:CC:=gq Tryz.f218 [] {} _
def vq:List aj:=[.tmp 4]
theorem L5:ak Tryz.prog yc [] vX vq 27:=fo
def ot:CC:=gq Tryz.f160 [] {} _
def ni:List aj:=[.tmp 2, .tmp 3]
theorem Em:ak Tryz.prog pN [] ot ni 42:=fo
def vW:CC:=gq Tryz.f161 [1] {} _
def vp:List aj:=[.tmp 2, .tmp 3]
theorem L4:ak Tryz.prog yb [1] vW vp 48:=fo
def yp:CC:=gq Tryz.f162 [1] {} _
def xn:List aj:=[.tmp 2, .tmp 3]
theorem OJ:ak Tryz.prog AD [1] yp xn 96:=fo
def tX:CC:=gq Tryz.f163 [1] {} _
def tc:List aj:=[.tmp 2, .tmp 3]
theorem JP:ak Tryz.prog vK [1] tX tc 143:=fo
def yv:CC:=gq Tryz.f164 [3] { cu:=[14,17,20,26] } _
def xt:List aj:=[.tmp 4, .tmp 5]
theorem OO:ak Tryz.prog AH [3] yv xt 128:=fo
def yr:CC:=gq Tryz.f165 [1] { cu:=[2,5,11,14] } _
def xp:List aj:=[.tmp 2, .tmp 3]
theorem OL:ak Tryz.prog AE [1] yr xp 86:=fo
def rQ:CC:=gq Tryz.f115 [1] {} _
def ro:List aj:=[.tmp 2, .tmp 3, .tmp 4]
theorem HL:ak Tryz.prog tF [1] rQ ro 74:=fo
def yu:CC:=gq Tryz.f66 [1] {} _
def xr:List aj:=[.tmp 2]
theorem ON:ak Tryz.prog AG [1] yu xr 14:=fo
def iS:CC:=gq Tryz.f67 [] {} _
def iI:List aj:=[.tmp 4]
theorem zn:ak Tryz.prog jF [] iS iI 26:=fo
def rR:CC:=gq Tryz.f68 [2] {} _
def rp:List aj:=[.tmp 4]
theorem HM:ak Tryz.prog tG [2] rR rp 21:=fo
def rP:CC:=gq Tryz.f69 [1] {} _
def rk:List aj:=[.tmp 2, .tmp 3]
theorem HK:ak Tryz.prog tE [1] rP rk 32:=fo
def vZ:CC:=gq Tryz.f35 [2,3,2101010,1100097,2108010,1107104,2145010,1144141,2182010,1181178] { cu:=[7,13,19,26,33,48] } _
def vt:List aj:=[.cell 4 true 7, .tmp 5]
theorem L7:ak Tryz.prog ye [2,3,2101010,1100097,2108010,1107104,2145010,1144141,2182010,1181178] vZ vt 273:=fo
def wR:CC:=gq Tryz.f50 [] {} _
def wE:List aj:=[.tmp 2]
theorem M1:ak Tryz.prog qV [] wR wE 8:=fo
def Gr:CC:=gq Tryz.f60 [] {} _
def FH:List aj:=[.tmp 2]
theorem YF:ak Tryz.prog KC [] Gr FH 7:=fo
def KZ:CC:=gq Tryz.f61 [] {} _
def Jw:List aj:=[.tmp 2]
theorem qbN:ak Tryz.prog Pj [] KZ Jw 7:=fo
def wj:CC:=gq Tryz.f62 [] {} _
def vz:List aj:=[.tmp 2]
theorem Mf:ak Tryz.prog yi [] wj vz 7:=fo
def rZ:CC:=gq Tryz.f59 [] {} _
def rC:List aj:=[.tmp 0]
theorem HU:ak Tryz.prog tL [] rZ rC 5:=fo
def ug:CC:=gq Tryz.f34 [] {} _
def zX:List aj:=[.tmp 4]
theorem JZ:ak Tryz.prog ca [] ug zX 35:=fo
def K0:CC:=gq Tryz.f12 [999] {} _
def Jy:List aj:=[.tmp 2]
theorem qbO:ak Tryz.prog Pk [999] K0 Jy 11:=fo
def mz:CC:=gq Tryz.f33 [100026,2067008] { cu:=[3,5,12,19,22,28] } _
def lU:List aj:=[.cell 6 true 7]
theorem CG:ak Tryz.prog nS [100026,2067008] mz lU 177:=fo
def rV:CC:=gq Tryz.f64 [1061061,1096061,2063001,2098001] { bx:=[1],cu:=[12] } _
def rv:List aj:=[]
theorem HQ:ak Tryz.prog tI [1061061,1096061,2063001,2098001] rV rv 100:=fo
def rX:CC:=gq Tryz.f65 [1038027,1034027,1031027,2076042,2075040] { bx:=[1],cu:=[10,14] } _
def rA:List aj:=[]
theorem HS:ak Tryz.prog tJ [1038027,1034027,1031027,2076042,2075040] rX rA 102:=fo
def qi:CC:=gq Tryz.f13 [] {} _
def py:List aj:=[.cell 4 true 7]
theorem FY:ak Tryz.prog rH [] qi py 36:=fo
def wk:CC:=gq Tryz.f46 [] {} _
def vA:List aj:=[.tmp 2]
def mB:CC:=gq Tryz.f47 [] {} _
def lW:List aj:=[.tmp 4]
def qk:CC:=gq Tryz.f106 [] {} _
def pA:List aj:=[.tmp 2]
def qj:CC:=gq Tryz.f79 [2] {} _
def pz:List aj:=[.tmp 4]
def vU:CC:=gq Tryz.f32 [2] {} _
def vn:List aj:=[.cell 4 true 4, .tmp 5]
end Go.Gv

namespace Go.Gv
open Cod (enc dec)
variable {S:Nat->Spc}
abbrev yM:Spc:=aI (a1 Int) (fun _=>True) enc fun _ y=>y=false
theorem HA:aq qk pA S (a1 Int) (fun _=>True) enc fun _ y=>y=false:=by
 rintro x -
 simp[qk,pA]
def zw(a b:Int):Int:=if a < b then -1 else if b < a then 1 else 0
abbrev mV:Spc:=aI (a2 Int Int) (fun _=>True) enc fun x y=>y=zw x.1 x.2
theorem DB(h1:S rK=yM):aq mB lW S (a2 Int Int) (fun _=>True) enc fun x y=>y=zw x.1 x.2:=by
 rintro⟨a,b⟩ -
 simp[mB,lW,h1,zw]
 refine⟨fun h1 h2=>by omega,fun h1=>⟨fun h2=>?_,fun h2=>?_⟩⟩
 ·rw[if_neg (by omega),if_pos h2]
 ·rw[if_neg (by omega),if_neg (by omega)]
abbrev D6:Spc:=aI (a1 (List Int)) (fun _=>True) enc fun x y=>y=(x.find? (· ≠0)).getD 0
theorem N1:aq wk vA S (a1 (List Int)) (fun _=>True) enc fun x y=>y=(x.find? (· ≠0)).getD 0:=by
 rintro l -
 simp[wk,vA]
 intro _
 refine ai (X:=Unit) [3,6] [] l.length (fun k _=>(l.find? fun x=>!decide (x=0))=(l.drop k).find? fun x=>!decide (x=0)) (fun _=>[]) (fun _=>[]) () (by simp) (by simp) (by omega) (by simp) (by simp) (by simp) (by simp) (by simp) ?_ ?_
 ·intro k _ hk hP
  simp
  refine⟨hk,fun x hx=>?_⟩
  rw[gP hx]at hP
  refine⟨fun h=>?_,fun h=>?_⟩
  ·rw[hP];simp[h]
  ·rw[hP];simp[h]
 ·intro _ hP
  rw[qyz]at hP
  simp[hP]
def F6(x n:Int):Int:=if n < 1 then 0 else if x.tmod n < 0 then x.tmod n+n else x.tmod n
abbrev s_m_Mod:Spc:=aI (a2 Int Int) (fun x=>x.2<=1000000000) enc fun x y=>y=F6 x.1 x.2
theorem qeW:aq K1 Jz S (a2 Int Int) (fun x=>x.2<=1000000000) enc fun x y=>y=F6 x.1 x.2:=by
 rintro⟨a,b⟩ hl
 simp at hl
 simp[K1,Jz,F6]
 refine⟨fun h1 h2=>by omega,fun h1=>⟨by omega,fun h2=>⟨?_,?_⟩,fun h2=>?_⟩⟩
 ·have:=Int.lt_tmod_of_pos a (b:=b) (by omega)
  simp[InR];omega
 ·rw[if_neg (by omega),if_pos h2]
 ·rw[if_neg (by omega),if_neg (by omega)]
end Go.Gv
