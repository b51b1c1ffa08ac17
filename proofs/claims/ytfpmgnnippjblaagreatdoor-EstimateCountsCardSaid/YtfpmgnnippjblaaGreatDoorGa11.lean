/- L1 -/
import Derived.Test.YtfpmgnnippjblaaGreatDoorProg
import Derived.Laws.RangeString
import Derived.Test.YtfpmgnnippjblaaGreatDoorGa10
set_option linter.all false
set_option maxRecDepth 100000
set_option maxHeartbeats 0
open Bool renaming forall_bool → fB', exists_bool → eB'
namespace Go.Gv
section
def au{α:Type}{l:List α}{k:Nat}{a:α}(h:l[k]? =some a):l.take (k+1)=l.take k++ [a]:=by
 grind [List.take_add_one]
def cT{α:Type}{l:List α}{k:Nat}{a:α}(h:l[k]? =some a):l.drop k=a::l.drop (k+1):=by
 grind [List.drop_eq_getElem_cons]
def aP{α:Type}{l:List α}{k:Nat}{a:α}(h:l[k]? =some a):a∈l:=qBf h
def aY{α:Type}{l:List α}{k:Nat}(h:k<l.length):∃a,l[k]? =some a:=⟨l[k],qBe h⟩
def Qq(a b:Span):Prop:=a.b<b.b\/a.b=b.b/\a.e<b.e
instance (a b:Span):Decidable (Qq a b):=by unfold Qq;infer_instance
theorem Lj(a:Span):¬Qq a a:=by grind [Qq]
theorem Qp{a b c:Span}(h:Qq a b)(k:Qq b c):Qq a c:=by grind [Qq]
theorem Span.ext'{a b:Span}(h:a.b=b.b)(k:a.e=b.e):a=b:=by cases a;simp_all
theorem SR(a b:Span):Qq a b\/a=b\/Qq b a:=by
 by_cases h:a.b=b.b/\a.e=b.e;grind [Span.ext'];grind [Qq]
def SS(l:List Span):Prop:=l.Pairwise Qq
def SS.nil:SS []:=List.Pairwise.nil
def Y7:∀{a b:List Span},SS a->SS b->(∀x,x∈a↔x∈b)->a=b
 | [], [],_,_,_=>rfl
 | [],y::b,_,_,h=>by have:=(h y).2 (by simp);grind
 |x::a, [],_,_,h=>by have:=(h x).1 (by simp);grind
 | x::a,y::b,k,hb,h=>by
   have c:=qCy.1 k;have d:=qCy.1 hb;have j:x=y:=by
    rcases qBt.1 ((h x).1 (by simp))with e|e;omega
    ·rcases qBt.1 ((h y).2 (by simp))with e2|e2;grind;grind [Qp,Lj]
   subst j;have:a=b:=Y7 c.2 d.2 λz=>by
    grind [Lj]
   grind
def IsNorm(l r:List Span):Prop:=SS r/\∀x,x∈r↔x∈l
def IsNorm.eq{l a r r':List Span}(h:IsNorm l r)(k:IsNorm a r')(hl:∀x,x∈l↔x∈a):r=r':=
 Y7 h.1 k.1 λx=>(h.2 x).trans ((hl x).trans (k.2 x).symm)
def IsNorm.nil:IsNorm [] []:=⟨SS.nil,λ_=>qCE⟩
def IsNorm.congr{l a r:List Span}(h:IsNorm l r)(hl:∀x,x∈l↔x∈a):IsNorm a r:=⟨h.1,λx=>(h.2 x).trans (hl x)⟩
def qeI:∀{r l:List Span},SS r->(∀x∈r,x∈l)->r.length<=l.length
 | [],l,_,_=>qBB _
 | x::r,l,h,hl=>by
   have a:=qCy.1 h;have b:=hl x (by simp);have:=qeI (l:=l.erase x) a.2 λy c=>(List.mem_erase_of_ne (λ(e:y=x)=>Lj x (by grind))).2 (hl y (by grind))
   grind
def IsNorm.len{l r:List Span}(h:IsNorm l r):r.length<=l.length:=qeI h.1 λx a=>(h.2 x).1 a
def IsNorm.same{l a r:List Span}(h:IsNorm l r)(hl:∀x,x∈a↔x∈l):IsNorm a r:=⟨h.1,λx=>(h.2 x).trans (hl x).symm⟩
def nK{X:Type} :List X->(X->Bool)->Int
 | [],_=> -1
 |x::l,p=>if p x then 0 else if nK l p< 0 then -1 else nK l p+1
theorem kH{X:Type}{p:X->Bool} :∀{l:List X},(∀y∈l,p y=false)->nK l p= -1
 | [],_=>rfl
 | x::l,h=>by
   have:=kH (l:=l) (λy a=>h y (by grind));grind [nK]
theorem sR{X:Type}{p:X->Bool} :∀{l:List X} {k:Nat} {x:X},l[k]? =some x->p x=true->(∀y∈l.take k,p y=false)->nK l p=k
 | [],k,x,a,_,_=>by grind
 | z::l,0,x,a,hp,_=>by
   grind [nK]
 | z::l,k+1,x,a,hp,hb=>by
   have hz:=hb z (by simp);have b:=sR (l:=l) (k:=k) (by grind) hp (λy c=>hb y (by grind));grind [nK]
theorem Nd{X:Type}(p:X->Bool)(l:List X):(nK l p= -1/\∀y∈l,p y=false)\/ ∃k x,nK l p=(k:Nat)/\l[k]? =some x/\p x=true/\∀y∈l.take k,p y=false:=by
 induction l with
 |nil=>exact .inl ⟨rfl,by simp⟩
 | cons z l a=>
   by_cases hz:p z=true
   ·exact .inr ⟨0,z,by grind [nK],by simp,hz,by simp⟩
   ·have hz:p z=false:=by grind
    rcases a with⟨h1,h2⟩|⟨k,x,h1,h2,h3,h4⟩
    grind [nK]
    ·refine .inr ⟨k+1,x,?_,by grind,h3,λy b=>?_⟩;grind [nK];grind
theorem Cb{X:Type}(p:X->Bool)(l:List X):decide (0<=nK l p)=l.any p:=by
 grind [Nd]
def qo8(r:List Span)(x:Span):List Span:=if r.getLast? =some x then r else r++ [x]
def uN(l:List Span):List Span:=l.foldl qo8 []
theorem Ci(l:List Span)(x:Span):uN (l++ [x])=qo8 (uN l) x:=by simp[uN]
def ta{α:Type}{P:List α->Prop}(h0:P [])(hs:∀l x,P l->P (l++ [x])):∀l,P l:=by
 intro l;have:∀n (l:List α),l.length=n->P l:=by
  intro n
  induction n with
  |zero=>grind
  | succ n b=>
    intro l hl;have a:l≠ []:=by grind
    rw[<-List.dropLast_concat_getLast a];grind
 grind
def QM(l:List Span):(uN l).getLast? =l.getLast?:=by
 refine ta (P:=λl=>(uN l).getLast? =l.getLast?) rfl (λl x a=>?_) l;grind [Ci,qo8]
def XG(l:List Span):∀x,x∈uN l↔x∈l:=by
 refine ta (P:=λl=>∀x,x∈uN l↔x∈l) (λx=>qCE) (λl y a x=>?_) l;grind [Ci,qo8]
def WS(l:List Span):Prop:=l.Pairwise λa b=>¬Qq b a
def qkF{l:List Span}(h:WS l):SS (uN l):=by
 revert h;refine ta (P:=λl=>WS l->SS (uN l)) (λ_=>SS.nil) (λl x q h=>?_) l;have k:=qCf.1 h;have hs:=q k.1;rw[Ci,qo8];split;omega
 ·rename_i c;refine qCf.2 ⟨hs,by simp,λa r b hb=>?_⟩;simp at hb;subst hb;have d:=(XG l a).1 r;rcases SR a b with h1|h1|h1;omega
  ·exfalso;subst h1;apply c;rw[QM];obtain⟨s,p,rfl⟩:=qDl d;have h3:=(qCf.1 k.1).2.1;have h4:=qCy.1 h3;cases j:p.getLast? with
   | none=>
     grind
   | some z=>
     have hz:z∈p:=List.mem_of_getLast? j;grind [SR]
  grind
def SS.filter{l:List Span}(h:SS l)(p:Span->Bool):SS (l.filter p):=List.Pairwise.filter p h
def IsNorm.filter{l r:List Span}(h:IsNorm l r)(p:Span->Bool):IsNorm (l.filter p) (r.filter p):=⟨h.1.filter p,λx=>by simp[h.2 x]⟩
def qeN(l:List Span)(i:Nat)(v:Span):(l.map Cod.enc).set i (.agg [.v (.int .i64 v.b), .v (.int .i64 v.e)])=(l.set i v).map Cod.enc:=by
 simp
def NE{l:List Span}(h:l.length< 2):uN l=l:=by
 match l,h with
 | [],_=>rfl
 | [x],_=>rfl
 |x::y::l,h=>grind
theorem qho{l:List Span}(h:1<=l.length):uN (l.take 1)=l.take 1:=NE (by grind)
def QL{l:List Span}{j:Nat}{x y:Span}(b:1<=j)(a:l[j]? =some x)(c:l[j -1]? =some y):uN (l.take (j+1))=if x=y then uN (l.take j)else uN (l.take j) ++ [x]:=by
 rw[au a,Ci,qo8,QM];grind
def qv{α:Type}{cur l:List α}{k m:Nat}{x:α}(hk:k<cur.length)(a:k<m)(b:cur.drop m=l.drop m):
 (cur.set k x).take (k+1)=cur.take k++ [x]/\(cur.set k x).drop m=l.drop m:=by
 grind [List.take_add_one,List.take_set_of_le,List.drop_set_of_lt]
def Ln{α:Type}{a b:List α}{m i:Nat}(h:a.drop m=b.drop m)(hi:m<=i):a[i]? =b[i]?:=by
 have:=congrArg (λl=>l[i -m]?) h;grind
def tc{α:Type}{a b:List α}{m i:Nat}(h:a.drop m=b.drop m)(hi:m<=i):a.drop i=b.drop i:=by
 have:=congrArg (λl=>l.drop (i -m)) h;grind [List.drop_drop]
def qdG(s:ByteArray)(p:Nat)(h:p<s.size):1<=(Utf8.decode s p).2/\p+ (Utf8.decode s p).2<=s.size:=by
 unfold Utf8.decode;grind
namespace G
variable {α:Type}
def fc(n:Nat)(f:Nat->α):α:=match n with
 | 0=>f 0
 |k+1=>f (k+1)
def bt(t:Nat):Nat:=Nat.shiftLeft 1 t
def oM:Operand->Nat
 | .tmp t=>bt t
 | _=>0
def qzv:List Operand->Nat
 | []=>0
 |o::l=>Nat.lor (oM o) (qzv l)
def qzk:CI->Nat
 | .op _ g c=>Nat.lor (qzv c.ops) (match g with|some (s,_)=>bt s|none=>0)
 | .frz _ _=>0
def rm(m t:Nat):Nat:=Nat.sub m (Nat.land m (bt t))
def qtQ:List CI->Nat->Nat
 | [],o=>o
 | x::l,o=>fc (qtQ l o) λo=>match x with
   | .op (some d) g c=>Nat.lor (rm o d) (qzk (.op (some d) g c))
   | .op none g c=>Nat.lor o (qzk (.op none g c))
   | .frz _ _=>o
def lk:List (Nat×Nat)->Nat->Nat
 | [],_=>0
 | (i,m)::l,k=>match Nat.beq i k with
  |true=>m
  |false=>lk l k
def qxd:Nat->(Nat->Nat)->Nat->Nat
 | 0,_,c=>c
 | n+1,f,c=>fc (Nat.lor c (f c)) λd=>match Nat.beq d c with
   |true=>d
   |false=>qxd n f d
def lv(r:Nat):CC->List (Nat×Nat)->Nat->Nat
 | .skip,_,o=>o
 | .reg l,_,o=>qtQ l o
 | .regd p t,_,o=>fc (qtQ t o) (qtQ p)
 | .seq a b,e,o=>fc (lv r b e o) (lv r a e)
 | .ite c a b,e,o=>Nat.lor (Nat.lor (lv r a e o) (lv r b e o)) (oM c)
 | .block i b,e,o=>lv r b ((i,o)::e) o
 | .loop _ b,e,_=>qxd 50 (lv r b e) 0
 | .exit i,e,_=>lk e i
 | .ret,_,_=>r
 | .cut _ c,e,o=>lv r c e o
 | .keep _ _ c,e,o=>lv r c e o
def gt(W x t:Nat):Nat:=Nat.land (Nat.shiftRight x (Nat.mul t W)) (Nat.sub (bt W) 1)
def ad(W x t m:Nat):Nat:=Nat.lor x (Nat.shiftLeft m (Nat.mul t W))
def hO(W h:Nat):Operand->Nat
 | .tmp t=>gt W h t
 | _=>0
def qo3(W h:Nat):List Operand->Nat
 | []=>0
 |o::l=>Nat.lor (hO W h o) (qo3 W h l)
def qhH:Nat->Nat->Nat->List Nat
 | 0,_,_=>[]
 | n+1,i,m=>match Nat.beq m 0 with
   |true=>[]
   | false=>match Nat.beq (Nat.land m 1) 1 with
     |true=>i::qhH n (i+1) (Nat.shiftRight m 1)
     |false=>qhH n (i+1) (Nat.shiftRight m 1)
def bl(m:Nat):List Nat:=qhH 1000 0 m
def qdY(f:Nat->Nat):List Nat->Nat
 | []=>0
 |i::l=>Nat.lor (f i) (qdY f l)
def qmx(W:Nat)(f:Nat->Nat):List Nat->Nat->Nat
 | [],c=>c
 |i::l,c=>fc (ad W c i (f i)) (qmx W f l)
def qAq(W:Nat)(x:CI)(h c:Nat)(K:Nat->Nat->α):α:=match x with
 | .frz _ _=>K h c
 | .op d _ o=>
   let put (m:Nat):α:=match d with
    |some d=>fc (ad W h d m) λh=>K h c
    |none=>K h c
   let own:Nat:=match d with
    |some d=>bt d
    |none=>0
   let a (s:Nat):α:=fc s λs=>fc (qmx W (λi=>rm s i) (bl s) c) λc=>match d with
    |some d=>fc (ad W h d s) λh=>K h c
    |none=>K h c
   match o with
   | .alloc _ _=>put own
   | .nslice _ _=>put own
   | .mslice _ _ _=>put own
   | .mkslice _ _ _ _ _ _ _=>put own
   | .srange _=>put own
   | .appmk _ _ _ _ _ _ _=>put own
   | .m .mk _=>put own
   | .m .rng (x::_)=>fc (qmx W (λ_=>hO W h x) (bl own) c) λc=>match d with
     |some d=>fc (ad W h d own) λh=>K h c
     |none=>K h c
   | .m (.del _ _) _=>K h c
   | .m .len _=>K h c
   | .m (.upd _ _) (x::b)=>fc (qo3 W h b) λv=>fc (qmx W (λ_=>v) (bl (hO W h x)) c) λc=>K h c
   | .m (.look _ _ _ _ _) (x::_)=>put (qdY (gt W c) (bl (hO W h x)))
   | .m .entry (x::_)=>put (qdY (gt W c) (bl (hO W h x)))
   | .load _ _ x=>put (qdY (gt W c) (bl (hO W h x)))
   | .tbx _ x=>fc (qmx W (λ_=>hO W h x) (bl own) c) λc=>match d with
     |some d=>fc (ad W h d own) λh=>K h c
     |none=>K h c
   | .box _ false x=>fc (qmx W (λ_=>hO W h x) (bl own) c) λc=>match d with
     |some d=>fc (ad W h d own) λh=>K h c
     |none=>K h c
   | .store _ _ x y=>fc (hO W h y) λv=>fc (qmx W (λ_=>v) (bl (hO W h x)) c) λc=>K h c
   | .append _ _ _ _ x _=>put (Nat.lor own (hO W h x))
   | .call _ xs=>a (qo3 W h xs)
   | .callb _ _ xs=>a (qo3 W h xs)
   | .callv f xs=>put (Nat.lor (qo3 W h xs) (hO W h f))
   |o=>put (qo3 W h o.ops)
def qll(W:Nat):List CI->Nat->Nat->(Nat->Nat->α)->α
 | [],h,c,K=>K h c
 |x::l,h,c,K=>qAq W x h c λh c=>qll W l h c K
def qms(W:Nat):CC->Nat->Nat->(Nat->Nat->α)->α
 | .reg l,h,c,K=>qll W l h c K
 | .regd p t,h,c,K=>qll W p h c λh c=>qll W t h c K
 | .seq a b,h,c,K=>qms W a h c λh c=>qms W b h c K
 | .ite _ a b,h,c,K=>qms W a h c λh c=>qms W b h c K
 | .block _ b,h,c,K=>qms W b h c K
 | .loop _ b,h,c,K=>qms W b h c K
 | _,h,c,K=>K h c
def fx(W:Nat)(cc:CC):Nat->Nat->Nat->(Nat->Nat->α)->α
 | 0,h,c,K=>K h c
 | n+1,h,c,K=>qms W cc h c λa c'=>match Nat.beq h a with
   |false=>fx W cc n a c' K
   | true=>match Nat.beq c c' with
     |false=>fx W cc n a c' K
     |true=>K h c
def cl(W c:Nat):Nat->Nat->Nat
 | 0,s=>s
 | n+1,s=>fc (Nat.lor s (qdY (gt W c) (bl s))) λt=>match Nat.beq t s with
   |true=>s
   |false=>cl W c n t
def qqz:Value->Bool
 | .int .i64 k=>decide (k=1)
 | _=>false
def qAG:List CI->Option (Nat×Nat×Nat)
 | [.op (some c) none (.cmp .lss (.tmp i) (.tmp n))]=>some (c,i,n)
 | _=>none
def qud:List CI->Option (Nat×Nat)
 | [.op (some a) none (.arith .add (.tmp i) (.const v)), .op (some j) none (.mv (.tmp j2))]=>match qqz v && Nat.beq i j && Nat.beq a j2 with
   |true=>some (a,i)
   |false=>none
 | _=>none
def qxf(id:Nat):CC->Option (Nat×Nat×Nat×Nat×Nat)
 | .loop _ (.seq (.reg l) (.seq (.ite (.tmp c2) .skip (.exit a)) (.seq (.block b _) (.reg d))))=>match qAG l,qud d with
   | some (c,i,n),some (k,j)=>match Nat.beq id a && Nat.beq c c2 && Nat.beq i j with
     |true=>some (i,n,c,b,k)
     |false=>none
   | _,_=>none
 | _=>none
def qkG:CC->Nat
 | .seq a b=>qkG a+qkG b+1
 | .ite _ a b=>qkG a+qkG b
 | .block i b=>match qxf i b with
   |some _=>qkG b -3
   |none=>qkG b
 | .loop _ b=>qkG b
 | _=>0
def jA:CC->Nat
 | .seq a b=>jA a+jA b
 | .ite _ a b=>jA a+jA b
 | .block i b=>match qxf i b with
   |some _=>jA b -1
   |none=>jA b
 | .loop _ b=>jA b+1
 | _=>0
def uk:CC->CC
 | .keep _ _ c=>c
 |c=>c
def qA0(b:CC):CC:=match b with
 | .loop _ b=>match uk b with
   | .seq _ b=>match uk b with
     | .seq _ b=>match uk b with
       | .seq a _=>match uk a with
         | .block _ b=>b
         | _=> .skip
       | _=> .skip
     | _=> .skip
   | _=> .skip
 | _=> .skip
section
variable (f:Operand->Operand)(z:List Value->List Value)
def pC:COp->COp
 | .mv x=> .mv (f x)
 | .pick c x y=> .pick (f c) (f x) (f y)
 | .alloc el l=> .alloc el (z l)
 | .box el im x=> .box el im (f x)
 | .tbx el x=> .tbx el (f x)
 | .build l d=> .build (z l) (d.map λp=>(p.1,p.2.1,f p.2.2))
 | .bslice el n d=> .bslice el n (d.map f)
 | .nslice el n=> .nslice el n
 | .mslice el n d=> .mslice el n (d.map f)
 | .load a s x=> .load a s (f x)
 | .store r s x y=> .store r s (f x) (f y)
 | .nilck x=> .nilck (f x)
 | .arith o x y=> .arith o (f x) (f y)
 | .cmp o x y=> .cmp o (f x) (f y)
 | .eql n a ks x y=> .eql n a ks (f x) (f y)
 | .scat x y=> .scat (f x) (f y)
 | .not x=> .not (f x)
 | .neg x=> .neg (f x)
 | .conv k x=> .conv k (f x)
 | .clo g l=> .clo g (l.map f)
 | .mkslice el n b a l x y=> .mkslice el n b a (z l) (f x) (f y)
 | .slice n x l h=> .slice n (f x) (l.map f) (h.map f)
 | .sslice x l h=> .sslice (f x) (l.map f) (h.map f)
 | .faddr o x=> .faddr o (f x)
 | .fld a s o x=> .fld a s o (f x)
 | .iaddr n x i=> .iaddr n (f x) (f i)
 | .sidx x i=> .sidx (f x) (f i)
 | .ext x i=> .ext (f x) i
 | .len x=> .len (f x)
 | .slen x=> .slen (f x)
 | .mm m l=> .mm m (l.map f)
 | .append r el n b x y=> .append r el n b (f x) (f y)
 | .appmk el n b a l x y=> .appmk el n b a (z l) (f x) (f y)
 | .clear n a l x=> .clear n a (z l) (f x)
 | .copy n x y=> .copy n (f x) (f y)
 | .cap x=> .cap (f x)
 | .srange x=> .srange (f x)
 | .snext x=> .snext (f x)
 | .sbytes x=> .sbytes (f x)
 | .srunes x=> .srunes (f x)
 | .bstr x=> .bstr (f x)
 | .rstr x=> .rstr (f x)
 | .mkif t x=> .mkif t (f x)
 | .m (.look ok a ka ks l) xs=> .m (.look ok a ka ks (z l)) (xs.map f)
 | .m o xs=> .m o (xs.map f)
 | .bad=> .bad
 | .call g l=> .call g (l.map f)
 | .callv g l=> .callv (f g) (l.map f)
 | .callb r g l=> .callb r g (l.map f)
def pL(fz:List (Nat×Nat)):List CI->List CI
 | []=>[]
 | .op (some d) g c::l=>match fz.lookup d with
   |some n=> .op (some d) g (pC f z c):: .frz d n::pL fz l
   |none=> .op (some d) g (pC f z c)::pL fz l
 | .op none g c::l=> .op none g (pC f z c)::pL fz l
 | .frz t n::l=> .frz t n::pL fz l
end
structure Opt where
 bx:List Nat:=[]
 fz:List (Nat×Nat):=[]
 cu:List Nat:=[]
 ke:List Nat:=[]
 kz:List Nat:=[]
abbrev PF:=(rg:Nat->Nat->Nat->Nat->Nat->CC->Nat->CC)->(sm:Nat->CC->CC->CC)->(kk:{_:Value} ->Operand)->(zk:IntKind->Value)->(ze zb zs zp zm zf:Value)->CC
section
variable (kk:{_:Value} ->Operand)(zk:IntKind->Value)(ze zb zs zp zm zf:Value)
def pO:Operand->Operand
 | .const v=> @kk v
 | .tmp t=> .tmp t
 | .global g=> .global g
 | .func f=> .func f
def pZ:List Value->List Value
 | []=>[]
 | v::l=>(match v with
   | .int k _=>zk k
   | .string _=>ze
   | .bool _=>zb
   | .slice _ _ _=>zs
   | .pointer _=>zp
   | .map _=>zm
   | _=>zf)::pZ l
end
section
variable (rg:Nat->Nat->Nat->Nat->Nat->CC->Nat->CC)(sm:Nat->CC->CC->CC)(f:Operand->Operand)(z:List Value->List Value)(op:Opt)(W h c r:Nat)
def qyS(l:List Nat):List Nat:=op.ke.filter (λx=>!l.contains x) ++l++op.kz
def an:CC->List (Nat×Nat)->Nat->Nat->Nat->Nat->CC
 | .skip,_,_,_,_,_=> .skip
 | .reg l,_,_,_,_,_=> .reg (pL f z op.fz l)
 | .regd p l,_,_,_,_,_=> .regd (pL f z op.fz p) (pL f z op.fz l)
 | .seq a b,e,o,m,k,s=>fc (lv r b e o) λp=>fc (match s with|0=>m+1|_=>m) λt=>
   let d:=an a e p t k 0
   let b':=an b e o (t+qkG a) (k+jA a) (s -1)
   let b2:=match a with
    | .skip=>b'
    | _=> .keep (bl p) (qyS op (bl (cl W c 5 (qdY (gt W h) (bl p))))) b'
   match s with
   | 0=>match op.cu.contains m with
     |true=>sm m d b2
     |false=> .seq d b2
   | _=> .seq d b2
 | .ite q a b,e,o,m,k,_=> .ite (f q) (an a e o m k 0) (an b e o (m+qkG a) (k+jA a) 0)
 | .block i b,e,o,m,k,_=>match qxf i b with
   |some (u,n,c,j,w)=>rg i u n c j (qA0 (an b ((i,o)::e) o m k 3)) w
   |none=> .block i (an b ((i,o)::e) o m k 0)
 | .loop _ b,e,_,m,k,s=>fc (qxd 50 (lv r b e) 0) λo=>match s with
   | 0=> .loop k (an b e o m (k+1) 0)
   | _=> .loop 0 (an b e o m k s)
 | .exit i,_,_,_,_,_=> .exit i
 | .ret,_,_,_,_,_=> .ret
 | .cut _ c,e,o,m,k,s=>an c e o m k s
 | .keep _ _ c,e,o,m,k,s=>an c e o m k s
end
def qlo(W:Nat):List Nat->Nat
 | []=>0
 |t::l=>ad W (qlo W l) t (bt t)
def qmF:List ResultVar->Nat
 | []=>0
 | .tmp t::l=>Nat.lor (bt t) (qmF l)
 | .cell t _::l=>Nat.lor (bt t) (qmF l)
def qzT(P:Program)(neg:Bool)(t:TypeId)(x y:Operand):COp:=match P.underlying t with
 |some (.struct fs)=> .eql neg true (fs.toList.map λf=>(lu P f.type).getD .int) x y
 | _=> .eql neg false [(lu P t).getD .int] x y
def qyt(P:Program)(im:List Nat)(ops:Array Oper)(o:Oper):CI:= .op o.dst ((GJ ops o).getD none) (match o.op with
 | .binOp .eql t x y _=>qzT P false t x y
 | .binOp .neq t x y _=>qzT P true t x y
 | _=>(cI P im o).getD .bad)
def cC(P:Program)(im:List Nat):Code->CC
 | .region _ ops false=> .reg (ops.toList.map (qyt P im ops))
 | .region _ ops true=> .regd (qbc ops (ops.toList.map (qyt P im ops)) (cE ops)) ((ops.toList.map (qyt P im ops)).drop (cE ops))
 | .seq a b=> .seq (cC P im a) (cC P im b)
 | .cond c a b=> .ite c (cC P im a) (cC P im b)
 | .block id b=> .block id (cC P im b)
 | .loop b=> .loop 0 (cC P im b)
 | .exit id=> .exit id
 | .ret=> .ret
 | _=> .skip
def gn(P:Program)(fn:Func)(im:List Nat)(op:Opt):PF:=λrg sm kk zk ze zb zs zp zm zf=>match fn.body with
 |none=> .skip
 | some code=>fc (qlo fn.ntmps op.bx) λh0=>fx fn.ntmps (cC { P with cutTypes:= #[] } im code) 6 h0 0 λh c=>fc (qmF fn.results.toList) λr=>
   an rg sm (pO @kk) (pZ zk ze zb zs zp zm zf) op fn.ntmps h c r (cC { P with cutTypes:= #[] } im code) [] r 0 1 0
def rw_(P:Program)(fn:Func)(im:List Nat):CC:=match fn.body with
 |none=> .skip
 |some code=>cC { P with cutTypes:= #[] } im code
def ap(c:PF):CC:=c uX Y9 (λ{v} => .const v) (λk=> .int k 0) (.string ⟨#[]⟩) (.bool false) (.slice none 0 0) (.pointer none) (.map none) .nilFunc
end G
open Go.Proofs
abbrev oA(d s:Nat):CI:= .op (some d) none (.mv (.tmp s))
abbrev oB(d:Nat)(c:COp):CI:= .op (some d) none c
abbrev oC(d w s:Nat):CI:= .op (some d) none (.load false w (.tmp s))
abbrev oD(d w s:Nat):CI:= .op (some d) none (.load true w (.tmp s))
abbrev oE(d n s:Nat):CI:= .op (some d) none (.faddr n (.tmp s))
abbrev oF(w a b:Nat):CI:= .op none none (.store none w (.tmp a) (.tmp b))
abbrev oG(d s:Nat):CI:= .op (some d) none (.nilck (.tmp s))
abbrev oH(d g:Nat)(c:COp):CI:= .op (some d) (some (g,true)) c
abbrev oI(d g:Nat)(c:COp):CI:= .op (some d) (some (g,false)) c
abbrev oT(n:Nat):Operand:= .tmp n
abbrev oK(v:Value):Operand:= .const v
abbrev oN(n:Int):Operand:= .const (.int .i64 n)
abbrev oS(b:ByteArray):Operand:= .const (.string b)
abbrev oi:Value:= .int .i64 0
abbrev oe:Value:= .string ⟨#[]⟩
abbrev ob:Value:= .bool false
abbrev on:Value:= .slice none 0 0
abbrev oZ(d f:Nat)(l:List Operand):CI:= .op (some d) none (.call f l)
abbrev oX(l:List CI)(a b:List Nat)(x:CC):CC:= .seq (.reg l) (.keep a b x)
abbrev nZ:Nat:=3
abbrev Tt:Nat:=6
abbrev rX:Nat:=7
abbrev ua:Nat:=8
abbrev oa:Nat:=9
abbrev yK:Nat:=10
abbrev Ew:Nat:=11
abbrev nR:Nat:=12
abbrev kN:Nat:=13
abbrev wi:Nat:=14
abbrev Es:Nat:=23
abbrev nY:Nat:=24
abbrev cb:Nat:=25
abbrev yR:Nat:=26
abbrev gI:Nat:=27
abbrev pY:Nat:=28
abbrev Bu:Nat:=29
abbrev eL:Nat:=30
abbrev rW:Nat:=31
abbrev pX:Nat:=32
abbrev tX:Nat:=33
abbrev tS:Nat:=34
abbrev Bj:Nat:=35
abbrev rU:Nat:=36
abbrev fO:Nat:=37
abbrev mu:Nat:=38
abbrev vh:Nat:=39
abbrev qa:Nat:=40
abbrev yM:Nat:=46
abbrev ub:Nat:=51
abbrev Ns:Nat:=52
abbrev Ts:Nat:=53
abbrev yU:Nat:=54
abbrev rr:Nat:=55
abbrev nU:Nat:=56
abbrev tY:Nat:=57
abbrev tZ:Nat:=58
abbrev vm:Nat:=59
abbrev Bp:Nat:=60
abbrev jU:Nat:=61
abbrev tW:Nat:=62
abbrev tU:Nat:=63
abbrev wh:Nat:=64
abbrev rq:Nat:=65
abbrev jW:Nat:=66
abbrev eh:Nat:=67
abbrev ee:Nat:=68
abbrev fS:Nat:=69
abbrev cR:Nat:=70
abbrev nV:Nat:=71
abbrev wg:Nat:=72
abbrev gH:Nat:=73
abbrev lO:Nat:=74
abbrev kJ:Nat:=75
abbrev mN:Nat:=76
abbrev aJ:Nat:=77
abbrev iR:Nat:=78
abbrev tQ:Nat:=79
abbrev yL:Nat:=80
abbrev nT:Nat:=81
abbrev wb:Nat:=82
abbrev tR:Nat:=83
abbrev oh:Nat:=84
abbrev fR:Nat:=85
abbrev jv:Nat:=86
abbrev ZS:Nat:=87
abbrev IY:Nat:=88
abbrev IW:Nat:=89
abbrev IV:Nat:=90
abbrev GR:Nat:=91
abbrev Pj:Nat:=92
abbrev Et:Nat:=93
abbrev GS:Nat:=94
abbrev KV:Nat:=95
abbrev IQ:Nat:=96
abbrev IT:Nat:=97
abbrev sT:Nat:=98
abbrev bw:Nat:=99
abbrev gc:Nat:=100
abbrev eZ:Nat:=101
abbrev eA:Nat:=102
abbrev vg:Nat:=108
abbrev rk:Nat:=110
abbrev Bl:Nat:=111
abbrev vi:Nat:=112
abbrev yV:Nat:=113
abbrev oo:Nat:=114
abbrev fP:Nat:=116
abbrev tV:Nat:=117
abbrev jX:Nat:=118
abbrev qK:Nat:=119
abbrev gd:Nat:=120
abbrev eS:Nat:=121
abbrev dm:Nat:=122
abbrev bC:Nat:=123
abbrev ed:Nat:=124
abbrev kK:Nat:=125
abbrev aS:Nat:=126
abbrev qJ:Nat:=127
abbrev dn:Nat:=128
abbrev gK:Nat:=129
abbrev cn:Nat:=130
abbrev oj:Nat:=131
abbrev fu:Nat:=132
abbrev yT:Nat:=133
abbrev iM:Nat:=134
abbrev lP:Nat:=135
abbrev dS:Nat:=136
abbrev nW:Nat:=137
abbrev Bk:Nat:=138
abbrev gU:Nat:=139
abbrev pW:Nat:=140
abbrev ri:Nat:=141
abbrev iJ:Nat:=142
abbrev iI:Nat:=143
abbrev Nn:Nat:=144
abbrev fE:Nat:=145
abbrev mO:Nat:=146
abbrev cm:Nat:=147
abbrev aL:Nat:=148
abbrev wk:Nat:=149
abbrev ol:Nat:=150
abbrev jw:Nat:=151
abbrev wj:Nat:=152
abbrev bK:Nat:=153
abbrev dx:Nat:=154
abbrev ms:Nat:=155
abbrev bV:Nat:=156
abbrev cA:Nat:=157
abbrev Nm:Nat:=158
abbrev Pi:Nat:=159
abbrev Xe:Nat:=160
abbrev IR:Nat:=161
abbrev GX:Nat:=162
abbrev Eu:Nat:=163
abbrev lQ:Nat:=164
abbrev gJ:Nat:=165
abbrev kM:Nat:=166
abbrev rV:Nat:=168
abbrev rZ:Nat:=171
abbrev rj:Nat:=174
abbrev rh:Nat:=175
abbrev qH:Nat:=176
abbrev qI:Nat:=177
abbrev EC:Nat:=178
abbrev we:Nat:=179
abbrev pV:Nat:=180
abbrev yO:Nat:=181
abbrev Bm:Nat:=182
abbrev wc:Nat:=183
abbrev Bq:Nat:=184
abbrev Bn:Nat:=185
abbrev iL:Nat:=186
abbrev kL:Nat:=187
abbrev aM:Nat:=188
abbrev iN:Nat:=189
abbrev ca:Nat:=190
abbrev eJ:Nat:=191
abbrev jV:Nat:=192
abbrev oc:Nat:=193
abbrev od:Nat:=194
abbrev qL:Nat:=195
abbrev tO:Nat:=196
abbrev cz:Nat:=197
abbrev dj:Nat:=198
abbrev fF:Nat:=199
abbrev eH:Nat:=200
abbrev eK:Nat:=201
abbrev tT:Nat:=202
abbrev Ev:Nat:=203
abbrev rp:Nat:=204
abbrev Ey:Nat:=205
abbrev CK:Nat:=206
abbrev Nq:Nat:=207
abbrev qG:Nat:=208
abbrev nQ:Nat:=209
abbrev wa:Nat:=210
abbrev rY:Nat:=211
abbrev mr:Nat:=212
abbrev eG:Nat:=213
abbrev bS:Nat:=214
abbrev eI:Nat:=215
abbrev bW:Nat:=216
abbrev ip:Nat:=217
abbrev ez:Nat:=218
abbrev IS:Nat:=219
abbrev CJ:Nat:=220
abbrev GW:Nat:=221
abbrev lN:Nat:=222
abbrev jR:Nat:=223
abbrev nX:Nat:=233
abbrev nS:Nat:=243
abbrev KZ:Nat:=244
abbrev Xh:Nat:=245
abbrev Bo:Nat:=246
abbrev vk:Nat:=247
abbrev sS:Nat:=248
abbrev ED:Nat:=249
abbrev yQ:Nat:=250
abbrev yP:Nat:=251
abbrev fQ:Nat:=252
abbrev yS:Nat:=253
abbrev jQ:Nat:=254
abbrev om:Nat:=256
abbrev eb:Nat:=257
abbrev fq:Nat:=258
abbrev vj:Nat:=259
abbrev iK:Nat:=260
abbrev G0:Nat:=261
abbrev bH:Nat:=262
abbrev CN:Nat:=263
abbrev G2:Nat:=264
abbrev G3:Nat:=265
abbrev Ez:Nat:=266
abbrev Xf:Nat:=267
abbrev KX:Nat:=268
abbrev Bw:Nat:=269
abbrev jS:Nat:=270
abbrev kI:Nat:=272
abbrev qF:Nat:=273
abbrev cZ:Nat:=274
abbrev dt:Nat:=275
abbrev ft:Nat:=276
abbrev ln:Nat:=277
abbrev GV:Nat:=278
abbrev CH:Nat:=279
abbrev GU:Nat:=280
abbrev GT:Nat:=281
abbrev KW:Nat:=282
abbrev GZ:Nat:=283
abbrev GY:Nat:=284
abbrev Xg:Nat:=293
abbrev Bt:Nat:=294
abbrev ro:Nat:=298
abbrev CL:Nat:=299
abbrev Tp:Nat:=300
abbrev jc:Nat:=301
abbrev bu:Nat:=302
abbrev qE:Nat:=303
abbrev iq:Nat:=304
abbrev ju:Nat:=305
abbrev Bv:Nat:=306
abbrev lr:Nat:=307
abbrev pU:Nat:=308
abbrev qb:Nat:=309
abbrev KU:Nat:=310
abbrev CG:Nat:=311
abbrev ZV:Nat:=314
abbrev IZ:Nat:=315
abbrev G4:Nat:=321
abbrev CM:Nat:=322
abbrev G1:Nat:=323
abbrev iZ:Nat:=324
abbrev de:Nat:=325
abbrev nP:Nat:=326
abbrev db:Nat:=327
abbrev eC:Nat:=328
abbrev IX:Nat:=329
abbrev Pk:Nat:=330
abbrev Np:Nat:=331
abbrev I0:Nat:=332
abbrev ZU:Nat:=333
abbrev ZT:Nat:=334
abbrev qgS:Nat:=335
abbrev G5:Nat:=336
abbrev EB:Nat:=339
abbrev yN:Nat:=340
abbrev EA:Nat:=341
abbrev lq:Nat:=342
abbrev pT:Nat:=345
abbrev dy:Nat:=346
abbrev jd:Nat:=347
abbrev IU:Nat:=348
abbrev Nr:Nat:=349
abbrev KY:Nat:=350
abbrev Tq:Nat:=351
abbrev qgT:Nat:=352
abbrev Bh:Nat:=354
abbrev jT:Nat:=355
abbrev io:Nat:=356
abbrev dR:Nat:=357
abbrev gm:Nat:=359
abbrev eB:Nat:=360
abbrev ja:Nat:=361
abbrev tP:Nat:=362
abbrev lp:Nat:=365
abbrev eu:Nat:=367
abbrev da:Nat:=368
abbrev mw:Nat:=369
abbrev ea:Nat:=372
abbrev qc:Nat:=373
abbrev cN:Nat:=374
abbrev bP:Nat:=3
abbrev qS:Nat:=5
abbrev av:Nat:=9
abbrev LO:Nat:=21
abbrev uT:Nat:=28
abbrev gW:Nat:=36
abbrev bB:Nat:=39
abbrev PJ:Nat:=74
abbrev cF:Nat:=84
abbrev BX:Nat:=96
abbrev FC:Nat:=103
abbrev mI:Nat:=109
abbrev uS:Nat:=118
abbrev DJ:Nat:=154
abbrev eF:Nat:=183
abbrev AG:Nat:=186
abbrev cY:Nat:=222
abbrev fA:Nat:=245
abbrev xa:Nat:=317
def mixed:Tryz.prog.follows .mixedOrders=true:=by kernel_rfl
abbrev gq(f:Func)(im:List Nat)(op:G.Opt)(c:CC)(_:G.ap (G.gn Tryz.prog f im op)=c:=by conv=>lhs;(conv=>arg 1;reduce);dsimp only[G.ap]):CC:=c
def fo {f : Nat} {im : List Nat} {cc : CC} {rs : List ai} {N : Nat} (h : ((Tryz.prog.funcs[f]?).bind fun g => if g.name == "runtime.NumGoroutine" then none else g.body.bind fun c => (ay Tryz.prog im g.ntmps c).bind fun cc => (g.results.toList.mapM (fa Tryz.prog)).bind fun rs => some (g.ntmps, cc, rs)) = some (N, bz cc, rs) := by kernel_rfl) : zF Tryz.prog f im cc rs N := qlL mixed h
abbrev FO:=zF Tryz.prog
abbrev TQ(dq:Prop)(f:Nat)(s:Spc):Prop:=Tri dq Tryz.prog f s.pt
def ei:CC:=gq Tryz.f213 [] {} _
def dV:List ai:=[.tmp 4]
def qY:FO eG [] ei dV 19:=fo
def eR:CC:=gq Tryz.f156 [] {} _
def eO:List ai:=[.tmp 4]
def js:FO bV [] eR eO 9:=fo
def gg:CC:=gq Tryz.f218 [] {} _
def fX:List ai:=[.tmp 4]
def lL:FO ez [] gg fX 19:=fo
def ek:CC:=gq Tryz.f215 [] {} _
def dX:List ai:=[.tmp 4]
def ra:FO eI [] ek dX 9:=fo
def fe:CC:=gq Tryz.f276 [] {} _
def eV:List ai:=[.tmp 4]
def tL:FO ft [] fe eV 19:=fo
def gM:CC:=gq Tryz.f217 [3] {} _
def gy:List ai:=[.tmp 4]
def xq:FO ip [3] gM gy 9:=fo
def jZ:CC:=gq Tryz.f277 [3] {} _
def jC:List ai:=[.tmp 4]
def AW:FO ln [3] jZ jC 19:=fo
def ir:CC:=gq Tryz.f154 [] {} _
def gX:List ai:=[.tmp 4]
def yw:FO dx [] ir gX 19:=fo
def cw:CC:=gq Tryz.f126 [] {} _
def cv:List ai:=[.tmp 4]
def kS:FO aS [] cw cv 9:=fo
def kq:CC:=gq Tryz.f128 [3] {} _
def jK:List ai:=[.tmp 6, .tmp 7]
def A6:FO dn [3] kq jK 40:=fo
def mE:CC:=gq Tryz.f84 [1] {} _
def mj:List ai:=[.tmp 2]
def pd:CC:=gq Tryz.f129 [2] {} _
def nB:List ai:=[.tmp 4]
def Gn:FO gK [2] pd nB 29:=fo
def bq:CC:=gq Tryz.f193 [1,2034005,2033005,2043005,2042005,2041005,2052005,2051005,2050005] {} _
def bj:List ai:=[.tmp 2]
def D6:FO oc [1,2034005,2033005,2043005,2042005,2041005,2052005,2051005,2050005] bq bj 108:=fo
def iB:CC:=gq Tryz.f153 [3] {} _
def ig:List ai:=[.tmp 4]
def yD:FO bK [3] iB ig 8:=fo
def gi:CC:=gq Tryz.f214 [2] {} _
def fZ:List ai:=[.tmp 3]
def vW:FO bS [2] gi fZ 8:=fo
def iA:CC:=gq Tryz.f151 [] {} _
def ic:List ai:=[.tmp 4]
def Eb:FO jw [] iA ic 14:=fo
def bY:CC:=gq Tryz.f194 [2] {} _
def bT:List ai:=[.tmp 4]
def D7:FO od [2] bY bT 50:=fo
def cW:CC:=gq Tryz.f131 [3] {} _
def cV:List ai:=[.tmp 6]
def Ec:FO oj [3] cW cV 59:=fo
def jl:CC:=gq Tryz.f69 [5,4,3] {} _
def iY:List ai:=[.tmp 6]
def Ag:FO fS [5,4,3] jl iY 23:=fo
def gS:CC:=gq Tryz.f130 [3] {} _
def gD:List ai:=[.tmp 4]
def xw:FO cn [3] gS gD 9:=fo
def jx:CC:=gq Tryz.f147 [1] {} _
def jq:List ai:=[.tmp 2]
def dP:CC:=gq Tryz.f85 [1,2034003,1033033] { cu:=[5] } _
def dI:List ai:=[.cell 2 true 7]
def bZ:CC:=gq Tryz.f150 [3] {} _
def bU:List ai:=[.tmp 6]
def Ed:FO ol [3] bZ bU 38:=fo
def lC:CC:=gq Tryz.f155 [5,4,3] {} _
def ld:List ai:=[.tmp 6]
def CB:FO ms [5,4,3] lC ld 11:=fo
def bM:CC:=gq Tryz.f216 [3] {} _
def bJ:List ai:=[.tmp 4]
def Af:FO bW [3] bM bJ 37:=fo
def D9:FO oh [1] mE mj 12:=fo
def Gp:FO cm [1] jx jq 11:=fo
def D8:FO fR [1,2034003,1033033] dP dI 37:=fo
open Cod (enc dec)
variable {S S0:Nat->Spc}
def FunOn{X Y:Type}[Cod X][Cod Y](S:Nat->Spc)(d:D)(l:List X)(p:X->Y):Prop:=
 ∃g caps a,d= .clo g caps/\S g= .pure a/\∀x∈l,a.pre (enc x::caps)/\∀r,a.post (enc x::caps) r->r=enc (p x)
def FunOn.useB{X:Type}[Cod X]{S:Nat->Spc}{d:D}{l:List X}{p:X->Bool}(h:FunOn S d l p){x:X}(b:x∈l){c:Nat}{H:ab}{K:D->ab->Prop}(hk:∀y:Bool,(∀q:X->Bool,FunOn S d l q->y=q x)->K (.v (.bool y)) H):BJ S d c [enc x] H K:=by
 obtain⟨g,caps,t,rfl,h1,h2⟩:=h;simp only[BJ,h1,Spc.pt];refine⟨(h2 x b).1,λr j=>?_⟩;have e:=(h2 x b).2 r j;rw[e];refine hk (p x) λq k=>?_
 obtain⟨u,a,s,w,A,C⟩:=k;grind [cS]
def xD{X Y Z:Type}[Cod X][Cod Y]{S:Nat->Spc}{g:Nat}{caps:List D}{A:fm Z}{pre:Z->Prop}{post:Z->Y->Prop}{l:List X}{p:X->Y}{f:X->Z}(h:S g=aA A pre enc post)(b:∀x∈l,A.dec (enc x::caps)=some (f x))(hp:∀x∈l,pre (f x))(c:∀x∈l,∀y,post (f x) y->y=p x):FunOn S (.clo g caps) l p:=by
 refine⟨g,caps,_,rfl,h,λx a=>⟨⟨f x,b x a,hp x a⟩,λr d=>?_⟩⟩;grind
def qan{X:Type}[Cod X](S0:Nat->Spc)(x:List X×D×Unit):Prop:=∃p:X->Bool,FunOn S0 x.2.1 x.1 p
def Px{X:Type}[Cod X](S0:Nat->Spc)(x:List X×D×Unit)(y:Int):Prop:=∀p:X->Bool,FunOn S0 x.2.1 x.1 p->y=nK x.1 p
def qop{X:Type}[Cod X](S0:Nat->Spc)(x:List X×D×Unit)(y:Bool):Prop:=∀p:X->Bool,FunOn S0 x.2.1 x.1 p->y=x.1.any p
abbrev Zi(X:Type)[Cod X](S0:Nat->Spc):Spc:=aA (aE (List X) (aD a0)) (qan S0) (enc (X:=Int)) (Px S0)
abbrev qcI(X:Type)[Cod X](S0:Nat->Spc):Spc:=aA (aE (List X) (aD a0)) (qan S0) (enc (X:=Bool)) (qop S0)
def LI:aq ei dV S (aE (List Attr) (aD a0)) (qan S) (enc (X:=Int)) (Px S):=by
 rintro⟨l,d,⟨⟩⟩ ⟨p,hp⟩;simp only at hp;simp[ei,dV,-fB',-eB'];intro _;refine ah (X:=Unit) [0,1] [] l.length (λk _=>∀p:Attr->Bool,FunOn S d l p->∀x∈l.take k,p x=false) (λ_=>[]) (λ_=>[]) () (by simp) ?_ ?_
 ·intro k _ hk c;obtain⟨x,a⟩:∃x,l[k]? =some x:=⟨_,qBe hk⟩
  obtain⟨_,b⟩:=qBc.1 a;simp[hk,a,b,-fB',-eB'];refine hp.useB (x:=x) (qBf a) λy q=>?_
  simp[-fB',-eB'];refine⟨λh=>?_,λh r j=>?_⟩;grind [Px,sR]
  ·rw[au a];grind
 ·intro _ c;simp[-fB',-eB'];grind [Px,kH]
theorem PB:aq gg fX S (aE (List Cond) (aD a0)) (qan S) (enc (X:=Int)) (Px S):=by
 rintro⟨l,d,⟨⟩⟩ ⟨p,hp⟩;simp only at hp;simp[gg,fX,-fB',-eB'];intro _;refine ah (X:=Unit) [0,1] [] l.length (λk _=>∀p:Cond->Bool,FunOn S d l p->∀x∈l.take k,p x=false) (λ_=>[]) (λ_=>[]) () (by simp) ?_ ?_
 ·intro k _ hk c;obtain⟨x,a⟩:∃x,l[k]? =some x:=⟨_,qBe hk⟩
  obtain⟨_,b⟩:=qBc.1 a;simp[hk,a,b,-fB',-eB'];have e:D.agg [.v (.int .i64 x.op), .v (.string x.name), .v (.string x.arg), .v (.string x.val), .v (.string x.lab), .v (.bool x.fold), .list 7 (x.kids.map enc)]=enc x:=by simp
  rw[e];refine hp.useB (x:=x) (qBf a) λy q=>?_
  simp[-fB',-eB'];refine⟨λh=>?_,λh r j=>?_⟩;grind [Px,sR]
  ·rw[au a];grind
 ·intro _ c;simp[-fB',-eB'];grind [Px,kH]
def PE(h1:S ez=Zi Cond S0):aq eR eO S (aE (List Cond) (aD a0)) (qan S0) (enc (X:=Bool)) (qop S0):=by
 rintro⟨l,d,⟨⟩⟩ hp;simp[eR,eO,h1,-fB',-eB'];refine⟨hp,λy b c a=>?_⟩;rw[b c a];grind [Spc,Cb]
def UP:aq fe eV S (aE (List Region) (aD a0)) (qan S) (enc (X:=Int)) (Px S):=by
 rintro⟨l,d,⟨⟩⟩ ⟨p,hp⟩;simp only at hp;simp[fe,eV,-fB',-eB'];intro _;refine ah (X:=Unit) [0,1] [] l.length (λk _=>∀p:Region->Bool,FunOn S d l p->∀x∈l.take k,p x=false) (λ_=>[]) (λ_=>[]) () (by simp) ?_ ?_
 ·intro k _ hk c;obtain⟨x,a⟩:∃x,l[k]? =some x:=⟨_,qBe hk⟩
  obtain⟨_,b⟩:=qBc.1 a;simp[hk,a,b,-fB',-eB'];refine hp.useB (x:=x) (qBf a) λy q=>?_
  simp[-fB',-eB'];refine⟨λh=>?_,λh r j=>?_⟩;grind [Px,sR]
  ·rw[au a];grind
 ·intro _ c;simp[-fB',-eB'];grind [Px,kH]
def UR(h1:S ft=Zi Region S0):aq ek dX S (aE (List Region) (aD a0)) (qan S0) (enc (X:=Bool)) (qop S0):=by
 rintro⟨l,d,⟨⟩⟩ hp;simp[ek,dX,h1,-fB',-eB'];refine⟨hp,λy b c a=>?_⟩;rw[b c a];grind [Spc,Cb]
end
section
open Cod (enc dec)
structure U64 where
 val:Int
deriving DecidableEq
instance:Cod U64 where
 wd:=1
 enc n:= .v (.int .u64 n.val)
 dec| .v (.int .u64 n)=>some ⟨n⟩|_=>none
 kn _:=rfl
 wid _:=rfl
 dec_enc _:=rfl
 le d x h:=by
  split at h
  ·cases h;exact .same _
  ·cases h
@[simp] theorem quG(n:U64):enc n= .v (.int .u64 n.val):=i' rfl
@[simp] theorem qvQ:Cod.wd U64=1:=i' rfl
@[simp] theorem quO(n:Int):dec (X:=U64) (.v (.int .u64 n))=some ⟨n⟩:=i' rfl
@[simp] theorem quz(n:U64):U64.mk n.val=n:=i' rfl
structure Rng where
 fr:I32
 to:I32
deriving DecidableEq
instance:Cod Rng where
 wd:=2
 enc s:= .agg [enc s.fr,enc s.to]
 dec| .agg [a,b]=>(dec a).bind λa=>(dec b).bind λb=>some ⟨a,b⟩|_=>none
 kn _:=rfl
 wid _:=rfl
 dec_enc s:=by simp
 le d x h:=by
  split at h
  ·simp only[qBb]at h;obtain⟨a,h0,b,h1,h⟩:=h;cases h;exact LeL.agg (.cons (Cod.le _ _ h0) (.cons (Cod.le _ _ h1) .nil))
  ·cases h
@[simp] theorem quC(s:Rng):(Rng.mk s.fr s.to)=s:=i' rfl
@[simp] theorem quJ(s:Rng):enc s= .agg [enc s.fr,enc s.to]:=i' rfl
@[simp] theorem qvU:Cod.wd Rng=2:=i' rfl
@[simp] theorem quR(a b:D):dec (X:=Rng) (.agg [a,b])=((dec a).bind λa=>(dec b).bind λb=>some ⟨a,b⟩):=i' rfl
structure Rx where
 op:Int
 mn:Int
 mx:Int
 rs:List Rng
 kids:List Rx
mutual
def Nv:Rx->D
 | .mk op mn mx rs ks=> .agg [enc op,enc mn,enc mx,enc rs, .list 5 (zP ks)]
def zP:List Rx->List D
 | []=>[]
 |k::ks=>Nv k::zP ks
end
mutual
def Xw:D->Option Rx
 | .agg [a,b,c,d,h]=>(dec a).bind λop=>(dec b).bind λmn=>(dec c).bind λmx=>(dec d).bind λrs=>(JV h).bind λks=>some (.mk op mn mx rs ks)
 | _=>none
def JV:D->Option (List Rx)
 | .list n es=>if n=5 then BC es else none
 | .v (.slice none 0 0)=>some []
 | _=>none
def BC:List D->Option (List Rx)
 | []=>some []
 |d::ds=>(Xw d).bind λx=>(BC ds).bind λxs=>some (x::xs)
end
def I2:∀l:List Rx,zP l=l.map Nv
 | []=>rfl
 | _::l=>by rw[zP,I2 l];rfl
def qbH:∀c:Rx,(Nv c).kn=true
 | .mk .. =>rfl
def Xn:∀c:Rx,(Nv c).cells.length=5
 | .mk .. =>rfl
mutual
def Xv:∀c:Rx,Xw (Nv c)=some c
 | .mk op mn mx rs ks=>by
   have h:JV (.list 5 (zP ks))=some ks:=by rw[JV,if_pos rfl];exact QH ks
   simp only[Nv,Xw,Cod.dec_enc,qBz,h]
def QH:∀l:List Rx,BC (zP l)=some l
 | []=>by simp only[zP,BC]
 |c::l=>by simp only[zP,BC,Xv c,QH l,qBz]
end
mutual
def qbM:∀(d:D) (c:Rx),Xw d=some c->FrzTo cX d (Nv c)
 | .agg [b,j,k,l,a],c,h=>by
   simp only[Xw,qBb,qBq]at h;obtain⟨op,h0,mn,h1,mx,h2,rs,h3,ks,h4,rfl⟩:=h;rw[Nv];exact LeL.agg (.cons (Cod.le _ _ h0) (.cons (Cod.le _ _ h1) (.cons (Cod.le _ _ h2) (.cons (Cod.le _ _ h3) (.cons (qhf a ks h4) .nil)))))
def qhf:∀(d:D) (l:List Rx),JV d=some l->FrzTo cX d (.list 5 (zP l))
 | .list n es,l,h=>by
   simp only[JV]at h;split at h
   ·rename_i hn;subst hn;have hl:=Xu es l h;refine .list hl.1 (λe he=>?_) hl.2;rw[I2]at he;obtain⟨x,a,rfl⟩:=qBr.1 he;exact⟨qbH x,Xn x⟩
   ·cases h
 | .v (.slice none 0 0),l,h=>by
   simp only[JV,qBq]at h;subst h;exact .nil _
def Xu:∀(es:List D) (l:List Rx),BC es=some l->LeL es (zP l)
 | [],l,h=>by
   simp only[BC,qBq]at h;subst h;exact .nil
 | d::ds,l,h=>by
   simp only[BC,qBb,qBq]at h;obtain⟨x,h1,xs,h2,rfl⟩:=h;rw[zP];exact .cons (qbM d x h1) (Xu ds xs h2)
end
instance:Cod Rx where
 wd:=5
 enc:=Nv
 dec:=Xw
 kn:=qbH
 wid:=Xn
 dec_enc:=Xv
 le:=qbM
def qdD(ks:List Rx):D.list 5 (zP ks)=enc ks:=by rw[I2];rfl
def qg2(op mn mx:Int)(rs:List Rng)(ks:List Rx):enc (Rx.mk op mn mx rs ks)= .agg [enc op,enc mn,enc mx,enc rs,enc ks]:=by
 rw[<-qdD];show Nv _=_;rw[Nv]
def NA:∀es:List D,BC es=es.mapM (dec (X:=Rx))
 | []=>by simp[BC]
 | d::es=>by
   rw[BC,qBS,NA es];rfl
def qhg:∀d:D,JV d=dec (X:=List Rx) d:=λd=>by
 unfold JV;split
 ·rename_i n es;show _=if n=5 then es.mapM (dec (X:=Rx))else none
  rw[NA]
 ·rfl
 ·rename_i h1 h2;show _=(match d with
   | .list n es=>if n=5 then es.mapM (dec (X:=Rx))else none
   | .v (.slice none 0 0)=>some []
   | _=>none)
  split
  ·exact absurd rfl (h1 _ _)
  ·exact absurd rfl h2
  ·rfl
@[simp] theorem qxN(s:Rx):Rx.mk s.op s.mn s.mx s.rs s.kids=s:=by cases s;rfl
@[simp] theorem qxU(s:Rx):enc s= .agg [enc s.op,enc s.mn,enc s.mx,enc s.rs,enc s.kids]:=by cases s;exact qg2 ..
@[simp] theorem qy6:Cod.wd Rx=5:=i' rfl
@[simp] theorem qx4(a b c d h:D):dec (X:=Rx) (.agg [a,b,c,d,h])=((dec a).bind λa=>(dec b).bind λb=>(dec c).bind λc=>(dec d).bind λd=>(dec h).bind λh=>some ⟨a,b,c,d,h⟩):=by
 show Xw _=_;simp only[Xw,qhg]
structure Rp where
 s:B
 pos:Int
 fault:Int
 e:Int
def Rp.bump(p:Rp):Rp:={ p with pos:=p.pos+1 }
def NQ(p:Rp):Option Int:=
 if 200<p.s.size then none else
 if p.pos=p.s.size then some (-1)else
 if 0<=p.pos then match p.s.data[p.pos.toNat]? with
  |some c=>if c.toNat< 128 then some c.toNat else none
  |none=>none
 else none
def qj8(a:B)(c:Int):Bool:=a.data.toList.any λx=>decide ((x.toNat:Int)=c)
def kU(p:Rp)(_:Unit):Option (Rp×I32):=(NQ p).map λc=>(p,⟨c⟩)
def PN(p:Rp)(_:Unit):Option (Rp×Unit):=(NQ p).bind λc=>if 0<=c then some (p.bump,())else none
def Da(p:Rp)(_:B):Option (Rp× (I32×Bool)):=(NQ p).bind λc=>if c< 0\/c=92 then none else some (p.bump,⟨c⟩,true)
def qbU:B:=⟨#[92,91,93,94,45]⟩
def Wz(p:Rp)(_:Unit):Option (Rp× (I32×Bool)):=(NQ p).bind λc=>if c< 0\/qj8 qbU c=true then none else Da p qbU
def qeO(fr to:Int):Rx:=⟨1,0,0, [⟨⟨fr⟩,⟨to⟩⟩], []⟩
def sP(out:List Rng)(r:Rng):List Rng:=match out.getLast? with
 |some q=>if r.fr.val<=q.to.val+1 then out.dropLast++ [⟨q.fr,⟨max q.to.val r.to.val⟩⟩]else out++ [r]
 |none=>[r]
def H9(l:List Rng):Bool:=match l with
 | [x]=>decide (0<=x.fr.val/\x.fr.val<=1114111/\0<=x.to.val/\x.to.val<=1114111)
 | [x,y]=>decide (0<=x.fr.val/\x.fr.val<=1114111/\0<=x.to.val/\x.to.val<=1114111/\0<=y.fr.val/\y.fr.val<=1114111/\0<=y.to.val/\y.to.val<=1114111/\x.fr.val<=y.fr.val)
 | _=>false
def Gu(l:List Rng):List Rng:=l.foldl sP []
def qhy:Nat->Rp->List Rng->Option (Rp×List Rng)
 | 0,_,_=>none
 | n+1,p,l=>(NQ p).bind λc=>if l≠ []/\c=93 then some (p,l)else
   (Wz p ()).bind λq=>(NQ q.1).bind λd=>if d=45 then none else qhy n q.1 (l++ [⟨q.2.1,q.2.1⟩])
def qkH(p:Rp)(_:Unit):Option (Rp× (Rx×Bool)):=(NQ p).bind λa=>if a≠91 then none else(NQ p.bump).bind λc=>if c=94 then none else
 (qhy 100 p.bump []).bind λq=>if H9 q.2=true then some (q.1.bump,⟨1,0,0,Gu q.2, []⟩,true)else none
def qp1:B:=⟨#[92,46,91,93,40,41,123,125,124,42,43,63]⟩
def qb1(p:Rp)(_:Unit):Option (Rp× (Rx×Bool)):=(NQ p).bind λc=>
 if c=40 then none else if c=46 then some (p.bump,qeO 0 1114111,true)else if c=91 then qkH p ()else
 if c≠92/\qj8 qp1 c=true then none else(Da p qp1).map λq=>(q.1,qeO q.2.1.val q.2.1.val,q.2.2)
def OT(c:Int):Option (Int×Int):=if c=42 then some (0, -1)else if c=43 then some (1, -1)else if c=63 then some (0,1)else none
def qfw(p:Rp)(_:Unit):Option (Rp× (Rx×Bool)):=(qb1 p ()).bind λq=>if q.2.2=true then(NQ q.1).bind λc=>if c=123 then none else match OT c with
 |some m=>(NQ q.1.bump).bind λd=>if d=123\/(OT d).isSome=true then none else some (q.1.bump,⟨4,m.1,m.2, [], [q.2.1]⟩,true)
 |none=>some (q.1,q.2.1,true)
 else none
def XL:Nat->Rp->List Rx->Option (Rp×List Rx)
 | 0,_,_=>none
 | n+1,p,l=>(NQ p).bind λc=>if c< 0\/c=124\/c=41 then some (p,l)else
   (qfw p ()).bind λq=>if q.2.1.op=2 then none else XL n q.1 (l++ [q.2.1])
def Zs(op:Int):List Rx->Rx
 | [e]=>e
 |l=>⟨op,0,0, [],l⟩
def qhD(p:Rp)(_:Unit):Option (Rp× (Rx×Bool)):=(XL 100 p []).map λq=>(q.1,Zs 2 q.2,true)
def qer:Nat->Rp->List Rx->Option (Rp×List Rx)
 | 0,_,_=>none
 | n+1,p,l=>(qhD p ()).bind λq=>(NQ q.1).bind λc=>
   if q.2.1.op=3 then none else if c=124 then qer n q.1.bump (l++ [q.2.1])else some (q.1,l++ [q.2.1])
def qi2(p:Rp)(_:Unit):Option (Rp× (Rx×Bool)):=(qer 100 p []).map λq=>(q.1,Zs 3 q.2,true)
def qpV(f:Rx->Int->Int->Option (Bool×Int))(d:Int):List Rx->Int->Option (Bool×Int)
 | [],k=>some (true,k)
 |x::l,k=>(f x (d+1) k).bind λr=>if r.1=true then qpV f d l r.2 else some (false,r.2)
def xY:Nat->Rx->Int->Int->Option (Bool×Int)
 | 0=>λ_ _ _=>none
 |n+1=>λx d k=>if d< 0\/1000<d\/k< 0\/1000<k then none else if 40<d\/200<k+1 then some (false,k+1)else qpV (xY n) d x.kids (k+1)
def qbh(l:List Rng):Bool:=match l with
 | [r]=>decide (0<=r.fr.val/\r.fr.val<=r.to.val/\r.to.val<=1114111)
 | _=>false
def qqe(x:Rx):Bool:=
 if x.op=1 then decide (x.mn=0/\x.mx=0) && x.kids.isEmpty && qbh x.rs else
 if x.op=2 then decide (x.mn=0/\x.mx=0) && x.rs.isEmpty && decide (x.kids.length≠1/\x.kids.length<=300) && x.kids.all λk=>decide (k.op≠2)else
 if x.op=3 then decide (x.mn=0/\x.mx=0) && x.rs.isEmpty && decide (1<x.kids.length/\x.kids.length<=300) && x.kids.all λk=>decide (k.op≠3)else
 if x.op=4 then decide (0<=x.mn/\x.mn<=16/\(x.mx= -1\/x.mn<=x.mx/\x.mx<=16)) && x.rs.isEmpty && decide (x.kids.length=1)else false
def qc0:Nat->Rx->Bool
 | 0=>λ_=>false
 |n+1=>λx=>qqe x && x.kids.all (qc0 n)
def qp9(f:Rx->Option Int):List Rx->Int->Option Int
 | [],k=>some k
 |x::l,k=>(f x).bind λy=>if k< 0\/1000<k\/y< 0\/1000<y then none else qp9 f l (min (k+y) 65)
def qqb(x:Rx)(m:Int):Option Int:=
 if x.mx= -1 then(if -1000000<=m*max x.mn 1/\m*max x.mn 1<=1000000 then some (min (m*max x.mn 1) 65)else none)
 else if -1000000<=m*x.mx/\m*x.mx<=1000000 then some (min (m*x.mx) 65)else none
def Si:Nat->Rx->Option Int
 | 0=>λ_=>none
 |n+1=>λx=>if x.op=1 then some 1 else(qp9 (Si n) x.kids 0).bind λm=>if x.op≠4 then some m else qqb x m
def DF(n:Nat)(x:Rx):Bool:=(match xY n x 1 0 with|some r=>r.1|none=>false) && qc0 n x && (match Si n x with|some m=>decide (m<=64)|none=>false)
def wE(s:B):Bool:=s.data.toList.all λc=>decide (c.toNat< 128)
def lj(s:B):Option Rx:=if s.size<=200/\wE s=true then(qi2 ⟨s,0,0,0⟩ ()).bind λq=>if q.2.2=true/\q.1.pos=s.size/\DF 50 q.2.1=true then some q.2.1 else none else none
structure Prt where
 first:U64
 last:U64
 nul:Bool
deriving DecidableEq
instance:Cod Prt where
 wd:=3
 enc s:= .agg [enc s.first,enc s.last,enc s.nul]
 dec| .agg [a,b,c]=>(dec a).bind λa=>(dec b).bind λb=>(dec c).bind λc=>some ⟨a,b,c⟩|_=>none
 kn _:=rfl
 wid _:=rfl
 dec_enc s:=by simp
 le d x h:=by
  split at h
  ·simp only[qBb]at h;obtain⟨a,h0,b,h1,c,h2,h⟩:=h;cases h;exact LeL.agg (.cons (Cod.le _ _ h0) (.cons (Cod.le _ _ h1) (.cons (Cod.le _ _ h2) .nil)))
  ·cases h
@[simp] theorem quE(s:Prt):(Prt.mk s.first s.last s.nul)=s:=i' rfl
@[simp] theorem quL(s:Prt):enc s= .agg [enc s.first,enc s.last,enc s.nul]:=i' rfl
@[simp] theorem quT(a b c:D):dec (X:=Prt) (.agg [a,b,c])=((dec a).bind λa=>(dec b).bind λb=>(dec c).bind λc=>some ⟨a,b,c⟩):=i' rfl
structure Tbk where
 lvs:List (List Rng)
 fi:U64
 la:U64
 fol:List U64
 nul:Bool
def qdR(m:U64)(i:Nat):Bool:=decide (Yf .u64 (qcE .u64 m.val i) 1=1)
def qjB(a b:U64):U64:=⟨qoT .u64 a.val b.val⟩
def qbn(fr to:U64):Nat->List U64->List U64
 | _, []=>[]
 |i,f::l=>(if qdR fr i=true then qjB f to else f)::qbn fr to (i+1) l
def Gy(t:Tbk)(z:U64×U64):Option (Tbk×Unit):=if t.fol.length<=100000 then some ({ t with fol:=qbn z.1 z.2 0 t.fol },())else none
def qqx(a b:Prt):Prt:=⟨if a.nul=true then qjB a.first b.first else a.first,if b.nul=true then qjB b.last a.last else b.last,a.nul && b.nul⟩
def zR(t:Tbk)(z:Prt×Prt):Option (Tbk×Prt):=(Gy t (z.1.last,z.2.first)).map λq=>(q.1,qqx z.1 z.2)
def Eh:Prt:=⟨⟨0⟩,⟨0⟩,true⟩
def qwE:Prt:=⟨⟨0⟩,⟨0⟩,false⟩
def qrL(f:Tbk->Rx->Option (Tbk×Prt)):List Rx->Tbk->Prt->Option (Tbk×Prt)
 | [],t,p=>some (t,p)
 |x::l,t,p=>(f t x).bind λq=>(zR q.1 (p,q.2)).bind λr=>qrL f l r.1 r.2
def qdY(f:Tbk->Rx->Option (Tbk×Prt)):List Rx->Tbk->Prt->Option (Tbk×Prt)
 | [],t,p=>some (t,p)
 |x::l,t,p=>(f t x).bind λq=>qdY f l q.1 ⟨qjB p.first q.2.first,qjB p.last q.2.last,p.nul||q.2.nul⟩
def SG(t:Tbk):Bool:=decide (t.lvs.length<=1000/\t.fol.length<=1000)
def qn8(b r:Tbk->Rx->Option (Tbk×Prt))(t:Tbk)(x:Rx):Option (Tbk×Prt):=
 if SG t=false\/1000<x.kids.length then none else
 if x.op=1 then some ({ t with lvs:=t.lvs++ [x.rs],fol:=t.fol++ [⟨0⟩] },⟨⟨RN .u64 1 t.lvs.length⟩,⟨RN .u64 1 t.lvs.length⟩,false⟩)else
 if x.op=2 then qrL b x.kids t Eh else
 if x.op=3 then qdY b x.kids t qwE else r t x
def qp3(b:Tbk->Rx->Option (Tbk×Prt))(y:Rx)(mx:Int):Nat->Tbk->Prt->Option (Tbk×Prt×Bool)
 | 0,t,p=>some (t,p,false)
 | k+1,t,p=>if SG t=false then none else(b t y).bind λq=>if SG q.1=false then none else
   if q.1.lvs.length=t.lvs.length then some (q.1,Eh,true)else
   (if mx< 0/\k=0 then Gy q.1 (q.2.last,q.2.first)else some (q.1,())).bind λl=>(zR l.1 (p,q.2)).bind λr=>qp3 b y mx k r.1 r.2
def qfx(b:Tbk->Rx->Option (Tbk×Prt))(o:Tbk->Rx×Int->Option (Tbk×Prt))(t:Tbk)(x:Rx):Option (Tbk×Prt):=match x.kids with
 | []=>none
 | y::_=>if x.mn< 0\/100<x.mn\/x.mx< -1\/100<x.mx then none else
   (qp3 b y x.mx x.mn.toNat t Eh).bind λq=>if q.2.2=true then some (q.1,Eh)else
   if x.mx< 0/\x.mn=0 then(b q.1 y).bind λr=>(Gy r.1 (r.2.last,r.2.first)).map λl=>(l.1, { r.2 with nul:=true })else
   if x.mn<x.mx then(o q.1 (y,x.mx -x.mn)).bind λr=>zR r.1 (q.2.1,r.2)else some (q.1,q.2.1)
def qmY(b:Tbk->Rx->Option (Tbk×Prt))(o:Tbk->Rx×Int->Option (Tbk×Prt))(t:Tbk)(z:Rx×Int):Option (Tbk×Prt):=
 if z.2< 0\/100<z.2\/SG t=false then none else
 if z.2=0 then some (t,Eh)else
 (b t z.1).bind λq=>if SG q.1=false then none else
 if q.1.lvs.length=t.lvs.length then some (q.1,Eh)else
 (o q.1 (z.1,z.2 -1)).bind λr=>(zR r.1 (q.2,r.2)).map λl=>(l.1, { l.2 with nul:=true })
structure qA8 where
 b:Tbk->Rx->Option (Tbk×Prt)
 r:Tbk->Rx->Option (Tbk×Prt)
 o:Tbk->Rx×Int->Option (Tbk×Prt)
def EO:Nat->qA8
 | 0=>⟨λ_ _=>none,λ_ _=>none,λ_ _=>none⟩
 |n+1=>⟨qn8 (EO n).b (EO n).r,qfx (EO n).b (EO n).o,qmY (EO n).b (EO n).o⟩
def qAp:Tbk:=⟨[],⟨0⟩,⟨0⟩, [],false⟩
def qi5(n:Nat)(x:Rx):Option Tbk:=((EO n).b qAp x).map λq=>{ q.1 with fi:=q.2.first,la:=q.2.last,nul:=q.2.nul }
def qlA(set:U64):Nat->List U64->U64->U64
 | _, [],m=>m
 |i,f::l,m=>qlA set (i+1) l (if qdR set i=true then qjB m f else m)
def Ba(t:Tbk)(set:U64)(a:Bool):U64:=if a=true then t.fi else qlA set 0 t.fol ⟨0⟩
def TE(l:List Rng)(c:Int):Bool:=l.any λr=>decide (r.fr.val<=c) && decide (c<=r.to.val)
def qoX(next:U64)(c:I32):Nat->List (List Rng)->U64->U64
 | _, [],m=>m
 |i,l::ls,m=>qoX next c (i+1) ls (if qdR next i && TE l c.val then⟨qoT .u64 m.val (RN .u64 1 i)⟩else m)
def qi0(next:U64)(lvs:List (List Rng)):List I32->U64->U64
 | [],m=>m
 |v::vs,m=>qi0 next lvs vs (qoX next v 0 lvs m)
def qqn(t:Tbk)(b:I32->List I32):List I32->U64->Bool->Bool
 | [],set,a=>(a && t.nul)||decide (Yf .u64 set.val t.la.val≠0)
 |c::l,set,a=>if(qi0 (Ba t set a) t.lvs (b c) ⟨0⟩).val=0 then false else qqn t b l (qi0 (Ba t set a) t.lvs (b c) ⟨0⟩) false
def low(c:Int):Int:=if 65<=c/\c<=90 then c+32 else c
def Nh(c:I32):List I32:=([⟨low c.val⟩,⟨low c.val -32⟩,⟨low c.val -80⟩]:List I32).filter λv=>decide (0<=v.val/\low v.val=low c.val)
def YM(f:Bool)(c:I32):List I32:=if f=true then Nh c else[c]
def qkJ(l:List UInt8):List I32:=l.map λc=>⟨(c.toNat:Int)⟩
def yF(x:Rx)(s:B)(f:Bool):Option Bool:=if DF 50 x=true/\wE s=true/\s.size<=1000 then(qi5 50 x).bind λt=>if SG t=true then some (qqn t (YM f) (qkJ s.data.toList) ⟨0⟩ true)else none else none
instance:Inhabited Cond:=⟨⟨0,⟨#[]⟩,⟨#[]⟩,⟨#[]⟩,⟨#[]⟩,false, []⟩⟩
instance:Inhabited Pat:=⟨⟨0,default,⟨#[]⟩,⟨#[]⟩,0,0, []⟩⟩
def pi:Cond:=⟨0,⟨#[]⟩,⟨#[]⟩,⟨#[]⟩,⟨#[]⟩,false, []⟩
mutual
def dJ:Pat->Nat| .mk _ _ _ _ _ _ ks=>Wg ks+1
def Wg:List Pat->Nat|[]=>0|k::ks=>max (dJ k) (Wg ks)
end
mutual
def bb:Cond->Nat| .mk _ _ _ _ _ _ ks=>iQ ks+1
def iQ:List Cond->Nat|[]=>0|k::ks=>max (bb k) (iQ ks)
end
mutual
def eY:Pat->Nat| .mk _ _ _ _ _ _ ks=>bQ ks+1
def bQ:List Pat->Nat|[]=>0|k::ks=>eY k+bQ ks
end
theorem qbf(p:Pat):dJ p=Wg p.kids+1:=by cases p;rfl
theorem zC(p:Cond):bb p=iQ p.kids+1:=by cases p;rfl
def eP(p:Pat):eY p=bQ p.kids+1:=by cases p;rfl
def Qf{k:Pat} :∀{ks:List Pat},k∈ks->dJ k<=Wg ks
 | a::ks,h=>by
   rw[Wg];rcases qBt.1 h with rfl|h;omega
   ·have:=Qf h;omega
def Ck{k:Cond} :∀{ks:List Cond},k∈ks->bb k<=iQ ks
 | a::ks,h=>by
   rw[iQ];rcases qBt.1 h with rfl|h;omega
   ·have:=Ck h;omega
theorem jN{p k:Pat}(h:k∈p.kids):dJ k<dJ p:=by have:=Qf h;grind [qbf]
def BQ{p k:Cond}(h:k∈p.kids):bb k<bb p:=by have:=Ck h;grind [zC]
def fh{C:Pat->Prop}(h:∀p,(∀k∈p.kids,C k)->C p)(p:Pat):C p:=by
 generalize hn:dJ p=n
 induction n using Nat.strongRecOn generalizing p with
 | _ n a=>exact h p λk hk=>a (dJ k) (by grind [jN]) k rfl
mutual
def bX(f:Pat->Bool):Pat->Bool| .mk op c l r mn mx ks=>f ⟨op,c,l,r,mn,mx,ks⟩ && Lm f ks
def Lm(f:Pat->Bool):List Pat->Bool|[]=>true|k::ks=>bX f k && Lm f ks
end
def Nt(f:Pat->Bool):∀ks:List Pat,Lm f ks=ks.all (bX f)
 | []=>by rfl
 |k::ks=>by rw[Lm,Nt f ks,qCJ]
theorem cH(f:Pat->Bool)(p:Pat):bX f p=(f p && p.kids.all (bX f)):=by cases p;rw[bX,Nt]
mutual
def ct:Pat->Int->Bool| .mk _ _ _ _ _ _ ks,d=>decide (d<=100) && BZ ks (d+1)
def BZ:List Pat->Int->Bool|[],_=>true|k::ks,d=>ct k d && BZ ks d
end
def FK(d:Int):∀ks:List Pat,BZ ks d=ks.all (ct · d)
 | []=>by rfl
 |k::ks=>by rw[BZ,FK d ks,qCJ]
def mL(p:Pat)(d:Int):ct p d=(decide (d<=100) && p.kids.all (ct · (d+1))):=by cases p;rw[ct,FK]
def RO(p:Pat):∀d a:Int,a<=d->ct p d=true->ct p a=true:=by
 induction p using fh with|_ p b=>?_
 intro d a h;rw[mL,mL];grind
def qt(p:Pat):Prop:=(p.op=1/\p.reg=⟨#[]⟩/\p.mn=0/\p.mx=0/\p.kids=[])\/
 ((p.op=2\/p.op=3)/\p.cond=pi/\p.lab=⟨#[]⟩/\p.mn=0/\p.mx=0/\p.kids=[])\/
 ((p.op=4\/p.op=5)/\p.cond=pi/\p.lab=⟨#[]⟩/\p.reg=⟨#[]⟩/\p.mn=0/\p.mx=0/\2<=p.kids.length)\/
 (p.op=6/\p.cond=pi/\p.lab=⟨#[]⟩/\p.reg=⟨#[]⟩/\p.kids.length=1)
noncomputable def nG(p:Pat):Bool:= @decide (qt p) (Classical.propDecidable _)
def pQ(p:Pat):nG p=true↔qt p:= @decide_eq_true_iff (qt p) (Classical.propDecidable _)
def nE(p:Pat):Bool:=decide (p.op=6->0<=p.mn/\p.mn<=16/\(p.mx= -1\/p.mn<=p.mx/\p.mx<=16))
def mM(v:B->Bool)(p:Pat):Bool:=decide (((p.op=2\/p.op=3)->v p.reg=true)/\(p.lab≠ ⟨#[]⟩->v p.lab=true))
noncomputable def fk(v:B->Bool)(p:Pat):Bool:=ct p 1 && bX nG p && bX (mM v) p && bX nE p
theorem xp{v:B->Bool}{p k:Pat}(h:fk v p=true)(hk:k∈p.kids):fk v k=true:=by
 unfold fk at*;rw[cH,cH,cH nE,mL]at h;simp only[qBh,qBi]at h;obtain⟨⟨⟨⟨_,h1⟩,_,h2⟩,_,h3⟩,_,h4⟩:=h;rw[h2 k hk,h3 k hk,h4 k hk,RO k _ 1 (by omega) (h1 k hk)];rfl
def gE{v:B->Bool}{p:Pat}(h:fk v p=true):nG p=true/\mM v p=true/\nE p=true:=by
 unfold fk at*;rw[cH,cH,cH nE]at h;grind
def AJ(p:Pat)(n:Int):Int:=if p.kids=[]then 1 else if p.op=6 then(if p.mx= -1 then min (n* (p.mn+1)) 1000 else if p.mx=0 then n else min (n*p.mx) 1000)else n
mutual
def gw:Pat->Int| .mk op c l r mn mx ks=>AJ ⟨op,c,l,r,mn,mx,ks⟩ (eM ks 0)
def eM:List Pat->Int->Int|[],n=>n|k::ks,n=>eM ks (min (n+gw k) 1000)
end
def mV(p:Pat):gw p=AJ p (eM p.kids 0):=by cases p;rfl
def L5(a b:List Pat)(n:Int):eM (a++b) n=eM b (eM a n):=by
 induction a generalizing n<;>grind [eM]
def qec(seq:Bool)(a b:Int×Int):Int×Int:=
 if seq then(min (a.1+b.1) 10000,if a.2= -1\/b.2= -1 then -1 else min (a.2+b.2) 10000)else(min a.1 b.1,if a.2= -1\/b.2= -1 then -1 else max a.2 b.2)
mutual
def cq:Pat->Int×Int
 | .mk op _ _ _ mn mx ks=>if op=1 then(1,1)else if op=2\/op=3 then(0,0)else match ks with
   | []=>(0,0)
   |k::ks=>if op=6 then(min ((cq k).1*mn) 10000,if mx=0\/(cq k).2=0 then 0 else if mx= -1\/(cq k).2= -1 then -1 else min ((cq k).2*mx) 10000)else td (decide (op=4)) ks (cq k)
def td(seq:Bool):List Pat->Int×Int->Int×Int|[],w=>w|k::ks,w=>td seq ks (qec seq w (cq k))
end
def qcj(s:Bool)(a b:List Pat)(n:Int×Int):td s (a++b) n=td s b (td s a n):=by
 induction a generalizing n<;>grind [td]
theorem qld{p:Pat}(h:p.op=1):cq p=(1,1):=by cases p;simp only at h;unfold cq;grind
theorem qlc{p:Pat}(h:p.op=2\/p.op=3):cq p=(0,0):=by cases p;simp only at h;unfold cq;grind
def qla{p k:Pat}(h:p.op=6){ks:List Pat}(hk:p.kids=k::ks):cq p=(min ((cq k).1*p.mn) 10000,if p.mx=0\/(cq k).2=0 then 0 else if p.mx= -1\/(cq k).2= -1 then -1 else min ((cq k).2*p.mx) 10000):=by
 cases p;simp_all [cq]
def qlb{p k:Pat}(h:p.op=4\/p.op=5){ks:List Pat}(hk:p.kids=k::ks):cq p=td (decide (p.op=4)) ks (cq k):=by
 cases p;simp only at h hk;subst hk;rw[cq,if_neg (by omega),if_neg (by omega)];grind
mutual
def am:Pat->List Pat| .mk op c l r mn mx ks=>if op=1 then[⟨op,c,l,r,mn,mx,ks⟩]else Gz ks
def Gz:List Pat->List Pat|[]=>[]|k::ks=>am k++Gz ks
end
def JQ:∀ks:List Pat,Gz ks=ks.flatMap am
 | []=>by rfl
 |k::ks=>by rw[Gz,JQ ks,qCg]
theorem aV(p:Pat):am p=if p.op=1 then[p]else p.kids.flatMap am:=by cases p;rw[am,JQ]
def jP(p:Pat):(am p).length<=eY p:=by
 induction p using fh with|_ p a=>?_
 rw[aV,eP];split
 ·simp
 ·have:∀ks:List Pat,(∀k∈ks,(am k).length<=eY k)->(ks.flatMap am).length<=bQ ks:=by
   intro ks
   induction ks with
   |nil=>simp
   | cons k ks a=>
     grind [bQ]
  grind
def B7{p:Pat}(h:nG p=true):(p.op=1/\p.kids=[])\/((p.op=2\/p.op=3)/\p.kids=[])\/((p.op=4\/p.op=5)/\∃k ks,p.kids=k::ks)\/(p.op=6/\∃k,p.kids=[k]):=by
 rw[pQ]at h;unfold qt at h;rcases h with h|h|h|h;grind;grind
 ·refine .inr (.inr (.inl ⟨h.1,?_⟩));rcases hk:p.kids with _|⟨k,ks⟩;grind;simp
 ·refine .inr (.inr (.inr ⟨h.1,?_⟩));rcases hk:p.kids with _|⟨k,_|⟨a,ks⟩⟩;grind;simp;grind
def pp:∀(ks:List Pat) (n:Int),0<=n->n<=1000->(∀k∈ks,0<=gw k)->0<=eM ks n/\eM ks n<=1000
 | [],n,h0,h1,_=>by grind [eM]
 | k::ks,n,h0,h1,h=>by
   rw[eM];have:=h k (by simp);exact pp ks _ (by omega) (by omega) λx a=>h x (by grind)
def PO{v:B->Bool}(p:Pat):fk v p=true->0<=gw p/\gw p<=1000:=by
 induction p using fh with|_ p a=>?_
 intro h;have hk:=pp p.kids 0 (by omega) (by omega) λk hk=>(a k hk (xp h hk)).1
 have hn:=(gE h).2.2;unfold nE at hn;rw[decide_eq_true_eq]at hn;rw[mV];generalize eM p.kids 0=n at hk;unfold AJ;split;simp
 ·split
  ·rename_i h6;have hn:=hn h6;split
   ·have:0<=n* (p.mn+1):=qCT hk.1 (by omega);omega
   ·split;omega
    ·have:0<=n*p.mx:=qCT hk.1 (by omega);omega
  omega
def lW(w:Int×Int):Prop:=0<=w.1/\w.1<=10000/\ -1<=w.2/\w.2<=10000
def qau{s:Bool}{a b:Int×Int}(c:lW a)(hb:lW b):lW (qec s a b):=by
 grind [lW,qec]
theorem Un(s:Bool):∀(ks:List Pat) (w:Int×Int),lW w->(∀k∈ks,lW (cq k))->lW (td s ks w)
 | [],w,h,_=>by grind [td]
 | k::ks,w,h,hk=>by
   rw[td];exact Un s ks _ (qau h (hk k (by simp))) λx a=>hk x (by grind)
def Q3{v:B->Bool}(p:Pat):fk v p=true->lW (cq p):=by
 induction p using fh with|_ p b=>?_
 intro h;obtain⟨h1,_,hn⟩:=gE h;unfold nE at hn;rw[decide_eq_true_eq]at hn;rcases B7 h1 with⟨ho,_⟩|⟨ho,_⟩|⟨ho,k,ks,hk⟩|⟨ho,k,hk⟩
 grind [qld,lW];grind [qlc,lW]
 ·rw[qlb ho hk];grind [Un,xp]
 ·rw[qla ho hk];have a:=b k (by grind) (xp h (by grind));have hn:=hn ho;generalize cq k=w at a;unfold lW at*;have h1:0<=w.1*p.mn:=qCT a.1 hn.1;refine⟨by omega,by omega,?_⟩;simp only;split;simp
  ·split;simp
   ·have h2:0<=w.2*p.mx:=qCT (by omega) (by omega);omega
mutual
def cM:Cond->Nat| .mk _ _ _ _ _ _ ks=>fK ks+1
def fK:List Cond->Nat|[]=>0|k::ks=>cM k+fK ks
end
theorem qC(x:Cond):cM x=fK x.kids+1:=by cases x;rw[cM]
def B6:∀(a b:List Cond),fK (a++b)=fK a+fK b
 | [],b=>by rw[qCa,fK];omega
 |k::a,b=>by rw[qCd,fK,fK,B6 a b];omega
def QQ:∀(a b:List Cond),iQ (a++b)=max (iQ a) (iQ b)
 | [],b=>by rw[qCa,iQ];omega
 |k::a,b=>by rw[qCd,iQ,iQ,QQ a b];omega
def B5:∀{ks:List Cond} {k:Cond},k∈ks->cM k<=fK ks
 | x::ks,k,h=>by
   rw[fK];rcases qBt.1 h with rfl|h
   ·omega
   ·have:=B5 h;omega
def Ql{ks:List Cond}{k:Nat}{x:Cond}(h:ks[k]? =some x):fK (ks.take (k+1))=fK (ks.take k) +cM x/\iQ (ks.take (k+1))=max (iQ (ks.take k)) (bb x)/\fK (ks.take k) +cM x<=fK ks:=by
 have e:=au h;refine⟨by rw[e,B6,fK,fK];omega,by rw[e,QQ,iQ,iQ];omega,?_⟩
 conv=>rhs;rw[<-qBI (k+1) ks,B6]
 rw[e,B6,fK,fK];omega
def eT:B:=⟨#[]⟩
def dA(a:List Attr)(n:B):Int:=nK a λx=>decide (x.nm=n)
def pS(a:List Attr)(n:B):Int:=if n=eT then min 0 ((a.length:Int) -1)else dA a n
def qbZ(c:UInt8):Bool:=(decide (65<=c.toNat) && decide (c.toNat<=90))||(decide (97<=c.toNat) && decide (c.toNat<=122))||decide (c.toNat=95)
def qxp(c:UInt8):Bool:=qbZ c||(decide (48<=c.toNat) && decide (c.toNat<=57))||decide (c.toNat=45)
def IE(s:B):Bool:=decide (1<=s.size/\s.size<=32) && (match s.data.toList with|c::_=>qbZ c|[]=>false) && s.data.toList.all qxp
def A9(s:B):Bool:=decide (s.size<=120) && s.data.toList.all λc=>decide (32<=c.toNat/\c.toNat< 127)
def qcF(x:Cond):Bool:=
 if x.op=1 then decide (x.name=eT/\x.arg=eT/\x.val=eT/\x.lab=eT/\x.fold=false) && x.kids.isEmpty else
 if x.op=2 then decide (x.arg=eT/\x.lab=eT) && x.kids.isEmpty else
 if x.op=3 then decide (x.arg=eT/\x.lab=eT/\x.fold=false) && x.kids.isEmpty else
 if x.op=4 then decide (x.val=eT/\x.fold=false) && x.kids.isEmpty else
 if x.op=5 then decide (x.lab=eT/\x.fold=false/\(x.arg=eT->x.val=eT)) && x.kids.isEmpty else
 if x.op=6 then decide (x.name=eT/\x.arg=eT/\x.val=eT/\x.lab=eT/\x.fold=false) && decide (x.kids.length=1)else
 if x.op=7\/x.op=8 then decide (x.name=eT/\x.arg=eT/\x.val=eT/\x.lab=eT/\x.fold=false) && decide (2<=x.kids.length/\x.kids.length<=60)else false
def qjK(a:List Attr)(x:Cond):Bool:=
 if x.op=2 then decide (0<=pS a x.name)else
 if x.op=3 then decide (0<=dA a x.name)else
 if x.op=4 then decide (0<=dA a x.name/\0<=dA a x.arg)else
 if x.op=5 then IE x.name && (decide (x.arg=eT)||IE x.arg)else true
def qkS(s:B):Bool:=s.data.toList.any λc=>decide (c.toNat=124)
def qrU(a:List Attr)(lb:List B)(x:Cond):Bool:=
 if x.op=2 then(lj x.val).isSome else
 if x.op=3 then(match a[(dA a x.name).toNat]? with|some b=>b.st|none=>false) && decide (x.val≠eT) && !qkS x.val && A9 x.val else
 if x.op=4 then lb.any λl=>decide (l=x.lab)else
 if x.op=5 then A9 x.val else true
def mT(a:List Attr)(lb:List B)(x:Cond):Bool:=qcF x && qjK a x && qrU a lb x
def rc(a:List Attr)(lb:List B):Nat->Cond->Bool
 | 0=>λ_=>false
 |n+1=>λx=>mT a lb x && x.kids.all (rc a lb n)
def qjC(a:List Attr)(lb:List B)(x:Cond):Bool:=decide (cM x<=60/\bb x<=20) && rc a lb 20 x
end
end Go.Gv
