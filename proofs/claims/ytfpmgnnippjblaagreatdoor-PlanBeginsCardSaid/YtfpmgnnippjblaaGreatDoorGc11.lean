/- L1 -/
import Derived.Test.YtfpmgnnippjblaaGreatDoorProg
import Derived.Laws.RangeString
import Derived.Test.YtfpmgnnippjblaaGreatDoorGc10
set_option linter.all false
set_option maxRecDepth 100000
set_option maxHeartbeats 0
open Bool renaming forall_bool → fB', exists_bool → eB'
namespace Go.Gv
section
theorem au{α:Type}{l:List α}{k:Nat}{a:α}(h:l[k]? =some a):l.take (k+1)=l.take k++ [a]:=by
 grind [List.take_add_one]
def bE{α:Type}{l:List α}{k:Nat}{a:α}(h:l[k]? =some a):l.drop k=a::l.drop (k+1):=by
 grind [List.drop_eq_getElem_cons]
def aP{α:Type}{l:List α}{k:Nat}{a:α}(h:l[k]? =some a):a∈l:=qF7 h
def aR{α:Type}{l:List α}{k:Nat}(h:k<l.length):∃a,l[k]? =some a:=⟨l[k],qF6 h⟩
def B6(a b:Span):Prop:=a.b<b.b\/a.b=b.b/\a.e<b.e
instance (a b:Span):Decidable (B6 a b):=by unfold B6;infer_instance
theorem NG(a:Span):¬B6 a a:=by grind [B6]
theorem KZ{a b c:Span}(h:B6 a b)(k:B6 b c):B6 a c:=by grind [B6]
theorem Span.ext'{a b:Span}(h:a.b=b.b)(k:a.e=b.e):a=b:=by cases a;simp_all
theorem NF(a b:Span):B6 a b\/a=b\/B6 b a:=by
 by_cases h:a.b=b.b/\a.e=b.e;grind [Span.ext'];grind [B6]
def SS(l:List Span):Prop:=l.Pairwise B6
def SS.nil:SS []:=List.Pairwise.nil
def qcl:∀{a b:List Span},SS a->SS b->(∀x,x∈a↔x∈b)->a=b
 | [], [],_,_,_=>rfl
 | [],y::b,_,_,h=>by have:=(h y).2 (by simp);grind
 |x::a, [],_,_,h=>by have:=(h x).1 (by simp);grind
 | x::a,y::b,k,hb,h=>by
   have c:=qHl.1 k;have d:=qHl.1 hb;have j:x=y:=by
    rcases qGm.1 ((h x).1 (by simp))with e|e;omega
    ·rcases qGm.1 ((h y).2 (by simp))with e2|e2;grind;grind [KZ,NG]
   subst j;have:a=b:=qcl c.2 d.2 λz=>by
    grind [NG]
   grind
def IsNorm(l r:List Span):Prop:=SS r/\∀x,x∈r↔x∈l
def IsNorm.eq{l a r r':List Span}(h:IsNorm l r)(k:IsNorm a r')(hl:∀x,x∈l↔x∈a):r=r':=
 qcl h.1 k.1 λx=>(h.2 x).trans ((hl x).trans (k.2 x).symm)
def IsNorm.nil:IsNorm [] []:=⟨SS.nil,λ_=>qHB⟩
def IsNorm.congr{l a r:List Span}(h:IsNorm l r)(hl:∀x,x∈l↔x∈a):IsNorm a r:=⟨h.1,λx=>(h.2 x).trans (hl x)⟩
def qin:∀{r l:List Span},SS r->(∀x∈r,x∈l)->r.length<=l.length
 | [],l,_,_=>qGr _
 | x::r,l,h,hl=>by
   have a:=qHl.1 h;have b:=hl x (by simp);have:=qin (l:=l.erase x) a.2 λy c=>(List.mem_erase_of_ne (λ(e:y=x)=>NG x (by grind))).2 (hl y (by grind))
   grind
def IsNorm.len{l r:List Span}(h:IsNorm l r):r.length<=l.length:=qin h.1 λx a=>(h.2 x).1 a
def IsNorm.snoc{l a r r':List Span}{s:Span}(h:IsNorm l r)(k:IsNorm (r++ [s]) r')(hl:∀x,x∈a↔x∈l\/x=s):IsNorm a r':=
 ⟨k.1,λx=>(k.2 x).trans (by grind [IsNorm])⟩
def IsNorm.same{l a r:List Span}(h:IsNorm l r)(hl:∀x,x∈a↔x∈l):IsNorm a r:=⟨h.1,λx=>(h.2 x).trans (hl x).symm⟩
theorem ZZ{l:List Span}{s:Span}{k:Nat}(h:SS l)(hk:k<=l.length)(h1:∀x∈l.drop k,B6 s x)(h2:k=0\/ ∃y,l[k -1]? =some y/\ ¬B6 s y):
 (∀y,0<k->l[k -1]? =some y->y=s->IsNorm (l++ [s]) l)/\((∀y,0<k->l[k -1]? =some y->y≠s)->IsNorm (l++ [s]) (l.take k++s::l.drop k)):=by
 constructor;grind [IsNorm]
 ·intro a;have hs:SS (l.take k++l.drop k):=by simp_all
  obtain⟨p,hb,b⟩:=qG3.1 hs;have c:∀x∈l.take k,B6 x s:=by
   intro x q;rcases h2 with rfl|⟨y,r,hn⟩;grind
   ·rcases qHa k with rfl|hk0;grind;have d:B6 y s:=by
     grind [NF]
    have j:l.take k=l.take (k -1) ++ [y]:=by
     grind [au,Nat.sub_add_cancel]
    grind [KZ]
  refine⟨?_,λx=>?_⟩;grind [SS,List.pairwise_cons]
  ·have:x∈l↔x∈l.take k\/x∈l.drop k:=by
    rw[<-qGi,qGB]
   grind
def fL{X:Type} :List X->(X->Bool)->Int
 | [],_=> -1
 |x::l,p=>if p x then 0 else if fL l p< 0 then -1 else fL l p+1
theorem ig{X:Type}{p:X->Bool} :∀{l:List X},(∀y∈l,p y=false)->fL l p= -1
 | [],_=>rfl
 | x::l,h=>by
   have:=ig (l:=l) (λy a=>h y (by grind));grind [fL]
theorem pu{X:Type}{p:X->Bool} :∀{l:List X} {k:Nat} {x:X},l[k]? =some x->p x=true->(∀y∈l.take k,p y=false)->fL l p=k
 | [],k,x,a,_,_=>by grind
 | z::l,0,x,a,hp,_=>by
   grind [fL]
 | z::l,k+1,x,a,hp,hb=>by
   have hz:=hb z (by simp);have b:=pu (l:=l) (k:=k) (by grind) hp (λy c=>hb y (by grind));grind [fL]
theorem PW{X:Type}(p:X->Bool)(l:List X):(fL l p= -1/\∀y∈l,p y=false)\/ ∃k x,fL l p=(k:Nat)/\l[k]? =some x/\p x=true/\∀y∈l.take k,p y=false:=by
 induction l with
 |nil=>exact .inl ⟨rfl,by simp⟩
 | cons z l a=>
   by_cases hz:p z=true
   ·exact .inr ⟨0,z,by grind [fL],by simp,hz,by simp⟩
   ·have hz:p z=false:=by grind
    rcases a with⟨h1,h2⟩|⟨k,x,h1,h2,h3,h4⟩
    grind [fL]
    ·refine .inr ⟨k+1,x,?_,by grind,h3,λy b=>?_⟩;grind [fL];grind
theorem AO{X:Type}(p:X->Bool)(l:List X):decide (0<=fL l p)=l.any p:=by
 grind [PW]
def qts(r:List Span)(x:Span):List Span:=if r.getLast? =some x then r else r++ [x]
def wF(l:List Span):List Span:=l.foldl qts []
theorem Eg(l:List Span)(x:Span):wF (l++ [x])=qts (wF l) x:=by simp[wF]
def uG{α:Type}{P:List α->Prop}(h0:P [])(hs:∀l x,P l->P (l++ [x])):∀l,P l:=by
 intro l;have:∀n (l:List α),l.length=n->P l:=by
  intro n
  induction n with
  |zero=>grind
  | succ n b=>
    intro l hl;have a:l≠ []:=by grind
    rw[<-List.dropLast_concat_getLast a];grind
 grind
def TM(l:List Span):(wF l).getLast? =l.getLast?:=by
 refine uG (P:=λl=>(wF l).getLast? =l.getLast?) rfl (λl x a=>?_) l;grind [Eg,qts]
def qa0(l:List Span):∀x,x∈wF l↔x∈l:=by
 refine uG (P:=λl=>∀x,x∈wF l↔x∈l) (λx=>qHB) (λl y a x=>?_) l;grind [Eg,qts]
def WS(l:List Span):Prop:=l.Pairwise λa b=>¬B6 b a
def qoO{l:List Span}(h:WS l):SS (wF l):=by
 revert h;refine uG (P:=λl=>WS l->SS (wF l)) (λ_=>SS.nil) (λl x q h=>?_) l;have k:=qG3.1 h;have hs:=q k.1;rw[Eg,qts];split;omega
 ·rename_i c;refine qG3.2 ⟨hs,by simp,λa r b hb=>?_⟩;simp at hb;subst hb;have d:=(qa0 l a).1 r;rcases NF a b with h1|h1|h1;omega
  ·exfalso;subst h1;apply c;rw[TM];obtain⟨s,p,rfl⟩:=qIj d;have h3:=(qG3.1 k.1).2.1;have h4:=qHl.1 h3;cases j:p.getLast? with
   | none=>
     grind
   | some z=>
     have hz:z∈p:=List.mem_of_getLast? j;grind [NF]
  grind
def SS.filter{l:List Span}(h:SS l)(p:Span->Bool):SS (l.filter p):=List.Pairwise.filter p h
def IsNorm.filter{l r:List Span}(h:IsNorm l r)(p:Span->Bool):IsNorm (l.filter p) (r.filter p):=⟨h.1.filter p,λx=>by simp[h.2 x]⟩
def qiv(l:List Span)(i:Nat)(v:Span):(l.map Cod.enc).set i (.agg [.v (.int .i64 v.b), .v (.int .i64 v.e)])=(l.set i v).map Cod.enc:=by
 simp
def Qn{l:List Span}(h:l.length< 2):wF l=l:=by
 match l,h with
 | [],_=>rfl
 | [x],_=>rfl
 |x::y::l,h=>grind
theorem qlo{l:List Span}(h:1<=l.length):wF (l.take 1)=l.take 1:=Qn (by grind)
def TL{l:List Span}{j:Nat}{x y:Span}(b:1<=j)(a:l[j]? =some x)(c:l[j -1]? =some y):wF (l.take (j+1))=if x=y then wF (l.take j)else wF (l.take j) ++ [x]:=by
 rw[au a,Eg,qts,TM];grind
def rO{α:Type}{cur l:List α}{k m:Nat}{x:α}(hk:k<cur.length)(a:k<m)(b:cur.drop m=l.drop m):
 (cur.set k x).take (k+1)=cur.take k++ [x]/\(cur.set k x).drop m=l.drop m:=by
 grind [List.take_add_one,List.take_set_of_le,List.drop_set_of_lt]
def NL{α:Type}{a b:List α}{m i:Nat}(h:a.drop m=b.drop m)(hi:m<=i):a[i]? =b[i]?:=by
 have:=congrArg (λl=>l[i -m]?) h;grind
def uI{α:Type}{a b:List α}{m i:Nat}(h:a.drop m=b.drop m)(hi:m<=i):a.drop i=b.drop i:=by
 have:=congrArg (λl=>l.drop (i -m)) h;grind [List.drop_drop]
def qhd(s:ByteArray)(p:Nat)(h:p<s.size):1<=(Utf8.decode s p).2/\p+ (Utf8.decode s p).2<=s.size:=by
 unfold Utf8.decode;grind
namespace G
variable {α:Type}
def fc(n:Nat)(f:Nat->α):α:=match n with
 | 0=>f 0
 |k+1=>f (k+1)
def bt(t:Nat):Nat:=Nat.shiftLeft 1 t
def oM:Operand->Nat
 | .tmp t=>bt t
 | _=>0
def qEn:List Operand->Nat
 | []=>0
 |o::l=>Nat.lor (oM o) (qEn l)
def qEa:CI->Nat
 | .op _ g c=>Nat.lor (qEn c.ops) (match g with|some (s,_)=>bt s|none=>0)
 | .frz _ _=>0
def rm(m t:Nat):Nat:=Nat.sub m (Nat.land m (bt t))
def qys:List CI->Nat->Nat
 | [],o=>o
 | x::l,o=>fc (qys l o) λo=>match x with
   | .op (some d) g c=>Nat.lor (rm o d) (qEa (.op (some d) g c))
   | .op none g c=>Nat.lor o (qEa (.op none g c))
   | .frz _ _=>o
def lk:List (Nat×Nat)->Nat->Nat
 | [],_=>0
 | (i,m)::l,k=>match Nat.beq i k with
  |true=>m
  |false=>lk l k
def qB0:Nat->(Nat->Nat)->Nat->Nat
 | 0,_,c=>c
 | n+1,f,c=>fc (Nat.lor c (f c)) λd=>match Nat.beq d c with
   |true=>d
   |false=>qB0 n f d
def lv(r:Nat):CC->List (Nat×Nat)->Nat->Nat
 | .skip,_,o=>o
 | .reg l,_,o=>qys l o
 | .regd p t,_,o=>fc (qys t o) (qys p)
 | .seq a b,e,o=>fc (lv r b e o) (lv r a e)
 | .ite c a b,e,o=>Nat.lor (Nat.lor (lv r a e o) (lv r b e o)) (oM c)
 | .block i b,e,o=>lv r b ((i,o)::e) o
 | .loop _ b,e,_=>qB0 50 (lv r b e) 0
 | .exit i,e,_=>lk e i
 | .ret,_,_=>r
 | .cut _ c,e,o=>lv r c e o
 | .keep _ _ c,e,o=>lv r c e o
def gt(W x t:Nat):Nat:=Nat.land (Nat.shiftRight x (Nat.mul t W)) (Nat.sub (bt W) 1)
def ad(W x t m:Nat):Nat:=Nat.lor x (Nat.shiftLeft m (Nat.mul t W))
def hO(W h:Nat):Operand->Nat
 | .tmp t=>gt W h t
 | _=>0
def qtn(W h:Nat):List Operand->Nat
 | []=>0
 |o::l=>Nat.lor (hO W h o) (qtn W h l)
def qlH:Nat->Nat->Nat->List Nat
 | 0,_,_=>[]
 | n+1,i,m=>match Nat.beq m 0 with
   |true=>[]
   | false=>match Nat.beq (Nat.land m 1) 1 with
     |true=>i::qlH n (i+1) (Nat.shiftRight m 1)
     |false=>qlH n (i+1) (Nat.shiftRight m 1)
def bl(m:Nat):List Nat:=qlH 1000 0 m
def qhy(f:Nat->Nat):List Nat->Nat
 | []=>0
 |i::l=>Nat.lor (f i) (qhy f l)
def qqH(W:Nat)(f:Nat->Nat):List Nat->Nat->Nat
 | [],c=>c
 |i::l,c=>fc (ad W c i (f i)) (qqH W f l)
def qFj(W:Nat)(x:CI)(h c:Nat)(K:Nat->Nat->α):α:=match x with
 | .frz _ _=>K h c
 | .op d _ o=>
   let put (m:Nat):α:=match d with
    |some d=>fc (ad W h d m) λh=>K h c
    |none=>K h c
   let own:Nat:=match d with
    |some d=>bt d
    |none=>0
   let a (s:Nat):α:=fc s λs=>fc (qqH W (λi=>rm s i) (bl s) c) λc=>match d with
    |some d=>fc (ad W h d s) λh=>K h c
    |none=>K h c
   match o with
   | .alloc _ _=>put own
   | .nslice _ _=>put own
   | .mslice _ _ _=>put own
   | .mkslice _ _ _ _ _ _ _=>put own
   | .srange _=>put own
   | .appmk _ _ _ _ _ _ _=>put own
   | .m .mk _=>put own
   | .m .rng (x::_)=>fc (qqH W (λ_=>hO W h x) (bl own) c) λc=>match d with
     |some d=>fc (ad W h d own) λh=>K h c
     |none=>K h c
   | .m (.del _ _) _=>K h c
   | .m .len _=>K h c
   | .m (.upd _ _) (x::b)=>fc (qtn W h b) λv=>fc (qqH W (λ_=>v) (bl (hO W h x)) c) λc=>K h c
   | .m (.look _ _ _ _ _) (x::_)=>put (qhy (gt W c) (bl (hO W h x)))
   | .m .entry (x::_)=>put (qhy (gt W c) (bl (hO W h x)))
   | .load _ _ x=>put (qhy (gt W c) (bl (hO W h x)))
   | .tbx _ x=>fc (qqH W (λ_=>hO W h x) (bl own) c) λc=>match d with
     |some d=>fc (ad W h d own) λh=>K h c
     |none=>K h c
   | .box _ false x=>fc (qqH W (λ_=>hO W h x) (bl own) c) λc=>match d with
     |some d=>fc (ad W h d own) λh=>K h c
     |none=>K h c
   | .store _ _ x y=>fc (hO W h y) λv=>fc (qqH W (λ_=>v) (bl (hO W h x)) c) λc=>K h c
   | .append _ _ _ _ x _=>put (Nat.lor own (hO W h x))
   | .call _ xs=>a (qtn W h xs)
   | .callb _ _ xs=>a (qtn W h xs)
   | .callv f xs=>put (Nat.lor (qtn W h xs) (hO W h f))
   |o=>put (qtn W h o.ops)
def qpr(W:Nat):List CI->Nat->Nat->(Nat->Nat->α)->α
 | [],h,c,K=>K h c
 |x::l,h,c,K=>qFj W x h c λh c=>qpr W l h c K
def qqD(W:Nat):CC->Nat->Nat->(Nat->Nat->α)->α
 | .reg l,h,c,K=>qpr W l h c K
 | .regd p t,h,c,K=>qpr W p h c λh c=>qpr W t h c K
 | .seq a b,h,c,K=>qqD W a h c λh c=>qqD W b h c K
 | .ite _ a b,h,c,K=>qqD W a h c λh c=>qqD W b h c K
 | .block _ b,h,c,K=>qqD W b h c K
 | .loop _ b,h,c,K=>qqD W b h c K
 | _,h,c,K=>K h c
def fx(W:Nat)(cc:CC):Nat->Nat->Nat->(Nat->Nat->α)->α
 | 0,h,c,K=>K h c
 | n+1,h,c,K=>qqD W cc h c λa c'=>match Nat.beq h a with
   |false=>fx W cc n a c' K
   | true=>match Nat.beq c c' with
     |false=>fx W cc n a c' K
     |true=>K h c
def cl(W c:Nat):Nat->Nat->Nat
 | 0,s=>s
 | n+1,s=>fc (Nat.lor s (qhy (gt W c) (bl s))) λt=>match Nat.beq t s with
   |true=>s
   |false=>cl W c n t
def quY:Value->Bool
 | .int .i64 k=>decide (k=1)
 | _=>false
def qFz:List CI->Option (Nat×Nat×Nat)
 | [.op (some c) none (.cmp .lss (.tmp i) (.tmp n))]=>some (c,i,n)
 | _=>none
def qyQ:List CI->Option (Nat×Nat)
 | [.op (some a) none (.arith .add (.tmp i) (.const v)), .op (some j) none (.mv (.tmp j2))]=>match quY v && Nat.beq i j && Nat.beq a j2 with
   |true=>some (a,i)
   |false=>none
 | _=>none
def qB1(id:Nat):CC->Option (Nat×Nat×Nat×Nat×Nat)
 | .loop _ (.seq (.reg l) (.seq (.ite (.tmp c2) .skip (.exit a)) (.seq (.block b _) (.reg d))))=>match qFz l,qyQ d with
   | some (c,i,n),some (k,j)=>match Nat.beq id a && Nat.beq c c2 && Nat.beq i j with
     |true=>some (i,n,c,b,k)
     |false=>none
   | _,_=>none
 | _=>none
def qoP:CC->Nat
 | .seq a b=>qoP a+qoP b+1
 | .ite _ a b=>qoP a+qoP b
 | .block i b=>match qB1 i b with
   |some _=>qoP b -3
   |none=>qoP b
 | .loop _ b=>qoP b
 | _=>0
def oj:CC->Nat
 | .seq a b=>oj a+oj b
 | .ite _ a b=>oj a+oj b
 | .block i b=>match qB1 i b with
   |some _=>oj b -1
   |none=>oj b
 | .loop _ b=>oj b+1
 | _=>0
def uk:CC->CC
 | .keep _ _ c=>c
 |c=>c
def qFT(b:CC):CC:=match b with
 | .loop _ b=>match uk b with
   | .seq _ b=>match uk b with
     | .seq _ b=>match uk b with
       | .seq a _=>match uk a with
         | .block _ b=>b
         | _=> .skip
       | _=> .skip
     | _=> .skip
   | _=> .skip
 | _=> .skip
section
variable (f:Operand->Operand)(z:List Value->List Value)
def pC:COp->COp
 | .mv x=> .mv (f x)
 | .pick c x y=> .pick (f c) (f x) (f y)
 | .alloc el l=> .alloc el (z l)
 | .box el im x=> .box el im (f x)
 | .tbx el x=> .tbx el (f x)
 | .build l d=> .build (z l) (d.map λp=>(p.1,p.2.1,f p.2.2))
 | .bslice el n d=> .bslice el n (d.map f)
 | .nslice el n=> .nslice el n
 | .mslice el n d=> .mslice el n (d.map f)
 | .load a s x=> .load a s (f x)
 | .store r s x y=> .store r s (f x) (f y)
 | .nilck x=> .nilck (f x)
 | .arith o x y=> .arith o (f x) (f y)
 | .cmp o x y=> .cmp o (f x) (f y)
 | .eql n a ks x y=> .eql n a ks (f x) (f y)
 | .scat x y=> .scat (f x) (f y)
 | .not x=> .not (f x)
 | .neg x=> .neg (f x)
 | .conv k x=> .conv k (f x)
 | .clo g l=> .clo g (l.map f)
 | .mkslice el n b a l x y=> .mkslice el n b a (z l) (f x) (f y)
 | .slice n x l h=> .slice n (f x) (l.map f) (h.map f)
 | .sslice x l h=> .sslice (f x) (l.map f) (h.map f)
 | .faddr o x=> .faddr o (f x)
 | .fld a s o x=> .fld a s o (f x)
 | .iaddr n x i=> .iaddr n (f x) (f i)
 | .sidx x i=> .sidx (f x) (f i)
 | .ext x i=> .ext (f x) i
 | .len x=> .len (f x)
 | .slen x=> .slen (f x)
 | .mm m l=> .mm m (l.map f)
 | .append r el n b x y=> .append r el n b (f x) (f y)
 | .appmk el n b a l x y=> .appmk el n b a (z l) (f x) (f y)
 | .clear n a l x=> .clear n a (z l) (f x)
 | .copy n x y=> .copy n (f x) (f y)
 | .cap x=> .cap (f x)
 | .srange x=> .srange (f x)
 | .snext x=> .snext (f x)
 | .sbytes x=> .sbytes (f x)
 | .srunes x=> .srunes (f x)
 | .bstr x=> .bstr (f x)
 | .rstr x=> .rstr (f x)
 | .mkif t x=> .mkif t (f x)
 | .m (.look ok a ka ks l) xs=> .m (.look ok a ka ks (z l)) (xs.map f)
 | .m o xs=> .m o (xs.map f)
 | .bad=> .bad
 | .call g l=> .call g (l.map f)
 | .callv g l=> .callv (f g) (l.map f)
 | .callb r g l=> .callb r g (l.map f)
def pL(fz:List (Nat×Nat)):List CI->List CI
 | []=>[]
 | .op (some d) g c::l=>match fz.lookup d with
   |some n=> .op (some d) g (pC f z c):: .frz d n::pL fz l
   |none=> .op (some d) g (pC f z c)::pL fz l
 | .op none g c::l=> .op none g (pC f z c)::pL fz l
 | .frz t n::l=> .frz t n::pL fz l
end
structure Opt where
 bx:List Nat:=[]
 fz:List (Nat×Nat):=[]
 cu:List Nat:=[]
 ke:List Nat:=[]
 kz:List Nat:=[]
abbrev PF:=(rg:Nat->Nat->Nat->Nat->Nat->CC->Nat->CC)->(sm:Nat->CC->CC->CC)->(kk:{_:Value} ->Operand)->(zk:IntKind->Value)->(ze zb zs zp zm zf:Value)->CC
section
variable (kk:{_:Value} ->Operand)(zk:IntKind->Value)(ze zb zs zp zm zf:Value)
def pO:Operand->Operand
 | .const v=> @kk v
 | .tmp t=> .tmp t
 | .global g=> .global g
 | .func f=> .func f
def pZ:List Value->List Value
 | []=>[]
 | v::l=>(match v with
   | .int k _=>zk k
   | .string _=>ze
   | .bool _=>zb
   | .slice _ _ _=>zs
   | .pointer _=>zp
   | .map _=>zm
   | _=>zf)::pZ l
end
section
variable (rg:Nat->Nat->Nat->Nat->Nat->CC->Nat->CC)(sm:Nat->CC->CC->CC)(f:Operand->Operand)(z:List Value->List Value)(op:Opt)(W h c r:Nat)
def qDH(l:List Nat):List Nat:=op.ke.filter (λx=>!l.contains x) ++l++op.kz
def an:CC->List (Nat×Nat)->Nat->Nat->Nat->Nat->CC
 | .skip,_,_,_,_,_=> .skip
 | .reg l,_,_,_,_,_=> .reg (pL f z op.fz l)
 | .regd p l,_,_,_,_,_=> .regd (pL f z op.fz p) (pL f z op.fz l)
 | .seq a b,e,o,m,k,s=>fc (lv r b e o) λp=>fc (match s with|0=>m+1|_=>m) λt=>
   let d:=an a e p t k 0
   let b':=an b e o (t+qoP a) (k+oj a) (s -1)
   let b2:=match a with
    | .skip=>b'
    | _=> .keep (bl p) (qDH op (bl (cl W c 5 (qhy (gt W h) (bl p))))) b'
   match s with
   | 0=>match op.cu.contains m with
     |true=>sm m d b2
     |false=> .seq d b2
   | _=> .seq d b2
 | .ite q a b,e,o,m,k,_=> .ite (f q) (an a e o m k 0) (an b e o (m+qoP a) (k+oj a) 0)
 | .block i b,e,o,m,k,_=>match qB1 i b with
   |some (u,n,c,j,w)=>rg i u n c j (qFT (an b ((i,o)::e) o m k 3)) w
   |none=> .block i (an b ((i,o)::e) o m k 0)
 | .loop _ b,e,_,m,k,s=>fc (qB0 50 (lv r b e) 0) λo=>match s with
   | 0=> .loop k (an b e o m (k+1) 0)
   | _=> .loop 0 (an b e o m k s)
 | .exit i,_,_,_,_,_=> .exit i
 | .ret,_,_,_,_,_=> .ret
 | .cut _ c,e,o,m,k,s=>an c e o m k s
 | .keep _ _ c,e,o,m,k,s=>an c e o m k s
end
def qpw(W:Nat):List Nat->Nat
 | []=>0
 |t::l=>ad W (qpw W l) t (bt t)
def qqR:List ResultVar->Nat
 | []=>0
 | .tmp t::l=>Nat.lor (bt t) (qqR l)
 | .cell t _::l=>Nat.lor (bt t) (qqR l)
def qEL(P:Program)(neg:Bool)(t:TypeId)(x y:Operand):COp:=match P.underlying t with
 |some (.struct fs)=> .eql neg true (fs.toList.map λf=>(mB P f.type).getD .int) x y
 | _=> .eql neg false [(mB P t).getD .int] x y
def qDi(P:Program)(im:List Nat)(ops:Array Oper)(o:Oper):CI:= .op o.dst ((IV ops o).getD none) (match o.op with
 | .binOp .eql t x y _=>qEL P false t x y
 | .binOp .neq t x y _=>qEL P true t x y
 | _=>(cV P im o).getD .bad)
def cC(P:Program)(im:List Nat):Code->CC
 | .region _ ops false=> .reg (ops.toList.map (qDi P im ops))
 | .region _ ops true=> .regd (qeC ops (ops.toList.map (qDi P im ops)) (cQ ops)) ((ops.toList.map (qDi P im ops)).drop (cQ ops))
 | .seq a b=> .seq (cC P im a) (cC P im b)
 | .cond c a b=> .ite c (cC P im a) (cC P im b)
 | .block id b=> .block id (cC P im b)
 | .loop b=> .loop 0 (cC P im b)
 | .exit id=> .exit id
 | .ret=> .ret
 | _=> .skip
def gn(P:Program)(fn:Func)(im:List Nat)(op:Opt):PF:=λrg sm kk zk ze zb zs zp zm zf=>match fn.body with
 |none=> .skip
 | some code=>fc (qpw fn.ntmps op.bx) λh0=>fx fn.ntmps (cC { P with cutTypes:= #[] } im code) 6 h0 0 λh c=>fc (qqR fn.results.toList) λr=>
   an rg sm (pO @kk) (pZ zk ze zb zs zp zm zf) op fn.ntmps h c r (cC { P with cutTypes:= #[] } im code) [] r 0 1 0
def rw_(P:Program)(fn:Func)(im:List Nat):CC:=match fn.body with
 |none=> .skip
 |some code=>cC { P with cutTypes:= #[] } im code
def ap(c:PF):CC:=c wN qcp (λ{v} => .const v) (λk=> .int k 0) (.string ⟨#[]⟩) (.bool false) (.slice none 0 0) (.pointer none) (.map none) .nilFunc
end G
open Go.Proofs
abbrev oA(d s:Nat):CI:= .op (some d) none (.mv (.tmp s))
abbrev oB(d:Nat)(c:COp):CI:= .op (some d) none c
abbrev oC(d w s:Nat):CI:= .op (some d) none (.load false w (.tmp s))
abbrev oD(d w s:Nat):CI:= .op (some d) none (.load true w (.tmp s))
abbrev oE(d n s:Nat):CI:= .op (some d) none (.faddr n (.tmp s))
abbrev oF(w a b:Nat):CI:= .op none none (.store none w (.tmp a) (.tmp b))
abbrev oG(d s:Nat):CI:= .op (some d) none (.nilck (.tmp s))
abbrev oH(d g:Nat)(c:COp):CI:= .op (some d) (some (g,true)) c
abbrev oI(d g:Nat)(c:COp):CI:= .op (some d) (some (g,false)) c
abbrev oT(n:Nat):Operand:= .tmp n
abbrev oK(v:Value):Operand:= .const v
abbrev oN(n:Int):Operand:= .const (.int .i64 n)
abbrev oS(b:ByteArray):Operand:= .const (.string b)
abbrev oi:Value:= .int .i64 0
abbrev oe:Value:= .string ⟨#[]⟩
abbrev ob:Value:= .bool false
abbrev on:Value:= .slice none 0 0
abbrev oZ(d f:Nat)(l:List Operand):CI:= .op (some d) none (.call f l)
abbrev oX(l:List CI)(a b:List Nat)(x:CC):CC:= .seq (.reg l) (.keep a b x)
abbrev vP:Nat:=4
abbrev WJ:Nat:=6
abbrev tG:Nat:=7
abbrev vM:Nat:=8
abbrev pP:Nat:=9
abbrev AW:Nat:=11
abbrev pE:Nat:=12
abbrev rh:Nat:=13
abbrev vO:Nat:=15
abbrev rZ:Nat:=16
abbrev AQ:Nat:=17
abbrev nn:Nat:=18
abbrev pD:Nat:=19
abbrev ye:Nat:=20
abbrev Ds:Nat:=21
abbrev Gz:Nat:=23
abbrev pN:Nat:=24
abbrev bS:Nat:=25
abbrev A1:Nat:=26
abbrev il:Nat:=27
abbrev rf:Nat:=28
abbrev Dt:Nat:=29
abbrev ff:Nat:=30
abbrev tF:Nat:=31
abbrev ft:Nat:=32
abbrev pK:Nat:=33
abbrev vE:Nat:=34
abbrev fZ:Nat:=36
abbrev gu:Nat:=37
abbrev iZ:Nat:=38
abbrev wV:Nat:=39
abbrev lO:Nat:=40
abbrev wU:Nat:=41
abbrev fT:Nat:=42
abbrev tI:Nat:=43
abbrev ui:Nat:=44
abbrev re:Nat:=45
abbrev AV:Nat:=46
abbrev AT:Nat:=47
abbrev vJ:Nat:=48
abbrev gM:Nat:=49
abbrev AS:Nat:=50
abbrev vN:Nat:=51
abbrev Qa:Nat:=52
abbrev WI:Nat:=53
abbrev A3:Nat:=54
abbrev sP:Nat:=55
abbrev pH:Nat:=56
abbrev vK:Nat:=57
abbrev vL:Nat:=58
abbrev wZ:Nat:=59
abbrev Dp:Nat:=60
abbrev kZ:Nat:=61
abbrev vI:Nat:=62
abbrev vG:Nat:=63
abbrev yd:Nat:=64
abbrev sO:Nat:=65
abbrev eI:Nat:=66
abbrev db:Nat:=67
abbrev dE:Nat:=68
abbrev eJ:Nat:=69
abbrev aQ:Nat:=70
abbrev pJ:Nat:=71
abbrev mZ:Nat:=72
abbrev ed:Nat:=73
abbrev mW:Nat:=74
abbrev lL:Nat:=75
abbrev nX:Nat:=76
abbrev aK:Nat:=77
abbrev jG:Nat:=78
abbrev ra:Nat:=79
abbrev AU:Nat:=80
abbrev pG:Nat:=81
abbrev ya:Nat:=82
abbrev vD:Nat:=83
abbrev pS:Nat:=84
abbrev gA:Nat:=85
abbrev ku:Nat:=86
abbrev qde:Nat:=87
abbrev Le:Nat:=88
abbrev Lc:Nat:=89
abbrev Lb:Nat:=90
abbrev I1:Nat:=91
abbrev R3:Nat:=92
abbrev GB:Nat:=93
abbrev I2:Nat:=94
abbrev Ng:Nat:=95
abbrev K6:Nat:=96
abbrev K9:Nat:=97
abbrev ux:Nat:=98
abbrev bH:Nat:=99
abbrev gL:Nat:=100
abbrev fC:Nat:=101
abbrev eR:Nat:=102
abbrev GE:Nat:=103
abbrev sF:Nat:=104
abbrev vQ:Nat:=105
abbrev nF:Nat:=106
abbrev wT:Nat:=108
abbrev iY:Nat:=109
abbrev sK:Nat:=110
abbrev Dl:Nat:=111
abbrev wW:Nat:=112
abbrev uy:Nat:=113
abbrev kA:Nat:=114
abbrev jO:Nat:=115
abbrev gw:Nat:=116
abbrev vH:Nat:=117
abbrev ld:Nat:=118
abbrev na:Nat:=119
abbrev fp:Nat:=120
abbrev dA:Nat:=121
abbrev dF:Nat:=122
abbrev bN:Nat:=123
abbrev da:Nat:=124
abbrev iX:Nat:=125
abbrev bb:Nat:=126
abbrev rY:Nat:=127
abbrev dG:Nat:=128
abbrev ip:Nat:=129
abbrev cB:Nat:=130
abbrev pT:Nat:=131
abbrev cH:Nat:=132
abbrev pI:Nat:=133
abbrev jy:Nat:=134
abbrev mX:Nat:=135
abbrev ez:Nat:=136
abbrev gz:Nat:=137
abbrev Dj:Nat:=138
abbrev iC:Nat:=139
abbrev rc:Nat:=140
abbrev sI:Nat:=141
abbrev jv:Nat:=142
abbrev ju:Nat:=143
abbrev P6:Nat:=144
abbrev ga:Nat:=145
abbrev nY:Nat:=146
abbrev cA:Nat:=147
abbrev aN:Nat:=148
abbrev yg:Nat:=149
abbrev pU:Nat:=150
abbrev kw:Nat:=151
abbrev yf:Nat:=152
abbrev bV:Nat:=153
abbrev dQ:Nat:=154
abbrev nH:Nat:=155
abbrev cj:Nat:=156
abbrev cM:Nat:=157
abbrev P5:Nat:=158
abbrev R2:Nat:=159
abbrev qaz:Nat:=160
abbrev K7:Nat:=161
abbrev Jb:Nat:=162
abbrev GD:Nat:=163
abbrev mY:Nat:=164
abbrev io:Nat:=165
abbrev lN:Nat:=166
abbrev tE:Nat:=168
abbrev AR:Nat:=169
abbrev Dk:Nat:=170
abbrev np:Nat:=171
abbrev sJ:Nat:=174
abbrev sH:Nat:=175
abbrev rW:Nat:=176
abbrev rX:Nat:=177
abbrev GO:Nat:=178
abbrev yc:Nat:=179
abbrev rb:Nat:=180
abbrev AY:Nat:=181
abbrev Dm:Nat:=182
abbrev yb:Nat:=183
abbrev Dq:Nat:=184
abbrev Dn:Nat:=185
abbrev jx:Nat:=186
abbrev lM:Nat:=187
abbrev aO:Nat:=188
abbrev jz:Nat:=189
abbrev ct:Nat:=190
abbrev fb:Nat:=191
abbrev lc:Nat:=192
abbrev pQ:Nat:=193
abbrev pR:Nat:=194
abbrev sa:Nat:=195
abbrev vB:Nat:=196
abbrev cL:Nat:=197
abbrev dD:Nat:=198
abbrev gc:Nat:=199
abbrev eZ:Nat:=200
abbrev fe:Nat:=201
abbrev vF:Nat:=202
abbrev GH:Nat:=203
abbrev sM:Nat:=204
abbrev GJ:Nat:=205
abbrev EJ:Nat:=206
abbrev P8:Nat:=207
abbrev rV:Nat:=208
abbrev pB:Nat:=209
abbrev xZ:Nat:=210
abbrev tH:Nat:=211
abbrev nG:Nat:=212
abbrev eY:Nat:=213
abbrev bZ:Nat:=214
abbrev fa:Nat:=215
abbrev ck:Nat:=216
abbrev iV:Nat:=217
abbrev eQ:Nat:=218
abbrev K8:Nat:=219
abbrev EI:Nat:=220
abbrev Ja:Nat:=221
abbrev mV:Nat:=222
abbrev kW:Nat:=223
abbrev pM:Nat:=233
abbrev sG:Nat:=234
abbrev pF:Nat:=243
abbrev Nk:Nat:=244
abbrev qaC:Nat:=245
abbrev Do:Nat:=246
abbrev wY:Nat:=247
abbrev uw:Nat:=248
abbrev GP:Nat:=249
abbrev A0:Nat:=250
abbrev AZ:Nat:=251
abbrev gy:Nat:=252
abbrev A2:Nat:=253
abbrev kV:Nat:=254
abbrev pV:Nat:=256
abbrev eH:Nat:=257
abbrev fR:Nat:=258
abbrev wX:Nat:=259
abbrev jw:Nat:=260
abbrev Je:Nat:=261
abbrev bQ:Nat:=262
abbrev EM:Nat:=263
abbrev Jg:Nat:=264
abbrev Jh:Nat:=265
abbrev GK:Nat:=266
abbrev qaA:Nat:=267
abbrev Ni:Nat:=268
abbrev Dv:Nat:=269
abbrev kX:Nat:=270
abbrev lK:Nat:=272
abbrev rU:Nat:=273
abbrev dt:Nat:=274
abbrev dK:Nat:=275
abbrev fS:Nat:=276
abbrev mw:Nat:=277
abbrev I5:Nat:=278
abbrev EH:Nat:=279
abbrev I4:Nat:=280
abbrev I3:Nat:=281
abbrev Nh:Nat:=282
abbrev Jd:Nat:=283
abbrev Jc:Nat:=284
abbrev qaB:Nat:=293
abbrev Dr:Nat:=294
abbrev sL:Nat:=298
abbrev EK:Nat:=299
abbrev WG:Nat:=300
abbrev jR:Nat:=301
abbrev bD:Nat:=302
abbrev rT:Nat:=303
abbrev iW:Nat:=304
abbrev kq:Nat:=305
abbrev Du:Nat:=306
abbrev mA:Nat:=307
abbrev qZ:Nat:=308
abbrev ri:Nat:=309
abbrev Nf:Nat:=310
abbrev EG:Nat:=311
abbrev qdh:Nat:=314
abbrev Lf:Nat:=315
abbrev Ji:Nat:=321
abbrev EL:Nat:=322
abbrev Jf:Nat:=323
abbrev jP:Nat:=324
abbrev dy:Nat:=325
abbrev pA:Nat:=326
abbrev dv:Nat:=327
abbrev eT:Nat:=328
abbrev Ld:Nat:=329
abbrev R5:Nat:=330
abbrev P7:Nat:=331
abbrev Lg:Nat:=332
abbrev qdg:Nat:=333
abbrev qdf:Nat:=334
abbrev qkQ:Nat:=335
abbrev Jj:Nat:=336
abbrev GN:Nat:=339
abbrev AX:Nat:=340
abbrev GM:Nat:=341
abbrev mz:Nat:=342
abbrev qY:Nat:=345
abbrev dR:Nat:=346
abbrev jS:Nat:=347
abbrev La:Nat:=348
abbrev P9:Nat:=349
abbrev Nj:Nat:=350
abbrev WH:Nat:=351
abbrev qkR:Nat:=352
abbrev Di:Nat:=354
abbrev kY:Nat:=355
abbrev iU:Nat:=356
abbrev eu:Nat:=357
abbrev gU:Nat:=359
abbrev eS:Nat:=360
abbrev jQ:Nat:=361
abbrev vC:Nat:=362
abbrev my:Nat:=365
abbrev eP:Nat:=367
abbrev du:Nat:=368
abbrev nI:Nat:=369
abbrev eG:Nat:=372
abbrev rj:Nat:=373
abbrev cZ:Nat:=374
abbrev bC:Nat:=3
abbrev sq:Nat:=5
abbrev av:Nat:=9
abbrev Ol:Nat:=21
abbrev qh8:Nat:=22
abbrev wK:Nat:=28
abbrev iE:Nat:=36
abbrev bM:Nat:=39
abbrev Sw:Nat:=74
abbrev bL:Nat:=84
abbrev DY:Nat:=96
abbrev HQ:Nat:=103
abbrev nT:Nat:=109
abbrev wJ:Nat:=118
abbrev FM:Nat:=154
abbrev eW:Nat:=183
abbrev Cy:Nat:=186
abbrev dn:Nat:=222
abbrev fW:Nat:=245
abbrev yX:Nat:=317
def mixed:Tryz.prog.follows .mixedOrders=true:=by kernel_rfl
abbrev gq(f:Func)(im:List Nat)(op:G.Opt)(c:CC)(_:G.ap (G.gn Tryz.prog f im op)=c:=by conv=>lhs;(conv=>arg 1;reduce);dsimp only[G.ap]):CC:=c
def fo {f : Nat} {im : List Nat} {cc : CC} {rs : List ai} {N : Nat} (h : ((Tryz.prog.funcs[f]?).bind fun g => if g.name == "runtime.NumGoroutine" then none else g.body.bind fun c => (aG Tryz.prog im g.ntmps c).bind fun cc => (g.results.toList.mapM (fD Tryz.prog)).bind fun rs => some (g.ntmps, cc, rs)) = some (N, bI cc, rs) := by kernel_rfl) : BA Tryz.prog f im cc rs N := qpR mixed h
abbrev FO:=BA Tryz.prog
abbrev TQ(dq:Prop)(f:Nat)(s:Spc):Prop:=Tri dq Tryz.prog f s.pt
def eK:CC:=gq Tryz.f213 [] {} _
def eC:List ai:=[.tmp 4]
def sy:FO eY [] eK eC 19:=fo
def fm:CC:=gq Tryz.f156 [] {} _
def fj:List ai:=[.tmp 4]
def ko:FO cj [] fm fj 9:=fo
def gO:CC:=gq Tryz.f218 [] {} _
def gH:List ai:=[.tmp 4]
def mS:FO eQ [] gO gH 19:=fo
def eM:CC:=gq Tryz.f215 [] {} _
def eE:List ai:=[.tmp 4]
def sB:FO fa [] eM eE 9:=fo
def fF:CC:=gq Tryz.f276 [] {} _
def fy:List ai:=[.tmp 4]
def vw:FO fS [] fF fy 19:=fo
def ir:CC:=gq Tryz.f217 [3] {} _
def gY:List ai:=[.tmp 4]
def zr:FO iV [3] ir gY 9:=fo
def li:CC:=gq Tryz.f277 [3] {} _
def kH:List ai:=[.tmp 4]
def CU:FO mw [3] li kH 19:=fo
def ja:CC:=gq Tryz.f154 [] {} _
def iF:List ai:=[.tmp 4]
def AB:FO dQ [] ja iF 19:=fo
def cI:CC:=gq Tryz.f126 [] {} _
def cG:List ai:=[.tmp 4]
def lT:FO bb [] cI cG 9:=fo
def lw:CC:=gq Tryz.f128 [3] {} _
def kP:List ai:=[.tmp 6, .tmp 7]
def C8:FO dG [3] lw kP 40:=fo
def nP:CC:=gq Tryz.f84 [1] {} _
def nC:List ai:=[.tmp 2]
def qn:CC:=gq Tryz.f129 [2] {} _
def pd:List ai:=[.tmp 4]
def ID:FO ip [2] qn pd 29:=fo
def bz:CC:=gq Tryz.f193 [1,2034005,2033005,2043005,2042005,2041005,2052005,2051005,2050005] {} _
def bv:List ai:=[.tmp 2]
def Gb:FO pQ [1,2034005,2033005,2043005,2042005,2041005,2052005,2051005,2050005] bz bv 108:=fo
def jm:CC:=gq Tryz.f153 [3] {} _
def iP:List ai:=[.tmp 4]
def AI:FO bV [3] jm iP 8:=fo
def gQ:CC:=gq Tryz.f214 [2] {} _
def gJ:List ai:=[.tmp 3]
def xU:FO bZ [2] gQ gJ 8:=fo
def jl:CC:=gq Tryz.f151 [] {} _
def iO:List ai:=[.tmp 4]
def Gg:FO kw [] jl iO 14:=fo
def cp:CC:=gq Tryz.f194 [2] {} _
def cb:List ai:=[.tmp 4]
def Gc:FO pR [2] cp cb 50:=fo
def dj:CC:=gq Tryz.f131 [3] {} _
def di:List ai:=[.tmp 6]
def Gh:FO pT [3] dj di 59:=fo
def jY:CC:=gq Tryz.f69 [5,4,3] {} _
def jN:List ai:=[.tmp 6]
def B5:FO eJ [5,4,3] jY jN 23:=fo
def iy:CC:=gq Tryz.f130 [3] {} _
def ib:List ai:=[.tmp 4]
def zw:FO cB [3] iy ib 9:=fo
def kC:CC:=gq Tryz.f147 [1] {} _
def kj:List ai:=[.tmp 2]
def eo:CC:=gq Tryz.f85 [1,2034003,1033033] { cu:=[5] } _
def eb:List ai:=[.cell 2 true 7]
def cq:CC:=gq Tryz.f150 [3] {} _
def cg:List ai:=[.tmp 6]
def Gi:FO pU [3] cq cg 38:=fo
def mJ:CC:=gq Tryz.f155 [5,4,3] {} _
def ml:List ai:=[.tmp 6]
def ED:FO nH [5,4,3] mJ ml 11:=fo
def bX:CC:=gq Tryz.f216 [3] {} _
def bU:List ai:=[.tmp 4]
def B4:FO ck [3] bX bU 37:=fo
def Ge:FO pS [1] nP nC 12:=fo
def IE:FO cA [1] kC kj 11:=fo
def Gd:FO gA [1,2034003,1033033] eo eb 37:=fo
open Cod (enc dec)
variable {S S0:Nat->Spc}
def FunOn{X Y:Type}[Cod X][Cod Y](S:Nat->Spc)(d:D)(l:List X)(p:X->Y):Prop:=
 ∃g caps a,d= .clo g caps/\S g= .pure a/\∀x∈l,a.pre (enc x::caps)/\∀r,a.post (enc x::caps) r->r=enc (p x)
def FunOn.useB{X:Type}[Cod X]{S:Nat->Spc}{d:D}{l:List X}{p:X->Bool}(h:FunOn S d l p){x:X}(b:x∈l){c:Nat}{H:ab}{K:D->ab->Prop}(hk:∀y:Bool,(∀q:X->Bool,FunOn S d l q->y=q x)->K (.v (.bool y)) H):DL S d c [enc x] H K:=by
 obtain⟨g,caps,t,rfl,h1,h2⟩:=h;simp only[DL,h1,Spc.pt];refine⟨(h2 x b).1,λr j=>?_⟩;have e:=(h2 x b).2 r j;rw[e];refine hk (p x) λq k=>?_
 obtain⟨u,a,s,w,A,C⟩:=k;grind [cD]
def zB{X Y Z:Type}[Cod X][Cod Y]{S:Nat->Spc}{g:Nat}{caps:List D}{A:fN Z}{pre:Z->Prop}{post:Z->Y->Prop}{l:List X}{p:X->Y}{f:X->Z}(h:S g=ax A pre enc post)(b:∀x∈l,A.dec (enc x::caps)=some (f x))(hp:∀x∈l,pre (f x))(c:∀x∈l,∀y,post (f x) y->y=p x):FunOn S (.clo g caps) l p:=by
 refine⟨g,caps,_,rfl,h,λx a=>⟨⟨f x,b x a,hp x a⟩,λr d=>?_⟩⟩;grind
def qdK{X:Type}[Cod X](S0:Nat->Spc)(x:List X×D×Unit):Prop:=∃p:X->Bool,FunOn S0 x.2.1 x.1 p
def Sk{X:Type}[Cod X](S0:Nat->Spc)(x:List X×D×Unit)(y:Int):Prop:=∀p:X->Bool,FunOn S0 x.2.1 x.1 p->y=fL x.1 p
def qsH{X:Type}[Cod X](S0:Nat->Spc)(x:List X×D×Unit)(y:Bool):Prop:=∀p:X->Bool,FunOn S0 x.2.1 x.1 p->y=x.1.any p
abbrev qcy(X:Type)[Cod X](S0:Nat->Spc):Spc:=ax (aE (List X) (aD a0)) (qdK S0) (enc (X:=Int)) (Sk S0)
abbrev qf8(X:Type)[Cod X](S0:Nat->Spc):Spc:=ax (aE (List X) (aD a0)) (qdK S0) (enc (X:=Bool)) (qsH S0)
def Oa:aq eK eC S (aE (List Attr) (aD a0)) (qdK S) (enc (X:=Int)) (Sk S):=by
 rintro⟨l,d,⟨⟩⟩ ⟨p,hp⟩;simp only at hp;simp[eK,eC,-fB',-eB'];intro _;refine ah (X:=Unit) [0,1] [] l.length (λk _=>∀p:Attr->Bool,FunOn S d l p->∀x∈l.take k,p x=false) (λ_=>[]) (λ_=>[]) () (by simp) ?_ ?_
 ·intro k _ hk c;obtain⟨x,a⟩:∃x,l[k]? =some x:=⟨_,qF6 hk⟩
  obtain⟨_,b⟩:=qF4.1 a;simp[hk,a,b,-fB',-eB'];refine hp.useB (x:=x) (qF7 a) λy q=>?_
  simp[-fB',-eB'];refine⟨λh=>?_,λh r j=>?_⟩;grind [Sk,pu]
  ·rw[au a];grind
 ·intro _ c;simp[-fB',-eB'];grind [Sk,ig]
theorem Sq:aq gO gH S (aE (List Cond) (aD a0)) (qdK S) (enc (X:=Int)) (Sk S):=by
 rintro⟨l,d,⟨⟩⟩ ⟨p,hp⟩;simp only at hp;simp[gO,gH,-fB',-eB'];intro _;refine ah (X:=Unit) [0,1] [] l.length (λk _=>∀p:Cond->Bool,FunOn S d l p->∀x∈l.take k,p x=false) (λ_=>[]) (λ_=>[]) () (by simp) ?_ ?_
 ·intro k _ hk c;obtain⟨x,a⟩:∃x,l[k]? =some x:=⟨_,qF6 hk⟩
  obtain⟨_,b⟩:=qF4.1 a;simp[hk,a,b,-fB',-eB'];have e:D.agg [.v (.int .i64 x.op), .v (.string x.name), .v (.string x.arg), .v (.string x.val), .v (.string x.lab), .v (.bool x.fold), .list 7 (x.kids.map enc)]=enc x:=by simp
  rw[e];refine hp.useB (x:=x) (qF7 a) λy q=>?_
  simp[-fB',-eB'];refine⟨λh=>?_,λh r j=>?_⟩;grind [Sk,pu]
  ·rw[au a];grind
 ·intro _ c;simp[-fB',-eB'];grind [Sk,ig]
def Sr(h1:S eQ=qcy Cond S0):aq fm fj S (aE (List Cond) (aD a0)) (qdK S0) (enc (X:=Bool)) (qsH S0):=by
 rintro⟨l,d,⟨⟩⟩ hp;simp[fm,fj,h1,-fB',-eB'];refine⟨hp,λy b c a=>?_⟩;rw[b c a];grind [Spc,AO]
def Yq:aq fF fy S (aE (List Region) (aD a0)) (qdK S) (enc (X:=Int)) (Sk S):=by
 rintro⟨l,d,⟨⟩⟩ ⟨p,hp⟩;simp only at hp;simp[fF,fy,-fB',-eB'];intro _;refine ah (X:=Unit) [0,1] [] l.length (λk _=>∀p:Region->Bool,FunOn S d l p->∀x∈l.take k,p x=false) (λ_=>[]) (λ_=>[]) () (by simp) ?_ ?_
 ·intro k _ hk c;obtain⟨x,a⟩:∃x,l[k]? =some x:=⟨_,qF6 hk⟩
  obtain⟨_,b⟩:=qF4.1 a;simp[hk,a,b,-fB',-eB'];refine hp.useB (x:=x) (qF7 a) λy q=>?_
  simp[-fB',-eB'];refine⟨λh=>?_,λh r j=>?_⟩;grind [Sk,pu]
  ·rw[au a];grind
 ·intro _ c;simp[-fB',-eB'];grind [Sk,ig]
def Yr(h1:S fS=qcy Region S0):aq eM eE S (aE (List Region) (aD a0)) (qdK S0) (enc (X:=Bool)) (qsH S0):=by
 rintro⟨l,d,⟨⟩⟩ hp;simp[eM,eE,h1,-fB',-eB'];refine⟨hp,λy b c a=>?_⟩;rw[b c a];grind [Spc,AO]
end
section
open Cod (enc dec)
structure U64 where
 val:Int
deriving DecidableEq
instance:Cod U64 where
 wd:=1
 enc n:= .v (.int .u64 n.val)
 dec| .v (.int .u64 n)=>some ⟨n⟩|_=>none
 kn _:=rfl
 wid _:=rfl
 dec_enc _:=rfl
 le d x h:=by
  split at h
  ·cases h;exact .same _
  ·cases h
@[simp] theorem qzi(n:U64):enc n= .v (.int .u64 n.val):=i' rfl
@[simp] theorem qAv:Cod.wd U64=1:=i' rfl
@[simp] theorem qzq(n:Int):dec (X:=U64) (.v (.int .u64 n))=some ⟨n⟩:=i' rfl
@[simp] theorem qzb(n:U64):U64.mk n.val=n:=i' rfl
structure Rng where
 fr:I32
 to:I32
deriving DecidableEq
instance:Cod Rng where
 wd:=2
 enc s:= .agg [enc s.fr,enc s.to]
 dec| .agg [a,b]=>(dec a).bind λa=>(dec b).bind λb=>some ⟨a,b⟩|_=>none
 kn _:=rfl
 wid _:=rfl
 dec_enc s:=by simp
 le d x h:=by
  split at h
  ·simp only[qF3]at h;obtain⟨a,h0,b,h1,h⟩:=h;cases h;exact LeL.agg (.cons (Cod.le _ _ h0) (.cons (Cod.le _ _ h1) .nil))
  ·cases h
@[simp] theorem qze(s:Rng):(Rng.mk s.fr s.to)=s:=i' rfl
@[simp] theorem qzl(s:Rng):enc s= .agg [enc s.fr,enc s.to]:=i' rfl
@[simp] theorem qAz:Cod.wd Rng=2:=i' rfl
@[simp] theorem qzt(a b:D):dec (X:=Rng) (.agg [a,b])=((dec a).bind λa=>(dec b).bind λb=>some ⟨a,b⟩):=i' rfl
structure Rx where
 op:Int
 mn:Int
 mx:Int
 rs:List Rng
 kids:List Rx
mutual
def Qe:Rx->D
 | .mk op mn mx rs ks=> .agg [enc op,enc mn,enc mx,enc rs, .list 5 (BN ks)]
def BN:List Rx->List D
 | []=>[]
 |k::ks=>Qe k::BN ks
end
mutual
def qaQ:D->Option Rx
 | .agg [a,b,c,d,h]=>(dec a).bind λop=>(dec b).bind λmn=>(dec c).bind λmx=>(dec d).bind λrs=>(Me h).bind λks=>some (.mk op mn mx rs ks)
 | _=>none
def Me:D->Option (List Rx)
 | .list n es=>if n=5 then DA es else none
 | .v (.slice none 0 0)=>some []
 | _=>none
def DA:List D->Option (List Rx)
 | []=>some []
 |d::ds=>(qaQ d).bind λx=>(DA ds).bind λxs=>some (x::xs)
end
def Li:∀l:List Rx,BN l=l.map Qe
 | []=>rfl
 | _::l=>by rw[BN,Li l];rfl
def qe8:∀c:Rx,(Qe c).kn=true
 | .mk .. =>rfl
def qaI:∀c:Rx,(Qe c).cells.length=5
 | .mk .. =>rfl
mutual
def qaP:∀c:Rx,qaQ (Qe c)=some c
 | .mk op mn mx rs ks=>by
   have h:Me (.list 5 (BN ks))=some ks:=by rw[Me,if_pos rfl];exact TH ks
   simp only[Qe,qaQ,Cod.dec_enc,qGt,h]
def TH:∀l:List Rx,DA (BN l)=some l
 | []=>by simp only[BN,DA]
 |c::l=>by simp only[BN,DA,qaP c,TH l,qGt]
end
mutual
def qfd:∀(d:D) (c:Rx),qaQ d=some c->FrzTo dm d (Qe c)
 | .agg [b,j,k,l,a],c,h=>by
   simp only[qaQ,qF3,qGh]at h;obtain⟨op,h0,mn,h1,mx,h2,rs,h3,ks,h4,rfl⟩:=h;rw[Qe];exact LeL.agg (.cons (Cod.le _ _ h0) (.cons (Cod.le _ _ h1) (.cons (Cod.le _ _ h2) (.cons (Cod.le _ _ h3) (.cons (qld a ks h4) .nil)))))
def qld:∀(d:D) (l:List Rx),Me d=some l->FrzTo dm d (.list 5 (BN l))
 | .list n es,l,h=>by
   simp only[Me]at h;split at h
   ·rename_i hn;subst hn;have hl:=qaO es l h;refine .list hl.1 (λe he=>?_) hl.2;rw[Li]at he;obtain⟨x,a,rfl⟩:=qGd.1 he;exact⟨qe8 x,qaI x⟩
   ·cases h
 | .v (.slice none 0 0),l,h=>by
   simp only[Me,qGh]at h;subst h;exact .nil _
def qaO:∀(es:List D) (l:List Rx),DA es=some l->LeL es (BN l)
 | [],l,h=>by
   simp only[DA,qGh]at h;subst h;exact .nil
 | d::ds,l,h=>by
   simp only[DA,qF3,qGh]at h;obtain⟨x,h1,xs,h2,rfl⟩:=h;rw[BN];exact .cons (qfd d x h1) (qaO ds xs h2)
end
instance:Cod Rx where
 wd:=5
 enc:=Qe
 dec:=qaQ
 kn:=qe8
 wid:=qaI
 dec_enc:=qaP
 le:=qfd
def qha(ks:List Rx):D.list 5 (BN ks)=enc ks:=by rw[Li];rfl
def qk0(op mn mx:Int)(rs:List Rng)(ks:List Rx):enc (Rx.mk op mn mx rs ks)= .agg [enc op,enc mn,enc mx,enc rs,enc ks]:=by
 rw[<-qha];show Qe _=_;rw[Qe]
def Qj:∀es:List D,DA es=es.mapM (dec (X:=Rx))
 | []=>by simp[DA]
 | d::es=>by
   rw[DA,qGM,Qj es];rfl
def qle:∀d:D,Me d=dec (X:=List Rx) d:=λd=>by
 unfold Me;split
 ·rename_i n es;show _=if n=5 then es.mapM (dec (X:=Rx))else none
  rw[Qj]
 ·rfl
 ·rename_i h1 h2;show _=(match d with
   | .list n es=>if n=5 then es.mapM (dec (X:=Rx))else none
   | .v (.slice none 0 0)=>some []
   | _=>none)
  split
  ·exact absurd rfl (h1 _ _)
  ·exact absurd rfl h2
  ·rfl
@[simp] theorem qCz(s:Rx):Rx.mk s.op s.mn s.mx s.rs s.kids=s:=by cases s;rfl
@[simp] theorem qCG(s:Rx):enc s= .agg [enc s.op,enc s.mn,enc s.mx,enc s.rs,enc s.kids]:=by cases s;exact qk0 ..
@[simp] theorem qDW:Cod.wd Rx=5:=i' rfl
@[simp] theorem qCQ(a b c d h:D):dec (X:=Rx) (.agg [a,b,c,d,h])=((dec a).bind λa=>(dec b).bind λb=>(dec c).bind λc=>(dec d).bind λd=>(dec h).bind λh=>some ⟨a,b,c,d,h⟩):=by
 show qaQ _=_;simp only[qaQ,qle]
structure Rp where
 s:B
 pos:Int
 fault:Int
 e:Int
def Rp.bump(p:Rp):Rp:={ p with pos:=p.pos+1 }
def QA(p:Rp):Option Int:=
 if 200<p.s.size then none else
 if p.pos=p.s.size then some (-1)else
 if 0<=p.pos then match p.s.data[p.pos.toNat]? with
  |some c=>if c.toNat< 128 then some c.toNat else none
  |none=>none
 else none
def qog(a:B)(c:Int):Bool:=a.data.toList.any λx=>decide ((x.toNat:Int)=c)
def lV(p:Rp)(_:Unit):Option (Rp×I32):=(QA p).map λc=>(p,⟨c⟩)
def SA(p:Rp)(_:Unit):Option (Rp×Unit):=(QA p).bind λc=>if 0<=c then some (p.bump,())else none
def Fb(p:Rp)(_:B):Option (Rp× (I32×Bool)):=(QA p).bind λc=>if c< 0\/c=92 then none else some (p.bump,⟨c⟩,true)
def qfl:B:=⟨#[92,91,93,94,45]⟩
def Z5(p:Rp)(_:Unit):Option (Rp× (I32×Bool)):=(QA p).bind λc=>if c< 0\/qog qfl c=true then none else Fb p qfl
def qiw(fr to:Int):Rx:=⟨1,0,0, [⟨⟨fr⟩,⟨to⟩⟩], []⟩
def uu(out:List Rng)(r:Rng):List Rng:=match out.getLast? with
 |some q=>if r.fr.val<=q.to.val+1 then out.dropLast++ [⟨q.fr,⟨max q.to.val r.to.val⟩⟩]else out++ [r]
 |none=>[r]
def Kl(l:List Rng):Bool:=match l with
 | [x]=>decide (0<=x.fr.val/\x.fr.val<=1114111/\0<=x.to.val/\x.to.val<=1114111)
 | [x,y]=>decide (0<=x.fr.val/\x.fr.val<=1114111/\0<=x.to.val/\x.to.val<=1114111/\0<=y.fr.val/\y.fr.val<=1114111/\0<=y.to.val/\y.to.val<=1114111/\x.fr.val<=y.fr.val)
 | _=>false
def IL(l:List Rng):List Rng:=l.foldl uu []
def qly:Nat->Rp->List Rng->Option (Rp×List Rng)
 | 0,_,_=>none
 | n+1,p,l=>(QA p).bind λc=>if l≠ []/\c=93 then some (p,l)else
   (Z5 p ()).bind λq=>(QA q.1).bind λd=>if d=45 then none else qly n q.1 (l++ [⟨q.2.1,q.2.1⟩])
def qoQ(p:Rp)(_:Unit):Option (Rp× (Rx×Bool)):=(QA p).bind λa=>if a≠91 then none else(QA p.bump).bind λc=>if c=94 then none else
 (qly 100 p.bump []).bind λq=>if Kl q.2=true then some (q.1.bump,⟨1,0,0,IL q.2, []⟩,true)else none
def qul:B:=⟨#[92,46,91,93,40,41,123,125,124,42,43,63]⟩
def qfs(p:Rp)(_:Unit):Option (Rp× (Rx×Bool)):=(QA p).bind λc=>
 if c=40 then none else if c=46 then some (p.bump,qiw 0 1114111,true)else if c=91 then qoQ p ()else
 if c≠92/\qog qul c=true then none else(Fb p qul).map λq=>(q.1,qiw q.2.1.val q.2.1.val,q.2.2)
def RB(c:Int):Option (Int×Int):=if c=42 then some (0, -1)else if c=43 then some (1, -1)else if c=63 then some (0,1)else none
def qjn(p:Rp)(_:Unit):Option (Rp× (Rx×Bool)):=(qfs p ()).bind λq=>if q.2.2=true then(QA q.1).bind λc=>if c=123 then none else match RB c with
 |some m=>(QA q.1.bump).bind λd=>if d=123\/(RB d).isSome=true then none else some (q.1.bump,⟨4,m.1,m.2, [], [q.2.1]⟩,true)
 |none=>some (q.1,q.2.1,true)
 else none
def qa3:Nat->Rp->List Rx->Option (Rp×List Rx)
 | 0,_,_=>none
 | n+1,p,l=>(QA p).bind λc=>if c< 0\/c=124\/c=41 then some (p,l)else
   (qjn p ()).bind λq=>if q.2.1.op=2 then none else qa3 n q.1 (l++ [q.2.1])
def qcL(op:Int):List Rx->Rx
 | [e]=>e
 |l=>⟨op,0,0, [],l⟩
def qlD(p:Rp)(_:Unit):Option (Rp× (Rx×Bool)):=(qa3 100 p []).map λq=>(q.1,qcL 2 q.2,true)
def qh4:Nat->Rp->List Rx->Option (Rp×List Rx)
 | 0,_,_=>none
 | n+1,p,l=>(qlD p ()).bind λq=>(QA q.1).bind λc=>
   if q.2.1.op=3 then none else if c=124 then qh4 n q.1.bump (l++ [q.2.1])else some (q.1,l++ [q.2.1])
def qm8(p:Rp)(_:Unit):Option (Rp× (Rx×Bool)):=(qh4 100 p []).map λq=>(q.1,qcL 3 q.2,true)
def quf(f:Rx->Int->Int->Option (Bool×Int))(d:Int):List Rx->Int->Option (Bool×Int)
 | [],k=>some (true,k)
 |x::l,k=>(f x (d+1) k).bind λr=>if r.1=true then quf f d l r.2 else some (false,r.2)
def zX:Nat->Rx->Int->Int->Option (Bool×Int)
 | 0=>λ_ _ _=>none
 |n+1=>λx d k=>if d< 0\/1000<d\/k< 0\/1000<k then none else if 40<d\/200<k+1 then some (false,k+1)else quf (zX n) d x.kids (k+1)
def qeG(l:List Rng):Bool:=match l with
 | [r]=>decide (0<=r.fr.val/\r.fr.val<=r.to.val/\r.to.val<=1114111)
 | _=>false
def quz(x:Rx):Bool:=
 if x.op=1 then decide (x.mn=0/\x.mx=0) && x.kids.isEmpty && qeG x.rs else
 if x.op=2 then decide (x.mn=0/\x.mx=0) && x.rs.isEmpty && decide (x.kids.length≠1/\x.kids.length<=300) && x.kids.all λk=>decide (k.op≠2)else
 if x.op=3 then decide (x.mn=0/\x.mx=0) && x.rs.isEmpty && decide (1<x.kids.length/\x.kids.length<=300) && x.kids.all λk=>decide (k.op≠3)else
 if x.op=4 then decide (0<=x.mn/\x.mn<=16/\(x.mx= -1\/x.mn<=x.mx/\x.mx<=16)) && x.rs.isEmpty && decide (x.kids.length=1)else false
def qgs:Nat->Rx->Bool
 | 0=>λ_=>false
 |n+1=>λx=>quz x && x.kids.all (qgs n)
def quv(f:Rx->Option Int):List Rx->Int->Option Int
 | [],k=>some k
 |x::l,k=>(f x).bind λy=>if k< 0\/1000<k\/y< 0\/1000<y then none else quv f l (min (k+y) 65)
def qux(x:Rx)(m:Int):Option Int:=
 if x.mx= -1 then(if -1000000<=m*max x.mn 1/\m*max x.mn 1<=1000000 then some (min (m*max x.mn 1) 65)else none)
 else if -1000000<=m*x.mx/\m*x.mx<=1000000 then some (min (m*x.mx) 65)else none
def Vv:Nat->Rx->Option Int
 | 0=>λ_=>none
 |n+1=>λx=>if x.op=1 then some 1 else(quv (Vv n) x.kids 0).bind λm=>if x.op≠4 then some m else qux x m
def FI(n:Nat)(x:Rx):Bool:=(match zX n x 1 0 with|some r=>r.1|none=>false) && qgs n x && (match Vv n x with|some m=>decide (m<=64)|none=>false)
def yC(s:B):Bool:=s.data.toList.all λc=>decide (c.toNat< 128)
def ms(s:B):Option Rx:=if s.size<=200/\yC s=true then(qm8 ⟨s,0,0,0⟩ ()).bind λq=>if q.2.2=true/\q.1.pos=s.size/\FI 50 q.2.1=true then some q.2.1 else none else none
structure Prt where
 first:U64
 last:U64
 nul:Bool
deriving DecidableEq
instance:Cod Prt where
 wd:=3
 enc s:= .agg [enc s.first,enc s.last,enc s.nul]
 dec| .agg [a,b,c]=>(dec a).bind λa=>(dec b).bind λb=>(dec c).bind λc=>some ⟨a,b,c⟩|_=>none
 kn _:=rfl
 wid _:=rfl
 dec_enc s:=by simp
 le d x h:=by
  split at h
  ·simp only[qF3]at h;obtain⟨a,h0,b,h1,c,h2,h⟩:=h;cases h;exact LeL.agg (.cons (Cod.le _ _ h0) (.cons (Cod.le _ _ h1) (.cons (Cod.le _ _ h2) .nil)))
  ·cases h
@[simp] theorem qzg(s:Prt):(Prt.mk s.first s.last s.nul)=s:=i' rfl
@[simp] theorem qzn(s:Prt):enc s= .agg [enc s.first,enc s.last,enc s.nul]:=i' rfl
@[simp] theorem qzv(a b c:D):dec (X:=Prt) (.agg [a,b,c])=((dec a).bind λa=>(dec b).bind λb=>(dec c).bind λc=>some ⟨a,b,c⟩):=i' rfl
structure Tbk where
 lvs:List (List Rng)
 fi:U64
 la:U64
 fol:List U64
 nul:Bool
def qhp(m:U64)(i:Nat):Bool:=decide (qbn .u64 (qcn .u64 m.val i) 1=1)
def qnJ(a b:U64):U64:=⟨qtc .u64 a.val b.val⟩
def qeM(fr to:U64):Nat->List U64->List U64
 | _, []=>[]
 |i,f::l=>(if qhp fr i=true then qnJ f to else f)::qeM fr to (i+1) l
def IP(t:Tbk)(z:U64×U64):Option (Tbk×Unit):=if t.fol.length<=100000 then some ({ t with fol:=qeM z.1 z.2 0 t.fol },())else none
def quW(a b:Prt):Prt:=⟨if a.nul=true then qnJ a.first b.first else a.first,if b.nul=true then qnJ b.last a.last else b.last,a.nul && b.nul⟩
def BP(t:Tbk)(z:Prt×Prt):Option (Tbk×Prt):=(IP t (z.1.last,z.2.first)).map λq=>(q.1,quW z.1 z.2)
def Gm:Prt:=⟨⟨0⟩,⟨0⟩,true⟩
def qBh:Prt:=⟨⟨0⟩,⟨0⟩,false⟩
def qwc(f:Tbk->Rx->Option (Tbk×Prt)):List Rx->Tbk->Prt->Option (Tbk×Prt)
 | [],t,p=>some (t,p)
 |x::l,t,p=>(f t x).bind λq=>(BP q.1 (p,q.2)).bind λr=>qwc f l r.1 r.2
def qhy(f:Tbk->Rx->Option (Tbk×Prt)):List Rx->Tbk->Prt->Option (Tbk×Prt)
 | [],t,p=>some (t,p)
 |x::l,t,p=>(f t x).bind λq=>qhy f l q.1 ⟨qnJ p.first q.2.first,qnJ p.last q.2.last,p.nul||q.2.nul⟩
def VZ(t:Tbk):Bool:=decide (t.lvs.length<=1000/\t.fol.length<=1000)
def qsp(b r:Tbk->Rx->Option (Tbk×Prt))(t:Tbk)(x:Rx):Option (Tbk×Prt):=
 if VZ t=false\/1000<x.kids.length then none else
 if x.op=1 then some ({ t with lvs:=t.lvs++ [x.rs],fol:=t.fol++ [⟨0⟩] },⟨⟨U1 .u64 1 t.lvs.length⟩,⟨U1 .u64 1 t.lvs.length⟩,false⟩)else
 if x.op=2 then qwc b x.kids t Gm else
 if x.op=3 then qhy b x.kids t qBh else r t x
def qun(b:Tbk->Rx->Option (Tbk×Prt))(y:Rx)(mx:Int):Nat->Tbk->Prt->Option (Tbk×Prt×Bool)
 | 0,t,p=>some (t,p,false)
 | k+1,t,p=>if VZ t=false then none else(b t y).bind λq=>if VZ q.1=false then none else
   if q.1.lvs.length=t.lvs.length then some (q.1,Gm,true)else
   (if mx< 0/\k=0 then IP q.1 (q.2.last,q.2.first)else some (q.1,())).bind λl=>(BP l.1 (p,q.2)).bind λr=>qun b y mx k r.1 r.2
def qjo(b:Tbk->Rx->Option (Tbk×Prt))(o:Tbk->Rx×Int->Option (Tbk×Prt))(t:Tbk)(x:Rx):Option (Tbk×Prt):=match x.kids with
 | []=>none
 | y::_=>if x.mn< 0\/100<x.mn\/x.mx< -1\/100<x.mx then none else
   (qun b y x.mx x.mn.toNat t Gm).bind λq=>if q.2.2=true then some (q.1,Gm)else
   if x.mx< 0/\x.mn=0 then(b q.1 y).bind λr=>(IP r.1 (r.2.last,r.2.first)).map λl=>(l.1, { r.2 with nul:=true })else
   if x.mn<x.mx then(o q.1 (y,x.mx -x.mn)).bind λr=>BP r.1 (q.2.1,r.2)else some (q.1,q.2.1)
def qra(b:Tbk->Rx->Option (Tbk×Prt))(o:Tbk->Rx×Int->Option (Tbk×Prt))(t:Tbk)(z:Rx×Int):Option (Tbk×Prt):=
 if z.2< 0\/100<z.2\/VZ t=false then none else
 if z.2=0 then some (t,Gm)else
 (b t z.1).bind λq=>if VZ q.1=false then none else
 if q.1.lvs.length=t.lvs.length then some (q.1,Gm)else
 (o q.1 (z.1,z.2 -1)).bind λr=>(BP r.1 (q.2,r.2)).map λl=>(l.1, { l.2 with nul:=true })
structure qF0 where
 b:Tbk->Rx->Option (Tbk×Prt)
 r:Tbk->Rx->Option (Tbk×Prt)
 o:Tbk->Rx×Int->Option (Tbk×Prt)
def G1:Nat->qF0
 | 0=>⟨λ_ _=>none,λ_ _=>none,λ_ _=>none⟩
 |n+1=>⟨qsp (G1 n).b (G1 n).r,qjo (G1 n).b (G1 n).o,qra (G1 n).b (G1 n).o⟩
def qFi:Tbk:=⟨[],⟨0⟩,⟨0⟩, [],false⟩
def qnb(n:Nat)(x:Rx):Option Tbk:=((G1 n).b qFi x).map λq=>{ q.1 with fi:=q.2.first,la:=q.2.last,nul:=q.2.nul }
def qpH(set:U64):Nat->List U64->U64->U64
 | _, [],m=>m
 |i,f::l,m=>qpH set (i+1) l (if qhp set i=true then qnJ m f else m)
def Dc(t:Tbk)(set:U64)(a:Bool):U64:=if a=true then t.fi else qpH set 0 t.fol ⟨0⟩
def WY(l:List Rng)(c:Int):Bool:=l.any λr=>decide (r.fr.val<=c) && decide (c<=r.to.val)
def qtg(next:U64)(c:I32):Nat->List (List Rng)->U64->U64
 | _, [],m=>m
 |i,l::ls,m=>qtg next c (i+1) ls (if qhp next i && WY l c.val then⟨qtc .u64 m.val (U1 .u64 1 i)⟩else m)
def qm5(next:U64)(lvs:List (List Rng)):List I32->U64->U64
 | [],m=>m
 |v::vs,m=>qm5 next lvs vs (qtg next v 0 lvs m)
def quK(t:Tbk)(b:I32->List I32):List I32->U64->Bool->Bool
 | [],set,a=>(a && t.nul)||decide (qbn .u64 set.val t.la.val≠0)
 |c::l,set,a=>if(qm5 (Dc t set a) t.lvs (b c) ⟨0⟩).val=0 then false else quK t b l (qm5 (Dc t set a) t.lvs (b c) ⟨0⟩) false
def low(c:Int):Int:=if 65<=c/\c<=90 then c+32 else c
def P0(c:I32):List I32:=([⟨low c.val⟩,⟨low c.val -32⟩,⟨low c.val -80⟩]:List I32).filter λv=>decide (0<=v.val/\low v.val=low c.val)
def qb0(f:Bool)(c:I32):List I32:=if f=true then P0 c else[c]
def qoS(l:List UInt8):List I32:=l.map λc=>⟨(c.toNat:Int)⟩
def AK(x:Rx)(s:B)(f:Bool):Option Bool:=if FI 50 x=true/\yC s=true/\s.size<=1000 then(qnb 50 x).bind λt=>if VZ t=true then some (quK t (qb0 f) (qoS s.data.toList) ⟨0⟩ true)else none else none
instance:Inhabited Cond:=⟨⟨0,⟨#[]⟩,⟨#[]⟩,⟨#[]⟩,⟨#[]⟩,false, []⟩⟩
instance:Inhabited Pat:=⟨⟨0,default,⟨#[]⟩,⟨#[]⟩,0,0, []⟩⟩
def sW:Cond:=⟨0,⟨#[]⟩,⟨#[]⟩,⟨#[]⟩,⟨#[]⟩,false, []⟩
mutual
def dL:Pat->Nat| .mk _ _ _ _ _ _ ks=>ZJ ks+1
def ZJ:List Pat->Nat|[]=>0|k::ks=>max (dL k) (ZJ ks)
end
mutual
def bi:Cond->Nat| .mk _ _ _ _ _ _ ks=>jE ks+1
def jE:List Cond->Nat|[]=>0|k::ks=>max (bi k) (jE ks)
end
mutual
def cK:Pat->Nat| .mk _ _ _ _ _ _ ks=>bB ks+1
def bB:List Pat->Nat|[]=>0|k::ks=>cK k+bB ks
end
theorem qeE(p:Pat):dL p=ZJ p.kids+1:=by cases p;rfl
theorem Bw(p:Cond):bi p=jE p.kids+1:=by cases p;rfl
theorem cP(p:Pat):cK p=bB p.kids+1:=by cases p;rfl
def Td{k:Pat} :∀{ks:List Pat},k∈ks->dL k<=ZJ ks
 | a::ks,h=>by
   rw[ZJ];rcases qGm.1 h with rfl|h;omega
   ·have:=Td h;omega
def Ei{k:Cond} :∀{ks:List Cond},k∈ks->bi k<=jE ks
 | a::ks,h=>by
   rw[jE];rcases qGm.1 h with rfl|h;omega
   ·have:=Ei h;omega
theorem kS{p k:Pat}(h:k∈p.kids):dL k<dL p:=by have:=Td h;grind [qeE]
def DS{p k:Cond}(h:k∈p.kids):bi k<bi p:=by have:=Ei h;grind [Bw]
def fJ{C:Pat->Prop}(h:∀p,(∀k∈p.kids,C k)->C p)(p:Pat):C p:=by
 generalize hn:dL p=n
 induction n using Nat.strongRecOn generalizing p with
 | _ n a=>exact h p λk hk=>a (dL k) (by grind [kS]) k rfl
mutual
def cm(f:Pat->Bool):Pat->Bool| .mk op c l r mn mx ks=>f ⟨op,c,l,r,mn,mx,ks⟩ && NK f ks
def NK(f:Pat->Bool):List Pat->Bool|[]=>true|k::ks=>cm f k && NK f ks
end
def Qb(f:Pat->Bool):∀ks:List Pat,NK f ks=ks.all (cm f)
 | []=>by rfl
 |k::ks=>by rw[NK,Qb f ks,qHG]
theorem cU(f:Pat->Bool)(p:Pat):cm f p=(f p && p.kids.all (cm f)):=by cases p;rw[cm,Qb]
mutual
def cF:Pat->Int->Bool| .mk _ _ _ _ _ _ ks,d=>decide (d<=100) && D1 ks (d+1)
def D1:List Pat->Int->Bool|[],_=>true|k::ks,d=>cF k d && D1 ks d
end
def HY(d:Int):∀ks:List Pat,D1 ks d=ks.all (cF · d)
 | []=>by rfl
 |k::ks=>by rw[D1,HY d ks,qHG]
def nW(p:Pat)(d:Int):cF p d=(decide (d<=100) && p.kids.all (cF · (d+1))):=by cases p;rw[cF,HY]
def U2(p:Pat):∀d a:Int,a<=d->cF p d=true->cF p a=true:=by
 induction p using fJ with|_ p b=>?_
 intro d a h;rw[nW,nW];grind
def rL(p:Pat):Prop:=(p.op=1/\p.reg=⟨#[]⟩/\p.mn=0/\p.mx=0/\p.kids=[])\/
 ((p.op=2\/p.op=3)/\p.cond=sW/\p.lab=⟨#[]⟩/\p.mn=0/\p.mx=0/\p.kids=[])\/
 ((p.op=4\/p.op=5)/\p.cond=sW/\p.lab=⟨#[]⟩/\p.reg=⟨#[]⟩/\p.mn=0/\p.mx=0/\2<=p.kids.length)\/
 (p.op=6/\p.cond=sW/\p.lab=⟨#[]⟩/\p.reg=⟨#[]⟩/\p.kids.length=1)
noncomputable def pm(p:Pat):Bool:= @decide (rL p) (Classical.propDecidable _)
def qU(p:Pat):pm p=true↔rL p:= @decide_eq_true_iff (rL p) (Classical.propDecidable _)
def lJ(p:Pat):Bool:=decide (p.op=6->0<=p.mn/\p.mn<=16/\(p.mx= -1\/p.mn<=p.mx/\p.mx<=16))
def mT(v:B->Bool)(p:Pat):Bool:=decide (((p.op=2\/p.op=3)->v p.reg=true)/\(p.lab≠ ⟨#[]⟩->v p.lab=true))
noncomputable def eX(v:B->Bool)(p:Pat):Bool:=cF p 1 && cm pm p && cm (mT v) p && cm lJ p
theorem ph{v:B->Bool}{p k:Pat}(h:eX v p=true)(hk:k∈p.kids):eX v k=true:=by
 unfold eX at*;rw[cU,cU,cU lJ,nW]at h;simp only[qF9,qGa]at h;obtain⟨⟨⟨⟨_,h1⟩,_,h2⟩,_,h3⟩,_,h4⟩:=h;rw[h2 k hk,h3 k hk,h4 k hk,U2 k _ 1 (by omega) (h1 k hk)];rfl
def dr{v:B->Bool}{p:Pat}(h:eX v p=true):pm p=true/\mT v p=true/\lJ p=true:=by
 unfold eX at*;rw[cU,cU,cU lJ]at h;grind
def CB(p:Pat)(n:Int):Int:=if p.kids=[]then 1 else if p.op=6 then(if p.mx= -1 then min (n* (p.mn+1)) 1000 else if p.mx=0 then n else min (n*p.mx) 1000)else n
mutual
def fO:Pat->Int| .mk op c l r mn mx ks=>CB ⟨op,c,l,r,mn,mx,ks⟩ (fg ks 0)
def fg:List Pat->Int->Int|[],n=>n|k::ks,n=>fg ks (min (n+fO k) 1000)
end
def oo(p:Pat):fO p=CB p (fg p.kids 0):=by cases p;rfl
def OE(a b:List Pat)(n:Int):fg (a++b) n=fg b (fg a n):=by
 induction a generalizing n<;>grind [fg]
def QZ(seq:Bool)(a b:Int×Int):Int×Int:=
 if seq then(min (a.1+b.1) 10000,if a.2= -1\/b.2= -1 then -1 else min (a.2+b.2) 10000)else(min a.1 b.1,if a.2= -1\/b.2= -1 then -1 else max a.2 b.2)
mutual
def aU:Pat->Int×Int
 | .mk op _ _ _ mn mx ks=>if op=1 then(1,1)else if op=2\/op=3 then(0,0)else match ks with
   | []=>(0,0)
   |k::ks=>if op=6 then(min ((aU k).1*mn) 10000,if mx=0\/(aU k).2=0 then 0 else if mx= -1\/(aU k).2= -1 then -1 else min ((aU k).2*mx) 10000)else mO (decide (op=4)) ks (aU k)
def mO(seq:Bool):List Pat->Int×Int->Int×Int|[],w=>w|k::ks,w=>mO seq ks (QZ seq w (aU k))
end
def Sp(s:Bool)(a b:List Pat)(n:Int×Int):mO s (a++b) n=mO s b (mO s a n):=by
 induction a generalizing n<;>grind [mO]
theorem qhN{p:Pat}(h:p.op=1):aU p=(1,1):=by cases p;simp only at h;unfold aU;grind
theorem qhM{p:Pat}(h:p.op=2\/p.op=3):aU p=(0,0):=by cases p;simp only at h;unfold aU;grind
def qhK{p k:Pat}(h:p.op=6){ks:List Pat}(hk:p.kids=k::ks):aU p=(min ((aU k).1*p.mn) 10000,if p.mx=0\/(aU k).2=0 then 0 else if p.mx= -1\/(aU k).2= -1 then -1 else min ((aU k).2*p.mx) 10000):=by
 cases p;simp_all [aU]
def qhL{p k:Pat}(h:p.op=4\/p.op=5){ks:List Pat}(hk:p.kids=k::ks):aU p=mO (decide (p.op=4)) ks (aU k):=by
 cases p;simp only at h hk;subst hk;rw[aU,if_neg (by omega),if_neg (by omega)];grind
mutual
def am:Pat->List Pat| .mk op c l r mn mx ks=>if op=1 then[⟨op,c,l,r,mn,mx,ks⟩]else IQ ks
def IQ:List Pat->List Pat|[]=>[]|k::ks=>am k++IQ ks
end
def L9:∀ks:List Pat,IQ ks=ks.flatMap am
 | []=>by rfl
 |k::ks=>by rw[IQ,L9 ks,qG0]
theorem aW(p:Pat):am p=if p.op=1 then[p]else p.kids.flatMap am:=by cases p;rw[am,L9]
def iS(p:Pat):(am p).length<=cK p:=by
 induction p using fJ with|_ p a=>?_
 rw[aW,cP];split
 ·simp
 ·have:∀ks:List Pat,(∀k∈ks,(am k).length<=cK k)->(ks.flatMap am).length<=bB ks:=by
   intro ks
   induction ks with
   |nil=>simp
   | cons k ks a=>
     grind [bB]
  grind
def qT{p:Pat}(h:pm p=true):(p.op=1/\p.kids=[])\/((p.op=2\/p.op=3)/\p.kids=[])\/((p.op=4\/p.op=5)/\∃k ks,p.kids=k::ks)\/(p.op=6/\∃k,p.kids=[k]):=by
 rw[qU]at h;unfold rL at h;rcases h with h|h|h|h;grind;grind
 ·refine .inr (.inr (.inl ⟨h.1,?_⟩));rcases hk:p.kids with _|⟨k,ks⟩;grind;simp
 ·refine .inr (.inr (.inr ⟨h.1,?_⟩));rcases hk:p.kids with _|⟨k,_|⟨a,ks⟩⟩;grind;simp;grind
def qu:∀(ks:List Pat) (n:Int),0<=n->n<=1000->(∀k∈ks,0<=fO k)->0<=fg ks n/\fg ks n<=1000
 | [],n,h0,h1,_=>by grind [fg]
 | k::ks,n,h0,h1,h=>by
   rw[fg];have:=h k (by simp);exact qu ks _ (by omega) (by omega) λx a=>h x (by grind)
def SB{v:B->Bool}(p:Pat):eX v p=true->0<=fO p/\fO p<=1000:=by
 induction p using fJ with|_ p a=>?_
 intro h;have hk:=qu p.kids 0 (by omega) (by omega) λk hk=>(a k hk (ph h hk)).1
 have hn:=(dr h).2.2;unfold lJ at hn;rw[decide_eq_true_eq]at hn;rw[oo];generalize fg p.kids 0=n at hk;unfold CB;split;simp
 ·split
  ·rename_i h6;have hn:=hn h6;split
   ·have:0<=n* (p.mn+1):=qHD hk.1 (by omega);omega
   ·split;omega
    ·have:0<=n*p.mx:=qHD hk.1 (by omega);omega
  omega
def eO(w:Int×Int):Prop:=0<=w.1/\w.1<=10000/\ -1<=w.2/\w.2<=10000
def Uc{s:Bool}{a b:Int×Int}(c:eO a)(hb:eO b):eO (QZ s a b):=by
 grind [eO,QZ]
theorem XK(s:Bool):∀(ks:List Pat) (w:Int×Int),eO w->(∀k∈ks,eO (aU k))->eO (mO s ks w)
 | [],w,h,_=>by grind [mO]
 | k::ks,w,h,hk=>by
   rw[mO];exact XK s ks _ (Uc h (hk k (by simp))) λx a=>hk x (by grind)
theorem zO{v:B->Bool}(p:Pat):eX v p=true->eO (aU p):=by
 induction p using fJ with|_ p b=>?_
 intro h;obtain⟨h1,_,hn⟩:=dr h;unfold lJ at hn;rw[decide_eq_true_eq]at hn;rcases qT h1 with⟨ho,_⟩|⟨ho,_⟩|⟨ho,k,ks,hk⟩|⟨ho,k,hk⟩
 grind [qhN,eO];grind [qhM,eO]
 ·rw[qhL ho hk];grind [XK,ph]
 ·rw[qhK ho hk];have a:=b k (by grind) (ph h (by grind));have hn:=hn ho;generalize aU k=w at a;unfold eO at*;have h1:0<=w.1*p.mn:=qHD a.1 hn.1;refine⟨by omega,by omega,?_⟩;simp only;split;simp
  ·split;simp
   ·have h2:0<=w.2*p.mx:=qHD (by omega) (by omega);omega
end
end Go.Gv
