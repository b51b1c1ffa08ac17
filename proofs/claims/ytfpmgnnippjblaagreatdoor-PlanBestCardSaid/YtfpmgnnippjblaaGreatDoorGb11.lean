/- L1 -/
import Derived.Test.YtfpmgnnippjblaaGreatDoorProg
import Derived.Laws.RangeString
import Derived.Test.YtfpmgnnippjblaaGreatDoorGb10
set_option linter.all false
set_option maxRecDepth 100000
set_option maxHeartbeats 0
open Bool renaming forall_bool → fB', exists_bool → eB'
namespace Go.Gv
section
theorem au{α:Type}{l:List α}{k:Nat}{a:α}(h:l[k]? =some a):l.take (k+1)=l.take k++ [a]:=by
 grind [List.take_add_one]
def bE{α:Type}{l:List α}{k:Nat}{a:α}(h:l[k]? =some a):l.drop k=a::l.drop (k+1):=by
 grind [List.drop_eq_getElem_cons]
def aO{α:Type}{l:List α}{k:Nat}{a:α}(h:l[k]? =some a):a∈l:=qFP h
def aU{α:Type}{l:List α}{k:Nat}(h:k<l.length):∃a,l[k]? =some a:=⟨l[k],qFQ h⟩
def CW(a b:Span):Prop:=a.b<b.b\/a.b=b.b/\a.e<b.e
instance (a b:Span):Decidable (CW a b):=by unfold CW;infer_instance
theorem Nt(a:Span):¬CW a a:=by grind [CW]
theorem KN{a b c:Span}(h:CW a b)(k:CW b c):CW a c:=by grind [CW]
theorem Span.ext'{a b:Span}(h:a.b=b.b)(k:a.e=b.e):a=b:=by cases a;simp_all
theorem Ns(a b:Span):CW a b\/a=b\/CW b a:=by
 by_cases h:a.b=b.b/\a.e=b.e;grind [Span.ext'];grind [CW]
def SS(l:List Span):Prop:=l.Pairwise CW
def SS.nil:SS []:=List.Pairwise.nil
def qcb:∀{a b:List Span},SS a->SS b->(∀x,x∈a↔x∈b)->a=b
 | [], [],_,_,_=>rfl
 | [],y::b,_,_,h=>by have:=(h y).2 (by simp);grind
 |x::a, [],_,_,h=>by have:=(h x).1 (by simp);grind
 | x::a,y::b,k,hb,h=>by
   have c:=qG4.1 k;have d:=qG4.1 hb;have j:x=y:=by
    rcases qF5.1 ((h x).1 (by simp))with e|e;omega
    ·rcases qF5.1 ((h y).2 (by simp))with e2|e2;grind;grind [KN,Nt]
   subst j;have:a=b:=qcb c.2 d.2 λz=>by
    grind [Nt]
   grind
def IsNorm(l r:List Span):Prop:=SS r/\∀x,x∈r↔x∈l
def IsNorm.eq{l a r r':List Span}(h:IsNorm l r)(k:IsNorm a r')(hl:∀x,x∈l↔x∈a):r=r':=
 qcb h.1 k.1 λx=>(h.2 x).trans ((hl x).trans (k.2 x).symm)
def IsNorm.nil:IsNorm [] []:=⟨SS.nil,λ_=>qHj⟩
def IsNorm.congr{l a r:List Span}(h:IsNorm l r)(hl:∀x,x∈l↔x∈a):IsNorm a r:=⟨h.1,λx=>(h.2 x).trans (hl x)⟩
def qh1:∀{r l:List Span},SS r->(∀x∈r,x∈l)->r.length<=l.length
 | [],l,_,_=>qGb _
 | x::r,l,h,hl=>by
   have a:=qG4.1 h;have b:=hl x (by simp);have:=qh1 (l:=l.erase x) a.2 λy c=>(List.mem_erase_of_ne (λ(e:y=x)=>Nt x (by grind))).2 (hl y (by grind))
   grind
def IsNorm.len{l r:List Span}(h:IsNorm l r):r.length<=l.length:=qh1 h.1 λx a=>(h.2 x).1 a
def IsNorm.snoc{l a r r':List Span}{s:Span}(h:IsNorm l r)(k:IsNorm (r++ [s]) r')(hl:∀x,x∈a↔x∈l\/x=s):IsNorm a r':=
 ⟨k.1,λx=>(k.2 x).trans (by grind [IsNorm])⟩
def IsNorm.same{l a r:List Span}(h:IsNorm l r)(hl:∀x,x∈a↔x∈l):IsNorm a r:=⟨h.1,λx=>(h.2 x).trans (hl x).symm⟩
theorem ZK{l:List Span}{s:Span}{k:Nat}(h:SS l)(hk:k<=l.length)(h1:∀x∈l.drop k,CW s x)(h2:k=0\/ ∃y,l[k -1]? =some y/\ ¬CW s y):
 (∀y,0<k->l[k -1]? =some y->y=s->IsNorm (l++ [s]) l)/\((∀y,0<k->l[k -1]? =some y->y≠s)->IsNorm (l++ [s]) (l.take k++s::l.drop k)):=by
 constructor;grind [IsNorm]
 ·intro a;have hs:SS (l.take k++l.drop k):=by simp_all
  obtain⟨p,hb,b⟩:=qGM.1 hs;have c:∀x∈l.take k,CW x s:=by
   intro x q;rcases h2 with rfl|⟨y,r,hn⟩;grind
   ·rcases qGV k with rfl|hk0;grind;have d:CW y s:=by
     grind [Ns]
    have j:l.take k=l.take (k -1) ++ [y]:=by
     grind [au,Nat.sub_add_cancel]
    grind [KN]
  refine⟨?_,λx=>?_⟩;grind [SS,List.pairwise_cons]
  ·have:x∈l↔x∈l.take k\/x∈l.drop k:=by
    rw[<-qF1,qGj]
   grind
def jM{X:Type} :List X->(X->Bool)->Int
 | [],_=> -1
 |x::l,p=>if p x then 0 else if jM l p< 0 then -1 else jM l p+1
theorem ib{X:Type}{p:X->Bool} :∀{l:List X},(∀y∈l,p y=false)->jM l p= -1
 | [],_=>rfl
 | x::l,h=>by
   have:=ib (l:=l) (λy a=>h y (by grind));grind [jM]
theorem pu{X:Type}{p:X->Bool} :∀{l:List X} {k:Nat} {x:X},l[k]? =some x->p x=true->(∀y∈l.take k,p y=false)->jM l p=k
 | [],k,x,a,_,_=>by grind
 | z::l,0,x,a,hp,_=>by
   grind [jM]
 | z::l,k+1,x,a,hp,hb=>by
   have hz:=hb z (by simp);have b:=pu (l:=l) (k:=k) (by grind) hp (λy c=>hb y (by grind));grind [jM]
theorem PB{X:Type}(p:X->Bool)(l:List X):(jM l p= -1/\∀y∈l,p y=false)\/ ∃k x,jM l p=(k:Nat)/\l[k]? =some x/\p x=true/\∀y∈l.take k,p y=false:=by
 induction l with
 |nil=>exact .inl ⟨rfl,by simp⟩
 | cons z l a=>
   by_cases hz:p z=true
   ·exact .inr ⟨0,z,by grind [jM],by simp,hz,by simp⟩
   ·have hz:p z=false:=by grind
    rcases a with⟨h1,h2⟩|⟨k,x,h1,h2,h3,h4⟩
    grind [jM]
    ·refine .inr ⟨k+1,x,?_,by grind,h3,λy b=>?_⟩;grind [jM];grind
theorem AC{X:Type}(p:X->Bool)(l:List X):decide (0<=jM l p)=l.any p:=by
 grind [PB]
def qta(r:List Span)(x:Span):List Span:=if r.getLast? =some x then r else r++ [x]
def wu(l:List Span):List Span:=l.foldl qta []
theorem D3(l:List Span)(x:Span):wu (l++ [x])=qta (wu l) x:=by simp[wu]
def uy{α:Type}{P:List α->Prop}(h0:P [])(hs:∀l x,P l->P (l++ [x])):∀l,P l:=by
 intro l;have:∀n (l:List α),l.length=n->P l:=by
  intro n
  induction n with
  |zero=>grind
  | succ n b=>
    intro l hl;have a:l≠ []:=by grind
    rw[<-List.dropLast_concat_getLast a];grind
 grind
def Tv(l:List Span):(wu l).getLast? =l.getLast?:=by
 refine uy (P:=λl=>(wu l).getLast? =l.getLast?) rfl (λl x a=>?_) l;grind [D3,qta]
def qaL(l:List Span):∀x,x∈wu l↔x∈l:=by
 refine uy (P:=λl=>∀x,x∈wu l↔x∈l) (λx=>qHj) (λl y a x=>?_) l;grind [D3,qta]
def WS(l:List Span):Prop:=l.Pairwise λa b=>¬CW b a
def qox{l:List Span}(h:WS l):SS (wu l):=by
 revert h;refine uy (P:=λl=>WS l->SS (wu l)) (λ_=>SS.nil) (λl x q h=>?_) l;have k:=qGM.1 h;have hs:=q k.1;rw[D3,qta];split;omega
 ·rename_i c;refine qGM.2 ⟨hs,by simp,λa r b hb=>?_⟩;simp at hb;subst hb;have d:=(qaL l a).1 r;rcases Ns a b with h1|h1|h1;omega
  ·exfalso;subst h1;apply c;rw[Tv];obtain⟨s,p,rfl⟩:=qH2 d;have h3:=(qGM.1 k.1).2.1;have h4:=qG4.1 h3;cases j:p.getLast? with
   | none=>
     grind
   | some z=>
     have hz:z∈p:=List.mem_of_getLast? j;grind [Ns]
  grind
def SS.filter{l:List Span}(h:SS l)(p:Span->Bool):SS (l.filter p):=List.Pairwise.filter p h
def IsNorm.filter{l r:List Span}(h:IsNorm l r)(p:Span->Bool):IsNorm (l.filter p) (r.filter p):=⟨h.1.filter p,λx=>by simp[h.2 x]⟩
def qh9(l:List Span)(i:Nat)(v:Span):(l.map Cod.enc).set i (.agg [.v (.int .i64 v.b), .v (.int .i64 v.e)])=(l.set i v).map Cod.enc:=by
 simp
def P5{l:List Span}(h:l.length< 2):wu l=l:=by
 match l,h with
 | [],_=>rfl
 | [x],_=>rfl
 |x::y::l,h=>grind
theorem qk5{l:List Span}(h:1<=l.length):wu (l.take 1)=l.take 1:=P5 (by grind)
def Tu{l:List Span}{j:Nat}{x y:Span}(b:1<=j)(a:l[j]? =some x)(c:l[j -1]? =some y):wu (l.take (j+1))=if x=y then wu (l.take j)else wu (l.take j) ++ [x]:=by
 rw[au a,D3,qta,Tv];grind
def rO{α:Type}{cur l:List α}{k m:Nat}{x:α}(hk:k<cur.length)(a:k<m)(b:cur.drop m=l.drop m):
 (cur.set k x).take (k+1)=cur.take k++ [x]/\(cur.set k x).drop m=l.drop m:=by
 grind [List.take_add_one,List.take_set_of_le,List.drop_set_of_lt]
def Nx{α:Type}{a b:List α}{m i:Nat}(h:a.drop m=b.drop m)(hi:m<=i):a[i]? =b[i]?:=by
 have:=congrArg (λl=>l[i -m]?) h;grind
def uA{α:Type}{a b:List α}{m i:Nat}(h:a.drop m=b.drop m)(hi:m<=i):a.drop i=b.drop i:=by
 have:=congrArg (λl=>l.drop (i -m)) h;grind [List.drop_drop]
def qgS(s:ByteArray)(p:Nat)(h:p<s.size):1<=(Utf8.decode s p).2/\p+ (Utf8.decode s p).2<=s.size:=by
 unfold Utf8.decode;grind
namespace G
variable {α:Type}
def fc(n:Nat)(f:Nat->α):α:=match n with
 | 0=>f 0
 |k+1=>f (k+1)
def bt(t:Nat):Nat:=Nat.shiftLeft 1 t
def oM:Operand->Nat
 | .tmp t=>bt t
 | _=>0
def qD4:List Operand->Nat
 | []=>0
 |o::l=>Nat.lor (oM o) (qD4 l)
def qDR:CI->Nat
 | .op _ g c=>Nat.lor (qD4 c.ops) (match g with|some (s,_)=>bt s|none=>0)
 | .frz _ _=>0
def rm(m t:Nat):Nat:=Nat.sub m (Nat.land m (bt t))
def qx9:List CI->Nat->Nat
 | [],o=>o
 | x::l,o=>fc (qx9 l o) λo=>match x with
   | .op (some d) g c=>Nat.lor (rm o d) (qDR (.op (some d) g c))
   | .op none g c=>Nat.lor o (qDR (.op none g c))
   | .frz _ _=>o
def lk:List (Nat×Nat)->Nat->Nat
 | [],_=>0
 | (i,m)::l,k=>match Nat.beq i k with
  |true=>m
  |false=>lk l k
def qBH:Nat->(Nat->Nat)->Nat->Nat
 | 0,_,c=>c
 | n+1,f,c=>fc (Nat.lor c (f c)) λd=>match Nat.beq d c with
   |true=>d
   |false=>qBH n f d
def lv(r:Nat):CC->List (Nat×Nat)->Nat->Nat
 | .skip,_,o=>o
 | .reg l,_,o=>qx9 l o
 | .regd p t,_,o=>fc (qx9 t o) (qx9 p)
 | .seq a b,e,o=>fc (lv r b e o) (lv r a e)
 | .ite c a b,e,o=>Nat.lor (Nat.lor (lv r a e o) (lv r b e o)) (oM c)
 | .block i b,e,o=>lv r b ((i,o)::e) o
 | .loop _ b,e,_=>qBH 50 (lv r b e) 0
 | .exit i,e,_=>lk e i
 | .ret,_,_=>r
 | .cut _ c,e,o=>lv r c e o
 | .keep _ _ c,e,o=>lv r c e o
def gt(W x t:Nat):Nat:=Nat.land (Nat.shiftRight x (Nat.mul t W)) (Nat.sub (bt W) 1)
def ad(W x t m:Nat):Nat:=Nat.lor x (Nat.shiftLeft m (Nat.mul t W))
def hO(W h:Nat):Operand->Nat
 | .tmp t=>gt W h t
 | _=>0
def qs5(W h:Nat):List Operand->Nat
 | []=>0
 |o::l=>Nat.lor (hO W h o) (qs5 W h l)
def qlo:Nat->Nat->Nat->List Nat
 | 0,_,_=>[]
 | n+1,i,m=>match Nat.beq m 0 with
   |true=>[]
   | false=>match Nat.beq (Nat.land m 1) 1 with
     |true=>i::qlo n (i+1) (Nat.shiftRight m 1)
     |false=>qlo n (i+1) (Nat.shiftRight m 1)
def bl(m:Nat):List Nat:=qlo 1000 0 m
def qhe(f:Nat->Nat):List Nat->Nat
 | []=>0
 |i::l=>Nat.lor (f i) (qhe f l)
def qqo(W:Nat)(f:Nat->Nat):List Nat->Nat->Nat
 | [],c=>c
 |i::l,c=>fc (ad W c i (f i)) (qqo W f l)
def qE2(W:Nat)(x:CI)(h c:Nat)(K:Nat->Nat->α):α:=match x with
 | .frz _ _=>K h c
 | .op d _ o=>
   let put (m:Nat):α:=match d with
    |some d=>fc (ad W h d m) λh=>K h c
    |none=>K h c
   let own:Nat:=match d with
    |some d=>bt d
    |none=>0
   let a (s:Nat):α:=fc s λs=>fc (qqo W (λi=>rm s i) (bl s) c) λc=>match d with
    |some d=>fc (ad W h d s) λh=>K h c
    |none=>K h c
   match o with
   | .alloc _ _=>put own
   | .nslice _ _=>put own
   | .mslice _ _ _=>put own
   | .mkslice _ _ _ _ _ _ _=>put own
   | .srange _=>put own
   | .appmk _ _ _ _ _ _ _=>put own
   | .m .mk _=>put own
   | .m .rng (x::_)=>fc (qqo W (λ_=>hO W h x) (bl own) c) λc=>match d with
     |some d=>fc (ad W h d own) λh=>K h c
     |none=>K h c
   | .m (.del _ _) _=>K h c
   | .m .len _=>K h c
   | .m (.upd _ _) (x::b)=>fc (qs5 W h b) λv=>fc (qqo W (λ_=>v) (bl (hO W h x)) c) λc=>K h c
   | .m (.look _ _ _ _ _) (x::_)=>put (qhe (gt W c) (bl (hO W h x)))
   | .m .entry (x::_)=>put (qhe (gt W c) (bl (hO W h x)))
   | .load _ _ x=>put (qhe (gt W c) (bl (hO W h x)))
   | .tbx _ x=>fc (qqo W (λ_=>hO W h x) (bl own) c) λc=>match d with
     |some d=>fc (ad W h d own) λh=>K h c
     |none=>K h c
   | .box _ false x=>fc (qqo W (λ_=>hO W h x) (bl own) c) λc=>match d with
     |some d=>fc (ad W h d own) λh=>K h c
     |none=>K h c
   | .store _ _ x y=>fc (hO W h y) λv=>fc (qqo W (λ_=>v) (bl (hO W h x)) c) λc=>K h c
   | .append _ _ _ _ x _=>put (Nat.lor own (hO W h x))
   | .call _ xs=>a (qs5 W h xs)
   | .callb _ _ xs=>a (qs5 W h xs)
   | .callv f xs=>put (Nat.lor (qs5 W h xs) (hO W h f))
   |o=>put (qs5 W h o.ops)
def qo8(W:Nat):List CI->Nat->Nat->(Nat->Nat->α)->α
 | [],h,c,K=>K h c
 |x::l,h,c,K=>qE2 W x h c λh c=>qo8 W l h c K
def qqk(W:Nat):CC->Nat->Nat->(Nat->Nat->α)->α
 | .reg l,h,c,K=>qo8 W l h c K
 | .regd p t,h,c,K=>qo8 W p h c λh c=>qo8 W t h c K
 | .seq a b,h,c,K=>qqk W a h c λh c=>qqk W b h c K
 | .ite _ a b,h,c,K=>qqk W a h c λh c=>qqk W b h c K
 | .block _ b,h,c,K=>qqk W b h c K
 | .loop _ b,h,c,K=>qqk W b h c K
 | _,h,c,K=>K h c
def fx(W:Nat)(cc:CC):Nat->Nat->Nat->(Nat->Nat->α)->α
 | 0,h,c,K=>K h c
 | n+1,h,c,K=>qqk W cc h c λa c'=>match Nat.beq h a with
   |false=>fx W cc n a c' K
   | true=>match Nat.beq c c' with
     |false=>fx W cc n a c' K
     |true=>K h c
def cl(W c:Nat):Nat->Nat->Nat
 | 0,s=>s
 | n+1,s=>fc (Nat.lor s (qhe (gt W c) (bl s))) λt=>match Nat.beq t s with
   |true=>s
   |false=>cl W c n t
def quE:Value->Bool
 | .int .i64 k=>decide (k=1)
 | _=>false
def qFi:List CI->Option (Nat×Nat×Nat)
 | [.op (some c) none (.cmp .lss (.tmp i) (.tmp n))]=>some (c,i,n)
 | _=>none
def qyx:List CI->Option (Nat×Nat)
 | [.op (some a) none (.arith .add (.tmp i) (.const v)), .op (some j) none (.mv (.tmp j2))]=>match quE v && Nat.beq i j && Nat.beq a j2 with
   |true=>some (a,i)
   |false=>none
 | _=>none
def qBI(id:Nat):CC->Option (Nat×Nat×Nat×Nat×Nat)
 | .loop _ (.seq (.reg l) (.seq (.ite (.tmp c2) .skip (.exit a)) (.seq (.block b _) (.reg d))))=>match qFi l,qyx d with
   | some (c,i,n),some (k,j)=>match Nat.beq id a && Nat.beq c c2 && Nat.beq i j with
     |true=>some (i,n,c,b,k)
     |false=>none
   | _,_=>none
 | _=>none
def qoy:CC->Nat
 | .seq a b=>qoy a+qoy b+1
 | .ite _ a b=>qoy a+qoy b
 | .block i b=>match qBI i b with
   |some _=>qoy b -3
   |none=>qoy b
 | .loop _ b=>qoy b
 | _=>0
def fj:CC->Nat
 | .seq a b=>fj a+fj b
 | .ite _ a b=>fj a+fj b
 | .block i b=>match qBI i b with
   |some _=>fj b -1
   |none=>fj b
 | .loop _ b=>fj b+1
 | _=>0
def uk:CC->CC
 | .keep _ _ c=>c
 |c=>c
def qFC(b:CC):CC:=match b with
 | .loop _ b=>match uk b with
   | .seq _ b=>match uk b with
     | .seq _ b=>match uk b with
       | .seq a _=>match uk a with
         | .block _ b=>b
         | _=> .skip
       | _=> .skip
     | _=> .skip
   | _=> .skip
 | _=> .skip
section
variable (f:Operand->Operand)(z:List Value->List Value)
def pC:COp->COp
 | .mv x=> .mv (f x)
 | .pick c x y=> .pick (f c) (f x) (f y)
 | .alloc el l=> .alloc el (z l)
 | .box el im x=> .box el im (f x)
 | .tbx el x=> .tbx el (f x)
 | .build l d=> .build (z l) (d.map λp=>(p.1,p.2.1,f p.2.2))
 | .bslice el n d=> .bslice el n (d.map f)
 | .nslice el n=> .nslice el n
 | .mslice el n d=> .mslice el n (d.map f)
 | .load a s x=> .load a s (f x)
 | .store r s x y=> .store r s (f x) (f y)
 | .nilck x=> .nilck (f x)
 | .arith o x y=> .arith o (f x) (f y)
 | .cmp o x y=> .cmp o (f x) (f y)
 | .eql n a ks x y=> .eql n a ks (f x) (f y)
 | .scat x y=> .scat (f x) (f y)
 | .not x=> .not (f x)
 | .neg x=> .neg (f x)
 | .conv k x=> .conv k (f x)
 | .clo g l=> .clo g (l.map f)
 | .mkslice el n b a l x y=> .mkslice el n b a (z l) (f x) (f y)
 | .slice n x l h=> .slice n (f x) (l.map f) (h.map f)
 | .sslice x l h=> .sslice (f x) (l.map f) (h.map f)
 | .faddr o x=> .faddr o (f x)
 | .fld a s o x=> .fld a s o (f x)
 | .iaddr n x i=> .iaddr n (f x) (f i)
 | .sidx x i=> .sidx (f x) (f i)
 | .ext x i=> .ext (f x) i
 | .len x=> .len (f x)
 | .slen x=> .slen (f x)
 | .mm m l=> .mm m (l.map f)
 | .append r el n b x y=> .append r el n b (f x) (f y)
 | .appmk el n b a l x y=> .appmk el n b a (z l) (f x) (f y)
 | .clear n a l x=> .clear n a (z l) (f x)
 | .copy n x y=> .copy n (f x) (f y)
 | .cap x=> .cap (f x)
 | .srange x=> .srange (f x)
 | .snext x=> .snext (f x)
 | .sbytes x=> .sbytes (f x)
 | .srunes x=> .srunes (f x)
 | .bstr x=> .bstr (f x)
 | .rstr x=> .rstr (f x)
 | .mkif t x=> .mkif t (f x)
 | .m (.look ok a ka ks l) xs=> .m (.look ok a ka ks (z l)) (xs.map f)
 | .m o xs=> .m o (xs.map f)
 | .bad=> .bad
 | .call g l=> .call g (l.map f)
 | .callv g l=> .callv (f g) (l.map f)
 | .callb r g l=> .callb r g (l.map f)
def pL(fz:List (Nat×Nat)):List CI->List CI
 | []=>[]
 | .op (some d) g c::l=>match fz.lookup d with
   |some n=> .op (some d) g (pC f z c):: .frz d n::pL fz l
   |none=> .op (some d) g (pC f z c)::pL fz l
 | .op none g c::l=> .op none g (pC f z c)::pL fz l
 | .frz t n::l=> .frz t n::pL fz l
end
structure Opt where
 bx:List Nat:=[]
 fz:List (Nat×Nat):=[]
 cu:List Nat:=[]
 ke:List Nat:=[]
 kz:List Nat:=[]
abbrev PF:=(rg:Nat->Nat->Nat->Nat->Nat->CC->Nat->CC)->(sm:Nat->CC->CC->CC)->(kk:{_:Value} ->Operand)->(zk:IntKind->Value)->(ze zb zs zp zm zf:Value)->CC
section
variable (kk:{_:Value} ->Operand)(zk:IntKind->Value)(ze zb zs zp zm zf:Value)
def pO:Operand->Operand
 | .const v=> @kk v
 | .tmp t=> .tmp t
 | .global g=> .global g
 | .func f=> .func f
def pZ:List Value->List Value
 | []=>[]
 | v::l=>(match v with
   | .int k _=>zk k
   | .string _=>ze
   | .bool _=>zb
   | .slice _ _ _=>zs
   | .pointer _=>zp
   | .map _=>zm
   | _=>zf)::pZ l
end
section
variable (rg:Nat->Nat->Nat->Nat->Nat->CC->Nat->CC)(sm:Nat->CC->CC->CC)(f:Operand->Operand)(z:List Value->List Value)(op:Opt)(W h c r:Nat)
def qDo(l:List Nat):List Nat:=op.ke.filter (λx=>!l.contains x) ++l++op.kz
def an:CC->List (Nat×Nat)->Nat->Nat->Nat->Nat->CC
 | .skip,_,_,_,_,_=> .skip
 | .reg l,_,_,_,_,_=> .reg (pL f z op.fz l)
 | .regd p l,_,_,_,_,_=> .regd (pL f z op.fz p) (pL f z op.fz l)
 | .seq a b,e,o,m,k,s=>fc (lv r b e o) λp=>fc (match s with|0=>m+1|_=>m) λt=>
   let d:=an a e p t k 0
   let b':=an b e o (t+qoy a) (k+fj a) (s -1)
   let b2:=match a with
    | .skip=>b'
    | _=> .keep (bl p) (qDo op (bl (cl W c 5 (qhe (gt W h) (bl p))))) b'
   match s with
   | 0=>match op.cu.contains m with
     |true=>sm m d b2
     |false=> .seq d b2
   | _=> .seq d b2
 | .ite q a b,e,o,m,k,_=> .ite (f q) (an a e o m k 0) (an b e o (m+qoy a) (k+fj a) 0)
 | .block i b,e,o,m,k,_=>match qBI i b with
   |some (u,n,c,j,w)=>rg i u n c j (qFC (an b ((i,o)::e) o m k 3)) w
   |none=> .block i (an b ((i,o)::e) o m k 0)
 | .loop _ b,e,_,m,k,s=>fc (qBH 50 (lv r b e) 0) λo=>match s with
   | 0=> .loop k (an b e o m (k+1) 0)
   | _=> .loop 0 (an b e o m k s)
 | .exit i,_,_,_,_,_=> .exit i
 | .ret,_,_,_,_,_=> .ret
 | .cut _ c,e,o,m,k,s=>an c e o m k s
 | .keep _ _ c,e,o,m,k,s=>an c e o m k s
end
def qpd(W:Nat):List Nat->Nat
 | []=>0
 |t::l=>ad W (qpd W l) t (bt t)
def qqz:List ResultVar->Nat
 | []=>0
 | .tmp t::l=>Nat.lor (bt t) (qqz l)
 | .cell t _::l=>Nat.lor (bt t) (qqz l)
def qEs(P:Program)(neg:Bool)(t:TypeId)(x y:Operand):COp:=match P.underlying t with
 |some (.struct fs)=> .eql neg true (fs.toList.map λf=>(mB P f.type).getD .int) x y
 | _=> .eql neg false [(mB P t).getD .int] x y
def qCZ(P:Program)(im:List Nat)(ops:Array Oper)(o:Oper):CI:= .op o.dst ((IJ ops o).getD none) (match o.op with
 | .binOp .eql t x y _=>qEs P false t x y
 | .binOp .neq t x y _=>qEs P true t x y
 | _=>(cU P im o).getD .bad)
def cC(P:Program)(im:List Nat):Code->CC
 | .region _ ops false=> .reg (ops.toList.map (qCZ P im ops))
 | .region _ ops true=> .regd (qel ops (ops.toList.map (qCZ P im ops)) (cP ops)) ((ops.toList.map (qCZ P im ops)).drop (cP ops))
 | .seq a b=> .seq (cC P im a) (cC P im b)
 | .cond c a b=> .ite c (cC P im a) (cC P im b)
 | .block id b=> .block id (cC P im b)
 | .loop b=> .loop 0 (cC P im b)
 | .exit id=> .exit id
 | .ret=> .ret
 | _=> .skip
def gn(P:Program)(fn:Func)(im:List Nat)(op:Opt):PF:=λrg sm kk zk ze zb zs zp zm zf=>match fn.body with
 |none=> .skip
 | some code=>fc (qpd fn.ntmps op.bx) λh0=>fx fn.ntmps (cC { P with cutTypes:= #[] } im code) 6 h0 0 λh c=>fc (qqz fn.results.toList) λr=>
   an rg sm (pO @kk) (pZ zk ze zb zs zp zm zf) op fn.ntmps h c r (cC { P with cutTypes:= #[] } im code) [] r 0 1 0
def rw_(P:Program)(fn:Func)(im:List Nat):CC:=match fn.body with
 |none=> .skip
 |some code=>cC { P with cutTypes:= #[] } im code
def ap(c:PF):CC:=c wC qcf (λ{v} => .const v) (λk=> .int k 0) (.string ⟨#[]⟩) (.bool false) (.slice none 0 0) (.pointer none) (.map none) .nilFunc
end G
open Go.Proofs
abbrev oA(d s:Nat):CI:= .op (some d) none (.mv (.tmp s))
abbrev oB(d:Nat)(c:COp):CI:= .op (some d) none c
abbrev oC(d w s:Nat):CI:= .op (some d) none (.load false w (.tmp s))
abbrev oD(d w s:Nat):CI:= .op (some d) none (.load true w (.tmp s))
abbrev oE(d n s:Nat):CI:= .op (some d) none (.faddr n (.tmp s))
abbrev oF(w a b:Nat):CI:= .op none none (.store none w (.tmp a) (.tmp b))
abbrev oG(d s:Nat):CI:= .op (some d) none (.nilck (.tmp s))
abbrev oH(d g:Nat)(c:COp):CI:= .op (some d) (some (g,true)) c
abbrev oI(d g:Nat)(c:COp):CI:= .op (some d) (some (g,false)) c
abbrev oT(n:Nat):Operand:= .tmp n
abbrev oK(v:Value):Operand:= .const v
abbrev oN(n:Int):Operand:= .const (.int .i64 n)
abbrev oS(b:ByteArray):Operand:= .const (.string b)
abbrev oi:Value:= .int .i64 0
abbrev oe:Value:= .string ⟨#[]⟩
abbrev ob:Value:= .bool false
abbrev on:Value:= .slice none 0 0
abbrev oZ(d f:Nat)(l:List Operand):CI:= .op (some d) none (.call f l)
abbrev oX(l:List CI)(a b:List Nat)(x:CC):CC:= .seq (.reg l) (.keep a b x)
abbrev zl:Nat:=5
abbrev Wp:Nat:=6
abbrev tC:Nat:=7
abbrev vC:Nat:=8
abbrev pN:Nat:=9
abbrev AG:Nat:=10
abbrev Gp:Nat:=11
abbrev pD:Nat:=12
abbrev rh:Nat:=13
abbrev xP:Nat:=16
abbrev nl:Nat:=18
abbrev xR:Nat:=20
abbrev wN:Nat:=21
abbrev Gi:Nat:=22
abbrev AF:Nat:=23
abbrev pM:Nat:=24
abbrev cq:Nat:=25
abbrev AN:Nat:=26
abbrev ig:Nat:=27
abbrev rf:Nat:=28
abbrev Df:Nat:=29
abbrev fe:Nat:=30
abbrev tB:Nat:=31
abbrev fq:Nat:=32
abbrev pJ:Nat:=33
abbrev vu:Nat:=34
abbrev C5:Nat:=35
abbrev fY:Nat:=36
abbrev gp:Nat:=37
abbrev iY:Nat:=38
abbrev wJ:Nat:=39
abbrev lP:Nat:=40
abbrev C1:Nat:=41
abbrev fS:Nat:=42
abbrev tE:Nat:=43
abbrev uc:Nat:=44
abbrev re:Nat:=45
abbrev AI:Nat:=46
abbrev vz:Nat:=48
abbrev gL:Nat:=49
abbrev Gj:Nat:=50
abbrev vD:Nat:=51
abbrev PS:Nat:=52
abbrev Wo:Nat:=53
abbrev AP:Nat:=54
abbrev sO:Nat:=55
abbrev pG:Nat:=56
abbrev vA:Nat:=57
abbrev vB:Nat:=58
abbrev wO:Nat:=59
abbrev Dc:Nat:=60
abbrev kY:Nat:=61
abbrev vy:Nat:=62
abbrev vw:Nat:=63
abbrev xQ:Nat:=64
abbrev sM:Nat:=65
abbrev eI:Nat:=66
abbrev da:Nat:=67
abbrev dE:Nat:=68
abbrev eJ:Nat:=69
abbrev aP:Nat:=70
abbrev pI:Nat:=71
abbrev mY:Nat:=72
abbrev eb:Nat:=73
abbrev mV:Nat:=74
abbrev lM:Nat:=75
abbrev nX:Nat:=76
abbrev aK:Nat:=77
abbrev jE:Nat:=78
abbrev ra:Nat:=79
abbrev AH:Nat:=80
abbrev pF:Nat:=81
abbrev xM:Nat:=82
abbrev vt:Nat:=83
abbrev pR:Nat:=84
abbrev gz:Nat:=85
abbrev kq:Nat:=86
abbrev qc0:Nat:=87
abbrev K2:Nat:=88
abbrev K0:Nat:=89
abbrev KZ:Nat:=90
abbrev IQ:Nat:=91
abbrev RM:Nat:=92
abbrev Gk:Nat:=93
abbrev IR:Nat:=94
abbrev M3:Nat:=95
abbrev KU:Nat:=96
abbrev KX:Nat:=97
abbrev un:Nat:=98
abbrev bH:Nat:=99
abbrev gK:Nat:=100
abbrev fC:Nat:=101
abbrev eS:Nat:=102
abbrev Gm:Nat:=103
abbrev sE:Nat:=104
abbrev vE:Nat:=105
abbrev nF:Nat:=106
abbrev wI:Nat:=108
abbrev iX:Nat:=109
abbrev sJ:Nat:=110
abbrev C8:Nat:=111
abbrev wK:Nat:=112
abbrev uo:Nat:=113
abbrev kw:Nat:=114
abbrev jN:Nat:=115
abbrev gu:Nat:=116
abbrev vx:Nat:=117
abbrev lc:Nat:=118
abbrev mZ:Nat:=119
abbrev fp:Nat:=120
abbrev dA:Nat:=121
abbrev dF:Nat:=122
abbrev bM:Nat:=123
abbrev cZ:Nat:=124
abbrev iW:Nat:=125
abbrev bb:Nat:=126
abbrev rY:Nat:=127
abbrev dG:Nat:=128
abbrev il:Nat:=129
abbrev cB:Nat:=130
abbrev pS:Nat:=131
abbrev cH:Nat:=132
abbrev pH:Nat:=133
abbrev jx:Nat:=134
abbrev mW:Nat:=135
abbrev eu:Nat:=136
abbrev gy:Nat:=137
abbrev C6:Nat:=138
abbrev iB:Nat:=139
abbrev rc:Nat:=140
abbrev sH:Nat:=141
abbrev ju:Nat:=142
abbrev jt:Nat:=143
abbrev PO:Nat:=144
abbrev fZ:Nat:=145
abbrev nY:Nat:=146
abbrev cA:Nat:=147
abbrev aL:Nat:=148
abbrev xT:Nat:=149
abbrev pT:Nat:=150
abbrev ku:Nat:=151
abbrev xS:Nat:=152
abbrev bT:Nat:=153
abbrev dP:Nat:=154
abbrev nH:Nat:=155
abbrev cb:Nat:=156
abbrev cL:Nat:=157
abbrev PN:Nat:=158
abbrev RL:Nat:=159
abbrev qal:Nat:=160
abbrev KV:Nat:=161
abbrev IW:Nat:=162
abbrev Gl:Nat:=163
abbrev mX:Nat:=164
abbrev ij:Nat:=165
abbrev lO:Nat:=166
abbrev tA:Nat:=168
abbrev AE:Nat:=169
abbrev C7:Nat:=170
abbrev nn:Nat:=171
abbrev sI:Nat:=174
abbrev sG:Nat:=175
abbrev rW:Nat:=176
abbrev rX:Nat:=177
abbrev Gu:Nat:=178
abbrev xO:Nat:=179
abbrev rb:Nat:=180
abbrev AK:Nat:=181
abbrev C9:Nat:=182
abbrev xN:Nat:=183
abbrev Dd:Nat:=184
abbrev Da:Nat:=185
abbrev jw:Nat:=186
abbrev lN:Nat:=187
abbrev aN:Nat:=188
abbrev jy:Nat:=189
abbrev cp:Nat:=190
abbrev fa:Nat:=191
abbrev kZ:Nat:=192
abbrev pP:Nat:=193
abbrev pQ:Nat:=194
abbrev rZ:Nat:=195
abbrev vp:Nat:=196
abbrev cK:Nat:=197
abbrev dD:Nat:=198
abbrev ga:Nat:=199
abbrev eY:Nat:=200
abbrev fb:Nat:=201
abbrev vv:Nat:=202
abbrev Gn:Nat:=203
abbrev sL:Nat:=204
abbrev Gq:Nat:=205
abbrev Ev:Nat:=206
abbrev PQ:Nat:=207
abbrev rV:Nat:=208
abbrev pB:Nat:=209
abbrev xL:Nat:=210
abbrev tD:Nat:=211
abbrev nG:Nat:=212
abbrev eX:Nat:=213
abbrev bX:Nat:=214
abbrev eZ:Nat:=215
abbrev cg:Nat:=216
abbrev iU:Nat:=217
abbrev eR:Nat:=218
abbrev KW:Nat:=219
abbrev Eu:Nat:=220
abbrev IV:Nat:=221
abbrev mU:Nat:=222
abbrev kV:Nat:=223
abbrev pK:Nat:=233
abbrev sF:Nat:=234
abbrev pE:Nat:=243
abbrev M7:Nat:=244
abbrev qao:Nat:=245
abbrev Db:Nat:=246
abbrev wM:Nat:=247
abbrev um:Nat:=248
abbrev Gw:Nat:=249
abbrev AM:Nat:=250
abbrev AL:Nat:=251
abbrev gw:Nat:=252
abbrev AO:Nat:=253
abbrev kU:Nat:=254
abbrev pU:Nat:=256
abbrev eH:Nat:=257
abbrev fQ:Nat:=258
abbrev wL:Nat:=259
abbrev jv:Nat:=260
abbrev IZ:Nat:=261
abbrev bP:Nat:=262
abbrev Ez:Nat:=263
abbrev I1:Nat:=264
abbrev I2:Nat:=265
abbrev Gr:Nat:=266
abbrev qam:Nat:=267
abbrev M5:Nat:=268
abbrev Dh:Nat:=269
abbrev kW:Nat:=270
abbrev lL:Nat:=272
abbrev rU:Nat:=273
abbrev dr:Nat:=274
abbrev dJ:Nat:=275
abbrev fR:Nat:=276
abbrev mw:Nat:=277
abbrev IU:Nat:=278
abbrev Et:Nat:=279
abbrev IT:Nat:=280
abbrev IS:Nat:=281
abbrev M4:Nat:=282
abbrev IY:Nat:=283
abbrev IX:Nat:=284
abbrev qan:Nat:=293
abbrev De:Nat:=294
abbrev sK:Nat:=298
abbrev Ew:Nat:=299
abbrev Wm:Nat:=300
abbrev jQ:Nat:=301
abbrev bD:Nat:=302
abbrev rT:Nat:=303
abbrev iV:Nat:=304
abbrev kp:Nat:=305
abbrev Dg:Nat:=306
abbrev mA:Nat:=307
abbrev qZ:Nat:=308
abbrev ri:Nat:=309
abbrev M2:Nat:=310
abbrev Es:Nat:=311
abbrev qc3:Nat:=314
abbrev K3:Nat:=315
abbrev I3:Nat:=321
abbrev Ey:Nat:=322
abbrev I0:Nat:=323
abbrev jO:Nat:=324
abbrev dx:Nat:=325
abbrev pA:Nat:=326
abbrev du:Nat:=327
abbrev eU:Nat:=328
abbrev K1:Nat:=329
abbrev RN:Nat:=330
abbrev PP:Nat:=331
abbrev K4:Nat:=332
abbrev qc2:Nat:=333
abbrev qc1:Nat:=334
abbrev qkx:Nat:=335
abbrev I4:Nat:=336
abbrev Gt:Nat:=339
abbrev AJ:Nat:=340
abbrev Gs:Nat:=341
abbrev mz:Nat:=342
abbrev qY:Nat:=345
abbrev dQ:Nat:=346
abbrev jR:Nat:=347
abbrev KY:Nat:=348
abbrev PR:Nat:=349
abbrev M6:Nat:=350
abbrev Wn:Nat:=351
abbrev qky:Nat:=352
abbrev C0:Nat:=354
abbrev kX:Nat:=355
abbrev iT:Nat:=356
abbrev ep:Nat:=357
abbrev gT:Nat:=359
abbrev eT:Nat:=360
abbrev jP:Nat:=361
abbrev vr:Nat:=362
abbrev my:Nat:=365
abbrev eQ:Nat:=367
abbrev dt:Nat:=368
abbrev nI:Nat:=369
abbrev eG:Nat:=372
abbrev rj:Nat:=373
abbrev cY:Nat:=374
abbrev bC:Nat:=3
abbrev sk:Nat:=5
abbrev av:Nat:=9
abbrev N5:Nat:=21
abbrev wz:Nat:=28
abbrev iD:Nat:=36
abbrev bL:Nat:=39
abbrev Sd:Nat:=74
abbrev cv:Nat:=84
abbrev DL:Nat:=96
abbrev HD:Nat:=103
abbrev nT:Nat:=109
abbrev wy:Nat:=118
abbrev Fx:Nat:=154
abbrev eW:Nat:=183
abbrev Ch:Nat:=186
abbrev dm:Nat:=222
abbrev fV:Nat:=245
abbrev yK:Nat:=317
def mixed:Tryz.prog.follows .mixedOrders=true:=by kernel_rfl
abbrev gq(f:Func)(im:List Nat)(op:G.Opt)(c:CC)(_:G.ap (G.gn Tryz.prog f im op)=c:=by conv=>lhs;(conv=>arg 1;reduce);dsimp only[G.ap]):CC:=c
def fo {f : Nat} {im : List Nat} {cc : CC} {rs : List ai} {N : Nat} (h : ((Tryz.prog.funcs[f]?).bind fun g => if g.name == "runtime.NumGoroutine" then none else g.body.bind fun c => (aG Tryz.prog im g.ntmps c).bind fun cc => (g.results.toList.mapM (fD Tryz.prog)).bind fun rs => some (g.ntmps, cc, rs)) = some (N, bI cc, rs) := by kernel_rfl) : Bk Tryz.prog f im cc rs N := qpy mixed h
abbrev FO:=Bk Tryz.prog
abbrev TQ(dq:Prop)(f:Nat)(s:Spc):Prop:=Tri dq Tryz.prog f s.pt
def eK:CC:=gq Tryz.f213 [] {} _
def eC:List ai:=[.tmp 4]
def sx:FO eX [] eK eC 19:=fo
def fm:CC:=gq Tryz.f156 [] {} _
def fh:List ai:=[.tmp 4]
def km:FO cb [] fm fh 9:=fo
def gN:CC:=gq Tryz.f218 [] {} _
def gG:List ai:=[.tmp 4]
def mR:FO eR [] gN gG 19:=fo
def eM:CC:=gq Tryz.f215 [] {} _
def eE:List ai:=[.tmp 4]
def sA:FO eZ [] eM eE 9:=fo
def fF:CC:=gq Tryz.f276 [] {} _
def fy:List ai:=[.tmp 4]
def vj:FO fR [] fF fy 19:=fo
def iq:CC:=gq Tryz.f217 [3] {} _
def gW:List ai:=[.tmp 4]
def yX:FO iU [3] iq gW 9:=fo
def lg:CC:=gq Tryz.f277 [3] {} _
def kG:List ai:=[.tmp 4]
def CA:FO mw [3] lg kG 19:=fo
def iZ:CC:=gq Tryz.f154 [] {} _
def iE:List ai:=[.tmp 4]
def Ao:FO dP [] iZ iE 19:=fo
def cI:CC:=gq Tryz.f126 [] {} _
def cG:List ai:=[.tmp 4]
def lU:FO bb [] cI cG 9:=fo
def lu:CC:=gq Tryz.f128 [3] {} _
def kO:List ai:=[.tmp 6, .tmp 7]
def CO:FO dG [3] lu kO 40:=fo
def nP:CC:=gq Tryz.f84 [1] {} _
def nC:List ai:=[.tmp 2]
def qn:CC:=gq Tryz.f129 [2] {} _
def pd:List ai:=[.tmp 4]
def Ir:FO il [2] qn pd 29:=fo
def bz:CC:=gq Tryz.f193 [1,2034005,2033005,2043005,2042005,2041005,2052005,2051005,2050005] {} _
def bv:List ai:=[.tmp 2]
def FW:FO pP [1,2034005,2033005,2043005,2042005,2041005,2052005,2051005,2050005] bz bv 108:=fo
def jl:CC:=gq Tryz.f153 [3] {} _
def iO:List ai:=[.tmp 4]
def Av:FO bT [3] jl iO 8:=fo
def gP:CC:=gq Tryz.f214 [2] {} _
def gI:List ai:=[.tmp 3]
def xG:FO bX [2] gP gI 8:=fo
def jk:CC:=gq Tryz.f151 [] {} _
def iN:List ai:=[.tmp 4]
def F1:FO ku [] jk iN 14:=fo
def cm:CC:=gq Tryz.f194 [2] {} _
def bZ:List ai:=[.tmp 4]
def FX:FO pQ [2] cm bZ 50:=fo
def di:CC:=gq Tryz.f131 [3] {} _
def dh:List ai:=[.tmp 6]
def F2:FO pS [3] di dh 59:=fo
def jX:CC:=gq Tryz.f69 [5,4,3] {} _
def jL:List ai:=[.tmp 6]
def BP:FO eJ [5,4,3] jX jL 23:=fo
def ix:CC:=gq Tryz.f130 [3] {} _
def hZ:List ai:=[.tmp 4]
def za:FO cB [3] ix hZ 9:=fo
def kB:CC:=gq Tryz.f147 [1] {} _
def ki:List ai:=[.tmp 2]
def ek:CC:=gq Tryz.f85 [1,2034003,1033033] { cu:=[5] } _
def ea:List ai:=[.cell 2 true 7]
def cn:CC:=gq Tryz.f150 [3] {} _
def ca:List ai:=[.tmp 6]
def F3:FO pT [3] cn ca 38:=fo
def mI:CC:=gq Tryz.f155 [5,4,3] {} _
def ml:List ai:=[.tmp 6]
def Eo:FO nH [5,4,3] mI ml 11:=fo
def bV:CC:=gq Tryz.f216 [3] {} _
def bS:List ai:=[.tmp 4]
def BO:FO cg [3] bV bS 37:=fo
def FZ:FO pR [1] nP nC 12:=fo
def Is:FO cA [1] kB ki 11:=fo
def FY:FO gz [1,2034003,1033033] ek ea 37:=fo
open Cod (enc dec)
variable {S S0:Nat->Spc}
def FunOn{X Y:Type}[Cod X][Cod Y](S:Nat->Spc)(d:D)(l:List X)(p:X->Y):Prop:=
 ∃g caps a,d= .clo g caps/\S g= .pure a/\∀x∈l,a.pre (enc x::caps)/\∀r,a.post (enc x::caps) r->r=enc (p x)
def FunOn.useB{X:Type}[Cod X]{S:Nat->Spc}{d:D}{l:List X}{p:X->Bool}(h:FunOn S d l p){x:X}(b:x∈l){c:Nat}{H:ab}{K:D->ab->Prop}(hk:∀y:Bool,(∀q:X->Bool,FunOn S d l q->y=q x)->K (.v (.bool y)) H):Dx S d c [enc x] H K:=by
 obtain⟨g,caps,t,rfl,h1,h2⟩:=h;simp only[Dx,h1,Spc.pt];refine⟨(h2 x b).1,λr j=>?_⟩;have e:=(h2 x b).2 r j;rw[e];refine hk (p x) λq k=>?_
 obtain⟨u,a,s,w,A,C⟩:=k;grind [cD]
def zi{X Y Z:Type}[Cod X][Cod Y]{S:Nat->Spc}{g:Nat}{caps:List D}{A:fN Z}{pre:Z->Prop}{post:Z->Y->Prop}{l:List X}{p:X->Y}{f:X->Z}(h:S g=ay A pre enc post)(b:∀x∈l,A.dec (enc x::caps)=some (f x))(hp:∀x∈l,pre (f x))(c:∀x∈l,∀y,post (f x) y->y=p x):FunOn S (.clo g caps) l p:=by
 refine⟨g,caps,_,rfl,h,λx a=>⟨⟨f x,b x a,hp x a⟩,λr d=>?_⟩⟩;grind
def qdu{X:Type}[Cod X](S0:Nat->Spc)(x:List X×D×Unit):Prop:=∃p:X->Bool,FunOn S0 x.2.1 x.1 p
def R1{X:Type}[Cod X](S0:Nat->Spc)(x:List X×D×Unit)(y:Int):Prop:=∀p:X->Bool,FunOn S0 x.2.1 x.1 p->y=jM x.1 p
def qsp{X:Type}[Cod X](S0:Nat->Spc)(x:List X×D×Unit)(y:Bool):Prop:=∀p:X->Bool,FunOn S0 x.2.1 x.1 p->y=x.1.any p
abbrev qcn(X:Type)[Cod X](S0:Nat->Spc):Spc:=ay (aE (List X) (aD a0)) (qdu S0) (enc (X:=Int)) (R1 S0)
abbrev qfO(X:Type)[Cod X](S0:Nat->Spc):Spc:=ay (aE (List X) (aD a0)) (qdu S0) (enc (X:=Bool)) (qsp S0)
def NV:aq eK eC S (aE (List Attr) (aD a0)) (qdu S) (enc (X:=Int)) (R1 S):=by
 rintro⟨l,d,⟨⟩⟩ ⟨p,hp⟩;simp only at hp;simp[eK,eC,-fB',-eB'];intro _;refine ah (X:=Unit) [0,1] [] l.length (λk _=>∀p:Attr->Bool,FunOn S d l p->∀x∈l.take k,p x=false) (λ_=>[]) (λ_=>[]) () (by simp) ?_ ?_
 ·intro k _ hk c;obtain⟨x,a⟩:∃x,l[k]? =some x:=⟨_,qFQ hk⟩
  obtain⟨_,b⟩:=qFN.1 a;simp[hk,a,b,-fB',-eB'];refine hp.useB (x:=x) (qFP a) λy q=>?_
  simp[-fB',-eB'];refine⟨λh=>?_,λh r j=>?_⟩;grind [R1,pu]
  ·rw[au a];grind
 ·intro _ c;simp[-fB',-eB'];grind [R1,ib]
theorem R8:aq gN gG S (aE (List Cond) (aD a0)) (qdu S) (enc (X:=Int)) (R1 S):=by
 rintro⟨l,d,⟨⟩⟩ ⟨p,hp⟩;simp only at hp;simp[gN,gG,-fB',-eB'];intro _;refine ah (X:=Unit) [0,1] [] l.length (λk _=>∀p:Cond->Bool,FunOn S d l p->∀x∈l.take k,p x=false) (λ_=>[]) (λ_=>[]) () (by simp) ?_ ?_
 ·intro k _ hk c;obtain⟨x,a⟩:∃x,l[k]? =some x:=⟨_,qFQ hk⟩
  obtain⟨_,b⟩:=qFN.1 a;simp[hk,a,b,-fB',-eB'];have e:D.agg [.v (.int .i64 x.op), .v (.string x.name), .v (.string x.arg), .v (.string x.val), .v (.string x.lab), .v (.bool x.fold), .list 7 (x.kids.map enc)]=enc x:=by simp
  rw[e];refine hp.useB (x:=x) (qFP a) λy q=>?_
  simp[-fB',-eB'];refine⟨λh=>?_,λh r j=>?_⟩;grind [R1,pu]
  ·rw[au a];grind
 ·intro _ c;simp[-fB',-eB'];grind [R1,ib]
def R9(h1:S eR=qcn Cond S0):aq fm fh S (aE (List Cond) (aD a0)) (qdu S0) (enc (X:=Bool)) (qsp S0):=by
 rintro⟨l,d,⟨⟩⟩ hp;simp[fm,fh,h1,-fB',-eB'];refine⟨hp,λy b c a=>?_⟩;rw[b c a];grind [Spc,AC]
def XZ:aq fF fy S (aE (List Region) (aD a0)) (qdu S) (enc (X:=Int)) (R1 S):=by
 rintro⟨l,d,⟨⟩⟩ ⟨p,hp⟩;simp only at hp;simp[fF,fy,-fB',-eB'];intro _;refine ah (X:=Unit) [0,1] [] l.length (λk _=>∀p:Region->Bool,FunOn S d l p->∀x∈l.take k,p x=false) (λ_=>[]) (λ_=>[]) () (by simp) ?_ ?_
 ·intro k _ hk c;obtain⟨x,a⟩:∃x,l[k]? =some x:=⟨_,qFQ hk⟩
  obtain⟨_,b⟩:=qFN.1 a;simp[hk,a,b,-fB',-eB'];refine hp.useB (x:=x) (qFP a) λy q=>?_
  simp[-fB',-eB'];refine⟨λh=>?_,λh r j=>?_⟩;grind [R1,pu]
  ·rw[au a];grind
 ·intro _ c;simp[-fB',-eB'];grind [R1,ib]
def Ya(h1:S fR=qcn Region S0):aq eM eE S (aE (List Region) (aD a0)) (qdu S0) (enc (X:=Bool)) (qsp S0):=by
 rintro⟨l,d,⟨⟩⟩ hp;simp[eM,eE,h1,-fB',-eB'];refine⟨hp,λy b c a=>?_⟩;rw[b c a];grind [Spc,AC]
end
section
open Cod (enc dec)
structure U64 where
 val:Int
deriving DecidableEq
instance:Cod U64 where
 wd:=1
 enc n:= .v (.int .u64 n.val)
 dec| .v (.int .u64 n)=>some ⟨n⟩|_=>none
 kn _:=rfl
 wid _:=rfl
 dec_enc _:=rfl
 le d x h:=by
  split at h
  ·cases h;exact .same _
  ·cases h
@[simp] theorem qyZ(n:U64):enc n= .v (.int .u64 n.val):=i' rfl
@[simp] theorem qAc:Cod.wd U64=1:=i' rfl
@[simp] theorem qy7(n:Int):dec (X:=U64) (.v (.int .u64 n))=some ⟨n⟩:=i' rfl
@[simp] theorem qyS(n:U64):U64.mk n.val=n:=i' rfl
structure Rng where
 fr:I32
 to:I32
deriving DecidableEq
instance:Cod Rng where
 wd:=2
 enc s:= .agg [enc s.fr,enc s.to]
 dec| .agg [a,b]=>(dec a).bind λa=>(dec b).bind λb=>some ⟨a,b⟩|_=>none
 kn _:=rfl
 wid _:=rfl
 dec_enc s:=by simp
 le d x h:=by
  split at h
  ·simp only[qFM]at h;obtain⟨a,h0,b,h1,h⟩:=h;cases h;exact LeL.agg (.cons (Cod.le _ _ h0) (.cons (Cod.le _ _ h1) .nil))
  ·cases h
@[simp] theorem qyV(s:Rng):(Rng.mk s.fr s.to)=s:=i' rfl
@[simp] theorem qy2(s:Rng):enc s= .agg [enc s.fr,enc s.to]:=i' rfl
@[simp] theorem qAg:Cod.wd Rng=2:=i' rfl
@[simp] theorem qza(a b:D):dec (X:=Rng) (.agg [a,b])=((dec a).bind λa=>(dec b).bind λb=>some ⟨a,b⟩):=i' rfl
structure Rx where
 op:Int
 mn:Int
 mx:Int
 rs:List Rng
 kids:List Rx
mutual
def PW:Rx->D
 | .mk op mn mx rs ks=> .agg [enc op,enc mn,enc mx,enc rs, .list 5 (By ks)]
def By:List Rx->List D
 | []=>[]
 |k::ks=>PW k::By ks
end
mutual
def qaB:D->Option Rx
 | .agg [a,b,c,d,h]=>(dec a).bind λop=>(dec b).bind λmn=>(dec c).bind λmx=>(dec d).bind λrs=>(L3 h).bind λks=>some (.mk op mn mx rs ks)
 | _=>none
def L3:D->Option (List Rx)
 | .list n es=>if n=5 then Dm es else none
 | .v (.slice none 0 0)=>some []
 | _=>none
def Dm:List D->Option (List Rx)
 | []=>some []
 |d::ds=>(qaB d).bind λx=>(Dm ds).bind λxs=>some (x::xs)
end
def K6:∀l:List Rx,By l=l.map PW
 | []=>rfl
 | _::l=>by rw[By,K6 l];rfl
def qeQ:∀c:Rx,(PW c).kn=true
 | .mk .. =>rfl
def qat:∀c:Rx,(PW c).cells.length=5
 | .mk .. =>rfl
mutual
def qaA:∀c:Rx,qaB (PW c)=some c
 | .mk op mn mx rs ks=>by
   have h:L3 (.list 5 (By ks))=some ks:=by rw[L3,if_pos rfl];exact Tp ks
   simp only[PW,qaB,Cod.dec_enc,qGc,h]
def Tp:∀l:List Rx,Dm (By l)=some l
 | []=>by simp only[By,Dm]
 |c::l=>by simp only[By,Dm,qaA c,Tp l,qGc]
end
mutual
def qeV:∀(d:D) (c:Rx),qaB d=some c->FrzTo dj d (PW c)
 | .agg [b,j,k,l,a],c,h=>by
   simp only[qaB,qFM,qF0]at h;obtain⟨op,h0,mn,h1,mx,h2,rs,h3,ks,h4,rfl⟩:=h;rw[PW];exact LeL.agg (.cons (Cod.le _ _ h0) (.cons (Cod.le _ _ h1) (.cons (Cod.le _ _ h2) (.cons (Cod.le _ _ h3) (.cons (qkU a ks h4) .nil)))))
def qkU:∀(d:D) (l:List Rx),L3 d=some l->FrzTo dj d (.list 5 (By l))
 | .list n es,l,h=>by
   simp only[L3]at h;split at h
   ·rename_i hn;subst hn;have hl:=qaz es l h;refine .list hl.1 (λe he=>?_) hl.2;rw[K6]at he;obtain⟨x,a,rfl⟩:=qFV.1 he;exact⟨qeQ x,qat x⟩
   ·cases h
 | .v (.slice none 0 0),l,h=>by
   simp only[L3,qF0]at h;subst h;exact .nil _
def qaz:∀(es:List D) (l:List Rx),Dm es=some l->LeL es (By l)
 | [],l,h=>by
   simp only[Dm,qF0]at h;subst h;exact .nil
 | d::ds,l,h=>by
   simp only[Dm,qFM,qF0]at h;obtain⟨x,h1,xs,h2,rfl⟩:=h;rw[By];exact .cons (qeV d x h1) (qaz ds xs h2)
end
instance:Cod Rx where
 wd:=5
 enc:=PW
 dec:=qaB
 kn:=qeQ
 wid:=qat
 dec_enc:=qaA
 le:=qeV
def qgP(ks:List Rx):D.list 5 (By ks)=enc ks:=by rw[K6];rfl
def qkH(op mn mx:Int)(rs:List Rng)(ks:List Rx):enc (Rx.mk op mn mx rs ks)= .agg [enc op,enc mn,enc mx,enc rs,enc ks]:=by
 rw[<-qgP];show PW _=_;rw[PW]
def P1:∀es:List D,Dm es=es.mapM (dec (X:=Rx))
 | []=>by simp[Dm]
 | d::es=>by
   rw[Dm,qGw,P1 es];rfl
def qkV:∀d:D,L3 d=dec (X:=List Rx) d:=λd=>by
 unfold L3;split
 ·rename_i n es;show _=if n=5 then es.mapM (dec (X:=Rx))else none
  rw[P1]
 ·rfl
 ·rename_i h1 h2;show _=(match d with
   | .list n es=>if n=5 then es.mapM (dec (X:=Rx))else none
   | .v (.slice none 0 0)=>some []
   | _=>none)
  split
  ·exact absurd rfl (h1 _ _)
  ·exact absurd rfl h2
  ·rfl
@[simp] theorem qCg(s:Rx):Rx.mk s.op s.mn s.mx s.rs s.kids=s:=by cases s;rfl
@[simp] theorem qCn(s:Rx):enc s= .agg [enc s.op,enc s.mn,enc s.mx,enc s.rs,enc s.kids]:=by cases s;exact qkH ..
@[simp] theorem qDD:Cod.wd Rx=5:=i' rfl
@[simp] theorem qCx(a b c d h:D):dec (X:=Rx) (.agg [a,b,c,d,h])=((dec a).bind λa=>(dec b).bind λb=>(dec c).bind λc=>(dec d).bind λd=>(dec h).bind λh=>some ⟨a,b,c,d,h⟩):=by
 show qaB _=_;simp only[qaB,qkV]
structure Rp where
 s:B
 pos:Int
 fault:Int
 e:Int
def Rp.bump(p:Rp):Rp:={ p with pos:=p.pos+1 }
def Qj(p:Rp):Option Int:=
 if 200<p.s.size then none else
 if p.pos=p.s.size then some (-1)else
 if 0<=p.pos then match p.s.data[p.pos.toNat]? with
  |some c=>if c.toNat< 128 then some c.toNat else none
  |none=>none
 else none
def qnZ(a:B)(c:Int):Bool:=a.data.toList.any λx=>decide ((x.toNat:Int)=c)
def lW(p:Rp)(_:Unit):Option (Rp×I32):=(Qj p).map λc=>(p,⟨c⟩)
def Si(p:Rp)(_:Unit):Option (Rp×Unit):=(Qj p).bind λc=>if 0<=c then some (p.bump,())else none
def ET(p:Rp)(_:B):Option (Rp× (I32×Bool)):=(Qj p).bind λc=>if c< 0\/c=92 then none else some (p.bump,⟨c⟩,true)
def qe2:B:=⟨#[92,91,93,94,45]⟩
def ZQ(p:Rp)(_:Unit):Option (Rp× (I32×Bool)):=(Qj p).bind λc=>if c< 0\/qnZ qe2 c=true then none else ET p qe2
def qia(fr to:Int):Rx:=⟨1,0,0, [⟨⟨fr⟩,⟨to⟩⟩], []⟩
def uj(out:List Rng)(r:Rng):List Rng:=match out.getLast? with
 |some q=>if r.fr.val<=q.to.val+1 then out.dropLast++ [⟨q.fr,⟨max q.to.val r.to.val⟩⟩]else out++ [r]
 |none=>[r]
def J7(l:List Rng):Bool:=match l with
 | [x]=>decide (0<=x.fr.val/\x.fr.val<=1114111/\0<=x.to.val/\x.to.val<=1114111)
 | [x,y]=>decide (0<=x.fr.val/\x.fr.val<=1114111/\0<=x.to.val/\x.to.val<=1114111/\0<=y.fr.val/\y.fr.val<=1114111/\0<=y.to.val/\y.to.val<=1114111/\x.fr.val<=y.fr.val)
 | _=>false
def Iz(l:List Rng):List Rng:=l.foldl uj []
def qlf:Nat->Rp->List Rng->Option (Rp×List Rng)
 | 0,_,_=>none
 | n+1,p,l=>(Qj p).bind λc=>if l≠ []/\c=93 then some (p,l)else
   (ZQ p ()).bind λq=>(Qj q.1).bind λd=>if d=45 then none else qlf n q.1 (l++ [⟨q.2.1,q.2.1⟩])
def qoz(p:Rp)(_:Unit):Option (Rp× (Rx×Bool)):=(Qj p).bind λa=>if a≠91 then none else(Qj p.bump).bind λc=>if c=94 then none else
 (qlf 100 p.bump []).bind λq=>if J7 q.2=true then some (q.1.bump,⟨1,0,0,Iz q.2, []⟩,true)else none
def qt2:B:=⟨#[92,46,91,93,40,41,123,125,124,42,43,63]⟩
def qe9(p:Rp)(_:Unit):Option (Rp× (Rx×Bool)):=(Qj p).bind λc=>
 if c=40 then none else if c=46 then some (p.bump,qia 0 1114111,true)else if c=91 then qoz p ()else
 if c≠92/\qnZ qt2 c=true then none else(ET p qt2).map λq=>(q.1,qia q.2.1.val q.2.1.val,q.2.2)
def Rj(c:Int):Option (Int×Int):=if c=42 then some (0, -1)else if c=43 then some (1, -1)else if c=63 then some (0,1)else none
def qi1(p:Rp)(_:Unit):Option (Rp× (Rx×Bool)):=(qe9 p ()).bind λq=>if q.2.2=true then(Qj q.1).bind λc=>if c=123 then none else match Rj c with
 |some m=>(Qj q.1.bump).bind λd=>if d=123\/(Rj d).isSome=true then none else some (q.1.bump,⟨4,m.1,m.2, [], [q.2.1]⟩,true)
 |none=>some (q.1,q.2.1,true)
 else none
def qaO:Nat->Rp->List Rx->Option (Rp×List Rx)
 | 0,_,_=>none
 | n+1,p,l=>(Qj p).bind λc=>if c< 0\/c=124\/c=41 then some (p,l)else
   (qi1 p ()).bind λq=>if q.2.1.op=2 then none else qaO n q.1 (l++ [q.2.1])
def qcz(op:Int):List Rx->Rx
 | [e]=>e
 |l=>⟨op,0,0, [],l⟩
def qlk(p:Rp)(_:Unit):Option (Rp× (Rx×Bool)):=(qaO 100 p []).map λq=>(q.1,qcz 2 q.2,true)
def qhJ:Nat->Rp->List Rx->Option (Rp×List Rx)
 | 0,_,_=>none
 | n+1,p,l=>(qlk p ()).bind λq=>(Qj q.1).bind λc=>
   if q.2.1.op=3 then none else if c=124 then qhJ n q.1.bump (l++ [q.2.1])else some (q.1,l++ [q.2.1])
def qmQ(p:Rp)(_:Unit):Option (Rp× (Rx×Bool)):=(qhJ 100 p []).map λq=>(q.1,qcz 3 q.2,true)
def qtX(f:Rx->Int->Int->Option (Bool×Int))(d:Int):List Rx->Int->Option (Bool×Int)
 | [],k=>some (true,k)
 |x::l,k=>(f x (d+1) k).bind λr=>if r.1=true then qtX f d l r.2 else some (false,r.2)
def zK:Nat->Rx->Int->Int->Option (Bool×Int)
 | 0=>λ_ _ _=>none
 |n+1=>λx d k=>if d< 0\/1000<d\/k< 0\/1000<k then none else if 40<d\/200<k+1 then some (false,k+1)else qtX (zK n) d x.kids (k+1)
def qep(l:List Rng):Bool:=match l with
 | [r]=>decide (0<=r.fr.val/\r.fr.val<=r.to.val/\r.to.val<=1114111)
 | _=>false
def quf(x:Rx):Bool:=
 if x.op=1 then decide (x.mn=0/\x.mx=0) && x.kids.isEmpty && qep x.rs else
 if x.op=2 then decide (x.mn=0/\x.mx=0) && x.rs.isEmpty && decide (x.kids.length≠1/\x.kids.length<=300) && x.kids.all λk=>decide (k.op≠2)else
 if x.op=3 then decide (x.mn=0/\x.mx=0) && x.rs.isEmpty && decide (1<x.kids.length/\x.kids.length<=300) && x.kids.all λk=>decide (k.op≠3)else
 if x.op=4 then decide (0<=x.mn/\x.mn<=16/\(x.mx= -1\/x.mn<=x.mx/\x.mx<=16)) && x.rs.isEmpty && decide (x.kids.length=1)else false
def qf7:Nat->Rx->Bool
 | 0=>λ_=>false
 |n+1=>λx=>quf x && x.kids.all (qf7 n)
def qub(f:Rx->Option Int):List Rx->Int->Option Int
 | [],k=>some k
 |x::l,k=>(f x).bind λy=>if k< 0\/1000<k\/y< 0\/1000<y then none else qub f l (min (k+y) 65)
def qud(x:Rx)(m:Int):Option Int:=
 if x.mx= -1 then(if -1000000<=m*max x.mn 1/\m*max x.mn 1<=1000000 then some (min (m*max x.mn 1) 65)else none)
 else if -1000000<=m*x.mx/\m*x.mx<=1000000 then some (min (m*x.mx) 65)else none
def Vb:Nat->Rx->Option Int
 | 0=>λ_=>none
 |n+1=>λx=>if x.op=1 then some 1 else(qub (Vb n) x.kids 0).bind λm=>if x.op≠4 then some m else qud x m
def Ft(n:Nat)(x:Rx):Bool:=(match zK n x 1 0 with|some r=>r.1|none=>false) && qf7 n x && (match Vb n x with|some m=>decide (m<=64)|none=>false)
def yn(s:B):Bool:=s.data.toList.all λc=>decide (c.toNat< 128)
def ms(s:B):Option Rx:=if s.size<=200/\yn s=true then(qmQ ⟨s,0,0,0⟩ ()).bind λq=>if q.2.2=true/\q.1.pos=s.size/\Ft 50 q.2.1=true then some q.2.1 else none else none
structure Prt where
 first:U64
 last:U64
 nul:Bool
deriving DecidableEq
instance:Cod Prt where
 wd:=3
 enc s:= .agg [enc s.first,enc s.last,enc s.nul]
 dec| .agg [a,b,c]=>(dec a).bind λa=>(dec b).bind λb=>(dec c).bind λc=>some ⟨a,b,c⟩|_=>none
 kn _:=rfl
 wid _:=rfl
 dec_enc s:=by simp
 le d x h:=by
  split at h
  ·simp only[qFM]at h;obtain⟨a,h0,b,h1,c,h2,h⟩:=h;cases h;exact LeL.agg (.cons (Cod.le _ _ h0) (.cons (Cod.le _ _ h1) (.cons (Cod.le _ _ h2) .nil)))
  ·cases h
@[simp] theorem qyX(s:Prt):(Prt.mk s.first s.last s.nul)=s:=i' rfl
@[simp] theorem qy4(s:Prt):enc s= .agg [enc s.first,enc s.last,enc s.nul]:=i' rfl
@[simp] theorem qzc(a b c:D):dec (X:=Prt) (.agg [a,b,c])=((dec a).bind λa=>(dec b).bind λb=>(dec c).bind λc=>some ⟨a,b,c⟩):=i' rfl
structure Tbk where
 lvs:List (List Rng)
 fi:U64
 la:U64
 fol:List U64
 nul:Bool
def qg4(m:U64)(i:Nat):Bool:=decide (qa8 .u64 (qcd .u64 m.val i) 1=1)
def qnr(a b:U64):U64:=⟨qsU .u64 a.val b.val⟩
def qev(fr to:U64):Nat->List U64->List U64
 | _, []=>[]
 |i,f::l=>(if qg4 fr i=true then qnr f to else f)::qev fr to (i+1) l
def IC(t:Tbk)(z:U64×U64):Option (Tbk×Unit):=if t.fol.length<=100000 then some ({ t with fol:=qev z.1 z.2 0 t.fol },())else none
def quC(a b:Prt):Prt:=⟨if a.nul=true then qnr a.first b.first else a.first,if b.nul=true then qnr b.last a.last else b.last,a.nul && b.nul⟩
def BA(t:Tbk)(z:Prt×Prt):Option (Tbk×Prt):=(IC t (z.1.last,z.2.first)).map λq=>(q.1,quC z.1 z.2)
def F7:Prt:=⟨⟨0⟩,⟨0⟩,true⟩
def qAY:Prt:=⟨⟨0⟩,⟨0⟩,false⟩
def qvS(f:Tbk->Rx->Option (Tbk×Prt)):List Rx->Tbk->Prt->Option (Tbk×Prt)
 | [],t,p=>some (t,p)
 |x::l,t,p=>(f t x).bind λq=>(BA q.1 (p,q.2)).bind λr=>qvS f l r.1 r.2
def qhe(f:Tbk->Rx->Option (Tbk×Prt)):List Rx->Tbk->Prt->Option (Tbk×Prt)
 | [],t,p=>some (t,p)
 |x::l,t,p=>(f t x).bind λq=>qhe f l q.1 ⟨qnr p.first q.2.first,qnr p.last q.2.last,p.nul||q.2.nul⟩
def VE(t:Tbk):Bool:=decide (t.lvs.length<=1000/\t.fol.length<=1000)
def qr6(b r:Tbk->Rx->Option (Tbk×Prt))(t:Tbk)(x:Rx):Option (Tbk×Prt):=
 if VE t=false\/1000<x.kids.length then none else
 if x.op=1 then some ({ t with lvs:=t.lvs++ [x.rs],fol:=t.fol++ [⟨0⟩] },⟨⟨UH .u64 1 t.lvs.length⟩,⟨UH .u64 1 t.lvs.length⟩,false⟩)else
 if x.op=2 then qvS b x.kids t F7 else
 if x.op=3 then qhe b x.kids t qAY else r t x
def qt4(b:Tbk->Rx->Option (Tbk×Prt))(y:Rx)(mx:Int):Nat->Tbk->Prt->Option (Tbk×Prt×Bool)
 | 0,t,p=>some (t,p,false)
 | k+1,t,p=>if VE t=false then none else(b t y).bind λq=>if VE q.1=false then none else
   if q.1.lvs.length=t.lvs.length then some (q.1,F7,true)else
   (if mx< 0/\k=0 then IC q.1 (q.2.last,q.2.first)else some (q.1,())).bind λl=>(BA l.1 (p,q.2)).bind λr=>qt4 b y mx k r.1 r.2
def qi2(b:Tbk->Rx->Option (Tbk×Prt))(o:Tbk->Rx×Int->Option (Tbk×Prt))(t:Tbk)(x:Rx):Option (Tbk×Prt):=match x.kids with
 | []=>none
 | y::_=>if x.mn< 0\/100<x.mn\/x.mx< -1\/100<x.mx then none else
   (qt4 b y x.mx x.mn.toNat t F7).bind λq=>if q.2.2=true then some (q.1,F7)else
   if x.mx< 0/\x.mn=0 then(b q.1 y).bind λr=>(IC r.1 (r.2.last,r.2.first)).map λl=>(l.1, { r.2 with nul:=true })else
   if x.mn<x.mx then(o q.1 (y,x.mx -x.mn)).bind λr=>BA r.1 (q.2.1,r.2)else some (q.1,q.2.1)
def qqS(b:Tbk->Rx->Option (Tbk×Prt))(o:Tbk->Rx×Int->Option (Tbk×Prt))(t:Tbk)(z:Rx×Int):Option (Tbk×Prt):=
 if z.2< 0\/100<z.2\/VE t=false then none else
 if z.2=0 then some (t,F7)else
 (b t z.1).bind λq=>if VE q.1=false then none else
 if q.1.lvs.length=t.lvs.length then some (q.1,F7)else
 (o q.1 (z.1,z.2 -1)).bind λr=>(BA r.1 (q.2,r.2)).map λl=>(l.1, { l.2 with nul:=true })
structure qFJ where
 b:Tbk->Rx->Option (Tbk×Prt)
 r:Tbk->Rx->Option (Tbk×Prt)
 o:Tbk->Rx×Int->Option (Tbk×Prt)
def GO:Nat->qFJ
 | 0=>⟨λ_ _=>none,λ_ _=>none,λ_ _=>none⟩
 |n+1=>⟨qr6 (GO n).b (GO n).r,qi2 (GO n).b (GO n).o,qqS (GO n).b (GO n).o⟩
def qE1:Tbk:=⟨[],⟨0⟩,⟨0⟩, [],false⟩
def qmT(n:Nat)(x:Rx):Option Tbk:=((GO n).b qE1 x).map λq=>{ q.1 with fi:=q.2.first,la:=q.2.last,nul:=q.2.nul }
def qpo(set:U64):Nat->List U64->U64->U64
 | _, [],m=>m
 |i,f::l,m=>qpo set (i+1) l (if qg4 set i=true then qnr m f else m)
def CT(t:Tbk)(set:U64)(a:Bool):U64:=if a=true then t.fi else qpo set 0 t.fol ⟨0⟩
def WB(l:List Rng)(c:Int):Bool:=l.any λr=>decide (r.fr.val<=c) && decide (c<=r.to.val)
def qsY(next:U64)(c:I32):Nat->List (List Rng)->U64->U64
 | _, [],m=>m
 |i,l::ls,m=>qsY next c (i+1) ls (if qg4 next i && WB l c.val then⟨qsU .u64 m.val (UH .u64 1 i)⟩else m)
def qmN(next:U64)(lvs:List (List Rng)):List I32->U64->U64
 | [],m=>m
 |v::vs,m=>qmN next lvs vs (qsY next v 0 lvs m)
def quq(t:Tbk)(b:I32->List I32):List I32->U64->Bool->Bool
 | [],set,a=>(a && t.nul)||decide (qa8 .u64 set.val t.la.val≠0)
 |c::l,set,a=>if(qmN (CT t set a) t.lvs (b c) ⟨0⟩).val=0 then false else quq t b l (qmN (CT t set a) t.lvs (b c) ⟨0⟩) false
def low(c:Int):Int:=if 65<=c/\c<=90 then c+32 else c
def PI(c:I32):List I32:=([⟨low c.val⟩,⟨low c.val -32⟩,⟨low c.val -80⟩]:List I32).filter λv=>decide (0<=v.val/\low v.val=low c.val)
def qbO(f:Bool)(c:I32):List I32:=if f=true then PI c else[c]
def qoB(l:List UInt8):List I32:=l.map λc=>⟨(c.toNat:Int)⟩
def Ay(x:Rx)(s:B)(f:Bool):Option Bool:=if Ft 50 x=true/\yn s=true/\s.size<=1000 then(qmT 50 x).bind λt=>if VE t=true then some (quq t (qbO f) (qoB s.data.toList) ⟨0⟩ true)else none else none
instance:Inhabited Cond:=⟨⟨0,⟨#[]⟩,⟨#[]⟩,⟨#[]⟩,⟨#[]⟩,false, []⟩⟩
instance:Inhabited Pat:=⟨⟨0,default,⟨#[]⟩,⟨#[]⟩,0,0, []⟩⟩
def sU:Cond:=⟨0,⟨#[]⟩,⟨#[]⟩,⟨#[]⟩,⟨#[]⟩,false, []⟩
mutual
def dK:Pat->Nat| .mk _ _ _ _ _ _ ks=>Zs ks+1
def Zs:List Pat->Nat|[]=>0|k::ks=>max (dK k) (Zs ks)
end
mutual
def bi:Cond->Nat| .mk _ _ _ _ _ _ ks=>jC ks+1
def jC:List Cond->Nat|[]=>0|k::ks=>max (bi k) (jC ks)
end
mutual
def cX:Pat->Nat| .mk _ _ _ _ _ _ ks=>bB ks+1
def bB:List Pat->Nat|[]=>0|k::ks=>cX k+bB ks
end
theorem qen(p:Pat):dK p=Zs p.kids+1:=by cases p;rfl
theorem Bg(p:Cond):bi p=jC p.kids+1:=by cases p;rfl
theorem cO(p:Pat):cX p=bB p.kids+1:=by cases p;rfl
def SJ{k:Pat} :∀{ks:List Pat},k∈ks->dK k<=Zs ks
 | a::ks,h=>by
   rw[Zs];rcases qF5.1 h with rfl|h;omega
   ·have:=SJ h;omega
def D5{k:Cond} :∀{ks:List Cond},k∈ks->bi k<=jC ks
 | a::ks,h=>by
   rw[jC];rcases qF5.1 h with rfl|h;omega
   ·have:=D5 h;omega
theorem kR{p k:Pat}(h:k∈p.kids):dK k<dK p:=by have:=SJ h;grind [qen]
def DF{p k:Cond}(h:k∈p.kids):bi k<bi p:=by have:=D5 h;grind [Bg]
def fJ{C:Pat->Prop}(h:∀p,(∀k∈p.kids,C k)->C p)(p:Pat):C p:=by
 generalize hn:dK p=n
 induction n using Nat.strongRecOn generalizing p with
 | _ n a=>exact h p λk hk=>a (dK k) (by grind [kR]) k rfl
mutual
def cj(f:Pat->Bool):Pat->Bool| .mk op c l r mn mx ks=>f ⟨op,c,l,r,mn,mx,ks⟩ && Nw f ks
def Nw(f:Pat->Bool):List Pat->Bool|[]=>true|k::ks=>cj f k && Nw f ks
end
def PU(f:Pat->Bool):∀ks:List Pat,Nw f ks=ks.all (cj f)
 | []=>by rfl
 |k::ks=>by rw[Nw,PU f ks,qHo]
theorem cT(f:Pat->Bool)(p:Pat):cj f p=(f p && p.kids.all (cj f)):=by cases p;rw[cj,PU]
mutual
def cF:Pat->Int->Bool| .mk _ _ _ _ _ _ ks,d=>decide (d<=100) && DN ks (d+1)
def DN:List Pat->Int->Bool|[],_=>true|k::ks,d=>cF k d && DN ks d
end
def HM(d:Int):∀ks:List Pat,DN ks d=ks.all (cF · d)
 | []=>by rfl
 |k::ks=>by rw[DN,HM d ks,qHo]
def nW(p:Pat)(d:Int):cF p d=(decide (d<=100) && p.kids.all (cF · (d+1))):=by cases p;rw[cF,HM]
def UI(p:Pat):∀d a:Int,a<=d->cF p d=true->cF p a=true:=by
 induction p using fJ with|_ p b=>?_
 intro d a h;rw[nW,nW];grind
def rL(p:Pat):Prop:=(p.op=1/\p.reg=⟨#[]⟩/\p.mn=0/\p.mx=0/\p.kids=[])\/
 ((p.op=2\/p.op=3)/\p.cond=sU/\p.lab=⟨#[]⟩/\p.mn=0/\p.mx=0/\p.kids=[])\/
 ((p.op=4\/p.op=5)/\p.cond=sU/\p.lab=⟨#[]⟩/\p.reg=⟨#[]⟩/\p.mn=0/\p.mx=0/\2<=p.kids.length)\/
 (p.op=6/\p.cond=sU/\p.lab=⟨#[]⟩/\p.reg=⟨#[]⟩/\p.kids.length=1)
noncomputable def pm(p:Pat):Bool:= @decide (rL p) (Classical.propDecidable _)
def qU(p:Pat):pm p=true↔rL p:= @decide_eq_true_iff (rL p) (Classical.propDecidable _)
def lK(p:Pat):Bool:=decide (p.op=6->0<=p.mn/\p.mn<=16/\(p.mx= -1\/p.mn<=p.mx/\p.mx<=16))
def mS(v:B->Bool)(p:Pat):Bool:=decide (((p.op=2\/p.op=3)->v p.reg=true)/\(p.lab≠ ⟨#[]⟩->v p.lab=true))
noncomputable def eP(v:B->Bool)(p:Pat):Bool:=cF p 1 && cj pm p && cj (mS v) p && cj lK p
theorem ph{v:B->Bool}{p k:Pat}(h:eP v p=true)(hk:k∈p.kids):eP v k=true:=by
 unfold eP at*;rw[cT,cT,cT lK,nW]at h;simp only[qFS,qFT]at h;obtain⟨⟨⟨⟨_,h1⟩,_,h2⟩,_,h3⟩,_,h4⟩:=h;rw[h2 k hk,h3 k hk,h4 k hk,UI k _ 1 (by omega) (h1 k hk)];rfl
def dn{v:B->Bool}{p:Pat}(h:eP v p=true):pm p=true/\mS v p=true/\lK p=true:=by
 unfold eP at*;rw[cT,cT,cT lK]at h;grind
def Ck(p:Pat)(n:Int):Int:=if p.kids=[]then 1 else if p.op=6 then(if p.mx= -1 then min (n* (p.mn+1)) 1000 else if p.mx=0 then n else min (n*p.mx) 1000)else n
mutual
def fu:Pat->Int| .mk op c l r mn mx ks=>Ck ⟨op,c,l,r,mn,mx,ks⟩ (ff ks 0)
def ff:List Pat->Int->Int|[],n=>n|k::ks,n=>ff ks (min (n+fu k) 1000)
end
def om(p:Pat):fu p=Ck p (ff p.kids 0):=by cases p;rfl
def Ol(a b:List Pat)(n:Int):ff (a++b) n=ff b (ff a n):=by
 induction a generalizing n<;>grind [ff]
def QJ(seq:Bool)(a b:Int×Int):Int×Int:=
 if seq then(min (a.1+b.1) 10000,if a.2= -1\/b.2= -1 then -1 else min (a.2+b.2) 10000)else(min a.1 b.1,if a.2= -1\/b.2= -1 then -1 else max a.2 b.2)
mutual
def aS:Pat->Int×Int
 | .mk op _ _ _ mn mx ks=>if op=1 then(1,1)else if op=2\/op=3 then(0,0)else match ks with
   | []=>(0,0)
   |k::ks=>if op=6 then(min ((aS k).1*mn) 10000,if mx=0\/(aS k).2=0 then 0 else if mx= -1\/(aS k).2= -1 then -1 else min ((aS k).2*mx) 10000)else mN (decide (op=4)) ks (aS k)
def mN(seq:Bool):List Pat->Int×Int->Int×Int|[],w=>w|k::ks,w=>mN seq ks (QJ seq w (aS k))
end
def R7(s:Bool)(a b:List Pat)(n:Int×Int):mN s (a++b) n=mN s b (mN s a n):=by
 induction a generalizing n<;>grind [mN]
theorem qht{p:Pat}(h:p.op=1):aS p=(1,1):=by cases p;simp only at h;unfold aS;grind
theorem qhs{p:Pat}(h:p.op=2\/p.op=3):aS p=(0,0):=by cases p;simp only at h;unfold aS;grind
def qhq{p k:Pat}(h:p.op=6){ks:List Pat}(hk:p.kids=k::ks):aS p=(min ((aS k).1*p.mn) 10000,if p.mx=0\/(aS k).2=0 then 0 else if p.mx= -1\/(aS k).2= -1 then -1 else min ((aS k).2*p.mx) 10000):=by
 cases p;simp_all [aS]
def qhr{p k:Pat}(h:p.op=4\/p.op=5){ks:List Pat}(hk:p.kids=k::ks):aS p=mN (decide (p.op=4)) ks (aS k):=by
 cases p;simp only at h hk;subst hk;rw[aS,if_neg (by omega),if_neg (by omega)];grind
mutual
def am:Pat->List Pat| .mk op c l r mn mx ks=>if op=1 then[⟨op,c,l,r,mn,mx,ks⟩]else ID ks
def ID:List Pat->List Pat|[]=>[]|k::ks=>am k++ID ks
end
def LX:∀ks:List Pat,ID ks=ks.flatMap am
 | []=>by rfl
 |k::ks=>by rw[ID,LX ks,qGJ]
theorem aW(p:Pat):am p=if p.op=1 then[p]else p.kids.flatMap am:=by cases p;rw[am,LX]
def iR(p:Pat):(am p).length<=cX p:=by
 induction p using fJ with|_ p a=>?_
 rw[aW,cO];split
 ·simp
 ·have:∀ks:List Pat,(∀k∈ks,(am k).length<=cX k)->(ks.flatMap am).length<=bB ks:=by
   intro ks
   induction ks with
   |nil=>simp
   | cons k ks a=>
     grind [bB]
  grind
def qT{p:Pat}(h:pm p=true):(p.op=1/\p.kids=[])\/((p.op=2\/p.op=3)/\p.kids=[])\/((p.op=4\/p.op=5)/\∃k ks,p.kids=k::ks)\/(p.op=6/\∃k,p.kids=[k]):=by
 rw[qU]at h;unfold rL at h;rcases h with h|h|h|h;grind;grind
 ·refine .inr (.inr (.inl ⟨h.1,?_⟩));rcases hk:p.kids with _|⟨k,ks⟩;grind;simp
 ·refine .inr (.inr (.inr ⟨h.1,?_⟩));rcases hk:p.kids with _|⟨k,_|⟨a,ks⟩⟩;grind;simp;grind
def qu:∀(ks:List Pat) (n:Int),0<=n->n<=1000->(∀k∈ks,0<=fu k)->0<=ff ks n/\ff ks n<=1000
 | [],n,h0,h1,_=>by grind [ff]
 | k::ks,n,h0,h1,h=>by
   rw[ff];have:=h k (by simp);exact qu ks _ (by omega) (by omega) λx a=>h x (by grind)
def Sj{v:B->Bool}(p:Pat):eP v p=true->0<=fu p/\fu p<=1000:=by
 induction p using fJ with|_ p a=>?_
 intro h;have hk:=qu p.kids 0 (by omega) (by omega) λk hk=>(a k hk (ph h hk)).1
 have hn:=(dn h).2.2;unfold lK at hn;rw[decide_eq_true_eq]at hn;rw[om];generalize ff p.kids 0=n at hk;unfold Ck;split;simp
 ·split
  ·rename_i h6;have hn:=hn h6;split
   ·have:0<=n* (p.mn+1):=qHl hk.1 (by omega);omega
   ·split;omega
    ·have:0<=n*p.mx:=qHl hk.1 (by omega);omega
  omega
def eO(w:Int×Int):Prop:=0<=w.1/\w.1<=10000/\ -1<=w.2/\w.2<=10000
def TL{s:Bool}{a b:Int×Int}(c:eO a)(hb:eO b):eO (QJ s a b):=by
 grind [eO,QJ]
theorem Xq(s:Bool):∀(ks:List Pat) (w:Int×Int),eO w->(∀k∈ks,eO (aS k))->eO (mN s ks w)
 | [],w,h,_=>by grind [mN]
 | k::ks,w,h,hk=>by
   rw[mN];exact Xq s ks _ (TL h (hk k (by simp))) λx a=>hk x (by grind)
theorem zA{v:B->Bool}(p:Pat):eP v p=true->eO (aS p):=by
 induction p using fJ with|_ p b=>?_
 intro h;obtain⟨h1,_,hn⟩:=dn h;unfold lK at hn;rw[decide_eq_true_eq]at hn;rcases qT h1 with⟨ho,_⟩|⟨ho,_⟩|⟨ho,k,ks,hk⟩|⟨ho,k,hk⟩
 grind [qht,eO];grind [qhs,eO]
 ·rw[qhr ho hk];grind [Xq,ph]
 ·rw[qhq ho hk];have a:=b k (by grind) (ph h (by grind));have hn:=hn ho;generalize aS k=w at a;unfold eO at*;have h1:0<=w.1*p.mn:=qHl a.1 hn.1;refine⟨by omega,by omega,?_⟩;simp only;split;simp
  ·split;simp
   ·have h2:0<=w.2*p.mx:=qHl (by omega) (by omega);omega
end
end Go.Gv
