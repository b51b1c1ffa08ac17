/- L1 -/
import Derived.Test.YtnffegdacbdhmaaGreatDoorProg
import Derived.Test.YtnffegdacbdhmaaGreatDoorGe06
set_option linter.all false
set_option maxRecDepth 100000
set_option maxHeartbeats 0
namespace Go.Gv
section
def av{b:Type}{l:List b}{k:Nat}{a:b}(h:l[k]? =some a):l.take (k+1)=l.take k++ [a]:=by
 rw[qGK,h];rfl
def bw{b:Type}{l:List b}{k:Nat}{a:b}(h:l[k]? =some a):l.drop k=a::l.drop (k+1):=by
 obtain⟨hk,rfl⟩:=qFB.1 h;exact qGh hk
def aU{b:Type}{l:List b}{k:Nat}{a:b}(h:l[k]? =some a):a∈l:=qFF h
def qpL{b:Type}{l:List b}{k:Nat}{a:b}(h:l[k]? =some a):k<l.length:=(qFB.1 h).1
def aQ{b:Type}{l:List b}{k:Nat}(h:k<l.length):∃a,l[k]? =some a:=⟨l[k],qFC h⟩
def C9(a b:Span):Prop:=a.b<b.b\/a.b=b.b/\a.e<b.e
instance (a b:Span):Decidable (C9 a b):=by unfold C9;infer_instance
def Jd(a:Span):¬C9 a a:=by unfold C9;omega
def KW{a b c:Span}(h:C9 a b)(k:C9 b c):C9 a c:=by unfold C9 at*;omega
def Span.ext'{a b:Span}(h:a.b=b.b)(k:a.e=b.e):a=b:=by cases a;cases b;simp at h k;simp[h,k]
def Nw(a b:Span):C9 a b\/a=b\/C9 b a:=by
 by_cases h:a.b=b.b/\a.e=b.e
 ·exact .inr (.inl (Span.ext' h.1 h.2))
 ·unfold C9;omega
def SS(l:List Span):Prop:=l.Pairwise C9
def SS.nil:SS []:=List.Pairwise.nil
theorem qbH:∀{a b:List Span},SS a->SS b->(∀x,x∈a↔x∈b)->a=b
 | [], [],_,_,_=>rfl
 | [],y::b,_,_,h=>by have:=(h y).2 (by simp);simp at this
 |x::a, [],_,_,h=>by have:=(h x).1 (by simp);simp at this
 | x::a,y::b,k,hb,h=>by
   have c:=qG5.1 k;have d:=qG5.1 hb;have j:x=y:=by
    rcases qFK.1 ((h x).1 (by simp))with e|e
    ·exact e
    ·rcases qFK.1 ((h y).2 (by simp))with e2|e2
     ·exact e2.symm
     ·exact absurd (KW (c.1 y e2) (d.1 x e)) (Jd x)
   subst j;have:a=b:=qbH c.2 d.2 λz=>by
    constructor
    ·intro hz;rcases qFK.1 ((h z).1 (by simp[hz]))with e|e
     ·subst e;exact absurd (c.1 z hz) (Jd z)
     ·exact e
    ·intro hz;rcases qFK.1 ((h z).2 (by simp[hz]))with e|e
     ·subst e;exact absurd (d.1 z hz) (Jd z)
     ·exact e
   rw[this]
def IsNorm(l r:List Span):Prop:=SS r/\∀x,x∈r↔x∈l
def IsNorm.eq{l l' r r':List Span}(h:IsNorm l r)(k:IsNorm l' r')(hl:∀x,x∈l↔x∈l'):r=r':=
 qbH h.1 k.1 λx=>(h.2 x).trans ((hl x).trans (k.2 x).symm)
def IsNorm.nil:IsNorm [] []:=⟨SS.nil,λ_=>qGZ⟩
def IsNorm.congr{l l' r:List Span}(h:IsNorm l r)(hl:∀x,x∈l↔x∈l'):IsNorm l' r:=⟨h.1,λx=>(h.2 x).trans (hl x)⟩
def IsNorm.self{l:List Span}(h:SS l):IsNorm l l:=⟨h,λ_=>qGZ⟩
def qhX:∀{r l:List Span},SS r->(∀x∈r,x∈l)->r.length<=l.length
 | [],l,_,_=>qFY _
 | x::r,l,h,hl=>by
   have a:=qG5.1 h;have b:=hl x (by simp);have:=qhX (l:=l.erase x) a.2 λy c=>(List.mem_erase_of_ne (λ(e:y=x)=>Jd x (by have:=a.1 y c;rwa [e]at this))).2 (hl y (by simp[c]))
   rw[List.length_erase_of_mem b]at this;have:=List.length_pos_of_mem b;simp;omega
def IsNorm.len{l r:List Span}(h:IsNorm l r):r.length<=l.length:=qhX h.1 λx a=>(h.2 x).1 a
def IsNorm.snoc{l l' r r':List Span}{s:Span}(h:IsNorm l r)(k:IsNorm (r++ [s]) r')(hl:∀x,x∈l'↔x∈l\/x=s):IsNorm l' r':=
 ⟨k.1,λx=>(k.2 x).trans (by rw[hl x];simp[h.2 x])⟩
def IsNorm.same{l l' r:List Span}(h:IsNorm l r)(hl:∀x,x∈l'↔x∈l):IsNorm l' r:=⟨h.1,λx=>(h.2 x).trans (hl x).symm⟩
theorem Zb{l:List Span}{s:Span}{k:Nat}(h:SS l)(hk:k<=l.length)(h1:∀x∈l.drop k,C9 s x)(h2:k=0\/ ∃y,l[k -1]? =some y/\ ¬C9 s y):
 (∀y,0<k->l[k -1]? =some y->y=s->IsNorm (l++ [s]) l)/\((∀y,0<k->l[k -1]? =some y->y≠s)->IsNorm (l++ [s]) (l.take k++s::l.drop k)):=by
 constructor
 ·intro y _ hy e;subst e;refine(IsNorm.self h).congr λx=>?_
  simp only[qFG,qGT];exact⟨.inl,λhx=>hx.elim id λe=>e ▸aU hy⟩
 ·intro b;have hs:SS (l.take k++l.drop k):=by rw[qGa];exact h
  obtain⟨c,hb,d⟩:=qGs.1 hs;have j:∀x∈l.take k,C9 x s:=by
   intro x hx;rcases h2 with rfl|⟨y,hy,hn⟩
   ·simp at hx
   ·rcases qGU k with rfl|hk0
    ·simp at hx
    have a:C9 y s:=by
     rcases Nw y s with h|h|h
     ·exact h
     ·exact absurd h (b y hk0 hy)
     ·exact absurd h hn
    have p:l.take k=l.take (k -1) ++ [y]:=by
     have:=av hy;rwa [Nat.sub_add_cancel hk0]at this
    rw[p]at hx c;rcases qFG.1 hx with hx|hx
    ·exact KW ((qGs.1 c).2.2 x hx y (by simp)) a
    ·simp at hx;subst hx;exact a
  refine⟨?_,λx=>?_⟩
  ·refine qGs.2 ⟨c,qG5.2 ⟨h1,hb⟩,λx hx y hy=>?_⟩;rcases qFK.1 hy with rfl|hy
   ·exact j x hx
   ·exact d x hx y hy
  ·have:x∈l↔x∈l.take k\/x∈l.drop k:=by
    rw[<-qFG,qGa]
   simp only[qFG,qFK,qGT,this];constructor
   ·rintro(h|h|h)
    ·exact .inl (.inl h)
    ·simp[h]
    ·exact .inl (.inr h)
   ·rintro((h|h)|h)
    ·exact .inl h
    ·exact .inr (.inr h)
    ·simp at h;exact .inr (.inl h)
def fe{X:Type} :List X->(X->Bool)->Int
 | [],_=> -1
 |x::l,p=>if p x then 0 else if fe l p< 0 then -1 else fe l p+1
def jZ{X:Type}{p:X->Bool} :∀{l:List X},(∀y∈l,p y=false)->fe l p= -1
 | [],_=>rfl
 | x::l,h=>by
   have:=jZ (l:=l) (λy a=>h y (by simp[a]));simp[fe,h x (by simp),this]
def tE{X:Type}{p:X->Bool} :∀{l:List X} {k:Nat} {x:X},l[k]? =some x->p x=true->(∀y∈l.take k,p y=false)->fe l p=k
 | [],k,x,a,_,_=>by simp at a
 | z::l,0,x,a,hp,_=>by
   simp at a;subst a;simp[fe,hp]
 | z::l,k+1,x,a,hp,hb=>by
   have hz:=hb z (by simp);have b:=tE (l:=l) (k:=k) (by simpa using a) hp (λy c=>hb y (by simp[c]));simp[fe,hz,b];omega
def G7{X:Type}(p:X->Bool)(l:List X):(fe l p= -1/\∀y∈l,p y=false)\/ ∃k x,fe l p=(k:Nat)/\l[k]? =some x/\p x=true/\∀y∈l.take k,p y=false:=by
 induction l with
 |nil=>exact .inl ⟨rfl,by simp⟩
 | cons z l a=>
   by_cases hz:p z=true
   ·exact .inr ⟨0,z,by simp[fe,hz],by simp,hz,by simp⟩
   ·have hz:p z=false:=by simpa using hz
    rcases a with⟨h1,h2⟩|⟨k,x,h1,h2,h3,h4⟩
    ·refine .inl ⟨by simp[fe,hz,h1],λy hy=>?_⟩;rcases qFK.1 hy with rfl|hy
     ·exact hz
     ·exact h2 y hy
    ·refine .inr ⟨k+1,x,?_,by simpa using h2,h3,λy hy=>?_⟩
     ·simp[fe,hz,h1];omega
     ·rw[qH6]at hy;rcases qFK.1 hy with rfl|hy
      ·exact hz
      ·exact h4 y hy
def vJ{X:Type}(p:X->Bool)(l:List X):decide (0<=fe l p)=l.any p:=by
 rcases G7 p l with⟨h1,h2⟩|⟨k,x,h1,h2,h3,h4⟩
 ·have:l.any p=false:=by simpa using h2
  rw[h1,this];rfl
 ·have:l.any p=true:=qGP.2 ⟨x,aU h2,h3⟩;rw[h1,this];simp
def qts(r:List Span)(x:Span):List Span:=if r.getLast? =some x then r else r++ [x]
def yg(l:List Span):List Span:=l.foldl qts []
def Fd(l:List Span)(x:Span):yg (l++ [x])=qts (yg l) x:=by simp[yg]
def vZ{b:Type}{P:List b->Prop}(h0:P [])(hs:∀l x,P l->P (l++ [x])):∀l,P l:=by
 intro l;have:∀n (l:List b),l.length=n->P l:=by
  intro n
  induction n with
  |zero=>intro l hl;rw[qFU hl];exact h0
  | succ n c=>
    intro l hl;have a:l≠ []:=by intro e;subst e;simp at hl
    rw[<-List.dropLast_concat_getLast a];exact hs _ _ (c _ (by simp[hl]))
 exact this _ l rfl
def Ld(l:List Span):(yg l).getLast? =l.getLast?:=by
 refine vZ (P:=λl=>(yg l).getLast? =l.getLast?) rfl (λl x a=>?_) l;rw[Fd,qts];split
 ·rename_i h;rw[h];simp
 ·simp
def qaj(l:List Span):∀x,x∈yg l↔x∈l:=by
 refine vZ (P:=λl=>∀x,x∈yg l↔x∈l) (λx=>qGZ) (λl y a x=>?_) l;rw[Fd,qts];split
 ·rename_i h;rw[Ld]at h;have b:y∈l:=List.mem_of_getLast? h;simp[a x];rintro rfl;exact b
 ·simp[a x]
def WS(l:List Span):Prop:=l.Pairwise λa b=>¬C9 b a
theorem qoJ{l:List Span}(h:WS l):SS (yg l):=by
 revert h;refine vZ (P:=λl=>WS l->SS (yg l)) (λ_=>SS.nil) (λl x r h=>?_) l;have j:=qGs.1 h;have hs:=r j.1;rw[Fd,qts];split
 ·exact hs
 ·rename_i p;refine qGs.2 ⟨hs,by simp,λa s b hb=>?_⟩;simp at hb;subst hb;have d:=(qaj l a).1 s;rcases Nw a b with h1|h1|h1
  ·exact h1
  ·exfalso;subst h1;apply p;rw[Ld];obtain⟨w,q,rfl⟩:=qHP d;have h3:=(qGs.1 j.1).2.1;have h4:=qG5.1 h3;cases c:q.getLast? with
   | none=>
     have:q=[]:=List.getLast?_eq_none_iff.1 c;subst this;simp
   | some z=>
     have hz:z∈q:=List.mem_of_getLast? c;have t:=h4.1 z hz;have u:=j.2.2 z (by simp[hz]) a (by simp);have:z=a:=by
      rcases Nw z a with k|k|k
      ·exact absurd k t
      ·exact k
      ·exact absurd k u
     subst this;rw[List.getLast?_append,List.getLast?_cons];simp[c]
  ·exact absurd h1 (j.2.2 a d b (by simp))
def SS.filter{l:List Span}(h:SS l)(p:Span->Bool):SS (l.filter p):=List.Pairwise.filter p h
def IsNorm.filter{l r:List Span}(h:IsNorm l r)(p:Span->Bool):IsNorm (l.filter p) (r.filter p):=⟨h.1.filter p,λx=>by simp[h.2 x]⟩
def qh3(l:List Span)(i:Nat)(v:Span):(l.map Cod.enc).set i (.agg [.v (.int .i64 v.b), .v (.int .i64 v.e)])=(l.set i v).map Cod.enc:=by
 rw[qHv];rfl
def Qj{l:List Span}(h:l.length< 2):yg l=l:=by
 match l,h with
 | [],_=>rfl
 | [x],_=>rfl
 |x::y::l,h=>exact absurd h (by simp only[qGi];omega)
def qk8{l:List Span}(h:1<=l.length):yg (l.take 1)=l.take 1:=Qj (by simp;omega)
def TE{l:List Span}{j:Nat}{x y:Span}(a:1<=j)(b:l[j]? =some x)(c:l[j -1]? =some y):yg (l.take (j+1))=if x=y then yg (l.take j)else yg (l.take j) ++ [x]:=by
 rw[av b,Fd,qts,Ld];have:(l.take j).getLast? =some y:=by
  have e:=av c;rw[Nat.sub_add_cancel a]at e;rw[e];simp
 rw[this];by_cases h:x=y
 ·subst h;simp
 ·have:¬y=x:=λe=>h e.symm
  simp[h,this]
def tA{b:Type}{cur l:List b}{k m:Nat}{x:b}(hk:k<cur.length)(a:k<m)(c:cur.drop m=l.drop m):
 (cur.set k x).take (k+1)=cur.take k++ [x]/\(cur.set k x).drop m=l.drop m:=by
 constructor
 ·rw[qGK];simp[List.take_set_of_le,hk]
 ·rw[List.drop_set_of_lt a,c]
def NF{c:Type}{a b:List c}{m i:Nat}(h:a.drop m=b.drop m)(hi:m<=i):a[i]? =b[i]?:=by
 have:=congrArg (λl=>l[i -m]?) h;simp only[qGx]at this;rwa [show m+ (i -m)=i by omega]at this
def we{c:Type}{a b:List c}{m i:Nat}(h:a.drop m=b.drop m)(hi:m<=i):a.drop i=b.drop i:=by
 have:=congrArg (λl=>l.drop (i -m)) h;simp only[List.drop_drop]at this;rwa [show m+ (i -m)=i by omega]at this
def qgR(s:ByteArray)(p:Nat)(h:p<s.size):1<=(Utf8.decode s p).2/\p+ (Utf8.decode s p).2<=s.size:=by
 unfold Utf8.decode;simp only[qFJ,decide_eq_true_eq]
 repeat' split
 all_goals (try simp only[])
 all_goals omega
namespace G
variable {α:Type}
def fc(n:Nat)(f:Nat->α):α:=match n with
 | 0=>f 0
 |k+1=>f (k+1)
def bt(t:Nat):Nat:=Nat.shiftLeft 1 t
def oM:Operand->Nat
 | .tmp t=>bt t
 | _=>0
def qD5:List Operand->Nat
 | []=>0
 |o::l=>Nat.lor (oM o) (qD5 l)
def qDS:CI->Nat
 | .op _ g c=>Nat.lor (qD5 c.ops) (match g with|some (s,_)=>bt s|none=>0)
 | .frz _ _=>0
def rm(m t:Nat):Nat:=Nat.sub m (Nat.land m (bt t))
def qxX:List CI->Nat->Nat
 | [],o=>o
 | x::l,o=>fc (qxX l o) λo=>match x with
   | .op (some d) g c=>Nat.lor (rm o d) (qDS (.op (some d) g c))
   | .op none g c=>Nat.lor o (qDS (.op none g c))
   | .frz _ _=>o
def lk:List (Nat×Nat)->Nat->Nat
 | [],_=>0
 | (i,m)::l,k=>match Nat.beq i k with
  |true=>m
  |false=>lk l k
def qBE:Nat->(Nat->Nat)->Nat->Nat
 | 0,_,c=>c
 | n+1,f,c=>fc (Nat.lor c (f c)) λd=>match Nat.beq d c with
   |true=>d
   |false=>qBE n f d
def lv(r:Nat):CC->List (Nat×Nat)->Nat->Nat
 | .skip,_,o=>o
 | .reg l,_,o=>qxX l o
 | .regd p t,_,o=>fc (qxX t o) (qxX p)
 | .seq a b,e,o=>fc (lv r b e o) (lv r a e)
 | .ite c a b,e,o=>Nat.lor (Nat.lor (lv r a e o) (lv r b e o)) (oM c)
 | .block i b,e,o=>lv r b ((i,o)::e) o
 | .loop _ b,e,_=>qBE 50 (lv r b e) 0
 | .exit i,e,_=>lk e i
 | .ret,_,_=>r
 | .cut _ c,e,o=>lv r c e o
 | .keep _ _ c,e,o=>lv r c e o
def gt(W x t:Nat):Nat:=Nat.land (Nat.shiftRight x (Nat.mul t W)) (Nat.sub (bt W) 1)
def ad(W x t m:Nat):Nat:=Nat.lor x (Nat.shiftLeft m (Nat.mul t W))
def hO(W h:Nat):Operand->Nat
 | .tmp t=>gt W h t
 | _=>0
def qtn(W h:Nat):List Operand->Nat
 | []=>0
 |o::l=>Nat.lor (hO W h o) (qtn W h l)
def qls:Nat->Nat->Nat->List Nat
 | 0,_,_=>[]
 | n+1,i,m=>match Nat.beq m 0 with
   |true=>[]
   | false=>match Nat.beq (Nat.land m 1) 1 with
     |true=>i::qls n (i+1) (Nat.shiftRight m 1)
     |false=>qls n (i+1) (Nat.shiftRight m 1)
def bl(m:Nat):List Nat:=qls 1000 0 m
def qhd(f:Nat->Nat):List Nat->Nat
 | []=>0
 |i::l=>Nat.lor (f i) (qhd f l)
def qqU(W:Nat)(f:Nat->Nat):List Nat->Nat->Nat
 | [],c=>c
 |i::l,c=>fc (ad W c i (f i)) (qqU W f l)
def qE5(W:Nat)(x:CI)(h c:Nat)(K:Nat->Nat->α):α:=match x with
 | .frz _ _=>K h c
 | .op d _ o=>
   let put (m:Nat):α:=match d with
    |some d=>fc (ad W h d m) λh=>K h c
    |none=>K h c
   let own:Nat:=match d with
    |some d=>bt d
    |none=>0
   let a (s:Nat):α:=fc s λs=>fc (qqU W (λi=>rm s i) (bl s) c) λc=>match d with
    |some d=>fc (ad W h d s) λh=>K h c
    |none=>K h c
   match o with
   | .alloc _ _=>put own
   | .nslice _ _=>put own
   | .mslice _ _ _=>put own
   | .mkslice _ _ _ _ _ _ _=>put own
   | .srange _=>put own
   | .appmk _ _ _ _ _ _ _=>put own
   | .m .mk _=>put own
   | .m .rng (x::_)=>fc (qqU W (λ_=>hO W h x) (bl own) c) λc=>match d with
     |some d=>fc (ad W h d own) λh=>K h c
     |none=>K h c
   | .m (.del _ _) _=>K h c
   | .m .len _=>K h c
   | .m (.upd _ _) (x::b)=>fc (qtn W h b) λv=>fc (qqU W (λ_=>v) (bl (hO W h x)) c) λc=>K h c
   | .m (.look _ _ _ _ _) (x::_)=>put (qhd (gt W c) (bl (hO W h x)))
   | .m .entry (x::_)=>put (qhd (gt W c) (bl (hO W h x)))
   | .load _ _ x=>put (qhd (gt W c) (bl (hO W h x)))
   | .tbx _ x=>fc (qqU W (λ_=>hO W h x) (bl own) c) λc=>match d with
     |some d=>fc (ad W h d own) λh=>K h c
     |none=>K h c
   | .box _ false x=>fc (qqU W (λ_=>hO W h x) (bl own) c) λc=>match d with
     |some d=>fc (ad W h d own) λh=>K h c
     |none=>K h c
   | .store _ _ x y=>fc (hO W h y) λv=>fc (qqU W (λ_=>v) (bl (hO W h x)) c) λc=>K h c
   | .append _ _ _ _ x _=>put (Nat.lor own (hO W h x))
   | .call _ xs=>a (qtn W h xs)
   | .callb _ _ xs=>a (qtn W h xs)
   | .callv f xs=>put (Nat.lor (qtn W h xs) (hO W h f))
   |o=>put (qtn W h o.ops)
def qw2(W:Nat):List CI->Nat->Nat->(Nat->Nat->α)->α
 | [],h,c,K=>K h c
 |x::l,h,c,K=>qE5 W x h c λh c=>qw2 W l h c K
def qqQ(W:Nat):CC->Nat->Nat->(Nat->Nat->α)->α
 | .reg l,h,c,K=>qw2 W l h c K
 | .regd p t,h,c,K=>qw2 W p h c λh c=>qw2 W t h c K
 | .seq a b,h,c,K=>qqQ W a h c λh c=>qqQ W b h c K
 | .ite _ a b,h,c,K=>qqQ W a h c λh c=>qqQ W b h c K
 | .block _ b,h,c,K=>qqQ W b h c K
 | .loop _ b,h,c,K=>qqQ W b h c K
 | _,h,c,K=>K h c
def fx(W:Nat)(cc:CC):Nat->Nat->Nat->(Nat->Nat->α)->α
 | 0,h,c,K=>K h c
 | n+1,h,c,K=>qqQ W cc h c λa c'=>match Nat.beq h a with
   |false=>fx W cc n a c' K
   | true=>match Nat.beq c c' with
     |false=>fx W cc n a c' K
     |true=>K h c
def cl(W c:Nat):Nat->Nat->Nat
 | 0,s=>s
 | n+1,s=>fc (Nat.lor s (qhd (gt W c) (bl s))) λt=>match Nat.beq t s with
   |true=>s
   |false=>cl W c n t
def qu7:Value->Bool
 | .int .i64 k=>decide (k=1)
 | _=>false
def qFj:List CI->Option (Nat×Nat×Nat)
 | [.op (some c) none (.cmp .lss (.tmp i) (.tmp n))]=>some (c,i,n)
 | _=>none
def qFk:List CI->Option (Nat×Nat)
 | [.op (some a) none (.arith .add (.tmp i) (.const v)), .op (some j) none (.mv (.tmp j2))]=>match qu7 v && Nat.beq i j && Nat.beq a j2 with
   |true=>some (a,i)
   |false=>none
 | _=>none
def qBF(id:Nat):CC->Option (Nat×Nat×Nat×Nat×Nat)
 | .loop _ (.seq (.reg l) (.seq (.ite (.tmp c2) .skip (.exit a)) (.seq (.block b _) (.reg d))))=>match qFj l,qFk d with
   | some (c,i,n),some (k,j)=>match Nat.beq id a && Nat.beq c c2 && Nat.beq i j with
     |true=>some (i,n,c,b,k)
     |false=>none
   | _,_=>none
 | _=>none
def qoK:CC->Nat
 | .seq a b=>qoK a+qoK b+1
 | .ite _ a b=>qoK a+qoK b
 | .block i b=>match qBF i b with
   |some _=>qoK b -3
   |none=>qoK b
 | .loop _ b=>qoK b
 | _=>0
def pJ:CC->Nat
 | .seq a b=>pJ a+pJ b
 | .ite _ a b=>pJ a+pJ b
 | .block i b=>match qBF i b with
   |some _=>pJ b -1
   |none=>pJ b
 | .loop _ b=>pJ b+1
 | _=>0
def uk:CC->CC
 | .keep _ _ c=>c
 |c=>c
def qFs(b:CC):CC:=match b with
 | .loop _ b=>match uk b with
   | .seq _ b=>match uk b with
     | .seq _ b=>match uk b with
       | .seq a _=>match uk a with
         | .block _ b=>b
         | _=> .skip
       | _=> .skip
     | _=> .skip
   | _=> .skip
 | _=> .skip
section
variable (f:Operand->Operand)(z:List Value->List Value)
def pC:COp->COp
 | .mv x=> .mv (f x)
 | .pick c x y=> .pick (f c) (f x) (f y)
 | .alloc el l=> .alloc el (z l)
 | .box el im x=> .box el im (f x)
 | .tbx el x=> .tbx el (f x)
 | .build l d=> .build (z l) (d.map λp=>(p.1,p.2.1,f p.2.2))
 | .bslice el n d=> .bslice el n (d.map f)
 | .nslice el n=> .nslice el n
 | .mslice el n d=> .mslice el n (d.map f)
 | .load a s x=> .load a s (f x)
 | .store r s x y=> .store r s (f x) (f y)
 | .nilck x=> .nilck (f x)
 | .arith o x y=> .arith o (f x) (f y)
 | .cmp o x y=> .cmp o (f x) (f y)
 | .eql n a ks x y=> .eql n a ks (f x) (f y)
 | .scat x y=> .scat (f x) (f y)
 | .not x=> .not (f x)
 | .neg x=> .neg (f x)
 | .conv k x=> .conv k (f x)
 | .clo g l=> .clo g (l.map f)
 | .mkslice el n b a l x y=> .mkslice el n b a (z l) (f x) (f y)
 | .slice n x l h=> .slice n (f x) (l.map f) (h.map f)
 | .sslice x l h=> .sslice (f x) (l.map f) (h.map f)
 | .faddr o x=> .faddr o (f x)
 | .fld a s o x=> .fld a s o (f x)
 | .iaddr n x i=> .iaddr n (f x) (f i)
 | .sidx x i=> .sidx (f x) (f i)
 | .ext x i=> .ext (f x) i
 | .len x=> .len (f x)
 | .slen x=> .slen (f x)
 | .mm m l=> .mm m (l.map f)
 | .append r el n b x y=> .append r el n b (f x) (f y)
 | .appmk el n b a l x y=> .appmk el n b a (z l) (f x) (f y)
 | .clear n a l x=> .clear n a (z l) (f x)
 | .copy n x y=> .copy n (f x) (f y)
 | .cap x=> .cap (f x)
 | .srange x=> .srange (f x)
 | .snext x=> .snext (f x)
 | .sbytes x=> .sbytes (f x)
 | .srunes x=> .srunes (f x)
 | .bstr x=> .bstr (f x)
 | .rstr x=> .rstr (f x)
 | .mkif t x=> .mkif t (f x)
 | .m (.look ok a ka ks l) xs=> .m (.look ok a ka ks (z l)) (xs.map f)
 | .m o xs=> .m o (xs.map f)
 | .bad=> .bad
 | .call g l=> .call g (l.map f)
 | .callv g l=> .callv (f g) (l.map f)
 | .callb r g l=> .callb r g (l.map f)
def pL(fz:List (Nat×Nat)):List CI->List CI
 | []=>[]
 | .op (some d) g c::l=>match fz.lookup d with
   |some n=> .op (some d) g (pC f z c):: .frz d n::pL fz l
   |none=> .op (some d) g (pC f z c)::pL fz l
 | .op none g c::l=> .op none g (pC f z c)::pL fz l
 | .frz t n::l=> .frz t n::pL fz l
end
structure Opt where
 bx:List Nat:=[]
 fz:List (Nat×Nat):=[]
 cu:List Nat:=[]
 ke:List Nat:=[]
 kz:List Nat:=[]
abbrev PF:=(rg:Nat->Nat->Nat->Nat->Nat->CC->Nat->CC)->(sm:Nat->CC->CC->CC)->(kk:{_:Value} ->Operand)->(zk:IntKind->Value)->(ze zb zs zp zm zf:Value)->CC
section
variable (kk:{_:Value} ->Operand)(zk:IntKind->Value)(ze zb zs zp zm zf:Value)
def pO:Operand->Operand
 | .const v=> @kk v
 | .tmp t=> .tmp t
 | .global g=> .global g
 | .func f=> .func f
def pZ:List Value->List Value
 | []=>[]
 | v::l=>(match v with
   | .int k _=>zk k
   | .string _=>ze
   | .bool _=>zb
   | .slice _ _ _=>zs
   | .pointer _=>zp
   | .map _=>zm
   | _=>zf)::pZ l
end
section
variable (rg:Nat->Nat->Nat->Nat->Nat->CC->Nat->CC)(sm:Nat->CC->CC->CC)(f:Operand->Operand)(z:List Value->List Value)(op:Opt)(W h c r:Nat)
def qDj(l:List Nat):List Nat:=op.ke.filter (λx=>!l.contains x) ++l++op.kz
def an:CC->List (Nat×Nat)->Nat->Nat->Nat->Nat->CC
 | .skip,_,_,_,_,_=> .skip
 | .reg l,_,_,_,_,_=> .reg (pL f z op.fz l)
 | .regd p l,_,_,_,_,_=> .regd (pL f z op.fz p) (pL f z op.fz l)
 | .seq a b,e,o,m,k,s=>fc (lv r b e o) λp=>fc (match s with|0=>m+1|_=>m) λt=>
   let d:=an a e p t k 0
   let b':=an b e o (t+qoK a) (k+pJ a) (s -1)
   let b2:=match a with
    | .skip=>b'
    | _=> .keep (bl p) (qDj op (bl (cl W c 5 (qhd (gt W h) (bl p))))) b'
   match s with
   | 0=>match op.cu.contains m with
     |true=>sm m d b2
     |false=> .seq d b2
   | _=> .seq d b2
 | .ite q a b,e,o,m,k,_=> .ite (f q) (an a e o m k 0) (an b e o (m+qoK a) (k+pJ a) 0)
 | .block i b,e,o,m,k,_=>match qBF i b with
   |some (u,n,c,j,w)=>rg i u n c j (qFs (an b ((i,o)::e) o m k 3)) w
   |none=> .block i (an b ((i,o)::e) o m k 0)
 | .loop _ b,e,_,m,k,s=>fc (qBE 50 (lv r b e) 0) λo=>match s with
   | 0=> .loop k (an b e o m (k+1) 0)
   | _=> .loop 0 (an b e o m k s)
 | .exit i,_,_,_,_,_=> .exit i
 | .ret,_,_,_,_,_=> .ret
 | .cut _ c,e,o,m,k,s=>an c e o m k s
 | .keep _ _ c,e,o,m,k,s=>an c e o m k s
end
def qpq(W:Nat):List Nat->Nat
 | []=>0
 |t::l=>ad W (qpq W l) t (bt t)
def qq5:List ResultVar->Nat
 | []=>0
 | .tmp t::l=>Nat.lor (bt t) (qq5 l)
 | .cell t _::l=>Nat.lor (bt t) (qq5 l)
def qEv(P:Program)(neg:Bool)(t:TypeId)(x y:Operand):COp:=match P.underlying t with
 |some (.struct fs)=> .eql neg true (fs.toList.map λf=>(rh P f.type).getD .int) x y
 | _=> .eql neg false [(rh P t).getD .int] x y
def qCT(P:Program)(im:List Nat)(ops:Array Oper)(o:Oper):CI:= .op o.dst ((Jk ops o).getD none) (match o.op with
 | .binOp .eql t x y _=>qEv P false t x y
 | .binOp .neq t x y _=>qEv P true t x y
 | _=>(da P im o).getD .bad)
def cC(P:Program)(im:List Nat):Code->CC
 | .region _ ops false=> .reg (ops.toList.map (qCT P im ops))
 | .region _ ops true=> .regd (qdR ops (ops.toList.map (qCT P im ops)) (cM ops)) ((ops.toList.map (qCT P im ops)).drop (cM ops))
 | .seq a b=> .seq (cC P im a) (cC P im b)
 | .cond c a b=> .ite c (cC P im a) (cC P im b)
 | .block id b=> .block id (cC P im b)
 | .loop b=> .loop 0 (cC P im b)
 | .exit id=> .exit id
 | .ret=> .ret
 | _=> .skip
def gn(P:Program)(fn:Func)(im:List Nat)(op:Opt):PF:=λrg sm kk zk ze zb zs zp zm zf=>match fn.body with
 |none=> .skip
 | some code=>fc (qpq fn.ntmps op.bx) λh0=>fx fn.ntmps (cC { P with cutTypes:= #[] } im code) 6 h0 0 λh c=>fc (qq5 fn.results.toList) λr=>
   an rg sm (pO @kk) (pZ zk ze zb zs zp zm zf) op fn.ntmps h c r (cC { P with cutTypes:= #[] } im code) [] r 0 1 0
def ap(c:PF):CC:=c gd MI (λ{v} => .const v) (λk=> .int k 0) (.string ⟨#[]⟩) (.bool false) (.slice none 0 0) (.pointer none) (.map none) .nilFunc
end G
open Go.Proofs
abbrev oA(d s:Nat):CI:= .op (some d) none (.mv (.tmp s))
abbrev oB(d:Nat)(c:COp):CI:= .op (some d) none c
abbrev oC(d w s:Nat):CI:= .op (some d) none (.load false w (.tmp s))
abbrev oD(d w s:Nat):CI:= .op (some d) none (.load true w (.tmp s))
abbrev oE(d n s:Nat):CI:= .op (some d) none (.faddr n (.tmp s))
abbrev oF(w a b:Nat):CI:= .op none none (.store none w (.tmp a) (.tmp b))
abbrev oG(d s:Nat):CI:= .op (some d) none (.nilck (.tmp s))
abbrev oH(d g:Nat)(c:COp):CI:= .op (some d) (some (g,true)) c
abbrev oI(d g:Nat)(c:COp):CI:= .op (some d) (some (g,false)) c
abbrev oT(n:Nat):Operand:= .tmp n
abbrev oK(v:Value):Operand:= .const v
abbrev oN(n:Int):Operand:= .const (.int .i64 n)
abbrev oS(b:ByteArray):Operand:= .const (.string b)
abbrev oi:Value:= .int .i64 0
abbrev oe:Value:= .string ⟨#[]⟩
abbrev ob:Value:= .bool false
abbrev on:Value:= .slice none 0 0
abbrev oZ(d f:Nat)(l:List Operand):CI:= .op (some d) none (.call f l)
abbrev oX(l:List CI)(a b:List Nat)(x:CC):CC:= .seq (.reg l) (.keep a b x)
abbrev xj:Nat:=5
abbrev We:Nat:=6
abbrev uQ:Nat:=7
abbrev xg:Nat:=8
abbrev Ea:Nat:=9
abbrev bU:Nat:=10
abbrev tK:Nat:=11
abbrev He:Nat:=12
abbrev zA:Nat:=13
abbrev xi:Nat:=14
abbrev uO:Nat:=16
abbrev qY:Nat:=17
abbrev BT:Nat:=18
abbrev iF:Nat:=19
abbrev sT:Nat:=20
abbrev Em:Nat:=21
abbrev fG:Nat:=22
abbrev uP:Nat:=23
abbrev dT:Nat:=24
abbrev BP:Nat:=25
abbrev iT:Nat:=26
abbrev yx:Nat:=27
abbrev eB:Nat:=28
abbrev uM:Nat:=29
abbrev qW:Nat:=30
abbrev js:Nat:=31
abbrev gj:Nat:=32
abbrev jR:Nat:=33
abbrev vx:Nat:=34
abbrev sR:Nat:=35
abbrev pE:Nat:=36
abbrev El:Nat:=37
abbrev Hb:Nat:=38
abbrev BW:Nat:=39
abbrev xh:Nat:=40
abbrev P2:Nat:=41
abbrev Wd:Nat:=42
abbrev BX:Nat:=43
abbrev uf:Nat:=44
abbrev qT:Nat:=45
abbrev xe:Nat:=46
abbrev xf:Nat:=47
abbrev Eg:Nat:=48
abbrev lL:Nat:=49
abbrev wZ:Nat:=50
abbrev wX:Nat:=51
abbrev zz:Nat:=52
abbrev ue:Nat:=53
abbrev qN:Nat:=54
abbrev uc:Nat:=55
abbrev nL:Nat:=56
abbrev wU:Nat:=57
abbrev vK:Nat:=58
abbrev ud:Nat:=59
abbrev vL:Nat:=60
abbrev eX:Nat:=61
abbrev ct:Nat:=62
abbrev dK:Nat:=63
abbrev dz:Nat:=64
abbrev aY:Nat:=65
abbrev qV:Nat:=66
abbrev nO:Nat:=67
abbrev eA:Nat:=68
abbrev mE:Nat:=69
abbrev xc:Nat:=70
abbrev gY:Nat:=71
abbrev gZ:Nat:=72
abbrev kT:Nat:=73
abbrev dO:Nat:=74
abbrev fp:Nat:=75
abbrev xk:Nat:=76
abbrev oO:Nat:=77
abbrev qK:Nat:=79
abbrev jr:Nat:=80
abbrev Hd:Nat:=81
abbrev sP:Nat:=82
abbrev ez:Nat:=83
abbrev qO:Nat:=85
abbrev zw:Nat:=86
abbrev qP:Nat:=88
abbrev jN:Nat:=89
abbrev dx:Nat:=91
abbrev qZ:Nat:=92
abbrev xb:Nat:=93
abbrev dM:Nat:=94
abbrev dN:Nat:=95
abbrev pD:Nat:=96
abbrev nZ:Nat:=97
abbrev gJ:Nat:=98
abbrev wY:Nat:=99
abbrev lO:Nat:=100
abbrev Ec:Nat:=101
abbrev cD:Nat:=102
abbrev BO:Nat:=103
abbrev iU:Nat:=104
abbrev jp:Nat:=105
abbrev nP:Nat:=106
abbrev fN:Nat:=107
abbrev dH:Nat:=108
abbrev dL:Nat:=109
abbrev bO:Nat:=110
abbrev dh:Nat:=111
abbrev gK:Nat:=112
abbrev bi:Nat:=113
abbrev tJ:Nat:=114
abbrev cR:Nat:=115
abbrev iH:Nat:=116
abbrev cJ:Nat:=117
abbrev rc:Nat:=118
abbrev cN:Nat:=119
abbrev qU:Nat:=120
abbrev jP:Nat:=121
abbrev nN:Nat:=122
abbrev eN:Nat:=123
abbrev gM:Nat:=124
abbrev vN:Nat:=125
abbrev aM:Nat:=126
abbrev gX:Nat:=127
abbrev fV:Nat:=128
abbrev fl:Nat:=129
abbrev mF:Nat:=130
abbrev cW:Nat:=131
abbrev kA:Nat:=132
abbrev bJ:Nat:=133
abbrev aN:Nat:=134
abbrev zC:Nat:=135
abbrev re:Nat:=136
abbrev kU:Nat:=137
abbrev zB:Nat:=138
abbrev bX:Nat:=139
abbrev cY:Nat:=140
abbrev oR:Nat:=141
abbrev bI:Nat:=142
abbrev cT:Nat:=143
abbrev oa:Nat:=144
abbrev uN:Nat:=147
abbrev wV:Nat:=148
abbrev zu:Nat:=149
abbrev Eb:Nat:=150
abbrev sM:Nat:=151
abbrev sU:Nat:=154
abbrev kS:Nat:=155
abbrev jq:Nat:=156
abbrev mD:Nat:=157
abbrev oP:Nat:=158
abbrev lI:Nat:=160
abbrev Hg:Nat:=161
abbrev zy:Nat:=162
abbrev sQ:Nat:=163
abbrev BQ:Nat:=164
abbrev Ed:Nat:=165
abbrev zx:Nat:=166
abbrev Eh:Nat:=167
abbrev Ee:Nat:=168
abbrev wW:Nat:=169
abbrev lM:Nat:=170
abbrev xa:Nat:=171
abbrev jO:Nat:=172
abbrev mC:Nat:=173
abbrev aV:Nat:=174
abbrev jQ:Nat:=175
abbrev cE:Nat:=176
abbrev fD:Nat:=177
abbrev lN:Nat:=178
abbrev ra:Nat:=179
abbrev rb:Nat:=180
abbrev tL:Nat:=181
abbrev wS:Nat:=182
abbrev cQ:Nat:=183
abbrev dJ:Nat:=184
abbrev gu:Nat:=185
abbrev fC:Nat:=186
abbrev fF:Nat:=187
abbrev hU:Nat:=188
abbrev eC:Nat:=189
abbrev iG:Nat:=190
abbrev tI:Nat:=192
abbrev qM:Nat:=193
abbrev zt:Nat:=194
abbrev uR:Nat:=195
abbrev oQ:Nat:=196
abbrev fB:Nat:=197
abbrev ci:Nat:=198
abbrev bQ:Nat:=199
abbrev cw:Nat:=200
abbrev jn:Nat:=201
abbrev fj:Nat:=202
abbrev qX:Nat:=212
abbrev sO:Nat:=213
abbrev ni:Nat:=214
abbrev sV:Nat:=216
abbrev cv:Nat:=217
abbrev BV:Nat:=218
abbrev yw:Nat:=219
abbrev sS:Nat:=220
abbrev Ef:Nat:=229
abbrev yv:Nat:=230
abbrev vM:Nat:=231
abbrev Hh:Nat:=232
abbrev BS:Nat:=233
abbrev BR:Nat:=234
abbrev gL:Nat:=235
abbrev BU:Nat:=236
abbrev lH:Nat:=237
abbrev rf:Nat:=239
abbrev eW:Nat:=240
abbrev gi:Nat:=241
abbrev nM:Nat:=242
abbrev gI:Nat:=243
abbrev Eo:Nat:=252
abbrev lJ:Nat:=253
abbrev mB:Nat:=255
abbrev tH:Nat:=256
abbrev dv:Nat:=257
abbrev dS:Nat:=258
abbrev dU:Nat:=259
abbrev nf:Nat:=260
abbrev qR:Nat:=266
abbrev qQ:Nat:=268
abbrev qS:Nat:=272
abbrev Ei:Nat:=277
abbrev iE:Nat:=278
abbrev kD:Nat:=285
abbrev bG:Nat:=286
abbrev tG:Nat:=287
abbrev jo:Nat:=288
abbrev kR:Nat:=289
abbrev En:Nat:=290
abbrev nj:Nat:=291
abbrev sL:Nat:=292
abbrev sW:Nat:=293
abbrev Ej:Nat:=298
abbrev kB:Nat:=305
abbrev dE:Nat:=306
abbrev qL:Nat:=307
abbrev dy:Nat:=308
abbrev fq:Nat:=309
abbrev Ek:Nat:=311
abbrev nh:Nat:=314
abbrev sK:Nat:=317
abbrev dZ:Nat:=318
abbrev kE:Nat:=319
abbrev D9:Nat:=322
abbrev lK:Nat:=323
abbrev jm:Nat:=324
abbrev eM:Nat:=325
abbrev ir:Nat:=327
abbrev fm:Nat:=328
abbrev kC:Nat:=329
abbrev wT:Nat:=330
abbrev ng:Nat:=333
abbrev fh:Nat:=335
abbrev dw:Nat:=336
abbrev oU:Nat:=337
abbrev eV:Nat:=340
abbrev sX:Nat:=341
abbrev dg:Nat:=342
abbrev bj:Nat:=3
abbrev tQ:Nat:=5
abbrev aw:Nat:=9
abbrev N9:Nat:=21
abbrev yk:Nat:=28
abbrev qfv:Nat:=30
abbrev ff:Nat:=36
abbrev aC:Nat:=39
abbrev aK:Nat:=50
abbrev ET:Nat:=61
abbrev An:Nat:=69
abbrev Sh:Nat:=80
abbrev H7:Nat:=100
abbrev pv:Nat:=110
abbrev yj:Nat:=118
abbrev kg:Nat:=158
abbrev Ge:Nat:=191
abbrev fw:Nat:=233
abbrev Do:Nat:=236
abbrev gm:Nat:=258
abbrev Am:Nat:=339
abbrev dt:Nat:=344
def mixed:Tryz.prog.follows .mixedOrders=true:=by kernel_rfl
abbrev gq(f:Func)(im:List Nat)(op:G.Opt)(c:CC)(_:G.ap (G.gn Tryz.prog f im op)=c:=by conv=>lhs;(conv=>arg 1;reduce);dsimp only[G.ap]):CC:=c
def fo {f : Nat} {im : List Nat} {cc : CC} {rs : List aj} {N : Nat} (h : ((Tryz.prog.funcs[f]?).bind fun g => if g.name == "runtime.NumGoroutine" then none else g.body.bind fun c => (aI Tryz.prog im g.ntmps c).bind fun cc => (g.results.toList.mapM (hZ Tryz.prog)).bind fun rs => some (g.ntmps, cc, rs)) = some (N, bP cc, rs) := by kernel_rfl) : zY Tryz.prog f im cc rs N := qvm mixed h
abbrev FO:=zY Tryz.prog
abbrev TQ(dq:Prop)(f:Nat)(s:Spc):Prop:=Tri dq Tryz.prog f s.pt
def Qs:CC:=gq Tryz.f27 [] {} _
def OR:List aj:=[.tmp 4]
def qji:FO yx [] Qs OR 16:=fo
def rC:CC:=gq Tryz.f170 [] {} _
def qg:List aj:=[.tmp 2]
def IN:FO lM [] rC qg 21:=fo
def uh:CC:=gq Tryz.f171 [] {} _
def tU:List aj:=[.tmp 2]
def LY:FO xa [] uh tU 17:=fo
def iK:CC:=gq Tryz.f102 [] {} _
def ix:List aj:=[.tmp 2]
def AA:FO cD [] iK ix 29:=fo
def rB:CC:=gq Tryz.f278 [] {} _
def qf:List aj:=[.tmp 2]
def IM:FO iE [] rB qf 25:=fo
def Ci:CC:=gq Tryz.f311 [] { cu:=[2,7,9] } _
def Bg:List aj:=[.tmp 2]
def Vy:FO Ek [] Ci Bg 81:=fo
def Ch:CC:=gq Tryz.f298 [] {} _
def Bf:List aj:=[.tmp 2]
def Vx:FO Ej [] Ch Bf 16:=fo
def Cg:CC:=gq Tryz.f277 [] {} _
def Be:List aj:=[.tmp 2, .tmp 3]
def Vw:FO Ei [] Cg Be 69:=fo
def EE:CC:=gq Tryz.f161 [] {} _
def DB:List aj:=[.tmp 2]
def Y4:FO Hg [] EE DB 4:=fo
def xF:CC:=gq Tryz.f162 [] {} _
def wy:List aj:=[.tmp 4]
def Pf:FO zy [] xF wy 13:=fo
def kK:CC:=gq Tryz.f98 [2,3] {} _
def ku:List aj:=[.tmp 4]
def CY:FO gJ [2,3] kK ku 122:=fo
def pd:CC:=gq Tryz.f45 [] { cu:=[6] } _
def oq:List aj:=[.tmp 2]
def GD:FO qT [] pd oq 47:=fo
def Cb:CC:=gq Tryz.f229 [2] {} _
def Bb:List aj:=[.tmp 4]
def Vt:FO Ef [2] Cb Bb 17:=fo
def B9:CC:=gq Tryz.f230 [] {} _
def A9:List aj:=[.tmp 2]
def Vr:FO yv [] B9 A9 42:=fo
def zH:CC:=gq Tryz.f231 [3] {} _
def yR:List aj:=[.tmp 6]
def RC:FO vM [3] zH yR 32:=fo
def EF:CC:=gq Tryz.f232 [] {} _
def DD:List aj:=[.tmp 4]
def Y5:FO Hh [] EF DD 24:=fo
def zK:CC:=gq Tryz.f233 [2] {} _
def yU:List aj:=[.tmp 4]
def RG:FO BS [2] zK yU 27:=fo
def zJ:CC:=gq Tryz.f234 [] {} _
def yT:List aj:=[.tmp 4]
def RE:FO BR [] zJ yT 27:=fo
def rA:CC:=gq Tryz.f163 [] {} _
def qe:List aj:=[.tmp 2, .tmp 3]
def IL:FO sQ [] rA qe 42:=fo
def zI:CC:=gq Tryz.f164 [1] {} _
def yS:List aj:=[.tmp 2, .tmp 3]
def RD:FO BQ [1] zI yS 48:=fo
def B8:CC:=gq Tryz.f165 [1] {} _
def A8:List aj:=[.tmp 2, .tmp 3]
def Vq:FO Ed [1] B8 A8 96:=fo
def xE:CC:=gq Tryz.f166 [1] {} _
def wx:List aj:=[.tmp 2, .tmp 3]
def Pe:FO zx [1] xE wx 143:=fo
def Cf:CC:=gq Tryz.f167 [3] { cu:=[14,17,20,26] } _
def Bd:List aj:=[.tmp 4, .tmp 5]
def Vv:FO Eh [3] Cf Bd 128:=fo
def Ca:CC:=gq Tryz.f168 [1] { cu:=[2,5,11,14] } _
def Ba:List aj:=[.tmp 2, .tmp 3]
def Vs:FO Ee [1] Ca Ba 86:=fo
def uX:CC:=gq Tryz.f99 [1] {} _
def uw:List aj:=[.tmp 2, .tmp 3, .tmp 4]
def MN:FO wY [1] uX uw 74:=fo
def Ce:CC:=gq Tryz.f48 [1] {} _
def Bc:List aj:=[.tmp 2]
def Vu:FO Eg [1] Ce Bc 14:=fo
def kJ:CC:=gq Tryz.f49 [] {} _
def kq:List aj:=[.tmp 4]
def CX:FO lL [] kJ kq 26:=fo
def uY:CC:=gq Tryz.f50 [2] {} _
def ux:List aj:=[.tmp 4]
def MO:FO wZ [2] uY ux 21:=fo
def uW:CC:=gq Tryz.f51 [1] {} _
def uv:List aj:=[.tmp 2, .tmp 3]
def MM:FO wX [1] uW uv 32:=fo
def zL:CC:=gq Tryz.f18 [2,3,2101010,1100097,2108010,1107104,2145010,1144141,2182010,1181178] { cu:=[7,13,19,26,33,48] } _
def yV:List aj:=[.cell 4 true 7, .tmp 5]
def RH:FO BT [2,3,2101010,1100097,2108010,1107104,2145010,1144141,2182010,1181178] zL yV 273:=fo
def AK:CC:=gq Tryz.f44 [] {} _
def Au:List aj:=[.tmp 2]
def SP:FO uf [] AK Au 8:=fo
def Li:CC:=gq Tryz.f41 [] {} _
def Kr:List aj:=[.tmp 2]
def qfZ:FO P2 [] Li Kr 7:=fo
def Qq:CC:=gq Tryz.f42 [] {} _
def OP:List aj:=[.tmp 2]
def qjg:FO Wd [] Qq OP 7:=fo
def zS:CC:=gq Tryz.f43 [] {} _
def zg:List aj:=[.tmp 2]
def RQ:FO BX [] zS zg 7:=fo
def vn:CC:=gq Tryz.f40 [] {} _
def uH:List aj:=[.tmp 0]
def MY:FO xh [] vn uH 5:=fo
def xO:CC:=gq Tryz.f10 [] {} _
def DE:List aj:=[.tmp 4]
def Pp:FO bU [] xO DE 35:=fo
def Qr:CC:=gq Tryz.f6 [999] {} _
def OQ:List aj:=[.tmp 2]
def qjh:FO We [999] Qr OQ 11:=fo
def pi:CC:=gq Tryz.f17 [100026,2067008] { cu:=[3,5,12,19,22,28] } _
def ow:List aj:=[.cell 6 true 7]
def GM:FO qY [100026,2067008] pi ow 177:=fo
def vi:CC:=gq Tryz.f46 [1061061,1096061,2063001,2098001] { bx:=[1],cu:=[12] } _
def uD:List aj:=[]
def MU:FO xe [1061061,1096061,2063001,2098001] vi uD 100:=fo
def vk:CC:=gq Tryz.f47 [1038027,1034027,1031027,2076042,2075040] { bx:=[1],cu:=[10,14] } _
def uF:List aj:=[]
def MW:FO xf [1038027,1034027,1031027,2076042,2075040] vk uF 102:=fo
def tm:CC:=gq Tryz.f7 [] {} _
def sD:List aj:=[.cell 4 true 7]
def KM:FO uQ [] tm sD 36:=fo
def zT:CC:=gq Tryz.f130 [] {} _
def zh:List aj:=[.tmp 2]
def pp:CC:=gq Tryz.f131 [] {} _
def oL:List aj:=[.tmp 4]
def tn:CC:=gq Tryz.f144 [] {} _
def sE:List aj:=[.tmp 2]
def iO:CC:=gq Tryz.f33 [2] {} _
def iB:List aj:=[.tmp 4]
open Cod (enc dec)
variable {S:Nat->Spc}
abbrev uq:Spc:=aG (a1 Int) (λ_=>True) enc λ_ y=>y=false
def My:ak tn sE S (a1 Int) (λ_=>True) enc λ_ y=>y=false:=by
 rintro x -;simp[tn,sE]
def ug(a b:Int):Int:=if a<b then -1 else if b<a then 1 else 0
abbrev gA:Spc:=aG (a2 Int Int) (λ_=>True) enc λx y=>y=ug x.1 x.2
def HM(h1:S oa=uq):ak pp oL S (a2 Int Int) (λ_=>True) enc λx y=>y=ug x.1 x.2:=by
 rintro⟨a,b⟩ -;simp[pp,oL,h1,ug];refine⟨λh1 h2=>by omega,λh1=>⟨λh2=>?_,λh2=>?_⟩⟩
 ·rw[if_neg (by omega),if_pos h2]
 ·rw[if_neg (by omega),if_neg (by omega)]
abbrev vD:Spc:=aG (a1 (List Int)) (λ_=>True) enc λx y=>y=(x.find? (· ≠0)).getD 0
def Ut:ak zT zh S (a1 (List Int)) (λ_=>True) enc λx y=>y=(x.find? (· ≠0)).getD 0:=by
 rintro l -;simp[zT,zh];intro _;refine ah (X:=Unit) [3,6] [] l.length (λk _=>(l.find? λx=>!decide (x=0))=(l.drop k).find? λx=>!decide (x=0)) (λ_=>[]) (λ_=>[]) () (by simp) ?_ ?_
 ·intro k _ hk a;simp;refine⟨hk,λx b=>?_⟩;rw[bw b]at a;refine⟨λh=>?_,λh=>?_⟩
  ·rw[a];simp[h]
  ·rw[a];simp[h]
 ·intro _ a;rw[qGr]at a;simp[a]
def KU(x n:Int):Int:=if n< 1 then 0 else if x.tmod n< 0 then x.tmod n+n else x.tmod n
abbrev s_m_Mod:Spc:=aG (a2 Int Int) (λx=>x.2<=1000000000) enc λx y=>y=KU x.1 x.2
def qmN:ak Qs OR S (a2 Int Int) (λx=>x.2<=1000000000) enc λx y=>y=KU x.1 x.2:=by
 rintro⟨a,b⟩ hl;simp at hl;simp[Qs,OR,KU];refine⟨λh1 h2=>by omega,λh1=>⟨by omega,λh2=>⟨?_,?_⟩,λh2=>?_⟩⟩
 ·have:=Int.lt_tmod_of_pos a (b:=b) (by omega);simp[InR];omega
 ·rw[if_neg (by omega),if_pos h2]
 ·rw[if_neg (by omega),if_neg (by omega)]
end
section
open Cod (enc dec)
variable {dq:Prop}
def qrm(s t:Spc):Spc:= .gen (λd ds H K=>s.pt d ds H K\/t.pt d ds H K) λd ds H K a hk h=>h.elim (λh=> .inl (s.mono d ds H K a hk h)) (λh=> .inr (t.mono d ds H K a hk h))
@[simp] theorem qAM(s t:Spc)(d:Nat)(ds:List D)(H:ab)(K:D->ab->Prop):(qrm s t).pt d ds H K=(s.pt d ds H K\/t.pt d ds H K):=i' rfl
def Oa{P:Program}{f:Nat}{s t:Spc}(h1:Tri dq P f s.pt)(h2:Tri dq P f t.pt):Tri dq P f (qrm s t).pt:=λO tp w vs ds H d K a b c e g h=>h.elim (λh=>h1 O tp w vs ds H d K a b c e g h) (λh=>h2 O tp w vs ds H d K a b c e g h)
section
variable {X Y:Type}[Cod Y]
def qB2(A:dP X)(pre:X->Prop)(post:X->List Y->Prop)(el n:Nat):PT:=λd ds H K=>eL (A.dec ds) λx=>pre x/\∀v l,post x l->K (.own d v) (ai H d (some (.row v el n (l.map enc))))
def qBH(A:dP X)(pre:X->List Y->Prop)(post:X->List Y->List Y->Prop)(el n:Nat):PT:=λd ds H K=>∃id v l a x,ds= .own id v::a/\A.dec a=some x/\H id=some (.row v el n (l.map enc))/\pre x l/\
 ∀v' l',post x l l'->K (.own id v') (ai H id (some (.row v' el n (l'.map enc))))
def qBC(A:dP X)(pre:X->List Y->Prop)(post:X->List Y->List Y->Prop)(el n:Nat):PT:=λd ds H K=>∃id v l a x,ds= .own id v::a/\A.dec a=some x/\H id=some (.row v el n (l.map enc))/\pre x l/\
 ∀l',post x l l'->K (.tup []) (ai H id (some (.row v el n (l'.map enc))))
def qfW{o:Option X}{k a:X->Prop}(h:∀x,k x->a x)(ho:eL o k):eL o a:=by
 cases o<;>simp_all
def qop(A:dP X)(pre:X->Prop)(post:X->List Y->Prop)(el n:Nat):nC (qB2 A pre post el n):=λd ds H K a hk h=>qfW (λx h=>⟨h.1,λv l hp=>hk _ _ (h.2 v l hp)⟩) h
def qn8(A:dP X)(pre:X->List Y->Prop)(post:X->List Y->List Y->Prop)(el n:Nat):nC (qBH A pre post el n):=λd ds H K b hk ⟨id,v,l,a,x,h1,h2,h3,h4,h5⟩=>⟨id,v,l,a,x,h1,h2,h3,h4,λv' l' hp=>hk _ _ (h5 v' l' hp)⟩
def qn4(A:dP X)(pre:X->List Y->Prop)(post:X->List Y->List Y->Prop)(el n:Nat):nC (qBC A pre post el n):=λd ds H K b hk ⟨id,v,l,a,x,h1,h2,h3,h4,h5⟩=>⟨id,v,l,a,x,h1,h2,h3,h4,λl' hp=>hk _ _ (h5 l' hp)⟩
def qrQ(A:dP X)(pre:X->Prop)(post:X->List Y->Prop)(el n:Nat):Spc:= .gen _ (qop A pre post el n)
def qu8(A:dP X)(pre:X->List Y->Prop)(post:X->List Y->List Y->Prop)(el n:Nat):Spc:= .gen _ (qn8 A pre post el n)
def qrK(A:dP X)(pre:X->List Y->Prop)(post:X->List Y->List Y->Prop)(el n:Nat):Spc:= .gen _ (qn4 A pre post el n)
@[simp] theorem qkr(A:dP X)(pre:X->Prop)(post:X->List Y->Prop)(el n:Nat)(d:Nat)(ds:List D)(H:ab)(K:D->ab->Prop):(qrQ A pre post el n).pt d ds H K=eL (A.dec ds) λx=>pre x/\∀v l,post x l->K (.own d v) (ai H d (some (.row v el n (l.map enc)))):=i' rfl
def qyl(A:dP X)(pre:X->List Y->Prop)(post:X->List Y->List Y->Prop)(el n id:Nat)(v:Value)(ds:List D)(r:Option Res)(H:ab)(K:D->ab->Prop):Prop:=∃l,r=some (.row v el n (l.map enc))/\eL (A.dec ds) λx=>pre x l/\∀v' l',post x l l'->K (.own id v') (ai H id (some (.row v' el n (l'.map enc))))
def qyj(A:dP X)(pre:X->List Y->Prop)(post:X->List Y->List Y->Prop)(el n id:Nat)(v:Value)(ds:List D)(r:Option Res)(H:ab)(K:D->ab->Prop):Prop:=∃l,r=some (.row v el n (l.map enc))/\eL (A.dec ds) λx=>pre x l/\∀l',post x l l'->K (.tup []) (ai H id (some (.row v el n (l'.map enc))))
@[congr] theorem qBG{A:dP X}{pre:X->List Y->Prop}{post:X->List Y->List Y->Prop}{el n id:Nat}{v:Value}{ds a:List D}{r r':Option Res}{H:ab}{K:D->ab->Prop}(h1:ds=a)(h2:r=r'):qyl A pre post el n id v ds r H K=qyl A pre post el n id v a r' H K:=by grind
@[congr] theorem qBB{A:dP X}{pre:X->List Y->Prop}{post:X->List Y->List Y->Prop}{el n id:Nat}{v:Value}{ds a:List D}{r r':Option Res}{H:ab}{K:D->ab->Prop}(h1:ds=a)(h2:r=r'):qyj A pre post el n id v ds r H K=qyj A pre post el n id v a r' H K:=by grind
@[simp] theorem qBI(A:dP X)(pre:X->List Y->Prop)(post:X->List Y->List Y->Prop)(el n:Nat)(d i:Nat)(v:Value)(ds:List D)(H:ab)(K:D->ab->Prop):(qu8 A pre post el n).pt d (.own i v::ds) H K=qyl A pre post el n i v ds (H i) H K:=by
 refine propext ⟨λh=>?_,λh=>?_⟩
 ·obtain⟨id,v,l,b,x,h1,h2,h3,h4,h5⟩:=h;cases h1;refine⟨l,h3,?_⟩;rw[h2];exact⟨h4,h5⟩
 ·obtain⟨l,h1,h2⟩:=h;cases a:A.dec ds with
  |none=>rw[a]at h2;exact h2.elim
  |some x=>rw[a]at h2;exact⟨i,v,l,ds,x,rfl,a,h1,h2.1,h2.2⟩
@[simp] theorem qBD(A:dP X)(pre:X->List Y->Prop)(post:X->List Y->List Y->Prop)(el n:Nat)(d i:Nat)(v:Value)(ds:List D)(H:ab)(K:D->ab->Prop):(qrK A pre post el n).pt d (.own i v::ds) H K=qyj A pre post el n i v ds (H i) H K:=by
 refine propext ⟨λh=>?_,λh=>?_⟩
 ·obtain⟨id,v,l,b,x,h1,h2,h3,h4,h5⟩:=h;cases h1;refine⟨l,h3,?_⟩;rw[h2];exact⟨h4,h5⟩
 ·obtain⟨l,h1,h2⟩:=h;cases a:A.dec ds with
  |none=>rw[a]at h2;exact h2.elim
  |some x=>rw[a]at h2;exact⟨i,v,l,ds,x,rfl,a,h1,h2.1,h2.2⟩
@[simp] theorem qEj(A:dP X)(pre:X->List Y->Prop)(post:X->List Y->List Y->Prop)(el n id:Nat)(v:Value)(ds:List D)(l:List Y)(H:ab)(K:D->ab->Prop):qyl A pre post el n id v ds (some (.row v el n (l.map enc))) H K=eL (A.dec ds) λx=>pre x l/\∀v' l',post x l l'->K (.own id v') (ai H id (some (.row v' el n (l'.map enc)))):=by
 refine propext ⟨λ⟨l',h1,h2⟩=>?_,λh=>⟨l,rfl,h⟩⟩;simp at h1;subst h1;exact h2
@[simp] theorem qEi(A:dP X)(pre:X->List Y->Prop)(post:X->List Y->List Y->Prop)(el n id:Nat)(v:Value)(ds:List D)(l:List Y)(H:ab)(K:D->ab->Prop):qyj A pre post el n id v ds (some (.row v el n (l.map enc))) H K=eL (A.dec ds) λx=>pre x l/\∀l',post x l l'->K (.tup []) (ai H id (some (.row v el n (l'.map enc)))):=by
 refine propext ⟨λ⟨l',h1,h2⟩=>?_,λh=>⟨l,rfl,h⟩⟩;simp at h1;subst h1;exact h2
def qpe(el n:Nat)(q:List Y->Prop)(r:D)(H':ab):Prop:=∃j v l,r= .own j v/\H' j=some (.row v el n (l.map enc))/\q l
def dI{el n:Nat}{q:List Y->Prop}{j:Nat}{v:Value}{H':ab}(l:List Y)(h:H' j=some (.row v el n (l.map enc)))(a:q l):qpe el n q (.own j v) H':=⟨j,v,l,rfl,h,a⟩
def TM(cc:CC)(rs:List aj)(S:Nat->Spc)(A:dP X)(pre:X->Prop)(post:X->List Y->Prop)(el n:Nat):Prop:=
 ∀x,pre x->vc S cc (vE rs λr H'=>qpe el n (post x) r H') (dR (A.view x)) bS
def WH(cc:CC)(rs:List aj)(S:Nat->Spc)(A:dP X)(pre:X->List Y->Prop)(post:X->List Y->List Y->Prop)(el n:Nat):Prop:=
 ∀v l x,pre x l->vc S cc (vE rs λr H'=>qpe el n (post x l) r H') (dR (.own 0 v::A.view x)) (ai bS 0 (some (.row v el n (l.map enc))))
variable {P:Program}{S:Nat->Spc}{f:Nat}{im:List Nat}{cc:CC}{rs:List aj}{N:Nat}{A:dP X}{el n:Nat}
theorem Ao{pre:X->Prop}{post:X->List Y->Prop}(p:∀f,Tri dq P f (S f).pt)(h:zY P f im cc rs N)(y:∀x,(A.view x).length<=N)(t:TM cc rs S A pre post el n):Tri dq P f (qrQ A pre post el n).pt:=by
 obtain⟨zq,enter,fn,code,h1,h2,h3,h4,h5⟩:=h;refine pw p zq h1 h2 enter h3 h4 h5 ?_;intro ds H d K b;rw[qkr]at b;cases c:A.dec ds with
 |none=>simp_all
 | some x=>
   rw[c]at b;obtain⟨hp,u⟩:=b;have hl:=A.le ds x c;refine⟨by rw[hl.1];grind,A.view x,bS,id,hl,λi r h=>by simp at h,λi j r s h=>by simp,_,t x hp,?_⟩;rintro r H' ⟨j,v,l,rfl,C,a⟩;refine⟨.own d v,bS,ai H d (some (.row v el n (l.map enc))),λi=>if i=d then some j else none, .own _ _ _,λj q h=>by simp at h,u v l a,λi s hi=>?_,λi E k s q hi w F I=>?_⟩
   ·by_cases e:i=d;simp_all;simp_all
   grind
theorem Gg{pre:X->List Y->Prop}{post:X->List Y->List Y->Prop}(t:∀f,Tri dq P f (S f).pt)(h:zY P f im cc rs N)(F:∀x,(A.view x).length+1<=N)(u:WH cc rs S A pre post el n):Tri dq P f (qu8 A pre post el n).pt:=by
 obtain⟨zq,enter,fn,code,h1,h2,h3,h4,h5⟩:=h;refine pw t zq h1 h2 enter h3 h4 h5 ?_;rintro ds H d K ⟨id,v,l,p,x,rfl,w,hid,hp,y⟩;have hl:=A.le p x w;refine⟨by simp only[qGi];rw[hl.1];grind, .own 0 v::A.view x,ai bS 0 (some (.row v el n (l.map enc))),λ_=>id, .cons (.own _ _ _) hl,λi r h=>?_,λi j r s h C _=>?_,_,u v l x hp,?_⟩;simp_all
 ·have a:i=0:=by
   by_cases e:i=0;omega
   ·simp[ai,e]at h
  have b:j=0:=by
   by_cases e:j=0;omega
   ·simp[ai,e]at C
  omega
 ·rintro r H' ⟨j,v',l',rfl,I,c⟩;refine⟨.own id v',bS,ai H id (some (.row v' el n (l'.map enc))),λi=>if i=id then some j else none, .own _ _ _,λj q h=>by simp at h,y v' l' c,λi s hi=>?_,λi J k s q hi E L M=>?_⟩
  ·by_cases e:i=id;simp_all;simp_all;omega
  grind
end
def aD{X:Type}(A:dP X):dP (D×X):=⟨λds=>match ds with|d::r=>(A.dec r).map λx=>(d,x)|_=>none,λx=>x.1::A.view x.2,λds x h=>by
 split at h
 ·simp only[qFM]at h;obtain⟨y,a,rfl⟩:=h;exact .cons (.same _) (A.le _ _ a)
 grind⟩
def aE(X:Type)[Cod X]{Y:Type}(A:dP Y):dP (X×Y):=⟨λds=>match ds with|d::r=>(dec d).bind λx=>(A.dec r).map λy=>(x,y)|_=>none,λx=>enc x.1::A.view x.2,λds x h=>by
 split at h
 ·simp only[qFA,qFM]at h;obtain⟨x,a,y,b,rfl⟩:=h;exact .cons (Cod.le _ _ a) (A.le _ _ b)
 grind⟩
@[simp] theorem qlQ{X:Type}(A:dP X)(d:D)(r:List D):(aD A).dec (d::r)=(A.dec r).map λx=>(d,x):=i' rfl
@[simp] theorem qzR{X:Type}(A:dP X)(d:D)(x:X):(aD A).view (d,x)=d::A.view x:=i' rfl
@[simp] theorem qDn{X Y:Type}[Cod X](A:dP Y)(d:D)(r:List D):(aE X A).dec (d::r)=(dec d).bind λx=>(A.dec r).map λy=>(x,y):=i' rfl
@[simp] theorem qzQ{X Y:Type}[Cod X](A:dP Y)(x:X)(y:Y):(aE X A).view (x,y)=enc x::A.view y:=i' rfl
def FunIs{X Y:Type}[Cod X][Cod Y](S:Nat->Spc)(d:D)(p:X->Y):Prop:=
 ∃g caps a,d= .clo g caps/\S g= .pure a/\∀x:X,a.pre (enc x::caps)/\∀r,a.post (enc x::caps) r->r=enc (p x)
def FunIs.use'{X Y:Type}[Cod X][Cod Y]{S:Nat->Spc}{d:D}{p:X->Y}(h:FunIs S d p)(x:X)(a:Nat)(H:ab)(K:D->ab->Prop)(hk:∀y:Y,(∀q,FunIs S d q->y=q x)->K (enc y) H):EG S d a [enc x] H K:=by
 grind [FunIs,EG,Spc.pt,aP]
def FunIs.useB{X:Type}[Cod X]{S:Nat->Spc}{d:D}{p:X->Bool}(h:FunIs S d p)(x:X){a:Nat}{H:ab}{K:D->ab->Prop}(hk:∀y:Bool,(∀q,FunIs S d q->y=q x)->K (.v (.bool y)) H):EG S d a [enc x] H K:=h.use' x a H K hk
def FunIs.eq{X Y:Type}[Cod X][Cod Y]{S:Nat->Spc}{d:D}{p q:X->Y}(hex:∀g a ds,S g= .pure a->a.pre ds->∃r,a.post ds r)(h:FunIs S d p)(k:FunIs S d q):p=q:=by
 obtain⟨g,caps,a,rfl,h1,h2⟩:=h;obtain⟨l,b,j,e,c,s⟩:=k;cases e;rw[h1]at c;cases c;funext x;obtain⟨r,t⟩:=hex g a _ h1 (h2 x).1;grind [aP]
def qaU(d:D):Prop:=∀(tp I a b:Nat->Prop) (w w':World) (x:Value),R tp I w x d->R a b w' x d
def PX(v:Value):qaU (.v v):=λtp I a b w w' x h=>by
 cases h with
 |v _ h1 h2=>exact .v _ h1 h2
def ZP{ds:List D}(h:∀d∈ds,qaU d):qaU (.tup ds):=λtp I a l w w' x b=>by
 cases b with
 |tup xs _ hl j=>exact .tup xs ds hl λk x c h1 h2=>h c (qFF h2) _ _ _ _ _ _ _ (j k x c h1 h2)
section
variable {X Y Z:Type}[Cod Y]
def qCZ(A:dP X)(pre:List Y×X->Prop)(er:Z->D)(post:List Y×X->Z->Prop)(el n:Nat):PT:=λd ds H K=>∃id v l a x,ds= .own id v::a/\A.dec a=some x/\H id=some (.row v el n (l.map enc))/\pre (l,x)/\∀z,post (l,x) z->K (er z) H
def qoU(A:dP X)(pre:List Y×X->Prop)(er:Z->D)(post:List Y×X->Z->Prop)(el n:Nat):nC (qCZ A pre er post el n):=λd ds H K b hk ⟨id,v,l,a,x,h1,h2,h3,h4,h5⟩=>⟨id,v,l,a,x,h1,h2,h3,h4,λz hz=>hk _ _ (h5 z hz)⟩
def qzz(A:dP X)(pre:List Y×X->Prop)(er:Z->D)(post:List Y×X->Z->Prop)(el n:Nat):Spc:= .gen _ (qoU A pre er post el n)
def qzy(A:dP X)(pre:List Y×X->Prop)(er:Z->D)(post:List Y×X->Z->Prop)(el n:Nat)(v:Value)(ds:List D)(r:Option Res)(H:ab)(K:D->ab->Prop):Prop:=∃l,r=some (.row v el n (l.map enc))/\eL (A.dec ds) λx=>pre (l,x)/\∀z,post (l,x) z->K (er z) H
@[congr] theorem qCY{A:dP X}{pre:List Y×X->Prop}{er:Z->D}{post:List Y×X->Z->Prop}{el n:Nat}{v:Value}{ds a:List D}{r r':Option Res}{H:ab}{K:D->ab->Prop}(h1:ds=a)(h2:r=r'):qzy A pre er post el n v ds r H K=qzy A pre er post el n v a r' H K:=by grind
@[simp] theorem qC0(A:dP X)(pre:List Y×X->Prop)(er:Z->D)(post:List Y×X->Z->Prop)(el n:Nat)(d i:Nat)(v:Value)(ds:List D)(H:ab)(K:D->ab->Prop):(qzz A pre er post el n).pt d (.own i v::ds) H K=qzy A pre er post el n v ds (H i) H K:=by
 refine propext ⟨λh=>?_,λh=>?_⟩
 ·obtain⟨id,v,l,b,x,h1,h2,h3,h4,h5⟩:=h;cases h1;refine⟨l,h3,?_⟩;rw[h2];exact⟨h4,h5⟩
 ·obtain⟨l,h1,h2⟩:=h;cases a:A.dec ds with
  |none=>rw[a]at h2;exact h2.elim
  |some x=>rw[a]at h2;exact⟨i,v,l,ds,x,rfl,a,h1,h2.1,h2.2⟩
@[simp] theorem qEN(A:dP X)(pre:List Y×X->Prop)(er:Z->D)(post:List Y×X->Z->Prop)(el n:Nat)(v:Value)(ds:List D)(l:List Y)(H:ab)(K:D->ab->Prop):qzy A pre er post el n v ds (some (.row v el n (l.map enc))) H K=eL (A.dec ds) λx=>pre (l,x)/\∀z,post (l,x) z->K (er z) H:=by
 refine propext ⟨λ⟨l',h1,h2⟩=>?_,λh=>⟨l,rfl,h⟩⟩;simp at h1;subst h1;exact h2
theorem Ob{P:Program}{f:Nat}{A:dP X}{pre:List Y×X->Prop}{er:Z->D}{post:List Y×X->Z->Prop}{el n:Nat}(hf:Tri dq P f (aG (aE (List Y) A) pre er post).pt)(hn:n=Cod.wd Y)(p:∀z,qaU (er z)):Tri dq P f (qzz A pre er post el n).pt:=by
 intro O tp w vs ds H d K hO M a hlen t hA;obtain⟨id,v,l,E,x,rfl,hd,hid,hp,hK⟩:=hA;subst hn;cases vs with
 |nil=>grind
 | cons J vs=>
   have Q:J=v:=by
    have:=t 0 J (.own id v) rfl rfl;cases this;rfl
   subst Q
   let L:Nat->Prop:=λb=>O b\/ ∃i r,i≠id/\H i=some r/\r.blk=some b
   have F:∀b,aR O tp H w b->aR L tp bS w b:=λb hb=>⟨hb.1,λh=>h.elim hb.2.1 λ⟨i,r,_,h1,h2⟩=>hb.2.2.2 ⟨i,r,h1,h2⟩,hb.2.2.1,λ⟨i,r,h1,_⟩=>by simp at h1⟩
   have U:∀y e,R tp (aR O tp H w) w y e->R tp (aR L tp bS w) w y e:=λy e W=>W.mono (λ_ h=>h) (λb hb=>⟨F b hb,rfl⟩) (λb _=> .refl _ _)
   have hl:R tp (aR L tp bS w) w J (.list (Cod.wd Y) (l.map enc)):=OS (λb hb=>by
    have h1:=a.out id _ b hid hb;refine⟨(a.ok id _ hid).lt hb,λh=>h.elim h1.1 λ⟨i,r,hne,h2,h3⟩=>hne (a.dis _ _ _ _ b h2 hid h3 hb),h1.2,λ⟨i,r,h2,_⟩=>by simp at h2⟩) ((a.ok id _ hid).conv U (λ_ _=>rfl))
   have I:(aE (List Y) A).dec (.list (Cod.wd Y) (l.map enc)::E)=some (l,x):=by simp[hd]
   obtain⟨hce,hc⟩:=hf L tp w (J::vs) (.list (Cod.wd Y) (l.map enc)::E) bS d (λr H'=>∃z,r=er z/\post (l,x) z/\H'=bS)
    (λb hb=>hb.elim (hO b) λ⟨i,r,_,h1,h2⟩=>(a.ok i r h1).lt h2) (M.mono λb ⟨i,r,h,_⟩=>by simp at h) ⟨λi j r s b h=>by simp,λi r b h=>by simp at h,λi r h=>by simp at h⟩ (by omega)
    (λk y e h1 h2=>by
      grind)
    (by rw[mO,I];exact⟨hp,λz hz=>⟨z,rfl,hz,rfl⟩⟩)
   refine⟨hce,hc.mono ?_⟩;rintro e w' ⟨q,r,H',u,rfl,⟨z,rfl,hz,rfl⟩,t1,t2,t3,hs,ho,hsat',hR⟩;have c:∀b,b<w.heap.size->¬tp b->w'.heap[b]? =w.heap[b]?:=λb hb ht=>hs.same b hb (λ⟨i,r,h,_⟩=>by simp at h) ht
   have C:∀y e,R tp (aR O tp H w) w y e->R u (aR O u H w') w' y e:=λy e W=>W.mono t1 (λb hb=>⟨⟨qFS hb.1 hs.size,hb.2.1,λh=>by
    rcases t2 b h with h|h
    ·exact hb.2.2.1 h
    ·have:=hb.1;omega,hb.2.2.2⟩,c b hb.1 hb.2.2.1⟩) hs.tapes
   refine⟨q,er z,H,u,rfl,hK z hz,t1,t2,t3,⟨hs.os,hs.tape,hs.output,hs.size,λb hb _ ht=>c b hb ht,hs.tapes,hs.drawn⟩,λb h=> .inl h,⟨a.dis,λi r b h1 h2=>?_,λi r h1=>?_⟩,p z _ _ _ _ _ _ _ hR⟩
   ·have:=a.out i r b h1 h2;refine⟨this.1,λh=>?_⟩;rcases t2 b h with h|h;grind
    ·have:=(a.ok i r h1).lt h2;omega
   ·exact(a.ok i r h1).conv C λb hb=>c b ((a.ok i r h1).lt hb) (a.out i r b h1 hb).2
end
end
section
def RSub(r r':Res):Prop:=r=r'\/ ∃b cs cs',r= .box b cs/\r'= .box b cs'/\cs.length=cs'.length/\∀(m:Nat) (c c':D),cs[m]? =some c->cs'[m]? =some c'->WK c c'
def RSub.blk{r r':Res}(h:RSub r r'):r'.blk=r.blk:=by
 grind [Res.blk,RSub]
def RSub.ok{tp I:Nat->Prop}{w w':World}{r r':Res}(h:RSub r r')(d:ResOk (R tp I w) w' r):ResOk (R tp I w) w' r':=by
 rcases h with rfl|⟨b,cs,cs',rfl,rfl,hl,hc⟩;omega
 ·obtain⟨xs,el,h1,h2,h3⟩:=d;refine⟨xs,el,h1,h2.trans hl,λk y c j a=>?_⟩;have hk:k<cs.length:=by grind
  have h4:=h3 k y cs[k] j (qFC hk);exact⟨h4.1,qpV (hc k _ _ (qFC hk) a) h4.2⟩
theorem StW.ren{E:CO}{tp:Nat->Prop}{H H':ab}{w:World}(ρ:Nat->Nat)(h:StW E tp H w)(k:∀i j r s,H' i=some r->H' j=some s->ρ i=ρ j->i=j)
 (hs:∀i r,H' i=some r->∃a,H (ρ i)=some a/\RSub a r):
 StW E tp H' w/\∀x d,R tp (aR E.O tp H w) w x d->R tp (aR E.O tp H' w) w x d:=by
 have c:∀b,bA H' b->bA H b:=λb ⟨i,r,h1,h2⟩=>by
  obtain⟨a,h3,h4⟩:=hs i r h1;exact⟨ρ i,a,h3,h4.blk ▸h2⟩
 have move:∀x d,R tp (aR E.O tp H w) w x d->R tp (aR E.O tp H' w) w x d:=λx d l=>
  l.mono (λ_ h=>h) (λb hb=>⟨⟨hb.1,hb.2.1,hb.2.2.1,λho=>hb.2.2.2 (c b ho)⟩,rfl⟩) (λb _=> .refl _ _)
 refine⟨⟨h.hO,h.tpx,h.tpn,h.tpl,h.step,λb hb=>h.loc b (c b hb),⟨λi j r s b h1 h2 h3 h4=>?_,λi r b h1 h2=>?_,λi r h1=>?_⟩⟩,move⟩
 ·obtain⟨a,a1,a2⟩:=hs i r h1;obtain⟨p,b1,b2⟩:=hs j s h2;exact k i j r s h1 h2 (h.sat.dis _ _ a p b a1 b1 (a2.blk ▸h3) (b2.blk ▸h4))
 ·obtain⟨a,a1,a2⟩:=hs i r h1;exact h.sat.out _ a b a1 (a2.blk ▸h2)
 ·obtain⟨a,a1,a2⟩:=hs i r h1;exact a2.ok ((h.sat.ok _ a a1).conv move (λ_ _=>rfl))
theorem qqc{σ:Sg}{H:ab}(i j k b:Nat)(cs cs':List D)(q:i≠j)(hk:k≠i/\k≠j)(d:H k=some (.box b cs))(hl:cs.length=cs'.length)(hc:∀(m:Nat) (c c':D),cs[m]? =some c->cs'[m]? =some c'->WK c c'):
 Wk σ H σ (ai (ai (ai H i none) j (H i)) k (some (.box b cs'))):=by
 intro E a w h;obtain⟨u,x,tp,y,A⟩:=h;have hm:=y.ren (H':=ai (ai (ai H i none) j (H i)) k (some (.box b cs'))) (λt=>if t=j then i else t) (λa c r s h1 h2 h3=>?_) (λt r h1=>?_)
 ·exact⟨u,x,tp,hm.1,λt=>hm.2 _ _ (A t)⟩
 ·simp only[ai]at h1 h2;grind
 ·simp only[ai]at h1;by_cases l:t=k
  ·subst l;simp only[if_true]at h1;cases h1;simp only[hk.2,if_false];exact⟨_,d, .inr ⟨b,cs,cs',rfl,rfl,hl,hc⟩⟩
  ·simp only[l,if_false]at h1;by_cases p:t=j
   ·simp only[p,if_true]at h1 ⊢;exact⟨r,h1, .inl rfl⟩
   ·simp only[p,if_false]at h1 ⊢;by_cases C:t=i;grind
    ·simp only[C,if_false]at h1;exact⟨r,h1, .inl rfl⟩
section
variable {S:Nat->Spc}{σ σ1:Sg}{H H1:ab}{K:Ex->Sg->ab->Prop}
def qhw{k:Nat}{b:CC}(a:Wk σ H σ1 H1)(h:vc S (.loop k b) K σ1 H1):vc S (.loop k b) K σ H:=by
 grind [Wk,Wn]
def Ka{id i n c a b:Nat}{body:CC}(d:Wk σ H σ1 H1)(h:vc S (gd id i n c a body b) K σ1 H1):vc S (gd id i n c a body b) K σ H:=by
 grind [gd,Wo,qhw]
end
variable {dq:Prop}
section
variable {X Y:Type}
def qCW(ce:X->List D)(cf:Y->List D)(pre:X->Prop)(post:X->Y->Prop):PT:=λd ds H K=>∃L id b x,ds=[.tape L, .bptr id b 0]/\H id=some (.box b (ce x))/\pre x/\∀y,post x y->K (.tup []) (ai H id (some (.box b (cf y))))
def qoT(ce:X->List D)(cf:Y->List D)(pre:X->Prop)(post:X->Y->Prop):nC (qCW ce cf pre post):=λd ds H K c hk ⟨L,id,b,x,h1,h2,h3,h4⟩=>⟨L,id,b,x,h1,h2,h3,λy a=>hk _ _ (h4 y a)⟩
def qzx(ce:X->List D)(cf:Y->List D)(pre:X->Prop)(post:X->Y->Prop):Spc:= .gen _ (qoT ce cf pre post)
def qCV(ce:X->List D)(cf:Y->List D)(pre:X->Prop)(post:X->Y->Prop)(id b:Nat)(r:Option Res)(H:ab)(K:D->ab->Prop):Prop:=∃x,r=some (.box b (ce x))/\pre x/\∀y,post x y->K (.tup []) (ai H id (some (.box b (cf y))))
@[congr] theorem qCU{ce:X->List D}{cf:Y->List D}{pre:X->Prop}{post:X->Y->Prop}{id b:Nat}{r r':Option Res}{H:ab}{K:D->ab->Prop}(h:r=r'):qCV ce cf pre post id b r H K=qCV ce cf pre post id b r' H K:=by grind
@[simp] theorem qCX(ce:X->List D)(cf:Y->List D)(pre:X->Prop)(post:X->Y->Prop)(d i b:Nat)(L:List Int)(H:ab)(K:D->ab->Prop):(qzx ce cf pre post).pt d [.tape L, .bptr i b 0] H K=qCV ce cf pre post i b (H i) H K:=by
 refine propext ⟨λh=>?_,λh=>?_⟩
 ·obtain⟨a,id,b',x,h1,h2,h3,h4⟩:=h;cases h1;exact⟨x,h2,h3,h4⟩
 ·obtain⟨x,h1,h2,h3⟩:=h;exact⟨L,i,b,x,rfl,h1,h2,h3⟩
variable {P:Program}{S:Nat->Spc}{f:Nat}{im:List Nat}{cc:CC}{rs:List aj}{N:Nat}
end
def HWk(H a:ab):Prop:=∀(E:CO) (tp:Nat->Prop) (w:World),StW E tp H w->StW E tp a w/\∀x d,R tp (aR E.O tp H w) w x d->R tp (aR E.O tp a w) w x d
def HWk.refl(H:ab):HWk H H:=λ_ _ _ h=>⟨h,λ_ _ h=>h⟩
def Wk.trans{σ b c:Sg}{H d j:ab}(h:Wk σ H b d)(k:Wk b d c j):Wk σ H c j:=λE a w hs=>k E a w (h E a w hs)
def qoo(k:Nat)(ks:List Nat)(H:ab):ab:=λi=>if i=k\/i∈ks then none else H i
def left(k b:Nat)(cs:List D)(ks:List Nat)(H:ab):ab:=λi=>if i=k then some (.box b cs)else if i∈ks then H i else none
theorem qof{H:ab}(k b:Nat)(cs cs':List D)(ks:List Nat)(hk:H k=some (.box b cs))(hl:cs.length=cs'.length)
 (hc:∀(m:Nat) (c c':D),cs[m]? =some c->cs'[m]? =some c'->FrzTo (qoo k ks H) c c'):HWk H (left k b cs' ks H):=by
 intro E tp w h;have hs:∀i r,left k b cs' ks H i=some r->(i=k/\r= .box b cs')\/(i≠k/\i∈ks/\H i=some r):=λi r h1=>by
  simp only[left]at h1;grind
 have a:∀i r c,left k b cs' ks H i=some r->r.blk=some c->∃q,H i=some q/\q.blk=some c:=λi r c h1 h2=>by
  grind [Res.blk]
 have l:∀c,bA (left k b cs' ks H) c->bA H c:=λc ⟨i,r,h1,h2⟩=>by
  grind [bA]
 have p:∀c,aR E.O tp H w c->aR E.O tp (left k b cs' ks H) w c:=λc hb=>⟨hb.1,hb.2.1,hb.2.2.1,λho=>hb.2.2.2 (l c ho)⟩
 have move:∀x d,R tp (aR E.O tp H w) w x d->R tp (aR E.O tp (left k b cs' ks H) w) w x d:=λx d A=>
  A.mono (λ_ h=>h) (λb hb=>⟨p b hb,rfl⟩) (λb _=> .refl _ _)
 refine⟨⟨h.hO,h.tpx,h.tpn,h.tpl,h.step,λb hb=>h.loc b (l b hb),⟨λi j r s c h1 h2 h3 h4=>?_,λi r c h1 h2=>?_,λi r h1=>?_⟩⟩,move⟩
 ·obtain⟨q,a1,a2⟩:=a i r c h1 h3;obtain⟨t,b1,b2⟩:=a j s c h2 h4;exact h.sat.dis i j q t c a1 b1 a2 b2
 ·obtain⟨q,a1,a2⟩:=a i r c h1 h2;exact h.sat.out i q c a1 a2
 ·rcases hs i r h1 with⟨rfl,rfl⟩|⟨_,_,h3⟩
  ·obtain⟨xs,el,h1,h2,h3⟩:=h.sat.ok _ _ hk;refine⟨xs,el,h1,h2.trans hl,λm y c C u=>?_⟩;have hm:m<cs.length:=by grind
   have h4:=h3 m y cs[m] C (qFC hm);refine⟨h4.1,(hc m _ _ (qFC hm) u).R (H:=bS) (λi r hi=>?_) p (λi r c hi hb=>?_) h4.2⟩
   ·simp only[qoo]at hi;split at hi;grind
    ·exact h.sat.ok i r hi
   ·simp only[qoo]at hi;split at hi;grind
    ·rename_i hn;have ho:=h.sat.out i r c hi hb;refine⟨(h.sat.ok i r hi).lt hb,ho.1,ho.2,λ⟨j,s,F,I⟩=>?_⟩;obtain⟨t,J,L⟩:=a j s c F I;have e:=h.sat.dis i j r t c hi J hb L;grind
  ·exact(h.sat.ok i r h3).conv move (λ_ _=>rfl)
section
variable {S:Nat->Spc}{σ:Sg}{H:ab}{K:Ex->Sg->ab->Prop}
def qm0{X:Type}(P:X->Prop)(s:X->Sg)(h:X->ab){k:Nat}{a b:CC}
 (d:vc S a (Zf (λc H'=>∃x,P x/\Wk c H' (s x) (h x)) K) σ H)
 (hb:∀x,P x->vc S b K (s x) (h x)):vc S (MI k a b) K σ H:=by
 unfold MI;rw[Z0];refine AV a _ _ (λe c H' h=>?_) d;cases e<;>grind [Yk,Zf,qkN]
end
section
variable {P:Program}{im:List Nat}{E:CO}{S:Nat->Spc}
theorem qbA{f:Nat}{fn:Func}{code:Code}{cc:CC}{rs:List aj}{A:PT}(hS:∀f,Tri dq P f (S f).pt)(hmix:P.follows .mixedOrders=true)(hf:P.funcs[f]? =some fn)(hb:fn.body=some code)(hce:dc P f){N:Nat}(hN:fn.ntmps=N)
 (hcc:aI P im N code=some (bP cc)) (hrs:fn.results.toList.mapM (hZ P)=some rs)
 (hA:∀ (ds:List D) (H:ab) (d:Nat) (K:D->ab->Prop),A d ds H K->ds.length<=N/\
   ∃ (Y:List D) (M:ab) (ι:Nat->Nat),LeL ds Y/\(∀i r,M i=some r->H (ι i)=some r)/\(∀i j r s,M i=some r->M j=some s->ι i=ι j->i=j)/\
    ∃Q:D->ab->Prop,vc S cc (vE rs Q) (dR Y) M/\∀r H',Q r H'->∃(r':D) (H2 Hf Hc:ab) (κ:Nat->Option Nat),HWk H' H2/\FrzTo Hf r r'/\(∀j q,Hf j=some q->H2 j=some q/\∀i,κ i≠some j)/\K r' Hc/\
     (∀i s,Hc i=some s->match κ i with|some j=>H2 j=some s|none=>H i=some s/\∀k q,M k=some q->ι k≠i)/\
     (∀i j k s q,Hc i=some s->Hc j=some q->κ i=some k->κ j=some k->i=j)):Tri dq P f A:=by
 intro O tp w vs ds H d K hO htl u hlen hargs hAK;refine⟨hce,?_⟩;obtain⟨hdN,Y,M,ι,hle,C,hinj,Q,hv,hQ⟩:=hA ds H d K hAK
 let W:Nat->Prop:=λi=>∃k q,M k=some q/\ι k=i
 let rest:Nat->Prop:=λb=>∃i r,H i=some r/\ ¬W i/\r.blk=some b
 let E:CO:={ O:=λb=>O b\/rest b,tp0:=tp,w0:=w,own0:=bA M,N:=N,dq:=dq }
 have y:∀b,bA M b->bA H b:=λb ⟨i,r,h1,h2⟩=>⟨ι i,r,C i r h1,h2⟩
 have Z:∀b,rest b->b<w.heap.size:=λb ⟨i,r,h1,_,h2⟩=>(u.ok i r h1).lt h2
 have I:∀b,rest b->¬bA M b:=λb ⟨i,r,h1,h2,h3⟩ ⟨j,s,h4,h5⟩=>h2 ⟨j,s,h4,(u.dis i (ι j) r s b h1 (C j s h4) h3 h5).symm⟩
 have himm:∀b,aR O tp H w b->aR E.O tp M w b:=λb hb=>⟨hb.1,λh=>h.elim hb.2.1 (λ⟨i,r,h1,_,h2⟩=>hb.2.2.2 ⟨i,r,h1,h2⟩),hb.2.2.1,λh=>hb.2.2.2 (y b h)⟩
 have hmove:∀x e,R tp (aR O tp H w) w x e->R tp (aR E.O tp M w) w x e:=λx e hr=>hr.mono (λ_ h=>h) (λb hb=>⟨himm b hb,rfl⟩) (λb _=> .refl _ _)
 have hstw:StW E tp M w:=by
  refine⟨λb hb=>hb.elim (hO b) (Z b),λb h=>h,λb h=> .inl h,⟨htl.1,htl.2.mono (λ_ h=>h) y⟩, .refl _ _ _,λb hb=> .inl hb,⟨λi j r s b h1 h2 h3 h4=>?_,λi r b h1 h2=>⟨λh=>?_,?_⟩,λi r h1=>?_⟩⟩
  ·exact hinj i j r s h1 h2 (u.dis _ _ r s b (C i r h1) (C j s h2) h3 h4)
  ·rcases h with h|h
   ·exact(u.out _ r b (C i r h1) h2).1 h
   ·exact I b h ⟨i,r,h1,h2⟩
  ·exact(u.out _ r b (C i r h1) h2).2
  ·exact(u.ok _ r (C i r h1)).conv hmove (λ_ _=>rfl)
 have hst:St E (dR Y) M { tmps:=vs.toArray++Array.replicate (fn.ntmps -vs.toArray.size) undef,defers:=[] } w:=by
  refine⟨rfl,?_,tp,hstw,λt=>?_⟩
  ·show(vs.toArray++Array.replicate (fn.ntmps -vs.toArray.size) undef).size=N;simp;omega
  ·unfold dR;cases hd:Y[t]? with
   |none=>exact .any _
   | some e'=>
     have hlt:t<vs.length:=by rw[hlen,hle.1];exact(qFB.1 hd).1
     have hlt':t<ds.length:=by rw[<-hlen];exact hlt
     have hg:(vs.toArray++Array.replicate (fn.ntmps -vs.toArray.size) undef).getD t undef=vs[t]:=by
      rw[qGu,qGv (by simpa using hlt)];simp[hlt]
     simp only[qGp,hg];have he:=qFC hlt';exact(hle.2 t _ e' he hd).R (H:=bS) (λi r h=>by cases h) (λ_ h=>h) (λi r b h=>by cases h) (hmove _ _ (hargs t _ _ (by simp[hlt]) he))
 have hwp:=Ae hS hmix cc code (by exact hcc) _ _ _ _ w hst hv;refine calls_of_wp hf hb (qG6 ?_ hwp);have fin:∀a' w' J H',St E J H' a' w'->(Bm rs J H' λds=>Q (lC ds) H')->
  a'.defers=[]/\∃v,(results fn a'.tmps).run P w'= .ok v w'/\qaT dq O tp H w K (.returned v) w':=by
  intro a' w' J H' hst' hres;obtain⟨hd',hN',U,hw',hr'⟩:=hst';obtain⟨v,r0,hrun,hR,hq⟩:=tD (K:=λr=>Q r H') hrs hr' hw'.sat.ok hres;obtain⟨r,H2,Hf,Hc,κ,hW,hfz,hHf,hK,hκ,hκi⟩:=hQ r0 H' hq;obtain⟨p,mv2⟩:=hW _ _ _ hw';refine⟨hd',v,hrun,v,r,Hc,U,rfl,hK,p.tpx,p.tpn,p.tpl.1,?_,?_,?_,?_⟩
  ·-- the step
   have hs:=p.step;exact⟨hs.os,hs.tape,hs.output,hs.size,λb hb ho ht=>hs.same b hb (λh=>ho (y b h)) ht,hs.tapes,hs.drawn⟩
  all_goals
   have L:∀i s,Hc i=some s->(∃j,κ i=some j/\H2 j=some s)\/(κ i=none/\H i=some s/\ ¬W i):=λi s hi=>by
    have:=hκ i s hi;cases hk:κ i with
    |some j=>rw[hk]at this;exact .inl ⟨j,rfl,this⟩
    |none=>rw[hk]at this;exact .inr ⟨rfl,this.1,λ⟨k,q,h1,h2⟩=>this.2 k q h1 h2⟩
  ·intro b ⟨i,s,h1,h2⟩;rcases L i s h1 with⟨j,_,h3⟩|⟨_,h3,_⟩
   ·rcases p.loc b ⟨j,s,h3,h2⟩with h4|h4
    ·exact .inl (y b h4)
    ·exact .inr h4
   ·exact .inl ⟨i,s,h3,h2⟩
  all_goals
   have hownc:∀b,bA Hc b->bA H2 b\/rest b:=λb ⟨i,s,h1,h2⟩=>by
    rcases L i s h1 with⟨j,_,h3⟩|⟨_,h3,h4⟩
    ·exact .inl ⟨j,s,h3,h2⟩
    ·exact .inr ⟨i,s,h3,h4,h2⟩
   have himmc:∀b,aR E.O U H2 w' b->aR O U Hc w' b:=λb hb=>⟨hb.1,λh=>hb.2.1 (.inl h),hb.2.2.1,λh=>by
    rcases hownc b h with h|h
    ·exact hb.2.2.2 h
    ·exact hb.2.1 (.inr h)⟩
   have hmovec:∀x e,R U (aR E.O U H2 w') w' x e->R U (aR O U Hc w') w' x e:=λx e hr=>hr.mono (λ_ h=>h) (λb hb=>⟨himmc b hb,rfl⟩) (λb _=> .refl _ _)
  ·refine⟨λi j s q b h1 h2 h3 h4=>?_,λi s b h1 h2=>?_,λi s h1=>?_⟩
   ·rcases L i s h1 with⟨i',e1,F⟩|⟨e1,F,p1⟩
    ·rcases L j q h2 with⟨j',e2,k2⟩|⟨e2,k2,p2⟩
     ·have:=p.sat.dis i' j' s q b F k2 h3 h4;subst this;exact hκi i j i' s q h1 h2 e1 e2
     ·exact absurd (Or.inr ⟨j,q,k2,p2,h4⟩) (p.sat.out i' s b F h3).1
    ·rcases L j q h2 with⟨j',e2,k2⟩|⟨e2,k2,p2⟩
     ·exact absurd (Or.inr ⟨i,s,F,p1,h3⟩) (p.sat.out j' q b k2 h4).1
     ·exact u.dis i j s q b F k2 h3 h4
   ·rcases L i s h1 with⟨i',e1,F⟩|⟨e1,F,p1⟩
    ·have:=p.sat.out i' s b F h2;exact⟨λh=>this.1 (.inl h),this.2⟩
    ·have h3:=u.out i s b F h2;refine⟨h3.1,λh=>?_⟩;rcases p.tpn b h with h4|h4
     ·exact h3.2 h4
     ·have:=(u.ok i s F).lt h2;have h4':w.heap.size<=b:=h4;omega
   ·rcases L i s h1 with⟨i',e1,F⟩|⟨e1,F,p1⟩
    ·exact(p.sat.ok i' s F).conv hmovec (λ_ _=>rfl)
    ·-- a resource that was not handed in is as it was
     have hs:=p.step;have hsame:∀b,b<w.heap.size->¬bA M b->¬tp b->w'.heap[b]? =w.heap[b]?:=hs.same;refine(u.ok i s F).conv (λx e hr=>?_) (λb hb=>hsame b ((u.ok i s F).lt hb) (I b ⟨i,s,F,p1,hb⟩) (u.out i s b F hb).2);refine hr.mono p.tpx (λb hb=>?_) hs.tapes;have h0:¬bA M b:=λh=>hb.2.2.2 (y b h)
     have hsz:w.heap.size<=w'.heap.size:=hs.size;have hbl:b<w.heap.size:=hb.1;refine⟨⟨by omega,hb.2.1,λh=>?_,λh=>?_⟩,hsame b hb.1 h0 hb.2.2.1⟩
     ·rcases p.tpn b h with h4|h4
      ·exact hb.2.2.1 h4
      ·have h4':w.heap.size<=b:=h4;omega
     ·rcases hownc b h with h|h
      ·rcases p.loc b h with h4|h4
       ·exact h0 h4
       ·have h4':w.heap.size<=b:=h4;omega
      ·obtain⟨j,q,h5,_,h6⟩:=h;exact hb.2.2.2 ⟨j,q,h5,h6⟩
  ·refine hfz.R (H:=bS) (λi q hi=>p.sat.ok i q (hHf i q hi).1) himmc (λi q b hi hb=>?_) (mv2 _ _ hR);obtain⟨hi',hne⟩:=hHf i q hi;have ho:=p.sat.out i q b hi' hb;refine⟨(p.sat.ok i q hi').lt hb,λh=>ho.1 (.inl h),ho.2,λ⟨j,s,h1,h2⟩=>?_⟩;rcases L j s h1 with⟨j',e1,F⟩|⟨e1,F,p1⟩
   ·have:=p.sat.dis i j' q s b hi' F hb h2;subst this;exact hne j e1
   ·exact ho.1 (.inr ⟨j,s,F,p1,h2⟩)
 intro e a' w' hp;cases e with
 | normal=>
   obtain⟨J,H',hs,hk⟩:=hp;exact fin a' w' J H' hs hk
 | ret=>
   obtain⟨J,H',hs,hk⟩:=hp;exact fin a' w' J H' hs hk
 | exit i=>
   obtain⟨J,H',hs,hk⟩:=hp;exact hk.elim
 |goto l=>exact hp.elim
 |panic c=>exact hp.elim
 |outgrown=>exact hp.elim
end
end
section
open Cod (enc dec)
variable {S S0:Nat->Spc}
def Py(x n:Int)(h:1<=n):0<=KU x n/\KU x n<n:=by
 unfold KU;rw[if_neg (by omega)];have h1:=Int.tmod_lt_of_pos x (show 0<n by omega);have h2: -n<x.tmod n:=by
  have h3:=Int.natAbs_tmod x n;have h4:x.natAbs % n.natAbs<n.natAbs:=qG3 _ (by omega);omega
 split<;>omega
def qte:CC:= .reg [
 .op (some 4) none (.mv (.const (.int .i64 0)))]
def qrw:CC:= .seq (.regd [
 .op (some 5) none (.mv (.tmp 0)),
 .op (some 6) none (.nilck (.tmp 5)),
 .op (some 7) none (.faddr 1 (.tmp 6)),
 .op (some 8) none (.load false 1 (.tmp 7)),
 .op (some 9) none (.mv (.tmp 0)),
 .op (some 10) none (.nilck (.tmp 9)),
 .op (some 11) none (.faddr 0 (.tmp 10)),
 .op (some 12) none (.load false 1 (.tmp 11)),
 .op (some 13) none (.len (.tmp 12))] [
 .op (some 14) none (.cmp .geq (.tmp 8) (.tmp 13))]) (.ite (.tmp 14) (.seq (.reg [
  .op (some 4) none (.mv (.const (.int .i64 0)))]) .ret) .skip)
def qpH:CC:= .reg [
 .op (some 15) none (.mv (.tmp 0)),
 .op (some 16) none (.nilck (.tmp 15)),
 .op (some 17) none (.faddr 1 (.tmp 16)),
 .op (some 18) none (.load false 1 (.tmp 17)),
 .op (some 19) none (.arith .add (.tmp 18) (.const (.int .i64 1))),
 .op (some 20) none (.nilck (.tmp 15)),
 .op (some 21) none (.faddr 1 (.tmp 20)),
 .op none none (.store none 1 (.tmp 21) (.tmp 19))]
def qtd:CC:= .seq (.regd [
 .op (some 22) none (.mv (.tmp 0)),
 .op (some 23) none (.nilck (.tmp 22)),
 .op (some 24) none (.faddr 0 (.tmp 23)),
 .op (some 25) none (.load false 1 (.tmp 24)),
 .op (some 26) none (.mv (.tmp 0)),
 .op (some 27) none (.nilck (.tmp 26)),
 .op (some 28) none (.faddr 1 (.tmp 27)),
 .op (some 29) none (.load false 1 (.tmp 28)),
 .op (some 30) none (.arith .sub (.tmp 29) (.const (.int .i64 1))),
 .op (some 31) none (.iaddr 1 (.tmp 25) (.tmp 30)),
 .op (some 32) none (.load false 1 (.tmp 31)),
 .op (some 33) none (.mv (.tmp 1))] [
 .op (some 34) none (.call yx [(.tmp 32),(.tmp 33)]),
 .op (some 4) none (.mv (.tmp 34))]) .ret
def qjr:bP xO= .seq qte (.seq qrw (.seq qpH qtd)):=rfl
def quO:bP qte=qte:=rfl
def quN:bP qrw=qrw:=rfl
def quM:bP qpH=qpH:=rfl
def quL:bP qtd=qtd:=rfl
def qpG(b:Nat)(s:Value)(i n:Int):Ex->Sg->ab->Prop:=λe a H=>match e with
 | .norm=>a 0= .bptr 0 b 0/\a 1= .v (.int .i64 n)/\H 0=some (.box b [.v s, .v (.int .i64 (i+1))])/\i<slen s
 | .ret=>a 4= .v (.int .i64 0)/\H 0=some (.box b [.v s, .v (.int .i64 i)])
 | .ex _=>False
@[simp ↓] theorem qD9(b:Nat)(s:Value)(i n:Int)(a:Sg)(H:ab):qpG b s i n .norm a H=(a 0= .bptr 0 b 0/\a 1= .v (.int .i64 n)/\H 0=some (.box b [.v s, .v (.int .i64 (i+1))])/\i<slen s):=i' rfl
@[simp ↓] theorem qD8(b:Nat)(s:Value)(i n:Int)(a:Sg)(H:ab):qpG b s i n .ret a H=(a 4= .v (.int .i64 0)/\H 0=some (.box b [.v s, .v (.int .i64 i)])):=i' rfl
def qnG(b:Nat)(a:Option Addr)(len cap:Nat)(i n:Int)(h0:0<=i)(hl:(len:Int)<=9223372036854775807):vc S (.seq qte (.seq qrw qpH)) (qpG b (.slice a len cap) i n) (dR [.bptr 0 b 0, .v (.int .i64 n)]) (ai bS 0 (some (.box b [.v (.slice a len cap), .v (.int .i64 i)]))):=by
 simp[qte,qrw,qpH,slen];intro h;exact⟨by simp only[InR];omega,h⟩
def qD7(n:Int):Ex->Sg->ab->Prop:=λe a H=>match e with
 | .ret=>∃y,a 4= .v (.int .i64 y)/\(n< 1/\y=0\/1<=n/\0<=y/\y<n)
 | _=>False
@[simp ↓] theorem qD6(n:Int)(a:Sg)(H:ab):qD7 n .ret a H=(∃y,a 4= .v (.int .i64 y)/\(n< 1/\y=0\/1<=n/\0<=y/\y<n)):=i' rfl
def qnF(hm:S yx=s_m_Mod)(L:List Int)(i n:Int)(h0:0<=i)(hi:i<L.length)(hn:n<=1000000000)(hl:(L.length:Int)<=9223372036854775807):vc S qtd (qD7 n) (dR [.cptr [.list 1 (L.map enc), .v (.int .i64 (i+1))] 0, .v (.int .i64 n)]) bS:=by
 obtain⟨x,b⟩:=aQ (l:=L) (k:=i.toNat) (by omega);simp[qtd,hm];refine⟨by simp only[InR];omega,h0,hi,λa _=>⟨hn,?_⟩⟩;rcases Int.lt_or_le n 1 with h|h
 ·exact .inl ⟨h,by simp[KU,h]⟩
 ·exact .inr ⟨h,Py a n h⟩
end
section
open Cod (enc dec)
variable {dq:Prop}
def PJ{tp I p r:Nat->Prop}{w w':World}{s:Value}{es:List D}(q:∀d∈es,∃n,d= .v (.int .i64 n))(h:R tp I w s (.list 1 es))(hI:∀c,I c->r c/\w'.heap[c]? =w.heap[c]?):R p r w' s (.list 1 es):=by
 cases h with
 |nolist a cap _=>exact .nolist _ _ _
 | list b off cap n es f hb hc hm hz hn hcell h1 h2=>
   refine .list b off cap _ es f (hI b hb).1 hc hm (λh=>absurd rfl h) hn (λk c hk=>by rw[qHm (w:=w) (hI b hb).2];exact hcell k c hk) h1 (λk c hk=>?_);have j:=qFF hk;simp only[bp,qG0]at j;obtain⟨d,t,l⟩:=j;obtain⟨n,rfl⟩:=q d t;simp[D.cells]at l;subst l;have:=h2 k _ hk;generalize f k=y at this ⊢;cases this with
   |v _ a1 a2=>exact .v _ a1 a2
def Ql{P:Program}{im:List Nat}{N:Nat}{code:Code}{a b:CC}(h:aI P im N code=some (.seq a b)):∃x y,code= .seq x y/\aI P im N x=some a/\aI P im N y=some b:=by
 rcases bz h with⟨h,_⟩|⟨_,_,_,_,h,_⟩|⟨_,_,_,_,_,h⟩|⟨c,b',x,y,h1,h2,h3,h4⟩|⟨_,_,_,_,_,_,h,_⟩|⟨_,_,_,_,h,_⟩|⟨_,_,_,h,_⟩|⟨_,_,h⟩|⟨_,h⟩ <;>try (simp at h;done)
 cases h2;exact⟨c,b',h1,h3,h4⟩
abbrev s_m_Next:Spc:=aG (aT (a1 Int)) (λx=>x.2<=1000000000) (enc (X:=Int)) (λx y=>x.2< 1/\y=0\/1<=x.2/\0<=y/\y<x.2)
section
variable {P:Program}{S:Nat->Spc}{f:Nat}{im:List Nat}{N:Nat}
theorem qhK(hS:∀f,Tri dq P f (S f).pt)(hm:S yx=s_m_Mod)(h:zY P f im xO DE N)(hN:2<=N):Tri dq P f s_m_Next.pt:=by
 obtain⟨zq,enter,fn,code,h1,h2,h3,h4,h5⟩:=h;subst h3;rw[qjr]at h4;obtain⟨x0,y0,rfl,hc0,h4⟩:=Ql h4;obtain⟨xA,yA,rfl,hcA,h4⟩:=Ql h4;obtain⟨xB,xC,rfl,hcB,hcC⟩:=Ql h4;intro O tp w vs ds H d K hO htl Q hlen U hA;refine⟨enter,calls_of_wp h1 h2 ?_⟩;simp only[s_m_Next,mO]at hA;cases hd:(aT (a1 Int)).dec ds with
 |none=>rw[hd]at hA;exact hA.elim
 |some x=>
 rw[hd]at hA;obtain⟨L,n⟩:=x;obtain⟨hp,hK⟩:=hA;have hl:=(aT (a1 Int)).le ds (L,n) hd;have hl1:ds.length=2:=hl.1
 match ds,vs,hl,hl1,hlen,U with
 | [d0,d1], [v0,v1],hl,_,_,U=>
 have e0:d0= .tape L:=by
  have:=hl.2 0 d0 (.tape L) rfl rfl;cases this;rfl
 have e1:d1= .v (.int .i64 n):=by
  have:=hl.2 1 d1 (.v (.int .i64 n)) rfl rfl;cases this;rfl
 subst e0;subst e1;have r1:=(U 1 v1 _ rfl rfl).inv_v;subst r1;have r0:=U 0 v0 _ rfl rfl;cases r0 with
 |tape b _ s i el hb hh g0 g1 gs hR=>
 obtain⟨a,len,cap,rfl⟩:∃a len cap,s= .slice a len cap:=by
  generalize L.map (λn=>D.v (.int .i64 n))=es at hR;cases hR<;>exact⟨_,_,_,rfl⟩
 have hlen:(len:Int)<=9223372036854775807:=by
  generalize L.map (λn=>D.v (.int .i64 n))=es at hR;cases hR with
  |nolist=>simp
  |list b off cap n es f hI hc hm=>simp only[maxLen]at hm;omega
 have hLl:len=L.length:=gs;have hbl:=htl.1 b hb
 let O2:Nat->Prop:=λx=>(O x\/bA H x)/\x≠b
 let tp2:Nat->Prop:=λx=>tp x/\x≠b
 let E2:CO:={ O:=O2,tp0:=tp2,w0:=w,own0:=λx=>x=b,N:=fn.ntmps,dq:=dq }
 let H2:ab:=ai bS 0 (some (.box b [.v (.slice a len cap), .v (.int .i64 i)]))
 have hownlt:∀c,bA H c->c<w.heap.size:=λc ⟨j,r,C,Y⟩=>(Q.ok j r C).lt Y
 have h2:∀j r,H2 j=some r->j=0/\r= .box b [.v (.slice a len cap), .v (.int .i64 i)]:=λj r hj=>by
  by_cases e:j=0
  ·subst e;simp only[H2,ai,if_true]at hj;cases hj;exact⟨rfl,rfl⟩
  ·simp[H2,ai,e,bS]at hj
 have hst:St E2 (dR [.bptr 0 b 0, .v (.int .i64 n)]) H2 { tmps:= #[.pointer (some ⟨b,0,none⟩), .int .i64 n] ++Array.replicate (fn.ntmps -2) undef,defers:=[] } w:=by
  refine⟨rfl,?_,tp2,⟨λc hc=>hc.1.elim (hO c) (hownlt c),λc hc=>hc,λc hc=> .inl hc,⟨λc hc=>htl.1 c hc.1,λp hp=>⟨λh=>(htl.2 p hp).1 h.1,λh=>(htl.2 p hp).1 (h ▸hb),(htl.2 p hp).2.2⟩⟩, .refl _ _ _,λc ⟨j,r,C,Y⟩=>?_,⟨λj k r q c C Y k3 k4=>?_,λj r c C Y=>?_,λj r C=>?_⟩⟩,λt=>?_⟩
  ·show(_:Array Value).size=fn.ntmps;simp;omega
  ·obtain⟨_,rfl⟩:=h2 j r C;cases Y;exact .inl rfl
  ·rw[(h2 j r C).1,(h2 k q Y).1]
  ·obtain⟨_,rfl⟩:=h2 j r C;cases Y;exact⟨λh=>h.2 rfl,λh=>h.2 rfl⟩
  ·obtain⟨_,rfl⟩:=h2 j r C;refine⟨_,el,hh,rfl,λk y c hy hc=>?_⟩;rcases k with _|_|k
   ·simp at hy hc;subst hy;subst hc;exact⟨rfl, .v _ rfl (λs hs=>by cases hs)⟩
   ·simp at hy hc;subst hy;subst hc;exact⟨rfl, .v _ rfl (λs hs=>by cases hs)⟩
   ·simp at hy
  ·have q0:(#[Value.pointer (some ⟨b,0,none⟩), .int .i64 n] ++Array.replicate (fn.ntmps -2) undef).getD 0 undef=Value.pointer (some ⟨b,0,none⟩):=by
    rw[qGu,qGv (by simp)];rfl
   have q1:(#[Value.pointer (some ⟨b,0,none⟩), .int .i64 n] ++Array.replicate (fn.ntmps -2) undef).getD 1 undef=Value.int .i64 n:=by
    rw[qGu,qGv (by simp)];rfl
   rcases t with _|_|t
   ·show R _ _ _ (Array.getD _ 0 undef) _;rw[q0];exact .bptr _ _ _
   ·show R _ _ _ (Array.getD _ 1 undef) _;rw[q1];exact .v _ rfl (λs hs=>by cases hs)
   ·exact .any _
 have fin:∀(Z:World) (j y:Int) (W:Nat),Z.os=w.os->Z.tape=w.tape->Z.output=w.output->w.heap.size<=Z.heap.size->(∀c,c<w.heap.size->¬tp c->Z.heap[c]? =w.heap[c]?)->
  (∀c,tp c->c≠b->TapeStep w Z c)->Z.heap[b]? =some (.cells #[.slice a len cap, .int .i64 j] W (0,0))->0<=j->j<=len->(dq->w.drawn<=Z.drawn)->
  (n< 1/\y=0\/1<=n/\0<=y/\y<n)->qaT dq O tp H w K (.returned (.int .i64 y)) Z:=by
  intro Z j y W s1 s2 s3 s4 s5 s6 s7 s8 s9 s11 s10;have htapes:∀c,tp c->TapeStep w Z c:=λc hc=>by
   by_cases e:c=b
   ·subst e;intro s' i' el0 hh' _ _;rw[hh]at hh';cases hh';exact⟨j,W,s7,s8,s9⟩
   ·exact s6 c hc e
  refine⟨_, .v (.int .i64 y),H,tp,rfl,hK y s10,λc hc=>hc,λc hc=> .inl hc,λc hc=>qFS (htl.1 c hc) s4,⟨s1,s2,s3,s4,λc hc _ ht=>s5 c hc ht,htapes,s11⟩,λc hc=> .inl hc,
   ⟨Q.dis,Q.out,λk r hk=>(Q.ok k r hk).conv (λx d hr=>hr.mono (λ_ h=>h) (λc hc=>⟨⟨qFS hc.1 s4,hc.2.1,hc.2.2.1,hc.2.2.2⟩,s5 c hc.1 hc.2.2.1⟩) htapes) (λc hc=>s5 c ((Q.ok k r hk).lt hc) (Q.out k r c hk hc).2)⟩, .v _ rfl (λs hs=>by cases hs)⟩
 have hv:=qnG (S:=S) b a len cap i n g0 hlen;have cells2:∀(tp':Nat->Prop) (H':ab) (w':World) (j:Int),StW E2 tp' H' w'->H' 0=some (.box b [.v (.slice a len cap), .v (.int .i64 j)])->∃W,w'.heap[b]? =some (.cells #[.slice a len cap, .int .i64 j] W (0,0)):=by
  intro tp' H' w' j hw hH;obtain⟨xs,W,C,Y,k3⟩:=hw.sat.ok 0 _ hH;refine⟨W,?_⟩;rw[C];obtain⟨l⟩:=xs
  match l,Y,k3 with
  | [x,y],_,k3=>
    have a1:=(k3 0 x _ rfl rfl).2.inv_v;have a2:=(k3 1 y _ rfl rfl).2.inv_v;rw[a1,a2]
 have hret:∀(a':Act) (w':World) (σ':Sg) (H':ab),St E2 σ' H' a' w'->qpG b (.slice a len cap) i n .ret σ' H'->a'.defers=[]/\∃v,(results fn a'.tmps).run P w'= .ok v w'/\qaT dq O tp H w K (.returned v) w':=by
  rintro a' w' σ' H' ⟨hd',hN',tp',hw',hr'⟩ ⟨C,Y⟩;obtain⟨v,r0,hrun,hRv,hq⟩:=tD (H:=H') (K:=λr=>r= .v (.int .i64 0)) h5 hr' hw'.sat.ok C;subst hq;have:=hRv.inv_v;subst this;obtain⟨W,k3⟩:=cells2 tp' H' w' i hw' Y;have st:=hw'.step;refine⟨hd',_,hrun,fin w' i 0 W st.os st.tape st.output st.size (λc hc ht=>st.same c hc (λe=>ht (e ▸hb)) (λh=>ht h.1)) (λc hc hcb=>st.tapes c ⟨hc,hcb⟩) k3 g0 g1 st.drawn ?_⟩;rcases Int.lt_or_le n 1 with h|h
  ·exact .inl ⟨h,rfl⟩
  ·exact .inr ⟨h,by omega,by omega⟩
 have htail:∀(a':Act) (w':World) (σ':Sg) (H':ab),St E2 σ' H' a' w'->qpG b (.slice a len cap) i n .norm σ' H'->xC.wp P (bodyPost P fn (qaT dq O tp H w K)) a' w':=by
  rintro a1 J M H1 ⟨hd1,hN1,F,hw1,hr1⟩ ⟨C,Y,k3,k4⟩;obtain⟨el1,k5⟩:=cells2 F H1 J (i+1) hw1 k3;have A:=hw1.step;have hsz1:w.heap.size<=J.heap.size:=A.size;have same1:∀c,c<w.heap.size->¬tp c->J.heap[c]? =w.heap[c]?:=λc hc ht=>A.same c hc (λe=>ht (e ▸hb)) (λh=>ht h.1)
  have tp1o:∀c,c<w.heap.size->F c->tp2 c:=λc hc h=>(hw1.tpn c h).elim id (λh=>by
   have h:w.heap.size<=c:=h;omega)
  have hb1:¬F b:=λh=>(tp1o b hbl h).2 rfl
  let E3:CO:={ O:=O2,tp0:=F,w0:=J,own0:=λ_=>False,N:=fn.ntmps,dq:=dq }
  have himm:∀c,aR O tp H w c->aR O2 F bS J c/\J.heap[c]? =w.heap[c]?:=λc hc=>⟨⟨qFS hc.1 hsz1,λh=>h.1.elim hc.2.1 hc.2.2.2,λh=>hc.2.2.1 (tp1o c hc.1 h).1,λ⟨j,r,h,_⟩=>by simp[bS]at h⟩,same1 c hc.1 hc.2.2.1⟩
  have hbi:aR O2 F bS J b:=⟨qFS hbl hsz1,λh=>h.2 rfl,hb1,λ⟨j,r,h,_⟩=>by simp[bS]at h⟩
  have hRs:R F (aR O2 F bS J) J (.slice a len cap) (.list 1 (L.map enc)):=PJ (es:=L.map λn=>D.v (.int .i64 n)) (λd hd=>by simp at hd;obtain⟨n,_,rfl⟩:=hd;exact⟨n,rfl⟩) hR himm;have st3:St E3 (dR [.cptr [.list 1 (L.map enc), .v (.int .i64 (i+1))] 0, .v (.int .i64 n)]) bS a1 J:=by
   refine⟨hd1,hN1,F,⟨λc hc=>qFS (hc.1.elim (hO c) (hownlt c)) hsz1,λc hc=>hc,λc hc=> .inl hc,⟨hw1.tpl.1,hw1.tpg.2.mono (λ_ h=>h) (λb h=>h.elim)⟩, .refl _ _ _,λc ⟨j,r,C,Y⟩=>by simp[bS]at C,⟨λj k r q c C Y k3 k4=>by simp[bS]at C,λj r c C Y=>by simp[bS]at C,λj r C=>by simp[bS]at C⟩⟩,λt=>?_⟩;rcases t with _|_|t
   ·have r0:=hr1 0;rw[C]at r0;generalize a1.tmps.getD 0 undef=v0 at r0 ⊢;cases r0;obtain⟨f,q1,q2,q3⟩:=tq (tp:=F) (I:=aR O2 F bS J) (w:=J) (cells:=[.list 1 (L.map enc), .v (.int .i64 (i+1))]) k5 rfl (by
     intro k y c hy hc;rcases k with _|_|k
     ·simp at hy hc;subst hy;subst hc;exact⟨rfl,by simpa using hRs⟩
     ·simp at hy hc;subst hy;subst hc;exact⟨rfl, .v _ rfl (λs hs=>by cases hs)⟩
     ·simp at hy)
    have:=Gv.R.cptr (tp:=F) (I:=aR O2 F bS J) b 0 [.list 1 (L.map enc), .v (.int .i64 (i+1))] 0 f hbi (λ_=>⟨_,_,k5⟩) q1 q2 q3;simpa [dR]using this
   ·have r0:=hr1 1;rw[Y]at r0;have:=r0.inv_v;show R _ _ _ _ (.v (.int .i64 n));rw[this];exact .v _ rfl (λs hs=>by cases hs)
   ·exact .any _
  have hv3:=qnF (S:=S) hm L i n g0 (by have:i<(len:Int):=k4;omega) hp (by omega);refine qG6 ?_ (Ae (E:=E3) hS zq qtd xC (by rw[quL];exact hcC) _ _ _ _ _ st3 hv3);intro e a2 Z hp2;cases e with
  | ret=>
    obtain⟨σ2,H2',⟨hd2,hN2,tp2',hw2,hr2⟩,y,k6,k7⟩:=hp2;obtain⟨v,r0,hrun,hRv,hq⟩:=tD (H:=H2') (K:=λr=>r= .v (.int .i64 y)) h5 hr2 hw2.sat.ok k6;subst hq;have:=hRv.inv_v;subst this;have st2:=hw2.step;have hsz2:J.heap.size<=Z.heap.size:=st2.size;have same2:∀c,c<J.heap.size->¬F c->Z.heap[c]? =J.heap[c]?:=λc hc ht=>st2.same c hc (λh=>h) ht
    refine⟨hd2,_,hrun,fin Z (i+1) y el1 (st2.os.trans A.os) (st2.tape.trans A.tape) (st2.output.trans A.output) (qGg hsz1 hsz2) (λc hc ht=>?_) (λc hc hcb=>(A.tapes c ⟨hc,hcb⟩).trans (st2.tapes c (hw1.tpx c ⟨hc,hcb⟩))) ?_ (by omega) (by have:i<(len:Int):=k4;omega) (λq=>qGg (A.drawn q) (st2.drawn q)) k7⟩
    ·rw[same2 c (by omega) (λh=>ht (tp1o c hc h).1),same1 c hc ht]
    ·rw[same2 b (by omega) hb1,k5]
  |normal=>obtain⟨σ2,H2',_,k⟩:=hp2;exact k.elim
  |exit j=>obtain⟨σ2,H2',_,k⟩:=hp2;exact k.elim
  |goto l=>exact hp2.elim
  |panic c=>exact hp2.elim
  |outgrown=>exact hp2.elim
 refine wp_seq (qG6 ?_ (Ae (E:=E2) hS zq qte x0 (by rw[quO];exact hc0) (Yk S (.seq qrw qpH) (qpG b (.slice a len cap) i n)) _ _ _ _ hst hv));intro e a1 J u;cases e with
 | normal=>
   obtain⟨M,H1,A,C⟩:=u;refine wp_seq (qG6 ?_ (Ae (E:=E2) hS zq qrw xA (by rw[quN];exact hcA) (Yk S qpH (qpG b (.slice a len cap) i n)) _ _ _ _ A C));intro e a1 J u;cases e with
   | normal=>
     obtain⟨M,H1,A,C⟩:=u;refine wp_seq (qG6 ?_ (Ae (E:=E2) hS zq qpH xB (by rw[quM];exact hcB) (qpG b (.slice a len cap) i n) _ _ _ _ A C));intro e a1 J u;cases e with
     |normal=>obtain⟨M,H1,A,C⟩:=u;exact htail a1 J M H1 A C
     |ret=>obtain⟨M,H1,A,C⟩:=u;exact hret a1 J M H1 A C
     |exit j=>obtain⟨σ2,H2',_,k⟩:=u;exact k.elim
     |goto l=>exact u.elim
     |panic c=>exact u.elim
     |outgrown=>exact u.elim
   |ret=>obtain⟨M,H1,A,C⟩:=u;exact hret a1 J M H1 A C
   |exit j=>obtain⟨σ2,H2',_,k⟩:=u;exact k.elim
   |goto l=>exact u.elim
   |panic c=>exact u.elim
   |outgrown=>exact u.elim
 |ret=>obtain⟨M,H1,A,C⟩:=u;exact hret a1 J M H1 A C
 |exit j=>obtain⟨σ2,H2',_,k⟩:=u;exact k.elim
 |goto l=>exact u.elim
 |panic c=>exact u.elim
 |outgrown=>exact u.elim
end
def H8(b:Nat)(L:List Int):Res:= .box b [.list 1 (L.map enc), .v (.int .i64 0)]
def qvs:PT:=λd ds H K=>∃l,(a1 (List Int)).dec ds=some l/\∀b L,K (.bptr d b 0) (ai H d (some (H8 b L)))
def qlT(cc:CC)(rs:List aj)(S:Nat->Spc):Prop:=
 ∀l:List Int,vc S cc (vE rs λr H'=>∃j b L,r= .bptr j b 0/\H' j=some (H8 b L)) (dR [enc l]) bS
section
variable {P:Program}{S:Nat->Spc}{f:Nat}{im:List Nat}{cc:CC}{rs:List aj}{N:Nat}
theorem qbx(p:∀f,Tri dq P f (S f).pt)(h:zY P f im cc rs N)(t:1<=N)(u:qlT cc rs S):Tri dq P f qvs:=by
 obtain⟨zq,enter,fn,code,h1,h2,h3,h4,h5⟩:=h;refine pw p zq h1 h2 enter h3 h4 h5 ?_;rintro ds H d K ⟨l,w,x⟩;have hl:=(a1 (List Int)).le ds l w;refine⟨by rw[hl.1];exact t,_,bS,λ_=>0,hl,λi r h=>by simp[bS]at h,λi j r s h=>by simp[bS]at h,_,u l,?_⟩;rintro r H' ⟨j,b,L,rfl,y⟩;refine⟨.bptr d b 0,bS,ai H d (some (H8 b L)),λi=>if i=d then some j else none, .bptr _ _ _ _,λj q h=>by simp[bS]at h,x b L,λi s hi=>?_,λi c k s q hi A C E=>?_⟩
 ·by_cases e:i=d
  ·subst e;simp only[ai,if_true]at hi;cases hi;simpa using y
  ·simp only[ai,e,if_false]at hi ⊢;exact⟨hi,λk q h=>by simp[bS]at h⟩
 ·have a:i=d:=by
   by_cases e:i=d
   ·exact e
   ·simp[e]at C
  have b:c=d:=by
   by_cases e:c=d
   ·exact e
   ·simp[e]at E
  exact a.trans b.symm
abbrev s_m_New:Spc:=aG (a1 (List Int)) (λ_=>True) (λL:List Int=>D.tape L) (λ_ _=>True)
theorem qm7(hf:Tri dq P f qvs):Tri dq P f s_m_New.pt:=by
 intro O tp w vs ds H d K hO Z a hlen u F;simp only[s_m_New,mO]at F;cases E:(a1 (List Int)).dec ds with
 |none=>rw[E]at F;exact F.elim
 |some l=>
 rw[E]at F;obtain⟨_,hK⟩:=F;have p:∀c,bA H c->c<w.heap.size:=λc ⟨j,r,k1,k2⟩=>(a.ok j r k1).lt k2
 have q:∀c,¬bA bS c:=λc ⟨j,r,h,_⟩=>by simp[bS]at h
 have I:∀c,aR O tp H w c->aR (λc=>O c\/bA H c) tp bS w c:=λc hc=>⟨hc.1,λh=>h.elim hc.2.1 hc.2.2.2,hc.2.2.1,q c⟩
 obtain⟨c1,c2⟩:=hf (λc=>O c\/bA H c) tp w vs ds bS 0 (λr H'=>∃b L,r= .bptr 0 b 0/\H'=ai bS 0 (some (H8 b L))) (λc hc=>hc.elim (hO c) (p c)) (Z.mono λb h=>(q b h).elim)
  ⟨λi j r s b h=>by simp[bS]at h,λi r b h=>by simp[bS]at h,λi r h=>by simp[bS]at h⟩ hlen
  (λk x c hx hc=>(u k x c hx hc).mono (λ_ h=>h) (λc hc=>⟨I c hc,rfl⟩) (λb _=> .refl _ _)) ⟨l,E,λb L=>⟨b,L,rfl,rfl⟩⟩
 refine⟨c1,c2.mono ?_⟩;rintro e J ⟨x,r,H',t,rfl,⟨b,L,rfl,rfl⟩,tpx,tpn,tpl,st,loc,sat,hR⟩;cases hR;have W:ai bS 0 (some (H8 b L)) 0=some (H8 b L):=rfl;have M:bA (ai bS 0 (some (H8 b L))) b:=⟨0,_,W,rfl⟩
 have hbs:w.heap.size<=b:=(loc b M).elim (λh=>(q b h).elim) id;have hbl:b<J.heap.size:=(sat.ok 0 _ W).lt rfl;have hbtp:=sat.out 0 _ b W rfl;have hsz:w.heap.size<=J.heap.size:=st.size;have Q:∀c,c<w.heap.size->¬tp c->¬(t c\/c=b):=λc hc U h=>h.elim (λh=>(tpn c h).elim U (λh=>by
  have h:w.heap.size<=c:=h;omega)) (λh=>by omega)
 have same:∀c,c<w.heap.size->¬tp c->J.heap[c]? =w.heap[c]?:=λc hc U=>st.same c hc (q c) U
 obtain⟨xs,el,q1,q2,Y⟩:=sat.ok 0 _ W;obtain⟨xl⟩:=xs
 match xl,q2,Y,q1 with
 | [s,y],_,Y,q1=>
 have A:=(Y 0 s _ rfl rfl).2;have a2:=(Y 1 y _ rfl rfl).2.inv_v;subst a2;have hsl:slen s=L.length:=by
  generalize hes:L.map enc=es at A;have C:L.length=es.length:=by rw[<-hes];simp
  cases A with
  |nolist=>simp at C;simp[slen,C]
  |list=>rw[C];rfl
 refine⟨_, .tape L,H,λc=>t c\/c=b,rfl,hK L trivial,λc hc=> .inl (tpx c hc),λc hc=>hc.elim (tpn c) (λe=> .inr (e ▸hbs)),λc hc=>hc.elim (tpl c) (λe=>e ▸hbl),
  ⟨st.os,st.tape,st.output,st.size,λc hc _ U=>same c hc U,st.tapes,st.drawn⟩,λc hc=> .inl hc,
  ⟨a.dis,λi r c hi hc=>⟨(a.out i r c hi hc).1,Q c ((a.ok i r hi).lt hc) (a.out i r c hi hc).2⟩,λi r hi=>(a.ok i r hi).conv (λx d hr=>hr.mono (λc hc=> .inl (tpx c hc)) (λc hc=>⟨⟨qFS hc.1 hsz,hc.2.1,Q c hc.1 hc.2.2.1,hc.2.2.2⟩,same c hc.1 hc.2.2.1⟩) st.tapes) (λc hc=>same c ((a.ok i r hi).lt hc) (a.out i r c hi hc).2)⟩,?_⟩
 refine .tape b L s 0 el (.inr rfl) q1 (by omega) (by omega) hsl ?_;have a3:R t (aR (λc=>O c\/bA H c) t (ai bS 0 (some (H8 b L))) J) J s (.list 1 (L.map λn=>D.v (.int .i64 n))):=A;exact PJ (λd E=>by simp at E;obtain⟨n,_,rfl⟩:=E;exact⟨n,rfl⟩) a3 (λc hc=>⟨⟨hc.1,λh=>hc.2.1 (.inl h),λh=>h.elim hc.2.2.1 (λe=>hc.2.2.2 (e ▸M)),λh=>hc.2.1 (.inr h)⟩,rfl⟩)
end
end
end Go.Gv
