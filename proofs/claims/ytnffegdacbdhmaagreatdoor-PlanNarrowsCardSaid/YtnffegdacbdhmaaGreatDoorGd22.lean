/- Sh24b -/
import Derived.Shelf.SlGeneric
import Derived.Shelf.SlLaysF0
import Derived.Shelf.SlMaps.Clone
import Derived.Ground.SlsfProg
import Derived.Ground.SlmcProg
import Derived.Test.YtnffegdacbdhmaaGreatDoorProg
import Derived.Test.YtnffegdacbdhmaaGreatDoorGd21
set_option linter.all false
set_option maxRecDepth 100000
set_option maxHeartbeats 0
open Bool renaming forall_bool → fB', exists_bool → eB'
namespace Go.Proofs
open Go.Shelf
end Go.Proofs
namespace Go.Gv
open Go.Proofs
open Cod (enc dec)
variable {S S0:Nat->Spc}
def Rt(c:Corpus)(x:Cond)(k:Nat):List Int:=((List.range k).filter λi:Nat=>(vI ⟨c,(i:Int), [], []⟩ 21 (jF x)).getD false).map λi:Nat=>(i:Int)
def HS(c:Corpus)(x:Cond):List Int:=Rt c x c.toks.length
def qbU(c:Corpus)(x:Cond)(k:Nat):Rt c x (k+1)=Rt c x k++ (if(vI ⟨c,(k:Int), [], []⟩ 21 (jF x)).getD false=true then[(k:Int)]else[]):=by
 unfold Rt;rw[List.range_succ,qBp,qBt];congr 1;simp only[List.filter];cases(vI ⟨c,(k:Int), [], []⟩ 21 (jF x)).getD false<;>rfl
def US(c:Corpus)(x:Cond)(k:Nat):(Rt c x k).length<=k:=by
 unfold Rt;rw[qAs];exact qAx (List.length_filter_le _ _) (by simp)
def Hh(z:Corpus×Cond):Prop:=qo2 z.1/\gL z.2<=60/\dm z.2<=60/\qhW z.1.attrs [] (jF z.2)=true/\∀i:Nat,i<z.1.toks.length->∃y,vI ⟨z.1,(i:Int), [], []⟩ 21 (jF z.2)=some y
abbrev qeE:Spc:=aL (a2 Corpus Cond) Hh (mj (Y:=List Int) (Z:=Int)) λz y=>y=(HS z.1 z.2,0)
theorem qdB(h1:S ko=Vb)(h2:S dA=qaa)(h3:S dj=RG)(h4:S gj=L9 21):am mA lY S (a2 Corpus Cond) Hh (mj (Y:=List Int) (Z:=Int)) λz y=>y=(HS z.1 z.2,0):=by
 rintro⟨c,x⟩ ⟨⟨z1,z2,z3⟩,hn,hd,hok,hall⟩;simp only at z1 z2 z3 hn hd hok hall;have hl:(c.toks.length:Int)<=9223372036854775807:=by omega
 have hlo:∃n,dm x<=n/\gL x<=60:=⟨_,qz2 _,hn⟩
 simp[mA,lY,h1,h2,h3,hn,hd,hok,hlo,hl,z3,-fB',-eB'];intro b;refine⟨⟨_,qz2 _⟩,⟨hok,z3⟩,?_⟩;refine ah (X:=Value×List Int) [2,3] [3] c.toks.length (λk z=>z.2=Rt c x k) (λz=>[(7, .own 33 z.1)]) (λz=>[(33, .row z.1 bb 1 (z.2.map enc))]) (.slice none 0 0, []) (by simp[Rt]) ?_ ?_ (hh:=by simp[isNilRow])
 ·rintro k ⟨v,l⟩ hk hl1;simp only at hl1;obtain⟨y,hy⟩:=hall k hk;have hp:qlf 21 (c,jF x,(k:Int), [], []):=⟨⟨z1,z2,z3⟩,y,hy⟩
  have hs:=qbU c x k;have hln:=US c x k;rw[<-hl1]at hs hln;have e0:(if(vI ⟨c,(k:Int), [], []⟩ 21 (jF x)).getD false=true then[(k:Int)]else[])=if y=true then[(k:Int)]else[]:=by rw[hy];rfl
  rw[e0]at hs;simp[hk,h4,hp,-fB',-eB'];intro w hw;have hw:vI ⟨c,(k:Int), [], []⟩ 21 (jF x)=some w:=hw;rw[hy]at hw;cases hw;refine⟨λe=>⟨by omega,by omega,λv'=> .inl ?_⟩,λe=> .inl ?_⟩
  ·rw[hs,e];simp
  ·rw[hs,e];simp
 ·rintro⟨v,l⟩ hl1;simp only at hl1;simp[-fB',-eB'];have e:HS c x=l:=hl1.symm;rw[e];exact fG bb rfl
end Go.Gv
namespace Go.Gv
open Go.Proofs
def wh:CC:=gq Tryz.f12 [] {} _
def vX:List ak:=[.tmp 4]
def VB:FO zF [] wh vX 26:=fo
def valsA:List B:=[⟨#[97]⟩,⟨#[98]⟩,⟨#[97,46,42]⟩,⟨#[91,97,98,93]⟩,⟨#[88]⟩,⟨#[]⟩,⟨#[99,63]⟩,⟨#[97,124,98]⟩,⟨#[89]⟩,⟨#[111,46,42]⟩,⟨#[78]⟩,⟨#[97,124,88]⟩]
def wordsA:List B:=[⟨#[97]⟩,⟨#[98]⟩,⟨#[99]⟩,⟨#[65]⟩,⟨#[97,98]⟩,⟨#[]⟩,⟨#[88]⟩,⟨#[89]⟩,⟨#[116,104,101]⟩,⟨#[111,108,100]⟩,⟨#[109,97,110]⟩,⟨#[68]⟩,⟨#[65]⟩,⟨#[78]⟩,⟨#[124]⟩,⟨#[124,112,124]⟩,⟨#[124,112,124,113,124]⟩,⟨#[124,113,124]⟩]
def qo1:Bool:=valsA.all λv=>wordsA.all λw=>(EA v w false).isSome && (EA v w true).isSome
def qje:qo1=true:=by kernel_rfl
def MS{v w:B}(hv:v∈valsA)(hw:w∈wordsA)(f:Bool):∃y,EA v w f=some y:=by
 have h:=qz4.1 (qz4.1 qje v hv) w hw;simp only[qzZ]at h;cases f
 ·exact qAW.1 h.1
 ·exact qAW.1 h.2
open Cod (enc dec)
variable {S S0:Nat->Spc}
def qyB:Corpus:=⟨[⟨⟨#[119,111,114,100]⟩,false⟩,⟨⟨#[112,111,115]⟩,false⟩], [[⟨#[116,104,101]⟩,⟨#[68]⟩], [⟨#[111,108,100]⟩,⟨#[65]⟩], [⟨#[109,97,110]⟩,⟨#[78]⟩]], [⟨⟨#[116]⟩,0,3, []⟩], [], [], [], []⟩
def Dj(a b:List Int):Bool:=decide (a=b)
abbrev YC:Spc:=aL (a2 (List Int) (List Int)) (λx=>x.1.length<=100000/\x.2.length<=100000) (enc (X:=Bool)) λx y=>y=Dj x.1 x.2
theorem XU:am wh vX S (a2 (List Int) (List Int)) (λx=>x.1.length<=100000/\x.2.length<=100000) (enc (X:=Bool)) λx y=>y=Dj x.1 x.2:=by
 rintro⟨a,b⟩ ⟨la,lb⟩;simp only at la lb;have la':(a.length:Int)<=9223372036854775807:=by omega
 have lb':(b.length:Int)<=9223372036854775807:=by omega
 by_cases hl:a.length=b.length
 ·have hli:(a.length:Int)=b.length:=by omega
  simp[wh,vX,la',lb',hl,hli,-fB',-eB'];refine ah (X:=Unit) [0,1] [] b.length (λk _=>a.take k=b.take k) (λ_=>[]) (λ_=>[]) () (by simp) ?_ ?_
  ·rintro k -hk hP;have hka:k<a.length:=by omega
   obtain⟨x,hx⟩:=ed hka;obtain⟨y,hy⟩:=ed hk;obtain⟨_,hgx⟩:=qzV.1 hx;obtain⟨_,hgy⟩:=qzV.1 hy;have hab:Dj a b=decide (a=b):=rfl;by_cases hxy:x=y
   ·subst hxy;simp[hk,hka,hx,hy,hgx,hgy,-fB',-eB'];rw[au hx,au hy,hP]
   ·have hne:Dj a b=false:=by
     unfold Dj;rw[decide_eq_false_iff_not];intro e;subst e;rw[hx]at hy;exact hxy (qAg hy)
    simp[hk,hka,hx,hy,hgx,hgy,hxy,hne,-fB',-eB']
  ·rintro -hP;rw[<-hl,qAb,hl,qAb]at hP;have he:Dj a b=true:=decide_eq_true hP;simp[he,-fB',-eB']
 ·have hli:¬(a.length:Int)=b.length:=by omega
  have hne:Dj a b=false:=by
   unfold Dj;rw[decide_eq_false_iff_not];intro e;exact hl (by rw[e])
  simp[wh,vX,la',lb',hl,hli,hne,-fB',-eB']
def OkCorp(c:Corpus):Prop:=c.attrs=gJ/\1<=c.toks.length/\c.toks.length<=4096/\∀r∈c.toks,He r
def OkCorp.sz{c:Corpus}(h:OkCorp c):qo2 c:=by
 obtain⟨h1,h2,h3,h4⟩:=h;refine⟨by omega,λr hr=>?_,by rw[h1];decide⟩;obtain⟨w,t,f,_,_,_,rfl⟩:=h4 r hr;simp
def Xc:∀{l:List Ai} {s e:Int},DB s l e->s<=e
 | [],s,e,h=>by have h:s=e:=h;omega
 |a::l,s,e,h=>by have:=Xc h.2.2;have:=h.1;have:=h.2.1;omega
def qmm{c:Corpus}(h:Xx c)(hk:Pi c):OkCorp c:=by
 obtain⟨h1,h2,h3,_⟩:=h;refine⟨hk.1,?_,h3,hk.2⟩;cases hl:c.texts with
 |nil=>exact absurd hl h2
 | cons a l=>
   rw[hl]at h1;have:=Xc h1.2.2;have:=h1.1;have:=h1.2.1;omega
end Go.Gv
namespace Go.Gv
mutual
def SrcE:Pat->Int->Int->Span->Prop
 | .mk op c l r mn mx ks,d,leaf,s=>if op=1 then s=⟨leaf,d⟩else if op=4 then qX ks d leaf s else if op=6 then(match ks with|[]=>False|k::_=>∃i:Int,0<=i/\i<mn/\(i=0\/(aU k).1=(aU k).2)/\SrcE k (d+i* (aU k).1) leaf s)else False
def qX:List Pat->Int->Int->Span->Prop
 | [],_,_,_=>False
 |k::ks,d,leaf,s=>SrcE k d leaf s\/((aU k).1=(aU k).2/\qX ks (d+ (aU k).1) (leaf+ (aq k).length) s)
end
def qd2{p:Pat}(h:p.op=1)(d leaf:Int)(s:Span):SrcE p d leaf s↔s=⟨leaf,d⟩:=by cases p;simp only at h;unfold SrcE;rw[if_pos h]
def qd1{p:Pat}(h:p.op=4)(d leaf:Int)(s:Span):SrcE p d leaf s↔qX p.kids d leaf s:=by cases p;simp only at h;unfold SrcE;rw[if_neg (by omega),if_pos h]
def qiD{p k:Pat}(h:p.op=6){ks:List Pat}(hk:p.kids=k::ks)(d leaf:Int)(s:Span):SrcE p d leaf s↔ ∃i:Int,0<=i/\i<p.mn/\(i=0\/(aU k).1=(aU k).2)/\SrcE k (d+i* (aU k).1) leaf s:=by
 cases p;simp only at h hk;subst hk;rw[SrcE.eq_def];simp only;rw[if_neg (by omega),if_neg (by omega),if_pos h]
def qd3{p:Pat}(h:p.op≠1/\p.op≠4/\p.op≠6)(d leaf:Int)(s:Span):¬SrcE p d leaf s:=by
 cases p;simp only at h;rw[SrcE.eq_def];simp only;rw[if_neg h.1,if_neg h.2.1,if_neg h.2.2];exact id
theorem ZS{v:B->Bool}(p:Pat):fJ v p=true->∀(d leaf:Int) (s:Span),SrcE p d leaf s->leaf<=s.b/\s.b<leaf+ (aq p).length/\d<=s.e/\s.e<=d+200000*da p:=by
 induction p using fZ with|_ p ih=>?_
 intro hp d leaf s h;rw[bc];rcases qv (df hp).1 with⟨ho,_⟩|⟨ho,_⟩|⟨ho,k,ks,hk⟩|⟨ho,k,hk⟩
 ·rw[qd2 ho]at h;subst h;rw[cw,if_pos ho];simp only[qAD,qBP];omega
 ·exact absurd h (qd3 (by omega) _ _ _)
 ·by_cases h4:p.op=4
  ·rw[qd1 h4]at h;rw[if_neg (by omega),cw];have:∀ks:List Pat,(∀k∈ks,k∈p.kids)->∀d leaf:Int,qX ks d leaf s->leaf<=s.b/\s.b<leaf+ (ks.flatMap aq).length/\d<=s.e/\s.e<=d+200000*bi ks:=by
    intro ks
    induction ks with
    |nil=>intro _ d leaf h;rw[qX]at h;exact h.elim
    | cons k ks ihk=>
      intro hk d leaf h;rw[qX]at h;rw[bi,qAw,qAm];rcases h with h|⟨hw,h⟩
      ·have:=ih k (hk k (by simp)) (kP hp (hk k (by simp))) d leaf s h;omega
      ·have h1:=ihk (λz hz=>hk z (by simp[hz])) _ _ h;have h2:eh (aU k):=yu k (kP hp (hk k (by simp)));have h3:1<=da k:=by rw[cw];omega
       unfold eh at h2;omega
   have:=this p.kids (λk hk=>hk) d leaf h;omega
  ·exact absurd h (qd3 (by omega) _ _ _)
 ·rw[qiD ho hk]at h;obtain⟨i,h0,h1,_,h3⟩:=h;rw[if_neg (by omega),cw,hk,bi,bi];have h4:=ih k (by rw[hk];simp) (kP hp (by rw[hk];simp)) _ _ _ h3;have h2:eh (aU k):=yu k (kP hp (by rw[hk];simp));have hn:=(df hp).2.2;unfold lJ at hn;rw[decide_eq_true_eq]at hn;have hn:=hn ho;unfold eh at h2;have h5:0<=i* (aU k).1:=qBL h0 h2.1;have h6:i* (aU k).1<=16*10000:=Int.mul_le_mul (by omega) h2.2.1 h2.1 (by omega);have h7:1<=da k:=by rw[cw];omega
  simp only[qAw,List.flatMap_nil,qA7];generalize i* (aU k).1=z at*;omega
def SrcsOf(p:Pat)(r:List Span):Prop:=SS r/\∀s,s∈r↔SrcE p 0 0 s
def SrcsOf.eq{p:Pat}{a b:List Span}(h:SrcsOf p a)(k:SrcsOf p b):a=b:=Yr h.1 k.1 λx=>(h.2 x).trans (k.2 x).symm
def qui:B:=⟨#[115]⟩
def qkk:B:=⟨#[110,112]⟩
def quh:B:=⟨#[116]⟩
def qnw:B:=⟨#[120]⟩
def qoz:B:=⟨#[121]⟩
def Types:List B:=[qui,qkk,quh]
def Xy:List (Int×Int):=[(0,1),(0, -1),(1, -1),(2,2),(0,2),(1,3),(0,0)]
def qoI(lb:List B)(p:Pat):Prop:=(p.op=1/\(p.lab=⟨#[]⟩\/p.lab∈lb)/\p.reg=⟨#[]⟩/\p.mn=0/\p.mx=0/\p.kids=[])\/((p.op=2\/p.op=3)/\p.cond=Cond0/\p.lab=⟨#[]⟩/\p.reg∈Types/\p.mn=0/\p.mx=0/\p.kids=[])
def WP(lb:List B):Nat->Pat->Prop
 | 0,p=>qoI lb p
 | n+1,p=>qoI lb p\/((p.op=4\/p.op=5)/\p.cond=Cond0/\p.lab=⟨#[]⟩/\p.reg=⟨#[]⟩/\p.mn=0/\p.mx=0/\∃a b,p.kids=[a,b]/\WP lb n a/\WP lb n b)\/
   (p.op=6/\p.cond=Cond0/\p.lab=⟨#[]⟩/\p.reg=⟨#[]⟩/\(p.mn,p.mx) ∈Xy/\∃a,p.kids=[a]/\WP lb n a)
def quF{lb:List B}{n:Nat}{p:Pat}(h:qoI lb p):WP lb n p:=by
 cases n
 ·exact h
 ·exact .inl h
def qhN(lb:List B):Prop:=∀l∈lb,l=qnw\/l=qoz
def xw{lb:List B}{n:Nat}{p:Pat}(h:WP lb n p):qoI lb p\/ ∃m,n=m+1/\(((p.op=4\/p.op=5)/\p.cond=Cond0/\p.lab=⟨#[]⟩/\p.reg=⟨#[]⟩/\p.mn=0/\p.mx=0/\∃a b,p.kids=[a,b]/\WP lb m a/\WP lb m b)\/
 (p.op=6/\p.cond=Cond0/\p.lab=⟨#[]⟩/\p.reg=⟨#[]⟩/\(p.mn,p.mx) ∈Xy/\∃a,p.kids=[a]/\WP lb m a)):=by
 cases n with
 |zero=>exact .inl h
 |succ m=>exact h.elim .inl λh=> .inr ⟨m,rfl,h⟩
theorem Ho{lb:List B}{C:Nat->Pat->Prop}(h:∀n p,WP lb n p->(∀k∈p.kids,∃m,n=m+1/\WP lb m k/\C m k)->C n p):∀n p,WP lb n p->C n p:=by
 intro n
 induction n with
 | zero=>
   intro p hp;refine h 0 p hp λk hk=>?_
   rcases hp with hp|hp
   ·rw[hp.2.2.2.2.2]at hk;simp at hk
   ·rw[hp.2.2.2.2.2.2]at hk;simp at hk
 | succ m ih=>
   intro p hp;refine h (m+1) p hp λk hk=>⟨m,rfl,?_⟩
   have:WP lb m k:=by
    rcases hp with(hp|hp)|hp|hp
    ·rw[hp.2.2.2.2.2]at hk;simp at hk
    ·rw[hp.2.2.2.2.2.2]at hk;simp at hk
    ·obtain⟨a,b,e,ha,hb⟩:=hp.2.2.2.2.2.2;rw[e]at hk;simp at hk;rcases hk with rfl|rfl
     ·exact ha
     ·exact hb
    ·obtain⟨a,e,ha⟩:=hp.2.2.2.2.2;rw[e]at hk;simp at hk;subst hk;exact ha
   exact⟨this,ih k this⟩
theorem qh2{v:B->Bool}{lb:List B}(hl:qhN lb)(hv:v qui=true/\v qkk=true/\v quh=true/\v qnw=true/\v qoz=true):∀n p,WP lb n p->n<=90->fJ v p=true:=by
 have key:∀n p,WP lb n p->(n<=90->∀d:Int,d+n<=100->cA p d=true)/\ck oO p=true/\ck (mI v) p=true/\ck lJ p=true:=by
  refine Ho λn p hp ih=>?_
  have hnode:oO p=true/\mI v p=true/\lJ p=true:=by
   rw[tR];unfold vG mI lJ;rw[decide_eq_true_eq,decide_eq_true_eq];have hr:(p.mn,p.mx) ∈Xy->0<=p.mn/\p.mn<=16/\(p.mx= -1\/p.mn<=p.mx/\p.mx<=16):=by
    intro h;simp[Xy]at h;omega
   have ht:p.reg∈Types->v p.reg=true:=by
    intro h;simp[Types]at h;rcases h with h|h|h<;>rw[h]
    ·exact hv.1
    ·exact hv.2.1
    ·exact hv.2.2.1
   rcases xw hp with(⟨h1,h2,h3,h4,h5,h6⟩|⟨h1,h2,h3,h4,h5,h6,h7⟩)|⟨m,_,(⟨h1,h2,h3,h4,h5,h6,a,b,h7,_⟩|⟨h1,h2,h3,h4,h5,a,h7,_⟩)⟩
   ·refine⟨.inl ⟨h1,h3,h4,h5,h6⟩,⟨λh=>by omega,λhne=>?_⟩,λh=>by omega⟩;rcases h2 with h2|h2
    ·exact absurd h2 hne
    ·rcases hl _ h2 with h|h<;>rw[h]
     ·exact hv.2.2.2.1
     ·exact hv.2.2.2.2
   ·exact⟨.inr (.inl ⟨h1,h2,h3,h5,h6,h7⟩),⟨λ_=>ht h4,λh=>absurd h3 h⟩,λh=>by omega⟩
   ·exact⟨.inr (.inr (.inl ⟨h1,h2,h3,h4,h5,h6,by rw[h7];simp⟩)),⟨λh=>by omega,λh=>absurd h3 h⟩,λh=>by omega⟩
   ·exact⟨.inr (.inr (.inr ⟨h1,h2,h3,h4,by rw[h7];simp⟩)),⟨λh=>by omega,λh=>absurd h3 h⟩,λ_=>hr h5⟩
  refine⟨λhn d hd=>?_,?_,?_,?_⟩
  ·rw[nH,qzZ,decide_eq_true_eq,qz4];refine⟨by omega,λk hk=>?_⟩;obtain⟨m,e,_,h,_⟩:=ih k hk;exact h (by omega) _ (by omega)
  ·rw[cM,qzZ,qz4];exact⟨hnode.1,λk hk=>by obtain⟨m,e,_,h⟩:=ih k hk;exact h.2.1⟩
  ·rw[cM,qzZ,qz4];exact⟨hnode.2.1,λk hk=>by obtain⟨m,e,_,h⟩:=ih k hk;exact h.2.2.1⟩
  ·rw[cM,qzZ,qz4];exact⟨hnode.2.2,λk hk=>by obtain⟨m,e,_,h⟩:=ih k hk;exact h.2.2.2⟩
 intro n p hp hn;obtain⟨h1,h2,h3,h4⟩:=key n p hp;unfold fJ;rw[h1 hn 1 (by omega),h2,h3,h4];rfl
theorem ZL{lb:List B} :∀n p,WP lb n p->n<=5->1<=fj p/\fj p<=3^n/\da p+1<=2^ (n+1):=by
 refine Ho λn p hp ih hn=>?_
 have hb:(1:Int)<=3^n/\1<=2^n:=⟨Int.pow_pos (by omega),Nat.one_le_two_pow⟩
 rcases xw hp with(⟨h1,h2,h3,h4,h5,h6⟩|⟨h1,h2,h3,h4,h5,h6,h7⟩)|⟨m,rfl,(⟨h1,h2,h3,h4,h5,h6,a,b,h7,_⟩|⟨h1,h2,h3,h4,h5,a,h7,_⟩)⟩
 ·rw[nR,Bb,if_pos h6,cw,h6,bi,Nat.pow_succ];omega
 ·rw[nR,Bb,if_pos h7,cw,h7,bi,Nat.pow_succ];omega
 ·obtain⟨m1,e1,_,a1⟩:=ih a (by rw[h7];simp);obtain⟨m2,e2,_,a2⟩:=ih b (by rw[h7];simp);have e1:m1=m:=by omega
  have e2:m2=m:=by omega
  subst e1;subst e2;have a1:=a1 (by omega);have a2:=a2 (by omega);rw[nR,Bb,if_neg (by rw[h7];simp),if_neg (by omega),cw,h7];simp only[eo,bi];rw[Int.pow_succ,Nat.pow_succ];rw[Nat.pow_succ]at a1 a2 ⊢;have h2:(0:Int)<=3^m2:=by omega
  have:(3:Int) ^m2<=243:=by
   have:m2=0\/m2=1\/m2=2\/m2=3\/m2=4:=by omega
   rcases this with rfl|rfl|rfl|rfl|rfl<;>decide
  omega
 ·obtain⟨m1,e1,_,a1⟩:=ih a (by rw[h7];simp);have e1:m1=m:=by omega
  subst e1;have a1:=a1 (by omega);rw[nR,Bb,if_neg (by rw[h7];simp),if_pos h1,cw,h7];simp only[eo,bi];rw[Int.pow_succ,Nat.pow_succ];rw[Nat.pow_succ]at a1 ⊢;have:(3:Int) ^m1<=243:=by
   have:m1=0\/m1=1\/m1=2\/m1=3\/m1=4:=by omega
   rcases this with rfl|rfl|rfl|rfl|rfl<;>decide
  simp only[Xy,qAc,qBX,qAL,or_false]at h5;rw[show min (0+fj a) 1000=fj a by omega];rcases h5 with⟨e1,e2⟩|⟨e1,e2⟩|⟨e1,e2⟩|⟨e1,e2⟩|⟨e1,e2⟩|⟨e1,e2⟩|⟨e1,e2⟩ <;>rw[e1,e2] <;>simp<;>omega
def CS:Nat->Cond->Prop
 | 0,c=>c.kids=[]
 |n+1,c=>c.kids.length<=2/\∀k∈c.kids,CS n k
def Zq{n:Nat}{c:Cond}(h:c.kids=[]):CS n c:=by
 cases n
 ·exact h
 ·exact⟨by rw[h];exact qAr _,λk hk=>by rw[h]at hk;simp at hk⟩
def qnj{n m:Nat}{c a:Cond}(hm:n=m+1)(h:c.kids=[a])(ha:CS m a):CS n c:=by
 subst hm;refine⟨by rw[h];exact qBe _,λk hk=>?_⟩;rw[h]at hk;have:k=a:=by simpa using hk
 subst this;exact ha
def qni{n m:Nat}{c a b:Cond}(hm:n=m+1)(h:c.kids=[a,b])(ha:CS m a)(hb:CS m b):CS n c:=by
 subst hm;refine⟨by rw[h];exact qz2 _,λk hk=>?_⟩;rw[h]at hk;have:k=a\/k=b:=by simpa using hk
 rcases this with rfl|rfl
 ·exact ha
 ·exact hb
def qj2{n:Nat}{c d:Cond}(h:c.kids=d.kids)(hd:CS n d):CS n c:=by
 cases n
 ·exact h.trans hd
 ·exact⟨by rw[h];exact hd.1,λk hk=>hd.2 k (by rw[<-h];exact hk)⟩
def qnk{n:Nat}{c:Cond}(h:CS n c):c.kids.length<=2:=by
 cases n
 ·have:c.kids=[]:=h;rw[this];exact qAr _
 ·exact h.1
def PD:Nat->Pat->Prop
 | 0,p=>(∃m,CS m p.cond)/\p.kids=[]
 |n+1,p=>(∃m,CS m p.cond)/\p.kids.length<=2/\∀k∈p.kids,PD n k
def qe6{n:Nat}{p:Pat}(hc:∃m,CS m p.cond)(h:p.kids=[]):PD n p:=by
 cases n
 ·exact⟨hc,h⟩
 ·exact⟨hc,by rw[h];exact qAr _,λk hk=>by rw[h]at hk;simp at hk⟩
def qme{n m:Nat}{p a:Pat}(hm:n=m+1)(hc:∃m,CS m p.cond)(h:p.kids=[a])(ha:PD m a):PD n p:=by
 subst hm;refine⟨hc,by rw[h];exact qBe _,λk hk=>?_⟩;rw[h]at hk;have:k=a:=by simpa using hk
 subst this;exact ha
def qe5{n m:Nat}{p a b:Pat}(hm:n=m+1)(hc:∃m,CS m p.cond)(h:p.kids=[a,b])(ha:PD m a)(hb:PD m b):PD n p:=by
 subst hm;refine⟨hc,by rw[h];exact qz2 _,λk hk=>?_⟩;rw[h]at hk;have:k=a\/k=b:=by simpa using hk
 rcases this with rfl|rfl
 ·exact ha
 ·exact hb
def qa6:∃m,CS m Cond0:=⟨0,rfl⟩
def qi3{n:Nat}{p:Pat}(h:PD n p):∃m,CS m p.cond:=by cases n<;>exact h.1
def qmf{n:Nat}{p:Pat}(h:PD n p):p.kids.length<=2:=by
 cases n
 ·rw[h.2];exact qAr _
 ·exact h.2.1
def qmg{n:Nat}{p k:Pat}(h:PD n p)(hk:k∈p.kids):∃m,n=m+1/\PD m k:=by
 cases n
 ·rw[h.2]at hk;simp at hk
 ·exact⟨_,rfl,h.2.2 k hk⟩
def qnl{n:Nat}{p k:Cond}(h:CS n p)(hk:k∈p.kids):∃m,n=m+1/\CS m k:=by
 cases n
 ·have h:p.kids=[]:=h;rw[h]at hk;simp at hk
 ·exact⟨_,rfl,h.2 k hk⟩
open Cod (enc dec)
structure Glob where
 op:Int
 a:B
 b:B
 name:B
 arg:B
 val:B
 fold:Bool
 mn:Int
 mx:Int
 args:List B
 kids:List Glob
mutual
def Nl:Glob->D
 | .mk p0 p1 p2 p3 p4 p5 p6 p7 p8 p9 ks=> .agg [enc p0,enc p1,enc p2,enc p3,enc p4,enc p5,enc p6,enc p7,enc p8,enc p9, .list 11 (Av ks)]
def Av:List Glob->List D
 | []=>[]
 |k::ks=>Nl k::Av ks
end
mutual
def WW:D->Option Glob
 | .agg [x0,x1,x2,x3,x4,x5,x6,x7,x8,x9,x10]=>(dec x0).bind λp0=>(dec x1).bind λp1=>(dec x2).bind λp2=>(dec x3).bind λp3=>(dec x4).bind λp4=>(dec x5).bind λp5=>(dec x6).bind λp6=>(dec x7).bind λp7=>(dec x8).bind λp8=>(dec x9).bind λp9=>(JJ x10).bind λks=>some (.mk p0 p1 p2 p3 p4 p5 p6 p7 p8 p9 ks)
 | _=>none
def JJ:D->Option (List Glob)
 | .list n es=>if n=11 then B6 es else none
 | .v (.slice none 0 0)=>some []
 | _=>none
def B6:List D->Option (List Glob)
 | []=>some []
 |d::ds=>(WW d).bind λx=>(B6 ds).bind λxs=>some (x::xs)
end
def IL:∀l:List Glob,Av l=l.map Nl
 | []=>rfl
 | _::l=>by rw[Av,IL l];rfl
def qaZ:∀c:Glob,(Nl c).kn=true
 | .mk .. =>rfl
def WE:∀c:Glob,(Nl c).cells.length=11
 | .mk .. =>rfl
mutual
def WV:∀c:Glob,WW (Nl c)=some c
 | .mk p0 p1 p2 p3 p4 p5 p6 p7 p8 p9 ks=>by
   have h:JJ (.list 11 (Av ks))=some ks:=by rw[JJ,if_pos rfl];exact Qr ks
   simp only[Nl,WW,Cod.dec_enc,qAh,h]
def Qr:∀l:List Glob,B6 (Av l)=some l
 | []=>by simp only[Av,B6]
 |c::l=>by simp only[Av,B6,WV c,Qr l,qAh]
end
mutual
def qa4:∀(d:D) (c:Glob),WW d=some c->FrzTo cY d (Nl c)
 | .agg [x0,x1,x2,x3,x4,x5,x6,x7,x8,x9,x10],c,h=>by
   simp only[WW,qzU,qAa]at h;obtain⟨p0,h0,p1,h1,p2,h2,p3,h3,p4,h4,p5,h5,p6,h6,p7,h7,p8,h8,p9,h9,ks,hk,rfl⟩:=h;rw[Nl];exact LeL.agg (.cons (Cod.le _ _ h0) (.cons (Cod.le _ _ h1) (.cons (Cod.le _ _ h2) (.cons (Cod.le _ _ h3) (.cons (Cod.le _ _ h4) (.cons (Cod.le _ _ h5) (.cons (Cod.le _ _ h6) (.cons (Cod.le _ _ h7) (.cons (Cod.le _ _ h8) (.cons (Cod.le _ _ h9) ((.cons (qgP x10 ks hk) .nil))))))))))))
def qgP:∀(d:D) (l:List Glob),JJ d=some l->FrzTo cY d (.list 11 (Av l))
 | .list n es,l,h=>by
   simp only[JJ]at h;split at h
   ·rename_i hn;subst hn;have hl:=WU es l h;refine .list hl.1 (λe he=>?_) hl.2;rw[IL]at he;obtain⟨x,hx,rfl⟩:=qz1.1 he;exact⟨qaZ x,WE x⟩
   ·cases h
 | .v (.slice none 0 0),l,h=>by
   simp only[JJ,qAa]at h;subst h;exact .nil _
def WU:∀(es:List D) (l:List Glob),B6 es=some l->LeL es (Av l)
 | [],l,h=>by
   simp only[B6,qAa]at h;subst h;exact .nil
 | d::ds,l,h=>by
   simp only[B6,qzU,qAa]at h;obtain⟨x,h1,xs,h2,rfl⟩:=h;rw[Av];exact .cons (qa4 d x h1) (WU ds xs h2)
end
instance:Cod Glob where
 wd:=11
 enc:=Nl
 dec:=WW
 kn:=qaZ
 wid:=WE
 dec_enc:=WV
 le:=qa4
def qcX(ks:List Glob):D.list 11 (Av ks)=enc ks:=by rw[IL];rfl
def Nu:∀es:List D,B6 es=es.mapM (dec (X:=Glob))
 | []=>by simp[B6]
 | d::es=>by
   rw[B6,qAC,Nu es];rfl
def qgQ:∀d:D,JJ d=dec (X:=List Glob) d:=λd=>by
 unfold JJ;split
 ·rename_i n es;show _=if n=11 then es.mapM (dec (X:=Glob))else none
  rw[Nu]
 ·rfl
 ·rename_i h1 h2;show _=(match d with
   | .list n es=>if n=11 then es.mapM (dec (X:=Glob))else none
   | .v (.slice none 0 0)=>some []
   | _=>none)
  split
  ·exact absurd rfl (h1 _ _)
  ·exact absurd rfl h2
  ·rfl
@[simp] theorem qqo(s:Glob):Glob.mk s.op s.a s.b s.name s.arg s.val s.fold s.mn s.mx s.args s.kids=s:=by cases s;rfl
@[simp] theorem Nj(s:Glob):enc s= .agg [enc s.op,enc s.a,enc s.b,enc s.name,enc s.arg,enc s.val,enc s.fold,enc s.mn,enc s.mx,enc s.args,enc s.kids]:=by
 rw[<-qcX];cases s;show Nl _=_;rw[Nl]
@[simp] theorem qrE:Cod.wd Glob=11:=i' rfl
@[simp] theorem qqC(x0 x1 x2 x3 x4 x5 x6 x7 x8 x9 x10:D):dec (X:=Glob) (.agg [x0,x1,x2,x3,x4,x5,x6,x7,x8,x9,x10])=((dec x0).bind λx0=>(dec x1).bind λx1=>(dec x2).bind λx2=>(dec x3).bind λx3=>(dec x4).bind λx4=>(dec x5).bind λx5=>(dec x6).bind λx6=>(dec x7).bind λx7=>(dec x8).bind λx8=>(dec x9).bind λx9=>(dec x10).bind λx10=>some ⟨x0,x1,x2,x3,x4,x5,x6,x7,x8,x9,x10⟩):=by
 show WW _=_;simp only[WW,qgQ]
structure tM where
 op:Int
 neg:Bool
 reg:B
instance:Cod tM where
 wd:=3
 enc f:= .agg [enc f.op,enc f.neg,enc f.reg]
 dec| .agg [x0,x1,x2]=>(dec x0).bind λa=>(dec x1).bind λb=>(dec x2).bind λc=>some ⟨a,b,c⟩|_=>none
 kn _:=rfl
 wid _:=rfl
 dec_enc f:=by simp only[Cod.dec_enc,qAh]
 le d x h:=by
  split at h
  ·simp only[qzU,qAa]at h;obtain⟨a,h0,b,h1,c,h2,rfl⟩:=h;exact LeL.agg (.cons (Cod.le _ _ h0) (.cons (Cod.le _ _ h1) (.cons (Cod.le _ _ h2) .nil)))
  ·cases h
@[simp] theorem qqu(s:tM):enc s= .agg [enc s.op,enc s.neg,enc s.reg]:=i' rfl
@[simp] theorem qrF:Cod.wd tM=3:=i' rfl
structure Qry where
 pat:Pat
 glob:Glob
 filts:List tM
 strat:Int
def IQ:Pat->List D| .mk op c l r mn mx ks=>enc op::(B9 c++ [enc l,enc r,enc mn,enc mx,enc ks])
def qc3:∀p:Pat,D.agg (IQ p)=enc p
 | .mk .. =>(ST ..).symm
def Zs:∀p:Pat,(IQ p).length=13
 | .mk op c l r mn mx ks=>by simp[IQ,NC]
def NB(g:Glob):List D:=[enc g.op,enc g.a,enc g.b,enc g.name,enc g.arg,enc g.val,enc g.fold,enc g.mn,enc g.mx,enc g.args,enc g.kids]
def qc4(g:Glob):D.agg (NB g)=enc g:=(Nj g).symm
def qhq{l l':List D}(h:FrzTo cY (.agg l) (.agg l')):LeL l l':=by
 cases h with
 |same=>exact⟨rfl,λk x y hx hy=>by rw[hx]at hy;cases hy;exact .same _⟩
 |agg hl h=>exact⟨hl,h⟩
def qgJ{l:List D}{p:Pat}(h:dec (D.agg l)=some p):LeL l (IQ p):=qhq (by rw[qc3];exact Cod.le _ _ h)
def qcZ{l:List D}{p:Glob}(h:dec (D.agg l)=some p):LeL l (NB p):=qhq (by rw[qc4];exact Cod.le _ _ h)
def qmZ(q:Qry):D:= .agg (IQ q.pat++ (NB q.glob++ [enc q.filts,enc q.strat]))
def qnc:D->Option Qry
 | .agg [x0,x1,x2,x3,x4,x5,x6,x7,x8,x9,x10,x11,x12,y0,y1,y2,y3,y4,y5,y6,y7,y8,y9,y10,f,s]=>(dec (D.agg [x0,x1,x2,x3,x4,x5,x6,x7,x8,x9,x10,x11,x12])).bind λp=>(dec (D.agg [y0,y1,y2,y3,y4,y5,y6,y7,y8,y9,y10])).bind λg=>(dec f).bind λfs=>(dec s).bind λst=>some ⟨p,g,fs,st⟩
 | _=>none
instance:Cod Qry where
 wd:=26
 enc:=qmZ
 dec:=qnc
 kn _:=rfl
 wid q:=by simp[qmZ,D.cells,Zs,NB]
 dec_enc q:=by
  obtain⟨⟨op,⟨o,n,a,v,l,f,cks⟩,lb,rg,mn,mx,ks⟩,g,fs,st⟩:=q;have h1:=Cod.dec_enc (⟨op,⟨o,n,a,v,l,f,cks⟩,lb,rg,mn,mx,ks⟩:Pat);have h2:=Cod.dec_enc g;rw[ST]at h1;rw[Nj]at h2;simp only[B9,qAK,qAZ]at h1;simp only[qmZ,IQ,B9,NB,qAK,qAZ,qnc,h1,h2,Cod.dec_enc,qAh]
 le d x h:=by
  unfold qnc at h;split at h
  ·simp only[qzU,qAa]at h;obtain⟨p,h0,g,h1,fs,h2,st,h3,rfl⟩:=h;exact LeL.agg ((qgJ h0).append ((qcZ h1).append (.cons (Cod.le _ _ h2) (.cons (Cod.le _ _ h3) .nil))))
  ·cases h
@[simp] theorem qts(s:Qry):Qry.mk s.pat s.glob s.filts s.strat=s:=by cases s;rfl
@[simp] theorem qtz(s:Qry):enc s= .agg [enc s.pat.op,enc s.pat.cond.op,enc s.pat.cond.name,enc s.pat.cond.arg,enc s.pat.cond.val,enc s.pat.cond.lab,enc s.pat.cond.fold,enc s.pat.cond.kids,enc s.pat.lab,enc s.pat.reg,enc s.pat.mn,enc s.pat.mx,enc s.pat.kids,enc s.glob.op,enc s.glob.a,enc s.glob.b,enc s.glob.name,enc s.glob.arg,enc s.glob.val,enc s.glob.fold,enc s.glob.mn,enc s.glob.mx,enc s.glob.args,enc s.glob.kids,enc s.filts,enc s.strat]:=by
 obtain⟨⟨op,⟨o,n,a,v,l,f,cks⟩,lb,rg,mn,mx,ks⟩,g,fs,st⟩:=s;rfl
@[simp] theorem qtI(x0 x1 x2 x3 x4 x5 x6 x7 x8 x9 x10 x11 x12 y0 y1 y2 y3 y4 y5 y6 y7 y8 y9 y10 f s:D):dec (X:=Qry) (.agg [x0,x1,x2,x3,x4,x5,x6,x7,x8,x9,x10,x11,x12,y0,y1,y2,y3,y4,y5,y6,y7,y8,y9,y10,f,s])=((dec (D.agg [x0,x1,x2,x3,x4,x5,x6,x7,x8,x9,x10,x11,x12])).bind λp=>(dec (D.agg [y0,y1,y2,y3,y4,y5,y6,y7,y8,y9,y10])).bind λg=>(dec f).bind λfs=>(dec s).bind λst=>some ⟨p,g,fs,st⟩):=i' rfl
structure qy5 where
 kind:Int
 text:B
 pos:Int
instance:Cod qy5 where
 wd:=3
 enc t:= .agg [.v (.int .u8 t.kind),enc t.text,enc t.pos]
 dec| .agg [.v (.int .u8 k),x1,x2]=>(dec x1).bind λb=>(dec x2).bind λc=>some ⟨k,b,c⟩|_=>none
 kn _:=rfl
 wid _:=rfl
 dec_enc f:=by simp only[Cod.dec_enc,qAh]
 le d x h:=by
  split at h
  ·simp only[qzU,qAa]at h;obtain⟨b,h1,c,h2,rfl⟩:=h;exact LeL.agg (.cons (.same _) (.cons (Cod.le _ _ h1) (.cons (Cod.le _ _ h2) .nil)))
  ·cases h
structure Pst where
 l:List qy5
 pos:Int
 deep:Int
 e:Int
 fail:Int
def Pst.step(s:Pst):Pst:={ s with pos:=s.pos+1 }
def E0:B:=⟨#[]⟩
section
variable (A:Pst->Option (Pst×Pat))
end

section
variable (N:Pst->Option (Pst×Cond))(O:Pst->Option (Pst×Cond))
end
section
variable (A:Pst->Option (Pst×Pat))(O:Pst->Option (Pst×Cond))
end
section
variable (N:Pst->Option (Pst×Glob))(O:Pst->Option (Pst×Glob))
end

variable {S S0:Nat->Spc}
def KM(c:Int):Bool:=decide (65<=c/\c<=90\/97<=c/\c<=122\/c=95)
def O9(c:Int):Bool:=KM c||decide (48<=c/\c<=57\/c=45)
def NY(s:B):Prop:=1<=s.size/\s.size<=32/\(∀c:UInt8,s.data[0]? =some c->KM c.toNat=true)/\∀(k:Nat) (c:UInt8),s.data[k]? =some c->O9 c.toNat=true
noncomputable def aJ(s:B):Bool:= @decide (NY s) (Classical.propDecidable _)
def DW(s:B):aJ s=true↔NY s:= @decide_eq_true_iff (NY s) (Classical.propDecidable _)
def Ug{s:B}(h:NY s):true=aJ s:=((DW s).2 h).symm
def rv{s:B}(h:¬NY s):false=aJ s:=by
 rcases hb:aJ s
 ·rfl
 ·exact absurd ((DW s).1 hb) h
abbrev xR:Spc:=aL (a1 U8) (λ_=>True) (enc (X:=Bool)) λx y=>y=KM x.val
abbrev FW:Spc:=aL (a1 U8) (λ_=>True) (enc (X:=Bool)) λx y=>y=O9 x.val
abbrev uc:Spc:=aL (a1 B) (λ_=>True) (enc (X:=Bool)) λx y=>y=aJ x
def JY:am qR qn S (a1 U8) (λ_=>True) (enc (X:=Bool)) λx y=>y=KM x.val:=by
 rintro⟨c⟩ -;simp[qR,qn,KM]
 repeat' first|apply And.intro|intro _
 all_goals first|omega|(rw[qAB];simp;omega)
def QV:am pE oc S (a1 U8) (λ_=>True) (enc (X:=Bool)) λx y=>y=KM x.val:=by
 rintro⟨c⟩ -;simp[pE,oc,KM]
 repeat' first|apply And.intro|intro _
 all_goals first|omega|(rw[qAB];simp;omega)
def JX(h1:S ct=xR):am qQ qm S (a1 U8) (λ_=>True) (enc (X:=Bool)) λx y=>y=O9 x.val:=by
 rintro⟨c⟩ -;simp[qQ,qm,h1,O9,-fB'];rcases hb:KM c<;>simp[hb]
 repeat' first|apply And.intro|intro _
 all_goals first|omega|(rw[qAB];simp;omega)
def TS(h1:S kY=xR):am rR rD S (a1 U8) (λ_=>True) (enc (X:=Bool)) λx y=>y=O9 x.val:=by
 rintro⟨c⟩ -;simp[rR,rD,h1,O9,-fB'];rcases hb:KM c<;>simp[hb]
 repeat' first|apply And.intro|intro _
 all_goals first|omega|(rw[qAB];simp;omega)
theorem Hx(h1:S kY=xR)(h2:S uR=FW):am il gT S (a1 B) (λ_=>True) (enc (X:=Bool)) λx y=>y=aJ x:=by
 rintro s -;simp[il,gT,h1,h2];refineλ_=>⟨λk1 _=>⟨λk2=>⟨by omega,λc hc=>⟨λhb=>(rv λh=>by rw[h.2.2.1 c hc]at hb;cases hb).symm,λhb=>?_⟩⟩,λk2=>(rv λh=>by have:=h.2.1;omega).symm⟩,λk1=>(rv λh=>by have:=h.1;omega).symm⟩
 refine ay (X:=Nat) [0] [] (λk=>1<=k/\k<=s.size/\∀(j:Nat) (c:UInt8),j<k->s.data[j]? =some c->O9 c.toNat=true) (λk=>[(3,enc (k:Int))]) (λ_=>[]) (λk=>s.size -k) 1 ⟨by omega,by omega,λj d hj hd=>?_⟩ ?_
 ·have:j=0:=by omega
  subst this;rw[hc]at hd;cases hd;simp[O9,hb]
 rintro k ⟨h3,h4,h5⟩;simp[h2];refineλ_=>⟨λhk=>⟨by omega,λd hd=>⟨λhf=>(rv λh=>by rw[h.2.2.2 k d hd]at hf;cases hf).symm,λht=>⟨by simp only[InR];omega,k+1,⟨by omega,by omega,λj e hj he=>?_⟩,by omega,by omega⟩⟩⟩,λhk=>?_⟩
 ·by_cases e1:j=k
  ·subst e1;rw[hd]at he;cases he;exact ht
  ·exact h5 j e (by omega) he
 ·refine(Ug ⟨by omega,by omega,λd hd=>by rw[hc]at hd;cases hd;exact hb,λj e he=>h5 j e ?_ he⟩).symm;have:=(qz3.1 he).1;have:j<s.size:=this;omega
theorem DO(h1:S ct=xR)(h2:S eV=FW):am mu lU S (a1 B) (λ_=>True) (enc (X:=Bool)) λx y=>y=aJ x:=by
 rintro s -;simp[mu,lU,h1,h2];refineλ_=>⟨λk1 _=>⟨λk2=>⟨by omega,λc hc=>⟨λhb=>(rv λh=>by rw[h.2.2.1 c hc]at hb;cases hb).symm,λhb _=>?_⟩⟩,λk2=>(rv λh=>by have:=h.2.1;omega).symm⟩,λk1=>(rv λh=>by have:=h.1;omega).symm⟩
 refine ah (X:=Unit) [0] [] s.size (λk _=>∀(j:Nat) (c:UInt8),j<k->s.data[j]? =some c->O9 c.toNat=true) (λ_=>[]) (λ_=>[]) () (by intro j d hj;omega) ?_ ?_
 ·rintro k -hk h5;simp[h2];refine⟨hk,λd hd=>⟨λhf=>(rv λh=>by rw[h.2.2.2 k d hd]at hf;cases hf).symm,λht j e hj he=>?_⟩⟩;by_cases e1:j=k
  ·subst e1;rw[hd]at he;cases he;exact ht
  ·exact h5 j e (by omega) he
 ·rintro -h5;simp;refine(Ug ⟨by omega,by omega,λd hd=>by rw[hc]at hd;cases hd;exact hb,λj e he=>h5 j e ?_ he⟩).symm;exact(qz3.1 he).1
end Go.Gv
namespace Go.Gv

open Cod (enc dec)
variable {dq:Prop}
structure qlb where
 txt:B
 sC:Int
 kind:Int
 text:B
 pos:Int
section
variable {Y Z:Type}
variable {P:Program}{S:Nat->Spc}{f:Nat}{im:List Nat}{cc:CC}{rs:List ak}{N:Nat}
end
section
variable {Y Z:Type}
variable {P:Program}{S:Nat->Spc}{f:Nat}{im:List Nat}{cc:CC}{rs:List ak}{N:Nat}
end
end Go.Gv
namespace Go.Gv
section
variable (N:qlb->Option (qlb×Cond))(O:qlb->Option (qlb×Cond))
end
section
variable (A:qlb->Bool->Option (qlb×Pat))(O:qlb->Option (qlb×Cond))
end
def GlobE:Glob:=⟨0,E0,E0,E0,E0,E0,false,0,0, [], []⟩
def LH:B:=⟨#[119,111,114,100]⟩
def qdT:B:=⟨#[116,97,103]⟩
def LO:B:=⟨#[102,101,97,116]⟩
def ValsT:List B:=[⟨#[97]⟩,⟨#[98]⟩,⟨#[97,46,42]⟩,⟨#[91,97,98,93]⟩]
def ValsI:List B:=[⟨#[97]⟩,⟨#[98]⟩,⟨#[97,46,42]⟩,⟨#[91,97,98,93]⟩,⟨#[88]⟩,⟨#[]⟩,⟨#[99,63]⟩,⟨#[97,124,98]⟩,⟨#[89]⟩,⟨#[97,124,88]⟩]
def Attr2:List B:=[LH,qdT]
def FeatL:List B:=[⟨#[112]⟩,⟨#[113]⟩]
def NumL:List B:=[⟨#[49]⟩,⟨#[50]⟩]
def qrN:B:=⟨#[110]⟩
inductive GA (lb:List B):Cond->Prop
 |val (n v:B) (f:Bool) (h1:n∈Attr2) (h2:v∈ValsI):GA lb ⟨2,n,E0,v,E0,f, []⟩
 |feat (v:B) (h:v∈FeatL):GA lb ⟨3,LO,E0,v,E0,false, []⟩
 |same (n l a:B) (h1:n∈Attr2) (h2:l∈lb) (h3:a∈Attr2):GA lb ⟨4,n,a,E0,l,false, []⟩
 |reg (n:B) (h:n∈Types):GA lb ⟨5,n,E0,E0,E0,false, []⟩
 |regk (n v:B) (h1:n∈Types) (h2:v∈NumL):GA lb ⟨5,n,qrN,v,E0,false, []⟩
inductive GI (lb:List B):Nat->Cond->Prop
 |atom (n:Nat) (c:Cond) (h:GA lb c):GI lb n c
 |not (n:Nat) (k:Cond) (h:GI lb n k):GI lb (n+1) ⟨6,E0,E0,E0,E0,false, [k]⟩
 |two (n:Nat) (op:Int) (a b:Cond) (ho:op=7\/op=8) (h1:GI lb n a) (h2:GI lb n b):GI lb (n+1) ⟨op,E0,E0,E0,E0,false, [a,b]⟩
inductive GC (lb:List B) (n:Nat):Cond->Prop
 |any:GC lb n ⟨1,E0,E0,E0,E0,false, []⟩
 |top (v:B) (f:Bool) (h:v∈ValsT):GC lb n ⟨2,E0,E0,v,E0,f, []⟩
 |inner (c:Cond) (h:GI lb n c):GC lb n c
def zz{lb:List B}{c:Cond}(h:GA lb c):c.kids=[]:=by cases h<;>rfl
def qaQ{lb:List B} :∀{n:Nat} {c:Cond},GI lb n c->CS n c
 | _,_, .atom n c h=>Zq (zz h)
 | _,_, .not n k h=>qnj rfl rfl (qaQ h)
 | _,_, .two n op a b _ h1 h2=>qni rfl rfl (qaQ h1) (qaQ h2)
def qp8{lb:List B}{n:Nat}{c:Cond}(h:GC lb n c):CS n c:=by
 cases h with
 |any=>exact Zq rfl
 |top v f h=>exact Zq rfl
 |inner c h=>exact qaQ h
def qmL(l:List B)(x:B):Bool:=l.any λz=>decide (z=x)
def Wg(l:List B)(x:B):qmL l x=true↔x∈l:=by
 unfold qmL;rw[qBa];exact⟨λ⟨z,h1,h2⟩=>by rw[decide_eq_true_eq]at h2;rwa [<-h2],λh=>⟨x,h,decide_eq_true rfl⟩⟩
instance decMem (l:List B) (x:B):Decidable (x∈l):=if h:qmL l x=true then .isTrue ((Wg l x).1 h)else .isFalse λhx=>h ((Wg l x).2 hx)
mutual
def xU(lb:List B):Cond->Cond
 | .mk op n a v l f ks=>if op=4 then(if l∈lb then .mk op n a v l f ks else⟨2,n,E0,⟨#[97,124,88]⟩,E0,false, []⟩)else .mk op n a v l f (Vk lb ks)
def Vk(lb:List B):List Cond->List Cond
 | []=>[]
 |k::ks=>xU lb k::Vk lb ks
end
def PQ(lb:List B):∀l:List Cond,Vk lb l=l.map (xU lb)
 | []=>by rw[Vk];rfl
 |k::l=>by rw[Vk,PQ lb l];rfl
def lH(lb:List B)(c:Cond):xU lb c=if c.op=4 then(if c.lab∈lb then c else⟨2,c.name,E0,⟨#[97,124,88]⟩,E0,false, []⟩)else⟨c.op,c.name,c.arg,c.val,c.lab,c.fold,c.kids.map (xU lb)⟩:=by
 cases c;rw[xU,PQ]
def YI(lb:List B):xU lb Cond0=Cond0:=by
 rw[lH,if_neg (show ¬Cond0.op=4 from by decide)];rfl
mutual
def mT(lb:List B):Pat->Pat
 | .mk op c l r mn mx ks=>⟨op,xU lb c,l,r,mn,mx,NP lb ks⟩
def NP(lb:List B):List Pat->List Pat
 | []=>[]
 |k::ks=>mT lb k::NP lb ks
end
def NO(lb:List B):∀l:List Pat,NP lb l=l.map (mT lb)
 | []=>by rw[NP];rfl
 |k::l=>by rw[NP,NO lb l];rfl
def rU(lb:List B)(p:Pat):mT lb p=⟨p.op,xU lb p.cond,p.lab,p.reg,p.mn,p.mx,p.kids.map (mT lb)⟩:=by
 cases p;rw[mT,NO]
def Df(out:List B)(x:B):List B:=if x∈out then out else out++ [x]
mutual
def ju:Pat->List B->List B
 | .mk op c l r mn mx ks,out=>if op=1/\l≠E0 then Df out l else Xp ks out
def Xp:List Pat->List B->List B
 | [],out=>out
 |k::ks,out=>Xp ks (ju k out)
end
def NN:∀(l:List Pat) (out:List B),Xp l out=l.foldl (λo k=>ju k o) out
 | [],out=>by rw[Xp];rfl
 |k::l,out=>by rw[Xp,NN l];rfl
def pR(p:Pat)(out:List B):ju p out=if p.op=1/\p.lab≠E0 then Df out p.lab else p.kids.foldl (λo k=>ju k o) out:=by
 cases p;rw[ju,NN]
theorem SD{lb lb':List B} :∀{n:Nat} {c:Cond},GI lb n c->GI lb' n (xU lb' c)
 | _,_, .atom n c h=>by
   cases h with
   |val nm v f h1 h2=>rw[lH,if_neg (by decide:¬(2:Int)=4)];exact .atom _ _ (.val nm v f h1 h2)
   |feat v h=>rw[lH,if_neg (by decide:¬(3:Int)=4)];exact .atom _ _ (.feat v h)
   | same nm l a h1 h2 h3=>
     rw[lH,if_pos rfl];split
     ·rename_i hl;exact .atom _ _ (.same nm l a h1 hl h3)
     ·exact .atom _ _ (.val nm _ false h1 (by simp[ValsI]))
   |reg nm h=>rw[lH,if_neg (by decide:¬(5:Int)=4)];exact .atom _ _ (.reg nm h)
   |regk nm v h1 h2=>rw[lH,if_neg (by decide:¬(5:Int)=4)];exact .atom _ _ (.regk nm v h1 h2)
 | _,_, .not n k h=>by
   rw[lH,if_neg (by decide:¬(6:Int)=4)];exact .not n _ (SD h)
 | _,_, .two n op a b ho h1 h2=>by
   rw[lH,if_neg (show ¬op=4 by omega)];exact .two n op _ _ ho (SD h1) (SD h2)
def qmN{lb lb':List B}{n:Nat}{c:Cond}(h:GC lb n c):GC lb' n (xU lb' c):=by
 cases h with
 |any=>rw[lH,if_neg (by decide:¬(1:Int)=4)];exact .any
 |top v f h=>rw[lH,if_neg (by decide:¬(2:Int)=4)];exact .top v f h
 |inner c h=>exact .inner _ (SD h)
def qdq{lb lb':List B}{p:Pat}(h:qoI lb p):qoI lb (mT lb' p):=by
 rw[rU];rcases h with⟨h1,h2,h3,h4,h5,h6⟩|⟨h1,h2,h3,h4,h5,h6,h7⟩
 ·exact .inl ⟨h1,h2,h3,h4,h5,by show p.kids.map _=[];rw[h6];rfl⟩
 ·exact .inr ⟨h1,by show xU lb' p.cond=_;rw[h2,YI],h3,h4,h5,h6,by show p.kids.map _=[];rw[h7];rfl⟩
def qh3{lb lb':List B} :∀n p,WP lb n p->WP lb n (mT lb' p):=by
 refine Ho λn p hp ih=>?_
 rcases xw hp with hp|⟨m,rfl,(⟨h1,h2,h3,h4,h5,h6,a,b,h7,ha,hb⟩|⟨h1,h2,h3,h4,h5,a,h7,ha⟩)⟩
 ·exact quF (qdq hp)
 ·obtain⟨m1,e1,_,a1⟩:=ih a (by rw[h7];simp);obtain⟨m2,e2,_,a2⟩:=ih b (by rw[h7];simp);have e1:m1=m:=by omega
  have e2:m2=m:=by omega
  subst e1;subst e2;rw[rU];exact .inr (.inl ⟨h1,by show xU lb' p.cond=_;rw[h2,YI],h3,h4,h5,h6,_,_,by show p.kids.map _=_;rw[h7];rfl,a1,a2⟩)
 ·obtain⟨m1,e1,_,a1⟩:=ih a (by rw[h7];simp);have e1:m1=m:=by omega
  subst e1;rw[rU];exact .inr (.inr ⟨h1,by show xU lb' p.cond=_;rw[h2,YI],h3,h4,h5,_,by show p.kids.map _=_;rw[h7];rfl,a1⟩)
def VX(lb:List B)(p:Pat):aq (mT lb p)=(aq p).map (mT lb):=by
 induction p using fZ with|_ p ih=>?_
 rw[bc,bc p,rU];simp only;split
 ·rw[List.map_singleton,rU]
 ·rw[List.flatMap_map,List.map_flatMap];have:∀ks:List Pat,(∀k∈ks,aq (mT lb k)=(aq k).map (mT lb))->ks.flatMap (λa=>aq (mT lb a))=ks.flatMap (λa=>(aq a).map (mT lb)):=by
   intro ks
   induction ks with
   |nil=>intro _;rfl
   | cons k ks ihk=>
     intro h;rw[qAw,qAw,h k (by simp),ihk λz hz=>h z (by simp[hz])]
  exact this p.kids ih
def qhb(lb:List B)(p:Pat):∀out,ju (mT lb p) out=ju p out:=by
 induction p using fZ with|_ p ih=>?_
 intro out;rw[pR,pR p,rU];simp only;split
 ·rfl
 ·have:∀(ks:List Pat) (o:List B),(∀k∈ks,∀out,ju (mT lb k) out=ju k out)->(ks.map (mT lb)).foldl (λo k=>ju k o) o=ks.foldl (λo k=>ju k o) o:=by
   intro ks
   induction ks with
   |nil=>intro o _;rfl
   | cons k ks ihk=>
     intro o h;rw[qAo,qAU,qAU,h k (by simp),ihk _ λz hz=>h z (by simp[hz])]
  exact this p.kids out ih
def qhr{out:List B}{x y:B}(h:y∈Df out x):y∈out\/y=x:=by
 unfold Df at h;split at h
 ·exact .inl h
 ·rcases qz5.1 h with h|h
  ·exact .inl h
  ·exact .inr (by simpa using h)
theorem qkh{lb:List B} :∀n p,WP lb n p->∀out,(∀y∈ju p out,y∈out\/y∈lb):=by
 refine Ho λn p hp ih=>λout y hy=>?_
 rw[pR]at hy;split at hy
 ·rename_i h;rcases qhr hy with h1|rfl
  ·exact .inl h1
  ·rcases xw hp with(⟨h1,h2,_⟩|⟨h1,_⟩)|⟨m,rfl,(⟨h1,_⟩|⟨h1,_⟩)⟩
   ·exact .inr (h2.resolve_left h.2)
   ·omega
   ·omega
   ·omega
 ·have:∀(ks:List Pat) (o:List B),(∀k∈ks,k∈p.kids)->y∈ks.foldl (λo k=>ju k o) o->y∈o\/y∈lb:=by
   intro ks
   induction ks with
   |nil=>intro o _ h;exact .inl h
   | cons k ks ihk=>
     intro o hk h;rw[qAU]at h;rcases ihk _ (λz hz=>hk z (by simp[hz])) h with h1|h1
     ·obtain⟨m,_,_,h2⟩:=ih k (hk k (by simp));exact h2 o y h1
     ·exact .inr h1
  exact this p.kids out (λ_ h=>h) hy
def qbs:List B:=[⟨#[97]⟩,⟨#[98,124,99]⟩,⟨#[46]⟩]
def Xz:List B:=[⟨#[111,98,106]⟩,⟨#[100,101,116]⟩,⟨#[]⟩]
def qbp:List B:=[⟨#[83]⟩,⟨#[78,80]⟩,⟨#[86,80]⟩]
inductive GG (lb:List B):Nat->Glob->Prop
 |bound (n:Nat) (a:B) (h:a∈lb):GG lb n ⟨1,a,E0,E0,E0,E0,false,0,0, [], []⟩
 |val (n:Nat) (a v:B) (f:Bool) (h1:a∈lb) (h2:v∈qbs):GG lb n ⟨2,a,E0,LH,E0,v,f,0,0, [], []⟩
 |same (n:Nat) (a b g:B) (h1:a∈lb) (h2:b∈lb) (h3:g∈Attr2):GG lb n ⟨3,a,b,LH,g,E0,false,0,0, [], []⟩
 |dist (n:Nat) (a b:B) (mn mx:Int) (h1:a∈lb) (h2:b∈lb) (h3: -2<=mn) (h4:mn<=2) (h5:mn<=mx) (h6:mx<=mn+3):GG lb n ⟨4,a,b,E0,E0,E0,false,mn,mx, [], []⟩
 |reg (n:Nat) (a b t:B) (h1:a∈lb) (h2:b∈lb) (h3:t∈Types):GG lb n ⟨5,a,b,t,E0,E0,false,0,0, [], []⟩
 |head (n:Nat) (op:Int) (a b:B) (ho:op=6\/op=7) (h1:a∈lb) (h2:b∈lb):GG lb n ⟨op,a,b,E0,E0,E0,false,0,0, [], []⟩
 |path (n:Nat) (a b:B) (l:List B) (h1:a∈lb) (h2:b∈lb) (h3:l.length<=2) (h4:∀x∈l,x∈Xz):GG lb n ⟨8,a,b,E0,E0,E0,false,0,0,l, []⟩
 |node (n:Nat) (a b t:B) (h1:a∈lb) (h2:b∈lb) (h3:t∈qbp):GG lb n ⟨9,a,b,t,E0,E0,false,0,0, [], []⟩
 |depth (n:Nat) (a:B) (mn mx:Int) (h1:a∈lb) (h3:0<=mn) (h4:mn<=2) (h5:mn<=mx) (h6:mx<=mn+1):GG lb n ⟨10,a,E0,E0,E0,E0,false,mn,mx, [], []⟩
 |not (n:Nat) (k:Glob) (h:GG lb n k):GG lb (n+1) ⟨11,E0,E0,E0,E0,E0,false,0,0, [], [k]⟩
 |two (n:Nat) (op:Int) (a b:Glob) (ho:op=12\/op=13) (h1:GG lb n a) (h2:GG lb n b):GG lb (n+1) ⟨op,E0,E0,E0,E0,E0,false,0,0, [], [a,b]⟩
def GF(f:tM):Prop:=(f.op=1\/f.op=2\/f.op=3)/\f.reg∈Types
structure GQ (n:Nat) (q:Qry):Prop where
 lab:∃lb,qhN lb/\WP lb n q.pat
 cond:∀y∈aq q.pat,GC (ju q.pat []) 1 y.cond
 glob:q.glob=GlobE\/GG (ju q.pat []) 2 q.glob
 filts:q.filts.length<=1/\∀f∈q.filts,GF f
 strat:0<=q.strat/\q.strat< 4
open Go.Proofs
def qh4:∀w∈Xv,w∈wordsA:=by decide
def qlG:∀w∈qhw,w∈wordsA:=by decide
def qjE:∀w∈QD,w∈wordsA:=by decide
def qir:∀w∈ValsI,w∈valsA:=by decide
def qgE:mD∈wordsA:=by decide
def qkB{toks:List (List B)}(h:∀r∈toks,He r)(i k:Int):vK toks i k∈wordsA:=by
 unfold vK;split
 ·exact qgE
 ·split
  ·rename_i r hr;obtain⟨w,t,f,hw,ht,hf,rfl⟩:=h r (qzY hr);split
   ·rename_i s hs;have hm:=qzY hs;simp only[qAc,qAL,or_false]at hm;rcases hm with rfl|rfl|rfl
    ·exact qh4 _ hw
    ·exact qlG _ ht
    ·exact qjE _ hf
   ·exact qgE
  ·exact qgE
def qdb:lR gJ LO=2:=by decide
def qdE{toks:List (List B)}(h:∀r∈toks,He r){i:Int}(h0:0<=i)(h1:i<toks.length):∃f∈QD,vK toks i 2=f:=by
 obtain⟨j,rfl⟩:∃j:Nat,i=(j:Int):=⟨i.toNat,by omega⟩
 obtain⟨r,hr⟩:∃r,toks[j]? =some r:=⟨toks[j]'(by omega),qzX _⟩
 obtain⟨w,t,f,hw,ht,hf,rfl⟩:=h r (qzY hr);refine⟨f,hf,?_⟩;unfold vK;rw[if_neg (by omega),show((j:Int)).toNat=j from rfl,hr];rfl
structure XJ (E:Pj):Prop where
 c:OkCorp E.c
 t0:0<=E.tok
 t1:E.tok<E.c.toks.length
 l:E.bd.length=E.lb.length
theorem qk1{E:Pj}(hE:XJ E){n:Nat}{x:Cond}(h:GA E.lb x):∃y,vI E (n+1) x=some y:=by
 cases h with
 | val nm v f h1 h2=>
   obtain⟨y,hy⟩:=MS (qir v h2) (qkB hE.c.2.2.2 E.tok (zB E.c.attrs nm)) f;refine⟨y,?_⟩;unfold vI;rw[if_neg (show ¬(2:Int)=1 by decide),if_pos rfl];exact hy
 | feat v h=>
   obtain⟨f,hf,e⟩:=qdE hE.c.2.2.2 hE.t0 hE.t1;have hv:v=⟨#[112]⟩\/v=⟨#[113]⟩:=by simpa [FeatL]using h
   have hfs:(featS.any λz=>decide (z=f))=true:=qBa.2 ⟨f,hf,decide_eq_true rfl⟩;refine⟨featS.any (λ_=>false)||f.data.toList.any λc=>decide (v.data.toList=[c]),?_⟩;unfold vI;rw[if_neg (show ¬(3:Int)=1 by decide),if_neg (show ¬(3:Int)=2 by decide),if_pos rfl];simp only[hE.c.1,qdb,e];unfold Sz;rw[if_pos ⟨hfs,hv⟩];simp
 | same nm l a h1 h2 h3=>
   obtain⟨k,hk⟩:∃k:Nat,kB E.lb (λz=>decide (z=l))=(k:Int):=by
    rcases M5 (λz=>decide (z=l)) E.lb with⟨e,h⟩|⟨k,_,e,_⟩
    ·have:=h l h2;simp at this
    ·exact⟨k,e⟩
   have hr:=M4 (λz=>decide (z=l)) E.lb;obtain⟨o,ho⟩:∃o,E.bd[k]? =some o:=⟨E.bd[k]'(by have:=hE.l;omega),qzX _⟩
   refine⟨decide (0<=o) && decide (vK E.c.toks E.tok (lR E.c.attrs nm)=vK E.c.toks o (lR E.c.attrs a)),?_⟩;unfold vI;rw[if_neg (show ¬(4:Int)=1 by decide),if_neg (show ¬(4:Int)=2 by decide),if_neg (show ¬(4:Int)=3 by decide),if_pos rfl];simp only[hk];rw[if_neg (by omega),show((k:Int)).toNat=k from rfl,ho]
 |reg nm h=>exact⟨_,by unfold vI;rw[if_neg (show ¬(5:Int)=1 by decide),if_neg (show ¬(5:Int)=2 by decide),if_neg (show ¬(5:Int)=3 by decide),if_neg (show ¬(5:Int)=4 by decide),if_pos rfl]⟩
 |regk nm v h1 h2=>exact⟨_,by unfold vI;rw[if_neg (show ¬(5:Int)=1 by decide),if_neg (show ¬(5:Int)=2 by decide),if_neg (show ¬(5:Int)=3 by decide),if_neg (show ¬(5:Int)=4 by decide),if_pos rfl]⟩
def qfS{E:Pj}{n:Nat}{k:Cond}{y:Bool}(h:vI E n k=some y):vI E (n+1) ⟨6,E0,E0,E0,E0,false, [k]⟩=some (!y):=by
 unfold vI;rw[if_neg (show ¬(6:Int)=1 by decide),if_neg (show ¬(6:Int)=2 by decide),if_neg (show ¬(6:Int)=3 by decide),if_neg (show ¬(6:Int)=4 by decide),if_neg (show ¬(6:Int)=5 by decide),if_pos rfl];simp only[h];rfl
def qfU{E:Pj}{n:Nat}{a b:Cond}{p q:Bool}(h1:vI E n a=some p)(h2:vI E n b=some q):vI E (n+1) ⟨7,E0,E0,E0,E0,false, [a,b]⟩=some (p && q):=by
 unfold vI;rw[if_neg (show ¬(7:Int)=1 by decide),if_neg (show ¬(7:Int)=2 by decide),if_neg (show ¬(7:Int)=3 by decide),if_neg (show ¬(7:Int)=4 by decide),if_neg (show ¬(7:Int)=5 by decide),if_neg (show ¬(7:Int)=6 by decide),if_pos (by simp[h1,h2]),if_pos rfl];simp[h1,h2]
def qk0{E:Pj}{n:Nat}{a b:Cond}{p q:Bool}(h1:vI E n a=some p)(h2:vI E n b=some q):vI E (n+1) ⟨8,E0,E0,E0,E0,false, [a,b]⟩=some (p||q):=by
 unfold vI;rw[if_neg (show ¬(8:Int)=1 by decide),if_neg (show ¬(8:Int)=2 by decide),if_neg (show ¬(8:Int)=3 by decide),if_neg (show ¬(8:Int)=4 by decide),if_neg (show ¬(8:Int)=5 by decide),if_neg (show ¬(8:Int)=6 by decide),if_pos (by simp[h1,h2]),if_neg (show ¬(8:Int)=7 by decide)];simp[h1,h2]
def qaN{E:Pj}(hE:XJ E):∀{n m:Nat} {x:Cond},GI E.lb n x->n<m->∃y,vI E m x=some y
 | _,m+1,_, .atom n c h,_=>qk1 hE h
 | _,m+1,_, .not n k h,hm=>by
   obtain⟨y,hy⟩:=qaN (m:=m) hE h (by omega);exact⟨_,qfS hy⟩
 | _,m+1,_, .two n op a b ho h1 h2,hm=>by
   obtain⟨p,hp⟩:=qaN (m:=m) hE h1 (by omega);obtain⟨q,hq⟩:=qaN (m:=m) hE h2 (by omega);rcases ho with rfl|rfl
   ·exact⟨_,qfU hp hq⟩
   ·exact⟨_,qk0 hp hq⟩
def qfT{E:Pj}(hE:XJ E){n m:Nat}{x:Cond}(h:GC E.lb n x)(hm:n<m):∃y,vI E m x=some y:=by
 obtain⟨m,rfl⟩:∃k,m=k+1:=⟨m -1,by omega⟩
 cases h with
 |any=>exact⟨true,by unfold vI;rw[if_pos rfl]⟩
 | top v f h=>
   have hv:v∈valsA:=(by decide:∀w∈ValsT,w∈valsA) v h;obtain⟨y,hy⟩:=MS hv (qkB hE.c.2.2.2 E.tok (zB E.c.attrs E0)) f;refine⟨y,?_⟩;unfold vI;rw[if_neg (show ¬(2:Int)=1 by decide),if_pos rfl];exact hy
 |inner c h=>exact qaN hE h hm
def qoW:Bool:=Attr2.all λnm=>ValsI.all λv=>pW gJ [] ⟨2,nm,E0,v,E0,false, []⟩ && pW gJ [] ⟨2,nm,E0,v,E0,true, []⟩
def qlA:qoW=true:=by kernel_rfl
def qo0:Bool:=ValsT.all λv=>pW gJ [] ⟨2,E0,E0,v,E0,false, []⟩ && pW gJ [] ⟨2,E0,E0,v,E0,true, []⟩
def qlE:qo0=true:=by kernel_rfl
def qmR:Bool:=FeatL.all λv=>pW gJ [] ⟨3,LO,E0,v,E0,false, []⟩
def qjM:qmR=true:=by kernel_rfl
def qpp:Bool:=Types.all λn=>pW gJ [] ⟨5,n,E0,E0,E0,false, []⟩ && NumL.all λv=>pW gJ [] ⟨5,n,qrN,v,E0,false, []⟩
def qeX:qpp=true:=by kernel_rfl
def qvw:Bool:=Attr2.all λn=>decide (0<=lR gJ n)
def qkX:qvw=true:=by kernel_rfl
def VE{lb:List B}{nm v:B}{f:Bool} :pW gJ lb ⟨2,nm,E0,v,E0,f, []⟩=pW gJ [] ⟨2,nm,E0,v,E0,f, []⟩:=rfl
def qcc{lb:List B}{v:B} :pW gJ lb ⟨3,LO,E0,v,E0,false, []⟩=pW gJ [] ⟨3,LO,E0,v,E0,false, []⟩:=rfl
def VF{lb:List B}{n a v:B} :pW gJ lb ⟨5,n,a,v,E0,false, []⟩=pW gJ [] ⟨5,n,a,v,E0,false, []⟩:=rfl
theorem qaw{lb:List B}{x:Cond}(h:GA lb x):pW gJ lb x=true:=by
 cases h with
 | val nm v f h1 h2=>
   rw[VE];have h:=qz4.1 (qz4.1 qlA nm h1) v h2;simp only[qzZ]at h;cases f
   ·exact h.1
   ·exact h.2
 | feat v h=>
   rw[qcc];exact qz4.1 qjM v h
 | same nm l a h1 h2 h3=>
   have e1:=qz4.1 qkX nm h1;have e2:=qz4.1 qkX a h3;have e3:(lb.any λz=>decide (z=l))=true:=qBa.2 ⟨l,h2,decide_eq_true rfl⟩;have s1:qlU ⟨4,nm,a,E0,l,false, []⟩=true:=by
    unfold qlU;rw[if_neg (show ¬(4:Int)=1 by decide),if_neg (show ¬(4:Int)=2 by decide),if_neg (show ¬(4:Int)=3 by decide),if_pos rfl];rfl
   have s2:qkY gJ ⟨4,nm,a,E0,l,false, []⟩=true:=by
    unfold qkY;rw[if_neg (show ¬(4:Int)=2 by decide),if_neg (show ¬(4:Int)=3 by decide),if_pos rfl];exact decide_eq_true ⟨of_decide_eq_true e1,of_decide_eq_true e2⟩
   have s3:qtV gJ lb ⟨4,nm,a,E0,l,false, []⟩=true:=by
    unfold qtV;rw[if_neg (show ¬(4:Int)=2 by decide),if_neg (show ¬(4:Int)=3 by decide),if_pos rfl];exact e3
   unfold pW;rw[s1,s2,s3];rfl
 | reg nm h=>
   rw[VF];have h:=qz4.1 qeX nm h;simp only[qzZ]at h;exact h.1
 | regk nm v h1 h2=>
   rw[VF];have h:=qz4.1 qeX nm h1;simp only[qzZ]at h;exact qz4.1 h.2 v h2
def zq{a:List Attr}{lb:List B}{m:Nat}{x:Cond}(h:pW a lb x=true)(hk:x.kids=[]):rH a lb (m+1) x=true:=by
 show(pW a lb x && x.kids.all (rH a lb m))=true;rw[h,hk];rfl
def P1{lb:List B}{m:Nat}{k:Cond}(h:rH gJ lb m k=true):rH gJ lb (m+1) ⟨6,E0,E0,E0,E0,false, [k]⟩=true:=by
 have e:pW gJ lb ⟨6,E0,E0,E0,E0,false, [k]⟩=true:=rfl;show(pW gJ lb ⟨6,E0,E0,E0,E0,false, [k]⟩ && [k].all (rH gJ lb m))=true;rw[e];simp[h]
def P0{lb:List B}{m:Nat}{op:Int}{a b:Cond}(ho:op=7\/op=8)(h1:rH gJ lb m a=true)(h2:rH gJ lb m b=true):rH gJ lb (m+1) ⟨op,E0,E0,E0,E0,false, [a,b]⟩=true:=by
 have e:pW gJ lb ⟨op,E0,E0,E0,E0,false, [a,b]⟩=true:=by rcases ho with rfl|rfl<;>rfl
 show(pW gJ lb ⟨op,E0,E0,E0,E0,false, [a,b]⟩ && [a,b].all (rH gJ lb m))=true;rw[e];simp[h1,h2]
def Gn{lb:List B} :∀{n m:Nat} {x:Cond},GI lb n x->n<m->rH gJ lb m x=true
 | _,m+1,_, .atom n c h,_=>zq (qaw h) (zz h)
 | _,m+1,_, .not n k h,hm=>P1 (Gn h (by omega))
 | _,m+1,_, .two n op a b ho h1 h2,hm=>P0 ho (Gn h1 (by omega)) (Gn h2 (by omega))
def qjb{k:Cond}{op:Int} :gL ⟨op,E0,E0,E0,E0,false, [k]⟩=gL k+1:=by rw[gL,eX,eX]
def qja{a b:Cond}{op:Int} :gL ⟨op,E0,E0,E0,E0,false, [a,b]⟩=gL a+gL b+1:=by rw[gL,eX,eX,eX];omega
def qjZ{k:Cond}{op:Int} :dm ⟨op,E0,E0,E0,E0,false, [k]⟩=dm k+1:=by rw[dm,iA,iA];omega
def qjY{a b:Cond}{op:Int} :dm ⟨op,E0,E0,E0,E0,false, [a,b]⟩=max (dm a) (dm b) +1:=by rw[dm,iA,iA,iA];omega
def M0{x:Cond}(h:x.kids=[]):gL x=1/\dm x=1:=by
 rw[zr,Ha,h];exact⟨rfl,rfl⟩
def SE{lb:List B} :∀{n:Nat} {x:Cond},GI lb n x->gL x+1<=2^ (n+1)/\dm x<=n+1
 | _,_, .atom n c h=>by
   have:=M0 (zz h);have h2:2^1<=2^ (n+1):=Nat.pow_le_pow_right (by decide) (by omega);omega
 | _,_, .not n k h=>by
   have:=SE h;rw[qjb,qjZ,Nat.pow_succ];omega
 | _,_, .two n op a b ho h1 h2=>by
   have:=SE h1;have:=SE h2;rw[qja,qjY,Nat.pow_succ];omega
def qf9{lb:List B}{n:Nat}{x:Cond}(h:GC lb n x):gL x+1<=2^ (n+1)/\dm x<=n+1:=by
 have h2:2^1<=2^ (n+1):=Nat.pow_le_pow_right (by decide) (by omega);cases h with
 |any=>have:=M0 (x:=⟨1,E0,E0,E0,E0,false, []⟩) rfl;omega
 |top v f h=>have:=M0 (x:=⟨2,E0,E0,v,E0,f, []⟩) rfl;omega
 |inner c h=>exact SE h
def MN{lb:List B}{n m:Nat}{x:Cond}(h:GC lb n x)(hm:n<m):rH gJ lb m x=true:=by
 obtain⟨m,rfl⟩:∃k,m=k+1:=⟨m -1,by omega⟩
 cases h with
 |any=>exact zq rfl rfl
 | top v f h=>
   refine zq ?_ rfl;have h:=qz4.1 qlE v h;simp only[qzZ]at h;rw[VE];cases f
   ·exact h.1
   ·exact h.2
 |inner c h=>exact Gn h hm
def qfc{a:List Attr}{lb:List B}{x:Cond}(h1:gL x<=60)(h2:dm x<=20)(h3:rH a lb 20 x=true):qhW a lb x=true:=by
 unfold qhW;rw[decide_eq_true ⟨h1,h2⟩,h3];rfl
def qmn{lb:List B}{n:Nat}{x:Cond}(h:GC lb n x)(hn:n<=4):qhW gJ lb x=true:=by
 obtain⟨h1,h2⟩:=qf9 h;have h3:2^ (n+1)<=2^5:=Nat.pow_le_pow_right (by decide) (by omega);exact qfc (by omega) (by omega) (MN h (by omega))
open Cod (enc dec)
section
variable {S:Nat->Spc}{σ:Sg}{H Hr:ab}{K:D->ab->Prop}
def qmv(dst:Option Nat)(H:ab)(K:D->ab->Prop):Prop:=match dst with
 |some t=>∀x,K (.own t x) (ai H t (some (.mrow x [])))
 |none=>False
@[simp] theorem qvE(t:Nat)(H:ab)(K:D->ab->Prop):qmv (some t) H K=∀x,K (.own t x) (ai H t (some (.mrow x []))):=i' rfl
def qco(id:Nat)(x:Value)(ka:Bool)(ks:List KK)(k v:D)(r:Option Res)(H:ab)(K:D->ab->Prop):Prop:=match r with
 |some (.mrow x' es)=>x'=x/\ZR ka ks k v es λes'=>K .undef (ai H id (some (.mrow x' es')))
 | _=>False
@[simp] theorem qvA(id:Nat)(x x':Value)(ka:Bool)(ks:List KK)(k v:D)(es:List D)(H:ab)(K:D->ab->Prop):qco id x ka ks k v (some (.mrow x' es)) H K=(x'=x/\ZR ka ks k v es λes'=>K .undef (ai H id (some (.mrow x' es')))):=i' rfl
def qfo(ka:Bool)(ks:List KK)(d k v:D)(H:ab)(K:D->ab->Prop):Prop:=match d with
 | .own id x=>qco id x ka ks k v (H id) H K
 | _=>False
@[simp] theorem qvz(id:Nat)(x:Value)(ka:Bool)(ks:List KK)(k v:D)(H:ab)(K:D->ab->Prop):qfo ka ks (.own id x) k v H K=qco id x ka ks k v (H id) H K:=i' rfl
def qfp(dst:Option Nat)(d:D)(H:ab)(K:D->ab->Prop):Prop:=match dst with
 | some t=>(match d with
   | .mp es=>∀b,K (.bptr t b 0) (ai H t (some (.miter b [] es)))
   | .v (.map none)=>∀b,K (.bptr t b 0) (ai H t (some (.miter b [] [])))
   | .own id x=>Jp t id x (H id) H K
   | _=>False)
 |none=>False
@[simp] theorem qvB(t id:Nat)(x:Value)(H:ab)(K:D->ab->Prop):qfp (some t) (.own id x) H K=Jp t id x (H id) H K:=i' rfl
@[simp] theorem qr4(t id:Nat)(x x':Value)(es:List D)(H:ab)(K:D->ab->Prop):Jp t id x (some (.mrow x' es)) H K=(x'=x/\∀b st clock,qlk st clock es.length->K (.bptr t b 0) (ai (ai H id (some (.raw (.mrs x' es st clock)))) t (some (.raw (.mit b id x' clock []))))):=i' rfl
@[congr] theorem qpn{t id:Nat}{x:Value}{r r':Option Res}{H:ab}{K:D->ab->Prop}(h:r=r'):Jp t id x r H K=Jp t id x r' H K:=by subst h;rfl
def qcr(id:Nat)(x:Value)(ka:Bool)(ks:List KK)(k:D)(r:Option Res)(H:ab)(K:D->ab->Prop):Prop:=match r with
 |some (.raw (.mrs x' es st clock))=>x'=x/\WJ ka ks k es st λes' st'=>K (.tup []) (ai H id (some (.raw (.mrs x' es' st' clock))))
 | _=>False
@[simp] theorem qvP(id:Nat)(x x':Value)(ka:Bool)(ks:List KK)(k:D)(es:List D)(st:List Nat)(c:Nat)(H:ab)(K:D->ab->Prop):qcr id x ka ks k (some (.raw (.mrs x' es st c))) H K=(x'=x/\WJ ka ks k es st λes' st'=>K (.tup []) (ai H id (some (.raw (.mrs x' es' st' c))))):=i' rfl
def qfy(ka:Bool)(ks:List KK)(d k:D)(H:ab)(K:D->ab->Prop):Prop:=match d with
 | .own id x=>qcr id x ka ks k (H id) H K
 | _=>False
@[simp] theorem qvO(id:Nat)(x:Value)(ka:Bool)(ks:List KK)(k:D)(H:ab)(K:D->ab->Prop):qfy ka ks (.own id x) k H K=qcr id x ka ks k (H id) H K:=i' rfl
@[congr] theorem qsC{id:Nat}{x:Value}{ka:Bool}{ks:List KK}{k k':D}{r r':Option Res}{H:ab}{K:D->ab->Prop}(h1:k=k')(h3:r=r'):qcr id x ka ks k r H K=qcr id x ka ks k' r' H K:=by subst h1;subst h3;rfl
@[congr] theorem qsB{ka:Bool}{ks:List KK}{d d' k k':D}{H:ab}{K:D->ab->Prop}(h0:d=d')(h1:k=k'):qfy ka ks d k H K=qfy ka ks d' k' H K:=by subst h0;subst h1;rfl
@[simp] theorem qsn(id b m:Nat)(x x':Value)(c c':Nat)(seen st:List Nat)(es:List D)(H:ab)(K:D->ab->Prop):Jz id b m x c seen (some (.raw (.mrs x' es st c'))) H K=(x'=x/\c'=c/\((∀s∈st,s∈seen)->K (.tup [.v (.bool false)]) (ai H m (some (.mrow x' es))))/\
 ∀s,s∈st->s∉seen->K (.tup [.v (.bool true), .any, .any]) (ai H id (some (.raw (.mit b m x c (seen++ [s])))))):=i' rfl
@[congr] theorem qpz{id b m:Nat}{x:Value}{c:Nat}{seen:List Nat}{r r':Option Res}{H:ab}{K:D->ab->Prop}(h:r=r'):Jz id b m x c seen r H K=Jz id b m x c seen r' H K:=by subst h;rfl
@[simp] theorem qtN(x x':Value)(c c':Nat)(seen st:List Nat)(s:Nat)(es:List D)(K:D->Prop):Du x c (seen++ [s]) (some (.raw (.mrs x' es st c'))) K=(x'=x/\c'=c/\s∈st/\∀(i:Nat) (e:D),st[i]? =some s->es[i]? =some e->K e):=by
 unfold Du;simp
@[congr] theorem qqF{x:Value}{c:Nat}{seen:List Nat}{r r':Option Res}{K:D->Prop}(h:r=r'):Du x c seen r K=Du x c seen r' K:=by subst h;rfl
def qcp(id b:Nat)(r:Option Res)(H:ab)(K:D->ab->Prop):Prop:=match r with
 |some (.miter b' cur left)=>b'=b/\(left=[]->K (.tup [.v (.bool false)]) H)/\∀l1 e l2,left=l1++e::l2->K (.tup [.v (.bool true), .any, .any]) (ai H id (some (.miter b' [e] (l1++l2))))
 |some (.raw (.mit b' m x clock seen))=>b'=b/\Jz id b' m x clock seen (H m) H K
 | _=>False
@[simp] theorem qvD(id b b' m:Nat)(x:Value)(c:Nat)(seen:List Nat)(H:ab)(K:D->ab->Prop):qcp id b (some (.raw (.mit b' m x c seen))) H K=(b'=b/\Jz id b' m x c seen (H m) H K):=i' rfl
def qfr(d:D)(H:ab)(K:D->ab->Prop):Prop:=match d with
 | .bptr id b off=>off=0/\qcp id b (H id) H K
 | _=>False
@[simp] theorem qvC(i b off:Nat)(H:ab)(K:D->ab->Prop):qfr (.bptr i b off) H K=(off=0/\qcp i b (H i) H K):=i' rfl
def qcq(b:Nat)(r:Option Res)(H:ab)(K:D->Prop):Prop:=match r with
 |some (.miter b' [e] _)=>b'=b/\K e
 |some (.raw (.mit b' m x c seen))=>b'=b/\Du x c seen (H m) K
 | _=>False
@[simp] theorem qvN(b b' m:Nat)(x:Value)(c:Nat)(seen:List Nat)(H:ab)(K:D->Prop):qcq b (some (.raw (.mit b' m x c seen))) H K=(b'=b/\Du x c seen (H m) K):=i' rfl
def qfx(d:D)(H:ab)(K:D->Prop):Prop:=match d with
 | .bptr id b off=>off=0/\qcq b (H id) H K
 | _=>False
@[simp] theorem qvM(i b off:Nat)(H:ab)(K:D->Prop):qfx (.bptr i b off) H K=(off=0/\qcq b (H i) H K):=i' rfl
@[congr] theorem qss{id:Nat}{x:Value}{ka:Bool}{ks:List KK}{k v k' v':D}{r r':Option Res}{H:ab}{K:D->ab->Prop}(h1:k=k')(h2:v=v')(h3:r=r'):qco id x ka ks k v r H K=qco id x ka ks k' v' r' H K:=by subst h1;subst h2;subst h3;rfl
@[congr] theorem qsr{ka:Bool}{ks:List KK}{d d' k v k' v':D}{H:ab}{K:D->ab->Prop}(h0:d=d')(h1:k=k')(h2:v=v'):qfo ka ks d k v H K=qfo ka ks d' k' v' H K:=by subst h0;subst h1;subst h2;rfl
@[congr] theorem qst{t:Option Nat}{d d':D}{H:ab}{K:D->ab->Prop}(h:d=d'):qfp t d H K=qfp t d' H K:=by subst h;rfl
@[congr] theorem qsv{id b:Nat}{r r':Option Res}{H:ab}{K:D->ab->Prop}(h:r=r'):qcp id b r H K=qcp id b r' H K:=by subst h;rfl
@[congr] theorem qsu{d d':D}{H:ab}{K:D->ab->Prop}(h:d=d'):qfr d H K=qfr d' H K:=by subst h;rfl
@[congr] theorem qsA{b:Nat}{r r':Option Res}{H:ab}{K:D->Prop}(h:r=r'):qcq b r H K=qcq b r' H K:=by subst h;rfl
@[congr] theorem qsz{d d':D}{H:ab}{K:D->Prop}(h:d=d'):qfx d H K=qfx d' H K:=by subst h;rfl
@[simp ↓] theorem qyT(dst:Option Nat):aI S (.m .mk []) dst σ H K=qmv dst H K:=by cases dst<;>rfl
@[simp ↓] theorem qyc(dst:Option Nat):ax S (.m .mk []) dst σ Hr H K=qmv dst H K:=by cases dst<;>rfl
@[simp ↓] theorem qxa(dst:Option Nat)(ka:Bool)(ks:List KK)(x k v:Operand):aI S (.m (.upd ka ks) [x,k,v]) dst σ H K=qfo ka ks (ev σ x) (ev σ k) (ev σ v) H K:=by
 show gM (.upd ka ks) [ev σ x,ev σ k,ev σ v] dst H K=_;unfold qfo qco;cases ev σ x<;>rfl
@[simp ↓] theorem qxc(dst:Option Nat)(ka:Bool)(ks:List KK)(x k:Operand):aI S (.m (.del ka ks) [x,k]) dst σ H K=qfy ka ks (ev σ x) (ev σ k) H K:=by
 show gM (.del ka ks) [ev σ x,ev σ k] dst H K=_;unfold qfy qcr;cases ev σ x<;>rfl
@[simp ↓] theorem qxb(dst:Option Nat)(x:Operand):aI S (.m .rng [x]) dst σ H K=qfp dst (ev σ x) H K:=by
 show gM .rng [ev σ x] dst H K=_;unfold qfp;cases dst<;>rfl
@[simp ↓] theorem qt3(dst:Option Nat)(x:Operand):aI S (.m .next [x]) dst σ H K=qfr (ev σ x) H K:=by
 show gM .next [ev σ x] dst H K=_;unfold qfr qcp;cases ev σ x<;>rfl
@[simp ↓] theorem qqU(dst:Option Nat)(x:Operand):aI S (.m .entry [x]) dst σ H K=qfx (ev σ x) H (λd=>K d H):=by
 show gM .entry [ev σ x] dst H K=_;unfold qfx qcq;cases ev σ x<;>rfl
end
end Go.Gv
