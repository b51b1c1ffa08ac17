/- W39 -/
import Derived.Shelf.SortG.Plain
import Derived.Shelf.SortG.SortNone
import Derived.Shelf.SlLaysNS
import Derived.Ground.SlgnProg
import Derived.Test.YtnffegdacbdhmaaGreatDoorProg
import Derived.Shelf.SlIterI.Sorted
import Derived.DataShut
import Derived.Test.YtnffegdacbdhmaaGreatDoorGe16
set_option linter.all false
set_option maxRecDepth 100000
set_option maxHeartbeats 0
open Bool renaming forall_bool → fB', exists_bool → eB'
namespace Go.Gv
section
open Cod (enc dec)
variable {S S0:Nat->Spc}
abbrev At:Spc:=qu8 (Y:=Span) a0 (λ_ l=>l.length<=100000) (λ_ l r=>r=yg l) aK 2
theorem Ac:WH (Y:=Span) ic gV S a0 (λ_ l=>l.length<=100000) (λ_ l r=>r=yg l) aK 2:=by
 rintro v l ⟨⟩ hl;simp[ic,gV];refineλ_=>⟨λh=>?_,λh2=>?_⟩
 ·exact dI l (by simp) (Qj (by omega)).symm
 ·refine au (X:=Nat) [0] [0] (λk=>1<=k/\k<=l.length/\yg (l.take k)=l.take k) (λk=>[(3,enc (k:Int))]) (λ_=>[]) (λk=>l.length -k) 1 ?_ ?_
  ·exact⟨by omega,by omega,qk8 (by omega)⟩
  ·rintro k ⟨A,C,t⟩;by_cases s:k<l.length
   ·obtain⟨x,E⟩:=aQ s;obtain⟨y,M⟩:=aQ (l:=l) (k:=k -1) (by omega);have O:((k:Int) -1).toNat=k -1:=by omega
    have e2:((k:Int)<l.length):=by omega
    have F:¬l.length<=k:=by omega
    simp[E,M,InR,O,F];intro _ _;have c:=TE A E M;refine⟨s,by omega,by omega,by omega,by omega,λQ U=>⟨C,?_⟩,λd=>⟨by omega,k+1,⟨by omega,by omega,?_⟩,by omega,by omega⟩⟩
    ·-- from here on elements W I
     have J:x=y:=Span.ext' Q U;rw[if_pos J]at c;refine aS (X:=Nat×List Span) [0] [] (λz=>z.2.length=l.length/\z.1<=l.length/\z.2.take z.1=yg l) (λz=>[(3,enc (z.1:Int))]) (λz=>[(0, .row v aK 2 (z.2.map enc))]) ?_ ?_
     ·simp;refine au (X:=Nat×Nat×List Span) [0,4] [] (λz=>z.2.2.length=l.length/\1<=z.2.1/\k+z.2.1<=l.length/\z.1<k+z.2.1/\z.2.2.take z.1=yg (l.take (k+z.2.1))/\z.2.2.drop (k+z.2.1 -1)=l.drop (k+z.2.1 -1)) (λz=>[(3,enc (z.1:Int)),(5,enc (z.2.1:Int))]) (λz=>[(0, .row v aK 2 (z.2.2.map enc))]) (λz=>l.length -z.2.1) (k,1,l) ?_ ?_
      ·simp;refine⟨by omega,?_⟩;rw[c,t]
      ·rintro⟨i,j,cur⟩ ⟨c1,c2,c3,c4,w,q⟩;simp at c1 c2 c3 c4 w q;by_cases hj:j<l.length -k
       ·obtain⟨a,N⟩:=aQ (l:=l) (k:=k+j) (by omega);obtain⟨b,hb⟩:=aQ (l:=l) (k:=k+j -1) (by omega);have K:cur[k+j]? =some a:=(NF q (by omega)).trans N;have L:cur[k+ (j -1)]? =some b:=by
         rw[show k+ (j -1)=k+j -1 by omega];exact(NF q (qFH _)).trans hb
        obtain⟨u,Z⟩:=aQ (l:=cur) (k:=i) (by omega);have hs:=TE (j:=k+j) (by omega) N hb;have p:¬l.length -k<=j:=by omega
        simp[K,L,Z,InR,p];intro _ _;refine⟨by omega,by omega,by omega,by omega,by omega,by omega,λd=>⟨by omega,by omega,by omega,by omega,by omega,i+1,j+1,cur.set i a,⟨by simp;omega,by omega,by omega,by omega,?_,?_⟩,⟨by omega, .inl ?_⟩,by omega⟩,λq3 q4=>⟨by omega,i,j+1,cur,⟨c1,by omega,by omega,by omega,?_,?_⟩,⟨by omega, .inl rfl⟩,by omega⟩⟩
        ·rw[(tA (m:=k+j) (l:=l) (by omega) c4 (we q (by omega))).1,w,show k+ (j+1)=k+j+1 by omega,hs,if_neg];rintro rfl;rcases d with h|h<;>exact h rfl
        ·rw[show k+ (j+1) -1=k+j by omega];exact(tA (m:=k+j) (l:=l) (by omega) c4 (we q (by omega))).2
        ·exact qh3 cur i a
        ·rw[w,show k+ (j+1)=k+j+1 by omega,hs,if_pos (Span.ext' q3 q4)]
        ·exact we q (by omega)
       ·have p:j=l.length -k:=by omega
        subst p;simp;intro _;refine⟨i,cur,⟨c1,by omega,?_⟩,rfl, .inl rfl⟩;rw[w,show k+ (l.length -k)=l.length by omega,qFT]
     ·rintro⟨i,cur⟩ ⟨c1,c2,c3⟩;simp at c1 c2 c3;simp;refine⟨by omega,by omega,λv=>dI (yg l) ?_ rfl⟩;have e:(yg l).map enc=(cur.map enc).take i:=by rw[<-c3,List.map_take]
      rw[e];simp[List.take_append,c1,c2]
    ·rw[if_neg (λe=>by subst e;exact d rfl rfl)]at c;rw[c,t,av E]
   ·have F:k=l.length:=by omega
    subst F;simp;rw[qFT]at t;exactλ_=>dI l (by simp) t.symm
section
variable {α:Type}[DecidableEq α]
def qtt(l:List α)(x:α):List α:=if l.getLast? =some x then l else l++ [x]
def xr(l:List α):List α:=l.foldl qtt []
def Fe(l:List α)(x:α):xr (l++ [x])=qtt (xr l) x:=by simp[xr]
def TG(l:List α):(xr l).getLast? =l.getLast?:=by
 refine vZ (P:=λl=>(xr l).getLast? =l.getLast?) rfl (λl x a=>?_) l;rw[Fe,qtt];split
 ·rename_i h;rw[h];simp
 ·simp
def qlb(l:List α):(xr l).length<=l.length:=by
 refine vZ (P:=λl=>(xr l).length<=l.length) (qFH _) (λl x a=>?_) l;rw[Fe,qtt];split<;>simp<;>omega
def qla(l:List α):∀x,x∈xr l↔x∈l:=by
 refine vZ (P:=λl=>∀x,x∈xr l↔x∈l) (λx=>qGZ) (λl y a x=>?_) l;rw[Fe,qtt];split
 ·rename_i h;rw[TG]at h;have b:y∈l:=List.mem_of_getLast? h;simp[a x];rintro rfl;exact b
 ·simp[a x]
def Qk{l:List α}(h:l.length< 2):xr l=l:=by
 match l,h with
 | [],_=>rfl
 | [x],_=>rfl
 |x::y::l,h=>exact absurd h (by simp only[qGi];omega)
def qk9{l:List α}(h:1<=l.length):xr (l.take 1)=l.take 1:=Qk (by simp;omega)
def TF{l:List α}{j:Nat}{x y:α}(a:1<=j)(b:l[j]? =some x)(c:l[j -1]? =some y):xr (l.take (j+1))=if x=y then xr (l.take j)else xr (l.take j) ++ [x]:=by
 rw[av b,Fe,qtt,TG];have:(l.take j).getLast? =some y:=by
  have e:=av c;rw[Nat.sub_add_cancel a]at e;rw[e];simp
 rw[this];by_cases h:x=y
 ·subst h;simp
 ·have:¬y=x:=λe=>h e.symm
  simp[h,this]
end
abbrev FM:Spc:=qu8 (Y:=Int) a0 (λ_ l=>l.length<=100000) (λ_ l r=>r=xr l) bj 1
theorem Da:WH (Y:=Int) kG kj S a0 (λ_ l=>l.length<=100000) (λ_ l r=>r=xr l) bj 1:=by
 rintro v l ⟨⟩ hl;simp[kG,kj];refineλ_=>⟨λh=>?_,λh2=>?_⟩
 ·exact dI l (by simp) (Qk (by omega)).symm
 ·refine au (X:=Nat) [0] [0] (λk=>1<=k/\k<=l.length/\xr (l.take k)=l.take k) (λk=>[(3,enc (k:Int))]) (λ_=>[]) (λk=>l.length -k) 1 ?_ ?_
  ·exact⟨by omega,by omega,qk9 (by omega)⟩
  ·rintro k ⟨A,C,t⟩;by_cases s:k<l.length
   ·obtain⟨x,E⟩:=aQ s;obtain⟨y,M⟩:=aQ (l:=l) (k:=k -1) (by omega);have O:((k:Int) -1).toNat=k -1:=by omega
    have e2:((k:Int)<l.length):=by omega
    have F:¬l.length<=k:=by omega
    simp[E,M,InR,O,F];intro _ _;have c:=TF A E M;refine⟨s,by omega,by omega,by omega,by omega,λQ=>⟨C,?_⟩,λd=>⟨by omega,k+1,⟨by omega,by omega,?_⟩,by omega,by omega⟩⟩
    ·-- from here on elements U I
     have J:x=y:=Q;rw[if_pos J]at c;refine aS (X:=Nat×List Int) [0] [] (λz=>z.2.length=l.length/\z.1<=l.length/\z.2.take z.1=xr l) (λz=>[(3,enc (z.1:Int))]) (λz=>[(0, .row v bj 1 (z.2.map enc))]) ?_ ?_
     ·simp;refine au (X:=Nat×Nat×List Int) [0,4] [] (λz=>z.2.2.length=l.length/\1<=z.2.1/\k+z.2.1<=l.length/\z.1<k+z.2.1/\z.2.2.take z.1=xr (l.take (k+z.2.1))/\z.2.2.drop (k+z.2.1 -1)=l.drop (k+z.2.1 -1)) (λz=>[(3,enc (z.1:Int)),(5,enc (z.2.1:Int))]) (λz=>[(0, .row v bj 1 (z.2.2.map enc))]) (λz=>l.length -z.2.1) (k,1,l) ?_ ?_
      ·simp;refine⟨by omega,?_⟩;rw[c,t]
      ·rintro⟨i,j,cur⟩ ⟨c1,c2,c3,c4,w,q⟩;simp at c1 c2 c3 c4 w q;by_cases hj:j<l.length -k
       ·obtain⟨a,N⟩:=aQ (l:=l) (k:=k+j) (by omega);obtain⟨b,hb⟩:=aQ (l:=l) (k:=k+j -1) (by omega);have K:cur[k+j]? =some a:=(NF q (by omega)).trans N;have L:cur[k+ (j -1)]? =some b:=by
         rw[show k+ (j -1)=k+j -1 by omega];exact(NF q (qFH _)).trans hb
        obtain⟨u,W⟩:=aQ (l:=cur) (k:=i) (by omega);have hs:=TF (j:=k+j) (by omega) N hb;have p:¬l.length -k<=j:=by omega
        simp[K,L,W,InR,p];intro _ _;refine⟨by omega,by omega,by omega,by omega,by omega,by omega,λd=>⟨by omega,by omega,by omega,by omega,by omega,i+1,j+1,cur.set i a,⟨by simp;omega,by omega,by omega,by omega,?_,?_⟩,⟨by omega, .inl ?_⟩,by omega⟩,λZ=>⟨by omega,i,j+1,cur,⟨c1,by omega,by omega,by omega,?_,?_⟩,⟨by omega, .inl rfl⟩,by omega⟩⟩
        ·rw[(tA (m:=k+j) (l:=l) (by omega) c4 (we q (by omega))).1,w,show k+ (j+1)=k+j+1 by omega,hs,if_neg];rintro rfl;exact d rfl
        ·rw[show k+ (j+1) -1=k+j by omega];exact(tA (m:=k+j) (l:=l) (by omega) c4 (we q (by omega))).2
        ·exact(qHv ..).symm
        ·rw[w,show k+ (j+1)=k+j+1 by omega,hs,if_pos (Z)]
        ·exact we q (by omega)
       ·have p:j=l.length -k:=by omega
        subst p;simp;intro _;refine⟨i,cur,⟨c1,by omega,?_⟩,rfl, .inl rfl⟩;rw[w,show k+ (l.length -k)=l.length by omega,qFT]
     ·rintro⟨i,cur⟩ ⟨c1,c2,c3⟩;simp at c1 c2 c3;simp;refine⟨by omega,by omega,λv=>dI (xr l) ?_ rfl⟩;have e:(xr l).map enc=(cur.map enc).take i:=by rw[<-c3,List.map_take]
      rw[e];simp[List.take_append,c1,c2]
    ·rw[if_neg (λe=>by subst e;exact d rfl)]at c;rw[c,t,av E]
   ·have F:k=l.length:=by omega
    subst F;simp;rw[qFT]at t;exactλ_=>dI l (by simp) t.symm
def WQ(x:List Int×Int):Prop:=x.1.length<=100000/\0<=x.2/\x.2<=1000000/\∀a∈x.1,0<=a/\a<=1000000000000000
abbrev ms:Spc:=aG (a2 (List Int) Int) WQ (enc (X:=List Int)) (λx y=>y=x.1.map (· +x.2))
theorem J4:ak rK qq S (a2 (List Int) Int) WQ (enc (X:=List Int)) (λx y=>y=x.1.map (· +x.2)):=by
 rintro⟨l,n⟩ ⟨hl,c,d,j⟩;simp only at hl c d j;simp[rK,qq];intro _;refine ah (X:=Value×List Int) [1,8] [] l.length (λk x=>x.2=(l.take k).map (· +n)) (λx=>[(5, .own 19 x.1)]) (λx=>[(19, .row x.1 bj 1 (x.2.map enc))]) (.slice none 0 0, []) (by simp) ?_ ?_ (hh:=by simp[isNilRow])
 ·rintro k ⟨v,m⟩ a hm;simp only at hm;obtain⟨x,b⟩:=aQ a;have p:=j x (aU b);obtain⟨_,h⟩:=qFB.1 b;have q:m.length=k:=by rw[hm];simp;omega
  simp[a,b,h];refine⟨by simp only[InR];omega,by omega,by omega,λv=> .inl ?_⟩;rw[qGK,hm];simp[b]
 ·rintro⟨v,m⟩ hm;simp only at hm;rw[qFT]at hm;simp;exact aL m (fA bj (by simp)) hm
abbrev s_Sort_int:Spc:=qrK (Y:=Int) a0 (λ_ l=>l.length<=100000) (λ_ l r=>r.length=l.length/\∀x,x∈r↔x∈l) bj 1
def WO(x:Pat×List Int):Prop:=x.1.op=6/\fy aB x.1=true/\x.2.length*jS x.1<=100000/\∀a∈x.2,0<=a/\a<=1000000000000000
def qeP(x:Pat×List Int)(y:List Int):Prop:=y.length<=x.2.length* (max 1 x.1.mn).toNat/\∀b,x.1.kids=[b]->∀z,z∈y↔ ∃a∈x.2,∃i:Int,0<=i/\i<x.1.mn/\(i=0\/(aO b).1=(aO b).2)/\z=a+i* (aO b).1
abbrev sd:Spc:=aG (a2 Pat (List Int)) WO (enc (X:=List Int)) qeP
theorem J3(h1:S hU=EY)(h2:S eC=ms)(h3:S qK=s_Sort_int)(h4:S gI=FM):ak rJ qp S (a2 Pat (List Int)) WO (enc (X:=List Int)) qeP:=by
 rintro⟨p,l⟩ ⟨ho,hp,hl,F⟩;simp only at ho hp hl F;rcases mA (cH hp).1 with⟨q,_⟩|⟨q,_⟩|⟨q,_⟩|⟨_,j,c⟩
 ·omega
 ·omega
 ·omega
 have I:=dX hp (show j∈p.kids by rw[c];simp);have s:dG (aO j):=tu j I;have hn:=(cH hp).2.2;unfold lF at hn;rw[decide_eq_true_eq]at hn;have hn:=hn ho;have t:jS p=(max 1 p.mn).toNat*jS j:=by rw[kV,c,if_neg (by simp),if_pos ho,lQ,lQ,qGN]
 have u:=Qm j;have J:l.length* (max 1 p.mn).toNat<=100000:=by
  have:=Nat.mul_le_mul_left (l.length* (max 1 p.mn).toNat) u;rw[t,<-Nat.mul_assoc]at hl;omega
 have w:l.length<=100000:=by
  have:=Nat.mul_le_mul_left l.length (show 1<=(max 1 p.mn).toNat by omega);omega
 simp[rJ,qp,h1,c,I,kZ];refine⟨λhe=>aL [] (by simp) ⟨by simp,λk hk z=>?_⟩,λK=>⟨λy=>aL l (by simp) ⟨?_,λk hk z=>?_⟩,λy=>?_⟩⟩
 ·simp only[qGd,false_iff];rintro⟨a,_,i,h0,h1,_⟩;have h1:i<p.mn:=h1;omega
 ·exact qHx _ (by omega)
 ·rw[c]at hk;cases hk;constructor
  ·intro h;exact⟨z,h,0,qGD _,by show 0<p.mn;omega, .inl rfl,by simp⟩
  ·rintro⟨a,b,i,h0,h1,h2,rfl⟩;rcases h2 with rfl|h2
   ·simpa using b
   ·exact absurd h2 y
 ·refine ah (X:=Value×List Int) [1,5] [] p.mn.toNat (λk x=>x.2.length=l.length*k/\∀z,z∈x.2↔ ∃a∈l,∃i:Int,0<=i/\i<k/\z=a+i* (aO j).1) (λx=>[(7, .own 35 x.1)]) (λx=>[(35, .row x.1 bj 1 (x.2.map enc))]) (.slice none 0 0, []) (by simp;intro z a _ i h0 h1;omega) ?_ ?_ (hn:=by simp;omega) (hh:=by simp[isNilRow])
  ·rintro k ⟨v,m⟩ L ⟨hm,d⟩;simp only at hm d;unfold dG at s;have A:=qD (show(0:Int)<=k by omega) (show(k:Int)<=16 by omega) s.1 s.2.1;have M:WQ (l,(k:Int) * (aO j).1):=⟨w,A.1,by show(k:Int) * (aO j).1<=_;omega,F⟩
   simp[h2,M];clear h1 h2 h3 h4;have hb:m.length+l.length<=100000:=by
    have:=Nat.mul_le_mul_left l.length (show k+1<=(max 1 p.mn).toNat by omega);rw[Nat.mul_succ]at this;omega
   refine⟨by simp only[InR];omega,by omega,by omega,λv=>⟨v,m++l.map (· + (k:Int) * (aO j).1),⟨by rw[qF5,qGl,Nat.mul_succ,hm],λz=>?_⟩,rfl, .inl ⟨rfl,by simp⟩⟩⟩;rw[qFG,d z,qFL];constructor
   ·rintro(⟨a,b,i,h0,h1,h2⟩|⟨a,b,h2⟩)
    ·exact⟨a,b,i,h0,by omega,h2⟩
    ·exact⟨a,b,k,by omega,by omega,h2.symm⟩
   ·rintro⟨a,b,i,h0,h1,h2⟩;by_cases e:i<k
    ·exact .inl ⟨a,b,i,h0,e,h2⟩
    ·have:i=k:=by omega
     subst this;exact .inr ⟨a,b,h2.symm⟩
  ·rintro⟨v,m⟩ ⟨hm,d⟩;simp only at hm d;have C:m.length<=100000:=by
    have:l.length*p.mn.toNat<=l.length* (max 1 p.mn).toNat:=Nat.mul_le_mul_left _ (by omega);omega
   simp[h3,h4,C];clear h1 h2 h3 h4;intro r N E;refine⟨by omega,λv'=>aL (xr r) (fA bj (by simp)) ⟨?_,λk hk z=>?_⟩⟩
   ·show(xr r).length<=l.length* (max 1 p.mn).toNat;have:=qlb r;have:l.length*p.mn.toNat<=l.length* (max 1 p.mn).toNat:=Nat.mul_le_mul_left _ (by omega);omega
   ·rw[c]at hk;cases hk;rw[qla,E z,d z];refine exists_congr λa=>and_congr_right λ_=>exists_congr λi=>⟨λ⟨h0,h1,h2⟩=>⟨h0,by show i<p.mn;omega, .inr y,h2⟩,λ⟨h0,h1,_,h2⟩=>⟨h0,?_,h2⟩⟩
    have h1:i<p.mn:=h1;omega
def qnW(ks:List Pat):Nat:=(ks.flatMap aq).length
def VH:qnW []=0:=rfl
def PG(k:Pat)(ks:List Pat):qnW (k::ks)=(aq k).length+qnW ks:=by simp[qnW]
def qch{p:Pat}(h:p.op≠1):(aq p).length=qnW p.kids:=by rw[bc,if_neg h];rfl
structure qpd where
 leaf:Int
 v:Value
 out:List Span
def fndB:Ni qpd:=⟨[47],λx=>[.v (.int .i64 x.leaf), .own 47 x.v],λx=>[(47, .row x.v aK 2 (x.out.map enc))],λ_=>rfl⟩
@[simp] theorem qyv(x:qpd):fndB.ce x=[.v (.int .i64 x.leaf), .own 47 x.v]:=i' rfl
@[simp] theorem qyu(x:qpd):fndB.hp x=[(47, .row x.v aK 2 (x.out.map enc))]:=i' rfl
def JJ(n:Nat)(x:qpd)(z:Pat×List Int):Prop:=PPat n z.1/\0<=x.leaf/\x.leaf+dm z.1<=100000000/\x.out.length+z.2.length*jS z.1<=100000/\∀a∈z.2,0<=a/\a+200000*dm z.1<=1000000000000000
def Fi(x:qpd)(z:Pat×List Int)(b:qpd)(_:Unit):Prop:=b.leaf=x.leaf+ (aq z.1).length/\b.out.length<=x.out.length+z.2.length*jS z.1/\∀s,s∈b.out↔s∈x.out\/ ∃a∈z.2,SrcE z.1 a x.leaf s
abbrev Nq(n:Nat):Spc:=qsv fndB (a2 Pat (List Int)) Wg (JJ n) Fi
def J9{n:Nat}{p:Pat}{l:List Int}{leaf:Int}{v:Value}{out:List Span}{d b:Nat}{P L:D}{H:ab}{K:D->ab->Prop}(s:dec P=some p)(t:dec L=some l)
 (h0:H 0=some (.box b [.v (.int .i64 leaf), .own 47 v])) (k:H 47=some (.row v aK 2 (out.map enc))) (h:JJ n ⟨leaf,v,out⟩ (p,l))
 (u:∀a v' c,Fi ⟨leaf,v,out⟩ (p,l) ⟨a,v',c⟩ ()->K (.tup []) (ai (ai H 47 (some (.row v' aK 2 (c.map enc)))) 0 (some (.box b [.v (.int .i64 a), .own 47 v'])))):(Nq n).pt d [.bptr 0 b 0,P,L] H K:=by
 refine⟨0,b,⟨leaf,v,out⟩,(p,l), [P,L],rfl,?_,h0,?_,by simp[fndB],h,λr y j=>?_⟩
 ·rw[qcR,s,t];rfl
 ·intro q j;simp at j;subst j;exact k
 ·exact u r.leaf r.v r.out j
def qor{b:Nat}{leaf:Int}{v:Value}{out:List Span}{q:qpd->Unit->Prop}{H:ab}(h0:H 0=some (.box b [.v (.int .i64 leaf), .own 47 v]))(a:H 47=some (.row v aK 2 (out.map enc)))(c:q ⟨leaf,v,out⟩ ()):Mi fndB Wg b q (.tup []) H:=
 ⟨⟨leaf,v,out⟩,(), .same _,h0,λp hp=>by simp at hp;subst hp;exact a,c⟩
theorem J2(n:Nat)(h1:S hU=EY)(h2:S eC=ms)(h3:S iG=sd)(h4:S aM=Nq n):qlU bD bB S fndB (a2 Pat (List Int)) Wg (JJ (n+1)) Fi:=by
 rintro b ⟨leaf,v,out⟩ ⟨p,l⟩ ⟨hp,K,L,hlen,ha⟩;simp only at hp K L hlen ha;have hk:∀k∈p.kids,PPat n k:=λk=>hp.kid
 have hs:∀k∈p.kids,dG (aO k):=λk h=>tu (v:=aB) k (hk k h).2
 have hn:=(cH hp.2).2.2;unfold lF at hn;rw[decide_eq_true_eq]at hn;have I:p.op≠1/\p.op≠4/\p.op≠6-> ↑p.kids.length<=(9223372036854775807:Int)->vc S bD (vE bB λr H'=>Mi fndB Wg b (Fi ⟨leaf,v,out⟩ (p,l)) r H') (dR (.bptr 0 b 0::(a2 Pat (List Int)).view (p,l))) (ai (gS (fndB.hp ⟨leaf,v,out⟩) bS) 0 (some (.box b (fndB.ce ⟨leaf,v,out⟩)))):=by
  intro e u;simp[bD,bB,e];intro _;rw[cI]at L;have hcnt:out.length<=100000:=by omega
  refine ah (X:=qpd) [0,17] [] p.kids.length (λk x=>0<=x.leaf/\x.leaf+bu (p.kids.drop k)<=100000000/\x.out.length<=out.length/\x.leaf+qnW (p.kids.drop k)=leaf+qnW p.kids/\∀s,s∈x.out↔s∈out) (λx=>[]) (λx=>[(0, .box b [.v (.int .i64 x.leaf), .own 47 x.v]),(47, .row x.v aK 2 (x.out.map enc))]) ⟨leaf,v,out⟩ ⟨K,by simp;omega,qFH _,by simp,by simp⟩ ?_ ?_
  ·rintro k ⟨d,v',q⟩ u ⟨b0,b1,b2,C,F⟩;simp only at b0 b1 b2 C F;obtain⟨x,A⟩:=aQ u;have M:=aU A;obtain⟨_,J⟩:=qFB.1 A;rw[bw A,bu]at b1;rw[bw A,PG]at C;have Q:=hk x M;simp[u,A,J];intro b1';rw[h4];refine J9 (p:=x) (l:=[]) (leaf:=d) (v:=v') (out:=q) ?_ ?_ ?_ ?_ ⟨Q,b0,by show d+ (dm x:Int)<=_;omega,by simp;omega,by simp⟩ ?_
   ·simp
   ·simp
   ·simp
   ·simp
   rintro c U j ⟨c1,c2,c3⟩;simp only at c1 c2 c3;have q4:=sJ x;simp;refine⟨⟨c,U,j⟩,⟨by show 0<=c;omega,by show c+_<=_;omega,?_,by show c+_=_;omega,λs=>?_⟩, .inl ⟨rfl,rfl⟩, .inl ⟨rfl,rfl⟩⟩
   ·show j.length<=out.length;simp at c2;omega
   ·show s∈j↔s∈out;rw[c3 s,F s];simp
  ·rintro⟨d,v',q⟩ ⟨b0,b1,b2,C,F⟩;simp only at b0 b1 b2 C F;simp;refine qor (leaf:=d) (v:=v') (out:=q) (by simp) (by simp) ⟨?_,?_,λs=>?_⟩
   ·rw[qGr]at C;rw[VH]at C;show d=leaf+ ((aq p).length:Int);rw[qch e.1];omega
   ·show q.length<=out.length+_;omega
   ·rw[F s];exact⟨.inl,λh=>h.elim id λ⟨a,_,h⟩=>absurd h (qbI e _ _ _)⟩
 have u: ↑p.kids.length<=(9223372036854775807:Int):=by
  have:∀ks:List Pat,ks.length<=bu ks:=by
   intro ks
   induction ks with
   |nil=>simp
   | cons k ks ih=>
     rw[bu,qGi];have:1<=dm k:=by rw[cI];omega
     omega
  have:=this p.kids;rw[cI]at L;omega
 rcases mA (cH hp.2).1 with⟨ho,t⟩|⟨ho,t⟩|⟨ho,E,ks,t⟩|⟨ho,E,t⟩
 ·rw[kV,if_pos t,Nat.mul_one]at hlen;simp[bD,bB,ho];intro _;refine ah (X:=Value×List Span) [0,29] [] l.length (λk x=>x.2=out++ (l.take k).map λa=>⟨leaf,a⟩) (λx=>[]) (λx=>[(0, .box b [.v (.int .i64 leaf), .own 47 x.1]),(47, .row x.1 aK 2 (x.2.map enc))]) (v,out) (by simp) ?_ ?_
  ·rintro k ⟨v,m⟩ u hm;simp only at hm;obtain⟨x,A⟩:=aQ u;obtain⟨_,J⟩:=qFB.1 A;have hml:m.length=out.length+k:=by rw[hm];simp;omega
   simp[u,A,J];refine⟨by omega,by omega,λv=> .inl (.inl ?_)⟩;rw[qGK,hm];simp[A]
  ·rintro⟨v',m⟩ hm;simp only at hm;rw[qFT]at hm;simp;have:1<=dm p:=by rw[cI];omega
   refine⟨by simp only[InR];omega,qor (leaf:=leaf+1) (v:=v') (out:=m) (by simp) (by simp) ⟨?_,?_,λs=>?_⟩⟩
   ·rw[bc,if_pos ho];rfl
   ·show m.length<=out.length+l.length*jS p;rw[hm,kV,if_pos t];simp
   ·show s∈m↔s∈out\/ ∃a∈l,SrcE p a leaf s;rw[hm,qFG,qFL];refine or_congr_right (exists_congr λa=>and_congr_right λ_=>?_);rw[qfF ho];exact eq_comm
 ·exact I (by omega) u
 ·by_cases Y:p.op=4
  ·rw[cI]at L;have ha':∀a∈l,0<=a/\a+200000*bu p.kids<=1000000000000000:=λa h=>by have:=ha a h;rw[cI]at this;omega
   rw[kV,if_neg (by rw[t];simp),if_neg (by omega)]at hlen;simp[bD,bB,Y];intro _;refine Dg (X:=qpd×List Int) [0,61] [] p.kids.length (λk x=>(0<=x.1.leaf/\x.1.leaf+bu (p.kids.drop k)<=100000000)/\x.1.out.length+x.2.length*lQ (p.kids.drop k)<=out.length+l.length*lQ p.kids/\(∀a∈x.2,0<=a/\a+200000*bu (p.kids.drop k)<=1000000000000000)/\x.1.leaf+qnW (p.kids.drop k)=leaf+qnW p.kids/\∀s,(s∈x.1.out\/ ∃a∈x.2,pK (p.kids.drop k) a x.1.leaf s) ↔ (s∈out\/ ∃a∈l,pK p.kids a leaf s))
    (λx=>[(2,enc x.2)]) (λx=>[(0, .box b [.v (.int .i64 x.1.leaf), .own 47 x.1.v]),(47, .row x.1.v aK 2 (x.1.out.map enc))]) (⟨leaf,v,out⟩,l) (by simp) (by simp) (by omega) (by simp) (by simp) ⟨⟨K,by simp;omega⟩,by simp,by simpa using ha',by simp,by simp⟩ (by simp) (by simp) ?_ ?_
   ·rintro k ⟨⟨d,v',q⟩,l'⟩ u ⟨⟨b0,b1⟩,b2,C,F,W⟩;simp only at b0 b1 b2 C F W;obtain⟨x,A⟩:=aQ u;have M:=aU A;obtain⟨_,J⟩:=qFB.1 A;rw[bw A,bu]at b1 C;rw[bw A,lQ,Nat.mul_add]at b2;rw[bw A,PG]at F;have Q:=hk x M;have O:=hs x M;simp[u,A,J];intro b1';rw[h4];refine J9 (p:=x) (l:=l') (leaf:=d) (v:=v') (out:=q) ?_ ?_ ?_ ?_ ⟨Q,b0,by show d+ (dm x:Int)<=_;omega,by show q.length+l'.length*jS x<=_;omega,λa h=>by have:=C a h;show 0<=a/\a+200000* (dm x:Int)<=_;omega⟩ ?_
    ·simp
    ·simp
    ·simp
    ·simp
    rintro c U j ⟨c1,c2,c3⟩;simp only at c1 c2 c3;have q4:=sJ x;simp[h1,h2,Q.2,kZ];unfold dG at O;have hlx:l'.length<=100000:=by
     have:=Nat.mul_le_mul_left l'.length (Qm x);omega
    have hb:∀s,(s∈j\/ ∃a∈l',(aO x).1=(aO x).2/\pK (p.kids.drop (k+1)) (a+ (aO x).1) c s) ↔ (s∈out\/ ∃a∈l,pK p.kids a leaf s):=by
     intro s;rw[<-W s,c3 s,bw A,or_assoc,c1];refine or_congr_right ⟨?_,?_⟩
     ·rintro(⟨a,w,h⟩|⟨a,w,h⟩)
      ·exact⟨a,w,by rw[pK];exact .inl h⟩
      ·exact⟨a,w,by rw[pK];exact .inr h⟩
     ·rintro⟨a,w,h⟩;rw[pK]at h;rcases h with h|h
      ·exact .inl ⟨a,w,h⟩
      ·exact .inr ⟨a,w,h⟩
    refine⟨λhne=>⟨⟨by simp,O.1,by show(aO x).1<=_;omega,by simp⟩,⟨c,U,j⟩, [],⟨⟨by show 0<=c;omega,by show c+_<=_;omega⟩,?_,by simp,by show c+_=_;omega,λs=>?_⟩,rfl, .inl ⟨rfl,rfl⟩, .inl ⟨rfl,rfl⟩⟩,λhe=>⟨⟨hlx,O.1,by show(aO x).1<=_;omega,λa h=>by have:=C a h;omega⟩,⟨c,U,j⟩,l'.map (· + (aO x).1),⟨⟨by show 0<=c;omega,by show c+_<=_;omega⟩,?_,λa h=>?_,by show c+_=_;omega,λs=>?_⟩,rfl, .inl ⟨rfl,rfl⟩, .inl ⟨rfl,rfl⟩⟩⟩
    ·simp;show j.length<=_;omega
    ·rw[<-hb s];refine or_congr_right ⟨λ⟨a,h,_⟩=>by simp at h,λ⟨a,_,h,_⟩=>absurd h hne⟩
    ·rw[qGl];show j.length+_<=_;omega
    ·obtain⟨a0,h0,rfl⟩:=qFL.1 h;have:=C a0 h0;have h3:1<=dm x:=by rw[cI];omega
     show 0<=a0+ (aO x).1/\a0+ (aO x).1+_<=_;omega
    ·rw[<-hb s];refine or_congr_right ⟨?_,?_⟩
     ·rintro⟨a,h,h'⟩;obtain⟨a0,h0,rfl⟩:=qFL.1 h;exact⟨a0,h0,he,h'⟩
     ·rintro⟨a,h,_,h'⟩;exact⟨a+ (aO x).1,qFL.2 ⟨a,h,rfl⟩,h'⟩
   ·rintro⟨⟨d,v',q⟩,l'⟩ ⟨⟨b0,b1⟩,b2,C,F,W⟩;simp only at b0 b1 b2 C F W;rw[qGr]at b2 F W;rw[VH]at F;rw[lQ,Nat.mul_zero]at b2;simp;refine qor (leaf:=d) (v:=v') (out:=q) (by simp) (by simp) ⟨?_,?_,λs=>?_⟩
    ·show d=leaf+ ((aq p).length:Int);rw[qch (by omega)];omega
    ·show q.length<=out.length+l.length*jS p;rw[kV,if_neg (by rw[t];simp),if_neg (by omega)];omega
    ·show s∈q↔s∈out\/ ∃a∈l,SrcE p a leaf s;have:(∃a∈l,SrcE p a leaf s) ↔ ∃a∈l,pK p.kids a leaf s:=exists_congr λa=>and_congr_right λ_=>qfE Y _ _ _
     rw[this,<-W s];exact⟨.inl,λh=>h.elim id λ⟨a,_,h⟩=>by rw[pK]at h;exact h.elim⟩
  ·exact I (by omega) u
 ·have Q:=hk E (by rw[t];simp);have O:=hs E (by rw[t];simp);have hn:=hn ho;have e6:(⟨6,p.cond,p.lab,p.reg,p.mn,p.mx,p.kids⟩:Pat)=p:=by rw[<-ho];exact qot p
  have N:jS p=(max 1 p.mn).toNat*jS E:=by rw[kV,t,if_neg (by simp),if_pos ho,lQ,lQ,qGN]
  have hpn:dm p=dm E+1:=by rw[cI,t,bu,bu]
  have ht:WO (p,l):=⟨ho,hp.2,by show l.length*jS p<=_;omega,λa h=>by have:=ha a h;omega⟩
  simp[bD,bB,ho,h3,e6,ht];refine⟨by rw[t];simp,λa Z=>?_⟩;rw[t]at Z;cases Z;rintro y ⟨c1,c2⟩;simp only at c1 c2;have c2:=c2 E t;rw[h4];refine J9 (p:=E) (l:=y) (leaf:=leaf) (v:=v) (out:=out) ?_ ?_ ?_ ?_ ⟨Q,K,by show leaf+ (dm E:Int)<=_;omega,?_,λz hz=>?_⟩ ?_
  ·simp
  ·simp
  ·simp
  ·simp
  ·show out.length+y.length*jS E<=100000;rw[N,<-Nat.mul_assoc]at hlen;have:=qF2 (jS E) c1;omega
  ·obtain⟨a,w,i,h0,h1,h2,rfl⟩:=(c2 z).1 hz;have h1:i<p.mn:=h1;have:=ha a w;unfold dG at O;have hm:=qD h0 (show i<=16 by omega) O.1 O.2.1;show 0<=a+i* (aO E).1/\a+i* (aO E).1+200000* (dm E:Int)<=_;omega
  ·rintro c U j ⟨d1,d2,d3⟩;simp only at d1 d2 d3;refine qor (leaf:=c) (v:=U) (out:=j) (by simp) (by simp) ⟨?_,?_,λs=>?_⟩
   ·show c=leaf+ ((aq p).length:Int);rw[qch (by omega),t,PG,VH];omega
   ·show j.length<=out.length+l.length*jS p;rw[N,<-Nat.mul_assoc];have:=qF2 (jS E) c1;omega
   ·show s∈j↔s∈out\/ ∃a∈l,SrcE p a leaf s;rw[d3 s];refine or_congr_right ⟨?_,?_⟩
    ·rintro⟨z,hz,N⟩;obtain⟨a,w,i,h0,h1,h2,rfl⟩:=(c2 z).1 hz;exact⟨a,w,(qhZ ho t _ _ _).2 ⟨i,h0,h1,h2,N⟩⟩
    ·rintro⟨a,w,h⟩;obtain⟨i,h0,h1,h2,h3⟩:=(qhZ ho t _ _ _).1 h;exact⟨_,(c2 _).2 ⟨a,w,i,h0,h1,h2,rfl⟩,h3⟩
end
section
open Cod (enc dec)
variable {S:Nat->Spc}
def Zv(p:Int)(t:xX):Bool:=decide (t.b<=p/\p<t.e)
abbrev Cx:Spc:=aG (a2 Corpus Int) (λ_=>True) enc λx y=>y=fe x.1.texts (Zv x.2)
def Mx:ak iO iB S (a2 Corpus Int) (λ_=>True) enc λx y=>y=fe x.1.texts (Zv x.2):=by
 rintro⟨c,p⟩ -;simp[iO,iB];intro hlen;refine ah (X:=Unit) [1,8] [] c.texts.length (λk _=>∀y∈c.texts.take k,Zv p y=false) (λ_=>[]) (λ_=>[]) () (by simp) ?_ ?_
 ·intro k _ hk a;obtain⟨t,b⟩:=aQ hk;obtain⟨_,d⟩:=qFB.1 b;simp[b,hk,d];refine⟨λh1=>⟨λh2=>?_,λh2=>?_⟩,λh1=>?_⟩
  ·exact(tE b (by simp[Zv];omega) a).symm
  all_goals
   rw[av b];intro y hy;rcases qFG.1 hy with hy|hy
   ·exact a y hy
   ·simp at hy;subst hy;simp[Zv];omega
 ·intro _ a;simp at a;simp;exact(jZ a).symm
def vy(a b:Span):Int:=if ug a.b b.b≠0 then ug a.b b.b else ug a.e b.e
def qlg(a b:Span):0<=vy a b↔ ¬C9 a b:=by
 unfold vy ug C9
 repeat' split
 all_goals omega
end
section
open Cod (enc dec)
variable {S S0:Nat->Spc}
abbrev od:Spc:=aG (a2 Span Span) (λ_=>True) (enc (X:=Int)) λx y=>y=vy x.1 x.2
def F6(h1:S cW=gA)(h2:S mF=vD):ak ny mW S (a2 Span Span) (λ_=>True) (enc (X:=Int)) λx y=>y=vy x.1 x.2:=by
 rintro⟨a,b⟩ -;simp[ny,mW,h1,h2,vy];by_cases h:ug a.b b.b=0
 ·by_cases c:ug a.e b.e=0
  ·simp[h,c]
  ·simp[h,c]
 ·simp[h]
def qeY(x:D×Unit)(l:List Span):Prop:=x.1= .clo fV []/\l.length<=100000
abbrev s_SortFunc_Source:Spc:=qrK (aD a0) qeY qcW aK 2
abbrev s_visitA:Spc:=qsv fndB (a2 Pat (List Int)) Wg (λx z=>∃n,JJ n x z) Fi
theorem qbf{n:Nat}{p:Pat}{l:List Int}{leaf:Int}{v:Value}{out:List Span}{id d b:Nat}{P L:D}{H:ab}{K:D->ab->Prop}(hid:id≠47)(s:dec P=some p)(t:dec L=some l)
 (h0:H id=some (.box b [.v (.int .i64 leaf), .own 47 v])) (k:H 47=some (.row v aK 2 (out.map enc))) (h:JJ n ⟨leaf,v,out⟩ (p,l))
 (u:∀a v' c,Fi ⟨leaf,v,out⟩ (p,l) ⟨a,v',c⟩ ()->K (.tup []) (ai (ai H 47 (some (.row v' aK 2 (c.map enc)))) id (some (.box b [.v (.int .i64 a), .own 47 v'])))):s_visitA.pt d [.bptr id b 0,P,L] H K:=by
 refine⟨id,b,⟨leaf,v,out⟩,(p,l), [P,L],rfl,?_,h0,?_,by simpa [fndB]using hid,⟨n,h⟩,λr y j=>?_⟩
 ·rw[qcR,s,t];rfl
 ·intro q j;simp at j;subst j;exact k
 ·exact u r.leaf r.v r.out j
def Ou:∀(ks:List Pat) (n:Int),(1<=n\/ks≠ []/\0<=n)->(∀k∈ks,1<=fM k)->1<=eP ks n
 | [],n,h,_=>by rw[eP];rcases h with h|h;exact h;exact absurd rfl h.1
 | k::ks,n,h,hk=>by
   rw[eP];have:=hk k (by simp);exact Ou ks _ (.inl (by rcases h with h|h<;>omega)) λx a=>hk x (by simp[a])
def qfG{v:B->Bool}(p:Pat):fy v p=true->1<=fM p:=by
 induction p using fg with|_ p a=>?_
 intro h;have hn:=(cH h).2.2;unfold lF at hn;rw[decide_eq_true_eq]at hn;rw[pR,Dr];by_cases h0:p.kids=[]
 ·rw[if_pos h0];omega
 ·rw[if_neg h0];have:=Ou p.kids 0 (.inr ⟨h0,qGD _⟩) λk hk=>a k hk (dX h hk)
  generalize eP p.kids 0=n at this;split
  ·rename_i h6;have hn:=hn h6;split
   ·have:=Int.mul_le_mul this (show(1:Int)<=p.mn+1 by omega) (by omega) (by omega);omega
   ·split
    ·exact this
    ·have:=Int.mul_le_mul this (show(1:Int)<=p.mx by omega) (by omega) (by omega);omega
  ·exact this
abbrev Im:Spc:=Gn
abbrev se:Spc:=aG (a1 Pat) oc (enc (X:=List Span)) jF
theorem J5(h1:S vN=Im)(h2:S aM=s_visitA)(h3:S gX=s_SortFunc_Source)(h4:S fl=At):
 ak rL qr S (a1 Pat) oc (enc (X:=List Span)) jF:=by
 rintro p ⟨q,t⟩;simp[rL,qr,h1,-fB'];have c:¬(fy aB p=true/\fM p<=256)->Fin enc (jF p) (D.v (Value.slice none 0 0)) λx=>none:=λh=>aL [] (by simp) (by unfold jF;rw[if_neg h])
 rcases hb:fy aB p
 ·simp;exact c (by rw[hb];simp)
 have k:=qfG p hb;simp;refine⟨λ_=>⟨λh=>c (by omega),λd=>?_⟩,λh=>by omega⟩;have u:∀y,SrcsOf p y->jF p y:=λy w=>by unfold jF;rw[if_pos ⟨hb,d⟩];exact w
 clear c;refine gc (X:=Nat) [1] [] [] [] (λ_=>True) (λb=>[(4, .bptr 14 b 0)]) (λb=>[(14, .box b [.v (.int .i64 0), .own 47 (.slice none 0 0)]),(47, .row (.slice none 0 0) aK 2 [])]) [14,47] (λ_=>rfl) (by decide) ?_ ?_
 ·simp;refineλb=>⟨b, .same _, .inl ?_,by simp[isNilRow]⟩
  simp;exact .nilown 47
 ·rintro b -;simp[h2];refine qbf (n:=cg p) (p:=p) (l:=[0]) (leaf:=0) (v:= .slice none 0 0) (out:=[]) (by decide) ?_ ?_ ?_ ?_ ⟨⟨qFH _,hb⟩,qGD _,by show(0:Int) + (dm p:Int)<=_;omega,by simp;omega,λa h=>by simp at h;subst h;show 0<=(0:Int)/\(0:Int) +200000* (dm p:Int)<=_;omega⟩ ?_
  ·simp
  ·simp
  ·simp
  ·simp
  rintro leaf v out ⟨c1,c2,c3⟩;simp only at c1 c2 c3;simp at c2;simp[h3,h4];have A:qeY (.clo fV [],()) out:=⟨rfl,by omega⟩
  refine⟨A,λr j=>⟨by have:=j.1;omega,λv'=>aL (yg r) (fA aK (by simp)) (u _ ⟨qoJ j.2.2,λs=>?_⟩)⟩⟩;rw[qaj,j.2.1 s,c3 s];simp
end
section
open Cod (enc dec)
open Go.Proofs Go.Sort Go.Shelf Go.Lib Go.RowKit
variable {dq:Prop}
section
variable {P:Program}{ρ:Ren}
theorem XR{A:Nat}(L:SlLaysN.n53 P ρ)(hf:ρ.f 53=A)(ef:dc P A):Tri dq P A s_Sort_int.pt:=by
 subst hf;have hev:∀x:Int,enc x=D.v (.int .i64 x):=λ_=>rfl
 intro O tp w vs ds H d K hO' htl p hlen C hA;obtain⟨id,v,l,ds',x,rfl,hd,hid,hl5,hK⟩:=hA;have hds:ds'=[]:=by
  match ds',hd with
  | [],h=>rfl
  |a::r,h=>cases h
 subst hds
 match vs,hlen,C with
 | [v0],_,C=>
 have e0:v0=v:=by
  have:=C 0 v0 _ rfl rfl;cases this;rfl
 subst e0;refine⟨ef,?_⟩;obtain⟨xs,⟨hxl,hx⟩,hkn,Q⟩:=p.ok id _ hid;rcases hx with⟨rfl,h0⟩|⟨gb,cap,cur,rfl,_,S,hcap,hcapm,hsz,I⟩
 ·have hl0:l=[]:=by simpa using h0
  subst hl0;refine(AnyG.slices_Sort_int_none L none 0 w).mono ?_;rintro e w' ⟨rfl,rfl⟩;have hH:ai H id (some (.row (.slice none 0 0) bj 1 (([]:List Int).map enc)))=H:=by
   funext i;simp only[ai];by_cases hi:i=id
   ·subst hi;simp[hid]
   ·simp[hi]
  refine⟨_,_,_,tp,rfl,hK [] (by simp),λb h=>h,λb h=> .inl h,htl.1, .refl _ _ _,λb h=> .inl (by rwa [hH]at h),by rw[hH];exact p, .tup [] [] rfl (λk x c h=>by simp at h)⟩
 ·have hll:(l.map (enc (X:=Int))).length=l.length:=by simp
  rw[hll]at hcap hxl I ⊢;have hval:∀(j:Nat) (y v':Value),xs[j]? =some y->(bp (l.map enc))[j]? =some (.v v')->y=v':=λj y v' h1 h2=>((Q j y _ h1 h2).2).inv_v
  have Y:∀l:List Int,bp (l.map enc)=(l.map (Value.int .i64)).map D.v:=λl=>by
   unfold bp;rw[List.flatMap_map,List.map_map]
   induction l with
   |nil=>rfl
   |cons a l ih=>rw[qGf,qF6,ih];rfl
  have hxs:xs=l.map (Value.int .i64):=by
   apply qGj;intro j;by_cases hj:j<l.length
   ·have e1:xs[j]? =some xs[j]:=qFC (by omega);have e2:(l.map (Value.int .i64))[j]? =some (.int .i64 l[j]):=by simp[hj]
    rw[e1,e2];congr 1;refine hval j _ _ e1 ?_;rw[Y,qFP,e2];rfl
   ·rw[qFV (by omega),qFV (by simp;omega)]
  have hcur:∀j,j<l.length->cur[j]? =(l.map (Value.int .i64))[j]?:=λj hj=>by
   rw[<-hxs,<-I,qFX,if_pos (by omega),qFZ]
  have hgs:gb<w.heap.size:=(qFN.1 S).1;have hH:Holds (Value.int .i64) w gb 0 l.toArray:=by
   intro j hj;have hj':j<l.length:=by simpa using hj
   refine⟨?_,BK S⟩;rw[Hk S,qGn,hcur j hj',getElem!_pos _ j hj];simp[hj']
  have J:=AnyG.slices_Sort_int L gb 0 cap l w hH hgs (by omega);refine J.mono ?_;rintro e w' ⟨rfl,n,os,F⟩;have Z:∀x,x∈l.mergeSort (λx y=>decide (x<=y)) ↔x∈l:=λx=>List.mem_mergeSort
  have q:(l.mergeSort λx y=>decide (x<=y)).length=l.length:=by simp
  generalize hl':(l.mergeSort λx y=>decide (x<=y))=l' at F Z q;have U:∀b,b<w.heap.size->b≠gb->w'.heap[b]? =w.heap[b]?:=λb hb hne=>by
   rw[F];exact EZ (w:=Sort.ahead w n) hb hne
  have hthis:w'.heap[gb]? =some (.cells (putCells (Value.int .i64) 0 l'.toArray cur) bj (0,0)):=by
   rw[F];exact O0 (w:=Sort.ahead w n) S
  have hws:w.heap.size<=w'.heap.size:=by
   rw[F];simp[grow,putRow,mapBlock,Sort.ahead]
  have W:w'.os=w.os/\w'.tape=w.tape/\w'.output=w.output/\w.drawn<=w'.drawn:=by
   rw[F];exact⟨rfl,rfl,rfl,Nat.le_add_right _ _⟩
  clear F J;have hbo:(Res.row (.slice (some ⟨gb,0,none⟩) l.length cap) bj 1 (l.map (enc (X:=Int)))).blk=some gb:=rfl;have t:H id=some (.row (.slice (some ⟨gb,0,none⟩) l.length cap) bj 1 (l.map enc)):=by rw[hid,hll]
  have M:bA H gb:=⟨id,_,t,hbo⟩
  have htp:∀b,tp b->b≠gb:=λb hb e=>(p.out id _ gb t hbo).2 (e ▸hb)
  have E:∀b,tp b->TapeStep w w' b:=λb hb=> .same (U b (htl.1 b hb) (htp b hb))
  have hK':=hK l' ⟨q,Z⟩;rw[hll]at hK';generalize hH2:ai H id (some (.row (.slice (some ⟨gb,0,none⟩) l.length cap) bj 1 (l'.map enc)))=H2 at hK';have N:∀b,bA H2 b->bA H b:=λb ⟨i,r,h1,h2⟩=>by
   rw[<-hH2]at h1;simp only[ai]at h1;split at h1
   ·cases h1;cases h2;exact M
   ·exact⟨i,r,h1,h2⟩
  have hmove:∀y c,R tp (aR O tp H w) w y c->R tp (aR O tp H2 w') w' y c:=λy c hr=>hr.mono (λ_ h=>h) (λb hb=>⟨⟨qFS hb.1 hws,hb.2.1,hb.2.2.1,λh=>hb.2.2.2 (N b h)⟩,U b hb.1 (λe=>hb.2.2.2 (e ▸M))⟩) E
  have u:∀i r,H2 i=some r->(i=id/\r= .row (.slice (some ⟨gb,0,none⟩) l.length cap) bj 1 (l'.map enc))\/(i≠id/\H i=some r):=λi r h=>by
   rw[<-hH2]at h;simp only[ai]at h;split at h
   ·rename_i e;cases h;exact .inl ⟨e,rfl⟩
   ·rename_i e;exact .inr ⟨e,h⟩
  refine⟨_,_,H2,tp,rfl,hK',λb h=>h,λb h=> .inl h,λb hb=>qFS (htl.1 b hb) hws,⟨W.1,W.2.1,W.2.2.1,hws,λb hb ho ht=>U b hb (λe=>ho (e ▸M)),E,λ_=>W.2.2.2⟩,λb h=> .inl (N b h),⟨?_,?_,?_⟩, .tup [] [] rfl (λk x c h=>by simp at h)⟩
  ·intro i j r s b h1 h2 h3 h4;rcases u i r h1 with⟨rfl,rfl⟩|⟨n1,k1⟩
   ·rcases u j s h2 with⟨rfl,rfl⟩|⟨n2,k2⟩
    ·rfl
    ·exact p.dis _ j _ s b t k2 h3 h4
   ·rcases u j s h2 with⟨rfl,rfl⟩|⟨n2,k2⟩
    ·exact p.dis i _ r _ b k1 t h3 h4
    ·exact p.dis i j r s b k1 k2 h3 h4
  ·intro i r b h1 h2;rcases u i r h1 with⟨rfl,rfl⟩|⟨n1,k1⟩
   ·exact p.out _ _ b t h2
   ·exact p.out i r b k1 h2
  ·intro i r h1;rcases u i r h1 with⟨rfl,rfl⟩|⟨n1,k1⟩
   ·have hps:(putCells (Value.int .i64) 0 l'.toArray cur).size=cur.size:=by simp[putCells]
    refine⟨l'.map (Value.int .i64),⟨by simp, .inr ⟨gb,cap,_,by simp[q],qFY _,hthis,by simp;omega,hcapm,by rw[hps,hsz],?_⟩⟩,λd hd=>?_,λj y c h1 h2=>?_⟩
    ·simp only[qGl,q];apply qGj;intro j;rw[qFX];by_cases hj:j<l.length
     ·have hjc:j<cur.size:=by omega
      have hjf:j<l'.toArray.size:=by simp[q];exact hj
      have hjl:j<l'.length:=by omega
      rw[if_pos (by omega),qFZ];simp only[putCells,Array.getElem?_mapIdx,qGe hjc,qG8,qFY,qGn,hjf,and_self,if_true,Nat.sub_zero];rw[getElem!_pos _ j hjf];simp[hjl]
     ·rw[if_neg (by omega),qFV (by simp;omega)]
    ·obtain⟨z,_,rfl⟩:=qFL.1 hd;exact⟨Cod.kn z,Cod.wid z⟩
    ·rw[Y,qFP,h1]at h2;cases h2;obtain⟨z,_,rfl⟩:=qFL.1 (qFF h1);exact⟨rfl, .v _ rfl (λs h=>by cases h)⟩
   ·have hne:∀b,r.blk=some b->b≠gb:=λb hb e=>n1 (p.dis i id r _ gb k1 t (e ▸hb) hbo)
    exact(p.ok i r k1).conv hmove (λb hb=>U b ((p.ok i r k1).lt hb) (hne b hb))
end
end
end Go.Gv
namespace Go.Proofs
open Go.Shelf
def Tryz.sortSource_ren:Go.Shelf.Ren:=⟨λ|6=>127|15=>147|14=>191|28=>211|29=>212|20=>244|21=>245|22=>246|23=>247|24=>248|25=>249|26=>250|27=>251|46=>282|47=>262|48=>263|49=>283|50=>284|57=>304|n=>n,λ|22=>47|24=>50|25=>136|3=>3|39=>141|0=>0|53=>256|55=>258|4=>4|46=>250|45=>249|50=>90|5=>5|9=>9|66=>294|70=>298|76=>324|77=>127|n=>n,λ|n=>n⟩
theorem Tryz.sortSource:Go.Proofs.SlLaysF0.n6 Tryz.prog Tryz.sortSource_ren:={
 mixed:=by kernel_rfl
 f6:=⟨Tryz.f127.name,by decide,Tryz.func127.trans (congrArg some (by kernel_rfl))⟩
 a:=⟨Tryz.f191.name,by decide,Tryz.func191.trans (congrArg some (by kernel_rfl))⟩
 b:=Tryz.func147.trans (congrArg some (by kernel_rfl))
 c:=⟨Tryz.f244.name,by decide,Tryz.func244.trans (congrArg some (by kernel_rfl))⟩
 d:=⟨Tryz.f245.name,by decide,Tryz.func245.trans (congrArg some (by kernel_rfl))⟩
 h:=⟨Tryz.f246.name,by decide,Tryz.func246.trans (congrArg some (by kernel_rfl))⟩
 j:=⟨Tryz.f247.name,by decide,Tryz.func247.trans (congrArg some (by kernel_rfl))⟩
 k:=⟨Tryz.f248.name,by decide,Tryz.func248.trans (congrArg some (by kernel_rfl))⟩
 l:=⟨Tryz.f249.name,by decide,Tryz.func249.trans (congrArg some (by kernel_rfl))⟩
 p:=⟨Tryz.f250.name,by decide,Tryz.func250.trans (congrArg some (by kernel_rfl))⟩
 q:=⟨Tryz.f251.name,by decide,Tryz.func251.trans (congrArg some (by kernel_rfl))⟩
 r:=Tryz.func211.trans (congrArg some (by kernel_rfl))
 s:=Tryz.func212.trans (congrArg some (by kernel_rfl))
 t:=⟨Tryz.f282.name,by decide,Tryz.func282.trans (congrArg some (by kernel_rfl))⟩
 u:=Tryz.func262.trans (congrArg some (by kernel_rfl))
 w:=Tryz.func263.trans (congrArg some (by kernel_rfl))
 x:=⟨Tryz.f283.name,by decide,Tryz.func283.trans (congrArg some (by kernel_rfl))⟩
 y:=⟨Tryz.f284.name,by decide,Tryz.func284.trans (congrArg some (by kernel_rfl))⟩
 A:=⟨Tryz.f304.name,by decide,Tryz.func304.trans (congrArg some (by kernel_rfl))⟩
 t0:=Tryz.underlying0
 a0:=Tryz.isAgg0
 z0:=Tryz.sizeOf0
 v0:=Tryz.zeroValue0
 t3:=Tryz.underlying3
 a3:=Tryz.isAgg3
 z3:=Tryz.sizeOf3
 v3:=Tryz.zeroValue3
 t4:=Tryz.underlying4
 a4:=Tryz.isAgg4
 z4:=Tryz.sizeOf4
 v4:=Tryz.zeroValue4
 t5:=Tryz.underlying5
 a5:=Tryz.isAgg5
 z5:=Tryz.sizeOf5
 v5:=Tryz.zeroValue5
 t9:=Tryz.underlying9
 a9:=Tryz.isAgg9
 z9:=Tryz.sizeOf9
 v9:=Tryz.zeroValue9
 C:=Tryz.underlying47
 E:=Tryz.isAgg47
 F:=Tryz.sizeOf47
 I:=Tryz.zeroValue47
 J:=Tryz.underlying136
 K:=Tryz.isAgg136
 L:=Tryz.sizeOf136
 M:=Tryz.zeroValue136
 N:=Tryz.underlying141
 O:=Tryz.isAgg141
 Q:=Tryz.sizeOf141
 S:=Tryz.zeroValue141
 U:=Tryz.underlying249
 W:=Tryz.isAgg249
 Y:=Tryz.sizeOf249
 Z:=Tryz.zeroValue249
 t46:=Tryz.underlying250
 a46:=Tryz.isAgg250
 z46:=Tryz.sizeOf250
 v46:=Tryz.zeroValue250
 t50:=Tryz.underlying90
 a50:=Tryz.isAgg90
 z50:=Tryz.sizeOf90
 v50:=Tryz.zeroValue90
 t53:=Tryz.underlying256
 a53:=Tryz.isAgg256
 z53:=Tryz.sizeOf256
 v53:=Tryz.zeroValue256
 t55:=Tryz.underlying258
 a55:=Tryz.isAgg258
 z55:=Tryz.sizeOf258
 v55:=Tryz.zeroValue258
 t66:=Tryz.underlying294
 a66:=Tryz.isAgg294
 z66:=Tryz.sizeOf294
 v66:=Tryz.zeroValue294
 t70:=Tryz.underlying298
 a70:=Tryz.isAgg298
 z70:=Tryz.sizeOf298
 v70:=Tryz.zeroValue298
 t76:=Tryz.underlying324
 a76:=Tryz.isAgg324
 z76:=Tryz.sizeOf324
 v76:=Tryz.zeroValue324
 t77:=Tryz.underlying127
 a77:=Tryz.isAgg127
 z77:=Tryz.sizeOf127
 v77:=Tryz.zeroValue127 }
def Tryz.sortInt_ren:Go.Shelf.Ren:=⟨λ|53=>79|64=>147|63=>146|78=>211|79=>212|70=>203|71=>204|72=>205|73=>206|74=>207|75=>208|59=>76|76=>209|77=>210|88=>261|89=>262|90=>263|91=>264|92=>265|68=>144|96=>294|n=>n,λ|22=>22|23=>3|3=>3|51=>141|0=>0|67=>256|69=>258|4=>4|61=>250|60=>249|44=>90|5=>5|9=>9|75=>294|79=>298|83=>324|84=>127|n=>n,λ|n=>n⟩
theorem Tryz.sortInt:Go.Proofs.SlLaysN.n53 Tryz.prog Tryz.sortInt_ren:={
 mixed:=by kernel_rfl
 a:=⟨Tryz.f79.name,by decide,Tryz.func79.trans (congrArg some (by kernel_rfl))⟩
 b:=⟨Tryz.f76.name,by decide,Tryz.func76.trans (congrArg some (by kernel_rfl))⟩
 c:=⟨Tryz.f146.name,by decide,Tryz.func146.trans (congrArg some (by kernel_rfl))⟩
 f64:=Tryz.func147.trans (congrArg some (by kernel_rfl))
 d:=⟨Tryz.f144.name,by decide,Tryz.func144.trans (congrArg some (by kernel_rfl))⟩
 h:=⟨Tryz.f203.name,by decide,Tryz.func203.trans (congrArg some (by kernel_rfl))⟩
 j:=⟨Tryz.f204.name,by decide,Tryz.func204.trans (congrArg some (by kernel_rfl))⟩
 k:=⟨Tryz.f205.name,by decide,Tryz.func205.trans (congrArg some (by kernel_rfl))⟩
 l:=⟨Tryz.f206.name,by decide,Tryz.func206.trans (congrArg some (by kernel_rfl))⟩
 p:=⟨Tryz.f207.name,by decide,Tryz.func207.trans (congrArg some (by kernel_rfl))⟩
 q:=⟨Tryz.f208.name,by decide,Tryz.func208.trans (congrArg some (by kernel_rfl))⟩
 r:=⟨Tryz.f209.name,by decide,Tryz.func209.trans (congrArg some (by kernel_rfl))⟩
 s:=⟨Tryz.f210.name,by decide,Tryz.func210.trans (congrArg some (by kernel_rfl))⟩
 t:=Tryz.func211.trans (congrArg some (by kernel_rfl))
 u:=Tryz.func212.trans (congrArg some (by kernel_rfl))
 w:=⟨Tryz.f261.name,by decide,Tryz.func261.trans (congrArg some (by kernel_rfl))⟩
 x:=Tryz.func262.trans (congrArg some (by kernel_rfl))
 y:=Tryz.func263.trans (congrArg some (by kernel_rfl))
 A:=⟨Tryz.f264.name,by decide,Tryz.func264.trans (congrArg some (by kernel_rfl))⟩
 C:=⟨Tryz.f265.name,by decide,Tryz.func265.trans (congrArg some (by kernel_rfl))⟩
 E:=⟨Tryz.f294.name,by decide,Tryz.func294.trans (congrArg some (by kernel_rfl))⟩
 t0:=Tryz.underlying0
 a0:=Tryz.isAgg0
 z0:=Tryz.sizeOf0
 v0:=Tryz.zeroValue0
 t3:=Tryz.underlying3
 a3:=Tryz.isAgg3
 z3:=Tryz.sizeOf3
 v3:=Tryz.zeroValue3
 t4:=Tryz.underlying4
 a4:=Tryz.isAgg4
 z4:=Tryz.sizeOf4
 v4:=Tryz.zeroValue4
 t5:=Tryz.underlying5
 a5:=Tryz.isAgg5
 z5:=Tryz.sizeOf5
 v5:=Tryz.zeroValue5
 t9:=Tryz.underlying9
 a9:=Tryz.isAgg9
 z9:=Tryz.sizeOf9
 v9:=Tryz.zeroValue9
 F:=Tryz.underlying22
 I:=Tryz.isAgg22
 J:=Tryz.sizeOf22
 K:=Tryz.zeroValue22
 L:=Tryz.underlying3
 M:=Tryz.isAgg3
 N:=Tryz.sizeOf3
 O:=Tryz.zeroValue3
 Q:=Tryz.underlying90
 S:=Tryz.isAgg90
 U:=Tryz.sizeOf90
 W:=Tryz.zeroValue90
 Y:=Tryz.underlying141
 Z:=Tryz.isAgg141
 z51:=Tryz.sizeOf141
 v51:=Tryz.zeroValue141
 t60:=Tryz.underlying249
 a60:=Tryz.isAgg249
 z60:=Tryz.sizeOf249
 v60:=Tryz.zeroValue249
 t61:=Tryz.underlying250
 a61:=Tryz.isAgg250
 z61:=Tryz.sizeOf250
 v61:=Tryz.zeroValue250
 t67:=Tryz.underlying256
 a67:=Tryz.isAgg256
 z67:=Tryz.sizeOf256
 v67:=Tryz.zeroValue256
 t69:=Tryz.underlying258
 a69:=Tryz.isAgg258
 z69:=Tryz.sizeOf258
 v69:=Tryz.zeroValue258
 t75:=Tryz.underlying294
 a75:=Tryz.isAgg294
 z75:=Tryz.sizeOf294
 v75:=Tryz.zeroValue294
 t79:=Tryz.underlying298
 a79:=Tryz.isAgg298
 z79:=Tryz.sizeOf298
 v79:=Tryz.zeroValue298
 t83:=Tryz.underlying324
 a83:=Tryz.isAgg324
 z83:=Tryz.sizeOf324
 v83:=Tryz.zeroValue324
 t84:=Tryz.underlying127
 a84:=Tryz.isAgg127
 z84:=Tryz.sizeOf127
 v84:=Tryz.zeroValue127 }
end Go.Proofs
namespace Go.Gv
section
open Go.Proofs
def vh:CC:=gq Tryz.f70 [2,3] {} _
def uC:List aj:=[.tmp 4]
def MT:FO xc [2,3] vh uC 17:=fo
def te:CC:=gq Tryz.f29 [2] {} _
def sv:List aj:=[.tmp 4]
def KE:FO uM [2] te sv 37:=fo
def xN:CC:=gq Tryz.f11 [3,4] { bx:=[99,100] } _
def wG:List aj:=[.tmp 6, .tmp 7]
def Po:FO tK [3,4] xN wG 101:=fo
def Cj:CC:=gq Tryz.f37 [2,3] {} _
def Bh:List aj:=[.tmp 4, .tmp 5]
def Vz:FO El [2,3] Cj Bh 50:=fo
def vo:CC:=gq Tryz.f14 [3] {} _
def uI:List aj:=[.tmp 4]
def MZ:FO xi [3] vo uI 36:=fo
def xR:CC:=gq Tryz.f13 [] {} _
def wJ:List aj:=[.tmp 0]
def Ps:FO zA [] xR wJ 60:=fo
def gk:CC:=gq Tryz.f71 [3] {} _
def gg:List aj:=[.tmp 4]
def yc:FO gY [3] gk gg 9:=fo
def ju:CC:=gq Tryz.f132 [3] {} _
def iZ:List aj:=[.tmp 4]
def Bt:FO kA [3] ju iZ 19:=fo
def fY:CC:=gq Tryz.f32 [] {} _
def fR:List aj:=[.tmp 4, .tmp 5]
def wO:FO gj [] fY fR 54:=fo
def vp:CC:=gq Tryz.f76 [] {} _
def uJ:List aj:=[.tmp 4]
def M0:FO xk [] vp uJ 17:=fo
def nl:CC:=gq Tryz.f77 [] {} _
def mP:List aj:=[.tmp 2]
def Fq:FO oO [] nl mP 6:=fo
def pj:CC:=gq Tryz.f92 [2,3] {} _
def ox:List aj:=[.tmp 4, .tmp 5]
def GN:FO qZ [2,3] pj ox 43:=fo
def rM:CC:=gq Tryz.f154 [2,3] {} _
def qs:List aj:=[.tmp 4, .tmp 5]
def IX:FO sU [2,3] rM qs 17:=fo
def nt:CC:=gq Tryz.f5 [] {} _
def mU:List aj:=[.tmp 6]
def Fw:FO xj [] nt mU 80:=fo
open Cod (enc dec)
variable {S S0:Nat->Spc}
def NV(h1:S cW=gA)(h2:S mF=vD):ak vh uC S (a2 Span Span) (λ_=>True) (enc (X:=Int)) λx y=>y=vy x.1 x.2:=by
 rintro⟨a,b⟩ -;simp[vh,uC,h1,h2,vy];by_cases h:ug a.b b.b=0
 ·by_cases c:ug a.e b.e=0
  ·simp[h,c]
  ·simp[h,c]
 ·simp[h]
def ZA(l:List Span)(s:Span):Bool:=l.any λz=>decide (z=s)
def K0{l:List Span}{s:Span} :ZA l s=true↔s∈l:=by simp[ZA]
abbrev qdx:Spc:=aG (a2 (List Span) Span) (λ_=>True) (enc (X:=Int)) λx y=>y=fe x.1 λz=>decide (z=x.2)
theorem NY:ak ju iZ S (a2 (List Span) Span) (λ_=>True) (enc (X:=Int)) λx y=>y=fe x.1 λz=>decide (z=x.2):=by
 rintro⟨l,s⟩ -;simp[ju,iZ,-fB',-eB'];intro _;refine ah (X:=Unit) [0,3] [] l.length (λk _=>∀x∈l.take k,decide (x=s)=false) (λ_=>[]) (λ_=>[]) () (by simp) ?_ ?_
 ·intro k _ hk d;obtain⟨x,c⟩:=eK hk;obtain⟨_,j⟩:=qFB.1 c;simp[hk,c,j,-fB',-eB'];have p:s.b=x.b->s.e=x.e->x=s:=λh1 h2=>by
   obtain⟨a,b⟩:=x;obtain⟨q,b'⟩:=s;simp only at h1 h2;rw[h1,h2]
  refine⟨λh1 h2=>(tE c (by simp[p h1 h2]) d).symm,λh=>?_⟩;rw[av c];intro z hz;rcases qFG.1 hz with hz|hz
  ·have:=d z hz;simpa using this
  ·simp at hz;subst hz;intro e;subst e;exact h rfl rfl
 ·intro _ d;simp at d;simp;exact(jZ (λx c=>by simp[d x c])).symm
abbrev qdC:Spc:=aG (a2 (List Span) Span) (λ_=>True) (enc (X:=Bool)) λx y=>y=ZA x.1 x.2
def HO(h1:S kA=qdx):ak gk gg S (a2 (List Span) Span) (λ_=>True) (enc (X:=Bool)) λx y=>y=ZA x.1 x.2:=by
 rintro⟨l,s⟩ -;simp[gk,gg,h1,-fB',-eB'];exact vJ _ l
def qjk(F l:List Span)(k:Nat):Prop:=∀x,l[k]? =some x->x∈F/\∀y,0<k->l[k -1]? =some y->vy y x< 0
def qc1(F l:List Span):Prop:=∀k,qjk F l k
def WL(x:Qry×List Span)(y:Int):Prop:=∃F,jF x.1.pat F/\(y=0/\qc1 F x.2\/y=18/\ ¬qc1 F x.2)
abbrev Cv:Spc:=aG (a2 Qry (List Span)) (λx=>oc x.1.pat/\x.2.length<=100000) (enc (X:=Int)) WL
theorem Ms(h1:S mE=se)(h2:S xc=od)(h3:S gY=qdC):ak te sv S (a2 Qry (List Span)) (λx=>oc x.1.pat/\x.2.length<=100000) (enc (X:=Int)) WL:=by
 rintro⟨q,l⟩ ⟨hp,hl⟩;have hp:oc q.pat:=hp;have hl:l.length<=100000:=hl;simp[te,sv,h1,h2,h3,hp,-fB',-eB'];intro F t u;refine ah (X:=Unit) [1,5,11] [] l.length (λk _=>∀j,j<k->qjk F l j) (λ_=>[]) (λ_=>[]) () (by simp) ?_ ?_
 ·intro k _ hk r;obtain⟨x,a⟩:=eK hk;obtain⟨_,b⟩:=qFB.1 a;have snoc:qjk F l k->∀j,j<k+1->qjk F l j:=λh j w=>by
   rcases Nat.lt_succ_iff_lt_or_eq.1 w with h1|rfl
   ·exact r j h1
   ·exact h
  have bad:¬qjk F l k->WL (q,l) 18:=λh=>⟨F,t, .inr ⟨rfl,λh2=>h (h2 k)⟩⟩
  have c:ZA F x=false->WL (q,l) 18:=λh=>bad λh2=>by
   have:=K0.2 (h2 x a).1;rw[h]at this;cases this
  rcases qGU k with rfl|hk0
  ·simp[hk,a,b,h2,h3,-fB',-eB'];exact⟨c,λh z hz=>by rw[a]at hz;cases hz;exact⟨K0.1 h,λ_ h0=>by omega⟩⟩
  ·obtain⟨y,p⟩:=eK (show k -1<l.length by omega);obtain⟨_,s⟩:=qFB.1 p;simp[hk,a,b,h2,h3,hk0,p,s,-fB',-eB'];refine⟨⟨by omega,by omega⟩,by omega,by omega,λhc=>⟨c,λh=>snoc λz hz=>?_⟩,λhc=>bad λh2=>?_⟩
   ·rw[a]at hz;cases hz;exact⟨K0.1 h,λA _ d=>by rw[p]at d;cases d;exact hc⟩
   ·have:=(h2 x a).2 y hk0 p;omega
 ·intro _ r;simp;exact⟨F,t, .inl ⟨rfl,λk=>by
   by_cases h:k<l.length
   ·exact r k h
   ·intro x a;rw[qFV (by simpa using h)]at a;cases a⟩⟩
def qbd(h1:S oa=uq):ak vp uJ S (a2 Int Int) (λ_=>True) (enc (X:=Bool)) λx y=>y=decide (x.1<x.2):=by
 rintro⟨a,b⟩ -;simp[vp,uJ,h1]
def Bp{l:List Int}(hs:l.Pairwise (· < ·)){i j:Nat}{a b:Int}(h:i<j)(c:l[i]? =some a)(hb:l[j]? =some b):a<b:=by
 obtain⟨h1,rfl⟩:=qFB.1 c;obtain⟨h2,rfl⟩:=qFB.1 hb;exact qGE.1 hs i j h1 h2 h
abbrev qik:Spc:=aG (a1 Int) (λ_=>True) (enc (X:=Bool)) λ_ y=>y=false
def qqj:ak nl mP S (a1 Int) (λ_=>True) (enc (X:=Bool)) λ_ y=>y=false:=by
 rintro a -;simp[nl,mP]
abbrev qiK:Spc:=aG (a2 Int Int) (λ_=>True) (enc (X:=Bool)) λx y=>y=decide (x.1<x.2)
abbrev qiR:Spc:=aG (a2 (List Int) Int) (λx=>x.1.Pairwise (· < ·)/\x.1.length<=1000000) (kZ (Y:=Int) (Z:=Bool)) λx y=>y.2=decide (x.2∈x.1)
theorem qqB(h1:S xk=qiK)(h2:S oO=qik):ak fY fR S (a2 (List Int) Int) (λx=>x.1.Pairwise (· < ·)/\x.1.length<=1000000) (kZ (Y:=Int) (Z:=Bool)) λx y=>y.2=decide (x.2∈x.1):=by
 rintro⟨l,x⟩ ⟨hs,hl⟩;have hs:l.Pairwise (· < ·):=hs;have hl:l.length<=1000000:=hl;simp[fY,fR,h1,h2,-fB',-eB'];intro E;refine au (X:=Nat×Nat) [0,1,6] [] (λz=>z.1<=z.2/\z.2<=l.length/\(∀k v,k<z.1->l[k]? =some v->v<x)/\∀k v,z.2<=k->l[k]? =some v->x<=v) (λz=>[(7,enc (z.1:Int)),(8,enc (z.2:Int))]) (λ_=>[]) (λz=>z.2 -z.1) (0,l.length) ⟨qFY _,qFH _,λk v h=>by omega,λk v h h2=>by rw[qFV h]at h2;cases h2⟩ ?_;rintro⟨i,j⟩ ⟨F,A,s,u⟩;simp only at F A s u;have I:qfH .u64 (IntKind.u64.wrap ((i:Int) +j)) 1=(((i+j) /2:Nat):Int):=by
  rw[InR.wrap (show InR .u64 ((i:Int) +j)from⟨by omega,by omega⟩)];show Int.fdiv _ (2^1)=_;rw[Int.fdiv_eq_ediv_of_nonneg _ (by decide)];omega
 have J:IntKind.i64.wrap (((i:Int) +j) /2)=(((i+j) /2:Nat):Int):=by
  rw[InR.wrap (show InR .i64 (((i:Int) +j) /2)from⟨by omega,by omega⟩)];omega
 by_cases w:i<j
 ·obtain⟨y,b⟩:=eK (show(i+j) /2<l.length by omega);obtain⟨_,p⟩:=qFB.1 b;simp[h1,w,I,-fB',-eB'];rw[J];refine⟨⟨by omega,by omega⟩,by omega,by omega,λa C=>?_⟩;rw[qHU,b]at C;cases C;refine⟨λh=>⟨⟨by omega,by omega⟩,(i+j) /2+1,j,⟨by omega,A,λk v hk q=>?_,u⟩,⟨by omega,rfl⟩,by omega⟩,λh=>⟨i,(i+j) /2,⟨by omega,by omega,s,λk v hk q=>?_⟩,⟨rfl,rfl⟩,by omega⟩⟩
  ·rcases Nat.lt_or_ge k ((i+j) /2)with h5|h5
   ·have:=Bp hs h5 q b;omega
   ·have:k=(i+j) /2:=by omega
    subst this;rw[b]at q;cases q;exact h
  ·rcases Nat.lt_or_ge ((i+j) /2) k with h5|h5
   ·have:=Bp hs h5 b q;omega
   ·have:k=(i+j) /2:=by omega
    subst this;rw[b]at q;cases q;exact h
 ·have r:j=i:=by omega
  subst r;by_cases t:j<l.length
  ·obtain⟨y,b⟩:=eK t;obtain⟨_,p⟩:=qFB.1 b;have c:(j:Int)<l.length:=by omega
   by_cases d:y=x
   ·simp[h1,h2,c,t,b,p,d,-fB',-eB'];exact qFF (d ▸b)
   ·simp[h1,h2,c,t,b,p,d,-fB',-eB'];intro hm;obtain⟨k,hk⟩:=qF3.1 hm;have:=u j y (qFH _) b;rcases Nat.lt_or_ge k j with h5|h5
    ·have:=s k x h5 hk;omega
    ·rcases Nat.lt_or_eq_of_le h5 with h6|h6
     ·have:=Bp hs h6 b hk;omega
     ·subst h6;rw[b]at hk;cases hk;exact d rfl
  ·have c:¬(j:Int)<l.length:=by omega
   simp[h1,h2,c,t,-fB',-eB'];intro hm;obtain⟨k,hk⟩:=qF3.1 hm;have:=(qFB.1 hk).1;have:=s k x (by omega) hk;omega
end
section
variable {dq:Prop}
open Cod (enc dec)
open Go.Proofs Go.Shelf Go.RowKit Go.Maps Go.Sort
def qrH(g:Nat):PT:=λd ds H K=>∃id x es,ds=[.own id x]/\H id=some (.mrow x es)/\∀b,K (.clo g [.bptr d b 0]) (ai H d (some (.box b [.own id x])))
def qgu(g:Nat):nC (qrH g):=λd ds H K a hk ⟨id,x,es,h1,h2,h3⟩=>⟨id,x,es,h1,h2,λb=>hk _ _ (h3 b)⟩
def qd8(g:Nat):Spc:= .gen _ (qgu g)
def Zt(g d:Nat)(id:Nat)(x:Value)(r:Option Res)(H:ab)(K:D->ab->Prop):Prop:=match r with
 |some (.mrow a es)=>a=x/\∀b,K (.clo g [.bptr d b 0]) (ai H d (some (.box b [.own id a])))
 | _=>False
@[simp] theorem qx9(g d id:Nat)(x a:Value)(es:List D)(H:ab)(K:D->ab->Prop):Zt g d id x (some (.mrow a es)) H K=(a=x/\∀b,K (.clo g [.bptr d b 0]) (ai H d (some (.box b [.own id a])))):=i' rfl
@[congr] theorem qu4{g d id:Nat}{x:Value}{r r':Option Res}{H:ab}{K:D->ab->Prop}(h:r=r'):Zt g d id x r H K=Zt g d id x r' H K:=by subst h;rfl
@[simp] theorem qu5(g d i:Nat)(x:Value)(H:ab)(K:D->ab->Prop):(qd8 g).pt d [.own i x] H K=Zt g d i x (H i) H K:=by
 refine propext ⟨λh=>?_,λh=>?_⟩
 ·obtain⟨id,a,es,h1,h2,h3⟩:=h;cases h1;rw[h2];exact⟨rfl,h3⟩
 ·unfold Zt at h;split at h
  ·rename_i a es b;obtain⟨rfl,h⟩:=h;exact⟨i,a,es,rfl,b,h⟩
  ·exact h.elim
def qh0(g:Nat):PT:=λd ds H K=>∃(i b j:Nat) (x:Value) (ks:List Int),ds=[.clo g [.bptr i b 0]]/\H i=some (.box b [.own j x])/\H j=some (.mrow x (aW ks))/\ks.Nodup/\ks.length<=1000000/\(∀k∈ks,0<=k/\k<=1000000)/\
 ∀v,K (.own d v) (ai H d (some (.row v bj 1 ((ks.mergeSort (λx y=>decide (x<=y))).map enc))))
def Ye(g:Nat):nC (qh0 g):=λd ds H K c hk ⟨i,b,j,x,ks,h1,h2,h3,h4,h5,h6,a⟩=>⟨i,b,j,x,ks,h1,h2,h3,h4,h5,h6,λv=>hk _ _ (a v)⟩
def UR(g:Nat):Spc:= .gen _ (Ye g)
section
variable {P:Program}{ρ:Ren}
theorem qhL{fk:Nat}(L:SlLaysZI.n7 P ρ)(u:ρ.f 7=fk)(A:dc P fk):Tri dq P fk (qd8 (ρ.f 10)).pt:=by
 subst u;intro O tp w vs ds H d K hO l j hlen a C;obtain⟨id,x,es,rfl,hid,E⟩:=C
 match vs,hlen,a with
 | [r],_,a=>
 have F:r=x:=by
  have:=a 0 r _ rfl rfl;cases this;rfl
 subst F;obtain⟨q,s,clock,rfl,h1,h2,h3⟩:=j.ok id _ hid;refine⟨A,((callsIn_wide (n:=6)).1 (AnyZI.keys_in L Fence.wide 6 trivial rfl (some q) w)).mono ?_⟩;rintro e w' ⟨rfl,rfl⟩;have I:StW ⟨O,tp,w,bA H,0, [],dq⟩ tp H w:=⟨hO,λ_ h=>h,λ_ h=> .inl h,⟨l.1,l.2⟩, .refl _ _ _,λ_ h=> .inl h,j⟩
 obtain⟨hm,mv⟩:=qz (t:=d) (ob:= .cells #[.map (some q)] (ρ.t 23)) (r':= .box w.heap.size [.own id (.map (some q))]) I (λb hb=>by cases hb;rfl) (λmv=>⟨#[.map (some q)],ρ.t 23,heap_alloc_new _ _,rfl,λk y c p hc=>by
  match k with
  | 0=>simp at p hc;subst p;subst hc;exact⟨rfl, .own _ _ rfl⟩
  |k+1=>simp at hc⟩)
 refine⟨_,_,_,tp,rfl,E w.heap.size,λ_ h=>h,λ_ h=> .inl h,hm.tpl.1,hm.step,hm.loc,hm.sat,?_⟩;exact .clo _ [.pointer (some ⟨w.heap.size,0,none⟩)] [.bptr d w.heap.size 0] rfl (λk y c p hc=>by
  match k with
  | 0=>simp at p hc;subst p;subst hc;exact .bptr _ _ _
  |k+1=>simp at hc)
def Px:∀{ks:List Int},ks.Nodup->(ks.map (Value.int .i64)).Nodup
 | [],_=>qG2
 | a::l,h=>by
   have h:=qGM.1 h;refine qGM.2 ⟨λhm=>?_,Px h.2⟩;obtain⟨b,hb,e⟩:=qFL.1 hm;injection e with _ e;subst e;exact h.1 hb
theorem qfV{k:TypeId}(hk:P.underlying k=some (.int .i64)){w:World}{t clock:Nat}{a:Array MapEntry}{ks:List Int}(hb:w.heap[t]? =some (.map a clock))(d:ga a clock)(hl:a.size=ks.length)(hn:ks.Nodup)(hlen:ks.length<=1000000)
 (y:∀k∈ks,0<=k/\k<=1000000) (he:∀(i:Nat) (e:MapEntry) (k:Int),a[i]? =some e->ks[i]? =some k->e.key= .int .i64 k):
 ∃s:DataW Unit,w.ownsMap P k (λ_=>some (.nil, [])) t a.size s/\(intKeys s).Perm ks/\Maps.size s=ks.length:=by
 have b:a.toList.map (·.key)=ks.map (Value.int .i64):=by
  refine qGj λi=>?_
  rw[qFP,qFP,qFZ];by_cases hi:i<ks.length
  ·have u:a[i]? =some (a[i]'(by omega)):=qGe (by omega);rw[u,qFC hi];simp only[qG8];rw[he i _ _ u (qFC hi)]
  ·rw[qGI (by omega),qFV (by omega)];rfl
 have j:∀x∈a.toList,∃n∈ks,x.key= .int .i64 n/\WideElems.rd (H:=Unit) P k (λ_=>some (.nil, [])) x=some (.int .i64 n, .nil):=λx l=>by
  have:x.key∈ks.map (Value.int .i64):=by rw[<-b];exact qFL.2 ⟨x,l,rfl⟩
  obtain⟨n,q,c⟩:=qFL.1 this;have A:=y n q;refine⟨n,q,c.symm,?_⟩;have C:(Lit.int .i64 n).wf=true:=by
   exact(Lit.wf_int_iff .i64 n).2 ⟨by have:IntKind.i64.min= -9223372036854775808:=rfl;omega,by have:IntKind.i64.max=9223372036854775807:=rfl;omega⟩
  simp[WideElems.rd,<-c,keyOf,hk,mapKey,C]
 have F:WideElems.Fit (H:=Unit) P k (λ_=>some (.nil, [])) a clock:=⟨by rw[hl];exact qGg hlen (by decide),⟨d.1,d.2,by rw[b];exact Px hn⟩,λx l=>by
  obtain⟨n,_,_,h⟩:=j x l;exact⟨_,h⟩⟩
 have r:=World.ownsMap_of_fit (R:=λ_=>some (.nil, [])) hb F (λ_ _ _ h=>h);refine⟨_,r,?_,?_⟩
 ·show(((a.toList.map (WideElems.rg P k _)).foldr DataW.insert []).map λp=>intOf p.1).Perm ks;refine((WideShapes.sorted_perm _).map _).trans ?_;rw[List.map_map];have:a.toList.map ((λp:Lit×DataW Unit=>intOf p.1) ∘WideElems.rg P k λ_=>some (.nil, []))=ks:=by
   have h2:a.toList.map ((λp:Lit×DataW Unit=>intOf p.1) ∘WideElems.rg P k λ_=>some (.nil, []))=(a.toList.map (·.key)).map λv=>match v with| .int _ n=>n|_=>0:=by
    rw[List.map_map];refine qGF λx l=>?_
    obtain⟨n,_,c,h⟩:=j x l;simp only[Function.comp];rw[WideElems.rg_of h,c];rfl
   rw[h2,b,List.map_map];exact List.map_id'' (λ_=>rfl) ks
  rw[this]
 ·show((a.toList.map (WideElems.rg P k _)).foldr DataW.insert []).length=_;rw[DataW.length_sorted,qGl,qGm,hl]
theorem qby{fs fk:Nat}{C:Ren}(hdq:¬dq)(L:SlLaysZI.n6 P ρ)(L7:SlLaysZI.n7 P C)(hf:ρ.f 6=fs)(ef:dc P fs)(hty:ρ.t 26=bj)(Y:∀m,AnyZI.SortsIn P ρ Fence.wide m)
 (e9:∀args w,(callFunc (ρ.f 9) args).run P w= .ok (.enter (ρ.f 9) args) w) (e10:∀args w,(callFunc (C.f 10) args).run P w= .ok (.enter (C.f 10) args) w):Tri dq P fs (UR (C.f 10)).pt:=by
 subst hf;intro O tp w vs ds H d K hO S u hlen J hA;obtain⟨i,b,j,x,ks,rfl,hi,hj,hn,hl,hr,hK⟩:=hA
 match vs,hlen,J with
 | [v0],_,J=>
 have hv:=J 0 v0 _ rfl rfl;obtain⟨Z,el0,hb1,hb2,hb3⟩:=u.ok i _ hi;obtain⟨mb,ents,clock,rfl,h1,h2,h3⟩:=u.ok j _ hj;have hx0:Z= #[.map (some mb)]:=by
  obtain⟨⟨y,hy⟩⟩:Nonempty {y//Z= #[y]} :=by
   rcases Z with⟨l⟩
   match l,hb2 with
   | [y],_=>exact⟨⟨y,rfl⟩⟩
  subst hy;have:=(hb3 0 y _ rfl rfl).2;cases this;rfl
 subst hx0;have hcell:w.cell? ⟨b,0,none⟩=some (.map (some mb)):=by simp[World.cell?,hb1]
 have hbl:b<w.heap.size:=(qFN.1 hb1).1;have u26:=L7.t26;have hsz:(aW ks).length=ks.length:=by simp[aW]
 obtain⟨D0,hown,N,hms⟩:=qfV (P:=P) (k:=C.t 26) u26 h1 h2 (by rw[h3.1,hsz]) hn hl hr (λi e k he hk=>by
  have hc:(aW ks)[i]? =some (.tup [enc k, .v (.bool true)]):=by simp[aW,hk]
  have:=h3.2 i e _ he hc;have:=this.ent.1;exact this.inv_v)
 have hseq:=AnyZI.keys_gives (ρ:=C) { L7 with } Fence.wide 3 trivial rfl (by omega) b mb _ D0 w hbl hcell hown;have hv0:v0= .func (.func (C.f 10)) #[] #[.pointer (some ⟨b,0,none⟩)]:=by
  cases hv with
  | clo _ ys _ hyl hyc=>
    match ys,hyl with
    | [y],_=>
    have:=hyc 0 y _ rfl rfl;cases this;rfl
 subst hv0;have cS:=AnyZI.sorted_in L Fence.wide 6 trivial trivial trivial trivial rfl (by omega) (Y _) e9 (C.f 10) #[.pointer (some ⟨b,0,none⟩)] trivial e10 _ (Maps.size D0) (by rw[hms];exact qGg hl (by decide)) (by rw[hms];omega) w hseq;refine⟨ef,((callsIn_wide (n:=6)).1 cS).mono ?_⟩;rintro e w' ⟨v,ss,rfl,hS,E,hnil,A⟩;have hss:ss.mergeSort (λx y=>decide (x<=y))=ks.mergeSort (λx y=>decide (x<=y)):=mergeSort_of_perm_i (hS.trans N);have hsl:ss.length=ks.length:=(hS.trans N).length_eq;rw[hss]at E;generalize hso:(ks.mergeSort λx y=>decide (x<=y))=U at E;have W:U.length=ks.length:=by rw[<-hso];simp
 have F:∀b',b'< w.heap.size->w'.heap[b']? =w.heap[b']?:=A.block
 let Hn:=ai H d (some (.row v bj 1 (U.map enc)))
 have M:∀b',(Res.row v bj 1 (U.map (enc (X:=Int)))).blk=some b'->w.heap.size<=b':=λb' p=>by
  rcases E.2 with⟨rfl,_⟩|⟨g,cap,cur,rfl,hg,_⟩
  ·cases p
  ·cases p;exact hg
 have Q:∀b',bA Hn b'->bA H b'\/w.heap.size<=b':=λb' p=>by
  rcases SO p with⟨r,h1,h2⟩|⟨i,r,_,h1,h2⟩
  ·cases h1;exact .inr (M b' h2)
  ·exact .inl ⟨i,r,h1,h2⟩
 have move:∀y c,R tp (aR O tp H w) w y c->R tp (aR O tp Hn w') w' y c:=λy c hr=>hr.mono (λ_ h=>h) (λb' p=>⟨⟨qFS p.1 A.size,p.2.1,p.2.2.1,λho=>by
  rcases Q b' ho with h|h
  ·exact p.2.2.2 h
  ·exact absurd p.1 (by omega)⟩,F b' p.1⟩) (λb' p=> .same (F b' (S.1 b' p)))
 have I:∀i r,Hn i=some r->(i=d/\r= .row v bj 1 (U.map enc))\/(i≠d/\H i=some r):=λi r h=>by
  simp only[Hn,ai]at h;split at h
  ·rename_i e;cases h;exact .inl ⟨e,rfl⟩
  ·rename_i e;exact .inr ⟨e,h⟩
 have hone:v.oneCell'=true:=by
  rcases E.2 with⟨rfl,_⟩|⟨g,cap,cur,rfl,_⟩ <;>rfl
 refine⟨v, .own d v,Hn,tp,rfl,by have:=hK v;rw[hso]at this;exact this,λ_ h=>h,λ_ h=> .inl h,λb' p=>qFS (S.1 b' p) A.size,
  ⟨A.os,A.tape,A.output,A.size,λb' p _ _=>F b' p,λb' p=> .same (F b' (S.1 b' p)),λq=>absurd q hdq⟩,Q,⟨?_,?_,?_⟩, .own _ _ hone⟩
 ·intro i j r s b' h1 h2 h3 h4;rcases I i r h1 with⟨rfl,rfl⟩|⟨n1,k1⟩
  ·rcases I j s h2 with⟨rfl,rfl⟩|⟨n2,k2⟩
   ·rfl
   ·have:=(u.ok j s k2).lt h4;have:=M b' h3;omega
  ·rcases I j s h2 with⟨rfl,rfl⟩|⟨n2,k2⟩
   ·have:=(u.ok i r k1).lt h3;have:=M b' h4;omega
   ·exact u.dis i j r s b' k1 k2 h3 h4
 ·intro i r b' h1 h2;rcases I i r h1 with⟨rfl,rfl⟩|⟨n1,k1⟩
  ·have:=M b' h2;exact⟨λh=>by have:=hO b' h;omega,λh=>by have:=S.1 b' h;omega⟩
  ·exact u.out i r b' k1 h2
 ·intro i r h1;rcases I i r h1 with⟨rfl,rfl⟩|⟨n1,k1⟩
  ·refine⟨U.map encZ,⟨by simp,?_⟩,λd hd=>?_,λk y c hy hc=>?_⟩
   ·have:=E.2;rw[hty]at this;rcases this with⟨h,h0⟩|⟨g,cap,cur,h,_,a1,a2,a3,a4,a5⟩
    ·exact .inl ⟨h,by rw[qGl,W,<-hsl];exact h0⟩
    ·exact .inr ⟨g,cap,cur,by rw[h];simp;omega,qFY _,a1,by simp;omega,a3,a4,by simpa [W,hsl]using a5⟩
   ·obtain⟨z,_,rfl⟩:=qFL.1 hd;exact⟨Cod.kn z,Cod.wid z⟩
   ·have hfl:bp (U.map (enc (X:=Int)))=(U.map encZ).map D.v:=by
     unfold bp;rw[List.flatMap_map,List.map_map];generalize U=l
     induction l with
     |nil=>rfl
     |cons a l ih=>rw[qGf,qF6,ih];rfl
    rw[hfl,qFP,hy]at hc;cases hc;obtain⟨z,_,rfl⟩:=qFL.1 (qFF hy);exact⟨rfl, .v _ rfl (λs h=>by cases h)⟩
  ·exact(u.ok i r k1).conv move (λb' p=>F b' ((u.ok i r k1).lt p))
end
end
section
open Cod (enc dec)
variable {S S0:Nat->Spc}
def qtO:Cond:=⟨1,⟨#[]⟩,⟨#[]⟩,⟨#[]⟩,⟨#[]⟩,false, []⟩
def Zs(q:Qry)(k:Int):Cond:=(((aq q.pat)[k.toNat]?).map λx=>x.cond).getD qtO
def YU(c:Corpus)(q:Qry)(i:Int)(x:Span):Bool:=decide (i+x.e∈If c (Zs q x.b)) && decide (fe c.texts (Zv i)=fe c.texts (Zv (i+x.e)))
def Bl(n:Nat):List Int:=(List.range n).map λi:Nat=>(i:Int)
def qfN(k:Nat):ye (k:Int) (Bl k)=Bl (k+1):=by
 have h:(k:Int) ∉Bl k:=λh=>by
  obtain⟨i,hi,e⟩:=qFL.1 h;have:=qGQ.1 hi;omega
 unfold ye;rw[if_neg h];simp[Bl,List.range_succ]
def PB{n:Nat}{i:Int} :i∈Bl n↔0<=i/\i<n:=by
 unfold Bl;rw[qFL];constructor
 ·rintro⟨j,a,rfl⟩;have:=qGQ.1 a;omega
 ·rintro⟨h0,h1⟩;exact⟨i.toNat,qGQ.2 (by omega),by omega⟩
def DF(n:Nat):(Bl n).Pairwise (· < ·):=by
 unfold Bl;rw[qHA];exact List.pairwise_lt_range.imp (λh=>by omega)
def Jr{b:Type}[DecidableEq b]:∀{l:List b} {i:Nat} {z:b},l.Nodup->l[i]? =some z->l.eraseIdx i=l.filter λy=>decide (y≠z)
 | [],_,_,_,h=>by simp at h
 | a::l,0,z,hn,h=>by
   simp at h;subst h;have hn:=qGM.1 hn;simp only[List.eraseIdx_cons_zero];rw[List.filter_cons_of_neg (by simp)];exact(qHd.2 λy c=>by simp;rintro rfl;exact hn.1 c).symm
 | a::l,i+1,z,hn,h=>by
   have hn:=qGM.1 hn;have hz:a≠z:=λe=>hn.1 (e ▸qFF (by simpa using h))
   rw[List.eraseIdx_cons_succ,List.filter_cons_of_pos (by simpa using hz),Jr hn.2 (by simpa using h)]
def qga{l:List Int}(hn:l.Nodup){i j:Nat}(hi:i<l.length)(a:j<l.length)(h:l[i]=l[j]):i=j:=by
 rcases qHV i j with h1|h1|h1
 ·exact absurd h (qGE.1 hn i j hi a h1)
 ·exact h1
 ·exact absurd h.symm (qGE.1 hn j i a hi h1)
def Ja:∀{a:List (Nat×Int)},(a.map (·.1)).Nodup->a.Nodup
 | [],_=>qG2
 | z::a,h=>by
   have h:=qGM.1 h;exact qGM.2 ⟨λhz=>h.1 (qFL.2 ⟨z,hz,rfl⟩),Ja h.2⟩
def qbK(l:List Int)(i:Nat):(aW l).eraseIdx i=aW (l.eraseIdx i):=by
 unfold aW
 induction l generalizing i with
 |nil=>rfl
 | cons a l b=>cases i with
   |zero=>rfl
   |succ i=>simp only[qF6,List.eraseIdx_cons_succ,b]
theorem qoE{l:List Int}{st:List Nat}{k:Int}{i:Nat}{K:List D->List Nat->Prop}(hn:l.Nodup)(hk:l[i]? =some k)(h:K (aW (l.eraseIdx i)) (st.eraseIdx i)):Tz false [.int .i64] (.v (.int .i64 k)) (aW l) st K:=by
 have a:=Jf;refine⟨Ox a l,a.fit k,λj r v' c m=>?_,λd=>?_⟩
 ·have b:j<l.length:=by
   have:=(qFB.1 c).1;simpa [aW]using this
  have e:(aW l)[j]? =some (.tup [enc l[j], .v (.bool true)]):=by simp[aW,b]
  rw[e]at c;simp only[qFQ,D.tup.injEq,qF8,and_true]at c;obtain⟨rfl,rfl⟩:=c;have p:k=l[j]:=by
   have:=G0 (a.pur k) (a.pur l[j]) m;exact aP this
  obtain⟨hi,q⟩:=qFB.1 hk;have:i=j:=qga hn hi b (q.trans p);subst this;rw[qbK];exact h
 ·exact absurd (AF.2 ⟨qFF hk,rfl⟩) (d (a.pur k) _)
def Ev(P:Int->Bool)(a:List (Nat×Int))(seen:List Nat):List (Nat×Int):=a.filter λz=>decide (z.1∉seen)||P z.2
def SW{c:List (Nat×Int)}(h:(c.map (·.1)).Nodup){a b:Nat×Int}(ha:a∈c)(hb:b∈c)(e:a.1=b.1):a=b:=by
 induction c with
 |nil=>cases ha
 | cons z c k=>
   have h:=qGM.1 h;rcases qFK.1 ha with d|ha<;>rcases qFK.1 hb with j|hb
   ·rw[d,j]
   ·exact absurd (qFL.2 ⟨b,hb,by rw[<-e,d]⟩) h.1
   ·exact absurd (qFL.2 ⟨a,ha,by rw[e,j]⟩) h.1
   ·exact k h.2 ha hb
def qgU{P:Int->Bool}{a:List (Nat×Int)}{seen:List Nat}{s:Nat}{k:Int}(hn:(a.map (·.1)).Nodup)(hm:(s,k) ∈a)(hk:P k=true):Ev P a (seen++ [s])=Ev P a seen:=by
 refine List.filter_congr λz hz=>?_
 by_cases e:z.1=s
 ·have:=SW hn hz hm e;subst this;simp[hk]
 ·simp[e]
def qk6{P:Int->Bool}{a:List (Nat×Int)}{seen:List Nat}{s i:Nat}{k:Int}(hn:(a.map (·.1)).Nodup)(hs:s∉seen)(hk:P k=false)(hi:(Ev P a seen)[i]? =some (s,k)):Ev P a (seen++ [s])=(Ev P a seen).eraseIdx i:=by
 have b:a.Nodup:=Ja hn;have hm:(s,k) ∈a:=(qGA.1 (qFF hi)).1;have h2:=Jr (b.filter _) hi;rw[show(Ev P a seen).eraseIdx i=_ from h2];unfold Ev;rw[List.filter_filter];refine List.filter_congr λz hz=>?_
 by_cases e:z.1=s
 ·have:=SW hn hz hm e;subst this;simp[hk]
 ·have:z≠ (s,k):=λh=>e (by rw[h])
  simp[e,this]
def qk5{P:Int->Bool}{a:List (Nat×Int)}{seen:List Nat}(h:∀s∈ (Ev P a seen).map (·.1),s∈seen):Ev P a seen=a.filter λz=>P z.2:=by
 refine List.filter_congr λz hz=>?_
 by_cases e:z.1∈seen
 ·simp[e]
 ·exact absurd (h z.1 (qFL.2 ⟨z,qGA.2 ⟨hz,by simp[e]⟩,rfl⟩)) e
def qnV{a:List (Nat×Int)}{seen:List Nat}{s:Nat}{k:Int}(hm:(s,k) ∈a)(hs:s∉seen):(a.filter λz=>!decide (z.1∈seen++ [s])).length<(a.filter λz=>!decide (z.1∈seen)).length:=by
 have e:(a.filter λz=>!decide (z.1∈seen++ [s]))=(a.filter λz=>!decide (z.1∈seen)).filter λz=>decide (z.1≠s):=by
  rw[List.filter_filter];refine List.filter_congr λz _=>?_
  by_cases h:z.1∈seen<;>by_cases h2:z.1=s<;>simp[h,h2]
 rw[e];have b:(s,k) ∈a.filter λz=>!decide (z.1∈seen):=qGA.2 ⟨hm,by simp[hs]⟩
 exact List.length_filter_lt_length_iff_exists.2 ⟨_,b,by simp⟩
def G6{b c:Type}(f:b->c):∀(l:List b) (i:Nat),(l.eraseIdx i).map f=(l.map f).eraseIdx i
 | [],_=>rfl
 |a::l,0=>rfl
 |a::l,i+1=>by simp only[List.eraseIdx_cons_succ,qF6,G6 f l i]
def qmx{st:List Nat}{ks:List Int}(h:st.length=ks.length):(st.zip ks).map (·.2)=ks:=by
 rw[show(λx:Nat×Int=>x.2)=Prod.snd from rfl,List.map_snd_zip (by omega)]
def qmy{st:List Nat}{ks:List Int}(h:st.length=ks.length):(st.zip ks).map (·.1)=st:=by
 rw[show(λx:Nat×Int=>x.1)=Prod.fst from rfl,List.map_fst_zip (by omega)]
def qlw(c:Corpus)(q:Qry)(s:List Span):List Int:=(Bl c.toks.length).filter λi=>s.all (YU c q i)
structure yI (V:List Attr->Qry->Prop) (c:Corpus) (q:Qry):Prop where
 v:V c.attrs q
 pat:fy aB q.pat=true
 size:fM q.pat<=256
 fx:oc q.pat
 pl:qhi q.pat []
 few:c.toks.length<=100000
 sel:∀x∈aq q.pat,JK (c,x.cond)
def qeX(V:List Attr->Qry->Prop)(z:Corpus×Qry×List Span):Prop:=yI V z.1 z.2.1/\z.2.2.length<=100000
def ql0(z:Corpus×Qry×List Span)(y:List Int×Int):Prop:=∃F,SrcsOf z.2.1.pat F/\(y=(qlw z.1 z.2.1 z.2.2,0)/\qc1 F z.2.2\/y=([],18)/\ ¬qc1 F z.2.2)
abbrev UW(V:List Attr->Qry->Prop):Spc:=aG (a3 Corpus Qry (List Span)) (qeX V) (kZ (Y:=List Int) (Z:=Int)) ql0
def qbL(c:Corpus)(x:Cond):(If c x).Pairwise (· < ·):=by
 unfold If Rw;rw[qHA];exact(List.pairwise_lt_range.filter _).imp (λh=>by omega)
def qj4{c:Corpus}{q:Qry}{s:List Span}{k:Nat}{x:Span}(a:s[k]? =some x){ks:List Int}(h:ks=(Bl c.toks.length).filter λi=>(s.take k).all (YU c q i)):ks.filter (λi=>YU c q i x)=(Bl c.toks.length).filter λi=>(s.take (k+1)).all (YU c q i):=by
 rw[h,List.filter_filter,av a];refine List.filter_congr λi _=>?_
 simp[List.all_append,Bool.and_comm]
theorem Ri{V:List Attr->Qry->Prop}(h1:S eB=EV V)(h2:S uM=Cv)(h3:S qW=wo)(h4:S js=qiJ)
 (h5:S gj=qiR) (h6:S jR=Cx) (h7:S sR=qd8 jr) (h8:S vx=UR jr):
 ak xN wG S (a3 Corpus Qry (List Span)) (qeX V) (kZ (Y:=List Int) (Z:=Int)) ql0:=by
 rintro⟨c,q,s⟩ ⟨p,hs⟩;have p:yI V c q:=p;have hs:s.length<=100000:=hs;have hV:V c.attrs q:=p.v;have Q:oc q.pat:=p.fx;have hfew:=p.few;have htl:(c.toks.length:Int)<=9223372036854775807:=by omega
 have hsl:(s.length:Int)<=9223372036854775807:=by omega
 simp[xN,wG,h1,h2,hV,Q,hs,htl,-fB',-eB'];rintro y ⟨F,u,hy⟩;have u:SrcsOf q.pat F:=by
  have u:jF q.pat F:=u;unfold jF at u;rwa [if_pos ⟨p.pat,p.size⟩]at u
 refine⟨λC=>?_,λhe v=>?_⟩
 ·rcases hy with⟨rfl,_⟩|⟨rfl,hno⟩
  ·exact absurd rfl C
  ·exact⟨F,u, .inr ⟨rfl,hno⟩⟩
 have U:qc1 F s:=by
  rcases hy with⟨_,h⟩|⟨rfl,_⟩
  ·exact h
  ·cases he
 clear hy he;refine ah (X:=List Int) [2,3,4,10] [] c.toks.length (λk ks=>ks=Bl k) (λ_=>[]) (λks=>[(33, .mrow v (aW ks))]) [] (by simp[Bl]) ?_ ?_ (hh:=by simp;exact .inl rfl)
 ·rintro k ks hk rfl;simp[-fB',-eB'];exact Ux (X:=Int) Jf rfl (.inl (by rw[qfN]))
 rintro ks rfl;simp[h3,hsl,p.pat,p.pl,-fB',-eB'];refine ah (X:=List Int) [3,10,12,46] [] s.length (λk ks=>ks=(Bl c.toks.length).filter λi=>(s.take k).all (YU c q i)) (λ_=>[]) (λks=>[(33, .mrow v (aW ks))]) (Bl c.toks.length) (by simp;exact(qHd.2 λ_ _=>rfl).symm) ?_ ?_
 ·rintro k ks hk d;obtain⟨x,hx⟩:=eK hk;obtain⟨_,hgx⟩:=qFB.1 hx;have hxF:SrcE q.pat 0 0 x:=(u.2 x).1 (U k x hx).1;obtain⟨r1,r2,r3,r4⟩:=UQ q.pat p.pat 0 0 x hxF;have r5:dm q.pat<=1000000:=Q.1;obtain⟨a,ha⟩:=eK (show x.b.toNat<(aq q.pat).length by omega);have hq:(bF q.pat)[x.b.toNat]? =some (nk a):=by unfold bF;rw[qFP,ha];rfl
  obtain⟨hql,W⟩:=qFB.1 hq;have w:JK (c,(nk a).cond):=p.sel a (qFF ha);have hlc:Zs q x.b=(nk a).cond:=by unfold Zs;rw[ha];rfl
  have hb2:x.b<(bF q.pat).length:=by omega
  have hb1:0<=x.b:=by omega
  generalize hcl:nk a=a' at hq W w hlc;simp[hk,hx,hgx,hq,W,hb1,hb2,h4,w,-fB',-eB'];intro b b1 st clock E;obtain⟨hb1',hbn,hbc⟩:=E;have hbl:st.length=ks.length:=by rw[hb1'];simp[aW]
  have I:=qmy hbl;have r:=qmx hbl;generalize hzs:st.zip ks=j at I r;have hzn:(j.map (·.1)).Nodup:=by rw[I];exact hbn
  have J:(j.map (·.2)).Nodup:=by
   rw[r,d];exact((DF _).imp (λh=>by omega)).filter _
  have hc0:Ev (λi=>YU c q i x) j []=j:=qHd.2 λz _=>by simp
  refine au (X:=List Nat) [3,10,12,14,15,46,47,48,67] [14] (λ_=>True) (λ_=>[]) (λseen=>[(33, .raw (.mrs v (aW ((Ev (λi=>YU c q i x) j seen).map (·.2))) ((Ev (λi=>YU c q i x) j seen).map (·.1)) clock)),(67, .raw (.mit b1 33 v clock seen))]) (λseen=>(j.filter λz=>decide (z.1∉seen)).length) [] trivial ?_ (hh:=by simp[hc0,I,r]);rintro seen -;simp[-fB',-eB'];have hsrt:(If c a'.cond).Pairwise (· < ·)/\(If c a'.cond).length<=1000000:=⟨qbL c a'.cond,qGg (Yl _ _ _) (by omega)⟩
  refine⟨λhall=> .inl ?_,λL k1 hm1 hns=>⟨⟨k1,hm1⟩,λi e t hi he=>?_⟩⟩
  ·congr 1;rw[qk5 (λs hs=>by obtain⟨z,hz,rfl⟩:=qFL.1 hs;exact hall z.1 z.2 hz)];rw[<-qj4 hx d,<-r,List.filter_map];rfl
  have M:(L,t) ∈j:=(qGA.1 (qFF hi)).1;have hmk:t∈Bl c.toks.length:=by
   have:t∈ks:=by rw[<-r];exact qFL.2 ⟨_,M,rfl⟩
   rw[d]at this;exact(qGA.1 this).1
  obtain⟨k0,k9⟩:=PB.1 hmk;have he2:e= .tup [enc t, .v (.bool true)]:=by
   have:(aW ((Ev (λi=>YU c q i x) j seen).map (·.2)))[i]? =some (.tup [enc t, .v (.bool true)]):=by simp[aW,hi]
   rw[this]at he;exact(qFO he).symm
  subst he2;have l:(j.filter λz=>!decide (z.1∈seen++ [L])).length<(j.filter λz=>!decide (z.1∈seen)).length:=qnV M hns;have N:YU c q t x=(decide (t+x.e∈If c a'.cond) && decide (fe c.texts (Zv t)=fe c.texts (Zv (t+x.e)))):=by unfold YU;rw[hlc]
  have A:YU c q t x=false->∀K:List D->List Nat->Prop,K (aW ((Ev (λi=>YU c q i x) j (seen++ [L])).map (·.2))) ((Ev (λi=>YU c q i x) j (seen++ [L])).map (·.1))->
   Tz false [KK.int IntKind.i64] (D.v (Value.int IntKind.i64 t)) (aW ((Ev (λi=>YU c q i x) j seen).map (·.2))) ((Ev (λi=>YU c q i x) j seen).map (·.1)) K:=λhp K hK=>by
   refine qoE (i:=i) ?_ (by rw[qFP,hi];rfl) ?_
   ·exact J.sublist (List.Sublist.map _ qH5)
   ·rw[qk6 hzn hns hp hi]at hK;rw[G6,G6]at hK;exact hK
  simp[h5,h6,hsrt,-fB',-eB'];refine⟨⟨by omega,by omega⟩,λO=>⟨⟨by omega,by omega⟩,λC=>?_,λheq=>?_⟩,λO=>?_⟩
  ·exact A (by rw[N];simp[C]) _ ⟨seen++ [L],⟨.inl ⟨rfl,rfl⟩, .inl rfl⟩,l⟩
  ·refine⟨seen++ [L],⟨.inl ?_, .inl rfl⟩,l⟩;rw[qgU hzn M (by rw[N];simp[O,heq])];exact⟨rfl,rfl⟩
  ·exact A (by rw[N];simp[O]) _ ⟨seen++ [L],⟨.inl ⟨rfl,rfl⟩, .inl rfl⟩,l⟩
 rintro ks d;rw[qFT]at d;have hkb:ks=qlw c q s:=d;simp[h7,-fB',-eB'];intro b;rw[h8];have J:ks.Nodup:=by
  rw[d];exact((DF _).imp (λh=>by omega)).filter _
 have hkr:∀k∈ks,0<=k/\k<c.toks.length:=λk hk=>by
  rw[d]at hk;exact PB.1 (qGA.1 hk).1
 have hkl:ks.length<=c.toks.length:=by
  rw[d];exact qGg (List.length_filter_le _ _) (by simp[Bl])
 have hms:ks.mergeSort (λx y=>decide (x<=y))=ks:=by
  refine List.mergeSort_of_pairwise ?_;rw[d];exact((DF _).filter _).imp λh=>by simp;omega
 refine⟨99,b,33,v,ks,rfl,by simp[ai],by simp[ai],J,by omega,λk hk=>⟨(hkr k hk).1,by have:=(hkr k hk).2;omega⟩,λv'=>?_⟩;rw[hms];refine⟨ks,fA bj (by simp[ai]),F,u, .inl ⟨by rw[hkb],U⟩⟩
end
section
open Go.Proofs
def ve:CC:=gq Tryz.f30 [1] { bx:=[7] } _
def uA:List aj:=[.tmp 2]
def MR:FO qW [1] ve uA 8:=fo
open Cod (enc dec)
variable {S S0:Nat->Spc}
def Mr(h1:S gZ=cB)(h2:S dK=s_leavesQ):ak ve uA S (a1 Pat) (λx=>qhi x []) (enc (X:=List Pat)) λx y=>y=if fy aB x then bF x else[]:=by
 rintro p hp;have hp:qhi p []:=hp;simp[ve,uA,h1,h2,hp,-fB',-eB'];clear h1 h2;exact⟨λh=>aL [] (by simp) (by rw[h];rfl),λh=> .inl λv=>aL (bF p) (fA aC (by simp)) (by rw[h];rfl)⟩
abbrev Yv:Spc:=aG (a2 Corpus Cond) JK (kZ (Y:=Int) (Z:=Int)) λz y=>y=(((If z.1 z.2).length:Int),0)
def J6(h1:S js=qiJ):ak rM qs S (a2 Corpus Cond) JK (kZ (Y:=Int) (Z:=Int)) λz y=>y=(((If z.1 z.2).length:Int),0):=by
 rintro⟨c,x⟩ a;simp[rM,qs,h1,a,-fB',-eB']
def pJ(c:Corpus)(q:Qry):List Int:=(aq q.pat).map λx=>((If c x.cond).length:Int)
abbrev SB(V:List Attr->Qry->Prop):Spc:=aG (a2 Corpus Qry) (λz=>yI V z.1 z.2) (kZ (Y:=List Int) (Z:=Int)) λz y=>y=(pJ z.1 z.2,0)
theorem HD{V:List Attr->Qry->Prop}(h1:S eB=EV V)(h2:S qW=wo)(h3:S sU=Yv):ak pj ox S (a2 Corpus Qry) (λz=>yI V z.1 z.2) (kZ (Y:=List Int) (Z:=Int)) λz y=>y=(pJ z.1 z.2,0):=by
 rintro⟨c,q⟩ d;have d:yI V c q:=d;have r:V c.attrs q:=d.v;have hlen:(bF q.pat).length=(aq q.pat).length:=by unfold bF;simp
 have s:(aq q.pat).length<=100000000:=by have:=d.pl.1;simpa using this
 simp[pj,ox,h1,h2,r,d.pat,d.pl,-fB',-eB'];intro t;refine ah (X:=Value×List Int) [2,21] [] (bF q.pat).length (λk z=>z.2=(pJ c q).take k) (λz=>[(7, .own 40 z.1)]) (λz=>[(40, .row z.1 bj 1 (z.2.map enc))]) (.slice none 0 0, []) (by simp) ?_ ?_ (hh:=by simp[isNilRow])
 ·rintro k ⟨v,z⟩ hk hz;have hz:z=(pJ c q).take k:=hz;obtain⟨a,l⟩:=eK (show k<(aq q.pat).length by omega);have p:(bF q.pat)[k]? =some (nk a):=by unfold bF;rw[qFP,l];rfl
  obtain⟨u,h⟩:=qFB.1 p;have b:JK (c,(nk a).cond):=d.sel a (qFF l);have j:(pJ c q)[k]? =some (((If c (nk a).cond).length:Int)):=by unfold pJ;rw[qFP,l];rfl
  have w:z.length=k:=by rw[hz,qF7];unfold pJ;rw[qGl];omega
  generalize x:nk a=A at p h b j;simp[hk,p,h,h3,b,-fB',-eB'];refine⟨by omega,by omega,λv'=> .inl ?_⟩;rw[hz,<-List.map_take,av j];simp
 ·rintro⟨v,z⟩ hz;have hz:z=(pJ c q).take (bF q.pat).length:=hz;have:z=pJ c q:=by rw[hz,qGy];unfold pJ;rw[qGl];omega
  subst this;simp[-fB',-eB'];exact fA bj (by simp[ai])
def yE(n:List Int):List Span->List Span->List Span
 |out, []=>out
 | out,s::l=>yE n (match out with
   | []=>[s]
   |o::_=>if(n[s.b.toNat]?).getD 0<(n[o.b.toNat]?).getD 0 then[s]else out) l
def QB(n:List Int):∀(l out:List Span) (s:Span),yE n out (l++ [s])=yE n (yE n out l) [s]
 | [],out,s=>rfl
 | a::l,out,s=>by
   show yE n _ (l++ [s])=yE n (yE n _ l) [s];exact QB n l _ s
def qcV(z:Corpus×Qry)(y:List Span×Int):Prop:=∃F,SrcsOf z.2.pat F/\y=(yE (pJ z.1 z.2) [] F,0)
abbrev qdr(V:List Attr->Qry->Prop):Spc:=aG (a2 Corpus Qry) (λz=>yI V z.1 z.2) (kZ (Y:=List Span) (Z:=Int)) qcV
theorem Xw{V:List Attr->Qry->Prop}(h1:S qZ=SB V)(h2:S mE=se):ak Cj Bh S (a2 Corpus Qry) (λz=>yI V z.1 z.2) (kZ (Y:=List Span) (Z:=Int)) qcV:=by
 rintro⟨c,q⟩ d;have d:yI V c q:=d;have y:oc q.pat:=d.fx;have Q:=d;simp[Cj,Bh,h1,h2,d,y,-fB',-eB'];intro F j I;have j:SrcsOf q.pat F:=by
  have j:jF q.pat F:=j;unfold jF at j;rwa [if_pos ⟨d.pat,d.size⟩]at j
 have J:(pJ c q).length=(aq q.pat).length:=by unfold pJ;simp
 have p:∀s∈F,0<=s.b/\s.b<(pJ c q).length:=λs hs=>by
  obtain⟨U,W,r3,r4⟩:=UQ q.pat d.pat 0 0 s ((j.2 s).1 hs);omega
 refine ah (X:=List Span) [6,22] [] F.length (λk z=>z=yE (pJ c q) [] (F.take k)/\z.length<=1/\∀s∈z,s∈F) (λz=>[(8, .list 2 (z.map enc))]) (λ_=>[]) [] ⟨rfl,by simp,by simp⟩ ?_ ?_
 ·rintro k z hk ⟨hz,A,r⟩;obtain⟨x,l⟩:=eK hk;obtain⟨_,t⟩:=qFB.1 l;obtain⟨K,L⟩:=p x (qFF l);obtain⟨nx,u⟩:=eK (show x.b.toNat<(pJ c q).length by omega);obtain⟨_,C⟩:=qFB.1 u;have a:yE (pJ c q) [] (F.take (k+1))=yE (pJ c q) z [x]:=by rw[av l,QB,<-hz]
  clear hz;cases z with
  | nil=>
    simp[hk,l,t,a,yE,-fB',-eB'];exact⟨[x],⟨rfl,by simp,λs hs=>by simp at hs;subst hs;exact qFF l⟩,by simp⟩
  | cons o M=>
    have:M=[]:=by simpa using A
    subst this;obtain⟨N,O⟩:=p o (r o (by simp));obtain⟨no,w⟩:=eK (show o.b.toNat<(pJ c q).length by omega);obtain⟨_,E⟩:=qFB.1 w;simp[hk,l,t,u,C,w,E,K,L,N,O,a,yE,-fB',-eB'];have mx:∀s∈ [x],s∈F:=λs hs=>by simp at hs;subst hs;exact qFF l
    exact⟨λh=>⟨[x],⟨by rw[if_pos h],by simp,mx⟩,by simp⟩,λh=>⟨[o],⟨by rw[if_neg (by omega)],by simp,r⟩,by simp⟩⟩
 ·rintro z ⟨hz,_,_⟩;rw[qFT]at hz;simp[-fB',-eB'];exact⟨z, .same _,F,j,by rw[hz]⟩
def qaN(p:Pat)(y:List Span):Prop:=jF p y/\y.length<=jS p
abbrev Ik:Spc:=aG (a1 Pat) oc (enc (X:=List Span)) qaN
def Ua(h1:S dT=cB)(h2:S BP=Gn)(h3:S iT=Ij):ak B2 A2 S (a1 Pat) oc (enc (X:=List Span)) qaN:=by
 rintro p ⟨b,a⟩;simp[B2,A2,h1,h2,h3,-fB'];clear h1 h2 h3;refine⟨λh=>?_,λh=>aL [] (by simp) ⟨by unfold jF;rw[if_neg (by rw[h];simp)],qFY _⟩⟩;rw[if_pos h];refine⟨λh2=>aL [] (by simp) ⟨by unfold jF;rw[if_neg (by omega)],qFY _⟩,λh2=>⟨⟨cg p,⟨qFH _,h⟩,qGD _,by show(0:Int) +200000* (dm p:Int)<=_;omega,qGD _,by show(0:Int) + (dm p:Int)<=_;omega,SS.nil,by show([]:List Span).length+_<=_;simpa using a⟩,?_⟩⟩;rintro y ⟨c1,c2,c3⟩;refine aL y (by simp) ⟨?_,by simpa using c3⟩;unfold jF;rw[if_pos ⟨h,h2⟩];exact⟨c1,λs=>by rw[c2 s];simp⟩
def qmd(x:List Int×Qry):Prop:=oc x.2.pat/\jS x.2.pat<=1000
abbrev YE:Spc:=aG (aT (a1 Qry)) qmd (enc (X:=List Span)) λ_ y=>y.length<=2000
theorem qhs(h1:S Ea=Ik)(h2:S bU=s_m_Next):ak vo uI S (aT (a1 Qry)) qmd (enc (X:=List Span)) λ_ y=>y.length<=2000:=by
 rintro⟨L,q⟩ ⟨c,d⟩;have c:oc q.pat:=c;have d:jS q.pat<=1000:=d;simp[vo,uI,h1,c,-fB',-eB'];rintro F ⟨r,l⟩ p;refine ah (X:=Value×List Span) [0,10] [] F.length (λk z=>z.2.length<=k) (λz=>[(5, .own 22 z.1)]) (λz=>[(22, .row z.1 aK 2 (z.2.map enc))]) (.slice none 0 0, []) (by simp) ?_ ?_ (hh:=by simp[isNilRow])
 ·rintro k ⟨v,z⟩ hk hz;have hz:z.length<=k:=hz;obtain⟨x,j⟩:=eK hk;obtain⟨_,h⟩:=qFB.1 j;simp[hk,j,h,h2,-fB',-eB'];refineλy _ _=>⟨λ_=>⟨by omega,by omega,λv'=>⟨v',z++ [x],by simp;omega,rfl, .inl ⟨rfl,by simp⟩⟩⟩,λ_=>⟨v,z,by omega,rfl, .inl ⟨rfl,rfl⟩⟩⟩
 ·rintro⟨v,z⟩ hz;have hz:z.length<=F.length:=hz;simp[h2,-fB',-eB'];refineλy _ _=>⟨λ_ a _ _ b _ _=>⟨by omega,by omega,λv'=>aL (z++ [⟨a,b⟩]) (fA aK (by simp[ai])) (by simp;omega)⟩,λ_=>aL z (fA aK (by simp[ai])) (by omega)⟩
end
end Go.Gv
