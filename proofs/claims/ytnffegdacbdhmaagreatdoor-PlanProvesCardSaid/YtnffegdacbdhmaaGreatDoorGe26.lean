/- W38 -/
import Derived.Shelf.SortG.Plain
import Derived.Shelf.SortG.SortNone
import Derived.Shelf.SlLaysNS
import Derived.Ground.SlgnProg
import Derived.Test.YtnffegdacbdhmaaGreatDoorProg
import Derived.Test.YtnffegdacbdhmaaGreatDoorGe25
set_option linter.all false
set_option maxRecDepth 100000
set_option maxHeartbeats 0
open Bool renaming forall_bool → fB', exists_bool → eB'
namespace Go.Gv
section
open Cod (enc dec)
variable {S S0:Nat->Spc}
abbrev Ii:Spc:=aG (a2 (List Span) Span) (λx=>SS x.1/\x.1.length<=1000000) enc λx y=>IsNorm (x.1++ [x.2]) y/\y.length<=x.1.length+1
theorem Ua(h1:S BO=OD):ak zD yO S (a2 (List Span) Span) (λx=>SS x.1/\x.1.length<=1000000) enc λx y=>IsNorm (x.1++ [x.2]) y/\y.length<=x.1.length+1:=by
 rintro⟨l,s⟩ ⟨hl,hlen⟩;simp at hl hlen;simp[zD,yO];intro _;refine aS (X:=Nat) [0,3] [] (λk=>k<=l.length/\(∀x∈l.drop k,C9 s x)/\(k=0\/ ∃y,l[k -1]? =some y/\ ¬C9 s y)) (λk=>[(5,enc (k:Int))]) (λ_=>[]) ?_ ?_
 ·simp;refine au (X:=Nat) [0,3] [] (λk=>k<=l.length/\∀x∈l.drop k,C9 s x) (λk=>[(5,enc (k:Int))]) (λ_=>[]) (λk=>k) l.length (by simp) ?_;rintro k ⟨hk,b⟩;rcases qGZ k with rfl|hk0
  ·simp;exact⟨0,by simpa using b,by simp⟩
  ·obtain⟨y,a⟩:=aQ (l:=l) (k:=k -1) (by omega);have c:(k:Int) -1=((k -1:Nat):Int):=by omega
   have d:l.drop (k -1)=y::l.drop k:=by
    have:=bw a;rwa [Nat.sub_add_cancel hk0]at this
   have j:¬C9 s y->∃x,(x<=l.length/\(∀p∈List.drop x l,C9 s p)/\(x=0\/ ∃y,l[x -1]? =some y/\ ¬C9 s y))/\(k:Int)=x:=λh=>⟨k,⟨hk,b, .inr ⟨y,a,h⟩⟩,rfl⟩
   have q:C9 s y->∃y,(y<=l.length/\∀x∈List.drop y l,C9 s x)/\(k:Int) -1=y/\y<k:=λh=>⟨k -1,⟨by omega,by rw[d];simpa using⟨h,b⟩⟩,c,by omega⟩
   simp[h1,hk0,a,InR];refine⟨⟨by omega,by omega⟩,by omega,by omega,λh=>⟨⟨by omega,by omega⟩,q h⟩,j⟩
 ·rintro k ⟨hk,h1,h2⟩;simp;have u:=Zc hl hk h1 h2;refine aS (X:=Unit) [0,3,5] [] (λ_=>∀y,0<k->l[k -1]? =some y->y≠s) (λ_=>[]) (λ_=>[]) ?_ ?_
  ·simp;rcases qGZ k with rfl|hk0
   ·simp
   ·obtain⟨y,a⟩:=aQ (l:=l) (k:=k -1) (by omega);simp[hk0,a,InR];refine⟨⟨⟨by omega,by omega⟩,by omega,by omega,λc d=>aL l (.same _) ⟨u.1 y hk0 a (Span.ext' c d),by simp⟩,?_⟩,by omega⟩;rintro h rfl;exact h rfl rfl
  ·intro _ r;have t:=u.2 r;simp;refine⟨hk,by omega,by omega,by omega,by omega,hk,by omega,by omega,λv=>aL (l.take k++s::l.drop k) (fA aK (by simp)) ⟨t,by simp;omega⟩⟩
def qaQ(n:Nat)(x:Pat×Int×Int×List Span):Prop:=PPat n x.1/\0<=x.2.1/\x.2.1+200000*dm x.1<=1000000000000000/\0<=x.2.2.1/\x.2.2.1+dm x.1<=100000000/\SS x.2.2.2/\x.2.2.2.length+jS x.1<=100000
def qaM(x:Pat×Int×Int×List Span)(y:List Span):Prop:=SS y/\(∀s,s∈y↔s∈x.2.2.2\/SrcE x.1 x.2.1 x.2.2.1 s)/\y.length<=x.2.2.2.length+jS x.1
abbrev LM(n:Nat):Spc:=aG (a4 Pat Int Int (List Span)) (qaQ n) enc qaM
theorem Xh(n:Nat)(h1:S vK=Ii)(h2:S iT=LM n)(h3:S ud=EY)(h4:S vL=Il):ak jz jg S (a4 Pat Int Int (List Span)) (qaQ (n+1)) enc qaM:=by
 rintro⟨p,d,leaf,out⟩ ⟨hp,hd0,t,I,u,q,hlen⟩;simp only at hp hd0 t I u q hlen;have hk:∀k∈p.kids,PPat n k:=λk=>hp.kid
 have hs:∀k∈p.kids,dG (aO k):=λk h=>tu (v:=aB) k (hk k h).2
 have hn:=(cH hp.2).2.2;unfold lF at hn;rw[decide_eq_true_eq]at hn;rcases mA (cH hp.2).1 with⟨ho,l⟩|⟨ho,l⟩|⟨ho,c,ks,l⟩|⟨ho,c,l⟩
 ·simp[jz,jg,h1,ho,q];rw[kV,if_pos l]at hlen;refine⟨by omega,λy hy hy2=>aL y (by simp) ⟨hy.1,λs=>?_,by rw[kV,if_pos l];exact hy2⟩⟩;rw[hy.2 s];simp[qfG ho]
 ·have e:p.op≠1/\p.op≠4/\p.op≠6:=by omega
  simp[jz,jg,h1,e];exact aL out (by simp) ⟨q,λs=>⟨.inl,λh=>h.elim id λh=>absurd h (qbJ e _ _ _)⟩,by simp⟩
 ·by_cases w:p.op=4
  ·simp[jz,jg,w];intro _;rw[cI]at t u;rw[kV,if_neg (by rw[l];simp),if_neg (by omega)]at hlen;refine ah (X:=Int×Int×List Span) [28] [] p.kids.length (λk x=>(0<=x.1/\x.1+200000*bu (p.kids.drop k)<=1000000000000000)/\(0<=x.2.1/\x.2.1+bu (p.kids.drop k)<=100000000)/\SS x.2.2/\x.2.2.length+lQ (p.kids.drop k)<=out.length+lQ p.kids/\∀s,(s∈x.2.2\/pK (p.kids.drop k) x.1 x.2.1 s) ↔ (s∈out\/pK p.kids d leaf s)) (λx=>[(1,enc x.1),(2,enc x.2.1),(3,enc x.2.2)]) (λ_=>[]) (d,leaf,out) ⟨by simp;omega,by simp;omega,q,by simp,by simp⟩ ?_ ?_
   ·rintro k ⟨Z,lf,o⟩ J ⟨⟨b0,b1⟩,⟨b2,A⟩,K,C,E⟩;simp only at b0 b1 b2 A K C E;obtain⟨x,F⟩:=aQ J;have L:=aU F;obtain⟨_,hgx⟩:=qFG.1 F;rw[bw F,bu]at b1 A;rw[bw F,lQ]at C;have M:=hk x L;have N:=hs x L;have q3:qaQ n (x,Z,lf,o):=⟨M,b0,by show Z+200000* (dm x:Int)<=_;omega,b2,by show lf+ (dm x:Int)<=_;omega,K,by show o.length+jS x<=_;omega⟩
    have q4:=sJ x;have q5:1<=dm x:=by rw[cI];omega
    have q6:(aq x).length<=100000000:=by omega
    simp[h2,h3,h4,J,F,hgx,M.2,q3,q6,kZ];clear h1 h2 h3 h4;rintro y ⟨c1,c2,c3⟩;simp only at c2 c3;unfold dG at N;have O:∀s,(s∈y\/((aO x).1=(aO x).2/\pK (p.kids.drop (k+1)) (Z+ (aO x).1) (lf+ (aq x).length) s)) ↔ (s∈out\/pK p.kids d leaf s):=by
     intro s;rw[<-E s,bw F,pK,c2 s,or_assoc]
    refine⟨λhne=>aL y (by simp) ⟨c1,λs=>?_,?_⟩,λhe=>⟨by simp only[InR];omega,λ_=>⟨by simp only[InR];omega,_,_,_,⟨⟨by omega,by omega⟩,⟨by omega,by omega⟩,c1,by omega,λs=>?_⟩,rfl,rfl,rfl⟩⟩⟩
    ·rw[qfF w];show s∈y↔s∈out\/pK p.kids d leaf s;rw[<-O s];exact⟨.inl,λh=>h.elim id λh=>absurd h.1 hne⟩
    ·show y.length<=out.length+jS p;rw[kV,if_neg (by rw[l];simp),if_neg (by omega)];omega
    ·rw[<-O s];simp[he]
   ·rintro⟨Z,lf,o⟩ ⟨⟨b0,b1⟩,⟨b2,A⟩,K,C,E⟩;simp only at K C E;rw[qGw]at C E;simp;refine aL o (by simp) ⟨K,λs=>?_,?_⟩
    ·rw[qfF w];show s∈o↔s∈out\/pK p.kids d leaf s;rw[<-E s,pK,or_false]
    ·show o.length<=out.length+jS p;rw[kV,if_neg (by rw[l];simp),if_neg (by omega)];rw[lQ]at C;omega
  ·have e:p.op≠1/\p.op≠4/\p.op≠6:=by omega
   simp[jz,jg,h1,e];exact aL out (by simp) ⟨q,λs=>⟨.inl,λh=>h.elim id λh=>absurd h (qbJ e _ _ _)⟩,by simp⟩
 ·have M:=hk c (by rw[l];simp);have N:=hs c (by rw[l];simp);have hn:=hn ho;simp[jz,jg,ho,l,h3,M.2,kZ];have Q:jS p=(max 1 p.mn).toNat*jS c:=by rw[kV,l,if_neg (by simp),if_pos ho,lQ,lQ,qGS]
  have hpn:dm p=dm c+1:=by rw[cI,l,bu,bu]
  rw[hpn]at t u;rw[Q]at hlen;have hc1:=Qn c;refine au (X:=Nat×List Span) [1,2,4,13,14] [] (λx=>(x.1:Int)<=p.mn/\SS x.2/\x.2.length<=out.length+x.1*jS c/\(∀s,s∈x.2↔s∈out\/ ∃i:Int,0<=i/\i<x.1/\(i=0\/(aO c).1=(aO c).2)/\SrcE c (d+i* (aO c).1) leaf s)) (λx=>[(3,enc x.2),(15,enc (x.1:Int))]) (λ_=>[]) (λx=>p.mn.toNat -x.1) (0,out) ?_ ?_
  ·refine⟨by simp;omega,q,by simp,λs=>⟨.inl,λh=>h.elim id ?_⟩⟩;rintro⟨i,h0,h1,_⟩;simp only at h1;omega
  rintro⟨j,o⟩ ⟨b0,b1,b2,A⟩;simp only at b0 b1 b2 A;simp[h2,ho,l];clear h1 h2 h3 h4;have r:(∀i:Int,0<=i->i<p.mn->(i=0\/(aO c).1=(aO c).2)->i<j)->Fin enc (qaM (p,d,leaf,out)) (D.list 2 (List.map enc o)) λx=>none:=λhi=>by
   refine aL o (by simp) ⟨b1,λs=>?_,?_⟩
   ·show s∈o↔s∈out\/SrcE p d leaf s;rw[A s,qh0 ho l];refine or_congr_right (exists_congr λi=>⟨λ⟨a1,a2,a3,a4⟩=>⟨a1,by omega,a3,a4⟩,λ⟨a1,a2,a3,a4⟩=>⟨a1,hi i a1 a2 a3,a3,a4⟩⟩)
   ·show o.length<=out.length+jS p;rw[Q];have:=qF7 (jS c) (show j<=(max 1 p.mn).toNat by omega);omega
  have U:(j:Int)<p.mn->(j=0\/(aO c).1=(aO c).2)->InR IntKind.i64 (↑j* (aO c).fst)/\InR IntKind.i64 (d+ ↑j* (aO c).fst)/\qaQ n (c,d+ ↑j* (aO c).fst,leaf,o)/\
   ∀ (y:List Span),qaM (c,d+ ↑j* (aO c).fst,leaf,o) y->InR IntKind.i64 (↑j+1)/\∃(a:Nat) (b:List Span),(↑a<=p.mn/\SS b/\b.length<=out.length+a*jS c/\∀(s:Span),s∈b↔s∈out\/ ∃i:Int,0<=i/\i< ↑a/\(i=0\/(aO c).fst=(aO c).snd)/\SrcE c (d+i* (aO c).fst) leaf s)/\
    (y=b/\(↑j+1:Int)= ↑a)/\p.mn.toNat -a<p.mn.toNat -j:=λhj W=>by
   unfold dG at N;have hm:=qD (show(0:Int)<=j by omega) (show(j:Int)<=16 by omega) N.1 N.2.1;have hm2:=qF7 (jS c) (show j+1<=(max 1 p.mn).toNat by omega);rw[qGL]at hm2;refine⟨by simp only[InR];omega,by simp only[InR];omega,⟨M,by show 0<=d+ ↑j* (aO c).1;omega,by show d+ ↑j* (aO c).1+200000* (dm c:Int)<=_;omega,I,by show leaf+ (dm c:Int)<=_;omega,b1,by show o.length+jS c<=_;omega⟩,?_⟩;rintro y ⟨c1,c2,c3⟩;simp only at c2 c3;refine⟨by simp only[InR];omega,j+1,y,⟨by omega,c1,by rw[qGL];omega,λs=>?_⟩,⟨rfl,by omega⟩,by omega⟩;rw[c2 s,A s,or_assoc];refine or_congr_right ⟨λh=>?_,λh=>?_⟩
   ·rcases h with⟨i,a1,a2,a3,a4⟩|h
    ·exact⟨i,a1,by omega,a3,a4⟩
    ·exact⟨j,by omega,by omega,W.imp (λh=>by omega) id,h⟩
   ·obtain⟨i,a1,a2,a3,a4⟩:=h;by_cases e:i<j
    ·exact .inl ⟨i,a1,e,a3,a4⟩
    ·have:i=j:=by omega
     subst this;exact .inr a4
  exact⟨λhj=>⟨λY=>⟨λW=>U hj (.inr W),λW=>r λi i0 i1 i2=>by rcases i2 with i2|i2;omega;exact absurd i2 W⟩,λY=>U hj (.inl Y)⟩,λhj=>r λi i0 i1 i2=>by omega⟩
abbrev Ij:Spc:=aG (a4 Pat Int Int (List Span)) (λx=>∃n,qaQ n x) enc qaM
def oc(p:Pat):Prop:=dm p<=1000000/\jS p<=100000
def jF(p:Pat)(y:List Span):Prop:=if fy aB p=true/\fM p<=256 then SrcsOf p y else y=[]
abbrev At:Spc:=qu9 (Y:=Span) a0 (λ_ l=>l.length<=100000) (λ_ l r=>r=yg l) aK 2
theorem Ac:WI (Y:=Span) ic gV S a0 (λ_ l=>l.length<=100000) (λ_ l r=>r=yg l) aK 2:=by
 rintro v l ⟨⟩ hl;simp[ic,gV];refineλ_=>⟨λh=>?_,λh2=>?_⟩
 ·exact dI l (by simp) (Qk (by omega)).symm
 ·refine au (X:=Nat) [0] [0] (λk=>1<=k/\k<=l.length/\yg (l.take k)=l.take k) (λk=>[(3,enc (k:Int))]) (λ_=>[]) (λk=>l.length -k) 1 ?_ ?_
  ·exact⟨by omega,by omega,qk9 (by omega)⟩
  ·rintro k ⟨A,C,t⟩;by_cases s:k<l.length
   ·obtain⟨x,E⟩:=aQ s;obtain⟨y,M⟩:=aQ (l:=l) (k:=k -1) (by omega);have O:((k:Int) -1).toNat=k -1:=by omega
    have e2:((k:Int)<l.length):=by omega
    have F:¬l.length<=k:=by omega
    simp[E,M,InR,O,F];intro _ _;have c:=TF A E M;refine⟨s,by omega,by omega,by omega,by omega,λQ U=>⟨C,?_⟩,λd=>⟨by omega,k+1,⟨by omega,by omega,?_⟩,by omega,by omega⟩⟩
    ·-- from here on elements W I
     have J:x=y:=Span.ext' Q U;rw[if_pos J]at c;refine aS (X:=Nat×List Span) [0] [] (λz=>z.2.length=l.length/\z.1<=l.length/\z.2.take z.1=yg l) (λz=>[(3,enc (z.1:Int))]) (λz=>[(0, .row v aK 2 (z.2.map enc))]) ?_ ?_
     ·simp;refine au (X:=Nat×Nat×List Span) [0,4] [] (λz=>z.2.2.length=l.length/\1<=z.2.1/\k+z.2.1<=l.length/\z.1<k+z.2.1/\z.2.2.take z.1=yg (l.take (k+z.2.1))/\z.2.2.drop (k+z.2.1 -1)=l.drop (k+z.2.1 -1)) (λz=>[(3,enc (z.1:Int)),(5,enc (z.2.1:Int))]) (λz=>[(0, .row v aK 2 (z.2.2.map enc))]) (λz=>l.length -z.2.1) (k,1,l) ?_ ?_
      ·simp;refine⟨by omega,?_⟩;rw[c,t]
      ·rintro⟨i,j,cur⟩ ⟨c1,c2,c3,c4,w,q⟩;simp at c1 c2 c3 c4 w q;by_cases hj:j<l.length -k
       ·obtain⟨a,N⟩:=aQ (l:=l) (k:=k+j) (by omega);obtain⟨b,hb⟩:=aQ (l:=l) (k:=k+j -1) (by omega);have K:cur[k+j]? =some a:=(NG q (by omega)).trans N;have L:cur[k+ (j -1)]? =some b:=by
         rw[show k+ (j -1)=k+j -1 by omega];exact(NG q (qFM _)).trans hb
        obtain⟨u,Z⟩:=aQ (l:=cur) (k:=i) (by omega);have hs:=TF (j:=k+j) (by omega) N hb;have p:¬l.length -k<=j:=by omega
        simp[K,L,Z,InR,p];intro _ _;refine⟨by omega,by omega,by omega,by omega,by omega,by omega,λd=>⟨by omega,by omega,by omega,by omega,by omega,i+1,j+1,cur.set i a,⟨by simp;omega,by omega,by omega,by omega,?_,?_⟩,⟨by omega, .inl ?_⟩,by omega⟩,λq3 q4=>⟨by omega,i,j+1,cur,⟨c1,by omega,by omega,by omega,?_,?_⟩,⟨by omega, .inl rfl⟩,by omega⟩⟩
        ·rw[(tA (m:=k+j) (l:=l) (by omega) c4 (we q (by omega))).1,w,show k+ (j+1)=k+j+1 by omega,hs,if_neg];rintro rfl;rcases d with h|h<;>exact h rfl
        ·rw[show k+ (j+1) -1=k+j by omega];exact(tA (m:=k+j) (l:=l) (by omega) c4 (we q (by omega))).2
        ·exact qh4 cur i a
        ·rw[w,show k+ (j+1)=k+j+1 by omega,hs,if_pos (Span.ext' q3 q4)]
        ·exact we q (by omega)
       ·have p:j=l.length -k:=by omega
        subst p;simp;intro _;refine⟨i,cur,⟨c1,by omega,?_⟩,rfl, .inl rfl⟩;rw[w,show k+ (l.length -k)=l.length by omega,qFY]
     ·rintro⟨i,cur⟩ ⟨c1,c2,c3⟩;simp at c1 c2 c3;simp;refine⟨by omega,by omega,λv=>dI (yg l) ?_ rfl⟩;have e:(yg l).map enc=(cur.map enc).take i:=by rw[<-c3,List.map_take]
      rw[e];simp[List.take_append,c1,c2]
    ·rw[if_neg (λe=>by subst e;exact d rfl rfl)]at c;rw[c,t,av E]
   ·have F:k=l.length:=by omega
    subst F;simp;rw[qFY]at t;exactλ_=>dI l (by simp) t.symm
section
variable {α:Type}[DecidableEq α]
def qtv(l:List α)(x:α):List α:=if l.getLast? =some x then l else l++ [x]
def xr(l:List α):List α:=l.foldl qtv []
def Fe(l:List α)(x:α):xr (l++ [x])=qtv (xr l) x:=by simp[xr]
def TH(l:List α):(xr l).getLast? =l.getLast?:=by
 refine vZ (P:=λl=>(xr l).getLast? =l.getLast?) rfl (λl x a=>?_) l;rw[Fe,qtv];split
 ·rename_i h;rw[h];simp
 ·simp
def qlc(l:List α):(xr l).length<=l.length:=by
 refine vZ (P:=λl=>(xr l).length<=l.length) (qFM _) (λl x a=>?_) l;rw[Fe,qtv];split<;>simp<;>omega
def qlb(l:List α):∀x,x∈xr l↔x∈l:=by
 refine vZ (P:=λl=>∀x,x∈xr l↔x∈l) (λx=>qG4) (λl y a x=>?_) l;rw[Fe,qtv];split
 ·rename_i h;rw[TH]at h;have b:y∈l:=List.mem_of_getLast? h;simp[a x];rintro rfl;exact b
 ·simp[a x]
def Ql{l:List α}(h:l.length< 2):xr l=l:=by
 match l,h with
 | [],_=>rfl
 | [x],_=>rfl
 |x::y::l,h=>exact absurd h (by simp only[qGn];omega)
def qla{l:List α}(h:1<=l.length):xr (l.take 1)=l.take 1:=Ql (by simp;omega)
def TG{l:List α}{j:Nat}{x y:α}(a:1<=j)(b:l[j]? =some x)(c:l[j -1]? =some y):xr (l.take (j+1))=if x=y then xr (l.take j)else xr (l.take j) ++ [x]:=by
 rw[av b,Fe,qtv,TH];have:(l.take j).getLast? =some y:=by
  have e:=av c;rw[Nat.sub_add_cancel a]at e;rw[e];simp
 rw[this];by_cases h:x=y
 ·subst h;simp
 ·have:¬y=x:=λe=>h e.symm
  simp[h,this]
end
abbrev FM:Spc:=qu9 (Y:=Int) a0 (λ_ l=>l.length<=100000) (λ_ l r=>r=xr l) bj 1
theorem Da:WI (Y:=Int) kG kj S a0 (λ_ l=>l.length<=100000) (λ_ l r=>r=xr l) bj 1:=by
 rintro v l ⟨⟩ hl;simp[kG,kj];refineλ_=>⟨λh=>?_,λh2=>?_⟩
 ·exact dI l (by simp) (Ql (by omega)).symm
 ·refine au (X:=Nat) [0] [0] (λk=>1<=k/\k<=l.length/\xr (l.take k)=l.take k) (λk=>[(3,enc (k:Int))]) (λ_=>[]) (λk=>l.length -k) 1 ?_ ?_
  ·exact⟨by omega,by omega,qla (by omega)⟩
  ·rintro k ⟨A,C,t⟩;by_cases s:k<l.length
   ·obtain⟨x,E⟩:=aQ s;obtain⟨y,M⟩:=aQ (l:=l) (k:=k -1) (by omega);have O:((k:Int) -1).toNat=k -1:=by omega
    have e2:((k:Int)<l.length):=by omega
    have F:¬l.length<=k:=by omega
    simp[E,M,InR,O,F];intro _ _;have c:=TG A E M;refine⟨s,by omega,by omega,by omega,by omega,λQ=>⟨C,?_⟩,λd=>⟨by omega,k+1,⟨by omega,by omega,?_⟩,by omega,by omega⟩⟩
    ·-- from here on elements U I
     have J:x=y:=Q;rw[if_pos J]at c;refine aS (X:=Nat×List Int) [0] [] (λz=>z.2.length=l.length/\z.1<=l.length/\z.2.take z.1=xr l) (λz=>[(3,enc (z.1:Int))]) (λz=>[(0, .row v bj 1 (z.2.map enc))]) ?_ ?_
     ·simp;refine au (X:=Nat×Nat×List Int) [0,4] [] (λz=>z.2.2.length=l.length/\1<=z.2.1/\k+z.2.1<=l.length/\z.1<k+z.2.1/\z.2.2.take z.1=xr (l.take (k+z.2.1))/\z.2.2.drop (k+z.2.1 -1)=l.drop (k+z.2.1 -1)) (λz=>[(3,enc (z.1:Int)),(5,enc (z.2.1:Int))]) (λz=>[(0, .row v bj 1 (z.2.2.map enc))]) (λz=>l.length -z.2.1) (k,1,l) ?_ ?_
      ·simp;refine⟨by omega,?_⟩;rw[c,t]
      ·rintro⟨i,j,cur⟩ ⟨c1,c2,c3,c4,w,q⟩;simp at c1 c2 c3 c4 w q;by_cases hj:j<l.length -k
       ·obtain⟨a,N⟩:=aQ (l:=l) (k:=k+j) (by omega);obtain⟨b,hb⟩:=aQ (l:=l) (k:=k+j -1) (by omega);have K:cur[k+j]? =some a:=(NG q (by omega)).trans N;have L:cur[k+ (j -1)]? =some b:=by
         rw[show k+ (j -1)=k+j -1 by omega];exact(NG q (qFM _)).trans hb
        obtain⟨u,W⟩:=aQ (l:=cur) (k:=i) (by omega);have hs:=TG (j:=k+j) (by omega) N hb;have p:¬l.length -k<=j:=by omega
        simp[K,L,W,InR,p];intro _ _;refine⟨by omega,by omega,by omega,by omega,by omega,by omega,λd=>⟨by omega,by omega,by omega,by omega,by omega,i+1,j+1,cur.set i a,⟨by simp;omega,by omega,by omega,by omega,?_,?_⟩,⟨by omega, .inl ?_⟩,by omega⟩,λZ=>⟨by omega,i,j+1,cur,⟨c1,by omega,by omega,by omega,?_,?_⟩,⟨by omega, .inl rfl⟩,by omega⟩⟩
        ·rw[(tA (m:=k+j) (l:=l) (by omega) c4 (we q (by omega))).1,w,show k+ (j+1)=k+j+1 by omega,hs,if_neg];rintro rfl;exact d rfl
        ·rw[show k+ (j+1) -1=k+j by omega];exact(tA (m:=k+j) (l:=l) (by omega) c4 (we q (by omega))).2
        ·exact(qHA ..).symm
        ·rw[w,show k+ (j+1)=k+j+1 by omega,hs,if_pos (Z)]
        ·exact we q (by omega)
       ·have p:j=l.length -k:=by omega
        subst p;simp;intro _;refine⟨i,cur,⟨c1,by omega,?_⟩,rfl, .inl rfl⟩;rw[w,show k+ (l.length -k)=l.length by omega,qFY]
     ·rintro⟨i,cur⟩ ⟨c1,c2,c3⟩;simp at c1 c2 c3;simp;refine⟨by omega,by omega,λv=>dI (xr l) ?_ rfl⟩;have e:(xr l).map enc=(cur.map enc).take i:=by rw[<-c3,List.map_take]
      rw[e];simp[List.take_append,c1,c2]
    ·rw[if_neg (λe=>by subst e;exact d rfl)]at c;rw[c,t,av E]
   ·have F:k=l.length:=by omega
    subst F;simp;rw[qFY]at t;exactλ_=>dI l (by simp) t.symm
def WR(x:List Int×Int):Prop:=x.1.length<=100000/\0<=x.2/\x.2<=1000000/\∀a∈x.1,0<=a/\a<=1000000000000000
abbrev ms:Spc:=aG (a2 (List Int) Int) WR (enc (X:=List Int)) (λx y=>y=x.1.map (· +x.2))
theorem J4:ak rK qq S (a2 (List Int) Int) WR (enc (X:=List Int)) (λx y=>y=x.1.map (· +x.2)):=by
 rintro⟨l,n⟩ ⟨hl,c,d,j⟩;simp only at hl c d j;simp[rK,qq];intro _;refine ah (X:=Value×List Int) [1,8] [] l.length (λk x=>x.2=(l.take k).map (· +n)) (λx=>[(5, .own 19 x.1)]) (λx=>[(19, .row x.1 bj 1 (x.2.map enc))]) (.slice none 0 0, []) (by simp) ?_ ?_ (hh:=by simp[isNilRow])
 ·rintro k ⟨v,m⟩ a hm;simp only at hm;obtain⟨x,b⟩:=aQ a;have p:=j x (aU b);obtain⟨_,h⟩:=qFG.1 b;have q:m.length=k:=by rw[hm];simp;omega
  simp[a,b,h];refine⟨by simp only[InR];omega,by omega,by omega,λv=> .inl ?_⟩;rw[qGP,hm];simp[b]
 ·rintro⟨v,m⟩ hm;simp only at hm;rw[qFY]at hm;simp;exact aL m (fA bj (by simp)) hm
abbrev s_Sort_int:Spc:=qrL (Y:=Int) a0 (λ_ l=>l.length<=100000) (λ_ l r=>r.length=l.length/\∀x,x∈r↔x∈l) bj 1
def WQ(x:Pat×List Int):Prop:=x.1.op=6/\fy aB x.1=true/\x.2.length*jS x.1<=100000/\∀a∈x.2,0<=a/\a<=1000000000000000
def qeQ(x:Pat×List Int)(y:List Int):Prop:=y.length<=x.2.length* (max 1 x.1.mn).toNat/\∀b,x.1.kids=[b]->∀z,z∈y↔ ∃a∈x.2,∃i:Int,0<=i/\i<x.1.mn/\(i=0\/(aO b).1=(aO b).2)/\z=a+i* (aO b).1
abbrev sd:Spc:=aG (a2 Pat (List Int)) WQ (enc (X:=List Int)) qeQ
theorem J3(h1:S hU=EY)(h2:S eC=ms)(h3:S qK=s_Sort_int)(h4:S gI=FM):ak rJ qp S (a2 Pat (List Int)) WQ (enc (X:=List Int)) qeQ:=by
 rintro⟨p,l⟩ ⟨ho,hp,hl,F⟩;simp only at ho hp hl F;rcases mA (cH hp).1 with⟨q,_⟩|⟨q,_⟩|⟨q,_⟩|⟨_,j,c⟩
 ·omega
 ·omega
 ·omega
 have I:=dX hp (show j∈p.kids by rw[c];simp);have s:dG (aO j):=tu j I;have hn:=(cH hp).2.2;unfold lF at hn;rw[decide_eq_true_eq]at hn;have hn:=hn ho;have t:jS p=(max 1 p.mn).toNat*jS j:=by rw[kV,c,if_neg (by simp),if_pos ho,lQ,lQ,qGS]
 have u:=Qn j;have J:l.length* (max 1 p.mn).toNat<=100000:=by
  have:=Nat.mul_le_mul_left (l.length* (max 1 p.mn).toNat) u;rw[t,<-Nat.mul_assoc]at hl;omega
 have w:l.length<=100000:=by
  have:=Nat.mul_le_mul_left l.length (show 1<=(max 1 p.mn).toNat by omega);omega
 simp[rJ,qp,h1,c,I,kZ];refine⟨λhe=>aL [] (by simp) ⟨by simp,λk hk z=>?_⟩,λK=>⟨λy=>aL l (by simp) ⟨?_,λk hk z=>?_⟩,λy=>?_⟩⟩
 ·simp only[qGi,false_iff];rintro⟨a,_,i,h0,h1,_⟩;have h1:i<p.mn:=h1;omega
 ·exact qHC _ (by omega)
 ·rw[c]at hk;cases hk;constructor
  ·intro h;exact⟨z,h,0,qGI _,by show 0<p.mn;omega, .inl rfl,by simp⟩
  ·rintro⟨a,b,i,h0,h1,h2,rfl⟩;rcases h2 with rfl|h2
   ·simpa using b
   ·exact absurd h2 y
 ·refine ah (X:=Value×List Int) [1,5] [] p.mn.toNat (λk x=>x.2.length=l.length*k/\∀z,z∈x.2↔ ∃a∈l,∃i:Int,0<=i/\i<k/\z=a+i* (aO j).1) (λx=>[(7, .own 35 x.1)]) (λx=>[(35, .row x.1 bj 1 (x.2.map enc))]) (.slice none 0 0, []) (by simp;intro z a _ i h0 h1;omega) ?_ ?_ (hn:=by simp;omega) (hh:=by simp[isNilRow])
  ·rintro k ⟨v,m⟩ L ⟨hm,d⟩;simp only at hm d;unfold dG at s;have A:=qD (show(0:Int)<=k by omega) (show(k:Int)<=16 by omega) s.1 s.2.1;have M:WR (l,(k:Int) * (aO j).1):=⟨w,A.1,by show(k:Int) * (aO j).1<=_;omega,F⟩
   simp[h2,M];clear h1 h2 h3 h4;have hb:m.length+l.length<=100000:=by
    have:=Nat.mul_le_mul_left l.length (show k+1<=(max 1 p.mn).toNat by omega);rw[Nat.mul_succ]at this;omega
   refine⟨by simp only[InR];omega,by omega,by omega,λv=>⟨v,m++l.map (· + (k:Int) * (aO j).1),⟨by rw[qGa,qGq,Nat.mul_succ,hm],λz=>?_⟩,rfl, .inl ⟨rfl,by simp⟩⟩⟩;rw[qFL,d z,qFQ];constructor
   ·rintro(⟨a,b,i,h0,h1,h2⟩|⟨a,b,h2⟩)
    ·exact⟨a,b,i,h0,by omega,h2⟩
    ·exact⟨a,b,k,by omega,by omega,h2.symm⟩
   ·rintro⟨a,b,i,h0,h1,h2⟩;by_cases e:i<k
    ·exact .inl ⟨a,b,i,h0,e,h2⟩
    ·have:i=k:=by omega
     subst this;exact .inr ⟨a,b,h2.symm⟩
  ·rintro⟨v,m⟩ ⟨hm,d⟩;simp only at hm d;have C:m.length<=100000:=by
    have:l.length*p.mn.toNat<=l.length* (max 1 p.mn).toNat:=Nat.mul_le_mul_left _ (by omega);omega
   simp[h3,h4,C];clear h1 h2 h3 h4;intro r N E;refine⟨by omega,λv'=>aL (xr r) (fA bj (by simp)) ⟨?_,λk hk z=>?_⟩⟩
   ·show(xr r).length<=l.length* (max 1 p.mn).toNat;have:=qlc r;have:l.length*p.mn.toNat<=l.length* (max 1 p.mn).toNat:=Nat.mul_le_mul_left _ (by omega);omega
   ·rw[c]at hk;cases hk;rw[qlb,E z,d z];refine exists_congr λa=>and_congr_right λ_=>exists_congr λi=>⟨λ⟨h0,h1,h2⟩=>⟨h0,by show i<p.mn;omega, .inr y,h2⟩,λ⟨h0,h1,_,h2⟩=>⟨h0,?_,h2⟩⟩
    have h1:i<p.mn:=h1;omega
def qnX(ks:List Pat):Nat:=(ks.flatMap aq).length
def VI:qnX []=0:=rfl
def PH(k:Pat)(ks:List Pat):qnX (k::ks)=(aq k).length+qnX ks:=by simp[qnX]
def qci{p:Pat}(h:p.op≠1):(aq p).length=qnX p.kids:=by rw[bc,if_neg h];rfl
structure qpe where
 leaf:Int
 v:Value
 out:List Span
def fndB:Nj qpe:=⟨[47],λx=>[.v (.int .i64 x.leaf), .own 47 x.v],λx=>[(47, .row x.v aK 2 (x.out.map enc))],λ_=>rfl⟩
@[simp] theorem qyx(x:qpe):fndB.ce x=[.v (.int .i64 x.leaf), .own 47 x.v]:=i' rfl
@[simp] theorem qyw(x:qpe):fndB.hp x=[(47, .row x.v aK 2 (x.out.map enc))]:=i' rfl
def JJ(n:Nat)(x:qpe)(z:Pat×List Int):Prop:=PPat n z.1/\0<=x.leaf/\x.leaf+dm z.1<=100000000/\x.out.length+z.2.length*jS z.1<=100000/\∀a∈z.2,0<=a/\a+200000*dm z.1<=1000000000000000
def Fi(x:qpe)(z:Pat×List Int)(b:qpe)(_:Unit):Prop:=b.leaf=x.leaf+ (aq z.1).length/\b.out.length<=x.out.length+z.2.length*jS z.1/\∀s,s∈b.out↔s∈x.out\/ ∃a∈z.2,SrcE z.1 a x.leaf s
abbrev Nr(n:Nat):Spc:=qsw fndB (a2 Pat (List Int)) Wh (JJ n) Fi
def J9{n:Nat}{p:Pat}{l:List Int}{leaf:Int}{v:Value}{out:List Span}{d b:Nat}{P L:D}{H:ab}{K:D->ab->Prop}(s:dec P=some p)(t:dec L=some l)
 (h0:H 0=some (.box b [.v (.int .i64 leaf), .own 47 v])) (k:H 47=some (.row v aK 2 (out.map enc))) (h:JJ n ⟨leaf,v,out⟩ (p,l))
 (u:∀a v' c,Fi ⟨leaf,v,out⟩ (p,l) ⟨a,v',c⟩ ()->K (.tup []) (ai (ai H 47 (some (.row v' aK 2 (c.map enc)))) 0 (some (.box b [.v (.int .i64 a), .own 47 v'])))):(Nr n).pt d [.bptr 0 b 0,P,L] H K:=by
 refine⟨0,b,⟨leaf,v,out⟩,(p,l), [P,L],rfl,?_,h0,?_,by simp[fndB],h,λr y j=>?_⟩
 ·rw[qcS,s,t];rfl
 ·intro q j;simp at j;subst j;exact k
 ·exact u r.leaf r.v r.out j
def qos{b:Nat}{leaf:Int}{v:Value}{out:List Span}{q:qpe->Unit->Prop}{H:ab}(h0:H 0=some (.box b [.v (.int .i64 leaf), .own 47 v]))(a:H 47=some (.row v aK 2 (out.map enc)))(c:q ⟨leaf,v,out⟩ ()):Mj fndB Wh b q (.tup []) H:=
 ⟨⟨leaf,v,out⟩,(), .same _,h0,λp hp=>by simp at hp;subst hp;exact a,c⟩
theorem J2(n:Nat)(h1:S hU=EY)(h2:S eC=ms)(h3:S iG=sd)(h4:S aM=Nr n):qlV bD bB S fndB (a2 Pat (List Int)) Wh (JJ (n+1)) Fi:=by
 rintro b ⟨leaf,v,out⟩ ⟨p,l⟩ ⟨hp,K,L,hlen,ha⟩;simp only at hp K L hlen ha;have hk:∀k∈p.kids,PPat n k:=λk=>hp.kid
 have hs:∀k∈p.kids,dG (aO k):=λk h=>tu (v:=aB) k (hk k h).2
 have hn:=(cH hp.2).2.2;unfold lF at hn;rw[decide_eq_true_eq]at hn;have I:p.op≠1/\p.op≠4/\p.op≠6-> ↑p.kids.length<=(9223372036854775807:Int)->vc S bD (vE bB λr H'=>Mj fndB Wh b (Fi ⟨leaf,v,out⟩ (p,l)) r H') (dR (.bptr 0 b 0::(a2 Pat (List Int)).view (p,l))) (ai (gS (fndB.hp ⟨leaf,v,out⟩) bS) 0 (some (.box b (fndB.ce ⟨leaf,v,out⟩)))):=by
  intro e u;simp[bD,bB,e];intro _;rw[cI]at L;have hcnt:out.length<=100000:=by omega
  refine ah (X:=qpe) [0,17] [] p.kids.length (λk x=>0<=x.leaf/\x.leaf+bu (p.kids.drop k)<=100000000/\x.out.length<=out.length/\x.leaf+qnX (p.kids.drop k)=leaf+qnX p.kids/\∀s,s∈x.out↔s∈out) (λx=>[]) (λx=>[(0, .box b [.v (.int .i64 x.leaf), .own 47 x.v]),(47, .row x.v aK 2 (x.out.map enc))]) ⟨leaf,v,out⟩ ⟨K,by simp;omega,qFM _,by simp,by simp⟩ ?_ ?_
  ·rintro k ⟨d,v',q⟩ u ⟨b0,b1,b2,C,F⟩;simp only at b0 b1 b2 C F;obtain⟨x,A⟩:=aQ u;have M:=aU A;obtain⟨_,J⟩:=qFG.1 A;rw[bw A,bu]at b1;rw[bw A,PH]at C;have Q:=hk x M;simp[u,A,J];intro b1';rw[h4];refine J9 (p:=x) (l:=[]) (leaf:=d) (v:=v') (out:=q) ?_ ?_ ?_ ?_ ⟨Q,b0,by show d+ (dm x:Int)<=_;omega,by simp;omega,by simp⟩ ?_
   ·simp
   ·simp
   ·simp
   ·simp
   rintro c U j ⟨c1,c2,c3⟩;simp only at c1 c2 c3;have q4:=sJ x;simp;refine⟨⟨c,U,j⟩,⟨by show 0<=c;omega,by show c+_<=_;omega,?_,by show c+_=_;omega,λs=>?_⟩, .inl ⟨rfl,rfl⟩, .inl ⟨rfl,rfl⟩⟩
   ·show j.length<=out.length;simp at c2;omega
   ·show s∈j↔s∈out;rw[c3 s,F s];simp
  ·rintro⟨d,v',q⟩ ⟨b0,b1,b2,C,F⟩;simp only at b0 b1 b2 C F;simp;refine qos (leaf:=d) (v:=v') (out:=q) (by simp) (by simp) ⟨?_,?_,λs=>?_⟩
   ·rw[qGw]at C;rw[VI]at C;show d=leaf+ ((aq p).length:Int);rw[qci e.1];omega
   ·show q.length<=out.length+_;omega
   ·rw[F s];exact⟨.inl,λh=>h.elim id λ⟨a,_,h⟩=>absurd h (qbJ e _ _ _)⟩
 have u: ↑p.kids.length<=(9223372036854775807:Int):=by
  have:∀ks:List Pat,ks.length<=bu ks:=by
   intro ks
   induction ks with
   |nil=>simp
   | cons k ks ih=>
     rw[bu,qGn];have:1<=dm k:=by rw[cI];omega
     omega
  have:=this p.kids;rw[cI]at L;omega
 rcases mA (cH hp.2).1 with⟨ho,t⟩|⟨ho,t⟩|⟨ho,E,ks,t⟩|⟨ho,E,t⟩
 ·rw[kV,if_pos t,Nat.mul_one]at hlen;simp[bD,bB,ho];intro _;refine ah (X:=Value×List Span) [0,29] [] l.length (λk x=>x.2=out++ (l.take k).map λa=>⟨leaf,a⟩) (λx=>[]) (λx=>[(0, .box b [.v (.int .i64 leaf), .own 47 x.1]),(47, .row x.1 aK 2 (x.2.map enc))]) (v,out) (by simp) ?_ ?_
  ·rintro k ⟨v,m⟩ u hm;simp only at hm;obtain⟨x,A⟩:=aQ u;obtain⟨_,J⟩:=qFG.1 A;have hml:m.length=out.length+k:=by rw[hm];simp;omega
   simp[u,A,J];refine⟨by omega,by omega,λv=> .inl (.inl ?_)⟩;rw[qGP,hm];simp[A]
  ·rintro⟨v',m⟩ hm;simp only at hm;rw[qFY]at hm;simp;have:1<=dm p:=by rw[cI];omega
   refine⟨by simp only[InR];omega,qos (leaf:=leaf+1) (v:=v') (out:=m) (by simp) (by simp) ⟨?_,?_,λs=>?_⟩⟩
   ·rw[bc,if_pos ho];rfl
   ·show m.length<=out.length+l.length*jS p;rw[hm,kV,if_pos t];simp
   ·show s∈m↔s∈out\/ ∃a∈l,SrcE p a leaf s;rw[hm,qFL,qFQ];refine or_congr_right (exists_congr λa=>and_congr_right λ_=>?_);rw[qfG ho];exact eq_comm
 ·exact I (by omega) u
 ·by_cases Y:p.op=4
  ·rw[cI]at L;have ha':∀a∈l,0<=a/\a+200000*bu p.kids<=1000000000000000:=λa h=>by have:=ha a h;rw[cI]at this;omega
   rw[kV,if_neg (by rw[t];simp),if_neg (by omega)]at hlen;simp[bD,bB,Y];intro _;refine Dg (X:=qpe×List Int) [0,61] [] p.kids.length (λk x=>(0<=x.1.leaf/\x.1.leaf+bu (p.kids.drop k)<=100000000)/\x.1.out.length+x.2.length*lQ (p.kids.drop k)<=out.length+l.length*lQ p.kids/\(∀a∈x.2,0<=a/\a+200000*bu (p.kids.drop k)<=1000000000000000)/\x.1.leaf+qnX (p.kids.drop k)=leaf+qnX p.kids/\∀s,(s∈x.1.out\/ ∃a∈x.2,pK (p.kids.drop k) a x.1.leaf s) ↔ (s∈out\/ ∃a∈l,pK p.kids a leaf s))
    (λx=>[(2,enc x.2)]) (λx=>[(0, .box b [.v (.int .i64 x.1.leaf), .own 47 x.1.v]),(47, .row x.1.v aK 2 (x.1.out.map enc))]) (⟨leaf,v,out⟩,l) (by simp) (by simp) (by omega) (by simp) (by simp) ⟨⟨K,by simp;omega⟩,by simp,by simpa using ha',by simp,by simp⟩ (by simp) (by simp) ?_ ?_
   ·rintro k ⟨⟨d,v',q⟩,l'⟩ u ⟨⟨b0,b1⟩,b2,C,F,W⟩;simp only at b0 b1 b2 C F W;obtain⟨x,A⟩:=aQ u;have M:=aU A;obtain⟨_,J⟩:=qFG.1 A;rw[bw A,bu]at b1 C;rw[bw A,lQ,Nat.mul_add]at b2;rw[bw A,PH]at F;have Q:=hk x M;have O:=hs x M;simp[u,A,J];intro b1';rw[h4];refine J9 (p:=x) (l:=l') (leaf:=d) (v:=v') (out:=q) ?_ ?_ ?_ ?_ ⟨Q,b0,by show d+ (dm x:Int)<=_;omega,by show q.length+l'.length*jS x<=_;omega,λa h=>by have:=C a h;show 0<=a/\a+200000* (dm x:Int)<=_;omega⟩ ?_
    ·simp
    ·simp
    ·simp
    ·simp
    rintro c U j ⟨c1,c2,c3⟩;simp only at c1 c2 c3;have q4:=sJ x;simp[h1,h2,Q.2,kZ];unfold dG at O;have hlx:l'.length<=100000:=by
     have:=Nat.mul_le_mul_left l'.length (Qn x);omega
    have hb:∀s,(s∈j\/ ∃a∈l',(aO x).1=(aO x).2/\pK (p.kids.drop (k+1)) (a+ (aO x).1) c s) ↔ (s∈out\/ ∃a∈l,pK p.kids a leaf s):=by
     intro s;rw[<-W s,c3 s,bw A,or_assoc,c1];refine or_congr_right ⟨?_,?_⟩
     ·rintro(⟨a,w,h⟩|⟨a,w,h⟩)
      ·exact⟨a,w,by rw[pK];exact .inl h⟩
      ·exact⟨a,w,by rw[pK];exact .inr h⟩
     ·rintro⟨a,w,h⟩;rw[pK]at h;rcases h with h|h
      ·exact .inl ⟨a,w,h⟩
      ·exact .inr ⟨a,w,h⟩
    refine⟨λhne=>⟨⟨by simp,O.1,by show(aO x).1<=_;omega,by simp⟩,⟨c,U,j⟩, [],⟨⟨by show 0<=c;omega,by show c+_<=_;omega⟩,?_,by simp,by show c+_=_;omega,λs=>?_⟩,rfl, .inl ⟨rfl,rfl⟩, .inl ⟨rfl,rfl⟩⟩,λhe=>⟨⟨hlx,O.1,by show(aO x).1<=_;omega,λa h=>by have:=C a h;omega⟩,⟨c,U,j⟩,l'.map (· + (aO x).1),⟨⟨by show 0<=c;omega,by show c+_<=_;omega⟩,?_,λa h=>?_,by show c+_=_;omega,λs=>?_⟩,rfl, .inl ⟨rfl,rfl⟩, .inl ⟨rfl,rfl⟩⟩⟩
    ·simp;show j.length<=_;omega
    ·rw[<-hb s];refine or_congr_right ⟨λ⟨a,h,_⟩=>by simp at h,λ⟨a,_,h,_⟩=>absurd h hne⟩
    ·rw[qGq];show j.length+_<=_;omega
    ·obtain⟨a0,h0,rfl⟩:=qFQ.1 h;have:=C a0 h0;have h3:1<=dm x:=by rw[cI];omega
     show 0<=a0+ (aO x).1/\a0+ (aO x).1+_<=_;omega
    ·rw[<-hb s];refine or_congr_right ⟨?_,?_⟩
     ·rintro⟨a,h,h'⟩;obtain⟨a0,h0,rfl⟩:=qFQ.1 h;exact⟨a0,h0,he,h'⟩
     ·rintro⟨a,h,_,h'⟩;exact⟨a+ (aO x).1,qFQ.2 ⟨a,h,rfl⟩,h'⟩
   ·rintro⟨⟨d,v',q⟩,l'⟩ ⟨⟨b0,b1⟩,b2,C,F,W⟩;simp only at b0 b1 b2 C F W;rw[qGw]at b2 F W;rw[VI]at F;rw[lQ,Nat.mul_zero]at b2;simp;refine qos (leaf:=d) (v:=v') (out:=q) (by simp) (by simp) ⟨?_,?_,λs=>?_⟩
    ·show d=leaf+ ((aq p).length:Int);rw[qci (by omega)];omega
    ·show q.length<=out.length+l.length*jS p;rw[kV,if_neg (by rw[t];simp),if_neg (by omega)];omega
    ·show s∈q↔s∈out\/ ∃a∈l,SrcE p a leaf s;have:(∃a∈l,SrcE p a leaf s) ↔ ∃a∈l,pK p.kids a leaf s:=exists_congr λa=>and_congr_right λ_=>qfF Y _ _ _
     rw[this,<-W s];exact⟨.inl,λh=>h.elim id λ⟨a,_,h⟩=>by rw[pK]at h;exact h.elim⟩
  ·exact I (by omega) u
 ·have Q:=hk E (by rw[t];simp);have O:=hs E (by rw[t];simp);have hn:=hn ho;have e6:(⟨6,p.cond,p.lab,p.reg,p.mn,p.mx,p.kids⟩:Pat)=p:=by rw[<-ho];exact qou p
  have N:jS p=(max 1 p.mn).toNat*jS E:=by rw[kV,t,if_neg (by simp),if_pos ho,lQ,lQ,qGS]
  have hpn:dm p=dm E+1:=by rw[cI,t,bu,bu]
  have ht:WQ (p,l):=⟨ho,hp.2,by show l.length*jS p<=_;omega,λa h=>by have:=ha a h;omega⟩
  simp[bD,bB,ho,h3,e6,ht];refine⟨by rw[t];simp,λa Z=>?_⟩;rw[t]at Z;cases Z;rintro y ⟨c1,c2⟩;simp only at c1 c2;have c2:=c2 E t;rw[h4];refine J9 (p:=E) (l:=y) (leaf:=leaf) (v:=v) (out:=out) ?_ ?_ ?_ ?_ ⟨Q,K,by show leaf+ (dm E:Int)<=_;omega,?_,λz hz=>?_⟩ ?_
  ·simp
  ·simp
  ·simp
  ·simp
  ·show out.length+y.length*jS E<=100000;rw[N,<-Nat.mul_assoc]at hlen;have:=qF7 (jS E) c1;omega
  ·obtain⟨a,w,i,h0,h1,h2,rfl⟩:=(c2 z).1 hz;have h1:i<p.mn:=h1;have:=ha a w;unfold dG at O;have hm:=qD h0 (show i<=16 by omega) O.1 O.2.1;show 0<=a+i* (aO E).1/\a+i* (aO E).1+200000* (dm E:Int)<=_;omega
  ·rintro c U j ⟨d1,d2,d3⟩;simp only at d1 d2 d3;refine qos (leaf:=c) (v:=U) (out:=j) (by simp) (by simp) ⟨?_,?_,λs=>?_⟩
   ·show c=leaf+ ((aq p).length:Int);rw[qci (by omega),t,PH,VI];omega
   ·show j.length<=out.length+l.length*jS p;rw[N,<-Nat.mul_assoc];have:=qF7 (jS E) c1;omega
   ·show s∈j↔s∈out\/ ∃a∈l,SrcE p a leaf s;rw[d3 s];refine or_congr_right ⟨?_,?_⟩
    ·rintro⟨z,hz,N⟩;obtain⟨a,w,i,h0,h1,h2,rfl⟩:=(c2 z).1 hz;exact⟨a,w,(qh0 ho t _ _ _).2 ⟨i,h0,h1,h2,N⟩⟩
    ·rintro⟨a,w,h⟩;obtain⟨i,h0,h1,h2,h3⟩:=(qh0 ho t _ _ _).1 h;exact⟨_,(c2 _).2 ⟨a,w,i,h0,h1,h2,rfl⟩,h3⟩
end
section
open Cod (enc dec)
variable {S:Nat->Spc}
def Zw(p:Int)(t:xX):Bool:=decide (t.b<=p/\p<t.e)
abbrev Cx:Spc:=aG (a2 Corpus Int) (λ_=>True) enc λx y=>y=fe x.1.texts (Zw x.2)
def My:ak iO iB S (a2 Corpus Int) (λ_=>True) enc λx y=>y=fe x.1.texts (Zw x.2):=by
 rintro⟨c,p⟩ -;simp[iO,iB];intro hlen;refine ah (X:=Unit) [1,8] [] c.texts.length (λk _=>∀y∈c.texts.take k,Zw p y=false) (λ_=>[]) (λ_=>[]) () (by simp) ?_ ?_
 ·intro k _ hk a;obtain⟨t,b⟩:=aQ hk;obtain⟨_,d⟩:=qFG.1 b;simp[b,hk,d];refine⟨λh1=>⟨λh2=>?_,λh2=>?_⟩,λh1=>?_⟩
  ·exact(tE b (by simp[Zw];omega) a).symm
  all_goals
   rw[av b];intro y hy;rcases qFL.1 hy with hy|hy
   ·exact a y hy
   ·simp at hy;subst hy;simp[Zw];omega
 ·intro _ a;simp at a;simp;exact(jZ a).symm
def vy(a b:Span):Int:=if ug a.b b.b≠0 then ug a.b b.b else ug a.e b.e
def qlh(a b:Span):0<=vy a b↔ ¬C9 a b:=by
 unfold vy ug C9
 repeat' split
 all_goals omega
end
section
open Cod (enc dec)
variable {S S0:Nat->Spc}
abbrev od:Spc:=aG (a2 Span Span) (λ_=>True) (enc (X:=Int)) λx y=>y=vy x.1 x.2
def F6(h1:S cW=gA)(h2:S mF=vD):ak ny mW S (a2 Span Span) (λ_=>True) (enc (X:=Int)) λx y=>y=vy x.1 x.2:=by
 rintro⟨a,b⟩ -;simp[ny,mW,h1,h2,vy];by_cases h:ug a.b b.b=0
 ·by_cases c:ug a.e b.e=0
  ·simp[h,c]
  ·simp[h,c]
 ·simp[h]
def qeZ(x:D×Unit)(l:List Span):Prop:=x.1= .clo fV []/\l.length<=100000
abbrev s_SortFunc_Source:Spc:=qrL (aD a0) qeZ qcX aK 2
abbrev s_visitA:Spc:=qsw fndB (a2 Pat (List Int)) Wh (λx z=>∃n,JJ n x z) Fi
theorem qbg{n:Nat}{p:Pat}{l:List Int}{leaf:Int}{v:Value}{out:List Span}{id d b:Nat}{P L:D}{H:ab}{K:D->ab->Prop}(hid:id≠47)(s:dec P=some p)(t:dec L=some l)
 (h0:H id=some (.box b [.v (.int .i64 leaf), .own 47 v])) (k:H 47=some (.row v aK 2 (out.map enc))) (h:JJ n ⟨leaf,v,out⟩ (p,l))
 (u:∀a v' c,Fi ⟨leaf,v,out⟩ (p,l) ⟨a,v',c⟩ ()->K (.tup []) (ai (ai H 47 (some (.row v' aK 2 (c.map enc)))) id (some (.box b [.v (.int .i64 a), .own 47 v'])))):s_visitA.pt d [.bptr id b 0,P,L] H K:=by
 refine⟨id,b,⟨leaf,v,out⟩,(p,l), [P,L],rfl,?_,h0,?_,by simpa [fndB]using hid,⟨n,h⟩,λr y j=>?_⟩
 ·rw[qcS,s,t];rfl
 ·intro q j;simp at j;subst j;exact k
 ·exact u r.leaf r.v r.out j
def Ov:∀(ks:List Pat) (n:Int),(1<=n\/ks≠ []/\0<=n)->(∀k∈ks,1<=fM k)->1<=eP ks n
 | [],n,h,_=>by rw[eP];rcases h with h|h;exact h;exact absurd rfl h.1
 | k::ks,n,h,hk=>by
   rw[eP];have:=hk k (by simp);exact Ov ks _ (.inl (by rcases h with h|h<;>omega)) λx a=>hk x (by simp[a])
def qfH{v:B->Bool}(p:Pat):fy v p=true->1<=fM p:=by
 induction p using fg with|_ p a=>?_
 intro h;have hn:=(cH h).2.2;unfold lF at hn;rw[decide_eq_true_eq]at hn;rw[pR,Dr];by_cases h0:p.kids=[]
 ·rw[if_pos h0];omega
 ·rw[if_neg h0];have:=Ov p.kids 0 (.inr ⟨h0,qGI _⟩) λk hk=>a k hk (dX h hk)
  generalize eP p.kids 0=n at this;split
  ·rename_i h6;have hn:=hn h6;split
   ·have:=Int.mul_le_mul this (show(1:Int)<=p.mn+1 by omega) (by omega) (by omega);omega
   ·split
    ·exact this
    ·have:=Int.mul_le_mul this (show(1:Int)<=p.mx by omega) (by omega) (by omega);omega
  ·exact this
abbrev Im:Spc:=Gn
abbrev se:Spc:=aG (a1 Pat) oc (enc (X:=List Span)) jF
theorem J5(h1:S vN=Im)(h2:S aM=s_visitA)(h3:S gX=s_SortFunc_Source)(h4:S fl=At):
 ak rL qr S (a1 Pat) oc (enc (X:=List Span)) jF:=by
 rintro p ⟨q,t⟩;simp[rL,qr,h1,-fB'];have c:¬(fy aB p=true/\fM p<=256)->Fin enc (jF p) (D.v (Value.slice none 0 0)) λx=>none:=λh=>aL [] (by simp) (by unfold jF;rw[if_neg h])
 rcases hb:fy aB p
 ·simp;exact c (by rw[hb];simp)
 have k:=qfH p hb;simp;refine⟨λ_=>⟨λh=>c (by omega),λd=>?_⟩,λh=>by omega⟩;have u:∀y,SrcsOf p y->jF p y:=λy w=>by unfold jF;rw[if_pos ⟨hb,d⟩];exact w
 clear c;refine gc (X:=Nat) [1] [] [] [] (λ_=>True) (λb=>[(4, .bptr 14 b 0)]) (λb=>[(14, .box b [.v (.int .i64 0), .own 47 (.slice none 0 0)]),(47, .row (.slice none 0 0) aK 2 [])]) [14,47] (λ_=>rfl) (by decide) ?_ ?_
 ·simp;refineλb=>⟨b, .same _, .inl ?_,by simp[isNilRow]⟩
  simp;exact .nilown 47
 ·rintro b -;simp[h2];refine qbg (n:=cg p) (p:=p) (l:=[0]) (leaf:=0) (v:= .slice none 0 0) (out:=[]) (by decide) ?_ ?_ ?_ ?_ ⟨⟨qFM _,hb⟩,qGI _,by show(0:Int) + (dm p:Int)<=_;omega,by simp;omega,λa h=>by simp at h;subst h;show 0<=(0:Int)/\(0:Int) +200000* (dm p:Int)<=_;omega⟩ ?_
  ·simp
  ·simp
  ·simp
  ·simp
  rintro leaf v out ⟨c1,c2,c3⟩;simp only at c1 c2 c3;simp at c2;simp[h3,h4];have A:qeZ (.clo fV [],()) out:=⟨rfl,by omega⟩
  refine⟨A,λr j=>⟨by have:=j.1;omega,λv'=>aL (yg r) (fA aK (by simp)) (u _ ⟨qoK j.2.2,λs=>?_⟩)⟩⟩;rw[qak,j.2.1 s,c3 s];simp
end
section
open Cod (enc dec)
open Go.Proofs Go.Sort Go.Shelf Go.Lib Go.RowKit
variable {dq:Prop}
section
variable {P:Program}{ρ:Ren}
theorem XS{A:Nat}(L:SlLaysN.n53 P ρ)(hf:ρ.f 53=A)(ef:dc P A):Tri dq P A s_Sort_int.pt:=by
 subst hf;have hev:∀x:Int,enc x=D.v (.int .i64 x):=λ_=>rfl
 intro O tp w vs ds H d K hO' htl p hlen C hA;obtain⟨id,v,l,ds',x,rfl,hd,hid,hl5,hK⟩:=hA;have hds:ds'=[]:=by
  match ds',hd with
  | [],h=>rfl
  |a::r,h=>cases h
 subst hds
 match vs,hlen,C with
 | [v0],_,C=>
 have e0:v0=v:=by
  have:=C 0 v0 _ rfl rfl;cases this;rfl
 subst e0;refine⟨ef,?_⟩;obtain⟨xs,⟨hxl,hx⟩,hkn,Q⟩:=p.ok id _ hid;rcases hx with⟨rfl,h0⟩|⟨gb,cap,cur,rfl,_,S,hcap,hcapm,hsz,I⟩
 ·have hl0:l=[]:=by simpa using h0
  subst hl0;refine(AnyG.slices_Sort_int_none L none 0 w).mono ?_;rintro e w' ⟨rfl,rfl⟩;have hH:ai H id (some (.row (.slice none 0 0) bj 1 (([]:List Int).map enc)))=H:=by
   funext i;simp only[ai];by_cases hi:i=id
   ·subst hi;simp[hid]
   ·simp[hi]
  refine⟨_,_,_,tp,rfl,hK [] (by simp),λb h=>h,λb h=> .inl h,htl.1, .refl _ _ _,λb h=> .inl (by rwa [hH]at h),by rw[hH];exact p, .tup [] [] rfl (λk x c h=>by simp at h)⟩
 ·have hll:(l.map (enc (X:=Int))).length=l.length:=by simp
  rw[hll]at hcap hxl I ⊢;have hval:∀(j:Nat) (y v':Value),xs[j]? =some y->(bp (l.map enc))[j]? =some (.v v')->y=v':=λj y v' h1 h2=>((Q j y _ h1 h2).2).inv_v
  have Y:∀l:List Int,bp (l.map enc)=(l.map (Value.int .i64)).map D.v:=λl=>by
   unfold bp;rw[List.flatMap_map,List.map_map]
   induction l with
   |nil=>rfl
   |cons a l ih=>rw[qGk,qGb,ih];rfl
  have hxs:xs=l.map (Value.int .i64):=by
   apply qGo;intro j;by_cases hj:j<l.length
   ·have e1:xs[j]? =some xs[j]:=qFH (by omega);have e2:(l.map (Value.int .i64))[j]? =some (.int .i64 l[j]):=by simp[hj]
    rw[e1,e2];congr 1;refine hval j _ _ e1 ?_;rw[Y,qFU,e2];rfl
   ·rw[qF0 (by omega),qF0 (by simp;omega)]
  have hcur:∀j,j<l.length->cur[j]? =(l.map (Value.int .i64))[j]?:=λj hj=>by
   rw[<-hxs,<-I,qF2,if_pos (by omega),qF4]
  have hgs:gb<w.heap.size:=(qFS.1 S).1;have hH:Holds (Value.int .i64) w gb 0 l.toArray:=by
   intro j hj;have hj':j<l.length:=by simpa using hj
   refine⟨?_,BK S⟩;rw[Hk S,qGs,hcur j hj',getElem!_pos _ j hj];simp[hj']
  have J:=AnyG.slices_Sort_int L gb 0 cap l w hH hgs (by omega);refine J.mono ?_;rintro e w' ⟨rfl,n,os,F⟩;have Z:∀x,x∈l.mergeSort (λx y=>decide (x<=y)) ↔x∈l:=λx=>List.mem_mergeSort
  have q:(l.mergeSort λx y=>decide (x<=y)).length=l.length:=by simp
  generalize hl':(l.mergeSort λx y=>decide (x<=y))=l' at F Z q;have U:∀b,b<w.heap.size->b≠gb->w'.heap[b]? =w.heap[b]?:=λb hb hne=>by
   rw[F];exact EZ (w:=Sort.ahead w n) hb hne
  have hthis:w'.heap[gb]? =some (.cells (putCells (Value.int .i64) 0 l'.toArray cur) bj (0,0)):=by
   rw[F];exact O1 (w:=Sort.ahead w n) S
  have hws:w.heap.size<=w'.heap.size:=by
   rw[F];simp[grow,putRow,mapBlock,Sort.ahead]
  have W:w'.os=w.os/\w'.tape=w.tape/\w'.output=w.output/\w.drawn<=w'.drawn:=by
   rw[F];exact⟨rfl,rfl,rfl,Nat.le_add_right _ _⟩
  clear F J;have hbo:(Res.row (.slice (some ⟨gb,0,none⟩) l.length cap) bj 1 (l.map (enc (X:=Int)))).blk=some gb:=rfl;have t:H id=some (.row (.slice (some ⟨gb,0,none⟩) l.length cap) bj 1 (l.map enc)):=by rw[hid,hll]
  have M:bA H gb:=⟨id,_,t,hbo⟩
  have htp:∀b,tp b->b≠gb:=λb hb e=>(p.out id _ gb t hbo).2 (e ▸hb)
  have E:∀b,tp b->TapeStep w w' b:=λb hb=> .same (U b (htl.1 b hb) (htp b hb))
  have hK':=hK l' ⟨q,Z⟩;rw[hll]at hK';generalize hH2:ai H id (some (.row (.slice (some ⟨gb,0,none⟩) l.length cap) bj 1 (l'.map enc)))=H2 at hK';have N:∀b,bA H2 b->bA H b:=λb ⟨i,r,h1,h2⟩=>by
   rw[<-hH2]at h1;simp only[ai]at h1;split at h1
   ·cases h1;cases h2;exact M
   ·exact⟨i,r,h1,h2⟩
  have hmove:∀y c,R tp (aR O tp H w) w y c->R tp (aR O tp H2 w') w' y c:=λy c hr=>hr.mono (λ_ h=>h) (λb hb=>⟨⟨qFX hb.1 hws,hb.2.1,hb.2.2.1,λh=>hb.2.2.2 (N b h)⟩,U b hb.1 (λe=>hb.2.2.2 (e ▸M))⟩) E
  have u:∀i r,H2 i=some r->(i=id/\r= .row (.slice (some ⟨gb,0,none⟩) l.length cap) bj 1 (l'.map enc))\/(i≠id/\H i=some r):=λi r h=>by
   rw[<-hH2]at h;simp only[ai]at h;split at h
   ·rename_i e;cases h;exact .inl ⟨e,rfl⟩
   ·rename_i e;exact .inr ⟨e,h⟩
  refine⟨_,_,H2,tp,rfl,hK',λb h=>h,λb h=> .inl h,λb hb=>qFX (htl.1 b hb) hws,⟨W.1,W.2.1,W.2.2.1,hws,λb hb ho ht=>U b hb (λe=>ho (e ▸M)),E,λ_=>W.2.2.2⟩,λb h=> .inl (N b h),⟨?_,?_,?_⟩, .tup [] [] rfl (λk x c h=>by simp at h)⟩
  ·intro i j r s b h1 h2 h3 h4;rcases u i r h1 with⟨rfl,rfl⟩|⟨n1,k1⟩
   ·rcases u j s h2 with⟨rfl,rfl⟩|⟨n2,k2⟩
    ·rfl
    ·exact p.dis _ j _ s b t k2 h3 h4
   ·rcases u j s h2 with⟨rfl,rfl⟩|⟨n2,k2⟩
    ·exact p.dis i _ r _ b k1 t h3 h4
    ·exact p.dis i j r s b k1 k2 h3 h4
  ·intro i r b h1 h2;rcases u i r h1 with⟨rfl,rfl⟩|⟨n1,k1⟩
   ·exact p.out _ _ b t h2
   ·exact p.out i r b k1 h2
  ·intro i r h1;rcases u i r h1 with⟨rfl,rfl⟩|⟨n1,k1⟩
   ·have hps:(putCells (Value.int .i64) 0 l'.toArray cur).size=cur.size:=by simp[putCells]
    refine⟨l'.map (Value.int .i64),⟨by simp, .inr ⟨gb,cap,_,by simp[q],qF3 _,hthis,by simp;omega,hcapm,by rw[hps,hsz],?_⟩⟩,λd hd=>?_,λj y c h1 h2=>?_⟩
    ·simp only[qGq,q];apply qGo;intro j;rw[qF2];by_cases hj:j<l.length
     ·have hjc:j<cur.size:=by omega
      have hjf:j<l'.toArray.size:=by simp[q];exact hj
      have hjl:j<l'.length:=by omega
      rw[if_pos (by omega),qF4];simp only[putCells,Array.getElem?_mapIdx,qGj hjc,qHd,qF3,qGs,hjf,and_self,if_true,Nat.sub_zero];rw[getElem!_pos _ j hjf];simp[hjl]
     ·rw[if_neg (by omega),qF0 (by simp;omega)]
    ·obtain⟨z,_,rfl⟩:=qFQ.1 hd;exact⟨Cod.kn z,Cod.wid z⟩
    ·rw[Y,qFU,h1]at h2;cases h2;obtain⟨z,_,rfl⟩:=qFQ.1 (qFK h1);exact⟨rfl, .v _ rfl (λs h=>by cases h)⟩
   ·have hne:∀b,r.blk=some b->b≠gb:=λb hb e=>n1 (p.dis i id r _ gb k1 t (e ▸hb) hbo)
    exact(p.ok i r k1).conv hmove (λb hb=>U b ((p.ok i r k1).lt hb) (hne b hb))
end
end
end Go.Gv
namespace Go.Proofs
open Go.Shelf
def Tryz.sortSource_ren:Go.Shelf.Ren:=⟨λ|6=>127|15=>147|14=>191|28=>211|29=>212|20=>244|21=>245|22=>246|23=>247|24=>248|25=>249|26=>250|27=>251|46=>282|47=>262|48=>263|49=>283|50=>284|57=>304|n=>n,λ|22=>47|24=>50|25=>136|3=>3|39=>141|0=>0|53=>256|55=>258|4=>4|46=>250|45=>249|50=>90|5=>5|9=>9|66=>294|70=>298|76=>324|77=>127|n=>n,λ|n=>n⟩
theorem Tryz.sortSource:Go.Proofs.SlLaysF0.n6 Tryz.prog Tryz.sortSource_ren:={
 mixed:=by kernel_rfl
 f6:=⟨Tryz.f127.name,by decide,Tryz.func127.trans (congrArg some (by kernel_rfl))⟩
 f14:=⟨Tryz.f191.name,by decide,Tryz.func191.trans (congrArg some (by kernel_rfl))⟩
 f15:=Tryz.func147.trans (congrArg some (by kernel_rfl))
 f20:=⟨Tryz.f244.name,by decide,Tryz.func244.trans (congrArg some (by kernel_rfl))⟩
 f21:=⟨Tryz.f245.name,by decide,Tryz.func245.trans (congrArg some (by kernel_rfl))⟩
 f22:=⟨Tryz.f246.name,by decide,Tryz.func246.trans (congrArg some (by kernel_rfl))⟩
 f23:=⟨Tryz.f247.name,by decide,Tryz.func247.trans (congrArg some (by kernel_rfl))⟩
 f24:=⟨Tryz.f248.name,by decide,Tryz.func248.trans (congrArg some (by kernel_rfl))⟩
 f25:=⟨Tryz.f249.name,by decide,Tryz.func249.trans (congrArg some (by kernel_rfl))⟩
 f26:=⟨Tryz.f250.name,by decide,Tryz.func250.trans (congrArg some (by kernel_rfl))⟩
 f27:=⟨Tryz.f251.name,by decide,Tryz.func251.trans (congrArg some (by kernel_rfl))⟩
 f28:=Tryz.func211.trans (congrArg some (by kernel_rfl))
 f29:=Tryz.func212.trans (congrArg some (by kernel_rfl))
 f46:=⟨Tryz.f282.name,by decide,Tryz.func282.trans (congrArg some (by kernel_rfl))⟩
 f47:=Tryz.func262.trans (congrArg some (by kernel_rfl))
 f48:=Tryz.func263.trans (congrArg some (by kernel_rfl))
 f49:=⟨Tryz.f283.name,by decide,Tryz.func283.trans (congrArg some (by kernel_rfl))⟩
 f50:=⟨Tryz.f284.name,by decide,Tryz.func284.trans (congrArg some (by kernel_rfl))⟩
 f57:=⟨Tryz.f304.name,by decide,Tryz.func304.trans (congrArg some (by kernel_rfl))⟩
 t0:=Tryz.underlying0
 a0:=Tryz.isAgg0
 z0:=Tryz.sizeOf0
 v0:=Tryz.zeroValue0
 t3:=Tryz.underlying3
 a3:=Tryz.isAgg3
 z3:=Tryz.sizeOf3
 v3:=Tryz.zeroValue3
 t4:=Tryz.underlying4
 a4:=Tryz.isAgg4
 z4:=Tryz.sizeOf4
 v4:=Tryz.zeroValue4
 t5:=Tryz.underlying5
 a5:=Tryz.isAgg5
 z5:=Tryz.sizeOf5
 v5:=Tryz.zeroValue5
 t9:=Tryz.underlying9
 a9:=Tryz.isAgg9
 z9:=Tryz.sizeOf9
 v9:=Tryz.zeroValue9
 t22:=Tryz.underlying47
 a22:=Tryz.isAgg47
 z22:=Tryz.sizeOf47
 v22:=Tryz.zeroValue47
 t25:=Tryz.underlying136
 a25:=Tryz.isAgg136
 z25:=Tryz.sizeOf136
 v25:=Tryz.zeroValue136
 t39:=Tryz.underlying141
 a39:=Tryz.isAgg141
 z39:=Tryz.sizeOf141
 v39:=Tryz.zeroValue141
 t45:=Tryz.underlying249
 a45:=Tryz.isAgg249
 z45:=Tryz.sizeOf249
 v45:=Tryz.zeroValue249
 t46:=Tryz.underlying250
 a46:=Tryz.isAgg250
 z46:=Tryz.sizeOf250
 v46:=Tryz.zeroValue250
 t50:=Tryz.underlying90
 a50:=Tryz.isAgg90
 z50:=Tryz.sizeOf90
 v50:=Tryz.zeroValue90
 t53:=Tryz.underlying256
 a53:=Tryz.isAgg256
 z53:=Tryz.sizeOf256
 v53:=Tryz.zeroValue256
 t55:=Tryz.underlying258
 a55:=Tryz.isAgg258
 z55:=Tryz.sizeOf258
 v55:=Tryz.zeroValue258
 t66:=Tryz.underlying294
 a66:=Tryz.isAgg294
 z66:=Tryz.sizeOf294
 v66:=Tryz.zeroValue294
 t70:=Tryz.underlying298
 a70:=Tryz.isAgg298
 z70:=Tryz.sizeOf298
 v70:=Tryz.zeroValue298
 t76:=Tryz.underlying324
 a76:=Tryz.isAgg324
 z76:=Tryz.sizeOf324
 v76:=Tryz.zeroValue324
 t77:=Tryz.underlying127
 a77:=Tryz.isAgg127
 z77:=Tryz.sizeOf127
 v77:=Tryz.zeroValue127 }
def Tryz.sortInt_ren:Go.Shelf.Ren:=⟨λ|53=>79|64=>147|63=>146|78=>211|79=>212|70=>203|71=>204|72=>205|73=>206|74=>207|75=>208|59=>76|76=>209|77=>210|88=>261|89=>262|90=>263|91=>264|92=>265|68=>144|96=>294|n=>n,λ|22=>22|23=>3|3=>3|51=>141|0=>0|67=>256|69=>258|4=>4|61=>250|60=>249|44=>90|5=>5|9=>9|75=>294|79=>298|83=>324|84=>127|n=>n,λ|n=>n⟩
theorem Tryz.sortInt:Go.Proofs.SlLaysN.n53 Tryz.prog Tryz.sortInt_ren:={
 mixed:=by kernel_rfl
 f53:=⟨Tryz.f79.name,by decide,Tryz.func79.trans (congrArg some (by kernel_rfl))⟩
 f59:=⟨Tryz.f76.name,by decide,Tryz.func76.trans (congrArg some (by kernel_rfl))⟩
 f63:=⟨Tryz.f146.name,by decide,Tryz.func146.trans (congrArg some (by kernel_rfl))⟩
 f64:=Tryz.func147.trans (congrArg some (by kernel_rfl))
 f68:=⟨Tryz.f144.name,by decide,Tryz.func144.trans (congrArg some (by kernel_rfl))⟩
 f70:=⟨Tryz.f203.name,by decide,Tryz.func203.trans (congrArg some (by kernel_rfl))⟩
 f71:=⟨Tryz.f204.name,by decide,Tryz.func204.trans (congrArg some (by kernel_rfl))⟩
 f72:=⟨Tryz.f205.name,by decide,Tryz.func205.trans (congrArg some (by kernel_rfl))⟩
 f73:=⟨Tryz.f206.name,by decide,Tryz.func206.trans (congrArg some (by kernel_rfl))⟩
 f74:=⟨Tryz.f207.name,by decide,Tryz.func207.trans (congrArg some (by kernel_rfl))⟩
 f75:=⟨Tryz.f208.name,by decide,Tryz.func208.trans (congrArg some (by kernel_rfl))⟩
 f76:=⟨Tryz.f209.name,by decide,Tryz.func209.trans (congrArg some (by kernel_rfl))⟩
 f77:=⟨Tryz.f210.name,by decide,Tryz.func210.trans (congrArg some (by kernel_rfl))⟩
 f78:=Tryz.func211.trans (congrArg some (by kernel_rfl))
 f79:=Tryz.func212.trans (congrArg some (by kernel_rfl))
 f88:=⟨Tryz.f261.name,by decide,Tryz.func261.trans (congrArg some (by kernel_rfl))⟩
 f89:=Tryz.func262.trans (congrArg some (by kernel_rfl))
 f90:=Tryz.func263.trans (congrArg some (by kernel_rfl))
 f91:=⟨Tryz.f264.name,by decide,Tryz.func264.trans (congrArg some (by kernel_rfl))⟩
 f92:=⟨Tryz.f265.name,by decide,Tryz.func265.trans (congrArg some (by kernel_rfl))⟩
 f96:=⟨Tryz.f294.name,by decide,Tryz.func294.trans (congrArg some (by kernel_rfl))⟩
 t0:=Tryz.underlying0
 a0:=Tryz.isAgg0
 z0:=Tryz.sizeOf0
 v0:=Tryz.zeroValue0
 t3:=Tryz.underlying3
 a3:=Tryz.isAgg3
 z3:=Tryz.sizeOf3
 v3:=Tryz.zeroValue3
 t4:=Tryz.underlying4
 a4:=Tryz.isAgg4
 z4:=Tryz.sizeOf4
 v4:=Tryz.zeroValue4
 t5:=Tryz.underlying5
 a5:=Tryz.isAgg5
 z5:=Tryz.sizeOf5
 v5:=Tryz.zeroValue5
 t9:=Tryz.underlying9
 a9:=Tryz.isAgg9
 z9:=Tryz.sizeOf9
 v9:=Tryz.zeroValue9
 t22:=Tryz.underlying22
 a22:=Tryz.isAgg22
 z22:=Tryz.sizeOf22
 v22:=Tryz.zeroValue22
 t23:=Tryz.underlying3
 a23:=Tryz.isAgg3
 z23:=Tryz.sizeOf3
 v23:=Tryz.zeroValue3
 t44:=Tryz.underlying90
 a44:=Tryz.isAgg90
 z44:=Tryz.sizeOf90
 v44:=Tryz.zeroValue90
 t51:=Tryz.underlying141
 a51:=Tryz.isAgg141
 z51:=Tryz.sizeOf141
 v51:=Tryz.zeroValue141
 t60:=Tryz.underlying249
 a60:=Tryz.isAgg249
 z60:=Tryz.sizeOf249
 v60:=Tryz.zeroValue249
 t61:=Tryz.underlying250
 a61:=Tryz.isAgg250
 z61:=Tryz.sizeOf250
 v61:=Tryz.zeroValue250
 t67:=Tryz.underlying256
 a67:=Tryz.isAgg256
 z67:=Tryz.sizeOf256
 v67:=Tryz.zeroValue256
 t69:=Tryz.underlying258
 a69:=Tryz.isAgg258
 z69:=Tryz.sizeOf258
 v69:=Tryz.zeroValue258
 t75:=Tryz.underlying294
 a75:=Tryz.isAgg294
 z75:=Tryz.sizeOf294
 v75:=Tryz.zeroValue294
 t79:=Tryz.underlying298
 a79:=Tryz.isAgg298
 z79:=Tryz.sizeOf298
 v79:=Tryz.zeroValue298
 t83:=Tryz.underlying324
 a83:=Tryz.isAgg324
 z83:=Tryz.sizeOf324
 v83:=Tryz.zeroValue324
 t84:=Tryz.underlying127
 a84:=Tryz.isAgg127
 z84:=Tryz.sizeOf127
 v84:=Tryz.zeroValue127 }
end Go.Proofs
namespace Go.Gv
open Go.Proofs
def vh:CC:=gq Tryz.f70 [2,3] {} _
def uC:List aj:=[.tmp 4]
def MU:FO xc [2,3] vh uC 17:=fo
def te:CC:=gq Tryz.f29 [2] {} _
def sv:List aj:=[.tmp 4]
def KE:FO uM [2] te sv 37:=fo
def xN:CC:=gq Tryz.f11 [3,4] { bx:=[99,100] } _
def wG:List aj:=[.tmp 6, .tmp 7]
def Pp:FO tK [3,4] xN wG 101:=fo
def Cj:CC:=gq Tryz.f37 [2,3] {} _
def Bh:List aj:=[.tmp 4, .tmp 5]
def VA:FO El [2,3] Cj Bh 50:=fo
def vo:CC:=gq Tryz.f14 [3] {} _
def uI:List aj:=[.tmp 4]
def M0:FO xi [3] vo uI 36:=fo
def xR:CC:=gq Tryz.f13 [] {} _
def wJ:List aj:=[.tmp 0]
def Pt:FO zA [] xR wJ 60:=fo
def gk:CC:=gq Tryz.f71 [3] {} _
def gg:List aj:=[.tmp 4]
def yc:FO gY [3] gk gg 9:=fo
def ju:CC:=gq Tryz.f132 [3] {} _
def iZ:List aj:=[.tmp 4]
def Bt:FO kA [3] ju iZ 19:=fo
def fY:CC:=gq Tryz.f32 [] {} _
def fR:List aj:=[.tmp 4, .tmp 5]
def wO:FO gj [] fY fR 54:=fo
def vp:CC:=gq Tryz.f76 [] {} _
def uJ:List aj:=[.tmp 4]
def M1:FO xk [] vp uJ 17:=fo
def nl:CC:=gq Tryz.f77 [] {} _
def mP:List aj:=[.tmp 2]
def Fq:FO oO [] nl mP 6:=fo
def pj:CC:=gq Tryz.f92 [2,3] {} _
def ox:List aj:=[.tmp 4, .tmp 5]
def GN:FO qZ [2,3] pj ox 43:=fo
def rM:CC:=gq Tryz.f154 [2,3] {} _
def qs:List aj:=[.tmp 4, .tmp 5]
def IX:FO sU [2,3] rM qs 17:=fo
def nt:CC:=gq Tryz.f5 [] {} _
def mU:List aj:=[.tmp 6]
def Fw:FO xj [] nt mU 80:=fo
open Cod (enc dec)
variable {S S0:Nat->Spc}
def NW(h1:S cW=gA)(h2:S mF=vD):ak vh uC S (a2 Span Span) (λ_=>True) (enc (X:=Int)) λx y=>y=vy x.1 x.2:=by
 rintro⟨a,b⟩ -;simp[vh,uC,h1,h2,vy];by_cases h:ug a.b b.b=0
 ·by_cases c:ug a.e b.e=0
  ·simp[h,c]
  ·simp[h,c]
 ·simp[h]
def ZB(l:List Span)(s:Span):Bool:=l.any λz=>decide (z=s)
def K1{l:List Span}{s:Span} :ZB l s=true↔s∈l:=by simp[ZB]
abbrev qdy:Spc:=aG (a2 (List Span) Span) (λ_=>True) (enc (X:=Int)) λx y=>y=fe x.1 λz=>decide (z=x.2)
theorem NZ:ak ju iZ S (a2 (List Span) Span) (λ_=>True) (enc (X:=Int)) λx y=>y=fe x.1 λz=>decide (z=x.2):=by
 rintro⟨l,s⟩ -;simp[ju,iZ,-fB',-eB'];intro _;refine ah (X:=Unit) [0,3] [] l.length (λk _=>∀x∈l.take k,decide (x=s)=false) (λ_=>[]) (λ_=>[]) () (by simp) ?_ ?_
 ·intro k _ hk d;obtain⟨x,c⟩:=eK hk;obtain⟨_,j⟩:=qFG.1 c;simp[hk,c,j,-fB',-eB'];have p:s.b=x.b->s.e=x.e->x=s:=λh1 h2=>by
   obtain⟨a,b⟩:=x;obtain⟨q,b'⟩:=s;simp only at h1 h2;rw[h1,h2]
  refine⟨λh1 h2=>(tE c (by simp[p h1 h2]) d).symm,λh=>?_⟩;rw[av c];intro z hz;rcases qFL.1 hz with hz|hz
  ·have:=d z hz;simpa using this
  ·simp at hz;subst hz;intro e;subst e;exact h rfl rfl
 ·intro _ d;simp at d;simp;exact(jZ (λx c=>by simp[d x c])).symm
abbrev qdD:Spc:=aG (a2 (List Span) Span) (λ_=>True) (enc (X:=Bool)) λx y=>y=ZB x.1 x.2
def HO(h1:S kA=qdy):ak gk gg S (a2 (List Span) Span) (λ_=>True) (enc (X:=Bool)) λx y=>y=ZB x.1 x.2:=by
 rintro⟨l,s⟩ -;simp[gk,gg,h1,-fB',-eB'];exact vJ _ l
def qjl(F l:List Span)(k:Nat):Prop:=∀x,l[k]? =some x->x∈F/\∀y,0<k->l[k -1]? =some y->vy y x< 0
def qc2(F l:List Span):Prop:=∀k,qjl F l k
def WM(x:Qry×List Span)(y:Int):Prop:=∃F,jF x.1.pat F/\(y=0/\qc2 F x.2\/y=18/\ ¬qc2 F x.2)
abbrev Cv:Spc:=aG (a2 Qry (List Span)) (λx=>oc x.1.pat/\x.2.length<=100000) (enc (X:=Int)) WM
theorem Mt(h1:S mE=se)(h2:S xc=od)(h3:S gY=qdD):ak te sv S (a2 Qry (List Span)) (λx=>oc x.1.pat/\x.2.length<=100000) (enc (X:=Int)) WM:=by
 rintro⟨q,l⟩ ⟨hp,hl⟩;have hp:oc q.pat:=hp;have hl:l.length<=100000:=hl;simp[te,sv,h1,h2,h3,hp,-fB',-eB'];intro F t u;refine ah (X:=Unit) [1,5,11] [] l.length (λk _=>∀j,j<k->qjl F l j) (λ_=>[]) (λ_=>[]) () (by simp) ?_ ?_
 ·intro k _ hk r;obtain⟨x,a⟩:=eK hk;obtain⟨_,b⟩:=qFG.1 a;have snoc:qjl F l k->∀j,j<k+1->qjl F l j:=λh j w=>by
   rcases Nat.lt_succ_iff_lt_or_eq.1 w with h1|rfl
   ·exact r j h1
   ·exact h
  have bad:¬qjl F l k->WM (q,l) 18:=λh=>⟨F,t, .inr ⟨rfl,λh2=>h (h2 k)⟩⟩
  have c:ZB F x=false->WM (q,l) 18:=λh=>bad λh2=>by
   have:=K1.2 (h2 x a).1;rw[h]at this;cases this
  rcases qGZ k with rfl|hk0
  ·simp[hk,a,b,h2,h3,-fB',-eB'];exact⟨c,λh z hz=>by rw[a]at hz;cases hz;exact⟨K1.1 h,λ_ h0=>by omega⟩⟩
  ·obtain⟨y,p⟩:=eK (show k -1<l.length by omega);obtain⟨_,s⟩:=qFG.1 p;simp[hk,a,b,h2,h3,hk0,p,s,-fB',-eB'];refine⟨⟨by omega,by omega⟩,by omega,by omega,λhc=>⟨c,λh=>snoc λz hz=>?_⟩,λhc=>bad λh2=>?_⟩
   ·rw[a]at hz;cases hz;exact⟨K1.1 h,λA _ d=>by rw[p]at d;cases d;exact hc⟩
   ·have:=(h2 x a).2 y hk0 p;omega
 ·intro _ r;simp;exact⟨F,t, .inl ⟨rfl,λk=>by
   by_cases h:k<l.length
   ·exact r k h
   ·intro x a;rw[qF0 (by simpa using h)]at a;cases a⟩⟩
def qbe(h1:S oa=uq):ak vp uJ S (a2 Int Int) (λ_=>True) (enc (X:=Bool)) λx y=>y=decide (x.1<x.2):=by
 rintro⟨a,b⟩ -;simp[vp,uJ,h1]
def Bp{l:List Int}(hs:l.Pairwise (· < ·)){i j:Nat}{a b:Int}(h:i<j)(c:l[i]? =some a)(hb:l[j]? =some b):a<b:=by
 obtain⟨h1,rfl⟩:=qFG.1 c;obtain⟨h2,rfl⟩:=qFG.1 hb;exact qGJ.1 hs i j h1 h2 h
abbrev qil:Spc:=aG (a1 Int) (λ_=>True) (enc (X:=Bool)) λ_ y=>y=false
def qqk:ak nl mP S (a1 Int) (λ_=>True) (enc (X:=Bool)) λ_ y=>y=false:=by
 rintro a -;simp[nl,mP]
abbrev qiL:Spc:=aG (a2 Int Int) (λ_=>True) (enc (X:=Bool)) λx y=>y=decide (x.1<x.2)
abbrev qiS:Spc:=aG (a2 (List Int) Int) (λx=>x.1.Pairwise (· < ·)/\x.1.length<=1000000) (kZ (Y:=Int) (Z:=Bool)) λx y=>y.2=decide (x.2∈x.1)
theorem qqC(h1:S xk=qiL)(h2:S oO=qil):ak fY fR S (a2 (List Int) Int) (λx=>x.1.Pairwise (· < ·)/\x.1.length<=1000000) (kZ (Y:=Int) (Z:=Bool)) λx y=>y.2=decide (x.2∈x.1):=by
 rintro⟨l,x⟩ ⟨hs,hl⟩;have hs:l.Pairwise (· < ·):=hs;have hl:l.length<=1000000:=hl;simp[fY,fR,h1,h2,-fB',-eB'];intro E;refine au (X:=Nat×Nat) [0,1,6] [] (λz=>z.1<=z.2/\z.2<=l.length/\(∀k v,k<z.1->l[k]? =some v->v<x)/\∀k v,z.2<=k->l[k]? =some v->x<=v) (λz=>[(7,enc (z.1:Int)),(8,enc (z.2:Int))]) (λ_=>[]) (λz=>z.2 -z.1) (0,l.length) ⟨qF3 _,qFM _,λk v h=>by omega,λk v h h2=>by rw[qF0 h]at h2;cases h2⟩ ?_;rintro⟨i,j⟩ ⟨F,A,s,u⟩;simp only at F A s u;have I:qfI .u64 (IntKind.u64.wrap ((i:Int) +j)) 1=(((i+j) /2:Nat):Int):=by
  rw[InR.wrap (show InR .u64 ((i:Int) +j)from⟨by omega,by omega⟩)];show Int.fdiv _ (2^1)=_;rw[Int.fdiv_eq_ediv_of_nonneg _ (by decide)];omega
 have J:IntKind.i64.wrap (((i:Int) +j) /2)=(((i+j) /2:Nat):Int):=by
  rw[InR.wrap (show InR .i64 (((i:Int) +j) /2)from⟨by omega,by omega⟩)];omega
 by_cases w:i<j
 ·obtain⟨y,b⟩:=eK (show(i+j) /2<l.length by omega);obtain⟨_,p⟩:=qFG.1 b;simp[h1,w,I,-fB',-eB'];rw[J];refine⟨⟨by omega,by omega⟩,by omega,by omega,λa C=>?_⟩;rw[qHZ,b]at C;cases C;refine⟨λh=>⟨⟨by omega,by omega⟩,(i+j) /2+1,j,⟨by omega,A,λk v hk q=>?_,u⟩,⟨by omega,rfl⟩,by omega⟩,λh=>⟨i,(i+j) /2,⟨by omega,by omega,s,λk v hk q=>?_⟩,⟨rfl,rfl⟩,by omega⟩⟩
  ·rcases Nat.lt_or_ge k ((i+j) /2)with h5|h5
   ·have:=Bp hs h5 q b;omega
   ·have:k=(i+j) /2:=by omega
    subst this;rw[b]at q;cases q;exact h
  ·rcases Nat.lt_or_ge ((i+j) /2) k with h5|h5
   ·have:=Bp hs h5 b q;omega
   ·have:k=(i+j) /2:=by omega
    subst this;rw[b]at q;cases q;exact h
 ·have r:j=i:=by omega
  subst r;by_cases t:j<l.length
  ·obtain⟨y,b⟩:=eK t;obtain⟨_,p⟩:=qFG.1 b;have c:(j:Int)<l.length:=by omega
   by_cases d:y=x
   ·simp[h1,h2,c,t,b,p,d,-fB',-eB'];exact qFK (d ▸b)
   ·simp[h1,h2,c,t,b,p,d,-fB',-eB'];intro hm;obtain⟨k,hk⟩:=qF8.1 hm;have:=u j y (qFM _) b;rcases Nat.lt_or_ge k j with h5|h5
    ·have:=s k x h5 hk;omega
    ·rcases Nat.lt_or_eq_of_le h5 with h6|h6
     ·have:=Bp hs h6 b hk;omega
     ·subst h6;rw[b]at hk;cases hk;exact d rfl
  ·have c:¬(j:Int)<l.length:=by omega
   simp[h1,h2,c,t,-fB',-eB'];intro hm;obtain⟨k,hk⟩:=qF8.1 hm;have:=(qFG.1 hk).1;have:=s k x (by omega) hk;omega
end Go.Gv
