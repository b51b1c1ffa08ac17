/- W40 -/
import Derived.Shelf.SortG.Plain
import Derived.Shelf.SortG.SortNone
import Derived.Shelf.SlGeneric
import Derived.Shelf.SlLaysF0
import Derived.Shelf.SlLaysNS
import Derived.Ground.SlsfProg
import Derived.Ground.SlgnProg
import Derived.Test.YtfpmgnnippjblaaGreatDoorProg
import Derived.Shelf.SlIterI.Sorted
import Derived.DataShut
import Derived.Test.YtfpmgnnippjblaaGreatDoorGc24
set_option linter.all false
set_option maxRecDepth 100000
set_option maxHeartbeats 0
open Bool renaming forall_bool → fB', exists_bool → eB'
namespace Go.Gv
section
open Cod (enc dec)
variable {S S0:Nat->Spc}
def qn0(ks:List Pat):Nat:=(ks.flatMap am).length
def Wj:qn0 []=0:=rfl
def PK(k:Pat)(ks:List Pat):qn0 (k::ks)=(am k).length+qn0 ks:=by simp[qn0]
def qcU{p:Pat}(h:p.op≠1):(am p).length=qn0 p.kids:=by rw[aW,if_neg h];rfl
structure qpf where
 leaf:Int
 v:Value
 out:List Span
def fndB:Sn qpf:=⟨[47],λx=>[.v (.int .i64 x.leaf), .own 47 x.v],λx=>[(47, .row x.v bL 2 (x.out.map enc))],λ_=>rfl⟩
@[simp] theorem qy2(x:qpf):fndB.ce x=[.v (.int .i64 x.leaf), .own 47 x.v]:=i' rfl
@[simp] theorem qy1(x:qpf):fndB.hp x=[(47, .row x.v bL 2 (x.out.map enc))]:=i' rfl
def JJ(n:Nat)(x:qpf)(z:Pat×List Int):Prop:=PPat n z.1/\0<=x.leaf/\x.leaf+cK z.1<=100000000/\x.out.length+z.2.length*jA z.1<=100000/\∀a∈z.2,0<=a/\a+200000*cK z.1<=1000000000000000
def Ek(x:qpf)(z:Pat×List Int)(b:qpf)(_:Unit):Prop:=b.leaf=x.leaf+ (am z.1).length/\b.out.length<=x.out.length+z.2.length*jA z.1/\∀s,s∈b.out↔s∈x.out\/ ∃a∈z.2,SrcE z.1 a x.leaf s
abbrev Nz(n:Nat):Spc:=qwv fndB (a2 Pat (List Int)) WM (JJ n) Ek
def Kb{n:Nat}{p:Pat}{l:List Int}{leaf:Int}{v:Value}{out:List Span}{d b:Nat}{P L:D}{H:ab}{K:D->ab->Prop}(k:dec P=some p)(q:dec L=some l)
 (h0:H 0=some (.box b [.v (.int .i64 leaf), .own 47 v])) (j:H 47=some (.row v bL 2 (out.map enc))) (h:JJ n ⟨leaf,v,out⟩ (p,l))
 (r:∀a v' c,Ek ⟨leaf,v,out⟩ (p,l) ⟨a,v',c⟩ ()->K (.tup []) (aj (aj H 47 (some (.row v' bL 2 (c.map enc)))) 0 (some (.box b [.v (.int .i64 a), .own 47 v'])))):(Nz n).pt d [.bptr 0 b 0,P,L] H K:=by
 refine⟨0,b,⟨leaf,v,out⟩,(p,l), [P,L],rfl,?_,h0,?_,by simp[fndB],h,λs y t=>?_⟩;simp_all;simp_all;simp_all
def qou{b:Nat}{leaf:Int}{v:Value}{out:List Span}{q:qpf->Unit->Prop}{H:ab}(h0:H 0=some (.box b [.v (.int .i64 leaf), .own 47 v]))(a:H 47=some (.row v bL 2 (out.map enc)))(c:q ⟨leaf,v,out⟩ ()):TV fndB WM b q (.tup []) H:=
 ⟨⟨leaf,v,out⟩,(), .same _,h0,λp hp=>by simp_all,c⟩
theorem J4(n:Nat)(h1:S mY=D4)(h2:S io=lF)(h3:S lN=qv)(h4:S bH=Nz n):qdA bw bu S fndB (a2 Pat (List Int)) WM (JJ (n+1)) Ek:=by
 rintro b ⟨leaf,v,out⟩ ⟨p,l⟩ ⟨hp,J,K,hlen,ha⟩;simp only at hp J K hlen ha;have hk:∀k∈p.kids,PPat n k:=λk=>hp.kid
 have hs:∀k∈p.kids,eO (aU k):=λk h=>zO (v:=ay) k (hk k h).2
 have hn:=(dr hp.2).2.2;unfold lJ at hn;rw[decide_eq_true_eq]at hn;have N:p.op≠1/\p.op≠4/\p.op≠6-> ↑p.kids.length<=(9223372036854775807:Int)->vc S bw (wC bu λr H'=>TV fndB WM b (Ek ⟨leaf,v,out⟩ (p,l)) r H') (dI (.bptr 0 b 0::(a2 Pat (List Int)).view (p,l))) (aj (gT (fndB.hp ⟨leaf,v,out⟩) dm) 0 (some (.box b (fndB.ce ⟨leaf,v,out⟩)))):=by
  intro e w;simp[bw,bu,e];intro _;rw[cP]at K;have hcnt:out.length<=100000:=by omega
  refine ah (X:=qpf) [0,17] [] p.kids.length (λk x=>0<=x.leaf/\x.leaf+bB (p.kids.drop k)<=100000000/\x.out.length<=out.length/\x.leaf+qn0 (p.kids.drop k)=leaf+qn0 p.kids/\∀s,s∈x.out↔s∈out) (λx=>[]) (λx=>[(0, .box b [.v (.int .i64 x.leaf), .own 47 x.v]),(47, .row x.v bL 2 (x.out.map enc))]) ⟨leaf,v,out⟩ ⟨J,by grind,qGb _,by simp,by simp⟩ ?_ ?_
  ·rintro k ⟨d,v',q⟩ w ⟨b0,b1,b2,C,F⟩;simp only at b0 b1 b2 C F;obtain⟨x,A⟩:=aR w;have L:=aP A;obtain⟨_,I⟩:=qF4.1 A;rw[bE A,bB]at b1;rw[bE A,PK]at C;have U:=hk x L;simp[w,A,I];intro b1';rw[h4];refine Kb (p:=x) (l:=[]) (leaf:=d) (v:=v') (out:=q) ?_ ?_ ?_ ?_ ⟨U,b0,by show d+ (cK x:Int)<=_;omega,by simp;omega,by simp⟩ ?_
   ·simp
   ·simp
   ·simp
   ·simp
   rintro c W j ⟨c1,c2,c3⟩;simp only at c1 c2 c3;have q4:=iS x;simp;refine⟨⟨c,W,j⟩,⟨by show 0<=c;omega,by show c+_<=_;omega,?_,by show c+_=_;omega,λs=>?_⟩, .inl ⟨rfl,rfl⟩, .inl ⟨rfl,rfl⟩⟩
   ·show j.length<=out.length;simp at c2;omega
   ·show s∈j↔s∈out;rw[c3 s,F s];simp
  ·rintro⟨d,v',q⟩ ⟨b0,b1,b2,C,F⟩;simp only at b0 b1 b2 C F;simp;refine qou (leaf:=d) (v:=v') (out:=q) (by simp) (by simp) ⟨?_,?_,λs=>?_⟩
   ·rw[qGU]at C;rw[Wj]at C;show d=leaf+ ((am p).length:Int);rw[qcU e.1];omega
   ·show q.length<=out.length+_;omega
   ·rw[F s];exact⟨.inl,λh=>h.elim id λ⟨a,_,h⟩=>absurd h (qir e _ _ _)⟩
 have w: ↑p.kids.length<=(9223372036854775807:Int):=by
  have:∀ks:List Pat,ks.length<=bB ks:=by
   intro ks
   induction ks with
   |nil=>simp
   | cons k ks ih=>
     rw[bB,qGT];have:1<=cK k:=by rw[cP];omega
     omega
  have:=this p.kids;rw[cP]at K;omega
 rcases qT (dr hp.2).1 with⟨ho,t⟩|⟨ho,t⟩|⟨ho,E,ks,t⟩|⟨ho,E,t⟩
 ·rw[kB,if_pos t,Nat.mul_one]at hlen;simp[bw,bu,ho];intro _;refine ah (X:=Value×List Span) [0,29] [] l.length (λk x=>x.2=out++ (l.take k).map λa=>⟨leaf,a⟩) (λx=>[]) (λx=>[(0, .box b [.v (.int .i64 leaf), .own 47 x.1]),(47, .row x.1 bL 2 (x.2.map enc))]) (v,out) (by simp) ?_ ?_
  ·rintro k ⟨v,m⟩ w hm;simp only at hm;obtain⟨x,A⟩:=aR w;obtain⟨_,I⟩:=qF4.1 A;have hml:m.length=out.length+k:=by rw[hm];simp;omega
   simp[w,A,I];refine⟨by omega,by omega,λv=> .inl (.inl ?_)⟩;rw[qG7,hm];simp[A]
  ·rintro⟨v',m⟩ hm;simp only at hm;rw[qGc]at hm;simp;have:1<=cK p:=by rw[cP];omega
   refine⟨by simp only[InR];omega,qou (leaf:=leaf+1) (v:=v') (out:=m) (by simp) (by simp) ⟨?_,?_,λs=>?_⟩⟩
   ·rw[aW,if_pos ho];rfl
   ·show m.length<=out.length+l.length*jA p;rw[hm,kB,if_pos t];simp
   ·show s∈m↔s∈out\/ ∃a∈l,SrcE p a leaf s;rw[hm,qGi,qGd];refine or_congr_right (exists_congr λa=>and_congr_right λ_=>?_);rw[qiq ho];exact eq_comm
 grind
 ·by_cases Z:p.op=4
  ·rw[cP]at K;have ha':∀a∈l,0<=a/\a+200000*bB p.kids<=1000000000000000:=λa h=>by have:=ha a h;rw[cP]at this;omega
   rw[kB,if_neg (by rw[t];simp),if_neg (by omega)]at hlen;simp[bw,bu,Z];intro _;refine Yt (X:=qpf×List Int) [0,61] [] p.kids.length (λk x=>(0<=x.1.leaf/\x.1.leaf+bB (p.kids.drop k)<=100000000)/\x.1.out.length+x.2.length*lY (p.kids.drop k)<=out.length+l.length*lY p.kids/\(∀a∈x.2,0<=a/\a+200000*bB (p.kids.drop k)<=1000000000000000)/\x.1.leaf+qn0 (p.kids.drop k)=leaf+qn0 p.kids/\∀s,(s∈x.1.out\/ ∃a∈x.2,rJ (p.kids.drop k) a x.1.leaf s) ↔ (s∈out\/ ∃a∈l,rJ p.kids a leaf s))
    (λx=>[(2,enc x.2)]) (λx=>[(0, .box b [.v (.int .i64 x.1.leaf), .own 47 x.1.v]),(47, .row x.1.v bL 2 (x.1.out.map enc))]) (⟨leaf,v,out⟩,l) (by simp) (by simp) (by omega) (by simp) (by simp) ⟨⟨J,by simp;omega⟩,by simp,by simpa using ha',by simp,by simp⟩ (by simp) (by simp) ?_ ?_
   ·rintro k ⟨⟨d,v',q⟩,O⟩ w ⟨⟨b0,b1⟩,b2,C,F,Y⟩;simp only at b0 b1 b2 C F Y;obtain⟨x,A⟩:=aR w;have L:=aP A;obtain⟨_,I⟩:=qF4.1 A;rw[bE A,bB]at b1 C;rw[bE A,lY,Nat.mul_add]at b2;rw[bE A,PK]at F;have U:=hk x L;have Q:=hs x L;simp[w,A,I];intro b1';rw[h4];refine Kb (p:=x) (l:=O) (leaf:=d) (v:=v') (out:=q) ?_ ?_ ?_ ?_ ⟨U,b0,by show d+ (cK x:Int)<=_;omega,by show q.length+O.length*jA x<=_;omega,λa h=>by have:=C a h;show 0<=a/\a+200000* (cK x:Int)<=_;omega⟩ ?_
    ·simp
    ·simp
    ·simp
    ·simp
    rintro c W j ⟨c1,c2,c3⟩;simp only at c1 c2 c3;have q4:=iS x;simp[h1,h2,U.2,iA];unfold eO at Q;have hlx:O.length<=100000:=by
     have:=Nat.mul_le_mul_left O.length (Qq x);omega
    have hb:∀s,(s∈j\/ ∃a∈O,(aU x).1=(aU x).2/\rJ (p.kids.drop (k+1)) (a+ (aU x).1) c s) ↔ (s∈out\/ ∃a∈l,rJ p.kids a leaf s):=by
     intro s;rw[<-Y s,c3 s,bE A,or_assoc,c1];refine or_congr_right ⟨?_,?_⟩
     ·rintro(⟨a,u,h⟩|⟨a,u,h⟩)
      ·exact⟨a,u,by rw[rJ];exact .inl h⟩
      ·exact⟨a,u,by rw[rJ];exact .inr h⟩
     ·rintro⟨a,u,h⟩;rw[rJ]at h;rcases h with h|h
      ·exact .inl ⟨a,u,h⟩
      ·exact .inr ⟨a,u,h⟩
    refine⟨λhne=>⟨⟨by simp,Q.1,by show(aU x).1<=_;omega,by simp⟩,⟨c,W,j⟩, [],⟨⟨by show 0<=c;omega,by show c+_<=_;omega⟩,?_,by simp,by show c+_=_;omega,λs=>?_⟩,rfl, .inl ⟨rfl,rfl⟩, .inl ⟨rfl,rfl⟩⟩,λhe=>⟨⟨hlx,Q.1,by show(aU x).1<=_;omega,λa h=>by have:=C a h;omega⟩,⟨c,W,j⟩,O.map (· + (aU x).1),⟨⟨by show 0<=c;omega,by show c+_<=_;omega⟩,?_,λa h=>?_,by show c+_=_;omega,λs=>?_⟩,rfl, .inl ⟨rfl,rfl⟩, .inl ⟨rfl,rfl⟩⟩⟩
    ·simp;show j.length<=_;omega
    ·rw[<-hb s];refine or_congr_right ⟨λ⟨a,h,_⟩=>by simp at h,λ⟨a,_,h,_⟩=>absurd h hne⟩
    ·rw[qGE];show j.length+_<=_;omega
    ·obtain⟨a0,h0,rfl⟩:=qGd.1 h;have:=C a0 h0;have h3:1<=cK x:=by rw[cP];omega
     show 0<=a0+ (aU x).1/\a0+ (aU x).1+_<=_;omega
    ·rw[<-hb s];refine or_congr_right ⟨?_,?_⟩
     ·rintro⟨a,h,h'⟩;obtain⟨a0,h0,rfl⟩:=qGd.1 h;exact⟨a0,h0,he,h'⟩
     ·rintro⟨a,h,_,h'⟩;exact⟨a+ (aU x).1,qGd.2 ⟨a,h,rfl⟩,h'⟩
   ·rintro⟨⟨d,v',q⟩,O⟩ ⟨⟨b0,b1⟩,b2,C,F,Y⟩;simp only at b0 b1 b2 C F Y;rw[qGU]at b2 F Y;rw[Wj]at F;rw[lY,Nat.mul_zero]at b2;simp;refine qou (leaf:=d) (v:=v') (out:=q) (by simp) (by simp) ⟨?_,?_,λs=>?_⟩
    ·show d=leaf+ ((am p).length:Int);rw[qcU (by omega)];omega
    ·show q.length<=out.length+l.length*jA p;rw[kB,if_neg (by rw[t];simp),if_neg (by omega)];omega
    ·show s∈q↔s∈out\/ ∃a∈l,SrcE p a leaf s;have:(∃a∈l,SrcE p a leaf s) ↔ ∃a∈l,rJ p.kids a leaf s:=exists_congr λa=>and_congr_right λ_=>qip Z _ _ _
     rw[this,<-Y s];exact⟨.inl,λh=>h.elim id λ⟨a,_,h⟩=>by rw[rJ]at h;exact h.elim⟩
  ·exact N (by omega) w
 ·have U:=hk E (by rw[t];simp);have Q:=hs E (by rw[t];simp);have hn:=hn ho;have e6:(⟨6,p.cond,p.lab,p.reg,p.mn,p.mx,p.kids⟩:Pat)=p:=by rw[<-ho];exact qoz p
  have M:jA p=(max 1 p.mn).toNat*jA E:=by rw[kB,t,if_neg (by simp),if_pos ho,lY,lY,qHq]
  have hpn:cK p=cK E+1:=by rw[cP,t,bB,bB]
  have ht:Xt (p,l):=⟨ho,hp.2,by show l.length*jA p<=_;omega,λa h=>by have:=ha a h;omega⟩
  simp[bw,bu,ho,h3,e6,ht];refine⟨by rw[t];simp,λa haa=>?_⟩;rw[t]at haa;cases haa;rintro y ⟨c1,c2⟩;simp only at c1 c2;have c2:=c2 E t;rw[h4];refine Kb (p:=E) (l:=y) (leaf:=leaf) (v:=v) (out:=out) ?_ ?_ ?_ ?_ ⟨U,J,by show leaf+ (cK E:Int)<=_;omega,?_,λz hz=>?_⟩ ?_
  ·simp
  ·simp
  ·simp
  ·simp
  ·show out.length+y.length*jA E<=100000;rw[M,<-Nat.mul_assoc]at hlen;have:=qGw (jA E) c1;omega
  ·obtain⟨a,u,i,h0,h1,h2,rfl⟩:=(c2 z).1 hz;have h1:i<p.mn:=h1;have:=ha a u;unfold eO at Q;have hm:=pp h0 (show i<=16 by omega) Q.1 Q.2.1;show 0<=a+i* (aU E).1/\a+i* (aU E).1+200000* (cK E:Int)<=_;omega
  ·rintro c W j ⟨d1,d2,d3⟩;simp only at d1 d2 d3;refine qou (leaf:=c) (v:=W) (out:=j) (by simp) (by simp) ⟨?_,?_,λs=>?_⟩
   ·show c=leaf+ ((am p).length:Int);rw[qcU (by omega),t,PK,Wj];omega
   ·show j.length<=out.length+l.length*jA p;rw[M,<-Nat.mul_assoc];have:=qGw (jA E) c1;omega
   ·show s∈j↔s∈out\/ ∃a∈l,SrcE p a leaf s;rw[d3 s];refine or_congr_right ⟨?_,?_⟩
    ·rintro⟨z,hz,M⟩;obtain⟨a,u,i,h0,h1,h2,rfl⟩:=(c2 z).1 hz;exact⟨a,u,(qni ho t _ _ _).2 ⟨i,h0,h1,h2,M⟩⟩
    ·rintro⟨a,u,h⟩;obtain⟨i,h0,h1,h2,h3⟩:=(qni ho t _ _ _).1 h;exact⟨_,(c2 _).2 ⟨a,u,i,h0,h1,h2,rfl⟩,h3⟩
end
section
open Cod (enc dec)
variable {S:Nat->Spc}
def K1(p:Int)(t:uz):Bool:=decide (t.b<=p/\p<t.e)
abbrev BF:Spc:=ax (a2 Corpus Int) (λ_=>True) enc λx y=>y=fL x.1.texts (K1 x.2)
def ME:aq rH qM S (a2 Corpus Int) (λ_=>True) enc λx y=>y=fL x.1.texts (K1 x.2):=by
 rintro⟨c,p⟩ -;simp[rH,qM];intro hlen;refine ah (X:=Unit) [1,8] [] c.texts.length (λk _=>∀y∈c.texts.take k,K1 p y=false) (λ_=>[]) (λ_=>[]) () (by simp) ?_ ?_
 ·intro k _ hk d;obtain⟨t,a⟩:=aR hk;obtain⟨_,b⟩:=qF4.1 a;simp[a,hk,b];refine⟨λh1=>⟨λh2=>?_,λh2=>?_⟩,λh1=>?_⟩;grind [pu,K1]
  all_goals
   rw[au a];grind [K1]
 simp_all [ig]
def qpi:uz:=⟨⟨#[]⟩,0,0, []⟩
def Ki(c:Corpus)(p:Int):uz×Bool:=match c.texts.find? (K1 p)with
 |some t=>(t,true)
 |none=>(qpi,false)
abbrev H9:Spc:=ax (a2 Corpus Int) (λ_=>True) (iA (Y:=uz) (Z:=Bool)) λx y=>y=Ki x.1 x.2
theorem qe2{α:Type}{p:α->Bool} :∀{l:List α} {k:Nat} {x:α},l[k]? =some x->p x=true->(∀y∈l.take k,p y=false)->l.find? p=some x
 | [],k,x,h,_,_=>by grind
 |a::l,0,x,h,h1,_=>by grind
 | a::l,k+1,x,h,h1,h2=>by
   have b:p a=false:=h2 a (by simp);rw[List.find?_cons_of_neg (by grind)];exact qe2 (k:=k) (by grind) h1 λy c=>h2 y (by grind)
def Uj:aq yj xt S (a2 Corpus Int) (λ_=>True) (iA (Y:=uz) (Z:=Bool)) λx y=>y=Ki x.1 x.2:=by
 rintro⟨c,p⟩ -;simp[yj,xt];intro b hlen;refine ah (X:=Unit) [1,4,9] [4] c.texts.length (λk _=>∀y∈c.texts.take k,K1 p y=false) (λ_=>[]) (λ_=>[]) () (by simp) ?_ ?_
 ·intro k _ hk h;obtain⟨t,a⟩:=aR hk;obtain⟨_,d⟩:=qF4.1 a;simp[a,hk,d];refine⟨λh1=>⟨λh2=>?_,λh2=>?_⟩,λh1=>?_⟩;grind [FrzTo,Ki,qe2,K1]
  all_goals
   rw[au a];grind [K1]
 ·intro _ h;simp at h;simp;refine⟨qpi,?_,?_⟩
  ·rw[dJ,dJ,dJ,dJ];exact⟨.same _, .same _, .same _, .nil _, .same _⟩
  grind [Ki]
def sQ(a b:Span):Int:=if Sc a.b b.b≠0 then Sc a.b b.b else Sc a.e b.e
def qlw(a b:Span):0<=sQ a b↔ ¬B6 a b:=by
 grind [sQ,Sc,B6]
end
section
open Cod (enc dec)
variable {S S0:Nat->Spc}
abbrev nq:Spc:=ax (a2 Span Span) (λ_=>True) (enc (X:=Int)) λx y=>y=sQ x.1 x.2
def FD(h1:S kA=ou)(h2:S uy=Aa):aq mI mj S (a2 Span Span) (λ_=>True) (enc (X:=Int)) λx y=>y=sQ x.1 x.2:=by
 rintro⟨a,b⟩ -;simp[mI,mj,h1,h2,sQ];by_cases h:Sc a.b b.b=0
 ·by_cases c:Sc a.e b.e=0
  ·simp[h,c]
  ·simp[h,c]
 ·simp[h]
def qfA(x:D×Unit)(l:List Span):Prop:=x.1= .clo fC []/\l.length<=100000
abbrev s_SortFunc_Source:Spc:=qti (aD a0) qfA qdF bL 2
abbrev s_visitA:Spc:=qwv fndB (a2 Pat (List Int)) WM (λx z=>∃n,JJ n x z) Ek
theorem qbZ{n:Nat}{p:Pat}{l:List Int}{leaf:Int}{v:Value}{out:List Span}{id d b:Nat}{P L:D}{H:ab}{K:D->ab->Prop}(hid:id≠47)(s:dec P=some p)(t:dec L=some l)
 (h0:H id=some (.box b [.v (.int .i64 leaf), .own 47 v])) (k:H 47=some (.row v bL 2 (out.map enc))) (h:JJ n ⟨leaf,v,out⟩ (p,l))
 (u:∀a v' c,Ek ⟨leaf,v,out⟩ (p,l) ⟨a,v',c⟩ ()->K (.tup []) (aj (aj H 47 (some (.row v' bL 2 (c.map enc)))) id (some (.box b [.v (.int .i64 a), .own 47 v'])))):s_visitA.pt d [.bptr id b 0,P,L] H K:=by
 refine⟨id,b,⟨leaf,v,out⟩,(p,l), [P,L],rfl,?_,h0,?_,by simpa [fndB]using hid,⟨n,h⟩,λr y j=>?_⟩
 ·rw[qsC,s,t];rfl
 ·intro q j;simp at j;subst j;exact k
 ·exact u r.leaf r.v r.out j
def OD:∀(ks:List Pat) (n:Int),(1<=n\/ks≠ []/\0<=n)->(∀k∈ks,1<=fO k)->1<=fg ks n
 | [],n,h,_=>by rw[fg];rcases h with h|h;exact h;exact absurd rfl h.1
 | k::ks,n,h,hk=>by
   rw[fg];have:=hk k (by simp);exact OD ks _ (.inl (by rcases h with h|h<;>omega)) λx a=>hk x (by simp[a])
def qf4{v:B->Bool}(p:Pat):eX v p=true->1<=fO p:=by
 induction p using fJ with|_ p a=>?_
 intro h;have hn:=(dr h).2.2;unfold lJ at hn;rw[decide_eq_true_eq]at hn;rw[oo,CB];by_cases h0:p.kids=[]
 ·rw[if_pos h0];omega
 ·rw[if_neg h0];have:=OD p.kids 0 (.inr ⟨h0,qHb _⟩) λk hk=>a k hk (ph h hk)
  generalize fg p.kids 0=n at this;split
  ·rename_i h6;have hn:=hn h6;split
   ·have:=Int.mul_le_mul this (show(1:Int)<=p.mn+1 by omega) (by omega) (by omega);omega
   ·split
    ·exact this
    ·have:=Int.mul_le_mul this (show(1:Int)<=p.mx by omega) (by omega) (by omega);omega
  ·exact this
abbrev Ia:Spc:=FW
abbrev qw:Spc:=ax (a1 Pat) gX (enc (X:=List Span)) eV
theorem J7(h1:S ux=Ia)(h2:S bH=s_visitA)(h3:S gL=s_SortFunc_Source)(h4:S eR=zg):
 aq ql pa S (a1 Pat) gX (enc (X:=List Span)) eV:=by
 rintro p ⟨q,t⟩;simp[ql,pa,h1,-fB'];have c:¬(eX ay p=true/\fO p<=256)->Fin enc (eV p) (D.v (Value.slice none 0 0)) λx=>none:=λh=>aL [] (by simp) (by unfold eV;rw[if_neg h])
 rcases hb:eX ay p
 ·simp;exact c (by rw[hb];simp)
 have k:=qf4 p hb;simp;refine⟨λ_=>⟨λh=>c (by omega),λd=>?_⟩,λh=>by omega⟩;have u:∀y,SrcsOf p y->eV p y:=λy w=>by unfold eV;rw[if_pos ⟨hb,d⟩];exact w
 clear c;refine lE (X:=Nat) [1] [] [] [] (λ_=>True) (λb=>[(4, .bptr 14 b 0)]) (λb=>[(14, .box b [.v (.int .i64 0), .own 47 (.slice none 0 0)]),(47, .row (.slice none 0 0) bL 2 [])]) [14,47] (λ_=>rfl) (by decide) ?_ ?_
 ·simp;refineλb=>⟨b, .same _, .inl ?_,by simp[isNilRow]⟩
  simp;exact .nilown 47
 ·rintro b -;simp[h2];refine qbZ (n:=dL p) (p:=p) (l:=[0]) (leaf:=0) (v:= .slice none 0 0) (out:=[]) (by decide) ?_ ?_ ?_ ?_ ⟨⟨qGb _,hb⟩,qHb _,by show(0:Int) + (cK p:Int)<=_;omega,by simp;omega,λa h=>by simp at h;subst h;show 0<=(0:Int)/\(0:Int) +200000* (cK p:Int)<=_;omega⟩ ?_
  ·simp
  ·simp
  ·simp
  ·simp
  rintro leaf v out ⟨c1,c2,c3⟩;simp only at c1 c2 c3;simp at c2;simp[h3,h4];have A:qfA (.clo fC [],()) out:=⟨rfl,by omega⟩
  refine⟨A,λr j=>⟨by have:=j.1;omega,λv'=>aL (wF r) (fq bL (by simp)) (u _ ⟨qoO j.2.2,λs=>?_⟩)⟩⟩;rw[qa0,j.2.1 s,c3 s];simp
end
section
open Cod (enc dec)
open Go.Proofs Go.Sort Go.Shelf Go.Lib Go.RowKit
variable {dq:Prop}
section
variable {P:Program}{ρ:Ren}
theorem YF{C:Nat}(L:SlLaysN.n53 P ρ)(hf:ρ.f 53=C)(ef:dH P C):Tri dq P C s_Sort_int.pt:=by
 subst hf;have hev:∀x:Int,enc x=D.v (.int .i64 x):=λ_=>rfl
 intro O tp w vs ds H d K hO' htl p hlen E hA;obtain⟨id,v,l,ds',x,rfl,hd,hid,hl5,hK⟩:=hA;have hds:ds'=[]:=by
  match ds',hd with
  | [],h=>rfl
  |a::r,h=>cases h
 subst hds
 match vs,hlen,E with
 | [v0],_,E=>
 have e0:v0=v:=by
  have:=E 0 v0 _ rfl rfl;cases this;rfl
 subst e0;refine⟨ef,?_⟩;obtain⟨xs,⟨hxl,hx⟩,hkn,S⟩:=p.ok id _ hid;rcases hx with⟨rfl,h0⟩|⟨A,cap,cur,rfl,_,U,hcap,hcapm,hsz,J⟩
 ·have hl0:l=[]:=by grind
  subst hl0;refine(AnyG.slices_Sort_int_none L none 0 w).mono ?_;rintro e w' ⟨rfl,rfl⟩;have hH:aj H id (some (.row (.slice none 0 0) bC 1 (([]:List Int).map enc)))=H:=by
   grind [aj]
  refine⟨_,_,_,tp,rfl,hK [] (by simp),λb h=>h,λb h=> .inl h,htl.1, .refl _ _ _,λb h=> .inl (by grind),by grind, .tup [] [] rfl (λk x c h=>by simp)⟩
 ·have hll:(l.map (enc (X:=Int))).length=l.length:=by simp
  rw[hll]at hcap hxl J ⊢;have hval:∀(j:Nat) (y v':Value),xs[j]? =some y->(bq (l.map enc))[j]? =some (.v v')->y=v':=λj y v' h1 h2=>((S j y _ h1 h2).2).inv_v
  have Z:∀l:List Int,bq (l.map enc)=(l.map (Value.int .i64)).map D.v:=λl=>by
   unfold bq;rw[List.flatMap_map,List.map_map]
   induction l with
   |nil=>rfl
   |cons a l ih=>rw[qG0,qGG,ih];rfl
  have hxs:xs=l.map (Value.int .i64):=by
   apply qGN;intro j;by_cases hj:j<l.length
   ·have e1:xs[j]? =some xs[j]:=qF6 (by omega);have e2:(l.map (Value.int .i64))[j]? =some (.int .i64 l[j]):=by simp[hj]
    rw[e1,e2];congr 1;refine hval j _ _ e1 ?_;rw[Z,qGn,e2];rfl
   ·rw[qGu (by omega),qGu (by simp;omega)]
  have hcur:∀j,j<l.length->cur[j]? =(l.map (Value.int .i64))[j]?:=λj hj=>by
   rw[<-hxs,<-J,qGo,if_pos (by omega),qGx]
  have hgs:A<w.heap.size:=(qGg.1 U).1;have hH:Holds (Value.int .i64) w A 0 l.toArray:=by
   intro j hj;have hj':j<l.length:=by simpa using hj
   refine⟨?_,IY U⟩;rw[Qt U,qGS,hcur j hj',getElem!_pos _ j hj];simp[hj']
  have M:=AnyG.slices_Sort_int L A 0 cap l w hH hgs (by omega);refine M.mono ?_;rintro e w' ⟨rfl,n,os,I⟩;have hmem:∀x,x∈l.mergeSort (λx y=>decide (x<=y)) ↔x∈l:=λx=>List.mem_mergeSort
  have q:(l.mergeSort λx y=>decide (x<=y)).length=l.length:=by simp
  generalize hl':(l.mergeSort λx y=>decide (x<=y))=l' at I hmem q;have W:∀b,b<w.heap.size->b≠A->w'.heap[b]? =w.heap[b]?:=λb hb hne=>by
   rw[I];exact SZ (w:=Sort.ahead w n) hb hne
  have hthis:w'.heap[A]? =some (.cells (putCells (Value.int .i64) 0 l'.toArray cur) bC (0,0)):=by
   rw[I];exact ZH (w:=Sort.ahead w n) U
  have hws:w.heap.size<=w'.heap.size:=by
   rw[I];simp[grow,putRow,mapBlock,Sort.ahead]
  have Y:w'.os=w.os/\w'.tape=w.tape/\w'.output=w.output/\w.drawn<=w'.drawn:=by
   rw[I];exact⟨rfl,rfl,rfl,Nat.le_add_right _ _⟩
  clear I M;have hbo:(Res.row (.slice (some ⟨A,0,none⟩) l.length cap) bC 1 (l.map (enc (X:=Int)))).blk=some A:=rfl;have t:H id=some (.row (.slice (some ⟨A,0,none⟩) l.length cap) bC 1 (l.map enc)):=by rw[hid,hll]
  have N:bG H A:=⟨id,_,t,hbo⟩
  have htp:∀b,tp b->b≠A:=λb hb e=>(p.out id _ A t hbo).2 (e ▸hb)
  have F:∀b,tp b->TapeStep w w' b:=λb hb=> .same (W b (htl.1 b hb) (htp b hb))
  have hK':=hK l' ⟨q,hmem⟩;rw[hll]at hK';generalize hH2:aj H id (some (.row (.slice (some ⟨A,0,none⟩) l.length cap) bC 1 (l'.map enc)))=H2 at hK';have Q:∀b,bG H2 b->bG H b:=λb ⟨i,r,h1,h2⟩=>by
   rw[<-hH2]at h1;simp only[aj]at h1;split at h1
   ·cases h1;cases h2;exact N
   ·exact⟨i,r,h1,h2⟩
  have hmove:∀y c,R tp (be O tp H w) w y c->R tp (be O tp H2 w') w' y c:=λy c hr=>hr.mono (λ_ h=>h) (λb hb=>⟨⟨qGl hb.1 hws,hb.2.1,hb.2.2.1,λh=>hb.2.2.2 (Q b h)⟩,W b hb.1 (λe=>hb.2.2.2 (e ▸N))⟩) F
  have u:∀i r,H2 i=some r->(i=id/\r= .row (.slice (some ⟨A,0,none⟩) l.length cap) bC 1 (l'.map enc))\/(i≠id/\H i=some r):=λi r h=>by
   rw[<-hH2]at h;simp only[aj]at h;split at h
   ·rename_i e;cases h;exact .inl ⟨e,rfl⟩
   ·rename_i e;exact .inr ⟨e,h⟩
  refine⟨_,_,H2,tp,rfl,hK',λb h=>h,λb h=> .inl h,λb hb=>qGl (htl.1 b hb) hws,⟨Y.1,Y.2.1,Y.2.2.1,hws,λb hb ho ht=>W b hb (λe=>ho (e ▸N)),F,λ_=>Y.2.2.2⟩,λb h=> .inl (Q b h),⟨?_,?_,?_⟩, .tup [] [] rfl (λk x c h=>by simp at h)⟩
  ·intro i j r s b h1 h2 h3 h4;rcases u i r h1 with⟨rfl,rfl⟩|⟨n1,k1⟩
   ·rcases u j s h2 with⟨rfl,rfl⟩|⟨n2,k2⟩
    ·rfl
    ·exact p.dis _ j _ s b t k2 h3 h4
   ·rcases u j s h2 with⟨rfl,rfl⟩|⟨n2,k2⟩
    ·exact p.dis i _ r _ b k1 t h3 h4
    ·exact p.dis i j r s b k1 k2 h3 h4
  ·intro i r b h1 h2;rcases u i r h1 with⟨rfl,rfl⟩|⟨n1,k1⟩
   ·exact p.out _ _ b t h2
   ·exact p.out i r b k1 h2
  ·intro i r h1;rcases u i r h1 with⟨rfl,rfl⟩|⟨n1,k1⟩
   ·have hps:(putCells (Value.int .i64) 0 l'.toArray cur).size=cur.size:=by simp[putCells]
    refine⟨l'.map (Value.int .i64),⟨by simp, .inr ⟨A,cap,_,by simp[q],qGr _,hthis,by simp;omega,hcapm,by rw[hps,hsz],?_⟩⟩,λd hd=>?_,λj y c h1 h2=>?_⟩
    ·simp only[qGE,q];apply qGN;intro j;rw[qGo];by_cases hj:j<l.length
     ·have hjc:j<cur.size:=by omega
      have hjf:j<l'.toArray.size:=by simp[q];exact hj
      have hjl:j<l'.length:=by omega
      rw[if_pos (by omega),qGx];simp only[putCells,Array.getElem?_mapIdx,qGY hjc,qHJ,qGr,qGS,hjf,and_self,if_true,Nat.sub_zero];rw[getElem!_pos _ j hjf];simp[hjl]
     ·rw[if_neg (by omega),qGu (by simp;omega)]
    ·obtain⟨z,_,rfl⟩:=qGd.1 hd;exact⟨Cod.kn z,Cod.wid z⟩
    ·rw[Z,qGn,h1]at h2;cases h2;obtain⟨z,_,rfl⟩:=qGd.1 (qF7 h1);exact⟨rfl, .v _ rfl (λs h=>by cases h)⟩
   ·have hne:∀b,r.blk=some b->b≠A:=λb hb e=>n1 (p.dis i id r _ A k1 t (e ▸hb) hbo)
    exact(p.ok i r k1).conv hmove (λb hb=>W b ((p.ok i r k1).lt hb) (hne b hb))
end
end
end Go.Gv
namespace Go.Proofs
open Go.Shelf
def Tryz.sortSource_ren:Go.Shelf.Ren:=⟨λ|6=>100|15=>168|14=>167|28=>232|29=>233|20=>224|21=>225|22=>226|23=>227|24=>228|25=>229|26=>230|27=>231|46=>285|47=>286|48=>287|49=>288|50=>289|57=>312|n=>n,λ|22=>55|24=>84|25=>99|3=>3|39=>159|0=>0|53=>243|55=>245|4=>4|46=>237|45=>236|50=>86|5=>5|9=>9|66=>277|70=>281|76=>306|77=>163|n=>n,λ|n=>n⟩
theorem Tryz.sortSource:Go.Proofs.SlLaysF0.n6 Tryz.prog Tryz.sortSource_ren:={
 mixed:=by kernel_rfl
 f6:=⟨Tryz.f100.name,by decide,Tryz.func100.trans (congrArg some (by kernel_rfl))⟩
 f14:=⟨Tryz.f167.name,by decide,Tryz.func167.trans (congrArg some (by kernel_rfl))⟩
 f15:=Tryz.func168.trans (congrArg some (by kernel_rfl))
 f20:=⟨Tryz.f224.name,by decide,Tryz.func224.trans (congrArg some (by kernel_rfl))⟩
 f21:=⟨Tryz.f225.name,by decide,Tryz.func225.trans (congrArg some (by kernel_rfl))⟩
 f22:=⟨Tryz.f226.name,by decide,Tryz.func226.trans (congrArg some (by kernel_rfl))⟩
 f23:=⟨Tryz.f227.name,by decide,Tryz.func227.trans (congrArg some (by kernel_rfl))⟩
 f24:=⟨Tryz.f228.name,by decide,Tryz.func228.trans (congrArg some (by kernel_rfl))⟩
 f25:=⟨Tryz.f229.name,by decide,Tryz.func229.trans (congrArg some (by kernel_rfl))⟩
 f26:=⟨Tryz.f230.name,by decide,Tryz.func230.trans (congrArg some (by kernel_rfl))⟩
 f27:=⟨Tryz.f231.name,by decide,Tryz.func231.trans (congrArg some (by kernel_rfl))⟩
 f28:=Tryz.func232.trans (congrArg some (by kernel_rfl))
 f29:=Tryz.func233.trans (congrArg some (by kernel_rfl))
 f46:=⟨Tryz.f285.name,by decide,Tryz.func285.trans (congrArg some (by kernel_rfl))⟩
 f47:=Tryz.func286.trans (congrArg some (by kernel_rfl))
 f48:=Tryz.func287.trans (congrArg some (by kernel_rfl))
 f49:=⟨Tryz.f288.name,by decide,Tryz.func288.trans (congrArg some (by kernel_rfl))⟩
 f50:=⟨Tryz.f289.name,by decide,Tryz.func289.trans (congrArg some (by kernel_rfl))⟩
 f57:=⟨Tryz.f312.name,by decide,Tryz.func312.trans (congrArg some (by kernel_rfl))⟩
 t0:=Tryz.underlying0
 a0:=Tryz.isAgg0
 z0:=Tryz.sizeOf0
 v0:=Tryz.zeroValue0
 t3:=Tryz.underlying3
 a3:=Tryz.isAgg3
 z3:=Tryz.sizeOf3
 v3:=Tryz.zeroValue3
 t4:=Tryz.underlying4
 a4:=Tryz.isAgg4
 z4:=Tryz.sizeOf4
 v4:=Tryz.zeroValue4
 t5:=Tryz.underlying5
 a5:=Tryz.isAgg5
 z5:=Tryz.sizeOf5
 v5:=Tryz.zeroValue5
 t9:=Tryz.underlying9
 a9:=Tryz.isAgg9
 z9:=Tryz.sizeOf9
 v9:=Tryz.zeroValue9
 t22:=Tryz.underlying55
 a22:=Tryz.isAgg55
 z22:=Tryz.sizeOf55
 v22:=Tryz.zeroValue55
 t25:=Tryz.underlying99
 a25:=Tryz.isAgg99
 z25:=Tryz.sizeOf99
 v25:=Tryz.zeroValue99
 t39:=Tryz.underlying159
 a39:=Tryz.isAgg159
 z39:=Tryz.sizeOf159
 v39:=Tryz.zeroValue159
 t45:=Tryz.underlying236
 a45:=Tryz.isAgg236
 z45:=Tryz.sizeOf236
 v45:=Tryz.zeroValue236
 t46:=Tryz.underlying237
 a46:=Tryz.isAgg237
 z46:=Tryz.sizeOf237
 v46:=Tryz.zeroValue237
 t50:=Tryz.underlying86
 a50:=Tryz.isAgg86
 z50:=Tryz.sizeOf86
 v50:=Tryz.zeroValue86
 t53:=Tryz.underlying243
 a53:=Tryz.isAgg243
 z53:=Tryz.sizeOf243
 v53:=Tryz.zeroValue243
 t55:=Tryz.underlying245
 a55:=Tryz.isAgg245
 z55:=Tryz.sizeOf245
 v55:=Tryz.zeroValue245
 t66:=Tryz.underlying277
 a66:=Tryz.isAgg277
 z66:=Tryz.sizeOf277
 v66:=Tryz.zeroValue277
 t70:=Tryz.underlying281
 a70:=Tryz.isAgg281
 z70:=Tryz.sizeOf281
 v70:=Tryz.zeroValue281
 t76:=Tryz.underlying306
 a76:=Tryz.isAgg306
 z76:=Tryz.sizeOf306
 v76:=Tryz.zeroValue306
 t77:=Tryz.underlying163
 a77:=Tryz.isAgg163
 z77:=Tryz.sizeOf163
 v77:=Tryz.zeroValue163 }
def Tryz.sortInt_ren:Go.Shelf.Ren:=⟨λ|53=>108|64=>168|63=>173|78=>232|79=>233|70=>235|71=>236|72=>237|73=>238|74=>239|75=>240|59=>105|76=>241|77=>242|88=>290|89=>286|90=>287|91=>291|92=>292|68=>171|96=>313|n=>n,λ|22=>22|23=>3|3=>3|51=>159|0=>0|67=>243|69=>245|4=>4|61=>237|60=>236|44=>86|5=>5|9=>9|75=>277|79=>281|83=>306|84=>163|n=>n,λ|n=>n⟩
theorem Tryz.sortInt:Go.Proofs.SlLaysN.n53 Tryz.prog Tryz.sortInt_ren:={
 mixed:=by kernel_rfl
 f53:=⟨Tryz.f108.name,by decide,Tryz.func108.trans (congrArg some (by kernel_rfl))⟩
 f59:=⟨Tryz.f105.name,by decide,Tryz.func105.trans (congrArg some (by kernel_rfl))⟩
 f63:=⟨Tryz.f173.name,by decide,Tryz.func173.trans (congrArg some (by kernel_rfl))⟩
 f64:=Tryz.func168.trans (congrArg some (by kernel_rfl))
 f68:=⟨Tryz.f171.name,by decide,Tryz.func171.trans (congrArg some (by kernel_rfl))⟩
 f70:=⟨Tryz.f235.name,by decide,Tryz.func235.trans (congrArg some (by kernel_rfl))⟩
 f71:=⟨Tryz.f236.name,by decide,Tryz.func236.trans (congrArg some (by kernel_rfl))⟩
 f72:=⟨Tryz.f237.name,by decide,Tryz.func237.trans (congrArg some (by kernel_rfl))⟩
 f73:=⟨Tryz.f238.name,by decide,Tryz.func238.trans (congrArg some (by kernel_rfl))⟩
 f74:=⟨Tryz.f239.name,by decide,Tryz.func239.trans (congrArg some (by kernel_rfl))⟩
 f75:=⟨Tryz.f240.name,by decide,Tryz.func240.trans (congrArg some (by kernel_rfl))⟩
 f76:=⟨Tryz.f241.name,by decide,Tryz.func241.trans (congrArg some (by kernel_rfl))⟩
 f77:=⟨Tryz.f242.name,by decide,Tryz.func242.trans (congrArg some (by kernel_rfl))⟩
 f78:=Tryz.func232.trans (congrArg some (by kernel_rfl))
 f79:=Tryz.func233.trans (congrArg some (by kernel_rfl))
 f88:=⟨Tryz.f290.name,by decide,Tryz.func290.trans (congrArg some (by kernel_rfl))⟩
 f89:=Tryz.func286.trans (congrArg some (by kernel_rfl))
 f90:=Tryz.func287.trans (congrArg some (by kernel_rfl))
 f91:=⟨Tryz.f291.name,by decide,Tryz.func291.trans (congrArg some (by kernel_rfl))⟩
 f92:=⟨Tryz.f292.name,by decide,Tryz.func292.trans (congrArg some (by kernel_rfl))⟩
 f96:=⟨Tryz.f313.name,by decide,Tryz.func313.trans (congrArg some (by kernel_rfl))⟩
 t0:=Tryz.underlying0
 a0:=Tryz.isAgg0
 z0:=Tryz.sizeOf0
 v0:=Tryz.zeroValue0
 t3:=Tryz.underlying3
 a3:=Tryz.isAgg3
 z3:=Tryz.sizeOf3
 v3:=Tryz.zeroValue3
 t4:=Tryz.underlying4
 a4:=Tryz.isAgg4
 z4:=Tryz.sizeOf4
 v4:=Tryz.zeroValue4
 t5:=Tryz.underlying5
 a5:=Tryz.isAgg5
 z5:=Tryz.sizeOf5
 v5:=Tryz.zeroValue5
 t9:=Tryz.underlying9
 a9:=Tryz.isAgg9
 z9:=Tryz.sizeOf9
 v9:=Tryz.zeroValue9
 t22:=Tryz.underlying22
 a22:=Tryz.isAgg22
 z22:=Tryz.sizeOf22
 v22:=Tryz.zeroValue22
 t23:=Tryz.underlying3
 a23:=Tryz.isAgg3
 z23:=Tryz.sizeOf3
 v23:=Tryz.zeroValue3
 t44:=Tryz.underlying86
 a44:=Tryz.isAgg86
 z44:=Tryz.sizeOf86
 v44:=Tryz.zeroValue86
 t51:=Tryz.underlying159
 a51:=Tryz.isAgg159
 z51:=Tryz.sizeOf159
 v51:=Tryz.zeroValue159
 t60:=Tryz.underlying236
 a60:=Tryz.isAgg236
 z60:=Tryz.sizeOf236
 v60:=Tryz.zeroValue236
 t61:=Tryz.underlying237
 a61:=Tryz.isAgg237
 z61:=Tryz.sizeOf237
 v61:=Tryz.zeroValue237
 t67:=Tryz.underlying243
 a67:=Tryz.isAgg243
 z67:=Tryz.sizeOf243
 v67:=Tryz.zeroValue243
 t69:=Tryz.underlying245
 a69:=Tryz.isAgg245
 z69:=Tryz.sizeOf245
 v69:=Tryz.zeroValue245
 t75:=Tryz.underlying277
 a75:=Tryz.isAgg277
 z75:=Tryz.sizeOf277
 v75:=Tryz.zeroValue277
 t79:=Tryz.underlying281
 a79:=Tryz.isAgg281
 z79:=Tryz.sizeOf281
 v79:=Tryz.zeroValue281
 t83:=Tryz.underlying306
 a83:=Tryz.isAgg306
 z83:=Tryz.sizeOf306
 v83:=Tryz.zeroValue306
 t84:=Tryz.underlying163
 a84:=Tryz.isAgg163
 z84:=Tryz.sizeOf163
 v84:=Tryz.zeroValue163 }
end Go.Proofs
namespace Go.Gv
section
open Go.Proofs
def tU:CC:=gq Tryz.f48 [2,3] {} _
def tr:List ai:=[.tmp 4]
def M1:FO vJ [2,3] tU tr 17:=fo
def rB:CC:=gq Tryz.f18 [2] {} _
def qG:List ai:=[.tmp 4]
def KJ:FO nn [2] rB qG 37:=fo
def wm:CC:=gq Tryz.f16 [3,4] { bx:=[99,100] } _
def vm:List ai:=[.tmp 6, .tmp 7]
def Pr:FO rZ [3,4] wm vm 101:=fo
def Bp:CC:=gq Tryz.f21 [2,3] {} _
def Au:List ai:=[.tmp 4, .tmp 5]
def VW:FO Ds [2,3] Bp Au 50:=fo
def ua:CC:=gq Tryz.f15 [3] {} _
def tA:List ai:=[.tmp 4]
def M7:FO vO [3] ua tA 36:=fo
def ws:CC:=gq Tryz.f20 [] {} _
def vp:List ai:=[.tmp 0]
def Pv:FO ye [] ws vp 60:=fo
def fU:CC:=gq Tryz.f49 [3] {} _
def fP:List ai:=[.tmp 4]
def wD:FO gM [3] fU fP 9:=fo
def jc:CC:=gq Tryz.f115 [3] {} _
def iG:List ai:=[.tmp 4]
def AC:FO jO [3] jc iG 19:=fo
def fG:CC:=gq Tryz.f42 [] {} _
def fA:List ai:=[.tmp 4, .tmp 5]
def vx:FO fT [] fG fA 54:=fo
def ub:CC:=gq Tryz.f105 [] {} _
def tB:List ai:=[.tmp 4]
def M8:FO vQ [] ub tB 17:=fo
def mD:CC:=gq Tryz.f106 [] {} _
def me:List ai:=[.tmp 2]
def Ey:FO nF [] mD me 6:=fo
def nO:CC:=gq Tryz.f9 [2,3] {} _
def nB:List ai:=[.tmp 4, .tmp 5]
def Ga:FO pP [2,3] nO nB 43:=fo
def qm:CC:=gq Tryz.f13 [2,3] {} _
def pb:List ai:=[.tmp 4, .tmp 5]
def IC:FO rh [2,3] qm pb 17:=fo
open Cod (enc dec)
variable {S S0:Nat->Spc}
def N6(h1:S kA=ou)(h2:S uy=Aa):aq tU tr S (a2 Span Span) (λ_=>True) (enc (X:=Int)) λx y=>y=sQ x.1 x.2:=by
 rintro⟨a,b⟩ -;simp[tU,tr,h1,h2,sQ];grind
def BM(l:List Span)(s:Span):Bool:=l.any λz=>decide (z=s)
def zz{l:List Span}{s:Span} :BM l s=true↔s∈l:=by simp[BM]
abbrev qed:Spc:=ax (a2 (List Span) Span) (λ_=>True) (enc (X:=Int)) λx y=>y=fL x.1 λz=>decide (z=x.2)
def N9:aq jc iG S (a2 (List Span) Span) (λ_=>True) (enc (X:=Int)) λx y=>y=fL x.1 λz=>decide (z=x.2):=by
 rintro⟨l,s⟩ -;simp[jc,iG,-fB',-eB'];intro _;refine ah (X:=Unit) [0,3] [] l.length (λk _=>∀x∈l.take k,decide (x=s)=false) (λ_=>[]) (λ_=>[]) () (by simp) ?_ ?_
 ·intro k _ hk j;obtain⟨x,c⟩:=aM hk;obtain⟨_,d⟩:=qF4.1 c;simp[hk,c,d,-fB',-eB'];have p:s.b=x.b->s.e=x.e->x=s:=λh1 h2=>by
   obtain⟨a,b⟩:=x;obtain⟨q,b'⟩:=s;grind
  refine⟨λh1 h2=>(pu c (by grind) j).symm,λh=>?_⟩;rw[au c];grind
 simp_all [ig]
abbrev qei:Spc:=ax (a2 (List Span) Span) (λ_=>True) (enc (X:=Bool)) λx y=>y=BM x.1 x.2
def HD(h1:S jO=qed):aq fU fP S (a2 (List Span) Span) (λ_=>True) (enc (X:=Bool)) λx y=>y=BM x.1 x.2:=by
 rintro⟨l,s⟩ -;simp[fU,fP,h1,-fB',-eB'];exact AO _ l
def We(F l:List Span)(k:Nat):Prop:=∀x,l[k]? =some x->x∈F/\∀y,0<k->l[k -1]? =some y->sQ y x< 0
def qdL(F l:List Span):Prop:=∀k,We F l k
def By(x:Qry×List Span)(y:Int):Prop:=∃F,eV x.1.pat F/\(y=0/\qdL F x.2\/y=18/\ ¬qdL F x.2)
abbrev ta:Spc:=ax (a2 Qry (List Span)) (λx=>gX x.1.pat/\x.2.length<=100000) (enc (X:=Int)) By
theorem Mz(h1:S lO=qw)(h2:S vJ=nq)(h3:S gM=qei):aq rB qG S (a2 Qry (List Span)) (λx=>gX x.1.pat/\x.2.length<=100000) (enc (X:=Int)) By:=by
 rintro⟨q,l⟩ ⟨hp,hl⟩;have hp:gX q.pat:=hp;have hl:l.length<=100000:=hl;simp[rB,qG,h1,h2,h3,hp,-fB',-eB'];intro F s u;refine ah (X:=Unit) [1,5,11] [] l.length (λk _=>∀j,j<k->We F l j) (λ_=>[]) (λ_=>[]) () (by simp) ?_ ?_
 ·intro k _ hk t;obtain⟨x,a⟩:=aM hk;obtain⟨_,b⟩:=qF4.1 a;have snoc:We F l k->∀j,j<k+1->We F l j:=λh j w=>by
   grind
  have bad:¬We F l k->By (q,l) 18:=λh=>⟨F,s, .inr ⟨rfl,λh2=>h (h2 k)⟩⟩
  have c:BM F x=false->By (q,l) 18:=λh=>bad λh2=>by
   have:=zz.2 (h2 x a).1;grind
  rcases qHa k with rfl|hk0
  ·simp[hk,a,b,h2,h3,-fB',-eB'];exact⟨c,λh z hz=>by rw[a]at hz;cases hz;exact⟨zz.1 h,λ_ h0=>by omega⟩⟩
  ·obtain⟨y,p⟩:=aM (show k -1<l.length by omega);obtain⟨_,r⟩:=qF4.1 p;simp[hk,a,b,h2,h3,hk0,p,r,-fB',-eB'];refine⟨⟨by omega,by omega⟩,by omega,by omega,λhc=>⟨c,λh=>snoc λz hz=>?_⟩,λhc=>bad λh2=>?_⟩
   ·rw[a]at hz;cases hz;exact⟨zz.1 h,λA _ d=>by rw[p]at d;cases d;exact hc⟩
   ·have:=(h2 x a).2 y hk0 p;omega
 ·intro _ t;simp;exact⟨F,s, .inl ⟨rfl,λk=>by
   by_cases h:k<l.length
   ·exact t k h
   ·intro x a;rw[qGu (by simpa using h)]at a;cases a⟩⟩
def qbX(h1:S np=tb):aq ub tB S (a2 Int Int) (λ_=>True) (enc (X:=Bool)) λx y=>y=decide (x.1<x.2):=by
 rintro⟨a,b⟩ -;simp[ub,tB,h1]
def AA{l:List Int}(hs:l.Pairwise (· < ·)){i j:Nat}{a b:Int}(h:i<j)(c:l[i]? =some a)(hb:l[j]? =some b):a<b:=by
 grind [List.pairwise_iff_getElem]
abbrev qiK:Spc:=ax (a1 Int) (λ_=>True) (enc (X:=Bool)) λ_ y=>y=false
def qqg:aq mD me S (a1 Int) (λ_=>True) (enc (X:=Bool)) λ_ y=>y=false:=by
 rintro a -;simp[mD,me]
abbrev qi5:Spc:=ax (a2 Int Int) (λ_=>True) (enc (X:=Bool)) λx y=>y=decide (x.1<x.2)
abbrev qjb:Spc:=ax (a2 (List Int) Int) (λx=>x.1.Pairwise (· < ·)/\x.1.length<=1000000) (iA (Y:=Int) (Z:=Bool)) λx y=>y.2=decide (x.2∈x.1)
theorem qqo(h1:S vQ=qi5)(h2:S nF=qiK):aq fG fA S (a2 (List Int) Int) (λx=>x.1.Pairwise (· < ·)/\x.1.length<=1000000) (iA (Y:=Int) (Z:=Bool)) λx y=>y.2=decide (x.2∈x.1):=by
 rintro⟨l,x⟩ ⟨hs,hl⟩;have hs:l.Pairwise (· < ·):=hs;have hl:l.length<=1000000:=hl;simp[fG,fA,h1,h2,-fB',-eB'];intro E;refine aA (X:=Nat×Nat) [0,1,6] [] (λz=>z.1<=z.2/\z.2<=l.length/\(∀k v,k<z.1->l[k]? =some v->v<x)/\∀k v,z.2<=k->l[k]? =some v->x<=v) (λz=>[(7,enc (z.1:Int)),(8,enc (z.2:Int))]) (λ_=>[]) (λz=>z.2 -z.1) (0,l.length) ⟨qGr _,qGb _,λk v h=>by omega,λk v h h2=>by grind⟩ ?_;rintro⟨i,j⟩ ⟨F,A,s,u⟩;simp only at F A s u;have I:qcn .u64 (IntKind.u64.wrap ((i:Int) +j)) 1=(((i+j) /2:Nat):Int):=by
  rw[InR.wrap (show InR .u64 ((i:Int) +j)from⟨by omega,by omega⟩)];show Int.fdiv _ (2^1)=_;grind
 have J:IntKind.i64.wrap (((i:Int) +j) /2)=(((i+j) /2:Nat):Int):=by
  grind [InR.wrap,InR]
 by_cases w:i<j
 ·obtain⟨y,b⟩:=aM (show(i+j) /2<l.length by omega);obtain⟨_,p⟩:=qF4.1 b;simp[h1,w,I,-fB',-eB'];rw[J];refine⟨⟨by omega,by omega⟩,by omega,by omega,λa C=>?_⟩;rw[qHQ,b]at C;cases C;refine⟨λh=>⟨⟨by omega,by omega⟩,(i+j) /2+1,j,⟨by omega,A,λk v hk q=>?_,u⟩,⟨by omega,rfl⟩,by omega⟩,λh=>⟨i,(i+j) /2,⟨by omega,by omega,s,λk v hk q=>?_⟩,⟨rfl,rfl⟩,by omega⟩⟩
  ·rcases Nat.lt_or_ge k ((i+j) /2)with h5|h5
   ·have:=AA hs h5 q b;omega
   ·have:k=(i+j) /2:=by omega
    subst this;rw[b]at q;cases q;exact h
  ·rcases Nat.lt_or_ge ((i+j) /2) k with h5|h5
   ·have:=AA hs h5 b q;omega
   ·have:k=(i+j) /2:=by omega
    subst this;rw[b]at q;cases q;exact h
 ·have r:j=i:=by omega
  subst r;by_cases t:j<l.length
  ·obtain⟨y,b⟩:=aM t;obtain⟨_,p⟩:=qF4.1 b;have c:(j:Int)<l.length:=by omega
   by_cases d:y=x
   ·simp[h1,h2,c,t,b,p,d,-fB',-eB'];exact qF7 (d ▸b)
   ·simp[h1,h2,c,t,b,p,d,-fB',-eB'];intro hm;obtain⟨k,hk⟩:=qGp.1 hm;have:=u j y (qGb _) b;rcases Nat.lt_or_ge k j with h5|h5
    ·have:=s k x h5 hk;omega
    ·rcases Nat.lt_or_eq_of_le h5 with h6|h6
     ·have:=AA hs h6 b hk;omega
     ·subst h6;rw[b]at hk;cases hk;exact d rfl
  ·have c:¬(j:Int)<l.length:=by omega
   simp[h1,h2,c,t,-fB',-eB'];intro hm;obtain⟨k,hk⟩:=qGp.1 hm;have:=(qF4.1 hk).1;have:=s k x (by omega) hk;omega
end
section
variable {dq:Prop}
open Cod (enc dec)
open Go.Proofs Go.Shelf Go.RowKit Go.Maps Go.Sort
def qrw(g:Nat):PT:=λd ds H K=>∃id x es,ds=[.own id x]/\H id=some (.mrow x es)/\∀b,K (.clo g [.bptr d b 0]) (aj H d (some (.box b [.own id x])))
def qgR(g:Nat):qq (qrw g):=λd ds H K a hk ⟨id,x,es,h1,h2,h3⟩=>⟨id,x,es,h1,h2,λb=>hk _ _ (h3 b)⟩
def qeQ(g:Nat):Spc:= .gen _ (qgR g)
def qad(g d:Nat)(id:Nat)(x:Value)(r:Option Res)(H:ab)(K:D->ab->Prop):Prop:=match r with
 |some (.mrow a es)=>a=x/\∀b,K (.clo g [.bptr d b 0]) (aj H d (some (.box b [.own id a])))
 | _=>False
@[simp] theorem qyE(g d id:Nat)(x a:Value)(es:List D)(H:ab)(K:D->ab->Prop):qad g d id x (some (.mrow a es)) H K=(a=x/\∀b,K (.clo g [.bptr d b 0]) (aj H d (some (.box b [.own id a])))):=i' rfl
@[congr] theorem quT{g d id:Nat}{x:Value}{r r':Option Res}{H:ab}{K:D->ab->Prop}(h:r=r'):qad g d id x r H K=qad g d id x r' H K:=by grind
@[simp] theorem quU(g d i:Nat)(x:Value)(H:ab)(K:D->ab->Prop):(qeQ g).pt d [.own i x] H K=qad g d i x (H i) H K:=by
 refine propext ⟨λh=>?_,λh=>?_⟩
 ·obtain⟨id,a,es,h1,h2,h3⟩:=h;cases h1;rw[h2];exact⟨rfl,h3⟩
 ·unfold qad at h;split at h
  ·rename_i a es b;obtain⟨rfl,h⟩:=h;exact⟨i,a,es,rfl,b,h⟩
  ·exact h.elim
def qis(g:Nat):PT:=λd ds H K=>∃(i b j:Nat) (x:Value) (ks:List Int),ds=[.clo g [.bptr i b 0]]/\H i=some (.box b [.own j x])/\H j=some (.mrow x (jn ks))/\ks.Nodup/\ks.length<=1000000/\(∀k∈ks,0<=k/\k<=1000000)/\
 ∀v,K (.own d v) (aj H d (some (.row v bC 1 ((ks.mergeSort (λx y=>decide (x<=y))).map enc))))
def Y2(g:Nat):qq (qis g):=λd ds H K c hk ⟨i,b,j,x,ks,h1,h2,h3,h4,h5,h6,a⟩=>⟨i,b,j,x,ks,h1,h2,h3,h4,h5,h6,λv=>hk _ _ (a v)⟩
def U0(g:Nat):Spc:= .gen _ (Y2 g)
section
variable {P:Program}{ρ:Ren}
theorem qib{fk:Nat}(L:SlLaysZI.n7 P ρ)(u:ρ.f 7=fk)(A:dH P fk):Tri dq P fk (qeQ (ρ.f 10)).pt:=by
 subst u;intro O tp w vs ds H d K hO l j hlen a C;obtain⟨id,x,es,rfl,hid,E⟩:=C
 match vs,hlen,a with
 | [r],_,a=>
 have F:r=x:=by
  have:=a 0 r _ rfl rfl;cases this;rfl
 subst F;obtain⟨q,s,clock,rfl,h1,h2,h3⟩:=j.ok id _ hid;refine⟨A,((callsIn_wide (n:=6)).1 (AnyZI.keys_in L Fence.wide 6 trivial rfl (some q) w)).mono ?_⟩;rintro e w' ⟨rfl,rfl⟩;have I:StW ⟨O,tp,w,bG H,0, [],dq⟩ tp H w:=⟨hO,λ_ h=>h,λ_ h=> .inl h,⟨l.1,l.2⟩, .refl _ _ _,λ_ h=> .inl h,j⟩
 obtain⟨hm,mv⟩:=pi (t:=d) (ob:= .cells #[.map (some q)] (ρ.t 23)) (r':= .box w.heap.size [.own id (.map (some q))]) I (λb hb=>by cases hb;rfl) (λmv=>⟨#[.map (some q)],ρ.t 23,heap_alloc_new _ _,rfl,λk y c p hc=>by
  match k with
  | 0=>simp at p hc;subst p;subst hc;exact⟨rfl, .own _ _ rfl⟩
  |k+1=>grind⟩)
 refine⟨_,_,_,tp,rfl,E w.heap.size,λ_ h=>h,λ_ h=> .inl h,hm.tpl.1,hm.step,hm.loc,hm.sat,?_⟩;exact .clo _ [.pointer (some ⟨w.heap.size,0,none⟩)] [.bptr d w.heap.size 0] rfl (λk y c p hc=>by
  match k with
  | 0=>simp at p hc;subst p;subst hc;exact .bptr _ _ _
  |k+1=>grind)
theorem qgk{k:TypeId}(hk:P.underlying k=some (.int .i64)){w:World}{t clock:Nat}{a:Array MapEntry}{ks:List Int}(hb:w.heap[t]? =some (.map a clock))(d:fI a clock)(hl:a.size=ks.length)(hn:ks.Nodup)(hlen:ks.length<=1000000)
 (u:∀k∈ks,0<=k/\k<=1000000) (he:∀(i:Nat) (e:MapEntry) (k:Int),a[i]? =some e->ks[i]? =some k->e.key= .int .i64 k):
 ∃q:DataW Unit,w.ownsMap P k (λ_=>some (.nil, [])) t a.size q/\(intKeys q).Perm ks/\Maps.size q=ks.length:=by
 have c:a.toList.map (·.key)=ks.map (Value.int .i64):=by
  refine qGN λi=>?_
  grind
 have r:∀x∈a.toList,∃n∈ks,x.key= .int .i64 n/\WideElems.rd (H:=Unit) P k (λ_=>some (.nil, [])) x=some (.int .i64 n, .nil):=λx s=>by
  have:x.key∈ks.map (Value.int .i64):=by grind
  obtain⟨n,j,b⟩:=qGd.1 this;have y:=u n j;refine⟨n,j,b.symm,?_⟩;have A:(Lit.int .i64 n).wf=true:=by
   exact(Lit.wf_int_iff .i64 n).2 ⟨by have:IntKind.i64.min= -9223372036854775808:=rfl;omega,by simp;omega⟩
  simp[WideElems.rd,<-b,keyOf,hk,mapKey,A]
 have F:WideElems.Fit (H:=Unit) P k (λ_=>some (.nil, [])) a clock:=⟨by rw[hl];exact qGA hlen (by decide),⟨d.1,d.2,by grind⟩,λx s=>by
  grind⟩
 have l:=World.ownsMap_of_fit (R:=λ_=>some (.nil, [])) hb F (λ_ _ _ h=>h);refine⟨_,l,?_,?_⟩
 ·show(((a.toList.map (WideElems.rg P k _)).foldr DataW.insert []).map λp=>intOf p.1).Perm ks;refine((WideShapes.sorted_perm _).map _).trans ?_;rw[List.map_map];have:a.toList.map ((λp:Lit×DataW Unit=>intOf p.1) ∘WideElems.rg P k λ_=>some (.nil, []))=ks:=by
   have h2:a.toList.map ((λp:Lit×DataW Unit=>intOf p.1) ∘WideElems.rg P k λ_=>some (.nil, []))=(a.toList.map (·.key)).map λv=>match v with| .int _ n=>n|_=>0:=by
    rw[List.map_map];refine qGZ λx s=>?_
    obtain⟨n,_,b,h⟩:=r x s;simp only[Function.comp];rw[WideElems.rg_of h,b];rfl
   rw[h2,c,List.map_map];exact List.map_id'' (λ_=>rfl) ks
  grind
 ·show((a.toList.map (WideElems.rg P k _)).foldr DataW.insert []).length=_;rw[DataW.length_sorted,qGE,qGV,hl]
theorem qcc{fs fk:Nat}{C:Ren}(hdq:¬dq)(L:SlLaysZI.n6 P ρ)(L7:SlLaysZI.n7 P C)(hf:ρ.f 6=fs)(ef:dH P fs)(hty:ρ.t 26=bC)(Y:∀m,AnyZI.SortsIn P ρ Fence.wide m)
 (e9:∀args w,(callFunc (ρ.f 9) args).run P w= .ok (.enter (ρ.f 9) args) w) (e10:∀args w,(callFunc (C.f 10) args).run P w= .ok (.enter (C.f 10) args) w):Tri dq P fs (U0 (C.f 10)).pt:=by
 subst hf;intro O tp w vs ds H d K hO S u hlen J hA;obtain⟨i,b,j,x,ks,rfl,hi,hj,hn,hl,hr,hK⟩:=hA
 match vs,hlen,J with
 | [v0],_,J=>
 have hv:=J 0 v0 _ rfl rfl;obtain⟨Z,el0,hb1,hb2,hb3⟩:=u.ok i _ hi;obtain⟨mb,ents,clock,rfl,h1,h2,h3⟩:=u.ok j _ hj;have hx0:Z= #[.map (some mb)]:=by
  obtain⟨⟨y,hy⟩⟩:Nonempty {y//Z= #[y]} :=by
   rcases Z with⟨l⟩
   match l,hb2 with
   | [y],_=>exact⟨⟨y,rfl⟩⟩
  subst hy;have:=(hb3 0 y _ rfl rfl).2;cases this;rfl
 subst hx0;have hcell:w.cell? ⟨b,0,none⟩=some (.map (some mb)):=by grind [World.cell?]
 have hbl:b<w.heap.size:=(qGg.1 hb1).1;have u26:=L7.t26;have hsz:(jn ks).length=ks.length:=by simp[jn]
 obtain⟨D0,hown,N,hms⟩:=qgk (P:=P) (k:=C.t 26) u26 h1 h2 (by rw[h3.1,hsz]) hn hl hr (λi e k he hk=>by
  have hc:(jn ks)[i]? =some (.tup [enc k, .v (.bool true)]):=by simp[jn,hk]
  have:=h3.2 i e _ he hc;have:=this.ent.1;exact this.inv_v)
 have hseq:=AnyZI.keys_gives (ρ:=C) { L7 with } Fence.wide 3 trivial rfl (by omega) b mb _ D0 w hbl hcell hown;have hv0:v0= .func (.func (C.f 10)) #[] #[.pointer (some ⟨b,0,none⟩)]:=by
  cases hv with
  | clo _ ys _ hyl hyc=>
    match ys,hyl with
    | [y],_=>
    have:=hyc 0 y _ rfl rfl;cases this;rfl
 subst hv0;have cS:=AnyZI.sorted_in L Fence.wide 6 trivial trivial trivial trivial rfl (by omega) (Y _) e9 (C.f 10) #[.pointer (some ⟨b,0,none⟩)] trivial e10 _ (Maps.size D0) (by rw[hms];exact qGA hl (by decide)) (by rw[hms];omega) w hseq;refine⟨ef,((callsIn_wide (n:=6)).1 cS).mono ?_⟩;rintro e w' ⟨v,ss,rfl,hS,E,hnil,A⟩;have hss:ss.mergeSort (λx y=>decide (x<=y))=ks.mergeSort (λx y=>decide (x<=y)):=mergeSort_of_perm_i (hS.trans N);have hsl:ss.length=ks.length:=(hS.trans N).length_eq;rw[hss]at E;generalize hso:(ks.mergeSort λx y=>decide (x<=y))=U at E;have W:U.length=ks.length:=by rw[<-hso];simp
 have F:∀b',b'< w.heap.size->w'.heap[b']? =w.heap[b']?:=A.block
 let Hn:=aj H d (some (.row v bC 1 (U.map enc)))
 have M:∀b',(Res.row v bC 1 (U.map (enc (X:=Int)))).blk=some b'->w.heap.size<=b':=λb' p=>by
  rcases E.2 with⟨rfl,_⟩|⟨g,cap,cur,rfl,hg,_⟩
  ·cases p
  ·cases p;exact hg
 have Q:∀b',bG Hn b'->bG H b'\/w.heap.size<=b':=λb' p=>by
  rcases Te p with⟨r,h1,h2⟩|⟨i,r,_,h1,h2⟩
  ·cases h1;exact .inr (M b' h2)
  ·exact .inl ⟨i,r,h1,h2⟩
 have move:∀y c,R tp (be O tp H w) w y c->R tp (be O tp Hn w') w' y c:=λy c hr=>hr.mono (λ_ h=>h) (λb' p=>⟨⟨qGl p.1 A.size,p.2.1,p.2.2.1,λho=>by
  rcases Q b' ho with h|h
  ·exact p.2.2.2 h
  ·exact absurd p.1 (by omega)⟩,F b' p.1⟩) (λb' p=> .same (F b' (S.1 b' p)))
 have I:∀i r,Hn i=some r->(i=d/\r= .row v bC 1 (U.map enc))\/(i≠d/\H i=some r):=λi r h=>by
  simp only[Hn,aj]at h;split at h
  ·rename_i e;cases h;exact .inl ⟨e,rfl⟩
  ·rename_i e;exact .inr ⟨e,h⟩
 have hone:v.oneCell'=true:=by
  rcases E.2 with⟨rfl,_⟩|⟨g,cap,cur,rfl,_⟩ <;>rfl
 refine⟨v, .own d v,Hn,tp,rfl,by have:=hK v;rw[hso]at this;exact this,λ_ h=>h,λ_ h=> .inl h,λb' p=>qGl (S.1 b' p) A.size,
  ⟨A.os,A.tape,A.output,A.size,λb' p _ _=>F b' p,λb' p=> .same (F b' (S.1 b' p)),λq=>absurd q hdq⟩,Q,⟨?_,?_,?_⟩, .own _ _ hone⟩
 ·intro i j r s b' h1 h2 h3 h4;rcases I i r h1 with⟨rfl,rfl⟩|⟨n1,k1⟩
  ·rcases I j s h2 with⟨rfl,rfl⟩|⟨n2,k2⟩
   ·rfl
   ·have:=(u.ok j s k2).lt h4;have:=M b' h3;omega
  ·rcases I j s h2 with⟨rfl,rfl⟩|⟨n2,k2⟩
   ·have:=(u.ok i r k1).lt h3;have:=M b' h4;omega
   ·exact u.dis i j r s b' k1 k2 h3 h4
 ·intro i r b' h1 h2;rcases I i r h1 with⟨rfl,rfl⟩|⟨n1,k1⟩
  ·have:=M b' h2;exact⟨λh=>by have:=hO b' h;omega,λh=>by have:=S.1 b' h;omega⟩
  ·exact u.out i r b' k1 h2
 ·intro i r h1;rcases I i r h1 with⟨rfl,rfl⟩|⟨n1,k1⟩
  ·refine⟨U.map encZ,⟨by simp,?_⟩,λd hd=>?_,λk y c hy hc=>?_⟩
   ·have:=E.2;rw[hty]at this;rcases this with⟨h,h0⟩|⟨g,cap,cur,h,_,a1,a2,a3,a4,a5⟩
    ·exact .inl ⟨h,by rw[qGE,W,<-hsl];exact h0⟩
    ·exact .inr ⟨g,cap,cur,by rw[h];simp;omega,qGr _,a1,by simp;omega,a3,a4,by simpa [W,hsl]using a5⟩
   ·obtain⟨z,_,rfl⟩:=qGd.1 hd;exact⟨Cod.kn z,Cod.wid z⟩
   ·have hfl:bq (U.map (enc (X:=Int)))=(U.map encZ).map D.v:=by
     unfold bq;rw[List.flatMap_map,List.map_map];generalize U=l
     induction l with
     |nil=>rfl
     |cons a l ih=>rw[qG0,qGG,ih];rfl
    rw[hfl,qGn,hy]at hc;cases hc;obtain⟨z,_,rfl⟩:=qGd.1 (qF7 hy);exact⟨rfl, .v _ rfl (λs h=>by cases h)⟩
  ·exact(u.ok i r k1).conv move (λb' p=>F b' ((u.ok i r k1).lt p))
end
end
section
open Cod (enc dec)
variable {S S0:Nat->Spc}
def qtO:Cond:=⟨1,⟨#[]⟩,⟨#[]⟩,⟨#[]⟩,⟨#[]⟩,false, []⟩
def BL(q:Qry)(k:Int):Cond:=(((am q.pat)[k.toNat]?).map λx=>x.cond).getD qtO
def O8(c:Corpus)(q:Qry)(i:Int)(x:Span):Bool:=decide (i+x.e∈uQ c (BL q x.b)) && decide (fL c.texts (K1 i)=fL c.texts (K1 (i+x.e)))
def uq(n:Nat):List Int:=(List.range n).map λi:Nat=>(i:Int)
def qgb(k:Nat):qcW (k:Int) (uq k)=uq (k+1):=by
 have h:(k:Int) ∉uq k:=λh=>by
  obtain⟨i,hi,e⟩:=qGd.1 h;grind
 simp_all [qcW,uq,List.range_succ]
def Z4{n:Nat}{i:Int} :i∈uq n↔0<=i/\i<n:=by
 unfold uq;rw[qGd];constructor;grind
 ·rintro⟨h0,h1⟩;exact⟨i.toNat,qHC.2 (by omega),by omega⟩
def CP(n:Nat):(uq n).Pairwise (· < ·):=by
 grind [uq,List.pairwise_lt_range]
def Jl{α:Type}[DecidableEq α]:∀{l:List α} {i:Nat} {z:α},l.Nodup->l[i]? =some z->l.eraseIdx i=l.filter λy=>decide (y≠z)
 | [],_,_,_,h=>by rfl
 | a::l,0,z,hn,h=>by
   grind [List.filter_eq_self]
 | a::l,i+1,z,hn,h=>by
   have hn:=qHM.1 hn;have hz:a≠z:=λe=>hn.1 (e ▸qF7 (by simpa using h))
   rw[List.eraseIdx_cons_succ,List.filter_cons_of_pos (by grind),Jl hn.2 (by simpa using h)]
theorem qgy{l:List Int}(hn:l.Nodup){i j:Nat}(hi:i<l.length)(a:j<l.length)(h:l[i]=l[j]):i=j:=by
 grind [List.pairwise_iff_getElem]
def IK:∀{a:List (Nat×Int)},(a.map (·.1)).Nodup->a.Nodup
 | [],_=>qIc
 | z::a,h=>by
   have h:=qHM.1 h;exact qHM.2 ⟨λhz=>h.1 (qGd.2 ⟨z,hz,rfl⟩),IK h.2⟩
theorem qco(l:List Int)(i:Nat):(jn l).eraseIdx i=jn (l.eraseIdx i):=by
 unfold jn
 induction l generalizing i with
 |nil=>rfl
 |cons a l b=>cases i<;>grind
def qoH{l:List Int}{st:List Nat}{k:Int}{i:Nat}{K:List D->List Nat->Prop}(hn:l.Nodup)(hk:l[i]? =some k)(h:K (jn (l.eraseIdx i)) (st.eraseIdx i)):TG false [.int .i64] (.v (.int .i64 k)) (jn l) st K:=by
 have a:=qae;refine⟨Y4 a l,a.fit k,λj q v' b m=>?_,λc=>?_⟩
 ·have d:j<l.length:=by
   grind [jn]
  have e:(jn l)[j]? =some (.tup [enc l[j], .v (.bool true)]):=by grind [jn]
  rw[e]at b;simp only[qGh,D.tup.injEq,qGF,and_true]at b;obtain⟨rfl,rfl⟩:=b;have p:k=l[j]:=by
   have:=PI (a.pur k) (a.pur l[j]) m;simp_all
  grind [qgy,qco]
 ·exact absurd (Z3.2 ⟨qF7 hk,rfl⟩) (c (a.pur k) _)
def DB(P:Int->Bool)(a:List (Nat×Int))(seen:List Nat):List (Nat×Int):=a.filter λz=>decide (z.1∉seen)||P z.2
theorem Tl{c:List (Nat×Int)}(h:(c.map (·.1)).Nodup){a b:Nat×Int}(d:a∈c)(hb:b∈c)(e:a.1=b.1):a=b:=by
 induction c<;>grind
def qhg{P:Int->Bool}{a:List (Nat×Int)}{seen:List Nat}{s:Nat}{k:Int}(hn:(a.map (·.1)).Nodup)(hm:(s,k) ∈a)(hk:P k=true):DB P a (seen++ [s])=DB P a seen:=by
 grind [DB,List.filter_congr,Tl]
def qlm{P:Int->Bool}{a:List (Nat×Int)}{seen:List Nat}{s i:Nat}{k:Int}(hn:(a.map (·.1)).Nodup)(hs:s∉seen)(hk:P k=false)(hi:(DB P a seen)[i]? =some (s,k)):DB P a (seen++ [s])=(DB P a seen).eraseIdx i:=by
 have b:a.Nodup:=IK hn;have hm:(s,k) ∈a:=(qG2.1 (qF7 hi)).1;have h2:=Jl (b.filter _) hi;grind [DB,List.filter_filter,List.filter_congr,Tl]
def qll{P:Int->Bool}{a:List (Nat×Int)}{seen:List Nat}(h:∀s∈ (DB P a seen).map (·.1),s∈seen):DB P a seen=a.filter λz=>P z.2:=by
 refine List.filter_congr λz hz=>?_
 by_cases e:z.1∈seen;grind
 ·exact absurd (h z.1 (qGd.2 ⟨z,qG2.2 ⟨hz,by grind⟩,rfl⟩)) e
def qnZ{a:List (Nat×Int)}{seen:List Nat}{s:Nat}{k:Int}(hm:(s,k) ∈a)(hs:s∉seen):(a.filter λz=>!decide (z.1∈seen++ [s])).length<(a.filter λz=>!decide (z.1∈seen)).length:=by
 have e:(a.filter λz=>!decide (z.1∈seen++ [s]))=(a.filter λz=>!decide (z.1∈seen)).filter λz=>decide (z.1≠s):=by
  rw[List.filter_filter];grind
 rw[e];have b:(s,k) ∈a.filter λz=>!decide (z.1∈seen):=qG2.2 ⟨hm,by grind⟩
 exact List.length_filter_lt_length_iff_exists.2 ⟨_,b,by simp⟩
def Gs{α b:Type}(f:α->b):∀(l:List α) (i:Nat),(l.eraseIdx i).map f=(l.map f).eraseIdx i
 | [],_=>rfl
 |a::l,0=>rfl
 |a::l,i+1=>by simp only[List.eraseIdx_cons_succ,qGG,Gs f l i]
def qmr{st:List Nat}{ks:List Int}(h:st.length=ks.length):(st.zip ks).map (·.2)=ks:=by
 rw[show(λx:Nat×Int=>x.2)=Prod.snd from rfl,List.map_snd_zip (by omega)]
def qms{st:List Nat}{ks:List Int}(h:st.length=ks.length):(st.zip ks).map (·.1)=st:=by
 rw[show(λx:Nat×Int=>x.1)=Prod.fst from rfl,List.map_fst_zip (by omega)]
def qo2(c:Corpus)(q:Qry)(s:List Span):List Int:=(uq c.toks.length).filter λi=>s.all (O8 c q i)
structure xj (V:List Attr->Qry->Prop) (c:Corpus) (q:Qry):Prop where
 v:V c.attrs q
 pat:eX ay q.pat=true
 size:fO q.pat<=256
 fx:gX q.pat
 pl:qhv q.pat []
 few:c.toks.length<=100000
 sel:∀x∈am q.pat,JK (c,x.cond)
def qfz(V:List Attr->Qry->Prop)(z:Corpus×Qry×List Span):Prop:=xj V z.1 z.2.1/\z.2.2.length<=100000
def Mi(z:Corpus×Qry×List Span)(y:List Int×Int):Prop:=∃F,SrcsOf z.2.1.pat F/\(y=(qo2 z.1 z.2.1 z.2.2,0)/\qdL F z.2.2\/y=([],18)/\ ¬qdL F z.2.2)
abbrev U6(V:List Attr->Qry->Prop):Spc:=ax (a3 Corpus Qry (List Span)) (qfz V) (iA (Y:=List Int) (Z:=Int)) Mi
def qcr(c:Corpus)(x:Cond):(uQ c x).Pairwise (· < ·):=by
 grind [uQ,OG,List.pairwise_lt_range]
def qkk{c:Corpus}{q:Qry}{s:List Span}{k:Nat}{x:Span}(a:s[k]? =some x){ks:List Int}(h:ks=(uq c.toks.length).filter λi=>(s.take k).all (O8 c q i)):ks.filter (λi=>O8 c q i x)=(uq c.toks.length).filter λi=>(s.take (k+1)).all (O8 c q i):=by
 simp_all [au,Bool.and_comm]
theorem Rq{V:List Attr->Qry->Prop}(h1:S ft=Ib V)(h2:S nn=ta)(h3:S pK=uS)(h4:S iZ=qi4)
 (h5:S fT=qjb) (h6:S tI=BF) (h7:S re=qeQ iY) (h8:S ui=U0 iY):
 aq wm vm S (a3 Corpus Qry (List Span)) (qfz V) (iA (Y:=List Int) (Z:=Int)) Mi:=by
 rintro⟨c,q,s⟩ ⟨p,hs⟩;have p:xj V c q:=p;have hs:s.length<=100000:=hs;have hV:V c.attrs q:=p.v;have O:gX q.pat:=p.fx;have hfew:=p.few;have htl:(c.toks.length:Int)<=9223372036854775807:=by omega
 have hsl:(s.length:Int)<=9223372036854775807:=by omega
 simp[wm,vm,h1,h2,hV,O,hs,htl,-fB',-eB'];rintro y ⟨F,N,hy⟩;have N:SrcsOf q.pat F:=by
  have N:eV q.pat F:=N;simp_all [eV,p.pat,p.size]
 refine⟨λQ=>?_,λhe v=>?_⟩
 ·rcases hy with⟨rfl,_⟩|⟨rfl,hno⟩
  omega
  ·exact⟨F,N, .inr ⟨rfl,hno⟩⟩
 have U:qdL F s:=by
  grind
 clear hy he;refine ah (X:=List Int) [2,3,4,10] [] c.toks.length (λk ks=>ks=uq k) (λ_=>[]) (λks=>[(33, .mrow v (jn ks))]) [] (by rfl) ?_ ?_ (hh:=by simp;exact .inl rfl)
 ·rintro k ks hk rfl;simp[-fB',-eB'];exact qm7 (X:=Int) qae rfl (.inl (by rw[qgb]))
 rintro ks rfl;simp[h3,hsl,p.pat,p.pl,-fB',-eB'];refine ah (X:=List Int) [3,10,12,46] [] s.length (λk ks=>ks=(uq c.toks.length).filter λi=>(s.take k).all (O8 c q i)) (λ_=>[]) (λks=>[(33, .mrow v (jn ks))]) (uq c.toks.length) (by simp;exact(qHr.2 λ_ _=>rfl).symm) ?_ ?_
 ·rintro k ks hk d;obtain⟨x,hx⟩:=aM hk;obtain⟨_,hgx⟩:=qF4.1 hx;have hxF:SrcE q.pat 0 0 x:=(N.2 x).1 (U k x hx).1;obtain⟨r1,r2,r3,r4⟩:=UZ q.pat p.pat 0 0 x hxF;have r5:cK q.pat<=1000000:=O.1;obtain⟨a,ha⟩:=aM (show x.b.toNat<(am q.pat).length by omega);have hq:(bA q.pat)[x.b.toNat]? =some (mC a):=by unfold bA;rw[qGn,ha];rfl
  obtain⟨hql,W⟩:=qF4.1 hq;have u:JK (c,(mC a).cond):=p.sel a (qF7 ha);have hlc:BL q x.b=(mC a).cond:=by unfold BL;rw[ha];rfl
  have hb2:x.b<(bA q.pat).length:=by omega
  have hb1:0<=x.b:=by omega
  generalize hcl:mC a=a' at hq W u hlc;simp[hk,hx,hgx,hq,W,hb1,hb2,h4,u,-fB',-eB'];intro b b1 st clock A;obtain⟨hb1',hbn,hbc⟩:=A;have hbl:st.length=ks.length:=by rw[hb1'];simp[jn]
  have C:=qms hbl;have r:=qmr hbl;generalize hzs:st.zip ks=j at C r;have hzn:(j.map (·.1)).Nodup:=by rw[C];exact hbn
  have E:(j.map (·.2)).Nodup:=by
   rw[r,d];exact((CP _).imp (λh=>by omega)).filter _
  have hc0:DB (λi=>O8 c q i x) j []=j:=qHr.2 λz _=>by simp
  refine aA (X:=List Nat) [3,10,12,14,15,46,47,48,67] [14] (λ_=>True) (λ_=>[]) (λseen=>[(33, .raw (.mrs v (jn ((DB (λi=>O8 c q i x) j seen).map (·.2))) ((DB (λi=>O8 c q i x) j seen).map (·.1)) clock)),(67, .raw (.mit b1 33 v clock seen))]) (λseen=>(j.filter λz=>decide (z.1∉seen)).length) [] trivial ?_ (hh:=by simp[hc0,C,r]);rintro seen -;simp[-fB',-eB'];have hsrt:(uQ c a'.cond).Pairwise (· < ·)/\(uQ c a'.cond).length<=1000000:=⟨qcr c a'.cond,qGA (H4 _ _ _) (by omega)⟩
  refine⟨λhall=> .inl ?_,λI k1 hm1 hns=>⟨⟨k1,hm1⟩,λi e t hi he=>?_⟩⟩
  ·congr 1;rw[qll (λs hs=>by obtain⟨z,hz,rfl⟩:=qGd.1 hs;exact hall z.1 z.2 hz)];rw[<-qkk hx d,<-r,List.filter_map];rfl
  have J:(I,t) ∈j:=(qG2.1 (qF7 hi)).1;have hmk:t∈uq c.toks.length:=by
   have:t∈ks:=by rw[<-r];exact qGd.2 ⟨_,J,rfl⟩
   rw[d]at this;exact(qG2.1 this).1
  obtain⟨k0,k9⟩:=Z4.1 hmk;have he2:e= .tup [enc t, .v (.bool true)]:=by
   have:(jn ((DB (λi=>O8 c q i x) j seen).map (·.2)))[i]? =some (.tup [enc t, .v (.bool true)]):=by simp[jn,hi]
   rw[this]at he;exact(qGf he).symm
  subst he2;have l:(j.filter λz=>!decide (z.1∈seen++ [I])).length<(j.filter λz=>!decide (z.1∈seen)).length:=qnZ J hns;have L:O8 c q t x=(decide (t+x.e∈uQ c a'.cond) && decide (fL c.texts (K1 t)=fL c.texts (K1 (t+x.e)))):=by unfold O8;rw[hlc]
  have w:O8 c q t x=false->∀K:List D->List Nat->Prop,K (jn ((DB (λi=>O8 c q i x) j (seen++ [I])).map (·.2))) ((DB (λi=>O8 c q i x) j (seen++ [I])).map (·.1))->
   TG false [KK.int IntKind.i64] (D.v (Value.int IntKind.i64 t)) (jn ((DB (λi=>O8 c q i x) j seen).map (·.2))) ((DB (λi=>O8 c q i x) j seen).map (·.1)) K:=λhp K hK=>by
   refine qoH (i:=i) ?_ (by rw[qGn,hi];rfl) ?_
   ·exact E.sublist (List.Sublist.map _ qIg)
   ·rw[qlm hzn hns hp hi]at hK;rw[Gs,Gs]at hK;exact hK
  simp[h5,h6,hsrt,-fB',-eB'];refine⟨⟨by omega,by omega⟩,λM=>⟨⟨by omega,by omega⟩,λQ=>?_,λheq=>?_⟩,λM=>?_⟩
  ·exact w (by rw[L];simp[Q]) _ ⟨seen++ [I],⟨.inl ⟨rfl,rfl⟩, .inl rfl⟩,l⟩
  ·refine⟨seen++ [I],⟨.inl ?_, .inl rfl⟩,l⟩;rw[qhg hzn J (by rw[L];simp[M,heq])];exact⟨rfl,rfl⟩
  ·exact w (by rw[L];simp[M]) _ ⟨seen++ [I],⟨.inl ⟨rfl,rfl⟩, .inl rfl⟩,l⟩
 rintro ks d;rw[qGc]at d;have hkb:ks=qo2 c q s:=d;simp[h7,-fB',-eB'];intro b;rw[h8];have E:ks.Nodup:=by
  rw[d];exact((CP _).imp (λh=>by omega)).filter _
 have hkr:∀k∈ks,0<=k/\k<c.toks.length:=λk hk=>by
  rw[d]at hk;exact Z4.1 (qG2.1 hk).1
 have hkl:ks.length<=c.toks.length:=by
  rw[d];exact qGA (List.length_filter_le _ _) (by simp[uq])
 have hms:ks.mergeSort (λx y=>decide (x<=y))=ks:=by
  refine List.mergeSort_of_pairwise ?_;rw[d];exact((CP _).filter _).imp λh=>by simp;omega
 refine⟨99,b,33,v,ks,rfl,by simp[aj],by simp[aj],E,by omega,λk hk=>⟨(hkr k hk).1,by have:=(hkr k hk).2;omega⟩,λv'=>?_⟩;rw[hms];refine⟨ks,fq bC (by simp[aj]),F,N, .inl ⟨by rw[hkb],U⟩⟩
end
section
open Go.Proofs
def tT:CC:=gq Tryz.f33 [1] { bx:=[7] } _
def tq:List ai:=[.tmp 2]
def M0:FO pK [1] tT tq 8:=fo
end
end Go.Gv
