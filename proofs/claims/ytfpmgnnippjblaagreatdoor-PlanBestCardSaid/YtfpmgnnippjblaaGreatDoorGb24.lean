/- W81 -/
import Derived.Test.YtfpmgnnippjblaaGreatDoorGb23
set_option linter.all false
set_option maxRecDepth 100000
set_option maxHeartbeats 0
namespace Go.Gv
section
open Cod (enc dec)
variable {S S0:Nat->Spc}
theorem qa4(p:Pat):∀out,(kb p out).length<=out.length+cX p:=by
 induction p using fJ with|_ p b=>?_
 intro out;rw[qp,cO];split;grind [DI]
 ·have:∀(ks:List Pat) (o:List B),(∀k∈ks,k∈p.kids)->(ks.foldl (λo k=>kb k o) o).length<=o.length+bB ks:=by
   intro ks
   induction ks with
   |nil=>simp
   | cons k ks a=>
     grind [bB,kb]
  grind
def Ju(ks:List Pat)(k:Nat)(lb:List B):((ks.take k).foldl (λo k=>kb k o) lb).length<=lb.length+bB (ks.take k):=by
 generalize ks.take k=l
 induction l generalizing lb<;>grind [bB,qa4]
def qdn(x:Cond×List B)(y:Cond):Prop:=y=yS x.2 x.1
abbrev HV(n:Nat):Spc:=ay (a2 Cond (List B)) (qlQ n) (enc (X:=Cond)) qdn
theorem Uj(n:Nat)(h1:S sM=HV n):aq Bc Aj S (a2 Cond (List B)) (qlQ (n+1)) (enc (X:=Cond)) qdn:=by
 rintro⟨c,lb⟩ ⟨_,hc⟩;simp only at hc;have hc:CS n c:=hc;simp[Bc,Aj];intro b2 s;refine⟨λho _=>?_,λho hl=>?_⟩
 ·refine ah (X:=Unit) [2,4,13] [2,4] lb.length (λk _=>∀z∈lb.take k,z≠c.lab) (λ_=>[]) (λ_=>[]) () (by simp) ?_ ?_
  ·rintro k -hk hz;obtain⟨x,b⟩:=aU hk;obtain⟨_,d⟩:=qFN.1 b;simp[hk,b,d];refine⟨λj=>gm c.kids (.same _) ?_,λj z l=>?_⟩
   ·show Cond.mk _ _ _ _ _ _ _=yS lb c;rw[I5,nj,if_pos ho,if_pos (j ▸aO b)]
   ·rw[au b]at l;grind
  ·rintro -hz;rw[qFX]at hz;simp;refine gm [] (.nil _) ?_;show _=yS lb c;rw[nj,if_pos ho,if_neg (λh=>hz _ h rfl)];rfl
 ·refine ah (X:=Value×List Cond) [1,2,4,29] [2,4] c.kids.length (λk x=>x.2=(c.kids.take k).map (yS lb)) (λx=>[(7, .own 40 x.1)]) (λx=>[(40, .row x.1 iD 7 (x.2.map enc))]) (.slice none 0 0, []) (by simp) ?_ ?_ (hh:=by simp[isNilRow])
  ·rintro k ⟨v,ks⟩ hk a;simp only at a;obtain⟨x,b⟩:=aU hk;obtain⟨_,d⟩:=qFN.1 b;obtain⟨m,hm,p⟩:=qrY hc (aO b);have hp:qlQ n (x,lb):=⟨by omega,by rw[hm];exact p⟩
   simp[hk,b,d,h1,hp];have:=qrX hc;have q:ks.length=k:=by rw[a,qGm,qGd];omega
   refineλy r=>⟨by omega,by omega,λv=> .inl ?_⟩
   obtain rfl:y=yS lb x:=r;rw[a,List.map_map,List.map_take,qGP];simp[b]
  ·rintro⟨v,ks⟩ a;simp only at a;simp;rw[qFX]at a;refine gm ks (fM iD (by simp)) ?_;show _=yS lb c;rw[nj,if_neg ho,a]
abbrev EI:Spc:=ay (a2 Cond (List B)) (λx=>∃n,CS n x.1) (enc (X:=Cond)) qdn
def WY(x:Pat×List B)(y:Pat):Prop:=y=nh x.2 x.1
abbrev Sr(n:Nat):Spc:=ay (a2 Pat (List B)) (qds n) (enc (X:=Pat)) WY
theorem qft(n:Nat)(h1:S sM=EI)(h2:S Df=Sr n):aq Lf Kj S (a2 Pat (List B)) (qds (n+1)) (enc (X:=Pat)) WY:=by
 rintro⟨p,lb⟩ ⟨_,hp⟩;simp only at hp;have hp:PD n p:=hp;have b:=qnp hp;have q:=qqN hp;simp[Lf,Kj,h1];intro b2 t;refine⟨b,λc hc _=>?_⟩;refine ah (X:=Value×List Pat) [1,2,4,14] [2,4] p.kids.length (λk x=>x.2=(p.kids.take k).map (nh lb)) (λx=>[(5, .own 25 x.1)]) (λx=>[(25, .row x.1 bL 13 (x.2.map enc))]) (.slice none 0 0, []) (by simp) ?_ ?_ (hh:=by simp[isNilRow])
 ·rintro k ⟨v,ks⟩ hk a;simp only at a;obtain⟨x,d⟩:=aU hk;obtain⟨_,h⟩:=qFN.1 d;obtain⟨m,hm,j⟩:=qqO hp (aO d);have r:qds n (x,lb):=⟨by omega,by rw[hm];exact j⟩
  have l:ks.length=k:=by rw[a,qGm,qGd];omega
  simp[hk,d,h,h2,r];refineλy s=>⟨by omega,by omega,λv=> .inl ?_⟩
  obtain rfl:y=nh lb x:=s;simp_all [qGP]
 ·rintro⟨v,ks⟩ a;simp only at a;rw[qFX]at a;simp;refine D1 c.kids ks (.same _) (fM bL (by simp)) ?_;show _=nh lb p;rw[sS,<-show c=yS lb p.cond from hc,a,I5]
abbrev Oz:Spc:=ay (a2 Pat (List B)) (λx=>∃n,PD n x.1) (enc (X:=Pat)) WY
abbrev EJ:Spc:=ay (aT (a2 Int (List B))) (λx=> -10<=x.2.1/\x.2.1<=100/\x.2.2.length<=1000) (enc (X:=Pat)) Qx
def qlN(x:Pat)(l r:List B):Prop:=r=kb x l
abbrev Z3(n:Nat):Spc:=ql5 (X:=Pat) (Y:=B) (λx l=>dK x<=n/\qpN x l) qlN av 1
abbrev i_BoundA2:Spc:=ql5 (X:=Pat) (Y:=B) qpN qlN av 1
theorem XX(n:Nat)(h1:S rf=Z3 n):Qt (X:=Pat) (Y:=B) wc uZ S (λx l=>dK x<=n+1/\qpN x l) qlN av 1:=by
 rintro v lb p ⟨C,hl⟩;have hk:∀k∈p.kids,dK k<=n:=λk h=>by have:=kR h;omega
 have hl:lb.length+cX p<=1000000:=hl;have t:=cO p;simp[wc,uZ];refine bh (X:=Unit) [1,2] [1] (λ_=>p.op=1->p.lab=E0) (λ_=>[]) (λ_=>[]) ?_ ?_
 ·simp;refine⟨λho=>⟨λhn _=>?_,λh _=>h⟩,λho h=>absurd h ho⟩;refine ah (X:=Unit) [1,2,17] [1] lb.length (λk _=>∀z∈lb.take k,z≠p.lab) (λ_=>[]) (λ_=>[]) () (by simp) ?_ ?_
  ·rintro k -b hz;obtain⟨x,c⟩:=aU b;obtain⟨_,d⟩:=qFN.1 c;simp[b,c,d];refine⟨λj=>dL lb (by simp) ?_,λj z q=>?_⟩
   ·show lb=kb p lb;rw[qp,if_pos ⟨ho,hn⟩,DI,if_pos (j ▸aO c)]
   ·rw[au c]at q;grind
  ·rintro -hz;rw[qFX]at hz;simp;refine⟨by omega,by omega,λv=>dL (lb++ [p.lab]) (by simp) ?_⟩;show _=kb p lb;rw[qp,if_pos ⟨ho,hn⟩,DI,if_neg λh=>hz _ h rfl]
 ·rintro -r;simp;intro u;refine ah (X:=Value×List B) [35] [] p.kids.length (λk x=>x.2=(p.kids.take k).foldl (λo k=>kb k o) lb) (λx=>[(1, .own 1 x.1)]) (λx=>[(1, .row x.1 av 1 (x.2.map enc))]) (v,lb) (by simp) ?_ ?_
  ·rintro k ⟨v,ls⟩ b a;simp only at a;obtain⟨x,c⟩:=aU b;obtain⟨_,d⟩:=qFN.1 c;have w:qpN x ls:=by
    have h2:=Ju p.kids k lb;have h3:=Ju (p.kids.drop k) 1 ls;rw[<-a]at h2;have h4:bB (p.kids.take k) +bB (p.kids.drop k)=bB p.kids:=by rw[<-DS,qGj]
    rw[bE c,bB]at h4;show ls.length+cX x<=_;omega
   have s:=hk x (aO c);simp[b,c,d,h1,w,s];intro v' y A;obtain rfl:y=kb x ls:=A;refine .inl ?_;rw[au c,qH8,<-a];rfl
  ·rintro⟨v,ls⟩ a;simp only at a;rw[qFX]at a;simp;refine dL ls (by simp) ?_;show ls=kb p lb;rw[qp,if_neg λh=>h.2 (r h.1),a]
abbrev qkB:Spc:=qs8 (Y:=B) (aE Pat (aD a0)) (λx=>x.2.1= .v (.slice none 0 0)/\qpN x.1 []) (λx r=>qlN x.1 [] r) av 1
theorem XY(h1:S rf=i_BoundA2):qbc (Y:=B) wc uZ S (aE Pat (aD a0)) (λx=>x.2.1= .v (.slice none 0 0)/\qpN x.1 []) (λx r=>qlN x.1 [] r) av 1:=by
 rintro⟨p,d,⟨⟩⟩ ⟨c,hl⟩;have c:d= .v (.slice none 0 0):=c;subst c;have hl:0+cX p<=1000000:=hl;have s:=cO p;simp[wc,uZ];refine bh (X:=Unit) [1,2] [] (λ_=>p.op=1->p.lab=E0) (λ_=>[]) (λ_=>[]) ?_ ?_
 ·simp;refine⟨λho=>⟨λhn=>?_,λh _=>h⟩,λho h=>absurd h ho⟩;refine ah (X:=Unit) [1,2] [] 0 (λ_ _=>True) (λ_=>[]) (λ_=>[]) () trivial ?_ ?_;simp
  ·rintro - -;simp;refineλv=>dL [p.lab] (by simp) ?_
   show _=kb p [];rw[qp,if_pos ⟨ho,hn⟩,DI,if_neg (by simp)];rfl
 ·rintro -j;simp;intro t;refine ah (X:=Value×List B) [35] [] p.kids.length (λk x=>x.2=(p.kids.take k).foldl (λo k=>kb k o) []) (λx=>[(1, .own 1 x.1)]) (λx=>[(1, .row x.1 av 1 (x.2.map enc))]) (.slice none 0 0, []) (by simp) ?_ ?_ (hh:=by simp[isNilRow])
  ·rintro k ⟨v,ls⟩ b a;simp only at a;obtain⟨x,l⟩:=aU b;obtain⟨_,q⟩:=qFN.1 l;have u:qpN x ls:=by
    have h2:=Ju p.kids k [];have h3:=Ju (p.kids.drop k) 1 ls;rw[<-a,qHq]at h2;have h4:bB (p.kids.take k) +bB (p.kids.drop k)=bB p.kids:=by rw[<-DS,qGj]
    rw[bE l,bB]at h4;show ls.length+cX x<=_;omega
   simp[b,l,q,h1,u];intro v' w y;obtain rfl:w=kb x ls:=y;simp_all [au]
  ·rintro⟨v,ls⟩ a;simp only at a;rw[qFX]at a;simp;refine dL ls (by simp) ?_;show ls=kb p [];rw[qp,if_neg λh=>h.2 (j h.1),a]
abbrev s_Bound2:Spc:=qqQ qkB i_BoundA2
def qdp(x:List Int×Int×List B)(y:Glob):Prop:=GG x.2.2 x.2.1.toNat y
def qFG(l:List B)(g:Glob):Prop:=g=GlobE\/GG l 2 g
def qDc{i:Nat}{a:B}(h:[(⟨#[97]⟩:B),⟨#[98,124,99]⟩,⟨#[46]⟩][i]? =some a):a∈QD:=aO h
def qDb{i:Nat}{a:B}(h:[(⟨#[83]⟩:B),⟨#[78,80]⟩,⟨#[86,80]⟩][i]? =some a):a∈qbm:=aO h
def qDa{i:Nat}{a:B}(h:[(⟨#[111,98,106]⟩:B),⟨#[100,101,116]⟩,⟨#[]⟩][i]? =some a):a∈WW:=aO h
abbrev Bo(n:Nat):Spc:=ay (aT (a2 Int (List B))) (QA n) (enc (X:=Glob)) qdp
theorem Mr(n:Nat)(h1:S cq=s_m_Next)(h2:S sO=yM)(h3:S fe=Bo n):aq lq kM S (aT (a2 Int (List B))) (QA (n+1)) (enc (X:=Glob)) qdp:=by
 rintro⟨L,deep,lb⟩ ⟨hn,C,E,b,s⟩;simp only at hn C E b s;simp[lq,kM,h1];intro b6 k0 Q U;refine bh (X:=Int) [0,1,2,6] [6] (λk=>0<=k/\k< 13/\(deep< 1->k< 10)) (λk=>[(7,enc k)]) (λ_=>[]) ?_ ?_
 ·simp;grind
 rintro k ⟨q0,q1,q2⟩;simp[h1];refineλ_=>⟨by omega,λi hi=>⟨by omega,by omega,λa W _=>⟨by omega,λj hj=>⟨by omega,by omega,λc hc=>?_⟩⟩⟩⟩
 refine bh (X:=Unit) [0,1,2,6,7] [6] (λ_=>11<=k) (λ_=>[]) (λ_=>[]) ?_ ?_
 ·have d:1<=deep->QA n (L,deep -1,lb):=λh=>⟨by show(deep -1).toNat<n;omega,by show -10<=deep -1;omega,by show deep -1<=100;omega,b,s⟩
  have p:a∈lb:=aO W;have u:c∈lb:=aO hc;have A:1<=deep->deep.toNat=(deep -1).toNat+1:=λh=>by omega
  simp[h1,h2,h3,Sh,YE,mO,rN, -Bool.forall_bool];refine⟨λ_=>js [] [] (.nil _) (.nil _) (.bound _ a p),λ_=>⟨λ_ y q r=>⟨q,r,λv Y z _ _=>js [] [] (.nil _) (.nil _) (.val _ a v _ p (qDc Y))⟩,λ_=>⟨λ_ y q r=>⟨q,r,λg F=>js [] [] (.nil _) (.nil _) (.same _ a c g p u (qDf F))⟩,λ_=>⟨λ_ y q r=>⟨by simp only[InR];omega,λz I J=>⟨by simp only[InR];omega,js [] [] (.nil _) (.nil _) (.dist _ a c _ _ p u (by omega) (by omega) (by omega) (by omega))⟩⟩,λ_=>⟨λ_ y q r=>⟨trivial,λt K=>js [] [] (.nil _) (.nil _) (.reg _ a c t p u K)⟩,λ_=>⟨λ_=>js [] [] (.nil _) (.nil _) (.head _ 6 a c (.inl rfl) p u),λ_=>⟨λ_=>js [] [] (.nil _) (.nil _) (.head _ 7 a c (.inr rfl) p u),λ_=>⟨λ_ M y q r=>?_,λ_=>⟨λ_ y q r=>⟨q,r,λt K=>js [] [] (.nil _) (.nil _) (.node _ a c t p u (qDb K))⟩,λ_=>⟨λ_ y q r z I J=>⟨by simp only[InR];omega,js [] [] (.nil _) (.nil _) (.depth _ a _ _ p (by omega) (by omega) (by omega) (by omega))⟩,λ_=>⟨λO=>⟨by simp only[InR];omega,d (by omega),λg=>?_⟩,λ_=>by omega⟩⟩⟩⟩⟩⟩⟩⟩⟩⟩⟩
  ·refine ur (X:=Int×Value×List B) [0,6,11] [6] [] [] [] [] (λx=>(0<=x.1/\x.1+x.2.2.length<=2)/\∀z∈x.2.2,z∈WW) (λx=>[(12,enc x.1)]) (λx=>[(11, .box M [.v (.int .i64 8), .v (.string a), .v (.string c), .v (.string ⟨#[]⟩), .v (.string ⟨#[]⟩), .v (.string ⟨#[]⟩), .v (.bool false), .v (.int .i64 0), .v (.int .i64 0), .own 111 x.2.1, .v (.slice none 0 0)]),(111, .row x.2.1 av 1 (x.2.2.map enc))]) (λx=>x.1.toNat) (y, .slice none 0 0, []) [11,111] (λ_=>rfl) (by decide) (by decide) ?_ ?_ ?_ ?_
   ·exact⟨⟨q,by simp;omega⟩,by simp⟩
   ·simp
   ·simp[isNilRow];exact .nilown 111
   ·rintro⟨i,v,l⟩ ⟨⟨Z,e2⟩,N⟩;simp only at Z e2 N;simp[h1,YE,mO,rN];exact⟨λhi z I J=>⟨I,J,λw hw=>⟨by omega,by omega,λv=>⟨by simp only[InR];omega,i -1,v,l++ [w],⟨⟨by omega,by simp;omega⟩,λz hz=>(qF1.1 hz).elim (N z) λh=>by simp at h;subst h;exact qDa hw⟩,⟨rfl, .inl (.inl rfl), .inl (.inl (by simp))⟩,by omega⟩⟩⟩,λhi=>js l [] (fM av (by simp)) (.nil _) (.path _ a c l p u (by omega) N)⟩
  ·exactλF=>js [] [g] (.nil _) (by simp) (by show GG lb deep.toNat _;rw[A (by omega)];exact .not _ _ F)
 ·rintro -hk;have d:QA n (L,deep -1,lb):=⟨by show(deep -1).toNat<n;omega,by show -10<=deep -1;omega,by show deep -1<=100;omega,b,s⟩
  have A:deep.toNat=(deep -1).toNat+1:=by omega
  simp[h3,d];exact⟨by simp only[InR];omega,by simp only[InR];omega,by simp only[InR];omega,λy hy=>⟨by simp only[InR];omega,λz hz=>js [] [y,z] (.nil _) (by simp) (by show GG lb deep.toNat _;rw[A];exact .two _ _ _ _ (by omega) hy hz)⟩⟩
abbrev yN:Spc:=ay (aT (a2 Int (List B))) (λx=>∃n,QA n x) (enc (X:=Glob)) qdp
abbrev LI:Spc:=ay (aT a0) bW (enc (X:=Filt)) (λ_ y=>GF y)
def XW(h1:S cq=s_m_Next)(h2:S sO=yM):aq rF qK S (aT a0) bW (enc (X:=Filt)) (λ_ y=>GF y):=by
 rintro⟨L,⟨⟩⟩ -;simp[rF,qK,h1,h2];refineλb y c d=>⟨by grind [InR],λz h j u k l=>⟨trivial,λt a=>?_⟩⟩
 exact aM (⟨1+y,decide (z=2),t⟩:Filt) (by simp) ⟨by grind,a⟩
def Qw(x:List Int×Int)(q:Qry):Prop:=GQ x.2.toNat q
abbrev OA:Spc:=ay (aT (a1 Int)) (λx=>0<=x.2/\x.2<=5) (enc (X:=Qry)) Qw
theorem qbI(h1:S cq=s_m_Next)(h2:S ig=EJ)(h3:S rf=s_Bound2)(h4:S Df=Oz)(h5:S fe=yN)(h6:S tB=LI):
 aq tT tt S (aT (a1 Int)) (λx=>0<=x.2/\x.2<=5) (enc (X:=Qry)) Qw:=by
 rintro⟨L,deep⟩ ⟨t,w⟩;simp only at t w;simp[tT,tt,h1];intro b4;refine bh (X:=List B) [0,1,4] [4] (λl=>qfj l/\l.length<=2) (λl=>[(5,enc l)]) (λ_=>[]) ?_ ?_
 ·simp[h1];exactλ_ _ _=>⟨λ_=>⟨[qr9,qti],⟨λl hl=>by simpa using hl,by simp⟩,by simp[qr9,qti]⟩,λ_ l hl=>by simp at hl⟩
 rintro lb ⟨A,N⟩;simp[h1,h2];refine⟨⟨by omega,by omega,by omega⟩,λy d b=>?_⟩;have J:WP lb deep.toNat y:=d.1.1;have C:PD deep.toNat y:=d.1.2;have K:cX y<=1000000:=by
  have:=(qdB _ y J (by omega)).2.2;have h2:2^ (deep.toNat+1)<=64:=Nat.pow_le_pow_right (n:=2) (by omega) (show deep.toNat+1<=6 by omega);omega
 have O:qpN y []:=by show 0+cX y<=_;omega
 have E:∃n,PD n y:=⟨_,C⟩
 simp[h3,O];refine .inl λl hl=>?_
 have j:l=kb y []:=hl;have Q:l.length<=0+cX y:=by rw[j];exact qa4 y []
 simp[h4,E];intro p hp z U W k;have hp:p=nh l y:=hp;have Y:∀g fs s,(g=GlobE\/GG l 2 g)->(fs.length<=1/\∀f∈fs,GF f)->(0<=s/\s< 4)->Qw (L,deep) ⟨p,g,fs,s⟩:=by
  intro g fs s q c hs;have r:kb p []=l:=by rw[hp,qln,<-j]
  refine⟨⟨lb,A,by show WP lb deep.toNat p;rw[hp];exact qmm _ _ J⟩,?_,by show g=GlobE\/GG (kb p []) 2 g;rw[r];exact q,c,hs⟩;show ∀y∈am p,GC (kb p []) 1 y.cond;rw[r,hp,ZX];intro x Z;obtain⟨u,hu,rfl⟩:=qFV.1 Z;rw[sS];exact qrn (d.2 u hu)
 refine lF (X:=Glob) [0,4] [4] [] [] (qFG l) (λ_=>[(7, .bptr 7 k 0)]) (λg=>[(7, .box k [.v (.int .i64 p.op), .v (.int .i64 p.cond.op), .v (.string p.cond.name), .v (.string p.cond.arg), .v (.string p.cond.val), .v (.string p.cond.lab), .v (.bool p.cond.fold),enc p.cond.kids, .v (.string p.lab), .v (.string p.reg), .v (.int .i64 p.mn), .v (.int .i64 p.mx),enc p.kids, .v (.int .i64 g.op), .v (.string g.a), .v (.string g.b), .v (.string g.name), .v (.string g.arg), .v (.string g.val), .v (.bool g.fold), .v (.int .i64 g.mn), .v (.int .i64 g.mx),enc g.args,enc g.kids, .v (.slice none 0 0), .v (.int .i64 z)])]) [7] (λ_=>rfl) (by decide) ?_ ?_
 ·simp[h1,h5, -Bool.forall_bool];refineλ_=>⟨λF u M u1=>⟨λ_=>⟨⟨3,by show(2:Int).toNat< 3;decide,by show -10<=(2:Int);decide,by show(2:Int)<=100;decide,F,by show l.length<=1000000;omega⟩,λg q=>⟨g, .inr q, .inl (.inl ⟨rfl,rfl,rfl,rfl,rfl,rfl,rfl,rfl,rfl,rfl,rfl⟩)⟩⟩,λ_=>⟨⟨0,⟨#[]⟩,⟨#[]⟩,⟨#[]⟩,⟨#[]⟩,⟨#[]⟩,false,0,0, [], []⟩, .inl rfl, .inl ⟨rfl,rfl,rfl,rfl,rfl,rfl,rfl,rfl,rfl,rfl,rfl⟩⟩⟩,λ_=>⟨⟨0,⟨#[]⟩,⟨#[]⟩,⟨#[]⟩,⟨#[]⟩,⟨#[]⟩,false,0,0, [], []⟩, .inl rfl, .inl ⟨rfl,rfl,rfl,rfl,rfl,rfl,rfl,rfl,rfl,rfl,rfl⟩⟩⟩
 rintro g q;refine lF (X:=List Filt) [4] [4] [49] [] (λfs=>fs.length<=1/\∀f∈fs,GF f) (λ_=>[(7, .bptr 7 k 0)]) (λfs=>[(7, .box k [.v (.int .i64 p.op), .v (.int .i64 p.cond.op), .v (.string p.cond.name), .v (.string p.cond.arg), .v (.string p.cond.val), .v (.string p.cond.lab), .v (.bool p.cond.fold),enc p.cond.kids, .v (.string p.lab), .v (.string p.reg), .v (.int .i64 p.mn), .v (.int .i64 p.mx),enc p.kids, .v (.int .i64 g.op), .v (.string g.a), .v (.string g.b), .v (.string g.name), .v (.string g.arg), .v (.string g.val), .v (.bool g.fold), .v (.int .i64 g.mn), .v (.int .i64 g.mx),enc g.args,enc g.kids,enc fs, .v (.int .i64 z)])]) [7] (λ_=>rfl) (by decide) ?_ ?_
 ·simp[h1];intro u M u1;have ut:u.tdiv 2=u/2:=Int.tdiv_eq_ediv_of_nonneg M;rw[ut];refine⟨by simp only[InR];omega,?_⟩;refine ur (X:=Int×Value×List Filt) [0,4,7] [4] [] [] [] [] (λx=>(0<=x.1/\x.1+x.2.2.length<=1)/\∀f∈x.2.2,GF f) (λx=>[(8,enc x.1)]) (λx=>[(7, .box k [.v (.int .i64 p.op), .v (.int .i64 p.cond.op), .v (.string p.cond.name), .v (.string p.cond.arg), .v (.string p.cond.val), .v (.string p.cond.lab), .v (.bool p.cond.fold),enc p.cond.kids, .v (.string p.lab), .v (.string p.reg), .v (.int .i64 p.mn), .v (.int .i64 p.mx),enc p.kids, .v (.int .i64 g.op), .v (.string g.a), .v (.string g.b), .v (.string g.name), .v (.string g.arg), .v (.string g.val), .v (.bool g.fold), .v (.int .i64 g.mn), .v (.int .i64 g.mx),enc g.args,enc g.kids, .own 49 x.2.1, .v (.int .i64 z)]),(49, .row x.2.1 Sd 3 (x.2.2.map enc))]) (λx=>x.1.toNat) (u/2, .slice none 0 0, []) [7,49] (λ_=>rfl) (by decide) (by decide) ?_ ?_ ?_ ?_
  ·exact⟨⟨by show 0<=u/2;omega,by simp;omega⟩,by simp⟩
  ·simp
  ·simp[isNilRow];exact .nilown 49
  ·rintro⟨i,v,fs⟩ ⟨⟨e1,e2⟩,I⟩;simp only at e1 e2 I;simp[h6];refine⟨λhi=>⟨trivial,λy d=>⟨by omega,by omega,λv=>⟨by simp only[InR];omega,i -1,v,fs++ [y],⟨⟨by omega,by simp;omega⟩,λz hz=>(qF1.1 hz).elim (I z) λh=>by simp at h;subst h;exact d⟩,⟨rfl, .inl (.inl rfl), .inl (.inl (by simp))⟩,by omega⟩⟩⟩,λhi=>⟨fs,⟨by omega,I⟩, .inl (fM Sd (by simp[qeE]))⟩⟩
 ·rintro fs c;simp;exact aM (⟨p,g,fs,z⟩:Qry) (by simp) (Y _ _ _ q c ⟨U,W⟩)
end
section
open Go.Proofs
theorem qnL{lb:List B} :∀n p,WP lb n p->∀out:List B,bp p out=kb p out:=by
 refine JH λn p hp l out=>?_
 have hk:∀ks:List Pat,(∀k∈ks,k∈p.kids)->∀o:List B,ks.foldl (λo k=>bp k o) o=ks.foldl (λo k=>kb k o) o:=by
  intro ks
  induction ks with
  |nil=>intro _ o;rfl
  | cons k ks d=>
    intro h o;obtain⟨m,_,_,hi⟩:=l k (h k (by simp));rw[qGY,qGY,hi,d λz hz=>h z (by simp[hz])]
 have c:p.op≠1->p.lab=E0->bp p out=kb p out:=λh1 h2=>by
  rw[pr,qp,mM,if_pos h2,if_neg (λh=>h1 h.1)];exact hk _ (λ_ h=>h) _
 rcases yx hp with(⟨h1,h2,h3,h4,h5,h6⟩|⟨h1,h2,h3,h4,h5,h6,j⟩)|⟨m,rfl,(⟨h1,h2,h3,h4,h5,h6,a,b,j,_⟩|⟨h1,h2,h3,h4,h5,a,j,_⟩)⟩
 ·rw[pr,qp,h6,mM];by_cases h:p.lab=E0
  ·rw[if_pos h,if_neg (λx=>x.2 h)];rfl
  ·rw[if_neg h,if_pos ⟨h1,h⟩];rfl
 ·exact c (by omega) h3
 ·exact c (by omega) h3
 ·exact c (by omega) h3
def qg8{out:List B}{x y:B}(h:y∈out):y∈mM out x:=by
 unfold mM DI;split
 ·exact h
 ·split
  ·exact h
  ·simp[h]
def qg7{out:List B}{x:B}(h:x≠E0):x∈mM out x:=by
 unfold mM DI;rw[if_neg h];split
 ·assumption
 ·simp
def qoQ{out:List B}{x:B}(h:out.Nodup):(mM out x).Nodup:=by
 unfold mM DI;split
 ·exact h
 ·split
  ·exact h
  ·rename_i c;rw[List.nodup_append];exact⟨h,by simp,λa d b hb=>by simp at hb;subst hb;exactλe=>c (e ▸d)⟩
def qgt(p:Pat):∀(out:List B) (y:B),y∈out->y∈bp p out:=by
 induction p using fJ with|_ p b=>?_
 intro out y h;rw[pr];have:∀ks:List Pat,(∀k∈ks,k∈p.kids)->∀o:List B,y∈o->y∈ks.foldl (λo k=>bp k o) o:=by
  intro ks
  induction ks with
  |nil=>intro _ o h;exact h
  |cons k ks a=>intro hk o h;exact a (λz hz=>hk z (by simp[hz])) _ (b k (hk k (by simp)) o y h)
 exact this _ (λ_ h=>h) _ (qg8 h)
def qnK(p:Pat):∀(out:List B),out.Nodup->(bp p out).Nodup:=by
 induction p using fJ with|_ p b=>?_
 intro out h;rw[pr];have:∀ks:List Pat,(∀k∈ks,k∈p.kids)->∀o:List B,o.Nodup->(ks.foldl (λo k=>bp k o) o).Nodup:=by
  intro ks
  induction ks with
  |nil=>intro _ o h;exact h
  |cons k ks a=>intro hk o h;exact a (λz hz=>hk z (by simp[hz])) _ (b k (hk k (by simp)) o h)
 exact this _ (λ_ h=>h) _ (qoQ h)
theorem qgs(p:Pat):∀q∈tw p,q.lab≠E0->∀out:List B,q.lab∈bp p out:=by
 induction p using fJ with|_ p c=>?_
 intro q hq hl out;rw[pr];have hm:∀ks:List Pat,∀o:List B,q.lab∈o->q.lab∈ks.foldl (λo k=>bp k o) o:=by
  intro ks
  induction ks with
  |nil=>intro o h;exact h
  |cons k ks a=>intro o h;exact a _ (qgt k o _ h)
 cases p with
 | mk op cond lab reg mn mx ks=>
   rw[tw]at hq;rcases qF5.1 hq with rfl|hq
   ·exact hm _ _ (qg7 hl)
   ·obtain⟨k,hk,hq⟩:=wF hq;have:∀l:List Pat,k∈l->∀o:List B,q.lab∈l.foldl (λo k=>bp k o) o:=by
     intro l
     induction l with
     |nil=>intro h;cases h
     | cons z l b=>
       intro h o;rw[qGY];rcases qF5.1 h with rfl|h
       ·exact hm _ _ (c k hk q hq hl _)
       ·exact b h _
    exact this _ hk _
def qeF{n:Nat}{q:Qry}(h:GQ n q):bp q.pat []=kb q.pat []/\(bp q.pat []).length<=2:=by
 obtain⟨lb,hl,b⟩:=h.lab;have e:=qnL n q.pat b [];refine⟨e,?_⟩;have hm:∀y∈bp q.pat [],y=qr9\/y=qti:=λy a=>by
  rw[e]at a;rcases qoJ n q.pat b [] y a with h|h
  ·cases h
  ·exact hl y h
 refine qgc (f:=λy=>if y=qr9 then 0 else 1) (qnK q.pat [] qHV) (λy _=>by split<;>omega) λx c y a=>?_
 rcases hm x c with rfl|rfl<;>rcases hm y a with rfl|rfl
 ·exactλ_=>rfl
 ·rw[if_pos rfl,if_neg (by decide)];exactλh=>by cases h
 ·rw[if_neg (by decide),if_pos rfl];exactλh=>by cases h
 ·exactλ_=>rfl
theorem qjI{n:Nat}{c:Corpus}{q:Qry}(hc:qbn c)(d:GQ n q)(hn:n<=5):qwy qbd c q:=by
 obtain⟨lb,hl,r⟩:=d.lab;have a:eP ax q.pat=true:=qml hl qp6 n q.pat r (by omega);obtain⟨b,w⟩:=qeF d;obtain⟨_,y,A⟩:=qdB n q.pat r hn;have h3:(3:Int) ^n<=243:=by
  rcases n with _|_|_|_|_|_|n
  all_goals first|decide|omega
 have h2:2^ (n+1)<=64:=by
  rcases n with _|_|_|_|_|_|n
  all_goals first|decide|omega
 have j:cX q.pat<=1000000:=by omega
 have k:(bp q.pat []).length<=3:=by omega
 have he:cj pm q.pat=true/\cj lK q.pat=true:=by
  unfold eP at a;simp only[qFS]at a;exact⟨a.1.1.2,a.2⟩
 have u:EE rL q.pat:=yW (Gy q.pat he.1) λq h=>(qU q).1 h
 refine⟨⟨by rw[b];exact d.glob,d.filts.2,d.strat,a,by omega,k,j,hc.ok.1,λx C=>?_⟩,⟨hc.ok.sz,by have:=hc.few;omega,a,k,j,λt J=>?_⟩⟩
 ·have l:=d.cond x C;rw[b,hc.ok.1];exact⟨qqV l (by omega),qq2 l⟩
 ·intro z hz;refine⟨u z hz,Gy q.pat he.2 z hz,λh=>dC (qgs q.pat z hz h []),λh1 s hs F=>?_⟩;have l:=d.cond z (qge q.pat u z hz h1);rw[<-b]at l;have I:(qiX c (bp q.pat []) t).en<=c.toks.length:=by show min t.e (c.toks.length:Int)<=_;omega
  exact qj3 (E:=⟨(qiX c (bp q.pat []) t).c,s.p,(qiX c (bp q.pat []) t).lb,qzL (qiX c (bp q.pat []) t) s⟩) ⟨hc.ok,hs.1,by show s.p<(c.toks.length:Int);omega,qoN _ s⟩ l (by decide)
open Cod (enc dec)
variable {S S0:Nat->Spc}
end
section
open Go.Proofs
open Cod (enc dec)
variable {S S0:Nat->Spc}
end
section
open Go.Proofs Cod
variable {dq:Prop}
def qqG:TQ dq pI UO:=
 ac (ag ae) RC (qmt)
def qnh:TQ dq dF UR:=
 ac (ag (aa iC ae)) yZ (qmw rfl)
def qwx:Nat->Spc:=J5 [(pI,UO),(dF,UR)]
def qnm:TQ dq cH (qec qwx):=
 ac (S:=qwx) (ag (aa qqG (aa qnh ae))) kS qmB
def qek:TQ dq aP (UV qwx):=
 ac (ag (aa qnm ae)) iz (qmC rfl)
def qqH:TQ dq fb qcm:=
 ac (ag (aa iC ae)) CG (qp2 rfl)
def qz3:Nat->Spc:=J5 [(fb,qcm)]
def qqJ:TQ dq fQ (qiL qz3):=
 ac (S:=qz3) (ag (aa qqH ae)) vi qp3
def qqK:TQ dq eY (qiO qz3):=
 ac (ag (aa qqJ ae)) sy (qp4 rfl)
def qi6:TQ dq gy Zc:=
 ac (ag (aa nc (aa dS (aa iC (aa qqK (aa EX ae)))))) vm (qhA (S0:=qz3) rfl rfl rfl rfl rfl rfl)
def Zo:∀n,TQ dq eb (qd6 n)
 | 0=>bF λx h=>by have:=h.1;have:=DZ x.1;omega
 |n+1=>aY (ag (aa qi6 (aa (Zo n) ae))) wD (λ_=>qFR rfl) (qmy n rfl rfl)
def qni:TQ dq eb Zd:=cw (λn=>Zo n) (dB (λx h=>⟨fL x.1,qFU _,h⟩))
def qqE:TQ dq pH qdU:=
 ac (ag ae) EQ (QZ)
def qej:∀n,TQ dq jx (Y2 n)
 | 0=>bF λx h=>by have:=h.1;have:=DZ x.1;omega
 |n+1=>aY (ag (aa (qej n) ae)) Kt (λ_=>qFR rfl) (JQ n rfl)
def qqF:TQ dq jx Y3:=cw (λn=>qej n) (dB (λx h=>h))
def qqI:TQ dq eu qd9:=
 ac (ag ae) RD (Q4)
def qz2(n:Nat):Nat->Spc:=J5 [(ga,OG n)]
def Zp:∀n,TQ dq mW (Zh n)
 | 0=>bF λx h=>by have:=h.1.1;have:=DZ x.1;omega
 | n+1=>
   have h1:TQ dq ga (OG n):=ac (ag (aa (Zp n) ae)) Kv (Mm n rfl);have h2:TQ dq eH (qiM (qz2 n)):=ac (S:=qz2 n) (ag (aa h1 ae)) qR sd;have h3:TQ dq dD (qiP (qz2 n)):=ac (ag (aa h2 ae)) od (oj rfl)
   ac (ag (aa h3 (aa qqI ae))) O8 (Q3 (S0:=qz2 n) n rfl rfl rfl)
def qnk:TQ dq mW Zi:=cw (λn=>Zp n) (dB (λx h=>by obtain⟨⟨n,h1⟩,h2⟩:=h;exact⟨n,h1,h2⟩))
def qnl:TQ dq mY Zj:=
 ac (ag (aa qqE (aa qqF (aa qnk ae)))) CH (NQ rfl rfl rfl)
def qng:TQ dq eI qd4:=
 ac (ag (aa xa (aa rM (aa zH (aa ol (aa qek ae)))))) qr (qmv (N:=qhc) (N2:=qwx) rfl rfl rfl rfl rfl rfl rfl rfl)
def qcu:TQ dq fq (HU qbd):=
 ac (ag (aa qng (aa ol (aa uC (aa lA (aa qek (aa qnl (aa qni ae)))))))) wE (qmp (N:=qwx) rfl rfl rfl rfl rfl rfl rfl rfl)
def HC:TQ dq ig EJ:=
 cw (λn=>zr n) (dB (λx h=>⟨x.2.1.toNat+1,Nat.lt_succ_self _,h⟩))
def LQ:∀n,TQ dq sM (HV n)
 | 0=>bF λx h=>absurd h.1 (Nat.not_lt_zero _)
 |n+1=>aY (ag (aa (LQ n) ae)) VC (λ_=>qFR rfl) (Uj n rfl)
def Yo:TQ dq sM EI:=
 cw (λn=>LQ n) (dB (λx h=>by obtain⟨n,h⟩:=h;exact⟨n+1,Nat.succ_pos _,h⟩))
def Zn:∀n,TQ dq Df (Sr n)
 | 0=>bF λx h=>absurd h.1 (Nat.not_lt_zero _)
 |n+1=>aY (ag (aa Yo (aa (Zn n) ae))) qf6 (λ_=>qFR rfl) (qft n rfl rfl)
def qhL:TQ dq Df Oz:=
 cw (λn=>Zn n) (dB (λx h=>by obtain⟨n,h⟩:=h;exact⟨n+1,Nat.succ_pos _,h⟩))
def SF:∀n,TQ dq rf (Z3 n)
 | 0=>sq λd ds H K ⟨id,v,l,a,x,h1,h2,h3,h4,h5⟩=>qcy h4.1
 |n+1=>zI (ag (aa (SF n) ae)) Pe (by decide) (XX n rfl)
def Lx:Tri dq Tryz.prog rf i_BoundA2.pt:=cw (λn=>SF n) λd ds H K ⟨id,v,l,a,x,h1,h2,h3,h4,h5⟩=>⟨dK x,id,v,l,a,x,h1,h2,h3,⟨qFU _,h4⟩,h5⟩
def qfC:Tri dq Tryz.prog rf s_Bound2.pt:=N6 (DM (ag (aa Lx ae)) Pe (λ_=>qFR rfl) (XY rfl)) Lx
def ub:∀n,TQ dq fe (Bo n)
 | 0=>bF λx h=>absurd h.1 (Nat.not_lt_zero _)
 |n+1=>aY (ag (aa dz (aa Jm (aa (ub n) ae)))) CL (λ_=>qFR rfl) (Mr n rfl rfl rfl)
def Ei:TQ dq fe yN:=
 cw (λn=>ub n) (dB (λx h=>h))
def MC:TQ dq tB LI:=
 ac (ag (aa dz (aa Jm ae))) KB (XW rfl rfl)
def N3:TQ dq vC OA:=
 ac (ag (aa dz (aa HC (aa qfC (aa qhL (aa Ei (aa MC ae))))))) MT (qbI rfl rfl rfl rfl rfl rfl)
end
section
open Cod (enc dec)
variable {S S0:Nat->Spc}
def qdq(_:D×Unit)(l r:List Span):Prop:=r.length=l.length/\(∀x,x∈r↔x∈l)/\WS r
abbrev FF:Spc:=ay (a2 (List Span) (List Span)) (λ_=>True) enc λx y=>y=decide (x.1=x.2)
def qbv:aq Dp Cn S (a2 (List Span) (List Span)) (λ_=>True) enc λx y=>y=decide (x.1=x.2):=by
 rintro⟨a,b⟩ -;simp[Dp,Cn];intro h1 h2;refine⟨λh3=>?_,λh3 _=>?_⟩
 ·intro e;subst e;omega
 ·have l:a.length=b.length:=by omega
  refine ah (X:=Unit) [0,1] [] a.length (λk _=>a.take k=b.take k) (λ_=>[]) (λ_=>[]) () (by simp) ?_ ?_
  ·intro k _ hk c;simp;refine⟨hk,λx j=>⟨by omega,λy d=>⟨λh=>?_,λh4 h5=>?_⟩⟩⟩
   ·intro e;subst e;rw[j]at d;cases d;simp at h
   ·rw[au j,au d,c,Span.ext' h4 h5]
  ·intro _ c;simp;rw[qGt (by omega),qGt (by omega)]at c;exact c
abbrev Ow:Spc:=ay (a2 Span Span) (λ_=>True) enc λx y=>y=decide (CW x.1 x.2)
def qbw:aq Dq Co S (a2 Span Span) (λ_=>True) enc λx y=>y=decide (CW x.1 x.2):=by
 rintro⟨a,b⟩ -;simp[Dq,Co];unfold CW;refine⟨λh=>⟨λe=>⟨λh1=>by omega,λh1=>by omega⟩,λe h1=>by omega⟩,λh=>by omega⟩
end
section
open Go.Proofs
def mH:CC:=gq Tryz.f101 [2,3] {} _
def mj:List ai:=[.tmp 4]
def qk:CC:=gq Tryz.f165 [] {} _
def oY:List ai:=[.tmp 4]
def qj:CC:=gq Tryz.f166 [2] {} _
def oW:List ai:=[.tmp 4]
def bw:CC:=gq Tryz.f99 [4,1047047,2049000,1047047] { bx:=[0] } _
def bu:List ai:=[]
def ql:CC:=oX [oB 1 (.box bL true (oT 0)),oB 2 (.mv (.const on))] [1] [] (.seq (oX [oD 5 13 1,oZ 6 un [oT 5],oA 3 6] [1,3] [] (oX [oA 7 3,oB 8 (.cmp .lss (oT 7) (oN 1)),oA 9 8,oI 10 9 (.mv (oT 3)),oI 11 9 (.cmp .gtr (oT 10) (oN 256)),oB 12 (.pick (oT 9) (.const (.bool true)) (oT 11))] [1,12] [] (.ite (oT 12) (oX [
 oB 2 (.mv (.const on))] [2] [] (.ret)) (.skip)))) (.keep [1] [] (qcf 5 (.reg [oB 13 (.build [oi,on] []),oB 14 (.box Fx false (oT 13)),oA 4 14]) (.keep [1,4] [14,47] (oX [oA 15 4,oD 16 13 1,oB 17 (.bslice bC 1 [oN 0]),oZ 18 bH [oT 15,oT 16,oT 17]] [4] [14,47] (oX [oA 19 4,oG 20 19,oE 21 1 20,oC 22 1 21,
 oZ 23 gK [oT 22,.func fC]] [4] [14,47] (oX [oA 24 4,oG 25 24,oE 26 1 25,oC 27 1 26,oZ 28 eS [oT 27],oA 2 28] [2] [47] (.ret))))))))
def pa:List ai:=[.tmp 2]
def jS:CC:=gq Tryz.f223 [] { bx:=[0],fz:=[(59,0)],cu:=[11] } _
def jG:List ai:=[.tmp 2]
def gO:CC:=gq Tryz.f102 [] { bx:=[0],fz:=[(59,0)],cu:=[11] } _
def gH:List ai:=[.tmp 2]
def jh:CC:=gq Tryz.f104 [4] {} _
def iK:List ai:=[.tmp 8]
def AT:CC:=gq Tryz.f41 [1] {} _
def zQ:List ai:=[.tmp 2]
def ok_estimate_compare:FO fC [2,3] mH mj 17:=fo
def Io:FO ij [] qk oY 22:=fo
def In:FO lO [2] qj oW 41:=fo
def xF:FO bH [4,1047047,2049000,1047047] bw bu 94:=fo
def Ip:FO lP [1] ql pa 29:=fo
def BI:FO kV [] jS jG 61:=fo
def xD:FO eS [] gO gH 61:=fo
def Ve:FO sE [4] jh iK 95:=fo
def Vf:FO C1 [1] AT zQ 13:=fo
open Cod (enc dec)
variable {S S0:Nat->Spc}
abbrev HP:Spc:=ay (a2 (List Span) Span) (λx=>SS x.1/\x.1.length<=1000000) enc λx y=>IsNorm (x.1++ [x.2]) y/\y.length<=x.1.length+1
theorem TP(h1:S Gj=Ow):aq xU xb S (a2 (List Span) Span) (λx=>SS x.1/\x.1.length<=1000000) enc λx y=>IsNorm (x.1++ [x.2]) y/\y.length<=x.1.length+1:=by
 rintro⟨l,s⟩ ⟨hl,hlen⟩;simp at hl hlen;simp[xU,xb];intro _;refine bh (X:=Nat) [0,3] [] (λk=>k<=l.length/\(∀x∈l.drop k,CW s x)/\(k=0\/ ∃y,l[k -1]? =some y/\ ¬CW s y)) (λk=>[(5,enc (k:Int))]) (λ_=>[]) ?_ ?_
 ·simp;refine aA (X:=Nat) [0,3] [] (λk=>k<=l.length/\∀x∈l.drop k,CW s x) (λk=>[(5,enc (k:Int))]) (λ_=>[]) (λk=>k) l.length (by simp) ?_;rintro k ⟨hk,t⟩;rcases qGV k with rfl|hk0
  ·simp;grind
  ·obtain⟨y,a⟩:=aU (l:=l) (k:=k -1) (by omega);have b:(k:Int) -1=((k -1:Nat):Int):=by omega
   have c:l.drop (k -1)=y::l.drop k:=by
    have:=bE a;rwa [Nat.sub_add_cancel hk0]at this
   have d:¬CW s y->∃x,(x<=l.length/\(∀j∈List.drop x l,CW s j)/\(x=0\/ ∃y,l[x -1]? =some y/\ ¬CW s y))/\(k:Int)=x:=λh=>⟨k,⟨hk,t, .inr ⟨y,a,h⟩⟩,rfl⟩
   have p:CW s y->∃y,(y<=l.length/\∀x∈List.drop y l,CW s x)/\(k:Int) -1=y/\y<k:=λh=>⟨k -1,⟨by omega,by rw[c];simpa using⟨h,t⟩⟩,b,by omega⟩
   simp[h1,hk0,a,InR];refine⟨⟨by omega,by omega⟩,by omega,by omega,λh=>⟨⟨by omega,by omega⟩,p h⟩,d⟩
 ·rintro k ⟨hk,h1,h2⟩;simp;have u:=ZK hl hk h1 h2;refine bh (X:=Unit) [0,3,5] [] (λ_=>∀y,0<k->l[k -1]? =some y->y≠s) (λ_=>[]) (λ_=>[]) ?_ ?_
  ·simp;rcases qGV k with rfl|hk0
   ·simp
   ·obtain⟨y,a⟩:=aU (l:=l) (k:=k -1) (by omega);simp[hk0,a,InR];refine⟨⟨⟨by omega,by omega⟩,by omega,by omega,λb c=>aM l (.same _) ⟨u.1 y hk0 a (Span.ext' b c),by simp⟩,?_⟩,by omega⟩;rintro h rfl;exact h rfl rfl
  ·intro _ q;have r:=u.2 q;simp;refine⟨hk,by omega,by omega,by omega,by omega,hk,by omega,by omega,λv=>aM (l.take k++s::l.drop k) (fM cv (by simp)) ⟨r,by simp;omega⟩⟩
def qbj(n:Nat)(x:Pat×Int×Int×List Span):Prop:=PPat n x.1/\0<=x.2.1/\x.2.1+200000*cX x.1<=1000000000000000/\0<=x.2.2.1/\x.2.2.1+cX x.1<=100000000/\SS x.2.2.2/\x.2.2.2.length+kE x.1<=100000
def qbg(x:Pat×Int×Int×List Span)(y:List Span):Prop:=SS y/\(∀s,s∈y↔s∈x.2.2.2\/SrcE x.1 x.2.1 x.2.2.1 s)/\y.length<=x.2.2.2.length+kE x.1
abbrev LE(n:Nat):Spc:=ay (a4 Pat Int Int (List Span)) (qbj n) enc qbg
theorem Xt(n:Nat)(h1:S AE=HP)(h2:S sE=LE n)(h3:S C7=DQ)(h4:S pD=uh):aq jh iK S (a4 Pat Int Int (List Span)) (qbj (n+1)) enc qbg:=by
 rintro⟨p,d,leaf,out⟩ ⟨hp,hd0,t,I,u,q,hlen⟩;simp only at hp hd0 t I u q hlen;have hk:∀k∈p.kids,PPat n k:=λk=>hp.kid
 have hs:∀k∈p.kids,eO (aS k):=λk h=>zA (v:=ax) k (hk k h).2
 have hn:=(dn hp.2).2.2;unfold lK at hn;rw[decide_eq_true_eq]at hn;rcases qT (dn hp.2).1 with⟨ho,l⟩|⟨ho,l⟩|⟨ho,c,ks,l⟩|⟨ho,c,l⟩
 ·simp[jh,iK,h1,ho,q];rw[kA,if_pos l]at hlen;refine⟨by omega,λy hy hy2=>aM y (by simp) ⟨hy.1,λs=>?_,by simp_all [kA]⟩⟩;rw[hy.2 s];simp[qh4 ho]
 ·have e:p.op≠1/\p.op≠4/\p.op≠6:=by omega
  simp[jh,iK,h1,e];exact aM out (by simp) ⟨q,λs=>⟨.inl,λh=>h.elim id λh=>absurd h (qh5 e _ _ _)⟩,by simp⟩
 ·by_cases w:p.op=4
  ·simp[jh,iK,w];intro _;rw[cO]at t u;rw[kA,if_neg (by grind),if_neg (by omega)]at hlen;refine ah (X:=Int×Int×List Span) [28] [] p.kids.length (λk x=>(0<=x.1/\x.1+200000*bB (p.kids.drop k)<=1000000000000000)/\(0<=x.2.1/\x.2.1+bB (p.kids.drop k)<=100000000)/\SS x.2.2/\x.2.2.length+lZ (p.kids.drop k)<=out.length+lZ p.kids/\∀s,(s∈x.2.2\/rJ (p.kids.drop k) x.1 x.2.1 s) ↔ (s∈out\/rJ p.kids d leaf s)) (λx=>[(1,enc x.1),(2,enc x.2.1),(3,enc x.2.2)]) (λ_=>[]) (d,leaf,out) ⟨by grind,by grind,q,by simp,by simp⟩ ?_ ?_
   ·rintro k ⟨Z,lf,o⟩ J ⟨⟨b0,b1⟩,⟨b2,A⟩,K,C,E⟩;simp only at b0 b1 b2 A K C E;obtain⟨x,F⟩:=aU J;have L:=aO F;obtain⟨_,hgx⟩:=qFN.1 F;rw[bE F,bB]at b1 A;rw[bE F,lZ]at C;have M:=hk x L;have N:=hs x L;have q3:qbj n (x,Z,lf,o):=⟨M,b0,by show Z+200000* (cX x:Int)<=_;omega,b2,by show lf+ (cX x:Int)<=_;omega,K,by show o.length+kE x<=_;omega⟩
    have q4:=iR x;have q5:1<=cX x:=by rw[cO];omega
    have q6:(am x).length<=100000000:=by omega
    simp[h2,h3,h4,J,F,hgx,M.2,q3,q6,io];clear h1 h2 h3 h4;rintro y ⟨c1,c2,c3⟩;simp only at c2 c3;unfold eO at N;have O:∀s,(s∈y\/((aS x).1=(aS x).2/\rJ (p.kids.drop (k+1)) (Z+ (aS x).1) (lf+ (am x).length) s)) ↔ (s∈out\/rJ p.kids d leaf s):=by
     intro s;rw[<-E s,bE F,rJ,c2 s,or_assoc]
    refine⟨λhne=>aM y (by simp) ⟨c1,λs=>?_,?_⟩,λhe=>⟨by simp only[InR];omega,λ_=>⟨by simp only[InR];omega,_,_,_,⟨⟨by omega,by omega⟩,⟨by omega,by omega⟩,c1,by omega,λs=>?_⟩,rfl,rfl,rfl⟩⟩⟩
    ·rw[qh3 w];show s∈y↔s∈out\/rJ p.kids d leaf s;rw[<-O s];exact⟨.inl,λh=>h.elim id λh=>absurd h.1 hne⟩
    ·show y.length<=out.length+kE p;rw[kA,if_neg (by rw[l];simp),if_neg (by omega)];omega
    ·rw[<-O s];simp[he]
   ·rintro⟨Z,lf,o⟩ ⟨⟨b0,b1⟩,⟨b2,A⟩,K,C,E⟩;simp only at K C E;rw[qGC]at C E;simp;refine aM o (by simp) ⟨K,λs=>?_,?_⟩
    ·rw[qh3 w];show s∈o↔s∈out\/rJ p.kids d leaf s;rw[<-E s,rJ,or_false]
    ·show o.length<=out.length+kE p;rw[kA,if_neg (by rw[l];simp),if_neg (by omega)];rw[lZ]at C;omega
  ·have e:p.op≠1/\p.op≠4/\p.op≠6:=by omega
   simp[jh,iK,h1,e];exact aM out (by simp) ⟨q,λs=>⟨.inl,λh=>h.elim id λh=>absurd h (qh5 e _ _ _)⟩,by simp⟩
 ·have M:=hk c (by rw[l];simp);have N:=hs c (by rw[l];simp);have hn:=hn ho;simp[jh,iK,ho,l,h3,M.2,io];have Q:kE p=(max 1 p.mn).toNat*kE c:=by rw[kA,l,if_neg (by simp),if_pos ho,lZ,lZ,qG9]
  have hpn:cX p=cX c+1:=by rw[cO,l,bB,bB]
  rw[hpn]at t u;rw[Q]at hlen;have hc1:=P8 c;refine aA (X:=Nat×List Span) [1,2,4,13,14] [] (λx=>(x.1:Int)<=p.mn/\SS x.2/\x.2.length<=out.length+x.1*kE c/\(∀s,s∈x.2↔s∈out\/ ∃i:Int,0<=i/\i<x.1/\(i=0\/(aS c).1=(aS c).2)/\SrcE c (d+i* (aS c).1) leaf s)) (λx=>[(3,enc x.2),(15,enc (x.1:Int))]) (λ_=>[]) (λx=>p.mn.toNat -x.1) (0,out) ?_ ?_
  ·refine⟨by simp;omega,q,by simp,λs=>⟨.inl,λh=>h.elim id ?_⟩⟩;rintro⟨i,h0,h1,_⟩;simp only at h1;omega
  rintro⟨j,o⟩ ⟨b0,b1,b2,A⟩;simp only at b0 b1 b2 A;simp[h2,ho,l];clear h1 h2 h3 h4;have r:(∀i:Int,0<=i->i<p.mn->(i=0\/(aS c).1=(aS c).2)->i<j)->Fin enc (qbg (p,d,leaf,out)) (D.list 2 (List.map enc o)) λx=>none:=λhi=>by
   refine aM o (by simp) ⟨b1,λs=>?_,?_⟩
   ·show s∈o↔s∈out\/SrcE p d leaf s;rw[A s,qm0 ho l];refine or_congr_right (exists_congr λi=>⟨λ⟨a1,a2,a3,a4⟩=>⟨a1,by omega,a3,a4⟩,λ⟨a1,a2,a3,a4⟩=>⟨a1,hi i a1 a2 a3,a3,a4⟩⟩)
   ·show o.length<=out.length+kE p;rw[Q];have:=qGe (kE c) (show j<=(max 1 p.mn).toNat by omega);omega
  have U:(j:Int)<p.mn->(j=0\/(aS c).1=(aS c).2)->InR IntKind.i64 (↑j* (aS c).fst)/\InR IntKind.i64 (d+ ↑j* (aS c).fst)/\qbj n (c,d+ ↑j* (aS c).fst,leaf,o)/\
   ∀ (y:List Span),qbg (c,d+ ↑j* (aS c).fst,leaf,o) y->InR IntKind.i64 (↑j+1)/\∃(a:Nat) (b:List Span),(↑a<=p.mn/\SS b/\b.length<=out.length+a*kE c/\∀(s:Span),s∈b↔s∈out\/ ∃i:Int,0<=i/\i< ↑a/\(i=0\/(aS c).fst=(aS c).snd)/\SrcE c (d+i* (aS c).fst) leaf s)/\
    (y=b/\(↑j+1:Int)= ↑a)/\p.mn.toNat -a<p.mn.toNat -j:=λhj W=>by
   unfold eO at N;have hm:=pp (show(0:Int)<=j by omega) (show(j:Int)<=16 by omega) N.1 N.2.1;have hm2:=qGe (kE c) (show j+1<=(max 1 p.mn).toNat by omega);rw[qGU]at hm2;refine⟨by simp only[InR];omega,by simp only[InR];omega,⟨M,by show 0<=d+ ↑j* (aS c).1;omega,by show d+ ↑j* (aS c).1+200000* (cX c:Int)<=_;omega,I,by show leaf+ (cX c:Int)<=_;omega,b1,by show o.length+kE c<=_;omega⟩,?_⟩;rintro y ⟨c1,c2,c3⟩;simp only at c2 c3;refine⟨by simp only[InR];omega,j+1,y,⟨by omega,c1,by rw[qGU];omega,λs=>?_⟩,⟨rfl,by omega⟩,by omega⟩;rw[c2 s,A s,or_assoc];refine or_congr_right ⟨λh=>?_,λh=>?_⟩
   ·rcases h with⟨i,a1,a2,a3,a4⟩|h
    ·exact⟨i,a1,by omega,a3,a4⟩
    ·exact⟨j,by omega,by omega,W.imp (λh=>by omega) id,h⟩
   ·obtain⟨i,a1,a2,a3,a4⟩:=h;by_cases e:i<j
    ·exact .inl ⟨i,a1,e,a3,a4⟩
    ·have:i=j:=by omega
     subst this;exact .inr a4
  exact⟨λhj=>⟨λY=>⟨λW=>U hj (.inr W),λW=>r λi i0 i1 i2=>by rcases i2 with i2|i2;omega;exact absurd i2 W⟩,λY=>U hj (.inl Y)⟩,λhj=>r λi i0 i1 i2=>by omega⟩
abbrev HQ:Spc:=ay (a4 Pat Int Int (List Span)) (λx=>∃n,qbj n x) enc qbg
def np(p:Pat):Prop:=cX p<=1000000/\kE p<=100000
def eA(p:Pat)(y:List Span):Prop:=if eP ax p=true/\fu p<=256 then SrcsOf p y else y=[]
abbrev yP:Spc:=quG (Y:=Span) a0 (λ_ l=>l.length<=100000) (λ_ l r=>r=wu l) cv 2
theorem yz:WU (Y:=Span) gO gH S a0 (λ_ l=>l.length<=100000) (λ_ l r=>r=wu l) cv 2:=by
 rintro v l ⟨⟩ hl;simp[gO,gH];refineλ_=>⟨λh=>?_,λh2=>?_⟩
 ·exact dL l (by simp) (P5 (by omega)).symm
 ·refine aA (X:=Nat) [0] [0] (λk=>1<=k/\k<=l.length/\wu (l.take k)=l.take k) (λk=>[(3,enc (k:Int))]) (λ_=>[]) (λk=>l.length -k) 1 ?_ ?_;grind [qk5]
  ·rintro k ⟨A,C,t⟩;by_cases s:k<l.length
   ·obtain⟨x,E⟩:=aU s;obtain⟨y,M⟩:=aU (l:=l) (k:=k -1) (by omega);have O:((k:Int) -1).toNat=k -1:=by omega
    have e2:((k:Int)<l.length):=by omega
    have F:¬l.length<=k:=by omega
    simp[E,M,InR,O,F];intro _ _;have c:=Tu A E M;refine⟨s,by omega,by omega,by omega,by omega,λQ U=>⟨C,?_⟩,λd=>⟨by omega,k+1,⟨by omega,by omega,?_⟩,by omega,by omega⟩⟩
    ·-- from here on elements W I
     have J:x=y:=Span.ext' Q U;rw[if_pos J]at c;refine bh (X:=Nat×List Span) [0] [] (λz=>z.2.length=l.length/\z.1<=l.length/\z.2.take z.1=wu l) (λz=>[(3,enc (z.1:Int))]) (λz=>[(0, .row v cv 2 (z.2.map enc))]) ?_ ?_
     ·simp;refine aA (X:=Nat×Nat×List Span) [0,4] [] (λz=>z.2.2.length=l.length/\1<=z.2.1/\k+z.2.1<=l.length/\z.1<k+z.2.1/\z.2.2.take z.1=wu (l.take (k+z.2.1))/\z.2.2.drop (k+z.2.1 -1)=l.drop (k+z.2.1 -1)) (λz=>[(3,enc (z.1:Int)),(5,enc (z.2.1:Int))]) (λz=>[(0, .row v cv 2 (z.2.2.map enc))]) (λz=>l.length -z.2.1) (k,1,l) ?_ ?_
      ·simp;refine⟨by omega,?_⟩;rw[c,t]
      ·rintro⟨i,j,cur⟩ ⟨c1,c2,c3,c4,w,q⟩;simp at c1 c2 c3 c4 w q;by_cases hj:j<l.length -k
       ·obtain⟨a,N⟩:=aU (l:=l) (k:=k+j) (by omega);obtain⟨b,hb⟩:=aU (l:=l) (k:=k+j -1) (by omega);have K:cur[k+j]? =some a:=(Nx q (by omega)).trans N;have L:cur[k+ (j -1)]? =some b:=by
         rw[show k+ (j -1)=k+j -1 by omega];exact(Nx q (qFU _)).trans hb
        obtain⟨u,Z⟩:=aU (l:=cur) (k:=i) (by omega);have hs:=Tu (j:=k+j) (by omega) N hb;have p:¬l.length -k<=j:=by omega
        simp[K,L,Z,InR,p];intro _ _;refine⟨by omega,by omega,by omega,by omega,by omega,by omega,λd=>⟨by omega,by omega,by omega,by omega,by omega,i+1,j+1,cur.set i a,⟨by simp;omega,by omega,by omega,by omega,?_,?_⟩,⟨by omega, .inl ?_⟩,by omega⟩,λq3 q4=>⟨by omega,i,j+1,cur,⟨c1,by omega,by omega,by omega,?_,?_⟩,⟨by omega, .inl rfl⟩,by omega⟩⟩
        ·rw[(rO (m:=k+j) (l:=l) (by omega) c4 (uA q (by omega))).1,w,show k+ (j+1)=k+j+1 by omega,hs,if_neg];rintro rfl;rcases d with h|h<;>exact h rfl
        ·rw[show k+ (j+1) -1=k+j by omega];exact(rO (m:=k+j) (l:=l) (by omega) c4 (uA q (by omega))).2
        ·exact qh9 cur i a
        ·rw[w,show k+ (j+1)=k+j+1 by omega,hs,if_pos (Span.ext' q3 q4)]
        ·exact uA q (by omega)
       ·have p:j=l.length -k:=by omega
        subst p;simp;intro _;refine⟨i,cur,⟨c1,by omega,?_⟩,rfl, .inl rfl⟩;rw[w,show k+ (l.length -k)=l.length by omega,qFX]
     ·rintro⟨i,cur⟩ ⟨c1,c2,c3⟩;simp at c1 c2 c3;simp;refine⟨by omega,by omega,λv=>dL (wu l) ?_ rfl⟩;have e:(wu l).map enc=(cur.map enc).take i:=by rw[<-c3,List.map_take]
      rw[e];simp[List.take_append,c1,c2]
    ·rw[if_neg (λe=>by subst e;exact d rfl rfl)]at c;rw[c,t,au E]
   ·have F:k=l.length:=by omega
    subst F;simp;rw[qFX]at t;exactλ_=>dL l (by simp) t.symm
section
variable {α:Type}[DecidableEq α]
def qtb(l:List α)(x:α):List α:=if l.getLast? =some x then l else l++ [x]
def vH(l:List α):List α:=l.foldl qtb []
theorem D4(l:List α)(x:α):vH (l++ [x])=qtb (vH l) x:=by simp[vH]
def qgW(l:List α):(vH l).getLast? =l.getLast?:=by
 refine uy (P:=λl=>(vH l).getLast? =l.getLast?) rfl (λl x a=>?_) l;grind [D4,qtb]
def qk8(l:List α):(vH l).length<=l.length:=by
 refine uy (P:=λl=>(vH l).length<=l.length) (qFU _) (λl x a=>?_) l;grind [D4,qtb]
def qk7(l:List α):∀x,x∈vH l↔x∈l:=by
 refine uy (P:=λl=>∀x,x∈vH l↔x∈l) (λx=>qHj) (λl y a x=>?_) l;grind [D4,qtb]
def P6{l:List α}(h:l.length< 2):vH l=l:=by
 match l,h with
 | [],_=>rfl
 | [x],_=>rfl
 |x::y::l,h=>grind
theorem qk6{l:List α}(h:1<=l.length):vH (l.take 1)=l.take 1:=P6 (by grind)
def Tw{l:List α}{j:Nat}{x y:α}(b:1<=j)(a:l[j]? =some x)(c:l[j -1]? =some y):vH (l.take (j+1))=if x=y then vH (l.take j)else vH (l.take j) ++ [x]:=by
 rw[au a,D4,qtb,qgW];grind
end
abbrev EK:Spc:=quG (Y:=Int) a0 (λ_ l=>l.length<=100000) (λ_ l r=>r=vH l) bC 1
theorem B3:WU (Y:=Int) jS jG S a0 (λ_ l=>l.length<=100000) (λ_ l r=>r=vH l) bC 1:=by
 rintro v l ⟨⟩ hl;simp[jS,jG];refineλ_=>⟨λh=>?_,λh2=>?_⟩
 ·exact dL l (by simp) (P6 (by omega)).symm
 ·refine aA (X:=Nat) [0] [0] (λk=>1<=k/\k<=l.length/\vH (l.take k)=l.take k) (λk=>[(3,enc (k:Int))]) (λ_=>[]) (λk=>l.length -k) 1 ?_ ?_;grind [qk6]
  ·rintro k ⟨w,A,C⟩;by_cases s:k<l.length
   ·obtain⟨x,E⟩:=aU s;obtain⟨y,M⟩:=aU (l:=l) (k:=k -1) (by omega);have O:((k:Int) -1).toNat=k -1:=by omega
    have e2:((k:Int)<l.length):=by omega
    have F:¬l.length<=k:=by omega
    simp[E,M,InR,O,F];intro _ _;have c:=Tw w E M;refine⟨s,by omega,by omega,by omega,by omega,λQ=>⟨A,?_⟩,λd=>⟨by omega,k+1,⟨by omega,by omega,?_⟩,by omega,by omega⟩⟩
    ·-- from here on elements U I
     have J:x=y:=Q;rw[if_pos J]at c;refine bh (X:=Nat×List Int) [0] [] (λz=>z.2.length=l.length/\z.1<=l.length/\z.2.take z.1=vH l) (λz=>[(3,enc (z.1:Int))]) (λz=>[(0, .row v bC 1 (z.2.map enc))]) ?_ ?_
     ·simp;refine aA (X:=Nat×Nat×List Int) [0,4] [] (λz=>z.2.2.length=l.length/\1<=z.2.1/\k+z.2.1<=l.length/\z.1<k+z.2.1/\z.2.2.take z.1=vH (l.take (k+z.2.1))/\z.2.2.drop (k+z.2.1 -1)=l.drop (k+z.2.1 -1)) (λz=>[(3,enc (z.1:Int)),(5,enc (z.2.1:Int))]) (λz=>[(0, .row v bC 1 (z.2.2.map enc))]) (λz=>l.length -z.2.1) (k,1,l) ?_ ?_;grind
      ·rintro⟨i,j,cur⟩ ⟨c1,c2,c3,c4,t,q⟩;simp at c1 c2 c3 c4 t q;by_cases hj:j<l.length -k
       ·obtain⟨a,N⟩:=aU (l:=l) (k:=k+j) (by omega);obtain⟨b,hb⟩:=aU (l:=l) (k:=k+j -1) (by omega);have K:cur[k+j]? =some a:=(Nx q (by omega)).trans N;have L:cur[k+ (j -1)]? =some b:=by
         rw[show k+ (j -1)=k+j -1 by omega];exact(Nx q (qFU _)).trans hb
        obtain⟨u,W⟩:=aU (l:=cur) (k:=i) (by omega);have hs:=Tw (j:=k+j) (by omega) N hb;have p:¬l.length -k<=j:=by omega
        simp[K,L,W,InR,p];intro _ _;refine⟨by omega,by omega,by omega,by omega,by omega,by omega,λd=>⟨by omega,by omega,by omega,by omega,by omega,i+1,j+1,cur.set i a,⟨by simp;omega,by omega,by omega,by omega,?_,?_⟩,⟨by omega, .inl ?_⟩,by omega⟩,λZ=>⟨by omega,i,j+1,cur,⟨c1,by omega,by omega,by omega,?_,?_⟩,⟨by omega, .inl rfl⟩,by omega⟩⟩
        ·rw[(rO (m:=k+j) (l:=l) (by omega) c4 (uA q (by omega))).1,t,show k+ (j+1)=k+j+1 by omega,hs,if_neg];rintro rfl;exact d rfl
        ·rw[show k+ (j+1) -1=k+j by omega];exact(rO (m:=k+j) (l:=l) (by omega) c4 (uA q (by omega))).2
        ·exact(qH3 ..).symm
        ·rw[t,show k+ (j+1)=k+j+1 by omega,hs,if_pos (Z)]
        ·exact uA q (by omega)
       ·have p:j=l.length -k:=by omega
        subst p;simp;intro _;refine⟨i,cur,⟨c1,by omega,?_⟩,rfl, .inl rfl⟩;rw[t,show k+ (l.length -k)=l.length by omega,qFX]
     ·rintro⟨i,cur⟩ ⟨c1,c2,c3⟩;simp at c1 c2 c3;simp;refine⟨by omega,by omega,λv=>dL (vH l) ?_ rfl⟩;have e:(vH l).map enc=(cur.map enc).take i:=by rw[<-c3,List.map_take]
      rw[e];simp[List.take_append,c1,c2]
    ·rw[if_neg (λe=>by subst e;exact d rfl)]at c;rw[c,C,au E]
   ·have F:k=l.length:=by omega
    subst F;simp;rw[qFX]at C;exactλ_=>dL l (by simp) C.symm
def Xb(x:List Int×Int):Prop:=x.1.length<=100000/\0<=x.2/\x.2<=1000000/\∀a∈x.1,0<=a/\a<=1000000000000000
abbrev lG:Spc:=ay (a2 (List Int) Int) Xb (enc (X:=List Int)) (λx y=>y=x.1.map (· +x.2))
theorem JV:aq qk oY S (a2 (List Int) Int) Xb (enc (X:=List Int)) (λx y=>y=x.1.map (· +x.2)):=by
 rintro⟨l,n⟩ ⟨hl,b,c,j⟩;simp only at hl b c j;simp[qk,oY];intro _;refine ah (X:=Value×List Int) [1,8] [] l.length (λk x=>x.2=(l.take k).map (· +n)) (λx=>[(5, .own 19 x.1)]) (λx=>[(19, .row x.1 bC 1 (x.2.map enc))]) (.slice none 0 0, []) (by simp) ?_ ?_ (hh:=by simp[isNilRow])
 ·rintro k ⟨v,m⟩ a hm;simp only at hm;obtain⟨x,d⟩:=aU a;have p:=j x (aO d);obtain⟨_,h⟩:=qFN.1 d;have q:m.length=k:=by grind
  simp[a,d,h];refine⟨by grind [InR],by omega,by omega,λv=> .inl ?_⟩;simp_all [qGP]
 ·rintro⟨v,m⟩ hm;simp only at hm;rw[qFX]at hm;simp;exact aM m (fM bC (by simp)) hm
abbrev s_Sort_int:Spc:=qs0 (Y:=Int) a0 (λ_ l=>l.length<=100000) (λ_ l r=>r.length=l.length/\∀x,x∈r↔x∈l) bC 1
def Xa(x:Pat×List Int):Prop:=x.1.op=6/\eP ax x.1=true/\x.2.length*kE x.1<=100000/\∀a∈x.2,0<=a/\a<=1000000000000000
def qfc(x:Pat×List Int)(y:List Int):Prop:=y.length<=x.2.length* (max 1 x.1.mn).toNat/\∀b,x.1.kids=[b]->∀z,z∈y↔ ∃a∈x.2,∃i:Int,0<=i/\i<x.1.mn/\(i=0\/(aS b).1=(aS b).2)/\z=a+i* (aS b).1
abbrev qv:Spc:=ay (a2 Pat (List Int)) Xa (enc (X:=List Int)) qfc
theorem JU(h1:S mX=DQ)(h2:S ij=lG)(h3:S wI=s_Sort_int)(h4:S kV=EK):aq qj oW S (a2 Pat (List Int)) Xa (enc (X:=List Int)) qfc:=by
 rintro⟨p,l⟩ ⟨ho,hp,hl,C⟩;simp only at ho hp hl C;rcases qT (dn hp).1 with⟨q,_⟩|⟨q,_⟩|⟨q,_⟩|⟨_,d,j⟩
 omega;omega;omega;have E:=ph hp (show d∈p.kids by grind);have s:eO (aS d):=zA d E;have hn:=(dn hp).2.2;unfold lK at hn;rw[decide_eq_true_eq]at hn;have hn:=hn ho;have I:kE p=(max 1 p.mn).toNat*kE d:=by simp_all [kA,lZ]
 have t:=P8 d;have J:l.length* (max 1 p.mn).toNat<=100000:=by
  have:=Nat.mul_le_mul_left (l.length* (max 1 p.mn).toNat) t;grind [Nat.mul_assoc]
 have u:l.length<=100000:=by
  have:=Nat.mul_le_mul_left l.length (show 1<=(max 1 p.mn).toNat by omega);omega
 simp[qj,oW,h1,j,E,io];refine⟨λhe=>aM [] (by simp) ⟨by simp,λk hk z=>?_⟩,λK=>⟨λF=>aM l (by simp) ⟨?_,λk hk z=>?_⟩,λF=>?_⟩⟩;grind
 ·exact qHx _ (by omega)
 ·rw[j]at hk;cases hk;constructor
  ·intro h;exact⟨z,h,0,qGT _,by grind, .inl rfl,by simp⟩
  grind
 ·refine ah (X:=Value×List Int) [1,5] [] p.mn.toNat (λk x=>x.2.length=l.length*k/\∀z,z∈x.2↔ ∃a∈l,∃i:Int,0<=i/\i<k/\z=a+i* (aS d).1) (λx=>[(7, .own 35 x.1)]) (λx=>[(35, .row x.1 bC 1 (x.2.map enc))]) (.slice none 0 0, []) (by grind) ?_ ?_ (hn:=by simp;omega) (hh:=by simp[isNilRow])
  ·rintro k ⟨v,m⟩ L ⟨hm,c⟩;simp only at hm c;unfold eO at s;have w:=pp (show(0:Int)<=k by omega) (show(k:Int)<=16 by omega) s.1 s.2.1;have M:Xb (l,(k:Int) * (aS d).1):=⟨u,w.1,by omega,C⟩
   simp[h2,M];clear h1 h2 h3 h4;have hb:m.length+l.length<=100000:=by
    have:=Nat.mul_le_mul_left l.length (show k+1<=(max 1 p.mn).toNat by omega);rw[Nat.mul_succ]at this;omega
   refine⟨by simp only[InR];omega,by omega,by omega,λv=>⟨v,m++l.map (· + (k:Int) * (aS d).1),⟨by rw[qGk,qGm,Nat.mul_succ,hm],λz=>?_⟩,rfl, .inl ⟨rfl,by simp⟩⟩⟩;rw[qF1,c z,qFV];constructor
   ·rintro(⟨a,b,i,h0,h1,h2⟩|⟨a,b,h2⟩)
    ·exact⟨a,b,i,h0,by omega,h2⟩
    ·exact⟨a,b,k,by omega,by omega,h2.symm⟩
   ·rintro⟨a,b,i,h0,h1,h2⟩;by_cases e:i<k
    ·exact .inl ⟨a,b,i,h0,e,h2⟩
    ·have:i=k:=by omega
     subst this;exact .inr ⟨a,b,h2.symm⟩
  ·rintro⟨v,m⟩ ⟨hm,c⟩;simp only at hm c;have y:m.length<=100000:=by
    have:l.length*p.mn.toNat<=l.length* (max 1 p.mn).toNat:=Nat.mul_le_mul_left _ (by omega);omega
   simp[h3,h4,y];clear h1 h2 h3 h4;intro r N A;refine⟨by omega,λv'=>aM (vH r) (fM bC (by simp)) ⟨?_,λk hk z=>?_⟩⟩
   ·show(vH r).length<=l.length* (max 1 p.mn).toNat;have:=qk8 r;have:l.length*p.mn.toNat<=l.length* (max 1 p.mn).toNat:=Nat.mul_le_mul_left _ (by omega);omega
   ·rw[j]at hk;cases hk;rw[qk7,A z,c z];refine exists_congr λa=>and_congr_right λ_=>exists_congr λi=>⟨λ⟨h0,h1,h2⟩=>⟨h0,by show i<p.mn;omega, .inr F,h2⟩,λ⟨h0,h1,_,h2⟩=>⟨h0,?_,h2⟩⟩
    have h1:i<p.mn:=h1;omega
end
end Go.Gv
