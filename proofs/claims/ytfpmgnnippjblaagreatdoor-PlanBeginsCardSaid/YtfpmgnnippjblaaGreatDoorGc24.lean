/- W81 -/
import Derived.Test.YtfpmgnnippjblaaGreatDoorGc23
set_option linter.all false
set_option maxRecDepth 100000
set_option maxHeartbeats 0
namespace Go.Gv
section
open Cod (enc dec)
variable {S S0:Nat->Spc}
theorem qbj(p:Pat):∀out,(kg p out).length<=out.length+cK p:=by
 induction p using fJ with|_ p b=>?_
 intro out;rw[qp,cP];split;grind [DV]
 ·have:∀(ks:List Pat) (o:List B),(∀k∈ks,k∈p.kids)->(ks.foldl (λo k=>kg k o) o).length<=o.length+bB ks:=by
   intro ks
   induction ks with
   |nil=>simp
   | cons k ks a=>
     grind [bB,kg]
  grind
def JG(ks:List Pat)(k:Nat)(lb:List B):((ks.take k).foldl (λo k=>kg k o) lb).length<=lb.length+bB (ks.take k):=by
 generalize ks.take k=l
 induction l generalizing lb<;>grind [bB,qbj]
def qdB(x:Cond×List B)(y:Cond):Prop:=y=zj x.2 x.1
abbrev Ic(n:Nat):Spc:=ax (a2 Cond (List B)) (ql8 n) (enc (X:=Cond)) qdB
theorem UB(n:Nat)(h1:S sO=Ic n):aq Bq Av S (a2 Cond (List B)) (ql8 (n+1)) (enc (X:=Cond)) qdB:=by
 rintro⟨c,lb⟩ ⟨_,hc⟩;simp only at hc;have hc:CS n c:=hc;simp[Bq,Av];intro b2 s;refine⟨λho _=>?_,λho hl=>?_⟩
 ·refine ah (X:=Unit) [2,4,13] [2,4] lb.length (λk _=>∀z∈lb.take k,z≠c.lab) (λ_=>[]) (λ_=>[]) () (by simp) ?_ ?_
  ·rintro k -hk hz;obtain⟨x,b⟩:=aR hk;obtain⟨_,d⟩:=qF4.1 b;simp[hk,b,d];refine⟨λj=>gp c.kids (.same _) ?_,λj z l=>?_⟩
   ·show Cond.mk _ _ _ _ _ _ _=zj lb c;rw[Jk,nk,if_pos ho,if_pos (j ▸aP b)]
   ·rw[au b]at l;grind
  ·rintro -hz;rw[qGc]at hz;simp;refine gp [] (.nil _) ?_;show _=zj lb c;rw[nk,if_pos ho,if_neg (λh=>hz _ h rfl)];rfl
 ·refine ah (X:=Value×List Cond) [1,2,4,29] [2,4] c.kids.length (λk x=>x.2=(c.kids.take k).map (zj lb)) (λx=>[(7, .own 40 x.1)]) (λx=>[(40, .row x.1 iE 7 (x.2.map enc))]) (.slice none 0 0, []) (by simp) ?_ ?_ (hh:=by simp[isNilRow])
  ·rintro k ⟨v,ks⟩ hk a;simp only at a;obtain⟨x,b⟩:=aR hk;obtain⟨_,d⟩:=qF4.1 b;obtain⟨m,hm,p⟩:=qsh hc (aP b);have hp:ql8 n (x,lb):=⟨by omega,by rw[hm];exact p⟩
   simp[hk,b,d,h1,hp];have:=qsg hc;have q:ks.length=k:=by rw[a,qGE,qGv];omega
   refineλy r=>⟨by omega,by omega,λv=> .inl ?_⟩
   obtain rfl:y=zj lb x:=r;rw[a,List.map_map,List.map_take,qG7];simp[b]
  ·rintro⟨v,ks⟩ a;simp only at a;simp;rw[qGc]at a;refine gp ks (fq iE (by simp)) ?_;show _=zj lb c;rw[nk,if_neg ho,a]
abbrev EX:Spc:=ax (a2 Cond (List B)) (λx=>∃n,CS n x.1) (enc (X:=Cond)) qdB
def Xq(x:Pat×List B)(y:Pat):Prop:=y=ni x.2 x.1
abbrev SJ(n:Nat):Spc:=ax (a2 Pat (List B)) (qdI n) (enc (X:=Pat)) Xq
theorem qfN(n:Nat)(h1:S sO=EX)(h2:S Dt=SJ n):aq Lr Kv S (a2 Pat (List B)) (qdI (n+1)) (enc (X:=Pat)) Xq:=by
 rintro⟨p,lb⟩ ⟨_,hp⟩;simp only at hp;have hp:PD n p:=hp;have b:=qnH hp;have q:=qq5 hp;simp[Lr,Kv,h1];intro b2 t;refine⟨b,λc hc _=>?_⟩;refine ah (X:=Value×List Pat) [1,2,4,14] [2,4] p.kids.length (λk x=>x.2=(p.kids.take k).map (ni lb)) (λx=>[(5, .own 25 x.1)]) (λx=>[(25, .row x.1 bM 13 (x.2.map enc))]) (.slice none 0 0, []) (by simp) ?_ ?_ (hh:=by simp[isNilRow])
 ·rintro k ⟨v,ks⟩ hk a;simp only at a;obtain⟨x,d⟩:=aR hk;obtain⟨_,h⟩:=qF4.1 d;obtain⟨m,hm,j⟩:=qq6 hp (aP d);have r:qdI n (x,lb):=⟨by omega,by rw[hm];exact j⟩
  have l:ks.length=k:=by rw[a,qGE,qGv];omega
  simp[hk,d,h,h2,r];refineλy s=>⟨by omega,by omega,λv=> .inl ?_⟩
  obtain rfl:y=ni lb x:=s;simp_all [qG7]
 ·rintro⟨v,ks⟩ a;simp only at a;rw[qGc]at a;simp;refine Ee c.kids ks (.same _) (fq bM (by simp)) ?_;show _=ni lb p;rw[sU,<-show c=zj lb p.cond from hc,a,Jk]
abbrev ON:Spc:=ax (a2 Pat (List B)) (λx=>∃n,PD n x.1) (enc (X:=Pat)) Xq
abbrev EY:Spc:=ax (aT (a2 Int (List B))) (λx=> -10<=x.2.1/\x.2.1<=100/\x.2.2.length<=1000) (enc (X:=Pat)) QO
def ql5(x:Pat)(l r:List B):Prop:=r=kg x l
abbrev qai(n:Nat):Spc:=qmn (X:=Pat) (Y:=B) (λx l=>dL x<=n/\qp6 x l) ql5 av 1
abbrev i_BoundA2:Spc:=qmn (X:=Pat) (Y:=B) qp6 ql5 av 1
theorem Yo(n:Nat)(h1:S rf=qai n):QK (X:=Pat) (Y:=B) wq vo S (λx l=>dL x<=n+1/\qp6 x l) ql5 av 1:=by
 rintro v lb p ⟨C,hl⟩;have hk:∀k∈p.kids,dL k<=n:=λk h=>by have:=kS h;omega
 have hl:lb.length+cK p<=1000000:=hl;have t:=cP p;simp[wq,vo];refine bh (X:=Unit) [1,2] [1] (λ_=>p.op=1->p.lab=E0) (λ_=>[]) (λ_=>[]) ?_ ?_
 ·simp;refine⟨λho=>⟨λhn _=>?_,λh _=>h⟩,λho h=>absurd h ho⟩;refine ah (X:=Unit) [1,2,17] [1] lb.length (λk _=>∀z∈lb.take k,z≠p.lab) (λ_=>[]) (λ_=>[]) () (by simp) ?_ ?_
  ·rintro k -b hz;obtain⟨x,c⟩:=aR b;obtain⟨_,d⟩:=qF4.1 c;simp[b,c,d];refine⟨λj=>dM lb (by simp) ?_,λj z q=>?_⟩
   ·show lb=kg p lb;rw[qp,if_pos ⟨ho,hn⟩,DV,if_pos (j ▸aP c)]
   ·rw[au c]at q;grind
  ·rintro -hz;rw[qGc]at hz;simp;refine⟨by omega,by omega,λv=>dM (lb++ [p.lab]) (by simp) ?_⟩;show _=kg p lb;rw[qp,if_pos ⟨ho,hn⟩,DV,if_neg λh=>hz _ h rfl]
 ·rintro -r;simp;intro u;refine ah (X:=Value×List B) [35] [] p.kids.length (λk x=>x.2=(p.kids.take k).foldl (λo k=>kg k o) lb) (λx=>[(1, .own 1 x.1)]) (λx=>[(1, .row x.1 av 1 (x.2.map enc))]) (v,lb) (by simp) ?_ ?_
  ·rintro k ⟨v,ls⟩ b a;simp only at a;obtain⟨x,c⟩:=aR b;obtain⟨_,d⟩:=qF4.1 c;have w:qp6 x ls:=by
    have h2:=JG p.kids k lb;have h3:=JG (p.kids.drop k) 1 ls;rw[<-a]at h2;have h4:bB (p.kids.take k) +bB (p.kids.drop k)=bB p.kids:=by rw[<-D6,qGB]
    rw[bE c,bB]at h4;show ls.length+cK x<=_;omega
   have s:=hk x (aP c);simp[b,c,d,h1,w,s];intro v' y A;obtain rfl:y=kg x ls:=A;refine .inl ?_;rw[au c,qIp,<-a];rfl
  ·rintro⟨v,ls⟩ a;simp only at a;rw[qGc]at a;simp;refine dM ls (by simp) ?_;show ls=kg p lb;rw[qp,if_neg λh=>h.2 (r h.1),a]
abbrev qkU:Spc:=qtq (Y:=B) (aE Pat (aD a0)) (λx=>x.2.1= .v (.slice none 0 0)/\qp6 x.1 []) (λx r=>ql5 x.1 [] r) av 1
theorem Yp(h1:S rf=i_BoundA2):qbr (Y:=B) wq vo S (aE Pat (aD a0)) (λx=>x.2.1= .v (.slice none 0 0)/\qp6 x.1 []) (λx r=>ql5 x.1 [] r) av 1:=by
 rintro⟨p,d,⟨⟩⟩ ⟨c,hl⟩;have c:d= .v (.slice none 0 0):=c;subst c;have hl:0+cK p<=1000000:=hl;have s:=cP p;simp[wq,vo];refine bh (X:=Unit) [1,2] [] (λ_=>p.op=1->p.lab=E0) (λ_=>[]) (λ_=>[]) ?_ ?_
 ·simp;refine⟨λho=>⟨λhn=>?_,λh _=>h⟩,λho h=>absurd h ho⟩;refine ah (X:=Unit) [1,2] [] 0 (λ_ _=>True) (λ_=>[]) (λ_=>[]) () trivial ?_ ?_;simp
  ·rintro - -;simp;refineλv=>dM [p.lab] (by simp) ?_
   show _=kg p [];rw[qp,if_pos ⟨ho,hn⟩,DV,if_neg (by simp)];rfl
 ·rintro -j;simp;intro t;refine ah (X:=Value×List B) [35] [] p.kids.length (λk x=>x.2=(p.kids.take k).foldl (λo k=>kg k o) []) (λx=>[(1, .own 1 x.1)]) (λx=>[(1, .row x.1 av 1 (x.2.map enc))]) (.slice none 0 0, []) (by simp) ?_ ?_ (hh:=by simp[isNilRow])
  ·rintro k ⟨v,ls⟩ b a;simp only at a;obtain⟨x,l⟩:=aR b;obtain⟨_,q⟩:=qF4.1 l;have u:qp6 x ls:=by
    have h2:=JG p.kids k [];have h3:=JG (p.kids.drop k) 1 ls;rw[<-a,qHI]at h2;have h4:bB (p.kids.take k) +bB (p.kids.drop k)=bB p.kids:=by rw[<-D6,qGB]
    rw[bE l,bB]at h4;show ls.length+cK x<=_;omega
   simp[b,l,q,h1,u];intro v' w y;obtain rfl:w=kg x ls:=y;simp_all [au]
  ·rintro⟨v,ls⟩ a;simp only at a;rw[qGc]at a;simp;refine dM ls (by simp) ?_;show ls=kg p [];rw[qp,if_neg λh=>h.2 (j h.1),a]
abbrev s_Bound2:Spc:=qq8 qkU i_BoundA2
def qdD(x:List Int×Int×List B)(y:Glob):Prop:=GG x.2.2 x.2.1.toNat y
def qFX(l:List B)(g:Glob):Prop:=g=GlobE\/GG l 2 g
def qDv{i:Nat}{a:B}(h:[(⟨#[97]⟩:B),⟨#[98,124,99]⟩,⟨#[46]⟩][i]? =some a):a∈QT:=aP h
def qDu{i:Nat}{a:B}(h:[(⟨#[83]⟩:B),⟨#[78,80]⟩,⟨#[86,80]⟩][i]? =some a):a∈qbB:=aP h
def qDt{i:Nat}{a:B}(h:[(⟨#[111,98,106]⟩:B),⟨#[100,101,116]⟩,⟨#[]⟩][i]? =some a):a∈Xo:=aP h
abbrev BE(n:Nat):Spc:=ax (aT (a2 Int (List B))) (QQ n) (enc (X:=Glob)) qdD
theorem MC(n:Nat)(h1:S bS=s_m_Next)(h2:S sP=yZ)(h3:S ff=BE n):aq lr kN S (aT (a2 Int (List B))) (QQ (n+1)) (enc (X:=Glob)) qdD:=by
 rintro⟨L,deep,lb⟩ ⟨hn,C,E,b,s⟩;simp only at hn C E b s;simp[lr,kN,h1];intro b6 k0 Q U;refine bh (X:=Int) [0,1,2,6] [6] (λk=>0<=k/\k< 13/\(deep< 1->k< 10)) (λk=>[(7,enc k)]) (λ_=>[]) ?_ ?_
 ·simp;grind
 rintro k ⟨q0,q1,q2⟩;simp[h1];refineλ_=>⟨by omega,λi hi=>⟨by omega,by omega,λa W _=>⟨by omega,λj hj=>⟨by omega,by omega,λc hc=>?_⟩⟩⟩⟩
 refine bh (X:=Unit) [0,1,2,6,7] [6] (λ_=>11<=k) (λ_=>[]) (λ_=>[]) ?_ ?_
 ·have d:1<=deep->QQ n (L,deep -1,lb):=λh=>⟨by show(deep -1).toNat<n;omega,by show -10<=deep -1;omega,by show deep -1<=100;omega,b,s⟩
  have p:a∈lb:=aP W;have u:c∈lb:=aP hc;have A:1<=deep->deep.toNat=(deep -1).toNat+1:=λh=>by omega
  simp[h1,h2,h3,Sz,YU,mP,rN, -Bool.forall_bool];refine⟨λ_=>jt [] [] (.nil _) (.nil _) (.bound _ a p),λ_=>⟨λ_ y q r=>⟨q,r,λv Y z _ _=>jt [] [] (.nil _) (.nil _) (.val _ a v _ p (qDv Y))⟩,λ_=>⟨λ_ y q r=>⟨q,r,λg F=>jt [] [] (.nil _) (.nil _) (.same _ a c g p u (qDy F))⟩,λ_=>⟨λ_ y q r=>⟨by simp only[InR];omega,λz I J=>⟨by simp only[InR];omega,jt [] [] (.nil _) (.nil _) (.dist _ a c _ _ p u (by omega) (by omega) (by omega) (by omega))⟩⟩,λ_=>⟨λ_ y q r=>⟨trivial,λt K=>jt [] [] (.nil _) (.nil _) (.reg _ a c t p u K)⟩,λ_=>⟨λ_=>jt [] [] (.nil _) (.nil _) (.head _ 6 a c (.inl rfl) p u),λ_=>⟨λ_=>jt [] [] (.nil _) (.nil _) (.head _ 7 a c (.inr rfl) p u),λ_=>⟨λ_ M y q r=>?_,λ_=>⟨λ_ y q r=>⟨q,r,λt K=>jt [] [] (.nil _) (.nil _) (.node _ a c t p u (qDu K))⟩,λ_=>⟨λ_ y q r z I J=>⟨by simp only[InR];omega,jt [] [] (.nil _) (.nil _) (.depth _ a _ _ p (by omega) (by omega) (by omega) (by omega))⟩,λ_=>⟨λO=>⟨by simp only[InR];omega,d (by omega),λg=>?_⟩,λ_=>by omega⟩⟩⟩⟩⟩⟩⟩⟩⟩⟩⟩
  ·refine uB (X:=Int×Value×List B) [0,6,11] [6] [] [] [] [] (λx=>(0<=x.1/\x.1+x.2.2.length<=2)/\∀z∈x.2.2,z∈Xo) (λx=>[(12,enc x.1)]) (λx=>[(11, .box M [.v (.int .i64 8), .v (.string a), .v (.string c), .v (.string ⟨#[]⟩), .v (.string ⟨#[]⟩), .v (.string ⟨#[]⟩), .v (.bool false), .v (.int .i64 0), .v (.int .i64 0), .own 111 x.2.1, .v (.slice none 0 0)]),(111, .row x.2.1 av 1 (x.2.2.map enc))]) (λx=>x.1.toNat) (y, .slice none 0 0, []) [11,111] (λ_=>rfl) (by decide) (by decide) ?_ ?_ ?_ ?_
   ·exact⟨⟨q,by simp;omega⟩,by simp⟩
   ·simp
   ·simp[isNilRow];exact .nilown 111
   ·rintro⟨i,v,l⟩ ⟨⟨Z,e2⟩,N⟩;simp only at Z e2 N;simp[h1,YU,mP,rN];exact⟨λhi z I J=>⟨I,J,λw hw=>⟨by omega,by omega,λv=>⟨by simp only[InR];omega,i -1,v,l++ [w],⟨⟨by omega,by simp;omega⟩,λz hz=>(qGi.1 hz).elim (N z) λh=>by simp at h;subst h;exact qDt hw⟩,⟨rfl, .inl (.inl rfl), .inl (.inl (by simp))⟩,by omega⟩⟩⟩,λhi=>jt l [] (fq av (by simp)) (.nil _) (.path _ a c l p u (by omega) N)⟩
  ·exactλF=>jt [] [g] (.nil _) (by simp) (by show GG lb deep.toNat _;rw[A (by omega)];exact .not _ _ F)
 ·rintro -hk;have d:QQ n (L,deep -1,lb):=⟨by show(deep -1).toNat<n;omega,by show -10<=deep -1;omega,by show deep -1<=100;omega,b,s⟩
  have A:deep.toNat=(deep -1).toNat+1:=by omega
  simp[h3,d];exact⟨by simp only[InR];omega,by simp only[InR];omega,by simp only[InR];omega,λy hy=>⟨by simp only[InR];omega,λz hz=>jt [] [y,z] (.nil _) (by simp) (by show GG lb deep.toNat _;rw[A];exact .two _ _ _ _ (by omega) hy hz)⟩⟩
abbrev za:Spc:=ax (aT (a2 Int (List B))) (λx=>∃n,QQ n x) (enc (X:=Glob)) qdD
abbrev LS:Spc:=ax (aT a0) bY (enc (X:=Filt)) (λ_ y=>GF y)
def Yn(h1:S bS=s_m_Next)(h2:S sP=yZ):aq rF qK S (aT a0) bY (enc (X:=Filt)) (λ_ y=>GF y):=by
 rintro⟨L,⟨⟩⟩ -;simp[rF,qK,h1,h2];refineλb y c d=>⟨by grind [InR],λz h j u k l=>⟨trivial,λt a=>?_⟩⟩
 exact aL (⟨1+y,decide (z=2),t⟩:Filt) (by simp) ⟨by grind,a⟩
def QN(x:List Int×Int)(q:Qry):Prop:=GQ x.2.toNat q
abbrev OO:Spc:=ax (aT (a1 Int)) (λx=>0<=x.2/\x.2<=5) (enc (X:=Qry)) QN
theorem qbV(h1:S bS=s_m_Next)(h2:S il=EY)(h3:S rf=s_Bound2)(h4:S Dt=ON)(h5:S ff=za)(h6:S tF=LS):
 aq tY tw S (aT (a1 Int)) (λx=>0<=x.2/\x.2<=5) (enc (X:=Qry)) QN:=by
 rintro⟨L,deep⟩ ⟨t,w⟩;simp only at t w;simp[tY,tw,h1];intro b4;refine bh (X:=List B) [0,1,4] [4] (λl=>qfD l/\l.length<=2) (λl=>[(5,enc l)]) (λ_=>[]) ?_ ?_
 ·simp[h1];exactλ_ _ _=>⟨λ_=>⟨[qsr,qtB],⟨λl hl=>by simpa using hl,by simp⟩,by simp[qsr,qtB]⟩,λ_ l hl=>by simp at hl⟩
 rintro lb ⟨A,N⟩;simp[h1,h2];refine⟨⟨by omega,by omega,by omega⟩,λy d b=>?_⟩;have J:WP lb deep.toNat y:=d.1.1;have C:PD deep.toNat y:=d.1.2;have K:cK y<=1000000:=by
  have:=(qdS _ y J (by omega)).2.2;have h2:2^ (deep.toNat+1)<=64:=Nat.pow_le_pow_right (n:=2) (by omega) (show deep.toNat+1<=6 by omega);omega
 have O:qp6 y []:=by show 0+cK y<=_;omega
 have E:∃n,PD n y:=⟨_,C⟩
 simp[h3,O];refine .inl λl hl=>?_
 have j:l=kg y []:=hl;have Q:l.length<=0+cK y:=by rw[j];exact qbj y []
 simp[h4,E];intro p hp z U W k;have hp:p=ni l y:=hp;have Y:∀g fs s,(g=GlobE\/GG l 2 g)->(fs.length<=1/\∀f∈fs,GF f)->(0<=s/\s< 4)->QN (L,deep) ⟨p,g,fs,s⟩:=by
  intro g fs s q c hs;have r:kg p []=l:=by rw[hp,qlG,<-j]
  refine⟨⟨lb,A,by show WP lb deep.toNat p;rw[hp];exact qmE _ _ J⟩,?_,by show g=GlobE\/GG (kg p []) 2 g;rw[r];exact q,c,hs⟩;show ∀y∈am p,GC (kg p []) 1 y.cond;rw[r,hp,qac];intro x Z;obtain⟨u,hu,rfl⟩:=qGd.1 Z;rw[sU];exact qrF (d.2 u hu)
 refine lE (X:=Glob) [0,4] [4] [] [] (qFX l) (λ_=>[(7, .bptr 7 k 0)]) (λg=>[(7, .box k [.v (.int .i64 p.op), .v (.int .i64 p.cond.op), .v (.string p.cond.name), .v (.string p.cond.arg), .v (.string p.cond.val), .v (.string p.cond.lab), .v (.bool p.cond.fold),enc p.cond.kids, .v (.string p.lab), .v (.string p.reg), .v (.int .i64 p.mn), .v (.int .i64 p.mx),enc p.kids, .v (.int .i64 g.op), .v (.string g.a), .v (.string g.b), .v (.string g.name), .v (.string g.arg), .v (.string g.val), .v (.bool g.fold), .v (.int .i64 g.mn), .v (.int .i64 g.mx),enc g.args,enc g.kids, .v (.slice none 0 0), .v (.int .i64 z)])]) [7] (λ_=>rfl) (by decide) ?_ ?_
 ·simp[h1,h5, -Bool.forall_bool];refineλ_=>⟨λF u M u1=>⟨λ_=>⟨⟨3,by show(2:Int).toNat< 3;decide,by show -10<=(2:Int);decide,by show(2:Int)<=100;decide,F,by show l.length<=1000000;omega⟩,λg q=>⟨g, .inr q, .inl (.inl ⟨rfl,rfl,rfl,rfl,rfl,rfl,rfl,rfl,rfl,rfl,rfl⟩)⟩⟩,λ_=>⟨⟨0,⟨#[]⟩,⟨#[]⟩,⟨#[]⟩,⟨#[]⟩,⟨#[]⟩,false,0,0, [], []⟩, .inl rfl, .inl ⟨rfl,rfl,rfl,rfl,rfl,rfl,rfl,rfl,rfl,rfl,rfl⟩⟩⟩,λ_=>⟨⟨0,⟨#[]⟩,⟨#[]⟩,⟨#[]⟩,⟨#[]⟩,⟨#[]⟩,false,0,0, [], []⟩, .inl rfl, .inl ⟨rfl,rfl,rfl,rfl,rfl,rfl,rfl,rfl,rfl,rfl,rfl⟩⟩⟩
 rintro g q;refine lE (X:=List Filt) [4] [4] [49] [] (λfs=>fs.length<=1/\∀f∈fs,GF f) (λ_=>[(7, .bptr 7 k 0)]) (λfs=>[(7, .box k [.v (.int .i64 p.op), .v (.int .i64 p.cond.op), .v (.string p.cond.name), .v (.string p.cond.arg), .v (.string p.cond.val), .v (.string p.cond.lab), .v (.bool p.cond.fold),enc p.cond.kids, .v (.string p.lab), .v (.string p.reg), .v (.int .i64 p.mn), .v (.int .i64 p.mx),enc p.kids, .v (.int .i64 g.op), .v (.string g.a), .v (.string g.b), .v (.string g.name), .v (.string g.arg), .v (.string g.val), .v (.bool g.fold), .v (.int .i64 g.mn), .v (.int .i64 g.mx),enc g.args,enc g.kids,enc fs, .v (.int .i64 z)])]) [7] (λ_=>rfl) (by decide) ?_ ?_
 ·simp[h1];intro u M u1;have ut:u.tdiv 2=u/2:=Int.tdiv_eq_ediv_of_nonneg M;rw[ut];refine⟨by simp only[InR];omega,?_⟩;refine uB (X:=Int×Value×List Filt) [0,4,7] [4] [] [] [] [] (λx=>(0<=x.1/\x.1+x.2.2.length<=1)/\∀f∈x.2.2,GF f) (λx=>[(8,enc x.1)]) (λx=>[(7, .box k [.v (.int .i64 p.op), .v (.int .i64 p.cond.op), .v (.string p.cond.name), .v (.string p.cond.arg), .v (.string p.cond.val), .v (.string p.cond.lab), .v (.bool p.cond.fold),enc p.cond.kids, .v (.string p.lab), .v (.string p.reg), .v (.int .i64 p.mn), .v (.int .i64 p.mx),enc p.kids, .v (.int .i64 g.op), .v (.string g.a), .v (.string g.b), .v (.string g.name), .v (.string g.arg), .v (.string g.val), .v (.bool g.fold), .v (.int .i64 g.mn), .v (.int .i64 g.mx),enc g.args,enc g.kids, .own 49 x.2.1, .v (.int .i64 z)]),(49, .row x.2.1 Sw 3 (x.2.2.map enc))]) (λx=>x.1.toNat) (u/2, .slice none 0 0, []) [7,49] (λ_=>rfl) (by decide) (by decide) ?_ ?_ ?_ ?_
  ·exact⟨⟨by show 0<=u/2;omega,by simp;omega⟩,by simp⟩
  ·simp
  ·simp[isNilRow];exact .nilown 49
  ·rintro⟨i,v,fs⟩ ⟨⟨e1,e2⟩,I⟩;simp only at e1 e2 I;simp[h6];refine⟨λhi=>⟨trivial,λy d=>⟨by omega,by omega,λv=>⟨by simp only[InR];omega,i -1,v,fs++ [y],⟨⟨by omega,by simp;omega⟩,λz hz=>(qGi.1 hz).elim (I z) λh=>by simp at h;subst h;exact d⟩,⟨rfl, .inl (.inl rfl), .inl (.inl (by simp))⟩,by omega⟩⟩⟩,λhi=>⟨fs,⟨by omega,I⟩, .inl (fq Sw (by simp[qeV]))⟩⟩
 ·rintro fs c;simp;exact aL (⟨p,g,fs,z⟩:Qry) (by simp) (Y _ _ _ q c ⟨U,W⟩)
end
section
open Go.Proofs
theorem qn3{lb:List B} :∀n p,WP lb n p->∀out:List B,bp p out=kg p out:=by
 refine JS λn p hp l out=>?_
 have hk:∀ks:List Pat,(∀k∈ks,k∈p.kids)->∀o:List B,ks.foldl (λo k=>bp k o) o=ks.foldl (λo k=>kg k o) o:=by
  intro ks
  induction ks with
  |nil=>intro _ o;rfl
  | cons k ks d=>
    intro h o;obtain⟨m,_,_,hi⟩:=l k (h k (by simp));rw[qHf,qHf,hi,d λz hz=>h z (by simp[hz])]
 have c:p.op≠1->p.lab=E0->bp p out=kg p out:=λh1 h2=>by
  rw[pr,qp,mN,if_pos h2,if_neg (λh=>h1 h.1)];exact hk _ (λ_ h=>h) _
 rcases yL hp with(⟨h1,h2,h3,h4,h5,h6⟩|⟨h1,h2,h3,h4,h5,h6,j⟩)|⟨m,rfl,(⟨h1,h2,h3,h4,h5,h6,a,b,j,_⟩|⟨h1,h2,h3,h4,h5,a,j,_⟩)⟩
 ·rw[pr,qp,h6,mN];by_cases h:p.lab=E0
  ·rw[if_pos h,if_neg (λx=>x.2 h)];rfl
  ·rw[if_neg h,if_pos ⟨h1,h⟩];rfl
 ·exact c (by omega) h3
 ·exact c (by omega) h3
 ·exact c (by omega) h3
def qht{out:List B}{x y:B}(h:y∈out):y∈mN out x:=by
 unfold mN DV;split
 ·exact h
 ·split
  ·exact h
  ·simp[h]
def qhs{out:List B}{x:B}(h:x≠E0):x∈mN out x:=by
 unfold mN DV;rw[if_neg h];split
 ·assumption
 ·simp
def qo8{out:List B}{x:B}(h:out.Nodup):(mN out x).Nodup:=by
 unfold mN DV;split
 ·exact h
 ·split
  ·exact h
  ·rename_i c;rw[List.nodup_append];exact⟨h,by simp,λa d b hb=>by simp at hb;subst hb;exactλe=>c (e ▸d)⟩
def qgO(p:Pat):∀(out:List B) (y:B),y∈out->y∈bp p out:=by
 induction p using fJ with|_ p b=>?_
 intro out y h;rw[pr];have:∀ks:List Pat,(∀k∈ks,k∈p.kids)->∀o:List B,y∈o->y∈ks.foldl (λo k=>bp k o) o:=by
  intro ks
  induction ks with
  |nil=>intro _ o h;exact h
  |cons k ks a=>intro hk o h;exact a (λz hz=>hk z (by simp[hz])) _ (b k (hk k (by simp)) o y h)
 exact this _ (λ_ h=>h) _ (qht h)
def qn2(p:Pat):∀(out:List B),out.Nodup->(bp p out).Nodup:=by
 induction p using fJ with|_ p b=>?_
 intro out h;rw[pr];have:∀ks:List Pat,(∀k∈ks,k∈p.kids)->∀o:List B,o.Nodup->(ks.foldl (λo k=>bp k o) o).Nodup:=by
  intro ks
  induction ks with
  |nil=>intro _ o h;exact h
  |cons k ks a=>intro hk o h;exact a (λz hz=>hk z (by simp[hz])) _ (b k (hk k (by simp)) o h)
 exact this _ (λ_ h=>h) _ (qo8 h)
theorem qgN(p:Pat):∀q∈tC p,q.lab≠E0->∀out:List B,q.lab∈bp p out:=by
 induction p using fJ with|_ p c=>?_
 intro q hq hl out;rw[pr];have hm:∀ks:List Pat,∀o:List B,q.lab∈o->q.lab∈ks.foldl (λo k=>bp k o) o:=by
  intro ks
  induction ks with
  |nil=>intro o h;exact h
  |cons k ks a=>intro o h;exact a _ (qgO k o _ h)
 cases p with
 | mk op cond lab reg mn mx ks=>
   rw[tC]at hq;rcases qGm.1 hq with rfl|hq
   ·exact hm _ _ (qhs hl)
   ·obtain⟨k,hk,hq⟩:=wQ hq;have:∀l:List Pat,k∈l->∀o:List B,q.lab∈l.foldl (λo k=>bp k o) o:=by
     intro l
     induction l with
     |nil=>intro h;cases h
     | cons z l b=>
       intro h o;rw[qHf];rcases qGm.1 h with rfl|h
       ·exact hm _ _ (c k hk q hq hl _)
       ·exact b h _
    exact this _ hk _
def qeW{n:Nat}{q:Qry}(h:GQ n q):bp q.pat []=kg q.pat []/\(bp q.pat []).length<=2:=by
 obtain⟨lb,hl,b⟩:=h.lab;have e:=qn3 n q.pat b [];refine⟨e,?_⟩;have hm:∀y∈bp q.pat [],y=qsr\/y=qtB:=λy a=>by
  rw[e]at a;rcases qo0 n q.pat b [] y a with h|h
  ·cases h
  ·exact hl y h
 refine qgx (f:=λy=>if y=qsr then 0 else 1) (qn2 q.pat [] qIc) (λy _=>by split<;>omega) λx c y a=>?_
 rcases hm x c with rfl|rfl<;>rcases hm y a with rfl|rfl
 ·exactλ_=>rfl
 ·rw[if_pos rfl,if_neg (by decide)];exactλh=>by cases h
 ·rw[if_neg (by decide),if_pos rfl];exactλh=>by cases h
 ·exactλ_=>rfl
theorem qj2{n:Nat}{c:Corpus}{q:Qry}(hc:qbC c)(d:GQ n q)(hn:n<=5):qwS qbs c q:=by
 obtain⟨lb,hl,r⟩:=d.lab;have a:eX ay q.pat=true:=qmD hl qqp n q.pat r (by omega);obtain⟨b,w⟩:=qeW d;obtain⟨_,y,A⟩:=qdS n q.pat r hn;have h3:(3:Int) ^n<=243:=by
  rcases n with _|_|_|_|_|_|n
  all_goals first|decide|omega
 have h2:2^ (n+1)<=64:=by
  rcases n with _|_|_|_|_|_|n
  all_goals first|decide|omega
 have j:cK q.pat<=1000000:=by omega
 have k:(bp q.pat []).length<=3:=by omega
 have he:cm pm q.pat=true/\cm lJ q.pat=true:=by
  unfold eX at a;simp only[qF9]at a;exact⟨a.1.1.2,a.2⟩
 have u:ER rL q.pat:=zq (GS q.pat he.1) λq h=>(qU q).1 h
 refine⟨⟨by rw[b];exact d.glob,d.filts.2,d.strat,a,by omega,k,j,hc.ok.1,λx C=>?_⟩,⟨hc.ok.sz,by have:=hc.few;omega,a,k,j,λt J=>?_⟩⟩
 ·have l:=d.cond x C;rw[b,hc.ok.1];exact⟨qrd l (by omega),qrk l⟩
 ·intro z hz;refine⟨u z hz,GS q.pat he.2 z hz,λh=>dC (qgN q.pat z hz h []),λh1 s hs F=>?_⟩;have l:=d.cond z (qgz q.pat u z hz h1);rw[<-b]at l;have I:(qjj c (bp q.pat []) t).en<=c.toks.length:=by show min t.e (c.toks.length:Int)<=_;omega
  exact qkm (E:=⟨(qjj c (bp q.pat []) t).c,s.p,(qjj c (bp q.pat []) t).lb,qz4 (qjj c (bp q.pat []) t) s⟩) ⟨hc.ok,hs.1,by show s.p<(c.toks.length:Int);omega,qo5 _ s⟩ l (by decide)
open Cod (enc dec)
variable {S S0:Nat->Spc}
end
section
open Go.Proofs
open Cod (enc dec)
variable {S S0:Nat->Spc}
end
section
open Go.Proofs Cod
variable {dq:Prop}
def qqY:TQ dq pJ U9:=
 ac (ag ae) RT (qmL)
def qnz:TQ dq dF Vc:=
 ac (ag (aa iD ae)) zu (qmO rfl)
def qwR:Nat->Spc:=Kj [(pJ,U9),(dF,Vc)]
def qnE:TQ dq cH (qet qwR):=
 ac (S:=qwR) (ag (aa qqY (aa qnz ae))) kT qmT
def qeB:TQ dq aQ (Vg qwR):=
 ac (ag (aa qnE ae)) iB (qmU rfl)
def qqZ:TQ dq fe qcw:=
 ac (ag (aa iD ae)) CY (qql rfl)
def qAm:Nat->Spc:=Kj [(fe,qcw)]
def qq1:TQ dq fR (qi6 qAm):=
 ac (S:=qAm) (ag (aa qqZ ae)) vv qqm
def qq2:TQ dq eZ (qi9 qAm):=
 ac (ag (aa qq1 ae)) sA (qqn rfl)
def qjs:TQ dq gz Zt:=
 ac (ag (aa nf (aa dT (aa iD (aa qq2 (aa Ff ae)))))) vy (qhV (S0:=qAm) rfl rfl rfl rfl rfl rfl)
def ZF:∀n,TQ dq ed (qen n)
 | 0=>bF λx h=>by have:=h.1;have:=Ed x.1;omega
 |n+1=>aY (ag (aa qjs (aa (ZF n) ae))) wO (λ_=>qF8 rfl) (qmQ n rfl rfl)
def qnA:TQ dq ed Zu:=cw (λn=>ZF n) (dB (λx h=>⟨fM x.1,qGb _,h⟩))
def qqW:TQ dq pI qeb:=
 ac (ag ae) E8 (Rf)
def qeA:∀n,TQ dq jy (Zi n)
 | 0=>bF λx h=>by have:=h.1;have:=Ed x.1;omega
 |n+1=>aY (ag (aa (qeA n) ae)) KG (λ_=>qF8 rfl) (J1 n rfl)
def qqX:TQ dq jy Zj:=cw (λn=>qeA n) (dB (λx h=>h))
def qq0:TQ dq ez qeq:=
 ac (ag ae) RU (Rk)
def qAl(n:Nat):Nat->Spc:=Kj [(gc,OU n)]
def ZG:∀n,TQ dq mX (Zy n)
 | 0=>bF λx h=>by have:=h.1.1;have:=Ed x.1;omega
 | n+1=>
   have h1:TQ dq gc (OU n):=ac (ag (aa (ZG n) ae)) KI (Mx n rfl);have h2:TQ dq eH (qi7 (qAl n)):=ac (S:=qAl n) (ag (aa h1 ae)) qR se;have h3:TQ dq dD (qja (qAl n)):=ac (ag (aa h2 ae)) od (ol rfl)
   ac (ag (aa h3 (aa qq0 ae))) Po (Rj (S0:=qAl n) n rfl rfl rfl)
def qnC:TQ dq mX Zz:=cw (λn=>ZG n) (dB (λx h=>by obtain⟨⟨n,h1⟩,h2⟩:=h;exact⟨n,h1,h2⟩))
def qnD:TQ dq mZ ZA:=
 ac (ag (aa qqW (aa qqX (aa qnC ae)))) CZ (N5 rfl rfl rfl)
def qny:TQ dq eI qel:=
 ac (ag (aa xp (aa rM (aa zU (aa om (aa qeB ae)))))) qr (qmN (N:=qhw) (N2:=qwR) rfl rfl rfl rfl rfl rfl rfl rfl)
def qcF:TQ dq ft (Ib qbs):=
 ac (ag (aa qny (aa om (aa uK (aa lB (aa qeB (aa qnD (aa qnA ae)))))))) wP (qmH (N:=qwR) rfl rfl rfl rfl rfl rfl rfl rfl)
def HP:TQ dq il EY:=
 cw (λn=>zH n) (dB (λx h=>⟨x.2.1.toNat+1,Nat.lt_succ_self _,h⟩))
def L0:∀n,TQ dq sO (Ic n)
 | 0=>bF λx h=>absurd h.1 (Nat.not_lt_zero _)
 |n+1=>aY (ag (aa (L0 n) ae)) VX (λ_=>qF8 rfl) (UB n rfl)
def YE:TQ dq sO EX:=
 cw (λn=>L0 n) (dB (λx h=>by obtain⟨n,h⟩:=h;exact⟨n+1,Nat.succ_pos _,h⟩))
def ZE:∀n,TQ dq Dt (SJ n)
 | 0=>bF λx h=>absurd h.1 (Nat.not_lt_zero _)
 |n+1=>aY (ag (aa YE (aa (ZE n) ae))) qgr (λ_=>qF8 rfl) (qfN n rfl rfl)
def qh6:TQ dq Dt ON:=
 cw (λn=>ZE n) (dB (λx h=>by obtain⟨n,h⟩:=h;exact⟨n+1,Nat.succ_pos _,h⟩))
def SY:∀n,TQ dq rf (qai n)
 | 0=>sr λd ds H K ⟨id,v,l,a,x,h1,h2,h3,h4,h5⟩=>qcJ h4.1
 |n+1=>zV (ag (aa (SY n) ae)) Pu (by decide) (Yo n rfl)
def LI:Tri dq Tryz.prog rf i_BoundA2.pt:=cw (λn=>SY n) λd ds H K ⟨id,v,l,a,x,h1,h2,h3,h4,h5⟩=>⟨dL x,id,v,l,a,x,h1,h2,h3,⟨qGb _,h4⟩,h5⟩
def qfW:Tri dq Tryz.prog rf s_Bound2.pt:=Om (DZ (ag (aa LI ae)) Pu (λ_=>qF8 rfl) (Yp rfl)) LI
def uh:∀n,TQ dq ff (BE n)
 | 0=>bF λx h=>absurd h.1 (Nat.not_lt_zero _)
 |n+1=>aY (ag (aa cX (aa Jy (aa (uh n) ae)))) C5 (λ_=>qF8 rfl) (MC n rfl rfl rfl)
def Ew:TQ dq ff za:=
 cw (λn=>uh n) (dB (λx h=>h))
def MN:TQ dq tF LS:=
 ac (ag (aa cX (aa Jy ae))) KP (Yn rfl rfl)
def Oi:TQ dq vM OO:=
 ac (ag (aa cX (aa HP (aa qfW (aa qh6 (aa Ew (aa MN ae))))))) M5 (qbV rfl rfl rfl rfl rfl rfl)
end
section
open Cod (enc dec)
variable {S S0:Nat->Spc}
def qdF(_:D×Unit)(l r:List Span):Prop:=r.length=l.length/\(∀x,x∈r↔x∈l)/\WS r
abbrev OK:Spc:=ax (a2 (List Span) (List Span)) (λ_=>True) enc λx y=>y=decide (x.1=x.2)
def qbI:aq DD CE S (a2 (List Span) (List Span)) (λ_=>True) enc λx y=>y=decide (x.1=x.2):=by
 rintro⟨a,b⟩ -;simp[DD,CE];intro h1 h2;refine⟨λh3=>?_,λh3 _=>?_⟩
 ·intro e;subst e;omega
 ·have l:a.length=b.length:=by omega
  refine ah (X:=Unit) [0,1] [] a.length (λk _=>a.take k=b.take k) (λ_=>[]) (λ_=>[]) () (by simp) ?_ ?_
  ·intro k _ hk c;simp;refine⟨hk,λx j=>⟨by omega,λy d=>⟨λh=>?_,λh4 h5=>?_⟩⟩⟩
   ·intro e;subst e;rw[j]at d;cases d;simp at h
   ·rw[au j,au d,c,Span.ext' h4 h5]
  ·intro _ c;simp;rw[qGR (by omega),qGR (by omega)]at c;exact c
abbrev FV:Spc:=ax (a2 Span Span) (λ_=>True) enc λx y=>y=decide (B6 x.1 x.2)
def qbJ:aq DE CG S (a2 Span Span) (λ_=>True) enc λx y=>y=decide (B6 x.1 x.2):=by
 rintro⟨a,b⟩ -;simp[DE,CG];unfold B6;refine⟨λh=>⟨λe=>⟨λh1=>by omega,λh1=>by omega⟩,λe h1=>by omega⟩,λh=>by omega⟩
end
section
open Go.Proofs
def mI:CC:=gq Tryz.f101 [2,3] {} _
def mj:List ai:=[.tmp 4]
def qk:CC:=gq Tryz.f165 [] {} _
def oY:List ai:=[.tmp 4]
def qj:CC:=gq Tryz.f166 [2] {} _
def oW:List ai:=[.tmp 4]
def bw:CC:=gq Tryz.f99 [4,1047047,2049000,1047047] { bx:=[0] } _
def bu:List ai:=[]
def ql:CC:=oX [oB 1 (.box bM true (oT 0)),oB 2 (.mv (.const on))] [1] [] (.seq (oX [oD 5 13 1,oZ 6 ux [oT 5],oA 3 6] [1,3] [] (oX [oA 7 3,oB 8 (.cmp .lss (oT 7) (oN 1)),oA 9 8,oI 10 9 (.mv (oT 3)),oI 11 9 (.cmp .gtr (oT 10) (oN 256)),oB 12 (.pick (oT 9) (.const (.bool true)) (oT 11))] [1,12] [] (.ite (oT 12) (oX [
 oB 2 (.mv (.const on))] [2] [] (.ret)) (.skip)))) (.keep [1] [] (qcp 5 (.reg [oB 13 (.build [oi,on] []),oB 14 (.box FM false (oT 13)),oA 4 14]) (.keep [1,4] [14,47] (oX [oA 15 4,oD 16 13 1,oB 17 (.bslice bC 1 [oN 0]),oZ 18 bH [oT 15,oT 16,oT 17]] [4] [14,47] (oX [oA 19 4,oG 20 19,oE 21 1 20,oC 22 1 21,
 oZ 23 gL [oT 22,.func fC]] [4] [14,47] (oX [oA 24 4,oG 25 24,oE 26 1 25,oC 27 1 26,oZ 28 eR [oT 27],oA 2 28] [2] [47] (.ret))))))))
def pa:List ai:=[.tmp 2]
def jT:CC:=gq Tryz.f223 [] { bx:=[0],fz:=[(59,0)],cu:=[11] } _
def jI:List ai:=[.tmp 2]
def gP:CC:=gq Tryz.f102 [] { bx:=[0],fz:=[(59,0)],cu:=[11] } _
def gI:List ai:=[.tmp 2]
def ji:CC:=gq Tryz.f104 [4] {} _
def iL:List ai:=[.tmp 8]
def A7:CC:=gq Tryz.f41 [1] {} _
def Ad:List ai:=[.tmp 2]
def ok_estimate_compare:FO fC [2,3] mI mj 17:=fo
def IA:FO io [] qk oY 22:=fo
def Iz:FO lN [2] qj oW 41:=fo
def xT:FO bH [4,1047047,2049000,1047047] bw bu 94:=fo
def IB:FO lO [1] ql pa 29:=fo
def BX:FO kW [] jT jI 61:=fo
def xR:FO eR [] gP gI 61:=fo
def Vy:FO sF [4] ji iL 95:=fo
def Vz:FO wU [1] A7 Ad 13:=fo
open Cod (enc dec)
variable {S S0:Nat->Spc}
abbrev H7:Spc:=ax (a2 (List Span) Span) (λx=>SS x.1/\x.1.length<=1000000) enc λx y=>IsNorm (x.1++ [x.2]) y/\y.length<=x.1.length+1
theorem Uh(h1:S AS=FV):aq yi xr S (a2 (List Span) Span) (λx=>SS x.1/\x.1.length<=1000000) enc λx y=>IsNorm (x.1++ [x.2]) y/\y.length<=x.1.length+1:=by
 rintro⟨l,s⟩ ⟨hl,hlen⟩;simp at hl hlen;simp[yi,xr];intro _;refine bh (X:=Nat) [0,3] [] (λk=>k<=l.length/\(∀x∈l.drop k,B6 s x)/\(k=0\/ ∃y,l[k -1]? =some y/\ ¬B6 s y)) (λk=>[(5,enc (k:Int))]) (λ_=>[]) ?_ ?_
 ·simp;refine aA (X:=Nat) [0,3] [] (λk=>k<=l.length/\∀x∈l.drop k,B6 s x) (λk=>[(5,enc (k:Int))]) (λ_=>[]) (λk=>k) l.length (by simp) ?_;rintro k ⟨hk,t⟩;rcases qHa k with rfl|hk0
  ·simp;grind
  ·obtain⟨y,a⟩:=aR (l:=l) (k:=k -1) (by omega);have b:(k:Int) -1=((k -1:Nat):Int):=by omega
   have c:l.drop (k -1)=y::l.drop k:=by
    have:=bE a;rwa [Nat.sub_add_cancel hk0]at this
   have d:¬B6 s y->∃x,(x<=l.length/\(∀j∈List.drop x l,B6 s j)/\(x=0\/ ∃y,l[x -1]? =some y/\ ¬B6 s y))/\(k:Int)=x:=λh=>⟨k,⟨hk,t, .inr ⟨y,a,h⟩⟩,rfl⟩
   have p:B6 s y->∃y,(y<=l.length/\∀x∈List.drop y l,B6 s x)/\(k:Int) -1=y/\y<k:=λh=>⟨k -1,⟨by omega,by rw[c];simpa using⟨h,t⟩⟩,b,by omega⟩
   simp[h1,hk0,a,InR];refine⟨⟨by omega,by omega⟩,by omega,by omega,λh=>⟨⟨by omega,by omega⟩,p h⟩,d⟩
 ·rintro k ⟨hk,h1,h2⟩;simp;have u:=ZZ hl hk h1 h2;refine bh (X:=Unit) [0,3,5] [] (λ_=>∀y,0<k->l[k -1]? =some y->y≠s) (λ_=>[]) (λ_=>[]) ?_ ?_
  ·simp;rcases qHa k with rfl|hk0
   ·simp
   ·obtain⟨y,a⟩:=aR (l:=l) (k:=k -1) (by omega);simp[hk0,a,InR];refine⟨⟨⟨by omega,by omega⟩,by omega,by omega,λb c=>aL l (.same _) ⟨u.1 y hk0 a (Span.ext' b c),by simp⟩,?_⟩,by omega⟩;rintro h rfl;exact h rfl rfl
  ·intro _ q;have r:=u.2 q;simp;refine⟨hk,by omega,by omega,by omega,by omega,hk,by omega,by omega,λv=>aL (l.take k++s::l.drop k) (fq bL (by simp)) ⟨r,by simp;omega⟩⟩
def qby(n:Nat)(x:Pat×Int×Int×List Span):Prop:=PPat n x.1/\0<=x.2.1/\x.2.1+200000*cK x.1<=1000000000000000/\0<=x.2.2.1/\x.2.2.1+cK x.1<=100000000/\SS x.2.2.2/\x.2.2.2.length+jA x.1<=100000
def qbv(x:Pat×Int×Int×List Span)(y:List Span):Prop:=SS y/\(∀s,s∈y↔s∈x.2.2.2\/SrcE x.1 x.2.1 x.2.2.1 s)/\y.length<=x.2.2.2.length+jA x.1
abbrev LP(n:Nat):Spc:=ax (a4 Pat Int Int (List Span)) (qby n) enc qbv
theorem XM(n:Nat)(h1:S AR=H7)(h2:S sF=LP n)(h3:S Dk=D4)(h4:S pE=uo):aq ji iL S (a4 Pat Int Int (List Span)) (qby (n+1)) enc qbv:=by
 rintro⟨p,d,leaf,out⟩ ⟨hp,hd0,t,I,u,q,hlen⟩;simp only at hp hd0 t I u q hlen;have hk:∀k∈p.kids,PPat n k:=λk=>hp.kid
 have hs:∀k∈p.kids,eO (aU k):=λk h=>zO (v:=ay) k (hk k h).2
 have hn:=(dr hp.2).2.2;unfold lJ at hn;rw[decide_eq_true_eq]at hn;rcases qT (dr hp.2).1 with⟨ho,l⟩|⟨ho,l⟩|⟨ho,c,ks,l⟩|⟨ho,c,l⟩
 ·simp[ji,iL,h1,ho,q];rw[kB,if_pos l]at hlen;refine⟨by omega,λy hy hy2=>aL y (by simp) ⟨hy.1,λs=>?_,by simp_all [kB]⟩⟩;rw[hy.2 s];simp[qiq ho]
 ·have e:p.op≠1/\p.op≠4/\p.op≠6:=by omega
  simp[ji,iL,h1,e];exact aL out (by simp) ⟨q,λs=>⟨.inl,λh=>h.elim id λh=>absurd h (qir e _ _ _)⟩,by simp⟩
 ·by_cases w:p.op=4
  ·simp[ji,iL,w];intro _;rw[cP]at t u;rw[kB,if_neg (by grind),if_neg (by omega)]at hlen;refine ah (X:=Int×Int×List Span) [28] [] p.kids.length (λk x=>(0<=x.1/\x.1+200000*bB (p.kids.drop k)<=1000000000000000)/\(0<=x.2.1/\x.2.1+bB (p.kids.drop k)<=100000000)/\SS x.2.2/\x.2.2.length+lY (p.kids.drop k)<=out.length+lY p.kids/\∀s,(s∈x.2.2\/rJ (p.kids.drop k) x.1 x.2.1 s) ↔ (s∈out\/rJ p.kids d leaf s)) (λx=>[(1,enc x.1),(2,enc x.2.1),(3,enc x.2.2)]) (λ_=>[]) (d,leaf,out) ⟨by grind,by grind,q,by simp,by simp⟩ ?_ ?_
   ·rintro k ⟨Z,lf,o⟩ J ⟨⟨b0,b1⟩,⟨b2,A⟩,K,C,E⟩;simp only at b0 b1 b2 A K C E;obtain⟨x,F⟩:=aR J;have L:=aP F;obtain⟨_,hgx⟩:=qF4.1 F;rw[bE F,bB]at b1 A;rw[bE F,lY]at C;have M:=hk x L;have N:=hs x L;have q3:qby n (x,Z,lf,o):=⟨M,b0,by show Z+200000* (cK x:Int)<=_;omega,b2,by show lf+ (cK x:Int)<=_;omega,K,by show o.length+jA x<=_;omega⟩
    have q4:=iS x;have q5:1<=cK x:=by rw[cP];omega
    have q6:(am x).length<=100000000:=by omega
    simp[h2,h3,h4,J,F,hgx,M.2,q3,q6,iA];clear h1 h2 h3 h4;rintro y ⟨c1,c2,c3⟩;simp only at c2 c3;unfold eO at N;have O:∀s,(s∈y\/((aU x).1=(aU x).2/\rJ (p.kids.drop (k+1)) (Z+ (aU x).1) (lf+ (am x).length) s)) ↔ (s∈out\/rJ p.kids d leaf s):=by
     intro s;rw[<-E s,bE F,rJ,c2 s,or_assoc]
    refine⟨λhne=>aL y (by simp) ⟨c1,λs=>?_,?_⟩,λhe=>⟨by simp only[InR];omega,λ_=>⟨by simp only[InR];omega,_,_,_,⟨⟨by omega,by omega⟩,⟨by omega,by omega⟩,c1,by omega,λs=>?_⟩,rfl,rfl,rfl⟩⟩⟩
    ·rw[qip w];show s∈y↔s∈out\/rJ p.kids d leaf s;rw[<-O s];exact⟨.inl,λh=>h.elim id λh=>absurd h.1 hne⟩
    ·show y.length<=out.length+jA p;rw[kB,if_neg (by rw[l];simp),if_neg (by omega)];omega
    ·rw[<-O s];simp[he]
   ·rintro⟨Z,lf,o⟩ ⟨⟨b0,b1⟩,⟨b2,A⟩,K,C,E⟩;simp only at K C E;rw[qGU]at C E;simp;refine aL o (by simp) ⟨K,λs=>?_,?_⟩
    ·rw[qip w];show s∈o↔s∈out\/rJ p.kids d leaf s;rw[<-E s,rJ,or_false]
    ·show o.length<=out.length+jA p;rw[kB,if_neg (by rw[l];simp),if_neg (by omega)];rw[lY]at C;omega
  ·have e:p.op≠1/\p.op≠4/\p.op≠6:=by omega
   simp[ji,iL,h1,e];exact aL out (by simp) ⟨q,λs=>⟨.inl,λh=>h.elim id λh=>absurd h (qir e _ _ _)⟩,by simp⟩
 ·have M:=hk c (by rw[l];simp);have N:=hs c (by rw[l];simp);have hn:=hn ho;simp[ji,iL,ho,l,h3,M.2,iA];have Q:jA p=(max 1 p.mn).toNat*jA c:=by rw[kB,l,if_neg (by simp),if_pos ho,lY,lY,qHq]
  have hpn:cK p=cK c+1:=by rw[cP,l,bB,bB]
  rw[hpn]at t u;rw[Q]at hlen;have hc1:=Qq c;refine aA (X:=Nat×List Span) [1,2,4,13,14] [] (λx=>(x.1:Int)<=p.mn/\SS x.2/\x.2.length<=out.length+x.1*jA c/\(∀s,s∈x.2↔s∈out\/ ∃i:Int,0<=i/\i<x.1/\(i=0\/(aU c).1=(aU c).2)/\SrcE c (d+i* (aU c).1) leaf s)) (λx=>[(3,enc x.2),(15,enc (x.1:Int))]) (λ_=>[]) (λx=>p.mn.toNat -x.1) (0,out) ?_ ?_
  ·refine⟨by simp;omega,q,by simp,λs=>⟨.inl,λh=>h.elim id ?_⟩⟩;rintro⟨i,h0,h1,_⟩;simp only at h1;omega
  rintro⟨j,o⟩ ⟨b0,b1,b2,A⟩;simp only at b0 b1 b2 A;simp[h2,ho,l];clear h1 h2 h3 h4;have r:(∀i:Int,0<=i->i<p.mn->(i=0\/(aU c).1=(aU c).2)->i<j)->Fin enc (qbv (p,d,leaf,out)) (D.list 2 (List.map enc o)) λx=>none:=λhi=>by
   refine aL o (by simp) ⟨b1,λs=>?_,?_⟩
   ·show s∈o↔s∈out\/SrcE p d leaf s;rw[A s,qni ho l];refine or_congr_right (exists_congr λi=>⟨λ⟨a1,a2,a3,a4⟩=>⟨a1,by omega,a3,a4⟩,λ⟨a1,a2,a3,a4⟩=>⟨a1,hi i a1 a2 a3,a3,a4⟩⟩)
   ·show o.length<=out.length+jA p;rw[Q];have:=qGw (jA c) (show j<=(max 1 p.mn).toNat by omega);omega
  have U:(j:Int)<p.mn->(j=0\/(aU c).1=(aU c).2)->InR IntKind.i64 (↑j* (aU c).fst)/\InR IntKind.i64 (d+ ↑j* (aU c).fst)/\qby n (c,d+ ↑j* (aU c).fst,leaf,o)/\
   ∀ (y:List Span),qbv (c,d+ ↑j* (aU c).fst,leaf,o) y->InR IntKind.i64 (↑j+1)/\∃(a:Nat) (b:List Span),(↑a<=p.mn/\SS b/\b.length<=out.length+a*jA c/\∀(s:Span),s∈b↔s∈out\/ ∃i:Int,0<=i/\i< ↑a/\(i=0\/(aU c).fst=(aU c).snd)/\SrcE c (d+i* (aU c).fst) leaf s)/\
    (y=b/\(↑j+1:Int)= ↑a)/\p.mn.toNat -a<p.mn.toNat -j:=λhj W=>by
   unfold eO at N;have hm:=pp (show(0:Int)<=j by omega) (show(j:Int)<=16 by omega) N.1 N.2.1;have hm2:=qGw (jA c) (show j+1<=(max 1 p.mn).toNat by omega);rw[qHc]at hm2;refine⟨by simp only[InR];omega,by simp only[InR];omega,⟨M,by show 0<=d+ ↑j* (aU c).1;omega,by show d+ ↑j* (aU c).1+200000* (cK c:Int)<=_;omega,I,by show leaf+ (cK c:Int)<=_;omega,b1,by show o.length+jA c<=_;omega⟩,?_⟩;rintro y ⟨c1,c2,c3⟩;simp only at c2 c3;refine⟨by simp only[InR];omega,j+1,y,⟨by omega,c1,by rw[qHc];omega,λs=>?_⟩,⟨rfl,by omega⟩,by omega⟩;rw[c2 s,A s,or_assoc];refine or_congr_right ⟨λh=>?_,λh=>?_⟩
   ·rcases h with⟨i,a1,a2,a3,a4⟩|h
    ·exact⟨i,a1,by omega,a3,a4⟩
    ·exact⟨j,by omega,by omega,W.imp (λh=>by omega) id,h⟩
   ·obtain⟨i,a1,a2,a3,a4⟩:=h;by_cases e:i<j
    ·exact .inl ⟨i,a1,e,a3,a4⟩
    ·have:i=j:=by omega
     subst this;exact .inr a4
  exact⟨λhj=>⟨λY=>⟨λW=>U hj (.inr W),λW=>r λi i0 i1 i2=>by rcases i2 with i2|i2;omega;exact absurd i2 W⟩,λY=>U hj (.inl Y)⟩,λhj=>r λi i0 i1 i2=>by omega⟩
abbrev H8:Spc:=ax (a4 Pat Int Int (List Span)) (λx=>∃n,qby n x) enc qbv
def gX(p:Pat):Prop:=cK p<=1000000/\jA p<=100000
def eV(p:Pat)(y:List Span):Prop:=if eX ay p=true/\fO p<=256 then SrcsOf p y else y=[]
abbrev zg:Spc:=qu0 (Y:=Span) a0 (λ_ l=>l.length<=100000) (λ_ l r=>r=wF l) bL 2
theorem yN:Xm (Y:=Span) gP gI S a0 (λ_ l=>l.length<=100000) (λ_ l r=>r=wF l) bL 2:=by
 rintro v l ⟨⟩ hl;simp[gP,gI];refineλ_=>⟨λh=>?_,λh2=>?_⟩
 ·exact dM l (by simp) (Qn (by omega)).symm
 ·refine aA (X:=Nat) [0] [0] (λk=>1<=k/\k<=l.length/\wF (l.take k)=l.take k) (λk=>[(3,enc (k:Int))]) (λ_=>[]) (λk=>l.length -k) 1 ?_ ?_;grind [qlo]
  ·rintro k ⟨A,C,t⟩;by_cases s:k<l.length
   ·obtain⟨x,E⟩:=aR s;obtain⟨y,M⟩:=aR (l:=l) (k:=k -1) (by omega);have O:((k:Int) -1).toNat=k -1:=by omega
    have e2:((k:Int)<l.length):=by omega
    have F:¬l.length<=k:=by omega
    simp[E,M,InR,O,F];intro _ _;have c:=TL A E M;refine⟨s,by omega,by omega,by omega,by omega,λQ U=>⟨C,?_⟩,λd=>⟨by omega,k+1,⟨by omega,by omega,?_⟩,by omega,by omega⟩⟩
    ·-- from here on elements W I
     have J:x=y:=Span.ext' Q U;rw[if_pos J]at c;refine bh (X:=Nat×List Span) [0] [] (λz=>z.2.length=l.length/\z.1<=l.length/\z.2.take z.1=wF l) (λz=>[(3,enc (z.1:Int))]) (λz=>[(0, .row v bL 2 (z.2.map enc))]) ?_ ?_
     ·simp;refine aA (X:=Nat×Nat×List Span) [0,4] [] (λz=>z.2.2.length=l.length/\1<=z.2.1/\k+z.2.1<=l.length/\z.1<k+z.2.1/\z.2.2.take z.1=wF (l.take (k+z.2.1))/\z.2.2.drop (k+z.2.1 -1)=l.drop (k+z.2.1 -1)) (λz=>[(3,enc (z.1:Int)),(5,enc (z.2.1:Int))]) (λz=>[(0, .row v bL 2 (z.2.2.map enc))]) (λz=>l.length -z.2.1) (k,1,l) ?_ ?_
      ·simp;refine⟨by omega,?_⟩;rw[c,t]
      ·rintro⟨i,j,cur⟩ ⟨c1,c2,c3,c4,w,q⟩;simp at c1 c2 c3 c4 w q;by_cases hj:j<l.length -k
       ·obtain⟨a,N⟩:=aR (l:=l) (k:=k+j) (by omega);obtain⟨b,hb⟩:=aR (l:=l) (k:=k+j -1) (by omega);have K:cur[k+j]? =some a:=(NL q (by omega)).trans N;have L:cur[k+ (j -1)]? =some b:=by
         rw[show k+ (j -1)=k+j -1 by omega];exact(NL q (qGb _)).trans hb
        obtain⟨u,Z⟩:=aR (l:=cur) (k:=i) (by omega);have hs:=TL (j:=k+j) (by omega) N hb;have p:¬l.length -k<=j:=by omega
        simp[K,L,Z,InR,p];intro _ _;refine⟨by omega,by omega,by omega,by omega,by omega,by omega,λd=>⟨by omega,by omega,by omega,by omega,by omega,i+1,j+1,cur.set i a,⟨by simp;omega,by omega,by omega,by omega,?_,?_⟩,⟨by omega, .inl ?_⟩,by omega⟩,λq3 q4=>⟨by omega,i,j+1,cur,⟨c1,by omega,by omega,by omega,?_,?_⟩,⟨by omega, .inl rfl⟩,by omega⟩⟩
        ·rw[(rO (m:=k+j) (l:=l) (by omega) c4 (uI q (by omega))).1,w,show k+ (j+1)=k+j+1 by omega,hs,if_neg];rintro rfl;rcases d with h|h<;>exact h rfl
        ·rw[show k+ (j+1) -1=k+j by omega];exact(rO (m:=k+j) (l:=l) (by omega) c4 (uI q (by omega))).2
        ·exact qiv cur i a
        ·rw[w,show k+ (j+1)=k+j+1 by omega,hs,if_pos (Span.ext' q3 q4)]
        ·exact uI q (by omega)
       ·have p:j=l.length -k:=by omega
        subst p;simp;intro _;refine⟨i,cur,⟨c1,by omega,?_⟩,rfl, .inl rfl⟩;rw[w,show k+ (l.length -k)=l.length by omega,qGc]
     ·rintro⟨i,cur⟩ ⟨c1,c2,c3⟩;simp at c1 c2 c3;simp;refine⟨by omega,by omega,λv=>dM (wF l) ?_ rfl⟩;have e:(wF l).map enc=(cur.map enc).take i:=by rw[<-c3,List.map_take]
      rw[e];simp[List.take_append,c1,c2]
    ·rw[if_neg (λe=>by subst e;exact d rfl rfl)]at c;rw[c,t,au E]
   ·have F:k=l.length:=by omega
    subst F;simp;rw[qGc]at t;exactλ_=>dM l (by simp) t.symm
section
variable {α:Type}[DecidableEq α]
def qtt(l:List α)(x:α):List α:=if l.getLast? =some x then l else l++ [x]
def vT(l:List α):List α:=l.foldl qtt []
theorem Eh(l:List α)(x:α):vT (l++ [x])=qtt (vT l) x:=by simp[vT]
def qhh(l:List α):(vT l).getLast? =l.getLast?:=by
 refine uG (P:=λl=>(vT l).getLast? =l.getLast?) rfl (λl x a=>?_) l;grind [Eh,qtt]
def qlr(l:List α):(vT l).length<=l.length:=by
 refine uG (P:=λl=>(vT l).length<=l.length) (qGb _) (λl x a=>?_) l;grind [Eh,qtt]
def qlq(l:List α):∀x,x∈vT l↔x∈l:=by
 refine uG (P:=λl=>∀x,x∈vT l↔x∈l) (λx=>qHB) (λl y a x=>?_) l;grind [Eh,qtt]
def Qo{l:List α}(h:l.length< 2):vT l=l:=by
 match l,h with
 | [],_=>rfl
 | [x],_=>rfl
 |x::y::l,h=>grind
theorem qlp{l:List α}(h:1<=l.length):vT (l.take 1)=l.take 1:=Qo (by grind)
def TN{l:List α}{j:Nat}{x y:α}(b:1<=j)(a:l[j]? =some x)(c:l[j -1]? =some y):vT (l.take (j+1))=if x=y then vT (l.take j)else vT (l.take j) ++ [x]:=by
 rw[au a,Eh,qtt,qhh];grind
end
abbrev EZ:Spc:=qu0 (Y:=Int) a0 (λ_ l=>l.length<=100000) (λ_ l r=>r=vT l) bC 1
theorem Cl:Xm (Y:=Int) jT jI S a0 (λ_ l=>l.length<=100000) (λ_ l r=>r=vT l) bC 1:=by
 rintro v l ⟨⟩ hl;simp[jT,jI];refineλ_=>⟨λh=>?_,λh2=>?_⟩
 ·exact dM l (by simp) (Qo (by omega)).symm
 ·refine aA (X:=Nat) [0] [0] (λk=>1<=k/\k<=l.length/\vT (l.take k)=l.take k) (λk=>[(3,enc (k:Int))]) (λ_=>[]) (λk=>l.length -k) 1 ?_ ?_;grind [qlp]
  ·rintro k ⟨w,A,C⟩;by_cases s:k<l.length
   ·obtain⟨x,E⟩:=aR s;obtain⟨y,M⟩:=aR (l:=l) (k:=k -1) (by omega);have O:((k:Int) -1).toNat=k -1:=by omega
    have e2:((k:Int)<l.length):=by omega
    have F:¬l.length<=k:=by omega
    simp[E,M,InR,O,F];intro _ _;have c:=TN w E M;refine⟨s,by omega,by omega,by omega,by omega,λQ=>⟨A,?_⟩,λd=>⟨by omega,k+1,⟨by omega,by omega,?_⟩,by omega,by omega⟩⟩
    ·-- from here on elements U I
     have J:x=y:=Q;rw[if_pos J]at c;refine bh (X:=Nat×List Int) [0] [] (λz=>z.2.length=l.length/\z.1<=l.length/\z.2.take z.1=vT l) (λz=>[(3,enc (z.1:Int))]) (λz=>[(0, .row v bC 1 (z.2.map enc))]) ?_ ?_
     ·simp;refine aA (X:=Nat×Nat×List Int) [0,4] [] (λz=>z.2.2.length=l.length/\1<=z.2.1/\k+z.2.1<=l.length/\z.1<k+z.2.1/\z.2.2.take z.1=vT (l.take (k+z.2.1))/\z.2.2.drop (k+z.2.1 -1)=l.drop (k+z.2.1 -1)) (λz=>[(3,enc (z.1:Int)),(5,enc (z.2.1:Int))]) (λz=>[(0, .row v bC 1 (z.2.2.map enc))]) (λz=>l.length -z.2.1) (k,1,l) ?_ ?_;grind
      ·rintro⟨i,j,cur⟩ ⟨c1,c2,c3,c4,t,q⟩;simp at c1 c2 c3 c4 t q;by_cases hj:j<l.length -k
       ·obtain⟨a,N⟩:=aR (l:=l) (k:=k+j) (by omega);obtain⟨b,hb⟩:=aR (l:=l) (k:=k+j -1) (by omega);have K:cur[k+j]? =some a:=(NL q (by omega)).trans N;have L:cur[k+ (j -1)]? =some b:=by
         rw[show k+ (j -1)=k+j -1 by omega];exact(NL q (qGb _)).trans hb
        obtain⟨u,W⟩:=aR (l:=cur) (k:=i) (by omega);have hs:=TN (j:=k+j) (by omega) N hb;have p:¬l.length -k<=j:=by omega
        simp[K,L,W,InR,p];intro _ _;refine⟨by omega,by omega,by omega,by omega,by omega,by omega,λd=>⟨by omega,by omega,by omega,by omega,by omega,i+1,j+1,cur.set i a,⟨by simp;omega,by omega,by omega,by omega,?_,?_⟩,⟨by omega, .inl ?_⟩,by omega⟩,λZ=>⟨by omega,i,j+1,cur,⟨c1,by omega,by omega,by omega,?_,?_⟩,⟨by omega, .inl rfl⟩,by omega⟩⟩
        ·rw[(rO (m:=k+j) (l:=l) (by omega) c4 (uI q (by omega))).1,t,show k+ (j+1)=k+j+1 by omega,hs,if_neg];rintro rfl;exact d rfl
        ·rw[show k+ (j+1) -1=k+j by omega];exact(rO (m:=k+j) (l:=l) (by omega) c4 (uI q (by omega))).2
        ·exact(qIk ..).symm
        ·rw[t,show k+ (j+1)=k+j+1 by omega,hs,if_pos (Z)]
        ·exact uI q (by omega)
       ·have p:j=l.length -k:=by omega
        subst p;simp;intro _;refine⟨i,cur,⟨c1,by omega,?_⟩,rfl, .inl rfl⟩;rw[t,show k+ (l.length -k)=l.length by omega,qGc]
     ·rintro⟨i,cur⟩ ⟨c1,c2,c3⟩;simp at c1 c2 c3;simp;refine⟨by omega,by omega,λv=>dM (vT l) ?_ rfl⟩;have e:(vT l).map enc=(cur.map enc).take i:=by rw[<-c3,List.map_take]
      rw[e];simp[List.take_append,c1,c2]
    ·rw[if_neg (λe=>by subst e;exact d rfl)]at c;rw[c,C,au E]
   ·have F:k=l.length:=by omega
    subst F;simp;rw[qGc]at C;exactλ_=>dM l (by simp) C.symm
def Xu(x:List Int×Int):Prop:=x.1.length<=100000/\0<=x.2/\x.2<=1000000/\∀a∈x.1,0<=a/\a<=1000000000000000
abbrev lF:Spc:=ax (a2 (List Int) Int) Xu (enc (X:=List Int)) (λx y=>y=x.1.map (· +x.2))
theorem J6:aq qk oY S (a2 (List Int) Int) Xu (enc (X:=List Int)) (λx y=>y=x.1.map (· +x.2)):=by
 rintro⟨l,n⟩ ⟨hl,b,c,j⟩;simp only at hl b c j;simp[qk,oY];intro _;refine ah (X:=Value×List Int) [1,8] [] l.length (λk x=>x.2=(l.take k).map (· +n)) (λx=>[(5, .own 19 x.1)]) (λx=>[(19, .row x.1 bC 1 (x.2.map enc))]) (.slice none 0 0, []) (by simp) ?_ ?_ (hh:=by simp[isNilRow])
 ·rintro k ⟨v,m⟩ a hm;simp only at hm;obtain⟨x,d⟩:=aR a;have p:=j x (aP d);obtain⟨_,h⟩:=qF4.1 d;have q:m.length=k:=by grind
  simp[a,d,h];refine⟨by grind [InR],by omega,by omega,λv=> .inl ?_⟩;simp_all [qG7]
 ·rintro⟨v,m⟩ hm;simp only at hm;rw[qGc]at hm;simp;exact aL m (fq bC (by simp)) hm
abbrev s_Sort_int:Spc:=qti (Y:=Int) a0 (λ_ l=>l.length<=100000) (λ_ l r=>r.length=l.length/\∀x,x∈r↔x∈l) bC 1
def Xt(x:Pat×List Int):Prop:=x.1.op=6/\eX ay x.1=true/\x.2.length*jA x.1<=100000/\∀a∈x.2,0<=a/\a<=1000000000000000
def qfv(x:Pat×List Int)(y:List Int):Prop:=y.length<=x.2.length* (max 1 x.1.mn).toNat/\∀b,x.1.kids=[b]->∀z,z∈y↔ ∃a∈x.2,∃i:Int,0<=i/\i<x.1.mn/\(i=0\/(aU b).1=(aU b).2)/\z=a+i* (aU b).1
abbrev qv:Spc:=ax (a2 Pat (List Int)) Xt (enc (X:=List Int)) qfv
theorem J5(h1:S mY=D4)(h2:S io=lF)(h3:S wT=s_Sort_int)(h4:S kW=EZ):aq qj oW S (a2 Pat (List Int)) Xt (enc (X:=List Int)) qfv:=by
 rintro⟨p,l⟩ ⟨ho,hp,hl,C⟩;simp only at ho hp hl C;rcases qT (dr hp).1 with⟨q,_⟩|⟨q,_⟩|⟨q,_⟩|⟨_,d,j⟩
 omega;omega;omega;have E:=ph hp (show d∈p.kids by grind);have s:eO (aU d):=zO d E;have hn:=(dr hp).2.2;unfold lJ at hn;rw[decide_eq_true_eq]at hn;have hn:=hn ho;have I:jA p=(max 1 p.mn).toNat*jA d:=by simp_all [kB,lY]
 have t:=Qq d;have J:l.length* (max 1 p.mn).toNat<=100000:=by
  have:=Nat.mul_le_mul_left (l.length* (max 1 p.mn).toNat) t;grind [Nat.mul_assoc]
 have u:l.length<=100000:=by
  have:=Nat.mul_le_mul_left l.length (show 1<=(max 1 p.mn).toNat by omega);omega
 simp[qj,oW,h1,j,E,iA];refine⟨λhe=>aL [] (by simp) ⟨by simp,λk hk z=>?_⟩,λK=>⟨λF=>aL l (by simp) ⟨?_,λk hk z=>?_⟩,λF=>?_⟩⟩;grind
 ·exact qHO _ (by omega)
 ·rw[j]at hk;cases hk;constructor
  ·intro h;exact⟨z,h,0,qHb _,by grind, .inl rfl,by simp⟩
  grind
 ·refine ah (X:=Value×List Int) [1,5] [] p.mn.toNat (λk x=>x.2.length=l.length*k/\∀z,z∈x.2↔ ∃a∈l,∃i:Int,0<=i/\i<k/\z=a+i* (aU d).1) (λx=>[(7, .own 35 x.1)]) (λx=>[(35, .row x.1 bC 1 (x.2.map enc))]) (.slice none 0 0, []) (by grind) ?_ ?_ (hn:=by simp;omega) (hh:=by simp[isNilRow])
  ·rintro k ⟨v,m⟩ L ⟨hm,c⟩;simp only at hm c;unfold eO at s;have w:=pp (show(0:Int)<=k by omega) (show(k:Int)<=16 by omega) s.1 s.2.1;have M:Xu (l,(k:Int) * (aU d).1):=⟨u,w.1,by omega,C⟩
   simp[h2,M];clear h1 h2 h3 h4;have hb:m.length+l.length<=100000:=by
    have:=Nat.mul_le_mul_left l.length (show k+1<=(max 1 p.mn).toNat by omega);rw[Nat.mul_succ]at this;omega
   refine⟨by simp only[InR];omega,by omega,by omega,λv=>⟨v,m++l.map (· + (k:Int) * (aU d).1),⟨by rw[qGC,qGE,Nat.mul_succ,hm],λz=>?_⟩,rfl, .inl ⟨rfl,by simp⟩⟩⟩;rw[qGi,c z,qGd];constructor
   ·rintro(⟨a,b,i,h0,h1,h2⟩|⟨a,b,h2⟩)
    ·exact⟨a,b,i,h0,by omega,h2⟩
    ·exact⟨a,b,k,by omega,by omega,h2.symm⟩
   ·rintro⟨a,b,i,h0,h1,h2⟩;by_cases e:i<k
    ·exact .inl ⟨a,b,i,h0,e,h2⟩
    ·have:i=k:=by omega
     subst this;exact .inr ⟨a,b,h2.symm⟩
  ·rintro⟨v,m⟩ ⟨hm,c⟩;simp only at hm c;have y:m.length<=100000:=by
    have:l.length*p.mn.toNat<=l.length* (max 1 p.mn).toNat:=Nat.mul_le_mul_left _ (by omega);omega
   simp[h3,h4,y];clear h1 h2 h3 h4;intro r N A;refine⟨by omega,λv'=>aL (vT r) (fq bC (by simp)) ⟨?_,λk hk z=>?_⟩⟩
   ·show(vT r).length<=l.length* (max 1 p.mn).toNat;have:=qlr r;have:l.length*p.mn.toNat<=l.length* (max 1 p.mn).toNat:=Nat.mul_le_mul_left _ (by omega);omega
   ·rw[j]at hk;cases hk;rw[qlq,A z,c z];refine exists_congr λa=>and_congr_right λ_=>exists_congr λi=>⟨λ⟨h0,h1,h2⟩=>⟨h0,by show i<p.mn;omega, .inr F,h2⟩,λ⟨h0,h1,_,h2⟩=>⟨h0,?_,h2⟩⟩
    have h1:i<p.mn:=h1;omega
end
end Go.Gv
