/- W81 -/
import Derived.Test.YtmakafgajmnflaaGreatDoorGf23
set_option linter.all false
set_option maxRecDepth 100000
set_option maxHeartbeats 0
namespace Go.Gv
section
open Cod (enc dec)
variable {S S0:Nat->Spc}
theorem XK(p:Pat):∀out,(jG p out).length<=out.length+ff p:=by
 induction p using eb with|_ p b=>?_
 intro out;rw[qa,dv];split;grind [De]
 ·have:∀(ks:List Pat) (o:List B),(∀k∈ks,k∈p.kids)->(ks.foldl (λo k=>jG k o) o).length<=o.length+bK ks:=by
   intro ks
   induction ks with
   |nil=>simp
   | cons k ks a=>
     grind [bK,jG]
  grind
def Hm(ks:List Pat)(k:Nat)(lb:List B):((ks.take k).foldl (λo k=>jG k o) lb).length<=lb.length+bK (ks.take k):=by
 generalize ks.take k=l
 induction l generalizing lb<;>grind [bK,XK]
def ZN(x:Cond×List B)(y:Cond):Prop:=y=yc x.2 x.1
abbrev FV(n:Nat):Spc:=aJ (a2 Cond (List B)) (qiy n) (enc (X:=Cond)) ZN
theorem Rj(n:Nat)(h1:S se=FV n):aq Af yZ S (a2 Cond (List B)) (qiy (n+1)) (enc (X:=Cond)) ZN:=by
 rintro⟨c,lb⟩ ⟨_,hc⟩;simp only at hc;have hc:CS n c:=hc;simp[Af,yZ];intro b2 s;refine⟨λho _=>?_,λho hl=>?_⟩
 ·refine ah (X:=Unit) [2,4,13] [2,4] lb.length (λk _=>∀z∈lb.take k,z≠c.lab) (λ_=>[]) (λ_=>[]) () (by simp) ?_ ?_
  ·rintro k -hk hz;obtain⟨x,b⟩:=bh hk;obtain⟨_,d⟩:=qCd.1 b;simp[hk,b,d];refine⟨λj=>fZ c.kids (.same _) ?_,λj z l=>?_⟩
   ·show Cond.mk _ _ _ _ _ _ _=yc lb c;rw[G3,mM,if_pos ho,if_pos (j ▸aY b)]
   ·rw[aB b]at l;grind
  ·rintro -hz;rw[qCx]at hz;simp;refine fZ [] (.nil _) ?_;show _=yc lb c;rw[mM,if_pos ho,if_neg (λh=>hz _ h rfl)];rfl
 ·refine ah (X:=Value×List Cond) [1,2,4,29] [2,4] c.kids.length (λk x=>x.2=(c.kids.take k).map (yc lb)) (λx=>[(7, .own 40 x.1)]) (λx=>[(40, .row x.1 eI 7 (x.2.map enc))]) (.slice none 0 0, []) (by simp) ?_ ?_ (hh:=by simp[isNilRow])
  ·rintro k ⟨v,ks⟩ hk a;simp only at a;obtain⟨x,b⟩:=bh hk;obtain⟨_,d⟩:=qCd.1 b;obtain⟨m,hm,p⟩:=qoN hc (aY b);have hp:qiy n (x,lb):=⟨by omega,by rw[hm];exact p⟩
   simp[hk,b,d,h1,hp];have:=qoM hc;have q:ks.length=k:=by rw[a,qC6,qCI];omega
   refineλy r=>⟨by omega,by omega,λv=> .inl ?_⟩
   obtain rfl:y=yc lb x:=r;rw[a,List.map_map,List.map_take,qDg];simp[b]
  ·rintro⟨v,ks⟩ a;simp only at a;simp;rw[qCx]at a;refine fZ ks (gp eI (by simp)) ?_;show _=yc lb c;rw[mM,if_neg ho,a]
abbrev Di:Spc:=aJ (a2 Cond (List B)) (λx=>∃n,CS n x.1) (enc (X:=Cond)) ZN
def TP(x:Pat×List B)(y:Pat):Prop:=y=mJ x.2 x.1
abbrev PU(n:Nat):Spc:=aJ (a2 Pat (List B)) (ZT n) (enc (X:=Pat)) TP
theorem qce(n:Nat)(h1:S se=Di)(h2:S BX=PU n):aq I5 H7 S (a2 Pat (List B)) (ZT (n+1)) (enc (X:=Pat)) TP:=by
 rintro⟨p,lb⟩ ⟨_,hp⟩;simp only at hp;have hp:PD n p:=hp;have b:=qj7 hp;have q:=qnH hp;simp[I5,H7,h1];intro b2 t;refine⟨b,λc hc _=>?_⟩;refine ah (X:=Value×List Pat) [1,2,4,14] [2,4] p.kids.length (λk x=>x.2=(p.kids.take k).map (mJ lb)) (λx=>[(5, .own 25 x.1)]) (λx=>[(25, .row x.1 aW 13 (x.2.map enc))]) (.slice none 0 0, []) (by simp) ?_ ?_ (hh:=by simp[isNilRow])
 ·rintro k ⟨v,ks⟩ hk a;simp only at a;obtain⟨x,d⟩:=bh hk;obtain⟨_,h⟩:=qCd.1 d;obtain⟨m,hm,j⟩:=qnI hp (aY d);have r:ZT n (x,lb):=⟨by omega,by rw[hm];exact j⟩
  have l:ks.length=k:=by rw[a,qC6,qCI];omega
  simp[hk,d,h,h2,r];refineλy s=>⟨by omega,by omega,λv=> .inl ?_⟩
  obtain rfl:y=mJ lb x:=s;simp_all [qDg]
 ·rintro⟨v,ks⟩ a;simp only at a;rw[qCx]at a;simp;refine CB c.kids ks (.same _) (gp aW (by simp)) ?_;show _=mJ lb p;rw[sr,<-show c=yc lb p.cond from hc,a,G3]
abbrev Mg:Spc:=aJ (a2 Pat (List B)) (λx=>∃n,PD n x.1) (enc (X:=Pat)) TP
abbrev Dj:Spc:=aJ (aT (a2 Int (List B))) (λx=> -10<=x.2.1/\x.2.1<=100/\x.2.2.length<=1000) (enc (X:=Pat)) N9
def qiw(x:Pat)(l r:List B):Prop:=r=jG x l
abbrev Ws(n:Nat):Spc:=qiT (X:=Pat) (Y:=B) (λx l=>cM x<=n/\qmB x l) qiw au 1
abbrev i_BoundA2:Spc:=qiT (X:=Pat) (Y:=B) qmB qiw au 1
theorem Ur(n:Nat)(h1:S qN=Ws n):N6 (X:=Pat) (Y:=B) vD uE S (λx l=>cM x<=n+1/\qmB x l) qiw au 1:=by
 rintro v lb p ⟨A,hl⟩;have hk:∀k∈p.kids,cM k<=n:=λk h=>by have:=fq h;omega
 have hl:lb.length+ff p<=1000000:=hl;have t:=dv p;simp[vD,uE];refine bc (X:=Unit) [1,2] [1] (λ_=>p.op=1->p.lab=E0) (λ_=>[]) (λ_=>[]) ?_ ?_
 ·simp;refine⟨λho=>⟨λhn _=>?_,λh _=>h⟩,λho h=>absurd h ho⟩;refine ah (X:=Unit) [1,2,17] [1] lb.length (λk _=>∀z∈lb.take k,z≠p.lab) (λ_=>[]) (λ_=>[]) () (by simp) ?_ ?_
  ·rintro k -b hz;obtain⟨x,c⟩:=bh b;obtain⟨_,d⟩:=qCd.1 c;simp[b,c,d];refine⟨λj=>dw lb (by simp) ?_,λj z q=>?_⟩
   ·show lb=jG p lb;rw[qa,if_pos ⟨ho,hn⟩,De,if_pos (j ▸aY c)]
   ·rw[aB c]at q;grind
  ·rintro -hz;rw[qCx]at hz;simp;refine⟨by omega,by omega,λv=>dw (lb++ [p.lab]) (by simp) ?_⟩;show _=jG p lb;rw[qa,if_pos ⟨ho,hn⟩,De,if_neg λh=>hz _ h rfl]
 ·rintro -r;simp;intro u;refine ah (X:=Value×List B) [35] [] p.kids.length (λk x=>x.2=(p.kids.take k).foldl (λo k=>jG k o) lb) (λx=>[(1, .own 1 x.1)]) (λx=>[(1, .row x.1 au 1 (x.2.map enc))]) (v,lb) (by simp) ?_ ?_
  ·rintro k ⟨v,ls⟩ b a;simp only at a;obtain⟨x,c⟩:=bh b;obtain⟨_,d⟩:=qCd.1 c;have w:qmB x ls:=by
    have h2:=Hm p.kids k lb;have h3:=Hm (p.kids.drop k) 1 ls;rw[<-a]at h2;have h4:bK (p.kids.take k) +bK (p.kids.drop k)=bK p.kids:=by rw[<-Cu,qCM]
    rw[cY c,bK]at h4;show ls.length+ff x<=_;omega
   have s:=hk x (aY c);simp[b,c,d,h1,w,s];intro v' l' y;obtain rfl:l'=jG x ls:=y;refine .inl ?_;rw[aB c,List.foldl_append,<-a];rfl
  ·rintro⟨v,ls⟩ a;simp only at a;rw[qCx]at a;simp;refine dw ls (by simp) ?_;show ls=jG p lb;rw[qa,if_neg λh=>h.2 (r h.1),a]
abbrev qg3:Spc:=qog (Y:=B) (aE Pat (aD a0)) (λx=>x.2.1= .v (.slice none 0 0)/\qmB x.1 []) (λx r=>qiw x.1 [] r) au 1
theorem Us(h1:S qN=i_BoundA2):QU (Y:=B) vD uE S (aE Pat (aD a0)) (λx=>x.2.1= .v (.slice none 0 0)/\qmB x.1 []) (λx r=>qiw x.1 [] r) au 1:=by
 rintro⟨p,d,⟨⟩⟩ ⟨c,hl⟩;have c:d= .v (.slice none 0 0):=c;subst c;have hl:0+ff p<=1000000:=hl;have s:=dv p;simp[vD,uE];refine bc (X:=Unit) [1,2] [] (λ_=>p.op=1->p.lab=E0) (λ_=>[]) (λ_=>[]) ?_ ?_
 ·simp;refine⟨λho=>⟨λhn=>?_,λh _=>h⟩,λho h=>absurd h ho⟩;refine ah (X:=Unit) [1,2] [] 0 (λ_ _=>True) (λ_=>[]) (λ_=>[]) () trivial ?_ ?_;simp
  ·rintro - -;simp;refineλv=>dw [p.lab] (by simp) ?_
   show _=jG p [];rw[qa,if_pos ⟨ho,hn⟩,De,if_neg (by simp)];rfl
 ·rintro -j;simp;intro t;refine ah (X:=Value×List B) [35] [] p.kids.length (λk x=>x.2=(p.kids.take k).foldl (λo k=>jG k o) []) (λx=>[(1, .own 1 x.1)]) (λx=>[(1, .row x.1 au 1 (x.2.map enc))]) (.slice none 0 0, []) (by simp) ?_ ?_ (hh:=by simp[isNilRow])
  ·rintro k ⟨v,ls⟩ b a;simp only at a;obtain⟨x,l⟩:=bh b;obtain⟨_,q⟩:=qCd.1 l;have u:qmB x ls:=by
    have h2:=Hm p.kids k [];have h3:=Hm (p.kids.drop k) 1 ls;rw[<-a,qEd]at h2;have h4:bK (p.kids.take k) +bK (p.kids.drop k)=bK p.kids:=by rw[<-Cu,qCM]
    rw[cY l,bK]at h4;show ls.length+ff x<=_;omega
   simp[b,l,q,h1,u];intro v' l' w;obtain rfl:l'=jG x ls:=w;simp_all [aB]
  ·rintro⟨v,ls⟩ a;simp only at a;rw[qCx]at a;simp;refine dw ls (by simp) ?_;show ls=jG p [];rw[qa,if_neg λh=>h.2 (j h.1),a]
abbrev s_Bound2:Spc:=qnK qg3 i_BoundA2
def ZP(x:List Int×Int×List B)(y:Glob):Prop:=GG x.2.2 x.2.1.toNat y
def qB8(l:List B)(g:Glob):Prop:=g=GlobE\/GG l 2 g
def qzF{i:Nat}{a:B}(h:[(⟨#[97]⟩:B),⟨#[98,124,99]⟩,⟨#[46]⟩][i]? =some a):a∈qb5:=aY h
def qzE{i:Nat}{a:B}(h:[(⟨#[83]⟩:B),⟨#[78,80]⟩,⟨#[86,80]⟩][i]? =some a):a∈qb2:=aY h
def qzD{i:Nat}{a:B}(h:[(⟨#[111,98,106]⟩:B),⟨#[100,101,116]⟩,⟨#[]⟩][i]? =some a):a∈XU:=aY h
abbrev Ap(n:Nat):Spc:=aJ (aT (a2 Int (List B))) (Ob n) (enc (X:=Glob)) ZP
theorem Kb(n:Nat)(h1:S cv=s_m_Next)(h2:S sf=xV)(h3:S eZ=Ap n):aq kY kA S (aT (a2 Int (List B))) (Ob (n+1)) (enc (X:=Glob)) ZP:=by
 rintro⟨L,deep,lb⟩ ⟨hn,C,E,b,s⟩;simp only at hn C E b s;simp[kY,kA,h1];intro b6 k0 Q U;refine bc (X:=Int) [0,1,2,6] [6] (λk=>0<=k/\k< 13/\(deep< 1->k< 10)) (λk=>[(7,enc k)]) (λ_=>[]) ?_ ?_
 ·simp;grind
 rintro k ⟨q0,q1,q2⟩;simp[h1];refineλ_=>⟨by omega,λi hi=>⟨by omega,by omega,λa W _=>⟨by omega,λj hj=>⟨by omega,by omega,λc hc=>?_⟩⟩⟩⟩
 refine bc (X:=Unit) [0,1,2,6,7] [6] (λ_=>11<=k) (λ_=>[]) (λ_=>[]) ?_ ?_
 ·have d:1<=deep->Ob n (L,deep -1,lb):=λh=>⟨by show(deep -1).toNat<n;omega,by show -10<=deep -1;omega,by show deep -1<=100;omega,b,s⟩
  have p:a∈lb:=aY W;have u:c∈lb:=aY hc;have A:1<=deep->deep.toNat=(deep -1).toNat+1:=λh=>by omega
  simp[h1,h2,h3,PK,US,mu,rq, -Bool.forall_bool];refine⟨λ_=>jd [] [] (.nil _) (.nil _) (.bound _ a p),λ_=>⟨λ_ y q r=>⟨q,r,λv Y z _ _=>jd [] [] (.nil _) (.nil _) (.val _ a v _ p (qzF Y))⟩,λ_=>⟨λ_ y q r=>⟨q,r,λg F=>jd [] [] (.nil _) (.nil _) (.same _ a c g p u (qlv F))⟩,λ_=>⟨λ_ y q r=>⟨by simp only[InR];omega,λz I J=>⟨by simp only[InR];omega,jd [] [] (.nil _) (.nil _) (.dist _ a c _ _ p u (by omega) (by omega) (by omega) (by omega))⟩⟩,λ_=>⟨λ_ y q r=>⟨trivial,λt K=>jd [] [] (.nil _) (.nil _) (.reg _ a c t p u K)⟩,λ_=>⟨λ_=>jd [] [] (.nil _) (.nil _) (.head _ 6 a c (.inl rfl) p u),λ_=>⟨λ_=>jd [] [] (.nil _) (.nil _) (.head _ 7 a c (.inr rfl) p u),λ_=>⟨λ_ M y q r=>?_,λ_=>⟨λ_ y q r=>⟨q,r,λt K=>jd [] [] (.nil _) (.nil _) (.node _ a c t p u (qzE K))⟩,λ_=>⟨λ_ y q r z I J=>⟨by simp only[InR];omega,jd [] [] (.nil _) (.nil _) (.depth _ a _ _ p (by omega) (by omega) (by omega) (by omega))⟩,λ_=>⟨λO=>⟨by simp only[InR];omega,d (by omega),λg=>?_⟩,λ_=>by omega⟩⟩⟩⟩⟩⟩⟩⟩⟩⟩⟩
  ·refine tT (X:=Int×Value×List B) [0,6,11] [6] [] [] [] [] (λx=>(0<=x.1/\x.1+x.2.2.length<=2)/\∀z∈x.2.2,z∈XU) (λx=>[(12,enc x.1)]) (λx=>[(11, .box M [.v (.int .i64 8), .v (.string a), .v (.string c), .v (.string ⟨#[]⟩), .v (.string ⟨#[]⟩), .v (.string ⟨#[]⟩), .v (.bool false), .v (.int .i64 0), .v (.int .i64 0), .own 111 x.2.1, .v (.slice none 0 0)]),(111, .row x.2.1 au 1 (x.2.2.map enc))]) (λx=>x.1.toNat) (y, .slice none 0 0, []) [11,111] (λ_=>rfl) (by decide) (by decide) ?_ ?_ ?_ ?_
   ·exact⟨⟨q,by simp;omega⟩,by simp⟩
   ·simp
   ·simp[isNilRow];exact .nilown 111
   ·rintro⟨i,v,l⟩ ⟨⟨Z,e2⟩,N⟩;simp only at Z e2 N;simp[h1,US,mu,rq];exact⟨λhi z I J=>⟨I,J,λw hw=>⟨by omega,by omega,λv=>⟨by simp only[InR];omega,i -1,v,l++ [w],⟨⟨by omega,by simp;omega⟩,λz hz=>(qCk.1 hz).elim (N z) λh=>by simp at h;subst h;exact qzD hw⟩,⟨rfl, .inl (.inl rfl), .inl (.inl (by simp))⟩,by omega⟩⟩⟩,λhi=>jd l [] (gp au (by simp)) (.nil _) (.path _ a c l p u (by omega) N)⟩
  ·exactλF=>jd [] [g] (.nil _) (by simp) (by show GG lb deep.toNat _;rw[A (by omega)];exact .not _ _ F)
 ·rintro -hk;have d:Ob n (L,deep -1,lb):=⟨by show(deep -1).toNat<n;omega,by show -10<=deep -1;omega,by show deep -1<=100;omega,b,s⟩
  have A:deep.toNat=(deep -1).toNat+1:=by omega
  simp[h3,d];exact⟨by simp only[InR];omega,by simp only[InR];omega,by simp only[InR];omega,λy hy=>⟨by simp only[InR];omega,λz hz=>jd [] [y,z] (.nil _) (by simp) (by show GG lb deep.toNat _;rw[A];exact .two _ _ _ _ (by omega) hy hz)⟩⟩
abbrev xX:Spc:=aJ (aT (a2 Int (List B))) (λx=>∃n,Ob n x) (enc (X:=Glob)) ZP
abbrev JD:Spc:=aJ (aT a0) bW (enc (X:=yB)) (λ_ y=>GF y)
def Uq(h1:S cv=s_m_Next)(h2:S sf=xV):aq re qu S (aT a0) bW (enc (X:=yB)) (λ_ y=>GF y):=by
 rintro⟨L,⟨⟩⟩ -;simp[re,qu,h1,h2];refineλb y c d=>⟨by grind [InR],λz h j u k l=>⟨trivial,λt a=>?_⟩⟩
 exact bF (⟨1+y,decide (z=2),t⟩:yB) (by simp) ⟨by grind,a⟩
def N8(x:List Int×Int)(q:Qry):Prop:=GQ x.2.toNat q
abbrev Mh:Spc:=aJ (aT (a1 Int)) (λx=>0<=x.2/\x.2<=5) (enc (X:=Qry)) N8
theorem Yh(h1:S cv=s_m_Next)(h2:S gW=Dj)(h3:S qN=s_Bound2)(h4:S BX=Mg)(h5:S eZ=xX)(h6:S sO=JD):
 aq te sG S (aT (a1 Int)) (λx=>0<=x.2/\x.2<=5) (enc (X:=Qry)) N8:=by
 rintro⟨L,deep⟩ ⟨t,w⟩;simp only at t w;simp[te,sG,h1];intro b4;refine bc (X:=List B) [0,1,4] [4] (λl=>qb4 l/\l.length<=2) (λl=>[(5,enc l)]) (λ_=>[]) ?_ ?_
 ·simp[h1];exactλ_ _ _=>⟨λ_=>⟨[qoZ,qp9],⟨λl hl=>by simpa using hl,by simp⟩,by simp[qoZ,qp9]⟩,λ_ l hl=>by simp at hl⟩
 rintro lb ⟨A,N⟩;simp[h1,h2];refine⟨⟨by omega,by omega,by omega⟩,λy d b=>?_⟩;have J:WP lb deep.toNat y:=d.1.1;have C:PD deep.toNat y:=d.1.2;have K:ff y<=1000000:=by
  have:=(ZY _ y J (by omega)).2.2;have h2:2^ (deep.toNat+1)<=64:=Nat.pow_le_pow_right (n:=2) (by omega) (show deep.toNat+1<=6 by omega);omega
 have O:qmB y []:=by show 0+ff y<=_;omega
 have E:∃n,PD n y:=⟨_,C⟩
 simp[h3,O];refine .inl λl hl=>?_
 have j:l=jG y []:=hl;have Q:l.length<=0+ff y:=by rw[j];exact XK y []
 simp[h4,E];intro p hp z U W k;have hp:p=mJ l y:=hp;have Y:∀g fs s,(g=GlobE\/GG l 2 g)->(fs.length<=1/\∀f∈fs,GF f)->(0<=s/\s< 4)->N8 (L,deep) ⟨p,g,fs,s⟩:=by
  intro g fs s q c hs;have r:jG p []=l:=by rw[hp,qhT,<-j]
  refine⟨⟨lb,A,by show WP lb deep.toNat p;rw[hp];exact qiY _ _ J⟩,?_,by show g=GlobE\/GG (jG p []) 2 g;rw[r];exact q,c,hs⟩;show ∀y∈am p,GC (jG p []) 1 y.cond;rw[r,hp,Wm];intro x Z;obtain⟨u,hu,rfl⟩:=qCo.1 Z;rw[sr];exact qoe (d.2 u hu)
 refine fE (X:=Glob) [0,4] [4] [] [] (qB8 l) (λ_=>[(7, .bptr 7 k 0)]) (λg=>[(7, .box k [.v (.int .i64 p.op), .v (.int .i64 p.cond.op), .v (.string p.cond.name), .v (.string p.cond.arg), .v (.string p.cond.val), .v (.string p.cond.lab), .v (.bool p.cond.fold),enc p.cond.kids, .v (.string p.lab), .v (.string p.reg), .v (.int .i64 p.mn), .v (.int .i64 p.mx),enc p.kids, .v (.int .i64 g.op), .v (.string g.a), .v (.string g.b), .v (.string g.name), .v (.string g.arg), .v (.string g.val), .v (.bool g.fold), .v (.int .i64 g.mn), .v (.int .i64 g.mx),enc g.args,enc g.kids, .v (.slice none 0 0), .v (.int .i64 z)])]) [7] (λ_=>rfl) (by decide) ?_ ?_
 ·simp[h1,h5, -Bool.forall_bool];refineλ_=>⟨λF u M u1=>⟨λ_=>⟨⟨3,by show(2:Int).toNat< 3;decide,by show -10<=(2:Int);decide,by show(2:Int)<=100;decide,F,by show l.length<=1000000;omega⟩,λg q=>⟨g, .inr q, .inl (.inl ⟨rfl,rfl,rfl,rfl,rfl,rfl,rfl,rfl,rfl,rfl,rfl⟩)⟩⟩,λ_=>⟨⟨0,⟨#[]⟩,⟨#[]⟩,⟨#[]⟩,⟨#[]⟩,⟨#[]⟩,false,0,0, [], []⟩, .inl rfl, .inl ⟨rfl,rfl,rfl,rfl,rfl,rfl,rfl,rfl,rfl,rfl,rfl⟩⟩⟩,λ_=>⟨⟨0,⟨#[]⟩,⟨#[]⟩,⟨#[]⟩,⟨#[]⟩,⟨#[]⟩,false,0,0, [], []⟩, .inl rfl, .inl ⟨rfl,rfl,rfl,rfl,rfl,rfl,rfl,rfl,rfl,rfl,rfl⟩⟩⟩
 rintro g q;refine fE (X:=List yB) [4] [4] [49] [] (λfs=>fs.length<=1/\∀f∈fs,GF f) (λ_=>[(7, .bptr 7 k 0)]) (λfs=>[(7, .box k [.v (.int .i64 p.op), .v (.int .i64 p.cond.op), .v (.string p.cond.name), .v (.string p.cond.arg), .v (.string p.cond.val), .v (.string p.cond.lab), .v (.bool p.cond.fold),enc p.cond.kids, .v (.string p.lab), .v (.string p.reg), .v (.int .i64 p.mn), .v (.int .i64 p.mx),enc p.kids, .v (.int .i64 g.op), .v (.string g.a), .v (.string g.b), .v (.string g.name), .v (.string g.arg), .v (.string g.val), .v (.bool g.fold), .v (.int .i64 g.mn), .v (.int .i64 g.mx),enc g.args,enc g.kids,enc fs, .v (.int .i64 z)])]) [7] (λ_=>rfl) (by decide) ?_ ?_
 ·simp[h1];intro u M u1;have ut:u.tdiv 2=u/2:=Int.tdiv_eq_ediv_of_nonneg M;rw[ut];refine⟨by simp only[InR];omega,?_⟩;refine tT (X:=Int×Value×List yB) [0,4,7] [4] [] [] [] [] (λx=>(0<=x.1/\x.1+x.2.2.length<=1)/\∀f∈x.2.2,GF f) (λx=>[(8,enc x.1)]) (λx=>[(7, .box k [.v (.int .i64 p.op), .v (.int .i64 p.cond.op), .v (.string p.cond.name), .v (.string p.cond.arg), .v (.string p.cond.val), .v (.string p.cond.lab), .v (.bool p.cond.fold),enc p.cond.kids, .v (.string p.lab), .v (.string p.reg), .v (.int .i64 p.mn), .v (.int .i64 p.mx),enc p.kids, .v (.int .i64 g.op), .v (.string g.a), .v (.string g.b), .v (.string g.name), .v (.string g.arg), .v (.string g.val), .v (.bool g.fold), .v (.int .i64 g.mn), .v (.int .i64 g.mx),enc g.args,enc g.kids, .own 49 x.2.1, .v (.int .i64 z)]),(49, .row x.2.1 PI 3 (x.2.2.map enc))]) (λx=>x.1.toNat) (u/2, .slice none 0 0, []) [7,49] (λ_=>rfl) (by decide) (by decide) ?_ ?_ ?_ ?_
  ·exact⟨⟨by show 0<=u/2;omega,by simp;omega⟩,by simp⟩
  ·simp
  ·simp[isNilRow];exact .nilown 49
  ·rintro⟨i,v,fs⟩ ⟨⟨e1,e2⟩,I⟩;simp only at e1 e2 I;simp[h6];refine⟨λhi=>⟨trivial,λy d=>⟨by omega,by omega,λv=>⟨by simp only[InR];omega,i -1,v,fs++ [y],⟨⟨by omega,by simp;omega⟩,λz hz=>(qCk.1 hz).elim (I z) λh=>by simp at h;subst h;exact d⟩,⟨rfl, .inl (.inl rfl), .inl (.inl (by simp))⟩,by omega⟩⟩⟩,λhi=>⟨fs,⟨by omega,I⟩, .inl (gp PI (by simp[JS]))⟩⟩
 ·rintro fs c;simp;exact bF (⟨p,g,fs,z⟩:Qry) (by simp) (Y _ _ _ q c ⟨U,W⟩)
end
section
open Go.Proofs
theorem qkv{lb:List B} :∀n p,WP lb n p->∀out:List B,be p out=jG p out:=by
 refine Hw λn p hp l out=>?_
 have hk:∀ks:List Pat,(∀k∈ks,k∈p.kids)->∀o:List B,ks.foldl (λo k=>be k o) o=ks.foldl (λo k=>jG k o) o:=by
  intro ks
  induction ks with
  |nil=>intro _ o;rfl
  | cons k ks d=>
    intro h o;obtain⟨m,_,_,hi⟩:=l k (h k (by simp));rw[qDG,qDG,hi,d λz hz=>h z (by simp[hz])]
 have c:p.op≠1->p.lab=E0->be p out=jG p out:=λh1 h2=>by
  rw[rY,qa,rk,if_pos h2,if_neg (λh=>h1 h.1)];exact hk _ (λ_ h=>h) _
 rcases xF hp with(⟨h1,h2,h3,h4,h5,h6⟩|⟨h1,h2,h3,h4,h5,h6,j⟩)|⟨m,rfl,(⟨h1,h2,h3,h4,h5,h6,a,b,j,_⟩|⟨h1,h2,h3,h4,h5,a,j,_⟩)⟩
 ·rw[rY,qa,h6,rk];by_cases h:p.lab=E0
  ·rw[if_pos h,if_neg (λx=>x.2 h)];rfl
  ·rw[if_neg h,if_pos ⟨h1,h⟩];rfl
 ·exact c (by omega) h3
 ·exact c (by omega) h3
 ·exact c (by omega) h3
def qdZ{out:List B}{x y:B}(h:y∈out):y∈rk out x:=by
 unfold rk De;split
 ·exact h
 ·split
  ·exact h
  ·simp[h]
def qdY{out:List B}{x:B}(h:x≠E0):x∈rk out x:=by
 unfold rk De;rw[if_neg h];split
 ·assumption
 ·simp
def qlz{out:List B}{x:B}(h:out.Nodup):(rk out x).Nodup:=by
 unfold rk De;split
 ·exact h
 ·split
  ·exact h
  ·rename_i c;rw[qDP];exact⟨h,by simp,λa d b hb=>by simp at hb;subst hb;exactλe=>c (e ▸d)⟩
def qdi(p:Pat):∀(out:List B) (y:B),y∈out->y∈be p out:=by
 induction p using eb with|_ p b=>?_
 intro out y h;rw[rY];have:∀ks:List Pat,(∀k∈ks,k∈p.kids)->∀o:List B,y∈o->y∈ks.foldl (λo k=>be k o) o:=by
  intro ks
  induction ks with
  |nil=>intro _ o h;exact h
  |cons k ks a=>intro hk o h;exact a (λz hz=>hk z (by simp[hz])) _ (b k (hk k (by simp)) o y h)
 exact this _ (λ_ h=>h) _ (qdZ h)
def qku(p:Pat):∀(out:List B),out.Nodup->(be p out).Nodup:=by
 induction p using eb with|_ p b=>?_
 intro out h;rw[rY];have:∀ks:List Pat,(∀k∈ks,k∈p.kids)->∀o:List B,o.Nodup->(ks.foldl (λo k=>be k o) o).Nodup:=by
  intro ks
  induction ks with
  |nil=>intro _ o h;exact h
  |cons k ks a=>intro hk o h;exact a (λz hz=>hk z (by simp[hz])) _ (b k (hk k (by simp)) o h)
 exact this _ (λ_ h=>h) _ (qlz h)
theorem qdh(p:Pat):∀q∈sJ p,q.lab≠E0->∀out:List B,q.lab∈be p out:=by
 induction p using eb with|_ p c=>?_
 intro q hq hl out;rw[rY];have hm:∀ks:List Pat,∀o:List B,q.lab∈o->q.lab∈ks.foldl (λo k=>be k o) o:=by
  intro ks
  induction ks with
  |nil=>intro o h;exact h
  |cons k ks a=>intro o h;exact a _ (qdi k o _ h)
 cases p with
 | mk op cond lab reg mn mx ks=>
   rw[sJ]at hq;rcases qCm.1 hq with rfl|hq
   ·exact hm _ _ (qdY hl)
   ·obtain⟨k,hk,hq⟩:=vW hq;have:∀l:List Pat,k∈l->∀o:List B,q.lab∈l.foldl (λo k=>be k o) o:=by
     intro l
     induction l with
     |nil=>intro h;cases h
     | cons z l b=>
       intro h o;rw[qDG];rcases qCm.1 h with rfl|h
       ·exact hm _ _ (c k hk q hq hl _)
       ·exact b h _
    exact this _ hk _
def qbc{n:Nat}{q:Qry}(h:GQ n q):be q.pat []=jG q.pat []/\(be q.pat []).length<=2:=by
 obtain⟨lb,hl,b⟩:=h.lab;have e:=qkv n q.pat b [];refine⟨e,?_⟩;have hm:∀y∈be q.pat [],y=qoZ\/y=qp9:=λy a=>by
  rw[e]at a;rcases qlr n q.pat b [] y a with h|h
  ·cases h
  ·exact hl y h
 refine Qg (f:=λy=>if y=qoZ then 0 else 1) (qku q.pat [] qDS) (λy _=>by split<;>omega) λx c y a=>?_
 rcases hm x c with rfl|rfl<;>rcases hm y a with rfl|rfl
 ·exactλ_=>rfl
 ·rw[if_pos rfl,if_neg (by decide)];exactλh=>by cases h
 ·rw[if_neg (by decide),if_pos rfl];exactλh=>by cases h
 ·exactλ_=>rfl
theorem Wf{n:Nat}{c:Corpus}{q:Qry}(hc:qb3 c)(d:GQ n q)(hn:n<=5):X1 TM c q:=by
 obtain⟨lb,hl,r⟩:=d.lab;have a:fJ aK q.pat=true:=ZZ hl qep n q.pat r (by omega);obtain⟨b,w⟩:=qbc d;obtain⟨_,y,A⟩:=ZY n q.pat r hn;have h3:(3:Int) ^n<=243:=by
  rcases n with _|_|_|_|_|_|n
  all_goals first|decide|omega
 have h2:2^ (n+1)<=64:=by
  rcases n with _|_|_|_|_|_|n
  all_goals first|decide|omega
 have j:ff q.pat<=1000000:=by omega
 have k:(be q.pat []).length<=3:=by omega
 have he:cm oL q.pat=true/\cm nL q.pat=true:=by
  unfold fJ at a;simp only[qCi]at a;exact⟨a.1.1.2,a.2⟩
 have u:qb vK q.pat:=yf (Nu q.pat he.1) λq h=>(tY q).1 h
 refine⟨⟨by rw[b];exact d.glob,d.filts.2,d.strat,a,by omega,k,j,hc.ok.1,λx C=>?_⟩,⟨hc.ok.sz,by have:=hc.few;omega,a,k,j,λt J=>?_⟩⟩
 ·have l:=d.cond x C;rw[b,hc.ok.1];exact⟨qnP l (by omega),qnV l⟩
 ·intro z hz;refine⟨u z hz,Nu q.pat he.2 z hz,λh=>gI (qdh q.pat z hz h []),λh1 s hs F=>?_⟩;have l:=d.cond z (qc2 q.pat u z hz h1);rw[<-b]at l;have I:(H8 c (be q.pat []) t).en<=c.toks.length:=by show min t.e (c.toks.length:Int)<=_;omega
  exact qgx (E:=⟨(H8 c (be q.pat []) t).c,s.p,(H8 c (be q.pat []) t).lb,TF (H8 c (be q.pat []) t) s⟩) ⟨hc.ok,hs.1,by show s.p<(c.toks.length:Int);omega,qbO _ s⟩ l (by decide)
open Cod (enc dec)
variable {S S0:Nat->Spc}
end
section
open Go.Proofs
open Cod (enc dec)
variable {S S0:Nat->Spc}
end
section
open Go.Proofs Cod
variable {dq:Prop}
def qnA:TQ dq pg RS:=
 ac (ag ae) O9 (qjd)
def qj0:TQ dq dz RU:=
 ac (ag (aa io ae)) yi (qjg rfl)
def qs1:Nat->Spc:=FG [(pg,RS),(dz,RU)]
def qj4:TQ dq fL (qaD qs1):=
 ac (S:=qs1) (ag (aa qnA (aa qj0 ae))) uL qjk
def qaM:TQ dq cX (RY qs1):=
 ac (ag (aa qj4 ae)) rV (qjl rfl)
def qnB:TQ dq eY YQ:=
 ac (ag (aa io ae)) Bu (qmV rfl)
def qwv:Nat->Spc:=FG [(eY,YQ)]
def qnD:TQ dq fK (qfp qwv):=
 ac (S:=qwv) (ag (aa qnB ae)) uK qmW
def qnE:TQ dq eU (qfr qwv):=
 ac (ag (aa qnD ae)) rU (qmX rfl)
def qfF:TQ dq ph Vt:=
 ac (ag (aa mH (aa dL (aa io (aa qnE (aa Du ae)))))) Ed (qel (S0:=qwv) rfl rfl rfl rfl rfl rfl)
def VG:∀n,TQ dq gV (qay n)
 | 0=>bU λx h=>by have:=h.1;have:=Ln x.1;omega
 |n+1=>dc (ag (aa qfF (aa (VG n) ae))) Gg (λ_=>qCh rfl) (qjh n rfl rfl)
def qj1:TQ dq gV Vu:=ei (λn=>VG n) (gh (λx h=>⟨oU x.1,qCj _,h⟩))
def qny:TQ dq zN qam:=
 ac (ag ae) O7 (OB)
def qaL:∀n,TQ dq jg (Vi n)
 | 0=>bU λx h=>by have:=h.1;have:=Ln x.1;omega
 |n+1=>dc (ag (aa (qaL n) ae)) If (λ_=>qCh rfl) (HH n rfl)
def qnz:TQ dq jg Vj:=ei (λn=>qaL n) (gh (λx h=>h))
def qnC:TQ dq ee qaB:=
 ac (ag ae) Pa (OG)
def qwu(n:Nat):Nat->Spc:=FG [(fS,Ml n)]
def VH:∀n,TQ dq mE (Vy n)
 | 0=>bU λx h=>by have:=h.1.1;have:=Ln x.1;omega
 | n+1=>
   have h1:TQ dq fS (Ml n):=ac (ag (aa (VH n) ae)) Ih (J8 n rfl);have h2:TQ dq eA (qfq (qwu n)):=ac (S:=qwu n) (ag (aa h1 ae)) qD rL;have h3:TQ dq dx (qfs (qwu n)):=ac (ag (aa h2 ae)) nK (nN rfl)
   ac (ag (aa h3 (aa qnC ae))) MP (OF (S0:=qwu n) n rfl rfl rfl)
def qj2:TQ dq mE Vz:=ei (λn=>VH n) (gh (λx h=>by obtain⟨⟨n,h1⟩,h2⟩:=h;exact⟨n,h1,h2⟩))
def qj3:TQ dq wW VA:=
 ac (ag (aa qny (aa qnz (aa qj2 ae)))) MR (LH rfl rfl rfl)
def qjZ:TQ dq kO qax:=
 ac (ag (aa Dh (aa wt (aa FA (aa ug (aa qaM ae)))))) AN (qjf (N:=qd9) (N2:=qs1) rfl rfl rfl rfl rfl rfl rfl rfl)
def YZ:TQ dq qL (qal TM):=
 ac (ag (aa qjZ (aa ug (aa LN (aa sq (aa qaM (aa qj3 (aa qj1 ae)))))))) Gh (qi4 (N:=qs1) rfl rfl rfl rfl rfl rfl rfl rfl)
def qcK:TQ dq sM (qfe TM):=
 ac (ag (aa YZ (aa RA ae))) Ij (qqv rfl rfl)
def FD:TQ dq gW Dj:=
 ei (λn=>yv n) (gh (λx h=>⟨x.2.1.toNat+1,Nat.lt_succ_self _,h⟩))
def JG:∀n,TQ dq se (FV n)
 | 0=>bU λx h=>absurd h.1 (Nat.not_lt_zero _)
 |n+1=>dc (ag (aa (JG n) ae)) Su (λ_=>qCh rfl) (Rj n rfl)
def UA:TQ dq se Di:=
 ei (λn=>JG n) (gh (λx h=>by obtain⟨n,h⟩:=h;exact⟨n+1,Nat.succ_pos _,h⟩))
def VF:∀n,TQ dq BX (PU n)
 | 0=>bU λx h=>absurd h.1 (Nat.not_lt_zero _)
 |n+1=>dc (ag (aa UA (aa (VF n) ae))) qcT (λ_=>qCh rfl) (qce n rfl rfl)
def qev:TQ dq BX Mg:=
 ei (λn=>VF n) (gh (λx h=>by obtain⟨n,h⟩:=h;exact⟨n+1,Nat.succ_pos _,h⟩))
def P6:∀n,TQ dq qN (Ws n)
 | 0=>nO λd ds H K ⟨id,v,l,a,x,h1,h2,h3,h4,h5⟩=>qd6 h4.1
 |n+1=>yH (ag (aa (P6 n) ae)) MV (by decide) (Ur n rfl)
def Ju:Tri dq Tryz.prog qN i_BoundA2.pt:=ei (λn=>P6 n) λd ds H K ⟨id,v,l,a,x,h1,h2,h3,h4,h5⟩=>⟨cM x,id,v,l,a,x,h1,h2,h3,⟨qCj _,h4⟩,h5⟩
def qco:Tri dq Tryz.prog qN s_Bound2.pt:=LS (xU (ag (aa Ju ae)) MV (λ_=>qCh rfl) (Us rfl)) Ju
def tn:∀n,TQ dq eZ (Ap n)
 | 0=>bU λx h=>absurd h.1 (Nat.not_lt_zero _)
 |n+1=>dc (ag (aa du (aa Hb (aa (tn n) ae)))) By (λ_=>qCh rfl) (Kb n rfl rfl rfl)
def CV:TQ dq eZ xX:=
 ei (λn=>tn n) (gh (λx h=>h))
def Kl:TQ dq sO JD:=
 ac (ag (aa du (aa Hb ae))) Io (Uq rfl rfl)
def LQ:TQ dq uZ Mh:=
 ac (ag (aa du (aa FD (aa qco (aa qev (aa CV (aa Kl ae))))))) Kz (Yh rfl rfl rfl rfl rfl rfl)
end
section
open Cod (enc dec)
variable {S S0:Nat->Spc}
def ZQ(_:D×Unit)(l r:List Span):Prop:=r.length=l.length/\(∀x,x∈r↔x∈l)/\WS r
abbrev Md:Spc:=aJ (a2 (List Span) (List Span)) (λ_=>True) enc λx y=>y=decide (x.1=x.2)
def Ya:aq B7 Bf S (a2 (List Span) (List Span)) (λ_=>True) enc λx y=>y=decide (x.1=x.2):=by
 rintro⟨a,b⟩ -;simp[B7,Bf];intro h1 h2;refine⟨λh3=>?_,λh3 _=>?_⟩
 ·intro e;subst e;omega
 ·have l:a.length=b.length:=by omega
  refine ah (X:=Unit) [0,1] [] a.length (λk _=>a.take k=b.take k) (λ_=>[]) (λ_=>[]) () (by simp) ?_ ?_
  ·intro k _ hk c;simp;refine⟨hk,λx j=>⟨by omega,λy d=>⟨λh=>?_,λh4 h5=>?_⟩⟩⟩
   ·intro e;subst e;rw[j]at d;cases d;simp at h
   ·rw[aB j,aB d,c,Span.ext' h4 h5]
  ·intro _ c;simp;rw[qC7 (by omega),qC7 (by omega)]at c;exact c
end
section
open Go.Proofs
def mh:CC:=oX [oB 2 (.box bI true (oT 0)),oB 3 (.box bI true (oT 1)),oB 4 (.mv (oN 0))] [2,3] [] (.seq (.regd [oE 5 0 2,oC 6 1 5,oE 7 0 3,oC 8 1 7,oZ 9 dD [oT 6,oT 8],oE 10 1 2,oC 11 1 10,oE 12 1 3,oC 13 1 12] [oZ 14 dD [oT 11,oT 13],oB 15 (.bslice bE 1 [oT 9,oT 14]),oZ 16 pv [oT 15],oA 4 16])
 (.keep [4] [] (.ret)))
def lO:List ak:=[.tmp 4]
def pT:CC:=oX [oB 4 (.mv (.const on))] [0,1] [] (oX [oB 5 (.mv (.const on))] [0,1,5] [19] (.seq (oX [oA 8 0,oB 9 (.len (oT 8)),oB 10 (.mv (oN 0))] [1,5,8,9,10] [19] (gH 0 10 9 11 1 (oX [oB 12 (.iaddr 1 (oT 8) (oT 10)),oC 13 1 12,oA 7 13] [1,5,7,8,9,10] [19] (.reg [oA 14 5,oA 15 7,oA 16 1,oB 17 (.arith .add (oT 15) (oT 16)),oB 18 (.bslice bE 1 [oT 17]),
 oB 19 (.append none bE 1 8 (oT 14) (oT 18)),oA 5 19])) 20)) (.keep [5] [19] (oX [oA 21 5,oA 4 21] [4] [19] (.ret)))))
def oq:List ak:=[.tmp 4]
def pS:CC:=oX [oB 2 (.box aW true (oT 0)),oB 4 (.mv (.const on))] [1,2] [] (.seq (oX [oE 9 10 2,oC 10 1 9,oB 11 (.eql false false [.int] (oT 10) (oN 0))] [1,2,11] [] (.ite (oT 11) (oX [oB 4 (.mv (.const on))] [4] [35] (.ret)) (.skip))) (.keep [1,2] [] (oX [oE 13 12 2,oC 14 1 13,oB 15 (.iaddr 13 (oT 14) (oN 0)),oD 16 13 15,oZ 17 gy [oT 16],oA 12 17,
 oB 18 (.ext (oT 12) 0),oB 19 (.ext (oT 12) 1),oA 5 18,oA 6 19] [1,2,5,6] [] (.seq (oX [oA 20 5,oA 21 6,oB 22 (.eql true false [.int] (oT 20) (oT 21))] [1,2,5,22] [] (.ite (oT 22) (oX [oA 23 1,oA 4 23] [4] [35] (.ret)) (.skip))) (.keep [1,2,5] [] (oX [oB 7 (.mv (.const on))] [1,2,5,7] [35] (.seq (oX [oE 24 10 2,oC 25 1 24,
 oB 26 (.mv (oN 0))] [1,5,7,25,26] [35] (gH 0 26 25 27 1 (oX [oA 28 26,oA 8 28] [1,5,7,8,25,26] [35] (.reg [oA 29 7,oA 30 1,oA 31 8,oA 32 5,oB 33 (.arith .mul (oT 31) (oT 32)),oZ 34 dU [oT 30,oT 33],oB 35 (.append none bE 1 8 (oT 29) (oT 34)),oA 7 35])) 36)) (.keep [7] [35] (oX [oA 37 7,oZ 38 oW [oT 37]] [7] [35] (oX [oA 39 7,
 oZ 40 ga [oT 39],oA 4 40] [4] [35] (.ret)))))))))))
def oo:List ak:=[.tmp 4]
def bv:CC:=oX [oB 4 (.box aW true (oT 1))] [0,2,4] [0,47] (oX [oE 14 0 4,oC 15 1 14] [0,2,4,15] [0,47] (.block 0 (oX [oB 28 (.eql false false [.int] (oT 15) (oN 1)),oA 27 28] [0,2,4,15,27] [0,47] (.ite (oT 27) (.seq (oX [oA 29 2,oB 30 (.len (oT 29)),oB 31 (.mv (oN 0))] [0,29,30,31] [0,47] (gH 3 31 30 32 4 (oX [oB 33 (.iaddr 1 (oT 29) (oT 31)),
 oC 34 1 33,oA 7 34] [0,7,29,30,31] [0,47] (.regd [oA 35 0,oA 36 0,oG 37 36,oE 38 1 37,oC 39 1 38,oA 40 0,oG 41 40,oE 42 0 41,oC 43 1 42,oA 44 7,oB 45 (.build [oi,oi] [(0,1,oT 43),(1,1,oT 44)]),oB 46 (.bslice bI 2 [oT 45]),oB 47 (.append (some 47) bI 2 16 (oT 39) (oT 46))] [oG 48 35,oE 49 1 48,.op none none (.store (some 0) 1 (oT 49) (oT 47))])) 50))
 (.keep [0] [0,47] (.reg [oA 51 0,oG 52 51,oE 53 0 52,oC 54 1 53,oB 55 (.arith .add (oT 54) (oN 1)),oG 56 51,oE 57 0 56,oF 1 57 55]))) (oX [oB 59 (.eql false false [.int] (oT 15) (oN 4)),oA 58 59] [0,2,4,15,58] [0,47] (.ite (oT 58) (oX [oE 60 12 4,oC 61 1 60,oB 62 (.len (oT 61)),oB 63 (.mv (oN 0))] [0,2,61,62,63] [0,47] (gH 5 63 62 64 6 (oX [oB 65 (.iaddr 13 (oT 61) (oT 63)),
 oD 66 13 65,oB 9 (.alloc aW [oi,oi,oe,oe,oe,oe,ob,on,oe,oe,oi,oi,on]),oF 13 9 66] [0,2,9,61,62,63] [0,9,47] (oX [oA 67 0,oD 68 13 9,oA 69 2,oZ 70 aI [oT 67,oT 68,oT 69]] [0,2,9,61,62,63] [0,9,47] (oX [oD 72 13 9,oZ 73 gy [oT 72],oA 71 73,oB 74 (.ext (oT 71) 0),oB 75 (.ext (oT 71) 1),oA 10 74,oA 11 75] [0,2,10,11,61,62,63] [0,47] (.seq (oX [
 oA 76 10,oA 77 11,oB 78 (.eql true false [.int] (oT 76) (oT 77))] [0,2,10,61,62,63,78] [0,47] (.ite (oT 78) (.reg [oB 2 (.mv (.const on))]) (.skip))) (.keep [0,2,10,61,62,63] [0,47] (.reg [oA 79 2,oA 80 10,oZ 81 dU [oT 79,oT 80],oA 2 81])))))) 82)) (oX [oB 84 (.eql false false [.int] (oT 15) (oN 6)),oA 83 84] [0,2,4,83] [0,47] (.ite (oT 83) (.regd [oA 85 0,oE 86 12 4,
 oC 87 1 86,oB 88 (.iaddr 13 (oT 87) (oN 0)),oD 89 13 88,oD 90 13 4,oA 91 2,oZ 92 gX [oT 90,oT 91]] [oZ 93 aI [oT 85,oT 89,oT 92]]) (oX [oE 16 12 4,oC 17 1 16,oB 18 (.len (oT 17)),oB 19 (.mv (oN 0))] [0,17,18,19] [0,47] (gH 1 19 18 20 2 (oX [oB 21 (.iaddr 13 (oT 17) (oT 19)),oD 22 13 21,
 oB 13 (.alloc aW [oi,oi,oe,oe,oe,oe,ob,on,oe,oe,oi,oi,on]),oF 13 13 22] [0,13,17,18,19] [0,13,47] (.reg [oA 23 0,oD 24 13 13,oZ 25 aI [oT 23,oT 24,.const on]])) 26))))))))))
def br:List ak:=[]
def pU:CC:=oX [oB 1 (.box aW true (oT 0)),oB 2 (.mv (.const on))] [1] [] (.seq (oX [oD 5 13 1,oZ 6 tP [oT 5],oA 3 6] [1,3] [] (oX [oA 7 3,oB 8 (.cmp .lss (oT 7) (oN 1)),oA 9 8,oI 10 9 (.mv (oT 3)),oI 11 9 (.cmp .gtr (oT 10) (oN 256)),oB 12 (.pick (oT 9) (.const (.bool true)) (oT 11))] [1,12] [] (.ite (oT 12) (oX [
 oB 2 (.mv (.const on))] [2] [] (.ret)) (.skip)))) (.keep [1] [] (OU 5 (.reg [oB 13 (.build [oi,on] []),oB 14 (.box DV false (oT 13)),oA 4 14]) (.keep [1,4] [14,47] (oX [oA 15 4,oD 16 13 1,oB 17 (.bslice bE 1 [oN 0]),oZ 18 aI [oT 15,oT 16,oT 17]] [4] [14,47] (oX [oA 19 4,oG 20 19,oE 21 1 20,oC 22 1 21,
 oZ 23 gu [oT 22,.func fw]] [4] [14,47] (oX [oA 24 4,oG 25 24,oE 26 1 25,oC 27 1 26,oZ 28 eN [oT 27],oA 2 28] [2] [47] (.ret))))))))
def ot:List ak:=[.tmp 2]
def jy:CC:=oX [oB 2 (.mv (.const on))] [0] [0] (.seq (oX [oA 6 0,oB 7 (.len (oT 6)),oB 8 (.cmp .lss (oT 7) (oN 2))] [0,8] [0] (.ite (oT 8) (oX [oA 9 0,oA 2 9] [2] [0] (.ret)) (.skip))) (.keep [0] [0] (.seq (oX [oB 3 (.mv (oN 1))] [0,3] [0] (.block 0 (.loop 1 (.seq (oX [oA 10 3,oA 11 0,oB 12 (.len (oT 11)),
 oB 13 (.cmp .lss (oT 10) (oT 12))] [0,3,13] [0] (.ite (oT 13) (.skip) (.exit 0))) (.keep [0,3] [0] (.seq (.block 1 (.seq (.regd [oA 16 0,oA 17 3,oB 18 (.iaddr 1 (oT 16) (oT 17)),oC 19 1 18,oA 20 0,oA 21 3,oB 22 (.arith .sub (oT 21) (oN 1)),oB 23 (.iaddr 1 (oT 20) (oT 22)),oC 24 1 23] [oB 25 (.eql false false [.int] (oT 19) (oT 24))]) (.keep [0,3,25] [0] (.ite (oT 25) (oX [oA 26 0,
 oA 27 3,oB 28 (.slice 1 (oT 26) (some (oT 27)) none),oA 4 28] [0,3,4] [0] (OU 11 (oX [oB 5 (.mv (oN 1))] [0,3,4,5] [0] (.block 2 (.loop 2 (.seq (oX [oA 29 5,oA 30 4,oB 31 (.len (oT 30)),oB 32 (.cmp .lss (oT 29) (oT 31))] [0,3,4,5,32] [0] (.ite (oT 32) (.skip) (.exit 2))) (.keep [0,3,4,5] [0] (.seq (.block 3 (.seq (.regd [oA 35 4,oA 36 5,oB 37 (.iaddr 1 (oT 35) (oT 36)),oC 38 1 37,
 oA 39 4,oA 40 5,oB 41 (.arith .sub (oT 40) (oN 1)),oB 42 (.iaddr 1 (oT 39) (oT 41)),oC 43 1 42] [oB 44 (.eql true false [.int] (oT 38) (oT 43))]) (.keep [0,3,4,5,44] [0] (.ite (oT 44) (oX [oA 45 0,oA 46 3,oA 47 4,oA 48 5,oB 49 (.iaddr 1 (oT 47) (oT 48)),oC 50 1 49,oB 51 (.iaddr 1 (oT 45) (oT 46)),oF 1 51 50] [0,3,4,5] [0] (.reg [oA 52 3,oB 53 (.arith .add (oT 52) (oN 1)),
 oA 3 53])) (.skip))))) (.keep [0,3,4,5] [0] (.reg [oA 33 5,oB 34 (.arith .add (oT 33) (oN 1)),oA 5 34])))))))) (.keep [0,3] [0] (oX [oA 54 0,oA 55 3,oB 56 (.slice 1 (oT 54) (some (oT 55)) none),.op none none (.clear 1 false [oi] (oT 56))] [0,3] [0] (oX [oA 57 0,oA 58 3,oB 59 (.slice 1 (oT 57) none (some (oT 58))),.frz 59 0,oA 2 59] [2] [0] (.ret)))))) (.skip)))))
 (.keep [0,3] [0] (.reg [oA 14 3,oB 15 (.arith .add (oT 14) (oN 1)),oA 3 15])))))))) (.keep [0] [0] (oX [oA 60 0,oA 2 60] [2] [0] (.ret))))))
def jm:List ak:=[.tmp 2]
def gB:CC:=oX [oB 2 (.mv (.const on))] [0] [0] (.seq (oX [oA 6 0,oB 7 (.len (oT 6)),oB 8 (.cmp .lss (oT 7) (oN 2))] [0,8] [0] (.ite (oT 8) (oX [oA 9 0,oA 2 9] [2] [0] (.ret)) (.skip))) (.keep [0] [0] (.seq (oX [oB 3 (.mv (oN 1))] [0,3] [0] (.block 0 (.loop 1 (.seq (oX [oA 10 3,oA 11 0,oB 12 (.len (oT 11)),
 oB 13 (.cmp .lss (oT 10) (oT 12))] [0,3,13] [0] (.ite (oT 13) (.skip) (.exit 0))) (.keep [0,3] [0] (.seq (.block 1 (.seq (.regd [oA 16 0,oA 17 3,oB 18 (.iaddr 2 (oT 16) (oT 17)),oD 19 2 18,oA 20 0,oA 21 3,oB 22 (.arith .sub (oT 21) (oN 1)),oB 23 (.iaddr 2 (oT 20) (oT 22)),oD 24 2 23] [oB 25 (.eql false true [.int,.int] (oT 19) (oT 24))]) (.keep [0,3,25] [0] (.ite (oT 25) (oX [oA 26 0,
 oA 27 3,oB 28 (.slice 2 (oT 26) (some (oT 27)) none),oA 4 28] [0,3,4] [0] (OU 11 (oX [oB 5 (.mv (oN 1))] [0,3,4,5] [0] (.block 2 (.loop 2 (.seq (oX [oA 29 5,oA 30 4,oB 31 (.len (oT 30)),oB 32 (.cmp .lss (oT 29) (oT 31))] [0,3,4,5,32] [0] (.ite (oT 32) (.skip) (.exit 2))) (.keep [0,3,4,5] [0] (.seq (.block 3 (.seq (.regd [oA 35 4,oA 36 5,oB 37 (.iaddr 2 (oT 35) (oT 36)),oD 38 2 37,
 oA 39 4,oA 40 5,oB 41 (.arith .sub (oT 40) (oN 1)),oB 42 (.iaddr 2 (oT 39) (oT 41)),oD 43 2 42] [oB 44 (.eql true true [.int,.int] (oT 38) (oT 43))]) (.keep [0,3,4,5,44] [0] (.ite (oT 44) (oX [oA 45 0,oA 46 3,oA 47 4,oA 48 5,oB 49 (.iaddr 2 (oT 47) (oT 48)),oD 50 2 49,oB 51 (.iaddr 2 (oT 45) (oT 46)),oF 2 51 50] [0,3,4,5] [0] (.reg [oA 52 3,oB 53 (.arith .add (oT 52) (oN 1)),
 oA 3 53])) (.skip))))) (.keep [0,3,4,5] [0] (.reg [oA 33 5,oB 34 (.arith .add (oT 33) (oN 1)),oA 5 34])))))))) (.keep [0,3] [0] (oX [oA 54 0,oA 55 3,oB 56 (.slice 2 (oT 54) (some (oT 55)) none),.op none none (.clear 2 true [oi,oi] (oT 56))] [0,3] [0] (oX [oA 57 0,oA 58 3,oB 59 (.slice 2 (oT 57) none (some (oT 58))),.frz 59 0,oA 2 59] [2] [0] (.ret)))))) (.skip)))))
 (.keep [0,3] [0] (.reg [oA 14 3,oB 15 (.arith .add (oT 14) (oN 1)),oA 3 15])))))))) (.keep [0] [0] (oX [oA 60 0,oA 2 60] [2] [0] (.ret))))))
def gk:List ak:=[.tmp 2]
def ok_estimate_compare:FO fw [2,3] mh lO 17:=fo
def Gp:FO dU [] pT oq 22:=fo
def Gn:FO gX [2] pS oo 41:=fo
def wO:FO aI [4,1047047,2049000,1047047] bv br 94:=fo
def Gq:FO lB [1] pU ot 29:=fo
def AI:FO ga [] jy jm 61:=fo
def wM:FO eN [] gB gk 61:=fo
open Cod (enc dec)
variable {S S0:Nat->Spc}
def Ho(p:Pat):Prop:=ff p<=1000000/\vQ p<=100000
def rK(p:Pat)(y:List Span):Prop:=if fJ aK p=true/\kg p<=256 then SrcsOf p y else y=[]
abbrev xZ:Spc:=qrD (Y:=Span) a0 (λ_ l=>l.length<=100000) (λ_ l r=>r=vP l) bI 2
theorem xI:TK (Y:=Span) gB gk S a0 (λ_ l=>l.length<=100000) (λ_ l r=>r=vP l) bI 2:=by
 rintro v l ⟨⟩ hl;simp[gB,gk];refineλ_=>⟨λh=>?_,λh2=>?_⟩
 ·exact dw l (by simp) (NJ (by omega)).symm
 ·refine aA (X:=Nat) [0] [0] (λk=>1<=k/\k<=l.length/\vP (l.take k)=l.take k) (λk=>[(3,enc (k:Int))]) (λ_=>[]) (λk=>l.length -k) 1 ?_ ?_;grind [qhA]
  ·rintro k ⟨A,C,t⟩;by_cases s:k<l.length
   ·obtain⟨x,E⟩:=bh s;obtain⟨y,M⟩:=bh (l:=l) (k:=k -1) (by omega);have O:((k:Int) -1).toNat=k -1:=by omega
    have e2:((k:Int)<l.length):=by omega
    have F:¬l.length<=k:=by omega
    simp[E,M,InR,O,F];intro _ _;have c:=QL A E M;refine⟨s,by omega,by omega,by omega,by omega,λQ U=>⟨C,?_⟩,λd=>⟨by omega,k+1,⟨by omega,by omega,?_⟩,by omega,by omega⟩⟩
    ·-- from here on elements W I
     have J:x=y:=Span.ext' Q U;rw[if_pos J]at c;refine bc (X:=Nat×List Span) [0] [] (λz=>z.2.length=l.length/\z.1<=l.length/\z.2.take z.1=vP l) (λz=>[(3,enc (z.1:Int))]) (λz=>[(0, .row v bI 2 (z.2.map enc))]) ?_ ?_
     ·simp;refine aA (X:=Nat×Nat×List Span) [0,4] [] (λz=>z.2.2.length=l.length/\1<=z.2.1/\k+z.2.1<=l.length/\z.1<k+z.2.1/\z.2.2.take z.1=vP (l.take (k+z.2.1))/\z.2.2.drop (k+z.2.1 -1)=l.drop (k+z.2.1 -1)) (λz=>[(3,enc (z.1:Int)),(5,enc (z.2.1:Int))]) (λz=>[(0, .row v bI 2 (z.2.2.map enc))]) (λz=>l.length -z.2.1) (k,1,l) ?_ ?_
      ·simp;refine⟨by omega,?_⟩;rw[c,t]
      ·rintro⟨i,j,cur⟩ ⟨c1,c2,c3,c4,w,q⟩;simp at c1 c2 c3 c4 w q;by_cases hj:j<l.length -k
       ·obtain⟨a,N⟩:=bh (l:=l) (k:=k+j) (by omega);obtain⟨b,hb⟩:=bh (l:=l) (k:=k+j -1) (by omega);have K:cur[k+j]? =some a:=(Lp q (by omega)).trans N;have L:cur[k+ (j -1)]? =some b:=by
         rw[show k+ (j -1)=k+j -1 by omega];exact(Lp q (qCj _)).trans hb
        obtain⟨u,Z⟩:=bh (l:=cur) (k:=i) (by omega);have hs:=QL (j:=k+j) (by omega) N hb;have p:¬l.length -k<=j:=by omega
        simp[K,L,Z,InR,p];intro _ _;refine⟨by omega,by omega,by omega,by omega,by omega,by omega,λd=>⟨by omega,by omega,by omega,by omega,by omega,i+1,j+1,cur.set i a,⟨by simp;omega,by omega,by omega,by omega,?_,?_⟩,⟨by omega, .inl ?_⟩,by omega⟩,λq3 q4=>⟨by omega,i,j+1,cur,⟨c1,by omega,by omega,by omega,?_,?_⟩,⟨by omega, .inl rfl⟩,by omega⟩⟩
        ·rw[(rr (m:=k+j) (l:=l) (by omega) c4 (ud q (by omega))).1,w,show k+ (j+1)=k+j+1 by omega,hs,if_neg];rintro rfl;rcases d with h|h<;>exact h rfl
        ·rw[show k+ (j+1) -1=k+j by omega];exact(rr (m:=k+j) (l:=l) (by omega) c4 (ud q (by omega))).2
        ·exact qeS cur i a
        ·rw[w,show k+ (j+1)=k+j+1 by omega,hs,if_pos (Span.ext' q3 q4)]
        ·exact ud q (by omega)
       ·have p:j=l.length -k:=by omega
        subst p;simp;intro _;refine⟨i,cur,⟨c1,by omega,?_⟩,rfl, .inl rfl⟩;rw[w,show k+ (l.length -k)=l.length by omega,qCx]
     ·rintro⟨i,cur⟩ ⟨c1,c2,c3⟩;simp at c1 c2 c3;simp;refine⟨by omega,by omega,λv=>dw (vP l) ?_ rfl⟩;have e:(vP l).map enc=(cur.map enc).take i:=by rw[<-c3,List.map_take]
      rw[e];simp[List.take_append,c1,c2]
    ·rw[if_neg (λe=>by subst e;exact d rfl rfl)]at c;rw[c,t,aB E]
   ·have F:k=l.length:=by omega
    subst F;simp;rw[qCx]at t;exactλ_=>dw l (by simp) t.symm
section
variable {α:Type}[DecidableEq α]
def qp1(l:List α)(x:α):List α:=if l.getLast? =some x then l else l++ [x]
def vi(l:List α):List α:=l.foldl qp1 []
theorem CH(l:List α)(x:α):vi (l++ [x])=qp1 (vi l) x:=by simp[vi]
def qdL(l:List α):(vi l).getLast? =l.getLast?:=by
 refine ua (P:=λl=>(vi l).getLast? =l.getLast?) rfl (λl x a=>?_) l;grind [CH,qp1]
def qhD(l:List α):(vi l).length<=l.length:=by
 refine ua (P:=λl=>(vi l).length<=l.length) (qCj _) (λl x a=>?_) l;grind [CH,qp1]
def qhC(l:List α):∀x,x∈vi l↔x∈l:=by
 refine ua (P:=λl=>∀x,x∈vi l↔x∈l) (λx=>qDz) (λl y a x=>?_) l;grind [CH,qp1]
def NK{l:List α}(h:l.length< 2):vi l=l:=by
 match l,h with
 | [],_=>rfl
 | [x],_=>rfl
 |x::y::l,h=>grind
theorem qhB{l:List α}(h:1<=l.length):vi (l.take 1)=l.take 1:=NK (by grind)
def QN{l:List α}{j:Nat}{x y:α}(b:1<=j)(a:l[j]? =some x)(c:l[j -1]? =some y):vi (l.take (j+1))=if x=y then vi (l.take j)else vi (l.take j) ++ [x]:=by
 rw[aB a,CH,qp1,qdL];grind
end
abbrev Dk:Spc:=qrD (Y:=Int) a0 (λ_ l=>l.length<=100000) (λ_ l r=>r=vi l) bE 1
theorem AY:TK (Y:=Int) jy jm S a0 (λ_ l=>l.length<=100000) (λ_ l r=>r=vi l) bE 1:=by
 rintro v l ⟨⟩ hl;simp[jy,jm];refineλ_=>⟨λh=>?_,λh2=>?_⟩
 ·exact dw l (by simp) (NK (by omega)).symm
 ·refine aA (X:=Nat) [0] [0] (λk=>1<=k/\k<=l.length/\vi (l.take k)=l.take k) (λk=>[(3,enc (k:Int))]) (λ_=>[]) (λk=>l.length -k) 1 ?_ ?_;grind [qhB]
  ·rintro k ⟨w,A,C⟩;by_cases s:k<l.length
   ·obtain⟨x,E⟩:=bh s;obtain⟨y,M⟩:=bh (l:=l) (k:=k -1) (by omega);have O:((k:Int) -1).toNat=k -1:=by omega
    have e2:((k:Int)<l.length):=by omega
    have F:¬l.length<=k:=by omega
    simp[E,M,InR,O,F];intro _ _;have c:=QN w E M;refine⟨s,by omega,by omega,by omega,by omega,λQ=>⟨A,?_⟩,λd=>⟨by omega,k+1,⟨by omega,by omega,?_⟩,by omega,by omega⟩⟩
    ·-- from here on elements U I
     have J:x=y:=Q;rw[if_pos J]at c;refine bc (X:=Nat×List Int) [0] [] (λz=>z.2.length=l.length/\z.1<=l.length/\z.2.take z.1=vi l) (λz=>[(3,enc (z.1:Int))]) (λz=>[(0, .row v bE 1 (z.2.map enc))]) ?_ ?_
     ·simp;refine aA (X:=Nat×Nat×List Int) [0,4] [] (λz=>z.2.2.length=l.length/\1<=z.2.1/\k+z.2.1<=l.length/\z.1<k+z.2.1/\z.2.2.take z.1=vi (l.take (k+z.2.1))/\z.2.2.drop (k+z.2.1 -1)=l.drop (k+z.2.1 -1)) (λz=>[(3,enc (z.1:Int)),(5,enc (z.2.1:Int))]) (λz=>[(0, .row v bE 1 (z.2.2.map enc))]) (λz=>l.length -z.2.1) (k,1,l) ?_ ?_;grind
      ·rintro⟨i,j,cur⟩ ⟨c1,c2,c3,c4,t,q⟩;simp at c1 c2 c3 c4 t q;by_cases hj:j<l.length -k
       ·obtain⟨a,N⟩:=bh (l:=l) (k:=k+j) (by omega);obtain⟨b,hb⟩:=bh (l:=l) (k:=k+j -1) (by omega);have K:cur[k+j]? =some a:=(Lp q (by omega)).trans N;have L:cur[k+ (j -1)]? =some b:=by
         rw[show k+ (j -1)=k+j -1 by omega];exact(Lp q (qCj _)).trans hb
        obtain⟨u,W⟩:=bh (l:=cur) (k:=i) (by omega);have hs:=QN (j:=k+j) (by omega) N hb;have p:¬l.length -k<=j:=by omega
        simp[K,L,W,InR,p];intro _ _;refine⟨by omega,by omega,by omega,by omega,by omega,by omega,λd=>⟨by omega,by omega,by omega,by omega,by omega,i+1,j+1,cur.set i a,⟨by simp;omega,by omega,by omega,by omega,?_,?_⟩,⟨by omega, .inl ?_⟩,by omega⟩,λZ=>⟨by omega,i,j+1,cur,⟨c1,by omega,by omega,by omega,?_,?_⟩,⟨by omega, .inl rfl⟩,by omega⟩⟩
        ·rw[(rr (m:=k+j) (l:=l) (by omega) c4 (ud q (by omega))).1,t,show k+ (j+1)=k+j+1 by omega,hs,if_neg];rintro rfl;exact d rfl
        ·rw[show k+ (j+1) -1=k+j by omega];exact(rr (m:=k+j) (l:=l) (by omega) c4 (ud q (by omega))).2
        ·exact(qEg ..).symm
        ·rw[t,show k+ (j+1)=k+j+1 by omega,hs,if_pos (Z)]
        ·exact ud q (by omega)
       ·have p:j=l.length -k:=by omega
        subst p;simp;intro _;refine⟨i,cur,⟨c1,by omega,?_⟩,rfl, .inl rfl⟩;rw[t,show k+ (l.length -k)=l.length by omega,qCx]
     ·rintro⟨i,cur⟩ ⟨c1,c2,c3⟩;simp at c1 c2 c3;simp;refine⟨by omega,by omega,λv=>dw (vi l) ?_ rfl⟩;have e:(vi l).map enc=(cur.map enc).take i:=by rw[<-c3,List.map_take]
      rw[e];simp[List.take_append,c1,c2]
    ·rw[if_neg (λe=>by subst e;exact d rfl)]at c;rw[c,C,aB E]
   ·have F:k=l.length:=by omega
    subst F;simp;rw[qCx]at C;exactλ_=>dw l (by simp) C.symm
def TS(x:List Int×Int):Prop:=x.1.length<=100000/\0<=x.2/\x.2<=1000000/\∀a∈x.1,0<=a/\a<=1000000000000000
abbrev lq:Spc:=aJ (a2 (List Int) Int) TS (enc (X:=List Int)) (λx y=>y=x.1.map (· +x.2))
theorem HM:aq pT oq S (a2 (List Int) Int) TS (enc (X:=List Int)) (λx y=>y=x.1.map (· +x.2)):=by
 rintro⟨l,n⟩ ⟨hl,b,c,j⟩;simp only at hl b c j;simp[pT,oq];intro _;refine ah (X:=Value×List Int) [1,8] [] l.length (λk x=>x.2=(l.take k).map (· +n)) (λx=>[(5, .own 19 x.1)]) (λx=>[(19, .row x.1 bE 1 (x.2.map enc))]) (.slice none 0 0, []) (by simp) ?_ ?_ (hh:=by simp[isNilRow])
 ·rintro k ⟨v,m⟩ a hm;simp only at hm;obtain⟨x,d⟩:=bh a;have p:=j x (aY d);obtain⟨_,h⟩:=qCd.1 d;have q:m.length=k:=by grind
  simp[a,d,h];refine⟨by grind [InR],by omega,by omega,λv=> .inl ?_⟩;simp_all [qDg]
 ·rintro⟨v,m⟩ hm;simp only at hm;rw[qCx]at hm;simp;exact bF m (gp bE (by simp)) hm
abbrev s_Sort_int:Spc:=qn8 (Y:=Int) a0 (λ_ l=>l.length<=100000) (λ_ l r=>r.length=l.length/\∀x,x∈r↔x∈l) bE 1
def TR(x:Pat×List Int):Prop:=x.1.op=6/\fJ aK x.1=true/\x.2.length*vQ x.1<=100000/\∀a∈x.2,0<=a/\a<=1000000000000000
def qbS(x:Pat×List Int)(y:List Int):Prop:=y.length<=x.2.length* (max 1 x.1.mn).toNat/\∀b,x.1.kids=[b]->∀z,z∈y↔ ∃a∈x.2,∃i:Int,0<=i/\i<x.1.mn/\(i=0\/(bG b).1=(bG b).2)/\z=a+i* (bG b).1
abbrev qf:Spc:=aJ (a2 Pat (List Int)) TR (enc (X:=List Int)) qbS
theorem HL(h1:S gy=Ld)(h2:S dU=lq)(h3:S oW=s_Sort_int)(h4:S ga=Dk):aq pS oo S (a2 Pat (List Int)) TR (enc (X:=List Int)) qbS:=by
 rintro⟨p,l⟩ ⟨ho,hp,hl,C⟩;simp only at ho hp hl C;rcases qF (eJ hp).1 with⟨q,_⟩|⟨q,_⟩|⟨q,_⟩|⟨_,d,j⟩
 omega;omega;omega;have E:=eW hp (show d∈p.kids by grind);have s:gG (bG d):=vS d E;have hn:=(eJ hp).2.2;unfold nL at hn;rw[decide_eq_true_eq]at hn;have hn:=hn ho;have I:vQ p=(max 1 p.mn).toNat*vQ d:=by simp_all [wj,tr]
 have t:=Xu d;have J:l.length* (max 1 p.mn).toNat<=100000:=by
  have:=Nat.mul_le_mul_left (l.length* (max 1 p.mn).toNat) t;grind [Nat.mul_assoc]
 have u:l.length<=100000:=by
  have:=Nat.mul_le_mul_left l.length (show 1<=(max 1 p.mn).toNat by omega);omega
 simp[pS,oo,h1,j,E,qR];refine⟨λhe=>bF [] (by simp) ⟨by simp,λk hk z=>?_⟩,λK=>⟨λF=>bF l (by simp) ⟨?_,λk hk z=>?_⟩,λF=>?_⟩⟩;grind
 ·exact qD3 _ (by omega)
 ·rw[j]at hk;cases hk;constructor
  ·intro h;exact⟨z,h,0,qDe _,by grind, .inl rfl,by simp⟩
  grind
 ·refine ah (X:=Value×List Int) [1,5] [] p.mn.toNat (λk x=>x.2.length=l.length*k/\∀z,z∈x.2↔ ∃a∈l,∃i:Int,0<=i/\i<k/\z=a+i* (bG d).1) (λx=>[(7, .own 35 x.1)]) (λx=>[(35, .row x.1 bE 1 (x.2.map enc))]) (.slice none 0 0, []) (by grind) ?_ ?_ (hn:=by simp;omega) (hh:=by simp[isNilRow])
  ·rintro k ⟨v,m⟩ L ⟨hm,c⟩;simp only at hm c;unfold gG at s;have w:=Cw (show(0:Int)<=k by omega) (show(k:Int)<=16 by omega) s.1 s.2.1;have M:TS (l,(k:Int) * (bG d).1):=⟨u,w.1,by omega,C⟩
   simp[h2,M];clear h1 h2 h3 h4;have hb:m.length+l.length<=100000:=by
    have:=Nat.mul_le_mul_left l.length (show k+1<=(max 1 p.mn).toNat by omega);rw[Nat.mul_succ]at this;omega
   refine⟨by simp only[InR];omega,by omega,by omega,λv=>⟨v,m++l.map (· + (k:Int) * (bG d).1),⟨by rw[qCJ,qC6,Nat.mul_succ,hm],λz=>?_⟩,rfl, .inl ⟨rfl,by simp⟩⟩⟩;rw[qCk,c z,qCo];constructor
   ·rintro(⟨a,b,i,h0,h1,h2⟩|⟨a,b,h2⟩)
    ·exact⟨a,b,i,h0,by omega,h2⟩
    ·exact⟨a,b,k,by omega,by omega,h2.symm⟩
   ·rintro⟨a,b,i,h0,h1,h2⟩;by_cases e:i<k
    ·exact .inl ⟨a,b,i,h0,e,h2⟩
    ·have:i=k:=by omega
     subst this;exact .inr ⟨a,b,h2.symm⟩
  ·rintro⟨v,m⟩ ⟨hm,c⟩;simp only at hm c;have y:m.length<=100000:=by
    have:l.length*p.mn.toNat<=l.length* (max 1 p.mn).toNat:=Nat.mul_le_mul_left _ (by omega);omega
   simp[h3,h4,y];clear h1 h2 h3 h4;intro r N A;refine⟨by omega,λv'=>bF (vi r) (gp bE (by simp)) ⟨?_,λk hk z=>?_⟩⟩
   ·show(vi r).length<=l.length* (max 1 p.mn).toNat;have:=qhD r;have:l.length*p.mn.toNat<=l.length* (max 1 p.mn).toNat:=Nat.mul_le_mul_left _ (by omega);omega
   ·rw[j]at hk;cases hk;rw[qhC,A z,c z];refine exists_congr λa=>and_congr_right λ_=>exists_congr λi=>⟨λ⟨h0,h1,h2⟩=>⟨h0,by show i<p.mn;omega, .inr F,h2⟩,λ⟨h0,h1,_,h2⟩=>⟨h0,?_,h2⟩⟩
    have h1:i<p.mn:=h1;omega
def qkt(ks:List Pat):Nat:=(ks.flatMap am).length
def SB:qkt []=0:=rfl
def M6(k:Pat)(ks:List Pat):qkt (k::ks)=(am k).length+qkt ks:=by simp[qkt]
def Y9{p:Pat}(h:p.op≠1):(am p).length=qkt p.kids:=by rw[aQ,if_neg h];rfl
structure qlI where
 leaf:Int
 v:Value
 out:List Span
def fndB:Oh qlI:=⟨[47],λx=>[.v (.int .i64 x.leaf), .own 47 x.v],λx=>[(47, .row x.v bI 2 (x.out.map enc))],λ_=>rfl⟩
@[simp] theorem qu6(x:qlI):fndB.ce x=[.v (.int .i64 x.leaf), .own 47 x.v]:=i' rfl
@[simp] theorem qu5(x:qlI):fndB.hp x=[(47, .row x.v bI 2 (x.out.map enc))]:=i' rfl
def Hn(n:Nat)(x:qlI)(z:Pat×List Int):Prop:=PPat n z.1/\0<=x.leaf/\x.leaf+ff z.1<=100000000/\x.out.length+z.2.length*vQ z.1<=100000/\∀a∈z.2,0<=a/\a+200000*ff z.1<=1000000000000000
def CM(x:qlI)(z:Pat×List Int)(b:qlI)(_:Unit):Prop:=b.leaf=x.leaf+ (am z.1).length/\b.out.length<=x.out.length+z.2.length*vQ z.1/\∀s,s∈b.out↔s∈x.out\/ ∃a∈z.2,SrcE z.1 a x.leaf s
abbrev La(n:Nat):Spc:=qp8 fndB (a2 Pat (List Int)) Ti (Hn n) CM
def HQ{n:Nat}{p:Pat}{l:List Int}{leaf:Int}{v:Value}{out:List Span}{d b:Nat}{P L:D}{H:ab}{K:D->ab->Prop}(k:dec P=some p)(q:dec L=some l)
 (h0:H 0=some (.box b [.v (.int .i64 leaf), .own 47 v])) (j:H 47=some (.row v bI 2 (out.map enc))) (h:Hn n ⟨leaf,v,out⟩ (p,l))
 (r:∀a v' c,CM ⟨leaf,v,out⟩ (p,l) ⟨a,v',c⟩ ()->K (.tup []) (ai (ai H 47 (some (.row v' bI 2 (c.map enc)))) 0 (some (.box b [.v (.int .i64 a), .own 47 v'])))):(La n).pt d [.bptr 0 b 0,P,L] H K:=by
 refine⟨0,b,⟨leaf,v,out⟩,(p,l), [P,L],rfl,?_,h0,?_,by simp[fndB],h,λs y t=>?_⟩;simp_all;simp_all;simp_all
def qkU{b:Nat}{leaf:Int}{v:Value}{out:List Span}{q:qlI->Unit->Prop}{H:ab}(h0:H 0=some (.box b [.v (.int .i64 leaf), .own 47 v]))(a:H 47=some (.row v bI 2 (out.map enc)))(c:q ⟨leaf,v,out⟩ ()):Oe fndB Ti b q (.tup []) H:=
 ⟨⟨leaf,v,out⟩,(), .same _,h0,λp hp=>by simp_all,c⟩
theorem HK(n:Nat)(h1:S gy=Ld)(h2:S dU=lq)(h3:S gX=qf)(h4:S aI=La n):ZM bv br S fndB (a2 Pat (List Int)) Ti (Hn (n+1)) CM:=by
 rintro b ⟨leaf,v,out⟩ ⟨p,l⟩ ⟨hp,J,K,hlen,ha⟩;simp only at hp J K hlen ha;have hk:∀k∈p.kids,PPat n k:=λk=>hp.kid
 have hs:∀k∈p.kids,gG (bG k):=λk h=>vS (v:=aK) k (hk k h).2
 have hn:=(eJ hp.2).2.2;unfold nL at hn;rw[decide_eq_true_eq]at hn;have N:p.op≠1/\p.op≠4/\p.op≠6-> ↑p.kids.length<=(9223372036854775807:Int)->vc S bv (tJ br λr H'=>Oe fndB Ti b (CM ⟨leaf,v,out⟩ (p,l)) r H') (dt (.bptr 0 b 0::(a2 Pat (List Int)).view (p,l))) (ai (gD (fndB.hp ⟨leaf,v,out⟩) bV) 0 (some (.box b (fndB.ce ⟨leaf,v,out⟩)))):=by
  intro e w;simp[bv,br,e];intro _;rw[dv]at K;have hcnt:out.length<=100000:=by omega
  refine ah (X:=qlI) [0,17] [] p.kids.length (λk x=>0<=x.leaf/\x.leaf+bK (p.kids.drop k)<=100000000/\x.out.length<=out.length/\x.leaf+qkt (p.kids.drop k)=leaf+qkt p.kids/\∀s,s∈x.out↔s∈out) (λx=>[]) (λx=>[(0, .box b [.v (.int .i64 x.leaf), .own 47 x.v]),(47, .row x.v bI 2 (x.out.map enc))]) ⟨leaf,v,out⟩ ⟨J,by grind,qCj _,by simp,by simp⟩ ?_ ?_
  ·rintro k ⟨d,v',q⟩ w ⟨b0,b1,b2,C,F⟩;simp only at b0 b1 b2 C F;obtain⟨x,A⟩:=bh w;have L:=aY A;obtain⟨_,I⟩:=qCd.1 A;rw[cY A,bK]at b1;rw[cY A,M6]at C;have Q:=hk x L;simp[w,A,I];intro b1';rw[h4];refine HQ (p:=x) (l:=[]) (leaf:=d) (v:=v') (out:=q) ?_ ?_ ?_ ?_ ⟨Q,b0,by show d+ (ff x:Int)<=_;omega,by simp;omega,by simp⟩ ?_
   ·simp
   ·simp
   ·simp
   ·simp
   rintro c U j ⟨c1,c2,c3⟩;simp only at c1 c2 c3;have q4:=uM x;simp;refine⟨⟨c,U,j⟩,⟨by show 0<=c;omega,by show c+_<=_;omega,?_,by show c+_=_;omega,λs=>?_⟩, .inl ⟨rfl,rfl⟩, .inl ⟨rfl,rfl⟩⟩
   ·show j.length<=out.length;simp at c2;omega
   ·show s∈j↔s∈out;rw[c3 s,F s];simp
  ·rintro⟨d,v',q⟩ ⟨b0,b1,b2,C,F⟩;simp only at b0 b1 b2 C F;simp;refine qkU (leaf:=d) (v:=v') (out:=q) (by simp) (by simp) ⟨?_,?_,λs=>?_⟩
   ·rw[qC2]at C;rw[SB]at C;show d=leaf+ ((am p).length:Int);rw[Y9 e.1];omega
   ·show q.length<=out.length+_;omega
   ·rw[F s];exact⟨.inl,λh=>h.elim id λ⟨a,_,h⟩=>absurd h (qeP e _ _ _)⟩
 have w: ↑p.kids.length<=(9223372036854775807:Int):=by
  have:∀ks:List Pat,ks.length<=bK ks:=by
   intro ks
   induction ks with
   |nil=>simp
   | cons k ks ih=>
     rw[bK,qCZ];have:1<=ff k:=by rw[dv];omega
     omega
  have:=this p.kids;rw[dv]at K;omega
 rcases qF (eJ hp.2).1 with⟨ho,t⟩|⟨ho,t⟩|⟨ho,E,ks,t⟩|⟨ho,E,t⟩
 ·rw[wj,if_pos t,Nat.mul_one]at hlen;simp[bv,br,ho];intro _;refine ah (X:=Value×List Span) [0,29] [] l.length (λk x=>x.2=out++ (l.take k).map λa=>⟨leaf,a⟩) (λx=>[]) (λx=>[(0, .box b [.v (.int .i64 leaf), .own 47 x.1]),(47, .row x.1 bI 2 (x.2.map enc))]) (v,out) (by simp) ?_ ?_
  ·rintro k ⟨v,m⟩ w hm;simp only at hm;obtain⟨x,A⟩:=bh w;obtain⟨_,I⟩:=qCd.1 A;have hml:m.length=out.length+k:=by rw[hm];simp;omega
   simp[w,A,I];refine⟨by omega,by omega,λv=> .inl (.inl ?_)⟩;rw[qDg,hm];simp[A]
  ·rintro⟨v',m⟩ hm;simp only at hm;rw[qCx]at hm;simp;have:1<=ff p:=by rw[dv];omega
   refine⟨by simp only[InR];omega,qkU (leaf:=leaf+1) (v:=v') (out:=m) (by simp) (by simp) ⟨?_,?_,λs=>?_⟩⟩
   ·rw[aQ,if_pos ho];rfl
   ·show m.length<=out.length+l.length*vQ p;rw[hm,wj,if_pos t];simp
   ·show s∈m↔s∈out\/ ∃a∈l,SrcE p a leaf s;rw[hm,qCk,qCo];refine or_congr_right (exists_congr λa=>and_congr_right λ_=>?_);rw[qnj ho];exact eq_comm
 grind
 ·by_cases Y:p.op=4
  ·rw[dv]at K;have ha':∀a∈l,0<=a/\a+200000*bK p.kids<=1000000000000000:=λa h=>by have:=ha a h;rw[dv]at this;omega
   rw[wj,if_neg (by rw[t];simp),if_neg (by omega)]at hlen;simp[bv,br,Y];intro _;refine A4 (X:=qlI×List Int) [0,61] [] p.kids.length (λk x=>(0<=x.1.leaf/\x.1.leaf+bK (p.kids.drop k)<=100000000)/\x.1.out.length+x.2.length*tr (p.kids.drop k)<=out.length+l.length*tr p.kids/\(∀a∈x.2,0<=a/\a+200000*bK (p.kids.drop k)<=1000000000000000)/\x.1.leaf+qkt (p.kids.drop k)=leaf+qkt p.kids/\∀s,(s∈x.1.out\/ ∃a∈x.2,xy (p.kids.drop k) a x.1.leaf s) ↔ (s∈out\/ ∃a∈l,xy p.kids a leaf s))
    (λx=>[(2,enc x.2)]) (λx=>[(0, .box b [.v (.int .i64 x.1.leaf), .own 47 x.1.v]),(47, .row x.1.v bI 2 (x.1.out.map enc))]) (⟨leaf,v,out⟩,l) (by simp) (by simp) (by omega) (by simp) (by simp) ⟨⟨J,by simp;omega⟩,by simp,by simpa using ha',by simp,by simp⟩ (by simp) (by simp) ?_ ?_
   ·rintro k ⟨⟨d,v',q⟩,l'⟩ w ⟨⟨b0,b1⟩,b2,C,F,W⟩;simp only at b0 b1 b2 C F W;obtain⟨x,A⟩:=bh w;have L:=aY A;obtain⟨_,I⟩:=qCd.1 A;rw[cY A,bK]at b1 C;rw[cY A,tr,Nat.mul_add]at b2;rw[cY A,M6]at F;have Q:=hk x L;have O:=hs x L;simp[w,A,I];intro b1';rw[h4];refine HQ (p:=x) (l:=l') (leaf:=d) (v:=v') (out:=q) ?_ ?_ ?_ ?_ ⟨Q,b0,by show d+ (ff x:Int)<=_;omega,by show q.length+l'.length*vQ x<=_;omega,λa h=>by have:=C a h;show 0<=a/\a+200000* (ff x:Int)<=_;omega⟩ ?_
    ·simp
    ·simp
    ·simp
    ·simp
    rintro c U j ⟨c1,c2,c3⟩;simp only at c1 c2 c3;have q4:=uM x;simp[h1,h2,Q.2,qR];unfold gG at O;have hlx:l'.length<=100000:=by
     have:=Nat.mul_le_mul_left l'.length (Xu x);omega
    have hb:∀s,(s∈j\/ ∃a∈l',(bG x).1=(bG x).2/\xy (p.kids.drop (k+1)) (a+ (bG x).1) c s) ↔ (s∈out\/ ∃a∈l,xy p.kids a leaf s):=by
     intro s;rw[<-W s,c3 s,cY A,or_assoc,c1];refine or_congr_right ⟨?_,?_⟩
     ·rintro(⟨a,u,h⟩|⟨a,u,h⟩)
      ·exact⟨a,u,by rw[xy];exact .inl h⟩
      ·exact⟨a,u,by rw[xy];exact .inr h⟩
     ·rintro⟨a,u,h⟩;rw[xy]at h;rcases h with h|h
      ·exact .inl ⟨a,u,h⟩
      ·exact .inr ⟨a,u,h⟩
    refine⟨λhne=>⟨⟨by simp,O.1,by show(bG x).1<=_;omega,by simp⟩,⟨c,U,j⟩, [],⟨⟨by show 0<=c;omega,by show c+_<=_;omega⟩,?_,by simp,by show c+_=_;omega,λs=>?_⟩,rfl, .inl ⟨rfl,rfl⟩, .inl ⟨rfl,rfl⟩⟩,λhe=>⟨⟨hlx,O.1,by show(bG x).1<=_;omega,λa h=>by have:=C a h;omega⟩,⟨c,U,j⟩,l'.map (· + (bG x).1),⟨⟨by show 0<=c;omega,by show c+_<=_;omega⟩,?_,λa h=>?_,by show c+_=_;omega,λs=>?_⟩,rfl, .inl ⟨rfl,rfl⟩, .inl ⟨rfl,rfl⟩⟩⟩
    ·simp;show j.length<=_;omega
    ·rw[<-hb s];refine or_congr_right ⟨λ⟨a,h,_⟩=>by simp at h,λ⟨a,_,h,_⟩=>absurd h hne⟩
    ·rw[qC6];show j.length+_<=_;omega
    ·obtain⟨a0,h0,rfl⟩:=qCo.1 h;have:=C a0 h0;have h3:1<=ff x:=by rw[dv];omega
     show 0<=a0+ (bG x).1/\a0+ (bG x).1+_<=_;omega
    ·rw[<-hb s];refine or_congr_right ⟨?_,?_⟩
     ·rintro⟨a,h,h'⟩;obtain⟨a0,h0,rfl⟩:=qCo.1 h;exact⟨a0,h0,he,h'⟩
     ·rintro⟨a,h,_,h'⟩;exact⟨a+ (bG x).1,qCo.2 ⟨a,h,rfl⟩,h'⟩
   ·rintro⟨⟨d,v',q⟩,l'⟩ ⟨⟨b0,b1⟩,b2,C,F,W⟩;simp only at b0 b1 b2 C F W;rw[qC2]at b2 F W;rw[SB]at F;rw[tr,Nat.mul_zero]at b2;simp;refine qkU (leaf:=d) (v:=v') (out:=q) (by simp) (by simp) ⟨?_,?_,λs=>?_⟩
    ·show d=leaf+ ((am p).length:Int);rw[Y9 (by omega)];omega
    ·show q.length<=out.length+l.length*vQ p;rw[wj,if_neg (by rw[t];simp),if_neg (by omega)];omega
    ·show s∈q↔s∈out\/ ∃a∈l,SrcE p a leaf s;have:(∃a∈l,SrcE p a leaf s) ↔ ∃a∈l,xy p.kids a leaf s:=exists_congr λa=>and_congr_right λ_=>qni Y _ _ _
     rw[this,<-W s];exact⟨.inl,λh=>h.elim id λ⟨a,_,h⟩=>by rw[xy]at h;exact h.elim⟩
  ·exact N (by omega) w
 ·have Q:=hk E (by rw[t];simp);have O:=hs E (by rw[t];simp);have hn:=hn ho;have e6:(⟨6,p.cond,p.lab,p.reg,p.mn,p.mx,p.kids⟩:Pat)=p:=by rw[<-ho];exact qk0 p
  have M:vQ p=(max 1 p.mn).toNat*vQ E:=by rw[wj,t,if_neg (by simp),if_pos ho,tr,tr,qDC]
  have hpn:ff p=ff E+1:=by rw[dv,t,bK,bK]
  have ht:TR (p,l):=⟨ho,hp.2,by show l.length*vQ p<=_;omega,λa h=>by have:=ha a h;omega⟩
  simp[bv,br,ho,h3,e6,ht];refine⟨by rw[t];simp,λa Z=>?_⟩;rw[t]at Z;cases Z;rintro y ⟨c1,c2⟩;simp only at c1 c2;have c2:=c2 E t;rw[h4];refine HQ (p:=E) (l:=y) (leaf:=leaf) (v:=v) (out:=out) ?_ ?_ ?_ ?_ ⟨Q,J,by show leaf+ (ff E:Int)<=_;omega,?_,λz hz=>?_⟩ ?_
  ·simp
  ·simp
  ·simp
  ·simp
  ·show out.length+y.length*vQ E<=100000;rw[M,<-Nat.mul_assoc]at hlen;have:=qCE (vQ E) c1;omega
  ·obtain⟨a,u,i,h0,h1,h2,rfl⟩:=(c2 z).1 hz;have h1:i<p.mn:=h1;have:=ha a u;unfold gG at O;have hm:=Cw h0 (show i<=16 by omega) O.1 O.2.1;show 0<=a+i* (bG E).1/\a+i* (bG E).1+200000* (ff E:Int)<=_;omega
  ·rintro c U j ⟨d1,d2,d3⟩;simp only at d1 d2 d3;refine qkU (leaf:=c) (v:=U) (out:=j) (by simp) (by simp) ⟨?_,?_,λs=>?_⟩
   ·show c=leaf+ ((am p).length:Int);rw[Y9 (by omega),t,M6,SB];omega
   ·show j.length<=out.length+l.length*vQ p;rw[M,<-Nat.mul_assoc];have:=qCE (vQ E) c1;omega
   ·show s∈j↔s∈out\/ ∃a∈l,SrcE p a leaf s;rw[d3 s];refine or_congr_right ⟨?_,?_⟩
    ·rintro⟨z,hz,M⟩;obtain⟨a,u,i,h0,h1,h2,rfl⟩:=(c2 z).1 hz;exact⟨a,u,(qjH ho t _ _ _).2 ⟨i,h0,h1,h2,M⟩⟩
    ·rintro⟨a,u,h⟩;obtain⟨i,h0,h1,h2,h3⟩:=(qjH ho t _ _ _).1 h;exact⟨_,(c2 _).2 ⟨a,u,i,h0,h1,h2,rfl⟩,h3⟩
end
end Go.Gv
