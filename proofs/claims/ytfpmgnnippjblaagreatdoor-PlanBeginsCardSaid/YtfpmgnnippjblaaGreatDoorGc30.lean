/- W215 -/
import Derived.ProofKit
import Derived.OpenShut
import Derived.ShutString
import Derived.ChangeOld
import Derived.Test.YtfpmgnnippjblaaGreatDoorGc26
import Derived.Test.YtfpmgnnippjblaaGreatDoorGc29
set_option linter.all false
set_option maxRecDepth 100000
set_option maxHeartbeats 0
open Bool renaming forall_bool → fB', exists_bool → eB'
namespace Go.Gv
section
open Cod (enc dec)
variable {S S0:Nat->Spc}
abbrev qiO(n:Nat):Spc:=ax (a1 Cond) (λx=>bi x<=n) (enc (X:=Bool)) λx y=>y=oc x
theorem Uo(n:Nat)(h1:S pF=qiO n):aq sd rQ S (a1 Cond) (λx=>bi x<=n+1) (enc (X:=Bool)) λx y=>y=oc x:=by
 rintro x j;have j:bi x<=n+1:=j;have a:=Nx x;by_cases e:x.op=4
 ·simp[sd,rQ,h1,a,e,-fB',-eB']
 simp[sd,rQ,e,-fB',-eB'];intro l;refine ah (X:=Unit) [9] [] x.kids.length (λk _=>∀z∈x.kids.take k,oc z=false) (λ_=>[]) (λ_=>[]) () (by simp) ?_ ?_
 ·intro k _ hk c;obtain⟨z,b⟩:=aM hk;obtain⟨_,d⟩:=qF4.1 b;have hz:=qF7 b;have hp:bi z<=n:=by have:=DS hz;omega
  simp[hk,b,d,h1,hp,-fB',-eB'];refine⟨λh=>?_,λh=>?_⟩
  ·rw[a,qG5.2 ⟨z,hz,h⟩];simp
  ·rw[au b];intro u hu;rcases qGi.1 hu with hu|hu
   ·exact c u hu
   ·simp at hu;subst hu;exact h
 ·intro _ c;have:x.kids.any oc=false:=List.any_eq_false.2 λz hz=>by rw[c z (by simpa using hz)];decide
  simp[a,e,this,-fB',-eB']
abbrev qd8:Spc:=ax (a1 Cond) (λx=>∃n,bi x<=n) (enc (X:=Bool)) λx y=>y=oc x
def TA{H:ab}{i:Nat}{op:Int}{name arg val lab:B}{fold:Bool}{l:List Cond}{v:Value}(h:H i=some (.row v iE 7 (l.map enc))):FrzTo H (.agg [.v (.int .i64 op), .v (.string name), .v (.string arg), .v (.string val), .v (.string lab), .v (.bool fold), .own i v]) (enc (Cond.mk op name arg val lab fold l)):=by
 simp;refine .agg rfl λk c c' h1 h2=>?_
 match k,h1,h2 with
 | 0,h1,h2|1,h1,h2|2,h1,h2|3,h1,h2|4,h1,h2|5,h1,h2=>cases h1;cases h2;exact .same _
 | 6,h1,h2=>cases h1;cases h2;exact fq iE h
 |k+7,h1,_=>simp at h1
abbrev Y9(n:Nat):Spc:=ax (a1 Cond) (λx=>bi x<=n/\cR x<=60) (enc (X:=Cond)) λx y=>y=dx x
set_option maxHeartbeats 1000000 in
theorem XR(n:Nat)(h1:S pF=qd8)(h2:S sH=Y9 n):aq lQ lH S (a1 Cond) (λx=>bi x<=n+1/\cR x<=60) (enc (X:=Cond)) λx y=>y=dx x:=by
 rintro x ⟨hd,hn⟩;have hsm:∃n,bi x<=n:=⟨_,qGb _⟩
 have hany:∀H:ab,Fin (enc (X:=Cond)) (λy=>y=⟨1,fu,fu,fu,fu,false, []⟩) (D.agg [.v (.int .i64 1), .v (.string ⟨#[]⟩), .v (.string ⟨#[]⟩), .v (.string ⟨#[]⟩), .v (.string ⟨#[]⟩), .v (.bool false), .v (.slice none 0 0)]) H:=λH=>by
  refine aL ⟨1,fu,fu,fu,fu,false, []⟩ ?_ rfl;simp[fu];refine .agg rfl λk c c' h1 h2=>?_
  match k,h1,h2 with
  | 0,h1,h2|1,h1,h2|2,h1,h2|3,h1,h2|4,h1,h2|5,h1,h2=>cases h1;cases h2;exact .same _
  | 6,h1,h2=>cases h1;cases h2;exact .nil 7
  |k+7,h1,_=>simp at h1
 by_cases hc:x.op=4\/x.op=6/\oc x=true
 ·have hl:dx x=⟨1,fu,fu,fu,fu,false, []⟩:=by rw[Ea,if_pos hc]
  rcases hc with e|⟨e,e'⟩
  ·simp[lQ,lH,h1,hsm,e,hl,-fB',-eB'];exactλ_=>hany _
  ·obtain⟨op,name,arg,val,lab,fold,ks⟩:=x;simp only at e;subst e;simp[lQ,lH,h1,hsm,e',hl,-fB',-eB'];exactλ_=>hany _
 ·have hl:dx x=⟨x.op,x.name,x.arg,x.val,x.lab,x.fold,x.kids.map dx⟩:=by rw[Ea,if_neg hc]
  have e4:¬x.op=4:=λh=>hc (.inl h)
  obtain⟨op,name,arg,val,lab,fold,ks⟩:=x;simp only at hl e4;have hs:op=6->oc ⟨op,name,arg,val,lab,fold,ks⟩=false:=λh=>by
   cases hb:oc ⟨op,name,arg,val,lab,fold,ks⟩with
   |false=>rfl
   |true=>exact absurd (.inr ⟨h,hb⟩) hc
  have hkn:∀y∈ks,bi y<=n/\cR y<=60:=λy hy=>by
   have h1:=DS (p:=⟨op,name,arg,val,lab,fold,ks⟩) hy;have h2:=D7 hy;have h3:=rS ⟨op,name,arg,val,lab,fold,ks⟩;simp only at h3;exact⟨by omega,by omega⟩
  have hks:ks.length<=60:=by
   have h3:=rS ⟨op,name,arg,val,lab,fold,ks⟩;simp only at h3;have:=KW ks;omega
  by_cases e6:op=6
  ·subst e6;have hs':=hs rfl;simp[lQ,lH,h1,hsm,hs',hl,-fB',-eB'];intro b1 b2 hkl;refine ah (X:=Value×List Cond) [1,2,20] [1,2] ks.length (λk z=>z.2=(ks.take k).map dx/\z.2.length=k) (λz=>[(3, .own 30 z.1)]) (λz=>[(30, .row z.1 iE 7 (z.2.map enc))]) (.slice none 0 0, []) ⟨rfl,rfl⟩ ?_ ?_ (hh:=by simp[isNilRow])
   ·rintro k ⟨v,l⟩ hk ⟨hl1,hl2⟩;simp only at hl1 hl2;obtain⟨y,hy⟩:=aM hk;obtain⟨_,hgy⟩:=qF4.1 hy;obtain⟨q1,q2⟩:=hkn y (qF7 hy);have hk60:ks.length<=60:=hks;simp[h2,hk,hy,hgy,q1,q2,-fB',-eB'];refine⟨by omega,by omega,λv'=>⟨v',l++ [dx y],⟨?_,by simp;omega⟩,rfl, .inl ⟨rfl,by simp⟩⟩⟩;rw[hl1,<-List.map_take,au hy];simp
   ·rintro⟨v,l⟩ ⟨hl1,hl2⟩;simp only at hl1 hl2;rw[qGc]at hl1;simp[-fB',-eB'];exact aL _ (TA rfl) (by rw[hl1])
  ·simp[lQ,lH,h1,hsm,e4,e6,hl,-fB',-eB'];intro b1 b2 hkl;refine ah (X:=Value×List Cond) [1,2,20] [1,2] ks.length (λk z=>z.2=(ks.take k).map dx/\z.2.length=k) (λz=>[(3, .own 30 z.1)]) (λz=>[(30, .row z.1 iE 7 (z.2.map enc))]) (.slice none 0 0, []) ⟨rfl,rfl⟩ ?_ ?_ (hh:=by simp[isNilRow])
   ·rintro k ⟨v,l⟩ hk ⟨hl1,hl2⟩;simp only at hl1 hl2;obtain⟨y,hy⟩:=aM hk;obtain⟨_,hgy⟩:=qF4.1 hy;obtain⟨q1,q2⟩:=hkn y (qF7 hy);have hk60:ks.length<=60:=hks;simp[h2,hk,hy,hgy,q1,q2,-fB',-eB'];refine⟨by omega,by omega,λv'=>⟨v',l++ [dx y],⟨?_,by simp;omega⟩,rfl, .inl ⟨rfl,by simp⟩⟩⟩;rw[hl1,<-List.map_take,au hy];simp
   ·rintro⟨v,l⟩ ⟨hl1,hl2⟩;simp only at hl1 hl2;rw[qGc]at hl1;simp[-fB',-eB'];exact aL _ (TA rfl) (by rw[hl1])
abbrev SH:Spc:=ax (a1 Cond) (λx=>∃n,bi x<=n/\cR x<=60) (enc (X:=Cond)) λx y=>y=dx x
abbrev Zf:Spc:=ax (a1 Cond) (λx=>cR x<=60/\bi x<=20) (enc (X:=Cond)) λx y=>y=dx x
def XY(h1:S sK=s_rNodes)(h2:S sH=SH):aq Be Ak S (a1 Cond) (λx=>cR x<=60/\bi x<=20) (enc (X:=Cond)) λx y=>y=dx x:=by
 rintro x ⟨hn,a⟩;have hp:∃n,bi x<=n/\cR x<=60:=⟨20,a,hn⟩
 have c:¬60<(cR x:Int):=by omega
 simp[Be,Ak,h1,h2,hn,a,c,-fB',-eB'];exactλb=>⟨⟨20,a⟩,aL (dx x) (by simp) rfl⟩
def qdH(z:Corpus×Cond):Prop:=OkCorp z.1/\cR z.2<=60/\bi z.2<=20/\cR (dx z.2)<=60/\bi (dx z.2)<=20/\qpG z.1.attrs [] 21 (dx z.2)/\∀i:Nat,i<z.1.toks.length->∃y,qW ⟨z.1,(i:Int), [], []⟩ 21 (dx z.2)=some y
abbrev qiN:Spc:=ax (a2 Corpus Cond) qdH (iA (Y:=List Int) (Z:=Int)) λz y=>y=(uQ z.1 z.2,0)
theorem Up(h1:S sK=s_rNodes)(h2:S Dl=Zf)(h3:S pG=s_rVal)(h4:S wW=OJ 21):aq yn xy S (a2 Corpus Cond) qdH (iA (Y:=List Int) (Z:=Int)) λz y=>y=(uQ z.1 z.2,0):=by
 rintro⟨c,x⟩ ⟨hc,hn,t,j,p,h,d⟩;simp only at hc hn t j p h d;have hl:(c.toks.length:Int)<=9223372036854775807:=by have:=hc.2.2.1;omega
 have u:=hc.2.2.1;have A:c.attrs.length<=1000:=by rw[hc.1];decide
 have C:ql6 (dx x,c.attrs, []):=⟨j,p,21,h,A⟩
 have E:¬60<(cR x:Int):=by omega
 simp[yn,xy,h1,h2,h3,hn,t,C,E,hl,-fB',-eB'];intro b;refine ah (X:=Value×List Int) [2,3] [3] c.toks.length (λk z=>z.2=OG c x k) (λz=>[(9, .own 40 z.1)]) (λz=>[(40, .row z.1 bC 1 (z.2.map enc))]) (.slice none 0 0, []) (by simp[OG]) ?_ ?_ (hh:=by simp[isNilRow])
 ·rintro k ⟨v,l⟩ hk a;simp only at a;obtain⟨y,r⟩:=d k hk;have hp:qhu 21 (c,dx x,(k:Int), [], []):=⟨hc,h,by show(0:Int)<=(k:Int);omega,by show(k:Int)<c.toks.length;omega,rfl,qGr _,λb hb=>(by cases hb),y,r⟩
  have hs:=SD c x k;have s:=H4 c x k;rw[<-a]at hs s;have F:(if(qW ⟨c,(k:Int), [], []⟩ 21 (dx x)).getD false=true then[(k:Int)]else[])=if y=true then[(k:Int)]else[]:=by rw[r];rfl
  rw[F]at hs;simp[hk,h4,hp,-fB',-eB'];intro w q;have q:qW ⟨c,(k:Int), [], []⟩ 21 (dx x)=some w:=q;rw[r]at q;cases q;refine⟨λe=>⟨by omega,by omega,λv'=> .inl ?_⟩,λe=> .inl ?_⟩
  ·rw[hs,e];simp
  ·rw[hs,e];simp
 ·rintro⟨v,l⟩ a;simp only at a;simp[-fB',-eB'];have e:uQ c x=l:=a.symm;rw[e];exact fq bC rfl
open Go.Proofs
def V9:∀{n m:Nat} {x:Cond},GL n x->n<m->qpG att3 [] m x
 | _,m+1,_, .atom n c h,_=>Pz (.atom 0 _ h) (by omega)
 | _,m+1,_, .any n,_=>qcM (n:=0) .any (by omega)
 | _,m+1,_, .top n v f h,_=>qcM (n:=0) (.top v f h) (by omega)
 | _,m+1,_, .not n k h,hm=>⟨rfl,F1 6 rfl (by decide),λz hz=>by
    rcases qHk.1 hz with rfl;exact V9 h (by omega)⟩
 | _,m+1,_, .two n op a b ho h1 h2,hm=>⟨by rcases ho with rfl|rfl<;>rfl,by rcases ho with e|e;exact F1 7 e (by decide);exact F1 8 e (by decide),λz hz=>by
    have hz:z∈ [a,b]:=hz;simp only[qGm,qGz,or_false]at hz;rcases hz with rfl|rfl
    ·exact V9 h1 (by omega)
    ·exact V9 h2 (by omega)⟩
structure RBegOk (c:Corpus) (q:Qry):Prop where
 v:qsE c.attrs q
 ch:kF 0 c.texts c.toks.length
 few:c.toks.length<=100000
 fx:gX q.pat
 sel:∀x∈am q.pat,qdH (c,x.cond)
def RBegOk.lv{c:Corpus}{q:Qry}(h:RBegOk c q):(am q.pat).length<=100000000:=by
 have:=iS q.pat;have:=h.fx.1;omega
def qfk{a b:Span} :sQ a b< 0↔B6 a b:=by
 unfold sQ B6 Sc;grind
abbrev uR:Spc:=ax (a2 Qry (List Span)) (λx=>gX x.1.pat/\x.2.length<=100000) (enc (X:=Int)) By
theorem NU(h1:S wU=zZ)(h2:S AS=FV):aq tL td S (a2 Qry (List Span)) (λx=>gX x.1.pat/\x.2.length<=100000) (enc (X:=Int)) By:=by
 rintro⟨q,l⟩ ⟨hp,hl⟩;have hp:gX q.pat:=hp;have hl:l.length<=100000:=hl;simp[tL,td,h1,hp,-fB',-eB'];rintro F ⟨w,C⟩ E;refine ah (X:=Unit) [1,5,14] [] l.length (λk _=>∀j,j<k->We F l j) (λ_=>[]) (λ_=>[]) () (by simp) ?_ ?_
 ·intro k _ hk A;obtain⟨x,c⟩:=aM hk;obtain⟨_,t⟩:=qF4.1 c;have snoc:We F l k->∀j,j<k+1->We F l j:=λh j u=>by
   grind
  have bad:¬We F l k->By (q,l) 18:=λh=>⟨F,w, .inr ⟨rfl,λh2=>h (h2 k)⟩⟩
  simp[hk,c,t,-fB',-eB'];intro b I;refine ah (X:=Bool) [1,5,6,7,14,15,16,21] [7] F.length (λj kn=>kn=BM (F.take j) x) (λkn=>[(8,enc kn)]) (λ_=>[]) false (by simp[BM]) ?_ ?_
  ·rintro j kn u d;obtain⟨y,p⟩:=aM u;obtain⟨_,r⟩:=qF4.1 p;have e:BM (F.take (j+1)) x=(BM (F.take j) x||decide (y=x)):=by rw[au p];simp[BM]
   rw[e,<-d];obtain⟨J,K⟩:=y;obtain⟨L,M⟩:=x;cases kn<;>simp[u,p,r,-fB',-eB']
  ·rintro kn d;rw[qGc]at d;subst d;by_cases a:x∈F
   ·have e:=zz.2 a;rcases qHa k with rfl|hk0
    ·simp[e,h2,-fB',-eB'];exactλz hz=>by rw[c]at hz;cases hz;exact⟨a,λ_ h0=>by omega⟩
    ·obtain⟨y,p⟩:=aM (show k -1<l.length by omega);obtain⟨_,r⟩:=qF4.1 p;simp[e,h2,hk0,p,r,-fB',-eB'];exact⟨by simp only[InR];omega,by omega,by omega,λh=>bad λh2=>h (qfk.1 ((h2 x c).2 y hk0 p)),λh=>snoc λz hz=>by rw[c]at hz;cases hz;exact⟨a,λN _ s=>by rw[p]at s;cases s;exact qfk.2 h⟩⟩
   ·have e:BM F x=false:=by
     cases h:BM F x
     ·rfl
     ·exact absurd (zz.1 h) a
    have hb:=bad λh=>a (h x c).1
    simp[e,h2,hb,-fB',-eB']
 ·intro _ A;simp[-fB',-eB'];exact⟨F,w, .inl ⟨rfl,λk=>by
   by_cases h:k<l.length
   ·exact A k h
   ·intro x c;rw[qGu (by simpa using h)]at c;cases c⟩⟩
theorem PV{i d:Int}(j:0<=d):∀{l:List uz} {s e:Int},kF s l e->s<=i->i<e->∃t,l.find? (K1 i)=some t/\(i+d<t.e↔fL l (K1 i)=fL l (K1 (i+d)))
 | [],s,e,h,h1,h2=>by have h:s=e:=h;omega
 | a::l,s,e,⟨h1,h2,h3⟩,h4,h5=>by
   by_cases h:i<a.e
   ·have h6:K1 i a=true:=by simp[K1];omega
    refine⟨a,by simp[h6],?_⟩;rw[fL,if_pos h6,fL];by_cases b:i+d<a.e
    ·rw[if_pos (by simp[K1];omega)];simp[b]
    ·rw[if_neg (by simp[K1];omega)];have:=NI (K1 (i+d)) l;split<;>omega
   ·obtain⟨t,h6,b⟩:=PV j h3 (by omega) h5;have c:K1 i a=false:=by simp[K1];omega
    have k:K1 (i+d) a=false:=by simp[K1];omega
    refine⟨t,by simp[c,h6],?_⟩;rw[b,fL,fL,c,k];have:=NI (K1 i) l;have:=NI (K1 (i+d)) l;simp only[qGQ,if_false];split<;>split<;>omega
def qdc(l:List Int)(p e:Int):Bool:=l.any λy=>decide (y=p) && decide (y<e)
def qrJ(l:List Int)(p e:Int):qdc l p e=(decide (p∈l) && decide (p<e)):=by
 rw[qGD];simp only[qdc,qG5,qF9,decide_eq_true_eq];exact⟨λ⟨x,h1,h2,h3⟩=>h2 ▸ ⟨h1,h3⟩,λ⟨h1,h2⟩=>⟨p,h1,rfl,h2⟩⟩
abbrev H6:Spc:=ax (a3 Corpus Qry (List Span)) (λz=>RBegOk z.1 z.2.1/\z.2.2.length<=100000) (iA (Y:=List Int) (Z:=Int)) Mi
def qgf(c:Corpus)(q:Qry)(i e:Int)(x:Span):Bool:=qdc (uQ c (BL q x.b)) (i+x.e) e
theorem Ug(h1:S vE=Ze)(h2:S pD=uR)(h3:S pE=uo)(h4:S AV=qiN)(h5:S AT=H9):
 aq yh xq S (a3 Corpus Qry (List Span)) (λz=>RBegOk z.1 z.2.1/\z.2.2.length<=100000) (iA (Y:=List Int) (Z:=Int)) Mi:=by
 rintro⟨c,q,s⟩ ⟨l,hs⟩;have l:RBegOk c q:=l;have hs:s.length<=100000:=hs;have hV:=l.v;have O:=l.fx;have hfew:=l.few;have hll:=l.lv;have I:=l.v.v.pat;have htl:(c.toks.length:Int)<=9223372036854775807:=by omega
 have hsl:(s.length:Int)<=9223372036854775807:=by omega
 simp[yh,xq,h1,h2,hV,O,hs,htl,-fB',-eB'];rintro y ⟨F,N,p⟩;have N:SrcsOf q.pat F:=by
  have N:eV q.pat F:=N;simp_all [eV,l.v.v.pat,l.v.v.size]
 have r:∀x∈F,0<=x.b/\x.b<(am q.pat).length/\0<=x.e/\x.e<=200000*cK q.pat:=λx d=>by
  have:=UZ q.pat I 0 0 x ((N.2 x).1 d);omega
 refine⟨λhne=>?_,λhe=>?_⟩
 ·rcases p with⟨rfl,_⟩|⟨rfl,hno⟩
  omega
  ·exact⟨F,N, .inr ⟨rfl,hno⟩⟩
 have C:qdL F s:=by
  grind
 clear p he;simp[h3,hll,I,-fB',-eB'];intro hl9;have hnum:cK q.pat<=1000000:=O.1;refine ah (X:=Value×List (List Int)) [2,3,10,42] [] s.length (λk z=>z.2=(s.take k).map λx=>uQ c (BL q x.b)) (λz=>[(11, .own 62 z.1)]) (λz=>[(62, .row z.1 qh8 1 (z.2.map enc))]) (.slice none 0 0, []) (by simp) ?_ ?_ (hh:=by simp[isNilRow])
 ·rintro k ⟨v,z⟩ hk hz;have hz:z=(s.take k).map λx=>uQ c (BL q x.b):=hz
  obtain⟨x,d⟩:=aM hk;obtain⟨_,J⟩:=qF4.1 d;obtain⟨r1,r2,r3,r4⟩:=r x (C k x d).1;obtain⟨a,ha⟩:=aM (show x.b.toNat<(am q.pat).length by omega);obtain⟨_,hga⟩:=qF4.1 ha;have Q:=l.sel a (qF7 ha);have hlc:BL q x.b=a.cond:=by unfold BL;rw[ha];rfl
  have hzl:z.length=k:=by rw[hz,qGE,qGv];omega
  simp[hk,d,J,ha,hga,r1,r2,h4,Q,-fB',-eB'];refine⟨by omega,by omega,λv'=> .inl ?_⟩;rw[hz,<-List.map_take,au d];simp[hlc]
 rintro⟨v,z⟩ hz;have hz:z=(s.take s.length).map λx=>uQ c (BL q x.b):=hz
 rw[qGc]at hz;have hzl:z.length=s.length:=by rw[hz,qGE]
 simp[-fB',-eB'];intro _;refine ah (X:=Value×List Int) [2,3,11] [62] c.toks.length (λk y=>y.2=(uq k).filter λi=>s.all (O8 c q i)) (λy=>[(16, .own 117 y.1)]) (λy=>[(117, .row y.1 bC 1 (y.2.map enc))]) (.slice none 0 0, []) (by simp[uq]) ?_ ?_ (hh:=by simp[isNilRow])
 ·rintro k ⟨w,y⟩ hk p;have p:y=(uq k).filter λi=>s.all (O8 c q i):=p
  have hyl:y.length<=k:=by
   rw[p];refine qGA (List.length_filter_le _ _) ?_;simp[uq]
  have hs0:= @PV (k:Int) 0 (by omega) c.texts 0 c.toks.length l.ch (by omega) (by omega);obtain⟨t,ht,_⟩:=hs0;have htx:Ki c (k:Int)=(t,true):=by unfold Ki;rw[ht]
  have U:(s.all λx=>qgf c q k t.e x)=s.all (O8 c q k):=by
   rw[qGD,qGa,qGa];refine forall_congr' λx=>forall_congr' λd=>?_
   obtain⟨j,hj⟩:=qGp.1 d;obtain⟨r1,r2,r3,r4⟩:=r x (C j x hj).1;obtain⟨t',W,h8⟩:= @PV (k:Int) x.e r3 c.texts 0 c.toks.length l.ch (by omega) (by omega);rw[ht]at W;cases W;unfold qgf O8;rw[qrJ];simp[h8]
  clear ht;simp[hk,h5,htx,-fB',-eB'];intro b1 _;refine ah (X:=Bool) [2,3,11,16,17,18,66,67,76] [18,62,117] s.length (λj K=>K=(s.take j).all λx=>qgf c q k t.e x) (λK=>[(20,enc K)]) (λ_=>[]) true (by simp) ?_ ?_
  ·rintro j K hj u;obtain⟨x,d⟩:=aM hj;obtain⟨_,J⟩:=qF4.1 d;obtain⟨r1,r2,r3,r4⟩:=r x (C j x d).1;have hzj:z[j]? =some (uQ c (BL q x.b)):=by rw[hz,qGn,d];rfl
   obtain⟨_,hgz⟩:=qF4.1 hzj;have hjz:j<z.length:=by omega
   have E:((s.take (j+1)).all λx=>qgf c q k t.e x)=(K && qgf c q k t.e x):=by rw[au d,u];simp
   have hLl:(uQ c (BL q x.b)).length<=c.toks.length:=H4 _ _ _;rw[E];unfold qgf;clear E u hz;generalize uQ c (BL q x.b)=L at*;simp[hj,d,J,hjz,hzj,hgz,-fB',-eB'];intro b2 hL9;have i1:InR .i64 ((k:Int) +x.e):=by simp only[InR];omega
   refine ah (X:=Bool) [2,3,11,16,17,18,20,22,66,67,76,77,78,86] [18,22,62,117] L.length (λi fd=>fd=qdc (L.take i) (k+x.e) t.e) (λfd=>[(23,enc fd)]) (λ_=>[]) false (by simp[qdc]) ?_ ?_
   ·rintro i fd hi A;obtain⟨y0,M⟩:=aM hi;obtain⟨_,hgy⟩:=qF4.1 M;have e:qdc (L.take (i+1)) (k+x.e) t.e=(fd||(decide (y0=k+x.e) && decide (y0<t.e))):=by rw[au M,A];simp[qdc]
    rw[e];clear e A;cases fd<;>simp[hi,M,hgy,i1,-fB',-eB'];exact⟨λh _=>h,λh h'=>absurd h' h⟩
   ·rintro fd A;rw[qGc]at A;rw[<-A];cases K<;>simp[-fB',-eB']
  ·rintro K u;rw[qGc,U]at u;subst u;have E:((uq (k+1)).filter λi=>s.all (O8 c q i))=y++if s.all (O8 c q (k:Int))then[(k:Int)]else[]:=by
    rw[p];simp[uq,List.range_succ,qHw,qHV]
   rw[E];cases s.all (O8 c q (k:Int))<;>simp[-fB',-eB'];omega
 ·rintro⟨w,y⟩ p;have p:y=qo2 c q s:=p;simp[-fB',-eB'];exact⟨y,fq bC (by simp[aj]),F,N, .inl ⟨by rw[p],C⟩⟩
end
section

open Go.Proofs


open Cod (enc dec)
variable {S S0:Nat->Spc}
theorem ZD{n:Nat}{c:Corpus}{q:Qry}(hc:qbC c)(k:XC c)(h:GQ n q)(hn:n<=5):RBegOk c q:=by
 have j:=(G0 hc h hn).1;obtain⟨b,l⟩:=qeW h;refine⟨⟨j.v,λx a=>?_⟩,k.1,j.few,j.fx,λx a=>?_⟩
 all_goals
  have a:=h.cond x a;have p:=qc7 a
 ·rw[b,hc.ok.1];exact⟨by show cR x.cond<=60;omega,by show bi x.cond<=20;omega,21,qcM a (by omega),by show att3.length<=1000;decide⟩
 ·have d:=qpP a;have r:=Wf x.cond;exact⟨hc.ok,by show cR x.cond<=60;omega,by show bi x.cond<=20;omega,by show cR (dx x.cond)<=60;omega,by show bi (dx x.cond)<=20;omega,by
   show qpG c.attrs [] 21 (dx x.cond);rw[show c.attrs=att3 from hc.ok.1];exact V9 d (by omega),λi (hi:i<c.toks.length)=>qaj ⟨hc.ok,by show(0:Int)<=(i:Int);omega,by show(i:Int)<c.toks.length;omega,rfl⟩ rfl d (by omega)⟩
def qju{z:Corpus×Qry×List Span}{y c:List Int×Int}(h:Mi z y)(a:Mi z c):y=c:=by
 obtain⟨F,d,h⟩:=h;obtain⟨j,b,a⟩:=a;cases SrcsOf.eq d b;rcases h with⟨rfl,h1⟩|⟨rfl,h1⟩ <;>rcases a with⟨rfl,h2⟩|⟨rfl,h2⟩ <;>first|rfl|exact absurd h1 h2|exact absurd h2 h1
def qgg{c:Corpus}{q:Qry}{s:List Span}{y:List Int×Int}(h:Mi (c,q,s) y):y.1.length<=c.toks.length:=by
 obtain⟨F,a,h⟩:=h;rcases h with⟨rfl,h1⟩|⟨rfl,h1⟩
 ·refine qGA (List.length_filter_le _ _) ?_;rw[qji];exact qGb _
 ·exact qGr _
def qjr{p:Pat}{F b:List Span}(h:eV p F)(a:eV p b):F=b:=by
 unfold eV at h a;split at h
 ·rename_i e;rw[if_pos e]at a;exact SrcsOf.eq h a
 ·rename_i e;rw[if_neg e]at a;rw[h,a]
def qjq{x:Qry×List Span}{y c:Int}(h:By x y)(a:By x c):y=c:=by
 obtain⟨F,d,h⟩:=h;obtain⟨j,b,a⟩:=a;cases qjr d b;rcases h with⟨rfl,h1⟩|⟨rfl,h1⟩ <;>rcases a with⟨rfl,h2⟩|⟨rfl,h2⟩ <;>first|rfl|exact absurd h1 h2|exact absurd h2 h1
theorem UH(h1:S WJ=s_m_New)(h2:S tG=s_m_Corpus)(h3:S vM=OO)(h4:S rZ=U6 V12)(h5:S vO=Zs)(h6:S ye=SM)(I:S AQ=H6)(J:S nn=ta)(K:S pD=uR)(d:S AW=qcx):
 aq mG mh S (a3 (List Int) (List Int) (List Int)) (λ_=>True) (enc (X:=Bool)) λ_ y=>y=true:=by
 rintro⟨l,m,n⟩ -;simp[mG,mh,h1,h2,h3,-fB',-eB'];refineλc E hk hl L q b b1 b2=>?_
 have hc:=qro E hk hl;have j:xj V12 c q:=qbk hc b (by show 3<=5;decide);have M:=ZD hc E b (by show 3<=5;decide);have k:=(G0 hc b (by show 3<=5;decide)).2;have p:∀L,qmc (L,q):=λ_=>⟨j.fx,k⟩
 have r:=j.fx;clear h1 h2 h3 hk hl b;simp[h5,p,-fB',-eB'];intro s hs;have t:qfz V12 (c,q,s):=⟨j,by show s.length<=100000;omega⟩
 have u:RBegOk c q/\s.length<=100000:=⟨M,by omega⟩
 have w:s.length<=100000:=by omega
 simp[h4,I,t,u,-fB',-eB'];intro a e F a2 f x;have A:(a,e)=(a2,f):=qju F x;cases A;have C:a.length<=100000:=by have h:=qgg F;have:=hc.few;simp only at h;omega
 simp[h6,J,K,d,r,w,C,EW,-fB',-eB'];exactλy N z hz=>qjq N hz
end
section
open Go.Proofs Cod
variable {dq:Prop}
def qCc{p:Glob}(h:fM p<=0):False:=by rw[Ed]at h;omega
def Fe:∀n,TQ dq pF (qiO n)
 | 0=>nV λx h=>qlC h
 |n+1=>aY (ag (aa (Fe n) ae)) RJ (λ_=>qF8 rfl) (Uo n rfl)
def Xc:TQ dq pF qd8:=
 cw (λn=>Fe n) (dB (λx h=>h))
def Jr:∀n,TQ dq sH (Y9 n)
 | 0=>nV λx h=>qlC h.1
 |n+1=>aY (ag (aa Xc (aa (Jr n) ae))) VE (λ_=>qF8 rfl) (XR n rfl rfl)
def qa9:TQ dq sH SH:=
 cw (λn=>Jr n) (dB (λx h=>h))
def qbd:TQ dq Dl Zf:=
 ac (ag (aa DQ (aa qa9 ae))) VK (XY rfl rfl)
def Xd:TQ dq AV qiN:=
 ac (ag (aa DQ (aa qbd (aa DP (aa (Js 21) ae))))) RK (Up rfl rfl rfl rfl)
def BH:∀n,TQ dq jv (LU n)
 | 0=>nV λx h=>qCc h.1
 |n+1=>aY (ag (aa (BH n) ae)) KC (λ_=>qF8 rfl) (Mp n rfl)
def MK:TQ dq jv Ig:=
 cw (λn=>BH n) (dB (λx h=>h))
def BG:∀n,TQ dq ju (LT n)
 | 0=>nV λx h=>qCc h.1
 |n+1=>aY (ag (aa (BG n) ae)) KB (λ_=>qF8 rfl) (Mo n rfl)
def MJ:TQ dq ju If:=
 cw (λn=>BG n) (dB (λx h=>h))
def Rv:TQ dq ya SO:=
 ac (ag (aa MK (aa MJ ae))) Pg (Ra rfl rfl)
def qh5:TQ dq P6 s_rIn:=
 ac (ag ae) qgo (qhP)
def O5:∀n,TQ dq vD (qd7 n)
 | 0=>nV λx h=>qCc h.1
 |n+1=>aY (ag (aa qh5 (aa ue (aa Sx (aa sZ (aa (O5 n) ae)))))) ZP (λ_=>qF8 rfl) (qbL n rfl rfl rfl rfl rfl)
def qb4:TQ dq vD Za:=
 cw (λn=>O5 n) (dB (λx h=>⟨fM x.1,qGb _,h⟩))
def UM:TQ dq AU qd9:=
 ac (ag (aa zT ae)) RI (Un rfl)
def Od:TQ dq vE Ze:=
 ac (ag (aa HK (aa LG (aa sZ (aa ES (aa Oc (aa UM (aa HL (aa DP (aa Rv (aa qb4 ae))))))))))) MT (NV rfl rfl rfl rfl rfl rfl rfl rfl rfl rfl)
def Ct:TQ dq pD uR:=
 ac (ag (aa LF (aa Ob ae))) MS (NU rfl rfl)
def UK:TQ dq AQ H6:=
 ac (ag (aa Od (aa Ct (aa zT (aa Xd (aa UJ ae)))))) RC (Ug rfl rfl rfl rfl rfl)
def YS(a:¬dq):TQ dq vP quk:=
 ac (ag (aa qnf (aa MO (aa Oi (aa (EV a) (aa Oj (aa (qfX a) (aa UK (aa BC (aa Ct (aa Oe ae))))))))))) EB (UH rfl rfl rfl rfl rfl rfl rfl rfl rfl rfl)
end
section
open Go.ChangeShapes Go.WideShapes Go.ChangeAt Go.RowKit
section
variable {H:Type}{ec:TypeId×Value->H}{P:Program}{w:World}{base:Nat}{spare:Nat->Bool}{held:Bool}{tp I:Nat->Prop}
def OpR(tp I:Nat->Prop)(w:World)(cs:List Value)(d:D):Prop:=cs.length=d.cells.length/\∀(k:Nat) (y:Value) (c:D),cs[k]? =some y->d.cells[k]? =some c->y.oneCell'=true/\R tp I w y c
theorem OpR.one{y:Value}{d:D}(h:OpR tp I w [y] d)(a:d.cells=[d]):R tp I w y d:=(h.2 0 y d rfl (by rw[a];rfl)).2
def qcK{t:TypeId}{fuel:Nat}{cs:List Value}{x:DataW H×List MemPlace}(a:P.underlying t=some (.int .i64))(h:DataW.trod ec P w base spare held fuel t cs=some x):∃n:Int,OpR tp I w cs (Cod.enc n):=by
 obtain⟨n,rfl,_,_⟩:=DataW.trod_int a h;refine⟨n,rfl,λk y c h1 h2=>?_⟩;cases k with
 |zero=>cases h1;cases h2;exact⟨rfl, .v _ rfl (λs h=>by cases h)⟩
 |succ k=>simp at h1
theorem Pa{Y:Type}[Cod Y]{t e:TypeId}(ht:P.underlying t=some (.slice e))(hc:P.cellsOf e=Cod.wd Y)(h0:0<Cod.wd Y)
 (O:∀(n:Nat) (cs:List Value) (x:DataW H×List MemPlace),DataW.trod ec P w base spare held n e cs=some x->∃y:Y,OpR tp I w cs (Cod.enc y)) (hI:∀b,b<w.heap.size->I b)
 {fuel:Nat} {cs:List Value} {x:DataW H×List MemPlace} (h:DataW.trod ec P w base spare held fuel t cs=some x) (Q:Cod.wd Y=1:=by rfl):∃l:List Y,OpR tp I w cs (Cod.enc l):=by
 have one:∀(v:Value) (l:List Y),v.oneCell'=true->R tp I w v (.list (Cod.wd Y) (l.map Cod.enc))->OpR tp I w [v] (Cod.enc l):=λv l h1 h2=>⟨rfl,λk y c e1 e2=>by
  cases k with
  |zero=>cases e1;cases e2;exact⟨h1,h2⟩
  |succ k=>simp at e1⟩
 rcases DataW.trod_slice ht h with⟨rfl,_⟩|⟨a,len,cap,S,rest,n,_,rfl,_,_,hl,hm,hlen,C,_⟩
 ·exact⟨[],one _ [] rfl (.nolist none 0 _)⟩
 ·by_cases hz:len=0
  ·subst hz;exact⟨[],one _ [] rfl (.nolist (some a) cap _)⟩
  ·have each:∀i:_root_.Fin len,∃p:List Value×Y,w.cells? base (a.add (i*P.cellsOf e)) (P.cellsOf e)=some p.1/\OpR tp I w p.1 (Cod.enc p.2):=λi=>by
    have h1:=C i i.2;rw[qF6 (by omega)]at h1;obtain⟨cs',h2,h3⟩:=qF3.1 h1;obtain⟨y,hy⟩:=O n cs' _ h3;exact⟨(cs',y),h2,hy⟩
   obtain⟨g,hg⟩:=qHP each;obtain⟨b,off,spot⟩:=a;have cellAt:∀(i:_root_.Fin len) (j:Nat),j<Cod.wd Y->∃v,(g i).1[j]? =some v/\w.cell? ((Addr.add ⟨b,off,spot⟩ (i*Cod.wd Y)).add j)=some v:=λi j N=>by
    have h1:=World.cells?_some (hg i).1;have h2:=h1.2.2 j (by rw[hc];exact N);have h3:j<(g i).1.length:=by rw[h1.2.1,hc];exact N
    refine⟨(g i).1[j],qF6 h3,?_⟩;rw[hc]at h2;rw[h2,qF6 h3]
   have hs:spot=none:=by
    obtain⟨v,_,h2⟩:=cellAt ⟨0,by omega⟩ 0 h0;have:=World.cell?_spot h2;simpa [Addr.add]using this
   subst hs;have s:∀(o n:Nat),Addr.add ⟨b,o,none⟩ n=⟨b,o+n,none⟩:=λo n=>by
    unfold Addr.add;split
    ·rename_i e;subst e;rfl
    ·rfl
   have r:∀(i:_root_.Fin len) (j:Nat),j<Cod.wd Y->∃v,(g i).1[j]? =some v/\w.cell? ⟨b,off+ (i*Cod.wd Y+j),none⟩=some v:=λi j N=>by
    obtain⟨v,h1,h2⟩:=cellAt i j N;refine⟨v,h1,?_⟩;rw[s,s]at h2;rw[<-qId];exact h2
   have hb:b<w.heap.size:=by
    obtain⟨v,_,h2⟩:=r ⟨0,by omega⟩ 0 h0;unfold World.cell? at h2;by_cases E:b<w.heap.size
    ·exact E
    ·simp only[qHS (Nat.le_of_not_lt E)]at h2;cases h2
   let es:List Y:=List.ofFn λi=>(g i).2
   have u:es.length=len:=by simp[es]
   have F:∀i:_root_.Fin len,(es.map Cod.enc)[(i:Nat)]? =some (Cod.enc (g i).2):=λi=>by
    rw[qGn];have:es[(i:Nat)]? =some (g i).2:=by simp[es]
    rw[this];rfl
   have U:∀d∈es.map Cod.enc,d.kn=true/\d.cells.length=Cod.wd Y:=λd J=>by
    obtain⟨y,_,rfl⟩:=qGd.1 J;exact⟨Cod.kn y,Cod.wid y⟩
   have q:∀(k:Nat) (c:D),(bq (es.map Cod.enc))[k]? =some c->∃v,w.cell? ⟨b,off+k,none⟩=some v/\v.oneCell'=true/\R tp I w v c:=λk c hk=>by
    have K:=(qF4.1 hk).1;rw[ba (λd J=>(U d J).2),qGE,u]at K;have L:k=(k/Cod.wd Y) *Cod.wd Y+k % Cod.wd Y:=by have:=qHv k (Cod.wd Y);rw[qH9]at this;omega
    have A:k % Cod.wd Y<Cod.wd Y:=qHu _ h0;have W:k/Cod.wd Y<len:=qH0 (by rw[qH9];exact K);have Z:=ij (es:=es.map Cod.enc) (λd J=>(U d J).2) (i:=k/Cod.wd Y) A;rw[<-L,hk,F ⟨k/Cod.wd Y,W⟩]at Z;simp only[qGt]at Z;obtain⟨v,h1,h2⟩:=r ⟨k/Cod.wd Y,W⟩ (k % Cod.wd Y) A;simp only at h2;rw[<-L]at h2;exact⟨v,h2,(hg ⟨k/Cod.wd Y,W⟩).2.2 _ v c h1 Z.symm⟩
   have hR:R tp I w (.slice (some ⟨b,off,none⟩) len cap) (.list (Cod.wd Y) (es.map Cod.enc)):=by
    have M:(es.map (Cod.enc (X:=Y))).length=len:=by simp[u]
    rw[<-M];have rd:∀(k:Nat) (c:D),(bq (es.map Cod.enc))[k]? =some c->w.cell? ⟨b,off+k,none⟩=some ((w.cell? ⟨b,off+k,none⟩).getD Go.undef):=λk c hk=>by
     obtain⟨v,h1,_⟩:=q k c hk;rw[h1];rfl
    refine .list b off cap _ (es.map Cod.enc) (λk=>(w.cell? ⟨b,off+k,none⟩).getD Go.undef) (hI b hb) (by rw[M];exact hl) hm (λh=>absurd Q h) U rd (λk c hk=>?_) (λk c hk=>?_)
    ·obtain⟨v,h1,h2,_⟩:=q k c hk;rw[h1];exact h2
    ·obtain⟨v,h1,_,h2⟩:=q k c hk;rw[h1];exact h2
   exact⟨es,one _ es rfl hR⟩
end
variable {dq:Prop}
section
variable {H:Type}{ec:TypeId×Value->H}{P:Program}{w:World}{base:Nat}{spare:Nat->Bool}{held:Bool}{tp I:Nat->Prop}
end
abbrev quG(w:World):Nat->Prop:=be (λ_=>False) (λ_=>False) dm w
def qcP{w:World}{b:Nat}(h:b<w.heap.size):quG w b:=⟨h,λh=>h,λh=>h,λ⟨i,r,h,_⟩=>by simp[dm]at h⟩
end
section
open Go.ChangeShapes Go.WideShapes Go.ChangeAt Go.RowKit
section
variable {H:Type}{ec:TypeId×Value->H}{P:Program}{w:World}{base:Nat}{spare:Nat->Bool}{held:Bool}{tp I:Nat->Prop}
end
open Cod (enc dec)
instance:Cod UInt8 where
 wd:=1
 enc n:= .v (.int .u8 n.toNat)
 dec| .v (.int .u8 n)=>if 0<=n/\n<=255 then some (UInt8.ofNat n.toNat)else none|_=>none
 kn _:=rfl
 wid _:=rfl
 dec_enc n:=by
  have:=n.toNat_lt;simp only;rw[if_pos (by omega)];congr 1;rw[qHQ,UInt8.ofNat_toNat]
 le d x h:=by
  split at h
  ·split at h
   ·rename_i n hn;cases h;have e:((UInt8.ofNat n.toNat).toNat:Int)=n:=by
     rw[qHx];omega
    show FrzTo dm _ (.v (.int .u8 ((UInt8.ofNat n.toNat).toNat:Int)));rw[e];exact .same _
   ·cases h
  ·cases h
variable {dq:Prop}
section
variable {H:Type}{ec:TypeId×Value->H}{P:Program}{w:World}{base:Nat}{spare:Nat->Bool}{held:Bool}{tp I:Nat->Prop}
end
theorem qcV{P:Program}{f:Nat}{X:Type}{A:fN X}{p:X->Prop}{q:X->Bool->Prop}(h:Tri dq P f (ax A p (Cod.enc (X:=Bool)) q).pt)(l:∀x y,q x y->y=true){w:World}{vs:List Value}{ds:List D}{x:X}(hp:p x)(hlen:vs.length=ds.length)
 (t:∀(k:Nat) (y:Value) (c:D),vs[k]? =some y->ds[k]? =some c->R (λ_=>False) (quG w) w y c) (a:A.dec ds=some x) (u:GlW (λ_=>False) (λ_=>False) w):
 Calls P f vs.toArray w λe w'=>e= .returned (.bool true)/\Below w.heap.size w w':=by
 obtain⟨_,hc⟩:=h (λ_=>False) (λ_=>False) w vs ds dm 0 (λr H'=>r= .v (.bool true)) (λb h=>h.elim) ⟨λb h=>h.elim,u.mono (λ_ h=>h) (λb ⟨i,r,h,_⟩=>by simp[dm]at h)⟩
  ⟨λi j r s b h=>by simp[dm]at h,λi r b h=>by simp[dm]at h,λi r h=>by simp[dm]at h⟩ hlen t
  (by rw[lZ,a];exact⟨hp,λy C=>by rw[l x y C];rfl⟩)
 refine hc.mono ?_;rintro e w' ⟨v,r,H',E,rfl,F,_,_,_,hs,_,_,J⟩;subst F;have d:=J.inv_v;subst d;exact⟨rfl,hs.os,hs.tape,hs.output,hs.size,λk hk=>hs.same k hk (λ⟨i,r,h,_⟩=>by simp[dm]at h) (λh=>h)⟩
end
end Go.Gv
