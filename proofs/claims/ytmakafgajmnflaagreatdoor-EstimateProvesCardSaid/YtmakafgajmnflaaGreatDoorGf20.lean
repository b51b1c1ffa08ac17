/- T43 -/
import Derived.Test.YtmakafgajmnflaaGreatDoorGf19
set_option linter.all false
set_option maxRecDepth 100000
set_option maxHeartbeats 0
open Bool renaming forall_bool → fB', exists_bool → eB'
namespace Go.Gv
section
open Cod (enc dec)
open Go.Proofs Go.Shelf Go.RowKit
variable {dq:Prop}
section
variable {X:Type}
def qxA(A:dN X)(pre:X->List D->Prop)(post:X->List D->List D->Prop):PT:=λd ds H K=>∃id v l a x,ds= .own id v::a/\A.dec a=some x/\H id=some (.mrow v l)/\pre x l/\∀l',post x l l'->K (.tup []) (ai H id (some (.mrow v l')))
def qkm(A:dN X)(pre:X->List D->Prop)(post:X->List D->List D->Prop):nt (qxA A pre post):=λd ds H K b hk ⟨id,v,l,a,x,h1,h2,h3,h4,h5⟩=>⟨id,v,l,a,x,h1,h2,h3,h4,λl' hp=>hk _ _ (h5 l' hp)⟩
def qxC(A:dN X)(pre:X->List D->Prop)(post:X->List D->List D->Prop):Spc:= .gen _ (qkm A pre post)
def qrn(A:dN X)(pre:X->List D->Prop)(post:X->List D->List D->Prop)(id:Nat)(v:Value)(ds:List D)(r:Option Res)(H:ab)(K:D->ab->Prop):Prop:=match r with
 |some (.mrow v' l)=>v'=v/\eX (A.dec ds) λx=>pre x l/\∀l',post x l l'->K (.tup []) (ai H id (some (.mrow v l')))
 | _=>False
@[congr] theorem qxz{A:dN X}{pre:X->List D->Prop}{post:X->List D->List D->Prop}{id:Nat}{v:Value}{ds a:List D}{r r':Option Res}{H:ab}{K:D->ab->Prop}(h1:ds=a)(h2:r=r'):qrn A pre post id v ds r H K=qrn A pre post id v a r' H K:=by subst h1;subst h2;rfl
@[simp] theorem qrm(A:dN X)(pre:X->List D->Prop)(post:X->List D->List D->Prop)(id:Nat)(v v':Value)(ds l:List D)(H:ab)(K:D->ab->Prop):qrn A pre post id v ds (some (.mrow v' l)) H K=(v'=v/\eX (A.dec ds) λx=>pre x l/\∀l',post x l l'->K (.tup []) (ai H id (some (.mrow v l')))):=i' rfl
@[simp] theorem qxB(A:dN X)(pre:X->List D->Prop)(post:X->List D->List D->Prop)(d i:Nat)(v:Value)(ds:List D)(H:ab)(K:D->ab->Prop):(qxC A pre post).pt d (.own i v::ds) H K=qrn A pre post i v ds (H i) H K:=by
 refine propext ⟨λh=>?_,λh=>?_⟩
 ·obtain⟨id,v,l,b,x,h1,h2,h3,h4,h5⟩:=h;cases h1;rw[h3,qrm,h2];exact⟨rfl,h4,h5⟩
 ·unfold qrn at h;split at h
  ·rename_i v' l c;obtain⟨rfl,h⟩:=h;cases a:A.dec ds with
   |none=>rw[a]at h;exact h.elim
   |some x=>rw[a]at h;exact⟨i,v',l,ds,x,rfl,a,c,h.1,h.2⟩
  ·exact h.elim
def qta(v:Value)(q:List D->Prop)(r:D)(H':ab):Prop:=∃l,r= .tup []/\H' 0=some (.mrow v l)/\q l
def qij(cc:CC)(rs:List ak)(S:Nat->Spc)(A:dN X)(pre:X->List D->Prop)(post:X->List D->List D->Prop):Prop:=
 ∀v l x,pre x l->vc S cc (tJ rs λr H'=>qta v (post x l) r H') (dt (.own 0 v::A.view x)) (ai bV 0 (some (.mrow v l)))
variable {P:Program}{S:Nat->Spc}{f:Nat}{im:List Nat}{cc:CC}{rs:List ak}{N:Nat}{A:dN X}
theorem Yw{pre:X->List D->Prop}{post:X->List D->List D->Prop}(u:∀f,Tri dq P f (S f).pt)(h:xD P f im cc rs N)(w:∀x,(A.view x).length+1<=N)(y:qij cc rs S A pre post):Tri dq P f (qxC A pre post).pt:=by
 obtain⟨vX,enter,fn,code,h1,h2,h3,h4,h5⟩:=h;refine lp u vX h1 h2 enter h3 h4 h5 ?_;rintro ds H d K ⟨id,v,l,p,x,rfl,C,hid,hp,E⟩;have hl:=A.le p x C;refine⟨by simp only[qCZ];rw[hl.1];exact w x, .own 0 v::A.view x,ai bV 0 (some (.mrow v l)),λ_=>id, .cons (.own _ _ _) hl,λi r h=>?_,λi j r s h F _=>?_,_,y v l x hp,?_⟩
 ·by_cases e:i=0
  ·subst e;simp only[ai,if_true]at h;cases h;exact hid
  ·simp[ai,e]at h
 ·have a:i=0:=by
   by_cases e:i=0
   ·exact e
   ·simp[ai,e]at h
  have b:j=0:=by
   by_cases e:j=0
   ·exact e
   ·simp[ai,e]at F
  exact a.trans b.symm
 ·rintro r H' ⟨l',rfl,I,c⟩;refine⟨.tup [],bV,ai H id (some (.mrow v l')),λi=>if i=id then some 0 else none, .same _,λj q h=>by simp at h,E l' c,λi s hi=>?_,λi t k s q hi J L M=>?_⟩
  ·by_cases e:i=id
   ·subst e;simp only[ai,if_true]at hi;cases hi;simpa using I
   ·simp only[ai,e,if_false]at hi ⊢;exact⟨hi,λk q h he=>e he.symm⟩
  ·have a:i=id:=by
    by_cases e:i=id
    ·exact e
    ·simp[e]at L
   have b:t=id:=by
    by_cases e:t=id
    ·exact e
    ·simp[e]at M
   exact a.trans b.symm
end
def qy9:PT:=λd ds H K=>∃es,ds=[.mp es]/\(es=[]->K (.mp []) H)/\(es≠ []->∀v,K (.own d v) (ai H d (some (.mrow v es))))
def qli:nt qy9:=λd ds H K a hk ⟨es,h1,h2,h3⟩=>⟨es,h1,λh=>hk _ _ (h2 h),λh v=>hk _ _ (h3 h v)⟩
def clC:Spc:= .gen _ qli
@[simp] theorem qza(d:Nat)(es:List D)(H:ab)(K:D->ab->Prop):clC.pt d [.mp es] H K=((es=[]->K (.mp []) H)/\(es≠ []->∀v,K (.own d v) (ai H d (some (.mrow v es))))):=
 propext ⟨λ⟨es',h1,h2,h3⟩=>by cases h1;exact⟨h2,h3⟩,λ⟨h2,h3⟩=>⟨es,rfl,h2,h3⟩⟩
theorem qct{P:Program}{ρ:Ren}{fc:Nat}(L:SlLaysW.n5 P ρ)(y:ρ.f 5=fc)(C:dj P fc):Tri dq P fc clC.pt:=by
 subst y;intro O tp w vs ds H d K hO q p hlen j E;obtain⟨es,rfl,h0,h1⟩:=E
 match vs,hlen,j with
 | [F],_,j=>
 refine⟨C,?_⟩;have I:=j 0 F _ rfl rfl;have t:StW ⟨O,tp,w,bz H,0, [],dq⟩ tp H w:=⟨hO,λ_ h=>h,λ_ h=> .inl h,⟨q.1,q.2⟩, .refl _ _ _,λ_ h=> .inl h,p⟩
 have vM:∀{H':ab} {w':World} {x:Value} {r:D},StW ⟨O,tp,w,bz H,0, [],dq⟩ tp H' w'->K r H'->R tp (aN O tp H' w') w' x r->X2 dq O tp H w K (.returned x) w':=λ{H' w' x r} h hk u=>
  ⟨x,r,H',tp,rfl,hk,λ_ h=>h,λ_ h=> .inl h,h.tpl.1,h.step,h.loc,h.sat,u⟩
 cases I with
 | nomp=>
   refine(AnyW.maps_Clone_nil L w).mono ?_;rintro e w' ⟨rfl,rfl⟩;exact vM t (h0 rfl) .nomp
 | mp b a clock _ hI hh hl hb h=>
   refine(AnyW.maps_Clone L b a clock w hh).mono ?_;rintro e w' ⟨rfl,rfl⟩;have l:(w.alloc (.map a clock)).heap[w.heap.size]? =some (.map a clock):=(MapKept.heap_alloc w _).1;by_cases he:es=[]
   ·subst he;obtain⟨s,move⟩:=t.grow (GrB.alloc w (.map a clock) none);refine vM s (h0 rfl) (.mp _ a clock [] ⟨?_,λh=>?_,λh=>?_,λh=>?_⟩ l hl hb λk e c _ hc=>by simp at hc)
    ·exact(qCp.1 l).1
    ·exact absurd (hO _ h) (qEx _)
    ·exact absurd (q.1 _ h) (qEx _)
    ·obtain⟨i,r,h1,h2⟩:=h;exact absurd ((p.ok i r h1).lt h2) (qEx _)
   ·obtain⟨s,move⟩:=t.own d (some (.mrow (.map (some w.heap.size)) es)) (GrB.alloc w (.map a clock) none) (λb h=>by cases h)
     (λr b h1 h2=>by cases h1;cases h2;exact .inl (qCj _))
     (λmv r u=>by
       cases u;exact⟨_,a,clock,rfl,l,hb,hl,λk e c he hc=>mv _ _ (h k e c he hc)⟩)
    exact vM s (h1 he _) (.own _ _ rfl)
end
section
open Cod (enc dec)
def CR(tp I:Nat->Prop)(w:World)(f:Nat->Value)(cs:List D):Prop:=∀(k:Nat) (c:D),cs[k]? =some c->R tp I w (f k) c
def qiL{X:Type}[Cod X](x:X):Prop:=∀(tp I:Nat->Prop) (w:World) (f:Nat->Value) (y:X),CR tp I w f (enc x).cells->CR tp I w f (enc y).cells->x=y
def Lq{tp I:Nat->Prop}{w:World}{v:Value}{a b:Int}(h1:R tp I w v (enc a))(h2:R tp I w v (enc b)):a=b:=by
 have d:v= .int .i64 a:=R.inv_v h1;have c:v= .int .i64 b:=R.inv_v h2;rw[d]at c;cases c;rfl
def qhl{tp I:Nat->Prop}{w:World}{v:Value}{a b:Bool}(h1:R tp I w v (enc a))(h2:R tp I w v (enc b)):a=b:=by
 have d:v= .bool a:=R.inv_v h1;have c:v= .bool b:=R.inv_v h2;rw[d]at c;cases c;rfl
def CE{tp I:Nat->Prop}{w:World}{v:Value}{a b:B}(h1:R tp I w v (enc a))(h2:R tp I w v (enc b)):a=b:=by
 have d:v= .string a:=R.inv_v h1;have c:v= .string b:=R.inv_v h2;rw[d]at c;cases c;rfl
def R.inv_list{tp I:Nat->Prop}{w:World}{v:Value}{n:Nat}{es:List D}(h:R tp I w v (.list n es)):(es=[]/\∃a cap,v= .slice a 0 cap)\/
 (∃(b off cap:Nat) (f:Nat->Value),v= .slice (some ⟨b,off,none⟩) es.length cap/\(∀d∈es,d.cells.length=n)/\(∀(k:Nat) (c:D),(ba es)[k]? =some c->w.cell? ⟨b,off+k,none⟩=some (f k))/\∀(k:Nat) (c:D),(ba es)[k]? =some c->R tp I w (f k) c):=by
 generalize j:D.list n es=d at h;cases h<;>first|cases j;done|skip
 ·cases j;exact .inl ⟨rfl,_,_,rfl⟩
 ·rename_i b off cap l es' f hI hc hm hz hn hcell h1 h;cases j;exact .inr ⟨b,off,cap,f,rfl,λd j=>(hn d j).2,hcell,h⟩
theorem Xc{X:Type}[Cod X]{tp I:Nat->Prop}{w:World}{v:Value}{l l':List X}(S:0<Cod.wd X)(hl:∀x∈l,qiL x)(h1:R tp I w v (enc l))(h2:R tp I w v (enc l')):l=l':=by
 have h1:R tp I w v (.list (Cod.wd X) (l.map enc)):=h1;have h2:R tp I w v (.list (Cod.wd X) (l'.map enc)):=h2;have nil:∀{k:List X},k.map (enc (X:=X))=[]->k=[]:=λ{k} h=>by cases k with|nil=>rfl|cons a k=>simp at h
 rcases h1.inv_list with⟨F,a,cap,rfl⟩|⟨b,off,cap,f,rfl,hn,hcell,K⟩
 ·rcases h2.inv_list with⟨t,_⟩|⟨b',r,q,L,e,_⟩
  ·rw[nil F,nil t]
  ·injection e with _ e _;rw[nil F];have:l'.length=0:=by simpa using e.symm
   exact(qCT.1 this).symm
 ·rcases h2.inv_list with⟨t,a,q,e⟩|⟨b',r,q,L,e,u,p,y⟩
  ·injection e with _ e _;rw[nil t];have:l.length=0:=by simpa using e
   exact qCT.1 this
  ·injection e with A M _;injection A with A;injection A with N O _;subst N;subst O;have hlen:l.length=l'.length:=by simpa using M
   refine qEa hlen λi hi C=>?_
   refine hl l[i] (qDr _) tp I w (λj=>f (i*Cod.wd X+j)) l'[i] (λj c s=>?_) (λj c s=>?_)
   ·have d:j<Cod.wd X:=by rw[<-Cod.wid l[i]];exact(qCd.1 s).1
    refine K _ c ?_;rw[dJ hn d,qCu,qCe hi];exact s
   ·have d:j<Cod.wd X:=by rw[<-Cod.wid l'[i]];exact(qCd.1 s).1
    have J:(ba (l'.map (enc (X:=X))))[i*Cod.wd X+j]? =some c:=by
     rw[dJ u d,qCu,qCe C];exact s
    have E:j<(enc l[i]).cells.length:=by rw[Cod.wid];exact d
    have Q:(ba (l.map (enc (X:=X))))[i*Cod.wd X+j]? =some (enc l[i]).cells[j]:=by
     rw[dJ hn d,qCu,qCe hi];exact qCe E
    have c1:=hcell _ _ Q;have c2:=p _ _ J;rw[c1]at c2;have c3:=qCr c2;show R tp I w (f (i*Cod.wd X+j)) c;rw[c3];exact y _ c J
mutual
def Xd:∀c:Cond,qiL c
 | .mk op n a v l fo ks=>by
   have d:=QF ks;rintro tp I w f ⟨h,x,y,v',l',j,b⟩ h1 h2;rw[Nx]at h1 h2;have k:=Lq (h1 0 _ rfl) (h2 0 _ rfl);have p:=CE (h1 1 _ rfl) (h2 1 _ rfl);have q:=CE (h1 2 _ rfl) (h2 2 _ rfl);have r:=CE (h1 3 _ rfl) (h2 3 _ rfl);have s:=CE (h1 4 _ rfl) (h2 4 _ rfl);have t:=qhl (h1 5 _ rfl) (h2 5 _ rfl);have u:=Xc (l:=ks) (l':=b) (by decide) d (h1 6 _ rfl) (h2 6 _ rfl);rw[k,p,q,r,s,t,u]
def QF:∀ks:List Cond,∀c∈ks,qiL c
 | [],c,h=>by cases h
 | k::ks,c,h=>by
   have a:=Xd k;have b:=QF ks;rcases qCm.1 h with rfl|h
   ·exact a
   ·exact b c h
end
def qg9(op:Int)(c:Cond)(l r:B)(mn mx:Int)(ks:List Pat):(enc (Pat.mk op c l r mn mx ks)).cells=enc op::((enc c).cells++ [enc l,enc r,enc mn,enc mx,enc ks]):=by
 obtain⟨b,n,a,v,cl,fo,d⟩:=c;simp
def qbB{tp I:Nat->Prop}{w:World}{f:Nat->Value}{a b c:List D}(h:CR tp I w f (a++ (b++c))):CR tp I w (λk=>f (a.length+k)) b:=λk d hk=>by
 refine h (a.length+k) d ?_;rw[qCG (by omega),qD5,qCK (qCd.1 hk).1];exact hk
mutual
theorem qbs:∀p:Pat,qiL p
 | .mk op c l r mn mx ks=>by
   have y:=Xb ks;rintro tp I w f ⟨q,c',l',r',s,t,h⟩ h1 h2;rw[qg9]at h1 h2;have hc:c=c':=by
    refine Xd c tp I w (λk=>f (1+k)) c' ?_ ?_
    ·exact qbB (a:=[enc op]) h1
    ·exact qbB (a:=[enc q]) h2
   subst hc;have x:(enc c).cells.length=7:=Cod.wid c;have b:∀(j:Nat) (d:D), [enc l,enc r,enc mn,enc mx,enc ks][j]? =some d->R tp I w (f (8+j)) d:=λj d u=>by
    refine h1 (8+j) d ?_;rw[show 8+j=(7+j) +1 by omega,qD6,qCG (by omega),x,qD5];exact u
   have qlv:∀(j:Nat) (d:D), [enc l',enc r',enc s,enc t,enc h][j]? =some d->R tp I w (f (8+j)) d:=λj d u=>by
    refine h2 (8+j) d ?_;rw[show 8+j=(7+j) +1 by omega,qD6,qCG (by omega),x,qD5];exact u
   have A:=Lq (h1 0 _ rfl) (h2 0 _ rfl);have C:=CE (b 0 _ rfl) (qlv 0 _ rfl);have E:=CE (b 1 _ rfl) (qlv 1 _ rfl);have F:=Lq (b 2 _ rfl) (qlv 2 _ rfl);have J:=Lq (b 3 _ rfl) (qlv 3 _ rfl);have K:=Xc (l:=ks) (l':=h) (by decide) y (b 4 _ rfl) (qlv 4 _ rfl);rw[A,C,E,F,J,K]
theorem Xb:∀ks:List Pat,∀c∈ks,qiL c
 | [],c,h=>by cases h
 | k::ks,c,h=>by
   have a:=qbs k;have b:=Xb ks;rcases qCm.1 h with rfl|h
   ·exact a
   ·exact b c h
end
def tS(d:D)(p:Pat):Prop:=∃cs off,d= .cptr cs off/\off+13<=cs.length/\(cs.drop off).take 13=(enc p).cells
def zg{cs:List D}{off:Nat}{p:Pat}(h1:off+13<=cs.length)(h2:(cs.drop off).take 13=(enc p).cells){j:Nat}(a:j< 13):cs[off+j]? =(enc p).cells[j]?:=by
 rw[<-h2,qCv,if_pos a,qDb]
def R.inv_cptr{tp I:Nat->Prop}{w:World}{v:Value}{cs:List D}{off:Nat}(h:R tp I w v (.cptr cs off)):∃(b base:Nat) (f:Nat->Value),v= .pointer (some ⟨b,base+off,none⟩)/\
 (∀(k:Nat) (c:D),cs[k]? =some c->w.cell? ⟨b,base+k,none⟩=some (f k))/\∀(k:Nat) (c:D),cs[k]? =some c->R tp I w (f k) c:=by
 generalize a:D.cptr cs off=d at h;cases h<;>first|cases a;done|skip
 rename_i b base cs' j f hI hz hcell h1 h;cases a;exact⟨b,base,f,rfl,hcell,h⟩
theorem qcL{d y:D}{p h:Pat}(h1:tS d p)(h2:tS y h){tp I:Nat->Prop}{w:World}{v:Value}(C:R tp I w v d)(E:R tp I w v y):p=h:=by
 obtain⟨cs,off,rfl,hl,hc⟩:=h1;obtain⟨cs',j,rfl,l,q⟩:=h2;obtain⟨b,base,f,rfl,F,J⟩:=C.inv_cptr;obtain⟨b',r,N,e,s,t⟩:=E.inv_cptr;injection e with e;injection e with e;injection e with K L _;subst K;have wp:(enc p).cells.length=13:=Cod.wid p;have u:(enc h).cells.length=13:=Cod.wid h;refine qbs p tp I w (λk=>f (off+k)) h (λk c hk=>?_) (λk c hk=>?_)
 ·have a:k< 13:=by rw[<-wp];exact(qCd.1 hk).1
  exact J _ c (by rw[zg hl hc a];exact hk)
 ·have a:k< 13:=by rw[<-u];exact(qCd.1 hk).1
  have A:cs'[j+k]? =some c:=by rw[zg l q a];exact hk
  have x:off+k<cs.length:=by omega
  have M:cs[off+k]? =some cs[off+k]:=qCe x;have c1:=F _ _ M;have c2:=s _ _ A;rw[<-qEm]at c1 c2;rw[L,c2]at c1;have c3:=qCr c1;show R tp I w (f (off+k)) c;rw[<-c3];exact t _ c A
variable {dq:Prop}
section
variable {X Z:Type}
def qzC(A:dN X)(pre:D×X->Prop)(er:Z->D)(post:D×X->Z->Prop):PT:=λd ds H K=>∃id b cells a x,ds= .bptr id b 0::a/\A.dec a=some x/\H id=some (.box b cells)/\pre (.cptr cells 0,x)/\∀z,post (.cptr cells 0,x) z->K (er z) H
def qls(A:dN X)(pre:D×X->Prop)(er:Z->D)(post:D×X->Z->Prop):nt (qzC A pre er post):=λd ds H K c hk ⟨id,b,cells,a,x,h1,h2,h3,h4,h5⟩=>⟨id,b,cells,a,x,h1,h2,h3,h4,λz hz=>hk _ _ (h5 z hz)⟩
def qmq(A:dN X)(pre:D×X->Prop)(er:Z->D)(post:D×X->Z->Prop):Spc:= .gen _ (qls A pre er post)
def qmp(A:dN X)(pre:D×X->Prop)(er:Z->D)(post:D×X->Z->Prop)(b:Nat)(ds:List D)(r:Option Res)(H:ab)(K:D->ab->Prop):Prop:=match r with
 |some (.box b' cells)=>b'=b/\eX (A.dec ds) λx=>pre (.cptr cells 0,x)/\∀z,post (.cptr cells 0,x) z->K (er z) H
 | _=>False
@[congr] theorem qzB{A:dN X}{pre:D×X->Prop}{er:Z->D}{post:D×X->Z->Prop}{b:Nat}{ds a:List D}{r r':Option Res}{H:ab}{K:D->ab->Prop}(h1:ds=a)(h2:r=r'):qmp A pre er post b ds r H K=qmp A pre er post b a r' H K:=by subst h1;subst h2;rfl
@[simp] theorem qhZ(A:dN X)(pre:D×X->Prop)(er:Z->D)(post:D×X->Z->Prop)(b b':Nat)(ds:List D)(cells:List D)(H:ab)(K:D->ab->Prop):qmp A pre er post b ds (some (.box b' cells)) H K=(b'=b/\eX (A.dec ds) λx=>pre (.cptr cells 0,x)/\∀z,post (.cptr cells 0,x) z->K (er z) H):=i' rfl
@[simp] theorem qh0(A:dN X)(pre:D×X->Prop)(er:Z->D)(post:D×X->Z->Prop)(d i b:Nat)(ds:List D)(H:ab)(K:D->ab->Prop):(qmq A pre er post).pt d (.bptr i b 0::ds) H K=qmp A pre er post b ds (H i) H K:=by
 refine propext ⟨λh=>?_,λh=>?_⟩
 ·obtain⟨id,b',cells,c,x,h1,h2,h3,h4,h5⟩:=h;cases h1;rw[h3,qhZ,h2];exact⟨rfl,h4,h5⟩
 ·unfold qmp at h;split at h
  ·rename_i b' cells j;obtain⟨rfl,h⟩:=h;cases a:A.dec ds with
   |none=>rw[a]at h;exact h.elim
   |some x=>rw[a]at h;exact⟨i,b',cells,ds,x,rfl,a,j,h.1,h.2⟩
  ·exact h.elim
theorem Jw{P:Program}{f:Nat}{A:dN X}{pre:D×X->Prop}{er:Z->D}{post:D×X->Z->Prop}(hf:Tri dq P f (aJ (aD A) pre er post).pt)(t:∀z,X4 (er z)):Tri dq P f (qmq A pre er post).pt:=by
 intro O tp w vs ds H d K hO N a hlen l hA;obtain⟨id,p,cells,F,x,rfl,hd,hid,hp,hK⟩:=hA;cases vs with
 |nil=>simp at hlen
 | cons v0 vs=>
   have Q:v0= .pointer (some ⟨p,0,none⟩):=by
    have:=l 0 v0 (.bptr id p 0) rfl rfl;cases this;rfl
   subst Q
   let I:Nat->Prop:=λb=>O b\/ ∃i r,i≠id/\H i=some r/\r.blk=some b
   have J:∀b,aN O tp H w b->aN I tp bV w b:=λb hb=>⟨hb.1,λh=>h.elim hb.2.1 λ⟨i,r,_,h1,h2⟩=>hb.2.2.2 ⟨i,r,h1,h2⟩,hb.2.2.1,λ⟨i,r,h1,_⟩=>by simp at h1⟩
   have L:∀y e,R tp (aN O tp H w) w y e->R tp (aN I tp bV w) w y e:=λy e S=>S.mono (λ_ h=>h) (λb hb=>⟨J b hb,rfl⟩) (λb _=> .refl _ _)
   have hl:R tp (aN I tp bV w) w (.pointer (some ⟨p,0,none⟩)) (.cptr cells 0):=by
    have u:(Res.box p cells).blk=some p:=rfl;have h1:=a.out id _ p hid u;have hI:aN I tp bV w p:=⟨(a.ok id _ hid).lt u,λh=>h.elim h1.1 λ⟨i,r,U,h2,h3⟩=>U (a.dis _ _ _ _ p h2 hid h3 u),h1.2,λ⟨i,r,h2,_⟩=>by simp at h2⟩
    obtain⟨xs,el,g1,g2,g3⟩:=(a.ok id _ hid).conv L (λ_ _=>rfl);obtain⟨f,k1,k2,k3⟩:=rj g1 g2 g3;have:=R.cptr (tp:=tp) p 0 cells 0 f hI (λ_=>⟨_,_,g1⟩) k1 k2 k3;simpa using this
   have M:(aD A).dec (.cptr cells 0::F)=some (.cptr cells 0,x):=by simp[hd]
   obtain⟨W,hc⟩:=hf I tp w (.pointer (some ⟨p,0,none⟩)::vs) (.cptr cells 0::F) bV d (λr H'=>∃z,r=er z/\post (.cptr cells 0,x) z/\H'=bV)
    (λb hb=>hb.elim (hO b) λ⟨i,r,_,h1,h2⟩=>(a.ok i r h1).lt h2) (N.mono λb ⟨i,r,h,_⟩=>by simp at h) ⟨λi j r s b h=>by simp at h,λi r b h=>by simp at h,λi r h=>by simp at h⟩ (by simpa using hlen)
    (λk y e h1 h2=>by
      cases k with
      |zero=>simp at h1 h2;subst h1;subst h2;exact hl
      |succ k=>simp at h1 h2;exact L _ _ (l (k+1) y e (by simpa using h1) (by simpa using h2)))
    (by rw[su,M];exact⟨hp,λz hz=>⟨z,rfl,hz,rfl⟩⟩)
   refine⟨W,hc.mono ?_⟩;rintro e w' ⟨q,r,H',C,rfl,⟨z,rfl,hz,rfl⟩,t1,Y,t3,hs,ho,hsat',hR⟩;have c:∀b,b<w.heap.size->¬tp b->w'.heap[b]? =w.heap[b]?:=λb hb ht=>hs.same b hb (λ⟨i,r,h,_⟩=>by simp at h) ht
   have E:∀y e,R tp (aN O tp H w) w y e->R C (aN O C H w') w' y e:=λy e S=>S.mono t1 (λb hb=>⟨⟨qCt hb.1 hs.size,hb.2.1,λh=>by
    rcases Y b h with h|h
    ·exact hb.2.2.1 h
    ·have:=hb.1;omega,hb.2.2.2⟩,c b hb.1 hb.2.2.1⟩) hs.tapes
   refine⟨q,er z,H,C,rfl,hK z hz,t1,Y,t3,⟨hs.os,hs.tape,hs.output,hs.size,λb hb _ ht=>c b hb ht,hs.tapes,hs.drawn⟩,λb h=> .inl h,⟨a.dis,λi r b h1 h2=>?_,λi r h1=>?_⟩,t z _ _ _ _ _ _ _ hR⟩
   ·have:=a.out i r b h1 h2;refine⟨this.1,λh=>?_⟩;rcases Y b h with h|h
    ·exact this.2 h
    ·have:=(a.ok i r h1).lt h2;omega
   ·exact(a.ok i r h1).conv E λb hb=>c b ((a.ok i r h1).lt hb) (a.out i r b h1 hb).2
end
open Go.Proofs
def mL(r:Rn)(k:D):List D:=[.list 2 (r.c.attrs.map enc), .list 1 (r.c.toks.map enc), .list 4 (r.c.texts.map enc), .list 4 (r.c.regs.map enc), .list 4 (r.c.nodes.map enc), .list 1 (r.c.heads.map enc), .list 1 (r.c.rels.map enc), .list 1 (r.lb.map enc), .v (.int .i64 r.bg), .v (.int .i64 r.en),k]
theorem Ms{r r':Rn}{k a:D}(h:mL r k=mL r' a):r=r'/\k=a:=by
 simp only[mL,qCL,D.list.injEq,D.v.injEq,qEu,true_and,and_true]at h;obtain⟨h1,h2,h3,h4,h5,h6,d,j,l,b,c⟩:=h;obtain⟨⟨a1,a2,a3,a4,p,q,s⟩,lb,bg,en⟩:=r;simp_all
def F2{r r':Rn}{k a:D}(h:D.cptr (mL r k) 0= .cptr (mL r' a) 0):r=r':=by
 grind [Ms]
@[simp] theorem qtT(r:Rn)(k:D):(mL r k).length=11:=i' rfl
@[simp] theorem qAm(r:Rn)(k:D)(h:3<(mL r k).length):(mL r k)[3]= .list 4 (r.c.regs.map enc):=i' rfl
@[simp] theorem qAl(r:Rn)(k:D)(h:8<(mL r k).length):(mL r k)[8]= .v (.int .i64 r.bg):=i' rfl
@[simp] theorem qAk(r:Rn)(k:D)(h:9<(mL r k).length):(mL r k)[9]= .v (.int .i64 r.en):=i' rfl
@[simp] theorem qw7(r:Rn)(k:D)(h:10<(mL r k).length):(mL r k)[10]=k:=i' rfl
structure qBs where
 r:Rn
 v:Value
 es:List D
def rnB:Oh qBs:=⟨[990],λx=>mL x.r (.own 990 x.v),λx=>[(990, .mrow x.v x.es)],λ_=>rfl⟩
section
variable {Y Z:Type}
def qq2(A:dN Z)(er:Y->D)(pre:Rn->List D->Z->Prop)(post:Rn->Z->List D->Y->Prop):Spc:=qp8 rnB A er (λx z=>pre x.r x.es z) (λx z a y=>a.r=x.r/\post x.r z a.es y)
def F7(H:ab)(id b:Nat)(r:Rn)(v:Value)(es:List D):ab:=ai (ai H 990 (some (.mrow v es))) id (some (.box b (mL r (.own 990 v))))
def qtR(er:Y->D)(pre:Rn->List D->Z->Prop)(post:Rn->Z->List D->Y->Prop)(id b:Nat)(q a:Option Res)(o:Option Z)(H:ab)(K:D->ab->Prop):Prop:=
 ∃r v es,q=some (.box b (mL r (.own 990 v)))/\a=some (.mrow v es)/\id≠990/\eX o λz=>pre r es z/\∀v' es' y,post r z es' y->K (er y) (F7 H id b r v' es')
@[congr] theorem qw8{er:Y->D}{pre:Rn->List D->Z->Prop}{post:Rn->Z->List D->Y->Prop}{id b:Nat}{q c d a:Option Res}{o h:Option Z}{H:ab}{K:D->ab->Prop}(h1:q=c)(h2:d=a)(h3:o=h):qtR er pre post id b q d o H K=qtR er pre post id b c a h H K:=by grind
theorem ql2(x:qBs)(H:ab)(id b:Nat):ai (gD (rnB.hp x) H) id (some (.box b (rnB.ce x)))=F7 H id b x.r x.v x.es:=rfl
theorem D4(A:dN Z)(er:Y->D)(pre:Rn->List D->Z->Prop)(post:Rn->Z->List D->Y->Prop)(d i b:Nat)(ds:List D)(H:ab)(K:D->ab->Prop):(qq2 A er pre post).pt d (.bptr i b 0::ds) H K=qtR er pre post i b (H i) (H 990) (A.dec ds) H K:=by
 refine propext ⟨λh=>?_,λh=>?_⟩
 ·obtain⟨id,b',x,z,c,h1,h2,h3,h4,h5,h6,j⟩:=h;cases h1;simp only[rnB,qCm,qCN,or_false]at h5;refine⟨x.r,x.v,x.es,h3,h4 (990, .mrow x.v x.es) (by simp[rnB]),h5,?_⟩;rw[h2];refine⟨h6,λv' es' y a=>?_⟩;have:=j ⟨x.r,v',es'⟩ y ⟨rfl,a⟩;grind [ql2]
 ·obtain⟨r,v,es,h1,h2,h3,h4⟩:=h;cases hz:A.dec ds with
  |none=>simp_all
  | some z=>
    rw[hz]at h4;refine⟨i,b,⟨r,v,es⟩,z,ds,rfl,hz,h1,λp hp=>?_,by grind [eX,rnB],h4.1,λk y a=>?_⟩;simp_all [rnB];simp_all [ql2]
@[simp] theorem qAn(er:Y->D)(pre:Rn->List D->Z->Prop)(post:Rn->Z->List D->Y->Prop)(id b b':Nat)(r:Rn)(v v':Value)(es:List D)(o:Option Z)(H:ab)(K:D->ab->Prop):
 qtR er pre post id b (some (.box b' (mL r (.own 990 v)))) (some (.mrow v' es)) o H K=(b'=b/\v'=v/\id≠990/\eX o λz=>pre r es z/\∀v' es' y,post r z es' y->K (er y) (F7 H id b r v' es')):=by
 refine propext ⟨λ⟨h,v1,c,h1,h2,h3,h4⟩=>?_,λ⟨h1,h2,h3,h4⟩=>⟨r,v,es,by rw[h1],by rw[h2],h3,h4⟩⟩;injection h1 with h1;injection h1 with h1 h5;injection h2 with h2;injection h2 with h2 h6;obtain⟨d,a⟩:=Ms h5;injection a with _ a;subst d;subst a;subst h6;exact⟨h1,h2,h3,h4⟩
def qmG(er:Y->D)(b:Nat)(r:Rn)(post:List D->Y->Prop)(d:D)(H:ab):Prop:=Oe rnB er b (λs y=>s.r=r/\post s.es y) d H
def QA{er:Y->D}{b:Nat}{r:Rn}{post:List D->Y->Prop}{d:D}{H:ab}(v:Value)(es:List D)(y:Y)(c:FrzTo (λi=>if i=0\/i=990 then none else H i) d (er y))(h0:H 0=some (.box b (mL r (.own 990 v))))(h1:H 990=some (.mrow v es))(a:post es y):qmG er b r post d H:=
 ⟨⟨r,v,es⟩,y,by grind [rnB],h0,λp hp=>by
  simp_all [rnB],rfl,a⟩
def TJ(cc:CC)(rs:List ak)(S:Nat->Spc)(A:dN Z)(er:Y->D)(pre:Rn->List D->Z->Prop)(post:Rn->Z->List D->Y->Prop):Prop:=
 ∀b r v es z,pre r es z->vc S cc (tJ rs λd H'=>qmG er b r (post r z) d H') (dt (.bptr 0 b 0::A.view z)) (F7 bV 0 b r v es)
variable {P:Program}{S:Nat->Spc}{f:Nat}{im:List Nat}{cc:CC}{rs:List ak}{N:Nat}
def DW{A:dN Z}{er:Y->D}{pre:Rn->List D->Z->Prop}{post:Rn->Z->List D->Y->Prop}(a:∀f,Tri dq P f (S f).pt)(h:xD P f im cc rs N)(c:∀z,(A.view z).length+1<=N)(d:TJ cc rs S A er pre post):Tri dq P f (qq2 A er pre post).pt:=
 yI (by simp[rnB]) a h c λb x z hp=>d b x.r x.v x.es z hp
end
section
variable {X Y Z:Type}
def qxc(H:ab)(r:Nat):vL H (some r) r=H r:=by simp only[vL];simp
theorem XM(H:ab)(w:Option Nat):jH H w []=H:=by
 grind [jH]
theorem qkD(A:dN X)(pre:D×X->Prop)(er:Z->D)(post:D×X->Z->Prop)(r b:Nat)(ds:List D):qiJ r (qmq A pre er post).pt (.bptr r b 0::ds):=by
 refine⟨λR=>qmp A pre er post b ds (R r) R λ_ _=>True,λR d u=>∃cells x z,R r=some (.box b cells)/\A.dec ds=some x/\post (.cptr cells 0,x) z/\d=er z/\u=[],λt H K=>?_⟩;rw[qh0];show _↔qmp A pre er post b ds (vL H (some r) r) (vL H (some r)) (λ_ _=>True)/\∀d u,(∃cells x z,vL H (some r) r=some (.box b cells)/\A.dec ds=some x/\post (.cptr cells 0,x) z/\d=er z/\u=[])->K d (jH H (some r) u);rw[qxc];cases a:H r with
 |none=>exact⟨λh=>h.elim,λh=>h.1.elim⟩
 | some q=>
   cases q with
   | box b' cells=>
     rw[qhZ,qhZ];cases c:A.dec ds with
     |none=>simp
     | some x=>
       constructor
       ·rintro⟨rfl,h1,h2⟩;refine⟨⟨rfl,h1,λ_ _=>trivial⟩,?_⟩;grind [XM]
       ·rintro⟨⟨rfl,h1,_⟩,h2⟩;refine⟨rfl,h1,λz hz=>?_⟩;have:=h2 (er z) [] ⟨cells,x,z,rfl,rfl,hz,rfl,rfl⟩;grind [XM]
   | _=>exact⟨λh=>h.elim,λh=>h.1.elim⟩
def VJ(A:dN X)(pre:D×X->Prop)(er:Z->D)(post:D×X->Z->Prop)(r b:Nat)(dst:Option Nat)(ds:List D)(H:ab)(K:D->ab->Prop):MA r dst (qmq A pre er post) (.bptr r b 0::ds) H K=qmp A pre er post b ds (H r) H K:=by
 rw[<-qh0 A pre er post (dst.getD 0)];exact propext ⟨λh=>h.2,λh=>⟨qkD A pre er post r b ds,h⟩⟩
end
end
section
open Cod (enc dec)
@[simp] theorem qvk(s:St3):St3.mk s.p s.b0 s.b1 s.b2=s:=by cases s;rfl
def Ym{X:Type}[Cod X][DecidableEq X]{ka:Bool}{ks:List KK}(d:ZW X ka ks)(x:X)(h:JY (enc x) (enc x))(l:List X)(K:List D->Prop):A6 ka ks (enc x) (.v (.bool true)) (bB l) K=K (bB (yn x l)):=by
 refine propext ⟨λ⟨_,_,h1,h2⟩=>?_,qaa d rfl⟩;by_cases c:x∈l
 ·obtain⟨a,b,rfl⟩:=qEk c;have e:yn x (a++x::b)=a++x::b:=by unfold yn;rw[if_pos c]
  have:=h1 (bB a) (enc x) (.v (.bool true)) (bB b) (by simp[bB]) h;rw[e];have j:bB (a++x::b)=bB a++ .tup [enc x, .v (.bool true)]::bB b:=by simp[bB]
  rw[j];exact this
 ·have:=h2 λ_ v hm=>c (BG.1 hm).1
  have e:yn x l=l++ [x]:=by unfold yn;rw[if_neg c]
  rw[e,iT];exact this
def Wd(s:St3):JY (enc s) (enc s):=by
 refine⟨λ_=>False,λ_=>False,default, .agg [Value.int .i64 s.p, .int .i64 s.b0, .int .i64 s.b1, .int .i64 s.b2].toArray,?_,?_⟩ <;>
 ·refine R.agg _ _ rfl (by simp[Value.oneCell']) λk x c h1 h2=>?_
  rcases k with _|_|_|_|k
  ·cases h1;cases h2;exact R.int .i64 _
  ·cases h1;cases h2;exact R.int .i64 _
  ·cases h1;cases h2;exact R.int .i64 _
  ·cases h1;cases h2;exact R.int .i64 _
  ·simp at h1
@[simp] theorem qmZ(a b c d:Int)(l:List St3)(K:List D->Prop):A6 true [.int .i64, .int .i64, .int .i64, .int .i64] (.agg [.v (.int .i64 a), .v (.int .i64 b), .v (.int .i64 c), .v (.int .i64 d)]) (.v (.bool true)) (bB l) K=K (bB (yn ⟨a,b,c,d⟩ l)):=
 Ym qa7 ⟨a,b,c,d⟩ (Wd _) l K
@[simp] theorem qux(ok:Bool)(a b c d:Int)(l:List St3)(K:D->Prop):wQ ok false true [.int .i64, .int .i64, .int .i64, .int .i64] [.bool false] (.agg [.v (.int .i64 a), .v (.int .i64 b), .v (.int .i64 c), .v (.int .i64 d)]) (bB l) K=K (qiS ok (.v (.bool (decide ((⟨a,b,c,d⟩:St3) ∈l)))) (decide ((⟨a,b,c,d⟩:St3) ∈l))):=
 JM qa7 ⟨a,b,c,d⟩ (Wd _) l K
@[simp] theorem qtu(a b c d:Int)(K:List D->Prop):A6 true [.int .i64, .int .i64, .int .i64, .int .i64] (.agg [.v (.int .i64 a), .v (.int .i64 b), .v (.int .i64 c), .v (.int .i64 d)]) (.v (.bool true)) [] K=K (bB [(⟨a,b,c,d⟩:St3)]):=
 qmZ a b c d [] K
def ul{X:Type}[Cod X]:bB ([]:List X)=[]:=rfl
def fV{X:Type}[Cod X]{l:List X}(h:bB l=[]):l=[]:=by
 cases l with
 |nil=>rfl
 |cons a l=>simp[bB]at h
def Ma{X:Type}[Cod X]{l l':List X}(h:bB l=bB l'):l=l':=by
 unfold bB at h
 induction l generalizing l' with
 | nil=>cases l' with
   |nil=>rfl
   |cons a l=>simp at h
 | cons a l c=>cases l' with
   |nil=>simp at h
   | cons b l'=>
     simp only[qCW,qCL,D.tup.injEq,and_true]at h;rw[bi h.1,c h.2]
def yp{Hf:ab}{i:Nat}{x:Value}{es:List D}(h:Hf i=some (.mrow x es)):FrzTo Hf (.own i x) (.mp es):= .mrow h rfl λk c c' h1 h2=>by rw[h1]at h2;cases h2;exact .same _
@[simp] theorem qz4(d:Option Nat)(g:Option (Nat×Bool))(o:MOp)(xs:List Operand):(CI.op d g (.m o xs)).wid=d:=i' rfl
open Go.Proofs
def di:CC:=gq Tryz.f61 [3] {} _
def de:List ak:=[.tmp 4]
def nB:FO dB [3] di de 28:=fo
def dZ:CC:=gq Tryz.f119 [4,2049005] {} _
def dS:List ak:=[.cell 6 true 4, .tmp 7]
def Ef:FO jT [4,2049005] dZ dS 55:=fo
def lZ:CC:=gq Tryz.f120 [5,4,3] {} _
def lL:List ak:=[.tmp 6]
def CY:FO iI [5,4,3] lZ lL 14:=fo
def bb:CC:=gq Tryz.f183 [4] {} _
def aZ:List ak:=[.tmp 5]
def AO:FO cj [4] bb aZ 42:=fo
def xr:CC:=gq Tryz.f184 [] {} _
def wI:List ak:=[.tmp 2]
def Pc:FO zO [] xr wI 22:=fo
def pW:CC:=gq Tryz.f182 [6,5] {} _
def ov:List ak:=[.tmp 10]
def Gt:FO qO [6,5] pW ov 17:=fo
variable {S S0:Nat->Spc}
def qpi(d:D):Prop:=∃r k,d= .cptr (mL r k) 0/\r.lb.length<=3
def qs0(s:St3):Prop:=0<=s.p/\s.p<=1000000/\∀i,0<=s.get i/\s.get i<=1000000
def QW(x:D×St3):Prop:=qpi x.1/\qs0 x.2
def XW(x:D×St3)(y:List Int):Prop:=∀r k,x.1= .cptr (mL r k) 0->y=TF r x.2
abbrev qfd:Spc:=aJ (aD (a1 St3)) QW (enc (X:=List Int)) XW
def WG(s:St3){k:Nat}(hk:k< 3):([.v (.int .i64 s.p), .v (.int .i64 s.b0), .v (.int .i64 s.b1), .v (.int .i64 s.b2)]:List D)[1+k]? =some (.v (.int .i64 (s.get k))):=by
 rcases k with _|_|_|k
 ·rfl
 ·rfl
 ·rfl
 ·omega
theorem qmP:aq di de S (aD (a1 St3)) QW (enc (X:=List Int)) XW:=by
 rintro⟨d,s⟩ ⟨⟨r,k,c,hl⟩,hs⟩;have c:d= .cptr (mL r k) 0:=c;subst c;simp[di,de,mL,-fB',-eB'];intro l;refine⟨by omega,by omega,λv p=>?_⟩;refine ah (X:=List Int) [3,5] [] r.lb.length (λk z=>z.length=r.lb.length/\∀i,i<k->z[i]? =some (s.get i -1)) (λ_=>[]) (λz=>[(12, .row v bE 1 (z.map enc))]) (List.replicate r.lb.length 0) (by simp) ?_ ?_
 ·rintro j z q ⟨b,a⟩;have t:=WG s (k:=j) (by omega);have hb:0<=s.get j/\s.get j<=1000000:=hs.2.2 j;have h:j<z.length:=by omega
  simp[q,t,h,-fB',-eB'];refine⟨by omega,by omega,by simp only[InR];omega,z.set j (s.get j -1),⟨by simp[b],λi hi=>?_⟩, .inl (by rw[qEg];rfl)⟩;by_cases e:j=i
  ·subst e;rw[qDd (by omega)]
  ·rw[qEe e];exact a i (by omega)
 ·rintro z ⟨b,a⟩;simp[-fB',-eB'];refine bF z (gp bE (by simp[ai])) λr' u e=>?_
  have e:D.cptr (mL r k) 0= .cptr (mL r' u) 0:=e;obtain rfl:=F2 e;refine qCP λi=>?_
  unfold TF;rw[qCu];by_cases hi:i<r.lb.length
  ·rw[a i hi,qDD hi];rfl
  ·rw[qCz (by omega),qCz (by simp;omega)];rfl
def Dq(p:Pat):Bool:=decide (p.op=6) && decide (p.mx< 0) && decide (p.mn<=1)
abbrev qao:Spc:=aJ (aD a0) (λx=>∃p,tS x.1 p) (enc (X:=Bool)) λx y=>∀p,tS x.1 p->y=Dq p
def qbV(x:D×Pat×St3):Prop:=(∃r k,x.1= .cptr (mL r k) 0/\r.lb.length<=3/\qm6 r.c/\(x.2.1.lab≠ll->tq r.lb x.2.1.lab=true)/\(x.2.2.p<r.en->∃y,HT r x.2.1 x.2.2=some y))/\qs0 x.2.2
def XV(x:D×Pat×St3)(y:St3×Bool):Prop:=∀r k,x.1= .cptr (mL r k) 0->(y.2=true↔x.2.2.p<r.en/\HT r x.2.1 x.2.2=some true)/\(y.2=true->y.1=Iu r x.2.1 x.2.2)
abbrev qaq:Spc:=aJ aH (qiX 21) (enc (X:=Bool)) (qpb 21)
def qjc(h1:S eP=F1 21):aq pW ov S aH (qiX 21) (enc (X:=Bool)) (qpb 21):=by
 rintro⟨c,x,tok,lb,bd⟩ hp;simp[pW,ov,h1,hp,-fB',-eB']
def ve(p:Pat):enc p= .agg (enc p).cells:=by simp
theorem tK{d:D}{p q:Pat}(h1:tS d p)(h2:tS d q):p=q:=by
 obtain⟨cs,off,rfl,_,b⟩:=h1;obtain⟨cs',a,e,_,c⟩:=h2;cases e;exact bi (by rw[ve p,ve q,<-b,<-c])
theorem qi5:aq xr wI S (aD a0) (λx=>∃p,tS x.1 p) (enc (X:=Bool)) λx y=>∀p,tS x.1 p->y=Dq p:=by
 rintro⟨d,⟨⟩⟩ ⟨p,cs,off,h,hl,hc⟩;have h:d= .cptr cs off:=h;subst h;have s:cs[off]? =some (.v (.int .i64 p.op)):=by
  have:=zg hl hc (j:=0) (by decide);rw[qDC]at this;rw[this];simp
 have k:cs[off+10]? =some (.v (.int .i64 p.mn)):=by rw[zg hl hc (j:=10) (by decide)];simp
 have l:cs[off+11]? =some (.v (.int .i64 p.mx)):=by rw[zg hl hc (j:=11) (by decide)];simp
 have r:off+1<=cs.length:=by omega
 have a:off+10+1<=cs.length:=by omega
 have b:off+11+1<=cs.length:=by omega
 simp[xr,wI,s,k,l,r,a,b,-fB',-eB'];have hp:tS (.cptr cs off) p:=⟨cs,off,rfl,hl,hc⟩
 refine⟨λh6=>⟨λhm q c=>?_,λhm q c=>?_⟩,λh6 q c=>?_⟩
 ·obtain rfl:=tK hp c;simp[Dq,h6,hm]
 ·obtain rfl:=tK hp c;simp[Dq,h6];omega
 ·obtain rfl:=tK hp c;simp[Dq,h6]
abbrev qnn:Spc:=aJ (aD (a2 Pat St3)) qbV (qR (Y:=St3) (Z:=Bool)) XV
def qkJ{r:Rn}{b:B}(hl:r.lb.length<=3)(h:tq r.lb b=true):(ij r.lb λz=>decide (z=b))=0\/(ij r.lb λz=>decide (z=b))=1\/(ij r.lb λz=>decide (z=b))=2:=by
 have h1:=vY (λz=>decide (z=b)) r.lb;have h2:=BJ (λz=>decide (z=b)) r.lb;have h3:decide (0<=ij r.lb λz=>decide (z=b))=true:=h1.trans h;have h4:=of_decide_eq_true h3;omega
theorem qmN(h1:S dB=qfd)(h2:S qO=qaq)(h3:S cO=Mi):aq dZ dS S (aD (a2 Pat St3)) qbV (qR (Y:=St3) (Z:=Bool)) XV:=by
 rintro⟨d,p,s⟩ ⟨⟨r,k,I,hl,hz,F,t⟩,hs⟩;have I:d= .cptr (mL r k) 0:=I;subst I;have hs:qs0 s:=hs;have u:QW (.cptr (mL r k) 0,s):=⟨⟨r,k,rfl,hl⟩,hs⟩
 have K:=hs.1;have L:=hs.2.1;have j:∀y:St3,(¬s.p<r.en\/HT r p s=some false)->XV (.cptr (mL r k) 0,p,s) (y,false):=λy h r' J e=>by
  have e:D.cptr (mL r k) 0= .cptr (mL r' J) 0:=e;obtain rfl:=F2 e;refine⟨⟨λh=>(by cases h),λh2=>?_⟩,λh=>(by cases h)⟩;rcases h with h|h
  ·exact absurd h2.1 h
  ·have h3:HT r p s=some true:=h2.2;rw[h]at h3;cases h3
 have c:s.p<r.en->HT r p s=some true->XV (.cptr (mL r k) 0,p,s) (Iu r p s,true):=λh4 h5 r' J e=>by
  have e:D.cptr (mL r k) 0= .cptr (mL r' J) 0:=e;obtain rfl:=F2 e;exact⟨⟨λ_=>⟨h4,h5⟩,λ_=>rfl⟩,λ_=>rfl⟩
 simp only[mL]at u j c;have w:∀(y:List Int),XW (.cptr (mL r k) 0,s) y->y=TF r s:=λy h=>h r k rfl
 simp only[mL]at w;by_cases A:p.lab=ll
 ·have x:p.lab=⟨#[]⟩:=A;have l:Iu r p s=⟨s.p+1,s.b0,s.b1,s.b2⟩:=by unfold Iu;rw[if_pos A]
  rw[l]at c;simp[dZ,dS,mL,h1,h2,h3,u,x,-fB',-eB'];refineλb=>⟨λh4 y C=>?_,λh4=>⟨⟨0,0,0,0⟩, .same _,j _ (.inl (by omega))⟩⟩
  obtain rfl:=w y C;obtain⟨z,q⟩:=t h4;refine⟨⟨hz,z,q⟩,λE a=>?_⟩;have a:HT r p s=some E:=a;refine⟨λe=>⟨⟨0,0,0,0⟩, .same _,j _ (.inr (e ▸a))⟩,λe=>?_⟩;exact⟨by simp only[InR];omega,⟨s.p+1,s.b0,s.b1,s.b2⟩, .same _,c h4 (e ▸a)⟩
 ·have x:¬p.lab=⟨#[]⟩:=A;rcases qkJ hl (F A)with hq|hq|hq
  ·have l:Iu r p s=⟨s.p+1,s.p+1,s.b1,s.b2⟩:=by unfold Iu;rw[if_neg A,hq];rfl
   rw[l]at c;simp[dZ,dS,mL,h1,h2,h3,u,x,hq,-fB',-eB'];refineλb=>⟨λh4 y C=>?_,λh4=>⟨⟨0,0,0,0⟩, .same _,j _ (.inl (by omega))⟩⟩
   obtain rfl:=w y C;obtain⟨z,q⟩:=t h4;refine⟨⟨hz,z,q⟩,λE a=>?_⟩;have a:HT r p s=some E:=a;refine⟨λe=>⟨⟨0,0,0,0⟩, .same _,j _ (.inr (e ▸a))⟩,λe=>?_⟩;exact⟨by simp only[InR];omega,⟨s.p+1,s.p+1,s.b1,s.b2⟩, .same _,c h4 (e ▸a)⟩
  ·have l:Iu r p s=⟨s.p+1,s.b0,s.p+1,s.b2⟩:=by unfold Iu;rw[if_neg A,hq];rfl
   rw[l]at c;simp[dZ,dS,mL,h1,h2,h3,u,x,hq,-fB',-eB'];refineλb=>⟨λh4 y C=>?_,λh4=>⟨⟨0,0,0,0⟩, .same _,j _ (.inl (by omega))⟩⟩
   obtain rfl:=w y C;obtain⟨z,q⟩:=t h4;refine⟨⟨hz,z,q⟩,λE a=>?_⟩;have a:HT r p s=some E:=a;refine⟨λe=>⟨⟨0,0,0,0⟩, .same _,j _ (.inr (e ▸a))⟩,λe=>?_⟩;exact⟨by simp only[InR];omega,⟨s.p+1,s.b0,s.p+1,s.b2⟩, .same _,c h4 (e ▸a)⟩
  ·have l:Iu r p s=⟨s.p+1,s.b0,s.b1,s.p+1⟩:=by unfold Iu;rw[if_neg A,hq];rfl
   rw[l]at c;simp[dZ,dS,mL,h1,h2,h3,u,x,hq,-fB',-eB'];refineλb=>⟨λh4 y C=>?_,λh4=>⟨⟨0,0,0,0⟩, .same _,j _ (.inl (by omega))⟩⟩
   obtain rfl:=w y C;obtain⟨z,q⟩:=t h4;refine⟨⟨hz,z,q⟩,λE a=>?_⟩;have a:HT r p s=some E:=a;refine⟨λe=>⟨⟨0,0,0,0⟩, .same _,j _ (.inr (e ▸a))⟩,λe=>?_⟩;exact⟨by simp only[InR];omega,⟨s.p+1,s.b0,s.b1,s.p+1⟩, .same _,c h4 (e ▸a)⟩
def Px(r:Rn)(p:Pat)(at_:Int)(x:Region):Bool:=decide (x.ty=p.reg) && decide ((if p.op=3 then x.e else x.b)=at_) && decide (r.bg<=x.b) && decide (x.e<=r.en)
def qd2(x:Region×Pat×Int×Rn×D):List D:=[enc x.1, .cptr (enc x.2.1).cells 0, .cptr [enc x.2.2.1] 0, .cptr [.cptr (mL x.2.2.2.1 x.2.2.2.2) 0] 0]
def Z9(z b:Region×Pat×Int×Rn×D)(h:qd2 z=qd2 b):z=b:=by
 obtain⟨a,p,i,r,k⟩:=z;obtain⟨l,c,q,r',s⟩:=b;unfold qd2 at h;simp only[qCL,D.cptr.injEq,and_true]at h;obtain⟨h1,h2,h3,h4⟩:=h;have e:p=c:=bi (by rw[ve p,ve c,h2]);obtain⟨d,j⟩:=Ms h4;rw[bi h1,e,bi h3,d,j]
noncomputable abbrev qBo:dN (Region×Pat×Int×Rn×D):=aX qd2 Z9
noncomputable abbrev FU:Spc:=aJ qBo (λ_=>True) (enc (X:=Bool)) λx y=>y=Px x.2.2.2.1 x.2.1 x.2.2.1 x.1
theorem qi8:aq bb aZ S qBo (λ_=>True) (enc (X:=Bool)) λx y=>y=Px x.2.2.2.1 x.2.1 x.2.2.1 x.1:=by
 rintro⟨a,p,i,r,k⟩ -;rw[CK];by_cases d:p.op=3
 ·by_cases c:a.ty=p.reg
  rotate_left
  ·simp[qd2,bb,aZ,Px,d,c,-fB',-eB']
  by_cases h:a.e=i
  rotate_left
  ·simp[qd2,bb,aZ,Px,d,c,h,-fB',-eB']
  by_cases j:r.bg<=a.b
  rotate_left
  ·simp[qd2,bb,aZ,Px,d,c,h,j,-fB',-eB']
  simp[qd2,bb,aZ,Px,d,c,h,j,-fB',-eB']
 ·by_cases c:a.ty=p.reg
  rotate_left
  ·simp[qd2,bb,aZ,Px,d,c,-fB',-eB']
  by_cases h:a.b=i
  rotate_left
  ·simp[qd2,bb,aZ,Px,d,c,h,-fB',-eB']
  simp[qd2,bb,aZ,Px,d,c,h,-fB',-eB'];exact⟨by intros;omega,by intros;omega⟩
abbrev qiC(x:D×Pat×Int):Prop:=qpi x.1
abbrev qiq(x:D×Pat×Int)(y:Bool):Prop:=∀r k,x.1= .cptr (mL r k) 0->y=qid r x.2.1 x.2.2
abbrev qno:Spc:=aJ (aD (a2 Pat Int)) qiC (enc (X:=Bool)) qiq
theorem qmQ(h0:S0 cj=FU)(h1:S bM=VC Region S0):aq lZ lL S (aD (a2 Pat Int)) qiC (enc (X:=Bool)) qiq:=by
 rintro⟨d,p,i⟩ ⟨r,k,h,hl⟩;have h:d= .cptr (mL r k) 0:=h;subst h;have b:FunOn S0 (.clo cj [.cptr (enc p).cells 0, .cptr [enc i] 0, .cptr [.cptr (mL r k) 0] 0]) r.c.regs (Px r p i):=
  uc (f:=λa=>(a,p,i,r,k)) h0 (λa _=>EV qd2 Z9 (a,p,i,r,k)) (λ_ _=>trivial) (λa _ y j=>j)
 rw[show(enc p).cells=[enc p.op,enc p.cond.op,enc p.cond.name,enc p.cond.arg,enc p.cond.val,enc p.cond.lab,enc p.cond.fold,enc p.cond.kids,enc p.lab,enc p.reg,enc p.mn,enc p.mx,enc p.kids]by simp]at b;simp at b;simp[lZ,lL,h1,-fB',-eB'];refine⟨⟨_,b⟩,λy j r' l e=>?_⟩;have e:D.cptr (mL r k) 0= .cptr (mL r' l) 0:=e;obtain rfl:=F2 e;rw[j _ b];rfl
end
section
open Go.Proofs
def pK:CC:=gq Tryz.f121 [] { ke:=[0,990] } _
def oc:List ak:=[.tmp 6]
def Gi:FO lA [] pK oc 29:=fo
def nj:CC:=gq Tryz.f60 [5,3045000,2010010] { cu:=[6,15],ke:=[0,990] } _
def mT:List ak:=[.tmp 6]
def Eg:FO dA [5,3045000,2010010] nj mT 121:=fo
def lY:CC:=gq Tryz.f122 [5] { bx:=[53],cu:=[3,7,13,17],ke:=[0,990] } _
def lK:List ak:=[.tmp 6]
def CX:FO mY [5] lY lK 109:=fo
def pP:CC:=gq Tryz.f186 [] { bx:=[0] } _
def oj:List ak:=[]
def Gl:FO qM [] pP oj 16:=fo
open Cod (enc dec)
variable {S S0:Nat->Spc}
structure qmC (r:Rn) (q:Pat):Prop where
 nd:vK q
 num:nL q=true
 lab:q.lab≠ll->tq r.lb q.lab=true
 tok:q.op=1->∀s,X3 r.en s->s.p<r.en->∃y,HT r q s=some y
structure qlA (r:Rn):Prop where
 l3:r.lb.length<=3
 sz:qm6 r.c
 en:r.en<=100000
def Cn(r:Rn)(es:List D):Prop:=∀e∈es,∃d p s l,tS d p/\e= .tup [.agg [d, .v (.int .i64 s.p), .v (.int .i64 s.b0), .v (.int .i64 s.b1), .v (.int .i64 s.b2)], .mp (bB l)]/\l.Nodup/\∀t,t∈l↔nM r p s t
def qom(l:List St3):D:= .mp (bB l)
@[simp] theorem qAX(l:List St3):qom l= .mp (bB l):=rfl
def qbW(n:Nat)(r:Rn)(es:List D)(x:D×St3):Prop:=qlA r/\Cn r es/\X3 r.en x.2/\∃p,tS x.1 p/\cM p<=n/\qb (qmC r) p
def qbT(r:Rn)(x:D×St3)(es:List D)(y:List St3):Prop:=Cn r es/\y.Nodup/\∀p,tS x.1 p->∀t,t∈y↔nM r p x.2 t
abbrev PR(n:Nat):Spc:=qq2 (aD (a1 St3)) qom (qbW n) qbT
def qiz(n:Nat)(r:Rn)(es:List D)(x:D×D×Unit):Prop:=qlA r/\Cn r es/\(∃l:List St3,x.2.1= .mp (bB l)/\∀s∈l,X3 r.en s)/\∃p,tS x.1 p/\cM p<=n/\qb (qmC r) p
def qio(r:Rn)(x:D×D×Unit)(es:List D)(y:List St3):Prop:=Cn r es/\y.Nodup/\∀(p:Pat) (l:List St3),tS x.1 p->x.2.1= .mp (bB l)->∀t,t∈y↔ ∃s∈l,nM r p s t
abbrev YN(n:Nat):Spc:=qq2 (aD (aD a0)) qom (qiz n) qio
theorem qmS(n:Nat)(h1:S dA=PR n):TJ pK oc S (aD (aD a0)) qom (qiz n) qio:=by
 rintro b r v es ⟨d,dl,⟨⟩⟩ ⟨hr,hm,⟨l,k,hl⟩,p,hp,O,Q⟩;have k:dl= .mp (bB l):=k;subst k;obtain⟨cs,off,U,I,J⟩:=hp;have U:d= .cptr cs off:=U;subst U;have hp:tS (.cptr cs off) p:=⟨cs,off,rfl,I,J⟩
 simp[pK,oc,F7,-fB',-eB'];intro v1 b1;refine ms (X:=Value×List D×List St3×List D×List St3) [0,1,7,12] [] (λx=>Cn r x.2.1/\x.2.2.1.Nodup/\(∀s∈x.2.2.2.2,s∈l)/\(∀t∈x.2.2.1,∃s∈l,nM r p s t)/\∀s∈l,s∈x.2.2.2.2\/ ∀t,nM r p s t->t∈x.2.2.1)
  (λ_=>[]) (λx=>[(0, .box b (mL r (.own 990 x.1))),(990, .mrow x.1 x.2.1),(10, .mrow v1 (bB x.2.2.1)),(12, .miter b1 x.2.2.2.1 (bB x.2.2.2.2))]) (λx=>x.2.2.2.2.length) (v,es, [], [],l)
  ⟨hm,qDS,λ_ h=>h,λ_ h=>(by cases h),λs hs=> .inl hs⟩ (by simp) (by simp[ul]) ?_
 rintro⟨v',es',out,cur,left⟩ ⟨q,u,w,y,A⟩;simp only at q u w y A;simp[-fB',-eB'];refine⟨λh0=>?_,λl1 e l2 W=>?_⟩
 ·have C:=fV h0;subst C;refine QA v' es' out (yp (by simp[ai])) (by simp[ai]) (by simp[ai]) ⟨q,u,λp' l' Y E t=>?_⟩;obtain rfl:=tK hp Y;have E:D.mp (bB l)= .mp (bB l'):=E;obtain rfl:=Ma (D.mp.inj E);exact⟨y t,λ⟨s,hs,hD⟩=>(A s hs).elim (λh=>by cases h) λh=>h t hD⟩
 ·obtain⟨a,s,c,rfl,rfl,rfl,rfl⟩:=ip W;have hs:s∈l:=w s (by simp);have Z:qbW n r es' (.cptr cs off,s):=⟨hr,q,hl s hs,p,hp,O,Q⟩
  simp[h1,D4,Z,F7,-fB',-eB'];intro v2 es2 N hQ b2;have K:=hQ.2.2 p hp;refine ms (X:=List St3×List D×List St3) [0,1,7,12,21] [0,990,12] (λx=>x.1.Nodup/\(∀t∈x.2.2,t∈N)/\(∀t∈out,t∈x.1)/\(∀t∈x.1,t∈out\/t∈N)/\∀t∈N,t∈x.2.2\/t∈x.1)
   (λ_=>[]) (λx=>[(10, .mrow v1 (bB x.1)),(21, .miter b2 x.2.1 (bB x.2.2))]) (λx=>x.2.2.length) (out, [],N)
   ⟨u,λ_ h=>h,λ_ h=>h,λ_ h=> .inl h,λ_ h=> .inl h⟩ (by simp) (by simp) ?_
  rintro⟨j,cur2,left2⟩ ⟨g1,g2,g3,g4,g5⟩;simp only at g1 g2 g3 g4 g5;simp[-fB',-eB'];refine⟨λh0=>?_,λl1 e l2 L=>?_⟩
  ·have C:=fV h0;subst C;refine⟨v2,es2,j,_,a++c,⟨hQ.1,g1,λx h=>w x (by simp only[qCk,qCm]at h ⊢;rcases h with h|h<;>simp[h]),λt M=>?_,λx F=>?_⟩,⟨.inl rfl, .inl ⟨rfl,rfl⟩, .inl rfl, .inl ⟨rfl,(iT a c).symm⟩⟩,by simp⟩
   ·rcases g4 t M with h|h
    ·exact y t h
    ·exact⟨s,hs,(K t).1 h⟩
   ·rcases A x F with h|h
    ·rcases qCk.1 h with h|h
     ·exact .inl (by simp[h])
     ·rcases qCm.1 h with rfl|h
      ·exact .inr λt M=>(g5 t ((K t).2 M)).elim (λh=>by cases h) id
      ·exact .inl (by simp[h])
    ·exact .inr λt M=>g3 t (h t M)
  ·obtain⟨a2,t,c2,rfl,rfl,rfl,rfl⟩:=ip L;simp[-fB',-eB'];refine⟨yn t j,_,a2++c2,⟨zA g1,λx h=>g2 x (by simp only[qCk,qCm]at h ⊢;rcases h with h|h<;>simp[h]),λx F=>ft.2 (.inr (g3 x F)),λx F=>?_,λx F=>?_⟩,⟨.inl rfl, .inl ⟨rfl,(iT a2 c2).symm⟩⟩,by simp⟩
   ·rcases ft.1 F with rfl|h
    ·exact .inr (g2 x (by simp))
    ·exact g4 x h
   ·rcases g5 x F with h|h
    ·rcases qCk.1 h with h|h
     ·exact .inl (by simp[h])
     ·rcases qCm.1 h with rfl|h
      ·exact .inr (ft.2 (.inl rfl))
      ·exact .inl (by simp[h])
    ·exact .inr (ft.2 (.inr h))
end
section
open Go.Proofs
def qbu{r:Rn}{p:Pat}(h:p.op=1)(s t:St3):nM r p s t↔s.p<r.en/\HT r p s=some true/\t=Iu r p s:=by
 obtain⟨op,c,l,rg,mn,mx,ks⟩:=p;rw[nM];dsimp only;rw[if_pos h]
def ND{r:Rn}{p:Pat}(h:p.op=2\/p.op=3)(s t:St3):nM r p s t↔qid r p s.p=true/\t=s:=by
 obtain⟨op,c,l,rg,mn,mx,ks⟩:=p;have h:op=2\/op=3:=h;rw[nM];dsimp only;rw[if_neg (by omega),if_pos h]
def qho{r:Rn}{p:Pat}(h:p.op=4)(s t:St3):nM r p s t↔xE r p.kids s t:=by
 obtain⟨op,c,l,rg,mn,mx,ks⟩:=p;have h:op=4:=h;rw[nM];dsimp only;rw[if_neg (by omega),if_neg (by omega),if_pos h]
def qml{r:Rn}{p:Pat}(h:p.op=5)(s t:St3):nM r p s t↔An r p.kids s t:=by
 obtain⟨op,c,l,rg,mn,mx,ks⟩:=p;have h:op=5:=h;rw[nM];dsimp only;rw[if_neg (by omega),if_neg (by omega),if_neg (by omega),if_pos h]
def qbt{r:Rn}{p k:Pat}{ks:List Pat}(h:p.op=6)(hk:p.kids=k::ks)(s t:St3):nM r p s t↔Cm (nM r k) p.mn p.mx s t:=by
 obtain⟨op,c,l,rg,mn,mx,kids⟩:=p;have h:op=6:=h;have hk:kids=k::ks:=hk;subst hk;rw[nM];dsimp only;rw[if_neg (by omega),if_neg (by omega),if_neg (by omega),if_neg (by omega),Of]
def vh(r:Rn)(s t:St3):xE r [] s t↔s=t:=by rw[xE]
def nH(r:Rn)(k:Pat)(ks:List Pat)(s t:St3):xE r (k::ks) s t↔ ∃u,nM r k s u/\xE r ks u t:=by rw[xE]
def G4(r:Rn)(s t:St3):An r [] s t↔False:=by rw[An]
def ue(r:Rn)(k:Pat)(ks:List Pat)(s t:St3):An r (k::ks) s t↔nM r k s t\/An r ks s t:=by rw[An]
def I0{r:Rn}{k:Pat} :∀{ks:List Pat} {s t:St3},xE r (ks++ [k]) s t↔ ∃u,xE r ks s u/\nM r k u t
 | [],s,t=>by
   rw[qC5,nH];constructor
   ·rintro⟨u,h1,h2⟩;exact⟨s,(vh ..).2 rfl,(vh ..).1 h2 ▸h1⟩
   ·rintro⟨u,h1,h2⟩;exact⟨t,(vh ..).1 h1 ▸h2,(vh ..).2 rfl⟩
 | a::ks,s,t=>by
   rw[qC8,nH];constructor
   ·rintro⟨u,h1,h2⟩;obtain⟨v,h3,h4⟩:=I0.1 h2;exact⟨v,(nH ..).2 ⟨u,h1,h3⟩,h4⟩
   ·rintro⟨v,h3,h4⟩;obtain⟨u,h1,h2⟩:=(nH ..).1 h3;exact⟨u,h1,I0.2 ⟨v,h2,h4⟩⟩
def QG{r:Rn}{k:Pat} :∀{ks:List Pat} {s t:St3},An r (ks++ [k]) s t↔An r ks s t\/nM r k s t
 | [],s,t=>by rw[qC5,ue,G4];simp
 |a::ks,s,t=>by rw[qC8,ue,ue,QG,or_assoc]
def MB{α:Type}{R:α->α->Prop}{n:Nat}{s t:α} :Pow R (n+1) s t↔ ∃u,Pow R n s u/\R u t:=by
 induction n generalizing s with
 | zero=>
   constructor
   ·rintro⟨u,h1,h2⟩;cases h2;exact⟨s,rfl,h1⟩
   ·rintro⟨u,h1,h2⟩;cases h1;exact⟨t,h2,rfl⟩
 | succ n a=>
   constructor
   ·rintro⟨u,h1,h2⟩;obtain⟨v,h3,h4⟩:=a.1 h2;exact⟨v,⟨u,h1,h3⟩,h4⟩
   ·rintro⟨v,⟨u,h1,h3⟩,h4⟩;exact⟨u,h1,a.2 ⟨v,h3,h4⟩⟩
def Ia{α:Type}{R:α->α->Prop}{m n:Nat}{s t:α}(h:Pow R (m+n) s t):∃u,Pow R m s u/\Pow R n u t:=by
 induction m generalizing s with
 |zero=>exact⟨s,rfl,by rwa [qCR]at h⟩
 | succ m a=>
   rw[Nat.succ_add]at h;obtain⟨v,h1,h2⟩:=h;obtain⟨u,h3,h4⟩:=a h2;exact⟨u,⟨v,h1,h3⟩,h4⟩
def Jp(R:St3->St3->Prop)(base:List St3)(k:Nat)(t:St3):Prop:=∃u∈base,Pow (Jq R) k u t
structure qqm (R:St3->St3->Prop) (base:List St3) (j:Nat) (out new:List St3):Prop where
 o:∀t,t∈out↔ ∃k,k<=j/\Jp R base k t
 f:∀t∈new,Jp R base j t
 n:∀t,Jp R base j t->t∈new\/ ∃k,k<j/\Jp R base k t
def qhV(R:St3->St3->Prop)(base:List St3):qqm R base 0 base base:=by
 have h0:∀t,Jp R base 0 t↔t∈base:=λt=>⟨λ⟨u,h1,h2⟩=>by cases h2;exact h1,λh=>⟨t,h,rfl⟩⟩
 refine⟨λt=>⟨λh=>⟨0,qCj _,(h0 t).2 h⟩,?_⟩,λt h=>(h0 t).2 h,λt h=> .inl ((h0 t).1 h)⟩;rintro⟨k,hk,h⟩;obtain rfl:k=0:=by omega
 exact(h0 t).1 h
def Mw{R:St3->St3->Prop}{base:List St3}{k:Nat}{t:St3} :Jp R base (k+1) t↔ ∃a,Jp R base k a/\Jq R a t:=by
 constructor
 ·rintro⟨u,h1,h2⟩;obtain⟨a,h3,h4⟩:=MB.1 h2;exact⟨a,⟨u,h1,h3⟩,h4⟩
 ·rintro⟨a,⟨u,h1,h3⟩,h4⟩;exact⟨u,h1,MB.2 ⟨a,h3,h4⟩⟩
theorem qhW{R:St3->St3->Prop}{base out new d b:List St3}{j:Nat}(h:qqm R base j out new)(h1:∀t,t∈b↔t∉out/\∃a∈new,Jq R a t)(h2:∀t,t∈d↔t∈out\/t∈b):qqm R base (j+1) d b:=by
 have key:∀t,Jp R base (j+1) t->t∈b\/t∈out:=λt p=>by
  obtain⟨a,q,hs⟩:=Mw.1 p;by_cases ho:t∈out
  ·exact .inr ho
  ·rcases h.n a q with hn|⟨k,hk,l⟩
   ·exact .inl ((h1 t).2 ⟨ho,a,hn,hs⟩)
   ·exact .inr ((h.o t).2 ⟨k+1,by omega,Mw.2 ⟨a,l,hs⟩⟩)
 have c:∀t∈b,Jp R base (j+1) t:=λt p=>by
  obtain⟨_,a,q,hs⟩:=(h1 t).1 p;exact Mw.2 ⟨a,h.f a q,hs⟩
 refine⟨λt=>?_,c,λt p=>?_⟩
 ·rw[h2];constructor
  ·rintro(ho|hn)
   ·obtain⟨k,hk,l⟩:=(h.o t).1 ho;exact⟨k,by omega,l⟩
   ·exact⟨j+1,qCj _,c t hn⟩
  ·rintro⟨k,hk,l⟩;by_cases e:k=j+1
   ·subst e;exact(key t l).symm
   ·exact .inl ((h.o t).2 ⟨k,by omega,l⟩)
 ·rcases key t p with hn|ho
  ·exact .inl hn
  ·obtain⟨k,hk,l⟩:=(h.o t).1 ho;exact .inr ⟨k,by omega,l⟩
def qhX{R:St3->St3->Prop}{base out:List St3}{j:Nat}(h:qqm R base j out [])(t:St3):t∈out↔ ∃k,Jp R base k t:=by
 constructor
 ·intro c;obtain⟨k,_,b⟩:=(h.o t).1 c;exact⟨k,b⟩
 ·rintro⟨k,b⟩
  induction k using Nat.strongRecOn with
  | _ k d=>
    by_cases hk:k<=j
    ·exact(h.o t).2 ⟨k,hk,b⟩
    ·obtain⟨u,l,hp⟩:=b;obtain⟨a,h1,h2⟩:=Ia (m:=j) (n:=k -j) (by rwa [show j+ (k -j)=k by omega]);rcases h.n a ⟨u,l,h1⟩with hn|⟨i,hi,v,p,h3⟩
     ·cases hn
     ·exact d (i+ (k -j)) (by omega) ⟨v,p,h3.add h2⟩
def qfC{R:St3->St3->Prop}{base:List St3}{mn mx:Int}{s:St3}(hb:∀u,u∈base↔Pow R mn.toNat s u)(t:St3):Cm R mn mx s t↔ ∃k:Nat,(mx< 0\/mn+k<=mx)/\Jp R base k t:=by
 constructor
 ·rintro⟨u,h1,k,h2,h3⟩;exact⟨k,h2,u,(hb u).2 h1,h3⟩
 ·rintro⟨k,h2,u,h1,h3⟩;exact⟨u,(hb u).1 h1,k,h2,h3⟩
end
end Go.Gv
