/- W21 -/
import Derived.Shelf.SlSortCmp.NoneTotal
import Derived.Test.YtnffegdacbdhmaaGreatDoorGe20
set_option linter.all false
set_option maxRecDepth 100000
set_option maxHeartbeats 0
open Bool renaming forall_bool → fB', exists_bool → eB'
namespace Go.Gv
section
open Cod (enc dec)
open Go.Proofs Go.Sort Go.Shelf Go.Lib Go.RowKit
def V9{b p:Type}{f:b->List p}{n:Nat} :∀{l:List b},(∀x∈l,(f x).length=n)->∀{i j:Nat},j<n->(l.flatMap f)[i*n+j]? =(l[i]?).bind λx=>(f x)[j]?
 | [],_,i,j,_=>by simp
 | d::es,h,0,j,c=>by
   have a:=h d (by simp);simp only[qGk,Nat.zero_mul,qGs];rw[qGh (by omega)];simp
 | d::es,h,i+1,j,c=>by
   have a:=h d (by simp);have q:=V9 (l:=es) (λd a=>h d (by simp[a])) (i:=i) c;simp only[qGk];rw[qF9 (by rw[a,qGL];omega),a];have:(i+1) *n+j -n=i*n+j:=by rw[qGL];omega
   rw[this,q];simp
def K6{a b:Type}{f:a->List b}{n:Nat} :∀{l:List a},(∀x∈l,(f x).length=n)->(l.flatMap f).length=l.length*n
 | [],_=>by simp
 | d::es,h=>by
   have c:=K6 (l:=es) (λd j=>h d (by simp[j]));simp only[qGk,qGa];rw[c,h d (by simp),qGn,qGL];omega
section
variable {X:Type}[Cod X][Inhabited X](ev:X->List Value)(k:Nat)(hk:∀x,(ev x).length=k)
include hk
omit [Cod X]in
theorem BM(l:List X):(flatK ev k l.toArray).toList=l.flatMap ev:=by
 have hl:=K6 (f:=ev) (n:=k) (l:=l) (λx _=>hk x);apply qGo;intro t;by_cases ht:t<l.length*k
 ·have k0:0<k:=by
   rcases qGZ k with h|h
   ·subst h;simp at ht
   ·exact h
  have h1:=get_flatK ev k l.toArray t (by simpa using ht);have hs:t<(flatK ev k l.toArray).size:=by simpa using ht
  rw[getElem!_pos _ t hs]at h1;rw[qF4,qGj hs,h1];have hm:t % k<k:=qG8 _ k0;have hdm:t=(t/k) *k+t % k:=by have:=qG1 t k;rw[qHB]at this;omega
  have hq:t/k<l.length:=qHQ (by rw[qHB];exact ht);have h2:=V9 (f:=ev) (n:=k) (l:=l) (λx _=>hk x) (i:=t/k) hm;rw[<-hdm]at h2;rw[h2,qFH hq];have h3:(l.toArray)[t/k]! =l[t/k]:=by rw[getElem!_pos l.toArray (t/k) (by simpa using hq)];simp
  rw[h3];have h4:t % k<(ev l[t/k]).length:=by rw[hk];exact hm
  simp only[qF1];rw[getElem!_pos (ev l[t/k]) (t % k) h4,qFH h4]
 ·rw[qF0 (by simpa using ht),qF0 (by omega)]
end
def BK{w:World}{b j el:Nat}{c:Array Value}(h:w.heap[b]? =some (.cells c el (0,0))):w.frozen? ⟨b,j,none⟩=false:=by
 simp[World.frozen?,h]
def Hk{w:World}{b j el:Nat}{c:Array Value}{fr:Nat×Nat}(h:w.heap[b]? =some (.cells c el fr)):w.cell? ⟨b,j,none⟩=c[j]?:=by
 simp[World.cell?,h]
def EZ{w:World}{gb b:Nat}{f:Array Value->Array Value}{os:Array Obj}(hb:b<w.heap.size)(a:b≠gb):(grow (mapBlock w gb f) os).heap[b]? =w.heap[b]?:=by
 simp only[grow,mapBlock];rw[qGA (by simpa using hb),qHN];have:¬gb=b:=λe=>a e.symm
 simp[this]
def O1{w:World}{gb el:Nat}{c:Array Value}{fr:Nat×Nat}{f:Array Value->Array Value}{os:Array Obj}(h:w.heap[gb]? =some (.cells c el fr)):(grow (mapBlock w gb f) os).heap[gb]? =some (.cells (f c) el fr):=by
 have hb:gb<w.heap.size:=(qFS.1 h).1;simp only[grow,mapBlock];rw[qGA (by simpa using hb),qHN];simp[h,onCells]
variable {dq:Prop}
section
variable {P:Program}{ρ:Ren}
theorem qsE{tp I p q:Nat->Prop}{w w':World}{v:Value}{l:List Int}(h:R tp I w v (enc l))(hI:∀b,I b->q b/\w'.heap[b]? =w.heap[b]?):R p q w' v (enc l):=by
 have h:R tp I w v (.list 1 (l.map enc)):=h;show R p q w' v (.list 1 (l.map enc));have j:∀c∈bp (l.map (enc (X:=Int))),∃x:Int,c= .v (.int .i64 x):=λc hm=>by
  unfold bp at hm;obtain⟨d,t,hc⟩:=qG5.1 hm;obtain⟨x,_,rfl⟩:=qFQ.1 t;simp_all
 generalize l.map (enc (X:=Int))=es at h j;cases h with
 |nolist a cap n=>exact .nolist _ _ _
 | list b off cap n _ f r hc hm hz hn hcell h1 s=>
   refine .list b off cap 1 _ f (hI b r).1 hc hm (λh=>absurd rfl h) hn (λk c hk=>by grind [D,PlainB,World.cell?_of_block]) h1 λk c hk=>?_
   have u:=s k c hk;obtain⟨x,y⟩:=j c (qFK hk);subst y;have:=u.inv_v;rw[this];exact .int .i64 x
def JO(xs:List Value)(n:Nat)(i:_root_.Fin n):List Value:=(xs.drop (i.val*3)).take 3
def qlo(l:List cb)(i j:_root_.Fin l.length):Int:=Lf l[i] l[j]
theorem tY(l:List cb)(i j:_root_.Fin l.length):ltOf (qlo l) i j=true↔qcj l[i] l[j]:=by
 unfold ltOf qlo qcj;simp
def qnc(l:List cb):SWO (ltOf (qlo l)):=by
 refine⟨λx=>?_,λx y z h1 h2=>?_,λx y z h1 h2=>?_⟩;simp[qG3,tY,qd2];grind [tY,E6]
 ·rw[qG3,ne_eq,tY]at*;grind [Ny,E6]
theorem Wg{xs:List Value}{n:Nat}(a:xs.length=n*3)(i:_root_.Fin n){j:Nat}(b:j< 3):(JO xs n i)[j]? =xs[i.val*3+j]?:=by
 simp_all [JO]
def qem{xs:List Value}{n:Nat}(a:xs.length=n*3)(i:_root_.Fin n):(JO xs n i).length=3:=by
 grind [JO]
def qsM(g:Nat)(x:D×Unit)(l:List cb):Prop:=x.1= .clo g []/\l.length<=1000000000/\l.Nodup
def qsF(_:D×Unit)(l r:List cb):Prop:=Fh r/\r.length=l.length/\∀m,m∈r↔m∈l
abbrev qbO(g el:Nat):Spc:=qrL (Y:=cb) (aD a0) (qsM g) qsF el 3
def qeE(m:cb):(enc m).cells=[.v (.int .i64 m.b), .v (.int .i64 m.e),enc m.lbs]:=by rfl
theorem qgY{g:Nat}(J:Tri True P g s_cmpM.pt)(K:lg=[]){tp I:Nat->Prop}{w:World}{gb:Nat}{l:List cb}[Inhabited (_root_.Fin l.length)]{xs:List Value}(L:xs.length=l.length*3)
 (hI:∀b,I b->b<w.heap.size/\b≠gb) (M:∀(i j:Nat) (y:Value) (c:D),i<l.length->j< 3->xs[i*3+j]? =some y->∀m,l[i]? =some m->(enc m).cells[j]? =some c->y.oneCell'=true/\R tp I w y c):
 CmpLays P g #[] (JO xs l.length) 3 (qlo l) gb 0 l.length w:=by
 intro m os t _ x y;have a:∀b,I b->(sortWorldK (JO xs l.length) 3 w gb 0 m t os).heap[b]? =w.heap[b]?:=λb hb=>EZ (w:=Sort.ahead w m) (hI b hb).1 (hI b hb).2
 have d:w.heap.size<=(sortWorldK (JO xs l.length) 3 w gb 0 m t os).heap.size:=by simp[sortWorldK,grow,putRowK,putRow,mapBlock,Sort.ahead]
 generalize sortWorldK (JO xs l.length) 3 w gb 0 m t os=W at a d ⊢;have q:∀z:_root_.Fin l.length,R (λ_=>False) (aR (λb=>b<W.heap.size/\ ¬I b) (λ_=>False) bS W) W (.agg (JO xs l.length z).toArray) (enc l[z]):=λz=>by
  have he:enc l[z]= .agg [.v (.int .i64 l[z].b), .v (.int .i64 l[z].e),enc l[z].lbs]:=by simp
  have hcell:∀(j:Nat) (v:Value) (c:D),j< 3->(JO xs l.length z)[j]? =some v->(enc l[z]).cells[j]? =some c->v.oneCell'=true/\R tp I w v c:=λj v c u h1 h2=>
   M z.val j v c z.isLt u (by grind [Tri,lg,Wg]) l[z] (by simp) h2
  have h3:=qem L z;rw[he];refine .agg _ _ (by omega) (λv A=>?_) λj v c h1 h2=>?_
  ·obtain⟨j,u,rfl⟩:=qIc A;have k:j< 3:=by omega
   have hc:j<(enc l[z]).cells.length:=by simp_all
   exact(hcell j _ _ k (qFH u) (qFH hc)).1
  ·have k:j< 3:=by have:=(qFG.1 h2).1;simpa using this
   have C:=(hcell j v c k h1 (by rw[qeE];exact h2)).2;rcases j with _|_|_|j
   ·cases h2;rw[C.inv_v];exact .int .i64 _
   ·cases h2;rw[C.inv_v];exact .int .i64 _
   ·cases h2;exact qsE C λb hb=>⟨⟨qFX (hI b hb).1 d,λh=>h.2 hb,λh=>h,λ⟨i,r,h,_⟩=>by simp[bS]at h⟩,a b hb⟩
   ·omega
 obtain⟨_,hc⟩:=J (λb=>b<W.heap.size/\ ¬I b) (λ_=>False) W [.agg (JO xs l.length x).toArray, .agg (JO xs l.length y).toArray] [enc l[x],enc l[y]] bS 0 (λr H'=>r=enc (qlo l x y)/\H'=bS) (λb h=>h.1) ⟨λb h=>h.elim,λp hp=>by rw[K]at hp;cases hp⟩
  ⟨λi j r s b h=>by simp[bS]at h,λi r b h=>by simp[bS]at h,λi r h=>by simp[bS]at h⟩ rfl
  (λj v c h1 h2=>by
    rcases j with _|_|j
    ·simp only[qHE,qFV]at h1 h2;subst h1;subst h2;exact q x
    ·simp only[qHk,qHE,qFV]at h1 h2;subst h1;subst h2;exact q y
    ·simp at h1)
  (by
    rw[mO,qcS,Cod.dec_enc,Cod.dec_enc];exact⟨trivial,λz hz=>by subst hz;exact⟨rfl,rfl⟩⟩)
 refine hc.mono ?_;rintro e w' ⟨v,r,H',N,rfl,⟨rfl,rfl⟩,_,_,_,hs,_,_,A⟩;have E:v= .int .i64 (qlo l x y):=R.inv_v A;subst E;refine⟨rfl,w'.drawn -W.drawn,w'.heap.extract W.heap.size w'.heap.size,?_⟩;have F:w'.heap=W.heap++w'.heap.extract W.heap.size w'.heap.size:=by
  apply Array.ext_getElem?;intro b;by_cases hb:b<W.heap.size
  ·rw[qGA hb];exact hs.same b hb (λ⟨i,r,h,_⟩=>by simp[bS]at h) (λh=>h)
  ·rw[Array.getElem?_append_right (by omega),qHI];have O:W.heap.size<=w'.heap.size:=hs.size;by_cases Q:b<w'.heap.size
   ·rw[if_pos (by omega)];congr 1;omega
   ·rw[if_neg (by omega),qGN (by omega)]
 have h1:=hs.os;have h2:=hs.tape;have h3:=hs.output;have h4:=hs.drawn trivial;have h5:W.drawn+ (w'.drawn -W.drawn)=w'.drawn:=by omega
 cases w';grind [Tri,lg,grow,World.drewN]
def qod(l:List cb):(List.finRange l.length).map (λi=>l[i])=l:=by
 refine qHL (by simp) λi h1 h2=>?_
 simp
theorem qfx{J g el:Nat}(L:SlLaysF0.n6 P ρ)(hf:ρ.f 6=J)(aE:∀w,(isAgg (ρ.t 24)).run P w= .ok true w)(zE:∀w,(Go.sizeOf (ρ.t 24)).run P w= .ok 3 w)(hT:lg=[])(hg:Tri True P g s_cmpM.pt)(eg:dc P g)(ef:dc P J):
 Tri dq P J (qbO g el).pt:=by
 subst hf;intro O tp w vs ds H d K hO' htl p hlen E hA;obtain⟨id,v,l,ds',x,rfl,hd,hid,⟨hx1,hl5,hnd⟩,hK⟩:=hA;have hds:ds'=[.clo g []]:=by
  match ds',hd with
  | [],h=>cases h
  | a::r,h=>
    rw[qlR]at h
    match r,h with
    | [],h=>
      simp at h;grind
    |b::r,h=>cases h
 subst hds
 match vs,hlen,E with
 | [v0,fv],_,E=>
 have e0:v0=v:=by
  have:=E 0 v0 _ rfl rfl;cases this;rfl
 have e1:fv= .func (.func g) #[] #[]:=by
  have:=E 1 fv _ rfl rfl;cases this with
  | clo _ xs _ hl _=>
    have:xs=[]:=by simpa using hl
    subst this;rfl
 subst e0;subst e1;refine⟨ef,?_⟩;obtain⟨xs,⟨W,hx⟩,hkn,hcells⟩:=p.ok id _ hid;have hll:(l.map (enc (X:=cb))).length=l.length:=by simp
 have hkw:∀d∈l.map (enc (X:=cb)),d.cells.length=3:=λd hd=>(hkn d hd).2
 rcases hx with⟨rfl,h0⟩|⟨gb,cap,cur,rfl,_,hgb,hcap,hcapm,hsz,Z⟩
 ·have hl0:l=[]:=by simpa using h0
  subst hl0;refine(AnyF.slices_SortFunc_none L none 0 _ w).mono ?_;rintro e w' ⟨rfl,rfl⟩;have hH:ai H id (some (.row (.slice none 0 0) el 3 (([]:List cb).map enc)))=H:=by
   funext i;simp only[ai];by_cases hi:i=id
   ·subst hi;simp[hid]
   ·simp[hi]
  refine⟨_,_,_,tp,rfl,hK [] ⟨List.Pairwise.nil,rfl,λ_=>qG4⟩,λb h=>h,λb h=> .inl h,htl.1, .refl _ _ _,λb h=> .inl (by rwa [hH]at h),by rw[hH];exact p, .tup [] [] rfl (λk x c h=>by simp at h)⟩
 rw[hll]at hcap W Z ⊢;by_cases hl0:l=[]
 ·subst hl0;refine(AnyF.slices_SortFunc_none L (some ⟨gb,0,none⟩) cap _ w).mono ?_;rintro e w' ⟨rfl,rfl⟩;have hH:ai H id (some (.row (.slice (some ⟨gb,0,none⟩) (([]:List cb).map (enc (X:=cb))).length cap) el 3 (([]:List cb).map enc)))=H:=by
   funext i;simp only[ai];by_cases hi:i=id
   ·subst hi;simp[hid]
   ·simp[hi]
  refine⟨_,_,_,tp,rfl,hK [] ⟨List.Pairwise.nil,rfl,λ_=>qG4⟩,λb h=>h,λb h=> .inl h,htl.1, .refl _ _ _,λb h=> .inl (by rwa [hH]at h),by rw[hH];exact p, .tup [] [] rfl (λk x c h=>by simp at h)⟩
 have hlp:0<l.length:=List.length_pos_iff.2 hl0
 letI inst:Inhabited (_root_.Fin l.length):=⟨⟨0,hlp⟩⟩
 have hbo:(Res.row (.slice (some ⟨gb,0,none⟩) l.length cap) el 3 (l.map enc)).blk=some gb:=rfl;have C:H id=some (.row (.slice (some ⟨gb,0,none⟩) l.length cap) el 3 (l.map enc)):=by rw[hid,hll]
 have S:bA H gb:=⟨id,_,C,hbo⟩
 have u:∀(i j:Nat) (y:Value) (c:D),i<l.length->j< 3->xs[i*3+j]? =some y->∀m,l[i]? =some m->(enc m).cells[j]? =some c->y.oneCell'=true/\R tp (aR O tp H w) w y c:=λi j y c hi Y hy m hm hc=>by
  refine hcells (i*3+j) y c hy ?_;rw[dY hkw Y,qFU,hm];exact hc
 have hgs:gb<w.heap.size:=(qFS.1 hgb).1;have hlays:=qgY (gb:=gb) hg hT (tp:=tp) (I:=aR O tp H w) (w:=w) W (λb hb=>⟨hb.1,λe=>hb.2.2.2 (e ▸S)⟩) u;have q:∀z:_root_.Fin l.length,(JO xs l.length z).length=3:=qem W;have hone:∀(z:_root_.Fin l.length),∀y∈JO xs l.length z,y.oneCell'=true:=λz y hy=>by
  obtain⟨j,Y,rfl⟩:=qIc hy;have hj3:j< 3:=by have:=q z;omega
  have hc:j<(enc l[z]).cells.length:=by rw[qeE];exact hj3
  exact(u z.val j _ _ z.isLt hj3 (by rw[<-Wg W z hj3];exact qFH Y) l[z] (by simp) (qFH hc)).1
 have hfm:(List.finRange l.length).flatMap (JO xs l.length)=xs:=by
  refine qGo λt=>?_
  by_cases ht:t<l.length*3
  ·have hm:t % 3< 3:=qG8 _ (by decide);have hdm:t=(t/3) *3+t % 3:=by have:=qG1 t 3;omega
   have hq:t/3<l.length:=by omega
   have h2:=V9 (f:=JO xs l.length) (n:=3) (l:=List.finRange l.length) (λx _=>q x) (i:=t/3) hm;rw[<-hdm]at h2;rw[h2];have h3:(List.finRange l.length)[t/3]? =some ⟨t/3,hq⟩:=by
    rw[qFH (by simpa using hq)];simp
   rw[h3,qF1,Wg W _ hm];congr 1;exact hdm.symm
  ·have h4:=K6 (f:=JO xs l.length) (n:=3) (l:=List.finRange l.length) (λx _=>q x);rw[qF0 (by rw[h4];simp;omega),qF0 (by omega)]
 have hcur:∀j,j<l.length*3->cur[j]? =xs[j]?:=λj Y=>by
  rw[<-Z,qF2,if_pos Y,qF4]
 have hsz0:(List.finRange l.length).toArray.size=l.length:=by simp
 have hH:HoldsK (JO xs l.length) 3 w gb 0 (List.finRange l.length).toArray:=by
  intro j Y;have hj':j<l.length*3:=by simpa using Y
  refine⟨?_,BK hgb⟩;have h6:xs[j]? =(flatK (JO xs l.length) 3 (List.finRange l.length).toArray).toList[j]?:=congrArg (λz:List Value=>z[j]?) ((BM (JO xs l.length) 3 q (List.finRange l.length)).trans hfm).symm;rw[Hk hgb,qGs,hcur j hj',h6,qF4,qGj Y,getElem!_pos _ j Y];rfl
 have hndi:∀x y:_root_.Fin l.length,l[x]=l[y]->x=y:=λx y e=>by
  have hp:=qGJ.1 hnd;apply Fin.ext;rcases qH0 x.val y.val with h|h|h
  ·exact absurd e (hp x.val y.val x.isLt y.isLt h)
  ·exact h
  ·exact absurd e.symm (hp y.val x.val y.isLt x.isLt h)
 have M:=AnyQ.slices_SortFunc_total L 3 aE zE (JO xs l.length) q hone (qlo l) (qnc l) g #[] gb 0 cap (List.finRange l.length).toArray w eg (by rw[hsz0];exact hlays) hH hgs (by rw[hsz0];omega) (λx y h1 h2=>by
  rw[qG3,ne_eq,tY]at h1 h2;rcases Ny h1 with e|e
  ·exact hndi _ _ e
  ·exact absurd e h2)
 rw[hsz0]at M;refine M.mono ?_;rintro e w' ⟨rfl,n,os,N⟩;simp only[List.toList_toArray]at N;generalize hl':((List.finRange l.length).mergeSort λx y=>!(ltOf (qlo l)) y x)=l' at N;have A:l'.length=l.length:=by rw[<-hl'];simp
 have hwo:∀b,b<w.heap.size->b≠gb->w'.heap[b]? =w.heap[b]?:=λb hb hne=>by
  rw[N];exact EZ (w:=Sort.ahead w n) hb hne
 have hthis:w'.heap[gb]? =some (.cells (putCells _root_.id 0 (flatK (JO xs l.length) 3 l'.toArray) cur) el (0,0)):=by
  rw[N];exact O1 (w:=Sort.ahead w n) hgb
 have hws:w.heap.size<=w'.heap.size:=by
  rw[N];simp[sortWorldK,grow,putRowK,putRow,mapBlock,Sort.ahead]
 have hos:w'.os=w.os/\w'.tape=w.tape/\w'.output=w.output/\w.drawn<=w'.drawn:=by
  rw[N];exact⟨rfl,rfl,rfl,Nat.le_add_right _ _⟩
 clear N M;have htp:∀b,tp b->b≠gb:=λb hb e=>(p.out id _ gb C hbo).2 (e ▸hb)
 have U:∀b,tp b->TapeStep w w' b:=λb hb=> .same (hwo b (htl.1 b hb) (htp b hb))
 have hperm:l'.Perm (List.finRange l.length):=by rw[<-hl'];exact List.mergeSort_perm _ _
 have hsort:Fh (l'.map λi=>l[i]):=by
  have h1:l'.Pairwise λx y=>(!(ltOf (qlo l)) y x)=true:=by
   rw[<-hl'];refine List.pairwise_mergeSort (λa b c h1 h2=>?_) (λa b=>?_) _
   ·simp only[qHn,qG3,ne_eq,tY]at h1 h2 ⊢;intro h3;rcases Ny h1 with e|e
    ·exact h2 (e ▸h3)
    ·exact h2 (E6 h3 e)
   ·by_cases h:qcj l[b] l[a]
    ·have:¬qcj l[a] l[b]:=λh2=>qd2 _ (E6 h h2)
     have h3:ltOf (qlo l) a b=false:=by rw[qG3,ne_eq,tY];exact this
     rw[h3];simp
    ·have h3:ltOf (qlo l) b a=false:=by rw[qG3,ne_eq,tY];exact h
     rw[h3];simp
  have h2:l'.Nodup:=hperm.nodup_iff.2 (List.nodup_finRange _);unfold Fh;rw[qHF];refine(h1.and h2).imp λ{x y} h=>?_
  have h3:=h.1;simp only[qHn,qG3,ne_eq,tY]at h3;rcases Ny h3 with e|e
  ·exact absurd (hndi _ _ e).symm h.2
  ·exact e
 have hmem:∀m,m∈ (l'.map λi=>l[i]) ↔m∈l:=λm=>by
  have:=(hperm.map λi=>l[i]).mem_iff (a:=m);rwa [qod]at this
 have hK':=hK (l'.map λi=>l[i]) ⟨hsort,by simp[A],hmem⟩;rw[hll]at hK';generalize hH2:ai H id (some (.row (.slice (some ⟨gb,0,none⟩) l.length cap) el 3 ((l'.map λi=>l[i]).map enc)))=H2 at hK';have hown2:∀b,bA H2 b->bA H b:=λb ⟨i,r,h1,h2⟩=>by
  rw[<-hH2]at h1;simp only[ai]at h1;split at h1
  ·cases h1;cases h2;exact S
  ·exact⟨i,r,h1,h2⟩
 have hmove:∀y c,R tp (aR O tp H w) w y c->R tp (aR O tp H2 w') w' y c:=λy c hr=>hr.mono (λ_ h=>h) (λb hb=>⟨⟨qFX hb.1 hws,hb.2.1,hb.2.2.1,λh=>hb.2.2.2 (hown2 b h)⟩,hwo b hb.1 (λe=>hb.2.2.2 (e ▸S))⟩) U
 have F:∀i r,H2 i=some r->(i=id/\r= .row (.slice (some ⟨gb,0,none⟩) l.length cap) el 3 ((l'.map λi=>l[i]).map enc))\/(i≠id/\H i=some r):=λi r h=>by
  rw[<-hH2]at h;simp only[ai]at h;split at h
  ·rename_i e;cases h;exact .inl ⟨e,rfl⟩
  ·rename_i e;exact .inr ⟨e,h⟩
 refine⟨_,_,H2,tp,rfl,hK',λb h=>h,λb h=> .inl h,λb hb=>qFX (htl.1 b hb) hws,⟨hos.1,hos.2.1,hos.2.2.1,hws,λb hb ho ht=>hwo b hb (λe=>ho (e ▸S)),U,λ_=>hos.2.2.2⟩,λb h=> .inl (hown2 b h),⟨?_,?_,?_⟩, .tup [] [] rfl (λk x c h=>by simp at h)⟩
 ·intro i j r s b h1 h2 h3 h4;rcases F i r h1 with⟨rfl,rfl⟩|⟨n1,k1⟩
  ·rcases F j s h2 with⟨rfl,rfl⟩|⟨n2,k2⟩
   ·rfl
   ·exact p.dis _ j _ s b C k2 h3 h4
  ·rcases F j s h2 with⟨rfl,rfl⟩|⟨n2,k2⟩
   ·exact p.dis i _ r _ b k1 C h3 h4
   ·exact p.dis i j r s b k1 k2 h3 h4
 ·intro i r b h1 h2;rcases F i r h1 with⟨rfl,rfl⟩|⟨n1,k1⟩
  ·exact p.out _ _ b C h2
  ·exact p.out i r b k1 h2
 ·intro i r h1;rcases F i r h1 with⟨rfl,rfl⟩|⟨n1,k1⟩
  ·have Q:=K6 (f:=JO xs l.length) (n:=3) (l:=l') (λx _=>q x);have hps:(putCells _root_.id 0 (flatK (JO xs l.length) 3 l'.toArray) cur).size=cur.size:=by simp[putCells]
   refine⟨l'.flatMap (JO xs l.length),⟨by simp;rw[<-List.length_flatMap];exact Q, .inr ⟨gb,cap,_,by simp[A],qF3 _,hthis,by simp;omega,hcapm,by rw[hps,hsz],?_⟩⟩,λd hd=>?_,λj y c h1 h2=>?_⟩
   ·simp only[qGq,A];apply qGo;intro j;rw[qF2];by_cases Y:j<l.length*3
    ·have hjc:j<cur.size:=by
      have:l.length*3<=cap*3:=qF7 3 hcap;omega
     have hjf:j<(flatK (JO xs l.length) 3 l'.toArray).size:=by simp[A];exact Y
     rw[if_pos Y,qF4,<-BM (JO xs l.length) 3 q l',qF4];simp only[putCells,Array.getElem?_mapIdx,qGj hjc,qHd,qF3,qGs,hjf,and_self,if_true,Nat.sub_zero,id_eq];rw[qGj hjf,getElem!_pos _ j hjf]
    ·rw[if_neg Y,qF0 (by rw[Q,A];omega)]
   ·obtain⟨z,_,rfl⟩:=qFQ.1 hd;exact⟨Cod.kn z,Cod.wid z⟩
   ·have ht:j<l'.length*3:=by rw[<-Q];exact(qFG.1 h1).1
    have hm:j % 3< 3:=qG8 _ (by decide);have hdm:j=(j/3) *3+j % 3:=by have:=qG1 j 3;omega
    have hq:j/3<l'.length:=by omega
    have h5:=V9 (f:=JO xs l.length) (n:=3) (l:=l') (λx _=>q x) (i:=j/3) hm;rw[<-hdm,h1,qFH hq,qF1,Wg W _ hm]at h5;rw[hdm,dY (λd hd=>by obtain⟨z,_,rfl⟩:=qFQ.1 hd;exact Cod.wid z) hm,qFU,qFU,qFH hq]at h2;obtain⟨a1,a2⟩:=u (l'[j/3]).val (j % 3) y c (l'[j/3]).isLt hm h5.symm l[l'[j/3]] (by simp) h2;exact⟨a1,hmove _ _ a2⟩
  ·have hne:∀b,r.blk=some b->b≠gb:=λb hb e=>n1 (p.dis i id r _ gb k1 C (e ▸hb) hbo)
   exact(p.ok i r k1).conv hmove (λb hb=>hwo b ((p.ok i r k1).lt hb) (hne b hb))
end
end
section
open Go.Proofs
def vg:CC:=gq Tryz.f93 [1] { bx:=[7] } _
def uB:List aj:=[.tmp 2]
def MT:FO xb [1] vg uB 8:=fo
def jU:CC:=gq Tryz.f62 [2] { bx:=[1,31],cu:=[1] } _
def jI:List aj:=[.tmp 4]
def CA:FO ct [2] jU jI 34:=fo
def jT:CC:=gq Tryz.f63 [2] { bx:=[1,24] } _
def jH:List aj:=[.tmp 4]
def Cz:FO dK [2] jT jH 27:=fo
def xJ:CC:=gq Tryz.f114 [1,2002002] {} _
def wC:List aj:=[.cell 2 true 13]
def Pl:FO tJ [1,2002002] xJ wC 11:=fo
def vd:CC:=gq Tryz.f178 [1,2021003,1020020] {} _
def uz:List aj:=[.cell 2 true 7]
def MR:FO lN [1,2021003,1020020] vd uz 24:=fo
def ed:CC:=gq Tryz.f61 [1] { bx:=[41] } _
def dW:List aj:=[.tmp 2]
def rW:FO eX [1] ed dW 44:=fo
def iM:CC:=gq Tryz.f109 [1] {} _
def iz:List aj:=[.tmp 2]
def AB:FO dL [1] iM iz 7:=fo
def gQ:CC:=gq Tryz.f28 [2] { bx:=[17,20],fz:=[(17,1),(20,13)] } _
def gE:List aj:=[.tmp 4]
def yp:FO eB [2] gQ gE 49:=fo
def gP:CC:=gq Tryz.f68 [3] {} _
def gD:List aj:=[.tmp 6]
def yo:FO eA [3] gP gD 33:=fo
def az:CC:=gq Tryz.f124 [3] {} _
def ay:List aj:=[.tmp 6]
def wP:FO gM [3] az ay 115:=fo
def zP:CC:=gq Tryz.f66 [1] {} _
def yZ:List aj:=[.tmp 2]
def RM:FO qV [1] zP yZ 11:=fo
def kb:CC:=gq Tryz.f120 [1] {} _
def jY:List aj:=[.tmp 2]
def FT:FO qU [1] kb jY 58:=fo
def iN:CC:=gq Tryz.f67 [1] {} _
def iA:List aj:=[.tmp 2]
def DQ:FO nO [1] iN iA 22:=fo
def bN:CC:=gq Tryz.f65 [] {} _
def bL:List aj:=[.tmp 4]
def iS:FO aY [] bN bL 9:=fo
def cy:CC:=gq Tryz.f119 [] {} _
def cn:List aj:=[.tmp 4]
def lE:FO cN [] cy cn 19:=fo
open Cod (enc dec)
variable {S S0:Nat->Spc}
def Oe{b:Type}{l:List b}{k:Nat}{a:b}{P:b->Prop}(h:∀x∈l.take k,P x)(c:l[k]? =some a)(hp:P a):∀x∈l.take (k+1),P x:=by
 rw[av c];intro x hx;rcases qFL.1 hx with hx|hx
 ·exact h x hx
 ·simp at hx;subst hx;exact hp
def qsK{X:Type}(m:X->Nat)(n:Nat)(x:X):Prop:=m x<=n
abbrev qdq(n:Nat):Spc:=aG (a2 Cond Cond) (qsK (λx=>dB x.1) n) (enc (X:=Bool)) λx y=>(y=true↔x.1=x.2)
def qle{a b:Cond}(h1:a.op=b.op)(h2:a.name=b.name)(h3:a.arg=b.arg)(h4:a.val=b.val)(h5:a.lab=b.lab)(h6:a.fold=b.fold)(c:a.kids=b.kids):a=b:=by
 cases a;cases b;simp only at*;subst h1;subst h2;subst h3;subst h4;subst h5;subst h6;subst c;rfl
theorem qa4(n:Nat)(h1:S wW=qdq n):ak ED DA S (a2 Cond Cond) (qsK (λx=>dB x.1) (n+1)) (enc (X:=Bool)) λx y=>(y=true↔x.1=x.2):=by
 rintro⟨a,b⟩ hn;have hn:dB a<=n+1:=hn;have c:∀k∈a.kids,∀y,qsK (λx:Cond×Cond=>dB x.1) n (k,y):=λk hk y=>by have:=Qx hk;show dB k<=n;omega
 simp[ED,DA];refine⟨λA=>⟨λC=>⟨λE=>⟨λF=>⟨λI=>⟨λJ _ _=>⟨λh e=>h (by rw[e]),λhl _=>?_⟩,λh e=>h (by rw[e])⟩,λh e=>h (by rw[e])⟩,λh e=>h (by rw[e])⟩,λh e=>h (by rw[e])⟩,λh e=>h (by rw[e])⟩,λh e=>h (by rw[e])⟩;refine ah (X:=Unit) [2,3] [] a.kids.length (λk _=>a.kids.take k=b.kids.take k) (λ_=>[]) (λ_=>[]) () (by simp) ?_ ?_
 ·rintro k -hk p;obtain⟨x,d⟩:=aQ hk;obtain⟨y,j⟩:=aQ (l:=b.kids) (k:=k) (by omega);have q:=aU d;obtain⟨_,s⟩:=qFG.1 d;obtain⟨_,t⟩:=qFG.1 j;simp[h1,hk,d,j,s,t,c x q,-fB'];refine⟨by omega,λr u=>⟨λw e=>?_,λK=>?_⟩⟩
  ·subst e;rw[d]at j;cases j;rw[u.2 rfl]at w;cases w
  ·rw[av d,av j,p,u.1 K]
 ·rintro -p;simp;have L:a.kids=b.kids:=by
   rw[qGD (by omega),qGD (by omega)]at p;exact p
  exact qle A C E F I J L
abbrev LN:Spc:=aG (a2 Pat Int) (λ_=>True) (enc (X:=Bool)) λx y=>y=(decide (x.2<=100) && qC x.1)
abbrev qdr:Spc:=aG (a2 Cond Cond) (λ_=>True) (enc (X:=Bool)) λx y=>(y=true↔x.1=x.2)
def Xj(h1:S wW=qdr):ak B4 A4 S (a2 Pat Int) (λ_=>True) (enc (X:=Bool)) λx y=>y=(decide (x.2<=100) && qC x.1):=by
 rintro⟨p,d⟩ -;simp[B4,A4,h1,-fB'];clear h1;refine⟨λh c=>absurd h (by omega),λb y a=>?_⟩;have a:y=true↔p.cond=Cond0:=a;rw[decide_eq_true b,qHl];revert a;revert y
 repeat' first|apply And.intro|intro _
 all_goals (rw[qGg,vX];unfold xY;simp_all;try omega)
abbrev Yp(n:Nat):Spc:=aG (a2 Pat Int) (λx=>cg x.1<=n/\0<=x.2/\x.2<=101) (enc (X:=Bool)) λx y=>y=(cm x.1 x.2 && cx qC x.1)
theorem Uc(n:Nat)(h1:S Ec=LN)(h2:S qN=Yp n):ak zF yP S (a2 Pat Int) (λx=>cg x.1<=n+1/\0<=x.2/\x.2<=101) (enc (X:=Bool)) λx y=>y=(cm x.1 x.2 && cx qC x.1):=by
 rintro⟨p,d⟩ ⟨hn,q,r⟩;have c:∀k∈p.kids,cg k<=n:=λk hk=>by have:=fT hk;have:cg p<=n+1:=hn;omega
 simp only at q r;simp[zF,yP,h1];rw[ld,cZ];refine⟨λh=>?_,λu s _=>?_⟩
 ·simp only[qFO,decide_eq_true_eq];intro h1;rw[h h1.1,Bool.false_and]
 refine ah (X:=Unit) [1,12] [] p.kids.length (λk _=>∀x∈p.kids.take k,(cm x (d+1) && cx qC x)=true) (λ_=>[]) (λ_=>[]) () (by simp) ?_ ?_
 ·rintro k -hk j;obtain⟨x,a⟩:=aQ hk;have b:=aU a;obtain⟨_,t⟩:=qFG.1 a;have w:=c x b;simp[h2,hk,a,t,w,-fB'];refine⟨by simp only[InR];omega,by omega,λA _ l _=>⟨x,b,A (l x b)⟩,λt1 C=>?_⟩;have:=Oe (P:=λx=>(cm x (d+1) && cx qC x)=true) j a (by simp[t1,C]);simpa using this
 ·rintro -j;simp;simp at j;simp[s,u];exact⟨λx a=>(j x a).1,λx a=>(j x a).2⟩
abbrev qdu(n:Nat):Spc:=aG (a1 Pat) (λx=>cg x<=n) (enc (X:=Bool)) λx y=>y=cx (nI aB) x
theorem Xk(n:Nat)(h1:S cD=wn)(h2:S uc=qdu n):ak B5 A5 S (a1 Pat) (λx=>cg x<=n+1) (enc (X:=Bool)) λx y=>y=cx (nI aB) x:=by
 rintro p hn;have a:∀k∈p.kids,cg k<=n:=λk hk=>by have:=fT hk;have:cg p<=n+1:=hn;omega
 simp[B5,A5,h1];refine aS (X:=Unit) [1] [] (λ_=>nI aB p=true) (λ_=>[]) (λ_=>[]) ?_ ?_
 ·simp[h1,nI];rw[cZ];unfold nI
  repeat' first|apply And.intro|intro _
  all_goals (first|omega|simp_all;try omega)
 rintro -h;rw[cZ];simp;intro _;refine ah (X:=Unit) [31] [] p.kids.length (λk _=>∀x∈p.kids.take k,cx (nI aB) x=true) (λ_=>[]) (λ_=>[]) () (by simp) ?_ ?_
 ·rintro k -hk c;obtain⟨x,d⟩:=aQ hk;have b:=aU d;obtain⟨_,j⟩:=qFG.1 d;have l:=a x b;simp[h2,hk,d,j,l,-fB'];exact⟨λq _=>⟨x,b,q⟩,λr=>Oe c d r⟩
 ·rintro -c;simp;simp at c;rw[h];simpa using c
abbrev Sv(n:Nat):Spc:=aG (a1 Pat) (λx=>cg x<=n) (enc (X:=Bool)) λx y=>y=cx lF x
theorem Q4(n:Nat)(h2:S nL=Sv n):ak xy wu S (a1 Pat) (λx=>cg x<=n+1) (enc (X:=Bool)) λx y=>y=cx lF x:=by
 rintro p hn;have a:∀k∈p.kids,cg k<=n:=λk hk=>by have:=fT hk;have:cg p<=n+1:=hn;omega
 simp[xy,wu];refine aS (X:=Unit) [1] [] (λ_=>lF p=true) (λ_=>[]) (λ_=>[]) ?_ ?_
 ·simp[lF];rw[cZ];unfold lF
  repeat' first|apply And.intro|intro _
  all_goals (first|omega|(rw[qGg];simp;omega))
 rintro -h;rw[cZ];simp;intro _;refine ah (X:=Unit) [36] [] p.kids.length (λk _=>∀x∈p.kids.take k,cx (lF) x=true) (λ_=>[]) (λ_=>[]) () (by simp) ?_ ?_
 ·rintro k -hk c;obtain⟨x,d⟩:=aQ hk;have b:=aU d;obtain⟨_,j⟩:=qFG.1 d;have l:=a x b;simp[h2,hk,d,j,l,-fB'];exact⟨λq _=>⟨x,b,q⟩,λr=>Oe c d r⟩
 ·rintro -c;simp;simp at c;rw[h];simpa using c
def qD{a b A B:Int}(h0:0<=a)(h1:a<=A)(h2:0<=b)(h3:b<=B):0<=a*b/\a*b<=A*B:=⟨qHh h0 h2,Int.mul_le_mul h1 h3 h2 (by omega)⟩
def PPat(n:Nat)(p:Pat):Prop:=cg p<=n/\fy aB p=true
def PPat.kid{n:Nat}{p k:Pat}(h:PPat (n+1) p)(hk:k∈p.kids):PPat n k:=by
 have h1:=fT hk;have h2:=h.1;exact⟨by omega,dX h.2 hk⟩
abbrev cB:Spc:=aG (a1 Pat) (λ_=>True) (enc (X:=Bool)) λx y=>y=fy aB x
abbrev Sr:Spc:=aG (a2 Pat Int) (λx=>0<=x.2/\x.2<=101) (enc (X:=Bool)) λx y=>y=(cm x.1 x.2 && cx qC x.1)
abbrev Yr:Spc:=aG (a1 Pat) (λ_=>True) (enc (X:=Bool)) λx y=>y=cx (nI aB) x
abbrev OF:Spc:=aG (a1 Pat) (λ_=>True) (enc (X:=Bool)) λx y=>y=cx lF x
def Ml(h1:S qN=Sr)(h2:S uc=Yr)(h3:S nL=OF):ak sZ sj S (a1 Pat) (λ_=>True) (enc (X:=Bool)) λx y=>y=fy aB x:=by
 rintro p -;simp[sZ,sj,h1,h2,h3,fy,-fB'];clear h1 h2 h3;refine⟨λh1 h2=>⟨λh3 _=>⟨⟨h1,h2⟩,h3⟩,λh3 _ _ h4=>absurd h4 (by rw[h3];simp)⟩,λh h1 h2=>absurd h2 (by rw[h h1];simp)⟩
abbrev UW(n:Nat):Spc:=aG (a1 Pat) (PPat n) (enc (X:=Int)) λx y=>y=fM x
theorem qa2(n:Nat)(h1:S wU=UW n):ak EA Dx S (a1 Pat) (PPat (n+1)) (enc (X:=Int)) λx y=>y=fM x:=by
 rintro p hp;have hk:∀k∈p.kids,PPat n k:=λk=>hp.kid
 have hs:∀k∈p.kids,0<=fM k/\fM k<=1000:=λk h=>Sn (v:=aB) k (hk k h).2
 simp[EA,Dx];intro _;refine⟨λh=>by rw[pR,Dr,if_pos h],λh0 _=>?_⟩;refine ah (X:=Int) [1,11] [] p.kids.length (λk n=>n=eP (p.kids.take k) 0) (λn=>[(3,enc n)]) (λ_=>[]) 0 (by simp[eP]) ?_ ?_
 ·rintro k m b a;obtain⟨x,d⟩:=aQ b;have c:=aU d;obtain⟨_,j⟩:=qFG.1 d;have hm:=rZ (p.kids.take k) 0 (by omega) (by omega) (λy l=>(hs y (qF6 l)).1);have h2:=hs x c;rw[<-a]at hm;have r:=hk x c;simp[h1,b,d,j,r];refine⟨by simp only[InR];omega,?_⟩;rw[av d,Ow,<-a,eP,eP]
 ·rintro m a;have hm:=rZ (p.kids.take p.kids.length) 0 (by omega) (by omega) (λy l=>(hs y (qF6 l)).1);rw[<-a]at hm;rw[qFY]at a;have hn:=(cH hp.2).2.2;unfold lF at hn;rw[decide_eq_true_eq]at hn;rw[pR,Dr,if_neg h0,<-a];simp;refine⟨λh6=>?_,λh6=>?_⟩
  ·have hn:=hn h6;simp only[h6,if_true];refine⟨λe=>?_,λe=>⟨λq=>?_,λq=>?_⟩⟩
   ·have h1:max 1 (p.mn+1)=p.mn+1:=by omega
    have h2:=qD hm.1 hm.2 (show 0<=p.mn+1 by omega) (show p.mn+1<=17 by omega);rw[h1,if_pos e];exact⟨by simp only[InR];omega,by simp only[InR];omega,rfl⟩
   ·rw[if_neg e,if_pos q];omega
   ·have h2:=qD hm.1 hm.2 (show 0<=p.mx by omega) (show p.mx<=16 by omega);rw[if_neg e,if_neg q];exact⟨by simp only[InR];omega,rfl⟩
  ·simp only[h6,if_false];omega
abbrev Nq(n:Nat):Spc:=aG (a1 Pat) (PPat n) (kZ (Y:=Int) (Z:=Int)) λx y=>y=aO x
theorem Xi(n:Nat)(h1:S iU=Nq n):ak mH mu S (a1 Pat) (PPat (n+1)) (kZ (Y:=Int) (Z:=Int)) λx y=>y=aO x:=by
 rintro p hp;have hk:∀k∈p.kids,PPat n k:=λk=>hp.kid
 have hs:∀k∈p.kids,dG (aO k):=λk h=>tu (v:=aB) k (hk k h).2
 have hn:=(cH hp.2).2.2;unfold lF at hn;rw[decide_eq_true_eq]at hn;rcases mA (cH hp.2).1 with⟨ho,_⟩|⟨ho,_⟩|⟨ho,q,ks,c⟩|⟨ho,q,c⟩
 ·simp[mH,mu,h1,ho,Xf ho]
 ·have:=qda ho;rcases ho with ho|ho<;>simp[mH,mu,h1,ho,this]
 ·have hc:p.op≠1/\p.op≠2/\p.op≠3/\p.op≠6:=by omega
  simp[mH,mu,h1,hc,kZ];intro _;refine ah (X:=Int×Int) [1,55] [] p.kids.length (λk w=>(k=0->w=(0,0))/\(0<k->w=gw (decide (p.op=4)) (ks.take (k -1)) (aO q))/\dG w) (λw=>[(6,enc w.1),(7,enc w.2)]) (λ_=>[]) (0,0) (by simp[dG]) ?_ ?_
  ·rintro k w C ⟨E,J,t⟩;obtain⟨x,A⟩:=aQ C;have F:=aU A;obtain⟨_,K⟩:=qFG.1 A;have L:=hk x F;have d:=hs x F;have key:(0<k->∀r:Int×Int,r=Fl (decide (p.op=4)) w (aO x)->r=gw (decide (p.op=4)) (ks.take (k+1 -1)) (aO q)/\dG r)/\(k=0->∀r:Int×Int,r=aO x->r=gw (decide (p.op=4)) (ks.take (k+1 -1)) (aO q)/\dG r):=by
    refine⟨λh0 r I=>?_,λh0 r I=>?_⟩
    ·obtain⟨j,rfl⟩:∃j,k=j+1:=⟨k -1,by omega⟩
     rw[c,qHk]at A;rw[qHV,av A,Sb,gw,gw];have e:=J h0;rw[qHV]at e;rw[<-e];exact⟨I,by rw[I];exact TW t d⟩
    ·subst h0;rw[c,qHE]at A;cases A;exact⟨by rw[I];rfl,by rw[I];exact d⟩
   simp[h1,C,A,K,L,kZ];clear h1;have fin:∀a b:Int,(0<k->(a,b)=Fl (decide (p.op=4)) w (aO x))->(k=0->(a,b)=aO x)->((a,b)=gw (decide (p.op=4)) (List.take k ks) (aO q)/\dG (a,b)):=by
    intro a b f1 O;rcases qGZ k with h|h
    ·exact key.2 h _ (O h)
    ·exact key.1 h _ (f1 h)
   clear key;generalize aO x=u at d fin;obtain⟨U,W⟩:=u;obtain⟨w1,w2⟩:=w;unfold dG at d t;simp only at d t;simp only[qHY]at E;refine⟨λh4=>⟨by simp only[InR];omega,λl=>⟨λs=>fin _ _ (λ_=>?_) (λh=>?_),λs=>⟨by simp only[InR];omega,fin _ _ (λ_=>?_) (λh=>?_)⟩⟩,λl=>fin _ _ (λ_=>?_) (λh=>?_)⟩,λh4=>⟨λh0=>fin _ _ (λh=>absurd h (by omega)) (λh=>rfl),λh0=>⟨λl=>⟨λs=>fin _ _ (λ_=>?_) (λh=>absurd h h0),λs=>fin _ _ (λ_=>?_) (λh=>absurd h h0)⟩,λl=>fin _ _ (λ_=>?_) (λh=>absurd h h0)⟩⟩⟩
   all_goals (try simp only at l)
   all_goals (try simp only at s)
   all_goals first|(have hw:=E h;simp only[qHY];omega)|(unfold Fl;simp[h4,l,s];done)|(unfold Fl;simp[h4,l];done)|(unfold Fl;simp[h4];omega)
  ·rintro w ⟨_,Q,_⟩;simp[kZ];rw[qc9 ho c];have:=Q (by rw[c];simp);rw[c,qGn,qHV,qFY]at this;rw[<-this]
 ·have L:=hk q (by rw[c];simp);have d:=hs q (by rw[c];simp);have hn:=hn ho;simp[mH,mu,h1,ho,c,L,kZ];rw[qc8 ho c];generalize aO q=w at d;unfold dG at d;have h2:=qD d.1 d.2.1 hn.1 hn.2.1;refine⟨λl=>⟨λs=>⟨by simp only[InR];omega,by rw[if_pos (.inr s)]⟩,λs=>⟨λM=>⟨λN=>⟨by simp only[InR];omega,?_⟩,λN=>?_⟩,λM=>⟨by simp only[InR];omega,?_⟩⟩⟩,λl=>⟨by simp only[InR];omega,by rw[if_pos (.inl l)]⟩⟩
  ·rw[if_neg (by omega),if_pos (.inr N)]
  ·have h3:=qD (show 0<=w.2 by omega) d.2.2.2 (show 0<=p.mx by omega) (show p.mx<=16 by omega);refine⟨by simp only[InR];omega,by simp only[InR];omega,?_⟩;rw[if_neg (by omega),if_neg (by omega)]
  ·rw[if_neg (by omega),if_pos (.inl M)]
abbrev SY:D:= .v (.slice none 0 0)
def qmh(x:Pat)(l:List Pat):Prop:=l.length+ (aq x).length<=100000000
abbrev Zy(n:Nat):Spc:=qmu (X:=Pat) (Y:=Pat) (λx l=>cg x<=n/\qmh x l) (λx l r=>r=l++aq x) aC 13
abbrev i_leavesA:Spc:=qmu (X:=Pat) (Y:=Pat) (λx l=>qmh x l) (λx l r=>r=l++aq x) aC 13
def qjL{ks:List Pat}{k:Nat}{x:Pat}(l:List Pat)(a:ks[k]? =some x):(l++ (ks.take k).flatMap aq) ++aq x=l++ (ks.take (k+1)).flatMap aq:=by
 rw[av a,qHS,List.flatMap_singleton,qGO]
def qch{ks:List Pat}{k:Nat}{x:Pat}{l:List Pat}(a:ks[k]? =some x)(h:l.length+ (ks.flatMap aq).length<=100000000):qmh x (l++ (ks.take k).flatMap aq):=by
 have:ks=ks.take k++x::ks.drop (k+1):=by rw[<-bw a,qGf]
 rw[this]at h;simp only[qHS,qGk,qGa]at h;unfold qmh;rw[qGa];omega
theorem Ud(n:Nat)(h1:S jp=Zy n):QI (X:=Pat) (Y:=Pat) nR nF S (λx l=>cg x<=n+1/\qmh x l) (λx l r=>r=l++aq x) aC 13:=by
 rintro v l p ⟨hp,hl⟩;have hk:∀k∈p.kids,cg k<=n:=λk hk=>by have:=fT hk;have:cg p<=n+1:=hp;omega
 have a:=hl;unfold qmh at a;rw[bc]at a;simp[nR,nF];refine⟨λh1=>⟨by simp[h1]at a;omega,by simp[h1]at a;omega,λv=>dI (l++aq p) (by simp[bc,h1]) rfl⟩,λb _=>?_⟩;rw[if_neg b]at a;refine ah (X:=Value×List Pat) [15] [] p.kids.length (λk x=>x.2=l++ (p.kids.take k).flatMap aq) (λx=>[(1, .own 1 x.1)]) (λx=>[(1, .row x.1 aC 13 (x.2.map enc))]) (v,l) (by simp) ?_ ?_ (hh:=by simp[isNilRow])
 ·rintro k ⟨v,m⟩ c hm;simp only at hm;obtain⟨x,d⟩:=aQ c;have h:=aU d;obtain⟨_,j⟩:=qFG.1 d;have q:=qch d a;rw[<-hm]at q;have s:=hk x h;simp[h1,c,d,j,q,s];intro v';refine .inl ?_;rw[hm,qjL _ d]
 ·rintro⟨v,m⟩ hm;simp only at hm;rw[qFY]at hm;simp;refine dI m (by simp) ?_;rw[hm,bc,if_neg b]
abbrev qkC:Spc:=qrR (Y:=Pat) (aE Pat (aD a0)) (λx=>x.2.1=SY/\qmh x.1 []) (λx r=>r=aq x.1) aC 13
theorem Q5(h1:S jp=i_leavesA):TN (Y:=Pat) nR nF S (aE Pat (aD a0)) (λx=>x.2.1=SY/\qmh x.1 []) (λx r=>r=aq x.1) aC 13:=by
 rintro⟨p,d,⟨⟩⟩ ⟨j,hl⟩;have j:d=SY:=j;subst j;have a:([]:List Pat).length+ (aq p).length<=100000000:=hl;rw[bc]at a;simp[nR,nF];refine⟨λh1 v=>dI (aq p) (by simp[bc,h1]) rfl,λb _=>?_⟩;rw[if_neg b]at a;refine ah (X:=Value×List Pat) [15] [] p.kids.length (λk x=>x.2=[] ++ (p.kids.take k).flatMap aq) (λx=>[(1, .own 1 x.1)]) (λx=>[(1, .row x.1 aC 13 (x.2.map enc))]) (.slice none 0 0, []) (by simp) ?_ ?_ (hh:=by simp[isNilRow])
 ·rintro k ⟨v,m⟩ c hm;simp only at hm;obtain⟨x,h⟩:=aQ c;have s:=aU h;obtain⟨_,l⟩:=qFG.1 h;have q:=qch h a;rw[<-hm]at q;simp[h1,c,h,l,q];intro v';refine .inl ?_;rw[hm,qjL _ h];rfl
 ·rintro⟨v,m⟩ hm;simp only at hm;rw[qFY]at hm;simp;refine dI m (by simp) ?_;rw[hm,bc,if_neg b];rfl
abbrev s_leaves:Spc:=qrn qkC i_leavesA
abbrev Il:Spc:=aG (a1 Pat) (λx=>(aq x).length<=100000000) (enc (X:=List Pat)) λx y=>y=if fy aB x then aq x else[]
def Ue(h1:S dT=cB)(h2:S jp=s_leaves):ak zG yQ S (a1 Pat) (λx=>(aq x).length<=100000000) (enc (X:=List Pat)) λx y=>y=if fy aB x then aq x else[]:=by
 rintro p hp;have a:qmh p []:=by unfold qmh;simpa using hp
 simp[zG,yQ,h1,h2,-fB'];clear h1 h2;exact⟨λh=>aL [] (by simp) (by rw[h];rfl),λh=> .inl ⟨a,λv=>aL (aq p) (fA aC (by simp)) (by rw[h];rfl)⟩⟩
abbrev EU:Spc:=aG (a1 Pat) (λx=>fy aB x=true) (enc (X:=Int)) λx y=>y=fM x
abbrev Gn:Spc:=aG (a1 Pat) (λ_=>True) (enc (X:=Int)) λx y=>y=if fy aB x then fM x else 0
def qa3(h1:S dT=cB)(h2:S wU=EU):ak EC Dz S (a1 Pat) (λ_=>True) (enc (X:=Int)) λx y=>y=if fy aB x then fM x else 0:=by
 rintro p -;simp[EC,Dz,h1,h2,-fB'];exact⟨λh1 h2=>absurd (h1.symm.trans h2) (by simp),λh1=>⟨h1,λh2=>absurd (h2.symm.trans h1) (by simp)⟩⟩
abbrev Ih:Spc:=aG (a1 Pat) (λx=>fy aB x=true) (kZ (Y:=Int) (Z:=Int)) λx y=>y=aO x
abbrev EY:Spc:=aG (a1 Pat) (λ_=>True) (kZ (Y:=Int) (Z:=Int)) λx y=>y=if fy aB x then aO x else(0,0)
def Xl(h1:S dT=cB)(h2:S iU=Ih):ak B6 A6 S (a1 Pat) (λ_=>True) (kZ (Y:=Int) (Z:=Int)) λx y=>y=if fy aB x then aO x else(0,0):=by
 rintro p -;simp[B6,A6,h1,h2,kZ,-fB'];exact⟨λh1 h2=>absurd (h1.symm.trans h2) (by simp),λh1=>⟨h1,λh2=>absurd (h2.symm.trans h1) (by simp)⟩⟩
abbrev qh8:Spc:=aG (a1 Cond) (λ_=>True) (enc (X:=Bool)) λx y=>(y=true↔x=Cond0)
def Ul:ak zM yW S (a1 Cond) (λ_=>True) (enc (X:=Bool)) λx y=>(y=true↔x=Cond0):=by
 rintro⟨op,n,a,v,l,f,ks⟩ -;simp[zM,yW,Cond0]
 repeat' first|apply And.intro|intro _
 all_goals simp_all
abbrev UY:Spc:=aG (a1 Pat) (λ_=>True) (enc (X:=Bool)) λx y=>y=qC x
def Uo(h1:S BU=qh8):ak zO yY S (a1 Pat) (λ_=>True) (enc (X:=Bool)) λx y=>y=qC x:=by
 rintro p -;simp[zO,yY,h1,-fB'];clear h1
 repeat' first|apply And.intro|intro _
 all_goals (rw[qGg,vX];unfold xY;simp_all;try omega)
abbrev EW:Spc:=aG (a1 Pat) (λ_=>True) (enc (X:=Bool)) λx y=>y=nI aB x
def Rb(h1:S bO=wn):ak xH wA S (a1 Pat) (λ_=>True) (enc (X:=Bool)) λx y=>y=nI aB x:=by
 rintro p -;simp[xH,wA,h1,nI,-fB'];clear h1
 repeat' first|apply And.intro|intro _
 all_goals (first|omega|simp_all;try omega)
abbrev Aq:Spc:=aG (a1 Pat) (λ_=>True) (enc (X:=Bool)) λx y=>y=lF x
def NQ:ak uZ uy S (a1 Pat) (λ_=>True) (enc (X:=Bool)) λx y=>y=lF x:=by
 rintro p -;simp[uZ,uy,lF]
 repeat' first|apply And.intro|intro _
 all_goals (first|omega|(rw[qGg];simp;omega))
theorem Um(n:Nat)(h1:S gK=UW n):ak zN yX S (a1 Pat) (PPat (n+1)) (enc (X:=Int)) λx y=>y=fM x:=by
 rintro p hp;have hk:∀k∈p.kids,PPat n k:=λk=>hp.kid
 have hs:∀k∈p.kids,0<=fM k/\fM k<=1000:=λk h=>Sn (v:=aB) k (hk k h).2
 simp[zN,yX];intro _;refine ah (X:=Int) [1,7] [] p.kids.length (λk n=>n=eP (p.kids.take k) 0) (λn=>[(3,enc n)]) (λ_=>[]) 0 (by simp[eP]) ?_ ?_
 ·rintro k m b a;obtain⟨x,d⟩:=aQ b;have c:=aU d;obtain⟨_,j⟩:=qFG.1 d;have hm:=rZ (p.kids.take k) 0 (by omega) (by omega) (λy l=>(hs y (qF6 l)).1);have h2:=hs x c;rw[<-a]at hm;have q:=hk x c;simp[h1,b,d,j,q];refine⟨by simp only[InR];omega,?_⟩;rw[av d,Ow,<-a,eP,eP]
 ·rintro m a;have hm:=rZ (p.kids.take p.kids.length) 0 (by omega) (by omega) (λy l=>(hs y (qF6 l)).1);rw[<-a]at hm;rw[qFY]at a;have hn:=(cH hp.2).2.2;unfold lF at hn;rw[decide_eq_true_eq]at hn;rw[pR,Dr,<-a];simp;intro _;refine⟨λh=>λr=>absurd h r,λh0=>⟨λh6=>?_,λh6=>by rw[if_neg h0,if_neg h6]⟩⟩;rw[if_neg h0,if_pos h6];have hn:=hn h6;refine⟨λe=>by rw[if_neg (by omega),if_pos e],λe=>⟨λs=>?_,λs=>?_⟩⟩
  ·have h2:=qD hm.1 hm.2 (show 0<=p.mn+1 by omega) (show p.mn+1<=17 by omega);rw[if_pos (by omega)];exact⟨by simp only[InR];omega,by simp only[InR];omega,rfl⟩
  ·have h2:=qD hm.1 hm.2 (show 0<=p.mx by omega) (show p.mx<=16 by omega);rw[if_neg (by omega),if_neg e];exact⟨by simp only[InR];omega,rfl⟩
def Up(h1:S gZ=cB)(h2:S gK=EU):ak zQ za S (a1 Pat) (λ_=>True) (enc (X:=Int)) λx y=>y=if fy aB x then fM x else 0:=by
 rintro p -;simp[zQ,za,h1,h2,-fB'];exact⟨λh1 h2=>absurd (h1.symm.trans h2) (by simp),λh1=>⟨h1,λh2=>absurd (h2.symm.trans h1) (by simp)⟩⟩
def Rg(h1:S gZ=cB)(h2:S nM=Ih):ak xL wE S (a1 Pat) (λ_=>True) (kZ (Y:=Int) (Z:=Int)) λx y=>y=if fy aB x then aO x else(0,0):=by
 rintro p -;simp[xL,wE,h1,h2,kZ,-fB'];exact⟨λh1 h2=>absurd (h1.symm.trans h2) (by simp),λh1=>⟨h1,λh2=>absurd (h2.symm.trans h1) (by simp)⟩⟩
theorem Q8(n:Nat)(h1:S nM=Nq n):ak iL iy S (a1 Pat) (PPat (n+1)) (kZ (Y:=Int) (Z:=Int)) λx y=>y=aO x:=by
 rintro p hp;have hk:∀k∈p.kids,PPat n k:=λk=>hp.kid
 have hs:∀k∈p.kids,dG (aO k):=λk h=>tu (v:=aB) k (hk k h).2
 have hn:=(cH hp.2).2.2;unfold lF at hn;rw[decide_eq_true_eq]at hn;rcases mA (cH hp.2).1 with⟨ho,_⟩|⟨ho,_⟩|⟨ho,b,ks,a⟩|⟨ho,b,a⟩
 ·simp[iL,iy,h1,ho,Xf ho]
 ·have:=qda ho;rcases ho with ho|ho<;>simp[iL,iy,h1,ho,this]
 ·have hc:p.op≠1/\p.op≠2/\p.op≠3/\p.op≠6:=by omega
  have E:=hk b (by rw[a];simp);have c:=hs b (by rw[a];simp);simp[iL,iy,h1,hc,kZ,a,E];refine⟨by omega,λ_=>?_⟩;refine ah (X:=Int×Int) [1,69] [] ks.length (λk w=>w=gw (decide (p.op=4)) (ks.take k) (aO b)/\dG w) (λw=>[(6,enc w.1),(7,enc w.2)]) (λ_=>[]) (aO b) (by simp[gw,c]) ?_ ?_
  ·rintro k w l ⟨q,d⟩;obtain⟨x,A⟩:=aQ l;have s:x∈p.kids:=by rw[a];exact qHs _ (aU A)
   obtain⟨_,F⟩:=qFG.1 A;have L:=hk x s;have C:=hs x s;have key:∀r:Int×Int,r=Fl (decide (p.op=4)) w (aO x)->r=gw (decide (p.op=4)) (ks.take (k+1)) (aO b)/\dG r:=by
    intro r I;rw[av A,Sb,gw,gw,<-q];exact⟨I,by rw[I];exact TW d C⟩
   simp[h1,l,A,F,L,kZ];clear h1;generalize aO x=u at C key;obtain⟨N,O⟩:=u;obtain⟨Q,U⟩:=w;unfold dG at C d;simp only at C d;clear q;refine⟨λt=>⟨λh4=>⟨by simp only[InR];omega,by simp only[InR];omega,λj=>key _ ?_,λj=>key _ ?_⟩,λh4=>⟨λj=>key _ ?_,λj=>key _ ?_⟩⟩,λt=>⟨λh4=>⟨by simp only[InR];omega,by simp only[InR];omega,key _ ?_⟩,λh4=>key _ ?_⟩⟩
   all_goals clear key
   all_goals (try simp only at t)
   all_goals (try simp only at j)
   all_goals (unfold Fl;simp[h4];try omega)
  ·rintro w ⟨J,_⟩;simp[kZ];rw[qc9 ho a];rw[qFY]at J;rw[<-J]
 ·have E:=hk b (by rw[a];simp);have c:=hs b (by rw[a];simp);have hn:=hn ho;simp[iL,iy,h1,ho,a,E,kZ];rw[qc8 ho a];generalize aO b=w at c;unfold dG at c;have h2:=qD c.1 c.2.1 hn.1 hn.2.1;refine⟨by simp only[InR];omega,λt=>⟨λj=>by rw[if_pos (.inr j)],λj=>⟨λM=>⟨λK=>?_,λK=>?_⟩,λM=>?_⟩⟩,λt=>by rw[if_pos (.inl t)]⟩
  ·rw[if_neg (by omega),if_pos (by omega)]
  ·have h3:=qD K c.2.2.2 (show 0<=p.mx by omega) (show p.mx<=16 by omega);refine⟨by simp only[InR];omega,?_⟩;rw[if_neg (by omega),if_neg (by omega)]
  ·rw[if_neg (by omega),if_pos (by omega)]
def FunOnP{X Y:Type}[Cod X][Cod Y](S:Nat->Spc)(d:D)(l:List X)(p:X->Y):Prop:=
 ∃g caps a,d= .clo g caps/\S g= .pure a/\∀x∈l,a.pre (enc x::caps)/\∀r,a.post (enc x::caps) r->r=enc (p x)
def FunOnP.useB{X:Type}[Cod X]{S:Nat->Spc}{d:D}{l:List X}{p:X->Bool}(h:FunOnP S d l p)(x:X)(a:x∈l){k:Nat}{H:ab}{K:D->ab->Prop}(hk:∀y:Bool,(∀q,FunOnP S d l q->y=q x)->K (.v (.bool y)) H):EG S d k [enc x] H K:=by
 obtain⟨g,caps,A,rfl,h1,h2⟩:=h;simp only[EG,h1,Spc.pt];refine⟨(h2 x a).1,λr c=>?_⟩;have e:=(h2 x a).2 r c;rw[e];refine hk (p x) λq s=>?_
 obtain⟨C,b,t,u,j,w⟩:=s;cases u;rw[h1]at j;cases j;exact aP (e.symm.trans ((w x a).2 r c))
def FunIs.on{X Y:Type}[Cod X][Cod Y]{S:Nat->Spc}{d:D}{p:X->Y}(h:FunIs S d p)(l:List X):FunOnP S d l p:=by
 obtain⟨g,caps,a,h1,h2,h3⟩:=h;exact⟨g,caps,a,h1,h2,λx _=>h3 x⟩
def K3{X Y:Type}[Cod X][Cod Y]{S:Nat->Spc}{g:Nat}{c:D}{l:List X}{pre:X×D×Unit->Prop}{post:X×D×Unit->Y->Prop}{p:X->Y}(h:S g=aG (aE X (aD a0)) pre enc post)(hp:∀x∈l,pre (x,c,()))(b:∀x∈l,∀y,post (x,c,()) y->y=p x):FunOnP S (.clo g [c]) l p:=by
 refine⟨g, [c],_,rfl,h,λx a=>⟨⟨(x,c,()),by simp,hp x a⟩,λr d=>?_⟩⟩;obtain⟨y,rfl,j⟩:=d (x,c,()) (by simp) (hp x a);rw[b x a y j]
def qdT(x:Pat):D.agg [D.v (Value.int IntKind.i64 x.op),D.v (Value.int IntKind.i64 x.cond.op),D.v (Value.string x.cond.name),D.v (Value.string x.cond.arg),D.v (Value.string x.cond.val),D.v (Value.string x.cond.lab),D.v (Value.bool x.cond.fold),D.list 7 (List.map enc x.cond.kids),D.v (Value.string x.lab),D.v (Value.string x.reg),D.v (Value.int IntKind.i64 x.mn),D.v (Value.int IntKind.i64 x.mx),D.list 13 (List.map enc x.kids)]=enc x:=by simp
def WU(S0:Nat->Spc)(x:List Pat×D×Unit):Prop:=∃p:Pat->Bool,FunOnP S0 x.2.1 x.1 p
def ql6(S0:Nat->Spc)(x:List Pat×D×Unit)(y:Int):Prop:=∀p:Pat->Bool,FunOnP S0 x.2.1 x.1 p->y=fe x.1 p
abbrev qq2(S0:Nat->Spc):Spc:=aG (aE (List Pat) (aD a0)) (WU S0) enc (ql6 S0)
def wh:ak fK fI S (aE (List Pat) (aD a0)) (WU S) enc (ql6 S):=by
 rintro⟨l,d,⟨⟩⟩ ⟨p,hp⟩;simp at hp;simp[fK,fI];intro _;refine ah (X:=Unit) [0,1] [] l.length (λk _=>∀p:Pat->Bool,FunOnP S d l p->∀x∈l.take k,p x=false) (λ_=>[]) (λ_=>[]) () (by simp) ?_ ?_
 ·intro k _ hk c;simp;refine⟨hk,λx j=>?_⟩;rw[qdT x];refine hp.useB x (aU j) λy q=>?_
  simp;refine⟨λh=>?_,λh b a=>?_⟩
  ·intro b a;exact(tE j (by rw[<-q b a,h]) (c b a)).symm
  ·rw[av j];intro z hz;rcases qFL.1 hz with hz|hz
   ·exact c b a z hz
   ·simp at hz;subst hz;rw[<-q b a,h]
 ·intro _ c;simp;intro b a;exact(jZ (by simpa using c b a)).symm
def ql7(S0:Nat->Spc)(x:List Pat×D×Unit)(y:Bool):Prop:=∀p:Pat->Bool,FunOnP S0 x.2.1 x.1 p->y=x.1.any p
abbrev U4(S0:Nat->Spc):Spc:=aG (aE (List Pat) (aD a0)) (WU S0) enc (ql7 S0)
def tO(h1:S lH=qq2 S0):ak eF ek S (aE (List Pat) (aD a0)) (WU S0) enc (ql7 S0):=by
 rintro⟨l,d,⟨⟩⟩ hp;simp[eF,ek,h1,-fB'];refine⟨hp,λy c b a=>?_⟩;rw[c b a];exact vJ b l
abbrev Ss(n:Nat):Spc:=aG (a2 Pat Int) (λx=>cg x.1<=n/\0<=x.2/\x.2<=101) (enc (X:=Bool)) λx y=>y=cm x.1 x.2
def qp2(n:Nat)(x:Pat×D×Unit):Prop:=∃d:Int,x.2.1= .cptr [enc d] 0/\cg x.1<=n/\0<=d/\d<=100
def qlY(x:Pat×D×Unit)(y:Bool):Prop:=∀d:Int,x.2.1= .cptr [enc d] 0->y=!cm x.1 (d+1)
abbrev qij(n:Nat):Spc:=aG (aE Pat (aD a0)) (qp2 n) enc qlY
def HC(n:Nat)(h1:S jO=Ss n):ak pf ot S (aE Pat (aD a0)) (qp2 n) enc qlY:=by
 rintro⟨p,d,⟨⟩⟩ ⟨e,a,h2,h3,h4⟩;simp at a h2;subst a;simp[pf,ot,h1,qlY,h2,-fB'];exact⟨by simp only[InR];omega,by omega⟩
def Mn(n:Nat)(h0:S0 gL=qij n)(h1:S aV=U4 S0):ak ta sk S (a2 Pat Int) (λx=>cg x.1<=n+1/\0<=x.2/\x.2<=101) (enc (X:=Bool)) λx y=>y=cm x.1 x.2:=by
 rintro⟨p,d⟩ ⟨hn,a,b⟩;have hk:∀k∈p.kids,cg k<=n:=λk hk=>by have:=fT hk;have:cg p<=n+1:=hn;omega
 simp only at a b;simp[ta,sk,h1,-fB'];rw[ld];refine⟨λh=>?_,λh=>by rw[decide_eq_false (by omega)];rfl⟩;have j:FunOnP S0 (.clo gL [.cptr [.v (.int .i64 d)] 0]) p.kids λx=>!cm x (d+1):=
  K3 h0 (λx l=>⟨d,rfl,hk x l,a,h⟩) (λx _ y c=>c d rfl)
 refine⟨⟨_,j⟩,λy c=>?_⟩;rw[c _ j,decide_eq_true h,qHl];simp[qH4]
def qp3(S0:Nat->Spc)(n:Nat)(x:Pat×D×Unit):Prop:=∃(d:D) (f:Pat->Bool),x.2.1= .cptr [d] 0/\FunIs S0 d f/\cg x.1<=n
def ql0(S0:Nat->Spc)(x:Pat×D×Unit)(y:Bool):Prop:=∀(d:D) (f:Pat->Bool),x.2.1= .cptr [d] 0->FunIs S0 d f->y=!cx f x.1
abbrev qdC(S0:Nat->Spc)(n:Nat):Spc:=aG (aE Pat (aD a0)) (λx=>∃f:Pat->Bool,FunIs S0 x.2.1 f/\cg x.1<=n) enc λx y=>∀f:Pat->Bool,FunIs S0 x.2.1 f->y=cx f x.1
abbrev qiD(S0:Nat->Spc)(n:Nat):Spc:=aG (aE Pat (aD a0)) (qp3 S0 n) enc (ql0 S0)
def Mq(n:Nat)(h1:S fN=qdC S0 n):ak tc sr S (aE Pat (aD a0)) (qp3 S0 n) enc (ql0 S0):=by
 rintro⟨p,d,⟨⟩⟩ ⟨e,f,a,h2,h3⟩;simp at a h3;subst a;simp[tc,sr,h1,ql0,h3,-fB'];exact⟨⟨f,h2⟩,λy b d g e c=>by subst e;exact b g c⟩
theorem Rc{N:Nat->Spc}(n:Nat)(l:∀(d:D) (f:Pat->Bool),FunIs N d f->FunIs S d f)(h0:S0 jQ=qiD N n)(h1:S aV=U4 S0):ak xI wB S (aE Pat (aD a0)) (λx=>∃f:Pat->Bool,FunIs N x.2.1 f/\cg x.1<=n+1) enc λx y=>∀f:Pat->Bool,FunIs N x.2.1 f->y=cx f x.1:=by
 rintro⟨p,d,⟨⟩⟩ ⟨f,b,hn⟩;have hk:∀k∈p.kids,cg k<=n:=λk hk=>by have:=fT hk;have:cg p<=n+1:=hn;omega
 simp at b;have h:d.kn=true/\d.cells=[d]:=by obtain⟨g,caps,s,rfl,_⟩:=b;exact⟨rfl,rfl⟩
 simp[xI,wB,h1,h,-fB'];rw[qdT p];refine((l d f b).on [p]).useB p (by simp) λy c=>?_
 have c:∀f,FunIs N d f->y=f p:=λf b=>c f ((l d f b).on [p])
 simp[h1,-fB'];refine⟨λq=>?_,λj g a=>by rw[cZ,<-c g a,j];rfl⟩;have hO:∀g,FunIs N d g->FunOnP S0 (.clo jQ [.cptr [d] 0]) p.kids λx=>!cx g x:=λg a=>
  K3 h0 (λx r=>⟨d,g,rfl,a,hk x r⟩) (λx _ y c=>c d g rfl a)
 refine⟨⟨_,hO f b⟩,λz hz g a=>?_⟩;rw[hz _ (hO g a),cZ,<-c g a,q,qHl];simp[qH4]
abbrev OB:Spc:=aG (a2 Pat Int) (λx=>0<=x.2/\x.2<=101) (enc (X:=Bool)) λx y=>y=cm x.1 x.2
abbrev Du(N:Nat->Spc):Spc:=aG (aE Pat (aD a0)) (λx=>∃f:Pat->Bool,FunIs N x.2.1 f) enc λx y=>∀f:Pat->Bool,FunIs N x.2.1 f->y=cx f x.1
abbrev Nu:Spc:=aG (a1 Pat) (λ_=>True) (enc (X:=Bool)) λx y=>y=(cm x 1 && cx qC x)
def wR{X:Type}[Cod X]{S:Nat->Spc}{g:Nat}{pre:X->Prop}{p:X->Bool}(h:S g=aG (a1 X) pre enc λx y=>y=p x)(hp:∀x,pre x):FunIs S (.clo g []) p:=by
 refine⟨g, [],_,rfl,h,λx=>⟨⟨x,by simp,hp x⟩,λr a=>?_⟩⟩;obtain⟨y,rfl,b⟩:=a x (by simp) (hp x);rw[b]
def Ri{N:Nat->Spc}(h0:N mC=UY)(h1:S jO=OB)(h2:S fN=Du N):ak xM wF S (a1 Pat) (λ_=>True) (enc (X:=Bool)) λx y=>y=(cm x 1 && cx qC x):=by
 rintro p -;have f1:FunIs N (.clo mC []) qC:=wR h0 λ_=>trivial
 simp[xM,wF,h1,h2,-fB'];refine⟨λh=>⟨⟨_,f1⟩,λy a=>by rw[a _ f1,h];rfl⟩,λh b=>absurd (h.symm.trans b) (by simp)⟩
def Q9{N:Nat->Spc}(h0:N dH=EW)(b:N dh=Aq)(h1:S nP=Nu)(h2:S fN=Du N):ak xG wz S (a1 Pat) (λ_=>True) (enc (X:=Bool)) λx y=>y=fy aB x:=by
 rintro p -;have f1:FunIs N (.clo dH []) (nI aB):=wR h0 λ_=>trivial
 have c:FunIs N (.clo dh []) lF:=wR b λ_=>trivial
 simp[xG,wz,h1,h2,-fB'];unfold fy;refine⟨λh1 h2=>⟨⟨_,f1⟩,λy a=>?_⟩,λh=>?_⟩
 ·have a:=a _ f1;refine⟨λd=>⟨⟨_,c⟩,λz hz=>?_⟩,λj=>?_⟩
  ·rw[hz _ c,h1,h2,<-a,d];rfl
  ·rw[<-a,j];simp
 ·rcases hs:cm p 1
  ·rfl
  ·rw[h hs];rfl
end
section
mutual
def jS:Pat->Nat| .mk op _ _ _ mn _ ks=>if ks=[]then 1 else if op=6 then(max 1 mn).toNat*lQ ks else lQ ks
def lQ:List Pat->Nat|[]=>0|k::ks=>jS k+lQ ks
end
def kV(p:Pat):jS p=if p.kids=[]then 1 else if p.op=6 then(max 1 p.mn).toNat*lQ p.kids else lQ p.kids:=by cases p;unfold jS;rfl
def E1(a b:List Pat):bu (a++b)=bu a+bu b:=by
 induction a with
 |nil=>simp[bu]
 |cons k a c=>simp only[qGp,bu];omega
def Qn(p:Pat):1<=jS p:=by
 induction p using fg with|_ p a=>?_
 rw[kV];split
 ·omega
 ·rename_i h;have:1<=lQ p.kids:=by
   rcases hk:p.kids with _|⟨k,ks⟩
   ·exact absurd hk h
   ·rw[lQ];have:=a k (by rw[hk];simp);omega
  split
  ·exact Nat.mul_pos (by omega) this
  ·exact this
theorem qqc{lb:List B} :∀n p,WP lb n p->jS p<=2^n:=by
 refine JP λn p hp h=>?_
 rw[kV];rcases Aa hp with(⟨h1,h2,h3,h4,h5,h6⟩|⟨h1,h2,h3,h4,h5,h6,c⟩)|⟨m,rfl,(⟨h1,h2,h3,h4,h5,h6,a,b,c,_⟩|⟨h1,h2,h3,h4,h5,a,c,_⟩)⟩
 ·rw[if_pos h6];exact Nat.one_le_two_pow
 ·rw[if_pos c];exact Nat.one_le_two_pow
 ·obtain⟨j,d,_,a1⟩:=h a (by rw[c];simp);obtain⟨l,k,_,a2⟩:=h b (by rw[c];simp);have d:j=m:=by omega
  have k:l=m:=by omega
  subst d;subst k;rw[c,if_neg (by simp),if_neg (by omega),Nat.pow_succ];simp only[lQ];omega
 ·obtain⟨j,d,_,a1⟩:=h a (by rw[c];simp);have d:j=m:=by omega
  subst d;rw[c,if_neg (by simp),if_pos h1,Nat.pow_succ];simp only[lQ];have:(max 1 p.mn).toNat<=2:=by
   simp[qaJ]at h5;omega
  have:=qHT this a1;rw[qGS];omega
end
end Go.Gv
