/- W190 -/
import Derived.Test.YtilfeahoefpgcaaGreatDoorGc23
set_option linter.all false
set_option maxRecDepth 100000
set_option maxHeartbeats 0
open Bool renaming forall_bool → fB', exists_bool → eB'
namespace Go.Gv
open Cod (enc dec)
variable {S S0:Nat->Spc}
def qbt{σ:Sg}{H:ab}{k j b el n:Nat}{cs cs':List D}(hkj:j≠k)(hk:H k=some (.box b cs))(hl:cs.length=cs'.length)(hc:∀(m:Nat) (c c':D),cs[m]? =some c->cs'[m]? =some c'->FrzTo da c c'):
 Wk σ H σ (ai (ai H k (some (.box b cs'))) j (some (.row (.slice none 0 0) el n []))):=by
 refine XL (Hf:=da) id (λt=> .same _) (λi r h=>?_) (λi j r s _ _ e=> .inl e) (λi r h=>by simp[da]at h);by_cases e:i=j
 ·subst e;simp[ai]at h;subst h;exact .inr ⟨rfl,rfl⟩
 ·by_cases e2:i=k
  ·subst e2;simp[ai,e]at h;subst h;exact .inl ⟨_,hk, .inr ⟨rfl,hl,hc⟩⟩
  ·simp only[ai,e,e2,if_false]at h;exact .inl ⟨r,h, .inl rfl⟩
def Kw:Nat->Cond->Prop
 | 0,_=>False
 |n+1,x=>x.kids.length<=1000000/\∀k∈x.kids,Kw n k
abbrev U5(n:Nat):Spc:=aL (a1 Cond) (Kw n) (enc (X:=Cond)) λx y=>y=x
theorem Lq(n:Nat)(h1:S kV=U5 n):am sQ sf S (a1 Cond) (Kw (n+1)) (enc (X:=Cond)) λx y=>y=x:=by
 rintro⟨op,name,arg,val,lab,fold,kids⟩ ⟨hlen,hk⟩;simp only at hlen hk;simp[sQ,sf];intro b2 b3 hkl;refine HJ (qbt (k:=3) (j:=20) (b:=b3) (el:=eI) (n:=7) (cs':=[.v (.int .i64 op), .v (.string name), .v (.string arg), .v (.string val), .v (.string lab), .v (.bool fold), .own 20 (.slice none 0 0)]) (by decide) (by simp;rfl) (by simp) ?_) ?_
 ·intro m c c' hc hc'
  match m with
  | 0|1|2|3|4|5=>simp at hc hc';subst hc;subst hc';exact .same _
  | 6=>simp at hc hc';subst hc;subst hc';exact .nilown _
  |m+7=>simp at hc
 refine ah (X:=Value×List Cond) [2,9] [2] kids.length (λk x=>x.2=kids.take k) (λx=>[(3, .bptr 3 b3 0)]) (λx=>[(3, .box b3 [.v (.int .i64 op), .v (.string name), .v (.string arg), .v (.string val), .v (.string lab), .v (.bool fold), .own 20 x.1]),(20, .row x.1 eI 7 (x.2.map enc))]) (.slice none 0 0, []) (by simp) ?_ ?_
 ·rintro k ⟨v,m⟩ hkl' hm;simp only at hm;obtain⟨x,hx⟩:=aO hkl';obtain⟨_,hgx⟩:=qzP.1 hx;have hx1:=hk x (aQ hx);have hml:m.length=k:=by rw[hm,qAo];omega
  simp[h1,hkl',hx,hgx,hx1];refine⟨by omega,by omega,λv=> .inl (.inl ?_)⟩;rw[hm,List.map_take,qAZ];simp[hx]
 ·rintro⟨v,m⟩ hm;simp only at hm;rw[qz8]at hm;subst hm;simp;refine aV (Y:=Cond) ⟨op,name,arg,val,lab,fold,m⟩ ?_ rfl;simp;refine .agg (by simp) λi c c' h h'=>?_
  match i with
  | 0|1|2|3|4|5=>simp at h h';subst h;subst h';exact .same _
  | 6=>simp at h h';subst h;subst h';exact ga eI (by simp)
  |i+7=>simp at h
def qzC{H:ab}{l l':List D}(h:FzL H l l'):FrzTo H (.agg l) (.agg l'):= .agg h.get.1 h.get.2
abbrev PL:Spc:=aL (a1 Cond) (λx=>∃n,Kw n x) (enc (X:=Cond)) λx y=>y=x
def mi(p:Pat):Pat:=⟨p.op,p.cond,p.lab,⟨#[]⟩,0,0, []⟩
abbrev RE:Spc:=aL (a1 Pat) (λp=>∃n,Kw n p.cond) (enc (X:=Pat)) λx y=>y=mi x
def Ot(h1:S kV=PL):am vt uq S (a1 Pat) (λp=>∃n,Kw n p.cond) (enc (X:=Pat)) λx y=>y=mi x:=by
 rintro p hp;simp[vt,uq,h1,hp];intro b;refine aV (Y:=Pat) (mi p) ?_ rfl;unfold mi;simp;refine qzC ?_;simp
def bz(p:Pat):List Pat:=(aq p).map mi
def zu(p:Pat):bz p=if p.op=1 then[mi p]else p.kids.flatMap bz:=by
 unfold bz;rw[ba];split
 ·rfl
 ·rw[List.map_flatMap]
def PLc(p:Pat):Prop:=∀y∈aq p,∃n,Kw n y.cond
def PLc.kid{p k:Pat}(h:PLc p)(hne:¬p.op=1)(hk:k∈p.kids):PLc k:=λy hy=>h y (by rw[ba,if_neg hne];exact qBv.2 ⟨k,hk,hy⟩)
def qfF{ks:List Pat}{k:Nat}{x:Pat}(l:List Pat)(hx:ks[k]? =some x):(l++ (ks.take k).flatMap bz) ++bz x=l++ (ks.take (k+1)).flatMap bz:=by
 rw[av hx,qBX,List.flatMap_singleton,qAB]
def qdn(x:Pat)(l:List Pat):Prop:=l.length+ (aq x).length<=100000000/\PLc x
def qmE(ks:List Pat):(ks.flatMap bz).length=(ks.flatMap aq).length:=by
 induction ks with
 |nil=>rfl
 |cons k ks ih=>simp only[qAq,qAh,ih];unfold bz;simp
def qfE{ks:List Pat}{k:Nat}{x:Pat}{l:List Pat}(hx:ks[k]? =some x)(h:l.length+ (ks.flatMap aq).length<=100000000)(hc:PLc x):qdn x (l++ (ks.take k).flatMap bz):=by
 have:=YX hx h;unfold qhM at this;refine⟨?_,hc⟩;simp only[qAh]at this ⊢;rw[qmE];exact this
abbrev Qf(n:Nat):Spc:=qh0 (X:=Pat) (Y:=Pat) (λx l=>dc x<=n/\qdn x l) (λx l r=>r=l++bz x) aJ 13
abbrev i_leavesQA:Spc:=qh0 (X:=Pat) (Y:=Pat) (λx l=>qdn x l) (λx l r=>r=l++bz x) aJ 13
theorem Lo(n:Nat)(h1:S dy=Qf n)(h2:S ro=RE):NX (X:=Pat) (Y:=Pat) jr jj S (λx l=>dc x<=n+1/\qdn x l) (λx l r=>r=l++bz x) aJ 13:=by
 rintro v l p ⟨hp,hl,hc⟩;have hk:∀k∈p.kids,dc k<=n:=λk hk=>by have:=kM hk;have:dc p<=n+1:=hp;omega
 have hl':=hl;rw[ba]at hl';simp[jr,jj,h2];refine⟨λh1=>?_,λhne _=>?_⟩
 ·have hcc:∃n,Kw n p.cond:=hc p (by rw[ba,if_pos h1];simp);simp[h1]at hl';exact⟨hcc,by omega,by omega,λv=>dF (l++bz p) (by simp[zu,h1]) rfl⟩
 rw[if_neg hne]at hl';refine ah (X:=Value×List Pat) [16] [] p.kids.length (λk x=>x.2=l++ (p.kids.take k).flatMap bz) (λx=>[(1, .own 1 x.1)]) (λx=>[(1, .row x.1 aJ 13 (x.2.map enc))]) (v,l) (by simp) ?_ ?_ (hh:=by simp[isNilRow])
 ·rintro k ⟨v,m⟩ hkl hm;simp only at hm;obtain⟨x,hx⟩:=aO hkl;have hx1:=aQ hx;obtain⟨_,hgx⟩:=qzP.1 hx;have q1:=qfE hx hl' (hc.kid hne hx1);rw[<-hm]at q1;have q2:=hk x hx1;simp[h1,hkl,hx,hgx,q1,q2];intro v';refine .inl ?_;rw[hm,qfF _ hx]
 ·rintro⟨v,m⟩ hm;simp only at hm;rw[qz8]at hm;simp;refine dF m (by simp) ?_;rw[hm,zu,if_neg hne]
abbrev qcT:Spc:=qop (Y:=Pat) (aE Pat (aD a0)) (λx=>x.2.1=P5/\qdn x.1 []) (λx r=>r=bz x.1) aJ 13
theorem JR(h1:S dy=i_leavesQA)(h2:S ro=RE):Xt (Y:=Pat) jr jj S (aE Pat (aD a0)) (λx=>x.2.1=P5/\qdn x.1 []) (λx r=>r=bz x.1) aJ 13:=by
 rintro⟨p,d,⟨⟩⟩ ⟨hd,hl,hc⟩;have hd:d=P5:=hd;subst hd;have hl':([]:List Pat).length+ (aq p).length<=100000000:=hl;rw[ba]at hl';simp[jr,jj,h2];refine⟨λh1=>⟨hc p (by rw[ba,if_pos h1];simp),λv=>dF (bz p) (by simp[zu,h1]) rfl⟩,λhne _=>?_⟩;rw[if_neg hne]at hl';refine ah (X:=Value×List Pat) [16] [] p.kids.length (λk x=>x.2=[] ++ (p.kids.take k).flatMap bz) (λx=>[(1, .own 1 x.1)]) (λx=>[(1, .row x.1 aJ 13 (x.2.map enc))]) (.slice none 0 0, []) (by simp) ?_ ?_ (hh:=by simp[isNilRow])
 ·rintro k ⟨v,m⟩ hkl hm;simp only at hm;obtain⟨x,hx⟩:=aO hkl;have hx1:=aQ hx;obtain⟨_,hgx⟩:=qzP.1 hx;have q1:=qfE hx hl' (hc.kid hne hx1);rw[<-hm]at q1;simp[h1,hkl,hx,hgx,q1];intro v';refine .inl ?_;rw[hm,qfF _ hx];rfl
 ·rintro⟨v,m⟩ hm;simp only at hm;rw[qz8]at hm;simp;refine dF m (by simp) ?_;rw[hm,zu,if_neg hne];rfl
abbrev s_leavesQ:Spc:=qmk qcT i_leavesQA
abbrev ue:Spc:=aL (a1 Pat) (λx=>qdn x []) (enc (X:=List Pat)) λx y=>y=if fI aI x then bz x else[]
def qW(out:List B)(x:B):List B:=if x=E0 then out else De out x
mutual
def bM:Pat->List B->List B
 | .mk op c l r mn mx ks,out=>M2 ks (qW out l)
def M2:List Pat->List B->List B
 | [],out=>out
 |k::ks,out=>M2 ks (bM k out)
end
def JD:∀(l:List Pat) (out:List B),M2 l out=l.foldl (λo k=>bM k o) out
 | [],out=>by rw[M2];rfl
 |k::l,out=>by rw[M2,JD l];rfl
def rI(p:Pat)(out:List B):bM p out=p.kids.foldl (λo k=>bM k o) (qW out p.lab):=by
 cases p;rw[bM,JD]
def NW(out:List B)(x:B):(qW out x).length<=out.length+1:=by
 unfold qW De;split
 ·omega
 ·split
  ·omega
  ·simp
def qcB(p:Pat):∀out,(bM p out).length<=out.length+cZ p:=by
 induction p using fY with|_ p ih=>?_
 intro out;rw[rI,cx];have:∀(ks:List Pat) (o:List B),(∀k∈ks,k∈p.kids)->(ks.foldl (λo k=>bM k o) o).length<=o.length+be ks:=by
  intro ks
  induction ks with
  |nil=>intro o _;simp[be]
  | cons k ks ihk=>
    intro o hk;rw[qAO,be];have h1:=ihk (bM k o) λz hz=>hk z (by simp[hz])
    have:=ih k (hk k (by simp)) o;omega
 have h1:=this p.kids (qW out p.lab) λ_ h=>h
 have h2:=NW out p.lab;omega
def Qb(ks:List Pat)(k:Nat)(lb:List B):((ks.take k).foldl (λo k=>bM k o) lb).length<=lb.length+be (ks.take k):=by
 generalize ks.take k=l
 induction l generalizing lb with
 |nil=>simp[be]
 | cons a l ih=>
   rw[qAO,be];have h1:=ih (bM a lb);have h2:=qcB a lb;omega
def qfX(l:List B)(x:B):Bool:=l.any λz=>decide (z=x)
def M8{l:List B}{x:B} :qfX l x=true↔x∈l:=by
 unfold qfX;rw[qA4];exact⟨λ⟨z,h1,h2⟩=>by rw[decide_eq_true_eq]at h2;rwa [<-h2],λh=>⟨x,h,decide_eq_true rfl⟩⟩
abbrev s_hasE:Spc:=aL (aE (List B) (a1 B)) (λ_=>True) (enc (X:=Bool)) λx y=>y=qfX x.1 x.2
abbrev qq2:Spc:=qt9 (Y:=B) (a1 B) (λ_=>True) (enc (X:=Bool)) (λx y=>y=qfX x.1 x.2) au 1
def DJ(h1:S dJ=RD):am cF cD S (aE (List B) (a1 B)) (λ_=>True) (enc (X:=Bool)) λx y=>y=qfX x.1 x.2:=by
 rintro⟨l,x⟩ -;simp[cF,cD,h1];exact zw _ l
abbrev s_has2:Spc:=qmk s_hasE qq2
def qhN(x:Pat)(l:List B):Prop:=l.length+cZ x<=1000000
def qrd(x:Pat)(l r:List B):Prop:=r=bM x l
abbrev Wb(n:Nat):Spc:=qh0 (X:=Pat) (Y:=B) (λx l=>dc x<=n/\qhN x l) qrd au 1
abbrev i_labelsA:Spc:=qh0 (X:=Pat) (Y:=B) qhN qrd au 1
theorem Lp(n:Nat)(h0:S aZ=s_has2)(h1:S cV=Wb n):NX (X:=Pat) (Y:=B) js jk S (λx l=>dc x<=n+1/\qhN x l) qrd au 1:=by
 rintro v lb p ⟨hd,hl⟩;have hk:∀k∈p.kids,dc k<=n:=λk h=>by have:=kM h;have:dc p<=n+1:=hd;omega
 have hl:lb.length+cZ p<=1000000:=hl;have hpn:=cx p;simp[js,jk,h0];refine bi (X:=Value) [2] [] (λ_=>True) (λv=>[(1, .own 1 v)]) (λv=>[(1, .row v au 1 ((qW lb p.lab).map enc))]) ?_ ?_
 ·simp[h0,-fB'];refine⟨λhn=>?_,λhe=>?_⟩
  ·have hn:¬p.lab=E0:=hn;refine .inr ⟨λhf=>⟨by omega,by omega,λv=> .inl ?_⟩,λht=> .inl ?_⟩
   ·rw[qW,if_neg hn,De,if_neg (λh=>by rw[M8.2 h]at hf;cases hf)];simp
   ·rw[qW,if_neg hn,De,if_pos (M8.1 ht)]
  ·have he:p.lab=E0:=he;refine .inl ?_;rw[qW,if_pos he]
 ·rintro v -;have hae:=NW lb p.lab;simp;intro hkl;refine ah (X:=Value×List B) [23] [] p.kids.length (λk x=>x.2=(p.kids.take k).foldl (λo k=>bM k o) (qW lb p.lab)) (λx=>[(1, .own 1 x.1)]) (λx=>[(1, .row x.1 au 1 (x.2.map enc))]) (v,qW lb p.lab) (by simp) ?_ ?_
  ·rintro k ⟨v,ls⟩ hkk hls;simp only at hls;obtain⟨x,hx⟩:=aO hkk;obtain⟨_,hgx⟩:=qzP.1 hx;have hq:qhN x ls:=by
    have h2:=Qb p.kids k (qW lb p.lab);rw[<-hls]at h2;have h4:be (p.kids.take k) +be (p.kids.drop k)=be p.kids:=by rw[<-CD,qAs]
    rw[bB hx,be]at h4;show ls.length+cZ x<=_;omega
   have hq2:=hk x (aQ hx);simp[hkk,hx,hgx,h1,hq,hq2];intro v' l' hy;obtain rfl:l'=bM x ls:=hy;refine .inl ?_;rw[av hx,qBN,<-hls];rfl
  ·rintro⟨v,ls⟩ hls;simp only at hls;rw[qz8]at hls;simp;refine dF ls (by simp) ?_;show ls=bM p lb;rw[rI,hls]
abbrev qgr:Spc:=qop (Y:=B) (aE Pat (aD a0)) (λx=>x.2.1= .v (.slice none 0 0)/\qhN x.1 []) (λx r=>qrd x.1 [] r) au 1
theorem JS(h0:S aZ=s_has2)(h1:S cV=i_labelsA):Xt (Y:=B) js jk S (aE Pat (aD a0)) (λx=>x.2.1= .v (.slice none 0 0)/\qhN x.1 []) (λx r=>qrd x.1 [] r) au 1:=by
 rintro⟨p,d,⟨⟩⟩ ⟨hd,hl⟩;have hd:d= .v (.slice none 0 0):=hd;subst hd;have hl:0+cZ p<=1000000:=hl;have hpn:=cx p;simp[js,jk,h0];refine bi (X:=Value) [2] [] (λ_=>True) (λv=>[(1, .own 21 v)]) (λv=>[(21, .row v au 1 ((qW [] p.lab).map enc))]) ?_ ?_
 ·simp[h0,-fB'];refine⟨λhn=>?_,λhe=>?_⟩
  ·have hn:¬p.lab=E0:=hn;refine .inl ⟨λhf v=> .inl ?_,λht=>absurd (M8.1 ht) (by simp)⟩;rw[qW,if_neg hn,De,if_neg (by simp)];simp
  ·have he:p.lab=E0:=he;rw[qW,if_pos he];simp[isNilRow]
 ·rintro v -;have hae:=NW [] p.lab;simp;intro hkl;refine ah (X:=Value×List B) [23] [] p.kids.length (λk x=>x.2=(p.kids.take k).foldl (λo k=>bM k o) (qW [] p.lab)) (λx=>[(1, .own 21 x.1)]) (λx=>[(21, .row x.1 au 1 (x.2.map enc))]) (v,qW [] p.lab) (by simp) ?_ ?_
  ·rintro k ⟨v,ls⟩ hkk hls;simp only at hls;obtain⟨x,hx⟩:=aO hkk;obtain⟨_,hgx⟩:=qzP.1 hx;have hq:qhN x ls:=by
    have h2:=Qb p.kids k (qW [] p.lab);rw[<-hls]at h2;have hae2:(qW [] p.lab).length<=0+1:=hae;have h4:be (p.kids.take k) +be (p.kids.drop k)=be p.kids:=by rw[<-CD,qAs]
    rw[bB hx,be]at h4;show ls.length+cZ x<=_;omega
   simp[hkk,hx,hgx,h1,hq];intro v' l' hy;obtain rfl:l'=bM x ls:=hy;refine .inl ?_;rw[av hx,qBN,<-hls];rfl
  ·rintro⟨v,ls⟩ hls;simp only at hls;rw[qz8]at hls;simp;refine dF ls (by simp) ?_;show ls=bM p [];rw[rI,hls]
abbrev s_qlabels:Spc:=qmk qgr i_labelsA
end Go.Gv
namespace Go.Gv
open Go.Proofs
section
variable {T:St3->St3->Prop}(h0:∀s,T s s)(h1:∀s t u,T s t->T t u->T s u)(r:Rn)
include h0 h1
end
open Cod (enc dec)
variable {S S0:Nat->Spc}
structure qrp (c:Corpus) (p:Pat):Prop where
 sz:qo2 c
 few:c.toks.length<=170
 pat:fI aI p=true
 l3:(bM p []).length<=3
 num:cZ p<=1000000
 nd:∀t∈c.texts,PAll (qzJ (qeS c (bM p []) t)) p
structure qux (a:List Attr) (q:Qry):Prop where
 glob:q.glob=GlobE
 filts:q.filts=[]
 strat:q.strat=0
 pat:fI aI q.pat=true
 size:fj q.pat<=256
 l3:(bM q.pat []).length<=3
 num:cZ q.pat<=1000000
 att:a.length<=1000
 lv:∀x∈aq q.pat,qhZ a (bM q.pat []) x.cond=true/\∃n,Kw n x.cond
abbrev FS(V:List Attr->Qry->Prop):Spc:=aL (a2 Qry (List Attr)) (λx=>V x.2 x.1) (enc (X:=Int)) λ_ y=>y=0
abbrev qlY:Spc:=FS qux
structure qrj (V:List Attr->Qry->Prop) (c:Corpus) (q:Qry):Prop where
 v:V c.attrs q
 f:qrp c q.pat
abbrev qeq:Spc:=aL (a1 Glob) (λg=>g=GlobE) (enc (X:=Bool)) λx y=>y=true
def QX:am jx jv S (a1 Glob) (λg=>g=GlobE) (enc (X:=Bool)) λx y=>y=true:=by
 rintro x rfl;simp[jx,jv,GlobE,E0,-fB']
abbrev qae:Spc:=aL (a1 Glob) (λg=>g=GlobE) (enc (X:=Bool)) λx y=>y=true
def Ox(h1:S pb=qeq):am ip gV S (a1 Glob) (λg=>g=GlobE) (enc (X:=Bool)) λx y=>y=true:=by
 rintro x rfl;simp[ip,gV,h1,-fB']
abbrev qeJ:Spc:=aL (aE (List tN) (aD a0)) (λx=>x.1=[]) (enc (X:=Int)) λx y=>y= -1
def vL:am cn bZ S (aE (List tN) (aD a0)) (λx=>x.1=[]) (enc (X:=Int)) λx y=>y= -1:=by
 rintro⟨l,d,⟨⟩⟩ h;have h:l=[]:=h;subst h;simp[cn,bZ,-fB'];refine ah (X:=Unit) [] [] 0 (λ_ _=>True) (λ_=>[]) (λ_=>[]) () trivial (λk x hk=>absurd hk (by omega)) (λ_ _=>?_);simp
abbrev YD:Spc:=aL (aE (List tN) (aD a0)) (λx=>x.1=[]) (enc (X:=Bool)) λx y=>y=false
def rW(h1:S cE=qeJ):am bI bH S (aE (List tN) (aD a0)) (λx=>x.1=[]) (enc (X:=Bool)) λx y=>y=false:=by
 rintro⟨l,d,⟨⟩⟩ h;have h:l=[]:=h;subst h;simp[bI,bH,h1,-fB']
abbrev qeC:Spc:=aL (a3 Glob (List Attr) (List B)) (λx=>x.1=GlobE) (enc (X:=Int)) λ_ y=>y=0
abbrev Z9:Spc:=aL (a3 Glob (List Attr) (List B)) (λx=>x.1=GlobE) (enc (X:=Int)) λ_ y=>y=0
structure qxL (q:Qry):Prop where
 filts:q.filts=[]
 strat:q.strat=0
 pat:fI aI q.pat=true
 size:fj q.pat<=256
 l3:(bM q.pat []).length<=3
 num:cZ q.pat<=1000000
abbrev qeB:Spc:=aL (a1 Qry) qxL (enc (X:=Int)) λ_ y=>y=0
theorem qlw{N:Nat->Spc}(h0:N dw=Cw)(h0':N cU=xP)(h1:S mL=K5)(h2:S fl=A9 N)(h3:S gg=Cv)(h4:S cV=s_qlabels)(h5:S aS=YD):
 am dL dH S (a1 Qry) qxL (enc (X:=Int)) λ_ y=>y=0:=by
 rintro q hq;have f1:FunIs N (.clo dw []) (mF aI):=uJ h0 λ_=>trivial
 have f2:FunIs N (.clo cU []) lG:=uJ h0' λ_=>trivial
 have hp:=hq.pat;unfold fI at hp;simp only[qzT]at hp;obtain⟨⟨⟨p1,p2⟩,p3⟩,p4⟩:=hp;have hsz:=hq.size;have hsz2:¬256<fj q.pat:=by omega
 have hl3:=hq.l3;have hPb:qhN q.pat []:=by show 0+cZ q.pat<=1000000;have:=hq.num;omega
 simp[dL,dH,h1,p1,p2,h2,hq.filts,hq.strat,h3,hq.pat,hsz,hsz2,h5,-fB',-eB'];refine⟨⟨_,f1⟩,λy hy=>⟨λ_=>⟨⟨_,f2⟩,λz hz=>⟨by rw[hz _ f2,p4],λ_=>?_⟩⟩,by rw[hy _ f1,p3]⟩⟩;simp[h4,-fB',-eB'];refine .inl ⟨hPb,λl hl _=>?_⟩;have hl:l=bM q.pat []:=hl;subst hl;omega
def qih:am aB aA S (a3 Glob (List Attr) (List B)) (λx=>x.1=GlobE) (enc (X:=Int)) λ_ y=>y=0:=by
 rintro⟨g,a,lb⟩ h;have h:g=GlobE:=h;subst h;simp[aB,aA,GlobE,-fB',-eB']
def qlx(h1:S gi=Z9):am gm fV S (a3 Glob (List Attr) (List B)) (λx=>x.1=GlobE) (enc (X:=Int)) λ_ y=>y=0:=by
 rintro⟨g,a,lb⟩ h;have h:g=GlobE:=h;subst h;simp[gm,fV,h1,-fB',-eB'];simp[GlobE,-fB',-eB'];refine ah (X:=Unit) [] [] 0 (λ_ _=>True) (λ_=>[]) (λ_=>[]) () trivial (λk x hk=>absurd hk (by omega)) (λ_ _=>?_);simp
theorem qlu(h1:S eD=qeB)(h2:S cV=s_qlabels)(h3:S dy=s_leavesQ)(h4:S dm=RH)(h5:S aS=YD)(h6:S mK=qae)(h7:S dT=qeC):
 am gp fW S (a2 Qry (List Attr)) (λx=>qux x.2 x.1) (enc (X:=Int)) λ_ y=>y=0:=by
 rintro⟨q,a⟩ hq;have hq:qux a q:=hq;have hC:qxL q:=⟨hq.filts,hq.strat,hq.pat,hq.size,hq.l3,hq.num⟩
 have hPb:qhN q.pat []:=by show 0+cZ q.pat<=1000000;have:=hq.num;omega
 have hlv:(aq q.pat).length<=cZ q.pat:=qw q.pat;have hPq:qdn q.pat []:=⟨by have:=hq.num;simp;omega,λy hy=>(hq.lv y hy).2⟩
 simp[gp,fW,h1,hC,h2,-fB',-eB'];refine .inl ⟨hPb,λl hl=>?_⟩;have hl:l=bM q.pat []:=hl;subst hl;simp[h3,-fB',-eB'];refine .inl ⟨hPq,?_⟩;intro hll;refine ah (X:=Unit) [1,2,6,20] [] (bz q.pat).length (λ_ _=>True) (λ_=>[]) (λ_=>[]) () trivial ?_ ?_
 ·rintro k ⟨⟩ hk -;obtain⟨x,hx⟩:∃x,(bz q.pat)[k]? =some x:=⟨_,qzR hk⟩
  obtain⟨_,hgx⟩:=qzP.1 hx;have hxm:=qzS hx;obtain⟨y,hy,rfl⟩:=qzV.1 hxm;have hP:Tt ((mi y).cond,a,bM q.pat []):=⟨(hq.lv y hy).1,hq.att⟩
  simp[hk,hx,hgx,h4,hP,-fB',-eB'];exact hP
 ·rintro⟨⟩ -;simp[h5,h6,h7,hq.glob,hq.filts,-fB',-eB']
end Go.Gv
namespace Go.Gv

open Go.Proofs
open Cod (enc dec)
variable {S S0:Nat->Spc}



end Go.Gv
namespace Go.Gv
open Go.Proofs
open Cod (enc dec)
variable {S S0:Nat->Spc}

end Go.Gv
namespace Go.Gv
open Cod (enc dec)
variable {dq:Prop}
section
variable {X Y:Type}[Cod Y]
end
open Go.Proofs
variable {S:Nat->Spc}
end Go.Gv
namespace Go.Gv
open Go.Proofs Cod
variable {dq:Prop}
def tri_ex{P:Program}{f:Nat}{A:Nat->PT}{A':PT}(h:∀n,Tri dq P f (A n))(hs:∀d ds H K,A' d ds H K->∃n,A n d ds H K):Tri dq P f A':=
 λO tp w vs ds H d K a b c e g hA=>(hs d ds H K hA).elim λn hn=>h n O tp w vs ds H d K a b c e g hn
def rA{P:Program}{f:Nat}{A:PT}(hs:∀d ds H K,¬A d ds H K):Tri dq P f A:=λO tp w vs ds H d K a b c e g hA=>absurd hA (hs d ds H K)
def fb{X Y:Type}{A:fS X}{pre:Nat->X->Prop}{pre':X->Prop}{er:Y->D}{post:X->Y->Prop}(hx:∀x,pre' x->∃n,pre n x):∀d ds H K,(aL A pre' er post).pt d ds H K->∃n,(aL A (pre n) er post).pt d ds H K:=by
 intro d ds H K h;rw[nO]at h;cases e:A.dec ds with
 |none=>rw[e]at h;exact h.elim
 | some x=>
   rw[e]at h;obtain⟨h1,h2⟩:=h;obtain⟨n,hn⟩:=hx x h1;exact⟨n,by rw[nO,e];exact⟨hn,h2⟩⟩
def bC{P:Program}{f:Nat}{X Y:Type}{A:fS X}{pre:X->Prop}{er:Y->D}{post:X->Y->Prop}(hx:∀x,¬pre x):Tri dq P f (aL A pre er post).pt:=rA λd ds H K h=>by
 rw[nO]at h;cases e:A.dec ds with
 |none=>rw[e]at h;exact h.elim
 |some x=>rw[e]at h;exact hx x h.1
def Rh{P:Program}{f:Nat}{Y Z:Type}{A:fS Z}{er:Y->D} :Tri dq P f (qhX A er λ_ _=>none).pt:=rA λd ds H K h=>by
 obtain⟨id,b',x,z,ds',h1,h2,h3,h4,h5,⟨r,h6⟩,h7⟩:=h;cases h6
def qiK{P:Program}{f:Nat} :Tri dq P f (qn5 λ_ _ _=>none).pt:=rA λd ds H K h=>by
 obtain⟨id',b',x,n',k,r,d0',h1,h2,h3,h4,h5⟩:=h;cases h4
def qwX{p:Cond}(h:dn p<=0):False:=by rw[G8]at h;omega
def G6:TQ dq eN K4:=
 ac (ag ae) Eo (Fk)
def I3:TQ dq qE s_cpFold1:=qbJ (S:=Jh [(eN,K4)]) (ag (aa G6 ae)) rfl
def I4:TQ dq qF qer:=
 ac (ag ae) Gk (HH)
def EP:TQ dq nn qeA:=
 ac (ag (aa I4 ae)) C6 (DQ rfl)
def IY:TQ dq di qes:=
 ac (ag (aa EP ae)) F5 (Hq rfl)
def mN:TQ dq cT qet:=
 ac (ag (aa IY ae)) lY (Oa rfl)
def rR:TQ dq eB qep:=
 ac (ag (aa mN ae)) qr (N9 rfl)
def GZ:TQ dq ph Vg:=
 ac (ag ae) Ed (Q5)
def KJ:TQ dq sE qac:=
 ac (ag (aa GZ ae)) Id (X3 rfl)
def yk:TQ dq eJ qiO:=
 ac (ag (aa KJ (aa rR ae))) wO (xz rfl rfl)
def yp:TQ dq eJ qbc:=LF yk rfl (λ_=>qgi (λ_ h=>by cases h))
def NJ:TQ dq uL UX:=
 DX (ag (aa yp ae)) Kg (λ_=>qzU rfl) (Lh rfl)
def Xe:TQ dq BL qef:=
 ac (ag ae) RY (TE)
def cL:TQ dq bA vZ:=
 fT (ag (aa Fx ae)) Bp (λ_=>qzU rfl) (QH rfl)
def Db:TQ dq me ZS:=
 fT (ag (aa Fx ae)) Bo (λ_=>qzU rfl) (QG rfl)
def mP:TQ dq ei Rw:=
 fT (ag (aa cL (aa Db ae))) vS (λ_=>qzU rfl) (E8 rfl rfl)
def AN:TQ dq jH qeg:=
 fT (ag (aa cL (aa A4 (aa mP ae)))) zg (λ_=>qzU rfl) (Li rfl rfl rfl)
def Ck:TQ dq kS qeh:=
 fT (ag (aa cL (aa AN (aa NJ ae)))) AG (λ_=>qzU rfl) (Oe rfl rfl rfl)
def Dc:TQ dq mf ZT:=
 fT (ag (aa cL (aa Xe (aa Ck (aa A4 (aa mP ae)))))) Bq (λ_=>qzU rfl) (QI rfl rfl rfl rfl rfl)
def AM:TQ dq jG qee:=
 fT (ag (aa cL (aa Dc ae))) zd (λ_=>qzU rfl) (Lg rfl rfl)
def AO:TQ dq jI qei:=
 fT (ag (aa cL (aa AM ae))) zh (λ_=>qzU rfl) (Lj rfl rfl)
def Cj:TQ dq kR qed:=
 fT (ag (aa cL (aa AO ae))) AF (λ_=>qzU rfl) (Ob rfl rfl)
def Ci:∀n,TQ dq ri (qn5 (wx n))
 | 0=>qiK
 |n+1=>Yg (ag (aa (Ci n) ae)) Mq (by decide) (Oc n rfl)
def IX:TQ dq qx UT:=
 ac (ag ae) F4 (Hp)
def GW:TQ dq oV Py:=
 ac (ag (aa IX ae)) D8 (E6 rfl)
def th:∀n,TQ dq iQ (D3 n)
 | 0=>bC λx h=>by cases h
 |n+1=>bY (ag (aa GW (aa (th n) ae))) CY (λ_=>qzU rfl) (DK n rfl rfl)
def vE:∀n,TQ dq kg (Yy n)
 | 0=>bC λx h=>by obtain⟨m,h⟩:=h;cases h
 |n+1=>bY (ag (aa (vE n) ae)) D9 (λ_=>qzU rfl) (E7 n rfl)
def yl:TQ dq lI UV:=
 ac (ag (aa (Ci 50) (aa (th 50) (aa (vE 50) ae)))) F7 (Ht rfl rfl rfl)
def Dv:TQ dq rk HV:=
 ac (ag (aa qlG (aa Cj (aa yl ae)))) Ms (Of rfl rfl rfl)
def Dw:TQ dq rq Z3:=
 ac (ag (aa Dv ae)) MM (OD rfl)
def IZ:TQ dq qz qiP:=
 ac (ag ae) F6 (Hs)
def tj:TQ dq gN Ry:=
 ub (ag ae) Bz (λ_=>qzU rfl) (qlv)
def jR:TQ dq dK K3:=
 ub (ag (aa tj ae)) zj (λ_=>qzU rfl) (qdy rfl)
def NI:∀n,TQ dq dj (LX n)/\TQ dq jJ (qej n)/\TQ dq eM (Yx n)
 | 0=>⟨Rh,Rh,Rh⟩
 |n+1=>⟨ub (ag (aa (NI n).1 (aa (NI n).2.1 (aa jR ae)))) AJ (λ_=>qzU rfl) (qij n rfl rfl rfl),ub (ag (aa (NI n).1 (aa (NI n).2.2 (aa jR (aa tj ae))))) zi (λ_=>qzU rfl) (qdv n rfl rfl rfl rfl),ub (ag (aa (NI n).1 (aa (NI n).2.2 (aa jR ae)))) wQ (λ_=>qzU rfl) (XX n rfl rfl rfl)⟩
def Xf:TQ dq BY (qkP 50):=
 ac (ag (aa (NI 50).1 ae)) Sj (quO 50 rfl)
def Dd:TQ dq mg qek:=
 ac (ag ae) BA (qik)
def IW:TQ dq dh qkO:=
 ac (ag (aa I3 ae)) F3 (XM rfl)
def KI:TQ dq dD qkQ:=
 ac (ag ae) H6 (JN)
def Du:TQ dq rj qeo:=
 ac (ag (aa yl (aa Pq (aa Xf (aa Dd (aa IZ (aa KI (aa IW ae)))))))) Mr (Od rfl rfl rfl rfl rfl rfl rfl)
def Pc:TQ dq wU (qaf false):=
 ac (ag (aa Du ae)) Mt (Og rfl)
def GX:TQ dq oW (qaf true):=
 ac (ag (aa Du ae)) Ea (E9 rfl)
def Pg:TQ dq xa Z2:=
 ac (ag (aa Dv (aa Pc (aa GX ae)))) ML (OC rfl rfl rfl)
def Ay:TQ dq cv qeD:=
 ac (ag ae) Gc (Hz)
def KL:TQ dq eU PI:=
 ac (ag (aa Ay ae)) Gb (Hy rfl)
def EM:TQ dq bJ ZU:=
 ac (ag (aa Ay (aa KL ae))) Bw (CV rfl rfl)
def ti:TQ dq cH HU:=
 ac (ag (aa Pq ae)) Bv (CU rfl)
def KM:TQ dq sH U0:=
 ac (ag (aa ti ae)) Ij (J0 rfl)
def EN:TQ dq nk qew:=
 ac (ag ae) C0 (DM)
def Pf:TQ dq wZ qev:=
 ac (ag (aa KM (aa EN ae))) MK (OB rfl rfl)
def rS:∀n,TQ dq cI (U7 n)
 | 0=>bC λx h=>qwX h.1
 |n+1=>bY (ag (aa (rS n) ae)) BB (λ_=>qzU rfl) (AX n rfl)
def tm:TQ dq cI L8:=tri_ex (λn=>rS n) (fb (λx h=>h))
def G1:TQ dq pk PK:=
 ac (ag ae) Eg (DO)
def yn:TQ dq bX RI:=
 ac (ag ae) wS (xE)
def ta:TQ dq eR (YC Attr (Jh [(bX,RI)])):=
 ac (ag (aa yn ae)) rE (Lw)
def dM:TQ dq bT Cx:=
 ac (ag (aa ta ae)) zl (AC (S0:=(Jh [(bX,RI)])) rfl rfl)
def wm:TQ dq kj Ma:=
 ac (ag (aa dM ae)) El (Fh rfl)
def G5:TQ dq pp Vf:=
 ac (ag ae) En (Fj)
def jQ:TQ dq dJ RD:=
 ac (ag ae) yZ (Lu)
def mO:TQ dq aZ YA:=
 ac (ag (aa jQ ae)) lN (Fm rfl)
def G2:TQ dq pm U6:=
 ac (ag (aa wm (aa dM (aa EM ae)))) Eh (Fe rfl rfl rfl)
def G4:TQ dq pn Ve:=
 ac (ag (aa G1 (aa G2 (aa Dw (aa dM (aa Yf (aa ti (aa mO ae)))))))) Em (Fi rfl rfl rfl rfl rfl rfl rfl)
def Ae:TQ dq cz qab:=
 ac (ag (aa G4 ae)) yc (yv rfl)
def wk:∀n,TQ dq ib (U3 n)
 | 0=>bC λx h=>by obtain⟨a,lb,_,h,_⟩:=h;cases h
 |n+1=>bY (ag (aa Ae (aa (wk n) ae))) Gi (λ_=>qzU rfl) (Fd n rfl rfl)
def I1:TQ dq ib U2:=tri_ex (λn=>wk n) (fb (λx h=>h))
def lw:TQ dq dm RH:=
 ac (ag (aa tm (aa I1 ae))) AL (AY rfl rfl)
def Da:TQ dq lZ Z1:=
 ac (ag ae) Bn (Q6)
def Ad:TQ dq iP Z6:=
 ac (ag (aa Da ae)) xZ (J3 rfl)
def Cl:TQ dq ck FX:=
 ac (ag (aa Ad ae)) AK (AW rfl)
def vV:TQ dq fK (YC Region (Jh [(ck,FX)])):=
 ac (ag (aa Cl ae)) uF (Ub)
def tb:TQ dq eT (qbW Region (Jh [(ck,FX)])):=
 ac (ag (aa vV ae)) rG (Uc rfl)
def EO:TQ dq nl qez:=
 ac (ag (aa tb ae)) C1 (DP (S0:=(Jh [(ck,FX)])) rfl rfl)
def vG:∀n,TQ dq gj (L9 n)
 | 0=>bC λx h=>by obtain⟨_,y,h⟩:=h;cases h
 | n+1=>
   have g1:TQ dq aP (Yz n):=ac (ag (aa (vG n) ae)) BD (qbC n rfl);have g2:TQ dq cJ (qeu n):=ac (ag (aa g1 ae)) BC (qbB n rfl);have g3:TQ dq eK (YC Cond (Jh [(aP,Yz n),(cJ,qeu n)])):=ac (ag (aa g1 (aa g2 ae))) mE (Pm);have g4:TQ dq bE (qbW Cond (Jh [(aP,Yz n),(cJ,qeu n)])):=ac (ag (aa g3 ae)) jZ (Pn rfl)
   ac (ag (aa g1 (aa g4 (aa wm (aa G5 (aa Pg (aa dM (aa Pf (aa jQ (aa EO ae)))))))))) Ek (qie (S0:=(Jh [(aP,Yz n),(cJ,qeu n)])) n rfl rfl rfl rfl rfl rfl rfl rfl rfl rfl rfl)
def AA:TQ dq mT rX:=
 ac (ag ae) Il (J2)
def wn:TQ dq eO nR:=
 ac (ag (aa AA ae)) Ep (Fl rfl)
def G7:TQ dq pr yD:=
 ac (ag ae) O1 (Q4)
def YP{p:Pat}(h:dc p<=0):False:=by rw[qap]at h;omega
def Ai:TQ dq cv xS:=
 ac (ag ae) If (JY)
def J9:TQ dq eU FV:=
 ac (ag (aa Ai ae)) Ie (JX rfl)
def iA:TQ dq bJ ud:=
 ac (ag (aa Ai (aa J9 ae))) CZ (DL rfl rfl)
def Rc:TQ dq zI qec:=
 ac (ag ae) OU (QV)
def Rd:TQ dq lJ RB:=
 ac (ag (aa Rc ae)) OW (QY rfl)
def OG:TQ dq dw Cw:=
 ac (ag (aa iA ae)) Mz (Oo rfl)
def Lx:TQ dq cU xP:=
 ac (ag ae) Kk (Ln)
def qdh:Nat->Spc:=Jh [(lJ,RB),(dw,Cw),(cU,xP)]
def qy1(n:Nat):Nat->Spc:=Jh [(gh,qel n)]
def qg3{S:Nat->Spc}(h:∀f,TQ dq f (S f)):TQ dq aR (RJ S):=
 ac (ag (aa (ac (S:=S) h tD tY) ae)) qt (ru rfl)
def Am:∀n,TQ dq jn (PA n)
 | 0=>bC λx h=>YP h.1
 | n+1=>
   have h1:TQ dq gh (qel n):=ac (ag (aa (Am n) ae)) Ec (Fb n rfl)
   ac (ag (aa (qg3 (S:=qy1 n) (ag (aa h1 ae))) ae)) H8 (JQ (S0:=qy1 n) n rfl rfl)
def J7:TQ dq jn LY:=
 tri_ex (λn=>Am n) (fb (λx h=>⟨dc x.1,qzX _,h⟩))
def qxK(n:Nat):Nat->Spc:=Jh [(jp,qey qdh n)]
def qxJ(n:Nat):Nat->Spc:=Jh [(aR,RJ (qxK n)),(lJ,RB),(dw,Cw),(cU,xP)]
def qji(n:Nat)(d:D)(f:Pat->Bool)(h:FunIs qdh d f):FunIs (qxJ n) d f:=by
 obtain⟨g,c,pc,a,b,e⟩:=h;refine⟨g,c,pc,a,?_,e⟩;by_cases hg:g=aR
 ·subst hg;have:qdh aR=Spc.none:=rfl;rw[this]at b;cases b
 ·rw[<-b];unfold qxJ qdh;rw[Jh,if_neg hg]
def Dn:∀n,TQ dq fl (Z4 qdh n)
 | 0=>bC λx h=>by obtain⟨f,h1,h2⟩:=h;exact YP h2
 | n+1=>
   have h1:TQ dq jp (qey qdh n):=ac (ag (aa (Dn n) ae)) Ia (JT (S0:=qdh) n rfl)
   ac (S:=qxJ n) (ag (aa (qg3 (S:=qxK n) (ag (aa h1 ae))) (aa Rd (aa OG (aa Lx ae))))) MA (Oq (S0:=qxK n) (N:=qdh) n (qji n) rfl rfl)
def rb:TQ dq fl (A9 qdh):=
 tri_ex (λn=>Dn n) (fb (λx h=>by obtain⟨f,h⟩:=h;exact⟨dc x.1,f,h,qzX _⟩))
def ww:TQ dq mL K5:=
 ac (ag (aa J7 (aa rb ae))) ME (Oy (N:=qdh) rfl rfl rfl)
def wv:TQ dq jw cY:=
 ac (ag (aa ww (aa rb ae))) My (Om (N:=qdh) rfl rfl rfl rfl)
def F1:∀n,TQ dq gg (Rz n)
 | 0=>bC λx h=>YP h.1
 |n+1=>bY (ag (aa (F1 n) ae)) OV (λ_=>qzU rfl) (QW n rfl)
def yz:TQ dq gg Cv:=
 tri_ex (λn=>F1 n) (fb (λx h=>⟨dc x,qzX _,h⟩))
def Bm:∀n,TQ dq kV (U5 n)
 | 0=>bC λx h=>h
 |n+1=>bY (ag (aa (Bm n) ae)) Kl (λ_=>qzU rfl) (Lq n rfl)
def Ly:TQ dq kV PL:=
 tri_ex (λn=>Bm n) (fb (λx h=>h))
def Df:TQ dq ro RE:=
 ac (ag (aa Ly ae)) MB (Ot rfl)
def Bk:∀n,TQ dq dy (Qf n)
 | 0=>rA λd ds H K ⟨id,v,l,a,x,h1,h2,h3,h4,h5⟩=>YP h4.1
 |n+1=>yB (ag (aa (Bk n) (aa Df ae))) An (by decide) (Lo n rfl rfl)
def xI:Tri dq Tryz.prog dy i_leavesQA.pt:=tri_ex (λn=>Bk n) λd ds H K ⟨id,v,l,a,x,h1,h2,h3,h4,h5⟩=>⟨dc x,id,v,l,a,x,h1,h2,h3,⟨qzX _,h4⟩,h5⟩
def tZ:Tri dq Tryz.prog dy s_leavesQ.pt:=LE (Cu (ag (aa xI (aa Df ae))) An (λ_=>qzU rfl) (JR rfl rfl)) xI
def qdK:Tri dq Tryz.prog aZ s_has2.pt:=
 have h:Tri dq Tryz.prog aZ s_hasE.pt:=ac (ag (aa jQ ae)) lN (DJ rfl)
 LE h (LF h rfl λ_=>qmS _)
def Bl:∀n,TQ dq cV (Wb n)
 | 0=>rA λd ds H K ⟨id,v,l,a,x,h1,h2,h3,h4,h5⟩=>YP h4.1
 |n+1=>yB (ag (aa qdK (aa (Bl n) ae))) Ao (by decide) (Lp n rfl rfl)
def xJ:Tri dq Tryz.prog cV i_labelsA.pt:=tri_ex (λn=>Bl n) λd ds H K ⟨id,v,l,a,x,h1,h2,h3,h4,h5⟩=>⟨dc x,id,v,l,a,x,h1,h2,h3,⟨qzX _,h4⟩,h5⟩
def nN:Tri dq Tryz.prog cV s_qlabels.pt:=LE (Cu (ag (aa qdK (aa xJ ae))) Ao (λ_=>qzU rfl) (JS rfl rfl)) xJ
def Te:TQ dq pb qeq:=
 ac (ag ae) Dq (QX)
def Pd:TQ dq mK qae:=
 ac (ag (aa Te ae)) Bu (Ox rfl)
def vW:TQ dq cE qeJ:=
 ac (ag ae) kN (vL)
def jt:TQ dq aS YD:=
 ac (ag (aa vW ae)) iv (rW rfl)
def A2:TQ dq eD qeB:=
 ac (ag (aa ww (aa rb (aa yz (aa nN (aa jt ae)))))) pV (qlw (N:=qdh) rfl rfl rfl rfl rfl rfl rfl)
def GY:TQ dq gi Z9:=
 ac (ag ae) uH (qih)
def I0:TQ dq dT qeC:=
 ac (ag (aa GY ae)) wb (qlx rfl)
def HK:TQ dq fm qlY:=
 ac (ag (aa A2 (aa nN (aa tZ (aa lw (aa jt (aa Pd (aa I0 ae)))))))) wc (qlu rfl rfl rfl rfl rfl rfl rfl)
end Go.Gv
namespace Go.Gv
open Go.Proofs
def vz:CC:=gq Tryz.f52 [2006006] { cu:=[1] } _
def ux:List ak:=[.cell 6 true 7]
def MH:FO wX [2006006] vz ux 28:=fo
def sU:CC:=gq Tryz.f100 [2006006,2006006,2083008,2082008] { cu:=[2,4,6,18,21,24] } _
def sr:List ak:=[.cell 6 true 7]
def Kp:FO kW [2006006,2006006,2083008,2082008] sU sr 110:=fo
def pF:CC:=gq Tryz.f19 [2006006] { cu:=[2,4,7] } _
def od:List ak:=[.cell 6 true 13]
open Cod (enc dec)
variable {S S0:Nat->Spc}
abbrev xQ:Spc:=aL (a1 Int) bW (enc (X:=B)) (λ_ y=>y∈Types)
def qby(h1:S wi=s_m_Mod):am yj xU S (a1 Int) bW (enc (X:=B)) (λ_ y=>y∈Types):=by
 rintro n -;simp[yj,xU,h1];have h3:=MP n 3 (by omega);refine⟨h3.1,h3.2,?_⟩;have:Ip n 3=0\/Ip n 3=1\/Ip n 3=2:=by omega
 rcases this with h|h|h<;>simp[h,Types,quf,qkn,que]
def QA(n:Nat)(x:List Int×Int×List B):Prop:=x.2.1.toNat<n/\ -10<=x.2.1/\x.2.1<=100/\x.2.2.length<=1000
def gc{q:Cond->Prop}{H:ab}{op:Int}{n a v l:B}{f:Bool}{d:D}(ks:List Cond)(hd:FrzTo H d (enc ks))(hq:q ⟨op,n,a,v,l,f,ks⟩):Fin enc q (.agg [.v (.int .i64 op), .v (.string n), .v (.string a), .v (.string v), .v (.string l), .v (.bool f),d]) H:=by
 refine aV (⟨op,n,a,v,l,f,ks⟩:Cond) ?_ hq;rw[qgA];refine .agg rfl λk x y hx hy=>?_
 rcases k with _|_|_|_|_|_|_|k
 ·cases hx;cases hy;exact .same _
 ·cases hx;cases hy;exact .same _
 ·cases hx;cases hy;exact .same _
 ·cases hx;cases hy;exact .same _
 ·cases hx;cases hy;exact .same _
 ·cases hx;cases hy;exact .same _
 ·cases hx;cases hy;exact hd
 ·simp at hx
def qo5(a b c d e f g h:B):D.list 1 [.v (.string a), .v (.string b), .v (.string c), .v (.string d), .v (.string e), .v (.string f), .v (.string g), .v (.string h)]= .list 1 (UH [a,b,c,d,e,f,g,h]):=i' rfl
def qkI(a b c d:B):D.list 1 [.v (.string a), .v (.string b), .v (.string c), .v (.string d)]= .list 1 (UH [a,b,c,d]):=i' rfl
theorem CJ{q:Pat->Prop}{H:ab}{op o:Int}{n a v l lb rg:B}{f:Bool}{cd d:D}{mn mx:Int}(cks:List Cond)(ks:List Pat)(hc:FrzTo H cd (enc cks))(hd:FrzTo H d (enc ks))(hq:q ⟨op,⟨o,n,a,v,l,f,cks⟩,lb,rg,mn,mx,ks⟩):
 Fin enc q (.agg [.v (.int .i64 op), .v (.int .i64 o), .v (.string n), .v (.string a), .v (.string v), .v (.string l), .v (.bool f),cd, .v (.string lb), .v (.string rg), .v (.int .i64 mn), .v (.int .i64 mx),d]) H:=by
 refine aV (⟨op,⟨o,n,a,v,l,f,cks⟩,lb,rg,mn,mx,ks⟩:Pat) ?_ hq;rw[qaT];refine .agg rfl λk x y hx hy=>?_
 rcases k with _|_|_|_|_|_|_|_|_|_|_|_|_|k
 ·cases hx;cases hy;exact .same _
 ·cases hx;cases hy;exact .same _
 ·cases hx;cases hy;exact .same _
 ·cases hx;cases hy;exact .same _
 ·cases hx;cases hy;exact .same _
 ·cases hx;cases hy;exact .same _
 ·cases hx;cases hy;exact .same _
 ·cases hx;cases hy;exact hc
 ·cases hx;cases hy;exact .same _
 ·cases hx;cases hy;exact .same _
 ·cases hx;cases hy;exact .same _
 ·cases hx;cases hy;exact .same _
 ·cases hx;cases hy;exact hd
 ·simp at hx
def qbj(n:Nat)(x:List Int×Int×List B):Prop:=x.2.1.toNat<n/\ -10<=x.2.1/\x.2.1<=100/\x.2.2.length<=1000
def qrb(x:List Int×Int×List B)(p:Pat):Prop:=WP x.2.2 x.2.1.toNat p/\PD x.2.1.toNat p
def ZA(x:List Int×Int×List B)(y:Cond):Prop:=GI x.2.2 x.2.1.toNat y
abbrev L4(n:Nat):Spc:=aL (aT (a2 Int (List B))) (QA n) (enc (X:=Cond)) ZA
def qzG{i:Nat}{a:B}(h:[(⟨#[119,111,114,100]⟩:B),⟨#[119,111,114,100]⟩,⟨#[116,97,103]⟩][i]? =some a):a∈Attr2:=by
 have:=aQ h;simpa [Attr2,LI,qdT]using this
def qxs{i:Nat}{a:B}(h:[(⟨#[119,111,114,100]⟩:B),⟨#[116,97,103]⟩][i]? =some a):a∈Attr2:=aQ h
def qxr{i:Nat}{a:B}(h:[(⟨#[112]⟩:B),⟨#[113]⟩][i]? =some a):a∈FeatL:=aQ h
def qxq{i:Nat}{a:B}(h:[(⟨#[49]⟩:B),⟨#[50]⟩][i]? =some a):a∈NumL:=aQ h
def qyV{i:Nat}{a:B}(h:[(⟨#[97]⟩:B),⟨#[98]⟩,⟨#[97,46,42]⟩,⟨#[91,97,98,93]⟩][i]? =some a):a∈ValsT:=aQ h
def qzF{i:Nat}{a:B}(h:[(⟨#[97]⟩:B),⟨#[98]⟩,⟨#[97,46,42]⟩,⟨#[91,97,98,93]⟩,⟨#[88]⟩,⟨#[]⟩,⟨#[99,63]⟩,⟨#[97,124,98]⟩][i]? =some a):a∈ValsI:=by
 have:=aQ h;simp only[ValsI,qz4,qAF,or_false]at this ⊢;rcases this with h|h|h|h|h|h|h|h<;>simp[h]
theorem XY(n:Nat)(h1:S bP=s_m_Next)(h2:S rP=xQ)(h3:S kW=L4 n):am sU sr S (aT (a2 Int (List B))) (QA (n+1)) (enc (X:=Cond)) ZA:=by
 rintro⟨L,deep,lb⟩ ⟨hn,hd0,hd1,hlb⟩;simp only at hn hd0 hd1 hlb;simp[sU,sr,h1];intro b6 k0 hk0 hk1;refine bi (X:=Int) [0,1,2,6] [6] (λk=>0<=k/\k< 12/\(deep< 1->k< 8)) (λk=>[(7,enc k)]) (λ_=>[]) ?_ ?_
 ·simp;have:k0.tmod 8=k0 % 8:=Int.tmod_eq_emod_of_nonneg hk0;rw[this];omega
 rintro k ⟨q0,q1,q2⟩;refine bi (X:=Unit) [0,1,2,6,7] [6] (λ_=>10<=k) (λ_=>[]) (λ_=>[]) ?_ ?_
 ·simp;refine bi (X:=Bool) [0,1,2,6,7,15] [6] (λb=>b=decide (k< 4)) (λb=>[(16,enc b)]) (λ_=>[]) ?_ ?_
  ·simp
   repeat' first|apply And.intro|intro _
   all_goals first|omega|(rw[qAz];simp;omega)
  rintro b hb;simp[h1,Pt,UG,qo5,qkI,mC,rc,-fB'];refine⟨λ_ y hy0 hy1=>⟨hy0,hy1,λa ha y hy0 hy1=>⟨hy0,hy1,λa' ha' y hy0 hy1=>gc [] (.nil _) (.atom _ _ (.val a a' _ (qzG ha) (qzF ha')))⟩⟩,λhb0=>?_⟩;rw[hb0]at hb;have hb:4<=k:=by simpa using hb.symm
  refine⟨λ_ y hy0 hy1=>⟨hy0,hy1,λa ha=>gc [] (.nil _) (.atom _ _ (.feat a (qxr ha)))⟩,λk4=>⟨λ_ _=>⟨λhl y hy0 hy1=>⟨hy0,hy1,λa ha _=>⟨by omega,λy hy=>⟨by omega,by omega,λa' ha' y hy0 hy1=>⟨hy0,hy1,λa'' ha''=>gc [] (.nil _) (.atom _ _ (.same a a' a'' (qxs ha) (aQ ha') (qxs ha'')))⟩⟩⟩⟩,λ_=>gc [] (.nil _) (.atom _ _ (.val qdT _ false (by simp[Attr2]) (by simp[ValsI])))⟩,λk5=>?_⟩⟩;refine bi (X:=Bool) [0,1,2,6,7,15] [6] (λb=>b=decide (k=6\/k=7)) (λb=>[(67,enc b)]) (λ_=>[]) ?_ ?_
  ·simp
   repeat' first|apply And.intro|intro _
   all_goals first|omega|(rw[qAz];simp;omega)
  rintro b hb2;simp[h1,h2,-fB'];refine⟨λ_ y hy0 hy1=>⟨trivial,λt ht b8=>?_⟩,λhb0=>?_⟩
  ·refine bi (X:=B×B) [6,8] [6] (λx=>(x.1=E0/\x.2=E0)\/(x.1=qrM/\x.2∈NumL)) (λ_=>[]) (λx=>[(8, .box b8 [.v (.int .i64 5), .v (.string t), .v (.string x.1), .v (.string x.2), .v (.string ⟨#[]⟩), .v (.bool false), .v (.slice none 0 0)])]) ?_ ?_
   ·simp[h1,Pt,mC,rc];refineλy hy0 hy1=>⟨λ_ z hz0 hz1=>⟨hz0,hz1,λa ha=>⟨qrM,a, .inr ⟨rfl,qxq ha⟩, .inl ⟨rfl,rfl⟩⟩⟩,λ_=>⟨E0,E0, .inl ⟨rfl,rfl⟩, .inl ⟨rfl,rfl⟩⟩⟩
   ·rintro⟨a,v⟩ hav;simp;refine gc [] (.nil _) (.atom _ _ ?_);rcases hav with⟨rfl,rfl⟩|⟨rfl,hv⟩
    ·exact .reg t ht
    ·exact .regk t v ht hv
  rw[hb0]at hb2;have hb2:¬(k=6\/k=7):=by simpa using hb2.symm
  refine bi (X:=Bool) [0,1,2,6,7,15] [6] (λb=>b=decide (k=8\/k=9)) (λb=>[(85,enc b)]) (λ_=>[]) ?_ ?_
  ·simp
   repeat' first|apply And.intro|intro _
   all_goals first|omega|(rw[qAz];simp;omega)
  rintro b hb3;simp[h3,-fB'];have hrec:1<=deep->QA n (L,deep -1,lb):=λh=>⟨by show(deep -1).toNat<n;omega,by show -10<=deep -1;omega,by show deep -1<=100;omega,hlb⟩
  refine⟨λhb1=>?_,λhb0=>?_⟩
  ·rw[hb1]at hb3;have hb3:k=8\/k=9:=by simpa using hb3.symm
   have hdn:deep.toNat=(deep -1).toNat+1:=by omega
   refine⟨by simp only[InR];omega,hrec (by omega),λy hy=>gc [y] (by simp) (by show GI lb deep.toNat _;rw[hdn];exact .not _ _ hy)⟩
  rw[hb0]at hb3;have hb3:¬(k=8\/k=9):=by simpa using hb3.symm
  omega
 ·rintro -hk;have hrec:QA n (L,deep -1,lb):=⟨by show(deep -1).toNat<n;omega,by show -10<=deep -1;omega,by show deep -1<=100;omega,hlb⟩
  have hdn:deep.toNat=(deep -1).toNat+1:=by omega
  simp[h3];refine⟨by simp only[InR];omega,by simp only[InR];omega,by simp only[InR];omega,hrec,λy hy=>⟨by simp only[InR];omega,hrec,λy' hy'=>gc [y,y'] (by simp) (by show GI lb deep.toNat _;rw[hdn];exact .two _ _ _ _ (by omega) hy hy')⟩⟩
def qlf(x:List Int×Int×List B)(y:Cond):Prop:=GC x.2.2 x.2.1.toNat y
abbrev PG:Spc:=aL (aT (a2 Int (List B))) (λx=> -10<=x.2.1/\x.2.1<=100/\x.2.2.length<=1000) (enc (X:=Cond)) qlf
abbrev Jn:Spc:=aL (aT (a2 Int (List B))) (λx=>∃n,QA n x) (enc (X:=Cond)) ZA
theorem qbz(h1:S bP=s_m_Next)(h3:S kW=Jn):am vz ux S (aT (a2 Int (List B))) (λx=> -10<=x.2.1/\x.2.1<=100/\x.2.2.length<=1000) (enc (X:=Cond)) qlf:=by
 rintro⟨L,deep,lb⟩ ⟨hd0,hd1,hlb⟩;simp only at hd0 hd1 hlb;simp[vz,ux,h1];intro b6;refine bi (X:=Unit) [0,1,2,6] [6] (λ_=>True) (λ_=>[]) (λ_=>[]) ?_ ?_
 ·simp[h1,qkI,mC,rc,-fB'];exactλy _ _=>⟨λ_=>gc [] (.nil _) .any,λ_=>⟨λ_ z z0 z1=>⟨z0,z1,λa ha u _ _=>gc [] (.nil _) (.top a _ (qyV ha))⟩,λ_ _ z z0 z1=>⟨z0,z1,λa ha u _ _=>gc [] (.nil _) (.top a _ (qyV ha))⟩⟩⟩
 ·rintro - -;have hrec:∃n,QA n (L,deep,lb):=⟨deep.toNat+1,Nat.lt_succ_self _,hd0,hd1,hlb⟩
  simp[h3,hrec];exactλy hy=>gc y.kids (.same _) (by show GC lb deep.toNat _;rw[GU y];exact .inner _ hy)
def qmC{p:Pat}{C:Pat->Prop}(h1:¬p.op=1)(h2:p.kids=[]):∀y∈aq p,C y:=by
 rw[ba,if_neg h1,h2];simp
def qmA{p:Pat}{C:Pat->Prop}(h1:p.op=1)(h:C p):∀y∈aq p,C y:=by
 rw[ba,if_pos h1];simpa using h
def qmB{p a:Pat}{C:Pat->Prop}(h1:¬p.op=1)(h2:p.kids=[a])(ha:∀y∈aq a,C y):∀y∈aq p,C y:=by
 rw[ba,if_neg h1,h2];simpa using ha
def qfC{p a b:Pat}{C:Pat->Prop}(h1:¬p.op=1)(h2:p.kids=[a,b])(ha:∀y∈aq a,C y)(hb:∀y∈aq b,C y):∀y∈aq p,C y:=by
 rw[ba,if_neg h1,h2];simp only[qAq,List.flatMap_nil,qA0];intro y hy;rcases qzZ.1 hy with hy|hy
 ·exact ha y hy
 ·exact hb y hy
def N0(x:List Int×Int×List B)(p:Pat):Prop:=qrb x p/\∀y∈aq p,GC x.2.2 1 y.cond
abbrev FU(n:Nat):Spc:=aL (aT (a2 Int (List B))) (qbj n) (enc (X:=Pat)) N0
theorem Q2(n:Nat)(h1:S bP=s_m_Next)(h2:S rP=xQ)(h3:S wX=PG)(h4:S hZ=FU n):am pF od S (aT (a2 Int (List B))) (qbj (n+1)) (enc (X:=Pat)) N0:=by
 rintro⟨L,deep,lb⟩ ⟨hn,hd0,hd1,hlb⟩;simp only at hn hd0 hd1 hlb;simp[pF,od,h1];intro b6 k0 hk0 hk1;refine bi (X:=Int) [0,1,2,6] [6] (λk=>0<=k/\k< 14/\(deep< 1->k< 7)) (λk=>[(7,enc k)]) (λ_=>[]) ?_ ?_
 ·simp;have:k0.tmod 7=k0 % 7:=Int.tmod_eq_emod_of_nonneg hk0;rw[this];omega
 rintro k ⟨q0,q1,q2⟩;refine bi (X:=Unit) [0,1,2,6] [6] (λ_=>12<=k) (λ_=>[]) (λ_=>[]) ?_ ?_
 ·have hrec:1<=deep->qbj n (L,deep -1,lb):=λh=>⟨by show(deep -1).toNat<n;omega,by show -10<=deep -1;omega,by show deep -1<=100;omega,hlb⟩
  have hdn:1<=deep->deep.toNat=(deep -1).toNat+1:=λh=>by omega
  simp[h1,h2,h3,h4,-fB'];refine⟨λhk=>⟨hlb,λc hc b8=>?_⟩,λhk=>⟨λhk7=>⟨by simp only[InR];omega,by simp only[InR];omega,λy _ _=>⟨trivial,λt ht=>CJ [] [] (.nil _) (.nil _) ⟨⟨quC (.inr ⟨by show(2+k -5=2\/2+k -5=3);omega,rfl,rfl,ht,rfl,rfl,rfl⟩),qe8 qa4 rfl⟩,qmC (by show ¬2+k -5=1;omega) rfl⟩⟩⟩,λhk7=>⟨λhk10=>⟨by simp only[InR];omega,hrec (by omega),λy hy=>⟨by simp only[InR];omega,hrec (by omega),λy' hy'=>?_⟩⟩,λhk10 hk12=>⟨by simp only[InR];omega,hrec (by omega),λy hy=>⟨by simp only[InR];omega,hrec (by omega),λy' hy'=>?_⟩⟩⟩⟩⟩
  ·refine bi (X:=B) [6,8] [6] (λx=>x=⟨#[]⟩\/x∈lb) (λ_=>[]) (λx=>[(8, .box b8 [.v (.int .i64 1), .v (.int .i64 c.op), .v (.string c.name), .v (.string c.arg), .v (.string c.val), .v (.string c.lab), .v (.bool c.fold),enc c.kids, .v (.string x), .v (.string ⟨#[]⟩), .v (.int .i64 0), .v (.int .i64 0), .v (.slice none 0 0)])]) ?_ ?_
   ·simp[h1];exactλ_ h0 y _ _ _ _=>⟨by omega,λz hz=>⟨by omega,by omega,λa ha=> .inr ⟨a,aQ ha, .inl rfl⟩⟩⟩
   ·rintro x hx;simp;exact CJ c.kids [] (.same _) (.nil _) ⟨⟨quC (.inl ⟨rfl,hx,rfl,rfl,rfl,rfl⟩),qe8 ⟨_,qj5 (d:=c) rfl (qp8 hc)⟩ rfl⟩,qmA rfl (by show GC lb 1 _;rw[GU c];exact hc)⟩
  ·refine CJ [] [y,y'] (.nil _) (by simp) ?_;refine⟨⟨?_,qe7 (hdn (by omega)) qa4 rfl hy.1.2 hy'.1.2⟩,qfC (by show ¬(4:Int)=1;decide) rfl hy.2 hy'.2⟩;show WP lb deep.toNat _;rw[hdn (by omega)];exact .inr (.inl ⟨.inl rfl,rfl,rfl,rfl,rfl,rfl,y,y',rfl,hy.1.1,hy'.1.1⟩)
  ·refine CJ [] [y,y'] (.nil _) (by simp) ?_;refine⟨⟨?_,qe7 (hdn (by omega)) qa4 rfl hy.1.2 hy'.1.2⟩,qfC (by show ¬(5:Int)=1;decide) rfl hy.2 hy'.2⟩;show WP lb deep.toNat _;rw[hdn (by omega)];exact .inr (.inl ⟨.inr rfl,rfl,rfl,rfl,rfl,rfl,y,y',rfl,hy.1.1,hy'.1.1⟩)
 ·rintro -hk;have hrec:qbj n (L,deep -1,lb):=⟨by show(deep -1).toNat<n;omega,by show -10<=deep -1;omega,by show deep -1<=100;omega,hlb⟩
  have hdn:deep.toNat=(deep -1).toNat+1:=by omega
  have sC:∀(mn mx:Int) (y:Pat) (H:ab),(mn,mx) ∈Xv->N0 (L,deep -1,lb) y->Fin enc (N0 (L,deep,lb)) (.agg [.v (.int .i64 6), .v (.int .i64 0), .v (.string ⟨#[]⟩), .v (.string ⟨#[]⟩), .v (.string ⟨#[]⟩), .v (.string ⟨#[]⟩), .v (.bool false), .v (.slice none 0 0), .v (.string ⟨#[]⟩), .v (.string ⟨#[]⟩), .v (.int .i64 mn), .v (.int .i64 mx), .list 13 [enc y]]) H:=by
   intro mn mx y H hm hy;refine CJ [] [y] (.nil _) (by simp) ?_;refine⟨⟨?_,qmg hdn qa4 rfl hy.1.2⟩,qmB (by show ¬(6:Int)=1;decide) rfl hy.2⟩;show WP lb deep.toNat _;rw[hdn];exact .inr (.inr ⟨rfl,rfl,rfl,rfl,hm,y,rfl,hy.1.1⟩)
  simp only[qaT]at sC;simp[h1,h4];intro y hy0 hy1;refine⟨hy0,hy1,λd hd=>?_⟩;have:y=0\/y=1\/y=2\/y=3\/y=4\/y=5\/y=6:=by omega
  rcases this with rfl|rfl|rfl|rfl|rfl|rfl|rfl
  all_goals (simp at hd;subst hd;simp[h4])
  all_goals exact⟨by simp only[InR];omega,hrec,λy hy=>sC _ _ y _ (by simp[Xv]) hy⟩
end Go.Gv
namespace Go.Gv
open Go.Proofs
def Nh{f:Pat->Bool}(p:Pat)(h:cm f p=true):PAll (λq=>f q=true) p:=by
 induction p using fY with|_ p ih=>?_
 rw[cN,qzT,qzY]at h;exact qi9 h.1 λk hk=>ih k hk (h.2 k hk)
def qcl(p:Pat):PAll vI p->∀q∈sA p,q.op=1->q∈aq p:=by
 induction p using fY with|_ p ih=>?_
 intro hN q hq h1;have hp:=PW hN;rw[ba];cases p with
 | mk op cond lab reg mn mx ks=>
   rw[sA]at hq;rcases qz4.1 hq with rfl|hq
   ·rw[if_pos h1];simp
   ·obtain⟨k,hk,hq⟩:=we hq;split
    ·rename_i e;rcases hp with h|h|h|h
     ·have:=h.2.2.2.2;simp only at this;rw[this]at hk;cases hk
     ·have:=h.1;simp only at this e;omega
     ·have:=h.1;simp only at this e;omega
     ·have:=h.1;simp only at this e;omega
    ·exact qBv.2 ⟨k,hk,ih k hk (Vq hN hk) q hq h1⟩
def qiw:Prop:=aI quf=true/\aI qkn=true/\aI que=true/\aI qnx=true/\aI qoz=true
def xG{b:B}(h:(decide (1<=b.size) && decide (b.size<=32) && (b.data.toList.all λc=>KN c.toNat))=true):aI b=true:=by
 simp only[qzT,decide_eq_true_eq,qzY]at h;have hm:∀(k:Nat) (c:UInt8),b.data[k]? =some c->KN c.toNat=true:=λk c hc=>h.2 c (by rw[<-qAg]at hc;exact qzS hc)
 rw[DT];exact⟨h.1.1,h.1.2,hm 0,λk c hc=>by unfold O9;rw[hm k c hc];rfl⟩
def qlC:qiw:=⟨xG (by decide),xG (by decide),xG (by decide),xG (by decide),xG (by decide)⟩
def Sn{lb:List B} :∀{n:Nat} {c:Cond},GI lb n c->Kw (n+1) c
 |n,_, .atom _ c h=>⟨by rw[zx h];decide,λk hk=>by rw[zx h]at hk;cases hk⟩
 | _,_, .not n k h=>⟨qzU rfl,λz hz=>by rw[qA3]at hz;subst hz;exact Sn h⟩
 | _,_, .two n op a b _ h1 h2=>⟨qzU rfl,λz hz=>by
    simp only[qz4,qAF,or_false]at hz;rcases hz with rfl|rfl
    ·exact Sn h1
    ·exact Sn h2⟩
def qmv{lb:List B}{n:Nat}{c:Cond}(h:GC lb n c):∃m,Kw m c:=by
 cases h with
 |any=>exact⟨1,by decide,λk hk=>by cases hk⟩
 |top v f h=>exact⟨1,qzU rfl,λk hk=>by cases hk⟩
 |inner c h=>exact⟨_,Sn h⟩
structure qbp (c:Corpus):Prop where
 ok:OkCorp c
 few:c.toks.length<=60


open Cod (enc dec)
variable {S S0:Nat->Spc}
end Go.Gv
namespace Go.Gv
open Go.Proofs
def Gd:FO hZ [2006006] pF od 103:=fo
open Go.Proofs Cod
variable {dq:Prop}
def G0:TQ dq rP xQ:=
 ac (ag (aa Ro ae)) PZ (qby rfl)
def Az:∀n,TQ dq kW (L4 n)
 | 0=>bC λx h=>by have:=h.1;omega
 |n+1=>bY (ag (aa cQ (aa G0 (aa (Az n) ae)))) Kp (λ_=>qzU rfl) (XY n rfl rfl rfl)
def NK:TQ dq kW Jn:=tri_ex (λn=>Az n) (fb (λx h=>h))
def Pe:TQ dq wX PG:=
 ac (ag (aa cQ (aa NK ae))) MH (qbz rfl rfl)
def ym:∀n,TQ dq hZ (FU n)
 | 0=>bC λx h=>by have:=h.1;omega
 |n+1=>bY (ag (aa cQ (aa G0 (aa Pe (aa (ym n) ae))))) Gd (λ_=>qzU rfl) (Q2 n rfl rfl rfl rfl)
end Go.Gv
namespace Go.Gv
open Go.Proofs


open Cod (enc dec)
variable {S S0:Nat->Spc}
end Go.Gv
namespace Go.Gv
open Go.Proofs Cod
variable {dq:Prop}
def Dm:∀n,TQ dq mI (K1 n)
 | 0=>bC λx h=>YP h.1
 |n+1=>bY (ag (aa (Dm n) ae)) Mx (λ_=>qzU rfl) (Ol n rfl)
def OF:TQ dq mI FK:=
 tri_ex (λn=>Dm n) (fb (λx h=>⟨dc x,qzX _,h⟩))
def Dg:TQ dq gD Cy:=
 ac (ag (aa wv (aa OF ae))) MD (Ow rfl rfl)
end Go.Gv
namespace Go.Gv
variable {S S0:Nat->Spc}
mutual
def ni:Glob->Nat| .mk _ _ _ _ _ _ _ _ _ _ ks=>nH ks+1
def nH:List Glob->Nat|[]=>0|k::ks=>max (ni k) (nH ks)
end
def Iu:∀{ks:List Glob} {k:Glob},k∈ks->ni k<=nH ks
 | x::ks,k,h=>by
   rw[nH];rcases qz4.1 h with rfl|h
   ·omega
   ·have:=Iu h;omega
def Wn{p k:Glob}(h:k∈p.kids):ni k<ni p:=by
 have:=Iu h;cases p;rw[ni];simp only at this;omega
mutual
def Er:Glob->Nat| .mk _ _ _ _ _ _ _ _ _ _ ks=>nG ks+1
def nG:List Glob->Nat|[]=>0|k::ks=>Er k+nG ks
end
def qav(x:Glob):Er x=nG x.kids+1:=by cases x;rw[Er]
def Lb(x:Glob):ni x=nH x.kids+1:=by cases x;rw[ni]
def In:∀(a b:List Glob),nG (a++b)=nG a+nG b
 | [],b=>by rw[qAT,nG];omega
 |k::a,b=>by rw[qAE,nG,nG,In a b];omega
def Qh:∀(a b:List Glob),nH (a++b)=max (nH a) (nH b)
 | [],b=>by rw[qAT,nH];omega
 |k::a,b=>by rw[qAE,nH,nH,Qh a b];omega
def qcg{ks:List Glob}{k:Nat}{x:Glob}(h:ks[k]? =some x):nG (ks.take (k+1))=nG (ks.take k) +Er x/\nH (ks.take (k+1))=max (nH (ks.take k)) (ni x)/\nG (ks.take (k+1))<=nG ks:=by
 have e:=av h;refine⟨by rw[e,In,nG,nG];omega,by rw[e,Qh,nH,nH];omega,?_⟩
 conv=>rhs;rw[<-qAs (k+1) ks,In]
 omega
def qmO{lb:List B}{n:Nat}{g:Glob}(h:GG lb n g):Er g< 2^ (n+1)/\ni g<=n+1:=by
 induction h with
 |not n k h ih=>rw[Er,ni,Nat.pow_succ];simp only[nG,nH];omega
 |two n op a b ho h1 h2 ih1 ih2=>rw[Er,ni,Nat.pow_succ];simp only[nG,nH];omega
 |bound n|val n|same n|dist n|reg n|head n|path n|node n|depth n=>have:=Nat.one_le_two_pow (n:=n);rw[Er,ni,Nat.pow_succ];simp only[nG,nH];omega
def qf7{lb:List B}{n:Nat}{g k:Glob}(h:GG lb n g)(hk:k∈g.kids):∃m,m<=n/\GG lb m k:=by
 cases h with
 | not n k' h=>
   simp at hk;subst hk;exact⟨n,by omega,h⟩
 | two n op a b ho h1 h2=>
   simp at hk;rcases hk with rfl|rfl
   ·exact⟨n,by omega,h1⟩
   ·exact⟨n,by omega,h2⟩
 | _=>cases hk
end Go.Gv
namespace Go.Gv
open Go.Proofs
def qK:CC:=gq Tryz.f116 [3] {} _
def qf:List ak:=[.tmp 6, .tmp 7]
def H9:FO jo [3] qK qf 40:=fo
def bQ:CC:=gq Tryz.f118 [1,2029005,2028005,2027005,2026005,2037005,2036005,2045005,2044005,2068005,2067005,2066005] {} _
def bO:List ak:=[.tmp 2]
def OY:FO ej [1,2029005,2028005,2027005,2026005,2037005,2036005,2045005,2044005,2068005,2067005,2066005] bQ bO 155:=fo
def vu:CC:=gq Tryz.f117 [3,2] {} _
def ur:List ak:=[.tmp 4]
def MC:FO mJ [3,2] vu ur 15:=fo
def qM:CC:=gq Tryz.f182 [2] {} _
def qh:List ak:=[.tmp 3]
def Ib:FO fR [2] qM qh 8:=fo
def dv:CC:=gq Tryz.f181 [] {} _
def dt:List ak:=[.tmp 4]
def nK:FO dx [] dv dt 9:=fo
def dW:CC:=gq Tryz.f240 [] {} _
def dP:List ak:=[.tmp 4]
def qs:FO eC [] dW dP 19:=fo
def lg:CC:=gq Tryz.f184 [] {} _
def kD:List ak:=[.tmp 2]
def Bt:FO eY [] lg kD 10:=fo
def eF:CC:=gq Tryz.f183 [] {} _
def eu:List ak:=[.tmp 4]
def rF:FO eS [] eF eu 9:=fo
def fB:CC:=gq Tryz.f241 [] {} _
def ft:List ak:=[.tmp 4]
def uE:FO fJ [] fB ft 19:=fo
end Go.Gv
