/- W190 -/
import Derived.Test.YtnffegdacbdhmaaGreatDoorGd23
set_option linter.all false
set_option maxRecDepth 100000
set_option maxHeartbeats 0
open Bool renaming forall_bool → fB', exists_bool → eB'
namespace Go.Gv
open Cod (enc dec)
variable {S S0:Nat->Spc}
def qbv{σ:Sg}{H:ab}{k j b el n:Nat}{cs cs':List D}(hkj:j≠k)(hk:H k=some (.box b cs))(hl:cs.length=cs'.length)(hc:∀(m:Nat) (c c':D),cs[m]? =some c->cs'[m]? =some c'->FrzTo cY c c'):
 Wk σ H σ (ai (ai H k (some (.box b cs'))) j (some (.row (.slice none 0 0) el n []))):=by
 refine XM (Hf:=cY) id (λt=> .same _) (λi r h=>?_) (λi j r s _ _ e=> .inl e) (λi r h=>by simp[cY]at h);by_cases e:i=j
 ·subst e;simp[ai]at h;subst h;exact .inr ⟨rfl,rfl⟩
 ·by_cases e2:i=k
  ·subst e2;simp[ai,e]at h;subst h;exact .inl ⟨_,hk, .inr ⟨rfl,hl,hc⟩⟩
  ·simp only[ai,e,e2,if_false]at h;exact .inl ⟨r,h, .inl rfl⟩
def Kv:Nat->Cond->Prop
 | 0,_=>False
 |n+1,x=>x.kids.length<=1000000/\∀k∈x.kids,Kv n k
abbrev U6(n:Nat):Spc:=aL (a1 Cond) (Kv n) (enc (X:=Cond)) λx y=>y=x
theorem Lp(n:Nat)(h1:S kZ=U6 n):am sQ sj S (a1 Cond) (Kv (n+1)) (enc (X:=Cond)) λx y=>y=x:=by
 rintro⟨op,name,arg,val,lab,fold,kids⟩ ⟨hlen,hk⟩;simp only at hlen hk;simp[sQ,sj];intro b2 b3 hkl;refine HK (qbv (k:=3) (j:=20) (b:=b3) (el:=eJ) (n:=7) (cs':=[.v (.int .i64 op), .v (.string name), .v (.string arg), .v (.string val), .v (.string lab), .v (.bool fold), .own 20 (.slice none 0 0)]) (by decide) (by simp;rfl) (by simp) ?_) ?_
 ·intro m c c' hc hc'
  match m with
  | 0|1|2|3|4|5=>simp at hc hc';subst hc;subst hc';exact .same _
  | 6=>simp at hc hc';subst hc;subst hc';exact .nilown _
  |m+7=>simp at hc
 refine ah (X:=Value×List Cond) [2,9] [2] kids.length (λk x=>x.2=kids.take k) (λx=>[(3, .bptr 3 b3 0)]) (λx=>[(3, .box b3 [.v (.int .i64 op), .v (.string name), .v (.string arg), .v (.string val), .v (.string lab), .v (.bool fold), .own 20 x.1]),(20, .row x.1 eJ 7 (x.2.map enc))]) (.slice none 0 0, []) (by simp) ?_ ?_
 ·rintro k ⟨v,m⟩ hkl' hm;simp only at hm;obtain⟨x,hx⟩:=aQ hkl';obtain⟨_,hgx⟩:=qzV.1 hx;have hx1:=hk x (aP hx);have hml:m.length=k:=by rw[hm,qAq];omega
  simp[h1,hkl',hx,hgx,hx1];refine⟨by omega,by omega,λv=> .inl (.inl ?_)⟩;rw[hm,List.map_take,qA6];simp[hx]
 ·rintro⟨v,m⟩ hm;simp only at hm;rw[qAb]at hm;subst hm;simp;refine ba (Y:=Cond) ⟨op,name,arg,val,lab,fold,m⟩ ?_ rfl;simp;refine .agg (by simp) λi c c' h h'=>?_
  match i with
  | 0|1|2|3|4|5=>simp at h h';subst h;subst h';exact .same _
  | 6=>simp at h h';subst h;subst h';exact fG eJ (by simp)
  |i+7=>simp at h
def qzI{H:ab}{l l':List D}(h:FzL H l l'):FrzTo H (.agg l) (.agg l'):= .agg h.get.1 h.get.2
abbrev PL:Spc:=aL (a1 Cond) (λx=>∃n,Kv n x) (enc (X:=Cond)) λx y=>y=x
def mq(p:Pat):Pat:=⟨p.op,p.cond,p.lab,⟨#[]⟩,0,0, []⟩
abbrev RD:Spc:=aL (a1 Pat) (λp=>∃n,Kv n p.cond) (enc (X:=Pat)) λx y=>y=mq x
def Ot(h1:S kZ=PL):am vp uo S (a1 Pat) (λp=>∃n,Kv n p.cond) (enc (X:=Pat)) λx y=>y=mq x:=by
 rintro p hp;simp[vp,uo,h1,hp];intro b;refine ba (Y:=Pat) (mq p) ?_ rfl;unfold mq;simp;refine qzI ?_;simp
def bz(p:Pat):List Pat:=(aq p).map mq
def zx(p:Pat):bz p=if p.op=1 then[mq p]else p.kids.flatMap bz:=by
 unfold bz;rw[bc];split
 ·rfl
 ·rw[List.map_flatMap]
def PLc(p:Pat):Prop:=∀y∈aq p,∃n,Kv n y.cond
def PLc.kid{p k:Pat}(h:PLc p)(hne:¬p.op=1)(hk:k∈p.kids):PLc k:=λy hy=>h y (by rw[bc,if_neg hne];exact qBB.2 ⟨k,hk,hy⟩)
def qfE{ks:List Pat}{k:Nat}{x:Pat}(l:List Pat)(hx:ks[k]? =some x):(l++ (ks.take k).flatMap bz) ++bz x=l++ (ks.take (k+1)).flatMap bz:=by
 rw[au hx,qB4,List.flatMap_singleton,qAH]
def qdn(x:Pat)(l:List Pat):Prop:=l.length+ (aq x).length<=100000000/\PLc x
def qmC(ks:List Pat):(ks.flatMap bz).length=(ks.flatMap aq).length:=by
 induction ks with
 |nil=>rfl
 |cons k ks ih=>simp only[qAw,qAm,ih];unfold bz;simp
def qfD{ks:List Pat}{k:Nat}{x:Pat}{l:List Pat}(hx:ks[k]? =some x)(h:l.length+ (ks.flatMap aq).length<=100000000)(hc:PLc x):qdn x (l++ (ks.take k).flatMap bz):=by
 have:=YY hx h;unfold qhJ at this;refine⟨?_,hc⟩;simp only[qAm]at this ⊢;rw[qmC];exact this
abbrev Qf(n:Nat):Spc:=qhX (X:=Pat) (Y:=Pat) (λx l=>db x<=n/\qdn x l) (λx l r=>r=l++bz x) aK 13
abbrev i_leavesQA:Spc:=qhX (X:=Pat) (Y:=Pat) (λx l=>qdn x l) (λx l r=>r=l++bz x) aK 13
theorem Ln(n:Nat)(h1:S dy=Qf n)(h2:S ro=RD):NX (X:=Pat) (Y:=Pat) jr jk S (λx l=>db x<=n+1/\qdn x l) (λx l r=>r=l++bz x) aK 13:=by
 rintro v l p ⟨hp,hl,hc⟩;have hk:∀k∈p.kids,db k<=n:=λk hk=>by have:=kQ hk;have:db p<=n+1:=hp;omega
 have hl':=hl;rw[bc]at hl';simp[jr,jk,h2];refine⟨λh1=>?_,λhne _=>?_⟩
 ·have hcc:∃n,Kv n p.cond:=hc p (by rw[bc,if_pos h1];simp);simp[h1]at hl';exact⟨hcc,by omega,by omega,λv=>dF (l++bz p) (by simp[zx,h1]) rfl⟩
 rw[if_neg hne]at hl';refine ah (X:=Value×List Pat) [16] [] p.kids.length (λk x=>x.2=l++ (p.kids.take k).flatMap bz) (λx=>[(1, .own 1 x.1)]) (λx=>[(1, .row x.1 aK 13 (x.2.map enc))]) (v,l) (by simp) ?_ ?_ (hh:=by simp[isNilRow])
 ·rintro k ⟨v,m⟩ hkl hm;simp only at hm;obtain⟨x,hx⟩:=aQ hkl;have hx1:=aP hx;obtain⟨_,hgx⟩:=qzV.1 hx;have q1:=qfD hx hl' (hc.kid hne hx1);rw[<-hm]at q1;have q2:=hk x hx1;simp[h1,hkl,hx,hgx,q1,q2];intro v';refine .inl ?_;rw[hm,qfE _ hx]
 ·rintro⟨v,m⟩ hm;simp only at hm;rw[qAb]at hm;simp;refine dF m (by simp) ?_;rw[hm,zx,if_neg hne]
abbrev qcT:Spc:=qop (Y:=Pat) (aE Pat (aD a0)) (λx=>x.2.1=P5/\qdn x.1 []) (λx r=>r=bz x.1) aK 13
theorem JR(h1:S dy=i_leavesQA)(h2:S ro=RD):Xw (Y:=Pat) jr jk S (aE Pat (aD a0)) (λx=>x.2.1=P5/\qdn x.1 []) (λx r=>r=bz x.1) aK 13:=by
 rintro⟨p,d,⟨⟩⟩ ⟨hd,hl,hc⟩;have hd:d=P5:=hd;subst hd;have hl':([]:List Pat).length+ (aq p).length<=100000000:=hl;rw[bc]at hl';simp[jr,jk,h2];refine⟨λh1=>⟨hc p (by rw[bc,if_pos h1];simp),λv=>dF (bz p) (by simp[zx,h1]) rfl⟩,λhne _=>?_⟩;rw[if_neg hne]at hl';refine ah (X:=Value×List Pat) [16] [] p.kids.length (λk x=>x.2=[] ++ (p.kids.take k).flatMap bz) (λx=>[(1, .own 1 x.1)]) (λx=>[(1, .row x.1 aK 13 (x.2.map enc))]) (.slice none 0 0, []) (by simp) ?_ ?_ (hh:=by simp[isNilRow])
 ·rintro k ⟨v,m⟩ hkl hm;simp only at hm;obtain⟨x,hx⟩:=aQ hkl;have hx1:=aP hx;obtain⟨_,hgx⟩:=qzV.1 hx;have q1:=qfD hx hl' (hc.kid hne hx1);rw[<-hm]at q1;simp[h1,hkl,hx,hgx,q1];intro v';refine .inl ?_;rw[hm,qfE _ hx];rfl
 ·rintro⟨v,m⟩ hm;simp only at hm;rw[qAb]at hm;simp;refine dF m (by simp) ?_;rw[hm,zx,if_neg hne];rfl
abbrev s_leavesQ:Spc:=qmi qcT i_leavesQA
abbrev ud:Spc:=aL (a1 Pat) (λx=>qdn x []) (enc (X:=List Pat)) λx y=>y=if fJ aJ x then bz x else[]
def qW(out:List B)(x:B):List B:=if x=E0 then out else Df out x
mutual
def bM:Pat->List B->List B
 | .mk op c l r mn mx ks,out=>M1 ks (qW out l)
def M1:List Pat->List B->List B
 | [],out=>out
 |k::ks,out=>M1 ks (bM k out)
end
def JD:∀(l:List Pat) (out:List B),M1 l out=l.foldl (λo k=>bM k o) out
 | [],out=>by rw[M1];rfl
 |k::l,out=>by rw[M1,JD l];rfl
def rI(p:Pat)(out:List B):bM p out=p.kids.foldl (λo k=>bM k o) (qW out p.lab):=by
 cases p;rw[bM,JD]
def NW(out:List B)(x:B):(qW out x).length<=out.length+1:=by
 unfold qW Df;split
 ·omega
 ·split
  ·omega
  ·simp
def qcB(p:Pat):∀out,(bM p out).length<=out.length+da p:=by
 induction p using fZ with|_ p ih=>?_
 intro out;rw[rI,cw];have:∀(ks:List Pat) (o:List B),(∀k∈ks,k∈p.kids)->(ks.foldl (λo k=>bM k o) o).length<=o.length+bi ks:=by
  intro ks
  induction ks with
  |nil=>intro o _;simp[bi]
  | cons k ks ihk=>
    intro o hk;rw[qAU,bi];have h1:=ihk (bM k o) λz hz=>hk z (by simp[hz])
    have:=ih k (hk k (by simp)) o;omega
 have h1:=this p.kids (qW out p.lab) λ_ h=>h
 have h2:=NW out p.lab;omega
def Qb(ks:List Pat)(k:Nat)(lb:List B):((ks.take k).foldl (λo k=>bM k o) lb).length<=lb.length+bi (ks.take k):=by
 generalize ks.take k=l
 induction l generalizing lb with
 |nil=>simp[bi]
 | cons a l ih=>
   rw[qAU,bi];have h1:=ih (bM a lb);have h2:=qcB a lb;omega
def qfW(l:List B)(x:B):Bool:=l.any λz=>decide (z=x)
def M7{l:List B}{x:B} :qfW l x=true↔x∈l:=by
 unfold qfW;rw[qBa];exact⟨λ⟨z,h1,h2⟩=>by rw[decide_eq_true_eq]at h2;rwa [<-h2],λh=>⟨x,h,decide_eq_true rfl⟩⟩
abbrev s_hasE:Spc:=aL (aE (List B) (a1 B)) (λ_=>True) (enc (X:=Bool)) λx y=>y=qfW x.1 x.2
abbrev qq2:Spc:=quc (Y:=B) (a1 B) (λ_=>True) (enc (X:=Bool)) (λx y=>y=qfW x.1 x.2) av 1
def DM(h1:S dJ=RC):am cE cB S (aE (List B) (a1 B)) (λ_=>True) (enc (X:=Bool)) λx y=>y=qfW x.1 x.2:=by
 rintro⟨l,x⟩ -;simp[cE,cB,h1];exact zy _ l
abbrev s_has2:Spc:=qmi s_hasE qq2
def qhK(x:Pat)(l:List B):Prop:=l.length+da x<=1000000
def qrd(x:Pat)(l r:List B):Prop:=r=bM x l
abbrev Wd(n:Nat):Spc:=qhX (X:=Pat) (Y:=B) (λx l=>db x<=n/\qhK x l) qrd av 1
abbrev i_labelsA:Spc:=qhX (X:=Pat) (Y:=B) qhK qrd av 1
theorem Lo(n:Nat)(h0:S aZ=s_has2)(h1:S cU=Wd n):NX (X:=Pat) (Y:=B) js jl S (λx l=>db x<=n+1/\qhK x l) qrd av 1:=by
 rintro v lb p ⟨hd,hl⟩;have hk:∀k∈p.kids,db k<=n:=λk h=>by have:=kQ h;have:db p<=n+1:=hd;omega
 have hl:lb.length+da p<=1000000:=hl;have hpn:=cw p;simp[js,jl,h0];refine bj (X:=Value) [2] [] (λ_=>True) (λv=>[(1, .own 1 v)]) (λv=>[(1, .row v av 1 ((qW lb p.lab).map enc))]) ?_ ?_
 ·simp[h0,-fB'];refine⟨λhn=>?_,λhe=>?_⟩
  ·have hn:¬p.lab=E0:=hn;refine .inr ⟨λhf=>⟨by omega,by omega,λv=> .inl ?_⟩,λht=> .inl ?_⟩
   ·rw[qW,if_neg hn,Df,if_neg (λh=>by rw[M7.2 h]at hf;cases hf)];simp
   ·rw[qW,if_neg hn,Df,if_pos (M7.1 ht)]
  ·have he:p.lab=E0:=he;refine .inl ?_;rw[qW,if_pos he]
 ·rintro v -;have hae:=NW lb p.lab;simp;intro hkl;refine ah (X:=Value×List B) [23] [] p.kids.length (λk x=>x.2=(p.kids.take k).foldl (λo k=>bM k o) (qW lb p.lab)) (λx=>[(1, .own 1 x.1)]) (λx=>[(1, .row x.1 av 1 (x.2.map enc))]) (v,qW lb p.lab) (by simp) ?_ ?_
  ·rintro k ⟨v,ls⟩ hkk hls;simp only at hls;obtain⟨x,hx⟩:=aQ hkk;obtain⟨_,hgx⟩:=qzV.1 hx;have hq:qhK x ls:=by
    have h2:=Qb p.kids k (qW lb p.lab);rw[<-hls]at h2;have h4:bi (p.kids.take k) +bi (p.kids.drop k)=bi p.kids:=by rw[<-CD,qAz]
    rw[bB hx,bi]at h4;show ls.length+da x<=_;omega
   have hq2:=hk x (aP hx);simp[hkk,hx,hgx,h1,hq,hq2];intro v' l' hy;obtain rfl:l'=bM x ls:=hy;refine .inl ?_;rw[au hx,qBU,<-hls];rfl
  ·rintro⟨v,ls⟩ hls;simp only at hls;rw[qAb]at hls;simp;refine dF ls (by simp) ?_;show ls=bM p lb;rw[rI,hls]
abbrev qgp:Spc:=qop (Y:=B) (aE Pat (aD a0)) (λx=>x.2.1= .v (.slice none 0 0)/\qhK x.1 []) (λx r=>qrd x.1 [] r) av 1
theorem JS(h0:S aZ=s_has2)(h1:S cU=i_labelsA):Xw (Y:=B) js jl S (aE Pat (aD a0)) (λx=>x.2.1= .v (.slice none 0 0)/\qhK x.1 []) (λx r=>qrd x.1 [] r) av 1:=by
 rintro⟨p,d,⟨⟩⟩ ⟨hd,hl⟩;have hd:d= .v (.slice none 0 0):=hd;subst hd;have hl:0+da p<=1000000:=hl;have hpn:=cw p;simp[js,jl,h0];refine bj (X:=Value) [2] [] (λ_=>True) (λv=>[(1, .own 21 v)]) (λv=>[(21, .row v av 1 ((qW [] p.lab).map enc))]) ?_ ?_
 ·simp[h0,-fB'];refine⟨λhn=>?_,λhe=>?_⟩
  ·have hn:¬p.lab=E0:=hn;refine .inl ⟨λhf v=> .inl ?_,λht=>absurd (M7.1 ht) (by simp)⟩;rw[qW,if_neg hn,Df,if_neg (by simp)];simp
  ·have he:p.lab=E0:=he;rw[qW,if_pos he];simp[isNilRow]
 ·rintro v -;have hae:=NW [] p.lab;simp;intro hkl;refine ah (X:=Value×List B) [23] [] p.kids.length (λk x=>x.2=(p.kids.take k).foldl (λo k=>bM k o) (qW [] p.lab)) (λx=>[(1, .own 21 x.1)]) (λx=>[(21, .row x.1 av 1 (x.2.map enc))]) (v,qW [] p.lab) (by simp) ?_ ?_
  ·rintro k ⟨v,ls⟩ hkk hls;simp only at hls;obtain⟨x,hx⟩:=aQ hkk;obtain⟨_,hgx⟩:=qzV.1 hx;have hq:qhK x ls:=by
    have h2:=Qb p.kids k (qW [] p.lab);rw[<-hls]at h2;have hae2:(qW [] p.lab).length<=0+1:=hae;have h4:bi (p.kids.take k) +bi (p.kids.drop k)=bi p.kids:=by rw[<-CD,qAz]
    rw[bB hx,bi]at h4;show ls.length+da x<=_;omega
   simp[hkk,hx,hgx,h1,hq];intro v' l' hy;obtain rfl:l'=bM x ls:=hy;refine .inl ?_;rw[au hx,qBU,<-hls];rfl
  ·rintro⟨v,ls⟩ hls;simp only at hls;rw[qAb]at hls;simp;refine dF ls (by simp) ?_;show ls=bM p [];rw[rI,hls]
abbrev s_qlabels:Spc:=qmi qgp i_labelsA
end Go.Gv
namespace Go.Gv
open Go.Proofs
section
variable {T:St3->St3->Prop}(h0:∀s,T s s)(h1:∀s t u,T s t->T t u->T s u)(r:Rn)
include h0 h1
end
open Cod (enc dec)
variable {S S0:Nat->Spc}
structure qrq (c:Corpus) (p:Pat):Prop where
 sz:qo2 c
 few:c.toks.length<=170
 pat:fJ aJ p=true
 l3:(bM p []).length<=3
 num:da p<=1000000
 nd:∀t∈c.texts,Jd (qzP (qeR c (bM p []) t)) p
structure quA (a:List Attr) (q:Qry):Prop where
 glob:q.glob=GlobE
 filts:q.filts=[]
 strat:q.strat=0
 pat:fJ aJ q.pat=true
 size:fj q.pat<=256
 l3:(bM q.pat []).length<=3
 num:da q.pat<=1000000
 att:a.length<=1000
 lv:∀x∈aq q.pat,qhW a (bM q.pat []) x.cond=true/\∃n,Kv n x.cond
abbrev FT(V:List Attr->Qry->Prop):Spc:=aL (a2 Qry (List Attr)) (λx=>V x.2 x.1) (enc (X:=Int)) λ_ y=>y=0
abbrev qlW:Spc:=FT quA
structure qrk (V:List Attr->Qry->Prop) (c:Corpus) (q:Qry):Prop where
 v:V c.attrs q
 f:qrq c q.pat
abbrev qeq:Spc:=aL (a1 Glob) (λg=>g=GlobE) (enc (X:=Bool)) λx y=>y=true
def QY:am jx jv S (a1 Glob) (λg=>g=GlobE) (enc (X:=Bool)) λx y=>y=true:=by
 rintro x rfl;simp[jx,jv,GlobE,E0,-fB']
abbrev qah:Spc:=aL (a1 Glob) (λg=>g=GlobE) (enc (X:=Bool)) λx y=>y=true
def Ox(h1:S pg=qeq):am iq gW S (a1 Glob) (λg=>g=GlobE) (enc (X:=Bool)) λx y=>y=true:=by
 rintro x rfl;simp[iq,gW,h1,-fB']
abbrev qeI:Spc:=aL (aE (List tM) (aD a0)) (λx=>x.1=[]) (enc (X:=Int)) λx y=>y= -1
def vJ:am cm bZ S (aE (List tM) (aD a0)) (λx=>x.1=[]) (enc (X:=Int)) λx y=>y= -1:=by
 rintro⟨l,d,⟨⟩⟩ h;have h:l=[]:=h;subst h;simp[cm,bZ,-fB'];refine ah (X:=Unit) [] [] 0 (λ_ _=>True) (λ_=>[]) (λ_=>[]) () trivial (λk x hk=>absurd hk (by omega)) (λ_ _=>?_);simp
abbrev YE:Spc:=aL (aE (List tM) (aD a0)) (λx=>x.1=[]) (enc (X:=Bool)) λx y=>y=false
def rX(h1:S cD=qeI):am bI bH S (aE (List tM) (aD a0)) (λx=>x.1=[]) (enc (X:=Bool)) λx y=>y=false:=by
 rintro⟨l,d,⟨⟩⟩ h;have h:l=[]:=h;subst h;simp[bI,bH,h1,-fB']
abbrev qeC:Spc:=aL (a3 Glob (List Attr) (List B)) (λx=>x.1=GlobE) (enc (X:=Int)) λ_ y=>y=0
abbrev qac:Spc:=aL (a3 Glob (List Attr) (List B)) (λx=>x.1=GlobE) (enc (X:=Int)) λ_ y=>y=0
structure qxS (q:Qry):Prop where
 filts:q.filts=[]
 strat:q.strat=0
 pat:fJ aJ q.pat=true
 size:fj q.pat<=256
 l3:(bM q.pat []).length<=3
 num:da q.pat<=1000000
abbrev qeB:Spc:=aL (a1 Qry) qxS (enc (X:=Int)) λ_ y=>y=0
theorem qlt{N:Nat->Spc}(h0:N dv=Cx)(h0':N cT=xO)(h1:S mO=K4)(h2:S fl=Bc N)(h3:S gg=Cw)(h4:S cU=s_qlabels)(h5:S aS=YE):
 am dL dH S (a1 Qry) qxS (enc (X:=Int)) λ_ y=>y=0:=by
 rintro q hq;have f1:FunIs N (.clo dv []) (mI aJ):=uI h0 λ_=>trivial
 have f2:FunIs N (.clo cT []) lJ:=uI h0' λ_=>trivial
 have hp:=hq.pat;unfold fJ at hp;simp only[qzZ]at hp;obtain⟨⟨⟨p1,p2⟩,p3⟩,p4⟩:=hp;have hsz:=hq.size;have hsz2:¬256<fj q.pat:=by omega
 have hl3:=hq.l3;have hPb:qhK q.pat []:=by show 0+da q.pat<=1000000;have:=hq.num;omega
 simp[dL,dH,h1,p1,p2,h2,hq.filts,hq.strat,h3,hq.pat,hsz,hsz2,h5,-fB',-eB'];refine⟨⟨_,f1⟩,λy hy=>⟨λ_=>⟨⟨_,f2⟩,λz hz=>⟨by rw[hz _ f2,p4],λ_=>?_⟩⟩,by rw[hy _ f1,p3]⟩⟩;simp[h4,-fB',-eB'];refine .inl ⟨hPb,λl hl _=>?_⟩;have hl:l=bM q.pat []:=hl;subst hl;omega
def qie:am aB aA S (a3 Glob (List Attr) (List B)) (λx=>x.1=GlobE) (enc (X:=Int)) λ_ y=>y=0:=by
 rintro⟨g,a,lb⟩ h;have h:g=GlobE:=h;subst h;simp[aB,aA,GlobE,-fB',-eB']
def qlu(h1:S gi=qac):am gm fW S (a3 Glob (List Attr) (List B)) (λx=>x.1=GlobE) (enc (X:=Int)) λ_ y=>y=0:=by
 rintro⟨g,a,lb⟩ h;have h:g=GlobE:=h;subst h;simp[gm,fW,h1,-fB',-eB'];simp[GlobE,-fB',-eB'];refine ah (X:=Unit) [] [] 0 (λ_ _=>True) (λ_=>[]) (λ_=>[]) () trivial (λk x hk=>absurd hk (by omega)) (λ_ _=>?_);simp
theorem qlr(h1:S eE=qeB)(h2:S cU=s_qlabels)(h3:S dy=s_leavesQ)(h4:S dj=RG)(h5:S aS=YE)(h6:S mN=qah)(h7:S dT=qeC):
 am gp fX S (a2 Qry (List Attr)) (λx=>quA x.2 x.1) (enc (X:=Int)) λ_ y=>y=0:=by
 rintro⟨q,a⟩ hq;have hq:quA a q:=hq;have hC:qxS q:=⟨hq.filts,hq.strat,hq.pat,hq.size,hq.l3,hq.num⟩
 have hPb:qhK q.pat []:=by show 0+da q.pat<=1000000;have:=hq.num;omega
 have hlv:(aq q.pat).length<=da q.pat:=qx q.pat;have hPq:qdn q.pat []:=⟨by have:=hq.num;simp;omega,λy hy=>(hq.lv y hy).2⟩
 simp[gp,fX,h1,hC,h2,-fB',-eB'];refine .inl ⟨hPb,λl hl=>?_⟩;have hl:l=bM q.pat []:=hl;subst hl;simp[h3,-fB',-eB'];refine .inl ⟨hPq,?_⟩;intro hll;refine ah (X:=Unit) [1,2,6,20] [] (bz q.pat).length (λ_ _=>True) (λ_=>[]) (λ_=>[]) () trivial ?_ ?_
 ·rintro k ⟨⟩ hk -;obtain⟨x,hx⟩:∃x,(bz q.pat)[k]? =some x:=⟨_,qzX hk⟩
  obtain⟨_,hgx⟩:=qzV.1 hx;have hxm:=qzY hx;obtain⟨y,hy,rfl⟩:=qz1.1 hxm;have hP:Tt ((mq y).cond,a,bM q.pat []):=⟨(hq.lv y hy).1,hq.att⟩
  simp[hk,hx,hgx,h4,hP,-fB',-eB'];exact hP
 ·rintro⟨⟩ -;simp[h5,h6,h7,hq.glob,hq.filts,-fB',-eB']
end Go.Gv
namespace Go.Gv

open Go.Proofs
open Cod (enc dec)
variable {S S0:Nat->Spc}



end Go.Gv
namespace Go.Gv
open Go.Proofs
open Cod (enc dec)
variable {S S0:Nat->Spc}

end Go.Gv
namespace Go.Gv
open Cod (enc dec)
variable {dq:Prop}
section
variable {X Y:Type}[Cod Y]
end
open Go.Proofs
variable {S:Nat->Spc}
end Go.Gv
namespace Go.Gv
open Go.Proofs Cod
variable {dq:Prop}
def dw{P:Program}{f:Nat}{A:Nat->PT}{A':PT}(h:∀n,Tri dq P f (A n))(hs:∀d ds H K,A' d ds H K->∃n,A n d ds H K):Tri dq P f A':=
 λO tp w vs ds H d K a b c e g hA=>(hs d ds H K hA).elim λn hn=>h n O tp w vs ds H d K a b c e g hn
def rA{P:Program}{f:Nat}{A:PT}(hs:∀d ds H K,¬A d ds H K):Tri dq P f A:=λO tp w vs ds H d K a b c e g hA=>absurd hA (hs d ds H K)
def fb{X Y:Type}{A:fT X}{pre:Nat->X->Prop}{pre':X->Prop}{er:Y->D}{post:X->Y->Prop}(hx:∀x,pre' x->∃n,pre n x):∀d ds H K,(aL A pre' er post).pt d ds H K->∃n,(aL A (pre n) er post).pt d ds H K:=by
 intro d ds H K h;rw[nQ]at h;cases e:A.dec ds with
 |none=>rw[e]at h;exact h.elim
 | some x=>
   rw[e]at h;obtain⟨h1,h2⟩:=h;obtain⟨n,hn⟩:=hx x h1;exact⟨n,by rw[nQ,e];exact⟨hn,h2⟩⟩
def bC{P:Program}{f:Nat}{X Y:Type}{A:fT X}{pre:X->Prop}{er:Y->D}{post:X->Y->Prop}(hx:∀x,¬pre x):Tri dq P f (aL A pre er post).pt:=rA λd ds H K h=>by
 rw[nQ]at h;cases e:A.dec ds with
 |none=>rw[e]at h;exact h.elim
 |some x=>rw[e]at h;exact hx x h.1
def Rh{P:Program}{f:Nat}{Y Z:Type}{A:fT Z}{er:Y->D} :Tri dq P f (qhU A er λ_ _=>none).pt:=rA λd ds H K h=>by
 obtain⟨id,b',x,z,ds',h1,h2,h3,h4,h5,⟨r,h6⟩,h7⟩:=h;cases h6
def qiF{P:Program}{f:Nat} :Tri dq P f (qn5 λ_ _ _=>none).pt:=rA λd ds H K h=>by
 obtain⟨id',b',x,n',k,r,d0',h1,h2,h3,h4,h5⟩:=h;cases h4
def qw4{p:Cond}(h:dm p<=0):False:=by rw[Ha]at h;omega
def G8:TQ dq eO K3:=
 ac (ag ae) Et (Fo)
def I1:TQ dq qF s_cpFold1:=qbL (S:=Jh [(eO,K3)]) (ag (aa G8 ae)) rfl
def I2:TQ dq qG qer:=
 ac (ag ae) Gl (HI)
def ES:TQ dq nq qeA:=
 ac (ag (aa I2 ae)) C6 (DT rfl)
def IW:TQ dq dh qes:=
 ac (ag (aa ES ae)) F6 (Hs rfl)
def mQ:TQ dq cR qet:=
 ac (ag (aa IW ae)) me (Oa rfl)
def rS:TQ dq eC qep:=
 ac (ag (aa mQ ae)) qs (N9 rfl)
def G1:TQ dq pj Vg:=
 ac (ag ae) Eh (Q6)
def KI:TQ dq sE qaf:=
 ac (ag (aa G1 ae)) Ic (X4 rfl)
def yj:TQ dq eK qiJ:=
 ac (ag (aa KI (aa rS ae))) wL (xx rfl rfl)
def yo:TQ dq eK qbe:=LE yj rfl (λ_=>qgg (λ_ h=>by cases h))
def NI:TQ dq uK UY:=
 D1 (ag (aa yo ae)) Kg (λ_=>qz0 rfl) (Lg rfl)
def Xi:TQ dq BN qef:=
 ac (ag ae) RY (TE)
def cK:TQ dq bA vW:=
 fU (ag (aa FA ae)) Bt (λ_=>qz0 rfl) (QJ rfl)
def Db:TQ dq mg ZV:=
 fU (ag (aa FA ae)) Bq (λ_=>qz0 rfl) (QI rfl)
def mS:TQ dq ei Rv:=
 fU (ag (aa cK (aa Db ae))) vP (λ_=>qz0 rfl) (Fb rfl rfl)
def AR:TQ dq jI qeg:=
 fU (ag (aa cK (aa A7 (aa mS ae)))) zi (λ_=>qz0 rfl) (Lh rfl rfl rfl)
def Cm:TQ dq kW qeh:=
 fU (ag (aa cK (aa AR (aa NI ae)))) AI (λ_=>qz0 rfl) (Oe rfl rfl rfl)
def Dc:TQ dq mh ZW:=
 fU (ag (aa cK (aa Xi (aa Cm (aa A7 (aa mS ae)))))) Bu (λ_=>qz0 rfl) (QK rfl rfl rfl rfl rfl)
def AQ:TQ dq jH qee:=
 fU (ag (aa cK (aa Dc ae))) zh (λ_=>qz0 rfl) (Lf rfl rfl)
def AS:TQ dq jJ qei:=
 fU (ag (aa cK (aa AQ ae))) zj (λ_=>qz0 rfl) (Li rfl rfl)
def Cl:TQ dq kV qed:=
 fU (ag (aa cK (aa AS ae))) AH (λ_=>qz0 rfl) (Ob rfl rfl)
def Ck:∀n,TQ dq ri (qn5 (wv n))
 | 0=>qiF
 |n+1=>Yg (ag (aa (Ck n) ae)) Mq (by decide) (Oc n rfl)
def IV:TQ dq qz UU:=
 ac (ag ae) F5 (Hq)
def GY:TQ dq oY Py:=
 ac (ag (aa IV ae)) Ec (E9 rfl)
def tg:∀n,TQ dq iS (D6 n)
 | 0=>bC λx h=>by cases h
 |n+1=>bY (ag (aa GY (aa (tg n) ae))) CY (λ_=>qz0 rfl) (DN n rfl rfl)
def vC:∀n,TQ dq km (Yy n)
 | 0=>bC λx h=>by obtain⟨m,h⟩:=h;cases h
 |n+1=>bY (ag (aa (vC n) ae)) Ed (λ_=>qz0 rfl) (Fa n rfl)
def yk:TQ dq lL UW:=
 ac (ag (aa (Ck 50) (aa (tg 50) (aa (vC 50) ae)))) F8 (Hu rfl rfl rfl)
def Dx:TQ dq rk HV:=
 ac (ag (aa qlD (aa Cl (aa yk ae)))) Ms (Of rfl rfl rfl)
def Dy:TQ dq rq Z6:=
 ac (ag (aa Dx ae)) MM (OD rfl)
def IX:TQ dq qA qiK:=
 ac (ag ae) F7 (Ht)
def ti:TQ dq gO Rw:=
 ua (ag ae) BB (λ_=>qz0 rfl) (qls)
def jU:TQ dq dK K2:=
 ua (ag (aa ti ae)) zn (λ_=>qz0 rfl) (qdz rfl)
def NH:∀n,TQ dq di (LX n)/\TQ dq jK (qej n)/\TQ dq eN (Yx n)
 | 0=>⟨Rh,Rh,Rh⟩
 |n+1=>⟨ua (ag (aa (NH n).1 (aa (NH n).2.1 (aa jU ae)))) AM (λ_=>qz0 rfl) (qig n rfl rfl rfl),ua (ag (aa (NH n).1 (aa (NH n).2.2 (aa jU (aa ti ae))))) zl (λ_=>qz0 rfl) (qdw n rfl rfl rfl rfl),ua (ag (aa (NH n).1 (aa (NH n).2.2 (aa jU ae)))) wN (λ_=>qz0 rfl) (XY n rfl rfl rfl)⟩
def Xj:TQ dq B1 (qkM 50):=
 ac (ag (aa (NH 50).1 ae)) Sj (quR 50 rfl)
def Dd:TQ dq mi qek:=
 ac (ag ae) BC (qih)
def IU:TQ dq dg qkL:=
 ac (ag (aa I1 ae)) F4 (XN rfl)
def KH:TQ dq dD qkN:=
 ac (ag ae) H5 (JN)
def Dw:TQ dq rj qeo:=
 ac (ag (aa yk (aa Pq (aa Xj (aa Dd (aa IX (aa KH (aa IU ae)))))))) Mr (Od rfl rfl rfl rfl rfl rfl rfl)
def Pc:TQ dq wR (qai false):=
 ac (ag (aa Dw ae)) Mt (Og rfl)
def GZ:TQ dq pa (qai true):=
 ac (ag (aa Dw ae)) Ee (Fc rfl)
def Pg:TQ dq wX Z5:=
 ac (ag (aa Dx (aa Pc (aa GZ ae)))) ML (OC rfl rfl rfl)
def AA:TQ dq ct qeD:=
 ac (ag ae) Gd (HA)
def KJ:TQ dq eV PI:=
 ac (ag (aa AA ae)) Gc (Hz rfl)
def EP:TQ dq bJ ZX:=
 ac (ag (aa AA (aa KJ ae))) Bz (CV rfl rfl)
def th:TQ dq cG HU:=
 ac (ag (aa Pq ae)) By (CU rfl)
def KL:TQ dq sH U1:=
 ac (ag (aa th ae)) Ih (J0 rfl)
def EQ:TQ dq nn qew:=
 ac (ag ae) C0 (DP)
def Pf:TQ dq wW qev:=
 ac (ag (aa KL (aa EQ ae))) MK (OB rfl rfl)
def rT:∀n,TQ dq cH (U9 n)
 | 0=>bC λx h=>qw4 h.1
 |n+1=>bY (ag (aa (rT n) ae)) BD (λ_=>qz0 rfl) (A0 n rfl)
def tj:TQ dq cH L8:=dw (λn=>rT n) (fb (λx h=>h))
def G3:TQ dq pn PK:=
 ac (ag ae) Ek (DR)
def ym:TQ dq bX RH:=
 ac (ag ae) wP (xz)
def sZ:TQ dq eS (YD Attr (Jh [(bX,RH)])):=
 ac (ag (aa ym ae)) rE (Lv)
def dM:TQ dq bT Cy:=
 ac (ag (aa sZ ae)) zo (AE (S0:=(Jh [(bX,RH)])) rfl rfl)
def wk:TQ dq kp Ma:=
 ac (ag (aa dM ae)) Ep (Fk rfl)
def G7:TQ dq pr Vf:=
 ac (ag ae) Es (Fm)
def jT:TQ dq dJ RC:=
 ac (ag ae) zd (Lt)
def mR:TQ dq aZ YA:=
 ac (ag (aa jT ae)) lP (Fq rfl)
def G4:TQ dq pp U7:=
 ac (ag (aa wk (aa dM (aa EP ae)))) El (Fh rfl rfl rfl)
def G6:TQ dq pq Ve:=
 ac (ag (aa G3 (aa G4 (aa Dy (aa dM (aa Yf (aa th (aa mR ae)))))))) Er (Fl rfl rfl rfl rfl rfl rfl rfl)
def Ag:TQ dq cx qae:=
 ac (ag (aa G6 ae)) yb (yv rfl)
def wi:∀n,TQ dq ic (U4 n)
 | 0=>bC λx h=>by obtain⟨a,lb,_,h,_⟩:=h;cases h
 |n+1=>bY (ag (aa Ag (aa (wi n) ae))) Gj (λ_=>qz0 rfl) (Fg n rfl rfl)
def IZ:TQ dq ic U3:=dw (λn=>wi n) (fb (λx h=>h))
def lC:TQ dq dj RG:=
 ac (ag (aa tj (aa IZ ae))) AO (A1 rfl rfl)
def Da:TQ dq mf Z4:=
 ac (ag ae) Bp (Q7)
def Af:TQ dq iR Z9:=
 ac (ag (aa Da ae)) xY (J3 rfl)
def Cn:TQ dq cj FY:=
 ac (ag (aa Af ae)) AN (AZ rfl)
def vS:TQ dq fL (YD Region (Jh [(cj,FY)])):=
 ac (ag (aa Cn ae)) uE (Ub)
def ta:TQ dq eU (qbX Region (Jh [(cj,FY)])):=
 ac (ag (aa vS ae)) rG (Uc rfl)
def ER:TQ dq np qez:=
 ac (ag (aa ta ae)) C1 (DS (S0:=(Jh [(cj,FY)])) rfl rfl)
def vE:∀n,TQ dq gj (L9 n)
 | 0=>bC λx h=>by obtain⟨_,y,h⟩:=h;cases h
 | n+1=>
   have g1:TQ dq aO (Yz n):=ac (ag (aa (vE n) ae)) BF (qbF n rfl);have g2:TQ dq cI (qeu n):=ac (ag (aa g1 ae)) BE (qbE n rfl);have g3:TQ dq eL (YD Cond (Jh [(aO,Yz n),(cI,qeu n)])):=ac (ag (aa g1 (aa g2 ae))) mH (Pm);have g4:TQ dq bE (qbX Cond (Jh [(aO,Yz n),(cI,qeu n)])):=ac (ag (aa g3 ae)) ki (Pn rfl)
   ac (ag (aa g1 (aa g4 (aa wk (aa G7 (aa Pg (aa dM (aa Pf (aa jT (aa ER ae)))))))))) Eo (qib (S0:=(Jh [(aO,Yz n),(cI,qeu n)])) n rfl rfl rfl rfl rfl rfl rfl rfl rfl rfl rfl)
def AC:TQ dq mW rY:=
 ac (ag ae) Ij (J2)
def wl:TQ dq eP nT:=
 ac (ag (aa AC ae)) Eu (Fp rfl)
def G9:TQ dq pv yD:=
 ac (ag ae) O1 (Q5)
def YQ{p:Pat}(h:db p<=0):False:=by rw[qat]at h;omega
def Al:TQ dq ct xR:=
 ac (ag ae) Ie (JY)
def J9:TQ dq eV FW:=
 ac (ag (aa Al ae)) Id (JX rfl)
def iC:TQ dq bJ uc:=
 ac (ag (aa Al (aa J9 ae))) CZ (DO rfl rfl)
def Rc:TQ dq zK qec:=
 ac (ag ae) OU (QW)
def Rd:TQ dq lM RA:=
 ac (ag (aa Rc ae)) OW (QZ rfl)
def OH:TQ dq dv Cx:=
 ac (ag (aa iC ae)) Mz (Oo rfl)
def Lx:TQ dq cT xO:=
 ac (ag ae) Kk (Lm)
def qdg:Nat->Spc:=Jh [(lM,RA),(dv,Cx),(cT,xO)]
def qy7(n:Nat):Nat->Spc:=Jh [(gh,qel n)]
def qg2{S:Nat->Spc}(h:∀f,TQ dq f (S f)):TQ dq aR (RI S):=
 ac (ag (aa (ac (S:=S) h tC tX) ae)) qu (ru rfl)
def Ap:∀n,TQ dq jo (PA n)
 | 0=>bC λx h=>YQ h.1
 | n+1=>
   have h1:TQ dq gh (qel n):=ac (ag (aa (Ap n) ae)) Eg (Fe n rfl)
   ac (ag (aa (qg2 (S:=qy7 n) (ag (aa h1 ae))) ae)) H7 (JQ (S0:=qy7 n) n rfl rfl)
def J7:TQ dq jo LY:=
 dw (λn=>Ap n) (fb (λx h=>⟨db x.1,qz2 _,h⟩))
def qxR(n:Nat):Nat->Spc:=Jh [(jq,qey qdg n)]
def qxQ(n:Nat):Nat->Spc:=Jh [(aR,RI (qxR n)),(lM,RA),(dv,Cx),(cT,xO)]
def qjd(n:Nat)(d:D)(f:Pat->Bool)(h:FunIs qdg d f):FunIs (qxQ n) d f:=by
 obtain⟨g,c,pc,a,b,e⟩:=h;refine⟨g,c,pc,a,?_,e⟩;by_cases hg:g=aR
 ·subst hg;have:qdg aR=Spc.none:=rfl;rw[this]at b;cases b
 ·rw[<-b];unfold qxQ qdg;rw[Jh,if_neg hg]
def Dp:∀n,TQ dq fl (Z7 qdg n)
 | 0=>bC λx h=>by obtain⟨f,h1,h2⟩:=h;exact YQ h2
 | n+1=>
   have h1:TQ dq jq (qey qdg n):=ac (ag (aa (Dp n) ae)) H9 (JT (S0:=qdg) n rfl)
   ac (S:=qxQ n) (ag (aa (qg2 (S:=qxR n) (ag (aa h1 ae))) (aa Rd (aa OH (aa Lx ae))))) MA (Oq (S0:=qxR n) (N:=qdg) n (qjd n) rfl rfl)
def rb:TQ dq fl (Bc qdg):=
 dw (λn=>Dp n) (fb (λx h=>by obtain⟨f,h⟩:=h;exact⟨db x.1,f,h,qz2 _⟩))
def wu:TQ dq mO K4:=
 ac (ag (aa J7 (aa rb ae))) ME (Oy (N:=qdg) rfl rfl rfl)
def wt:TQ dq jw cX:=
 ac (ag (aa wu (aa rb ae))) My (Om (N:=qdg) rfl rfl rfl rfl)
def F2:∀n,TQ dq gg (Ry n)
 | 0=>bC λx h=>YQ h.1
 |n+1=>bY (ag (aa (F2 n) ae)) OV (λ_=>qz0 rfl) (QX n rfl)
def yz:TQ dq gg Cw:=
 dw (λn=>F2 n) (fb (λx h=>⟨db x,qz2 _,h⟩))
def Bo:∀n,TQ dq kZ (U6 n)
 | 0=>bC λx h=>h
 |n+1=>bY (ag (aa (Bo n) ae)) Kl (λ_=>qz0 rfl) (Lp n rfl)
def Ly:TQ dq kZ PL:=
 dw (λn=>Bo n) (fb (λx h=>h))
def Dg:TQ dq ro RD:=
 ac (ag (aa Ly ae)) MB (Ot rfl)
def Bm:∀n,TQ dq dy (Qf n)
 | 0=>rA λd ds H K ⟨id,v,l,a,x,h1,h2,h3,h4,h5⟩=>YQ h4.1
 |n+1=>yB (ag (aa (Bm n) (aa Dg ae))) Aq (by decide) (Ln n rfl rfl)
def xG:Tri dq Tryz.prog dy i_leavesQA.pt:=dw (λn=>Bm n) λd ds H K ⟨id,v,l,a,x,h1,h2,h3,h4,h5⟩=>⟨db x,id,v,l,a,x,h1,h2,h3,⟨qz2 _,h4⟩,h5⟩
def tY:Tri dq Tryz.prog dy s_leavesQ.pt:=LD (Cv (ag (aa xG (aa Dg ae))) Aq (λ_=>qz0 rfl) (JR rfl rfl)) xG
def qdK:Tri dq Tryz.prog aZ s_has2.pt:=
 have h:Tri dq Tryz.prog aZ s_hasE.pt:=ac (ag (aa jT ae)) lP (DM rfl)
 LD h (LE h rfl λ_=>qmQ _)
def Bn:∀n,TQ dq cU (Wd n)
 | 0=>rA λd ds H K ⟨id,v,l,a,x,h1,h2,h3,h4,h5⟩=>YQ h4.1
 |n+1=>yB (ag (aa qdK (aa (Bn n) ae))) Ar (by decide) (Lo n rfl rfl)
def xI:Tri dq Tryz.prog cU i_labelsA.pt:=dw (λn=>Bn n) λd ds H K ⟨id,v,l,a,x,h1,h2,h3,h4,h5⟩=>⟨db x,id,v,l,a,x,h1,h2,h3,⟨qz2 _,h4⟩,h5⟩
def nP:Tri dq Tryz.prog cU s_qlabels.pt:=LD (Cv (ag (aa qdK (aa xI ae))) Ar (λ_=>qz0 rfl) (JS rfl rfl)) xI
def Te:TQ dq pg qeq:=
 ac (ag ae) Ds (QY)
def Pd:TQ dq mN qah:=
 ac (ag (aa Te ae)) Bw (Ox rfl)
def vT:TQ dq cD qeI:=
 ac (ag ae) kR (vJ)
def jt:TQ dq aS YE:=
 ac (ag (aa vT ae)) iw (rX rfl)
def A5:TQ dq eE qeB:=
 ac (ag (aa wu (aa rb (aa yz (aa nP (aa jt ae)))))) pX (qlt (N:=qdg) rfl rfl rfl rfl rfl rfl rfl)
def G0:TQ dq gi qac:=
 ac (ag ae) uG (qie)
def IY:TQ dq dT qeC:=
 ac (ag (aa G0 ae)) vZ (qlu rfl)
def HL:TQ dq fm qlW:=
 ac (ag (aa A5 (aa nP (aa tY (aa lC (aa jt (aa Pd (aa IY ae)))))))) wa (qlr rfl rfl rfl rfl rfl rfl rfl)
end Go.Gv
namespace Go.Gv
open Go.Proofs
def vx:CC:=gq Tryz.f52 [2006006] { cu:=[1] } _
def uw:List ak:=[.cell 6 true 7]
def MH:FO wU [2006006] vx uw 28:=fo
def sU:CC:=gq Tryz.f100 [2006006,2006006,2083008,2082008] { cu:=[2,4,6,18,21,24] } _
def su:List ak:=[.cell 6 true 7]
def Kp:FO lc [2006006,2006006,2083008,2082008] sU su 110:=fo
def pH:CC:=gq Tryz.f19 [2006006] { cu:=[2,4,7] } _
def oj:List ak:=[.cell 6 true 13]
open Cod (enc dec)
variable {S S0:Nat->Spc}
abbrev xP:Spc:=aL (a1 Int) bW (enc (X:=B)) (λ_ y=>y∈Types)
def qbB(h1:S wg=s_m_Mod):am yi xT S (a1 Int) bW (enc (X:=B)) (λ_ y=>y∈Types):=by
 rintro n -;simp[yi,xT,h1];have h3:=MP n 3 (by omega);refine⟨h3.1,h3.2,?_⟩;have:In n 3=0\/In n 3=1\/In n 3=2:=by omega
 rcases this with h|h|h<;>simp[h,Types,qui,qkk,quh]
def QB(n:Nat)(x:List Int×Int×List B):Prop:=x.2.1.toNat<n/\ -10<=x.2.1/\x.2.1<=100/\x.2.2.length<=1000
def gc{q:Cond->Prop}{H:ab}{op:Int}{n a v l:B}{f:Bool}{d:D}(ks:List Cond)(hd:FrzTo H d (enc ks))(hq:q ⟨op,n,a,v,l,f,ks⟩):Fin enc q (.agg [.v (.int .i64 op), .v (.string n), .v (.string a), .v (.string v), .v (.string l), .v (.bool f),d]) H:=by
 refine ba (⟨op,n,a,v,l,f,ks⟩:Cond) ?_ hq;rw[qgy];refine .agg rfl λk x y hx hy=>?_
 rcases k with _|_|_|_|_|_|_|k
 ·cases hx;cases hy;exact .same _
 ·cases hx;cases hy;exact .same _
 ·cases hx;cases hy;exact .same _
 ·cases hx;cases hy;exact .same _
 ·cases hx;cases hy;exact .same _
 ·cases hx;cases hy;exact .same _
 ·cases hx;cases hy;exact hd
 ·simp at hx
def qo5(a b c d e f g h:B):D.list 1 [.v (.string a), .v (.string b), .v (.string c), .v (.string d), .v (.string e), .v (.string f), .v (.string g), .v (.string h)]= .list 1 (UH [a,b,c,d,e,f,g,h]):=i' rfl
def qkE(a b c d:B):D.list 1 [.v (.string a), .v (.string b), .v (.string c), .v (.string d)]= .list 1 (UH [a,b,c,d]):=i' rfl
theorem CJ{q:Pat->Prop}{H:ab}{op o:Int}{n a v l lb rg:B}{f:Bool}{cd d:D}{mn mx:Int}(cks:List Cond)(ks:List Pat)(hc:FrzTo H cd (enc cks))(hd:FrzTo H d (enc ks))(hq:q ⟨op,⟨o,n,a,v,l,f,cks⟩,lb,rg,mn,mx,ks⟩):
 Fin enc q (.agg [.v (.int .i64 op), .v (.int .i64 o), .v (.string n), .v (.string a), .v (.string v), .v (.string l), .v (.bool f),cd, .v (.string lb), .v (.string rg), .v (.int .i64 mn), .v (.int .i64 mx),d]) H:=by
 refine ba (⟨op,⟨o,n,a,v,l,f,cks⟩,lb,rg,mn,mx,ks⟩:Pat) ?_ hq;rw[qaW];refine .agg rfl λk x y hx hy=>?_
 rcases k with _|_|_|_|_|_|_|_|_|_|_|_|_|k
 ·cases hx;cases hy;exact .same _
 ·cases hx;cases hy;exact .same _
 ·cases hx;cases hy;exact .same _
 ·cases hx;cases hy;exact .same _
 ·cases hx;cases hy;exact .same _
 ·cases hx;cases hy;exact .same _
 ·cases hx;cases hy;exact .same _
 ·cases hx;cases hy;exact hc
 ·cases hx;cases hy;exact .same _
 ·cases hx;cases hy;exact .same _
 ·cases hx;cases hy;exact .same _
 ·cases hx;cases hy;exact .same _
 ·cases hx;cases hy;exact hd
 ·simp at hx
def qbl(n:Nat)(x:List Int×Int×List B):Prop:=x.2.1.toNat<n/\ -10<=x.2.1/\x.2.1<=100/\x.2.2.length<=1000
def qrb(x:List Int×Int×List B)(p:Pat):Prop:=WP x.2.2 x.2.1.toNat p/\PD x.2.1.toNat p
def ZA(x:List Int×Int×List B)(y:Cond):Prop:=GI x.2.2 x.2.1.toNat y
abbrev L4(n:Nat):Spc:=aL (aT (a2 Int (List B))) (QB n) (enc (X:=Cond)) ZA
def qzM{i:Nat}{a:B}(h:[(⟨#[119,111,114,100]⟩:B),⟨#[119,111,114,100]⟩,⟨#[116,97,103]⟩][i]? =some a):a∈Attr2:=by
 have:=aP h;simpa [Attr2,LH,qdT]using this
def qxz{i:Nat}{a:B}(h:[(⟨#[119,111,114,100]⟩:B),⟨#[116,97,103]⟩][i]? =some a):a∈Attr2:=aP h
def qxy{i:Nat}{a:B}(h:[(⟨#[112]⟩:B),⟨#[113]⟩][i]? =some a):a∈FeatL:=aP h
def qxx{i:Nat}{a:B}(h:[(⟨#[49]⟩:B),⟨#[50]⟩][i]? =some a):a∈NumL:=aP h
def qy1{i:Nat}{a:B}(h:[(⟨#[97]⟩:B),⟨#[98]⟩,⟨#[97,46,42]⟩,⟨#[91,97,98,93]⟩][i]? =some a):a∈ValsT:=aP h
def qzL{i:Nat}{a:B}(h:[(⟨#[97]⟩:B),⟨#[98]⟩,⟨#[97,46,42]⟩,⟨#[91,97,98,93]⟩,⟨#[88]⟩,⟨#[]⟩,⟨#[99,63]⟩,⟨#[97,124,98]⟩][i]? =some a):a∈ValsI:=by
 have:=aP h;simp only[ValsI,qAc,qAL,or_false]at this ⊢;rcases this with h|h|h|h|h|h|h|h<;>simp[h]
theorem XZ(n:Nat)(h1:S bP=s_m_Next)(h2:S rP=xP)(h3:S lc=L4 n):am sU su S (aT (a2 Int (List B))) (QB (n+1)) (enc (X:=Cond)) ZA:=by
 rintro⟨L,deep,lb⟩ ⟨hn,hd0,hd1,hlb⟩;simp only at hn hd0 hd1 hlb;simp[sU,su,h1];intro b6 k0 hk0 hk1;refine bj (X:=Int) [0,1,2,6] [6] (λk=>0<=k/\k< 12/\(deep< 1->k< 8)) (λk=>[(7,enc k)]) (λ_=>[]) ?_ ?_
 ·simp;have:k0.tmod 8=k0 % 8:=Int.tmod_eq_emod_of_nonneg hk0;rw[this];omega
 rintro k ⟨q0,q1,q2⟩;refine bj (X:=Unit) [0,1,2,6,7] [6] (λ_=>10<=k) (λ_=>[]) (λ_=>[]) ?_ ?_
 ·simp;refine bj (X:=Bool) [0,1,2,6,7,15] [6] (λb=>b=decide (k< 4)) (λb=>[(16,enc b)]) (λ_=>[]) ?_ ?_
  ·simp
   repeat' first|apply And.intro|intro _
   all_goals first|omega|(rw[qAB];simp;omega)
  rintro b hb;simp[h1,Pt,UG,qo5,qkE,mF,rc,-fB'];refine⟨λ_ y hy0 hy1=>⟨hy0,hy1,λa ha y hy0 hy1=>⟨hy0,hy1,λa' ha' y hy0 hy1=>gc [] (.nil _) (.atom _ _ (.val a a' _ (qzM ha) (qzL ha')))⟩⟩,λhb0=>?_⟩;rw[hb0]at hb;have hb:4<=k:=by simpa using hb.symm
  refine⟨λ_ y hy0 hy1=>⟨hy0,hy1,λa ha=>gc [] (.nil _) (.atom _ _ (.feat a (qxy ha)))⟩,λk4=>⟨λ_ _=>⟨λhl y hy0 hy1=>⟨hy0,hy1,λa ha _=>⟨by omega,λy hy=>⟨by omega,by omega,λa' ha' y hy0 hy1=>⟨hy0,hy1,λa'' ha''=>gc [] (.nil _) (.atom _ _ (.same a a' a'' (qxz ha) (aP ha') (qxz ha'')))⟩⟩⟩⟩,λ_=>gc [] (.nil _) (.atom _ _ (.val qdT _ false (by simp[Attr2]) (by simp[ValsI])))⟩,λk5=>?_⟩⟩;refine bj (X:=Bool) [0,1,2,6,7,15] [6] (λb=>b=decide (k=6\/k=7)) (λb=>[(67,enc b)]) (λ_=>[]) ?_ ?_
  ·simp
   repeat' first|apply And.intro|intro _
   all_goals first|omega|(rw[qAB];simp;omega)
  rintro b hb2;simp[h1,h2,-fB'];refine⟨λ_ y hy0 hy1=>⟨trivial,λt ht b8=>?_⟩,λhb0=>?_⟩
  ·refine bj (X:=B×B) [6,8] [6] (λx=>(x.1=E0/\x.2=E0)\/(x.1=qrN/\x.2∈NumL)) (λ_=>[]) (λx=>[(8, .box b8 [.v (.int .i64 5), .v (.string t), .v (.string x.1), .v (.string x.2), .v (.string ⟨#[]⟩), .v (.bool false), .v (.slice none 0 0)])]) ?_ ?_
   ·simp[h1,Pt,mF,rc];refineλy hy0 hy1=>⟨λ_ z hz0 hz1=>⟨hz0,hz1,λa ha=>⟨qrN,a, .inr ⟨rfl,qxx ha⟩, .inl ⟨rfl,rfl⟩⟩⟩,λ_=>⟨E0,E0, .inl ⟨rfl,rfl⟩, .inl ⟨rfl,rfl⟩⟩⟩
   ·rintro⟨a,v⟩ hav;simp;refine gc [] (.nil _) (.atom _ _ ?_);rcases hav with⟨rfl,rfl⟩|⟨rfl,hv⟩
    ·exact .reg t ht
    ·exact .regk t v ht hv
  rw[hb0]at hb2;have hb2:¬(k=6\/k=7):=by simpa using hb2.symm
  refine bj (X:=Bool) [0,1,2,6,7,15] [6] (λb=>b=decide (k=8\/k=9)) (λb=>[(85,enc b)]) (λ_=>[]) ?_ ?_
  ·simp
   repeat' first|apply And.intro|intro _
   all_goals first|omega|(rw[qAB];simp;omega)
  rintro b hb3;simp[h3,-fB'];have hrec:1<=deep->QB n (L,deep -1,lb):=λh=>⟨by show(deep -1).toNat<n;omega,by show -10<=deep -1;omega,by show deep -1<=100;omega,hlb⟩
  refine⟨λhb1=>?_,λhb0=>?_⟩
  ·rw[hb1]at hb3;have hb3:k=8\/k=9:=by simpa using hb3.symm
   have hdn:deep.toNat=(deep -1).toNat+1:=by omega
   refine⟨by simp only[InR];omega,hrec (by omega),λy hy=>gc [y] (by simp) (by show GI lb deep.toNat _;rw[hdn];exact .not _ _ hy)⟩
  rw[hb0]at hb3;have hb3:¬(k=8\/k=9):=by simpa using hb3.symm
  omega
 ·rintro -hk;have hrec:QB n (L,deep -1,lb):=⟨by show(deep -1).toNat<n;omega,by show -10<=deep -1;omega,by show deep -1<=100;omega,hlb⟩
  have hdn:deep.toNat=(deep -1).toNat+1:=by omega
  simp[h3];refine⟨by simp only[InR];omega,by simp only[InR];omega,by simp only[InR];omega,hrec,λy hy=>⟨by simp only[InR];omega,hrec,λy' hy'=>gc [y,y'] (by simp) (by show GI lb deep.toNat _;rw[hdn];exact .two _ _ _ _ (by omega) hy hy')⟩⟩
def qlc(x:List Int×Int×List B)(y:Cond):Prop:=GC x.2.2 x.2.1.toNat y
abbrev PG:Spc:=aL (aT (a2 Int (List B))) (λx=> -10<=x.2.1/\x.2.1<=100/\x.2.2.length<=1000) (enc (X:=Cond)) qlc
abbrev Jn:Spc:=aL (aT (a2 Int (List B))) (λx=>∃n,QB n x) (enc (X:=Cond)) ZA
theorem qbC(h1:S bP=s_m_Next)(h3:S lc=Jn):am vx uw S (aT (a2 Int (List B))) (λx=> -10<=x.2.1/\x.2.1<=100/\x.2.2.length<=1000) (enc (X:=Cond)) qlc:=by
 rintro⟨L,deep,lb⟩ ⟨hd0,hd1,hlb⟩;simp only at hd0 hd1 hlb;simp[vx,uw,h1];intro b6;refine bj (X:=Unit) [0,1,2,6] [6] (λ_=>True) (λ_=>[]) (λ_=>[]) ?_ ?_
 ·simp[h1,qkE,mF,rc,-fB'];exactλy _ _=>⟨λ_=>gc [] (.nil _) .any,λ_=>⟨λ_ z z0 z1=>⟨z0,z1,λa ha u _ _=>gc [] (.nil _) (.top a _ (qy1 ha))⟩,λ_ _ z z0 z1=>⟨z0,z1,λa ha u _ _=>gc [] (.nil _) (.top a _ (qy1 ha))⟩⟩⟩
 ·rintro - -;have hrec:∃n,QB n (L,deep,lb):=⟨deep.toNat+1,Nat.lt_succ_self _,hd0,hd1,hlb⟩
  simp[h3,hrec];exactλy hy=>gc y.kids (.same _) (by show GC lb deep.toNat _;rw[GW y];exact .inner _ hy)
def qmA{p:Pat}{C:Pat->Prop}(h1:¬p.op=1)(h2:p.kids=[]):∀y∈aq p,C y:=by
 rw[bc,if_neg h1,h2];simp
def qmy{p:Pat}{C:Pat->Prop}(h1:p.op=1)(h:C p):∀y∈aq p,C y:=by
 rw[bc,if_pos h1];simpa using h
def qmz{p a:Pat}{C:Pat->Prop}(h1:¬p.op=1)(h2:p.kids=[a])(ha:∀y∈aq a,C y):∀y∈aq p,C y:=by
 rw[bc,if_neg h1,h2];simpa using ha
def qfB{p a b:Pat}{C:Pat->Prop}(h1:¬p.op=1)(h2:p.kids=[a,b])(ha:∀y∈aq a,C y)(hb:∀y∈aq b,C y):∀y∈aq p,C y:=by
 rw[bc,if_neg h1,h2];simp only[qAw,List.flatMap_nil,qA7];intro y hy;rcases qz5.1 hy with hy|hy
 ·exact ha y hy
 ·exact hb y hy
def N0(x:List Int×Int×List B)(p:Pat):Prop:=qrb x p/\∀y∈aq p,GC x.2.2 1 y.cond
abbrev FV(n:Nat):Spc:=aL (aT (a2 Int (List B))) (qbl n) (enc (X:=Pat)) N0
theorem Q3(n:Nat)(h1:S bP=s_m_Next)(h2:S rP=xP)(h3:S wU=PG)(h4:S ia=FV n):am pH oj S (aT (a2 Int (List B))) (qbl (n+1)) (enc (X:=Pat)) N0:=by
 rintro⟨L,deep,lb⟩ ⟨hn,hd0,hd1,hlb⟩;simp only at hn hd0 hd1 hlb;simp[pH,oj,h1];intro b6 k0 hk0 hk1;refine bj (X:=Int) [0,1,2,6] [6] (λk=>0<=k/\k< 14/\(deep< 1->k< 7)) (λk=>[(7,enc k)]) (λ_=>[]) ?_ ?_
 ·simp;have:k0.tmod 7=k0 % 7:=Int.tmod_eq_emod_of_nonneg hk0;rw[this];omega
 rintro k ⟨q0,q1,q2⟩;refine bj (X:=Unit) [0,1,2,6] [6] (λ_=>12<=k) (λ_=>[]) (λ_=>[]) ?_ ?_
 ·have hrec:1<=deep->qbl n (L,deep -1,lb):=λh=>⟨by show(deep -1).toNat<n;omega,by show -10<=deep -1;omega,by show deep -1<=100;omega,hlb⟩
  have hdn:1<=deep->deep.toNat=(deep -1).toNat+1:=λh=>by omega
  simp[h1,h2,h3,h4,-fB'];refine⟨λhk=>⟨hlb,λc hc b8=>?_⟩,λhk=>⟨λhk7=>⟨by simp only[InR];omega,by simp only[InR];omega,λy _ _=>⟨trivial,λt ht=>CJ [] [] (.nil _) (.nil _) ⟨⟨quF (.inr ⟨by show(2+k -5=2\/2+k -5=3);omega,rfl,rfl,ht,rfl,rfl,rfl⟩),qe6 qa6 rfl⟩,qmA (by show ¬2+k -5=1;omega) rfl⟩⟩⟩,λhk7=>⟨λhk10=>⟨by simp only[InR];omega,hrec (by omega),λy hy=>⟨by simp only[InR];omega,hrec (by omega),λy' hy'=>?_⟩⟩,λhk10 hk12=>⟨by simp only[InR];omega,hrec (by omega),λy hy=>⟨by simp only[InR];omega,hrec (by omega),λy' hy'=>?_⟩⟩⟩⟩⟩
  ·refine bj (X:=B) [6,8] [6] (λx=>x=⟨#[]⟩\/x∈lb) (λ_=>[]) (λx=>[(8, .box b8 [.v (.int .i64 1), .v (.int .i64 c.op), .v (.string c.name), .v (.string c.arg), .v (.string c.val), .v (.string c.lab), .v (.bool c.fold),enc c.kids, .v (.string x), .v (.string ⟨#[]⟩), .v (.int .i64 0), .v (.int .i64 0), .v (.slice none 0 0)])]) ?_ ?_
   ·simp[h1];exactλ_ h0 y _ _ _ _=>⟨by omega,λz hz=>⟨by omega,by omega,λa ha=> .inr ⟨a,aP ha, .inl rfl⟩⟩⟩
   ·rintro x hx;simp;exact CJ c.kids [] (.same _) (.nil _) ⟨⟨quF (.inl ⟨rfl,hx,rfl,rfl,rfl,rfl⟩),qe6 ⟨_,qj2 (d:=c) rfl (qp8 hc)⟩ rfl⟩,qmy rfl (by show GC lb 1 _;rw[GW c];exact hc)⟩
  ·refine CJ [] [y,y'] (.nil _) (by simp) ?_;refine⟨⟨?_,qe5 (hdn (by omega)) qa6 rfl hy.1.2 hy'.1.2⟩,qfB (by show ¬(4:Int)=1;decide) rfl hy.2 hy'.2⟩;show WP lb deep.toNat _;rw[hdn (by omega)];exact .inr (.inl ⟨.inl rfl,rfl,rfl,rfl,rfl,rfl,y,y',rfl,hy.1.1,hy'.1.1⟩)
  ·refine CJ [] [y,y'] (.nil _) (by simp) ?_;refine⟨⟨?_,qe5 (hdn (by omega)) qa6 rfl hy.1.2 hy'.1.2⟩,qfB (by show ¬(5:Int)=1;decide) rfl hy.2 hy'.2⟩;show WP lb deep.toNat _;rw[hdn (by omega)];exact .inr (.inl ⟨.inr rfl,rfl,rfl,rfl,rfl,rfl,y,y',rfl,hy.1.1,hy'.1.1⟩)
 ·rintro -hk;have hrec:qbl n (L,deep -1,lb):=⟨by show(deep -1).toNat<n;omega,by show -10<=deep -1;omega,by show deep -1<=100;omega,hlb⟩
  have hdn:deep.toNat=(deep -1).toNat+1:=by omega
  have sC:∀(mn mx:Int) (y:Pat) (H:ab),(mn,mx) ∈Xy->N0 (L,deep -1,lb) y->Fin enc (N0 (L,deep,lb)) (.agg [.v (.int .i64 6), .v (.int .i64 0), .v (.string ⟨#[]⟩), .v (.string ⟨#[]⟩), .v (.string ⟨#[]⟩), .v (.string ⟨#[]⟩), .v (.bool false), .v (.slice none 0 0), .v (.string ⟨#[]⟩), .v (.string ⟨#[]⟩), .v (.int .i64 mn), .v (.int .i64 mx), .list 13 [enc y]]) H:=by
   intro mn mx y H hm hy;refine CJ [] [y] (.nil _) (by simp) ?_;refine⟨⟨?_,qme hdn qa6 rfl hy.1.2⟩,qmz (by show ¬(6:Int)=1;decide) rfl hy.2⟩;show WP lb deep.toNat _;rw[hdn];exact .inr (.inr ⟨rfl,rfl,rfl,rfl,hm,y,rfl,hy.1.1⟩)
  simp only[qaW]at sC;simp[h1,h4];intro y hy0 hy1;refine⟨hy0,hy1,λd hd=>?_⟩;have:y=0\/y=1\/y=2\/y=3\/y=4\/y=5\/y=6:=by omega
  rcases this with rfl|rfl|rfl|rfl|rfl|rfl|rfl
  all_goals (simp at hd;subst hd;simp[h4])
  all_goals exact⟨by simp only[InR];omega,hrec,λy hy=>sC _ _ y _ (by simp[Xy]) hy⟩
end Go.Gv
namespace Go.Gv
open Go.Proofs
def Ng{f:Pat->Bool}(p:Pat)(h:ck f p=true):Jd (λq=>f q=true) p:=by
 induction p using fZ with|_ p ih=>?_
 rw[cM,qzZ,qz4]at h;exact qi4 h.1 λk hk=>ih k hk (h.2 k hk)
def qcl(p:Pat):Jd vG p->∀q∈sA p,q.op=1->q∈aq p:=by
 induction p using fZ with|_ p ih=>?_
 intro hN q hq h1;have hp:=PW hN;rw[bc];cases p with
 | mk op cond lab reg mn mx ks=>
   rw[sA]at hq;rcases qAc.1 hq with rfl|hq
   ·rw[if_pos h1];simp
   ·obtain⟨k,hk,hq⟩:=wb hq;split
    ·rename_i e;rcases hp with h|h|h|h
     ·have:=h.2.2.2.2;simp only at this;rw[this]at hk;cases hk
     ·have:=h.1;simp only at this e;omega
     ·have:=h.1;simp only at this e;omega
     ·have:=h.1;simp only at this e;omega
    ·exact qBB.2 ⟨k,hk,ih k hk (Vs hN hk) q hq h1⟩
def qis:Prop:=aJ qui=true/\aJ qkk=true/\aJ quh=true/\aJ qnw=true/\aJ qoz=true
def xE{b:B}(h:(decide (1<=b.size) && decide (b.size<=32) && (b.data.toList.all λc=>KM c.toNat))=true):aJ b=true:=by
 simp only[qzZ,decide_eq_true_eq,qz4]at h;have hm:∀(k:Nat) (c:UInt8),b.data[k]? =some c->KM c.toNat=true:=λk c hc=>h.2 c (by rw[<-qAn]at hc;exact qzY hc)
 rw[DW];exact⟨h.1.1,h.1.2,hm 0,λk c hc=>by unfold O9;rw[hm k c hc];rfl⟩
def qlz:qis:=⟨xE (by decide),xE (by decide),xE (by decide),xE (by decide),xE (by decide)⟩
def Sn{lb:List B} :∀{n:Nat} {c:Cond},GI lb n c->Kv (n+1) c
 |n,_, .atom _ c h=>⟨by rw[zz h];decide,λk hk=>by rw[zz h]at hk;cases hk⟩
 | _,_, .not n k h=>⟨qz0 rfl,λz hz=>by rw[qA9]at hz;subst hz;exact Sn h⟩
 | _,_, .two n op a b _ h1 h2=>⟨qz0 rfl,λz hz=>by
    simp only[qAc,qAL,or_false]at hz;rcases hz with rfl|rfl
    ·exact Sn h1
    ·exact Sn h2⟩
def qmt{lb:List B}{n:Nat}{c:Cond}(h:GC lb n c):∃m,Kv m c:=by
 cases h with
 |any=>exact⟨1,by decide,λk hk=>by cases hk⟩
 |top v f h=>exact⟨1,qz0 rfl,λk hk=>by cases hk⟩
 |inner c h=>exact⟨_,Sn h⟩
structure qbr (c:Corpus):Prop where
 ok:OkCorp c
 few:c.toks.length<=60


open Cod (enc dec)
variable {S S0:Nat->Spc}
end Go.Gv
namespace Go.Gv
open Go.Proofs
def Ge:FO ia [2006006] pH oj 103:=fo
open Go.Proofs Cod
variable {dq:Prop}
def G2:TQ dq rP xP:=
 ac (ag (aa Ro ae)) PZ (qbB rfl)
def AB:∀n,TQ dq lc (L4 n)
 | 0=>bC λx h=>by have:=h.1;omega
 |n+1=>bY (ag (aa cP (aa G2 (aa (AB n) ae)))) Kp (λ_=>qz0 rfl) (XZ n rfl rfl rfl)
def NJ:TQ dq lc Jn:=dw (λn=>AB n) (fb (λx h=>h))
def Pe:TQ dq wU PG:=
 ac (ag (aa cP (aa NJ ae))) MH (qbC rfl rfl)
def yl:∀n,TQ dq ia (FV n)
 | 0=>bC λx h=>by have:=h.1;omega
 |n+1=>bY (ag (aa cP (aa G2 (aa Pe (aa (yl n) ae))))) Ge (λ_=>qz0 rfl) (Q3 n rfl rfl rfl rfl)
end Go.Gv
namespace Go.Gv
open Go.Proofs


open Cod (enc dec)
variable {S S0:Nat->Spc}
end Go.Gv
namespace Go.Gv
open Go.Proofs Cod
variable {dq:Prop}
def Do:∀n,TQ dq mL (K0 n)
 | 0=>bC λx h=>YQ h.1
 |n+1=>bY (ag (aa (Do n) ae)) Mx (λ_=>qz0 rfl) (Ol n rfl)
def OG:TQ dq mL FM:=
 dw (λn=>Do n) (fb (λx h=>⟨db x,qz2 _,h⟩))
def Dh:TQ dq gE Cz:=
 ac (ag (aa wt (aa OG ae))) MD (Ow rfl rfl)
end Go.Gv
namespace Go.Gv
variable {S S0:Nat->Spc}
mutual
def nk:Glob->Nat| .mk _ _ _ _ _ _ _ _ _ _ ks=>nJ ks+1
def nJ:List Glob->Nat|[]=>0|k::ks=>max (nk k) (nJ ks)
end
def Is:∀{ks:List Glob} {k:Glob},k∈ks->nk k<=nJ ks
 | x::ks,k,h=>by
   rw[nJ];rcases qAc.1 h with rfl|h
   ·omega
   ·have:=Is h;omega
def Wq{p k:Glob}(h:k∈p.kids):nk k<nk p:=by
 have:=Is h;cases p;rw[nk];simp only at this;omega
mutual
def Ev:Glob->Nat| .mk _ _ _ _ _ _ _ _ _ _ ks=>nI ks+1
def nI:List Glob->Nat|[]=>0|k::ks=>Ev k+nI ks
end
def qaz(x:Glob):Ev x=nI x.kids+1:=by cases x;rw[Ev]
def La(x:Glob):nk x=nJ x.kids+1:=by cases x;rw[nk]
def Il:∀(a b:List Glob),nI (a++b)=nI a+nI b
 | [],b=>by rw[qAZ,nI];omega
 |k::a,b=>by rw[qAK,nI,nI,Il a b];omega
def Qi:∀(a b:List Glob),nJ (a++b)=max (nJ a) (nJ b)
 | [],b=>by rw[qAZ,nJ];omega
 |k::a,b=>by rw[qAK,nJ,nJ,Qi a b];omega
def qcg{ks:List Glob}{k:Nat}{x:Glob}(h:ks[k]? =some x):nI (ks.take (k+1))=nI (ks.take k) +Ev x/\nJ (ks.take (k+1))=max (nJ (ks.take k)) (nk x)/\nI (ks.take (k+1))<=nI ks:=by
 have e:=au h;refine⟨by rw[e,Il,nI,nI];omega,by rw[e,Qi,nJ,nJ];omega,?_⟩
 conv=>rhs;rw[<-qAz (k+1) ks,Il]
 omega
def qmM{lb:List B}{n:Nat}{g:Glob}(h:GG lb n g):Ev g< 2^ (n+1)/\nk g<=n+1:=by
 induction h with
 |not n k h ih=>rw[Ev,nk,Nat.pow_succ];simp only[nI,nJ];omega
 |two n op a b ho h1 h2 ih1 ih2=>rw[Ev,nk,Nat.pow_succ];simp only[nI,nJ];omega
 |bound n|val n|same n|dist n|reg n|head n|path n|node n|depth n=>have:=Nat.one_le_two_pow (n:=n);rw[Ev,nk,Nat.pow_succ];simp only[nI,nJ];omega
def qf6{lb:List B}{n:Nat}{g k:Glob}(h:GG lb n g)(hk:k∈g.kids):∃m,m<=n/\GG lb m k:=by
 cases h with
 | not n k' h=>
   simp at hk;subst hk;exact⟨n,by omega,h⟩
 | two n op a b ho h1 h2=>
   simp at hk;rcases hk with rfl|rfl
   ·exact⟨n,by omega,h1⟩
   ·exact⟨n,by omega,h2⟩
 | _=>cases hk
end Go.Gv
namespace Go.Gv
open Go.Proofs
def qL:CC:=gq Tryz.f121 [3] {} _
def qh:List ak:=[.tmp 6, .tmp 7]
def H8:FO jp [3] qL qh 40:=fo
def bQ:CC:=gq Tryz.f123 [1,2029005,2028005,2027005,2026005,2037005,2036005,2045005,2044005,2068005,2067005,2066005] {} _
def bO:List ak:=[.tmp 2]
def OY:FO ej [1,2029005,2028005,2027005,2026005,2037005,2036005,2045005,2044005,2068005,2067005,2066005] bQ bO 155:=fo
def vr:CC:=gq Tryz.f122 [3,2] {} _
def uq:List ak:=[.tmp 4]
def MC:FO mM [3,2] vr uq 15:=fo
def qN:CC:=gq Tryz.f185 [2] {} _
def qj:List ak:=[.tmp 3]
def Ia:FO fS [2] qN qj 8:=fo
def du:CC:=gq Tryz.f184 [] {} _
def dr:List ak:=[.tmp 4]
def nM:FO dx [] du dr 9:=fo
def dW:CC:=gq Tryz.f240 [] {} _
def dP:List ak:=[.tmp 4]
def qt:FO eD [] dW dP 19:=fo
def ln:CC:=gq Tryz.f187 [] {} _
def kH:List ak:=[.tmp 2]
def Bv:FO eY [] ln kH 10:=fo
def eG:CC:=gq Tryz.f186 [] {} _
def eu:List ak:=[.tmp 4]
def rF:FO eT [] eG eu 9:=fo
def fB:CC:=gq Tryz.f241 [] {} _
def ft:List ak:=[.tmp 4]
def uD:FO fK [] fB ft 19:=fo
end Go.Gv
