/- W190 -/
import Derived.Test.YtnffegdacbdhmaaGreatDoorGe22
import Derived.Test.YtnffegdacbdhmaaGreatDoorGe21
set_option linter.all false
set_option maxRecDepth 100000
set_option maxHeartbeats 0
open Bool renaming forall_bool → fB', exists_bool → eB'
namespace Go.Gv
section
open Cod (enc dec)
variable {S S0:Nat->Spc}
def qfc{a:Sg}{H:ab}{k j b el n:Nat}{cs cs':List D}(l:j≠k)(hk:H k=some (.box b cs))(hl:cs.length=cs'.length)(hc:∀(m:Nat) (c c':D),cs[m]? =some c->cs'[m]? =some c'->FrzTo bS c c'):
 Wk a H a (ai (ai H k (some (.box b cs'))) j (some (.row (.slice none 0 0) el n []))):=by
 refine qhn (Hf:=bS) id (λt=> .same _) (λi r h=>?_) (λi j r s _ _ e=> .inl e) (λi r h=>by simp[bS]at h);by_cases e:i=j
 ·subst e;simp[ai]at h;subst h;exact .inr ⟨rfl,rfl⟩
 ·by_cases d:i=k
  ·subst d;simp[ai,e]at h;subst h;exact .inl ⟨_,hk, .inr ⟨rfl,hl,hc⟩⟩
  ·simp only[ai,e,d,if_false]at h;exact .inl ⟨r,h, .inl rfl⟩
def M2:Nat->Cond->Prop
 | 0,_=>False
 |n+1,x=>x.kids.length<=1000000/\∀k∈x.kids,M2 n k
abbrev YA(n:Nat):Spc:=aG (a1 Cond) (M2 n) (enc (X:=Cond)) λx y=>y=x
theorem NT(n:Nat)(h1:S lN=YA n):ak vd uz S (a1 Cond) (M2 (n+1)) (enc (X:=Cond)) λx y=>y=x:=by
 rintro⟨op,name,arg,val,lab,fold,kids⟩ ⟨hlen,hk⟩;simp only at hlen hk;simp[vd,uz];intro b2 q t;refine Ka (qfc (k:=3) (j:=20) (b:=q) (el:=ff) (n:=7) (cs':=[.v (.int .i64 op), .v (.string name), .v (.string arg), .v (.string val), .v (.string lab), .v (.bool fold), .own 20 (.slice none 0 0)]) (by decide) (by simp;rfl) (by simp) ?_) ?_
 ·intro m c c' hc a
  match m with
  | 0|1|2|3|4|5=>simp at hc a;subst hc;subst a;exact .same _
  | 6=>simp at hc a;subst hc;subst a;exact .nilown _
  |m+7=>simp at hc
 refine ah (X:=Value×List Cond) [2,9] [2] kids.length (λk x=>x.2=kids.take k) (λx=>[(3, .bptr 3 q 0)]) (λx=>[(3, .box q [.v (.int .i64 op), .v (.string name), .v (.string arg), .v (.string val), .v (.string lab), .v (.bool fold), .own 20 x.1]),(20, .row x.1 ff 7 (x.2.map enc))]) (.slice none 0 0, []) (by simp) ?_ ?_
 ·rintro k ⟨v,m⟩ d hm;simp only at hm;obtain⟨x,l⟩:=aQ d;obtain⟨_,r⟩:=qFG.1 l;have s:=hk x (aU l);have u:m.length=k:=by rw[hm,qGc];omega
  simp[h1,d,l,r,s];refine⟨by omega,by omega,λv=> .inl (.inl ?_)⟩;rw[hm,List.map_take,qGP];simp[l]
 ·rintro⟨v,m⟩ hm;simp only at hm;rw[qFY]at hm;subst hm;simp;refine aL (Y:=Cond) ⟨op,name,arg,val,lab,fold,m⟩ ?_ rfl;simp;refine .agg (by simp) λi c c' h p=>?_
  match i with
  | 0|1|2|3|4|5=>simp at h p;subst h;subst p;exact .same _
  | 6=>simp at h p;subst h;subst p;exact fA ff (by simp)
  |i+7=>simp at h
def qFv{H:ab}{l l':List D}(h:FzL H l l'):FrzTo H (.agg l) (.agg l'):= .agg h.get.1 h.get.2
abbrev SF:Spc:=aG (a1 Cond) (λx=>∃n,M2 n x) (enc (X:=Cond)) λx y=>y=x
def nk(p:Pat):Pat:=⟨p.op,p.cond,p.lab,⟨#[]⟩,0,0, []⟩
abbrev U0:Spc:=aG (a1 Pat) (λp=>∃n,M2 n p.cond) (enc (X:=Pat)) λx y=>y=nk x
def Rd(h1:S lN=SF):ak xJ wC S (a1 Pat) (λp=>∃n,M2 n p.cond) (enc (X:=Pat)) λx y=>y=nk x:=by
 rintro p hp;simp[xJ,wC,h1,hp];intro b;refine aL (Y:=Pat) (nk p) ?_ rfl;unfold nk;simp;refine qFv ?_;simp
def bF(p:Pat):List Pat:=(aq p).map nk
def BH(p:Pat):bF p=if p.op=1 then[nk p]else p.kids.flatMap bF:=by
 unfold bF;rw[bc];split
 ·rfl
 ·rw[List.map_flatMap]
def PLc(p:Pat):Prop:=∀y∈aq p,∃n,M2 n y.cond
def PLc.kid{p k:Pat}(h:PLc p)(a:¬p.op=1)(hk:k∈p.kids):PLc k:=λy b=>h y (by rw[bc,if_neg a];exact qG5.2 ⟨k,hk,b⟩)
def qjN{ks:List Pat}{k:Nat}{x:Pat}(l:List Pat)(a:ks[k]? =some x):(l++ (ks.take k).flatMap bF) ++bF x=l++ (ks.take (k+1)).flatMap bF:=by
 rw[av a,qHS,List.flatMap_singleton,qGO]
def qhj(x:Pat)(l:List Pat):Prop:=l.length+ (aq x).length<=100000000/\PLc x
def qrF(ks:List Pat):(ks.flatMap bF).length=(ks.flatMap aq).length:=by
 induction ks with
 |nil=>rfl
 |cons k ks a=>simp only[qGk,qGa,a];unfold bF;simp
def qjM{ks:List Pat}{k:Nat}{x:Pat}{l:List Pat}(a:ks[k]? =some x)(h:l.length+ (ks.flatMap aq).length<=100000000)(hc:PLc x):qhj x (l++ (ks.take k).flatMap bF):=by
 have:=qch a h;unfold qmh at this;refine⟨?_,hc⟩;simp only[qGa]at this ⊢;rw[qrF];exact this
abbrev Tk(n:Nat):Spc:=qmu (X:=Pat) (Y:=Pat) (λx l=>cg x<=n/\qhj x l) (λx l r=>r=l++bF x) aC 13
abbrev i_leavesQA:Spc:=qmu (X:=Pat) (Y:=Pat) (λx l=>qhj x l) (λx l r=>r=l++bF x) aC 13
theorem NR(n:Nat)(h1:S dK=Tk n)(h2:S tJ=U0):QI (X:=Pat) (Y:=Pat) jT jH S (λx l=>cg x<=n+1/\qhj x l) (λx l r=>r=l++bF x) aC 13:=by
 rintro v l p ⟨hp,hl,hc⟩;have hk:∀k∈p.kids,cg k<=n:=λk hk=>by have:=fT hk;have:cg p<=n+1:=hp;omega
 have a:=hl;rw[bc]at a;simp[jT,jH,h2];refine⟨λh1=>?_,λb _=>?_⟩
 ·have j:∃n,M2 n p.cond:=hc p (by rw[bc,if_pos h1];simp);simp[h1]at a;exact⟨j,by omega,by omega,λv=>dI (l++bF p) (by simp[BH,h1]) rfl⟩
 rw[if_neg b]at a;refine ah (X:=Value×List Pat) [16] [] p.kids.length (λk x=>x.2=l++ (p.kids.take k).flatMap bF) (λx=>[(1, .own 1 x.1)]) (λx=>[(1, .row x.1 aC 13 (x.2.map enc))]) (v,l) (by simp) ?_ ?_ (hh:=by simp[isNilRow])
 ·rintro k ⟨v,m⟩ c hm;simp only at hm;obtain⟨x,d⟩:=aQ c;have h:=aU d;obtain⟨_,q⟩:=qFG.1 d;have s:=qjM d a (hc.kid b h);rw[<-hm]at s;have t:=hk x h;simp[h1,c,d,q,s,t];intro v';refine .inl ?_;rw[hm,qjN _ d]
 ·rintro⟨v,m⟩ hm;simp only at hm;rw[qFY]at hm;simp;refine dI m (by simp) ?_;rw[hm,BH,if_neg b]
abbrev qgN:Spc:=qrR (Y:=Pat) (aE Pat (aD a0)) (λx=>x.2.1=SY/\qhj x.1 []) (λx r=>r=bF x.1) aC 13
theorem Mo(h1:S dK=i_leavesQA)(h2:S tJ=U0):TN (Y:=Pat) jT jH S (aE Pat (aD a0)) (λx=>x.2.1=SY/\qhj x.1 []) (λx r=>r=bF x.1) aC 13:=by
 rintro⟨p,d,⟨⟩⟩ ⟨j,hl,hc⟩;have j:d=SY:=j;subst j;have a:([]:List Pat).length+ (aq p).length<=100000000:=hl;rw[bc]at a;simp[jT,jH,h2];refine⟨λh1=>⟨hc p (by rw[bc,if_pos h1];simp),λv=>dI (bF p) (by simp[BH,h1]) rfl⟩,λb _=>?_⟩;rw[if_neg b]at a;refine ah (X:=Value×List Pat) [16] [] p.kids.length (λk x=>x.2=[] ++ (p.kids.take k).flatMap bF) (λx=>[(1, .own 1 x.1)]) (λx=>[(1, .row x.1 aC 13 (x.2.map enc))]) (.slice none 0 0, []) (by simp) ?_ ?_ (hh:=by simp[isNilRow])
 ·rintro k ⟨v,m⟩ c hm;simp only at hm;obtain⟨x,h⟩:=aQ c;have l:=aU h;obtain⟨_,q⟩:=qFG.1 h;have s:=qjM h a (hc.kid b l);rw[<-hm]at s;simp[h1,c,h,q,s];intro v';refine .inl ?_;rw[hm,qjN _ h];rfl
 ·rintro⟨v,m⟩ hm;simp only at hm;rw[qFY]at hm;simp;refine dI m (by simp) ?_;rw[hm,BH,if_neg b];rfl
abbrev s_leavesQ:Spc:=qrn qgN i_leavesQA
abbrev wo:Spc:=aG (a1 Pat) (λx=>qhj x []) (enc (X:=List Pat)) λx y=>y=if fy aB x then bF x else[]
def tr(out:List B)(x:B):List B:=if x=E0 then out else FG out x
mutual
def aZ:Pat->List B->List B
 | .mk op c l r mn mx ks,out=>PP ks (tr out l)
def PP:List Pat->List B->List B
 | [],out=>out
 |k::ks,out=>PP ks (aZ k out)
end
def L6:∀(l:List Pat) (out:List B),PP l out=l.foldl (λo k=>aZ k o) out
 | [],out=>by rw[PP];rfl
 |k::l,out=>by rw[PP,L6 l];rfl
def tZ(p:Pat)(out:List B):aZ p out=p.kids.foldl (λo k=>aZ k o) (tr out p.lab):=by
 cases p;rw[aZ,L6]
def QH(out:List B)(x:B):(tr out x).length<=out.length+1:=by
 unfold tr FG;split
 ·omega
 ·split
  ·omega
  ·simp
def qgu(p:Pat):∀out,(aZ p out).length<=out.length+dm p:=by
 induction p using fg with|_ p b=>?_
 intro out;rw[tZ,cI];have:∀(ks:List Pat) (o:List B),(∀k∈ks,k∈p.kids)->(ks.foldl (λo k=>aZ k o) o).length<=o.length+bu ks:=by
  intro ks
  induction ks with
  |nil=>intro o _;simp[bu]
  | cons k ks a=>
    intro o hk;rw[qGH,bu];have h1:=a (aZ k o) λz hz=>hk z (by simp[hz])
    have:=b k (hk k (by simp)) o;omega
 have h1:=this p.kids (tr out p.lab) λ_ h=>h
 have h2:=QH out p.lab;omega
def Th(ks:List Pat)(k:Nat)(lb:List B):((ks.take k).foldl (λo k=>aZ k o) lb).length<=lb.length+bu (ks.take k):=by
 generalize ks.take k=l
 induction l generalizing lb with
 |nil=>simp[bu]
 | cons a l b=>
   rw[qGH,bu];have h1:=b (aZ a lb);have h2:=qgu a lb;omega
def qj9(l:List B)(x:B):Bool:=l.any λz=>decide (z=x)
def PV{l:List B}{x:B} :qj9 l x=true↔x∈l:=by
 unfold qj9;rw[qGU];exact⟨λ⟨z,h1,h2⟩=>by rw[decide_eq_true_eq]at h2;rwa [<-h2],λh=>⟨x,h,decide_eq_true rfl⟩⟩
abbrev s_hasE:Spc:=aG (aE (List B) (a1 B)) (λ_=>True) (enc (X:=Bool)) λx y=>y=qj9 x.1 x.2
abbrev qwc:Spc:=qzB (Y:=B) (a1 B) (λ_=>True) (enc (X:=Bool)) (λx y=>y=qj9 x.1 x.2) aw 1
def F2(h1:S cY=OK):ak cO cL S (aE (List B) (a1 B)) (λ_=>True) (enc (X:=Bool)) λx y=>y=qj9 x.1 x.2:=by
 rintro⟨l,x⟩ -;simp[cO,cL,h1];exact vJ _ l
abbrev s_has2:Spc:=qrn s_hasE qwc
def qe1(x:Pat)(l:List B):Prop:=l.length+dm x<=1000000
def qwn(x:Pat)(l r:List B):Prop:=r=aZ x l
abbrev Zz(n:Nat):Spc:=qmu (X:=Pat) (Y:=B) (λx l=>cg x<=n/\qe1 x l) qwn aw 1
abbrev i_labelsA:Spc:=qmu (X:=Pat) (Y:=B) qe1 qwn aw 1
theorem NS(n:Nat)(h0:S bi=s_has2)(h1:S ct=Zz n):QI (X:=Pat) (Y:=B) jU jI S (λx l=>cg x<=n+1/\qe1 x l) qwn aw 1:=by
 rintro v lb p ⟨r,hl⟩;have hk:∀k∈p.kids,cg k<=n:=λk h=>by have:=fT h;have:cg p<=n+1:=r;omega
 have hl:lb.length+dm p<=1000000:=hl;have s:=cI p;simp[jU,jI,h0];refine aS (X:=Value) [2] [] (λ_=>True) (λv=>[(1, .own 1 v)]) (λv=>[(1, .row v aw 1 ((tr lb p.lab).map enc))]) ?_ ?_
 ·simp[h0,-fB'];refine⟨λhn=>?_,λhe=>?_⟩
  ·have hn:¬p.lab=E0:=hn;refine .inr ⟨λq=>⟨by omega,by omega,λv=> .inl ?_⟩,λt=> .inl ?_⟩
   ·rw[tr,if_neg hn,FG,if_neg (λh=>by rw[PV.2 h]at q;cases q)];simp
   ·rw[tr,if_neg hn,FG,if_pos (PV.1 t)]
  ·have he:p.lab=E0:=he;refine .inl ?_;rw[tr,if_pos he]
 ·rintro v -;have u:=QH lb p.lab;simp;intro w;refine ah (X:=Value×List B) [23] [] p.kids.length (λk x=>x.2=(p.kids.take k).foldl (λo k=>aZ k o) (tr lb p.lab)) (λx=>[(1, .own 1 x.1)]) (λx=>[(1, .row x.1 aw 1 (x.2.map enc))]) (v,tr lb p.lab) (by simp) ?_ ?_
  ·rintro k ⟨v,ls⟩ b a;simp only at a;obtain⟨x,c⟩:=aQ b;obtain⟨_,d⟩:=qFG.1 c;have y:qe1 x ls:=by
    have h2:=Th p.kids k (tr lb p.lab);rw[<-a]at h2;have h4:bu (p.kids.take k) +bu (p.kids.drop k)=bu p.kids:=by rw[<-E1,qGf]
    rw[bw c,bu]at h4;show ls.length+dm x<=_;omega
   have j:=hk x (aU c);simp[b,c,d,h1,y,j];intro v' l' A;obtain rfl:l'=aZ x ls:=A;refine .inl ?_;rw[av c,qHG,<-a];rfl
  ·rintro⟨v,ls⟩ a;simp only at a;rw[qFY]at a;simp;refine dI ls (by simp) ?_;show ls=aZ p lb;rw[tZ,a]
abbrev qkD:Spc:=qrR (Y:=B) (aE Pat (aD a0)) (λx=>x.2.1= .v (.slice none 0 0)/\qe1 x.1 []) (λx r=>qwn x.1 [] r) aw 1
theorem Mp(h0:S bi=s_has2)(h1:S ct=i_labelsA):TN (Y:=B) jU jI S (aE Pat (aD a0)) (λx=>x.2.1= .v (.slice none 0 0)/\qe1 x.1 []) (λx r=>qwn x.1 [] r) aw 1:=by
 rintro⟨p,d,⟨⟩⟩ ⟨h,hl⟩;have h:d= .v (.slice none 0 0):=h;subst h;have hl:0+dm p<=1000000:=hl;have s:=cI p;simp[jU,jI,h0];refine aS (X:=Value) [2] [] (λ_=>True) (λv=>[(1, .own 21 v)]) (λv=>[(21, .row v aw 1 ((tr [] p.lab).map enc))]) ?_ ?_
 ·simp[h0,-fB'];refine⟨λhn=>?_,λhe=>?_⟩
  ·have hn:¬p.lab=E0:=hn;refine .inl ⟨λA v=> .inl ?_,λt=>absurd (PV.1 t) (by simp)⟩;rw[tr,if_neg hn,FG,if_neg (by simp)];simp
  ·have he:p.lab=E0:=he;rw[tr,if_pos he];simp[isNilRow]
 ·rintro v -;have j:=QH [] p.lab;simp;intro u;refine ah (X:=Value×List B) [23] [] p.kids.length (λk x=>x.2=(p.kids.take k).foldl (λo k=>aZ k o) (tr [] p.lab)) (λx=>[(1, .own 21 x.1)]) (λx=>[(21, .row x.1 aw 1 (x.2.map enc))]) (v,tr [] p.lab) (by simp) ?_ ?_
  ·rintro k ⟨v,ls⟩ b a;simp only at a;obtain⟨x,c⟩:=aQ b;obtain⟨_,l⟩:=qFG.1 c;have w:qe1 x ls:=by
    have h2:=Th p.kids k (tr [] p.lab);rw[<-a]at h2;have q:(tr [] p.lab).length<=0+1:=j;have h4:bu (p.kids.take k) +bu (p.kids.drop k)=bu p.kids:=by rw[<-E1,qGf]
    rw[bw c,bu]at h4;show ls.length+dm x<=_;omega
   simp[b,c,l,h1,w];intro v' l' y;obtain rfl:l'=aZ x ls:=y;refine .inl ?_;rw[av c,qHG,<-a];rfl
  ·rintro⟨v,ls⟩ a;simp only at a;rw[qFY]at a;simp;refine dI ls (by simp) ?_;show ls=aZ p [];rw[tZ,a]
abbrev s_qlabels:Spc:=qrn qkD i_labelsA
abbrev Dt:Spc:=aG (a1 Pat) (λx=>qe1 x []) (enc (X:=List B)) λx y=>y=if fy aB x then aZ x []else[]
def NV(h1:S gZ=cB)(h2:S ct=s_qlabels):ak vg uB S (a1 Pat) (λx=>qe1 x []) (enc (X:=List B)) λx y=>y=if fy aB x then aZ x []else[]:=by
 rintro p hp;simp[vg,uB,h1,h2,-fB'];clear h1 h2;exact⟨λh=>aL [] (by simp) (by rw[h];rfl),λh=> .inl ⟨hp,λv l hl=>aL l (fA aw (by simp)) (by rw[h];exact hl)⟩⟩
end
section
open Go.Proofs
def Vg{T R:St3->St3->Prop}(h0:∀s,T s s)(h1:∀s t u,T s t->T t u->T s u)(c:∀s t,R s t->T s t):∀{n:Nat} {s t:St3},Pow R n s t->T s t
 | 0,s,t,h=>by cases h;exact h0 s
 |n+1,s,t,⟨u,a,b⟩=>h1 _ _ _ (c _ _ a) (Vg h0 h1 c b)
section
variable {T:St3->St3->Prop}(h0:∀s,T s s)(h1:∀s t u,T s t->T t u->T s u)(r:Rn)
include h0 h1
mutual
def NI:∀p:Pat,tt (λq=>q.op=1->∀s,T s (KR r q s)) p->∀s t,pM r p s t->T s t
 | .mk op cond lab reg mn mx ks,h,s,t,a=>by
   have hs:=py h;have hk:∀k∈ks,tt (λq=>q.op=1->∀s,T s (KR r q s)) k:=λk hk=>wM h hk
   rw[pM]at a;split at a
   ·rename_i e;rw[a.2.2];exact hs e s
   ·split at a
    ·rw[a.2];exact h0 s
    ·split at a
     ·exact Z6 ks hk s t a
     ·split at a
      ·exact Z7 ks hk s t a
      ·exact qkU ks mn mx hk s t a
def Z6:∀ks:List Pat,(∀k∈ks,tt (λq=>q.op=1->∀s,T s (KR r q s)) k)->∀s t,zZ r ks s t->T s t
 | [],_,s,t,h=>by rw[xp]at h;rw[<-h];exact h0 s
 | k::ks,hk,s,t,h=>by
   rw[pF]at h;obtain⟨u,a,b⟩:=h;exact h1 _ _ _ (NI k (hk k (by simp)) s u a) (Z6 ks (λq c=>hk q (by simp[c])) u t b)
def Z7:∀ks:List Pat,(∀k∈ks,tt (λq=>q.op=1->∀s,T s (KR r q s)) k)->∀s t,Ct r ks s t->T s t
 | [],_,s,t,h=>by rw[Js]at h;exact h.elim
 | k::ks,hk,s,t,h=>by
   rw[wg]at h;rcases h with h|h
   ·exact NI k (hk k (by simp)) s t h
   ·exact Z7 ks (λq a=>hk q (by simp[a])) s t h
def qkU:∀(ks:List Pat) (mn mx:Int),(∀k∈ks,tt (λq=>q.op=1->∀s,T s (KR r q s)) k)->∀s t,QS r ks mn mx s t->T s t
 | [],_,_,_,s,t,h=>by rw[QS]at h;exact h.elim
 | k::ks,mn,mx,hk,s,t,h=>by
   rw[QS]at h;obtain⟨u,a,n,_,b⟩:=h;have c:=NI k (hk k (by simp));exact h1 _ _ _ (Vg h0 h1 c a) (Vg h0 h1 (λs t q=>c s t q.1) b)
end
end
def Fx(n:Nat)(s t:St3):Prop:=∀i,n<=i->i< 3->t.get i=s.get i
def qcv(s:St3)(i j:Nat)(x:Int)(hi:i< 3)(a:j< 3)(h:i≠j):(s.set i x).get j=s.get j:=by
 rcases i with _|_|_|i<;>rcases j with _|_|_|j<;>first|rfl|omega
def qko{r:Rn}{p:Pat}(hl:r.lb.length<=3)(h:tt (λq=>q.lab≠mq->vw r.lb q.lab=true) p){s t:St3}(j:pM r p s t):Fx r.lb.length s t:=by
 refine NI (T:=Fx r.lb.length) (λs i _ _=>rfl) (λs t u a b i hi h3=>(b i hi h3).trans (a i hi h3)) r p (vW h λq k _ s i hi h3=>?_) s t j;unfold KR;dsimp only;split
 ·rcases i with _|_|i<;>rfl
 ·rename_i c;have d:=k c;have h4:=D6 (λz=>decide (z=q.lab)) r.lb;have h5:decide (0<=fe r.lb λz=>decide (z=q.lab))=true:=(vJ _ _).trans d;have h6:=of_decide_eq_true h5;have:((s.set (fe r.lb λz=>decide (z=q.lab)).toNat (s.p+1)).get i)=s.get i:=qcv _ _ _ _ (by omega) h3 (by omega);rcases i with _|_|i<;>exact this
def qeN(r:Rn)(s:St3){i:Nat}(hi:i<r.lb.length):(WE r s)[i]? =some (s.get i -1):=by
 unfold WE;rw[qFU,qHj hi];rfl
def qhX{s t:St3}(h:s.p=t.p)(j:∀i,i< 3->s.get i=t.get i):s=t:=by
 obtain⟨a,b,c,d⟩:=s;obtain⟨w,b',c',x⟩:=t;have k:=j 0 (by decide);have l:=j 1 (by decide);have q:=j 2 (by decide);simp only[St3.get]at k l q h;rw[h,k,l,q]
def qo4{r:Rn}{p:Pat}(hl:r.lb.length<=3)(h:tt (λq=>q.lab≠mq->vw r.lb q.lab=true) p){s t u:St3}(h1:pM r p s t)(h2:pM r p s u)(c:t.p=u.p)(d:WE r t=WE r u):t=u:=by
 refine qhX c λi hi=>?_
 by_cases hn:i<r.lb.length
 ·have a:=qeN r t hn;have b:=qeN r u hn;rw[d,b]at a;have:=qFT a;omega
 ·rw[qko hl h h1 i (by omega) hi,qko hl h h2 i (by omega) hi]
def qnL{m:Nat}{s:St3}(h:qaY m s):qf7 (m+1) s<(m+1) * (m+1) * (m+1) * (m+1):=by
 obtain⟨h1,h2,h3⟩:=h;have a:=h3 0;have b:=h3 1;have c:=h3 2;simp only[St3.get]at a b c;unfold qf7;have d:s.p.toNat<=m:=by omega
 have l:s.b0.toNat<=m:=by omega
 have q:s.b1.toNat<=m:=by omega
 have A:s.b2.toNat<=m:=by omega
 generalize s.p.toNat=x at*;generalize s.b0.toNat=y at*;generalize s.b1.toNat=z at*;generalize s.b2.toNat=w at*;have j:x* (m+1) +y<(m+1) * (m+1):=by
  have:=qF7 (m+1) d;rw[qGL m (m+1)];omega
 have k:(x* (m+1) +y) * (m+1) +z<(m+1) * (m+1) * (m+1):=by
  have:=qF7 (m+1) (qIk j);rw[qGL]at this;omega
 have:=qF7 (m+1) (qIk k);rw[qGL]at this;omega
def qcF{m a b c d:Nat}(hb:b<m)(j:d<m)(h:a*m+b=c*m+d):a=c/\b=d:=by
 have h1:(a*m+b) /m=a:=by rw[qHB,Nat.mul_add_div (by omega),Nat.div_eq_of_lt hb];omega
 have h2:(c*m+d) /m=c:=by rw[qHB,Nat.mul_add_div (by omega),Nat.div_eq_of_lt j];omega
 rw[h]at h1;have e:a=c:=h1.symm.trans h2;subst e;exact⟨rfl,by omega⟩
def qju{m:Nat}{s t:St3}(hs:qaY m s)(b:qaY m t)(h:qf7 (m+1) s=qf7 (m+1) t):s=t:=by
 obtain⟨h1,h2,h3⟩:=hs;obtain⟨c,d,a⟩:=b;have a0:=h3 0;have a1:=h3 1;have a2:=h3 2;have b0:=a 0;have b1:=a 1;have b2:=a 2;simp only[St3.get]at a0 a1 a2 b0 b1 b2;unfold qf7 at h;obtain⟨h,j⟩:=qcF (by omega) (by omega) h;obtain⟨h,k⟩:=qcF (by omega) (by omega) h;obtain⟨l,p⟩:=qcF (by omega) (by omega) h;refine qhX (by omega) λi hi=>?_
 rcases i with _|_|_|i
 ·show s.b0=t.b0;omega
 ·show s.b1=t.b1;omega
 ·show s.b2=t.b2;omega
 ·omega
def qbH{m:Int}(hm:m<=170){l:List St3}(hn:l.Nodup)(h:∀s∈l,qaY m s):l.length<=1000000000:=by
 by_cases h0:0<=m
 ·obtain⟨k,rfl⟩:∃k:Nat,m=(k:Int):=⟨m.toNat,by omega⟩
  have h1:=SW (f:=qf7 (k+1)) hn (λx c=>qnL (h x c)) λx c y d e=>qju (h x c) (h y d) e
  have h2:(k+1) * (k+1)<=171*171:=qHT (by omega) (by omega);have h3:=qHT h2 (show k+1<=171 by omega);have h4:=qHT h3 (show k+1<=171 by omega);omega
 ·cases l with
  |nil=>exact qF3 _
  |cons s l=>have:=(h s (by simp));have a:=this.1;have b:=this.2.1;omega
open Cod (enc dec)
variable {S S0:Nat->Spc}
def Yj(p:Pat):∀d:Int,cm p d=true->(cg p:Int) +d<=101:=by
 induction p using fg with|_ p b=>?_
 intro d h;rw[ld]at h;simp only[qFO,decide_eq_true_eq,qFN]at h;rw[Nv];have:∀ks:List Pat,(∀k∈ks,k∈p.kids)->(LX ks:Int) +d<=100:=by
  intro ks
  induction ks with
  |nil=>intro _;rw[LX];have:=h.1;simp;omega
  | cons k ks a=>
    intro hk;have h1:=a λz hz=>hk z (by simp[hz])
    have h2:=b k (hk k (by simp)) (d+1) (h.2 k (hk k (by simp)));rw[LX];omega
 have:=this p.kids λ_ h=>h
 omega
structure qmn (c:Corpus) (p:Pat):Prop where
 sz:qqL c
 few:c.toks.length<=170
 pat:fy aB p=true
 l3:(aZ p []).length<=3
 num:dm p<=1000000
 nd:∀t∈c.texts,tt (qp6 (Kt c (aZ p []) t)) p
def qmc(x:Corpus×Qry×Int):Prop:=qmn x.1 x.2.1.pat/\0<=x.2.2/\x.2.2<x.1.toks.length
def qpZ(x:Corpus×Qry×Int)(y:List cb):Prop:=qml x.1 (aZ x.2.1.pat []) x.2.1.pat x.2.2 y/\y.length<=1000000000
abbrev qdw:Spc:=aG (a3 Corpus Qry Int) qmc (enc (X:=List cb)) qpZ
abbrev b_masg:Spc:=qpV (a1 St3) TP (enc (X:=List Int)) qaN
theorem qmJ(h1:S jR=SG)(h2:S xb=Dt)(h3:S dM=Su 101)(h4:S dN=b_masg)(h5:S pD=qbO nZ An):ak tM tC S (a3 Corpus Qry Int) qmc (enc (X:=List cb)) qpZ:=by
 rintro⟨c,q,i⟩ ⟨w,C,M⟩;have w:qmn c q.pat:=w;have C:0<=i:=C;have M:i<c.toks.length:=M;have hPb:qe1 q.pat []:=by show 0+dm q.pat<=1000000;have:=w.num;omega
 have hfew:=w.few;have htl:(c.toks.length:Int)<=9223372036854775807:=by omega
 rcases qhJ (c:=c) (i:=i)with⟨N,A⟩|⟨k,t,N,A,k3⟩
 ·simp[tM,tC,h1,N,-fB',-eB'];refine aL [] (.nil _) ⟨⟨List.Pairwise.nil,λm=>⟨λh=>(by cases h),?_⟩⟩,qF3 _⟩;rintro⟨e,_,_,t,ht,_⟩;have e:m.b=i:=e;rw[e,A]at ht;cases ht
 ·have hkl:k<c.texts.length:=(qFG.1 A).1;obtain⟨_,O⟩:=qFG.1 A;have hkn:¬(k:Int)< 0:=by omega
  simp[tM,tC,h1,N,hkn,hkl,A,O,h2,hPb,w.pat,htl,-fB',-eB'];intro b8;refine gc (X:=Nat×Value) [2,4] [] [] [(990,34)] (λ_=>True) (λx=>[(9, .bptr 36 x.1 0)]) (λx=>[(36, .box x.1 (nX (Kt c (aZ q.pat []) t) (.own 990 x.2))),(990, .mrow x.2 [])]) [36,990] (λ_=>rfl) (by decide) ?_ ?_
  ·simp[h2,hPb,w.pat,htl,-fB',-eB'];refineλx b=>⟨b, .same _,x, .inl (.inr ⟨rfl,rfl,λm y z h6 h7=>?_⟩), .inl (.inl rfl)⟩
   rcases m with _|_|_|_|_|_|_|_|_|_|_|m
   all_goals first|(cases h6;cases h7;exact .same _)|(cases h6;cases h7;exact .own _ _ _)|(simp at h6)
  rintro⟨b,v⟩ -;have htm:t∈c.texts:=qFK A;have htb:t.b<=i/\i<t.e:=by
   have:=List.find?_some k3;simpa using this
  generalize Q:Kt c (aZ q.pat []) t=r;have E:i<=r.en/\r.en<=170:=by
   rw[<-Q];show i<=min t.e (c.toks.length:Int)/\min t.e (c.toks.length:Int)<=170;omega
  have hlb:r.lb=aZ q.pat []:=by rw[<-Q];rfl
  have hnd:tt (qp6 r) q.pat:=by rw[<-Q];exact w.nd t htm
  have U:r.lb.length<=3:=by rw[hlb];exact w.l3
  have W:qaY r.en (qfB i):=⟨C,E.1,λj=>by rcases j with _|_|j<;>exact⟨qGI _,by show(0:Int)<=r.en;omega⟩⟩
  have hRok:qo8 r:=⟨U,by rw[<-Q];exact w.sz,by omega⟩
  have hdep:cg q.pat<=101:=by
   have hp:=w.pat;unfold fy at hp;simp only[qFO]at hp;have:=Yj q.pat 1 hp.1.1.1;omega
  have hQ:∀m,m.b=i/\qhb c (aZ q.pat []) q.pat m↔ ∃s,pM r q.pat (qfB i) s/\i<s.p/\m=⟨i,s.p,WE r s⟩:=λm=>by
   constructor
   ·rintro⟨rfl,_,_,t',ht',s,hs,h1,h2,h3⟩;rw[k3]at ht';cases ht';rw[Q]at hs h3;refine⟨s,hs,h1,?_⟩;obtain⟨mb,me,ml⟩:=m;simp only at h2 h3 ⊢;rw[h2,h3]
   ·rintro⟨s,hs,h1,rfl⟩;exact⟨rfl,C,M,t,k3,s,by rw[Q];exact hs,h1,rfl,by rw[Q]⟩
  simp[h3,Gp,IA,-fB',-eB'];refine⟨⟨hRok,λe he=>(by cases he),W,q.pat,⟨_,_,rfl,qFJ rfl,by simp⟩,hdep,hnd⟩,λv2 es2 F Y b2=>?_⟩;have d:=Y.2.2 q.pat ⟨_,_,rfl,qFJ rfl,by simp⟩;have J:=Y.2.1;clear Y;replace d:∀t,t∈F↔pM r q.pat (qfB i) t:=d;refine nD (X:=Value×List cb×List D×List St3) [2,9,42] [36,990] (λx=>x.2.1.Nodup/\(∀s∈x.2.2.2,s∈F)/\x.2.2.2.Nodup/\(∀m∈x.2.1,∃s∈F,s∉x.2.2.2/\i<s.p/\m=⟨i,s.p,WE r s⟩)/\(∀s∈F,s∈x.2.2.2\/(i<s.p->(⟨i,s.p,WE r s⟩:cb) ∈x.2.1))/\x.2.1.length+x.2.2.2.length<=F.length)
   (λx=>[(10, .own 60 x.1)]) (λx=>[(42, .miter b2 x.2.2.1 (aW x.2.2.2)),(60, .row x.1 An 3 (x.2.1.map enc))]) (λx=>x.2.2.2.length) (.slice none 0 0, [], [],F)
   ⟨qG7,λ_ h=>h,J,λ_ h=>(by cases h),λ_ h=> .inl h,by simp⟩ (by simp) (by simp[isNilRow]) ?_
  rintro⟨v3,out,cur,left⟩ ⟨g1,g2,g3,g4,g5,g6⟩;simp only at g1 g2 g3 g4 g5 g6;have hyl:=qbH E.2 J λs hs=>BI r q.pat _ _ ((d s).1 hs) W
  simp[-fB',-eB'];refine⟨λh0=>?_,λl1 x l2 hsp=>?_⟩
  ·have hlz:=gz h0;subst hlz;simp[h5,-fB',-eB'];refine⟨⟨rfl,by simp at g6;omega,g1⟩,λl' Z=>aL l' (fA An (by simp[ai])) ⟨⟨Z.1,λm=>?_⟩,by rw[Z.2.1];show out.length<=_;simp at g6;omega⟩⟩;rw[Z.2.2 m,hQ];constructor
   ·intro hm;obtain⟨s,h1,_,h2,h3⟩:=g4 m hm;exact⟨s,(d s).1 h1,h2,h3⟩
   ·rintro⟨s,h1,h2,rfl⟩;exact(g5 s ((d s).2 h1)).elim (λh=>by cases h) λh=>h h2
  ·obtain⟨a,s,c2,rfl,rfl,rfl,rfl⟩:=iX hsp;simp[h4,YU,-fB',-eB'];have hsy:s∈F:=g2 s (by simp);have K:∀x∈a++c2,x∈F:=λx h=>g2 x (by simp only[qFL,qFP]at h ⊢;rcases h with h|h<;>simp[h])
   have l:(a++c2).Nodup/\s∉a++c2:=by
    obtain⟨n1,n2,n3⟩:=qHo.1 g3;have n4:=qGR.1 n2;refine⟨qHo.2 ⟨n1,n4.2,λx hx y hy=>n3 x hx y (by simp[hy])⟩,λh=>?_⟩;rcases qFL.1 h with h|h
    ·exact n3 s h s (by simp) rfl
    ·exact n4.1 h
   have L:∀m∈out,∃u∈F,u∉a++c2/\i<u.p/\m=(⟨i,u.p,WE r u⟩:cb):=λm hm=>by
    obtain⟨u,N,A,k3,k4⟩:=g4 m hm;exact⟨u,N,λh=>A (by simp only[qFL,qFP]at h ⊢;rcases h with h|h<;>simp[h]),k3,k4⟩
   simp only[qGa,qGn]at g6;have I:=BI r q.pat _ _ ((d s).1 hsy) W;have hsOk:qws s:=⟨I.1,by have:=I.2.1;have:=E.2;omega,λj=>⟨(I.2.2 j).1,by have:=(I.2.2 j).2;have:=E.2;omega⟩⟩
   have hPa:TP (.cptr (nX r (.own 990 v2)) 0,s):=⟨⟨r,_,rfl,U⟩,hsOk⟩
   refine⟨λO=>⟨hPa,λz hz=>?_⟩,λhle=>?_⟩
   ·obtain rfl:=hz r _ rfl;refine⟨by omega,by omega,λv4=>⟨v4,out++ [⟨i,s.p,WE r s⟩],_,a++c2,⟨?_,K,l.1,λm hm=>?_,λu hu=>?_,by simp;omega⟩,⟨rfl, .inl ⟨rfl,(jG a c2).symm⟩, .inl ⟨rfl,by simp⟩⟩,by simp⟩⟩
    ·rw[qHo];refine⟨g1,by simp,λm hm m' hm' e=>?_⟩;simp at hm';subst hm';obtain⟨u,N,A,_,k4⟩:=g4 m hm;rw[e]at k4;injection k4 with _ e1 e2;have:s=u:=qo4 U (vW hnd λq h=>h.lab) ((d s).1 hsy) ((d u).1 N) e1 e2;subst this;exact A (by simp)
    ·rcases qFL.1 hm with hm|hm
     ·exact L m hm
     ·simp at hm;exact⟨s,hsy,l.2,O,hm⟩
    ·rcases g5 u hu with h|h
     ·rcases qFL.1 h with h|h
      ·exact .inl (by simp[h])
      ·rcases qFP.1 h with rfl|h
       ·exact .inr λ_=>by simp
       ·exact .inl (by simp[h])
     ·exact .inr λhp=>List.mem_append_left _ (h hp)
   ·refine⟨v3,out,_,a++c2,⟨g1,K,l.1,L,λu hu=>?_,by simp;omega⟩,⟨rfl, .inl ⟨rfl,(jG a c2).symm⟩, .inl ⟨rfl,rfl⟩⟩,by simp⟩;rcases g5 u hu with h|h
    ·rcases qFL.1 h with h|h
     ·exact .inl (by simp[h])
     ·rcases qFP.1 h with rfl|h
      ·exact .inr λhp=>absurd hp (by omega)
      ·exact .inl (by simp[h])
    ·exact .inr h
structure qzZ (a:List Attr) (q:Qry):Prop where
 glob:q.glob=GlobE
 filts:q.filts=[]
 strat:q.strat=0
 pat:fy aB q.pat=true
 size:fM q.pat<=256
 l3:(aZ q.pat []).length<=3
 num:dm q.pat<=1000000
 att:a.length<=1000
 lv:∀x∈aq q.pat,qmt a (aZ q.pat []) x.cond=true/\∃n,M2 n x.cond
abbrev EV(V:List Attr->Qry->Prop):Spc:=aG (a2 Qry (List Attr)) (λx=>V x.2 x.1) (enc (X:=Int)) λ_ y=>y=0
abbrev qqZ:Spc:=EV qzZ
structure qaT (V:List Attr->Qry->Prop) (c:Corpus) (q:Qry):Prop where
 v:V c.attrs q
 f:qmn c q.pat
def qwm(x:Corpus×Qry)(y:List cb×Int):Prop:=(y.2=0/\qwy x.1 (aZ x.2.pat []) x.2.pat y.1/\y.1.length<=4096)\/(y.2=2/\y.1=[]/\∃k l,qhc x.1 (aZ x.2.pat []) x.2.pat k l/\4096<l.length)
abbrev qiv(V:List Attr->Qry->Prop):Spc:=aG (a2 Corpus Qry) (λx=>qaT V x.1 x.2) (kZ (Y:=List cb) (Z:=Int)) qwm
theorem qt0{V:List Attr->Qry->Prop}(h1:S eB=EV V)(h2:S BW=qdw):ak tg sx S (a2 Corpus Qry) (λx=>qaT V x.1 x.2) (kZ (Y:=List cb) (Z:=Int)) qwm:=by
 rintro⟨c,q⟩ a;have a:qaT V c q:=a;have u:V c.attrs q:=a.v;have t:=a.f.few;have p:(c.toks.length:Int)<=9223372036854775807:=by omega
 simp[tg,sx,h1,u,p,-fB',-eB'];refine ah (X:=Value×List cb) [2,3] [] c.toks.length (λk x=>qhc c (aZ q.pat []) q.pat k x.2/\x.2.length<=4096) (λx=>[(7, .own 27 x.1)]) (λx=>[(27, .row x.1 An 3 (x.2.map enc))]) (.slice none 0 0, []) ⟨qgw _ _ _,by simp⟩ ?_ ?_ (hh:=by simp[isNilRow])
 ·rintro k ⟨v,l⟩ hk ⟨b,j⟩;simp only at b j;have r:qmc (c,q,(k:Int)):=⟨a.f,by show(0:Int)<=k;omega,by show(k:Int)<c.toks.length;omega⟩
  simp[h2,r,-fB',-eB'];rintro y ⟨s,w⟩;have d:=qgx b s;exact⟨by omega,by omega,λv' A=>⟨λh=> .inr ⟨rfl,rfl,_,_,d,by simp;omega⟩,λh=>⟨v',l++y,⟨d,by simp;omega⟩,rfl, .inl ⟨rfl,by simp⟩⟩⟩⟩
 ·rintro⟨v,l⟩ ⟨b,j⟩;simp only at b j;simp[-fB',-eB'];exact⟨l,fA An (by simp[ai]), .inl ⟨rfl,qjY b,j⟩⟩
abbrev qip:Spc:=aG (a1 Glob) (λg=>g=GlobE) (enc (X:=Bool)) λx y=>y=true
def Un:ak kb jY S (a1 Glob) (λg=>g=GlobE) (enc (X:=Bool)) λx y=>y=true:=by
 rintro x rfl;simp[kb,jY,GlobE,E0,-fB']
abbrev qdM:Spc:=aG (a1 Glob) (λg=>g=GlobE) (enc (X:=Bool)) λx y=>y=true
def Rh(h1:S qU=qip):ak iN iA S (a1 Glob) (λg=>g=GlobE) (enc (X:=Bool)) λx y=>y=true:=by
 rintro x rfl;simp[iN,iA,h1,-fB']
abbrev qiP:Spc:=aG (aE (List vR) (aD a0)) (λx=>x.1=[]) (enc (X:=Int)) λx y=>y= -1
def xZ:ak cy cn S (aE (List vR) (aD a0)) (λx=>x.1=[]) (enc (X:=Int)) λx y=>y= -1:=by
 rintro⟨l,d,⟨⟩⟩ h;have h:l=[]:=h;subst h;simp[cy,cn,-fB'];refine ah (X:=Unit) [] [] 0 (λ_ _=>True) (λ_=>[]) (λ_=>[]) () trivial (λk x hk=>absurd hk (by omega)) (λ_ _=>?_);simp
abbrev qbU:Spc:=aG (aE (List vR) (aD a0)) (λx=>x.1=[]) (enc (X:=Bool)) λx y=>y=false
def un(h1:S cN=qiP):ak bN bL S (aE (List vR) (aD a0)) (λx=>x.1=[]) (enc (X:=Bool)) λx y=>y=false:=by
 rintro⟨l,d,⟨⟩⟩ h;have h:l=[]:=h;subst h;simp[bN,bL,h1,-fB']
abbrev qiI:Spc:=aG (a3 Glob (List Attr) (List B)) (λx=>x.1=GlobE) (enc (X:=Int)) λ_ y=>y=0
abbrev qdH:Spc:=aG (a3 Glob (List Attr) (List B)) (λx=>x.1=GlobE) (enc (X:=Int)) λ_ y=>y=0
structure qDz (q:Qry):Prop where
 filts:q.filts=[]
 strat:q.strat=0
 pat:fy aB q.pat=true
 size:fM q.pat<=256
 l3:(aZ q.pat []).length<=3
 num:dm q.pat<=1000000
abbrev qiH:Spc:=aG (a1 Qry) qDz (enc (X:=Int)) λ_ y=>y=0
theorem qqx{N:Nat->Spc}(h0:N dH=EW)(c:N dh=Aq)(h1:S nP=Nu)(h2:S fN=Du N)(h3:S gK=EU)(h4:S ct=s_qlabels)(h5:S aY=qbU):
 ak ed dW S (a1 Qry) qDz (enc (X:=Int)) λ_ y=>y=0:=by
 rintro q a;have f1:FunIs N (.clo dH []) (nI aB):=wR h0 λ_=>trivial
 have j:FunIs N (.clo dh []) lF:=wR c λ_=>trivial
 have hp:=a.pat;unfold fy at hp;simp only[qFO]at hp;obtain⟨⟨⟨k,p⟩,r⟩,s⟩:=hp;have d:=a.size;have b:¬256<fM q.pat:=by omega
 have t:=a.l3;have h:qe1 q.pat []:=by show 0+dm q.pat<=1000000;have:=a.num;omega
 simp[ed,dW,h1,k,p,h2,a.filts,a.strat,h3,a.pat,d,b,h5,-fB',-eB'];refine⟨⟨_,f1⟩,λy u=>⟨λ_=>⟨⟨_,j⟩,λz hz=>⟨by rw[hz _ j,s],λ_=>?_⟩⟩,by rw[u _ f1,r]⟩⟩;simp[h4,-fB',-eB'];refine .inl ⟨h,λl hl _=>?_⟩;have hl:l=aZ q.pat []:=hl;subst hl;omega
def qmU:ak az ay S (a3 Glob (List Attr) (List B)) (λx=>x.1=GlobE) (enc (X:=Int)) λ_ y=>y=0:=by
 rintro⟨g,a,lb⟩ h;have h:g=GlobE:=h;subst h;simp[az,ay,GlobE,-fB',-eB']
def qqy(h1:S gM=qdH):ak gP gD S (a3 Glob (List Attr) (List B)) (λx=>x.1=GlobE) (enc (X:=Int)) λ_ y=>y=0:=by
 rintro⟨g,a,lb⟩ h;have h:g=GlobE:=h;subst h;simp[gP,gD,h1,-fB',-eB'];simp[GlobE,-fB',-eB'];refine ah (X:=Unit) [] [] 0 (λ_ _=>True) (λ_=>[]) (λ_=>[]) () trivial (λk x hk=>absurd hk (by omega)) (λ_ _=>?_);simp
theorem qql(h1:S eX=qiH)(h2:S ct=s_qlabels)(h3:S dK=s_leavesQ)(h4:S dz=U2)(h5:S aY=qbU)(h6:S nO=qdM)(t:S eA=qiI):
 ak gQ gE S (a2 Qry (List Attr)) (λx=>qzZ x.2 x.1) (enc (X:=Int)) λ_ y=>y=0:=by
 rintro⟨q,a⟩ b;have b:qzZ a q:=b;have u:qDz q:=⟨b.filts,b.strat,b.pat,b.size,b.l3,b.num⟩
 have c:qe1 q.pat []:=by show 0+dm q.pat<=1000000;have:=b.num;omega
 have w:(aq q.pat).length<=dm q.pat:=sJ q.pat;have d:qhj q.pat []:=⟨by have:=b.num;simp;omega,λy h=>(b.lv y h).2⟩
 simp[gQ,gE,h1,u,h2,-fB',-eB'];refine .inl ⟨c,λl hl=>?_⟩;have hl:l=aZ q.pat []:=hl;subst hl;simp[h3,-fB',-eB'];refine .inl ⟨d,?_⟩;intro A;refine ah (X:=Unit) [1,2,6,20] [] (bF q.pat).length (λ_ _=>True) (λ_=>[]) (λ_=>[]) () trivial ?_ ?_
 ·rintro k ⟨⟩ hk -;obtain⟨x,j⟩:∃x,(bF q.pat)[k]? =some x:=⟨_,qFH hk⟩
  obtain⟨_,p⟩:=qFG.1 j;have r:=qFK j;obtain⟨y,h,rfl⟩:=qFQ.1 r;have s:WT ((nk y).cond,a,aZ q.pat []):=⟨(b.lv y h).1,b.att⟩
  simp[hk,j,p,h4,s,-fB',-eB'];exact s
 ·rintro⟨⟩ -;simp[h5,h6,t,b.glob,b.filts,-fB',-eB']
end
section
def qua(s:B)(i:Nat):Option (Nat×Mh):=match s.data[i]? with
 |none=>none
 | some c=>
   if qjT c.toNat then some (KU s i,⟨110,s.extract i (KU s i),i⟩)
   else if 48<=c.toNat/\c.toNat<=57 then none
   else if c.toNat=34 then(qb1 s (i+1) ⟨#[]⟩).map λr=>(r.1+1,⟨115,r.2,i⟩)
   else match signsL.find? (qrh s i)with
    |none=>none
    |some x=>some (i+x.size,⟨111,s.extract i (i+x.size),i⟩)
def Oz:Nat->B->Nat->List Mh->Option (List Mh)
 | 0,_,_,_=>none
 |k+1,s,i,out=>if yl s i=s.size then some (out++ [⟨101,⟨#[]⟩,s.size⟩])else(qua s (yl s i)).bind λr=>if r.1<=s.size/\yl s i<r.1 then Oz k s r.1 (out++ [r.2])else none
def LK(s:B):Option (List Mh):=if s.size<=100000 then Oz 100000 s 0 []else none
def qjx{s:B}{i:Nat}(h:s.size<=i):KU s i=i:=by
 unfold KU;rw[show s.size -i=0 by omega,qnN]
def SZ{s:B}{i:Nat}(h:i<s.size):KU s i=if qjZ s i then KU s (i+1)else i:=by
 unfold KU;rw[show s.size -i=(s.size - (i+1)) +1 by omega,qnN]
def qdZ(s:Pst):Option Mh:=if 0<=s.pos/\s.pos+1<s.l.length/\s.l.length<=1000000 then s.l[(s.pos+1).toNat]? else none
def Wz(s:Pst):Option Bool:=(BD s).bind λx=>if s.e≠0 then none else if x.kind=110 then(qdZ s).bind λn=>if n.kind=111/\n.text=⟨#[58]⟩then some true else none
 else some (decide (x.kind=115\/x.kind=111/\(x.text=⟨#[91]⟩\/x.text=⟨#[60]⟩\/x.text=⟨#[60,47]⟩\/x.text=⟨#[40]⟩)))
def UJ(s:Pst)(lb:B):Option (Pst×Pat):=if s.e≠0 then none else(BD s).bind λx=>
 if x.kind=115 then(uS s.step ⟨#[37,99]⟩).map λw=>(w.1,⟨1,⟨2,E0,E0,x.text,E0,w.2, []⟩,lb,E0,0,0, []⟩)
 else(Hw s 111 ⟨#[91]⟩).bind λu=>(uS u.1 ⟨#[93]⟩).bind λw=>if w.2 then some (w.1,⟨1,⟨1,E0,E0,E0,E0,false, []⟩,lb,E0,0,0, []⟩)else none
def qjX(s:Pst):Option (Pst×Pat):=if s.e≠0 then none else(BD s).bind λx=>if x.kind=111/\x.text≠ ⟨#[91]⟩then none else
 if x.kind=110 then(Hw s.step 111 ⟨#[58]⟩).bind λu=>UJ u.1 x.text else UJ s E0
def DG:Nat->Pst->Pat->Option (Pst×Pat)
 | 0,_,_=>none
 | k+1,s,x=>if s.e≠0 then none else(BD s).bind λt=>if t.kind=111/\(t.text=⟨#[63]⟩\/t.text=⟨#[43]⟩\/t.text=⟨#[123]⟩)then none else
    if t.kind=111/\t.text=⟨#[42]⟩then DG k s.step ⟨6,Cond0,E0,E0,0, -1, [x]⟩else some (s,x)
def qnp(s:Pst):Option (Pst×Pat):=(qjX s).bind λr=>DG 9 r.1 r.2
def Ds:Nat->Pst->List Pat->Option (Pst×List Pat)
 | 0,_,_=>none
 |k+1,s,a=>(Wz s).bind λb=>if b then(qnp s).bind λr=>Ds k r.1 (a++ [r.2])else some (s,a)
def qh6(s:Pst):Option (Pst×Pat):=(qnp s).bind λr=>(Ds 9 r.1 [r.2]).map λq=>(q.1,qpE 4 q.2)
def qlO(s:Pst):Option (Pst×Pat):=(qh6 s).bind λr=>(uS r.1 ⟨#[124]⟩).bind λw=>if w.2 then none else some (w.1,r.2)
def O6(s:B):Option Pat:=if s.size<=400 then(LK s).bind λl=>(qlO ⟨l,0,0,0,0⟩).bind λr=>if r.1.e≠0 then none else(BD r.1).bind λt=>if t.kind=101 then some r.2 else none else none
open Go.Proofs
def uV:CC:=gq Tryz.f148 [] {} _
def uu:List aj:=[.tmp 2]
def MM:FO wV [] uV uu 21:=fo
def xz:CC:=gq Tryz.f149 [] {} _
def wv:List aj:=[.tmp 2]
def Pd:FO zu [] xz wv 9:=fo
def B3:CC:=gq Tryz.f150 [] {} _
def A3:List aj:=[.tmp 0]
def Vm:FO Eb [] B3 A3 2:=fo
def EB:CC:=gq Tryz.f81 [1036200,1074200,1083200,1121200,1147200,1192200,1200200] { cu:=[3,10] } _
def Dy:List aj:=[.tmp 2]
def Y1:FO Hd [1036200,1074200,1083200,1121200,1147200,1192200,1200200] EB Dy 202:=fo
def ru:CC:=gq Tryz.f91 [2002002] { ke:=[0] } _
def qb:List aj:=[.cell 2 true 3]
def II:FO dx [2002002] ru qb 13:=fo
def pa:CC:=gq Tryz.f268 [2002002] { ke:=[0] } _
def om:List aj:=[.cell 2 true 3]
def Gy:FO qQ [2002002] pa om 21:=fo
def mI:CC:=gq Tryz.f89 [] { bx:=[0] } _
def mw:List aj:=[.tmp 6]
def Kx:FO jN [] mI mw 26:=fo
def rv:CC:=gq Tryz.f83 [] { ke:=[0] } _
def qc:List aj:=[.tmp 4]
def IJ:FO ez [] rv qc 15:=fo
def oY:CC:=gq Tryz.f88 [] { ke:=[0] } _
def ol:List aj:=[.tmp 6]
def Gx:FO qP [] oY ol 40:=fo
def pb:CC:=gq Tryz.f272 [] { bx:=[0] } _
def oo:List aj:=[.tmp 2]
def GB:FO qS [] pb oo 5:=fo
def gO:CC:=gq Tryz.f214 [] { bx:=[0] } _
def gC:List aj:=[.tmp 2]
def DO:FO ni [] gO gC 63:=fo
def eH:CC:=gq Tryz.f266 [] { bx:=[0] } _
def ep:List aj:=[.cell 2 true 13]
def Gz:FO qR [] eH ep 97:=fo
def rr:CC:=gq Tryz.f213 [] { bx:=[0] } _
def qa:List aj:=[.cell 2 true 13]
def IH:FO sO [] rr qa 64:=fo
def rq:CC:=gq Tryz.f151 [100006,1013006] { ke:=[0] } _
def pY:List aj:=[.cell 2 true 13]
def IG:FO sM [100006,1013006] rq pY 22:=fo
def rz:CC:=gq Tryz.f82 [100006,1013006] { ke:=[0] } _
def qd:List aj:=[.cell 2 true 13]
def IK:FO sP [100006,1013006] rz qd 22:=fo
def oW:CC:=gq Tryz.f85 [] { ke:=[0] } _
def oj:List aj:=[.tmp 6]
def Gw:FO qO [] oW oj 22:=fo
def xD:CC:=gq Tryz.f86 [] {} _
def ww:List aj:=[.tmp 0]
def Pe:FO zw [] xD ww 2:=fo
def B7:CC:=gq Tryz.f36 [2056006,2002002] { cu:=[8,18,23] } _
def A7:List aj:=[.cell 2 true 26, .tmp 3, .tmp 4]
def Vq:FO pE [2056006,2002002] B7 A7 110:=fo
open Cod (enc dec)
variable {S S0:Nat->Spc}
@[simp] abbrev qe6(s:Pst)(_:Unit):Option (Pst×Mh):=(BD s).map λx=>(s,x)
abbrev OG:Spc:=qb3 a0 (enc (X:=Mh)) qe6
def qtZ:rS ru qb S a0 (enc (X:=Mh)) (λs z=>∃r,qe6 s z=some r) (λs z d y=>qe6 s z=some (d,y)):=by
 rintro b s ⟨⟩ ⟨r,c⟩;simp only[qe6,BD,qFR]at c;obtain⟨x,a,rfl⟩:=c;split at a
 ·rename_i h0;obtain⟨h0,hb⟩:=h0;have hl:=qpM a;obtain⟨_,h⟩:=qFG.1 a;simp[ru,qb,a];exactλ_=>⟨h0,by omega,Jn s x (.same _) (by simp) ⟨by rw[BD,if_pos ⟨h0,hb⟩,a],rfl⟩⟩
 ·cases a
def Jq{s:Pst}(h:s.e=0):Pst.mk s.l s.pos s.deep 0 s.fail=s:=by rw[<-h]
def ZT{b:Nat}{post:Pst->Bool->Prop}{v:Bool}{H:ab}(s:Pst)(h0:H 0=some (.box b (nQ s)))(a:post s v):QQ enc b post (.v (.bool v)) H:=Jn s v (.same _) h0 a
def qB8{b:Nat}{post:Pst->Int->Prop}{v:Int}{H:ab}(s:Pst)(h0:H 0=some (.box b (nQ s)))(a:post s v):QQ enc b post (.v (.int .i64 v)) H:=Jn s v (.same _) h0 a
def qrS{b:Nat}{post:Pst->B->Prop}{v:B}{H:ab}(s:Pst)(h0:H 0=some (.box b (nQ s)))(a:post s v):QQ enc b post (.v (.string v)) H:=Jn s v (.same _) h0 a
@[simp] abbrev qpg(s:Pst)(z:U8×B):Option (Pst×Bool):=(qec s z.1.val z.2).map λx=>(s,x)
abbrev qnm:Spc:=qb3 (a2 U8 B) (enc (X:=Bool)) qpg
def qAf(h1:S dx=OG):rS mI mw S (a2 U8 B) (enc (X:=Bool)) (λs z=>∃r,qpg s z=some r) (λs z h y=>qpg s z=some (h,y)):=by
 rintro b s ⟨⟨k⟩,t⟩ ⟨r,a⟩;simp only[qpg,qec,qFR]at a;obtain⟨v,a,rfl⟩:=a;split at a
 ·rename_i he;simp[mI,mw,h1,he];exact ZT s (by simp) ⟨by rw[qec,if_pos he],rfl⟩
 ·rename_i he;have he:s.e=0:=by simpa using he
  obtain⟨x,c,rfl⟩:=qFR.1 a;have d:qec s k t=some (decide (x.kind=k/\x.text=t)):=by rw[qec,if_neg (by simp[he]),c];rfl
  simp[mI,mw,h1,he,Jq he,c];refine⟨λhk=>ZT s (by simp[he]) ⟨by rw[d];simp[hk],rfl⟩,λhk=>ZT s (by simp[he]) ⟨by rw[d];simp[hk],rfl⟩⟩
@[simp] abbrev TT(s:Pst)(t:B):Option (Pst×Bool):=uS s t
abbrev SB:Spc:=qb3 (a1 B) (enc (X:=Bool)) TT
def qj0{s:Pst}{k:Int}{t:B}(h:qec s k t=some true):s.e=0/\∃x,BD s=some x/\x.kind=k/\x.text=t:=by
 unfold qec at h;split at h
 ·cases h
 ·rename_i he;obtain⟨x,a,h2⟩:=qFR.1 h;simp at h2;exact⟨by simpa using he,x,a,h2⟩
def Zb{s:Pst}{x:Mh}(h:BD s=some x):0<=s.pos/\s.pos<s.l.length/\s.l.length<=1000000:=by
 unfold BD at h;split at h
 ·have:=qpM h;omega
 ·cases h
def qt1(h1:S jN=qnm):rS rv qc S (a1 B) (enc (X:=Bool)) (λs z=>∃r,TT s z=some r) (λs z c y=>TT s z=some (c,y)):=by
 rintro b s t ⟨r,a⟩;have d:=a;simp only[TT,uS,qFR]at a;obtain⟨v,a,rfl⟩:=a;simp[rv,qc,h1,a];cases v
 ·simp;exact ZT s (by simp) (by simp[TT,uS,a])
 ·obtain⟨_,x,h,_⟩:=qj0 a;have:=Zb h;simp;exact⟨by simp only[InR];omega,ZT s.step (by simp[Pst.step]) (by simp[TT,uS,a])⟩
def NC{s:Pst}{k:Int}{t:B}{x:Mh}(he:s.e=0)(a:BD s=some x):qec s k t=some (decide (x.kind=k/\x.text=t)):=by
 rw[qec,if_neg (by simp[he]),a];rfl
@[simp] abbrev Xa(s:Pst)(z:U8×B):Option (Pst×B):=Hw s z.1.val z.2
abbrev qig:Spc:=qb3 (a2 U8 B) (enc (X:=B)) Xa
theorem qqi(h1:S dx=OG):rS oY ol S (a2 U8 B) (enc (X:=B)) (λs z=>∃r,Xa s z=some r) (λs z j y=>Xa s z=some (j,y)):=by
 rintro b s ⟨⟨k⟩,t⟩ ⟨r,a⟩;have c:=a;simp only[Xa,Hw]at a;split at a
 ·cases a
 rename_i he;have he:s.e=0:=by simpa using he
 obtain⟨x,q,a⟩:=qFF.1 a;split at a
 ·cases a
 rename_i hk;cases a;have l:x.kind=k:=by by_cases h:x.kind=k;exact h;exact absurd (.inl h) hk
 have p:k=111->x.text=t:=λh=>by by_cases d:x.text=t;exact d;exact absurd (.inr ⟨h,d⟩) hk
 have u:=Zb q;simp[oY,ol,h1,he,Jq he,q,l];clear h1;have fin:∀H:ab,H 0=some (.box b (nQ s.step))->QQ enc b (λj y=>Hw s k t=some (j,y)) (.v (.string x.text)) H:=λH h=>qrS s.step h c
 intro w;exact⟨λh=>⟨λd=>absurd (p h) d,λ_=>⟨by simp only[InR];omega,qrS s.step (by simp[Pst.step,he]) c⟩⟩,λ_=>⟨by simp only[InR];omega,qrS s.step (by simp[Pst.step,he]) c⟩⟩
@[simp] abbrev Xc(s:Pst)(_:Unit):Option (Pst×Bool):=uS s ⟨#[37,99]⟩
abbrev qiz:Spc:=qb3 a0 (enc (X:=Bool)) Xc
def qqu(h1:S ez=SB):rS pb oo S a0 (enc (X:=Bool)) (λs z=>∃r,Xc s z=some r) (λs z a y=>Xc s z=some (a,y)):=by
 rintro b s ⟨⟩ ⟨⟨a,v⟩,c⟩;simp only[Xc]at c;simp[pb,oo,h1,c,-fB',-eB'];refine ZT a ?_ ?_
 ·simp
 ·exact⟨rfl,rfl⟩
def qgf{s:Pst}{x:Mh}(h:qdZ s=some x):0<=s.pos/\s.pos+1<s.l.length/\s.l.length<=1000000/\s.l[(s.pos+1).toNat]? =some x:=by
 unfold qdZ at h;split at h
 ·rename_i h0;exact⟨h0.1,h0.2.1,h0.2.2,h⟩
 ·cases h
@[simp] abbrev qc5(s:Pst)(_:Unit):Option (Pst×Mh):=(qdZ s).map λx=>(s,x)
abbrev qiq:Spc:=qb3 a0 (enc (X:=Mh)) qc5
def qqm:rS pa om S a0 (enc (X:=Mh)) (λs z=>∃r,qc5 s z=some r) (λs z h y=>qc5 s z=some (h,y)):=by
 rintro b s ⟨⟩ ⟨r,j⟩;obtain⟨x,c,rfl⟩:=qFR.1 j;obtain⟨p,q,t,k⟩:=qgf c;have hm:min (s.pos+1) (s.l.length -1)=s.pos+1:=by omega
 simp[pa,om,InR,hm];refineλ_=>⟨by omega,λ_=>⟨by omega,by omega,by omega,λa d=>Jn s a (.same _) (by simp) ⟨?_,rfl⟩⟩⟩
 rw[k]at d;rw[<-d,c]
@[simp] abbrev QR(s:Pst)(_:Unit):Option (Pst×Bool):=(Wz s).map λv=>(s,v)
abbrev ON:Spc:=qb3 a0 (enc (X:=Bool)) QR
def qhv(h1:S dx=OG)(h2:S qQ=qiq):rS gO gC S a0 (enc (X:=Bool)) (λs z=>∃r,QR s z=some r) (λs z j y=>QR s z=some (j,y)):=by
 rintro b s ⟨⟩ ⟨r,d⟩;obtain⟨v,a,rfl⟩:=qFR.1 d;have c:=a;simp only[Wz]at a;obtain⟨x,h,a⟩:=qFF.1 a;split at a
 ·cases a
 rename_i he;have he:s.e=0:=by simpa using he
 split at a
 ·rename_i hk;obtain⟨n,hn,a⟩:=qFF.1 a;split at a
  ·rename_i hc;cases a;simp[gO,gC,h1,h2,h,he,Jq he,hk,hn,hc.1,hc.2];exact ZT s (by simp[he]) ⟨c,rfl⟩
  ·cases a
 rename_i hk;cases a;simp[gO,gC,h1,h,he,Jq he,hk];clear h1 d
 repeat' first|apply And.intro|intro _
 all_goals refine ZT s (by simp[he]) ⟨?_,rfl⟩
 all_goals (rw[c];simp[*])
theorem qom{H:ab}{op o:Int}{n a v l lb rg:B}{f:Bool}{j d:D}{mn mx:Int}(h:List Cond)(ks:List Pat)(hc:FrzTo H j (enc h))(p:FrzTo H d (enc ks)):
 FrzTo H (.agg [.v (.int .i64 op), .v (.int .i64 o), .v (.string n), .v (.string a), .v (.string v), .v (.string l), .v (.bool f),j, .v (.string lb), .v (.string rg), .v (.int .i64 mn), .v (.int .i64 mx),d]) (enc (⟨op,⟨o,n,a,v,l,f,h⟩,lb,rg,mn,mx,ks⟩:Pat)):=by
 rw[Wm];refine .agg rfl λk x y b c=>?_
 rcases k with _|_|_|_|_|_|_|_|_|_|_|_|_|k
 ·cases b;cases c;exact .same _
 ·cases b;cases c;exact .same _
 ·cases b;cases c;exact .same _
 ·cases b;cases c;exact .same _
 ·cases b;cases c;exact .same _
 ·cases b;cases c;exact .same _
 ·cases b;cases c;exact .same _
 ·cases b;cases c;exact hc
 ·cases b;cases c;exact .same _
 ·cases b;cases c;exact .same _
 ·cases b;cases c;exact .same _
 ·cases b;cases c;exact .same _
 ·cases b;cases c;exact p
 ·simp at b
def qkA{b:Nat}{post:Pst->Pat->Prop}{H:ab}{op o:Int}{n a v l lb rg:B}{f:Bool}{h d:D}{mn mx:Int}(s:Pst)(c:List Cond)(ks:List Pat)(hc:FrzTo (λi=>if i=0 then none else H i) h (enc c))(j:FrzTo (λi=>if i=0 then none else H i) d (enc ks))
 (h0:H 0=some (.box b (nQ s))) (k:post s ⟨op,⟨o,n,a,v,l,f,c⟩,lb,rg,mn,mx,ks⟩):
 QQ enc b post (.agg [.v (.int .i64 op), .v (.int .i64 o), .v (.string n), .v (.string a), .v (.string v), .v (.string l), .v (.bool f),h, .v (.string lb), .v (.string rg), .v (.int .i64 mn), .v (.int .i64 mx),d]) H:=
 Jn s _ (qom c ks hc j) h0 k
def qcC{s:Pst}{t:B}{r:Pst×Bool}(h:uS s t=some r):(r=(s,false)/\qec s 111 t=some false)\/(r=(s.step,true)/\qec s 111 t=some true):=by
 unfold uS at h;obtain⟨v,a,rfl⟩:=qFR.1 h;cases v
 ·exact .inl ⟨rfl,a⟩
 ·exact .inr ⟨rfl,a⟩
def BZ{s:Pst}{x:Mh}{t:B}(he:s.e=0)(a:BD s=some x)(h:¬(x.kind=111/\x.text=t)):uS s t=some (s,false):=by
 rw[uS,NC he a,decide_eq_false h];rfl
def qoB{s:Pst}{x:Mh}{t:B}(he:s.e=0)(a:BD s=some x)(h1:x.kind=111)(h2:x.text=t):uS s t=some (s.step,true):=by
 rw[uS,NC he a,decide_eq_true ⟨h1,h2⟩];rfl
@[simp] abbrev Xb(s:Pst)(_:Unit):Option (Pst×Pat):=qjX s
abbrev qiw:Spc:=qb3 a0 (enc (X:=Pat)) Xb
@[simp] abbrev qe5(s:Pst)(_:Unit):Option (Pst×Pat):=qnp s
abbrev qpw:Spc:=qb3 a0 (enc (X:=Pat)) qe5
@[simp] abbrev qe4(s:Pst)(_:Unit):Option (Pst×Pat):=qh6 s
abbrev qpu:Spc:=qb3 a0 (enc (X:=Pat)) qe4
@[simp] abbrev qe7(s:Pst)(_:Unit):Option (Pst×Pat):=qlO s
abbrev qpy:Spc:=qb3 a0 (enc (X:=Pat)) qe7
def qho{s:Pst}{x:Mh}{k:Int}{t:B}(he:s.e=0)(a:BD s=some x)(h1:x.kind=k)(h2:k=111->x.text=t):Hw s k t=some (s.step,x.text):=by
 rw[Hw,if_neg (by simp[he]),a,qF1,if_neg (by rintro(h|h);exact h h1;exact h.2 (h2 h.1))]
theorem Od{s a:Pst}{lb:B}{y:Pat}(h:UJ s lb=some (a,y)):s.e=0/\∃x,BD s=some x/\((x.kind=115/\Hw s 115 ⟨#[]⟩=some (s.step,x.text)/\∃w,uS s.step ⟨#[37,99]⟩=some (a,w)/\y=⟨1,⟨2,E0,E0,x.text,E0,w, []⟩,lb,E0,0,0, []⟩)\/
 (x.kind≠115/\∃u t,Hw s 111 ⟨#[91]⟩=some (u,t)/\uS u ⟨#[93]⟩=some (a,true)/\y=⟨1,⟨1,E0,E0,E0,E0,false, []⟩,lb,E0,0,0, []⟩)):=by
 unfold UJ at h;split at h
 ·cases h
 rename_i he;have he:s.e=0:=by simpa using he
 obtain⟨x,c,h⟩:=qFF.1 h;refine⟨he,x,c,?_⟩;split at h
 ·rename_i hk;obtain⟨⟨d,w⟩,b,h⟩:=qFR.1 h;cases h;exact .inl ⟨hk,qho he c hk (λh=>absurd h (by decide)),w,b,rfl⟩
 ·rename_i hk;obtain⟨⟨u,t⟩,j,h⟩:=qFF.1 h;obtain⟨⟨d,w⟩,b,h⟩:=qFF.1 h;cases w with
  |false=>simp at h
  | true=>
    simp at h;obtain⟨rfl,rfl⟩:=h;exact .inr ⟨hk,u,t,j,b,rfl⟩
set_option maxHeartbeats 1000000 in
theorem qqt(h1:S dx=OG)(h2:S ez=SB)(h3:S qP=qig)(h4:S qS=qiz):
 rS eH ep S a0 (enc (X:=Pat)) (λs z=>∃r,Xb s z=some r) (λs z s' y=>Xb s z=some (s',y)):=by
 rintro b s ⟨⟩ ⟨⟨s',y⟩,hr⟩;have hr0:=hr;simp only[Xb,qjX]at hr;split at hr
 ·cases hr
 rename_i he;have he:s.e=0:=by simpa using he
 obtain⟨x,hx,hr⟩:=qFF.1 hr;split at hr
 ·cases hr
 rename_i hx1;have n1:uS s ⟨#[40]⟩=some (s,false):=BZ he hx λh=>hx1 ⟨h.1,by rw[h.2];decide⟩
 have n2:uS s ⟨#[60]⟩=some (s,false):=BZ he hx λh=>hx1 ⟨h.1,by rw[h.2];decide⟩
 have n3:uS s ⟨#[60,47]⟩=some (s,false):=BZ he hx λh=>hx1 ⟨h.1,by rw[h.2];decide⟩
 split at hr
 ·rename_i hk;obtain⟨⟨s1,t1⟩,hc,hr⟩:=qFF.1 hr;simp only at hr;have hw:=qho (k:=110) (t:=⟨#[]⟩) he hx hk (λh=>absurd h (by decide));obtain⟨he1,x1,hx1,(⟨k1,w1,w,hf,rfl⟩|⟨k1,u,t,hu,hf,rfl⟩)⟩:=Od hr
  ·simp[eH,ep,h1,h2,h3,h4,n1,n2,n3,he,Jq he,hx,hk,hw,hc,he1,Jq he1,hx1,k1,w1,hf,-fB',-eB'];exactλb1=>qkA s' [] [] (.nil _) (.nil _) (by simp) hr0
  ·simp[eH,ep,h1,h2,h3,h4,n1,n2,n3,he,Jq he,hx,hk,hw,hc,he1,Jq he1,hx1,k1,hu,hf,-fB',-eB'];exactλb1=>qkA s' [] [] (.nil _) (.nil _) (by simp) hr0
 ·rename_i hk;obtain⟨_,x1,hx1,h⟩:=Od hr;rw[hx]at hx1;cases hx1;obtain(⟨k1,w1,w,hf,rfl⟩|⟨k1,u,t,hu,hf,rfl⟩):=h
  ·simp[eH,ep,h1,h2,h3,h4,n1,n2,n3,he,Jq he,hx,k1,w1,hf,-fB',-eB'];exactλb1=>qkA s' [] [] (.nil _) (.nil _) (by simp) hr0
  ·simp[eH,ep,h1,h2,h3,h4,n1,n2,n3,he,Jq he,hx,hk,k1,hu,hf,-fB',-eB'];exactλb1=>qkA s' [] [] (.nil _) (.nil _) (by simp) hr0
set_option maxHeartbeats 1000000 in
theorem qtY(h1:S dx=OG)(h2:S ez=SB)(h5:S qR=qiw):
 rS rr qa S a0 (enc (X:=Pat)) (λs z=>∃r,qe5 s z=some r) (λs z s' y=>qe5 s z=some (s',y)):=by
 rintro b s ⟨⟩ ⟨⟨s',y⟩,hr⟩;have hr0:=hr;simp only[qe5,qnp]at hr;obtain⟨⟨s1,x1⟩,hi,hr⟩:=qFF.1 hr;simp only at hr;simp[rr,qa,h5,hi];intro b2 b3;refine rX (X:=Nat×Pst×Pat) [0,2,3] [2] [] [] [] [] (λz=>DG z.1 z.2.1 z.2.2=some (s',y)) (λ_=>[]) (λz=>[(0, .box b (nQ z.2.1)),(3, .box b3 (enc z.2.2).cells)]) (λz=>z.1) (9,s1,x1) [0,3] (λ_=>rfl) (by decide) (by decide) hr (by simp) (by simp) ?_;clear hr hi;rintro⟨k,s,x⟩ hk;simp only at hk;obtain _|k:=k
 ·rw[DG]at hk;cases hk
 rw[DG]at hk;split at hk
 ·cases hk
 rename_i he;have he:s.e=0:=by simpa using he
 obtain⟨t,ht,hk⟩:=qFF.1 hk;split at hk
 ·cases hk
 rename_i hno;have n1:uS s ⟨#[63]⟩=some (s,false):=BZ he ht λh=>hno ⟨h.1, .inl h.2⟩
 have n3:uS s ⟨#[43]⟩=some (s,false):=BZ he ht λh=>hno ⟨h.1, .inr (.inl h.2)⟩
 have n4:uS s ⟨#[123]⟩=some (s,false):=BZ he ht λh=>hno ⟨h.1, .inr (.inr h.2)⟩
 split at hk
 ·rename_i hb;have y2:=qoB he ht hb.1 hb.2;simp[h1,h2,he,Jq he,ht,n1,y2,-fB',-eB'];exact⟨k,s.step,⟨6,Cond0,E0,E0,0, -1, [x]⟩,hk,⟨.inl (.inl ⟨rfl,rfl,rfl,rfl,rfl⟩), .inl (by simp[Cond0,E0])⟩,by omega⟩
 ·rename_i hb;have n2:uS s ⟨#[42]⟩=some (s,false):=BZ he ht hb;cases hk;simp[h1,h2,he,Jq he,ht,n1,n2,n3,n4,-fB',-eB'];exact Jn s' y (by simp) (by simp[he]) hr0
def qnD{op:Int}{l:List Pat}(h:l.length≠1):qpE op l=⟨op,Cond0,E0,E0,0,0,l⟩:=by
 match l,h with
 | [],_=>rfl
 | [x],h=>exact absurd rfl h
 |x::y::l,_=>rfl
theorem qtW(h1:S ni=ON)(h2:S sO=qpw):
 rS rq pY S a0 (enc (X:=Pat)) (λs z=>∃r,qe4 s z=some r) (λs z h y=>qe4 s z=some (h,y)):=by
 rintro b s ⟨⟩ ⟨⟨h,y⟩,c⟩;have d:=c;simp only[qe4,qh6]at c;obtain⟨⟨q,t⟩,hi,c⟩:=qFF.1 c;obtain⟨⟨F,j⟩,hl,c⟩:=qFR.1 c;simp only at hl c;cases c;simp[rq,pY,h2,hi];intro b2 u;refine au (X:=Nat×Pst×Value×List Pat) [0,2] [2] (λz=>Ds z.1 z.2.1 z.2.2.2=some (h,j)/\z.2.2.2.length+z.1<=10) (λz=>[(3, .own 6 z.2.2.1)]) (λz=>[(0, .box b (nQ z.2.1)),(6, .row z.2.2.1 aC 13 (z.2.2.2.map enc))]) (λz=>z.1) (9,q,u, [t]) ⟨hl,by simp⟩ ?_;clear c hl hi;rintro⟨k,s,v,l⟩ ⟨hk,hlen⟩;simp only at hk hlen;obtain _|k:=k
 ·rw[Ds]at hk;cases hk
 rw[Ds]at hk;obtain⟨v1,hb,hk⟩:=qFF.1 hk;cases v1
 ·simp only[qGy,if_false]at hk;cases hk;simp[h1,hb,-fB',-eB'];clear h1 h2;refineλ_=>⟨λh1=>⟨by omega,λa p=>?_⟩,λw=>?_⟩
  ·have e:j=[a]:=by
    match j,h1,p with
    | [x],_,p=>simp at p;rw[p]
   rw[e]at d;exact Jn h a (by simp) (by simp) d
  ·rw[qnD (by omega)]at d;exact qkA h [] j (.nil _) (fA aC (by simp)) (by simp) d
 ·simp only[if_true]at hk;obtain⟨⟨A,C⟩,E,hk⟩:=qFF.1 hk;simp only at hk;simp[h1,hb,h2,E,-fB',-eB'];exact⟨by omega,by omega,λv'=>⟨k,A,v',l++ [C],⟨hk,by simp;omega⟩,⟨rfl, .inl ⟨rfl,rfl,rfl,rfl,rfl⟩, .inl ⟨rfl,by simp⟩⟩,by omega⟩⟩
def qt2(h1:S ez=SB)(h2:S sM=qpu):
 rS rz qd S a0 (enc (X:=Pat)) (λs z=>∃r,qe7 s z=some r) (λs z d y=>qe7 s z=some (d,y)):=by
 rintro b s ⟨⟩ ⟨⟨d,y⟩,a⟩;have c:=a;simp only[qe7,qlO]at a;obtain⟨⟨j,k⟩,hi,a⟩:=qFF.1 a;simp only at a;obtain⟨⟨l,w⟩,h,a⟩:=qFF.1 a;cases w with
 |true=>simp at a
 | false=>
   simp at a;obtain⟨rfl,rfl⟩:=a;obtain⟨e,_⟩|⟨e,_⟩:=qcC h
   ·cases e;simp[rz,qd,h2,hi];intro b2 p;refine au (X:=Unit) [0,2,3] [0,2,6] (λ_=>True) (λ_=>[]) (λ_=>[]) (λ_=>0) () trivial ?_;rintro - -;simp[h1,h,-fB',-eB'];exact Jn j k (by simp) (by simp) c
   ·cases e
def qsa(c:Int):Bool:=decide (48<=c/\c<=57)
abbrev Sz:Spc:=aG (a1 U8) (λ_=>True) (enc (X:=Bool)) λx y=>y=qsa x.val
def qbd:ak uV uu S (a1 U8) (λ_=>True) (enc (X:=Bool)) λx y=>y=AP x.val:=by
 rintro⟨c⟩ -;simp[uV,uu,AP]
 repeat' first|apply And.intro|intro _
 all_goals first|omega|(rw[qGg];simp;omega)
def qfk:ak xz wv S (a1 U8) (λ_=>True) (enc (X:=Bool)) λx y=>y=qsa x.val:=by
 rintro⟨c⟩ -;simp[xz,wv,qsa]
 repeat' first|apply And.intro|intro _
 all_goals first|omega|(rw[qGg];simp;omega)
abbrev qdp:Spc:=aG a0 (λ_=>True) (enc (X:=List B)) λ_ y=>y=signsL
def qmF:ak B3 A3 S a0 (λ_=>True) (enc (X:=List B)) λ_ y=>y=signsL:=by
 rintro x -;simp[B3,A3];exact aL signsL (.same _) rfl
def qeb{s:B}{i:Nat}{c:UInt8}(h:s.data[i]? =some c):qn6 s i=decide (c.toNat=32\/c.toNat=10):=by rw[qn6,h]
def qoT{s:B}{i:Nat}(h:i<s.size):∃c,s.data[i]? =some c:=⟨s.data[i],qGj h⟩
def Yh(s:B):∀(n i:Nat),s.size -i=n->i<=s.size->i<=yl s i/\yl s i<=s.size
 | 0,i,h,hi=>by rw[Sm (by omega)];omega
 | n+1,i,h,hi=>by
   rw[Gk (by omega)];split
   ·have:=Yh s n (i+1) (by omega) (by omega);omega
   ·omega
def ND{s:B}{i:Nat}{c:UInt8}(h:s.data[i]? =some c):qjZ s i=(AP c.toNat||qsa c.toNat||decide ((c.toNat:Int)=45)):=by
 unfold qjZ qjT AP qsa;rw[h,qGg];simp;omega
def Zr(c:UInt8):qjT c.toNat=AP (c.toNat:Int):=by unfold qjT AP;rw[qGg];simp;omega
abbrev qik:Spc:=aG (a1 B) (λs=>∃r,LK s=some r) (enc (X:=List Mh)) λs y=>LK s=some y
theorem qqj(h1:S wV=tT)(h2:S zu=Sz)(h3:S Eb=qdp):ak EB Dy S (a1 B) (λs=>∃r,LK s=some r) (enc (X:=List Mh)) λs y=>LK s=some y:=by
 rintro s ⟨fin,a⟩;have hsz:s.size<=100000:=by
  by_cases h:s.size<=100000
  ·exact h
  ·rw[LK,if_neg h]at a;cases a
 have L:=a;rw[LK,if_pos hsz]at a;simp[EB,Dy];refine au (X:=Nat×Nat×Value×List Mh) [0] [] (λz=>Oz z.1 s z.2.1 z.2.2.2=some fin/\z.2.1<=s.size/\z.2.2.2.length<=z.2.1) (λz=>[(3, .own 200 z.2.2.1),(4,enc (z.2.1:Int))]) (λz=>[(200, .row z.2.2.1 kg 3 (z.2.2.2.map enc))]) (λz=>z.1) (100000,0, .slice none 0 0, []) ⟨a,by simp,by simp⟩ ?_ (hh:=by simp[isNilRow]);clear a;rintro⟨k,i,v,out⟩ ⟨hk,hi,hlen⟩;simp only at hk hi hlen;obtain _|k:=k
 ·rw[Oz]at hk;cases hk
 rw[Oz]at hk;simp;refine aS (X:=Unit) [0,3] [200] (λ_=>True) (λ_=>[(4,enc ((yl s i:Nat):Int))]) (λ_=>[]) ?_ ?_
 ·simp;refine au (X:=Nat) [0,3] [200] (λj=>i<=j/\j<=s.size/\yl s j=yl s i) (λj=>[(4,enc (j:Int))]) (λ_=>[]) (λj=>s.size -j) i ⟨qFM _,hi,rfl⟩ ?_;rintro j ⟨j0,j1,j2⟩;simp;refineλ_=>⟨λl=>⟨l,λc hc=>⟨λh32=>⟨l,λc' Q=>?_⟩,λh32=>?_⟩⟩,λl=>?_⟩
  ·rw[hc]at Q;cases Q;have E:=Gk l;rw[qeb hc]at E;refine⟨λh10=>⟨by simp only[InR];omega,j+1,⟨by omega,by omega,?_⟩,by omega,by omega⟩,λh10=>?_⟩
   ·rw[<-j2,E,if_pos (by simp;omega)]
   ·rw[<-j2,E,if_neg (by simp;omega)]
  ·have E:=Gk l;rw[qeb hc]at E;refine⟨by simp only[InR];omega,j+1,⟨by omega,by omega,?_⟩,by omega,by omega⟩;rw[<-j2,E,if_pos (by simp;omega)]
  ·rw[<-j2,Sm l]
 rintro - -;have hsk:=Yh s _ i rfl hi;generalize hi':yl s i=p at hk hsk;simp;refineλ_=>⟨λhe=>⟨by omega,by omega,λv'=>?_⟩,λhne=>?_⟩
 ·rw[if_pos (by omega)]at hk;refine aL fin (fA kg ?_) L;cases hk;rw[show(p:Int)=(s.size:Int)by omega];simp
 rw[if_neg (by omega)]at hk;obtain⟨⟨j,t⟩,A,hk⟩:=qFF.1 hk;simp only at hk;split at hk
 ·rename_i l;refine aS (X:=Value) [0] [] (λ_=>True) (λv'=>[(5,enc (j:Int)),(3, .own 200 v')]) (λv'=>[(200, .row v' kg 3 ((out++ [t]).map enc))]) ?_ ?_
  ·obtain⟨c,hc⟩:=qoT (s:=s) (i:=p) (by omega);unfold qua at A;rw[hc]at A;simp only at A;split at A
   ·rename_i Z;cases A;have b:AP (c.toNat:Int)=true:=by rw[<-Zr];exact Z
    simp[h1,h2,hc,b];refine⟨by omega,?_⟩;refine au (X:=Nat) [0,3,4] [200] (λj=>p<=j/\j<=s.size/\KU s j=KU s p) (λj=>[(5,enc (j:Int))]) (λ_=>[]) (λj=>s.size -j) p ⟨qFM _,by omega,rfl⟩ ?_;rintro j ⟨j0,j1,j2⟩;have go:∀c:UInt8,s.data[j]? =some c->qjZ s j=true->InR .i64 ((j:Int) +1)/\∃y,(p<=y/\y<=s.size/\KU s y=KU s p)/\(j:Int) +1=y/\s.size -y<s.size -j:=λc hc hn=>by
     have l:j<s.size:=(qFS.1 hc).1;refine⟨by simp only[InR];omega,j+1,⟨by omega,by omega,?_⟩,by omega,by omega⟩;rw[<-j2,SZ l,hn,if_pos rfl]
    have stop:KU s j=j->KU s p=j:=λh=>by rw[<-j2,h]
    simp[h1,h2];clear h1 h2 h3 hc Z b;refineλ_=>⟨λl=>⟨l,λc hc=>⟨λb1=>⟨l,λc2 I=>⟨λb2=>⟨l,λc3 J=>⟨λb3=>?_,λb3=>?_⟩⟩,λb2=>?_⟩⟩,λb1=>?_⟩⟩,λl=>?_⟩
    ·rw[hc]at J;cases J;exact go c hc (by rw[ND hc,decide_eq_true b3];simp)
    ·rw[hc]at J I;cases J;cases I;have e:=stop (by rw[SZ l,ND hc,b1,b2,decide_eq_false b3];rfl);exact⟨j0,j1,by omega,by omega,λv=>⟨_,⟨by rw[e],rfl⟩, .inl ⟨rfl,by rw[e]⟩⟩⟩
    ·rw[hc]at I;cases I;exact go c hc (by rw[ND hc,b2];simp)
    ·exact go c hc (by rw[ND hc,b1];simp)
    ·have e:=stop (qjx l);exact⟨j0,j1,by omega,by omega,λv=>⟨_,⟨by rw[e],rfl⟩, .inl ⟨rfl,by rw[e]⟩⟩⟩
   rename_i Z;have b:AP (c.toNat:Int)=false:=by rw[<-Zr];simpa using Z
   split at A
   ·cases A
   ·rename_i hD;have M:qsa (c.toNat:Int)=false:=by unfold qsa;rw[decide_eq_false];omega
    split at A
    ·rename_i hQ;obtain⟨⟨q,w⟩,hq,A⟩:=qFR.1 A;cases A;have K:(c.toNat:Int)=34:=by omega
     rw[K]at b M;simp[h1,h2,hc,b,M,K];refine⟨by omega,by simp only[InR];omega,?_⟩;refine au (X:=Nat×B) [0,3,4] [200] (λz=>qb1 s z.1 z.2=some (q,w)/\z.1<=s.size/\p<z.1/\z.2.size<=z.1) (λz=>[(5,enc (z.1:Int)),(6,enc z.2),(7,enc false)]) (λ_=>[]) (λz=>s.size -z.1) (p+1,⟨#[]⟩) ⟨hq,by omega,by omega,qF3 _⟩ ?_;rintro⟨j,u⟩ ⟨j0,j1,j2,j3⟩;simp only at j0 j1 j2 j3;simp;clear h1 h2 h3;refineλ_=>⟨λN=>⟨N,λd hd=>?_⟩,λN=>?_⟩
     ·rw[qfR hd]at j0;refine⟨λh34=>⟨by simp only[InR];omega,λ_=>⟨λU=>⟨by simp only[InR];omega,by omega,U,λd' W=>⟨λY=>?_,λY=>?_⟩⟩,λU=>?_⟩⟩,λh34=>?_⟩
      ·rw[if_pos (by omega),W]at j0;simp only at j0;rw[if_pos (by omega)]at j0;cases j0
      ·rw[if_pos (by omega),W]at j0;simp only at j0;rw[if_neg (by omega)]at j0;cases j0;exact⟨by simp only[InR];omega,by omega,by omega,λv'=>⟨v',⟨rfl,rfl⟩, .inl ⟨rfl,rfl⟩⟩⟩
      ·have O:s.data[j+1]? =none:=qGN (by show s.size<=j+1;omega);rw[if_pos (by omega),O]at j0;cases j0;exact⟨by simp only[InR];omega,by omega,by omega,λv'=>⟨v',⟨rfl,rfl⟩, .inl ⟨rfl,rfl⟩⟩⟩
      ·rw[if_neg (by omega)]at j0;refine⟨by simp only[InR];omega,by omega,by omega,by omega,by simp only[InR];omega,j+1,_,⟨j0,by omega,by omega,?_⟩,⟨by omega,rfl⟩,by omega⟩;rw[ByteArray.size_append,ByteArray.size_extract];omega
     ·rw[qi5 N]at j0;cases j0
    ·rename_i hQ;have K:¬(c.toNat:Int)=34:=by omega
     split at A
     ·cases A
     ·rename_i x hx;cases A;simp[h1,h2,h3,hc,b,M,K];refine⟨by omega,λ_=>?_⟩;refine ah (X:=Unit) [0,3,4,5,38] [200] signsL.length (λk _=>(signsL.drop k).find? (qrh s p)=some x) (λ_=>[]) (λ_=>[]) () (by simpa using hx) ?_ ?_ (hlen:=by decide)
      ·rintro m -hm F;obtain⟨y,hy⟩:=aQ hm;obtain⟨_,hgy⟩:=qFG.1 hy;rw[bw hy,List.find?_cons]at F;have C:qrh s p y=decide (p+y.size<=s.size/\s.extract p (p+y.size)=y):=rfl;have e1:((p:Int) + (y.size:Int)).toNat=p+y.size:=by omega
       simp[hm,hy,hgy,e1];clear h1 h2 h3;refineλ_=>⟨by simp only[InR];omega,λ_=>⟨λhle _=>⟨by simp only[InR];omega,by omega,by omega,λhex _=>⟨by simp only[InR];omega,λhz=>?_,λ_=>?_⟩,λhex=>?_⟩,λhlt=>?_⟩⟩
       ·rw[C,decide_eq_true ⟨by omega,hex⟩]at F;cases F;omega
       ·rw[C,decide_eq_true ⟨by omega,hex⟩]at F;cases F;exact⟨by omega,by omega,by omega,by omega,λv'=>⟨v',⟨rfl,rfl⟩, .inl ⟨rfl,rfl⟩⟩⟩
       ·rw[C,decide_eq_false (λh=>hex h.2)]at F;exact F
       ·rw[C,decide_eq_false (λh=>by have:=h.1;omega)]at F;exact F
      ·rintro -F;rw[qGw]at F;cases F
  ·rintro v' -;simp;exact⟨k,j,v',out++ [t],⟨hk,l.1,by simp;omega⟩,⟨⟨rfl,rfl⟩, .inl ⟨rfl,by simp⟩⟩,by omega⟩
 ·cases hk
end
end Go.Gv
