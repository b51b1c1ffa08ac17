/- W190 -/
import Derived.Test.YtnffegdacbdhmaaGreatDoorGe14
set_option linter.all false
set_option maxRecDepth 100000
set_option maxHeartbeats 0
open Bool renaming forall_bool → fB', exists_bool → eB'
namespace Go.Gv
section
open Cod (enc dec)
variable {S S0:Nat->Spc}
def qfb{a:Sg}{H:ab}{k j b el n:Nat}{cs cs':List D}(l:j≠k)(hk:H k=some (.box b cs))(hl:cs.length=cs'.length)(hc:∀(m:Nat) (c c':D),cs[m]? =some c->cs'[m]? =some c'->FrzTo bS c c'):
 Wk a H a (ai (ai H k (some (.box b cs'))) j (some (.row (.slice none 0 0) el n []))):=by
 refine qhm (Hf:=bS) id (λt=> .same _) (λi r h=>?_) (λi j r s _ _ e=> .inl e) (λi r h=>by simp[bS]at h);by_cases e:i=j
 ·subst e;simp[ai]at h;subst h;exact .inr ⟨rfl,rfl⟩
 ·by_cases d:i=k
  ·subst d;simp[ai,e]at h;subst h;exact .inl ⟨_,hk, .inr ⟨rfl,hl,hc⟩⟩
  ·simp only[ai,e,d,if_false]at h;exact .inl ⟨r,h, .inl rfl⟩
def M1:Nat->Cond->Prop
 | 0,_=>False
 |n+1,x=>x.kids.length<=1000000/\∀k∈x.kids,M1 n k
abbrev Yz(n:Nat):Spc:=aG (a1 Cond) (M1 n) (enc (X:=Cond)) λx y=>y=x
theorem NS(n:Nat)(h1:S lN=Yz n):ak vd uz S (a1 Cond) (M1 (n+1)) (enc (X:=Cond)) λx y=>y=x:=by
 rintro⟨op,name,arg,val,lab,fold,kids⟩ ⟨hlen,hk⟩;simp only at hlen hk;simp[vd,uz];intro b2 q t;refine Ka (qfb (k:=3) (j:=20) (b:=q) (el:=ff) (n:=7) (cs':=[.v (.int .i64 op), .v (.string name), .v (.string arg), .v (.string val), .v (.string lab), .v (.bool fold), .own 20 (.slice none 0 0)]) (by decide) (by simp;rfl) (by simp) ?_) ?_
 ·intro m c c' hc a
  match m with
  | 0|1|2|3|4|5=>simp at hc a;subst hc;subst a;exact .same _
  | 6=>simp at hc a;subst hc;subst a;exact .nilown _
  |m+7=>simp at hc
 refine ah (X:=Value×List Cond) [2,9] [2] kids.length (λk x=>x.2=kids.take k) (λx=>[(3, .bptr 3 q 0)]) (λx=>[(3, .box q [.v (.int .i64 op), .v (.string name), .v (.string arg), .v (.string val), .v (.string lab), .v (.bool fold), .own 20 x.1]),(20, .row x.1 ff 7 (x.2.map enc))]) (.slice none 0 0, []) (by simp) ?_ ?_
 ·rintro k ⟨v,m⟩ d hm;simp only at hm;obtain⟨x,l⟩:=aQ d;obtain⟨_,r⟩:=qFB.1 l;have s:=hk x (aU l);have u:m.length=k:=by rw[hm,qF7];omega
  simp[h1,d,l,r,s];refine⟨by omega,by omega,λv=> .inl (.inl ?_)⟩;rw[hm,List.map_take,qGK];simp[l]
 ·rintro⟨v,m⟩ hm;simp only at hm;rw[qFT]at hm;subst hm;simp;refine aL (Y:=Cond) ⟨op,name,arg,val,lab,fold,m⟩ ?_ rfl;simp;refine .agg (by simp) λi c c' h p=>?_
  match i with
  | 0|1|2|3|4|5=>simp at h p;subst h;subst p;exact .same _
  | 6=>simp at h p;subst h;subst p;exact fA ff (by simp)
  |i+7=>simp at h
def qFq{H:ab}{l l':List D}(h:FzL H l l'):FrzTo H (.agg l) (.agg l'):= .agg h.get.1 h.get.2
abbrev SE:Spc:=aG (a1 Cond) (λx=>∃n,M1 n x) (enc (X:=Cond)) λx y=>y=x
def nk(p:Pat):Pat:=⟨p.op,p.cond,p.lab,⟨#[]⟩,0,0, []⟩
abbrev UZ:Spc:=aG (a1 Pat) (λp=>∃n,M1 n p.cond) (enc (X:=Pat)) λx y=>y=nk x
def Rc(h1:S lN=SE):ak xJ wC S (a1 Pat) (λp=>∃n,M1 n p.cond) (enc (X:=Pat)) λx y=>y=nk x:=by
 rintro p hp;simp[xJ,wC,h1,hp];intro b;refine aL (Y:=Pat) (nk p) ?_ rfl;unfold nk;simp;refine qFq ?_;simp
def bF(p:Pat):List Pat:=(aq p).map nk
def BH(p:Pat):bF p=if p.op=1 then[nk p]else p.kids.flatMap bF:=by
 unfold bF;rw[bc];split
 ·rfl
 ·rw[List.map_flatMap]
def PLc(p:Pat):Prop:=∀y∈aq p,∃n,M1 n y.cond
def PLc.kid{p k:Pat}(h:PLc p)(a:¬p.op=1)(hk:k∈p.kids):PLc k:=λy b=>h y (by rw[bc,if_neg a];exact qG0.2 ⟨k,hk,b⟩)
def qjM{ks:List Pat}{k:Nat}{x:Pat}(l:List Pat)(a:ks[k]? =some x):(l++ (ks.take k).flatMap bF) ++bF x=l++ (ks.take (k+1)).flatMap bF:=by
 rw[av a,qHN,List.flatMap_singleton,qGJ]
def qhi(x:Pat)(l:List Pat):Prop:=l.length+ (aq x).length<=100000000/\PLc x
def qrE(ks:List Pat):(ks.flatMap bF).length=(ks.flatMap aq).length:=by
 induction ks with
 |nil=>rfl
 |cons k ks a=>simp only[qGf,qF5,a];unfold bF;simp
def qjL{ks:List Pat}{k:Nat}{x:Pat}{l:List Pat}(a:ks[k]? =some x)(h:l.length+ (ks.flatMap aq).length<=100000000)(hc:PLc x):qhi x (l++ (ks.take k).flatMap bF):=by
 have:=qcg a h;unfold qmg at this;refine⟨?_,hc⟩;simp only[qF5]at this ⊢;rw[qrE];exact this
abbrev Tj(n:Nat):Spc:=qmt (X:=Pat) (Y:=Pat) (λx l=>cg x<=n/\qhi x l) (λx l r=>r=l++bF x) aC 13
abbrev i_leavesQA:Spc:=qmt (X:=Pat) (Y:=Pat) (λx l=>qhi x l) (λx l r=>r=l++bF x) aC 13
theorem NQ(n:Nat)(h1:S dK=Tj n)(h2:S tJ=UZ):QH (X:=Pat) (Y:=Pat) jT jH S (λx l=>cg x<=n+1/\qhi x l) (λx l r=>r=l++bF x) aC 13:=by
 rintro v l p ⟨hp,hl,hc⟩;have hk:∀k∈p.kids,cg k<=n:=λk hk=>by have:=fT hk;have:cg p<=n+1:=hp;omega
 have a:=hl;rw[bc]at a;simp[jT,jH,h2];refine⟨λh1=>?_,λb _=>?_⟩
 ·have j:∃n,M1 n p.cond:=hc p (by rw[bc,if_pos h1];simp);simp[h1]at a;exact⟨j,by omega,by omega,λv=>dI (l++bF p) (by simp[BH,h1]) rfl⟩
 rw[if_neg b]at a;refine ah (X:=Value×List Pat) [16] [] p.kids.length (λk x=>x.2=l++ (p.kids.take k).flatMap bF) (λx=>[(1, .own 1 x.1)]) (λx=>[(1, .row x.1 aC 13 (x.2.map enc))]) (v,l) (by simp) ?_ ?_ (hh:=by simp[isNilRow])
 ·rintro k ⟨v,m⟩ c hm;simp only at hm;obtain⟨x,d⟩:=aQ c;have h:=aU d;obtain⟨_,q⟩:=qFB.1 d;have s:=qjL d a (hc.kid b h);rw[<-hm]at s;have t:=hk x h;simp[h1,c,d,q,s,t];intro v';refine .inl ?_;rw[hm,qjM _ d]
 ·rintro⟨v,m⟩ hm;simp only at hm;rw[qFT]at hm;simp;refine dI m (by simp) ?_;rw[hm,BH,if_neg b]
abbrev qgM:Spc:=qrQ (Y:=Pat) (aE Pat (aD a0)) (λx=>x.2.1=SX/\qhi x.1 []) (λx r=>r=bF x.1) aC 13
theorem Mn(h1:S dK=i_leavesQA)(h2:S tJ=UZ):TM (Y:=Pat) jT jH S (aE Pat (aD a0)) (λx=>x.2.1=SX/\qhi x.1 []) (λx r=>r=bF x.1) aC 13:=by
 rintro⟨p,d,⟨⟩⟩ ⟨j,hl,hc⟩;have j:d=SX:=j;subst j;have a:([]:List Pat).length+ (aq p).length<=100000000:=hl;rw[bc]at a;simp[jT,jH,h2];refine⟨λh1=>⟨hc p (by rw[bc,if_pos h1];simp),λv=>dI (bF p) (by simp[BH,h1]) rfl⟩,λb _=>?_⟩;rw[if_neg b]at a;refine ah (X:=Value×List Pat) [16] [] p.kids.length (λk x=>x.2=[] ++ (p.kids.take k).flatMap bF) (λx=>[(1, .own 1 x.1)]) (λx=>[(1, .row x.1 aC 13 (x.2.map enc))]) (.slice none 0 0, []) (by simp) ?_ ?_ (hh:=by simp[isNilRow])
 ·rintro k ⟨v,m⟩ c hm;simp only at hm;obtain⟨x,h⟩:=aQ c;have l:=aU h;obtain⟨_,q⟩:=qFB.1 h;have s:=qjL h a (hc.kid b l);rw[<-hm]at s;simp[h1,c,h,q,s];intro v';refine .inl ?_;rw[hm,qjM _ h];rfl
 ·rintro⟨v,m⟩ hm;simp only at hm;rw[qFT]at hm;simp;refine dI m (by simp) ?_;rw[hm,BH,if_neg b];rfl
abbrev s_leavesQ:Spc:=qrm qgM i_leavesQA
abbrev wo:Spc:=aG (a1 Pat) (λx=>qhi x []) (enc (X:=List Pat)) λx y=>y=if fy aB x then bF x else[]
def tr(out:List B)(x:B):List B:=if x=E0 then out else FG out x
mutual
def aZ:Pat->List B->List B
 | .mk op c l r mn mx ks,out=>PO ks (tr out l)
def PO:List Pat->List B->List B
 | [],out=>out
 |k::ks,out=>PO ks (aZ k out)
end
def L5:∀(l:List Pat) (out:List B),PO l out=l.foldl (λo k=>aZ k o) out
 | [],out=>by rw[PO];rfl
 |k::l,out=>by rw[PO,L5 l];rfl
def tZ(p:Pat)(out:List B):aZ p out=p.kids.foldl (λo k=>aZ k o) (tr out p.lab):=by
 cases p;rw[aZ,L5]
def QG(out:List B)(x:B):(tr out x).length<=out.length+1:=by
 unfold tr FG;split
 ·omega
 ·split
  ·omega
  ·simp
def qgt(p:Pat):∀out,(aZ p out).length<=out.length+dm p:=by
 induction p using fg with|_ p b=>?_
 intro out;rw[tZ,cI];have:∀(ks:List Pat) (o:List B),(∀k∈ks,k∈p.kids)->(ks.foldl (λo k=>aZ k o) o).length<=o.length+bu ks:=by
  intro ks
  induction ks with
  |nil=>intro o _;simp[bu]
  | cons k ks a=>
    intro o hk;rw[qGC,bu];have h1:=a (aZ k o) λz hz=>hk z (by simp[hz])
    have:=b k (hk k (by simp)) o;omega
 have h1:=this p.kids (tr out p.lab) λ_ h=>h
 have h2:=QG out p.lab;omega
def Tg(ks:List Pat)(k:Nat)(lb:List B):((ks.take k).foldl (λo k=>aZ k o) lb).length<=lb.length+bu (ks.take k):=by
 generalize ks.take k=l
 induction l generalizing lb with
 |nil=>simp[bu]
 | cons a l b=>
   rw[qGC,bu];have h1:=b (aZ a lb);have h2:=qgt a lb;omega
def qj8(l:List B)(x:B):Bool:=l.any λz=>decide (z=x)
def PU{l:List B}{x:B} :qj8 l x=true↔x∈l:=by
 unfold qj8;rw[qGP];exact⟨λ⟨z,h1,h2⟩=>by rw[decide_eq_true_eq]at h2;rwa [<-h2],λh=>⟨x,h,decide_eq_true rfl⟩⟩
abbrev s_hasE:Spc:=aG (aE (List B) (a1 B)) (λ_=>True) (enc (X:=Bool)) λx y=>y=qj8 x.1 x.2
abbrev qwb:Spc:=qzz (Y:=B) (a1 B) (λ_=>True) (enc (X:=Bool)) (λx y=>y=qj8 x.1 x.2) aw 1
def F2(h1:S cY=OJ):ak cO cL S (aE (List B) (a1 B)) (λ_=>True) (enc (X:=Bool)) λx y=>y=qj8 x.1 x.2:=by
 rintro⟨l,x⟩ -;simp[cO,cL,h1];exact vJ _ l
abbrev s_has2:Spc:=qrm s_hasE qwb
def qe0(x:Pat)(l:List B):Prop:=l.length+dm x<=1000000
def qwm(x:Pat)(l r:List B):Prop:=r=aZ x l
abbrev Zy(n:Nat):Spc:=qmt (X:=Pat) (Y:=B) (λx l=>cg x<=n/\qe0 x l) qwm aw 1
abbrev i_labelsA:Spc:=qmt (X:=Pat) (Y:=B) qe0 qwm aw 1
theorem NR(n:Nat)(h0:S bi=s_has2)(h1:S ct=Zy n):QH (X:=Pat) (Y:=B) jU jI S (λx l=>cg x<=n+1/\qe0 x l) qwm aw 1:=by
 rintro v lb p ⟨r,hl⟩;have hk:∀k∈p.kids,cg k<=n:=λk h=>by have:=fT h;have:cg p<=n+1:=r;omega
 have hl:lb.length+dm p<=1000000:=hl;have s:=cI p;simp[jU,jI,h0];refine aS (X:=Value) [2] [] (λ_=>True) (λv=>[(1, .own 1 v)]) (λv=>[(1, .row v aw 1 ((tr lb p.lab).map enc))]) ?_ ?_
 ·simp[h0,-fB'];refine⟨λhn=>?_,λhe=>?_⟩
  ·have hn:¬p.lab=E0:=hn;refine .inr ⟨λq=>⟨by omega,by omega,λv=> .inl ?_⟩,λt=> .inl ?_⟩
   ·rw[tr,if_neg hn,FG,if_neg (λh=>by rw[PU.2 h]at q;cases q)];simp
   ·rw[tr,if_neg hn,FG,if_pos (PU.1 t)]
  ·have he:p.lab=E0:=he;refine .inl ?_;rw[tr,if_pos he]
 ·rintro v -;have u:=QG lb p.lab;simp;intro w;refine ah (X:=Value×List B) [23] [] p.kids.length (λk x=>x.2=(p.kids.take k).foldl (λo k=>aZ k o) (tr lb p.lab)) (λx=>[(1, .own 1 x.1)]) (λx=>[(1, .row x.1 aw 1 (x.2.map enc))]) (v,tr lb p.lab) (by simp) ?_ ?_
  ·rintro k ⟨v,ls⟩ b a;simp only at a;obtain⟨x,c⟩:=aQ b;obtain⟨_,d⟩:=qFB.1 c;have y:qe0 x ls:=by
    have h2:=Tg p.kids k (tr lb p.lab);rw[<-a]at h2;have h4:bu (p.kids.take k) +bu (p.kids.drop k)=bu p.kids:=by rw[<-E1,qGa]
    rw[bw c,bu]at h4;show ls.length+dm x<=_;omega
   have j:=hk x (aU c);simp[b,c,d,h1,y,j];intro v' l' A;obtain rfl:l'=aZ x ls:=A;refine .inl ?_;rw[av c,qHB,<-a];rfl
  ·rintro⟨v,ls⟩ a;simp only at a;rw[qFT]at a;simp;refine dI ls (by simp) ?_;show ls=aZ p lb;rw[tZ,a]
abbrev qkC:Spc:=qrQ (Y:=B) (aE Pat (aD a0)) (λx=>x.2.1= .v (.slice none 0 0)/\qe0 x.1 []) (λx r=>qwm x.1 [] r) aw 1
theorem Mo(h0:S bi=s_has2)(h1:S ct=i_labelsA):TM (Y:=B) jU jI S (aE Pat (aD a0)) (λx=>x.2.1= .v (.slice none 0 0)/\qe0 x.1 []) (λx r=>qwm x.1 [] r) aw 1:=by
 rintro⟨p,d,⟨⟩⟩ ⟨h,hl⟩;have h:d= .v (.slice none 0 0):=h;subst h;have hl:0+dm p<=1000000:=hl;have s:=cI p;simp[jU,jI,h0];refine aS (X:=Value) [2] [] (λ_=>True) (λv=>[(1, .own 21 v)]) (λv=>[(21, .row v aw 1 ((tr [] p.lab).map enc))]) ?_ ?_
 ·simp[h0,-fB'];refine⟨λhn=>?_,λhe=>?_⟩
  ·have hn:¬p.lab=E0:=hn;refine .inl ⟨λA v=> .inl ?_,λt=>absurd (PU.1 t) (by simp)⟩;rw[tr,if_neg hn,FG,if_neg (by simp)];simp
  ·have he:p.lab=E0:=he;rw[tr,if_pos he];simp[isNilRow]
 ·rintro v -;have j:=QG [] p.lab;simp;intro u;refine ah (X:=Value×List B) [23] [] p.kids.length (λk x=>x.2=(p.kids.take k).foldl (λo k=>aZ k o) (tr [] p.lab)) (λx=>[(1, .own 21 x.1)]) (λx=>[(21, .row x.1 aw 1 (x.2.map enc))]) (v,tr [] p.lab) (by simp) ?_ ?_
  ·rintro k ⟨v,ls⟩ b a;simp only at a;obtain⟨x,c⟩:=aQ b;obtain⟨_,l⟩:=qFB.1 c;have w:qe0 x ls:=by
    have h2:=Tg p.kids k (tr [] p.lab);rw[<-a]at h2;have q:(tr [] p.lab).length<=0+1:=j;have h4:bu (p.kids.take k) +bu (p.kids.drop k)=bu p.kids:=by rw[<-E1,qGa]
    rw[bw c,bu]at h4;show ls.length+dm x<=_;omega
   simp[b,c,l,h1,w];intro v' l' y;obtain rfl:l'=aZ x ls:=y;refine .inl ?_;rw[av c,qHB,<-a];rfl
  ·rintro⟨v,ls⟩ a;simp only at a;rw[qFT]at a;simp;refine dI ls (by simp) ?_;show ls=aZ p [];rw[tZ,a]
abbrev s_qlabels:Spc:=qrm qkC i_labelsA
abbrev Dt:Spc:=aG (a1 Pat) (λx=>qe0 x []) (enc (X:=List B)) λx y=>y=if fy aB x then aZ x []else[]
def NU(h1:S gZ=cB)(h2:S ct=s_qlabels):ak vg uB S (a1 Pat) (λx=>qe0 x []) (enc (X:=List B)) λx y=>y=if fy aB x then aZ x []else[]:=by
 rintro p hp;simp[vg,uB,h1,h2,-fB'];clear h1 h2;exact⟨λh=>aL [] (by simp) (by rw[h];rfl),λh=> .inl ⟨hp,λv l hl=>aL l (fA aw (by simp)) (by rw[h];exact hl)⟩⟩
end
section
open Go.Proofs
def Vf{T R:St3->St3->Prop}(h0:∀s,T s s)(h1:∀s t u,T s t->T t u->T s u)(c:∀s t,R s t->T s t):∀{n:Nat} {s t:St3},Pow R n s t->T s t
 | 0,s,t,h=>by cases h;exact h0 s
 |n+1,s,t,⟨u,a,b⟩=>h1 _ _ _ (c _ _ a) (Vf h0 h1 c b)
section
variable {T:St3->St3->Prop}(h0:∀s,T s s)(h1:∀s t u,T s t->T t u->T s u)(r:Rn)
include h0 h1
mutual
def NH:∀p:Pat,tt (λq=>q.op=1->∀s,T s (KQ r q s)) p->∀s t,pM r p s t->T s t
 | .mk op cond lab reg mn mx ks,h,s,t,a=>by
   have hs:=py h;have hk:∀k∈ks,tt (λq=>q.op=1->∀s,T s (KQ r q s)) k:=λk hk=>wM h hk
   rw[pM]at a;split at a
   ·rename_i e;rw[a.2.2];exact hs e s
   ·split at a
    ·rw[a.2];exact h0 s
    ·split at a
     ·exact Z5 ks hk s t a
     ·split at a
      ·exact Z6 ks hk s t a
      ·exact qkT ks mn mx hk s t a
def Z5:∀ks:List Pat,(∀k∈ks,tt (λq=>q.op=1->∀s,T s (KQ r q s)) k)->∀s t,zZ r ks s t->T s t
 | [],_,s,t,h=>by rw[xp]at h;rw[<-h];exact h0 s
 | k::ks,hk,s,t,h=>by
   rw[pF]at h;obtain⟨u,a,b⟩:=h;exact h1 _ _ _ (NH k (hk k (by simp)) s u a) (Z5 ks (λq c=>hk q (by simp[c])) u t b)
def Z6:∀ks:List Pat,(∀k∈ks,tt (λq=>q.op=1->∀s,T s (KQ r q s)) k)->∀s t,Ct r ks s t->T s t
 | [],_,s,t,h=>by rw[Js]at h;exact h.elim
 | k::ks,hk,s,t,h=>by
   rw[wg]at h;rcases h with h|h
   ·exact NH k (hk k (by simp)) s t h
   ·exact Z6 ks (λq a=>hk q (by simp[a])) s t h
def qkT:∀(ks:List Pat) (mn mx:Int),(∀k∈ks,tt (λq=>q.op=1->∀s,T s (KQ r q s)) k)->∀s t,QR r ks mn mx s t->T s t
 | [],_,_,_,s,t,h=>by rw[QR]at h;exact h.elim
 | k::ks,mn,mx,hk,s,t,h=>by
   rw[QR]at h;obtain⟨u,a,n,_,b⟩:=h;have c:=NH k (hk k (by simp));exact h1 _ _ _ (Vf h0 h1 c a) (Vf h0 h1 (λs t q=>c s t q.1) b)
end
end
def Fx(n:Nat)(s t:St3):Prop:=∀i,n<=i->i< 3->t.get i=s.get i
def qcu(s:St3)(i j:Nat)(x:Int)(hi:i< 3)(a:j< 3)(h:i≠j):(s.set i x).get j=s.get j:=by
 rcases i with _|_|_|i<;>rcases j with _|_|_|j<;>first|rfl|omega
def qkn{r:Rn}{p:Pat}(hl:r.lb.length<=3)(h:tt (λq=>q.lab≠mq->vw r.lb q.lab=true) p){s t:St3}(j:pM r p s t):Fx r.lb.length s t:=by
 refine NH (T:=Fx r.lb.length) (λs i _ _=>rfl) (λs t u a b i hi h3=>(b i hi h3).trans (a i hi h3)) r p (vW h λq k _ s i hi h3=>?_) s t j;unfold KQ;dsimp only;split
 ·rcases i with _|_|i<;>rfl
 ·rename_i c;have d:=k c;have h4:=D6 (λz=>decide (z=q.lab)) r.lb;have h5:decide (0<=fe r.lb λz=>decide (z=q.lab))=true:=(vJ _ _).trans d;have h6:=of_decide_eq_true h5;have:((s.set (fe r.lb λz=>decide (z=q.lab)).toNat (s.p+1)).get i)=s.get i:=qcu _ _ _ _ (by omega) h3 (by omega);rcases i with _|_|i<;>exact this
def qeM(r:Rn)(s:St3){i:Nat}(hi:i<r.lb.length):(WC r s)[i]? =some (s.get i -1):=by
 unfold WC;rw[qFP,qHe hi];rfl
def qhW{s t:St3}(h:s.p=t.p)(j:∀i,i< 3->s.get i=t.get i):s=t:=by
 obtain⟨a,b,c,d⟩:=s;obtain⟨w,b',c',x⟩:=t;have k:=j 0 (by decide);have l:=j 1 (by decide);have q:=j 2 (by decide);simp only[St3.get]at k l q h;rw[h,k,l,q]
def qo3{r:Rn}{p:Pat}(hl:r.lb.length<=3)(h:tt (λq=>q.lab≠mq->vw r.lb q.lab=true) p){s t u:St3}(h1:pM r p s t)(h2:pM r p s u)(c:t.p=u.p)(d:WC r t=WC r u):t=u:=by
 refine qhW c λi hi=>?_
 by_cases hn:i<r.lb.length
 ·have a:=qeM r t hn;have b:=qeM r u hn;rw[d,b]at a;have:=qFO a;omega
 ·rw[qkn hl h h1 i (by omega) hi,qkn hl h h2 i (by omega) hi]
def qnK{m:Nat}{s:St3}(h:qaX m s):qf6 (m+1) s<(m+1) * (m+1) * (m+1) * (m+1):=by
 obtain⟨h1,h2,h3⟩:=h;have a:=h3 0;have b:=h3 1;have c:=h3 2;simp only[St3.get]at a b c;unfold qf6;have d:s.p.toNat<=m:=by omega
 have l:s.b0.toNat<=m:=by omega
 have q:s.b1.toNat<=m:=by omega
 have A:s.b2.toNat<=m:=by omega
 generalize s.p.toNat=x at*;generalize s.b0.toNat=y at*;generalize s.b1.toNat=z at*;generalize s.b2.toNat=w at*;have j:x* (m+1) +y<(m+1) * (m+1):=by
  have:=qF2 (m+1) d;rw[qGG m (m+1)];omega
 have k:(x* (m+1) +y) * (m+1) +z<(m+1) * (m+1) * (m+1):=by
  have:=qF2 (m+1) (qIf j);rw[qGG]at this;omega
 have:=qF2 (m+1) (qIf k);rw[qGG]at this;omega
def qcE{m a b c d:Nat}(hb:b<m)(j:d<m)(h:a*m+b=c*m+d):a=c/\b=d:=by
 have h1:(a*m+b) /m=a:=by rw[qHw,Nat.mul_add_div (by omega),Nat.div_eq_of_lt hb];omega
 have h2:(c*m+d) /m=c:=by rw[qHw,Nat.mul_add_div (by omega),Nat.div_eq_of_lt j];omega
 rw[h]at h1;have e:a=c:=h1.symm.trans h2;subst e;exact⟨rfl,by omega⟩
def qjt{m:Nat}{s t:St3}(hs:qaX m s)(b:qaX m t)(h:qf6 (m+1) s=qf6 (m+1) t):s=t:=by
 obtain⟨h1,h2,h3⟩:=hs;obtain⟨c,d,a⟩:=b;have a0:=h3 0;have a1:=h3 1;have a2:=h3 2;have b0:=a 0;have b1:=a 1;have b2:=a 2;simp only[St3.get]at a0 a1 a2 b0 b1 b2;unfold qf6 at h;obtain⟨h,j⟩:=qcE (by omega) (by omega) h;obtain⟨h,k⟩:=qcE (by omega) (by omega) h;obtain⟨l,p⟩:=qcE (by omega) (by omega) h;refine qhW (by omega) λi hi=>?_
 rcases i with _|_|_|i
 ·show s.b0=t.b0;omega
 ·show s.b1=t.b1;omega
 ·show s.b2=t.b2;omega
 ·omega
def qbG{m:Int}(hm:m<=170){l:List St3}(hn:l.Nodup)(h:∀s∈l,qaX m s):l.length<=1000000000:=by
 by_cases h0:0<=m
 ·obtain⟨k,rfl⟩:∃k:Nat,m=(k:Int):=⟨m.toNat,by omega⟩
  have h1:=SV (f:=qf6 (k+1)) hn (λx c=>qnK (h x c)) λx c y d e=>qjt (h x c) (h y d) e
  have h2:(k+1) * (k+1)<=171*171:=qHO (by omega) (by omega);have h3:=qHO h2 (show k+1<=171 by omega);have h4:=qHO h3 (show k+1<=171 by omega);omega
 ·cases l with
  |nil=>exact qFY _
  |cons s l=>have:=(h s (by simp));have a:=this.1;have b:=this.2.1;omega
open Cod (enc dec)
variable {S S0:Nat->Spc}
def Yi(p:Pat):∀d:Int,cm p d=true->(cg p:Int) +d<=101:=by
 induction p using fg with|_ p b=>?_
 intro d h;rw[ld]at h;simp only[qFJ,decide_eq_true_eq,qFI]at h;rw[Nu];have:∀ks:List Pat,(∀k∈ks,k∈p.kids)->(LW ks:Int) +d<=100:=by
  intro ks
  induction ks with
  |nil=>intro _;rw[LW];have:=h.1;simp;omega
  | cons k ks a=>
    intro hk;have h1:=a λz hz=>hk z (by simp[hz])
    have h2:=b k (hk k (by simp)) (d+1) (h.2 k (hk k (by simp)));rw[LW];omega
 have:=this p.kids λ_ h=>h
 omega
structure qmm (c:Corpus) (p:Pat):Prop where
 sz:qqK c
 few:c.toks.length<=170
 pat:fy aB p=true
 l3:(aZ p []).length<=3
 num:dm p<=1000000
 nd:∀t∈c.texts,tt (qp5 (Kt c (aZ p []) t)) p
def qmb(x:Corpus×Qry×Int):Prop:=qmm x.1 x.2.1.pat/\0<=x.2.2/\x.2.2<x.1.toks.length
def qpY(x:Corpus×Qry×Int)(y:List cb):Prop:=qmk x.1 (aZ x.2.1.pat []) x.2.1.pat x.2.2 y/\y.length<=1000000000
abbrev qdv:Spc:=aG (a3 Corpus Qry Int) qmb (enc (X:=List cb)) qpY
abbrev b_masg:Spc:=qpU (a1 St3) TO (enc (X:=List Int)) qaM
theorem qmI(h1:S jR=SF)(h2:S xb=Dt)(h3:S dM=Ss 101)(h4:S dN=b_masg)(h5:S pD=qbN nZ An):ak tM tC S (a3 Corpus Qry Int) qmb (enc (X:=List cb)) qpY:=by
 rintro⟨c,q,i⟩ ⟨w,C,M⟩;have w:qmm c q.pat:=w;have C:0<=i:=C;have M:i<c.toks.length:=M;have hPb:qe0 q.pat []:=by show 0+dm q.pat<=1000000;have:=w.num;omega
 have hfew:=w.few;have htl:(c.toks.length:Int)<=9223372036854775807:=by omega
 rcases qhI (c:=c) (i:=i)with⟨N,A⟩|⟨k,t,N,A,k3⟩
 ·simp[tM,tC,h1,N,-fB',-eB'];refine aL [] (.nil _) ⟨⟨List.Pairwise.nil,λm=>⟨λh=>(by cases h),?_⟩⟩,qFY _⟩;rintro⟨e,_,_,t,ht,_⟩;have e:m.b=i:=e;rw[e,A]at ht;cases ht
 ·have hkl:k<c.texts.length:=(qFB.1 A).1;obtain⟨_,O⟩:=qFB.1 A;have hkn:¬(k:Int)< 0:=by omega
  simp[tM,tC,h1,N,hkn,hkl,A,O,h2,hPb,w.pat,htl,-fB',-eB'];intro b8;refine gc (X:=Nat×Value) [2,4] [] [] [(990,34)] (λ_=>True) (λx=>[(9, .bptr 36 x.1 0)]) (λx=>[(36, .box x.1 (nX (Kt c (aZ q.pat []) t) (.own 990 x.2))),(990, .mrow x.2 [])]) [36,990] (λ_=>rfl) (by decide) ?_ ?_
  ·simp[h2,hPb,w.pat,htl,-fB',-eB'];refineλx b=>⟨b, .same _,x, .inl (.inr ⟨rfl,rfl,λm y z h6 h7=>?_⟩), .inl (.inl rfl)⟩
   rcases m with _|_|_|_|_|_|_|_|_|_|_|m
   all_goals first|(cases h6;cases h7;exact .same _)|(cases h6;cases h7;exact .own _ _ _)|(simp at h6)
  rintro⟨b,v⟩ -;have htm:t∈c.texts:=qFF A;have htb:t.b<=i/\i<t.e:=by
   have:=List.find?_some k3;simpa using this
  generalize Q:Kt c (aZ q.pat []) t=r;have E:i<=r.en/\r.en<=170:=by
   rw[<-Q];show i<=min t.e (c.toks.length:Int)/\min t.e (c.toks.length:Int)<=170;omega
  have hlb:r.lb=aZ q.pat []:=by rw[<-Q];rfl
  have hnd:tt (qp5 r) q.pat:=by rw[<-Q];exact w.nd t htm
  have U:r.lb.length<=3:=by rw[hlb];exact w.l3
  have W:qaX r.en (qfA i):=⟨C,E.1,λj=>by rcases j with _|_|j<;>exact⟨qGD _,by show(0:Int)<=r.en;omega⟩⟩
  have hRok:qo7 r:=⟨U,by rw[<-Q];exact w.sz,by omega⟩
  have hdep:cg q.pat<=101:=by
   have hp:=w.pat;unfold fy at hp;simp only[qFJ]at hp;have:=Yi q.pat 1 hp.1.1.1;omega
  have hQ:∀m,m.b=i/\qha c (aZ q.pat []) q.pat m↔ ∃s,pM r q.pat (qfA i) s/\i<s.p/\m=⟨i,s.p,WC r s⟩:=λm=>by
   constructor
   ·rintro⟨rfl,_,_,t',ht',s,hs,h1,h2,h3⟩;rw[k3]at ht';cases ht';rw[Q]at hs h3;refine⟨s,hs,h1,?_⟩;obtain⟨mb,me,ml⟩:=m;simp only at h2 h3 ⊢;rw[h2,h3]
   ·rintro⟨s,hs,h1,rfl⟩;exact⟨rfl,C,M,t,k3,s,by rw[Q];exact hs,h1,rfl,by rw[Q]⟩
  simp[h3,Gp,IA,-fB',-eB'];refine⟨⟨hRok,λe he=>(by cases he),W,q.pat,⟨_,_,rfl,qFE rfl,by simp⟩,hdep,hnd⟩,λv2 es2 F Y b2=>?_⟩;have d:=Y.2.2 q.pat ⟨_,_,rfl,qFE rfl,by simp⟩;have J:=Y.2.1;clear Y;replace d:∀t,t∈F↔pM r q.pat (qfA i) t:=d;refine nD (X:=Value×List cb×List D×List St3) [2,9,42] [36,990] (λx=>x.2.1.Nodup/\(∀s∈x.2.2.2,s∈F)/\x.2.2.2.Nodup/\(∀m∈x.2.1,∃s∈F,s∉x.2.2.2/\i<s.p/\m=⟨i,s.p,WC r s⟩)/\(∀s∈F,s∈x.2.2.2\/(i<s.p->(⟨i,s.p,WC r s⟩:cb) ∈x.2.1))/\x.2.1.length+x.2.2.2.length<=F.length)
   (λx=>[(10, .own 60 x.1)]) (λx=>[(42, .miter b2 x.2.2.1 (aW x.2.2.2)),(60, .row x.1 An 3 (x.2.1.map enc))]) (λx=>x.2.2.2.length) (.slice none 0 0, [], [],F)
   ⟨qG2,λ_ h=>h,J,λ_ h=>(by cases h),λ_ h=> .inl h,by simp⟩ (by simp) (by simp[isNilRow]) ?_
  rintro⟨v3,out,cur,left⟩ ⟨g1,g2,g3,g4,g5,g6⟩;simp only at g1 g2 g3 g4 g5 g6;have hyl:=qbG E.2 J λs hs=>BI r q.pat _ _ ((d s).1 hs) W
  simp[-fB',-eB'];refine⟨λh0=>?_,λl1 x l2 hsp=>?_⟩
  ·have hlz:=gz h0;subst hlz;simp[h5,-fB',-eB'];refine⟨⟨rfl,by simp at g6;omega,g1⟩,λl' Z=>aL l' (fA An (by simp[ai])) ⟨⟨Z.1,λm=>?_⟩,by rw[Z.2.1];show out.length<=_;simp at g6;omega⟩⟩;rw[Z.2.2 m,hQ];constructor
   ·intro hm;obtain⟨s,h1,_,h2,h3⟩:=g4 m hm;exact⟨s,(d s).1 h1,h2,h3⟩
   ·rintro⟨s,h1,h2,rfl⟩;exact(g5 s ((d s).2 h1)).elim (λh=>by cases h) λh=>h h2
  ·obtain⟨a,s,c2,rfl,rfl,rfl,rfl⟩:=iX hsp;simp[h4,YT,-fB',-eB'];have hsy:s∈F:=g2 s (by simp);have K:∀x∈a++c2,x∈F:=λx h=>g2 x (by simp only[qFG,qFK]at h ⊢;rcases h with h|h<;>simp[h])
   have l:(a++c2).Nodup/\s∉a++c2:=by
    obtain⟨n1,n2,n3⟩:=qHj.1 g3;have n4:=qGM.1 n2;refine⟨qHj.2 ⟨n1,n4.2,λx hx y hy=>n3 x hx y (by simp[hy])⟩,λh=>?_⟩;rcases qFG.1 h with h|h
    ·exact n3 s h s (by simp) rfl
    ·exact n4.1 h
   have L:∀m∈out,∃u∈F,u∉a++c2/\i<u.p/\m=(⟨i,u.p,WC r u⟩:cb):=λm hm=>by
    obtain⟨u,N,A,k3,k4⟩:=g4 m hm;exact⟨u,N,λh=>A (by simp only[qFG,qFK]at h ⊢;rcases h with h|h<;>simp[h]),k3,k4⟩
   simp only[qF5,qGi]at g6;have I:=BI r q.pat _ _ ((d s).1 hsy) W;have hsOk:qwr s:=⟨I.1,by have:=I.2.1;have:=E.2;omega,λj=>⟨(I.2.2 j).1,by have:=(I.2.2 j).2;have:=E.2;omega⟩⟩
   have hPa:TO (.cptr (nX r (.own 990 v2)) 0,s):=⟨⟨r,_,rfl,U⟩,hsOk⟩
   refine⟨λO=>⟨hPa,λz hz=>?_⟩,λhle=>?_⟩
   ·obtain rfl:=hz r _ rfl;refine⟨by omega,by omega,λv4=>⟨v4,out++ [⟨i,s.p,WC r s⟩],_,a++c2,⟨?_,K,l.1,λm hm=>?_,λu hu=>?_,by simp;omega⟩,⟨rfl, .inl ⟨rfl,(jG a c2).symm⟩, .inl ⟨rfl,by simp⟩⟩,by simp⟩⟩
    ·rw[qHj];refine⟨g1,by simp,λm hm m' hm' e=>?_⟩;simp at hm';subst hm';obtain⟨u,N,A,_,k4⟩:=g4 m hm;rw[e]at k4;injection k4 with _ e1 e2;have:s=u:=qo3 U (vW hnd λq h=>h.lab) ((d s).1 hsy) ((d u).1 N) e1 e2;subst this;exact A (by simp)
    ·rcases qFG.1 hm with hm|hm
     ·exact L m hm
     ·simp at hm;exact⟨s,hsy,l.2,O,hm⟩
    ·rcases g5 u hu with h|h
     ·rcases qFG.1 h with h|h
      ·exact .inl (by simp[h])
      ·rcases qFK.1 h with rfl|h
       ·exact .inr λ_=>by simp
       ·exact .inl (by simp[h])
     ·exact .inr λhp=>List.mem_append_left _ (h hp)
   ·refine⟨v3,out,_,a++c2,⟨g1,K,l.1,L,λu hu=>?_,by simp;omega⟩,⟨rfl, .inl ⟨rfl,(jG a c2).symm⟩, .inl ⟨rfl,rfl⟩⟩,by simp⟩;rcases g5 u hu with h|h
    ·rcases qFG.1 h with h|h
     ·exact .inl (by simp[h])
     ·rcases qFK.1 h with rfl|h
      ·exact .inr λhp=>absurd hp (by omega)
      ·exact .inl (by simp[h])
    ·exact .inr h
structure qzX (a:List Attr) (q:Qry):Prop where
 glob:q.glob=GlobE
 filts:q.filts=[]
 strat:q.strat=0
 pat:fy aB q.pat=true
 size:fM q.pat<=256
 l3:(aZ q.pat []).length<=3
 num:dm q.pat<=1000000
 att:a.length<=1000
 lv:∀x∈aq q.pat,qms a (aZ q.pat []) x.cond=true/\∃n,M1 n x.cond
abbrev EV(V:List Attr->Qry->Prop):Spc:=aG (a2 Qry (List Attr)) (λx=>V x.2 x.1) (enc (X:=Int)) λ_ y=>y=0
abbrev qqY:Spc:=EV qzX
structure qaS (V:List Attr->Qry->Prop) (c:Corpus) (q:Qry):Prop where
 v:V c.attrs q
 f:qmm c q.pat
def qwl(x:Corpus×Qry)(y:List cb×Int):Prop:=(y.2=0/\qwx x.1 (aZ x.2.pat []) x.2.pat y.1/\y.1.length<=4096)\/(y.2=2/\y.1=[]/\∃k l,qhb x.1 (aZ x.2.pat []) x.2.pat k l/\4096<l.length)
abbrev qiu(V:List Attr->Qry->Prop):Spc:=aG (a2 Corpus Qry) (λx=>qaS V x.1 x.2) (kZ (Y:=List cb) (Z:=Int)) qwl
theorem qtY{V:List Attr->Qry->Prop}(h1:S eB=EV V)(h2:S BW=qdv):ak tg sx S (a2 Corpus Qry) (λx=>qaS V x.1 x.2) (kZ (Y:=List cb) (Z:=Int)) qwl:=by
 rintro⟨c,q⟩ a;have a:qaS V c q:=a;have u:V c.attrs q:=a.v;have t:=a.f.few;have p:(c.toks.length:Int)<=9223372036854775807:=by omega
 simp[tg,sx,h1,u,p,-fB',-eB'];refine ah (X:=Value×List cb) [2,3] [] c.toks.length (λk x=>qhb c (aZ q.pat []) q.pat k x.2/\x.2.length<=4096) (λx=>[(7, .own 27 x.1)]) (λx=>[(27, .row x.1 An 3 (x.2.map enc))]) (.slice none 0 0, []) ⟨qgv _ _ _,by simp⟩ ?_ ?_ (hh:=by simp[isNilRow])
 ·rintro k ⟨v,l⟩ hk ⟨b,j⟩;simp only at b j;have r:qmb (c,q,(k:Int)):=⟨a.f,by show(0:Int)<=k;omega,by show(k:Int)<c.toks.length;omega⟩
  simp[h2,r,-fB',-eB'];rintro y ⟨s,w⟩;have d:=qgw b s;exact⟨by omega,by omega,λv' A=>⟨λh=> .inr ⟨rfl,rfl,_,_,d,by simp;omega⟩,λh=>⟨v',l++y,⟨d,by simp;omega⟩,rfl, .inl ⟨rfl,by simp⟩⟩⟩⟩
 ·rintro⟨v,l⟩ ⟨b,j⟩;simp only at b j;simp[-fB',-eB'];exact⟨l,fA An (by simp[ai]), .inl ⟨rfl,qjX b,j⟩⟩
abbrev qio:Spc:=aG (a1 Glob) (λg=>g=GlobE) (enc (X:=Bool)) λx y=>y=true
def Um:ak kb jY S (a1 Glob) (λg=>g=GlobE) (enc (X:=Bool)) λx y=>y=true:=by
 rintro x rfl;simp[kb,jY,GlobE,E0,-fB']
abbrev qdL:Spc:=aG (a1 Glob) (λg=>g=GlobE) (enc (X:=Bool)) λx y=>y=true
def Rg(h1:S qU=qio):ak iN iA S (a1 Glob) (λg=>g=GlobE) (enc (X:=Bool)) λx y=>y=true:=by
 rintro x rfl;simp[iN,iA,h1,-fB']
abbrev qiO:Spc:=aG (aE (List vR) (aD a0)) (λx=>x.1=[]) (enc (X:=Int)) λx y=>y= -1
def xZ:ak cy cn S (aE (List vR) (aD a0)) (λx=>x.1=[]) (enc (X:=Int)) λx y=>y= -1:=by
 rintro⟨l,d,⟨⟩⟩ h;have h:l=[]:=h;subst h;simp[cy,cn,-fB'];refine ah (X:=Unit) [] [] 0 (λ_ _=>True) (λ_=>[]) (λ_=>[]) () trivial (λk x hk=>absurd hk (by omega)) (λ_ _=>?_);simp
abbrev qbT:Spc:=aG (aE (List vR) (aD a0)) (λx=>x.1=[]) (enc (X:=Bool)) λx y=>y=false
def un(h1:S cN=qiO):ak bN bL S (aE (List vR) (aD a0)) (λx=>x.1=[]) (enc (X:=Bool)) λx y=>y=false:=by
 rintro⟨l,d,⟨⟩⟩ h;have h:l=[]:=h;subst h;simp[bN,bL,h1,-fB']
abbrev qiH:Spc:=aG (a3 Glob (List Attr) (List B)) (λx=>x.1=GlobE) (enc (X:=Int)) λ_ y=>y=0
abbrev qdG:Spc:=aG (a3 Glob (List Attr) (List B)) (λx=>x.1=GlobE) (enc (X:=Int)) λ_ y=>y=0
structure qDv (q:Qry):Prop where
 filts:q.filts=[]
 strat:q.strat=0
 pat:fy aB q.pat=true
 size:fM q.pat<=256
 l3:(aZ q.pat []).length<=3
 num:dm q.pat<=1000000
abbrev qiG:Spc:=aG (a1 Qry) qDv (enc (X:=Int)) λ_ y=>y=0
theorem qqw{N:Nat->Spc}(h0:N dH=EW)(c:N dh=Aq)(h1:S nP=Nt)(h2:S fN=Du N)(h3:S gK=EU)(h4:S ct=s_qlabels)(h5:S aY=qbT):
 ak ed dW S (a1 Qry) qDv (enc (X:=Int)) λ_ y=>y=0:=by
 rintro q a;have f1:FunIs N (.clo dH []) (nI aB):=wR h0 λ_=>trivial
 have j:FunIs N (.clo dh []) lF:=wR c λ_=>trivial
 have hp:=a.pat;unfold fy at hp;simp only[qFJ]at hp;obtain⟨⟨⟨k,p⟩,r⟩,s⟩:=hp;have d:=a.size;have b:¬256<fM q.pat:=by omega
 have t:=a.l3;have h:qe0 q.pat []:=by show 0+dm q.pat<=1000000;have:=a.num;omega
 simp[ed,dW,h1,k,p,h2,a.filts,a.strat,h3,a.pat,d,b,h5,-fB',-eB'];refine⟨⟨_,f1⟩,λy u=>⟨λ_=>⟨⟨_,j⟩,λz hz=>⟨by rw[hz _ j,s],λ_=>?_⟩⟩,by rw[u _ f1,r]⟩⟩;simp[h4,-fB',-eB'];refine .inl ⟨h,λl hl _=>?_⟩;have hl:l=aZ q.pat []:=hl;subst hl;omega
def qmT:ak az ay S (a3 Glob (List Attr) (List B)) (λx=>x.1=GlobE) (enc (X:=Int)) λ_ y=>y=0:=by
 rintro⟨g,a,lb⟩ h;have h:g=GlobE:=h;subst h;simp[az,ay,GlobE,-fB',-eB']
def qqx(h1:S gM=qdG):ak gP gD S (a3 Glob (List Attr) (List B)) (λx=>x.1=GlobE) (enc (X:=Int)) λ_ y=>y=0:=by
 rintro⟨g,a,lb⟩ h;have h:g=GlobE:=h;subst h;simp[gP,gD,h1,-fB',-eB'];simp[GlobE,-fB',-eB'];refine ah (X:=Unit) [] [] 0 (λ_ _=>True) (λ_=>[]) (λ_=>[]) () trivial (λk x hk=>absurd hk (by omega)) (λ_ _=>?_);simp
theorem qqk(h1:S eX=qiG)(h2:S ct=s_qlabels)(h3:S dK=s_leavesQ)(h4:S dz=U1)(h5:S aY=qbT)(h6:S nO=qdL)(t:S eA=qiH):
 ak gQ gE S (a2 Qry (List Attr)) (λx=>qzX x.2 x.1) (enc (X:=Int)) λ_ y=>y=0:=by
 rintro⟨q,a⟩ b;have b:qzX a q:=b;have u:qDv q:=⟨b.filts,b.strat,b.pat,b.size,b.l3,b.num⟩
 have c:qe0 q.pat []:=by show 0+dm q.pat<=1000000;have:=b.num;omega
 have w:(aq q.pat).length<=dm q.pat:=sJ q.pat;have d:qhi q.pat []:=⟨by have:=b.num;simp;omega,λy h=>(b.lv y h).2⟩
 simp[gQ,gE,h1,u,h2,-fB',-eB'];refine .inl ⟨c,λl hl=>?_⟩;have hl:l=aZ q.pat []:=hl;subst hl;simp[h3,-fB',-eB'];refine .inl ⟨d,?_⟩;intro A;refine ah (X:=Unit) [1,2,6,20] [] (bF q.pat).length (λ_ _=>True) (λ_=>[]) (λ_=>[]) () trivial ?_ ?_
 ·rintro k ⟨⟩ hk -;obtain⟨x,j⟩:∃x,(bF q.pat)[k]? =some x:=⟨_,qFC hk⟩
  obtain⟨_,p⟩:=qFB.1 j;have r:=qFF j;obtain⟨y,h,rfl⟩:=qFL.1 r;have s:WR ((nk y).cond,a,aZ q.pat []):=⟨(b.lv y h).1,b.att⟩
  simp[hk,j,p,h4,s,-fB',-eB'];exact s
 ·rintro⟨⟩ -;simp[h5,h6,t,b.glob,b.filts,-fB',-eB']
end
section
def qt8(s:B)(i:Nat):Option (Nat×Mg):=match s.data[i]? with
 |none=>none
 | some c=>
   if qjS c.toNat then some (KT s i,⟨110,s.extract i (KT s i),i⟩)
   else if 48<=c.toNat/\c.toNat<=57 then none
   else if c.toNat=34 then(qb0 s (i+1) ⟨#[]⟩).map λr=>(r.1+1,⟨115,r.2,i⟩)
   else match signsL.find? (qrg s i)with
    |none=>none
    |some x=>some (i+x.size,⟨111,s.extract i (i+x.size),i⟩)
def Oy:Nat->B->Nat->List Mg->Option (List Mg)
 | 0,_,_,_=>none
 |k+1,s,i,out=>if yl s i=s.size then some (out++ [⟨101,⟨#[]⟩,s.size⟩])else(qt8 s (yl s i)).bind λr=>if r.1<=s.size/\yl s i<r.1 then Oy k s r.1 (out++ [r.2])else none
def LJ(s:B):Option (List Mg):=if s.size<=100000 then Oy 100000 s 0 []else none
def qjw{s:B}{i:Nat}(h:s.size<=i):KT s i=i:=by
 unfold KT;rw[show s.size -i=0 by omega,qnM]
def SY{s:B}{i:Nat}(h:i<s.size):KT s i=if qjY s i then KT s (i+1)else i:=by
 unfold KT;rw[show s.size -i=(s.size - (i+1)) +1 by omega,qnM]
def qdY(s:Pst):Option Mg:=if 0<=s.pos/\s.pos+1<s.l.length/\s.l.length<=1000000 then s.l[(s.pos+1).toNat]? else none
def Wy(s:Pst):Option Bool:=(BD s).bind λx=>if s.e≠0 then none else if x.kind=110 then(qdY s).bind λn=>if n.kind=111/\n.text=⟨#[58]⟩then some true else none
 else some (decide (x.kind=115\/x.kind=111/\(x.text=⟨#[91]⟩\/x.text=⟨#[60]⟩\/x.text=⟨#[60,47]⟩\/x.text=⟨#[40]⟩)))
def UI(s:Pst)(lb:B):Option (Pst×Pat):=if s.e≠0 then none else(BD s).bind λx=>
 if x.kind=115 then(uS s.step ⟨#[37,99]⟩).map λw=>(w.1,⟨1,⟨2,E0,E0,x.text,E0,w.2, []⟩,lb,E0,0,0, []⟩)
 else(Hw s 111 ⟨#[91]⟩).bind λu=>(uS u.1 ⟨#[93]⟩).bind λw=>if w.2 then some (w.1,⟨1,⟨1,E0,E0,E0,E0,false, []⟩,lb,E0,0,0, []⟩)else none
def qjW(s:Pst):Option (Pst×Pat):=if s.e≠0 then none else(BD s).bind λx=>if x.kind=111/\x.text≠ ⟨#[91]⟩then none else
 if x.kind=110 then(Hw s.step 111 ⟨#[58]⟩).bind λu=>UI u.1 x.text else UI s E0
def DG:Nat->Pst->Pat->Option (Pst×Pat)
 | 0,_,_=>none
 | k+1,s,x=>if s.e≠0 then none else(BD s).bind λt=>if t.kind=111/\(t.text=⟨#[63]⟩\/t.text=⟨#[43]⟩\/t.text=⟨#[123]⟩)then none else
    if t.kind=111/\t.text=⟨#[42]⟩then DG k s.step ⟨6,Cond0,E0,E0,0, -1, [x]⟩else some (s,x)
def qno(s:Pst):Option (Pst×Pat):=(qjW s).bind λr=>DG 9 r.1 r.2
def Ds:Nat->Pst->List Pat->Option (Pst×List Pat)
 | 0,_,_=>none
 |k+1,s,a=>(Wy s).bind λb=>if b then(qno s).bind λr=>Ds k r.1 (a++ [r.2])else some (s,a)
def qh5(s:Pst):Option (Pst×Pat):=(qno s).bind λr=>(Ds 9 r.1 [r.2]).map λq=>(q.1,qpD 4 q.2)
def qlN(s:Pst):Option (Pst×Pat):=(qh5 s).bind λr=>(uS r.1 ⟨#[124]⟩).bind λw=>if w.2 then none else some (w.1,r.2)
def O5(s:B):Option Pat:=if s.size<=400 then(LJ s).bind λl=>(qlN ⟨l,0,0,0,0⟩).bind λr=>if r.1.e≠0 then none else(BD r.1).bind λt=>if t.kind=101 then some r.2 else none else none
open Go.Proofs
def uV:CC:=gq Tryz.f148 [] {} _
def uu:List aj:=[.tmp 2]
def ML:FO wV [] uV uu 21:=fo
def xz:CC:=gq Tryz.f149 [] {} _
def wv:List aj:=[.tmp 2]
def Pc:FO zu [] xz wv 9:=fo
def B3:CC:=gq Tryz.f150 [] {} _
def A3:List aj:=[.tmp 0]
def Vl:FO Eb [] B3 A3 2:=fo
def EB:CC:=gq Tryz.f81 [1036200,1074200,1083200,1121200,1147200,1192200,1200200] { cu:=[3,10] } _
def Dy:List aj:=[.tmp 2]
def Y0:FO Hd [1036200,1074200,1083200,1121200,1147200,1192200,1200200] EB Dy 202:=fo
def ru:CC:=gq Tryz.f91 [2002002] { ke:=[0] } _
def qb:List aj:=[.cell 2 true 3]
def II:FO dx [2002002] ru qb 13:=fo
def pa:CC:=gq Tryz.f268 [2002002] { ke:=[0] } _
def om:List aj:=[.cell 2 true 3]
def Gy:FO qQ [2002002] pa om 21:=fo
def mI:CC:=gq Tryz.f89 [] { bx:=[0] } _
def mw:List aj:=[.tmp 6]
def Kx:FO jN [] mI mw 26:=fo
def rv:CC:=gq Tryz.f83 [] { ke:=[0] } _
def qc:List aj:=[.tmp 4]
def IJ:FO ez [] rv qc 15:=fo
def oY:CC:=gq Tryz.f88 [] { ke:=[0] } _
def ol:List aj:=[.tmp 6]
def Gx:FO qP [] oY ol 40:=fo
def pb:CC:=gq Tryz.f272 [] { bx:=[0] } _
def oo:List aj:=[.tmp 2]
def GB:FO qS [] pb oo 5:=fo
def gO:CC:=gq Tryz.f214 [] { bx:=[0] } _
def gC:List aj:=[.tmp 2]
def DO:FO ni [] gO gC 63:=fo
def eH:CC:=gq Tryz.f266 [] { bx:=[0] } _
def ep:List aj:=[.cell 2 true 13]
def Gz:FO qR [] eH ep 97:=fo
def rr:CC:=gq Tryz.f213 [] { bx:=[0] } _
def qa:List aj:=[.cell 2 true 13]
def IH:FO sO [] rr qa 64:=fo
def rq:CC:=gq Tryz.f151 [100006,1013006] { ke:=[0] } _
def pY:List aj:=[.cell 2 true 13]
def IG:FO sM [100006,1013006] rq pY 22:=fo
def rz:CC:=gq Tryz.f82 [100006,1013006] { ke:=[0] } _
def qd:List aj:=[.cell 2 true 13]
def IK:FO sP [100006,1013006] rz qd 22:=fo
def oW:CC:=gq Tryz.f85 [] { ke:=[0] } _
def oj:List aj:=[.tmp 6]
def Gw:FO qO [] oW oj 22:=fo
def xD:CC:=gq Tryz.f86 [] {} _
def ww:List aj:=[.tmp 0]
def Pd:FO zw [] xD ww 2:=fo
def B7:CC:=gq Tryz.f36 [2056006,2002002] { cu:=[8,18,23] } _
def A7:List aj:=[.cell 2 true 26, .tmp 3, .tmp 4]
def Vp:FO pE [2056006,2002002] B7 A7 110:=fo
open Cod (enc dec)
variable {S S0:Nat->Spc}
@[simp] abbrev qe5(s:Pst)(_:Unit):Option (Pst×Mg):=(BD s).map λx=>(s,x)
abbrev OF:Spc:=qb2 a0 (enc (X:=Mg)) qe5
def qtX:rS ru qb S a0 (enc (X:=Mg)) (λs z=>∃r,qe5 s z=some r) (λs z d y=>qe5 s z=some (d,y)):=by
 rintro b s ⟨⟩ ⟨r,c⟩;simp only[qe5,BD,qFM]at c;obtain⟨x,a,rfl⟩:=c;split at a
 ·rename_i h0;obtain⟨h0,hb⟩:=h0;have hl:=qpL a;obtain⟨_,h⟩:=qFB.1 a;simp[ru,qb,a];exactλ_=>⟨h0,by omega,Jn s x (.same _) (by simp) ⟨by rw[BD,if_pos ⟨h0,hb⟩,a],rfl⟩⟩
 ·cases a
def Jq{s:Pst}(h:s.e=0):Pst.mk s.l s.pos s.deep 0 s.fail=s:=by rw[<-h]
def ZS{b:Nat}{post:Pst->Bool->Prop}{v:Bool}{H:ab}(s:Pst)(h0:H 0=some (.box b (nQ s)))(a:post s v):QP enc b post (.v (.bool v)) H:=Jn s v (.same _) h0 a
def qB4{b:Nat}{post:Pst->Int->Prop}{v:Int}{H:ab}(s:Pst)(h0:H 0=some (.box b (nQ s)))(a:post s v):QP enc b post (.v (.int .i64 v)) H:=Jn s v (.same _) h0 a
def qrR{b:Nat}{post:Pst->B->Prop}{v:B}{H:ab}(s:Pst)(h0:H 0=some (.box b (nQ s)))(a:post s v):QP enc b post (.v (.string v)) H:=Jn s v (.same _) h0 a
@[simp] abbrev qpf(s:Pst)(z:U8×B):Option (Pst×Bool):=(qeb s z.1.val z.2).map λx=>(s,x)
abbrev qnl:Spc:=qb2 (a2 U8 B) (enc (X:=Bool)) qpf
def qAd(h1:S dx=OF):rS mI mw S (a2 U8 B) (enc (X:=Bool)) (λs z=>∃r,qpf s z=some r) (λs z h y=>qpf s z=some (h,y)):=by
 rintro b s ⟨⟨k⟩,t⟩ ⟨r,a⟩;simp only[qpf,qeb,qFM]at a;obtain⟨v,a,rfl⟩:=a;split at a
 ·rename_i he;simp[mI,mw,h1,he];exact ZS s (by simp) ⟨by rw[qeb,if_pos he],rfl⟩
 ·rename_i he;have he:s.e=0:=by simpa using he
  obtain⟨x,c,rfl⟩:=qFM.1 a;have d:qeb s k t=some (decide (x.kind=k/\x.text=t)):=by rw[qeb,if_neg (by simp[he]),c];rfl
  simp[mI,mw,h1,he,Jq he,c];refine⟨λhk=>ZS s (by simp[he]) ⟨by rw[d];simp[hk],rfl⟩,λhk=>ZS s (by simp[he]) ⟨by rw[d];simp[hk],rfl⟩⟩
@[simp] abbrev TS(s:Pst)(t:B):Option (Pst×Bool):=uS s t
abbrev SA:Spc:=qb2 (a1 B) (enc (X:=Bool)) TS
def qjZ{s:Pst}{k:Int}{t:B}(h:qeb s k t=some true):s.e=0/\∃x,BD s=some x/\x.kind=k/\x.text=t:=by
 unfold qeb at h;split at h
 ·cases h
 ·rename_i he;obtain⟨x,a,h2⟩:=qFM.1 h;simp at h2;exact⟨by simpa using he,x,a,h2⟩
def Za{s:Pst}{x:Mg}(h:BD s=some x):0<=s.pos/\s.pos<s.l.length/\s.l.length<=1000000:=by
 unfold BD at h;split at h
 ·have:=qpL h;omega
 ·cases h
def qtZ(h1:S jN=qnl):rS rv qc S (a1 B) (enc (X:=Bool)) (λs z=>∃r,TS s z=some r) (λs z c y=>TS s z=some (c,y)):=by
 rintro b s t ⟨r,a⟩;have d:=a;simp only[TS,uS,qFM]at a;obtain⟨v,a,rfl⟩:=a;simp[rv,qc,h1,a];cases v
 ·simp;exact ZS s (by simp) (by simp[TS,uS,a])
 ·obtain⟨_,x,h,_⟩:=qjZ a;have:=Za h;simp;exact⟨by simp only[InR];omega,ZS s.step (by simp[Pst.step]) (by simp[TS,uS,a])⟩
def NB{s:Pst}{k:Int}{t:B}{x:Mg}(he:s.e=0)(a:BD s=some x):qeb s k t=some (decide (x.kind=k/\x.text=t)):=by
 rw[qeb,if_neg (by simp[he]),a];rfl
@[simp] abbrev WZ(s:Pst)(z:U8×B):Option (Pst×B):=Hw s z.1.val z.2
abbrev qif:Spc:=qb2 (a2 U8 B) (enc (X:=B)) WZ
theorem qqh(h1:S dx=OF):rS oY ol S (a2 U8 B) (enc (X:=B)) (λs z=>∃r,WZ s z=some r) (λs z j y=>WZ s z=some (j,y)):=by
 rintro b s ⟨⟨k⟩,t⟩ ⟨r,a⟩;have c:=a;simp only[WZ,Hw]at a;split at a
 ·cases a
 rename_i he;have he:s.e=0:=by simpa using he
 obtain⟨x,q,a⟩:=qFA.1 a;split at a
 ·cases a
 rename_i hk;cases a;have l:x.kind=k:=by by_cases h:x.kind=k;exact h;exact absurd (.inl h) hk
 have p:k=111->x.text=t:=λh=>by by_cases d:x.text=t;exact d;exact absurd (.inr ⟨h,d⟩) hk
 have u:=Za q;simp[oY,ol,h1,he,Jq he,q,l];clear h1;have fin:∀H:ab,H 0=some (.box b (nQ s.step))->QP enc b (λj y=>Hw s k t=some (j,y)) (.v (.string x.text)) H:=λH h=>qrR s.step h c
 intro w;exact⟨λh=>⟨λd=>absurd (p h) d,λ_=>⟨by simp only[InR];omega,qrR s.step (by simp[Pst.step,he]) c⟩⟩,λ_=>⟨by simp only[InR];omega,qrR s.step (by simp[Pst.step,he]) c⟩⟩
@[simp] abbrev Xb(s:Pst)(_:Unit):Option (Pst×Bool):=uS s ⟨#[37,99]⟩
abbrev qiy:Spc:=qb2 a0 (enc (X:=Bool)) Xb
def qqt(h1:S ez=SA):rS pb oo S a0 (enc (X:=Bool)) (λs z=>∃r,Xb s z=some r) (λs z a y=>Xb s z=some (a,y)):=by
 rintro b s ⟨⟩ ⟨⟨a,v⟩,c⟩;simp only[Xb]at c;simp[pb,oo,h1,c,-fB',-eB'];refine ZS a ?_ ?_
 ·simp
 ·exact⟨rfl,rfl⟩
def qge{s:Pst}{x:Mg}(h:qdY s=some x):0<=s.pos/\s.pos+1<s.l.length/\s.l.length<=1000000/\s.l[(s.pos+1).toNat]? =some x:=by
 unfold qdY at h;split at h
 ·rename_i h0;exact⟨h0.1,h0.2.1,h0.2.2,h⟩
 ·cases h
@[simp] abbrev qc4(s:Pst)(_:Unit):Option (Pst×Mg):=(qdY s).map λx=>(s,x)
abbrev qip:Spc:=qb2 a0 (enc (X:=Mg)) qc4
def qql:rS pa om S a0 (enc (X:=Mg)) (λs z=>∃r,qc4 s z=some r) (λs z h y=>qc4 s z=some (h,y)):=by
 rintro b s ⟨⟩ ⟨r,j⟩;obtain⟨x,c,rfl⟩:=qFM.1 j;obtain⟨p,q,t,k⟩:=qge c;have hm:min (s.pos+1) (s.l.length -1)=s.pos+1:=by omega
 simp[pa,om,InR,hm];refineλ_=>⟨by omega,λ_=>⟨by omega,by omega,by omega,λa d=>Jn s a (.same _) (by simp) ⟨?_,rfl⟩⟩⟩
 rw[k]at d;rw[<-d,c]
@[simp] abbrev QQ(s:Pst)(_:Unit):Option (Pst×Bool):=(Wy s).map λv=>(s,v)
abbrev OM:Spc:=qb2 a0 (enc (X:=Bool)) QQ
def qhu(h1:S dx=OF)(h2:S qQ=qip):rS gO gC S a0 (enc (X:=Bool)) (λs z=>∃r,QQ s z=some r) (λs z j y=>QQ s z=some (j,y)):=by
 rintro b s ⟨⟩ ⟨r,d⟩;obtain⟨v,a,rfl⟩:=qFM.1 d;have c:=a;simp only[Wy]at a;obtain⟨x,h,a⟩:=qFA.1 a;split at a
 ·cases a
 rename_i he;have he:s.e=0:=by simpa using he
 split at a
 ·rename_i hk;obtain⟨n,hn,a⟩:=qFA.1 a;split at a
  ·rename_i hc;cases a;simp[gO,gC,h1,h2,h,he,Jq he,hk,hn,hc.1,hc.2];exact ZS s (by simp[he]) ⟨c,rfl⟩
  ·cases a
 rename_i hk;cases a;simp[gO,gC,h1,h,he,Jq he,hk];clear h1 d
 repeat' first|apply And.intro|intro _
 all_goals refine ZS s (by simp[he]) ⟨?_,rfl⟩
 all_goals (rw[c];simp[*])
theorem qol{H:ab}{op o:Int}{n a v l lb rg:B}{f:Bool}{j d:D}{mn mx:Int}(h:List Cond)(ks:List Pat)(hc:FrzTo H j (enc h))(p:FrzTo H d (enc ks)):
 FrzTo H (.agg [.v (.int .i64 op), .v (.int .i64 o), .v (.string n), .v (.string a), .v (.string v), .v (.string l), .v (.bool f),j, .v (.string lb), .v (.string rg), .v (.int .i64 mn), .v (.int .i64 mx),d]) (enc (⟨op,⟨o,n,a,v,l,f,h⟩,lb,rg,mn,mx,ks⟩:Pat)):=by
 rw[Wl];refine .agg rfl λk x y b c=>?_
 rcases k with _|_|_|_|_|_|_|_|_|_|_|_|_|k
 ·cases b;cases c;exact .same _
 ·cases b;cases c;exact .same _
 ·cases b;cases c;exact .same _
 ·cases b;cases c;exact .same _
 ·cases b;cases c;exact .same _
 ·cases b;cases c;exact .same _
 ·cases b;cases c;exact .same _
 ·cases b;cases c;exact hc
 ·cases b;cases c;exact .same _
 ·cases b;cases c;exact .same _
 ·cases b;cases c;exact .same _
 ·cases b;cases c;exact .same _
 ·cases b;cases c;exact p
 ·simp at b
def qkz{b:Nat}{post:Pst->Pat->Prop}{H:ab}{op o:Int}{n a v l lb rg:B}{f:Bool}{h d:D}{mn mx:Int}(s:Pst)(c:List Cond)(ks:List Pat)(hc:FrzTo (λi=>if i=0 then none else H i) h (enc c))(j:FrzTo (λi=>if i=0 then none else H i) d (enc ks))
 (h0:H 0=some (.box b (nQ s))) (k:post s ⟨op,⟨o,n,a,v,l,f,c⟩,lb,rg,mn,mx,ks⟩):
 QP enc b post (.agg [.v (.int .i64 op), .v (.int .i64 o), .v (.string n), .v (.string a), .v (.string v), .v (.string l), .v (.bool f),h, .v (.string lb), .v (.string rg), .v (.int .i64 mn), .v (.int .i64 mx),d]) H:=
 Jn s _ (qol c ks hc j) h0 k
def qcB{s:Pst}{t:B}{r:Pst×Bool}(h:uS s t=some r):(r=(s,false)/\qeb s 111 t=some false)\/(r=(s.step,true)/\qeb s 111 t=some true):=by
 unfold uS at h;obtain⟨v,a,rfl⟩:=qFM.1 h;cases v
 ·exact .inl ⟨rfl,a⟩
 ·exact .inr ⟨rfl,a⟩
def BZ{s:Pst}{x:Mg}{t:B}(he:s.e=0)(a:BD s=some x)(h:¬(x.kind=111/\x.text=t)):uS s t=some (s,false):=by
 rw[uS,NB he a,decide_eq_false h];rfl
def qoA{s:Pst}{x:Mg}{t:B}(he:s.e=0)(a:BD s=some x)(h1:x.kind=111)(h2:x.text=t):uS s t=some (s.step,true):=by
 rw[uS,NB he a,decide_eq_true ⟨h1,h2⟩];rfl
@[simp] abbrev Xa(s:Pst)(_:Unit):Option (Pst×Pat):=qjW s
abbrev qiv:Spc:=qb2 a0 (enc (X:=Pat)) Xa
@[simp] abbrev qe4(s:Pst)(_:Unit):Option (Pst×Pat):=qno s
abbrev qpv:Spc:=qb2 a0 (enc (X:=Pat)) qe4
@[simp] abbrev qe3(s:Pst)(_:Unit):Option (Pst×Pat):=qh5 s
abbrev qpt:Spc:=qb2 a0 (enc (X:=Pat)) qe3
@[simp] abbrev qe6(s:Pst)(_:Unit):Option (Pst×Pat):=qlN s
abbrev qpx:Spc:=qb2 a0 (enc (X:=Pat)) qe6
def qhn{s:Pst}{x:Mg}{k:Int}{t:B}(he:s.e=0)(a:BD s=some x)(h1:x.kind=k)(h2:k=111->x.text=t):Hw s k t=some (s.step,x.text):=by
 rw[Hw,if_neg (by simp[he]),a,qFW,if_neg (by rintro(h|h);exact h h1;exact h.2 (h2 h.1))]
theorem Oc{s a:Pst}{lb:B}{y:Pat}(h:UI s lb=some (a,y)):s.e=0/\∃x,BD s=some x/\((x.kind=115/\Hw s 115 ⟨#[]⟩=some (s.step,x.text)/\∃w,uS s.step ⟨#[37,99]⟩=some (a,w)/\y=⟨1,⟨2,E0,E0,x.text,E0,w, []⟩,lb,E0,0,0, []⟩)\/
 (x.kind≠115/\∃u t,Hw s 111 ⟨#[91]⟩=some (u,t)/\uS u ⟨#[93]⟩=some (a,true)/\y=⟨1,⟨1,E0,E0,E0,E0,false, []⟩,lb,E0,0,0, []⟩)):=by
 unfold UI at h;split at h
 ·cases h
 rename_i he;have he:s.e=0:=by simpa using he
 obtain⟨x,c,h⟩:=qFA.1 h;refine⟨he,x,c,?_⟩;split at h
 ·rename_i hk;obtain⟨⟨d,w⟩,b,h⟩:=qFM.1 h;cases h;exact .inl ⟨hk,qhn he c hk (λh=>absurd h (by decide)),w,b,rfl⟩
 ·rename_i hk;obtain⟨⟨u,t⟩,j,h⟩:=qFA.1 h;obtain⟨⟨d,w⟩,b,h⟩:=qFA.1 h;cases w with
  |false=>simp at h
  | true=>
    simp at h;obtain⟨rfl,rfl⟩:=h;exact .inr ⟨hk,u,t,j,b,rfl⟩
set_option maxHeartbeats 1000000 in
theorem qqs(h1:S dx=OF)(h2:S ez=SA)(h3:S qP=qif)(h4:S qS=qiy):
 rS eH ep S a0 (enc (X:=Pat)) (λs z=>∃r,Xa s z=some r) (λs z s' y=>Xa s z=some (s',y)):=by
 rintro b s ⟨⟩ ⟨⟨s',y⟩,hr⟩;have hr0:=hr;simp only[Xa,qjW]at hr;split at hr
 ·cases hr
 rename_i he;have he:s.e=0:=by simpa using he
 obtain⟨x,hx,hr⟩:=qFA.1 hr;split at hr
 ·cases hr
 rename_i hx1;have n1:uS s ⟨#[40]⟩=some (s,false):=BZ he hx λh=>hx1 ⟨h.1,by rw[h.2];decide⟩
 have n2:uS s ⟨#[60]⟩=some (s,false):=BZ he hx λh=>hx1 ⟨h.1,by rw[h.2];decide⟩
 have n3:uS s ⟨#[60,47]⟩=some (s,false):=BZ he hx λh=>hx1 ⟨h.1,by rw[h.2];decide⟩
 split at hr
 ·rename_i hk;obtain⟨⟨s1,t1⟩,hc,hr⟩:=qFA.1 hr;simp only at hr;have hw:=qhn (k:=110) (t:=⟨#[]⟩) he hx hk (λh=>absurd h (by decide));obtain⟨he1,x1,hx1,(⟨k1,w1,w,hf,rfl⟩|⟨k1,u,t,hu,hf,rfl⟩)⟩:=Oc hr
  ·simp[eH,ep,h1,h2,h3,h4,n1,n2,n3,he,Jq he,hx,hk,hw,hc,he1,Jq he1,hx1,k1,w1,hf,-fB',-eB'];exactλb1=>qkz s' [] [] (.nil _) (.nil _) (by simp) hr0
  ·simp[eH,ep,h1,h2,h3,h4,n1,n2,n3,he,Jq he,hx,hk,hw,hc,he1,Jq he1,hx1,k1,hu,hf,-fB',-eB'];exactλb1=>qkz s' [] [] (.nil _) (.nil _) (by simp) hr0
 ·rename_i hk;obtain⟨_,x1,hx1,h⟩:=Oc hr;rw[hx]at hx1;cases hx1;obtain(⟨k1,w1,w,hf,rfl⟩|⟨k1,u,t,hu,hf,rfl⟩):=h
  ·simp[eH,ep,h1,h2,h3,h4,n1,n2,n3,he,Jq he,hx,k1,w1,hf,-fB',-eB'];exactλb1=>qkz s' [] [] (.nil _) (.nil _) (by simp) hr0
  ·simp[eH,ep,h1,h2,h3,h4,n1,n2,n3,he,Jq he,hx,hk,k1,hu,hf,-fB',-eB'];exactλb1=>qkz s' [] [] (.nil _) (.nil _) (by simp) hr0
set_option maxHeartbeats 1000000 in
theorem qtW(h1:S dx=OF)(h2:S ez=SA)(h5:S qR=qiv):
 rS rr qa S a0 (enc (X:=Pat)) (λs z=>∃r,qe4 s z=some r) (λs z s' y=>qe4 s z=some (s',y)):=by
 rintro b s ⟨⟩ ⟨⟨s',y⟩,hr⟩;have hr0:=hr;simp only[qe4,qno]at hr;obtain⟨⟨s1,x1⟩,hi,hr⟩:=qFA.1 hr;simp only at hr;simp[rr,qa,h5,hi];intro b2 b3;refine rX (X:=Nat×Pst×Pat) [0,2,3] [2] [] [] [] [] (λz=>DG z.1 z.2.1 z.2.2=some (s',y)) (λ_=>[]) (λz=>[(0, .box b (nQ z.2.1)),(3, .box b3 (enc z.2.2).cells)]) (λz=>z.1) (9,s1,x1) [0,3] (λ_=>rfl) (by decide) (by decide) hr (by simp) (by simp) ?_;clear hr hi;rintro⟨k,s,x⟩ hk;simp only at hk;obtain _|k:=k
 ·rw[DG]at hk;cases hk
 rw[DG]at hk;split at hk
 ·cases hk
 rename_i he;have he:s.e=0:=by simpa using he
 obtain⟨t,ht,hk⟩:=qFA.1 hk;split at hk
 ·cases hk
 rename_i hno;have n1:uS s ⟨#[63]⟩=some (s,false):=BZ he ht λh=>hno ⟨h.1, .inl h.2⟩
 have n3:uS s ⟨#[43]⟩=some (s,false):=BZ he ht λh=>hno ⟨h.1, .inr (.inl h.2)⟩
 have n4:uS s ⟨#[123]⟩=some (s,false):=BZ he ht λh=>hno ⟨h.1, .inr (.inr h.2)⟩
 split at hk
 ·rename_i hb;have y2:=qoA he ht hb.1 hb.2;simp[h1,h2,he,Jq he,ht,n1,y2,-fB',-eB'];exact⟨k,s.step,⟨6,Cond0,E0,E0,0, -1, [x]⟩,hk,⟨.inl (.inl ⟨rfl,rfl,rfl,rfl,rfl⟩), .inl (by simp[Cond0,E0])⟩,by omega⟩
 ·rename_i hb;have n2:uS s ⟨#[42]⟩=some (s,false):=BZ he ht hb;cases hk;simp[h1,h2,he,Jq he,ht,n1,n2,n3,n4,-fB',-eB'];exact Jn s' y (by simp) (by simp[he]) hr0
def qnC{op:Int}{l:List Pat}(h:l.length≠1):qpD op l=⟨op,Cond0,E0,E0,0,0,l⟩:=by
 match l,h with
 | [],_=>rfl
 | [x],h=>exact absurd rfl h
 |x::y::l,_=>rfl
theorem qtU(h1:S ni=OM)(h2:S sO=qpv):
 rS rq pY S a0 (enc (X:=Pat)) (λs z=>∃r,qe3 s z=some r) (λs z h y=>qe3 s z=some (h,y)):=by
 rintro b s ⟨⟩ ⟨⟨h,y⟩,c⟩;have d:=c;simp only[qe3,qh5]at c;obtain⟨⟨q,t⟩,hi,c⟩:=qFA.1 c;obtain⟨⟨F,j⟩,hl,c⟩:=qFM.1 c;simp only at hl c;cases c;simp[rq,pY,h2,hi];intro b2 u;refine au (X:=Nat×Pst×Value×List Pat) [0,2] [2] (λz=>Ds z.1 z.2.1 z.2.2.2=some (h,j)/\z.2.2.2.length+z.1<=10) (λz=>[(3, .own 6 z.2.2.1)]) (λz=>[(0, .box b (nQ z.2.1)),(6, .row z.2.2.1 aC 13 (z.2.2.2.map enc))]) (λz=>z.1) (9,q,u, [t]) ⟨hl,by simp⟩ ?_;clear c hl hi;rintro⟨k,s,v,l⟩ ⟨hk,hlen⟩;simp only at hk hlen;obtain _|k:=k
 ·rw[Ds]at hk;cases hk
 rw[Ds]at hk;obtain⟨v1,hb,hk⟩:=qFA.1 hk;cases v1
 ·simp only[qGt,if_false]at hk;cases hk;simp[h1,hb,-fB',-eB'];clear h1 h2;refineλ_=>⟨λh1=>⟨by omega,λa p=>?_⟩,λw=>?_⟩
  ·have e:j=[a]:=by
    match j,h1,p with
    | [x],_,p=>simp at p;rw[p]
   rw[e]at d;exact Jn h a (by simp) (by simp) d
  ·rw[qnC (by omega)]at d;exact qkz h [] j (.nil _) (fA aC (by simp)) (by simp) d
 ·simp only[if_true]at hk;obtain⟨⟨A,C⟩,E,hk⟩:=qFA.1 hk;simp only at hk;simp[h1,hb,h2,E,-fB',-eB'];exact⟨by omega,by omega,λv'=>⟨k,A,v',l++ [C],⟨hk,by simp;omega⟩,⟨rfl, .inl ⟨rfl,rfl,rfl,rfl,rfl⟩, .inl ⟨rfl,by simp⟩⟩,by omega⟩⟩
def qt0(h1:S ez=SA)(h2:S sM=qpt):
 rS rz qd S a0 (enc (X:=Pat)) (λs z=>∃r,qe6 s z=some r) (λs z d y=>qe6 s z=some (d,y)):=by
 rintro b s ⟨⟩ ⟨⟨d,y⟩,a⟩;have c:=a;simp only[qe6,qlN]at a;obtain⟨⟨j,k⟩,hi,a⟩:=qFA.1 a;simp only at a;obtain⟨⟨l,w⟩,h,a⟩:=qFA.1 a;cases w with
 |true=>simp at a
 | false=>
   simp at a;obtain⟨rfl,rfl⟩:=a;obtain⟨e,_⟩|⟨e,_⟩:=qcB h
   ·cases e;simp[rz,qd,h2,hi];intro b2 p;refine au (X:=Unit) [0,2,3] [0,2,6] (λ_=>True) (λ_=>[]) (λ_=>[]) (λ_=>0) () trivial ?_;rintro - -;simp[h1,h,-fB',-eB'];exact Jn j k (by simp) (by simp) c
   ·cases e
def qr9(c:Int):Bool:=decide (48<=c/\c<=57)
abbrev Sy:Spc:=aG (a1 U8) (λ_=>True) (enc (X:=Bool)) λx y=>y=qr9 x.val
def qbc:ak uV uu S (a1 U8) (λ_=>True) (enc (X:=Bool)) λx y=>y=AP x.val:=by
 rintro⟨c⟩ -;simp[uV,uu,AP]
 repeat' first|apply And.intro|intro _
 all_goals first|omega|(rw[qGb];simp;omega)
def qfj:ak xz wv S (a1 U8) (λ_=>True) (enc (X:=Bool)) λx y=>y=qr9 x.val:=by
 rintro⟨c⟩ -;simp[xz,wv,qr9]
 repeat' first|apply And.intro|intro _
 all_goals first|omega|(rw[qGb];simp;omega)
abbrev qdo:Spc:=aG a0 (λ_=>True) (enc (X:=List B)) λ_ y=>y=signsL
def qmE:ak B3 A3 S a0 (λ_=>True) (enc (X:=List B)) λ_ y=>y=signsL:=by
 rintro x -;simp[B3,A3];exact aL signsL (.same _) rfl
def qea{s:B}{i:Nat}{c:UInt8}(h:s.data[i]? =some c):qn5 s i=decide (c.toNat=32\/c.toNat=10):=by rw[qn5,h]
def qoS{s:B}{i:Nat}(h:i<s.size):∃c,s.data[i]? =some c:=⟨s.data[i],qGe h⟩
def Yg(s:B):∀(n i:Nat),s.size -i=n->i<=s.size->i<=yl s i/\yl s i<=s.size
 | 0,i,h,hi=>by rw[Sl (by omega)];omega
 | n+1,i,h,hi=>by
   rw[Gk (by omega)];split
   ·have:=Yg s n (i+1) (by omega) (by omega);omega
   ·omega
def NC{s:B}{i:Nat}{c:UInt8}(h:s.data[i]? =some c):qjY s i=(AP c.toNat||qr9 c.toNat||decide ((c.toNat:Int)=45)):=by
 unfold qjY qjS AP qr9;rw[h,qGb];simp;omega
def Zq(c:UInt8):qjS c.toNat=AP (c.toNat:Int):=by unfold qjS AP;rw[qGb];simp;omega
abbrev qij:Spc:=aG (a1 B) (λs=>∃r,LJ s=some r) (enc (X:=List Mg)) λs y=>LJ s=some y
theorem qqi(h1:S wV=tT)(h2:S zu=Sy)(h3:S Eb=qdo):ak EB Dy S (a1 B) (λs=>∃r,LJ s=some r) (enc (X:=List Mg)) λs y=>LJ s=some y:=by
 rintro s ⟨fin,a⟩;have hsz:s.size<=100000:=by
  by_cases h:s.size<=100000
  ·exact h
  ·rw[LJ,if_neg h]at a;cases a
 have L:=a;rw[LJ,if_pos hsz]at a;simp[EB,Dy];refine au (X:=Nat×Nat×Value×List Mg) [0] [] (λz=>Oy z.1 s z.2.1 z.2.2.2=some fin/\z.2.1<=s.size/\z.2.2.2.length<=z.2.1) (λz=>[(3, .own 200 z.2.2.1),(4,enc (z.2.1:Int))]) (λz=>[(200, .row z.2.2.1 kg 3 (z.2.2.2.map enc))]) (λz=>z.1) (100000,0, .slice none 0 0, []) ⟨a,by simp,by simp⟩ ?_ (hh:=by simp[isNilRow]);clear a;rintro⟨k,i,v,out⟩ ⟨hk,hi,hlen⟩;simp only at hk hi hlen;obtain _|k:=k
 ·rw[Oy]at hk;cases hk
 rw[Oy]at hk;simp;refine aS (X:=Unit) [0,3] [200] (λ_=>True) (λ_=>[(4,enc ((yl s i:Nat):Int))]) (λ_=>[]) ?_ ?_
 ·simp;refine au (X:=Nat) [0,3] [200] (λj=>i<=j/\j<=s.size/\yl s j=yl s i) (λj=>[(4,enc (j:Int))]) (λ_=>[]) (λj=>s.size -j) i ⟨qFH _,hi,rfl⟩ ?_;rintro j ⟨j0,j1,j2⟩;simp;refineλ_=>⟨λl=>⟨l,λc hc=>⟨λh32=>⟨l,λc' Q=>?_⟩,λh32=>?_⟩⟩,λl=>?_⟩
  ·rw[hc]at Q;cases Q;have E:=Gk l;rw[qea hc]at E;refine⟨λh10=>⟨by simp only[InR];omega,j+1,⟨by omega,by omega,?_⟩,by omega,by omega⟩,λh10=>?_⟩
   ·rw[<-j2,E,if_pos (by simp;omega)]
   ·rw[<-j2,E,if_neg (by simp;omega)]
  ·have E:=Gk l;rw[qea hc]at E;refine⟨by simp only[InR];omega,j+1,⟨by omega,by omega,?_⟩,by omega,by omega⟩;rw[<-j2,E,if_pos (by simp;omega)]
  ·rw[<-j2,Sl l]
 rintro - -;have hsk:=Yg s _ i rfl hi;generalize hi':yl s i=p at hk hsk;simp;refineλ_=>⟨λhe=>⟨by omega,by omega,λv'=>?_⟩,λhne=>?_⟩
 ·rw[if_pos (by omega)]at hk;refine aL fin (fA kg ?_) L;cases hk;rw[show(p:Int)=(s.size:Int)by omega];simp
 rw[if_neg (by omega)]at hk;obtain⟨⟨j,t⟩,A,hk⟩:=qFA.1 hk;simp only at hk;split at hk
 ·rename_i l;refine aS (X:=Value) [0] [] (λ_=>True) (λv'=>[(5,enc (j:Int)),(3, .own 200 v')]) (λv'=>[(200, .row v' kg 3 ((out++ [t]).map enc))]) ?_ ?_
  ·obtain⟨c,hc⟩:=qoS (s:=s) (i:=p) (by omega);unfold qt8 at A;rw[hc]at A;simp only at A;split at A
   ·rename_i Z;cases A;have b:AP (c.toNat:Int)=true:=by rw[<-Zq];exact Z
    simp[h1,h2,hc,b];refine⟨by omega,?_⟩;refine au (X:=Nat) [0,3,4] [200] (λj=>p<=j/\j<=s.size/\KT s j=KT s p) (λj=>[(5,enc (j:Int))]) (λ_=>[]) (λj=>s.size -j) p ⟨qFH _,by omega,rfl⟩ ?_;rintro j ⟨j0,j1,j2⟩;have go:∀c:UInt8,s.data[j]? =some c->qjY s j=true->InR .i64 ((j:Int) +1)/\∃y,(p<=y/\y<=s.size/\KT s y=KT s p)/\(j:Int) +1=y/\s.size -y<s.size -j:=λc hc hn=>by
     have l:j<s.size:=(qFN.1 hc).1;refine⟨by simp only[InR];omega,j+1,⟨by omega,by omega,?_⟩,by omega,by omega⟩;rw[<-j2,SY l,hn,if_pos rfl]
    have stop:KT s j=j->KT s p=j:=λh=>by rw[<-j2,h]
    simp[h1,h2];clear h1 h2 h3 hc Z b;refineλ_=>⟨λl=>⟨l,λc hc=>⟨λb1=>⟨l,λc2 I=>⟨λb2=>⟨l,λc3 J=>⟨λb3=>?_,λb3=>?_⟩⟩,λb2=>?_⟩⟩,λb1=>?_⟩⟩,λl=>?_⟩
    ·rw[hc]at J;cases J;exact go c hc (by rw[NC hc,decide_eq_true b3];simp)
    ·rw[hc]at J I;cases J;cases I;have e:=stop (by rw[SY l,NC hc,b1,b2,decide_eq_false b3];rfl);exact⟨j0,j1,by omega,by omega,λv=>⟨_,⟨by rw[e],rfl⟩, .inl ⟨rfl,by rw[e]⟩⟩⟩
    ·rw[hc]at I;cases I;exact go c hc (by rw[NC hc,b2];simp)
    ·exact go c hc (by rw[NC hc,b1];simp)
    ·have e:=stop (qjw l);exact⟨j0,j1,by omega,by omega,λv=>⟨_,⟨by rw[e],rfl⟩, .inl ⟨rfl,by rw[e]⟩⟩⟩
   rename_i Z;have b:AP (c.toNat:Int)=false:=by rw[<-Zq];simpa using Z
   split at A
   ·cases A
   ·rename_i hD;have M:qr9 (c.toNat:Int)=false:=by unfold qr9;rw[decide_eq_false];omega
    split at A
    ·rename_i hQ;obtain⟨⟨q,w⟩,hq,A⟩:=qFM.1 A;cases A;have K:(c.toNat:Int)=34:=by omega
     rw[K]at b M;simp[h1,h2,hc,b,M,K];refine⟨by omega,by simp only[InR];omega,?_⟩;refine au (X:=Nat×B) [0,3,4] [200] (λz=>qb0 s z.1 z.2=some (q,w)/\z.1<=s.size/\p<z.1/\z.2.size<=z.1) (λz=>[(5,enc (z.1:Int)),(6,enc z.2),(7,enc false)]) (λ_=>[]) (λz=>s.size -z.1) (p+1,⟨#[]⟩) ⟨hq,by omega,by omega,qFY _⟩ ?_;rintro⟨j,u⟩ ⟨j0,j1,j2,j3⟩;simp only at j0 j1 j2 j3;simp;clear h1 h2 h3;refineλ_=>⟨λN=>⟨N,λd hd=>?_⟩,λN=>?_⟩
     ·rw[qfQ hd]at j0;refine⟨λh34=>⟨by simp only[InR];omega,λ_=>⟨λU=>⟨by simp only[InR];omega,by omega,U,λd' W=>⟨λY=>?_,λY=>?_⟩⟩,λU=>?_⟩⟩,λh34=>?_⟩
      ·rw[if_pos (by omega),W]at j0;simp only at j0;rw[if_pos (by omega)]at j0;cases j0
      ·rw[if_pos (by omega),W]at j0;simp only at j0;rw[if_neg (by omega)]at j0;cases j0;exact⟨by simp only[InR];omega,by omega,by omega,λv'=>⟨v',⟨rfl,rfl⟩, .inl ⟨rfl,rfl⟩⟩⟩
      ·have O:s.data[j+1]? =none:=qGI (by show s.size<=j+1;omega);rw[if_pos (by omega),O]at j0;cases j0;exact⟨by simp only[InR];omega,by omega,by omega,λv'=>⟨v',⟨rfl,rfl⟩, .inl ⟨rfl,rfl⟩⟩⟩
      ·rw[if_neg (by omega)]at j0;refine⟨by simp only[InR];omega,by omega,by omega,by omega,by simp only[InR];omega,j+1,_,⟨j0,by omega,by omega,?_⟩,⟨by omega,rfl⟩,by omega⟩;rw[ByteArray.size_append,ByteArray.size_extract];omega
     ·rw[qi4 N]at j0;cases j0
    ·rename_i hQ;have K:¬(c.toNat:Int)=34:=by omega
     split at A
     ·cases A
     ·rename_i x hx;cases A;simp[h1,h2,h3,hc,b,M,K];refine⟨by omega,λ_=>?_⟩;refine ah (X:=Unit) [0,3,4,5,38] [200] signsL.length (λk _=>(signsL.drop k).find? (qrg s p)=some x) (λ_=>[]) (λ_=>[]) () (by simpa using hx) ?_ ?_ (hlen:=by decide)
      ·rintro m -hm F;obtain⟨y,hy⟩:=aQ hm;obtain⟨_,hgy⟩:=qFB.1 hy;rw[bw hy,List.find?_cons]at F;have C:qrg s p y=decide (p+y.size<=s.size/\s.extract p (p+y.size)=y):=rfl;have e1:((p:Int) + (y.size:Int)).toNat=p+y.size:=by omega
       simp[hm,hy,hgy,e1];clear h1 h2 h3;refineλ_=>⟨by simp only[InR];omega,λ_=>⟨λhle _=>⟨by simp only[InR];omega,by omega,by omega,λhex _=>⟨by simp only[InR];omega,λhz=>?_,λ_=>?_⟩,λhex=>?_⟩,λhlt=>?_⟩⟩
       ·rw[C,decide_eq_true ⟨by omega,hex⟩]at F;cases F;omega
       ·rw[C,decide_eq_true ⟨by omega,hex⟩]at F;cases F;exact⟨by omega,by omega,by omega,by omega,λv'=>⟨v',⟨rfl,rfl⟩, .inl ⟨rfl,rfl⟩⟩⟩
       ·rw[C,decide_eq_false (λh=>hex h.2)]at F;exact F
       ·rw[C,decide_eq_false (λh=>by have:=h.1;omega)]at F;exact F
      ·rintro -F;rw[qGr]at F;cases F
  ·rintro v' -;simp;exact⟨k,j,v',out++ [t],⟨hk,l.1,by simp;omega⟩,⟨⟨rfl,rfl⟩, .inl ⟨rfl,by simp⟩⟩,by omega⟩
 ·cases hk
@[simp] abbrev WY(s:Pst)(z:List B×Int):Option (Pst×Int):=if s.e=0/\0<=z.2 then(BD s).bind λt=>if t.kind≠110 then some (s, -1)else none else none
abbrev qie:Spc:=qb2 (a2 (List B) Int) (enc (X:=Int)) WY
theorem qqg(h1:S jN=qnl):rS oW oj S (a2 (List B) Int) (enc (X:=Int)) (λs z=>∃r,WY s z=some r) (λs z u y=>WY s z=some (u,y)):=by
 rintro b s ⟨l,i⟩ ⟨r,c⟩;have w:=c;simp only[WY]at c;split at c
 ·rename_i he;obtain⟨he,d⟩:=he;have d:0<=i:=d;obtain⟨t,q,c⟩:=qFA.1 c;split at c
  ·rename_i hk;cases c;simp[oW,oj];refine au (X:=Int) [0,1] [0] (λj=>0<=j) (λj=>[(7,enc j)]) (λ_=>[]) (λj=>(l.length -j).toNat) i d ?_;intro j k;have k:0<=j:=k;have p:∀x:B,qeb s 110 x=some false:=λx=>by rw[NB he q,decide_eq_false];exactλh=>hk h.1
   simp[h1,p];exactλ_=>⟨λhl=>⟨k,hl,λa _=>⟨by simp only[InR];omega,j+1,by omega,rfl,by omega⟩⟩,λ_=>qB4 s (by simp) ⟨⟨he,d⟩,by rw[q];simp[hk]⟩⟩
  ·cases c
 ·cases c
abbrev qdn:Spc:=aG a0 (λ_=>True) (enc (X:=List B)) λ_ _=>True
def qfm:ak xD ww S a0 (λ_=>True) (enc (X:=List B)) λ_ _=>True:=by
 rintro x -;simp[xD,ww];exact aL (Y:=List B) [⟨#[]⟩,⟨#[119,105,116,104,105,110]⟩,⟨#[99,111,110,116,97,105,110,105,110,103]⟩,⟨#[111,118,101,114,108,97,112,112,105,110,103]⟩] (.same _) trivial
def qeS(s:B)(y:Qry×Int×Int):Prop:=∃p,O5 s=some p/\y=(⟨p,GlobE, [],0⟩,0,0)
abbrev s_Parse:Spc:=aG (a1 B) (λs=>∃p,O5 s=some p) (qov (Y:=Qry) (Z:=Int) (W:=Int)) qeS
def qon{H:ab}{l l':List D}(h:FzL H l l'):FrzTo H (.agg l) (.agg l'):= .agg h.get.1 h.get.2
theorem qmW(h1:S Hd=qij)(h2:S sP=qpx)(h3:S ez=SA)(h4:S zw=qdn)(h5:S qO=qie)(h6:S jN=qnl)(j:S dx=OF):
 ak B7 A7 S (a1 B) (λs=>∃p,O5 s=some p) (qov (Y:=Qry) (Z:=Int) (W:=Int)) qeS:=by
 rintro s ⟨p,hp⟩;have h:=hp;unfold O5 at hp;split at hp
 ·rename_i k;obtain⟨l,hl,hp⟩:=qFA.1 hp;obtain⟨⟨a,A⟩,q,hp⟩:=qFA.1 hp;simp only at hp;split at hp
  ·cases hp
  rename_i he;have he:a.e=0:=by simpa using he
  obtain⟨t,b,hp⟩:=qFA.1 hp;split at hp
  ·rename_i hk;cases hp;have hex:∃y,LJ s=some y:=⟨l,hl⟩
   have r:uS a ⟨#[58,58]⟩=some (a,false):=BZ he b (by omega);have u:uS a ⟨#[33]⟩=some (a,false):=BZ he b (by omega);have w:qeb a 110 ⟨#[115,116,114,97,116,101,103,121]⟩=some false:=by rw[NB he b,decide_eq_false];omega
   have c:¬(400:Int)<s.size:=by omega
   simp[B7,A7,h1,c,hex,-fB'];intro b2 _ l' d x;rw[hl]at d;cases d;simp[h2,q,h3,r];intro C;refine aS (X:=Unit) [2,5,6] [2,6,16] (λ_=>True) (λ_=>[]) (λ_=>[]) ?_ ?_
   ·simp;refine au (X:=Unit) [2,5,6] [2,6,16] (λ_=>True) (λ_=>[]) (λ_=>[]) (λ_=>0) () trivial ?_;rintro - -;simp[h3,h4,h5,he,Jq he,u,b,hk]
   rintro - -;refine aS (X:=Unit) [2,5,6] [2,6,16] (λ_=>True) (λ_=>[]) (λ_=>[]) ?_ ?_
   ·simp[h6,w]
   rintro - -;refine aS (X:=Unit) [2,5,6] [2,6,16] (λ_=>True) (λ_=>[]) (λ_=>[]) ?_ ?_
   ·simp[j,he,Jq he,b,hk]
   rintro - -;simp[he];refine⟨⟨p,GlobE, [],0⟩,qon ?_,p,h,rfl⟩;simp[GlobE,E0]
  ·cases hp
 ·cases hp
end
section
open Go.Proofs
open Cod (enc dec)
variable {S S0:Nat->Spc}

end
section
open Cod (enc dec)
variable {dq:Prop}
def qkt{ds:List D}(h:∀d∈ds,qaU d):qaU (.agg ds):=λtp I b l w w' x j=>by
 cases j with
 |agg xs _ hl a hk=>exact .agg xs _ hl a λk y c h1 h2=>h c (qFF h2) _ _ _ _ _ _ _ (hk k y c h1 h2)
section
variable {X Y:Type}[Cod Y]
theorem XU{P:Program}{f:Nat}{A:dP X}{pre:D×X->Prop}{post:D×X->List Y->Prop}{el n:Nat}(hn:n=Cod.wd Y)(hf:Tri dq P f (qrQ (Y:=Y) (aD A) pre post el n).pt)(L:∀y:Y,∀c∈ (enc y).cells,qaU c):Tri dq P f (qpU A pre (enc (X:=List Y)) post).pt:=by
 intro O tp w vs ds H d K hO htl a hlen C hA;obtain⟨id,F,cells,U,x,rfl,hd,hid,hp,hK⟩:=hA;cases vs with
 |nil=>simp at hlen
 | cons v0 vs=>
   have hv0:v0= .pointer (some ⟨F,0,none⟩):=by
    have:=C 0 v0 (.bptr id F 0) rfl rfl;cases this;rfl
   subst hv0
   let W:Nat->Prop:=λb=>O b\/ ∃i r,i≠id/\H i=some r/\r.blk=some b
   have Z:∀b,aR O tp H w b->aR W tp bS w b:=λb hb=>⟨hb.1,λh=>h.elim hb.2.1 λ⟨i,r,_,h1,h2⟩=>hb.2.2.2 ⟨i,r,h1,h2⟩,hb.2.2.1,λ⟨i,r,h1,_⟩=>by simp at h1⟩
   have hmv:∀y e,R tp (aR O tp H w) w y e->R tp (aR W tp bS w) w y e:=λy e hr=>hr.mono (λ_ h=>h) (λb hb=>⟨Z b hb,rfl⟩) (λb _=> .refl _ _)
   have hl:R tp (aR W tp bS w) w (.pointer (some ⟨F,0,none⟩)) (.cptr cells 0):=by
    have M:(Res.box F cells).blk=some F:=rfl;have h1:=a.out id _ F hid M;have hI:aR W tp bS w F:=⟨(a.ok id _ hid).lt M,λh=>h.elim h1.1 λ⟨i,r,hne,h2,h3⟩=>hne (a.dis _ _ _ _ F h2 hid h3 M),h1.2,λ⟨i,r,h2,_⟩=>by simp at h2⟩
    obtain⟨xs,el,g1,g2,g3⟩:=(a.ok id _ hid).conv hmv (λ_ _=>rfl);obtain⟨f,k1,k2,k3⟩:=tq g1 g2 g3;have:=R.cptr (tp:=tp) F 0 cells 0 f hI (λ_=>⟨_,_,g1⟩) k1 k2 k3;simpa using this
   have hdec:(aD A).dec (.cptr cells 0::U)=some (.cptr cells 0,x):=by simp[hd]
   obtain⟨N,hc⟩:=hf W tp w (.pointer (some ⟨F,0,none⟩)::vs) (.cptr cells 0::U) bS d (λr H'=>∃v l,r= .own d v/\post (.cptr cells 0,x) l/\H'=ai bS d (some (.row v el n (l.map enc))))
    (λb hb=>hb.elim (hO b) λ⟨i,r,_,h1,h2⟩=>(a.ok i r h1).lt h2) (htl.mono λb ⟨i,r,h,_⟩=>by simp at h) ⟨λi j r s b h=>by simp at h,λi r b h=>by simp at h,λi r h=>by simp at h⟩ (by simpa using hlen)
    (λk y e h1 h2=>by
      cases k with
      |zero=>simp at h1 h2;subst h1;subst h2;exact hl
      |succ k=>simp at h1 h2;exact hmv _ _ (C (k+1) y e (by simpa using h1) (by simpa using h2)))
    (by rw[qkr,hdec];exact⟨hp,λv l hz=>⟨v,l,rfl,hz,rfl⟩⟩)
   refine⟨N,hc.mono ?_⟩;rintro e w' ⟨q,r,H',p,rfl,⟨v,l,rfl,hz,rfl⟩,t1,t2,t3,hs,ho,E,hR⟩;have t:∀b,b<w.heap.size->¬tp b->w'.heap[b]? =w.heap[b]?:=λb hb ht=>hs.same b hb (λ⟨i,r,h,_⟩=>by simp at h) ht
   have Q:∀y e,R tp (aR O tp H w) w y e->R p (aR O p H w') w' y e:=λy e hr=>hr.mono t1 (λb hb=>⟨⟨qFS hb.1 hs.size,hb.2.1,λh=>by
    rcases t2 b h with h|h
    ·exact hb.2.2.1 h
    ·have:=hb.1;omega,hb.2.2.2⟩,t b hb.1 hb.2.2.1⟩) hs.tapes
   have u:ai bS d (some (.row v el n (l.map enc))) d=some (.row v el n (l.map enc)):=by simp[ai]
   have hrk:=E.ok d _ u;have hrk':ResOk (R p (aR O p H w') w') w' (.row v el n (l.map enc)):=by
    obtain⟨xs,g1,g2,g3⟩:=hrk;refine⟨xs,g1,g2,λk y c h1 h2=>⟨(g3 k y c h1 h2).1,?_⟩⟩;have hm:c∈bp (l.map enc):=qFF h2;obtain⟨e,he,N⟩:=qG0.1 hm;obtain⟨y',_,rfl⟩:=qFL.1 he;exact L y' c N _ _ _ _ _ _ _ (g3 k y c h1 h2).2
   have I:∀b,(Res.row v el n (l.map enc)).blk=some b->aR O p H w' b:=λb hb=>by
    have h1:=ho b ⟨d,_,u,hb⟩;have h2:w.heap.size<=b:=h1.elim (λ⟨i,r,h,_⟩=>by simp at h) λh=>h
    refine⟨hrk.lt hb,λh=>?_,(E.out d _ b u hb).2,λ⟨i,r,h3,h4⟩=>?_⟩
    ·have:=hO b h;omega
    ·have:=(a.ok i r h3).lt h4;omega
   refine⟨q,enc l,H,p,rfl,hK l hz,t1,t2,t3,⟨hs.os,hs.tape,hs.output,hs.size,λb hb _ ht=>t b hb ht,hs.tapes,hs.drawn⟩,λb h=> .inl h,⟨a.dis,λi r b h1 h2=>?_,λi r h1=>?_⟩,?_⟩
   ·have:=a.out i r b h1 h2;refine⟨this.1,λh=>?_⟩;rcases t2 b h with h|h
    ·exact this.2 h
    ·have:=(a.ok i r h1).lt h2;omega
   ·exact(a.ok i r h1).conv Q λb hb=>t b ((a.ok i r h1).lt hb) (a.out i r b h1 hb).2
   ·have J:∀i r,ai bS d (some (.row v el n (l.map enc))) i=some r->r= .row v el n (l.map enc):=λi r h=>by
     unfold ai at h;split at h
     ·exact(qFO h).symm
     ·simp at h
    have hfz:FrzTo (ai bS d (some (.row v el n (l.map enc)))) (.own d v) (.list n (l.map enc)):=fA el u hn;have e1:(enc l:D)= .list n (l.map enc):=by subst hn;rfl
    have hRo:R p (aR O p H w') w' q (.own d v):=by
     cases hR with
     |own _ _ h=>exact .own _ _ h
    rw[e1];exact FrzTo.R (H:=H) hfz (λi r h=>by rw[J i r h];exact hrk') (λ_ h=>h) (λi r b h hb=>by rw[J i r h]at hb;exact I b hb) hRo
end
open Go.Proofs
variable {S:Nat->Spc}
set_option maxRecDepth 100000 in
theorem qmJ:TM (Y:=Int) dA du S (aD (a1 St3)) TO qaM bj 1:=by
 rintro⟨d,s⟩ ⟨⟨r,k,hd,hl⟩,hs⟩;have hd:d= .cptr (nX r k) 0:=hd;subst hd;simp[dA,du,nX,-fB',-eB'];intro hl1;refine⟨by omega,by omega,λv hl2=>?_⟩;refine ah (X:=List Int) [3,5] [] r.lb.length (λk z=>z.length=r.lb.length/\∀i,i<k->z[i]? =some (s.get i -1)) (λ_=>[]) (λz=>[(12, .row v bj 1 (z.map enc))]) (List.replicate r.lb.length 0) (by simp) ?_ ?_
 ·rintro j z hj ⟨hz1,hz2⟩;have hg:=ZM s (k:=j) (by omega);have hb:0<=s.get j/\s.get j<=1000000:=hs.2.2 j;have hjz:j<z.length:=by omega
  simp[hj,hg,hjz,-fB',-eB'];refine⟨by omega,by omega,by simp only[InR];omega,z.set j (s.get j -1),⟨by simp[hz1],λi hi=>?_⟩, .inl (by rw[qHv];rfl)⟩;by_cases e:j=i
  ·subst e;rw[qGH (by omega)]
  ·rw[qHK e];exact hz2 i (by omega)
 ·rintro z ⟨hz1,hz2⟩;simp[-fB',-eB'];refine dI z (by simp[ai]) λr' k' e=>?_
  have e:D.cptr (nX r k) 0= .cptr (nX r' k') 0:=e;obtain rfl:=Iu e;refine qGj λi=>?_
  unfold WC;rw[qFP];by_cases hi:i<r.lb.length
  ·rw[hz2 i hi,qHe hi];rfl
  ·rw[qFV (by omega),qFV (by simp;omega)];rfl
end
section
open Go.Proofs Cod
variable {dq:Prop}
def dC{P:Program}{f:Nat}{A:Nat->PT}{j:PT}(h:∀n,Tri dq P f (A n))(hs:∀d ds H K,j d ds H K->∃n,A n d ds H K):Tri dq P f j:=
 λO tp w vs ds H d K a b c e g k=>(hs d ds H K k).elim λn hn=>h n O tp w vs ds H d K a b c e g hn
def pP{P:Program}{f:Nat}{A:PT}(hs:∀d ds H K,¬A d ds H K):Tri dq P f A:=λO tp w vs ds H d K a b c e g h=>absurd h (hs d ds H K)
def fH{X Y:Type}{A:dP X}{pre:Nat->X->Prop}{a:X->Prop}{er:Y->D}{post:X->Y->Prop}(b:∀x,a x->∃n,pre n x):∀d ds H K,(aG A a er post).pt d ds H K->∃n,(aG A (pre n) er post).pt d ds H K:=by
 intro d ds H K h;rw[mO]at h;cases e:A.dec ds with
 |none=>rw[e]at h;exact h.elim
 | some x=>
   rw[e]at h;obtain⟨h1,h2⟩:=h;obtain⟨n,hn⟩:=b x h1;exact⟨n,by rw[mO,e];exact⟨hn,h2⟩⟩
def bH{P:Program}{f:Nat}{X Y:Type}{A:dP X}{pre:X->Prop}{er:Y->D}{post:X->Y->Prop}(a:∀x,¬pre x):Tri dq P f (aG A pre er post).pt:=pP λd ds H K h=>by
 rw[mO]at h;cases e:A.dec ds with
 |none=>rw[e]at h;exact h.elim
 |some x=>rw[e]at h;exact a x h.1
def UJ{P:Program}{f:Nat}{Y Z:Type}{A:dP Z}{er:Y->D} :Tri dq P f (qmr A er λ_ _=>none).pt:=pP λd ds H K h=>by
 obtain⟨id,b',x,z,a,h1,h2,h3,h4,h5,⟨r,h6⟩,b⟩:=h;cases h6
def qnf{P:Program}{f:Nat} :Tri dq P f (qs6 λ_ _ _=>none).pt:=pP λd ds H K h=>by
 obtain⟨a,b',x,c,k,r,b,h1,h2,h3,h4,h5⟩:=h;cases h4
def qCC{p:Cond}(h:dB p<=0):False:=by rw[JG]at h;omega
def JF:TQ dq fq Ns:=
 ac (ag ae) GX (HL)
def Lu:TQ dq sW s_cpFold1:=qft (S:=JN [(fq,Ns)]) (ag (aa JF ae)) rfl
def Lv:TQ dq sX qiq:=
 ac (ag ae) I1 (J8)
def Hq:TQ dq oU qiE:=
 ac (ag (aa Lv ae)) FB (F9 rfl)
def Ln:TQ dq dw qir:=
 ac (ag (aa Hq ae)) ID (JT rfl)
def nS:TQ dq dg qiw:=
 ac (ag (aa Ln ae)) nc (QW rfl)
def ui:TQ dq eV qin:=
 ac (ag (aa nS ae)) sF (QV rfl)
def Jw:TQ dq qX YJ:=
 ac (ag ae) GH (Uu)
def Nb:TQ dq uN qdJ:=
 ac (ag (aa Jw ae)) KF (qbe rfl)
def AL:TQ dq fh qnj:=
 ac (ag (aa Nb (aa ui ae))) zi (Ab rfl rfl)
def AQ:TQ dq fh qeJ:=Ob AL rfl (λ_=>ZP (λ_ h=>by cases h))
def Qu:TQ dq wT Yr:=
 Gg (ag (aa AQ ae)) MK (λ_=>qFE rfl) (NJ rfl)
def qas:TQ dq D9 qia:=
 ac (ag ae) Vh (Xf)
def cV:TQ dq bG ym:=
 gy (ag (aa H5 ae)) DM (λ_=>qFE rfl) (TY rfl)
def FD:TQ dq ng qdk:=
 gy (ag (aa H5 ae)) DL (λ_=>qFE rfl) (TX rfl)
def nU:TQ dq eM UT:=
 gy (ag (aa cV (aa FD ae))) yd (λ_=>qFE rfl) (Hz rfl rfl)
def C7:TQ dq kC qib:=
 gy (ag (aa cV (aa Dn (aa nU ae)))) Bv (λ_=>qFE rfl) (NK rfl rfl rfl)
def EK:TQ dq lK qic:=
 gy (ag (aa cV (aa C7 (aa Qu ae)))) CW (λ_=>qFE rfl) (Q0 rfl rfl rfl)
def FE:TQ dq nh qdl:=
 gy (ag (aa cV (aa qas (aa EK (aa Dn (aa nU ae)))))) DN (λ_=>qFE rfl) (TZ rfl rfl rfl rfl rfl)
def C6:TQ dq kB qh9:=
 gy (ag (aa cV (aa FE ae))) Bu (λ_=>qFE rfl) (NI rfl rfl)
def C8:TQ dq kD qid:=
 gy (ag (aa cV (aa C6 ae))) Bw (λ_=>qFE rfl) (NL rfl rfl)
def EJ:TQ dq lJ qh8:=
 gy (ag (aa cV (aa C8 ae))) CV (λ_=>qFE rfl) (QX rfl rfl)
def EI:∀n,TQ dq tG (qs6 (yN n))
 | 0=>qnf
 |n+1=>qbt (ag (aa (EI n) ae)) O7 (by decide) (QY n rfl)
def Lm:TQ dq sK Yn:=
 ac (ag ae) IC (JS)
def Jt:TQ dq qL Sp:=
 ac (ag (aa Lm ae)) Gs (Hx rfl)
def vz:∀n,TQ dq jo (Gm n)
 | 0=>bH λx h=>by cases h
 |n+1=>ck (ag (aa Jt (aa (vz n) ae))) Fs (λ_=>qFE rfl) (F3 n rfl rfl)
def xU:∀n,TQ dq kR (qbO n)
 | 0=>bH λx h=>by obtain⟨m,h⟩:=h;cases h
 |n+1=>ck (ag (aa (xU n) ae)) Gt (λ_=>qFE rfl) (Hy n rfl)
def AM:TQ dq mB Yp:=
 ac (ag (aa (EI 50) (aa (vz 50) (aa (xU 50) ae)))) IF (JV rfl rfl rfl)
def FY:TQ dq tI Kq:=
 ac (ag (aa qqG (aa EJ (aa AM ae)))) O9 (Q1 rfl rfl rfl)
def FZ:TQ dq tL qdA:=
 ac (ag (aa FY ae)) Pv (Rm rfl)
def Lo:TQ dq sL qnk:=
 ac (ag ae) IE (JU)
def vB:TQ dq ir UU:=
 wk (ag ae) DU (λ_=>qFE rfl) (qqq)
def kM:TQ dq dZ Nr:=
 wk (ag (aa vB ae)) Bz (λ_=>qFE rfl) (qhr rfl)
def Qt:∀n,TQ dq dy (Oz n)/\TQ dq kE (qig n)/\TQ dq fm (qbM n)
 | 0=>⟨UJ,UJ,UJ⟩
 |n+1=>⟨wk (ag (aa (Qt n).1 (aa (Qt n).2.1 (aa kM ae)))) C0 (λ_=>qFE rfl) (qmV n rfl rfl rfl),wk (ag (aa (Qt n).1 (aa (Qt n).2.2 (aa kM (aa vB ae))))) By (λ_=>qFE rfl) (qho n rfl rfl rfl rfl),wk (ag (aa (Qt n).1 (aa (Qt n).2.2 (aa kM ae)))) zl (λ_=>qFE rfl) (qa8 n rfl rfl rfl)⟩
def qat:TQ dq En (qps 50):=
 ac (ag (aa (Qt 50).1 ae)) VB (qAe 50 rfl)
def FF:TQ dq nj qih:=
 ac (ag ae) DV (qmX)
def Ll:TQ dq dv qpr:=
 ac (ag (aa Lu ae)) IB (qaY rfl)
def Na:TQ dq dS qpw:=
 ac (ag ae) Kw (Mj)
def FX:TQ dq tH qim:=
 ac (ag (aa AM (aa Sf (aa qat (aa FF (aa Lo (aa Na (aa Ll ae)))))))) O8 (QZ rfl rfl rfl rfl rfl rfl rfl)
def RZ:TQ dq zt (qdM false):=
 ac (ag (aa FX ae)) Pa (Q2 rfl)
def Ju:TQ dq qM (qdM true):=
 ac (ag (aa FX ae)) Gu (HA rfl)
def R5:TQ dq zC qdz:=
 ac (ag (aa FY (aa RZ (aa Ju ae)))) Pu (Rl rfl rfl rfl)
def CJ:TQ dq cE qiI:=
 ac (ag ae) IR (J1)
def Nd:TQ dq fD Sz:=
 ac (ag (aa CJ ae)) IQ (J0 rfl)
def Hm:TQ dq bO qdm:=
 ac (ag (aa CJ (aa Nd ae))) DS (Fn rfl rfl)
def vA:TQ dq cQ Kp:=
 ac (ag (aa Sf ae)) DR (Fm rfl)
def Ne:TQ dq uR Yu:=
 ac (ag (aa vA ae)) KN (Mw rfl)
def Ho:TQ dq oQ qiA:=
 ac (ag ae) Fy (F5)
def R3:TQ dq zB qiz:=
 ac (ag (aa Ne (aa Ho ae))) Pt (Rk rfl rfl)
def uj:∀n,TQ dq cR (YB n)
 | 0=>bH λx h=>qCC h.1
 |n+1=>ck (ag (aa (uj n) ae)) DW (λ_=>qFE rfl) (De n rfl)
def vC:TQ dq cR OK:=dC (λn=>uj n) (fH (λx h=>h))
def JA:TQ dq ra SC:=
 ac (ag ae) GO (F7)
def AO:TQ dq ci U2:=
 ac (ag ae) zo (Ad)
def vq:TQ dq fB (YN Attr (JN [(ci,U2)])):=
 ac (ag (aa AO ae)) tV (NZ)
def ee:TQ dq bX EX:=
 ac (ag (aa vq ae)) BA (CP (S0:=(JN [(ci,U2)])) rfl rfl)
def yD:TQ dq kU OL:=
 ac (ag (aa ee ae)) GU (HI rfl)
def JE:TQ dq re YI:=
 ac (ag ae) GW (HK)
def ge:TQ dq cY OJ:=
 ac (ag ae) Bq (NX)
def nT:TQ dq bi qbR:=
 ac (ag (aa ge ae)) mL (HN rfl)
def JB:TQ dq rb YA:=
 ac (ag (aa yD (aa ee (aa Hm ae)))) GP (HF rfl rfl rfl)
def JD:TQ dq rc YH:=
 ac (ag (aa JA (aa JB (aa FZ (aa ee (aa qbs (aa vA (aa nT ae)))))))) GV (HJ rfl rfl rfl rfl rfl rfl rfl)
def Co:TQ dq cJ qdI:=
 ac (ag (aa JD ae)) AD (AU rfl)
def yB:∀n,TQ dq iH (Yx n)
 | 0=>bH λx h=>by obtain⟨a,lb,_,h,_⟩:=h;cases h
 |n+1=>ck (ag (aa Co (aa (yB n) ae))) IY (λ_=>qFE rfl) (HE n rfl rfl)
def Lr:TQ dq iH Yw:=dC (λn=>yB n) (fH (λx h=>h))
def mi:TQ dq dz U1:=
 ac (ag (aa vC (aa Lr ae))) C5 (Df rfl rfl)
def FC:TQ dq nf qdy:=
 ac (ag ae) DK (Uw)
def Cm:TQ dq jn qdD:=
 ac (ag (aa FC ae)) Az (Mz rfl)
def EM:TQ dq cw Is:=
 ac (ag (aa Cm ae)) C1 (Dd rfl)
def yh:TQ dq dU (YN Region (JN [(cw,Is)])):=
 ac (ag (aa EM ae)) lD (LB)
def vr:TQ dq bQ (YO Region (JN [(cw,Is)])):=
 ac (ag (aa yh ae)) iR (LC rfl)
def Hp:TQ dq oR qiD:=
 ac (ag (aa vr ae)) Fz (F8 (S0:=(JN [(cw,Is)])) rfl rfl)
def pq:∀n,TQ dq fp (It n)
 | 0=>bH λx h=>by obtain⟨_,y,h⟩:=h;cases h
 | n+1=>
   have a:TQ dq aN (qbQ n):=ac (ag (aa (pq n) ae)) DY (qfl n rfl);have b:TQ dq cT (qix n):=ac (ag (aa a ae)) DX (qfk n rfl);have c:TQ dq fj (YN Cond (JN [(aN,qbQ n),(cT,qix n)])):=ac (ag (aa a (aa b ae))) nH (Sb);have d:TQ dq bI (YO Cond (JN [(aN,qbQ n),(cT,qix n)])):=ac (ag (aa c ae)) kP (Sc rfl)
   ac (ag (aa a (aa d (aa yD (aa JE (aa R5 (aa ee (aa R3 (aa ge (aa Hp ae)))))))))) GT (qmQ (S0:=(JN [(aN,qbQ n),(cT,qix n)])) n rfl rfl rfl rfl rfl rfl rfl rfl rfl rfl rfl)
def CL:TQ dq oa uq:=
 ac (ag ae) KO (My)
def kY:TQ dq cW gA:=
 ac (ag (aa CL ae)) GY (HM rfl)
def Cp:TQ dq mF vD:=
 ac (ag ae) RR (Ut)
def EH:TQ dq lI qiF:=
 ac (ag (aa kY ae)) CT (qqv rfl)
def Nc:TQ dq nZ s_cmpM:=
 ac (ag (aa kY (aa EH (aa Cp ae)))) KH (qqu rfl rfl rfl)
def Nf:TQ dq jR SF:=
 ac (ag ae) AC (qfn)
def Lt:TQ dq sV qdw:=
 ac (ag (aa (pq 21) ae)) I0 (qmO rfl)
def Cn:TQ dq dN qit:=
 ac (ag ae) pz (qqo)
def qwc:Tri dq Tryz.prog dN b_masg.pt:=XU rfl (Ao (ag ae) pz (λ_=>qFE rfl) (qmJ)) λy c hc=>by
 simp at hc;subst hc;exact PX _
def Jy:TQ dq kS qqZ:=
 ac (ag (aa Cn (aa Lt (aa ge ae)))) GJ (qqm rfl rfl rfl)
def qwa:Tri dq Tryz.prog kS b_mtok.pt:=LG Jy λz=>by
 obtain⟨s,v⟩:=z;simp only[qvA];refine ZP λd a=>?_
 simp only[qFK,qGd,or_false]at a;rcases a with rfl|rfl
 ·exact qkt λd a=>by
   simp only[qFK,qGd,or_false]at a;rcases a with rfl|rfl|rfl|rfl<;>exact PX _
 ·exact PX _
def EL:TQ dq cv In:=
 ac (ag ae) CZ (qmK)
def Hl:TQ dq jq qq0:=
 have h1:TQ dq dU (YN Region (JN [(cv,In)])):=ac (ag (aa EL ae)) lD (LB);have h2:TQ dq bQ (YO Region (JN [(cv,In)])):=ac (ag (aa h1 ae)) iR (LC rfl)
 ac (ag (aa h2 ae)) Fu (qqp (S0:=JN [(cv,In)]) rfl rfl)
def qwd:Tri dq Tryz.prog jq b_manc.pt:=LG Hl λ_=>PX _
def Ww:TQ dq BV qdu:=
 ac (ag ae) RO (qmH)
def Wx:Tri dq Tryz.prog yw clC.pt:=qfy Tryz.cloneSet rfl (fu Tryz.func219 (by kernel_rfl) rfl)
def Lq:TQ dq sS qis:=
 qbw (ag ae) IS (λ_=>qFE rfl) (qqn)
def qi3:TQ dq dM (Ss 0):=pP λd ds H K h=>by
 obtain⟨id,b',x,z,a,h1,h2,h3,h4,h5,h6,c⟩:=h;obtain⟨_,_,_,q,_,b,_⟩:=h6;rw[Nu]at b;omega
def qeF:∀n,TQ dq dM (Ss n)
 | 0=>qi3
 | n+1=>
   have h1:TQ dq mD (qbP n):=Gf (ag (aa (qeF n) ae)) IP (λ_=>qFE rfl) (qqr n rfl);have h2:TQ dq oP (qpu n):=Gf (ag (aa Ww (aa h1 (aa (qeF n) (aa Wx (aa Lq ae)))))) Ft (λ_=>qFE rfl) (qtV n rfl rfl rfl rfl rfl)
   Gf (ag (aa qwa (aa qwd (aa h1 (aa (qeF n) (aa h2 ae)))))) GK (λ_=>qFE rfl) (qmF n rfl rfl rfl rfl rfl)
def qss:TQ dq pD (qbN nZ An):=qfw Tryz.sortMatch rfl (λw=>Tryz.isAgg69 w) (λw=>Tryz.sizeOf69 w) rfl Nc (fu Tryz.func97 (by kernel_rfl) rfl) (fu Tryz.func96 (by kernel_rfl) rfl)
def qb5{p:Pat}(h:cg p<=0):False:=by rw[Nu]at h;omega
def Cu:TQ dq cE tT:=
 ac (ag ae) KJ (Mu)
def MF:TQ dq fD Iq:=
 ac (ag (aa Cu ae)) KI (Mt rfl)
def iW:TQ dq bO wn:=
 ac (ag (aa Cu (aa MF ae))) Fv (F4 rfl rfl)
def UC:TQ dq BU qh7:=
 ac (ag ae) RI (Uk)
def UD:TQ dq mC UX:=
 ac (ag (aa UC ae)) RK (Un rfl)
def Rt:TQ dq dH EW:=
 ac (ag (aa iW ae)) Pi (Ra rfl)
def N1:TQ dq dh Aq:=
 ac (ag ae) MP (NP)
def qg9:Nat->Spc:=JN [(mC,UX),(dH,EW),(dh,Aq)]
def qEU(n:Nat):Nat->Spc:=JN [(gL,qii n)]
def qle{S:Nat->Spc}(h:∀f,TQ dq f (S f)):TQ dq aV (U3 S):=
 ac (ag (aa (ac (S:=S) h vG wh) ae)) sH (tO rfl)
def Cy:∀n,TQ dq jO (Sr n)
 | 0=>bH λx h=>qb5 h.1
 | n+1=>
   have h1:TQ dq gL (qii n):=ac (ag (aa (Cy n) ae)) GE (HC n rfl)
   ac (ag (aa (qle (S:=qEU n) (ag (aa h1 ae))) ae)) KA (Mm (S0:=qEU n) n rfl rfl)
def MD:TQ dq jO OA:=
 dC (λn=>Cy n) (fH (λx h=>⟨cg x.1,qFH _,h⟩))
def qDu(n:Nat):Nat->Spc:=JN [(jQ,qiC qg9 n)]
def qDt(n:Nat):Nat->Spc:=JN [(aV,U3 (qDu n)),(mC,UX),(dH,EW),(dh,Aq)]
def qnN(n:Nat)(d:D)(f:Pat->Bool)(h:FunIs qg9 d f):FunIs (qDt n) d f:=by
 obtain⟨g,c,k,a,b,e⟩:=h;refine⟨g,c,k,a,?_,e⟩;by_cases j:g=aV
 ·subst j;have:qg9 aV=Spc.none:=rfl;rw[this]at b;cases b
 ·rw[<-b];unfold qDt qg9;rw[JN,if_neg j]
def FQ:∀n,TQ dq fN (qdB qg9 n)
 | 0=>bH λx h=>by obtain⟨f,h1,h2⟩:=h;exact qb5 h2
 | n+1=>
   have h1:TQ dq jQ (qiC qg9 n):=ac (ag (aa (FQ n) ae)) KC (Mp (S0:=qg9) n rfl)
   ac (S:=qDt n) (ag (aa (qle (S:=qDu n) (ag (aa h1 ae))) (aa UD (aa Rt (aa N1 ae))))) Pj (Rb (S0:=qDu n) (N:=qg9) n (qnN n) rfl rfl)
def tw:TQ dq fN (Du qg9):=
 dC (λn=>FQ n) (fH (λx h=>by obtain⟨f,h⟩:=h;exact⟨cg x.1,f,h,qFH _⟩))
def yL:TQ dq nP Nt:=
 ac (ag (aa MD (aa tw ae))) Pn (Rh (N:=qg9) rfl rfl rfl)
def tv:TQ dq gZ cB:=
 ac (ag (aa yL (aa tw ae))) Ph (Q8 (N:=qg9) rfl rfl rfl rfl)
def Iz:∀n,TQ dq gK (UV n)
 | 0=>bH λx h=>qb5 h.1
 |n+1=>ck (ag (aa (Iz n) ae)) RJ (λ_=>qFE rfl) (Ul n rfl)
def AX:TQ dq gK EU:=
 dC (λn=>Iz n) (fH (λx h=>⟨cg x,qFH _,h⟩))
def DJ:∀n,TQ dq lN (Yz n)
 | 0=>bH λx h=>h
 |n+1=>ck (ag (aa (DJ n) ae)) MQ (λ_=>qFE rfl) (NS n rfl)
def N3:TQ dq lN SE:=
 dC (λn=>DJ n) (fH (λx h=>h))
def FH:TQ dq tJ UZ:=
 ac (ag (aa N3 ae)) Pk (Rc rfl)
def DH:∀n,TQ dq dK (Tj n)
 | 0=>pP λd ds H K ⟨id,v,l,a,x,h1,h2,h3,h4,h5⟩=>qb5 h4.1
 |n+1=>AY (ag (aa (DH n) (aa FH ae))) Cz (by decide) (NQ n rfl rfl)
def Ah:Tri dq Tryz.prog dK i_leavesQA.pt:=dC (λn=>DH n) λd ds H K ⟨id,v,l,a,x,h1,h2,h3,h4,h5⟩=>⟨cg x,id,v,l,a,x,h1,h2,h3,⟨qFH _,h4⟩,h5⟩
def wi:Tri dq Tryz.prog dK s_leavesQ.pt:=Oa (Ao (ag (aa Ah (aa FH ae))) Cz (λ_=>qFE rfl) (Mn rfl rfl)) Ah
def qhG:Tri dq Tryz.prog bi s_has2.pt:=
 have h:Tri dq Tryz.prog bi s_hasE.pt:=ac (ag (aa ge ae)) mL (F2 rfl)
 Oa h (Ob h rfl λ_=>PX _)
def DI:∀n,TQ dq ct (Zy n)
 | 0=>pP λd ds H K ⟨id,v,l,a,x,h1,h2,h3,h4,h5⟩=>qb5 h4.1
 |n+1=>AY (ag (aa qhG (aa (DI n) ae))) CA (by decide) (NR n rfl rfl)
def Ai:Tri dq Tryz.prog ct i_labelsA.pt:=dC (λn=>DI n) λd ds H K ⟨id,v,l,a,x,h1,h2,h3,h4,h5⟩=>⟨cg x,id,v,l,a,x,h1,h2,h3,⟨qFH _,h4⟩,h5⟩
def lc:Tri dq Tryz.prog ct s_qlabels.pt:=Oa (Ao (ag (aa qhG (aa Ai ae))) CA (λ_=>qFE rfl) (Mo rfl rfl)) Ai
def N4:TQ dq xb Dt:=
 ac (ag (aa tv (aa lc ae))) MS (NU rfl rfl)
def Wv:TQ dq qU qio:=
 ac (ag ae) FT (Um)
def R1:TQ dq nO qdL:=
 ac (ag (aa Wv ae)) DQ (Rg rfl)
def yi:TQ dq cN qiO:=
 ac (ag ae) lE (xZ)
def jV:TQ dq aY qbT:=
 ac (ag (aa yi ae)) iS (un rfl)
def Dl:TQ dq eX qiG:=
 ac (ag (aa yL (aa tw (aa AX (aa lc (aa jV ae)))))) rW (qqw (N:=qg9) rfl rfl rfl rfl rfl rfl rfl)
def Jv:TQ dq gM qdG:=
 ac (ag ae) wP (qmT)
def Lp:TQ dq eA qiH:=
 ac (ag (aa Jv ae)) yo (qqx rfl)
def Kg:TQ dq eB qqY:=
 ac (ag (aa Dl (aa lc (aa wi (aa mi (aa jV (aa R1 (aa Lp ae)))))))) yp (qqk rfl rfl rfl rfl rfl rfl rfl)
def UF:TQ dq BW qdv:=
 ac (ag (aa Nf (aa N4 (aa (qeF 101) (aa qwc (aa qss ae)))))) RP (qmI rfl rfl rfl rfl rfl)
def fO:TQ dq dx OF:=
 dQ (ag ae) II (λ_=>qFE rfl) (qtX)
def uo:TQ dq jN qnl:=
 dQ (ag (aa fO ae)) Kx (λ_=>qFE rfl) (qAd rfl)
def iv:TQ dq ez SA:=
 dQ (ag (aa uo ae)) IJ (λ_=>qFE rfl) (qtZ rfl)
def HV:TQ dq qP qif:=
 dQ (ag (aa fO ae)) Gx (λ_=>qFE rfl) (qqh rfl)
def HY:TQ dq qS qiy:=
 dQ (ag (aa iv ae)) GB (λ_=>qFE rfl) (qqt rfl)
def HW:TQ dq qQ qip:=
 dQ (ag ae) Gy (λ_=>qFE rfl) (qql)
def Fo:TQ dq ni OM:=
 dQ (ag (aa fO (aa HW ae))) DO (λ_=>qFE rfl) (qhu rfl rfl)
def HX:TQ dq qR qiv:=
 dQ (ag (aa fO (aa iv (aa HV (aa HY ae))))) Gz (λ_=>qFE rfl) (qqs rfl rfl rfl rfl)
def Ke:TQ dq sO qpv:=
 dQ (ag (aa fO (aa iv (aa HX ae)))) IH (λ_=>qFE rfl) (qtW rfl rfl rfl)
def Kb:TQ dq sM qpt:=
 dQ (ag (aa Fo (aa Ke ae))) IG (λ_=>qFE rfl) (qtU rfl rfl)
def Kf:TQ dq sP qpx:=
 dQ (ag (aa iv (aa Kb ae))) IK (λ_=>qFE rfl) (qt0 rfl rfl)
def N0:TQ dq wV tT:=
 ac (ag ae) ML (qbc)
def Rq:TQ dq zu Sy:=
 ac (ag ae) Pc (qfj)
def XJ:TQ dq Eb qdo:=
 ac (ag ae) Vl (qmE)
def qbn:TQ dq Hd qij:=
 ac (ag (aa N0 (aa Rq (aa XJ ae)))) Y0 (qqi rfl rfl rfl)
def HU:TQ dq qO qie:=
 dQ (ag (aa uo ae)) Gw (λ_=>qFE rfl) (qqg rfl)
def Rr:TQ dq zw qdn:=
 ac (ag ae) Pd (qfm)
def XN:TQ dq pE s_Parse:=
 ac (ag (aa qbn (aa Kf (aa iv (aa Rr (aa HU (aa uo (aa fO ae)))))))) Vp (qmW rfl rfl rfl rfl rfl rfl rfl)
end
section
open Go.Proofs
def xP:CC:=gq Tryz.f52 [2006006] { cu:=[1] } _
def wH:List aj:=[.cell 6 true 7]
def Pq:FO zz [2006006] xP wH 28:=fo
def vj:CC:=gq Tryz.f100 [2006006,2006006,2083008,2082008] { cu:=[2,4,6,18,21,24] } _
def uE:List aj:=[.cell 6 true 7]
def MV:FO lO [2006006,2006006,2083008,2082008] vj uE 110:=fo
def rH:CC:=gq Tryz.f19 [2006006] { cu:=[2,4,7] } _
def ql:List aj:=[.cell 6 true 13]
open Cod (enc dec)
variable {S S0:Nat->Spc}
abbrev Ar:Spc:=aG (a1 Int) ca (enc (X:=B)) (λ_ y=>y∈Types)
def qfg(h1:S yx=s_m_Mod):ak AK Au S (a1 Int) ca (enc (X:=B)) (λ_ y=>y∈Types):=by
 rintro n -;simp[AK,Au,h1];have h3:=Py n 3 (by omega);refine⟨h3.1,h3.2,?_⟩;have:KU n 3=0\/KU n 3=1\/KU n 3=2:=by omega
 rcases this with h|h|h<;>simp[h,Types,qzF,qo1,qzE]
def TN(n:Nat)(x:List Int×Int×List B):Prop:=x.2.1.toNat<n/\ -10<=x.2.1/\x.2.1<=100/\x.2.2.length<=1000
def gH{q:Cond->Prop}{H:ab}{op:Int}{n a v l:B}{f:Bool}{d:D}(ks:List Cond)(h:FrzTo H d (enc ks))(j:q ⟨op,n,a,v,l,f,ks⟩):Fin enc q (.agg [.v (.int .i64 op), .v (.string n), .v (.string a), .v (.string v), .v (.string l), .v (.bool f),d]) H:=by
 refine aL (⟨op,n,a,v,l,f,ks⟩:Cond) ?_ j;rw[qkJ];refine .agg rfl λk x y b c=>?_
 rcases k with _|_|_|_|_|_|_|k
 ·cases b;cases c;exact .same _
 ·cases b;cases c;exact .same _
 ·cases b;cases c;exact .same _
 ·cases b;cases c;exact .same _
 ·cases b;cases c;exact .same _
 ·cases b;cases c;exact .same _
 ·cases b;cases c;exact h
 ·simp at b
def qud(a b c d e f g h:B):D.list 1 [.v (.string a), .v (.string b), .v (.string c), .v (.string d), .v (.string e), .v (.string f), .v (.string g), .v (.string h)]= .list 1 (X7 [a,b,c,d,e,f,g,h]):=i' rfl
def qpm(a b c d:B):D.list 1 [.v (.string a), .v (.string b), .v (.string c), .v (.string d)]= .list 1 (X7 [a,b,c,d]):=i' rfl
theorem Fa{q:Pat->Prop}{H:ab}{op o:Int}{n a v l lb rg:B}{f:Bool}{j d:D}{mn mx:Int}(h:List Cond)(ks:List Pat)(hc:FrzTo H j (enc h))(p:FrzTo H d (enc ks))(r:q ⟨op,⟨o,n,a,v,l,f,h⟩,lb,rg,mn,mx,ks⟩):
 Fin enc q (.agg [.v (.int .i64 op), .v (.int .i64 o), .v (.string n), .v (.string a), .v (.string v), .v (.string l), .v (.bool f),j, .v (.string lb), .v (.string rg), .v (.int .i64 mn), .v (.int .i64 mx),d]) H:=by
 refine aL (⟨op,⟨o,n,a,v,l,f,h⟩,lb,rg,mn,mx,ks⟩:Pat) ?_ r;rw[Wl];refine .agg rfl λk x y b c=>?_
 rcases k with _|_|_|_|_|_|_|_|_|_|_|_|_|k
 ·cases b;cases c;exact .same _
 ·cases b;cases c;exact .same _
 ·cases b;cases c;exact .same _
 ·cases b;cases c;exact .same _
 ·cases b;cases c;exact .same _
 ·cases b;cases c;exact .same _
 ·cases b;cases c;exact .same _
 ·cases b;cases c;exact hc
 ·cases b;cases c;exact .same _
 ·cases b;cases c;exact .same _
 ·cases b;cases c;exact .same _
 ·cases b;cases c;exact .same _
 ·cases b;cases c;exact p
 ·simp at b
def qeV(n:Nat)(x:List Int×Int×List B):Prop:=x.2.1.toNat<n/\ -10<=x.2.1/\x.2.1<=100/\x.2.2.length<=1000
def qwk(x:List Int×Int×List B)(p:Pat):Prop:=WP x.2.2 x.2.1.toNat p/\PD x.2.1.toNat p
end
end Go.Gv
