/- A part of the framework and of the walks: W190 V65 W188 W189. -/
import Derived.Test.YtphdikcommfnhaaGreatDoorGg43
import Derived.Test.YtphdikcommfnhaaGreatDoorGg25
import Derived.Test.YtphdikcommfnhaaGreatDoorGg29
import Derived.Test.YtphdikcommfnhaaGreatDoorGg37
import Derived.Test.YtphdikcommfnhaaGreatDoorGg38
import Derived.Test.YtphdikcommfnhaaGreatDoorGg41
import Derived.Test.YtphdikcommfnhaaGreatDoorGg42
import Derived.Test.YtphdikcommfnhaaGreatDoorGg36
set_option linter.unusedSimpArgs false
set_option linter.unusedVariables false
set_option linter.unusedSectionVars false
set_option maxRecDepth 100000

namespace Go.Gv
open Cod (enc dec)
variable {S S0:Nat->Spc}
theorem UH{σ:Sg}{H:ab}{k j b el n:Nat}{cs cs':List D}(hkj:j≠k)(hk:H k=some (.box b cs))(hl:cs.length=cs'.length)(hc:∀ (m:Nat) (c c':D),cs[m]? =some c->cs'[m]? =some c'->FrzTo bB c c'):
 Wk σ H σ (ah (ah H k (some (.box b cs'))) j (some (.row (.slice none 0 0) el n []))):=by
 refine Xa (Hf:=bB) id (fun t=> .same _) (fun i r h=>?_) (fun i j r s _ _ e=> .inl e) (fun i r h=>by simp[bB]at h)
 by_cases e:i=j
 ·subst e
  simp[ah]at h
  subst h
  exact .inr ⟨rfl,rfl⟩
 ·by_cases e2:i=k
  ·subst e2
   simp[ah,e]at h
   subst h
   exact .inl ⟨_,hk, .inr ⟨rfl,hl,hc⟩⟩
  ·simp only[ah,e,e2,if_false]at h
   exact .inl ⟨r,h, .inl rfl⟩
def FR:Nat->Cond->Prop
 | 0,_=>False
 | n+1,x=>x.kids.length<=1000000/\∀k∈x.kids,FR n k
abbrev Oy(n:Nat):Spc:=aS (a1 Cond) (FR n) (enc (X:=Cond)) fun x y=>y=x
theorem Gy(n:Nat)(h1:S iQ=Oy n):aq qp pQ S (a1 Cond) (FR (n+1)) (enc (X:=Cond)) fun x y=>y=x:=by
 rintro⟨op,name,arg,val,lab,fold,kids⟩ ⟨hlen,hk⟩
 simp only at hlen hk
 simp[qp,pQ]
 intro b2 b3 hkl
 refine DI (UH (k:=3) (j:=20) (b:=b3) (el:=LO) (n:=7) (cs':=[.v (.int .i64 op), .v (.string name), .v (.string arg), .v (.string val), .v (.string lab), .v (.bool fold), .own 20 (.slice none 0 0)]) (by decide) (by simp;rfl) (by simp) ?_) ?_
 ·intro m c c' hc hc'
  match m with
  | 0|1|2|3|4|5=>simp at hc hc';subst hc;subst hc';exact .same _
  | 6=>simp at hc hc';subst hc;subst hc';exact .nilown _
  | m+7=>simp at hc
 refine ai (X:=Value×List Cond) [2,9] [2] kids.length (fun k x=>x.2=kids.take k) (fun x=>[(3, .bptr 3 b3 0)]) (fun x=>[(3, .box b3 [.v (.int .i64 op), .v (.string name), .v (.string arg), .v (.string val), .v (.string lab), .v (.bool fold), .own 20 x.1]),(20, .row x.1 LO 7 (x.2.map enc))]) (.slice none 0 0, []) (by simp) (by simp) (by omega) (by simp) (by simp) (by simp) (by simp) (by simp) ?_ ?_
 ·rintro k ⟨v,m⟩ hkl' hm
  simp only at hm
  obtain⟨x,hx⟩:=dM hkl'
  obtain⟨_,hgx⟩:=qtG.1 hx
  have hx1:=hk x (dO hx)
  have hml:m.length=k:=by rw[hm,qug];omega
  simp[h1,hkl',hx,hgx,hx1]
  refine⟨by omega,by omega,fun v=> .inl (.inl ?_)⟩
  rw[hm,List.map_take,qvF]
  simp[hx]
 ·rintro⟨v,m⟩ hm
  simp only at hm
  rw[quj]at hm
  subst hm
  simp
  refine cB (Y:=Cond) ⟨op,name,arg,val,lab,fold,m⟩ ?_ rfl
  simp
  refine .agg (by simp) fun i c c' h h'=>?_
  match i with
  | 0|1|2|3|4|5=>simp at h h';subst h;subst h';exact .same _
  | 6=>simp at h h';subst h;subst h';exact gP LO (by simp)
  | i+7=>simp at h
theorem qtu{H:ab}{l l':List D}(h:FzL H l l'):FrzTo H (.agg l) (.agg l'):= .agg h.get.1 h.get.2
abbrev Kt:Spc:=aS (a1 Cond) (fun x=>∃n,FR n x) (enc (X:=Cond)) fun x y=>y=x
def ug(p:Pat):Pat:=⟨p.op,p.cond,p.lab,⟨#[]⟩,0,0, []⟩
abbrev L5:Spc:=aS (a1 Pat) (fun p=>∃n,FR n p.cond) (enc (X:=Pat)) fun x y=>y=ug x
theorem Jk(h1:S iQ=Kt):aq sr rv S (a1 Pat) (fun p=>∃n,FR n p.cond) (enc (X:=Pat)) fun x y=>y=ug x:=by
 rintro p hp
 simp[sr,rv,h1,hp]
 intro b
 refine cB (Y:=Pat) (ug p) ?_ rfl
 unfold ug
 simp
 refine qtu ?_
 simp
def cE(p:Pat):List Pat:=(aC p).map ug
theorem wb(p:Pat):cE p=if p.op=1 then[ug p]else p.kids.flatMap cE:=by
 unfold cE
 rw[cm]
 split
 ·rfl
 ·rw[List.map_flatMap]
def PLc(p:Pat):Prop:=∀y∈aC p,∃n,FR n y.cond
theorem PLc.kid{p k:Pat}(h:PLc p)(hne:¬p.op=1)(hk:k∈p.kids):PLc k:=fun y hy=>h y (by rw[cm,if_neg hne];exact quM.2 ⟨k,hk,hy⟩)
theorem Zc{ks:List Pat}{k:Nat}{x:Pat}(l:List Pat)(hx:ks[k]? =some x):(l++ (ks.take k).flatMap cE) ++cE x=l++ (ks.take (k+1)).flatMap cE:=by
 rw[bM hx,qwe,List.flatMap_singleton,qut]
def qeQ(x:Pat)(l:List Pat):Prop:=l.length+ (aC x).length<=100000000/\PLc x
theorem qgc(ks:List Pat):(ks.flatMap cE).length=(ks.flatMap aC).length:=by
 induction ks with
 | nil=>rfl
 | cons k ks ih=>simp only[quq,qt4,ih];unfold cE;simp
theorem Zb{ks:List Pat}{k:Nat}{x:Pat}{l:List Pat}(hx:ks[k]? =some x)(h:l.length+ (ks.flatMap aC).length<=100000000)(hc:PLc x):qeQ x (l++ (ks.take k).flatMap cE):=by
 have:=qgb hx h
 unfold qrt at this
 refine⟨?_,hc⟩
 simp only[qt4]at this ⊢
 rw[qgc]
 exact this
abbrev KX(n:Nat):Spc:=qhX (X:=Pat) (Y:=Pat) (fun x l=>fe x<=n/\qeQ x l) (fun x l r=>r=l++cE x) fH 13
abbrev i_leavesQA:Spc:=qhX (X:=Pat) (Y:=Pat) (fun x l=>qeQ x l) (fun x l r=>r=l++cE x) fH 13
theorem Gw(n:Nat)(h1:S dA=KX n)(h2:S oY=L5):Sr (X:=Pat) (Y:=Pat) gA gp S (fun x l=>fe x<=n+1/\qeQ x l) (fun x l r=>r=l++cE x) fH 13:=by
 rintro v l p ⟨hp,hl,hc⟩
 have hk:∀k∈p.kids,fe k<=n:=fun k hk=>by have:=jZ hk;have:fe p<=n+1:=hp;omega
 have hl':=hl
 rw[cm]at hl'
 simp[gA,gp,h2]
 refine⟨fun h1=>?_,fun hne _=>?_⟩
 ·have hcc:∃n,FR n p.cond:=hc p (by rw[cm,if_pos h1];simp)
  simp[h1]at hl'
  exact⟨hcc,by omega,by omega,fun v=>te (l++cE p) (by simp[wb,h1]) rfl⟩
 rw[if_neg hne]at hl'
 refine ai (X:=Value×List Pat) [16] [] p.kids.length (fun k x=>x.2=l++ (p.kids.take k).flatMap cE) (fun x=>[(1, .own 1 x.1)]) (fun x=>[(1, .row x.1 fH 13 (x.2.map enc))]) (v,l) (by simp) (by simp) (by omega) (by simp) (by simp) (by simp) (by simp) (by simp[isNilRow]) ?_ ?_
 ·rintro k ⟨v,m⟩ hkl hm
  simp only at hm
  obtain⟨x,hx⟩:=dM hkl
  have hx1:=dO hx
  obtain⟨_,hgx⟩:=qtG.1 hx
  have q1:=Zb hx hl' (hc.kid hne hx1)
  rw[<-hm]at q1
  have q2:=hk x hx1
  simp[h1,hkl,hx,hgx,q1,q2]
  intro v'
  refine .inl ?_
  rw[hm,Zc _ hx]
 ·rintro⟨v,m⟩ hm
  simp only at hm
  rw[quj]at hm
  simp
  refine te m (by simp) ?_
  rw[hm,wb,if_neg hne]
abbrev Wq:Spc:=qjY (Y:=Pat) (aE Pat (aD a0)) (fun x=>x.2.1=YY/\qeQ x.1 []) (fun x r=>r=cE x.1) fH 13
theorem Fp(h1:S dA=i_leavesQA)(h2:S oY=L5):Up (Y:=Pat) gA gp S (aE Pat (aD a0)) (fun x=>x.2.1=YY/\qeQ x.1 []) (fun x r=>r=cE x.1) fH 13:=by
 rintro⟨p,d,⟨⟩⟩ ⟨hd,hl,hc⟩
 have hd:d=YY:=hd
 subst hd
 have hl':([]:List Pat).length+ (aC p).length<=100000000:=hl
 rw[cm]at hl'
 simp[gA,gp,h2]
 refine⟨fun h1=>⟨hc p (by rw[cm,if_pos h1];simp),fun v=>te (cE p) (by simp[wb,h1]) rfl⟩,fun hne _=>?_⟩
 rw[if_neg hne]at hl'
 refine ai (X:=Value×List Pat) [16] [] p.kids.length (fun k x=>x.2=[] ++ (p.kids.take k).flatMap cE) (fun x=>[(1, .own 1 x.1)]) (fun x=>[(1, .row x.1 fH 13 (x.2.map enc))]) (.slice none 0 0, []) (by simp) (by simp) (by omega) (by simp) (by simp) (by simp) (by simp) (by simp[isNilRow]) ?_ ?_
 ·rintro k ⟨v,m⟩ hkl hm
  simp only at hm
  obtain⟨x,hx⟩:=dM hkl
  have hx1:=dO hx
  obtain⟨_,hgx⟩:=qtG.1 hx
  have q1:=Zb hx hl' (hc.kid hne hx1)
  rw[<-hm]at q1
  simp[h1,hkl,hx,hgx,q1]
  intro v'
  refine .inl ?_
  rw[hm,Zc _ hx]
  rfl
 ·rintro⟨v,m⟩ hm
  simp only at hm
  rw[quj]at hm
  simp
  refine te m (by simp) ?_
  rw[hm,wb,if_neg hne]
  rfl
abbrev s_leavesQ:Spc:=qje Wq i_leavesQA
def lu(out:List B)(x:B):List B:=if x=E0 then out else EO out x
mutual
def aw:Pat->List B->List B
 | .mk op c l r mn mx ks,out=>H7 ks (lu out l)
def H7:List Pat->List B->List B
 | [],out=>out
 | k::ks,out=>H7 ks (aw k out)
end
theorem Fd:∀ (l:List Pat) (out:List B),H7 l out=l.foldl (fun o k=>aw k o) out
 | [],out=>by rw[H7];rfl
 | k::l,out=>by rw[H7,Fd l];rfl
theorem gu(p:Pat)(out:List B):aw p out=p.kids.foldl (fun o k=>aw k o) (lu out p.lab):=by
 cases p;rw[aw,Fd]
theorem IU(out:List B)(x:B):(lu out x).length<=out.length+1:=by
 unfold lu EO
 split
 ·omega
 ·split
  ·omega
  ·simp
theorem VX(p:Pat):∀out,(aw p out).length<=out.length+pY p:=by
 induction p using kw with|_ p ih=>?_
 intro out
 rw[gu,sW]
 have:∀ (ks:List Pat) (o:List B),(∀k∈ks,k∈p.kids)->(ks.foldl (fun o k=>aw k o) o).length<=o.length+eP ks:=by
  intro ks
  induction ks with
  | nil=>intro o _;simp[eP]
  | cons k ks ihk=>
    intro o hk
    rw[quR,eP]
    have h1:=ihk (aw k o) fun z hz=>hk z (by simp[hz])
    have:=ih k (hk k (by simp)) o
    omega
 have h1:=this p.kids (lu out p.lab) fun _ h=>h
 have h2:=IU out p.lab
 omega
theorem KR(ks:List Pat)(k:Nat)(lb:List B):((ks.take k).foldl (fun o k=>aw k o) lb).length<=lb.length+eP (ks.take k):=by
 generalize ks.take k=l
 induction l generalizing lb with
 | nil=>simp[eP]
 | cons a l ih=>
   rw[quR,eP]
   have h1:=ih (aw a lb)
   have h2:=VX a lb
   omega
def Zv(l:List B)(x:B):Bool:=l.any fun z=>decide (z=x)
theorem Ic{l:List B}{x:B} :Zv l x=true↔x∈l:=by
 unfold Zv
 rw[quN]
 exact⟨fun⟨z,h1,h2⟩=>by rw[decide_eq_true_eq]at h2;rwa [<-h2],fun h=>⟨x,h,decide_eq_true rfl⟩⟩
abbrev s_hasE:Spc:=aS (aE (List B) (a1 B)) (fun _=>True) (enc (X:=Bool)) fun x y=>y=Zv x.1 x.2
abbrev qkJ:Spc:=qnP (Y:=B) (a1 B) (fun _=>True) (enc (X:=Bool)) (fun x y=>y=Zv x.1 x.2) ay 1
theorem Ay(h1:S bZ=G9):aq bS bQ S (aE (List B) (a1 B)) (fun _=>True) (enc (X:=Bool)) fun x y=>y=Zv x.1 x.2:=by
 rintro⟨l,x⟩ -
 simp[bS,bQ,h1]
 exact tb _ l
abbrev s_has2:Spc:=qje s_hasE qkJ
def WN(x:Pat)(l:List B):Prop:=l.length+pY x<=1000000
def qkU(x:Pat)(l r:List B):Prop:=r=aw x l
abbrev Pc(n:Nat):Spc:=qhX (X:=Pat) (Y:=B) (fun x l=>fe x<=n/\WN x l) qkU ay 1
abbrev i_labelsA:Spc:=qhX (X:=Pat) (Y:=B) WN qkU ay 1
theorem Gx(n:Nat)(h0:S aP=s_has2)(h1:S cj=Pc n):Sr (X:=Pat) (Y:=B) gB gr S (fun x l=>fe x<=n+1/\WN x l) qkU ay 1:=by
 rintro v lb p ⟨hd,hl⟩
 have hk:∀k∈p.kids,fe k<=n:=fun k h=>by have:=jZ h;have:fe p<=n+1:=hd;omega
 have hl:lb.length+pY p<=1000000:=hl
 have hpn:=sW p
 simp[gB,gr,h0]
 refine ba (X:=Value) [2] [] (fun _=>True) (fun v=>[(1, .own 1 v)]) (fun v=>[(1, .row v ay 1 ((lu lb p.lab).map enc))]) ?_ ?_
 ·simp[h0, -Bool.forall_bool]
  refine⟨fun hn=>?_,fun he=>?_⟩
  ·have hn:¬p.lab=E0:=hn
   refine .inr ⟨fun hf=>⟨by omega,by omega,fun v=> .inl ?_⟩,fun ht=> .inl ?_⟩
   ·rw[lu,if_neg hn,EO,if_neg (fun h=>by rw[Ic.2 h]at hf;cases hf)]
    simp
   ·rw[lu,if_neg hn,EO,if_pos (Ic.1 ht)]
  ·have he:p.lab=E0:=he
   refine .inl ?_
   rw[lu,if_pos he]
 ·rintro v -
  have hae:=IU lb p.lab
  simp
  intro hkl
  refine ai (X:=Value×List B) [23] [] p.kids.length (fun k x=>x.2=(p.kids.take k).foldl (fun o k=>aw k o) (lu lb p.lab)) (fun x=>[(1, .own 1 x.1)]) (fun x=>[(1, .row x.1 ay 1 (x.2.map enc))]) (v,lu lb p.lab) (by simp) (by simp) (by omega) (by simp) (by simp) (by simp) (by simp) (by simp) ?_ ?_
  ·rintro k ⟨v,ls⟩ hkk hls
   simp only at hls
   obtain⟨x,hx⟩:=dM hkk
   obtain⟨_,hgx⟩:=qtG.1 hx
   have hq:WN x ls:=by
    have h2:=KR p.kids k (lu lb p.lab)
    rw[<-hls]at h2
    have h4:eP (p.kids.take k) +eP (p.kids.drop k)=eP p.kids:=by rw[<-KD,qus]
    rw[mQ hx,eP]at h4
    show ls.length+pY x<=_
    omega
   have hq2:=hk x (dO hx)
   simp[hkk,hx,hgx,h1,hq,hq2]
   intro v' l' hy
   obtain rfl:l'=aw x ls:=hy
   refine .inl ?_
   rw[bM hx,qwt,<-hls]
   rfl
  ·rintro⟨v,ls⟩ hls
   simp only at hls
   rw[quj]at hls
   simp
   refine te ls (by simp) ?_
   show ls=aw p lb
   rw[gu,hls]
abbrev ZS:Spc:=qjY (Y:=B) (aE Pat (aD a0)) (fun x=>x.2.1= .v (.slice none 0 0)/\WN x.1 []) (fun x r=>qkU x.1 [] r) ay 1
theorem Fq(h0:S aP=s_has2)(h1:S cj=i_labelsA):Up (Y:=B) gB gr S (aE Pat (aD a0)) (fun x=>x.2.1= .v (.slice none 0 0)/\WN x.1 []) (fun x r=>qkU x.1 [] r) ay 1:=by
 rintro⟨p,d,⟨⟩⟩ ⟨hd,hl⟩
 have hd:d= .v (.slice none 0 0):=hd
 subst hd
 have hl:0+pY p<=1000000:=hl
 have hpn:=sW p
 simp[gB,gr,h0]
 refine ba (X:=Value) [2] [] (fun _=>True) (fun v=>[(1, .own 21 v)]) (fun v=>[(21, .row v ay 1 ((lu [] p.lab).map enc))]) ?_ ?_
 ·simp[h0, -Bool.forall_bool]
  refine⟨fun hn=>?_,fun he=>?_⟩
  ·have hn:¬p.lab=E0:=hn
   refine .inl ⟨fun hf v=> .inl ?_,fun ht=>absurd (Ic.1 ht) (by simp)⟩
   rw[lu,if_neg hn,EO,if_neg (by simp)]
   simp
  ·have he:p.lab=E0:=he
   rw[lu,if_pos he]
   simp[isNilRow]
 ·rintro v -
  have hae:=IU [] p.lab
  simp
  intro hkl
  refine ai (X:=Value×List B) [23] [] p.kids.length (fun k x=>x.2=(p.kids.take k).foldl (fun o k=>aw k o) (lu [] p.lab)) (fun x=>[(1, .own 21 x.1)]) (fun x=>[(21, .row x.1 ay 1 (x.2.map enc))]) (v,lu [] p.lab) (by simp) (by simp) (by omega) (by simp) (by simp) (by simp) (by simp) (by simp) ?_ ?_
  ·rintro k ⟨v,ls⟩ hkk hls
   simp only at hls
   obtain⟨x,hx⟩:=dM hkk
   obtain⟨_,hgx⟩:=qtG.1 hx
   have hq:WN x ls:=by
    have h2:=KR p.kids k (lu [] p.lab)
    rw[<-hls]at h2
    have hae2:(lu [] p.lab).length<=0+1:=hae
    have h4:eP (p.kids.take k) +eP (p.kids.drop k)=eP p.kids:=by rw[<-KD,qus]
    rw[mQ hx,eP]at h4
    show ls.length+pY x<=_
    omega
   simp[hkk,hx,hgx,h1,hq]
   intro v' l' hy
   obtain rfl:l'=aw x ls:=hy
   refine .inl ?_
   rw[bM hx,qwt,<-hls]
   rfl
  ·rintro⟨v,ls⟩ hls
   simp only at hls
   rw[quj]at hls
   simp
   refine te ls (by simp) ?_
   show ls=aw p []
   rw[gu,hls]
abbrev s_qlabels:Spc:=qje ZS i_labelsA
abbrev yb:Spc:=aS (a1 Pat) (fun x=>WN x []) (enc (X:=List B)) fun x y=>y=if pW bT x then aw x []else[]
theorem Gz(h1:S tZ=wW)(h2:S cj=s_qlabels):aq qq pR S (a1 Pat) (fun x=>WN x []) (enc (X:=List B)) fun x y=>y=if pW bT x then aw x []else[]:=by
 rintro p hp
 simp[qq,pR,h1,h2, -Bool.forall_bool]
 clear h1 h2
 exact⟨fun h=>cB [] (by simp) (by rw[h];rfl),fun h=> .inl ⟨hp,fun v l hl=>cB l (gP ay (by simp)) (by rw[h];exact hl)⟩⟩
end Go.Gv

namespace Go.Gv
open Go.Proofs
theorem Mj{T R:St3->St3->Prop}(h0:∀s,T s s)(h1:∀s t u,T s t->T t u->T s u)(hR:∀s t,R s t->T s t):∀ {n:Nat} {s t:St3},Pow R n s t->T s t
 | 0,s,t,h=>by cases h;exact h0 s
 | n+1,s,t,⟨u,a,b⟩=>h1 _ _ _ (hR _ _ a) (Mj h0 h1 hR b)
section
variable {T:St3->St3->Prop}(h0:∀s,T s s)(h1:∀s t u,T s t->T t u->T s u)(r:Rn)
include h0 h1
mutual
theorem Gi:∀p:Pat,jv (fun q=>q.op=1->∀s,T s (Ed r q s)) p->∀s t,jW r p s t->T s t
 | .mk op cond lab reg mn mx ks,h,s,t,hD=>by
   have hs:=jl h
   have hk:∀k∈ks,jv (fun q=>q.op=1->∀s,T s (Ed r q s)) k:=fun k hk=>pr h hk
   rw[jW]at hD
   split at hD
   ·rename_i e
    rw[hD.2.2]
    exact hs e s
   ·split at hD
    ·rw[hD.2];exact h0 s
    ·split at hD
     ·exact PK ks hk s t hD
     ·split at hD
      ·exact PL ks hk s t hD
      ·exact Z9 ks mn mx hk s t hD
theorem PK:∀ks:List Pat,(∀k∈ks,jv (fun q=>q.op=1->∀s,T s (Ed r q s)) k)->∀s t,uB r ks s t->T s t
 | [],_,s,t,h=>by rw[pB]at h;rw[<-h];exact h0 s
 | k::ks,hk,s,t,h=>by
   rw[lI]at h
   obtain⟨u,a,b⟩:=h
   exact h1 _ _ _ (Gi k (hk k (by simp)) s u a) (PK ks (fun q hq=>hk q (by simp[hq])) u t b)
theorem PL:∀ks:List Pat,(∀k∈ks,jv (fun q=>q.op=1->∀s,T s (Ed r q s)) k)->∀s t,uC r ks s t->T s t
 | [],_,s,t,h=>by rw[Df]at h;exact h.elim
 | k::ks,hk,s,t,h=>by
   rw[qW]at h
   rcases h with h|h
   ·exact Gi k (hk k (by simp)) s t h
   ·exact PL ks (fun q hq=>hk q (by simp[hq])) s t h
theorem Z9:∀ (ks:List Pat) (mn mx:Int),(∀k∈ks,jv (fun q=>q.op=1->∀s,T s (Ed r q s)) k)->∀s t,Dt r ks mn mx s t->T s t
 | [],_,_,_,s,t,h=>by rw[Dt]at h;exact h.elim
 | k::ks,mn,mx,hk,s,t,h=>by
   rw[Dt]at h
   obtain⟨u,a,n,_,b⟩:=h
   have hT:=Gi k (hk k (by simp))
   exact h1 _ _ _ (Mj h0 h1 hT a) (Mj h0 h1 (fun s t q=>hT s t q.1) b)
end
end
def Fx(n:Nat)(s t:St3):Prop:=∀i,n<=i->i < 3->t.get i=s.get i
theorem RV(s:St3)(i j:Nat)(x:Int)(hi:i < 3)(hj:j < 3)(h:i≠j):(s.set i x).get j=s.get j:=by
 rcases i with _|_|_|i <;> rcases j with _|_|_|j <;> first|rfl|omega
theorem ZG{r:Rn}{p:Pat}(hl:r.lb.length<=3)(h:jv (fun q=>q.lab≠qz->kb r.lb q.lab=true) p){s t:St3}(hD:jW r p s t):Fx r.lb.length s t:=by
 refine Gi (T:=Fx r.lb.length) (fun s i _ _=>rfl) (fun s t u a b i hi h3=>(b i hi h3).trans (a i hi h3)) r p (qT h fun q hq _ s i hi h3=>?_) s t hD
 unfold Ed
 dsimp only
 split
 ·rcases i with _|_|i <;> rfl
 ·rename_i hne
  have hin:=hq hne
  have h4:=uU (fun z=>decide (z=q.lab)) r.lb
  have h5:decide (0<=fS r.lb fun z=>decide (z=q.lab))=true:=(tb _ _).trans hin
  have h6:=of_decide_eq_true h5
  have:((s.set (fS r.lb fun z=>decide (z=q.lab)).toNat (s.p+1)).get i)=s.get i:=RV _ _ _ _ (by omega) h3 (by omega)
  rcases i with _|_|i <;> exact this
theorem Um(r:Rn)(s:St3){i:Nat}(hi:i < r.lb.length):(Nl r s)[i]? =some (s.get i -1):=by
 unfold Nl
 rw[qtX,quP hi];rfl
theorem XE{s t:St3}(h:s.p=t.p)(hg:∀i,i < 3->s.get i=t.get i):s=t:=by
 obtain⟨a,b,c,d⟩:=s
 obtain⟨a',b',c',d'⟩:=t
 have e0:=hg 0 (by decide)
 have e1:=hg 1 (by decide)
 have e2:=hg 2 (by decide)
 simp only[St3.get]at e0 e1 e2 h
 rw[h,e0,e1,e2]
theorem qdL{r:Rn}{p:Pat}(hl:r.lb.length<=3)(h:jv (fun q=>q.lab≠qz->kb r.lb q.lab=true) p){s t u:St3}(h1:jW r p s t)(h2:jW r p s u)(e1:t.p=u.p)(e2:Nl r t=Nl r u):t=u:=by
 refine XE e1 fun i hi=>?_
 by_cases hn:i < r.lb.length
 ·have a:=Um r t hn
  have b:=Um r u hn
  rw[e2,b]at a
  have:=qtV a
  omega
 ·rw[ZG hl h h1 i (by omega) hi,ZG hl h h2 i (by omega) hi]
theorem qcw{m:Nat}{s:St3}(h:QB m s):Vy (m+1) s < (m+1) * (m+1) * (m+1) * (m+1):=by
 obtain⟨h1,h2,h3⟩:=h
 have a:=h3 0
 have b:=h3 1
 have c:=h3 2
 simp only[St3.get]at a b c
 unfold Vy
 have p1:s.p.toNat<=m:=by omega
 have p2:s.b0.toNat<=m:=by omega
 have p3:s.b1.toNat<=m:=by omega
 have p4:s.b2.toNat<=m:=by omega
 generalize s.p.toNat=x at*
 generalize s.b0.toNat=y at*
 generalize s.b1.toNat=z at*
 generalize s.b2.toNat=w at*
 have q1:x* (m+1) +y < (m+1) * (m+1):=by
  have:=quf (m+1) p1
  rw[qun m (m+1)];omega
 have q2:(x* (m+1) +y) * (m+1) +z < (m+1) * (m+1) * (m+1):=by
  have:=quf (m+1) (qwu q1)
  rw[qun]at this;omega
 have:=quf (m+1) (qwu q2)
 rw[qun]at this
 omega
theorem Sa{m a b c d:Nat}(hb:b < m)(hd:d < m)(h:a*m+b=c*m+d):a=c/\b=d:=by
 have h1:(a*m+b) /m=a:=by rw[quT,Nat.mul_add_div (by omega),Nat.div_eq_of_lt hb];omega
 have h2:(c*m+d) /m=c:=by rw[quT,Nat.mul_add_div (by omega),Nat.div_eq_of_lt hd];omega
 rw[h]at h1
 have e:a=c:=h1.symm.trans h2
 subst e
 exact⟨rfl,by omega⟩
theorem YW{m:Nat}{s t:St3}(hs:QB m s)(ht:QB m t)(h:Vy (m+1) s=Vy (m+1) t):s=t:=by
 obtain⟨h1,h2,h3⟩:=hs
 obtain⟨k1,k2,k3⟩:=ht
 have a0:=h3 0;have a1:=h3 1;have a2:=h3 2
 have b0:=k3 0;have b1:=k3 1;have b2:=k3 2
 simp only[St3.get]at a0 a1 a2 b0 b1 b2
 unfold Vy at h
 obtain⟨h,e1⟩:=Sa (by omega) (by omega) h
 obtain⟨h,e2⟩:=Sa (by omega) (by omega) h
 obtain⟨e4,e3⟩:=Sa (by omega) (by omega) h
 refine XE (by omega) fun i hi=>?_
 rcases i with _|_|_|i
 ·show s.b0=t.b0;omega
 ·show s.b1=t.b1;omega
 ·show s.b2=t.b2;omega
 ·omega
theorem Ra{m:Int}(hm:m<=170){l:List St3}(hn:l.Nodup)(h:∀s∈l,QB m s):l.length<=1000000000:=by
 by_cases h0:0<=m
 ·obtain⟨k,rfl⟩:∃k:Nat,m=(k:Int):=⟨m.toNat,by omega⟩
  have h1:=KH (f:=Vy (k+1)) hn (fun x hx=>qcw (h x hx)) fun x hx y hy e=>YW (h x hx) (h y hy) e
  have h2:(k+1) * (k+1)<=171*171:=qv3 (by omega) (by omega)
  have h3:=qv3 h2 (show k+1<=171 by omega)
  have h4:=qv3 h3 (show k+1<=171 by omega)
  omega
 ·cases l with
  | nil=>exact qub _
  | cons s l=>have:=(h s (by simp));have a:=this.1;have b:=this.2.1;omega
end Go.Gv

namespace Go.Gv
open Go.Proofs
open Cod (enc dec)
variable {S S0:Nat->Spc}
theorem Oj(p:Pat):∀d:Int,cP p d=true->(fe p:Int) +d<=101:=by
 induction p using kw with|_ p ih=>?_
 intro d h
 rw[lC]at h
 simp only[qtN,decide_eq_true_eq,qtL]at h
 rw[Gc]
 have:∀ks:List Pat,(∀k∈ks,k∈p.kids)->(E7 ks:Int) +d<=100:=by
  intro ks
  induction ks with
  | nil=>intro _;rw[E7];have:=h.1;simp;omega
  | cons k ks ihk=>
    intro hk
    have h1:=ihk fun z hz=>hk z (by simp[hz])
    have h2:=ih k (hk k (by simp)) (d+1) (h.2 k (hk k (by simp)))
    rw[E7]
    omega
 have:=this p.kids fun _ h=>h
 omega
structure QD (c:Corpus) (p:Pat):Prop where
 sz:qhz c
 few:c.toks.length<=170
 pat:pW bT p=true
 l3:(aw p []).length<=3
 num:pY p<=1000000
 nd:∀t∈c.texts,jv (qbu (Hm c (aw p []) t)) p
def Uw(x:Corpus×Qry×Int):Prop:=QD x.1 x.2.1.pat/\0<=x.2.2/\x.2.2 < x.1.toks.length
def qeK(x:Corpus×Qry×Int)(y:List Match):Prop:=qbi x.1 (aw x.2.1.pat []) x.2.1.pat x.2.2 y/\y.length<=1000000000
abbrev L4:Spc:=aS (a3 Corpus Qry Int) Uw (enc (X:=List Match)) qeK
abbrev b_masg:Spc:=qeF (a1 St3) Lm (enc (X:=List Int)) Qv
theorem qbE(h1:S qd=Kv)(h2:S rQ=yb)(h3:S cF=Kl 101)(h4:S cG=b_masg)(h5:S lH=Rf kC pj):aq pf oP S (a3 Corpus Qry Int) Uw (enc (X:=List Match)) qeK:=by
 rintro⟨c,q,i⟩ ⟨hF,hi0,hi1⟩
 have hF:QD c q.pat:=hF
 have hi0:0<=i:=hi0
 have hi1:i < c.toks.length:=hi1
 have hPb:WN q.pat []:=by show 0+pY q.pat<=1000000;have:=hF.num;omega
 have hfew:=hF.few
 have htl:(c.toks.length:Int)<=9223372036854775807:=by omega
 rcases Xq (c:=c) (i:=i)with⟨k1,k2⟩|⟨k,t,k1,k2,k3⟩
 ·simp[pf,oP,h1,k1, -Bool.forall_bool, -Bool.exists_bool]
  refine cB [] (.nil _) ⟨⟨List.Pairwise.nil,fun m=>⟨fun h=>(by cases h),?_⟩⟩,qub _⟩
  rintro⟨e,_,_,t,ht,_⟩
  have e:m.b=i:=e
  rw[e,k2]at ht
  cases ht
 ·have hkl:k < c.texts.length:=(qtG.1 k2).1
  obtain⟨_,hgt⟩:=qtG.1 k2
  have hkn:¬ (k:Int) < 0:=by omega
  simp[pf,oP,h1,k1,hkn,hkl,k2,hgt,h2,hPb,hF.pat,htl, -Bool.forall_bool, -Bool.exists_bool]
  intro b8
  refine jj (X:=Nat×Value) [2,4] [] [] [(990,34)] (fun _=>True) (fun x=>[(9, .bptr 36 x.1 0)]) (fun x=>[(36, .box x.1 (ku (Hm c (aw q.pat []) t) (.own 990 x.2))),(990, .mrow x.2 [])]) [36,990] (fun _=>rfl) (by decide) ?_ ?_
  ·simp[h2,hPb,hF.pat,htl, -Bool.forall_bool, -Bool.exists_bool]
   refine fun x b=>⟨b, .same _,x, .inl (.inr ⟨rfl,rfl,fun m y z h6 h7=>?_⟩), .inl (.inl rfl)⟩
   rcases m with _|_|_|_|_|_|_|_|_|_|_|m
   all_goals first|(cases h6;cases h7;exact .same _)|(cases h6;cases h7;exact .own _ _ _)|(simp at h6)
  rintro⟨b,v⟩ -
  have htm:t∈c.texts:=qtJ k2
  have htb:t.b<=i/\i < t.e:=by
   have:=List.find?_some k3
   simpa using this
  generalize hr:Hm c (aw q.pat []) t=r
  have hen:i<=r.en/\r.en<=170:=by
   rw[<-hr]
   show i<=min t.e (c.toks.length:Int)/\min t.e (c.toks.length:Int)<=170
   omega
  have hlb:r.lb=aw q.pat []:=by rw[<-hr];rfl
  have hnd:jv (qbu r) q.pat:=by rw[<-hr];exact hF.nd t htm
  have hl3:r.lb.length<=3:=by rw[hlb];exact hF.l3
  have hs0:QB r.en (LX i):=⟨hi0,hen.1,fun j=>by rcases j with _|_|j <;> exact⟨qvv _,by show(0:Int)<=r.en;omega⟩⟩
  have hRok:qdQ r:=⟨hl3,by rw[<-hr];exact hF.sz,by omega⟩
  have hdep:fe q.pat<=101:=by
   have hp:=hF.pat
   unfold pW at hp
   simp only[qtN]at hp
   have:=Oj q.pat 1 hp.1.1.1
   omega
  have hQ:∀m,m.b=i/\Sy c (aw q.pat []) q.pat m↔ ∃s,jW r q.pat (LX i) s/\i < s.p/\m=⟨i,s.p,Nl r s⟩:=fun m=>by
   constructor
   ·rintro⟨rfl,_,_,t',ht',s,hs,h1,h2,h3⟩
    rw[k3]at ht'
    cases ht'
    rw[hr]at hs h3
    refine⟨s,hs,h1,?_⟩
    obtain⟨mb,me,ml⟩:=m
    simp only at h2 h3 ⊢
    rw[h2,h3]
   ·rintro⟨s,hs,h1,rfl⟩
    exact⟨rfl,hi0,hi1,t,k3,s,by rw[hr];exact hs,h1,rfl,by rw[hr]⟩
  simp[h3,AP,Cw, -Bool.forall_bool, -Bool.exists_bool]
  refine⟨⟨hRok,fun e he=>(by cases he),hs0,q.pat,⟨_,_,rfl,qtF rfl,by simp⟩,hdep,hnd⟩,fun v2 es2 ys hQr b2=>?_⟩
  have hys:=hQr.2.2 q.pat ⟨_,_,rfl,qtF rfl,by simp⟩
  have hysn:=hQr.2.1
  clear hQr
  replace hys:∀t,t∈ys↔jW r q.pat (LX i) t:=hys
  refine ar (X:=Value×List Match×List D×List St3) [2,9,42] [36,990] (fun x=>x.2.1.Nodup/\(∀s∈x.2.2.2,s∈ys)/\x.2.2.2.Nodup/\(∀m∈x.2.1,∃s∈ys,s∉x.2.2.2/\i < s.p/\m=⟨i,s.p,Nl r s⟩)/\(∀s∈ys,s∈x.2.2.2\/(i < s.p->(⟨i,s.p,Nl r s⟩:Match) ∈x.2.1))/\x.2.1.length+x.2.2.2.length<=ys.length)
   (fun x=>[(10, .own 60 x.1)]) (fun x=>[(42, .miter b2 x.2.2.1 (bc x.2.2.2)),(60, .row x.1 pj 3 (x.2.1.map enc))]) (fun x=>x.2.2.2.length) (.slice none 0 0, [], [],ys)
   ⟨qvp,fun _ h=>h,hysn,fun _ h=>(by cases h),fun _ h=> .inl h,by simp⟩ (by simp) (by simp[isNilRow]) ?_
  rintro⟨v3,out,cur,left⟩ ⟨g1,g2,g3,g4,g5,g6⟩
  simp only at g1 g2 g3 g4 g5 g6
  have hyl:=Ra hen.2 hysn fun s hs=>rJ r q.pat _ _ ((hys s).1 hs) hs0
  simp[-Bool.forall_bool, -Bool.exists_bool]
  refine⟨fun h0=>?_,fun l1 x l2 hsp=>?_⟩
  ·have hlz:=eJ h0
   subst hlz
   simp[h5, -Bool.forall_bool, -Bool.exists_bool]
   refine⟨⟨rfl,by simp at g6;omega,g1⟩,fun l' hQ2=>cB l' (gP pj (by simp[ah])) ⟨⟨hQ2.1,fun m=>?_⟩,by rw[hQ2.2.1];show out.length<=_;simp at g6;omega⟩⟩
   rw[hQ2.2.2 m,hQ]
   constructor
   ·intro hm
    obtain⟨s,h1,_,h2,h3⟩:=g4 m hm
    exact⟨s,(hys s).1 h1,h2,h3⟩
   ·rintro⟨s,h1,h2,rfl⟩
    exact(g5 s ((hys s).2 h1)).elim (fun h=>by cases h) fun h=>h h2
  ·obtain⟨a,s,c2,rfl,rfl,rfl,rfl⟩:=fI hsp
   simp[h4,OE, -Bool.forall_bool, -Bool.exists_bool]
   have hsy:s∈ys:=g2 s (by simp)
   have hsub:∀x∈a++c2,x∈ys:=fun x h=>g2 x (by simp only[qtK,qtM]at h ⊢;rcases h with h|h <;> simp[h])
   have hnd2:(a++c2).Nodup/\s∉a++c2:=by
    obtain⟨n1,n2,n3⟩:=quY.1 g3
    have n4:=qvx.1 n2
    refine⟨quY.2 ⟨n1,n4.2,fun x hx y hy=>n3 x hx y (by simp[hy])⟩,fun h=>?_⟩
    rcases qtK.1 h with h|h
    ·exact n3 s h s (by simp) rfl
    ·exact n4.1 h
   have hnot:∀m∈out,∃u∈ys,u∉a++c2/\i < u.p/\m=(⟨i,u.p,Nl r u⟩:Match):=fun m hm=>by
    obtain⟨u,k1,k2,k3,k4⟩:=g4 m hm
    exact⟨u,k1,fun h=>k2 (by simp only[qtK,qtM]at h ⊢;rcases h with h|h <;> simp[h]),k3,k4⟩
   simp only[qt4,quy]at g6
   have hsL:=rJ r q.pat _ _ ((hys s).1 hsy) hs0
   have hsOk:qkX s:=⟨hsL.1,by have:=hsL.2.1;have:=hen.2;omega,fun j=>⟨(hsL.2.2 j).1,by have:=(hsL.2.2 j).2;have:=hen.2;omega⟩⟩
   have hPa:Lm (.cptr (ku r (.own 990 v2)) 0,s):=⟨⟨r,_,rfl,hl3⟩,hsOk⟩
   refine⟨fun hgt=>⟨hPa,fun z hz=>?_⟩,fun hle=>?_⟩
   ·obtain rfl:=hz r _ rfl
    refine⟨by omega,by omega,fun v4=>⟨v4,out++ [⟨i,s.p,Nl r s⟩],_,a++c2,⟨?_,hsub,hnd2.1,fun m hm=>?_,fun u hu=>?_,by simp;omega⟩,⟨rfl, .inl ⟨rfl,(gm a c2).symm⟩, .inl ⟨rfl,by simp⟩⟩,by simp⟩⟩
    ·rw[quY]
     refine⟨g1,by simp,fun m hm m' hm' e=>?_⟩
     simp at hm'
     subst hm'
     obtain⟨u,k1,k2,_,k4⟩:=g4 m hm
     rw[e]at k4
     injection k4 with _ e1 e2
     have:s=u:=qdL hl3 (qT hnd fun q h=>h.lab) ((hys s).1 hsy) ((hys u).1 k1) e1 e2
     subst this
     exact k2 (by simp)
    ·rcases qtK.1 hm with hm|hm
     ·exact hnot m hm
     ·simp at hm
      exact⟨s,hsy,hnd2.2,hgt,hm⟩
    ·rcases g5 u hu with h|h
     ·rcases qtK.1 h with h|h
      ·exact .inl (by simp[h])
      ·rcases qtM.1 h with rfl|h
       ·exact .inr fun _=>by simp
       ·exact .inl (by simp[h])
     ·exact .inr fun hp=>List.mem_append_left _ (h hp)
   ·refine⟨v3,out,_,a++c2,⟨g1,hsub,hnd2.1,hnot,fun u hu=>?_,by simp;omega⟩,⟨rfl, .inl ⟨rfl,(gm a c2).symm⟩, .inl ⟨rfl,rfl⟩⟩,by simp⟩
    rcases g5 u hu with h|h
    ·rcases qtK.1 h with h|h
     ·exact .inl (by simp[h])
     ·rcases qtM.1 h with rfl|h
      ·exact .inr fun hp=>absurd hp (by omega)
      ·exact .inl (by simp[h])
    ·exact .inr h
end Go.Gv

namespace Go.Gv
open Go.Proofs
open Cod (enc dec)
variable {S S0:Nat->Spc}
structure qij (a:List Attr) (q:Qry):Prop where
 glob:q.glob=nt
 filts:q.filts=[]
 strat:q.strat=0
 pat:pW bT q.pat=true
 size:jX q.pat<=256
 l3:(aw q.pat []).length<=3
 num:pY q.pat<=1000000
 att:a.length<=1000
 lv:∀x∈aC q.pat,qbr a (aw q.pat []) x.cond=true/\∃n,FR n x.cond
abbrev SQ(V:List Attr->Qry->Prop):Spc:=aS (a2 Qry (List Attr)) (fun x=>V x.2 x.1) (enc (X:=Int)) fun _ y=>y=0
abbrev qfD:Spc:=SQ qij
structure Uy (V:List Attr->Qry->Prop) (c:Corpus) (q:Qry):Prop where
 v:V c.attrs q
 f:QD c q.pat
abbrev qkY(c:Corpus)(q:Qry):Prop:=Uy qij c q
def qdR(x:Corpus×Qry)(y:List Match×Int):Prop:=(y.2=0/\J7 x.1 (aw x.2.pat []) x.2.pat y.1/\y.1.length<=4096)\/(y.2=2/\y.1=[]/\∃k l,QC x.1 (aw x.2.pat []) x.2.pat k l/\4096 < l.length)
abbrev qfG(V:List Attr->Qry->Prop):Spc:=aS (a2 Corpus Qry) (fun x=>Uy V x.1 x.2) (xb (Y:=List Match) (Z:=Int)) qdR
abbrev qeg:Spc:=qfG qij
theorem qfq{c:Corpus}{lb:List B}{p:Pat}{k:Int}{l l':List Match}(h:QC c lb p k l)(h':J7 c lb p l'):l.length<=l'.length:=by
 have hs:l.Sublist l':=by
  have e:l=l'.filter fun m=>decide (m.b < k):=by
   refine zH h.1 (h'.1.filter _) fun m=>?_
   rw[h.2,qva,h'.2,decide_eq_true_iff]
   exact and_comm
  rw[e]
  exact qwa
 exact hs.length_le
theorem qiy{V:List Attr->Qry->Prop}(h1:S fy=SQ V)(h2:S qK=L4):aq ed dZ S (a2 Corpus Qry) (fun x=>Uy V x.1 x.2) (xb (Y:=List Match) (Z:=Int)) qdR:=by
 rintro⟨c,q⟩ hM
 have hM:Uy V c q:=hM
 have hV:V c.attrs q:=hM.v
 have hfew:=hM.f.few
 have htl:(c.toks.length:Int)<=9223372036854775807:=by omega
 simp[ed,dZ,h1,hV,htl, -Bool.forall_bool, -Bool.exists_bool]
 refine ai (X:=Value×List Match) [2,3] [] c.toks.length (fun k x=>QC c (aw q.pat []) q.pat k x.2/\x.2.length<=4096) (fun x=>[(7, .own 27 x.1)]) (fun x=>[(27, .row x.1 pj 3 (x.2.map enc))]) (.slice none 0 0, []) (by simp) (by simp) (by omega) (by simp) (by simp) ⟨KU _ _ _,by simp⟩ (by simp) (by simp[isNilRow]) ?_ ?_
 ·rintro k ⟨v,l⟩ hk ⟨g1,g2⟩
  simp only at g1 g2
  have hPf:Uw (c,q,(k:Int)):=⟨hM.f,by show(0:Int)<=k;omega,by show(k:Int) < c.toks.length;omega⟩
  simp[h2,hPf, -Bool.forall_bool, -Bool.exists_bool]
  rintro y ⟨hy1,hy2⟩
  have hst:=KV g1 hy1
  exact⟨by omega,by omega,fun v' hle=>⟨fun h=> .inr ⟨rfl,rfl,_,_,hst,by simp;omega⟩,fun h=>⟨v',l++y,⟨hst,by simp;omega⟩,rfl, .inl ⟨rfl,by simp⟩⟩⟩⟩
 ·rintro⟨v,l⟩ ⟨g1,g2⟩
  simp only at g1 g2
  simp[-Bool.forall_bool, -Bool.exists_bool]
  exact⟨l,gP pj (by simp[ah]), .inl ⟨rfl,O9 g1,g2⟩⟩
end Go.Gv
