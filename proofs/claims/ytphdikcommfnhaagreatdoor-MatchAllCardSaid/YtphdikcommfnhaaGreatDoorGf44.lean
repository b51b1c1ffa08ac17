/- A part of the framework and of the walks: W190 V65 W188 W189. -/
import Derived.Test.YtphdikcommfnhaaGreatDoorGf43
import Derived.Test.YtphdikcommfnhaaGreatDoorGf25
import Derived.Test.YtphdikcommfnhaaGreatDoorGf29
import Derived.Test.YtphdikcommfnhaaGreatDoorGf37
import Derived.Test.YtphdikcommfnhaaGreatDoorGf38
import Derived.Test.YtphdikcommfnhaaGreatDoorGf41
import Derived.Test.YtphdikcommfnhaaGreatDoorGf42
import Derived.Test.YtphdikcommfnhaaGreatDoorGf36
set_option linter.unusedSimpArgs false
set_option linter.unusedVariables false
set_option linter.unusedSectionVars false
set_option maxRecDepth 100000

namespace Go.Gv
open Cod (enc dec)
variable {S S0:Nat->Spc}
theorem Xr{σ:Sg}{H:ab}{k j b el n:Nat}{cs cs':List D}(hkj:j≠k)(hk:H k=some (.box b cs))(hl:cs.length=cs'.length)(hc:∀ (m:Nat) (c c':D),cs[m]? =some c->cs'[m]? =some c'->FrzTo bJ c c'):
 Wk σ H σ (ah (ah H k (some (.box b cs'))) j (some (.row (.slice none 0 0) el n []))):=by
 refine Zy (Hf:=bJ) id (fun t=> .same _) (fun i r h=>?_) (fun i j r s _ _ e=> .inl e) (fun i r h=>by simp[bJ]at h)
 by_cases e:i=j
 ·subst e
  simp[ah]at h
  subst h
  exact .inr ⟨rfl,rfl⟩
 ·by_cases e2:i=k
  ·subst e2
   simp[ah,e]at h
   subst h
   exact .inl ⟨_,hk, .inr ⟨rfl,hl,hc⟩⟩
  ·simp only[ah,e,e2,if_false]at h
   exact .inl ⟨r,h, .inl rfl⟩
def HD:Nat->Cond->Prop
 | 0,_=>False
 | n+1,x=>x.kids.length<=1000000/\∀k∈x.kids,HD n k
abbrev QH(n:Nat):Spc:=aJ (a1 Cond) (HD n) (enc (X:=Cond)) fun x y=>y=x
theorem Iq(n:Nat)(h1:S jB=QH n):aq rF qZ S (a1 Cond) (HD (n+1)) (enc (X:=Cond)) fun x y=>y=x:=by
 rintro⟨op,name,arg,val,lab,fold,kids⟩ ⟨hlen,hk⟩
 simp only at hlen hk
 simp[rF,qZ]
 intro b2 b3 hkl
 refine E9 (Xr (k:=3) (j:=20) (b:=b3) (el:=DB) (n:=7) (cs':=[.v (.int .i64 op), .v (.string name), .v (.string arg), .v (.string val), .v (.string lab), .v (.bool fold), .own 20 (.slice none 0 0)]) (by decide) (by simp;rfl) (by simp) ?_) ?_
 ·intro m c c' hc hc'
  match m with
  | 0|1|2|3|4|5=>simp at hc hc';subst hc;subst hc';exact .same _
  | 6=>simp at hc hc';subst hc;subst hc';exact .nilown _
  | m+7=>simp at hc
 refine ai (X:=Value×List Cond) [2,9] [2] kids.length (fun k x=>x.2=kids.take k) (fun x=>[(3, .bptr 3 b3 0)]) (fun x=>[(3, .box b3 [.v (.int .i64 op), .v (.string name), .v (.string arg), .v (.string val), .v (.string lab), .v (.bool fold), .own 20 x.1]),(20, .row x.1 DB 7 (x.2.map enc))]) (.slice none 0 0, []) (by simp) (by simp) (by omega) (by simp) (by simp) (by simp) (by simp) (by simp) ?_ ?_
 ·rintro k ⟨v,m⟩ hkl' hm
  simp only at hm
  obtain⟨x,hx⟩:=cj hkl'
  obtain⟨_,hgx⟩:=qwP.1 hx
  have hx1:=hk x (bh hx)
  have hml:m.length=k:=by rw[hm,qxj];omega
  simp[h1,hkl',hx,hgx,hx1]
  refine⟨by omega,by omega,fun v=> .inl (.inl ?_)⟩
  rw[hm,List.map_take,qyk]
  simp[hx]
 ·rintro⟨v,m⟩ hm
  simp only at hm
  rw[qxn]at hm
  subst hm
  simp
  refine cm (Y:=Cond) ⟨op,name,arg,val,lab,fold,m⟩ ?_ rfl
  simp
  refine .agg (by simp) fun i c c' h h'=>?_
  match i with
  | 0|1|2|3|4|5=>simp at h h';subst h;subst h';exact .same _
  | 6=>simp at h h';subst h;subst h';exact gh DB (by simp)
  | i+7=>simp at h
theorem qwE{H:ab}{l l':List D}(h:FzL H l l'):FrzTo H (.agg l) (.agg l'):= .agg h.get.1 h.get.2
abbrev Mx:Spc:=aJ (a1 Cond) (fun x=>∃n,HD n x) (enc (X:=Cond)) fun x y=>y=x
def AD(p:Pat):Pat:=⟨p.op,p.cond,p.lab,⟨#[]⟩,0,0, []⟩
abbrev N6:Spc:=aJ (a1 Pat) (fun p=>∃n,HD n p.cond) (enc (X:=Pat)) fun x y=>y=AD x
theorem Ll(h1:S jB=Mx):aq tM sT S (a1 Pat) (fun p=>∃n,HD n p.cond) (enc (X:=Pat)) fun x y=>y=AD x:=by
 rintro p hp
 simp[tM,sT,h1,hp]
 intro b
 refine cm (Y:=Pat) (AD p) ?_ rfl
 unfold AD
 simp
 refine qwE ?_
 simp
def df(p:Pat):List Pat:=(aM p).map AD
theorem xD(p:Pat):df p=if p.op=1 then[AD p]else p.kids.flatMap df:=by
 unfold df
 rw[cU]
 split
 ·rfl
 ·rw[List.map_flatMap]
def PLc(p:Pat):Prop:=∀y∈aM p,∃n,HD n y.cond
theorem PLc.kid{p k:Pat}(h:PLc p)(hne:¬p.op=1)(hk:k∈p.kids):PLc k:=fun y hy=>h y (by rw[cU,if_neg hne];exact qxU.2 ⟨k,hk,hy⟩)
theorem qbH{ks:List Pat}{k:Nat}{x:Pat}(l:List Pat)(hx:ks[k]? =some x):(l++ (ks.take k).flatMap df) ++df x=l++ (ks.take (k+1)).flatMap df:=by
 rw[br hx,qzn,List.flatMap_singleton,qxD]
def qhA(x:Pat)(l:List Pat):Prop:=l.length+ (aM x).length<=100000000/\PLc x
theorem qi7(ks:List Pat):(ks.flatMap df).length=(ks.flatMap aM).length:=by
 induction ks with
 | nil=>rfl
 | cons k ks ih=>simp only[qxt,qxd,ih];unfold df;simp
theorem qbG{ks:List Pat}{k:Nat}{x:Pat}{l:List Pat}(hx:ks[k]? =some x)(h:l.length+ (ks.flatMap aM).length<=100000000)(hc:PLc x):qhA x (l++ (ks.take k).flatMap df):=by
 have:=qi6 hx h
 unfold quC at this
 refine⟨?_,hc⟩
 simp only[qxd]at this ⊢
 rw[qi7]
 exact this
abbrev MY(n:Nat):Spc:=qhh (X:=Pat) (Y:=Pat) (fun x l=>eG x<=n/\qhA x l) (fun x l r=>r=l++df x) eK 13
abbrev i_leavesQA:Spc:=qhh (X:=Pat) (Y:=Pat) (fun x l=>qhA x l) (fun x l r=>r=l++df x) eK 13
theorem Io(n:Nat)(h1:S dV=MY n)(h2:S qs=N6):Pr (X:=Pat) (Y:=Pat) ij gY S (fun x l=>eG x<=n+1/\qhA x l) (fun x l r=>r=l++df x) eK 13:=by
 rintro v l p ⟨hp,hl,hc⟩
 have hk:∀k∈p.kids,eG k<=n:=fun k hk=>by have:=jq hk;have:eG p<=n+1:=hp;omega
 have hl':=hl
 rw[cU]at hl'
 simp[ij,gY,h2]
 refine⟨fun h1=>?_,fun hne _=>?_⟩
 ·have hcc:∃n,HD n p.cond:=hc p (by rw[cU,if_pos h1];simp)
  simp[h1]at hl'
  exact⟨hcc,by omega,by omega,fun v=>jW (l++df p) (by simp[xD,h1]) rfl⟩
 rw[if_neg hne]at hl'
 refine ai (X:=Value×List Pat) [16] [] p.kids.length (fun k x=>x.2=l++ (p.kids.take k).flatMap df) (fun x=>[(1, .own 1 x.1)]) (fun x=>[(1, .row x.1 eK 13 (x.2.map enc))]) (v,l) (by simp) (by simp) (by omega) (by simp) (by simp) (by simp) (by simp) (by simp[isNilRow]) ?_ ?_
 ·rintro k ⟨v,m⟩ hkl hm
  simp only at hm
  obtain⟨x,hx⟩:=cj hkl
  have hx1:=bh hx
  obtain⟨_,hgx⟩:=qwP.1 hx
  have q1:=qbG hx hl' (hc.kid hne hx1)
  rw[<-hm]at q1
  have q2:=hk x hx1
  simp[h1,hkl,hx,hgx,q1,q2]
  intro v'
  refine .inl ?_
  rw[hm,qbH _ hx]
 ·rintro⟨v,m⟩ hm
  simp only at hm
  rw[qxn]at hm
  simp
  refine jW m (by simp) ?_
  rw[hm,xD,if_neg hne]
abbrev YZ:Spc:=qk2 (Y:=Pat) (aE Pat (aD a0)) (fun x=>x.2.1=qbs/\qhA x.1 []) (fun x r=>r=df x.1) eK 13
theorem G6(h1:S dV=i_leavesQA)(h2:S qs=N6):SM (Y:=Pat) ij gY S (aE Pat (aD a0)) (fun x=>x.2.1=qbs/\qhA x.1 []) (fun x r=>r=df x.1) eK 13:=by
 rintro⟨p,d,⟨⟩⟩ ⟨hd,hl,hc⟩
 have hd:d=qbs:=hd
 subst hd
 have hl':([]:List Pat).length+ (aM p).length<=100000000:=hl
 rw[cU]at hl'
 simp[ij,gY,h2]
 refine⟨fun h1=>⟨hc p (by rw[cU,if_pos h1];simp),fun v=>jW (df p) (by simp[xD,h1]) rfl⟩,fun hne _=>?_⟩
 rw[if_neg hne]at hl'
 refine ai (X:=Value×List Pat) [16] [] p.kids.length (fun k x=>x.2=[] ++ (p.kids.take k).flatMap df) (fun x=>[(1, .own 1 x.1)]) (fun x=>[(1, .row x.1 eK 13 (x.2.map enc))]) (.slice none 0 0, []) (by simp) (by simp) (by omega) (by simp) (by simp) (by simp) (by simp) (by simp[isNilRow]) ?_ ?_
 ·rintro k ⟨v,m⟩ hkl hm
  simp only at hm
  obtain⟨x,hx⟩:=cj hkl
  have hx1:=bh hx
  obtain⟨_,hgx⟩:=qwP.1 hx
  have q1:=qbG hx hl' (hc.kid hne hx1)
  rw[<-hm]at q1
  simp[h1,hkl,hx,hgx,q1]
  intro v'
  refine .inl ?_
  rw[hm,qbH _ hx]
  rfl
 ·rintro⟨v,m⟩ hm
  simp only at hm
  rw[qxn]at hm
  simp
  refine jW m (by simp) ?_
  rw[hm,xD,if_neg hne]
  rfl
abbrev s_leavesQ:Spc:=qkM YZ i_leavesQA
def qe(out:List B)(x:B):List B:=if x=E0 then out else BC out x
mutual
def aN:Pat->List B->List B
 | .mk op c l r mn mx ks,out=>JZ ks (qe out l)
def JZ:List Pat->List B->List B
 | [],out=>out
 | k::ks,out=>JZ ks (aN k out)
end
theorem GS:∀ (l:List Pat) (out:List B),JZ l out=l.foldl (fun o k=>aN k o) out
 | [],out=>by rw[JZ];rfl
 | k::l,out=>by rw[JZ,GS l];rfl
theorem qG(p:Pat)(out:List B):aN p out=p.kids.foldl (fun o k=>aN k o) (qe out p.lab):=by
 cases p;rw[aN,GS]
theorem KT(out:List B)(x:B):(qe out x).length<=out.length+1:=by
 unfold qe BC
 split
 ·omega
 ·split
  ·omega
  ·simp
theorem YI(p:Pat):∀out,(aN p out).length<=out.length+iZ p:=by
 induction p using iR with|_ p ih=>?_
 intro out
 rw[qG,nn]
 have:∀ (ks:List Pat) (o:List B),(∀k∈ks,k∈p.kids)->(ks.foldl (fun o k=>aN k o) o).length<=o.length+cA ks:=by
  intro ks
  induction ks with
  | nil=>intro o _;simp[cA]
  | cons k ks ihk=>
    intro o hk
    rw[qxK,cA]
    have h1:=ihk (aN k o) fun z hz=>hk z (by simp[hz])
    have:=ih k (hk k (by simp)) o
    omega
 have h1:=this p.kids (qe out p.lab) fun _ h=>h
 have h2:=KT out p.lab
 omega
theorem MR(ks:List Pat)(k:Nat)(lb:List B):((ks.take k).foldl (fun o k=>aN k o) lb).length<=lb.length+cA (ks.take k):=by
 generalize ks.take k=l
 induction l generalizing lb with
 | nil=>simp[cA]
 | cons a l ih=>
   rw[qxK,cA]
   have h1:=ih (aN a lb)
   have h2:=YI a lb
   omega
def qb0(l:List B)(x:B):Bool:=l.any fun z=>decide (z=x)
theorem J4{l:List B}{x:B} :qb0 l x=true↔x∈l:=by
 unfold qb0
 rw[qx3]
 exact⟨fun⟨z,h1,h2⟩=>by rw[decide_eq_true_eq]at h2;rwa [<-h2],fun h=>⟨x,h,decide_eq_true rfl⟩⟩
abbrev s_hasE:Spc:=aJ (aE (List B) (a1 B)) (fun _=>True) (enc (X:=Bool)) fun x y=>y=qb0 x.1 x.2
abbrev qnJ:Spc:=qqU (Y:=B) (a1 B) (fun _=>True) (enc (X:=Bool)) (fun x y=>y=qb0 x.1 x.2) au 1
theorem BS(h1:S cw=I3):aq ci cb S (aE (List B) (a1 B)) (fun _=>True) (enc (X:=Bool)) fun x y=>y=qb0 x.1 x.2:=by
 rintro⟨l,x⟩ -
 simp[ci,cb,h1]
 exact uw _ l
abbrev s_has2:Spc:=qkM s_hasE qnJ
def Xg(x:Pat)(l:List B):Prop:=l.length+iZ x<=1000000
def qnV(x:Pat)(l r:List B):Prop:=r=aN x l
abbrev Ry(n:Nat):Spc:=qhh (X:=Pat) (Y:=B) (fun x l=>eG x<=n/\Xg x l) qnV au 1
abbrev i_labelsA:Spc:=qhh (X:=Pat) (Y:=B) Xg qnV au 1
theorem Ip(n:Nat)(h0:S aR=s_has2)(h1:S bP=Ry n):Pr (X:=Pat) (Y:=B) il gZ S (fun x l=>eG x<=n+1/\Xg x l) qnV au 1:=by
 rintro v lb p ⟨hd,hl⟩
 have hk:∀k∈p.kids,eG k<=n:=fun k h=>by have:=jq h;have:eG p<=n+1:=hd;omega
 have hl:lb.length+iZ p<=1000000:=hl
 have hpn:=nn p
 simp[il,gZ,h0]
 refine aS (X:=Value) [2] [] (fun _=>True) (fun v=>[(1, .own 1 v)]) (fun v=>[(1, .row v au 1 ((qe lb p.lab).map enc))]) ?_ ?_
 ·simp[h0, -Bool.forall_bool]
  refine⟨fun hn=>?_,fun he=>?_⟩
  ·have hn:¬p.lab=E0:=hn
   refine .inr ⟨fun hf=>⟨by omega,by omega,fun v=> .inl ?_⟩,fun ht=> .inl ?_⟩
   ·rw[qe,if_neg hn,BC,if_neg (fun h=>by rw[J4.2 h]at hf;cases hf)]
    simp
   ·rw[qe,if_neg hn,BC,if_pos (J4.1 ht)]
  ·have he:p.lab=E0:=he
   refine .inl ?_
   rw[qe,if_pos he]
 ·rintro v -
  have hae:=KT lb p.lab
  simp
  intro hkl
  refine ai (X:=Value×List B) [23] [] p.kids.length (fun k x=>x.2=(p.kids.take k).foldl (fun o k=>aN k o) (qe lb p.lab)) (fun x=>[(1, .own 1 x.1)]) (fun x=>[(1, .row x.1 au 1 (x.2.map enc))]) (v,qe lb p.lab) (by simp) (by simp) (by omega) (by simp) (by simp) (by simp) (by simp) (by simp) ?_ ?_
  ·rintro k ⟨v,ls⟩ hkk hls
   simp only at hls
   obtain⟨x,hx⟩:=cj hkk
   obtain⟨_,hgx⟩:=qwP.1 hx
   have hq:Xg x ls:=by
    have h2:=MR p.kids k (qe lb p.lab)
    rw[<-hls]at h2
    have h4:cA (p.kids.take k) +cA (p.kids.drop k)=cA p.kids:=by rw[<-A3,qxs]
    rw[gL hx,cA]at h4
    show ls.length+iZ x<=_
    omega
   have hq2:=hk x (bh hx)
   simp[hkk,hx,hgx,h1,hq,hq2]
   intro v' l' hy
   obtain rfl:l'=aN x ls:=hy
   refine .inl ?_
   rw[br hx,qyN,<-hls]
   rfl
  ·rintro⟨v,ls⟩ hls
   simp only at hls
   rw[qxn]at hls
   simp
   refine jW ls (by simp) ?_
   show ls=aN p lb
   rw[qG,hls]
abbrev qcp:Spc:=qk2 (Y:=B) (aE Pat (aD a0)) (fun x=>x.2.1= .v (.slice none 0 0)/\Xg x.1 []) (fun x r=>qnV x.1 [] r) au 1
theorem G7(h0:S aR=s_has2)(h1:S bP=i_labelsA):SM (Y:=B) il gZ S (aE Pat (aD a0)) (fun x=>x.2.1= .v (.slice none 0 0)/\Xg x.1 []) (fun x r=>qnV x.1 [] r) au 1:=by
 rintro⟨p,d,⟨⟩⟩ ⟨hd,hl⟩
 have hd:d= .v (.slice none 0 0):=hd
 subst hd
 have hl:0+iZ p<=1000000:=hl
 have hpn:=nn p
 simp[il,gZ,h0]
 refine aS (X:=Value) [2] [] (fun _=>True) (fun v=>[(1, .own 21 v)]) (fun v=>[(21, .row v au 1 ((qe [] p.lab).map enc))]) ?_ ?_
 ·simp[h0, -Bool.forall_bool]
  refine⟨fun hn=>?_,fun he=>?_⟩
  ·have hn:¬p.lab=E0:=hn
   refine .inl ⟨fun hf v=> .inl ?_,fun ht=>absurd (J4.1 ht) (by simp)⟩
   rw[qe,if_neg hn,BC,if_neg (by simp)]
   simp
  ·have he:p.lab=E0:=he
   rw[qe,if_pos he]
   simp[isNilRow]
 ·rintro v -
  have hae:=KT [] p.lab
  simp
  intro hkl
  refine ai (X:=Value×List B) [23] [] p.kids.length (fun k x=>x.2=(p.kids.take k).foldl (fun o k=>aN k o) (qe [] p.lab)) (fun x=>[(1, .own 21 x.1)]) (fun x=>[(21, .row x.1 au 1 (x.2.map enc))]) (v,qe [] p.lab) (by simp) (by simp) (by omega) (by simp) (by simp) (by simp) (by simp) (by simp) ?_ ?_
  ·rintro k ⟨v,ls⟩ hkk hls
   simp only at hls
   obtain⟨x,hx⟩:=cj hkk
   obtain⟨_,hgx⟩:=qwP.1 hx
   have hq:Xg x ls:=by
    have h2:=MR p.kids k (qe [] p.lab)
    rw[<-hls]at h2
    have hae2:(qe [] p.lab).length<=0+1:=hae
    have h4:cA (p.kids.take k) +cA (p.kids.drop k)=cA p.kids:=by rw[<-A3,qxs]
    rw[gL hx,cA]at h4
    show ls.length+iZ x<=_
    omega
   simp[hkk,hx,hgx,h1,hq]
   intro v' l' hy
   obtain rfl:l'=aN x ls:=hy
   refine .inl ?_
   rw[br hx,qyN,<-hls]
   rfl
  ·rintro⟨v,ls⟩ hls
   simp only at hls
   rw[qxn]at hls
   simp
   refine jW ls (by simp) ?_
   show ls=aN p []
   rw[qG,hls]
abbrev s_qlabels:Spc:=qkM qcp i_labelsA
abbrev zz:Spc:=aJ (a1 Pat) (fun x=>Xg x []) (enc (X:=List B)) fun x y=>y=if pq bw x then aN x []else[]
theorem Is(h1:S vr=yv)(h2:S bP=s_qlabels):aq rG ra S (a1 Pat) (fun x=>Xg x []) (enc (X:=List B)) fun x y=>y=if pq bw x then aN x []else[]:=by
 rintro p hp
 simp[rG,ra,h1,h2, -Bool.forall_bool]
 clear h1 h2
 exact⟨fun h=>cm [] (by simp) (by rw[h];rfl),fun h=> .inl ⟨hp,fun v l hl=>cm l (gh au (by simp)) (by rw[h];exact hl)⟩⟩
end Go.Gv

namespace Go.Gv
open Go.Proofs
theorem Oj{T R:St3->St3->Prop}(h0:∀s,T s s)(h1:∀s t u,T s t->T t u->T s u)(hR:∀s t,R s t->T s t):∀ {n:Nat} {s t:St3},Pow R n s t->T s t
 | 0,s,t,h=>by cases h;exact h0 s
 | n+1,s,t,⟨u,a,b⟩=>h1 _ _ _ (hR _ _ a) (Oj h0 h1 hR b)
section
variable {T:St3->St3->Prop}(h0:∀s,T s s)(h1:∀s t u,T s t->T t u->T s u)(r:Rn)
include h0 h1
mutual
theorem Id:∀p:Pat,kW (fun q=>q.op=1->∀s,T s (FI r q s)) p->∀s t,mG r p s t->T s t
 | .mk op cond lab reg mn mx ks,h,s,t,hD=>by
   have hs:=jT h
   have hk:∀k∈ks,kW (fun q=>q.op=1->∀s,T s (FI r q s)) k:=fun k hk=>qC h hk
   rw[mG]at hD
   split at hD
   ·rename_i e
    rw[hD.2.2]
    exact hs e s
   ·split at hD
    ·rw[hD.2];exact h0 s
    ·split at hD
     ·exact R6 ks hk s t hD
     ·split at hD
      ·exact R7 ks hk s t hD
      ·exact qcH ks mn mx hk s t hD
theorem R6:∀ks:List Pat,(∀k∈ks,kW (fun q=>q.op=1->∀s,T s (FI r q s)) k)->∀s t,vQ r ks s t->T s t
 | [],_,s,t,h=>by rw[wx]at h;rw[<-h];exact h0 s
 | k::ks,hk,s,t,h=>by
   rw[wy]at h
   obtain⟨u,a,b⟩:=h
   exact h1 _ _ _ (Id k (hk k (by simp)) s u a) (R6 ks (fun q hq=>hk q (by simp[hq])) u t b)
theorem R7:∀ks:List Pat,(∀k∈ks,kW (fun q=>q.op=1->∀s,T s (FI r q s)) k)->∀s t,vR r ks s t->T s t
 | [],_,s,t,h=>by rw[Ku]at h;exact h.elim
 | k::ks,hk,s,t,h=>by
   rw[Bc]at h
   rcases h with h|h
   ·exact Id k (hk k (by simp)) s t h
   ·exact R7 ks (fun q hq=>hk q (by simp[hq])) s t h
theorem qcH:∀ (ks:List Pat) (mn mx:Int),(∀k∈ks,kW (fun q=>q.op=1->∀s,T s (FI r q s)) k)->∀s t,ER r ks mn mx s t->T s t
 | [],_,_,_,s,t,h=>by rw[ER]at h;exact h.elim
 | k::ks,mn,mx,hk,s,t,h=>by
   rw[ER]at h
   obtain⟨u,a,n,_,b⟩:=h
   have hT:=Id k (hk k (by simp))
   exact h1 _ _ _ (Oj h0 h1 hT a) (Oj h0 h1 (fun s t q=>hT s t q.1) b)
end
end
def Fx(n:Nat)(s t:St3):Prop:=∀i,n<=i->i < 3->t.get i=s.get i
theorem Uy(s:St3)(i j:Nat)(x:Int)(hi:i < 3)(hj:j < 3)(h:i≠j):(s.set i x).get j=s.get j:=by
 rcases i with _|_|_|i <;> rcases j with _|_|_|j <;> first|rfl|omega
theorem qcd{r:Rn}{p:Pat}(hl:r.lb.length<=3)(h:kW (fun q=>q.lab≠rO->qH r.lb q.lab=true) p){s t:St3}(hD:mG r p s t):Fx r.lb.length s t:=by
 refine Id (T:=Fx r.lb.length) (fun s i _ _=>rfl) (fun s t u a b i hi h3=>(b i hi h3).trans (a i hi h3)) r p (sv h fun q hq _ s i hi h3=>?_) s t hD
 unfold FI
 dsimp only
 split
 ·rcases i with _|_|i <;> rfl
 ·rename_i hne
  have hin:=hq hne
  have h4:=Ai (fun z=>decide (z=q.lab)) r.lb
  have h5:decide (0<=gF r.lb fun z=>decide (z=q.lab))=true:=(uw _ _).trans hin
  have h6:=of_decide_eq_true h5
  have:((s.set (gF r.lb fun z=>decide (z=q.lab)).toNat (s.p+1)).get i)=s.get i:=Uy _ _ _ _ (by omega) h3 (by omega)
  rcases i with _|_|i <;> exact this
theorem WU(r:Rn)(s:St3){i:Nat}(hi:i < r.lb.length):(Pn r s)[i]? =some (s.get i -1):=by
 unfold Pn
 rw[qw6,qxW hi];rfl
theorem Z2{s t:St3}(h:s.p=t.p)(hg:∀i,i < 3->s.get i=t.get i):s=t:=by
 obtain⟨a,b,c,d⟩:=s
 obtain⟨a',b',c',d'⟩:=t
 have e0:=hg 0 (by decide)
 have e1:=hg 1 (by decide)
 have e2:=hg 2 (by decide)
 simp only[St3.get]at e0 e1 e2 h
 rw[h,e0,e1,e2]
theorem qgt{r:Rn}{p:Pat}(hl:r.lb.length<=3)(h:kW (fun q=>q.lab≠rO->qH r.lb q.lab=true) p){s t u:St3}(h1:mG r p s t)(h2:mG r p s u)(e1:t.p=u.p)(e2:Pn r t=Pn r u):t=u:=by
 refine Z2 e1 fun i hi=>?_
 by_cases hn:i < r.lb.length
 ·have a:=WU r t hn
  have b:=WU r u hn
  rw[e2,b]at a
  have:=qw4 a
  omega
 ·rw[qcd hl h h1 i (by omega) hi,qcd hl h h2 i (by omega) hi]
theorem qfe{m:Nat}{s:St3}(h:SW m s):Yl (m+1) s < (m+1) * (m+1) * (m+1) * (m+1):=by
 obtain⟨h1,h2,h3⟩:=h
 have a:=h3 0
 have b:=h3 1
 have c:=h3 2
 simp only[St3.get]at a b c
 unfold Yl
 have p1:s.p.toNat<=m:=by omega
 have p2:s.b0.toNat<=m:=by omega
 have p3:s.b1.toNat<=m:=by omega
 have p4:s.b2.toNat<=m:=by omega
 generalize s.p.toNat=x at*
 generalize s.b0.toNat=y at*
 generalize s.b1.toNat=z at*
 generalize s.b2.toNat=w at*
 have q1:x* (m+1) +y < (m+1) * (m+1):=by
  have:=qxq (m+1) p1
  rw[qxy m (m+1)];omega
 have q2:(x* (m+1) +y) * (m+1) +z < (m+1) * (m+1) * (m+1):=by
  have:=qxq (m+1) (qzC q1)
  rw[qxy]at this;omega
 have:=qxq (m+1) (qzC q2)
 rw[qxy]at this
 omega
theorem UL{m a b c d:Nat}(hb:b < m)(hd:d < m)(h:a*m+b=c*m+d):a=c/\b=d:=by
 have h1:(a*m+b) /m=a:=by rw[qx0,Nat.mul_add_div (by omega),Nat.div_eq_of_lt hb];omega
 have h2:(c*m+d) /m=c:=by rw[qx0,Nat.mul_add_div (by omega),Nat.div_eq_of_lt hd];omega
 rw[h]at h1
 have e:a=c:=h1.symm.trans h2
 subst e
 exact⟨rfl,by omega⟩
theorem qbq{m:Nat}{s t:St3}(hs:SW m s)(ht:SW m t)(h:Yl (m+1) s=Yl (m+1) t):s=t:=by
 obtain⟨h1,h2,h3⟩:=hs
 obtain⟨k1,k2,k3⟩:=ht
 have a0:=h3 0;have a1:=h3 1;have a2:=h3 2
 have b0:=k3 0;have b1:=k3 1;have b2:=k3 2
 simp only[St3.get]at a0 a1 a2 b0 b1 b2
 unfold Yl at h
 obtain⟨h,e1⟩:=UL (by omega) (by omega) h
 obtain⟨h,e2⟩:=UL (by omega) (by omega) h
 obtain⟨e4,e3⟩:=UL (by omega) (by omega) h
 refine Z2 (by omega) fun i hi=>?_
 rcases i with _|_|_|i
 ·show s.b0=t.b0;omega
 ·show s.b1=t.b1;omega
 ·show s.b2=t.b2;omega
 ·omega
theorem TI{m:Int}(hm:m<=170){l:List St3}(hn:l.Nodup)(h:∀s∈l,SW m s):l.length<=1000000000:=by
 by_cases h0:0<=m
 ·obtain⟨k,rfl⟩:∃k:Nat,m=(k:Int):=⟨m.toNat,by omega⟩
  have h1:=ML (f:=Yl (k+1)) hn (fun x hx=>qfe (h x hx)) fun x hx y hy e=>qbq (h x hx) (h y hy) e
  have h2:(k+1) * (k+1)<=171*171:=qzc (by omega) (by omega)
  have h3:=qzc h2 (show k+1<=171 by omega)
  have h4:=qzc h3 (show k+1<=171 by omega)
  omega
 ·cases l with
  | nil=>exact qxi _
  | cons s l=>have:=(h s (by simp));have a:=this.1;have b:=this.2.1;omega
end Go.Gv

namespace Go.Gv
open Go.Proofs
open Cod (enc dec)
variable {S S0:Nat->Spc}
theorem Qu(p:Pat):∀d:Int,di p d=true->(eG p:Int) +d<=101:=by
 induction p using iR with|_ p ih=>?_
 intro d h
 rw[mw]at h
 simp only[qwX,decide_eq_true_eq,qwV]at h
 rw[H5]
 have:∀ks:List Pat,(∀k∈ks,k∈p.kids)->(GL ks:Int) +d<=100:=by
  intro ks
  induction ks with
  | nil=>intro _;rw[GL];have:=h.1;simp;omega
  | cons k ks ihk=>
    intro hk
    have h1:=ihk fun z hz=>hk z (by simp[hz])
    have h2:=ih k (hk k (by simp)) (d+1) (h.2 k (hk k (by simp)))
    rw[GL]
    omega
 have:=this p.kids fun _ h=>h
 omega
structure Xk (c:Corpus) (p:Pat):Prop where
 sz:qkz c
 few:c.toks.length<=170
 pat:pq bw p=true
 l3:(aN p []).length<=3
 num:iZ p<=1000000
 nd:∀t∈c.texts,kW (qgE (LC c (aN p []) t)) p
def Xe(x:Corpus×Qry×Int):Prop:=Xk x.1 x.2.1.pat/\0<=x.2.2/\x.2.2 < x.1.toks.length
def qhu(x:Corpus×Qry×Int)(y:List Match):Prop:=Gn x.1 (aN x.2.1.pat []) x.2.1.pat x.2.2 y/\y.length<=1000000000
abbrev N4:Spc:=aJ (a3 Corpus Qry Int) Xe (enc (X:=List Match)) qhu
abbrev b_masg:Spc:=qhq (a1 St3) Nl (enc (X:=List Int)) SQ
theorem qea(h1:S rq=My)(h2:S tr=zz)(h3:S cX=Mp 101)(h4:S cY=b_masg)(h5:S mD=TN lw sB):aq qu qk S (a3 Corpus Qry Int) Xe (enc (X:=List Match)) qhu:=by
 rintro⟨c,q,i⟩ ⟨hF,hi0,hi1⟩
 have hF:Xk c q.pat:=hF
 have hi0:0<=i:=hi0
 have hi1:i < c.toks.length:=hi1
 have hPb:Xg q.pat []:=by show 0+iZ q.pat<=1000000;have:=hF.num;omega
 have hfew:=hF.few
 have htl:(c.toks.length:Int)<=9223372036854775807:=by omega
 rcases ZQ (c:=c) (i:=i)with⟨k1,k2⟩|⟨k,t,k1,k2,k3⟩
 ·simp[qu,qk,h1,k1, -Bool.forall_bool, -Bool.exists_bool]
  refine cm [] (.nil _) ⟨⟨List.Pairwise.nil,fun m=>⟨fun h=>(by cases h),?_⟩⟩,qxi _⟩
  rintro⟨e,_,_,t,ht,_⟩
  have e:m.b=i:=e
  rw[e,k2]at ht
  cases ht
 ·have hkl:k < c.texts.length:=(qwP.1 k2).1
  obtain⟨_,hgt⟩:=qwP.1 k2
  have hkn:¬ (k:Int) < 0:=by omega
  simp[qu,qk,h1,k1,hkn,hkl,k2,hgt,h2,hPb,hF.pat,htl, -Bool.forall_bool, -Bool.exists_bool]
  intro b8
  refine gp (X:=Nat×Value) [2,4] [] [] [(990,34)] (fun _=>True) (fun x=>[(9, .bptr 36 x.1 0)]) (fun x=>[(36, .box x.1 (lp (LC c (aN q.pat []) t) (.own 990 x.2))),(990, .mrow x.2 [])]) [36,990] (fun _=>rfl) (by decide) ?_ ?_
  ·simp[h2,hPb,hF.pat,htl, -Bool.forall_bool, -Bool.exists_bool]
   refine fun x b=>⟨b, .same _,x, .inl (.inr ⟨rfl,rfl,fun m y z h6 h7=>?_⟩), .inl (.inl rfl)⟩
   rcases m with _|_|_|_|_|_|_|_|_|_|_|m
   all_goals first|(cases h6;cases h7;exact .same _)|(cases h6;cases h7;exact .own _ _ _)|(simp at h6)
  rintro⟨b,v⟩ -
  have htm:t∈c.texts:=qwS k2
  have htb:t.b<=i/\i < t.e:=by
   have:=List.find?_some k3
   simpa using this
  generalize hr:LC c (aN q.pat []) t=r
  have hen:i<=r.en/\r.en<=170:=by
   rw[<-hr]
   show i<=min t.e (c.toks.length:Int)/\min t.e (c.toks.length:Int)<=170
   omega
  have hlb:r.lb=aN q.pat []:=by rw[<-hr];rfl
  have hnd:kW (qgE r) q.pat:=by rw[<-hr];exact hF.nd t htm
  have hl3:r.lb.length<=3:=by rw[hlb];exact hF.l3
  have hs0:SW r.en (NW i):=⟨hi0,hen.1,fun j=>by rcases j with _|_|j <;> exact⟨qyD _,by show(0:Int)<=r.en;omega⟩⟩
  have hRok:qgy r:=⟨hl3,by rw[<-hr];exact hF.sz,by omega⟩
  have hdep:eG q.pat<=101:=by
   have hp:=hF.pat
   unfold pq at hp
   simp only[qwX]at hp
   have:=Qu q.pat 1 hp.1.1.1
   omega
  have hQ:∀m,m.b=i/\qgD c (aN q.pat []) q.pat m↔ ∃s,mG r q.pat (NW i) s/\i < s.p/\m=⟨i,s.p,Pn r s⟩:=fun m=>by
   constructor
   ·rintro⟨rfl,_,_,t',ht',s,hs,h1,h2,h3⟩
    rw[k3]at ht'
    cases ht'
    rw[hr]at hs h3
    refine⟨s,hs,h1,?_⟩
    obtain⟨mb,me,ml⟩:=m
    simp only at h2 h3 ⊢
    rw[h2,h3]
   ·rintro⟨s,hs,h1,rfl⟩
    exact⟨rfl,hi0,hi1,t,k3,s,by rw[hr];exact hs,h1,rfl,by rw[hr]⟩
  simp[h3,B7,DU, -Bool.forall_bool, -Bool.exists_bool]
  refine⟨⟨hRok,fun e he=>(by cases he),hs0,q.pat,⟨_,_,rfl,qwO rfl,by simp⟩,hdep,hnd⟩,fun v2 es2 ys hQr b2=>?_⟩
  have hys:=hQr.2.2 q.pat ⟨_,_,rfl,qwO rfl,by simp⟩
  have hysn:=hQr.2.1
  clear hQr
  replace hys:∀t,t∈ys↔mG r q.pat (NW i) t:=hys
  refine av (X:=Value×List Match×List D×List St3) [2,9,42] [36,990] (fun x=>x.2.1.Nodup/\(∀s∈x.2.2.2,s∈ys)/\x.2.2.2.Nodup/\(∀m∈x.2.1,∃s∈ys,s∉x.2.2.2/\i < s.p/\m=⟨i,s.p,Pn r s⟩)/\(∀s∈ys,s∈x.2.2.2\/(i < s.p->(⟨i,s.p,Pn r s⟩:Match) ∈x.2.1))/\x.2.1.length+x.2.2.2.length<=ys.length)
   (fun x=>[(10, .own 60 x.1)]) (fun x=>[(42, .miter b2 x.2.2.1 (be x.2.2.2)),(60, .row x.1 sB 3 (x.2.1.map enc))]) (fun x=>x.2.2.2.length) (.slice none 0 0, [], [],ys)
   ⟨qyy,fun _ h=>h,hysn,fun _ h=>(by cases h),fun _ h=> .inl h,by simp⟩ (by simp) (by simp[isNilRow]) ?_
  rintro⟨v3,out,cur,left⟩ ⟨g1,g2,g3,g4,g5,g6⟩
  simp only at g1 g2 g3 g4 g5 g6
  have hyl:=TI hen.2 hysn fun s hs=>tf r q.pat _ _ ((hys s).1 hs) hs0
  simp[-Bool.forall_bool, -Bool.exists_bool]
  refine⟨fun h0=>?_,fun l1 x l2 hsp=>?_⟩
  ·have hlz:=ff h0
   subst hlz
   simp[h5, -Bool.forall_bool, -Bool.exists_bool]
   refine⟨⟨rfl,by simp at g6;omega,g1⟩,fun l' hQ2=>cm l' (gh sB (by simp[ah])) ⟨⟨hQ2.1,fun m=>?_⟩,by rw[hQ2.2.1];show out.length<=_;simp at g6;omega⟩⟩
   rw[hQ2.2.2 m,hQ]
   constructor
   ·intro hm
    obtain⟨s,h1,_,h2,h3⟩:=g4 m hm
    exact⟨s,(hys s).1 h1,h2,h3⟩
   ·rintro⟨s,h1,h2,rfl⟩
    exact(g5 s ((hys s).2 h1)).elim (fun h=>by cases h) fun h=>h h2
  ·obtain⟨a,s,c2,rfl,rfl,rfl,rfl⟩:=gu hsp
   simp[h4,QX, -Bool.forall_bool, -Bool.exists_bool]
   have hsy:s∈ys:=g2 s (by simp)
   have hsub:∀x∈a++c2,x∈ys:=fun x h=>g2 x (by simp only[qwU,qwT]at h ⊢;rcases h with h|h <;> simp[h])
   have hnd2:(a++c2).Nodup/\s∉a++c2:=by
    obtain⟨n1,n2,n3⟩:=qx7.1 g3
    have n4:=qyF.1 n2
    refine⟨qx7.2 ⟨n1,n4.2,fun x hx y hy=>n3 x hx y (by simp[hy])⟩,fun h=>?_⟩
    rcases qwU.1 h with h|h
    ·exact n3 s h s (by simp) rfl
    ·exact n4.1 h
   have hnot:∀m∈out,∃u∈ys,u∉a++c2/\i < u.p/\m=(⟨i,u.p,Pn r u⟩:Match):=fun m hm=>by
    obtain⟨u,k1,k2,k3,k4⟩:=g4 m hm
    exact⟨u,k1,fun h=>k2 (by simp only[qwU,qwT]at h ⊢;rcases h with h|h <;> simp[h]),k3,k4⟩
   simp only[qxd,qxH]at g6
   have hsL:=tf r q.pat _ _ ((hys s).1 hsy) hs0
   have hsOk:qn0 s:=⟨hsL.1,by have:=hsL.2.1;have:=hen.2;omega,fun j=>⟨(hsL.2.2 j).1,by have:=(hsL.2.2 j).2;have:=hen.2;omega⟩⟩
   have hPa:Nl (.cptr (lp r (.own 990 v2)) 0,s):=⟨⟨r,_,rfl,hl3⟩,hsOk⟩
   refine⟨fun hgt=>⟨hPa,fun z hz=>?_⟩,fun hle=>?_⟩
   ·obtain rfl:=hz r _ rfl
    refine⟨by omega,by omega,fun v4=>⟨v4,out++ [⟨i,s.p,Pn r s⟩],_,a++c2,⟨?_,hsub,hnd2.1,fun m hm=>?_,fun u hu=>?_,by simp;omega⟩,⟨rfl, .inl ⟨rfl,(gX a c2).symm⟩, .inl ⟨rfl,by simp⟩⟩,by simp⟩⟩
    ·rw[qx7]
     refine⟨g1,by simp,fun m hm m' hm' e=>?_⟩
     simp at hm'
     subst hm'
     obtain⟨u,k1,k2,_,k4⟩:=g4 m hm
     rw[e]at k4
     injection k4 with _ e1 e2
     have:s=u:=qgt hl3 (sv hnd fun q h=>h.lab) ((hys s).1 hsy) ((hys u).1 k1) e1 e2
     subst this
     exact k2 (by simp)
    ·rcases qwU.1 hm with hm|hm
     ·exact hnot m hm
     ·simp at hm
      exact⟨s,hsy,hnd2.2,hgt,hm⟩
    ·rcases g5 u hu with h|h
     ·rcases qwU.1 h with h|h
      ·exact .inl (by simp[h])
      ·rcases qwT.1 h with rfl|h
       ·exact .inr fun _=>by simp
       ·exact .inl (by simp[h])
     ·exact .inr fun hp=>List.mem_append_left _ (h hp)
   ·refine⟨v3,out,_,a++c2,⟨g1,hsub,hnd2.1,hnot,fun u hu=>?_,by simp;omega⟩,⟨rfl, .inl ⟨rfl,(gX a c2).symm⟩, .inl ⟨rfl,rfl⟩⟩,by simp⟩
    rcases g5 u hu with h|h
    ·rcases qwU.1 h with h|h
     ·exact .inl (by simp[h])
     ·rcases qwT.1 h with rfl|h
      ·exact .inr fun hp=>absurd hp (by omega)
      ·exact .inl (by simp[h])
    ·exact .inr h
end Go.Gv

namespace Go.Gv
open Go.Proofs
open Cod (enc dec)
variable {S S0:Nat->Spc}
structure qln (a:List Attr) (q:Qry):Prop where
 glob:q.glob=GlobE
 filts:q.filts=[]
 strat:q.strat=0
 pat:pq bw q.pat=true
 size:km q.pat<=256
 l3:(aN q.pat []).length<=3
 num:iZ q.pat<=1000000
 att:a.length<=1000
 lv:∀x∈aM q.pat,qg6 a (aN q.pat []) x.cond=true/\∃n,HD n x.cond
abbrev HY(V:List Attr->Qry->Prop):Spc:=aJ (a2 Qry (List Attr)) (fun x=>V x.2 x.1) (enc (X:=Int)) fun _ y=>y=0
abbrev qip:Spc:=HY qln
structure G2 (V:List Attr->Qry->Prop) (c:Corpus) (q:Qry):Prop where
 v:V c.attrs q
 f:Xk c q.pat
abbrev qn2(c:Corpus)(q:Qry):Prop:=G2 qln c q
def qnU(x:Corpus×Qry)(y:List Match×Int):Prop:=(y.2=0/\SY x.1 (aN x.2.pat []) x.2.pat y.1/\y.1.length<=4096)\/(y.2=2/\y.1=[]/\∃k l,SX x.1 (aN x.2.pat []) x.2.pat k l/\4096 < l.length)
abbrev TP(V:List Attr->Qry->Prop):Spc:=aJ (a2 Corpus Qry) (fun x=>G2 V x.1 x.2) (ww (Y:=List Match) (Z:=Int)) qnU
abbrev qgZ:Spc:=TP qln
theorem qic{c:Corpus}{lb:List B}{p:Pat}{k:Int}{l l':List Match}(h:SX c lb p k l)(h':SY c lb p l'):l.length<=l'.length:=by
 have hs:l.Sublist l':=by
  have e:l=l'.filter fun m=>decide (m.b < k):=by
   refine A0 h.1 (h'.1.filter _) fun m=>?_
   rw[h.2,qx6,h'.2,decide_eq_true_iff]
   exact and_comm
  rw[e]
  exact qzj
 exact hs.length_le
theorem qgM{V:List Attr->Qry->Prop}(h1:S fV=HY V)(h2:S sd=N4):aq pU pf S (a2 Corpus Qry) (fun x=>G2 V x.1 x.2) (ww (Y:=List Match) (Z:=Int)) qnU:=by
 rintro⟨c,q⟩ hM
 have hM:G2 V c q:=hM
 have hV:V c.attrs q:=hM.v
 have hfew:=hM.f.few
 have htl:(c.toks.length:Int)<=9223372036854775807:=by omega
 simp[pU,pf,h1,hV,htl, -Bool.forall_bool, -Bool.exists_bool]
 refine ai (X:=Value×List Match) [2,3] [] c.toks.length (fun k x=>SX c (aN q.pat []) q.pat k x.2/\x.2.length<=4096) (fun x=>[(7, .own 27 x.1)]) (fun x=>[(27, .row x.1 sB 3 (x.2.map enc))]) (.slice none 0 0, []) (by simp) (by simp) (by omega) (by simp) (by simp) ⟨MU _ _ _,by simp⟩ (by simp) (by simp[isNilRow]) ?_ ?_
 ·rintro k ⟨v,l⟩ hk ⟨g1,g2⟩
  simp only at g1 g2
  have hPf:Xe (c,q,(k:Int)):=⟨hM.f,by show(0:Int)<=k;omega,by show(k:Int) < c.toks.length;omega⟩
  simp[h2,hPf, -Bool.forall_bool, -Bool.exists_bool]
  rintro y ⟨hy1,hy2⟩
  have hst:=MV g1 hy1
  exact⟨by omega,by omega,fun v' hle=>⟨fun h=> .inr ⟨rfl,rfl,_,_,hst,by simp;omega⟩,fun h=>⟨v',l++y,⟨hst,by simp;omega⟩,rfl, .inl ⟨rfl,by simp⟩⟩⟩⟩
 ·rintro⟨v,l⟩ ⟨g1,g2⟩
  simp only at g1 g2
  simp[-Bool.forall_bool, -Bool.exists_bool]
  exact⟨l,gh sB (by simp[ah]), .inl ⟨rfl,Ru g1,g2⟩⟩
def qnS(x:Corpus×Qry×Int)(y:List Match×Int):Prop:=∀l,Gn x.1 (aN x.2.1.pat []) x.2.1.pat x.2.2 l->if l.length<=4096 then y=(l,0)else y=([],2)
def qdG(V:List Attr->Qry->Prop)(x:Corpus×Qry×Int):Prop:=G2 V x.1 x.2.1/\0<=x.2.2/\x.2.2 < x.1.toks.length
abbrev QA(V:List Attr->Qry->Prop):Spc:=aJ (a3 Corpus Qry Int) (qdG V) (ww (Y:=List Match) (Z:=Int)) qnS
theorem qeh{V:List Attr->Qry->Prop}(h1:S fV=HY V)(h2:S sd=N4):aq vJ uY S (a3 Corpus Qry Int) (qdG V) (ww (Y:=List Match) (Z:=Int)) qnS:=by
 rintro⟨c,q,i⟩ ⟨hM,hi0,hi1⟩
 have hM:G2 V c q:=hM
 have hi0:0<=i:=hi0
 have hi1:i < c.toks.length:=hi1
 have hV:V c.attrs q:=hM.v
 have hfew:=hM.f.few
 have htl:(c.toks.length:Int)<=9223372036854775807:=by omega
 have hPf:Xe (c,q,i):=⟨hM.f,hi0,hi1⟩
 have hn1:¬i < 0:=by omega
 have hn2:¬ (c.toks.length:Int)<=i:=by omega
 simp[vJ,uY,h1,h2,hV,htl,hPf,hn1,hn2, -Bool.forall_bool, -Bool.exists_bool]
 rintro y ⟨hy1,hy2⟩ _
 exact⟨fun h l hl=>by rw[MW hl hy1,if_neg (by omega)],fun h=>⟨y, .same _,fun l hl=>by rw[MW hl hy1,if_pos (by omega)]⟩⟩
end Go.Gv
