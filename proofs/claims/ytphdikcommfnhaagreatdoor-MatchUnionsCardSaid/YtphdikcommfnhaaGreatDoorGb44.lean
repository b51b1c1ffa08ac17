/- A part of the framework and of the walks: W190 V65 W188 W189. -/
import Derived.Test.YtphdikcommfnhaaGreatDoorGb43
import Derived.Test.YtphdikcommfnhaaGreatDoorGb25
import Derived.Test.YtphdikcommfnhaaGreatDoorGb29
import Derived.Test.YtphdikcommfnhaaGreatDoorGb38
import Derived.Test.YtphdikcommfnhaaGreatDoorGb39
import Derived.Test.YtphdikcommfnhaaGreatDoorGb41
import Derived.Test.YtphdikcommfnhaaGreatDoorGb42
import Derived.Test.YtphdikcommfnhaaGreatDoorGb37
set_option linter.unusedSimpArgs false
set_option linter.unusedVariables false
set_option maxRecDepth 100000
set_option linter.unusedSectionVars false

namespace Go.Gv
open Cod (enc dec)
variable {S S0:Nat->Spc}
theorem UQ{σ:Sg}{H:ab}{k j b el n:Nat}{cs cs':List D}(hkj:j≠k)(hk:H k=some (.box b cs))(hl:cs.length=cs'.length)(hc:∀ (m:Nat) (c c':D),cs[m]? =some c->cs'[m]? =some c'->FrzTo bU c c'):
 Wk σ H σ (ah (ah H k (some (.box b cs'))) j (some (.row (.slice none 0 0) el n []))):=by
 refine Xd (Hf:=bU) id (fun t=> .same _) (fun i r h=>?_) (fun i j r s _ _ e=> .inl e) (fun i r h=>by simp[bU]at h)
 by_cases e:i=j
 ·subst e
  simp[ah]at h
  subst h
  exact .inr ⟨rfl,rfl⟩
 ·by_cases e2:i=k
  ·subst e2
   simp[ah,e]at h
   subst h
   exact .inl ⟨_,hk, .inr ⟨rfl,hl,hc⟩⟩
  ·simp only[ah,e,e2,if_false]at h
   exact .inl ⟨r,h, .inl rfl⟩
def Iq:Nat->Cond->Prop
 | 0,_=>False
 | n+1,x=>x.kids.length<=1000000/\∀k∈x.kids,Iq n k
abbrev HE(n:Nat):Spc:=bp (a1 Cond) (Iq n) (enc (X:=Cond)) fun x y=>y=x
theorem GV(n:Nat)(h1:S eG=HE n):ar qH qp S (a1 Cond) (Iq (n+1)) (enc (X:=Cond)) fun x y=>y=x:=by
 rintro⟨op,name,arg,val,lab,fold,kids⟩ ⟨hlen,hk⟩
 simp only at hlen hk
 simp[qH,qp]
 intro b2 b3 hkl
 refine DW (UQ (k:=3) (j:=20) (b:=b3) (el:=L0) (n:=7) (cs':=[.v (.int .i64 op), .v (.string name), .v (.string arg), .v (.string val), .v (.string lab), .v (.bool fold), .own 20 (.slice none 0 0)]) (by decide) (by simp;rfl) (by simp) ?_) ?_
 ·intro m c c' hc hc'
  match m with
  | 0|1|2|3|4|5=>simp at hc hc';subst hc;subst hc';exact .same _
  | 6=>simp at hc hc';subst hc;subst hc';exact .nilown _
  | m+7=>simp at hc
 refine ak (X:=Value×List Cond) [2,9] [2] kids.length (fun k x=>x.2=kids.take k) (fun x=>[(3, .bptr 3 b3 0)]) (fun x=>[(3, .box b3 [.v (.int .i64 op), .v (.string name), .v (.string arg), .v (.string val), .v (.string lab), .v (.bool fold), .own 20 x.1]),(20, .row x.1 L0 7 (x.2.map enc))]) (.slice none 0 0, []) (by simp) (by simp) (by omega) (by simp) (by simp) (by simp) (by simp) (by simp) ?_ ?_
 ·rintro k ⟨v,m⟩ hkl' hm
  simp only at hm
  obtain⟨x,hx⟩:=dO hkl'
  obtain⟨_,hgx⟩:=qsT.1 hx
  have hx1:=hk x (dY hx)
  have hml:m.length=k:=by rw[hm,qtu];omega
  simp[h1,hkl',hx,hgx,hx1]
  refine⟨by omega,by omega,fun v=> .inl (.inl ?_)⟩
  rw[hm,List.map_take,quB]
  simp[hx]
 ·rintro⟨v,m⟩ hm
  simp only at hm
  rw[qtD]at hm
  subst hm
  simp
  refine cV (Y:=Cond) ⟨op,name,arg,val,lab,fold,m⟩ ?_ rfl
  simp
  refine .agg (by simp) fun i c c' h h'=>?_
  match i with
  | 0|1|2|3|4|5=>simp at h h';subst h;subst h';exact .same _
  | 6=>simp at h h';subst h;subst h';exact iX L0 (by simp)
  | i+7=>simp at h
theorem qsJ{H:ab}{l l':List D}(h:FzL H l l'):FrzTo H (.agg l) (.agg l'):= .agg h.get.1 h.get.2
abbrev Ee:Spc:=bp (a1 Cond) (fun x=>∃n,Iq n x) (enc (X:=Cond)) fun x y=>y=x
def BI(p:Pat):Pat:=⟨p.op,p.cond,p.lab,⟨#[]⟩,0,0, []⟩
abbrev Cy:Spc:=bp (a1 Pat) (fun p=>∃n,Iq n p.cond) (enc (X:=Pat)) fun x y=>y=BI x
theorem JP(h1:S eG=Ee):ar sV so S (a1 Pat) (fun p=>∃n,Iq n p.cond) (enc (X:=Pat)) fun x y=>y=BI x:=by
 rintro p hp
 simp[sV,so,h1,hp]
 intro b
 refine cV (Y:=Pat) (BI p) ?_ rfl
 unfold BI
 simp
 refine qsJ ?_
 simp
def dP(p:Pat):List Pat:=(bD p).map BI
theorem wD(p:Pat):dP p=if p.op=1 then[BI p]else p.kids.flatMap dP:=by
 unfold dP
 rw[du]
 split
 ·rfl
 ·rw[List.map_flatMap]
def PLc(p:Pat):Prop:=∀y∈bD p,∃n,Iq n y.cond
theorem PLc.kid{p k:Pat}(h:PLc p)(hne:¬p.op=1)(hk:k∈p.kids):PLc k:=fun y hy=>h y (by rw[du,if_neg hne];exact qtX.2 ⟨k,hk,hy⟩)
theorem YO{ks:List Pat}{k:Nat}{x:Pat}(l:List Pat)(hx:ks[k]? =some x):(l++ (ks.take k).flatMap dP) ++dP x=l++ (ks.take (k+1)).flatMap dP:=by
 rw[cO hx,qvr,List.flatMap_singleton,qtG]
def qgB(x:Pat)(l:List Pat):Prop:=l.length+ (bD x).length<=100000000/\PLc x
theorem qft(ks:List Pat):(ks.flatMap dP).length=(ks.flatMap bD).length:=by
 induction ks with
 | nil=>rfl
 | cons k ks ih=>simp only[qtE,qtg,ih];unfold dP;simp
theorem YN{ks:List Pat}{k:Nat}{x:Pat}{l:List Pat}(hx:ks[k]? =some x)(h:l.length+ (ks.flatMap bD).length<=100000000)(hc:PLc x):qgB x (l++ (ks.take k).flatMap dP):=by
 have:=qfs hx h
 unfold qqG at this
 refine⟨?_,hc⟩
 simp only[qtg]at this ⊢
 rw[qft]
 exact this
abbrev EH(n:Nat):Spc:=qhd (X:=Pat) (Y:=Pat) (fun x l=>fH x<=n/\qgB x l) (fun x l r=>r=l++dP x) gh 13
abbrev i_leavesQA:Spc:=qhd (X:=Pat) (Y:=Pat) (fun x l=>qgB x l) (fun x l r=>r=l++dP x) gh 13
theorem GT(n:Nat)(h1:S cF=EH n)(h2:S ia=Cy):Ta (X:=Pat) (Y:=Pat) gV gS S (fun x l=>fH x<=n+1/\qgB x l) (fun x l r=>r=l++dP x) gh 13:=by
 rintro v l p ⟨hp,hl,hc⟩
 have hk:∀k∈p.kids,fH k<=n:=fun k hk=>by have:=kP hk;have:fH p<=n+1:=hp;omega
 have hl':=hl
 rw[du]at hl'
 simp[gV,gS,h2]
 refine⟨fun h1=>?_,fun hne _=>?_⟩
 ·have hcc:∃n,Iq n p.cond:=hc p (by rw[du,if_pos h1];simp)
  simp[h1]at hl'
  exact⟨hcc,by omega,by omega,fun v=>tJ (l++dP p) (by simp[wD,h1]) rfl⟩
 rw[if_neg hne]at hl'
 refine ak (X:=Value×List Pat) [16] [] p.kids.length (fun k x=>x.2=l++ (p.kids.take k).flatMap dP) (fun x=>[(1, .own 1 x.1)]) (fun x=>[(1, .row x.1 gh 13 (x.2.map enc))]) (v,l) (by simp) (by simp) (by omega) (by simp) (by simp) (by simp) (by simp) (by simp[isNilRow]) ?_ ?_
 ·rintro k ⟨v,m⟩ hkl hm
  simp only at hm
  obtain⟨x,hx⟩:=dO hkl
  have hx1:=dY hx
  obtain⟨_,hgx⟩:=qsT.1 hx
  have q1:=YN hx hl' (hc.kid hne hx1)
  rw[<-hm]at q1
  have q2:=hk x hx1
  simp[h1,hkl,hx,hgx,q1,q2]
  intro v'
  refine .inl ?_
  rw[hm,YO _ hx]
 ·rintro⟨v,m⟩ hm
  simp only at hm
  rw[qtD]at hm
  simp
  refine tJ m (by simp) ?_
  rw[hm,wD,if_neg hne]
abbrev Wu:Spc:=qjc (Y:=Pat) (aE Pat (aD a0)) (fun x=>x.2.1=YA/\qgB x.1 []) (fun x r=>r=dP x.1) gh 13
theorem FL(h1:S cF=i_leavesQA)(h2:S ia=Cy):UA (Y:=Pat) gV gS S (aE Pat (aD a0)) (fun x=>x.2.1=YA/\qgB x.1 []) (fun x r=>r=dP x.1) gh 13:=by
 rintro⟨p,d,⟨⟩⟩ ⟨hd,hl,hc⟩
 have hd:d=YA:=hd
 subst hd
 have hl':([]:List Pat).length+ (bD p).length<=100000000:=hl
 rw[du]at hl'
 simp[gV,gS,h2]
 refine⟨fun h1=>⟨hc p (by rw[du,if_pos h1];simp),fun v=>tJ (dP p) (by simp[wD,h1]) rfl⟩,fun hne _=>?_⟩
 rw[if_neg hne]at hl'
 refine ak (X:=Value×List Pat) [16] [] p.kids.length (fun k x=>x.2=[] ++ (p.kids.take k).flatMap dP) (fun x=>[(1, .own 1 x.1)]) (fun x=>[(1, .row x.1 gh 13 (x.2.map enc))]) (.slice none 0 0, []) (by simp) (by simp) (by omega) (by simp) (by simp) (by simp) (by simp) (by simp[isNilRow]) ?_ ?_
 ·rintro k ⟨v,m⟩ hkl hm
  simp only at hm
  obtain⟨x,hx⟩:=dO hkl
  have hx1:=dY hx
  obtain⟨_,hgx⟩:=qsT.1 hx
  have q1:=YN hx hl' (hc.kid hne hx1)
  rw[<-hm]at q1
  simp[h1,hkl,hx,hgx,q1]
  intro v'
  refine .inl ?_
  rw[hm,YO _ hx]
  rfl
 ·rintro⟨v,m⟩ hm
  simp only at hm
  rw[qtD]at hm
  simp
  refine tJ m (by simp) ?_
  rw[hm,wD,if_neg hne]
  rfl
abbrev s_leavesQ:Spc:=qit Wu i_leavesQA
def uQ(out:List B)(x:B):List B:=if x=E0 then out else qat out x
mutual
def bV:Pat->List B->List B
 | .mk op c l r mn mx ks,out=>IE ks (uQ out l)
def IE:List Pat->List B->List B
 | [],out=>out
 | k::ks,out=>IE ks (bV k out)
end
theorem Fz:∀ (l:List Pat) (out:List B),IE l out=l.foldl (fun o k=>bV k o) out
 | [],out=>by rw[IE];rfl
 | k::l,out=>by rw[IE,Fz l];rfl
theorem Dc(p:Pat)(out:List B):bV p out=p.kids.foldl (fun o k=>bV k o) (uQ out p.lab):=by
 cases p;rw[bV,Fz]
theorem Js(out:List B)(x:B):(uQ out x).length<=out.length+1:=by
 unfold uQ qat
 split
 ·omega
 ·split
  ·omega
  ·simp
theorem V9(p:Pat):∀out,(bV p out).length<=out.length+tq p:=by
 induction p using tD with|_ p ih=>?_
 intro out
 rw[Dc,tE]
 have:∀ (ks:List Pat) (o:List B),(∀k∈ks,k∈p.kids)->(ks.foldl (fun o k=>bV k o) o).length<=o.length+fj ks:=by
  intro ks
  induction ks with
  | nil=>intro o _;simp[fj]
  | cons k ks ihk=>
    intro o hk
    rw[quv,fj]
    have h1:=ihk (bV k o) fun z hz=>hk z (by simp[hz])
    have:=ih k (hk k (by simp)) o
    omega
 have h1:=this p.kids (uQ out p.lab) fun _ h=>h
 have h2:=Js out p.lab
 omega
theorem K7(ks:List Pat)(k:Nat)(lb:List B):((ks.take k).foldl (fun o k=>bV k o) lb).length<=lb.length+fj (ks.take k):=by
 generalize ks.take k=l
 induction l generalizing lb with
 | nil=>simp[fj]
 | cons a l ih=>
   rw[quv,fj]
   have h1:=ih (bV a lb)
   have h2:=V9 a lb
   omega
def Y8(l:List B)(x:B):Bool:=l.any fun z=>decide (z=x)
theorem IK{l:List B}{x:B} :Y8 l x=true↔x∈l:=by
 unfold Y8
 rw[qt3]
 exact⟨fun⟨z,h1,h2⟩=>by rw[decide_eq_true_eq]at h2;rwa [<-h2],fun h=>⟨x,h,decide_eq_true rfl⟩⟩
abbrev s_hasE:Spc:=bp (aE (List B) (a1 B)) (fun _=>True) (enc (X:=Bool)) fun x y=>y=Y8 x.1 x.2
abbrev qjW:Spc:=qm4 (Y:=B) (a1 B) (fun _=>True) (enc (X:=Bool)) (fun x y=>y=Y8 x.1 x.2) az 1
theorem AI(h1:S aM=vS):ar cq cp S (aE (List B) (a1 B)) (fun _=>True) (enc (X:=Bool)) fun x y=>y=Y8 x.1 x.2:=by
 rintro⟨l,x⟩ -
 simp[cq,cp,h1]
 exact tG _ l
abbrev s_has2:Spc:=qit s_hasE qjW
def WZ(x:Pat)(l:List B):Prop:=l.length+tq x<=1000000
def qj6(x:Pat)(l r:List B):Prop:=r=bV x l
abbrev IJ(n:Nat):Spc:=qhd (X:=Pat) (Y:=B) (fun x l=>fH x<=n/\WZ x l) qj6 az 1
abbrev i_labelsA:Spc:=qhd (X:=Pat) (Y:=B) WZ qj6 az 1
theorem GU(n:Nat)(h0:S aF=s_has2)(h1:S br=IJ n):Ta (X:=Pat) (Y:=B) gW gT S (fun x l=>fH x<=n+1/\WZ x l) qj6 az 1:=by
 rintro v lb p ⟨hd,hl⟩
 have hk:∀k∈p.kids,fH k<=n:=fun k h=>by have:=kP h;have:fH p<=n+1:=hd;omega
 have hl:lb.length+tq p<=1000000:=hl
 have hpn:=tE p
 simp[gW,gT,h0]
 refine bB (X:=Value) [2] [] (fun _=>True) (fun v=>[(1, .own 1 v)]) (fun v=>[(1, .row v az 1 ((uQ lb p.lab).map enc))]) ?_ ?_
 ·simp[h0, -Bool.forall_bool]
  refine⟨fun hn=>?_,fun he=>?_⟩
  ·have hn:¬p.lab=E0:=hn
   refine .inr ⟨fun hf=>⟨by omega,by omega,fun v=> .inl ?_⟩,fun ht=> .inl ?_⟩
   ·rw[uQ,if_neg hn,qat,if_neg (fun h=>by rw[IK.2 h]at hf;cases hf)]
    simp
   ·rw[uQ,if_neg hn,qat,if_pos (IK.1 ht)]
  ·have he:p.lab=E0:=he
   refine .inl ?_
   rw[uQ,if_pos he]
 ·rintro v -
  have hae:=Js lb p.lab
  simp
  intro hkl
  refine ak (X:=Value×List B) [23] [] p.kids.length (fun k x=>x.2=(p.kids.take k).foldl (fun o k=>bV k o) (uQ lb p.lab)) (fun x=>[(1, .own 1 x.1)]) (fun x=>[(1, .row x.1 az 1 (x.2.map enc))]) (v,uQ lb p.lab) (by simp) (by simp) (by omega) (by simp) (by simp) (by simp) (by simp) (by simp) ?_ ?_
  ·rintro k ⟨v,ls⟩ hkk hls
   simp only at hls
   obtain⟨x,hx⟩:=dO hkk
   obtain⟨_,hgx⟩:=qsT.1 hx
   have hq:WZ x ls:=by
    have h2:=K7 p.kids k (uQ lb p.lab)
    rw[<-hls]at h2
    have h4:fj (p.kids.take k) +fj (p.kids.drop k)=fj p.kids:=by rw[<-KW,qtx]
    rw[nq hx,fj]at h4
    show ls.length+tq x<=_
    omega
   have hq2:=hk x (dY hx)
   simp[hkk,hx,hgx,h1,hq,hq2]
   intro v' l' hy
   obtain rfl:l'=bV x ls:=hy
   refine .inl ?_
   rw[cO hx,qvG,<-hls]
   rfl
  ·rintro⟨v,ls⟩ hls
   simp only at hls
   rw[qtD]at hls
   simp
   refine tJ ls (by simp) ?_
   show ls=bV p lb
   rw[Dc,hls]
abbrev Zu:Spc:=qjc (Y:=B) (aE Pat (aD a0)) (fun x=>x.2.1= .v (.slice none 0 0)/\WZ x.1 []) (fun x r=>qj6 x.1 [] r) az 1
theorem FM(h0:S aF=s_has2)(h1:S br=i_labelsA):UA (Y:=B) gW gT S (aE Pat (aD a0)) (fun x=>x.2.1= .v (.slice none 0 0)/\WZ x.1 []) (fun x r=>qj6 x.1 [] r) az 1:=by
 rintro⟨p,d,⟨⟩⟩ ⟨hd,hl⟩
 have hd:d= .v (.slice none 0 0):=hd
 subst hd
 have hl:0+tq p<=1000000:=hl
 have hpn:=tE p
 simp[gW,gT,h0]
 refine bB (X:=Value) [2] [] (fun _=>True) (fun v=>[(1, .own 21 v)]) (fun v=>[(21, .row v az 1 ((uQ [] p.lab).map enc))]) ?_ ?_
 ·simp[h0, -Bool.forall_bool]
  refine⟨fun hn=>?_,fun he=>?_⟩
  ·have hn:¬p.lab=E0:=hn
   refine .inl ⟨fun hf v=> .inl ?_,fun ht=>absurd (IK.1 ht) (by simp)⟩
   rw[uQ,if_neg hn,qat,if_neg (by simp)]
   simp
  ·have he:p.lab=E0:=he
   rw[uQ,if_pos he]
   simp[isNilRow]
 ·rintro v -
  have hae:=Js [] p.lab
  simp
  intro hkl
  refine ak (X:=Value×List B) [23] [] p.kids.length (fun k x=>x.2=(p.kids.take k).foldl (fun o k=>bV k o) (uQ [] p.lab)) (fun x=>[(1, .own 21 x.1)]) (fun x=>[(21, .row x.1 az 1 (x.2.map enc))]) (v,uQ [] p.lab) (by simp) (by simp) (by omega) (by simp) (by simp) (by simp) (by simp) (by simp) ?_ ?_
  ·rintro k ⟨v,ls⟩ hkk hls
   simp only at hls
   obtain⟨x,hx⟩:=dO hkk
   obtain⟨_,hgx⟩:=qsT.1 hx
   have hq:WZ x ls:=by
    have h2:=K7 p.kids k (uQ [] p.lab)
    rw[<-hls]at h2
    have hae2:(uQ [] p.lab).length<=0+1:=hae
    have h4:fj (p.kids.take k) +fj (p.kids.drop k)=fj p.kids:=by rw[<-KW,qtx]
    rw[nq hx,fj]at h4
    show ls.length+tq x<=_
    omega
   simp[hkk,hx,hgx,h1,hq]
   intro v' l' hy
   obtain rfl:l'=bV x ls:=hy
   refine .inl ?_
   rw[cO hx,qvG,<-hls]
   rfl
  ·rintro⟨v,ls⟩ hls
   simp only at hls
   rw[qtD]at hls
   simp
   refine tJ ls (by simp) ?_
   show ls=bV p []
   rw[Dc,hls]
abbrev s_qlabels:Spc:=qit Zu i_labelsA
abbrev rT:Spc:=bp (a1 Pat) (fun x=>WZ x []) (enc (X:=List B)) fun x y=>y=if qY cD x then bV x []else[]
theorem GW(h1:S pz=qf)(h2:S br=s_qlabels):ar qI qq S (a1 Pat) (fun x=>WZ x []) (enc (X:=List B)) fun x y=>y=if qY cD x then bV x []else[]:=by
 rintro p hp
 simp[qI,qq,h1,h2, -Bool.forall_bool]
 clear h1 h2
 exact⟨fun h=>cV [] (by simp) (by rw[h];rfl),fun h=> .inl ⟨hp,fun v l hl=>cV l (iX az (by simp)) (by rw[h];exact hl)⟩⟩
end Go.Gv

namespace Go.Gv
open Go.Proofs
theorem MH{T R:St3->St3->Prop}(h0:∀s,T s s)(h1:∀s t u,T s t->T t u->T s u)(hR:∀s t,R s t->T s t):∀ {n:Nat} {s t:St3},Pow R n s t->T s t
 | 0,s,t,h=>by cases h;exact h0 s
 | n+1,s,t,⟨u,a,b⟩=>h1 _ _ _ (hR _ _ a) (MH h0 h1 hR b)
section
variable {T:St3->St3->Prop}(h0:∀s,T s s)(h1:∀s t u,T s t->T t u->T s u)(r:Rn)
include h0 h1
mutual
theorem GH:∀p:Pat,kg (fun q=>q.op=1->∀s,T s (EB r q s)) p->∀s t,kU r p s t->T s t
 | .mk op cond lab reg mn mx ks,h,s,t,hD=>by
   have hs:=jH h
   have hk:∀k∈ks,kg (fun q=>q.op=1->∀s,T s (EB r q s)) k:=fun k hk=>pS h hk
   rw[kU]at hD
   split at hD
   ·rename_i e
    rw[hD.2.2]
    exact hs e s
   ·split at hD
    ·rw[hD.2];exact h0 s
    ·split at hD
     ·exact PS ks hk s t hD
     ·split at hD
      ·exact PU ks hk s t hD
      ·exact ZL ks mn mx hk s t hD
theorem PS:∀ks:List Pat,(∀k∈ks,kg (fun q=>q.op=1->∀s,T s (EB r q s)) k)->∀s t,uT r ks s t->T s t
 | [],_,s,t,h=>by rw[vx]at h;rw[<-h];exact h0 s
 | k::ks,hk,s,t,h=>by
   rw[vy]at h
   obtain⟨u,a,b⟩:=h
   exact h1 _ _ _ (GH k (hk k (by simp)) s u a) (PS ks (fun q hq=>hk q (by simp[hq])) u t b)
theorem PU:∀ks:List Pat,(∀k∈ks,kg (fun q=>q.op=1->∀s,T s (EB r q s)) k)->∀s t,uU r ks s t->T s t
 | [],_,s,t,h=>by rw[Ds]at h;exact h.elim
 | k::ks,hk,s,t,h=>by
   rw[rJ]at h
   rcases h with h|h
   ·exact GH k (hk k (by simp)) s t h
   ·exact PU ks (fun q hq=>hk q (by simp[hq])) s t h
theorem ZL:∀ (ks:List Pat) (mn mx:Int),(∀k∈ks,kg (fun q=>q.op=1->∀s,T s (EB r q s)) k)->∀s t,DI r ks mn mx s t->T s t
 | [],_,_,_,s,t,h=>by rw[DI]at h;exact h.elim
 | k::ks,mn,mx,hk,s,t,h=>by
   rw[DI]at h
   obtain⟨u,a,n,_,b⟩:=h
   have hT:=GH k (hk k (by simp))
   exact h1 _ _ _ (MH h0 h1 hT a) (MH h0 h1 (fun s t q=>hT s t q.1) b)
end
end
def Fx(n:Nat)(s t:St3):Prop:=∀i,n<=i->i < 3->t.get i=s.get i
theorem Sw(s:St3)(i j:Nat)(x:Int)(hi:i < 3)(hj:j < 3)(h:i≠j):(s.set i x).get j=s.get j:=by
 rcases i with _|_|_|i <;> rcases j with _|_|_|j <;> first|rfl|omega
theorem Zj{r:Rn}{p:Pat}(hl:r.lb.length<=3)(h:kg (fun q=>q.lab≠qP->sC r.lb q.lab=true) p){s t:St3}(hD:kU r p s t):Fx r.lb.length s t:=by
 refine GH (T:=Fx r.lb.length) (fun s i _ _=>rfl) (fun s t u a b i hi h3=>(b i hi h3).trans (a i hi h3)) r p (rG h fun q hq _ s i hi h3=>?_) s t hD
 unfold EB
 dsimp only
 split
 ·rcases i with _|_|i <;> rfl
 ·rename_i hne
  have hin:=hq hne
  have h4:=zj (fun z=>decide (z=q.lab)) r.lb
  have h5:decide (0<=gy r.lb fun z=>decide (z=q.lab))=true:=(tG _ _).trans hin
  have h6:=of_decide_eq_true h5
  have:((s.set (gy r.lb fun z=>decide (z=q.lab)).toNat (s.p+1)).get i)=s.get i:=Sw _ _ _ _ (by omega) h3 (by omega)
  rcases i with _|_|i <;> exact this
theorem Ux(r:Rn)(s:St3){i:Nat}(hi:i < r.lb.length):(NG r s)[i]? =some (s.get i -1):=by
 unfold NG
 rw[qta,qtZ hi];rfl
theorem XI{s t:St3}(h:s.p=t.p)(hg:∀i,i < 3->s.get i=t.get i):s=t:=by
 obtain⟨a,b,c,d⟩:=s
 obtain⟨a',b',c',d'⟩:=t
 have e0:=hg 0 (by decide)
 have e1:=hg 1 (by decide)
 have e2:=hg 2 (by decide)
 simp only[St3.get]at e0 e1 e2 h
 rw[h,e0,e1,e2]
theorem qdd{r:Rn}{p:Pat}(hl:r.lb.length<=3)(h:kg (fun q=>q.lab≠qP->sC r.lb q.lab=true) p){s t u:St3}(h1:kU r p s t)(h2:kU r p s u)(e1:t.p=u.p)(e2:NG r t=NG r u):t=u:=by
 refine XI e1 fun i hi=>?_
 by_cases hn:i < r.lb.length
 ·have a:=Ux r t hn
  have b:=Ux r u hn
  rw[e2,b]at a
  have:=qs8 a
  omega
 ·rw[Zj hl h h1 i (by omega) hi,Zj hl h h2 i (by omega) hi]
theorem qb1{m:Nat}{s:St3}(h:QI m s):VF (m+1) s < (m+1) * (m+1) * (m+1) * (m+1):=by
 obtain⟨h1,h2,h3⟩:=h
 have a:=h3 0
 have b:=h3 1
 have c:=h3 2
 simp only[St3.get]at a b c
 unfold VF
 have p1:s.p.toNat<=m:=by omega
 have p2:s.b0.toNat<=m:=by omega
 have p3:s.b1.toNat<=m:=by omega
 have p4:s.b2.toNat<=m:=by omega
 generalize s.p.toNat=x at*
 generalize s.b0.toNat=y at*
 generalize s.b1.toNat=z at*
 generalize s.b2.toNat=w at*
 have q1:x* (m+1) +y < (m+1) * (m+1):=by
  have:=qtt (m+1) p1
  rw[qtB m (m+1)];omega
 have q2:(x* (m+1) +y) * (m+1) +z < (m+1) * (m+1) * (m+1):=by
  have:=qtt (m+1) (qvH q1)
  rw[qtB]at this;omega
 have:=qtt (m+1) (qvH q2)
 rw[qtB]at this
 omega
theorem SJ{m a b c d:Nat}(hb:b < m)(hd:d < m)(h:a*m+b=c*m+d):a=c/\b=d:=by
 have h1:(a*m+b) /m=a:=by rw[qt5,Nat.mul_add_div (by omega),Nat.div_eq_of_lt hb];omega
 have h2:(c*m+d) /m=c:=by rw[qt5,Nat.mul_add_div (by omega),Nat.div_eq_of_lt hd];omega
 rw[h]at h1
 have e:a=c:=h1.symm.trans h2
 subst e
 exact⟨rfl,by omega⟩
theorem Yy{m:Nat}{s t:St3}(hs:QI m s)(ht:QI m t)(h:VF (m+1) s=VF (m+1) t):s=t:=by
 obtain⟨h1,h2,h3⟩:=hs
 obtain⟨k1,k2,k3⟩:=ht
 have a0:=h3 0;have a1:=h3 1;have a2:=h3 2
 have b0:=k3 0;have b1:=k3 1;have b2:=k3 2
 simp only[St3.get]at a0 a1 a2 b0 b1 b2
 unfold VF at h
 obtain⟨h,e1⟩:=SJ (by omega) (by omega) h
 obtain⟨h,e2⟩:=SJ (by omega) (by omega) h
 obtain⟨e4,e3⟩:=SJ (by omega) (by omega) h
 refine XI (by omega) fun i hi=>?_
 rcases i with _|_|_|i
 ·show s.b0=t.b0;omega
 ·show s.b1=t.b1;omega
 ·show s.b2=t.b2;omega
 ·omega
theorem Ri{m:Int}(hm:m<=170){l:List St3}(hn:l.Nodup)(h:∀s∈l,QI m s):l.length<=1000000000:=by
 by_cases h0:0<=m
 ·obtain⟨k,rfl⟩:∃k:Nat,m=(k:Int):=⟨m.toNat,by omega⟩
  have h1:=K1 (f:=VF (k+1)) hn (fun x hx=>qb1 (h x hx)) fun x hx y hy e=>Yy (h x hx) (h y hy) e
  have h2:(k+1) * (k+1)<=171*171:=qvg (by omega) (by omega)
  have h3:=qvg h2 (show k+1<=171 by omega)
  have h4:=qvg h3 (show k+1<=171 by omega)
  omega
 ·cases l with
  | nil=>exact qtl _
  | cons s l=>have:=(h s (by simp));have a:=this.1;have b:=this.2.1;omega
end Go.Gv

namespace Go.Gv
open Go.Proofs
open Cod (enc dec)
variable {S S0:Nat->Spc}
theorem OF(p:Pat):∀d:Int,dg p d=true->(fH p:Int) +d<=101:=by
 induction p using tD with|_ p ih=>?_
 intro d h
 rw[lZ]at h
 simp only[qs1,decide_eq_true_eq,qsX]at h
 rw[Gw]
 have:∀ks:List Pat,(∀k∈ks,k∈p.kids)->(Fs ks:Int) +d<=100:=by
  intro ks
  induction ks with
  | nil=>intro _;rw[Fs];have:=h.1;simp;omega
  | cons k ks ihk=>
    intro hk
    have h1:=ihk fun z hz=>hk z (by simp[hz])
    have h2:=ih k (hk k (by simp)) (d+1) (h.2 k (hk k (by simp)))
    rw[Fs]
    omega
 have:=this p.kids fun _ h=>h
 omega
structure UJ (c:Corpus) (p:Pat):Prop where
 sz:qgQ c
 few:c.toks.length<=170
 pat:qY cD p=true
 l3:(bV p []).length<=3
 num:tq p<=1000000
 nd:∀t∈c.texts,kg (qdm (Ag c (bV p []) t)) p
def qaK(x:Corpus×Qry×Int):Prop:=UJ x.1 x.2.1.pat/\0<=x.2.2/\x.2.2 < x.1.toks.length
def qd5(x:Corpus×Qry×Int)(y:List Match):Prop:=qaT x.1 (bV x.2.1.pat []) x.2.1.pat x.2.2 y/\y.length<=1000000000
abbrev Mn:Spc:=bp (a3 Corpus Qry Int) qaK (enc (X:=List Match)) qd5
abbrev b_masg:Spc:=qd0 (a1 St3) Lx (enc (X:=List Int)) QB
theorem qbc(h1:S lg=Ef)(h2:S ni=rT)(h3:S bu=Ay 101)(h4:S bJ=b_masg)(h5:S fW=Mg eb rN):ar pJ pj S (a3 Corpus Qry Int) qaK (enc (X:=List Match)) qd5:=by
 rintro⟨c,q,i⟩ ⟨hF,hi0,hi1⟩
 have hF:UJ c q.pat:=hF
 have hi0:0<=i:=hi0
 have hi1:i < c.toks.length:=hi1
 have hPb:WZ q.pat []:=by show 0+tq q.pat<=1000000;have:=hF.num;omega
 have hfew:=hF.few
 have htl:(c.toks.length:Int)<=9223372036854775807:=by omega
 rcases Xt (c:=c) (i:=i)with⟨k1,k2⟩|⟨k,t,k1,k2,k3⟩
 ·simp[pJ,pj,h1,k1, -Bool.forall_bool, -Bool.exists_bool]
  refine cV [] (.nil _) ⟨⟨List.Pairwise.nil,fun m=>⟨fun h=>(by cases h),?_⟩⟩,qtl _⟩
  rintro⟨e,_,_,t,ht,_⟩
  have e:m.b=i:=e
  rw[e,k2]at ht
  cases ht
 ·have hkl:k < c.texts.length:=(qsT.1 k2).1
  obtain⟨_,hgt⟩:=qsT.1 k2
  have hkn:¬ (k:Int) < 0:=by omega
  simp[pJ,pj,h1,k1,hkn,hkl,k2,hgt,h2,hPb,hF.pat,htl, -Bool.forall_bool, -Bool.exists_bool]
  intro b8
  refine jF (X:=Nat×Value) [2,4] [] [] [(990,34)] (fun _=>True) (fun x=>[(9, .bptr 36 x.1 0)]) (fun x=>[(36, .box x.1 (kW (Ag c (bV q.pat []) t) (.own 990 x.2))),(990, .mrow x.2 [])]) [36,990] (fun _=>rfl) (by decide) ?_ ?_
  ·simp[h2,hPb,hF.pat,htl, -Bool.forall_bool, -Bool.exists_bool]
   refine fun x b=>⟨b, .same _,x, .inl (.inr ⟨rfl,rfl,fun m y z h6 h7=>?_⟩), .inl (.inl rfl)⟩
   rcases m with _|_|_|_|_|_|_|_|_|_|_|m
   all_goals first|(cases h6;cases h7;exact .same _)|(cases h6;cases h7;exact .own _ _ _)|(simp at h6)
  rintro⟨b,v⟩ -
  have htm:t∈c.texts:=qsW k2
  have htb:t.b<=i/\i < t.e:=by
   have:=List.find?_some k3
   simpa using this
  generalize hr:Ag c (bV q.pat []) t=r
  have hen:i<=r.en/\r.en<=170:=by
   rw[<-hr]
   show i<=min t.e (c.toks.length:Int)/\min t.e (c.toks.length:Int)<=170
   omega
  have hlb:r.lb=bV q.pat []:=by rw[<-hr];rfl
  have hnd:kg (qdm r) q.pat:=by rw[<-hr];exact hF.nd t htm
  have hl3:r.lb.length<=3:=by rw[hlb];exact hF.l3
  have hs0:QI r.en (FW i):=⟨hi0,hen.1,fun j=>by rcases j with _|_|j <;> exact⟨quI _,by show(0:Int)<=r.en;omega⟩⟩
  have hRok:qdh r:=⟨hl3,by rw[<-hr];exact hF.sz,by omega⟩
  have hdep:fH q.pat<=101:=by
   have hp:=hF.pat
   unfold qY at hp
   simp only[qs1]at hp
   have:=OF q.pat 1 hp.1.1.1
   omega
  have hQ:∀m,m.b=i/\NN c (bV q.pat []) q.pat m↔ ∃s,kU r q.pat (FW i) s/\i < s.p/\m=⟨i,s.p,NG r s⟩:=fun m=>by
   constructor
   ·rintro⟨rfl,_,_,t',ht',s,hs,h1,h2,h3⟩
    rw[k3]at ht'
    cases ht'
    rw[hr]at hs h3
    refine⟨s,hs,h1,?_⟩
    obtain⟨mb,me,ml⟩:=m
    simp only at h2 h3 ⊢
    rw[h2,h3]
   ·rintro⟨s,hs,h1,rfl⟩
    exact⟨rfl,hi0,hi1,t,k3,s,by rw[hr];exact hs,h1,rfl,by rw[hr]⟩
  simp[h3,AZ,CE, -Bool.forall_bool, -Bool.exists_bool]
  refine⟨⟨hRok,fun e he=>(by cases he),hs0,q.pat,⟨_,_,rfl,qsS rfl,by simp⟩,hdep,hnd⟩,fun v2 es2 ys hQr b2=>?_⟩
  have hys:=hQr.2.2 q.pat ⟨_,_,rfl,qsS rfl,by simp⟩
  have hysn:=hQr.2.1
  clear hQr
  replace hys:∀t,t∈ys↔kU r q.pat (FW i) t:=hys
  refine av (X:=Value×List Match×List D×List St3) [2,9,42] [36,990] (fun x=>x.2.1.Nodup/\(∀s∈x.2.2.2,s∈ys)/\x.2.2.2.Nodup/\(∀m∈x.2.1,∃s∈ys,s∉x.2.2.2/\i < s.p/\m=⟨i,s.p,NG r s⟩)/\(∀s∈ys,s∈x.2.2.2\/(i < s.p->(⟨i,s.p,NG r s⟩:Match) ∈x.2.1))/\x.2.1.length+x.2.2.2.length<=ys.length)
   (fun x=>[(10, .own 60 x.1)]) (fun x=>[(42, .miter b2 x.2.2.1 (bG x.2.2.2)),(60, .row x.1 rN 3 (x.2.1.map enc))]) (fun x=>x.2.2.2.length) (.slice none 0 0, [], [],ys)
   ⟨quP,fun _ h=>h,hysn,fun _ h=>(by cases h),fun _ h=> .inl h,by simp⟩ (by simp) (by simp[isNilRow]) ?_
  rintro⟨v3,out,cur,left⟩ ⟨g1,g2,g3,g4,g5,g6⟩
  simp only at g1 g2 g3 g4 g5 g6
  have hyl:=Ri hen.2 hysn fun s hs=>qw r q.pat _ _ ((hys s).1 hs) hs0
  simp[-Bool.forall_bool, -Bool.exists_bool]
  refine⟨fun h0=>?_,fun l1 x l2 hsp=>?_⟩
  ·have hlz:=fb h0
   subst hlz
   simp[h5, -Bool.forall_bool, -Bool.exists_bool]
   refine⟨⟨rfl,by simp at g6;omega,g1⟩,fun l' hQ2=>cV l' (iX rN (by simp[ah])) ⟨⟨hQ2.1,fun m=>?_⟩,by rw[hQ2.2.1];show out.length<=_;simp at g6;omega⟩⟩
   rw[hQ2.2.2 m,hQ]
   constructor
   ·intro hm
    obtain⟨s,h1,_,h2,h3⟩:=g4 m hm
    exact⟨s,(hys s).1 h1,h2,h3⟩
   ·rintro⟨s,h1,h2,rfl⟩
    exact(g5 s ((hys s).2 h1)).elim (fun h=>by cases h) fun h=>h h2
  ·obtain⟨a,s,c2,rfl,rfl,rfl,rfl⟩:=gi hsp
   simp[h4,OO, -Bool.forall_bool, -Bool.exists_bool]
   have hsy:s∈ys:=g2 s (by simp)
   have hsub:∀x∈a++c2,x∈ys:=fun x h=>g2 x (by simp only[qsZ,qsY]at h ⊢;rcases h with h|h <;> simp[h])
   have hnd2:(a++c2).Nodup/\s∉a++c2:=by
    obtain⟨n1,n2,n3⟩:=qup.1 g3
    have n4:=quK.1 n2
    refine⟨qup.2 ⟨n1,n4.2,fun x hx y hy=>n3 x hx y (by simp[hy])⟩,fun h=>?_⟩
    rcases qsZ.1 h with h|h
    ·exact n3 s h s (by simp) rfl
    ·exact n4.1 h
   have hnot:∀m∈out,∃u∈ys,u∉a++c2/\i < u.p/\m=(⟨i,u.p,NG r u⟩:Match):=fun m hm=>by
    obtain⟨u,k1,k2,k3,k4⟩:=g4 m hm
    exact⟨u,k1,fun h=>k2 (by simp only[qsZ,qsY]at h ⊢;rcases h with h|h <;> simp[h]),k3,k4⟩
   simp only[qtg,qtK]at g6
   have hsL:=qw r q.pat _ _ ((hys s).1 hsy) hs0
   have hsOk:qka s:=⟨hsL.1,by have:=hsL.2.1;have:=hen.2;omega,fun j=>⟨(hsL.2.2 j).1,by have:=(hsL.2.2 j).2;have:=hen.2;omega⟩⟩
   have hPa:Lx (.cptr (kW r (.own 990 v2)) 0,s):=⟨⟨r,_,rfl,hl3⟩,hsOk⟩
   refine⟨fun hgt=>⟨hPa,fun z hz=>?_⟩,fun hle=>?_⟩
   ·obtain rfl:=hz r _ rfl
    refine⟨by omega,by omega,fun v4=>⟨v4,out++ [⟨i,s.p,NG r s⟩],_,a++c2,⟨?_,hsub,hnd2.1,fun m hm=>?_,fun u hu=>?_,by simp;omega⟩,⟨rfl, .inl ⟨rfl,(gR a c2).symm⟩, .inl ⟨rfl,by simp⟩⟩,by simp⟩⟩
    ·rw[qup]
     refine⟨g1,by simp,fun m hm m' hm' e=>?_⟩
     simp at hm'
     subst hm'
     obtain⟨u,k1,k2,_,k4⟩:=g4 m hm
     rw[e]at k4
     injection k4 with _ e1 e2
     have:s=u:=qdd hl3 (rG hnd fun q h=>h.lab) ((hys s).1 hsy) ((hys u).1 k1) e1 e2
     subst this
     exact k2 (by simp)
    ·rcases qsZ.1 hm with hm|hm
     ·exact hnot m hm
     ·simp at hm
      exact⟨s,hsy,hnd2.2,hgt,hm⟩
    ·rcases g5 u hu with h|h
     ·rcases qsZ.1 h with h|h
      ·exact .inl (by simp[h])
      ·rcases qsY.1 h with rfl|h
       ·exact .inr fun _=>by simp
       ·exact .inl (by simp[h])
     ·exact .inr fun hp=>List.mem_append_left _ (h hp)
   ·refine⟨v3,out,_,a++c2,⟨g1,hsub,hnd2.1,hnot,fun u hu=>?_,by simp;omega⟩,⟨rfl, .inl ⟨rfl,(gR a c2).symm⟩, .inl ⟨rfl,rfl⟩⟩,by simp⟩
    rcases g5 u hu with h|h
    ·rcases qsZ.1 h with h|h
     ·exact .inl (by simp[h])
     ·rcases qsY.1 h with rfl|h
      ·exact .inr fun hp=>absurd hp (by omega)
      ·exact .inl (by simp[h])
    ·exact .inr h
end Go.Gv

namespace Go.Gv
open Go.Proofs
open Cod (enc dec)
variable {S S0:Nat->Spc}
structure qhz (a:List Attr) (q:Qry):Prop where
 glob:q.glob=nX
 filts:q.filts=[]
 strat:q.strat=0
 pat:qY cD q.pat=true
 size:lY q.pat<=256
 l3:(bV q.pat []).length<=3
 num:tq q.pat<=1000000
 att:a.length<=1000
 lv:∀x∈bD q.pat,qfg a (bV q.pat []) x.cond=true/\∃n,Iq n x.cond
abbrev RD:Spc:=bp (a2 Qry (List Attr)) (fun x=>qhz x.2 x.1) (enc (X:=Int)) fun _ y=>y=0
structure WQ (c:Corpus) (q:Qry):Prop where
 v:qhz c.attrs q
 f:UJ c q.pat
def qgv(x:Corpus×Qry)(y:List Match×Int):Prop:=(y.2=0/\NP x.1 (bV x.2.pat []) x.2.pat y.1/\y.1.length<=4096)\/(y.2=2/\y.1=[]/\∃k l,QJ x.1 (bV x.2.pat []) x.2.pat k l/\4096 < l.length)
abbrev OK:Spc:=bp (a2 Corpus Qry) (fun x=>WQ x.1 x.2) (yd (Y:=List Match) (Z:=Int)) qgv
theorem qeI{c:Corpus}{lb:List B}{p:Pat}{k:Int}{l l':List Match}(h:QJ c lb p k l)(h':NP c lb p l'):l.length<=l'.length:=by
 have hs:l.Sublist l':=by
  have e:l=l'.filter fun m=>decide (m.b < k):=by
   refine zR h.1 (h'.1.filter _) fun m=>?_
   rw[h.2,qt9,h'.2,decide_eq_true_iff]
   exact and_comm
  rw[e]
  exact qvn
 exact hs.length_le
theorem qhN(h1:S jT=RD)(h2:S rp=Mn):ar oU oj S (a2 Corpus Qry) (fun x=>WQ x.1 x.2) (yd (Y:=List Match) (Z:=Int)) qgv:=by
 rintro⟨c,q⟩ hM
 have hM:WQ c q:=hM
 have hV:qhz c.attrs q:=hM.v
 have hfew:=hM.f.few
 have htl:(c.toks.length:Int)<=9223372036854775807:=by omega
 simp[oU,oj,h1,hV,htl, -Bool.forall_bool, -Bool.exists_bool]
 refine ak (X:=Value×List Match) [2,3] [] c.toks.length (fun k x=>QJ c (bV q.pat []) q.pat k x.2/\x.2.length<=4096) (fun x=>[(7, .own 27 x.1)]) (fun x=>[(27, .row x.1 rN 3 (x.2.map enc))]) (.slice none 0 0, []) (by simp) (by simp) (by omega) (by simp) (by simp) ⟨Wc _ _ _,by simp⟩ (by simp) (by simp[isNilRow]) ?_ ?_
 ·rintro k ⟨v,l⟩ hk ⟨g1,g2⟩
  simp only at g1 g2
  have hPf:qaK (c,q,(k:Int)):=⟨hM.f,by show(0:Int)<=k;omega,by show(k:Int) < c.toks.length;omega⟩
  simp[h2,hPf, -Bool.forall_bool, -Bool.exists_bool]
  rintro y ⟨hy1,hy2⟩
  have hst:=Wd g1 hy1
  exact⟨by omega,by omega,fun v' hle=>⟨fun h=> .inr ⟨rfl,rfl,_,_,hst,by simp;omega⟩,fun h=>⟨v',l++y,⟨hst,by simp;omega⟩,rfl, .inl ⟨rfl,by simp⟩⟩⟩⟩
 ·rintro⟨v,l⟩ ⟨g1,g2⟩
  simp only at g1 g2
  simp[-Bool.forall_bool, -Bool.exists_bool]
  exact⟨l,iX rN (by simp[ah]), .inl ⟨rfl,Y0 g1,g2⟩⟩
end Go.Gv
