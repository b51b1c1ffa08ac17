/- A part of the framework and of the walks: W188 W189 W191 V66 C70 W194. -/
import Derived.Test.YtphdikcommfnhaaGreatDoorGd43
import Derived.Test.YtphdikcommfnhaaGreatDoorGd44
import Derived.Test.YtphdikcommfnhaaGreatDoorGd45
import Derived.Test.YtphdikcommfnhaaGreatDoorGd37
import Derived.Test.YtphdikcommfnhaaGreatDoorGd30
import Derived.Test.YtphdikcommfnhaaGreatDoorGd20
import Derived.Test.YtphdikcommfnhaaGreatDoorGd40
set_option linter.unusedSimpArgs false
set_option linter.unusedVariables false
set_option linter.unusedSectionVars false
set_option maxRecDepth 100000
set_option maxHeartbeats 0

namespace Go.Gv
open Go.Proofs
open Cod (enc dec)
variable {S S0:Nat->Spc}
theorem Pk(p:Pat):∀d:Int,di p d=true->(fk p:Int) +d<=101:=by
 induction p using pH with|_ p ih=>?_
 intro d h
 rw[mu]at h
 simp only[qt2,decide_eq_true_eq,qt0]at h
 rw[GZ]
 have:∀ks:List Pat,(∀k∈ks,k∈p.kids)->(FN ks:Int) +d<=100:=by
  intro ks
  induction ks with
  | nil=>intro _;rw[FN];have:=h.1;simp;omega
  | cons k ks ihk=>
    intro hk
    have h1:=ihk fun z hz=>hk z (by simp[hz])
    have h2:=ih k (hk k (by simp)) (d+1) (h.2 k (hk k (by simp)))
    rw[FN]
    omega
 have:=this p.kids fun _ h=>h
 omega
structure Vw (c:Corpus) (p:Pat):Prop where
 sz:qhP c
 few:c.toks.length<=170
 pat:lO bP p=true
 l3:(bZ p []).length<=3
 num:tJ p<=1000000
 nd:∀t∈c.texts,kA (qem (uO c (bZ p []) t)) p
def qbG(x:Corpus×Qry×Int):Prop:=Vw x.1 x.2.1.pat/\0<=x.2.2/\x.2.2 < x.1.toks.length
def qe2(x:Corpus×Qry×Int)(y:List Match):Prop:=qbP x.1 (bZ x.2.1.pat []) x.2.1.pat x.2.2 y/\y.length<=1000000000
abbrev MY:Spc:=bj (a3 Corpus Qry Int) qbG (enc (X:=List Match)) qe2
abbrev b_masg:Spc:=qeX (a1 St3) L6 (enc (X:=List Int)) Rf
theorem qb9(h1:S lw=EA)(h2:S ny=ss)(h3:S bv=AR 101)(h4:S bL=b_masg)(h5:S fY=MR ia sj):ar qb pF S (a3 Corpus Qry Int) qbG (enc (X:=List Match)) qe2:=by
 rintro⟨c,q,i⟩ ⟨hF,hi0,hi1⟩
 have hF:Vw c q.pat:=hF
 have hi0:0<=i:=hi0
 have hi1:i < c.toks.length:=hi1
 have hPb:XX q.pat []:=by show 0+tJ q.pat<=1000000;have:=hF.num;omega
 have hfew:=hF.few
 have htl:(c.toks.length:Int)<=9223372036854775807:=by omega
 rcases Ym (c:=c) (i:=i)with⟨k1,k2⟩|⟨k,t,k1,k2,k3⟩
 ·simp[qb,pF,h1,k1, -Bool.forall_bool, -Bool.exists_bool]
  refine cX [] (.nil _) ⟨⟨List.Pairwise.nil,fun m=>⟨fun h=>(by cases h),?_⟩⟩,qul _⟩
  rintro⟨e,_,_,t,ht,_⟩
  have e:m.b=i:=e
  rw[e,k2]at ht
  cases ht
 ·have hkl:k < c.texts.length:=(qtV.1 k2).1
  obtain⟨_,hgt⟩:=qtV.1 k2
  have hkn:¬ (k:Int) < 0:=by omega
  simp[qb,pF,h1,k1,hkn,hkl,k2,hgt,h2,hPb,hF.pat,htl, -Bool.forall_bool, -Bool.exists_bool]
  intro b8
  refine jN (X:=Nat×Value) [2,4] [] [] [(990,34)] (fun _=>True) (fun x=>[(9, .bptr 36 x.1 0)]) (fun x=>[(36, .box x.1 (ll (uO c (bZ q.pat []) t) (.own 990 x.2))),(990, .mrow x.2 [])]) [36,990] (fun _=>rfl) (by decide) ?_ ?_
  ·simp[h2,hPb,hF.pat,htl, -Bool.forall_bool, -Bool.exists_bool]
   refine fun x b=>⟨b, .same _,x, .inl (.inr ⟨rfl,rfl,fun m y z h6 h7=>?_⟩), .inl (.inl rfl)⟩
   rcases m with _|_|_|_|_|_|_|_|_|_|_|m
   all_goals first|(cases h6;cases h7;exact .same _)|(cases h6;cases h7;exact .own _ _ _)|(simp at h6)
  rintro⟨b,v⟩ -
  have htm:t∈c.texts:=qtY k2
  have htb:t.b<=i/\i < t.e:=by
   have:=List.find?_some k3
   simpa using this
  generalize hr:uO c (bZ q.pat []) t=r
  have hen:i<=r.en/\r.en<=170:=by
   rw[<-hr]
   show i<=min t.e (c.toks.length:Int)/\min t.e (c.toks.length:Int)<=170
   omega
  have hlb:r.lb=bZ q.pat []:=by rw[<-hr];rfl
  have hnd:kA (qem r) q.pat:=by rw[<-hr];exact hF.nd t htm
  have hl3:r.lb.length<=3:=by rw[hlb];exact hF.l3
  have hs0:OC r.en (Gj i):=⟨hi0,hen.1,fun j=>by rcases j with _|_|j <;> exact⟨qvA _,by show(0:Int)<=r.en;omega⟩⟩
  have hRok:qeh r:=⟨hl3,by rw[<-hr];exact hF.sz,by omega⟩
  have hdep:fk q.pat<=101:=by
   have hp:=hF.pat
   unfold lO at hp
   simp only[qt2]at hp
   have:=Pk q.pat 1 hp.1.1.1
   omega
  have hQ:∀m,m.b=i/\Oo c (bZ q.pat []) q.pat m↔ ∃s,kX r q.pat (Gj i) s/\i < s.p/\m=⟨i,s.p,Oh r s⟩:=fun m=>by
   constructor
   ·rintro⟨rfl,_,_,t',ht',s,hs,h1,h2,h3⟩
    rw[k3]at ht'
    cases ht'
    rw[hr]at hs h3
    refine⟨s,hs,h1,?_⟩
    obtain⟨mb,me,ml⟩:=m
    simp only at h2 h3 ⊢
    rw[h2,h3]
   ·rintro⟨s,hs,h1,rfl⟩
    exact⟨rfl,hi0,hi1,t,k3,s,by rw[hr];exact hs,h1,rfl,by rw[hr]⟩
  simp[h3,Bh,C0, -Bool.forall_bool, -Bool.exists_bool]
  refine⟨⟨hRok,fun e he=>(by cases he),hs0,q.pat,⟨_,_,rfl,qtU rfl,by simp⟩,hdep,hnd⟩,fun v2 es2 ys hQr b2=>?_⟩
  have hys:=hQr.2.2 q.pat ⟨_,_,rfl,qtU rfl,by simp⟩
  have hysn:=hQr.2.1
  clear hQr
  replace hys:∀t,t∈ys↔kX r q.pat (Gj i) t:=hys
  refine av (X:=Value×List Match×List D×List St3) [2,9,42] [36,990] (fun x=>x.2.1.Nodup/\(∀s∈x.2.2.2,s∈ys)/\x.2.2.2.Nodup/\(∀m∈x.2.1,∃s∈ys,s∉x.2.2.2/\i < s.p/\m=⟨i,s.p,Oh r s⟩)/\(∀s∈ys,s∈x.2.2.2\/(i < s.p->(⟨i,s.p,Oh r s⟩:Match) ∈x.2.1))/\x.2.1.length+x.2.2.2.length<=ys.length)
   (fun x=>[(10, .own 60 x.1)]) (fun x=>[(42, .miter b2 x.2.2.1 (bz x.2.2.2)),(60, .row x.1 sj 3 (x.2.1.map enc))]) (fun x=>x.2.2.2.length) (.slice none 0 0, [], [],ys)
   ⟨qvG,fun _ h=>h,hysn,fun _ h=>(by cases h),fun _ h=> .inl h,by simp⟩ (by simp) (by simp[isNilRow]) ?_
  rintro⟨v3,out,cur,left⟩ ⟨g1,g2,g3,g4,g5,g6⟩
  simp only at g1 g2 g3 g4 g5 g6
  have hyl:=RZ hen.2 hysn fun s hs=>pg r q.pat _ _ ((hys s).1 hs) hs0
  simp[-Bool.forall_bool, -Bool.exists_bool]
  refine⟨fun h0=>?_,fun l1 x l2 hsp=>?_⟩
  ·have hlz:=fb h0
   subst hlz
   simp[h5, -Bool.forall_bool, -Bool.exists_bool]
   refine⟨⟨rfl,by simp at g6;omega,g1⟩,fun l' hQ2=>cX l' (jj sj (by simp[ah])) ⟨⟨hQ2.1,fun m=>?_⟩,by rw[hQ2.2.1];show out.length<=_;simp at g6;omega⟩⟩
   rw[hQ2.2.2 m,hQ]
   constructor
   ·intro hm
    obtain⟨s,h1,_,h2,h3⟩:=g4 m hm
    exact⟨s,(hys s).1 h1,h2,h3⟩
   ·rintro⟨s,h1,h2,rfl⟩
    exact(g5 s ((hys s).2 h1)).elim (fun h=>by cases h) fun h=>h h2
  ·obtain⟨a,s,c2,rfl,rfl,rfl,rfl⟩:=gq hsp
   simp[h4,Pt, -Bool.forall_bool, -Bool.exists_bool]
   have hsy:s∈ys:=g2 s (by simp)
   have hsub:∀x∈a++c2,x∈ys:=fun x h=>g2 x (by simp only[qtZ,qt1]at h ⊢;rcases h with h|h <;> simp[h])
   have hnd2:(a++c2).Nodup/\s∉a++c2:=by
    obtain⟨n1,n2,n3⟩:=qvq.1 g3
    have n4:=qvN.1 n2
    refine⟨qvq.2 ⟨n1,n4.2,fun x hx y hy=>n3 x hx y (by simp[hy])⟩,fun h=>?_⟩
    rcases qtZ.1 h with h|h
    ·exact n3 s h s (by simp) rfl
    ·exact n4.1 h
   have hnot:∀m∈out,∃u∈ys,u∉a++c2/\i < u.p/\m=(⟨i,u.p,Oh r u⟩:Match):=fun m hm=>by
    obtain⟨u,k1,k2,k3,k4⟩:=g4 m hm
    exact⟨u,k1,fun h=>k2 (by simp only[qtZ,qt1]at h ⊢;rcases h with h|h <;> simp[h]),k3,k4⟩
   simp only[quj,quN]at g6
   have hsL:=pg r q.pat _ _ ((hys s).1 hsy) hs0
   have hsOk:qk9 s:=⟨hsL.1,by have:=hsL.2.1;have:=hen.2;omega,fun j=>⟨(hsL.2.2 j).1,by have:=(hsL.2.2 j).2;have:=hen.2;omega⟩⟩
   have hPa:L6 (.cptr (ll r (.own 990 v2)) 0,s):=⟨⟨r,_,rfl,hl3⟩,hsOk⟩
   refine⟨fun hgt=>⟨hPa,fun z hz=>?_⟩,fun hle=>?_⟩
   ·obtain rfl:=hz r _ rfl
    refine⟨by omega,by omega,fun v4=>⟨v4,out++ [⟨i,s.p,Oh r s⟩],_,a++c2,⟨?_,hsub,hnd2.1,fun m hm=>?_,fun u hu=>?_,by simp;omega⟩,⟨rfl, .inl ⟨rfl,(gX a c2).symm⟩, .inl ⟨rfl,by simp⟩⟩,by simp⟩⟩
    ·rw[qvq]
     refine⟨g1,by simp,fun m hm m' hm' e=>?_⟩
     simp at hm'
     subst hm'
     obtain⟨u,k1,k2,_,k4⟩:=g4 m hm
     rw[e]at k4
     injection k4 with _ e1 e2
     have:s=u:=qed hl3 (oY hnd fun q h=>h.lab) ((hys s).1 hsy) ((hys u).1 k1) e1 e2
     subst this
     exact k2 (by simp)
    ·rcases qtZ.1 hm with hm|hm
     ·exact hnot m hm
     ·simp at hm
      exact⟨s,hsy,hnd2.2,hgt,hm⟩
    ·rcases g5 u hu with h|h
     ·rcases qtZ.1 h with h|h
      ·exact .inl (by simp[h])
      ·rcases qt1.1 h with rfl|h
       ·exact .inr fun _=>by simp
       ·exact .inl (by simp[h])
     ·exact .inr fun hp=>List.mem_append_left _ (h hp)
   ·refine⟨v3,out,_,a++c2,⟨g1,hsub,hnd2.1,hnot,fun u hu=>?_,by simp;omega⟩,⟨rfl, .inl ⟨rfl,(gX a c2).symm⟩, .inl ⟨rfl,rfl⟩⟩,by simp⟩
    rcases g5 u hu with h|h
    ·rcases qtZ.1 h with h|h
     ·exact .inl (by simp[h])
     ·rcases qt1.1 h with rfl|h
      ·exact .inr fun hp=>absurd hp (by omega)
      ·exact .inl (by simp[h])
    ·exact .inr h
end Go.Gv

namespace Go.Gv
open Go.Proofs
open Cod (enc dec)
variable {S S0:Nat->Spc}
structure qiz (a:List Attr) (q:Qry):Prop where
 glob:q.glob=ou
 filts:q.filts=[]
 strat:q.strat=0
 pat:lO bP q.pat=true
 size:ms q.pat<=256
 l3:(bZ q.pat []).length<=3
 num:tJ q.pat<=1000000
 att:a.length<=1000
 lv:∀x∈bF q.pat,qgd a (bZ q.pat []) x.cond=true/\∃n,IX n x.cond
abbrev Ul(V:List Attr->Qry->Prop):Spc:=bj (a2 Qry (List Attr)) (fun x=>V x.2 x.1) (enc (X:=Int)) fun _ y=>y=0
abbrev YP:Spc:=Ul qiz
structure Vu (V:List Attr->Qry->Prop) (c:Corpus) (q:Qry):Prop where
 v:V c.attrs q
 f:Vw c q.pat
abbrev qhz(c:Corpus)(q:Qry):Prop:=Vu qiz c q
def qhs(x:Corpus×Qry)(y:List Match×Int):Prop:=(y.2=0/\Ot x.1 (bZ x.2.pat []) x.2.pat y.1/\y.1.length<=4096)\/(y.2=2/\y.1=[]/\∃k l,Rl x.1 (bZ x.2.pat []) x.2.pat k l/\4096 < l.length)
abbrev qfT(V:List Attr->Qry->Prop):Spc:=bj (a2 Corpus Qry) (fun x=>Vu V x.1 x.2) (ro (Y:=List Match) (Z:=Int)) qhs
abbrev Pp:Spc:=qfT qiz
theorem qfE{c:Corpus}{lb:List B}{p:Pat}{k:Int}{l l':List Match}(h:Rl c lb p k l)(h':Ot c lb p l'):l.length<=l'.length:=by
 have hs:l.Sublist l':=by
  have e:l=l'.filter fun m=>decide (m.b < k):=by
   refine En h.1 (h'.1.filter _) fun m=>?_
   rw[h.2,qvo,h'.2,decide_eq_true_iff]
   exact and_comm
  rw[e]
  exact qwr
 exact hs.length_le
theorem qiO{V:List Attr->Qry->Prop}(h1:S kg=Ul V)(h2:S rL=MY):ar pq oO S (a2 Corpus Qry) (fun x=>Vu V x.1 x.2) (ro (Y:=List Match) (Z:=Int)) qhs:=by
 rintro⟨c,q⟩ hM
 have hM:Vu V c q:=hM
 have hV:V c.attrs q:=hM.v
 have hfew:=hM.f.few
 have htl:(c.toks.length:Int)<=9223372036854775807:=by omega
 simp[pq,oO,h1,hV,htl, -Bool.forall_bool, -Bool.exists_bool]
 refine aj (X:=Value×List Match) [2,3] [] c.toks.length (fun k x=>Rl c (bZ q.pat []) q.pat k x.2/\x.2.length<=4096) (fun x=>[(7, .own 27 x.1)]) (fun x=>[(27, .row x.1 sj 3 (x.2.map enc))]) (.slice none 0 0, []) (by simp) (by simp) (by omega) (by simp) (by simp) ⟨Xd _ _ _,by simp⟩ (by simp) (by simp[isNilRow]) ?_ ?_
 ·rintro k ⟨v,l⟩ hk ⟨g1,g2⟩
  simp only at g1 g2
  have hPf:qbG (c,q,(k:Int)):=⟨hM.f,by show(0:Int)<=k;omega,by show(k:Int) < c.toks.length;omega⟩
  simp[h2,hPf, -Bool.forall_bool, -Bool.exists_bool]
  rintro y ⟨hy1,hy2⟩
  have hst:=Xe g1 hy1
  exact⟨by omega,by omega,fun v' hle=>⟨fun h=> .inr ⟨rfl,rfl,_,_,hst,by simp;omega⟩,fun h=>⟨v',l++y,⟨hst,by simp;omega⟩,rfl, .inl ⟨rfl,by simp⟩⟩⟩⟩
 ·rintro⟨v,l⟩ ⟨g1,g2⟩
  simp only at g1 g2
  simp[-Bool.forall_bool, -Bool.exists_bool]
  exact⟨l,jj sj (by simp[ah]), .inl ⟨rfl,ZU g1,g2⟩⟩
end Go.Gv

namespace Go.Gv
open Go.Proofs
open Cod (enc dec)
variable {S S0:Nat->Spc}
abbrev Sm:Spc:=bj (a1 Glob) (fun g=>g=ou) (enc (X:=Bool)) fun x y=>y=true
theorem Mn:ar vm uJ S (a1 Glob) (fun g=>g=ou) (enc (X:=Bool)) fun x y=>y=true:=by
 rintro x rfl
 simp[vm,uJ,ou,E0, -Bool.forall_bool]
abbrev M8:Spc:=bj (a1 Glob) (fun g=>g=ou) (enc (X:=Bool)) fun x y=>y=true
theorem Kq(h1:S rJ=Sm):ar tq sJ S (a1 Glob) (fun g=>g=ou) (enc (X:=Bool)) fun x y=>y=true:=by
 rintro x rfl
 simp[tq,sJ,h1, -Bool.forall_bool]
abbrev SG:Spc:=bj (aE (List TY) (aD a0)) (fun x=>x.1=[]) (enc (X:=Int)) fun x y=>y= -1
theorem tH:ar eK eD S (aE (List TY) (aD a0)) (fun x=>x.1=[]) (enc (X:=Int)) fun x y=>y= -1:=by
 rintro⟨l,d,⟨⟩⟩ h
 have h:l=[]:=h
 subst h
 simp[eK,eD, -Bool.forall_bool]
 refine aj (X:=Unit) [] [] 0 (fun _ _=>True) (fun _=>[]) (fun _=>[]) () (by simp) (by simp) (by omega) (by simp) (by simp) trivial (by simp) (by simp) (fun k x hk=>absurd hk (by omega)) (fun _ _=>?_)
 simp
abbrev Ik:Spc:=bj (aE (List TY) (aD a0)) (fun x=>x.1=[]) (enc (X:=Bool)) fun x y=>y=false
theorem qz(h1:S dg=SG):ar dQ dI S (aE (List TY) (aD a0)) (fun x=>x.1=[]) (enc (X:=Bool)) fun x y=>y=false:=by
 rintro⟨l,d,⟨⟩⟩ h
 have h:l=[]:=h
 subst h
 simp[dQ,dI,h1, -Bool.forall_bool]
abbrev SE:Spc:=bj (a3 Glob (List Attr) (List B)) (fun x=>x.1=ou) (enc (X:=Int)) fun _ y=>y=0
abbrev M4:Spc:=bj (a3 Glob (List Attr) (List B)) (fun x=>x.1=ou) (enc (X:=Int)) fun _ y=>y=0
structure qrM (q:Qry):Prop where
 filts:q.filts=[]
 strat:q.strat=0
 pat:lO bP q.pat=true
 size:ms q.pat<=256
 l3:(bZ q.pat []).length<=3
 num:tJ q.pat<=1000000
abbrev SD:Spc:=bj (a1 Qry) qrM (enc (X:=Int)) fun _ y=>y=0
theorem qfw{N:Nat->Spc}(h0:N eo=CU)(h0':N dN=yS)(h1:S iu=CW)(h2:S cJ=su N)(h3:S gF=MS)(h4:S bu=s_qlabels)(h5:S bp=Ik):
 ar iM iF S (a1 Qry) qrM (enc (X:=Int)) fun _ y=>y=0:=by
 rintro q hq
 have f1:FunIs N (.clo eo []) (vS bP):=zL h0 fun _=>trivial
 have f2:FunIs N (.clo dN []) uT:=zL h0' fun _=>trivial
 have hp:=hq.pat
 unfold lO at hp
 simp only[qt2]at hp
 obtain⟨⟨⟨p1,p2⟩,p3⟩,p4⟩:=hp
 have hsz:=hq.size
 have hsz2:¬256 < ms q.pat:=by omega
 have hl3:=hq.l3
 have hPb:XX q.pat []:=by show 0+tJ q.pat<=1000000;have:=hq.num;omega
 simp[iM,iF,h1,p1,p2,h2,hq.filts,hq.strat,h3,hq.pat,hsz,hsz2,h5, -Bool.forall_bool, -Bool.exists_bool]
 refine⟨⟨_,f1⟩,fun y hy=>⟨fun _=>⟨⟨_,f2⟩,fun z hz=>⟨by rw[hz _ f2,p4],fun _=>?_⟩⟩,by rw[hy _ f1,p3]⟩⟩
 simp[h4, -Bool.forall_bool, -Bool.exists_bool]
 refine .inl ⟨hPb,fun l hl _=>?_⟩
 have hl:l=bZ q.pat []:=hl
 subst hl
 omega
theorem qch:ar lX lI S (a3 Glob (List Attr) (List B)) (fun x=>x.1=ou) (enc (X:=Int)) fun _ y=>y=0:=by
 rintro⟨g,a,lb⟩ h
 have h:g=ou:=h
 subst h
 simp[lX,lI,ou, -Bool.forall_bool, -Bool.exists_bool]
theorem qfx(h1:S iZ=M4):ar nT mU S (a3 Glob (List Attr) (List B)) (fun x=>x.1=ou) (enc (X:=Int)) fun _ y=>y=0:=by
 rintro⟨g,a,lb⟩ h
 have h:g=ou:=h
 subst h
 simp[nT,mU,h1, -Bool.forall_bool, -Bool.exists_bool]
 simp[ou, -Bool.forall_bool, -Bool.exists_bool]
 refine aj (X:=Unit) [] [] 0 (fun _ _=>True) (fun _=>[]) (fun _=>[]) () (by simp) (by simp) (by omega) (by simp) (by simp) trivial (by simp) (by simp) (fun k x hk=>absurd hk (by omega)) (fun _ _=>?_)
 simp
theorem qfj(h1:S fu=SD)(h2:S bu=s_qlabels)(h3:S cI=s_leavesQ)(h4:S fy=SF)(h5:S bp=Ik)(h6:S pS=M8)(h7:S kb=SE):
 ar nU mV S (a2 Qry (List Attr)) (fun x=>qiz x.2 x.1) (enc (X:=Int)) fun _ y=>y=0:=by
 rintro⟨q,a⟩ hq
 have hq:qiz a q:=hq
 have hC:qrM q:=⟨hq.filts,hq.strat,hq.pat,hq.size,hq.l3,hq.num⟩
 have hPb:XX q.pat []:=by show 0+tJ q.pat<=1000000;have:=hq.num;omega
 have hlv:(bF q.pat).length<=tJ q.pat:=SZ q.pat
 have hPq:qhy q.pat []:=⟨by have:=hq.num;simp;omega,fun y hy=>(hq.lv y hy).2⟩
 simp[nU,mV,h1,hC,h2, -Bool.forall_bool, -Bool.exists_bool]
 refine .inl ⟨hPb,fun l hl=>?_⟩
 have hl:l=bZ q.pat []:=hl
 subst hl
 simp[h3, -Bool.forall_bool, -Bool.exists_bool]
 refine .inl ⟨hPq,?_⟩
 intro hll
 refine aj (X:=Unit) [1,2,6,20] [] (dS q.pat).length (fun _ _=>True) (fun _=>[]) (fun _=>[]) () (by simp) (by simp) (by omega) (by simp) (by simp) trivial (by simp) (by simp) ?_ ?_
 ·rintro k ⟨⟩ hk -
  obtain⟨x,hx⟩:∃x,(dS q.pat)[k]? =some x:=⟨_,qtW hk⟩
  obtain⟨_,hgx⟩:=qtV.1 hx
  have hxm:=qtY hx
  obtain⟨y,hy,rfl⟩:=qt9.1 hxm
  have hP:TU ((B1 y).cond,a,bZ q.pat []):=⟨(hq.lv y hy).1,hq.att⟩
  simp[hk,hx,hgx,h4,hP, -Bool.forall_bool, -Bool.exists_bool]
  exact hP
 ·rintro⟨⟩ -
  simp[h5,h6,h7,hq.glob,hq.filts, -Bool.forall_bool, -Bool.exists_bool]
end Go.Gv

namespace Go.Gv
def qiY(s:B)(i:Nat):Option (Nat×F2):=match s.data[i]? with
 | none=>none
 | some c=>
   if ZO c.toNat then some (EV s i,⟨110,s.extract i (EV s i),i⟩)
   else if 48<=c.toNat/\c.toNat<=57 then none
   else if c.toNat=34 then(SM s (i+1) ⟨#[]⟩).map fun r=>(r.1+1,⟨115,r.2,i⟩)
   else match signsL.find? (qf3 s i)with
    | none=>none
    | some x=>some (i+x.size,⟨111,s.extract i (i+x.size),i⟩)
def HU:Nat->B->Nat->List F2->Option (List F2)
 | 0,_,_,_=>none
 | k+1,s,i,out=>if tS s i=s.size then some (out++ [⟨101,⟨#[]⟩,s.size⟩])else(qiY s (tS s i)).bind fun r=>if r.1<=s.size/\tS s i < r.1 then HU k s r.1 (out++ [r.2])else none
def FJ(s:B):Option (List F2):=if s.size<=100000 then HU 100000 s 0 []else none
theorem Zv{s:B}{i:Nat}(h:s.size<=i):EV s i=i:=by
 unfold EV
 rw[show s.size -i=0 by omega,qc1]
theorem LB{s:B}{i:Nat}(h:i < s.size):EV s i=if ZV s i then EV s (i+1)else i:=by
 unfold EV
 rw[show s.size -i=(s.size - (i+1)) +1 by omega,qc1]
def Ut(s:Pst):Option F2:=if 0<=s.pos/\s.pos+1 < s.l.length/\s.l.length<=1000000 then s.l[(s.pos+1).toNat]? else none
def Od(s:Pst):Option Bool:=(wV s).bind fun x=>if s.e≠0 then none else if x.kind=110 then(Ut s).bind fun n=>if n.kind=111/\n.text=⟨#[58]⟩then some true else none
 else some (decide (x.kind=115\/x.kind=111/\(x.text=⟨#[91]⟩\/x.text=⟨#[60]⟩\/x.text=⟨#[60,47]⟩\/x.text=⟨#[40]⟩)))
def MD(s:Pst)(lb:B):Option (Pst×Pat):=if s.e≠0 then none else(wV s).bind fun x=>
 if x.kind=115 then(qQ s.step ⟨#[37,99]⟩).map fun w=>(w.1,⟨1,⟨2,E0,E0,x.text,E0,w.2, []⟩,lb,E0,0,0, []⟩)
 else(Ce s 111 ⟨#[91]⟩).bind fun u=>(qQ u.1 ⟨#[93]⟩).bind fun w=>if w.2 then some (w.1,⟨1,⟨1,E0,E0,E0,E0,false, []⟩,lb,E0,0,0, []⟩)else none
def ZT(s:Pst):Option (Pst×Pat):=if s.e≠0 then none else(wV s).bind fun x=>if x.kind=111/\x.text≠ ⟨#[91]⟩then none else
 if x.kind=110 then(Ce s.step 111 ⟨#[58]⟩).bind fun u=>MD u.1 x.text else MD s E0
def zg:Nat->Pst->Pat->Option (Pst×Pat)
 | 0,_,_=>none
 | k+1,s,x=>if s.e≠0 then none else(wV s).bind fun t=>if t.kind=111/\(t.text=⟨#[63]⟩\/t.text=⟨#[43]⟩\/t.text=⟨#[123]⟩)then none else
    if t.kind=111/\t.text=⟨#[42]⟩then zg k s.step ⟨6,lj,E0,E0,0, -1, [x]⟩else some (s,x)
def qcK(s:Pst):Option (Pst×Pat):=(ZT s).bind fun r=>zg 9 r.1 r.2
def yQ:Nat->Pst->List Pat->Option (Pst×List Pat)
 | 0,_,_=>none
 | k+1,s,acc=>(Od s).bind fun b=>if b then(qcK s).bind fun r=>yQ k r.1 (acc++ [r.2])else some (s,acc)
def YI(s:Pst):Option (Pst×Pat):=(qcK s).bind fun r=>(yQ 9 r.1 [r.2]).map fun q=>(q.1,qeF 4 q.2)
def qbn(s:Pst):Option (Pst×Pat):=(YI s).bind fun r=>(qQ r.1 ⟨#[124]⟩).bind fun w=>if w.2 then none else some (w.1,r.2)
def ED(s:B):Option Pat:=if s.size<=400 then(FJ s).bind fun l=>(qbn ⟨l,0,0,0,0⟩).bind fun r=>if r.1.e≠0 then none else(wV r.1).bind fun t=>if t.kind=101 then some r.2 else none else none
def qtD:B:=⟨#[97,58,34,97,34,32,91,93,42,32,98,58,34,98,34]⟩
def Dx:Pat:=⟨4,lj,E0,E0,0,0, [⟨1,⟨2,E0,E0,⟨#[97]⟩,E0,false, []⟩,⟨#[97]⟩,E0,0,0, []⟩,⟨6,lj,E0,E0,0, -1, [⟨1,⟨1,E0,E0,E0,E0,false, []⟩,E0,E0,0,0, []⟩]⟩,⟨1,⟨2,E0,E0,⟨#[98]⟩,E0,false, []⟩,⟨#[98]⟩,E0,0,0, []⟩]⟩
theorem LH:ED qtD=some Dx:=by kernel_rfl
end Go.Gv

namespace Go.Gv
open Go.Proofs
def qT:CC:=by refine(fun(_:G.ap (G.gn Tryz.prog Tryz.f148 [] {})=?c)=>?c) ?h;case h=>conv=>lhs; (conv=>arg 1;reduce);dsimp only[G.ap]
def qE:List ak:=[.tmp 2]
theorem Gn:aq Tryz.prog nq [] qT qE 21:=ai mixed (by kernel_rfl)
def te:CC:=by refine(fun(_:G.ap (G.gn Tryz.prog Tryz.f149 [] {})=?c)=>?c) ?h;case h=>conv=>lhs; (conv=>arg 1;reduce);dsimp only[G.ap]
def sA:List ak:=[.tmp 2]
theorem ID:aq Tryz.prog pM [] te sA 9:=ai mixed (by kernel_rfl)
def xr:CC:=by refine(fun(_:G.ap (G.gn Tryz.prog Tryz.f150 [] {})=?c)=>?c) ?h;case h=>conv=>lhs; (conv=>arg 1;reduce);dsimp only[G.ap]
def wy:List ak:=[.tmp 0]
theorem Nl:aq Tryz.prog ud [] xr wy 2:=ai mixed (by kernel_rfl)
def zR:CC:=by refine(fun(_:G.ap (G.gn Tryz.prog Tryz.f95 [1036200,1074200,1083200,1121200,1147200,1192200,1200200] { cu:=[3,10] })=?c)=>?c) ?h;case h=>conv=>lhs; (conv=>arg 1;reduce);dsimp only[G.ap]
def yX:List ak:=[.tmp 2]
theorem Py:aq Tryz.prog xi [1036200,1074200,1083200,1121200,1147200,1192200,1200200] zR yX 202:=ai mixed (by kernel_rfl)
def nO:CC:=by refine(fun(_:G.ap (G.gn Tryz.prog Tryz.f105 [2002002] { ke:=[0] })=?c)=>?c) ?h;case h=>conv=>lhs; (conv=>arg 1;reduce);dsimp only[G.ap]
def mP:List ak:=[.cell 2 true 3]
theorem Db:aq Tryz.prog aK [2002002] nO mP 13:=ai mixed (by kernel_rfl)
def lT:CC:=by refine(fun(_:G.ap (G.gn Tryz.prog Tryz.f248 [2002002] { ke:=[0] })=?c)=>?c) ?h;case h=>conv=>lhs; (conv=>arg 1;reduce);dsimp only[G.ap]
def lE:List ak:=[.cell 2 true 3]
theorem Bt:aq Tryz.prog iV [2002002] lT lE 21:=ai mixed (by kernel_rfl)
def ku:CC:=by refine(fun(_:G.ap (G.gn Tryz.prog Tryz.f103 [] { bx:=[0] })=?c)=>?c) ?h;case h=>conv=>lhs; (conv=>arg 1;reduce);dsimp only[G.ap]
def jO:List ak:=[.tmp 6]
theorem EG:aq Tryz.prog de [] ku jO 26:=ai mixed (by kernel_rfl)
def nP:CC:=by refine(fun(_:G.ap (G.gn Tryz.prog Tryz.f97 [] { ke:=[0] })=?c)=>?c) ?h;case h=>conv=>lhs; (conv=>arg 1;reduce);dsimp only[G.ap]
def mQ:List ak:=[.tmp 4]
theorem Dc:aq Tryz.prog bq [] nP mQ 15:=ai mixed (by kernel_rfl)
def lS:CC:=by refine(fun(_:G.ap (G.gn Tryz.prog Tryz.f102 [] { ke:=[0] })=?c)=>?c) ?h;case h=>conv=>lhs; (conv=>arg 1;reduce);dsimp only[G.ap]
def lD:List ak:=[.tmp 6]
theorem Bq:aq Tryz.prog iU [] lS lD 40:=ai mixed (by kernel_rfl)
def lU:CC:=by refine(fun(_:G.ap (G.gn Tryz.prog Tryz.f252 [] { bx:=[0] })=?c)=>?c) ?h;case h=>conv=>lhs; (conv=>arg 1;reduce);dsimp only[G.ap]
def lF:List ak:=[.tmp 2]
theorem Bv:aq Tryz.prog iX [] lU lF 5:=ai mixed (by kernel_rfl)
def fC:CC:=by refine(fun(_:G.ap (G.gn Tryz.prog Tryz.f208 [] { bx:=[0] })=?c)=>?c) ?h;case h=>conv=>lhs; (conv=>arg 1;reduce);dsimp only[G.ap]
def fg:List ak:=[.tmp 2]
theorem zr:aq Tryz.prog fP [] fC fg 63:=ai mixed (by kernel_rfl)
def dC:CC:=by refine(fun(_:G.ap (G.gn Tryz.prog Tryz.f246 [] { bx:=[0] })=?c)=>?c) ?h;case h=>conv=>lhs; (conv=>arg 1;reduce);dsimp only[G.ap]
def du:List ak:=[.cell 2 true 13]
theorem Bu:aq Tryz.prog iW [] dC du 97:=ai mixed (by kernel_rfl)
def nN:CC:=by refine(fun(_:G.ap (G.gn Tryz.prog Tryz.f207 [] { bx:=[0] })=?c)=>?c) ?h;case h=>conv=>lhs; (conv=>arg 1;reduce);dsimp only[G.ap]
def mO:List ak:=[.cell 2 true 13]
theorem Da:aq Tryz.prog jV [] nN mO 64:=ai mixed (by kernel_rfl)
def nM:CC:=by refine(fun(_:G.ap (G.gn Tryz.prog Tryz.f151 [100006,1013006] { ke:=[0] })=?c)=>?c) ?h;case h=>conv=>lhs; (conv=>arg 1;reduce);dsimp only[G.ap]
def mN:List ak:=[.cell 2 true 13]
theorem C9:aq Tryz.prog jU [100006,1013006] nM mN 22:=ai mixed (by kernel_rfl)
def nQ:CC:=by refine(fun(_:G.ap (G.gn Tryz.prog Tryz.f96 [100006,1013006] { ke:=[0] })=?c)=>?c) ?h;case h=>conv=>lhs; (conv=>arg 1;reduce);dsimp only[G.ap]
def mR:List ak:=[.cell 2 true 13]
theorem Dd:aq Tryz.prog jW [100006,1013006] nQ mR 22:=ai mixed (by kernel_rfl)
def lR:CC:=by refine(fun(_:G.ap (G.gn Tryz.prog Tryz.f99 [] { ke:=[0] })=?c)=>?c) ?h;case h=>conv=>lhs; (conv=>arg 1;reduce);dsimp only[G.ap]
def lC:List ak:=[.tmp 6]
theorem Bp:aq Tryz.prog iT [] lR lC 22:=ai mixed (by kernel_rfl)
def tf:CC:=by refine(fun(_:G.ap (G.gn Tryz.prog Tryz.f100 [] {})=?c)=>?c) ?h;case h=>conv=>lhs; (conv=>arg 1;reduce);dsimp only[G.ap]
def sB:List ak:=[.tmp 0]
theorem IE:aq Tryz.prog pN [] tf sB 2:=ai mixed (by kernel_rfl)
def xt:CC:=by refine(fun(_:G.ap (G.gn Tryz.prog Tryz.f44 [2056006,2002002] { cu:=[8,18,23] })=?c)=>?c) ?h;case h=>conv=>lhs; (conv=>arg 1;reduce);dsimp only[G.ap]
def wz:List ak:=[.cell 2 true 26, .tmp 3, .tmp 4]
theorem Nm:aq Tryz.prog ue [2056006,2002002] xt wz 110:=ai mixed (by kernel_rfl)
end Go.Gv

namespace Go.Gv
open Cod (enc dec)
variable {S S0:Nat->Spc}
@[simp] abbrev Vz(s:Pst)(_:Unit):Option (Pst×F2):=(wV s).map fun x=>(s,x)
abbrev vH:Spc:=SO a0 (enc (X:=F2)) Vz
theorem qiN:ol nO mP S a0 (enc (X:=F2)) (fun s z=>∃r,Vz s z=some r) (fun s z s' y=>Vz s z=some (s',y)):=by
 rintro b s ⟨⟩ ⟨r,hr⟩
 simp only[Vz,wV,qt6]at hr
 obtain⟨x,hx,rfl⟩:=hr
 split at hx
 ·rename_i h0
  obtain⟨h0,hb⟩:=h0
  have hl:=qeO hx
  obtain⟨_,hgx⟩:=qtV.1 hx
  simp[nO,mP,hx]
  exact fun _=>⟨h0,by omega,DH s x (.same _) (by simp) ⟨by rw[wV,if_pos ⟨h0,hb⟩,hx],rfl⟩⟩
 ·cases hx
theorem DK{s:Pst}(h:s.e=0):Pst.mk s.l s.pos s.deep 0 s.fail=s:=by rw[<-h]
theorem Qj{b:Nat}{post:Pst->Bool->Prop}{v:Bool}{H:ab}(s:Pst)(h0:H 0=some (.box b (ld s)))(hq:post s v):J3 enc b post (.v (.bool v)) H:=DH s v (.same _) h0 hq
theorem qqo{b:Nat}{post:Pst->Int->Prop}{v:Int}{H:ab}(s:Pst)(h0:H 0=some (.box b (ld s)))(hq:post s v):J3 enc b post (.v (.int .i64 v)) H:=DH s v (.same _) h0 hq
theorem qgI{b:Nat}{post:Pst->B->Prop}{v:B}{H:ab}(s:Pst)(h0:H 0=some (.box b (ld s)))(hq:post s v):J3 enc b post (.v (.string v)) H:=DH s v (.same _) h0 hq
@[simp] abbrev qer(s:Pst)(z:U8×B):Option (Pst×Bool):=(UH s z.1.val z.2).map fun x=>(s,x)
abbrev Su:Spc:=SO (a2 U8 B) (enc (X:=Bool)) qer
theorem qoH(h1:S aK=vH):ol ku jO S (a2 U8 B) (enc (X:=Bool)) (fun s z=>∃r,qer s z=some r) (fun s z s' y=>qer s z=some (s',y)):=by
 rintro b s ⟨⟨k⟩,t⟩ ⟨r,hr⟩
 simp only[qer,UH,qt6]at hr
 obtain⟨v,hr,rfl⟩:=hr
 split at hr
 ·rename_i he
  simp[ku,jO,h1,he]
  exact Qj s (by simp) ⟨by rw[UH,if_pos he],rfl⟩
 ·rename_i he
  have he:s.e=0:=by simpa using he
  obtain⟨x,hx,rfl⟩:=qt6.1 hr
  have hF:UH s k t=some (decide (x.kind=k/\x.text=t)):=by rw[UH,if_neg (by simp[he]),hx];rfl
  simp[ku,jO,h1,he,DK he,hx]
  refine⟨fun hk=>Qj s (by simp[he]) ⟨by rw[hF];simp[hk],rfl⟩,fun hk=>Qj s (by simp[he]) ⟨by rw[hF];simp[hk],rfl⟩⟩
@[simp] abbrev L9(s:Pst)(t:B):Option (Pst×Bool):=qQ s t
abbrev yU:Spc:=SO (a1 B) (enc (X:=Bool)) L9
theorem ZW{s:Pst}{k:Int}{t:B}(h:UH s k t=some true):s.e=0/\∃x,wV s=some x/\x.kind=k/\x.text=t:=by
 unfold UH at h
 split at h
 ·cases h
 ·rename_i he
  obtain⟨x,hx,h2⟩:=qt6.1 h
  simp at h2
  exact⟨by simpa using he,x,hx,h2⟩
theorem PI{s:Pst}{x:F2}(h:wV s=some x):0<=s.pos/\s.pos < s.l.length/\s.l.length<=1000000:=by
 unfold wV at h
 split at h
 ·have:=qeO h
  omega
 ·cases h
theorem qiP(h1:S de=Su):ol nP mQ S (a1 B) (enc (X:=Bool)) (fun s z=>∃r,L9 s z=some r) (fun s z s' y=>L9 s z=some (s',y)):=by
 rintro b s t ⟨r,hr⟩
 have hr0:=hr
 simp only[L9,qQ,qt6]at hr
 obtain⟨v,hr,rfl⟩:=hr
 simp[nP,mQ,h1,hr]
 cases v
 ·simp
  exact Qj s (by simp) (by simp[L9,qQ,hr])
 ·obtain⟨_,x,hx,_⟩:=ZW hr
  have:=PI hx
  simp
  exact⟨by simp only[InR];omega,Qj s.step (by simp[Pst.step]) (by simp[L9,qQ,hr])⟩
theorem G4{s:Pst}{k:Int}{t:B}{x:F2}(he:s.e=0)(hx:wV s=some x):UH s k t=some (decide (x.kind=k/\x.text=t)):=by
 rw[UH,if_neg (by simp[he]),hx];rfl
@[simp] abbrev Ox(s:Pst)(z:U8×B):Option (Pst×B):=Ce s z.1.val z.2
abbrev Se:Spc:=SO (a2 U8 B) (enc (X:=B)) Ox
theorem qfg(h1:S aK=vH):ol lS lD S (a2 U8 B) (enc (X:=B)) (fun s z=>∃r,Ox s z=some r) (fun s z s' y=>Ox s z=some (s',y)):=by
 rintro b s ⟨⟨k⟩,t⟩ ⟨r,hr⟩
 have hr0:=hr
 simp only[Ox,Ce]at hr
 split at hr
 ·cases hr
 rename_i he
 have he:s.e=0:=by simpa using he
 obtain⟨x,hx,hr⟩:=qtT.1 hr
 split at hr
 ·cases hr
 rename_i hk
 cases hr
 have hk1:x.kind=k:=by by_cases h:x.kind=k;exact h;exact absurd (.inl h) hk
 have hk2:k=111->x.text=t:=fun h=>by by_cases h':x.text=t;exact h';exact absurd (.inr ⟨h,h'⟩) hk
 have hrg:=PI hx
 simp[lS,lD,h1,he,DK he,hx,hk1]
 clear h1
 have fin:∀H:ab,H 0=some (.box b (ld s.step))->J3 enc b (fun s' y=>Ce s k t=some (s',y)) (.v (.string x.text)) H:=fun H h=>qgI s.step h hr0
 intro b7
 exact⟨fun h=>⟨fun h'=>absurd (hk2 h) h',fun _=>⟨by simp only[InR];omega,qgI s.step (by simp[Pst.step,he]) hr0⟩⟩,fun _=>⟨by simp only[InR];omega,qgI s.step (by simp[Pst.step,he]) hr0⟩⟩
@[simp] abbrev Oz(s:Pst)(_:Unit):Option (Pst×Bool):=qQ s ⟨#[37,99]⟩
abbrev Sw:Spc:=SO a0 (enc (X:=Bool)) Oz
theorem qft(h1:S bq=yU):ol lU lF S a0 (enc (X:=Bool)) (fun s z=>∃r,Oz s z=some r) (fun s z s' y=>Oz s z=some (s',y)):=by
 rintro b s ⟨⟩ ⟨⟨s',v⟩,hr⟩
 simp only[Oz]at hr
 simp[lU,lF,h1,hr, -Bool.forall_bool, -Bool.exists_bool]
 refine Qj s' ?_ ?_
 ·simp
 ·exact⟨rfl,rfl⟩
theorem WM{s:Pst}{x:F2}(h:Ut s=some x):0<=s.pos/\s.pos+1 < s.l.length/\s.l.length<=1000000/\s.l[(s.pos+1).toNat]? =some x:=by
 unfold Ut at h
 split at h
 ·rename_i h0
  exact⟨h0.1,h0.2.1,h0.2.2,h⟩
 ·cases h
@[simp] abbrev TZ(s:Pst)(_:Unit):Option (Pst×F2):=(Ut s).map fun x=>(s,x)
abbrev Sn:Spc:=SO a0 (enc (X:=F2)) TZ
theorem qfk:ol lT lE S a0 (enc (X:=F2)) (fun s z=>∃r,TZ s z=some r) (fun s z s' y=>TZ s z=some (s',y)):=by
 rintro b s ⟨⟩ ⟨r,hr⟩
 obtain⟨x,hx,rfl⟩:=qt6.1 hr
 obtain⟨g1,g2,g3,g4⟩:=WM hx
 have hm:min (s.pos+1) (s.l.length -1)=s.pos+1:=by omega
 simp[lT,lE,InR,hm]
 refine fun _=>⟨by omega,fun _=>⟨by omega,by omega,by omega,fun a ha=>DH s a (.same _) (by simp) ⟨?_,rfl⟩⟩⟩
 rw[g4]at ha
 rw[<-ha,hx]
@[simp] abbrev J4(s:Pst)(_:Unit):Option (Pst×Bool):=(Od s).map fun v=>(s,v)
abbrev Bg:Spc:=SO a0 (enc (X:=Bool)) J4
theorem Yd(h1:S aK=vH)(h2:S iV=Sn):ol fC fg S a0 (enc (X:=Bool)) (fun s z=>∃r,J4 s z=some r) (fun s z s' y=>J4 s z=some (s',y)):=by
 rintro b s ⟨⟩ ⟨r,hr⟩
 obtain⟨v,hv,rfl⟩:=qt6.1 hr
 have hv0:=hv
 simp only[Od]at hv
 obtain⟨x,hx,hv⟩:=qtT.1 hv
 split at hv
 ·cases hv
 rename_i he
 have he:s.e=0:=by simpa using he
 split at hv
 ·rename_i hk
  obtain⟨n,hn,hv⟩:=qtT.1 hv
  split at hv
  ·rename_i hc
   cases hv
   simp[fC,fg,h1,h2,hx,he,DK he,hk,hn,hc.1,hc.2]
   exact Qj s (by simp[he]) ⟨hv0,rfl⟩
  ·cases hv
 rename_i hk
 cases hv
 simp[fC,fg,h1,hx,he,DK he,hk]
 clear h1 hr
 repeat' first|apply And.intro|intro _
 all_goals refine Qj s (by simp[he]) ⟨?_,rfl⟩
 all_goals (rw[hv0];simp[*])
end Go.Gv
