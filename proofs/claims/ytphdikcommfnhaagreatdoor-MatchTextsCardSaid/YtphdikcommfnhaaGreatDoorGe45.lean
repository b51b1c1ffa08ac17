/- A part of the framework and of the walks: W188 W189 W191 V66 C70 W194. -/
import Derived.Test.YtphdikcommfnhaaGreatDoorGe42
import Derived.Test.YtphdikcommfnhaaGreatDoorGe43
import Derived.Test.YtphdikcommfnhaaGreatDoorGe44
import Derived.Test.YtphdikcommfnhaaGreatDoorGe36
import Derived.Test.YtphdikcommfnhaaGreatDoorGe30
import Derived.Test.YtphdikcommfnhaaGreatDoorGe20
import Derived.Test.YtphdikcommfnhaaGreatDoorGe39
set_option linter.unusedSimpArgs false
set_option linter.unusedVariables false
set_option linter.unusedSectionVars false
set_option maxRecDepth 100000
set_option maxHeartbeats 0

namespace Go.Gv
open Go.Proofs
open Cod (enc dec)
variable {S S0:Nat->Spc}
theorem QN(p:Pat):∀d:Int,dm p d=true->(eD p:Int) +d<=101:=by
 induction p using fL with|_ p ih=>?_
 intro d h
 rw[mI]at h
 simp only[qxH,decide_eq_true_eq,qxF]at h
 rw[Im]
 have:∀ks:List Pat,(∀k∈ks,k∈p.kids)->(G6 ks:Int) +d<=100:=by
  intro ks
  induction ks with
  | nil=>intro _;rw[G6];have:=h.1;simp;omega
  | cons k ks ihk=>
    intro hk
    have h1:=ihk fun z hz=>hk z (by simp[hz])
    have h2:=ih k (hk k (by simp)) (d+1) (h.2 k (hk k (by simp)))
    rw[G6]
    omega
 have:=this p.kids fun _ h=>h
 omega
structure XL (c:Corpus) (p:Pat):Prop where
 sz:qlh c
 few:c.toks.length<=170
 pat:kP aZ p=true
 l3:(aS p []).length<=3
 num:jg p<=1000000
 nd:∀t∈c.texts,ll (qhl (FJ c (aS p []) t)) p
def qel(x:Corpus×Qry×Int):Prop:=XL x.1 x.2.1.pat/\0<=x.2.2/\x.2.2 < x.1.toks.length
def qib(x:Corpus×Qry×Int)(y:List Match):Prop:=qev x.1 (aS x.2.1.pat []) x.2.1.pat x.2.2 y/\y.length<=1000000000
abbrev VV:Spc:=aI (a3 Corpus Qry Int) qel (enc (X:=List Match)) qib
abbrev b_masg:Spc:=qh7 (a1 St3) ND (enc (X:=List Int)) Tj
theorem qeR(h1:S rJ=MS)(h2:S tH=zQ)(h3:S cZ=MJ 101)(h4:S da=b_masg)(h5:S mO=Ud iq wy):aq qF qu S (a3 Corpus Qry Int) qel (enc (X:=List Match)) qib:=by
 rintro⟨c,q,i⟩ ⟨hF,hi0,hi1⟩
 have hF:XL c q.pat:=hF
 have hi0:0<=i:=hi0
 have hi1:i < c.toks.length:=hi1
 have hPb:XH q.pat []:=by show 0+jg q.pat<=1000000;have:=hF.num;omega
 have hfew:=hF.few
 have htl:(c.toks.length:Int)<=9223372036854775807:=by omega
 rcases qap (c:=c) (i:=i)with⟨k1,k2⟩|⟨k,t,k1,k2,k3⟩
 ·simp[qF,qu,h1,k1, -Bool.forall_bool, -Bool.exists_bool]
  refine cp [] (.nil _) ⟨⟨List.Pairwise.nil,fun m=>⟨fun h=>(by cases h),?_⟩⟩,qx3 _⟩
  rintro⟨e,_,_,t,ht,_⟩
  have e:m.b=i:=e
  rw[e,k2]at ht
  cases ht
 ·have hkl:k < c.texts.length:=(qxz.1 k2).1
  obtain⟨_,hgt⟩:=qxz.1 k2
  have hkn:¬ (k:Int) < 0:=by omega
  simp[qF,qu,h1,k1,hkn,hkl,k2,hgt,h2,hPb,hF.pat,htl, -Bool.forall_bool, -Bool.exists_bool]
  intro b8
  refine gy (X:=Nat×Value) [2,4] [] [] [(990,34)] (fun _=>True) (fun x=>[(9, .bptr 36 x.1 0)]) (fun x=>[(36, .box x.1 (lF (FJ c (aS q.pat []) t) (.own 990 x.2))),(990, .mrow x.2 [])]) [36,990] (fun _=>rfl) (by decide) ?_ ?_
  ·simp[h2,hPb,hF.pat,htl, -Bool.forall_bool, -Bool.exists_bool]
   refine fun x b=>⟨b, .same _,x, .inl (.inr ⟨rfl,rfl,fun m y z h6 h7=>?_⟩), .inl (.inl rfl)⟩
   rcases m with _|_|_|_|_|_|_|_|_|_|_|m
   all_goals first|(cases h6;cases h7;exact .same _)|(cases h6;cases h7;exact .own _ _ _)|(simp at h6)
  rintro⟨b,v⟩ -
  have htm:t∈c.texts:=qxC k2
  have htb:t.b<=i/\i < t.e:=by
   have:=List.find?_some k3
   simpa using this
  generalize hr:FJ c (aS q.pat []) t=r
  have hen:i<=r.en/\r.en<=170:=by
   rw[<-hr]
   show i<=min t.e (c.toks.length:Int)/\min t.e (c.toks.length:Int)<=170
   omega
  have hlb:r.lb=aS q.pat []:=by rw[<-hr];rfl
  have hnd:ll (qhl r) q.pat:=by rw[<-hr];exact hF.nd t htm
  have hl3:r.lb.length<=3:=by rw[hlb];exact hF.l3
  have hs0:P2 r.en (Je i):=⟨hi0,hen.1,fun j=>by rcases j with _|_|j <;> exact⟨qy8 _,by show(0:Int)<=r.en;omega⟩⟩
  have hRok:qhg r:=⟨hl3,by rw[<-hr];exact hF.sz,by omega⟩
  have hdep:eD q.pat<=101:=by
   have hp:=hF.pat
   unfold kP at hp
   simp only[qxH]at hp
   have:=QN q.pat 1 hp.1.1.1
   omega
  have hQ:∀m,m.b=i/\qes c (aS q.pat []) q.pat m↔ ∃s,lJ r q.pat (Je i) s/\i < s.p/\m=⟨i,s.p,NB r s⟩:=fun m=>by
   constructor
   ·rintro⟨rfl,_,_,t',ht',s,hs,h1,h2,h3⟩
    rw[k3]at ht'
    cases ht'
    rw[hr]at hs h3
    refine⟨s,hs,h1,?_⟩
    obtain⟨mb,me,ml⟩:=m
    simp only at h2 h3 ⊢
    rw[h2,h3]
   ·rintro⟨s,hs,h1,rfl⟩
    exact⟨rfl,hi0,hi1,t,k3,s,by rw[hr];exact hs,h1,rfl,by rw[hr]⟩
  simp[h3,Co,Ea, -Bool.forall_bool, -Bool.exists_bool]
  refine⟨⟨hRok,fun e he=>(by cases he),hs0,q.pat,⟨_,_,rfl,qxy rfl,by simp⟩,hdep,hnd⟩,fun v2 es2 ys hQr b2=>?_⟩
  have hys:=hQr.2.2 q.pat ⟨_,_,rfl,qxy rfl,by simp⟩
  have hysn:=hQr.2.1
  clear hQr
  replace hys:∀t,t∈ys↔lJ r q.pat (Je i) t:=hys
  refine av (X:=Value×List Match×List D×List St3) [2,9,42] [36,990] (fun x=>x.2.1.Nodup/\(∀s∈x.2.2.2,s∈ys)/\x.2.2.2.Nodup/\(∀m∈x.2.1,∃s∈ys,s∉x.2.2.2/\i < s.p/\m=⟨i,s.p,NB r s⟩)/\(∀s∈ys,s∈x.2.2.2\/(i < s.p->(⟨i,s.p,NB r s⟩:Match) ∈x.2.1))/\x.2.1.length+x.2.2.2.length<=ys.length)
   (fun x=>[(10, .own 60 x.1)]) (fun x=>[(42, .miter b2 x.2.2.1 (bp x.2.2.2)),(60, .row x.1 wy 3 (x.2.1.map enc))]) (fun x=>x.2.2.2.length) (.slice none 0 0, [], [],ys)
   ⟨qzk,fun _ h=>h,hysn,fun _ h=>(by cases h),fun _ h=> .inl h,by simp⟩ (by simp) (by simp[isNilRow]) ?_
  rintro⟨v3,out,cur,left⟩ ⟨g1,g2,g3,g4,g5,g6⟩
  simp only at g1 g2 g3 g4 g5 g6
  have hyl:=TZ hen.2 hysn fun s hs=>rE r q.pat _ _ ((hys s).1 hs) hs0
  simp[-Bool.forall_bool, -Bool.exists_bool]
  refine⟨fun h0=>?_,fun l1 x l2 hsp=>?_⟩
  ·have hlz:=fg h0
   subst hlz
   simp[h5, -Bool.forall_bool, -Bool.exists_bool]
   refine⟨⟨rfl,by simp at g6;omega,g1⟩,fun l' hQ2=>cp l' (gl wy (by simp[ah])) ⟨⟨hQ2.1,fun m=>?_⟩,by rw[hQ2.2.1];show out.length<=_;simp at g6;omega⟩⟩
   rw[hQ2.2.2 m,hQ]
   constructor
   ·intro hm
    obtain⟨s,h1,_,h2,h3⟩:=g4 m hm
    exact⟨s,(hys s).1 h1,h2,h3⟩
   ·rintro⟨s,h1,h2,rfl⟩
    exact(g5 s ((hys s).2 h1)).elim (fun h=>by cases h) fun h=>h h2
  ·obtain⟨a,s,c2,rfl,rfl,rfl,rfl⟩:=gA hsp
   simp[h4,Rg, -Bool.forall_bool, -Bool.exists_bool]
   have hsy:s∈ys:=g2 s (by simp)
   have hsub:∀x∈a++c2,x∈ys:=fun x h=>g2 x (by simp only[qxE,qxD]at h ⊢;rcases h with h|h <;> simp[h])
   have hnd2:(a++c2).Nodup/\s∉a++c2:=by
    obtain⟨n1,n2,n3⟩:=qyQ.1 g3
    have n4:=qzr.1 n2
    refine⟨qyQ.2 ⟨n1,n4.2,fun x hx y hy=>n3 x hx y (by simp[hy])⟩,fun h=>?_⟩
    rcases qxE.1 h with h|h
    ·exact n3 s h s (by simp) rfl
    ·exact n4.1 h
   have hnot:∀m∈out,∃u∈ys,u∉a++c2/\i < u.p/\m=(⟨i,u.p,NB r u⟩:Match):=fun m hm=>by
    obtain⟨u,k1,k2,k3,k4⟩:=g4 m hm
    exact⟨u,k1,fun h=>k2 (by simp only[qxE,qxD]at h ⊢;rcases h with h|h <;> simp[h]),k3,k4⟩
   simp only[qxX,qyr]at g6
   have hsL:=rE r q.pat _ _ ((hys s).1 hsy) hs0
   have hsOk:qoF s:=⟨hsL.1,by have:=hsL.2.1;have:=hen.2;omega,fun j=>⟨(hsL.2.2 j).1,by have:=(hsL.2.2 j).2;have:=hen.2;omega⟩⟩
   have hPa:ND (.cptr (lF r (.own 990 v2)) 0,s):=⟨⟨r,_,rfl,hl3⟩,hsOk⟩
   refine⟨fun hgt=>⟨hPa,fun z hz=>?_⟩,fun hle=>?_⟩
   ·obtain rfl:=hz r _ rfl
    refine⟨by omega,by omega,fun v4=>⟨v4,out++ [⟨i,s.p,NB r s⟩],_,a++c2,⟨?_,hsub,hnd2.1,fun m hm=>?_,fun u hu=>?_,by simp;omega⟩,⟨rfl, .inl ⟨rfl,(hZ a c2).symm⟩, .inl ⟨rfl,by simp⟩⟩,by simp⟩⟩
    ·rw[qyQ]
     refine⟨g1,by simp,fun m hm m' hm' e=>?_⟩
     simp at hm'
     subst hm'
     obtain⟨u,k1,k2,_,k4⟩:=g4 m hm
     rw[e]at k4
     injection k4 with _ e1 e2
     have:s=u:=qhb hl3 (sK hnd fun q h=>h.lab) ((hys s).1 hsy) ((hys u).1 k1) e1 e2
     subst this
     exact k2 (by simp)
    ·rcases qxE.1 hm with hm|hm
     ·exact hnot m hm
     ·simp at hm
      exact⟨s,hsy,hnd2.2,hgt,hm⟩
    ·rcases g5 u hu with h|h
     ·rcases qxE.1 h with h|h
      ·exact .inl (by simp[h])
      ·rcases qxD.1 h with rfl|h
       ·exact .inr fun _=>by simp
       ·exact .inl (by simp[h])
     ·exact .inr fun hp=>List.mem_append_left _ (h hp)
   ·refine⟨v3,out,_,a++c2,⟨g1,hsub,hnd2.1,hnot,fun u hu=>?_,by simp;omega⟩,⟨rfl, .inl ⟨rfl,(hZ a c2).symm⟩, .inl ⟨rfl,rfl⟩⟩,by simp⟩
    rcases g5 u hu with h|h
    ·rcases qxE.1 h with h|h
     ·exact .inl (by simp[h])
     ·rcases qxD.1 h with rfl|h
      ·exact .inr fun hp=>absurd hp (by omega)
      ·exact .inl (by simp[h])
    ·exact .inr h
end Go.Gv

namespace Go.Gv
open Go.Proofs
open Cod (enc dec)
variable {S S0:Nat->Spc}
structure ql4 (a:List Attr) (q:Qry):Prop where
 glob:q.glob=GlobE
 filts:q.filts=[]
 strat:q.strat=0
 pat:kP aZ q.pat=true
 size:kB q.pat<=256
 l3:(aS q.pat []).length<=3
 num:jg q.pat<=1000000
 att:a.length<=1000
 lv:∀x∈aM q.pat,qhN a (aS q.pat []) x.cond=true/\∃n,HW n x.cond
abbrev Om(V:List Attr->Qry->Prop):Spc:=aI (a2 Qry (List Attr)) (fun x=>V x.2 x.1) (enc (X:=Int)) fun _ y=>y=0
abbrev qi6:Spc:=Om ql4
structure NE (V:List Attr->Qry->Prop) (c:Corpus) (q:Qry):Prop where
 v:V c.attrs q
 f:XL c q.pat
abbrev qoH(c:Corpus)(q:Qry):Prop:=NE ql4 c q
def qoz(x:Corpus×Qry)(y:List Match×Int):Prop:=(y.2=0/\Vu x.1 (aS x.2.pat []) x.2.pat y.1/\y.1.length<=4096)\/(y.2=2/\y.1=[]/\∃k l,Vt x.1 (aS x.2.pat []) x.2.pat k l/\4096 < l.length)
abbrev Uf(V:List Attr->Qry->Prop):Spc:=aI (a2 Corpus Qry) (fun x=>NE V x.1 x.2) (qW (Y:=List Match) (Z:=Int)) qoz
abbrev qhG:Spc:=Uf ql4
theorem qiT{c:Corpus}{lb:List B}{p:Pat}{k:Int}{l l':List Match}(h:Vt c lb p k l)(h':Vu c lb p l'):l.length<=l'.length:=by
 have hs:l.Sublist l':=by
  have e:l=l'.filter fun m=>decide (m.b < k):=by
   refine FC h.1 (h'.1.filter _) fun m=>?_
   rw[h.2,qy3,h'.2,decide_eq_true_iff]
   exact and_comm
  rw[e]
  exact qz4
 exact hs.length_le
theorem qht{V:List Attr->Qry->Prop}(h1:S kq=Om V)(h2:S yh=VV):aq qd pq S (a2 Corpus Qry) (fun x=>NE V x.1 x.2) (qW (Y:=List Match) (Z:=Int)) qoz:=by
 rintro⟨c,q⟩ hM
 have hM:NE V c q:=hM
 have hV:V c.attrs q:=hM.v
 have hfew:=hM.f.few
 have htl:(c.toks.length:Int)<=9223372036854775807:=by omega
 simp[qd,pq,h1,hV,htl, -Bool.forall_bool, -Bool.exists_bool]
 refine ai (X:=Value×List Match) [2,3] [] c.toks.length (fun k x=>Vt c (aS q.pat []) q.pat k x.2/\x.2.length<=4096) (fun x=>[(7, .own 27 x.1)]) (fun x=>[(27, .row x.1 wy 3 (x.2.map enc))]) (.slice none 0 0, []) (by simp) (by simp) (by omega) (by simp) (by simp) ⟨Zd _ _ _,by simp⟩ (by simp) (by simp[isNilRow]) ?_ ?_
 ·rintro k ⟨v,l⟩ hk ⟨g1,g2⟩
  simp only at g1 g2
  have hPf:qel (c,q,(k:Int)):=⟨hM.f,by show(0:Int)<=k;omega,by show(k:Int) < c.toks.length;omega⟩
  simp[h2,hPf, -Bool.forall_bool, -Bool.exists_bool]
  rintro y ⟨hy1,hy2⟩
  have hst:=Ze g1 hy1
  exact⟨by omega,by omega,fun v' hle=>⟨fun h=> .inr ⟨rfl,rfl,_,_,hst,by simp;omega⟩,fun h=>⟨v',l++y,⟨hst,by simp;omega⟩,rfl, .inl ⟨rfl,by simp⟩⟩⟩⟩
 ·rintro⟨v,l⟩ ⟨g1,g2⟩
  simp only at g1 g2
  simp[-Bool.forall_bool, -Bool.exists_bool]
  exact⟨l,gl wy (by simp[ah]), .inl ⟨rfl,qct g1,g2⟩⟩
end Go.Gv

namespace Go.Gv
open Go.Proofs
open Cod (enc dec)
variable {S S0:Nat->Spc}
abbrev qa1:Spc:=aI (a1 Glob) (fun g=>g=GlobE) (enc (X:=Bool)) fun x y=>y=true
theorem NV:aq iz ix S (a1 Glob) (fun g=>g=GlobE) (enc (X:=Bool)) fun x y=>y=true:=by
 rintro x rfl
 simp[iz,ix,GlobE,E0, -Bool.forall_bool]
abbrev Wj:Spc:=aI (a1 Glob) (fun g=>g=GlobE) (enc (X:=Bool)) fun x y=>y=true
theorem LJ(h1:S nP=qa1):aq gh fT S (a1 Glob) (fun g=>g=GlobE) (enc (X:=Bool)) fun x y=>y=true:=by
 rintro x rfl
 simp[gh,fT,h1, -Bool.forall_bool]
abbrev qbn:Spc:=aI (aE (List sD) (aD a0)) (fun x=>x.1=[]) (enc (X:=Int)) fun x y=>y= -1
theorem uy:aq bW bO S (aE (List sD) (aD a0)) (fun x=>x.1=[]) (enc (X:=Int)) fun x y=>y= -1:=by
 rintro⟨l,d,⟨⟩⟩ h
 have h:l=[]:=h
 subst h
 simp[bW,bO, -Bool.forall_bool]
 refine ai (X:=Unit) [] [] 0 (fun _ _=>True) (fun _=>[]) (fun _=>[]) () (by simp) (by simp) (by omega) (by simp) (by simp) trivial (by simp) (by simp) (fun k x hk=>absurd hk (by omega)) (fun _ _=>?_)
 simp
abbrev Um:Spc:=aI (aE (List sD) (aD a0)) (fun x=>x.1=[]) (enc (X:=Bool)) fun x y=>y=false
theorem re(h1:S ck=qbn):aq bv br S (aE (List sD) (aD a0)) (fun x=>x.1=[]) (enc (X:=Bool)) fun x y=>y=false:=by
 rintro⟨l,d,⟨⟩⟩ h
 have h:l=[]:=h
 subst h
 simp[bv,br,h1, -Bool.forall_bool]
abbrev qbj:Spc:=aI (a3 Glob (List Attr) (List B)) (fun x=>x.1=GlobE) (enc (X:=Int)) fun _ y=>y=0
abbrev Wd:Spc:=aI (a3 Glob (List Attr) (List B)) (fun x=>x.1=GlobE) (enc (X:=Int)) fun _ y=>y=0
structure qvo (q:Qry):Prop where
 filts:q.filts=[]
 strat:q.strat=0
 pat:kP aZ q.pat=true
 size:kB q.pat<=256
 l3:(aS q.pat []).length<=3
 num:jg q.pat<=1000000
abbrev qbi:Spc:=aI (a1 Qry) qvo (enc (X:=Int)) fun _ y=>y=0
theorem qiH{N:Nat->Spc}(h0:N cV=Bf)(h0':N cF=wB)(h1:S lz=Il)(h2:S eG=zR N)(h3:S km=Ol)(h4:S bT=s_qlabels)(h5:S aL=Um):
 aq du dn S (a1 Qry) qvo (enc (X:=Int)) fun _ y=>y=0:=by
 rintro q hq
 have f1:FunIs N (.clo cV []) (uO aZ):=tA h0 fun _=>trivial
 have f2:FunIs N (.clo cF []) uB:=tA h0' fun _=>trivial
 have hp:=hq.pat
 unfold kP at hp
 simp only[qxH]at hp
 obtain⟨⟨⟨p1,p2⟩,p3⟩,p4⟩:=hp
 have hsz:=hq.size
 have hsz2:¬256 < kB q.pat:=by omega
 have hl3:=hq.l3
 have hPb:XH q.pat []:=by show 0+jg q.pat<=1000000;have:=hq.num;omega
 simp[du,dn,h1,p1,p2,h2,hq.filts,hq.strat,h3,hq.pat,hsz,hsz2,h5, -Bool.forall_bool, -Bool.exists_bool]
 refine⟨⟨_,f1⟩,fun y hy=>⟨fun _=>⟨⟨_,f2⟩,fun z hz=>⟨by rw[hz _ f2,p4],fun _=>?_⟩⟩,by rw[hy _ f1,p3]⟩⟩
 simp[h4, -Bool.forall_bool, -Bool.exists_bool]
 refine .inl ⟨hPb,fun l hl _=>?_⟩
 have hl:l=aS q.pat []:=hl
 subst hl
 omega
theorem qe2:aq ay ax S (a3 Glob (List Attr) (List B)) (fun x=>x.1=GlobE) (enc (X:=Int)) fun _ y=>y=0:=by
 rintro⟨g,a,lb⟩ h
 have h:g=GlobE:=h
 subst h
 simp[ay,ax,GlobE, -Bool.forall_bool, -Bool.exists_bool]
theorem qiI(h1:S fu=Wd):aq fB fk S (a3 Glob (List Attr) (List B)) (fun x=>x.1=GlobE) (enc (X:=Int)) fun _ y=>y=0:=by
 rintro⟨g,a,lb⟩ h
 have h:g=GlobE:=h
 subst h
 simp[fB,fk,h1, -Bool.forall_bool, -Bool.exists_bool]
 simp[GlobE, -Bool.forall_bool, -Bool.exists_bool]
 refine ai (X:=Unit) [] [] 0 (fun _ _=>True) (fun _=>[]) (fun _=>[]) () (by simp) (by simp) (by omega) (by simp) (by simp) trivial (by simp) (by simp) (fun k x hk=>absurd hk (by omega)) (fun _ _=>?_)
 simp
theorem qiv(h1:S dX=qbi)(h2:S bT=s_qlabels)(h3:S dW=s_leavesQ)(h4:S fw=Uk)(h5:S aL=Um)(h6:S lw=Wj)(h7:S dE=qbj):
 aq fC fl S (a2 Qry (List Attr)) (fun x=>ql4 x.2 x.1) (enc (X:=Int)) fun _ y=>y=0:=by
 rintro⟨q,a⟩ hq
 have hq:ql4 a q:=hq
 have hC:qvo q:=⟨hq.filts,hq.strat,hq.pat,hq.size,hq.l3,hq.num⟩
 have hPb:XH q.pat []:=by show 0+jg q.pat<=1000000;have:=hq.num;omega
 have hlv:(aM q.pat).length<=jg q.pat:=Kj q.pat
 have hPq:qih q.pat []:=⟨by have:=hq.num;simp;omega,fun y hy=>(hq.lv y hy).2⟩
 simp[fC,fl,h1,hC,h2, -Bool.forall_bool, -Bool.exists_bool]
 refine .inl ⟨hPb,fun l hl=>?_⟩
 have hl:l=aS q.pat []:=hl
 subst hl
 simp[h3, -Bool.forall_bool, -Bool.exists_bool]
 refine .inl ⟨hPq,?_⟩
 intro hll
 refine ai (X:=Unit) [1,2,6,20] [] (dg q.pat).length (fun _ _=>True) (fun _=>[]) (fun _=>[]) () (by simp) (by simp) (by omega) (by simp) (by simp) trivial (by simp) (by simp) ?_ ?_
 ·rintro k ⟨⟩ hk -
  obtain⟨x,hx⟩:∃x,(dg q.pat)[k]? =some x:=⟨_,qxA hk⟩
  obtain⟨_,hgx⟩:=qxz.1 hx
  have hxm:=qxC hx
  obtain⟨y,hy,rfl⟩:=qxL.1 hxm
  have hP:PP ((AS y).cond,a,aS q.pat []):=⟨(hq.lv y hy).1,hq.att⟩
  simp[hk,hx,hgx,h4,hP, -Bool.forall_bool, -Bool.exists_bool]
  exact hP
 ·rintro⟨⟩ -
  simp[h5,h6,h7,hq.glob,hq.filts, -Bool.forall_bool, -Bool.exists_bool]
end Go.Gv

namespace Go.Gv
def qms(s:B)(i:Nat):Option (Nat×Hn):=match s.data[i]? with
 | none=>none
 | some c=>
   if qcn c.toNat then some (F5 s i,⟨110,s.extract i (F5 s i),i⟩)
   else if 48<=c.toNat/\c.toNat<=57 then none
   else if c.toNat=34 then(Ut s (i+1) ⟨#[]⟩).map fun r=>(r.1+1,⟨115,r.2,i⟩)
   else match signsL.find? (qjp s i)with
    | none=>none
    | some x=>some (i+x.size,⟨111,s.extract i (i+x.size),i⟩)
def Jj:Nat->B->Nat->List Hn->Option (List Hn)
 | 0,_,_,_=>none
 | k+1,s,i,out=>if uI s i=s.size then some (out++ [⟨101,⟨#[]⟩,s.size⟩])else(qms s (uI s i)).bind fun r=>if r.1<=s.size/\uI s i < r.1 then Jj k s r.1 (out++ [r.2])else none
def GZ(s:B):Option (List Hn):=if s.size<=100000 then Jj 100000 s 0 []else none
theorem qb3{s:B}{i:Nat}(h:s.size<=i):F5 s i=i:=by
 unfold F5
 rw[show s.size -i=0 by omega,qfX]
theorem M5{s:B}{i:Nat}(h:i < s.size):F5 s i=if qcu s i then F5 s (i+1)else i:=by
 unfold F5
 rw[show s.size -i=(s.size - (i+1)) +1 by omega,qfX]
def Wx(s:Pst):Option Hn:=if 0<=s.pos/\s.pos+1 < s.l.length/\s.l.length<=1000000 then s.l[(s.pos+1).toNat]? else none
def PE(s:Pst):Option Bool:=(xO s).bind fun x=>if s.e≠0 then none else if x.kind=110 then(Wx s).bind fun n=>if n.kind=111/\n.text=⟨#[58]⟩then some true else none
 else some (decide (x.kind=115\/x.kind=111/\(x.text=⟨#[91]⟩\/x.text=⟨#[60]⟩\/x.text=⟨#[60,47]⟩\/x.text=⟨#[40]⟩)))
def Oa(s:Pst)(lb:B):Option (Pst×Pat):=if s.e≠0 then none else(xO s).bind fun x=>
 if x.kind=115 then(rL s.step ⟨#[37,99]⟩).map fun w=>(w.1,⟨1,⟨2,E0,E0,x.text,E0,w.2, []⟩,lb,E0,0,0, []⟩)
 else(Do s 111 ⟨#[91]⟩).bind fun u=>(rL u.1 ⟨#[93]⟩).bind fun w=>if w.2 then some (w.1,⟨1,⟨1,E0,E0,E0,E0,false, []⟩,lb,E0,0,0, []⟩)else none
def qcs(s:Pst):Option (Pst×Pat):=if s.e≠0 then none else(xO s).bind fun x=>if x.kind=111/\x.text≠ ⟨#[91]⟩then none else
 if x.kind=110 then(Do s.step 111 ⟨#[58]⟩).bind fun u=>Oa u.1 x.text else Oa s E0
def zY:Nat->Pst->Pat->Option (Pst×Pat)
 | 0,_,_=>none
 | k+1,s,x=>if s.e≠0 then none else(xO s).bind fun t=>if t.kind=111/\(t.text=⟨#[63]⟩\/t.text=⟨#[43]⟩\/t.text=⟨#[123]⟩)then none else
    if t.kind=111/\t.text=⟨#[42]⟩then zY k s.step ⟨6,Cond0,E0,E0,0, -1, [x]⟩else some (s,x)
def qfy(s:Pst):Option (Pst×Pat):=(qcs s).bind fun r=>zY 9 r.1 r.2
def zO:Nat->Pst->List Pat->Option (Pst×List Pat)
 | 0,_,_=>none
 | k+1,s,acc=>(PE s).bind fun b=>if b then(qfy s).bind fun r=>zO k r.1 (acc++ [r.2])else some (s,acc)
def qaI(s:Pst):Option (Pst×Pat):=(qfy s).bind fun r=>(zO 9 r.1 [r.2]).map fun q=>(q.1,qhM 4 q.2)
def qd0(s:Pst):Option (Pst×Pat):=(qaI s).bind fun r=>(rL r.1 ⟨#[124]⟩).bind fun w=>if w.2 then none else some (w.1,r.2)
def FK(s:B):Option Pat:=if s.size<=400 then(GZ s).bind fun l=>(qd0 ⟨l,0,0,0,0⟩).bind fun r=>if r.1.e≠0 then none else(xO r.1).bind fun t=>if t.kind=101 then some r.2 else none else none
def qxg:B:=⟨#[97,58,34,97,34,32,91,93,42,32,98,58,34,98,34]⟩
def EF:Pat:=⟨4,Cond0,E0,E0,0,0, [⟨1,⟨2,E0,E0,⟨#[97]⟩,E0,false, []⟩,⟨#[97]⟩,E0,0,0, []⟩,⟨6,Cond0,E0,E0,0, -1, [⟨1,⟨1,E0,E0,E0,E0,false, []⟩,E0,E0,0,0, []⟩]⟩,⟨1,⟨2,E0,E0,⟨#[98]⟩,E0,false, []⟩,⟨#[98]⟩,E0,0,0, []⟩]⟩
theorem Nb:FK qxg=some EF:=by kernel_rfl
end Go.Gv

namespace Go.Gv
open Go.Proofs
def rO:CC:=gq Tryz.f148 [] {} _
def rj:List aj:=[.tmp 2]
theorem HJ:ak Tryz.prog tD [] rO rj 21:=fo
def tV:CC:=gq Tryz.f149 [] {} _
def ta:List aj:=[.tmp 2]
theorem JN:ak Tryz.prog vI [] tV ta 9:=fo
def yn:CC:=gq Tryz.f150 [] {} _
def xk:List aj:=[.tmp 0]
theorem OH:ak Tryz.prog AB [] yn xk 2:=fo
def AU:CC:=gq Tryz.f95 [1036200,1074200,1083200,1121200,1147200,1192200,1200200] { cu:=[3,10] } _
def zT:List aj:=[.tmp 2]
theorem Rl:ak Tryz.prog C8 [1036200,1074200,1083200,1121200,1147200,1192200,1200200] AU zT 202:=fo
def ol:CC:=gq Tryz.f105 [2002002] { ke:=[0] } _
def nf:List aj:=[.cell 2 true 3]
theorem Ej:ak Tryz.prog cN [2002002] ol nf 13:=fo
def mq:CC:=gq Tryz.f248 [2002002] { ke:=[0] } _
def lO:List aj:=[.cell 2 true 3]
theorem Cx:ak Tryz.prog nL [2002002] mq lO 21:=fo
def kw:CC:=gq Tryz.f103 [] { bx:=[0] } _
def jW:List aj:=[.tmp 6]
theorem FN:ak Tryz.prog ig [] kw jW 26:=fo
def om:CC:=gq Tryz.f97 [] { ke:=[0] } _
def ng:List aj:=[.tmp 4]
theorem Ek:ak Tryz.prog dD [] om ng 15:=fo
def mj:CC:=gq Tryz.f102 [] { ke:=[0] } _
def lN:List aj:=[.tmp 6]
theorem Cw:ak Tryz.prog nK [] mj lN 40:=fo
def mr:CC:=gq Tryz.f252 [] { bx:=[0] } _
def lP:List aj:=[.tmp 2]
theorem Cz:ak Tryz.prog nN [] mr lP 5:=fo
def fA:CC:=gq Tryz.f208 [] { bx:=[0] } _
def fj:List aj:=[.tmp 2]
theorem Ag:ak Tryz.prog kU [] fA fj 63:=fo
def dJ:CC:=gq Tryz.f246 [] { bx:=[0] } _
def dB:List aj:=[.cell 2 true 13]
theorem Cy:ak Tryz.prog nM [] dJ dB 97:=fo
def oj:CC:=gq Tryz.f207 [] { bx:=[0] } _
def nc:List aj:=[.cell 2 true 13]
theorem Ei:ak Tryz.prog pK [] oj nc 64:=fo
def oh:CC:=gq Tryz.f151 [100006,1013006] { ke:=[0] } _
def nb:List aj:=[.cell 2 true 13]
theorem Eh:ak Tryz.prog pJ [100006,1013006] oh nb 22:=fo
def oo:CC:=gq Tryz.f96 [100006,1013006] { ke:=[0] } _
def nh:List aj:=[.cell 2 true 13]
theorem El:ak Tryz.prog pM [100006,1013006] oo nh 22:=fo
def mi:CC:=gq Tryz.f99 [] { ke:=[0] } _
def lM:List aj:=[.tmp 6]
theorem Cv:ak Tryz.prog nJ [] mi lM 22:=fo
def tW:CC:=gq Tryz.f100 [] {} _
def tb:List aj:=[.tmp 0]
theorem JO:ak Tryz.prog vJ [] tW tb 2:=fo
def yo:CC:=gq Tryz.f44 [2056006,2002002] { cu:=[8,18,23] } _
def xm:List aj:=[.cell 2 true 26, .tmp 3, .tmp 4]
theorem OI:ak Tryz.prog AC [2056006,2002002] yo xm 110:=fo
end Go.Gv

namespace Go.Gv
open Cod (enc dec)
variable {S S0:Nat->Spc}
@[simp] abbrev XO(s:Pst)(_:Unit):Option (Pst×Hn):=(xO s).map fun x=>(s,x)
abbrev Jm:Spc:=Uw a0 (enc (X:=Hn)) XO
theorem qmh:oV ol nf S a0 (enc (X:=Hn)) (fun s z=>∃r,XO s z=some r) (fun s z s' y=>XO s z=some (s',y)):=by
 rintro b s ⟨⟩ ⟨r,hr⟩
 simp only[XO,xO,qxK]at hr
 obtain⟨x,hx,rfl⟩:=hr
 split at hx
 ·rename_i h0
  obtain⟨h0,hb⟩:=h0
  have hl:=qhV hx
  obtain⟨_,hgx⟩:=qxz.1 hx
  simp[ol,nf,hx]
  exact fun _=>⟨h0,by omega,EO s x (.same _) (by simp) ⟨by rw[xO,if_pos ⟨h0,hb⟩,hx],rfl⟩⟩
 ·cases hx
theorem ER{s:Pst}(h:s.e=0):Pst.mk s.l s.pos s.deep 0 s.fail=s:=by rw[<-h]
theorem Sa{b:Nat}{post:Pst->Bool->Prop}{v:Bool}{H:ab}(s:Pst)(h0:H 0=some (.box b (lA s)))(hq:post s v):Ll enc b post (.v (.bool v)) H:=EO s v (.same _) h0 hq
theorem qtZ{b:Nat}{post:Pst->Int->Prop}{v:Int}{H:ab}(s:Pst)(h0:H 0=some (.box b (lA s)))(hq:post s v):Ll enc b post (.v (.int .i64 v)) H:=EO s v (.same _) h0 hq
theorem qj8{b:Nat}{post:Pst->B->Prop}{v:B}{H:ab}(s:Pst)(h0:H 0=some (.box b (lA s)))(hq:post s v):Ll enc b post (.v (.string v)) H:=EO s v (.same _) h0 hq
@[simp] abbrev qhq(s:Pst)(z:U8×B):Option (Pst×Bool):=(WK s z.1.val z.2).map fun x=>(s,x)
abbrev qfu:Spc:=Uw (a2 U8 B) (enc (X:=Bool)) qhq
theorem qsg(h1:S cN=Jm):oV kw jW S (a2 U8 B) (enc (X:=Bool)) (fun s z=>∃r,qhq s z=some r) (fun s z s' y=>qhq s z=some (s',y)):=by
 rintro b s ⟨⟨k⟩,t⟩ ⟨r,hr⟩
 simp only[qhq,WK,qxK]at hr
 obtain⟨v,hr,rfl⟩:=hr
 split at hr
 ·rename_i he
  simp[kw,jW,h1,he]
  exact Sa s (by simp) ⟨by rw[WK,if_pos he],rfl⟩
 ·rename_i he
  have he:s.e=0:=by simpa using he
  obtain⟨x,hx,rfl⟩:=qxK.1 hr
  have hF:WK s k t=some (decide (x.kind=k/\x.text=t)):=by rw[WK,if_neg (by simp[he]),hx];rfl
  simp[kw,jW,h1,he,ER he,hx]
  refine⟨fun hk=>Sa s (by simp[he]) ⟨by rw[hF];simp[hk],rfl⟩,fun hk=>Sa s (by simp[he]) ⟨by rw[hF];simp[hk],rfl⟩⟩
@[simp] abbrev NH(s:Pst)(t:B):Option (Pst×Bool):=rL s t
abbrev MP:Spc:=Uw (a1 B) (enc (X:=Bool)) NH
theorem qcv{s:Pst}{k:Int}{t:B}(h:WK s k t=some true):s.e=0/\∃x,xO s=some x/\x.kind=k/\x.text=t:=by
 unfold WK at h
 split at h
 ·cases h
 ·rename_i he
  obtain⟨x,hx,h2⟩:=qxK.1 h
  simp at h2
  exact⟨by simpa using he,x,hx,h2⟩
theorem Ru{s:Pst}{x:Hn}(h:xO s=some x):0<=s.pos/\s.pos < s.l.length/\s.l.length<=1000000:=by
 unfold xO at h
 split at h
 ·have:=qhV h
  omega
 ·cases h
theorem qmj(h1:S ig=qfu):oV om ng S (a1 B) (enc (X:=Bool)) (fun s z=>∃r,NH s z=some r) (fun s z s' y=>NH s z=some (s',y)):=by
 rintro b s t ⟨r,hr⟩
 have hr0:=hr
 simp only[NH,rL,qxK]at hr
 obtain⟨v,hr,rfl⟩:=hr
 simp[om,ng,h1,hr]
 cases v
 ·simp
  exact Sa s (by simp) (by simp[NH,rL,hr])
 ·obtain⟨_,x,hx,_⟩:=qcv hr
  have:=Ru hx
  simp
  exact⟨by simp only[InR];omega,Sa s.step (by simp[Pst.step]) (by simp[NH,rL,hr])⟩
theorem Ir{s:Pst}{k:Int}{t:B}{x:Hn}(he:s.e=0)(hx:xO s=some x):WK s k t=some (decide (x.kind=k/\x.text=t)):=by
 rw[WK,if_neg (by simp[he]),hx];rfl
@[simp] abbrev PX(s:Pst)(z:U8×B):Option (Pst×B):=Do s z.1.val z.2
abbrev qaR:Spc:=Uw (a2 U8 B) (enc (X:=B)) PX
theorem qis(h1:S cN=Jm):oV mj lN S (a2 U8 B) (enc (X:=B)) (fun s z=>∃r,PX s z=some r) (fun s z s' y=>PX s z=some (s',y)):=by
 rintro b s ⟨⟨k⟩,t⟩ ⟨r,hr⟩
 have hr0:=hr
 simp only[PX,Do]at hr
 split at hr
 ·cases hr
 rename_i he
 have he:s.e=0:=by simpa using he
 obtain⟨x,hx,hr⟩:=qxx.1 hr
 split at hr
 ·cases hr
 rename_i hk
 cases hr
 have hk1:x.kind=k:=by by_cases h:x.kind=k;exact h;exact absurd (.inl h) hk
 have hk2:k=111->x.text=t:=fun h=>by by_cases h':x.text=t;exact h';exact absurd (.inr ⟨h,h'⟩) hk
 have hrg:=Ru hx
 simp[mj,lN,h1,he,ER he,hx,hk1]
 clear h1
 have fin:∀H:ab,H 0=some (.box b (lA s.step))->Ll enc b (fun s' y=>Do s k t=some (s',y)) (.v (.string x.text)) H:=fun H h=>qj8 s.step h hr0
 intro b7
 exact⟨fun h=>⟨fun h'=>absurd (hk2 h) h',fun _=>⟨by simp only[InR];omega,qj8 s.step (by simp[Pst.step,he]) hr0⟩⟩,fun _=>⟨by simp only[InR];omega,qj8 s.step (by simp[Pst.step,he]) hr0⟩⟩
@[simp] abbrev PZ(s:Pst)(_:Unit):Option (Pst×Bool):=rL s ⟨#[37,99]⟩
abbrev qba:Spc:=Uw a0 (enc (X:=Bool)) PZ
theorem qiE(h1:S dD=MP):oV mr lP S a0 (enc (X:=Bool)) (fun s z=>∃r,PZ s z=some r) (fun s z s' y=>PZ s z=some (s',y)):=by
 rintro b s ⟨⟩ ⟨⟨s',v⟩,hr⟩
 simp only[PZ]at hr
 simp[mr,lP,h1,hr, -Bool.forall_bool, -Bool.exists_bool]
 refine Sa s' ?_ ?_
 ·simp
 ·exact⟨rfl,rfl⟩
theorem YV{s:Pst}{x:Hn}(h:Wx s=some x):0<=s.pos/\s.pos+1 < s.l.length/\s.l.length<=1000000/\s.l[(s.pos+1).toNat]? =some x:=by
 unfold Wx at h
 split at h
 ·rename_i h0
  exact⟨h0.1,h0.2.1,h0.2.2,h⟩
 ·cases h
@[simp] abbrev Vw(s:Pst)(_:Unit):Option (Pst×Hn):=(Wx s).map fun x=>(s,x)
abbrev qa2:Spc:=Uw a0 (enc (X:=Hn)) Vw
theorem qiw:oV mq lO S a0 (enc (X:=Hn)) (fun s z=>∃r,Vw s z=some r) (fun s z s' y=>Vw s z=some (s',y)):=by
 rintro b s ⟨⟩ ⟨r,hr⟩
 obtain⟨x,hx,rfl⟩:=qxK.1 hr
 obtain⟨g1,g2,g3,g4⟩:=YV hx
 have hm:min (s.pos+1) (s.l.length -1)=s.pos+1:=by omega
 simp[mq,lO,InR,hm]
 refine fun _=>⟨by omega,fun _=>⟨by omega,by omega,by omega,fun a ha=>EO s a (.same _) (by simp) ⟨?_,rfl⟩⟩⟩
 rw[g4]at ha
 rw[<-ha,hx]
@[simp] abbrev Lm(s:Pst)(_:Unit):Option (Pst×Bool):=(PE s).map fun v=>(s,v)
abbrev Jt:Spc:=Uw a0 (enc (X:=Bool)) Lm
theorem qaf(h1:S cN=Jm)(h2:S nL=qa2):oV fA fj S a0 (enc (X:=Bool)) (fun s z=>∃r,Lm s z=some r) (fun s z s' y=>Lm s z=some (s',y)):=by
 rintro b s ⟨⟩ ⟨r,hr⟩
 obtain⟨v,hv,rfl⟩:=qxK.1 hr
 have hv0:=hv
 simp only[PE]at hv
 obtain⟨x,hx,hv⟩:=qxx.1 hv
 split at hv
 ·cases hv
 rename_i he
 have he:s.e=0:=by simpa using he
 split at hv
 ·rename_i hk
  obtain⟨n,hn,hv⟩:=qxx.1 hv
  split at hv
  ·rename_i hc
   cases hv
   simp[fA,fj,h1,h2,hx,he,ER he,hk,hn,hc.1,hc.2]
   exact Sa s (by simp[he]) ⟨hv0,rfl⟩
  ·cases hv
 rename_i hk
 cases hv
 simp[fA,fj,h1,hx,he,ER he,hk]
 clear h1 hr
 repeat' first|apply And.intro|intro _
 all_goals refine Sa s (by simp[he]) ⟨?_,rfl⟩
 all_goals (rw[hv0];simp[*])
end Go.Gv
