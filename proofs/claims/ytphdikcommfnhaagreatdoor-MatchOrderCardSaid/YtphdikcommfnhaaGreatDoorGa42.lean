/- A part of the framework and of the walks: W188 W189 W191 V66. -/
import Derived.Test.YtphdikcommfnhaaGreatDoorGa39
import Derived.Test.YtphdikcommfnhaaGreatDoorGa40
import Derived.Test.YtphdikcommfnhaaGreatDoorGa41
import Derived.Test.YtphdikcommfnhaaGreatDoorGa34
import Derived.Test.YtphdikcommfnhaaGreatDoorGa26
set_option linter.unusedSimpArgs false
set_option linter.unusedVariables false
set_option maxRecDepth 100000

namespace Go.Gv
open Go.Proofs
open Cod (enc dec)
variable {S S0:Nat->Spc}
theorem Kr (p:Pat): ∀d:Int,dJ p d=true->(fN p:Int) +d<=101:=by
 induction p using vo with | _ p ih=> ?_
 intro d h
 rw[nh] at h
 simp only[Bool.and_eq_true,decide_eq_true_eq,List.all_eq_true] at h
 rw[Di]
 have: ∀ks:List Pat,(∀k∈ks,k∈p.kids)->(B8 ks:Int) +d<=100:=by
  intro ks
  induction ks with
  | nil=> intro _;rw[B8];have:=h.1;simp;omega
  | cons k ks ihk=>
    intro hk
    have h1:=ihk fun z hz=> hk z (by simp[hz])
    have h2:=ih k (hk k (by simp)) (d+1) (h.2 k (hk k (by simp)))
    rw[B8]
    omega
 have:=this p.kids fun _ h=> h
 omega
structure Pp (c:Corpus) (p:Pat):Prop where
 sz:ZX c
 few:c.toks.length<=170
 pat:rH eb p=true
 l3: (di p []).length<=3
 num:rJ p<=1000000
 nd: ∀t∈c.texts,mD (Xg (PY c (di p []) t)) p
def US (x:Corpus×Qry×Int):Prop:=Pp x.1 x.2.1.pat/\0<=x.2.2/\x.2.2 < x.1.toks.length
def XM (x:Corpus×Qry×Int) (y:List Match):Prop:=U0 x.1 (di x.2.1.pat []) x.2.1.pat x.2.2 y/\y.length<=1000000000
abbrev IE:Spc:=cC (a3 Corpus Qry Int) US (enc (X:=List Match)) XM
abbrev b_masg:Spc:=XJ (a1 St3) H4 (enc (X:=List Int)) Ma
theorem Vg (h1:S gX=AP) (h2:S iP=pd) (h3:S aQ=wj 101) (h4:S bq=b_masg) (h5:S d5=Iy cr c9):aV nc na S (a3 Corpus Qry Int) US (enc (X:=List Match)) XM:=by
 rintro⟨c,q,i⟩ ⟨hF,hi0,hi1⟩
 have hF:Pp c q.pat:=hF
 have hi0:0<=i:=hi0
 have hi1:i < c.toks.length:=hi1
 have hPb:Ri q.pat []:=by show 0+rJ q.pat<=1000000;have:=hF.num;omega
 have hfew:=hF.few
 have htl: (c.toks.length:Int)<=9223372036854775807:=by omega
 rcases RC (c:=c) (i:=i) with⟨k1,k2⟩ | ⟨k,t,k1,k2,k3⟩
 ·simp[nc,na,h1,k1, -Bool.forall_bool, -Bool.exists_bool]
  refine eR [] (.nil _) ⟨⟨List.Pairwise.nil,fun m=> ⟨fun h=> (by cases h),?_⟩⟩,Nat.zero_le _⟩
  rintro⟨e,_,_,t,ht,_⟩
  have e:m.b=i:=e
  rw[e,k2] at ht
  cases ht
 ·have hkl:k < c.texts.length:=(List.getElem?_eq_some_iff.1 k2).1
  obtain⟨_,hgt⟩:=List.getElem?_eq_some_iff.1 k2
  have hkn: ¬ (k:Int) < 0:=by omega
  simp[nc,na,h1,k1,hkn,hkl,k2,hgt,h2,hPb,hF.pat,htl, -Bool.forall_bool, -Bool.exists_bool]
  intro b8
  refine qu (X:=Nat×Value) [2,4] [] [] [(990,34)] (fun _=> True) (fun x=> [(9, .bptr 36 x.1 0)]) (fun x=> [(36, .box x.1 (kg (PY c (di q.pat []) t) (.own 990 x.2))),(990, .mrow x.2 [])]) [36,990] (fun _=> rfl) (by decide) ?_ ?_
  ·simp[h2,hPb,hF.pat,htl, -Bool.forall_bool, -Bool.exists_bool]
   refine fun x b=> ⟨b, .same _,x, .inl (.inr ⟨rfl,rfl,fun m y z h6 h7=> ?_⟩), .inl (.inl rfl)⟩
   rcases m with _ | _ | _ | _ | _ | _ | _ | _ | _ | _ | _ | m
   all_goals first | (cases h6;cases h7;exact .same _) | (cases h6;cases h7;exact .own _ _ _) | (simp at h6)
  rintro⟨b,v⟩ -
  have htm:t∈c.texts:=List.mem_of_getElem? k2
  have htb:t.b<=i/\i < t.e:=by
   have:=List.find?_some k3
   simpa using this
  generalize hr:PY c (di q.pat []) t=r
  have hen:i<=r.en/\r.en<=170:=by
   rw[<-hr]
   show i<=min t.e (c.toks.length:Int)/\min t.e (c.toks.length:Int)<=170
   omega
  have hlb:r.lb=di q.pat []:=by rw[<-hr];rfl
  have hnd:mD (Xg r) q.pat:=by rw[<-hr];exact hF.nd t htm
  have hl3:r.lb.length<=3:=by rw[hlb];exact hF.l3
  have hs0:Mc r.en (Ir i):=⟨hi0,hen.1,fun j=> by rcases j with _ | _ | j <;> exact⟨Int.le_refl _,by show(0:Int)<=r.en;omega⟩⟩
  have hRok:Xa r:=⟨hl3,by rw[<-hr];exact hF.sz,by omega⟩
  have hdep:fN q.pat<=101:=by
   have hp:=hF.pat
   unfold rH at hp
   simp only[Bool.and_eq_true] at hp
   have:=Kr q.pat 1 hp.1.1.1
   omega
  have hQ: ∀m,m.b=i/\Xf c (di q.pat []) q.pat m↔ ∃s,ld r q.pat (Ir i) s/\i < s.p/\m=⟨i,s.p,Mh r s⟩:=fun m=> by
   constructor
   ·rintro⟨rfl,_,_,t',ht',s,hs,h1,h2,h3⟩
    rw[k3] at ht'
    cases ht'
    rw[hr] at hs h3
    refine⟨s,hs,h1,?_⟩
    obtain⟨mb,me,ml⟩:=m
    simp only at h2 h3 ⊢
    rw[h2,h3]
   ·rintro⟨s,hs,h1,rfl⟩
    exact⟨rfl,hi0,hi1,t,k3,s,by rw[hr];exact hs,h1,rfl,by rw[hr]⟩
  simp[h3,wL,yQ, -Bool.forall_bool, -Bool.exists_bool]
  refine⟨⟨hRok,fun e he=> (by cases he),hs0,q.pat,⟨_,_,rfl,Nat.le_of_ble_eq_true rfl,by simp⟩,hdep,hnd⟩,fun v2 es2 ys hQr b2=> ?_⟩
  have hys:=hQr.2.2 q.pat ⟨_,_,rfl,Nat.le_of_ble_eq_true rfl,by simp⟩
  have hysn:=hQr.2.1
  clear hQr
  replace hys: ∀t,t∈ys↔ld r q.pat (Ir i) t:=hys
  refine aY (X:=Value×List Match×List D×List St3) [2,9,42] [36,990] (fun x=> x.2.1.Nodup/\(∀s∈x.2.2.2,s∈ys)/\x.2.2.2.Nodup/\(∀m∈x.2.1,∃s∈ys,s∉x.2.2.2/\i < s.p/\m=⟨i,s.p,Mh r s⟩)/\(∀s∈ys,s∈x.2.2.2\/(i < s.p->(⟨i,s.p,Mh r s⟩:Match) ∈x.2.1))/\x.2.1.length+x.2.2.2.length<=ys.length)
   (fun x=> [(10, .own 60 x.1)]) (fun x=> [(42, .miter b2 x.2.2.1 (bQ x.2.2.2)),(60, .row x.1 c9 3 (x.2.1.map enc))]) (fun x=> x.2.2.2.length) (.slice none 0 0, [], [],ys)
   ⟨List.nodup_nil,fun _ h=> h,hysn,fun _ h=> (by cases h),fun _ h=> .inl h,by simp⟩ (by simp) (by simp[isNilRow]) ?_
  rintro⟨v3,out,cur,left⟩ ⟨g1,g2,g3,g4,g5,g6⟩
  simp only at g1 g2 g3 g4 g5 g6
  have hyl:=MF hen.2 hysn fun s hs=> pE r q.pat _ _ ((hys s).1 hs) hs0
  simp[-Bool.forall_bool, -Bool.exists_bool]
  refine⟨fun h0=> ?_,fun l1 x l2 hsp=> ?_⟩
  ·have hlz:=fk h0
   subst hlz
   simp[h5, -Bool.forall_bool, -Bool.exists_bool]
   refine⟨⟨rfl,by simp at g6;omega,g1⟩,fun l' hQ2=> eR l' (xI c9 (by simp[ah])) ⟨⟨hQ2.1,fun m=> ?_⟩,by rw[hQ2.2.1];show out.length<=_;simp at g6;omega⟩⟩
   rw[hQ2.2.2 m,hQ]
   constructor
   ·intro hm
    obtain⟨s,h1,_,h2,h3⟩:=g4 m hm
    exact⟨s,(hys s).1 h1,h2,h3⟩
   ·rintro⟨s,h1,h2,rfl⟩
    exact(g5 s ((hys s).2 h1)).elim (fun h=> by cases h) fun h=> h h2
  ·obtain⟨a,s,c2,rfl,rfl,rfl,rfl⟩:=gm hsp
   simp[h4,KA, -Bool.forall_bool, -Bool.exists_bool]
   have hsy:s∈ys:=g2 s (by simp)
   have hsub: ∀x∈a++c2,x∈ys:=fun x h=> g2 x (by simp only[List.mem_append,List.mem_cons] at h ⊢;rcases h with h | h <;> simp[h])
   have hnd2: (a++c2).Nodup/\s∉a++c2:=by
    obtain⟨n1,n2,n3⟩:=List.nodup_append.1 g3
    have n4:=List.nodup_cons.1 n2
    refine⟨List.nodup_append.2 ⟨n1,n4.2,fun x hx y hy=> n3 x hx y (by simp[hy])⟩,fun h=> ?_⟩
    rcases List.mem_append.1 h with h | h
    ·exact n3 s h s (by simp) rfl
    ·exact n4.1 h
   have hnot: ∀m∈out,∃u∈ys,u∉a++c2/\i < u.p/\m=(⟨i,u.p,Mh r u⟩:Match):=fun m hm=> by
    obtain⟨u,k1,k2,k3,k4⟩:=g4 m hm
    exact⟨u,k1,fun h=> k2 (by simp only[List.mem_append,List.mem_cons] at h ⊢;rcases h with h | h <;> simp[h]),k3,k4⟩
   simp only[List.length_append,List.length_cons] at g6
   have hsL:=pE r q.pat _ _ ((hys s).1 hsy) hs0
   have hsOk:qcJ s:=⟨hsL.1,by have:=hsL.2.1;have:=hen.2;omega,fun j=> ⟨(hsL.2.2 j).1,by have:=(hsL.2.2 j).2;have:=hen.2;omega⟩⟩
   have hPa:H4 (.cptr (kg r (.own 990 v2)) 0,s):=⟨⟨r,_,rfl,hl3⟩,hsOk⟩
   refine⟨fun hgt=> ⟨hPa,fun z hz=> ?_⟩,fun hle=> ?_⟩
   ·obtain rfl:=hz r _ rfl
    refine⟨by omega,by omega,fun v4=> ⟨v4,out++ [⟨i,s.p,Mh r s⟩],_,a++c2,⟨?_,hsub,hnd2.1,fun m hm=> ?_,fun u hu=> ?_,by simp;omega⟩,⟨rfl, .inl ⟨rfl,(gP a c2).symm⟩, .inl ⟨rfl,by simp⟩⟩,by simp⟩⟩
    ·rw[List.nodup_append]
     refine⟨g1,by simp,fun m hm m' hm' e=> ?_⟩
     simp at hm'
     subst hm'
     obtain⟨u,k1,k2,_,k4⟩:=g4 m hm
     rw[e] at k4
     injection k4 with _ e1 e2
     have:s=u:=WY hl3 (rI hnd fun q h=> h.lab) ((hys s).1 hsy) ((hys u).1 k1) e1 e2
     subst this
     exact k2 (by simp)
    ·rcases List.mem_append.1 hm with hm | hm
     ·exact hnot m hm
     ·simp at hm
      exact⟨s,hsy,hnd2.2,hgt,hm⟩
    ·rcases g5 u hu with h | h
     ·rcases List.mem_append.1 h with h | h
      ·exact .inl (by simp[h])
      ·rcases List.mem_cons.1 h with rfl | h
       ·exact .inr fun _=> by simp
       ·exact .inl (by simp[h])
     ·exact .inr fun hp=> List.mem_append_left _ (h hp)
   ·refine⟨v3,out,_,a++c2,⟨g1,hsub,hnd2.1,hnot,fun u hu=> ?_,by simp;omega⟩,⟨rfl, .inl ⟨rfl,(gP a c2).symm⟩, .inl ⟨rfl,rfl⟩⟩,by simp⟩
    rcases g5 u hu with h | h
    ·rcases List.mem_append.1 h with h | h
     ·exact .inl (by simp[h])
     ·rcases List.mem_cons.1 h with rfl | h
      ·exact .inr fun hp=> absurd hp (by omega)
      ·exact .inl (by simp[h])
    ·exact .inr h
end Go.Gv

namespace Go.Gv
open Go.Proofs
open Cod (enc dec)
variable {S S0:Nat->Spc}
structure qax (a:List fJ) (q:Qry):Prop where
 glob:q.glob=nD
 filts:q.filts= []
 strat:q.strat=0
 pat:rH eb q.pat=true
 size:o8 q.pat<=256
 l3: (di q.pat []).length<=3
 num:rJ q.pat<=1000000
 att:a.length<=1000
 lv: ∀x∈dH q.pat,qdI a (di q.pat []) x.cond=true/\ ∃n,Jc n x.cond
abbrev MU:Spc:=cC (a2 Qry (List fJ)) (fun x=> qax x.2 x.1) (enc (X:=Int)) fun _ y=> y=0
structure UY (c:Corpus) (q:Qry):Prop where
 v:qax c.attrs q
 f:Pp c q.pat
def qcE (x:Corpus×Qry) (y:List Match×Int):Prop:=(y.2=0/\Md x.1 (di x.2.pat []) x.2.pat y.1/\y.1.length<=4096)\/(y.2=2/\y.1= []/\ ∀l,Md x.1 (di x.2.pat []) x.2.pat l->4096 < l.length)
abbrev R1:Spc:=cC (a2 Corpus Qry) (fun x=> UY x.1 x.2) (J4 (Y:=List Match) (Z:=Int)) qcE
theorem Yi {c:Corpus} {lb:List B} {p:Pat} {k:Int} {l l':List Match} (h:Rd c lb p k l) (h':Md c lb p l'):l.length<=l'.length:=by
 have hs:l.Sublist l':=by
  have e:l=l'.filter fun m=> decide (m.b < k):=by
   refine AF h.1 (h'.1.filter _) fun m=> ?_
   rw[h.2,List.mem_filter,h'.2,decide_eq_true_iff]
   exact and_comm
  rw[e]
  exact List.filter_sublist
 exact hs.length_le
theorem qaL (h1:S ga=MU) (h2:S lT=IE):aV mZ mJ S (a2 Corpus Qry) (fun x=> UY x.1 x.2) (J4 (Y:=List Match) (Z:=Int)) qcE:=by
 rintro⟨c,q⟩ hM
 have hM:UY c q:=hM
 have hV:qax c.attrs q:=hM.v
 have hfew:=hM.f.few
 have htl: (c.toks.length:Int)<=9223372036854775807:=by omega
 simp[mZ,mJ,h1,hV,htl, -Bool.forall_bool, -Bool.exists_bool]
 refine aA (X:=Value×List Match) [2,3] [] c.toks.length (fun k x=> Rd c (di q.pat []) q.pat k x.2/\x.2.length<=4096) (fun x=> [(7, .own 27 x.1)]) (fun x=> [(27, .row x.1 c9 3 (x.2.map enc))]) (.slice none 0 0, []) (by simp) (by simp) (by omega) (by simp) (by simp) ⟨QD _ _ _,by simp⟩ (by simp) (by simp[isNilRow]) ?_ ?_
 ·rintro k ⟨v,l⟩ hk ⟨g1,g2⟩
  simp only at g1 g2
  have hPf:US (c,q,(k:Int)):=⟨hM.f,by show(0:Int)<=k;omega,by show(k:Int) < c.toks.length;omega⟩
  simp[h2,hPf, -Bool.forall_bool, -Bool.exists_bool]
  rintro y ⟨hy1,hy2⟩
  have hst:=QE g1 hy1
  refine⟨by omega,by omega,fun v' hle=> ⟨fun h=> .inr ⟨rfl,rfl,fun l' hl'=> ?_⟩,fun h=> ⟨v',l++y,⟨hst,by simp;omega⟩,rfl, .inl ⟨rfl,by simp⟩⟩⟩⟩
  have:=Yi hst hl'
  simp at this
  omega
 ·rintro⟨v,l⟩ ⟨g1,g2⟩
  simp only at g1 g2
  simp[-Bool.forall_bool, -Bool.exists_bool]
  exact⟨l,xI c9 (by simp[ah]), .inl ⟨rfl,SZ g1,g2⟩⟩
end Go.Gv

namespace Go.Gv
open Go.Proofs
open Cod (enc dec)
variable {S S0:Nat->Spc}
abbrev MW:Spc:=cC (a1 Glob) (fun g=> g=nD) (enc (X:=Bool)) fun x y=> y=true
theorem Id:aV rh qT S (a1 Glob) (fun g=> g=nD) (enc (X:=Bool)) fun x y=> y=true:=by
 rintro x rfl
 simp[rh,qT,nD,E0, -Bool.forall_bool]
abbrev IN:Spc:=cC (a1 Glob) (fun g=> g=nD) (enc (X:=Bool)) fun x y=> y=true
theorem Gj (h1:S lS=MW):aV pY pv S (a1 Glob) (fun g=> g=nD) (enc (X:=Bool)) fun x y=> y=true:=by
 rintro x rfl
 simp[pY,pv,h1, -Bool.forall_bool]
abbrev Nf:Spc:=cC (aE (List Oa) (aD a0)) (fun x=> x.1= []) (enc (X:=Int)) fun x y=> y= -1
theorem qk:aV eX eP S (aE (List Oa) (aD a0)) (fun x=> x.1= []) (enc (X:=Int)) fun x y=> y= -1:=by
 rintro⟨l,d,⟨⟩⟩ h
 have h:l= []:=h
 subst h
 simp[eX,eP, -Bool.forall_bool]
 refine aA (X:=Unit) [] [] 0 (fun _ _=> True) (fun _=> []) (fun _=> []) () (by simp) (by simp) (by omega) (by simp) (by simp) trivial (by simp) (by simp) (fun k x hk=> absurd hk (by omega)) (fun _ _=> ?_)
 simp
abbrev Eh:Spc:=cC (aE (List Oa) (aD a0)) (fun x=> x.1= []) (enc (X:=Bool)) fun x y=> y=false
theorem nF (h1:S cA=Nf):aV dW dM S (aE (List Oa) (aD a0)) (fun x=> x.1= []) (enc (X:=Bool)) fun x y=> y=false:=by
 rintro⟨l,d,⟨⟩⟩ h
 have h:l= []:=h
 subst h
 simp[dW,dM,h1, -Bool.forall_bool]
abbrev Nd:Spc:=cC (a3 Glob (List fJ) (List B)) (fun x=> x.1=nD) (enc (X:=Int)) fun _ y=> y=0
abbrev IK:Spc:=cC (a3 Glob (List fJ) (List B)) (fun x=> x.1=nD) (enc (X:=Int)) fun _ y=> y=0
structure qjZ (q:Qry):Prop where
 filts:q.filts= []
 strat:q.strat=0
 pat:rH eb q.pat=true
 size:o8 q.pat<=256
 l3: (di q.pat []).length<=3
 num:rJ q.pat<=1000000
abbrev Nc:Spc:=cC (a1 Qry) qjZ (enc (X:=Int)) fun _ y=> y=0
theorem Yc {N:Nat->Spc} (h0:N c8=yK) (h0':N cO=ug) (h1:S eF=yM) (h2:S bw=pf N) (h3:S ew=Iz) (h4:S aU=s_qlabels) (h5:S aS=Eh):
 aV iu il S (a1 Qry) qjZ (enc (X:=Int)) fun _ y=> y=0:=by
 rintro q hq
 have f1:FunIs N (.clo c8 []) (wm eb):=uX h0 fun _=> trivial
 have f2:FunIs N (.clo cO []) zl:=uX h0' fun _=> trivial
 have hp:=hq.pat
 unfold rH at hp
 simp only[Bool.and_eq_true] at hp
 obtain⟨⟨⟨p1,p2⟩,p3⟩,p4⟩:=hp
 have hsz:=hq.size
 have hsz2: ¬256 < o8 q.pat:=by omega
 have hl3:=hq.l3
 have hPb:Ri q.pat []:=by show 0+rJ q.pat<=1000000;have:=hq.num;omega
 simp[iu,il,h1,p1,p2,h2,hq.filts,hq.strat,h3,hq.pat,hsz,hsz2,h5, -Bool.forall_bool, -Bool.exists_bool]
 refine⟨⟨_,f1⟩,fun y hy=> ⟨fun _=> ⟨⟨_,f2⟩,fun z hz=> ⟨by rw[hz _ f2,p4],fun _=> ?_⟩⟩,by rw[hy _ f1,p3]⟩⟩
 simp[h4, -Bool.forall_bool, -Bool.exists_bool]
 refine .inl ⟨hPb,fun l hl _=> ?_⟩
 have hl:l=di q.pat []:=hl
 subst hl
 omega
theorem Vl:aV kP kC S (a3 Glob (List fJ) (List B)) (fun x=> x.1=nD) (enc (X:=Int)) fun _ y=> y=0:=by
 rintro⟨g,a,lb⟩ h
 have h:g=nD:=h
 subst h
 simp[kP,kC,nD, -Bool.forall_bool, -Bool.exists_bool]
theorem Yd (h1:S fB=IK):aV mf lB S (a3 Glob (List fJ) (List B)) (fun x=> x.1=nD) (enc (X:=Int)) fun _ y=> y=0:=by
 rintro⟨g,a,lb⟩ h
 have h:g=nD:=h
 subst h
 simp[mf,lB,h1, -Bool.forall_bool, -Bool.exists_bool]
 simp[nD, -Bool.forall_bool, -Bool.exists_bool]
 refine aA (X:=Unit) [] [] 0 (fun _ _=> True) (fun _=> []) (fun _=> []) () (by simp) (by simp) (by omega) (by simp) (by simp) trivial (by simp) (by simp) (fun k x hk=> absurd hk (by omega)) (fun _ _=> ?_)
 simp
theorem XZ (h1:S dS=Nc) (h2:S aU=s_qlabels) (h3:S bW=s_leavesQ) (h4:S dT=Ne) (h5:S aS=Eh) (h6:S jU=IN) (h7:S eK=Nd):
 aV mg lC S (a2 Qry (List fJ)) (fun x=> qax x.2 x.1) (enc (X:=Int)) fun _ y=> y=0:=by
 rintro⟨q,a⟩ hq
 have hq:qax a q:=hq
 have hC:qjZ q:=⟨hq.filts,hq.strat,hq.pat,hq.size,hq.l3,hq.num⟩
 have hPb:Ri q.pat []:=by show 0+rJ q.pat<=1000000;have:=hq.num;omega
 have hlv: (dH q.pat).length<=rJ q.pat:=Nx q.pat
 have hPq:ZJ q.pat []:=⟨by have:=hq.num;simp;omega,fun y hy=> (hq.lv y hy).2⟩
 simp[mg,lC,h1,hC,h2, -Bool.forall_bool, -Bool.exists_bool]
 refine .inl ⟨hPb,fun l hl=> ?_⟩
 have hl:l=di q.pat []:=hl
 subst hl
 simp[h3, -Bool.forall_bool, -Bool.exists_bool]
 refine .inl ⟨hPq,?_⟩
 intro hll
 refine aA (X:=Unit) [1,2,6,20] [] (dZ q.pat).length (fun _ _=> True) (fun _=> []) (fun _=> []) () (by simp) (by simp) (by omega) (by simp) (by simp) trivial (by simp) (by simp) ?_ ?_
 ·rintro k ⟨⟩ hk -
  obtain⟨x,hx⟩: ∃x,(dZ q.pat)[k]?=some x:=⟨_,List.getElem?_eq_getElem hk⟩
  obtain⟨_,hgx⟩:=List.getElem?_eq_some_iff.1 hx
  have hxm:=List.mem_of_getElem? hx
  obtain⟨y,hy,rfl⟩:=List.mem_map.1 hxm
  have hP:N8 ((xQ y).cond,a,di q.pat []):=⟨(hq.lv y hy).1,hq.att⟩
  simp[hk,hx,hgx,h4,hP, -Bool.forall_bool, -Bool.exists_bool]
  exact hP
 ·rintro⟨⟩ -
  simp[h5,h6,h7,hq.glob,hq.filts, -Bool.forall_bool, -Bool.exists_bool]
end Go.Gv

namespace Go.Gv
def qaT (s:B) (i:Nat):Option (Nat×Cp):=match s.data[i]? with
 | none=> none
 | some c=>
   if ST c.toNat then some (A8 s i,⟨110,s.extract i (A8 s i),i⟩)
   else if 48<=c.toNat/\c.toNat<=57 then none
   else if c.toNat=34 then(Nl s (i+1) ⟨#[]⟩).map fun r=> (r.1+1,⟨115,r.2,i⟩)
   else match signsL.find? (YB s i) with
    | none=> none
    | some x=> some (i+x.size,⟨111,s.extract i (i+x.size),i⟩)
def DV:Nat->B->Nat->List Cp->Option (List Cp)
 | 0,_,_,_=> none
 | k+1,s,i,out=> if qw s i=s.size then some (out++ [⟨101,⟨#[]⟩,s.size⟩]) else(qaT s (qw s i)).bind fun r=> if r.1<=s.size/\qw s i < r.1 then DV k s r.1 (out++ [r.2]) else none
def B4 (s:B):Option (List Cp):=if s.size<=100000 then DV 100000 s 0 [] else none
theorem SC {s:B} {i:Nat} (h:s.size<=i):A8 s i=i:=by
 unfold A8
 rw[show s.size -i=0 by omega,VU]
theorem Hx {s:B} {i:Nat} (h:i < s.size):A8 s i=if Ta s i then A8 s (i+1) else i:=by
 unfold A8
 rw[show s.size -i=(s.size - (i+1)) +1 by omega,VU]
def Ow (s:Pst):Option Cp:=if 0<=s.pos/\s.pos+1 < s.l.length/\s.l.length<=1000000 then s.l[(s.pos+1).toNat]? else none
def JP (s:Pst):Option Bool:=(sJ s).bind fun x=> if s.e≠0 then none else if x.kind=110 then(Ow s).bind fun n=> if n.kind=111/\n.text=⟨#[58]⟩ then some true else none
 else some (decide (x.kind=115\/x.kind=111/\(x.text=⟨#[91]⟩\/x.text=⟨#[60]⟩\/x.text=⟨#[60,47]⟩\/x.text=⟨#[40]⟩)))
def Ip (s:Pst) (lb:B):Option (Pst×Pat):=if s.e≠0 then none else(sJ s).bind fun x=>
 if x.kind=115 then(nR s.step ⟨#[37,99]⟩).map fun w=> (w.1,⟨1,⟨2,E0,E0,x.text,E0,w.2, []⟩,lb,E0,0,0, []⟩)
 else(yb s 111 ⟨#[91]⟩).bind fun u=> (nR u.1 ⟨#[93]⟩).bind fun w=> if w.2 then some (w.1,⟨1,⟨1,E0,E0,E0,E0,false, []⟩,lb,E0,0,0, []⟩) else none
def SY (s:Pst):Option (Pst×Pat):=if s.e≠0 then none else(sJ s).bind fun x=> if x.kind=111/\x.text≠ ⟨#[91]⟩ then none else
 if x.kind=110 then(yb s.step 111 ⟨#[58]⟩).bind fun u=> Ip u.1 x.text else Ip s E0
def um:Nat->Pst->Pat->Option (Pst×Pat)
 | 0,_,_=> none
 | k+1,s,x=> if s.e≠0 then none else(sJ s).bind fun t=> if t.kind=111/\(t.text=⟨#[63]⟩\/t.text=⟨#[43]⟩\/t.text=⟨#[123]⟩) then none else
    if t.kind=111/\t.text=⟨#[42]⟩ then um k s.step ⟨6,qN,E0,E0,0, -1, [x]⟩ else some (s,x)
def VH (s:Pst):Option (Pst×Pat):=(SY s).bind fun r=> um 9 r.1 r.2
def ue:Nat->Pst->List Pat->Option (Pst×List Pat)
 | 0,_,_=> none
 | k+1,s,acc=> (JP s).bind fun b=> if b then(VH s).bind fun r=> ue k r.1 (acc++ [r.2]) else some (s,acc)
def RR (s:Pst):Option (Pst×Pat):=(VH s).bind fun r=> (ue 9 r.1 [r.2]).map fun q=> (q.1,Xv 4 q.2)
def UC (s:Pst):Option (Pst×Pat):=(RR s).bind fun r=> (nR r.1 ⟨#[124]⟩).bind fun w=> if w.2 then none else some (w.1,r.2)
def AR (s:B):Option Pat:=if s.size<=400 then(B4 s).bind fun l=> (UC ⟨l,0,0,0,0⟩).bind fun r=> if r.1.e≠0 then none else(sJ r.1).bind fun t=> if t.kind=101 then some r.2 else none else none
def qne:B:=⟨#[97,58,34,97,34,32,91,93,42,32,98,58,34,98,34]⟩
def zr:Pat:=⟨4,qN,E0,E0,0,0, [⟨1,⟨2,E0,E0,⟨#[97]⟩,E0,false, []⟩,⟨#[97]⟩,E0,0,0, []⟩,⟨6,qN,E0,E0,0, -1, [⟨1,⟨1,E0,E0,E0,E0,false, []⟩,E0,E0,0,0, []⟩]⟩,⟨1,⟨2,E0,E0,⟨#[98]⟩,E0,false, []⟩,⟨#[98]⟩,E0,0,0, []⟩]⟩
theorem HD:AR qne=some zr:=by kernel_rfl
end Go.Gv
