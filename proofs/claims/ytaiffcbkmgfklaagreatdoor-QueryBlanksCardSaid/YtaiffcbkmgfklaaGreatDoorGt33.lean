/- A part of the framework and of the walks: W75 W78 W62 W63 T23 C5 W50 W51 W53 W64 W65 W66 W67 W3 W30 C3 W38 V9 V10 V14. -/
import Derived.Recover
import Derived.Tactics2
import Derived.Test.YtaiffcbkmgfklaaGreatDoorGt32
import Derived.Test.YtaiffcbkmgfklaaGreatDoorGt29
import Derived.Test.YtaiffcbkmgfklaaGreatDoorGt31
import Derived.Test.YtaiffcbkmgfklaaGreatDoorGt24
import Derived.Test.YtaiffcbkmgfklaaGreatDoorGt21
import Derived.Test.YtaiffcbkmgfklaaGreatDoorGt22
import Derived.Test.YtaiffcbkmgfklaaGreatDoorGt17
import Derived.Test.YtaiffcbkmgfklaaGreatDoorGt30
import Derived.Test.YtaiffcbkmgfklaaGreatDoorGt23
import Derived.Test.YtaiffcbkmgfklaaGreatDoorGt19
import Derived.Test.YtaiffcbkmgfklaaGreatDoorGt27
set_option linter.unusedSimpArgs false
set_option linter.unusedVariables false
set_option maxRecDepth 100000
set_option linter.unusedSectionVars false

namespace Go.Gv
open Cod (enc dec)
open Go.Proofs
variable {S S0:Nat→Spc}
def XX (T:Pat→Option B) (g:Nat):List D→Option B:=if g=bI then GE T else fun _=> none
theorem dM (t:B): (⟨#[]⟩:B) ++t=t:=by
 apply ByteArray.ext
 show((⟨#[]⟩:B) ++t).data=_
 rw[ByteArray.data_append]
 simp
theorem cD (t:B):t++ (⟨#[]⟩:B)=t:=by
 apply ByteArray.ext
 show(t++ (⟨#[]⟩:B)).data=_
 rw[ByteArray.data_append]
 simp
theorem Ms {f:Pat→Option B} {op:Int} {i:Nat} {ks:List Pat} {k:Pat} (hx:ks[i]?=some k) {r:B} (h:AQ f op i (ks.drop i)=some r):
 ∃t r',f k=some t∧AQ f op (i+1) (ks.drop (i+1))=some r'∧r=(FN op i++sR (zG op k) t) ++r':=by
 have hd:ks.drop i=k::ks.drop (i+1):=dC hx
 rw[hd,AQ] at h
 obtain⟨t,h1,h⟩:=Option.bind_eq_some_iff.1 h
 obtain⟨r',h2,h⟩:=Option.map_eq_some_iff.1 h
 exact⟨t,r',h1,h2,h.symm⟩
theorem yT (T:Pat→Option B) (h1:S eb=L0) (h2:S ab=s_wstr) (h3:S ck=Nr (XX T)):
 Hd cr cq S 108 5 (a1 Pat) (.tup []) (Rm T):=by
 rintro b u v s ⟨op,cond,lab,reg,mn,mx,kids⟩ t ht hl
 have hL:=mY
 unfold Rm at ht
 simp only at ht
 split at ht
 ·rename_i e
  subst e
  simp[cr,cq,h1,ht,hl, -Bool.forall_bool, -Bool.exists_bool]
  exact fun u' v'=> v6 u' v' (by simp) (by simp)
 ·rename_i n1
  split at ht
  ·rename_i e
   subst e
   cases ht
   simp only[ai,af] at hl
   simp at hl
   simp[cr,cq,h2,ai,af, -Bool.forall_bool, -Bool.exists_bool]
   refine⟨by omega,by omega,by omega,fun u' v'=> v6 u' v' (by simp) (by simp)⟩
  ·rename_i n2
   split at ht
   ·rename_i e
    subst e
    cases ht
    simp only[ai,af] at hl
    simp at hl
    simp[cr,cq,h2,ai,af, -Bool.forall_bool, -Bool.exists_bool]
    refine⟨by omega,by omega,by omega,fun u' v'=> v6 u' v' (by simp) (by simp)⟩
   ·rename_i n3
    split at ht
    ·rename_i h45
     have n6: ¬op=6:=by omega
     simp[cr,cq,n1,n2,n3,n6, -Bool.forall_bool, -Bool.exists_bool]
     intro hkl
     refine aJ (X:=Bool×Value×B×B) [2,3,10] [] kids.length (fun k x=> AQ T op k (kids.drop k)=some x.2.2.2∧x.2.2.1++x.2.2.2=t) (fun x=> []) (fun x=> [(0, .tbox 108 b [.v (pv b x.1), .own 900 x.2.1]),(900, .row x.2.1 5 1 (bD (s++x.2.2.1)))]) (u,v,E0,t) (by simp) (by simp) (by omega) (by simp) (by simp) ?_ (by simp) (by simp[E0,cD]) ?_ ?_
     ·refine⟨ht,?_⟩
      simp[E0,dM]
     ·rintro k ⟨u1,v1,acc,r⟩ hk ⟨q1,q2⟩
      simp only at q1 q2
      obtain⟨x,hx⟩:=cV hk
      obtain⟨_,hgx⟩:=List.getElem?_eq_some_iff.1 hx
      obtain⟨tk,r',c1,c2,rfl⟩:=Ms hx q1
      rw[←q2] at hl
      simp only[ai] at hl
      have inn: ∀ (s0:B) (pb:Bool) (u2:Bool) (v2:Value) (H:aa) (K:D→aa→Prop),H 0=some (.tbox 108 b [.v (pv b u2), .own 900 v2])→H 900=some (.row v2 5 1 (bD s0))→s0=s++ (acc++FN op k)→pb=zG op x→
       (∀u3 v3,K (.tup []) (ak (ak H 900 (some (.row v3 5 1 (bD (s++ (acc++ (FN op k++sR (zG op x) tk))))))) 0 (some (.tbox 108 b [.v (pv b u3), .own 900 v3]))))→
       (S ck).pt 49 [.bptr 0 b 0, .v (.bool pb), .clo bI [.cptr [.bptr 0 b 0] 0, .cptr [D.v (Value.int IntKind.i64 x.op),D.v (Value.int IntKind.i64 x.cond.op),
         D.v (Value.string x.cond.name),D.v (Value.string x.cond.arg),D.v (Value.string x.cond.val),D.v (Value.string x.cond.lab),D.v (Value.bool x.cond.fold),D.list 7 (List.map enc x.cond.kids),
         D.v (Value.string x.lab),D.v (Value.string x.reg),D.v (Value.int IntKind.i64 x.mn),D.v (Value.int IntKind.i64 x.mx),D.list 13 (List.map enc x.kids)] 0]] H K:=by
       intro s0 pb u2 v2 H K g0 g9 hs hp hK
       rw[h3]
       refine Zm _ _ _ _ _ _ _ _ _ ?_
       have hct:XX T bI [D.v (Value.int IntKind.i64 x.op),D.v (Value.int IntKind.i64 x.cond.op),
        D.v (Value.string x.cond.name),D.v (Value.string x.cond.arg),D.v (Value.string x.cond.val),D.v (Value.string x.cond.lab),D.v (Value.bool x.cond.fold),D.list 7 (List.map enc x.cond.kids),
        D.v (Value.string x.lab),D.v (Value.string x.reg),D.v (Value.int IntKind.i64 x.mn),D.v (Value.int IntKind.i64 x.mx),D.list 13 (List.map enc x.kids)]=some tk:=by
        simp[XX,GE,c1]
       rw[hct,g0,g9,hp]
       simp[-Bool.forall_bool, -Bool.exists_bool]
       refine⟨?_,fun u3 v3=> ?_⟩
       ·rw[hs]
        simp only[ai]
        omega
       ·have:=hK u3 v3
        rw[hs]
        simp only[ByteArray.append_assoc] at this ⊢
        exact this
      have eq3: (acc++ (FN op k++sR (zG op x) tk)) ++r'=t:=by
       rw[←q2]
       simp[ByteArray.append_assoc]
      by_cases hk0:k=0
      ·subst hk0
       have c2':AQ T op 1 kids.tail=some r':=by simpa using c2
       have hsep:FN op 0=⟨#[]⟩:=rfl
       simp[hk,hx,hgx,h2,af, -Bool.forall_bool, -Bool.exists_bool]
       refine⟨fun h5=> ⟨fun h4=> ?_,fun h4=> ?_⟩,fun h5=> ?_⟩
       ·refine inn (s++acc) _ u1 v1 _ _ (by simp) (by simp) (by rw[hsep,cD]) (by simp[zG,h4,h5]) fun u3 v3=> ⟨u3,v3,_,⟨r',c2',eq3⟩, .inl (by simp), .inl (by simp)⟩
       ·refine inn (s++acc) _ u1 v1 _ _ (by simp) (by simp) (by rw[hsep,cD]) (by simp[zG,h4,h5]) fun u3 v3=> ⟨u3,v3,_,⟨r',c2',eq3⟩, .inl (by simp), .inl (by simp)⟩
       ·refine inn (s++acc) _ u1 v1 _ _ (by simp) (by simp) (by rw[hsep,cD]) (by simp[zG,h5]) fun u3 v3=> ⟨u3,v3,_,⟨r',c2',eq3⟩, .inl (by simp), .inl (by simp)⟩
      ·have hk1:0 < k:=by omega
       rcases h45 with rfl | rfl
       ·have hsep:FN 4 k=⟨#[32]⟩:=by simp[FN,hk0]
        rw[hsep] at hl
        simp only[af] at hl
        simp at hl
        simp[hk,hx,hgx,h2,hk1,af,ai, -Bool.forall_bool, -Bool.exists_bool]
        refine⟨by omega,fun u4 v4=> ⟨fun h5=> ⟨fun h4=> ?_,fun h4=> ?_⟩,fun h5=> ?_⟩⟩
        ·refine inn (s++acc++ ⟨#[32]⟩) _ u4 v4 _ _ (by simp) (by simp) (by rw[hsep,ByteArray.append_assoc]) (by simp[zG,h4,h5]) fun u3 v3=> ⟨u3,v3,_,⟨r',c2,eq3⟩, .inl (by simp), .inl (by simp)⟩
        ·refine inn (s++acc++ ⟨#[32]⟩) _ u4 v4 _ _ (by simp) (by simp) (by rw[hsep,ByteArray.append_assoc]) (by simp[zG,h4,h5]) fun u3 v3=> ⟨u3,v3,_,⟨r',c2,eq3⟩, .inl (by simp), .inl (by simp)⟩
        ·refine inn (s++acc++ ⟨#[32]⟩) _ u4 v4 _ _ (by simp) (by simp) (by rw[hsep,ByteArray.append_assoc]) (by simp[zG,h5]) fun u3 v3=> ⟨u3,v3,_,⟨r',c2,eq3⟩, .inl (by simp), .inl (by simp)⟩
       ·have hsep:FN 5 k=⟨#[32,124]⟩ ++ ⟨#[32]⟩:=by simp[FN,hk0]
        rw[hsep] at hl
        simp only[ai,af] at hl
        simp at hl
        simp[hk,hx,hgx,h2,hk1,af,ai, -Bool.forall_bool, -Bool.exists_bool]
        refine⟨by omega,by omega,fun u4 v4=> ⟨fun h5=> ?_,fun h5=> ?_⟩⟩
        ·refine inn (s++acc++ ⟨#[32,124]⟩ ++ ⟨#[32]⟩) _ u4 v4 _ _ (by simp) (by simp) (by rw[hsep];simp only[ByteArray.append_assoc]) (by simp[zG,h5]) fun u3 v3=> ⟨u3,v3,_,⟨r',c2,eq3⟩, .inl (by simp), .inl (by simp)⟩
        ·refine inn (s++acc++ ⟨#[32,124]⟩ ++ ⟨#[32]⟩) _ u4 v4 _ _ (by simp) (by simp) (by rw[hsep];simp only[ByteArray.append_assoc]) (by simp[zG,h5]) fun u3 v3=> ⟨u3,v3,_,⟨r',c2,eq3⟩, .inl (by simp), .inl (by simp)⟩
     ·rintro⟨u1,v1,acc,r⟩ ⟨q1,q2⟩
      simp only at q1 q2
      simp
      rw[List.drop_length,AQ] at q1
      cases q1
      refine v6 u1 v1 (by simp) ?_
      rw[←q2]
      simp[E0,cD]
    ·cases ht
end Go.Gv

namespace Go.Gv
open Cod (enc dec)
variable {S S0:Nat→Spc}
theorem Ly {σ:Sg} {H:aa} {k j b tw el n:Nat} {cs cs':List D} (hkj:j≠k) (hk:H k=some (.tbox tw b cs)) (hl:cs.length=cs'.length) (hc: ∀ (m:Nat) (c c':D),cs[m]?=some c→cs'[m]?=some c'→FrzTo cu c c'):
 Wk σ H σ (ak (ak H k (some (.tbox tw b cs'))) j (some (.row (.slice none 0 0) el n []))):=by
 refine Hm (Hf:=cu) id (fun t=> .same _) (fun i r h=> ?_) (fun i j r s _ _ e=> .inl e) (fun i r h=> by simp[cu] at h)
 by_cases e:i=j
 ·subst e
  simp[ak] at h
  subst h
  exact .inr ⟨rfl,rfl⟩
 ·by_cases e2:i=k
  ·subst e2
   simp[ak,e] at h
   subst h
   exact .inl ⟨_,hk, .inr ⟨rfl,rfl,hl,hc⟩⟩
  ·simp only[ak,e,e2,if_false] at h
   exact .inl ⟨r,h, .inl rfl⟩
theorem Jh {σ:Sg} {H:aa} {k j b tw el:Nat} {cs cs':List D} (hkj:j≠k) (hk:H k=some (.tbox tw b cs)) (hl:cs.length=cs'.length) (hc: ∀ (m:Nat) (c c':D),cs[m]?=some c→cs'[m]?=some c'→FrzTo cu c c'):
 Wk σ H σ (ak (ak H k (some (.tbox tw b cs'))) j (some (.row (.slice none 0 0) el 1 (bD ⟨#[]⟩)))):=Ly hkj hk hl hc
theorem Ua {K:Ex→Sg→aa→Prop} {k:Nat} {b:CC} {σ σ':Sg} {H H':aa} (hw:Wk σ H σ' H') (h:vc S b K σ' H'):vc S (.cut k b) K σ H:=by
 rw[NS]
 exact⟨_,_,hw,h⟩
def XU (n:Nat) (q:Qry):Prop:=(cx q.pat 1 && eN lG q.pat)=true∧q.strat=0∧q.filts= []∧q.glob=fh∧XP q.pat []∧(∀x∈d5 q.pat,LC x.cond)∧ ∃t,tT n q.pat=some t∧t.size≤o9∧t.size≠0
abbrev De (n:Nat):Spc:=dt (a1 Qry) (XU n) (enc (X:=B)) fun q y=> tT n q.pat=some y
theorem Cn (n:Nat) (h0:S0 eX=zx) (h1:S eU=xQ) (h2:S bY=Ma) (h3:S jT=H8) (h4:S bZ=s_leavesQ) (h5:S aI=wJ S0)
 (h6:S bG=CP (tT n)) (h7:S cR=s_string):Walk m9 mU S (a1 Qry) (XU n) (enc (X:=B)) fun q y=> tT n q.pat=some y:=by
 rintro⟨p,g,fs,st⟩ ⟨hs,h8,h9,h10,h11,h12,t,h13,h14,h15⟩
 simp only at hs h8 h9 h10 h11 h12 h13
 subst h8;subst h9;subst h10
 have hf:FunOn S0 (.clo eX []) (d5 p) fun _=> false:=by
  refine⟨_, [],_,rfl,h0,fun x hx=> ⟨⟨x,by simp,h12 x hx⟩,fun r hr=> ?_⟩⟩
  obtain⟨y,rfl,hy⟩:=hr x (by simp) (h12 x hx)
  rw[hy]
 simp only[Bool.and_eq_true] at hs
 simp[m9,mU,hs.1,hs.2,h1,h2,h3,h4,h5,su, -Bool.forall_bool, -Bool.exists_bool]
 refine .inl ⟨h11,⟨_,hf⟩,fun y hy=> ?_⟩
 have e:y=false:=by
  have hy:y=(d5 p).any fun _=> false:=hy _ hf
  rw[hy];simp
 subst e
 refine⟨fun h=> absurd h (by decide),fun _=> ?_⟩
 unfold kO
 simp[fh,E0, -Bool.forall_bool, -Bool.exists_bool]
 intro b
 refine Ua (Jh (k:=36) (j:=900) (b:=b) (tw:=108) (el:=5) (cs:= [.v (.pointer none), .v (.slice none 0 0)]) (cs':= [.v (pv b false), .own 900 (.slice none 0 0)]) (by decide) (by simp) (by simp) ?_) ?_
 ·intro m c c' hc hc'
  match m with
  | 0=> simp at hc hc';subst hc;subst hc';exact .same _
  | 1=> simp at hc hc';subst hc;subst hc';exact .nilown _
  | m+2=> simp at hc
 simp[h6,h13,h14,dM,af, -Bool.forall_bool, -Bool.exists_bool]
 intro u v
 refine aJ (X:=Unit) [1,3] [36,900] 0 (fun _ _=> True) (fun _=> []) (fun _=> []) () (by simp) (by simp) (by omega) (by simp) (by simp) trivial (by simp) (by simp) (fun k x hk=> absurd hk (by omega)) (fun _ _=> ?_)
 simp[h7, -Bool.forall_bool, -Bool.exists_bool]
 exact⟨36,b,u,v,t,rfl,by simp,by simp,by decide,⟨h15,h14⟩,gq (Y:=B) t (.same _) rfl⟩
end Go.Gv

namespace Go.Gv
open Cod (enc dec)
variable {S S0:Nat→Spc}
@[simp] abbrev B6 (s:Rdr) (_:Unit):Option (Rdr×Unit):=(pA s).map fun x=> (x,())
abbrev nn:Spc:=TD a0 Xe B6
theorem nj {b:Nat} {post:Rdr→Bool→Prop} {v:Bool} {H:aa} (s:Rdr) (h0:H 0=some (.box b (cI s))) (hq:post s v):yQ enc b post (.v (.bool v)) H:=gg s v (.same _) h0 hq
theorem Sj {b:Nat} {post:Rdr→B→Prop} {v:B} {H:aa} (s:Rdr) (h0:H 0=some (.box b (cI s))) (hq:post s v):yQ enc b post (.v (.string v)) H:=gg s v (.same _) h0 hq
theorem Fm (h1:S gh=xN):qi iS il S a0 Xe (fun s z=> ∃r,B6 s z=some r) (fun s z s' y=> B6 s z=some (s',y)):=by
 rintro b s ⟨⟩ ⟨r,hr⟩
 simp only[B6,pA] at hr
 split at hr
 ·rename_i h
  simp[iS,il,h1,h.1.1,h.1.2,h.2,IR]
  exact gg ⟨s.txt,(bV s.txt s.fin.toNat).2,(bV s.txt s.fin.toNat).1.kind,(bV s.txt s.fin.toNat).1.text,(bV s.txt s.fin.toNat).1.pos⟩ () (.same _) (by simp) (by simp[pA,h])
 ·cases hr
@[simp] abbrev B5 (s:Rdr) (_:Unit):Option (Rdr×Qc):=(Ds s).map fun x=> (s,x)
abbrev HU:Spc:=TD a0 (enc (X:=Qc)) B5
theorem Fl (h1:S gh=xN):qi iR ik S a0 (enc (X:=Qc)) (fun s z=> ∃r,B5 s z=some r) (fun s z s' y=> B5 s z=some (s',y)):=by
 rintro b s ⟨⟩ ⟨r,hr⟩
 simp only[B5,Ds] at hr
 split at hr
 ·rename_i h
  simp[iR,ik,h1,h.1.1,h.1.2,h.2,IR]
  exact fun _=> gg s (bV s.txt s.fin.toNat).1 (.same _) (by simp) (by simp[Ds,h])
 ·cases hr
@[simp] abbrev Ja (s:Rdr) (t:B):Option (Rdr×Bool):=some (s,bX s t)
abbrev kP:Spc:=TD (a1 B) (enc (X:=Bool)) Ja
theorem Fk:qi iQ ij S (a1 B) (enc (X:=Bool)) (fun s z=> ∃r,Ja s z=some r) (fun s z s' y=> Ja s z=some (s',y)):=by
 rintro b s t ⟨r,hr⟩
 simp[iQ,ij]
 refine⟨fun hk=> nj s (by simp) (by simp[bX,hk]),fun hk=> nj s (by simp) (by simp[bX,hk])⟩
@[simp] abbrev B4 (s:Rdr) (t:B):Option (Rdr×Bool):=ms s t
abbrev bF:Spc:=TD (a1 B) (enc (X:=Bool)) B4
theorem Fj (h1:S aU=nn) (h2:S aL=kP):qi fQ fF S (a1 B) (enc (X:=Bool)) (fun s z=> ∃r,B4 s z=some r) (fun s z s' y=> B4 s z=some (s',y)):=by
 rintro b s t ⟨r,hr⟩
 have hr0:=hr
 simp only[B4,ms] at hr
 split at hr
 ·rename_i h
  obtain⟨x,hx,rfl⟩:=Option.map_eq_some_iff.1 hr
  simp[fQ,fF,h1,h2,h,hx]
  exact nj x (by simp) (by simp[ms,h,hx])
 ·rename_i h
  simp[fQ,fF,h1,h2,h]
  exact nj s (by simp) (by simp[ms,h])
@[simp] abbrev I9 (s:Rdr) (l:List B):Option (Rdr×Bool):=some (s,d6 s l)
abbrev rh:Spc:=TD (a1 (List B)) (enc (X:=Bool)) I9
theorem Fi (h1:S cS=rl):qi iP ig S (a1 (List B)) (enc (X:=Bool)) (fun s z=> ∃r,I9 s z=some r) (fun s z s' y=> I9 s z=some (s',y)):=by
 rintro b s t ⟨r,hr⟩
 simp[iP,ig,h1]
 refine⟨fun hk=> nj s (by simp) (by simp[d6,hk]),fun hk=> nj s (by simp) (by simp[d6,hk])⟩
@[simp] abbrev B7 (s:Rdr) (_:Unit):Option (Rdr×Bool):=ms s ⟨#[37,99]⟩
abbrev ri:Spc:=TD a0 (enc (X:=Bool)) B7
theorem Fo (h1:S ac=bF):qi iX iu S a0 (enc (X:=Bool)) (fun s z=> ∃r,B7 s z=some r) (fun s z s' y=> B7 s z=some (s',y)):=by
 rintro b s ⟨⟩ ⟨⟨s',y⟩,hr⟩
 have hr0:=hr
 simp only[B7] at hr
 simp[iX,iu,h1,hr, -Bool.forall_bool, -Bool.exists_bool]
 exact nj s' (by simp) ⟨rfl,rfl⟩
end Go.Gv

namespace Go.Gv
open Cod (enc dec)
variable {S S0:Nat→Spc}
abbrev xO:Spc:=dt (a2 Int (List Cond)) (fun _=> True) (enc (X:=Cond)) fun x y=> y=SO x.1 x.2
theorem ZY {op:Int} {l:List Cond} (h:l.length≠1):SO op l=⟨op,E0,E0,E0,E0,false,l⟩:=by
 match l,h with
 | [],_=> rfl
 | [x],h=> exact absurd rfl h
 | x::y::l,_=> rfl
theorem T0:Walk oR nW S (a2 Int (List Cond)) (fun _=> True) (enc (X:=Cond)) fun x y=> y=SO x.1 x.2:=by
 rintro⟨op,l⟩ -
 simp[oR,nW]
 refine fun b _=> ⟨fun h=> ⟨by omega,fun a ha=> ?_⟩,fun h=> ?_⟩
 ·have e:l= [a]:=by
   match l,h,ha with
   | [x],_,ha=> simp at ha;rw[ha]
  exact gq a (by simp) (by rw[e];rfl)
 ·exact gq (⟨op,E0,E0,E0,E0,false,l⟩:Cond) (by simp[E0]) (ZY (by omega)).symm
theorem Ev {H:aa} {o:Int} {n a v l:B} {f:Bool} {d:D} (ks:List Cond) (hd:FrzTo H d (enc ks)):
 FrzTo H (.agg [.v (.int .i64 o), .v (.string n), .v (.string a), .v (.string v), .v (.string l), .v (.bool f),d]) (enc (⟨o,n,a,v,l,f,ks⟩:Cond)):=by
 rw[KL]
 refine .agg rfl fun k x y hx hy=> ?_
 rcases k with _ | _ | _ | _ | _ | _ | _ | k
 ·cases hx;cases hy;exact .same _
 ·cases hx;cases hy;exact .same _
 ·cases hx;cases hy;exact .same _
 ·cases hx;cases hy;exact .same _
 ·cases hx;cases hy;exact .same _
 ·cases hx;cases hy;exact .same _
 ·cases hx;cases hy;exact hd
 ·simp at hx
theorem NN {X:Type} [Cod X] {H:aa} {d:D} (y:X) (h:FrzTo H d (enc y)):FrzTo H (.list (Cod.wd X) [d]) (enc [y]):=by
 show FrzTo H (.list (Cod.wd X) [d]) (.list (Cod.wd X) [enc y])
 refine .list rfl (fun z hz=> ?_) fun k c c' hc hc'=> ?_
 ·simp at hz;subst hz;exact⟨Cod.kn y,Cod.wid y⟩
 ·rcases k with _ | k
  ·cases hc;cases hc';exact h
  ·simp at hc
theorem G2 {b:Nat} {post:Rdr→Cond→Prop} {H:aa} {o:Int} {n a v l:B} {f:Bool} {d:D} (s:Rdr) (ks:List Cond) (hd:FrzTo (fun i=> if i=0 then none else H i) d (enc ks)) (h0:H 0=some (.box b (cI s))) (hq:post s ⟨o,n,a,v,l,f,ks⟩):
 yQ enc b post (.agg [.v (.int .i64 o), .v (.string n), .v (.string a), .v (.string v), .v (.string l), .v (.bool f),d]) H:=gg s (⟨o,n,a,v,l,f,ks⟩:Cond) (Ev ks hd) h0 hq
end Go.Gv

namespace Go.Gv
open Cod (enc dec)
section
variable {Y Z:Type}
variable {P:Program} {S:Nat→Spc} {f:Nat} {im:List Nat} {cc:CC} {rs:List aK} {N:Nat}
end
section
variable {Y Z:Type}
variable {P:Program} {S:Nat→Spc} {f:Nat} {im:List Nat} {cc:CC} {rs:List aK} {N:Nat}
end
end Go.Gv

namespace Go.Gv
open Go.Proofs
-- r23_parser_number while id=0: live [0:p, 1:limit, 2:at, 7:s, 8:n, 9:i] changed [8, 9] res [0]
-- r23_parser_alt while id=0: live [0:p, 2:, 3:l] changed [3] res [0, 2, 6, 13]
-- r23_parser_seq while id=0: live [0:p, 2:, 3:l] changed [3] res [0, 2, 6, 13]
-- r23_parser_rep while id=0: live [0:p, 2:, 3:x] changed [] res [0, 2, 3]
end Go.Gv

namespace Go.Gv
open Cod (enc dec)
variable {S S0:Nat→Spc}
end Go.Gv

namespace Go.Gv
open Cod (enc dec)
variable {S S0:Nat→Spc}
theorem NM {H:aa} {op o:Int} {n a v l lb rg:B} {f:Bool} {cd d:D} {mn mx:Int} (cks:List Cond) (ks:List Pat) (hc:FrzTo H cd (enc cks)) (hd:FrzTo H d (enc ks)):
 FrzTo H (.agg [.v (.int .i64 op), .v (.int .i64 o), .v (.string n), .v (.string a), .v (.string v), .v (.string l), .v (.bool f),cd, .v (.string lb), .v (.string rg), .v (.int .i64 mn), .v (.int .i64 mx),d]) (enc (⟨op,⟨o,n,a,v,l,f,cks⟩,lb,rg,mn,mx,ks⟩:Pat)):=by
 rw[IT]
 refine .agg rfl fun k x y hx hy=> ?_
 rcases k with _ | _ | _ | _ | _ | _ | _ | _ | _ | _ | _ | _ | _ | k
 ·cases hx;cases hy;exact .same _
 ·cases hx;cases hy;exact .same _
 ·cases hx;cases hy;exact .same _
 ·cases hx;cases hy;exact .same _
 ·cases hx;cases hy;exact .same _
 ·cases hx;cases hy;exact .same _
 ·cases hx;cases hy;exact .same _
 ·cases hx;cases hy;exact hc
 ·cases hx;cases hy;exact .same _
 ·cases hx;cases hy;exact .same _
 ·cases hx;cases hy;exact .same _
 ·cases hx;cases hy;exact .same _
 ·cases hx;cases hy;exact hd
 ·simp at hx
end Go.Gv

namespace Go.Gv
open Cod (enc dec)
variable {S S0:Nat→Spc}
theorem UA {op:Int} {l:List Pat} (h:l.length≠1):tU op l=⟨op,Cond0,E0,E0,0,0,l⟩:=by
 match l,h with
 | [],_=> rfl
 | [x],h=> exact absurd rfl h
 | x::y::l,_=> rfl
end Go.Gv

namespace Go.Gv
open Cod (enc dec)
variable {S S0:Nat→Spc}
abbrev nJ:Spc:=dt (a2 Int (List Pat)) (fun _=> True) (enc (X:=Pat)) fun x y=> y=tU x.1 x.2
theorem LD:Walk lw kV S (a2 Int (List Pat)) (fun _=> True) (enc (X:=Pat)) fun x y=> y=tU x.1 x.2:=by
 rintro⟨op,l⟩ -
 simp[lw,kV]
 refine fun b _=> ⟨fun h=> ⟨by omega,fun a ha=> ?_⟩,fun h=> ?_⟩
 ·have e:l= [a]:=by
   match l,h,ha with
   | [x],_,ha=> simp at ha;rw[ha]
  exact gq a (by simp) (by rw[e];rfl)
 ·exact gq (⟨op,Cond0,E0,E0,0,0,l⟩:Pat) (NM [] l (.nil _) (by simp)) (UA (by omega)).symm
@[simp] abbrev AC (s:Rdr) (i:Bool):Option (Rdr×Bool):=(mq s i).map fun v=> (s,v)
abbrev zl:Spc:=TD (a1 Bool) (enc (X:=Bool)) AC
theorem Sl {b:Nat} {post:Rdr→Pat→Prop} {H:aa} {op o:Int} {n a v l lb rg:B} {f:Bool} {cd d:D} {mn mx:Int} (s:Rdr) (cks:List Cond) (ks:List Pat) (hc:FrzTo (fun i=> if i=0 then none else H i) cd (enc cks)) (hd:FrzTo (fun i=> if i=0 then none else H i) d (enc ks))
 (h0:H 0=some (.box b (cI s))) (hq:post s ⟨op,⟨o,n,a,v,l,f,cks⟩,lb,rg,mn,mx,ks⟩):
 yQ enc b post (.agg [.v (.int .i64 op), .v (.int .i64 o), .v (.string n), .v (.string a), .v (.string v), .v (.string l), .v (.bool f),cd, .v (.string lb), .v (.string rg), .v (.int .i64 mn), .v (.int .i64 mx),d]) H:=
 gg s _ (NM cks ks hc hd) h0 hq
theorem A3 (h1:S aL=kP) (h2:S a9=rh) (h3:S eD=HU):
 qi dE dx S (a1 Bool) (enc (X:=Bool)) (fun s z=> ∃r,AC s z=some r) (fun s z s' y=> AC s z=some (s',y)):=by
 rintro b s i ⟨⟨s',y⟩,hr0⟩
 obtain⟨v,q,q1⟩:=Option.map_eq_some_iff.1 hr0
 simp only[Prod.mk.injEq] at q1
 obtain⟨rfl,rfl⟩:=q1
 have q0:=q
 unfold mq at q
 split at q
 ·rename_i hk
  cases q
  obtain⟨tx,fi,kd,te,po⟩:=s
  simp only at hk
  subst hk
  simp[dE,dx]
  exact nj ⟨tx,fi,4,te,po⟩ (by simp) ⟨q0,rfl⟩
 rename_i hk4
 split at q
 ·rename_i hk
  obtain⟨n,hn,q2⟩:=Option.map_eq_some_iff.1 q
  clear q hk4
  obtain⟨tx,fi,kd,te,po⟩:=s
  simp only at hk
  subst hk
  simp[dE,dx,h1,h2,h3,hn, -Bool.forall_bool, -Bool.exists_bool]
  clear h1 h2 h3
  refine⟨fun hi=> ⟨fun hw=> ⟨fun h5=> ?_,fun h5=> ?_⟩,fun hw=> ?_⟩,fun hi=> ?_⟩
  ·exact nj ⟨tx,fi,2,te,po⟩ (by simp) ⟨by rw[q0,←q2];simp[hi,Gp,hw,h5],rfl⟩
  ·exact nj ⟨tx,fi,2,te,po⟩ (by simp) ⟨by rw[q0,←q2];simp[hi,Gp,hw,h5],rfl⟩
  ·exact nj ⟨tx,fi,2,te,po⟩ (by simp) ⟨by rw[q0,←q2];simp[hi,Gp,hw],rfl⟩
  ·exact nj ⟨tx,fi,2,te,po⟩ (by simp) ⟨by rw[q0,←q2];simp[hi],rfl⟩
 ·rename_i hk
  cases q
  simp[dE,dx,h1,h2,h3,hk4,hk, -Bool.forall_bool, -Bool.exists_bool]
  clear h1 h2 h3
  refine⟨fun a1=> ⟨fun a2=> ⟨fun a3=> ?_,fun a3=> ?_⟩,fun a2=> ?_⟩,fun a1=> ?_⟩
  ·exact nj s (by simp) ⟨by rw[q0];simp[a1,a2,a3],rfl⟩
  ·exact nj s (by simp) ⟨by rw[q0];simp[a1,a2,a3],rfl⟩
  ·exact nj s (by simp) ⟨by rw[q0];simp[a1,a2],rfl⟩
  ·exact nj s (by simp) ⟨by rw[q0];simp[a1],rfl⟩
end Go.Gv

namespace Go.Gv
open Cod (enc dec)
variable {S S0:Nat→Spc}
variable (A:Rdr→Bool→Option (Rdr×Pat)) (O:Rdr→Option (Rdr×Cond))
end Go.Gv

namespace Go.Gv
open Cod (enc dec)
variable {S S0:Nat→Spc}
abbrev qv:Spc:=dt a0 (fun _=> True) (enc (X:=List B)) fun _ y=> y=filterL
theorem Qk:Walk iZ iw S a0 (fun _=> True) (enc (X:=List B)) fun _ y=> y=filterL:=by
 rintro x -
 simp[iZ,iw]
 exact gq (Y:=List B) filterL (.same _) rfl
theorem uO {H:aa} {l l':List D} (h:FzL H l l'):FrzTo H (.agg l) (.agg l'):= .agg h.get.1 h.get.2
def Iw:B:=⟨#[60,115,62,32,91,119,111,114,100,61,34,84,104,101,34,37,99,93]⟩
def mX:Pat:=⟨4,Cond0,E0,E0,0,0, [⟨2,Cond0,E0,⟨#[115]⟩,0,0, []⟩,⟨1,⟨2,⟨#[119,111,114,100]⟩,E0,⟨#[84,104,101]⟩,E0,true, []⟩,E0,E0,0,0, []⟩]⟩
end Go.Gv

namespace Go.Gv
open Cod (enc dec)
open Go.Proofs
theorem Mx (v2 v3 v4:Value) (w:World):CallsD Tryz.prog 27 #[v2,v3,v4] .returning w fun e u' w'=> e= .returned (.tuple #[])∧u'= .returning∧w'=w:=by
 refine callsD_of_wpS Tryz.func27 rfl fun c₀ cs hu=> ?_
 apply wpS_seq
 apply wpS_region
 simp[wpOpsS,go_sem,recoverD,hu,Tryz.ntmps27,Exit.thenS]
 apply wpS_seq
 apply wpS_region
 simp[wpOpsS,go_sem,recoverD,hu,Tryz.ntmps27,Exit.thenS]
 refine wpS_cond (t:=false) (by simp[Act.eval,Array.replicate]) ?_
 simp only[Bool.false_eq_true,if_false]
 refine wpS_of_wp (wp_skip ?_)
 cases c₀
 simp_all [bodyPostS,results,Tryz.results27]
def Ge:CC:= .reg [.op (some 2) none (.alloc 38 [(.int .i64 0),(.int .i64 0),(.string ⟨#[]⟩),(.string ⟨#[]⟩),(.string ⟨#[]⟩),(.string ⟨#[]⟩),(.bool false),(.slice none 0 0),(.string ⟨#[]⟩),(.string ⟨#[]⟩),(.int .i64 0),(.int .i64 0),(.slice none 0 0),(.int .i64 0),(.string ⟨#[]⟩),(.string ⟨#[]⟩),(.string ⟨#[]⟩),(.string ⟨#[]⟩),(.string ⟨#[]⟩),(.bool false),(.int .i64 0),(.int .i64 0),(.slice none 0 0),(.slice none 0 0),(.slice none 0 0),(.int .i64 0)]), .op (some 3) none (.alloc 3 [(.int .i64 0)]), .op (some 4) none (.alloc 39 [(.int .i64 0)])]
def Gd:CC:= .seq (.reg [.op (some 5) none (.mv (.tmp 0)), .op (some 6) none (.slen (.tmp 5)), .op (some 7) none (.cmp .gtr (.tmp 6) (.const (.int .i64 400)))])
 (.keep [0,2,3,4,7] [2,3,4] (.ite (.tmp 7) (.seq (.reg [.op (some 8) none (.build [(.int .i64 0),(.int .i64 0),(.string ⟨#[]⟩),(.string ⟨#[]⟩),(.string ⟨#[]⟩),(.string ⟨#[]⟩),(.bool false),(.slice none 0 0),(.string ⟨#[]⟩),(.string ⟨#[]⟩),(.int .i64 0),(.int .i64 0),(.slice none 0 0),(.int .i64 0),(.string ⟨#[]⟩),(.string ⟨#[]⟩),(.string ⟨#[]⟩),(.string ⟨#[]⟩),(.string ⟨#[]⟩),(.bool false),(.int .i64 0),(.int .i64 0),(.slice none 0 0),(.slice none 0 0),(.slice none 0 0),(.int .i64 0)] []), .op none none (.store none 26 (.tmp 2) (.tmp 8)), .op none none (.store none 1 (.tmp 3) (.const (.int .i64 0))), .op none none (.store none 1 (.tmp 4) (.const (.int .i64 2)))]) .ret) .skip))
def U9:CC:= .keep [0,2,3,4] [2,3,4] (.seq (.reg [.op (some 10) none (.mv (.tmp 0)), .op (some 11) none (.build [(.string ⟨#[]⟩),(.int .i64 0),(.int .i64 0),(.string ⟨#[]⟩),(.int .i64 0)] [(0,1,(.tmp 10))]), .op (some 12) none (.box 69 false (.tmp 11)),
 .op (some 13) none (.call bu [(.tmp 12)]), .op none none (.store none 26 (.tmp 2) (.tmp 13)), .op none none (.store none 1 (.tmp 3) (.const (.int .i64 0))), .op none none (.store none 1 (.tmp 4) (.const (.int .i64 0)))]) .ret)
def Uo:List aK:= [.cell 2 true 26, .cell 3 false 1, .cell 4 false 1]
def ZM:Code→Option Code
 | .seq a _=> some a
 | _=> none
def ZL:Code→Option Code
 | .seq _ (.seq a _)=> some a
 | _=> none
def ZK:Code→Option Code
 | .seq _ (.seq _ (.seq _ a))=> some a
 | _=> none
theorem Ru: ((Tryz.f11.body.bind ZM).bind fun c=> a6 Tryz.prog [] 14 c)=some (dK Ge):=by kernel_rfl
theorem Rt: ((Tryz.f11.body.bind ZL).bind fun c=> a6 Tryz.prog [] 14 c)=some (dK Gd):=by kernel_rfl
theorem Y3: ((Tryz.f11.body.bind ZK).bind fun c=> a6 Tryz.prog [] 14 c)=some (dK U9):=by kernel_rfl
theorem Y2:Tryz.f11.results.toList.mapM (eu Tryz.prog)=some Uo:=by kernel_rfl
def RB (F:Sg→aa→Prop):Ex→Sg→aa→Prop
 | .norm,σ,H=> F σ H
 | _,_,_=> False
def VP (S:Nat→Spc) (Q:D→aa→Prop) (ds:List D) (H0:aa):Prop:=
 vc S Ge (RB fun σ H=> vc S Gd (RB fun σ H=> vc S U9 (fun e σ H=> match e with | .ret=> j7 Uo σ H fun ds=> Q (cE ds) H | _=> False) (kI σ 9 .any) H) σ H) (d4 ds) H0
theorem St.defer {E:ny} {σ:Sg} {H:aa} {a:Act} {w:World} (h:St E σ H a w) (x:Value) (dl:List Deferred) (h9:9 < E.N):St { E with ds:=dl } (kI σ 9 .any) H { (a.put (some 9) x) with defers:=dl } w:=by
 obtain⟨h1,h2,tp,h3,h4⟩:=h
 refine⟨rfl,by rw[←h2];simp[Act.put],tp,⟨h3.1,h3.2,h3.3,h3.4,h3.5,h3.6,h3.7⟩,fun t=> ?_⟩
 have:=Nv (σ:=σ) (Q:=R tp (bW E.O tp H w) w) (a:=a) h2 h4 (some 9) (fun t ht=> by cases ht;exact h9) (x:=x) (d:= .any) (.any x) t
 exact this
theorem Mc {S:Nat→Spc} (hS: ∀f,Tri Tryz.prog f (S f).pt) (E:ny) (ds':List D) (H0:aa) (Q:D→aa→Prop) (vs:List Value) (w:World) (R:Ending→World→Prop) (hds:E.ds= []) (hN:E.N=14)
 (hst:St E (d4 ds') H0 { tmps:=vs.toArray++Array.replicate (Tryz.f11.ntmps -vs.toArray.size) undef,defers:= [] } w) (hV:VP S Q ds' H0)
 (hfin: ∀ (a':Act) (w':World) (σ':Sg) (H':aa) (dl:List Deferred),St { E with ds:=dl } σ' H' a' w'→(j7 Uo σ' H' fun ds=> Q (cE ds) H')→ ∃v,(results Tryz.f11 a'.tmps).run Tryz.prog w'= .ok v w'∧R (.returned v) w'):Calls Tryz.prog 11 vs.toArray w R:=by
 have hmf: ∀ (fn:Fn) (first cap:Array Value) (w:World),(Instr.makeFunc fn first cap).run Tryz.prog w= .ok (.func fn first cap) w:=fun _ _ _ _=> rfl
 refine calls_of_wp_defers Tryz.func11 rfl ?_
 apply wp_seq
 refine wp_mono (gC (E:=E) (im:= []) hS ay Ge _ (by rw[hN];exact Ru) _ _ _ _ _ hst hV) ?_
 intro e a1 w1 hP
 cases e with
 | normal=> ?_
 | ret=> obtain⟨_,_,_,h⟩:=hP;exact h.elim
 | exit i=> obtain⟨_,_,_,h⟩:=hP;exact h.elim
 | _=> exact hP.elim
 obtain⟨σ1,H1,hst1,hV1⟩:=hP
 apply wp_seq
 refine wp_mono (gC (E:=E) (im:= []) hS ay Gd _ (by rw[hN];exact Rt) _ _ _ _ _ hst1 hV1) ?_
 intro e a2 w2 hP
 cases e with
 | normal=> ?_
 | ret=> obtain⟨_,_,_,h⟩:=hP;exact h.elim
 | exit i=> obtain⟨_,_,_,h⟩:=hP;exact h.elim
 | _=> exact hP.elim
 obtain⟨σ2,H2,hst2,hV2⟩:=hP
 apply wp_seq
 have hsz:a2.tmps.size=14:=by rw[hst2.2.1,hN]
 have hde:a2.defers= []:=by rw[hst2.1,hds]
 refine wp_region_list ?_
 refine wpList_plain rfl fun K hK=> ?_
 simp[go_sem,hmf]
 refine hK _ _ ?_
 refine wpList_plain rfl fun K hK=> ?_
 simp[go_sem,hsz]
 refine hK _ _ ?_
 refine wpList_nil ?_
 have hst3:=St.defer hst2 (Value.func (Fn.func 27) #[] #[a2.tmps[2],a2.tmps[3],a2.tmps[4]]) ({ target:=Target.fn (Fn.func 27) #[a2.tmps[2],a2.tmps[3],a2.tmps[4]],args:= #[] } ::a2.defers) (by rw[hN];decide)
 refine wp_mono (gC (E:= { E with ds:= { target:=Target.fn (Fn.func 27) #[a2.tmps[2],a2.tmps[3],a2.tmps[4]],args:= #[] } ::a2.defers }) (im:= []) hS ay U9 _ (by show a6 _ _ E.N _=_;rw[hN];exact Y3) _ _ _ _ _ hst3 hV2) ?_
 intro e a3 w3 hP
 cases e with
 | ret=> ?_
 | normal=> obtain⟨_,_,_,h⟩:=hP;exact h.elim
 | exit i=> obtain⟨_,_,_,h⟩:=hP;exact h.elim
 | _=> exact hP.elim
 obtain⟨σ3,H3,hst4,hres⟩:=hP
 show Leaves Tryz.prog Tryz.f11 a3.tmps R a3.defers .returning w3
 have hd3:a3.defers= { target:=Target.fn (Fn.func 27) #[a2.tmps[2],a2.tmps[3],a2.tmps[4]],args:= #[] } ::a2.defers:=hst4.1
 rw[hd3,hde]
 refine leaves_cons (f:=27) (args:= #[a2.tmps[2],a2.tmps[3],a2.tmps[4]]) (by simp) (by simp[go_sem]) ?_
 refine(Mx _ _ _ w3).mono ?_
 rintro e u' w'' ⟨rfl,rfl,rfl⟩
 obtain⟨v,h1,h2⟩:=hfin a3 w'' σ3 H3 _ hst4 hres
 exact⟨v,h1,h2⟩
theorem KJ:eZ Tryz.prog du:=nD Tryz.func11 (by kernel_rfl) rfl
end Go.Gv

namespace Go.Gv
open Cod (enc dec)
variable {S S0:Nat→Spc}
end Go.Gv

namespace Go.Gv
open Cod (enc dec)
variable {S S0:Nat→Spc}
end Go.Gv

namespace Go.Gv
open Go.Proofs
end Go.Gv

namespace Go.Gv
open Cod (enc dec)
variable {S S0:Nat→Spc}
end Go.Gv

namespace Go.Gv
end Go.Gv

namespace Go.Gv
theorem kH {s:B} {c d:UInt8} (h:s=⟨#[c]⟩∨s=⟨#[c,d]⟩) (hc:yK c.toNat=true) (hd:yK d.toNat=true):eo s=true:=by
 refine(ws s).2 ?_
 have hc':IX c.toNat=true:=by unfold IX;rw[hc];rfl
 have hd':IX d.toNat=true:=by unfold IX;rw[hd];rfl
 rcases h with rfl | rfl
 ·refine⟨by show 1≤1;decide,by show 1≤32;decide,fun x hx=> ?_,fun k x hx=> ?_⟩
  ·cases hx;exact hc
  ·rcases k with _ | k
   ·cases hx;exact hc'
   ·simp at hx
 ·refine⟨by show 1≤2;decide,by show 2≤32;decide,fun x hx=> ?_,fun k x hx=> ?_⟩
  ·cases hx;exact hc
  ·rcases k with _ | _ | k
   ·cases hx;exact hc'
   ·cases hx;exact hd'
   ·simp at hx
theorem Cq:eo Z4=true∧eo Vk=true∧eo qb0=true∧eo Z2=true∧eo Z1=true:=
 ⟨kH (c:=115) (d:=115) (.inl rfl) (by decide) (by decide),kH (c:=110) (d:=112) (.inr rfl) (by decide) (by decide),kH (c:=116) (d:=116) (.inl rfl) (by decide) (by decide),
  kH (c:=120) (d:=120) (.inl rfl) (by decide) (by decide),kH (c:=121) (d:=121) (.inl rfl) (by decide) (by decide)⟩
theorem Pj:Hg []:=fun l h=> by simp at h
end Go.Gv

namespace Go.Gv
end Go.Gv
