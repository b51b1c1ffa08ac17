/- A part of the framework and of the walks: W152 W153 W154 W155 T22 T31. -/
import Derived.Test.YticbieanhfdnoaaGreatDoorGc29
import Derived.Test.YticbieanhfdnoaaGreatDoorGc27
import Derived.Test.YticbieanhfdnoaaGreatDoorGc23
set_option linter.unusedSimpArgs false
set_option linter.unusedVariables false
set_option maxRecDepth 100000
set_option linter.unusedSectionVars false

namespace Go.Gv
open Cod (enc dec)
variable {S S0:Nat→Spc}
theorem Bg {X:Type} (p:X→Bool): ∀l:List X, -1≤lc l p∧lc l p < l.length
 | []=> ⟨Int.le_refl _,by simp[lc]⟩
 | x::l=> by
   have:=Bg p l
   rw[lc,List.length_cons]
   split
   ·omega
   ·split <;> omega
open Classical in
noncomputable def aX {Z:Type} (v:Z→List D) (hi: ∀z z',v z=v z'→z=z'):gK Z:=⟨fun ds=> if h: ∃z,ds=v z then some h.choose else none,v,fun ds z h=> by
 split at h
 ·rename_i h'
  have e:h'.choose=z:=Option.some.inj h
  rw[←e,←h'.choose_spec]
  exact⟨rfl,fun k d d' h1 h2=> by rw[h1] at h2;cases h2;exact .same _⟩
 ·cases h⟩
open Classical in
theorem u9 {Z:Type} (v:Z→List D) (hi: ∀z z',v z=v z'→z=z') (z:Z): (aX v hi).dec (v z)=some z:=by
 have h: ∃z',v z=v z':=⟨z,rfl⟩
 show(if h: ∃z',v z=v z' then some h.choose else none)=some z
 rw[dif_pos h]
 exact congrArg some (hi _ _ h.choose_spec).symm
theorem tj {Z:Type} (v:Z→List D) (hi: ∀z z',v z=v z'→z=z') (z:Z): (aX v hi).view z=v z:=rfl
def KR (x:Attr×B):List D:= [enc x.1, .cptr [enc x.2] 0]
theorem FP (z z':Attr×B) (h:KR z=KR z'):z=z':=by
 obtain⟨a,s⟩:=z
 obtain⟨a',s'⟩:=z'
 unfold KR at h
 simp only[List.cons.injEq,D.cptr.injEq,and_true] at h
 rw[bU h.1,bU h.2]
noncomputable abbrev Wi:gK (Attr×B):=aX KR FP
noncomputable abbrev xp:Spc:=cv Wi (fun _=> True) (enc (X:=Bool)) fun x y=> y=decide (x.1.nm=x.2)
theorem pb:aN e9 eX S Wi (fun _=> True) (enc (X:=Bool)) fun x y=> y=decide (x.1.nm=x.2):=by
 rintro⟨a,s⟩ -
 rw[tj]
 simp[KR,e9,eX, -Bool.forall_bool, -Bool.exists_bool]
abbrev mE:Spc:=cv (a2 (List Attr) B) (fun _=> True) (enc (X:=Int)) fun x y=> y=jP x.1 x.2
theorem q8 (h0:S0 aZ=xp) (h1:S bS=vN Attr S0):aN ge fU S (a2 (List Attr) B) (fun _=> True) (enc (X:=Int)) fun x y=> y=jP x.1 x.2:=by
 rintro⟨a,s⟩ -
 have hf:FunOn S0 (.clo aZ [.cptr [enc s] 0]) a fun x=> decide (x.nm=s):=
  mR (f:=fun x=> (x,s)) h0 (fun x _=> u9 KR FP (x,s)) (fun _ _=> trivial) (fun x _ y hy=> hy)
 simp[ge,fU,h1, -Bool.forall_bool, -Bool.exists_bool]
 exact⟨⟨_,hf⟩,fun y hy=> hy _ hf⟩
abbrev rR:Spc:=cv (a2 (List Attr) B) (fun x=> x.1.length≤1000) (enc (X:=Int)) fun x y=> y=qA x.1 x.2
theorem vr (h1:S ar=mE):aN gd fT S (a2 (List Attr) B) (fun x=> x.1.length≤1000) (enc (X:=Int)) fun x y=> y=qA x.1 x.2:=by
 rintro⟨a,s⟩ hl
 have hl:a.length≤1000:=hl
 have hin:InR .i64 ((a.length:Int) -1):=by simp only[InR];omega
 have hl': (a.length:Int)≤9223372036854775807:=by omega
 by_cases hs:s=gE
 ·subst hs
  simp[gd,fT,gE,qA,hin,hl', -Bool.forall_bool, -Bool.exists_bool]
 ·have hs': ¬s=⟨#[]⟩:=hs
  simp[gd,fT,gE,qA,h1,hs', -Bool.forall_bool, -Bool.exists_bool]
def nO (t:List (List B)) (i k:Int):B:=if i < 0∨k < 0 then gE else match t[i.toNat]? with
 | some r=> (match r[k.toNat]? with | some s=> s | none=> gE)
 | none=> gE
abbrev Ap:Spc:=cv (a3 Corpus Int Int) (fun x=> x.1.toks.length≤100000∧ ∀r∈x.1.toks,r.length≤100000) (enc (X:=B)) fun x y=> y=nO x.1.toks x.2.1 x.2.2
theorem vu:aN cn ci S (a3 Corpus Int Int) (fun x=> x.1.toks.length≤100000∧ ∀r∈x.1.toks,r.length≤100000) (enc (X:=B)) fun x y=> y=nO x.1.toks x.2.1 x.2.2:=by
 rintro⟨c,i,k⟩ ⟨hl,hr⟩
 simp only at hl hr
 have hl': (c.toks.length:Int)≤9223372036854775807:=by omega
 by_cases h0:i < 0
 ·simp[cn,ci,h0,nO, -Bool.forall_bool, -Bool.exists_bool]
  rfl
 by_cases h1: (c.toks.length:Int)≤i
 ·have hn:c.toks[i.toNat]?=none:=List.getElem?_eq_none (by omega)
  by_cases h2:k < 0
  ·simp[cn,ci,h0,h1,h2,hl',nO, -Bool.forall_bool, -Bool.exists_bool]
   rfl
  ·simp[cn,ci,h0,h1,h2,hl',hn,nO, -Bool.forall_bool, -Bool.exists_bool]
   rfl
 by_cases h2:k < 0
 ·simp[cn,ci,h0,h1,h2,hl',nO, -Bool.forall_bool, -Bool.exists_bool]
  rfl
 obtain⟨r,hri⟩:=jI (show i.toNat < c.toks.length by omega)
 obtain⟨_,hgr⟩:=List.getElem?_eq_some_iff.1 hri
 have hrl:=hr r (List.mem_of_getElem? hri)
 have hrl': (r.length:Int)≤9223372036854775807:=by omega
 have i0:0≤i:=by omega
 have i1:i < (c.toks.length:Int):=by omega
 have k0:0≤k:=by omega
 by_cases h3: (r.length:Int)≤k
 ·have hn:r[k.toNat]?=none:=List.getElem?_eq_none (by omega)
  simp[cn,ci,h0,h1,h2,h3,hl',hrl',hn,hri,hgr,i0,i1,nO, -Bool.forall_bool, -Bool.exists_bool]
  rfl
 obtain⟨s,hsk⟩:=jI (show k.toNat < r.length by omega)
 obtain⟨_,hgs⟩:=List.getElem?_eq_some_iff.1 hsk
 have k1:k < (r.length:Int):=by omega
 simp[cn,ci,h0,h1,h2,h3,hl',hrl',hri,hgr,hsk,hgs,i0,i1,k0,k1,nO, -Bool.forall_bool, -Bool.exists_bool]
end Go.Gv

namespace Go.Gv
open Cod (enc dec)
variable {S S0:Nat→Spc}
abbrev Eb:Spc:=cv (a1 B) (fun s=> xz s=true) (enc (X:=Bool)) fun _ y=> y=true
abbrev rO:Spc:=cv (a1 B) (fun s=> sj s=true) (enc (X:=Int)) fun _ y=> y=0
abbrev s_sConB:Spc:=cv (a2 B B) (fun x=> x.2=⟨#[124]⟩∧sj x.1=true) (enc (X:=Bool)) fun x y=> y=QG x.1
abbrev Gg:Spc:=cv (a1 B) (fun s=> ∃r,mb s=some r) (enc (X:=Int)) fun _ y=> y=0
def nk (l:List B) (s:B):Bool:=l.any fun z=> decide (z=s)
abbrev Iz:Spc:=cv (a2 (List B) B) (fun _=> True) (enc (X:=Bool)) fun x y=> y=nk x.1 x.2
abbrev ub:Spc:=cv (a2 (List B) B) (fun _=> True) (enc (X:=Int)) fun x y=> y=lc x.1 fun z=> decide (z=x.2)
theorem zH:aN fZ fL S (a2 (List B) B) (fun _=> True) (enc (X:=Int)) fun x y=> y=lc x.1 fun z=> decide (z=x.2):=by
 rintro⟨l,s⟩ -
 simp[fZ,fL, -Bool.forall_bool, -Bool.exists_bool]
 intro _
 refine aq (X:=Unit) [0,1] [] l.length (fun k _=> ∀x∈l.take k,decide (x=s)=false) (fun _=> []) (fun _=> []) () (by simp) (by simp) (by omega) (by simp) (by simp) (by simp) (by simp) (by simp) ?_ ?_
 ·intro k _ hk hP
  obtain⟨x,hx⟩:=jI hk
  obtain⟨_,hgx⟩:=List.getElem?_eq_some_iff.1 hx
  simp[hk,hx,hgx, -Bool.forall_bool, -Bool.exists_bool]
  refine⟨fun h=> ?_,fun h=> ?_⟩
  ·exact(qx hx (by simp[h]) hP).symm
  ·rw[dM hx]
   intro z hz
   rcases List.mem_append.1 hz with hz | hz
   ·have:=hP z hz
    simpa using this
   ·simp at hz;subst hz
    exact fun e=> h e.symm
 ·intro _ hP
  simp[-Bool.forall_bool, -Bool.exists_bool]
  exact(k9 (by simpa using hP)).symm
theorem nW (h1:S ba=ub):aN dc db S (a2 (List B) B) (fun _=> True) (enc (X:=Bool)) fun x y=> y=nk x.1 x.2:=by
 rintro⟨l,s⟩ -
 simp[dc,db,h1, -Bool.forall_bool, -Bool.exists_bool]
 exact wx _ l
abbrev Al:Spc:=cv (a2 Cond (List Attr)) (fun x=> Q8 x.2 x.1=true∧x.2.length≤1000) (enc (X:=Bool)) fun _ y=> y=true
theorem vo (h1:S cF=rR) (h2:S ar=mE) (h3:S dq=Eb):aN cm cg S (a2 Cond (List Attr)) (fun x=> Q8 x.2 x.1=true∧x.2.length≤1000) (enc (X:=Bool)) fun _ y=> y=true:=by
 rintro⟨⟨op,name,arg,val,lab,fold,ks⟩,a⟩ ⟨hx,hl⟩
 have hx:Q8 a ⟨op,name,arg,val,lab,fold,ks⟩=true:=hx
 have hl:a.length≤1000:=hl
 unfold Q8 at hx
 simp only at hx
 split at hx
 ·rename_i e;subst e;simp at hx
  simp[cm,cg,h1,hl,hx, -Bool.forall_bool, -Bool.exists_bool]
 rename_i e2
 split at hx
 ·rename_i e;subst e;simp at hx
  simp[cm,cg,h2,hx, -Bool.forall_bool, -Bool.exists_bool]
 rename_i e3
 split at hx
 ·rename_i e;subst e;simp at hx
  simp[cm,cg,h2,hx.1,hx.2, -Bool.forall_bool, -Bool.exists_bool]
 rename_i e4
 split at hx
 ·rename_i e;subst e;simp at hx
  obtain⟨hn,ha⟩:=hx
  by_cases hae:arg=gE
  ·subst hae
   simp[cm,cg,h3,hn,gE, -Bool.forall_bool, -Bool.exists_bool]
  ·have ha':=ha.resolve_left hae
   have hae': ¬arg=⟨#[]⟩:=hae
   simp[cm,cg,h3,hn,ha',hae', -Bool.forall_bool, -Bool.exists_bool]
 rename_i e5
 simp[cm,cg,e2,e3,e4,e5, -Bool.forall_bool, -Bool.exists_bool]
abbrev Ao:Spc:=cv (a3 Cond (List Attr) (List B)) (fun x=> kR x.2.1 x.2.2 x.1=true∧x.2.1.length≤1000) (enc (X:=Int)) fun _ y=> y=0
theorem vt (h1:S eL=xo) (h2:S eM=Al) (h3:S jh=Gg) (h4:S ar=mE) (h5:S fW=s_sConB) (h6:S aR=rO) (h7:S aL=Iz):
 aN cN cM S (a3 Cond (List Attr) (List B)) (fun x=> kR x.2.1 x.2.2 x.1=true∧x.2.1.length≤1000) (enc (X:=Int)) fun _ y=> y=0:=by
 rintro⟨x,a,lb⟩ ⟨hx,hl⟩
 have hx:kR a lb x=true:=hx
 have hl:a.length≤1000:=hl
 unfold kR at hx
 simp only[Bool.and_eq_true] at hx
 obtain⟨⟨hs,hn⟩,hc⟩:=hx
 obtain⟨op,name,arg,val,lab,fold,ks⟩:=x
 unfold Yu at hc
 simp only at hc
 have e: (Cond.mk op name arg val lab fold ks)=⟨op,name,arg,val,lab,fold,ks⟩:=rfl
 split at hc
 ·rename_i e;subst e
  obtain⟨r,hr⟩:=Option.isSome_iff_exists.1 hc
  simp[cN,cM,h1,h2,h3,hs,hn,hl,hr, -Bool.forall_bool, -Bool.exists_bool]
 rename_i e2
 split at hc
 ·rename_i e;subst e
  simp only[Bool.and_eq_true] at hc
  obtain⟨⟨⟨c1,c2⟩,c3⟩,c4⟩:=hc
  have hn':0≤jP a name:=by simpa [Q8] using hn
  have hrg:=(Bg (fun x:Attr=> decide (x.nm=name)) a).2
  have hlt:jP a name < a.length:=hrg
  obtain⟨b,hb⟩:=jI (show(jP a name).toNat < a.length by omega)
  obtain⟨_,hgb⟩:=List.getElem?_eq_some_iff.1 hb
  rw[hb] at c1
  have c1:b.st=true:=c1
  have c2: ¬val=⟨#[]⟩:=of_decide_eq_true c2
  have c3:QG val=false:=by simpa using c3
  simp[cN,cM,h1,h2,h4,h5,h6,hs,hn,hl,hn',hlt,hb,hgb,c1,c2,c3,c4, -Bool.forall_bool, -Bool.exists_bool]
 rename_i e3
 split at hc
 ·rename_i e;subst e
  have hc:nk lb lab=true:=hc
  simp[cN,cM,h1,h2,h7,hs,hn,hl,hc, -Bool.forall_bool, -Bool.exists_bool]
 rename_i e4
 split at hc
 ·rename_i e;subst e
  simp[cN,cM,h1,h2,h6,hs,hn,hl,hc, -Bool.forall_bool, -Bool.exists_bool]
 rename_i e5
 simp[cN,cM,h1,h2,hs,hn,hl,e2,e3,e4,e5, -Bool.forall_bool, -Bool.exists_bool]
end Go.Gv

namespace Go.Gv
open Cod (enc dec)
variable {S S0:Nat→Spc}
def QU (x:Cond×List Attr×List B):List D:= [enc x.1, .cptr [enc x.2.1] 0, .cptr [enc x.2.2] 0]
theorem JG (z z':Cond×List Attr×List B) (h:QU z=QU z'):z=z':=by
 obtain⟨a,s,l⟩:=z
 obtain⟨a',s',l'⟩:=z'
 unfold QU at h
 simp only[List.cons.injEq,D.cptr.injEq,and_true] at h
 rw[bU h.1,bU h.2.1,bU h.2.2]
noncomputable abbrev aVd:gK (Cond×List Attr×List B):=aX QU JG
@[simp] theorem WF (x:Cond) (a:List Attr) (lb:List B):aVd.dec [.agg [.v (.int .i64 x.op), .v (.string x.name), .v (.string x.arg), .v (.string x.val), .v (.string x.lab), .v (.bool x.fold), .list 7 (x.kids.map enc)], .cptr [.list 2 (a.map enc)] 0, .cptr [.list 1 (lb.map enc)] 0]=some (x,a,lb):=by
 have h:=u9 QU JG (x,a,lb)
 have e:QU (x,a,lb)= [.agg [.v (.int .i64 x.op), .v (.string x.name), .v (.string x.arg), .v (.string x.val), .v (.string x.lab), .v (.bool x.fold), .list 7 (x.kids.map enc)], .cptr [.list 2 (a.map enc)] 0, .cptr [.list 1 (lb.map enc)] 0]:=by simp[QU]
 rw[←e]
 exact h
noncomputable abbrev Ef:Spc:=cv aVd (fun x=> kR x.2.1 x.2.2 x.1=true∧x.2.1.length≤1000) (enc (X:=Int)) fun _ y=> y=0
theorem pJ (h1:S eN=Ao):aN fC fh S aVd (fun x=> kR x.2.1 x.2.2 x.1=true∧x.2.1.length≤1000) (enc (X:=Int)) fun _ y=> y=0:=by
 rintro⟨x,a,lb⟩ ⟨hx,hl⟩
 simp only at hx hl
 rw[tj]
 simp[QU,fC,fh,h1,hx,hl, -Bool.forall_bool, -Bool.exists_bool]
def Wl (n:Nat) (x:Cond×D×Unit):Prop:= ∃ (a:List Attr) (lb:List B),x.2.1= .clo bw [.cptr [enc a] 0, .cptr [enc lb] 0]∧lF a lb n x.1=true∧a.length≤1000∧dx x.1≤60
noncomputable abbrev Aj (n:Nat):Spc:=cv (aE Cond (aD a0)) (Wl n) (enc (X:=Int)) fun x y=> y=0
noncomputable abbrev Ai:Spc:=cv (aE Cond (aD a0)) (fun x=> ∃n,Wl n x) (enc (X:=Int)) fun x y=> y=0
theorem vn (n:Nat) (h1:S bw=Ef) (h2:S aC=Aj n):aN kM j7 S (aE Cond (aD a0)) (Wl (n+1)) (enc (X:=Int)) fun x y=> y=0:=by
 rintro⟨x,d,⟨⟩⟩ ⟨a,lb,hd,hx,hl,hn⟩
 simp only at hd hx hn
 subst hd
 simp only[lF,Bool.and_eq_true] at hx
 obtain⟨hx1,hx2⟩:=hx
 simp[kM,j7,h1,hx1,hl, -Bool.forall_bool, -Bool.exists_bool]
 intro hkl
 refine aq (X:=Unit) [1,16] [] x.kids.length (fun k _=> True) (fun _=> []) (fun _=> []) () (by simp) (by simp) (by omega) (by simp) (by simp) (by simp) (by simp) (by simp) ?_ ?_
 ·rintro k -hk -
  obtain⟨y,hy⟩:=jI hk
  obtain⟨_,hgy⟩:=List.getElem?_eq_some_iff.1 hy
  have hm:=List.mem_of_getElem? hy
  have hny:=xD hm
  have hnx:=mG x
  have hp:Wl n (y, .clo bw [.cptr [.list 2 (a.map enc)] 0, .cptr [.list 1 (lb.map enc)] 0],()):=⟨a,lb,rfl,List.all_eq_true.1 hx2 y hm,hl,by show dx y≤60;omega⟩
  simp[h2,hk,hy,hgy,hp, -Bool.forall_bool, -Bool.exists_bool]
 ·rintro - -
  simp[-Bool.forall_bool, -Bool.exists_bool]
abbrev OU (x:Cond×List Attr×List B):Prop:=LZ x.2.1 x.2.2 x.1=true∧x.2.1.length≤1000
abbrev Aq:Spc:=cv (a3 Cond (List Attr) (List B)) OU (enc (X:=Int)) fun _ y=> y=0
theorem rH (h1:S aS=rQ) (h2:S aC=Ai):aN gA gt S (a3 Cond (List Attr) (List B)) OU (enc (X:=Int)) fun _ y=> y=0:=by
 rintro⟨x,a,lb⟩ ⟨hx,hl⟩
 simp only at hx hl
 unfold LZ at hx
 simp at hx
 obtain⟨⟨hn,hd⟩,ha⟩:=hx
 have hp: ∃n,Ud n (x,0,1):=⟨cA x,Nat.le_refl _,Int.le_refl _,by show(0:Int) +dx x≤60;omega,by show(0:Int)≤1;omega,by show(1:Int) +cA x≤1000;omega,by show cA x≤60;omega⟩
 have hw: ∃n,Wl n (x, .clo bw [.cptr [.list 2 (a.map enc)] 0, .cptr [.list 1 (lb.map enc)] 0],()):=⟨20,a,lb,rfl,ha,hl,hn⟩
 have q1: ¬ (60:Int) < (dx x:Int):=by omega
 have q2: ¬ (20:Int) < 1+ (cA x:Int) -1:=by omega
 simp[gA,gt,h1,h2,hp,hw,q1,q2, -Bool.forall_bool, -Bool.exists_bool]
end Go.Gv

namespace Go.Gv
open Cod (enc dec)
variable {S S0:Nat→Spc}
def NE (l:List Pair) (s:Pair):Bool:=l.any fun z=> decide (z=s)
abbrev Ec:Spc:=cv (a2 (List Pair) Pair) (fun _=> True) (enc (X:=Int)) fun x y=> y=lc x.1 fun z=> decide (z=x.2)
abbrev Ee:Spc:=cv (a2 (List Pair) Pair) (fun _=> True) (enc (X:=Bool)) fun x y=> y=NE x.1 x.2
theorem DZ:aN ij gM S (a2 (List Pair) Pair) (fun _=> True) (enc (X:=Int)) fun x y=> y=lc x.1 fun z=> decide (z=x.2):=by
 rintro⟨l,s⟩ -
 simp[ij,gM, -Bool.forall_bool, -Bool.exists_bool]
 intro _
 refine aq (X:=Unit) [0,3] [] l.length (fun k _=> ∀x∈l.take k,decide (x=s)=false) (fun _=> []) (fun _=> []) () (by simp) (by simp) (by omega) (by simp) (by simp) (by simp) (by simp) (by simp) ?_ ?_
 ·intro k _ hk hP
  obtain⟨x,hx⟩:=jI hk
  obtain⟨_,hgx⟩:=List.getElem?_eq_some_iff.1 hx
  simp[hk,hx,hgx, -Bool.forall_bool, -Bool.exists_bool]
  have hpe:s.nm=x.nm→s.vl=x.vl→x=s:=fun h1 h2=> by
   obtain⟨a,b⟩:=x
   obtain⟨a',b'⟩:=s
   simp only at h1 h2
   rw[h1,h2]
  refine⟨fun h1 h2=> (qx hx (by simp[hpe h1 h2]) hP).symm,fun h=> ?_⟩
  rw[dM hx]
  intro z hz
  rcases List.mem_append.1 hz with hz | hz
  ·have:=hP z hz
   simpa using this
  ·simp at hz;subst hz
   intro e
   subst e
   exact h rfl rfl
 ·intro _ hP
  simp[-Bool.forall_bool, -Bool.exists_bool]
  exact(k9 (by simpa using hP)).symm
theorem yC (h1:S dR=Ec):aN fA ff S (a2 (List Pair) Pair) (fun _=> True) (enc (X:=Bool)) fun x y=> y=NE x.1 x.2:=by
 rintro⟨l,s⟩ -
 simp[fA,ff,h1, -Bool.forall_bool, -Bool.exists_bool]
 exact wx _ l
def Ay (x:Cond) (tok:Int) (r:Region):Bool:=decide (r.ty=x.name) && decide (r.b≤tok) && decide (tok < r.e) && (decide (x.arg=gE) || NE r.kv ⟨x.arg,x.val⟩)
def L3 (x:Cond):List D:= [.v (.int .i64 x.op), .v (.string x.name), .v (.string x.arg), .v (.string x.val), .v (.string x.lab), .v (.bool x.fold), .list 7 (x.kids.map enc)]
theorem Ks (x:Cond): .agg (L3 x)=enc x:=by simp[L3]
theorem Qy {x y:Cond} (h:L3 x=L3 y):x=y:=bU (by rw[←Ks,←Ks,h])
def O3 (x:Region×Cond×Int):List D:= [enc x.1, .cptr (L3 x.2.1) 0, .cptr [enc x.2.2] 0]
theorem JH (z z':Region×Cond×Int) (h:O3 z=O3 z'):z=z':=by
 obtain⟨a,s,l⟩:=z
 obtain⟨a',s',l'⟩:=z'
 unfold O3 at h
 simp only[List.cons.injEq,D.cptr.injEq,and_true] at h
 rw[bU h.1,Qy h.2.1,bU h.2.2]
noncomputable abbrev qgR:gK (Region×Cond×Int):=aX O3 JH
noncomputable abbrev nZ:Spc:=cv qgR (fun _=> True) (enc (X:=Bool)) fun x y=> y=Ay x.2.1 x.2.2 x.1
theorem rF (h1:S cW=Ee):aN ca bY S qgR (fun _=> True) (enc (X:=Bool)) fun x y=> y=Ay x.2.1 x.2.2 x.1:=by
 rintro⟨r,x,tok⟩ -
 rw[tj]
 by_cases e1:r.ty=x.name
 rotate_left
 ·simp[O3,L3,ca,bY,Ay,e1, -Bool.forall_bool, -Bool.exists_bool]
 by_cases e2:r.b≤tok
 rotate_left
 ·simp[O3,L3,ca,bY,Ay,e1,e2, -Bool.forall_bool, -Bool.exists_bool]
 by_cases e3:tok < r.e
 rotate_left
 ·simp[O3,L3,ca,bY,Ay,e1,e2,e3, -Bool.forall_bool, -Bool.exists_bool]
 by_cases e4:x.arg=gE
 ·have e4':x.arg=⟨#[]⟩:=e4
  simp[O3,L3,ca,bY,Ay,e1,e2,e3,e4,e4',gE, -Bool.forall_bool, -Bool.exists_bool]
 ·have e4': ¬x.arg=⟨#[]⟩:=e4
  simp[O3,L3,ca,bY,Ay,h1,e1,e2,e3,e4,e4', -Bool.forall_bool, -Bool.exists_bool]
abbrev Iy:Spc:=cv (a3 Corpus Cond Int) (fun _=> True) (enc (X:=Bool)) fun x y=> y=x.1.regs.any (Ay x.2.1 x.2.2)
theorem tV (h0:S0 aW=nZ) (h1:S bT=yH Region S0):aN iT iJ S (a3 Corpus Cond Int) (fun _=> True) (enc (X:=Bool)) fun x y=> y=x.1.regs.any (Ay x.2.1 x.2.2):=by
 rintro⟨c,x,tok⟩ -
 have hf:FunOn S0 (.clo aW [.cptr (L3 x) 0, .cptr [enc tok] 0]) c.regs (Ay x tok):=
  mR (f:=fun r=> (r,x,tok)) h0 (fun r _=> u9 O3 JH (r,x,tok)) (fun _ _=> trivial) (fun r _ y hy=> hy)
 unfold L3 at hf
 simp[iT,iJ,h1, -Bool.forall_bool, -Bool.exists_bool]
 exact⟨⟨_,hf⟩,fun y hy=> hy _ hf⟩
mutual
def gL:Cond→Bool | .mk op _ _ _ _ _ ks=> decide (op=4) || Gc ks
def Gc:List Cond→Bool | []=> false | k::ks=> gL k || Gc ks
end
theorem C0: ∀l:List Cond,Gc l=l.any gL
 | []=> by rw[Gc];rfl
 | k::l=> by rw[Gc,C0 l];rfl
theorem pO (x:Cond):gL x=(decide (x.op=4) || x.kids.any gL):=by cases x;rw[gL,C0]
abbrev nY (n:Nat):Spc:=cv (a1 Cond) (fun x=> cA x≤n) (enc (X:=Bool)) fun x y=> y=gL x
theorem w9 (n:Nat) (h0:S0 aQ=nY n) (h1:S aF=yH Cond S0):aN gI gG S (a1 Cond) (fun x=> cA x≤n+1) (enc (X:=Bool)) fun x y=> y=gL x:=by
 rintro x hd
 have hd:cA x≤n+1:=hd
 have hf:FunOn S0 (.clo aQ []) x.kids gL:=
  mR (f:=fun k=> k) h0 (fun k _=> by rw[SR,Cod.dec_enc]) (fun k hk=> by have:=HB hk;show cA k≤n;omega) (fun r _ y hy=> hy)
 have hsc:=pO x
 by_cases e:x.op=4
 ·simp[gI,gG,h1,hsc,e, -Bool.forall_bool, -Bool.exists_bool]
 ·simp[gI,gG,h1,hsc,e, -Bool.forall_bool, -Bool.exists_bool]
  exact⟨⟨_,hf⟩,fun y hy=> hy _ hf⟩
end Go.Gv

namespace Go.Gv
open Cod (enc dec)
section
variable {X Y:Type} [Cod X] [Cod Y]
variable {P:Program} {S:Nat→Spc} {f:Nat} {im:List Nat} {cc:CC} {rs:List au} {N:Nat} {el n:Nat}
end
section
variable {X Y Z:Type}
structure vd (X:Type) where
 ids:List Nat
 ce:X→List D
 hp:X→List (Nat×Res)
 keys: ∀x,(hp x).map (·.1)=ids
theorem BR: ∀ {l:List (Nat×Res)} {i:Nat} {s:Res},eT l df i=some s→(i,s) ∈l
 | [],i,s,h=> by simp[eT,df] at h
 | (j,r)::l,i,s,h=> by
  simp only[eT,aj] at h
  by_cases e:i=j
  ·subst e
   simp only[if_true] at h
   cases h
   simp
  ·simp only[e,if_false] at h
   exact List.mem_cons_of_mem _ (BR h)
theorem BS: ∀ {l:List (Nat×Res)} {H:aa} {i:Nat} {s:Res},i∈l.map (·.1)→eT l H i=some s→(i,s) ∈l
 | (j,r)::l,H,i,s,hi,h=> by
  simp only[eT,aj] at h
  by_cases e:i=j
  ·subst e
   simp only[if_true] at h
   cases h
   simp
  ·simp only[e,if_false] at h
   simp[e] at hi
   refine List.mem_cons_of_mem _ (BS (H:=H) ?_ h)
   simpa using hi
theorem BQ: ∀ {l:List (Nat×Res)} {H:aa} {i:Nat},i∉l.map (·.1)→eT l H i=H i
 | [],H,i,_=> rfl
 | (j,r)::l,H,i,hi=> by
  simp only[List.map_cons,List.mem_cons,not_or] at hi
  simp only[eT,aj,hi.1,if_false]
  exact BQ hi.2
def qdX (B:vd X) (A:gK Z) (er:Y→D) (pre:X→Z→Prop) (post:X→Z→X→Y→Prop):PT:=fun d ds H K=> ∃id b x z ds',ds= .bptr id b 0::ds'∧A.dec ds'=some z∧H id=some (.box b (B.ce x))∧(∀p∈B.hp x,H p.1=some p.2)∧id∉B.ids∧pre x z∧
 ∀x' y,post x z x' y→K (er y) (aj (eT (B.hp x') H) id (some (.box b (B.ce x'))))
theorem QF (B:vd X) (A:gK Z) (er:Y→D) (pre:X→Z→Prop) (post:X→Z→X→Y→Prop):sW (qdX B A er pre post):=fun d ds H K K' hk ⟨id,b,x,z,ds',h1,h2,h3,h4,h5,h6,h7⟩=> ⟨id,b,x,z,ds',h1,h2,h3,h4,h5,h6,fun x' y hp=> hk _ _ (h7 x' y hp)⟩
def qdY (B:vd X) (A:gK Z) (er:Y→D) (pre:X→Z→Prop) (post:X→Z→X→Y→Prop):Spc:= .gen _ (QF B A er pre post)
def yx (B:vd X) (er:Y→D) (b:Nat) (post:X→Y→Prop) (r:D) (H:aa):Prop:= ∃x y,FrzTo (fun i=> if i=0∨i∈B.ids then none else H i) r (er y)∧H 0=some (.box b (B.ce x))∧(∀p∈B.hp x,H p.1=some p.2)∧post x y
def ST (cc:CC) (rs:List au) (S:Nat→Spc) (B:vd X) (A:gK Z) (er:Y→D) (pre:X→Z→Prop) (post:X→Z→X→Y→Prop):Prop:=
 ∀b x z,pre x z→vc S cc (oJ rs fun r H'=> yx B er b (post x z) r H') (dC (.bptr 0 b 0::A.view z)) (aj (eT (B.hp x) df) 0 (some (.box b (B.ce x))))
variable {P:Program} {S:Nat→Spc} {f:Nat} {im:List Nat} {cc:CC} {rs:List au} {N:Nat}
theorem zK {B:vd X} {A:gK Z} {er:Y→D} {pre:X→Z→Prop} {post:X→Z→X→Y→Prop} (h1i:0∉B.ids) (hS: ∀f,Tri P f (S f).pt) (h:ay P f im cc rs N) (hN: ∀z,(A.view z).length+1≤N) (hw:ST cc rs S B A er pre post):Tri P f (qdY B A er pre post).pt:=by
 obtain⟨qn,enter,fn,code,h1,h2,h3,h4,h5⟩:=h
 refine mM hS qn h1 h2 enter h3 h4 h5 ?_
 rintro ds H d K ⟨id,b,x,z,ds',rfl,hd,hid,hhp,hni,hp,hK⟩
 have hl:=A.le ds' z hd
 have h0: ∀i r,aj (eT (B.hp x) df) 0 (some (.box b (B.ce x))) i=some r→i=0∧r= .box b (B.ce x)∨i≠0∧(i,r) ∈B.hp x:=by
  intro i r h
  by_cases e:i=0
  ·subst e
   simp only[aj,if_true] at h
   cases h
   exact .inl ⟨rfl,rfl⟩
  ·simp only[aj,e,if_false] at h
   exact .inr ⟨e,BR h⟩
 have hk: ∀ {x:X} {i:Nat} {r:Res},(i,r) ∈B.hp x→i∈B.ids:=by
  intro x i r h
  rw[←B.keys x]
  exact List.mem_map.2 ⟨_,h,rfl⟩
 refine⟨by simp only[List.length_cons];rw[hl.1];exact hN z, .bptr 0 b 0::A.view z,aj (eT (B.hp x) df) 0 (some (.box b (B.ce x))),fun i=> if i=0 then id else i, .cons (.bptr _ _ _ _) hl,fun i r h=> ?_,fun i j r s h h' e=> ?_,_,hw b x z hp,?_⟩
 ·rcases h0 i r h with⟨rfl,rfl⟩ | ⟨e,hm⟩
  ·exact hid
  ·simp only[e,if_false]
   exact hhp _ hm
 ·rcases h0 i r h with⟨rfl,rfl⟩ | ⟨e1,hm⟩
  ·rcases h0 j s h' with⟨rfl,rfl⟩ | ⟨e2,hm2⟩
   ·rfl
   ·simp only[e2,if_true,if_false] at e
    subst e
    exact absurd (hk hm2) hni
  ·rcases h0 j s h' with⟨rfl,rfl⟩ | ⟨e2,hm2⟩
   ·simp only[e1,if_true,if_false] at e
    subst e
    exact absurd (hk hm) hni
   ·simpa only[e1,e2,if_false] using e
 ·rintro r H' ⟨x',y,hfr,hj,hhp',hpost⟩
  refine⟨er y,fun i=> if i=0∨i∈B.ids then none else H' i,aj (eT (B.hp x') H) id (some (.box b (B.ce x'))),fun i=> if i=id then some 0 else if i∈B.ids then some i else none,hfr,fun j q h=> ?_,hK x' y hpost,fun i s hi=> ?_,fun i j' k s q hi hj' e1 e2=> ?_⟩
  ·by_cases e:j=0∨j∈B.ids
   ·simp[e] at h
   ·simp only[e,if_false] at h
    refine⟨h,fun i hh=> e ?_⟩
    by_cases e1:i=id
    ·simp only[e1,if_true] at hh
     cases hh
     exact .inl rfl
    ·simp only[e1,if_false] at hh
     by_cases e2:i∈B.ids
     ·simp only[e2,if_true] at hh
      cases hh
      exact .inr e2
     ·simp[e2] at hh
  ·by_cases e:i=id
   ·subst e
    simp only[aj,if_true] at hi
    cases hi
    simpa using hj
   ·simp only[aj,e,if_false] at hi ⊢
    by_cases e2:i∈B.ids
    ·simp only[e2,if_true]
     exact hhp' _ (BS (by rw[B.keys];exact e2) hi)
    ·simp only[e2,if_false]
     rw[BQ (by rw[B.keys];exact e2)] at hi
     refine⟨hi,fun k q h he=> ?_⟩
     rcases h0 k q h with⟨rfl,rfl⟩ | ⟨e3,hm⟩
     ·simp only[if_true] at he
      exact e he.symm
     ·simp only[e3,if_false] at he
      subst he
      exact e2 (hk hm)
  ·by_cases c1:i=id
   ·by_cases c2:j'=id
    ·exact c1.trans c2.symm
    ·simp only[c1,if_true] at e1
     cases e1
     simp only[c2,if_false] at e2
     by_cases c3:j'∈B.ids
     ·simp only[c3,if_true] at e2
      cases e2
      exact absurd c3 h1i
     ·simp[c3] at e2
   ·simp only[c1,if_false] at e1
    by_cases c3:i∈B.ids
    ·simp only[c3,if_true] at e1
     cases e1
     by_cases c2:j'=id
     ·simp only[c2,if_true] at e2
      cases e2
      exact absurd c3 h1i
     ·simp only[c2,if_false] at e2
      by_cases c4:j'∈B.ids
      ·simp only[c4,if_true] at e2
       cases e2
       rfl
      ·simp[c4] at e2
    ·simp[c3] at e1
def LQ {X:Type} (ce:X→List D):vd X:=⟨[],ce,fun _=> [],fun _=> rfl⟩
end
end Go.Gv

namespace Go.Gv
open Cod (enc dec)
@[simp] theorem qde (s:Rp):Rp.mk s.s s.pos s.fault s.e=s:=by cases s;rfl
def mc (s:Rp):List D:= [enc s.s,enc s.pos,enc s.fault,enc s.e]
@[simp] theorem Yw (s:Rp):mc s= [enc s.s,enc s.pos,enc s.fault,enc s.e]:=id rfl
section
variable {Y Z:Type}
def RP:vd Rp:=LQ mc
def Zz (A:gK Z) (er:Y→D) (pre:Rp→Z→Prop) (post:Rp→Z→Rp→Y→Prop):Spc:=qdY RP A er pre post
def qey (er:Y→D) (pre:Rp→Z→Prop) (post:Rp→Z→Rp→Y→Prop) (id b:Nat) (r:Option Res) (o:Option Z) (H:aa) (K:D→aa→Prop):Prop:=
 ∃x,r=some (.box b (mc x))∧iN o fun z=> pre x z∧ ∀x' y,post x z x' y→K (er y) (aj H id (some (.box b (mc x'))))
theorem Oo {x y:Rp} (h:mc x=mc y):x=y:=by
 obtain⟨l,a,d,e⟩:=x
 obtain⟨l',a',d',e'⟩:=y
 simp only[mc,List.cons.injEq] at h
 obtain⟨h1,h2,h3,h4,_⟩:=h
 have h1:=bU h1
 have h2:=bU h2
 have h3:=bU h3
 have h4:=bU h4
 subst h1;subst h2;subst h3;subst h4
 rfl
@[simp] theorem RO (A:gK Z) (er:Y→D) (pre:Rp→Z→Prop) (post:Rp→Z→Rp→Y→Prop) (d i b:Nat) (ds:List D) (H:aa) (K:D→aa→Prop): (Zz A er pre post).pt d (.bptr i b 0::ds) H K=qey er pre post i b (H i) (A.dec ds) H K:=by
 refine propext ⟨fun h=> ?_,fun h=> ?_⟩
 ·obtain⟨id,b',x,z,ds',h1,h2,h3,h4,h5,h6,h7⟩:=h
  cases h1
  refine⟨x,h3,?_⟩
  rw[h2]
  exact⟨h6,h7⟩
 ·obtain⟨x,h1,h2⟩:=h
  cases hz:A.dec ds with
  | none=> rw[hz] at h2;exact h2.elim
  | some z=> rw[hz] at h2;exact⟨i,b,x,z,ds,rfl,hz,h1,fun p hp=> by simp[RP,LQ] at hp,by simp[RP,LQ],h2.1,h2.2⟩
def wS (er:Y→D) (b:Nat) (post:Rp→Y→Prop) (r:D) (H:aa):Prop:=yx RP er b post r H
theorem wB {er:Y→D} {b:Nat} {post:Rp→Y→Prop} {r:D} {H:aa} (x:Rp) (y:Y) (hr:FrzTo (fun i=> if i=0 then none else H i) r (er y)) (h0:H 0=some (.box b (mc x))) (hq:post x y):wS er b post r H:=
 ⟨x,y,by simpa [RP,LQ] using hr,h0,fun p hp=> by simp[RP,LQ] at hp,hq⟩
def nL (cc:CC) (rs:List au) (S:Nat→Spc) (A:gK Z) (er:Y→D) (pre:Rp→Z→Prop) (post:Rp→Z→Rp→Y→Prop):Prop:=
 ∀b x z,pre x z→vc S cc (oJ rs fun r H'=> wS er b (post x z) r H') (dC (.bptr 0 b 0::A.view z)) (aj df 0 (some (.box b (mc x))))
variable {P:Program} {S:Nat→Spc} {f:Nat} {im:List Nat} {cc:CC} {rs:List au} {N:Nat}
theorem H7 {A:gK Z} {er:Y→D} {pre:Rp→Z→Prop} {post:Rp→Z→Rp→Y→Prop} (hS: ∀f,Tri P f (S f).pt) (h:ay P f im cc rs N) (hN: ∀z,(A.view z).length+1≤N) (hw:nL cc rs S A er pre post):Tri P f (Zz A er pre post).pt:=
 zK (by simp[RP,LQ]) hS h hN fun b x z hp=> hw b x z hp
end
section
variable {Y Z:Type}
def LX (A:gK Z) (er:Y→D) (F:Rp→Z→Option (Rp×Y)):Spc:=Zz A er (fun s z=> ∃r,F s z=some r) (fun s z s' y=> F s z=some (s',y))
def ML (er:Y→D) (F:Rp→Z→Option (Rp×Y)) (id b:Nat) (r:Option Res) (o:Option Z) (H:aa) (K:D→aa→Prop):Prop:=
 ∃x,r=some (.box b (mc x))∧iN o fun z=> iN (F x z) fun q=> K (er q.2) (aj H id (some (.box b (mc q.1))))
@[congr] theorem WW {er:Y→D} {F:Rp→Z→Option (Rp×Y)} {id b:Nat} {r r':Option Res} {o o':Option Z} {H:aa} {K:D→aa→Prop} (h1:r=r') (h2:o=o'):ML er F id b r o H K=ML er F id b r' o' H K:=by subst h1;subst h2;rfl
theorem RV {F:Option (Rp×Y)} {k:Rp→Y→Prop} : ((∃r,F=some r)∧ ∀x' y,F=some (x',y)→k x' y)=iN F fun q=> k q.1 q.2:=by
 cases F with
 | none=>
   refine propext (Iff.intro (fun h=> ?_) (fun h=> ?_))
   ·obtain⟨⟨r,h⟩,_⟩:=h
    cases h
   ·exact False.elim h
 | some r=>
   refine propext (Iff.intro (fun h=> h.2 _ _ rfl) (fun h=> ⟨⟨_,rfl⟩,fun x' y e=> ?_⟩))
   cases e
   exact h
@[simp] theorem Zx (A:gK Z) (er:Y→D) (F:Rp→Z→Option (Rp×Y)) (d i b:Nat) (ds:List D) (H:aa) (K:D→aa→Prop): (LX A er F).pt d (.bptr i b 0::ds) H K=ML er F i b (H i) (A.dec ds) H K:=by
 unfold LX ML
 rw[RO]
 unfold qey
 refine propext (exists_congr fun x=> and_congr_right fun _=> ?_)
 cases A.dec ds with
 | none=> exact Iff.rfl
 | some z=> exact iff_of_eq RV
@[simp] theorem Zy (er:Y→D) (F:Rp→Z→Option (Rp×Y)) (id b:Nat) (l:B) (p dp e:Int) (o:Option Z) (H:aa) (K:D→aa→Prop):
 ML er F id b (some (.box b [.v (.string l), .v (.int .i64 p), .v (.int .i64 dp), .v (.int .i64 e)])) o H K=iN o fun z=> iN (F ⟨l,p,dp,e⟩ z) fun q=> K (er q.2) (aj H id (some (.box b (mc q.1)))):=by
 refine propext ⟨fun⟨x,h1,h2⟩=> ?_,fun h=> ⟨⟨l,p,dp,e⟩,rfl,h⟩⟩
 have e1:mc ⟨l,p,dp,e⟩=mc x:=by
  have:=Option.some.inj h1
  exact(Res.box.inj this).2
 have:=Oo e1
 subst this
 exact h2
variable {P:Program} {S:Nat→Spc} {f:Nat} {im:List Nat} {cc:CC} {rs:List au} {N:Nat}
theorem eB {A:gK Z} {er:Y→D} {F:Rp→Z→Option (Rp×Y)} (hS: ∀f,Tri P f (S f).pt) (h:ay P f im cc rs N) (hN: ∀z,(A.view z).length+1≤N)
 (hw:nL cc rs S A er (fun s z=> ∃r,F s z=some r) (fun s z s' y=> F s z=some (s',y))):Tri P f (LX A er F).pt:=H7 hS h hN hw
end
end Go.Gv
