/- A part of the framework and of the walks: W152 W153 W154 W155 T22 T31. -/
import Derived.Test.YticbieanhfdnoaaGreatDoorGa26
import Derived.Test.YticbieanhfdnoaaGreatDoorGa24
import Derived.Test.YticbieanhfdnoaaGreatDoorGa20
set_option linter.unusedSimpArgs false
set_option linter.unusedVariables false
set_option maxRecDepth 100000
set_option linter.unusedSectionVars false

namespace Go.Gv
open Cod (enc dec)
variable {S S0:Nat→Spc}
theorem D2 {X:Type} (p:X→Bool): ∀l:List X, -1≤jS l p∧jS l p < l.length
 | []=> ⟨Int.le_refl _,by simp[jS]⟩
 | x::l=> by
   have:=D2 p l
   rw[jS,List.length_cons]
   split
   ·omega
   ·split <;> omega
open Classical in
noncomputable def aX {Z:Type} (v:Z→List D) (hi: ∀z z',v z=v z'→z=z'):gj Z:=⟨fun ds=> if h: ∃z,ds=v z then some h.choose else none,v,fun ds z h=> by
 split at h
 ·rename_i h'
  have e:h'.choose=z:=Option.some.inj h
  rw[←e,←h'.choose_spec]
  exact⟨rfl,fun k d d' h1 h2=> by rw[h1] at h2;cases h2;exact .same _⟩
 ·cases h⟩
open Classical in
theorem tB {Z:Type} (v:Z→List D) (hi: ∀z z',v z=v z'→z=z') (z:Z): (aX v hi).dec (v z)=some z:=by
 have h: ∃z',v z=v z':=⟨z,rfl⟩
 show(if h: ∃z',v z=v z' then some h.choose else none)=some z
 rw[dif_pos h]
 exact congrArg some (hi _ _ h.choose_spec).symm
theorem rF {Z:Type} (v:Z→List D) (hi: ∀z z',v z=v z'→z=z') (z:Z): (aX v hi).view z=v z:=rfl
def HB (x:Attr×B):List D:= [enc x.1, .cptr [enc x.2] 0]
theorem Dh (z z':Attr×B) (h:HB z=HB z'):z=z':=by
 obtain⟨a,s⟩:=z
 obtain⟨a',s'⟩:=z'
 unfold HB at h
 simp only[List.cons.injEq,D.cptr.injEq,and_true] at h
 rw[ci h.1,ci h.2]
noncomputable abbrev Rd:gj (Attr×B):=aX HB Dh
noncomputable abbrev vH:Spc:=cF Rd (fun _=> True) (enc (X:=Bool)) fun x y=> y=decide (x.1.nm=x.2)
theorem nA:aO eJ eF S Rd (fun _=> True) (enc (X:=Bool)) fun x y=> y=decide (x.1.nm=x.2):=by
 rintro⟨a,s⟩ -
 rw[rF]
 simp[HB,eJ,eF, -Bool.forall_bool, -Bool.exists_bool]
abbrev lI:Spc:=cF (a2 (List Attr) B) (fun _=> True) (enc (X:=Int)) fun x y=> y=jV x.1 x.2
theorem pF (h0:S0 aS=vH) (h1:S bI=uj Attr S0):aO fK fu S (a2 (List Attr) B) (fun _=> True) (enc (X:=Int)) fun x y=> y=jV x.1 x.2:=by
 rintro⟨a,s⟩ -
 have hf:FunOn S0 (.clo aS [.cptr [enc s] 0]) a fun x=> decide (x.nm=s):=
  lQ (f:=fun x=> (x,s)) h0 (fun x _=> tB HB Dh (x,s)) (fun _ _=> trivial) (fun x _ y hy=> hy)
 simp[fK,fu,h1, -Bool.forall_bool, -Bool.exists_bool]
 exact⟨⟨_,hf⟩,fun y hy=> hy _ hf⟩
abbrev qq:Spc:=cF (a2 (List Attr) B) (fun x=> x.1.length≤1000) (enc (X:=Int)) fun x y=> y=tm x.1 x.2
theorem tO (h1:S ap=lI):aO fJ ft S (a2 (List Attr) B) (fun x=> x.1.length≤1000) (enc (X:=Int)) fun x y=> y=tm x.1 x.2:=by
 rintro⟨a,s⟩ hl
 have hl:a.length≤1000:=hl
 have hin:InR .i64 ((a.length:Int) -1):=by simp only[InR];omega
 have hl': (a.length:Int)≤9223372036854775807:=by omega
 by_cases hs:s=ga
 ·subst hs
  simp[fJ,ft,ga,tm,hin,hl', -Bool.forall_bool, -Bool.exists_bool]
 ·have hs': ¬s=⟨#[]⟩:=hs
  simp[fJ,ft,ga,tm,h1,hs', -Bool.forall_bool, -Bool.exists_bool]
def pG (t:List (List B)) (i k:Int):B:=if i < 0∨k < 0 then ga else match t[i.toNat]? with
 | some r=> (match r[k.toNat]? with | some s=> s | none=> ga)
 | none=> ga
abbrev yr:Spc:=cF (a3 Corpus Int Int) (fun x=> x.1.toks.length≤100000∧ ∀r∈x.1.toks,r.length≤100000) (enc (X:=B)) fun x y=> y=pG x.1.toks x.2.1 x.2.2
theorem tQ:aO bZ bV S (a3 Corpus Int Int) (fun x=> x.1.toks.length≤100000∧ ∀r∈x.1.toks,r.length≤100000) (enc (X:=B)) fun x y=> y=pG x.1.toks x.2.1 x.2.2:=by
 rintro⟨c,i,k⟩ ⟨hl,hr⟩
 simp only at hl hr
 have hl': (c.toks.length:Int)≤9223372036854775807:=by omega
 by_cases h0:i < 0
 ·simp[bZ,bV,h0,pG, -Bool.forall_bool, -Bool.exists_bool]
  rfl
 by_cases h1: (c.toks.length:Int)≤i
 ·have hn:c.toks[i.toNat]?=none:=List.getElem?_eq_none (by omega)
  by_cases h2:k < 0
  ·simp[bZ,bV,h0,h1,h2,hl',pG, -Bool.forall_bool, -Bool.exists_bool]
   rfl
  ·simp[bZ,bV,h0,h1,h2,hl',hn,pG, -Bool.forall_bool, -Bool.exists_bool]
   rfl
 by_cases h2:k < 0
 ·simp[bZ,bV,h0,h1,h2,hl',pG, -Bool.forall_bool, -Bool.exists_bool]
  rfl
 obtain⟨r,hri⟩:=kj (show i.toNat < c.toks.length by omega)
 obtain⟨_,hgr⟩:=List.getElem?_eq_some_iff.1 hri
 have hrl:=hr r (List.mem_of_getElem? hri)
 have hrl': (r.length:Int)≤9223372036854775807:=by omega
 have i0:0≤i:=by omega
 have i1:i < (c.toks.length:Int):=by omega
 have k0:0≤k:=by omega
 by_cases h3: (r.length:Int)≤k
 ·have hn:r[k.toNat]?=none:=List.getElem?_eq_none (by omega)
  simp[bZ,bV,h0,h1,h2,h3,hl',hrl',hn,hri,hgr,i0,i1,pG, -Bool.forall_bool, -Bool.exists_bool]
  rfl
 obtain⟨s,hsk⟩:=kj (show k.toNat < r.length by omega)
 obtain⟨_,hgs⟩:=List.getElem?_eq_some_iff.1 hsk
 have k1:k < (r.length:Int):=by omega
 simp[bZ,bV,h0,h1,h2,h3,hl',hrl',hri,hgr,hsk,hgs,i0,i1,k0,k1,pG, -Bool.forall_bool, -Bool.exists_bool]
end Go.Gv

namespace Go.Gv
open Cod (enc dec)
variable {S S0:Nat→Spc}
abbrev BJ:Spc:=cF (a1 B) (fun s=> vQ s=true) (enc (X:=Bool)) fun _ y=> y=true
abbrev qo:Spc:=cF (a1 B) (fun s=> qI s=true) (enc (X:=Int)) fun _ y=> y=0
abbrev s_sConB:Spc:=cF (a2 B B) (fun x=> x.2=⟨#[124]⟩∧qI x.1=true) (enc (X:=Bool)) fun x y=> y=Mz x.1
abbrev DE:Spc:=cF (a1 B) (fun s=> ∃r,li s=some r) (enc (X:=Int)) fun _ y=> y=0
def uT (l:List B) (s:B):Bool:=l.any fun z=> decide (z=s)
abbrev FK:Spc:=cF (a2 (List B) B) (fun _=> True) (enc (X:=Bool)) fun x y=> y=uT x.1 x.2
abbrev yh:Spc:=cF (a2 (List B) B) (fun _=> True) (enc (X:=Int)) fun x y=> y=jS x.1 fun z=> decide (z=x.2)
theorem xL:aO fC fh S (a2 (List B) B) (fun _=> True) (enc (X:=Int)) fun x y=> y=jS x.1 fun z=> decide (z=x.2):=by
 rintro⟨l,s⟩ -
 simp[fC,fh, -Bool.forall_bool, -Bool.exists_bool]
 intro _
 refine aq (X:=Unit) [0,1] [] l.length (fun k _=> ∀x∈l.take k,decide (x=s)=false) (fun _=> []) (fun _=> []) () (by simp) (by simp) (by omega) (by simp) (by simp) (by simp) (by simp) (by simp) ?_ ?_
 ·intro k _ hk hP
  obtain⟨x,hx⟩:=kj hk
  obtain⟨_,hgx⟩:=List.getElem?_eq_some_iff.1 hx
  simp[hk,hx,hgx, -Bool.forall_bool, -Bool.exists_bool]
  refine⟨fun h=> ?_,fun h=> ?_⟩
  ·exact(o8 hx (by simp[h]) hP).symm
  ·rw[ed hx]
   intro z hz
   rcases List.mem_append.1 hz with hz | hz
   ·have:=hP z hz
    simpa using this
   ·simp at hz;subst hz
    exact fun e=> h e.symm
 ·intro _ hP
  simp[-Bool.forall_bool, -Bool.exists_bool]
  exact(j7 (by simpa using hP)).symm
theorem tS (h1:S br=yh):aO d8 dZ S (a2 (List B) B) (fun _=> True) (enc (X:=Bool)) fun x y=> y=uT x.1 x.2:=by
 rintro⟨l,s⟩ -
 simp[d8,dZ,h1, -Bool.forall_bool, -Bool.exists_bool]
 exact uR _ l
abbrev ym:Spc:=cF (a2 Cond (List Attr)) (fun x=> OY x.2 x.1=true∧x.2.length≤1000) (enc (X:=Bool)) fun _ y=> y=true
theorem tL (h1:S cx=qq) (h2:S ap=lI) (h3:S cZ=BJ):aO bY bU S (a2 Cond (List Attr)) (fun x=> OY x.2 x.1=true∧x.2.length≤1000) (enc (X:=Bool)) fun _ y=> y=true:=by
 rintro⟨⟨op,name,arg,val,lab,fold,ks⟩,a⟩ ⟨hx,hl⟩
 have hx:OY a ⟨op,name,arg,val,lab,fold,ks⟩=true:=hx
 have hl:a.length≤1000:=hl
 unfold OY at hx
 simp only at hx
 split at hx
 ·rename_i e;subst e;simp at hx
  simp[bY,bU,h1,hl,hx, -Bool.forall_bool, -Bool.exists_bool]
 rename_i e2
 split at hx
 ·rename_i e;subst e;simp at hx
  simp[bY,bU,h2,hx, -Bool.forall_bool, -Bool.exists_bool]
 rename_i e3
 split at hx
 ·rename_i e;subst e;simp at hx
  simp[bY,bU,h2,hx.1,hx.2, -Bool.forall_bool, -Bool.exists_bool]
 rename_i e4
 split at hx
 ·rename_i e;subst e;simp at hx
  obtain⟨hn,ha⟩:=hx
  by_cases hae:arg=ga
  ·subst hae
   simp[bY,bU,h3,hn,ga, -Bool.forall_bool, -Bool.exists_bool]
  ·have ha':=ha.resolve_left hae
   have hae': ¬arg=⟨#[]⟩:=hae
   simp[bY,bU,h3,hn,ha',hae', -Bool.forall_bool, -Bool.exists_bool]
 rename_i e5
 simp[bY,bU,e2,e3,e4,e5, -Bool.forall_bool, -Bool.exists_bool]
abbrev yq:Spc:=cF (a3 Cond (List Attr) (List B)) (fun x=> FW x.2.1 x.2.2 x.1=true∧x.2.1.length≤1000) (enc (X:=Int)) fun _ y=> y=0
theorem tP (h1:S et=vG) (h2:S eu=ym) (h3:S iA=DE) (h4:S ap=lI) (h5:S fy=s_sConB) (h6:S aL=qo) (h7:S cD=FK):
 aO cH cG S (a3 Cond (List Attr) (List B)) (fun x=> FW x.2.1 x.2.2 x.1=true∧x.2.1.length≤1000) (enc (X:=Int)) fun _ y=> y=0:=by
 rintro⟨x,a,lb⟩ ⟨hx,hl⟩
 have hx:FW a lb x=true:=hx
 have hl:a.length≤1000:=hl
 unfold FW at hx
 simp only[Bool.and_eq_true] at hx
 obtain⟨⟨hs,hn⟩,hc⟩:=hx
 obtain⟨op,name,arg,val,lab,fold,ks⟩:=x
 unfold qbM at hc
 simp only at hc
 have e: (Cond.mk op name arg val lab fold ks)=⟨op,name,arg,val,lab,fold,ks⟩:=rfl
 split at hc
 ·rename_i e;subst e
  obtain⟨r,hr⟩:=Option.isSome_iff_exists.1 hc
  simp[cH,cG,h1,h2,h3,hs,hn,hl,hr, -Bool.forall_bool, -Bool.exists_bool]
 rename_i e2
 split at hc
 ·rename_i e;subst e
  simp only[Bool.and_eq_true] at hc
  obtain⟨⟨⟨c1,c2⟩,c3⟩,c4⟩:=hc
  have hn':0≤jV a name:=by simpa [OY] using hn
  have hrg:=(D2 (fun x:Attr=> decide (x.nm=name)) a).2
  have hlt:jV a name < a.length:=hrg
  obtain⟨b,hb⟩:=kj (show(jV a name).toNat < a.length by omega)
  obtain⟨_,hgb⟩:=List.getElem?_eq_some_iff.1 hb
  rw[hb] at c1
  have c1:b.st=true:=c1
  have c2: ¬val=⟨#[]⟩:=of_decide_eq_true c2
  have c3:Mz val=false:=by simpa using c3
  simp[cH,cG,h1,h2,h4,h5,h6,hs,hn,hl,hn',hlt,hb,hgb,c1,c2,c3,c4, -Bool.forall_bool, -Bool.exists_bool]
 rename_i e3
 split at hc
 ·rename_i e;subst e
  have hc:uT lb lab=true:=hc
  simp[cH,cG,h1,h2,h7,hs,hn,hl,hc, -Bool.forall_bool, -Bool.exists_bool]
 rename_i e4
 split at hc
 ·rename_i e;subst e
  simp[cH,cG,h1,h2,h6,hs,hn,hl,hc, -Bool.forall_bool, -Bool.exists_bool]
 rename_i e5
 simp[cH,cG,h1,h2,hs,hn,hl,e2,e3,e4,e5, -Bool.forall_bool, -Bool.exists_bool]
end Go.Gv

namespace Go.Gv
open Cod (enc dec)
variable {S S0:Nat→Spc}
def MM (x:Cond×List Attr×List B):List D:= [enc x.1, .cptr [enc x.2.1] 0, .cptr [enc x.2.2] 0]
theorem GD (z z':Cond×List Attr×List B) (h:MM z=MM z'):z=z':=by
 obtain⟨a,s,l⟩:=z
 obtain⟨a',s',l'⟩:=z'
 unfold MM at h
 simp only[List.cons.injEq,D.cptr.injEq,and_true] at h
 rw[ci h.1,ci h.2.1,ci h.2.2]
noncomputable abbrev aVd:gj (Cond×List Attr×List B):=aX MM GD
@[simp] theorem RC (x:Cond) (a:List Attr) (lb:List B):aVd.dec [.agg [.v (.int .i64 x.op), .v (.string x.name), .v (.string x.arg), .v (.string x.val), .v (.string x.lab), .v (.bool x.fold), .list 7 (x.kids.map enc)], .cptr [.list 2 (a.map enc)] 0, .cptr [.list 1 (lb.map enc)] 0]=some (x,a,lb):=by
 have h:=tB MM GD (x,a,lb)
 have e:MM (x,a,lb)= [.agg [.v (.int .i64 x.op), .v (.string x.name), .v (.string x.arg), .v (.string x.val), .v (.string x.lab), .v (.bool x.fold), .list 7 (x.kids.map enc)], .cptr [.list 2 (a.map enc)] 0, .cptr [.list 1 (lb.map enc)] 0]:=by simp[MM]
 rw[←e]
 exact h
noncomputable abbrev BO:Spc:=cF aVd (fun x=> FW x.2.1 x.2.2 x.1=true∧x.2.1.length≤1000) (enc (X:=Int)) fun _ y=> y=0
theorem nX (h1:S ez=yq):aO fa eQ S aVd (fun x=> FW x.2.1 x.2.2 x.1=true∧x.2.1.length≤1000) (enc (X:=Int)) fun _ y=> y=0:=by
 rintro⟨x,a,lb⟩ ⟨hx,hl⟩
 simp only at hx hl
 rw[rF]
 simp[MM,fa,eQ,h1,hx,hl, -Bool.forall_bool, -Bool.exists_bool]
def Rf (n:Nat) (x:Cond×D×Unit):Prop:= ∃ (a:List Attr) (lb:List B),x.2.1= .clo bk [.cptr [enc a] 0, .cptr [enc lb] 0]∧GM a lb n x.1=true∧a.length≤1000∧kD x.1≤60
noncomputable abbrev yk (n:Nat):Spc:=cF (aE Cond (aD a0)) (Rf n) (enc (X:=Int)) fun x y=> y=0
noncomputable abbrev yj:Spc:=cF (aE Cond (aD a0)) (fun x=> ∃n,Rf n x) (enc (X:=Int)) fun x y=> y=0
theorem tK (n:Nat) (h1:S bk=BO) (h2:S cg=yk n):aO jO jp S (aE Cond (aD a0)) (Rf (n+1)) (enc (X:=Int)) fun x y=> y=0:=by
 rintro⟨x,d,⟨⟩⟩ ⟨a,lb,hd,hx,hl,hn⟩
 simp only at hd hx hn
 subst hd
 simp only[GM,Bool.and_eq_true] at hx
 obtain⟨hx1,hx2⟩:=hx
 simp[jO,jp,h1,hx1,hl, -Bool.forall_bool, -Bool.exists_bool]
 intro hkl
 refine aq (X:=Unit) [1,16] [] x.kids.length (fun k _=> True) (fun _=> []) (fun _=> []) () (by simp) (by simp) (by omega) (by simp) (by simp) (by simp) (by simp) (by simp) ?_ ?_
 ·rintro k -hk -
  obtain⟨y,hy⟩:=kj hk
  obtain⟨_,hgy⟩:=List.getElem?_eq_some_iff.1 hy
  have hm:=List.mem_of_getElem? hy
  have hny:=vR hm
  have hnx:=rB x
  have hp:Rf n (y, .clo bk [.cptr [.list 2 (a.map enc)] 0, .cptr [.list 1 (lb.map enc)] 0],()):=⟨a,lb,rfl,List.all_eq_true.1 hx2 y hm,hl,by show kD y≤60;omega⟩
  simp[h2,hk,hy,hgy,hp, -Bool.forall_bool, -Bool.exists_bool]
 ·rintro - -
  simp[-Bool.forall_bool, -Bool.exists_bool]
abbrev K9 (x:Cond×List Attr×List B):Prop:=LS x.2.1 x.2.2 x.1=true∧x.2.1.length≤1000
abbrev yt:Spc:=cF (a3 Cond (List Attr) (List B)) K9 (enc (X:=Int)) fun _ y=> y=0
theorem qh (h1:S aM=qp) (h2:S cg=yj):aO f7 fX S (a3 Cond (List Attr) (List B)) K9 (enc (X:=Int)) fun _ y=> y=0:=by
 rintro⟨x,a,lb⟩ ⟨hx,hl⟩
 simp only at hx hl
 unfold LS at hx
 simp at hx
 obtain⟨⟨hn,hd⟩,ha⟩:=hx
 have hp: ∃n,Pp n (x,0,1):=⟨fL x,Nat.le_refl _,Int.le_refl _,by show(0:Int) +kD x≤60;omega,by show(0:Int)≤1;omega,by show(1:Int) +fL x≤1000;omega,by show fL x≤60;omega⟩
 have hw: ∃n,Rf n (x, .clo bk [.cptr [.list 2 (a.map enc)] 0, .cptr [.list 1 (lb.map enc)] 0],()):=⟨20,a,lb,rfl,ha,hl,hn⟩
 have q1: ¬ (60:Int) < (kD x:Int):=by omega
 have q2: ¬ (20:Int) < 1+ (fL x:Int) -1:=by omega
 simp[f7,fX,h1,h2,hp,hw,q1,q2, -Bool.forall_bool, -Bool.exists_bool]
end Go.Gv

namespace Go.Gv
open Cod (enc dec)
variable {S S0:Nat→Spc}
def J7 (l:List Pair) (s:Pair):Bool:=l.any fun z=> decide (z=s)
abbrev BK:Spc:=cF (a2 (List Pair) Pair) (fun _=> True) (enc (X:=Int)) fun x y=> y=jS x.1 fun z=> decide (z=x.2)
abbrev BM:Spc:=cF (a2 (List Pair) Pair) (fun _=> True) (enc (X:=Bool)) fun x y=> y=J7 x.1 x.2
theorem Bv:aO gG gk S (a2 (List Pair) Pair) (fun _=> True) (enc (X:=Int)) fun x y=> y=jS x.1 fun z=> decide (z=x.2):=by
 rintro⟨l,s⟩ -
 simp[gG,gk, -Bool.forall_bool, -Bool.exists_bool]
 intro _
 refine aq (X:=Unit) [0,3] [] l.length (fun k _=> ∀x∈l.take k,decide (x=s)=false) (fun _=> []) (fun _=> []) () (by simp) (by simp) (by omega) (by simp) (by simp) (by simp) (by simp) (by simp) ?_ ?_
 ·intro k _ hk hP
  obtain⟨x,hx⟩:=kj hk
  obtain⟨_,hgx⟩:=List.getElem?_eq_some_iff.1 hx
  simp[hk,hx,hgx, -Bool.forall_bool, -Bool.exists_bool]
  have hpe:s.nm=x.nm→s.vl=x.vl→x=s:=fun h1 h2=> by
   obtain⟨a,b⟩:=x
   obtain⟨a',b'⟩:=s
   simp only at h1 h2
   rw[h1,h2]
  refine⟨fun h1 h2=> (o8 hx (by simp[hpe h1 h2]) hP).symm,fun h=> ?_⟩
  rw[ed hx]
  intro z hz
  rcases List.mem_append.1 hz with hz | hz
  ·have:=hP z hz
   simpa using this
  ·simp at hz;subst hz
   intro e
   subst e
   exact h rfl rfl
 ·intro _ hP
  simp[-Bool.forall_bool, -Bool.exists_bool]
  exact(j7 (by simpa using hP)).symm
theorem wN (h1:S dA=BK):aO e9 eP S (a2 (List Pair) Pair) (fun _=> True) (enc (X:=Bool)) fun x y=> y=J7 x.1 x.2:=by
 rintro⟨l,s⟩ -
 simp[e9,eP,h1, -Bool.forall_bool, -Bool.exists_bool]
 exact uR _ l
def yz (x:Cond) (tok:Int) (r:Region):Bool:=decide (r.ty=x.name) && decide (r.b≤tok) && decide (tok < r.e) && (decide (x.arg=ga) || J7 r.kv ⟨x.arg,x.val⟩)
def IF (x:Cond):List D:= [.v (.int .i64 x.op), .v (.string x.name), .v (.string x.arg), .v (.string x.val), .v (.string x.lab), .v (.bool x.fold), .list 7 (x.kids.map enc)]
theorem He (x:Cond): .agg (IF x)=enc x:=by simp[IF]
theorem Ms {x y:Cond} (h:IF x=IF y):x=y:=ci (by rw[←He,←He,h])
def Lh (x:Region×Cond×Int):List D:= [enc x.1, .cptr (IF x.2.1) 0, .cptr [enc x.2.2] 0]
theorem GE (z z':Region×Cond×Int) (h:Lh z=Lh z'):z=z':=by
 obtain⟨a,s,l⟩:=z
 obtain⟨a',s',l'⟩:=z'
 unfold Lh at h
 simp only[List.cons.injEq,D.cptr.injEq,and_true] at h
 rw[ci h.1,Ms h.2.1,ci h.2.2]
noncomputable abbrev qbW:gj (Region×Cond×Int):=aX Lh GE
noncomputable abbrev mP:Spc:=cF qbW (fun _=> True) (enc (X:=Bool)) fun x y=> y=yz x.2.1 x.2.2 x.1
theorem qf (h1:S cN=BM):aO bP bN S qbW (fun _=> True) (enc (X:=Bool)) fun x y=> y=yz x.2.1 x.2.2 x.1:=by
 rintro⟨r,x,tok⟩ -
 rw[rF]
 by_cases e1:r.ty=x.name
 rotate_left
 ·simp[Lh,IF,bP,bN,yz,e1, -Bool.forall_bool, -Bool.exists_bool]
 by_cases e2:r.b≤tok
 rotate_left
 ·simp[Lh,IF,bP,bN,yz,e1,e2, -Bool.forall_bool, -Bool.exists_bool]
 by_cases e3:tok < r.e
 rotate_left
 ·simp[Lh,IF,bP,bN,yz,e1,e2,e3, -Bool.forall_bool, -Bool.exists_bool]
 by_cases e4:x.arg=ga
 ·have e4':x.arg=⟨#[]⟩:=e4
  simp[Lh,IF,bP,bN,yz,e1,e2,e3,e4,e4',ga, -Bool.forall_bool, -Bool.exists_bool]
 ·have e4': ¬x.arg=⟨#[]⟩:=e4
  simp[Lh,IF,bP,bN,yz,h1,e1,e2,e3,e4,e4', -Bool.forall_bool, -Bool.exists_bool]
abbrev FJ:Spc:=cF (a3 Corpus Cond Int) (fun _=> True) (enc (X:=Bool)) fun x y=> y=x.1.regs.any (yz x.2.1 x.2.2)
theorem sq (h0:S0 aR=mP) (h1:S bJ=wT Region S0):aO ij gY S (a3 Corpus Cond Int) (fun _=> True) (enc (X:=Bool)) fun x y=> y=x.1.regs.any (yz x.2.1 x.2.2):=by
 rintro⟨c,x,tok⟩ -
 have hf:FunOn S0 (.clo aR [.cptr (IF x) 0, .cptr [enc tok] 0]) c.regs (yz x tok):=
  lQ (f:=fun r=> (r,x,tok)) h0 (fun r _=> tB Lh GE (r,x,tok)) (fun _ _=> trivial) (fun r _ y hy=> hy)
 unfold IF at hf
 simp[ij,gY,h1, -Bool.forall_bool, -Bool.exists_bool]
 exact⟨⟨_,hf⟩,fun y hy=> hy _ hf⟩
mutual
def ug:Cond→Bool | .mk op _ _ _ _ _ ks=> decide (op=4) || Dz ks
def Dz:List Cond→Bool | []=> false | k::ks=> ug k || Dz ks
end
theorem AI: ∀l:List Cond,Dz l=l.any ug
 | []=> by rw[Dz];rfl
 | k::l=> by rw[Dz,AI l];rfl
theorem LK (x:Cond):ug x=(decide (x.op=4) || x.kids.any ug):=by cases x;rw[ug,AI]
abbrev mO (n:Nat):Spc:=cF (a1 Cond) (fun x=> fL x≤n) (enc (X:=Bool)) fun x y=> y=ug x
theorem vv (n:Nat) (h0:S0 aK=mO n) (h1:S aB=wT Cond S0):aO gg gc S (a1 Cond) (fun x=> fL x≤n+1) (enc (X:=Bool)) fun x y=> y=ug x:=by
 rintro x hd
 have hd:fL x≤n+1:=hd
 have hf:FunOn S0 (.clo aK []) x.kids ug:=
  lQ (f:=fun k=> k) h0 (fun k _=> by rw[Oq,Cod.dec_enc]) (fun k hk=> by have:=EK hk;show fL k≤n;omega) (fun r _ y hy=> hy)
 have hsc:=LK x
 by_cases e:x.op=4
 ·simp[gg,gc,h1,hsc,e, -Bool.forall_bool, -Bool.exists_bool]
 ·simp[gg,gc,h1,hsc,e, -Bool.forall_bool, -Bool.exists_bool]
  exact⟨⟨_,hf⟩,fun y hy=> hy _ hf⟩
end Go.Gv

namespace Go.Gv
open Cod (enc dec)
section
variable {X Y:Type} [Cod X] [Cod Y]
variable {P:Program} {S:Nat→Spc} {f:Nat} {im:List Nat} {cc:CC} {rs:List au} {N:Nat} {el n:Nat}
end
section
variable {X Y Z:Type}
structure CW (X:Type) where
 ids:List Nat
 ce:X→List D
 hp:X→List (Nat×Res)
 keys: ∀x,(hp x).map (·.1)=ids
theorem EQ: ∀ {l:List (Nat×Res)} {i:Nat} {s:Res},fN l de i=some s→(i,s) ∈l
 | [],i,s,h=> by simp[fN,de] at h
 | (j,r)::l,i,s,h=> by
  simp only[fN,ai] at h
  by_cases e:i=j
  ·subst e
   simp only[if_true] at h
   cases h
   simp
  ·simp only[e,if_false] at h
   exact List.mem_cons_of_mem _ (EQ h)
theorem ER: ∀ {l:List (Nat×Res)} {H:aa} {i:Nat} {s:Res},i∈l.map (·.1)→fN l H i=some s→(i,s) ∈l
 | (j,r)::l,H,i,s,hi,h=> by
  simp only[fN,ai] at h
  by_cases e:i=j
  ·subst e
   simp only[if_true] at h
   cases h
   simp
  ·simp only[e,if_false] at h
   simp[e] at hi
   refine List.mem_cons_of_mem _ (ER (H:=H) ?_ h)
   simpa using hi
theorem EP: ∀ {l:List (Nat×Res)} {H:aa} {i:Nat},i∉l.map (·.1)→fN l H i=H i
 | [],H,i,_=> rfl
 | (j,r)::l,H,i,hi=> by
  simp only[List.map_cons,List.mem_cons,not_or] at hi
  simp only[fN,ai,hi.1,if_false]
  exact EP hi.2
def Zf (B:CW X) (A:gj Z) (er:Y→D) (pre:X→Z→Prop) (post:X→Z→X→Y→Prop):PT:=fun d ds H K=> ∃id b x z ds',ds= .bptr id b 0::ds'∧A.dec ds'=some z∧H id=some (.box b (B.ce x))∧(∀p∈B.hp x,H p.1=some p.2)∧id∉B.ids∧pre x z∧
 ∀x' y,post x z x' y→K (er y) (ai (fN (B.hp x') H) id (some (.box b (B.ce x'))))
theorem My (B:CW X) (A:gj Z) (er:Y→D) (pre:X→Z→Prop) (post:X→Z→X→Y→Prop):tC (Zf B A er pre post):=fun d ds H K K' hk ⟨id,b,x,z,ds',h1,h2,h3,h4,h5,h6,h7⟩=> ⟨id,b,x,z,ds',h1,h2,h3,h4,h5,h6,fun x' y hp=> hk _ _ (h7 x' y hp)⟩
def Zg (B:CW X) (A:gj Z) (er:Y→D) (pre:X→Z→Prop) (post:X→Z→X→Y→Prop):Spc:= .gen _ (My B A er pre post)
def Hs (B:CW X) (er:Y→D) (b:Nat) (post:X→Y→Prop) (r:D) (H:aa):Prop:= ∃x y,FrzTo (fun i=> if i=0∨i∈B.ids then none else H i) r (er y)∧H 0=some (.box b (B.ce x))∧(∀p∈B.hp x,H p.1=some p.2)∧post x y
def Ot (cc:CC) (rs:List au) (S:Nat→Spc) (B:CW X) (A:gj Z) (er:Y→D) (pre:X→Z→Prop) (post:X→Z→X→Y→Prop):Prop:=
 ∀b x z,pre x z→vc S cc (pH rs fun r H'=> Hs B er b (post x z) r H') (dI (.bptr 0 b 0::A.view z)) (ai (fN (B.hp x) de) 0 (some (.box b (B.ce x))))
variable {P:Program} {S:Nat→Spc} {f:Nat} {im:List Nat} {cc:CC} {rs:List au} {N:Nat}
theorem xO {B:CW X} {A:gj Z} {er:Y→D} {pre:X→Z→Prop} {post:X→Z→X→Y→Prop} (h1i:0∉B.ids) (hS: ∀f,Tri P f (S f).pt) (h:ay P f im cc rs N) (hN: ∀z,(A.view z).length+1≤N) (hw:Ot cc rs S B A er pre post):Tri P f (Zg B A er pre post).pt:=by
 obtain⟨pQ,enter,fn,code,h1,h2,h3,h4,h5⟩:=h
 refine nC hS pQ h1 h2 enter h3 h4 h5 ?_
 rintro ds H d K ⟨id,b,x,z,ds',rfl,hd,hid,hhp,hni,hp,hK⟩
 have hl:=A.le ds' z hd
 have h0: ∀i r,ai (fN (B.hp x) de) 0 (some (.box b (B.ce x))) i=some r→i=0∧r= .box b (B.ce x)∨i≠0∧(i,r) ∈B.hp x:=by
  intro i r h
  by_cases e:i=0
  ·subst e
   simp only[ai,if_true] at h
   cases h
   exact .inl ⟨rfl,rfl⟩
  ·simp only[ai,e,if_false] at h
   exact .inr ⟨e,EQ h⟩
 have hk: ∀ {x:X} {i:Nat} {r:Res},(i,r) ∈B.hp x→i∈B.ids:=by
  intro x i r h
  rw[←B.keys x]
  exact List.mem_map.2 ⟨_,h,rfl⟩
 refine⟨by simp only[List.length_cons];rw[hl.1];exact hN z, .bptr 0 b 0::A.view z,ai (fN (B.hp x) de) 0 (some (.box b (B.ce x))),fun i=> if i=0 then id else i, .cons (.bptr _ _ _ _) hl,fun i r h=> ?_,fun i j r s h h' e=> ?_,_,hw b x z hp,?_⟩
 ·rcases h0 i r h with⟨rfl,rfl⟩ | ⟨e,hm⟩
  ·exact hid
  ·simp only[e,if_false]
   exact hhp _ hm
 ·rcases h0 i r h with⟨rfl,rfl⟩ | ⟨e1,hm⟩
  ·rcases h0 j s h' with⟨rfl,rfl⟩ | ⟨e2,hm2⟩
   ·rfl
   ·simp only[e2,if_true,if_false] at e
    subst e
    exact absurd (hk hm2) hni
  ·rcases h0 j s h' with⟨rfl,rfl⟩ | ⟨e2,hm2⟩
   ·simp only[e1,if_true,if_false] at e
    subst e
    exact absurd (hk hm) hni
   ·simpa only[e1,e2,if_false] using e
 ·rintro r H' ⟨x',y,hfr,hj,hhp',hpost⟩
  refine⟨er y,fun i=> if i=0∨i∈B.ids then none else H' i,ai (fN (B.hp x') H) id (some (.box b (B.ce x'))),fun i=> if i=id then some 0 else if i∈B.ids then some i else none,hfr,fun j q h=> ?_,hK x' y hpost,fun i s hi=> ?_,fun i j' k s q hi hj' e1 e2=> ?_⟩
  ·by_cases e:j=0∨j∈B.ids
   ·simp[e] at h
   ·simp only[e,if_false] at h
    refine⟨h,fun i hh=> e ?_⟩
    by_cases e1:i=id
    ·simp only[e1,if_true] at hh
     cases hh
     exact .inl rfl
    ·simp only[e1,if_false] at hh
     by_cases e2:i∈B.ids
     ·simp only[e2,if_true] at hh
      cases hh
      exact .inr e2
     ·simp[e2] at hh
  ·by_cases e:i=id
   ·subst e
    simp only[ai,if_true] at hi
    cases hi
    simpa using hj
   ·simp only[ai,e,if_false] at hi ⊢
    by_cases e2:i∈B.ids
    ·simp only[e2,if_true]
     exact hhp' _ (ER (by rw[B.keys];exact e2) hi)
    ·simp only[e2,if_false]
     rw[EP (by rw[B.keys];exact e2)] at hi
     refine⟨hi,fun k q h he=> ?_⟩
     rcases h0 k q h with⟨rfl,rfl⟩ | ⟨e3,hm⟩
     ·simp only[if_true] at he
      exact e he.symm
     ·simp only[e3,if_false] at he
      subst he
      exact e2 (hk hm)
  ·by_cases c1:i=id
   ·by_cases c2:j'=id
    ·exact c1.trans c2.symm
    ·simp only[c1,if_true] at e1
     cases e1
     simp only[c2,if_false] at e2
     by_cases c3:j'∈B.ids
     ·simp only[c3,if_true] at e2
      cases e2
      exact absurd c3 h1i
     ·simp[c3] at e2
   ·simp only[c1,if_false] at e1
    by_cases c3:i∈B.ids
    ·simp only[c3,if_true] at e1
     cases e1
     by_cases c2:j'=id
     ·simp only[c2,if_true] at e2
      cases e2
      exact absurd c3 h1i
     ·simp only[c2,if_false] at e2
      by_cases c4:j'∈B.ids
      ·simp only[c4,if_true] at e2
       cases e2
       rfl
      ·simp[c4] at e2
    ·simp[c3] at e1
def Iw {X:Type} (ce:X→List D):CW X:=⟨[],ce,fun _=> [],fun _=> rfl⟩
end
end Go.Gv

namespace Go.Gv
open Cod (enc dec)
@[simp] theorem Yy (s:Rp):Rp.mk s.s s.pos s.fault s.e=s:=by cases s;rfl
def lj (s:Rp):List D:= [enc s.s,enc s.pos,enc s.fault,enc s.e]
@[simp] theorem Tu (s:Rp):lj s= [enc s.s,enc s.pos,enc s.fault,enc s.e]:=id rfl
section
variable {Y Z:Type}
def Nw:CW Rp:=Iw lj
def UD (A:gj Z) (er:Y→D) (pre:Rp→Z→Prop) (post:Rp→Z→Rp→Y→Prop):Spc:=Zg Nw A er pre post
def ZK (er:Y→D) (pre:Rp→Z→Prop) (post:Rp→Z→Rp→Y→Prop) (id b:Nat) (r:Option Res) (o:Option Z) (H:aa) (K:D→aa→Prop):Prop:=
 ∃x,r=some (.box b (lj x))∧hU o fun z=> pre x z∧ ∀x' y,post x z x' y→K (er y) (ai H id (some (.box b (lj x'))))
theorem KM {x y:Rp} (h:lj x=lj y):x=y:=by
 obtain⟨l,a,d,e⟩:=x
 obtain⟨l',a',d',e'⟩:=y
 simp only[lj,List.cons.injEq] at h
 obtain⟨h1,h2,h3,h4,_⟩:=h
 have h1:=ci h1
 have h2:=ci h2
 have h3:=ci h3
 have h4:=ci h4
 subst h1;subst h2;subst h3;subst h4
 rfl
@[simp] theorem Nv (A:gj Z) (er:Y→D) (pre:Rp→Z→Prop) (post:Rp→Z→Rp→Y→Prop) (d i b:Nat) (ds:List D) (H:aa) (K:D→aa→Prop): (UD A er pre post).pt d (.bptr i b 0::ds) H K=ZK er pre post i b (H i) (A.dec ds) H K:=by
 refine propext ⟨fun h=> ?_,fun h=> ?_⟩
 ·obtain⟨id,b',x,z,ds',h1,h2,h3,h4,h5,h6,h7⟩:=h
  cases h1
  refine⟨x,h3,?_⟩
  rw[h2]
  exact⟨h6,h7⟩
 ·obtain⟨x,h1,h2⟩:=h
  cases hz:A.dec ds with
  | none=> rw[hz] at h2;exact h2.elim
  | some z=> rw[hz] at h2;exact⟨i,b,x,z,ds,rfl,hz,h1,fun p hp=> by simp[Nw,Iw] at hp,by simp[Nw,Iw],h2.1,h2.2⟩
def vi (er:Y→D) (b:Nat) (post:Rp→Y→Prop) (r:D) (H:aa):Prop:=Hs Nw er b post r H
theorem uV {er:Y→D} {b:Nat} {post:Rp→Y→Prop} {r:D} {H:aa} (x:Rp) (y:Y) (hr:FrzTo (fun i=> if i=0 then none else H i) r (er y)) (h0:H 0=some (.box b (lj x))) (hq:post x y):vi er b post r H:=
 ⟨x,y,by simpa [Nw,Iw] using hr,h0,fun p hp=> by simp[Nw,Iw] at hp,hq⟩
def mD (cc:CC) (rs:List au) (S:Nat→Spc) (A:gj Z) (er:Y→D) (pre:Rp→Z→Prop) (post:Rp→Z→Rp→Y→Prop):Prop:=
 ∀b x z,pre x z→vc S cc (pH rs fun r H'=> vi er b (post x z) r H') (dI (.bptr 0 b 0::A.view z)) (ai de 0 (some (.box b (lj x))))
variable {P:Program} {S:Nat→Spc} {f:Nat} {im:List Nat} {cc:CC} {rs:List au} {N:Nat}
theorem Fg {A:gj Z} {er:Y→D} {pre:Rp→Z→Prop} {post:Rp→Z→Rp→Y→Prop} (hS: ∀f,Tri P f (S f).pt) (h:ay P f im cc rs N) (hN: ∀z,(A.view z).length+1≤N) (hw:mD cc rs S A er pre post):Tri P f (UD A er pre post).pt:=
 xO (by simp[Nw,Iw]) hS h hN fun b x z hp=> hw b x z hp
end
section
variable {Y Z:Type}
def IB (A:gj Z) (er:Y→D) (F:Rp→Z→Option (Rp×Y)):Spc:=UD A er (fun s z=> ∃r,F s z=some r) (fun s z s' y=> F s z=some (s',y))
def Jo (er:Y→D) (F:Rp→Z→Option (Rp×Y)) (id b:Nat) (r:Option Res) (o:Option Z) (H:aa) (K:D→aa→Prop):Prop:=
 ∃x,r=some (.box b (lj x))∧hU o fun z=> hU (F x z) fun q=> K (er q.2) (ai H id (some (.box b (lj q.1))))
@[congr] theorem RT {er:Y→D} {F:Rp→Z→Option (Rp×Y)} {id b:Nat} {r r':Option Res} {o o':Option Z} {H:aa} {K:D→aa→Prop} (h1:r=r') (h2:o=o'):Jo er F id b r o H K=Jo er F id b r' o' H K:=by subst h1;subst h2;rfl
theorem NC {F:Option (Rp×Y)} {k:Rp→Y→Prop} : ((∃r,F=some r)∧ ∀x' y,F=some (x',y)→k x' y)=hU F fun q=> k q.1 q.2:=by
 cases F with
 | none=>
   refine propext (Iff.intro (fun h=> ?_) (fun h=> ?_))
   ·obtain⟨⟨r,h⟩,_⟩:=h
    cases h
   ·exact False.elim h
 | some r=>
   refine propext (Iff.intro (fun h=> h.2 _ _ rfl) (fun h=> ⟨⟨_,rfl⟩,fun x' y e=> ?_⟩))
   cases e
   exact h
@[simp] theorem UB (A:gj Z) (er:Y→D) (F:Rp→Z→Option (Rp×Y)) (d i b:Nat) (ds:List D) (H:aa) (K:D→aa→Prop): (IB A er F).pt d (.bptr i b 0::ds) H K=Jo er F i b (H i) (A.dec ds) H K:=by
 unfold IB Jo
 rw[Nv]
 unfold ZK
 refine propext (exists_congr fun x=> and_congr_right fun _=> ?_)
 cases A.dec ds with
 | none=> exact Iff.rfl
 | some z=> exact iff_of_eq NC
@[simp] theorem UC (er:Y→D) (F:Rp→Z→Option (Rp×Y)) (id b:Nat) (l:B) (p dp e:Int) (o:Option Z) (H:aa) (K:D→aa→Prop):
 Jo er F id b (some (.box b [.v (.string l), .v (.int .i64 p), .v (.int .i64 dp), .v (.int .i64 e)])) o H K=hU o fun z=> hU (F ⟨l,p,dp,e⟩ z) fun q=> K (er q.2) (ai H id (some (.box b (lj q.1)))):=by
 refine propext ⟨fun⟨x,h1,h2⟩=> ?_,fun h=> ⟨⟨l,p,dp,e⟩,rfl,h⟩⟩
 have e1:lj ⟨l,p,dp,e⟩=lj x:=by
  have:=Option.some.inj h1
  exact(Res.box.inj this).2
 have:=KM e1
 subst this
 exact h2
variable {P:Program} {S:Nat→Spc} {f:Nat} {im:List Nat} {cc:CC} {rs:List au} {N:Nat}
theorem eh {A:gj Z} {er:Y→D} {F:Rp→Z→Option (Rp×Y)} (hS: ∀f,Tri P f (S f).pt) (h:ay P f im cc rs N) (hN: ∀z,(A.view z).length+1≤N)
 (hw:mD cc rs S A er (fun s z=> ∃r,F s z=some r) (fun s z s' y=> F s z=some (s',y))):Tri P f (IB A er F).pt:=Fg hS h hN hw
end
end Go.Gv
