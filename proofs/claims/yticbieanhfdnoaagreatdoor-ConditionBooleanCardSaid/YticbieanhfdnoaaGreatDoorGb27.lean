/- A part of the framework and of the walks: W152 W153 W154 W155 T22 T31. -/
import Derived.Test.YticbieanhfdnoaaGreatDoorGb26
import Derived.Test.YticbieanhfdnoaaGreatDoorGb24
import Derived.Test.YticbieanhfdnoaaGreatDoorGb20
set_option linter.unusedSimpArgs false
set_option linter.unusedVariables false
set_option maxRecDepth 100000
set_option linter.unusedSectionVars false

namespace Go.Gv
open Cod (enc dec)
variable {S S0:Nat→Spc}
theorem zU {X:Type} (p:X→Bool): ∀l:List X, -1≤kq l p∧kq l p < l.length
 | []=> ⟨Int.le_refl _,by simp[kq]⟩
 | x::l=> by
   have:=zU p l
   rw[kq,List.length_cons]
   split
   ·omega
   ·split <;> omega
open Classical in
noncomputable def aX {Z:Type} (v:Z→List D) (hi: ∀z z',v z=v z'→z=z'):gq Z:=⟨fun ds=> if h: ∃z,ds=v z then some h.choose else none,v,fun ds z h=> by
 split at h
 ·rename_i h'
  have e:h'.choose=z:=Option.some.inj h
  rw[←e,←h'.choose_spec]
  exact⟨rfl,fun k d d' h1 h2=> by rw[h1] at h2;cases h2;exact .same _⟩
 ·cases h⟩
open Classical in
theorem tZ {Z:Type} (v:Z→List D) (hi: ∀z z',v z=v z'→z=z') (z:Z): (aX v hi).dec (v z)=some z:=by
 have h: ∃z',v z=v z':=⟨z,rfl⟩
 show(if h: ∃z',v z=v z' then some h.choose else none)=some z
 rw[dif_pos h]
 exact congrArg some (hi _ _ h.choose_spec).symm
theorem r8 {Z:Type} (v:Z→List D) (hi: ∀z z',v z=v z'→z=z') (z:Z): (aX v hi).view z=v z:=rfl
def IG (x:Attr×B):List D:= [enc x.1, .cptr [enc x.2] 0]
theorem D4 (z z':Attr×B) (h:IG z=IG z'):z=z':=by
 obtain⟨a,s⟩:=z
 obtain⟨a',s'⟩:=z'
 unfold IG at h
 simp only[List.cons.injEq,D.cptr.injEq,and_true] at h
 rw[cm h.1,cm h.2]
noncomputable abbrev SH:gq (Attr×B):=aX IG D4
noncomputable abbrev wg:Spc:=cz SH (fun _=> True) (enc (X:=Bool)) fun x y=> y=decide (x.1.nm=x.2)
theorem nT:aK eP eL S SH (fun _=> True) (enc (X:=Bool)) fun x y=> y=decide (x.1.nm=x.2):=by
 rintro⟨a,s⟩ -
 rw[r8]
 simp[IG,eP,eL, -Bool.forall_bool, -Bool.exists_bool]
abbrev lW:Spc:=cz (a2 (List Attr) B) (fun _=> True) (enc (X:=Int)) fun x y=> y=jl x.1 x.2
theorem qe (h0:S0 aV=wg) (h1:S bI=uI Attr S0):aK fP fC S (a2 (List Attr) B) (fun _=> True) (enc (X:=Int)) fun x y=> y=jl x.1 x.2:=by
 rintro⟨a,s⟩ -
 have hf:FunOn S0 (.clo aV [.cptr [enc s] 0]) a fun x=> decide (x.nm=s):=
  l9 (f:=fun x=> (x,s)) h0 (fun x _=> tZ IG D4 (x,s)) (fun _ _=> trivial) (fun x _ y hy=> hy)
 simp[fP,fC,h1, -Bool.forall_bool, -Bool.exists_bool]
 exact⟨⟨_,hf⟩,fun y hy=> hy _ hf⟩
abbrev qP:Spc:=cz (a2 (List Attr) B) (fun x=> x.1.length≤1000) (enc (X:=Int)) fun x y=> y=pD x.1 x.2
theorem uk (h1:S aq=lW):aK fO fB S (a2 (List Attr) B) (fun x=> x.1.length≤1000) (enc (X:=Int)) fun x y=> y=pD x.1 x.2:=by
 rintro⟨a,s⟩ hl
 have hl:a.length≤1000:=hl
 have hin:InR .i64 ((a.length:Int) -1):=by simp only[InR];omega
 have hl': (a.length:Int)≤9223372036854775807:=by omega
 by_cases hs:s=gj
 ·subst hs
  simp[fO,fB,gj,pD,hin,hl', -Bool.forall_bool, -Bool.exists_bool]
 ·have hs': ¬s=⟨#[]⟩:=hs
  simp[fO,fB,gj,pD,h1,hs', -Bool.forall_bool, -Bool.exists_bool]
def mV (t:List (List B)) (i k:Int):B:=if i < 0∨k < 0 then gj else match t[i.toNat]? with
 | some r=> (match r[k.toNat]? with | some s=> s | none=> gj)
 | none=> gj
abbrev yY:Spc:=cz (a3 Corpus Int Int) (fun x=> x.1.toks.length≤100000∧ ∀r∈x.1.toks,r.length≤100000) (enc (X:=B)) fun x y=> y=mV x.1.toks x.2.1 x.2.2
theorem um:aK cd bW S (a3 Corpus Int Int) (fun x=> x.1.toks.length≤100000∧ ∀r∈x.1.toks,r.length≤100000) (enc (X:=B)) fun x y=> y=mV x.1.toks x.2.1 x.2.2:=by
 rintro⟨c,i,k⟩ ⟨hl,hr⟩
 simp only at hl hr
 have hl': (c.toks.length:Int)≤9223372036854775807:=by omega
 by_cases h0:i < 0
 ·simp[cd,bW,h0,mV, -Bool.forall_bool, -Bool.exists_bool]
  rfl
 by_cases h1: (c.toks.length:Int)≤i
 ·have hn:c.toks[i.toNat]?=none:=List.getElem?_eq_none (by omega)
  by_cases h2:k < 0
  ·simp[cd,bW,h0,h1,h2,hl',mV, -Bool.forall_bool, -Bool.exists_bool]
   rfl
  ·simp[cd,bW,h0,h1,h2,hl',hn,mV, -Bool.forall_bool, -Bool.exists_bool]
   rfl
 by_cases h2:k < 0
 ·simp[cd,bW,h0,h1,h2,hl',mV, -Bool.forall_bool, -Bool.exists_bool]
  rfl
 obtain⟨r,hri⟩:=kD (show i.toNat < c.toks.length by omega)
 obtain⟨_,hgr⟩:=List.getElem?_eq_some_iff.1 hri
 have hrl:=hr r (List.mem_of_getElem? hri)
 have hrl': (r.length:Int)≤9223372036854775807:=by omega
 have i0:0≤i:=by omega
 have i1:i < (c.toks.length:Int):=by omega
 have k0:0≤k:=by omega
 by_cases h3: (r.length:Int)≤k
 ·have hn:r[k.toNat]?=none:=List.getElem?_eq_none (by omega)
  simp[cd,bW,h0,h1,h2,h3,hl',hrl',hn,hri,hgr,i0,i1,mV, -Bool.forall_bool, -Bool.exists_bool]
  rfl
 obtain⟨s,hsk⟩:=kD (show k.toNat < r.length by omega)
 obtain⟨_,hgs⟩:=List.getElem?_eq_some_iff.1 hsk
 have k1:k < (r.length:Int):=by omega
 simp[cd,bW,h0,h1,h2,h3,hl',hrl',hri,hgr,hsk,hgs,i0,i1,k0,k1,mV, -Bool.forall_bool, -Bool.exists_bool]
end Go.Gv

namespace Go.Gv
open Cod (enc dec)
variable {S S0:Nat→Spc}
abbrev Cv:Spc:=cz (a1 B) (fun s=> wo s=true) (enc (X:=Bool)) fun _ y=> y=true
abbrev qM:Spc:=cz (a1 B) (fun s=> re s=true) (enc (X:=Int)) fun _ y=> y=0
abbrev s_sConB:Spc:=cz (a2 B B) (fun x=> x.2=⟨#[124]⟩∧re x.1=true) (enc (X:=Bool)) fun x y=> y=NO x.1
abbrev Et:Spc:=cz (a1 B) (fun s=> ∃r,lB s=some r) (enc (X:=Int)) fun _ y=> y=0
def vm (l:List B) (s:B):Bool:=l.any fun z=> decide (z=s)
abbrev GH:Spc:=cz (a2 (List B) B) (fun _=> True) (enc (X:=Bool)) fun x y=> y=vm x.1 x.2
abbrev yO:Spc:=cz (a2 (List B) B) (fun _=> True) (enc (X:=Int)) fun x y=> y=kq x.1 fun z=> decide (z=x.2)
theorem ym:aK fH fp S (a2 (List B) B) (fun _=> True) (enc (X:=Int)) fun x y=> y=kq x.1 fun z=> decide (z=x.2):=by
 rintro⟨l,s⟩ -
 simp[fH,fp, -Bool.forall_bool, -Bool.exists_bool]
 intro _
 refine ar (X:=Unit) [0,1] [] l.length (fun k _=> ∀x∈l.take k,decide (x=s)=false) (fun _=> []) (fun _=> []) () (by simp) (by simp) (by omega) (by simp) (by simp) (by simp) (by simp) (by simp) ?_ ?_
 ·intro k _ hk hP
  obtain⟨x,hx⟩:=kD hk
  obtain⟨_,hgx⟩:=List.getElem?_eq_some_iff.1 hx
  simp[hk,hx,hgx, -Bool.forall_bool, -Bool.exists_bool]
  refine⟨fun h=> ?_,fun h=> ?_⟩
  ·exact(pB hx (by simp[h]) hP).symm
  ·rw[eh hx]
   intro z hz
   rcases List.mem_append.1 hz with hz | hz
   ·have:=hP z hz
    simpa using this
   ·simp at hz;subst hz
    exact fun e=> h e.symm
 ·intro _ hP
  simp[-Bool.forall_bool, -Bool.exists_bool]
  exact(kp (by simpa using hP)).symm
theorem uo (h1:S bt=yO):aK ed d8 S (a2 (List B) B) (fun _=> True) (enc (X:=Bool)) fun x y=> y=vm x.1 x.2:=by
 rintro⟨l,s⟩ -
 simp[ed,d8,h1, -Bool.forall_bool, -Bool.exists_bool]
 exact vj _ l
abbrev yT:Spc:=cz (a2 Cond (List Attr)) (fun x=> Of x.2 x.1=true∧x.2.length≤1000) (enc (X:=Bool)) fun _ y=> y=true
theorem uh (h1:S cB=qP) (h2:S aq=lW) (h3:S dd=Cv):aK cb bV S (a2 Cond (List Attr)) (fun x=> Of x.2 x.1=true∧x.2.length≤1000) (enc (X:=Bool)) fun _ y=> y=true:=by
 rintro⟨⟨op,name,arg,val,lab,fold,ks⟩,a⟩ ⟨hx,hl⟩
 have hx:Of a ⟨op,name,arg,val,lab,fold,ks⟩=true:=hx
 have hl:a.length≤1000:=hl
 unfold Of at hx
 simp only at hx
 split at hx
 ·rename_i e;subst e;simp at hx
  simp[cb,bV,h1,hl,hx, -Bool.forall_bool, -Bool.exists_bool]
 rename_i e2
 split at hx
 ·rename_i e;subst e;simp at hx
  simp[cb,bV,h2,hx, -Bool.forall_bool, -Bool.exists_bool]
 rename_i e3
 split at hx
 ·rename_i e;subst e;simp at hx
  simp[cb,bV,h2,hx.1,hx.2, -Bool.forall_bool, -Bool.exists_bool]
 rename_i e4
 split at hx
 ·rename_i e;subst e;simp at hx
  obtain⟨hn,ha⟩:=hx
  by_cases hae:arg=gj
  ·subst hae
   simp[cb,bV,h3,hn,gj, -Bool.forall_bool, -Bool.exists_bool]
  ·have ha':=ha.resolve_left hae
   have hae': ¬arg=⟨#[]⟩:=hae
   simp[cb,bV,h3,hn,ha',hae', -Bool.forall_bool, -Bool.exists_bool]
 rename_i e5
 simp[cb,bV,e2,e3,e4,e5, -Bool.forall_bool, -Bool.exists_bool]
abbrev yX:Spc:=cz (a3 Cond (List Attr) (List B)) (fun x=> j6 x.2.1 x.2.2 x.1=true∧x.2.1.length≤1000) (enc (X:=Int)) fun _ y=> y=0
theorem ul (h1:S eA=wf) (h2:S eB=yT) (h3:S iI=Et) (h4:S aq=lW) (h5:S fE=s_sConB) (h6:S aM=qM) (h7:S cH=GH):
 aK cK cJ S (a3 Cond (List Attr) (List B)) (fun x=> j6 x.2.1 x.2.2 x.1=true∧x.2.1.length≤1000) (enc (X:=Int)) fun _ y=> y=0:=by
 rintro⟨x,a,lb⟩ ⟨hx,hl⟩
 have hx:j6 a lb x=true:=hx
 have hl:a.length≤1000:=hl
 unfold j6 at hx
 simp only[Bool.and_eq_true] at hx
 obtain⟨⟨hs,hn⟩,hc⟩:=hx
 obtain⟨op,name,arg,val,lab,fold,ks⟩:=x
 unfold UZ at hc
 simp only at hc
 have e: (Cond.mk op name arg val lab fold ks)=⟨op,name,arg,val,lab,fold,ks⟩:=rfl
 split at hc
 ·rename_i e;subst e
  obtain⟨r,hr⟩:=Option.isSome_iff_exists.1 hc
  simp[cK,cJ,h1,h2,h3,hs,hn,hl,hr, -Bool.forall_bool, -Bool.exists_bool]
 rename_i e2
 split at hc
 ·rename_i e;subst e
  simp only[Bool.and_eq_true] at hc
  obtain⟨⟨⟨c1,c2⟩,c3⟩,c4⟩:=hc
  have hn':0≤jl a name:=by simpa [Of] using hn
  have hrg:=(zU (fun x:Attr=> decide (x.nm=name)) a).2
  have hlt:jl a name < a.length:=hrg
  obtain⟨b,hb⟩:=kD (show(jl a name).toNat < a.length by omega)
  obtain⟨_,hgb⟩:=List.getElem?_eq_some_iff.1 hb
  rw[hb] at c1
  have c1:b.st=true:=c1
  have c2: ¬val=⟨#[]⟩:=of_decide_eq_true c2
  have c3:NO val=false:=by simpa using c3
  simp[cK,cJ,h1,h2,h4,h5,h6,hs,hn,hl,hn',hlt,hb,hgb,c1,c2,c3,c4, -Bool.forall_bool, -Bool.exists_bool]
 rename_i e3
 split at hc
 ·rename_i e;subst e
  have hc:vm lb lab=true:=hc
  simp[cK,cJ,h1,h2,h7,hs,hn,hl,hc, -Bool.forall_bool, -Bool.exists_bool]
 rename_i e4
 split at hc
 ·rename_i e;subst e
  simp[cK,cJ,h1,h2,h6,hs,hn,hl,hc, -Bool.forall_bool, -Bool.exists_bool]
 rename_i e5
 simp[cK,cJ,h1,h2,hs,hn,hl,e2,e3,e4,e5, -Bool.forall_bool, -Bool.exists_bool]
end Go.Gv

namespace Go.Gv
open Cod (enc dec)
variable {S S0:Nat→Spc}
def N1 (x:Cond×List Attr×List B):List D:= [enc x.1, .cptr [enc x.2.1] 0, .cptr [enc x.2.2] 0]
theorem HE (z z':Cond×List Attr×List B) (h:N1 z=N1 z'):z=z':=by
 obtain⟨a,s,l⟩:=z
 obtain⟨a',s',l'⟩:=z'
 unfold N1 at h
 simp only[List.cons.injEq,D.cptr.injEq,and_true] at h
 rw[cm h.1,cm h.2.1,cm h.2.2]
noncomputable abbrev aVd:gq (Cond×List Attr×List B):=aX N1 HE
@[simp] theorem Td (x:Cond) (a:List Attr) (lb:List B):aVd.dec [.agg [.v (.int .i64 x.op), .v (.string x.name), .v (.string x.arg), .v (.string x.val), .v (.string x.lab), .v (.bool x.fold), .list 7 (x.kids.map enc)], .cptr [.list 2 (a.map enc)] 0, .cptr [.list 1 (lb.map enc)] 0]=some (x,a,lb):=by
 have h:=tZ N1 HE (x,a,lb)
 have e:N1 (x,a,lb)= [.agg [.v (.int .i64 x.op), .v (.string x.name), .v (.string x.arg), .v (.string x.val), .v (.string x.lab), .v (.bool x.fold), .list 7 (x.kids.map enc)], .cptr [.list 2 (a.map enc)] 0, .cptr [.list 1 (lb.map enc)] 0]:=by simp[N1]
 rw[←e]
 exact h
noncomputable abbrev CA:Spc:=cz aVd (fun x=> j6 x.2.1 x.2.2 x.1=true∧x.2.1.length≤1000) (enc (X:=Int)) fun _ y=> y=0
theorem oM (h1:S eD=yX):aK fg eW S aVd (fun x=> j6 x.2.1 x.2.2 x.1=true∧x.2.1.length≤1000) (enc (X:=Int)) fun _ y=> y=0:=by
 rintro⟨x,a,lb⟩ ⟨hx,hl⟩
 simp only at hx hl
 rw[r8]
 simp[N1,fg,eW,h1,hx,hl, -Bool.forall_bool, -Bool.exists_bool]
def SJ (n:Nat) (x:Cond×D×Unit):Prop:= ∃ (a:List Attr) (lb:List B),x.2.1= .clo bm [.cptr [enc a] 0, .cptr [enc lb] 0]∧lR a lb n x.1=true∧a.length≤1000∧f9 x.1≤60
noncomputable abbrev yR (n:Nat):Spc:=cz (aE Cond (aD a0)) (SJ n) (enc (X:=Int)) fun x y=> y=0
noncomputable abbrev yQ:Spc:=cz (aE Cond (aD a0)) (fun x=> ∃n,SJ n x) (enc (X:=Int)) fun x y=> y=0
theorem ug (n:Nat) (h1:S bm=CA) (h2:S ck=yR n):aK j2 jA S (aE Cond (aD a0)) (SJ (n+1)) (enc (X:=Int)) fun x y=> y=0:=by
 rintro⟨x,d,⟨⟩⟩ ⟨a,lb,hd,hx,hl,hn⟩
 simp only at hd hx hn
 subst hd
 simp only[lR,Bool.and_eq_true] at hx
 obtain⟨hx1,hx2⟩:=hx
 simp[j2,jA,h1,hx1,hl, -Bool.forall_bool, -Bool.exists_bool]
 intro hkl
 refine ar (X:=Unit) [1,16] [] x.kids.length (fun k _=> True) (fun _=> []) (fun _=> []) () (by simp) (by simp) (by omega) (by simp) (by simp) (by simp) (by simp) (by simp) ?_ ?_
 ·rintro k -hk -
  obtain⟨y,hy⟩:=kD hk
  obtain⟨_,hgy⟩:=List.getElem?_eq_some_iff.1 hy
  have hm:=List.mem_of_getElem? hy
  have hny:=ws hm
  have hnx:=pq x
  have hp:SJ n (y, .clo bm [.cptr [.list 2 (a.map enc)] 0, .cptr [.list 1 (lb.map enc)] 0],()):=⟨a,lb,rfl,List.all_eq_true.1 hx2 y hm,hl,by show f9 y≤60;omega⟩
  simp[h2,hk,hy,hgy,hp, -Bool.forall_bool, -Bool.exists_bool]
 ·rintro - -
  simp[-Bool.forall_bool, -Bool.exists_bool]
abbrev Mk (x:Cond×List Attr×List B):Prop:=KO x.2.1 x.2.2 x.1=true∧x.2.1.length≤1000
abbrev yZ:Spc:=cz (a3 Cond (List Attr) (List B)) Mk (enc (X:=Int)) fun _ y=> y=0
theorem qG (h1:S aN=qO) (h2:S ck=yQ):aK gg f8 S (a3 Cond (List Attr) (List B)) Mk (enc (X:=Int)) fun _ y=> y=0:=by
 rintro⟨x,a,lb⟩ ⟨hx,hl⟩
 simp only at hx hl
 unfold KO at hx
 simp at hx
 obtain⟨⟨hn,hd⟩,ha⟩:=hx
 have hp: ∃n,QL n (x,0,1):=⟨dH x,Nat.le_refl _,Int.le_refl _,by show(0:Int) +f9 x≤60;omega,by show(0:Int)≤1;omega,by show(1:Int) +dH x≤1000;omega,by show dH x≤60;omega⟩
 have hw: ∃n,SJ n (x, .clo bm [.cptr [.list 2 (a.map enc)] 0, .cptr [.list 1 (lb.map enc)] 0],()):=⟨20,a,lb,rfl,ha,hl,hn⟩
 have q1: ¬ (60:Int) < (f9 x:Int):=by omega
 have q2: ¬ (20:Int) < 1+ (dH x:Int) -1:=by omega
 simp[gg,f8,h1,h2,hp,hw,q1,q2, -Bool.forall_bool, -Bool.exists_bool]
end Go.Gv

namespace Go.Gv
open Cod (enc dec)
variable {S S0:Nat→Spc}
def Lg (l:List Pair) (s:Pair):Bool:=l.any fun z=> decide (z=s)
abbrev Cw:Spc:=cz (a2 (List Pair) Pair) (fun _=> True) (enc (X:=Int)) fun x y=> y=kq x.1 fun z=> decide (z=x.2)
abbrev Cy:Spc:=cz (a2 (List Pair) Pair) (fun _=> True) (enc (X:=Bool)) fun x y=> y=Lg x.1 x.2
theorem Ck:aK gN gr S (a2 (List Pair) Pair) (fun _=> True) (enc (X:=Int)) fun x y=> y=kq x.1 fun z=> decide (z=x.2):=by
 rintro⟨l,s⟩ -
 simp[gN,gr, -Bool.forall_bool, -Bool.exists_bool]
 intro _
 refine ar (X:=Unit) [0,3] [] l.length (fun k _=> ∀x∈l.take k,decide (x=s)=false) (fun _=> []) (fun _=> []) () (by simp) (by simp) (by omega) (by simp) (by simp) (by simp) (by simp) (by simp) ?_ ?_
 ·intro k _ hk hP
  obtain⟨x,hx⟩:=kD hk
  obtain⟨_,hgx⟩:=List.getElem?_eq_some_iff.1 hx
  simp[hk,hx,hgx, -Bool.forall_bool, -Bool.exists_bool]
  have hpe:s.nm=x.nm→s.vl=x.vl→x=s:=fun h1 h2=> by
   obtain⟨a,b⟩:=x
   obtain⟨a',b'⟩:=s
   simp only at h1 h2
   rw[h1,h2]
  refine⟨fun h1 h2=> (pB hx (by simp[hpe h1 h2]) hP).symm,fun h=> ?_⟩
  rw[eh hx]
  intro z hz
  rcases List.mem_append.1 hz with hz | hz
  ·have:=hP z hz
   simpa using this
  ·simp at hz;subst hz
   intro e
   subst e
   exact h rfl rfl
 ·intro _ hP
  simp[-Bool.forall_bool, -Bool.exists_bool]
  exact(kp (by simpa using hP)).symm
theorem xf (h1:S dD=Cw):aK ff eV S (a2 (List Pair) Pair) (fun _=> True) (enc (X:=Bool)) fun x y=> y=Lg x.1 x.2:=by
 rintro⟨l,s⟩ -
 simp[ff,eV,h1, -Bool.forall_bool, -Bool.exists_bool]
 exact vj _ l
def zd (x:Cond) (tok:Int) (r:Region):Bool:=decide (r.ty=x.name) && decide (r.b≤tok) && decide (tok < r.e) && (decide (x.arg=gj) || Lg r.kv ⟨x.arg,x.val⟩)
def JL (x:Cond):List D:= [.v (.int .i64 x.op), .v (.string x.name), .v (.string x.arg), .v (.string x.val), .v (.string x.lab), .v (.bool x.fold), .list 7 (x.kids.map enc)]
theorem Ij (x:Cond): .agg (JL x)=enc x:=by simp[JL]
theorem NH {x y:Cond} (h:JL x=JL y):x=y:=cm (by rw[←Ij,←Ij,h])
def Ms (x:Region×Cond×Int):List D:= [enc x.1, .cptr (JL x.2.1) 0, .cptr [enc x.2.2] 0]
theorem HF (z z':Region×Cond×Int) (h:Ms z=Ms z'):z=z':=by
 obtain⟨a,s,l⟩:=z
 obtain⟨a',s',l'⟩:=z'
 unfold Ms at h
 simp only[List.cons.injEq,D.cptr.injEq,and_true] at h
 rw[cm h.1,NH h.2.1,cm h.2.2]
noncomputable abbrev qdp:gq (Region×Cond×Int):=aX Ms HF
noncomputable abbrev nb:Spc:=cz qdp (fun _=> True) (enc (X:=Bool)) fun x y=> y=zd x.2.1 x.2.2 x.1
theorem qE (h1:S cR=Cy):aK bP bN S qdp (fun _=> True) (enc (X:=Bool)) fun x y=> y=zd x.2.1 x.2.2 x.1:=by
 rintro⟨r,x,tok⟩ -
 rw[r8]
 by_cases e1:r.ty=x.name
 rotate_left
 ·simp[Ms,JL,bP,bN,zd,e1, -Bool.forall_bool, -Bool.exists_bool]
 by_cases e2:r.b≤tok
 rotate_left
 ·simp[Ms,JL,bP,bN,zd,e1,e2, -Bool.forall_bool, -Bool.exists_bool]
 by_cases e3:tok < r.e
 rotate_left
 ·simp[Ms,JL,bP,bN,zd,e1,e2,e3, -Bool.forall_bool, -Bool.exists_bool]
 by_cases e4:x.arg=gj
 ·have e4':x.arg=⟨#[]⟩:=e4
  simp[Ms,JL,bP,bN,zd,e1,e2,e3,e4,e4',gj, -Bool.forall_bool, -Bool.exists_bool]
 ·have e4': ¬x.arg=⟨#[]⟩:=e4
  simp[Ms,JL,bP,bN,zd,h1,e1,e2,e3,e4,e4', -Bool.forall_bool, -Bool.exists_bool]
abbrev GG:Spc:=cz (a3 Corpus Cond Int) (fun _=> True) (enc (X:=Bool)) fun x y=> y=x.1.regs.any (zd x.2.1 x.2.2)
theorem sP (h0:S0 aR=nb) (h1:S bJ=xm Region S0):aK iv ic S (a3 Corpus Cond Int) (fun _=> True) (enc (X:=Bool)) fun x y=> y=x.1.regs.any (zd x.2.1 x.2.2):=by
 rintro⟨c,x,tok⟩ -
 have hf:FunOn S0 (.clo aR [.cptr (JL x) 0, .cptr [enc tok] 0]) c.regs (zd x tok):=
  l9 (f:=fun r=> (r,x,tok)) h0 (fun r _=> tZ Ms HF (r,x,tok)) (fun _ _=> trivial) (fun r _ y hy=> hy)
 unfold JL at hf
 simp[iv,ic,h1, -Bool.forall_bool, -Bool.exists_bool]
 exact⟨⟨_,hf⟩,fun y hy=> hy _ hf⟩
mutual
def uF:Cond→Bool | .mk op _ _ _ _ _ ks=> decide (op=4) || Eo ks
def Eo:List Cond→Bool | []=> false | k::ks=> uF k || Eo ks
end
theorem Bq: ∀l:List Cond,Eo l=l.any uF
 | []=> by rw[Eo];rfl
 | k::l=> by rw[Eo,Bq l];rfl
theorem MV (x:Cond):uF x=(decide (x.op=4) || x.kids.any uF):=by cases x;rw[uF,Bq]
abbrev na (n:Nat):Spc:=cz (a1 Cond) (fun x=> dH x≤n) (enc (X:=Bool)) fun x y=> y=uF x
theorem vS (n:Nat) (h0:S0 aL=na n) (h1:S aB=xm Cond S0):aK gn gl S (a1 Cond) (fun x=> dH x≤n+1) (enc (X:=Bool)) fun x y=> y=uF x:=by
 rintro x hd
 have hd:dH x≤n+1:=hd
 have hf:FunOn S0 (.clo aL []) x.kids uF:=
  l9 (f:=fun k=> k) h0 (fun k _=> by rw[PN,Cod.dec_enc]) (fun k hk=> by have:=FE hk;show dH k≤n;omega) (fun r _ y hy=> hy)
 have hsc:=MV x
 by_cases e:x.op=4
 ·simp[gn,gl,h1,hsc,e, -Bool.forall_bool, -Bool.exists_bool]
 ·simp[gn,gl,h1,hsc,e, -Bool.forall_bool, -Bool.exists_bool]
  exact⟨⟨_,hf⟩,fun y hy=> hy _ hf⟩
end Go.Gv

namespace Go.Gv
open Cod (enc dec)
section
variable {X Y:Type} [Cod X] [Cod Y]
variable {P:Program} {S:Nat→Spc} {f:Nat} {im:List Nat} {cc:CC} {rs:List au} {N:Nat} {el n:Nat}
end
section
variable {X Y Z:Type}
structure DL (X:Type) where
 ids:List Nat
 ce:X→List D
 hp:X→List (Nat×Res)
 keys: ∀x,(hp x).map (·.1)=ids
theorem FK: ∀ {l:List (Nat×Res)} {i:Nat} {s:Res},fR l di i=some s→(i,s) ∈l
 | [],i,s,h=> by simp[fR,di] at h
 | (j,r)::l,i,s,h=> by
  simp only[fR,aj] at h
  by_cases e:i=j
  ·subst e
   simp only[if_true] at h
   cases h
   simp
  ·simp only[e,if_false] at h
   exact List.mem_cons_of_mem _ (FK h)
theorem FL: ∀ {l:List (Nat×Res)} {H:aa} {i:Nat} {s:Res},i∈l.map (·.1)→fR l H i=some s→(i,s) ∈l
 | (j,r)::l,H,i,s,hi,h=> by
  simp only[fR,aj] at h
  by_cases e:i=j
  ·subst e
   simp only[if_true] at h
   cases h
   simp
  ·simp only[e,if_false] at h
   simp[e] at hi
   refine List.mem_cons_of_mem _ (FL (H:=H) ?_ h)
   simpa using hi
theorem FJ: ∀ {l:List (Nat×Res)} {H:aa} {i:Nat},i∉l.map (·.1)→fR l H i=H i
 | [],H,i,_=> rfl
 | (j,r)::l,H,i,hi=> by
  simp only[List.map_cons,List.mem_cons,not_or] at hi
  simp only[fR,aj,hi.1,if_false]
  exact FJ hi.2
def qaE (B:DL X) (A:gq Z) (er:Y→D) (pre:X→Z→Prop) (post:X→Z→X→Y→Prop):PT:=fun d ds H K=> ∃id b x z ds',ds= .bptr id b 0::ds'∧A.dec ds'=some z∧H id=some (.box b (B.ce x))∧(∀p∈B.hp x,H p.1=some p.2)∧id∉B.ids∧pre x z∧
 ∀x' y,post x z x' y→K (er y) (aj (fR (B.hp x') H) id (some (.box b (B.ce x'))))
theorem NN (B:DL X) (A:gq Z) (er:Y→D) (pre:X→Z→Prop) (post:X→Z→X→Y→Prop):t7 (qaE B A er pre post):=fun d ds H K K' hk ⟨id,b,x,z,ds',h1,h2,h3,h4,h5,h6,h7⟩=> ⟨id,b,x,z,ds',h1,h2,h3,h4,h5,h6,fun x' y hp=> hk _ _ (h7 x' y hp)⟩
def qaF (B:DL X) (A:gq Z) (er:Y→D) (pre:X→Z→Prop) (post:X→Z→X→Y→Prop):Spc:= .gen _ (NN B A er pre post)
def It (B:DL X) (er:Y→D) (b:Nat) (post:X→Y→Prop) (r:D) (H:aa):Prop:= ∃x y,FrzTo (fun i=> if i=0∨i∈B.ids then none else H i) r (er y)∧H 0=some (.box b (B.ce x))∧(∀p∈B.hp x,H p.1=some p.2)∧post x y
def PO (cc:CC) (rs:List au) (S:Nat→Spc) (B:DL X) (A:gq Z) (er:Y→D) (pre:X→Z→Prop) (post:X→Z→X→Y→Prop):Prop:=
 ∀b x z,pre x z→vc S cc (qf rs fun r H'=> It B er b (post x z) r H') (dN (.bptr 0 b 0::A.view z)) (aj (fR (B.hp x) di) 0 (some (.box b (B.ce x))))
variable {P:Program} {S:Nat→Spc} {f:Nat} {im:List Nat} {cc:CC} {rs:List au} {N:Nat}
theorem yp {B:DL X} {A:gq Z} {er:Y→D} {pre:X→Z→Prop} {post:X→Z→X→Y→Prop} (h1i:0∉B.ids) (hS: ∀f,Tri P f (S f).pt) (h:ay P f im cc rs N) (hN: ∀z,(A.view z).length+1≤N) (hw:PO cc rs S B A er pre post):Tri P f (qaF B A er pre post).pt:=by
 obtain⟨qo,enter,fn,code,h1,h2,h3,h4,h5⟩:=h
 refine nV hS qo h1 h2 enter h3 h4 h5 ?_
 rintro ds H d K ⟨id,b,x,z,ds',rfl,hd,hid,hhp,hni,hp,hK⟩
 have hl:=A.le ds' z hd
 have h0: ∀i r,aj (fR (B.hp x) di) 0 (some (.box b (B.ce x))) i=some r→i=0∧r= .box b (B.ce x)∨i≠0∧(i,r) ∈B.hp x:=by
  intro i r h
  by_cases e:i=0
  ·subst e
   simp only[aj,if_true] at h
   cases h
   exact .inl ⟨rfl,rfl⟩
  ·simp only[aj,e,if_false] at h
   exact .inr ⟨e,FK h⟩
 have hk: ∀ {x:X} {i:Nat} {r:Res},(i,r) ∈B.hp x→i∈B.ids:=by
  intro x i r h
  rw[←B.keys x]
  exact List.mem_map.2 ⟨_,h,rfl⟩
 refine⟨by simp only[List.length_cons];rw[hl.1];exact hN z, .bptr 0 b 0::A.view z,aj (fR (B.hp x) di) 0 (some (.box b (B.ce x))),fun i=> if i=0 then id else i, .cons (.bptr _ _ _ _) hl,fun i r h=> ?_,fun i j r s h h' e=> ?_,_,hw b x z hp,?_⟩
 ·rcases h0 i r h with⟨rfl,rfl⟩ | ⟨e,hm⟩
  ·exact hid
  ·simp only[e,if_false]
   exact hhp _ hm
 ·rcases h0 i r h with⟨rfl,rfl⟩ | ⟨e1,hm⟩
  ·rcases h0 j s h' with⟨rfl,rfl⟩ | ⟨e2,hm2⟩
   ·rfl
   ·simp only[e2,if_true,if_false] at e
    subst e
    exact absurd (hk hm2) hni
  ·rcases h0 j s h' with⟨rfl,rfl⟩ | ⟨e2,hm2⟩
   ·simp only[e1,if_true,if_false] at e
    subst e
    exact absurd (hk hm) hni
   ·simpa only[e1,e2,if_false] using e
 ·rintro r H' ⟨x',y,hfr,hj,hhp',hpost⟩
  refine⟨er y,fun i=> if i=0∨i∈B.ids then none else H' i,aj (fR (B.hp x') H) id (some (.box b (B.ce x'))),fun i=> if i=id then some 0 else if i∈B.ids then some i else none,hfr,fun j q h=> ?_,hK x' y hpost,fun i s hi=> ?_,fun i j' k s q hi hj' e1 e2=> ?_⟩
  ·by_cases e:j=0∨j∈B.ids
   ·simp[e] at h
   ·simp only[e,if_false] at h
    refine⟨h,fun i hh=> e ?_⟩
    by_cases e1:i=id
    ·simp only[e1,if_true] at hh
     cases hh
     exact .inl rfl
    ·simp only[e1,if_false] at hh
     by_cases e2:i∈B.ids
     ·simp only[e2,if_true] at hh
      cases hh
      exact .inr e2
     ·simp[e2] at hh
  ·by_cases e:i=id
   ·subst e
    simp only[aj,if_true] at hi
    cases hi
    simpa using hj
   ·simp only[aj,e,if_false] at hi ⊢
    by_cases e2:i∈B.ids
    ·simp only[e2,if_true]
     exact hhp' _ (FL (by rw[B.keys];exact e2) hi)
    ·simp only[e2,if_false]
     rw[FJ (by rw[B.keys];exact e2)] at hi
     refine⟨hi,fun k q h he=> ?_⟩
     rcases h0 k q h with⟨rfl,rfl⟩ | ⟨e3,hm⟩
     ·simp only[if_true] at he
      exact e he.symm
     ·simp only[e3,if_false] at he
      subst he
      exact e2 (hk hm)
  ·by_cases c1:i=id
   ·by_cases c2:j'=id
    ·exact c1.trans c2.symm
    ·simp only[c1,if_true] at e1
     cases e1
     simp only[c2,if_false] at e2
     by_cases c3:j'∈B.ids
     ·simp only[c3,if_true] at e2
      cases e2
      exact absurd c3 h1i
     ·simp[c3] at e2
   ·simp only[c1,if_false] at e1
    by_cases c3:i∈B.ids
    ·simp only[c3,if_true] at e1
     cases e1
     by_cases c2:j'=id
     ·simp only[c2,if_true] at e2
      cases e2
      exact absurd c3 h1i
     ·simp only[c2,if_false] at e2
      by_cases c4:j'∈B.ids
      ·simp only[c4,if_true] at e2
       cases e2
       rfl
      ·simp[c4] at e2
    ·simp[c3] at e1
def JC {X:Type} (ce:X→List D):DL X:=⟨[],ce,fun _=> [],fun _=> rfl⟩
end
end Go.Gv

namespace Go.Gv
open Cod (enc dec)
@[simp] theorem ZX (s:Rp):Rp.mk s.s s.pos s.fault s.e=s:=by cases s;rfl
def lC (s:Rp):List D:= [enc s.s,enc s.pos,enc s.fault,enc s.e]
@[simp] theorem U1 (s:Rp):lC s= [enc s.s,enc s.pos,enc s.fault,enc s.e]:=id rfl
section
variable {Y Z:Type}
def OU:DL Rp:=JC lC
def Wd (A:gq Z) (er:Y→D) (pre:Rp→Z→Prop) (post:Rp→Z→Rp→Y→Prop):Spc:=qaF OU A er pre post
def qbb (er:Y→D) (pre:Rp→Z→Prop) (post:Rp→Z→Rp→Y→Prop) (id b:Nat) (r:Option Res) (o:Option Z) (H:aa) (K:D→aa→Prop):Prop:=
 ∃x,r=some (.box b (lC x))∧il o fun z=> pre x z∧ ∀x' y,post x z x' y→K (er y) (aj H id (some (.box b (lC x'))))
theorem LV {x y:Rp} (h:lC x=lC y):x=y:=by
 obtain⟨l,a,d,e⟩:=x
 obtain⟨l',a',d',e'⟩:=y
 simp only[lC,List.cons.injEq] at h
 obtain⟨h1,h2,h3,h4,_⟩:=h
 have h1:=cm h1
 have h2:=cm h2
 have h3:=cm h3
 have h4:=cm h4
 subst h1;subst h2;subst h3;subst h4
 rfl
@[simp] theorem OT (A:gq Z) (er:Y→D) (pre:Rp→Z→Prop) (post:Rp→Z→Rp→Y→Prop) (d i b:Nat) (ds:List D) (H:aa) (K:D→aa→Prop): (Wd A er pre post).pt d (.bptr i b 0::ds) H K=qbb er pre post i b (H i) (A.dec ds) H K:=by
 refine propext ⟨fun h=> ?_,fun h=> ?_⟩
 ·obtain⟨id,b',x,z,ds',h1,h2,h3,h4,h5,h6,h7⟩:=h
  cases h1
  refine⟨x,h3,?_⟩
  rw[h2]
  exact⟨h6,h7⟩
 ·obtain⟨x,h1,h2⟩:=h
  cases hz:A.dec ds with
  | none=> rw[hz] at h2;exact h2.elim
  | some z=> rw[hz] at h2;exact⟨i,b,x,z,ds,rfl,hz,h1,fun p hp=> by simp[OU,JC] at hp,by simp[OU,JC],h2.1,h2.2⟩
def vH (er:Y→D) (b:Nat) (post:Rp→Y→Prop) (r:D) (H:aa):Prop:=It OU er b post r H
theorem vo {er:Y→D} {b:Nat} {post:Rp→Y→Prop} {r:D} {H:aa} (x:Rp) (y:Y) (hr:FrzTo (fun i=> if i=0 then none else H i) r (er y)) (h0:H 0=some (.box b (lC x))) (hq:post x y):vH er b post r H:=
 ⟨x,y,by simpa [OU,JC] using hr,h0,fun p hp=> by simp[OU,JC] at hp,hq⟩
def mT (cc:CC) (rs:List au) (S:Nat→Spc) (A:gq Z) (er:Y→D) (pre:Rp→Z→Prop) (post:Rp→Z→Rp→Y→Prop):Prop:=
 ∀b x z,pre x z→vc S cc (qf rs fun r H'=> vH er b (post x z) r H') (dN (.bptr 0 b 0::A.view z)) (aj di 0 (some (.box b (lC x))))
variable {P:Program} {S:Nat→Spc} {f:Nat} {im:List Nat} {cc:CC} {rs:List au} {N:Nat}
theorem Ga {A:gq Z} {er:Y→D} {pre:Rp→Z→Prop} {post:Rp→Z→Rp→Y→Prop} (hS: ∀f,Tri P f (S f).pt) (h:ay P f im cc rs N) (hN: ∀z,(A.view z).length+1≤N) (hw:mT cc rs S A er pre post):Tri P f (Wd A er pre post).pt:=
 yp (by simp[OU,JC]) hS h hN fun b x z hp=> hw b x z hp
end
section
variable {Y Z:Type}
def JH (A:gq Z) (er:Y→D) (F:Rp→Z→Option (Rp×Y)):Spc:=Wd A er (fun s z=> ∃r,F s z=some r) (fun s z s' y=> F s z=some (s',y))
def Kt (er:Y→D) (F:Rp→Z→Option (Rp×Y)) (id b:Nat) (r:Option Res) (o:Option Z) (H:aa) (K:D→aa→Prop):Prop:=
 ∃x,r=some (.box b (lC x))∧il o fun z=> il (F x z) fun q=> K (er q.2) (aj H id (some (.box b (lC q.1))))
@[congr] theorem Tv {er:Y→D} {F:Rp→Z→Option (Rp×Y)} {id b:Nat} {r r':Option Res} {o o':Option Z} {H:aa} {K:D→aa→Prop} (h1:r=r') (h2:o=o'):Kt er F id b r o H K=Kt er F id b r' o' H K:=by subst h1;subst h2;rfl
theorem O0 {F:Option (Rp×Y)} {k:Rp→Y→Prop} : ((∃r,F=some r)∧ ∀x' y,F=some (x',y)→k x' y)=il F fun q=> k q.1 q.2:=by
 cases F with
 | none=>
   refine propext (Iff.intro (fun h=> ?_) (fun h=> ?_))
   ·obtain⟨⟨r,h⟩,_⟩:=h
    cases h
   ·exact False.elim h
 | some r=>
   refine propext (Iff.intro (fun h=> h.2 _ _ rfl) (fun h=> ⟨⟨_,rfl⟩,fun x' y e=> ?_⟩))
   cases e
   exact h
@[simp] theorem Wb (A:gq Z) (er:Y→D) (F:Rp→Z→Option (Rp×Y)) (d i b:Nat) (ds:List D) (H:aa) (K:D→aa→Prop): (JH A er F).pt d (.bptr i b 0::ds) H K=Kt er F i b (H i) (A.dec ds) H K:=by
 unfold JH Kt
 rw[OT]
 unfold qbb
 refine propext (exists_congr fun x=> and_congr_right fun _=> ?_)
 cases A.dec ds with
 | none=> exact Iff.rfl
 | some z=> exact iff_of_eq O0
@[simp] theorem Wc (er:Y→D) (F:Rp→Z→Option (Rp×Y)) (id b:Nat) (l:B) (p dp e:Int) (o:Option Z) (H:aa) (K:D→aa→Prop):
 Kt er F id b (some (.box b [.v (.string l), .v (.int .i64 p), .v (.int .i64 dp), .v (.int .i64 e)])) o H K=il o fun z=> il (F ⟨l,p,dp,e⟩ z) fun q=> K (er q.2) (aj H id (some (.box b (lC q.1)))):=by
 refine propext ⟨fun⟨x,h1,h2⟩=> ?_,fun h=> ⟨⟨l,p,dp,e⟩,rfl,h⟩⟩
 have e1:lC ⟨l,p,dp,e⟩=lC x:=by
  have:=Option.some.inj h1
  exact(Res.box.inj this).2
 have:=LV e1
 subst this
 exact h2
variable {P:Program} {S:Nat→Spc} {f:Nat} {im:List Nat} {cc:CC} {rs:List au} {N:Nat}
theorem ek {A:gq Z} {er:Y→D} {F:Rp→Z→Option (Rp×Y)} (hS: ∀f,Tri P f (S f).pt) (h:ay P f im cc rs N) (hN: ∀z,(A.view z).length+1≤N)
 (hw:mT cc rs S A er (fun s z=> ∃r,F s z=some r) (fun s z s' y=> F s z=some (s',y))):Tri P f (JH A er F).pt:=Ga hS h hN hw
end
end Go.Gv
