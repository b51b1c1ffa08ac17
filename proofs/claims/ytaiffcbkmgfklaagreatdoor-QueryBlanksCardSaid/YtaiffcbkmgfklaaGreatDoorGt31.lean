/- A part of the framework and of the walks: W61 W68 W69 W70. -/
import Derived.WalkKit
import Derived.Lib.Bytealg
import Derived.Shelf.Abstract
import Derived.Shelf.RegionOpen
import Derived.TacticsInMore
import Derived.Lib.Builder
import Derived.Lib.AppendStr
import Derived.Lib.FrozenHead
import Derived.Lib.Strings
import Derived.Lib.Walk
import Derived.Lib.Slices
import Derived.Shelf.RegionOpenPlain
import Derived.Test.YtaiffcbkmgfklaaGreatDoorGt29
import Derived.Test.YtaiffcbkmgfklaaGreatDoorGt30
import Derived.Test.YtaiffcbkmgfklaaGreatDoorGt23
import Derived.Test.YtaiffcbkmgfklaaGreatDoorGt26
set_option linter.unusedSimpArgs false
set_option linter.unusedVariables false
set_option maxRecDepth 100000

namespace Go.Gv
open Cod (enc dec)
variable {S S0:Nat→Spc}
theorem RQ {s:B} {i:Nat} (h:br s i=s.size):bV s i=(⟨0,E0,s.size⟩,(s.size:Int)):=by
 have:s.data[br s i]?=none:=by
  rw[h]
  exact Array.getElem?_eq_none (Nat.le_refl _)
 unfold bV
 simp only[this]
 rw[h]
theorem UM {s:B} {i j:Nat} {c:UInt8} (hj:br s i=j) (h:s.data[j]?=some c):bV s i=
 if yl ⟨c.toNat⟩ then(⟨2,s.extract j (qI s j),j⟩,(qI s j:Int))
 else if lr ⟨c.toNat⟩ then(⟨3,s.extract j (pp s j),j⟩,(pp s j:Int))
 else if c.toNat=34 then(if(wL s j).2 < 0 then(⟨1,E0,j⟩,(s.size:Int)) else(⟨4,(wL s j).1,j⟩,(wL s j).2))
 else match signsL.find? (gF s j) with
  | some x=> (⟨5,x,j⟩,j+x.size)
  | none=> (⟨1,E0,j⟩,(j:Int)):=by
 unfold bV
 simp only[hj,h]
 rfl
abbrev wC:Spc:=dt (a2 B Int) (fun x=> (0≤x.2∧x.2 < x.1.size)∧x.1.size≤100000) (IR (Y:=B) (Z:=Int)) fun x y=> y=wL x.1 x.2.toNat
abbrev xN:Spc:=dt (a2 B Int) (fun x=> (0≤x.2∧x.2≤x.1.size)∧x.1.size≤100000) (IR (Y:=Qc) (Z:=Int)) fun x y=> y=bV x.1 x.2.toNat
theorem Js (a1':S0 fU=zo) (a2':S0 eR=CV) (a3':S0 bR=lK) (h1:S iH=HV S0) (h2:S eg=nI) (h3:S bR=lK) (h4:S iI=wC) (h5:S eC=kt) (h6:S eB=s_indexByte):
 Walk sj rA S (a2 B Int) (fun x=> (0≤x.2∧x.2≤x.1.size)∧x.1.size≤100000) (IR (Y:=Qc) (Z:=Int)) fun x y=> y=bV x.1 x.2.toNat:=by
 rintro⟨s,i⟩ ⟨⟨h0,hi⟩,hbig⟩
 simp only at h0 hi hbig
 have f1:FunIs S0 (.clo fU []) Bj:=qN a1' fun _=> trivial
 have f2:FunIs S0 (.clo eR []) vQ:=qN a2' fun _=> trivial
 have f3:FunIs S0 (.clo bR []) lr:=qN a3' fun _=> trivial
 have r1:Lp S0 (s,i, .clo fU [],()):=⟨⟨_,f1⟩,h0,hi⟩
 simp[sj,rA,h1,r1]
 intro b y hy
 have hy:y=gS Bj s i.toNat:=hy Bj f1
 have hj:gS Bj s i.toNat=br s i.toNat:=xR _ _ _
 have hr:=kT Bj (s:=s) (i:=i.toNat) (by omega)
 rw[hj] at hy hr
 obtain⟨j,hjj⟩: ∃j,j=br s i.toNat:=⟨_,rfl⟩
 rw[←hjj] at hy hr
 subst hy
 refine gO (X:=Unit) [0,1,4] [4] (fun _=> j < s.size∧(s.size:Int)≤9223372036854775807) (fun _=> []) (fun _=> []) ?_ ?_
 ·simp
  refine fun hsz=> ⟨fun he=> ⟨⟨0,E0,j⟩, .same _,?_⟩,fun h=> ⟨by omega,hsz⟩⟩
  have he:j=s.size:=by omega
  rw[RQ (by rw[←hjj];exact he),he]
 ·rintro - ⟨hlt,hsz⟩
  obtain⟨c,hc⟩: ∃c,s.data[j]?=some c:=⟨s.data[j]'hlt,Array.getElem?_eq_getElem hlt⟩
  have hl:=UM hjj.symm hc
  have r2:Lp S0 (s,(j:Int), .clo eR [],()):=⟨⟨_,f2⟩,by show(0:Int)≤j;omega,by show(j:Int)≤s.size;omega⟩
  have r3:Lp S0 (s,(j:Int), .clo bR [],()):=⟨⟨_,f3⟩,by show(0:Int)≤j;omega,by show(j:Int)≤s.size;omega⟩
  have hgc:s.data[j]'hlt=c:=by
   have:=Array.getElem?_eq_some_iff.1 hc
   exact this.2
  simp[hlt,hc,hgc]
  refine gO (X:=Unit) [0,1,4,6] [4] (fun _=> yl ⟨c.toNat⟩=false∧lr ⟨c.toNat⟩=false∧c.toNat≠34) (fun _=> []) (fun _=> []) ?_ ?_
  ·have e2: ∀y:Int,Oc S0 (s,(j:Int), .clo eR [],()) y→y=qI s j:=fun y hy=> by
    have:y=gS vQ s j:=hy vQ f2
    rw[this];exact congrArg _ (xS _ _ _)
   have e3: ∀y:Int,Oc S0 (s,(j:Int), .clo bR [],()) y→y=pp s j:=fun y hy=> by
    have:y=gS lr s j:=hy lr f3
    rw[this];exact congrArg _ (ve _ _ _)
   have g2:j≤qI s j∧qI s j≤s.size:=by
    have:=kT vQ hr.2
    rwa [show gS vQ s j=qI s j from xS _ _ _] at this
   have g3:j≤pp s j∧pp s j≤s.size:=by
    have:=kT lr hr.2
    rwa [show gS lr s j=pp s j from ve _ _ _] at this
   simp[h1,h2,h3,h4,r2,r3,hlt,hbig,IR, -Bool.forall_bool]
   refine⟨fun hb y hy=> ?_,fun hb=> ⟨fun hd y hy=> ?_,fun hd=> ⟨fun hq=> ?_,fun hq=> ?_⟩⟩⟩
   ·have:=e2 y hy
    subst this
    refine⟨by omega,by omega,⟨2,s.extract j (qI s j),j⟩, .same _,?_⟩
    rw[hl,if_pos hb]
   ·have:=e3 y hy
    subst this
    refine⟨by omega,by omega,⟨3,s.extract j (pp s j),j⟩, .same _,?_⟩
    rw[hl,if_neg (by rw[hb];simp),if_pos hd]
   ·have hq':c.toNat=34:=by omega
    refine⟨fun hn _=> ⟨⟨1,E0,j⟩, .same _,?_⟩,fun hn=> ⟨⟨4,(wL s j).1,j⟩, .same _,?_⟩⟩
    ·rw[hl,if_neg (by rw[hb];simp),if_neg (by rw[hd];simp),if_pos hq',if_pos hn]
    ·rw[hl,if_neg (by rw[hb];simp),if_neg (by rw[hd];simp),if_pos hq',if_neg (by omega)]
   ·exact⟨hb,hd,by omega⟩
  ·rintro - ⟨n1,n2,n3⟩
   have hl:bV s i.toNat=match signsL.find? (gF s j) with
    | some x=> (⟨5,x,j⟩,j+x.size)
    | none=> (⟨1,E0,j⟩,(j:Int)):=by
    rw[hl,if_neg (by rw[n1];simp),if_neg (by rw[n2];simp),if_neg n3]
   refine gO (X:=Unit) [0,1,4,6] [4] (fun _=> ∀x∈twoL,gF s j x=false) (fun _=> []) (fun _=> []) ?_ ?_
   ·simp
    have hjs:j≤s.size:=hr.2
    have two: ∀x∈twoL,x.size=2:=fun x hx=> by simp[twoL] at hx;rcases hx with rfl | rfl | rfl | rfl <;> rfl
    refine aJ (X:=Unit) [0,1,4,6,71] [4] 4 (fun k _=> ∀y∈twoL.take k,gF s j y=false) (fun _=> []) (fun _=> []) () (by simp) (by simp) (by omega) (by simp) (by simp) (by simp) (by simp) (by simp) ?_ ?_
    ·rintro k -hk hP
     have key: ∀x,twoL[k]?=some x→(gF (s.extract j s.size) 0 x=true→InR .i64 ((j:Int) +2)∧ ∃y:Qc,y=⟨5,x,j⟩∧(y,(j:Int) +2)=bV s i.toNat)∧(gF (s.extract j s.size) 0 x=false→ ∀y∈twoL.take (k+1),gF s j y=false):=fun x hx=> by
      rw[Ri hjs]
      refine⟨fun h=> ?_,fun h y hy=> ?_⟩
      ·have h2:=two x (List.mem_of_getElem? hx)
       have h3:j+x.size≤s.size:=by unfold gF at h;exact(of_decide_eq_true h).1
       refine⟨by simp only[InR];omega,_,rfl,?_⟩
       rw[hl,UX hx hP h]
       show _=(_,(j:Int) +x.size)
       rw[h2]
       rfl
      ·rw[cp hx] at hy
       rcases List.mem_append.1 hy with hy | hy
       ·exact hP y hy
       ·rw[List.mem_singleton.1 hy];exact h
     obtain rfl | rfl | rfl | rfl:k=0∨k=1∨k=2∨k=3:=by omega
     ·have key:=key _ rfl
      simp[h5,hjs, -Bool.forall_bool]
      refine⟨fun h=> ?_,fun h=> key.2 h⟩
      obtain⟨k1,y,rfl,k2⟩:=key.1 h
      exact⟨k1,_, .same _,k2⟩
     ·have key:=key _ rfl
      simp[h5,hjs, -Bool.forall_bool]
      refine⟨fun h=> ?_,fun h=> key.2 h⟩
      obtain⟨k1,y,rfl,k2⟩:=key.1 h
      exact⟨k1,_, .same _,k2⟩
     ·have key:=key _ rfl
      simp[h5,hjs, -Bool.forall_bool]
      refine⟨fun h=> ?_,fun h=> key.2 h⟩
      obtain⟨k1,y,rfl,k2⟩:=key.1 h
      exact⟨k1,_, .same _,k2⟩
     ·have key:=key _ rfl
      simp[h5,hjs, -Bool.forall_bool]
      refine⟨fun h=> ?_,fun h=> key.2 h⟩
      obtain⟨k1,y,rfl,k2⟩:=key.1 h
      exact⟨k1,_, .same _,k2⟩
    ·rintro -hP
     simp
     exact fun x hx=> hP x (by rw[show twoL.take 4=twoL from rfl];exact hx)
   ·rintro -htw
    have hf:signsL.find? (gF s j)=if c∈oneS.data.toList then some ⟨#[c]⟩ else none:=by rw[Si htw,KE hc]
    rw[hf] at hl
    have hm:=R1 oneS c
    unfold oneS at hm hl
    have c256: (c.toNat:Int) < 256:=by have:=c.toNat_lt;omega
    simp[h6,c256]
    refine⟨fun h=> ⟨by simp only[InR];omega,by omega,by omega,by simp only[InR];omega,⟨5,s.extract j (j+1),j⟩, .same _,?_⟩,fun h=> ⟨⟨1,E0,j⟩, .same _,?_⟩⟩
    ·rw[hl,if_pos (hm.1 h),BZ hc]
     rfl
    ·rw[hl,if_neg (fun h'=> by have:=hm.2 h';omega)]
end Go.Gv

namespace Go.Gv
open Cod (enc dec)
variable {S S0:Nat→Spc}
def P1 (l:List UInt8):List D:=l.map fun c=> .v (.int .u8 c.toNat)
theorem S9 (c:UInt8):I3 (.v (.int .u8 c.toNat))=some c:=by simp[I3]
theorem B0 (l:List UInt8):Vd (P1 l)=true:=by
 simp[Vd,P1,List.all_eq_true]
 intro c _
 rw[S9];rfl
theorem Vb (l:List UInt8):Vc (P1 l)=⟨l.toArray⟩:=by
 unfold Vc P1
 rw[List.map_map]
 congr 2
 conv=> rhs;rw[←List.map_id l]
 refine List.map_congr_left fun c _=> ?_
 simp only[Function.comp]
 rw[S9];rfl
theorem rD: ∀ (n m:Nat) (s:B) (j:Nat) (v:B),s.size -j≤n→s.size -j≤m→ni n s j v=ni m s j v
 | 0,0,s,j,v,_,_=> rfl
 | 0,m+1,s,j,v,h,_=> by
   have:s.data[j]?=none:=Array.getElem?_eq_none (by show s.size≤j;omega)
   simp only[ni,this]
 | n+1,0,s,j,v,_,h=> by
   have:s.data[j]?=none:=Array.getElem?_eq_none (by show s.size≤j;omega)
   simp only[ni,this]
 | n+1,m+1,s,j,v,h,h'=> by
   simp only[ni]
   rw[rD n m s (j+1) _ (by omega) (by omega),rD n m s (j+2) _ (by omega) (by omega)]
theorem zC {s:B} {j:Nat} {v:B} {c:UInt8} (hc:s.data[j]?=some c):tS s j v=if c.toNat=34 then(match s.data[j+1]? with
 | some d=> if d.toNat=34 then tS s (j+2) (v++s.extract (j+1) (j+2)) else some (j,v)
 | none=> some (j,v)) else tS s (j+1) (v++s.extract j (j+1)):=by
 have hlt:j < s.size:=(Array.getElem?_eq_some_iff.1 hc).1
 unfold tS
 rw[rD (s.size -j) (s.size - (j+1) +1) s j v (by omega) (by omega)]
 simp only[ni,hc]
 rw[rD (s.size - (j+2)) (s.size - (j+1)) s (j+2) _ (by omega) (by omega)]
 by_cases h:c.toNat=34
 ·rw[if_pos h,if_pos h]
  cases s.data[j+1]? <;> rfl
 ·rw[if_neg h,if_neg h]
theorem Rc {s:B} {j:Nat} {v:B} (h:s.size≤j):tS s j v=none:=by
 unfold tS
 rw[show s.size -j=0 by omega]
 rfl
theorem JW (l:List UInt8) (c:UInt8): (⟨l.toArray⟩:B) ++ ⟨#[c]⟩=⟨(l++ [c]).toArray⟩:=by
 show ByteArray.append _ _=_
 apply ByteArray.ext
 show((⟨l.toArray⟩:B) ++ (⟨#[c]⟩:B)).data=_
 rw[ByteArray.data_append]
 simp
theorem Cj:Walk m6 mR S (a2 B Int) (fun x=> (0≤x.2∧x.2 < x.1.size)∧x.1.size≤100000) (IR (Y:=B) (Z:=Int)) fun x y=> y=wL x.1 x.2.toNat:=by
 rintro⟨s,i⟩ ⟨⟨h0,hi⟩,hb⟩
 simp only at h0 hi hb
 simp[m6,mR]
 refine⟨by simp only[InR];omega,?_⟩
 refine gB (X:=Nat×Value×List UInt8) [0] [] (fun x=> i.toNat < x.1∧x.2.2.length≤x.1∧x.1≤s.size+1∧tS s x.1 ⟨x.2.2.toArray⟩=tS s (i.toNat+1) ⟨#[]⟩) (fun x=> [(6, .own 43 x.2.1),(7,enc (x.1:Int))]) (fun x=> [(43, .row x.2.1 tv 1 (P1 x.2.2))]) (fun x=> s.size+1 -x.1) (i.toNat+1, .slice none 0 0, []) ⟨by omega,by simp,by omega,rfl⟩ (by simp;omega) (by simp[isNilRow,P1]) ?_
 rintro⟨k,v,l⟩ ⟨hk,hl,hks,hq⟩
 simp only at hk hl hks hq
 simp
 have hlen: (P1 l).length=l.length:=by simp[P1]
 have done: ∀ {c:UInt8},s.data[k]?=some c→c.toNat=34→(∀d,s.data[k+1]?=some d→d.toNat≠34)→(Vc (P1 l),(k:Int) +1)=wL s i.toNat:=by
  intro c hc h34 hno
  unfold wL
  rw[←hq,zC hc,if_pos h34,Vb]
  cases hd:s.data[k+1]? with
  | none=> rfl
  | some d=>
    simp only
    rw[if_neg (hno d hd)]
 have more: ∀ (v:Value) (a:Nat) (c:UInt8),k < a→a≤s.size+1→tS s a ⟨(l++ [c]).toArray⟩=tS s (i.toNat+1) ⟨#[]⟩→ ∀z:Int,z=a→
  ∃ (a:Nat) (a_1:Value) (b:List UInt8),(i.toNat < a∧b.length≤a∧a≤s.size+1∧tS s a ⟨b.toArray⟩=tS s (i.toNat+1) ⟨#[]⟩)∧
   ((v=a_1∧z= ↑a)∧(v=a_1∧P1 l++ [D.v (Value.int IntKind.u8 ↑c.toNat)]=P1 b∨isNilRow (Res.row a_1 tv 1 (P1 b))))∧s.size+1 -a < s.size+1 -k:=by
  intro v a c h1 h2 h3 z hz
  exact⟨a,v,l++ [c],⟨by omega,by simp;omega,h2,h3⟩,⟨⟨rfl,hz⟩, .inl ⟨rfl,by simp[P1]⟩⟩,by omega⟩
 refine fun hsz=> ⟨fun hlt=> ⟨hlt,fun c hc=> ⟨fun h34=> ⟨by simp only[InR];omega,fun _=> ⟨fun hne=> ⟨by simp only[InR];omega,by omega,by omega,fun d hd=> ⟨fun hn=> ⟨B0 l,by simp only[InR];omega,?_⟩,fun hy=> ⟨by simp only[InR];omega,by omega,by omega,fun d' hd'=> ⟨by omega,fun v=> ⟨by simp only[InR];omega,?_⟩⟩⟩⟩⟩,fun he=> ⟨B0 l,by simp only[InR];omega,?_⟩⟩⟩,fun h34=> ⟨hlt,fun c' hc'=> ⟨by omega,fun v=> ⟨by simp only[InR];omega,?_⟩⟩⟩⟩⟩,fun hge=> ?_⟩
 ·exact done hc (by omega) fun d' hd'=> by rw[hd] at hd';cases hd';omega
 ·rw[hd] at hd'
  cases hd'
  refine more v (k+2) d (by omega) (by omega) ?_ _ (by omega)
  rw[←hq,zC hc,if_pos (by omega),hd]
  simp only
  rw[if_pos (by omega),BZ hd,JW]
 ·exact done hc (by omega) fun d' hd'=> by
   have:=(Array.getElem?_eq_some_iff.1 hd').1
   have:k+1 < s.size:=this
   omega
 ·rw[hc] at hc'
  cases hc'
  refine more v (k+1) c (by omega) (by omega) ?_ _ (by omega)
  rw[←hq,zC hc,if_neg (by omega),BZ hc,JW]
 ·unfold wL
  rw[←hq,Rc hge]
end Go.Gv

namespace Go.Gv
open Cod (enc dec)
open Go.Proofs Go.RowKit
theorem R2 (s:B) (c:Int) (c0:0≤c) (c1:c < 256):Lib.indexByte s.data.toList c.toNat.toUInt8=Mw s ⟨c⟩:=by
 unfold Mw
 have e: ∀x:UInt8,(x==c.toNat.toUInt8)=decide ((x.toNat:Int)=c):=fun x=> by
  have h1:c.toNat.toUInt8.toNat=c.toNat:=by
   rw[Nat.toUInt8,UInt8.toNat_ofNat']
   omega
  rw[Bool.eq_iff_iff]
  simp only[beq_iff_eq,decide_eq_true_eq]
  constructor
  ·rintro rfl
   omega
  ·intro h
   exact UInt8.toNat_inj.1 (by omega)
 have key: ∀l:List UInt8,Lib.indexByte l c.toNat.toUInt8=match l.findIdx? (fun x=> decide ((x.toNat:Int)=c)) with
  | some k=> (k:Int)
  | none=> -1:=by
  intro l
  induction l with
  | nil=> rfl
  | cons x l ih=>
    rw[Lib.indexByte,List.findIdx?_cons,e x]
    by_cases h: (x.toNat:Int)=c
    ·simp[h]
    ·simp only[h,decide_false,Bool.false_eq_true,if_false]
     rw[ih]
     cases l.findIdx? (fun x=> decide ((x.toNat:Int)=c)) with
     | none=> rfl
     | some k=>
       have: ¬ ((k:Int)= -1):=by omega
       simp[this]
 exact key _
theorem BL (s:ByteArray) (c:Int) (w:World):Calls Tryz.prog 180 #[.string s, .int .u8 c] w fun e w'=> e= .returned (.int .i64 (Lib.indexByte s.data.toList c.toNat.toUInt8))∧w'=w:=by
 go_enter Tryz.func180,Tryz.ntmps180
 go_wp2
 rw[run_callFunc_extern Tryz.func190 (by kernel_rfl) (by kernel_rfl) (by kernel_rfl) (e:=Extern.BytealgIndexByte.indexByte) (by kernel_rfl),Lib.run_indexByteString]
 simp only[Result.andThen]
 rw[Oper.upon_value]
 go_wp2
 go_ret
 exact⟨rfl,rfl⟩
theorem qq:Tri Tryz.prog cm s_indexByte.pt:=by
 refine Gm (nD Tryz.func180 (by kernel_rfl) rfl) fun tp I w vs x hp hI hl hv=> ?_
 obtain⟨s,⟨c⟩⟩:=x
 obtain⟨c0,c1⟩:=hp
 have hview: (a2 B U8).view (s,⟨c⟩)= [.v (.string s), .v (.int .u8 c)]:=rfl
 rw[hview] at hl hv
 match vs,hl with
 | [v0,v1],_=>
   have e0:=Nf (hv 0 v0 _ rfl rfl)
   have e1:=Nf (hv 1 v1 _ rfl rfl)
   subst e0;subst e1
   refine(BL s c w).mono ?_
   rintro e w' ⟨rfl,rfl⟩
   refine⟨_,Mw s ⟨c⟩,rfl,rfl,fun tp' I'=> ?_,Below.refl _ _,Nat.le_refl _⟩
   rw[R2 s c c0 c1]
   exact .int _ _
end Go.Gv

namespace Go.Gv
open Cod (enc dec)
open Go.Proofs Go.RowKit
theorem ES (b:Nat) (w:World) (h0:w.cell? ⟨b,0,none⟩=some (.pointer (some ⟨b,0,none⟩))):
 Calls Tryz.prog 119 #[.pointer (some ⟨b,0,none⟩)] w fun e w'=> e= .returned (.tuple #[])∧w'=w:=by
 obtain⟨j,hj,hjs⟩:=Option.map_eq_some_iff.1 (show(Tryz.prog.info? 106).map (·.size)=some 2 by kernel_rfl)
 have t104:Tryz.prog.underlying 104=some (.pointer 106):=by kernel_rfl
 go_enter Tryz.func119,Tryz.ntmps119
 go_wp2
 rw[Lib.run_neq_ptr_same w _ t104 hj]
 go_wp2
 go_end0
 exact⟨rfl,rfl⟩
theorem BK (b:Nat) (w:World) (h0:w.cell? ⟨b,0,none⟩=some (.pointer none)) (hsh:w.shape? b=some (108,2)) (hfz:w.frozen? ⟨b,0,none⟩=false):
 Calls Tryz.prog 119 #[.pointer (some ⟨b,0,none⟩)] w fun e w'=> e= .returned (.tuple #[])∧w'=w.setCell ⟨b,0,none⟩ (.pointer (some ⟨b,0,none⟩)):=by
 obtain⟨j,hj,hjs⟩:=Option.map_eq_some_iff.1 (show(Tryz.prog.info? 106).map (·.size)=some 2 by kernel_rfl)
 have t104:Tryz.prog.underlying 104=some (.pointer 106):=by kernel_rfl
 have t155:Tryz.prog.underlying 155=some .unsafePointer:=by kernel_rfl
 have hlies:liesAt Tryz.prog Tryz.prog.depth 108 (2/Tryz.prog.cellsOf 108) 0 106 1=true:=by kernel_rfl
 go_enter Tryz.func119,Tryz.ntmps119
 go_wp2
 rw[Lib.run_to_unsafe w ⟨b,0,none⟩ t104 t155 hj (by rw[hjs];decide) hsh (Nat.zero_lt_succ 1)]
 simp only[Result.andThen]
 rw[Oper.upon_value]
 go_wp2
 rw[run_callFunc_extern Tryz.func148 (by kernel_rfl) (by kernel_rfl) (by kernel_rfl) (e:=Extern.AbiNoEscape.same) (by kernel_rfl)]
 rw[Lib.run_noEscape]
 simp only[Result.andThen]
 rw[Oper.upon_value]
 go_wp2
 rw[Lib.run_from_unsafe w ⟨b,0,none⟩ t155 t104 hj hsh hlies]
 simp only[Result.andThen]
 rw[Oper.upon_value]
 go_wp2
 go_end0
 exact⟨rfl,rfl⟩
section
variable {P:Program} {w:World}
theorem Lj (t u ty e:TypeId) (i:TypeInfo) (ht:P.underlying t=some (.slice e)) (hu:P.underlying u=some .string) (hi:P.info? e=some i) (hz:i.zero=some (.int .u8 0)) (hsize:i.size=1) (hby:i.bytes=1)
 (v:Value) (n:Nat) (xs:List Value) (hown:w.ownsRow 0 e 1 v n xs) (s:ByteArray) (hb:n+s.size≤140737488355328):
 ∃v' w',(Builtin.append_ #[t,u] ty #[v, .string s]).run P w= .ok v' w'∧w'.ownsRow 0 e 1 v' (n+s.size) (xs++Lib.strCells s)∧GrB w w' v.ownBlock∧(∀b,v'.ownBlock=some b→w.heap.size≤b∨v.ownBlock=some b):=by
 have hm:n+s.size≤maxLen:=by simp only[maxLen];omega
 have hxl:xs.length=n:=by simpa using hown.1
 have hlen: (xs++Lib.strCells s).length=(n+s.size) *1:=by rw[List.length_append,hxl,Lib.strCells_length,Nat.mul_one]
 have grown: ∀ (old:Nat),old < n+s.size→ ∀ (row:Option Nat),
  (w.drew.alloc (.cells (xs.toArray++ (Lib.strCells s).toArray++Builtin.zeroCells (Value.int .u8 0).cells (grownCap w (n+s.size) old e - (n+s.size))) e)).ownsRow 0 e 1
    (.slice (some ⟨w.heap.size,0,none⟩) (n+s.size) (grownCap w (n+s.size) old e)) (n+s.size) (xs++Lib.strCells s)∧
  GrB w (w.drew.alloc (.cells (xs.toArray++ (Lib.strCells s).toArray++Builtin.zeroCells (Value.int .u8 0).cells (grownCap w (n+s.size) old e - (n+s.size))) e)) row:=by
  intro old ho row
  have hge:=grownCap_ge w (n+s.size) old e
  have hcm:grownCap w (n+s.size) old e≤maxLen:=grownCap_le_maxLen w (n+s.size) old e hm
  refine⟨⟨hlen, .inr ⟨w.heap.size,_,_,rfl,Nat.zero_le _,heap_alloc_new w.drew _,hge,hcm,?_,?_⟩⟩,⟨⟨rfl,rfl,rfl,by simp,fun k hk _=> RowKit.Below.heap_alloc w.drew _ k hk⟩,Nat.le_succ _⟩⟩
  ·have hz1: (Value.int IntKind.u8 0).cells.size=1:=rfl
   simp only[Array.size_append,List.size_toArray,size_zeroCells,hz1,hxl,Lib.strCells_length]
   omega
  ·simp only[Array.toList_append,List.append_assoc]
   rw[←List.append_assoc,←hlen]
   exact List.take_left
 rcases hown.2 with⟨rfl,rfl⟩ | ⟨g,cap,cur,rfl,hbg,hg,hnc,hcm,hcs,htake⟩
 ·have hx:xs= []:=List.eq_nil_of_length_eq_zero hxl
  subst hx
  by_cases hm0:s.size=0
  ·have hn:Lib.strCells s= []:=List.eq_nil_of_length_eq_zero (by rw[Lib.strCells_length];exact hm0)
   refine⟨.slice none 0 0,w,?_,by rw[hm0,hn];exact World.ownsRow_nil w 0 e 1,eK _ _,fun b hb=> by simp[Value.ownBlock] at hb⟩
   have hf:=Lib.run_firstCells_string (P:=P) w 1 s
   rw[hm0] at hf
   simp[Builtin.append_,run_underlying ht,run_underlying hu,sizeOf,typeInfo,hi,hsize,Builtin.lenOf,hm0,hf]
  ·have hr:=run_append_nil_string (P:=P) w t u ty e i (.int .u8 0) ht hu hi hz s (by omega) (by simp only[maxLen] at hm;omega) (by rw[hby];omega)
   have hgr:=grown 0 (by omega) (Value.ownBlock (.slice none 0 0))
   simp only[Nat.zero_add,List.nil_append,Array.empty_append] at hgr ⊢
   have e1: (s.data.map fun b=> Value.int .u8 b.toNat)=(Lib.strCells s).toArray:=by
    apply Array.ext'
    simp[Lib.strCells]
   rw[e1] at hr
   exact⟨_,_,hr,hgr.1,hgr.2,fun b hb=> .inl (by simp[Value.ownBlock] at hb;omega)⟩
 ·by_cases hroom:n+s.size≤cap
  ·have hcs':cur.size=cap:=by simpa using hcs
   have hr:=Lib.run_append_room_string (P:=P) w t u ty e i ht hu hi hsize g n cap cur hg s hroom (by omega)
   refine⟨_,_,hr,⟨hlen, .inr ⟨g,cap,_,rfl,hbg,setRow_heap w g cur _ e _ hg,hroom,hcm,?_,?_⟩⟩,iF _ _ _,fun b hb=> .inr hb⟩
   ·simp only[List.size_toArray,List.length_append,List.length_take,List.length_drop,Array.length_toList,Lib.strCells_length]
    omega
   ·have ht':cur.toList.take n=xs:=by simpa using htake
    rw[ht',←hlen]
    exact List.take_left
  ·have holds: ∀j u,xs[j]?=some u→w.cell? ((⟨g,0,none⟩:Addr).add j)=some u:=hown.cells (g:=g) rfl
   have hr:=Lib.run_append_grow_string (P:=P) w t u ty e i (.int .u8 0) ht hu hi hz ⟨g,0,none⟩ n cap xs (by rw[hsize];simpa using hxl) holds s (by omega) (by omega) (by rw[hby];exact growslice_fits (by omega) (by omega))
   have hgr:=grown cap (by omega) (Value.ownBlock (.slice (some ⟨g,0,none⟩) n cap))
   exact⟨_,_,hr,hgr.1,hgr.2,fun b hb=> .inl (by simp[Value.ownBlock] at hb;omega)⟩
theorem Cb {ops:Array Oper} {rest:List Oper} {o:Oper} {a:Act} {Q:Exit→Act→World→Prop} (hgd:o.guard=none) (sl x:Operand) (t u:TypeId)
 (ho:o.op= .call { callee:= .builtin .append,args:= #[sl,x],argTypes:= #[t,u] })
 (e:TypeId) (i:TypeInfo) (ht:P.underlying t=some (.slice e)) (hu:P.underlying u=some .string) (hi:P.info? e=some i) (hz:i.zero=some (.int .u8 0))
 (hsize:i.size=1) (hby:i.bytes=1)
 (v:Value) (n:Nat) (xs:List Value) (hs:a.eval sl=v) (hown:w.ownsRow 0 e 1 v n xs) (s:ByteArray) (hx:a.eval x= .string s) (hbytes:n+s.size≤140737488355328)
 (h: ∀v' w',w'.ownsRow 0 e 1 v' (n+s.size) (xs++Lib.strCells s)→GrB w w' v.ownBlock→(∀b,v'.ownBlock=some b→w.heap.size≤b∨v.ownBlock=some b)→wpList P ops Q rest (a.put o.dst v') w'):wpList P ops Q (o::rest) a w:=by
 refine wpList_plain hgd fun K hK=> ?_
 obtain⟨v',w',hr,h2,h3,h4⟩:=Lj (P:=P) (w:=w) t u o.type e i ht hu hi hz hsize hby v n xs hown s hbytes
 unfold Oper.wp execOp
 simp only[ho,resolve,invoke,builtin,Sem.run_bind,Sem.run_pure,Result.andThen_ok,List.map_toArray,List.map_cons,List.map_nil,hs,hx,hr]
 exact hK _ _ (h v' w' h2 h3 h4)
end
def PV (b:Nat) (u:Bool) (w:World):World:=if u then w else w.setCell ⟨b,0,none⟩ (.pointer (some ⟨b,0,none⟩))
theorem Ga (b:Nat) (u:Bool) (v:Value) (w:World) (hbk:w.heap[b]?=some (.cells #[pv b u,v] 108 (0,0))):Calls Tryz.prog 119 #[.pointer (some ⟨b,0,none⟩)] w fun e w'=> e= .returned (.tuple #[])∧w'=PV b u w:=by
 cases u with
 | true=> exact ES b w (by rw[Lib.cell_of_heap hbk];rfl)
 | false=> exact BK b w (by rw[Lib.cell_of_heap hbk];rfl) (by simp[World.shape?,hbk]) (Lib.frozen_of_heap hbk 0)
theorem PU {b:Nat} {u:Bool} {w:World} (k:Nat) (h:k≠b): (PV b u w).heap[k]?=w.heap[k]?:=by
 cases u with
 | true=> rfl
 | false=> exact heap_setCell_other w ⟨b,0,none⟩ k _ h
theorem yF (b:Nat) (u:Bool) (v:Value) (n:Nat) (xs:List Value) (t:ByteArray) (w:World) (hbk:w.heap[b]?=some (.cells #[pv b u,v] 108 (0,0))) (hown:w.ownsRow 0 5 1 v n xs) (hne:v.ownBlock≠some b) (hb:n+t.size≤140737488355328):
 Calls Tryz.prog 60 #[.pointer (some ⟨b,0,none⟩), .string t] w fun e w'=> e= .returned (.tuple #[.int .i64 t.size, .nilIface])∧
  ∃v' w2,w2.ownsRow 0 5 1 v' (n+t.size) (xs++Lib.strCells t)∧GrB (PV b u w) w2 v.ownBlock∧(∀b,v'.ownBlock=some b→w.heap.size≤b∨v.ownBlock=some b)∧w'=w2.setCell ⟨b,1,none⟩ v':=by
 have hbk1: (PV b u w).heap[b]?=some (.cells #[.pointer (some ⟨b,0,none⟩),v] 108 (0,0)):=by
  cases u with
  | true=> exact hbk
  | false=> exact(heap_setCell_same w b 0 _ 108 _ hbk).trans (by rfl)
 have hoth:=PU (b:=b) (u:=u) (w:=w)
 have hown1: (PV b u w).ownsRow 0 5 1 v n xs:=by
  obtain⟨g1,g2⟩:=hown
  refine⟨g1,?_⟩
  rcases g2 with h | ⟨g,cap,cur,rfl,h2,h3,h4⟩
  ·exact .inl h
  ·exact .inr ⟨g,cap,cur,rfl,h2,by rw[hoth g (fun e=> hne (by rw[e];rfl))];exact h3,h4⟩
 have hsz1: (PV b u w).heap.size=w.heap.size:=by
  cases u with
  | true=> rfl
  | false=> simp[PV]
 obtain⟨i0,hi,hi2⟩:=Option.map_eq_some_iff.1 (show(Tryz.prog.info? 5).map (fun i=> (i.zero,i.size,i.bytes))=some (some (.int .u8 0),1,1) by kernel_rfl)
 have hz0:i0.zero=some (.int .u8 0):=by simpa using congrArg (·.1) hi2
 have hz1:i0.size=1:=by simpa using congrArg (·.2.1) hi2
 have hz2:i0.bytes=1:=by simpa using congrArg (·.2.2) hi2
 have t50:Tryz.prog.underlying 50=some (.slice 5):=by kernel_rfl
 have t9:Tryz.prog.underlying 9=some .string:=by kernel_rfl
 have c0: (PV b u w).cell? ⟨b,0,none⟩=some (.pointer (some ⟨b,0,none⟩)):=by rw[Lib.cell_of_heap hbk1];rfl
 have c1: (PV b u w).cell? ⟨b,1,none⟩=some v:=by rw[Lib.cell_of_heap hbk1];rfl
 go_enter Tryz.func60,Tryz.ntmps60
 go_wp2_with (go_at_call 119;refine(Ga b u v w hbk).mono ?_)
 rintro e w1 ⟨rfl,rfl⟩
 go_wp2_with (at_builtin;refine Cb rfl _ _ 50 9 rfl 5 i0 t50 t9 hi hz0 hz1 hz2 v n xs rfl hown1 t rfl hb ?_)
 intro v' w2 hown2 hg hfr
 have hb2:w2.heap[b]?=some (.cells #[.pointer (some ⟨b,0,none⟩),v] 108 (0,0)):=by
  rw[hg.block b (by rw[hsz1];exact(Array.getElem?_eq_some_iff.1 hbk).1) (fun e=> hne e.symm)]
  exact hbk1
 have d1:w2.cell? ⟨b,1,none⟩=some v:=by rw[Lib.cell_of_heap hb2];rfl
 have f1:w2.frozen? ⟨b,1,none⟩=false:=Lib.frozen_of_heap hb2 1
 obtain⟨ao,n',cap,rfl⟩: ∃ao n' cap,v'= .slice ao n' cap:=by
  rcases hown2.2 with⟨hv,_⟩ | ⟨g,cap,cur,hv,_⟩
  ·exact⟨_,_,_,hv⟩
  ·exact⟨_,_,_,hv⟩
 go_wp2
 go_ret2
 exact⟨rfl,_,w2,hown2,hg,hfr,rfl⟩
end Go.Gv
