/- A part of the framework and of the walks: W159 W160 T25 I7. -/
import Derived.RangeFuncNested
import Derived.RangeFuncBound
import Derived.RangeFuncCalls
import Derived.RangeFuncLeaves
import Derived.Shelf.Abstract
import Derived.Shelf.RegionOpen
import Derived.WalkKit
import Derived.OwnWalkIn
import Derived.TacticsInMore
import Derived.LoopNIn
import Derived.LoopIn
import Derived.Test.YticbieanhfdnoaaGreatDoorGa27
import Derived.Test.YticbieanhfdnoaaGreatDoorGa32
import Derived.Test.YticbieanhfdnoaaGreatDoorGa34
import Derived.Test.YticbieanhfdnoaaGreatDoorGa33
import Derived.Test.YticbieanhfdnoaaGreatDoorGa16
set_option linter.unusedSimpArgs false
set_option linter.unusedVariables false
set_option maxRecDepth 100000

namespace Go.Gv
open Cod (enc dec)
variable {S S0:Nat→Spc}
def CM (c:Int):Bool:=(decide (65≤c) && decide (c≤90)) || (decide (97≤c) && decide (c≤122)) || decide (c=95)
def O6 (c:Int):Bool:=CM c || (decide (48≤c) && decide (c≤57)) || decide (c=45)
abbrev DF:Spc:=cF (a1 U8) (fun _=> True) (enc (X:=Bool)) fun c y=> y=CM c.val
theorem vu:aO jM jn S (a1 U8) (fun _=> True) (enc (X:=Bool)) fun c y=> y=CM c.val:=by
 rintro⟨c⟩ -
 by_cases h1: (65:Int)≤c <;> by_cases h2:c≤90 <;> by_cases h3: (97:Int)≤c <;> by_cases h4:c≤122 <;> by_cases h5:c=95 <;>
  simp[jM,jn,CM,h1,h2,h3,h4,h5, -Bool.forall_bool, -Bool.exists_bool]
abbrev vF:Spc:=cF (a1 U8) (fun _=> True) (enc (X:=Bool)) fun c y=> y=O6 c.val
theorem vt (h0:S cQ=DF):aO jL jm S (a1 U8) (fun _=> True) (enc (X:=Bool)) fun c y=> y=O6 c.val:=by
 rintro⟨c⟩ -
 cases hb:CM c <;> by_cases h1: (48:Int)≤c <;> by_cases h2:c≤57 <;> by_cases h3:c=45 <;>
  simp[jL,jm,O6,h0,hb,h1,h2,h3, -Bool.forall_bool, -Bool.exists_bool]
theorem KP (c:UInt8):Hi c=CM (c.toNat:Int):=by
 unfold Hi CM
 rw[Bool.eq_iff_iff]
 simp
 omega
theorem Qq (c:UInt8):Ys c=O6 (c.toNat:Int):=by
 unfold Ys O6
 rw[KP]
 cases CM (c.toNat:Int)
 ·rw[Bool.eq_iff_iff]
  simp
  omega
 ·simp
theorem rI (h1:S cQ=DF) (h2:S fP=vF):aO gK gp S (a1 B) (fun s=> vQ s=true) (enc (X:=Bool)) fun _ y=> y=true:=by
 rintro s hs
 have hs:vQ s=true:=hs
 unfold vQ at hs
 simp only[Bool.and_eq_true,decide_eq_true_eq] at hs
 obtain⟨⟨⟨q1,q2⟩,q3⟩,q4⟩:=hs
 simp[gK,gp,h1,h2, -Bool.forall_bool, -Bool.exists_bool]
 have r1: (1:Int)≤(s.size:Int):=by omega
 have r2: (s.size:Int)≤32:=by omega
 have r3: (s.size:Int)≤9223372036854775807:=by omega
 have hsl:s.data.toList.length=s.size:=Array.length_toList
 refine fun _=> ⟨fun _ _=> ⟨fun _=> ⟨by omega,fun c hc=> ?_⟩,r2⟩,r1⟩
 have hc':s.data.toList[0]?=some c:=by rw[Array.getElem?_toList];exact hc
 have hb:CM (c.toNat:Int)=true:=by
  rw[←KP]
  cases hl:s.data.toList with
  | nil=> rw[hl] at hc';cases hc'
  | cons d l=>
    rw[hl] at hc' q3
    cases hc'
    exact q3
 refine⟨hb,fun _ _=> ?_⟩
 refine aq (X:=Unit) [0] [] s.size (fun _ _=> True) (fun _=> []) (fun _=> []) () (by simp) (by simp) (by omega) (by simp) (by simp) trivial (by simp) (by simp) ?_ ?_
 ·rintro k -hk -
  obtain⟨d,hd⟩:=kj (show k < s.data.toList.length by omega)
  have hg:O6 (d.toNat:Int)=true:=by rw[←Qq];exact List.all_eq_true.1 q4 d (List.mem_of_getElem? hd)
  have hd':s.data[k]?=some d:=by rw[←Array.getElem?_toList];exact hd
  obtain⟨_,hgd⟩:=Array.getElem?_eq_some_iff.1 hd'
  simp[hk,hd',hgd,hg,h2, -Bool.forall_bool, -Bool.exists_bool]
 ·rintro - -
  simp[-Bool.forall_bool, -Bool.exists_bool]
theorem rH (h1:S cO=s_cpVal):aO gJ gn S (a1 B) (fun s=> qI s=true) (enc (X:=Int)) fun _ y=> y=0:=by
 rintro s hs
 have hs:qI s=true:=hs
 unfold qI at hs
 simp only[Bool.and_eq_true,decide_eq_true_eq] at hs
 obtain⟨q1,q2⟩:=hs
 have ha:px s=true:=by
  unfold px
  refine List.all_eq_true.2 fun c hc=> ?_
  have:=List.all_eq_true.1 q2 c hc
  simp at this
  simp
  omega
 have r1: (s.size:Int)≤120:=by omega
 have r2: (s.size:Int)≤9223372036854775807:=by omega
 have r3:s.size≤1000:=by omega
 have r4: ¬ (120:Int) < (s.size:Int):=by omega
 simp[gJ,gn,h1,ha,r1,r2,r3,r4, -Bool.forall_bool, -Bool.exists_bool]
 intro b
 refine bg (X:=Nat) [] [] (fun p=> p≤s.size) (fun p=> [(14, .bptr 14 b 0)]) (fun p=> [(14, .iter b s p)]) (fun p=> s.size -p) 0 (Nat.zero_le _) (by simp) (by simp) ?_
 rintro p hp
 by_cases hlt:p < s.size
 ·obtain⟨c,hc,hc128,hdec⟩:=Bf ha hlt
  have hcm:=List.all_eq_true.1 q2 c (List.mem_of_getElem? hc)
  simp at hcm
  have n1: ¬ (c.toNat:Int)≤31:=by omega
  have n2: ¬ (c.toNat:Int)=127:=by omega
  simp[hlt,hdec,n1,n2, -Bool.forall_bool, -Bool.exists_bool]
  exact⟨p+1,by omega, .inl rfl,by omega⟩
 ·have hpe:p=s.size:=by omega
  subst hpe
  simp[-Bool.forall_bool, -Bool.exists_bool]
end Go.Gv

namespace Go.Gv
open Cod (enc dec)
variable {S S0:Nat→Spc}
def GX (s:B):List B:=if s=⟨#[124,112,124]⟩ then[⟨#[112]⟩] else if s=⟨#[124,112,124,113,124]⟩ then[⟨#[112]⟩,⟨#[113]⟩] else if s=⟨#[124,113,124]⟩ then[⟨#[113]⟩] else[]
abbrev yi:Spc:=cF (a1 B) (fun s=> s∈featS) (rV (Y:=List B) (Z:=Int)) fun s y=> y=(GX s,0)
set_option maxHeartbeats 1000000 in
theorem Dc (h1:S aL=qo):vc S cj (pH cd fun r H'=> Fin (rV (Y:=List B) (Z:=Int)) (fun y=> y=([⟨#[112]⟩],0)) r H') (dI ((a1 B).view (⟨#[124,112,124]⟩:B))) de:=by
 have hv:qI ⟨#[124,112,124]⟩=true:=by decide
 have hsz: (⟨#[124,112,124]⟩:B).size=3:=rfl
 have x1: ((⟨#[124,112,124]⟩:B).extract 1 2)=⟨#[112]⟩:=by decide
 simp[cj,cd,h1,hv,hsz, -Bool.forall_bool, -Bool.exists_bool]
 refine⟨by simp[InR],?_⟩
 refine bg (X:=Int×Int×Value×List B) [0] [] (fun z=> z.1=1∧z.2.1=1∧z.2.2.2=([]:List B)∨z.1=1∧z.2.1=2∧z.2.2.2=([]:List B)∨z.1=3∧z.2.1=3∧z.2.2.2=([⟨#[112]⟩]:List B)) (fun z=> [(5, .own 51 z.2.2.1),(6,enc z.1),(7,enc z.2.1)]) (fun z=> [(51, .row z.2.2.1 ar 1 (z.2.2.2.map enc))]) (fun z=> (3 -z.2.1).toNat) (1,1, .slice none 0 0, []) (by simp) (by simp) (by simp[isNilRow]) ?_
 rintro⟨f,i,v,l⟩ hz
 simp only at hz
 rcases hz with⟨rfl,rfl,rfl⟩ | ⟨rfl,rfl,rfl⟩ | ⟨rfl,rfl,rfl⟩
 ·simp[hsz,x1, -Bool.forall_bool, -Bool.exists_bool]
  exact⟨by simp[InR],1,2,v, [],by simp,⟨⟨rfl,rfl,rfl⟩, .inl ⟨rfl,rfl⟩⟩,by omega⟩
 ·simp[hsz,x1, -Bool.forall_bool, -Bool.exists_bool]
  exact fun v=> ⟨by simp[InR],3,3,v, [⟨#[112]⟩],by simp,⟨⟨rfl,rfl,rfl⟩, .inl ⟨rfl,rfl⟩⟩,by omega⟩
 ·simp[hsz, -Bool.forall_bool, -Bool.exists_bool]
  refine bg (X:=Int) [5] [51] (fun i=> i=1) (fun i=> [(8,enc i)]) (fun _=> []) (fun i=> (3 -i).toNat) 1 (by simp) (by simp) (by simp) ?_
  rintro i hi
  subst hi
  simp[-Bool.forall_bool, -Bool.exists_bool]
  exact jw (l:=([⟨#[112]⟩]:List B)) ar rfl
set_option maxHeartbeats 1000000 in
theorem zV (h1:S aL=qo):vc S cj (pH cd fun r H'=> Fin (rV (Y:=List B) (Z:=Int)) (fun y=> y=([⟨#[112]⟩,⟨#[113]⟩],0)) r H') (dI ((a1 B).view (⟨#[124,112,124,113,124]⟩:B))) de:=by
 have hv:qI ⟨#[124,112,124,113,124]⟩=true:=by decide
 have hsz: (⟨#[124,112,124,113,124]⟩:B).size=5:=rfl
 have x1: ((⟨#[124,112,124,113,124]⟩:B).extract 1 2)=⟨#[112]⟩:=by decide
 have x3: ((⟨#[124,112,124,113,124]⟩:B).extract 3 4)=⟨#[113]⟩:=by decide
 simp[cj,cd,h1,hv,hsz, -Bool.forall_bool, -Bool.exists_bool]
 refine⟨by simp[InR],?_⟩
 refine bg (X:=Int×Int×Value×List B) [0] [] (fun z=> z.1=1∧z.2.1=1∧z.2.2.2=([]:List B)∨z.1=1∧z.2.1=2∧z.2.2.2=([]:List B)∨z.1=3∧z.2.1=3∧z.2.2.2=([⟨#[112]⟩]:List B)∨z.1=3∧z.2.1=4∧z.2.2.2=([⟨#[112]⟩]:List B)∨z.1=5∧z.2.1=5∧z.2.2.2=([⟨#[112]⟩,⟨#[113]⟩]:List B)) (fun z=> [(5, .own 51 z.2.2.1),(6,enc z.1),(7,enc z.2.1)]) (fun z=> [(51, .row z.2.2.1 ar 1 (z.2.2.2.map enc))]) (fun z=> (5 -z.2.1).toNat) (1,1, .slice none 0 0, []) (by simp) (by simp) (by simp[isNilRow]) ?_
 rintro⟨f,i,v,l⟩ hz
 simp only at hz
 rcases hz with⟨rfl,rfl,rfl⟩ | ⟨rfl,rfl,rfl⟩ | ⟨rfl,rfl,rfl⟩ | ⟨rfl,rfl,rfl⟩ | ⟨rfl,rfl,rfl⟩
 ·simp[hsz,x1,x3, -Bool.forall_bool, -Bool.exists_bool]
  exact⟨by simp[InR],1,2,v, [],by simp,⟨⟨rfl,rfl,rfl⟩, .inl ⟨rfl,rfl⟩⟩,by omega⟩
 ·simp[hsz,x1,x3, -Bool.forall_bool, -Bool.exists_bool]
  exact fun v=> ⟨by simp[InR],3,3,v, [⟨#[112]⟩],by simp,⟨⟨rfl,rfl,rfl⟩, .inl ⟨rfl,rfl⟩⟩,by omega⟩
 ·simp[hsz,x1,x3, -Bool.forall_bool, -Bool.exists_bool]
  exact⟨by simp[InR],3,4,v, [⟨#[112]⟩],by simp,⟨⟨rfl,rfl,rfl⟩, .inl ⟨rfl,rfl⟩⟩,by omega⟩
 ·simp[hsz,x1,x3, -Bool.forall_bool, -Bool.exists_bool]
  exact fun v=> ⟨by simp[InR],5,5,v, [⟨#[112]⟩,⟨#[113]⟩],by simp,⟨⟨rfl,rfl,rfl⟩, .inl ⟨rfl,rfl⟩⟩,by omega⟩
 ·simp[hsz, -Bool.forall_bool, -Bool.exists_bool]
  refine bg (X:=Int) [5] [51] (fun i=> i=1∨i=2) (fun i=> [(8,enc i)]) (fun _=> []) (fun i=> (3 -i).toNat) 1 (by simp) (by simp) (by simp) ?_
  rintro i hi
  rcases hi with rfl | rfl
  ·simp[-Bool.forall_bool, -Bool.exists_bool]
   exact⟨by simp[InR],by decide,fun _=> by simp[InR]⟩
  ·simp[-Bool.forall_bool, -Bool.exists_bool]
   exact jw (l:=([⟨#[112]⟩,⟨#[113]⟩]:List B)) ar rfl
set_option maxHeartbeats 1000000 in
theorem Db (h1:S aL=qo):vc S cj (pH cd fun r H'=> Fin (rV (Y:=List B) (Z:=Int)) (fun y=> y=([⟨#[113]⟩],0)) r H') (dI ((a1 B).view (⟨#[124,113,124]⟩:B))) de:=by
 have hv:qI ⟨#[124,113,124]⟩=true:=by decide
 have hsz: (⟨#[124,113,124]⟩:B).size=3:=rfl
 have x1: ((⟨#[124,113,124]⟩:B).extract 1 2)=⟨#[113]⟩:=by decide
 simp[cj,cd,h1,hv,hsz, -Bool.forall_bool, -Bool.exists_bool]
 refine⟨by simp[InR],?_⟩
 refine bg (X:=Int×Int×Value×List B) [0] [] (fun z=> z.1=1∧z.2.1=1∧z.2.2.2=([]:List B)∨z.1=1∧z.2.1=2∧z.2.2.2=([]:List B)∨z.1=3∧z.2.1=3∧z.2.2.2=([⟨#[113]⟩]:List B)) (fun z=> [(5, .own 51 z.2.2.1),(6,enc z.1),(7,enc z.2.1)]) (fun z=> [(51, .row z.2.2.1 ar 1 (z.2.2.2.map enc))]) (fun z=> (3 -z.2.1).toNat) (1,1, .slice none 0 0, []) (by simp) (by simp) (by simp[isNilRow]) ?_
 rintro⟨f,i,v,l⟩ hz
 simp only at hz
 rcases hz with⟨rfl,rfl,rfl⟩ | ⟨rfl,rfl,rfl⟩ | ⟨rfl,rfl,rfl⟩
 ·simp[hsz,x1, -Bool.forall_bool, -Bool.exists_bool]
  exact⟨by simp[InR],1,2,v, [],by simp,⟨⟨rfl,rfl,rfl⟩, .inl ⟨rfl,rfl⟩⟩,by omega⟩
 ·simp[hsz,x1, -Bool.forall_bool, -Bool.exists_bool]
  exact fun v=> ⟨by simp[InR],3,3,v, [⟨#[113]⟩],by simp,⟨⟨rfl,rfl,rfl⟩, .inl ⟨rfl,rfl⟩⟩,by omega⟩
 ·simp[hsz, -Bool.forall_bool, -Bool.exists_bool]
  refine bg (X:=Int) [5] [51] (fun i=> i=1) (fun i=> [(8,enc i)]) (fun _=> []) (fun i=> (3 -i).toNat) 1 (by simp) (by simp) (by simp) ?_
  rintro i hi
  subst hi
  simp[-Bool.forall_bool, -Bool.exists_bool]
  exact jw (l:=([⟨#[113]⟩]:List B)) ar rfl
theorem wM (h1:S aL=qo):aO cj cd S (a1 B) (fun s=> s∈featS) (rV (Y:=List B) (Z:=Int)) fun s y=> y=(GX s,0):=by
 rintro s hs
 have hs:s∈featS:=hs
 simp only[featS,List.mem_cons,List.not_mem_nil,or_false] at hs
 rcases hs with rfl | rfl | rfl | rfl
 ·have hv:qI ⟨#[124]⟩=true:=by decide
  have e:GX ⟨#[124]⟩= []:=by decide
  simp[cj,cd,h1,hv,e, -Bool.forall_bool, -Bool.exists_bool]
 ·exact Dc h1
 ·exact zV h1
 ·exact Db h1
abbrev FI:Spc:=cF (a2 (List B) B) (fun _=> True) (enc (X:=Bool)) fun x y=> y=uT x.1 x.2
theorem sk:aO ig gX S (a2 (List B) B) (fun _=> True) (enc (X:=Bool)) fun x y=> y=uT x.1 x.2:=by
 rintro⟨l,s⟩ -
 simp[ig,gX, -Bool.forall_bool, -Bool.exists_bool]
 intro hl
 refine aq (X:=Unit) [1,7] [] l.length (fun k _=> ∀x∈l.take k,decide (x=s)=false) (fun _=> []) (fun _=> []) () (by simp) (by simp) (by omega) (by simp) (by simp) (by simp) (by simp) (by simp) ?_ ?_
 ·intro k _ hk hP
  obtain⟨x,hx⟩:=kj hk
  obtain⟨_,hgx⟩:=List.getElem?_eq_some_iff.1 hx
  simp[hk,hx,hgx, -Bool.forall_bool, -Bool.exists_bool]
  refine⟨fun h=> ?_,fun h=> ?_⟩
  ·have:uT l s=true:=List.any_eq_true.2 ⟨x,List.mem_of_getElem? hx,by simp[h]⟩
   exact this
  ·rw[ed hx]
   intro z hz
   rcases List.mem_append.1 hz with hz | hz
   ·have:=hP z hz
    simpa using this
   ·simp at hz;subst hz
    exact h
 ·intro _ hP
  rw[List.take_length] at hP
  simp[-Bool.forall_bool, -Bool.exists_bool]
  have:uT l s=false:=by
   rw[uT,List.any_eq_false]
   intro x hx
   rw[hP x hx]
   simp
  exact this
theorem zW (h1:S fR=yi) (h2:S dR=FI):aO my l8 S (a2 B B) (fun x=> ∃b,D4 x.1 x.2=some b) (enc (X:=Bool)) fun x y=> D4 x.1 x.2=some y:=by
 rintro⟨s,f⟩ ⟨b,hb⟩
 have hb:D4 s f=some b:=hb
 have hb0:=hb
 unfold D4 at hb
 split at hb
 rotate_left
 ·cases hb
 rename_i hc
 obtain⟨c1,c2⟩:=hc
 obtain⟨z,hz,hze⟩:=List.any_eq_true.1 c1
 obtain rfl:z=s:=of_decide_eq_true hze
 have e:uT (GX z) f=b:=by
  have hb:=Option.some.inj hb
  rw[←hb]
  simp only[featS,List.mem_cons,List.not_mem_nil,or_false] at hz
  rcases hz with rfl | rfl | rfl | rfl <;> rcases c2 with rfl | rfl <;> decide
 simp[my,l8,h1,h2,hz,e, -Bool.forall_bool, -Bool.exists_bool]
 exact hb0
end Go.Gv

namespace Go.Gv
section
variable {P:Program} {im:List Nat} {E:qc} {S:Nat→Spc}
end
end Go.Gv

namespace Go.Gv
open Go.RowKit Go.Proofs
variable {F:Fence} {n:Nat} {P:Program}
structure GrL (B:Nat) (W W':World):Prop where
 os:W'.os=W.os
 tape:W'.tape=W.tape
 output:W'.output=W.output
 size:W.heap.size≤W'.heap.size
 low: ∀j,j < B→W'.heap[j]?=W.heap[j]?
 drawn:W.drawn≤W'.drawn
theorem GrL.refl (B:Nat) (W:World):GrL B W W:=⟨rfl,rfl,rfl,Nat.le_refl _,fun _ _=> rfl,Nat.le_refl _⟩
theorem GrL.trans {B:Nat} {X Y Z:World} (h:GrL B X Y) (k:GrL B Y Z):GrL B X Z:=⟨k.os.trans h.os,k.tape.trans h.tape,k.output.trans h.output,Nat.le_trans h.size k.size,fun j hj=> (k.low j hj).trans (h.low j hj),Nat.le_trans h.drawn k.drawn⟩
theorem GrL.mono {A B:Nat} {X Y:World} (h:GrL B X Y) (hAB:A≤B):GrL A X Y:=⟨h.os,h.tape,h.output,h.size,fun j hj=> h.low j (Nat.lt_of_lt_of_le hj hAB),h.drawn⟩
theorem GrL.alloc {B:Nat} (W:World) (hB:B≤W.heap.size) (o:Obj):GrL B W (W.alloc o):=⟨rfl,rfl,rfl,by simp,fun j hj=> Below.heap_alloc W o j (Nat.lt_of_lt_of_le hj hB),Nat.le_refl _⟩
theorem GrL.put {B:Nat} (W:World) {l:Nat} (hB:B≤l) (o:Obj):GrL B W (W.putObj l o):=⟨rfl,rfl,rfl,by simp,fun j hj=> World.putObj_heap_other (by omega),Nat.le_refl _⟩
structure GrR (B C:Nat) (W W':World):Prop where
 os:W'.os=W.os
 tape:W'.tape=W.tape
 output:W'.output=W.output
 size:W.heap.size≤W'.heap.size
 at_:B≤W.heap.size
 low: ∀j,j < W.heap.size→(j < B∨C≤j)→W'.heap[j]?=W.heap[j]?
 drawn:W.drawn≤W'.drawn
theorem GrR.toL {B C:Nat} {X Y:World} (h:GrR B C X Y):GrL B X Y:=⟨h.os,h.tape,h.output,h.size,fun j hj=> h.low j (Nat.lt_of_lt_of_le hj h.at_) (.inl hj),h.drawn⟩
theorem GrR.mono {A B C D:Nat} {X Y:World} (h:GrR B C X Y) (hAB:A≤B) (hCD:C≤D):GrR A D X Y:=⟨h.os,h.tape,h.output,h.size,Nat.le_trans hAB h.at_,fun j hj hs=> h.low j hj (hs.imp (fun h=> Nat.lt_of_lt_of_le h hAB) fun h=> Nat.le_trans hCD h),h.drawn⟩
theorem GrR.trans {B C:Nat} {X Y Z:World} (h:GrR B C X Y) (k:GrR B C Y Z):GrR B C X Z:=⟨k.os.trans h.os,k.tape.trans h.tape,k.output.trans h.output,Nat.le_trans h.size k.size,h.at_,fun j hj hs=> (k.low j (Nat.lt_of_lt_of_le hj h.size) hs).trans (h.low j hj hs),Nat.le_trans h.drawn k.drawn⟩
theorem GrR.get {B C:Nat} {X Y:World} (h:GrR B C X Y) {j:Nat} {o:Obj} (hj:X.heap[j]?=some o) (hs:j < B∨C≤j):Y.heap[j]?=some o:=(h.low j (Array.getElem?_eq_some_iff.1 hj).1 hs).trans hj
theorem GrR.alloc {B C:Nat} (W:World) (hB:B≤W.heap.size) (o:Obj):GrR B C W (W.alloc o):=⟨rfl,rfl,rfl,by simp,hB,fun j hj _=> Below.heap_alloc W o j hj,Nat.le_refl _⟩
theorem GrR.put {B C:Nat} (W:World) {l:Nat} (hB:B≤l) (hC:l < C) (h:B≤W.heap.size) (o:Obj):GrR B C W (W.putObj l o):=⟨rfl,rfl,rfl,by simp,h,fun j _ hs=> World.putObj_heap_other (by omega),Nat.le_refl _⟩
theorem GrR.set {B C b k:Nat} (W:World) (hB:B≤b) (hC:b < C) (h:B≤W.heap.size) (v:Value):GrR B C W (W.setCell ⟨b,k,none⟩ v):=⟨rfl,rfl,rfl,by simp[World.setCell],h,fun j _ hs=> Below.heap_setCell W ⟨b,k,none⟩ v j (by show j≠b;omega),Nat.le_refl _⟩
structure KBt (B:Nat) (S:Nat→Prop) (W W':World):Prop where
 size:W.heap.size≤W'.heap.size
 block: ∀k,k < W.heap.size→(S k∨B≤k)→W'.heap[k]?=W.heap[k]?
theorem KBt.refl (B:Nat) (S:Nat→Prop) (W:World):KBt B S W W:=⟨Nat.le_refl _,fun _ _ _=> rfl⟩
theorem KBt.trans {B:Nat} {S:Nat→Prop} {X Y Z:World} (h:KBt B S X Y) (k:KBt B S Y Z):KBt B S X Z:=⟨Nat.le_trans h.size k.size,fun i hi hs=> (k.block i (Nat.lt_of_lt_of_le hi h.size) hs).trans (h.block i hi hs)⟩
theorem KBt.mono {A B:Nat} {S:Nat→Prop} {X Y:World} (h:KBt A S X Y) (hAB:A≤B):KBt B S X Y:=⟨h.size,fun i hi hs=> h.block i hi (hs.imp id fun h=> Nat.le_trans hAB h)⟩
theorem KBt.alloc (B:Nat) (S:Nat→Prop) (W:World) (o:Obj):KBt B S W (W.alloc o):=⟨by simp,fun k hk _=> Below.heap_alloc W o k hk⟩
def Rk (B C:Nat) (I:Nat→World→Prop):Prop:= ∀k W W',I k W→GrR B C W W'→I k W'
def NA (S:Nat→Prop) (B:Nat) (I Ix:Nat→World→Prop) (k:Nat) (W:World):Exit→Act→World→Prop
 | .normal,_,W'=> KeepsFrom B W W'∧KBt B S W W'∧I (k+1) W'
 | .ret,_,W'=> KeepsFrom B W W'∧Ix k W'
 | _,_,_=> False
def Rh (F:Fence) (n:Nat) (P:Program) (gf:Nat) (lb:Array Value) (len:Nat) (encs:Nat→Array Value) (S:Nat→Prop) (m:Nat) (w:World):Prop:=
 ∀ (l:Nat) (J Jx:Nat→World→Prop) (W:World),KBt w.heap.size S w W→w.heap.size≤W.heap.size→(∀k A C,GrR W.heap.size (W.heap.size+m) A C→J k A→J k C)→
  (∀k W1,J k W1→W.heap.size+m≤W1.heap.size→k < len→YieldAt F (n -1) P l (encs k) W1 fun e W'=>
    (e= .returned (.bool true)∧J (k+1) W'∧KBt W.heap.size S W1 W')∨(e= .returned (.bool false)∧Jx k W'))→
  J 0 W→CallsIn F n P gf (#[.func (.yield l) #[] #[]] ++lb) W fun e W'=> (∃v,e= .returned v)∧(J len W'∨ ∃k,k < len∧Jx k W')
theorem BR {g:Operand} {ps:Array Tmp} {assign body:Code} {Q:Exit→Act→World→Prop} {a:Act} {w:World}
 (hro:F.round=none) (h1:1≤n) {gf:Nat} {lb:Array Value} (hg:a.eval g= .func (.func gf) #[] lb) (hFg:F.fn gf) (eg: ∀args w,(callFunc gf args).run P w= .ok (.enter gf args) w)
 {len:Nat} {encs:Nat→Array Value} {S:Nat→Prop} {m:Nat} (hseq:Rh F (n -1) P gf lb len encs S m w) (hS: ∀k,S k→k < w.heap.size) (hps: ∀x,(encs x).size=ps.size)
 (I Ix:Nat→World→Prop) (hI:Rk w.heap.size (w.heap.size+2+m) I) (hIx:Rk w.heap.size (w.heap.size+2+m) Ix) (h0:I 0 w)
 (Ax:Nat→Act→World→Prop) (hAx: ∀a',∀k W o,w.heap.size+1 < W.heap.size→Ax k a' W→Ax k a' (W.putObj (w.heap.size+1) o))
 (hassign: ∀ (l k:Nat) (W:World),w.heap.size+2+m≤W.heap.size→w.heap.size≤l→I k W→k < len→
   assign.wpIn (F.inRound l) (n -1 -1) P (Exit.then (fun a' W'=> KeepsFrom w.heap.size W W'∧KBt w.heap.size S W W'∧I k W'∧Ax k a' W') (fun _ _ _=> False)) { tmps:=(ps.zip (encs k)).foldl (fun t (p,v)=> t.setIfInBounds p v) a.tmps,defers:= [] } W)
 (hbody: ∀ (l k:Nat) (a':Act) (W:World),w.heap.size+2+m≤W.heap.size→w.heap.size≤l→I k W→Ax k a' W→k < len→body.wpIn (F.inRound l) (n -1 -1) P (NA S w.heap.size I Ix k W) a' W)
 (hdone: ∀ (D:Nat) (W:World),w.heap.size≤D→I len W→W.heap[D]?=some (.deferred (some []))→Q .normal { a with defers:= { target:= .collected D,args:= #[] } ::a.defers } W)
 (hstop: ∀ (D k:Nat) (W:World),w.heap.size≤D→k < len→Ix k W→W.heap[D]?=some (.deferred (some []))→Code.ret.wpIn F n P Q { a with defers:= { target:= .collected D,args:= #[] } ::a.defers } W):
 (Code.rangeFunc g ps assign body).wpIn F n P Q a w:=by
 refine wpIn_rangeFunc ?_
 intro fn hfn
 rw[hro]
 obtain⟨rec,hrec⟩: ∃rec:LoopState→Option Code→Loop,rec=fun st pe=> { state:=st,pending:=pe,fn,tmps:=a.tmps,params:=ps,assign,body,defers:=w.heap.size } :=⟨_,rfl⟩
 obtain⟨W1,hW1⟩: ∃W1,(w.alloc (.deferred (some []))).alloc (.loop (rec .ready none))=W1:=⟨_,rfl⟩
 have hL1:W1.heap[w.heap.size+1]?=some (.loop (rec .ready none)):=by
  rw[←hW1];have:=World.alloc_heap_new (w.alloc (.deferred (some []))) (.loop (rec .ready none));rwa [World.size_alloc] at this
 have hK1:W1.heap[w.heap.size]?=some (.deferred (some [])):=by
  rw[←hW1];exact(Below.heap_alloc _ _ _ (by simp)).trans (World.alloc_heap_new w _)
 have hI1:I 0 W1:=by rw[←hW1];exact hI 0 _ _ (hI 0 _ _ h0 (GrR.alloc w (Nat.le_refl _) _)) (GrR.alloc _ (by simp) _)
 have hs1:W1.heap.size=w.heap.size+2:=by rw[←hW1];simp
 have hb1:KBt w.heap.size S w W1:=by
  rw[←hW1];exact(KBt.alloc _ _ _ _).trans (KBt.alloc _ _ _ _)
 refine⟨w.heap.size+1, [{ target:= .collected w.heap.size,args:= #[] }],W1, { target:= .fn (.func gf) lb,args:= #[.func (.yield (w.heap.size+1)) #[] #[]] },W1,gf,
  #[.func (.yield (w.heap.size+1)) #[] #[]] ++lb,W1,?_,?_,?_,?_,fun _=> h1,?_⟩
 ·rw[←hW1,hrec];exact run_enterLoop_outer _ _ _ _ _
 ·simp only[resolve,hg]
  simp[go_sem]
 ·intro f' hf';simp[Target.leads] at hf';subst hf';exact hFg
 ·simp[invoke,go_sem,eg]
 ·refine(hseq (w.heap.size+1)
   (fun k W=> I k W∧W.heap[w.heap.size+1]?=some (.loop (rec .ready none))∧W.heap[w.heap.size]?=some (.deferred (some [])))
   (fun k W=> Ix k W∧W.heap[w.heap.size+1]?=some (.loop (rec .done (some .ret)))∧W.heap[w.heap.size]?=some (.deferred (some [])))
   W1 hb1 (by omega)
   (fun k A C hg hs=> by
     rw[hs1] at hg
     exact⟨hI k A C hs.1 (hg.mono (by omega) (by omega)),hg.get hs.2.1 (.inl (by omega)),hg.get hs.2.2 (.inl (by omega))⟩)
   ?_ ⟨hI1,hL1,hK1⟩).mono ?_
  ·rintro k W ⟨hi,hl,hk⟩ hsz hlen
   rw[hs1] at hsz ⊢
   have hy:=run_yield (P:=P) (args:=encs k) hl (by rw[hrec];exact hps k)
   rw[hrec] at hy
   refine⟨fn,_,assign,body,hy,roundIn_of_wpIn hfn (wpIn_mono (hassign _ k W (by omega) (by omega) hi hlen) ?_)⟩
   clear hy
   rintro e a' Wa he
   cases e with
   | normal=>
     obtain⟨hkfa,hba,hia,hax⟩:=he
     have hla:=hkfa.same _ _ (by omega) hl rfl
     have hka:=hkfa.same _ _ (Nat.le_refl _) hk rfl
     have hlt:w.heap.size+1 < Wa.heap.size:=(Array.getElem?_eq_some_iff.1 hla).1
     refine⟨_,run_beginRound hla (by rw[hrec]),?_⟩
     have hl2: (Wa.putObj (w.heap.size+1) (.loop { rec .ready none with state:= .busy })).heap[w.heap.size+1]?=some (.loop { rec .ready none with state:= .busy }):=World.putObj_heap_same hlt
     have hk2: (Wa.putObj (w.heap.size+1) (.loop { rec .ready none with state:= .busy })).heap[w.heap.size]?=some (.deferred (some [])):=(World.putObj_heap_other (by omega)).trans hka
     have bput: ∀ (X:World) (o:Obj),KBt (w.heap.size+2) S X (X.putObj (w.heap.size+1) o):=fun X o=> ⟨by simp,fun j hj hs=> World.putObj_heap_other (by rcases hs with h | h; (have:=hS j h;omega);omega)⟩
     refine wpIn_mono (hbody _ k a' _ (by simp;have:=hkfa.size;omega) (by omega) (hI k _ _ hia (GrR.put _ (by omega) (by omega) (by omega) _)) (hAx a' k _ _ hlt hax) hlen) ?_
     rintro e a3 W3 hp
     cases e with
     | normal=>
       obtain⟨hk3,hb3,hi3⟩:=hp
       have hl3:=hk3.same _ _ (by omega) hl2 rfl
       have hd3:=hk3.same _ _ (Nat.le_refl _) hk2 rfl
       have hr:=run_endRound (P:=P) none hl3
       refine⟨_,_,hr, .inl ⟨rfl,⟨hI _ _ _ hi3 (GrR.put _ (by omega) (by omega) (by have:=(Array.getElem?_eq_some_iff.1 hl3).1;omega) _),?_,(World.putObj_heap_other (by omega)).trans hd3⟩,(hba.mono (by omega)).trans ((bput _ _).trans ((hb3.mono (by omega)).trans (bput _ _)))⟩⟩
       rw[World.putObj_heap_same (Array.getElem?_eq_some_iff.1 hl3).1,hrec]
       rfl
     | ret=>
       obtain⟨hk3,hi3⟩:=hp
       have hl3:=hk3.same _ _ (by omega) hl2 rfl
       have hd3:=hk3.same _ _ (Nat.le_refl _) hk2 rfl
       have hr:=run_endRound (P:=P) (some .ret) hl3
       refine⟨_,_,hr, .inr ⟨rfl,hIx _ _ _ hi3 (GrR.put _ (by omega) (by omega) (by have:=(Array.getElem?_eq_some_iff.1 hl3).1;omega) _),?_,(World.putObj_heap_other (by omega)).trans hd3⟩⟩
       rw[World.putObj_heap_same (Array.getElem?_eq_some_iff.1 hl3).1,hrec]
       rfl
     | exit id=> exact hp.elim
     | goto t=> exact hp.elim
     | panic ch=> exact hp.elim
     | outgrown=> exact hp.elim
   | ret=> exact he.elim
   | exit id=> exact he.elim
   | goto t=> exact he.elim
   | panic ch=> exact he.elim
   | outgrown=> exact he.elim
  ·rintro e W2 ⟨⟨v,rfl⟩,(⟨hi,hl,hk⟩ | ⟨k,hk0,hi,hl,hk⟩)⟩
   ·exact⟨none,_,by have:=run_endLoop (P:=P) hl (by rw[hrec];simp);rw[hrec] at this;exact this,hdone _ _ (Nat.le_refl _) (hI _ _ _ hi (GrR.put _ (by omega) (by omega) (by have:=(Array.getElem?_eq_some_iff.1 hl).1;omega) _)) ((World.putObj_heap_other (by omega)).trans hk)⟩
   ·exact⟨some .ret,_,by have:=run_endLoop (P:=P) hl (by rw[hrec];simp);rw[hrec] at this;exact this,hstop _ k _ (Nat.le_refl _) hk0 (hIx _ _ _ hi (GrR.put _ (by omega) (by omega) (by have:=(Array.getElem?_eq_some_iff.1 hl).1;omega) _)) ((World.putObj_heap_other (by omega)).trans hk)⟩
end Go.Gv
