/- A part of the framework and of the walks: W95 W96 W97 V21 V22 V23 V24 V25 W54 W98 C13 W99 W100 W101 Asm7 C14 V26. -/
import Derived.Test.YtaiffcbkmgfklaaGreatDoorGs36
import Derived.Test.YtaiffcbkmgfklaaGreatDoorGs37
import Derived.Test.YtaiffcbkmgfklaaGreatDoorGs31
import Derived.Test.YtaiffcbkmgfklaaGreatDoorGs33
import Derived.Test.YtaiffcbkmgfklaaGreatDoorGs34
import Derived.Test.YtaiffcbkmgfklaaGreatDoorGs29
import Derived.Test.YtaiffcbkmgfklaaGreatDoorGs21
import Derived.Test.YtaiffcbkmgfklaaGreatDoorGs22
import Derived.Test.YtaiffcbkmgfklaaGreatDoorGs17
import Derived.Test.YtaiffcbkmgfklaaGreatDoorGs35
import Derived.Test.YtaiffcbkmgfklaaGreatDoorGs28
import Derived.Test.YtaiffcbkmgfklaaGreatDoorGs32
import Derived.Test.YtaiffcbkmgfklaaGreatDoorGs23
set_option linter.unusedSimpArgs false
set_option linter.unusedVariables false
set_option maxRecDepth 100000

namespace Go.Gv
open Cod (enc dec)
variable {S S0:Nat→Spc}
end Go.Gv

namespace Go.Gv
open Cod (enc dec)
variable {S S0:Nat→Spc}
end Go.Gv

namespace Go.Gv
open Cod (enc dec)
variable {S S0:Nat→Spc}
def gi:List B:= [E0,⟨#[98,111,117,110,100]⟩,E0,E0,⟨#[100,105,115,116,97,110,99,101]⟩,⟨#[115,97,109,101]⟩,⟨#[104,101,97,100]⟩,⟨#[97,110,99,101,115,116,111,114]⟩,⟨#[112,97,116,104]⟩,⟨#[110,111,100,101]⟩,⟨#[100,101,112,116,104]⟩]
abbrev cV:Spc:=cY a0 (fun _=> True) (enc (X:=List B)) fun _ y=> y=gi
theorem HU:Walk nS nB S a0 (fun _=> True) (enc (X:=List B)) fun _ y=> y=gi:=by
 rintro x -
 simp[nS,nB]
 exact gj (Y:=List B) gi (.same _) rfl
end Go.Gv

namespace Go.Gv
def kR (k:Int):Int:=if k=0 then 101 else if k=1 then 120 else if k=2 then 110 else if k=3 then 100 else if k=4 then 115 else 111
def qh9 (x:VM):qaH:=⟨kR x.kind,x.text,x.pos⟩
def EP:Nat→B→Nat→List qaH
 | 0,_,_=> []
 | k+1,s,i=> qh9 (ge s i).1::if(ge s i).1.kind < 2 then[] else EP k s (ge s i).2.toNat
def Pw (s:B) (i:Nat):List qaH:=EP (s.size -i+1) s i
theorem xd {s:B} {i:Nat} (h:i≤s.size):i≤cN s i∧cN s i≤s.size:=by
 have:=oJ Cy h
 unfold jK at this
 rw[zX] at this
 exact this
theorem Vb {s:B} {i:Nat} (h:i≤s.size):i≤sX s i∧sX s i≤s.size:=by
 have:=oJ o8 h
 unfold jK at this
 rw[xf] at this
 exact this
theorem Mj {s:B} {i:Nat} (h:i≤s.size):i≤u6 s i∧u6 s i≤s.size:=by
 have:=oJ oU h
 unfold jK at this
 rw[zY] at this
 exact this
theorem IW {s:B} {i:Nat} (h:i < s.size):u6 s i=if Rv s i then u6 s (i+1) else i:=by
 unfold u6
 rw[show s.size -i=(s.size - (i+1)) +1 by omega,Ro]
theorem Bt: ∀ (n:Nat) (s:B) (j:Nat) (v:B) (r:Nat×B),pO n s j v=some r→j≤r.1∧r.1 < s.size
 | 0,_,_,_,_,h=> by cases h
 | n+1,s,j,v,r,h=> by
   rw[pO] at h
   split at h
   ·cases h
   ·rename_i c hc
    have hj:j < s.size:=(Array.getElem?_eq_some_iff.1 hc).1
    split at h
    ·split at h
     ·split at h
      ·have:=Bt n s _ _ r h;omega
      ·cases h;exact⟨Nat.le_refl _,hj⟩
     ·cases h;exact⟨Nat.le_refl _,hj⟩
    ·have:=Bt n s _ _ r h;omega
theorem N8: ∀x∈signsL,1≤x.size∧x.size≤2:=by decide
theorem wo {s:B} {i:Nat} (h:i≤s.size):0≤(ge s i).1.kind∧(ge s i).1.kind≤5∧0≤(ge s i).2∧(ge s i).2≤s.size∧(2≤(ge s i).1.kind→(cN s i:Int) < (ge s i).2):=by
 have h0:=xd h
 unfold ge
 simp only
 split
 ·exact⟨by simp,by simp,by simp,by simp;omega,by simp⟩
 ·rename_i c hc
  have hj:cN s i < s.size:=(Array.getElem?_eq_some_iff.1 hc).1
  split
  ·rename_i hl
   have h1:=Mj (s:=s) (i:=cN s i+1) (by omega)
   rw[IW hj]
   have:Rv s (cN s i)=true:=by
    unfold Rv
    rw[hc]
    have h2:OF c.toNat=true:=by
     unfold pW yf at hl
     unfold OF
     simp at hl ⊢
     omega
    simp[h2]
   rw[if_pos this]
   simp only
   omega
  ·split
   ·rename_i hd
    have h1:=Vb (s:=s) (i:=cN s i+1) (by omega)
    rw[RY hj]
    have:Uo s (cN s i)=true:=by
     unfold Uo
     rw[hc]
     unfold o8 at hd
     simp at hd ⊢
     omega
    rw[if_pos this]
    simp only
    omega
   ·split
    ·split
     ·simp only;omega
     ·rename_i hq
      unfold Ac at hq ⊢
      cases hg:yV s (cN s i+1) ⟨#[]⟩ with
      | none=> rw[hg] at hq;simp at hq
      | some r=>
        have:=Bt _ _ _ _ _ hg
        simp only
        omega
    ·split
     ·rename_i x hx
      have h1:=List.find?_some hx
      have h2:=List.mem_of_find?_eq_some hx
      have h3:=N8 x h2
      unfold j5 at h1
      simp at h1
      simp only
      omega
     ·simp only;omega
theorem EO: ∀ (a b:Nat) (s:B) (i:Nat),i≤s.size→s.size -i+1≤a→s.size -i+1≤b→EP a s i=EP b s i
 | a+1,b+1,s,i,h,ha,hb=> by
   rw[EP,EP]
   split
   ·rfl
   ·rename_i hk
    have hr:=wo h
    have:=hr.2.2.2.2 (by omega)
    have h0:=xd h
    rw[EO a b s _ (by omega) (by omega) (by omega)]
 | 0,_,_,_,_,h,_=> by omega
 | _+1,0,_,_,_,_,h=> by omega
theorem SY {s:B} {i:Nat} (h:i≤s.size):Pw s i=qh9 (ge s i).1::if(ge s i).1.kind < 2 then[] else Pw s (ge s i).2.toNat:=by
 unfold Pw
 rw[EP]
 split
 ·rfl
 ·rename_i hk
  have hr:=wo h
  have:=hr.2.2.2.2 (by omega)
  have h0:=xd h
  rw[EO (s.size -i) _ s _ (by omega) (by omega) (Nat.le_refl _)]
end Go.Gv

namespace Go.Gv
structure Rel (d:Int) (s:Rdr) (p:Pst):Prop where
 e:p.e=0
 deep:p.deep=d
 pos:0≤p.pos
 len:p.l.length≤1000000
 size:s.txt.size≤400
 kind:0≤s.kind∧s.kind≤5
 fin:0≤s.fin∧s.fin≤s.txt.size
 dig:s.kind=3→yo s.text=true
 nam:s.kind=2→s.text≠E0
 at_:p.l.drop p.pos.toNat=⟨kR s.kind,s.text,s.pos⟩::if s.kind < 2 then[] else Pw s.txt s.fin.toNat
def rem (s:Rdr):Int:=if s.kind < 2 then 0 else 1+ (s.txt.size -s.fin)
structure Dd (p:Pst):Prop where
 e:p.e≠0
 now: ∃t,WX p=some t
structure Dead (f:Int×Int) (d:Int) (p:Pst):Prop where
 e:p.e=f.2
 fail:p.fail=f.1
 ne:f.2≠0
 deep:p.deep=d
 now: ∃t,WX p=some t
theorem Dead.dd {f:Int×Int} {d:Int} {p:Pst} (h:Dead f d p):Dd p:=⟨by rw[h.e];exact h.ne,h.now⟩
def DD {Y:Type} (p:Pst) (G:Option (Pst×Y)):Prop:= ∃y,G=some (p,y)
def Sim {Y:Type} (d m:Int) (E:Out (Rdr×Y)) (G:Option (Pst×Y)):Prop:=match E with
 | .ok r=> ∃p,G=some (p,r.2)∧Rel d r.1 p∧rem r.1≤m
 | .err f=> ∃p y,G=some (p,y)∧Dead f d p
 | .no=> False
section
variable {Y Z:Type} {d m:Int} {s:Rdr} {p:Pst}
theorem DD.bind {G:Option (Pst×Y)} {h:Pst×Y→Option (Pst×Z)} (h1:DD p G) (h2: ∀y,DD p (h (p,y))):DD p (G.bind h):=by
 obtain⟨y,rfl⟩:=h1
 exact h2 y
theorem DD.some {y:Y} :DD p (some (p,y)):=⟨y,rfl⟩
theorem Sim.mono {m':Int} {E:Out (Rdr×Y)} {G:Option (Pst×Y)} (h:Sim d m E G) (hm:m≤m'):Sim d m' E G:=by
 cases E with
 | ok r=> obtain⟨p,h1,h2,h3⟩:=h;exact⟨p,h1,h2,by omega⟩
 | err f=> exact h
 | no=> exact h
theorem Sim.bind {m1:Int} {E:Out (Rdr×Y)} {G:Option (Pst×Y)} {k:Rdr×Y→Out (Rdr×Z)} {h:Pst×Y→Option (Pst×Z)} (h1:Sim d m1 E G)
 (h2: ∀s' p' y,Rel d s' p'→rem s'≤m1→Sim d m (k (s',y)) (h (p',y))) (h3: ∀p' y,Dd p'→DD p' (h (p',y))):Sim d m (E.bind k) (G.bind h):=by
 cases E with
 | ok r=>
   obtain⟨p',rfl,hr,hm⟩:=h1
   exact h2 r.1 p' r.2 hr hm
 | err f=>
   obtain⟨p',y,rfl,hr⟩:=h1
   obtain⟨y',h4⟩:=h3 p' y hr.dd
   exact⟨p',y',h4,hr⟩
 | no=> exact h1.elim
theorem Rel.now (h:Rel d s p):WX p=some ⟨kR s.kind,s.text,s.pos⟩:=by
 unfold WX
 rw[if_pos ⟨h.pos,h.len⟩]
 have:=congrArg (fun l=> l[0]?) h.at_
 simpa using this
theorem LX (q:U8→Bool): ∀ (n:Nat) (s:B) (i j:Nat),i≤j→j < rX q n s i→ ∃c,s.data[j]?=some c∧q ⟨c.toNat⟩=true
 | 0,s,i,j,h1,h2=> by rw[rX] at h2;omega
 | n+1,s,i,j,h1,h2=> by
   rw[rX] at h2
   split at h2
   ·rename_i c hc
    split at h2
    ·rename_i hq
     by_cases e:i=j
     ·subst e;exact⟨c,hc,hq⟩
     ·exact LX q n s (i+1) j (by omega) h2
    ·omega
   ·omega
theorem Uf {s:B} {i:Nat} (h: (ge s i).1.kind=3):yo (ge s i).1.text=true:=by
 unfold ge at h ⊢
 try simp only at h
 try simp only
 split at h
 ·simp at h
 ·rename_i c hc
  split at h
  ·simp at h
  ·rename_i h1
   split at h
   ·rename_i h2
    simp only[hc,if_neg h1,if_pos h2]
    unfold yo
    rw[List.all_eq_true]
    intro x hx
    obtain⟨k,hk,rfl⟩:=List.mem_iff_getElem.1 hx
    have e: (s.extract (cN s i) (sX s (cN s i))).data.toList[k]?=some ((s.extract (cN s i) (sX s (cN s i))).data.toList[k]):=List.getElem?_eq_getElem hk
    generalize (s.extract (cN s i) (sX s (cN s i))).data.toList[k]=x at e
    rw[Array.getElem?_toList,ByteArray.data_extract,Array.getElem?_extract] at e
    split at e
    ·rename_i hlt
     have hd:sX s (cN s i)=rX o8 (s.size -cN s i) s (cN s i):=by rw[xf];rfl
     obtain⟨c',hc',hp⟩:=LX o8 (s.size -cN s i) s (cN s i) (cN s i+k) (by omega) (by rw[←hd];omega)
     rw[hc'] at e
     cases e
     unfold o8 at hp
     simp at hp ⊢
     omega
    ·cases e
   ·split at h
    ·split at h
     ·simp at h
     ·simp at h
    ·split at h
     ·simp at h
     ·simp at h
theorem Ud {s:B} {i:Nat} (h: (ge s i).1.kind=2): (ge s i).1.text≠E0:=by
 unfold ge at h ⊢
 try simp only at h
 try simp only
 split at h
 ·simp at h
 ·rename_i c hc
  have hj:cN s i < s.size:=(Array.getElem?_eq_some_iff.1 hc).1
  split at h
  ·rename_i hl
   simp only[hc,hl,if_true]
   have h1:=Mj (s:=s) (i:=cN s i+1) (by omega)
   have h2:u6 s (cN s i)=u6 s (cN s i+1):=by
    rw[IW hj,if_pos]
    unfold Rv
    rw[hc]
    have h2:OF c.toNat=true:=by
     unfold pW yf at hl
     unfold OF
     simp at hl ⊢
     omega
    simp[h2]
   intro e
   have:=congrArg ByteArray.size e
   rw[ByteArray.size_extract,h2] at this
   have e0:E0.size=0:=rfl
   omega
  ·split at h
   ·simp at h
   ·split at h
    ·split at h
     ·simp at h
     ·simp at h
    ·split at h
     ·simp at h
     ·simp at h
theorem Rel.next (h:Rel d s p) (hk:2≤s.kind): ∃s',wm s=some s'∧Rel d s' p.step∧rem s' < rem s:=by
 have hf:=h.fin
 have hz:=h.size
 have hr:=wo (s:=s.txt) (i:=s.fin.toNat) (by omega)
 refine⟨⟨s.txt,(ge s.txt s.fin.toNat).2,(ge s.txt s.fin.toNat).1.kind,(ge s.txt s.fin.toNat).1.text,(ge s.txt s.fin.toNat).1.pos⟩,by rw[wm,if_pos ⟨hf,by omega⟩],⟨h.e,h.deep,?_,h.len,hz,⟨hr.1,hr.2.1⟩,⟨hr.2.2.1,hr.2.2.2.1⟩,Uf,Ud,?_⟩,?_⟩
 ·have:=h.pos
  show 0≤p.pos+1
  omega
 ·have h1:=h.at_
  rw[if_neg (by omega)] at h1
  have h2:=congrArg (List.drop 1) h1
  rw[List.drop_drop,List.drop_succ_cons,List.drop_zero,SY (by omega)] at h2
  have hp:=h.pos
  show p.l.drop (p.pos+1).toNat=_
  rw[show(p.pos+1).toNat=p.pos.toNat+1 by omega,h2]
  rfl
 ·have h0:=xd (s:=s.txt) (i:=s.fin.toNat) (by omega)
  unfold rem
  rw[if_neg (show ¬s.kind < 2 by omega)]
  simp only
  split
  ·omega
  ·have:=hr.2.2.2.2 (by omega)
   omega
end
end Go.Gv

namespace Go.Gv
section
variable {Y Z:Type} {d m:Int} {s:Rdr} {p:Pst}
end
end Go.Gv

namespace Go.Gv
section
variable {Y Z:Type} {d m:Int} {s:Rdr} {p:Pst}
end
end Go.Gv

namespace Go.Gv
section
variable {Y Z:Type} {d m:Int} {s:Rdr} {p:Pst}
section
variable {r:Int} {A:Rdr→Bool→Out (Rdr×Pat)} {A':Pst→Option (Pst×Pat)} {O:Rdr→Out (Rdr×Cond)} {O':Pst→Option (Pst×Cond)}
end
section
variable {r:Int} {A:Rdr→Bool→Out (Rdr×Pat)} {A':Pst→Option (Pst×Pat)} {O:Rdr→Out (Rdr×Cond)} {O':Pst→Option (Pst×Cond)}
end
end
end Go.Gv

namespace Go.Gv
open Cod (enc dec)
variable {S S0:Nat→Spc}
end Go.Gv

namespace Go.Gv
open Cod (enc dec)
variable {S S0:Nat→Spc}
end Go.Gv

namespace Go.Gv
open Go.Proofs
-- r23_Parse while id=0: live [2:, 5:p, 6:q] changed [] res [0, 2, 6, 16, 55]
end Go.Gv

namespace Go.Gv
open Cod (enc dec)
variable {S S0:Nat→Spc}
theorem LE:Walk qL qm S a0 (fun _=> True) (enc (X:=List B)) fun _ y=> y=filterL:=by
 rintro x -
 simp[qL,qm]
 exact gj (Y:=List B) filterL (.same _) rfl
theorem EB:Walk nb mQ S a0 (fun _=> True) (enc (X:=List B)) fun _ y=> y=strategyL:=by
 rintro x -
 simp[nb,mQ]
 exact gj (Y:=List B) strategyL (.same _) rfl
end Go.Gv

namespace Go.Gv
open Cod (enc dec)
variable {S S0:Nat→Spc}
mutual
def gh:Glob→Nat | .mk _ _ _ _ _ _ _ _ _ _ ks=> kU ks+1
def kU:List Glob→Nat | []=> 0 | k::ks=> max (gh k) (kU ks)
end
theorem xi: ∀ {ks:List Glob} {k:Glob},k∈ks→gh k≤kU ks
 | x::ks,k,h=> by
   rw[kU]
   rcases List.mem_cons.1 h with rfl | h
   ·omega
   ·have:=xi h;omega
theorem GH {p k:Glob} (h:k∈p.kids):gh k < gh p:=by
 have:=xi h
 cases p
 rw[gh]
 simp only at this
 omega
abbrev JY (n:Nat):Spc:=cY (a2 Glob Glob) (fun x=> gh x.1≤n∧x.1=x.2) (enc (X:=Bool)) fun _ y=> y=true
abbrev s_sameGA:Spc:=cY (a2 Glob Glob) (fun x=> x.1=x.2) (enc (X:=Bool)) fun _ y=> y=true
theorem Eq (n:Nat) (h0:S o4=JU) (h1:S ei=JY n):Walk pA pj S (a2 Glob Glob) (fun x=> gh x.1≤n+1∧x.1=x.2) (enc (X:=Bool)) fun _ y=> y=true:=by
 rintro⟨a,b⟩ ⟨hn,e⟩
 have e:a=b:=e
 subst e
 have hn:gh a≤n+1:=hn
 have hpre: ∀k∈a.kids,gh k≤n:=fun k hk=> by have:=GH hk;omega
 simp[pA,pj,h0, -Bool.forall_bool]
 intro hlen
 refine aw (X:=Unit) [2,3] [] a.kids.length (fun k _=> True) (fun _=> []) (fun _=> []) () (by simp) (by simp) (by omega) (by simp) (by simp) (by simp) (by simp) (by simp) ?_ ?_
 ·rintro k -hk -
  obtain⟨x,hx⟩:=cz hk
  have hx1:=cn hx
  obtain⟨_,hgx⟩:=List.getElem?_eq_some_iff.1 hx
  simp[h1,hk,hx,hgx,hpre x hx1, -Bool.forall_bool]
 ·rintro - -
  simp
abbrev JW:Spc:=cY (a2 Qry Qry) (fun x=> x.1=x.2) (enc (X:=Bool)) fun _ y=> y=true
theorem NN (h0:S cW=EY) (h1:S ei=s_sameGA):Walk w6 vL S (a2 Qry Qry) (fun x=> x.1=x.2) (enc (X:=Bool)) fun _ y=> y=true:=by
 rintro⟨a,b⟩ e
 have e:a=b:=e
 subst e
 simp[w6,vL,h0,h1, -Bool.forall_bool]
 intro hlen
 refine aw (X:=Unit) [2,3] [] a.filts.length (fun k _=> True) (fun _=> []) (fun _=> []) () (by simp) (by simp) (by omega) (by simp) (by simp) (by simp) (by simp) (by simp) ?_ ?_
 ·rintro k -hk -
  obtain⟨x,hx⟩:=cz hk
  obtain⟨_,hgx⟩:=List.getElem?_eq_some_iff.1 hx
  simp[hk,hx,hgx, -Bool.forall_bool]
 ·rintro - -
  simp
end Go.Gv

namespace Go.Gv
open Cod (enc dec)
variable {S S0:Nat→Spc}
theorem Ms:sd KG=some (Uk,0,0):=by kernel_rfl
theorem EA (h1:S eW=s_eParse) (h2:S m8=yK) (h3:S dM=Fj 10):Walk rb qC S a0 (fun _=> True) (enc (X:=Bool)) fun _ y=> y=true:=by
 rintro⟨⟩ -
 have e1: (⟨#[60,115,62,32,91,119,111,114,100,61,34,84,104,101,34,37,99,93]⟩:B)=KG:=rfl
 simp[rb,qC,h1,h2,h3, -Bool.forall_bool, -Bool.exists_bool]
 rw[e1,Ms]
 refine⟨⟨_,_,_,rfl⟩,fun a a1 b hq=> ?_⟩
 simp only[Option.some.injEq,Prod.mk.injEq] at hq
 obtain⟨rfl,rfl,rfl⟩:=hq
 refine⟨fun _=> ⟨fun _=> ⟨fun _ _=> ⟨fun _=> ⟨by decide,fun p hp=> ?_⟩,rfl⟩,rfl⟩,rfl⟩,rfl⟩
 have hp:some (⟨1,⟨2,⟨#[119,111,114,100]⟩,E0,⟨#[84,104,101]⟩,E0,true, []⟩,E0,E0,0,0, []⟩:Pat)=some p:=hp
 cases hp
 refine⟨fun _=> ⟨fun _=> ⟨Rt,fun y hy=> ?_⟩,?_⟩,rfl⟩
 ·have hy:vS 10 pz=some y:=hy
  rw[F8] at hy
  cases hy
  rfl
 ·show(if sa ft pz=true then mL pz else 0)=2
  rw[if_pos I1,OI]
end Go.Gv

namespace Go.Gv
open Go.Proofs Cod
theorem Mc:Tri Tryz.prog bC (cV).pt:=
 ak (S:=cj []) (ap ah) BD (fun _=> Nat.le_of_ble_eq_true rfl) (HU)
theorem Rc:Tri Tryz.prog lI (oz).pt:=
 ak (S:=cj []) (ap ah) FB (fun _=> Nat.le_of_ble_eq_true rfl) (LE)
theorem Ko:Tri Tryz.prog iv (s_qstrats).pt:=
 ak (S:=cj []) (ap ah) Af (fun _=> Nat.le_of_ble_eq_true rfl) (EB)
theorem Fw: ∀n,Tri Tryz.prog ei (JY n).pt
 | 0=> cM fun x h=> by obtain⟨a,b⟩:=x;have h:=h.1;cases a;simp only[gh] at h;omega
 | n+1=> ak (S:=cj [(o4,JU),(ei,JY n)]) (ap (ac LI (ac (Fw n) ah))) Dw (fun _=> Nat.le_of_ble_eq_true rfl) (Eq n rfl rfl)
theorem Mb:Tri Tryz.prog ei s_sameGA.pt:=fu (fun n=> Fw n) (gx (fun x h=> ⟨gh x.1,Nat.le_refl _,h⟩))
theorem Y7:Tri Tryz.prog qI (JW).pt:=
 ak (S:=cj [(cW,EY),(ei,s_sameGA)]) (ap (ac zH (ac Mb ah))) Me (fun _=> Nat.le_of_ble_eq_true rfl) (NN rfl rfl)
theorem EK:Tri Tryz.prog jp (Bh).pt:=
 ak (S:=cj [(eW,s_eParse),(m8,yK),(dM,Fj 10)]) (ap (ac vx (ac JM (ac EI ah)))) FZ (fun _=> Nat.le_of_ble_eq_true rfl) (EA rfl rfl rfl)
end Go.Gv

namespace Go.Gv
open Go.Proofs
-- r22_count range i=17 n=16 c=18 i2=38 id=0: live [1:deep, 6:n, 7:d, 15:] changed [6, 7] res []
def uv:CC:=oX [oB 2 (.box aR true (oT 0)),oB 4 (.mv (oN 0)),oB 5 (.mv (oN 0))] [1,2] [] (.seq (oX [oA 12 1,oB 13 (.cmp .gtr (oT 12) (oN 60))] [1,2,13] [] (.ite (oT 13) (oX [oB 4 (.mv (oN 61)),oB 5 (.mv (oN 61))] [4,5] [] (.ret)) (.skip))) (.keep [1,2] [] (oX [oB 6 (.mv (oN 1)),oB 7 (.mv (oN 0))] [1,2,6,7] [] (.seq (oX [oE 14 6 2,oC 15 1 14,oB 16 (.len (oT 15)),
 oB 17 (.mv (oN 0))] [1,6,7,15,16,17] [] (bn 0 17 16 18 1 (oX [oB 19 (.iaddr 7 (oT 15) (oT 17)),oD 20 7 19,oB 9 (.alloc aR [oi,oe,oe,oe,oe,ob,on]),oF 7 9 20] [1,6,7,9,15,16,17] [9] (oX [oD 22 7 9,oA 23 1,oB 24 (.arith .add (oT 23) (oN 1)),oZ 25 gT [oT 22,oT 24],oA 21 25,oB 26 (.ext (oT 21) 0),oB 27 (.ext (oT 21) 1),oA 10 26,oA 11 27] [1,6,7,10,11,15,16,17] [] (oX [
 oA 28 6,oA 29 10,oB 30 (.arith .add (oT 28) (oT 29)),oA 31 7,oA 32 11,oB 33 (.mm true [oT 31,oT 32]),oA 6 30,oA 7 33] [1,6,7,15,16,17] [] (oX [oA 34 6,oB 35 (.cmp .gtr (oT 34) (oN 60))] [1,6,7,15,16,17,35] [] (.ite (oT 35) (oX [oA 36 7,oB 37 (.arith .add (oT 36) (oN 1)),oB 4 (.mv (oN 61)),oA 5 37] [4,5] [] (.ret)) (.skip)))))) 38)) (.keep [6,7] [] (oX [oA 39 6,oA 40 7,
 oB 41 (.arith .add (oT 40) (oN 1)),oA 4 39,oA 5 41] [4,5] [] (.ret)))))))
def tG:List aK:= [.tmp 4, .tmp 5]
def KJ:List Nat:= [2]
theorem Kr:aS Tryz.prog gT KJ uv tG 42:=aA ay (by kernel_rfl)
def ux:CC:=oX [oB 1 (.box aR true (oT 0)),oB 2 (.mv (oN 0)),oB 3 (.mv (oN 0))] [1] [] (oX [oD 4 7 1,oZ 5 gT [oT 4,oN 0],oB 6 (.ext (oT 5) 0),oB 7 (.ext (oT 5) 1),oA 2 6,oA 3 7] [2,3] [] (.ret))
def tI:List aK:= [.tmp 2, .tmp 3]
def KM:List Nat:= [1]
theorem Ku:aS Tryz.prog o6 KM ux tI 8:=aA ay (by kernel_rfl)
def eo:CC:=oX [oB 1 (.box aR true (oT 0)),oB 2 (.mv (.const ob))] [1] [] (oX [oB 3 (.mv (.const ob)),oB 4 (.mv (.const ob)),oB 5 (.mv (.const ob)),oB 6 (.mv (.const ob)),oB 7 (.mv (.const ob)),oB 8 (.mv (oN 0)),oB 9 (.mv (oN 0))] [1,3,4,5,6,7,8,9] [] (.seq (oX [oE 10 0 1,oC 11 1 10] [1,3,4,5,6,7,8,9,11] [] (.block 0 (oX [
 oB 13 (.eql false false [.int] (oT 11) (oN 1)),oA 12 13] [1,3,4,5,6,7,8,9,11,12] [] (.ite (oT 12) (.skip) (oX [oB 15 (.eql false false [.int] (oT 11) (oN 2)),oA 14 15] [1,3,4,5,6,7,8,9,11,14] [] (.ite (oT 14) (.reg [oB 3 (.mv (.const (.bool true))),oB 5 (.mv (.const (.bool true))),oB 7 (.mv (.const (.bool true)))]) (oX [oB 17 (.eql false false [.int] (oT 11) (oN 3)),
 oA 16 17] [1,3,4,5,6,7,8,9,11,16] [] (.ite (oT 16) (.reg [oB 3 (.mv (.const (.bool true))),oB 5 (.mv (.const (.bool true)))]) (oX [oB 19 (.eql false false [.int] (oT 11) (oN 4)),oA 18 19] [1,3,4,5,6,7,8,9,11,18] [] (.ite (oT 18) (.reg [oB 3 (.mv (.const (.bool true))),oB 4 (.mv (.const (.bool true))),oB 6 (.mv (.const (.bool true)))]) (oX [oB 21 (.eql false false [.int] (oT 11) (oN 5)),
 oA 20 21] [1,3,4,5,6,7,8,9,11,20] [] (.ite (oT 20) (.regd [oE 22 2 1,oC 23 1 22,oB 24 (.eql true false [.str] (oT 23) (oS ⟨#[]⟩)),oB 3 (.mv (.const (.bool true))),oB 4 (.mv (.const (.bool true)))] [oA 5 24]) (oX [oB 26 (.eql false false [.int] (oT 11) (oN 6)),oA 25 26] [1,3,4,5,6,7,11,25] [] (.ite (oT 25) (.reg [oB 8 (.mv (oN 1)),oB 9 (.mv (oN 1))]) (.seq (oX [
 oB 28 (.eql false false [.int] (oT 11) (oN 7)),oA 27 28] [1,3,4,5,6,7,11,27] [] (.ite (oT 27) (.skip) (.reg [oB 29 (.eql false false [.int] (oT 11) (oN 8)),oA 27 29]))) (.keep [1,3,4,5,6,7,27] [] (.ite (oT 27) (.reg [oB 8 (.mv (oN 2)),oB 9 (.mv (oN 1000))]) (oX [oB 2 (.mv (.const ob))] [2] [] (.ret))))))))))))))))))) (.keep [1,3,4,5,6,7,8,9] [] (oX [oA 30 3,oA 31 30,
 oI 32 31 (.faddr 1 (oT 1)),oI 33 31 (.load false 1 (oT 32)),oI 34 31 (.eql false false [.str] (oT 33) (oS ⟨#[]⟩)),oB 35 (.pick (oT 31) (.const (.bool true)) (oT 34)),oA 36 35,oH 37 36 (.mv (oT 4)),oH 38 36 (.mv (oT 37)),oI 39 38 (.faddr 2 (oT 1)),oI 40 38 (.load false 1 (oT 39)),oI 41 38 (.eql false false [.str] (oT 40) (oS ⟨#[]⟩)),oH 42 36 (.pick (oT 38) (.const (.bool true)) (oT 41)),
 oB 43 (.pick (oT 36) (oT 42) (.const ob)),oA 44 43,oH 45 44 (.mv (oT 5)),oH 46 44 (.mv (oT 45)),oI 47 46 (.faddr 3 (oT 1)),oI 48 46 (.load false 1 (oT 47)),oI 49 46 (.eql false false [.str] (oT 48) (oS ⟨#[]⟩)),oH 50 44 (.pick (oT 46) (.const (.bool true)) (oT 49)),oB 51 (.pick (oT 44) (oT 50) (.const ob)),oA 52 51,oH 53 52 (.mv (oT 6)),oH 54 52 (.mv (oT 53)),
 oI 55 54 (.faddr 4 (oT 1)),oI 56 54 (.load false 1 (oT 55)),oI 57 54 (.eql false false [.str] (oT 56) (oS ⟨#[]⟩)),oH 58 52 (.pick (oT 54) (.const (.bool true)) (oT 57)),oB 59 (.pick (oT 52) (oT 58) (.const ob)),oA 60 59,oH 61 60 (.mv (oT 7)),oH 62 60 (.mv (oT 61)),oI 63 62 (.faddr 5 (oT 1)),oI 64 62 (.load false 1 (oT 63)),oI 65 62 (.not (oT 64)),
 oH 66 60 (.pick (oT 62) (.const (.bool true)) (oT 65)),oB 67 (.pick (oT 60) (oT 66) (.const ob)),oA 68 67,oH 69 68 (.faddr 6 (oT 1)),oH 70 68 (.load false 1 (oT 69)),oH 71 68 (.len (oT 70)),oH 72 68 (.mv (oT 8)),oH 73 68 (.cmp .geq (oT 71) (oT 72)),oB 74 (.pick (oT 68) (oT 73) (.const ob)),oA 75 74,oH 76 75 (.faddr 6 (oT 1)),oH 77 75 (.load false 1 (oT 76)),oH 78 75 (.len (oT 77)),
 oH 79 75 (.mv (oT 9)),oH 80 75 (.cmp .leq (oT 78) (oT 79)),oB 81 (.pick (oT 75) (oT 80) (.const ob)),oA 2 81] [2] [] (.ret)))))
def ee:List aK:= [.tmp 2]
def KL:List Nat:= [1]
theorem Kt:aS Tryz.prog o5 KL eo ee 82:=aA ay (by kernel_rfl)
def pB:CC:=oX [oB 2 (.mv (oS ⟨#[]⟩))] [0] [] (.seq (oX [oA 3 0,oB 4 (.cmp .lss (oT 3) (oN 0))] [0,4] [] (.ite (oT 4) (.seq (oX [oA 5 0,oB 6 (.cmp .gtr (oT 5) (oN (-10)))] [0,6] [] (.ite (oT 6) (oX [oA 7 0,oB 8 (.neg (oT 7)),oZ 9 aL [oT 8],oB 10 (.scat (oS ⟨#[45]⟩) (oT 9)),oA 2 10] [2] [24] (.ret)) (.skip))) (.keep [0] [] (oX [oA 11 0,
 oB 12 (.arith .quo (oT 11) (oN 10)),oZ 13 aL [oT 12],oA 14 0,oB 15 (.arith .rem (oT 14) (oN 10)),oB 16 (.neg (oT 15)),oZ 17 aL [oT 16],oB 18 (.scat (oT 13) (oT 17)),oA 2 18] [2] [24] (.ret)))) (.skip))) (.keep [0] [] (.seq (oX [oA 19 0,oB 20 (.cmp .lss (oT 19) (oN 10))] [0,20] [] (.ite (oT 20) (oX [oA 21 0,oB 22 (.arith .add (oN 48) (oT 21)),
 oB 23 (.conv .u8 (oT 22)),oB 24 (.mslice vy 1 [oT 23]),oB 25 (.bstr (oT 24)),oA 2 25] [2] [24] (.ret)) (.skip))) (.keep [0] [] (oX [oA 26 0,oB 27 (.arith .quo (oT 26) (oN 10)),oZ 28 aL [oT 27],oA 29 0,oB 30 (.arith .rem (oT 29) (oN 10)),oZ 31 aL [oT 30],oB 32 (.scat (oT 28) (oT 31)),oA 2 32] [2] [24] (.ret))))))
def pk:List aK:= [.tmp 2]
def DK:List Nat:= [100024]
theorem Dx:aS Tryz.prog aL DK pB pk 33:=aA ay (by kernel_rfl)
-- r23_Format range i=32 n=31 c=33 i2=39 id=0: live [1:q, 30:] changed [] res [30]
-- r23_Format range i=56 n=55 c=57 i2=85 id=2: live [1:q, 5:out, 54:] changed [5] res []
def qN:CC:=oX [oB 1 (.box jO true (oT 0)),oB 2 (.mv (oS ⟨#[]⟩))] [1] [] (.seq (oX [oE 8 0 1,oD 9 13 8,oZ 10 fR [oT 9,oN 1],oB 11 (.not (oT 10)),oA 12 11,oI 13 12 (.faddr 25 (oT 1)),oI 14 12 (.load false 1 (oT 13)),oI 15 12 (.cmp .lss (oT 14) (oN 0)),oB 16 (.pick (oT 12) (.const (.bool true)) (oT 15)),oA 17 16,oI 18 17 (.faddr 25 (oT 1)),
 oI 19 17 (.load false 1 (oT 18)),oI 20 17 (.cmp .gtr (oT 19) (oN 3)),oB 21 (.pick (oT 17) (.const (.bool true)) (oT 20)),oA 22 21,oI 23 22 (.faddr 13 (oT 1)),oI 24 22 (.load true 11 (oT 23)),oI 25 22 (.call lJ [oT 24]),oI 26 22 (.not (oT 25)),oB 27 (.pick (oT 22) (.const (.bool true)) (oT 26))] [1,27] [] (.ite (oT 27) (oX [oB 2 (.mv (oS ⟨#[]⟩))] [2] [] (.ret)) (.skip)))
 (.keep [1] [] (.seq (oX [oE 28 0 1,oD 29 13 28,oZ 30 dP [oT 29,.const on],.frz 30 13,oB 31 (.len (oT 30)),oB 32 (.mv (oN 0))] [1,30,31,32] [30] (bn 0 32 31 33 1 (oX [oB 34 (.iaddr 13 (oT 30) (oT 32)),oD 35 13 34,oB 4 (.alloc aj [oi,oi,oe,oe,oe,oe,ob,on,oe,oe,oi,oi,on]),oF 13 4 35] [1,4,30,31,32] [4,30] (oX [oE 36 1 4,oD 37 7 36,
 oZ 38 dO [oT 37]] [1,30,31,32,38] [30] (.ite (oT 38) (oX [oB 2 (.mv (oS ⟨#[]⟩))] [2] [] (.ret)) (.skip)))) 39)) (.keep [1] [] (oX [oE 40 0 1,oD 41 13 40,oZ 42 dj [oT 41],oA 5 42] [1,5] [] (.seq (oX [oE 43 13 1,oE 44 0 43,oC 45 1 44,oB 46 (.eql true false [.int] (oT 45) (oN 0))] [1,5,46] [] (.ite (oT 46) (.reg [oA 47 5,oE 48 13 1,oD 49 11 48,
 oZ 50 a7 [oT 49],oB 51 (.scat (oS ⟨#[32,58,58,32]⟩) (oT 50)),oB 52 (.scat (oT 47) (oT 51)),oA 5 52]) (.skip))) (.keep [1,5] [] (.seq (oX [oE 53 24 1,oC 54 1 53,oB 55 (.len (oT 54)),oB 56 (.mv (oN 0))] [1,5,54,55,56] [] (bn 2 56 55 57 3 (oX [oB 58 (.iaddr 3 (oT 54) (oT 56)),oD 59 3 58,oB 7 (.alloc gc [oi,ob,oe]),oF 3 7 59] [1,5,7,54,55,56] [7] (.seq (oX [
 oE 60 0 7,oC 61 1 60,oB 62 (.cmp .lss (oT 61) (oN 1)),oA 63 62,oI 64 63 (.faddr 0 (oT 7)),oI 65 63 (.load false 1 (oT 64)),oI 66 63 (.cmp .gtr (oT 65) (oN 3)),oB 67 (.pick (oT 63) (.const (.bool true)) (oT 66))] [1,5,7,54,55,56,67] [7] (.ite (oT 67) (oX [oB 2 (.mv (oS ⟨#[]⟩))] [2] [] (.ret)) (.skip))) (.keep [1,5,7,54,55,56] [7] (oX [oA 68 5,oB 69 (.scat (oT 68) (oS ⟨#[32]⟩)),
 oA 5 69] [1,5,7,54,55,56] [7] (.seq (oX [oE 70 1 7,oC 71 1 70] [1,5,7,54,55,56,71] [7] (.ite (oT 71) (.reg [oA 72 5,oB 73 (.scat (oT 72) (oS ⟨#[33]⟩)),oA 5 73]) (.skip))) (.keep [1,5,7,54,55,56] [7] (.regd [oA 74 5,oZ 75 lI [],oE 76 0 7,oC 77 1 76,oB 78 (.iaddr 1 (oT 75) (oT 77)),oC 79 1 78,oB 80 (.scat (oT 79) (oS ⟨#[32]⟩)),oE 81 2 7,oC 82 1 81,
 oB 83 (.scat (oT 80) (oT 82))] [oB 84 (.scat (oT 74) (oT 83)),oA 5 84]))))))) 85)) (.keep [1,5] [] (.seq (oX [oE 86 25 1,oC 87 1 86,oB 88 (.eql true false [.int] (oT 87) (oN 0))] [1,5,88] [] (.ite (oT 88) (.regd [oA 89 5,oZ 90 iv [],oE 91 25 1,oC 92 1 91,oB 93 (.iaddr 1 (oT 90) (oT 92)),oC 94 1 93,oB 95 (.scat (oS ⟨#[32,115,116,114,97,116,101,103,121,32]⟩) (oT 94))] [
 oB 96 (.scat (oT 89) (oT 95)),oA 5 96]) (.skip))) (.keep [5] [] (oX [oA 97 5,oA 2 97] [2] [] (.ret)))))))))))))
def qo:List aK:= [.tmp 2]
def Gg:List Nat:= [1]
theorem FF:aS Tryz.prog m6 Gg qN qo 98:=aA ay (by kernel_rfl)
end Go.Gv

namespace Go.Gv
def dn {α:Type} (sep:B) (par:α→Bool) (f:α→Option B):Nat→List α→Option B
 | _, []=> some E0
 | i,k::ks=> (f k).bind fun t=> (dn sep par f (i+1) ks).map fun r=> ((if i=0 then E0 else sep) ++eX (par k) t) ++r
def kI (c:Prop) [Decidable c]:B:=if c then⟨#[32,38,32]⟩ else⟨#[32,124,32]⟩
def mb (n:Int):Option B:=if 0≤n∧n < 10 then some ⟨#[(48+n).toNat.toUInt8]⟩ else if -10 < n∧n < 0 then some (⟨#[45]⟩ ++ ⟨#[(48+ -n).toNat.toUInt8]⟩) else none
def Ot (x:Cond):Option B:=if x.arg=E0 then some ((⟨#[105,110,40]⟩ ++x.name) ++ ⟨#[41]⟩) else
 (lW x.val).map fun t=> (((((⟨#[105,110,40]⟩ ++x.name) ++ ⟨#[44]⟩) ++x.arg) ++ ⟨#[61]⟩) ++t) ++ ⟨#[41]⟩
def lk (op:Int) (k:Cond):Bool:=decide (k.op=8) || (decide (op=7) && decide (k.op=7))
def WS (f:Cond→Option B):List Cond→Option B
 | [k]=> (f k).map fun t=> ⟨#[33]⟩ ++eX (decide (k.op=7) || decide (k.op=8)) t
 | _=> none
def gm (f:Cond→Option B) (x:Cond):Option B:=
 if x.op=1 then some ⟨#[91,93]⟩ else
 if x.op=2 then(il (x.val,x.fold)).map fun t=> if x.name=E0 then t else(x.name++ ⟨#[61]⟩) ++t else
 if x.op=3 then(lW x.val).map fun t=> (x.name++ ⟨#[32,99,111,110,116,97,105,110,115,32]⟩) ++t else
 if x.op=4 then some ((((x.name++ ⟨#[61]⟩) ++x.lab) ++ ⟨#[46]⟩) ++x.arg) else
 if x.op=5 then Ot x else
 if x.op=6 then WS f x.kids else
 if x.op=7∨x.op=8 then dn (kI (x.op=7)) (lk x.op) f 0 x.kids else none
def bj:Nat→Cond→Option B
 | 0=> fun _=> none
 | n+1=> gm (bj n)
def LN (f:Cond→Option B) (p:Pat):Option B:=(f p.cond).map fun t=> if p.lab=E0 then bL p.cond t else(p.lab++ ⟨#[58]⟩) ++bL p.cond t
def A4 (lo hi:Int):Option B:=
 if lo=0∧hi=1 then some ⟨#[63]⟩ else if lo=0∧hi= -1 then some ⟨#[42]⟩ else if lo=1∧hi= -1 then some ⟨#[43]⟩ else
 if lo=2∧hi=2 then some ⟨#[123,50,125]⟩ else if lo=0∧hi=2 then some ⟨#[123,48,44,50,125]⟩ else if lo=1∧hi=3 then some ⟨#[123,49,44,51,125]⟩ else
 if lo=0∧hi=0 then some ⟨#[123,48,125]⟩ else none
def TH (f:Pat→Option B) (lo hi:Int):List Pat→Option B
 | [k]=> (f k).bind fun t=> (A4 lo hi).map fun u=> eX (decide (k.op=5) || decide (k.op=4)) t++u
 | _=> none
def lE (op:Int) (k:Pat):Bool:=decide (k.op=5) || (decide (op=4) && decide (k.op=4))
def zR (op:Int):B:=if op=5 then⟨#[32,124]⟩ ++ ⟨#[32]⟩ else⟨#[32]⟩
def oM (c:Cond→Option B) (f:Pat→Option B) (p:Pat):Option B:=
 if p.op=1 then LN c p else if p.op=2 then some ((⟨#[60]⟩ ++p.reg) ++ ⟨#[62]⟩) else if p.op=3 then some ((⟨#[60,47]⟩ ++p.reg) ++ ⟨#[62]⟩) else
 if p.op=6 then TH f p.mn p.mx p.kids else
 if p.op=4∨p.op=5 then dn (zR p.op) (lE p.op) f 0 p.kids else none
def eT (c:Cond→Option B):Nat→Pat→Option B
 | 0=> fun _=> none
 | n+1=> oM c (eT c n)
def Cg (op:Int):Option B:=
 if op=1 then some ⟨#[98,111,117,110,100]⟩ else if op=4 then some ⟨#[100,105,115,116,97,110,99,101]⟩ else if op=5 then some ⟨#[115,97,109,101]⟩ else
 if op=6 then some ⟨#[104,101,97,100]⟩ else if op=7 then some ⟨#[97,110,99,101,115,116,111,114]⟩ else if op=8 then some ⟨#[112,97,116,104]⟩ else
 if op=9 then some ⟨#[110,111,100,101]⟩ else if op=10 then some ⟨#[100,101,112,116,104]⟩ else none
def gp:List B→Option B
 | []=> some E0
 | a::l=> (lW a).bind fun t=> (gp l).map fun r=> (⟨#[44]⟩ ++t) ++r
def kP (g:Glob):Option B:=if g.op=4∨g.op=10 then(mb g.mn).bind fun t=> (mb g.mx).map fun u=> ((⟨#[44]⟩ ++t) ++ ⟨#[44]⟩) ++u else some E0
def fj (g:Glob):Option B:=(Cg g.op).bind fun w=> (kP g).bind fun n=> if g.op≠8∧g.args≠ [] then none else(gp g.args).map fun r=>
 (((((w++ ⟨#[40]⟩) ++g.a) ++ (if g.op≠1∧g.op≠10 then⟨#[44]⟩ ++g.b else E0)) ++n) ++ (if g.op=5∨g.op=9 then⟨#[44]⟩ ++g.name else E0) ++r) ++ ⟨#[41]⟩
def WR (f:Glob→Option B):List Glob→Option B
 | [k]=> (f k).map fun t=> ⟨#[33]⟩ ++eX (decide (k.op=12) || decide (k.op=13)) t
 | _=> none
def gd (op:Int) (k:Glob):Bool:=decide (k.op=13) || (decide (op=12) && decide (k.op=12))
def ka (f:Glob→Option B) (g:Glob):Option B:=
 if g.op=2 then(il (g.val,g.fold)).map fun t=> (((g.a++ ⟨#[46]⟩) ++g.name) ++ ⟨#[61]⟩) ++t else
 if g.op=3 then some ((((((g.a++ ⟨#[46]⟩) ++g.name) ++ ⟨#[61]⟩) ++g.b) ++ ⟨#[46]⟩) ++g.arg) else
 if g.op=11 then WR f g.kids else
 if g.op=12∨g.op=13 then dn (kI (g.op=12)) (gd g.op) f 0 g.kids else fj g
def aX:Nat→Glob→Option B
 | 0=> fun _=> none
 | n+1=> ka (aX n)
def KZ (f:Filt):Option B:=(if 0 < f.op then filterL[f.op.toNat]? else none).map fun w=> (((if f.neg then⟨#[32]⟩ ++ ⟨#[33]⟩ else⟨#[32]⟩) ++w) ++ ⟨#[32]⟩) ++f.reg
def kV:List Filt→Option B
 | []=> some E0
 | f::l=> (KZ f).bind fun t=> (kV l).map fun r=> t++r
def xc (s:Int):Option B:=if s=0 then some E0 else(if 0 < s then strategyL[s.toNat]? else none).map fun w=> ⟨#[32,115,116,114,97,116,101,103,121,32]⟩ ++w
def zr (g:Glob):Option B:=if g.op=0 then some E0 else(aX 10 g).map fun t=> ⟨#[32,58,58,32]⟩ ++t
def Dv (q:Qry):Option B:=(eT (bj 10) 10 q.pat).bind fun t=> (zr q.glob).bind fun g=> (kV q.filts).bind fun f=> (xc q.strat).map fun s=> ((t++g) ++f) ++s
end Go.Gv
