/- A part of the framework and of the walks: W95 W96 W97 V21 V22 V23. -/
import Derived.Test.YtaiffcbkmgfklaaGreatDoorGt38
import Derived.Test.YtaiffcbkmgfklaaGreatDoorGt39
import Derived.Test.YtaiffcbkmgfklaaGreatDoorGt33
import Derived.Test.YtaiffcbkmgfklaaGreatDoorGt35
import Derived.Test.YtaiffcbkmgfklaaGreatDoorGt36
import Derived.Test.YtaiffcbkmgfklaaGreatDoorGt30
set_option linter.unusedSimpArgs false
set_option linter.unusedVariables false
set_option maxRecDepth 100000

namespace Go.Gv
open Cod (enc dec)
variable {S S0:Nat→Spc}
end Go.Gv

namespace Go.Gv
open Cod (enc dec)
variable {S S0:Nat→Spc}
end Go.Gv

namespace Go.Gv
open Cod (enc dec)
variable {S S0:Nat→Spc}
def fc:List B:= [E0,⟨#[98,111,117,110,100]⟩,E0,E0,⟨#[100,105,115,116,97,110,99,101]⟩,⟨#[115,97,109,101]⟩,⟨#[104,101,97,100]⟩,⟨#[97,110,99,101,115,116,111,114]⟩,⟨#[112,97,116,104]⟩,⟨#[110,111,100,101]⟩,⟨#[100,101,112,116,104]⟩]
abbrev ci:Spc:=dt a0 (fun _=> True) (enc (X:=List B)) fun _ y=> y=fc
theorem FG:Walk l8 lP S a0 (fun _=> True) (enc (X:=List B)) fun _ y=> y=fc:=by
 rintro x -
 simp[l8,lP]
 exact gq (Y:=List B) fc (.same _) rfl
end Go.Gv

namespace Go.Gv
def kR (k:Int):Int:=if k=0 then 101 else if k=1 then 120 else if k=2 then 110 else if k=3 then 100 else if k=4 then 115 else 111
def QJ (x:Qc):P6:=⟨kR x.kind,x.text,x.pos⟩
def CD:Nat→B→Nat→List P6
 | 0,_,_=> []
 | k+1,s,i=> QJ (bV s i).1::if(bV s i).1.kind < 2 then[] else CD k s (bV s i).2.toNat
def sv (s:B) (i:Nat):List P6:=CD (s.size -i+1) s i
theorem lJ {s:B} {i:Nat} (h:i≤s.size):i≤br s i∧br s i≤s.size:=by
 have:=kT Bj h
 unfold gS at this
 rw[xR] at this
 exact this
theorem SA {s:B} {i:Nat} (h:i≤s.size):i≤pp s i∧pp s i≤s.size:=by
 have:=kT lr h
 unfold gS at this
 rw[ve] at this
 exact this
theorem J9 {s:B} {i:Nat} (h:i≤s.size):i≤qI s i∧qI s i≤s.size:=by
 have:=kT vQ h
 unfold gS at this
 rw[xS] at this
 exact this
theorem GO {s:B} {i:Nat} (h:i < s.size):qI s i=if Pl s i then qI s (i+1) else i:=by
 unfold qI
 rw[show s.size -i=(s.size - (i+1)) +1 by omega,Pe]
theorem zB: ∀ (n:Nat) (s:B) (j:Nat) (v:B) (r:Nat×B),ni n s j v=some r→j≤r.1∧r.1 < s.size
 | 0,_,_,_,_,h=> by cases h
 | n+1,s,j,v,r,h=> by
   rw[ni] at h
   split at h
   ·cases h
   ·rename_i c hc
    have hj:j < s.size:=(Array.getElem?_eq_some_iff.1 hc).1
    split at h
    ·split at h
     ·split at h
      ·have:=zB n s _ _ r h;omega
      ·cases h;exact⟨Nat.le_refl _,hj⟩
     ·cases h;exact⟨Nat.le_refl _,hj⟩
    ·have:=zB n s _ _ r h;omega
theorem LX: ∀x∈signsL,1≤x.size∧x.size≤2:=by decide
theorem jO {s:B} {i:Nat} (h:i≤s.size):0≤(bV s i).1.kind∧(bV s i).1.kind≤5∧0≤(bV s i).2∧(bV s i).2≤s.size∧(2≤(bV s i).1.kind→(br s i:Int) < (bV s i).2):=by
 have h0:=lJ h
 unfold bV
 simp only
 split
 ·exact⟨by simp,by simp,by simp,by simp;omega,by simp⟩
 ·rename_i c hc
  have hj:br s i < s.size:=(Array.getElem?_eq_some_iff.1 hc).1
  split
  ·rename_i hl
   have h1:=J9 (s:=s) (i:=br s i+1) (by omega)
   rw[GO hj]
   have:Pl s (br s i)=true:=by
    unfold Pl
    rw[hc]
    have h2:D1 c.toNat=true:=by
     unfold yl yK at hl
     unfold D1
     simp at hl ⊢
     omega
    simp[h2]
   rw[if_pos this]
   simp only
   omega
  ·split
   ·rename_i hd
    have h1:=SA (s:=s) (i:=br s i+1) (by omega)
    rw[PK hj]
    have:RY s (br s i)=true:=by
     unfold RY
     rw[hc]
     unfold lr at hd
     simp at hd ⊢
     omega
    rw[if_pos this]
    simp only
    omega
   ·split
    ·split
     ·simp only;omega
     ·rename_i hq
      unfold wL at hq ⊢
      cases hg:tS s (br s i+1) ⟨#[]⟩ with
      | none=> rw[hg] at hq;simp at hq
      | some r=>
        have:=zB _ _ _ _ _ hg
        simp only
        omega
    ·split
     ·rename_i x hx
      have h1:=List.find?_some hx
      have h2:=List.mem_of_find?_eq_some hx
      have h3:=LX x h2
      unfold gF at h1
      simp at h1
      simp only
      omega
     ·simp only;omega
theorem CB: ∀ (a b:Nat) (s:B) (i:Nat),i≤s.size→s.size -i+1≤a→s.size -i+1≤b→CD a s i=CD b s i
 | a+1,b+1,s,i,h,ha,hb=> by
   rw[CD,CD]
   split
   ·rfl
   ·rename_i hk
    have hr:=jO h
    have:=hr.2.2.2.2 (by omega)
    have h0:=lJ h
    rw[CB a b s _ (by omega) (by omega) (by omega)]
 | 0,_,_,_,_,h,_=> by omega
 | _+1,0,_,_,_,_,h=> by omega
theorem qp {s:B} {i:Nat} (h:i≤s.size):sv s i=QJ (bV s i).1::if(bV s i).1.kind < 2 then[] else sv s (bV s i).2.toNat:=by
 unfold sv
 rw[CD]
 split
 ·rfl
 ·rename_i hk
  have hr:=jO h
  have:=hr.2.2.2.2 (by omega)
  have h0:=lJ h
  rw[CB (s.size -i) _ s _ (by omega) (by omega) (Nat.le_refl _)]
theorem Gn: ∀ (n:Nat) (s:B) (i:Nat),i≤s.size→s.size -i≤n→(sv s i).length≤n+1
 | 0,s,i,h,hn=> by
   have h0:=lJ h
   rw[qp h]
   have hr:=jO h
   split
   ·simp
   ·have:=hr.2.2.2.2 (by omega)
    omega
 | n+1,s,i,h,hn=> by
   have h0:=lJ h
   rw[qp h]
   have hr:=jO h
   split
   ·simp
   ·have:=hr.2.2.2.2 (by omega)
    have:=Gn n s (bV s i).2.toNat (by omega) (by omega)
    simp
    omega
theorem QI {s:B} {i:Nat} (h:br s i < s.size):match Wn s (br s i) with
 | none=> (bV s i).1=⟨1,E0,br s i⟩
 | some r=> 2≤(bV s i).1.kind∧r.2=QJ (bV s i).1∧(r.1:Int)=(bV s i).2:=by
 obtain⟨c,hc⟩: ∃c,s.data[br s i]?=some c:=⟨_,Array.getElem?_eq_getElem h⟩
 have e1:yl ⟨c.toNat⟩=D1 c.toNat:=by unfold yl yK D1;rw[Bool.eq_iff_iff];simp;omega
 have e2:lr ⟨c.toNat⟩=decide (48≤c.toNat∧c.toNat≤57):=by unfold lr;rw[Bool.eq_iff_iff];simp;omega
 unfold Wn bV
 simp only[hc,e1,e2]
 by_cases h1:D1 c.toNat=true
 ·simp[h1,QJ,kR]
 ·by_cases h2:48≤c.toNat∧c.toNat≤57
  ·simp[h1,h2,QJ,kR]
  ·by_cases h3:c.toNat=34
   ·simp only[if_neg h1,if_neg h2,if_pos h3,decide_eq_false h2,Bool.false_eq_true,if_false]
    unfold wL
    cases hq:tS s (br s i+1) ⟨#[]⟩ with
    | none=> simp[hq]
    | some r=>
      simp only[hq]
      have: ¬ ((r.1:Int) +1 < 0):=by omega
      simp[QJ,kR,this]
   ·simp only[if_neg h1,if_neg h2,if_neg h3,decide_eq_false h2,Bool.false_eq_true,if_false]
    cases hx:signsL.find? (gF s (br s i)) with
    | none=> simp[hx]
    | some x=>
      have h1:=List.find?_some hx
      unfold gF at h1
      simp at h1
      simp[hx,QJ,kR,h1.2]
theorem JO: ∀ (k:Nat) (s:B) (i:Nat) (out:List P6),i≤s.size→s.size -i < k→HM k s i out=some (out++sv s i)
 | 0,s,i,out,h,hk=> by omega
 | k+1,s,i,out,h,hk=> by
   have h0:=lJ h
   rw[HM,qp h]
   split
   ·rename_i he
    have hn:s.data[br s i]?=none:=Array.getElem?_eq_none (by show s.size≤_;omega)
    have:bV s i=((⟨0,E0,(br s i:Nat)⟩:Qc),((br s i:Nat):Int)):=by unfold bV;simp only[hn]
    rw[this]
    simp[QJ,kR,he]
   ·rename_i he
    have hg:=QI (s:=s) (i:=i) (by omega)
    have hr:=jO h
    split
    ·rename_i hn
     rw[hn] at hg
     simp only at hg
     rw[hg]
     simp[QJ,kR]
    ·rename_i r hs
     rw[hs] at hg
     obtain⟨g1,g2,g3⟩:=hg
     have g4:=hr.2.2.2.2 g1
     have g5:br s i < r.1:=by omega
     rw[if_pos ⟨by omega,g5⟩,JO k s r.1 _ (by omega) (by omega),if_neg (by omega),g2,List.append_assoc,List.singleton_append,show(bV s i).2.toNat=r.1 by omega]
theorem Q3 (s:B):Q4 s=some (sv s 0):=by
 unfold Q4
 rw[JO _ s 0 [] (Nat.zero_le _) (by omega)]
 rfl
end Go.Gv

namespace Go.Gv
structure Rel (d:Int) (s:Rdr) (p:Pst):Prop where
 e:p.e=0
 deep:p.deep=d
 pos:0≤p.pos
 len:p.l.length≤1000000
 size:s.txt.size≤400
 kind:0≤s.kind∧s.kind≤5
 fin:0≤s.fin∧s.fin≤s.txt.size
 dig:s.kind=3→qQ s.text=true
 nam:s.kind=2→s.text≠E0
 at_:p.l.drop p.pos.toNat=⟨kR s.kind,s.text,s.pos⟩::if s.kind < 2 then[] else sv s.txt s.fin.toNat
def rem (s:Rdr):Int:=if s.kind < 2 then 0 else 1+ (s.txt.size -s.fin)
structure Dd (p:Pst):Prop where
 e:p.e≠0
 now: ∃t,DT p=some t
structure Dead (f:Int×Int) (d:Int) (p:Pst):Prop where
 e:p.e=f.2
 fail:p.fail=f.1
 ne:f.2≠0
 deep:p.deep=d
 now: ∃t,DT p=some t
theorem Dead.dd {f:Int×Int} {d:Int} {p:Pst} (h:Dead f d p):Dd p:=⟨by rw[h.e];exact h.ne,h.now⟩
def DD {Y:Type} (p:Pst) (G:Option (Pst×Y)):Prop:= ∃y,G=some (p,y)
def Sim {Y:Type} (d m:Int) (E:Out (Rdr×Y)) (G:Option (Pst×Y)):Prop:=match E with
 | .ok r=> ∃p,G=some (p,r.2)∧Rel d r.1 p∧rem r.1≤m
 | .err f=> ∃p y,G=some (p,y)∧Dead f d p
 | .no=> False
section
variable {Y Z:Type} {d m:Int} {s:Rdr} {p:Pst}
theorem DD.bind {G:Option (Pst×Y)} {h:Pst×Y→Option (Pst×Z)} (h1:DD p G) (h2: ∀y,DD p (h (p,y))):DD p (G.bind h):=by
 obtain⟨y,rfl⟩:=h1
 exact h2 y
theorem DD.some {y:Y} :DD p (some (p,y)):=⟨y,rfl⟩
theorem bz {y:Y} (h:Rel d s p) (hm:rem s≤m):Sim d m (.ok (s,y)) (some (p,y)):=⟨p,rfl,h,hm⟩
theorem mu {f:Int×Int} {G:Option (Pst×Y)} (h:Dead f d p) (hd:DD p G):Sim d m (.err f) G:=by
 obtain⟨y,rfl⟩:=hd
 exact⟨p,y,rfl,h⟩
theorem Sim.mono {m':Int} {E:Out (Rdr×Y)} {G:Option (Pst×Y)} (h:Sim d m E G) (hm:m≤m'):Sim d m' E G:=by
 cases E with
 | ok r=> obtain⟨p,h1,h2,h3⟩:=h;exact⟨p,h1,h2,by omega⟩
 | err f=> exact h
 | no=> exact h
theorem Sim.bind {m1:Int} {E:Out (Rdr×Y)} {G:Option (Pst×Y)} {k:Rdr×Y→Out (Rdr×Z)} {h:Pst×Y→Option (Pst×Z)} (h1:Sim d m1 E G)
 (h2: ∀s' p' y,Rel d s' p'→rem s'≤m1→Sim d m (k (s',y)) (h (p',y))) (h3: ∀p' y,Dd p'→DD p' (h (p',y))):Sim d m (E.bind k) (G.bind h):=by
 cases E with
 | ok r=>
   obtain⟨p',rfl,hr,hm⟩:=h1
   exact h2 r.1 p' r.2 hr hm
 | err f=>
   obtain⟨p',y,rfl,hr⟩:=h1
   obtain⟨y',h4⟩:=h3 p' y hr.dd
   exact⟨p',y',h4,hr⟩
 | no=> exact h1.elim
theorem Rel.now (h:Rel d s p):DT p=some ⟨kR s.kind,s.text,s.pos⟩:=by
 unfold DT
 rw[if_pos ⟨h.pos,h.len⟩]
 have:=congrArg (fun l=> l[0]?) h.at_
 simpa using this
theorem Rel.dead (h:Rel d s p) (e a:Int) (he:e≠0):Dead (a,e) d (EE p e a):=by
 unfold EE
 rw[if_pos h.e]
 exact⟨rfl,rfl,he,h.deep,⟨_,h.now⟩⟩
theorem mB {k:Int} (h:0≤k∧k≤5): (kR k=101↔k=0)∧(kR k=120↔k=1)∧(kR k=110↔k=2)∧(kR k=100↔k=3)∧(kR k=115↔k=4)∧(kR k=111↔k=5):=by
 unfold kR
 repeat' split
 all_goals omega
theorem Di (q:U8→Bool): ∀ (n:Nat) (s:B) (i j:Nat),i≤j→j < pO q n s i→ ∃c,s.data[j]?=some c∧q ⟨c.toNat⟩=true
 | 0,s,i,j,h1,h2=> by rw[pO] at h2;omega
 | n+1,s,i,j,h1,h2=> by
   rw[pO] at h2
   split at h2
   ·rename_i c hc
    split at h2
    ·rename_i hq
     by_cases e:i=j
     ·subst e;exact⟨c,hc,hq⟩
     ·exact Di q n s (i+1) j (by omega) h2
    ·omega
   ·omega
theorem Ki {s:B} {i:Nat} (h: (bV s i).1.kind=3):qQ (bV s i).1.text=true:=by
 unfold bV at h ⊢
 try simp only at h
 try simp only
 split at h
 ·simp at h
 ·rename_i c hc
  split at h
  ·simp at h
  ·rename_i h1
   split at h
   ·rename_i h2
    simp only[hc,if_neg h1,if_pos h2]
    unfold qQ
    rw[List.all_eq_true]
    intro x hx
    obtain⟨k,hk,rfl⟩:=List.mem_iff_getElem.1 hx
    have e: (s.extract (br s i) (pp s (br s i))).data.toList[k]?=some ((s.extract (br s i) (pp s (br s i))).data.toList[k]):=List.getElem?_eq_getElem hk
    generalize (s.extract (br s i) (pp s (br s i))).data.toList[k]=x at e
    rw[Array.getElem?_toList,ByteArray.data_extract,Array.getElem?_extract] at e
    split at e
    ·rename_i hlt
     have hd:pp s (br s i)=pO lr (s.size -br s i) s (br s i):=by rw[ve];rfl
     obtain⟨c',hc',hp⟩:=Di lr (s.size -br s i) s (br s i) (br s i+k) (by omega) (by rw[←hd];omega)
     rw[hc'] at e
     cases e
     unfold lr at hp
     simp at hp ⊢
     omega
    ·cases e
   ·split at h
    ·split at h
     ·simp at h
     ·simp at h
    ·split at h
     ·simp at h
     ·simp at h
theorem Kh {s:B} {i:Nat} (h: (bV s i).1.kind=2): (bV s i).1.text≠E0:=by
 unfold bV at h ⊢
 try simp only at h
 try simp only
 split at h
 ·simp at h
 ·rename_i c hc
  have hj:br s i < s.size:=(Array.getElem?_eq_some_iff.1 hc).1
  split at h
  ·rename_i hl
   simp only[hc,hl,if_true]
   have h1:=J9 (s:=s) (i:=br s i+1) (by omega)
   have h2:qI s (br s i)=qI s (br s i+1):=by
    rw[GO hj,if_pos]
    unfold Pl
    rw[hc]
    have h2:D1 c.toNat=true:=by
     unfold yl yK at hl
     unfold D1
     simp at hl ⊢
     omega
    simp[h2]
   intro e
   have:=congrArg ByteArray.size e
   rw[ByteArray.size_extract,h2] at this
   have e0:E0.size=0:=rfl
   omega
  ·split at h
   ·simp at h
   ·split at h
    ·split at h
     ·simp at h
     ·simp at h
    ·split at h
     ·simp at h
     ·simp at h
theorem Rel.next (h:Rel d s p) (hk:2≤s.kind): ∃s',pA s=some s'∧Rel d s' p.step∧rem s' < rem s:=by
 have hf:=h.fin
 have hz:=h.size
 have hr:=jO (s:=s.txt) (i:=s.fin.toNat) (by omega)
 refine⟨⟨s.txt,(bV s.txt s.fin.toNat).2,(bV s.txt s.fin.toNat).1.kind,(bV s.txt s.fin.toNat).1.text,(bV s.txt s.fin.toNat).1.pos⟩,by rw[pA,if_pos ⟨hf,by omega⟩],⟨h.e,h.deep,?_,h.len,hz,⟨hr.1,hr.2.1⟩,⟨hr.2.2.1,hr.2.2.2.1⟩,Ki,Kh,?_⟩,?_⟩
 ·have:=h.pos
  show 0≤p.pos+1
  omega
 ·have h1:=h.at_
  rw[if_neg (by omega)] at h1
  have h2:=congrArg (List.drop 1) h1
  rw[List.drop_drop,List.drop_succ_cons,List.drop_zero,qp (by omega)] at h2
  have hp:=h.pos
  show p.l.drop (p.pos+1).toNat=_
  rw[show(p.pos+1).toNat=p.pos.toNat+1 by omega,h2]
  rfl
 ·have h0:=lJ (s:=s.txt) (i:=s.fin.toNat) (by omega)
  unfold rem
  rw[if_neg (show ¬s.kind < 2 by omega)]
  simp only
  split
  ·omega
  ·have:=hr.2.2.2.2 (by omega)
   omega
theorem Rel.rem0 (h:Rel d s p):0≤rem s∧rem s≤401:=by
 have:=h.fin
 have:=h.size
 unfold rem
 split <;> omega
theorem tC (h:Rel d s p) (t:B):NF p 111 t=some (bX s t):=by
 rw[NF,if_neg (by simp[h.e]),h.now,Option.map_some,bX]
 congr 1
 rw[Bool.eq_iff_iff]
 have:=(mB h.kind).2.2.2.2.2
 simp[this]
theorem be {t:B} {k:Rdr×Bool→Out (Rdr×Y)} {g:Pst×Bool→Option (Pst×Y)} (h:Rel d s p) (h1:bX s t=true→ ∀s',Rel d s' p.step→rem s' < rem s→Sim d m (k (s',true)) (g (p.step,true)))
 (h2:bX s t=false→Sim d m (k (s,false)) (g (p,false))):Sim d m ((cf s t).bind k) ((gc p t).bind g):=by
 have hs:=tC h t
 unfold cf ms gc
 rw[hs]
 cases hb:bX s t with
 | true=>
   obtain⟨s',e1,e2,e3⟩:=h.next (by unfold bX at hb;simp at hb;omega)
   simp[e1]
   exact h1 hb s' e2 e3
 | false=> exact h2 hb
theorem mA (h:Rel d s p) (k:Int):sB p k=some (decide (kR s.kind=k)):=by
 rw[sB,if_neg (by simp[h.e]),h.now]
 rfl
theorem CM {n:Int} {E:Out (Rdr×Y)} {g:Bool→Option (Pst×Y)} (h:Rel d s p) (h1:kR s.kind=n→Sim d m E (g true)) (h2:kR s.kind≠n→Sim d m E (g false)):Sim d m E ((sB p n).bind g):=by
 rw[mA h,Option.bind_some]
 by_cases e:kR s.kind=n
 ·rw[decide_eq_true e];exact h1 e
 ·rw[decide_eq_false e];exact h2 e
theorem BM (h:Rel d s p) {k:Int} {t:B} (hk:kR s.kind≠k∨k=111∧s.text≠t):bE p k t=some (EE p 3 s.pos,E0):=by
 rw[bE,h.now,Option.bind_some,if_neg (by simp[h.e]),if_pos hk]
theorem Ce (h:Rel d s p) {k:Int} {t:B} (hk: ¬ (kR s.kind≠k∨k=111∧s.text≠t)):bE p k t=some (p.step,s.text):=by
 rw[bE,h.now,Option.bind_some,if_neg (by simp[h.e]),if_neg hk]
theorem bj {t:B} {k:Rdr→Out (Rdr×Y)} {g:Pst×B→Option (Pst×Y)} (h:Rel d s p) (h1: ∀s' y,Rel d s' p.step→rem s' < rem s→Sim d m (k s') (g (p.step,y)))
 (h2: ∀p',Dd p'→ ∀y,DD p' (g (p',y))):Sim d m ((de s [t]).bind k) ((bE p 111 t).bind g):=by
 have hk:=(mB h.kind).2.2.2.2.2
 cases hb:bX s t with
 | true=>
   have hb':s.kind=5∧s.text=t:=by unfold bX at hb;simpa using hb
   obtain⟨s',e1,e2,e3⟩:=h.next (by omega)
   rw[Ce h (by rw[not_or];exact⟨fun h=> h (hk.2 hb'.1),fun h=> h.2 hb'.2⟩)]
   simp[de,hb,ej,e1]
   exact h1 s' _ e2 e3
 | false=>
   have hb': ¬ (s.kind=5∧s.text=t):=by
    intro hh
    unfold bX at hb
    simp[hh.1,hh.2] at hb
   rw[BM h (by
    by_cases e:s.kind=5
    ·exact .inr ⟨rfl,fun e2=> hb' ⟨e,e2⟩⟩
    ·exact .inl (by rw[Ne,hk];exact e))]
   simp[de,hb]
   have hd:=h.dead 3 s.pos (by decide)
   exact mu hd (h2 _ hd.dd _)
theorem Gs {n c:Int} {k:Rdr×B→Out (Rdr×Y)} {g:Pst×B→Option (Pst×Y)} (h:Rel d s p) (hn:kR n=c∧2≤n∧n≤4) (h1:s.kind=n→ ∀s',Rel d s' p.step→rem s' < rem s→Sim d m (k (s',s.text)) (g (p.step,s.text)))
 (h2: ∀p',Dd p'→DD p' (g (p',E0))):Sim d m ((dg s n).bind k) ((bE p c E0).bind g):=by
 obtain⟨rfl,hn⟩:=hn
 have hk:=mB h.kind
 have hk':=mB (k:=n) (by omega)
 have hinj:kR s.kind=kR n↔s.kind=n:=by
  unfold kR
  have:=h.kind
  repeat' split
  all_goals omega
 have hne:kR n≠111:=by rw[Ne,hk'.2.2.2.2.2];omega
 by_cases e:s.kind=n
 ·obtain⟨s',e1,e2,e3⟩:=h.next (by omega)
  rw[Ce h (by rw[not_or];exact⟨fun h=> h (hinj.2 e),fun h=> hne h.1⟩)]
  simp[dg,e,ej,e1]
  exact h1 e s' e2 e3
 ·rw[BM h (.inl (by rw[Ne,hinj];exact e))]
  simp[dg,e]
  have hd:=h.dead 3 s.pos (by decide)
  exact mu hd (h2 _ hd.dd)
theorem cv {n c:Int} {k:Rdr×B→Out (Rdr×Y)} {g:Pst×B→Option (Pst×Y)} (h:Rel d s p) (hn:kR n=c∧2≤n∧n≤4) (h1:s.kind=n→ ∀s',Rel d s' p.step→rem s' < rem s→Sim d m (k (s',s.text)) (g (p.step,s.text)))
 (h2: ∀p',Dd p'→ ∀y,DD p' (g (p',y))):Sim d m ((dg s n).bind k) ((bE p c E0).bind g):=Gs h hn h1 fun p' hd=> h2 p' hd _
theorem lu {t:B} (h:Dd p):DD p (gc p t):=⟨false,by rw[gc,NF,if_pos h.e];rfl⟩
theorem b5 {t:B} {g:Pst×Bool→Option (Pst×Y)} (h:Dd p) (h1:DD p (g (p,false))):DD p ((gc p t).bind g):=by
 rw[gc,NF,if_pos h.e]
 exact h1
theorem aM {k:Int} {t:B} (h:Dd p):DD p (bE p k t):=by
 obtain⟨x,hx⟩:=h.now
 exact⟨E0,by rw[bE,hx,Option.bind_some,if_pos h.e]⟩
theorem oo {k:Int} {t:B} {g:Bool→Option (Pst×Y)} (h:Dd p) (h1:DD p (g false)):DD p ((NF p k t).bind g):=by
 rw[NF,if_pos h.e]
 exact h1
theorem em {k:Int} {g:Bool→Option (Pst×Y)} (h:Dd p) (h1:DD p (g false)):DD p ((sB p k).bind g):=by
 rw[sB,if_pos h.e]
 exact h1
theorem dX {l a:Int} (h:Dd p):DD p (rM p l a):=by
 obtain⟨x,hx⟩:=h.now
 unfold rM
 rw[bE,hx,Option.bind_some,if_pos h.e,Option.bind_some,if_pos (show qQ E0=true from rfl)]
 have e: (if l < E0.data.toList.foldl lp 0 then EE p 8 a else p)=p:=by
  split
  ·rw[EE,if_neg h.e]
  ·rfl
 exact⟨E0.data.toList.foldl lp 0,congrArg (fun x=> some (x,E0.data.toList.foldl lp 0)) e⟩
end
end Go.Gv

namespace Go.Gv
section
variable {Y Z:Type} {d m:Int} {s:Rdr} {p:Pst}
theorem iC {α β:Type} (o:Option α) (f:α→β):o.map f=o.bind fun x=> some (f x):=by cases o <;> rfl
theorem mJ {α β:Type} (o:Out α) (f:α→β):o.map f=o.bind fun x=> .ok (f x):=by cases o <;> rfl
theorem ph {α β γ:Type} (o:Option α) (f:α→Option β) (g:β→Option γ): (o.bind f).bind g=o.bind fun x=> (f x).bind g:=by cases o <;> rfl
theorem bP {α β:Type} (x:α) (f:α→Option β): (some x).bind f=f x:=rfl
theorem Wv {E:Out (Rdr×Y)} {G:Option (Pst×Y)} (h:Sim d m (E.bind fun x=> .ok x) (G.bind fun x=> some x)):Sim d m E G:=by cases E <;> cases G <;> exact h
theorem Sz {c:UInt8} (h:48≤c.toNat∧c.toNat≤57) (n:Int):lp n c=min (10*n+ ((c.toNat:Int) -48)) 1000000:=by
 unfold lp
 omega
theorem Is {most:Int} (hm:0≤most∧most < 1000000): ∀ (l:List UInt8),(∀c∈l,48≤c.toNat∧c.toNat≤57)→ ∀n k:Int,0≤n→0≤k→(n=k∨most < n∧most < k)→(yg most l n=l.foldl lp k∨most < yg most l n∧most < l.foldl lp k)
 | [],_,n,k,_,_,h=> h
 | c::l,hc,n,k,hn,hk,h=> by
   have h1:=hc c (by simp)
   rw[yg,List.foldl_cons,Sz h1]
   split
   ·refine Is hm l (fun x hx=> hc x (by simp[hx])) _ _ (by omega) (by omega) ?_
    omega
   ·refine .inr ⟨by omega,?_⟩
    have:=Is hm l (fun x hx=> hc x (by simp[hx])) (min (10*k+ ((c.toNat:Int) -48)) 1000000) (min (10*k+ ((c.toNat:Int) -48)) 1000000) (by omega) (by omega) (.inl rfl)
    have h2:most < min (10*k+ ((c.toNat:Int) -48)) 1000000:=by omega
    generalize min (10*k+ ((c.toNat:Int) -48)) 1000000=w at this h2
    have h3:most < yg most l w:=by
     cases l with
     | nil=> exact h2
     | cons x l=> rw[yg,if_neg (by omega)];exact h2
    rcases this with e | e
    ·rw[←e];exact h3
    ·exact e.2
theorem LN (t:B): ∃a:Nat,t.data.toList=List.replicate a 48++ (kp t).data.toList:=by
 unfold kp
 have h1:=kT Ff (s:=t) (i:=0) (Nat.zero_le _)
 refine⟨gS Ff t 0,List.ext_getElem? fun k=> ?_⟩
 rw[List.getElem?_append,List.length_replicate]
 split
 ·rename_i hk
  obtain⟨c,hc,hz⟩:=Di Ff (t.size -0) t 0 k (Nat.zero_le _) hk
  rw[Array.getElem?_toList,hc,List.getElem?_replicate,if_pos hk]
  unfold Ff at hz
  simp at hz
  congr 1
  exact UInt8.toNat_inj.1 (by show c.toNat=48;omega)
 ·rename_i hk
  rw[Array.getElem?_toList,Array.getElem?_toList,ByteArray.data_extract,Array.getElem?_extract]
  have e:t.data.size=t.size:=rfl
  split
  ·congr 1;omega
  ·exact Array.getElem?_eq_none (by omega)
theorem G0: ∀a:Nat,(List.replicate a (48:UInt8)).foldl lp 0=0
 | 0=> rfl
 | a+1=> by rw[List.replicate_succ,List.foldl_cons,show lp 0 48=0 from rfl,G0 a]
theorem UF {most:Int} (hm:0≤most∧most < 1000000) {t:B} (ht:qQ t=true):Pa most t=t.data.toList.foldl lp 0∨most < Pa most t∧most < t.data.toList.foldl lp 0:=by
 obtain⟨a,ha⟩:=LN t
 have hd: ∀c∈t.data.toList,48≤c.toNat∧c.toNat≤57:=by
  intro c hc
  unfold qQ at ht
  rw[List.all_eq_true] at ht
  simpa using ht c hc
 rw[ha] at hd ⊢
 rw[List.foldl_append,G0]
 exact Is hm _ (fun c hc=> hd c (by simp[hc])) 0 0 (by omega) (by omega) (.inl rfl)
theorem cw {most a:Int} {k:Rdr×Int→Out (Rdr×Y)} {g:Pst×Int→Option (Pst×Y)} (h:Rel d s p) (hm:0≤most∧most < 1000000) (h1: ∀s' y,Rel d s' p.step→rem s' < rem s→Sim d m (k (s',y)) (g (p.step,y)))
 (h2: ∀p',Dd p'→ ∀y,DD p' (g (p',y))):Sim d m ((numberE s most a).bind k) ((rM p most a).bind g):=by
 unfold numberE rM
 rw[ph,Out.bind_bind]
 refine Gs h ⟨rfl,by decide,by decide⟩ (fun hs s' hR hm'=> ?_) (fun p' hd=> ?_)
 ·have hd:=h.dig hs
  simp only
  rw[if_pos ⟨hd,by omega⟩,if_pos hd]
  simp only[bP]
  rcases UF hm hd with e | e
  ·rw[e]
   by_cases hlt:most < s.text.data.toList.foldl lp 0
   ·rw[if_pos hlt,if_pos hlt]
    have hdd:=hR.dead 8 a (by decide)
    exact mu hdd (h2 _ hdd.dd _)
   ·rw[if_neg hlt,if_neg hlt]
    exact h1 s' _ hR hm'
  ·rw[if_pos e.1,if_pos e.2]
   have hdd:=hR.dead 8 a (by decide)
   exact mu hdd (h2 _ hdd.dd _)
 ·simp only
  rw[if_pos (show qQ E0=true from rfl),bP,if_neg (by show ¬most < 0;omega)]
  exact h2 p' hd _
theorem ze {n:B} {k:Rdr×Cond→Out (Rdr×Y)} {g:Pst×Cond→Option (Pst×Y)} (h:Rel d s p) (h1: ∀s' p' y,Rel d s' p'→rem s' < rem s→Sim d m (k (s',y)) (g (p',y)))
 (h2: ∀p',Dd p'→ ∀y,DD p' (g (p',y))):Sim d m ((nG s n).bind k) ((wr p n).bind g):=by
 unfold nG wr
 simp only[iC,mJ,ph,bP,Out.bind_bind,Out.bind_ok]
 repeat' first
  | exact bz (by assumption) (by first | omega | (simp only at*;omega))
  | exact DD.some
  | exact lu (by assumption)
  | exact aM (by assumption)
  | (refine be (by assumption) (fun hs s' hR hm=> ?_) (fun hs=> ?_) <;> try simp only[↓reduceIte,Bool.false_eq_true,if_true,if_false])
  | (refine cv (by assumption) ⟨rfl,by decide,by decide⟩ (fun hs s' hR hm=> ?_) (fun p' hd y=> ?_) <;> try simp only[↓reduceIte,Bool.false_eq_true,if_true,if_false])
  | (refine bj (by assumption) (fun s' y hR hm=> ?_) (fun p' hd y=> ?_) <;> try simp only[↓reduceIte,Bool.false_eq_true,if_true,if_false])
  | (refine cw (by assumption) (by decide) (fun s' y hR hm=> ?_) (fun p' hd y=> ?_) <;> try simp only[↓reduceIte,Bool.false_eq_true,if_true,if_false])
  | (refine b5 (by assumption) ?_;try simp only[↓reduceIte,Bool.false_eq_true,if_true,if_false])
  | (refine oo (by assumption) ?_;try simp only[↓reduceIte,Bool.false_eq_true,if_true,if_false])
  | (refine em (by assumption) ?_;try simp only[↓reduceIte,Bool.false_eq_true,if_true,if_false])
  | (refine DD.bind (aM (by assumption)) fun y=> ?_;try simp only[↓reduceIte,Bool.false_eq_true,if_true,if_false])
  | (refine DD.bind (dX (by assumption)) fun y=> ?_;try simp only[↓reduceIte,Bool.false_eq_true,if_true,if_false]) | exact h1 _ _ _ (by assumption) (by omega)
  | exact h2 _ (by assumption) _
theorem K1 {n:B} (h:Dd p):DD p (wr p n):=by
 unfold wr
 simp only[iC]
 repeat' first
  | exact bz (by assumption) (by first | omega | (simp only at*;omega))
  | exact DD.some
  | exact lu (by assumption)
  | exact aM (by assumption)
  | (refine be (by assumption) (fun hs s' hR hm=> ?_) (fun hs=> ?_) <;> try simp only[↓reduceIte,Bool.false_eq_true,if_true,if_false])
  | (refine cv (by assumption) ⟨rfl,by decide,by decide⟩ (fun hs s' hR hm=> ?_) (fun p' hd y=> ?_) <;> try simp only[↓reduceIte,Bool.false_eq_true,if_true,if_false])
  | (refine bj (by assumption) (fun s' y hR hm=> ?_) (fun p' hd y=> ?_) <;> try simp only[↓reduceIte,Bool.false_eq_true,if_true,if_false])
  | (refine cw (by assumption) (by decide) (fun s' y hR hm=> ?_) (fun p' hd y=> ?_) <;> try simp only[↓reduceIte,Bool.false_eq_true,if_true,if_false])
  | (refine b5 (by assumption) ?_;try simp only[↓reduceIte,Bool.false_eq_true,if_true,if_false])
  | (refine oo (by assumption) ?_;try simp only[↓reduceIte,Bool.false_eq_true,if_true,if_false])
  | (refine em (by assumption) ?_;try simp only[↓reduceIte,Bool.false_eq_true,if_true,if_false])
  | (refine DD.bind (aM (by assumption)) fun y=> ?_;try simp only[↓reduceIte,Bool.false_eq_true,if_true,if_false])
  | (refine DD.bind (dX (by assumption)) fun y=> ?_;try simp only[↓reduceIte,Bool.false_eq_true,if_true,if_false])
theorem LW (h:Rel d s p):Sim d (rem s) (rC s) (BS p):=by
 unfold rC BS
 simp only[iC,mJ,ph,bP,Out.bind_bind,Out.bind_ok]
 repeat' first
  | exact bz (by assumption) (by first | omega | (simp only at*;omega))
  | exact DD.some
  | exact lu (by assumption)
  | exact aM (by assumption)
  | (refine be (by assumption) (fun hs s' hR hm=> ?_) (fun hs=> ?_) <;> try simp only[↓reduceIte,Bool.false_eq_true,if_true,if_false])
  | (refine cv (by assumption) ⟨rfl,by decide,by decide⟩ (fun hs s' hR hm=> ?_) (fun p' hd y=> ?_) <;> try simp only[↓reduceIte,Bool.false_eq_true,if_true,if_false])
  | (refine bj (by assumption) (fun s' y hR hm=> ?_) (fun p' hd y=> ?_) <;> try simp only[↓reduceIte,Bool.false_eq_true,if_true,if_false])
  | (refine cw (by assumption) (by decide) (fun s' y hR hm=> ?_) (fun p' hd y=> ?_) <;> try simp only[↓reduceIte,Bool.false_eq_true,if_true,if_false])
  | (refine b5 (by assumption) ?_;try simp only[↓reduceIte,Bool.false_eq_true,if_true,if_false])
  | (refine oo (by assumption) ?_;try simp only[↓reduceIte,Bool.false_eq_true,if_true,if_false])
  | (refine em (by assumption) ?_;try simp only[↓reduceIte,Bool.false_eq_true,if_true,if_false])
  | (refine DD.bind (aM (by assumption)) fun y=> ?_;try simp only[↓reduceIte,Bool.false_eq_true,if_true,if_false])
  | (refine DD.bind (dX (by assumption)) fun y=> ?_;try simp only[↓reduceIte,Bool.false_eq_true,if_true,if_false])
theorem BY {n:B} (h:Dd p):DD p (AZ p n):=by
 unfold AZ
 simp only[iC]
 repeat' first
  | exact bz (by assumption) (by first | omega | (simp only at*;omega))
  | exact DD.some
  | exact lu (by assumption)
  | exact aM (by assumption)
  | exact K1 (by assumption)
  | (refine be (by assumption) (fun hs s' hR hm=> ?_) (fun hs=> ?_) <;> try simp only[↓reduceIte,Bool.false_eq_true,if_true,if_false])
  | (refine cv (by assumption) ⟨rfl,by decide,by decide⟩ (fun hs s' hR hm=> ?_) (fun p' hd y=> ?_) <;> try simp only[↓reduceIte,Bool.false_eq_true,if_true,if_false])
  | (refine bj (by assumption) (fun s' y hR hm=> ?_) (fun p' hd y=> ?_) <;> try simp only[↓reduceIte,Bool.false_eq_true,if_true,if_false])
  | (refine cw (by assumption) (by decide) (fun s' y hR hm=> ?_) (fun p' hd y=> ?_) <;> try simp only[↓reduceIte,Bool.false_eq_true,if_true,if_false])
  | (refine b5 (by assumption) ?_;try simp only[↓reduceIte,Bool.false_eq_true,if_true,if_false])
  | (refine oo (by assumption) ?_;try simp only[↓reduceIte,Bool.false_eq_true,if_true,if_false])
  | (refine em (by assumption) ?_;try simp only[↓reduceIte,Bool.false_eq_true,if_true,if_false])
  | (refine DD.bind (aM (by assumption)) fun y=> ?_;try simp only[↓reduceIte,Bool.false_eq_true,if_true,if_false])
  | (refine DD.bind (dX (by assumption)) fun y=> ?_;try simp only[↓reduceIte,Bool.false_eq_true,if_true,if_false])
theorem JJ {n:B} (h:Rel d s p):Sim d (rem s) (A0 s n) (AZ p n):=by
 unfold A0 AZ
 have hc:NF p 110 ⟨#[99,111,110,116,97,105,110,115]⟩=some (d6 s [⟨#[99,111,110,116,97,105,110,115]⟩]):=by
  rw[NF,if_neg (by simp[h.e]),h.now,Option.map_some,d6]
  congr 1
  rw[Bool.eq_iff_iff]
  have:=(mB h.kind).2.2.1
  simp[this]
 simp only[iC,mJ,ph,bP,Out.bind_bind,Out.bind_ok]
 cases hw:d6 s [⟨#[99,111,110,116,97,105,110,115]⟩] with
 | true=>
   have hk:s.kind=2:=by unfold d6 at hw;simp at hw;omega
   obtain⟨s',e1,e2,e3⟩:=h.next (by omega)
   have hn:gc p ⟨#[33,61]⟩=some (p,false):=by
    unfold gc
    rw[tC h,bX,decide_eq_false (by omega)]
    rfl
   rw[hn]
   simp only[bP,hc,hw,if_true,Bool.false_eq_true,if_false,ej,e1,Out.of_some,Out.bind_ok]
   repeat' first
    | exact bz (by assumption) (by first | omega | (simp only at*;omega))
    | exact DD.some
    | exact lu (by assumption)
    | exact aM (by assumption)
    | (refine be (by assumption) (fun hs s' hR hm=> ?_) (fun hs=> ?_) <;> try simp only[↓reduceIte,Bool.false_eq_true,if_true,if_false])
    | (refine cv (by assumption) ⟨rfl,by decide,by decide⟩ (fun hs s' hR hm=> ?_) (fun p' hd y=> ?_) <;> try simp only[↓reduceIte,Bool.false_eq_true,if_true,if_false])
    | (refine bj (by assumption) (fun s' y hR hm=> ?_) (fun p' hd y=> ?_) <;> try simp only[↓reduceIte,Bool.false_eq_true,if_true,if_false])
    | (refine cw (by assumption) (by decide) (fun s' y hR hm=> ?_) (fun p' hd y=> ?_) <;> try simp only[↓reduceIte,Bool.false_eq_true,if_true,if_false])
    | (refine b5 (by assumption) ?_;try simp only[↓reduceIte,Bool.false_eq_true,if_true,if_false])
    | (refine oo (by assumption) ?_;try simp only[↓reduceIte,Bool.false_eq_true,if_true,if_false])
    | (refine em (by assumption) ?_;try simp only[↓reduceIte,Bool.false_eq_true,if_true,if_false])
    | (refine DD.bind (aM (by assumption)) fun y=> ?_;try simp only[↓reduceIte,Bool.false_eq_true,if_true,if_false])
    | (refine DD.bind (dX (by assumption)) fun y=> ?_;try simp only[↓reduceIte,Bool.false_eq_true,if_true,if_false])
 | false=>
   simp only[Bool.false_eq_true,if_false]
   refine be h (fun hs s' hR hm=> ?_) (fun hs=> ?_)
   ·simp only[↓reduceIte]
    refine ze hR (fun s2 p2 y hR2 hm2=> ?_) (fun p' hd y=> DD.some)
    exact bz (s:=s2) hR2 (by omega)
   ·simp only[Bool.false_eq_true,if_false,hc,hw,bP]
    refine bj h (fun s' y hR hm=> ?_) (fun p' hd y=> ?_)
    ·refine CM hR (fun e=> ?_) (fun e=> ?_)
     ·have e':s'.kind=2:=(mB hR.kind).2.2.1.1 e
      rw[if_pos e']
      simp only[if_true]
      repeat' first
       | exact bz (by assumption) (by first | omega | (simp only at*;omega))
       | exact DD.some
       | exact lu (by assumption)
       | exact aM (by assumption)
       | (refine be (by assumption) (fun hs s' hR hm=> ?_) (fun hs=> ?_) <;> try simp only[↓reduceIte,Bool.false_eq_true,if_true,if_false])
       | (refine cv (by assumption) ⟨rfl,by decide,by decide⟩ (fun hs s' hR hm=> ?_) (fun p' hd y=> ?_) <;> try simp only[↓reduceIte,Bool.false_eq_true,if_true,if_false])
       | (refine bj (by assumption) (fun s' y hR hm=> ?_) (fun p' hd y=> ?_) <;> try simp only[↓reduceIte,Bool.false_eq_true,if_true,if_false])
       | (refine cw (by assumption) (by decide) (fun s' y hR hm=> ?_) (fun p' hd y=> ?_) <;> try simp only[↓reduceIte,Bool.false_eq_true,if_true,if_false])
       | (refine b5 (by assumption) ?_;try simp only[↓reduceIte,Bool.false_eq_true,if_true,if_false])
       | (refine oo (by assumption) ?_;try simp only[↓reduceIte,Bool.false_eq_true,if_true,if_false])
       | (refine em (by assumption) ?_;try simp only[↓reduceIte,Bool.false_eq_true,if_true,if_false])
       | (refine DD.bind (aM (by assumption)) fun y=> ?_;try simp only[↓reduceIte,Bool.false_eq_true,if_true,if_false])
       | (refine DD.bind (dX (by assumption)) fun y=> ?_;try simp only[↓reduceIte,Bool.false_eq_true,if_true,if_false])
     ·have e': ¬s'.kind=2:=fun h=> e ((mB hR.kind).2.2.1.2 h)
      rw[if_neg e']
      simp only[Bool.false_eq_true,if_false]
      exact Wv (ze (n:=n) (k:=fun x=> .ok x) (g:=fun x=> some x) (m:=rem s) hR (fun s2 p2 y hR2 hm2=> bz (s:=s2) hR2 (by omega)) (fun p' hd y=> DD.some))
    ·refine em hd ?_
     exact K1 hd
end
end Go.Gv
