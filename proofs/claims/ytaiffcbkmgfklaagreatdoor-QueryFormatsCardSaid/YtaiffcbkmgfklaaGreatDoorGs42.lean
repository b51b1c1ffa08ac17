/- A part of the framework and of the walks: V28 V29 V30 V32 W111 Asm9 W112. -/
import Derived.Test.YtaiffcbkmgfklaaGreatDoorGs38
import Derived.Test.YtaiffcbkmgfklaaGreatDoorGs35
import Derived.Test.YtaiffcbkmgfklaaGreatDoorGs17
import Derived.Test.YtaiffcbkmgfklaaGreatDoorGs41
import Derived.Test.YtaiffcbkmgfklaaGreatDoorGs39
set_option linter.unusedSimpArgs false
set_option linter.unusedVariables false
set_option maxRecDepth 100000

namespace Go.Gv
def tD (s:B) (i:Nat):List UInt8:=s.data.toList.drop i
theorem jQ {s:B} {i:Nat} {c:UInt8} (h:s.data[i]?=some c):tD s i=c::tD s (i+1):=by
 unfold tD
 rw[ek (a:=c) (by rw[Array.getElem?_toList];exact h)]
theorem tC {s:B} {i:Nat} (h:s.data[i]?=none):tD s i= []:=by
 unfold tD
 rw[List.drop_eq_nil_iff,Array.length_toList]
 exact Array.getElem?_eq_none_iff.1 h
theorem Fo {s:B} {i:Nat} (h:s.size≤i):tD s i= []:=tC (Array.getElem?_eq_none_iff.2 h)
theorem AC (s:B) (i j:Nat): (s.extract i j).data.toList=(tD s i).take (j -i):=by
 unfold tD
 rw[ByteArray.data_extract,Array.toList_extract]
theorem WG (s:B) (i k:Nat):tD s (i+k)=(tD s i).drop k:=by
 unfold tD
 rw[List.drop_drop]
def b8 (p:U8→Bool) (c:UInt8):Bool:=p ⟨c.toNat⟩
theorem Ki (p:U8→Bool) (s:B): ∀ (n i:Nat),s.size -i=n→tD s (jK p s i)=(tD s i).dropWhile (b8 p)∧(tD s i).take (jK p s i -i)=(tD s i).takeWhile (b8 p)
 | 0,i,h=> by rw[Fm (by omega),Fo (by omega)];simp
 | n+1,i,h=> by
   cases hc:s.data[i]? with
   | none=> have:=Array.getElem?_eq_none_iff.1 hc;have:s.data.size=s.size:=rfl;omega
   | some c=>
     obtain⟨h1,h2⟩:=Ki p s n (i+1) (by omega)
     rw[sO hc]
     by_cases hp:p ⟨c.toNat⟩=true
     ·rw[if_pos hp,h1,jQ hc,List.dropWhile_cons_of_pos (by exact hp),List.takeWhile_cons_of_pos (by exact hp)]
      refine⟨rfl,?_⟩
      have:=oJ p (s:=s) (i:=i+1) (by omega)
      rw[show jK p s (i+1) -i=(jK p s (i+1) - (i+1)) +1 by omega,List.take_succ_cons,h2]
     ·rw[if_neg hp,jQ hc,List.dropWhile_cons_of_neg (by exact hp),List.takeWhile_cons_of_neg (by exact hp)]
      simp
theorem Fl (p:U8→Bool) (s:B) (i:Nat):tD s (jK p s i)=(tD s i).dropWhile (b8 p):=(Ki p s _ i rfl).1
theorem LU (p:U8→Bool) (s:B) (i:Nat): (s.extract i (jK p s i)).data.toList=(tD s i).takeWhile (b8 p):=by rw[AC];exact(Ki p s _ i rfl).2
def xH:List UInt8→List UInt8→Option (List UInt8×List UInt8)
 | [],_=> none
 | [c],v=> if c=34 then some (v, []) else none
 | c::d::l,v=> if c=34 then(if d=34 then xH l (v++ [34]) else some (v,d::l)) else xH (d::l) (v++ [c])
theorem D6 (s:B): ∀ (n i:Nat) (v:B),(pO n s i v).map (fun r=> (r.2.data.toList,tD s (r.1+1)))=if s.size -i≤n then xH (tD s i) v.data.toList else(pO n s i v).map (fun r=> (r.2.data.toList,tD s (r.1+1)))
 | 0,i,v=> by
   split
   ·rw[Fo (by omega)];simp[pO,xH]
   ·rfl
 | n+1,i,v=> by
   split
   ·rename_i hn
    rw[pO]
    cases hc:s.data[i]? with
    | none=> rw[tC hc];simp[xH]
    | some c=>
      have hi:i < s.size:=(Array.getElem?_eq_some_iff.1 hc).1
      simp only
      have e0: (c.toNat=34) ↔c=34:=by rw[←UInt8.toNat_inj];rfl
      cases hd:s.data[i+1]? with
      | none=>
        rw[jQ hc,tC hd,xH]
        simp only[e0]
        split
        ·rw[Option.map_some,tC hd]
        ·rw[D6 s n (i+1),if_pos (by omega),tC hd,xH]
      | some d=>
        have e1: (d.toNat=34) ↔d=34:=by rw[←UInt8.toNat_inj];rfl
        rw[jQ hc,jQ hd,xH]
        simp only[e0,e1]
        split
        ·split
         ·rename_i h1 h2
          rw[D6 s n (i+2),if_pos (by omega)]
          rw[ByteArray.data_append,Array.toList_append,AC,jQ hd,h2]
          rw[show i+1+1 - (i+1)=1 by omega] <;> rfl
         ·rw[Option.map_some,jQ hd]
        ·rw[D6 s n (i+1),if_pos (by omega),jQ hd]
         rw[ByteArray.data_append,Array.toList_append,AC,jQ hc]
         rw[show i+1 -i=1 by omega] <;> rfl
   ·rfl
def sgnL:List (List UInt8):=signsL.map fun x=> x.data.toList
theorem WK (s:B) (i:Nat) (hi:i≤s.size) (x:B):j5 s i x=x.data.toList.isPrefixOf (tD s i):=by
 unfold j5
 rw[Bool.eq_iff_iff,decide_eq_true_eq,List.isPrefixOf_iff_prefix,List.prefix_iff_eq_take]
 have el:x.data.toList.length=x.size:=rfl
 have er: (tD s i).length=s.size -i:=by unfold tD;rw[List.length_drop];rfl
 constructor
 ·rintro⟨h1,h2⟩
  have:=congrArg (fun b:B=> b.data.toList) h2
  simp only[AC] at this
  rw[show i+x.size -i=x.size by omega] at this
  rw[el]
  exact this.symm
 ·intro h
  have h2:=congrArg List.length h
  rw[List.length_take,el,er] at h2
  refine⟨by omega,ByteArray.ext (Array.toList_inj.1 ?_)⟩
  rw[AC,show i+x.size -i=x.size by omega]
  exact h.symm
def oW (l:List UInt8):Int×List UInt8×List UInt8:=match l.dropWhile (b8 Cy) with
 | []=> (0, [], [])
 | c::r=>
   if pW ⟨c.toNat⟩ then(2,(c::r).takeWhile (b8 oU),(c::r).dropWhile (b8 oU))
   else if o8 ⟨c.toNat⟩ then(3,(c::r).takeWhile (b8 o8),(c::r).dropWhile (b8 o8))
   else if c=34 then(match xH r [] with | none=> (1, [], []) | some q=> (4,q.1,q.2))
   else match sgnL.find? (fun x=> x.isPrefixOf (c::r)) with
    | some x=> (5,x,(c::r).drop x.length)
    | none=> (1, [],c::r)
theorem Eb {s:B} {i:Nat} (h:i≤s.size): (ge s i).1.kind=(oW (tD s i)).1∧(ge s i).1.text.data.toList=(oW (tD s i)).2.1∧tD s (ge s i).2.toNat=(oW (tD s i)).2.2:=by
 have es:cN s i=jK Cy s i:=by unfold cN jK;rw[zX]
 have ed:sX s (cN s i)=jK o8 s (cN s i):=by unfold sX jK;rw[xf]
 have en:u6 s (cN s i)=jK oU s (cN s i):=by unfold u6 jK;rw[zY]
 have hj:cN s i≤s.size:=by rw[es];exact(oJ Cy h).2
 have e0:tD s (cN s i)=(tD s i).dropWhile (b8 Cy):=by rw[es];exact Fl _ _ _
 unfold ge oW
 simp only
 rw[←e0,ed,en]
 cases hc:s.data[cN s i]? with
 | none=>
   rw[tC hc]
   refine⟨rfl,rfl,?_⟩
   simp only[Int.toNat_natCast]
   exact tC hc
 | some c=>
   have e34: (c.toNat=34) ↔c=34:=by rw[←UInt8.toNat_inj];rfl
   rw[jQ hc]
   simp only[e34]
   split
   ·exact⟨rfl,by rw[LU,jQ hc],by simp only[Int.toNat_natCast];rw[Fl,jQ hc]⟩
   split
   ·exact⟨rfl,by rw[LU,jQ hc],by simp only[Int.toNat_natCast];rw[Fl,jQ hc]⟩
   split
   ·have hq:=D6 s (s.size - (cN s i+1)) (cN s i+1) ⟨#[]⟩
    rw[if_pos (Nat.le_refl _)] at hq
    unfold Ac yV
    cases hr:pO (s.size - (cN s i+1)) s (cN s i+1) ⟨#[]⟩ with
    | none=>
      rw[hr] at hq
      have hq:none=xH (tD s (cN s i+1)) []:=hq
      rw[←hq]
      simp only
      rw[if_pos (by decide)]
      refine⟨rfl,rfl,?_⟩
      simp only[Int.toNat_natCast]
      exact Fo (Nat.le_refl _)
    | some r=>
      rw[hr] at hq
      have hq:some (r.2.data.toList,tD s (r.1+1))=xH (tD s (cN s i+1)) []:=hq
      rw[←hq]
      simp only
      rw[if_neg (by omega)]
      refine⟨rfl,rfl,?_⟩
      simp only
      rw[show((r.1:Int) +1).toNat=r.1+1 by omega]
   ·have hf: (signsL.find? (j5 s (cN s i))).map (fun x=> x.data.toList)=sgnL.find? (fun x=> x.isPrefixOf (tD s (cN s i))):=by
     unfold sgnL
     rw[List.find?_map]
     congr 2
     funext x
     exact WK s _ hj x
    rw[jQ hc] at hf
    cases hx:signsL.find? (j5 s (cN s i)) with
    | none=>
      rw[hx] at hf
      rw[←hf]
      refine⟨rfl,rfl,?_⟩
      simp only[Int.toNat_natCast,Option.map_none]
      exact jQ hc
    | some x=>
      rw[hx] at hf
      rw[←hf]
      refine⟨rfl,rfl,?_⟩
      simp only[Option.map_some]
      rw[show((cN s i:Int) +x.size).toNat=cN s i+x.size by omega,WG,jQ hc]
      rfl
inductive Wd:Bool→List UInt8→List UInt8→Prop
 | nil (q:Bool):Wd q [] []
 | blank (w l l':List UInt8): (∀c∈w,b8 Cy c=true)→Wd false l l'→Wd false (32::l) (32:: (w++l'))
 | cons (q:Bool) (c:UInt8) (l l':List UInt8):Wd (if c=34 then !q else q) l l'→Wd q (c::l) (c::l')
end Go.Gv

namespace Go.Gv
structure B2 (s s':Rdr):Prop where
 kind:s.kind=s'.kind
 text:s.text=s'.text
 r1: (0≤s.fin∧s.fin≤s.txt.size)∧s.txt.size≤100000
 r2: (0≤s'.fin∧s'.fin≤s'.txt.size)∧s'.txt.size≤100000
 wd:Wd false (tD s.txt s.fin.toNat) (tD s'.txt s'.fin.toNat)
def OS {Y:Type} :Out (Rdr×Y)→Out (Rdr×Y)→Prop
 | .ok r, .ok r'=> B2 r.1 r'.1∧r.2=r'.2
 | .err f, .err f'=> f.2=f'.2
 | .no, .no=> True
 | _,_=> False
def OS1:Out Rdr→Out Rdr→Prop
 | .ok r, .ok r'=> B2 r r'
 | .err f, .err f'=> f.2=f'.2
 | .no, .no=> True
 | _,_=> False
theorem cm {α β:Type} (f:α→β) (E:Out α):E.map f=E.bind fun x=> .ok (f x):=by cases E <;> rfl
section
variable {Y Z:Type} {s s':Rdr}
theorem OS.ok {y:Y} (h:B2 s s'):OS (.ok (s,y)) (.ok (s',y)):=⟨h,rfl⟩
theorem OS.err {a a' e:Int} :OS (Y:=Y) (.err (a,e)) (.err (a',e)):=rfl
theorem OS.bind {E E':Out (Rdr×Y)} {k k':Rdr×Y→Out (Rdr×Z)} (h1:OS E E') (h2: ∀r r' y,B2 r r'→OS (k (r,y)) (k' (r',y))):OS (E.bind k) (E'.bind k'):=by
 match E,E',h1 with
 | .ok (r,y), .ok (r',y'),h1=>
   obtain⟨h1,h3⟩:=h1
   simp only at h1 h3
   subst h3
   exact h2 r r' y h1
 | .err f, .err f',h1=> exact h1
 | .no, .no,_=> trivial
theorem OS1.bind {E E':Out Rdr} {k k':Rdr→Out (Rdr×Z)} (h1:OS1 E E') (h2: ∀r r',B2 r r'→OS (k r) (k' r')):OS (E.bind k) (E'.bind k'):=by
 match E,E',h1 with
 | .ok r, .ok r',h1=> exact h2 r r' h1
 | .err f, .err f',h1=> exact h1
 | .no, .no,_=> trivial
theorem OS1.bind1 {E E':Out Rdr} {k k':Rdr→Out Rdr} (h1:OS1 E E') (h2: ∀r r',B2 r r'→OS1 (k r) (k' r')):OS1 (E.bind k) (E'.bind k'):=by
 match E,E',h1 with
 | .ok r, .ok r',h1=> exact h2 r r' h1
 | .err f, .err f',h1=> exact h1
 | .no, .no,_=> trivial
theorem OS.ite {c c':Prop} {i:Decidable c} {i':Decidable c'} {A B A' B':Out (Rdr×Y)} (hc:c↔c') (h1:c→OS A A') (h2: ¬c→OS B B'):OS (if c then A else B) (if c' then A' else B'):=by
 by_cases h:c
 ·rw[if_pos h,if_pos (hc.1 h)];exact h1 h
 ·rw[if_neg h,if_neg fun h'=> h (hc.2 h')];exact h2 h
theorem F1 {a b:B} (h:a.data.toList=b.data.toList):a=b:=ByteArray.ext (Array.toList_inj.1 h)
end
section
variable {N O:Rdr→Out (Rdr×Cond)}
end
section
variable {A:Rdr→Bool→Out (Rdr×Pat)} {O:Rdr→Out (Rdr×Cond)}
end
section
variable {N O:Rdr→Out (Rdr×Glob)}
end
end Go.Gv

namespace Go.Gv
end Go.Gv

namespace Go.Gv
open Cod (enc dec)
instance:Cod UInt8 where
 wd:=1
 enc n:= .v (.int .u8 n.toNat)
 dec | .v (.int .u8 n)=> if 0≤n∧n≤255 then some (UInt8.ofNat n.toNat) else none | _=> none
 kn _:=rfl
 wid _:=rfl
 dec_enc n:=by
  have:=n.toNat_lt
  simp only
  rw[if_pos (by omega)]
  congr 1
  rw[Int.toNat_natCast,UInt8.ofNat_toNat]
 le d x h:=by
  split at h
  ·split at h
   ·rename_i n hn
    cases h
    have e: ((UInt8.ofNat n.toNat).toNat:Int)=n:=by
     rw[UInt8.toNat_ofNat']
     omega
    show FrzTo cZ _ (.v (.int .u8 ((UInt8.ofNat n.toNat).toNat:Int)))
    rw[e]
    exact .same _
   ·cases h
  ·cases h
end Go.Gv

namespace Go.Gv
open Cod (enc dec)
variable {S S0:Nat→Spc}
end Go.Gv

namespace Go.Gv
open Go.Proofs Cod
end Go.Gv

namespace Go.Gv
open Cod (enc dec)
open Go.Proofs
variable {S S0:Nat→Spc}
def sq (T:Cond→Option B) (cs:List D):Option B:=if cs.length=7 then(dec (X:=Cond) (.agg cs)).bind T else none
def YB (T:Cond→Option B) (g:Nat):List D→Option B:=if g=dH∨g=dG then sq T else fun _=> none
abbrev qh (T:Cond→Option B):Spc:=QD 108 5 (a1 Cond) (.tup []) T
theorem C1 (T:Cond→Option B) (h1:S be=qh T):CW iX iK S 108 5 (Hm (sq T)) (.tup []):=by
 intro i b u v s ds t hi hg hl
 have hi': ¬900=i:=fun e=> hi e.symm
 unfold Hm at hg
 split at hg
 ·rename_i j b' cs
  split at hg
  ·rename_i he
   obtain⟨rfl,rfl⟩:=he
   unfold sq at hg
   split at hg
   ·rename_i h13
    obtain⟨p,hd,ht⟩:=Option.bind_eq_some_iff.1 hg
    have htk:List.take 7 cs=cs:=List.take_of_length_le (by omega)
    simp[iX,iK,h1,h13,htk,hd,ht,hi,hi',hl, -Bool.forall_bool, -Bool.exists_bool]
    exact fun u' v'=> CO u' v' (by simp) (by simp[hi'])
   ·cases hg
  ·cases hg
 ·cases hg
theorem C0 (T:Cond→Option B) (h1:S be=qh T):CW iW iJ S 108 5 (Hm (sq T)) (.tup []):=by
 intro i b u v s ds t hi hg hl
 have hi': ¬900=i:=fun e=> hi e.symm
 unfold Hm at hg
 split at hg
 ·rename_i j b' cs
  split at hg
  ·rename_i he
   obtain⟨rfl,rfl⟩:=he
   unfold sq at hg
   split at hg
   ·rename_i h13
    obtain⟨p,hd,ht⟩:=Option.bind_eq_some_iff.1 hg
    have htk:List.take 7 cs=cs:=List.take_of_length_le (by omega)
    simp[iW,iJ,h1,h13,htk,hd,ht,hi,hi',hl, -Bool.forall_bool, -Bool.exists_bool]
    exact fun u' v'=> CO u' v' (by simp) (by simp[hi'])
   ·cases hg
  ·cases hg
 ·cases hg
theorem ol {T:Cond→Option B} (h3:S aH=pL (YB T)) {g:Nat} (hg:g=dH∨g=dG) {x:Cond} {tk:B} (hx:T x=some tk) {d b:Nat} {s0:B} {pb:Bool} {u2:Bool} {v2:Value} {H:ae} {K:D→ae→Prop}
 (g0:H 0=some (.tbox 108 b [.v (pv b u2), .own 900 v2])) (g9:H 900=some (.row v2 5 1 (bD s0))) (hl:s0.size+ (eX pb tk).size≤mi)
 (hK: ∀u3 v3,K (.tup []) (aq (aq H 900 (some (.row v3 5 1 (bD (s0++eX pb tk))))) 0 (some (.tbox 108 b [.v (pv b u3), .own 900 v3])))):
 (S aH).pt d [.bptr 0 b 0, .v (.bool pb), .clo g [.cptr [.bptr 0 b 0] 0, .cptr [D.v (Value.int IntKind.i64 x.op),D.v (Value.string x.name),D.v (Value.string x.arg),D.v (Value.string x.val),D.v (Value.string x.lab),D.v (Value.bool x.fold),D.list 7 (List.map enc x.kids)] 0]] H K:=by
 rw[h3]
 refine PQ _ _ _ _ _ _ _ _ _ ?_
 have hct:YB T g [D.v (Value.int IntKind.i64 x.op),D.v (Value.string x.name),D.v (Value.string x.arg),D.v (Value.string x.val),D.v (Value.string x.lab),D.v (Value.bool x.fold),D.list 7 (List.map enc x.kids)]=some tk:=by
  unfold YB
  rw[if_pos hg]
  simp[sq,hx]
 rw[hct,g0,g9]
 simp[-Bool.forall_bool, -Bool.exists_bool]
 exact⟨hl,hK⟩
theorem Ep (T:Cond→Option B) (h1:S bQ=qe) (h2:S aa=s_wstr) (h3:S aP=lY) (h4:S aH=pL (YB T)):
 nj bb ba S 108 5 (a1 Cond) (.tup []) (gm T):=by
 rintro b u v s ⟨op,name,arg,val,lab,fold,kids⟩ t ht hl
 have hL:=jf
 unfold gm at ht
 simp only at ht
 split at ht
 ·rename_i e
  subst e
  obtain rfl:=Option.some.inj ht
  simp only[ab] at hl
  simp at hl
  simp[bb,ba,h2,hl,ag,ab, -Bool.forall_bool, -Bool.exists_bool]
  exact fun u' v'=> eI u' v' (by simp) (by simp)
 rename_i n1
 split at ht
 ·rename_i e
  subst e
  obtain⟨q,hq,ht⟩:=Option.map_eq_some_iff.1 ht
  by_cases hn:name=E0
  ·rw[if_pos hn] at ht
   subst ht
   subst hn
   simp[bb,ba,h1,h2,hl,hq,E0,ag,ab, -Bool.forall_bool, -Bool.exists_bool]
   exact fun u' v'=> eI u' v' (by simp) (by simp)
  ·rw[if_neg hn] at ht
   subst ht
   have hn': ¬name=⟨#[]⟩:=hn
   simp only[ag,ab] at hl
   simp at hl
   simp[bb,ba,h1,h2,hn',hq,ag,ab, -Bool.forall_bool, -Bool.exists_bool]
   exact⟨by omega,by omega,fun u' v'=> ⟨by omega,fun u' v'=> eI u' v' (by simp) (by simp[ByteArray.append_assoc])⟩⟩
 rename_i n2
 split at ht
 ·rename_i e
  subst e
  obtain⟨q,hq,ht⟩:=Option.map_eq_some_iff.1 ht
  subst ht
  simp only[ag,ab] at hl
  simp at hl
  simp[bb,ba,h2,h3,hq,ag,ab, -Bool.forall_bool, -Bool.exists_bool]
  repeat' first | apply And.intro | intro _
  all_goals first | omega | (rename_i u' v';exact eI u' v' (by simp) (by simp[ByteArray.append_assoc]))
 rename_i n3
 split at ht
 ·rename_i e
  subst e
  obtain rfl:=Option.some.inj ht
  simp only[ag,ab] at hl
  simp at hl
  simp[bb,ba,h2,ag,ab, -Bool.forall_bool, -Bool.exists_bool]
  repeat' first | apply And.intro | intro _
  all_goals first | omega | (rename_i u' v';exact eI u' v' (by simp) (by simp[ByteArray.append_assoc]))
 rename_i n4
 split at ht
 ·rename_i e
  subst e
  unfold Ot at ht
  simp only at ht
  by_cases hn:arg=E0
  ·rw[if_pos hn] at ht
   obtain rfl:=Option.some.inj ht
   subst hn
   simp only[ag,ab] at hl
   simp at hl
   simp[bb,ba,h2,E0,ag,ab, -Bool.forall_bool, -Bool.exists_bool]
   repeat' first | apply And.intro | intro _
   all_goals first | omega | (rename_i u' v';exact eI u' v' (by simp) (by simp[ByteArray.append_assoc]))
  ·rw[if_neg hn] at ht
   obtain⟨q,hq,ht⟩:=Option.map_eq_some_iff.1 ht
   subst ht
   have hn': ¬arg=⟨#[]⟩:=hn
   simp only[ag,ab] at hl
   simp at hl
   simp[bb,ba,h2,h3,hq,hn',ag,ab, -Bool.forall_bool, -Bool.exists_bool]
   repeat' first | apply And.intro | intro _
   all_goals first | omega | (rename_i u' v';exact eI u' v' (by simp) (by simp[ByteArray.append_assoc]))
 rename_i n5
 split at ht
 ·rename_i e
  subst e
  unfold WS at ht
  split at ht
  ·rename_i k
   obtain⟨q,hq,ht⟩:=Option.map_eq_some_iff.1 ht
   subst ht
   simp only[ag,ab] at hl
   simp at hl
   simp[bb,ba,h2,ag,ab, -Bool.forall_bool, -Bool.exists_bool]
   have z33: (⟨#[33]⟩:B).size=1:=rfl
   refine⟨by omega,fun u1 v1=> ⟨fun h8=> ?_,fun h8=> ?_⟩⟩
   ·have e: (decide (k.op=7) || decide (k.op=8))=decide (k.op=7):=by simp[h8]
    rw[e] at hl ⊢
    exact ol h4 (.inl rfl) hq (s0:=s++ ⟨#[33]⟩) (u2:=u1) (v2:=v1) (by simp) (by simp) (by rw[ag,z33];omega) fun u3 v3=> eI u3 v3 (by simp) (by simp[ByteArray.append_assoc])
   ·have e: (decide (k.op=7) || decide (k.op=8))=true:=by simp[h8]
    rw[e] at hl ⊢
    exact ol h4 (.inl rfl) hq (s0:=s++ ⟨#[33]⟩) (u2:=u1) (v2:=v1) (by simp) (by simp) (by rw[ag,z33];omega) fun u3 v3=> eI u3 v3 (by simp) (by simp[ByteArray.append_assoc])
  ·cases ht
 rename_i n6
 split at ht
 ·rename_i h78
  simp[bb,ba,n1,n2,n3,n4,n5,n6, -Bool.forall_bool, -Bool.exists_bool]
  intro hkl
  have hs78: (op=7∧kI (op=7)=⟨#[32,38,32]⟩)∨(op=8∧kI (op=7)=⟨#[32,124,32]⟩):=by
   rcases h78 with rfl | rfl
   ·exact .inl ⟨rfl,rfl⟩
   ·exact .inr ⟨rfl,rfl⟩
  generalize kI (op=7)=sp at ht hs78
  refine aw (X:=Bool×Value×B×B) [2,3,10] [] kids.length (fun k x=> dn sp (lk op) T k (kids.drop k)=some x.2.2.2∧x.2.2.1++x.2.2.2=t) (fun x=> []) (fun x=> [(0, .tbox 108 b [.v (pv b x.1), .own 900 x.2.1]),(900, .row x.2.1 5 1 (bD (s++x.2.2.1)))]) (u,v,E0,t) (by simp) (by simp) (by omega) (by simp) (by simp) ?_ (by simp) (by simp[E0,aQ]) ?_ ?_
  ·exact⟨ht,by simp[E0,dr]⟩
  ·rintro k ⟨u1,v1,acc,r⟩ hk ⟨q1,q2⟩
   simp only at q1 q2
   obtain⟨x,hx⟩:=cz hk
   obtain⟨_,hgx⟩:=List.getElem?_eq_some_iff.1 hx
   obtain⟨tk,r',c1,c2,rfl⟩:=j8 hx q1
   have hl2:=hl
   rw[←q2] at hl2
   simp only[ag] at hl2
   have hsz:sp.size=3:=by rcases hs78 with⟨_,h⟩ | ⟨_,h⟩ <;> rw[h] <;> rfl
   have key: ∀ (pb:Bool) (s1:B),pb=lk op x→s1=acc++ (if k=0 then E0 else sp)→(s++s1).size+ (eX pb tk).size≤mi∧ ∃y,dn sp (lk op) T (k+1) (List.drop (k+1) kids)=some y∧(s1++eX pb tk) ++y=t:=by
    rintro pb s1 rfl rfl
    refine⟨by rw[ag,ag];omega,r',c2,?_⟩
    rw[←q2]
    simp only[ByteArray.append_assoc]
   by_cases hk0:k=0
   ·have hk1: ¬0 < k:=by omega
    have ks:=fun pb e=> key pb acc e (by rw[if_pos hk0,E0,aQ])
    simp[hk,hx,hgx,h2,hk1,ab, -Bool.forall_bool, -Bool.exists_bool]
    refine⟨fun h8=> ⟨fun h7=> ?_,fun h7=> ?_⟩,fun h8=> ?_⟩
    ·have kk:=ks (decide (op=7)) (by simp[lk,h7,h8])
     exact ol h4 (.inr rfl) c1 (s0:=s++acc) (u2:=u1) (v2:=v1) (by simp) (by simp) kk.1 fun u3 v3=> ⟨u3,v3,acc++eX (decide (op=7)) tk,kk.2, .inl (by simp), .inl (by simp[ByteArray.append_assoc])⟩
    ·have kk:=ks false (by simp[lk,h7,h8])
     exact ol h4 (.inr rfl) c1 (s0:=s++acc) (u2:=u1) (v2:=v1) (by simp) (by simp) kk.1 fun u3 v3=> ⟨u3,v3,acc++eX false tk,kk.2, .inl (by simp), .inl (by simp[ByteArray.append_assoc])⟩
    ·have kk:=ks true (by simp[lk,h8])
     exact ol h4 (.inr rfl) c1 (s0:=s++acc) (u2:=u1) (v2:=v1) (by simp) (by simp) kk.1 fun u3 v3=> ⟨u3,v3,acc++eX true tk,kk.2, .inl (by simp), .inl (by simp[ByteArray.append_assoc])⟩
   ·have hk1:0 < k:=by omega
    rw[if_neg hk0,hsz] at hl2
    have ks:=fun pb e=> key pb (acc++sp) e (by rw[if_neg hk0])
    rcases hs78 with⟨rfl,hsp⟩ | ⟨rfl,hsp⟩
    ·simp[hk,hx,hgx,h2,hk1,←hsp,hsz,ab, -Bool.forall_bool, -Bool.exists_bool]
     refine⟨by simp only[InR];omega,by omega,fun u2 v2=> ⟨fun h8=> ⟨fun h7=> ?_,fun h7=> ?_⟩,fun h8=> ?_⟩⟩
     ·have kk:=ks true (by simp[lk,h7,h8])
      exact ol h4 (.inr rfl) c1 (s0:=s++ (acc++sp)) (u2:=u2) (v2:=v2) (by simp) (by simp[hsp,ByteArray.append_assoc]) kk.1 fun u3 v3=> ⟨u3,v3,acc++sp++eX true tk,kk.2, .inl (by simp), .inl (by simp[ByteArray.append_assoc])⟩
     ·have kk:=ks false (by simp[lk,h7,h8])
      exact ol h4 (.inr rfl) c1 (s0:=s++ (acc++sp)) (u2:=u2) (v2:=v2) (by simp) (by simp[hsp,ByteArray.append_assoc]) kk.1 fun u3 v3=> ⟨u3,v3,acc++sp++eX false tk,kk.2, .inl (by simp), .inl (by simp[ByteArray.append_assoc])⟩
     ·have kk:=ks true (by simp[lk,h8])
      exact ol h4 (.inr rfl) c1 (s0:=s++ (acc++sp)) (u2:=u2) (v2:=v2) (by simp) (by simp[hsp,ByteArray.append_assoc]) kk.1 fun u3 v3=> ⟨u3,v3,acc++sp++eX true tk,kk.2, .inl (by simp), .inl (by simp[ByteArray.append_assoc])⟩
    ·simp[hk,hx,hgx,h2,hk1,←hsp,hsz,ab, -Bool.forall_bool, -Bool.exists_bool]
     refine⟨by simp only[InR];omega,by omega,fun u2 v2=> ⟨fun h8=> ?_,fun h8=> ?_⟩⟩
     ·have kk:=ks false (by simp[lk,h8])
      exact ol h4 (.inr rfl) c1 (s0:=s++ (acc++sp)) (u2:=u2) (v2:=v2) (by simp) (by simp[hsp,ByteArray.append_assoc]) kk.1 fun u3 v3=> ⟨u3,v3,acc++sp++eX false tk,kk.2, .inl (by simp), .inl (by simp[ByteArray.append_assoc])⟩
     ·have kk:=ks true (by simp[lk,h8])
      exact ol h4 (.inr rfl) c1 (s0:=s++ (acc++sp)) (u2:=u2) (v2:=v2) (by simp) (by simp[hsp,ByteArray.append_assoc]) kk.1 fun u3 v3=> ⟨u3,v3,acc++sp++eX true tk,kk.2, .inl (by simp), .inl (by simp[ByteArray.append_assoc])⟩
  ·rintro⟨u1,v1,acc,r⟩ ⟨q1,q2⟩
   simp only at q1 q2
   simp
   rw[List.drop_length,dn] at q1
   obtain rfl:=Option.some.inj q1
   refine eI u1 v1 (by simp) ?_
   rw[←q2]
   simp[E0,aQ]
 ·cases ht
end Go.Gv
