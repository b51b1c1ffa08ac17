/- A part of the framework and of the walks: V28. -/
import Derived.Test.YtaiffcbkmgfklaaGreatDoorGt42
set_option linter.unusedSimpArgs false
set_option linter.unusedVariables false

namespace Go.Gv
def sw (s:B) (i:Nat):List UInt8:=s.data.toList.drop i
theorem ia {s:B} {i:Nat} {c:UInt8} (h:s.data[i]?=some c):sw s i=c::sw s (i+1):=by
 unfold sw
 rw[dC (a:=c) (by rw[Array.getElem?_toList];exact h)]
theorem ro {s:B} {i:Nat} (h:s.data[i]?=none):sw s i= []:=by
 unfold sw
 rw[List.drop_eq_nil_iff,Array.length_toList]
 exact Array.getElem?_eq_none_iff.1 h
theorem Dj {s:B} {i:Nat} (h:s.size≤i):sw s i= []:=ro (Array.getElem?_eq_none_iff.2 h)
theorem vj (s:B) (i j:Nat): (s.extract i j).data.toList=(sw s i).take (j -i):=by
 unfold sw
 rw[ByteArray.data_extract,Array.toList_extract]
theorem Un (s:B) (i k:Nat):sw s (i+k)=(sw s i).drop k:=by
 unfold sw
 rw[List.drop_drop]
def b8 (p:U8→Bool) (c:UInt8):Bool:=p ⟨c.toNat⟩
theorem Ia (p:U8→Bool) (s:B): ∀ (n i:Nat),s.size -i=n→sw s (gS p s i)=(sw s i).dropWhile (b8 p)∧(sw s i).take (gS p s i -i)=(sw s i).takeWhile (b8 p)
 | 0,i,h=> by rw[Dh (by omega),Dj (by omega)];simp
 | n+1,i,h=> by
   cases hc:s.data[i]? with
   | none=> have:=Array.getElem?_eq_none_iff.1 hc;have:s.data.size=s.size:=rfl;omega
   | some c=>
     obtain⟨h1,h2⟩:=Ia p s n (i+1) (by omega)
     rw[qA hc]
     by_cases hp:p ⟨c.toNat⟩=true
     ·rw[if_pos hp,h1,ia hc,List.dropWhile_cons_of_pos (by exact hp),List.takeWhile_cons_of_pos (by exact hp)]
      refine⟨rfl,?_⟩
      have:=kT p (s:=s) (i:=i+1) (by omega)
      rw[show gS p s (i+1) -i=(gS p s (i+1) - (i+1)) +1 by omega,List.take_succ_cons,h2]
     ·rw[if_neg hp,ia hc,List.dropWhile_cons_of_neg (by exact hp),List.takeWhile_cons_of_neg (by exact hp)]
      simp
theorem Dg (p:U8→Bool) (s:B) (i:Nat):sw s (gS p s i)=(sw s i).dropWhile (b8 p):=(Ia p s _ i rfl).1
theorem JP (p:U8→Bool) (s:B) (i:Nat): (s.extract i (gS p s i)).data.toList=(sw s i).takeWhile (b8 p):=by rw[vj];exact(Ia p s _ i rfl).2
def np:List UInt8→List UInt8→Option (List UInt8×List UInt8)
 | [],_=> none
 | [c],v=> if c=34 then some (v, []) else none
 | c::d::l,v=> if c=34 then(if d=34 then np l (v++ [34]) else some (v,d::l)) else np (d::l) (v++ [c])
theorem BT (s:B): ∀ (n i:Nat) (v:B),(ni n s i v).map (fun r=> (r.2.data.toList,sw s (r.1+1)))=if s.size -i≤n then np (sw s i) v.data.toList else(ni n s i v).map (fun r=> (r.2.data.toList,sw s (r.1+1)))
 | 0,i,v=> by
   split
   ·rw[Dj (by omega)];simp[ni,np]
   ·rfl
 | n+1,i,v=> by
   split
   ·rename_i hn
    rw[ni]
    cases hc:s.data[i]? with
    | none=> rw[ro hc];simp[np]
    | some c=>
      have hi:i < s.size:=(Array.getElem?_eq_some_iff.1 hc).1
      simp only
      have e0: (c.toNat=34) ↔c=34:=by rw[←UInt8.toNat_inj];rfl
      cases hd:s.data[i+1]? with
      | none=>
        rw[ia hc,ro hd,np]
        simp only[e0]
        split
        ·rw[Option.map_some,ro hd]
        ·rw[BT s n (i+1),if_pos (by omega),ro hd,np]
      | some d=>
        have e1: (d.toNat=34) ↔d=34:=by rw[←UInt8.toNat_inj];rfl
        rw[ia hc,ia hd,np]
        simp only[e0,e1]
        split
        ·split
         ·rename_i h1 h2
          rw[BT s n (i+2),if_pos (by omega)]
          rw[ByteArray.data_append,Array.toList_append,vj,ia hd,h2]
          rw[show i+1+1 - (i+1)=1 by omega] <;> rfl
         ·rw[Option.map_some,ia hd]
        ·rw[BT s n (i+1),if_pos (by omega),ia hd]
         rw[ByteArray.data_append,Array.toList_append,vj,ia hc]
         rw[show i+1 -i=1 by omega] <;> rfl
   ·rfl
def sgnL:List (List UInt8):=signsL.map fun x=> x.data.toList
theorem Ut (s:B) (i:Nat) (hi:i≤s.size) (x:B):gF s i x=x.data.toList.isPrefixOf (sw s i):=by
 unfold gF
 rw[Bool.eq_iff_iff,decide_eq_true_eq,List.isPrefixOf_iff_prefix,List.prefix_iff_eq_take]
 have el:x.data.toList.length=x.size:=rfl
 have er: (sw s i).length=s.size -i:=by unfold sw;rw[List.length_drop];rfl
 constructor
 ·rintro⟨h1,h2⟩
  have:=congrArg (fun b:B=> b.data.toList) h2
  simp only[vj] at this
  rw[show i+x.size -i=x.size by omega] at this
  rw[el]
  exact this.symm
 ·intro h
  have h2:=congrArg List.length h
  rw[List.length_take,el,er] at h2
  refine⟨by omega,ByteArray.ext (Array.toList_inj.1 ?_)⟩
  rw[vj,show i+x.size -i=x.size by omega]
  exact h.symm
def D0 (l:List UInt8):Int×List UInt8×List UInt8:=match l.dropWhile (b8 Bj) with
 | []=> (0, [], [])
 | c::r=>
   if yl ⟨c.toNat⟩ then(2,(c::r).takeWhile (b8 vQ),(c::r).dropWhile (b8 vQ))
   else if lr ⟨c.toNat⟩ then(3,(c::r).takeWhile (b8 lr),(c::r).dropWhile (b8 lr))
   else if c=34 then(match np r [] with | none=> (1, [], []) | some q=> (4,q.1,q.2))
   else match sgnL.find? (fun x=> x.isPrefixOf (c::r)) with
    | some x=> (5,x,(c::r).drop x.length)
    | none=> (1, [],c::r)
theorem NC {s:B} {i:Nat} (h:i≤s.size): (bV s i).1.kind=(D0 (sw s i)).1∧(bV s i).1.text.data.toList=(D0 (sw s i)).2.1∧sw s (bV s i).2.toNat=(D0 (sw s i)).2.2:=by
 have es:br s i=gS Bj s i:=by unfold br gS;rw[xR]
 have ed:pp s (br s i)=gS lr s (br s i):=by unfold pp gS;rw[ve]
 have en:qI s (br s i)=gS vQ s (br s i):=by unfold qI gS;rw[xS]
 have hj:br s i≤s.size:=by rw[es];exact(kT Bj h).2
 have e0:sw s (br s i)=(sw s i).dropWhile (b8 Bj):=by rw[es];exact Dg _ _ _
 unfold bV D0
 simp only
 rw[←e0,ed,en]
 cases hc:s.data[br s i]? with
 | none=>
   rw[ro hc]
   refine⟨rfl,rfl,?_⟩
   simp only[Int.toNat_natCast]
   exact ro hc
 | some c=>
   have e34: (c.toNat=34) ↔c=34:=by rw[←UInt8.toNat_inj];rfl
   rw[ia hc]
   simp only[e34]
   split
   ·exact⟨rfl,by rw[JP,ia hc],by simp only[Int.toNat_natCast];rw[Dg,ia hc]⟩
   split
   ·exact⟨rfl,by rw[JP,ia hc],by simp only[Int.toNat_natCast];rw[Dg,ia hc]⟩
   split
   ·have hq:=BT s (s.size - (br s i+1)) (br s i+1) ⟨#[]⟩
    rw[if_pos (Nat.le_refl _)] at hq
    unfold wL tS
    cases hr:ni (s.size - (br s i+1)) s (br s i+1) ⟨#[]⟩ with
    | none=>
      rw[hr] at hq
      have hq:none=np (sw s (br s i+1)) []:=hq
      rw[←hq]
      simp only
      rw[if_pos (by decide)]
      refine⟨rfl,rfl,?_⟩
      simp only[Int.toNat_natCast]
      exact Dj (Nat.le_refl _)
    | some r=>
      rw[hr] at hq
      have hq:some (r.2.data.toList,sw s (r.1+1))=np (sw s (br s i+1)) []:=hq
      rw[←hq]
      simp only
      rw[if_neg (by omega)]
      refine⟨rfl,rfl,?_⟩
      simp only
      rw[show((r.1:Int) +1).toNat=r.1+1 by omega]
   ·have hf: (signsL.find? (gF s (br s i))).map (fun x=> x.data.toList)=sgnL.find? (fun x=> x.isPrefixOf (sw s (br s i))):=by
     unfold sgnL
     rw[List.find?_map]
     congr 2
     funext x
     exact Ut s _ hj x
    rw[ia hc] at hf
    cases hx:signsL.find? (gF s (br s i)) with
    | none=>
      rw[hx] at hf
      rw[←hf]
      refine⟨rfl,rfl,?_⟩
      simp only[Int.toNat_natCast,Option.map_none]
      exact ia hc
    | some x=>
      rw[hx] at hf
      rw[←hf]
      refine⟨rfl,rfl,?_⟩
      simp only[Option.map_some]
      rw[show((br s i:Int) +x.size).toNat=br s i+x.size by omega,Un,ia hc]
      rfl
inductive Wd:Bool→List UInt8→List UInt8→Prop
 | nil (q:Bool):Wd q [] []
 | blank (w l l':List UInt8): (∀c∈w,b8 Bj c=true)→Wd false l l'→Wd false (32::l) (32:: (w++l'))
 | cons (q:Bool) (c:UInt8) (l l':List UInt8):Wd (if c=34 then !q else q) l l'→Wd q (c::l) (c::l')
theorem G6 {p:UInt8→Bool} : ∀ {w l:List UInt8},(∀c∈w,p c=true)→(w++l).dropWhile p=l.dropWhile p
 | [],l,_=> rfl
 | c::w,l,h=> by rw[List.cons_append,List.dropWhile_cons_of_pos (h c (by simp)),G6 fun x hx=> h x (by simp[hx])]
theorem qcr: ¬b8 Bj 34=true:=by decide
theorem TP {q:Bool} {l l':List UInt8} (h:Wd q l l'):q=false→(l.dropWhile (b8 Bj)= []∧l'.dropWhile (b8 Bj)= [])∨ ∃c r r',l.dropWhile (b8 Bj)=c::r∧l'.dropWhile (b8 Bj)=c::r'∧Wd (if c=34 then true else false) r r':=by
 induction h with
 | nil q=> intro _;exact .inl ⟨rfl,rfl⟩
 | blank w l l' hw h ih=>
   intro e
   rw[List.dropWhile_cons_of_pos (by decide),List.dropWhile_cons_of_pos (by decide),G6 hw]
   exact ih e
 | cons q c l l' h ih=>
   rintro rfl
   by_cases hc:b8 Bj c=true
   ·rw[List.dropWhile_cons_of_pos hc,List.dropWhile_cons_of_pos hc]
    refine ih ?_
    rw[if_neg]
    rintro rfl
    exact qcr hc
   ·rw[List.dropWhile_cons_of_neg hc,List.dropWhile_cons_of_neg hc]
    exact .inr ⟨c,l,l',rfl,rfl,h⟩
theorem Jj {p:UInt8→Bool} (h0: ¬p 32=true) (h1: ¬p 34=true) {q:Bool} {l l':List UInt8} (h:Wd q l l'):q=false→l.takeWhile p=l'.takeWhile p∧Wd false (l.dropWhile p) (l'.dropWhile p):=by
 induction h with
 | nil q=> intro _;exact⟨rfl, .nil _⟩
 | blank w l l' hw h ih=>
   intro _
   rw[List.takeWhile_cons_of_neg h0,List.takeWhile_cons_of_neg h0,List.dropWhile_cons_of_neg h0,List.dropWhile_cons_of_neg h0]
   exact⟨rfl, .blank w l l' hw h⟩
 | cons q c l l' h ih=>
   rintro rfl
   by_cases hc:p c=true
   ·have hne: ¬c=34:=by rintro rfl;exact h1 hc
    obtain⟨e1,e2⟩:=ih (if_neg hne)
    rw[List.takeWhile_cons_of_pos hc,List.takeWhile_cons_of_pos hc,List.dropWhile_cons_of_pos hc,List.dropWhile_cons_of_pos hc,e1]
    exact⟨rfl,e2⟩
   ·rw[List.takeWhile_cons_of_neg hc,List.takeWhile_cons_of_neg hc,List.dropWhile_cons_of_neg hc,List.dropWhile_cons_of_neg hc]
    exact⟨rfl, .cons false c l l' h⟩
theorem Wc: ∀ (n:Nat) (l l' v:List UInt8),l.length≤n→Wd true l l'→(np l v=none∧np l' v=none)∨ ∃t r r',np l v=some (t,r)∧np l' v=some (t,r')∧Wd false r r':=by
 intro n
 induction n with
 | zero=>
   intro l l' v hn hw
   obtain rfl:l= []:=List.length_eq_zero_iff.1 (by omega)
   cases hw
   exact .inl ⟨rfl,rfl⟩
 | succ n ih=>
   intro l l' v hn hw
   cases hw with
   | nil=> exact .inl ⟨rfl,rfl⟩
   | cons _ c l l' h=>
     by_cases hc:c=34
     ·subst hc
      rw[if_pos rfl] at h
      have h0:Wd false l l':=h
      clear h
      cases h0 with
      | nil=> exact .inr ⟨v, [], [],rfl,rfl, .nil _⟩
      | blank w r r' hw h1=>
        refine .inr ⟨v,32::r,32:: (w++r'),?_,?_, .blank w r r' hw h1⟩
        ·rw[np,if_pos rfl,if_neg (by decide)]
        ·rw[np,if_pos rfl,if_neg (by decide)]
      | cons _ d r r' h1=>
        by_cases hd:d=34
        ·subst hd
         rw[if_pos rfl] at h1
         rw[np,np,if_pos rfl,if_pos rfl,if_pos rfl,if_pos rfl]
         exact ih _ _ _ (by simp at hn ⊢;omega) h1
        ·refine .inr ⟨v,d::r,d::r',?_,?_, .cons _ d r r' h1⟩
         ·rw[np,if_pos rfl,if_neg hd]
         ·rw[np,if_pos rfl,if_neg hd]
     ·rw[if_neg hc] at h
      have ih:=ih l l' (v++ [c]) (by simp at hn ⊢;omega) h
      cases h with
      | nil=> rw[np,if_neg hc];exact .inl ⟨rfl,rfl⟩
      | cons _ d r r' h1=>
        rw[np,np,if_neg hc,if_neg hc]
        exact ih
theorem Lz: ∀ (x:List UInt8) {l l':List UInt8},(∀c∈x,c≠32∧c≠34)→Wd false l l'→x.isPrefixOf l=x.isPrefixOf l'∧(x.isPrefixOf l=true→Wd false (l.drop x.length) (l'.drop x.length))
 | [],l,l',_,h=> ⟨rfl,fun _=> h⟩
 | c::x,_,_,hx, .nil _=> ⟨rfl,fun h=> by cases h⟩
 | c::x,_,_,hx, .blank w l l' hw h=> by
   have: (c==32)=false:=by simpa using (hx c (by simp)).1
   simp[List.isPrefixOf,this]
 | c::x,_,_,hx, .cons _ d l l' h=> by
   simp only[List.isPrefixOf]
   by_cases hc:c=d
   ·subst hc
    rw[if_neg (hx c (by simp)).2] at h
    have ih:=Lz x (fun z hz=> hx z (by simp[hz])) h
    simp only[beq_self_eq_true,Bool.true_and,List.length_cons,List.drop_succ_cons]
    exact ih
   ·have: (c==d)=false:=by simpa using hc
    simp[this]
theorem Q1: ∀x∈sgnL,∀c∈x,c≠32∧c≠34:=by decide
theorem Nd {l l':List UInt8} (h:Wd false l l'): ∀L:List (List UInt8),(∀x∈L,∀c∈x,c≠32∧c≠34)→L.find? (fun x=> x.isPrefixOf l)=L.find? (fun x=> x.isPrefixOf l')
 | [],_=> rfl
 | x::L,hL=> by rw[List.find?_cons,List.find?_cons,(Lz x (hL x (by simp)) h).1,Nd h L fun y hy=> hL y (by simp[hy])]
theorem We {l l':List UInt8} (h:Wd false l l'): (D0 l).1=(D0 l').1∧(D0 l).2.1=(D0 l').2.1∧Wd false (D0 l).2.2 (D0 l').2.2:=by
 unfold D0
 rcases TP h rfl with⟨h1,h2⟩ | ⟨c,r,r',h1,h2,hw⟩
 ·rw[h1,h2];exact⟨rfl,rfl, .nil _⟩
 ·rw[h1,h2]
  simp only
  have hc:Wd false (c::r) (c::r'):= .cons false c r r' hw
  split
  ·have:=Jj (p:=b8 vQ) (by decide) (by decide) hc rfl
   exact⟨rfl,this.1,this.2⟩
  split
  ·have:=Jj (p:=b8 lr) (by decide) (by decide) hc rfl
   exact⟨rfl,this.1,this.2⟩
  split
  ·rename_i hq
   rw[if_pos hq] at hw
   rcases Wc _ _ _ [] (Nat.le_refl _) hw with⟨h1,h2⟩ | ⟨t,u,u',h1,h2,h3⟩
   ·rw[h1,h2];exact⟨rfl,rfl, .nil _⟩
   ·rw[h1,h2];exact⟨rfl,rfl,h3⟩
  ·rw[←Nd hc sgnL Q1]
   cases hx:sgnL.find? (fun x=> x.isPrefixOf (c::r)) with
   | none=> exact⟨rfl,rfl,hc⟩
   | some x=>
     refine⟨rfl,rfl,?_⟩
     have hm:=List.mem_of_find?_eq_some hx
     have hp:=List.find?_some hx
     exact(Lz x (Q1 x hm) hc).2 hp
end Go.Gv
