/- A part of the framework and of the walks: W116 W117 C16 W118 V33. -/
import Derived.Test.YtaiffcbkmgfklaaGreatDoorGs44
import Derived.Test.YtaiffcbkmgfklaaGreatDoorGs40
import Derived.Test.YtaiffcbkmgfklaaGreatDoorGs28
import Derived.Test.YtaiffcbkmgfklaaGreatDoorGs17
import Derived.Test.YtaiffcbkmgfklaaGreatDoorGs25
import Derived.Test.YtaiffcbkmgfklaaGreatDoorGs43
import Derived.Test.YtaiffcbkmgfklaaGreatDoorGs42
import Derived.Test.YtaiffcbkmgfklaaGreatDoorGs39
set_option linter.unusedSimpArgs false
set_option linter.unusedVariables false
set_option maxRecDepth 100000

namespace Go.Gv
open Cod (enc dec)
open Go.Proofs
variable {S S0:Nat→Spc}
abbrev JT:Spc:=QD 108 5 (a1 Glob) (.tup []) fj
theorem Hq (h1:S bt=s_function) (h2:S aa=s_wstr) (h3:S bp=s_itoa) (h4:S aP=lY):
 nj aO aN S 108 5 (a1 Glob) (.tup []) fj:=by
 intro b u v s g t ht hl
 have ho: ∃w,Cg g.op=some w:=by
  unfold fj at ht
  obtain⟨w,hw,_⟩:=Option.bind_eq_some_iff.1 ht
  exact⟨w,hw⟩
 have ho:g.op=1∨g.op=4∨g.op=5∨g.op=6∨g.op=7∨g.op=8∨g.op=9∨g.op=10:=by
  obtain⟨w,hw⟩:=ho
  unfold Cg at hw
  by_cases c1:g.op=1
  ·omega
  by_cases c4:g.op=4
  ·omega
  by_cases c5:g.op=5
  ·omega
  by_cases c6:g.op=6
  ·omega
  by_cases c7:g.op=7
  ·omega
  by_cases c8:g.op=8
  ·omega
  by_cases c9:g.op=9
  ·omega
  by_cases c10:g.op=10
  ·omega
  rw[if_neg c1,if_neg c4,if_neg c5,if_neg c6,if_neg c7,if_neg c8,if_neg c9,if_neg c10] at hw
  cases hw
 have hif: ∀n,g.op=n→(if g.op=n then fj g else none)=some t:=fun n h=> by rw[if_pos h];exact ht
 rcases ho with e | e | e | e | e | e | e | e
 ·exact QM h1 h2 h3 h4 b u v s g t (hif _ e) hl
 ·exact QL h1 h2 h3 h4 b u v s g t (hif _ e) hl
 ·exact QK h1 h2 h3 h4 b u v s g t (hif _ e) hl
 ·exact QJ h1 h2 h3 h4 b u v s g t (hif _ e) hl
 ·exact QI h1 h2 h3 h4 b u v s g t (hif _ e) hl
 ·exact QH h1 h2 h3 h4 b u v s g t (hif _ e) hl
 ·exact QG h1 h2 h3 h4 b u v s g t (hif _ e) hl
 ·exact NM h1 h2 h3 h4 b u v s g t (hif _ e) hl
def sj (T:Glob→Option B) (cs:List D):Option B:=if cs.length=11 then(dec (X:=Glob) (.agg cs)).bind T else none
def YA (T:Glob→Option B) (g:Nat):List D→Option B:=if g=dF∨g=dE then sj T else fun _=> none
abbrev tn (T:Glob→Option B):Spc:=QD 108 5 (a1 Glob) (.tup []) T
theorem CZ (T:Glob→Option B) (h1:S bM=tn T):CW iV iI S 108 5 (Hm (sj T)) (.tup []):=by
 intro i b u v s ds t hi hg hl
 have hi': ¬900=i:=fun e=> hi e.symm
 unfold Hm at hg
 split at hg
 ·rename_i j b' cs
  split at hg
  ·rename_i he
   obtain⟨rfl,rfl⟩:=he
   unfold sj at hg
   split at hg
   ·rename_i h13
    obtain⟨p,hd,ht⟩:=Option.bind_eq_some_iff.1 hg
    have htk:List.take 11 cs=cs:=List.take_of_length_le (by omega)
    simp[iV,iI,h1,h13,htk,hd,ht,hi,hi',hl, -Bool.forall_bool, -Bool.exists_bool]
    exact fun u' v'=> CO u' v' (by simp) (by simp[hi'])
   ·cases hg
  ·cases hg
 ·cases hg
theorem CY (T:Glob→Option B) (h1:S bM=tn T):CW iU iH S 108 5 (Hm (sj T)) (.tup []):=by
 intro i b u v s ds t hi hg hl
 have hi': ¬900=i:=fun e=> hi e.symm
 unfold Hm at hg
 split at hg
 ·rename_i j b' cs
  split at hg
  ·rename_i he
   obtain⟨rfl,rfl⟩:=he
   unfold sj at hg
   split at hg
   ·rename_i h13
    obtain⟨p,hd,ht⟩:=Option.bind_eq_some_iff.1 hg
    have htk:List.take 11 cs=cs:=List.take_of_length_le (by omega)
    simp[iU,iH,h1,h13,htk,hd,ht,hi,hi',hl, -Bool.forall_bool, -Bool.exists_bool]
    exact fun u' v'=> CO u' v' (by simp) (by simp[hi'])
   ·cases hg
  ·cases hg
 ·cases hg
theorem lT {T:Glob→Option B} (h3:S aH=pL (YA T)) {g:Nat} (hg:g=dF∨g=dE) {x:Glob} {tk:B} (hx:T x=some tk) {d b:Nat} {s0:B} {pb:Bool} {u2:Bool} {v2:Value} {H:ae} {K:D→ae→Prop}
 (g0:H 0=some (.tbox 108 b [.v (pv b u2), .own 900 v2])) (g9:H 900=some (.row v2 5 1 (bD s0))) (hl:s0.size+ (eX pb tk).size≤mi)
 (hK: ∀u3 v3,K (.tup []) (aq (aq H 900 (some (.row v3 5 1 (bD (s0++eX pb tk))))) 0 (some (.tbox 108 b [.v (pv b u3), .own 900 v3])))):
 (S aH).pt d [.bptr 0 b 0, .v (.bool pb), .clo g [.cptr [.bptr 0 b 0] 0, .cptr [D.v (Value.int IntKind.i64 x.op),D.v (Value.string x.a),D.v (Value.string x.b),D.v (Value.string x.name),D.v (Value.string x.arg),D.v (Value.string x.val),D.v (Value.bool x.fold),
   D.v (Value.int IntKind.i64 x.mn),D.v (Value.int IntKind.i64 x.mx),D.list 1 (List.map enc x.args),D.list 11 (List.map enc x.kids)] 0]] H K:=by
 rw[h3]
 refine PQ _ _ _ _ _ _ _ _ _ ?_
 have hct:YA T g [D.v (Value.int IntKind.i64 x.op),D.v (Value.string x.a),D.v (Value.string x.b),D.v (Value.string x.name),D.v (Value.string x.arg),D.v (Value.string x.val),D.v (Value.bool x.fold),
  D.v (Value.int IntKind.i64 x.mn),D.v (Value.int IntKind.i64 x.mx),D.list 1 (List.map enc x.args),D.list 11 (List.map enc x.kids)]=some tk:=by
  unfold YA
  rw[if_pos hg]
  simp[sj,hx]
 rw[hct,g0,g9]
 simp[-Bool.forall_bool, -Bool.exists_bool]
 exact⟨hl,hK⟩
theorem Ho (T:Glob→Option B) (h1:S bQ=qe) (h2:S aa=s_wstr) (h3:S fH=JT) (h4:S aH=pL (YA T)):
 nj cG cD S 108 5 (a1 Glob) (.tup []) (ka T):=by
 rintro b u v s ⟨op,a,b',name,arg,val,fold,mn,mx,args,kids⟩ t ht hl
 have hL:=jf
 unfold ka at ht
 simp only at ht
 split at ht
 ·rename_i e
  subst e
  obtain⟨q,hq,ht⟩:=Option.map_eq_some_iff.1 ht
  subst ht
  simp only[ag,ab] at hl
  simp at hl
  simp[cG,cD,h1,h2,hq,ag,ab, -Bool.forall_bool, -Bool.exists_bool]
  repeat' first | (with_reducible apply And.intro) | intro _
  all_goals first | omega | (rename_i u' v';exact eI u' v' (by simp) (by simp[ByteArray.append_assoc]))
 rename_i n2
 split at ht
 ·rename_i e
  subst e
  obtain rfl:=Option.some.inj ht
  simp only[ag,ab] at hl
  simp at hl
  simp[cG,cD,h2,ag,ab, -Bool.forall_bool, -Bool.exists_bool]
  repeat' first | (with_reducible apply And.intro) | intro _
  all_goals first | omega | (rename_i u' v';exact eI u' v' (by simp) (by simp[ByteArray.append_assoc]))
 rename_i n3
 split at ht
 ·rename_i e
  subst e
  unfold WR at ht
  split at ht
  ·rename_i k
   obtain⟨q,hq,ht⟩:=Option.map_eq_some_iff.1 ht
   subst ht
   simp only[ag,ab] at hl
   simp at hl
   simp[cG,cD,h2,ag,ab, -Bool.forall_bool, -Bool.exists_bool]
   have z33: (⟨#[33]⟩:B).size=1:=rfl
   refine⟨by omega,fun u1 v1=> ⟨fun h8=> ?_,fun h8=> ?_⟩⟩
   ·have e: (decide (k.op=12) || decide (k.op=13))=decide (k.op=12):=by simp[h8]
    rw[e] at hl ⊢
    exact lT h4 (.inl rfl) hq (s0:=s++ ⟨#[33]⟩) (u2:=u1) (v2:=v1) (by simp) (by simp) (by rw[ag,z33];omega) fun u3 v3=> eI u3 v3 (by simp) (by simp[ByteArray.append_assoc])
   ·have e: (decide (k.op=12) || decide (k.op=13))=true:=by simp[h8]
    rw[e] at hl ⊢
    exact lT h4 (.inl rfl) hq (s0:=s++ ⟨#[33]⟩) (u2:=u1) (v2:=v1) (by simp) (by simp) (by rw[ag,z33];omega) fun u3 v3=> eI u3 v3 (by simp) (by simp[ByteArray.append_assoc])
  ·cases ht
 rename_i n11
 split at ht
 ·rename_i h78
  rcases h78 with rfl | rfl
  ·obtain⟨sp,hsp⟩: ∃sp:B,sp=⟨#[32,38,32]⟩:=⟨_,rfl⟩
   have ht:dn sp (gd 12) T 0 kids=some t:=by rw[hsp];exact ht
   have hsz:sp.size=3:=by rw[hsp];rfl
   simp[cG,cD, -Bool.forall_bool, -Bool.exists_bool]
   intro hkl
   refine aw (X:=Bool×Value×B×B) [2,3,76] [] kids.length (fun k x=> dn sp (gd 12) T k (kids.drop k)=some x.2.2.2∧x.2.2.1++x.2.2.2=t) (fun x=> []) (fun x=> [(0, .tbox 108 b [.v (pv b x.1), .own 900 x.2.1]),(900, .row x.2.1 5 1 (bD (s++x.2.2.1)))]) (u,v,E0,t) (by simp) (by simp) (by omega) (by simp) (by simp) ?_ (by simp) (by simp[E0,aQ]) ?_ ?_
   ·exact⟨ht,by simp[E0,dr]⟩
   ·rintro k ⟨u1,v1,acc,r⟩ hk ⟨q1,q2⟩
    simp only at q1 q2
    obtain⟨x,hx⟩:=cz hk
    obtain⟨_,hgx⟩:=List.getElem?_eq_some_iff.1 hx
    obtain⟨tk,r',c1,c2,rfl⟩:=j8 hx q1
    have hl2:=hl
    rw[←q2] at hl2
    simp only[ag] at hl2
    have key: ∀ (pb:Bool) (s1:B),pb=gd 12 x→s1=acc++ (if k=0 then E0 else sp)→(s++s1).size+ (eX pb tk).size≤mi∧ ∃y,dn sp (gd 12) T (k+1) (List.drop (k+1) kids)=some y∧(s1++eX pb tk) ++y=t:=by
     rintro pb s1 rfl rfl
     refine⟨by rw[ag,ag];omega,r',c2,?_⟩
     rw[←q2]
     simp only[ByteArray.append_assoc]
    by_cases hk0:k=0
    ·have hk1: ¬0 < k:=by omega
     have ks:=fun pb e=> key pb acc e (by rw[if_pos hk0,E0,aQ])
     simp[hk,hx,hgx,h2,hk1,ab, -Bool.forall_bool, -Bool.exists_bool]
     refine⟨fun h8=> ⟨fun h7=> ?_,fun h7=> ?_⟩,fun h8=> ?_⟩
     ·have kk:=ks true (by simp[gd,h7,h8])
      exact lT h4 (.inr rfl) c1 (s0:=s++acc) (u2:=u1) (v2:=v1) (by simp) (by simp) kk.1 fun u3 v3=> ⟨u3,v3,acc++eX true tk,kk.2, .inl (by simp), .inl (by simp[ByteArray.append_assoc])⟩
     ·have kk:=ks false (by simp[gd,h7,h8])
      exact lT h4 (.inr rfl) c1 (s0:=s++acc) (u2:=u1) (v2:=v1) (by simp) (by simp) kk.1 fun u3 v3=> ⟨u3,v3,acc++eX false tk,kk.2, .inl (by simp), .inl (by simp[ByteArray.append_assoc])⟩
     ·have kk:=ks true (by simp[gd,h8])
      exact lT h4 (.inr rfl) c1 (s0:=s++acc) (u2:=u1) (v2:=v1) (by simp) (by simp) kk.1 fun u3 v3=> ⟨u3,v3,acc++eX true tk,kk.2, .inl (by simp), .inl (by simp[ByteArray.append_assoc])⟩
    ·have hk1:0 < k:=by omega
     rw[if_neg hk0,hsz] at hl2
     have ks:=fun pb e=> key pb (acc++sp) e (by rw[if_neg hk0])
     simp[hk,hx,hgx,h2,hk1,←hsp,hsz,ab, -Bool.forall_bool, -Bool.exists_bool]
     refine⟨by simp only[InR];omega,by omega,fun u2 v2=> ⟨fun h8=> ⟨fun h7=> ?_,fun h7=> ?_⟩,fun h8=> ?_⟩⟩
     ·have kk:=ks true (by simp[gd,h7,h8])
      exact lT h4 (.inr rfl) c1 (s0:=s++ (acc++sp)) (u2:=u2) (v2:=v2) (by simp) (by simp[ByteArray.append_assoc]) kk.1 fun u3 v3=> ⟨u3,v3,acc++sp++eX true tk,kk.2, .inl (by simp), .inl (by simp[ByteArray.append_assoc])⟩
     ·have kk:=ks false (by simp[gd,h7,h8])
      exact lT h4 (.inr rfl) c1 (s0:=s++ (acc++sp)) (u2:=u2) (v2:=v2) (by simp) (by simp[ByteArray.append_assoc]) kk.1 fun u3 v3=> ⟨u3,v3,acc++sp++eX false tk,kk.2, .inl (by simp), .inl (by simp[ByteArray.append_assoc])⟩
     ·have kk:=ks true (by simp[gd,h8])
      exact lT h4 (.inr rfl) c1 (s0:=s++ (acc++sp)) (u2:=u2) (v2:=v2) (by simp) (by simp[ByteArray.append_assoc]) kk.1 fun u3 v3=> ⟨u3,v3,acc++sp++eX true tk,kk.2, .inl (by simp), .inl (by simp[ByteArray.append_assoc])⟩
   ·rintro⟨u1,v1,acc,r⟩ ⟨q1,q2⟩
    simp only at q1 q2
    simp
    rw[List.drop_length,dn] at q1
    obtain rfl:=Option.some.inj q1
    refine eI u1 v1 (by simp) ?_
    rw[←q2]
    simp[E0,aQ]
  ·obtain⟨sp,hsp⟩: ∃sp:B,sp=⟨#[32,124,32]⟩:=⟨_,rfl⟩
   have ht:dn sp (gd 13) T 0 kids=some t:=by rw[hsp];exact ht
   have hsz:sp.size=3:=by rw[hsp];rfl
   simp[cG,cD, -Bool.forall_bool, -Bool.exists_bool]
   intro hkl
   refine aw (X:=Bool×Value×B×B) [2,3,76] [] kids.length (fun k x=> dn sp (gd 13) T k (kids.drop k)=some x.2.2.2∧x.2.2.1++x.2.2.2=t) (fun x=> []) (fun x=> [(0, .tbox 108 b [.v (pv b x.1), .own 900 x.2.1]),(900, .row x.2.1 5 1 (bD (s++x.2.2.1)))]) (u,v,E0,t) (by simp) (by simp) (by omega) (by simp) (by simp) ?_ (by simp) (by simp[E0,aQ]) ?_ ?_
   ·exact⟨ht,by simp[E0,dr]⟩
   ·rintro k ⟨u1,v1,acc,r⟩ hk ⟨q1,q2⟩
    simp only at q1 q2
    obtain⟨x,hx⟩:=cz hk
    obtain⟨_,hgx⟩:=List.getElem?_eq_some_iff.1 hx
    obtain⟨tk,r',c1,c2,rfl⟩:=j8 hx q1
    have hl2:=hl
    rw[←q2] at hl2
    simp only[ag] at hl2
    have key: ∀ (pb:Bool) (s1:B),pb=gd 13 x→s1=acc++ (if k=0 then E0 else sp)→(s++s1).size+ (eX pb tk).size≤mi∧ ∃y,dn sp (gd 13) T (k+1) (List.drop (k+1) kids)=some y∧(s1++eX pb tk) ++y=t:=by
     rintro pb s1 rfl rfl
     refine⟨by rw[ag,ag];omega,r',c2,?_⟩
     rw[←q2]
     simp only[ByteArray.append_assoc]
    by_cases hk0:k=0
    ·have hk1: ¬0 < k:=by omega
     have ks:=fun pb e=> key pb acc e (by rw[if_pos hk0,E0,aQ])
     simp[hk,hx,hgx,h2,hk1,ab, -Bool.forall_bool, -Bool.exists_bool]
     refine⟨fun h8=> ?_,fun h8=> ?_⟩
     ·have kk:=ks false (by simp[gd,h8])
      exact lT h4 (.inr rfl) c1 (s0:=s++acc) (u2:=u1) (v2:=v1) (by simp) (by simp) kk.1 fun u3 v3=> ⟨u3,v3,acc++eX false tk,kk.2, .inl (by simp), .inl (by simp[ByteArray.append_assoc])⟩
     ·have kk:=ks true (by simp[gd,h8])
      exact lT h4 (.inr rfl) c1 (s0:=s++acc) (u2:=u1) (v2:=v1) (by simp) (by simp) kk.1 fun u3 v3=> ⟨u3,v3,acc++eX true tk,kk.2, .inl (by simp), .inl (by simp[ByteArray.append_assoc])⟩
    ·have hk1:0 < k:=by omega
     rw[if_neg hk0,hsz] at hl2
     have ks:=fun pb e=> key pb (acc++sp) e (by rw[if_neg hk0])
     simp[hk,hx,hgx,h2,hk1,←hsp,hsz,ab, -Bool.forall_bool, -Bool.exists_bool]
     refine⟨by simp only[InR];omega,by omega,fun u2 v2=> ⟨fun h8=> ?_,fun h8=> ?_⟩⟩
     ·have kk:=ks false (by simp[gd,h8])
      exact lT h4 (.inr rfl) c1 (s0:=s++ (acc++sp)) (u2:=u2) (v2:=v2) (by simp) (by simp[ByteArray.append_assoc]) kk.1 fun u3 v3=> ⟨u3,v3,acc++sp++eX false tk,kk.2, .inl (by simp), .inl (by simp[ByteArray.append_assoc])⟩
     ·have kk:=ks true (by simp[gd,h8])
      exact lT h4 (.inr rfl) c1 (s0:=s++ (acc++sp)) (u2:=u2) (v2:=v2) (by simp) (by simp[ByteArray.append_assoc]) kk.1 fun u3 v3=> ⟨u3,v3,acc++sp++eX true tk,kk.2, .inl (by simp), .inl (by simp[ByteArray.append_assoc])⟩
   ·rintro⟨u1,v1,acc,r⟩ ⟨q1,q2⟩
    simp only at q1 q2
    simp
    rw[List.drop_length,dn] at q1
    obtain rfl:=Option.some.inj q1
    refine eI u1 v1 (by simp) ?_
    rw[←q2]
    simp[E0,aQ]
 ·rename_i n1213
  have m12: ¬op=12:=by omega
  have m13: ¬op=13:=by omega
  simp[cG,cD,h3,n2,n3,n11,m12,m13,ht,hl, -Bool.forall_bool, -Bool.exists_bool]
  exact fun u' v'=> eI u' v' (by simp) (by simp)
end Go.Gv

namespace Go.Gv
open Cod (enc dec)
variable {S S0:Nat→Spc}
def qcl (n:Nat) (x:Cond×Int×Int):Prop:=fk x.1≤n∧0≤x.2.1∧x.2.1+mX x.1≤60∧0≤x.2.2∧x.2.2+fk x.1≤1000∧fk x.1≤60
abbrev Fe (n:Nat):Spc:=cY (a3 Cond Int Int) (qcl n) (DX (Y:=Int) (Z:=Int)) fun x y=> y=(x.2.1+mX x.1,x.2.2+fk x.1 -1)
abbrev s_cmeasA:Spc:=cY (a3 Cond Int Int) (fun x=> ∃n,qcl n x) (DX (Y:=Int) (Z:=Int)) fun x y=> y=(x.2.1+mX x.1,x.2.2+fk x.1 -1)
theorem vn (n:Nat) (h1:S bF=Fe n):Walk ff eY S (a3 Cond Int Int) (qcl (n+1)) (DX (Y:=Int) (Z:=Int)) fun x y=> y=(x.2.1+mX x.1,x.2.2+fk x.1 -1):=by
 rintro⟨x,nodes,deep⟩ ⟨hn,h0,h2,h3,h4,h5⟩
 simp only at hn h0 h2 h3 h4 h5
 have hd1:=uC x
 have hn1:=D7 x
 simp[ff,eY]
 refine⟨by simp only[InR];omega,fun hkl=> ?_⟩
 refine aw (X:=Int×Int) [2,17] [] x.kids.length (fun k z=> z.1=nodes+1+ (jG (x.kids.take k):Int)∧z.2=deep+ (jH (x.kids.take k):Int)) (fun z=> [(1,enc z.1),(8,enc z.2)]) (fun _=> []) (nodes+1,deep) (by simp) (by simp) (by omega) (by simp) (by simp) (by simp[jG,jH]) (by simp) (by simp) ?_ ?_
 ·rintro k ⟨m,d⟩ hk ⟨e1,e2⟩
  simp only at e1 e2
  obtain⟨y,hy⟩:=cz hk
  obtain⟨_,hgy⟩:=List.getElem?_eq_some_iff.1 hy
  have hm:=IS hy
  have hd:=xn (cn hy)
  have hp:qcl n (y,m,deep+1):=⟨by show fk y≤n;omega,by show 0≤m;omega,by show m+mX y≤60;omega,by show 0≤deep+1;omega,by show deep+1+fk y≤1000;omega,by show fk y≤60;omega⟩
  have hm60: ¬60 < m:=by have:=D7 y;omega
  simp[h1,hk,hy,hgy,hp,hm60]
  exact⟨by simp only[InR];omega,by omega,by rw[hm.2.1,e2];omega⟩
 ·rintro⟨m,d⟩ ⟨e1,e2⟩
  simp only at e1 e2
  rw[List.take_length] at e1 e2
  simp
  exact⟨by omega,by omega⟩
abbrev Bk:Spc:=cY (a1 Cond) (fun x=> ∃lb m,GC lb m x) (enc (X:=Bool)) fun x y=> y=true
theorem yy:Walk bB bA S (a1 Cond) (fun x=> ∃lb m,GC lb m x) (enc (X:=Bool)) fun x y=> y=true:=by
 rintro x ⟨lb,m,h⟩
 cases h with
 | any=> simp[bB,bA,E0, -Bool.forall_bool, -Bool.exists_bool]
 | top v f h=> simp[bB,bA,E0, -Bool.forall_bool, -Bool.exists_bool]
 | inner c h=>
   cases h with
   | atom n c h=>
     cases h with
     | val n v f h1 h2=> simp[bB,bA,E0, -Bool.forall_bool, -Bool.exists_bool]
     | feat v h=> simp[bB,bA,E0, -Bool.forall_bool, -Bool.exists_bool]
     | same n l a h1 h2 h3=> simp[bB,bA,E0, -Bool.forall_bool, -Bool.exists_bool]
     | reg n h=> simp[bB,bA,E0, -Bool.forall_bool, -Bool.exists_bool]
     | regk n v h1 h2=> simp[bB,bA,E0,t_n, -Bool.forall_bool, -Bool.exists_bool]
   | not n k h=> simp[bB,bA,E0, -Bool.forall_bool, -Bool.exists_bool]
   | two n op a b ho h1 h2=> rcases ho with rfl | rfl <;> simp[bB,bA,E0, -Bool.forall_bool, -Bool.exists_bool]
abbrev yS:Spc:=cY (a1 Cond) (fun x=> ∃lb m,GC lb m x) (enc (X:=Int)) fun x y=> y=0
theorem vo (h1:S dB=Bk):Walk fg eZ S (a1 Cond) (fun x=> ∃lb m,GC lb m x) (enc (X:=Int)) fun x y=> y=0:=by
 rintro x hx
 simp[fg,eZ,h1,hx, -Bool.forall_bool]
def qcq (n:Nat) (x:Cond):Prop:=fk x≤n∧ ∃lb m,GC lb m x
abbrev Fb (n:Nat):Spc:=cY (aE Cond (aD a0)) (fun x=> qcq n x.1∧x.2.1= .clo bu []) (enc (X:=Int)) fun x y=> y=0
abbrev s_cwalkA:Spc:=cY (aE Cond (aD a0)) (fun x=> (∃n,qcq n x.1)∧x.2.1= .clo bu []) (enc (X:=Int)) fun x y=> y=0
theorem zy (n:Nat) (h1:S bu=yS) (h2:S ca=Fb n):Walk hJ gO S (aE Cond (aD a0)) (fun x=> qcq (n+1) x.1∧x.2.1= .clo bu []) (enc (X:=Int)) fun x y=> y=0:=by
 rintro⟨x,d,⟨⟩⟩ ⟨⟨hn,hx⟩,hd⟩
 simp only at hn hx hd
 subst hd
 have p5: ∀k∈x.kids,qcq n k:=fun k hk=> by
  obtain⟨lb,m,h⟩:=hx
  obtain⟨m',h1,h2⟩:=UN h hk
  have:=G6 hk
  exact⟨by omega,lb,m',h2⟩
 simp[hJ,gO,h1,hx, -Bool.forall_bool, -Bool.exists_bool]
 intro hkl
 refine aw (X:=Unit) [1,16] [] x.kids.length (fun k _=> True) (fun _=> []) (fun _=> []) () (by simp) (by simp) (by omega) (by simp) (by simp) (by simp) (by simp) (by simp) ?_ ?_
 ·rintro k -hk -
  obtain⟨y,hy⟩:=cz hk
  obtain⟨_,hgy⟩:=List.getElem?_eq_some_iff.1 hy
  have hp:=p5 y (cn hy)
  simp[h2,hk,hy,hgy,hp, -Bool.forall_bool, -Bool.exists_bool]
 ·rintro - -
  simp
abbrev Bm:Spc:=cY (a1 Cond) (fun x=> ∃lb m,m≤2∧GC lb m x) (enc (X:=Bool)) fun x y=> y=true
theorem yz (h1:S bF=s_cmeasA) (h2:S ca=s_cwalkA):Walk gn gg S (a1 Cond) (fun x=> ∃lb m,m≤2∧GC lb m x) (enc (X:=Bool)) fun x y=> y=true:=by
 rintro x ⟨lb,m,hm,h⟩
 have hnum:=UM h
 have hpw:2^ (m+1)≤2^3:=Nat.pow_le_pow_right (by omega) (by omega)
 have p1: ∃n,qcl n (x,0,1):=⟨fk x,Nat.le_refl _,Int.le_refl _,by show(0:Int) +mX x≤60;omega,by show(0:Int)≤1;omega,by show(1:Int) +fk x≤1000;omega,by show fk x≤60;omega⟩
 have p2: ∃n,qcq n x:=⟨fk x,Nat.le_refl _,lb,m,h⟩
 have p3: ¬ (60:Int) < mX x:=by omega
 have p4: ¬ (20:Int) < fk x:=by omega
 have p5: (mX x:Int)≤60:=by omega
 have p6: (1:Int) +fk x -1≤20:=by omega
 simp[gn,gg,h1,h2,p1,p2,p3,p4,p5,p6, -Bool.forall_bool, -Bool.exists_bool]
end Go.Gv

namespace Go.Gv
open Go.Proofs
def pG:CC:=oX [oB 2 (.box au true (oT 0)),oB 3 (.box sG true (oT 1)),oB 4 (.mv (.const ob))] [2,3] [] (oX [oC 5 1 3,oD 6 11 2,oB 7 (.callv (oT 5) [oT 6]),oA 8 7,oH 9 8 (.faddr 10 (oT 2)),oH 10 8 (.load false 1 (oT 9)),oH 11 8 (.clo fB [oT 3]),oH 12 8 (.call cf [oT 10,oT 11]),
 oH 13 8 (.not (oT 12)),oB 14 (.pick (oT 8) (oT 13) (.const ob)),oA 4 14] [4] [] (.ret))
def pu:List aK:= [.tmp 4]
def DR:List Nat:= [3,2]
theorem DF:aS Tryz.prog eV DR pG pu 15:=aA ay (by kernel_rfl)
end Go.Gv

namespace Go.Gv
open Cod (enc dec)
variable {S S0:Nat→Spc}
abbrev Po (x:Glob):Prop:= ∃lb m,GG lb m x
abbrev Ke:Spc:=cY (a1 Glob) Po (enc (X:=Bool)) fun x y=> y=true
set_option maxHeartbeats 1000000 in
theorem HO:Walk cU cQ S (a1 Glob) Po (enc (X:=Bool)) fun x y=> y=true:=by
 rintro x ⟨lb,m,h⟩
 cases h with
 | bound n a h=> simp[cU,cQ,E0, -Bool.forall_bool, -Bool.exists_bool]
 | val n a v f h1 h2=> simp[cU,cQ,E0, -Bool.forall_bool, -Bool.exists_bool]
 | same n a b g h1 h2 h3=> simp[cU,cQ,E0, -Bool.forall_bool, -Bool.exists_bool]
 | dist n a b mn mx h1 h2 h3 h4 h5 h6=> simp[cU,cQ,E0, -Bool.forall_bool, -Bool.exists_bool]
 | reg n a b t h1 h2 h3=> simp[cU,cQ,E0, -Bool.forall_bool, -Bool.exists_bool]
 | path n a b l h1 h2 h3 h4=> simp[cU,cQ,E0, -Bool.forall_bool, -Bool.exists_bool]
 | node n a b t h1 h2 h3=> simp[cU,cQ,E0, -Bool.forall_bool, -Bool.exists_bool]
 | depth n a mn mx h1 h3 h4 h5 h6=> simp[cU,cQ,E0, -Bool.forall_bool, -Bool.exists_bool]
 | head n op a b ho h1 h2=> rcases ho with rfl | rfl <;> simp[cU,cQ,E0, -Bool.forall_bool, -Bool.exists_bool]
 | not n k h=> simp[cU,cQ,E0, -Bool.forall_bool, -Bool.exists_bool]
 | two n op a b ho h1 h2=> rcases ho with rfl | rfl <;> simp[cU,cQ,E0, -Bool.forall_bool, -Bool.exists_bool]
def qcm (n:Nat) (x:Glob×Int×Int):Prop:=gh x.1≤n∧0≤x.2.1∧x.2.1+ro x.1≤60∧0≤x.2.2∧x.2.2+gh x.1≤1000∧gh x.1≤60
abbrev E4 (n:Nat):Spc:=cY (a3 Glob Int Int) (qcm n) (DX (Y:=Int) (Z:=Int)) fun x y=> y=(x.2.1+ro x.1,x.2.2+gh x.1 -1)
abbrev s_gmeasA:Spc:=cY (a3 Glob Int Int) (fun x=> ∃n,qcm n x) (DX (Y:=Int) (Z:=Int)) fun x y=> y=(x.2.1+ro x.1,x.2.2+gh x.1 -1)
theorem AX (n:Nat) (h1:S dT=E4 n):Walk nU nD S (a3 Glob Int Int) (qcm (n+1)) (DX (Y:=Int) (Z:=Int)) fun x y=> y=(x.2.1+ro x.1,x.2.2+gh x.1 -1):=by
 rintro⟨x,nodes,deep⟩ ⟨hn,h0,h2,h3,h4,h5⟩
 simp only at hn h0 h2 h3 h4 h5
 have hd1:=Az x
 have hn1:=KB x
 simp[nU,nD]
 refine⟨by simp only[InR];omega,fun hkl=> ?_⟩
 refine aw (X:=Int×Int) [2,17] [] x.kids.length (fun k z=> z.1=nodes+1+ (kQ (x.kids.take k):Int)∧z.2=deep+ (kU (x.kids.take k):Int)) (fun z=> [(1,enc z.1),(8,enc z.2)]) (fun _=> []) (nodes+1,deep) (by simp) (by simp) (by omega) (by simp) (by simp) (by simp[kQ,kU]) (by simp) (by simp) ?_ ?_
 ·rintro k ⟨m,d⟩ hk ⟨e1,e2⟩
  simp only at e1 e2
  obtain⟨y,hy⟩:=cz hk
  obtain⟨_,hgy⟩:=List.getElem?_eq_some_iff.1 hy
  have hm:=IR hy
  have hd:=xi (cn hy)
  have hp:qcm n (y,m,deep+1):=⟨by show gh y≤n;omega,by show 0≤m;omega,by show m+ro y≤60;omega,by show 0≤deep+1;omega,by show deep+1+gh y≤1000;omega,by show gh y≤60;omega⟩
  have hm60: ¬60 < m:=by have:=KB y;omega
  simp[h1,hk,hy,hgy,hp,hm60]
  exact⟨by simp only[InR];omega,by omega,by rw[hm.2.1,e2];omega⟩
 ·rintro⟨m,d⟩ ⟨e1,e2⟩
  simp only at e1 e2
  rw[List.take_length] at e1 e2
  simp
  exact⟨by omega,by omega⟩
theorem UI (x:Glob):D.agg [D.v (Value.int IntKind.i64 x.op),D.v (Value.string x.a),D.v (Value.string x.b),D.v (Value.string x.name),D.v (Value.string x.arg),D.v (Value.string x.val),D.v (Value.bool x.fold),D.v (Value.int IntKind.i64 x.mn),D.v (Value.int IntKind.i64 x.mx),D.list 1 (List.map enc x.args),D.list 11 (List.map enc x.kids)]=enc x:=by simp
def Hj (S0:Nat→Spc) (x:List Glob×D×Unit):Prop:=FunOn S0 x.2.1 x.1 fun _=> false
abbrev Tm (S0:Nat→Spc):Spc:=cY (aE (List Glob) (aD a0)) (Hj S0) (enc (X:=Int)) fun x y=> y= -1
theorem ou:Walk eO eG S (aE (List Glob) (aD a0)) (Hj S) (enc (X:=Int)) fun x y=> y= -1:=by
 rintro⟨l,d,⟨⟩⟩ hp
 replace hp:FunOn S d l fun _=> false:=hp
 simp[eO,eG, -Bool.forall_bool, -Bool.exists_bool]
 intro hkl
 refine aw (X:=Unit) [0,1] [] l.length (fun k _=> True) (fun _=> []) (fun _=> []) () (by simp) (by simp) (by omega) (by simp) (by simp) (by simp) (by simp) (by simp) ?_ ?_
 ·rintro k -hk -
  obtain⟨y,hy⟩:=cz hk
  obtain⟨_,hgy⟩:=List.getElem?_eq_some_iff.1 hy
  simp[hk,hy,hgy, -Bool.forall_bool, -Bool.exists_bool]
  rw[UI y]
  refine hp.useB y (cn hy) fun b hb=> ?_
  obtain rfl:b=false:=hb _ hp
  simp
 ·rintro - -
  simp
abbrev Oj (S0:Nat→Spc):Spc:=cY (aE (List Glob) (aD a0)) (Hj S0) (enc (X:=Bool)) fun x y=> y=false
theorem mD (h1:S dz=Tm S0):Walk d7 d5 S (aE (List Glob) (aD a0)) (Hj S0) (enc (X:=Bool)) fun x y=> y=false:=by
 rintro⟨l,d,⟨⟩⟩ hp
 simp[d7,d5,h1,hp, -Bool.forall_bool]
def Z2 (n:Nat) (x:Glob):Prop:=gh x≤n∧Po x
abbrev Fg (n:Nat):Spc:=cY (aE Glob (aD a0)) (fun x=> Z2 n x.1∧x.2.1= .clo dU []) (enc (X:=Bool)) fun x y=> y=true
abbrev s_atomsA:Spc:=cY (aE Glob (aD a0)) (fun x=> (∃n,Z2 n x.1)∧x.2.1= .clo dU []) (enc (X:=Bool)) fun x y=> y=true
abbrev Fh (n:Nat):Spc:=cY (aE Glob (aD a0)) (fun x=> Z2 n x.1∧x.2.1= .cptr [.clo dU []] 0) (enc (X:=Bool)) fun x y=> y=false
theorem Di (n:Nat) (h1:S eV=Fg n):Walk nW nF S (aE Glob (aD a0)) (fun x=> Z2 n x.1∧x.2.1= .cptr [.clo dU []] 0) (enc (X:=Bool)) fun x y=> y=false:=by
 rintro⟨x,d,⟨⟩⟩ ⟨hx,hd⟩
 simp only at hx hd
 subst hd
 simp[nW,nF,h1,hx, -Bool.forall_bool, -Bool.exists_bool]
theorem HM (n:Nat) (h0:S0 fB=Fh n) (h1:S cf=Oj S0) (h2:S dU=Ke):Walk pG pu S (aE Glob (aD a0)) (fun x=> Z2 (n+1) x.1∧x.2.1= .clo dU []) (enc (X:=Bool)) fun x y=> y=true:=by
 rintro⟨x,d,⟨⟩⟩ ⟨⟨hn,hx⟩,hd⟩
 simp only at hn hx hd
 subst hd
 have hk: ∀k∈x.kids,Z2 n k:=fun k hk=> by
  have:=GH hk
  obtain⟨lb,m,h⟩:=hx
  obtain⟨m',_,h2⟩:=UK h hk
  exact⟨by omega,lb,m',h2⟩
 have hO:FunOn S0 (.clo fB [.cptr [.clo dU []] 0]) x.kids fun _=> false:=
  Ca h0 (fun k hk'=> ⟨hk k hk',rfl⟩) (fun _ _ y hy=> hy)
 have hP:Hj S0 (x.kids, .clo fB [.cptr [.clo dU []] 0],()):=hO
 simp[pG,pu,h1,h2,hx,hP, -Bool.forall_bool, -Bool.exists_bool]
abbrev J2:Spc:=cY (a1 Glob) (fun g=> g=GlobE∨Po g) (enc (X:=Bool)) fun x y=> y=decide (x.op=0)
set_option maxHeartbeats 1000000 in
theorem HE:Walk jq jn S (a1 Glob) (fun g=> g=GlobE∨Po g) (enc (X:=Bool)) fun x y=> y=decide (x.op=0):=by
 rintro x (rfl | ⟨lb,m,h⟩)
 ·simp[jq,jn,GlobE,E0, -Bool.forall_bool]
 ·have:x.op≠0:=by cases h <;> simp <;> omega
  simp[jq,jn,this, -Bool.forall_bool, -Bool.exists_bool]
abbrev Fi:Spc:=cY (a1 Glob) (fun g=> g=GlobE∨ ∃lb,GG lb 2 g) (enc (X:=Bool)) fun x y=> y=true
theorem Ey (h1:S gU=J2) (h2:S dT=s_gmeasA) (h3:S eV=s_atomsA):Walk ix iq S (a1 Glob) (fun g=> g=GlobE∨ ∃lb,GG lb 2 g) (enc (X:=Bool)) fun x y=> y=true:=by
 rintro x (rfl | ⟨lb,h⟩)
 ·have p0:GlobE=GlobE∨Po GlobE:= .inl rfl
  have e0:GlobE.op=0:=rfl
  simp[ix,iq,h1,p0,e0, -Bool.forall_bool, -Bool.exists_bool]
  exact .inl rfl
 ·have hnum:=UJ h
  have p0:x=GlobE∨Po x:= .inr ⟨lb,2,h⟩
  have hop:x.op≠0:=by cases h <;> simp <;> omega
  have p1: ∃n,qcm n (x,0,1):=⟨gh x,Nat.le_refl _,Int.le_refl _,by show(0:Int) +ro x≤60;omega,by show(0:Int)≤1;omega,by show(1:Int) +gh x≤1000;omega,by show gh x≤60;omega⟩
  have p2: ∃n,Z2 n x:=⟨gh x,Nat.le_refl _,lb,2,h⟩
  have p5: (ro x:Int)≤60:=by omega
  have p6: (1:Int) +gh x -1≤20:=by omega
  simp[ix,iq,h1,h2,h3,p0,hop,p1,p2,p5,p6, -Bool.forall_bool, -Bool.exists_bool]
end Go.Gv

namespace Go.Gv
structure At (s:Rdr) (l:List UInt8):Prop where
 kind:s.kind=(oW l).1
 text:s.text.data.toList=(oW l).2.1
 rng: (0≤s.fin∧s.fin≤s.txt.size)∧s.txt.size≤100000
 rest:tD s.txt s.fin.toNat=(oW l).2.2
def GO {Y:Type} (E:Out (Rdr×Y)) (l:List UInt8) (y:Y):Prop:= ∃s',E= .ok (s',y)∧At s' l
def GO1 (E:Out Rdr) (l:List UInt8):Prop:= ∃s',E= .ok s'∧At s' l
def Lx (l:List UInt8) (k:Int) (t:B) (r:List UInt8):Prop:=oW l=(k,t.data.toList,r)
theorem XS {s:Rdr} {l l':List UInt8} (h:At s l) (e:oW l=oW l'):At s l':=⟨by rw[←e];exact h.kind,by rw[←e];exact h.text,h.rng,by rw[←e];exact h.rest⟩
theorem uj {s:Rdr} {l:List UInt8} {k:Int} {t:B} {r:List UInt8} (h:At s l) (hl:Lx l k t r):GO1 (ir s) r:=by
 have e:=Eb (s:=s.txt) (i:=s.fin.toNat) (by have:=h.rng;omega)
 have g:=wo (s:=s.txt) (i:=s.fin.toNat) (by have:=h.rng;omega)
 have hr:tD s.txt s.fin.toNat=r:=by rw[h.rest,hl]
 rw[hr] at e
 unfold ir wm
 rw[if_pos h.rng]
 exact⟨_,rfl,e.1,e.2.1,⟨⟨g.2.2.1,g.2.2.2.1⟩,h.rng.2⟩,e.2.2⟩
theorem ci {s:Rdr} {l:List UInt8} {k:Int} {t:B} {r:List UInt8} (h:At s l) (hl:Lx l k t r) (x:B):ox s x=(decide (k=5) && decide (t=x)):=by
 have e1:s.kind=k:=by rw[h.kind,hl]
 have e2:s.text=t:=F1 (by rw[h.text,hl])
 unfold ox
 rw[e1,e2]
theorem fm {s:Rdr} {l:List UInt8} {k:Int} {t:B} {r:List UInt8} (h:At s l) (hl:Lx l k t r):s.kind=k:=by rw[h.kind,hl]
theorem Ef {s:Rdr} {l:List UInt8} {k:Int} {t:B} {r:List UInt8} (h:At s l) (hl:Lx l k t r):s.text=t:=F1 (by rw[h.text,hl])
theorem nh {s:Rdr} {l:List UInt8} {k:Int} {t:B} {r:List UInt8} (h:At s l) (hl:Lx l k t r) (ws:List B):rB s ws=(decide (k=2) && ws.any (fun z=> decide (t=z))):=by
 unfold rB
 rw[fm h hl,Ef h hl]
section
variable {Y Z:Type}
theorem GO.bind {E:Out (Rdr×Y)} {l l':List UInt8} {y:Y} {k:Rdr×Y→Out (Rdr×Z)} {z:Z} (h:GO E l y) (hk: ∀s',At s' l→GO (k (s',y)) l' z):GO (E.bind k) l' z:=by
 obtain⟨s',rfl,h⟩:=h
 exact hk s' h
theorem GO1.bind {E:Out Rdr} {l l':List UInt8} {k:Rdr→Out (Rdr×Z)} {z:Z} (h:GO1 E l) (hk: ∀s',At s' l→GO (k s') l' z):GO (E.bind k) l' z:=by
 obtain⟨s',rfl,h⟩:=h
 exact hk s' h
theorem GO1.bind1 {E:Out Rdr} {l l':List UInt8} {k:Rdr→Out Rdr} (h:GO1 E l) (hk: ∀s',At s' l→GO1 (k s') l'):GO1 (E.bind k) l':=by
 obtain⟨s',rfl,h⟩:=h
 exact hk s' h
theorem GO.ok {s:Rdr} {l:List UInt8} {y:Y} (h:At s l):GO (.ok (s,y)) l y:=⟨s,rfl,h⟩
theorem GO.map {E:Out (Rdr×Y)} {l:List UInt8} {y:Y} {f:Rdr×Y→Rdr×Z} (h:GO E l y) (hf: ∀s,(f (s,y)).1=s):GO (E.map f) l (f (⟨⟨#[]⟩,0,0,⟨#[]⟩,0⟩,y)).2→GO (E.map f) l (f (⟨⟨#[]⟩,0,0,⟨#[]⟩,0⟩,y)).2:=fun h=> h
end
theorem ct {s:Rdr} {l:List UInt8} {t:B} {r:List UInt8} (h:At s l) (hl:Lx l 5 t r):GO (dx s t) r true:=by
 have e:=ci h hl t
 rw[decide_eq_true rfl,decide_eq_true rfl] at e
 obtain⟨s',h1,h2⟩:=uj h hl
 refine⟨s',?_,h2⟩
 unfold ir at h1
 unfold dx uH
 rw[if_pos (by rw[e];rfl)]
 cases hn:wm s with
 | none=> rw[hn] at h1;cases h1
 | some x=> rw[hn] at h1;cases h1;rfl
theorem cu {s:Rdr} {l:List UInt8} {k:Int} {t:B} {r:List UInt8} (h:At s l) (hl:Lx l k t r) (x:B) (hx:k≠5∨t≠x):GO (dx s x) l false:=by
 have e:=ci h hl x
 refine⟨s,?_,h⟩
 unfold dx uH
 rw[if_neg]
 ·rfl
 ·rw[e]
  rcases hx with hx | hx
  ·simp[hx]
  ·simp[hx]
theorem cI {s:Rdr} {l:List UInt8} {k:Int} {t:B} {r:List UInt8} (h:At s l) (hl:Lx l k t r):GO (fX s k) r t:=by
 unfold fX
 rw[if_pos (fm h hl),cm]
 exact(uj h hl).bind fun s' h'=> by rw[Ef h hl];exact .ok h'
theorem db {s:Rdr} {l:List UInt8} {t:B} {r:List UInt8} (h:At s l) (hl:Lx l 5 t r):GO1 (eR s [t]) r:=by
 have e:=ci h hl t
 rw[decide_eq_true rfl,decide_eq_true rfl] at e
 rw[eR,if_pos (by rw[e];rfl)]
 exact(uj h hl).bind1 fun s' h'=> ⟨s',rfl,h'⟩
theorem yn (l:List UInt8):oW (32::l)=oW l:=rfl
theorem Xc {w:List UInt8} {c:UInt8} {r:List UInt8} (h1:pW ⟨c.toNat⟩=true) (h2:w.all (b8 oU)=true) (h3: ∀d,r.head?=some d→b8 oU d=false):Lx (c:: (w++r)) 2 ⟨(c::w).toArray⟩ r:=by
 have hs: ¬b8 Cy c=true:=by
  unfold b8 Cy
  unfold pW yf at h1
  simp only[decide_eq_true_eq] at h1 ⊢
  omega
 have hn:b8 oU c=true:=by
  show oU ⟨c.toNat⟩=true
  unfold oU
  rw[h1]
  rfl
 have tw: ∀ (w:List UInt8),w.all (b8 oU)=true→(w++r).takeWhile (b8 oU)=w∧(w++r).dropWhile (b8 oU)=r:=by
  intro w
  induction w with
  | nil=>
    intro _
    cases r with
    | nil=> exact⟨rfl,rfl⟩
    | cons d r=>
      have:=h3 d rfl
      rw[List.nil_append,List.takeWhile_cons_of_neg (by rw[this];simp),List.dropWhile_cons_of_neg (by rw[this];simp)]
      exact⟨rfl,rfl⟩
  | cons d w ih=>
    intro h
    rw[List.all_cons,Bool.and_eq_true] at h
    obtain⟨e1,e2⟩:=ih h.2
    rw[List.cons_append,List.takeWhile_cons_of_pos h.1,List.dropWhile_cons_of_pos h.1,e1,e2]
    exact⟨rfl,rfl⟩
 obtain⟨e1,e2⟩:=tw w h2
 unfold Lx oW
 rw[List.dropWhile_cons_of_neg hs]
 simp only
 rw[if_pos h1,List.takeWhile_cons_of_pos hn,List.dropWhile_cons_of_pos hn,e1,e2]
theorem PI: ∀ (s r v:List UInt8),(34:UInt8) ∉s→(∀d,r.head?=some d→d≠34)→xH (s++34::r) v=some (v++s,r)
 | [],r,v,_,h=> by
   cases r with
   | nil=> rw[List.nil_append,xH,if_pos rfl,List.append_nil]
   | cons d r=> rw[List.nil_append,xH,if_pos rfl,if_neg (h d rfl),List.append_nil]
 | c::s,r,v,hs,h=> by
   have hc: ¬c=34:=fun e=> hs (by rw[e];simp)
   have ih:=PI s r (v++ [c]) (fun e=> hs (by simp[e])) h
   have: ∃d q,s++34::r=d::q:=by cases s <;> exact⟨_,_,rfl⟩
   obtain⟨d,q,e⟩:=this
   rw[List.cons_append]
   rw[e] at ih ⊢
   rw[xH,if_neg hc,ih,List.append_assoc]
   rfl
theorem OC {s r:List UInt8} (hs: (34:UInt8) ∉s) (h: ∀d,r.head?=some d→d≠34):Lx (34:: (s++34::r)) 4 ⟨s.toArray⟩ r:=by
 unfold Lx oW
 rw[List.dropWhile_cons_of_neg (by decide)]
 simp only
 rw[if_neg (by decide),if_neg (by decide),if_pos trivial,PI s r [] hs h]
 rfl
end Go.Gv
