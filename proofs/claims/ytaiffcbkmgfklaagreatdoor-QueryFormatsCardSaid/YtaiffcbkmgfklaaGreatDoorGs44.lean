/- A part of the framework and of the walks: W115. -/
import Derived.Test.YtaiffcbkmgfklaaGreatDoorGs43
import Derived.Test.YtaiffcbkmgfklaaGreatDoorGs40
import Derived.Test.YtaiffcbkmgfklaaGreatDoorGs34
set_option linter.unusedSimpArgs false
set_option linter.unusedVariables false
set_option maxRecDepth 100000

namespace Go.Gv
open Cod (enc dec)
open Go.Proofs
variable {S S0:Nat→Spc}
theorem MP:l9 ⟨#[98,111,117,110,100]⟩=1:=by decide
theorem MO:l9 ⟨#[100,105,115,116,97,110,99,101]⟩=4:=by decide
theorem MN:l9 ⟨#[115,97,109,101]⟩=5:=by decide
theorem MM:l9 ⟨#[104,101,97,100]⟩=6:=by decide
theorem ML:l9 ⟨#[97,110,99,101,115,116,111,114]⟩=7:=by decide
theorem MK:l9 ⟨#[112,97,116,104]⟩=8:=by decide
theorem MJ:l9 ⟨#[110,111,100,101]⟩=9:=by decide
theorem CN:l9 ⟨#[100,101,112,116,104]⟩=10:=by decide
theorem QM (h1:S bt=s_function) (h2:S aa=s_wstr) (h3:S bp=s_itoa) (h4:S aP=lY):
 nj aO aN S 108 5 (a1 Glob) (.tup []) (fun g=> if g.op=1 then fj g else none):=by
 rintro b u v s ⟨op,a,b',name,arg,val,fold,mn,mx,args,kids⟩ t ht hl
 have hL:=jf
 simp only at ht
 split at ht
 ·rename_i hop
  subst hop
  unfold fj kP at ht
  simp only[show Cg 1=some ⟨#[98,111,117,110,100]⟩ from rfl,Option.bind_some] at ht
  rw[if_neg (by decide)] at ht
  obtain⟨w,hw,ht⟩:=Option.bind_eq_some_iff.1 ht
  obtain rfl:=Option.some.inj hw
  split at ht
  ·cases ht
  rename_i hargs
  have hargs:args= []:=by
   cases args with
   | nil=> rfl
   | cons x l=> exact absurd ⟨by decide,by simp⟩ hargs
  subst hargs
  obtain⟨r,hr,ht⟩:=Option.map_eq_some_iff.1 ht
  obtain rfl:=Option.some.inj hr
  have et: (((⟨#[98,111,117,110,100]⟩ ++ ⟨#[40]⟩) ++a) ++E0) ++ ⟨#[41]⟩=t:=by
   rw[←ht]
   simp[E0,aQ,ByteArray.append_assoc]
  clear ht
  have hl2:=hl
  rw[←et] at hl2
  simp only[ag,ab] at hl2
  simp[E0] at hl2
  obtain⟨P0,hP0⟩: ∃P0:B,P0=((⟨#[98,111,117,110,100]⟩ ++ ⟨#[40]⟩) ++a):=⟨_,rfl⟩
  have hsz0:P0.size=6+a.size:=by rw[hP0];simp only[ag,ab];rfl
  simp[aO,aN, -Bool.forall_bool, -Bool.exists_bool]
  refine aw (X:=Bool×Value×B) [0,3,8] [] 8 (fun k x=> x.2.2=if 0 < k then P0 else E0) (fun x=> []) (fun x=> [(0, .tbox 108 b [.v (pv b x.1), .own 900 x.2.1]),(900, .row x.2.1 5 1 (bD (s++x.2.2)))]) (u,v,E0) (by simp) (by simp) (by simp) (by simp) (by simp) rfl (by simp) (by simp[E0,aQ]) ?_ ?_
  ·rintro k ⟨u1,v1,acc⟩ hk q1
   simp only at q1
   have hk:k=0∨k=1∨k=2∨k=3∨k=4∨k=5∨k=6∨k=7:=by omega
   rcases hk with rfl | rfl | rfl | rfl | rfl | rfl | rfl | rfl
   ·rw[if_neg (by decide)] at q1
    subst q1
    simp[h1,h2,MP,ab, -Bool.forall_bool, -Bool.exists_bool]
    rw[←hP0]
    have e0:E0.size=0:=rfl
    exact⟨by omega,by omega,fun u2 v2=> ⟨u2,v2, .inl ⟨rfl,rfl⟩, .inl ⟨rfl,by simp[E0,aQ]⟩⟩⟩
   ·simp[h1,h2,MO,ab, -Bool.forall_bool, -Bool.exists_bool]
    exact⟨u1,v1, .inl ⟨rfl,rfl⟩, .inl ⟨rfl,by rw[q1];rfl⟩⟩
   ·simp[h1,h2,MN,ab, -Bool.forall_bool, -Bool.exists_bool]
    exact⟨u1,v1, .inl ⟨rfl,rfl⟩, .inl ⟨rfl,by rw[q1];rfl⟩⟩
   ·simp[h1,h2,MM,ab, -Bool.forall_bool, -Bool.exists_bool]
    exact⟨u1,v1, .inl ⟨rfl,rfl⟩, .inl ⟨rfl,by rw[q1];rfl⟩⟩
   ·simp[h1,h2,ML,ab, -Bool.forall_bool, -Bool.exists_bool]
    exact⟨u1,v1, .inl ⟨rfl,rfl⟩, .inl ⟨rfl,by rw[q1];rfl⟩⟩
   ·simp[h1,h2,MK,ab, -Bool.forall_bool, -Bool.exists_bool]
    exact⟨u1,v1, .inl ⟨rfl,rfl⟩, .inl ⟨rfl,by rw[q1];rfl⟩⟩
   ·simp[h1,h2,MJ,ab, -Bool.forall_bool, -Bool.exists_bool]
    exact⟨u1,v1, .inl ⟨rfl,rfl⟩, .inl ⟨rfl,by rw[q1];rfl⟩⟩
   ·simp[h1,h2,CN,ab, -Bool.forall_bool, -Bool.exists_bool]
    exact⟨u1,v1, .inl ⟨rfl,rfl⟩, .inl ⟨rfl,by rw[q1];rfl⟩⟩
  ·rintro⟨u1,v1,acc⟩ q1
   simp only at q1
   rw[if_pos (by decide)] at q1
   subst q1
   simp[h2,h3,h4,ab, -Bool.forall_bool, -Bool.exists_bool]
   repeat' first | (with_reducible apply And.intro) | intro _
   all_goals first | omega | (rename_i u' v';exact eI u' v' (by simp) (by rw[←et];simp[hP0,E0,aQ,ByteArray.append_assoc]))
 ·cases ht
theorem QL (h1:S bt=s_function) (h2:S aa=s_wstr) (h3:S bp=s_itoa) (h4:S aP=lY):
 nj aO aN S 108 5 (a1 Glob) (.tup []) (fun g=> if g.op=4 then fj g else none):=by
 rintro b u v s ⟨op,a,b',name,arg,val,fold,mn,mx,args,kids⟩ t ht hl
 have hL:=jf
 simp only at ht
 split at ht
 ·rename_i hop
  subst hop
  unfold fj kP at ht
  simp only[show Cg 4=some ⟨#[100,105,115,116,97,110,99,101]⟩ from rfl,Option.bind_some] at ht
  rw[if_pos (by decide)] at ht
  obtain⟨w,hw,ht⟩:=Option.bind_eq_some_iff.1 ht
  obtain⟨d,hd,hw⟩:=Option.bind_eq_some_iff.1 hw
  obtain⟨e,he,hw⟩:=Option.map_eq_some_iff.1 hw
  have rd:=o9 hd
  have re:=o9 he
  split at ht
  ·cases ht
  rename_i hargs
  have hargs:args= []:=by
   cases args with
   | nil=> rfl
   | cons x l=> exact absurd ⟨by decide,by simp⟩ hargs
  subst hargs
  obtain⟨r,hr,ht⟩:=Option.map_eq_some_iff.1 ht
  obtain rfl:=Option.some.inj hr
  have et: (((((⟨#[100,105,115,116,97,110,99,101]⟩ ++ ⟨#[40]⟩) ++a) ++ (⟨#[44]⟩ ++b')) ++ (((⟨#[44]⟩ ++d) ++ ⟨#[44]⟩) ++e)) ++E0) ++ ⟨#[41]⟩=t:=by
   rw[←ht]
   simp[←hw,E0,aQ,ByteArray.append_assoc]
  clear ht
  have hl2:=hl
  rw[←et] at hl2
  simp only[ag,ab] at hl2
  simp[E0] at hl2
  obtain⟨P0,hP0⟩: ∃P0:B,P0=((⟨#[100,105,115,116,97,110,99,101]⟩ ++ ⟨#[40]⟩) ++a):=⟨_,rfl⟩
  have hsz0:P0.size=9+a.size:=by rw[hP0];simp only[ag,ab];rfl
  simp[aO,aN, -Bool.forall_bool, -Bool.exists_bool]
  refine aw (X:=Bool×Value×B) [0,3,8] [] 8 (fun k x=> x.2.2=if 1 < k then P0 else E0) (fun x=> []) (fun x=> [(0, .tbox 108 b [.v (pv b x.1), .own 900 x.2.1]),(900, .row x.2.1 5 1 (bD (s++x.2.2)))]) (u,v,E0) (by simp) (by simp) (by simp) (by simp) (by simp) rfl (by simp) (by simp[E0,aQ]) ?_ ?_
  ·rintro k ⟨u1,v1,acc⟩ hk q1
   simp only at q1
   have hk:k=0∨k=1∨k=2∨k=3∨k=4∨k=5∨k=6∨k=7:=by omega
   rcases hk with rfl | rfl | rfl | rfl | rfl | rfl | rfl | rfl
   ·simp[h1,h2,MP,ab, -Bool.forall_bool, -Bool.exists_bool]
    exact⟨u1,v1, .inl ⟨rfl,rfl⟩, .inl ⟨rfl,by rw[q1];rfl⟩⟩
   ·rw[if_neg (by decide)] at q1
    subst q1
    simp[h1,h2,MO,ab, -Bool.forall_bool, -Bool.exists_bool]
    rw[←hP0]
    have e0:E0.size=0:=rfl
    exact⟨by omega,by omega,fun u2 v2=> ⟨u2,v2, .inl ⟨rfl,rfl⟩, .inl ⟨rfl,by simp[E0,aQ]⟩⟩⟩
   ·simp[h1,h2,MN,ab, -Bool.forall_bool, -Bool.exists_bool]
    exact⟨u1,v1, .inl ⟨rfl,rfl⟩, .inl ⟨rfl,by rw[q1];rfl⟩⟩
   ·simp[h1,h2,MM,ab, -Bool.forall_bool, -Bool.exists_bool]
    exact⟨u1,v1, .inl ⟨rfl,rfl⟩, .inl ⟨rfl,by rw[q1];rfl⟩⟩
   ·simp[h1,h2,ML,ab, -Bool.forall_bool, -Bool.exists_bool]
    exact⟨u1,v1, .inl ⟨rfl,rfl⟩, .inl ⟨rfl,by rw[q1];rfl⟩⟩
   ·simp[h1,h2,MK,ab, -Bool.forall_bool, -Bool.exists_bool]
    exact⟨u1,v1, .inl ⟨rfl,rfl⟩, .inl ⟨rfl,by rw[q1];rfl⟩⟩
   ·simp[h1,h2,MJ,ab, -Bool.forall_bool, -Bool.exists_bool]
    exact⟨u1,v1, .inl ⟨rfl,rfl⟩, .inl ⟨rfl,by rw[q1];rfl⟩⟩
   ·simp[h1,h2,CN,ab, -Bool.forall_bool, -Bool.exists_bool]
    exact⟨u1,v1, .inl ⟨rfl,rfl⟩, .inl ⟨rfl,by rw[q1];rfl⟩⟩
  ·rintro⟨u1,v1,acc⟩ q1
   simp only at q1
   rw[if_pos (by decide)] at q1
   subst q1
   simp[h2,h3,h4,hd,he,rd,re,ab, -Bool.forall_bool, -Bool.exists_bool]
   repeat' first | (with_reducible apply And.intro) | intro _
   all_goals first | omega | (rename_i u' v';exact eI u' v' (by simp) (by rw[←et];simp[hP0,E0,aQ,ByteArray.append_assoc]))
 ·cases ht
theorem QK (h1:S bt=s_function) (h2:S aa=s_wstr) (h3:S bp=s_itoa) (h4:S aP=lY):
 nj aO aN S 108 5 (a1 Glob) (.tup []) (fun g=> if g.op=5 then fj g else none):=by
 rintro b u v s ⟨op,a,b',name,arg,val,fold,mn,mx,args,kids⟩ t ht hl
 have hL:=jf
 simp only at ht
 split at ht
 ·rename_i hop
  subst hop
  unfold fj kP at ht
  simp only[show Cg 5=some ⟨#[115,97,109,101]⟩ from rfl,Option.bind_some] at ht
  rw[if_neg (by decide)] at ht
  obtain⟨w,hw,ht⟩:=Option.bind_eq_some_iff.1 ht
  obtain rfl:=Option.some.inj hw
  split at ht
  ·cases ht
  rename_i hargs
  have hargs:args= []:=by
   cases args with
   | nil=> rfl
   | cons x l=> exact absurd ⟨by decide,by simp⟩ hargs
  subst hargs
  obtain⟨r,hr,ht⟩:=Option.map_eq_some_iff.1 ht
  obtain rfl:=Option.some.inj hr
  have et: (((((⟨#[115,97,109,101]⟩ ++ ⟨#[40]⟩) ++a) ++ (⟨#[44]⟩ ++b')) ++ (⟨#[44]⟩ ++name)) ++E0) ++ ⟨#[41]⟩=t:=by
   rw[←ht]
   simp[E0,aQ,ByteArray.append_assoc]
  clear ht
  have hl2:=hl
  rw[←et] at hl2
  simp only[ag,ab] at hl2
  simp[E0] at hl2
  obtain⟨P0,hP0⟩: ∃P0:B,P0=((⟨#[115,97,109,101]⟩ ++ ⟨#[40]⟩) ++a):=⟨_,rfl⟩
  have hsz0:P0.size=5+a.size:=by rw[hP0];simp only[ag,ab];rfl
  simp[aO,aN, -Bool.forall_bool, -Bool.exists_bool]
  refine aw (X:=Bool×Value×B) [0,3,8] [] 8 (fun k x=> x.2.2=if 2 < k then P0 else E0) (fun x=> []) (fun x=> [(0, .tbox 108 b [.v (pv b x.1), .own 900 x.2.1]),(900, .row x.2.1 5 1 (bD (s++x.2.2)))]) (u,v,E0) (by simp) (by simp) (by simp) (by simp) (by simp) rfl (by simp) (by simp[E0,aQ]) ?_ ?_
  ·rintro k ⟨u1,v1,acc⟩ hk q1
   simp only at q1
   have hk:k=0∨k=1∨k=2∨k=3∨k=4∨k=5∨k=6∨k=7:=by omega
   rcases hk with rfl | rfl | rfl | rfl | rfl | rfl | rfl | rfl
   ·simp[h1,h2,MP,ab, -Bool.forall_bool, -Bool.exists_bool]
    exact⟨u1,v1, .inl ⟨rfl,rfl⟩, .inl ⟨rfl,by rw[q1];rfl⟩⟩
   ·simp[h1,h2,MO,ab, -Bool.forall_bool, -Bool.exists_bool]
    exact⟨u1,v1, .inl ⟨rfl,rfl⟩, .inl ⟨rfl,by rw[q1];rfl⟩⟩
   ·rw[if_neg (by decide)] at q1
    subst q1
    simp[h1,h2,MN,ab, -Bool.forall_bool, -Bool.exists_bool]
    rw[←hP0]
    have e0:E0.size=0:=rfl
    exact⟨by omega,by omega,fun u2 v2=> ⟨u2,v2, .inl ⟨rfl,rfl⟩, .inl ⟨rfl,by simp[E0,aQ]⟩⟩⟩
   ·simp[h1,h2,MM,ab, -Bool.forall_bool, -Bool.exists_bool]
    exact⟨u1,v1, .inl ⟨rfl,rfl⟩, .inl ⟨rfl,by rw[q1];rfl⟩⟩
   ·simp[h1,h2,ML,ab, -Bool.forall_bool, -Bool.exists_bool]
    exact⟨u1,v1, .inl ⟨rfl,rfl⟩, .inl ⟨rfl,by rw[q1];rfl⟩⟩
   ·simp[h1,h2,MK,ab, -Bool.forall_bool, -Bool.exists_bool]
    exact⟨u1,v1, .inl ⟨rfl,rfl⟩, .inl ⟨rfl,by rw[q1];rfl⟩⟩
   ·simp[h1,h2,MJ,ab, -Bool.forall_bool, -Bool.exists_bool]
    exact⟨u1,v1, .inl ⟨rfl,rfl⟩, .inl ⟨rfl,by rw[q1];rfl⟩⟩
   ·simp[h1,h2,CN,ab, -Bool.forall_bool, -Bool.exists_bool]
    exact⟨u1,v1, .inl ⟨rfl,rfl⟩, .inl ⟨rfl,by rw[q1];rfl⟩⟩
  ·rintro⟨u1,v1,acc⟩ q1
   simp only at q1
   rw[if_pos (by decide)] at q1
   subst q1
   simp[h2,h3,h4,ab, -Bool.forall_bool, -Bool.exists_bool]
   repeat' first | (with_reducible apply And.intro) | intro _
   all_goals first | omega | (rename_i u' v';exact eI u' v' (by simp) (by rw[←et];simp[hP0,E0,aQ,ByteArray.append_assoc]))
 ·cases ht
theorem QJ (h1:S bt=s_function) (h2:S aa=s_wstr) (h3:S bp=s_itoa) (h4:S aP=lY):
 nj aO aN S 108 5 (a1 Glob) (.tup []) (fun g=> if g.op=6 then fj g else none):=by
 rintro b u v s ⟨op,a,b',name,arg,val,fold,mn,mx,args,kids⟩ t ht hl
 have hL:=jf
 simp only at ht
 split at ht
 ·rename_i hop
  subst hop
  unfold fj kP at ht
  simp only[show Cg 6=some ⟨#[104,101,97,100]⟩ from rfl,Option.bind_some] at ht
  rw[if_neg (by decide)] at ht
  obtain⟨w,hw,ht⟩:=Option.bind_eq_some_iff.1 ht
  obtain rfl:=Option.some.inj hw
  split at ht
  ·cases ht
  rename_i hargs
  have hargs:args= []:=by
   cases args with
   | nil=> rfl
   | cons x l=> exact absurd ⟨by decide,by simp⟩ hargs
  subst hargs
  obtain⟨r,hr,ht⟩:=Option.map_eq_some_iff.1 ht
  obtain rfl:=Option.some.inj hr
  have et: ((((⟨#[104,101,97,100]⟩ ++ ⟨#[40]⟩) ++a) ++ (⟨#[44]⟩ ++b')) ++E0) ++ ⟨#[41]⟩=t:=by
   rw[←ht]
   simp[E0,aQ,ByteArray.append_assoc]
  clear ht
  have hl2:=hl
  rw[←et] at hl2
  simp only[ag,ab] at hl2
  simp[E0] at hl2
  obtain⟨P0,hP0⟩: ∃P0:B,P0=((⟨#[104,101,97,100]⟩ ++ ⟨#[40]⟩) ++a):=⟨_,rfl⟩
  have hsz0:P0.size=5+a.size:=by rw[hP0];simp only[ag,ab];rfl
  simp[aO,aN, -Bool.forall_bool, -Bool.exists_bool]
  refine aw (X:=Bool×Value×B) [0,3,8] [] 8 (fun k x=> x.2.2=if 3 < k then P0 else E0) (fun x=> []) (fun x=> [(0, .tbox 108 b [.v (pv b x.1), .own 900 x.2.1]),(900, .row x.2.1 5 1 (bD (s++x.2.2)))]) (u,v,E0) (by simp) (by simp) (by simp) (by simp) (by simp) rfl (by simp) (by simp[E0,aQ]) ?_ ?_
  ·rintro k ⟨u1,v1,acc⟩ hk q1
   simp only at q1
   have hk:k=0∨k=1∨k=2∨k=3∨k=4∨k=5∨k=6∨k=7:=by omega
   rcases hk with rfl | rfl | rfl | rfl | rfl | rfl | rfl | rfl
   ·simp[h1,h2,MP,ab, -Bool.forall_bool, -Bool.exists_bool]
    exact⟨u1,v1, .inl ⟨rfl,rfl⟩, .inl ⟨rfl,by rw[q1];rfl⟩⟩
   ·simp[h1,h2,MO,ab, -Bool.forall_bool, -Bool.exists_bool]
    exact⟨u1,v1, .inl ⟨rfl,rfl⟩, .inl ⟨rfl,by rw[q1];rfl⟩⟩
   ·simp[h1,h2,MN,ab, -Bool.forall_bool, -Bool.exists_bool]
    exact⟨u1,v1, .inl ⟨rfl,rfl⟩, .inl ⟨rfl,by rw[q1];rfl⟩⟩
   ·rw[if_neg (by decide)] at q1
    subst q1
    simp[h1,h2,MM,ab, -Bool.forall_bool, -Bool.exists_bool]
    rw[←hP0]
    have e0:E0.size=0:=rfl
    exact⟨by omega,by omega,fun u2 v2=> ⟨u2,v2, .inl ⟨rfl,rfl⟩, .inl ⟨rfl,by simp[E0,aQ]⟩⟩⟩
   ·simp[h1,h2,ML,ab, -Bool.forall_bool, -Bool.exists_bool]
    exact⟨u1,v1, .inl ⟨rfl,rfl⟩, .inl ⟨rfl,by rw[q1];rfl⟩⟩
   ·simp[h1,h2,MK,ab, -Bool.forall_bool, -Bool.exists_bool]
    exact⟨u1,v1, .inl ⟨rfl,rfl⟩, .inl ⟨rfl,by rw[q1];rfl⟩⟩
   ·simp[h1,h2,MJ,ab, -Bool.forall_bool, -Bool.exists_bool]
    exact⟨u1,v1, .inl ⟨rfl,rfl⟩, .inl ⟨rfl,by rw[q1];rfl⟩⟩
   ·simp[h1,h2,CN,ab, -Bool.forall_bool, -Bool.exists_bool]
    exact⟨u1,v1, .inl ⟨rfl,rfl⟩, .inl ⟨rfl,by rw[q1];rfl⟩⟩
  ·rintro⟨u1,v1,acc⟩ q1
   simp only at q1
   rw[if_pos (by decide)] at q1
   subst q1
   simp[h2,h3,h4,ab, -Bool.forall_bool, -Bool.exists_bool]
   repeat' first | (with_reducible apply And.intro) | intro _
   all_goals first | omega | (rename_i u' v';exact eI u' v' (by simp) (by rw[←et];simp[hP0,E0,aQ,ByteArray.append_assoc]))
 ·cases ht
theorem QI (h1:S bt=s_function) (h2:S aa=s_wstr) (h3:S bp=s_itoa) (h4:S aP=lY):
 nj aO aN S 108 5 (a1 Glob) (.tup []) (fun g=> if g.op=7 then fj g else none):=by
 rintro b u v s ⟨op,a,b',name,arg,val,fold,mn,mx,args,kids⟩ t ht hl
 have hL:=jf
 simp only at ht
 split at ht
 ·rename_i hop
  subst hop
  unfold fj kP at ht
  simp only[show Cg 7=some ⟨#[97,110,99,101,115,116,111,114]⟩ from rfl,Option.bind_some] at ht
  rw[if_neg (by decide)] at ht
  obtain⟨w,hw,ht⟩:=Option.bind_eq_some_iff.1 ht
  obtain rfl:=Option.some.inj hw
  split at ht
  ·cases ht
  rename_i hargs
  have hargs:args= []:=by
   cases args with
   | nil=> rfl
   | cons x l=> exact absurd ⟨by decide,by simp⟩ hargs
  subst hargs
  obtain⟨r,hr,ht⟩:=Option.map_eq_some_iff.1 ht
  obtain rfl:=Option.some.inj hr
  have et: ((((⟨#[97,110,99,101,115,116,111,114]⟩ ++ ⟨#[40]⟩) ++a) ++ (⟨#[44]⟩ ++b')) ++E0) ++ ⟨#[41]⟩=t:=by
   rw[←ht]
   simp[E0,aQ,ByteArray.append_assoc]
  clear ht
  have hl2:=hl
  rw[←et] at hl2
  simp only[ag,ab] at hl2
  simp[E0] at hl2
  obtain⟨P0,hP0⟩: ∃P0:B,P0=((⟨#[97,110,99,101,115,116,111,114]⟩ ++ ⟨#[40]⟩) ++a):=⟨_,rfl⟩
  have hsz0:P0.size=9+a.size:=by rw[hP0];simp only[ag,ab];rfl
  simp[aO,aN, -Bool.forall_bool, -Bool.exists_bool]
  refine aw (X:=Bool×Value×B) [0,3,8] [] 8 (fun k x=> x.2.2=if 4 < k then P0 else E0) (fun x=> []) (fun x=> [(0, .tbox 108 b [.v (pv b x.1), .own 900 x.2.1]),(900, .row x.2.1 5 1 (bD (s++x.2.2)))]) (u,v,E0) (by simp) (by simp) (by simp) (by simp) (by simp) rfl (by simp) (by simp[E0,aQ]) ?_ ?_
  ·rintro k ⟨u1,v1,acc⟩ hk q1
   simp only at q1
   have hk:k=0∨k=1∨k=2∨k=3∨k=4∨k=5∨k=6∨k=7:=by omega
   rcases hk with rfl | rfl | rfl | rfl | rfl | rfl | rfl | rfl
   ·simp[h1,h2,MP,ab, -Bool.forall_bool, -Bool.exists_bool]
    exact⟨u1,v1, .inl ⟨rfl,rfl⟩, .inl ⟨rfl,by rw[q1];rfl⟩⟩
   ·simp[h1,h2,MO,ab, -Bool.forall_bool, -Bool.exists_bool]
    exact⟨u1,v1, .inl ⟨rfl,rfl⟩, .inl ⟨rfl,by rw[q1];rfl⟩⟩
   ·simp[h1,h2,MN,ab, -Bool.forall_bool, -Bool.exists_bool]
    exact⟨u1,v1, .inl ⟨rfl,rfl⟩, .inl ⟨rfl,by rw[q1];rfl⟩⟩
   ·simp[h1,h2,MM,ab, -Bool.forall_bool, -Bool.exists_bool]
    exact⟨u1,v1, .inl ⟨rfl,rfl⟩, .inl ⟨rfl,by rw[q1];rfl⟩⟩
   ·rw[if_neg (by decide)] at q1
    subst q1
    simp[h1,h2,ML,ab, -Bool.forall_bool, -Bool.exists_bool]
    rw[←hP0]
    have e0:E0.size=0:=rfl
    exact⟨by omega,by omega,fun u2 v2=> ⟨u2,v2, .inl ⟨rfl,rfl⟩, .inl ⟨rfl,by simp[E0,aQ]⟩⟩⟩
   ·simp[h1,h2,MK,ab, -Bool.forall_bool, -Bool.exists_bool]
    exact⟨u1,v1, .inl ⟨rfl,rfl⟩, .inl ⟨rfl,by rw[q1];rfl⟩⟩
   ·simp[h1,h2,MJ,ab, -Bool.forall_bool, -Bool.exists_bool]
    exact⟨u1,v1, .inl ⟨rfl,rfl⟩, .inl ⟨rfl,by rw[q1];rfl⟩⟩
   ·simp[h1,h2,CN,ab, -Bool.forall_bool, -Bool.exists_bool]
    exact⟨u1,v1, .inl ⟨rfl,rfl⟩, .inl ⟨rfl,by rw[q1];rfl⟩⟩
  ·rintro⟨u1,v1,acc⟩ q1
   simp only at q1
   rw[if_pos (by decide)] at q1
   subst q1
   simp[h2,h3,h4,ab, -Bool.forall_bool, -Bool.exists_bool]
   repeat' first | (with_reducible apply And.intro) | intro _
   all_goals first | omega | (rename_i u' v';exact eI u' v' (by simp) (by rw[←et];simp[hP0,E0,aQ,ByteArray.append_assoc]))
 ·cases ht
theorem QH (h1:S bt=s_function) (h2:S aa=s_wstr) (h3:S bp=s_itoa) (h4:S aP=lY):
 nj aO aN S 108 5 (a1 Glob) (.tup []) (fun g=> if g.op=8 then fj g else none):=by
 rintro b u v s ⟨op,a,b',name,arg,val,fold,mn,mx,args,kids⟩ t ht hl
 have hL:=jf
 simp only at ht
 split at ht
 ·rename_i hop
  subst hop
  unfold fj kP at ht
  simp only[show Cg 8=some ⟨#[112,97,116,104]⟩ from rfl,Option.bind_some] at ht
  rw[if_neg (by decide)] at ht
  obtain⟨w,hw,ht⟩:=Option.bind_eq_some_iff.1 ht
  obtain rfl:=Option.some.inj hw
  rw[if_neg (by simp)] at ht
  obtain⟨r,hr,ht⟩:=Option.map_eq_some_iff.1 ht
  have et: ((((⟨#[112,97,116,104]⟩ ++ ⟨#[40]⟩) ++a) ++ (⟨#[44]⟩ ++b')) ++r) ++ ⟨#[41]⟩=t:=by
   rw[←ht]
   simp[E0,aQ,ByteArray.append_assoc]
  clear ht
  have hl2:=hl
  rw[←et] at hl2
  simp only[ag,ab] at hl2
  simp[E0] at hl2
  obtain⟨P0,hP0⟩: ∃P0:B,P0=((⟨#[112,97,116,104]⟩ ++ ⟨#[40]⟩) ++a):=⟨_,rfl⟩
  have hsz0:P0.size=5+a.size:=by rw[hP0];simp only[ag,ab];rfl
  simp[aO,aN, -Bool.forall_bool, -Bool.exists_bool]
  refine aw (X:=Bool×Value×B) [0,3,8] [] 8 (fun k x=> x.2.2=if 5 < k then P0 else E0) (fun x=> []) (fun x=> [(0, .tbox 108 b [.v (pv b x.1), .own 900 x.2.1]),(900, .row x.2.1 5 1 (bD (s++x.2.2)))]) (u,v,E0) (by simp) (by simp) (by simp) (by simp) (by simp) rfl (by simp) (by simp[E0,aQ]) ?_ ?_
  ·rintro k ⟨u1,v1,acc⟩ hk q1
   simp only at q1
   have hk:k=0∨k=1∨k=2∨k=3∨k=4∨k=5∨k=6∨k=7:=by omega
   rcases hk with rfl | rfl | rfl | rfl | rfl | rfl | rfl | rfl
   ·simp[h1,h2,MP,ab, -Bool.forall_bool, -Bool.exists_bool]
    exact⟨u1,v1, .inl ⟨rfl,rfl⟩, .inl ⟨rfl,by rw[q1];rfl⟩⟩
   ·simp[h1,h2,MO,ab, -Bool.forall_bool, -Bool.exists_bool]
    exact⟨u1,v1, .inl ⟨rfl,rfl⟩, .inl ⟨rfl,by rw[q1];rfl⟩⟩
   ·simp[h1,h2,MN,ab, -Bool.forall_bool, -Bool.exists_bool]
    exact⟨u1,v1, .inl ⟨rfl,rfl⟩, .inl ⟨rfl,by rw[q1];rfl⟩⟩
   ·simp[h1,h2,MM,ab, -Bool.forall_bool, -Bool.exists_bool]
    exact⟨u1,v1, .inl ⟨rfl,rfl⟩, .inl ⟨rfl,by rw[q1];rfl⟩⟩
   ·simp[h1,h2,ML,ab, -Bool.forall_bool, -Bool.exists_bool]
    exact⟨u1,v1, .inl ⟨rfl,rfl⟩, .inl ⟨rfl,by rw[q1];rfl⟩⟩
   ·rw[if_neg (by decide)] at q1
    subst q1
    simp[h1,h2,MK,ab, -Bool.forall_bool, -Bool.exists_bool]
    rw[←hP0]
    have e0:E0.size=0:=rfl
    exact⟨by omega,by omega,fun u2 v2=> ⟨u2,v2, .inl ⟨rfl,rfl⟩, .inl ⟨rfl,by simp[E0,aQ]⟩⟩⟩
   ·simp[h1,h2,MJ,ab, -Bool.forall_bool, -Bool.exists_bool]
    exact⟨u1,v1, .inl ⟨rfl,rfl⟩, .inl ⟨rfl,by rw[q1];rfl⟩⟩
   ·simp[h1,h2,CN,ab, -Bool.forall_bool, -Bool.exists_bool]
    exact⟨u1,v1, .inl ⟨rfl,rfl⟩, .inl ⟨rfl,by rw[q1];rfl⟩⟩
  ·rintro⟨u1,v1,acc⟩ q1
   simp only at q1
   rw[if_pos (by decide)] at q1
   subst q1
   simp[h2,h3,h4,ab, -Bool.forall_bool, -Bool.exists_bool]
   refine⟨by omega,by omega,fun u2 v2 hal=> ?_⟩
   obtain⟨Q,hQ⟩: ∃Q:B,Q=acc++ (⟨#[44]⟩ ++b'):=⟨_,rfl⟩
   have etQ: (Q++r) ++ ⟨#[41]⟩=t:=by rw[←et,hQ,hP0]
   have eQ: (s++acc) ++ (⟨#[44]⟩ ++b')=s++Q:=by rw[hQ];simp[ByteArray.append_assoc]
   rw[eQ]
   clear hP0 eQ et hsz0 hl2
   have hl2:=hl
   rw[←etQ] at hl2
   simp only[ag,show(⟨#[41]⟩:B).size=1 from rfl] at hl2
   refine aw (X:=Bool×Value×B×B) [0,75] [] args.length (fun k x=> gp (args.drop k)=some x.2.2.2∧x.2.2.1++x.2.2.2=Q++r) (fun x=> []) (fun x=> [(0, .tbox 108 b [.v (pv b x.1), .own 900 x.2.1]),(900, .row x.2.1 5 1 (bD (s++x.2.2.1)))]) (u2,v2,Q,r) (by simp) (by simp) (by omega) (by simp) (by simp) ⟨hr,rfl⟩ (by simp) (by simp) ?_ ?_
   ·rintro k ⟨u1,v1,W,rr⟩ hk ⟨q1,q2⟩
    simp only at q1 q2
    obtain⟨x,hx⟩:=cz hk
    obtain⟨_,hgx⟩:=List.getElem?_eq_some_iff.1 hx
    obtain⟨tk,r',c1,c2,rfl⟩:=ja hx q1
    have hs2:=congrArg ByteArray.size q2
    have z44: (⟨#[44]⟩:B).size=1:=rfl
    simp only[ag,z44] at hs2
    simp[h2,h4,hk,hx,hgx,c1,ab, -Bool.forall_bool, -Bool.exists_bool]
    exact⟨by omega,by omega,fun u3 v3=> ⟨u3,v3,(W++ ⟨#[44]⟩) ++tk,⟨r',by simpa using c2,by rw[←q2];simp only[ByteArray.append_assoc]⟩, .inl ⟨rfl,rfl⟩, .inl ⟨rfl,by simp[ByteArray.append_assoc]⟩⟩⟩
   ·rintro⟨u1,v1,W,rr⟩ ⟨q1,q2⟩
    simp only at q1 q2
    rw[List.drop_length,gp] at q1
    obtain rfl:=Option.some.inj q1
    have hW:W=Q++r:=by rw[←q2,E0,aQ]
    have hs2:=congrArg ByteArray.size hW
    simp only[ag] at hs2
    simp[h2,ab, -Bool.forall_bool, -Bool.exists_bool]
    exact⟨by omega,fun u' v'=> eI u' v' (by simp) (by rw[←etQ,←hW];simp[ByteArray.append_assoc])⟩
 ·cases ht
theorem QG (h1:S bt=s_function) (h2:S aa=s_wstr) (h3:S bp=s_itoa) (h4:S aP=lY):
 nj aO aN S 108 5 (a1 Glob) (.tup []) (fun g=> if g.op=9 then fj g else none):=by
 rintro b u v s ⟨op,a,b',name,arg,val,fold,mn,mx,args,kids⟩ t ht hl
 have hL:=jf
 simp only at ht
 split at ht
 ·rename_i hop
  subst hop
  unfold fj kP at ht
  simp only[show Cg 9=some ⟨#[110,111,100,101]⟩ from rfl,Option.bind_some] at ht
  rw[if_neg (by decide)] at ht
  obtain⟨w,hw,ht⟩:=Option.bind_eq_some_iff.1 ht
  obtain rfl:=Option.some.inj hw
  split at ht
  ·cases ht
  rename_i hargs
  have hargs:args= []:=by
   cases args with
   | nil=> rfl
   | cons x l=> exact absurd ⟨by decide,by simp⟩ hargs
  subst hargs
  obtain⟨r,hr,ht⟩:=Option.map_eq_some_iff.1 ht
  obtain rfl:=Option.some.inj hr
  have et: (((((⟨#[110,111,100,101]⟩ ++ ⟨#[40]⟩) ++a) ++ (⟨#[44]⟩ ++b')) ++ (⟨#[44]⟩ ++name)) ++E0) ++ ⟨#[41]⟩=t:=by
   rw[←ht]
   simp[E0,aQ,ByteArray.append_assoc]
  clear ht
  have hl2:=hl
  rw[←et] at hl2
  simp only[ag,ab] at hl2
  simp[E0] at hl2
  obtain⟨P0,hP0⟩: ∃P0:B,P0=((⟨#[110,111,100,101]⟩ ++ ⟨#[40]⟩) ++a):=⟨_,rfl⟩
  have hsz0:P0.size=5+a.size:=by rw[hP0];simp only[ag,ab];rfl
  simp[aO,aN, -Bool.forall_bool, -Bool.exists_bool]
  refine aw (X:=Bool×Value×B) [0,3,8] [] 8 (fun k x=> x.2.2=if 6 < k then P0 else E0) (fun x=> []) (fun x=> [(0, .tbox 108 b [.v (pv b x.1), .own 900 x.2.1]),(900, .row x.2.1 5 1 (bD (s++x.2.2)))]) (u,v,E0) (by simp) (by simp) (by simp) (by simp) (by simp) rfl (by simp) (by simp[E0,aQ]) ?_ ?_
  ·rintro k ⟨u1,v1,acc⟩ hk q1
   simp only at q1
   have hk:k=0∨k=1∨k=2∨k=3∨k=4∨k=5∨k=6∨k=7:=by omega
   rcases hk with rfl | rfl | rfl | rfl | rfl | rfl | rfl | rfl
   ·simp[h1,h2,MP,ab, -Bool.forall_bool, -Bool.exists_bool]
    exact⟨u1,v1, .inl ⟨rfl,rfl⟩, .inl ⟨rfl,by rw[q1];rfl⟩⟩
   ·simp[h1,h2,MO,ab, -Bool.forall_bool, -Bool.exists_bool]
    exact⟨u1,v1, .inl ⟨rfl,rfl⟩, .inl ⟨rfl,by rw[q1];rfl⟩⟩
   ·simp[h1,h2,MN,ab, -Bool.forall_bool, -Bool.exists_bool]
    exact⟨u1,v1, .inl ⟨rfl,rfl⟩, .inl ⟨rfl,by rw[q1];rfl⟩⟩
   ·simp[h1,h2,MM,ab, -Bool.forall_bool, -Bool.exists_bool]
    exact⟨u1,v1, .inl ⟨rfl,rfl⟩, .inl ⟨rfl,by rw[q1];rfl⟩⟩
   ·simp[h1,h2,ML,ab, -Bool.forall_bool, -Bool.exists_bool]
    exact⟨u1,v1, .inl ⟨rfl,rfl⟩, .inl ⟨rfl,by rw[q1];rfl⟩⟩
   ·simp[h1,h2,MK,ab, -Bool.forall_bool, -Bool.exists_bool]
    exact⟨u1,v1, .inl ⟨rfl,rfl⟩, .inl ⟨rfl,by rw[q1];rfl⟩⟩
   ·rw[if_neg (by decide)] at q1
    subst q1
    simp[h1,h2,MJ,ab, -Bool.forall_bool, -Bool.exists_bool]
    rw[←hP0]
    have e0:E0.size=0:=rfl
    exact⟨by omega,by omega,fun u2 v2=> ⟨u2,v2, .inl ⟨rfl,rfl⟩, .inl ⟨rfl,by simp[E0,aQ]⟩⟩⟩
   ·simp[h1,h2,CN,ab, -Bool.forall_bool, -Bool.exists_bool]
    exact⟨u1,v1, .inl ⟨rfl,rfl⟩, .inl ⟨rfl,by rw[q1];rfl⟩⟩
  ·rintro⟨u1,v1,acc⟩ q1
   simp only at q1
   rw[if_pos (by decide)] at q1
   subst q1
   simp[h2,h3,h4,ab, -Bool.forall_bool, -Bool.exists_bool]
   repeat' first | (with_reducible apply And.intro) | intro _
   all_goals first | omega | (rename_i u' v';exact eI u' v' (by simp) (by rw[←et];simp[hP0,E0,aQ,ByteArray.append_assoc]))
 ·cases ht
theorem NM (h1:S bt=s_function) (h2:S aa=s_wstr) (h3:S bp=s_itoa) (h4:S aP=lY):
 nj aO aN S 108 5 (a1 Glob) (.tup []) (fun g=> if g.op=10 then fj g else none):=by
 rintro b u v s ⟨op,a,b',name,arg,val,fold,mn,mx,args,kids⟩ t ht hl
 have hL:=jf
 simp only at ht
 split at ht
 ·rename_i hop
  subst hop
  unfold fj kP at ht
  simp only[show Cg 10=some ⟨#[100,101,112,116,104]⟩ from rfl,Option.bind_some] at ht
  rw[if_pos (by decide)] at ht
  obtain⟨w,hw,ht⟩:=Option.bind_eq_some_iff.1 ht
  obtain⟨d,hd,hw⟩:=Option.bind_eq_some_iff.1 hw
  obtain⟨e,he,hw⟩:=Option.map_eq_some_iff.1 hw
  have rd:=o9 hd
  have re:=o9 he
  split at ht
  ·cases ht
  rename_i hargs
  have hargs:args= []:=by
   cases args with
   | nil=> rfl
   | cons x l=> exact absurd ⟨by decide,by simp⟩ hargs
  subst hargs
  obtain⟨r,hr,ht⟩:=Option.map_eq_some_iff.1 ht
  obtain rfl:=Option.some.inj hr
  have et: ((((⟨#[100,101,112,116,104]⟩ ++ ⟨#[40]⟩) ++a) ++ (((⟨#[44]⟩ ++d) ++ ⟨#[44]⟩) ++e)) ++E0) ++ ⟨#[41]⟩=t:=by
   rw[←ht]
   simp[←hw,E0,aQ,ByteArray.append_assoc]
  clear ht
  have hl2:=hl
  rw[←et] at hl2
  simp only[ag,ab] at hl2
  simp[E0] at hl2
  obtain⟨P0,hP0⟩: ∃P0:B,P0=((⟨#[100,101,112,116,104]⟩ ++ ⟨#[40]⟩) ++a):=⟨_,rfl⟩
  have hsz0:P0.size=6+a.size:=by rw[hP0];simp only[ag,ab];rfl
  simp[aO,aN, -Bool.forall_bool, -Bool.exists_bool]
  refine aw (X:=Bool×Value×B) [0,3,8] [] 8 (fun k x=> x.2.2=if 7 < k then P0 else E0) (fun x=> []) (fun x=> [(0, .tbox 108 b [.v (pv b x.1), .own 900 x.2.1]),(900, .row x.2.1 5 1 (bD (s++x.2.2)))]) (u,v,E0) (by simp) (by simp) (by simp) (by simp) (by simp) rfl (by simp) (by simp[E0,aQ]) ?_ ?_
  ·rintro k ⟨u1,v1,acc⟩ hk q1
   simp only at q1
   have hk:k=0∨k=1∨k=2∨k=3∨k=4∨k=5∨k=6∨k=7:=by omega
   rcases hk with rfl | rfl | rfl | rfl | rfl | rfl | rfl | rfl
   ·simp[h1,h2,MP,ab, -Bool.forall_bool, -Bool.exists_bool]
    exact⟨u1,v1, .inl ⟨rfl,rfl⟩, .inl ⟨rfl,by rw[q1];rfl⟩⟩
   ·simp[h1,h2,MO,ab, -Bool.forall_bool, -Bool.exists_bool]
    exact⟨u1,v1, .inl ⟨rfl,rfl⟩, .inl ⟨rfl,by rw[q1];rfl⟩⟩
   ·simp[h1,h2,MN,ab, -Bool.forall_bool, -Bool.exists_bool]
    exact⟨u1,v1, .inl ⟨rfl,rfl⟩, .inl ⟨rfl,by rw[q1];rfl⟩⟩
   ·simp[h1,h2,MM,ab, -Bool.forall_bool, -Bool.exists_bool]
    exact⟨u1,v1, .inl ⟨rfl,rfl⟩, .inl ⟨rfl,by rw[q1];rfl⟩⟩
   ·simp[h1,h2,ML,ab, -Bool.forall_bool, -Bool.exists_bool]
    exact⟨u1,v1, .inl ⟨rfl,rfl⟩, .inl ⟨rfl,by rw[q1];rfl⟩⟩
   ·simp[h1,h2,MK,ab, -Bool.forall_bool, -Bool.exists_bool]
    exact⟨u1,v1, .inl ⟨rfl,rfl⟩, .inl ⟨rfl,by rw[q1];rfl⟩⟩
   ·simp[h1,h2,MJ,ab, -Bool.forall_bool, -Bool.exists_bool]
    exact⟨u1,v1, .inl ⟨rfl,rfl⟩, .inl ⟨rfl,by rw[q1];rfl⟩⟩
   ·rw[if_neg (by decide)] at q1
    subst q1
    simp[h1,h2,CN,ab, -Bool.forall_bool, -Bool.exists_bool]
    rw[←hP0]
    have e0:E0.size=0:=rfl
    exact⟨by omega,by omega,fun u2 v2=> ⟨u2,v2, .inl ⟨rfl,rfl⟩, .inl ⟨rfl,by simp[E0,aQ]⟩⟩⟩
  ·rintro⟨u1,v1,acc⟩ q1
   simp only at q1
   rw[if_pos (by decide)] at q1
   subst q1
   simp[h2,h3,h4,hd,he,rd,re,ab, -Bool.forall_bool, -Bool.exists_bool]
   repeat' first | (with_reducible apply And.intro) | intro _
   all_goals first | omega | (rename_i u' v';exact eI u' v' (by simp) (by rw[←et];simp[hP0,E0,aQ,ByteArray.append_assoc]))
 ·cases ht
end Go.Gv
