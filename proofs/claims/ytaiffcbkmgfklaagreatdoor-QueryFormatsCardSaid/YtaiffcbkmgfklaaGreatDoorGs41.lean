/- A part of the framework and of the walks: W108 W109 W110 W105 Asm8. -/
import Derived.Test.YtaiffcbkmgfklaaGreatDoorGs40
import Derived.Test.YtaiffcbkmgfklaaGreatDoorGs38
import Derived.Test.YtaiffcbkmgfklaaGreatDoorGs32
set_option linter.unusedSimpArgs false
set_option linter.unusedVariables false
set_option maxRecDepth 100000

namespace Go.Gv
open Cod (enc dec)
variable {S S0:Nat→Spc}
theorem SO (n:Nat) (h1:S bf=dJ) (h2:S bz=gq) (h3:S aV=cP) (h4:S a7=ik n) (h5:S aL=ny) (h6:S bC=cV):
 Walk aI aG S (a1 Glob) (fun x=> x.op=1∧pJ (aX (n+1)) x) (enc (X:=B)) fun x y=> aX (n+1) x=some y:=by
 rintro⟨op,a,b,name,arg,val,fold,mn,mx,args,kids⟩ ⟨hop,t,ht,hl⟩
 have hL:=jf
 have hR:=ht
 simp only at hop
 subst hop
 have fin: ∀ {u:B},u=t→aX (n+1) ⟨1,a,b,name,arg,val,fold,mn,mx,args,kids⟩=some u:=fun h=> by rw[h];exact hR
 rw[aX,cH _ (by simp)] at ht
 unfold fj kP at ht
 simp only[show Cg 1=some ⟨#[98,111,117,110,100]⟩ from rfl,Option.bind_some] at ht
 rw[if_neg (by decide)] at ht
 obtain⟨w,hw,ht⟩:=Option.bind_eq_some_iff.1 ht
 obtain rfl:=Option.some.inj hw
 split at ht
 ·cases ht
 obtain⟨r,hr,ht⟩:=Option.map_eq_some_iff.1 ht
 have et: (((⟨#[98,111,117,110,100]⟩ ++ ⟨#[40]⟩) ++a) ++r) ++ ⟨#[41]⟩=t:=by
  rw[←ht]
  simp[E0,aQ,ByteArray.append_assoc]
 have hl2:=hl
 rw[←et] at hl2
 simp only[ag,ab] at hl2
 simp at hl2
 clear ht
 simp[aI,aG,h5,h6,gi,ab, -Bool.forall_bool, -Bool.exists_bool]
 repeat (refine⟨by omega,?_⟩)
 intro hkl
 obtain⟨P,hP⟩: ∃P,P=((⟨#[98,111,117,110,100]⟩ ++ ⟨#[40]⟩) ++a):=⟨_,rfl⟩
 rw[←hP] at et ⊢
 clear hP hl2
 refine aw (X:=B×B) [160] [] args.length (fun k x=> gp (args.drop k)=some x.2∧(x.1++x.2) ++ ⟨#[41]⟩=t) (fun x=> [(3,enc x.1)]) (fun _=> []) (P,r) (by simp) (by simp) (by omega) (by simp) (by simp) ⟨hr,et⟩ (by simp) (by simp) ?_ ?_
 ·rintro k ⟨acc,r⟩ hk ⟨q1,q2⟩
  simp only at q1 q2
  obtain⟨x,hx⟩:=cz hk
  obtain⟨_,hgx⟩:=List.getElem?_eq_some_iff.1 hx
  obtain⟨tk,r',c1,c2,rfl⟩:=ja hx q1
  rw[←q2] at hl
  simp only[ag,ab] at hl
  simp at hl
  have hp:pJ lW x:=⟨tk,c1,by omega⟩
  simp[h2,hk,hx,hgx,hp,c1,ab, -Bool.forall_bool, -Bool.exists_bool]
  exact⟨by omega,by omega,r',by simpa using c2,by rw[←q2];simp only[ByteArray.append_assoc]⟩
 ·rintro⟨acc,r⟩ ⟨q1,q2⟩
  simp only at q1 q2
  rw[List.drop_length,gp] at q1
  obtain rfl:=Option.some.inj q1
  rw[←q2] at hl
  simp only[ag,ab] at hl
  simp at hl
  simp[ab, -Bool.forall_bool, -Bool.exists_bool]
  exact⟨by omega,fin (by rw[←q2];simp[E0,aQ])⟩
theorem SN (n:Nat) (h1:S bf=dJ) (h2:S bz=gq) (h3:S aV=cP) (h4:S a7=ik n) (h5:S aL=ny) (h6:S bC=cV):
 Walk aI aG S (a1 Glob) (fun x=> x.op=4∧pJ (aX (n+1)) x) (enc (X:=B)) fun x y=> aX (n+1) x=some y:=by
 rintro⟨op,a,b,name,arg,val,fold,mn,mx,args,kids⟩ ⟨hop,t,ht,hl⟩
 have hL:=jf
 have hR:=ht
 simp only at hop
 subst hop
 have fin: ∀ {u:B},u=t→aX (n+1) ⟨4,a,b,name,arg,val,fold,mn,mx,args,kids⟩=some u:=fun h=> by rw[h];exact hR
 rw[aX,cH _ (by simp)] at ht
 unfold fj kP at ht
 simp only[show Cg 4=some ⟨#[100,105,115,116,97,110,99,101]⟩ from rfl,Option.bind_some] at ht
 rw[if_pos (by decide)] at ht
 obtain⟨w,hw,ht⟩:=Option.bind_eq_some_iff.1 ht
 obtain⟨d,hd,hw⟩:=Option.bind_eq_some_iff.1 hw
 obtain⟨e,he,hw⟩:=Option.map_eq_some_iff.1 hw
 have rd:=o9 hd
 have re:=o9 he
 split at ht
 ·cases ht
 obtain⟨r,hr,ht⟩:=Option.map_eq_some_iff.1 ht
 have et: (((((⟨#[100,105,115,116,97,110,99,101]⟩ ++ ⟨#[40]⟩) ++a) ++ (⟨#[44]⟩ ++b)) ++ (((⟨#[44]⟩ ++d) ++ ⟨#[44]⟩) ++e)) ++r) ++ ⟨#[41]⟩=t:=by
  rw[←ht]
  simp[←hw,E0,aQ,ByteArray.append_assoc]
 have hl2:=hl
 rw[←et] at hl2
 simp only[ag,ab] at hl2
 simp at hl2
 clear ht
 simp[aI,aG,h5,h6,gi,hd,he,rd,re,ab, -Bool.forall_bool, -Bool.exists_bool]
 repeat (refine⟨by omega,?_⟩)
 intro hkl
 obtain⟨P,hP⟩: ∃P,P=((((⟨#[100,105,115,116,97,110,99,101]⟩ ++ ⟨#[40]⟩) ++a) ++ (⟨#[44]⟩ ++b)) ++ (((⟨#[44]⟩ ++d) ++ ⟨#[44]⟩) ++e)):=⟨_,rfl⟩
 rw[←hP] at et ⊢
 clear hP hl2
 refine aw (X:=B×B) [160] [] args.length (fun k x=> gp (args.drop k)=some x.2∧(x.1++x.2) ++ ⟨#[41]⟩=t) (fun x=> [(3,enc x.1)]) (fun _=> []) (P,r) (by simp) (by simp) (by omega) (by simp) (by simp) ⟨hr,et⟩ (by simp) (by simp) ?_ ?_
 ·rintro k ⟨acc,r⟩ hk ⟨q1,q2⟩
  simp only at q1 q2
  obtain⟨x,hx⟩:=cz hk
  obtain⟨_,hgx⟩:=List.getElem?_eq_some_iff.1 hx
  obtain⟨tk,r',c1,c2,rfl⟩:=ja hx q1
  rw[←q2] at hl
  simp only[ag,ab] at hl
  simp at hl
  have hp:pJ lW x:=⟨tk,c1,by omega⟩
  simp[h2,hk,hx,hgx,hp,c1,ab, -Bool.forall_bool, -Bool.exists_bool]
  exact⟨by omega,by omega,r',by simpa using c2,by rw[←q2];simp only[ByteArray.append_assoc]⟩
 ·rintro⟨acc,r⟩ ⟨q1,q2⟩
  simp only at q1 q2
  rw[List.drop_length,gp] at q1
  obtain rfl:=Option.some.inj q1
  rw[←q2] at hl
  simp only[ag,ab] at hl
  simp at hl
  simp[ab, -Bool.forall_bool, -Bool.exists_bool]
  exact⟨by omega,fin (by rw[←q2];simp[E0,aQ])⟩
theorem SM (n:Nat) (h1:S bf=dJ) (h2:S bz=gq) (h3:S aV=cP) (h4:S a7=ik n) (h5:S aL=ny) (h6:S bC=cV):
 Walk aI aG S (a1 Glob) (fun x=> x.op=5∧pJ (aX (n+1)) x) (enc (X:=B)) fun x y=> aX (n+1) x=some y:=by
 rintro⟨op,a,b,name,arg,val,fold,mn,mx,args,kids⟩ ⟨hop,t,ht,hl⟩
 have hL:=jf
 have hR:=ht
 simp only at hop
 subst hop
 have fin: ∀ {u:B},u=t→aX (n+1) ⟨5,a,b,name,arg,val,fold,mn,mx,args,kids⟩=some u:=fun h=> by rw[h];exact hR
 rw[aX,cH _ (by simp)] at ht
 unfold fj kP at ht
 simp only[show Cg 5=some ⟨#[115,97,109,101]⟩ from rfl,Option.bind_some] at ht
 rw[if_neg (by decide)] at ht
 obtain⟨w,hw,ht⟩:=Option.bind_eq_some_iff.1 ht
 obtain rfl:=Option.some.inj hw
 split at ht
 ·cases ht
 obtain⟨r,hr,ht⟩:=Option.map_eq_some_iff.1 ht
 have et: (((((⟨#[115,97,109,101]⟩ ++ ⟨#[40]⟩) ++a) ++ (⟨#[44]⟩ ++b)) ++ (⟨#[44]⟩ ++name)) ++r) ++ ⟨#[41]⟩=t:=by
  rw[←ht]
  simp[E0,aQ,ByteArray.append_assoc]
 have hl2:=hl
 rw[←et] at hl2
 simp only[ag,ab] at hl2
 simp at hl2
 clear ht
 simp[aI,aG,h5,h6,gi,ab, -Bool.forall_bool, -Bool.exists_bool]
 repeat (refine⟨by omega,?_⟩)
 intro hkl
 obtain⟨P,hP⟩: ∃P,P=((((⟨#[115,97,109,101]⟩ ++ ⟨#[40]⟩) ++a) ++ (⟨#[44]⟩ ++b)) ++ (⟨#[44]⟩ ++name)):=⟨_,rfl⟩
 rw[←hP] at et ⊢
 clear hP hl2
 refine aw (X:=B×B) [160] [] args.length (fun k x=> gp (args.drop k)=some x.2∧(x.1++x.2) ++ ⟨#[41]⟩=t) (fun x=> [(3,enc x.1)]) (fun _=> []) (P,r) (by simp) (by simp) (by omega) (by simp) (by simp) ⟨hr,et⟩ (by simp) (by simp) ?_ ?_
 ·rintro k ⟨acc,r⟩ hk ⟨q1,q2⟩
  simp only at q1 q2
  obtain⟨x,hx⟩:=cz hk
  obtain⟨_,hgx⟩:=List.getElem?_eq_some_iff.1 hx
  obtain⟨tk,r',c1,c2,rfl⟩:=ja hx q1
  rw[←q2] at hl
  simp only[ag,ab] at hl
  simp at hl
  have hp:pJ lW x:=⟨tk,c1,by omega⟩
  simp[h2,hk,hx,hgx,hp,c1,ab, -Bool.forall_bool, -Bool.exists_bool]
  exact⟨by omega,by omega,r',by simpa using c2,by rw[←q2];simp only[ByteArray.append_assoc]⟩
 ·rintro⟨acc,r⟩ ⟨q1,q2⟩
  simp only at q1 q2
  rw[List.drop_length,gp] at q1
  obtain rfl:=Option.some.inj q1
  rw[←q2] at hl
  simp only[ag,ab] at hl
  simp at hl
  simp[ab, -Bool.forall_bool, -Bool.exists_bool]
  exact⟨by omega,fin (by rw[←q2];simp[E0,aQ])⟩
theorem SL (n:Nat) (h1:S bf=dJ) (h2:S bz=gq) (h3:S aV=cP) (h4:S a7=ik n) (h5:S aL=ny) (h6:S bC=cV):
 Walk aI aG S (a1 Glob) (fun x=> x.op=6∧pJ (aX (n+1)) x) (enc (X:=B)) fun x y=> aX (n+1) x=some y:=by
 rintro⟨op,a,b,name,arg,val,fold,mn,mx,args,kids⟩ ⟨hop,t,ht,hl⟩
 have hL:=jf
 have hR:=ht
 simp only at hop
 subst hop
 have fin: ∀ {u:B},u=t→aX (n+1) ⟨6,a,b,name,arg,val,fold,mn,mx,args,kids⟩=some u:=fun h=> by rw[h];exact hR
 rw[aX,cH _ (by simp)] at ht
 unfold fj kP at ht
 simp only[show Cg 6=some ⟨#[104,101,97,100]⟩ from rfl,Option.bind_some] at ht
 rw[if_neg (by decide)] at ht
 obtain⟨w,hw,ht⟩:=Option.bind_eq_some_iff.1 ht
 obtain rfl:=Option.some.inj hw
 split at ht
 ·cases ht
 obtain⟨r,hr,ht⟩:=Option.map_eq_some_iff.1 ht
 have et: ((((⟨#[104,101,97,100]⟩ ++ ⟨#[40]⟩) ++a) ++ (⟨#[44]⟩ ++b)) ++r) ++ ⟨#[41]⟩=t:=by
  rw[←ht]
  simp[E0,aQ,ByteArray.append_assoc]
 have hl2:=hl
 rw[←et] at hl2
 simp only[ag,ab] at hl2
 simp at hl2
 clear ht
 simp[aI,aG,h5,h6,gi,ab, -Bool.forall_bool, -Bool.exists_bool]
 repeat (refine⟨by omega,?_⟩)
 intro hkl
 obtain⟨P,hP⟩: ∃P,P=(((⟨#[104,101,97,100]⟩ ++ ⟨#[40]⟩) ++a) ++ (⟨#[44]⟩ ++b)):=⟨_,rfl⟩
 rw[←hP] at et ⊢
 clear hP hl2
 refine aw (X:=B×B) [160] [] args.length (fun k x=> gp (args.drop k)=some x.2∧(x.1++x.2) ++ ⟨#[41]⟩=t) (fun x=> [(3,enc x.1)]) (fun _=> []) (P,r) (by simp) (by simp) (by omega) (by simp) (by simp) ⟨hr,et⟩ (by simp) (by simp) ?_ ?_
 ·rintro k ⟨acc,r⟩ hk ⟨q1,q2⟩
  simp only at q1 q2
  obtain⟨x,hx⟩:=cz hk
  obtain⟨_,hgx⟩:=List.getElem?_eq_some_iff.1 hx
  obtain⟨tk,r',c1,c2,rfl⟩:=ja hx q1
  rw[←q2] at hl
  simp only[ag,ab] at hl
  simp at hl
  have hp:pJ lW x:=⟨tk,c1,by omega⟩
  simp[h2,hk,hx,hgx,hp,c1,ab, -Bool.forall_bool, -Bool.exists_bool]
  exact⟨by omega,by omega,r',by simpa using c2,by rw[←q2];simp only[ByteArray.append_assoc]⟩
 ·rintro⟨acc,r⟩ ⟨q1,q2⟩
  simp only at q1 q2
  rw[List.drop_length,gp] at q1
  obtain rfl:=Option.some.inj q1
  rw[←q2] at hl
  simp only[ag,ab] at hl
  simp at hl
  simp[ab, -Bool.forall_bool, -Bool.exists_bool]
  exact⟨by omega,fin (by rw[←q2];simp[E0,aQ])⟩
theorem SK (n:Nat) (h1:S bf=dJ) (h2:S bz=gq) (h3:S aV=cP) (h4:S a7=ik n) (h5:S aL=ny) (h6:S bC=cV):
 Walk aI aG S (a1 Glob) (fun x=> x.op=7∧pJ (aX (n+1)) x) (enc (X:=B)) fun x y=> aX (n+1) x=some y:=by
 rintro⟨op,a,b,name,arg,val,fold,mn,mx,args,kids⟩ ⟨hop,t,ht,hl⟩
 have hL:=jf
 have hR:=ht
 simp only at hop
 subst hop
 have fin: ∀ {u:B},u=t→aX (n+1) ⟨7,a,b,name,arg,val,fold,mn,mx,args,kids⟩=some u:=fun h=> by rw[h];exact hR
 rw[aX,cH _ (by simp)] at ht
 unfold fj kP at ht
 simp only[show Cg 7=some ⟨#[97,110,99,101,115,116,111,114]⟩ from rfl,Option.bind_some] at ht
 rw[if_neg (by decide)] at ht
 obtain⟨w,hw,ht⟩:=Option.bind_eq_some_iff.1 ht
 obtain rfl:=Option.some.inj hw
 split at ht
 ·cases ht
 obtain⟨r,hr,ht⟩:=Option.map_eq_some_iff.1 ht
 have et: ((((⟨#[97,110,99,101,115,116,111,114]⟩ ++ ⟨#[40]⟩) ++a) ++ (⟨#[44]⟩ ++b)) ++r) ++ ⟨#[41]⟩=t:=by
  rw[←ht]
  simp[E0,aQ,ByteArray.append_assoc]
 have hl2:=hl
 rw[←et] at hl2
 simp only[ag,ab] at hl2
 simp at hl2
 clear ht
 simp[aI,aG,h5,h6,gi,ab, -Bool.forall_bool, -Bool.exists_bool]
 repeat (refine⟨by omega,?_⟩)
 intro hkl
 obtain⟨P,hP⟩: ∃P,P=(((⟨#[97,110,99,101,115,116,111,114]⟩ ++ ⟨#[40]⟩) ++a) ++ (⟨#[44]⟩ ++b)):=⟨_,rfl⟩
 rw[←hP] at et ⊢
 clear hP hl2
 refine aw (X:=B×B) [160] [] args.length (fun k x=> gp (args.drop k)=some x.2∧(x.1++x.2) ++ ⟨#[41]⟩=t) (fun x=> [(3,enc x.1)]) (fun _=> []) (P,r) (by simp) (by simp) (by omega) (by simp) (by simp) ⟨hr,et⟩ (by simp) (by simp) ?_ ?_
 ·rintro k ⟨acc,r⟩ hk ⟨q1,q2⟩
  simp only at q1 q2
  obtain⟨x,hx⟩:=cz hk
  obtain⟨_,hgx⟩:=List.getElem?_eq_some_iff.1 hx
  obtain⟨tk,r',c1,c2,rfl⟩:=ja hx q1
  rw[←q2] at hl
  simp only[ag,ab] at hl
  simp at hl
  have hp:pJ lW x:=⟨tk,c1,by omega⟩
  simp[h2,hk,hx,hgx,hp,c1,ab, -Bool.forall_bool, -Bool.exists_bool]
  exact⟨by omega,by omega,r',by simpa using c2,by rw[←q2];simp only[ByteArray.append_assoc]⟩
 ·rintro⟨acc,r⟩ ⟨q1,q2⟩
  simp only at q1 q2
  rw[List.drop_length,gp] at q1
  obtain rfl:=Option.some.inj q1
  rw[←q2] at hl
  simp only[ag,ab] at hl
  simp at hl
  simp[ab, -Bool.forall_bool, -Bool.exists_bool]
  exact⟨by omega,fin (by rw[←q2];simp[E0,aQ])⟩
theorem SJ (n:Nat) (h1:S bf=dJ) (h2:S bz=gq) (h3:S aV=cP) (h4:S a7=ik n) (h5:S aL=ny) (h6:S bC=cV):
 Walk aI aG S (a1 Glob) (fun x=> x.op=8∧pJ (aX (n+1)) x) (enc (X:=B)) fun x y=> aX (n+1) x=some y:=by
 rintro⟨op,a,b,name,arg,val,fold,mn,mx,args,kids⟩ ⟨hop,t,ht,hl⟩
 have hL:=jf
 have hR:=ht
 simp only at hop
 subst hop
 have fin: ∀ {u:B},u=t→aX (n+1) ⟨8,a,b,name,arg,val,fold,mn,mx,args,kids⟩=some u:=fun h=> by rw[h];exact hR
 rw[aX,cH _ (by simp)] at ht
 unfold fj kP at ht
 simp only[show Cg 8=some ⟨#[112,97,116,104]⟩ from rfl,Option.bind_some] at ht
 rw[if_neg (by decide)] at ht
 obtain⟨w,hw,ht⟩:=Option.bind_eq_some_iff.1 ht
 obtain rfl:=Option.some.inj hw
 split at ht
 ·cases ht
 obtain⟨r,hr,ht⟩:=Option.map_eq_some_iff.1 ht
 have et: ((((⟨#[112,97,116,104]⟩ ++ ⟨#[40]⟩) ++a) ++ (⟨#[44]⟩ ++b)) ++r) ++ ⟨#[41]⟩=t:=by
  rw[←ht]
  simp[E0,aQ,ByteArray.append_assoc]
 have hl2:=hl
 rw[←et] at hl2
 simp only[ag,ab] at hl2
 simp at hl2
 clear ht
 simp[aI,aG,h5,h6,gi,ab, -Bool.forall_bool, -Bool.exists_bool]
 repeat (refine⟨by omega,?_⟩)
 intro hkl
 obtain⟨P,hP⟩: ∃P,P=(((⟨#[112,97,116,104]⟩ ++ ⟨#[40]⟩) ++a) ++ (⟨#[44]⟩ ++b)):=⟨_,rfl⟩
 rw[←hP] at et ⊢
 clear hP hl2
 refine aw (X:=B×B) [160] [] args.length (fun k x=> gp (args.drop k)=some x.2∧(x.1++x.2) ++ ⟨#[41]⟩=t) (fun x=> [(3,enc x.1)]) (fun _=> []) (P,r) (by simp) (by simp) (by omega) (by simp) (by simp) ⟨hr,et⟩ (by simp) (by simp) ?_ ?_
 ·rintro k ⟨acc,r⟩ hk ⟨q1,q2⟩
  simp only at q1 q2
  obtain⟨x,hx⟩:=cz hk
  obtain⟨_,hgx⟩:=List.getElem?_eq_some_iff.1 hx
  obtain⟨tk,r',c1,c2,rfl⟩:=ja hx q1
  rw[←q2] at hl
  simp only[ag,ab] at hl
  simp at hl
  have hp:pJ lW x:=⟨tk,c1,by omega⟩
  simp[h2,hk,hx,hgx,hp,c1,ab, -Bool.forall_bool, -Bool.exists_bool]
  exact⟨by omega,by omega,r',by simpa using c2,by rw[←q2];simp only[ByteArray.append_assoc]⟩
 ·rintro⟨acc,r⟩ ⟨q1,q2⟩
  simp only at q1 q2
  rw[List.drop_length,gp] at q1
  obtain rfl:=Option.some.inj q1
  rw[←q2] at hl
  simp only[ag,ab] at hl
  simp at hl
  simp[ab, -Bool.forall_bool, -Bool.exists_bool]
  exact⟨by omega,fin (by rw[←q2];simp[E0,aQ])⟩
theorem SI (n:Nat) (h1:S bf=dJ) (h2:S bz=gq) (h3:S aV=cP) (h4:S a7=ik n) (h5:S aL=ny) (h6:S bC=cV):
 Walk aI aG S (a1 Glob) (fun x=> x.op=9∧pJ (aX (n+1)) x) (enc (X:=B)) fun x y=> aX (n+1) x=some y:=by
 rintro⟨op,a,b,name,arg,val,fold,mn,mx,args,kids⟩ ⟨hop,t,ht,hl⟩
 have hL:=jf
 have hR:=ht
 simp only at hop
 subst hop
 have fin: ∀ {u:B},u=t→aX (n+1) ⟨9,a,b,name,arg,val,fold,mn,mx,args,kids⟩=some u:=fun h=> by rw[h];exact hR
 rw[aX,cH _ (by simp)] at ht
 unfold fj kP at ht
 simp only[show Cg 9=some ⟨#[110,111,100,101]⟩ from rfl,Option.bind_some] at ht
 rw[if_neg (by decide)] at ht
 obtain⟨w,hw,ht⟩:=Option.bind_eq_some_iff.1 ht
 obtain rfl:=Option.some.inj hw
 split at ht
 ·cases ht
 obtain⟨r,hr,ht⟩:=Option.map_eq_some_iff.1 ht
 have et: (((((⟨#[110,111,100,101]⟩ ++ ⟨#[40]⟩) ++a) ++ (⟨#[44]⟩ ++b)) ++ (⟨#[44]⟩ ++name)) ++r) ++ ⟨#[41]⟩=t:=by
  rw[←ht]
  simp[E0,aQ,ByteArray.append_assoc]
 have hl2:=hl
 rw[←et] at hl2
 simp only[ag,ab] at hl2
 simp at hl2
 clear ht
 simp[aI,aG,h5,h6,gi,ab, -Bool.forall_bool, -Bool.exists_bool]
 repeat (refine⟨by omega,?_⟩)
 intro hkl
 obtain⟨P,hP⟩: ∃P,P=((((⟨#[110,111,100,101]⟩ ++ ⟨#[40]⟩) ++a) ++ (⟨#[44]⟩ ++b)) ++ (⟨#[44]⟩ ++name)):=⟨_,rfl⟩
 rw[←hP] at et ⊢
 clear hP hl2
 refine aw (X:=B×B) [160] [] args.length (fun k x=> gp (args.drop k)=some x.2∧(x.1++x.2) ++ ⟨#[41]⟩=t) (fun x=> [(3,enc x.1)]) (fun _=> []) (P,r) (by simp) (by simp) (by omega) (by simp) (by simp) ⟨hr,et⟩ (by simp) (by simp) ?_ ?_
 ·rintro k ⟨acc,r⟩ hk ⟨q1,q2⟩
  simp only at q1 q2
  obtain⟨x,hx⟩:=cz hk
  obtain⟨_,hgx⟩:=List.getElem?_eq_some_iff.1 hx
  obtain⟨tk,r',c1,c2,rfl⟩:=ja hx q1
  rw[←q2] at hl
  simp only[ag,ab] at hl
  simp at hl
  have hp:pJ lW x:=⟨tk,c1,by omega⟩
  simp[h2,hk,hx,hgx,hp,c1,ab, -Bool.forall_bool, -Bool.exists_bool]
  exact⟨by omega,by omega,r',by simpa using c2,by rw[←q2];simp only[ByteArray.append_assoc]⟩
 ·rintro⟨acc,r⟩ ⟨q1,q2⟩
  simp only at q1 q2
  rw[List.drop_length,gp] at q1
  obtain rfl:=Option.some.inj q1
  rw[←q2] at hl
  simp only[ag,ab] at hl
  simp at hl
  simp[ab, -Bool.forall_bool, -Bool.exists_bool]
  exact⟨by omega,fin (by rw[←q2];simp[E0,aQ])⟩
theorem QY (n:Nat) (h1:S bf=dJ) (h2:S bz=gq) (h3:S aV=cP) (h4:S a7=ik n) (h5:S aL=ny) (h6:S bC=cV):
 Walk aI aG S (a1 Glob) (fun x=> x.op=10∧pJ (aX (n+1)) x) (enc (X:=B)) fun x y=> aX (n+1) x=some y:=by
 rintro⟨op,a,b,name,arg,val,fold,mn,mx,args,kids⟩ ⟨hop,t,ht,hl⟩
 have hL:=jf
 have hR:=ht
 simp only at hop
 subst hop
 have fin: ∀ {u:B},u=t→aX (n+1) ⟨10,a,b,name,arg,val,fold,mn,mx,args,kids⟩=some u:=fun h=> by rw[h];exact hR
 rw[aX,cH _ (by simp)] at ht
 unfold fj kP at ht
 simp only[show Cg 10=some ⟨#[100,101,112,116,104]⟩ from rfl,Option.bind_some] at ht
 rw[if_pos (by decide)] at ht
 obtain⟨w,hw,ht⟩:=Option.bind_eq_some_iff.1 ht
 obtain⟨d,hd,hw⟩:=Option.bind_eq_some_iff.1 hw
 obtain⟨e,he,hw⟩:=Option.map_eq_some_iff.1 hw
 have rd:=o9 hd
 have re:=o9 he
 split at ht
 ·cases ht
 obtain⟨r,hr,ht⟩:=Option.map_eq_some_iff.1 ht
 have et: ((((⟨#[100,101,112,116,104]⟩ ++ ⟨#[40]⟩) ++a) ++ (((⟨#[44]⟩ ++d) ++ ⟨#[44]⟩) ++e)) ++r) ++ ⟨#[41]⟩=t:=by
  rw[←ht]
  simp[←hw,E0,aQ,ByteArray.append_assoc]
 have hl2:=hl
 rw[←et] at hl2
 simp only[ag,ab] at hl2
 simp at hl2
 clear ht
 simp[aI,aG,h5,h6,gi,hd,he,rd,re,ab, -Bool.forall_bool, -Bool.exists_bool]
 repeat (refine⟨by omega,?_⟩)
 intro hkl
 obtain⟨P,hP⟩: ∃P,P=(((⟨#[100,101,112,116,104]⟩ ++ ⟨#[40]⟩) ++a) ++ (((⟨#[44]⟩ ++d) ++ ⟨#[44]⟩) ++e)):=⟨_,rfl⟩
 rw[←hP] at et ⊢
 clear hP hl2
 refine aw (X:=B×B) [160] [] args.length (fun k x=> gp (args.drop k)=some x.2∧(x.1++x.2) ++ ⟨#[41]⟩=t) (fun x=> [(3,enc x.1)]) (fun _=> []) (P,r) (by simp) (by simp) (by omega) (by simp) (by simp) ⟨hr,et⟩ (by simp) (by simp) ?_ ?_
 ·rintro k ⟨acc,r⟩ hk ⟨q1,q2⟩
  simp only at q1 q2
  obtain⟨x,hx⟩:=cz hk
  obtain⟨_,hgx⟩:=List.getElem?_eq_some_iff.1 hx
  obtain⟨tk,r',c1,c2,rfl⟩:=ja hx q1
  rw[←q2] at hl
  simp only[ag,ab] at hl
  simp at hl
  have hp:pJ lW x:=⟨tk,c1,by omega⟩
  simp[h2,hk,hx,hgx,hp,c1,ab, -Bool.forall_bool, -Bool.exists_bool]
  exact⟨by omega,by omega,r',by simpa using c2,by rw[←q2];simp only[ByteArray.append_assoc]⟩
 ·rintro⟨acc,r⟩ ⟨q1,q2⟩
  simp only at q1 q2
  rw[List.drop_length,gp] at q1
  obtain rfl:=Option.some.inj q1
  rw[←q2] at hl
  simp only[ag,ab] at hl
  simp at hl
  simp[ab, -Bool.forall_bool, -Bool.exists_bool]
  exact⟨by omega,fin (by rw[←q2];simp[E0,aQ])⟩
end Go.Gv

namespace Go.Gv
open Cod (enc dec)
variable {S S0:Nat→Spc}
theorem AW (n:Nat) (h1:S bf=dJ) (h2:S bz=gq) (h3:S aV=cP) (h4:S a7=ik n) (h5:S aL=ny) (h6:S bC=cV):
 Walk aI aG S (a1 Glob) (pJ (aX (n+1))) (enc (X:=B)) fun x y=> aX (n+1) x=some y:=by
 intro g hg
 by_cases e2:g.op=2∨g.op=3∨g.op=11
 ·exact NT n h1 h2 h3 h4 h5 h6 g ⟨e2,hg⟩
 by_cases e12:g.op=12
 ·exact HT n h1 h2 h3 h4 h5 h6 g ⟨e12,hg⟩
 by_cases e13:g.op=13
 ·exact HR n h1 h2 h3 h4 h5 h6 g ⟨e13,hg⟩
 obtain⟨t,ht,hl⟩:=hg
 have ho: ∃w,Cg g.op=some w:=by
  have ht2:=ht
  rw[aX,ka,if_neg (by omega),if_neg (by omega),if_neg (by omega),if_neg (by omega),fj] at ht2
  obtain⟨w,hw,_⟩:=Option.bind_eq_some_iff.1 ht2
  exact⟨w,hw⟩
 have ho:g.op=1∨g.op=4∨g.op=5∨g.op=6∨g.op=7∨g.op=8∨g.op=9∨g.op=10:=by
  obtain⟨w,hw⟩:=ho
  unfold Cg at hw
  by_cases c1:g.op=1
  ·omega
  by_cases c4:g.op=4
  ·omega
  by_cases c5:g.op=5
  ·omega
  by_cases c6:g.op=6
  ·omega
  by_cases c7:g.op=7
  ·omega
  by_cases c8:g.op=8
  ·omega
  by_cases c9:g.op=9
  ·omega
  by_cases c10:g.op=10
  ·omega
  rw[if_neg c1,if_neg c4,if_neg c5,if_neg c6,if_neg c7,if_neg c8,if_neg c9,if_neg c10] at hw
  cases hw
 rcases ho with e | e | e | e | e | e | e | e
 ·exact SO n h1 h2 h3 h4 h5 h6 g ⟨e,t,ht,hl⟩
 ·exact SN n h1 h2 h3 h4 h5 h6 g ⟨e,t,ht,hl⟩
 ·exact SM n h1 h2 h3 h4 h5 h6 g ⟨e,t,ht,hl⟩
 ·exact SL n h1 h2 h3 h4 h5 h6 g ⟨e,t,ht,hl⟩
 ·exact SK n h1 h2 h3 h4 h5 h6 g ⟨e,t,ht,hl⟩
 ·exact SJ n h1 h2 h3 h4 h5 h6 g ⟨e,t,ht,hl⟩
 ·exact SI n h1 h2 h3 h4 h5 h6 g ⟨e,t,ht,hl⟩
 ·exact QY n h1 h2 h3 h4 h5 h6 g ⟨e,t,ht,hl⟩
end Go.Gv

namespace Go.Gv
open Cod (enc dec)
variable {S S0:Nat→Spc}
def qcp (q:Qry):Prop:= ∃n,n≤5∧GQ n q
abbrev Bc:Spc:=cY (a1 Qry) qcp (enc (X:=B)) fun q y=> Dv q=some y
theorem ul {l:List Filt} {k:Nat} {x:Filt} (hx:l[k]?=some x) {r:B} (h:kV (l.drop k)=some r): ∃t r',KZ x=some t∧kV (l.drop (k+1))=some r'∧r=t++r':=by
 rw[show l.drop k=x::l.drop (k+1) from ek hx,kV] at h
 obtain⟨t,h1,h⟩:=Option.bind_eq_some_iff.1 h
 obtain⟨r',h2,h⟩:=Option.map_eq_some_iff.1 h
 exact⟨t,r',h1,h2,h.symm⟩
set_option maxHeartbeats 2000000 in
theorem Jx (h1:S fR=A7) (h2:S lJ=Bi) (h3:S dP=s_leaves) (h4:S dO=s_malfA) (h5:S dj=vD 10) (h6:S a7=ik 10) (h7:S lI=oz) (h8:S iv=s_qstrats):
 Walk qN qo S (a1 Qry) qcp (enc (X:=B)) fun q y=> Dv q=some y:=by
 rintro⟨p,g,fs,st⟩ ⟨n,hn,hq⟩
 obtain⟨t,ht,hl⟩:=L3 hq hn
 have hL:=jf
 have hR:=ht
 have fin: ∀ {u:B},u=t→Dv ⟨p,g,fs,st⟩=some u:=fun h=> by rw[h];exact hR
 unfold Dv at ht
 simp only at ht
 obtain⟨tp,hp,ht⟩:=Option.bind_eq_some_iff.1 ht
 obtain⟨tg,hg,ht⟩:=Option.bind_eq_some_iff.1 ht
 obtain⟨tf,hf,ht⟩:=Option.bind_eq_some_iff.1 ht
 obtain⟨ts,hs,ht⟩:=Option.map_eq_some_iff.1 ht
 rw[←ht] at hl
 simp only[ag] at hl
 have q1:pJ (eT (bj 10) 10) p:=⟨tp,hp,by omega⟩
 have q2:=PW hq hn
 simp only[sa,Bool.and_eq_true] at q2
 have q3:VZ p []:=by
  have:=Uu hq hn
  have:=F7 p
  show 0+ (aW p).length≤_
  simp only at*
  omega
 have q4:qhW g:=hq.glob.elim .inl fun h=> .inr ⟨_,2,Nat.le_refl _,h⟩
 have q5: ∀y∈aW p,∃lb m,m≤2∧GC lb m y.cond:=fun y hy=> ⟨_,1,by omega,hq.cond y hy⟩
 have q6:=hq.strat
 simp only at q6
 have q7: ¬st < 0:=by omega
 have q8: ¬3 < st:=by omega
 have q9:=hq.filts.2
 simp only at q9
 simp[qN,qo,h1,h2,h3,q2,q3,q4,q7,q8, -Bool.forall_bool, -Bool.exists_bool]
 refine .inl fun hkl=> ?_
 refine aw (X:=Unit) [1,30] [] (aW p).length (fun k _=> True) (fun _=> []) (fun _=> []) () (by simp) (by simp) (by omega) (by simp) (by simp) (by simp) (by simp) (by simp) ?_ ?_
 ·rintro k -hk -
  obtain⟨y,hy⟩:=cz hk
  obtain⟨_,hgy⟩:=List.getElem?_eq_some_iff.1 hy
  have hp:=q5 y (cn hy)
  simp[h4,hk,hy,hgy,hp, -Bool.forall_bool, -Bool.exists_bool]
 rintro - -
 by_cases hg0:g.op=0
 ·obtain rfl:tg=E0:=by
   unfold zr at hg
   rw[if_pos hg0] at hg
   exact(Option.some.inj hg).symm
  simp[h5,q1,hp,hg0, -Bool.forall_bool, -Bool.exists_bool]
  intro hkl2
  obtain⟨P,hP⟩: ∃P,P=tp++E0:=⟨_,rfl⟩
  have hP':tp=P:=by rw[hP,E0,aQ]
  rw[hP']
  refine aw (X:=B×B) [1,54] [] fs.length (fun k x=> kV (fs.drop k)=some x.2∧x.1++x.2=(tp++E0) ++tf) (fun x=> [(5,enc x.1)]) (fun _=> []) (P,tf) (by simp) (by simp) (by omega) (by simp) (by simp) ⟨hf,by rw[hP]⟩ (by simp) (by simp) ?_ ?_
  ·rintro k ⟨acc,r⟩ hk ⟨c1,c2⟩
   simp only at c1 c2
   obtain⟨x,hx⟩:=cz hk
   obtain⟨_,hgx⟩:=List.getElem?_eq_some_iff.1 hx
   obtain⟨tk,r',d1,d2,rfl⟩:=ul hx c1
   obtain⟨e1,e2⟩:=q9 x (cn hx)
   have hl2:acc.size+ (tk.size+r'.size)≤6000:=by
    have:=congrArg ByteArray.size c2
    simp only[ag] at this
    omega
   obtain⟨fop,fneg,freg⟩:=x
   simp only at e1 e2
   have nxt: ∀ (s0:B),s0=acc++tk→ ∃y,kV (fs.drop (k+1))=some y∧s0++y=(tp++E0) ++tf:=fun s0 e=> ⟨r',d2,by rw[e,←c2,ByteArray.append_assoc]⟩
   unfold KZ at d1
   rcases e1 with rfl | rfl | rfl <;> cases fneg
   all_goals
    obtain rfl:=Option.some.inj d1
    simp only[ag,ab] at hl2
    simp at hl2
    simp[h7,hk,hx,hgx,filterL,ab, -Bool.forall_bool, -Bool.exists_bool]
    repeat (refine And.intro (by omega) ?_)
    refine nxt _ ?_
    simp[filterL,ByteArray.append_assoc]
  ·rintro⟨acc,r⟩ ⟨c1,c2⟩
   simp only at c1 c2
   rw[List.drop_length,kV] at c1
   obtain rfl:=Option.some.inj c1
   have hacc:acc=(tp++E0) ++tf:=by rw[←c2,E0,aQ]
   have hasz:acc.size≤6000:=by
    rw[hacc]
    simp only[ag]
    omega
   have hst:st=0∨st=1∨st=2∨st=3:=by omega
   rcases hst with rfl | rfl | rfl | rfl
   all_goals
    obtain rfl:=Option.some.inj hs
    simp[h8,strategyL,ab, -Bool.forall_bool, -Bool.exists_bool]
    repeat (refine And.intro (by omega) ?_)
    exact fin (by rw[←ht,hacc] <;> simp[strategyL,E0,aQ,ByteArray.append_assoc])
 ·obtain⟨u,hu,htg⟩: ∃u,aX 10 g=some u∧⟨#[32,58,58,32]⟩ ++u=tg:=by
   unfold zr at hg
   rw[if_neg hg0] at hg
   exact Option.map_eq_some_iff.1 hg
  have hsz:tg.size=4+u.size:=by rw[←htg,ag];rfl
  have qg:pJ (aX 10) g:=⟨u,hu,by omega⟩
  simp[h5,h6,q1,qg,hu,hp,hg0,ab, -Bool.forall_bool, -Bool.exists_bool]
  repeat (refine And.intro (by omega) ?_)
  intro hkl2
  rw[htg]
  obtain⟨P,hP⟩: ∃P,P=tp++tg:=⟨_,rfl⟩
  rw[←hP]
  refine aw (X:=B×B) [1,54] [] fs.length (fun k x=> kV (fs.drop k)=some x.2∧x.1++x.2=(tp++tg) ++tf) (fun x=> [(5,enc x.1)]) (fun _=> []) (P,tf) (by simp) (by simp) (by omega) (by simp) (by simp) ⟨hf,by rw[hP]⟩ (by simp) (by simp) ?_ ?_
  ·rintro k ⟨acc,r⟩ hk ⟨c1,c2⟩
   simp only at c1 c2
   obtain⟨x,hx⟩:=cz hk
   obtain⟨_,hgx⟩:=List.getElem?_eq_some_iff.1 hx
   obtain⟨tk,r',d1,d2,rfl⟩:=ul hx c1
   obtain⟨e1,e2⟩:=q9 x (cn hx)
   have hl2:acc.size+ (tk.size+r'.size)≤6000:=by
    have:=congrArg ByteArray.size c2
    simp only[ag] at this
    omega
   obtain⟨fop,fneg,freg⟩:=x
   simp only at e1 e2
   have nxt: ∀ (s0:B),s0=acc++tk→ ∃y,kV (fs.drop (k+1))=some y∧s0++y=(tp++tg) ++tf:=fun s0 e=> ⟨r',d2,by rw[e,←c2,ByteArray.append_assoc]⟩
   unfold KZ at d1
   rcases e1 with rfl | rfl | rfl <;> cases fneg
   all_goals
    obtain rfl:=Option.some.inj d1
    simp only[ag,ab] at hl2
    simp at hl2
    simp[h7,hk,hx,hgx,filterL,ab, -Bool.forall_bool, -Bool.exists_bool]
    repeat (refine And.intro (by omega) ?_)
    refine nxt _ ?_
    simp[filterL,ByteArray.append_assoc]
  ·rintro⟨acc,r⟩ ⟨c1,c2⟩
   simp only at c1 c2
   rw[List.drop_length,kV] at c1
   obtain rfl:=Option.some.inj c1
   have hacc:acc=(tp++tg) ++tf:=by rw[←c2,E0,aQ]
   have hasz:acc.size≤6000:=by
    rw[hacc]
    simp only[ag]
    omega
   have hst:st=0∨st=1∨st=2∨st=3:=by omega
   rcases hst with rfl | rfl | rfl | rfl
   all_goals
    obtain rfl:=Option.some.inj hs
    simp[h8,strategyL,ab, -Bool.forall_bool, -Bool.exists_bool]
    repeat (refine And.intro (by omega) ?_)
    exact fin (by rw[←ht,hacc] <;> simp[strategyL,E0,aQ,ByteArray.append_assoc])
end Go.Gv

namespace Go.Gv
open Cod (enc dec)
variable {S S0:Nat→Spc}
end Go.Gv

namespace Go.Gv
open Go.Proofs Cod
theorem Jq:Tri Tryz.prog bz (gq).pt:=
 ak (S:=cj []) (ap ah) Kq (fun _=> Nat.le_of_ble_eq_true rfl) (Ls)
theorem El:Tri Tryz.prog bf (dJ).pt:=
 ak (S:=cj [(bz,gq)]) (ap (ac Jq ah)) H7 (fun _=> Nat.le_of_ble_eq_true rfl) (Ju rfl)
theorem AT:Tri Tryz.prog aV (cP).pt:=
 ak (S:=cj []) (ap ah) Fz (fun _=> Nat.le_of_ble_eq_true rfl) (Hy)
theorem Su: ∀n,Tri Tryz.prog aL (Tk n).pt
 | 0=> cM fun x h=> by have h:=h.2.2.2;omega
 | n+1=> ak (S:=cj [(aL,Tk n)]) (ap (ac (Su n) ah)) Dx (fun _=> Nat.le_of_ble_eq_true rfl) (HB n rfl)
theorem XW:Tri Tryz.prog aL s_decA.pt:=fu (fun n=> Su n) (gx (fun x h=> ⟨2,h.1,h.2,fun _=> Nat.le_refl _,by omega⟩))
theorem Cu: ∀n,Tri Tryz.prog cw (rE n).pt
 | 0=> cM fun x h=> by obtain⟨t,h,_⟩:=h;cases h
 | n+1=> ak (S:=cj [(bf,dJ),(bz,gq),(aV,cP),(cw,rE n)]) (ap (ac El (ac Jq (ac AT (ac (Cu n) ah))))) BC (fun _=> Nat.le_of_ble_eq_true rfl) (De n rfl rfl rfl rfl)
theorem Iz: ∀n,Tri Tryz.prog dj (vD n).pt
 | 0=> cM fun x h=> by obtain⟨t,h,_⟩:=h;cases h
 | n+1=> ak (S:=cj [(bf,dJ),(cw,rE 10),(aV,cP),(aL,s_decA),(dj,vD n)]) (ap (ac El (ac (Cu 10) (ac AT (ac XW (ac (Iz n) ah)))))) FA (fun _=> Nat.le_of_ble_eq_true rfl) (Hz n rfl rfl rfl rfl rfl)
theorem zp: ∀n,Tri Tryz.prog a7 (ik n).pt
 | 0=> cM fun x h=> by obtain⟨t,h,_⟩:=h;cases h
 | n+1=> ak (S:=cj [(bf,dJ),(bz,gq),(aV,cP),(aL,ny),(bC,cV),(a7,ik n)]) (ap (ac El (ac Jq (ac AT (ac XW (ac Mc (ac (zp n) ah))))))) Ag (fun _=> Nat.le_of_ble_eq_true rfl) (AW n rfl rfl rfl rfl rfl rfl)
theorem Lq: ∀n,Tri Tryz.prog gT (Kb n).pt
 | 0=> cM fun x h=> by have h:=h.1;rw[uC] at h;omega
 | n+1=> ak (S:=cj [(gT,Kb n)]) (ap (ac (Lq n) ah)) Kr (fun _=> Nat.le_of_ble_eq_true rfl) (Lt n rfl)
theorem Wg:Tri Tryz.prog gT s_countA.pt:=fu (fun n=> Lq n) (gx (fun x h=> h))
theorem Wi:Tri Tryz.prog o6 (Kg).pt:=
 ak (S:=cj [(gT,s_countA)]) (ap (ac Wg ah)) Ku (fun _=> Nat.le_of_ble_eq_true rfl) (Lw rfl)
theorem Wh:Tri Tryz.prog o5 (yQ).pt:=
 ak (S:=cj []) (ap ah) Kt (fun _=> Nat.le_of_ble_eq_true rfl) (Lv)
theorem Pr: ∀n,Tri Tryz.prog dO (Oe n).pt
 | 0=> cM fun x h=> by have h:=h.1;rw[uC] at h;omega
 | n+1=> ak (S:=cj [(o6,Kg),(o5,yQ),(dO,Oe n)]) (ap (ac Wi (ac Wh (ac (Pr n) ah)))) Bz (fun _=> Nat.le_of_ble_eq_true rfl) (Da n rfl rfl rfl)
theorem YG:Tri Tryz.prog dO s_malfA.pt:=fu (fun n=> Pr n) (gx (fun x h=> ⟨fk x,Nat.le_refl _,h⟩))
theorem zo: ∀n,Tri Tryz.prog dR (vI n).pt
 | 0=> cM fun x h=> by have h:=h.1;rw[Az] at h;omega
 | n+1=> ak (S:=cj [(dR,vI n)]) (ap (ac (zo n) ah)) BB (fun _=> Nat.le_of_ble_eq_true rfl) (Dc n rfl)
theorem Lp:Tri Tryz.prog dR s_globNodesA.pt:=fu (fun n=> zo n) (gx (fun x h=> h))
theorem zn: ∀n,Tri Tryz.prog dQ (vH n).pt
 | 0=> cM fun x h=> by have h:=h.1;rw[Az] at h;omega
 | n+1=> ak (S:=cj [(dQ,vH n)]) (ap (ac (zn n) ah)) BA (fun _=> Nat.le_of_ble_eq_true rfl) (Db n rfl)
theorem Lo:Tri Tryz.prog dQ s_globShapeA.pt:=fu (fun n=> zn n) (gx (fun x h=> h))
theorem QC:Tri Tryz.prog lJ (Bi).pt:=
 ak (S:=cj [(dR,s_globNodesA),(dQ,s_globShapeA)]) (ap (ac Lp (ac Lo ah))) FD (fun _=> Nat.le_of_ble_eq_true rfl) (HC rfl rfl)
theorem Sv:Tri Tryz.prog m6 (Bc).pt:=
 ak (S:=cj [(fR,A7),(lJ,Bi),(dP,s_leaves),(dO,s_malfA),(dj,vD 10),(a7,ik 10),(lI,oz),(iv,s_qstrats)]) (ap (ac JG (ac QC (ac JH (ac YG (ac (Iz 10) (ac (zp 10) (ac Rc (ac Ko ah))))))))) FF (fun _=> Nat.le_of_ble_eq_true rfl) (Jx rfl rfl rfl rfl rfl rfl rfl rfl)
end Go.Gv
