/- A part of the framework and of the walks: W108 W109 W110 W105 Asm8. -/
import Derived.Test.YtaiffcbkmgfklaaGreatDoorGt45
import Derived.Test.YtaiffcbkmgfklaaGreatDoorGt43
import Derived.Test.YtaiffcbkmgfklaaGreatDoorGt46
import Derived.Test.YtaiffcbkmgfklaaGreatDoorGt34
import Derived.Test.YtaiffcbkmgfklaaGreatDoorGt42
set_option linter.unusedSimpArgs false
set_option linter.unusedVariables false
set_option maxRecDepth 100000

namespace Go.Gv
open Cod (enc dec)
variable {S S0:Nat→Spc}
theorem Qy (n:Nat) (h1:S aV=cP) (h2:S bd=fj) (h3:S aO=ca) (h4:S aR=fZ n) (h5:S aH=lM) (h6:S bf=ci):
 Walk aB aA S (a1 Glob) (fun x=> x.op=1∧nc (bc (n+1)) x) (enc (X:=B)) fun x y=> bc (n+1) x=some y:=by
 rintro⟨op,a,b,name,arg,val,fold,mn,mx,args,kids⟩ ⟨hop,t,ht,hl⟩
 have hL:=mY
 have hR:=ht
 simp only at hop
 subst hop
 have fin: ∀ {u:B},u=t→bc (n+1) ⟨1,a,b,name,arg,val,fold,mn,mx,args,kids⟩=some u:=fun h=> by rw[h];exact hR
 rw[bc,dR _ (by simp)] at ht
 unfold qR uj at ht
 simp only[show Qa 1=some ⟨#[98,111,117,110,100]⟩ from rfl,Option.bind_some] at ht
 rw[if_neg (by decide)] at ht
 obtain⟨w,hw,ht⟩:=Option.bind_eq_some_iff.1 ht
 obtain rfl:=Option.some.inj hw
 split at ht
 ·cases ht
 obtain⟨r,hr,ht⟩:=Option.map_eq_some_iff.1 ht
 have et: (((⟨#[98,111,117,110,100]⟩ ++ ⟨#[40]⟩) ++a) ++r) ++ ⟨#[41]⟩=t:=by
  rw[←ht]
  simp[E0,cD,ByteArray.append_assoc]
 have hl2:=hl
 rw[←et] at hl2
 simp only[ai,af] at hl2
 simp at hl2
 clear ht
 simp[aB,aA,h5,h6,fc,af, -Bool.forall_bool, -Bool.exists_bool]
 repeat (refine⟨by omega,?_⟩)
 intro hkl
 obtain⟨P,hP⟩: ∃P,P=((⟨#[98,111,117,110,100]⟩ ++ ⟨#[40]⟩) ++a):=⟨_,rfl⟩
 rw[←hP] at et ⊢
 clear hP hl2
 refine aJ (X:=B×B) [160] [] args.length (fun k x=> ja (args.drop k)=some x.2∧(x.1++x.2) ++ ⟨#[41]⟩=t) (fun x=> [(3,enc x.1)]) (fun _=> []) (P,r) (by simp) (by simp) (by omega) (by simp) (by simp) ⟨hr,et⟩ (by simp) (by simp) ?_ ?_
 ·rintro k ⟨acc,r⟩ hk ⟨q1,q2⟩
  simp only at q1 q2
  obtain⟨x,hx⟩:=cV hk
  obtain⟨_,hgx⟩:=List.getElem?_eq_some_iff.1 hx
  obtain⟨tk,r',c1,c2,rfl⟩:=i9 hx q1
  rw[←q2] at hl
  simp only[ai,af] at hl
  simp at hl
  have hp:nc lE x:=⟨tk,c1,by omega⟩
  simp[h2,hk,hx,hgx,hp,c1,af, -Bool.forall_bool, -Bool.exists_bool]
  exact⟨by omega,by omega,r',by simpa using c2,by rw[←q2];simp only[ByteArray.append_assoc]⟩
 ·rintro⟨acc,r⟩ ⟨q1,q2⟩
  simp only at q1 q2
  rw[List.drop_length,ja] at q1
  obtain rfl:=Option.some.inj q1
  rw[←q2] at hl
  simp only[ai,af] at hl
  simp at hl
  simp[af, -Bool.forall_bool, -Bool.exists_bool]
  exact⟨by omega,fin (by rw[←q2];simp[E0,cD])⟩
theorem Qx (n:Nat) (h1:S aV=cP) (h2:S bd=fj) (h3:S aO=ca) (h4:S aR=fZ n) (h5:S aH=lM) (h6:S bf=ci):
 Walk aB aA S (a1 Glob) (fun x=> x.op=4∧nc (bc (n+1)) x) (enc (X:=B)) fun x y=> bc (n+1) x=some y:=by
 rintro⟨op,a,b,name,arg,val,fold,mn,mx,args,kids⟩ ⟨hop,t,ht,hl⟩
 have hL:=mY
 have hR:=ht
 simp only at hop
 subst hop
 have fin: ∀ {u:B},u=t→bc (n+1) ⟨4,a,b,name,arg,val,fold,mn,mx,args,kids⟩=some u:=fun h=> by rw[h];exact hR
 rw[bc,dR _ (by simp)] at ht
 unfold qR uj at ht
 simp only[show Qa 4=some ⟨#[100,105,115,116,97,110,99,101]⟩ from rfl,Option.bind_some] at ht
 rw[if_pos (by decide)] at ht
 obtain⟨w,hw,ht⟩:=Option.bind_eq_some_iff.1 ht
 obtain⟨d,hd,hw⟩:=Option.bind_eq_some_iff.1 hw
 obtain⟨e,he,hw⟩:=Option.map_eq_some_iff.1 hw
 have rd:=yE hd
 have re:=yE he
 split at ht
 ·cases ht
 obtain⟨r,hr,ht⟩:=Option.map_eq_some_iff.1 ht
 have et: (((((⟨#[100,105,115,116,97,110,99,101]⟩ ++ ⟨#[40]⟩) ++a) ++ (⟨#[44]⟩ ++b)) ++ (((⟨#[44]⟩ ++d) ++ ⟨#[44]⟩) ++e)) ++r) ++ ⟨#[41]⟩=t:=by
  rw[←ht]
  simp[←hw,E0,cD,ByteArray.append_assoc]
 have hl2:=hl
 rw[←et] at hl2
 simp only[ai,af] at hl2
 simp at hl2
 clear ht
 simp[aB,aA,h5,h6,fc,hd,he,rd,re,af, -Bool.forall_bool, -Bool.exists_bool]
 repeat (refine⟨by omega,?_⟩)
 intro hkl
 obtain⟨P,hP⟩: ∃P,P=((((⟨#[100,105,115,116,97,110,99,101]⟩ ++ ⟨#[40]⟩) ++a) ++ (⟨#[44]⟩ ++b)) ++ (((⟨#[44]⟩ ++d) ++ ⟨#[44]⟩) ++e)):=⟨_,rfl⟩
 rw[←hP] at et ⊢
 clear hP hl2
 refine aJ (X:=B×B) [160] [] args.length (fun k x=> ja (args.drop k)=some x.2∧(x.1++x.2) ++ ⟨#[41]⟩=t) (fun x=> [(3,enc x.1)]) (fun _=> []) (P,r) (by simp) (by simp) (by omega) (by simp) (by simp) ⟨hr,et⟩ (by simp) (by simp) ?_ ?_
 ·rintro k ⟨acc,r⟩ hk ⟨q1,q2⟩
  simp only at q1 q2
  obtain⟨x,hx⟩:=cV hk
  obtain⟨_,hgx⟩:=List.getElem?_eq_some_iff.1 hx
  obtain⟨tk,r',c1,c2,rfl⟩:=i9 hx q1
  rw[←q2] at hl
  simp only[ai,af] at hl
  simp at hl
  have hp:nc lE x:=⟨tk,c1,by omega⟩
  simp[h2,hk,hx,hgx,hp,c1,af, -Bool.forall_bool, -Bool.exists_bool]
  exact⟨by omega,by omega,r',by simpa using c2,by rw[←q2];simp only[ByteArray.append_assoc]⟩
 ·rintro⟨acc,r⟩ ⟨q1,q2⟩
  simp only at q1 q2
  rw[List.drop_length,ja] at q1
  obtain rfl:=Option.some.inj q1
  rw[←q2] at hl
  simp only[ai,af] at hl
  simp at hl
  simp[af, -Bool.forall_bool, -Bool.exists_bool]
  exact⟨by omega,fin (by rw[←q2];simp[E0,cD])⟩
theorem Qw (n:Nat) (h1:S aV=cP) (h2:S bd=fj) (h3:S aO=ca) (h4:S aR=fZ n) (h5:S aH=lM) (h6:S bf=ci):
 Walk aB aA S (a1 Glob) (fun x=> x.op=5∧nc (bc (n+1)) x) (enc (X:=B)) fun x y=> bc (n+1) x=some y:=by
 rintro⟨op,a,b,name,arg,val,fold,mn,mx,args,kids⟩ ⟨hop,t,ht,hl⟩
 have hL:=mY
 have hR:=ht
 simp only at hop
 subst hop
 have fin: ∀ {u:B},u=t→bc (n+1) ⟨5,a,b,name,arg,val,fold,mn,mx,args,kids⟩=some u:=fun h=> by rw[h];exact hR
 rw[bc,dR _ (by simp)] at ht
 unfold qR uj at ht
 simp only[show Qa 5=some ⟨#[115,97,109,101]⟩ from rfl,Option.bind_some] at ht
 rw[if_neg (by decide)] at ht
 obtain⟨w,hw,ht⟩:=Option.bind_eq_some_iff.1 ht
 obtain rfl:=Option.some.inj hw
 split at ht
 ·cases ht
 obtain⟨r,hr,ht⟩:=Option.map_eq_some_iff.1 ht
 have et: (((((⟨#[115,97,109,101]⟩ ++ ⟨#[40]⟩) ++a) ++ (⟨#[44]⟩ ++b)) ++ (⟨#[44]⟩ ++name)) ++r) ++ ⟨#[41]⟩=t:=by
  rw[←ht]
  simp[E0,cD,ByteArray.append_assoc]
 have hl2:=hl
 rw[←et] at hl2
 simp only[ai,af] at hl2
 simp at hl2
 clear ht
 simp[aB,aA,h5,h6,fc,af, -Bool.forall_bool, -Bool.exists_bool]
 repeat (refine⟨by omega,?_⟩)
 intro hkl
 obtain⟨P,hP⟩: ∃P,P=((((⟨#[115,97,109,101]⟩ ++ ⟨#[40]⟩) ++a) ++ (⟨#[44]⟩ ++b)) ++ (⟨#[44]⟩ ++name)):=⟨_,rfl⟩
 rw[←hP] at et ⊢
 clear hP hl2
 refine aJ (X:=B×B) [160] [] args.length (fun k x=> ja (args.drop k)=some x.2∧(x.1++x.2) ++ ⟨#[41]⟩=t) (fun x=> [(3,enc x.1)]) (fun _=> []) (P,r) (by simp) (by simp) (by omega) (by simp) (by simp) ⟨hr,et⟩ (by simp) (by simp) ?_ ?_
 ·rintro k ⟨acc,r⟩ hk ⟨q1,q2⟩
  simp only at q1 q2
  obtain⟨x,hx⟩:=cV hk
  obtain⟨_,hgx⟩:=List.getElem?_eq_some_iff.1 hx
  obtain⟨tk,r',c1,c2,rfl⟩:=i9 hx q1
  rw[←q2] at hl
  simp only[ai,af] at hl
  simp at hl
  have hp:nc lE x:=⟨tk,c1,by omega⟩
  simp[h2,hk,hx,hgx,hp,c1,af, -Bool.forall_bool, -Bool.exists_bool]
  exact⟨by omega,by omega,r',by simpa using c2,by rw[←q2];simp only[ByteArray.append_assoc]⟩
 ·rintro⟨acc,r⟩ ⟨q1,q2⟩
  simp only at q1 q2
  rw[List.drop_length,ja] at q1
  obtain rfl:=Option.some.inj q1
  rw[←q2] at hl
  simp only[ai,af] at hl
  simp at hl
  simp[af, -Bool.forall_bool, -Bool.exists_bool]
  exact⟨by omega,fin (by rw[←q2];simp[E0,cD])⟩
theorem Qv (n:Nat) (h1:S aV=cP) (h2:S bd=fj) (h3:S aO=ca) (h4:S aR=fZ n) (h5:S aH=lM) (h6:S bf=ci):
 Walk aB aA S (a1 Glob) (fun x=> x.op=6∧nc (bc (n+1)) x) (enc (X:=B)) fun x y=> bc (n+1) x=some y:=by
 rintro⟨op,a,b,name,arg,val,fold,mn,mx,args,kids⟩ ⟨hop,t,ht,hl⟩
 have hL:=mY
 have hR:=ht
 simp only at hop
 subst hop
 have fin: ∀ {u:B},u=t→bc (n+1) ⟨6,a,b,name,arg,val,fold,mn,mx,args,kids⟩=some u:=fun h=> by rw[h];exact hR
 rw[bc,dR _ (by simp)] at ht
 unfold qR uj at ht
 simp only[show Qa 6=some ⟨#[104,101,97,100]⟩ from rfl,Option.bind_some] at ht
 rw[if_neg (by decide)] at ht
 obtain⟨w,hw,ht⟩:=Option.bind_eq_some_iff.1 ht
 obtain rfl:=Option.some.inj hw
 split at ht
 ·cases ht
 obtain⟨r,hr,ht⟩:=Option.map_eq_some_iff.1 ht
 have et: ((((⟨#[104,101,97,100]⟩ ++ ⟨#[40]⟩) ++a) ++ (⟨#[44]⟩ ++b)) ++r) ++ ⟨#[41]⟩=t:=by
  rw[←ht]
  simp[E0,cD,ByteArray.append_assoc]
 have hl2:=hl
 rw[←et] at hl2
 simp only[ai,af] at hl2
 simp at hl2
 clear ht
 simp[aB,aA,h5,h6,fc,af, -Bool.forall_bool, -Bool.exists_bool]
 repeat (refine⟨by omega,?_⟩)
 intro hkl
 obtain⟨P,hP⟩: ∃P,P=(((⟨#[104,101,97,100]⟩ ++ ⟨#[40]⟩) ++a) ++ (⟨#[44]⟩ ++b)):=⟨_,rfl⟩
 rw[←hP] at et ⊢
 clear hP hl2
 refine aJ (X:=B×B) [160] [] args.length (fun k x=> ja (args.drop k)=some x.2∧(x.1++x.2) ++ ⟨#[41]⟩=t) (fun x=> [(3,enc x.1)]) (fun _=> []) (P,r) (by simp) (by simp) (by omega) (by simp) (by simp) ⟨hr,et⟩ (by simp) (by simp) ?_ ?_
 ·rintro k ⟨acc,r⟩ hk ⟨q1,q2⟩
  simp only at q1 q2
  obtain⟨x,hx⟩:=cV hk
  obtain⟨_,hgx⟩:=List.getElem?_eq_some_iff.1 hx
  obtain⟨tk,r',c1,c2,rfl⟩:=i9 hx q1
  rw[←q2] at hl
  simp only[ai,af] at hl
  simp at hl
  have hp:nc lE x:=⟨tk,c1,by omega⟩
  simp[h2,hk,hx,hgx,hp,c1,af, -Bool.forall_bool, -Bool.exists_bool]
  exact⟨by omega,by omega,r',by simpa using c2,by rw[←q2];simp only[ByteArray.append_assoc]⟩
 ·rintro⟨acc,r⟩ ⟨q1,q2⟩
  simp only at q1 q2
  rw[List.drop_length,ja] at q1
  obtain rfl:=Option.some.inj q1
  rw[←q2] at hl
  simp only[ai,af] at hl
  simp at hl
  simp[af, -Bool.forall_bool, -Bool.exists_bool]
  exact⟨by omega,fin (by rw[←q2];simp[E0,cD])⟩
theorem Qu (n:Nat) (h1:S aV=cP) (h2:S bd=fj) (h3:S aO=ca) (h4:S aR=fZ n) (h5:S aH=lM) (h6:S bf=ci):
 Walk aB aA S (a1 Glob) (fun x=> x.op=7∧nc (bc (n+1)) x) (enc (X:=B)) fun x y=> bc (n+1) x=some y:=by
 rintro⟨op,a,b,name,arg,val,fold,mn,mx,args,kids⟩ ⟨hop,t,ht,hl⟩
 have hL:=mY
 have hR:=ht
 simp only at hop
 subst hop
 have fin: ∀ {u:B},u=t→bc (n+1) ⟨7,a,b,name,arg,val,fold,mn,mx,args,kids⟩=some u:=fun h=> by rw[h];exact hR
 rw[bc,dR _ (by simp)] at ht
 unfold qR uj at ht
 simp only[show Qa 7=some ⟨#[97,110,99,101,115,116,111,114]⟩ from rfl,Option.bind_some] at ht
 rw[if_neg (by decide)] at ht
 obtain⟨w,hw,ht⟩:=Option.bind_eq_some_iff.1 ht
 obtain rfl:=Option.some.inj hw
 split at ht
 ·cases ht
 obtain⟨r,hr,ht⟩:=Option.map_eq_some_iff.1 ht
 have et: ((((⟨#[97,110,99,101,115,116,111,114]⟩ ++ ⟨#[40]⟩) ++a) ++ (⟨#[44]⟩ ++b)) ++r) ++ ⟨#[41]⟩=t:=by
  rw[←ht]
  simp[E0,cD,ByteArray.append_assoc]
 have hl2:=hl
 rw[←et] at hl2
 simp only[ai,af] at hl2
 simp at hl2
 clear ht
 simp[aB,aA,h5,h6,fc,af, -Bool.forall_bool, -Bool.exists_bool]
 repeat (refine⟨by omega,?_⟩)
 intro hkl
 obtain⟨P,hP⟩: ∃P,P=(((⟨#[97,110,99,101,115,116,111,114]⟩ ++ ⟨#[40]⟩) ++a) ++ (⟨#[44]⟩ ++b)):=⟨_,rfl⟩
 rw[←hP] at et ⊢
 clear hP hl2
 refine aJ (X:=B×B) [160] [] args.length (fun k x=> ja (args.drop k)=some x.2∧(x.1++x.2) ++ ⟨#[41]⟩=t) (fun x=> [(3,enc x.1)]) (fun _=> []) (P,r) (by simp) (by simp) (by omega) (by simp) (by simp) ⟨hr,et⟩ (by simp) (by simp) ?_ ?_
 ·rintro k ⟨acc,r⟩ hk ⟨q1,q2⟩
  simp only at q1 q2
  obtain⟨x,hx⟩:=cV hk
  obtain⟨_,hgx⟩:=List.getElem?_eq_some_iff.1 hx
  obtain⟨tk,r',c1,c2,rfl⟩:=i9 hx q1
  rw[←q2] at hl
  simp only[ai,af] at hl
  simp at hl
  have hp:nc lE x:=⟨tk,c1,by omega⟩
  simp[h2,hk,hx,hgx,hp,c1,af, -Bool.forall_bool, -Bool.exists_bool]
  exact⟨by omega,by omega,r',by simpa using c2,by rw[←q2];simp only[ByteArray.append_assoc]⟩
 ·rintro⟨acc,r⟩ ⟨q1,q2⟩
  simp only at q1 q2
  rw[List.drop_length,ja] at q1
  obtain rfl:=Option.some.inj q1
  rw[←q2] at hl
  simp only[ai,af] at hl
  simp at hl
  simp[af, -Bool.forall_bool, -Bool.exists_bool]
  exact⟨by omega,fin (by rw[←q2];simp[E0,cD])⟩
theorem Qt (n:Nat) (h1:S aV=cP) (h2:S bd=fj) (h3:S aO=ca) (h4:S aR=fZ n) (h5:S aH=lM) (h6:S bf=ci):
 Walk aB aA S (a1 Glob) (fun x=> x.op=8∧nc (bc (n+1)) x) (enc (X:=B)) fun x y=> bc (n+1) x=some y:=by
 rintro⟨op,a,b,name,arg,val,fold,mn,mx,args,kids⟩ ⟨hop,t,ht,hl⟩
 have hL:=mY
 have hR:=ht
 simp only at hop
 subst hop
 have fin: ∀ {u:B},u=t→bc (n+1) ⟨8,a,b,name,arg,val,fold,mn,mx,args,kids⟩=some u:=fun h=> by rw[h];exact hR
 rw[bc,dR _ (by simp)] at ht
 unfold qR uj at ht
 simp only[show Qa 8=some ⟨#[112,97,116,104]⟩ from rfl,Option.bind_some] at ht
 rw[if_neg (by decide)] at ht
 obtain⟨w,hw,ht⟩:=Option.bind_eq_some_iff.1 ht
 obtain rfl:=Option.some.inj hw
 split at ht
 ·cases ht
 obtain⟨r,hr,ht⟩:=Option.map_eq_some_iff.1 ht
 have et: ((((⟨#[112,97,116,104]⟩ ++ ⟨#[40]⟩) ++a) ++ (⟨#[44]⟩ ++b)) ++r) ++ ⟨#[41]⟩=t:=by
  rw[←ht]
  simp[E0,cD,ByteArray.append_assoc]
 have hl2:=hl
 rw[←et] at hl2
 simp only[ai,af] at hl2
 simp at hl2
 clear ht
 simp[aB,aA,h5,h6,fc,af, -Bool.forall_bool, -Bool.exists_bool]
 repeat (refine⟨by omega,?_⟩)
 intro hkl
 obtain⟨P,hP⟩: ∃P,P=(((⟨#[112,97,116,104]⟩ ++ ⟨#[40]⟩) ++a) ++ (⟨#[44]⟩ ++b)):=⟨_,rfl⟩
 rw[←hP] at et ⊢
 clear hP hl2
 refine aJ (X:=B×B) [160] [] args.length (fun k x=> ja (args.drop k)=some x.2∧(x.1++x.2) ++ ⟨#[41]⟩=t) (fun x=> [(3,enc x.1)]) (fun _=> []) (P,r) (by simp) (by simp) (by omega) (by simp) (by simp) ⟨hr,et⟩ (by simp) (by simp) ?_ ?_
 ·rintro k ⟨acc,r⟩ hk ⟨q1,q2⟩
  simp only at q1 q2
  obtain⟨x,hx⟩:=cV hk
  obtain⟨_,hgx⟩:=List.getElem?_eq_some_iff.1 hx
  obtain⟨tk,r',c1,c2,rfl⟩:=i9 hx q1
  rw[←q2] at hl
  simp only[ai,af] at hl
  simp at hl
  have hp:nc lE x:=⟨tk,c1,by omega⟩
  simp[h2,hk,hx,hgx,hp,c1,af, -Bool.forall_bool, -Bool.exists_bool]
  exact⟨by omega,by omega,r',by simpa using c2,by rw[←q2];simp only[ByteArray.append_assoc]⟩
 ·rintro⟨acc,r⟩ ⟨q1,q2⟩
  simp only at q1 q2
  rw[List.drop_length,ja] at q1
  obtain rfl:=Option.some.inj q1
  rw[←q2] at hl
  simp only[ai,af] at hl
  simp at hl
  simp[af, -Bool.forall_bool, -Bool.exists_bool]
  exact⟨by omega,fin (by rw[←q2];simp[E0,cD])⟩
theorem Qs (n:Nat) (h1:S aV=cP) (h2:S bd=fj) (h3:S aO=ca) (h4:S aR=fZ n) (h5:S aH=lM) (h6:S bf=ci):
 Walk aB aA S (a1 Glob) (fun x=> x.op=9∧nc (bc (n+1)) x) (enc (X:=B)) fun x y=> bc (n+1) x=some y:=by
 rintro⟨op,a,b,name,arg,val,fold,mn,mx,args,kids⟩ ⟨hop,t,ht,hl⟩
 have hL:=mY
 have hR:=ht
 simp only at hop
 subst hop
 have fin: ∀ {u:B},u=t→bc (n+1) ⟨9,a,b,name,arg,val,fold,mn,mx,args,kids⟩=some u:=fun h=> by rw[h];exact hR
 rw[bc,dR _ (by simp)] at ht
 unfold qR uj at ht
 simp only[show Qa 9=some ⟨#[110,111,100,101]⟩ from rfl,Option.bind_some] at ht
 rw[if_neg (by decide)] at ht
 obtain⟨w,hw,ht⟩:=Option.bind_eq_some_iff.1 ht
 obtain rfl:=Option.some.inj hw
 split at ht
 ·cases ht
 obtain⟨r,hr,ht⟩:=Option.map_eq_some_iff.1 ht
 have et: (((((⟨#[110,111,100,101]⟩ ++ ⟨#[40]⟩) ++a) ++ (⟨#[44]⟩ ++b)) ++ (⟨#[44]⟩ ++name)) ++r) ++ ⟨#[41]⟩=t:=by
  rw[←ht]
  simp[E0,cD,ByteArray.append_assoc]
 have hl2:=hl
 rw[←et] at hl2
 simp only[ai,af] at hl2
 simp at hl2
 clear ht
 simp[aB,aA,h5,h6,fc,af, -Bool.forall_bool, -Bool.exists_bool]
 repeat (refine⟨by omega,?_⟩)
 intro hkl
 obtain⟨P,hP⟩: ∃P,P=((((⟨#[110,111,100,101]⟩ ++ ⟨#[40]⟩) ++a) ++ (⟨#[44]⟩ ++b)) ++ (⟨#[44]⟩ ++name)):=⟨_,rfl⟩
 rw[←hP] at et ⊢
 clear hP hl2
 refine aJ (X:=B×B) [160] [] args.length (fun k x=> ja (args.drop k)=some x.2∧(x.1++x.2) ++ ⟨#[41]⟩=t) (fun x=> [(3,enc x.1)]) (fun _=> []) (P,r) (by simp) (by simp) (by omega) (by simp) (by simp) ⟨hr,et⟩ (by simp) (by simp) ?_ ?_
 ·rintro k ⟨acc,r⟩ hk ⟨q1,q2⟩
  simp only at q1 q2
  obtain⟨x,hx⟩:=cV hk
  obtain⟨_,hgx⟩:=List.getElem?_eq_some_iff.1 hx
  obtain⟨tk,r',c1,c2,rfl⟩:=i9 hx q1
  rw[←q2] at hl
  simp only[ai,af] at hl
  simp at hl
  have hp:nc lE x:=⟨tk,c1,by omega⟩
  simp[h2,hk,hx,hgx,hp,c1,af, -Bool.forall_bool, -Bool.exists_bool]
  exact⟨by omega,by omega,r',by simpa using c2,by rw[←q2];simp only[ByteArray.append_assoc]⟩
 ·rintro⟨acc,r⟩ ⟨q1,q2⟩
  simp only at q1 q2
  rw[List.drop_length,ja] at q1
  obtain rfl:=Option.some.inj q1
  rw[←q2] at hl
  simp only[ai,af] at hl
  simp at hl
  simp[af, -Bool.forall_bool, -Bool.exists_bool]
  exact⟨by omega,fin (by rw[←q2];simp[E0,cD])⟩
theorem OD (n:Nat) (h1:S aV=cP) (h2:S bd=fj) (h3:S aO=ca) (h4:S aR=fZ n) (h5:S aH=lM) (h6:S bf=ci):
 Walk aB aA S (a1 Glob) (fun x=> x.op=10∧nc (bc (n+1)) x) (enc (X:=B)) fun x y=> bc (n+1) x=some y:=by
 rintro⟨op,a,b,name,arg,val,fold,mn,mx,args,kids⟩ ⟨hop,t,ht,hl⟩
 have hL:=mY
 have hR:=ht
 simp only at hop
 subst hop
 have fin: ∀ {u:B},u=t→bc (n+1) ⟨10,a,b,name,arg,val,fold,mn,mx,args,kids⟩=some u:=fun h=> by rw[h];exact hR
 rw[bc,dR _ (by simp)] at ht
 unfold qR uj at ht
 simp only[show Qa 10=some ⟨#[100,101,112,116,104]⟩ from rfl,Option.bind_some] at ht
 rw[if_pos (by decide)] at ht
 obtain⟨w,hw,ht⟩:=Option.bind_eq_some_iff.1 ht
 obtain⟨d,hd,hw⟩:=Option.bind_eq_some_iff.1 hw
 obtain⟨e,he,hw⟩:=Option.map_eq_some_iff.1 hw
 have rd:=yE hd
 have re:=yE he
 split at ht
 ·cases ht
 obtain⟨r,hr,ht⟩:=Option.map_eq_some_iff.1 ht
 have et: ((((⟨#[100,101,112,116,104]⟩ ++ ⟨#[40]⟩) ++a) ++ (((⟨#[44]⟩ ++d) ++ ⟨#[44]⟩) ++e)) ++r) ++ ⟨#[41]⟩=t:=by
  rw[←ht]
  simp[←hw,E0,cD,ByteArray.append_assoc]
 have hl2:=hl
 rw[←et] at hl2
 simp only[ai,af] at hl2
 simp at hl2
 clear ht
 simp[aB,aA,h5,h6,fc,hd,he,rd,re,af, -Bool.forall_bool, -Bool.exists_bool]
 repeat (refine⟨by omega,?_⟩)
 intro hkl
 obtain⟨P,hP⟩: ∃P,P=(((⟨#[100,101,112,116,104]⟩ ++ ⟨#[40]⟩) ++a) ++ (((⟨#[44]⟩ ++d) ++ ⟨#[44]⟩) ++e)):=⟨_,rfl⟩
 rw[←hP] at et ⊢
 clear hP hl2
 refine aJ (X:=B×B) [160] [] args.length (fun k x=> ja (args.drop k)=some x.2∧(x.1++x.2) ++ ⟨#[41]⟩=t) (fun x=> [(3,enc x.1)]) (fun _=> []) (P,r) (by simp) (by simp) (by omega) (by simp) (by simp) ⟨hr,et⟩ (by simp) (by simp) ?_ ?_
 ·rintro k ⟨acc,r⟩ hk ⟨q1,q2⟩
  simp only at q1 q2
  obtain⟨x,hx⟩:=cV hk
  obtain⟨_,hgx⟩:=List.getElem?_eq_some_iff.1 hx
  obtain⟨tk,r',c1,c2,rfl⟩:=i9 hx q1
  rw[←q2] at hl
  simp only[ai,af] at hl
  simp at hl
  have hp:nc lE x:=⟨tk,c1,by omega⟩
  simp[h2,hk,hx,hgx,hp,c1,af, -Bool.forall_bool, -Bool.exists_bool]
  exact⟨by omega,by omega,r',by simpa using c2,by rw[←q2];simp only[ByteArray.append_assoc]⟩
 ·rintro⟨acc,r⟩ ⟨q1,q2⟩
  simp only at q1 q2
  rw[List.drop_length,ja] at q1
  obtain rfl:=Option.some.inj q1
  rw[←q2] at hl
  simp only[ai,af] at hl
  simp at hl
  simp[af, -Bool.forall_bool, -Bool.exists_bool]
  exact⟨by omega,fin (by rw[←q2];simp[E0,cD])⟩
end Go.Gv

namespace Go.Gv
open Cod (enc dec)
variable {S S0:Nat→Spc}
theorem yU (n:Nat) (h1:S aV=cP) (h2:S bd=fj) (h3:S aO=ca) (h4:S aR=fZ n) (h5:S aH=lM) (h6:S bf=ci):
 Walk aB aA S (a1 Glob) (nc (bc (n+1))) (enc (X:=B)) fun x y=> bc (n+1) x=some y:=by
 intro g hg
 by_cases e2:g.op=2∨g.op=3∨g.op=11
 ·exact LH n h1 h2 h3 h4 h5 h6 g ⟨e2,hg⟩
 by_cases e12:g.op=12
 ·exact FF n h1 h2 h3 h4 h5 h6 g ⟨e12,hg⟩
 by_cases e13:g.op=13
 ·exact FE n h1 h2 h3 h4 h5 h6 g ⟨e13,hg⟩
 obtain⟨t,ht,hl⟩:=hg
 have ho: ∃w,Qa g.op=some w:=by
  have ht2:=ht
  rw[bc,oj,if_neg (by omega),if_neg (by omega),if_neg (by omega),if_neg (by omega),qR] at ht2
  obtain⟨w,hw,_⟩:=Option.bind_eq_some_iff.1 ht2
  exact⟨w,hw⟩
 have ho:g.op=1∨g.op=4∨g.op=5∨g.op=6∨g.op=7∨g.op=8∨g.op=9∨g.op=10:=by
  obtain⟨w,hw⟩:=ho
  unfold Qa at hw
  by_cases c1:g.op=1
  ·omega
  by_cases c4:g.op=4
  ·omega
  by_cases c5:g.op=5
  ·omega
  by_cases c6:g.op=6
  ·omega
  by_cases c7:g.op=7
  ·omega
  by_cases c8:g.op=8
  ·omega
  by_cases c9:g.op=9
  ·omega
  by_cases c10:g.op=10
  ·omega
  rw[if_neg c1,if_neg c4,if_neg c5,if_neg c6,if_neg c7,if_neg c8,if_neg c9,if_neg c10] at hw
  cases hw
 rcases ho with e | e | e | e | e | e | e | e
 ·exact Qy n h1 h2 h3 h4 h5 h6 g ⟨e,t,ht,hl⟩
 ·exact Qx n h1 h2 h3 h4 h5 h6 g ⟨e,t,ht,hl⟩
 ·exact Qw n h1 h2 h3 h4 h5 h6 g ⟨e,t,ht,hl⟩
 ·exact Qv n h1 h2 h3 h4 h5 h6 g ⟨e,t,ht,hl⟩
 ·exact Qu n h1 h2 h3 h4 h5 h6 g ⟨e,t,ht,hl⟩
 ·exact Qt n h1 h2 h3 h4 h5 h6 g ⟨e,t,ht,hl⟩
 ·exact Qs n h1 h2 h3 h4 h5 h6 g ⟨e,t,ht,hl⟩
 ·exact OD n h1 h2 h3 h4 h5 h6 g ⟨e,t,ht,hl⟩
end Go.Gv

namespace Go.Gv
open Cod (enc dec)
variable {S S0:Nat→Spc}
def qh3 (q:Qry):Prop:= ∃n,n≤5∧GQ n q
abbrev zm:Spc:=dt (a1 Qry) qh3 (enc (X:=B)) fun q y=> OT q=some y
theorem EA {l:List jK} {k:Nat} {x:jK} (hx:l[k]?=some x) {r:B} (h:qO (l.drop k)=some r): ∃t r',PB x=some t∧qO (l.drop (k+1))=some r'∧r=t++r':=by
 rw[show l.drop k=x::l.drop (k+1) from dC hx,qO] at h
 obtain⟨t,h1,h⟩:=Option.bind_eq_some_iff.1 h
 obtain⟨r',h2,h⟩:=Option.map_eq_some_iff.1 h
 exact⟨t,r',h1,h2,h.symm⟩
set_option maxHeartbeats 2000000 in
theorem Hs (h1:S eL=zh) (h2:S jR=zs) (h3:S cX=s_leaves) (h4:S cW=s_malfA) (h5:S cB=tD 10) (h6:S aR=fZ 10) (h7:S jQ=qv) (h8:S f8=s_qstrats):
 Walk ox nO S (a1 Qry) qh3 (enc (X:=B)) fun q y=> OT q=some y:=by
 rintro⟨p,g,fs,st⟩ ⟨n,hn,hq⟩
 obtain⟨t,ht,hl⟩:=JV hq hn
 have hL:=mY
 have hR:=ht
 have fin: ∀ {u:B},u=t→OT ⟨p,g,fs,st⟩=some u:=fun h=> by rw[h];exact hR
 unfold OT at ht
 simp only at ht
 obtain⟨tp,hp,ht⟩:=Option.bind_eq_some_iff.1 ht
 obtain⟨tg,hg,ht⟩:=Option.bind_eq_some_iff.1 ht
 obtain⟨tf,hf,ht⟩:=Option.bind_eq_some_iff.1 ht
 obtain⟨ts,hs,ht⟩:=Option.map_eq_some_iff.1 ht
 rw[←ht] at hl
 simp only[ai] at hl
 have q1:nc (j8 (cU 10) 10) p:=⟨tp,hp,by omega⟩
 have q2:=UR hq hn
 simp only[qE,Bool.and_eq_true] at q2
 have q3:TF p []:=by
  have:=WY hq hn
  have:=Mp p
  show 0+ (aQ p).length≤_
  simp only at*
  omega
 have q4:qfG g:=hq.glob.elim .inl fun h=> .inr ⟨_,2,Nat.le_refl _,h⟩
 have q5: ∀y∈aQ p,∃lb m,m≤2∧GC lb m y.cond:=fun y hy=> ⟨_,1,by omega,hq.cond y hy⟩
 have q6:=hq.strat
 simp only at q6
 have q7: ¬st < 0:=by omega
 have q8: ¬3 < st:=by omega
 have q9:=hq.filts.2
 simp only at q9
 simp[ox,nO,h1,h2,h3,q2,q3,q4,q7,q8, -Bool.forall_bool, -Bool.exists_bool]
 refine .inl fun hkl=> ?_
 refine aJ (X:=Unit) [1,30] [] (aQ p).length (fun k _=> True) (fun _=> []) (fun _=> []) () (by simp) (by simp) (by omega) (by simp) (by simp) (by simp) (by simp) (by simp) ?_ ?_
 ·rintro k -hk -
  obtain⟨y,hy⟩:=cV hk
  obtain⟨_,hgy⟩:=List.getElem?_eq_some_iff.1 hy
  have hp:=q5 y (cn hy)
  simp[h4,hk,hy,hgy,hp, -Bool.forall_bool, -Bool.exists_bool]
 rintro - -
 by_cases hg0:g.op=0
 ·obtain rfl:tg=E0:=by
   unfold Ji at hg
   rw[if_pos hg0] at hg
   exact(Option.some.inj hg).symm
  simp[h5,q1,hp,hg0, -Bool.forall_bool, -Bool.exists_bool]
  intro hkl2
  obtain⟨P,hP⟩: ∃P,P=tp++E0:=⟨_,rfl⟩
  have hP':tp=P:=by rw[hP,E0,cD]
  rw[hP']
  refine aJ (X:=B×B) [1,54] [] fs.length (fun k x=> qO (fs.drop k)=some x.2∧x.1++x.2=(tp++E0) ++tf) (fun x=> [(5,enc x.1)]) (fun _=> []) (P,tf) (by simp) (by simp) (by omega) (by simp) (by simp) ⟨hf,by rw[hP]⟩ (by simp) (by simp) ?_ ?_
  ·rintro k ⟨acc,r⟩ hk ⟨c1,c2⟩
   simp only at c1 c2
   obtain⟨x,hx⟩:=cV hk
   obtain⟨_,hgx⟩:=List.getElem?_eq_some_iff.1 hx
   obtain⟨tk,r',d1,d2,rfl⟩:=EA hx c1
   obtain⟨e1,e2⟩:=q9 x (cn hx)
   have hl2:acc.size+ (tk.size+r'.size)≤6000:=by
    have:=congrArg ByteArray.size c2
    simp only[ai] at this
    omega
   obtain⟨fop,fneg,freg⟩:=x
   simp only at e1 e2
   have nxt: ∀ (s0:B),s0=acc++tk→ ∃y,qO (fs.drop (k+1))=some y∧s0++y=(tp++E0) ++tf:=fun s0 e=> ⟨r',d2,by rw[e,←c2,ByteArray.append_assoc]⟩
   unfold PB at d1
   rcases e1 with rfl | rfl | rfl <;> cases fneg
   all_goals
    obtain rfl:=Option.some.inj d1
    simp only[ai,af] at hl2
    simp at hl2
    simp[h7,hk,hx,hgx,filterL,af, -Bool.forall_bool, -Bool.exists_bool]
    repeat (refine And.intro (by omega) ?_)
    refine nxt _ ?_
    simp[filterL,ByteArray.append_assoc]
  ·rintro⟨acc,r⟩ ⟨c1,c2⟩
   simp only at c1 c2
   rw[List.drop_length,qO] at c1
   obtain rfl:=Option.some.inj c1
   have hacc:acc=(tp++E0) ++tf:=by rw[←c2,E0,cD]
   have hasz:acc.size≤6000:=by
    rw[hacc]
    simp only[ai]
    omega
   have hst:st=0∨st=1∨st=2∨st=3:=by omega
   rcases hst with rfl | rfl | rfl | rfl
   all_goals
    obtain rfl:=Option.some.inj hs
    simp[h8,cM,af, -Bool.forall_bool, -Bool.exists_bool]
    repeat (refine And.intro (by omega) ?_)
    exact fin (by rw[←ht,hacc] <;> simp[cM,E0,cD,ByteArray.append_assoc])
 ·obtain⟨u,hu,htg⟩: ∃u,bc 10 g=some u∧⟨#[32,58,58,32]⟩ ++u=tg:=by
   unfold Ji at hg
   rw[if_neg hg0] at hg
   exact Option.map_eq_some_iff.1 hg
  have hsz:tg.size=4+u.size:=by rw[←htg,ai];rfl
  have qg:nc (bc 10) g:=⟨u,hu,by omega⟩
  simp[h5,h6,q1,qg,hu,hp,hg0,af, -Bool.forall_bool, -Bool.exists_bool]
  repeat (refine And.intro (by omega) ?_)
  intro hkl2
  rw[htg]
  obtain⟨P,hP⟩: ∃P,P=tp++tg:=⟨_,rfl⟩
  rw[←hP]
  refine aJ (X:=B×B) [1,54] [] fs.length (fun k x=> qO (fs.drop k)=some x.2∧x.1++x.2=(tp++tg) ++tf) (fun x=> [(5,enc x.1)]) (fun _=> []) (P,tf) (by simp) (by simp) (by omega) (by simp) (by simp) ⟨hf,by rw[hP]⟩ (by simp) (by simp) ?_ ?_
  ·rintro k ⟨acc,r⟩ hk ⟨c1,c2⟩
   simp only at c1 c2
   obtain⟨x,hx⟩:=cV hk
   obtain⟨_,hgx⟩:=List.getElem?_eq_some_iff.1 hx
   obtain⟨tk,r',d1,d2,rfl⟩:=EA hx c1
   obtain⟨e1,e2⟩:=q9 x (cn hx)
   have hl2:acc.size+ (tk.size+r'.size)≤6000:=by
    have:=congrArg ByteArray.size c2
    simp only[ai] at this
    omega
   obtain⟨fop,fneg,freg⟩:=x
   simp only at e1 e2
   have nxt: ∀ (s0:B),s0=acc++tk→ ∃y,qO (fs.drop (k+1))=some y∧s0++y=(tp++tg) ++tf:=fun s0 e=> ⟨r',d2,by rw[e,←c2,ByteArray.append_assoc]⟩
   unfold PB at d1
   rcases e1 with rfl | rfl | rfl <;> cases fneg
   all_goals
    obtain rfl:=Option.some.inj d1
    simp only[ai,af] at hl2
    simp at hl2
    simp[h7,hk,hx,hgx,filterL,af, -Bool.forall_bool, -Bool.exists_bool]
    repeat (refine And.intro (by omega) ?_)
    refine nxt _ ?_
    simp[filterL,ByteArray.append_assoc]
  ·rintro⟨acc,r⟩ ⟨c1,c2⟩
   simp only at c1 c2
   rw[List.drop_length,qO] at c1
   obtain rfl:=Option.some.inj c1
   have hacc:acc=(tp++tg) ++tf:=by rw[←c2,E0,cD]
   have hasz:acc.size≤6000:=by
    rw[hacc]
    simp only[ai]
    omega
   have hst:st=0∨st=1∨st=2∨st=3:=by omega
   rcases hst with rfl | rfl | rfl | rfl
   all_goals
    obtain rfl:=Option.some.inj hs
    simp[h8,cM,af, -Bool.forall_bool, -Bool.exists_bool]
    repeat (refine And.intro (by omega) ?_)
    exact fin (by rw[←ht,hacc] <;> simp[cM,E0,cD,ByteArray.append_assoc])
end Go.Gv

namespace Go.Gv
open Cod (enc dec)
variable {S S0:Nat→Spc}
theorem GJ (x:B): ∃q i e,pV x=some (q,i,e)∧If x=some (q,i,e):=by
 obtain⟨⟨q,i,e⟩,g1,g2⟩:=Dt x
 exact⟨q,i,e,by rw[OX,g1],g1⟩
end Go.Gv

namespace Go.Gv
open Go.Proofs Cod
theorem Hk:Tri Tryz.prog bd (fj).pt:=
 ap (S:=ct []) (av am) Ij (fun _=> Nat.le_of_ble_eq_true rfl) (Jm)
theorem B9:Tri Tryz.prog aV (cP).pt:=
 ap (S:=ct [(bd,fj)]) (av (ae Hk am)) FP (fun _=> Nat.le_of_ble_eq_true rfl) (Ho rfl)
theorem yR:Tri Tryz.prog aO (ca).pt:=
 ap (S:=ct []) (av am) Dx (fun _=> Nat.le_of_ble_eq_true rfl) (Fp)
theorem Qe: ∀n,Tri Tryz.prog aH (Q7 n).pt
 | 0=> cO fun x h=> by have h:=h.2.2.2;omega
 | n+1=> ap (S:=ct [(aH,Q7 n)]) (av (ae (Qe n) am)) Bo (fun _=> Nat.le_of_ble_eq_true rfl) (Ft n rfl)
theorem Vq:Tri Tryz.prog aH s_decA.pt:=fS (fun n=> Qe n) (gQ (fun x h=> ⟨2,h.1,h.2,fun _=> Nat.le_refl _,by omega⟩))
theorem AD: ∀n,Tri Tryz.prog bN (pu n).pt
 | 0=> cO fun x h=> by obtain⟨t,h,_⟩:=h;cases h
 | n+1=> ap (S:=ct [(aV,cP),(bd,fj),(aO,ca),(bN,pu n)]) (av (ae B9 (ae Hk (ae yR (ae (AD n) am))))) zM (fun _=> Nat.le_of_ble_eq_true rfl) (A7 n rfl rfl rfl rfl)
theorem Gg: ∀n,Tri Tryz.prog cB (tD n).pt
 | 0=> cO fun x h=> by obtain⟨t,h,_⟩:=h;cases h
 | n+1=> ap (S:=ct [(aV,cP),(bN,pu 10),(aO,ca),(aH,s_decA),(cB,tD n)]) (av (ae B9 (ae (AD 10) (ae yR (ae Vq (ae (Gg n) am)))))) Dy (fun _=> Nat.le_of_ble_eq_true rfl) (Fq n rfl rfl rfl rfl rfl)
theorem xh: ∀n,Tri Tryz.prog aR (fZ n).pt
 | 0=> cO fun x h=> by obtain⟨t,h,_⟩:=h;cases h
 | n+1=> ap (S:=ct [(aV,cP),(bd,fj),(aO,ca),(aH,lM),(bf,ci),(aR,fZ n)]) (av (ae B9 (ae Hk (ae yR (ae Vq (ae J1 (ae (xh n) am))))))) ya (fun _=> Nat.le_of_ble_eq_true rfl) (yU n rfl rfl rfl rfl rfl rfl)
theorem Jf: ∀n,Tri Tryz.prog fK (H7 n).pt
 | 0=> cO fun x h=> by have h:=h.1;rw[vk] at h;omega
 | n+1=> ap (S:=ct [(fK,H7 n)]) (av (ae (Jf n) am)) Ik (fun _=> Nat.le_of_ble_eq_true rfl) (Jn n rfl)
theorem TG:Tri Tryz.prog fK s_countA.pt:=fS (fun n=> Jf n) (gQ (fun x h=> h))
theorem TI:Tri Tryz.prog mH (H9).pt:=
 ap (S:=ct [(fK,s_countA)]) (av (ae TG am)) In (fun _=> Nat.le_of_ble_eq_true rfl) (Jq rfl)
theorem TH:Tri Tryz.prog mG (wH).pt:=
 ap (S:=ct []) (av am) Im (fun _=> Nat.le_of_ble_eq_true rfl) (Jp)
theorem M9: ∀n,Tri Tryz.prog cW (L5 n).pt
 | 0=> cO fun x h=> by have h:=h.1;rw[vk] at h;omega
 | n+1=> ap (S:=ct [(mH,H9),(mG,wH),(cW,L5 n)]) (av (ae TI (ae TH (ae (M9 n) am)))) zJ (fun _=> Nat.le_of_ble_eq_true rfl) (A4 n rfl rfl rfl)
theorem V0:Tri Tryz.prog cW s_malfA.pt:=fS (fun n=> M9 n) (gQ (fun x h=> ⟨hJ x,Nat.le_refl _,h⟩))
theorem xg: ∀n,Tri Tryz.prog cZ (tI n).pt
 | 0=> cO fun x h=> by have h:=h.1;rw[IM] at h;omega
 | n+1=> ap (S:=ct [(cZ,tI n)]) (av (ae (xg n) am)) zL (fun _=> Nat.le_of_ble_eq_true rfl) (A6 n rfl)
theorem Je:Tri Tryz.prog cZ s_globNodesA.pt:=fS (fun n=> xg n) (gQ (fun x h=> h))
theorem xf: ∀n,Tri Tryz.prog cY (tH n).pt
 | 0=> cO fun x h=> by have h:=h.1;rw[IM] at h;omega
 | n+1=> ap (S:=ct [(cY,tH n)]) (av (ae (xf n) am)) zK (fun _=> Nat.le_of_ble_eq_true rfl) (A5 n rfl)
theorem Jd:Tri Tryz.prog cY s_globShapeA.pt:=fS (fun n=> xf n) (gQ (fun x h=> h))
theorem Ol:Tri Tryz.prog jR (zs).pt:=
 ap (S:=ct [(cZ,s_globNodesA),(cY,s_globShapeA)]) (av (ae Je (ae Jd am))) DA (fun _=> Nat.le_of_ble_eq_true rfl) (Fu rfl rfl)
theorem Qf:Tri Tryz.prog li (zm).pt:=
 ap (S:=ct [(eL,zh),(jR,zs),(cX,s_leaves),(cW,s_malfA),(cB,tD 10),(aR,fZ 10),(jQ,qv),(f8,s_qstrats)]) (av (ae HB (ae Ol (ae HC (ae V0 (ae (Gg 10) (ae (xh 10) (ae OY (ae Ih am))))))))) DB (fun _=> Nat.le_of_ble_eq_true rfl) (Hs rfl rfl rfl rfl rfl rfl rfl rfl)
end Go.Gv
