/- A part of the framework and of the walks: W106. -/
import Derived.Test.YtaiffcbkmgfklaaGreatDoorGt44
set_option linter.unusedSimpArgs false
set_option linter.unusedVariables false
set_option maxRecDepth 100000

namespace Go.Gv
open Cod (enc dec)
variable {S S0:Nat→Spc}
abbrev s_decA:Spc:=dt (a1 Int) (fun x=> -10 < x∧x < 10) (enc (X:=B)) fun x y=> xa x=some y
abbrev tD (n:Nat):Spc:=dt (a1 Pat) (nc (j8 (cU 10) n)) (enc (X:=B)) fun x y=> j8 (cU 10) n x=some y
theorem OW {val arg lab q:B} {fold:Bool} {kids:List Cond} (h:cU 10 ⟨2,E0,arg,val,lab,fold,kids⟩=some q):gP (val,fold)=some q:=by
 rw[cU,l5,if_neg (by decide: ¬ (2:Int)=1),if_pos rfl] at h
 obtain⟨t,h1,h2⟩:=Option.map_eq_some_iff.1 h
 rw[if_pos rfl] at h2
 rw[←h2]
 exact h1
theorem Ot (n:Nat) (h1:S aV=cP) (h2:S bN=pu 10) (h3:S aO=ca) (h4:S cB=tD n) (h5:S aH=s_decA):
 Walk aY aX S (a1 Pat) (fun x=> x.op=1∧nc (j8 (cU 10) (n+1)) x) (enc (X:=B)) fun x y=> j8 (cU 10) (n+1) x=some y:=by
 rintro⟨op,⟨cop,cname,carg,cval,clab,cfold,ckids⟩,lab,reg,mn,mx,kids⟩ ⟨hop1,t,ht,hl⟩
 have hL:=mY
 have hR:=ht
 have fin: ∀ {u:B},u=t→j8 (cU 10) (n+1) ⟨op,⟨cop,cname,carg,cval,clab,cfold,ckids⟩,lab,reg,mn,mx,kids⟩=some u:=fun h=> by rw[h];exact hR
 simp only at hop1
 rw[j8] at ht
 unfold wh at ht
 simp only at ht
 subst hop1
 rw[if_pos rfl] at ht
 unfold QH at ht
 obtain⟨q,hq,ht⟩:=Option.map_eq_some_iff.1 ht
 simp only at hq ht
 have hop:cop=1∨cop=2∧cname=E0∨ ¬cop=1∧ ¬ (cop=2∧cname=E0):=by
  by_cases e1:cop=1
  ·exact .inl e1
  ·by_cases e2:cop=2∧cname=E0
   ·exact .inr (.inl e2)
   ·exact .inr (.inr ⟨e1,e2⟩)
 rcases hop with rfl | ⟨rfl,rfl⟩ | ⟨e1,e2⟩
 ·have hq0:q=⟨#[91,93]⟩:=by
   rw[cU,l5,if_pos rfl] at hq
   exact(Option.some.inj hq).symm
  unfold ez at ht
  rw[if_pos (show lW _ from .inl rfl)] at ht
  by_cases hn:lab=E0
  ·rw[if_pos hn] at ht
   have hn':lab=⟨#[]⟩:=hn
   subst ht
   subst hn'
   simp[aY,aX,af, -Bool.forall_bool, -Bool.exists_bool]
   repeat' first | exact hR | exact fin rfl | exact fin (by simp[hq0,dM,ByteArray.append_assoc]) | apply And.intro | omega
  ·rw[if_neg hn] at ht
   have hn': ¬lab=⟨#[]⟩:=hn
   subst ht
   subst hq0
   simp only[ai,af] at hl
   simp at hl
   simp[aY,aX,hn',af, -Bool.forall_bool, -Bool.exists_bool]
   repeat' first | exact hR | exact fin rfl | exact fin (by simp[dM,ByteArray.append_assoc]) | apply And.intro | omega
 ·have hv:=OW hq
  have hp:nc gP (cval,cfold):=⟨q,hv,by unfold ez at ht;rw[if_pos (show lW _ from .inr ⟨rfl,rfl⟩)] at ht;split at ht <;> (rw[←ht] at hl;try simp only[ai] at hl) <;> omega⟩
  unfold ez at ht
  rw[if_pos (show lW _ from .inr ⟨rfl,rfl⟩)] at ht
  by_cases hn:lab=E0
  ·rw[if_pos hn] at ht
   have hn':lab=⟨#[]⟩:=hn
   subst ht
   subst hn'
   simp[aY,aX,h1,hp,hv,E0,af, -Bool.forall_bool, -Bool.exists_bool]
   repeat' first | exact hR | exact fin rfl | exact fin (by simp[dM,ByteArray.append_assoc]) | apply And.intro | omega
  ·rw[if_neg hn] at ht
   have hn': ¬lab=⟨#[]⟩:=hn
   subst ht
   simp only[ai,af] at hl
   simp at hl
   simp[aY,aX,h1,hp,hv,hn',E0,af, -Bool.forall_bool, -Bool.exists_bool]
   repeat' first | exact hR | exact fin rfl | exact fin (by simp[dM,ByteArray.append_assoc]) | apply And.intro | omega
 ·have hnp: ¬lW ⟨cop,cname,carg,cval,clab,cfold,ckids⟩:=fun h=> h.elim e1 e2
  have e2':cop=2→ ¬cname=⟨#[]⟩:=fun h h'=> e2 ⟨h,h'⟩
  unfold ez at ht
  rw[if_neg hnp] at ht
  by_cases hn:lab=E0
  ·rw[if_pos hn] at ht
   have hn':lab=⟨#[]⟩:=hn
   subst ht
   subst hn'
   simp only[ai,af] at hl
   simp at hl
   have hp:nc (cU 10) ⟨cop,cname,carg,cval,clab,cfold,ckids⟩:=⟨q,hq,by omega⟩
   simp[aY,aX,h2,hp,hq,e1,af, -Bool.forall_bool, -Bool.exists_bool]
   refine⟨fun h2=> ⟨fun h=> absurd h (e2' h2),fun _=> ?_⟩,fun _=> ?_⟩
   repeat' first | exact hR | exact fin rfl | exact fin (by simp[dM,ByteArray.append_assoc]) | apply And.intro | omega
  ·rw[if_neg hn] at ht
   have hn': ¬lab=⟨#[]⟩:=hn
   subst ht
   simp only[ai,af] at hl
   simp at hl
   have hp:nc (cU 10) ⟨cop,cname,carg,cval,clab,cfold,ckids⟩:=⟨q,hq,by omega⟩
   simp[aY,aX,h2,hp,hq,e1,hn',af, -Bool.forall_bool, -Bool.exists_bool]
   refine⟨by omega,fun h2=> ⟨fun h=> absurd h (e2' h2),fun _=> ?_⟩,fun _=> ?_⟩
   repeat' first | exact hR | exact fin rfl | exact fin (by simp[dM,ByteArray.append_assoc]) | apply And.intro | omega
set_option maxHeartbeats 1000000 in
theorem Ou (n:Nat) (h1:S aV=cP) (h2:S bN=pu 10) (h3:S aO=ca) (h4:S cB=tD n) (h5:S aH=s_decA):
 Walk aY aX S (a1 Pat) (fun x=> x.op=6∧nc (j8 (cU 10) (n+1)) x) (enc (X:=B)) fun x y=> j8 (cU 10) (n+1) x=some y:=by
 rintro⟨op,⟨cop,cname,carg,cval,clab,cfold,ckids⟩,lab,reg,mn,mx,kids⟩ ⟨hop1,t,ht,hl⟩
 have hL:=mY
 have hR:=ht
 have fin: ∀ {u:B},u=t→j8 (cU 10) (n+1) ⟨op,⟨cop,cname,carg,cval,clab,cfold,ckids⟩,lab,reg,mn,mx,kids⟩=some u:=fun h=> by rw[h];exact hR
 simp only at hop1
 rw[j8] at ht
 unfold wh at ht
 simp only at ht
 subst hop1
 rw[if_neg (by decide),if_neg (by decide),if_neg (by decide),if_pos rfl] at ht
 unfold WI at ht
 split at ht
 ·rename_i k
  obtain⟨q,hq,ht⟩:=Option.bind_eq_some_iff.1 ht
  obtain⟨u,hu,ht⟩:=Option.map_eq_some_iff.1 ht
  subst ht
  have hi:=wW (decide (k.op=5) || decide (k.op=4)) q
  have w5:k.op=5→sR true q=sR (decide (k.op=5) || decide (k.op=4)) q:=fun h=> by simp[h]
  have w5n: ¬k.op=5→sR (decide (k.op=4)) q=sR (decide (k.op=5) || decide (k.op=4)) q:=fun h=> by simp[h]
  revert hR fin hl hi w5 w5n
  generalize sR (decide (k.op=5) || decide (k.op=4)) q=W
  intro hl hR fin hi w5 w5n
  rw[ai] at hl
  have hp:nc (j8 (cU 10) n) k:=⟨q,hq,by omega⟩
  unfold QQ at hu
  have d0:xa 0=some ⟨#[48]⟩:=rfl
  have d1:xa 1=some ⟨#[49]⟩:=rfl
  have d2:xa 2=some ⟨#[50]⟩:=rfl
  have d3:xa 3=some ⟨#[51]⟩:=rfl
  split at hu
  ·rename_i e
   obtain⟨rfl,rfl⟩:=e
   obtain rfl:=Option.some.inj hu
   clear ht hu
   simp only[af] at hl
   simp at hl
   simp[aY,aX,h3,h4,h5,hp,hq,d0,d1,d2,d3,af, -Bool.forall_bool, -Bool.exists_bool]
   refine⟨fun h5=> ?_,fun h5=> ?_⟩
   ·rw[w5n h5];repeat' first | exact hR | exact fin rfl | exact fin (by simp[dM,ByteArray.append_assoc]) | apply And.intro | omega
   ·rw[w5 h5];repeat' first | exact hR | exact fin rfl | exact fin (by simp[dM,ByteArray.append_assoc]) | apply And.intro | omega
  split at hu
  ·rename_i e
   obtain⟨rfl,rfl⟩:=e
   obtain rfl:=Option.some.inj hu
   clear ht hu
   simp only[af] at hl
   simp at hl
   simp[aY,aX,h3,h4,h5,hp,hq,d0,d1,d2,d3,af, -Bool.forall_bool, -Bool.exists_bool]
   refine⟨fun h5=> ?_,fun h5=> ?_⟩
   ·rw[w5n h5];repeat' first | exact hR | exact fin rfl | exact fin (by simp[dM,ByteArray.append_assoc]) | apply And.intro | omega
   ·rw[w5 h5];repeat' first | exact hR | exact fin rfl | exact fin (by simp[dM,ByteArray.append_assoc]) | apply And.intro | omega
  split at hu
  ·rename_i e
   obtain⟨rfl,rfl⟩:=e
   obtain rfl:=Option.some.inj hu
   clear ht hu
   simp only[af] at hl
   simp at hl
   simp[aY,aX,h3,h4,h5,hp,hq,d0,d1,d2,d3,af, -Bool.forall_bool, -Bool.exists_bool]
   refine⟨fun h5=> ?_,fun h5=> ?_⟩
   ·rw[w5n h5];repeat' first | exact hR | exact fin rfl | exact fin (by simp[dM,ByteArray.append_assoc]) | apply And.intro | omega
   ·rw[w5 h5];repeat' first | exact hR | exact fin rfl | exact fin (by simp[dM,ByteArray.append_assoc]) | apply And.intro | omega
  split at hu
  ·rename_i e
   obtain⟨rfl,rfl⟩:=e
   obtain rfl:=Option.some.inj hu
   clear ht hu
   simp only[af] at hl
   simp at hl
   have q0: (⟨#[123,50,125]⟩:B)=(⟨#[123]⟩ ++ ⟨#[50]⟩) ++ ⟨#[125]⟩:=by decide
   rw[q0] at hR fin
   simp[aY,aX,h3,h4,h5,hp,hq,d0,d1,d2,d3,af, -Bool.forall_bool, -Bool.exists_bool]
   refine⟨fun h5=> ?_,fun h5=> ?_⟩
   ·rw[w5n h5];repeat' first | exact hR | exact fin rfl | exact fin (by simp[dM,ByteArray.append_assoc]) | apply And.intro | omega
   ·rw[w5 h5];repeat' first | exact hR | exact fin rfl | exact fin (by simp[dM,ByteArray.append_assoc]) | apply And.intro | omega
  split at hu
  ·rename_i e
   obtain⟨rfl,rfl⟩:=e
   obtain rfl:=Option.some.inj hu
   clear ht hu
   simp only[af] at hl
   simp at hl
   have q0: (⟨#[123,48,44,50,125]⟩:B)=(((⟨#[123]⟩ ++ ⟨#[48]⟩) ++ ⟨#[44]⟩) ++ ⟨#[50]⟩) ++ ⟨#[125]⟩:=by decide
   rw[q0] at hR fin
   simp[aY,aX,h3,h4,h5,hp,hq,d0,d1,d2,d3,af, -Bool.forall_bool, -Bool.exists_bool]
   refine⟨fun h5=> ?_,fun h5=> ?_⟩
   ·rw[w5n h5];repeat' first | exact hR | exact fin rfl | exact fin (by simp[dM,ByteArray.append_assoc]) | apply And.intro | omega
   ·rw[w5 h5];repeat' first | exact hR | exact fin rfl | exact fin (by simp[dM,ByteArray.append_assoc]) | apply And.intro | omega
  split at hu
  ·rename_i e
   obtain⟨rfl,rfl⟩:=e
   obtain rfl:=Option.some.inj hu
   clear ht hu
   simp only[af] at hl
   simp at hl
   have q0: (⟨#[123,49,44,51,125]⟩:B)=(((⟨#[123]⟩ ++ ⟨#[49]⟩) ++ ⟨#[44]⟩) ++ ⟨#[51]⟩) ++ ⟨#[125]⟩:=by decide
   rw[q0] at hR fin
   simp[aY,aX,h3,h4,h5,hp,hq,d0,d1,d2,d3,af, -Bool.forall_bool, -Bool.exists_bool]
   refine⟨fun h5=> ?_,fun h5=> ?_⟩
   ·rw[w5n h5];repeat' first | exact hR | exact fin rfl | exact fin (by simp[dM,ByteArray.append_assoc]) | apply And.intro | omega
   ·rw[w5 h5];repeat' first | exact hR | exact fin rfl | exact fin (by simp[dM,ByteArray.append_assoc]) | apply And.intro | omega
  split at hu
  ·rename_i e
   obtain⟨rfl,rfl⟩:=e
   obtain rfl:=Option.some.inj hu
   clear ht hu
   simp only[af] at hl
   simp at hl
   have q0: (⟨#[123,48,125]⟩:B)=(⟨#[123]⟩ ++ ⟨#[48]⟩) ++ ⟨#[125]⟩:=by decide
   rw[q0] at hR fin
   simp[aY,aX,h3,h4,h5,hp,hq,d0,d1,d2,d3,af, -Bool.forall_bool, -Bool.exists_bool]
   refine⟨fun h5=> ?_,fun h5=> ?_⟩
   ·rw[w5n h5];repeat' first | exact hR | exact fin rfl | exact fin (by simp[dM,ByteArray.append_assoc]) | apply And.intro | omega
   ·rw[w5 h5];repeat' first | exact hR | exact fin rfl | exact fin (by simp[dM,ByteArray.append_assoc]) | apply And.intro | omega
  cases hu
 ·cases ht
set_option maxHeartbeats 1000000 in
theorem LE (n:Nat) (h1:S aV=cP) (h2:S bN=pu 10) (h3:S aO=ca) (h4:S cB=tD n) (h5:S aH=s_decA):
 Walk aY aX S (a1 Pat) (fun x=> (x.op=4∨x.op=5)∧nc (j8 (cU 10) (n+1)) x) (enc (X:=B)) fun x y=> j8 (cU 10) (n+1) x=some y:=by
 rintro⟨op,⟨cop,cname,carg,cval,clab,cfold,ckids⟩,lab,reg,mn,mx,kids⟩ ⟨hop1,t,ht,hl⟩
 have hL:=mY
 have hR:=ht
 have fin: ∀ {u:B},u=t→j8 (cU 10) (n+1) ⟨op,⟨cop,cname,carg,cval,clab,cfold,ckids⟩,lab,reg,mn,mx,kids⟩=some u:=fun h=> by rw[h];exact hR
 simp only at hop1
 rw[j8] at ht
 unfold wh at ht
 simp only at ht
 have h78:=hop1
 have n1: ¬op=1:=by omega
 have n2: ¬op=2:=by omega
 have n3: ¬op=3:=by omega
 have n6: ¬op=6:=by omega
 rw[if_neg n1,if_neg n2,if_neg n3,if_neg n6,if_pos h78] at ht
 simp[aY,aX,n1,n2,n3,n6, -Bool.forall_bool, -Bool.exists_bool]
 intro hkl
 refine aJ (X:=B×B) [1,150] [] kids.length (fun k x=> gG (HL op) (zE op) (j8 (cU 10) n) k (kids.drop k)=some x.2∧x.1++x.2=t) (fun x=> [(3,enc x.1)]) (fun _=> []) (E0,t) (by simp) (by simp) (by omega) (by simp) (by simp) ?_ (by simp[E0]) (by simp) ?_ ?_
 ·exact⟨ht,by simp[E0,dM]⟩
 ·rintro k ⟨acc,r⟩ hk ⟨q1,q2⟩
  simp only at q1 q2
  obtain⟨x,hx⟩:=cV hk
  obtain⟨_,hgx⟩:=List.getElem?_eq_some_iff.1 hx
  obtain⟨tk,r',c1,c2,rfl⟩:=rQ hx q1
  have hi:=wW (zE op x) tk
  rw[←q2] at hl
  simp only[ai] at hl
  have hp:nc (j8 (cU 10) n) x:=⟨tk,c1,by omega⟩
  have key: ∀ (b:Bool) (s0:B),b=zE op x→s0=acc++ (if k=0 then E0 else HL op)→tk.size≤o9∧s0.size+ (sR b tk).size≤1000000000∧
   ∃y,gG (HL op) (zE op) (j8 (cU 10) n) (k+1) (List.drop (k+1) kids)=some y∧s0++sR b tk++y=t:=by
   rintro b s0 rfl rfl
   refine⟨by omega,by rw[ai];omega,r',c2,?_⟩
   rw[←q2]
   simp only[ByteArray.append_assoc]
  by_cases hk0:k=0
  ·have ks:=fun b e=> key b acc e (by rw[if_pos hk0,E0,cD])
   have hk1: ¬0 < k:=by omega
   clear key
   simp[h3,h4,hk,hx,hgx,hp,c1,hk1,af, -Bool.forall_bool, -Bool.exists_bool]
   exact⟨fun h5=> ⟨fun h4=> ks _ (by simp[zE,h4,h5]),fun h4=> ks _ (by simp[zE,h4,h5])⟩,fun h5=> ks _ (by simp[zE,h5])⟩
  ·have hk1:0 < k:=by omega
   rw[if_neg hk0] at hl
   rcases h78 with rfl | rfl
   ·have ks:=fun b e=> key b (acc++ ⟨#[32]⟩) e (by rw[if_neg hk0];rfl)
    have hsp: (HL 4).size=1:=rfl
    rw[hsp] at hl
    clear key
    simp[h3,h4,hk,hx,hgx,hp,c1,hk1,af, -Bool.forall_bool, -Bool.exists_bool]
    simp only[ai,show(⟨#[32]⟩:B).size=1 from rfl,show(⟨#[32,124]⟩:B).size=2 from rfl] at ks
    exact⟨by omega,fun h5=> ks _ (by simp[zE,h5]),fun h5=> ks _ (by simp[zE,h5])⟩
   ·have ks:=fun b e=> key b ((acc++ ⟨#[32,124]⟩) ++ ⟨#[32]⟩) e (by rw[if_neg hk0,ByteArray.append_assoc];rfl)
    have hsp: (HL 5).size=3:=rfl
    rw[hsp] at hl
    clear key
    simp[h3,h4,hk,hx,hgx,hp,c1,hk1,af, -Bool.forall_bool, -Bool.exists_bool]
    simp only[ai,show(⟨#[32]⟩:B).size=1 from rfl,show(⟨#[32,124]⟩:B).size=2 from rfl] at ks
    exact⟨by omega,by omega,fun h5=> ks _ (by simp[zE,h5]),fun h5=> ks _ (by simp[zE,h5])⟩
 ·rintro⟨acc,r⟩ ⟨q1,q2⟩
  simp only at q1 q2
  rw[List.drop_length,gG] at q1
  obtain rfl:=Option.some.inj q1
  simp
  exact fin (by rw[←q2];simp[E0,cD])
theorem Fq (n:Nat) (h1:S aV=cP) (h2:S bN=pu 10) (h3:S aO=ca) (h4:S cB=tD n) (h5:S aH=s_decA):
 Walk aY aX S (a1 Pat) (nc (j8 (cU 10) (n+1))) (enc (X:=B)) fun x y=> j8 (cU 10) (n+1) x=some y:=by
 intro p hp
 by_cases e1:p.op=1
 ·exact Ot n h1 h2 h3 h4 h5 p ⟨e1,hp⟩
 by_cases e6:p.op=6
 ·exact Ou n h1 h2 h3 h4 h5 p ⟨e6,hp⟩
 by_cases e4:p.op=4∨p.op=5
 ·exact LE n h1 h2 h3 h4 h5 p ⟨e4,hp⟩
 revert e1 e6 e4
 obtain⟨op,⟨cop,cname,carg,cval,clab,cfold,ckids⟩,lab,reg,mn,mx,kids⟩:=p
 obtain⟨t,ht,hl⟩:=hp
 intro e1 e6 e4
 simp only at e1 e6 e4
 have hL:=mY
 have hR:=ht
 have fin: ∀ {u:B},u=t→j8 (cU 10) (n+1) ⟨op,⟨cop,cname,carg,cval,clab,cfold,ckids⟩,lab,reg,mn,mx,kids⟩=some u:=fun h=> by rw[h];exact hR
 rw[j8] at ht
 unfold wh at ht
 simp only at ht
 rw[if_neg e1,if_neg e6,if_neg e4] at ht
 split at ht
 ·rename_i e
  subst e
  obtain rfl:=Option.some.inj ht
  simp only[ai,af] at hl
  simp at hl
  simp[aY,aX,af, -Bool.forall_bool, -Bool.exists_bool]
  repeat' first | exact hR | exact fin rfl | apply And.intro | omega
 rename_i n2
 split at ht
 ·rename_i e
  subst e
  obtain rfl:=Option.some.inj ht
  simp only[ai,af] at hl
  simp at hl
  simp[aY,aX,af, -Bool.forall_bool, -Bool.exists_bool]
  repeat' first | exact hR | exact fin rfl | apply And.intro | omega
 cases ht
end Go.Gv
