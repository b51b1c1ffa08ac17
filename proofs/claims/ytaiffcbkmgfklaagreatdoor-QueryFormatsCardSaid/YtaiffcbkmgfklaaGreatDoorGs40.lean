/- A part of the framework and of the walks: W107 W104 W106. -/
import Derived.Test.YtaiffcbkmgfklaaGreatDoorGs39
import Derived.Test.YtaiffcbkmgfklaaGreatDoorGs38
set_option linter.unusedSimpArgs false
set_option linter.unusedVariables false
set_option maxRecDepth 100000

namespace Go.Gv
open Cod (enc dec)
variable {S S0:Nat→Spc}
abbrev ny:Spc:=cY (a1 Int) (fun x=> -10 < x∧x < 10) (enc (X:=B)) fun x y=> mb x=some y
abbrev ik (n:Nat):Spc:=cY (a1 Glob) (pJ (aX n)) (enc (X:=B)) fun x y=> aX n x=some y
theorem o9 {n:Int} {t:B} (h:mb n=some t): -10 < n∧n < 10:=by
 unfold mb at h
 split at h
 ·omega
 ·split at h
  ·omega
  ·cases h
theorem HT (n:Nat) (h1:S bf=dJ) (h2:S bz=gq) (h3:S aV=cP) (h4:S a7=ik n) (h5:S aL=ny) (h6:S bC=cV):
 Walk aI aG S (a1 Glob) (fun x=> x.op=12∧pJ (aX (n+1)) x) (enc (X:=B)) fun x y=> aX (n+1) x=some y:=by
 rintro⟨op,a,b,name,arg,val,fold,mn,mx,args,kids⟩ ⟨hop,t,ht,hl⟩
 have hL:=jf
 have hR:=ht
 simp only at hop
 subst hop
 have fin: ∀ {u:B},u=t→aX (n+1) ⟨12,a,b,name,arg,val,fold,mn,mx,args,kids⟩=some u:=fun h=> by rw[h];exact hR
 rw[aX] at ht
 unfold ka at ht
 simp only at ht
 rw[if_neg (by decide),if_neg (by decide),if_neg (by decide),if_pos (by decide)] at ht
 have hs: (⟨#[32,38,32]⟩:B)=(⟨#[32]⟩ ++ ⟨#[38]⟩) ++ ⟨#[32]⟩:=by decide
 have ht:dn ⟨#[32,38,32]⟩ (gd 12) (aX n) 0 kids=some t:=ht
 rw[hs] at ht
 have hsz: ((⟨#[32]⟩:B) ++ ⟨#[38]⟩ ++ ⟨#[32]⟩).size=3:=rfl
 have hex: (⟨#[38,124]⟩:B).extract 0 1=⟨#[38]⟩:=by decide
 simp[aI,aG, -Bool.forall_bool, -Bool.exists_bool]
 intro hkl
 refine aw (X:=B×B) [1,64] [] kids.length (fun k x=> dn (⟨#[32]⟩ ++ ⟨#[38]⟩ ++ ⟨#[32]⟩) (gd 12) (aX n) k (kids.drop k)=some x.2∧x.1++x.2=t) (fun x=> [(3,enc x.1)]) (fun _=> []) (E0,t) (by simp) (by simp) (by omega) (by simp) (by simp) ?_ (by simp[E0]) (by simp) ?_ ?_
 ·exact⟨ht,by simp[E0,dr]⟩
 ·rintro k ⟨acc,r⟩ hk ⟨q1,q2⟩
  simp only at q1 q2
  obtain⟨x,hx⟩:=cz hk
  obtain⟨_,hgx⟩:=List.getElem?_eq_some_iff.1 hx
  obtain⟨tk,r',c1,c2,rfl⟩:=j8 hx q1
  have hi:=zc (gd 12 x) tk
  rw[←q2] at hl
  simp only[ag] at hl
  have hp:pJ (aX n) x:=⟨tk,c1,by omega⟩
  have key: ∀ (b:Bool) (s0:B),b=gd 12 x→s0=acc++ (if k=0 then E0 else⟨#[32]⟩ ++ ⟨#[38]⟩ ++ ⟨#[32]⟩)→tk.size≤mi∧s0.size+ (eX b tk).size≤1000000000∧
   ∃y,dn (⟨#[32]⟩ ++ ⟨#[38]⟩ ++ ⟨#[32]⟩) (gd 12) (aX n) (k+1) (List.drop (k+1) kids)=some y∧s0++eX b tk++y=t:=by
   rintro b s0 rfl rfl
   refine⟨by omega,by rw[ag];omega,r',c2,?_⟩
   rw[←q2]
   simp only[ByteArray.append_assoc]
  by_cases hk0:k=0
  ·have ks:=fun b e=> key b acc e (by rw[if_pos hk0,E0,aQ])
   have hk1: ¬0 < k:=by omega
   clear key
   simp[h3,h4,hk,hx,hgx,hp,c1,hk1,ab, -Bool.forall_bool, -Bool.exists_bool]
   exact⟨fun h5=> ks _ (by simp[gd,h5]),fun h5=> ks _ (by simp[gd,h5])⟩
  ·have hk1:0 < k:=by omega
   rw[if_neg hk0] at hl
   have ks:=fun b e=> key b (acc++ (⟨#[32]⟩ ++ ⟨#[38]⟩ ++ ⟨#[32]⟩)) e (by rw[if_neg hk0])
   clear key
   simp only[ag,show(⟨#[32]⟩:B).size=1 from rfl,show(⟨#[38]⟩:B).size=1 from rfl] at ks hl
   simp[h3,h4,hk,hx,hgx,hp,c1,hk1,hex,ab, -Bool.forall_bool, -Bool.exists_bool]
   refine⟨by simp only[InR];omega,by simp only[InR];omega,by omega,fun h5=> ?_,fun h5=> ?_⟩
   ·have:=ks (decide (x.op=12)) (by simp[gd,h5])
    exact⟨this.1,by omega,this.2.2⟩
   ·have:=ks true (by simp[gd,h5])
    exact⟨this.1,by omega,this.2.2⟩
 ·rintro⟨acc,r⟩ ⟨q1,q2⟩
  simp only at q1 q2
  rw[List.drop_length,dn] at q1
  obtain rfl:=Option.some.inj q1
  simp
  exact fin (by rw[←q2];simp[E0,aQ])
theorem HR (n:Nat) (h1:S bf=dJ) (h2:S bz=gq) (h3:S aV=cP) (h4:S a7=ik n) (h5:S aL=ny) (h6:S bC=cV):
 Walk aI aG S (a1 Glob) (fun x=> x.op=13∧pJ (aX (n+1)) x) (enc (X:=B)) fun x y=> aX (n+1) x=some y:=by
 rintro⟨op,a,b,name,arg,val,fold,mn,mx,args,kids⟩ ⟨hop,t,ht,hl⟩
 have hL:=jf
 have hR:=ht
 simp only at hop
 subst hop
 have fin: ∀ {u:B},u=t→aX (n+1) ⟨13,a,b,name,arg,val,fold,mn,mx,args,kids⟩=some u:=fun h=> by rw[h];exact hR
 rw[aX] at ht
 unfold ka at ht
 simp only at ht
 rw[if_neg (by decide),if_neg (by decide),if_neg (by decide),if_pos (by decide)] at ht
 have hs: (⟨#[32,124,32]⟩:B)=(⟨#[32]⟩ ++ ⟨#[124]⟩) ++ ⟨#[32]⟩:=by decide
 have ht:dn ⟨#[32,124,32]⟩ (gd 13) (aX n) 0 kids=some t:=ht
 rw[hs] at ht
 have hsz: ((⟨#[32]⟩:B) ++ ⟨#[124]⟩ ++ ⟨#[32]⟩).size=3:=rfl
 have hex: (⟨#[38,124]⟩:B).extract 1 2=⟨#[124]⟩:=by decide
 simp[aI,aG, -Bool.forall_bool, -Bool.exists_bool]
 intro hkl
 refine aw (X:=B×B) [1,64] [] kids.length (fun k x=> dn (⟨#[32]⟩ ++ ⟨#[124]⟩ ++ ⟨#[32]⟩) (gd 13) (aX n) k (kids.drop k)=some x.2∧x.1++x.2=t) (fun x=> [(3,enc x.1)]) (fun _=> []) (E0,t) (by simp) (by simp) (by omega) (by simp) (by simp) ?_ (by simp[E0]) (by simp) ?_ ?_
 ·exact⟨ht,by simp[E0,dr]⟩
 ·rintro k ⟨acc,r⟩ hk ⟨q1,q2⟩
  simp only at q1 q2
  obtain⟨x,hx⟩:=cz hk
  obtain⟨_,hgx⟩:=List.getElem?_eq_some_iff.1 hx
  obtain⟨tk,r',c1,c2,rfl⟩:=j8 hx q1
  have hi:=zc (gd 13 x) tk
  rw[←q2] at hl
  simp only[ag] at hl
  have hp:pJ (aX n) x:=⟨tk,c1,by omega⟩
  have key: ∀ (b:Bool) (s0:B),b=gd 13 x→s0=acc++ (if k=0 then E0 else⟨#[32]⟩ ++ ⟨#[124]⟩ ++ ⟨#[32]⟩)→tk.size≤mi∧s0.size+ (eX b tk).size≤1000000000∧
   ∃y,dn (⟨#[32]⟩ ++ ⟨#[124]⟩ ++ ⟨#[32]⟩) (gd 13) (aX n) (k+1) (List.drop (k+1) kids)=some y∧s0++eX b tk++y=t:=by
   rintro b s0 rfl rfl
   refine⟨by omega,by rw[ag];omega,r',c2,?_⟩
   rw[←q2]
   simp only[ByteArray.append_assoc]
  by_cases hk0:k=0
  ·have ks:=fun b e=> key b acc e (by rw[if_pos hk0,E0,aQ])
   have hk1: ¬0 < k:=by omega
   clear key
   simp[h3,h4,hk,hx,hgx,hp,c1,hk1,ab, -Bool.forall_bool, -Bool.exists_bool]
   exact⟨fun h5=> ks _ (by simp[gd,h5]),fun h5=> ks _ (by simp[gd,h5])⟩
  ·have hk1:0 < k:=by omega
   rw[if_neg hk0] at hl
   have ks:=fun b e=> key b (acc++ (⟨#[32]⟩ ++ ⟨#[124]⟩ ++ ⟨#[32]⟩)) e (by rw[if_neg hk0])
   clear key
   simp only[ag,show(⟨#[32]⟩:B).size=1 from rfl,show(⟨#[124]⟩:B).size=1 from rfl] at ks hl
   simp[h3,h4,hk,hx,hgx,hp,c1,hk1,hex,ab, -Bool.forall_bool, -Bool.exists_bool]
   refine⟨by simp only[InR];omega,by simp only[InR];omega,by omega,fun h5=> ?_,fun h5=> ?_⟩
   ·have:=ks false (by simp[gd,h5])
    exact⟨this.1,by omega,this.2.2⟩
   ·have:=ks true (by simp[gd,h5])
    exact⟨this.1,by omega,this.2.2⟩
 ·rintro⟨acc,r⟩ ⟨q1,q2⟩
  simp only at q1 q2
  rw[List.drop_length,dn] at q1
  obtain rfl:=Option.some.inj q1
  simp
  exact fin (by rw[←q2];simp[E0,aQ])
theorem NT (n:Nat) (h1:S bf=dJ) (h2:S bz=gq) (h3:S aV=cP) (h4:S a7=ik n) (h5:S aL=ny) (h6:S bC=cV):
 Walk aI aG S (a1 Glob) (fun x=> (x.op=2∨x.op=3∨x.op=11)∧pJ (aX (n+1)) x) (enc (X:=B)) fun x y=> aX (n+1) x=some y:=by
 rintro⟨op,a,b,name,arg,val,fold,mn,mx,args,kids⟩ ⟨hop,t,ht,hl⟩
 have hL:=jf
 have hR:=ht
 have fin: ∀ {u:B},u=t→aX (n+1) ⟨op,a,b,name,arg,val,fold,mn,mx,args,kids⟩=some u:=fun h=> by rw[h];exact hR
 simp only at hop
 rw[aX] at ht
 unfold ka at ht
 simp only at ht
 rcases hop with rfl | rfl | rfl
 ·rw[if_pos rfl] at ht
  obtain⟨q,hq,ht⟩:=Option.map_eq_some_iff.1 ht
  subst ht
  simp only[ag,ab] at hl
  simp at hl
  have hp:pJ il (val,fold):=⟨q,hq,by omega⟩
  simp[aI,aG,h1,hp,hq,ab, -Bool.forall_bool, -Bool.exists_bool]
  repeat' first | exact hR | exact fin rfl | exact fin (by simp[dr,ByteArray.append_assoc]) | apply And.intro | omega
 ·rw[if_neg (by decide),if_pos rfl] at ht
  obtain rfl:=Option.some.inj ht
  simp only[ag,ab] at hl
  simp at hl
  simp[aI,aG,ab, -Bool.forall_bool, -Bool.exists_bool]
  repeat' first | exact hR | exact fin rfl | exact fin (by simp[dr,ByteArray.append_assoc]) | apply And.intro | omega
 ·rw[if_neg (by decide),if_neg (by decide),if_pos rfl] at ht
  unfold WR at ht
  split at ht
  ·rename_i k
   obtain⟨q,hq,ht⟩:=Option.map_eq_some_iff.1 ht
   subst ht
   have hi:=zc (decide (k.op=12) || decide (k.op=13)) q
   rw[ag,ab] at hl
   simp at hl
   have hp:pJ (aX n) k:=⟨q,hq,by omega⟩
   simp[aI,aG,h3,h4,hp,hq,ab, -Bool.forall_bool, -Bool.exists_bool]
   refine⟨fun h7=> ?_,fun h7=> ?_⟩
   ·have e: (decide (k.op=12) || decide (k.op=13))=decide (k.op=13):=by simp[h7]
    rw[e] at hl hR hi
    exact⟨by omega,by omega,hR⟩
   ·have e: (decide (k.op=12) || decide (k.op=13))=true:=by simp[h7]
    rw[e] at hl hR hi
    exact⟨by omega,by omega,hR⟩
  ·cases ht
theorem ja {l:List B} {k:Nat} {x:B} (hx:l[k]?=some x) {r:B} (h:gp (l.drop k)=some r): ∃t r',lW x=some t∧gp (l.drop (k+1))=some r'∧r=(⟨#[44]⟩ ++t) ++r':=by
 rw[show l.drop k=x::l.drop (k+1) from ek hx,gp] at h
 obtain⟨t,h1,h⟩:=Option.bind_eq_some_iff.1 h
 obtain⟨r',h2,h⟩:=Option.map_eq_some_iff.1 h
 exact⟨t,r',h1,h2,h.symm⟩
end Go.Gv

namespace Go.Gv
open Cod (enc dec)
variable {S S0:Nat→Spc}
def VL (n:Nat) (x:Cond×Int):Prop:=fk x.1≤n∧0≤x.2∧x.2+fk x.1≤61∧mX x.1≤60
abbrev Kb (n:Nat):Spc:=cY (a2 Cond Int) (VL n) (DX (Y:=Int) (Z:=Int)) fun x y=> y=((mX x.1:Int),(fk x.1:Int))
theorem Lt (n:Nat) (h1:S gT=Kb n):Walk uv tG S (a2 Cond Int) (VL (n+1)) (DX (Y:=Int) (Z:=Int)) fun x y=> y=((mX x.1:Int),(fk x.1:Int)):=by
 rintro⟨x,deep⟩ ⟨hn,h0,h2,h3⟩
 simp only at hn h0 h2 h3
 have hd1:=uC x
 have hn1:=D7 x
 have hdeep: ¬60 < deep:=by omega
 simp[uv,tG,hdeep]
 intro hkl
 refine aw (X:=Int×Int) [1,15] [] x.kids.length (fun k z=> z.1=1+ (jG (x.kids.take k):Int)∧z.2=(jH (x.kids.take k):Int)) (fun z=> [(6,enc z.1),(7,enc z.2)]) (fun _=> []) (1,0) (by simp) (by simp) (by omega) (by simp) (by simp) (by simp[jG,jH]) (by simp) (by simp) ?_ ?_
 ·rintro k ⟨m,d⟩ hk ⟨e1,e2⟩
  simp only at e1 e2
  obtain⟨y,hy⟩:=cz hk
  obtain⟨_,hgy⟩:=List.getElem?_eq_some_iff.1 hy
  have hm:=IS hy
  have hd:=xn (cn hy)
  have hp:VL n (y,deep+1):=⟨by show fk y≤n;omega,by show 0≤deep+1;omega,by show deep+1+fk y≤61;omega,by show mX y≤60;omega⟩
  simp[h1,hk,hy,hgy,hp]
  exact⟨by simp only[InR];omega,by simp only[InR];omega,fun _=> by omega,fun _=> by omega⟩
 ·rintro⟨m,d⟩ ⟨e1,e2⟩
  simp only at e1 e2
  rw[List.take_length] at e1 e2
  simp
  exact⟨by simp only[InR];omega,by omega,by omega⟩
abbrev s_countA:Spc:=cY (a2 Cond Int) (fun x=> ∃n,VL n x) (DX (Y:=Int) (Z:=Int)) fun x y=> y=((mX x.1:Int),(fk x.1:Int))
def qco (n:Nat) (x:Glob×Int):Prop:=gh x.1≤n∧0≤x.2∧x.2+gh x.1≤61∧ro x.1≤60
abbrev vI (n:Nat):Spc:=cY (a2 Glob Int) (qco n) (DX (Y:=Int) (Z:=Int)) fun x y=> y=((ro x.1:Int),(gh x.1:Int))
theorem Dc (n:Nat) (h1:S dR=vI n):Walk nR nA S (a2 Glob Int) (qco (n+1)) (DX (Y:=Int) (Z:=Int)) fun x y=> y=((ro x.1:Int),(gh x.1:Int)):=by
 rintro⟨x,deep⟩ ⟨hn,h0,h2,h3⟩
 simp only at hn h0 h2 h3
 have hd1:=Az x
 have hn1:=KB x
 have hdeep: ¬60 < deep:=by omega
 simp[nR,nA,hdeep]
 intro hkl
 refine aw (X:=Int×Int) [1,15] [] x.kids.length (fun k z=> z.1=1+ (kQ (x.kids.take k):Int)∧z.2=(kU (x.kids.take k):Int)) (fun z=> [(6,enc z.1),(7,enc z.2)]) (fun _=> []) (1,0) (by simp) (by simp) (by omega) (by simp) (by simp) (by simp[kQ,kU]) (by simp) (by simp) ?_ ?_
 ·rintro k ⟨m,d⟩ hk ⟨e1,e2⟩
  simp only at e1 e2
  obtain⟨y,hy⟩:=cz hk
  obtain⟨_,hgy⟩:=List.getElem?_eq_some_iff.1 hy
  have hm:=IR hy
  have hd:=xi (cn hy)
  have hp:qco n (y,deep+1):=⟨by show gh y≤n;omega,by show 0≤deep+1;omega,by show deep+1+gh y≤61;omega,by show ro y≤60;omega⟩
  simp[h1,hk,hy,hgy,hp]
  exact⟨by simp only[InR];omega,by simp only[InR];omega,fun _=> by omega,fun _=> by omega⟩
 ·rintro⟨m,d⟩ ⟨e1,e2⟩
  simp only at e1 e2
  rw[List.take_length] at e1 e2
  simp
  exact⟨by simp only[InR];omega,by omega,by omega⟩
abbrev s_globNodesA:Spc:=cY (a2 Glob Int) (fun x=> ∃n,qco n x) (DX (Y:=Int) (Z:=Int)) fun x y=> y=((ro x.1:Int),(gh x.1:Int))
abbrev Kg:Spc:=cY (a1 Cond) (fun x=> fk x≤60∧mX x≤60) (DX (Y:=Int) (Z:=Int)) fun x y=> y=((mX x:Int),(fk x:Int))
theorem Lw (h1:S gT=s_countA):Walk ux tI S (a1 Cond) (fun x=> fk x≤60∧mX x≤60) (DX (Y:=Int) (Z:=Int)) fun x y=> y=((mX x:Int),(fk x:Int)):=by
 rintro x ⟨h2,h3⟩
 have hp: ∃n,VL n (x,0):=⟨fk x,Nat.le_refl _,Int.le_refl _,by show(0:Int) +fk x≤61;omega,h3⟩
 simp[ux,tI,h1,hp]
abbrev yQ:Spc:=cY (a1 Cond) (fun x=> ∃lb m,GC lb m x) (enc (X:=Bool)) fun x y=> y=true
theorem Lv:Walk eo ee S (a1 Cond) (fun x=> ∃lb m,GC lb m x) (enc (X:=Bool)) fun x y=> y=true:=by
 rintro x ⟨lb,m,h⟩
 cases h with
 | any=> simp[eo,ee,E0, -Bool.forall_bool, -Bool.exists_bool]
 | top v f h=> simp[eo,ee,E0, -Bool.forall_bool, -Bool.exists_bool]
 | inner c h=>
   cases h with
   | atom n c h=>
     cases h with
     | val n v f h1 h2=> simp[eo,ee,E0, -Bool.forall_bool, -Bool.exists_bool]
     | feat v h=> simp[eo,ee,E0, -Bool.forall_bool, -Bool.exists_bool]
     | same n l a h1 h2 h3=> simp[eo,ee,E0, -Bool.forall_bool, -Bool.exists_bool]
     | reg n h=> simp[eo,ee,E0, -Bool.forall_bool, -Bool.exists_bool]
     | regk n v h1 h2=> simp[eo,ee,E0,t_n, -Bool.forall_bool, -Bool.exists_bool]
   | not n k h=> simp[eo,ee,E0, -Bool.forall_bool, -Bool.exists_bool]
   | two n op a b ho h1 h2=> rcases ho with rfl | rfl <;> simp[eo,ee,E0, -Bool.forall_bool, -Bool.exists_bool]
def Z1 (n:Nat) (x:Cond):Prop:=fk x≤n∧ ∃lb m,m≤2∧GC lb m x
abbrev Oe (n:Nat):Spc:=cY (a1 Cond) (Z1 n) (enc (X:=Bool)) fun x y=> y=false
abbrev s_malfA:Spc:=cY (a1 Cond) (fun x=> ∃lb m,m≤2∧GC lb m x) (enc (X:=Bool)) fun x y=> y=false
theorem Da (n:Nat) (h1:S o6=Kg) (h2:S o5=yQ) (h3:S dO=Oe n):Walk nQ nz S (a1 Cond) (Z1 (n+1)) (enc (X:=Bool)) fun x y=> y=false:=by
 rintro x ⟨hn,lb,m,hm,h⟩
 have hnum:=UM h
 have hpw:2^ (m+1)≤2^3:=Nat.pow_le_pow_right (by omega) (by omega)
 have p1:fk x≤60∧mX x≤60:=by omega
 have p2: ∃lb m,GC lb m x:=⟨lb,m,h⟩
 have p3: ¬ (60:Int) < mX x:=by omega
 have p4: ¬ (20:Int) < fk x:=by omega
 have p5: ∀k∈x.kids,Z1 n k:=fun k hk=> by
  obtain⟨m',h1,h2⟩:=UN h hk
  have:=G6 hk
  exact⟨by omega,lb,m',by omega,h2⟩
 simp[nQ,nz,h1,h2,p1,p2,p3,p4, -Bool.forall_bool, -Bool.exists_bool]
 intro hkl
 refine aw (X:=Unit) [24] [] x.kids.length (fun k _=> True) (fun _=> []) (fun _=> []) () (by simp) (by simp) (by omega) (by simp) (by simp) (by simp) (by simp) (by simp) ?_ ?_
 ·rintro k -hk -
  obtain⟨y,hy⟩:=cz hk
  obtain⟨_,hgy⟩:=List.getElem?_eq_some_iff.1 hy
  have hp:=p5 y (cn hy)
  simp[h3,hk,hy,hgy,hp, -Bool.forall_bool, -Bool.exists_bool]
 ·rintro - -
  simp
def qcn (n:Nat) (x:Glob×Bool):Prop:=gh x.1≤n∧((x.2=true∧x.1=GlobE)∨ ∃lb m,GG lb m x.1)
abbrev vH (n:Nat):Spc:=cY (a2 Glob Bool) (qcn n) (enc (X:=Bool)) fun x y=> y=true
set_option maxHeartbeats 2000000 in
theorem Db (n:Nat) (h1:S dQ=vH n):Walk bv bq S (a2 Glob Bool) (qcn (n+1)) (enc (X:=Bool)) fun x y=> y=true:=by
 rintro⟨g,b⟩ ⟨hn,hg⟩
 simp only at hn hg
 have p5: ∀k∈g.kids,qcn n (k,false):=fun k hk=> by
  have:=GH hk
  rcases hg with⟨_,rfl⟩ | ⟨lb,m,h⟩
  ·cases hk
  ·obtain⟨m',_,h2⟩:=UK h hk
   exact⟨by show gh k≤n;omega, .inr ⟨lb,m',h2⟩⟩
 rcases hg with⟨rfl,rfl⟩ | ⟨lb,m,h⟩
 ·simp[bv,bq,E0,GlobE, -Bool.forall_bool, -Bool.exists_bool]
  refine aw (X:=Unit) [136] [] 0 (fun k _=> True) (fun _=> []) (fun _=> []) () (by simp) (by simp) (by simp) (by simp) (by simp) (by simp) (by simp) (by simp) (fun k x hk=> absurd hk (by omega)) (fun _ _=> ?_)
  simp
 ·cases h with
  | bound n a h=>
    simp[bv,bq,E0,GlobE, -Bool.forall_bool, -Bool.exists_bool]
    refine aw (X:=Unit) [136] [] 0 (fun k _=> True) (fun _=> []) (fun _=> []) () (by simp) (by simp) (by simp) (by simp) (by simp) (by simp) (by simp) (by simp) (fun k x hk=> absurd hk (by omega)) (fun _ _=> ?_)
    simp
  | val n a v f h1 h2=>
    simp[bv,bq,E0,GlobE, -Bool.forall_bool, -Bool.exists_bool]
    refine aw (X:=Unit) [136] [] 0 (fun k _=> True) (fun _=> []) (fun _=> []) () (by simp) (by simp) (by simp) (by simp) (by simp) (by simp) (by simp) (by simp) (fun k x hk=> absurd hk (by omega)) (fun _ _=> ?_)
    simp
  | same n a b g h1 h2 h3=>
    simp[bv,bq,E0,GlobE, -Bool.forall_bool, -Bool.exists_bool]
    refine aw (X:=Unit) [136] [] 0 (fun k _=> True) (fun _=> []) (fun _=> []) () (by simp) (by simp) (by simp) (by simp) (by simp) (by simp) (by simp) (by simp) (fun k x hk=> absurd hk (by omega)) (fun _ _=> ?_)
    simp
  | dist n a b mn mx h1 h2 h3 h4 h5 h6=>
    simp[bv,bq,E0,GlobE, -Bool.forall_bool, -Bool.exists_bool]
    refine aw (X:=Unit) [136] [] 0 (fun k _=> True) (fun _=> []) (fun _=> []) () (by simp) (by simp) (by simp) (by simp) (by simp) (by simp) (by simp) (by simp) (fun k x hk=> absurd hk (by omega)) (fun _ _=> ?_)
    simp
  | reg n a b t h1 h2 h3=>
    simp[bv,bq,E0,GlobE, -Bool.forall_bool, -Bool.exists_bool]
    refine aw (X:=Unit) [136] [] 0 (fun k _=> True) (fun _=> []) (fun _=> []) () (by simp) (by simp) (by simp) (by simp) (by simp) (by simp) (by simp) (by simp) (fun k x hk=> absurd hk (by omega)) (fun _ _=> ?_)
    simp
  | path n a b l h1 h2 h3 h4=>
    simp[bv,bq,E0,GlobE, -Bool.forall_bool, -Bool.exists_bool]
    refine aw (X:=Unit) [136] [] 0 (fun k _=> True) (fun _=> []) (fun _=> []) () (by simp) (by simp) (by simp) (by simp) (by simp) (by simp) (by simp) (by simp) (fun k x hk=> absurd hk (by omega)) (fun _ _=> ?_)
    simp
  | node n a b t h1 h2 h3=>
    simp[bv,bq,E0,GlobE, -Bool.forall_bool, -Bool.exists_bool]
    refine aw (X:=Unit) [136] [] 0 (fun k _=> True) (fun _=> []) (fun _=> []) () (by simp) (by simp) (by simp) (by simp) (by simp) (by simp) (by simp) (by simp) (fun k x hk=> absurd hk (by omega)) (fun _ _=> ?_)
    simp
  | depth n a mn mx h1 h3 h4 h5 h6=>
    simp[bv,bq,E0,GlobE, -Bool.forall_bool, -Bool.exists_bool]
    refine aw (X:=Unit) [136] [] 0 (fun k _=> True) (fun _=> []) (fun _=> []) () (by simp) (by simp) (by simp) (by simp) (by simp) (by simp) (by simp) (by simp) (fun k x hk=> absurd hk (by omega)) (fun _ _=> ?_)
    simp
  | head n op a b ho h1 h2=>
    rcases ho with rfl | rfl
    ·simp[bv,bq,E0,GlobE, -Bool.forall_bool, -Bool.exists_bool]
     refine aw (X:=Unit) [136] [] 0 (fun k _=> True) (fun _=> []) (fun _=> []) () (by simp) (by simp) (by simp) (by simp) (by simp) (by simp) (by simp) (by simp) (fun k x hk=> absurd hk (by omega)) (fun _ _=> ?_)
     simp
    ·simp[bv,bq,E0,GlobE, -Bool.forall_bool, -Bool.exists_bool]
     refine aw (X:=Unit) [136] [] 0 (fun k _=> True) (fun _=> []) (fun _=> []) () (by simp) (by simp) (by simp) (by simp) (by simp) (by simp) (by simp) (by simp) (fun k x hk=> absurd hk (by omega)) (fun _ _=> ?_)
     simp
  | not n k h=>
    simp[bv,bq,E0,GlobE, -Bool.forall_bool, -Bool.exists_bool]
    refine aw (X:=Unit) [136] [] 1 (fun k _=> True) (fun _=> []) (fun _=> []) () (by simp) (by simp) (by simp) (by simp) (by simp) (by simp) (by simp) (by simp) ?_ ?_
    ·rintro j -hj -
     obtain rfl:j=0:=by omega
     have hp:=p5 k (by simp)
     simp[h1,hp, -Bool.forall_bool, -Bool.exists_bool]
    ·rintro - -
     simp
  | two n op a b' ho hh1 hh2=>
    rcases ho with rfl | rfl
    ·simp[bv,bq,E0,GlobE, -Bool.forall_bool, -Bool.exists_bool]
     refine aw (X:=Unit) [136] [] 2 (fun k _=> True) (fun _=> []) (fun _=> []) () (by simp) (by simp) (by simp) (by simp) (by simp) (by simp) (by simp) (by simp) ?_ ?_
     ·rintro j -hj -
      have hp1:=p5 a (by simp)
      have hp2:=p5 b' (by simp)
      have hj:j=0∨j=1:=by omega
      rcases hj with rfl | rfl
      ·simp[h1,hp1, -Bool.forall_bool, -Bool.exists_bool]
      ·simp[h1,hp2, -Bool.forall_bool, -Bool.exists_bool]
     ·rintro - -
      simp
    ·simp[bv,bq,E0,GlobE, -Bool.forall_bool, -Bool.exists_bool]
     refine aw (X:=Unit) [136] [] 2 (fun k _=> True) (fun _=> []) (fun _=> []) () (by simp) (by simp) (by simp) (by simp) (by simp) (by simp) (by simp) (by simp) ?_ ?_
     ·rintro j -hj -
      have hp1:=p5 a (by simp)
      have hp2:=p5 b' (by simp)
      have hj:j=0∨j=1:=by omega
      rcases hj with rfl | rfl
      ·simp[h1,hp1, -Bool.forall_bool, -Bool.exists_bool]
      ·simp[h1,hp2, -Bool.forall_bool, -Bool.exists_bool]
     ·rintro - -
      simp
abbrev s_globShapeA:Spc:=cY (a2 Glob Bool) (fun x=> ∃n,qcn n x) (enc (X:=Bool)) fun x y=> y=true
def qhW (g:Glob):Prop:=g=GlobE∨ ∃lb m,m≤2∧GG lb m g
abbrev Bi:Spc:=cY (a1 Glob) qhW (enc (X:=Bool)) fun x y=> y=true
theorem HC (h1:S dR=s_globNodesA) (h2:S dQ=s_globShapeA):Walk qM qn S (a1 Glob) qhW (enc (X:=Bool)) fun x y=> y=true:=by
 rintro g hg
 have hnum:ro g≤7∧gh g≤3:=by
  rcases hg with rfl | ⟨lb,m,hm,h⟩
  ·decide
  ·have:=UJ h
   have hpw:2^ (m+1)≤2^3:=Nat.pow_le_pow_right (by omega) (by omega)
   omega
 have p1: ∃n,qco n (g,0):=⟨gh g,Nat.le_refl _,Int.le_refl _,by show(0:Int) +gh g≤61;omega,by show ro g≤60;omega⟩
 have p2: ∃n,qcn n (g,true):=⟨gh g,Nat.le_refl _,hg.elim (fun e=> .inl ⟨rfl,e⟩) fun⟨lb,m,_,h⟩=> .inr ⟨lb,m,h⟩⟩
 simp[qM,qn,h1,h2,p1,p2, -Bool.forall_bool, -Bool.exists_bool]
 exact⟨fun _=> by omega,by omega⟩
end Go.Gv

namespace Go.Gv
open Cod (enc dec)
variable {S S0:Nat→Spc}
abbrev s_decA:Spc:=cY (a1 Int) (fun x=> -10 < x∧x < 10) (enc (X:=B)) fun x y=> mb x=some y
abbrev vD (n:Nat):Spc:=cY (a1 Pat) (pJ (eT (bj 10) n)) (enc (X:=B)) fun x y=> eT (bj 10) n x=some y
theorem IL {val arg lab q:B} {fold:Bool} {kids:List Cond} (h:bj 10 ⟨2,E0,arg,val,lab,fold,kids⟩=some q):il (val,fold)=some q:=by
 rw[bj,gm,if_neg (by decide: ¬ (2:Int)=1),if_pos rfl] at h
 obtain⟨t,h1,h2⟩:=Option.map_eq_some_iff.1 h
 rw[if_pos rfl] at h2
 rw[←h2]
 exact h1
theorem QO (n:Nat) (h1:S bf=dJ) (h2:S cw=rE 10) (h3:S aV=cP) (h4:S dj=vD n) (h5:S aL=s_decA):
 Walk bi bg S (a1 Pat) (fun x=> x.op=1∧pJ (eT (bj 10) (n+1)) x) (enc (X:=B)) fun x y=> eT (bj 10) (n+1) x=some y:=by
 rintro⟨op,⟨cop,cname,carg,cval,clab,cfold,ckids⟩,lab,reg,mn,mx,kids⟩ ⟨hop1,t,ht,hl⟩
 have hL:=jf
 have hR:=ht
 have fin: ∀ {u:B},u=t→eT (bj 10) (n+1) ⟨op,⟨cop,cname,carg,cval,clab,cfold,ckids⟩,lab,reg,mn,mx,kids⟩=some u:=fun h=> by rw[h];exact hR
 simp only at hop1
 rw[eT] at ht
 unfold oM at ht
 simp only at ht
 subst hop1
 rw[if_pos rfl] at ht
 unfold LN at ht
 obtain⟨q,hq,ht⟩:=Option.map_eq_some_iff.1 ht
 simp only at hq ht
 have hop:cop=1∨cop=2∧cname=E0∨ ¬cop=1∧ ¬ (cop=2∧cname=E0):=by
  by_cases e1:cop=1
  ·exact .inl e1
  ·by_cases e2:cop=2∧cname=E0
   ·exact .inr (.inl e2)
   ·exact .inr (.inr ⟨e1,e2⟩)
 rcases hop with rfl | ⟨rfl,rfl⟩ | ⟨e1,e2⟩
 ·have hq0:q=⟨#[91,93]⟩:=by
   rw[bj,gm,if_pos rfl] at hq
   exact(Option.some.inj hq).symm
  unfold bL at ht
  rw[if_pos (show jy _ from .inl rfl)] at ht
  by_cases hn:lab=E0
  ·rw[if_pos hn] at ht
   have hn':lab=⟨#[]⟩:=hn
   subst ht
   subst hn'
   simp[bi,bg,ab, -Bool.forall_bool, -Bool.exists_bool]
   repeat' first | exact hR | exact fin rfl | exact fin (by simp[hq0,dr,ByteArray.append_assoc]) | apply And.intro | omega
  ·rw[if_neg hn] at ht
   have hn': ¬lab=⟨#[]⟩:=hn
   subst ht
   subst hq0
   simp only[ag,ab] at hl
   simp at hl
   simp[bi,bg,hn',ab, -Bool.forall_bool, -Bool.exists_bool]
   repeat' first | exact hR | exact fin rfl | exact fin (by simp[dr,ByteArray.append_assoc]) | apply And.intro | omega
 ·have hv:=IL hq
  have hp:pJ il (cval,cfold):=⟨q,hv,by unfold bL at ht;rw[if_pos (show jy _ from .inr ⟨rfl,rfl⟩)] at ht;split at ht <;> (rw[←ht] at hl;try simp only[ag] at hl) <;> omega⟩
  unfold bL at ht
  rw[if_pos (show jy _ from .inr ⟨rfl,rfl⟩)] at ht
  by_cases hn:lab=E0
  ·rw[if_pos hn] at ht
   have hn':lab=⟨#[]⟩:=hn
   subst ht
   subst hn'
   simp[bi,bg,h1,hp,hv,E0,ab, -Bool.forall_bool, -Bool.exists_bool]
   repeat' first | exact hR | exact fin rfl | exact fin (by simp[dr,ByteArray.append_assoc]) | apply And.intro | omega
  ·rw[if_neg hn] at ht
   have hn': ¬lab=⟨#[]⟩:=hn
   subst ht
   simp only[ag,ab] at hl
   simp at hl
   simp[bi,bg,h1,hp,hv,hn',E0,ab, -Bool.forall_bool, -Bool.exists_bool]
   repeat' first | exact hR | exact fin rfl | exact fin (by simp[dr,ByteArray.append_assoc]) | apply And.intro | omega
 ·have hnp: ¬jy ⟨cop,cname,carg,cval,clab,cfold,ckids⟩:=fun h=> h.elim e1 e2
  have e2':cop=2→ ¬cname=⟨#[]⟩:=fun h h'=> e2 ⟨h,h'⟩
  unfold bL at ht
  rw[if_neg hnp] at ht
  by_cases hn:lab=E0
  ·rw[if_pos hn] at ht
   have hn':lab=⟨#[]⟩:=hn
   subst ht
   subst hn'
   simp only[ag,ab] at hl
   simp at hl
   have hp:pJ (bj 10) ⟨cop,cname,carg,cval,clab,cfold,ckids⟩:=⟨q,hq,by omega⟩
   simp[bi,bg,h2,hp,hq,e1,ab, -Bool.forall_bool, -Bool.exists_bool]
   refine⟨fun h2=> ⟨fun h=> absurd h (e2' h2),fun _=> ?_⟩,fun _=> ?_⟩
   repeat' first | exact hR | exact fin rfl | exact fin (by simp[dr,ByteArray.append_assoc]) | apply And.intro | omega
  ·rw[if_neg hn] at ht
   have hn': ¬lab=⟨#[]⟩:=hn
   subst ht
   simp only[ag,ab] at hl
   simp at hl
   have hp:pJ (bj 10) ⟨cop,cname,carg,cval,clab,cfold,ckids⟩:=⟨q,hq,by omega⟩
   simp[bi,bg,h2,hp,hq,e1,hn',ab, -Bool.forall_bool, -Bool.exists_bool]
   refine⟨by omega,fun h2=> ⟨fun h=> absurd h (e2' h2),fun _=> ?_⟩,fun _=> ?_⟩
   repeat' first | exact hR | exact fin rfl | exact fin (by simp[dr,ByteArray.append_assoc]) | apply And.intro | omega
set_option maxHeartbeats 1000000 in
theorem QP (n:Nat) (h1:S bf=dJ) (h2:S cw=rE 10) (h3:S aV=cP) (h4:S dj=vD n) (h5:S aL=s_decA):
 Walk bi bg S (a1 Pat) (fun x=> x.op=6∧pJ (eT (bj 10) (n+1)) x) (enc (X:=B)) fun x y=> eT (bj 10) (n+1) x=some y:=by
 rintro⟨op,⟨cop,cname,carg,cval,clab,cfold,ckids⟩,lab,reg,mn,mx,kids⟩ ⟨hop1,t,ht,hl⟩
 have hL:=jf
 have hR:=ht
 have fin: ∀ {u:B},u=t→eT (bj 10) (n+1) ⟨op,⟨cop,cname,carg,cval,clab,cfold,ckids⟩,lab,reg,mn,mx,kids⟩=some u:=fun h=> by rw[h];exact hR
 simp only at hop1
 rw[eT] at ht
 unfold oM at ht
 simp only at ht
 subst hop1
 rw[if_neg (by decide),if_neg (by decide),if_neg (by decide),if_pos rfl] at ht
 unfold TH at ht
 split at ht
 ·rename_i k
  obtain⟨q,hq,ht⟩:=Option.bind_eq_some_iff.1 ht
  obtain⟨u,hu,ht⟩:=Option.map_eq_some_iff.1 ht
  subst ht
  have hi:=zc (decide (k.op=5) || decide (k.op=4)) q
  have w5:k.op=5→eX true q=eX (decide (k.op=5) || decide (k.op=4)) q:=fun h=> by simp[h]
  have w5n: ¬k.op=5→eX (decide (k.op=4)) q=eX (decide (k.op=5) || decide (k.op=4)) q:=fun h=> by simp[h]
  revert hR fin hl hi w5 w5n
  generalize eX (decide (k.op=5) || decide (k.op=4)) q=W
  intro hl hR fin hi w5 w5n
  rw[ag] at hl
  have hp:pJ (eT (bj 10) n) k:=⟨q,hq,by omega⟩
  unfold A4 at hu
  have d0:mb 0=some ⟨#[48]⟩:=rfl
  have d1:mb 1=some ⟨#[49]⟩:=rfl
  have d2:mb 2=some ⟨#[50]⟩:=rfl
  have d3:mb 3=some ⟨#[51]⟩:=rfl
  split at hu
  ·rename_i e
   obtain⟨rfl,rfl⟩:=e
   obtain rfl:=Option.some.inj hu
   clear ht hu
   simp only[ab] at hl
   simp at hl
   simp[bi,bg,h3,h4,h5,hp,hq,d0,d1,d2,d3,ab, -Bool.forall_bool, -Bool.exists_bool]
   refine⟨fun h5=> ?_,fun h5=> ?_⟩
   ·rw[w5n h5];repeat' first | exact hR | exact fin rfl | exact fin (by simp[dr,ByteArray.append_assoc]) | apply And.intro | omega
   ·rw[w5 h5];repeat' first | exact hR | exact fin rfl | exact fin (by simp[dr,ByteArray.append_assoc]) | apply And.intro | omega
  split at hu
  ·rename_i e
   obtain⟨rfl,rfl⟩:=e
   obtain rfl:=Option.some.inj hu
   clear ht hu
   simp only[ab] at hl
   simp at hl
   simp[bi,bg,h3,h4,h5,hp,hq,d0,d1,d2,d3,ab, -Bool.forall_bool, -Bool.exists_bool]
   refine⟨fun h5=> ?_,fun h5=> ?_⟩
   ·rw[w5n h5];repeat' first | exact hR | exact fin rfl | exact fin (by simp[dr,ByteArray.append_assoc]) | apply And.intro | omega
   ·rw[w5 h5];repeat' first | exact hR | exact fin rfl | exact fin (by simp[dr,ByteArray.append_assoc]) | apply And.intro | omega
  split at hu
  ·rename_i e
   obtain⟨rfl,rfl⟩:=e
   obtain rfl:=Option.some.inj hu
   clear ht hu
   simp only[ab] at hl
   simp at hl
   simp[bi,bg,h3,h4,h5,hp,hq,d0,d1,d2,d3,ab, -Bool.forall_bool, -Bool.exists_bool]
   refine⟨fun h5=> ?_,fun h5=> ?_⟩
   ·rw[w5n h5];repeat' first | exact hR | exact fin rfl | exact fin (by simp[dr,ByteArray.append_assoc]) | apply And.intro | omega
   ·rw[w5 h5];repeat' first | exact hR | exact fin rfl | exact fin (by simp[dr,ByteArray.append_assoc]) | apply And.intro | omega
  split at hu
  ·rename_i e
   obtain⟨rfl,rfl⟩:=e
   obtain rfl:=Option.some.inj hu
   clear ht hu
   simp only[ab] at hl
   simp at hl
   have q0: (⟨#[123,50,125]⟩:B)=(⟨#[123]⟩ ++ ⟨#[50]⟩) ++ ⟨#[125]⟩:=by decide
   rw[q0] at hR fin
   simp[bi,bg,h3,h4,h5,hp,hq,d0,d1,d2,d3,ab, -Bool.forall_bool, -Bool.exists_bool]
   refine⟨fun h5=> ?_,fun h5=> ?_⟩
   ·rw[w5n h5];repeat' first | exact hR | exact fin rfl | exact fin (by simp[dr,ByteArray.append_assoc]) | apply And.intro | omega
   ·rw[w5 h5];repeat' first | exact hR | exact fin rfl | exact fin (by simp[dr,ByteArray.append_assoc]) | apply And.intro | omega
  split at hu
  ·rename_i e
   obtain⟨rfl,rfl⟩:=e
   obtain rfl:=Option.some.inj hu
   clear ht hu
   simp only[ab] at hl
   simp at hl
   have q0: (⟨#[123,48,44,50,125]⟩:B)=(((⟨#[123]⟩ ++ ⟨#[48]⟩) ++ ⟨#[44]⟩) ++ ⟨#[50]⟩) ++ ⟨#[125]⟩:=by decide
   rw[q0] at hR fin
   simp[bi,bg,h3,h4,h5,hp,hq,d0,d1,d2,d3,ab, -Bool.forall_bool, -Bool.exists_bool]
   refine⟨fun h5=> ?_,fun h5=> ?_⟩
   ·rw[w5n h5];repeat' first | exact hR | exact fin rfl | exact fin (by simp[dr,ByteArray.append_assoc]) | apply And.intro | omega
   ·rw[w5 h5];repeat' first | exact hR | exact fin rfl | exact fin (by simp[dr,ByteArray.append_assoc]) | apply And.intro | omega
  split at hu
  ·rename_i e
   obtain⟨rfl,rfl⟩:=e
   obtain rfl:=Option.some.inj hu
   clear ht hu
   simp only[ab] at hl
   simp at hl
   have q0: (⟨#[123,49,44,51,125]⟩:B)=(((⟨#[123]⟩ ++ ⟨#[49]⟩) ++ ⟨#[44]⟩) ++ ⟨#[51]⟩) ++ ⟨#[125]⟩:=by decide
   rw[q0] at hR fin
   simp[bi,bg,h3,h4,h5,hp,hq,d0,d1,d2,d3,ab, -Bool.forall_bool, -Bool.exists_bool]
   refine⟨fun h5=> ?_,fun h5=> ?_⟩
   ·rw[w5n h5];repeat' first | exact hR | exact fin rfl | exact fin (by simp[dr,ByteArray.append_assoc]) | apply And.intro | omega
   ·rw[w5 h5];repeat' first | exact hR | exact fin rfl | exact fin (by simp[dr,ByteArray.append_assoc]) | apply And.intro | omega
  split at hu
  ·rename_i e
   obtain⟨rfl,rfl⟩:=e
   obtain rfl:=Option.some.inj hu
   clear ht hu
   simp only[ab] at hl
   simp at hl
   have q0: (⟨#[123,48,125]⟩:B)=(⟨#[123]⟩ ++ ⟨#[48]⟩) ++ ⟨#[125]⟩:=by decide
   rw[q0] at hR fin
   simp[bi,bg,h3,h4,h5,hp,hq,d0,d1,d2,d3,ab, -Bool.forall_bool, -Bool.exists_bool]
   refine⟨fun h5=> ?_,fun h5=> ?_⟩
   ·rw[w5n h5];repeat' first | exact hR | exact fin rfl | exact fin (by simp[dr,ByteArray.append_assoc]) | apply And.intro | omega
   ·rw[w5 h5];repeat' first | exact hR | exact fin rfl | exact fin (by simp[dr,ByteArray.append_assoc]) | apply And.intro | omega
  cases hu
 ·cases ht
set_option maxHeartbeats 1000000 in
theorem NQ (n:Nat) (h1:S bf=dJ) (h2:S cw=rE 10) (h3:S aV=cP) (h4:S dj=vD n) (h5:S aL=s_decA):
 Walk bi bg S (a1 Pat) (fun x=> (x.op=4∨x.op=5)∧pJ (eT (bj 10) (n+1)) x) (enc (X:=B)) fun x y=> eT (bj 10) (n+1) x=some y:=by
 rintro⟨op,⟨cop,cname,carg,cval,clab,cfold,ckids⟩,lab,reg,mn,mx,kids⟩ ⟨hop1,t,ht,hl⟩
 have hL:=jf
 have hR:=ht
 have fin: ∀ {u:B},u=t→eT (bj 10) (n+1) ⟨op,⟨cop,cname,carg,cval,clab,cfold,ckids⟩,lab,reg,mn,mx,kids⟩=some u:=fun h=> by rw[h];exact hR
 simp only at hop1
 rw[eT] at ht
 unfold oM at ht
 simp only at ht
 have h78:=hop1
 have n1: ¬op=1:=by omega
 have n2: ¬op=2:=by omega
 have n3: ¬op=3:=by omega
 have n6: ¬op=6:=by omega
 rw[if_neg n1,if_neg n2,if_neg n3,if_neg n6,if_pos h78] at ht
 simp[bi,bg,n1,n2,n3,n6, -Bool.forall_bool, -Bool.exists_bool]
 intro hkl
 refine aw (X:=B×B) [1,150] [] kids.length (fun k x=> dn (zR op) (lE op) (eT (bj 10) n) k (kids.drop k)=some x.2∧x.1++x.2=t) (fun x=> [(3,enc x.1)]) (fun _=> []) (E0,t) (by simp) (by simp) (by omega) (by simp) (by simp) ?_ (by simp[E0]) (by simp) ?_ ?_
 ·exact⟨ht,by simp[E0,dr]⟩
 ·rintro k ⟨acc,r⟩ hk ⟨q1,q2⟩
  simp only at q1 q2
  obtain⟨x,hx⟩:=cz hk
  obtain⟨_,hgx⟩:=List.getElem?_eq_some_iff.1 hx
  obtain⟨tk,r',c1,c2,rfl⟩:=j8 hx q1
  have hi:=zc (lE op x) tk
  rw[←q2] at hl
  simp only[ag] at hl
  have hp:pJ (eT (bj 10) n) x:=⟨tk,c1,by omega⟩
  have key: ∀ (b:Bool) (s0:B),b=lE op x→s0=acc++ (if k=0 then E0 else zR op)→tk.size≤mi∧s0.size+ (eX b tk).size≤1000000000∧
   ∃y,dn (zR op) (lE op) (eT (bj 10) n) (k+1) (List.drop (k+1) kids)=some y∧s0++eX b tk++y=t:=by
   rintro b s0 rfl rfl
   refine⟨by omega,by rw[ag];omega,r',c2,?_⟩
   rw[←q2]
   simp only[ByteArray.append_assoc]
  by_cases hk0:k=0
  ·have ks:=fun b e=> key b acc e (by rw[if_pos hk0,E0,aQ])
   have hk1: ¬0 < k:=by omega
   clear key
   simp[h3,h4,hk,hx,hgx,hp,c1,hk1,ab, -Bool.forall_bool, -Bool.exists_bool]
   exact⟨fun h5=> ⟨fun h4=> ks _ (by simp[lE,h4,h5]),fun h4=> ks _ (by simp[lE,h4,h5])⟩,fun h5=> ks _ (by simp[lE,h5])⟩
  ·have hk1:0 < k:=by omega
   rw[if_neg hk0] at hl
   rcases h78 with rfl | rfl
   ·have ks:=fun b e=> key b (acc++ ⟨#[32]⟩) e (by rw[if_neg hk0];rfl)
    have hsp: (zR 4).size=1:=rfl
    rw[hsp] at hl
    clear key
    simp[h3,h4,hk,hx,hgx,hp,c1,hk1,ab, -Bool.forall_bool, -Bool.exists_bool]
    simp only[ag,show(⟨#[32]⟩:B).size=1 from rfl,show(⟨#[32,124]⟩:B).size=2 from rfl] at ks
    exact⟨by omega,fun h5=> ks _ (by simp[lE,h5]),fun h5=> ks _ (by simp[lE,h5])⟩
   ·have ks:=fun b e=> key b ((acc++ ⟨#[32,124]⟩) ++ ⟨#[32]⟩) e (by rw[if_neg hk0,ByteArray.append_assoc];rfl)
    have hsp: (zR 5).size=3:=rfl
    rw[hsp] at hl
    clear key
    simp[h3,h4,hk,hx,hgx,hp,c1,hk1,ab, -Bool.forall_bool, -Bool.exists_bool]
    simp only[ag,show(⟨#[32]⟩:B).size=1 from rfl,show(⟨#[32,124]⟩:B).size=2 from rfl] at ks
    exact⟨by omega,by omega,fun h5=> ks _ (by simp[lE,h5]),fun h5=> ks _ (by simp[lE,h5])⟩
 ·rintro⟨acc,r⟩ ⟨q1,q2⟩
  simp only at q1 q2
  rw[List.drop_length,dn] at q1
  obtain rfl:=Option.some.inj q1
  simp
  exact fin (by rw[←q2];simp[E0,aQ])
theorem Hz (n:Nat) (h1:S bf=dJ) (h2:S cw=rE 10) (h3:S aV=cP) (h4:S dj=vD n) (h5:S aL=s_decA):
 Walk bi bg S (a1 Pat) (pJ (eT (bj 10) (n+1))) (enc (X:=B)) fun x y=> eT (bj 10) (n+1) x=some y:=by
 intro p hp
 by_cases e1:p.op=1
 ·exact QO n h1 h2 h3 h4 h5 p ⟨e1,hp⟩
 by_cases e6:p.op=6
 ·exact QP n h1 h2 h3 h4 h5 p ⟨e6,hp⟩
 by_cases e4:p.op=4∨p.op=5
 ·exact NQ n h1 h2 h3 h4 h5 p ⟨e4,hp⟩
 revert e1 e6 e4
 obtain⟨op,⟨cop,cname,carg,cval,clab,cfold,ckids⟩,lab,reg,mn,mx,kids⟩:=p
 obtain⟨t,ht,hl⟩:=hp
 intro e1 e6 e4
 simp only at e1 e6 e4
 have hL:=jf
 have hR:=ht
 have fin: ∀ {u:B},u=t→eT (bj 10) (n+1) ⟨op,⟨cop,cname,carg,cval,clab,cfold,ckids⟩,lab,reg,mn,mx,kids⟩=some u:=fun h=> by rw[h];exact hR
 rw[eT] at ht
 unfold oM at ht
 simp only at ht
 rw[if_neg e1,if_neg e6,if_neg e4] at ht
 split at ht
 ·rename_i e
  subst e
  obtain rfl:=Option.some.inj ht
  simp only[ag,ab] at hl
  simp at hl
  simp[bi,bg,ab, -Bool.forall_bool, -Bool.exists_bool]
  repeat' first | exact hR | exact fin rfl | apply And.intro | omega
 rename_i n2
 split at ht
 ·rename_i e
  subst e
  obtain rfl:=Option.some.inj ht
  simp only[ag,ab] at hl
  simp at hl
  simp[bi,bg,ab, -Bool.forall_bool, -Bool.exists_bool]
  repeat' first | exact hR | exact fin rfl | apply And.intro | omega
 cases ht
end Go.Gv
