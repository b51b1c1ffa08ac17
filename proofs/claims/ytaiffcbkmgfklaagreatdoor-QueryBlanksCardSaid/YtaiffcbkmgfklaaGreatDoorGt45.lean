/- A part of the framework and of the walks: W107 W104. -/
import Derived.Test.YtaiffcbkmgfklaaGreatDoorGt44
import Derived.Test.YtaiffcbkmgfklaaGreatDoorGt42
import Derived.Test.YtaiffcbkmgfklaaGreatDoorGt43
set_option linter.unusedSimpArgs false
set_option linter.unusedVariables false
set_option maxRecDepth 100000

namespace Go.Gv
open Cod (enc dec)
variable {S S0:Nat→Spc}
abbrev lM:Spc:=dt (a1 Int) (fun x=> -10 < x∧x < 10) (enc (X:=B)) fun x y=> xa x=some y
abbrev fZ (n:Nat):Spc:=dt (a1 Glob) (nc (bc n)) (enc (X:=B)) fun x y=> bc n x=some y
theorem yE {n:Int} {t:B} (h:xa n=some t): -10 < n∧n < 10:=by
 unfold xa at h
 split at h
 ·omega
 ·split at h
  ·omega
  ·cases h
theorem FF (n:Nat) (h1:S aV=cP) (h2:S bd=fj) (h3:S aO=ca) (h4:S aR=fZ n) (h5:S aH=lM) (h6:S bf=ci):
 Walk aB aA S (a1 Glob) (fun x=> x.op=12∧nc (bc (n+1)) x) (enc (X:=B)) fun x y=> bc (n+1) x=some y:=by
 rintro⟨op,a,b,name,arg,val,fold,mn,mx,args,kids⟩ ⟨hop,t,ht,hl⟩
 have hL:=mY
 have hR:=ht
 simp only at hop
 subst hop
 have fin: ∀ {u:B},u=t→bc (n+1) ⟨12,a,b,name,arg,val,fold,mn,mx,args,kids⟩=some u:=fun h=> by rw[h];exact hR
 rw[bc] at ht
 unfold oj at ht
 simp only at ht
 rw[if_neg (by decide),if_neg (by decide),if_neg (by decide),if_pos (by decide)] at ht
 have hs: (⟨#[32,38,32]⟩:B)=(⟨#[32]⟩ ++ ⟨#[38]⟩) ++ ⟨#[32]⟩:=by decide
 have ht:gG ⟨#[32,38,32]⟩ (qF 12) (bc n) 0 kids=some t:=ht
 rw[hs] at ht
 have hsz: ((⟨#[32]⟩:B) ++ ⟨#[38]⟩ ++ ⟨#[32]⟩).size=3:=rfl
 have hex: (⟨#[38,124]⟩:B).extract 0 1=⟨#[38]⟩:=by decide
 simp[aB,aA, -Bool.forall_bool, -Bool.exists_bool]
 intro hkl
 refine aJ (X:=B×B) [1,64] [] kids.length (fun k x=> gG (⟨#[32]⟩ ++ ⟨#[38]⟩ ++ ⟨#[32]⟩) (qF 12) (bc n) k (kids.drop k)=some x.2∧x.1++x.2=t) (fun x=> [(3,enc x.1)]) (fun _=> []) (E0,t) (by simp) (by simp) (by omega) (by simp) (by simp) ?_ (by simp[E0]) (by simp) ?_ ?_
 ·exact⟨ht,by simp[E0,dM]⟩
 ·rintro k ⟨acc,r⟩ hk ⟨q1,q2⟩
  simp only at q1 q2
  obtain⟨x,hx⟩:=cV hk
  obtain⟨_,hgx⟩:=List.getElem?_eq_some_iff.1 hx
  obtain⟨tk,r',c1,c2,rfl⟩:=rQ hx q1
  have hi:=wW (qF 12 x) tk
  rw[←q2] at hl
  simp only[ai] at hl
  have hp:nc (bc n) x:=⟨tk,c1,by omega⟩
  have key: ∀ (b:Bool) (s0:B),b=qF 12 x→s0=acc++ (if k=0 then E0 else⟨#[32]⟩ ++ ⟨#[38]⟩ ++ ⟨#[32]⟩)→tk.size≤o9∧s0.size+ (sR b tk).size≤1000000000∧
   ∃y,gG (⟨#[32]⟩ ++ ⟨#[38]⟩ ++ ⟨#[32]⟩) (qF 12) (bc n) (k+1) (List.drop (k+1) kids)=some y∧s0++sR b tk++y=t:=by
   rintro b s0 rfl rfl
   refine⟨by omega,by rw[ai];omega,r',c2,?_⟩
   rw[←q2]
   simp only[ByteArray.append_assoc]
  by_cases hk0:k=0
  ·have ks:=fun b e=> key b acc e (by rw[if_pos hk0,E0,cD])
   have hk1: ¬0 < k:=by omega
   clear key
   simp[h3,h4,hk,hx,hgx,hp,c1,hk1,af, -Bool.forall_bool, -Bool.exists_bool]
   exact⟨fun h5=> ks _ (by simp[qF,h5]),fun h5=> ks _ (by simp[qF,h5])⟩
  ·have hk1:0 < k:=by omega
   rw[if_neg hk0] at hl
   have ks:=fun b e=> key b (acc++ (⟨#[32]⟩ ++ ⟨#[38]⟩ ++ ⟨#[32]⟩)) e (by rw[if_neg hk0])
   clear key
   simp only[ai,show(⟨#[32]⟩:B).size=1 from rfl,show(⟨#[38]⟩:B).size=1 from rfl] at ks hl
   simp[h3,h4,hk,hx,hgx,hp,c1,hk1,hex,af, -Bool.forall_bool, -Bool.exists_bool]
   refine⟨by simp only[InR];omega,by simp only[InR];omega,by omega,fun h5=> ?_,fun h5=> ?_⟩
   ·have:=ks (decide (x.op=12)) (by simp[qF,h5])
    exact⟨this.1,by omega,this.2.2⟩
   ·have:=ks true (by simp[qF,h5])
    exact⟨this.1,by omega,this.2.2⟩
 ·rintro⟨acc,r⟩ ⟨q1,q2⟩
  simp only at q1 q2
  rw[List.drop_length,gG] at q1
  obtain rfl:=Option.some.inj q1
  simp
  exact fin (by rw[←q2];simp[E0,cD])
theorem FE (n:Nat) (h1:S aV=cP) (h2:S bd=fj) (h3:S aO=ca) (h4:S aR=fZ n) (h5:S aH=lM) (h6:S bf=ci):
 Walk aB aA S (a1 Glob) (fun x=> x.op=13∧nc (bc (n+1)) x) (enc (X:=B)) fun x y=> bc (n+1) x=some y:=by
 rintro⟨op,a,b,name,arg,val,fold,mn,mx,args,kids⟩ ⟨hop,t,ht,hl⟩
 have hL:=mY
 have hR:=ht
 simp only at hop
 subst hop
 have fin: ∀ {u:B},u=t→bc (n+1) ⟨13,a,b,name,arg,val,fold,mn,mx,args,kids⟩=some u:=fun h=> by rw[h];exact hR
 rw[bc] at ht
 unfold oj at ht
 simp only at ht
 rw[if_neg (by decide),if_neg (by decide),if_neg (by decide),if_pos (by decide)] at ht
 have hs: (⟨#[32,124,32]⟩:B)=(⟨#[32]⟩ ++ ⟨#[124]⟩) ++ ⟨#[32]⟩:=by decide
 have ht:gG ⟨#[32,124,32]⟩ (qF 13) (bc n) 0 kids=some t:=ht
 rw[hs] at ht
 have hsz: ((⟨#[32]⟩:B) ++ ⟨#[124]⟩ ++ ⟨#[32]⟩).size=3:=rfl
 have hex: (⟨#[38,124]⟩:B).extract 1 2=⟨#[124]⟩:=by decide
 simp[aB,aA, -Bool.forall_bool, -Bool.exists_bool]
 intro hkl
 refine aJ (X:=B×B) [1,64] [] kids.length (fun k x=> gG (⟨#[32]⟩ ++ ⟨#[124]⟩ ++ ⟨#[32]⟩) (qF 13) (bc n) k (kids.drop k)=some x.2∧x.1++x.2=t) (fun x=> [(3,enc x.1)]) (fun _=> []) (E0,t) (by simp) (by simp) (by omega) (by simp) (by simp) ?_ (by simp[E0]) (by simp) ?_ ?_
 ·exact⟨ht,by simp[E0,dM]⟩
 ·rintro k ⟨acc,r⟩ hk ⟨q1,q2⟩
  simp only at q1 q2
  obtain⟨x,hx⟩:=cV hk
  obtain⟨_,hgx⟩:=List.getElem?_eq_some_iff.1 hx
  obtain⟨tk,r',c1,c2,rfl⟩:=rQ hx q1
  have hi:=wW (qF 13 x) tk
  rw[←q2] at hl
  simp only[ai] at hl
  have hp:nc (bc n) x:=⟨tk,c1,by omega⟩
  have key: ∀ (b:Bool) (s0:B),b=qF 13 x→s0=acc++ (if k=0 then E0 else⟨#[32]⟩ ++ ⟨#[124]⟩ ++ ⟨#[32]⟩)→tk.size≤o9∧s0.size+ (sR b tk).size≤1000000000∧
   ∃y,gG (⟨#[32]⟩ ++ ⟨#[124]⟩ ++ ⟨#[32]⟩) (qF 13) (bc n) (k+1) (List.drop (k+1) kids)=some y∧s0++sR b tk++y=t:=by
   rintro b s0 rfl rfl
   refine⟨by omega,by rw[ai];omega,r',c2,?_⟩
   rw[←q2]
   simp only[ByteArray.append_assoc]
  by_cases hk0:k=0
  ·have ks:=fun b e=> key b acc e (by rw[if_pos hk0,E0,cD])
   have hk1: ¬0 < k:=by omega
   clear key
   simp[h3,h4,hk,hx,hgx,hp,c1,hk1,af, -Bool.forall_bool, -Bool.exists_bool]
   exact⟨fun h5=> ks _ (by simp[qF,h5]),fun h5=> ks _ (by simp[qF,h5])⟩
  ·have hk1:0 < k:=by omega
   rw[if_neg hk0] at hl
   have ks:=fun b e=> key b (acc++ (⟨#[32]⟩ ++ ⟨#[124]⟩ ++ ⟨#[32]⟩)) e (by rw[if_neg hk0])
   clear key
   simp only[ai,show(⟨#[32]⟩:B).size=1 from rfl,show(⟨#[124]⟩:B).size=1 from rfl] at ks hl
   simp[h3,h4,hk,hx,hgx,hp,c1,hk1,hex,af, -Bool.forall_bool, -Bool.exists_bool]
   refine⟨by simp only[InR];omega,by simp only[InR];omega,by omega,fun h5=> ?_,fun h5=> ?_⟩
   ·have:=ks false (by simp[qF,h5])
    exact⟨this.1,by omega,this.2.2⟩
   ·have:=ks true (by simp[qF,h5])
    exact⟨this.1,by omega,this.2.2⟩
 ·rintro⟨acc,r⟩ ⟨q1,q2⟩
  simp only at q1 q2
  rw[List.drop_length,gG] at q1
  obtain rfl:=Option.some.inj q1
  simp
  exact fin (by rw[←q2];simp[E0,cD])
theorem LH (n:Nat) (h1:S aV=cP) (h2:S bd=fj) (h3:S aO=ca) (h4:S aR=fZ n) (h5:S aH=lM) (h6:S bf=ci):
 Walk aB aA S (a1 Glob) (fun x=> (x.op=2∨x.op=3∨x.op=11)∧nc (bc (n+1)) x) (enc (X:=B)) fun x y=> bc (n+1) x=some y:=by
 rintro⟨op,a,b,name,arg,val,fold,mn,mx,args,kids⟩ ⟨hop,t,ht,hl⟩
 have hL:=mY
 have hR:=ht
 have fin: ∀ {u:B},u=t→bc (n+1) ⟨op,a,b,name,arg,val,fold,mn,mx,args,kids⟩=some u:=fun h=> by rw[h];exact hR
 simp only at hop
 rw[bc] at ht
 unfold oj at ht
 simp only at ht
 rcases hop with rfl | rfl | rfl
 ·rw[if_pos rfl] at ht
  obtain⟨q,hq,ht⟩:=Option.map_eq_some_iff.1 ht
  subst ht
  simp only[ai,af] at hl
  simp at hl
  have hp:nc gP (val,fold):=⟨q,hq,by omega⟩
  simp[aB,aA,h1,hp,hq,af, -Bool.forall_bool, -Bool.exists_bool]
  repeat' first | exact hR | exact fin rfl | exact fin (by simp[dM,ByteArray.append_assoc]) | apply And.intro | omega
 ·rw[if_neg (by decide),if_pos rfl] at ht
  obtain rfl:=Option.some.inj ht
  simp only[ai,af] at hl
  simp at hl
  simp[aB,aA,af, -Bool.forall_bool, -Bool.exists_bool]
  repeat' first | exact hR | exact fin rfl | exact fin (by simp[dM,ByteArray.append_assoc]) | apply And.intro | omega
 ·rw[if_neg (by decide),if_neg (by decide),if_pos rfl] at ht
  unfold WJ at ht
  split at ht
  ·rename_i k
   obtain⟨q,hq,ht⟩:=Option.map_eq_some_iff.1 ht
   subst ht
   have hi:=wW (decide (k.op=12) || decide (k.op=13)) q
   rw[ai,af] at hl
   simp at hl
   have hp:nc (bc n) k:=⟨q,hq,by omega⟩
   simp[aB,aA,h3,h4,hp,hq,af, -Bool.forall_bool, -Bool.exists_bool]
   refine⟨fun h7=> ?_,fun h7=> ?_⟩
   ·have e: (decide (k.op=12) || decide (k.op=13))=decide (k.op=13):=by simp[h7]
    rw[e] at hl hR hi
    exact⟨by omega,by omega,hR⟩
   ·have e: (decide (k.op=12) || decide (k.op=13))=true:=by simp[h7]
    rw[e] at hl hR hi
    exact⟨by omega,by omega,hR⟩
  ·cases ht
theorem i9 {l:List B} {k:Nat} {x:B} (hx:l[k]?=some x) {r:B} (h:ja (l.drop k)=some r): ∃t r',lE x=some t∧ja (l.drop (k+1))=some r'∧r=(⟨#[44]⟩ ++t) ++r':=by
 rw[show l.drop k=x::l.drop (k+1) from dC hx,ja] at h
 obtain⟨t,h1,h⟩:=Option.bind_eq_some_iff.1 h
 obtain⟨r',h2,h⟩:=Option.map_eq_some_iff.1 h
 exact⟨t,r',h1,h2,h.symm⟩
end Go.Gv

namespace Go.Gv
open Cod (enc dec)
variable {S S0:Nat→Spc}
def Ts (n:Nat) (x:Cond×Int):Prop:=hJ x.1≤n∧0≤x.2∧x.2+hJ x.1≤61∧pW x.1≤60
abbrev H7 (n:Nat):Spc:=dt (a2 Cond Int) (Ts n) (IR (Y:=Int) (Z:=Int)) fun x y=> y=((pW x.1:Int),(hJ x.1:Int))
theorem Jn (n:Nat) (h1:S fK=H7 n):Walk sa rr S (a2 Cond Int) (Ts (n+1)) (IR (Y:=Int) (Z:=Int)) fun x y=> y=((pW x.1:Int),(hJ x.1:Int)):=by
 rintro⟨x,deep⟩ ⟨hn,h0,h2,h3⟩
 simp only at hn h0 h2 h3
 have hd1:=vk x
 have hn1:=Nz x
 have hdeep: ¬60 < deep:=by omega
 simp[sa,rr,hdeep]
 intro hkl
 refine aJ (X:=Int×Int) [1,15] [] x.kids.length (fun k z=> z.1=1+ (jk (x.kids.take k):Int)∧z.2=(jn (x.kids.take k):Int)) (fun z=> [(6,enc z.1),(7,enc z.2)]) (fun _=> []) (1,0) (by simp) (by simp) (by omega) (by simp) (by simp) (by simp[jk,jn]) (by simp) (by simp) ?_ ?_
 ·rintro k ⟨m,d⟩ hk ⟨e1,e2⟩
  simp only at e1 e2
  obtain⟨y,hy⟩:=cV hk
  obtain⟨_,hgy⟩:=List.getElem?_eq_some_iff.1 hy
  have hm:=Pc hy
  have hd:=Aw (cn hy)
  have hp:Ts n (y,deep+1):=⟨by show hJ y≤n;omega,by show 0≤deep+1;omega,by show deep+1+hJ y≤61;omega,by show pW y≤60;omega⟩
  simp[h1,hk,hy,hgy,hp]
  exact⟨by simp only[InR];omega,by simp only[InR];omega,fun _=> by omega,fun _=> by omega⟩
 ·rintro⟨m,d⟩ ⟨e1,e2⟩
  simp only at e1 e2
  rw[List.take_length] at e1 e2
  simp
  exact⟨by simp only[InR];omega,by omega,by omega⟩
abbrev s_countA:Spc:=dt (a2 Cond Int) (fun x=> ∃n,Ts n x) (IR (Y:=Int) (Z:=Int)) fun x y=> y=((pW x.1:Int),(hJ x.1:Int))
def qad (n:Nat) (x:Glob×Int):Prop:=ka x.1≤n∧0≤x.2∧x.2+ka x.1≤61∧wT x.1≤60
abbrev tI (n:Nat):Spc:=dt (a2 Glob Int) (qad n) (IR (Y:=Int) (Z:=Int)) fun x y=> y=((wT x.1:Int),(ka x.1:Int))
theorem A6 (n:Nat) (h1:S cZ=tI n):Walk l7 lO S (a2 Glob Int) (qad (n+1)) (IR (Y:=Int) (Z:=Int)) fun x y=> y=((wT x.1:Int),(ka x.1:Int)):=by
 rintro⟨x,deep⟩ ⟨hn,h0,h2,h3⟩
 simp only at hn h0 h2 h3
 have hd1:=IM x
 have hn1:=UG x
 have hdeep: ¬60 < deep:=by omega
 simp[l7,lO,hdeep]
 intro hkl
 refine aJ (X:=Int×Int) [1,15] [] x.kids.length (fun k z=> z.1=1+ (ku (x.kids.take k):Int)∧z.2=(kw (x.kids.take k):Int)) (fun z=> [(6,enc z.1),(7,enc z.2)]) (fun _=> []) (1,0) (by simp) (by simp) (by omega) (by simp) (by simp) (by simp[ku,kw]) (by simp) (by simp) ?_ ?_
 ·rintro k ⟨m,d⟩ hk ⟨e1,e2⟩
  simp only at e1 e2
  obtain⟨y,hy⟩:=cV hk
  obtain⟨_,hgy⟩:=List.getElem?_eq_some_iff.1 hy
  have hm:=Pb hy
  have hd:=Ah (cn hy)
  have hp:qad n (y,deep+1):=⟨by show ka y≤n;omega,by show 0≤deep+1;omega,by show deep+1+ka y≤61;omega,by show wT y≤60;omega⟩
  simp[h1,hk,hy,hgy,hp]
  exact⟨by simp only[InR];omega,by simp only[InR];omega,fun _=> by omega,fun _=> by omega⟩
 ·rintro⟨m,d⟩ ⟨e1,e2⟩
  simp only at e1 e2
  rw[List.take_length] at e1 e2
  simp
  exact⟨by simp only[InR];omega,by omega,by omega⟩
abbrev s_globNodesA:Spc:=dt (a2 Glob Int) (fun x=> ∃n,qad n x) (IR (Y:=Int) (Z:=Int)) fun x y=> y=((wT x.1:Int),(ka x.1:Int))
abbrev H9:Spc:=dt (a1 Cond) (fun x=> hJ x≤60∧pW x≤60) (IR (Y:=Int) (Z:=Int)) fun x y=> y=((pW x:Int),(hJ x:Int))
theorem Jq (h1:S fK=s_countA):Walk se rv S (a1 Cond) (fun x=> hJ x≤60∧pW x≤60) (IR (Y:=Int) (Z:=Int)) fun x y=> y=((pW x:Int),(hJ x:Int)):=by
 rintro x ⟨h2,h3⟩
 have hp: ∃n,Ts n (x,0):=⟨hJ x,Nat.le_refl _,Int.le_refl _,by show(0:Int) +hJ x≤61;omega,h3⟩
 simp[se,rv,h1,hp]
abbrev wH:Spc:=dt (a1 Cond) (fun x=> ∃lb m,GC lb m x) (enc (X:=Bool)) fun x y=> y=true
theorem Jp:Walk dD dw S (a1 Cond) (fun x=> ∃lb m,GC lb m x) (enc (X:=Bool)) fun x y=> y=true:=by
 rintro x ⟨lb,m,h⟩
 cases h with
 | any=> simp[dD,dw,E0, -Bool.forall_bool, -Bool.exists_bool]
 | top v f h=> simp[dD,dw,E0, -Bool.forall_bool, -Bool.exists_bool]
 | inner c h=>
   cases h with
   | atom n c h=>
     cases h with
     | val n v f h1 h2=> simp[dD,dw,E0, -Bool.forall_bool, -Bool.exists_bool]
     | feat v h=> simp[dD,dw,E0, -Bool.forall_bool, -Bool.exists_bool]
     | same n l a h1 h2 h3=> simp[dD,dw,E0, -Bool.forall_bool, -Bool.exists_bool]
     | reg n h=> simp[dD,dw,E0, -Bool.forall_bool, -Bool.exists_bool]
     | regk n v h1 h2=> simp[dD,dw,E0,t_n, -Bool.forall_bool, -Bool.exists_bool]
   | not n k h=> simp[dD,dw,E0, -Bool.forall_bool, -Bool.exists_bool]
   | two n op a b ho h1 h2=> rcases ho with rfl | rfl <;> simp[dD,dw,E0, -Bool.forall_bool, -Bool.exists_bool]
def XO (n:Nat) (x:Cond):Prop:=hJ x≤n∧ ∃lb m,m≤2∧GC lb m x
abbrev L5 (n:Nat):Spc:=dt (a1 Cond) (XO n) (enc (X:=Bool)) fun x y=> y=false
abbrev s_malfA:Spc:=dt (a1 Cond) (fun x=> ∃lb m,m≤2∧GC lb m x) (enc (X:=Bool)) fun x y=> y=false
theorem A4 (n:Nat) (h1:S mH=H9) (h2:S mG=wH) (h3:S cW=L5 n):Walk l6 lN S (a1 Cond) (XO (n+1)) (enc (X:=Bool)) fun x y=> y=false:=by
 rintro x ⟨hn,lb,m,hm,h⟩
 have hnum:=Xb h
 have hpw:2^ (m+1)≤2^3:=Nat.pow_le_pow_right (by omega) (by omega)
 have p1:hJ x≤60∧pW x≤60:=by omega
 have p2: ∃lb m,GC lb m x:=⟨lb,m,h⟩
 have p3: ¬ (60:Int) < pW x:=by omega
 have p4: ¬ (20:Int) < hJ x:=by omega
 have p5: ∀k∈x.kids,XO n k:=fun k hk=> by
  obtain⟨m',h1,h2⟩:=Xc h hk
  have:=La hk
  exact⟨by omega,lb,m',by omega,h2⟩
 simp[l6,lN,h1,h2,p1,p2,p3,p4, -Bool.forall_bool, -Bool.exists_bool]
 intro hkl
 refine aJ (X:=Unit) [24] [] x.kids.length (fun k _=> True) (fun _=> []) (fun _=> []) () (by simp) (by simp) (by omega) (by simp) (by simp) (by simp) (by simp) (by simp) ?_ ?_
 ·rintro k -hk -
  obtain⟨y,hy⟩:=cV hk
  obtain⟨_,hgy⟩:=List.getElem?_eq_some_iff.1 hy
  have hp:=p5 y (cn hy)
  simp[h3,hk,hy,hgy,hp, -Bool.forall_bool, -Bool.exists_bool]
 ·rintro - -
  simp
def qac (n:Nat) (x:Glob×Bool):Prop:=ka x.1≤n∧((x.2=true∧x.1=fh)∨ ∃lb m,GG lb m x.1)
abbrev tH (n:Nat):Spc:=dt (a2 Glob Bool) (qac n) (enc (X:=Bool)) fun x y=> y=true
set_option maxHeartbeats 2000000 in
theorem A5 (n:Nat) (h1:S cY=tH n):Walk ba a8 S (a2 Glob Bool) (qac (n+1)) (enc (X:=Bool)) fun x y=> y=true:=by
 rintro⟨g,b⟩ ⟨hn,hg⟩
 simp only at hn hg
 have p5: ∀k∈g.kids,qac n (k,false):=fun k hk=> by
  have:=Kz hk
  rcases hg with⟨_,rfl⟩ | ⟨lb,m,h⟩
  ·cases hk
  ·obtain⟨m',_,h2⟩:=W0 h hk
   exact⟨by show ka k≤n;omega, .inr ⟨lb,m',h2⟩⟩
 rcases hg with⟨rfl,rfl⟩ | ⟨lb,m,h⟩
 ·simp[ba,a8,E0,fh, -Bool.forall_bool, -Bool.exists_bool]
  refine aJ (X:=Unit) [136] [] 0 (fun k _=> True) (fun _=> []) (fun _=> []) () (by simp) (by simp) (by simp) (by simp) (by simp) (by simp) (by simp) (by simp) (fun k x hk=> absurd hk (by omega)) (fun _ _=> ?_)
  simp
 ·cases h with
  | bound n a h=>
    simp[ba,a8,E0,fh, -Bool.forall_bool, -Bool.exists_bool]
    refine aJ (X:=Unit) [136] [] 0 (fun k _=> True) (fun _=> []) (fun _=> []) () (by simp) (by simp) (by simp) (by simp) (by simp) (by simp) (by simp) (by simp) (fun k x hk=> absurd hk (by omega)) (fun _ _=> ?_)
    simp
  | val n a v f h1 h2=>
    simp[ba,a8,E0,fh, -Bool.forall_bool, -Bool.exists_bool]
    refine aJ (X:=Unit) [136] [] 0 (fun k _=> True) (fun _=> []) (fun _=> []) () (by simp) (by simp) (by simp) (by simp) (by simp) (by simp) (by simp) (by simp) (fun k x hk=> absurd hk (by omega)) (fun _ _=> ?_)
    simp
  | same n a b g h1 h2 h3=>
    simp[ba,a8,E0,fh, -Bool.forall_bool, -Bool.exists_bool]
    refine aJ (X:=Unit) [136] [] 0 (fun k _=> True) (fun _=> []) (fun _=> []) () (by simp) (by simp) (by simp) (by simp) (by simp) (by simp) (by simp) (by simp) (fun k x hk=> absurd hk (by omega)) (fun _ _=> ?_)
    simp
  | dist n a b mn mx h1 h2 h3 h4 h5 h6=>
    simp[ba,a8,E0,fh, -Bool.forall_bool, -Bool.exists_bool]
    refine aJ (X:=Unit) [136] [] 0 (fun k _=> True) (fun _=> []) (fun _=> []) () (by simp) (by simp) (by simp) (by simp) (by simp) (by simp) (by simp) (by simp) (fun k x hk=> absurd hk (by omega)) (fun _ _=> ?_)
    simp
  | reg n a b t h1 h2 h3=>
    simp[ba,a8,E0,fh, -Bool.forall_bool, -Bool.exists_bool]
    refine aJ (X:=Unit) [136] [] 0 (fun k _=> True) (fun _=> []) (fun _=> []) () (by simp) (by simp) (by simp) (by simp) (by simp) (by simp) (by simp) (by simp) (fun k x hk=> absurd hk (by omega)) (fun _ _=> ?_)
    simp
  | path n a b l h1 h2 h3 h4=>
    simp[ba,a8,E0,fh, -Bool.forall_bool, -Bool.exists_bool]
    refine aJ (X:=Unit) [136] [] 0 (fun k _=> True) (fun _=> []) (fun _=> []) () (by simp) (by simp) (by simp) (by simp) (by simp) (by simp) (by simp) (by simp) (fun k x hk=> absurd hk (by omega)) (fun _ _=> ?_)
    simp
  | node n a b t h1 h2 h3=>
    simp[ba,a8,E0,fh, -Bool.forall_bool, -Bool.exists_bool]
    refine aJ (X:=Unit) [136] [] 0 (fun k _=> True) (fun _=> []) (fun _=> []) () (by simp) (by simp) (by simp) (by simp) (by simp) (by simp) (by simp) (by simp) (fun k x hk=> absurd hk (by omega)) (fun _ _=> ?_)
    simp
  | depth n a mn mx h1 h3 h4 h5 h6=>
    simp[ba,a8,E0,fh, -Bool.forall_bool, -Bool.exists_bool]
    refine aJ (X:=Unit) [136] [] 0 (fun k _=> True) (fun _=> []) (fun _=> []) () (by simp) (by simp) (by simp) (by simp) (by simp) (by simp) (by simp) (by simp) (fun k x hk=> absurd hk (by omega)) (fun _ _=> ?_)
    simp
  | head n op a b ho h1 h2=>
    rcases ho with rfl | rfl
    ·simp[ba,a8,E0,fh, -Bool.forall_bool, -Bool.exists_bool]
     refine aJ (X:=Unit) [136] [] 0 (fun k _=> True) (fun _=> []) (fun _=> []) () (by simp) (by simp) (by simp) (by simp) (by simp) (by simp) (by simp) (by simp) (fun k x hk=> absurd hk (by omega)) (fun _ _=> ?_)
     simp
    ·simp[ba,a8,E0,fh, -Bool.forall_bool, -Bool.exists_bool]
     refine aJ (X:=Unit) [136] [] 0 (fun k _=> True) (fun _=> []) (fun _=> []) () (by simp) (by simp) (by simp) (by simp) (by simp) (by simp) (by simp) (by simp) (fun k x hk=> absurd hk (by omega)) (fun _ _=> ?_)
     simp
  | not n k h=>
    simp[ba,a8,E0,fh, -Bool.forall_bool, -Bool.exists_bool]
    refine aJ (X:=Unit) [136] [] 1 (fun k _=> True) (fun _=> []) (fun _=> []) () (by simp) (by simp) (by simp) (by simp) (by simp) (by simp) (by simp) (by simp) ?_ ?_
    ·rintro j -hj -
     obtain rfl:j=0:=by omega
     have hp:=p5 k (by simp)
     simp[h1,hp, -Bool.forall_bool, -Bool.exists_bool]
    ·rintro - -
     simp
  | two n op a b' ho hh1 hh2=>
    rcases ho with rfl | rfl
    ·simp[ba,a8,E0,fh, -Bool.forall_bool, -Bool.exists_bool]
     refine aJ (X:=Unit) [136] [] 2 (fun k _=> True) (fun _=> []) (fun _=> []) () (by simp) (by simp) (by simp) (by simp) (by simp) (by simp) (by simp) (by simp) ?_ ?_
     ·rintro j -hj -
      have hp1:=p5 a (by simp)
      have hp2:=p5 b' (by simp)
      have hj:j=0∨j=1:=by omega
      rcases hj with rfl | rfl
      ·simp[h1,hp1, -Bool.forall_bool, -Bool.exists_bool]
      ·simp[h1,hp2, -Bool.forall_bool, -Bool.exists_bool]
     ·rintro - -
      simp
    ·simp[ba,a8,E0,fh, -Bool.forall_bool, -Bool.exists_bool]
     refine aJ (X:=Unit) [136] [] 2 (fun k _=> True) (fun _=> []) (fun _=> []) () (by simp) (by simp) (by simp) (by simp) (by simp) (by simp) (by simp) (by simp) ?_ ?_
     ·rintro j -hj -
      have hp1:=p5 a (by simp)
      have hp2:=p5 b' (by simp)
      have hj:j=0∨j=1:=by omega
      rcases hj with rfl | rfl
      ·simp[h1,hp1, -Bool.forall_bool, -Bool.exists_bool]
      ·simp[h1,hp2, -Bool.forall_bool, -Bool.exists_bool]
     ·rintro - -
      simp
abbrev s_globShapeA:Spc:=dt (a2 Glob Bool) (fun x=> ∃n,qac n x) (enc (X:=Bool)) fun x y=> y=true
def qfG (g:Glob):Prop:=g=fh∨ ∃lb m,m≤2∧GG lb m g
abbrev zs:Spc:=dt (a1 Glob) qfG (enc (X:=Bool)) fun x y=> y=true
theorem Fu (h1:S cZ=s_globNodesA) (h2:S cY=s_globShapeA):Walk ow nN S (a1 Glob) qfG (enc (X:=Bool)) fun x y=> y=true:=by
 rintro g hg
 have hnum:wT g≤7∧ka g≤3:=by
  rcases hg with rfl | ⟨lb,m,hm,h⟩
  ·decide
  ·have:=WZ h
   have hpw:2^ (m+1)≤2^3:=Nat.pow_le_pow_right (by omega) (by omega)
   omega
 have p1: ∃n,qad n (g,0):=⟨ka g,Nat.le_refl _,Int.le_refl _,by show(0:Int) +ka g≤61;omega,by show wT g≤60;omega⟩
 have p2: ∃n,qac n (g,true):=⟨ka g,Nat.le_refl _,hg.elim (fun e=> .inl ⟨rfl,e⟩) fun⟨lb,m,_,h⟩=> .inr ⟨lb,m,h⟩⟩
 simp[ow,nN,h1,h2,p1,p2, -Bool.forall_bool, -Bool.exists_bool]
 exact⟨fun _=> by omega,by omega⟩
end Go.Gv
