/- A part of the framework and of the walks: W107 W104 W106 W108 W109. -/
import Derived.Test.YtaiffcbkmgfklaaGreatDoorGu27
import Derived.Test.YtaiffcbkmgfklaaGreatDoorGu26
set_option linter.unusedSimpArgs false
set_option linter.unusedVariables false
set_option maxRecDepth 100000

namespace Go.Gv
open Cod (enc dec)
variable {S S0:Nat→Spc}
abbrev nl:Spc:=dG (a1 Int) (fun x=> -10 < x∧x < 10) (enc (X:=B)) fun x y=> zU x=some y
abbrev gI (n:Nat):Spc:=dG (a1 Glob) (pA (bk n)) (enc (X:=B)) fun x y=> bk n x=some y
theorem Bv {n:Int} {t:B} (h:zU n=some t): -10 < n∧n < 10:=by
 unfold zU at h
 split at h
 ·omega
 ·split at h
  ·omega
  ·cases h
theorem IB (n:Nat) (h1:S a7=dg) (h2:S bl=fQ) (h3:S aW=cu) (h4:S aZ=gI n) (h5:S aN=nl) (h6:S ba=bY):
 Walk aL aK S (a1 Glob) (fun x=> x.op=12∧pA (bk (n+1)) x) (enc (X:=B)) fun x y=> bk (n+1) x=some y:=by
 rintro⟨op,a,b,name,arg,val,fold,mn,mx,args,kids⟩ ⟨hop,t,ht,hl⟩
 have hL:=pj
 have hR:=ht
 simp only at hop
 subst hop
 have fin: ∀ {u:B},u=t→bk (n+1) ⟨12,a,b,name,arg,val,fold,mn,mx,args,kids⟩=some u:=fun h=> by rw[h];exact hR
 rw[bk] at ht
 unfold qC at ht
 simp only at ht
 rw[if_neg (by decide),if_neg (by decide),if_neg (by decide),if_pos (by decide)] at ht
 have hs: (⟨#[32,38,32]⟩:B)=(⟨#[32]⟩ ++ ⟨#[38]⟩) ++ ⟨#[32]⟩:=by decide
 have ht:io ⟨#[32,38,32]⟩ (sV 12) (bk n) 0 kids=some t:=ht
 rw[hs] at ht
 have hsz: ((⟨#[32]⟩:B) ++ ⟨#[38]⟩ ++ ⟨#[32]⟩).size=3:=rfl
 have hex: (⟨#[38,124]⟩:B).extract 0 1=⟨#[38]⟩:=by decide
 simp[aL,aK, -Bool.forall_bool, -Bool.exists_bool]
 intro hkl
 refine aO (X:=B×B) [1,64] [] kids.length (fun k x=> io (⟨#[32]⟩ ++ ⟨#[38]⟩ ++ ⟨#[32]⟩) (sV 12) (bk n) k (kids.drop k)=some x.2∧x.1++x.2=t) (fun x=> [(3,enc x.1)]) (fun _=> []) (E0,t) (by simp) (by simp) (by omega) (by simp) (by simp) ?_ (by simp[E0]) (by simp) ?_ ?_
 ·exact⟨ht,by simp[E0,d7]⟩
 ·rintro k ⟨acc,r⟩ hk ⟨q1,q2⟩
  simp only at q1 q2
  obtain⟨x,hx⟩:=cP hk
  obtain⟨_,hgx⟩:=List.getElem?_eq_some_iff.1 hx
  obtain⟨tk,r',c1,c2,rfl⟩:=uf hx q1
  have hi:=zB (sV 12 x) tk
  rw[←q2] at hl
  simp only[av] at hl
  have hp:pA (bk n) x:=⟨tk,c1,by omega⟩
  have key: ∀ (b:Bool) (s0:B),b=sV 12 x→s0=acc++ (if k=0 then E0 else⟨#[32]⟩ ++ ⟨#[38]⟩ ++ ⟨#[32]⟩)→tk.size≤rl∧s0.size+ (vd b tk).size≤1000000000∧
   ∃y,io (⟨#[32]⟩ ++ ⟨#[38]⟩ ++ ⟨#[32]⟩) (sV 12) (bk n) (k+1) (List.drop (k+1) kids)=some y∧s0++vd b tk++y=t:=by
   rintro b s0 rfl rfl
   refine⟨by omega,by rw[av];omega,r',c2,?_⟩
   rw[←q2]
   simp only[ByteArray.append_assoc]
  by_cases hk0:k=0
  ·have ks:=fun b e=> key b acc e (by rw[if_pos hk0,E0,cQ])
   have hk1: ¬0 < k:=by omega
   clear key
   simp[h3,h4,hk,hx,hgx,hp,c1,hk1,ai, -Bool.forall_bool, -Bool.exists_bool]
   exact⟨fun h5=> ks _ (by simp[sV,h5]),fun h5=> ks _ (by simp[sV,h5])⟩
  ·have hk1:0 < k:=by omega
   rw[if_neg hk0] at hl
   have ks:=fun b e=> key b (acc++ (⟨#[32]⟩ ++ ⟨#[38]⟩ ++ ⟨#[32]⟩)) e (by rw[if_neg hk0])
   clear key
   simp only[av,show(⟨#[32]⟩:B).size=1 from rfl,show(⟨#[38]⟩:B).size=1 from rfl] at ks hl
   simp[h3,h4,hk,hx,hgx,hp,c1,hk1,hex,ai, -Bool.forall_bool, -Bool.exists_bool]
   refine⟨by simp only[InR];omega,by simp only[InR];omega,by omega,fun h5=> ?_,fun h5=> ?_⟩
   ·have:=ks (decide (x.op=12)) (by simp[sV,h5])
    exact⟨this.1,by omega,this.2.2⟩
   ·have:=ks true (by simp[sV,h5])
    exact⟨this.1,by omega,this.2.2⟩
 ·rintro⟨acc,r⟩ ⟨q1,q2⟩
  simp only at q1 q2
  rw[List.drop_length,io] at q1
  obtain rfl:=Option.some.inj q1
  simp
  exact fin (by rw[←q2];simp[E0,cQ])
theorem IA (n:Nat) (h1:S a7=dg) (h2:S bl=fQ) (h3:S aW=cu) (h4:S aZ=gI n) (h5:S aN=nl) (h6:S ba=bY):
 Walk aL aK S (a1 Glob) (fun x=> x.op=13∧pA (bk (n+1)) x) (enc (X:=B)) fun x y=> bk (n+1) x=some y:=by
 rintro⟨op,a,b,name,arg,val,fold,mn,mx,args,kids⟩ ⟨hop,t,ht,hl⟩
 have hL:=pj
 have hR:=ht
 simp only at hop
 subst hop
 have fin: ∀ {u:B},u=t→bk (n+1) ⟨13,a,b,name,arg,val,fold,mn,mx,args,kids⟩=some u:=fun h=> by rw[h];exact hR
 rw[bk] at ht
 unfold qC at ht
 simp only at ht
 rw[if_neg (by decide),if_neg (by decide),if_neg (by decide),if_pos (by decide)] at ht
 have hs: (⟨#[32,124,32]⟩:B)=(⟨#[32]⟩ ++ ⟨#[124]⟩) ++ ⟨#[32]⟩:=by decide
 have ht:io ⟨#[32,124,32]⟩ (sV 13) (bk n) 0 kids=some t:=ht
 rw[hs] at ht
 have hsz: ((⟨#[32]⟩:B) ++ ⟨#[124]⟩ ++ ⟨#[32]⟩).size=3:=rfl
 have hex: (⟨#[38,124]⟩:B).extract 1 2=⟨#[124]⟩:=by decide
 simp[aL,aK, -Bool.forall_bool, -Bool.exists_bool]
 intro hkl
 refine aO (X:=B×B) [1,64] [] kids.length (fun k x=> io (⟨#[32]⟩ ++ ⟨#[124]⟩ ++ ⟨#[32]⟩) (sV 13) (bk n) k (kids.drop k)=some x.2∧x.1++x.2=t) (fun x=> [(3,enc x.1)]) (fun _=> []) (E0,t) (by simp) (by simp) (by omega) (by simp) (by simp) ?_ (by simp[E0]) (by simp) ?_ ?_
 ·exact⟨ht,by simp[E0,d7]⟩
 ·rintro k ⟨acc,r⟩ hk ⟨q1,q2⟩
  simp only at q1 q2
  obtain⟨x,hx⟩:=cP hk
  obtain⟨_,hgx⟩:=List.getElem?_eq_some_iff.1 hx
  obtain⟨tk,r',c1,c2,rfl⟩:=uf hx q1
  have hi:=zB (sV 13 x) tk
  rw[←q2] at hl
  simp only[av] at hl
  have hp:pA (bk n) x:=⟨tk,c1,by omega⟩
  have key: ∀ (b:Bool) (s0:B),b=sV 13 x→s0=acc++ (if k=0 then E0 else⟨#[32]⟩ ++ ⟨#[124]⟩ ++ ⟨#[32]⟩)→tk.size≤rl∧s0.size+ (vd b tk).size≤1000000000∧
   ∃y,io (⟨#[32]⟩ ++ ⟨#[124]⟩ ++ ⟨#[32]⟩) (sV 13) (bk n) (k+1) (List.drop (k+1) kids)=some y∧s0++vd b tk++y=t:=by
   rintro b s0 rfl rfl
   refine⟨by omega,by rw[av];omega,r',c2,?_⟩
   rw[←q2]
   simp only[ByteArray.append_assoc]
  by_cases hk0:k=0
  ·have ks:=fun b e=> key b acc e (by rw[if_pos hk0,E0,cQ])
   have hk1: ¬0 < k:=by omega
   clear key
   simp[h3,h4,hk,hx,hgx,hp,c1,hk1,ai, -Bool.forall_bool, -Bool.exists_bool]
   exact⟨fun h5=> ks _ (by simp[sV,h5]),fun h5=> ks _ (by simp[sV,h5])⟩
  ·have hk1:0 < k:=by omega
   rw[if_neg hk0] at hl
   have ks:=fun b e=> key b (acc++ (⟨#[32]⟩ ++ ⟨#[124]⟩ ++ ⟨#[32]⟩)) e (by rw[if_neg hk0])
   clear key
   simp only[av,show(⟨#[32]⟩:B).size=1 from rfl,show(⟨#[124]⟩:B).size=1 from rfl] at ks hl
   simp[h3,h4,hk,hx,hgx,hp,c1,hk1,hex,ai, -Bool.forall_bool, -Bool.exists_bool]
   refine⟨by simp only[InR];omega,by simp only[InR];omega,by omega,fun h5=> ?_,fun h5=> ?_⟩
   ·have:=ks false (by simp[sV,h5])
    exact⟨this.1,by omega,this.2.2⟩
   ·have:=ks true (by simp[sV,h5])
    exact⟨this.1,by omega,this.2.2⟩
 ·rintro⟨acc,r⟩ ⟨q1,q2⟩
  simp only at q1 q2
  rw[List.drop_length,io] at q1
  obtain rfl:=Option.some.inj q1
  simp
  exact fin (by rw[←q2];simp[E0,cQ])
theorem OJ (n:Nat) (h1:S a7=dg) (h2:S bl=fQ) (h3:S aW=cu) (h4:S aZ=gI n) (h5:S aN=nl) (h6:S ba=bY):
 Walk aL aK S (a1 Glob) (fun x=> (x.op=2∨x.op=3∨x.op=11)∧pA (bk (n+1)) x) (enc (X:=B)) fun x y=> bk (n+1) x=some y:=by
 rintro⟨op,a,b,name,arg,val,fold,mn,mx,args,kids⟩ ⟨hop,t,ht,hl⟩
 have hL:=pj
 have hR:=ht
 have fin: ∀ {u:B},u=t→bk (n+1) ⟨op,a,b,name,arg,val,fold,mn,mx,args,kids⟩=some u:=fun h=> by rw[h];exact hR
 simp only at hop
 rw[bk] at ht
 unfold qC at ht
 simp only at ht
 rcases hop with rfl | rfl | rfl
 ·rw[if_pos rfl] at ht
  obtain⟨q,hq,ht⟩:=Option.map_eq_some_iff.1 ht
  subst ht
  simp only[av,ai] at hl
  simp at hl
  have hp:pA iy (val,fold):=⟨q,hq,by omega⟩
  simp[aL,aK,h1,hp,hq,ai, -Bool.forall_bool, -Bool.exists_bool]
  repeat' first | exact hR | exact fin rfl | exact fin (by simp[d7,ByteArray.append_assoc]) | apply And.intro | omega
 ·rw[if_neg (by decide),if_pos rfl] at ht
  obtain rfl:=Option.some.inj ht
  simp only[av,ai] at hl
  simp at hl
  simp[aL,aK,ai, -Bool.forall_bool, -Bool.exists_bool]
  repeat' first | exact hR | exact fin rfl | exact fin (by simp[d7,ByteArray.append_assoc]) | apply And.intro | omega
 ·rw[if_neg (by decide),if_neg (by decide),if_pos rfl] at ht
  unfold qau at ht
  split at ht
  ·rename_i k
   obtain⟨q,hq,ht⟩:=Option.map_eq_some_iff.1 ht
   subst ht
   have hi:=zB (decide (k.op=12) || decide (k.op=13)) q
   rw[av,ai] at hl
   simp at hl
   have hp:pA (bk n) k:=⟨q,hq,by omega⟩
   simp[aL,aK,h3,h4,hp,hq,ai, -Bool.forall_bool, -Bool.exists_bool]
   refine⟨fun h7=> ?_,fun h7=> ?_⟩
   ·have e: (decide (k.op=12) || decide (k.op=13))=decide (k.op=13):=by simp[h7]
    rw[e] at hl hR hi
    exact⟨by omega,by omega,hR⟩
   ·have e: (decide (k.op=12) || decide (k.op=13))=true:=by simp[h7]
    rw[e] at hl hR hi
    exact⟨by omega,by omega,hR⟩
  ·cases ht
theorem jH {l:List B} {k:Nat} {x:B} (hx:l[k]?=some x) {r:B} (h:jI (l.drop k)=some r): ∃t r',na x=some t∧jI (l.drop (k+1))=some r'∧r=(⟨#[44]⟩ ++t) ++r':=by
 rw[show l.drop k=x::l.drop (k+1) from dv hx,jI] at h
 obtain⟨t,h1,h⟩:=Option.bind_eq_some_iff.1 h
 obtain⟨r',h2,h⟩:=Option.map_eq_some_iff.1 h
 exact⟨t,r',h1,h2,h.symm⟩
end Go.Gv

namespace Go.Gv
open Cod (enc dec)
variable {S S0:Nat→Spc}
def Xf (n:Nat) (x:Cond×Int):Prop:=iN x.1≤n∧0≤x.2∧x.2+iN x.1≤61∧sk x.1≤60
abbrev K2 (n:Nat):Spc:=dG (a2 Cond Int) (Xf n) (LS (Y:=Int) (Z:=Int)) fun x y=> y=((sk x.1:Int),(iN x.1:Int))
theorem Mq (n:Nat) (h1:S gn=K2 n):Walk ux tR S (a2 Cond Int) (Xf (n+1)) (LS (Y:=Int) (Z:=Int)) fun x y=> y=((sk x.1:Int),(iN x.1:Int)):=by
 rintro⟨x,deep⟩ ⟨hn,h0,h2,h3⟩
 simp only at hn h0 h2 h3
 have hd1:=xr x
 have hn1:=QO x
 have hdeep: ¬60 < deep:=by omega
 simp[ux,tR,hdeep]
 intro hkl
 refine aO (X:=Int×Int) [1,15] [] x.kids.length (fun k z=> z.1=1+ (jU (x.kids.take k):Int)∧z.2=(jZ (x.kids.take k):Int)) (fun z=> [(6,enc z.1),(7,enc z.2)]) (fun _=> []) (1,0) (by simp) (by simp) (by omega) (by simp) (by simp) (by simp[jU,jZ]) (by simp) (by simp) ?_ ?_
 ·rintro k ⟨m,d⟩ hk ⟨e1,e2⟩
  simp only at e1 e2
  obtain⟨y,hy⟩:=cP hk
  obtain⟨_,hgy⟩:=List.getElem?_eq_some_iff.1 hy
  have hm:=Su hy
  have hd:=Dx (cn hy)
  have hp:Xf n (y,deep+1):=⟨by show iN y≤n;omega,by show 0≤deep+1;omega,by show deep+1+iN y≤61;omega,by show sk y≤60;omega⟩
  simp[h1,hk,hy,hgy,hp]
  exact⟨by simp only[InR];omega,by simp only[InR];omega,fun _=> by omega,fun _=> by omega⟩
 ·rintro⟨m,d⟩ ⟨e1,e2⟩
  simp only at e1 e2
  rw[List.take_length] at e1 e2
  simp
  exact⟨by simp only[InR];omega,by omega,by omega⟩
abbrev s_countA:Spc:=dG (a2 Cond Int) (fun x=> ∃n,Xf n x) (LS (Y:=Int) (Z:=Int)) fun x y=> y=((sk x.1:Int),(iN x.1:Int))
def qdQ (n:Nat) (x:Glob×Int):Prop:=lr x.1≤n∧0≤x.2∧x.2+lr x.1≤61∧zy x.1≤60
abbrev vN (n:Nat):Spc:=dG (a2 Glob Int) (qdQ n) (LS (Y:=Int) (Z:=Int)) fun x y=> y=((zy x.1:Int),(lr x.1:Int))
theorem D9 (n:Nat) (h1:S dt=vN n):Walk nL nq S (a2 Glob Int) (qdQ (n+1)) (LS (Y:=Int) (Z:=Int)) fun x y=> y=((zy x.1:Int),(lr x.1:Int)):=by
 rintro⟨x,deep⟩ ⟨hn,h0,h2,h3⟩
 simp only at hn h0 h2 h3
 have hd1:=LM x
 have hn1:=Yy x
 have hdeep: ¬60 < deep:=by omega
 simp[nL,nq,hdeep]
 intro hkl
 refine aO (X:=Int×Int) [1,15] [] x.kids.length (fun k z=> z.1=1+ (lP (x.kids.take k):Int)∧z.2=(lQ (x.kids.take k):Int)) (fun z=> [(6,enc z.1),(7,enc z.2)]) (fun _=> []) (1,0) (by simp) (by simp) (by omega) (by simp) (by simp) (by simp[lP,lQ]) (by simp) (by simp) ?_ ?_
 ·rintro k ⟨m,d⟩ hk ⟨e1,e2⟩
  simp only at e1 e2
  obtain⟨y,hy⟩:=cP hk
  obtain⟨_,hgy⟩:=List.getElem?_eq_some_iff.1 hy
  have hm:=Ss hy
  have hd:=Dg (cn hy)
  have hp:qdQ n (y,deep+1):=⟨by show lr y≤n;omega,by show 0≤deep+1;omega,by show deep+1+lr y≤61;omega,by show zy y≤60;omega⟩
  simp[h1,hk,hy,hgy,hp]
  exact⟨by simp only[InR];omega,by simp only[InR];omega,fun _=> by omega,fun _=> by omega⟩
 ·rintro⟨m,d⟩ ⟨e1,e2⟩
  simp only at e1 e2
  rw[List.take_length] at e1 e2
  simp
  exact⟨by simp only[InR];omega,by omega,by omega⟩
abbrev s_globNodesA:Spc:=dG (a2 Glob Int) (fun x=> ∃n,qdQ n x) (LS (Y:=Int) (Z:=Int)) fun x y=> y=((zy x.1:Int),(lr x.1:Int))
abbrev K4:Spc:=dG (a1 Cond) (fun x=> iN x≤60∧sk x≤60) (LS (Y:=Int) (Z:=Int)) fun x y=> y=((sk x:Int),(iN x:Int))
theorem Mt (h1:S gn=s_countA):Walk uz tT S (a1 Cond) (fun x=> iN x≤60∧sk x≤60) (LS (Y:=Int) (Z:=Int)) fun x y=> y=((sk x:Int),(iN x:Int)):=by
 rintro x ⟨h2,h3⟩
 have hp: ∃n,Xf n (x,0):=⟨iN x,Nat.le_refl _,Int.le_refl _,by show(0:Int) +iN x≤61;omega,h3⟩
 simp[uz,tT,h1,hp]
abbrev zb:Spc:=dG (a1 Cond) (fun x=> ∃lb m,GC lb m x) (enc (X:=Bool)) fun x y=> y=true
theorem Ms:Walk dQ dK S (a1 Cond) (fun x=> ∃lb m,GC lb m x) (enc (X:=Bool)) fun x y=> y=true:=by
 rintro x ⟨lb,m,h⟩
 cases h with
 | any=> simp[dQ,dK,E0, -Bool.forall_bool, -Bool.exists_bool]
 | top v f h=> simp[dQ,dK,E0, -Bool.forall_bool, -Bool.exists_bool]
 | inner c h=>
   cases h with
   | atom n c h=>
     cases h with
     | val n v f h1 h2=> simp[dQ,dK,E0, -Bool.forall_bool, -Bool.exists_bool]
     | feat v h=> simp[dQ,dK,E0, -Bool.forall_bool, -Bool.exists_bool]
     | same n l a h1 h2 h3=> simp[dQ,dK,E0, -Bool.forall_bool, -Bool.exists_bool]
     | reg n h=> simp[dQ,dK,E0, -Bool.forall_bool, -Bool.exists_bool]
     | regk n v h1 h2=> simp[dQ,dK,E0,t_n, -Bool.forall_bool, -Bool.exists_bool]
   | not n k h=> simp[dQ,dK,E0, -Bool.forall_bool, -Bool.exists_bool]
   | two n op a b ho h1 h2=> rcases ho with rfl | rfl <;> simp[dQ,dK,E0, -Bool.forall_bool, -Bool.exists_bool]
def qbp (n:Nat) (x:Cond):Prop:=iN x≤n∧ ∃lb m,m≤2∧GC lb m x
abbrev Pa (n:Nat):Spc:=dG (a1 Cond) (qbp n) (enc (X:=Bool)) fun x y=> y=false
abbrev s_malfA:Spc:=dG (a1 Cond) (fun x=> ∃lb m,m≤2∧GC lb m x) (enc (X:=Bool)) fun x y=> y=false
theorem D7 (n:Nat) (h1:S oQ=K4) (h2:S oP=zb) (h3:S dn=Pa n):Walk nK np S (a1 Cond) (qbp (n+1)) (enc (X:=Bool)) fun x y=> y=false:=by
 rintro x ⟨hn,lb,m,hm,h⟩
 have hnum:=qaM h
 have hpw:2^ (m+1)≤2^3:=Nat.pow_le_pow_right (by omega) (by omega)
 have p1:iN x≤60∧sk x≤60:=by omega
 have p2: ∃lb m,GC lb m x:=⟨lb,m,h⟩
 have p3: ¬ (60:Int) < sk x:=by omega
 have p4: ¬ (20:Int) < iN x:=by omega
 have p5: ∀k∈x.kids,qbp n k:=fun k hk=> by
  obtain⟨m',h1,h2⟩:=qaN h hk
  have:=Oe hk
  exact⟨by omega,lb,m',by omega,h2⟩
 simp[nK,np,h1,h2,p1,p2,p3,p4, -Bool.forall_bool, -Bool.exists_bool]
 intro hkl
 refine aO (X:=Unit) [24] [] x.kids.length (fun k _=> True) (fun _=> []) (fun _=> []) () (by simp) (by simp) (by omega) (by simp) (by simp) (by simp) (by simp) (by simp) ?_ ?_
 ·rintro k -hk -
  obtain⟨y,hy⟩:=cP hk
  obtain⟨_,hgy⟩:=List.getElem?_eq_some_iff.1 hy
  have hp:=p5 y (cn hy)
  simp[h3,hk,hy,hgy,hp, -Bool.forall_bool, -Bool.exists_bool]
 ·rintro - -
  simp
def qdP (n:Nat) (x:Glob×Bool):Prop:=lr x.1≤n∧((x.2=true∧x.1=fP)∨ ∃lb m,GG lb m x.1)
abbrev vM (n:Nat):Spc:=dG (a2 Glob Bool) (qdP n) (enc (X:=Bool)) fun x y=> y=true
set_option maxHeartbeats 2000000 in
theorem D8 (n:Nat) (h1:S dr=vM n):Walk bg be S (a2 Glob Bool) (qdP (n+1)) (enc (X:=Bool)) fun x y=> y=true:=by
 rintro⟨g,b⟩ ⟨hn,hg⟩
 simp only at hn hg
 have p5: ∀k∈g.kids,qdP n (k,false):=fun k hk=> by
  have:=NF hk
  rcases hg with⟨_,rfl⟩ | ⟨lb,m,h⟩
  ·cases hk
  ·obtain⟨m',_,h2⟩:=qaK h hk
   exact⟨by show lr k≤n;omega, .inr ⟨lb,m',h2⟩⟩
 rcases hg with⟨rfl,rfl⟩ | ⟨lb,m,h⟩
 ·simp[bg,be,E0,fP, -Bool.forall_bool, -Bool.exists_bool]
  refine aO (X:=Unit) [136] [] 0 (fun k _=> True) (fun _=> []) (fun _=> []) () (by simp) (by simp) (by simp) (by simp) (by simp) (by simp) (by simp) (by simp) (fun k x hk=> absurd hk (by omega)) (fun _ _=> ?_)
  simp
 ·cases h with
  | bound n a h=>
    simp[bg,be,E0,fP, -Bool.forall_bool, -Bool.exists_bool]
    refine aO (X:=Unit) [136] [] 0 (fun k _=> True) (fun _=> []) (fun _=> []) () (by simp) (by simp) (by simp) (by simp) (by simp) (by simp) (by simp) (by simp) (fun k x hk=> absurd hk (by omega)) (fun _ _=> ?_)
    simp
  | val n a v f h1 h2=>
    simp[bg,be,E0,fP, -Bool.forall_bool, -Bool.exists_bool]
    refine aO (X:=Unit) [136] [] 0 (fun k _=> True) (fun _=> []) (fun _=> []) () (by simp) (by simp) (by simp) (by simp) (by simp) (by simp) (by simp) (by simp) (fun k x hk=> absurd hk (by omega)) (fun _ _=> ?_)
    simp
  | same n a b g h1 h2 h3=>
    simp[bg,be,E0,fP, -Bool.forall_bool, -Bool.exists_bool]
    refine aO (X:=Unit) [136] [] 0 (fun k _=> True) (fun _=> []) (fun _=> []) () (by simp) (by simp) (by simp) (by simp) (by simp) (by simp) (by simp) (by simp) (fun k x hk=> absurd hk (by omega)) (fun _ _=> ?_)
    simp
  | dist n a b mn mx h1 h2 h3 h4 h5 h6=>
    simp[bg,be,E0,fP, -Bool.forall_bool, -Bool.exists_bool]
    refine aO (X:=Unit) [136] [] 0 (fun k _=> True) (fun _=> []) (fun _=> []) () (by simp) (by simp) (by simp) (by simp) (by simp) (by simp) (by simp) (by simp) (fun k x hk=> absurd hk (by omega)) (fun _ _=> ?_)
    simp
  | reg n a b t h1 h2 h3=>
    simp[bg,be,E0,fP, -Bool.forall_bool, -Bool.exists_bool]
    refine aO (X:=Unit) [136] [] 0 (fun k _=> True) (fun _=> []) (fun _=> []) () (by simp) (by simp) (by simp) (by simp) (by simp) (by simp) (by simp) (by simp) (fun k x hk=> absurd hk (by omega)) (fun _ _=> ?_)
    simp
  | path n a b l h1 h2 h3 h4=>
    simp[bg,be,E0,fP, -Bool.forall_bool, -Bool.exists_bool]
    refine aO (X:=Unit) [136] [] 0 (fun k _=> True) (fun _=> []) (fun _=> []) () (by simp) (by simp) (by simp) (by simp) (by simp) (by simp) (by simp) (by simp) (fun k x hk=> absurd hk (by omega)) (fun _ _=> ?_)
    simp
  | node n a b t h1 h2 h3=>
    simp[bg,be,E0,fP, -Bool.forall_bool, -Bool.exists_bool]
    refine aO (X:=Unit) [136] [] 0 (fun k _=> True) (fun _=> []) (fun _=> []) () (by simp) (by simp) (by simp) (by simp) (by simp) (by simp) (by simp) (by simp) (fun k x hk=> absurd hk (by omega)) (fun _ _=> ?_)
    simp
  | depth n a mn mx h1 h3 h4 h5 h6=>
    simp[bg,be,E0,fP, -Bool.forall_bool, -Bool.exists_bool]
    refine aO (X:=Unit) [136] [] 0 (fun k _=> True) (fun _=> []) (fun _=> []) () (by simp) (by simp) (by simp) (by simp) (by simp) (by simp) (by simp) (by simp) (fun k x hk=> absurd hk (by omega)) (fun _ _=> ?_)
    simp
  | head n op a b ho h1 h2=>
    rcases ho with rfl | rfl
    ·simp[bg,be,E0,fP, -Bool.forall_bool, -Bool.exists_bool]
     refine aO (X:=Unit) [136] [] 0 (fun k _=> True) (fun _=> []) (fun _=> []) () (by simp) (by simp) (by simp) (by simp) (by simp) (by simp) (by simp) (by simp) (fun k x hk=> absurd hk (by omega)) (fun _ _=> ?_)
     simp
    ·simp[bg,be,E0,fP, -Bool.forall_bool, -Bool.exists_bool]
     refine aO (X:=Unit) [136] [] 0 (fun k _=> True) (fun _=> []) (fun _=> []) () (by simp) (by simp) (by simp) (by simp) (by simp) (by simp) (by simp) (by simp) (fun k x hk=> absurd hk (by omega)) (fun _ _=> ?_)
     simp
  | not n k h=>
    simp[bg,be,E0,fP, -Bool.forall_bool, -Bool.exists_bool]
    refine aO (X:=Unit) [136] [] 1 (fun k _=> True) (fun _=> []) (fun _=> []) () (by simp) (by simp) (by simp) (by simp) (by simp) (by simp) (by simp) (by simp) ?_ ?_
    ·rintro j -hj -
     obtain rfl:j=0:=by omega
     have hp:=p5 k (by simp)
     simp[h1,hp, -Bool.forall_bool, -Bool.exists_bool]
    ·rintro - -
     simp
  | two n op a b' ho hh1 hh2=>
    rcases ho with rfl | rfl
    ·simp[bg,be,E0,fP, -Bool.forall_bool, -Bool.exists_bool]
     refine aO (X:=Unit) [136] [] 2 (fun k _=> True) (fun _=> []) (fun _=> []) () (by simp) (by simp) (by simp) (by simp) (by simp) (by simp) (by simp) (by simp) ?_ ?_
     ·rintro j -hj -
      have hp1:=p5 a (by simp)
      have hp2:=p5 b' (by simp)
      have hj:j=0∨j=1:=by omega
      rcases hj with rfl | rfl
      ·simp[h1,hp1, -Bool.forall_bool, -Bool.exists_bool]
      ·simp[h1,hp2, -Bool.forall_bool, -Bool.exists_bool]
     ·rintro - -
      simp
    ·simp[bg,be,E0,fP, -Bool.forall_bool, -Bool.exists_bool]
     refine aO (X:=Unit) [136] [] 2 (fun k _=> True) (fun _=> []) (fun _=> []) () (by simp) (by simp) (by simp) (by simp) (by simp) (by simp) (by simp) (by simp) ?_ ?_
     ·rintro j -hj -
      have hp1:=p5 a (by simp)
      have hp2:=p5 b' (by simp)
      have hj:j=0∨j=1:=by omega
      rcases hj with rfl | rfl
      ·simp[h1,hp1, -Bool.forall_bool, -Bool.exists_bool]
      ·simp[h1,hp2, -Bool.forall_bool, -Bool.exists_bool]
     ·rintro - -
      simp
abbrev s_globShapeA:Spc:=dG (a2 Glob Bool) (fun x=> ∃n,qdP n x) (enc (X:=Bool)) fun x y=> y=true
def qjF (g:Glob):Prop:=g=fP∨ ∃lb m,m≤2∧GG lb m g
abbrev Ce:Spc:=dG (a1 Glob) qjF (enc (X:=Bool)) fun x y=> y=true
theorem Iq (h1:S dt=s_globNodesA) (h2:S dr=s_globShapeA):Walk qM qf S (a1 Glob) qjF (enc (X:=Bool)) fun x y=> y=true:=by
 rintro g hg
 have hnum:zy g≤7∧lr g≤3:=by
  rcases hg with rfl | ⟨lb,m,hm,h⟩
  ·decide
  ·have:=qaJ h
   have hpw:2^ (m+1)≤2^3:=Nat.pow_le_pow_right (by omega) (by omega)
   omega
 have p1: ∃n,qdQ n (g,0):=⟨lr g,Nat.le_refl _,Int.le_refl _,by show(0:Int) +lr g≤61;omega,by show zy g≤60;omega⟩
 have p2: ∃n,qdP n (g,true):=⟨lr g,Nat.le_refl _,hg.elim (fun e=> .inl ⟨rfl,e⟩) fun⟨lb,m,_,h⟩=> .inr ⟨lb,m,h⟩⟩
 simp[qM,qf,h1,h2,p1,p2, -Bool.forall_bool, -Bool.exists_bool]
 exact⟨fun _=> by omega,by omega⟩
end Go.Gv

namespace Go.Gv
open Cod (enc dec)
variable {S S0:Nat→Spc}
abbrev s_decA:Spc:=dG (a1 Int) (fun x=> -10 < x∧x < 10) (enc (X:=B)) fun x y=> zU x=some y
abbrev vI (n:Nat):Spc:=dG (a1 Pat) (pA (lp (dm 10) n)) (enc (X:=B)) fun x y=> lp (dm 10) n x=some y
theorem Sc {val arg lab q:B} {fold:Bool} {kids:List Cond} (h:dm 10 ⟨2,E0,arg,val,lab,fold,kids⟩=some q):iy (val,fold)=some q:=by
 rw[dm,nI,if_neg (by decide: ¬ (2:Int)=1),if_pos rfl] at h
 obtain⟨t,h1,h2⟩:=Option.map_eq_some_iff.1 h
 rw[if_pos rfl] at h2
 rw[←h2]
 exact h1
theorem RD (n:Nat) (h1:S a7=dg) (h2:S b9=rH 10) (h3:S aW=cu) (h4:S cN=vI n) (h5:S aN=s_decA):
 Walk a9 a8 S (a1 Pat) (fun x=> x.op=1∧pA (lp (dm 10) (n+1)) x) (enc (X:=B)) fun x y=> lp (dm 10) (n+1) x=some y:=by
 rintro⟨op,⟨cop,cname,carg,cval,clab,cfold,ckids⟩,lab,reg,mn,mx,kids⟩ ⟨hop1,t,ht,hl⟩
 have hL:=pj
 have hR:=ht
 have fin: ∀ {u:B},u=t→lp (dm 10) (n+1) ⟨op,⟨cop,cname,carg,cval,clab,cfold,ckids⟩,lab,reg,mn,mx,kids⟩=some u:=fun h=> by rw[h];exact hR
 simp only at hop1
 rw[lp] at ht
 unfold yw at ht
 simp only at ht
 subst hop1
 rw[if_pos rfl] at ht
 unfold Um at ht
 obtain⟨q,hq,ht⟩:=Option.map_eq_some_iff.1 ht
 simp only at hq ht
 have hop:cop=1∨cop=2∧cname=E0∨ ¬cop=1∧ ¬ (cop=2∧cname=E0):=by
  by_cases e1:cop=1
  ·exact .inl e1
  ·by_cases e2:cop=2∧cname=E0
   ·exact .inr (.inl e2)
   ·exact .inr (.inr ⟨e1,e2⟩)
 rcases hop with rfl | ⟨rfl,rfl⟩ | ⟨e1,e2⟩
 ·have hq0:q=⟨#[91,93]⟩:=by
   rw[dm,nI,if_pos rfl] at hq
   exact(Option.some.inj hq).symm
  unfold eQ at ht
  rw[if_pos (show nC _ from .inl rfl)] at ht
  by_cases hn:lab=E0
  ·rw[if_pos hn] at ht
   have hn':lab=⟨#[]⟩:=hn
   subst ht
   subst hn'
   simp[a9,a8,ai, -Bool.forall_bool, -Bool.exists_bool]
   repeat' first | exact hR | exact fin rfl | exact fin (by simp[hq0,d7,ByteArray.append_assoc]) | apply And.intro | omega
  ·rw[if_neg hn] at ht
   have hn': ¬lab=⟨#[]⟩:=hn
   subst ht
   subst hq0
   simp only[av,ai] at hl
   simp at hl
   simp[a9,a8,hn',ai, -Bool.forall_bool, -Bool.exists_bool]
   repeat' first | exact hR | exact fin rfl | exact fin (by simp[d7,ByteArray.append_assoc]) | apply And.intro | omega
 ·have hv:=Sc hq
  have hp:pA iy (cval,cfold):=⟨q,hv,by unfold eQ at ht;rw[if_pos (show nC _ from .inr ⟨rfl,rfl⟩)] at ht;split at ht <;> (rw[←ht] at hl;try simp only[av] at hl) <;> omega⟩
  unfold eQ at ht
  rw[if_pos (show nC _ from .inr ⟨rfl,rfl⟩)] at ht
  by_cases hn:lab=E0
  ·rw[if_pos hn] at ht
   have hn':lab=⟨#[]⟩:=hn
   subst ht
   subst hn'
   simp[a9,a8,h1,hp,hv,E0,ai, -Bool.forall_bool, -Bool.exists_bool]
   repeat' first | exact hR | exact fin rfl | exact fin (by simp[d7,ByteArray.append_assoc]) | apply And.intro | omega
  ·rw[if_neg hn] at ht
   have hn': ¬lab=⟨#[]⟩:=hn
   subst ht
   simp only[av,ai] at hl
   simp at hl
   simp[a9,a8,h1,hp,hv,hn',E0,ai, -Bool.forall_bool, -Bool.exists_bool]
   repeat' first | exact hR | exact fin rfl | exact fin (by simp[d7,ByteArray.append_assoc]) | apply And.intro | omega
 ·have hnp: ¬nC ⟨cop,cname,carg,cval,clab,cfold,ckids⟩:=fun h=> h.elim e1 e2
  have e2':cop=2→ ¬cname=⟨#[]⟩:=fun h h'=> e2 ⟨h,h'⟩
  unfold eQ at ht
  rw[if_neg hnp] at ht
  by_cases hn:lab=E0
  ·rw[if_pos hn] at ht
   have hn':lab=⟨#[]⟩:=hn
   subst ht
   subst hn'
   simp only[av,ai] at hl
   simp at hl
   have hp:pA (dm 10) ⟨cop,cname,carg,cval,clab,cfold,ckids⟩:=⟨q,hq,by omega⟩
   simp[a9,a8,h2,hp,hq,e1,ai, -Bool.forall_bool, -Bool.exists_bool]
   refine⟨fun h2=> ⟨fun h=> absurd h (e2' h2),fun _=> ?_⟩,fun _=> ?_⟩
   repeat' first | exact hR | exact fin rfl | exact fin (by simp[d7,ByteArray.append_assoc]) | apply And.intro | omega
  ·rw[if_neg hn] at ht
   have hn': ¬lab=⟨#[]⟩:=hn
   subst ht
   simp only[av,ai] at hl
   simp at hl
   have hp:pA (dm 10) ⟨cop,cname,carg,cval,clab,cfold,ckids⟩:=⟨q,hq,by omega⟩
   simp[a9,a8,h2,hp,hq,e1,hn',ai, -Bool.forall_bool, -Bool.exists_bool]
   refine⟨by omega,fun h2=> ⟨fun h=> absurd h (e2' h2),fun _=> ?_⟩,fun _=> ?_⟩
   repeat' first | exact hR | exact fin rfl | exact fin (by simp[d7,ByteArray.append_assoc]) | apply And.intro | omega
set_option maxHeartbeats 1000000 in
theorem RE (n:Nat) (h1:S a7=dg) (h2:S b9=rH 10) (h3:S aW=cu) (h4:S cN=vI n) (h5:S aN=s_decA):
 Walk a9 a8 S (a1 Pat) (fun x=> x.op=6∧pA (lp (dm 10) (n+1)) x) (enc (X:=B)) fun x y=> lp (dm 10) (n+1) x=some y:=by
 rintro⟨op,⟨cop,cname,carg,cval,clab,cfold,ckids⟩,lab,reg,mn,mx,kids⟩ ⟨hop1,t,ht,hl⟩
 have hL:=pj
 have hR:=ht
 have fin: ∀ {u:B},u=t→lp (dm 10) (n+1) ⟨op,⟨cop,cname,carg,cval,clab,cfold,ckids⟩,lab,reg,mn,mx,kids⟩=some u:=fun h=> by rw[h];exact hR
 simp only at hop1
 rw[lp] at ht
 unfold yw at ht
 simp only at ht
 subst hop1
 rw[if_neg (by decide),if_neg (by decide),if_neg (by decide),if_pos rfl] at ht
 unfold qat at ht
 split at ht
 ·rename_i k
  obtain⟨q,hq,ht⟩:=Option.bind_eq_some_iff.1 ht
  obtain⟨u,hu,ht⟩:=Option.map_eq_some_iff.1 ht
  subst ht
  have hi:=zB (decide (k.op=5) || decide (k.op=4)) q
  have w5:k.op=5→vd true q=vd (decide (k.op=5) || decide (k.op=4)) q:=fun h=> by simp[h]
  have w5n: ¬k.op=5→vd (decide (k.op=4)) q=vd (decide (k.op=5) || decide (k.op=4)) q:=fun h=> by simp[h]
  revert hR fin hl hi w5 w5n
  generalize vd (decide (k.op=5) || decide (k.op=4)) q=W
  intro hl hR fin hi w5 w5n
  rw[av] at hl
  have hp:pA (lp (dm 10) n) k:=⟨q,hq,by omega⟩
  unfold Uu at hu
  have d0:zU 0=some ⟨#[48]⟩:=rfl
  have d1:zU 1=some ⟨#[49]⟩:=rfl
  have d2:zU 2=some ⟨#[50]⟩:=rfl
  have d3:zU 3=some ⟨#[51]⟩:=rfl
  split at hu
  ·rename_i e
   obtain⟨rfl,rfl⟩:=e
   obtain rfl:=Option.some.inj hu
   clear ht hu
   simp only[ai] at hl
   simp at hl
   simp[a9,a8,h3,h4,h5,hp,hq,d0,d1,d2,d3,ai, -Bool.forall_bool, -Bool.exists_bool]
   refine⟨fun h5=> ?_,fun h5=> ?_⟩
   ·rw[w5n h5];repeat' first | exact hR | exact fin rfl | exact fin (by simp[d7,ByteArray.append_assoc]) | apply And.intro | omega
   ·rw[w5 h5];repeat' first | exact hR | exact fin rfl | exact fin (by simp[d7,ByteArray.append_assoc]) | apply And.intro | omega
  split at hu
  ·rename_i e
   obtain⟨rfl,rfl⟩:=e
   obtain rfl:=Option.some.inj hu
   clear ht hu
   simp only[ai] at hl
   simp at hl
   simp[a9,a8,h3,h4,h5,hp,hq,d0,d1,d2,d3,ai, -Bool.forall_bool, -Bool.exists_bool]
   refine⟨fun h5=> ?_,fun h5=> ?_⟩
   ·rw[w5n h5];repeat' first | exact hR | exact fin rfl | exact fin (by simp[d7,ByteArray.append_assoc]) | apply And.intro | omega
   ·rw[w5 h5];repeat' first | exact hR | exact fin rfl | exact fin (by simp[d7,ByteArray.append_assoc]) | apply And.intro | omega
  split at hu
  ·rename_i e
   obtain⟨rfl,rfl⟩:=e
   obtain rfl:=Option.some.inj hu
   clear ht hu
   simp only[ai] at hl
   simp at hl
   simp[a9,a8,h3,h4,h5,hp,hq,d0,d1,d2,d3,ai, -Bool.forall_bool, -Bool.exists_bool]
   refine⟨fun h5=> ?_,fun h5=> ?_⟩
   ·rw[w5n h5];repeat' first | exact hR | exact fin rfl | exact fin (by simp[d7,ByteArray.append_assoc]) | apply And.intro | omega
   ·rw[w5 h5];repeat' first | exact hR | exact fin rfl | exact fin (by simp[d7,ByteArray.append_assoc]) | apply And.intro | omega
  split at hu
  ·rename_i e
   obtain⟨rfl,rfl⟩:=e
   obtain rfl:=Option.some.inj hu
   clear ht hu
   simp only[ai] at hl
   simp at hl
   have q0: (⟨#[123,50,125]⟩:B)=(⟨#[123]⟩ ++ ⟨#[50]⟩) ++ ⟨#[125]⟩:=by decide
   rw[q0] at hR fin
   simp[a9,a8,h3,h4,h5,hp,hq,d0,d1,d2,d3,ai, -Bool.forall_bool, -Bool.exists_bool]
   refine⟨fun h5=> ?_,fun h5=> ?_⟩
   ·rw[w5n h5];repeat' first | exact hR | exact fin rfl | exact fin (by simp[d7,ByteArray.append_assoc]) | apply And.intro | omega
   ·rw[w5 h5];repeat' first | exact hR | exact fin rfl | exact fin (by simp[d7,ByteArray.append_assoc]) | apply And.intro | omega
  split at hu
  ·rename_i e
   obtain⟨rfl,rfl⟩:=e
   obtain rfl:=Option.some.inj hu
   clear ht hu
   simp only[ai] at hl
   simp at hl
   have q0: (⟨#[123,48,44,50,125]⟩:B)=(((⟨#[123]⟩ ++ ⟨#[48]⟩) ++ ⟨#[44]⟩) ++ ⟨#[50]⟩) ++ ⟨#[125]⟩:=by decide
   rw[q0] at hR fin
   simp[a9,a8,h3,h4,h5,hp,hq,d0,d1,d2,d3,ai, -Bool.forall_bool, -Bool.exists_bool]
   refine⟨fun h5=> ?_,fun h5=> ?_⟩
   ·rw[w5n h5];repeat' first | exact hR | exact fin rfl | exact fin (by simp[d7,ByteArray.append_assoc]) | apply And.intro | omega
   ·rw[w5 h5];repeat' first | exact hR | exact fin rfl | exact fin (by simp[d7,ByteArray.append_assoc]) | apply And.intro | omega
  split at hu
  ·rename_i e
   obtain⟨rfl,rfl⟩:=e
   obtain rfl:=Option.some.inj hu
   clear ht hu
   simp only[ai] at hl
   simp at hl
   have q0: (⟨#[123,49,44,51,125]⟩:B)=(((⟨#[123]⟩ ++ ⟨#[49]⟩) ++ ⟨#[44]⟩) ++ ⟨#[51]⟩) ++ ⟨#[125]⟩:=by decide
   rw[q0] at hR fin
   simp[a9,a8,h3,h4,h5,hp,hq,d0,d1,d2,d3,ai, -Bool.forall_bool, -Bool.exists_bool]
   refine⟨fun h5=> ?_,fun h5=> ?_⟩
   ·rw[w5n h5];repeat' first | exact hR | exact fin rfl | exact fin (by simp[d7,ByteArray.append_assoc]) | apply And.intro | omega
   ·rw[w5 h5];repeat' first | exact hR | exact fin rfl | exact fin (by simp[d7,ByteArray.append_assoc]) | apply And.intro | omega
  split at hu
  ·rename_i e
   obtain⟨rfl,rfl⟩:=e
   obtain rfl:=Option.some.inj hu
   clear ht hu
   simp only[ai] at hl
   simp at hl
   have q0: (⟨#[123,48,125]⟩:B)=(⟨#[123]⟩ ++ ⟨#[48]⟩) ++ ⟨#[125]⟩:=by decide
   rw[q0] at hR fin
   simp[a9,a8,h3,h4,h5,hp,hq,d0,d1,d2,d3,ai, -Bool.forall_bool, -Bool.exists_bool]
   refine⟨fun h5=> ?_,fun h5=> ?_⟩
   ·rw[w5n h5];repeat' first | exact hR | exact fin rfl | exact fin (by simp[d7,ByteArray.append_assoc]) | apply And.intro | omega
   ·rw[w5 h5];repeat' first | exact hR | exact fin rfl | exact fin (by simp[d7,ByteArray.append_assoc]) | apply And.intro | omega
  cases hu
 ·cases ht
set_option maxHeartbeats 1000000 in
theorem OF (n:Nat) (h1:S a7=dg) (h2:S b9=rH 10) (h3:S aW=cu) (h4:S cN=vI n) (h5:S aN=s_decA):
 Walk a9 a8 S (a1 Pat) (fun x=> (x.op=4∨x.op=5)∧pA (lp (dm 10) (n+1)) x) (enc (X:=B)) fun x y=> lp (dm 10) (n+1) x=some y:=by
 rintro⟨op,⟨cop,cname,carg,cval,clab,cfold,ckids⟩,lab,reg,mn,mx,kids⟩ ⟨hop1,t,ht,hl⟩
 have hL:=pj
 have hR:=ht
 have fin: ∀ {u:B},u=t→lp (dm 10) (n+1) ⟨op,⟨cop,cname,carg,cval,clab,cfold,ckids⟩,lab,reg,mn,mx,kids⟩=some u:=fun h=> by rw[h];exact hR
 simp only at hop1
 rw[lp] at ht
 unfold yw at ht
 simp only at ht
 have h78:=hop1
 have n1: ¬op=1:=by omega
 have n2: ¬op=2:=by omega
 have n3: ¬op=3:=by omega
 have n6: ¬op=6:=by omega
 rw[if_neg n1,if_neg n2,if_neg n3,if_neg n6,if_pos h78] at ht
 simp[a9,a8,n1,n2,n3,n6, -Bool.forall_bool, -Bool.exists_bool]
 intro hkl
 refine aO (X:=B×B) [1,150] [] kids.length (fun k x=> io (KE op) (Cr op) (lp (dm 10) n) k (kids.drop k)=some x.2∧x.1++x.2=t) (fun x=> [(3,enc x.1)]) (fun _=> []) (E0,t) (by simp) (by simp) (by omega) (by simp) (by simp) ?_ (by simp[E0]) (by simp) ?_ ?_
 ·exact⟨ht,by simp[E0,d7]⟩
 ·rintro k ⟨acc,r⟩ hk ⟨q1,q2⟩
  simp only at q1 q2
  obtain⟨x,hx⟩:=cP hk
  obtain⟨_,hgx⟩:=List.getElem?_eq_some_iff.1 hx
  obtain⟨tk,r',c1,c2,rfl⟩:=uf hx q1
  have hi:=zB (Cr op x) tk
  rw[←q2] at hl
  simp only[av] at hl
  have hp:pA (lp (dm 10) n) x:=⟨tk,c1,by omega⟩
  have key: ∀ (b:Bool) (s0:B),b=Cr op x→s0=acc++ (if k=0 then E0 else KE op)→tk.size≤rl∧s0.size+ (vd b tk).size≤1000000000∧
   ∃y,io (KE op) (Cr op) (lp (dm 10) n) (k+1) (List.drop (k+1) kids)=some y∧s0++vd b tk++y=t:=by
   rintro b s0 rfl rfl
   refine⟨by omega,by rw[av];omega,r',c2,?_⟩
   rw[←q2]
   simp only[ByteArray.append_assoc]
  by_cases hk0:k=0
  ·have ks:=fun b e=> key b acc e (by rw[if_pos hk0,E0,cQ])
   have hk1: ¬0 < k:=by omega
   clear key
   simp[h3,h4,hk,hx,hgx,hp,c1,hk1,ai, -Bool.forall_bool, -Bool.exists_bool]
   exact⟨fun h5=> ⟨fun h4=> ks _ (by simp[Cr,h4,h5]),fun h4=> ks _ (by simp[Cr,h4,h5])⟩,fun h5=> ks _ (by simp[Cr,h5])⟩
  ·have hk1:0 < k:=by omega
   rw[if_neg hk0] at hl
   rcases h78 with rfl | rfl
   ·have ks:=fun b e=> key b (acc++ ⟨#[32]⟩) e (by rw[if_neg hk0];rfl)
    have hsp: (KE 4).size=1:=rfl
    rw[hsp] at hl
    clear key
    simp[h3,h4,hk,hx,hgx,hp,c1,hk1,ai, -Bool.forall_bool, -Bool.exists_bool]
    simp only[av,show(⟨#[32]⟩:B).size=1 from rfl,show(⟨#[32,124]⟩:B).size=2 from rfl] at ks
    exact⟨by omega,fun h5=> ks _ (by simp[Cr,h5]),fun h5=> ks _ (by simp[Cr,h5])⟩
   ·have ks:=fun b e=> key b ((acc++ ⟨#[32,124]⟩) ++ ⟨#[32]⟩) e (by rw[if_neg hk0,ByteArray.append_assoc];rfl)
    have hsp: (KE 5).size=3:=rfl
    rw[hsp] at hl
    clear key
    simp[h3,h4,hk,hx,hgx,hp,c1,hk1,ai, -Bool.forall_bool, -Bool.exists_bool]
    simp only[av,show(⟨#[32]⟩:B).size=1 from rfl,show(⟨#[32,124]⟩:B).size=2 from rfl] at ks
    exact⟨by omega,by omega,fun h5=> ks _ (by simp[Cr,h5]),fun h5=> ks _ (by simp[Cr,h5])⟩
 ·rintro⟨acc,r⟩ ⟨q1,q2⟩
  simp only at q1 q2
  rw[List.drop_length,io] at q1
  obtain rfl:=Option.some.inj q1
  simp
  exact fin (by rw[←q2];simp[E0,cQ])
theorem In (n:Nat) (h1:S a7=dg) (h2:S b9=rH 10) (h3:S aW=cu) (h4:S cN=vI n) (h5:S aN=s_decA):
 Walk a9 a8 S (a1 Pat) (pA (lp (dm 10) (n+1))) (enc (X:=B)) fun x y=> lp (dm 10) (n+1) x=some y:=by
 intro p hp
 by_cases e1:p.op=1
 ·exact RD n h1 h2 h3 h4 h5 p ⟨e1,hp⟩
 by_cases e6:p.op=6
 ·exact RE n h1 h2 h3 h4 h5 p ⟨e6,hp⟩
 by_cases e4:p.op=4∨p.op=5
 ·exact OF n h1 h2 h3 h4 h5 p ⟨e4,hp⟩
 revert e1 e6 e4
 obtain⟨op,⟨cop,cname,carg,cval,clab,cfold,ckids⟩,lab,reg,mn,mx,kids⟩:=p
 obtain⟨t,ht,hl⟩:=hp
 intro e1 e6 e4
 simp only at e1 e6 e4
 have hL:=pj
 have hR:=ht
 have fin: ∀ {u:B},u=t→lp (dm 10) (n+1) ⟨op,⟨cop,cname,carg,cval,clab,cfold,ckids⟩,lab,reg,mn,mx,kids⟩=some u:=fun h=> by rw[h];exact hR
 rw[lp] at ht
 unfold yw at ht
 simp only at ht
 rw[if_neg e1,if_neg e6,if_neg e4] at ht
 split at ht
 ·rename_i e
  subst e
  obtain rfl:=Option.some.inj ht
  simp only[av,ai] at hl
  simp at hl
  simp[a9,a8,ai, -Bool.forall_bool, -Bool.exists_bool]
  repeat' first | exact hR | exact fin rfl | apply And.intro | omega
 rename_i n2
 split at ht
 ·rename_i e
  subst e
  obtain rfl:=Option.some.inj ht
  simp only[av,ai] at hl
  simp at hl
  simp[a9,a8,ai, -Bool.forall_bool, -Bool.exists_bool]
  repeat' first | exact hR | exact fin rfl | apply And.intro | omega
 cases ht
end Go.Gv

namespace Go.Gv
open Cod (enc dec)
variable {S S0:Nat→Spc}
theorem Ud (n:Nat) (h1:S a7=dg) (h2:S bl=fQ) (h3:S aW=cu) (h4:S aZ=gI n) (h5:S aN=nl) (h6:S ba=bY):
 Walk aL aK S (a1 Glob) (fun x=> x.op=1∧pA (bk (n+1)) x) (enc (X:=B)) fun x y=> bk (n+1) x=some y:=by
 rintro⟨op,a,b,name,arg,val,fold,mn,mx,args,kids⟩ ⟨hop,t,ht,hl⟩
 have hL:=pj
 have hR:=ht
 simp only at hop
 subst hop
 have fin: ∀ {u:B},u=t→bk (n+1) ⟨1,a,b,name,arg,val,fold,mn,mx,args,kids⟩=some u:=fun h=> by rw[h];exact hR
 rw[bk,ee _ (by simp)] at ht
 unfold tn wu at ht
 simp only[show Tw 1=some ⟨#[98,111,117,110,100]⟩ from rfl,Option.bind_some] at ht
 rw[if_neg (by decide)] at ht
 obtain⟨w,hw,ht⟩:=Option.bind_eq_some_iff.1 ht
 obtain rfl:=Option.some.inj hw
 split at ht
 ·cases ht
 obtain⟨r,hr,ht⟩:=Option.map_eq_some_iff.1 ht
 have et: (((⟨#[98,111,117,110,100]⟩ ++ ⟨#[40]⟩) ++a) ++r) ++ ⟨#[41]⟩=t:=by
  rw[←ht]
  simp[E0,cQ,ByteArray.append_assoc]
 have hl2:=hl
 rw[←et] at hl2
 simp only[av,ai] at hl2
 simp at hl2
 clear ht
 simp[aL,aK,h5,h6,functionsL,ai, -Bool.forall_bool, -Bool.exists_bool]
 repeat (refine⟨by omega,?_⟩)
 intro hkl
 obtain⟨P,hP⟩: ∃P,P=((⟨#[98,111,117,110,100]⟩ ++ ⟨#[40]⟩) ++a):=⟨_,rfl⟩
 rw[←hP] at et ⊢
 clear hP hl2
 refine aO (X:=B×B) [160] [] args.length (fun k x=> jI (args.drop k)=some x.2∧(x.1++x.2) ++ ⟨#[41]⟩=t) (fun x=> [(3,enc x.1)]) (fun _=> []) (P,r) (by simp) (by simp) (by omega) (by simp) (by simp) ⟨hr,et⟩ (by simp) (by simp) ?_ ?_
 ·rintro k ⟨acc,r⟩ hk ⟨q1,q2⟩
  simp only at q1 q2
  obtain⟨x,hx⟩:=cP hk
  obtain⟨_,hgx⟩:=List.getElem?_eq_some_iff.1 hx
  obtain⟨tk,r',c1,c2,rfl⟩:=jH hx q1
  rw[←q2] at hl
  simp only[av,ai] at hl
  simp at hl
  have hp:pA na x:=⟨tk,c1,by omega⟩
  simp[h2,hk,hx,hgx,hp,c1,ai, -Bool.forall_bool, -Bool.exists_bool]
  exact⟨by omega,by omega,r',by simpa using c2,by rw[←q2];simp only[ByteArray.append_assoc]⟩
 ·rintro⟨acc,r⟩ ⟨q1,q2⟩
  simp only at q1 q2
  rw[List.drop_length,jI] at q1
  obtain rfl:=Option.some.inj q1
  rw[←q2] at hl
  simp only[av,ai] at hl
  simp at hl
  simp[ai, -Bool.forall_bool, -Bool.exists_bool]
  exact⟨by omega,fin (by rw[←q2];simp[E0,cQ])⟩
theorem Uc (n:Nat) (h1:S a7=dg) (h2:S bl=fQ) (h3:S aW=cu) (h4:S aZ=gI n) (h5:S aN=nl) (h6:S ba=bY):
 Walk aL aK S (a1 Glob) (fun x=> x.op=4∧pA (bk (n+1)) x) (enc (X:=B)) fun x y=> bk (n+1) x=some y:=by
 rintro⟨op,a,b,name,arg,val,fold,mn,mx,args,kids⟩ ⟨hop,t,ht,hl⟩
 have hL:=pj
 have hR:=ht
 simp only at hop
 subst hop
 have fin: ∀ {u:B},u=t→bk (n+1) ⟨4,a,b,name,arg,val,fold,mn,mx,args,kids⟩=some u:=fun h=> by rw[h];exact hR
 rw[bk,ee _ (by simp)] at ht
 unfold tn wu at ht
 simp only[show Tw 4=some ⟨#[100,105,115,116,97,110,99,101]⟩ from rfl,Option.bind_some] at ht
 rw[if_pos (by decide)] at ht
 obtain⟨w,hw,ht⟩:=Option.bind_eq_some_iff.1 ht
 obtain⟨d,hd,hw⟩:=Option.bind_eq_some_iff.1 hw
 obtain⟨e,he,hw⟩:=Option.map_eq_some_iff.1 hw
 have rd:=Bv hd
 have re:=Bv he
 split at ht
 ·cases ht
 obtain⟨r,hr,ht⟩:=Option.map_eq_some_iff.1 ht
 have et: (((((⟨#[100,105,115,116,97,110,99,101]⟩ ++ ⟨#[40]⟩) ++a) ++ (⟨#[44]⟩ ++b)) ++ (((⟨#[44]⟩ ++d) ++ ⟨#[44]⟩) ++e)) ++r) ++ ⟨#[41]⟩=t:=by
  rw[←ht]
  simp[←hw,E0,cQ,ByteArray.append_assoc]
 have hl2:=hl
 rw[←et] at hl2
 simp only[av,ai] at hl2
 simp at hl2
 clear ht
 simp[aL,aK,h5,h6,functionsL,hd,he,rd,re,ai, -Bool.forall_bool, -Bool.exists_bool]
 repeat (refine⟨by omega,?_⟩)
 intro hkl
 obtain⟨P,hP⟩: ∃P,P=((((⟨#[100,105,115,116,97,110,99,101]⟩ ++ ⟨#[40]⟩) ++a) ++ (⟨#[44]⟩ ++b)) ++ (((⟨#[44]⟩ ++d) ++ ⟨#[44]⟩) ++e)):=⟨_,rfl⟩
 rw[←hP] at et ⊢
 clear hP hl2
 refine aO (X:=B×B) [160] [] args.length (fun k x=> jI (args.drop k)=some x.2∧(x.1++x.2) ++ ⟨#[41]⟩=t) (fun x=> [(3,enc x.1)]) (fun _=> []) (P,r) (by simp) (by simp) (by omega) (by simp) (by simp) ⟨hr,et⟩ (by simp) (by simp) ?_ ?_
 ·rintro k ⟨acc,r⟩ hk ⟨q1,q2⟩
  simp only at q1 q2
  obtain⟨x,hx⟩:=cP hk
  obtain⟨_,hgx⟩:=List.getElem?_eq_some_iff.1 hx
  obtain⟨tk,r',c1,c2,rfl⟩:=jH hx q1
  rw[←q2] at hl
  simp only[av,ai] at hl
  simp at hl
  have hp:pA na x:=⟨tk,c1,by omega⟩
  simp[h2,hk,hx,hgx,hp,c1,ai, -Bool.forall_bool, -Bool.exists_bool]
  exact⟨by omega,by omega,r',by simpa using c2,by rw[←q2];simp only[ByteArray.append_assoc]⟩
 ·rintro⟨acc,r⟩ ⟨q1,q2⟩
  simp only at q1 q2
  rw[List.drop_length,jI] at q1
  obtain rfl:=Option.some.inj q1
  rw[←q2] at hl
  simp only[av,ai] at hl
  simp at hl
  simp[ai, -Bool.forall_bool, -Bool.exists_bool]
  exact⟨by omega,fin (by rw[←q2];simp[E0,cQ])⟩
theorem Ub (n:Nat) (h1:S a7=dg) (h2:S bl=fQ) (h3:S aW=cu) (h4:S aZ=gI n) (h5:S aN=nl) (h6:S ba=bY):
 Walk aL aK S (a1 Glob) (fun x=> x.op=5∧pA (bk (n+1)) x) (enc (X:=B)) fun x y=> bk (n+1) x=some y:=by
 rintro⟨op,a,b,name,arg,val,fold,mn,mx,args,kids⟩ ⟨hop,t,ht,hl⟩
 have hL:=pj
 have hR:=ht
 simp only at hop
 subst hop
 have fin: ∀ {u:B},u=t→bk (n+1) ⟨5,a,b,name,arg,val,fold,mn,mx,args,kids⟩=some u:=fun h=> by rw[h];exact hR
 rw[bk,ee _ (by simp)] at ht
 unfold tn wu at ht
 simp only[show Tw 5=some ⟨#[115,97,109,101]⟩ from rfl,Option.bind_some] at ht
 rw[if_neg (by decide)] at ht
 obtain⟨w,hw,ht⟩:=Option.bind_eq_some_iff.1 ht
 obtain rfl:=Option.some.inj hw
 split at ht
 ·cases ht
 obtain⟨r,hr,ht⟩:=Option.map_eq_some_iff.1 ht
 have et: (((((⟨#[115,97,109,101]⟩ ++ ⟨#[40]⟩) ++a) ++ (⟨#[44]⟩ ++b)) ++ (⟨#[44]⟩ ++name)) ++r) ++ ⟨#[41]⟩=t:=by
  rw[←ht]
  simp[E0,cQ,ByteArray.append_assoc]
 have hl2:=hl
 rw[←et] at hl2
 simp only[av,ai] at hl2
 simp at hl2
 clear ht
 simp[aL,aK,h5,h6,functionsL,ai, -Bool.forall_bool, -Bool.exists_bool]
 repeat (refine⟨by omega,?_⟩)
 intro hkl
 obtain⟨P,hP⟩: ∃P,P=((((⟨#[115,97,109,101]⟩ ++ ⟨#[40]⟩) ++a) ++ (⟨#[44]⟩ ++b)) ++ (⟨#[44]⟩ ++name)):=⟨_,rfl⟩
 rw[←hP] at et ⊢
 clear hP hl2
 refine aO (X:=B×B) [160] [] args.length (fun k x=> jI (args.drop k)=some x.2∧(x.1++x.2) ++ ⟨#[41]⟩=t) (fun x=> [(3,enc x.1)]) (fun _=> []) (P,r) (by simp) (by simp) (by omega) (by simp) (by simp) ⟨hr,et⟩ (by simp) (by simp) ?_ ?_
 ·rintro k ⟨acc,r⟩ hk ⟨q1,q2⟩
  simp only at q1 q2
  obtain⟨x,hx⟩:=cP hk
  obtain⟨_,hgx⟩:=List.getElem?_eq_some_iff.1 hx
  obtain⟨tk,r',c1,c2,rfl⟩:=jH hx q1
  rw[←q2] at hl
  simp only[av,ai] at hl
  simp at hl
  have hp:pA na x:=⟨tk,c1,by omega⟩
  simp[h2,hk,hx,hgx,hp,c1,ai, -Bool.forall_bool, -Bool.exists_bool]
  exact⟨by omega,by omega,r',by simpa using c2,by rw[←q2];simp only[ByteArray.append_assoc]⟩
 ·rintro⟨acc,r⟩ ⟨q1,q2⟩
  simp only at q1 q2
  rw[List.drop_length,jI] at q1
  obtain rfl:=Option.some.inj q1
  rw[←q2] at hl
  simp only[av,ai] at hl
  simp at hl
  simp[ai, -Bool.forall_bool, -Bool.exists_bool]
  exact⟨by omega,fin (by rw[←q2];simp[E0,cQ])⟩
theorem Ua (n:Nat) (h1:S a7=dg) (h2:S bl=fQ) (h3:S aW=cu) (h4:S aZ=gI n) (h5:S aN=nl) (h6:S ba=bY):
 Walk aL aK S (a1 Glob) (fun x=> x.op=6∧pA (bk (n+1)) x) (enc (X:=B)) fun x y=> bk (n+1) x=some y:=by
 rintro⟨op,a,b,name,arg,val,fold,mn,mx,args,kids⟩ ⟨hop,t,ht,hl⟩
 have hL:=pj
 have hR:=ht
 simp only at hop
 subst hop
 have fin: ∀ {u:B},u=t→bk (n+1) ⟨6,a,b,name,arg,val,fold,mn,mx,args,kids⟩=some u:=fun h=> by rw[h];exact hR
 rw[bk,ee _ (by simp)] at ht
 unfold tn wu at ht
 simp only[show Tw 6=some ⟨#[104,101,97,100]⟩ from rfl,Option.bind_some] at ht
 rw[if_neg (by decide)] at ht
 obtain⟨w,hw,ht⟩:=Option.bind_eq_some_iff.1 ht
 obtain rfl:=Option.some.inj hw
 split at ht
 ·cases ht
 obtain⟨r,hr,ht⟩:=Option.map_eq_some_iff.1 ht
 have et: ((((⟨#[104,101,97,100]⟩ ++ ⟨#[40]⟩) ++a) ++ (⟨#[44]⟩ ++b)) ++r) ++ ⟨#[41]⟩=t:=by
  rw[←ht]
  simp[E0,cQ,ByteArray.append_assoc]
 have hl2:=hl
 rw[←et] at hl2
 simp only[av,ai] at hl2
 simp at hl2
 clear ht
 simp[aL,aK,h5,h6,functionsL,ai, -Bool.forall_bool, -Bool.exists_bool]
 repeat (refine⟨by omega,?_⟩)
 intro hkl
 obtain⟨P,hP⟩: ∃P,P=(((⟨#[104,101,97,100]⟩ ++ ⟨#[40]⟩) ++a) ++ (⟨#[44]⟩ ++b)):=⟨_,rfl⟩
 rw[←hP] at et ⊢
 clear hP hl2
 refine aO (X:=B×B) [160] [] args.length (fun k x=> jI (args.drop k)=some x.2∧(x.1++x.2) ++ ⟨#[41]⟩=t) (fun x=> [(3,enc x.1)]) (fun _=> []) (P,r) (by simp) (by simp) (by omega) (by simp) (by simp) ⟨hr,et⟩ (by simp) (by simp) ?_ ?_
 ·rintro k ⟨acc,r⟩ hk ⟨q1,q2⟩
  simp only at q1 q2
  obtain⟨x,hx⟩:=cP hk
  obtain⟨_,hgx⟩:=List.getElem?_eq_some_iff.1 hx
  obtain⟨tk,r',c1,c2,rfl⟩:=jH hx q1
  rw[←q2] at hl
  simp only[av,ai] at hl
  simp at hl
  have hp:pA na x:=⟨tk,c1,by omega⟩
  simp[h2,hk,hx,hgx,hp,c1,ai, -Bool.forall_bool, -Bool.exists_bool]
  exact⟨by omega,by omega,r',by simpa using c2,by rw[←q2];simp only[ByteArray.append_assoc]⟩
 ·rintro⟨acc,r⟩ ⟨q1,q2⟩
  simp only at q1 q2
  rw[List.drop_length,jI] at q1
  obtain rfl:=Option.some.inj q1
  rw[←q2] at hl
  simp only[av,ai] at hl
  simp at hl
  simp[ai, -Bool.forall_bool, -Bool.exists_bool]
  exact⟨by omega,fin (by rw[←q2];simp[E0,cQ])⟩
theorem T0 (n:Nat) (h1:S a7=dg) (h2:S bl=fQ) (h3:S aW=cu) (h4:S aZ=gI n) (h5:S aN=nl) (h6:S ba=bY):
 Walk aL aK S (a1 Glob) (fun x=> x.op=7∧pA (bk (n+1)) x) (enc (X:=B)) fun x y=> bk (n+1) x=some y:=by
 rintro⟨op,a,b,name,arg,val,fold,mn,mx,args,kids⟩ ⟨hop,t,ht,hl⟩
 have hL:=pj
 have hR:=ht
 simp only at hop
 subst hop
 have fin: ∀ {u:B},u=t→bk (n+1) ⟨7,a,b,name,arg,val,fold,mn,mx,args,kids⟩=some u:=fun h=> by rw[h];exact hR
 rw[bk,ee _ (by simp)] at ht
 unfold tn wu at ht
 simp only[show Tw 7=some ⟨#[97,110,99,101,115,116,111,114]⟩ from rfl,Option.bind_some] at ht
 rw[if_neg (by decide)] at ht
 obtain⟨w,hw,ht⟩:=Option.bind_eq_some_iff.1 ht
 obtain rfl:=Option.some.inj hw
 split at ht
 ·cases ht
 obtain⟨r,hr,ht⟩:=Option.map_eq_some_iff.1 ht
 have et: ((((⟨#[97,110,99,101,115,116,111,114]⟩ ++ ⟨#[40]⟩) ++a) ++ (⟨#[44]⟩ ++b)) ++r) ++ ⟨#[41]⟩=t:=by
  rw[←ht]
  simp[E0,cQ,ByteArray.append_assoc]
 have hl2:=hl
 rw[←et] at hl2
 simp only[av,ai] at hl2
 simp at hl2
 clear ht
 simp[aL,aK,h5,h6,functionsL,ai, -Bool.forall_bool, -Bool.exists_bool]
 repeat (refine⟨by omega,?_⟩)
 intro hkl
 obtain⟨P,hP⟩: ∃P,P=(((⟨#[97,110,99,101,115,116,111,114]⟩ ++ ⟨#[40]⟩) ++a) ++ (⟨#[44]⟩ ++b)):=⟨_,rfl⟩
 rw[←hP] at et ⊢
 clear hP hl2
 refine aO (X:=B×B) [160] [] args.length (fun k x=> jI (args.drop k)=some x.2∧(x.1++x.2) ++ ⟨#[41]⟩=t) (fun x=> [(3,enc x.1)]) (fun _=> []) (P,r) (by simp) (by simp) (by omega) (by simp) (by simp) ⟨hr,et⟩ (by simp) (by simp) ?_ ?_
 ·rintro k ⟨acc,r⟩ hk ⟨q1,q2⟩
  simp only at q1 q2
  obtain⟨x,hx⟩:=cP hk
  obtain⟨_,hgx⟩:=List.getElem?_eq_some_iff.1 hx
  obtain⟨tk,r',c1,c2,rfl⟩:=jH hx q1
  rw[←q2] at hl
  simp only[av,ai] at hl
  simp at hl
  have hp:pA na x:=⟨tk,c1,by omega⟩
  simp[h2,hk,hx,hgx,hp,c1,ai, -Bool.forall_bool, -Bool.exists_bool]
  exact⟨by omega,by omega,r',by simpa using c2,by rw[←q2];simp only[ByteArray.append_assoc]⟩
 ·rintro⟨acc,r⟩ ⟨q1,q2⟩
  simp only at q1 q2
  rw[List.drop_length,jI] at q1
  obtain rfl:=Option.some.inj q1
  rw[←q2] at hl
  simp only[av,ai] at hl
  simp at hl
  simp[ai, -Bool.forall_bool, -Bool.exists_bool]
  exact⟨by omega,fin (by rw[←q2];simp[E0,cQ])⟩
theorem TZ (n:Nat) (h1:S a7=dg) (h2:S bl=fQ) (h3:S aW=cu) (h4:S aZ=gI n) (h5:S aN=nl) (h6:S ba=bY):
 Walk aL aK S (a1 Glob) (fun x=> x.op=8∧pA (bk (n+1)) x) (enc (X:=B)) fun x y=> bk (n+1) x=some y:=by
 rintro⟨op,a,b,name,arg,val,fold,mn,mx,args,kids⟩ ⟨hop,t,ht,hl⟩
 have hL:=pj
 have hR:=ht
 simp only at hop
 subst hop
 have fin: ∀ {u:B},u=t→bk (n+1) ⟨8,a,b,name,arg,val,fold,mn,mx,args,kids⟩=some u:=fun h=> by rw[h];exact hR
 rw[bk,ee _ (by simp)] at ht
 unfold tn wu at ht
 simp only[show Tw 8=some ⟨#[112,97,116,104]⟩ from rfl,Option.bind_some] at ht
 rw[if_neg (by decide)] at ht
 obtain⟨w,hw,ht⟩:=Option.bind_eq_some_iff.1 ht
 obtain rfl:=Option.some.inj hw
 split at ht
 ·cases ht
 obtain⟨r,hr,ht⟩:=Option.map_eq_some_iff.1 ht
 have et: ((((⟨#[112,97,116,104]⟩ ++ ⟨#[40]⟩) ++a) ++ (⟨#[44]⟩ ++b)) ++r) ++ ⟨#[41]⟩=t:=by
  rw[←ht]
  simp[E0,cQ,ByteArray.append_assoc]
 have hl2:=hl
 rw[←et] at hl2
 simp only[av,ai] at hl2
 simp at hl2
 clear ht
 simp[aL,aK,h5,h6,functionsL,ai, -Bool.forall_bool, -Bool.exists_bool]
 repeat (refine⟨by omega,?_⟩)
 intro hkl
 obtain⟨P,hP⟩: ∃P,P=(((⟨#[112,97,116,104]⟩ ++ ⟨#[40]⟩) ++a) ++ (⟨#[44]⟩ ++b)):=⟨_,rfl⟩
 rw[←hP] at et ⊢
 clear hP hl2
 refine aO (X:=B×B) [160] [] args.length (fun k x=> jI (args.drop k)=some x.2∧(x.1++x.2) ++ ⟨#[41]⟩=t) (fun x=> [(3,enc x.1)]) (fun _=> []) (P,r) (by simp) (by simp) (by omega) (by simp) (by simp) ⟨hr,et⟩ (by simp) (by simp) ?_ ?_
 ·rintro k ⟨acc,r⟩ hk ⟨q1,q2⟩
  simp only at q1 q2
  obtain⟨x,hx⟩:=cP hk
  obtain⟨_,hgx⟩:=List.getElem?_eq_some_iff.1 hx
  obtain⟨tk,r',c1,c2,rfl⟩:=jH hx q1
  rw[←q2] at hl
  simp only[av,ai] at hl
  simp at hl
  have hp:pA na x:=⟨tk,c1,by omega⟩
  simp[h2,hk,hx,hgx,hp,c1,ai, -Bool.forall_bool, -Bool.exists_bool]
  exact⟨by omega,by omega,r',by simpa using c2,by rw[←q2];simp only[ByteArray.append_assoc]⟩
 ·rintro⟨acc,r⟩ ⟨q1,q2⟩
  simp only at q1 q2
  rw[List.drop_length,jI] at q1
  obtain rfl:=Option.some.inj q1
  rw[←q2] at hl
  simp only[av,ai] at hl
  simp at hl
  simp[ai, -Bool.forall_bool, -Bool.exists_bool]
  exact⟨by omega,fin (by rw[←q2];simp[E0,cQ])⟩
theorem TY (n:Nat) (h1:S a7=dg) (h2:S bl=fQ) (h3:S aW=cu) (h4:S aZ=gI n) (h5:S aN=nl) (h6:S ba=bY):
 Walk aL aK S (a1 Glob) (fun x=> x.op=9∧pA (bk (n+1)) x) (enc (X:=B)) fun x y=> bk (n+1) x=some y:=by
 rintro⟨op,a,b,name,arg,val,fold,mn,mx,args,kids⟩ ⟨hop,t,ht,hl⟩
 have hL:=pj
 have hR:=ht
 simp only at hop
 subst hop
 have fin: ∀ {u:B},u=t→bk (n+1) ⟨9,a,b,name,arg,val,fold,mn,mx,args,kids⟩=some u:=fun h=> by rw[h];exact hR
 rw[bk,ee _ (by simp)] at ht
 unfold tn wu at ht
 simp only[show Tw 9=some ⟨#[110,111,100,101]⟩ from rfl,Option.bind_some] at ht
 rw[if_neg (by decide)] at ht
 obtain⟨w,hw,ht⟩:=Option.bind_eq_some_iff.1 ht
 obtain rfl:=Option.some.inj hw
 split at ht
 ·cases ht
 obtain⟨r,hr,ht⟩:=Option.map_eq_some_iff.1 ht
 have et: (((((⟨#[110,111,100,101]⟩ ++ ⟨#[40]⟩) ++a) ++ (⟨#[44]⟩ ++b)) ++ (⟨#[44]⟩ ++name)) ++r) ++ ⟨#[41]⟩=t:=by
  rw[←ht]
  simp[E0,cQ,ByteArray.append_assoc]
 have hl2:=hl
 rw[←et] at hl2
 simp only[av,ai] at hl2
 simp at hl2
 clear ht
 simp[aL,aK,h5,h6,functionsL,ai, -Bool.forall_bool, -Bool.exists_bool]
 repeat (refine⟨by omega,?_⟩)
 intro hkl
 obtain⟨P,hP⟩: ∃P,P=((((⟨#[110,111,100,101]⟩ ++ ⟨#[40]⟩) ++a) ++ (⟨#[44]⟩ ++b)) ++ (⟨#[44]⟩ ++name)):=⟨_,rfl⟩
 rw[←hP] at et ⊢
 clear hP hl2
 refine aO (X:=B×B) [160] [] args.length (fun k x=> jI (args.drop k)=some x.2∧(x.1++x.2) ++ ⟨#[41]⟩=t) (fun x=> [(3,enc x.1)]) (fun _=> []) (P,r) (by simp) (by simp) (by omega) (by simp) (by simp) ⟨hr,et⟩ (by simp) (by simp) ?_ ?_
 ·rintro k ⟨acc,r⟩ hk ⟨q1,q2⟩
  simp only at q1 q2
  obtain⟨x,hx⟩:=cP hk
  obtain⟨_,hgx⟩:=List.getElem?_eq_some_iff.1 hx
  obtain⟨tk,r',c1,c2,rfl⟩:=jH hx q1
  rw[←q2] at hl
  simp only[av,ai] at hl
  simp at hl
  have hp:pA na x:=⟨tk,c1,by omega⟩
  simp[h2,hk,hx,hgx,hp,c1,ai, -Bool.forall_bool, -Bool.exists_bool]
  exact⟨by omega,by omega,r',by simpa using c2,by rw[←q2];simp only[ByteArray.append_assoc]⟩
 ·rintro⟨acc,r⟩ ⟨q1,q2⟩
  simp only at q1 q2
  rw[List.drop_length,jI] at q1
  obtain rfl:=Option.some.inj q1
  rw[←q2] at hl
  simp only[av,ai] at hl
  simp at hl
  simp[ai, -Bool.forall_bool, -Bool.exists_bool]
  exact⟨by omega,fin (by rw[←q2];simp[E0,cQ])⟩
theorem RS (n:Nat) (h1:S a7=dg) (h2:S bl=fQ) (h3:S aW=cu) (h4:S aZ=gI n) (h5:S aN=nl) (h6:S ba=bY):
 Walk aL aK S (a1 Glob) (fun x=> x.op=10∧pA (bk (n+1)) x) (enc (X:=B)) fun x y=> bk (n+1) x=some y:=by
 rintro⟨op,a,b,name,arg,val,fold,mn,mx,args,kids⟩ ⟨hop,t,ht,hl⟩
 have hL:=pj
 have hR:=ht
 simp only at hop
 subst hop
 have fin: ∀ {u:B},u=t→bk (n+1) ⟨10,a,b,name,arg,val,fold,mn,mx,args,kids⟩=some u:=fun h=> by rw[h];exact hR
 rw[bk,ee _ (by simp)] at ht
 unfold tn wu at ht
 simp only[show Tw 10=some ⟨#[100,101,112,116,104]⟩ from rfl,Option.bind_some] at ht
 rw[if_pos (by decide)] at ht
 obtain⟨w,hw,ht⟩:=Option.bind_eq_some_iff.1 ht
 obtain⟨d,hd,hw⟩:=Option.bind_eq_some_iff.1 hw
 obtain⟨e,he,hw⟩:=Option.map_eq_some_iff.1 hw
 have rd:=Bv hd
 have re:=Bv he
 split at ht
 ·cases ht
 obtain⟨r,hr,ht⟩:=Option.map_eq_some_iff.1 ht
 have et: ((((⟨#[100,101,112,116,104]⟩ ++ ⟨#[40]⟩) ++a) ++ (((⟨#[44]⟩ ++d) ++ ⟨#[44]⟩) ++e)) ++r) ++ ⟨#[41]⟩=t:=by
  rw[←ht]
  simp[←hw,E0,cQ,ByteArray.append_assoc]
 have hl2:=hl
 rw[←et] at hl2
 simp only[av,ai] at hl2
 simp at hl2
 clear ht
 simp[aL,aK,h5,h6,functionsL,hd,he,rd,re,ai, -Bool.forall_bool, -Bool.exists_bool]
 repeat (refine⟨by omega,?_⟩)
 intro hkl
 obtain⟨P,hP⟩: ∃P,P=(((⟨#[100,101,112,116,104]⟩ ++ ⟨#[40]⟩) ++a) ++ (((⟨#[44]⟩ ++d) ++ ⟨#[44]⟩) ++e)):=⟨_,rfl⟩
 rw[←hP] at et ⊢
 clear hP hl2
 refine aO (X:=B×B) [160] [] args.length (fun k x=> jI (args.drop k)=some x.2∧(x.1++x.2) ++ ⟨#[41]⟩=t) (fun x=> [(3,enc x.1)]) (fun _=> []) (P,r) (by simp) (by simp) (by omega) (by simp) (by simp) ⟨hr,et⟩ (by simp) (by simp) ?_ ?_
 ·rintro k ⟨acc,r⟩ hk ⟨q1,q2⟩
  simp only at q1 q2
  obtain⟨x,hx⟩:=cP hk
  obtain⟨_,hgx⟩:=List.getElem?_eq_some_iff.1 hx
  obtain⟨tk,r',c1,c2,rfl⟩:=jH hx q1
  rw[←q2] at hl
  simp only[av,ai] at hl
  simp at hl
  have hp:pA na x:=⟨tk,c1,by omega⟩
  simp[h2,hk,hx,hgx,hp,c1,ai, -Bool.forall_bool, -Bool.exists_bool]
  exact⟨by omega,by omega,r',by simpa using c2,by rw[←q2];simp only[ByteArray.append_assoc]⟩
 ·rintro⟨acc,r⟩ ⟨q1,q2⟩
  simp only at q1 q2
  rw[List.drop_length,jI] at q1
  obtain rfl:=Option.some.inj q1
  rw[←q2] at hl
  simp only[av,ai] at hl
  simp at hl
  simp[ai, -Bool.forall_bool, -Bool.exists_bool]
  exact⟨by omega,fin (by rw[←q2];simp[E0,cQ])⟩
end Go.Gv

namespace Go.Gv
open Cod (enc dec)
variable {S S0:Nat→Spc}
theorem BN (n:Nat) (h1:S a7=dg) (h2:S bl=fQ) (h3:S aW=cu) (h4:S aZ=gI n) (h5:S aN=nl) (h6:S ba=bY):
 Walk aL aK S (a1 Glob) (pA (bk (n+1))) (enc (X:=B)) fun x y=> bk (n+1) x=some y:=by
 intro g hg
 by_cases e2:g.op=2∨g.op=3∨g.op=11
 ·exact OJ n h1 h2 h3 h4 h5 h6 g ⟨e2,hg⟩
 by_cases e12:g.op=12
 ·exact IB n h1 h2 h3 h4 h5 h6 g ⟨e12,hg⟩
 by_cases e13:g.op=13
 ·exact IA n h1 h2 h3 h4 h5 h6 g ⟨e13,hg⟩
 obtain⟨t,ht,hl⟩:=hg
 have ho: ∃w,Tw g.op=some w:=by
  have ht2:=ht
  rw[bk,qC,if_neg (by omega),if_neg (by omega),if_neg (by omega),if_neg (by omega),tn] at ht2
  obtain⟨w,hw,_⟩:=Option.bind_eq_some_iff.1 ht2
  exact⟨w,hw⟩
 have ho:g.op=1∨g.op=4∨g.op=5∨g.op=6∨g.op=7∨g.op=8∨g.op=9∨g.op=10:=by
  obtain⟨w,hw⟩:=ho
  unfold Tw at hw
  by_cases c1:g.op=1
  ·omega
  by_cases c4:g.op=4
  ·omega
  by_cases c5:g.op=5
  ·omega
  by_cases c6:g.op=6
  ·omega
  by_cases c7:g.op=7
  ·omega
  by_cases c8:g.op=8
  ·omega
  by_cases c9:g.op=9
  ·omega
  by_cases c10:g.op=10
  ·omega
  rw[if_neg c1,if_neg c4,if_neg c5,if_neg c6,if_neg c7,if_neg c8,if_neg c9,if_neg c10] at hw
  cases hw
 rcases ho with e | e | e | e | e | e | e | e
 ·exact Ud n h1 h2 h3 h4 h5 h6 g ⟨e,t,ht,hl⟩
 ·exact Uc n h1 h2 h3 h4 h5 h6 g ⟨e,t,ht,hl⟩
 ·exact Ub n h1 h2 h3 h4 h5 h6 g ⟨e,t,ht,hl⟩
 ·exact Ua n h1 h2 h3 h4 h5 h6 g ⟨e,t,ht,hl⟩
 ·exact T0 n h1 h2 h3 h4 h5 h6 g ⟨e,t,ht,hl⟩
 ·exact TZ n h1 h2 h3 h4 h5 h6 g ⟨e,t,ht,hl⟩
 ·exact TY n h1 h2 h3 h4 h5 h6 g ⟨e,t,ht,hl⟩
 ·exact RS n h1 h2 h3 h4 h5 h6 g ⟨e,t,ht,hl⟩
end Go.Gv
