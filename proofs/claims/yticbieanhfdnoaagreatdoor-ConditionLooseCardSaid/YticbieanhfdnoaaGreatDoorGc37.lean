/- A part of the framework and of the walks: V56 W161 W162 V4 V11 V6 V7 V8 V12 V13 C2 W2 W31 V15 V16 T24 V18 V19 V58. -/
import Derived.Test.YticbieanhfdnoaaGreatDoorGc36
import Derived.Test.YticbieanhfdnoaaGreatDoorGc26
import Derived.Test.YticbieanhfdnoaaGreatDoorGc29
import Derived.Test.YticbieanhfdnoaaGreatDoorGc28
import Derived.Test.YticbieanhfdnoaaGreatDoorGc21
import Derived.Test.YticbieanhfdnoaaGreatDoorGc23
import Derived.Test.YticbieanhfdnoaaGreatDoorGc22
import Derived.Test.YticbieanhfdnoaaGreatDoorGc19
import Derived.Test.YticbieanhfdnoaaGreatDoorGc30
set_option linter.unusedSimpArgs false
set_option linter.unusedVariables false
set_option maxRecDepth 100000
set_option linter.unusedSectionVars false

namespace Go.Gv
open Go.Proofs
def valsA:List B:= [⟨#[97]⟩,⟨#[98]⟩,⟨#[97,46,42]⟩,⟨#[91,97,98,93]⟩,⟨#[88]⟩,⟨#[]⟩,⟨#[99,63]⟩,⟨#[97,124,98]⟩,⟨#[89]⟩,⟨#[111,46,42]⟩,⟨#[78]⟩,⟨#[97,124,88]⟩]
def wordsA:List B:= [⟨#[97]⟩,⟨#[98]⟩,⟨#[99]⟩,⟨#[65]⟩,⟨#[97,98]⟩,⟨#[]⟩,⟨#[88]⟩,⟨#[89]⟩,⟨#[116,104,101]⟩,⟨#[111,108,100]⟩,⟨#[109,97,110]⟩,⟨#[68]⟩,⟨#[65]⟩,⟨#[78]⟩,⟨#[124]⟩,⟨#[124,112,124]⟩,⟨#[124,112,124,113,124]⟩,⟨#[124,113,124]⟩]
def Uq:Bool:=valsA.all fun v=> wordsA.all fun w=> (uB v w false).isSome && (uB v w true).isSome
theorem PP:Uq=true:=by kernel_rfl
theorem AS {v w:B} (hv:v∈valsA) (hw:w∈wordsA) (f:Bool): ∃y,uB v w f=some y:=by
 have h:=List.all_eq_true.1 (List.all_eq_true.1 PP v hv) w hw
 simp only[Bool.and_eq_true] at h
 cases f
 ·exact Option.isSome_iff_exists.1 h.1
 ·exact Option.isSome_iff_exists.1 h.2
end Go.Gv

namespace Go.Gv
open Go.Proofs
open Cod (enc dec)
variable {S S0:Nat→Spc}
theorem Qf {H0 H:aa} (hh: ∀i,H0 i=none) {d d':D} (h:FrzTo H0 d d'):FrzTo H d d':=by
 induction h with
 | same d=> exact .same d
 | any d=> exact .any d
 | nil n=> exact .nil n
 | own i j x=> exact .own i j x
 | nilown j=> exact .nilown j
 | bptr i j b off=> exact .bptr i j b off
 | row h _ _ _ _=> rw[hh] at h;cases h
 | sub h _ _ _ _=> rw[hh] at h;cases h
 | list hl hk _ ih=> exact .list hl hk ih
 | box h=> rw[hh] at h;cases h
 | agg hl _ ih=> exact .agg hl ih
 | tup hl _ ih=> exact .tup hl ih
 | clo hl _ ih=> exact .clo hl ih
 | nomp=> exact .nomp
 | mrow h _ _ _=> rw[hh] at h;cases h
 | mp hl _ ih=> exact .mp hl ih
theorem Qe {H:aa} {d d':D} (h:FrzTo df d d'):FrzTo H d d':=Qf (fun _=> rfl) h
def exC:Corpus:=⟨[⟨⟨#[119,111,114,100]⟩,false⟩,⟨⟨#[112,111,115]⟩,false⟩], [[⟨#[116,104,101]⟩,⟨#[68]⟩], [⟨#[111,108,100]⟩,⟨#[65]⟩], [⟨#[109,97,110]⟩,⟨#[78]⟩]], [⟨⟨#[116]⟩,0,3, []⟩], [], [], [], []⟩
abbrev MK:Spc:=cv a0 (fun _=> True) (enc (X:=Corpus)) fun _ y=> y=exC
theorem zG:aN ms ma S a0 (fun _=> True) (enc (X:=Corpus)) fun _ y=> y=exC:=by
 rintro⟨⟩ -
 simp[ms,ma, -Bool.forall_bool, -Bool.exists_bool]
 intro b
 refine dE exC ?_ rfl
 have h: ∀d,dec (X:=Corpus) d=some exC→ ∀H,FrzTo H d (enc exC):=fun d hd H=> by
  have:=Cod.le (X:=Corpus) d exC hd
  exact Qe this
 exact h _ (by simp[exC]) _
def Qn:Cond:=⟨2,gE,gE,⟨#[111,46,42]⟩,gE,false, []⟩
def Qm:Cond:=⟨8,gE,gE,gE,gE,false, [⟨4,⟨#[119,111,114,100]⟩,⟨#[119,111,114,100]⟩,gE,⟨#[97]⟩,false, []⟩,⟨2,⟨#[112,111,115]⟩,gE,⟨#[78]⟩,gE,false, []⟩]⟩
theorem Zv:Ck exC Qn= [1]:=by kernel_rfl
theorem Zu:Ck exC Qm= [0,1,2]:=by kernel_rfl
theorem ZM: (LZ exC.attrs [] (dX Qn) && (List.range 3).all fun i=> (fG ⟨exC,(i:Int), [], []⟩ 21 (dX Qn)).isSome)=true:=by kernel_rfl
theorem ZL: (LZ exC.attrs [] (dX Qm) && (List.range 3).all fun i=> (fG ⟨exC,(i:Int), [], []⟩ 21 (dX Qm)).isSome)=true:=by kernel_rfl
theorem qg4:QW exC:=⟨by decide,by decide,by decide⟩
theorem MF {x:Cond} (h1:dx x≤60) (h2:cA x≤60) (h: (LZ exC.attrs [] (dX x) && (List.range 3).all fun i=> (fG ⟨exC,(i:Int), [], []⟩ 21 (dX x)).isSome)=true):DL (exC,x):=by
 simp only[Bool.and_eq_true] at h
 exact⟨qg4,h1,h2,h.1,fun i hi=> Option.isSome_iff_exists.1 (List.all_eq_true.1 h.2 i (List.mem_range.2 hi))⟩
def vJ (a b:List Int):Bool:=decide (a=b)
abbrev IB:Spc:=cv (a2 (List Int) (List Int)) (fun x=> x.1.length≤100000∧x.2.length≤100000) (enc (X:=Bool)) fun x y=> y=vJ x.1 x.2
theorem HP:aN oa n7 S (a2 (List Int) (List Int)) (fun x=> x.1.length≤100000∧x.2.length≤100000) (enc (X:=Bool)) fun x y=> y=vJ x.1 x.2:=by
 rintro⟨a,b⟩ ⟨la,lb⟩
 simp only at la lb
 have la': (a.length:Int)≤9223372036854775807:=by omega
 have lb': (b.length:Int)≤9223372036854775807:=by omega
 by_cases hl:a.length=b.length
 ·have hli: (a.length:Int)=b.length:=by omega
  simp[oa,n7,la',lb',hl,hli, -Bool.forall_bool, -Bool.exists_bool]
  refine aq (X:=Unit) [0,1] [] b.length (fun k _=> a.take k=b.take k) (fun _=> []) (fun _=> []) () (by simp) (by simp) (by omega) (by simp) (by simp) (by simp) (by simp) (by simp) ?_ ?_
  ·rintro k -hk hP
   have hka:k < a.length:=by omega
   obtain⟨x,hx⟩:=jI hka
   obtain⟨y,hy⟩:=jI hk
   obtain⟨_,hgx⟩:=List.getElem?_eq_some_iff.1 hx
   obtain⟨_,hgy⟩:=List.getElem?_eq_some_iff.1 hy
   have hab:vJ a b=decide (a=b):=rfl
   by_cases hxy:x=y
   ·subst hxy
    simp[hk,hka,hx,hy,hgx,hgy, -Bool.forall_bool, -Bool.exists_bool]
    rw[dM hx,dM hy,hP]
   ·have hne:vJ a b=false:=by
     unfold vJ
     rw[decide_eq_false_iff_not]
     intro e
     subst e
     rw[hx] at hy
     exact hxy (Option.some.inj hy)
    simp[hk,hka,hx,hy,hgx,hgy,hxy,hne, -Bool.forall_bool, -Bool.exists_bool]
  ·rintro -hP
   rw[←hl,List.take_length,hl,List.take_length] at hP
   have he:vJ a b=true:=decide_eq_true hP
   simp[he, -Bool.forall_bool, -Bool.exists_bool]
 ·have hli: ¬ (a.length:Int)=b.length:=by omega
  have hne:vJ a b=false:=by
   unfold vJ
   rw[decide_eq_false_iff_not]
   intro e
   exact hl (by rw[e])
  simp[oa,n7,la',lb',hl,hli,hne, -Bool.forall_bool, -Bool.exists_bool]
abbrev xm:Spc:=cv a0 (fun _=> True) (enc (X:=Bool)) fun _ y=> y=true
theorem KM (h1:S fu=MK) (h2:S bO=Gi) (h3:S lg=IB):aN nD m8 S a0 (fun _=> True) (enc (X:=Bool)) fun _ y=> y=true:=by
 rintro⟨⟩ -
 have p1:DL (exC,⟨2,⟨#[]⟩,⟨#[]⟩,⟨#[111,46,42]⟩,⟨#[]⟩,false, []⟩):=MF (x:=Qn) (by decide) (by decide) ZM
 have p2:DL (exC,⟨8,⟨#[]⟩,⟨#[]⟩,⟨#[]⟩,⟨#[]⟩,false, [⟨4,⟨#[119,111,114,100]⟩,⟨#[119,111,114,100]⟩,⟨#[]⟩,⟨#[97]⟩,false, []⟩,⟨2,⟨#[112,111,115]⟩,⟨#[]⟩,⟨#[78]⟩,⟨#[]⟩,false, []⟩]⟩):=MF (x:=Qm) (by decide) (by decide) ZL
 have e1:Ck exC ⟨2,⟨#[]⟩,⟨#[]⟩,⟨#[111,46,42]⟩,⟨#[]⟩,false, []⟩= [1]:=Zv
 have e2:Ck exC ⟨8,⟨#[]⟩,⟨#[]⟩,⟨#[]⟩,⟨#[]⟩,false, [⟨4,⟨#[119,111,114,100]⟩,⟨#[119,111,114,100]⟩,⟨#[]⟩,⟨#[97]⟩,false, []⟩,⟨2,⟨#[112,111,115]⟩,⟨#[]⟩,⟨#[78]⟩,⟨#[]⟩,false, []⟩]⟩= [0,1,2]:=Zu
 simp[nD,m8,h1,h2,h3,p1,p2,e1,e2,vJ, -Bool.forall_bool, -Bool.exists_bool]
end Go.Gv

namespace Go.Gv
open Go.Proofs
open Cod (enc dec)
variable {S S0:Nat→Spc}
def lbs2:List B:= [⟨#[120]⟩,⟨#[121]⟩]
abbrev Ag:Spc:=cv a0 (fun _=> True) (enc (X:=List B)) fun _ y=> y=lbs2
theorem zF:aN mr l9 S a0 (fun _=> True) (enc (X:=List B)) fun _ y=> y=lbs2:=by
 rintro⟨⟩ -
 simp[mr,l9,lbs2, -Bool.forall_bool, -Bool.exists_bool]
 exact dE _ (.same _) rfl
def OkCorp (c:Corpus):Prop:=c.attrs=fH∧1≤c.toks.length∧c.toks.length≤4096∧ ∀r∈c.toks,wP r
theorem OkCorp.sz {c:Corpus} (h:OkCorp c):QW c:=by
 obtain⟨h1,h2,h3,h4⟩:=h
 refine⟨by omega,fun r hr=> ?_,by rw[h1];decide⟩
 obtain⟨w,t,f,_,_,_,rfl⟩:=h4 r hr
 simp
theorem Ht: ∀ {l:List sV} {s e:Int},tR s l e→s≤e
 | [],s,e,h=> by have h:s=e:=h;omega
 | a::l,s,e,h=> by have:=Ht h.2.2;have:=h.1;have:=h.2.1;omega
theorem RY {c:Corpus} (h:HM c) (hk:Fv c):OkCorp c:=by
 obtain⟨h1,h2,h3,_⟩:=h
 refine⟨hk.1,?_,h3,hk.2⟩
 cases hl:c.texts with
 | nil=> exact absurd hl h2
 | cons a l=>
   rw[hl] at h1
   have:=Ht h1.2.2
   have:=h1.1
   have:=h1.2.1
   omega
end Go.Gv

namespace Go.Gv
def qgN:B:=⟨#[115]⟩
def Wc:B:=⟨#[110,112]⟩
def qgM:B:=⟨#[116]⟩
def Types:List B:= [qgN,Wc,qgM]
end Go.Gv

namespace Go.Gv
end Go.Gv

namespace Go.Gv
open Cod (enc dec)
structure sZ where
 op:Int
 a:B
 b:B
 name:B
 arg:B
 val:B
 fold:Bool
 mn:Int
 mx:Int
 args:List B
 kids:List sZ
mutual
def Fa:sZ→D
 | .mk p0 p1 p2 p3 p4 p5 p6 p7 p8 p9 ks=> .agg [enc p0,enc p1,enc p2,enc p3,enc p4,enc p5,enc p6,enc p7,enc p8,enc p9, .list 11 (sI ks)]
def sI:List sZ→List D
 | []=> []
 | k::ks=> Fa k::sI ks
end
mutual
def LN:D→Option sZ
 | .agg [x0,x1,x2,x3,x4,x5,x6,x7,x8,x9,x10]=> (dec x0).bind fun p0=> (dec x1).bind fun p1=> (dec x2).bind fun p2=> (dec x3).bind fun p3=> (dec x4).bind fun p4=> (dec x5).bind fun p5=> (dec x6).bind fun p6=> (dec x7).bind fun p7=> (dec x8).bind fun p8=> (dec x9).bind fun p9=> (DE x10).bind fun ks=> some (.mk p0 p1 p2 p3 p4 p5 p6 p7 p8 p9 ks)
 | _=> none
def DE:D→Option (List sZ)
 | .list n es=> if n=11 then yv es else none
 | .v (.slice none 0 0)=> some []
 | _=> none
def yv:List D→Option (List sZ)
 | []=> some []
 | d::ds=> (LN d).bind fun x=> (yv ds).bind fun xs=> some (x::xs)
end
theorem Dx: ∀l:List sZ,sI l=l.map Fa
 | []=> rfl
 | _::l=> by rw[sI,Dx l];rfl
theorem Kg: ∀c:sZ,(Fa c).kn=true
 | .mk .. => rfl
theorem Hb: ∀c:sZ,(Fa c).cells.length=11
 | .mk .. => rfl
mutual
theorem Ho: ∀c:sZ,LN (Fa c)=some c
 | .mk p0 p1 p2 p3 p4 p5 p6 p7 p8 p9 ks=> by
   have h:DE (.list 11 (sI ks))=some ks:=by rw[DE,if_pos rfl];exact DD ks
   simp only[Fa,LN,Cod.dec_enc,Option.bind_some,h]
theorem DD: ∀l:List sZ,yv (sI l)=some l
 | []=> by simp only[sI,yv]
 | c::l=> by simp only[sI,yv,Ho c,DD l,Option.bind_some]
end
mutual
theorem Kl: ∀ (d:D) (c:sZ),LN d=some c→FrzTo df d (Fa c)
 | .agg [x0,x1,x2,x3,x4,x5,x6,x7,x8,x9,x10],c,h=> by
   simp only[LN,Option.bind_eq_some_iff,Option.some.injEq] at h
   obtain⟨p0,h0,p1,h1,p2,h2,p3,h3,p4,h4,p5,h5,p6,h6,p7,h7,p8,h8,p9,h9,ks,hk,rfl⟩:=h
   rw[Fa]
   exact LeL.agg (.cons (Cod.le _ _ h0) (.cons (Cod.le _ _ h1) (.cons (Cod.le _ _ h2) (.cons (Cod.le _ _ h3) (.cons (Cod.le _ _ h4) (.cons (Cod.le _ _ h5) (.cons (Cod.le _ _ h6) (.cons (Cod.le _ _ h7) (.cons (Cod.le _ _ h8) (.cons (Cod.le _ _ h9) ((.cons (Oh x10 ks hk) .nil))))))))))))
theorem Oh: ∀ (d:D) (l:List sZ),DE d=some l→FrzTo df d (.list 11 (sI l))
 | .list n es,l,h=> by
   simp only[DE] at h
   split at h
   ·rename_i hn
    subst hn
    have hl:=Hn es l h
    refine .list hl.1 (fun e he=> ?_) hl.2
    rw[Dx] at he
    obtain⟨x,hx,rfl⟩:=List.mem_map.1 he
    exact⟨Kg x,Hb x⟩
   ·cases h
 | .v (.slice none 0 0),l,h=> by
   simp only[DE,Option.some.injEq] at h
   subst h
   exact .nil _
theorem Hn: ∀ (es:List D) (l:List sZ),yv es=some l→LeL es (sI l)
 | [],l,h=> by
   simp only[yv,Option.some.injEq] at h
   subst h
   exact .nil
 | d::ds,l,h=> by
   simp only[yv,Option.bind_eq_some_iff,Option.some.injEq] at h
   obtain⟨x,h1,xs,h2,rfl⟩:=h
   rw[sI]
   exact .cons (Kl d x h1) (Hn ds xs h2)
end
instance:Cod sZ where
 wd:=11
 enc:=Fa
 dec:=LN
 kn:=Kg
 wid:=Hb
 dec_enc:=Ho
 le:=Kl
end Go.Gv

namespace Go.Gv
open Cod (enc dec)
structure qgU where
 kind:Int
 text:B
 pos:Int
instance:Cod qgU where
 wd:=3
 enc t:= .agg [.v (.int .u8 t.kind),enc t.text,enc t.pos]
 dec | .agg [.v (.int .u8 k),x1,x2]=> (dec x1).bind fun b=> (dec x2).bind fun c=> some ⟨k,b,c⟩ | _=> none
 kn _:=rfl
 wid _:=rfl
 dec_enc f:=by simp only[Cod.dec_enc,Option.bind_some]
 le d x h:=by
  split at h
  ·simp only[Option.bind_eq_some_iff,Option.some.injEq] at h
   obtain⟨b,h1,c,h2,rfl⟩:=h
   exact LeL.agg (.cons (.same _) (.cons (Cod.le _ _ h1) (.cons (Cod.le _ _ h2) .nil)))
  ·cases h
structure Pst where
 l:List qgU
 pos:Int
 deep:Int
 e:Int
 fail:Int
def Pst.step (s:Pst):Pst:= { s with pos:=s.pos+1 }
def E0:B:=⟨#[]⟩
section
variable (A:Pst→Option (Pst×Fp))
end
end Go.Gv

namespace Go.Gv
end Go.Gv

namespace Go.Gv
open Cod (enc dec)
section
variable (N:Pst→Option (Pst×Cond)) (O:Pst→Option (Pst×Cond))
end
section
variable (A:Pst→Option (Pst×Fp)) (O:Pst→Option (Pst×Cond))
end
section
variable (N:Pst→Option (Pst×sZ)) (O:Pst→Option (Pst×sZ))
end
end Go.Gv

namespace Go.Gv
end Go.Gv

namespace Go.Gv
open Go.Proofs
-- markup_ValidName range i=20 n=19 c=21 i2=28 id=0: live [0:s] changed [] res []
-- r22_Same range i=58 n=57 c=59 i2=73 id=0: live [2:a, 3:b] changed [] res []
end Go.Gv

namespace Go.Gv
open Cod (enc dec)
variable {S S0:Nat→Spc}
end Go.Gv

namespace Go.Gv
open Cod (enc dec)
variable {S S0:Nat→Spc}
end Go.Gv

namespace Go.Gv
end Go.Gv

namespace Go.Gv
open Cod (enc dec)
end Go.Gv

namespace Go.Gv
open Cod (enc dec)
structure Ri where
 txt:B
 fin:Int
 kind:Int
 text:B
 pos:Int
section
variable {Y Z:Type}
variable {P:Program} {S:Nat→Spc} {f:Nat} {im:List Nat} {cc:CC} {rs:List au} {N:Nat}
end
section
variable {Y Z:Type}
variable {P:Program} {S:Nat→Spc} {f:Nat} {im:List Nat} {cc:CC} {rs:List au} {N:Nat}
end
end Go.Gv

namespace Go.Gv
section
variable (N:Ri→Option (Ri×Cond)) (O:Ri→Option (Ri×Cond))
end
section
variable (A:Ri→Bool→Option (Ri×Fp)) (O:Ri→Option (Ri×Cond))
end
end Go.Gv

namespace Go.Gv
def Mr:B:=⟨#[119,111,114,100]⟩
def Ms:B:=⟨#[116,97,103]⟩
def zW:B:=⟨#[102,101,97,116]⟩
def ValsT:List B:= [⟨#[97]⟩,⟨#[98]⟩,⟨#[97,46,42]⟩,⟨#[91,97,98,93]⟩]
def ValsI:List B:= [⟨#[97]⟩,⟨#[98]⟩,⟨#[97,46,42]⟩,⟨#[91,97,98,93]⟩,⟨#[88]⟩,⟨#[]⟩,⟨#[99,63]⟩,⟨#[97,124,98]⟩,⟨#[89]⟩,⟨#[97,124,88]⟩]
def Attr2:List B:= [Mr,Ms]
def FeatL:List B:= [⟨#[112]⟩,⟨#[113]⟩]
def NumL:List B:= [⟨#[49]⟩,⟨#[50]⟩]
def WI:B:=⟨#[110]⟩
inductive GA (lb:List B):Cond→Prop
 | val (n v:B) (f:Bool) (h1:n∈Attr2) (h2:v∈ValsI):GA lb ⟨2,n,E0,v,E0,f, []⟩
 | feat (v:B) (h:v∈FeatL):GA lb ⟨3,zW,E0,v,E0,false, []⟩
 | same (n l a:B) (h1:n∈Attr2) (h2:l∈lb) (h3:a∈Attr2):GA lb ⟨4,n,a,E0,l,false, []⟩
 | reg (n:B) (h:n∈Types):GA lb ⟨5,n,E0,E0,E0,false, []⟩
 | regk (n v:B) (h1:n∈Types) (h2:v∈NumL):GA lb ⟨5,n,WI,v,E0,false, []⟩
inductive GI (lb:List B):Nat→Cond→Prop
 | atom (n:Nat) (c:Cond) (h:GA lb c):GI lb n c
 | not (n:Nat) (k:Cond) (h:GI lb n k):GI lb (n+1) ⟨6,E0,E0,E0,E0,false, [k]⟩
 | two (n:Nat) (op:Int) (a b:Cond) (ho:op=7∨op=8) (h1:GI lb n a) (h2:GI lb n b):GI lb (n+1) ⟨op,E0,E0,E0,E0,false, [a,b]⟩
inductive GC (lb:List B) (n:Nat):Cond→Prop
 | any:GC lb n ⟨1,E0,E0,E0,E0,false, []⟩
 | top (v:B) (f:Bool) (h:v∈ValsT):GC lb n ⟨2,E0,E0,v,E0,f, []⟩
 | inner (c:Cond) (h:GI lb n c):GC lb n c
theorem wA {lb:List B} {c:Cond} (h:GA lb c):c.kids= []:=by cases h <;> rfl
def Sh (l:List B) (x:B):Bool:=l.any fun z=> decide (z=x)
theorem GT (l:List B) (x:B):Sh l x=true↔x∈l:=by
 unfold Sh
 rw[List.any_eq_true]
 exact⟨fun⟨z,h1,h2⟩=> by rw[decide_eq_true_eq] at h2;rwa [←h2],fun h=> ⟨x,h,decide_eq_true rfl⟩⟩
instance decMem (l:List B) (x:B):Decidable (x∈l):=if h:Sh l x=true then .isTrue ((GT l x).1 h) else .isFalse fun hx=> h ((GT l x).2 hx)
end Go.Gv

namespace Go.Gv
open Go.Proofs
theorem O7: ∀w∈HH,w∈wordsA:=by decide
theorem RC: ∀w∈OM,w∈wordsA:=by decide
theorem Qb: ∀w∈DM,w∈wordsA:=by decide
theorem Pj: ∀w∈ValsI,w∈valsA:=by decide
theorem Oa:gE∈wordsA:=by decide
theorem QT {toks:List (List B)} (h: ∀r∈toks,wP r) (i k:Int):nO toks i k∈wordsA:=by
 unfold nO
 split
 ·exact Oa
 ·split
  ·rename_i r hr
   obtain⟨w,t,f,hw,ht,hf,rfl⟩:=h r (List.mem_of_getElem? hr)
   split
   ·rename_i s hs
    have hm:=List.mem_of_getElem? hs
    simp only[List.mem_cons,List.not_mem_nil,or_false] at hm
    rcases hm with rfl | rfl | rfl
    ·exact O7 _ hw
    ·exact RC _ ht
    ·exact Qb _ hf
   ·exact Oa
  ·exact Oa
theorem LU:jP fH zW=2:=by decide
theorem Mg {toks:List (List B)} (h: ∀r∈toks,wP r) {i:Int} (h0:0≤i) (h1:i < toks.length): ∃f∈DM,nO toks i 2=f:=by
 obtain⟨j,rfl⟩: ∃j:Nat,i=(j:Int):=⟨i.toNat,by omega⟩
 obtain⟨r,hr⟩: ∃r,toks[j]?=some r:=⟨toks[j]'(by omega),List.getElem?_eq_getElem _⟩
 obtain⟨w,t,f,hw,ht,hf,rfl⟩:=h r (List.mem_of_getElem? hr)
 refine⟨f,hf,?_⟩
 unfold nO
 rw[if_neg (by omega),show((j:Int)).toNat=j from rfl,hr]
 rfl
structure wT (E:BV):Prop where
 c:OkCorp E.c
 t0:0≤E.tok
 t1:E.tok < E.c.toks.length
 l:E.bd.length=E.lb.length
theorem Rc {E:BV} (hE:wT E) {n:Nat} {x:Cond} (h:GA E.lb x): ∃y,fG E (n+1) x=some y:=by
 cases h with
 | val nm v f h1 h2=>
   obtain⟨y,hy⟩:=AS (Pj v h2) (QT hE.c.2.2.2 E.tok (qA E.c.attrs nm)) f
   refine⟨y,?_⟩
   unfold fG
   rw[if_neg (show ¬ (2:Int)=1 by decide),if_pos rfl]
   exact hy
 | feat v h=>
   obtain⟨f,hf,e⟩:=Mg hE.c.2.2.2 hE.t0 hE.t1
   have hv:v=⟨#[112]⟩∨v=⟨#[113]⟩:=by simpa [FeatL] using h
   have hfs: (featS.any fun z=> decide (z=f))=true:=List.any_eq_true.2 ⟨f,hf,decide_eq_true rfl⟩
   refine⟨featS.any (fun _=> false) || f.data.toList.any fun c=> decide (v.data.toList= [c]),?_⟩
   unfold fG
   rw[if_neg (show ¬ (3:Int)=1 by decide),if_neg (show ¬ (3:Int)=2 by decide),if_pos rfl]
   simp only[hE.c.1,LU,e]
   unfold EZ
   rw[if_pos ⟨hfs,hv⟩]
   simp
 | same nm l a h1 h2 h3=>
   obtain⟨k,hk⟩: ∃k:Nat,lc E.lb (fun z=> decide (z=l))=(k:Int):=by
    rcases Bh (fun z=> decide (z=l)) E.lb with⟨e,h⟩ | ⟨k,_,e,_⟩
    ·have:=h l h2;simp at this
    ·exact⟨k,e⟩
   have hr:=Bg (fun z=> decide (z=l)) E.lb
   obtain⟨o,ho⟩: ∃o,E.bd[k]?=some o:=⟨E.bd[k]'(by have:=hE.l;omega),List.getElem?_eq_getElem _⟩
   refine⟨decide (0≤o) && decide (nO E.c.toks E.tok (jP E.c.attrs nm)=nO E.c.toks o (jP E.c.attrs a)),?_⟩
   unfold fG
   rw[if_neg (show ¬ (4:Int)=1 by decide),if_neg (show ¬ (4:Int)=2 by decide),if_neg (show ¬ (4:Int)=3 by decide),if_pos rfl]
   simp only[hk]
   rw[if_neg (by omega),show((k:Int)).toNat=k from rfl,ho]
 | reg nm h=> exact⟨_,by unfold fG;rw[if_neg (show ¬ (5:Int)=1 by decide),if_neg (show ¬ (5:Int)=2 by decide),if_neg (show ¬ (5:Int)=3 by decide),if_neg (show ¬ (5:Int)=4 by decide),if_pos rfl]⟩
 | regk nm v h1 h2=> exact⟨_,by unfold fG;rw[if_neg (show ¬ (5:Int)=1 by decide),if_neg (show ¬ (5:Int)=2 by decide),if_neg (show ¬ (5:Int)=3 by decide),if_neg (show ¬ (5:Int)=4 by decide),if_pos rfl]⟩
theorem jk {X:Type} {p q:X→Bool} : ∀ {l:List X},(∀x∈l,p x=q x)→l.any p=l.any q
 | [],_=> rfl
 | x::l,h=> by rw[List.any_cons,List.any_cons,h x (by simp),jk fun y hy=> h y (by simp[hy])]
theorem NC {E:BV} {n:Nat} {k:Cond} {y:Bool} (h:fG E n k=some y):fG E (n+1) ⟨6,E0,E0,E0,E0,false, [k]⟩=some (!y):=by
 unfold fG
 rw[if_neg (show ¬ (6:Int)=1 by decide),if_neg (show ¬ (6:Int)=2 by decide),if_neg (show ¬ (6:Int)=3 by decide),if_neg (show ¬ (6:Int)=4 by decide),if_neg (show ¬ (6:Int)=5 by decide),if_pos rfl]
 simp only[h]
 rfl
theorem EY {E:BV} {n:Nat} {a b:Cond} {p q:Bool} (h1:fG E n a=some p) (h2:fG E n b=some q):fG E (n+1) ⟨7,E0,E0,E0,E0,false, [a,b]⟩=some (p && q):=by
 unfold fG
 rw[if_neg (show ¬ (7:Int)=1 by decide),if_neg (show ¬ (7:Int)=2 by decide),if_neg (show ¬ (7:Int)=3 by decide),if_neg (show ¬ (7:Int)=4 by decide),if_neg (show ¬ (7:Int)=5 by decide),if_neg (show ¬ (7:Int)=6 by decide),if_pos (by simp[h1,h2]),if_pos rfl]
 simp[h1,h2]
theorem J2 {E:BV} {n:Nat} {a b:Cond} {p q:Bool} (h1:fG E n a=some p) (h2:fG E n b=some q):fG E (n+1) ⟨8,E0,E0,E0,E0,false, [a,b]⟩=some (p || q):=by
 unfold fG
 rw[if_neg (show ¬ (8:Int)=1 by decide),if_neg (show ¬ (8:Int)=2 by decide),if_neg (show ¬ (8:Int)=3 by decide),if_neg (show ¬ (8:Int)=4 by decide),if_neg (show ¬ (8:Int)=5 by decide),if_neg (show ¬ (8:Int)=6 by decide),if_pos (by simp[h1,h2]),if_neg (show ¬ (8:Int)=7 by decide)]
 simp[h1,h2]
theorem Rb {E:BV} : ∀ {n:Nat} {x:Cond} {y:Bool},fG E n x=some y→fG E (n+1) x=some y
 | 0,_,_,h=> by cases h
 | n+1,x,y,h=> by
   have ih: ∀k z,fG E n k=some z→fG E (n+1) k=some z:=fun k z=> Rb
   rw[fG] at h
   rw[fG]
   dsimp only at h ⊢
   by_cases e1:x.op=1
   ·rw[if_pos e1] at h ⊢;exact h
   rw[if_neg e1] at h ⊢
   by_cases e2:x.op=2
   ·rw[if_pos e2] at h ⊢;exact h
   rw[if_neg e2] at h ⊢
   by_cases e3:x.op=3
   ·rw[if_pos e3] at h ⊢;exact h
   rw[if_neg e3] at h ⊢
   by_cases e4:x.op=4
   ·rw[if_pos e4] at h ⊢;exact h
   rw[if_neg e4] at h ⊢
   by_cases e5:x.op=5
   ·rw[if_pos e5] at h ⊢;exact h
   rw[if_neg e5] at h ⊢
   by_cases e6:x.op=6
   ·rw[if_pos e6] at h ⊢
    cases hk:x.kids with
    | nil=> rw[hk] at h;cases h
    | cons k ks=>
      rw[hk] at h
      obtain⟨b,hb,rfl⟩:=Option.map_eq_some_iff.1 h
      show(fG E (n+1) k).map not=_
      rw[ih _ _ hb]
      rfl
   rw[if_neg e6] at h ⊢
   split at h
   ·rename_i hall
    have hsame: ∀k∈x.kids,fG E (n+1) k=fG E n k:=fun k hk=> by
     obtain⟨z,hz⟩:=Option.isSome_iff_exists.1 (List.all_eq_true.1 hall k hk)
     rw[ih _ _ hz,hz]
    have hall2: (x.kids.all fun k=> (fG E (n+1) k).isSome)=true:=List.all_eq_true.2 fun k hk=> by rw[hsame k hk];exact List.all_eq_true.1 hall k hk
    have a1: (x.kids.any fun k=> !((fG E (n+1) k).getD false))=x.kids.any fun k=> !((fG E n k).getD false):=jk fun k hk=> by rw[hsame k hk]
    have a2: (x.kids.any fun k=> (fG E (n+1) k).getD false)=x.kids.any fun k=> (fG E n k).getD false:=jk fun k hk=> by rw[hsame k hk]
    rw[if_pos hall2,a1,a2]
    exact h
   ·cases h
theorem Do {E:BV} (hE:wT E): ∀ {n m:Nat} {x:Cond},GI E.lb n x→n < m→ ∃y,fG E m x=some y
 | _,m+1,_, .atom n c h,_=> Rc hE h
 | _,m+1,_, .not n k h,hm=> by
   obtain⟨y,hy⟩:=Do (m:=m) hE h (by omega)
   exact⟨_,NC hy⟩
 | _,m+1,_, .two n op a b ho h1 h2,hm=> by
   obtain⟨p,hp⟩:=Do (m:=m) hE h1 (by omega)
   obtain⟨q,hq⟩:=Do (m:=m) hE h2 (by omega)
   rcases ho with rfl | rfl
   ·exact⟨_,EY hp hq⟩
   ·exact⟨_,J2 hp hq⟩
theorem ND {E:BV} (hE:wT E) {n m:Nat} {x:Cond} (h:GC E.lb n x) (hm:n < m): ∃y,fG E m x=some y:=by
 obtain⟨m,rfl⟩: ∃k,m=k+1:=⟨m -1,by omega⟩
 cases h with
 | any=> exact⟨true,by unfold fG;rw[if_pos rfl]⟩
 | top v f h=>
   have hv:v∈valsA:=(by decide: ∀w∈ValsT,w∈valsA) v h
   obtain⟨y,hy⟩:=AS hv (QT hE.c.2.2.2 E.tok (qA E.c.attrs E0)) f
   refine⟨y,?_⟩
   unfold fG
   rw[if_neg (show ¬ (2:Int)=1 by decide),if_pos rfl]
   exact hy
 | inner c h=> exact Do hE h hm
def Uj:Bool:=Attr2.all fun nm=> ValsI.all fun v=> kR fH [] ⟨2,nm,E0,v,E0,false, []⟩ && kR fH [] ⟨2,nm,E0,v,E0,true, []⟩
theorem Ru:Uj=true:=by kernel_rfl
def Up:Bool:=ValsT.all fun v=> kR fH [] ⟨2,E0,E0,v,E0,false, []⟩ && kR fH [] ⟨2,E0,E0,v,E0,true, []⟩
theorem RA:Up=true:=by kernel_rfl
def Sk:Bool:=FeatL.all fun v=> kR fH [] ⟨3,zW,E0,v,E0,false, []⟩
theorem Ql:Sk=true:=by kernel_rfl
def UI:Bool:=Types.all fun n=> kR fH [] ⟨5,n,E0,E0,E0,false, []⟩ && NumL.all fun v=> kR fH [] ⟨5,n,WI,v,E0,false, []⟩
theorem MS:UI=true:=by kernel_rfl
def ZR:Bool:=Attr2.all fun n=> decide (0≤jP fH n)
theorem Q7:ZR=true:=by kernel_rfl
theorem Gr {lb:List B} {nm v:B} {f:Bool} :kR fH lb ⟨2,nm,E0,v,E0,f, []⟩=kR fH [] ⟨2,nm,E0,v,E0,f, []⟩:=rfl
theorem Lb {lb:List B} {v:B} :kR fH lb ⟨3,zW,E0,v,E0,false, []⟩=kR fH [] ⟨3,zW,E0,v,E0,false, []⟩:=rfl
theorem Gs {lb:List B} {n a v:B} :kR fH lb ⟨5,n,a,v,E0,false, []⟩=kR fH [] ⟨5,n,a,v,E0,false, []⟩:=rfl
theorem JR {lb:List B} {x:Cond} (h:GA lb x):kR fH lb x=true:=by
 cases h with
 | val nm v f h1 h2=>
   rw[Gr]
   have h:=List.all_eq_true.1 (List.all_eq_true.1 Ru nm h1) v h2
   simp only[Bool.and_eq_true] at h
   cases f
   ·exact h.1
   ·exact h.2
 | feat v h=>
   rw[Lb]
   exact List.all_eq_true.1 Ql v h
 | same nm l a h1 h2 h3=>
   have e1:=List.all_eq_true.1 Q7 nm h1
   have e2:=List.all_eq_true.1 Q7 a h3
   have e3: (lb.any fun z=> decide (z=l))=true:=List.any_eq_true.2 ⟨l,h2,decide_eq_true rfl⟩
   have s1:RM ⟨4,nm,a,E0,l,false, []⟩=true:=by
    unfold RM
    rw[if_neg (show ¬ (4:Int)=1 by decide),if_neg (show ¬ (4:Int)=2 by decide),if_neg (show ¬ (4:Int)=3 by decide),if_pos rfl]
    rfl
   have s2:Q8 fH ⟨4,nm,a,E0,l,false, []⟩=true:=by
    unfold Q8
    rw[if_neg (show ¬ (4:Int)=2 by decide),if_neg (show ¬ (4:Int)=3 by decide),if_pos rfl]
    exact decide_eq_true ⟨of_decide_eq_true e1,of_decide_eq_true e2⟩
   have s3:Yu fH lb ⟨4,nm,a,E0,l,false, []⟩=true:=by
    unfold Yu
    rw[if_neg (show ¬ (4:Int)=2 by decide),if_neg (show ¬ (4:Int)=3 by decide),if_pos rfl]
    exact e3
   unfold kR
   rw[s1,s2,s3]
   rfl
 | reg nm h=>
   rw[Gs]
   have h:=List.all_eq_true.1 MS nm h
   simp only[Bool.and_eq_true] at h
   exact h.1
 | regk nm v h1 h2=>
   rw[Gs]
   have h:=List.all_eq_true.1 MS nm h1
   simp only[Bool.and_eq_true] at h
   exact List.all_eq_true.1 h.2 v h2
theorem qm {a:List Attr} {lb:List B} {m:Nat} {x:Cond} (h:kR a lb x=true) (hk:x.kids= []):lF a lb (m+1) x=true:=by
 show(kR a lb x && x.kids.all (lF a lb m))=true
 rw[h,hk];rfl
theorem Db {lb:List B} {m:Nat} {k:Cond} (h:lF fH lb m k=true):lF fH lb (m+1) ⟨6,E0,E0,E0,E0,false, [k]⟩=true:=by
 have e:kR fH lb ⟨6,E0,E0,E0,E0,false, [k]⟩=true:=rfl
 show(kR fH lb ⟨6,E0,E0,E0,E0,false, [k]⟩ && [k].all (lF fH lb m))=true
 rw[e]
 simp[h]
theorem Da {lb:List B} {m:Nat} {op:Int} {a b:Cond} (ho:op=7∨op=8) (h1:lF fH lb m a=true) (h2:lF fH lb m b=true):lF fH lb (m+1) ⟨op,E0,E0,E0,E0,false, [a,b]⟩=true:=by
 have e:kR fH lb ⟨op,E0,E0,E0,E0,false, [a,b]⟩=true:=by rcases ho with rfl | rfl <;> rfl
 show(kR fH lb ⟨op,E0,E0,E0,E0,false, [a,b]⟩ && [a,b].all (lF fH lb m))=true
 rw[e]
 simp[h1,h2]
theorem wc {lb:List B} : ∀ {n m:Nat} {x:Cond},GI lb n x→n < m→lF fH lb m x=true
 | _,m+1,_, .atom n c h,_=> qm (JR h) (wA h)
 | _,m+1,_, .not n k h,hm=> Db (wc h (by omega))
 | _,m+1,_, .two n op a b ho h1 h2,hm=> Da ho (wc h1 (by omega)) (wc h2 (by omega))
theorem PM {k:Cond} {op:Int} :dx ⟨op,E0,E0,E0,E0,false, [k]⟩=dx k+1:=by rw[dx,cU,cU]
theorem PL {a b:Cond} {op:Int} :dx ⟨op,E0,E0,E0,E0,false, [a,b]⟩=dx a+dx b+1:=by rw[dx,cU,cU,cU];omega
theorem Qt {k:Cond} {op:Int} :cA ⟨op,E0,E0,E0,E0,false, [k]⟩=cA k+1:=by rw[cA,fD,fD];omega
theorem Qs {a b:Cond} {op:Int} :cA ⟨op,E0,E0,E0,E0,false, [a,b]⟩=max (cA a) (cA b) +1:=by rw[cA,fD,fD,fD];omega
theorem AZ {x:Cond} (h:x.kids= []):dx x=1∧cA x=1:=by
 rw[mG,zw,h]
 exact⟨rfl,rfl⟩
theorem E5 {lb:List B} : ∀ {n:Nat} {x:Cond},GI lb n x→dx x+1≤2^ (n+1)∧cA x≤n+1
 | _,_, .atom n c h=> by
   have:=AZ (wA h)
   have h2:2^1≤2^ (n+1):=Nat.pow_le_pow_right (by decide) (by omega)
   omega
 | _,_, .not n k h=> by
   have:=E5 h
   rw[PM,Qt,Nat.pow_succ]
   omega
 | _,_, .two n op a b ho h1 h2=> by
   have:=E5 h1
   have:=E5 h2
   rw[PL,Qs,Nat.pow_succ]
   omega
theorem NO {lb:List B} {n:Nat} {x:Cond} (h:GC lb n x):dx x+1≤2^ (n+1)∧cA x≤n+1:=by
 have h2:2^1≤2^ (n+1):=Nat.pow_le_pow_right (by decide) (by omega)
 cases h with
 | any=> have:=AZ (x:=⟨1,E0,E0,E0,E0,false, []⟩) rfl;omega
 | top v f h=> have:=AZ (x:=⟨2,E0,E0,v,E0,f, []⟩) rfl;omega
 | inner c h=> exact E5 h
theorem AO {lb:List B} {n m:Nat} {x:Cond} (h:GC lb n x) (hm:n < m):lF fH lb m x=true:=by
 obtain⟨m,rfl⟩: ∃k,m=k+1:=⟨m -1,by omega⟩
 cases h with
 | any=> exact qm rfl rfl
 | top v f h=>
   refine qm ?_ rfl
   have h:=List.all_eq_true.1 RA v h
   simp only[Bool.and_eq_true] at h
   rw[Gr]
   cases f
   ·exact h.1
   ·exact h.2
 | inner c h=> exact wc h hm
theorem M4 {a:List Attr} {lb:List B} {x:Cond} (h1:dx x≤60) (h2:cA x≤20) (h3:lF a lb 20 x=true):LZ a lb x=true:=by
 unfold LZ
 rw[decide_eq_true ⟨h1,h2⟩,h3]
 rfl
theorem RZ {lb:List B} {n:Nat} {x:Cond} (h:GC lb n x) (hn:n≤4):LZ fH lb x=true:=by
 obtain⟨h1,h2⟩:=NO h
 have h3:2^ (n+1)≤2^5:=Nat.pow_le_pow_right (by decide) (by omega)
 exact M4 (by omega) (by omega) (AO h (by omega))
end Go.Gv
