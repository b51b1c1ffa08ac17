/- A part of the framework and of the walks: C60 V56 W161 W162 V4 V11 V6 V7 V8 V12 V13 C2 W2 W31 V15 V16 T24 V18 V19 V58 W146 C59. -/
import Derived.Test.YticbieanhfdnoaaGreatDoorGa18
import Derived.Test.YticbieanhfdnoaaGreatDoorGa33
import Derived.Test.YticbieanhfdnoaaGreatDoorGa23
import Derived.Test.YticbieanhfdnoaaGreatDoorGa26
import Derived.Test.YticbieanhfdnoaaGreatDoorGa25
import Derived.Test.YticbieanhfdnoaaGreatDoorGa20
import Derived.Test.YticbieanhfdnoaaGreatDoorGa19
import Derived.Test.YticbieanhfdnoaaGreatDoorGa16
import Derived.Test.YticbieanhfdnoaaGreatDoorGa27
import Derived.Test.YticbieanhfdnoaaGreatDoorGa32
set_option linter.unusedSimpArgs false
set_option linter.unusedVariables false
set_option maxRecDepth 100000
set_option linter.unusedSectionVars false

namespace Go.Gv
open Go.Proofs
def mw:CC:=oX [oB 0 (.mv (.const ob))] [] [] (oX [oZ 6 eY [],oB 7 (.build [oi,oe,oe,oe,oe,ob,on] [(0,1,oN 2),(3,1,oS ⟨#[111,46,42]⟩)]),oZ 8 da [oT 6,oT 7],oA 5 8,oB 9 (.ext (oT 5) 0),oB 10 (.ext (oT 5) 1),oA 1 9,oA 2 10] [1,2] [] (oX [oZ 12 eY [],
 oB 13 (.build [oi,oe,oe,oe,oe,ob,on] [(0,1,oN 4),(1,1,oS ⟨#[119,111,114,100]⟩),(4,1,oS ⟨#[97]⟩),(2,1,oS ⟨#[119,111,114,100]⟩)]),oB 14 (.build [oi,oe,oe,oe,oe,ob,on] [(0,1,oN 2),(1,1,oS ⟨#[112,111,115]⟩),(3,1,oS ⟨#[78]⟩)]),oB 15 (.bslice bA 7 [oT 13,oT 14]),oB 16 (.build [oi,oe,oe,oe,oe,ob,on] [(0,1,oN 8),(6,1,oT 15)]),oZ 17 da [oT 12,oT 16],oA 11 17,
 oB 18 (.ext (oT 11) 0),oB 19 (.ext (oT 11) 1),oA 3 18,oA 4 19] [1,2,3,4] [] (oX [oA 20 2,oB 21 (.eql false false [.int] (oT 20) (oN 0)),oA 22 21,oH 23 22 (.mv (oT 4)),oH 24 22 (.eql false false [.int] (oT 23) (oN 0)),oB 25 (.pick (oT 22) (oT 24) (.const ob)),oA 26 25,oH 27 26 (.mv (oT 1)),oH 28 26 (.bslice bT 1 [oN 1]),oH 29 26 (.call j9 [oT 27,oT 28]),
 oB 30 (.pick (oT 26) (oT 29) (.const ob)),oA 31 30,oH 32 31 (.mv (oT 3)),oH 33 31 (.bslice bT 1 [oN 0,oN 1,oN 2]),oH 34 31 (.call j9 [oT 32,oT 33]),oB 35 (.pick (oT 31) (oT 34) (.const ob)),oA 0 35] [0] [] (.ret))))
def l7:List au:= [.tmp 0]
def ze:List Nat:= []
theorem yL:ay Tryz.prog iw ze mw l7 36:=ak mixed (by kernel_rfl)
def lz:CC:=oX [oB 0 (.alloc aW [on,on,on,on,on,on,on])] [0] [0] (oX [oB 1 (.build [oe,ob] [(0,1,oS ⟨#[119,111,114,100]⟩)]),oB 2 (.build [oe,ob] [(0,1,oS ⟨#[112,111,115]⟩)]),oB 3 (.bslice dE 2 [oT 1,oT 2]),oB 4 (.bslice ar 1 [oS ⟨#[116,104,101]⟩,oS ⟨#[68]⟩]),oB 5 (.bslice ar 1 [oS ⟨#[111,108,100]⟩,oS ⟨#[65]⟩]),
 oB 6 (.bslice ar 1 [oS ⟨#[109,97,110]⟩,oS ⟨#[78]⟩]),oB 7 (.bslice df 1 [oT 4,oT 5,oT 6]),oB 8 (.build [oe,oi,oi,on] [(0,1,oS ⟨#[116]⟩),(2,1,oN 3)]),oB 9 (.bslice eK 4 [oT 8]),oB 10 (.build [on,on,on,on,on,on,on] [(0,1,oT 3),(1,1,oT 7),(2,1,oT 9)]),oF 7 0 10] [0] [0] (.ret))
def lg:List au:= [.cell 0 true 7]
def xi:List Nat:= []
theorem w8:ay Tryz.prog eY xi lz lg 11:=ak mixed (by kernel_rfl)
def lw:CC:=oX [oB 0 (.mv (.const on))] [] [] (oX [oB 1 (.bslice ar 1 [oS ⟨#[120]⟩,oS ⟨#[121]⟩]),oA 0 1] [0] [] (.ret))
def ld:List au:= [.tmp 0]
def xh:List Nat:= []
theorem w7:ay Tryz.prog eX xh lw ld 2:=ak mixed (by kernel_rfl)
-- r22_Ints range i=13 n=12 c=14 i2=25 id=0: live [0:a, 1:b] changed [] res []
def mT:CC:=oX [oB 4 (.mv (.const ob))] [0,1] [] (.seq (oX [oA 6 0,oB 7 (.len (oT 6)),oA 8 1,oB 9 (.len (oT 8)),oB 10 (.eql true false [.int] (oT 7) (oT 9))] [0,1,10] [] (.ite (oT 10) (oX [oB 4 (.mv (.const ob))] [4] [] (.ret)) (.skip))) (.keep [0,1] [] (.seq (oX [oA 11 0,oB 12 (.len (oT 11)),oB 13 (.mv (oN 0))] [0,1,12,13] [] (ax 0 13 12 14 1 (oX [oA 15 13,
 oA 5 15] [0,1,5,12,13] [] (.seq (.regd [oA 16 0,oA 17 5,oB 18 (.iaddr 1 (oT 16) (oT 17)),oC 19 1 18,oA 20 1,oA 21 5,oB 22 (.iaddr 1 (oT 20) (oT 21)),oC 23 1 22] [oB 24 (.eql true false [.int] (oT 19) (oT 23))]) (.keep [0,1,12,13,24] [] (.ite (oT 24) (oX [oB 4 (.mv (.const ob))] [4] [] (.ret)) (.skip))))) 25)) (.keep [] [] (oX [oB 4 (.mv (.const (.bool true)))] [4] [] (.ret))))))
def mQ:List au:= [.tmp 4]
def DY:List Nat:= []
theorem DK:ay Tryz.prog j9 DY mT mQ 26:=ak mixed (by kernel_rfl)
def eb:CC:=oX [oB 4 (.mv (.const ob))] [0,1] [] (oX [oA 7 0,oZ 8 uY [oT 7],oZ 9 fQ [oT 8,oN 5],oB 5 (.alloc aW [on,on,on,on,on,on,on]),oF 7 5 9] [1,5] [5] (oX [oA 10 1,oE 11 1 5,oC 12 1 11,oB 13 (.len (oT 12)),oZ 14 gS [oT 10,oT 13],oA 1 14] [1,5] [5] (oX [
 oB 15 (.build [oi,oe,oe,oe,oe,ob,on] [(0,1,oN 4),(1,1,oS ⟨#[119,111,114,100]⟩),(4,1,oS ⟨#[120]⟩),(2,1,oS ⟨#[119,111,114,100]⟩)]),oB 6 (.alloc bA [oi,oe,oe,oe,oe,ob,on]),oF 7 6 15] [1,5,6] [5,6] (.seq (.regd [oD 16 7 5,oD 17 7 6,oA 18 1,oZ 19 eX [],oA 20 1,oB 21 (.bslice bT 1 [oN (-1),oT 20]),oZ 22 dw [oT 16,oT 17,oT 18,oT 19,oT 21],
 oB 23 (.not (oT 22)),oA 24 23,oH 25 24 (.load true 7 (oT 5)),oH 26 24 (.load true 7 (oT 6)),oH 27 24 (.mv (oT 1)),oH 28 24 (.call eX []),oH 29 24 (.mv (oT 1)),oH 30 24 (.bslice bT 1 [oT 29,oN (-1)])] [oH 31 24 (.call dw [oT 25,oT 26,oT 27,oT 28,oT 30]),oB 32 (.pick (oT 24) (oT 31) (.const ob)),oA 33 32,oH 34 33 (.call iw []),
 oB 35 (.pick (oT 33) (oT 34) (.const ob)),oA 4 35]) (.keep [4] [] (.ret))))))
def d6:List au:= [.tmp 4]
def mK:List Nat:= []
theorem mH:ay Tryz.prog ix mK eb d6 36:=ak mixed (by kernel_rfl)
end Go.Gv

namespace Go.Gv
open Go.Proofs
end Go.Gv

namespace Go.Gv
open Go.Proofs
open Cod (enc dec)
variable {S S0:Nat→Spc}
theorem Me {H0 H:aa} (hh: ∀i,H0 i=none) {d d':D} (h:FrzTo H0 d d'):FrzTo H d d':=by
 induction h with
 | same d=> exact .same d
 | any d=> exact .any d
 | nil n=> exact .nil n
 | own i j x=> exact .own i j x
 | nilown j=> exact .nilown j
 | bptr i j b off=> exact .bptr i j b off
 | row h _ _ _ _=> rw[hh] at h;cases h
 | sub h _ _ _ _=> rw[hh] at h;cases h
 | list hl hk _ ih=> exact .list hl hk ih
 | box h=> rw[hh] at h;cases h
 | agg hl _ ih=> exact .agg hl ih
 | tup hl _ ih=> exact .tup hl ih
theorem Md {H:aa} {d d':D} (h:FrzTo de d d'):FrzTo H d d':=Me (fun _=> rfl) h
def exC:Corpus:=⟨[⟨⟨#[119,111,114,100]⟩,false⟩,⟨⟨#[112,111,115]⟩,false⟩], [[⟨#[116,104,101]⟩,⟨#[68]⟩], [⟨#[111,108,100]⟩,⟨#[65]⟩], [⟨#[109,97,110]⟩,⟨#[78]⟩]], [⟨⟨#[116]⟩,0,3, []⟩], [], [], [], []⟩
abbrev Jm:Spc:=cF a0 (fun _=> True) (enc (X:=Corpus)) fun _ y=> y=exC
theorem xK:aO lz lg S a0 (fun _=> True) (enc (X:=Corpus)) fun _ y=> y=exC:=by
 rintro⟨⟩ -
 simp[lz,lg, -Bool.forall_bool, -Bool.exists_bool]
 intro b
 refine d7 exC ?_ rfl
 have h: ∀d,dec (X:=Corpus) d=some exC→ ∀H,FrzTo H d (enc exC):=fun d hd H=> by
  have:=Cod.le (X:=Corpus) d exC hd
  exact Md this
 exact h _ (by simp[exC]) _
def Mj:Cond:=⟨2,ga,ga,⟨#[111,46,42]⟩,ga,false, []⟩
def Mi:Cond:=⟨8,ga,ga,ga,ga,false, [⟨4,⟨#[119,111,114,100]⟩,⟨#[119,111,114,100]⟩,ga,⟨#[97]⟩,false, []⟩,⟨2,⟨#[112,111,115]⟩,ga,⟨#[78]⟩,ga,false, []⟩]⟩
theorem Uz:Fu exC Mj= [1]:=by kernel_rfl
theorem Uy:Fu exC Mi= [0,1,2]:=by kernel_rfl
theorem UP: (LS exC.attrs [] (jt Mj) && (List.range 3).all fun i=> (r8 ⟨exC,(i:Int), [], []⟩ 21 (jt Mj)).isSome)=true:=by kernel_rfl
theorem UO: (LS exC.attrs [] (jt Mi) && (List.range 3).all fun i=> (r8 ⟨exC,(i:Int), [], []⟩ 21 (jt Mi)).isSome)=true:=by kernel_rfl
theorem qb9:MO exC:=⟨by decide,by decide,by decide⟩
theorem Jh {x:Cond} (h1:kD x≤60) (h2:fL x≤60) (h: (LS exC.attrs [] (jt x) && (List.range 3).all fun i=> (r8 ⟨exC,(i:Int), [], []⟩ 21 (jt x)).isSome)=true):ET (exC,x):=by
 simp only[Bool.and_eq_true] at h
 exact⟨qb9,h1,h2,h.1,fun i hi=> Option.isSome_iff_exists.1 (List.all_eq_true.1 h.2 i (List.mem_range.2 hi))⟩
def uf (a b:List Int):Bool:=decide (a=b)
abbrev FM:Spc:=cF (a2 (List Int) (List Int)) (fun x=> x.1.length≤100000∧x.2.length≤100000) (enc (X:=Bool)) fun x y=> y=uf x.1 x.2
theorem E4:aO mT mQ S (a2 (List Int) (List Int)) (fun x=> x.1.length≤100000∧x.2.length≤100000) (enc (X:=Bool)) fun x y=> y=uf x.1 x.2:=by
 rintro⟨a,b⟩ ⟨la,lb⟩
 simp only at la lb
 have la': (a.length:Int)≤9223372036854775807:=by omega
 have lb': (b.length:Int)≤9223372036854775807:=by omega
 by_cases hl:a.length=b.length
 ·have hli: (a.length:Int)=b.length:=by omega
  simp[mT,mQ,la',lb',hl,hli, -Bool.forall_bool, -Bool.exists_bool]
  refine aq (X:=Unit) [0,1] [] b.length (fun k _=> a.take k=b.take k) (fun _=> []) (fun _=> []) () (by simp) (by simp) (by omega) (by simp) (by simp) (by simp) (by simp) (by simp) ?_ ?_
  ·rintro k -hk hP
   have hka:k < a.length:=by omega
   obtain⟨x,hx⟩:=kj hka
   obtain⟨y,hy⟩:=kj hk
   obtain⟨_,hgx⟩:=List.getElem?_eq_some_iff.1 hx
   obtain⟨_,hgy⟩:=List.getElem?_eq_some_iff.1 hy
   have hab:uf a b=decide (a=b):=rfl
   by_cases hxy:x=y
   ·subst hxy
    simp[hk,hka,hx,hy,hgx,hgy, -Bool.forall_bool, -Bool.exists_bool]
    rw[ed hx,ed hy,hP]
   ·have hne:uf a b=false:=by
     unfold uf
     rw[decide_eq_false_iff_not]
     intro e
     subst e
     rw[hx] at hy
     exact hxy (Option.some.inj hy)
    simp[hk,hka,hx,hy,hgx,hgy,hxy,hne, -Bool.forall_bool, -Bool.exists_bool]
  ·rintro -hP
   rw[←hl,List.take_length,hl,List.take_length] at hP
   have he:uf a b=true:=decide_eq_true hP
   simp[he, -Bool.forall_bool, -Bool.exists_bool]
 ·have hli: ¬ (a.length:Int)=b.length:=by omega
  have hne:uf a b=false:=by
   unfold uf
   rw[decide_eq_false_iff_not]
   intro e
   exact hl (by rw[e])
  simp[mT,mQ,la',lb',hl,hli,hne, -Bool.forall_bool, -Bool.exists_bool]
abbrev vE:Spc:=cF a0 (fun _=> True) (enc (X:=Bool)) fun _ y=> y=true
theorem Hw (h1:S eY=Jm) (h2:S da=Jn) (h3:S j9=FM):aO mw l7 S a0 (fun _=> True) (enc (X:=Bool)) fun _ y=> y=true:=by
 rintro⟨⟩ -
 have p1:ET (exC,⟨2,⟨#[]⟩,⟨#[]⟩,⟨#[111,46,42]⟩,⟨#[]⟩,false, []⟩):=Jh (x:=Mj) (by decide) (by decide) UP
 have p2:ET (exC,⟨8,⟨#[]⟩,⟨#[]⟩,⟨#[]⟩,⟨#[]⟩,false, [⟨4,⟨#[119,111,114,100]⟩,⟨#[119,111,114,100]⟩,⟨#[]⟩,⟨#[97]⟩,false, []⟩,⟨2,⟨#[112,111,115]⟩,⟨#[]⟩,⟨#[78]⟩,⟨#[]⟩,false, []⟩]⟩):=Jh (x:=Mi) (by decide) (by decide) UO
 have e1:Fu exC ⟨2,⟨#[]⟩,⟨#[]⟩,⟨#[111,46,42]⟩,⟨#[]⟩,false, []⟩= [1]:=Uz
 have e2:Fu exC ⟨8,⟨#[]⟩,⟨#[]⟩,⟨#[]⟩,⟨#[]⟩,false, [⟨4,⟨#[119,111,114,100]⟩,⟨#[119,111,114,100]⟩,⟨#[]⟩,⟨#[97]⟩,false, []⟩,⟨2,⟨#[112,111,115]⟩,⟨#[]⟩,⟨#[78]⟩,⟨#[]⟩,false, []⟩]⟩= [0,1,2]:=Uy
 simp[mw,l7,h1,h2,h3,p1,p2,e1,e2,uf, -Bool.forall_bool, -Bool.exists_bool]
end Go.Gv

namespace Go.Gv
open Go.Proofs
open Cod (enc dec)
variable {S S0:Nat→Spc}
def lbs2:List B:= [⟨#[120]⟩,⟨#[121]⟩]
abbrev yg:Spc:=cF a0 (fun _=> True) (enc (X:=List B)) fun _ y=> y=lbs2
theorem xJ:aO lw ld S a0 (fun _=> True) (enc (X:=List B)) fun _ y=> y=lbs2:=by
 rintro⟨⟩ -
 simp[lw,ld,lbs2, -Bool.forall_bool, -Bool.exists_bool]
 exact d7 _ (.same _) rfl
def OkCorp (c:Corpus):Prop:=c.attrs=KQ∧1≤c.toks.length∧c.toks.length≤4096∧ ∀r∈c.toks,zH r
theorem OkCorp.sz {c:Corpus} (h:OkCorp c):MO c:=by
 obtain⟨h1,h2,h3,h4⟩:=h
 refine⟨by omega,fun r hr=> ?_,by rw[h1];decide⟩
 obtain⟨w,t,f,_,_,_,rfl⟩:=h4 r hr
 simp
theorem EC: ∀ {l:List rp} {s e:Int},sf s l e→s≤e
 | [],s,e,h=> by have h:s=e:=h;omega
 | a::l,s,e,h=> by have:=EC h.2.2;have:=h.1;have:=h.2.1;omega
theorem NH {c:Corpus} (h:EY c) (hk:CV c):OkCorp c:=by
 obtain⟨h1,h2,h3,_⟩:=h
 refine⟨hk.1,?_,h3,hk.2⟩
 cases hl:c.texts with
 | nil=> exact absurd hl h2
 | cons a l=>
   rw[hl] at h1
   have:=EC h1.2.2
   have:=h1.1
   have:=h1.2.1
   omega
def xSame:Cond:=⟨4,⟨#[119,111,114,100]⟩,⟨#[119,111,114,100]⟩,ga,⟨#[120]⟩,false, []⟩
theorem LJ:LS KQ lbs2 xSame=true:=by kernel_rfl
theorem M0:jS lbs2 (fun z=> decide (z=xSame.lab))=0:=by kernel_rfl
theorem GS {E:OB} {n:Nat} {x:Cond} {o:Int} (h:x.op=4) (hj:jS E.lb (fun z=> decide (z=x.lab))=0) (ho:E.bd[0]?=some o):r8 E (n+1) x=some (decide (0≤o) && decide (pG E.c.toks E.tok (jV E.c.attrs x.name)=pG E.c.toks o (jV E.c.attrs x.arg))):=by
 unfold r8
 rw[if_neg (by rw[h];decide),if_neg (by rw[h];decide),if_neg (by rw[h];decide),if_pos h]
 simp only[hj]
 simp[ho]
theorem IV (c:Corpus) (i:Int):r8 ⟨c,i,lbs2, [-1,i]⟩ 21 xSame=some false:=by
 rw[GS (o:= -1) rfl M0 rfl]
 rfl
theorem GH (c:Corpus) {i:Int} (hi:0≤i):r8 ⟨c,i,lbs2, [i, -1]⟩ 21 xSame=some true:=by
 rw[GS (o:=i) rfl M0 rfl]
 have e:xSame.name=xSame.arg:=rfl
 rw[e]
 simp[hi]
theorem Lx {c:Corpus} (h:OkCorp c) {i:Int} (h0:0≤i) (h1:i < c.toks.length):MH (c,xSame,i,lbs2, [-1,i])∧MH (c,xSame,i,lbs2, [i, -1]):=by
 have hok:LS c.attrs lbs2 xSame=true:=by rw[h.1];exact LJ
 refine⟨⟨h.sz,hok,h0,h1,rfl,(by decide:lbs2.length≤1000),fun b hb=> ?_,_,IV c i⟩,⟨h.sz,hok,h0,h1,rfl,(by decide:lbs2.length≤1000),fun b hb=> ?_,_,GH c h0⟩⟩
 ·simp at hb
  rcases hb with rfl | rfl
  ·exact⟨Int.le_refl _,by show(-1:Int) < (c.toks.length:Int);omega⟩
  ·exact⟨by omega,h1⟩
 ·simp at hb
  rcases hb with rfl | rfl
  ·exact⟨by omega,h1⟩
  ·exact⟨Int.le_refl _,by show(-1:Int) < (c.toks.length:Int);omega⟩
end Go.Gv

namespace Go.Gv
end Go.Gv

namespace Go.Gv
end Go.Gv

namespace Go.Gv
open Cod (enc dec)
structure ru where
 op:Int
 a:B
 b:B
 name:B
 arg:B
 val:B
 fold:Bool
 mn:Int
 mx:Int
 args:List B
 kids:List ru
mutual
def CB:ru→D
 | .mk p0 p1 p2 p3 p4 p5 p6 p7 p8 p9 ks=> .agg [enc p0,enc p1,enc p2,enc p3,enc p4,enc p5,enc p6,enc p7,enc p8,enc p9, .list 11 (q9 ks)]
def q9:List ru→List D
 | []=> []
 | k::ks=> CB k::q9 ks
end
mutual
def It:D→Option ru
 | .agg [x0,x1,x2,x3,x4,x5,x6,x7,x8,x9,x10]=> (dec x0).bind fun p0=> (dec x1).bind fun p1=> (dec x2).bind fun p2=> (dec x3).bind fun p3=> (dec x4).bind fun p4=> (dec x5).bind fun p5=> (dec x6).bind fun p6=> (dec x7).bind fun p7=> (dec x8).bind fun p8=> (dec x9).bind fun p9=> (Ba x10).bind fun ks=> some (.mk p0 p1 p2 p3 p4 p5 p6 p7 p8 p9 ks)
 | _=> none
def Ba:D→Option (List ru)
 | .list n es=> if n=11 then wH es else none
 | .v (.slice none 0 0)=> some []
 | _=> none
def wH:List D→Option (List ru)
 | []=> some []
 | d::ds=> (It d).bind fun x=> (wH ds).bind fun xs=> some (x::xs)
end
theorem A4: ∀l:List ru,q9 l=l.map CB
 | []=> rfl
 | _::l=> by rw[q9,A4 l];rfl
theorem G1: ∀c:ru,(CB c).kn=true
 | .mk .. => rfl
theorem El: ∀c:ru,(CB c).cells.length=11
 | .mk .. => rfl
mutual
theorem Ey: ∀c:ru,It (CB c)=some c
 | .mk p0 p1 p2 p3 p4 p5 p6 p7 p8 p9 ks=> by
   have h:Ba (.list 11 (q9 ks))=some ks:=by rw[Ba,if_pos rfl];exact A9 ks
   simp only[CB,It,Cod.dec_enc,Option.bind_some,h]
theorem A9: ∀l:List ru,wH (q9 l)=some l
 | []=> by simp only[q9,wH]
 | c::l=> by simp only[q9,wH,Ey c,A9 l,Option.bind_some]
end
mutual
theorem G6: ∀ (d:D) (c:ru),It d=some c→FrzTo de d (CB c)
 | .agg [x0,x1,x2,x3,x4,x5,x6,x7,x8,x9,x10],c,h=> by
   simp only[It,Option.bind_eq_some_iff,Option.some.injEq] at h
   obtain⟨p0,h0,p1,h1,p2,h2,p3,h3,p4,h4,p5,h5,p6,h6,p7,h7,p8,h8,p9,h9,ks,hk,rfl⟩:=h
   rw[CB]
   exact LeL.agg (.cons (Cod.le _ _ h0) (.cons (Cod.le _ _ h1) (.cons (Cod.le _ _ h2) (.cons (Cod.le _ _ h3) (.cons (Cod.le _ _ h4) (.cons (Cod.le _ _ h5) (.cons (Cod.le _ _ h6) (.cons (Cod.le _ _ h7) (.cons (Cod.le _ _ h8) (.cons (Cod.le _ _ h9) ((.cons (KF x10 ks hk) .nil))))))))))))
theorem KF: ∀ (d:D) (l:List ru),Ba d=some l→FrzTo de d (.list 11 (q9 l))
 | .list n es,l,h=> by
   simp only[Ba] at h
   split at h
   ·rename_i hn
    subst hn
    have hl:=Ew es l h
    refine .list hl.1 (fun e he=> ?_) hl.2
    rw[A4] at he
    obtain⟨x,hx,rfl⟩:=List.mem_map.1 he
    exact⟨G1 x,El x⟩
   ·cases h
 | .v (.slice none 0 0),l,h=> by
   simp only[Ba,Option.some.injEq] at h
   subst h
   exact .nil _
theorem Ew: ∀ (es:List D) (l:List ru),wH es=some l→LeL es (q9 l)
 | [],l,h=> by
   simp only[wH,Option.some.injEq] at h
   subst h
   exact .nil
 | d::ds,l,h=> by
   simp only[wH,Option.bind_eq_some_iff,Option.some.injEq] at h
   obtain⟨x,h1,xs,h2,rfl⟩:=h
   rw[q9]
   exact .cons (G6 d x h1) (Ew ds xs h2)
end
instance:Cod ru where
 wd:=11
 enc:=CB
 dec:=It
 kn:=G1
 wid:=El
 dec_enc:=Ey
 le:=G6
end Go.Gv

namespace Go.Gv
open Cod (enc dec)
structure qbZ where
 kind:Int
 text:B
 pos:Int
instance:Cod qbZ where
 wd:=3
 enc t:= .agg [.v (.int .u8 t.kind),enc t.text,enc t.pos]
 dec | .agg [.v (.int .u8 k),x1,x2]=> (dec x1).bind fun b=> (dec x2).bind fun c=> some ⟨k,b,c⟩ | _=> none
 kn _:=rfl
 wid _:=rfl
 dec_enc f:=by simp only[Cod.dec_enc,Option.bind_some]
 le d x h:=by
  split at h
  ·simp only[Option.bind_eq_some_iff,Option.some.injEq] at h
   obtain⟨b,h1,c,h2,rfl⟩:=h
   exact LeL.agg (.cons (.same _) (.cons (Cod.le _ _ h1) (.cons (Cod.le _ _ h2) .nil)))
  ·cases h
structure Pst where
 l:List qbZ
 pos:Int
 deep:Int
 e:Int
 fail:Int
def Pst.step (s:Pst):Pst:= { s with pos:=s.pos+1 }
section
variable (A:Pst→Option (Pst×CT))
end
end Go.Gv

namespace Go.Gv
end Go.Gv

namespace Go.Gv
open Cod (enc dec)
section
variable (N:Pst→Option (Pst×Cond)) (O:Pst→Option (Pst×Cond))
end
section
variable (A:Pst→Option (Pst×CT)) (O:Pst→Option (Pst×Cond))
end
section
variable (N:Pst→Option (Pst×ru)) (O:Pst→Option (Pst×ru))
end
end Go.Gv

namespace Go.Gv
end Go.Gv

namespace Go.Gv
open Go.Proofs
-- markup_ValidName range i=20 n=19 c=21 i2=28 id=0: live [0:s] changed [] res []
-- r22_Same range i=58 n=57 c=59 i2=73 id=0: live [2:a, 3:b] changed [] res []
end Go.Gv

namespace Go.Gv
open Cod (enc dec)
variable {S S0:Nat→Spc}
end Go.Gv

namespace Go.Gv
open Cod (enc dec)
variable {S S0:Nat→Spc}
end Go.Gv

namespace Go.Gv
end Go.Gv

namespace Go.Gv
open Cod (enc dec)
end Go.Gv

namespace Go.Gv
open Cod (enc dec)
structure M6 where
 txt:B
 fin:Int
 kind:Int
 text:B
 pos:Int
section
variable {Y Z:Type}
variable {P:Program} {S:Nat→Spc} {f:Nat} {im:List Nat} {cc:CC} {rs:List au} {N:Nat}
end
section
variable {Y Z:Type}
variable {P:Program} {S:Nat→Spc} {f:Nat} {im:List Nat} {cc:CC} {rs:List au} {N:Nat}
end
end Go.Gv

namespace Go.Gv
section
variable (N:M6→Option (M6×Cond)) (O:M6→Option (M6×Cond))
end
section
variable (A:M6→Bool→Option (M6×CT)) (O:M6→Option (M6×Cond))
end
end Go.Gv

namespace Go.Gv
def NS (l:List B) (x:B):Bool:=l.any fun z=> decide (z=x)
theorem D5 (l:List B) (x:B):NS l x=true↔x∈l:=by
 unfold NS
 rw[List.any_eq_true]
 exact⟨fun⟨z,h1,h2⟩=> by rw[decide_eq_true_eq] at h2;rwa [←h2],fun h=> ⟨x,h,decide_eq_true rfl⟩⟩
instance decMem (l:List B) (x:B):Decidable (x∈l):=if h:NS l x=true then .isTrue ((D5 l x).1 h) else .isFalse fun hx=> h ((D5 l x).2 hx)
end Go.Gv

namespace Go.Gv
open Go.Proofs
end Go.Gv

namespace Go.Gv
open Cod (enc dec)
variable {S S0:Nat→Spc}
def gP (c:Int):B:=⟨#[c.toNat.toUInt8]⟩
abbrev s_cpFold1:Spc:=cF (a1 B) (fun s=> ∃c:Int,0≤c∧c < 128∧s=gP c) (enc (X:=B)) fun s y=> ∀c:Int,0≤c→c < 128→s=gP c→y=gP (low c)
theorem CA {c:Int} (h0:0≤c) (h1:c < 128):Utf8.encode c=gP c:=by
 unfold Utf8.encode gP
 have e:c.toNat < 128:=by omega
 have h:Utf8.valid c=true:=by
  unfold Utf8.valid
  have:c < 55296:=by omega
  simp[h0,this]
 simp[e,h]
theorem Ce {c:Int} (h0:0≤c) (h1:c < 128):0≤low c∧low c < 128:=by unfold low;split <;> omega
theorem GK {c d:Int} (hc:0≤c) (hc':c < 128) (hd:0≤d) (hd':d < 128) (h:gP c=gP d):c=d:=by
 have:c.toNat.toUInt8=d.toNat.toUInt8:=by
  have:=congrArg (fun b:B=> b.data.toList.head?) h
  simpa [gP] using this
 have:=congrArg UInt8.toNat this
 have e1:c.toNat.toUInt8.toNat=c.toNat % 256:=UInt8.toNat_ofNat' ..
 have e2:d.toNat.toUInt8.toNat=d.toNat % 256:=UInt8.toNat_ofNat' ..
 omega
theorem NG {c d:Int} (hc:0≤c) (hc':c < 128) (hd:0≤d) (hd':d < 128): (gP c=gP d)=(c=d):=propext ⟨GK hc hc' hd hd',fun h=> by rw[h]⟩
theorem E1 (h1:S dM=s_cpFold1):aO jE jf S (a1 I32) (fun c=> 0≤c.val∧c.val < 128) (enc (X:=List I32)) fun c y=> y=Fb true c:=by
 rintro⟨c⟩ ⟨c0,c1⟩
 have c0:0≤c:=c0
 have c1:c < 128:=c1
 obtain⟨l0,l1⟩:=Ce c0 c1
 have hP: ∃d:Int,0≤d∧d < 128∧gP c=gP d:=⟨c,c0,c1,rfl⟩
 simp[jE,jf,h1,CA c0 c1,hP, -Bool.forall_bool, -Bool.exists_bool]
 intro y hy b
 obtain rfl:=hy c c0 c1 rfl
 clear hy
 obtain⟨r,hr⟩: ∃r,r=low c:=⟨_,rfl⟩
 rw[←hr] at l0 l1 ⊢
 have hsz: (gP r).size=1:=rfl
 have hdec:Utf8.decode (gP r) 0=(r.toNat,1):=by
  have h0:0 < (gP r).size:=by rw[hsz];omega
  have e1: ((gP r)[0]'h0).toNat=r.toNat % 256:=UInt8.toNat_ofNat' ..
  have e2: ((gP r)[0]'h0).toNat=r.toNat:=by omega
  rw[Go.decode_ascii (gP r) 0 h0 (by omega),e2]
 refine bg (X:=Nat×Value×List I32) [4,13] [] (fun z=> z.1=0∧z.2.1= .slice none 0 0∧z.2.2= []∨z.1=1∧z.2.2=zj ⟨c⟩) (fun z=> [(3, .own 40 z.2.1)]) (fun z=> [(13, .iter b (gP r) z.1),(40, .row z.2.1 lS 1 (z.2.2.map enc))]) (fun z=> 1 -z.1) (0, .slice none 0 0, []) (.inl ⟨rfl,rfl,rfl⟩) (by simp) (by simp[isNilRow]) ?_
 rintro⟨pos,v,l⟩ hz
 simp only at hz
 rcases hz with⟨rfl,rfl,rfl⟩ | ⟨rfl,rfl⟩
 ·have hrn: ((r.toNat:Nat):Int)=r:=by omega
  have i1:InR .i32 (r -32):=by simp only[InR];omega
  have i2:InR .i32 (r -80):=by simp only[InR];omega
  simp[hsz,hdec,hrn,i1,i2, -Bool.forall_bool, -Bool.exists_bool]
  have hfo: ∀l:List I32,l=([⟨r⟩,⟨r -32⟩,⟨r -80⟩]:List I32).filter (fun v=> decide (0≤v.val∧low v.val=r))→l=zj ⟨c⟩:=fun l hl=> by
   rw[hl,zj]
   simp only[←hr]
  refine aq (X:=Value×List I32) [4,13,22] [13] 3 (fun k z=> z.2=(([⟨r⟩,⟨r -32⟩,⟨r -80⟩]:List I32).take k).filter (fun v=> decide (0≤v.val∧low v.val=r))∧z.2.length≤k) (fun z=> [(3, .own 40 z.1)]) (fun z=> [(40, .row z.1 lS 1 (z.2.map enc))]) (.slice none 0 0, []) (by simp) (by simp) (by omega) (by simp) (by simp) ⟨rfl,by simp⟩ (by simp) (by simp[isNilRow]) ?_ ?_
  ·rintro k ⟨v,l⟩ hk ⟨hl,hlen⟩
   simp only at hl hlen
   obtain⟨e,he,hee⟩: ∃e:Int,e < 128∧([⟨r⟩,⟨r -32⟩,⟨r -80⟩]:List I32)[k]?=some ⟨e⟩∧([.v (.int .i32 r), .v (.int .i32 (r -32)), .v (.int .i32 (r -80))]:List D)[k]?=some (.v (.int .i32 e)):=by
    rcases(by omega:k=0∨k=1∨k=2) with rfl | rfl | rfl
    ·exact⟨r,by omega,rfl,rfl⟩
    ·exact⟨r -32,by omega,rfl,rfl⟩
    ·exact⟨r -80,by omega,rfl,rfl⟩
   obtain⟨he1,he2⟩:=hee
   have he3: ∀h,([.v (.int .i32 r), .v (.int .i32 (r -32)), .v (.int .i32 (r -80))]:List D)[k]'h= .v (.int .i32 e):=fun h=> by
    obtain⟨_,h2⟩:=List.getElem?_eq_some_iff.1 he2
    exact h2
   have hki: (k:Int) < 3:=by omega
   have hstep: (([⟨r⟩,⟨r -32⟩,⟨r -80⟩]:List I32).take (k+1)).filter (fun v=> decide (0≤v.val∧low v.val=r))=l++ ([⟨e⟩]:List I32).filter (fun v=> decide (0≤v.val∧low v.val=r)):=by
    rw[List.take_add_one,he1,List.filter_append,←hl]
    rfl
   by_cases h0:0≤e
   ·obtain⟨q0,q1⟩:=Ce h0 he
    have hPe: ∃d:Int,0≤d∧d < 128∧gP e=gP d:=⟨e,h0,he,rfl⟩
    simp[hk,hki,he2,he3,h0,h1,CA h0 he,hPe, -Bool.forall_bool, -Bool.exists_bool]
    intro y hy
    obtain rfl:=hy e h0 he rfl
    rw[NG q0 q1 l0 l1]
    refine⟨fun hh=> ⟨by omega,by omega,fun v=> ⟨v,l++ [⟨e⟩],⟨?_,by simp;omega⟩,rfl, .inl ⟨rfl,by simp⟩⟩⟩,fun hh=> ⟨v,l,⟨?_,by omega⟩,rfl, .inl ⟨rfl,rfl⟩⟩⟩
    ·simpa [h0,hh] using hstep.symm
    ·simpa [h0,hh] using hstep.symm
   ·simp[hk,hki,he2,he3,h0, -Bool.forall_bool, -Bool.exists_bool]
    refine⟨v,l,⟨?_,by omega⟩,rfl, .inl ⟨rfl,rfl⟩⟩
    simpa [h0] using hstep.symm
  ·rintro⟨v,l⟩ ⟨hl,hlen⟩
   simp only at hl hlen
   have hl:=hfo l hl
   simp[-Bool.forall_bool, -Bool.exists_bool]
   exact⟨1,v,l, .inr ⟨rfl,hl⟩,⟨rfl, .inl rfl, .inl ⟨rfl,rfl⟩⟩,rfl⟩
 ·simp[hsz, -Bool.forall_bool, -Bool.exists_bool]
  exact d7 (zj ⟨c⟩) (jw (l:=zj ⟨c⟩) lS rfl) rfl
end Go.Gv

namespace Go.Gv
open Go.Proofs
def jM:CC:=oX [oB 2 (.mv (.const ob))] [0] [] (oX [oA 3 0,oB 4 (.cmp .geq (oT 3) (.const (.int .u8 65))),oA 5 4,oH 6 5 (.mv (oT 0)),oH 7 5 (.cmp .leq (oT 6) (.const (.int .u8 90))),oB 8 (.pick (oT 5) (oT 7) (.const ob)),oA 9 8,oI 10 9 (.mv (oT 0)),oI 11 9 (.cmp .geq (oT 10) (.const (.int .u8 97))),oI 12 9 (.mv (oT 11)),oH 13 12 (.mv (oT 0)),
 oH 14 12 (.cmp .leq (oT 13) (.const (.int .u8 122))),oI 15 9 (.pick (oT 12) (oT 14) (.const ob)),oB 16 (.pick (oT 9) (.const (.bool true)) (oT 15)),oA 17 16,oI 18 17 (.mv (oT 0)),oI 19 17 (.eql false false [.int] (oT 18) (.const (.int .u8 95))),oB 20 (.pick (oT 17) (.const (.bool true)) (oT 19)),oA 2 20] [2] [] (.ret))
def jn:List au:= [.tmp 2]
def uM:List Nat:= []
theorem uv:ay Tryz.prog cQ uM jM jn 21:=ak mixed (by kernel_rfl)
def jL:CC:=oX [oB 2 (.mv (.const ob))] [0] [] (oX [oA 3 0,oZ 4 cQ [oT 3],oA 5 4,oI 6 5 (.mv (oT 0)),oI 7 5 (.cmp .geq (oT 6) (.const (.int .u8 48))),oI 8 5 (.mv (oT 7)),oH 9 8 (.mv (oT 0)),oH 10 8 (.cmp .leq (oT 9) (.const (.int .u8 57))),oI 11 5 (.pick (oT 8) (oT 10) (.const ob)),oB 12 (.pick (oT 5) (.const (.bool true)) (oT 11)),oA 13 12,
 oI 14 13 (.mv (oT 0)),oI 15 13 (.eql false false [.int] (oT 14) (.const (.int .u8 45))),oB 16 (.pick (oT 13) (.const (.bool true)) (oT 15)),oA 2 16] [2] [] (.ret))
def jm:List au:= [.tmp 2]
def uL:List Nat:= []
theorem uu:ay Tryz.prog fP uL jL jm 17:=ak mixed (by kernel_rfl)
-- markup_ValidName range i=20 n=19 c=21 i2=28 id=0: live [0:s] changed [] res []
def gK:CC:=oX [oB 2 (.mv (.const ob))] [0] [] (.seq (oX [oA 4 0,oB 5 (.slen (oT 4)),oB 6 (.cmp .lss (oT 5) (oN 1)),oA 7 6,oI 8 7 (.mv (oT 0)),oI 9 7 (.slen (oT 8)),oI 10 7 (.cmp .gtr (oT 9) (oN 32)),oB 11 (.pick (oT 7) (.const (.bool true)) (oT 10)),oA 12 11,oI 13 12 (.mv (oT 0)),oI 14 12 (.sidx (oT 13) (oN 0)),oI 15 12 (.call cQ [oT 14]),
 oI 16 12 (.not (oT 15)),oB 17 (.pick (oT 12) (.const (.bool true)) (oT 16))] [0,17] [] (.ite (oT 17) (oX [oB 2 (.mv (.const ob))] [2] [] (.ret)) (.skip))) (.keep [0] [] (.seq (oX [oA 18 0,oB 19 (.slen (oT 18)),oB 20 (.mv (oN 0))] [0,19,20] [] (ax 0 20 19 21 1 (oX [oA 22 20,oA 3 22] [0,3,19,20] [] (oX [oA 23 0,oA 24 3,oB 25 (.sidx (oT 23) (oT 24)),oZ 26 fP [oT 25],
 oB 27 (.not (oT 26))] [0,19,20,27] [] (.ite (oT 27) (oX [oB 2 (.mv (.const ob))] [2] [] (.ret)) (.skip)))) 28)) (.keep [] [] (oX [oB 2 (.mv (.const (.bool true)))] [2] [] (.ret))))))
def gp:List au:= [.tmp 2]
def qQ:List Nat:= []
theorem qB:ay Tryz.prog cZ qQ gK gp 29:=ak mixed (by kernel_rfl)
-- markup_ValidValue while id=0: live [14:] changed [] res [14]
def gJ:CC:=oX [oB 2 (.mv (oN 0))] [0] [] (.seq (.block 0 (oX [oA 6 0,oB 7 (.slen (oT 6)),oB 8 (.cmp .gtr (oT 7) (oN 120)),oA 5 8] [0,5] [] (.ite (oT 5) (oX [oB 2 (.mv (oN 2))] [2] [] (.ret)) (oX [oA 10 0,oZ 11 cO [oT 10],oB 12 (.not (oT 11)),oA 9 12] [0,9] [] (.ite (oT 9) (oX [oB 2 (.mv (oN 7))] [2] [] (.ret)) (.skip)))))) (.keep [0] [] (.seq (oX [
 oA 13 0,oB 14 (.srange (oT 13))] [14] [14] (.block 1 (.loop 1 (oX [oB 15 (.snext (oT 14)),oB 16 (.ext (oT 15) 0)] [14,15,16] [14] (.seq (.ite (oT 16) (.skip) (.exit 1)) (.keep [14,15] [14] (.block 2 (oX [oB 17 (.ext (oT 15) 2),oA 4 17] [4,14] [14] (oX [oA 18 4,oB 19 (.cmp .leq (oT 18) (.const (.int .i32 31))),oA 20 19,oI 21 20 (.mv (oT 4)),
 oI 22 20 (.eql false false [.int] (oT 21) (.const (.int .i32 127))),oB 23 (.pick (oT 20) (.const (.bool true)) (oT 22))] [14,23] [14] (.ite (oT 23) (oX [oB 2 (.mv (oN 14))] [2] [] (.ret)) (.skip))))))))))) (.keep [] [] (oX [oB 2 (.mv (oN 0))] [2] [] (.ret))))))
def gn:List au:= [.tmp 2]
def qP:List Nat:= []
theorem qA:ay Tryz.prog aL qP gJ gn 24:=ak mixed (by kernel_rfl)
-- feature_contains range i=9 n=8 c=10 i2=16 id=0: live [1:f, 7:] changed [] res []
def ig:CC:=oX [oB 4 (.mv (.const ob))] [0,1] [] (.seq (oX [oA 7 0,oB 8 (.len (oT 7)),oB 9 (.mv (oN 0))] [1,7,8,9] [] (ax 0 9 8 10 1 (oX [oB 11 (.iaddr 1 (oT 7) (oT 9)),oC 12 1 11,oA 6 12] [1,6,7,8,9] [] (oX [oA 13 6,oA 14 1,oB 15 (.eql false false [.str] (oT 13) (oT 14))] [1,7,8,9,15] [] (.ite (oT 15) (oX [oB 4 (.mv (.const (.bool true)))] [4] [] (.ret))
 (.skip)))) 16)) (.keep [] [] (oX [oB 4 (.mv (.const ob))] [4] [] (.ret))))
def gX:List au:= [.tmp 4]
def rQ:List Nat:= []
theorem rL:ay Tryz.prog dR rQ ig gX 17:=ak mixed (by kernel_rfl)
def my:CC:=oX [oB 4 (.mv (.const ob))] [0,1] [] (oX [oA 8 0,oZ 9 fR [oT 8],oA 7 9,oB 10 (.ext (oT 7) 0),oB 11 (.ext (oT 7) 1),oA 5 10,oA 6 11] [1,5,6] [] (oX [oA 12 6,oB 13 (.eql false false [.int] (oT 12) (oN 0)),oA 14 13,oH 15 14 (.mv (oT 5)),oH 16 14 (.mv (oT 1)),oH 17 14 (.call dR [oT 15,oT 16]),
 oB 18 (.pick (oT 14) (oT 17) (.const ob)),oA 4 18] [4] [] (.ret)))
def l8:List au:= [.tmp 4]
def zf:List Nat:= []
theorem yM:ay Tryz.prog iy zf my l8 19:=ak mixed (by kernel_rfl)
-- feature_Parse while id=0: live [0:s, 5:l, 6:from, 7:i] changed [5, 6, 7] res [51]
-- feature_Parse while id=0: live [5:l, 8:i] changed [8] res [51]
def cj:CC:=oX [oB 2 (.mv (.const on)),oB 3 (.mv (oN 0))] [0] [] (.seq (oX [oA 9 0,oZ 10 aL [oT 9],oA 4 10] [0,4] [] (oX [oA 11 4,oB 12 (.eql true false [.int] (oT 11) (oN 0))] [0,4,12] [] (.ite (oT 12) (oX [oA 13 4,oB 2 (.mv (.const on)),oA 3 13] [2,3] [51] (.ret)) (.skip)))) (.keep [0] [] (.seq (oX [oA 14 0,
 oB 15 (.eql false false [.str] (oT 14) (oS ⟨#[124]⟩))] [0,15] [] (.ite (oT 15) (oX [oB 2 (.mv (.const on)),oB 3 (.mv (oN 0))] [2,3] [51] (.ret)) (.skip))) (.keep [0] [] (.seq (oX [oA 16 0,oB 17 (.slen (oT 16)),oB 18 (.cmp .lss (oT 17) (oN 2)),oA 19 18,oI 20 19 (.mv (oT 0)),oI 21 19 (.sidx (oT 20) (oN 0)),oI 22 19 (.eql true false [.int] (oT 21) (.const (.int .u8 124))),
 oB 23 (.pick (oT 19) (.const (.bool true)) (oT 22)),oA 24 23,oI 25 24 (.mv (oT 0)),oI 26 24 (.mv (oT 0)),oI 27 24 (.slen (oT 26)),oI 28 24 (.arith .sub (oT 27) (oN 1)),oI 29 24 (.sidx (oT 25) (oT 28)),oI 30 24 (.eql true false [.int] (oT 29) (.const (.int .u8 124))),oB 31 (.pick (oT 24) (.const (.bool true)) (oT 30))] [0,31] [] (.ite (oT 31) (oX [oB 2 (.mv (.const on)),
 oB 3 (.mv (oN 3))] [2,3] [51] (.ret)) (.skip))) (.keep [0] [] (oX [oB 5 (.mv (.const on))] [0,5] [51] (.seq (oX [oB 6 (.mv (oN 1)),oB 7 (.mv (oN 1))] [0,5,6,7] [51] (.block 0 (.loop 1 (.seq (oX [oA 32 7,oA 33 0,oB 34 (.slen (oT 33)),oB 35 (.cmp .lss (oT 32) (oT 34))] [0,5,6,7,35] [51] (.ite (oT 35) (.skip) (.exit 0))) (.keep [0,5,6,7] [51] (.seq (.block 1 (.seq (oX [oA 38 0,oA 39 7,
 oB 40 (.sidx (oT 38) (oT 39)),oB 41 (.eql true false [.int] (oT 40) (.const (.int .u8 124)))] [0,5,6,7,41] [51] (.ite (oT 41) (.exit 1) (.skip))) (.keep [0,5,6,7] [51] (.seq (oX [oA 42 7,oA 43 6,oB 44 (.eql false false [.int] (oT 42) (oT 43))] [0,5,6,7,44] [51] (.ite (oT 44) (oX [oB 2 (.mv (.const on)),oB 3 (.mv (oN 3))] [2,3] [51] (.ret)) (.skip))) (.keep [0,5,6,7] [51] (oX [oA 45 5,
 oA 46 0,oA 47 6,oA 48 7,oB 49 (.sslice (oT 46) (some (oT 47)) (some (oT 48))),oB 50 (.bslice ar 1 [oT 49]),oB 51 (.append none ar 1 16 (oT 45) (oT 50)),oA 5 51] [0,5,7] [51] (.reg [oA 52 7,oB 53 (.arith .add (oT 52) (oN 1)),oA 6 53]))))))) (.keep [0,5,6,7] [51] (.reg [oA 36 7,oB 37 (.arith .add (oT 36) (oN 1)),oA 7 37])))))))) (.keep [5] [51] (.seq (oX [
 oB 8 (.mv (oN 1))] [5,8] [51] (.block 2 (.loop 2 (.seq (oX [oA 54 8,oA 55 5,oB 56 (.len (oT 55)),oB 57 (.cmp .lss (oT 54) (oT 56))] [5,8,57] [51] (.ite (oT 57) (.skip) (.exit 2))) (.keep [5,8] [51] (.seq (.block 3 (.seq (.regd [oA 60 5,oA 61 8,oB 62 (.arith .sub (oT 61) (oN 1)),oB 63 (.iaddr 1 (oT 60) (oT 62)),oC 64 1 63,oA 65 5,oA 66 8,oB 67 (.iaddr 1 (oT 65) (oT 66)),oC 68 1 67] [
 oB 69 (.cmp .geq (oT 64) (oT 68))]) (.keep [5,8,69] [51] (.ite (oT 69) (oX [oB 2 (.mv (.const on)),oB 3 (.mv (oN 6))] [2,3] [51] (.ret)) (.skip))))) (.keep [5,8] [51] (.reg [oA 58 8,oB 59 (.arith .add (oT 58) (oN 1)),oA 8 59])))))))) (.keep [5] [51] (oX [oA 70 5,oA 2 70,oB 3 (.mv (oN 0))] [2,3] [51] (.ret)))))))))))))
def cd:List au:= [.tmp 2, .tmp 3]
def vX:List Nat:= []
theorem vP:ay Tryz.prog fR vX cj cd 71:=ak mixed (by kernel_rfl)
end Go.Gv
