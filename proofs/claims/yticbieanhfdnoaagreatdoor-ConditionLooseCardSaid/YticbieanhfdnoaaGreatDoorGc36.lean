/- A part of the framework and of the walks: C58 W156 W157 W158 C60. -/
import Derived.Test.YticbieanhfdnoaaGreatDoorGc21
import Derived.Test.YticbieanhfdnoaaGreatDoorGc30
import Derived.Test.YticbieanhfdnoaaGreatDoorGc33
import Derived.Test.YticbieanhfdnoaaGreatDoorGc35
set_option linter.unusedSimpArgs false
set_option linter.unusedVariables false
set_option maxRecDepth 100000

namespace Go.Gv
open Go.Proofs
def kL:CC:=oX [oB 6 (.mv (.const ob))] [0,1,2] [] (oX [oA 11 0,oZ 12 d6 [oT 11],oA 10 12,oB 13 (.ext (oT 10) 0),oB 14 (.ext (oT 10) 1),oB 15 (.ext (oT 10) 2),oB 7 (.alloc aA [oi,oi,oi,on,on]),oF 5 7 13,oA 8 14,oA 9 15] [1,2,7,9] [7] (.seq (oX [oA 16 9,oB 17 (.eql true false [.int] (oT 16) (oN 0))] [1,2,7,17] [7] (.ite (oT 17) (oX [
 oB 6 (.mv (.const ob))] [6] [] (.ret)) (.skip))) (.keep [1,2,7] [7] (.seq (oX [oA 18 2] [1,7,18] [7] (.ite (oT 18) (oX [oD 19 5 7,oA 20 1,oZ 21 eH [oT 19,oT 20],oA 6 21] [6] [] (.ret)) (.skip))) (.keep [1,7] [7] (oX [oD 22 5 7,oA 23 1,oZ 24 i9 [oT 22,oT 23],oA 6 24] [6] [] (.ret)))))))
def j6:List au:= [.tmp 6]
def Be:List Nat:= []
theorem AM:ay Tryz.prog jg Be kL j6 25:=ap mixed (by kernel_rfl)
def jE:CC:=oX [oB 5 (.box aY true (oT 0)),oB 6 (.box aU true (oT 1)),oB 7 (.box cq true (oT 2)),oB 8 (.box cZ true (oT 3)),oB 9 (.box Mk true (oT 4)),oB 10 (.mv (.const ob))] [5,6,7,8,9] [] (eC 1 (.reg [oB 13 (.clo av [oT 5,oT 7,oT 8,oT 9]),oB 11 (.alloc vA [.nilFunc]),oF 1 11 13])
 (.keep [5,6,7,8,9,11] [11] (.seq (oX [oE 14 0 6,oC 15 1 14] [5,6,7,8,9,11,15] [11] (.block 0 (oX [oB 17 (.eql false false [.int] (oT 15) (oN 1)),oA 16 17] [5,6,7,8,9,11,15,16] [11] (.ite (oT 16) (oX [oB 10 (.mv (.const (.bool true)))] [10] [11] (.ret)) (oX [oB 19 (.eql false false [.int] (oT 15) (oN 2)),oA 18 19] [5,6,7,8,9,11,15,18] [11] (.ite (oT 18) (.seq (.regd [oE 20 3 6,oC 21 1 20,
 oD 22 7 5,oC 23 1 7,oE 24 0 5,oC 25 1 24,oE 26 1 6,oC 27 1 26,oZ 28 cF [oT 25,oT 27],oZ 29 cG [oT 22,oT 23,oT 28],oE 30 5 6,oC 31 1 30] [oZ 32 jg [oT 21,oT 29,oT 31],oA 10 32]) (.keep [10] [11] (.ret))) (oX [oB 34 (.eql false false [.int] (oT 15) (oN 3)),oA 33 34] [5,6,7,8,9,11,15,33] [11] (.ite (oT 33) (.seq (.regd [oD 35 7 5,oC 36 1 7,
 oE 37 0 5,oC 38 1 37,oE 39 1 6,oC 40 1 39,oZ 41 ar [oT 38,oT 40],oZ 42 cG [oT 35,oT 36,oT 41],oE 43 3 6,oC 44 1 43] [oZ 45 jf [oT 42,oT 44],oA 10 45]) (.keep [10] [11] (.ret))) (oX [oB 47 (.eql false false [.int] (oT 15) (oN 4)),oA 46 47] [5,6,7,8,9,11,15,46] [11] (.ite (oT 46) (.seq (.regd [oC 48 1 9,oC 49 1 8,oE 50 4 6,oC 51 1 50,
 oZ 52 ba [oT 49,oT 51]] [oB 53 (.iaddr 1 (oT 48) (oT 52)),oC 54 1 53,oA 12 54]) (.keep [5,6,7,12] [] (.seq (.regd [oA 55 12,oB 56 (.cmp .geq (oT 55) (oN 0)),oA 57 56,oH 58 57 (.load true 7 (oT 5)),oH 59 57 (.load false 1 (oT 7)),oH 60 57 (.faddr 0 (oT 5)),oH 61 57 (.load false 1 (oT 60)),oH 62 57 (.faddr 1 (oT 6)),oH 63 57 (.load false 1 (oT 62)),
 oH 64 57 (.call ar [oT 61,oT 63]),oH 65 57 (.call cG [oT 58,oT 59,oT 64]),oH 66 57 (.load true 7 (oT 5)),oH 67 57 (.mv (oT 12)),oH 68 57 (.faddr 0 (oT 5)),oH 69 57 (.load false 1 (oT 68)),oH 70 57 (.faddr 2 (oT 6)),oH 71 57 (.load false 1 (oT 70)),oH 72 57 (.call ar [oT 69,oT 71])] [
 oH 73 57 (.call cG [oT 66,oT 67,oT 72]),oH 74 57 (.eql false false [.str] (oT 65) (oT 73)),oB 75 (.pick (oT 57) (oT 74) (.const ob)),oA 10 75]) (.keep [10] [11] (.ret))))) (oX [oB 77 (.eql false false [.int] (oT 15) (oN 5)),oA 76 77] [5,6,7,11,15,76] [11] (.ite (oT 76) (oX [oD 78 7 5,oD 79 7 6,oC 80 1 7,oZ 81 eh [oT 78,oT 79,oT 80],
 oA 10 81] [10] [11] (.ret)) (oX [oB 83 (.eql false false [.int] (oT 15) (oN 6)),oA 82 83] [6,11,15,82] [11] (.ite (oT 82) (.seq (.regd [oC 84 1 11,oE 85 6 6,oC 86 1 85,oB 87 (.iaddr 7 (oT 86) (oN 0)),oD 88 7 87] [oB 89 (.callv (oT 84) [oT 88]),oB 90 (.not (oT 89)),oA 10 90]) (.keep [10] [11] (.ret))) (oX [oB 92 (.eql false false [.int] (oT 15) (oN 7)),
 oA 91 92] [6,11,91] [11] (.ite (oT 91) (oX [oE 93 6 6,oC 94 1 93,oB 95 (.clo bb [oT 11]),oZ 96 aF [oT 94,oT 95],oB 97 (.not (oT 96)),oA 10 97] [10] [11] (.ret)) (.skip))))))))))))))))) (.keep [6,11] [11] (oX [oE 98 6 6,oC 99 1 98,oC 100 1 11,oZ 101 aF [oT 99,oT 100],oA 10 101] [10] [11] (.ret))))))
def ju:List au:= [.tmp 10]
def uQ:List Nat:= [9,8,7,6,5]
theorem uq:ay Tryz.prog bv uQ jE ju 102:=ap mixed (by kernel_rfl)
def iw:CC:=oX [oB 5 (.box aU true (oT 0)),oB 6 (.mv (.const ob))] [1,2,3,4,5] [] (oX [oD 7 7 1,oD 8 7 5,oC 9 1 2,oC 10 1 3,oC 11 1 4,oZ 12 bv [oT 7,oT 8,oT 9,oT 10,oT 11],oA 6 12] [6] [] (.ret))
def gU:List au:= [.tmp 6]
def sD:List Nat:= [5]
theorem se:ay Tryz.prog av sD iw gU 13:=ap mixed (by kernel_rfl)
def iv:CC:=oX [oB 2 (.box aU true (oT 0)),oB 3 (.mv (.const ob))] [1,2] [] (oX [oC 4 1 1,oD 5 7 2,oB 6 (.callv (oT 4) [oT 5]),oB 7 (.not (oT 6)),oA 3 7] [3] [] (.ret))
def gT:List au:= [.tmp 3]
def sC:List Nat:= [2]
theorem sd:ay Tryz.prog bb sC iv gT 8:=ap mixed (by kernel_rfl)
def jG:CC:=oX [oB 5 (.box aY true (oT 0)),oB 6 (.box aU true (oT 1)),oB 10 (.mv (.const ob))] [2,3,4,5,6] [] (.seq (oX [oD 11 7 6,oE 12 0 5,oC 13 1 12,oA 14 3,oZ 15 bM [oT 11,oT 13,oT 14],oB 16 (.eql true false [.int] (oT 15) (oN 0)),oA 17 16,oI 18 17 (.mv (oT 2)),oI 19 17 (.cmp .lss (oT 18) (oN 0)),
 oB 20 (.pick (oT 17) (.const (.bool true)) (oT 19)),oA 21 20,oI 22 21 (.mv (oT 2)),oI 23 21 (.faddr 1 (oT 5)),oI 24 21 (.load false 1 (oT 23)),oI 25 21 (.len (oT 24)),oI 26 21 (.cmp .geq (oT 22) (oT 25)),oB 27 (.pick (oT 21) (.const (.bool true)) (oT 26)),oA 28 27,oI 29 28 (.mv (oT 4)),oI 30 28 (.len (oT 29)),oI 31 28 (.mv (oT 3)),oI 32 28 (.len (oT 31)),
 oI 33 28 (.eql true false [.int] (oT 30) (oT 32)),oB 34 (.pick (oT 28) (.const (.bool true)) (oT 33))] [2,3,4,5,6,34] [] (.ite (oT 34) (oX [oB 10 (.mv (.const ob))] [10] [] (.ret)) (.skip))) (.keep [2,3,4,5,6] [] (.seq (oX [oA 35 4,oB 36 (.clo bc [oT 5]),oZ 37 cz [oT 35,oT 36]] [2,3,4,5,6,37] [] (.ite (oT 37) (oX [
 oB 10 (.mv (.const ob))] [10] [] (.ret)) (.skip))) (.keep [2,3,4,5,6] [] (oX [oD 38 7 5,oD 39 7 6,oA 40 2,oA 41 3,oA 42 4,oZ 43 bv [oT 38,oT 39,oT 40,oT 41,oT 42],oA 10 43] [10] [] (.ret))))))
def jw:List au:= [.tmp 10]
def uV:List Nat:= [6,5]
theorem uw:ay Tryz.prog eP uV jG jw 44:=ap mixed (by kernel_rfl)
def eS:CC:=oX [oB 3 (.mv (.const ob))] [0,1] [] (oX [oA 4 0,oB 5 (.cmp .lss (oT 4) (oN (-1))),oA 6 5,oI 7 6 (.mv (oT 0)),oI 8 6 (.faddr 1 (oT 1)),oI 9 6 (.load false 1 (oT 8)),oI 10 6 (.len (oT 9)),oI 11 6 (.cmp .geq (oT 7) (oT 10)),oB 12 (.pick (oT 6) (.const (.bool true)) (oT 11)),oA 3 12] [3] [] (.ret))
def eF:List au:= [.tmp 3]
def sE:List Nat:= []
theorem sf:ay Tryz.prog bc sE eS eF 13:=ap mixed (by kernel_rfl)
-- condition_Select range i=23 n=22 c=24 i2=34 id=0: live [2:c, 3:x, 7:out] changed [7] res [3, 33]
def iU:CC:=oX [oB 2 (.box aY true (oT 0)),oB 3 (.box aU false (oT 1)),oB 4 (.mv (.const on)),oB 5 (.mv (oN 0))] [2,3] [3] (.seq (oX [oD 9 7 3,oZ 10 bu [oT 9]] [2,3,10] [3] (.ite (oT 10) (oX [oB 4 (.mv (.const on)),oB 5 (.mv (oN 2))] [4,5] [33] (.ret)) (.skip))) (.keep [2,3] [3] (oX [oD 11 7 3,oZ 12 bj [oT 11],
 oF 7 3 12] [2,3] [3] (.seq (oX [oD 13 7 3,oE 14 0 2,oC 15 1 14,oZ 16 bM [oT 13,oT 15,.const on],oA 6 16] [2,3,6] [3] (oX [oA 17 6,oB 18 (.eql true false [.int] (oT 17) (oN 0))] [2,3,6,18] [3] (.ite (oT 18) (oX [oA 19 6,oB 4 (.mv (.const on)),oA 5 19] [4,5] [33] (.ret)) (.skip)))) (.keep [2,3] [3] (oX [oB 7 (.mv (.const on))] [2,3,7] [3,33] (.seq (oX [oE 20 1 2,
 oC 21 1 20,oB 22 (.len (oT 21)),oB 23 (.mv (oN 0))] [2,3,7,22,23] [3,33] (aw 0 23 22 24 1 (oX [oA 25 23,oA 8 25] [2,3,7,8,22,23] [3,33] (oX [oD 26 7 2,oD 27 7 3,oA 28 8,oZ 29 bv [oT 26,oT 27,oT 28,.const on,.const on]] [2,3,7,8,22,23,29] [3,33] (.ite (oT 29) (.reg [oA 30 7,oA 31 8,oB 32 (.bslice cq 1 [oT 31]),oB 33 (.append none cq 1 8 (oT 30) (oT 32)),
 oA 7 33]) (.skip)))) 34)) (.keep [7] [33] (oX [oA 35 7,oA 4 35,oB 5 (.mv (oN 0))] [4,5] [33] (.ret))))))))))
def iK:List au:= [.tmp 4, .tmp 5]
def tC:List Nat:= [2]
theorem tu:ay Tryz.prog bO tC iU iK 36:=ap mixed (by kernel_rfl)
end Go.Gv

namespace Go.Gv
open Cod (enc dec)
variable {S S0:Nat→Spc}
def uB (v s:B) (f:Bool):Option Bool:=(mb v).bind fun x=> uz x s f
def OT (x:B×B×Bool):Prop:= ∃y,uB x.1 x.2.1 x.2.2=some y
def Rk (x:B×B×Bool) (y:Bool):Prop:=uB x.1 x.2.1 x.2.2=some y
abbrev Ed:Spc:=cv (a3 B B Bool) OT (enc (X:=Bool)) Rk
theorem Cf (h1:S d6=pf) (h2:S i9=C3 false) (h3:S eH=C3 true):aN kL j6 S (a3 B B Bool) OT (enc (X:=Bool)) Rk:=by
 rintro⟨v,s,f⟩ ⟨y,hy⟩
 have hy:uB v s f=some y:=hy
 obtain⟨x,hx,hm⟩:=Option.bind_eq_some_iff.1 hy
 cases f
 ·have hp:HJ false (x,s):=⟨y,hm⟩
  simp[kL,j6,h1,h2,hx,hp, -Bool.forall_bool, -Bool.exists_bool]
  exact fun z hz=> by show(mb v).bind _=_;rw[hx];exact hz
 ·have hp:HJ true (x,s):=⟨y,hm⟩
  simp[kL,j6,h1,h3,hx,hp, -Bool.forall_bool, -Bool.exists_bool]
  exact fun z hz=> by show(mb v).bind _=_;rw[hx];exact hz
mutual
def dX:Cond→Cond | .mk op n a v l f ks=> if op=4∨op=6∧gL (.mk op n a v l f ks)=true then⟨1,gE,gE,gE,gE,false, []⟩ else⟨op,n,a,v,l,f,mz ks⟩
def mz:List Cond→List Cond | []=> [] | k::ks=> dX k::mz ks
end
theorem Dh: ∀l:List Cond,mz l=l.map dX
 | []=> by rw[mz];rfl
 | k::l=> by rw[mz,Dh l];rfl
theorem zq (x:Cond):dX x=if x.op=4∨x.op=6∧gL x=true then⟨1,gE,gE,gE,gE,false, []⟩ else⟨x.op,x.name,x.arg,x.val,x.lab,x.fold,x.kids.map dX⟩:=by cases x;rw[dX,Dh]
abbrev Ak:Spc:=cv (a1 Cond) (fun x=> ∃n,cA x≤n) (enc (X:=Bool)) fun x y=> y=gL x
abbrev An (n:Nat):Spc:=cv (a1 Cond) (fun x=> cA x≤n∧dx x≤60) (enc (X:=Cond)) fun x y=> y=dX x
abbrev vM:Spc:=cv (a1 Cond) (fun x=> ∃n,cA x≤n∧dx x≤60) (enc (X:=Cond)) fun x y=> y=dX x
theorem G1 {H:aa} {op:Int} {name arg val lab:B} {fold:Bool} {l:List Cond} {v:Value} (h:H 33=some (.row v aU 7 (l.map enc))):FrzTo H (.agg [.v (.int .i64 op), .v (.string name), .v (.string arg), .v (.string val), .v (.string lab), .v (.bool fold), .own 33 v]) (enc (Cond.mk op name arg val lab fold l)):=by
 simp
 refine .agg rfl fun k c c' h1 h2=> ?_
 match k,h1,h2 with
 | 0,h1,h2 | 1,h1,h2 | 2,h1,h2 | 3,h1,h2 | 4,h1,h2 | 5,h1,h2=> cases h1;cases h2;exact .same _
 | 6,h1,h2=> cases h1;cases h2;exact jQ aU h
 | k+7,h1,_=> simp at h1
theorem Dd: ∀l:List Cond,l.length≤cU l
 | []=> by simp[cU]
 | k::l=> by
   have:=Dd l
   have:=mG k
   rw[cU,List.length_cons]
   omega
set_option maxHeartbeats 1000000 in
theorem vp (n:Nat) (h1:S aQ=Ak) (h2:S bj=An n):aN dv dn S (a1 Cond) (fun x=> cA x≤n+1∧dx x≤60) (enc (X:=Cond)) fun x y=> y=dX x:=by
 rintro x ⟨hd,hn⟩
 have hsm: ∃n,cA x≤n:=⟨_,Nat.le_refl _⟩
 have hany: ∀H:aa,Fin (enc (X:=Cond)) (fun y=> y=⟨1,gE,gE,gE,gE,false, []⟩) (D.agg [.v (.int .i64 1), .v (.string ⟨#[]⟩), .v (.string ⟨#[]⟩), .v (.string ⟨#[]⟩), .v (.string ⟨#[]⟩), .v (.bool false), .v (.slice none 0 0)]) H:=fun H=> by
  refine dE ⟨1,gE,gE,gE,gE,false, []⟩ ?_ rfl
  simp[gE]
  refine .agg rfl fun k c c' h1 h2=> ?_
  match k,h1,h2 with
  | 0,h1,h2 | 1,h1,h2 | 2,h1,h2 | 3,h1,h2 | 4,h1,h2 | 5,h1,h2=> cases h1;cases h2;exact .same _
  | 6,h1,h2=> cases h1;cases h2;exact .nil 7
  | k+7,h1,_=> simp at h1
 by_cases hc:x.op=4∨x.op=6∧gL x=true
 ·have hl:dX x=⟨1,gE,gE,gE,gE,false, []⟩:=by rw[zq,if_pos hc]
  rcases hc with e | ⟨e,e'⟩
  ·simp[dv,dn,h1,hsm,e,hl, -Bool.forall_bool, -Bool.exists_bool]
   exact fun b=> hany _
  ·obtain⟨op,name,arg,val,lab,fold,ks⟩:=x
   simp only at e
   subst e
   simp[dv,dn,h1,hsm,e',hl, -Bool.forall_bool, -Bool.exists_bool]
   exact fun b=> hany _
 ·have hl:dX x=⟨x.op,x.name,x.arg,x.val,x.lab,x.fold,x.kids.map dX⟩:=by rw[zq,if_neg hc]
  have e4: ¬x.op=4:=fun h=> hc (.inl h)
  obtain⟨op,name,arg,val,lab,fold,ks⟩:=x
  simp only at hl e4
  have hs:op=6→gL ⟨op,name,arg,val,lab,fold,ks⟩=false:=fun h=> by
   cases hb:gL ⟨op,name,arg,val,lab,fold,ks⟩ with
   | false=> rfl
   | true=> exact absurd (.inr ⟨h,hb⟩) hc
  have hkn: ∀y∈ks,cA y≤n∧dx y≤60:=fun y hy=> by
   have h1:=HB (p:=⟨op,name,arg,val,lab,fold,ks⟩) hy
   have h2:=xD hy
   have h3:=mG ⟨op,name,arg,val,lab,fold,ks⟩
   simp only at h3
   exact⟨by omega,by omega⟩
  have hks:ks.length≤60:=by
   have h3:=mG ⟨op,name,arg,val,lab,fold,ks⟩
   simp only at h3
   have:=Dd ks
   omega
  by_cases e6:op=6
  ·subst e6
   have hs':=hs rfl
   simp[dv,dn,h1,hsm,hs',hl, -Bool.forall_bool, -Bool.exists_bool]
   intro b2 b3
   refine jS (X:=Unit) [1,2] [2] [] [] (fun _=> True) (fun _=> [(3, .bptr 3 b3 0)]) (fun _=> [(3, .box b3 [.v (.int .i64 6), .v (.string name), .v (.string arg), .v (.string val), .v (.string lab), .v (.bool fold), .own 33 (.slice none 0 0)]),(33, .row (.slice none 0 0) aU 7 [])]) [3,33] (fun _=> rfl) (by decide) ?_ ?_
   ·simp
    refine⟨.inl (.nilown 33),by simp[isNilRow]⟩
   rintro - -
   simp[-Bool.forall_bool, -Bool.exists_bool]
   intro hkl
   refine aq (X:=Value×List Cond) [2,3,22] [2] ks.length (fun k z=> z.2=(ks.take k).map dX∧z.2.length=k) (fun z=> []) (fun z=> [(3, .box b3 [.v (.int .i64 6), .v (.string name), .v (.string arg), .v (.string val), .v (.string lab), .v (.bool fold), .own 33 z.1]),(33, .row z.1 aU 7 (z.2.map enc))]) (.slice none 0 0, []) (by simp) (by simp) (by omega) (by simp) (by simp) ⟨rfl,rfl⟩ (by simp) (by simp) ?_ ?_
   ·rintro k ⟨v,l⟩ hk ⟨hl1,hl2⟩
    simp only at hl1 hl2
    obtain⟨y,hy⟩:=jI hk
    obtain⟨_,hgy⟩:=List.getElem?_eq_some_iff.1 hy
    obtain⟨q1,q2⟩:=hkn y (List.mem_of_getElem? hy)
    have hk60:ks.length≤60:=hks
    simp[h2,hk,hy,hgy,q1,q2, -Bool.forall_bool, -Bool.exists_bool]
    refine⟨by omega,by omega,fun v=> ⟨v,l++ [dX y],⟨?_,by simp;omega⟩, .inl rfl, .inl ⟨rfl,by simp⟩⟩⟩
    rw[hl1,←List.map_take,dM hy]
    simp
   ·rintro⟨v,l⟩ ⟨hl1,hl2⟩
    simp only at hl1 hl2
    rw[List.take_length] at hl1
    simp[-Bool.forall_bool, -Bool.exists_bool]
    exact dE _ (G1 rfl) (by rw[hl1])
  ·simp[dv,dn,h1,hsm,e4,e6,hl, -Bool.forall_bool, -Bool.exists_bool]
   intro b2 b3
   refine jS (X:=Unit) [1,2] [2] [] [] (fun _=> True) (fun _=> [(3, .bptr 3 b3 0)]) (fun _=> [(3, .box b3 [.v (.int .i64 op), .v (.string name), .v (.string arg), .v (.string val), .v (.string lab), .v (.bool fold), .own 33 (.slice none 0 0)]),(33, .row (.slice none 0 0) aU 7 [])]) [3,33] (fun _=> rfl) (by decide) ?_ ?_
   ·simp
    refine⟨.inl (.nilown 33),by simp[isNilRow]⟩
   rintro - -
   simp[-Bool.forall_bool, -Bool.exists_bool]
   intro hkl
   refine aq (X:=Value×List Cond) [2,3,22] [2] ks.length (fun k z=> z.2=(ks.take k).map dX∧z.2.length=k) (fun z=> []) (fun z=> [(3, .box b3 [.v (.int .i64 op), .v (.string name), .v (.string arg), .v (.string val), .v (.string lab), .v (.bool fold), .own 33 z.1]),(33, .row z.1 aU 7 (z.2.map enc))]) (.slice none 0 0, []) (by simp) (by simp) (by omega) (by simp) (by simp) ⟨rfl,rfl⟩ (by simp) (by simp) ?_ ?_
   ·rintro k ⟨v,l⟩ hk ⟨hl1,hl2⟩
    simp only at hl1 hl2
    obtain⟨y,hy⟩:=jI hk
    obtain⟨_,hgy⟩:=List.getElem?_eq_some_iff.1 hy
    obtain⟨q1,q2⟩:=hkn y (List.mem_of_getElem? hy)
    have hk60:ks.length≤60:=hks
    simp[h2,hk,hy,hgy,q1,q2, -Bool.forall_bool, -Bool.exists_bool]
    refine⟨by omega,by omega,fun v=> ⟨v,l++ [dX y],⟨?_,by simp;omega⟩, .inl rfl, .inl ⟨rfl,by simp⟩⟩⟩
    rw[hl1,←List.map_take,dM hy]
    simp
   ·rintro⟨v,l⟩ ⟨hl1,hl2⟩
    simp only at hl1 hl2
    rw[List.take_length] at hl1
    simp[-Bool.forall_bool, -Bool.exists_bool]
    exact dE _ (G1 rfl) (by rw[hl1])
end Go.Gv

namespace Go.Gv
open Cod (enc dec)
variable {S S0:Nat→Spc}
def featS:List B:= [⟨#[124]⟩,⟨#[124,112,124]⟩,⟨#[124,112,124,113,124]⟩,⟨#[124,113,124]⟩]
def EZ (s v:B):Option Bool:=if(featS.any fun z=> decide (z=s))=true∧(v=⟨#[112]⟩∨v=⟨#[113]⟩) then some (s.data.toList.any fun c=> decide (v.data.toList= [c])) else none
structure BV where
 c:Corpus
 tok:Int
 lb:List B
 bd:List Int
def fG (E:BV):Nat→Cond→Option Bool
 | 0=> fun _=> none
 | n+1=> fun x=>
   if x.op=1 then some true else
   if x.op=2 then uB x.val (nO E.c.toks E.tok (qA E.c.attrs x.name)) x.fold else
   if x.op=3 then EZ (nO E.c.toks E.tok (jP E.c.attrs x.name)) x.val else
   if x.op=4 then(if lc E.lb (fun z=> decide (z=x.lab)) < 0 then none else match E.bd[(lc E.lb fun z=> decide (z=x.lab)).toNat]? with
    | some o=> some (decide (0≤o) && decide (nO E.c.toks E.tok (jP E.c.attrs x.name)=nO E.c.toks o (jP E.c.attrs x.arg)))
    | none=> none) else
   if x.op=5 then some (E.c.regs.any (Ay x E.tok)) else
   if x.op=6 then(match x.kids with | k::_=> (fG E n k).map not | []=> none) else
   if(x.kids.all fun k=> (fG E n k).isSome)=true then
    (if x.op=7 then some (!(x.kids.any fun k=> !((fG E n k).getD false))) else some (x.kids.any fun k=> (fG E n k).getD false))
   else none
def QW (c:Corpus):Prop:=c.toks.length≤100000∧(∀r∈c.toks,r.length≤100000)∧c.attrs.length≤1000
abbrev HZ:=Corpus×Cond×Int×List B×List Int
def N1 (z:HZ):BV:=⟨z.1,z.2.2.1,z.2.2.2.1,z.2.2.2.2⟩
def QM (n:Nat) (z:HZ):Prop:=QW z.1∧ ∃y,fG (N1 z) n z.2.1=some y
def SV (n:Nat) (z:HZ) (y:Bool):Prop:=fG (N1 z) n z.2.1=some y
abbrev aH:gK HZ:=aE Corpus (a4 Cond Int (List B) (List Int))
abbrev mX (n:Nat):Spc:=cv aH (QM n) (enc (X:=Bool)) (SV n)
def Kp (c:Corpus):List D:= [.list 2 (c.attrs.map enc), .list 1 (c.toks.map enc), .list 4 (c.texts.map enc), .list 4 (c.regs.map enc), .list 4 (c.nodes.map enc), .list 1 (c.heads.map enc), .list 1 (c.rels.map enc)]
theorem Ko (c:Corpus): .agg (Kp c)=enc c:=by simp[Kp]
theorem Kn {x y:Corpus} (h:Kp x=Kp y):x=y:=bU (by rw[←Ko,←Ko,h])
def Ok (z:HZ):List D:= [.cptr (Kp z.1) 0, .cptr [enc z.2.2.1] 0, .cptr [enc z.2.2.2.1] 0, .cptr [enc z.2.2.2.2] 0]
def O4 (z:HZ):List D:=enc z.2.1::Ok z
def To (z:HZ):List D:= [enc z.2.1, .cptr [.clo av (Ok z)] 0]
theorem zl (z z':HZ) (h:O4 z=O4 z'):z=z':=by
 obtain⟨a,b,c,d,e⟩:=z
 obtain⟨a',b',c',d',e'⟩:=z'
 unfold O4 Ok at h
 simp only[List.cons.injEq,D.cptr.injEq,and_true] at h
 rw[bU h.1,Kn h.2.1,bU h.2.2.1,bU h.2.2.2.1,bU h.2.2.2.2]
theorem JJ (z z':HZ) (h:To z=To z'):z=z':=by
 unfold To at h
 simp only[List.cons.injEq,D.cptr.injEq,D.clo.injEq,and_true,true_and] at h
 refine zl z z' ?_
 unfold O4
 rw[h.1,h.2]
noncomputable abbrev aH1:gK HZ:=aX O4 zl
noncomputable abbrev qgT:gK HZ:=aX To JJ
noncomputable abbrev yG (n:Nat):Spc:=cv aH1 (QM n) (enc (X:=Bool)) (SV n)
noncomputable abbrev Gf (n:Nat):Spc:=cv qgT (QM n) (enc (X:=Bool)) fun z y=> ∃b,fG (N1 z) n z.2.1=some b∧y=!b
theorem KO (n:Nat) (h1:S bv=mX n):aN iw gU S aH1 (QM n) (enc (X:=Bool)) (SV n):=by
 rintro z hz
 rw[tj]
 obtain⟨c,x,tok,lb,bd⟩:=z
 simp[O4,Ok,Kp,iw,gU,h1,hz, -Bool.forall_bool, -Bool.exists_bool]
@[simp] theorem YY (c:Corpus) (x:Cond) (tok:Int) (lb:List B) (bd:List Int):aH1.dec [.agg [.v (.int .i64 x.op), .v (.string x.name), .v (.string x.arg), .v (.string x.val), .v (.string x.lab), .v (.bool x.fold), .list 7 (x.kids.map enc)], .cptr [.list 2 (c.attrs.map enc), .list 1 (c.toks.map enc), .list 4 (c.texts.map enc), .list 4 (c.regs.map enc), .list 4 (c.nodes.map enc), .list 1 (c.heads.map enc), .list 1 (c.rels.map enc)] 0, .cptr [.v (.int .i64 tok)] 0, .cptr [.list 1 (lb.map enc)] 0, .cptr [.list 1 (bd.map enc)] 0]=some (c,x,tok,lb,bd):=by
 have h:=u9 O4 zl (c,x,tok,lb,bd)
 have e:O4 (c,x,tok,lb,bd)= [.agg [.v (.int .i64 x.op), .v (.string x.name), .v (.string x.arg), .v (.string x.val), .v (.string x.lab), .v (.bool x.fold), .list 7 (x.kids.map enc)], .cptr [.list 2 (c.attrs.map enc), .list 1 (c.toks.map enc), .list 4 (c.texts.map enc), .list 4 (c.regs.map enc), .list 4 (c.nodes.map enc), .list 1 (c.heads.map enc), .list 1 (c.rels.map enc)] 0, .cptr [.v (.int .i64 tok)] 0, .cptr [.list 1 (lb.map enc)] 0, .cptr [.list 1 (bd.map enc)] 0]:=by simp[O4,Ok,Kp]
 rw[←e]
 exact h
theorem KN (n:Nat) (h1:S av=yG n):aN iv gT S qgT (QM n) (enc (X:=Bool)) fun z y=> ∃b,fG (N1 z) n z.2.1=some b∧y=!b:=by
 rintro z hz
 rw[tj]
 obtain⟨c,x,tok,lb,bd⟩:=z
 simp[To,Ok,Kp,iv,gT,h1,hz, -Bool.forall_bool, -Bool.exists_bool]
 exact fun y hy=> hy
abbrev Iv:Spc:=cv (a2 B B) (fun x=> ∃b,EZ x.1 x.2=some b) (enc (X:=Bool)) fun x y=> EZ x.1 x.2=some y
set_option maxHeartbeats 4000000 in
theorem Pd (n:Nat) (h0:S0 av=yG n) (h0':S0 bb=Gf n) (h1:S av=yG n) (h2:S aF=yH Cond S0) (h3:S cF=rR) (h4:S cG=Ap) (h5:S jg=Ed) (h6:S ar=mE) (h7:S jf=Iv) (h8:S ba=ub) (h9:S eh=Iy):
 aN jE ju S aH (QM (n+1)) (enc (X:=Bool)) (SV (n+1)):=by
 rintro⟨c,x,tok,lb,bd⟩ ⟨⟨z1,z2,z3⟩,y,hy⟩
 simp only at z1 z2 z3
 have hy0:fG ⟨c,tok,lb,bd⟩ (n+1) x=some y:=hy
 have hQ: ∀w,w=y→SV (n+1) (c,x,tok,lb,bd) w:=fun w e=> by subst e;exact hy
 clear hy
 obtain⟨op,name,arg,val,lab,fold,ks⟩:=x
 unfold fG at hy0
 simp only at hy0
 have hval: ∀i k:Int,QW c:=fun _ _=> ⟨z1,z2,z3⟩
 simp[jE,ju, -Bool.forall_bool, -Bool.exists_bool]
 refine jS (X:=Unit) [5,6,7,8,9] [] [11] [] (fun _=> True) (fun _=> [(11, .cptr [.clo av (Ok (c,⟨op,name,arg,val,lab,fold,ks⟩,tok,lb,bd))] 0)]) (fun _=> []) [] (fun _=> rfl) (by decide) ?_ ?_
 ·simp[Ok,Kp]
  exact fun b=> .box rfl
 rintro - -
 simp only[Ok,Kp]
 split at hy0
 ·rename_i e;subst e
  obtain rfl:=Option.some.inj hy0
  simp[-Bool.forall_bool, -Bool.exists_bool]
  exact hQ _ rfl
 rename_i e1
 split at hy0
 ·rename_i e;subst e
  have hM:OT (val,nO c.toks tok (qA c.attrs name),fold):=⟨y,hy0⟩
  simp[h3,h4,h5,z1,z2,z3,hM, -Bool.forall_bool, -Bool.exists_bool]
  refine⟨z2,fun w hw=> hQ _ (Option.some.inj (hw.symm.trans hy0))⟩
 rename_i e2
 split at hy0
 ·rename_i e;subst e
  have hM: ∃b,EZ (nO c.toks tok (jP c.attrs name)) val=some b:=⟨y,hy0⟩
  simp[h6,h4,h7,z1,z2,z3,hM, -Bool.forall_bool, -Bool.exists_bool]
  refine⟨z2,fun w hw=> hQ _ (Option.some.inj (hw.symm.trans hy0))⟩
 rename_i e3
 split at hy0
 ·rename_i e;subst e
  split at hy0
  ·cases hy0
  rename_i hj
  obtain⟨j,hjj⟩: ∃j,j=lc lb fun z=> decide (z=lab):=⟨_,rfl⟩
  rw[←hjj] at hj hy0
  cases ho:bd[j.toNat]? with
  | none=> rw[ho] at hy0;cases hy0
  | some o=>
  rw[ho] at hy0
  have hy1: (decide (0≤o) && decide (nO c.toks tok (jP c.attrs name)=nO c.toks o (jP c.attrs arg)))=y:=Option.some.inj hy0
  have j0:0≤j:=by omega
  obtain⟨hjl,hgo⟩:=List.getElem?_eq_some_iff.1 ho
  have j1:j < (bd.length:Int):=by omega
  by_cases h0o:0≤o
  ·simp[h8,←hjj,j0,j1,ho,hgo,h0o,h6,h4,z1,z2,z3, -Bool.forall_bool, -Bool.exists_bool]
   exact⟨⟨z2,hQ _ (by rw[←hy1];simp[h0o])⟩,fun h=> by omega⟩
  ·simp[h8,←hjj,j0,j1,ho,hgo,h0o, -Bool.forall_bool, -Bool.exists_bool]
   exact fun _=> hQ _ (by rw[←hy1];simp[h0o])
 rename_i e4
 split at hy0
 ·rename_i e;subst e
  have hy1:=Option.some.inj hy0
  simp[h9, -Bool.forall_bool, -Bool.exists_bool]
  exact hQ _ hy1
 rename_i e5
 split at hy0
 ·rename_i e;subst e
  split at hy0
  ·rename_i k ks'
   obtain⟨b,hb,rfl⟩:=Option.map_eq_some_iff.1 hy0
   have hp:QM n (c,k,tok,lb,bd):=⟨⟨z1,z2,z3⟩,b,hb⟩
   simp[h1,hp, -Bool.forall_bool, -Bool.exists_bool]
   intro w hw
   have hw:fG ⟨c,tok,lb,bd⟩ n k=some w:=hw
   rw[hb] at hw
   cases hw
   exact hQ _ rfl
  ·cases hy0
 rename_i e6
 split at hy0
 rotate_left
 ·cases hy0
 rename_i hall
 have hal: ∀k∈ks,∃b,fG ⟨c,tok,lb,bd⟩ n k=some b:=fun k hk=> Option.isSome_iff_exists.1 (List.all_eq_true.1 hall k hk)
 have hf2:FunOn S0 (.clo bb [.cptr [.clo av (Ok (c,⟨op,name,arg,val,lab,fold,ks⟩,tok,lb,bd))] 0]) ks fun k=> !((fG ⟨c,tok,lb,bd⟩ n k).getD false):=
  mR (f:=fun k=> (c,k,tok,lb,bd)) h0' (fun k _=> u9 To JJ (c,k,tok,lb,bd)) (fun k hk=> ⟨⟨z1,z2,z3⟩,hal k hk⟩) (fun k hk y hy=> by
   obtain⟨b,h1,h2⟩:=hy
   have h1:fG ⟨c,tok,lb,bd⟩ n k=some b:=h1
   rw[h2,h1];rfl)
 have hf1:FunOn S0 (.clo av (Ok (c,⟨op,name,arg,val,lab,fold,ks⟩,tok,lb,bd))) ks fun k=> (fG ⟨c,tok,lb,bd⟩ n k).getD false:=
  mR (f:=fun k=> (c,k,tok,lb,bd)) h0 (fun k _=> u9 O4 zl (c,k,tok,lb,bd)) (fun k hk=> ⟨⟨z1,z2,z3⟩,hal k hk⟩) (fun k hk y hy=> by
   have h1:fG ⟨c,tok,lb,bd⟩ n k=some y:=hy
   rw[h1];rfl)
 split at hy0
 ·rename_i e;subst e
  have hy1:=Option.some.inj hy0
  simp[h2, -Bool.forall_bool, -Bool.exists_bool]
  exact⟨⟨_,hf2⟩,fun w hw=> hQ _ (by rw[hw _ hf2];exact hy1)⟩
 ·rename_i e7
  have hy1:=Option.some.inj hy0
  simp[h2,e1,e2,e3,e4,e5,e6,e7, -Bool.forall_bool, -Bool.exists_bool]
  exact⟨⟨_,hf1⟩,fun w hw=> hQ _ (by rw[hw _ hf1];exact hy1)⟩
end Go.Gv

namespace Go.Gv
open Cod (enc dec)
variable {S S0:Nat→Spc}
def Rv (z:Int×Corpus):List D:= [enc z.1, .cptr (Kp z.2) 0]
theorem JI (z z':Int×Corpus) (h:Rv z=Rv z'):z=z':=by
 obtain⟨a,s⟩:=z
 obtain⟨a',s'⟩:=z'
 unfold Rv at h
 simp only[List.cons.injEq,D.cptr.injEq,and_true] at h
 rw[bU h.1,Kn h.2]
noncomputable abbrev qgS:gK (Int×Corpus):=aX Rv JI
def IJ (c:Corpus) (b:Int):Bool:=decide (b < -1) || decide ((c.toks.length:Int)≤b)
noncomputable abbrev yl:Spc:=cv qgS (fun z=> QW z.2) (enc (X:=Bool)) fun z y=> y=IJ z.2 z.1
theorem KP:aN eS eF S qgS (fun z=> QW z.2) (enc (X:=Bool)) fun z y=> y=IJ z.2 z.1:=by
 rintro⟨b,c⟩ ⟨z1,z2,z3⟩
 simp only at z1 z2 z3
 rw[tj]
 have hl: (c.toks.length:Int)≤9223372036854775807:=by omega
 by_cases e:b < -1
 ·simp[Rv,Kp,eS,eF,IJ,e, -Bool.forall_bool, -Bool.exists_bool]
 ·simp[Rv,Kp,eS,eF,IJ,e,hl, -Bool.forall_bool, -Bool.exists_bool]
def SZ (z:HZ):Prop:=QW z.1∧LZ z.1.attrs z.2.2.2.1 z.2.1=true∧0≤z.2.2.1∧z.2.2.1 < z.1.toks.length∧z.2.2.2.2.length=z.2.2.2.1.length∧z.2.2.2.1.length≤1000∧(∀b∈z.2.2.2.2, -1≤b∧b < z.1.toks.length)∧ ∃y,fG (N1 z) 21 z.2.1=some y
abbrev RN:Spc:=cv aH SZ (enc (X:=Bool)) (SV 21)
theorem Ph (h0:S0 bc=yl) (h1:S bM=Aq) (h2:S cz=yH Int S0) (h3:S bv=mX 21):aN jG jw S aH SZ (enc (X:=Bool)) (SV 21):=by
 rintro⟨c,x,tok,lb,bd⟩ ⟨⟨z1,z2,z3⟩,hok,t0,t1,hbl,hll,hb,y,hy⟩
 simp only at z1 z2 z3 hok t0 t1 hbl hll hb
 have hl: (c.toks.length:Int)≤9223372036854775807:=by omega
 have hl2: (lb.length:Int)≤9223372036854775807:=by omega
 have hp:QM 21 (c,x,tok,lb,bd):=⟨⟨z1,z2,z3⟩,y,hy⟩
 have hf:FunOn S0 (.clo bc [.cptr (Kp c) 0]) bd (IJ c):=
  mR (f:=fun b=> (b,c)) h0 (fun b _=> u9 Rv JI (b,c)) (fun _ _=> ⟨z1,z2,z3⟩) (fun r _ y hy=> hy)
 have hno:bd.any (IJ c)=false:=by
  rw[List.any_eq_false]
  intro b hbm
  obtain⟨q1,q2⟩:=hb b hbm
  have n1: ¬b < -1:=by omega
  have n2: ¬ (c.toks.length:Int)≤b:=by omega
  simp[IJ,n1,n2]
 have n0: ¬tok < 0:=by omega
 have n1: ¬ (c.toks.length:Int)≤tok:=by omega
 simp[jG,jw,h1,h2,h3,hok,z3,hl,hl2,n0,n1,hbl,hp, -Bool.forall_bool, -Bool.exists_bool]
 exact⟨⟨hok,z3⟩,⟨_,hf⟩,fun w hw e=> by rw[hw _ hf] at e;exact absurd (e.symm.trans hno) (by simp)⟩
def D8 (c:Corpus) (x:Cond) (k:Nat):List Int:=((List.range k).filter fun i:Nat=> (fG ⟨c,(i:Int), [], []⟩ 21 (dX x)).getD false).map fun i:Nat=> (i:Int)
def Ck (c:Corpus) (x:Cond):List Int:=D8 c x c.toks.length
theorem KY (c:Corpus) (x:Cond) (k:Nat):D8 c x (k+1)=D8 c x k++ (if(fG ⟨c,(k:Int), [], []⟩ 21 (dX x)).getD false=true then[(k:Int)] else[]):=by
 unfold D8
 rw[List.range_succ,List.filter_append,List.map_append]
 congr 1
 simp only[List.filter]
 cases(fG ⟨c,(k:Int), [], []⟩ 21 (dX x)).getD false <;> rfl
theorem MG (c:Corpus) (x:Cond) (k:Nat): (D8 c x k).length≤k:=by
 unfold D8
 rw[List.length_map]
 exact Nat.le_trans (List.length_filter_le _ _) (by simp)
def DL (z:Corpus×Cond):Prop:=QW z.1∧dx z.2≤60∧cA z.2≤60∧LZ z.1.attrs [] (dX z.2)=true∧ ∀i:Nat,i < z.1.toks.length→ ∃y,fG ⟨z.1,(i:Int), [], []⟩ 21 (dX z.2)=some y
abbrev Gi:Spc:=cv (a2 Corpus Cond) DL (tG (Y:=List Int) (Z:=Int)) fun z y=> y=(Ck z.1 z.2,0)
theorem Mb (h1:S bu=mW) (h2:S bj=vM) (h3:S bM=Aq) (h4:S bv=mX 21):aN iU iK S (a2 Corpus Cond) DL (tG (Y:=List Int) (Z:=Int)) fun z y=> y=(Ck z.1 z.2,0):=by
 rintro⟨c,x⟩ ⟨⟨z1,z2,z3⟩,hn,hd,hok,hall⟩
 simp only at z1 z2 z3 hn hd hok hall
 have hl: (c.toks.length:Int)≤9223372036854775807:=by omega
 have hlo: ∃n,cA x≤n∧dx x≤60:=⟨_,Nat.le_refl _,hn⟩
 simp[iU,iK,h1,h2,h3,hn,hd,hok,hlo,hl,z3, -Bool.forall_bool, -Bool.exists_bool]
 intro b
 refine⟨⟨_,Nat.le_refl _⟩,⟨hok,z3⟩,?_⟩
 refine aq (X:=Value×List Int) [2,3] [3] c.toks.length (fun k z=> z.2=D8 c x k) (fun z=> [(7, .own 33 z.1)]) (fun z=> [(33, .row z.1 cq 1 (z.2.map enc))]) (.slice none 0 0, []) (by simp) (by simp) (by omega) (by simp) (by simp) (by simp[D8]) (by simp) (by simp[isNilRow]) ?_ ?_
 ·rintro k ⟨v,l⟩ hk hl1
  simp only at hl1
  obtain⟨y,hy⟩:=hall k hk
  have hp:QM 21 (c,dX x,(k:Int), [], []):=⟨⟨z1,z2,z3⟩,y,hy⟩
  have hs:=KY c x k
  have hln:=MG c x k
  rw[←hl1] at hs hln
  have e0: (if(fG ⟨c,(k:Int), [], []⟩ 21 (dX x)).getD false=true then[(k:Int)] else[])=if y=true then[(k:Int)] else[]:=by rw[hy];rfl
  rw[e0] at hs
  simp[hk,h4,hp, -Bool.forall_bool, -Bool.exists_bool]
  intro w hw
  have hw:fG ⟨c,(k:Int), [], []⟩ 21 (dX x)=some w:=hw
  rw[hy] at hw
  cases hw
  refine⟨fun e=> ⟨by omega,by omega,fun v'=> .inl ?_⟩,fun e=> .inl ?_⟩
  ·rw[hs,e];simp
  ·rw[hs,e];simp
 ·rintro⟨v,l⟩ hl1
  simp only at hl1
  simp[-Bool.forall_bool, -Bool.exists_bool]
  have e:Ck c x=l:=hl1.symm
  rw[e]
  exact jQ cq rfl
end Go.Gv

namespace Go.Gv
open Go.Proofs
def nD:CC:=oX [oB 0 (.mv (.const ob))] [] [] (oX [oZ 6 fu [],oB 7 (.build [oi,oe,oe,oe,oe,ob,on] [(0,1,oN 2),(3,1,oS ⟨#[111,46,42]⟩)]),oZ 8 bO [oT 6,oT 7],oA 5 8,oB 9 (.ext (oT 5) 0),oB 10 (.ext (oT 5) 1),oA 1 9,oA 2 10] [1,2] [] (oX [oZ 12 fu [],
 oB 13 (.build [oi,oe,oe,oe,oe,ob,on] [(0,1,oN 4),(1,1,oS ⟨#[119,111,114,100]⟩),(4,1,oS ⟨#[97]⟩),(2,1,oS ⟨#[119,111,114,100]⟩)]),oB 14 (.build [oi,oe,oe,oe,oe,ob,on] [(0,1,oN 2),(1,1,oS ⟨#[112,111,115]⟩),(3,1,oS ⟨#[78]⟩)]),oB 15 (.bslice aU 7 [oT 13,oT 14]),oB 16 (.build [oi,oe,oe,oe,oe,ob,on] [(0,1,oN 8),(6,1,oT 15)]),oZ 17 bO [oT 12,oT 16],oA 11 17,
 oB 18 (.ext (oT 11) 0),oB 19 (.ext (oT 11) 1),oA 3 18,oA 4 19] [1,2,3,4] [] (oX [oA 20 2,oB 21 (.eql false false [.int] (oT 20) (oN 0)),oA 22 21,oH 23 22 (.mv (oT 4)),oH 24 22 (.eql false false [.int] (oT 23) (oN 0)),oB 25 (.pick (oT 22) (oT 24) (.const ob)),oA 26 25,oH 27 26 (.mv (oT 1)),oH 28 26 (.bslice cq 1 [oN 1]),oH 29 26 (.call lg [oT 27,oT 28]),
 oB 30 (.pick (oT 26) (oT 29) (.const ob)),oA 31 30,oH 32 31 (.mv (oT 3)),oH 33 31 (.bslice cq 1 [oN 0,oN 1,oN 2]),oH 34 31 (.call lg [oT 32,oT 33]),oB 35 (.pick (oT 31) (oT 34) (.const ob)),oA 0 35] [0] [] (.ret))))
def m8:List au:= [.tmp 0]
def Bb:List Nat:= []
theorem AJ:ay Tryz.prog jd Bb nD m8 36:=ap mixed (by kernel_rfl)
def ms:CC:=oX [oB 0 (.alloc aY [on,on,on,on,on,on,on])] [0] [0] (oX [oB 1 (.build [oe,ob] [(0,1,oS ⟨#[119,111,114,100]⟩)]),oB 2 (.build [oe,ob] [(0,1,oS ⟨#[112,111,115]⟩)]),oB 3 (.bslice dV 2 [oT 1,oT 2]),oB 4 (.bslice ai 1 [oS ⟨#[116,104,101]⟩,oS ⟨#[68]⟩]),oB 5 (.bslice ai 1 [oS ⟨#[111,108,100]⟩,oS ⟨#[65]⟩]),
 oB 6 (.bslice ai 1 [oS ⟨#[109,97,110]⟩,oS ⟨#[78]⟩]),oB 7 (.bslice cZ 1 [oT 4,oT 5,oT 6]),oB 8 (.build [oe,oi,oi,on] [(0,1,oS ⟨#[116]⟩),(2,1,oN 3)]),oB 9 (.bslice fa 4 [oT 8]),oB 10 (.build [on,on,on,on,on,on,on] [(0,1,oT 3),(1,1,oT 7),(2,1,oT 9)]),oF 7 0 10] [0] [0] (.ret))
def ma:List au:= [.cell 0 true 7]
def zb:List Nat:= []
theorem yS:ay Tryz.prog fu zb ms ma 11:=ap mixed (by kernel_rfl)
def mr:CC:=oX [oB 0 (.mv (.const on))] [] [] (oX [oB 1 (.bslice ai 1 [oS ⟨#[120]⟩,oS ⟨#[121]⟩]),oA 0 1] [0] [] (.ret))
def l9:List au:= [.tmp 0]
def za:List Nat:= []
theorem yR:ay Tryz.prog ft za mr l9 2:=ap mixed (by kernel_rfl)
-- r22_Ints range i=13 n=12 c=14 i2=25 id=0: live [0:a, 1:b] changed [] res []
def oa:CC:=oX [oB 4 (.mv (.const ob))] [0,1] [] (.seq (oX [oA 6 0,oB 7 (.len (oT 6)),oA 8 1,oB 9 (.len (oT 8)),oB 10 (.eql true false [.int] (oT 7) (oT 9))] [0,1,10] [] (.ite (oT 10) (oX [oB 4 (.mv (.const ob))] [4] [] (.ret)) (.skip))) (.keep [0,1] [] (.seq (oX [oA 11 0,oB 12 (.len (oT 11)),oB 13 (.mv (oN 0))] [0,1,12,13] [] (aw 0 13 12 14 1 (oX [oA 15 13,
 oA 5 15] [0,1,5,12,13] [] (.seq (.regd [oA 16 0,oA 17 5,oB 18 (.iaddr 1 (oT 16) (oT 17)),oC 19 1 18,oA 20 1,oA 21 5,oB 22 (.iaddr 1 (oT 20) (oT 21)),oC 23 1 22] [oB 24 (.eql true false [.int] (oT 19) (oT 23))]) (.keep [0,1,12,13,24] [] (.ite (oT 24) (oX [oB 4 (.mv (.const ob))] [4] [] (.ret)) (.skip))))) 25)) (.keep [] [] (oX [oB 4 (.mv (.const (.bool true)))] [4] [] (.ret))))))
def n7:List au:= [.tmp 4]
def GO:List Nat:= []
theorem Gm:ay Tryz.prog lg GO oa n7 26:=ap mixed (by kernel_rfl)
end Go.Gv
