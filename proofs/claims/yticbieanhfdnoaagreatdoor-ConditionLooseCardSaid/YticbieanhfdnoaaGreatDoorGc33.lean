/- A part of the framework and of the walks: T32 C53 W135 C54 W136. -/
import Derived.Test.YticbieanhfdnoaaGreatDoorGc30
import Derived.Test.YticbieanhfdnoaaGreatDoorGc21
import Derived.Test.YticbieanhfdnoaaGreatDoorGc29
import Derived.Test.YticbieanhfdnoaaGreatDoorGc32
set_option linter.unusedSimpArgs false
set_option linter.unusedVariables false
set_option linter.unusedSectionVars false
set_option maxRecDepth 100000

namespace Go.Gv
open Cod (enc dec)
def Zs (F:Rx→Int→Int→Option (Bool×Int)):PT:=fun d ds H K=> ∃id b x n k r d0,ds= [d0, .v (.int .i64 n), .bptr id b 0]∧dec d0=some x∧H id=some (.box b [.v (.int .i64 k)])∧F x n k=some r∧K (.v (.bool r.1)) (aj H id (some (.box b [.v (.int .i64 r.2)])))
theorem Pw (F:Rx→Int→Int→Option (Bool×Int)):sW (Zs F):=fun d ds H K K' hk ⟨id,b,x,n,k,r,d0,h1,h2,h3,h4,h5⟩=> ⟨id,b,x,n,k,r,d0,h1,h2,h3,h4,hk _ _ h5⟩
def QY (F:Rx→Int→Int→Option (Bool×Int)):Spc:= .gen _ (Pw F)
def WS (F:Rx→Int→Int→Option (Bool×Int)) (o:Option Rx) (n:Int) (id b:Nat) (q:Option Res) (H:aa) (K:D→aa→Prop):Prop:=
 ∃k,q=some (.box b [.v (.int .i64 k)])∧iN o fun x=> iN (F x n k) fun r=> K (.v (.bool r.1)) (aj H id (some (.box b [.v (.int .i64 r.2)])))
@[congr] theorem Zr {F:Rx→Int→Int→Option (Bool×Int)} {o o':Option Rx} {n n':Int} {id b:Nat} {q q':Option Res} {H:aa} {K:D→aa→Prop} (h1:o=o') (h2:n=n') (h3:q=q'):WS F o n id b q H K=WS F o' n' id b q' H K:=by subst h1;subst h2;subst h3;rfl
@[simp] theorem Zt (F:Rx→Int→Int→Option (Bool×Int)) (d id b:Nat) (d0:D) (n:Int) (H:aa) (K:D→aa→Prop): (QY F).pt d [d0, .v (.int .i64 n), .bptr id b 0] H K=WS F (dec d0) n id b (H id) H K:=by
 refine propext ⟨fun h=> ?_,fun h=> ?_⟩
 ·obtain⟨id',b',x,n',k,r,d0',h1,h2,h3,h4,h5⟩:=h
  cases h1
  refine⟨k,h3,?_⟩
  rw[h2]
  show iN (F x n k) _
  rw[h4]
  exact h5
 ·obtain⟨k,h1,h2⟩:=h
  cases hx:dec (X:=Rx) d0 with
  | none=> rw[hx] at h2;exact h2.elim
  | some x=>
    rw[hx] at h2
    have h2:iN (F x n k) _:=h2
    cases hr:F x n k with
    | none=> rw[hr] at h2;exact h2.elim
    | some r=> rw[hr] at h2;exact⟨id,b,x,n,k,r,d0,rfl,hx,h1,hr,h2⟩
@[simp] theorem qew (F:Rx→Int→Int→Option (Bool×Int)) (o:Option Rx) (n:Int) (id b:Nat) (k:Int) (H:aa) (K:D→aa→Prop):
 WS F o n id b (some (.box b [.v (.int .i64 k)])) H K=iN o fun x=> iN (F x n k) fun r=> K (.v (.bool r.1)) (aj H id (some (.box b [.v (.int .i64 r.2)]))):=by
 refine propext ⟨fun⟨k',h1,h2⟩=> ?_,fun h=> ⟨k,rfl,h⟩⟩
 cases h1
 exact h2
def Wr (b:Nat) (q:Bool×Int) (r:D) (H:aa):Prop:=r= .v (.bool q.1)∧H 2=some (.box b [.v (.int .i64 q.2)])
def OJ (cc:CC) (rs:List au) (S:Nat→Spc) (F:Rx→Int→Int→Option (Bool×Int)):Prop:=
 ∀b x n k q,F x n k=some q→vc S cc (oJ rs fun r H'=> Wr b q r H') (dC [enc x, .v (.int .i64 n), .bptr 2 b 0]) (aj df 2 (some (.box b [.v (.int .i64 k)])))
variable {P:Program} {S:Nat→Spc} {f:Nat} {im:List Nat} {cc:CC} {rs:List au} {N:Nat}
theorem H6 {F:Rx→Int→Int→Option (Bool×Int)} (hS: ∀f,Tri P f (S f).pt) (h:ay P f im cc rs N) (hN:3≤N) (hw:OJ cc rs S F):Tri P f (QY F).pt:=by
 obtain⟨qn,enter,fn,code,h1,h2,h3,h4,h5⟩:=h
 refine mM hS qn h1 h2 enter h3 h4 h5 ?_
 rintro ds H d K ⟨id,b,x,n,k,r,d0,rfl,hd,hid,hF,hK⟩
 have h0: ∀i q,aj df 2 (some (.box b [.v (.int .i64 k)])) i=some q→i=2∧q= .box b [.v (.int .i64 k)]:=by
  intro i q h
  by_cases e:i=2
  ·subst e
   simp only[aj,if_true] at h
   cases h
   exact⟨rfl,rfl⟩
  ·simp[aj,e,df] at h
 refine⟨hN, [enc x, .v (.int .i64 n), .bptr 2 b 0],aj df 2 (some (.box b [.v (.int .i64 k)])),fun i=> if i=2 then id else i, .cons (Cod.le _ _ hd) (.cons (.same _) (.cons (.bptr _ _ _ _) .nil)),fun i q h=> ?_,fun i j q q' h h' e=> ?_,_,hw b x n k r hF,?_⟩
 ·obtain⟨rfl,rfl⟩:=h0 i q h
  exact hid
 ·exact(h0 i q h).1.trans (h0 j q' h').1.symm
 ·rintro r' H' ⟨rfl,k2⟩
  refine⟨.v (.bool r.1),df,aj H id (some (.box b [.v (.int .i64 r.2)])),fun i=> if i=id then some 2 else none, .same _,fun j q h=> by simp[df] at h,hK,fun i s hi=> ?_,fun i j k' s q hi hj e1 e2=> ?_⟩
  ·by_cases e:i=id
   ·subst e
    simp only[aj,if_true] at hi ⊢
    cases hi
    exact k2
   ·simp only[aj,e,if_false] at hi ⊢
    refine⟨hi,fun k'' q h he=> ?_⟩
    obtain⟨rfl,rfl⟩:=h0 k'' q h
    exact e he.symm
  ·by_cases c1:i=id
   ·by_cases c2:j=id
    ·exact c1.trans c2.symm
    ·simp[c2] at e2
   ·simp[c1] at e1
end Go.Gv

namespace Go.Gv
open Go.Proofs
-- regex_small range i=25 n=24 c=26 i2=35 id=0: live [1:depth, 2:nodes, 23:] changed [] res [2]
def il:CC:=oX [oB 3 (.box aA true (oT 0)),oB 6 (.mv (.const ob))] [1,2,3] [2] (oX [oA 9 2,oG 10 9,oC 11 1 10,oB 12 (.arith .add (oT 11) (oN 1)),oG 13 9,oF 1 13 12] [1,2,3] [2] (.seq (oX [oA 14 1,oB 15 (.cmp .gtr (oT 14) (oN 40)),oA 16 15,oI 17 16 (.mv (oT 2)),oI 18 16 (.nilck (oT 17)),oI 19 16 (.load false 1 (oT 18)),oI 20 16 (.cmp .gtr (oT 19) (oN 200)),
 oB 21 (.pick (oT 16) (.const (.bool true)) (oT 20))] [1,2,3,21] [2] (.ite (oT 21) (oX [oB 6 (.mv (.const ob))] [6] [2] (.ret)) (.skip))) (.keep [1,2,3] [2] (.seq (oX [oE 22 4 3,oC 23 1 22,oB 24 (.len (oT 23)),oB 25 (.mv (oN 0))] [1,2,23,24,25] [2] (aw 0 25 24 26 1 (oX [oB 27 (.iaddr 5 (oT 23) (oT 25)),oD 28 5 27,oB 8 (.alloc aA [oi,oi,oi,on,on]),
 oF 5 8 28] [1,2,8,23,24,25] [2,8] (oX [oD 29 5 8,oA 30 1,oB 31 (.arith .add (oT 30) (oN 1)),oA 32 2,oZ 33 dZ [oT 29,oT 31,oT 32],oB 34 (.not (oT 33))] [1,2,23,24,25,34] [2] (.ite (oT 34) (oX [oB 6 (.mv (.const ob))] [6] [2] (.ret)) (.skip)))) 35)) (.keep [] [2] (oX [oB 6 (.mv (.const (.bool true)))] [6] [2] (.ret)))))))
def gN:List au:= [.tmp 6]
def A3:List Nat:= [3]
theorem AB:ay Tryz.prog dZ A3 il gN 36:=ap mixed (by kernel_rfl)
-- regex_validSet range i=7 n=6 c=8 i2=43 id=0: live [0:l, 5:] changed [] res []
def kD:CC:=oX [oB 2 (.mv (.const ob))] [0] [] (.seq (oX [oA 5 0,oB 6 (.len (oT 5)),oB 7 (.mv (oN 0))] [0,5,6,7] [] (aw 0 7 6 8 1 (oX [oA 9 7,oB 10 (.iaddr 2 (oT 5) (oT 7)),oD 11 2 10,oB 4 (.alloc dQ [.int .i32 0,.int .i32 0]),oA 3 9,oF 2 4 11] [0,3,4,5,6,7] [4] (.seq (.regd [oE 12 0 4,oC 13 1 12,oB 14 (.cmp .lss (oT 13) (.const (.int .i32 0))),oA 15 14,
 oI 16 15 (.faddr 0 (oT 4)),oI 17 15 (.load false 1 (oT 16)),oI 18 15 (.faddr 1 (oT 4)),oI 19 15 (.load false 1 (oT 18)),oI 20 15 (.cmp .gtr (oT 17) (oT 19)),oB 21 (.pick (oT 15) (.const (.bool true)) (oT 20)),oA 22 21,oI 23 22 (.faddr 1 (oT 4)),oI 24 22 (.load false 1 (oT 23)),oI 25 22 (.cmp .gtr (oT 24) (.const (.int .i32 1114111))),oB 26 (.pick (oT 22) (.const (.bool true)) (oT 25)),
 oA 27 26,oI 28 27 (.mv (oT 3)),oI 29 27 (.cmp .gtr (oT 28) (oN 0)),oI 30 27 (.mv (oT 29)),oH 31 30 (.faddr 0 (oT 4)),oH 32 30 (.load false 1 (oT 31)),oH 33 30 (.mv (oT 0)),oH 34 30 (.mv (oT 3)),oH 35 30 (.arith .sub (oT 34) (oN 1)),oH 36 30 (.iaddr 2 (oT 33) (oT 35)),oH 37 30 (.faddr 1 (oT 36)),oH 38 30 (.load false 1 (oT 37)),oH 39 30 (.arith .add (oT 38) (.const (.int .i32 2)))] [
 oH 40 30 (.cmp .lss (oT 32) (oT 39)),oI 41 27 (.pick (oT 30) (oT 40) (.const ob)),oB 42 (.pick (oT 27) (.const (.bool true)) (oT 41))]) (.keep [0,5,6,7,42] [] (.ite (oT 42) (oX [oB 2 (.mv (.const ob))] [2] [] (.ret)) (.skip))))) 43)) (.keep [0] [] (oX [oA 44 0,oB 45 (.len (oT 44)),oB 46 (.cmp .gtr (oT 45) (oN 0)),oA 2 46] [2] [] (.ret))))
def jW:List au:= [.tmp 2]
def wj:List Nat:= []
theorem vR:ay Tryz.prog fl wj kD jW 47:=ap mixed (by kernel_rfl)
-- regex_validNode range i=36 n=35 c=37 i2=50 id=0: live [1:e, 3:n, 34:] changed [] res []
def du:CC:=oX [oB 1 (.box aA true (oT 0)),oB 2 (.mv (.const ob))] [1] [] (.seq (oX [oE 6 0 1,oC 7 1 6,oB 8 (.eql true false [.int] (oT 7) (oN 1)),oA 9 8,oH 10 9 (.faddr 3 (oT 1)),oH 11 9 (.load false 1 (oT 10)),oH 12 9 (.len (oT 11)),oH 13 9 (.cmp .gtr (oT 12) (oN 0)),oB 14 (.pick (oT 9) (oT 13) (.const ob)),oA 15 14,oI 16 15 (.faddr 0 (oT 1)),
 oI 17 15 (.load false 1 (oT 16)),oI 18 15 (.eql true false [.int] (oT 17) (oN 4)),oI 19 15 (.mv (oT 18)),oH 20 19 (.faddr 1 (oT 1)),oH 21 19 (.load false 1 (oT 20)),oH 22 19 (.eql true false [.int] (oT 21) (oN 0)),oH 23 19 (.mv (oT 22)),oI 24 23 (.faddr 2 (oT 1)),oI 25 23 (.load false 1 (oT 24)),oI 26 23 (.eql true false [.int] (oT 25) (oN 0)),
 oH 27 19 (.pick (oT 23) (.const (.bool true)) (oT 26)),oI 28 15 (.pick (oT 19) (oT 27) (.const ob)),oB 29 (.pick (oT 15) (.const (.bool true)) (oT 28))] [1,29] [] (.ite (oT 29) (oX [oB 2 (.mv (.const ob))] [2] [] (.ret)) (.skip))) (.keep [1] [] (oX [oE 30 4 1,oC 31 1 30,oB 32 (.len (oT 31)),oA 3 32] [1,3] [] (.seq (oX [oE 33 4 1,oC 34 1 33,oB 35 (.len (oT 34)),
 oB 36 (.mv (oN 0))] [1,3,34,35,36] [] (aw 0 36 35 37 1 (oX [oB 38 (.iaddr 5 (oT 34) (oT 36)),oD 39 5 38,oB 5 (.alloc aA [oi,oi,oi,on,on]),oF 5 5 39] [1,3,5,34,35,36] [5] (oX [oE 40 0 5,oC 41 1 40,oE 42 0 1,oC 43 1 42,oB 44 (.eql false false [.int] (oT 41) (oT 43)),oA 45 44,oH 46 45 (.faddr 0 (oT 1)),oH 47 45 (.load false 1 (oT 46)),
 oH 48 45 (.eql true false [.int] (oT 47) (oN 4)),oB 49 (.pick (oT 45) (oT 48) (.const ob))] [1,3,34,35,36,49] [] (.ite (oT 49) (oX [oB 2 (.mv (.const ob))] [2] [] (.ret)) (.skip)))) 50)) (.keep [1,3] [] (.seq (oX [oE 51 0 1,oC 52 1 51] [1,3,52] [] (.block 2 (oX [oB 54 (.eql false false [.int] (oT 52) (oN 1)),oA 53 54] [1,3,52,53] [] (.ite (oT 53) (oX [oA 55 3,
 oB 56 (.eql false false [.int] (oT 55) (oN 0)),oA 57 56,oH 58 57 (.faddr 3 (oT 1)),oH 59 57 (.load false 1 (oT 58)),oH 60 57 (.call fl [oT 59]),oB 61 (.pick (oT 57) (oT 60) (.const ob)),oA 2 61] [2] [] (.ret)) (oX [oB 63 (.eql false false [.int] (oT 52) (oN 2)),oA 62 63] [1,3,52,62] [] (.ite (oT 62) (oX [oA 64 3,oB 65 (.eql true false [.int] (oT 64) (oN 1)),
 oA 2 65] [2] [] (.ret)) (oX [oB 67 (.eql false false [.int] (oT 52) (oN 3)),oA 66 67] [1,3,52,66] [] (.ite (oT 66) (oX [oA 68 3,oB 69 (.cmp .gtr (oT 68) (oN 1)),oA 2 69] [2] [] (.ret)) (oX [oB 71 (.eql false false [.int] (oT 52) (oN 4)),oA 70 71] [1,3,70] [] (.ite (oT 70) (oX [oA 72 3,oB 73 (.eql false false [.int] (oT 72) (oN 1)),oA 74 73,oH 75 74 (.faddr 1 (oT 1)),
 oH 76 74 (.load false 1 (oT 75)),oH 77 74 (.cmp .geq (oT 76) (oN 0)),oB 78 (.pick (oT 74) (oT 77) (.const ob)),oA 79 78,oH 80 79 (.faddr 1 (oT 1)),oH 81 79 (.load false 1 (oT 80)),oH 82 79 (.cmp .leq (oT 81) (oN 16)),oB 83 (.pick (oT 79) (oT 82) (.const ob)),oA 84 83,oH 85 84 (.faddr 2 (oT 1)),oH 86 84 (.load false 1 (oT 85)),oH 87 84 (.eql false false [.int] (oT 86) (oN (-1))),
 oH 88 84 (.mv (oT 87)),oI 89 88 (.faddr 2 (oT 1)),oI 90 88 (.load false 1 (oT 89)),oI 91 88 (.faddr 1 (oT 1)),oI 92 88 (.load false 1 (oT 91)),oI 93 88 (.cmp .geq (oT 90) (oT 92)),oI 94 88 (.mv (oT 93)),oH 95 94 (.faddr 2 (oT 1)),oH 96 94 (.load false 1 (oT 95)),oH 97 94 (.cmp .leq (oT 96) (oN 16)),oI 98 88 (.pick (oT 94) (oT 97) (.const ob)),
 oH 99 84 (.pick (oT 88) (.const (.bool true)) (oT 98)),oB 100 (.pick (oT 84) (oT 99) (.const ob)),oA 2 100] [2] [] (.ret)) (.skip))))))))))) (.keep [] [] (oX [oB 2 (.mv (.const ob))] [2] [] (.ret)))))))))
def dm:List au:= [.tmp 2]
def uF:List Nat:= [1]
theorem ue:ay Tryz.prog eG uF du dm 101:=ap mixed (by kernel_rfl)
-- regex_validNodes range i=11 n=10 c=12 i2=18 id=0: live [9:] changed [] res []
def iR:CC:=oX [oB 1 (.box aA true (oT 0)),oB 2 (.mv (.const ob))] [1] [] (.seq (oX [oD 5 5 1,oZ 6 eG [oT 5],oB 7 (.not (oT 6))] [1,7] [] (.ite (oT 7) (oX [oB 2 (.mv (.const ob))] [2] [] (.ret)) (.skip))) (.keep [1] [] (.seq (oX [oE 8 4 1,oC 9 1 8,oB 10 (.len (oT 9)),oB 11 (.mv (oN 0))] [9,10,11] [] (aw 0 11 10 12 1 (oX [
 oB 13 (.iaddr 5 (oT 9) (oT 11)),oD 14 5 13,oB 4 (.alloc aA [oi,oi,oi,on,on]),oF 5 4 14] [4,9,10,11] [4] (oX [oD 15 5 4,oZ 16 cj [oT 15],oB 17 (.not (oT 16))] [9,10,11,17] [] (.ite (oT 17) (oX [oB 2 (.mv (.const ob))] [2] [] (.ret)) (.skip)))) 18)) (.keep [] [] (oX [oB 2 (.mv (.const (.bool true)))] [2] [] (.ret))))))
def iH:List au:= [.tmp 2]
def tz:List Nat:= [1]
theorem tr:ay Tryz.prog cj tz iR iH 19:=ap mixed (by kernel_rfl)
-- regex_positions range i=12 n=11 c=13 i2=21 id=0: live [1:e, 3:n, 10:] changed [3] res []
def f0:CC:=oX [oB 1 (.box aA true (oT 0)),oB 2 (.mv (oN 0))] [1] [] (.seq (oX [oE 6 0 1,oC 7 1 6,oB 8 (.eql false false [.int] (oT 7) (oN 1))] [1,8] [] (.ite (oT 8) (oX [oB 2 (.mv (oN 1))] [2] [] (.ret)) (.skip))) (.keep [1] [] (oX [oB 3 (.mv (oN 0))] [1,3] [] (.seq (oX [oE 9 4 1,oC 10 1 9,oB 11 (.len (oT 10)),
 oB 12 (.mv (oN 0))] [1,3,10,11,12] [] (aw 0 12 11 13 1 (oX [oB 14 (.iaddr 5 (oT 10) (oT 12)),oD 15 5 14,oB 5 (.alloc aA [oi,oi,oi,on,on]),oF 5 5 15] [1,3,5,10,11,12] [5] (.reg [oA 16 3,oD 17 5 5,oZ 18 cE [oT 17],oB 19 (.arith .add (oT 16) (oT 18)),oB 20 (.mm false [oT 19,oN 65]),oA 3 20])) 21)) (.keep [1,3] [] (.seq (.block 2 (oX [oE 27 0 1,oC 28 1 27,
 oB 29 (.eql true false [.int] (oT 28) (oN 4)),oA 26 29] [1,3,26] [] (.ite (oT 26) (oX [oA 30 3,oA 2 30] [2] [] (.ret)) (oX [oE 32 2 1,oC 33 1 32,oB 34 (.eql false false [.int] (oT 33) (oN (-1))),oA 31 34] [1,3,31] [] (.ite (oT 31) (.reg [oA 35 3,oE 36 1 1,oC 37 1 36,oB 38 (.mm true [oT 37,oN 1]),oB 39 (.arith .mul (oT 35) (oT 38)),oA 3 39]) (.reg [oA 22 3,oE 23 2 1,oC 24 1 23,
 oB 25 (.arith .mul (oT 22) (oT 24)),oA 3 25])))))) (.keep [3] [] (oX [oA 40 3,oB 41 (.mm false [oT 40,oN 65]),oA 2 41] [2] [] (.ret)))))))))
def fM:List au:= [.tmp 2]
def uG:List Nat:= [1]
theorem uf:ay Tryz.prog cE uG f0 fM 42:=ap mixed (by kernel_rfl)
def kG:CC:=oX [oB 1 (.box aA true (oT 0)),oB 2 (.mv (oN 0))] [1] [] (oX [oB 3 (.alloc cq [oi]),.op none none (.store none 1 (oT 3) (oN 0))] [1,3] [3] (.seq (.block 0 (oX [oD 5 5 1,oZ 6 dZ [oT 5,oN 1,oT 3],oB 7 (.not (oT 6)),oA 4 7] [1,4] [3] (.ite (oT 4) (oX [oB 2 (.mv (oN 2))] [2] [] (.ret)) (oX [oD 9 5 1,oZ 10 cj [oT 9],
 oB 11 (.not (oT 10)),oA 8 11] [1,8] [] (.ite (oT 8) (oX [oB 2 (.mv (oN 1))] [2] [] (.ret)) (oX [oD 13 5 1,oZ 14 cE [oT 13],oB 15 (.cmp .gtr (oT 14) (oN 64)),oA 12 15] [12] [] (.ite (oT 12) (oX [oB 2 (.mv (oN 2))] [2] [] (.ret)) (.skip)))))))) (.keep [] [] (oX [oB 2 (.mv (oN 0))] [2] [] (.ret)))))
def jZ:List au:= [.tmp 2]
def wm:List Nat:= [1]
theorem vU:ay Tryz.prog cP wm kG jZ 16:=ap mixed (by kernel_rfl)
end Go.Gv

namespace Go.Gv
open Cod (enc dec)
variable {S S0:Nat→Spc}
theorem yd {X:Type} {l:List X} {k:Nat} (h:k < l.length): ∃x,l[k]?=some x:=⟨_,List.getElem?_eq_getElem h⟩
theorem Bz {X:Type} {l:List X} {k:Nat} {x:X} (h:l[k]?=some x):l.drop k=x::l.drop (k+1):=by
 obtain⟨h1,h2⟩:=List.getElem?_eq_some_iff.1 h
 rw[List.drop_eq_getElem_cons h1,h2]
theorem B2 (n:Nat) (h1:S dZ=QY (lV n)):OJ il gN S (lV (n+1)):=by
 rintro b x d k ⟨ok,m⟩ hF
 have hF0:=hF
 simp only[lV] at hF
 split at hF
 ·cases hF
 rename_i hrng
 have hin:InR .i64 (k+1):=by simp only[InR];omega
 split at hF
 ·rename_i hbig
  cases hF
  by_cases h40:40 < d
  ·simp[il,gN,hin,h40, -Bool.forall_bool, -Bool.exists_bool]
   exact⟨rfl,by simp⟩
  ·have h200:200 < k+1:=by omega
   simp[il,gN,hin,h40,h200, -Bool.forall_bool, -Bool.exists_bool]
   exact⟨rfl,by simp⟩
 ·rename_i hbig
  have h40: ¬40 < d:=by omega
  have h200: ¬200 < k+1:=by omega
  simp[il,gN,hin,h40,h200, -Bool.forall_bool, -Bool.exists_bool]
  intro hkl
  refine aq (X:=Int) [1,2,23] [] x.kids.length (fun i z=> UA (lV n) d (x.kids.drop i) z=some (ok,m)) (fun z=> []) (fun z=> [(2, .box b [.v (.int .i64 z)])]) (k+1) (by simp) (by simp) (by omega) (by simp) (by simp) hF (by simp) (by simp) ?_ ?_
  ·rintro i z hi hz
   obtain⟨y,hy⟩:=yd hi
   obtain⟨_,hgy⟩:=List.getElem?_eq_some_iff.1 hy
   rw[Bz hy,UA] at hz
   obtain⟨⟨t,m'⟩,hs,hz⟩:=Option.bind_eq_some_iff.1 hz
   simp only at hz
   have hin2:InR .i64 (d+1):=by simp only[InR];omega
   cases t with
   | true=>
     simp only[if_true] at hz
     simp[h1,hi,hy,hgy,hs,hin2, -Bool.forall_bool, -Bool.exists_bool]
     exact⟨m',hz, .inl rfl⟩
   | false=>
     simp only[Bool.false_eq_true,if_false] at hz
     cases hz
     simp[h1,hi,hy,hgy,hs,hin2, -Bool.forall_bool, -Bool.exists_bool]
     exact⟨rfl,by simp⟩
  ·rintro z hz
   rw[List.drop_length,UA] at hz
   cases hz
   simp[-Bool.forall_bool, -Bool.exists_bool]
   exact⟨rfl,by simp⟩
abbrev Aa:Spc:=cv (a1 (List Rng)) (fun l=> JQ l=true) (enc (X:=Bool)) fun _ y=> y=true
theorem wX:aN kD jW S (a1 (List Rng)) (fun l=> JQ l=true) (enc (X:=Bool)) fun _ y=> y=true:=by
 rintro l hl
 obtain⟨r,rfl⟩: ∃r,l= [r]:=by
  match l,hl with
  | [r],_=> exact⟨r,rfl⟩
 simp[JQ] at hl
 simp[kD,jW, -Bool.forall_bool, -Bool.exists_bool]
 refine aq (X:=Unit) [0,5] [] 1 (fun _ _=> True) (fun _=> []) (fun _=> []) () (by simp) (by simp) (by omega) (by simp) (by simp) trivial (by simp) (by simp) ?_ ?_
 ·rintro k -hk -
  obtain rfl:k=0:=by omega
  have n1: ¬r.fr.val < 0:=by omega
  have n2: ¬r.to.val < r.fr.val:=by omega
  have n3: ¬1114111 < r.to.val:=by omega
  simp[n1,n2,n3, -Bool.forall_bool, -Bool.exists_bool]
 ·rintro - -
  simp[-Bool.forall_bool, -Bool.exists_bool]
abbrev xi:Spc:=cv (a1 Rx) (fun x=> UR x=true) (enc (X:=Bool)) fun _ y=> y=true
set_option maxHeartbeats 2000000 in
theorem vh (h1:S fl=Aa):aN du dm S (a1 Rx) (fun x=> UR x=true) (enc (X:=Bool)) fun _ y=> y=true:=by
 rintro⟨op,mn,mx,rs,ks⟩ hx
 have hx:UR ⟨op,mn,mx,rs,ks⟩=true:=hx
 unfold UR at hx
 simp only at hx
 split at hx
 ·rename_i e
  subst e
  simp at hx
  obtain⟨⟨⟨rfl,rfl⟩,rfl⟩,hs⟩:=hx
  simp[du,dm,h1,hs, -Bool.forall_bool, -Bool.exists_bool]
  refine aq (X:=Unit) [1,3] [] 0 (fun _ _=> True) (fun _=> []) (fun _=> []) () (by simp) (by simp) (by omega) (by simp) (by simp) trivial (by simp) (by simp) (fun k x hk=> absurd hk (by omega)) (fun _ _=> ?_)
  simp[h1,hs, -Bool.forall_bool, -Bool.exists_bool]
 split at hx
 ·rename_i e1 e
  subst e
  simp at hx
  obtain⟨⟨⟨⟨rfl,rfl⟩,rfl⟩,hl1,hl3⟩,hk2⟩:=hx
  have hlt: (ks.length:Int)≤9223372036854775807:=by omega
  simp[du,dm,hlt, -Bool.forall_bool, -Bool.exists_bool]
  refine aq (X:=Unit) [1,3,34] [] ks.length (fun _ _=> True) (fun _=> []) (fun _=> []) () (by simp) (by simp) (by omega) (by simp) (by simp) trivial (by simp) (by simp) ?_ ?_
  ·rintro k -hk -
   obtain⟨y,hy⟩:=yd hk
   obtain⟨_,hgy⟩:=List.getElem?_eq_some_iff.1 hy
   have hop:=hk2 y (List.mem_of_getElem? hy)
   simp[hk,hy,hgy,hop, -Bool.forall_bool, -Bool.exists_bool]
  ·rintro - -
   have hl1': ¬ (ks.length:Int)=1:=by omega
   simp[hl1,hl1', -Bool.forall_bool, -Bool.exists_bool]
 split at hx
 ·rename_i e1 e2 e
  subst e
  simp at hx
  obtain⟨⟨⟨⟨rfl,rfl⟩,rfl⟩,hl1,hl3⟩,hk2⟩:=hx
  have hlt: (ks.length:Int)≤9223372036854775807:=by omega
  simp[du,dm,hlt, -Bool.forall_bool, -Bool.exists_bool]
  refine aq (X:=Unit) [1,3,34] [] ks.length (fun _ _=> True) (fun _=> []) (fun _=> []) () (by simp) (by simp) (by omega) (by simp) (by simp) trivial (by simp) (by simp) ?_ ?_
  ·rintro k -hk -
   obtain⟨y,hy⟩:=yd hk
   obtain⟨_,hgy⟩:=List.getElem?_eq_some_iff.1 hy
   have hop:=hk2 y (List.mem_of_getElem? hy)
   simp[hk,hy,hgy,hop, -Bool.forall_bool, -Bool.exists_bool]
  ·rintro - -
   have hl1': (1:Int) < ks.length:=by omega
   simp[hl1,hl1', -Bool.forall_bool, -Bool.exists_bool]
 split at hx
 ·rename_i e1 e2 e3 e
  subst e
  simp at hx
  obtain⟨⟨⟨g0,g1,g2⟩,rfl⟩,hl1⟩:=hx
  obtain⟨k0,rfl⟩: ∃k,ks= [k]:=List.length_eq_one_iff.1 hl1
  simp[du,dm, -Bool.forall_bool, -Bool.exists_bool]
  refine aq (X:=Unit) [1,3,34] [] 1 (fun _ _=> True) (fun _=> []) (fun _=> []) () (by simp) (by simp) (by omega) (by simp) (by simp) trivial (by simp) (by simp) ?_ ?_
  ·rintro k -hk -
   obtain rfl:k=0:=by omega
   simp[-Bool.forall_bool, -Bool.exists_bool]
  ·rintro - -
   simp[g0,g1, -Bool.forall_bool, -Bool.exists_bool]
   exact fun h=> ⟨fun _=> by omega,by omega⟩
 ·cases hx
abbrev mV (n:Nat):Spc:=cv (a1 Rx) (fun x=> La n x=true) (enc (X:=Bool)) fun _ y=> y=true
theorem tS (n:Nat) (h1:S eG=xi) (h2:S cj=mV n):aN iR iH S (a1 Rx) (fun x=> La (n+1) x=true) (enc (X:=Bool)) fun _ y=> y=true:=by
 rintro x hx
 have hx:La (n+1) x=true:=hx
 simp only[La,Bool.and_eq_true,List.all_eq_true] at hx
 obtain⟨hx1,hx2⟩:=hx
 simp[iR,iH,h1,hx1, -Bool.forall_bool, -Bool.exists_bool]
 intro hkl
 refine aq (X:=Unit) [9] [] x.kids.length (fun _ _=> True) (fun _=> []) (fun _=> []) () (by simp) (by simp) (by omega) (by simp) (by simp) trivial (by simp) (by simp) ?_ ?_
 ·rintro k -hk -
  obtain⟨y,hy⟩:=yd hk
  obtain⟨_,hgy⟩:=List.getElem?_eq_some_iff.1 hy
  have hp:=hx2 y (List.mem_of_getElem? hy)
  simp[h2,hk,hy,hgy,hp, -Bool.forall_bool, -Bool.exists_bool]
 ·rintro - -
  simp[-Bool.forall_bool, -Bool.exists_bool]
abbrev Ad (n:Nat):Spc:=cv (a1 Rx) (fun x=> ∃m,AA n x=some m) (enc (X:=Int)) fun x y=> AA n x=some y
set_option maxHeartbeats 1000000 in
theorem vi (n:Nat) (h1:S cE=Ad n):aN f0 fM S (a1 Rx) (fun x=> ∃m,AA (n+1) x=some m) (enc (X:=Int)) fun x y=> AA (n+1) x=some y:=by
 rintro x ⟨m,hm⟩
 have hm0:=hm
 simp only[AA] at hm
 split at hm
 ·rename_i e
  cases hm
  simp[f0,fM,e,hm0, -Bool.forall_bool, -Bool.exists_bool]
 rename_i e1
 obtain⟨k,hk,hm⟩:=Option.bind_eq_some_iff.1 hm
 simp[f0,fM,e1, -Bool.forall_bool, -Bool.exists_bool]
 intro hkl
 refine aq (X:=Int) [1,10] [] x.kids.length (fun i z=> UM (AA n) (x.kids.drop i) z=some k) (fun z=> [(3,enc z)]) (fun _=> []) 0 (by simp) (by simp) (by omega) (by simp) (by simp) hk (by simp) (by simp) ?_ ?_
 ·rintro i z hi hz
  obtain⟨y,hy⟩:=yd hi
  obtain⟨_,hgy⟩:=List.getElem?_eq_some_iff.1 hy
  rw[Bz hy,UM] at hz
  obtain⟨v,hv,hz⟩:=Option.bind_eq_some_iff.1 hz
  split at hz
  ·cases hz
  rename_i hr
  have hin:InR .i64 (z+v):=by simp only[InR];omega
  have hp: ∃m,AA n y=some m:=⟨v,hv⟩
  simp[h1,hi,hy,hgy,hv, -Bool.forall_bool, -Bool.exists_bool]
  exact⟨hin,hz⟩
 ·rintro z hz
  rw[List.drop_length,UM] at hz
  cases hz
  split at hm
  ·rename_i e4
   cases hm
   simp[e4,hm0, -Bool.forall_bool, -Bool.exists_bool]
  ·rename_i e4
   have e4:x.op=4:=by omega
   unfold UO at hm
   split at hm
   ·rename_i emx
    split at hm
    ·rename_i hb
     cases hm
     have hin:InR .i64 (k*max x.mn 1):=by simp only[InR];omega
     simp[e4,emx,hin,hm0, -Bool.forall_bool, -Bool.exists_bool]
    ·cases hm
   ·rename_i emx
    split at hm
    ·rename_i hb
     cases hm
     have hin:InR .i64 (k*x.mx):=by simp only[InR];omega
     simp[e4,emx,hin,hm0, -Bool.forall_bool, -Bool.exists_bool]
    ·cases hm
abbrev Ac:Spc:=cv (a1 Rx) (fun x=> tY 50 x=true) (enc (X:=Int)) fun x y=> y=0
theorem w4 (h1:S dZ=QY (lV 50)) (h2:S cj=mV 50) (h3:S cE=Ad 50):aN kG jZ S (a1 Rx) (fun x=> tY 50 x=true) (enc (X:=Int)) fun x y=> y=0:=by
 rintro x hx
 have hx:tY 50 x=true:=hx
 simp only[tY,Bool.and_eq_true] at hx
 obtain⟨⟨g1,g2⟩,g3⟩:=hx
 obtain⟨⟨t,k⟩,hs,rfl⟩: ∃r,lV 50 x 1 0=some r∧r.1=true:=by
  cases h:lV 50 x 1 0 with
  | none=> rw[h] at g1;cases g1
  | some r=> rw[h] at g1;exact⟨r,rfl,g1⟩
 obtain⟨m,hm,hm64⟩: ∃m,AA 50 x=some m∧m≤64:=by
  cases h:AA 50 x with
  | none=> rw[h] at g3;cases g3
  | some r=> rw[h] at g3;exact⟨r,rfl,of_decide_eq_true g3⟩
 have n64: ¬64 < m:=by omega
 simp[kG,jZ,h1,h2,h3,hs,g2,hm,n64, -Bool.forall_bool, -Bool.exists_bool]
 exact hm64
end Go.Gv

namespace Go.Gv
open Go.Proofs
-- regex_Parse while id=0: live [0:s, 2:, 5:i] changed [5] res [2, 10]
def nw:CC:=oX [oB 2 (.alloc aA [oi,oi,oi,on,on]),oB 3 (.mv (oN 0)),oB 4 (.mv (oN 0))] [0,2] [2,10] (.seq (oX [oA 13 0,oB 14 (.slen (oT 13)),oB 15 (.cmp .gtr (oT 14) (oN 200))] [0,2,15] [2,10] (.ite (oT 15) (oX [oB 16 (.build [oi,oi,oi,on,on] []),.op none none (.store (some 2) 5 (oT 2) (oT 16)),oB 3 (.mv (oN 0)),oB 4 (.mv (oN 2))] [2,3,4] [2,10] (.ret)) (.skip)))
 (.keep [0,2] [2,10] (.seq (oX [oB 5 (.mv (oN 0))] [0,2,5] [2,10] (.block 0 (.loop 1 (.seq (.block 1 (oX [oA 20 0,oA 21 5,oZ 22 kA [oT 20,oT 21],oA 19 22,oB 23 (.ext (oT 19) 0),oB 24 (.ext (oT 19) 1),oB 25 (.ext (oT 19) 2),oB 26 (.ext (oT 19) 3),oA 6 23,oA 7 24,oA 8 25,oA 9 26] [0,2,5,6,7,8,9] [2,10] (.seq (oX [oA 27 9,
 oB 28 (.not (oT 27))] [0,2,5,6,7,8,28] [2,10] (.ite (oT 28) (.exit 0) (.skip))) (.keep [0,2,5,6,7,8] [2,10] (oX [oA 29 6,oB 30 (.eql false false [.int] (oT 29) (.const (.int .i32 65533))),oA 31 30,oH 32 31 (.mv (oT 8)),oH 33 31 (.eql false false [.int] (oT 32) (oN 1)),oB 34 (.pick (oT 31) (oT 33) (.const ob))] [0,2,5,7,34] [2,10] (.ite (oT 34) (oX [oB 35 (.build [oi,oi,oi,on,on] []),
 oA 36 7,.op none none (.store (some 2) 5 (oT 2) (oT 35)),oA 3 36,oB 4 (.mv (oN 7))] [2,3,4] [2,10] (.ret)) (.skip))))))) (.keep [0,2,5] [2,10] (.reg [oA 17 5,oB 18 (.arith .add (oT 17) (oN 1)),oA 5 18])))))) (.keep [0,2] [2,10] (oX [oA 37 0,oB 38 (.build [oe,oi,oi,oi] [(0,1,oT 37)]),oB 10 (.alloc yD [oe,oi,oi,oi]),oF 4 10 38] [0,2,10] [2,10] (oX [
 oZ 40 cO [oT 10],oA 39 40,oB 41 (.ext (oT 39) 0),oB 42 (.ext (oT 39) 1),oB 11 (.alloc aA [oi,oi,oi,on,on]),oF 5 11 41,oA 12 42] [0,2,10,11,12] [2,10,11] (.seq (oX [oA 43 12,oA 44 43,oH 45 44 (.faddr 1 (oT 10)),oH 46 44 (.load false 1 (oT 45)),oH 47 44 (.mv (oT 0)),oH 48 44 (.slen (oT 47)),oH 49 44 (.cmp .lss (oT 46) (oT 48)),
 oB 50 (.pick (oT 44) (oT 49) (.const ob))] [2,10,11,12,50] [2,10,11] (.ite (oT 50) (.reg [oE 51 1 10,oC 52 1 51,oZ 53 cY [oT 10,oT 52,oN 3],oA 12 53]) (.skip))) (.keep [2,10,11,12] [2,10,11] (.seq (oX [oA 54 12,oB 55 (.not (oT 54))] [2,10,11,55] [2,10,11] (.ite (oT 55) (.seq (.regd [oB 56 (.build [oi,oi,oi,on,on] []),oE 57 2 10,oC 58 1 57,oE 59 3 10,oC 60 1 59,
 .op none none (.store (some 2) 5 (oT 2) (oT 56)),oA 3 58] [oA 4 60]) (.keep [2,3,4] [2,10] (.ret))) (.skip))) (.keep [2,11] [2,10,11] (.seq (oX [oD 61 5 11,oZ 62 cP [oT 61],oB 63 (.eql true false [.int] (oT 62) (oN 0))] [2,11,63] [2,10,11] (.ite (oT 63) (oX [oB 64 (.build [oi,oi,oi,on,on] []),.op none none (.store (some 2) 5 (oT 2) (oT 64)),oB 3 (.mv (oN 0)),
 oB 4 (.mv (oN 2))] [2,3,4] [2,10] (.ret)) (.skip))) (.keep [2,11] [2,10,11] (oX [oD 65 5 11,.op none none (.store (some 2) 5 (oT 2) (oT 65)),oB 3 (.mv (oN 0)),oB 4 (.mv (oN 0))] [2,3,4] [2,10] (.ret))))))))))))))
def mZ:List au:= [.cell 2 true 5, .tmp 3, .tmp 4]
def A5:List Nat:= [2002002]
theorem AD:ay Tryz.prog d6 A5 nw mZ 66:=ap mixed (by kernel_rfl)
def nG:CC:=oX [oB 2 (.mv (oN 0))] [0] [] (oX [oA 7 0,oZ 8 d6 [oT 7],oA 6 8,oB 9 (.ext (oT 6) 0),oB 10 (.ext (oT 6) 1),oB 11 (.ext (oT 6) 2),oB 3 (.alloc aA [oi,oi,oi,on,on]),oF 5 3 9,oA 4 10,oA 5 11] [5] [] (oX [oA 12 5,oA 2 12] [2] [] (.ret)))
def nb:List au:= [.tmp 2]
def Bf:List Nat:= []
theorem AN:ay Tryz.prog jh Bf nG nb 13:=ap mixed (by kernel_rfl)
-- regex_contains range i=9 n=8 c=10 i2=23 id=0: live [1:c, 7:] changed [] res []
def kF:CC:=oX [oB 4 (.mv (.const ob))] [0,1] [] (.seq (oX [oA 7 0,oB 8 (.len (oT 7)),oB 9 (.mv (oN 0))] [1,7,8,9] [] (aw 0 9 8 10 1 (oX [oB 11 (.iaddr 2 (oT 7) (oT 9)),oD 12 2 11,oB 6 (.alloc dQ [.int .i32 0,.int .i32 0]),oF 2 6 12] [1,6,7,8,9] [6] (oX [oA 13 1,oE 14 0 6,oC 15 1 14,oB 16 (.cmp .geq (oT 13) (oT 15)),oA 17 16,oH 18 17 (.mv (oT 1)),
 oH 19 17 (.faddr 1 (oT 6)),oH 20 17 (.load false 1 (oT 19)),oH 21 17 (.cmp .leq (oT 18) (oT 20)),oB 22 (.pick (oT 17) (oT 21) (.const ob))] [1,7,8,9,22] [] (.ite (oT 22) (oX [oB 4 (.mv (.const (.bool true)))] [4] [] (.ret)) (.skip)))) 23)) (.keep [] [] (oX [oB 4 (.mv (.const ob))] [4] [] (.ret))))
def jY:List au:= [.tmp 4]
def wl:List Nat:= []
theorem vT:ay Tryz.prog fm wl kF jY 24:=ap mixed (by kernel_rfl)
end Go.Gv

namespace Go.Gv
open Cod (enc dec)
variable {S S0:Nat→Spc}
def qgr {Y Z W V:Type} [Cod Y] [Cod Z] [Cod W] [Cod V] (x:Y×Z×W×V):D:= .tup [enc x.1,enc x.2.1,enc x.2.2.1,enc x.2.2.2]
@[simp] theorem qgq {Y Z W V:Type} [Cod Y] [Cod Z] [Cod W] [Cod V] (y:Y) (z:Z) (w:W) (v:V):qgr (y,z,w,v)= .tup [enc y,enc z,enc w,enc v]:=id rfl
def O6 (s:B) (i:Int):I32×Int×Int×Bool:=match s.data[i.toNat]? with
 | some c=> (⟨c.toNat⟩,i,1,true)
 | none=> (⟨0⟩,0,0,false)
abbrev s_cpAt:Spc:=cv (a2 B Int) (fun x=> x.1.size≤1000∧qR x.1=true∧0≤x.2∧x.2≤x.1.size) (qgr (Y:=I32) (Z:=Int) (W:=Int) (V:=Bool)) fun x y=> y=O6 x.1 x.2
theorem Oz {s:B} (h:qR s=true) {k:Nat} {c:UInt8} (hc:s.data[k]?=some c):c.toNat < 128:=by
 have:=List.all_eq_true.1 h c (by rw[←Array.getElem?_toList] at hc;exact List.mem_of_getElem? hc)
 exact of_decide_eq_true this
abbrev pf:Spc:=cv (a1 B) (fun s=> ∃r,mb s=some r) (TN (Y:=Rx) (Z:=Int) (W:=Int)) fun s y=> mb s=some y.1∧y.2=(0,0)
set_option maxHeartbeats 2000000 in
theorem B5 (h1:S kA=s_cpAt) (h2:S cO=Ij) (h3:S cP=Ac):aN nw mZ S (a1 B) (fun s=> ∃r,mb s=some r) (TN (Y:=Rx) (Z:=Int) (W:=Int)) fun s y=> mb s=some y.1∧y.2=(0,0):=by
 rintro s ⟨r,hr⟩
 have hr0:=hr
 unfold mb at hr
 split at hr
 rotate_left
 ·cases hr
 rename_i hs
 obtain⟨hsz,hasc⟩:=hs
 obtain⟨⟨p,x,ok⟩,hu,hr⟩:=Option.bind_eq_some_iff.1 hr
 split at hr
 rotate_left
 ·cases hr
 rename_i hv
 obtain⟨rfl,hpos,hval⟩:=hv
 cases hr
 have n200: ¬ (200:Int) < s.size:=by omega
 have hs10:s.size≤1000:=by omega
 simp[nw,mZ,n200, -Bool.forall_bool, -Bool.exists_bool]
 intro b2 hsz2
 refine bq (X:=Nat) [0,2] [2] (fun i=> i≤s.size) (fun i=> [(5,enc (i:Int))]) (fun _=> []) (fun i=> s.size -i) 0 (Nat.zero_le _) (by simp) (by simp) ?_
 rintro i hi
 by_cases hlt:i < s.size
 ·obtain⟨c,hc⟩: ∃c,s.data[i]?=some c:=⟨s.data[i]'hlt,Array.getElem?_eq_getElem hlt⟩
  have h128:=Oz hasc hc
  have hat:O6 s (i:Int)=((⟨(c.toNat:Int)⟩:I32),(i:Int),(1:Int),true):=by simp[O6,hc]
  have hff: ¬ ((c.toNat:Int)=65533):=by omega
  simp[h1,hs10,hasc,hat,hff,hi, -Bool.forall_bool, -Bool.exists_bool]
  exact⟨by simp only[InR];omega,i+1,by omega,by omega,by omega⟩
 ·obtain rfl:i=s.size:=by omega
  have hat:O6 s (s.size:Int)=(⟨0⟩,0,0,false):=by
   have:s.data[s.size]?=none:=Array.getElem?_eq_none (Nat.le_refl _)
   simp[O6,this]
  simp only at hpos hval
  have npos: ¬p.pos < s.size:=by omega
  simp[h1,h2,h3,hs10,hasc,hat,hu,hpos,hval,npos, -Bool.forall_bool, -Bool.exists_bool]
  exact fun b _=> ⟨x, .same _,hr0⟩
abbrev PB:Spc:=cv (a1 B) (fun s=> ∃r,mb s=some r) (enc (X:=Int)) fun _ y=> y=0
theorem Cg (h1:S d6=pf):aN nG nb S (a1 B) (fun s=> ∃r,mb s=some r) (enc (X:=Int)) fun _ y=> y=0:=by
 rintro s ⟨r,hr⟩
 simp[nG,nb,h1,hr, -Bool.forall_bool, -Bool.exists_bool]
abbrev PA:Spc:=cv (a2 (List Rng) I32) (fun _=> True) (enc (X:=Bool)) fun x y=> y=Fd x.1 x.2.val
theorem wZ:aN kF jY S (a2 (List Rng) I32) (fun _=> True) (enc (X:=Bool)) fun x y=> y=Fd x.1 x.2.val:=by
 rintro⟨l,⟨c⟩⟩ -
 simp[kF,jY, -Bool.forall_bool, -Bool.exists_bool]
 intro hkl
 refine aq (X:=Unit) [1,7] [] l.length (fun k _=> Fd (l.take k) c=false) (fun _=> []) (fun _=> []) () (by simp) (by simp) (by omega) (by simp) (by simp) rfl (by simp) (by simp) ?_ ?_
 ·rintro k -hk hP
  obtain⟨y,hy⟩:=yd hk
  obtain⟨_,hgy⟩:=List.getElem?_eq_some_iff.1 hy
  have hstep:Fd (l.take (k+1)) c=(decide (y.fr.val≤c) && decide (c≤y.to.val)):=by
   have:l.take (k+1)=l.take k++ [y]:=by rw[List.take_add_one,hy];rfl
   unfold Fd at hP ⊢
   rw[this,List.any_append,hP]
   simp
  by_cases h1:y.fr.val≤c∧c≤y.to.val
  ·obtain⟨h1,h2⟩:=h1
   have hres:Fd l c=true:=by
    refine List.any_eq_true.2 ⟨y,List.mem_of_getElem? hy,by simp[h1,h2]⟩
   simp[hk,hy,hgy,h1,h2,hres, -Bool.forall_bool, -Bool.exists_bool]
  ·have hres:Fd (l.take (k+1)) c=false:=by
    rw[hstep]
    simp
    omega
   by_cases h2:y.fr.val≤c
   ·have h3: ¬c≤y.to.val:=fun e=> h1 ⟨h2,e⟩
    simp[hk,hy,hgy,h2,h3,hres, -Bool.forall_bool, -Bool.exists_bool]
   ·simp[hk,hy,hgy,h2,hres, -Bool.forall_bool, -Bool.exists_bool]
 ·rintro -hP
  rw[List.take_length] at hP
  simp[hP, -Bool.forall_bool, -Bool.exists_bool]
end Go.Gv
