/- A part of the framework and of the walks: T32 C53 W135 C54 W136 C58 W156. -/
import Derived.Test.YtphdikcommfnhaaGreatDoorGa26
import Derived.Test.YtphdikcommfnhaaGreatDoorGa22
import Derived.Test.YtphdikcommfnhaaGreatDoorGa20
import Derived.Test.YtphdikcommfnhaaGreatDoorGa23
import Derived.Test.YtphdikcommfnhaaGreatDoorGa27
set_option linter.unusedSimpArgs false
set_option linter.unusedVariables false
set_option linter.unusedSectionVars false
set_option maxRecDepth 100000

namespace Go.Gv
open Cod (enc dec)
def qf8 (F:Rx->Int->Int->Option (Bool×Int)):PT:=fun d ds H K=> ∃id b x n k r d0,ds= [d0, .v (.int .i64 n), .bptr id b 0]/\dec d0=some x/\H id=some (.box b [.v (.int .i64 k)])/\F x n k=some r/\K (.v (.bool r.1)) (ah H id (some (.box b [.v (.int .i64 r.2)])))
theorem VA (F:Rx->Int->Int->Option (Bool×Int)):n7 (qf8 F):=fun d ds H K K' hk ⟨id,b,x,n,k,r,d0,h1,h2,h3,h4,h5⟩=> ⟨id,b,x,n,k,r,d0,h1,h2,h3,h4,hk _ _ h5⟩
def Xq (F:Rx->Int->Int->Option (Bool×Int)):Spc:= .gen _ (VA F)
def qdi (F:Rx->Int->Int->Option (Bool×Int)) (o:Option Rx) (n:Int) (id b:Nat) (q:Option Res) (H:aa) (K:D->aa->Prop):Prop:=
 ∃k,q=some (.box b [.v (.int .i64 k)])/\dP o fun x=> dP (F x n k) fun r=> K (.v (.bool r.1)) (ah H id (some (.box b [.v (.int .i64 r.2)])))
@[congr] theorem qf7 {F:Rx->Int->Int->Option (Bool×Int)} {o o':Option Rx} {n n':Int} {id b:Nat} {q q':Option Res} {H:aa} {K:D->aa->Prop} (h1:o=o') (h2:n=n') (h3:q=q'):qdi F o n id b q H K=qdi F o' n' id b q' H K:=by subst h1;subst h2;subst h3;rfl
@[simp] theorem qf9 (F:Rx->Int->Int->Option (Bool×Int)) (d id b:Nat) (d0:D) (n:Int) (H:aa) (K:D->aa->Prop): (Xq F).pt d [d0, .v (.int .i64 n), .bptr id b 0] H K=qdi F (dec d0) n id b (H id) H K:=by
 refine propext ⟨fun h=> ?_,fun h=> ?_⟩
 ·obtain⟨id',b',x,n',k,r,d0',h1,h2,h3,h4,h5⟩:=h
  cases h1
  refine⟨k,h3,?_⟩
  rw[h2]
  show dP (F x n k) _
  rw[h4]
  exact h5
 ·obtain⟨k,h1,h2⟩:=h
  cases hx:dec (X:=Rx) d0 with
  | none=> rw[hx] at h2;exact h2.elim
  | some x=>
    rw[hx] at h2
    have h2:dP (F x n k) _:=h2
    cases hr:F x n k with
    | none=> rw[hr] at h2;exact h2.elim
    | some r=> rw[hr] at h2;exact⟨id,b,x,n,k,r,d0,rfl,hx,h1,hr,h2⟩
@[simp] theorem qkb (F:Rx->Int->Int->Option (Bool×Int)) (o:Option Rx) (n:Int) (id b:Nat) (k:Int) (H:aa) (K:D->aa->Prop):
 qdi F o n id b (some (.box b [.v (.int .i64 k)])) H K=dP o fun x=> dP (F x n k) fun r=> K (.v (.bool r.1)) (ah H id (some (.box b [.v (.int .i64 r.2)]))):=by
 refine propext ⟨fun⟨k',h1,h2⟩=> ?_,fun h=> ⟨k,rfl,h⟩⟩
 cases h1
 exact h2
def qcQ (b:Nat) (q:Bool×Int) (r:D) (H:aa):Prop:=r= .v (.bool q.1)/\H 2=some (.box b [.v (.int .i64 q.2)])
def UF (cc:CC) (rs:List ar) (S:Nat->Spc) (F:Rx->Int->Int->Option (Bool×Int)):Prop:=
 ∀b x n k q,F x n k=some q->vc S cc (rF rs fun r H'=> qcQ b q r H') (fY [enc x, .v (.int .i64 n), .bptr 2 b 0]) (ah ed 2 (some (.box b [.v (.int .i64 k)])))
variable {P:Program} {S:Nat->Spc} {f:Nat} {im:List Nat} {cc:CC} {rs:List ar} {N:Nat}
theorem Mv {F:Rx->Int->Int->Option (Bool×Int)} (hS: ∀f,Tri P f (S f).pt) (h:ay P f im cc rs N) (hN:3<=N) (hw:UF cc rs S F):Tri P f (Xq F).pt:=by
 obtain⟨KM,enter,fn,code,h1,h2,h3,h4,h5⟩:=h
 refine mE hS KM h1 h2 enter h3 h4 h5 ?_
 rintro ds H d K ⟨id,b,x,n,k,r,d0,rfl,hd,hid,hF,hK⟩
 have h0: ∀i q,ah ed 2 (some (.box b [.v (.int .i64 k)])) i=some q->i=2/\q= .box b [.v (.int .i64 k)]:=by
  intro i q h
  by_cases e:i=2
  ·subst e
   simp only[ah,if_true] at h
   cases h
   exact⟨rfl,rfl⟩
  ·simp[ah,e,ed] at h
 refine⟨hN, [enc x, .v (.int .i64 n), .bptr 2 b 0],ah ed 2 (some (.box b [.v (.int .i64 k)])),fun i=> if i=2 then id else i, .cons (Cod.le _ _ hd) (.cons (.same _) (.cons (.bptr _ _ _ _) .nil)),fun i q h=> ?_,fun i j q q' h h' e=> ?_,_,hw b x n k r hF,?_⟩
 ·obtain⟨rfl,rfl⟩:=h0 i q h
  exact hid
 ·exact(h0 i q h).1.trans (h0 j q' h').1.symm
 ·rintro r' H' ⟨rfl,k2⟩
  refine⟨.v (.bool r.1),ed,ah H id (some (.box b [.v (.int .i64 r.2)])),fun i=> if i=id then some 2 else none, .same _,fun j q h=> by simp[ed] at h,hK,fun i s hi=> ?_,fun i j k' s q hi hj e1 e2=> ?_⟩
  ·by_cases e:i=id
   ·subst e
    simp only[ah,if_true] at hi ⊢
    cases hi
    exact k2
   ·simp only[ah,e,if_false] at hi ⊢
    refine⟨hi,fun k'' q h he=> ?_⟩
    obtain⟨rfl,rfl⟩:=h0 k'' q h
    exact e he.symm
  ·by_cases c1:i=id
   ·by_cases c2:j=id
    ·exact c1.trans c2.symm
    ·simp[c2] at e2
   ·simp[c1] at e1
end Go.Gv

namespace Go.Gv
open Go.Proofs
def iT:CC:=oX [oB 3 (.box aC true (oT 0)),oB 6 (.mv (.const ob))] [1,2,3] [2] (oX [oA 9 2,oG 10 9,oC 11 1 10,oB 12 (.arith .add (oT 11) (oN 1)),oG 13 9,oF 1 13 12] [1,2,3] [2] (.seq (oX [oA 14 1,oB 15 (.cmp .gtr (oT 14) (oN 40)),oA 16 15,oI 17 16 (.mv (oT 2)),oI 18 16 (.nilck (oT 17)),oI 19 16 (.load false 1 (oT 18)),oI 20 16 (.cmp .gtr (oT 19) (oN 200)),
 oB 21 (.pick (oT 16) (.const (.bool true)) (oT 20))] [1,2,3,21] [2] (.ite (oT 21) (oX [oB 6 (.mv (.const ob))] [6] [2] (.ret)) (.skip))) (.keep [1,2,3] [2] (.seq (oX [oE 22 4 3,oC 23 1 22,oB 24 (.len (oT 23)),oB 25 (.mv (oN 0))] [1,2,23,24,25] [2] (aP 0 25 24 26 1 (oX [oB 27 (.iaddr 5 (oT 23) (oT 25)),oD 28 5 27,oB 8 (.alloc aC [oi,oi,oi,on,on]),
 oF 5 8 28] [1,2,8,23,24,25] [2,8] (oX [oD 29 5 8,oA 30 1,oB 31 (.arith .add (oT 30) (oN 1)),oA 32 2,oZ 33 eB [oT 29,oT 31,oT 32],oB 34 (.not (oT 33))] [1,2,23,24,25,34] [2] (.ite (oT 34) (oX [oB 6 (.mv (.const ob))] [6] [2] (.ret)) (.skip)))) 35)) (.keep [] [2] (oX [oB 6 (.mv (.const (.bool true)))] [6] [2] (.ret)))))))
def iB:List ar:= [.tmp 6]
def EW:List Nat:= [3]
theorem Es:ay Tryz.prog eB EW iT iB 36:=ak mixed (by kernel_rfl)
def lZ:CC:=oX [oB 2 (.mv (.const ob))] [0] [] (.seq (oX [oA 5 0,oB 6 (.len (oT 5)),oB 7 (.mv (oN 0))] [0,5,6,7] [] (aP 0 7 6 8 1 (oX [oA 9 7,oB 10 (.iaddr 2 (oT 5) (oT 7)),oD 11 2 10,oB 4 (.alloc ee [.int .i32 0,.int .i32 0]),oA 3 9,oF 2 4 11] [0,3,4,5,6,7] [4] (.seq (.regd [oE 12 0 4,oC 13 1 12,oB 14 (.cmp .lss (oT 13) (.const (.int .i32 0))),oA 15 14,
 oI 16 15 (.faddr 0 (oT 4)),oI 17 15 (.load false 1 (oT 16)),oI 18 15 (.faddr 1 (oT 4)),oI 19 15 (.load false 1 (oT 18)),oI 20 15 (.cmp .gtr (oT 17) (oT 19)),oB 21 (.pick (oT 15) (.const (.bool true)) (oT 20)),oA 22 21,oI 23 22 (.faddr 1 (oT 4)),oI 24 22 (.load false 1 (oT 23)),oI 25 22 (.cmp .gtr (oT 24) (.const (.int .i32 1114111))),oB 26 (.pick (oT 22) (.const (.bool true)) (oT 25)),
 oA 27 26,oI 28 27 (.mv (oT 3)),oI 29 27 (.cmp .gtr (oT 28) (oN 0)),oI 30 27 (.mv (oT 29)),oH 31 30 (.faddr 0 (oT 4)),oH 32 30 (.load false 1 (oT 31)),oH 33 30 (.mv (oT 0)),oH 34 30 (.mv (oT 3)),oH 35 30 (.arith .sub (oT 34) (oN 1)),oH 36 30 (.iaddr 2 (oT 33) (oT 35)),oH 37 30 (.faddr 1 (oT 36)),oH 38 30 (.load false 1 (oT 37)),oH 39 30 (.arith .add (oT 38) (.const (.int .i32 2)))] [
 oH 40 30 (.cmp .lss (oT 32) (oT 39)),oI 41 27 (.pick (oT 30) (oT 40) (.const ob)),oB 42 (.pick (oT 27) (.const (.bool true)) (oT 41))]) (.keep [0,5,6,7,42] [] (.ite (oT 42) (oX [oB 2 (.mv (.const ob))] [2] [] (.ret)) (.skip))))) 43)) (.keep [0] [] (oX [oA 44 0,oB 45 (.len (oT 44)),oB 46 (.cmp .gtr (oT 45) (oN 0)),oA 2 46] [2] [] (.ret))))
def ll:List ar:= [.tmp 2]
def zt:List Nat:= []
theorem yT:ay Tryz.prog fZ zt lZ ll 47:=ak mixed (by kernel_rfl)
def dD:CC:=oX [oB 1 (.box aC true (oT 0)),oB 2 (.mv (.const ob))] [1] [] (.seq (oX [oE 6 0 1,oC 7 1 6,oB 8 (.eql true false [.int] (oT 7) (oN 1)),oA 9 8,oH 10 9 (.faddr 3 (oT 1)),oH 11 9 (.load false 1 (oT 10)),oH 12 9 (.len (oT 11)),oH 13 9 (.cmp .gtr (oT 12) (oN 0)),oB 14 (.pick (oT 9) (oT 13) (.const ob)),oA 15 14,oI 16 15 (.faddr 0 (oT 1)),
 oI 17 15 (.load false 1 (oT 16)),oI 18 15 (.eql true false [.int] (oT 17) (oN 4)),oI 19 15 (.mv (oT 18)),oH 20 19 (.faddr 1 (oT 1)),oH 21 19 (.load false 1 (oT 20)),oH 22 19 (.eql true false [.int] (oT 21) (oN 0)),oH 23 19 (.mv (oT 22)),oI 24 23 (.faddr 2 (oT 1)),oI 25 23 (.load false 1 (oT 24)),oI 26 23 (.eql true false [.int] (oT 25) (oN 0)),
 oH 27 19 (.pick (oT 23) (.const (.bool true)) (oT 26)),oI 28 15 (.pick (oT 19) (oT 27) (.const ob)),oB 29 (.pick (oT 15) (.const (.bool true)) (oT 28))] [1,29] [] (.ite (oT 29) (oX [oB 2 (.mv (.const ob))] [2] [] (.ret)) (.skip))) (.keep [1] [] (oX [oE 30 4 1,oC 31 1 30,oB 32 (.len (oT 31)),oA 3 32] [1,3] [] (.seq (oX [oE 33 4 1,oC 34 1 33,oB 35 (.len (oT 34)),
 oB 36 (.mv (oN 0))] [1,3,34,35,36] [] (aP 0 36 35 37 1 (oX [oB 38 (.iaddr 5 (oT 34) (oT 36)),oD 39 5 38,oB 5 (.alloc aC [oi,oi,oi,on,on]),oF 5 5 39] [1,3,5,34,35,36] [5] (oX [oE 40 0 5,oC 41 1 40,oE 42 0 1,oC 43 1 42,oB 44 (.eql false false [.int] (oT 41) (oT 43)),oA 45 44,oH 46 45 (.faddr 0 (oT 1)),oH 47 45 (.load false 1 (oT 46)),
 oH 48 45 (.eql true false [.int] (oT 47) (oN 4)),oB 49 (.pick (oT 45) (oT 48) (.const ob))] [1,3,34,35,36,49] [] (.ite (oT 49) (oX [oB 2 (.mv (.const ob))] [2] [] (.ret)) (.skip)))) 50)) (.keep [1,3] [] (.seq (oX [oE 51 0 1,oC 52 1 51] [1,3,52] [] (.block 2 (oX [oB 54 (.eql false false [.int] (oT 52) (oN 1)),oA 53 54] [1,3,52,53] [] (.ite (oT 53) (oX [oA 55 3,
 oB 56 (.eql false false [.int] (oT 55) (oN 0)),oA 57 56,oH 58 57 (.faddr 3 (oT 1)),oH 59 57 (.load false 1 (oT 58)),oH 60 57 (.call fZ [oT 59]),oB 61 (.pick (oT 57) (oT 60) (.const ob)),oA 2 61] [2] [] (.ret)) (oX [oB 63 (.eql false false [.int] (oT 52) (oN 2)),oA 62 63] [1,3,52,62] [] (.ite (oT 62) (oX [oA 64 3,oB 65 (.eql true false [.int] (oT 64) (oN 1)),
 oA 2 65] [2] [] (.ret)) (oX [oB 67 (.eql false false [.int] (oT 52) (oN 3)),oA 66 67] [1,3,52,66] [] (.ite (oT 66) (oX [oA 68 3,oB 69 (.cmp .gtr (oT 68) (oN 1)),oA 2 69] [2] [] (.ret)) (oX [oB 71 (.eql false false [.int] (oT 52) (oN 4)),oA 70 71] [1,3,70] [] (.ite (oT 70) (oX [oA 72 3,oB 73 (.eql false false [.int] (oT 72) (oN 1)),oA 74 73,oH 75 74 (.faddr 1 (oT 1)),
 oH 76 74 (.load false 1 (oT 75)),oH 77 74 (.cmp .geq (oT 76) (oN 0)),oB 78 (.pick (oT 74) (oT 77) (.const ob)),oA 79 78,oH 80 79 (.faddr 1 (oT 1)),oH 81 79 (.load false 1 (oT 80)),oH 82 79 (.cmp .leq (oT 81) (oN 16)),oB 83 (.pick (oT 79) (oT 82) (.const ob)),oA 84 83,oH 85 84 (.faddr 2 (oT 1)),oH 86 84 (.load false 1 (oT 85)),oH 87 84 (.eql false false [.int] (oT 86) (oN (-1))),
 oH 88 84 (.mv (oT 87)),oI 89 88 (.faddr 2 (oT 1)),oI 90 88 (.load false 1 (oT 89)),oI 91 88 (.faddr 1 (oT 1)),oI 92 88 (.load false 1 (oT 91)),oI 93 88 (.cmp .geq (oT 90) (oT 92)),oI 94 88 (.mv (oT 93)),oH 95 94 (.faddr 2 (oT 1)),oH 96 94 (.load false 1 (oT 95)),oH 97 94 (.cmp .leq (oT 96) (oN 16)),oI 98 88 (.pick (oT 94) (oT 97) (.const ob)),
 oH 99 84 (.pick (oT 88) (.const (.bool true)) (oT 98)),oB 100 (.pick (oT 84) (oT 99) (.const ob)),oA 2 100] [2] [] (.ret)) (.skip))))))))))) (.keep [] [] (oX [oB 2 (.mv (.const ob))] [2] [] (.ret)))))))))
def dx:List ar:= [.tmp 2]
def xl:List Nat:= [1]
theorem wP:ay Tryz.prog ft xl dD dx 101:=ak mixed (by kernel_rfl)
def jC:CC:=oX [oB 1 (.box aC true (oT 0)),oB 2 (.mv (.const ob))] [1] [] (.seq (oX [oD 5 5 1,oZ 6 ft [oT 5],oB 7 (.not (oT 6))] [1,7] [] (.ite (oT 7) (oX [oB 2 (.mv (.const ob))] [2] [] (.ret)) (.skip))) (.keep [1] [] (.seq (oX [oE 8 4 1,oC 9 1 8,oB 10 (.len (oT 9)),oB 11 (.mv (oN 0))] [9,10,11] [] (aP 0 11 10 12 1 (oX [
 oB 13 (.iaddr 5 (oT 9) (oT 11)),oD 14 5 13,oB 4 (.alloc aC [oi,oi,oi,on,on]),oF 5 4 14] [4,9,10,11] [4] (oX [oD 15 5 4,oZ 16 cm [oT 15],oB 17 (.not (oT 16))] [9,10,11,17] [] (.ite (oT 17) (oX [oB 2 (.mv (.const ob))] [2] [] (.ret)) (.skip)))) 18)) (.keep [] [] (oX [oB 2 (.mv (.const (.bool true)))] [2] [] (.ret))))))
def jq:List ar:= [.tmp 2]
def vO:List Nat:= [1]
theorem vF:ay Tryz.prog cm vO jC jq 19:=ak mixed (by kernel_rfl)
def gH:CC:=oX [oB 1 (.box aC true (oT 0)),oB 2 (.mv (oN 0))] [1] [] (.seq (oX [oE 6 0 1,oC 7 1 6,oB 8 (.eql false false [.int] (oT 7) (oN 1))] [1,8] [] (.ite (oT 8) (oX [oB 2 (.mv (oN 1))] [2] [] (.ret)) (.skip))) (.keep [1] [] (oX [oB 3 (.mv (oN 0))] [1,3] [] (.seq (oX [oE 9 4 1,oC 10 1 9,oB 11 (.len (oT 10)),
 oB 12 (.mv (oN 0))] [1,3,10,11,12] [] (aP 0 12 11 13 1 (oX [oB 14 (.iaddr 5 (oT 10) (oT 12)),oD 15 5 14,oB 5 (.alloc aC [oi,oi,oi,on,on]),oF 5 5 15] [1,3,5,10,11,12] [5] (.reg [oA 16 3,oD 17 5 5,oZ 18 cG [oT 17],oB 19 (.arith .add (oT 16) (oT 18)),oB 20 (.mm false [oT 19,oN 65]),oA 3 20])) 21)) (.keep [1,3] [] (.seq (.block 2 (oX [oE 27 0 1,oC 28 1 27,
 oB 29 (.eql true false [.int] (oT 28) (oN 4)),oA 26 29] [1,3,26] [] (.ite (oT 26) (oX [oA 30 3,oA 2 30] [2] [] (.ret)) (oX [oE 32 2 1,oC 33 1 32,oB 34 (.eql false false [.int] (oT 33) (oN (-1))),oA 31 34] [1,3,31] [] (.ite (oT 31) (.reg [oA 35 3,oE 36 1 1,oC 37 1 36,oB 38 (.mm true [oT 37,oN 1]),oB 39 (.arith .mul (oT 35) (oT 38)),oA 3 39]) (.reg [oA 22 3,oE 23 2 1,oC 24 1 23,
 oB 25 (.arith .mul (oT 22) (oT 24)),oA 3 25])))))) (.keep [3] [] (oX [oA 40 3,oB 41 (.mm false [oT 40,oN 65]),oA 2 41] [2] [] (.ret)))))))))
def gq:List ar:= [.tmp 2]
def xm:List Nat:= [1]
theorem wQ:ay Tryz.prog cG xm gH gq 42:=ak mixed (by kernel_rfl)
def l6:CC:=oX [oB 1 (.box aC true (oT 0)),oB 2 (.mv (oN 0))] [1] [] (oX [oB 3 (.alloc fV [oi]),.op none none (.store none 1 (oT 3) (oN 0))] [1,3] [3] (.seq (.block 0 (oX [oD 5 5 1,oZ 6 eB [oT 5,oN 1,oT 3],oB 7 (.not (oT 6)),oA 4 7] [1,4] [3] (.ite (oT 4) (oX [oB 2 (.mv (oN 2))] [2] [] (.ret)) (oX [oD 9 5 1,oZ 10 cm [oT 9],
 oB 11 (.not (oT 10)),oA 8 11] [1,8] [] (.ite (oT 8) (oX [oB 2 (.mv (oN 1))] [2] [] (.ret)) (oX [oD 13 5 1,oZ 14 cG [oT 13],oB 15 (.cmp .gtr (oT 14) (oN 64)),oA 12 15] [12] [] (.ite (oT 12) (oX [oB 2 (.mv (oN 2))] [2] [] (.ret)) (.skip)))))))) (.keep [] [] (oX [oB 2 (.mv (oN 0))] [2] [] (.ret)))))
def lp:List ar:= [.tmp 2]
def zx:List Nat:= [1]
theorem yW:ay Tryz.prog cY zx l6 lp 16:=ak mixed (by kernel_rfl)
end Go.Gv

namespace Go.Gv
open Cod (enc dec)
variable {S S0:Nat->Spc}
theorem BU {X:Type} {l:List X} {k:Nat} (h:k < l.length): ∃x,l[k]?=some x:=⟨_,List.getElem?_eq_getElem h⟩
theorem FD {X:Type} {l:List X} {k:Nat} {x:X} (h:l[k]?=some x):l.drop k=x::l.drop (k+1):=by
 obtain⟨h1,h2⟩:=List.getElem?_eq_some_iff.1 h
 rw[List.drop_eq_getElem_cons h1,h2]
theorem Ga (n:Nat) (h1:S eB=Xq (nH n)):UF iT iB S (nH (n+1)):=by
 rintro b x d k ⟨ok,m⟩ hF
 have hF0:=hF
 simp only[nH] at hF
 split at hF
 ·cases hF
 rename_i hrng
 have hin:InR .i64 (k+1):=by simp only[InR];omega
 split at hF
 ·rename_i hbig
  cases hF
  by_cases h40:40 < d
  ·simp[iT,iB,hin,h40, -Bool.forall_bool, -Bool.exists_bool]
   exact⟨rfl,by simp⟩
  ·have h200:200 < k+1:=by omega
   simp[iT,iB,hin,h40,h200, -Bool.forall_bool, -Bool.exists_bool]
   exact⟨rfl,by simp⟩
 ·rename_i hbig
  have h40: ¬40 < d:=by omega
  have h200: ¬200 < k+1:=by omega
  simp[iT,iB,hin,h40,h200, -Bool.forall_bool, -Bool.exists_bool]
  intro hkl
  refine aA (X:=Int) [1,2,23] [] x.kids.length (fun i z=> qa2 (nH n) d (x.kids.drop i) z=some (ok,m)) (fun z=> []) (fun z=> [(2, .box b [.v (.int .i64 z)])]) (k+1) (by simp) (by simp) (by omega) (by simp) (by simp) hF (by simp) (by simp) ?_ ?_
  ·rintro i z hi hz
   obtain⟨y,hy⟩:=BU hi
   obtain⟨_,hgy⟩:=List.getElem?_eq_some_iff.1 hy
   rw[FD hy,qa2] at hz
   obtain⟨⟨t,m'⟩,hs,hz⟩:=Option.bind_eq_some_iff.1 hz
   simp only at hz
   have hin2:InR .i64 (d+1):=by simp only[InR];omega
   cases t with
   | true=>
     simp only[if_true] at hz
     simp[h1,hi,hy,hgy,hs,hin2, -Bool.forall_bool, -Bool.exists_bool]
     exact⟨m',hz, .inl rfl⟩
   | false=>
     simp only[Bool.false_eq_true,if_false] at hz
     cases hz
     simp[h1,hi,hy,hgy,hs,hin2, -Bool.forall_bool, -Bool.exists_bool]
     exact⟨rfl,by simp⟩
  ·rintro z hz
   rw[List.drop_length,qa2] at hz
   cases hz
   simp[-Bool.forall_bool, -Bool.exists_bool]
   exact⟨rfl,by simp⟩
abbrev DX:Spc:=cC (a1 (List Rng)) (fun l=> Ou l=true) (enc (X:=Bool)) fun _ y=> y=true
theorem Ao:aV lZ ll S (a1 (List Rng)) (fun l=> Ou l=true) (enc (X:=Bool)) fun _ y=> y=true:=by
 rintro l hl
 obtain⟨r,rfl⟩: ∃r,l= [r]:=by
  match l,hl with
  | [r],_=> exact⟨r,rfl⟩
 simp[Ou] at hl
 simp[lZ,ll, -Bool.forall_bool, -Bool.exists_bool]
 refine aA (X:=Unit) [0,5] [] 1 (fun _ _=> True) (fun _=> []) (fun _=> []) () (by simp) (by simp) (by omega) (by simp) (by simp) trivial (by simp) (by simp) ?_ ?_
 ·rintro k -hk -
  obtain rfl:k=0:=by omega
  have n1: ¬r.fr.val < 0:=by omega
  have n2: ¬r.to.val < r.fr.val:=by omega
  have n3: ¬1114111 < r.to.val:=by omega
  simp[n1,n2,n3, -Bool.forall_bool, -Bool.exists_bool]
 ·rintro - -
  simp[-Bool.forall_bool, -Bool.exists_bool]
abbrev AI:Spc:=cC (a1 Rx) (fun x=> qbl x=true) (enc (X:=Bool)) fun _ y=> y=true
set_option maxHeartbeats 2000000 in
theorem yc (h1:S fZ=DX):aV dD dx S (a1 Rx) (fun x=> qbl x=true) (enc (X:=Bool)) fun _ y=> y=true:=by
 rintro⟨op,mn,mx,rs,ks⟩ hx
 have hx:qbl ⟨op,mn,mx,rs,ks⟩=true:=hx
 unfold qbl at hx
 simp only at hx
 split at hx
 ·rename_i e
  subst e
  simp at hx
  obtain⟨⟨⟨rfl,rfl⟩,rfl⟩,hs⟩:=hx
  simp[dD,dx,h1,hs, -Bool.forall_bool, -Bool.exists_bool]
  refine aA (X:=Unit) [1,3] [] 0 (fun _ _=> True) (fun _=> []) (fun _=> []) () (by simp) (by simp) (by omega) (by simp) (by simp) trivial (by simp) (by simp) (fun k x hk=> absurd hk (by omega)) (fun _ _=> ?_)
  simp[h1,hs, -Bool.forall_bool, -Bool.exists_bool]
 split at hx
 ·rename_i e1 e
  subst e
  simp at hx
  obtain⟨⟨⟨⟨rfl,rfl⟩,rfl⟩,hl1,hl3⟩,hk2⟩:=hx
  have hlt: (ks.length:Int)<=9223372036854775807:=by omega
  simp[dD,dx,hlt, -Bool.forall_bool, -Bool.exists_bool]
  refine aA (X:=Unit) [1,3,34] [] ks.length (fun _ _=> True) (fun _=> []) (fun _=> []) () (by simp) (by simp) (by omega) (by simp) (by simp) trivial (by simp) (by simp) ?_ ?_
  ·rintro k -hk -
   obtain⟨y,hy⟩:=BU hk
   obtain⟨_,hgy⟩:=List.getElem?_eq_some_iff.1 hy
   have hop:=hk2 y (List.mem_of_getElem? hy)
   simp[hk,hy,hgy,hop, -Bool.forall_bool, -Bool.exists_bool]
  ·rintro - -
   have hl1': ¬ (ks.length:Int)=1:=by omega
   simp[hl1,hl1', -Bool.forall_bool, -Bool.exists_bool]
 split at hx
 ·rename_i e1 e2 e
  subst e
  simp at hx
  obtain⟨⟨⟨⟨rfl,rfl⟩,rfl⟩,hl1,hl3⟩,hk2⟩:=hx
  have hlt: (ks.length:Int)<=9223372036854775807:=by omega
  simp[dD,dx,hlt, -Bool.forall_bool, -Bool.exists_bool]
  refine aA (X:=Unit) [1,3,34] [] ks.length (fun _ _=> True) (fun _=> []) (fun _=> []) () (by simp) (by simp) (by omega) (by simp) (by simp) trivial (by simp) (by simp) ?_ ?_
  ·rintro k -hk -
   obtain⟨y,hy⟩:=BU hk
   obtain⟨_,hgy⟩:=List.getElem?_eq_some_iff.1 hy
   have hop:=hk2 y (List.mem_of_getElem? hy)
   simp[hk,hy,hgy,hop, -Bool.forall_bool, -Bool.exists_bool]
  ·rintro - -
   have hl1': (1:Int) < ks.length:=by omega
   simp[hl1,hl1', -Bool.forall_bool, -Bool.exists_bool]
 split at hx
 ·rename_i e1 e2 e3 e
  subst e
  simp at hx
  obtain⟨⟨⟨g0,g1,g2⟩,rfl⟩,hl1⟩:=hx
  obtain⟨k0,rfl⟩: ∃k,ks= [k]:=List.length_eq_one_iff.1 hl1
  simp[dD,dx, -Bool.forall_bool, -Bool.exists_bool]
  refine aA (X:=Unit) [1,3,34] [] 1 (fun _ _=> True) (fun _=> []) (fun _=> []) () (by simp) (by simp) (by omega) (by simp) (by simp) trivial (by simp) (by simp) ?_ ?_
  ·rintro k -hk -
   obtain rfl:k=0:=by omega
   simp[-Bool.forall_bool, -Bool.exists_bool]
  ·rintro - -
   simp[g0,g1, -Bool.forall_bool, -Bool.exists_bool]
   exact fun h=> ⟨fun _=> by omega,by omega⟩
 ·cases hx
abbrev pb (n:Nat):Spc:=cC (a1 Rx) (fun x=> Qb n x=true) (enc (X:=Bool)) fun _ y=> y=true
theorem wx (n:Nat) (h1:S ft=AI) (h2:S cm=pb n):aV jC jq S (a1 Rx) (fun x=> Qb (n+1) x=true) (enc (X:=Bool)) fun _ y=> y=true:=by
 rintro x hx
 have hx:Qb (n+1) x=true:=hx
 simp only[Qb,Bool.and_eq_true,List.all_eq_true] at hx
 obtain⟨hx1,hx2⟩:=hx
 simp[jC,jq,h1,hx1, -Bool.forall_bool, -Bool.exists_bool]
 intro hkl
 refine aA (X:=Unit) [9] [] x.kids.length (fun _ _=> True) (fun _=> []) (fun _=> []) () (by simp) (by simp) (by omega) (by simp) (by simp) trivial (by simp) (by simp) ?_ ?_
 ·rintro k -hk -
  obtain⟨y,hy⟩:=BU hk
  obtain⟨_,hgy⟩:=List.getElem?_eq_some_iff.1 hy
  have hp:=hx2 y (List.mem_of_getElem? hy)
  simp[h2,hk,hy,hgy,hp, -Bool.forall_bool, -Bool.exists_bool]
 ·rintro - -
  simp[-Bool.forall_bool, -Bool.exists_bool]
abbrev D1 (n:Nat):Spc:=cC (a1 Rx) (fun x=> ∃m,Er n x=some m) (enc (X:=Int)) fun x y=> Er n x=some y
set_option maxHeartbeats 1000000 in
theorem yd (n:Nat) (h1:S cG=D1 n):aV gH gq S (a1 Rx) (fun x=> ∃m,Er (n+1) x=some m) (enc (X:=Int)) fun x y=> Er (n+1) x=some y:=by
 rintro x ⟨m,hm⟩
 have hm0:=hm
 simp only[Er] at hm
 split at hm
 ·rename_i e
  cases hm
  simp[gH,gq,e,hm0, -Bool.forall_bool, -Bool.exists_bool]
 rename_i e1
 obtain⟨k,hk,hm⟩:=Option.bind_eq_some_iff.1 hm
 simp[gH,gq,e1, -Bool.forall_bool, -Bool.exists_bool]
 intro hkl
 refine aA (X:=Int) [1,10] [] x.kids.length (fun i z=> qbd (Er n) (x.kids.drop i) z=some k) (fun z=> [(3,enc z)]) (fun _=> []) 0 (by simp) (by simp) (by omega) (by simp) (by simp) hk (by simp) (by simp) ?_ ?_
 ·rintro i z hi hz
  obtain⟨y,hy⟩:=BU hi
  obtain⟨_,hgy⟩:=List.getElem?_eq_some_iff.1 hy
  rw[FD hy,qbd] at hz
  obtain⟨v,hv,hz⟩:=Option.bind_eq_some_iff.1 hz
  split at hz
  ·cases hz
  rename_i hr
  have hin:InR .i64 (z+v):=by simp only[InR];omega
  have hp: ∃m,Er n y=some m:=⟨v,hv⟩
  simp[h1,hi,hy,hgy,hv, -Bool.forall_bool, -Bool.exists_bool]
  exact⟨hin,hz⟩
 ·rintro z hz
  rw[List.drop_length,qbd] at hz
  cases hz
  split at hm
  ·rename_i e4
   cases hm
   simp[e4,hm0, -Bool.forall_bool, -Bool.exists_bool]
  ·rename_i e4
   have e4:x.op=4:=by omega
   unfold qbf at hm
   split at hm
   ·rename_i emx
    split at hm
    ·rename_i hb
     cases hm
     have hin:InR .i64 (k*max x.mn 1):=by simp only[InR];omega
     simp[e4,emx,hin,hm0, -Bool.forall_bool, -Bool.exists_bool]
    ·cases hm
   ·rename_i emx
    split at hm
    ·rename_i hb
     cases hm
     have hin:InR .i64 (k*x.mx):=by simp only[InR];omega
     simp[e4,emx,hin,hm0, -Bool.forall_bool, -Bool.exists_bool]
    ·cases hm
abbrev DZ:Spc:=cC (a1 Rx) (fun x=> wD 50 x=true) (enc (X:=Int)) fun x y=> y=0
theorem Ar (h1:S eB=Xq (nH 50)) (h2:S cm=pb 50) (h3:S cG=D1 50):aV l6 lp S (a1 Rx) (fun x=> wD 50 x=true) (enc (X:=Int)) fun x y=> y=0:=by
 rintro x hx
 have hx:wD 50 x=true:=hx
 simp only[wD,Bool.and_eq_true] at hx
 obtain⟨⟨g1,g2⟩,g3⟩:=hx
 obtain⟨⟨t,k⟩,hs,rfl⟩: ∃r,nH 50 x 1 0=some r/\r.1=true:=by
  cases h:nH 50 x 1 0 with
  | none=> rw[h] at g1;cases g1
  | some r=> rw[h] at g1;exact⟨r,rfl,g1⟩
 obtain⟨m,hm,hm64⟩: ∃m,Er 50 x=some m/\m<=64:=by
  cases h:Er 50 x with
  | none=> rw[h] at g3;cases g3
  | some r=> rw[h] at g3;exact⟨r,rfl,of_decide_eq_true g3⟩
 have n64: ¬64 < m:=by omega
 simp[l6,lp,h1,h2,h3,hs,g2,hm,n64, -Bool.forall_bool, -Bool.exists_bool]
 exact hm64
end Go.Gv

namespace Go.Gv
open Go.Proofs
def pP:CC:=oX [oB 2 (.alloc aC [oi,oi,oi,on,on]),oB 3 (.mv (oN 0)),oB 4 (.mv (oN 0))] [0,2] [2,10] (.seq (oX [oA 13 0,oB 14 (.slen (oT 13)),oB 15 (.cmp .gtr (oT 14) (oN 200))] [0,2,15] [2,10] (.ite (oT 15) (oX [oB 16 (.build [oi,oi,oi,on,on] []),.op none none (.store (some 2) 5 (oT 2) (oT 16)),oB 3 (.mv (oN 0)),oB 4 (.mv (oN 2))] [2,3,4] [2,10] (.ret)) (.skip)))
 (.keep [0,2] [2,10] (.seq (oX [oB 5 (.mv (oN 0))] [0,2,5] [2,10] (.block 0 (.loop 1 (.seq (.block 1 (oX [oA 20 0,oA 21 5,oZ 22 lU [oT 20,oT 21],oA 19 22,oB 23 (.ext (oT 19) 0),oB 24 (.ext (oT 19) 1),oB 25 (.ext (oT 19) 2),oB 26 (.ext (oT 19) 3),oA 6 23,oA 7 24,oA 8 25,oA 9 26] [0,2,5,6,7,8,9] [2,10] (.seq (oX [oA 27 9,
 oB 28 (.not (oT 27))] [0,2,5,6,7,8,28] [2,10] (.ite (oT 28) (.exit 0) (.skip))) (.keep [0,2,5,6,7,8] [2,10] (oX [oA 29 6,oB 30 (.eql false false [.int] (oT 29) (.const (.int .i32 65533))),oA 31 30,oH 32 31 (.mv (oT 8)),oH 33 31 (.eql false false [.int] (oT 32) (oN 1)),oB 34 (.pick (oT 31) (oT 33) (.const ob))] [0,2,5,7,34] [2,10] (.ite (oT 34) (oX [oB 35 (.build [oi,oi,oi,on,on] []),
 oA 36 7,.op none none (.store (some 2) 5 (oT 2) (oT 35)),oA 3 36,oB 4 (.mv (oN 7))] [2,3,4] [2,10] (.ret)) (.skip))))))) (.keep [0,2,5] [2,10] (.reg [oA 17 5,oB 18 (.arith .add (oT 17) (oN 1)),oA 5 18])))))) (.keep [0,2] [2,10] (oX [oA 37 0,oB 38 (.build [oe,oi,oi,oi] [(0,1,oT 37)]),oB 10 (.alloc CE [oe,oi,oi,oi]),oF 4 10 38] [0,2,10] [2,10] (oX [
 oZ 40 cX [oT 10],oA 39 40,oB 41 (.ext (oT 39) 0),oB 42 (.ext (oT 39) 1),oB 11 (.alloc aC [oi,oi,oi,on,on]),oF 5 11 41,oA 12 42] [0,2,10,11,12] [2,10,11] (.seq (oX [oA 43 12,oA 44 43,oH 45 44 (.faddr 1 (oT 10)),oH 46 44 (.load false 1 (oT 45)),oH 47 44 (.mv (oT 0)),oH 48 44 (.slen (oT 47)),oH 49 44 (.cmp .lss (oT 46) (oT 48)),
 oB 50 (.pick (oT 44) (oT 49) (.const ob))] [2,10,11,12,50] [2,10,11] (.ite (oT 50) (.reg [oE 51 1 10,oC 52 1 51,oZ 53 dg [oT 10,oT 52,oN 3],oA 12 53]) (.skip))) (.keep [2,10,11,12] [2,10,11] (.seq (oX [oA 54 12,oB 55 (.not (oT 54))] [2,10,11,55] [2,10,11] (.ite (oT 55) (.seq (.regd [oB 56 (.build [oi,oi,oi,on,on] []),oE 57 2 10,oC 58 1 57,oE 59 3 10,oC 60 1 59,
 .op none none (.store (some 2) 5 (oT 2) (oT 56)),oA 3 58] [oA 4 60]) (.keep [2,3,4] [2,10] (.ret))) (.skip))) (.keep [2,11] [2,10,11] (.seq (oX [oD 61 5 11,oZ 62 cY [oT 61],oB 63 (.eql true false [.int] (oT 62) (oN 0))] [2,11,63] [2,10,11] (.ite (oT 63) (oX [oB 64 (.build [oi,oi,oi,on,on] []),.op none none (.store (some 2) 5 (oT 2) (oT 64)),oB 3 (.mv (oN 0)),
 oB 4 (.mv (oN 2))] [2,3,4] [2,10] (.ret)) (.skip))) (.keep [2,11] [2,10,11] (oX [oD 65 5 11,.op none none (.store (some 2) 5 (oT 2) (oT 65)),oB 3 (.mv (oN 0)),oB 4 (.mv (oN 0))] [2,3,4] [2,10] (.ret))))))))))))))
def ph:List ar:= [.cell 2 true 5, .tmp 3, .tmp 4]
def EY:List Nat:= [2002002]
theorem Eu:ay Tryz.prog eD EY pP ph 66:=ak mixed (by kernel_rfl)
def qd:CC:=oX [oB 2 (.mv (oN 0))] [0] [] (oX [oA 7 0,oZ 8 eD [oT 7],oA 6 8,oB 9 (.ext (oT 6) 0),oB 10 (.ext (oT 6) 1),oB 11 (.ext (oT 6) 2),oB 3 (.alloc aC [oi,oi,oi,on,on]),oF 5 3 9,oA 4 10,oA 5 11] [5] [] (oX [oA 12 5,oA 2 12] [2] [] (.ret)))
def pB:List ar:= [.tmp 2]
def Fe:List Nat:= []
theorem EK:ay Tryz.prog ia Fe qd pB 13:=ak mixed (by kernel_rfl)
def l5:CC:=oX [oB 4 (.mv (.const ob))] [0,1] [] (.seq (oX [oA 7 0,oB 8 (.len (oT 7)),oB 9 (.mv (oN 0))] [1,7,8,9] [] (aP 0 9 8 10 1 (oX [oB 11 (.iaddr 2 (oT 7) (oT 9)),oD 12 2 11,oB 6 (.alloc ee [.int .i32 0,.int .i32 0]),oF 2 6 12] [1,6,7,8,9] [6] (oX [oA 13 1,oE 14 0 6,oC 15 1 14,oB 16 (.cmp .geq (oT 13) (oT 15)),oA 17 16,oH 18 17 (.mv (oT 1)),
 oH 19 17 (.faddr 1 (oT 6)),oH 20 17 (.load false 1 (oT 19)),oH 21 17 (.cmp .leq (oT 18) (oT 20)),oB 22 (.pick (oT 17) (oT 21) (.const ob))] [1,7,8,9,22] [] (.ite (oT 22) (oX [oB 4 (.mv (.const (.bool true)))] [4] [] (.ret)) (.skip)))) 23)) (.keep [] [] (oX [oB 4 (.mv (.const ob))] [4] [] (.ret))))
def ln:List ar:= [.tmp 4]
def zw:List Nat:= []
theorem yV:ay Tryz.prog f8 zw l5 ln 24:=ak mixed (by kernel_rfl)
end Go.Gv

namespace Go.Gv
open Cod (enc dec)
variable {S S0:Nat->Spc}
def qmg {Y Z W V:Type} [Cod Y] [Cod Z] [Cod W] [Cod V] (x:Y×Z×W×V):D:= .tup [enc x.1,enc x.2.1,enc x.2.2.1,enc x.2.2.2]
@[simp] theorem qmf {Y Z W V:Type} [Cod Y] [Cod Z] [Cod W] [Cod V] (y:Y) (z:Z) (w:W) (v:V):qmg (y,z,w,v)= .tup [enc y,enc z,enc w,enc v]:=id rfl
def Vb (s:B) (i:Int):I32×Int×Int×Bool:=match s.data[i.toNat]? with
 | some c=> (⟨c.toNat⟩,i,1,true)
 | none=> (⟨0⟩,0,0,false)
abbrev s_cpAt:Spc:=cC (a2 B Int) (fun x=> x.1.size<=1000/\rm x.1=true/\0<=x.2/\x.2<=x.1.size) (qmg (Y:=I32) (Z:=Int) (W:=Int) (V:=Bool)) fun x y=> y=Vb x.1 x.2
theorem Us {s:B} (h:rm s=true) {k:Nat} {c:UInt8} (hc:s.data[k]?=some c):c.toNat < 128:=by
 have:=List.all_eq_true.1 h c (by rw[<-Array.getElem?_toList] at hc;exact List.mem_of_getElem? hc)
 exact of_decide_eq_true this
abbrev rD:Spc:=cC (a1 B) (fun s=> ∃r,nP s=some r) (qaj (Y:=Rx) (Z:=Int) (W:=Int)) fun s y=> nP s=some y.1/\y.2=(0,0)
set_option maxHeartbeats 2000000 in
theorem Gd (h1:S lU=s_cpAt) (h2:S cX=MI) (h3:S cY=DZ):aV pP ph S (a1 B) (fun s=> ∃r,nP s=some r) (qaj (Y:=Rx) (Z:=Int) (W:=Int)) fun s y=> nP s=some y.1/\y.2=(0,0):=by
 rintro s ⟨r,hr⟩
 have hr0:=hr
 unfold nP at hr
 split at hr
 rotate_left
 ·cases hr
 rename_i hs
 obtain⟨hsz,hasc⟩:=hs
 obtain⟨⟨p,x,ok⟩,hu,hr⟩:=Option.bind_eq_some_iff.1 hr
 split at hr
 rotate_left
 ·cases hr
 rename_i hv
 obtain⟨rfl,hpos,hval⟩:=hv
 cases hr
 have n200: ¬ (200:Int) < s.size:=by omega
 have hs10:s.size<=1000:=by omega
 simp[pP,ph,n200, -Bool.forall_bool, -Bool.exists_bool]
 intro b2 hsz2
 refine aY (X:=Nat) [0,2] [2] (fun i=> i<=s.size) (fun i=> [(5,enc (i:Int))]) (fun _=> []) (fun i=> s.size -i) 0 (Nat.zero_le _) (by simp) (by simp) ?_
 rintro i hi
 by_cases hlt:i < s.size
 ·obtain⟨c,hc⟩: ∃c,s.data[i]?=some c:=⟨s.data[i]'hlt,Array.getElem?_eq_getElem hlt⟩
  have h128:=Us hasc hc
  have hat:Vb s (i:Int)=((⟨(c.toNat:Int)⟩:I32),(i:Int),(1:Int),true):=by simp[Vb,hc]
  have hff: ¬ ((c.toNat:Int)=65533):=by omega
  simp[h1,hs10,hasc,hat,hff,hi, -Bool.forall_bool, -Bool.exists_bool]
  exact⟨by simp only[InR];omega,i+1,by omega,by omega,by omega⟩
 ·obtain rfl:i=s.size:=by omega
  have hat:Vb s (s.size:Int)=(⟨0⟩,0,0,false):=by
   have:s.data[s.size]?=none:=Array.getElem?_eq_none (Nat.le_refl _)
   simp[Vb,this]
  simp only at hpos hval
  have npos: ¬p.pos < s.size:=by omega
  simp[h1,h2,h3,hs10,hasc,hat,hu,hpos,hval,npos, -Bool.forall_bool, -Bool.exists_bool]
  exact fun b _=> ⟨x, .same _,hr0⟩
abbrev VD:Spc:=cC (a1 B) (fun s=> ∃r,nP s=some r) (enc (X:=Int)) fun _ y=> y=0
theorem Gq (h1:S eD=rD):aV qd pB S (a1 B) (fun s=> ∃r,nP s=some r) (enc (X:=Int)) fun _ y=> y=0:=by
 rintro s ⟨r,hr⟩
 simp[qd,pB,h1,hr, -Bool.forall_bool, -Bool.exists_bool]
abbrev VC:Spc:=cC (a2 (List Rng) I32) (fun _=> True) (enc (X:=Bool)) fun x y=> y=JG x.1 x.2.val
theorem Aq:aV l5 ln S (a2 (List Rng) I32) (fun _=> True) (enc (X:=Bool)) fun x y=> y=JG x.1 x.2.val:=by
 rintro⟨l,⟨c⟩⟩ -
 simp[l5,ln, -Bool.forall_bool, -Bool.exists_bool]
 intro hkl
 refine aA (X:=Unit) [1,7] [] l.length (fun k _=> JG (l.take k) c=false) (fun _=> []) (fun _=> []) () (by simp) (by simp) (by omega) (by simp) (by simp) rfl (by simp) (by simp) ?_ ?_
 ·rintro k -hk hP
  obtain⟨y,hy⟩:=BU hk
  obtain⟨_,hgy⟩:=List.getElem?_eq_some_iff.1 hy
  have hstep:JG (l.take (k+1)) c=(decide (y.fr.val<=c) && decide (c<=y.to.val)):=by
   have:l.take (k+1)=l.take k++ [y]:=by rw[List.take_add_one,hy];rfl
   unfold JG at hP ⊢
   rw[this,List.any_append,hP]
   simp
  by_cases h1:y.fr.val<=c/\c<=y.to.val
  ·obtain⟨h1,h2⟩:=h1
   have hres:JG l c=true:=by
    refine List.any_eq_true.2 ⟨y,List.mem_of_getElem? hy,by simp[h1,h2]⟩
   simp[hk,hy,hgy,h1,h2,hres, -Bool.forall_bool, -Bool.exists_bool]
  ·have hres:JG (l.take (k+1)) c=false:=by
    rw[hstep]
    simp
    omega
   by_cases h2:y.fr.val<=c
   ·have h3: ¬c<=y.to.val:=fun e=> h1 ⟨h2,e⟩
    simp[hk,hy,hgy,h2,h3,hres, -Bool.forall_bool, -Bool.exists_bool]
   ·simp[hk,hy,hgy,h2,hres, -Bool.forall_bool, -Bool.exists_bool]
 ·rintro -hP
  rw[List.take_length] at hP
  simp[hP, -Bool.forall_bool, -Bool.exists_bool]
end Go.Gv

namespace Go.Gv
open Go.Proofs
def mr:CC:=oX [oB 6 (.mv (.const ob))] [0,1,2] [] (oX [oA 11 0,oZ 12 eD [oT 11],oA 10 12,oB 13 (.ext (oT 10) 0),oB 14 (.ext (oT 10) 1),oB 15 (.ext (oT 10) 2),oB 7 (.alloc aC [oi,oi,oi,on,on]),oF 5 7 13,oA 8 14,oA 9 15] [1,2,7,9] [7] (.seq (oX [oA 16 9,oB 17 (.eql true false [.int] (oT 16) (oN 0))] [1,2,7,17] [7] (.ite (oT 17) (oX [
 oB 6 (.mv (.const ob))] [6] [] (.ret)) (.skip))) (.keep [1,2,7] [7] (.seq (oX [oA 18 2] [1,7,18] [7] (.ite (oT 18) (oX [oD 19 5 7,oA 20 1,oZ 21 fu [oT 19,oT 20],oA 6 21] [6] [] (.ret)) (.skip))) (.keep [1,7] [7] (oX [oD 22 5 7,oA 23 1,oZ 24 jR [oT 22,oT 23],oA 6 24] [6] [] (.ret)))))))
def lH:List ar:= [.tmp 6]
def Fd:List Nat:= []
theorem EJ:ay Tryz.prog jY Fd mr lH 25:=ak mixed (by kernel_rfl)
def kS:CC:=oX [oB 5 (.box jc true (oT 0)),oB 6 (.box cQ true (oT 1)),oB 7 (.box fV true (oT 2)),oB 8 (.box kV true (oT 3)),oB 9 (.box RB true (oT 4)),oB 10 (.mv (.const ob))] [5,6,7,8,9] [] (qQ 1 (.reg [oB 13 (.clo ax [oT 5,oT 7,oT 8,oT 9]),oB 11 (.alloc yB [.nilFunc]),oF 1 11 13])
 (.keep [5,6,7,8,9,11] [11] (.seq (oX [oE 14 0 6,oC 15 1 14] [5,6,7,8,9,11,15] [11] (.block 0 (oX [oB 17 (.eql false false [.int] (oT 15) (oN 1)),oA 16 17] [5,6,7,8,9,11,15,16] [11] (.ite (oT 16) (oX [oB 10 (.mv (.const (.bool true)))] [10] [11] (.ret)) (oX [oB 19 (.eql false false [.int] (oT 15) (oN 2)),oA 18 19] [5,6,7,8,9,11,15,18] [11] (.ite (oT 18) (.seq (.regd [oE 20 3 6,oC 21 1 20,
 oD 22 7 5,oC 23 1 7,oE 24 0 5,oC 25 1 24,oE 26 1 6,oC 27 1 26,oZ 28 cI [oT 25,oT 27],oZ 29 cJ [oT 22,oT 23,oT 28],oE 30 5 6,oC 31 1 30] [oZ 32 jY [oT 21,oT 29,oT 31],oA 10 32]) (.keep [10] [11] (.ret))) (oX [oB 34 (.eql false false [.int] (oT 15) (oN 3)),oA 33 34] [5,6,7,8,9,11,15,33] [11] (.ite (oT 33) (.seq (.regd [oD 35 7 5,oC 36 1 7,
 oE 37 0 5,oC 38 1 37,oE 39 1 6,oC 40 1 39,oZ 41 ap [oT 38,oT 40],oZ 42 cJ [oT 35,oT 36,oT 41],oE 43 3 6,oC 44 1 43] [oZ 45 jX [oT 42,oT 44],oA 10 45]) (.keep [10] [11] (.ret))) (oX [oB 47 (.eql false false [.int] (oT 15) (oN 4)),oA 46 47] [5,6,7,8,9,11,15,46] [11] (.ite (oT 46) (.seq (.regd [oC 48 1 9,oC 49 1 8,oE 50 4 6,oC 51 1 50,
 oZ 52 aF [oT 49,oT 51]] [oB 53 (.iaddr 1 (oT 48) (oT 52)),oC 54 1 53,oA 12 54]) (.keep [5,6,7,12] [] (.seq (.regd [oA 55 12,oB 56 (.cmp .geq (oT 55) (oN 0)),oA 57 56,oH 58 57 (.load true 7 (oT 5)),oH 59 57 (.load false 1 (oT 7)),oH 60 57 (.faddr 0 (oT 5)),oH 61 57 (.load false 1 (oT 60)),oH 62 57 (.faddr 1 (oT 6)),oH 63 57 (.load false 1 (oT 62)),
 oH 64 57 (.call ap [oT 61,oT 63]),oH 65 57 (.call cJ [oT 58,oT 59,oT 64]),oH 66 57 (.load true 7 (oT 5)),oH 67 57 (.mv (oT 12)),oH 68 57 (.faddr 0 (oT 5)),oH 69 57 (.load false 1 (oT 68)),oH 70 57 (.faddr 2 (oT 6)),oH 71 57 (.load false 1 (oT 70)),oH 72 57 (.call ap [oT 69,oT 71])] [
 oH 73 57 (.call cJ [oT 66,oT 67,oT 72]),oH 74 57 (.eql false false [.str] (oT 65) (oT 73)),oB 75 (.pick (oT 57) (oT 74) (.const ob)),oA 10 75]) (.keep [10] [11] (.ret))))) (oX [oB 77 (.eql false false [.int] (oT 15) (oN 5)),oA 76 77] [5,6,7,11,15,76] [11] (.ite (oT 76) (oX [oD 78 7 5,oD 79 7 6,oC 80 1 7,oZ 81 eU [oT 78,oT 79,oT 80],
 oA 10 81] [10] [11] (.ret)) (oX [oB 83 (.eql false false [.int] (oT 15) (oN 6)),oA 82 83] [6,11,15,82] [11] (.ite (oT 82) (.seq (.regd [oC 84 1 11,oE 85 6 6,oC 86 1 85,oB 87 (.iaddr 7 (oT 86) (oN 0)),oD 88 7 87] [oB 89 (.callv (oT 84) [oT 88]),oB 90 (.not (oT 89)),oA 10 90]) (.keep [10] [11] (.ret))) (oX [oB 92 (.eql false false [.int] (oT 15) (oN 7)),
 oA 91 92] [6,11,91] [11] (.ite (oT 91) (oX [oE 93 6 6,oC 94 1 93,oB 95 (.clo bp [oT 11]),oZ 96 bP [oT 94,oT 95],oB 97 (.not (oT 96)),oA 10 97] [10] [11] (.ret)) (.skip))))))))))))))))) (.keep [6,11] [11] (oX [oE 98 6 6,oC 99 1 98,oC 100 1 11,oZ 101 bP [oT 99,oT 100],oA 10 101] [10] [11] (.ret))))))
def kF:List ar:= [.tmp 10]
def xC:List Nat:= [9,8,7,6,5]
theorem w7:ay Tryz.prog cH xC kS kF 102:=ak mixed (by kernel_rfl)
def i7:CC:=oX [oB 5 (.box cQ true (oT 0)),oB 6 (.mv (.const ob))] [1,2,3,4,5] [] (oX [oD 7 7 1,oD 8 7 5,oC 9 1 2,oC 10 1 3,oC 11 1 4,oZ 12 cH [oT 7,oT 8,oT 9,oT 10,oT 11],oA 6 12] [6] [] (.ret))
def iI:List ar:= [.tmp 6]
def uV:List Nat:= [5]
theorem uD:ay Tryz.prog ax uV i7 iI 13:=ak mixed (by kernel_rfl)
def iZ:CC:=oX [oB 2 (.box cQ true (oT 0)),oB 3 (.mv (.const ob))] [1,2] [] (oX [oC 4 1 1,oD 5 7 2,oB 6 (.callv (oT 4) [oT 5]),oB 7 (.not (oT 6)),oA 3 7] [3] [] (.ret))
def iH:List ar:= [.tmp 3]
def uU:List Nat:= [2]
theorem uC:ay Tryz.prog bp uU iZ iH 8:=ak mixed (by kernel_rfl)
end Go.Gv

namespace Go.Gv
open Cod (enc dec)
variable {S S0:Nat->Spc}
def Jd (v s:B) (f:Bool):Option Bool:=(nP v).bind fun x=> xg x s f
def UT (x:B×B×Bool):Prop:= ∃y,Jd x.1 x.2.1 x.2.2=some y
def XN (x:B×B×Bool) (y:Bool):Prop:=Jd x.1 x.2.1 x.2.2=some y
abbrev IH:Spc:=cC (a3 B B Bool) UT (enc (X:=Bool)) XN
theorem Gp (h1:S eD=rD) (h2:S jR=Hk false) (h3:S fu=Hk true):aV mr lH S (a3 B B Bool) UT (enc (X:=Bool)) XN:=by
 rintro⟨v,s,f⟩ ⟨y,hy⟩
 have hy:Jd v s f=some y:=hy
 obtain⟨x,hx,hm⟩:=Option.bind_eq_some_iff.1 hy
 cases f
 ·have hp:Mb false (x,s):=⟨y,hm⟩
  simp[mr,lH,h1,h2,hx,hp, -Bool.forall_bool, -Bool.exists_bool]
  exact fun z hz=> by show(nP v).bind _=_;rw[hx];exact hz
 ·have hp:Mb true (x,s):=⟨y,hm⟩
  simp[mr,lH,h1,h3,hx,hp, -Bool.forall_bool, -Bool.exists_bool]
  exact fun z hz=> by show(nP v).bind _=_;rw[hx];exact hz
end Go.Gv
