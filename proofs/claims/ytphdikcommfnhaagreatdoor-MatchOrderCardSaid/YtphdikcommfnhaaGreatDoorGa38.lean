/- A part of the framework and of the walks: C66 W183 V64 W184. -/
import Derived.Test.YtphdikcommfnhaaGreatDoorGa22
import Derived.Test.YtphdikcommfnhaaGreatDoorGa37
import Derived.Test.YtphdikcommfnhaaGreatDoorGa35
set_option linter.unusedSimpArgs false
set_option linter.unusedVariables false
set_option maxRecDepth 100000

namespace Go.Gv
open Go.Proofs
def mh:CC:=oX [oB 6 (.mv (.const (.map none)))] [0,1,2] [0,990] (oX [oB 10 (.m .mk []),oA 7 10] [0,1,2,7] [0,990,10] (.seq (oX [oA 11 2,oB 12 (.m .rng [oT 11])] [0,1,7,12] [0,990,10,12] (.block 0 (.loop 1 (oX [oB 13 (.m .next [oT 12]),oB 14 (.ext (oT 13) 0)] [0,1,7,12,14] [0,990,10,12] (.seq (.ite (oT 14) (.skip) (.exit 0)) (.keep [0,1,7,12] [0,990,10,12] (.block 1 (oX [
 oB 15 (.m .entry [oT 12]),oB 16 (.ext (oT 15) 0),oB 8 (.alloc bO [oi,oi,oi,oi]),oF 4 8 16] [0,1,7,8,12] [0,990,8,10,12] (oX [oA 17 0,oA 18 1,oD 19 4 8,oZ 20 aQ [oT 17,oT 18,oT 19],oB 21 (.m .rng [oT 20])] [0,1,7,12,21] [0,990,10,12,21] (.block 2 (.loop 2 (oX [oB 22 (.m .next [oT 21]),
 oB 23 (.ext (oT 22) 0)] [0,1,7,12,21,23] [0,990,10,12,21] (.seq (.ite (oT 23) (.skip) (.exit 2)) (.keep [0,1,7,12,21] [0,990,10,12,21] (.block 3 (oX [oB 24 (.m .entry [oT 21]),oB 25 (.ext (oT 24) 0),oB 9 (.alloc bO [oi,oi,oi,oi]),oF 4 9 25] [0,1,7,9,12,21] [0,990,9,10,12,21] (.reg [oA 26 7,oD 27 4 9,
 .op none none (.m (.upd true [.int .i64,.int .i64,.int .i64,.int .i64]) [oT 26,oT 27,.const (.bool true)])]))))))))))))))))) (.keep [7] [0,990,10] (oX [oA 28 7,oA 6 28] [6] [0,990,10] (.ret)))))
def lD:List ar:= [.tmp 6]
def zG:List Nat:= []
theorem ze:ay Tryz.prog cZ zG mh lD 29:=ak mixed (by kernel_rfl)
def kR:CC:=oX [oB 5 (.box bO true (oT 2)),oB 6 (.mv (.const (.map none)))] [0,1,5] [990,0,28] (.seq (.seq (.regd [oA 16 0,oG 17 16,oE 18 10 17,oC 19 1 18,oA 20 1,oD 21 4 5,oB 22 (.build [.pointer none,oi,oi,oi,oi] [(0,1,oT 20),(1,4,oT 21)]),oB 23 (.m (.look true false true [.ptr,.int .i64,.int .i64,.int .i64,.int .i64] [.map none]) [oT 19,oT 22]),
 oA 15 23,oB 24 (.ext (oT 15) 0),oB 25 (.ext (oT 15) 1),oA 7 24] [oA 8 25]) (.keep [0,1,5,7,8] [990,0,28] (oX [oA 26 8] [0,1,5,7,26] [990,0,28] (.ite (oT 26) (oX [oA 27 7,oA 6 27] [6] [990,0,28] (.ret)) (.skip))))) (.keep [0,1,5] [990,0,28] (oX [oB 28 (.m .mk []),oA 9 28] [0,1,5,9] [990,0,28] (qQ 6 (oX [oA 29 1,oG 30 29,oE 31 0 30,oC 32 1 31] [0,1,5,9,32] [990,0,28] (.block 0 (oX [
 oB 38 (.eql false false [.int] (oT 32) (oN 1)),oA 37 38] [0,1,5,9,32,37] [990,0,28] (.ite (oT 37) (.seq (.regd [oA 40 0,oA 41 1,oG 42 41,oD 43 13 42,oD 44 4 5,oB 45 (.callb 0 d8 [oT 40,oT 43,oT 44]),oA 39 45,oB 46 (.ext (oT 39) 0),oB 47 (.ext (oT 39) 1),oB 10 (.alloc bO [oi,oi,oi,oi]),.frz 0 0,.op none none (.store (some 10) 4 (oT 10) (oT 46))] [oA 11 47])
 (.keep [0,1,5,9,10,11] [990,0,10,28] (oX [oA 48 11] [0,1,5,9,10,48] [990,0,10,28] (.ite (oT 48) (.reg [oA 49 9,oD 50 4 10,.op none none (.m (.upd true [.int .i64,.int .i64,.int .i64,.int .i64]) [oT 49,oT 50,.const (.bool true)])]) (.skip))))) (.seq (oX [oB 52 (.eql false false [.int] (oT 32) (oN 2)),oA 51 52] [0,1,5,9,32,51] [990,0,28] (.ite (oT 51) (.skip) (.reg [
 oB 53 (.eql false false [.int] (oT 32) (oN 3)),oA 51 53]))) (.keep [0,1,5,9,32,51] [990,0,28] (.ite (oT 51) (.seq (.regd [oA 54 0,oA 55 1,oG 56 55,oD 57 13 56,oE 58 0 5,oC 59 1 58] [oZ 60 dA [oT 54,oT 57,oT 59]]) (.keep [0,1,5,9,60] [990,0,28] (.ite (oT 60) (.reg [oA 61 9,oD 62 4 5,
 .op none none (.m (.upd true [.int .i64,.int .i64,.int .i64,.int .i64]) [oT 61,oT 62,.const (.bool true)])]) (.skip)))) (oX [oB 64 (.eql false false [.int] (oT 32) (oN 4)),oA 63 64] [0,1,5,9,32,63] [990,0,28] (.ite (oT 63) (qQ 41 (.reg [oA 65 9,oD 66 4 5,.op none none (.m (.upd true [.int .i64,.int .i64,.int .i64,.int .i64]) [oT 65,oT 66,.const (.bool true)])])
 (.keep [0,1,5,9] [990,0,28] (oX [oA 67 1,oG 68 67,oE 69 12 68,oC 70 1 69,oB 71 (.len (oT 70)),oB 72 (.mv (oN 0))] [0,1,5,9,71,72] [990,0,28] (aP 1 72 71 73 2 (oX [oA 74 72,oA 12 74] [0,1,5,9,12,71,72] [990,0,28] (.reg [oA 75 0,oA 76 1,oG 77 76,oE 78 12 77,oC 79 1 78,oA 80 12,oB 81 (.iaddr 13 (oT 79) (oT 80)),oA 82 9,oZ 83 cZ [oT 75,oT 81,oT 82],
 oA 9 83])) 84)))) (oX [oB 86 (.eql false false [.int] (oT 32) (oN 5)),oA 85 86] [0,1,5,9,85] [990,0,28] (.ite (oT 85) (oX [oA 87 1,oG 88 87,oE 89 12 88,oC 90 1 89,oB 91 (.len (oT 90)),oB 92 (.mv (oN 0))] [0,1,5,9,91,92] [990,0,28] (aP 3 92 91 93 4 (oX [oA 94 92,oA 13 94] [0,1,5,9,13,91,92] [990,0,28] (.seq (.regd [oA 95 0,oA 96 1,oG 97 96,oE 98 12 97,oC 99 1 98,oA 100 13,
 oB 101 (.iaddr 13 (oT 99) (oT 100)),oD 102 4 5] [oZ 103 aQ [oT 95,oT 101,oT 102],oB 104 (.m .rng [oT 103])]) (.keep [0,1,5,9,91,92,104] [990,0,28,104] (.block 5 (.loop 1 (oX [oB 105 (.m .next [oT 104]),oB 106 (.ext (oT 105) 0)] [0,1,5,9,91,92,104,106] [990,0,28,104] (.seq (.ite (oT 106) (.skip) (.exit 5)) (.keep [0,1,5,9,91,92,104] [990,0,28,104] (.block 6 (oX [
 oB 107 (.m .entry [oT 104]),oB 108 (.ext (oT 107) 0),oB 14 (.alloc bO [oi,oi,oi,oi]),oF 4 14 108] [0,1,5,9,14,91,92,104] [990,0,14,28,104] (.reg [oA 109 9,oD 110 4 14,.op none none (.m (.upd true [.int .i64,.int .i64,.int .i64,.int .i64]) [oT 109,oT 110,.const (.bool true)])]))))))))))) 111)) (.reg [oA 33 0,oA 34 1,oD 35 4 5,oZ 36 eS [oT 33,oT 34,oT 35],
 oA 9 36])))))))))))) (.keep [0,1,5,9] [990,0,28] (.seq (.regd [oA 112 0,oG 113 112,oE 114 10 113,oC 115 1 114,oA 116 1,oD 117 4 5,oB 118 (.build [.pointer none,oi,oi,oi,oi] [(0,1,oT 116),(1,4,oT 117)]),oA 119 9] [.op none none (.m (.upd true [.ptr,.int .i64,.int .i64,.int .i64,.int .i64]) [oT 115,oT 118,oT 119])]) (.keep [9] [990,0,28] (oX [oA 120 9,
 oA 6 120] [6] [990,0,28] (.ret)))))))))
def kE:List ar:= [.tmp 6]
def xz:List Nat:= [5,3045000,2010010]
theorem w4:ay Tryz.prog aQ xz kR kE 121:=ak mixed (by kernel_rfl)
def jD:CC:=oX [oB 5 (.box bO true (oT 2)),oB 6 (.mv (.const (.map none)))] [0,1,5] [0,990] (oX [oA 15 1,oG 16 15,oE 17 10 16,oC 18 1 17,oA 7 18] [0,1,5,7] [0,990] (oX [oA 19 1,oG 20 19,oE 21 12 20,oC 22 1 21,oB 23 (.iaddr 13 (oT 22) (oN 0)),oA 8 23] [0,1,5,7,8] [0,990] (qQ 3 (.block 0 (.loop 1 (.seq (oX [oA 24 1,oZ 25 jh [oT 24],
 oA 26 25,oH 27 26 (.mv (oT 8)),oH 28 26 (.call jh [oT 27]),oB 29 (.pick (oT 26) (oT 28) (.const ob))] [0,1,5,7,8,29] [0,990] (.ite (oT 29) (.skip) (.exit 0))) (.keep [0,1,5,7,8] [0,990] (.block 1 (oX [oA 30 7,oA 31 8,oG 32 31,oE 33 10 32,oC 34 1 33,oB 35 (.arith .mul (oT 30) (oT 34)),oA 7 35] [0,1,5,7,8] [0,990] (.reg [oA 36 8,oG 37 36,oE 38 12 37,oC 39 1 38,
 oB 40 (.iaddr 13 (oT 39) (oN 0)),oA 8 40]))))))) (.keep [0,1,5,7,8] [0,990] (qQ 42 (.reg [oB 41 (.m .mk []),oD 42 4 5,.op none none (.m (.upd true [.int .i64,.int .i64,.int .i64,.int .i64]) [oT 41,oT 42,.const (.bool true)]),oA 43 41,oA 9 43]) (.keep [0,1,7,8,9] [0,990,41,53,75] (.seq (oX [oA 44 7,oB 45 (.mv (oN 0))] [0,1,7,8,9,44,45] [0,990,41,53,75] (aP 2 45 44 46 3 (.reg [
 oA 47 0,oA 48 8,oA 49 9,oZ 50 cZ [oT 47,oT 48,oT 49],oA 9 50]) 51)) (.keep [0,1,7,8,9] [0,990,41,53,75] (oX [oA 52 9,oZ 53 iy [oT 52],oA 10 53] [0,1,7,8,9,10] [0,990,41,53,75] (.seq (oX [oA 54 7,oA 11 54] [0,1,8,9,10,11] [0,990,41,53,75] (.block 4 (.loop 2 (qQ 13 (oX [oA 55 9,oB 56 (.m .len [oT 55]),oB 57 (.cmp .gtr (oT 56) (oN 0)),oA 58 57,
 oH 59 58 (.mv (oT 1)),oH 60 58 (.nilck (oT 59)),oH 61 58 (.faddr 11 (oT 60)),oH 62 58 (.load false 1 (oT 61)),oH 63 58 (.cmp .lss (oT 62) (oN 0)),oH 64 58 (.mv (oT 63)),oI 65 64 (.mv (oT 11)),oI 66 64 (.mv (oT 1)),oI 67 64 (.nilck (oT 66)),oI 68 64 (.faddr 11 (oT 67)),oI 69 64 (.load false 1 (oT 68)),oI 70 64 (.cmp .lss (oT 65) (oT 69)),
 oH 71 58 (.pick (oT 64) (.const (.bool true)) (oT 70)),oB 72 (.pick (oT 58) (oT 71) (.const ob))] [0,1,8,9,10,11,72] [0,990,41,53,75] (.ite (oT 72) (.skip) (.exit 4))) (.keep [0,1,8,9,10,11] [0,990,41,53,75] (.seq (.block 5 (oX [oB 75 (.m .mk []),oA 12 75] [0,1,8,9,10,11,12] [0,990,41,53,75] (qQ 17 (oX [oA 76 9,
 oB 77 (.m .rng [oT 76])] [0,1,8,10,11,12,77] [0,990,41,53,75,77] (.block 6 (.loop 3 (oX [oB 78 (.m .next [oT 77]),oB 79 (.ext (oT 78) 0)] [0,1,8,10,11,12,77,79] [0,990,41,53,75,77] (.seq (.ite (oT 79) (.skip) (.exit 6)) (.keep [0,1,8,10,11,12,77] [0,990,41,53,75,77] (.block 7 (oX [oB 80 (.m .entry [oT 77]),oB 81 (.ext (oT 80) 0),oB 13 (.alloc bO [oi,oi,oi,oi]),
 oF 4 13 81] [0,1,8,10,11,12,13,77] [0,990,13,41,53,75,77] (oX [oA 82 0,oA 83 8,oD 84 4 13,oZ 85 aQ [oT 82,oT 83,oT 84],oB 86 (.m .rng [oT 85])] [0,1,8,10,11,12,13,77,86] [0,990,13,41,53,75,77,86] (.block 8 (.loop 4 (oX [oB 87 (.m .next [oT 86]),oB 88 (.ext (oT 87) 0)] [0,1,8,10,11,12,13,77,86,88] [0,990,13,41,53,75,77,86] (.seq (.ite (oT 88) (.skip) (.exit 8))
 (.keep [0,1,8,10,11,12,13,77,86] [0,990,13,41,53,75,77,86] (.block 9 (oX [oB 89 (.m .entry [oT 86]),oB 90 (.ext (oT 89) 0),oB 14 (.alloc bO [oi,oi,oi,oi]),oF 4 14 90] [0,1,8,10,11,12,13,14,77,86] [0,990,13,14,41,53,75,77,86] (oX [oE 91 0 14,oC 92 1 91,oE 93 0 13,oC 94 1 93,oB 95 (.cmp .gtr (oT 92) (oT 94)),oA 96 95,oH 97 96 (.mv (oT 10)),oH 98 96 (.load true 4 (oT 14)),
 oH 99 96 (.m (.look false false true [.int .i64,.int .i64,.int .i64,.int .i64] [ob]) [oT 97,oT 98]),oH 100 96 (.not (oT 99)),oB 101 (.pick (oT 96) (oT 100) (.const ob))] [0,1,8,10,11,12,13,14,77,86,101] [0,990,13,14,41,53,75,77,86] (.ite (oT 101) (.reg [oA 102 12,oD 103 4 14,.op none none (.m (.upd true [.int .i64,.int .i64,.int .i64,.int .i64]) [oT 102,oT 103,.const (.bool true)])])
 (.skip))))))))))))))))))) (.keep [0,1,8,10,11,12] [0,990,41,53,75] (oX [oA 104 10,oA 105 12,oZ 106 gc [oT 104,oT 105]] [0,1,8,10,11,12] [0,990,41,53,75] (.reg [oA 107 12,oA 9 107])))))) (.keep [0,1,8,9,10,11] [0,990,41,53,75] (.reg [oA 73 11,oB 74 (.arith .add (oT 73) (oN 1)),oA 11 74])))))))) (.keep [10] [0,990,41,53,75] (oX [oA 108 10,
 oA 6 108] [6] [0,990,41,53,75] (.ret)))))))))))))
def jr:List ar:= [.tmp 6]
def vP:List Nat:= [5]
theorem vG:ay Tryz.prog eS vP jD jr 109:=ak mixed (by kernel_rfl)
def mq:CC:=oX [oA 6 1,oB 7 (.m .rng [oT 6])] [0,7] [0,7] (.block 0 (.loop 1 (oX [oB 8 (.m .next [oT 7]),oB 9 (.ext (oT 8) 0)] [0,7,9] [0,7] (.seq (.ite (oT 9) (.skip) (.exit 0)) (.keep [0,7] [0,7] (.block 1 (oX [oB 10 (.m .entry [oT 7]),oB 11 (.ext (oT 10) 0),oB 12 (.ext (oT 10) 1),oB 4 (.alloc bO [oi,oi,oi,oi]),oF 4 4 11,oA 5 12] [0,4,5,7] [0,4,7] (.reg [
 oA 13 0,oD 14 4 4,oA 15 5,.op none none (.m (.upd true [.int .i64,.int .i64,.int .i64,.int .i64]) [oT 13,oT 14,oT 15])]))))))))
def lG:List ar:= []
def zJ:List Nat:= []
theorem zh:ay Tryz.prog gc zJ mq lG 16:=ak mixed (by kernel_rfl)
end Go.Gv

namespace Go.Gv
open Go.Proofs
open Cod (enc dec)
variable {S S0:Nat->Spc}
structure Xg (r:Rn) (q:Pat):Prop where
 nd:xX q
 num:zl q=true
 lab:q.lab≠oj->pH r.lb q.lab=true
 tok:q.op=1-> ∀s,Mc r.en s->s.p < r.en-> ∃y,vE r q s=some y
structure Xa (r:Rn):Prop where
 l3:r.lb.length<=3
 sz:ZX r.c
 en:r.en<=100000
def vi (r:Rn) (es:List D):Prop:= ∀e∈es,∃d p s l,oL d p/\e= .tup [.agg [d, .v (.int .i64 s.p), .v (.int .i64 s.b0), .v (.int .i64 s.b1), .v (.int .i64 s.b2)], .mp (bQ l)]/\l.Nodup/\ ∀t,t∈l↔ld r p s t
def Y2 (l:List St3):D:= .mp (bQ l)
@[simp] theorem qme (l:List St3):Y2 l= .mp (bQ l):=rfl
def Pn (n:Nat) (r:Rn) (es:List D) (x:D×St3):Prop:=Xa r/\vi r es/\Mc r.en x.2/\ ∃p,oL x.1 p/\fN p<=n/\mD (Xg r) p
def Pk (r:Rn) (x:D×St3) (es:List D) (y:List St3):Prop:=vi r es/\y.Nodup/\ ∀p,oL x.1 p-> ∀t,t∈y↔ld r p x.2 t
abbrev wj (n:Nat):Spc:=qa9 (aD (a1 St3)) Y2 (Pn n) Pk
def UR (n:Nat) (r:Rn) (es:List D) (x:D×D×Unit):Prop:=Xa r/\vi r es/\(∃l:List St3,x.2.1= .mp (bQ l)/\ ∀s∈l,Mc r.en s)/\ ∃p,oL x.1 p/\fN p<=n/\mD (Xg r) p
def UJ (r:Rn) (x:D×D×Unit) (es:List D) (y:List St3):Prop:=vi r es/\y.Nodup/\ ∀ (p:Pat) (l:List St3),oL x.1 p->x.2.1= .mp (bQ l)-> ∀t,t∈y↔ ∃s∈l,ld r p s t
abbrev D3 (n:Nat):Spc:=qa9 (aD (aD a0)) Y2 (UR n) UJ
theorem X6 (n:Nat) (h1:S aQ=wj n):JU mh lD S (aD (aD a0)) Y2 (UR n) UJ:=by
 rintro b r v es ⟨d,dl,⟨⟩⟩ ⟨hr,hm,⟨l,hdl,hl⟩,p,hp,hpn,hpa⟩
 have hdl:dl= .mp (bQ l):=hdl
 subst hdl
 obtain⟨cs,off,hd,hl13,hc13⟩:=hp
 have hd:d= .cptr cs off:=hd
 subst hd
 have hp:oL (.cptr cs off) p:=⟨cs,off,rfl,hl13,hc13⟩
 simp[mh,lD,yQ, -Bool.forall_bool, -Bool.exists_bool]
 intro v1 b1
 refine aY (X:=Value×List D×List St3×List D×List St3) [0,1,7,12] [] (fun x=> vi r x.2.1/\x.2.2.1.Nodup/\(∀s∈x.2.2.2.2,s∈l)/\(∀t∈x.2.2.1,∃s∈l,ld r p s t)/\ ∀s∈l,s∈x.2.2.2.2\/ ∀t,ld r p s t->t∈x.2.2.1)
  (fun _=> []) (fun x=> [(0, .box b (kg r (.own 990 x.1))),(990, .mrow x.1 x.2.1),(10, .mrow v1 (bQ x.2.2.1)),(12, .miter b1 x.2.2.2.1 (bQ x.2.2.2.2))]) (fun x=> x.2.2.2.2.length) (v,es, [], [],l)
  ⟨hm,List.nodup_nil,fun _ h=> h,fun _ h=> (by cases h),fun s hs=> .inl hs⟩ (by simp) (by simp[o9]) ?_
 rintro⟨v',es',out,cur,left⟩ ⟨hm',hn',hl',ho',hd'⟩
 simp only at hm' hn' hl' ho' hd'
 simp[-Bool.forall_bool, -Bool.exists_bool]
 refine⟨fun h0=> ?_,fun l1 e l2 hsp=> ?_⟩
 ·have hlz:=fk h0
  subst hlz
  refine HM v' es' out (rR (by simp[ah])) (by simp[ah]) (by simp[ah]) ⟨hm',hn',fun p' l' hp' hl2 t=> ?_⟩
  obtain rfl:=om hp hp'
  have hl2:D.mp (bQ l)= .mp (bQ l'):=hl2
  obtain rfl:=DU (D.mp.inj hl2)
  exact⟨ho' t,fun⟨s,hs,hD⟩=> (hd' s hs).elim (fun h=> by cases h) fun h=> h t hD⟩
 ·obtain⟨a,s,c,rfl,rfl,rfl,rfl⟩:=gm hsp
  have hs:s∈l:=hl' s (by simp)
  have hPr:Pn n r es' (.cptr cs off,s):=⟨hr,hm',hl s hs,p,hp,hpn,hpa⟩
  simp[h1,wL,hPr,yQ, -Bool.forall_bool, -Bool.exists_bool]
  intro v2 es2 ys hQ b2
  have hys:=hQ.2.2 p hp
  refine aY (X:=List St3×List D×List St3) [0,1,7,12,21] [0,990,12] (fun x=> x.1.Nodup/\(∀t∈x.2.2,t∈ys)/\(∀t∈out,t∈x.1)/\(∀t∈x.1,t∈out\/t∈ys)/\ ∀t∈ys,t∈x.2.2\/t∈x.1)
   (fun _=> []) (fun x=> [(10, .mrow v1 (bQ x.1)),(21, .miter b2 x.2.1 (bQ x.2.2))]) (fun x=> x.2.2.length) (out, [],ys)
   ⟨hn',fun _ h=> h,fun _ h=> h,fun _ h=> .inl h,fun _ h=> .inl h⟩ (by simp) (by simp) ?_
  rintro⟨out2,cur2,left2⟩ ⟨g1,g2,g3,g4,g5⟩
  simp only at g1 g2 g3 g4 g5
  simp[-Bool.forall_bool, -Bool.exists_bool]
  refine⟨fun h0=> ?_,fun l1 e l2 hsp2=> ?_⟩
  ·have hlz:=fk h0
   subst hlz
   refine⟨v2,es2,out2,_,a++c,⟨hQ.1,g1,fun x h=> hl' x (by simp only[List.mem_append,List.mem_cons] at h ⊢;rcases h with h | h <;> simp[h]),fun t ht=> ?_,fun x hx=> ?_⟩,⟨.inl rfl, .inl ⟨rfl,rfl⟩, .inl rfl, .inl ⟨rfl,(gP a c).symm⟩⟩,by simp⟩
   ·rcases g4 t ht with h | h
    ·exact ho' t h
    ·exact⟨s,hs,(hys t).1 h⟩
   ·rcases hd' x hx with h | h
    ·rcases List.mem_append.1 h with h | h
     ·exact .inl (by simp[h])
     ·rcases List.mem_cons.1 h with rfl | h
      ·exact .inr fun t ht=> (g5 t ((hys t).2 ht)).elim (fun h=> by cases h) id
      ·exact .inl (by simp[h])
    ·exact .inr fun t ht=> g3 t (h t ht)
  ·obtain⟨a2,t,c2,rfl,rfl,rfl,rfl⟩:=gm hsp2
   simp[-Bool.forall_bool, -Bool.exists_bool]
   refine⟨sR t out2,_,a2++c2,⟨sQ g1,fun x h=> g2 x (by simp only[List.mem_append,List.mem_cons] at h ⊢;rcases h with h | h <;> simp[h]),fun x hx=> eh.2 (.inr (g3 x hx)),fun x hx=> ?_,fun x hx=> ?_⟩,⟨.inl rfl, .inl ⟨rfl,(gP a2 c2).symm⟩⟩,by simp⟩
   ·rcases eh.1 hx with rfl | h
    ·exact .inr (g2 x (by simp))
    ·exact g4 x h
   ·rcases g5 x hx with h | h
    ·rcases List.mem_append.1 h with h | h
     ·exact .inl (by simp[h])
     ·rcases List.mem_cons.1 h with rfl | h
      ·exact .inr (eh.2 (.inl rfl))
      ·exact .inl (by simp[h])
    ·exact .inr (eh.2 (.inr h))
end Go.Gv

namespace Go.Gv
open Go.Proofs
theorem XF {r:Rn} {p:Pat} (h:p.op=1) (s t:St3):ld r p s t↔s.p < r.en/\vE r p s=some true/\t=A6 r p s:=by
 obtain⟨op,c,l,rg,mn,mx,ks⟩:=p
 rw[ld];dsimp only;rw[if_pos h]
theorem JF {r:Rn} {p:Pat} (h:p.op=2\/p.op=3) (s t:St3):ld r p s t↔N4 r p s.p=true/\t=s:=by
 obtain⟨op,c,l,rg,mn,mx,ks⟩:=p
 have h:op=2\/op=3:=h
 rw[ld];dsimp only;rw[if_neg (by omega),if_pos h]
theorem qb7 {r:Rn} {p:Pat} (h:p.op=4) (s t:St3):ld r p s t↔rp r p.kids s t:=by
 obtain⟨op,c,l,rg,mn,mx,ks⟩:=p
 have h:op=4:=h
 rw[ld];dsimp only;rw[if_neg (by omega),if_neg (by omega),if_pos h]
theorem qb6 {r:Rn} {p:Pat} (h:p.op=5) (s t:St3):ld r p s t↔rq r p.kids s t:=by
 obtain⟨op,c,l,rg,mn,mx,ks⟩:=p
 have h:op=5:=h
 rw[ld];dsimp only;rw[if_neg (by omega),if_neg (by omega),if_neg (by omega),if_pos h]
theorem XE {r:Rn} {p k:Pat} {ks:List Pat} (h:p.op=6) (hk:p.kids=k::ks) (s t:St3):ld r p s t↔tg (ld r k) p.mn p.mx s t:=by
 obtain⟨op,c,l,rg,mn,mx,kids⟩:=p
 have h:op=6:=h
 have hk:kids=k::ks:=hk
 subst hk
 rw[ld];dsimp only;rw[if_neg (by omega),if_neg (by omega),if_neg (by omega),if_neg (by omega),Aj]
theorem rU (r:Rn) (s t:St3):rp r [] s t↔s=t:=by rw[rp]
theorem rV (r:Rn) (k:Pat) (ks:List Pat) (s t:St3):rp r (k::ks) s t↔ ∃u,ld r k s u/\rp r ks u t:=by rw[rp]
theorem FF (r:Rn) (s t:St3):rq r [] s t↔False:=by rw[rq]
theorem vv (r:Rn) (k:Pat) (ks:List Pat) (s t:St3):rq r (k::ks) s t↔ld r k s t\/rq r ks s t:=by rw[rq]
theorem BG {r:Rn} {k:Pat} : ∀ {ks:List Pat} {s t:St3},rp r (ks++ [k]) s t↔ ∃u,rp r ks s u/\ld r k u t
 | [],s,t=> by
   rw[List.nil_append,rV]
   constructor
   ·rintro⟨u,h1,h2⟩
    exact⟨s,(rU ..).2 rfl,(rU ..).1 h2 ▸h1⟩
   ·rintro⟨u,h1,h2⟩
    exact⟨t,(rU ..).1 h1 ▸h2,(rU ..).2 rfl⟩
 | a::ks,s,t=> by
   rw[List.cons_append,rV]
   constructor
   ·rintro⟨u,h1,h2⟩
    obtain⟨v,h3,h4⟩:=BG.1 h2
    exact⟨v,(rV ..).2 ⟨u,h1,h3⟩,h4⟩
   ·rintro⟨v,h3,h4⟩
    obtain⟨u,h1,h2⟩:=(rV ..).1 h3
    exact⟨u,h1,BG.2 ⟨v,h2,h4⟩⟩
theorem HS {r:Rn} {k:Pat} : ∀ {ks:List Pat} {s t:St3},rq r (ks++ [k]) s t↔rq r ks s t\/ld r k s t
 | [],s,t=> by rw[List.nil_append,vv,FF];simp
 | a::ks,s,t=> by rw[List.cons_append,vv,vv,HS,or_assoc]
theorem Ep {α:Type} {R:α->α->Prop} {n:Nat} {s t:α} :Pow R (n+1) s t↔ ∃u,Pow R n s u/\R u t:=by
 induction n generalizing s with
 | zero=>
   constructor
   ·rintro⟨u,h1,h2⟩;cases h2;exact⟨s,rfl,h1⟩
   ·rintro⟨u,h1,h2⟩;cases h1;exact⟨t,h2,rfl⟩
 | succ n ih=>
   constructor
   ·rintro⟨u,h1,h2⟩
    obtain⟨v,h3,h4⟩:=ih.1 h2
    exact⟨v,⟨u,h1,h3⟩,h4⟩
   ·rintro⟨v,⟨u,h1,h3⟩,h4⟩
    exact⟨u,h1,ih.2 ⟨v,h3,h4⟩⟩
theorem P5 {α:Type} {R:α->α->Prop} {m n:Nat} {s t:α} (h:Pow R (m+n) s t): ∃u,Pow R m s u/\Pow R n u t:=by
 induction m generalizing s with
 | zero=> exact⟨s,rfl,by rwa [Nat.zero_add] at h⟩
 | succ m ih=>
   rw[Nat.succ_add] at h
   obtain⟨v,h1,h2⟩:=h
   obtain⟨u,h3,h4⟩:=ih h2
   exact⟨u,⟨v,h1,h3⟩,h4⟩
def BY (R:St3->St3->Prop) (base:List St3) (k:Nat) (t:St3):Prop:= ∃u∈base,Pow (xY R) k u t
structure qaB (R:St3->St3->Prop) (base:List St3) (j:Nat) (out new:List St3):Prop where
 o: ∀t,t∈out↔ ∃k,k<=j/\BY R base k t
 f: ∀t∈new,BY R base j t
 n: ∀t,BY R base j t->t∈new\/ ∃k,k < j/\BY R base k t
theorem Ul (R:St3->St3->Prop) (base:List St3):qaB R base 0 base base:=by
 have h0: ∀t,BY R base 0 t↔t∈base:=fun t=> ⟨fun⟨u,h1,h2⟩=> by cases h2;exact h1,fun h=> ⟨t,h,rfl⟩⟩
 refine⟨fun t=> ⟨fun h=> ⟨0,Nat.le_refl _,(h0 t).2 h⟩,?_⟩,fun t h=> (h0 t).2 h,fun t h=> .inl ((h0 t).1 h)⟩
 rintro⟨k,hk,h⟩
 obtain rfl:k=0:=by omega
 exact(h0 t).1 h
theorem Em {R:St3->St3->Prop} {base:List St3} {k:Nat} {t:St3} :BY R base (k+1) t↔ ∃a,BY R base k a/\xY R a t:=by
 constructor
 ·rintro⟨u,h1,h2⟩
  obtain⟨a,h3,h4⟩:=Ep.1 h2
  exact⟨a,⟨u,h1,h3⟩,h4⟩
 ·rintro⟨a,⟨u,h1,h3⟩,h4⟩
  exact⟨u,h1,Ep.2 ⟨a,h3,h4⟩⟩
theorem Um {R:St3->St3->Prop} {base out new out' new':List St3} {j:Nat} (h:qaB R base j out new) (h1: ∀t,t∈new'↔t∉out/\ ∃a∈new,xY R a t) (h2: ∀t,t∈out'↔t∈out\/t∈new'):qaB R base (j+1) out' new':=by
 have key: ∀t,BY R base (j+1) t->t∈new'\/t∈out:=fun t ht=> by
  obtain⟨a,ha,hs⟩:=Em.1 ht
  by_cases ho:t∈out
  ·exact .inr ho
  ·rcases h.n a ha with hn | ⟨k,hk,hr⟩
   ·exact .inl ((h1 t).2 ⟨ho,a,hn,hs⟩)
   ·exact .inr ((h.o t).2 ⟨k+1,by omega,Em.2 ⟨a,hr,hs⟩⟩)
 have new_r: ∀t∈new',BY R base (j+1) t:=fun t ht=> by
  obtain⟨_,a,ha,hs⟩:=(h1 t).1 ht
  exact Em.2 ⟨a,h.f a ha,hs⟩
 refine⟨fun t=> ?_,new_r,fun t ht=> ?_⟩
 ·rw[h2]
  constructor
  ·rintro(ho | hn)
   ·obtain⟨k,hk,hr⟩:=(h.o t).1 ho
    exact⟨k,by omega,hr⟩
   ·exact⟨j+1,Nat.le_refl _,new_r t hn⟩
  ·rintro⟨k,hk,hr⟩
   by_cases e:k=j+1
   ·subst e;exact(key t hr).symm
   ·exact .inl ((h.o t).2 ⟨k,by omega,hr⟩)
 ·rcases key t ht with hn | ho
  ·exact .inl hn
  ·obtain⟨k,hk,hr⟩:=(h.o t).1 ho
   exact .inr ⟨k,by omega,hr⟩
theorem Un {R:St3->St3->Prop} {base out:List St3} {j:Nat} (h:qaB R base j out []) (t:St3):t∈out↔ ∃k,BY R base k t:=by
 constructor
 ·intro ht
  obtain⟨k,_,hr⟩:=(h.o t).1 ht
  exact⟨k,hr⟩
 ·rintro⟨k,hr⟩
  induction k using Nat.strongRecOn with
  | _ k ih=>
    by_cases hk:k<=j
    ·exact(h.o t).2 ⟨k,hk,hr⟩
    ·obtain⟨u,hu,hp⟩:=hr
     obtain⟨a,h1,h2⟩:=P5 (m:=j) (n:=k -j) (by rwa [show j+ (k -j)=k by omega])
     rcases h.n a ⟨u,hu,h1⟩ with hn | ⟨i,hi,v,hv,h3⟩
     ·cases hn
     ·exact ih (i+ (k -j)) (by omega) ⟨v,hv,h3.add h2⟩
theorem Sd {R:St3->St3->Prop} {base:List St3} {mn mx:Int} {s:St3} (hb: ∀u,u∈base↔Pow R mn.toNat s u) (t:St3):tg R mn mx s t↔ ∃k:Nat,(mx < 0\/mn+k<=mx)/\BY R base k t:=by
 constructor
 ·rintro⟨u,h1,k,h2,h3⟩
  exact⟨k,h2,u,(hb u).2 h1,h3⟩
 ·rintro⟨k,h2,u,h1,h3⟩
  exact⟨u,(hb u).1 h1,k,h2,h3⟩
end Go.Gv

namespace Go.Gv
open Go.Proofs
open Cod (enc dec)
variable {S S0:Nat->Spc}
def UQ (n:Nat) (r:Rn) (es:List D) (x:D×St3):Prop:=Xa r/\vi r es/\Mc r.en x.2/\ ∃p,oL x.1 p/\p.op=6/\fN p<=n+1/\mD (Xg r) p
abbrev RX (n:Nat):Spc:=qa9 (aD (a1 St3)) Y2 (UQ n) Pk
abbrev b_mtok:Spc:=XJ (a2 Pat St3) Pm (J4 (Y:=St3) (Z:=Bool)) L9
abbrev b_manc:Spc:=XJ (a2 Pat Int) UU (enc (X:=Bool)) UL
theorem Qr {d d':D} {s s':St3} (h:F1 (.agg [d, .v (.int .i64 s.p), .v (.int .i64 s.b0), .v (.int .i64 s.b1), .v (.int .i64 s.b2)]) (.agg [d', .v (.int .i64 s'.p), .v (.int .i64 s'.b0), .v (.int .i64 s'.b1), .v (.int .i64 s'.b2)])) {p p':Pat} (hp:oL d p) (hp':oL d' p'):p=p'/\s=s':=by
 obtain⟨tp,I,w,x,h1,h2⟩:=h
 obtain⟨xs,rfl,hl,hc⟩:=h1.inv_agg
 obtain⟨ys,he,hl2,hc2⟩:=h2.inv_agg
 have hxy:xs=ys:=by simpa using he
 subst hxy
 match xs,hl with
 | [x0,x1,x2,x3,x4],_=>
   have a0:=(hc 0 _ _ rfl rfl).2
   have b0:=(hc2 0 _ _ rfl rfl).2
   have e1:=(hc 1 _ _ rfl rfl).2.inv_v.symm.trans (hc2 1 _ _ rfl rfl).2.inv_v
   have e2:=(hc 2 _ _ rfl rfl).2.inv_v.symm.trans (hc2 2 _ _ rfl rfl).2.inv_v
   have e3:=(hc 3 _ _ rfl rfl).2.inv_v.symm.trans (hc2 3 _ _ rfl rfl).2.inv_v
   have e4:=(hc 4 _ _ rfl rfl).2.inv_v.symm.trans (hc2 4 _ _ rfl rfl).2.inv_v
   simp only[Value.int.injEq,true_and] at e1 e2 e3 e4
   obtain⟨a,b,c,d⟩:=s
   obtain⟨a',b',c',d'⟩:=s'
   simp only at e1 e2 e3 e4
   subst e1;subst e2;subst e3;subst e4
   exact⟨P2 hp hp' a0 b0,rfl⟩
abbrev qjW:List KK:= [.ptr, .int .i64, .int .i64, .int .i64, .int .i64]
theorem IX {d:D} {p:Pat} (h:oL d p):Ty .ptr d=true:=by
 obtain⟨cs,off,rfl,h1,_⟩:=h
 show decide (cs.length≠1)=true
 rw[decide_eq_true_iff]
 omega
theorem KN {r:Rn} {es:List D} (h:vi r es):es.all (Lj true qjW)=true:=by
 rw[List.all_eq_true]
 intro e he
 obtain⟨d,p,s,l,hp,rfl,_⟩:=h e he
 have:=IX hp
 simp[Lj,GS,my,NL,this]
 exact⟨rfl,rfl,rfl,rfl⟩
theorem Qt {r:Rn} {es:List D} {d:D} {p:Pat} {s:St3} {K:D->Prop} (h:vi r es) (hp:oL d p) (h1: ∀l:List St3,l.Nodup->(∀t,t∈l↔ld r p s t)->K (.tup [.mp (bQ l), .v (.bool true)])) (h2:K (.tup [.v (.map none), .v (.bool false)])):
 sL true false true qjW [.map none] (.agg [d, .v (.int .i64 s.p), .v (.int .i64 s.b0), .v (.int .i64 s.b1), .v (.int .i64 s.b2)]) es K:=by
 refine⟨KN h,?_,fun k' v hm hq=> ?_,fun _=> h2⟩
 ·have:=IX hp
  simp[GS,my,NL,this]
  exact⟨rfl,rfl,rfl,rfl⟩
 ·obtain⟨d',p',s',l,hp',e,hn,hl⟩:=h _ hm
  simp only[D.tup.injEq,List.cons.injEq,and_true] at e
  obtain⟨rfl,rfl⟩:=e
  obtain⟨rfl,rfl⟩:=Qr hq hp hp'
  exact h1 l hn hl
theorem Ry {r:Rn} {es:List D} {d:D} {p:Pat} {s:St3} {l:List St3} {K:List D->Prop} (h:vi r es) (hp:oL d p) (hn:l.Nodup) (hl: ∀t,t∈l↔ld r p s t) (h1: ∀es',vi r es'->K es'):
 wg true qjW (.agg [d, .v (.int .i64 s.p), .v (.int .i64 s.b0), .v (.int .i64 s.b1), .v (.int .i64 s.b2)]) (.mp (bQ l)) es K:=by
 refine⟨KN h,?_,fun l1 k' v' l2 e hq=> h1 _ fun x hx=> ?_,fun _=> h1 _ fun x hx=> ?_⟩
 ·have:=IX hp
  simp[GS,my,NL,this]
  exact⟨rfl,rfl,rfl,rfl⟩
 ·rcases List.mem_append.1 hx with hx | hx
  ·exact h x (by rw[e];simp[hx])
  ·rcases List.mem_cons.1 hx with rfl | hx
   ·exact⟨d,p,s,l,hp,rfl,hn,hl⟩
   ·exact h x (by rw[e];simp[hx])
 ·rcases List.mem_append.1 hx with hx | hx
  ·exact h x hx
  ·simp at hx
   subst hx
   exact⟨d,p,s,l,hp,rfl,hn,hl⟩
theorem Ho {cs:List D} {off:Nat} {p:Pat} (hl:off+13<=cs.length) (hc: (cs.drop off).take 13=(enc p).cells):
 cs[off]?=some (.v (.int .i64 p.op))/\cs[off+10]?=some (.v (.int .i64 p.mn))/\cs[off+11]?=some (.v (.int .i64 p.mx))/\cs[off+12]?=some (.list 13 (p.kids.map enc)):=by
 refine⟨?_,?_,?_,?_⟩
 ·have:=sA hl hc (j:=0) (by decide)
  rw[Nat.add_zero] at this
  rw[this];simp
 ·rw[sA hl hc (j:=10) (by decide)];simp
 ·rw[sA hl hc (j:=11) (by decide)];simp
 ·rw[sA hl hc (j:=12) (by decide)];simp
theorem jL (q:Pat):oL (.cptr [.v (.int .i64 q.op), .v (.int .i64 q.cond.op), .v (.string q.cond.name), .v (.string q.cond.arg), .v (.string q.cond.val), .v (.string q.cond.lab), .v (.bool q.cond.fold), .list 7 (q.cond.kids.map enc), .v (.string q.lab), .v (.string q.reg), .v (.int .i64 q.mn), .v (.int .i64 q.mx), .list 13 (q.kids.map enc)] 0) q:=
 ⟨_,_,rfl,Nat.le_refl _,by simp⟩
theorem Vd (n:Nat) (h1:S d8=b_mtok) (h2:S dA=b_manc) (h3:S cZ=D3 n) (h4:S aQ=wj n) (h5:S eS=RX n):JU kR kE S (aD (a1 St3)) Y2 (Pn (n+1)) Pk:=by
 rintro b r v es ⟨d,s⟩ ⟨hr,hm,hs,p,hp,hpn,hpa⟩
 have hp':=hp
 obtain⟨cs,off,hd,hl13,hc13⟩:=hp'
 have hd:d= .cptr cs off:=hd
 subst hd
 have hp:oL (.cptr cs off) p:=hp
 obtain⟨c0,c10,c11,c12⟩:=Ho hl13 hc13
 simp[kR,kE,yQ, -Bool.forall_bool, -Bool.exists_bool]
 refine Qt hm hp (fun l hn hl=> ?_) ?_
 ·simp[-Bool.forall_bool, -Bool.exists_bool]
  exact HM v es l (.same _) (by simp[ah]) (by simp[ah]) ⟨hm,hn,fun p' hp''=> by obtain rfl:=om hp hp'';exact hl⟩
 simp[-Bool.forall_bool, -Bool.exists_bool]
 intro v1
 refine qu (X:=Value×List D×List St3) [0,1,5] [] [28] [] (fun x=> vi r x.2.1/\x.2.2.Nodup/\ ∀t,t∈x.2.2↔ld r p s t) (fun x=> [(9, .mp (bQ x.2.2))]) (fun x=> [(0, .box b (kg r (.own 990 x.1))),(990, .mrow x.1 x.2.1)]) [0,990] (fun _=> rfl) (by decide) ?_ ?_
 ·have hnd:=(kW hpa).nd
  have hops:p.op=1\/p.op=2\/p.op=3\/p.op=4\/p.op=5\/p.op=6:=by
   rcases hnd with h | h | h | h
   ·exact .inl h.1
   ·rcases h.1 with h | h
    ·exact .inr (.inl h)
    ·exact .inr (.inr (.inl h))
   ·rcases h.1 with h | h
    ·exact .inr (.inr (.inr (.inl h)))
    ·exact .inr (.inr (.inr (.inr (.inl h))))
   ·exact .inr (.inr (.inr (.inr (.inr h.1))))
  have hlo:off+1<=cs.length:=by omega
  have hl12:off+12+1<=cs.length:=by omega
  have hdp:dec (X:=Pat) (.agg ((cs.drop off).take 13))=some p:=by rw[hc13,<-pL,Cod.dec_enc]
  have hs:Mc r.en s:=hs
  have hen:=hr.en
  have hOk:qcJ s:=⟨hs.1,by have:=hs.2.1;omega,fun i=> ⟨(hs.2.2 i).1,by have:=(hs.2.2 i).2;omega⟩⟩
  have hRn: ∀k,ZL (.cptr (kg r k) 0):=fun k=> ⟨r,k,rfl,hr.l3⟩
  rcases hops with e | e | e | e | e | e
  all_goals rw[e] at c0
  ·have hPt:Pm (.cptr (kg r (.own 990 v)) 0,p,s):=⟨⟨r,_,rfl,hr.l3,hr.sz,(kW hpa).lab,(kW hpa).tok e s hs⟩,hOk⟩
   simp[c0,h1,KA,hlo,hl13,hdp,hPt, -Bool.forall_bool, -Bool.exists_bool]
   intro a y hQ b2
   obtain⟨q1,q2⟩:=hQ r _ rfl
   refine⟨fun hy=> ?_,fun hy=> ?_⟩
   ·subst hy
    obtain⟨q3,q4⟩:=q1.1 rfl
    have q5:a=A6 r p s:=q2 rfl
    subst q5
    exact⟨v,es, [A6 r p s],⟨hm,by simp,fun t=> by rw[XF e];simp[q3,q4]⟩,rR (by simp[HG,ah]), .inl (.inl rfl), .inl (.inl rfl)⟩
   ·subst hy
    refine⟨v,es, [],⟨hm,by simp,fun t=> ?_⟩,rR (by simp[HG,ah,o9]), .inl (.inl rfl), .inl (.inl rfl)⟩
    rw[XF e]
    constructor
    ·intro h;cases h
    ·rintro⟨q3,q4,_⟩
     cases q1.2 ⟨q3,q4⟩
  ·simp[c0,h2,hlo,hl13,hdp,hRn, -Bool.forall_bool, -Bool.exists_bool]
   intro y hQ
   obtain q1:y=N4 r p s.p:=hQ r _ rfl
   refine⟨fun hy=> ?_,fun hy=> ?_⟩
   ·exact⟨v,es, [s],⟨hm,by simp,fun t=> by rw[JF (.inl e),<-q1,hy];simp⟩,rR (by simp[HG,ah]), .inl (.inl rfl), .inl (.inl rfl)⟩
   ·exact⟨v,es, [],⟨hm,by simp,fun t=> by rw[JF (.inl e),<-q1,hy];simp⟩,rR (by simp[HG,ah,o9]), .inl (.inl rfl), .inl (.inl rfl)⟩
  ·simp[c0,h2,hlo,hl13,hdp,hRn, -Bool.forall_bool, -Bool.exists_bool]
   intro y hQ
   obtain q1:y=N4 r p s.p:=hQ r _ rfl
   refine⟨fun hy=> ?_,fun hy=> ?_⟩
   ·exact⟨v,es, [s],⟨hm,by simp,fun t=> by rw[JF (.inr e),<-q1,hy];simp⟩,rR (by simp[HG,ah]), .inl (.inl rfl), .inl (.inl rfl)⟩
   ·exact⟨v,es, [],⟨hm,by simp,fun t=> by rw[JF (.inr e),<-q1,hy];simp⟩,rR (by simp[HG,ah,o9]), .inl (.inl rfl), .inl (.inl rfl)⟩
  ·simp[c0,hlo, -Bool.forall_bool, -Bool.exists_bool]
   refine qu (X:=Unit) [0,1,5] [0,990] [28] [] (fun _=> True) (fun _=> [(9, .mp (bQ [s]))]) (fun _=> []) [] (fun _=> rfl) (by decide) ?_ ?_
   ·simp[-Bool.forall_bool, -Bool.exists_bool]
    exact rR (by simp[HG,ah])
   rintro⟨⟩ -
   simp[c12,hlo,hl12, -Bool.forall_bool, -Bool.exists_bool]
   intro hkl
   refine aA (X:=Value×List D×List St3) [0,1,5] [] p.kids.length (fun k x=> vi r x.2.1/\x.2.2.Nodup/\ ∀t,t∈x.2.2↔rp r (p.kids.take k) s t) (fun x=> [(9, .mp (bQ x.2.2))]) (fun x=> [(0, .box b (kg r (.own 990 x.1))),(990, .mrow x.1 x.2.1)]) (v,es, [s]) (by simp) (by simp) (by omega) (by simp) (by simp)
    ⟨hm,by simp,fun t=> by rw[List.take_zero,rU];simp[eq_comm]⟩ (by simp) (by simp) ?_ ?_
   ·rintro k ⟨v2,es2,l⟩ hk ⟨hm2,hn2,hl2⟩
    simp only at hm2 hn2 hl2
    obtain⟨q,hq⟩: ∃q,p.kids[k]?=some q:=⟨_,List.getElem?_eq_getElem hk⟩
    obtain⟨_,hgq⟩:=List.getElem?_eq_some_iff.1 hq
    have hqm:q∈p.kids:=List.mem_of_getElem? hq
    simp[hk,hgq,c12,hlo,hl12,h3,wL,yQ, -Bool.forall_bool, -Bool.exists_bool]
    refine⟨⟨hr,hm2,⟨l,rfl,fun t ht=> Jh r _ _ _ ((hl2 t).1 ht) hs⟩,q,jL q,by have:=jM hqm;omega,pC hpa hqm⟩,fun v3 es3 ys hQ=> ⟨v3,es3,ys,⟨hQ.1,hQ.2.1,fun t=> ?_⟩,rfl, .inl rfl, .inl ⟨rfl,rfl⟩⟩⟩
    rw[cU hq,BG,hQ.2.2 q l (jL q) rfl t]
    exact⟨fun⟨u,h1,h2⟩=> ⟨u,(hl2 u).1 h1,h2⟩,fun⟨u,h1,h2⟩=> ⟨u,(hl2 u).2 h1,h2⟩⟩
   ·rintro⟨v2,es2,l⟩ ⟨hm2,hn2,hl2⟩
    simp only at hm2 hn2 hl2
    simp[-Bool.forall_bool, -Bool.exists_bool]
    exact⟨v2,es2,l,⟨hm2,hn2,fun t=> by rw[qb7 e,hl2,List.take_length]⟩, .same _, .inl (.inl rfl), .inl (.inl rfl)⟩
  ·simp[c0,c12,hlo,hl12, -Bool.forall_bool, -Bool.exists_bool]
   intro hkl
   refine aA (X:=Value×List D×List St3) [0,1,5,9] [] p.kids.length (fun k x=> vi r x.2.1/\x.2.2.Nodup/\ ∀t,t∈x.2.2↔rq r (p.kids.take k) s t) (fun x=> []) (fun x=> [(0, .box b (kg r (.own 990 x.1))),(990, .mrow x.1 x.2.1),(28, .mrow v1 (bQ x.2.2))]) (v,es, []) (by simp) (by simp) (by omega) (by simp) (by simp)
    ⟨hm,by simp,fun t=> by rw[List.take_zero,FF];simp⟩ (by simp) (by simp[o9]) ?_ ?_
   ·rintro k ⟨v2,es2,l⟩ hk ⟨hm2,hn2,hl2⟩
    simp only at hm2 hn2 hl2
    obtain⟨q,hq⟩: ∃q,p.kids[k]?=some q:=⟨_,List.getElem?_eq_getElem hk⟩
    obtain⟨_,hgq⟩:=List.getElem?_eq_some_iff.1 hq
    have hqm:q∈p.kids:=List.mem_of_getElem? hq
    simp[hk,hgq,c12,hlo,hl12,h4,wL,yQ, -Bool.forall_bool, -Bool.exists_bool]
    refine⟨⟨hr,hm2,hs,q,jL q,by have:=jM hqm;omega,pC hpa hqm⟩,fun v3 es3 ys hQ b2=> ?_⟩
    have hys:=hQ.2.2 q (jL q)
    refine aY (X:=List St3×List D×List St3) [0,1,5,9,91,92,104] [0,990] (fun x=> x.1.Nodup/\(∀t∈x.2.2,t∈ys)/\(∀t∈l,t∈x.1)/\(∀t∈x.1,t∈l\/t∈ys)/\ ∀t∈ys,t∈x.2.2\/t∈x.1)
     (fun _=> []) (fun x=> [(28, .mrow v1 (bQ x.1)),(104, .miter b2 x.2.1 (bQ x.2.2))]) (fun x=> x.2.2.length) (l, [],ys)
     ⟨hn2,fun _ h=> h,fun _ h=> h,fun _ h=> .inl h,fun _ h=> .inl h⟩ (by simp) (by simp) ?_
    rintro⟨out2,cur2,left2⟩ ⟨g1,g2,g3,g4,g5⟩
    simp only at g1 g2 g3 g4 g5
    simp[-Bool.forall_bool, -Bool.exists_bool]
    refine⟨fun h0=> ?_,fun l1 x l2 hsp2=> ?_⟩
    ·have hlz:=fk h0
     subst hlz
     refine⟨v3,es3,out2,⟨hQ.1,g1,fun t=> ?_⟩, .inl rfl, .inl ⟨rfl,rfl⟩, .inl rfl⟩
     rw[cU hq,HS,<-hl2,<-hys]
     exact⟨g4 t,fun h=> h.elim (g3 t) fun h=> (g5 t h).elim (fun h=> by cases h) id⟩
    ·obtain⟨a2,t,c2,rfl,rfl,rfl,rfl⟩:=gm hsp2
     simp[-Bool.forall_bool, -Bool.exists_bool]
     refine⟨sR t out2,_,a2++c2,⟨sQ g1,fun x h=> g2 x (by simp only[List.mem_append,List.mem_cons] at h ⊢;rcases h with h | h <;> simp[h]),fun x hx=> eh.2 (.inr (g3 x hx)),fun x hx=> ?_,fun x hx=> ?_⟩,⟨.inl rfl, .inl ⟨rfl,(gP a2 c2).symm⟩⟩,by simp⟩
     ·rcases eh.1 hx with rfl | h
      ·exact .inr (g2 x (by simp))
      ·exact g4 x h
     ·rcases g5 x hx with h | h
      ·rcases List.mem_append.1 h with h | h
       ·exact .inl (by simp[h])
       ·rcases List.mem_cons.1 h with rfl | h
        ·exact .inr (eh.2 (.inl rfl))
        ·exact .inl (by simp[h])
      ·exact .inr (eh.2 (.inr h))
   ·rintro⟨v2,es2,l⟩ ⟨hm2,hn2,hl2⟩
    simp only at hm2 hn2 hl2
    simp[-Bool.forall_bool, -Bool.exists_bool]
    exact⟨v2,es2,l,⟨hm2,hn2,fun t=> by rw[qb6 e,hl2,List.take_length]⟩,rR (by simp[HG,ah]), .inl (.inl rfl), .inl (.inl rfl)⟩
  ·have hPr:UQ n r es (.cptr cs off,s):=⟨hr,hm,hs,p,hp,e,hpn,hpa⟩
   simp[c0,h5,wL,hlo,hPr,yQ, -Bool.forall_bool, -Bool.exists_bool]
   exact fun v2 es2 y hQ=> ⟨v2,es2,y,⟨hQ.1,hQ.2.1,hQ.2.2 p hp⟩, .same _, .inl (.inl rfl), .inl (.inl rfl)⟩
 ·rintro⟨v2,es2,l⟩ ⟨hm2,hn,hl⟩
  simp only at hm2 hn hl
  simp[-Bool.forall_bool, -Bool.exists_bool]
  refine Ry hm2 hp hn hl fun es3 hm3=> ?_
  exact HM v2 es3 l (.same _) (by simp[ah]) (by simp[ah]) ⟨hm3,hn,fun p' hp''=> by obtain rfl:=om hp hp'';exact hl⟩
end Go.Gv
