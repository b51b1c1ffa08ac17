/- A part of the framework and of the walks: C62 C4 V5 W42 W80 W171. -/
import Derived.Test.YticbieanhfdnoaaGreatDoorGb18
import Derived.Test.YticbieanhfdnoaaGreatDoorGb34
import Derived.Test.YticbieanhfdnoaaGreatDoorGb24
import Derived.Test.YticbieanhfdnoaaGreatDoorGb21
set_option linter.unusedSimpArgs false
set_option linter.unusedVariables false
set_option maxRecDepth 100000

namespace Go.Gv
open Go.Proofs
def mN:CC:=oX [oB 3 (.box aS true (oT 1)),oB 4 (.mv (.const on))] [0,3] [] (.seq (.regd [oA 5 0,oE 6 1 3,oC 7 1 6,oB 8 (.len (oT 7)),oB 9 (.arith .add (oT 8) (oN 1)),oZ 10 ag [oT 5,oT 9],oB 11 (.arith .sub (oT 10) (oN 1)),oA 12 0,oE 13 1 3,oC 14 1 13,oB 15 (.len (oT 14)),oB 16 (.arith .add (oT 15) (oN 1)),oZ 17 ag [oT 12,oT 16],
 oB 18 (.arith .sub (oT 17) (oN 1))] [oB 19 (.bslice ci 1 [oT 11,oT 18]),oA 4 19]) (.keep [4] [] (.ret)))
def mq:List au:= [.tmp 4]
def zQ:List Nat:= [3]
theorem zq:ay Tryz.prog iE zQ mN mq 20:=ap mixed (by kernel_rfl)
-- law22_ConditionBoolean range i=30 n=29 c=31 i2=93 id=0: live [5:t, 6:c, 7:x, 8:y] changed [] res [6, 7, 8]
def ef:CC:=oX [oB 4 (.mv (.const ob))] [0,1] [] (oX [oA 16 1,oZ 17 r6 [oT 16],oA 5 17] [0,5] [] (oX [oA 18 0,oZ 19 r6 [oT 18],oZ 20 fU [oT 19,oN 5],oA 21 5,oZ 22 ca [],oZ 23 fX [oT 21,oN 1,oT 22],oA 24 5,oZ 25 ca [],oZ 26 fX [oT 24,oN 1,oT 25],
 oB 6 (.alloc aS [on,on,on,on,on,on,on]),oB 7 (.alloc aU [oi,oe,oe,oe,oe,ob,on]),oB 8 (.alloc aU [oi,oe,oe,oe,oe,ob,on]),oF 7 6 20,oF 7 7 23,oF 7 8 26] [5,6,7,8] [6,7,8] (.seq (oX [oE 27 1 6,oC 28 1 27,oB 29 (.len (oT 28)),oB 30 (.mv (oN 0))] [5,6,7,8,29,30] [6,7,8] (ax 0 30 29 31 1 (oX [oA 32 30,oA 9 32] [5,6,7,8,9,29,30] [6,7,8] (oX [oA 33 5,oD 34 7 6,
 oZ 35 iE [oT 33,oT 34],oA 10 35] [5,6,7,8,9,10,29,30] [6,7,8] (.seq (.regd [oD 36 7 6,oD 37 7 7,oA 38 9,oZ 39 ca [],oA 40 10,oZ 41 bS [oT 36,oT 37,oT 38,oT 39,oT 40],oD 42 7 6,oD 43 7 8,oA 44 9,oZ 45 ca [],oA 46 10] [oZ 47 bS [oT 42,oT 43,oT 44,oT 45,oT 46],oA 11 41,oA 12 47])
 (.keep [5,6,7,8,9,10,11,12,29,30] [6,7,8] (.seq (.regd [oD 48 7 6,oD 49 7 7,oB 50 (.bslice aU 7 [oT 49]),oB 51 (.build [oi,oe,oe,oe,oe,ob,on] [(0,1,oN 6),(6,1,oT 50)]),oA 52 9,oZ 53 ca [],oA 54 10] [oZ 55 bS [oT 48,oT 51,oT 52,oT 53,oT 54],oA 13 55]) (.keep [5,6,7,8,9,10,11,12,13,29,30] [6,7,8] (.seq (.regd [oD 56 7 6,oD 57 7 7,oD 58 7 8,
 oB 59 (.bslice aU 7 [oT 57,oT 58]),oB 60 (.build [oi,oe,oe,oe,oe,ob,on] [(0,1,oN 7),(6,1,oT 59)]),oA 61 9,oZ 62 ca [],oA 63 10] [oZ 64 bS [oT 56,oT 60,oT 61,oT 62,oT 63],oA 14 64]) (.keep [5,6,7,8,9,10,11,12,13,14,29,30] [6,7,8] (.seq (.regd [oD 65 7 6,oD 66 7 7,oD 67 7 8,oB 68 (.bslice aU 7 [oT 66,oT 67]),
 oB 69 (.build [oi,oe,oe,oe,oe,ob,on] [(0,1,oN 8),(6,1,oT 68)]),oA 70 9,oZ 71 ca [],oA 72 10] [oZ 73 bS [oT 65,oT 69,oT 70,oT 71,oT 72],oA 15 73]) (.keep [5,6,7,8,11,12,13,14,15,29,30] [6,7,8] (oX [oA 74 13,oA 75 11,oB 76 (.eql false false [.bool] (oT 74) (oT 75)),oA 77 76,oI 78 77 (.mv (oT 14)),oI 79 77 (.mv (oT 11)),oI 80 77 (.mv (oT 79)),
 oH 81 80 (.mv (oT 12)),oI 82 77 (.pick (oT 80) (oT 81) (.const ob)),oI 83 77 (.eql true false [.bool] (oT 78) (oT 82)),oB 84 (.pick (oT 77) (.const (.bool true)) (oT 83)),oA 85 84,oI 86 85 (.mv (oT 15)),oI 87 85 (.mv (oT 11)),oI 88 85 (.mv (oT 87)),oI 89 88 (.mv (oT 12)),oI 90 85 (.pick (oT 88) (.const (.bool true)) (oT 89)),oI 91 85 (.eql true false [.bool] (oT 86) (oT 90)),
 oB 92 (.pick (oT 85) (.const (.bool true)) (oT 91))] [5,6,7,8,29,30,92] [6,7,8] (.ite (oT 92) (oX [oB 4 (.mv (.const ob))] [4] [] (.ret)) (.skip))))))))))))) 93)) (.keep [] [] (oX [oZ 94 iD [],oA 4 94] [4] [] (.ret))))))
def eb:List au:= [.tmp 4]
def m5:List Nat:= []
theorem mY:ay Tryz.prog iF m5 ef eb 95:=ap mixed (by kernel_rfl)
-- law22_ConditionHolds range i=21 n=20 c=22 i2=40 id=0: live [5:t, 6:c, 7:x] changed [] res [6, 7]
-- law22_ConditionLoose: [region 6 op 0, region 10 op 2, region 16 op 4, region 16 op 10]
-- law22_ConditionSpoilt while id=0: live [1:how, 2:s, 7:x, 8:y] changed [1, 8] res [7, 30, 35, 92, 97, 100]
-- law22_ConditionSpoilt range i=108 n=107 c=109 i2=121 id=3: live [7:x, 106:] changed [] res [7, 30, 35, 92, 97, 100]
end Go.Gv

namespace Go.Gv
open Go.Proofs
def mL:CC:=oX [oB 6 (.alloc aU [oi,oe,oe,oe,oe,ob,on])] [0,1,2,6] [6] (eI 1 (oX [oA 7 0,oZ 8 ag [oT 7,oN 8]] [0,1,2,6,8] [6] (.block 0 (oX [oB 10 (.eql false false [.int] (oT 8) (oN 0)),oA 9 10] [0,1,2,6,8,9] [6] (.ite (oT 9) (oX [oB 11 (.build [oi,oe,oe,oe,oe,ob,on] [(0,1,oN 1)]),.op none none (.store (some 6) 7 (oT 6) (oT 11))] [6] [6] (.ret)) (.seq (oX [
 oB 13 (.eql false false [.int] (oT 8) (oN 1)),oA 12 13] [0,1,2,6,8,12] [6] (.ite (oT 12) (.skip) (.reg [oB 14 (.eql false false [.int] (oT 8) (oN 2)),oA 12 14]))) (.keep [0,1,2,6,12] [6] (.ite (oT 12) (.seq (.regd [oB 15 (.bslice ak 1 [oS ⟨#[97]⟩,oS ⟨#[98]⟩,oS ⟨#[97,46,42]⟩,oS ⟨#[91,97,98,93]⟩]),oA 16 0,oZ 17 ag [oT 16,oN 4],oB 18 (.iaddr 1 (oT 15) (oT 17)),oC 19 1 18,
 oA 20 0,oZ 21 ag [oT 20,oN 3],oB 22 (.eql false false [.int] (oT 21) (oN 2))] [oB 23 (.build [oi,oe,oe,oe,oe,ob,on] [(0,1,oN 2),(3,1,oT 19),(5,1,oT 22)]),.op none none (.store (some 6) 7 (oT 6) (oT 23))]) (.keep [6] [6] (.ret))) (.skip)))))))) (.keep [0,1,2,6] [6] (oX [oA 24 0,oA 25 1,oA 26 2,oZ 27 bZ [oT 24,oT 25,oT 26],
 .op none none (.store (some 6) 7 (oT 6) (oT 27))] [6] [6] (.ret))))
def mo:List au:= [.cell 6 true 7]
def zO:List Nat:= [2006006]
theorem zo:ay Tryz.prog fX zO mL mo 28:=ap mixed (by kernel_rfl)
def lI:CC:=oX [oB 6 (.alloc aU [oi,oe,oe,oe,oe,ob,on])] [0,1,2,6] [6] (oX [oA 9 0,oZ 10 ag [oT 9,oN 12],oA 7 10] [0,1,2,6,7] [6] (eI 2 (oX [oA 11 1,oB 12 (.cmp .lss (oT 11) (oN 1))] [0,1,2,6,7,12] [6] (.ite (oT 12) (.reg [oA 13 7,oB 14 (.arith .rem (oT 13) (oN 8)),oA 7 14]) (.skip))) (.keep [0,1,2,6,7] [6] (eI 4 (oX [
 oA 15 7] [0,1,2,6,7,15] [6] (.block 0 (eI 6 (oX [oB 17 (.eql false false [.int] (oT 15) (oN 0)),oA 16 17] [0,1,2,6,7,15,16] [6] (.ite (oT 16) (.skip) (oX [oB 18 (.eql false false [.int] (oT 15) (oN 1)),oA 16 18] [0,1,2,6,7,15,16] [6] (.ite (oT 16) (.skip) (oX [oB 19 (.eql false false [.int] (oT 15) (oN 2)),oA 16 19] [0,1,2,6,7,15,16] [6] (.ite (oT 16) (.skip) (.reg [
 oB 20 (.eql false false [.int] (oT 15) (oN 3)),oA 16 20]))))))) (.keep [0,1,2,6,7,15,16] [6] (.ite (oT 16) (.seq (.regd [oB 21 (.bslice ak 1 [oS ⟨#[119,111,114,100]⟩,oS ⟨#[119,111,114,100]⟩,oS ⟨#[116,97,103]⟩]),oA 22 0,oZ 23 ag [oT 22,oN 3],oB 24 (.iaddr 1 (oT 21) (oT 23)),oC 25 1 24,
 oB 26 (.bslice ak 1 [oS ⟨#[97]⟩,oS ⟨#[98]⟩,oS ⟨#[97,46,42]⟩,oS ⟨#[91,97,98,93]⟩,oS ⟨#[88]⟩,oS ⟨#[]⟩,oS ⟨#[99,63]⟩,oS ⟨#[97,124,98]⟩]),oA 27 0,oZ 28 ag [oT 27,oN 8],oB 29 (.iaddr 1 (oT 26) (oT 28)),oC 30 1 29,oA 31 0,oZ 32 ag [oT 31,oN 3],oB 33 (.eql false false [.int] (oT 32) (oN 2))] [
 oB 34 (.build [oi,oe,oe,oe,oe,ob,on] [(0,1,oN 2),(1,1,oT 25),(3,1,oT 30),(5,1,oT 33)]),.op none none (.store (some 6) 7 (oT 6) (oT 34))]) (.keep [6] [6] (.ret))) (oX [oB 36 (.eql false false [.int] (oT 15) (oN 4)),oA 35 36] [0,1,2,6,7,15,35] [6] (.ite (oT 35) (oX [oB 37 (.bslice ak 1 [oS ⟨#[112]⟩,oS ⟨#[113]⟩]),oA 38 0,oZ 39 ag [oT 38,oN 2],
 oB 40 (.iaddr 1 (oT 37) (oT 39)),oC 41 1 40,oB 42 (.build [oi,oe,oe,oe,oe,ob,on] [(0,1,oN 3),(1,1,oS ⟨#[102,101,97,116]⟩),(3,1,oT 41)]),.op none none (.store (some 6) 7 (oT 6) (oT 42))] [6] [6] (.ret)) (oX [oB 44 (.eql false false [.int] (oT 15) (oN 5)),oA 43 44] [0,1,2,6,7,15,43] [6] (.ite (oT 43) (.seq (oX [oA 45 2,oB 46 (.len (oT 45)),
 oB 47 (.cmp .gtr (oT 46) (oN 0))] [0,2,6,47] [6] (.ite (oT 47) (.seq (.regd [oB 48 (.bslice ak 1 [oS ⟨#[119,111,114,100]⟩,oS ⟨#[116,97,103]⟩]),oA 49 0,oZ 50 ag [oT 49,oN 2],oB 51 (.iaddr 1 (oT 48) (oT 50)),oC 52 1 51,oA 53 2,oA 54 0,oA 55 2,oB 56 (.len (oT 55)),oZ 57 ag [oT 54,oT 56],oB 58 (.iaddr 1 (oT 53) (oT 57)),oC 59 1 58,
 oB 60 (.bslice ak 1 [oS ⟨#[119,111,114,100]⟩,oS ⟨#[116,97,103]⟩]),oA 61 0,oZ 62 ag [oT 61,oN 2],oB 63 (.iaddr 1 (oT 60) (oT 62)),oC 64 1 63] [oB 65 (.build [oi,oe,oe,oe,oe,ob,on] [(0,1,oN 4),(1,1,oT 52),(4,1,oT 59),(2,1,oT 64)]),.op none none (.store (some 6) 7 (oT 6) (oT 65))]) (.keep [6] [6] (.ret))) (.skip))) (.keep [6] [6] (oX [
 oB 66 (.build [oi,oe,oe,oe,oe,ob,on] [(0,1,oN 2),(1,1,oS ⟨#[116,97,103]⟩),(3,1,oS ⟨#[89]⟩)]),.op none none (.store (some 6) 7 (oT 6) (oT 66))] [6] [6] (.ret)))) (eI 18 (oX [oB 68 (.eql false false [.int] (oT 15) (oN 6)),oA 67 68] [0,1,2,6,7,15,67] [6] (.ite (oT 67) (.skip) (.reg [oB 69 (.eql false false [.int] (oT 15) (oN 7)),oA 67 69]))) (.keep [0,1,2,6,7,15,67] [6] (.ite (oT 67) (oX [
 oA 70 0,oZ 71 ag [oT 70,oN 3],oZ 72 jN [oT 71],oB 73 (.build [oi,oe,oe,oe,oe,ob,on] [(0,1,oN 5),(1,1,oT 72)]),oB 8 (.alloc aU [oi,oe,oe,oe,oe,ob,on]),oF 7 8 73] [0,6,8] [6,8] (eI 21 (oX [oA 74 0,oZ 75 ag [oT 74,oN 2],oB 76 (.eql false false [.int] (oT 75) (oN 1))] [0,6,8,76] [6,8] (.ite (oT 76) (.regd [
 oB 77 (.bslice ak 1 [oS ⟨#[49]⟩,oS ⟨#[50]⟩]),oA 78 0,oZ 79 ag [oT 78,oN 2],oB 80 (.iaddr 1 (oT 77) (oT 79)),oC 81 1 80,oE 82 2 8,.op none none (.store (some 8) 1 (oT 82) (oS ⟨#[110]⟩))] [oE 83 3 8,.op none none (.store (some 8) 1 (oT 83) (oT 81))]) (.skip))) (.keep [6,8] [6,8] (oX [oD 84 7 8,.op none none (.store (some 6) 7 (oT 6) (oT 84))] [6] [6] (.ret)))))
 (eI 24 (oX [oB 86 (.eql false false [.int] (oT 15) (oN 8)),oA 85 86] [0,1,2,6,7,15,85] [6] (.ite (oT 85) (.skip) (.reg [oB 87 (.eql false false [.int] (oT 15) (oN 9)),oA 85 87]))) (.keep [0,1,2,6,7,85] [6] (.ite (oT 85) (oX [oA 88 0,oA 89 1,oB 90 (.arith .sub (oT 89) (oN 1)),oA 91 2,oZ 92 bZ [oT 88,oT 90,oT 91],oB 93 (.bslice aU 7 [oT 92]),
 oB 94 (.build [oi,oe,oe,oe,oe,ob,on] [(0,1,oN 6),(6,1,oT 93)]),.op none none (.store (some 6) 7 (oT 6) (oT 94))] [6] [6] (.ret)) (.skip)))))))))))))))) (.keep [0,1,2,6,7] [6] (oX [oA 95 7,oB 96 (.arith .add (oN 7) (oT 95)),oB 97 (.arith .sub (oT 96) (oN 10)),oA 98 0,oA 99 1,oB 100 (.arith .sub (oT 99) (oN 1)),oA 101 2,oZ 102 bZ [oT 98,oT 100,oT 101],oA 103 0,oA 104 1,
 oB 105 (.arith .sub (oT 104) (oN 1)),oA 106 2,oZ 107 bZ [oT 103,oT 105,oT 106],oB 108 (.bslice aU 7 [oT 102,oT 107]),oB 109 (.build [oi,oe,oe,oe,oe,ob,on] [(0,1,oT 97),(6,1,oT 108)]),.op none none (.store (some 6) 7 (oT 6) (oT 109))] [6] [6] (.ret)))))))
def lr:List au:= [.cell 6 true 7]
def xJ:List Nat:= [2006006,2006006,2083008,2082008]
theorem xv:ay Tryz.prog bZ xJ lI lr 110:=ap mixed (by kernel_rfl)
end Go.Gv

namespace Go.Gv
end Go.Gv

namespace Go.Gv
open Cod (enc dec)
variable {S S0:Nat→Spc}
abbrev wa:Spc:=cz (a1 Int) bU (enc (X:=B)) (fun _ y=> y∈Types)
theorem Iz (h1:S iN=s_m_Mod):aK oo nY S (a1 Int) bU (enc (X:=B)) (fun _ y=> y∈Types):=by
 rintro n -
 simp[oo,nY,h1]
 have h3:=zu n 3 (by omega)
 refine⟨h3.1,h3.2,?_⟩
 have:wt n 3=0∨wt n 3=1∨wt n 3=2:=by omega
 rcases this with h | h | h <;> simp[h,Types,qdl,SB,qdk]
def B4 (n:Nat) (x:List Int×Int×List B):Prop:=x.2.1.toNat < n∧ -10≤x.2.1∧x.2.1≤100∧x.2.2.length≤1000
theorem gF {q:Cond→Prop} {H:aa} {op:Int} {n a v l:B} {f:Bool} {d:D} (ks:List Cond) (hd:FrzTo H d (enc ks)) (hq:q ⟨op,n,a,v,l,f,ks⟩):Fin enc q (.agg [.v (.int .i64 op), .v (.string n), .v (.string a), .v (.string v), .v (.string l), .v (.bool f),d]) H:=by
 refine dK (⟨op,n,a,v,l,f,ks⟩:Cond) ?_ hq
 rw[LB]
 refine .agg rfl fun k x y hx hy=> ?_
 rcases k with _ | _ | _ | _ | _ | _ | _ | k
 ·cases hx;cases hy;exact .same _
 ·cases hx;cases hy;exact .same _
 ·cases hx;cases hy;exact .same _
 ·cases hx;cases hy;exact .same _
 ·cases hx;cases hy;exact .same _
 ·cases hx;cases hy;exact .same _
 ·cases hx;cases hy;exact hd
 ·simp at hx
theorem QZ (a b c d e f g h:B):D.list 1 [.v (.string a), .v (.string b), .v (.string c), .v (.string d), .v (.string e), .v (.string f), .v (.string g), .v (.string h)]= .list 1 (Eg [a,b,c,d,e,f,g,h]):=id rfl
theorem N4 (a b c d:B):D.list 1 [.v (.string a), .v (.string b), .v (.string c), .v (.string d)]= .list 1 (Eg [a,b,c,d]):=id rfl
end Go.Gv

namespace Go.Gv
open Cod (enc dec)
variable {S S0:Nat→Spc}
def Hy (x:List Int×Int×List B) (y:Cond):Prop:=GI x.2.2 x.2.1.toNat y
abbrev sU (n:Nat):Spc:=cz (aT (a2 Int (List B))) (B4 n) (enc (X:=Cond)) Hy
theorem qd6 {i:Nat} {a:B} (h: [(⟨#[119,111,114,100]⟩:B),⟨#[119,111,114,100]⟩,⟨#[116,97,103]⟩][i]?=some a):a∈Attr2:=by
 have:=ga h
 simpa [Attr2,J8,J9] using this
theorem qdn {i:Nat} {a:B} (h: [(⟨#[119,111,114,100]⟩:B),⟨#[116,97,103]⟩][i]?=some a):a∈Attr2:=ga h
theorem qaH {i:Nat} {a:B} (h: [(⟨#[112]⟩:B),⟨#[113]⟩][i]?=some a):a∈FeatL:=ga h
theorem qaG {i:Nat} {a:B} (h: [(⟨#[49]⟩:B),⟨#[50]⟩][i]?=some a):a∈NumL:=ga h
theorem qdm {i:Nat} {a:B} (h: [(⟨#[97]⟩:B),⟨#[98]⟩,⟨#[97,46,42]⟩,⟨#[91,97,98,93]⟩][i]?=some a):a∈ValsT:=ga h
theorem qd5 {i:Nat} {a:B} (h: [(⟨#[97]⟩:B),⟨#[98]⟩,⟨#[97,46,42]⟩,⟨#[91,97,98,93]⟩,⟨#[88]⟩,⟨#[]⟩,⟨#[99,63]⟩,⟨#[97,124,98]⟩][i]?=some a):a∈ValsI:=by
 have:=ga h
 simp only[ValsI,List.mem_cons,List.not_mem_nil,or_false] at this ⊢
 rcases this with h | h | h | h | h | h | h | h <;> simp[h]
theorem F2 (n:Nat) (h1:S ag=s_m_Next) (h2:S jN=wa) (h3:S bZ=sU n):aK lI lr S (aT (a2 Int (List B))) (B4 (n+1)) (enc (X:=Cond)) Hy:=by
 rintro⟨L,deep,lb⟩ ⟨hn,hd0,hd1,hlb⟩
 simp only at hn hd0 hd1 hlb
 simp[lI,lr,h1]
 intro b6 k0 hk0 hk1
 refine cO (X:=Int) [0,1,2,6] [6] (fun k=> 0≤k∧k < 12∧(deep < 1→k < 8)) (fun k=> [(7,enc k)]) (fun _=> []) ?_ ?_
 ·simp
  have:k0.tmod 8=k0 % 8:=Int.tmod_eq_emod_of_nonneg hk0
  rw[this]
  omega
 rintro k ⟨q0,q1,q2⟩
 refine cO (X:=Unit) [0,1,2,6,7] [6] (fun _=> 10≤k) (fun _=> []) (fun _=> []) ?_ ?_
 ·simp
  refine cO (X:=Bool) [0,1,2,6,7,15] [6] (fun b=> b=decide (k < 4)) (fun b=> [(16,enc b)]) (fun _=> []) ?_ ?_
  ·simp
   repeat' first | apply And.intro | intro _
   all_goals first | omega | (rw[Bool.eq_iff_iff];simp;omega)
  rintro b hb
  simp[h1,Ef,Ke,QZ,N4,kM,m9, -Bool.forall_bool]
  refine⟨fun _ y hy0 hy1=> ⟨hy0,hy1,fun a ha y hy0 hy1=> ⟨hy0,hy1,fun a' ha' y hy0 hy1=> gF [] (.nil _) (.atom _ _ (.val a a' _ (qd6 ha) (qd5 ha')))⟩⟩,fun hb0=> ?_⟩
  rw[hb0] at hb
  have hb:4≤k:=by simpa using hb.symm
  refine⟨fun _ y hy0 hy1=> ⟨hy0,hy1,fun a ha=> gF [] (.nil _) (.atom _ _ (.feat a (qaH ha)))⟩,fun k4=> ⟨fun _ _=> ⟨fun hl y hy0 hy1=> ⟨hy0,hy1,fun a ha _=> ⟨by omega,fun y hy=> ⟨by omega,by omega,fun a' ha' y hy0 hy1=> ⟨hy0,hy1,fun a'' ha''=> gF [] (.nil _) (.atom _ _ (.same a a' a'' (qdn ha) (ga ha') (qdn ha'')))⟩⟩⟩⟩,fun _=> gF [] (.nil _) (.atom _ _ (.val J9 _ false (by simp[Attr2]) (by simp[ValsI])))⟩,fun k5=> ?_⟩⟩
  refine cO (X:=Bool) [0,1,2,6,7,15] [6] (fun b=> b=decide (k=6∨k=7)) (fun b=> [(67,enc b)]) (fun _=> []) ?_ ?_
  ·simp
   repeat' first | apply And.intro | intro _
   all_goals first | omega | (rw[Bool.eq_iff_iff];simp;omega)
  rintro b hb2
  simp[h1,h2, -Bool.forall_bool]
  refine⟨fun _ y hy0 hy1=> ⟨trivial,fun t ht b8=> ?_⟩,fun hb0=> ?_⟩
  ·refine cO (X:=B×B) [6,8] [6] (fun x=> (x.1=E0∧x.2=E0)∨(x.1=Tg∧x.2∈NumL)) (fun _=> []) (fun x=> [(8, .box b8 [.v (.int .i64 5), .v (.string t), .v (.string x.1), .v (.string x.2), .v (.string ⟨#[]⟩), .v (.bool false), .v (.slice none 0 0)])]) ?_ ?_
   ·simp[h1,Ef,kM,m9]
    refine fun y hy0 hy1=> ⟨fun _ z hz0 hz1=> ⟨hz0,hz1,fun a ha=> ⟨Tg,a, .inr ⟨rfl,qaG ha⟩, .inl ⟨rfl,rfl⟩⟩⟩,fun _=> ⟨E0,E0, .inl ⟨rfl,rfl⟩, .inl ⟨rfl,rfl⟩⟩⟩
   ·rintro⟨a,v⟩ hav
    simp
    refine gF [] (.nil _) (.atom _ _ ?_)
    rcases hav with⟨rfl,rfl⟩ | ⟨rfl,hv⟩
    ·exact .reg t ht
    ·exact .regk t v ht hv
  rw[hb0] at hb2
  have hb2: ¬ (k=6∨k=7):=by simpa using hb2.symm
  refine cO (X:=Bool) [0,1,2,6,7,15] [6] (fun b=> b=decide (k=8∨k=9)) (fun b=> [(85,enc b)]) (fun _=> []) ?_ ?_
  ·simp
   repeat' first | apply And.intro | intro _
   all_goals first | omega | (rw[Bool.eq_iff_iff];simp;omega)
  rintro b hb3
  simp[h3, -Bool.forall_bool]
  have hrec:1≤deep→B4 n (L,deep -1,lb):=fun h=> ⟨by show(deep -1).toNat < n;omega,by show -10≤deep -1;omega,by show deep -1≤100;omega,hlb⟩
  refine⟨fun hb1=> ?_,fun hb0=> ?_⟩
  ·rw[hb1] at hb3
   have hb3:k=8∨k=9:=by simpa using hb3.symm
   have hdn:deep.toNat=(deep -1).toNat+1:=by omega
   refine⟨by simp only[InR];omega,hrec (by omega),fun y hy=> gF [y] (by simp) (by show GI lb deep.toNat _;rw[hdn];exact .not _ _ hy)⟩
  rw[hb0] at hb3
  have hb3: ¬ (k=8∨k=9):=by simpa using hb3.symm
  omega
 ·rintro -hk
  have hrec:B4 n (L,deep -1,lb):=⟨by show(deep -1).toNat < n;omega,by show -10≤deep -1;omega,by show deep -1≤100;omega,hlb⟩
  have hdn:deep.toNat=(deep -1).toNat+1:=by omega
  simp[h3]
  refine⟨by simp only[InR];omega,by simp only[InR];omega,by simp only[InR];omega,hrec,fun y hy=> ⟨by simp only[InR];omega,hrec,fun y' hy'=> gF [y,y'] (by simp) (by show GI lb deep.toNat _;rw[hdn];exact .two _ _ _ _ (by omega) hy hy')⟩⟩
def Oo (x:List Int×Int×List B) (y:Cond):Prop:=GC x.2.2 x.2.1.toNat y
abbrev wb:Spc:=cz (aT (a2 Int (List B))) (fun x=> -10≤x.2.1∧x.2.1≤100∧x.2.2.length≤1000) (enc (X:=Cond)) Oo
abbrev qN:Spc:=cz (aT (a2 Int (List B))) (fun x=> ∃n,B4 n x) (enc (X:=Cond)) Hy
theorem IA (h1:S ag=s_m_Next) (h3:S bZ=qN):aK mL mo S (aT (a2 Int (List B))) (fun x=> -10≤x.2.1∧x.2.1≤100∧x.2.2.length≤1000) (enc (X:=Cond)) Oo:=by
 rintro⟨L,deep,lb⟩ ⟨hd0,hd1,hlb⟩
 simp only at hd0 hd1 hlb
 simp[mL,mo,h1]
 intro b6
 refine cO (X:=Unit) [0,1,2,6] [6] (fun _=> True) (fun _=> []) (fun _=> []) ?_ ?_
 ·simp[h1,N4,kM,m9, -Bool.forall_bool]
  exact fun y _ _=> ⟨fun _=> gF [] (.nil _) .any,fun _=> ⟨fun _ z z0 z1=> ⟨z0,z1,fun a ha u _ _=> gF [] (.nil _) (.top a _ (qdm ha))⟩,fun _ _ z z0 z1=> ⟨z0,z1,fun a ha u _ _=> gF [] (.nil _) (.top a _ (qdm ha))⟩⟩⟩
 ·rintro - -
  have hrec: ∃n,B4 n (L,deep,lb):=⟨deep.toNat+1,Nat.lt_succ_self _,hd0,hd1,hlb⟩
  simp[h3,hrec]
  exact fun y hy=> gF y.kids (.same _) (by show GC lb deep.toNat _;rw[Lx y];exact .inner _ hy)
end Go.Gv

namespace Go.Gv
open Go.Proofs
open Cod (enc dec)
variable {S S0:Nat→Spc}
def PU (x:List Int×Corpus):Prop:=OkCorp x.2
def NR (x:List Int×Corpus) (y:List Int):Prop:=y.length=2∧ ∀b∈y, -1≤b∧b < x.2.toks.length
abbrev yM:Spc:=cz (aT (a1 Corpus)) PU (enc (X:=List Int)) NR
theorem AI (h1:S ag=s_m_Next):aK mN mq S (aT (a1 Corpus)) PU (enc (X:=List Int)) NR:=by
 rintro⟨L,c⟩ hc
 obtain⟨h2,h3,h4,h5⟩:=hc
 simp only at h2 h3 h4 h5
 simp[mN,mq,h1, -Bool.forall_bool, -Bool.exists_bool]
 refine fun _=> ⟨by simp only[InR];omega,by omega,fun y hy=> ⟨by simp only[InR];omega,fun _=> ⟨by simp only[InR];omega,by omega,fun z hz=> ⟨by simp only[InR];omega,?_⟩⟩⟩⟩
 refine dK [y -1,z -1] (.same _) ⟨rfl,fun b hb=> ?_⟩
 simp at hb
 show -1≤b∧b < (c.toks.length:Int)
 omega
abbrev OR:Spc:=cz (a2 (List Int) (List Int)) (fun _=> True) (enc (X:=Bool)) fun _ y=> y=true
theorem zX {c:Corpus} (hc:OkCorp c) {x:Cond} {tok:Int} {bd:List Int} (t0:0≤tok) (t1:tok < c.toks.length) (hb:NR (([]:List Int),c) bd) (hok:KO fW lbs2 x=true) (hy: ∃y,jg ⟨c,tok,lbs2,bd⟩ 21 x=some y):PV (c,x,tok,lbs2,bd):=
 ⟨hc.sz,by rw[show(c,x,tok,lbs2,bd).1.attrs=fW from hc.1];exact hok,t0,t1,hb.1,(by decide:lbs2.length≤1000),hb.2,hy⟩
theorem xd (h1:S r6=s_m_New) (h2:S fU=s_m_Corpus) (h3:S fX=wb) (h4:S ca=yN) (h5:S iE=yM) (h6:S bS=OS) (h7:S iD=wc):
 aK ef eb S (a2 (List Int) (List Int)) (fun _=> True) (enc (X:=Bool)) fun _ y=> y=true:=by
 rintro⟨l,m⟩ -
 simp[ef,eb,h1,h2,h3,h4, -Bool.forall_bool, -Bool.exists_bool]
 intro L c hw hk
 have hc:=O4 hw hk
 have hlb:lbs2.length≤1000:=by decide
 refine⟨hlb,fun x hx=> ⟨hlb,fun y hy b6 b7 b8 _=> ?_⟩⟩
 have hx:GC lbs2 1 x:=hx
 have hy:GC lbs2 1 y:=hy
 have hlen:c.toks.length≤4096:=hc.2.2.1
 refine ar (X:=Unit) [5,6,7,8] [6,7,8] c.toks.length (fun _ _=> True) (fun _=> []) (fun _=> []) () (by simp) (by simp) (by omega) (by simp) (by simp) trivial (by simp) (by simp) ?_ ?_
 ·rintro k -hk -
  have hPb: ∀L,PU (L,c):=fun _=> hc
  simp[h4,h5,h6,hk,hPb, -Bool.forall_bool, -Bool.exists_bool]
  intro bd hbd
  have t0: (0:Int)≤(k:Int):=by omega
  have t1: (k:Int) < c.toks.length:=by omega
  have hE:Iu ⟨c,(k:Int),lbs2,bd⟩:=⟨hc,t0,t1,hbd.1⟩
  have hbd':NR (([]:List Int),c) bd:=hbd
  obtain⟨p,hp⟩:=Oh (m:=20) hE hx (by omega)
  obtain⟨q,hq⟩:=Oh (m:=20) hE hy (by omega)
  have n1:=G9 hx
  have n2:=G9 hy
  refine⟨zX hc t0 t1 hbd' (KN hx (by omega)) ⟨p,EW hp⟩,fun r1 hr1=> ⟨zX hc t0 t1 hbd' (KN hy (by omega)) ⟨q,EW hq⟩,fun r2 hr2=> ⟨zX hc t0 t1 hbd' (CX (x:=⟨6,E0,E0,E0,E0,false, [x]⟩) (by rw[HM];omega) (by rw[H8];omega) (BB (oc hx (by omega)))) ⟨_,GZ hp⟩,fun r3 hr3=> ⟨zX hc t0 t1 hbd' (CX (x:=⟨7,E0,E0,E0,E0,false, [x,y]⟩) (by rw[CY];omega) (by rw[Du];omega) (wq (.inl rfl) (oc hx (by omega)) (oc hy (by omega)))) ⟨_,G0 hp hq⟩,fun r4 hr4=> ⟨zX hc t0 t1 hbd' (CX (x:=⟨8,E0,E0,E0,E0,false, [x,y]⟩) (by rw[CY];omega) (by rw[Du];omega) (wq (.inr rfl) (oc hx (by omega)) (oc hy (by omega)))) ⟨_,Lf hp hq⟩,fun r5 hr5=> ?_⟩⟩⟩⟩⟩
  obtain rfl:p=r1:=Option.some.inj ((EW hp).symm.trans hr1)
  obtain rfl:q=r2:=Option.some.inj ((EW hq).symm.trans hr2)
  obtain rfl: (!p)=r3:=Option.some.inj ((GZ hp).symm.trans hr3)
  obtain rfl: (p && q)=r4:=Option.some.inj ((G0 hp hq).symm.trans hr4)
  obtain rfl: (p || q)=r5:=Option.some.inj ((Lf hp hq).symm.trans hr5)
  cases p <;> cases q <;> simp
 ·rintro - -
  simp[h7, -Bool.forall_bool, -Bool.exists_bool]
end Go.Gv
