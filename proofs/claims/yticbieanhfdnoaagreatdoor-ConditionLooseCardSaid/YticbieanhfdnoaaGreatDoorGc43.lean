/- A part of the framework and of the walks: C4 V5 W42 W80 W171 Asm22. -/
import Derived.Test.YticbieanhfdnoaaGreatDoorGc21
import Derived.Test.YticbieanhfdnoaaGreatDoorGc37
import Derived.Test.YticbieanhfdnoaaGreatDoorGc27
import Derived.Test.YticbieanhfdnoaaGreatDoorGc24
import Derived.Test.YticbieanhfdnoaaGreatDoorGc42
import Derived.Test.YticbieanhfdnoaaGreatDoorGc38
set_option linter.unusedSimpArgs false
set_option linter.unusedVariables false
set_option maxRecDepth 100000

namespace Go.Gv
open Go.Proofs
def nC:CC:=oX [oB 6 (.alloc aU [oi,oe,oe,oe,oe,ob,on])] [0,1,2,6] [6] (eC 1 (oX [oA 7 0,oZ 8 ag [oT 7,oN 8]] [0,1,2,6,8] [6] (.block 0 (oX [oB 10 (.eql false false [.int] (oT 8) (oN 0)),oA 9 10] [0,1,2,6,8,9] [6] (.ite (oT 9) (oX [oB 11 (.build [oi,oe,oe,oe,oe,ob,on] [(0,1,oN 1)]),.op none none (.store (some 6) 7 (oT 6) (oT 11))] [6] [6] (.ret)) (.seq (oX [
 oB 13 (.eql false false [.int] (oT 8) (oN 1)),oA 12 13] [0,1,2,6,8,12] [6] (.ite (oT 12) (.skip) (.reg [oB 14 (.eql false false [.int] (oT 8) (oN 2)),oA 12 14]))) (.keep [0,1,2,6,12] [6] (.ite (oT 12) (.seq (.regd [oB 15 (.bslice ai 1 [oS ⟨#[97]⟩,oS ⟨#[98]⟩,oS ⟨#[97,46,42]⟩,oS ⟨#[91,97,98,93]⟩]),oA 16 0,oZ 17 ag [oT 16,oN 4],oB 18 (.iaddr 1 (oT 15) (oT 17)),oC 19 1 18,
 oA 20 0,oZ 21 ag [oT 20,oN 3],oB 22 (.eql false false [.int] (oT 21) (oN 2))] [oB 23 (.build [oi,oe,oe,oe,oe,ob,on] [(0,1,oN 2),(3,1,oT 19),(5,1,oT 22)]),.op none none (.store (some 6) 7 (oT 6) (oT 23))]) (.keep [6] [6] (.ret))) (.skip)))))))) (.keep [0,1,2,6] [6] (oX [oA 24 0,oA 25 1,oA 26 2,oZ 27 ck [oT 24,oT 25,oT 26],
 .op none none (.store (some 6) 7 (oT 6) (oT 27))] [6] [6] (.ret))))
def m7:List au:= [.cell 6 true 7]
def Ba:List Nat:= [2006006]
theorem AI:ay Tryz.prog jc Ba nC m7 28:=ap mixed (by kernel_rfl)
def mj:CC:=oX [oB 6 (.alloc aU [oi,oe,oe,oe,oe,ob,on])] [0,1,2,6] [6] (oX [oA 9 0,oZ 10 ag [oT 9,oN 12],oA 7 10] [0,1,2,6,7] [6] (eC 2 (oX [oA 11 1,oB 12 (.cmp .lss (oT 11) (oN 1))] [0,1,2,6,7,12] [6] (.ite (oT 12) (.reg [oA 13 7,oB 14 (.arith .rem (oT 13) (oN 8)),oA 7 14]) (.skip))) (.keep [0,1,2,6,7] [6] (eC 4 (oX [
 oA 15 7] [0,1,2,6,7,15] [6] (.block 0 (eC 6 (oX [oB 17 (.eql false false [.int] (oT 15) (oN 0)),oA 16 17] [0,1,2,6,7,15,16] [6] (.ite (oT 16) (.skip) (oX [oB 18 (.eql false false [.int] (oT 15) (oN 1)),oA 16 18] [0,1,2,6,7,15,16] [6] (.ite (oT 16) (.skip) (oX [oB 19 (.eql false false [.int] (oT 15) (oN 2)),oA 16 19] [0,1,2,6,7,15,16] [6] (.ite (oT 16) (.skip) (.reg [
 oB 20 (.eql false false [.int] (oT 15) (oN 3)),oA 16 20]))))))) (.keep [0,1,2,6,7,15,16] [6] (.ite (oT 16) (.seq (.regd [oB 21 (.bslice ai 1 [oS ⟨#[119,111,114,100]⟩,oS ⟨#[119,111,114,100]⟩,oS ⟨#[116,97,103]⟩]),oA 22 0,oZ 23 ag [oT 22,oN 3],oB 24 (.iaddr 1 (oT 21) (oT 23)),oC 25 1 24,
 oB 26 (.bslice ai 1 [oS ⟨#[97]⟩,oS ⟨#[98]⟩,oS ⟨#[97,46,42]⟩,oS ⟨#[91,97,98,93]⟩,oS ⟨#[88]⟩,oS ⟨#[]⟩,oS ⟨#[99,63]⟩,oS ⟨#[97,124,98]⟩]),oA 27 0,oZ 28 ag [oT 27,oN 8],oB 29 (.iaddr 1 (oT 26) (oT 28)),oC 30 1 29,oA 31 0,oZ 32 ag [oT 31,oN 3],oB 33 (.eql false false [.int] (oT 32) (oN 2))] [
 oB 34 (.build [oi,oe,oe,oe,oe,ob,on] [(0,1,oN 2),(1,1,oT 25),(3,1,oT 30),(5,1,oT 33)]),.op none none (.store (some 6) 7 (oT 6) (oT 34))]) (.keep [6] [6] (.ret))) (oX [oB 36 (.eql false false [.int] (oT 15) (oN 4)),oA 35 36] [0,1,2,6,7,15,35] [6] (.ite (oT 35) (oX [oB 37 (.bslice ai 1 [oS ⟨#[112]⟩,oS ⟨#[113]⟩]),oA 38 0,oZ 39 ag [oT 38,oN 2],
 oB 40 (.iaddr 1 (oT 37) (oT 39)),oC 41 1 40,oB 42 (.build [oi,oe,oe,oe,oe,ob,on] [(0,1,oN 3),(1,1,oS ⟨#[102,101,97,116]⟩),(3,1,oT 41)]),.op none none (.store (some 6) 7 (oT 6) (oT 42))] [6] [6] (.ret)) (oX [oB 44 (.eql false false [.int] (oT 15) (oN 5)),oA 43 44] [0,1,2,6,7,15,43] [6] (.ite (oT 43) (.seq (oX [oA 45 2,oB 46 (.len (oT 45)),
 oB 47 (.cmp .gtr (oT 46) (oN 0))] [0,2,6,47] [6] (.ite (oT 47) (.seq (.regd [oB 48 (.bslice ai 1 [oS ⟨#[119,111,114,100]⟩,oS ⟨#[116,97,103]⟩]),oA 49 0,oZ 50 ag [oT 49,oN 2],oB 51 (.iaddr 1 (oT 48) (oT 50)),oC 52 1 51,oA 53 2,oA 54 0,oA 55 2,oB 56 (.len (oT 55)),oZ 57 ag [oT 54,oT 56],oB 58 (.iaddr 1 (oT 53) (oT 57)),oC 59 1 58,
 oB 60 (.bslice ai 1 [oS ⟨#[119,111,114,100]⟩,oS ⟨#[116,97,103]⟩]),oA 61 0,oZ 62 ag [oT 61,oN 2],oB 63 (.iaddr 1 (oT 60) (oT 62)),oC 64 1 63] [oB 65 (.build [oi,oe,oe,oe,oe,ob,on] [(0,1,oN 4),(1,1,oT 52),(4,1,oT 59),(2,1,oT 64)]),.op none none (.store (some 6) 7 (oT 6) (oT 65))]) (.keep [6] [6] (.ret))) (.skip))) (.keep [6] [6] (oX [
 oB 66 (.build [oi,oe,oe,oe,oe,ob,on] [(0,1,oN 2),(1,1,oS ⟨#[116,97,103]⟩),(3,1,oS ⟨#[89]⟩)]),.op none none (.store (some 6) 7 (oT 6) (oT 66))] [6] [6] (.ret)))) (eC 18 (oX [oB 68 (.eql false false [.int] (oT 15) (oN 6)),oA 67 68] [0,1,2,6,7,15,67] [6] (.ite (oT 67) (.skip) (.reg [oB 69 (.eql false false [.int] (oT 15) (oN 7)),oA 67 69]))) (.keep [0,1,2,6,7,15,67] [6] (.ite (oT 67) (oX [
 oA 70 0,oZ 71 ag [oT 70,oN 3],oZ 72 kw [oT 71],oB 73 (.build [oi,oe,oe,oe,oe,ob,on] [(0,1,oN 5),(1,1,oT 72)]),oB 8 (.alloc aU [oi,oe,oe,oe,oe,ob,on]),oF 7 8 73] [0,6,8] [6,8] (eC 21 (oX [oA 74 0,oZ 75 ag [oT 74,oN 2],oB 76 (.eql false false [.int] (oT 75) (oN 1))] [0,6,8,76] [6,8] (.ite (oT 76) (.regd [
 oB 77 (.bslice ai 1 [oS ⟨#[49]⟩,oS ⟨#[50]⟩]),oA 78 0,oZ 79 ag [oT 78,oN 2],oB 80 (.iaddr 1 (oT 77) (oT 79)),oC 81 1 80,oE 82 2 8,.op none none (.store (some 8) 1 (oT 82) (oS ⟨#[110]⟩))] [oE 83 3 8,.op none none (.store (some 8) 1 (oT 83) (oT 81))]) (.skip))) (.keep [6,8] [6,8] (oX [oD 84 7 8,.op none none (.store (some 6) 7 (oT 6) (oT 84))] [6] [6] (.ret)))))
 (eC 24 (oX [oB 86 (.eql false false [.int] (oT 15) (oN 8)),oA 85 86] [0,1,2,6,7,15,85] [6] (.ite (oT 85) (.skip) (.reg [oB 87 (.eql false false [.int] (oT 15) (oN 9)),oA 85 87]))) (.keep [0,1,2,6,7,85] [6] (.ite (oT 85) (oX [oA 88 0,oA 89 1,oB 90 (.arith .sub (oT 89) (oN 1)),oA 91 2,oZ 92 ck [oT 88,oT 90,oT 91],oB 93 (.bslice aU 7 [oT 92]),
 oB 94 (.build [oi,oe,oe,oe,oe,ob,on] [(0,1,oN 6),(6,1,oT 93)]),.op none none (.store (some 6) 7 (oT 6) (oT 94))] [6] [6] (.ret)) (.skip)))))))))))))))) (.keep [0,1,2,6,7] [6] (oX [oA 95 7,oB 96 (.arith .add (oN 7) (oT 95)),oB 97 (.arith .sub (oT 96) (oN 10)),oA 98 0,oA 99 1,oB 100 (.arith .sub (oT 99) (oN 1)),oA 101 2,oZ 102 ck [oT 98,oT 100,oT 101],oA 103 0,oA 104 1,
 oB 105 (.arith .sub (oT 104) (oN 1)),oA 106 2,oZ 107 ck [oT 103,oT 105,oT 106],oB 108 (.bslice aU 7 [oT 102,oT 107]),oB 109 (.build [oi,oe,oe,oe,oe,ob,on] [(0,1,oT 97),(6,1,oT 108)]),.op none none (.store (some 6) 7 (oT 6) (oT 109))] [6] [6] (.ret)))))))
def l6:List au:= [.cell 6 true 7]
def y7:List Nat:= [2006006,2006006,2083008,2082008]
theorem yO:ay Tryz.prog ck y7 mj l6 110:=ap mixed (by kernel_rfl)
end Go.Gv

namespace Go.Gv
end Go.Gv

namespace Go.Gv
open Cod (enc dec)
variable {S S0:Nat→Spc}
abbrev xj:Spc:=cv (a1 Int) cd (enc (X:=B)) (fun _ y=> y∈Types)
theorem KJ (h1:S jn=s_m_Mod):aN pz pg S (a1 Int) cd (enc (X:=B)) (fun _ y=> y∈Types):=by
 rintro n -
 simp[pz,pg,h1]
 have h3:=AP n 3 (by omega)
 refine⟨h3.1,h3.2,?_⟩
 have:xE n 3=0∨xE n 3=1∨xE n 3=2:=by omega
 rcases this with h | h | h <;> simp[h,Types,qgN,Wc,qgM]
def DK (n:Nat) (x:List Int×Int×List B):Prop:=x.2.1.toNat < n∧ -10≤x.2.1∧x.2.1≤100∧x.2.2.length≤1000
theorem gZ {q:Cond→Prop} {H:aa} {op:Int} {n a v l:B} {f:Bool} {d:D} (ks:List Cond) (hd:FrzTo H d (enc ks)) (hq:q ⟨op,n,a,v,l,f,ks⟩):Fin enc q (.agg [.v (.int .i64 op), .v (.string n), .v (.string a), .v (.string v), .v (.string l), .v (.bool f),d]) H:=by
 refine dE (⟨op,n,a,v,l,f,ks⟩:Cond) ?_ hq
 rw[N4]
 refine .agg rfl fun k x y hx hy=> ?_
 rcases k with _ | _ | _ | _ | _ | _ | _ | k
 ·cases hx;cases hy;exact .same _
 ·cases hx;cases hy;exact .same _
 ·cases hx;cases hy;exact .same _
 ·cases hx;cases hy;exact .same _
 ·cases hx;cases hy;exact .same _
 ·cases hx;cases hy;exact .same _
 ·cases hx;cases hy;exact hd
 ·simp at hx
theorem Us (a b c d e f g h:B):D.list 1 [.v (.string a), .v (.string b), .v (.string c), .v (.string d), .v (.string e), .v (.string f), .v (.string g), .v (.string h)]= .list 1 (F1 [a,b,c,d,e,f,g,h]):=id rfl
theorem QX (a b c d:B):D.list 1 [.v (.string a), .v (.string b), .v (.string c), .v (.string d)]= .list 1 (F1 [a,b,c,d]):=id rfl
end Go.Gv

namespace Go.Gv
open Cod (enc dec)
variable {S S0:Nat→Spc}
def Jz (x:List Int×Int×List B) (y:Cond):Prop:=GI x.2.2 x.2.1.toNat y
abbrev t8 (n:Nat):Spc:=cv (aT (a2 Int (List B))) (DK n) (enc (X:=Cond)) Jz
theorem qhy {i:Nat} {a:B} (h: [(⟨#[119,111,114,100]⟩:B),⟨#[119,111,114,100]⟩,⟨#[116,97,103]⟩][i]?=some a):a∈Attr2:=by
 have:=gu h
 simpa [Attr2,Mr,Ms] using this
theorem qgP {i:Nat} {a:B} (h: [(⟨#[119,111,114,100]⟩:B),⟨#[116,97,103]⟩][i]?=some a):a∈Attr2:=gu h
theorem qd1 {i:Nat} {a:B} (h: [(⟨#[112]⟩:B),⟨#[113]⟩][i]?=some a):a∈FeatL:=gu h
theorem qd0 {i:Nat} {a:B} (h: [(⟨#[49]⟩:B),⟨#[50]⟩][i]?=some a):a∈NumL:=gu h
theorem qgO {i:Nat} {a:B} (h: [(⟨#[97]⟩:B),⟨#[98]⟩,⟨#[97,46,42]⟩,⟨#[91,97,98,93]⟩][i]?=some a):a∈ValsT:=gu h
theorem qhx {i:Nat} {a:B} (h: [(⟨#[97]⟩:B),⟨#[98]⟩,⟨#[97,46,42]⟩,⟨#[91,97,98,93]⟩,⟨#[88]⟩,⟨#[]⟩,⟨#[99,63]⟩,⟨#[97,124,98]⟩][i]?=some a):a∈ValsI:=by
 have:=gu h
 simp only[ValsI,List.mem_cons,List.not_mem_nil,or_false] at this ⊢
 rcases this with h | h | h | h | h | h | h | h <;> simp[h]
theorem HU (n:Nat) (h1:S ag=s_m_Next) (h2:S kw=xj) (h3:S ck=t8 n):aN mj l6 S (aT (a2 Int (List B))) (DK (n+1)) (enc (X:=Cond)) Jz:=by
 rintro⟨L,deep,lb⟩ ⟨hn,hd0,hd1,hlb⟩
 simp only at hn hd0 hd1 hlb
 simp[mj,l6,h1]
 intro b6 k0 hk0 hk1
 refine cS (X:=Int) [0,1,2,6] [6] (fun k=> 0≤k∧k < 12∧(deep < 1→k < 8)) (fun k=> [(7,enc k)]) (fun _=> []) ?_ ?_
 ·simp
  have:k0.tmod 8=k0 % 8:=Int.tmod_eq_emod_of_nonneg hk0
  rw[this]
  omega
 rintro k ⟨q0,q1,q2⟩
 refine cS (X:=Unit) [0,1,2,6,7] [6] (fun _=> 10≤k) (fun _=> []) (fun _=> []) ?_ ?_
 ·simp
  refine cS (X:=Bool) [0,1,2,6,7,15] [6] (fun b=> b=decide (k < 4)) (fun b=> [(16,enc b)]) (fun _=> []) ?_ ?_
  ·simp
   repeat' first | apply And.intro | intro _
   all_goals first | omega | (rw[Bool.eq_iff_iff];simp;omega)
  rintro b hb
  simp[h1,F0,Mv,Us,QX,lB,nX, -Bool.forall_bool]
  refine⟨fun _ y hy0 hy1=> ⟨hy0,hy1,fun a ha y hy0 hy1=> ⟨hy0,hy1,fun a' ha' y hy0 hy1=> gZ [] (.nil _) (.atom _ _ (.val a a' _ (qhy ha) (qhx ha')))⟩⟩,fun hb0=> ?_⟩
  rw[hb0] at hb
  have hb:4≤k:=by simpa using hb.symm
  refine⟨fun _ y hy0 hy1=> ⟨hy0,hy1,fun a ha=> gZ [] (.nil _) (.atom _ _ (.feat a (qd1 ha)))⟩,fun k4=> ⟨fun _ _=> ⟨fun hl y hy0 hy1=> ⟨hy0,hy1,fun a ha _=> ⟨by omega,fun y hy=> ⟨by omega,by omega,fun a' ha' y hy0 hy1=> ⟨hy0,hy1,fun a'' ha''=> gZ [] (.nil _) (.atom _ _ (.same a a' a'' (qgP ha) (gu ha') (qgP ha'')))⟩⟩⟩⟩,fun _=> gZ [] (.nil _) (.atom _ _ (.val Ms _ false (by simp[Attr2]) (by simp[ValsI])))⟩,fun k5=> ?_⟩⟩
  refine cS (X:=Bool) [0,1,2,6,7,15] [6] (fun b=> b=decide (k=6∨k=7)) (fun b=> [(67,enc b)]) (fun _=> []) ?_ ?_
  ·simp
   repeat' first | apply And.intro | intro _
   all_goals first | omega | (rw[Bool.eq_iff_iff];simp;omega)
  rintro b hb2
  simp[h1,h2, -Bool.forall_bool]
  refine⟨fun _ y hy0 hy1=> ⟨trivial,fun t ht b8=> ?_⟩,fun hb0=> ?_⟩
  ·refine cS (X:=B×B) [6,8] [6] (fun x=> (x.1=E0∧x.2=E0)∨(x.1=WI∧x.2∈NumL)) (fun _=> []) (fun x=> [(8, .box b8 [.v (.int .i64 5), .v (.string t), .v (.string x.1), .v (.string x.2), .v (.string ⟨#[]⟩), .v (.bool false), .v (.slice none 0 0)])]) ?_ ?_
   ·simp[h1,F0,lB,nX]
    refine fun y hy0 hy1=> ⟨fun _ z hz0 hz1=> ⟨hz0,hz1,fun a ha=> ⟨WI,a, .inr ⟨rfl,qd0 ha⟩, .inl ⟨rfl,rfl⟩⟩⟩,fun _=> ⟨E0,E0, .inl ⟨rfl,rfl⟩, .inl ⟨rfl,rfl⟩⟩⟩
   ·rintro⟨a,v⟩ hav
    simp
    refine gZ [] (.nil _) (.atom _ _ ?_)
    rcases hav with⟨rfl,rfl⟩ | ⟨rfl,hv⟩
    ·exact .reg t ht
    ·exact .regk t v ht hv
  rw[hb0] at hb2
  have hb2: ¬ (k=6∨k=7):=by simpa using hb2.symm
  refine cS (X:=Bool) [0,1,2,6,7,15] [6] (fun b=> b=decide (k=8∨k=9)) (fun b=> [(85,enc b)]) (fun _=> []) ?_ ?_
  ·simp
   repeat' first | apply And.intro | intro _
   all_goals first | omega | (rw[Bool.eq_iff_iff];simp;omega)
  rintro b hb3
  simp[h3, -Bool.forall_bool]
  have hrec:1≤deep→DK n (L,deep -1,lb):=fun h=> ⟨by show(deep -1).toNat < n;omega,by show -10≤deep -1;omega,by show deep -1≤100;omega,hlb⟩
  refine⟨fun hb1=> ?_,fun hb0=> ?_⟩
  ·rw[hb1] at hb3
   have hb3:k=8∨k=9:=by simpa using hb3.symm
   have hdn:deep.toNat=(deep -1).toNat+1:=by omega
   refine⟨by simp only[InR];omega,hrec (by omega),fun y hy=> gZ [y] (by simp) (by show GI lb deep.toNat _;rw[hdn];exact .not _ _ hy)⟩
  rw[hb0] at hb3
  have hb3: ¬ (k=8∨k=9):=by simpa using hb3.symm
  omega
 ·rintro -hk
  have hrec:DK n (L,deep -1,lb):=⟨by show(deep -1).toNat < n;omega,by show -10≤deep -1;omega,by show deep -1≤100;omega,hlb⟩
  have hdn:deep.toNat=(deep -1).toNat+1:=by omega
  simp[h3]
  refine⟨by simp only[InR];omega,by simp only[InR];omega,by simp only[InR];omega,hrec,fun y hy=> ⟨by simp only[InR];omega,hrec,fun y' hy'=> gZ [y,y'] (by simp) (by show GI lb deep.toNat _;rw[hdn];exact .two _ _ _ _ (by omega) hy hy')⟩⟩
def Rj (x:List Int×Int×List B) (y:Cond):Prop:=GC x.2.2 x.2.1.toNat y
abbrev xk:Spc:=cv (aT (a2 Int (List B))) (fun x=> -10≤x.2.1∧x.2.1≤100∧x.2.2.length≤1000) (enc (X:=Cond)) Rj
abbrev rP:Spc:=cv (aT (a2 Int (List B))) (fun x=> ∃n,DK n x) (enc (X:=Cond)) Jz
theorem KL (h1:S ag=s_m_Next) (h3:S ck=rP):aN nC m7 S (aT (a2 Int (List B))) (fun x=> -10≤x.2.1∧x.2.1≤100∧x.2.2.length≤1000) (enc (X:=Cond)) Rj:=by
 rintro⟨L,deep,lb⟩ ⟨hd0,hd1,hlb⟩
 simp only at hd0 hd1 hlb
 simp[nC,m7,h1]
 intro b6
 refine cS (X:=Unit) [0,1,2,6] [6] (fun _=> True) (fun _=> []) (fun _=> []) ?_ ?_
 ·simp[h1,QX,lB,nX, -Bool.forall_bool]
  exact fun y _ _=> ⟨fun _=> gZ [] (.nil _) .any,fun _=> ⟨fun _ z z0 z1=> ⟨z0,z1,fun a ha u _ _=> gZ [] (.nil _) (.top a _ (qgO ha))⟩,fun _ _ z z0 z1=> ⟨z0,z1,fun a ha u _ _=> gZ [] (.nil _) (.top a _ (qgO ha))⟩⟩⟩
 ·rintro - -
  have hrec: ∃n,DK n (L,deep,lb):=⟨deep.toNat+1,Nat.lt_succ_self _,hd0,hd1,hlb⟩
  simp[h3,hrec]
  exact fun y hy=> gZ y.kids (.same _) (by show GC lb deep.toNat _;rw[N0 y];exact .inner _ hy)
end Go.Gv

namespace Go.Gv
open Go.Proofs
open Cod (enc dec)
variable {S S0:Nat→Spc}
def SY (x:List Int×Corpus):Prop:=OkCorp x.2
def QJ (x:List Int×Corpus) (y:List Int):Prop:=y.length=2∧ ∀b∈y, -1≤b∧b < x.2.toks.length
abbrev Af:Spc:=cv (aT (a1 Corpus)) SY (enc (X:=List Int)) QJ
theorem Ca (h1:S ag=s_m_Next):aN nE m9 S (aT (a1 Corpus)) SY (enc (X:=List Int)) QJ:=by
 rintro⟨L,c⟩ hc
 obtain⟨h2,h3,h4,h5⟩:=hc
 simp only at h2 h3 h4 h5
 simp[nE,m9,h1, -Bool.forall_bool, -Bool.exists_bool]
 refine fun _=> ⟨by simp only[InR];omega,by omega,fun y hy=> ⟨by simp only[InR];omega,fun _=> ⟨by simp only[InR];omega,by omega,fun z hz=> ⟨by simp only[InR];omega,?_⟩⟩⟩⟩
 refine dE [y -1,z -1] (.same _) ⟨rfl,fun b hb=> ?_⟩
 simp at hb
 show -1≤b∧b < (c.toks.length:Int)
 omega
theorem Sf {c:Corpus} (hc:OkCorp c) {x:Cond} {tok:Int} {bd:List Int} (t0:0≤tok) (t1:tok < c.toks.length) (hb:QJ (([]:List Int),c) bd) (hok:LZ fH lbs2 x=true) (hy: ∃y,fG ⟨c,tok,lbs2,bd⟩ 21 x=some y):SZ (c,x,tok,lbs2,bd):=
 ⟨hc.sz,by rw[show(c,x,tok,lbs2,bd).1.attrs=fH from hc.1];exact hok,t0,t1,hb.1,(by decide:lbs2.length≤1000),hb.2,hy⟩
end Go.Gv

namespace Go.Gv
open Go.Proofs Cod
theorem zN {P:Program} {f:Nat} {A:Nat→PT} {A':PT} (h: ∀n,Tri P f (A n)) (hs: ∀d ds H K,A' d ds H K→ ∃n,A n d ds H K):Tri P f A':=
 fun O tp w vs ds H d K a b c e g hA=> (hs d ds H K hA).elim fun n hn=> h n O tp w vs ds H d K a b c e g hn
theorem zM {P:Program} {f:Nat} {A:PT} (hs: ∀d ds H K,¬A d ds H K):Tri P f A:=fun O tp w vs ds H d K a b c e g hA=> absurd hA (hs d ds H K)
theorem z6 {X Y:Type} {A:gK X} {pre:Nat→X→Prop} {pre':X→Prop} {er:Y→D} {post:X→Y→Prop} (hx: ∀x,pre' x→ ∃n,pre n x): ∀d ds H K,(cv A pre' er post).pt d ds H K→ ∃n,(cv A (pre n) er post).pt d ds H K:=by
 intro d ds H K h
 rw[pN] at h
 cases e:A.dec ds with
 | none=> rw[e] at h;exact h.elim
 | some x=>
   rw[e] at h
   obtain⟨h1,h2⟩:=h
   obtain⟨n,hn⟩:=hx x h1
   exact⟨n,by rw[pN,e];exact⟨hn,h2⟩⟩
theorem lC {P:Program} {f:Nat} {X Y:Type} {A:gK X} {pre:X→Prop} {er:Y→D} {post:X→Y→Prop} (hx: ∀x,¬pre x):Tri P f (cv A pre er post).pt:=zM fun d ds H K h=> by
 rw[pN] at h
 cases e:A.dec ds with
 | none=> rw[e] at h;exact h.elim
 | some x=> rw[e] at h;exact hx x h.1
theorem D1 {P:Program} {f:Nat} {Y Z:Type} {A:gK Z} {er:Y→D} :Tri P f (O5 A er fun _ _=> none).pt:=zM fun d ds H K h=> by
 obtain⟨id,b',x,z,ds',h1,h2,h3,h4,h5,⟨r,h6⟩,h7⟩:=h
 cases h6
theorem Pv {P:Program} {f:Nat} :Tri P f (QY fun _ _ _=> none).pt:=zM fun d ds H K h=> by
 obtain⟨id',b',x,n',k,r,d0',h1,h2,h3,h4,h5⟩:=h
 cases h4
theorem SJ {p:Cond} (h:cA p≤0):False:=by rw[zw] at h;omega
theorem Ot:Tri Tryz.prog kw (xj).pt:=
 ac (S:=bI [(jn,s_m_Mod)]) (ah (ab D7 ae)) C9 (fun _=> Nat.le_of_ble_eq_true rfl) (KJ rfl)
theorem qZ: ∀n,Tri Tryz.prog ck (t8 n).pt
 | 0=> lC fun x h=> by have:=h.1;omega
 | n+1=> ac (S:=bI [(ag,s_m_Next),(kw,xj),(ck,t8 n)]) (ah (ab eU (ab Ot (ab (qZ n) ae)))) yO (fun _=> Nat.le_of_ble_eq_true rfl) (HU n rfl rfl rfl)
theorem BJ:Tri Tryz.prog ck (rP).pt:=zN (fun n=> qZ n) (z6 (fun x h=> h))
theorem CJ:Tri Tryz.prog jc (xk).pt:=
 ac (S:=bI [(ag,s_m_Next),(ck,rP)]) (ah (ab eU (ab BJ ae))) AI (fun _=> Nat.le_of_ble_eq_true rfl) (KL rfl rfl)
theorem wN:Tri Tryz.prog dO (zo).pt:=
 ac (S:=bI []) (ah ae) ux (fun _=> Nat.le_of_ble_eq_true rfl) (vv)
theorem yb:Tri Tryz.prog d7 (s_cpFold1).pt:=KT (S:=bI [(dO,zo)]) (ah (ab wN ae)) rfl
theorem yc:Tri Tryz.prog d8 (Is).pt:=
 ac (S:=bI []) (ah ae) wa (fun _=> Nat.le_of_ble_eq_true rfl) (xa)
theorem u6:Tri Tryz.prog ei (IA).pt:=
 ac (S:=bI [(d8,Is)]) (ah (ab yc ae)) tw (fun _=> Nat.le_of_ble_eq_true rfl) (tW rfl)
theorem xX:Tri Tryz.prog bX (It).pt:=
 ac (S:=bI [(ei,IA)]) (ah (ab u6 ae)) vS (fun _=> Nat.le_of_ble_eq_true rfl) (wY rfl)
theorem ji:Tri Tryz.prog bh (Iu).pt:=
 ac (S:=bI [(bX,It)]) (ah (ab xX ae)) iO (fun _=> Nat.le_of_ble_eq_true rfl) (BZ rfl)
theorem lS:Tri Tryz.prog aV (Ir).pt:=
 ac (S:=bI [(bh,Iu)]) (ah (ab ji ae)) kY (fun _=> Nat.le_of_ble_eq_true rfl) (BY rfl)
theorem wH:Tri Tryz.prog eK (Ar).pt:=
 ac (S:=bI []) (ah ae) ui (fun _=> Nat.le_of_ble_eq_true rfl) (DY)
theorem zh:Tri Tryz.prog gh (Eg).pt:=
 ac (S:=bI [(eK,Ar)]) (ah (ab wH ae)) xw (fun _=> Nat.le_of_ble_eq_true rfl) (HW rfl)
theorem pA:Tri Tryz.prog cb (Pz).pt:=
 ac (S:=bI [(gh,Eg),(aV,Ir)]) (ah (ab zh (ab lS ae))) oL (fun _=> Nat.le_of_ble_eq_true rfl) (pa rfl rfl)
theorem pE:Tri Tryz.prog cb (Fj).pt:=zO pA rfl (fun _=> NR (fun _ h=> by cases h))
theorem BI:Tri Tryz.prog hL (Ae).pt:=
 H8 (S:=bI [(cb,Fj)]) (ah (ab pE ae)) yJ (fun _=> Nat.le_of_ble_eq_true rfl) (zy rfl)
theorem Hz:Tri Tryz.prog jL (Il).pt:=
 ac (S:=bI []) (ah ae) Eo (fun _=> Nat.le_of_ble_eq_true rfl) (Fy)
theorem cD:Tri Tryz.prog ak (fK).pt:=
 eB (S:=bI [(aI,s_decR)]) (ah (ab vz ae)) rY (fun _=> Nat.le_of_ble_eq_true rfl) (DP rfl)
theorem tI:Tri Tryz.prog dS (D9).pt:=
 eB (S:=bI [(aI,s_decR)]) (ah (ab vz ae)) rX (fun _=> Nat.le_of_ble_eq_true rfl) (DO rfl)
theorem jj:Tri Tryz.prog bi (vK).pt:=
 eB (S:=bI [(ak,fK),(dS,D9)]) (ah (ab cD (ab tI ae))) nQ (fun _=> Nat.le_of_ble_eq_true rfl) (vj rfl rfl)
theorem rB:Tri Tryz.prog cI (Im).pt:=
 eB (S:=bI [(ak,fK),(bt,s_crune),(bi,vK)]) (ah (ab cD (ab rJ (ab jj ae)))) qh (fun _=> Nat.le_of_ble_eq_true rfl) (zz rfl rfl rfl)
theorem sR:Tri Tryz.prog dF (In).pt:=
 eB (S:=bI [(ak,fK),(cI,Im),(hL,Ae)]) (ah (ab cD (ab rB (ab BI ae)))) rb (fun _=> Nat.le_of_ble_eq_true rfl) (B4 rfl rfl rfl)
theorem tJ:Tri Tryz.prog dT (Ea).pt:=
 eB (S:=bI [(ak,fK),(jL,Il),(dF,In),(bt,s_crune),(bi,vK)]) (ah (ab cD (ab Hz (ab sR (ab rJ (ab jj ae)))))) rZ (fun _=> Nat.le_of_ble_eq_true rfl) (DQ rfl rfl rfl rfl rfl)
theorem rA:Tri Tryz.prog dg (Ik).pt:=
 eB (S:=bI [(ak,fK),(dT,Ea)]) (ah (ab cD (ab tJ ae))) qg (fun _=> Nat.le_of_ble_eq_true rfl) (zx rfl rfl)
theorem rC:Tri Tryz.prog dh (Io).pt:=
 eB (S:=bI [(ak,fK),(dg,Ik)]) (ah (ab cD (ab rA ae))) qi (fun _=> Nat.le_of_ble_eq_true rfl) (zA rfl rfl)
theorem sQ:Tri Tryz.prog cO (Ij).pt:=
 eB (S:=bI [(ak,fK),(dh,Io)]) (ah (ab cD (ab rC ae))) ra (fun _=> Nat.le_of_ble_eq_true rfl) (B1 rfl rfl)
theorem sP: ∀n,Tri Tryz.prog dZ (QY (lV n)).pt
 | 0=> Pv
 | n+1=> H6 (S:=bI [(dZ,QY (lV n))]) (ah (ab (sP n) ae)) AB (by decide) (B2 n rfl)
theorem xW:Tri Tryz.prog fl (Aa).pt:=
 ac (S:=bI []) (ah ae) vR (fun _=> Nat.le_of_ble_eq_true rfl) (wX)
theorem wF:Tri Tryz.prog eG (xi).pt:=
 ac (S:=bI [(fl,Aa)]) (ah (ab xW ae)) ue (fun _=> Nat.le_of_ble_eq_true rfl) (vh rfl)
theorem mA: ∀n,Tri Tryz.prog cj (mV n).pt
 | 0=> lC fun x h=> by cases h
 | n+1=> ac (S:=bI [(eG,xi),(cj,mV n)]) (ah (ab wF (ab (mA n) ae))) tr (fun _=> Nat.le_of_ble_eq_true rfl) (tS n rfl rfl)
theorem nH: ∀n,Tri Tryz.prog cE (Ad n).pt
 | 0=> lC fun x h=> by obtain⟨m,h⟩:=h;cases h
 | n+1=> ac (S:=bI [(cE,Ad n)]) (ah (ab (nH n) ae)) uf (fun _=> Nat.le_of_ble_eq_true rfl) (vi n rfl)
theorem pB:Tri Tryz.prog cP (Ac).pt:=
 ac (S:=bI [(dZ,QY (lV 50)),(cj,mV 50),(cE,Ad 50)]) (ah (ab (sP 50) (ab (mA 50) (ab (nH 50) ae)))) vU (fun _=> Nat.le_of_ble_eq_true rfl) (w4 rfl rfl rfl)
theorem tP:Tri Tryz.prog d6 (pf).pt:=
 ac (S:=bI [(kA,s_cpAt),(cO,Ij),(cP,Ac)]) (ah (ab Rz (ab sQ (ab pB ae)))) AD (fun _=> Nat.le_of_ble_eq_true rfl) (B5 rfl rfl rfl)
theorem CO:Tri Tryz.prog jh (PB).pt:=
 ac (S:=bI [(d6,pf)]) (ah (ab tP ae)) AN (fun _=> Nat.le_of_ble_eq_true rfl) (Cg rfl)
theorem xY:Tri Tryz.prog fm (PA).pt:=
 ac (S:=bI []) (ah ae) vT (fun _=> Nat.le_of_ble_eq_true rfl) (wZ)
theorem mC:Tri Tryz.prog bF (vL).pt:=
 mU (S:=bI []) (ah ae) r8 (fun _=> Nat.le_of_ble_eq_true rfl) (Rt)
theorem gC:Tri Tryz.prog aJ (pP).pt:=
 mU (S:=bI [(bF,vL)]) (ah (ab mC ae)) qk (fun _=> Nat.le_of_ble_eq_true rfl) (Ma rfl)
theorem BH: ∀n,Tri Tryz.prog ax (pQ n).pt∧Tri Tryz.prog di (Ip n).pt∧Tri Tryz.prog bp (Ab n).pt
 | 0=> ⟨D1,D1,D1⟩
 | n+1=> ⟨mU (S:=bI [(ax,pQ n),(di,Ip n),(aJ,pP)]) (ah (ab (BH n).1 (ab (BH n).2.1 (ab gC ae)))) rf (fun _=> Nat.le_of_ble_eq_true rfl) (Pe n rfl rfl rfl),mU (S:=bI [(ax,pQ n),(bp,Ab n),(aJ,pP),(bF,vL)]) (ah (ab (BH n).1 (ab (BH n).2.2 (ab gC (ab mC ae))))) qj (fun _=> Nat.le_of_ble_eq_true rfl) (L7 n rfl rfl rfl rfl),mU (S:=bI [(ax,pQ n),(bp,Ab n),(aJ,pP)]) (ah (ab (BH n).1 (ab (BH n).2.2 (ab gC ae)))) oM (fun _=> Nat.le_of_ble_eq_true rfl) (HT n rfl rfl rfl)⟩
theorem HA:Tri Tryz.prog lR (MI 50).pt:=
 ac (S:=bI [(ax,pQ 50)]) (ah (ab (BH 50).1 ae)) EB (fun _=> Nat.le_of_ble_eq_true rfl) (Zh 50 rfl)
theorem tK:Tri Tryz.prog dU (Iq).pt:=
 ac (S:=bI []) (ah ae) r9 (fun _=> Nat.le_of_ble_eq_true rfl) (Pf)
theorem xV:Tri Tryz.prog bW (MH).pt:=
 ac (S:=bI [(d7,s_cpFold1)]) (ah (ab yb ae)) vQ (fun _=> Nat.le_of_ble_eq_true rfl) (HO rfl)
theorem zg:Tri Tryz.prog cp (MJ).pt:=
 ac (S:=bI []) (ah ae) xt (fun _=> Nat.le_of_ble_eq_true rfl) (yy)
theorem tO:Tri Tryz.prog d5 (Ge).pt:=
 ac (S:=bI [(cP,C1),(cX,s_cpVal),(lR,MI 50),(dU,Iq),(fm,Gd),(cp,MJ),(bW,MH)]) (ah (ab pB (ab CW (ab HA (ab tK (ab xY (ab zg (ab xV ae)))))))) AC (fun _=> Nat.le_of_ble_eq_true rfl) (B3 rfl rfl rfl rfl rfl rfl rfl)
theorem CH:Tri Tryz.prog i9 (C3 false).pt:=
 ac (S:=bI [(d5,Ge)]) (ah (ab tO ae)) AE (fun _=> Nat.le_of_ble_eq_true rfl) (B6 rfl)
theorem wG:Tri Tryz.prog eH (C3 true).pt:=
 ac (S:=bI [(d5,Ge)]) (ah (ab tO ae)) ug (fun _=> Nat.le_of_ble_eq_true rfl) (vk rfl)
theorem CN:Tri Tryz.prog jg (Ed).pt:=
 ac (S:=bI [(d6,pf),(i9,C3 false),(eH,C3 true)]) (ah (ab tP (ab CH (ab wG ae)))) AM (fun _=> Nat.le_of_ble_eq_true rfl) (Cf rfl rfl rfl)
theorem qY:Tri Tryz.prog da (Gh).pt:=
 ac (S:=bI []) (ah ae) vY (fun _=> Nat.le_of_ble_eq_true rfl) (w8)
theorem zi:Tri Tryz.prog gi (xn).pt:=
 ac (S:=bI [(da,Gh)]) (ah (ab qY ae)) vX (fun _=> Nat.le_of_ble_eq_true rfl) (w7 rfl)
theorem u3:Tri Tryz.prog dq (Eb).pt:=
 ac (S:=bI [(da,Gh),(gi,xn)]) (ah (ab qY (ab zi ae))) r7 (fun _=> Nat.le_of_ble_eq_true rfl) (tn rfl rfl)
theorem mB:Tri Tryz.prog aR (rO).pt:=
 ac (S:=bI [(cX,s_cpVal)]) (ah (ab CW ae)) r6 (fun _=> Nat.le_of_ble_eq_true rfl) (tm rfl)
theorem zj:Tri Tryz.prog gk (Ah).pt:=
 ac (S:=bI [(aR,rO)]) (ah (ab mB ae)) xy (fun _=> Nat.le_of_ble_eq_true rfl) (yB rfl)
theorem u4:Tri Tryz.prog ef (Iw).pt:=
 ac (S:=bI []) (ah ae) ts (fun _=> Nat.le_of_ble_eq_true rfl) (tT)
theorem CM:Tri Tryz.prog jf (Iv).pt:=
 ac (S:=bI [(gk,Ah),(ef,Iw)]) (ah (ab zj (ab u4 ae))) AL (fun _=> Nat.le_of_ble_eq_true rfl) (Ce rfl rfl)
theorem lT: ∀n,Tri Tryz.prog aS (Am n).pt
 | 0=> lC fun x h=> SJ h.1
 | n+1=> ac (S:=bI [(aS,Am n)]) (ah (ab (lT n) ae)) sa (fun _=> Nat.le_of_ble_eq_true rfl) (rG n rfl)
theorem mD:Tri Tryz.prog aS (rQ).pt:=zN (fun n=> lT n) (z6 (fun x h=> h))
theorem kO:Tri Tryz.prog bu (mW).pt:=
 ac (S:=bI [(aS,rQ)]) (ah (ab mD ae)) uo (fun _=> Nat.le_of_ble_eq_true rfl) (vq rfl)
theorem wI:Tri Tryz.prog eL (xo).pt:=
 ac (S:=bI []) (ah ae) ul (fun _=> Nat.le_of_ble_eq_true rfl) (tU)
theorem pC:Tri Tryz.prog aZ (xp).pt:=
 ac (S:=bI []) (ah ae) oO (fun _=> Nat.le_of_ble_eq_true rfl) (pb)
theorem mu:Tri Tryz.prog bS (vN Attr (bI [(aZ,xp)])).pt:=
 ac (S:=bI [(aZ,xp)]) (ah (ab pC ae)) lD (fun _=> Nat.le_of_ble_eq_true rfl) (zI)
theorem eq:Tri Tryz.prog ar (mE).pt:=
 ac (S:=bI [(bS,vN Attr (bI [(aZ,xp)]))]) (ah (ab mu ae)) ql (fun _=> Nat.le_of_ble_eq_true rfl) (q8 (S0:=(bI [(aZ,xp)])) rfl rfl)
theorem oj:Tri Tryz.prog cF (rR).pt:=
 ac (S:=bI [(ar,mE)]) (ah (ab eq ae)) ur (fun _=> Nat.le_of_ble_eq_true rfl) (vr rfl)
theorem wL:Tri Tryz.prog cG (Ap).pt:=
 ac (S:=bI []) (ah ae) uu (fun _=> Nat.le_of_ble_eq_true rfl) (vu)
theorem gB:Tri Tryz.prog ba (ub).pt:=
 ac (S:=bI []) (ah ae) qf (fun _=> Nat.le_of_ble_eq_true rfl) (zH)
theorem o7:Tri Tryz.prog aL (Iz).pt:=
 ac (S:=bI [(ba,ub)]) (ah (ab gB ae)) iD (fun _=> Nat.le_of_ble_eq_true rfl) (nW rfl)
theorem wJ:Tri Tryz.prog eM (Al).pt:=
 ac (S:=bI [(cF,rR),(ar,mE),(dq,Eb)]) (ah (ab oj (ab eq (ab u3 ae)))) um (fun _=> Nat.le_of_ble_eq_true rfl) (vo rfl rfl rfl)
theorem wK:Tri Tryz.prog eN (Ao).pt:=
 ac (S:=bI [(eL,xo),(eM,Al),(jh,Gg),(ar,mE),(fW,s_sConB),(aR,rO),(aL,Iz)]) (ah (ab wI (ab wJ (ab CO (ab eq (ab H5 (ab mB (ab o7 ae)))))))) ut (fun _=> Nat.le_of_ble_eq_true rfl) (vt rfl rfl rfl rfl rfl rfl rfl)
theorem qQ:Tri Tryz.prog bw (Ef).pt:=
 ac (S:=bI [(eN,Ao)]) (ah (ab wK ae)) pm (fun _=> Nat.le_of_ble_eq_true rfl) (pJ rfl)
theorem oc: ∀n,Tri Tryz.prog aC (Aj n).pt
 | 0=> lC fun x h=> by obtain⟨a,lb,_,h,_⟩:=h;cases h
 | n+1=> ac (S:=bI [(bw,Ef),(aC,Aj n)]) (ah (ab qQ (ab (oc n) ae))) vZ (fun _=> Nat.le_of_ble_eq_true rfl) (vn n rfl rfl)
theorem xZ:Tri Tryz.prog aC (Ai).pt:=zN (fun n=> oc n) (z6 (fun x h=> h))
theorem lU:Tri Tryz.prog bM (Aq).pt:=
 ac (S:=bI [(aS,rQ),(aC,Ai)]) (ah (ab mD (ab xZ ae))) ri (fun _=> Nat.le_of_ble_eq_true rfl) (rH rfl rfl)
theorem tH:Tri Tryz.prog dR (Ec).pt:=
 ac (S:=bI []) (ah ae) rW (fun _=> Nat.le_of_ble_eq_true rfl) (DZ)
theorem qP:Tri Tryz.prog cW (Ee).pt:=
 ac (S:=bI [(dR,Ec)]) (ah (ab tH ae)) pj (fun _=> Nat.le_of_ble_eq_true rfl) (yC rfl)
theorem sS:Tri Tryz.prog aW (nZ).pt:=
 ac (S:=bI [(cW,Ee)]) (ah (ab qP ae)) rh (fun _=> Nat.le_of_ble_eq_true rfl) (rF rfl)
theorem nU:Tri Tryz.prog cy (vN Region (bI [(aW,nZ)])).pt:=
 ac (S:=bI [(aW,nZ)]) (ah (ab sS ae)) nf (fun _=> Nat.le_of_ble_eq_true rfl) (FL)
theorem mw:Tri Tryz.prog bT (yH Region (bI [(aW,nZ)])).pt:=
 ac (S:=bI [(cy,vN Region (bI [(aW,nZ)]))]) (ah (ab nU ae)) lE (fun _=> Nat.le_of_ble_eq_true rfl) (FM rfl)
theorem u5:Tri Tryz.prog eh (Iy).pt:=
 ac (S:=bI [(bT,yH Region (bI [(aW,nZ)]))]) (ah (ab mw ae)) tt (fun _=> Nat.le_of_ble_eq_true rfl) (tV (S0:=(bI [(aW,nZ)])) rfl rfl)
theorem od: ∀n,Tri Tryz.prog aQ (nY n).pt
 | 0=> lC fun x h=> SJ h
 | n+1=>
   have h1:Tri Tryz.prog bG (vN Cond (bI [(aQ,nY n)])).pt:=ac (S:=bI [(aQ,nY n)]) (ah (ab (od n) ae)) iX (fun _=> Nat.le_of_ble_eq_true rfl) (CQ)
   have h2:Tri Tryz.prog aF (yH Cond (bI [(aQ,nY n)])).pt:=ac (S:=bI [(bG,vN Cond (bI [(aQ,nY n)]))]) (ah (ab h1 ae)) gH (fun _=> Nat.le_of_ble_eq_true rfl) (CR rfl)
   ac (S:=bI [(aF,yH Cond (bI [(aQ,nY n)]))]) (ah (ab h2 ae)) v7 (fun _=> Nat.le_of_ble_eq_true rfl) (w9 (S0:=(bI [(aQ,nY n)])) n rfl rfl)
theorem ya:Tri Tryz.prog aQ (Ak).pt:=zN (fun n=> od n) (z6 (fun x h=> h))
theorem nI: ∀n,Tri Tryz.prog bj (An n).pt
 | 0=> lC fun x h=> SJ h.1
 | n+1=> ac (S:=bI [(aQ,Ak),(bj,An n)]) (ah (ab ya (ab (nI n) ae))) un (fun _=> Nat.le_of_ble_eq_true rfl) (vp n rfl rfl)
theorem oh:Tri Tryz.prog bj (vM).pt:=zN (fun n=> nI n) (z6 (fun x h=> h))
theorem jH: ∀n,Tri Tryz.prog bv (mX n).pt
 | 0=> lC fun x h=> by obtain⟨_,y,h⟩:=h;cases h
 | n+1=>
   have g1:Tri Tryz.prog av (yG n).pt:=ac (S:=bI [(bv,mX n)]) (ah (ab (jH n) ae)) se (fun _=> Nat.le_of_ble_eq_true rfl) (KO n rfl)
   have g2:Tri Tryz.prog bb (Gf n).pt:=ac (S:=bI [(av,yG n)]) (ah (ab g1 ae)) sd (fun _=> Nat.le_of_ble_eq_true rfl) (KN n rfl)
   have g3:Tri Tryz.prog bG (vN Cond (bI [(av,yG n),(bb,Gf n)])).pt:=ac (S:=bI [(av,yG n),(bb,Gf n)]) (ah (ab g1 (ab g2 ae))) iX (fun _=> Nat.le_of_ble_eq_true rfl) (CQ)
   have g4:Tri Tryz.prog aF (yH Cond (bI [(av,yG n),(bb,Gf n)])).pt:=ac (S:=bI [(bG,vN Cond (bI [(av,yG n),(bb,Gf n)]))]) (ah (ab g3 ae)) gH (fun _=> Nat.le_of_ble_eq_true rfl) (CR rfl)
   ac (S:=bI [(av,yG n),(aF,yH Cond (bI [(av,yG n),(bb,Gf n)])),(cF,rR),(cG,Ap),(jg,Ed),(ar,mE),(jf,Iv),(ba,ub),(eh,Iy)]) (ah (ab g1 (ab g4 (ab oj (ab wL (ab CN (ab eq (ab CM (ab gB (ab u5 ae)))))))))) uq (fun _=> Nat.le_of_ble_eq_true rfl) (Pd (S0:=(bI [(av,yG n),(bb,Gf n)])) n rfl rfl rfl rfl rfl rfl rfl rfl rfl rfl rfl)
theorem tL:Tri Tryz.prog bc (yl).pt:=
 ac (S:=bI []) (ah ae) sf (fun _=> Nat.le_of_ble_eq_true rfl) (KP)
theorem qO:Tri Tryz.prog cV (vN Int (bI [(bc,yl)])).pt:=
 ac (S:=bI [(bc,yl)]) (ah (ab tL ae)) pi (fun _=> Nat.le_of_ble_eq_true rfl) (Md)
theorem nV:Tri Tryz.prog cz (yH Int (bI [(bc,yl)])).pt:=
 ac (S:=bI [(cV,vN Int (bI [(bc,yl)]))]) (ah (ab qO ae)) ng (fun _=> Nat.le_of_ble_eq_true rfl) (Me rfl)
theorem wM:Tri Tryz.prog eP (RN).pt:=
 ac (S:=bI [(bM,Aq),(cz,yH Int (bI [(bc,yl)])),(bv,mX 21)]) (ah (ab lU (ab nV (ab (jH 21) ae)))) uw (fun _=> Nat.le_of_ble_eq_true rfl) (Ph (S0:=(bI [(bc,yl)])) rfl rfl rfl rfl)
theorem nJ:Tri Tryz.prog bO (Gi).pt:=
 ac (S:=bI [(bu,mW),(bj,vM),(bM,Aq),(bv,mX 21)]) (ah (ab kO (ab oh (ab lU (ab (jH 21) ae))))) tu (fun _=> Nat.le_of_ble_eq_true rfl) (Mb rfl rfl rfl rfl)
theorem BL:Tri Tryz.prog fu (MK).pt:=
 ac (S:=bI []) (ah ae) yS (fun _=> Nat.le_of_ble_eq_true rfl) (zG)
theorem Jm:Tri Tryz.prog lg (IB).pt:=
 ac (S:=bI []) (ah ae) Gm (fun _=> Nat.le_of_ble_eq_true rfl) (HP)
theorem CK:Tri Tryz.prog jd (xm).pt:=
 ac (S:=bI [(fu,MK),(bO,Gi),(lg,IB)]) (ah (ab BL (ab nJ (ab Jm ae)))) AJ (fun _=> Nat.le_of_ble_eq_true rfl) (KM rfl rfl rfl)
theorem BK:Tri Tryz.prog ft (Ag).pt:=
 ac (S:=bI []) (ah ae) yR (fun _=> Nat.le_of_ble_eq_true rfl) (zF)
theorem CL:Tri Tryz.prog je (Af).pt:=
 ac (S:=bI [(ag,s_m_Next)]) (ah (ab eU ae)) AK (fun _=> Nat.le_of_ble_eq_true rfl) (Ca rfl)
end Go.Gv
