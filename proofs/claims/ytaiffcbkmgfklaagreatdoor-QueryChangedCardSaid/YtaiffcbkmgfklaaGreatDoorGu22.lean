/- A part of the framework and of the walks: T30 C6 W94. -/
import Derived.Test.YtaiffcbkmgfklaaGreatDoorGu19
import Derived.Test.YtaiffcbkmgfklaaGreatDoorGu13
import Derived.Test.YtaiffcbkmgfklaaGreatDoorGu20
import Derived.Test.YtaiffcbkmgfklaaGreatDoorGu10
set_option linter.unusedSimpArgs false
set_option linter.unusedVariables false
set_option linter.unusedSectionVars false
set_option maxRecDepth 100000

namespace Go.Gv
section
variable {α β:Type} {F0:Option β} {K:α→Prop}
theorem pB {o:Option α} {k:α→Option β} (hf: ∃r,F0=some r) (e:F0=o.bind k) (h: ∀x,F0=k x→K x):gE o K:=by
 cases o with
 | some x=> exact h x e
 | none=> obtain⟨r,hr⟩:=hf;rw[hr] at e;cases e
theorem pM {o:Option α} {k:α→β} (hf: ∃r,F0=some r) (e:F0=o.map k) (h: ∀x,F0=some (k x)→K x):gE o K:=by
 cases o with
 | some x=> exact h x e
 | none=> obtain⟨r,hr⟩:=hf;rw[hr] at e;cases e
theorem pE {o:Option β} {K:β→Prop} (hf: ∃r,F0=some r) (e:F0=o) (h: ∀x,F0=some x→K x):gE o K:=by
 cases o with
 | some x=> exact h x e
 | none=> obtain⟨r,hr⟩:=hf;rw[hr] at e;cases e
theorem QL {A:Prop} (hf: ∃r,F0=some r) (e:F0=none):A:=by obtain⟨r,hr⟩:=hf;rw[hr] at e;cases e
end
theorem aU {α β γ:Type} (o:Option α) (k:α→Option β) (g:β→γ): (o.bind k).map g=o.bind fun x=> (k x).map g:=by cases o <;> rfl
theorem aS {α β γ:Type} (o:Option α) (k:α→Option β) (g:β→Option γ): (o.bind k).bind g=o.bind fun x=> (k x).bind g:=by cases o <;> rfl
theorem a6 {α β γ:Type} (o:Option α) (k:α→β) (g:β→Option γ): (o.map k).bind g=o.bind fun x=> g (k x):=by cases o <;> rfl
theorem bn {α β γ:Type} (o:Option α) (k:α→β) (g:β→γ): (o.map k).map g=o.map fun x=> g (k x):=by cases o <;> rfl
section
variable {Y Z:Type}
abbrev gR (cc:CC) (rs:List aI) (S:Nat→Spc) (A:ix Z) (er:Y→D) (F:Pst→Z→Option (Pst×Y)):Prop:=zZ cc rs S A er (fun s z=> ∃r,F s z=some r) (fun s z s' y=> F s z=some (s',y))
end
section
variable {β:Type} {F0:Option β} {K:Bool→Prop}
theorem QV {s:Pst} {k:Int} {t:B} (h:DV s k t=some true):InR .i64 (s.pos+1):=by
 unfold DV at h
 split at h
 ·cases h
 ·obtain⟨x,hx,_⟩:=Option.map_eq_some_iff.1 h
  unfold ub at hx
  split at hx
  ·have:=QR hx
   simp only[InR]
   omega
  ·cases hx
theorem XB {s:Pst} {k:Int} {t:B} {g:Bool→Option β} (hf: ∃r,F0=some r) (e:F0=(DV s k t).bind g) (h1:InR .i64 (s.pos+1)→F0=g true→K true) (h2:F0=g false→K false):gE (DV s k t) K:=by
 cases h:DV s k t with
 | none=> rw[h] at e;exact QL hf e
 | some b=>
   rw[h] at e
   cases b with
   | true=> exact h1 (QV h) e
   | false=> exact h2 e
end
section
variable {β:Type} {F0:Option β} {K:Pst×Int→Prop}
theorem JP: ∀ (l:List UInt8) (n:Int),0≤n→n≤1000000→(∀c∈l,48≤c.toNat∧c.toNat≤57)→0≤l.foldl ej n∧l.foldl ej n≤1000000
 | [],n,h0,h1,_=> ⟨h0,h1⟩
 | c::l,n,h0,h1,h=> by
   have:=h c (by simp)
   exact JP l _ (by unfold ej;omega) (by unfold ej;omega) fun x hx=> h x (by simp[hx])
theorem DR {s:Pst} {l a:Int} {r:Pst×Int} (h:gg s l a=some r):0≤r.2∧r.2≤1000000:=by
 unfold gg at h
 obtain⟨w,_,h⟩:=Option.bind_eq_some_iff.1 h
 split at h
 ·rename_i hd
  cases h
  refine JP _ 0 (by omega) (by omega) fun c hc=> ?_
  unfold qH at hd
  rw[List.all_eq_true] at hd
  simpa using hd c hc
 ·cases h
theorem Yr {s:Pst} {l a:Int} {k:Pst×Int→Option β} (hf: ∃r,F0=some r) (e:F0=(gg s l a).bind k) (h: ∀x,0≤x.2∧x.2≤1000000→F0=k x→K x):gE (gg s l a) K:=by
 cases hn:gg s l a with
 | none=> rw[hn] at e;exact QL hf e
 | some x=> rw[hn] at e;exact h x (DR hn) e
theorem Lc {s:Pst} {l a:Int} {k:Pst×Int→β} (hf: ∃r,F0=some r) (e:F0=(gg s l a).map k) (h: ∀x,0≤x.2∧x.2≤1000000→F0=some (k x)→K x):gE (gg s l a) K:=by
 cases hn:gg s l a with
 | none=> rw[hn] at e;exact QL hf e
 | some x=> rw[hn] at e;exact h x (DR hn) e
end
@[simp] theorem qcy {Y Z:Type} (A:ix Z) (er:Y→D) (F:Pst→Z→Option (Pst×Y)) (i b:Nat) (dst:Option Nat) (ds:List D) (H:ab) (K:D→ab→Prop):Gn i dst (z3 A er F) (.bptr i b 0::ds) H K=R9 er F i b (H i) (A.dec ds) H K:=by
 rw[←qaa A er F (dst.getD 0)]
 exact propext ⟨fun h=> h.2,fun h=> ⟨QX fun _ _ e=> JZ e,h⟩⟩
end Go.Gv

namespace Go.Gv
open Go.Proofs
def pm:CC:=oX [oB 2 (.mv (.const ob))] [0] [] (oX [oA 3 0,oB 4 (.cmp .geq (oT 3) (.const (.int .u8 65))),oA 5 4,oH 6 5 (.mv (oT 0)),oH 7 5 (.cmp .leq (oT 6) (.const (.int .u8 90))),oB 8 (.pick (oT 5) (oT 7) (.const ob)),oA 9 8,oI 10 9 (.mv (oT 0)),oI 11 9 (.cmp .geq (oT 10) (.const (.int .u8 97))),oI 12 9 (.mv (oT 11)),oH 13 12 (.mv (oT 0)),
 oH 14 12 (.cmp .leq (oT 13) (.const (.int .u8 122))),oI 15 9 (.pick (oT 12) (oT 14) (.const ob)),oB 16 (.pick (oT 9) (.const (.bool true)) (oT 15)),oA 17 16,oI 18 17 (.mv (oT 0)),oI 19 17 (.eql false false [.int] (oT 18) (.const (.int .u8 95))),oB 20 (.pick (oT 17) (.const (.bool true)) (oT 19)),oA 2 20] [2] [] (.ret))
def o7:List aI:= [.tmp 2]
def EC:List Nat:= []
theorem Eq:aR Tryz.prog gO EC pm o7 21:=aA ay (by kernel_rfl)
def qK:CC:=oX [oB 2 (.mv (.const ob))] [0] [] (oX [oA 3 0,oB 4 (.cmp .geq (oT 3) (.const (.int .u8 48))),oA 5 4,oH 6 5 (.mv (oT 0)),oH 7 5 (.cmp .leq (oT 6) (.const (.int .u8 57))),oB 8 (.pick (oT 5) (oT 7) (.const ob)),oA 2 8] [2] [] (.ret))
def qd:List aI:= [.tmp 2]
def G7:List Nat:= []
theorem Gw:aR Tryz.prog gA G7 qK qd 9:=aA ay (by kernel_rfl)
def uu:CC:=oX [oB 0 (.mv (.const on))] [] [] (oX [oB 1 (.bslice aF 1 [oS ⟨#[60,47]⟩,oS ⟨#[33,61]⟩,oS ⟨#[58,58]⟩,oS ⟨#[37,99]⟩,oS ⟨#[91]⟩,oS ⟨#[93]⟩,oS ⟨#[40]⟩,oS ⟨#[41]⟩,oS ⟨#[123]⟩,oS ⟨#[125]⟩,oS ⟨#[60]⟩,oS ⟨#[62]⟩,oS ⟨#[124]⟩,oS ⟨#[38]⟩,oS ⟨#[33]⟩,oS ⟨#[61]⟩,oS ⟨#[58]⟩,oS ⟨#[46]⟩,oS ⟨#[44]⟩,oS ⟨#[63]⟩,oS ⟨#[42]⟩,oS ⟨#[43]⟩,oS ⟨#[45]⟩]),oA 0 1] [0] [] (.ret))
def tO:List aI:= [.tmp 0]
def Lu:List Nat:= []
theorem Le:aR Tryz.prog oJ Lu uu tO 2:=aA ay (by kernel_rfl)
-- r23_scan while id=0: live [0:s, 3:out, 4:i] changed [3, 4] res [83, 121, 147, 200]
-- r23_scan while id=0: live [0:s, 3:out, 4:i] changed [4] res [83, 121, 147, 200]
-- r23_scan while id=0: live [0:s, 3:out, 4:i, 5:j] changed [5] res [83, 121, 147, 200]
-- r23_scan while id=0: live [0:s, 3:out, 4:i, 5:j] changed [5] res [83, 121, 147, 200]
-- r23_scan while id=0: live [0:s, 3:out, 4:i, 5:j, 6:v, 7:closed] changed [5, 6, 7] res [83, 121, 147, 200]
-- r23_scan range i=40 n=39 c=41 i2=66 id=5: live [0:s, 3:out, 4:i, 5:j, 38:] changed [5] res [83, 121, 147, 200]
def xe:CC:=oX [oB 2 (.mv (.const on))] [0] [] (oX [oB 3 (.mv (.const on))] [0,3] [83,121,147,200] (oX [oB 4 (.mv (oN 0))] [0,3,4] [83,121,147,200] (.block 0 (.loop 1 (.block 1 (iB 3 (.block 2 (.loop 2 (.seq (oX [oA 10 4,oA 11 0,oB 12 (.slen (oT 11)),oB 13 (.cmp .lss (oT 10) (oT 12)),oA 14 13,oH 15 14 (.mv (oT 0)),oH 16 14 (.mv (oT 4)),oH 17 14 (.sidx (oT 15) (oT 16)),
 oH 18 14 (.eql false false [.int] (oT 17) (.const (.int .u8 32))),oH 19 14 (.mv (oT 18)),oI 20 19 (.mv (oT 0)),oI 21 19 (.mv (oT 4)),oI 22 19 (.sidx (oT 20) (oT 21)),oI 23 19 (.eql false false [.int] (oT 22) (.const (.int .u8 10))),oH 24 14 (.pick (oT 19) (.const (.bool true)) (oT 23)),oB 25 (.pick (oT 14) (oT 24) (.const ob))] [0,3,4,25] [83,121,147,200] (.ite (oT 25) (.skip) (.exit 2)))
 (.keep [0,3,4] [83,121,147,200] (.block 3 (.reg [oA 26 4,oB 27 (.arith .add (oT 26) (oN 1)),oA 4 27])))))) (.keep [0,3,4] [83,121,147,200] (.seq (oX [oA 28 4,oA 29 0,oB 30 (.slen (oT 29)),oB 31 (.eql false false [.int] (oT 28) (oT 30))] [0,3,4,31] [83,121,147,200] (.ite (oT 31) (oX [oA 32 3,oA 33 4,
 oB 34 (.build [.int .u8 0,oe,oi] [(0,1,.const (.int .u8 101)),(1,1,oS ⟨#[]⟩),(2,1,oT 33)]),oB 35 (.bslice aC 3 [oT 34]),oB 36 (.append (some 200) aC 3 32 (oT 32) (oT 35)),oA 2 36] [2] [36,74,83,121,147,192,200] (.ret)) (.skip))) (.keep [0,3,4] [83,121,147,200] (oX [oA 37 4,oA 5 37] [0,3,4,5] [83,121,147,200] (iB 10 (.block 4 (oX [oA 85 0,oA 86 4,
 oB 87 (.sidx (oT 85) (oT 86)),oZ 88 gO [oT 87],oA 84 88] [0,3,4,5,84] [83,121,147,200] (.ite (oT 84) (.seq (.block 7 (.loop 3 (.seq (oX [oA 89 5,oA 90 0,oB 91 (.slen (oT 90)),oB 92 (.cmp .lss (oT 89) (oT 91)),oA 93 92,oH 94 93 (.mv (oT 0)),oH 95 93 (.mv (oT 5)),oH 96 93 (.sidx (oT 94) (oT 95)),oH 97 93 (.call gO [oT 96]),oH 98 93 (.mv (oT 97)),
 oI 99 98 (.mv (oT 0)),oI 100 98 (.mv (oT 5)),oI 101 98 (.sidx (oT 99) (oT 100)),oI 102 98 (.call gA [oT 101]),oH 103 93 (.pick (oT 98) (.const (.bool true)) (oT 102)),oH 104 93 (.mv (oT 103)),oI 105 104 (.mv (oT 0)),oI 106 104 (.mv (oT 5)),oI 107 104 (.sidx (oT 105) (oT 106)),oI 108 104 (.eql false false [.int] (oT 107) (.const (.int .u8 45))),
 oH 109 93 (.pick (oT 104) (.const (.bool true)) (oT 108)),oB 110 (.pick (oT 93) (oT 109) (.const ob))] [0,3,4,5,110] [83,121,147,200] (.ite (oT 110) (.skip) (.exit 7))) (.keep [0,3,4,5] [83,121,147,200] (.block 8 (.reg [oA 111 5,oB 112 (.arith .add (oT 111) (oN 1)),oA 5 112])))))) (.keep [0,3,4,5] [83,121,147,200] (.reg [oA 113 3,oA 114 0,oA 115 4,oA 116 5,
 oB 117 (.sslice (oT 114) (some (oT 115)) (some (oT 116))),oA 118 4,oB 119 (.build [.int .u8 0,oe,oi] [(0,1,.const (.int .u8 110)),(1,1,oT 117),(2,1,oT 118)]),oB 120 (.bslice aC 3 [oT 119]),oB 121 (.append (some 200) aC 3 32 (oT 113) (oT 120)),oA 3 121]))) (oX [oA 123 0,oA 124 4,oB 125 (.sidx (oT 123) (oT 124)),oZ 126 gA [oT 125],
 oA 122 126] [0,3,4,5,122] [83,121,147,200] (.ite (oT 122) (.seq (.block 9 (.loop 4 (.seq (oX [oA 127 5,oA 128 0,oB 129 (.slen (oT 128)),oB 130 (.cmp .lss (oT 127) (oT 129)),oA 131 130,oH 132 131 (.mv (oT 0)),oH 133 131 (.mv (oT 5)),oH 134 131 (.sidx (oT 132) (oT 133)),oH 135 131 (.call gA [oT 134]),
 oB 136 (.pick (oT 131) (oT 135) (.const ob))] [0,3,4,5,136] [83,121,147,200] (.ite (oT 136) (.skip) (.exit 9))) (.keep [0,3,4,5] [83,121,147,200] (.block 10 (.reg [oA 137 5,oB 138 (.arith .add (oT 137) (oN 1)),oA 5 138])))))) (.keep [0,3,4,5] [83,121,147,200] (.reg [oA 139 3,oA 140 0,oA 141 4,oA 142 5,oB 143 (.sslice (oT 140) (some (oT 141)) (some (oT 142))),oA 144 4,
 oB 145 (.build [.int .u8 0,oe,oi] [(0,1,.const (.int .u8 100)),(1,1,oT 143),(2,1,oT 144)]),oB 146 (.bslice aC 3 [oT 145]),oB 147 (.append (some 200) aC 3 32 (oT 139) (oT 146)),oA 3 147]))) (oX [oA 149 0,oA 150 4,oB 151 (.sidx (oT 149) (oT 150)),oB 152 (.eql false false [.int] (oT 151) (.const (.int .u8 34))),
 oA 148 152] [0,3,4,5,148] [83,121,147,200] (.ite (oT 148) (oX [oB 6 (.mv (oS ⟨#[]⟩)),oB 7 (.mv (.const ob))] [0,3,4,6,7] [83,121,147,200] (.seq (oX [oA 153 4,oB 154 (.arith .add (oT 153) (oN 1)),oA 5 154] [0,3,4,5,6,7] [83,121,147,200] (.block 11 (.loop 5 (.seq (oX [oA 155 5,oA 156 0,oB 157 (.slen (oT 156)),
 oB 158 (.cmp .lss (oT 155) (oT 157))] [0,3,4,5,6,7,158] [83,121,147,200] (.ite (oT 158) (.skip) (.exit 11))) (.keep [0,3,4,5,6,7] [83,121,147,200] (.seq (.block 12 (.seq (oX [oA 161 0,oA 162 5,oB 163 (.sidx (oT 161) (oT 162)),oB 164 (.eql false false [.int] (oT 163) (.const (.int .u8 34)))] [0,3,4,5,6,7,164] [83,121,147,200] (.ite (oT 164) (oX [oA 165 5,oB 166 (.arith .add (oT 165) (oN 1)),
 oA 167 0,oB 168 (.slen (oT 167)),oB 169 (.cmp .lss (oT 166) (oT 168)),oA 170 169,oH 171 170 (.mv (oT 0)),oH 172 170 (.mv (oT 5)),oH 173 170 (.arith .add (oT 172) (oN 1)),oH 174 170 (.sidx (oT 171) (oT 173)),oH 175 170 (.eql false false [.int] (oT 174) (.const (.int .u8 34))),oB 176 (.pick (oT 170) (oT 175) (.const ob))] [0,3,4,5,6,7,176] [83,121,147,200] (.ite (oT 176) (.reg [oA 177 5,
 oB 178 (.arith .add (oT 177) (oN 1)),oA 5 178]) (oX [oB 7 (.mv (.const (.bool true)))] [0,3,4,5,6,7] [83,121,147,200] (.exit 11)))) (.skip))) (.keep [0,3,4,5,6,7] [83,121,147,200] (.reg [oA 179 6,oA 180 0,oA 181 5,oA 182 5,oB 183 (.arith .add (oT 182) (oN 1)),oB 184 (.sslice (oT 180) (some (oT 181)) (some (oT 183))),oB 185 (.scat (oT 179) (oT 184)),oA 6 185]))))
 (.keep [0,3,4,5,6,7] [83,121,147,200] (.reg [oA 159 5,oB 160 (.arith .add (oT 159) (oN 1)),oA 5 160])))))))) (.keep [0,3,4,5,6,7] [83,121,147,200] (.seq (oX [oA 186 7,oB 187 (.not (oT 186))] [0,3,4,5,6,187] [83,121,147,200] (.ite (oT 187) (oX [oA 188 3,oA 189 4,oB 190 (.build [.int .u8 0,oe,oi] [(0,1,.const (.int .u8 120)),(1,1,oS ⟨#[]⟩),(2,1,oT 189)]),
 oB 191 (.bslice aC 3 [oT 190]),oB 192 (.append (some 200) aC 3 32 (oT 188) (oT 191)),oA 2 192] [2] [36,74,83,121,147,192,200] (.ret)) (.skip))) (.keep [0,3,4,5,6] [83,121,147,200] (oX [oA 193 5,oB 194 (.arith .add (oT 193) (oN 1)),oA 5 194] [0,3,4,5,6] [83,121,147,200] (.reg [oA 195 3,oA 196 6,oA 197 4,
 oB 198 (.build [.int .u8 0,oe,oi] [(0,1,.const (.int .u8 115)),(1,1,oT 196),(2,1,oT 197)]),oB 199 (.bslice aC 3 [oT 198]),oB 200 (.append (some 200) aC 3 32 (oT 195) (oT 199)),oA 3 200]))))))) (.seq (oX [oZ 38 oJ [],oB 39 (.len (oT 38)),oB 40 (.mv (oN 0))] [0,3,4,5,38,39,40] [83,121,147,200] (bi 5 40 39 41 6 (oX [
 oB 42 (.iaddr 1 (oT 38) (oT 40)),oC 43 1 42,oA 9 43] [0,3,4,5,9,38,39,40] [83,121,147,200] (oX [oA 44 0,oB 45 (.slen (oT 44)),oA 46 4,oB 47 (.arith .sub (oT 45) (oT 46)),oA 48 9,oB 49 (.slen (oT 48)),oB 50 (.cmp .geq (oT 47) (oT 49)),oA 51 50,oH 52 51 (.mv (oT 0)),oH 53 51 (.mv (oT 4)),oH 54 51 (.mv (oT 4)),oH 55 51 (.mv (oT 9)),oH 56 51 (.slen (oT 55)),
 oH 57 51 (.arith .add (oT 54) (oT 56)),oH 58 51 (.sslice (oT 52) (some (oT 53)) (some (oT 57))),oH 59 51 (.mv (oT 9)),oH 60 51 (.eql false false [.str] (oT 58) (oT 59)),oB 61 (.pick (oT 51) (oT 60) (.const ob))] [0,3,4,5,9,38,39,40,61] [83,121,147,200] (.ite (oT 61) (oX [oA 62 4,oA 63 9,oB 64 (.slen (oT 63)),oB 65 (.arith .add (oT 62) (oT 64)),
 oA 5 65] [0,3,4,5] [83,121,147,200] (.exit 5)) (.skip)))) 66)) (.keep [0,3,4,5] [83,121,147,200] (.seq (oX [oA 67 5,oA 68 4,oB 69 (.eql false false [.int] (oT 67) (oT 68))] [0,3,4,5,69] [83,121,147,200] (.ite (oT 69) (oX [oA 70 3,oA 71 4,oB 72 (.build [.int .u8 0,oe,oi] [(0,1,.const (.int .u8 120)),(1,1,oS ⟨#[]⟩),(2,1,oT 71)]),oB 73 (.bslice aC 3 [oT 72]),
 oB 74 (.append (some 200) aC 3 32 (oT 70) (oT 73)),oA 2 74] [2] [36,74,83,121,147,192,200] (.ret)) (.skip))) (.keep [0,3,4,5] [83,121,147,200] (.reg [oA 75 3,oA 76 0,oA 77 4,oA 78 5,oB 79 (.sslice (oT 76) (some (oT 77)) (some (oT 78))),oA 80 4,oB 81 (.build [.int .u8 0,oe,oi] [(0,1,.const (.int .u8 111)),(1,1,oT 79),(2,1,oT 80)]),
 oB 82 (.bslice aC 3 [oT 81]),oB 83 (.append (some 200) aC 3 32 (oT 75) (oT 82)),oA 3 83])))))))))))) (.keep [0,3,5] [83,121,147,200] (.reg [oA 201 5,oA 4 201])))))))))))))
def vP:List aI:= [.tmp 2]
def Nt:List Nat:= [1036200,1074200,1083200,1121200,1147200,1192200,1200200]
theorem M7:aR Tryz.prog qD Nt xe vP 202:=aA ay (by kernel_rfl)
-- r23_parser_word while id=0: live [0:p, 1:l, 7:i] changed [7] res [0]
def lw:CC:=oX [oB 6 (.mv (oN 0))] [0,1,2] [0] (.seq (oX [oA 8 2,oA 7 8] [0,1,7] [0] (.block 0 (.loop 1 (.seq (oX [oA 9 7,oA 10 1,oB 11 (.len (oT 10)),oB 12 (.cmp .lss (oT 9) (oT 11))] [0,1,7,12] [0] (.ite (oT 12) (.skip) (.exit 0))) (.keep [0,1,7] [0] (.seq (.block 1 (oX [oA 15 0,oA 16 1,oA 17 7,oB 18 (.iaddr 1 (oT 16) (oT 17)),oC 19 1 18,
 oZ 20 bF [oT 15,.const (.int .u8 110),oT 19]] [0,1,7,20] [0] (.ite (oT 20) (oX [oA 21 7,oA 6 21] [6] [0] (.ret)) (.skip)))) (.keep [0,1,7] [0] (.reg [oA 13 7,oB 14 (.arith .add (oT 13) (oN 1)),oA 7 14])))))))) (.keep [] [0] (oX [oB 6 (.mv (oN (-1)))] [6] [0] (.ret))))
def kZ:List aI:= [.tmp 6]
def zD:List Nat:= []
theorem zi:aR Tryz.prog eH zD lw kZ 22:=aA ay (by kernel_rfl)
def qL:CC:=oX [oB 0 (.mv (.const on))] [] [] (oX [oB 1 (.bslice aF 1 [oS ⟨#[]⟩,oS ⟨#[119,105,116,104,105,110]⟩,oS ⟨#[99,111,110,116,97,105,110,105,110,103]⟩,oS ⟨#[111,118,101,114,108,97,112,112,105,110,103]⟩]),oA 0 1] [0] [] (.ret))
def qe:List aI:= [.tmp 0]
def G8:List Nat:= []
theorem Gx:aR Tryz.prog fl G8 qL qe 2:=aA ay (by kernel_rfl)
def mP:CC:=oX [oB 0 (.mv (.const on))] [] [] (oX [oB 1 (.bslice aF 1 [oS ⟨#[101,97,99,104]⟩,oS ⟨#[115,104,111,114,116,101,115,116]⟩,oS ⟨#[108,111,110,103,101,115,116]⟩,oS ⟨#[116,114,97,100,105,116,105,111,110,97,108]⟩]),oA 0 1] [0] [] (.ret))
def mh:List aI:= [.tmp 0]
def A7:List Nat:= []
theorem AM:aR Tryz.prog dy A7 mP mh 2:=aA ay (by kernel_rfl)
-- r23_Parse while id=0: live [2:, 5:p, 6:q] changed [] res [2, 6, 16, 55]
end Go.Gv

namespace Go.Gv
open Cod (enc dec)
variable {S S0:Nat→Spc}
theorem qaP {b:Nat} {post:Pst→Unit→Prop} {H:ab} (s:Pst) (h0:H 0=some (.box b (dF s))) (hq:post s ()):rT Tx b post (.tup []) H:=jY s () (.same _) h0 hq
@[simp] abbrev Rt (s:Pst) (z:Int×Int):Option (Pst×Unit):=some (vp s z.1 z.2,())
abbrev tM:Spc:=z3 (a2 Int Int) Tx Rt
theorem RK:gR ku j9 S (a2 Int Int) Tx Rt:=by
 rintro b s ⟨e,a⟩ -
 simp[ku,j9]
 refine⟨fun h=> qaP { s with e:=e,fail:=a } (by simp) ?_,fun h=> qaP s (by simp) ?_⟩
 ·simp[vp,h]
 ·simp[vp,h]
@[simp] abbrev Rp (s:Pst) (_:Unit):Option (Pst×Unit):=(j4 s).map fun x=> (x,())
abbrev sO:Spc:=z3 a0 Tx Rp
theorem RJ (h1:S am=ik) (h2:S bJ=tM):gR kt j8 S a0 Tx Rp:=by
 rintro b s ⟨⟩ ⟨r,hr⟩
 obtain⟨x,hx,rfl⟩:=Option.map_eq_some_iff.1 hr
 unfold j4 at hx
 obtain⟨t,ht,rfl⟩:=Option.map_eq_some_iff.1 hx
 simp[kt,j8,h1,h2,ht]
 exact qaP (vp s 3 t.pos) (by simp) (by simp[j4,ht])
@[simp] abbrev xu (s:Pst) (z:U8×B):Option (Pst×B):=bv s z.1.val z.2
abbrev gW:Spc:=z3 (a2 U8 B) (enc (X:=B)) xu
theorem TJ (h1:S am=ik) (h2:S bR=sO):gR fO fJ S (a2 U8 B) (enc (X:=B)) xu:=by
 rintro b s ⟨⟨k⟩,t⟩ ⟨r,hr⟩
 have hr0:=hr
 simp only[xu,bv] at hr
 obtain⟨x,hx,hr⟩:=Option.bind_eq_some_iff.1 hr
 have hrg:=Nc hx
 have e0: ∀s' y,xu s ⟨⟨k⟩,t⟩=some (s',y) ↔r=(s',y):=fun s' y=> by rw[hr0];exact⟨fun h=> Option.some.inj h,fun h=> by rw[h]⟩
 by_cases he:s.e=0
 ·rw[if_neg (by simp[he])] at hr
  by_cases hk:x.kind≠k∨k=111∧x.text≠t
  ·rw[if_pos hk] at hr
   have hw:j4 s=some (vp s 3 x.pos):=by rw[j4,hx];rfl
   simp[fO,fJ,h1,h2,he,Wl he,hx,hw,InR]
   clear h1 h2
   try intro b7
   have fin: ∀H:ab,H 0=some (.box b (dF (vp s 3 x.pos)))→rT enc b (fun s' y=> xu s ⟨⟨k⟩,t⟩=some (s',y)) (.v (.string ⟨#[]⟩)) H:=fun H h=> qaQ _ h ((e0 _ _).2 (Option.some.inj hr).symm)
   refine⟨fun a1=> ⟨fun a2=> ⟨fun _=> fin _ (by simp),fun a3=> ?_⟩,fun a2=> ?_⟩,fun _=> fin _ (by simp)⟩
   ·exact absurd hk (by rw[not_or];exact⟨fun h=> h a1,fun h=> h.2 a3⟩)
   ·exact absurd hk (by rw[not_or];exact⟨fun h=> h a1,fun h=> a2 h.1⟩)
  ·rw[if_neg hk] at hr
   rw[not_or] at hk
   have hk1:x.kind=k:=by simpa using hk.1
   have hk2:k=111→x.text=t:=fun h=> by have:=hk.2;simpa [h] using this
   simp[fO,fJ,h1,he,Wl he,hx,hk1,InR]
   clear h1 h2
   have fin: ∀H:ab,H 0=some (.box b (dF s.step))→rT enc b (fun s' y=> xu s ⟨⟨k⟩,t⟩=some (s',y)) (.v (.string x.text)) H:=fun H h=> qaQ _ h ((e0 _ _).2 (Option.some.inj hr).symm)
   try intro b7
   exact⟨fun a2=> ⟨fun a3=> absurd (hk2 a2) a3,fun _=> ⟨by omega,fin _ (by simp[Pst.step,he])⟩⟩,fun _=> ⟨by omega,fin _ (by simp[Pst.step,he])⟩⟩
 ·rw[if_pos he] at hr
  simp[fO,fJ,h1,he,hx]
  try intro _
  exact qaQ s (by simp) ((e0 _ _).2 (Option.some.inj hr).symm)
@[simp] abbrev DB (s:Pst) (z:Int×Int):Option (Pst×Int):=gg s z.1 z.2
abbrev nk:Spc:=z3 (a2 Int Int) (enc (X:=Int)) DB
theorem SY {c:UInt8} (h:48≤c.toNat∧c.toNat≤57) (n:Int):ej n c=P5 n c:=by
 unfold ej P5
 omega
theorem OL (h1:S af=gW) (h2:S bJ=tM):gR jr iV S (a2 Int Int) (enc (X:=Int)) DB:=by
 rintro b s ⟨lim,at_⟩ ⟨⟨s',n⟩,hr⟩
 have hr0:=hr
 simp only[DB,gg] at hr
 obtain⟨⟨s1,t⟩,hw,hr⟩:=Option.bind_eq_some_iff.1 hr
 simp only at hr
 split at hr
 ·rename_i hall
  cases hr
  have hdig: ∀ (k:Nat) (c:UInt8),t.data[k]?=some c→48≤c.toNat∧c.toNat≤57:=by
   intro k c hc
   unfold qH at hall
   rw[List.all_eq_true] at hall
   have:=hall c (by rw[←Array.getElem?_toList] at hc;exact cn hc)
   simpa using this
  have hrng: ∀l:List UInt8,(∀c∈l,48≤c.toNat∧c.toNat≤57)→ ∀n:Int,0≤n→n≤1000000→0≤l.foldl ej n∧l.foldl ej n≤1000000:=by
   intro l
   induction l with
   | nil=> intro _ n h0 h1;exact⟨h0,h1⟩
   | cons c l ih=>
     intro hc n h0 h1
     have:=hc c (by simp)
     exact ih (fun x hx=> hc x (by simp[hx])) _ (by unfold ej;omega) (by unfold ej;omega)
  have hw':bv s 100 ⟨#[]⟩=some (s1,t):=hw
  simp[jr,iV,h1,hw']
  refine cy (X:=Nat) [0,1,2,7] [0] (fun k=> k≤t.size) (fun k=> [(8,enc ((t.data.toList.take k).foldl ej 0)),(9,enc (k:Int))]) (fun _=> []) (fun k=> t.size -k) 0 (by omega) (by simp) (by simp) ?_
  rintro k hk
  have hm:=hrng (t.data.toList.take k) (fun c hc=> by
   obtain⟨j,hj,rfl⟩:=List.mem_iff_getElem.1 (List.mem_of_mem_take hc)
   exact hdig j _ (by rw[←Array.getElem?_toList];exact List.getElem?_eq_getElem hj)) 0 (by omega) (by omega)
  simp[h2]
  clear h1
  refine fun _=> ⟨fun hlt=> ⟨by simp only[InR];omega,hlt,fun c hc=> ?_⟩,fun hge=> ?_⟩
  ·have hcr:=hdig k c hc
   have hw:IntKind.i64.wrap ((c.toNat:Int) -48)=(c.toNat:Int) -48:=by
    exact InR.wrap (by simp only[InR];omega)
   rw[hw]
   have hn: (t.data.toList.take (k+1)).foldl ej 0=P5 ((t.data.toList.take k).foldl ej 0) c:=by
    rw[cC (a:=c) (by rw[Array.getElem?_toList];exact hc),List.foldl_append];exact SY hcr _
   refine⟨by simp only[InR];omega,by simp only[InR];omega,by simp only[InR];omega,k+1,by omega,⟨?_,by omega⟩,by omega⟩
   rw[hn];rfl
  ·have e:k=t.size:=by omega
   have hall2:t.data.toList.take k=t.data.toList:=List.take_of_length_le (by rw[e];exact Nat.le_refl _)
   rw[hall2]
   refine⟨fun h=> qaR (vp s1 8 at_) (by simp) ?_,fun h=> qaR s1 (by simp) ?_⟩
   ·exact hr0.trans (by rw[if_pos h])
   ·exact hr0.trans (by rw[if_neg (by omega)])
 ·cases hr
@[simp] abbrev Xj (s:Pst) (_:Unit):Option (Pst×Dy):=(Nd s).map fun x=> (s,x)
abbrev O9:Spc:=z3 a0 (enc (X:=Dy)) Xj
theorem TM:gR lA k9 S a0 (enc (X:=Dy)) Xj:=by
 rintro b s ⟨⟩ ⟨r,hr⟩
 obtain⟨x,hx,rfl⟩:=Option.map_eq_some_iff.1 hr
 have hx0:=hx
 unfold Nd at hx
 split at hx
 ·rename_i h0
  have hl:=QR hx
  obtain⟨_,hgx⟩:=List.getElem?_eq_some_iff.1 hx
  simp[lA,k9,InR]
  exact fun _=> ⟨by omega,fun _=> ⟨by omega,by omega,by omega,fun a ha=> jY s a (.same _) (by simp) ⟨by rw[hx0,←hx,ha],rfl⟩⟩⟩
 ·cases hx
@[simp] abbrev Xi (s:Pst) (_:Unit):Option (Pst×Bool):=(ub s).map fun x=> (s,DH x.text)
abbrev O6:Spc:=z3 a0 (enc (X:=Bool)) Xi
theorem TK (h1:S am=ik):gR lz k8 S a0 (enc (X:=Bool)) Xi:=by
 rintro b s ⟨⟩ ⟨r,hr⟩
 obtain⟨x,hx,rfl⟩:=Option.map_eq_some_iff.1 hr
 simp[lz,k8,h1,hx]
 refine⟨fun n1=> ⟨fun n2=> ⟨fun n3=> Dk s (by simp) ⟨rfl,by simp[DH,n1,n2,n3]⟩,fun n3=> Dk s (by simp) ⟨rfl,by simp[DH,n3]⟩⟩,fun n2=> Dk s (by simp) ⟨rfl,by simp[DH,n2]⟩⟩,fun n1=> Dk s (by simp) ⟨rfl,by simp[DH,n1]⟩⟩
@[simp] abbrev J5 (s:Pst) (_:Unit):Option (Pst×Bool):=(rP s).map fun x=> (s,x)
abbrev Cf:Spc:=z3 a0 (enc (X:=Bool)) J5
theorem OM (h1:S am=ik) (h2:S gk=O9) (h3:S gj=O6):gR eF eu S a0 (enc (X:=Bool)) J5:=by
 rintro b s ⟨⟩ ⟨r,hr⟩
 obtain⟨v,hv,rfl⟩:=Option.map_eq_some_iff.1 hr
 have hv0:=hv
 unfold rP at hv
 obtain⟨x,hx,hv⟩:=Option.bind_eq_some_iff.1 hv
 by_cases he:s.e=0
 ·rw[if_neg (by simp[he])] at hv
  by_cases hk:x.kind=110
  ·rw[if_pos hk] at hv
   obtain⟨n,hn,hv⟩:=Option.map_eq_some_iff.1 hv
   simp[eF,eu,h1,h2,h3,hx,he,Wl he,hk,hn]
   have d0: ∀h:s.deep≤0,decide (0 < s.deep)=false:=fun h=> decide_eq_false (by omega)
   have fin: ∀ (v':Bool) (H:ab),H 0=some (.box b (dF s))→v'=v→rT enc b (fun s' y=> rP s=some y∧s=s') (.v (.bool v')) H:=fun v' H h e=> Dk s h ⟨by rw[hv0,e],rfl⟩
   refine⟨fun a1=> ⟨fun a2=> fin _ _ (by simp[he]) ?_,fun a2=> ⟨fun a3=> fin _ _ (by simp[he]) ?_,fun a3=> fin _ _ (by simp[he]) ?_⟩⟩,fun a1=> ⟨fun a3=> fin _ _ (by simp[he]) ?_,fun a3=> fin _ _ (by simp[he]) ?_⟩⟩
   all_goals (rw[←hv];try rw[d0 a3])
   all_goals simp[*]
  ·rw[if_neg hk] at hv
   simp[eF,eu,h1,hx,he,Wl he,hk]
   clear h1 h2 h3
   repeat' first | apply And.intro | intro _
   all_goals refine Dk s (by simp[he]) ?_
   all_goals (refine⟨?_,rfl⟩;rw[hv0,←Option.some.inj hv];simp[*])
 ·rw[if_pos he] at hv
  simp[eF,eu,h1,hx,he]
  exact Dk s (by simp) ⟨by rw[hv0,←Option.some.inj hv],rfl⟩
end Go.Gv
