/- A part of the framework and of the walks: T23 C5 W50 W51 W53 W64 W65 W66 W67 W3 W30 C3 W38 V9 V10 V14 W79 W84 Asm5. -/
import Derived.Recover
import Derived.Tactics2
import Derived.Test.YtaiffcbkmgfklaaGreatDoorGu13
import Derived.Test.YtaiffcbkmgfklaaGreatDoorGu10
import Derived.Test.YtaiffcbkmgfklaaGreatDoorGu12
import Derived.Test.YtaiffcbkmgfklaaGreatDoorGu18
import Derived.Test.YtaiffcbkmgfklaaGreatDoorGu17
import Derived.Test.YtaiffcbkmgfklaaGreatDoorGu11
import Derived.Test.YtaiffcbkmgfklaaGreatDoorGu15
import Derived.Test.YtaiffcbkmgfklaaGreatDoorGu16
set_option linter.unusedSimpArgs false
set_option linter.unusedVariables false
set_option linter.unusedSectionVars false
set_option maxRecDepth 100000

namespace Go.Gv
open Cod (enc dec)
section
variable {Y Z:Type}
def qac:uH Pst:=yo dF
def qgo (A:ix Z) (er:Y→D) (pre:Pst→Z→Prop) (post:Pst→Z→Pst→Y→Prop):Spc:=qdG qac A er pre post
def qj1 (er:Y→D) (pre:Pst→Z→Prop) (post:Pst→Z→Pst→Y→Prop) (id b:Nat) (r:Option Res) (o:Option Z) (H:ab) (K:D→ab→Prop):Prop:=
 ∃x,r=some (.box b (dF x))∧gE o fun z=> pre x z∧ ∀x' y,post x z x' y→K (er y) (au H id (some (.box b (dF x'))))
theorem JZ {x y:Pst} (h:dF x=dF y):x=y:=by
 obtain⟨l,a,d,e,f⟩:=x
 obtain⟨l',a',d',e',f'⟩:=y
 simp only[dF,List.cons.injEq] at h
 obtain⟨h1,h2,h3,h4,h5,_⟩:=h
 have h1:=jP h1
 have h2:=jP h2
 have h3:=jP h3
 have h4:=jP h4
 have h5:=jP h5
 subst h1;subst h2;subst h3;subst h4;subst h5
 rfl
@[simp] theorem qab (A:ix Z) (er:Y→D) (pre:Pst→Z→Prop) (post:Pst→Z→Pst→Y→Prop) (d i b:Nat) (ds:List D) (H:ab) (K:D→ab→Prop): (qgo A er pre post).pt d (.bptr i b 0::ds) H K=qj1 er pre post i b (H i) (A.dec ds) H K:=by
 refine propext ⟨fun h=> ?_,fun h=> ?_⟩
 ·obtain⟨id,b',x,z,ds',h1,h2,h3,h4,h5,h6,h7⟩:=h
  cases h1
  refine⟨x,h3,?_⟩
  rw[h2]
  exact⟨h6,h7⟩
 ·obtain⟨x,h1,h2⟩:=h
  cases hz:A.dec ds with
  | none=> rw[hz] at h2;exact h2.elim
  | some z=> rw[hz] at h2;exact⟨i,b,x,z,ds,rfl,hz,h1,fun p hp=> by simp[qac,yo] at hp,by simp[qac,yo],h2.1,h2.2⟩
def rT (er:Y→D) (b:Nat) (post:Pst→Y→Prop) (r:D) (H:ab):Prop:=Xh qac er b post r H
theorem jY {er:Y→D} {b:Nat} {post:Pst→Y→Prop} {r:D} {H:ab} (x:Pst) (y:Y) (hr:FrzTo (fun i=> if i=0 then none else H i) r (er y)) (h0:H 0=some (.box b (dF x))) (hq:post x y):rT er b post r H:=
 ⟨x,y,by simpa [qac,yo] using hr,h0,fun p hp=> by simp[qac,yo] at hp,hq⟩
def zZ (cc:CC) (rs:List aI) (S:Nat→Spc) (A:ix Z) (er:Y→D) (pre:Pst→Z→Prop) (post:Pst→Z→Pst→Y→Prop):Prop:=
 ∀b x z,pre x z→vc S cc (uX rs fun r H'=> rT er b (post x z) r H') (d9 (.bptr 0 b 0::A.view z)) (au cF 0 (some (.box b (dF x))))
variable {P:Program} {S:Nat→Spc} {f:Nat} {im:List Nat} {cc:CC} {rs:List aI} {N:Nat}
theorem OU {A:ix Z} {er:Y→D} {pre:Pst→Z→Prop} {post:Pst→Z→Pst→Y→Prop} (hS: ∀f,Tri P f (S f).pt) (h:aR P f im cc rs N) (hN: ∀z,(A.view z).length+1≤N) (hw:zZ cc rs S A er pre post):Tri P f (qgo A er pre post).pt:=
 FF (by simp[qac,yo]) hS h hN fun b x z hp=> hw b x z hp
end
section
variable {Y Z:Type}
def z3 (A:ix Z) (er:Y→D) (F:Pst→Z→Option (Pst×Y)):Spc:=qgo A er (fun s z=> ∃r,F s z=some r) (fun s z s' y=> F s z=some (s',y))
def R9 (er:Y→D) (F:Pst→Z→Option (Pst×Y)) (id b:Nat) (r:Option Res) (o:Option Z) (H:ab) (K:D→ab→Prop):Prop:=
 ∃x,r=some (.box b (dF x))∧gE o fun z=> gE (F x z) fun q=> K (er q.2) (au H id (some (.box b (dF q.1))))
@[congr] theorem qep {er:Y→D} {F:Pst→Z→Option (Pst×Y)} {id b:Nat} {r r':Option Res} {o o':Option Z} {H:ab} {K:D→ab→Prop} (h1:r=r') (h2:o=o'):R9 er F id b r o H K=R9 er F id b r' o' H K:=by subst h1;subst h2;rfl
theorem qgr {F:Option (Pst×Y)} {k:Pst→Y→Prop} : ((∃r,F=some r)∧ ∀x' y,F=some (x',y)→k x' y)=gE F fun q=> k q.1 q.2:=by
 cases F with
 | none=>
   refine propext (Iff.intro (fun h=> ?_) (fun h=> ?_))
   ·obtain⟨⟨r,h⟩,_⟩:=h
    cases h
   ·exact False.elim h
 | some r=>
   refine propext (Iff.intro (fun h=> h.2 _ _ rfl) (fun h=> ⟨⟨_,rfl⟩,fun x' y e=> ?_⟩))
   cases e
   exact h
@[simp] theorem qaa (A:ix Z) (er:Y→D) (F:Pst→Z→Option (Pst×Y)) (d i b:Nat) (ds:List D) (H:ab) (K:D→ab→Prop): (z3 A er F).pt d (.bptr i b 0::ds) H K=R9 er F i b (H i) (A.dec ds) H K:=by
 unfold z3 R9
 rw[qab]
 unfold qj1
 refine propext (exists_congr fun x=> and_congr_right fun _=> ?_)
 cases A.dec ds with
 | none=> exact Iff.rfl
 | some z=> exact iff_of_eq qgr
@[simp] theorem qgn (er:Y→D) (F:Pst→Z→Option (Pst×Y)) (id b:Nat) (l:List Dy) (p dp e f:Int) (o:Option Z) (H:ab) (K:D→ab→Prop):
 R9 er F id b (some (.box b [.list 3 (l.map enc), .v (.int .i64 p), .v (.int .i64 dp), .v (.int .i64 e), .v (.int .i64 f)])) o H K=gE o fun z=> gE (F ⟨l,p,dp,e,f⟩ z) fun q=> K (er q.2) (au H id (some (.box b (dF q.1)))):=by
 refine propext ⟨fun⟨x,h1,h2⟩=> ?_,fun h=> ⟨⟨l,p,dp,e,f⟩,rfl,h⟩⟩
 have e1:dF ⟨l,p,dp,e,f⟩=dF x:=by
  have:=Option.some.inj h1
  exact(Res.box.inj this).2
 have:=JZ e1
 subst this
 exact h2
variable {P:Program} {S:Nat→Spc} {f:Nat} {im:List Nat} {cc:CC} {rs:List aI} {N:Nat}
theorem bj {A:ix Z} {er:Y→D} {F:Pst→Z→Option (Pst×Y)} (hS: ∀f,Tri P f (S f).pt) (h:aR P f im cc rs N) (hN: ∀z,(A.view z).length+1≤N)
 (hw:zZ cc rs S A er (fun s z=> ∃r,F s z=some r) (fun s z s' y=> F s z=some (s',y))):Tri P f (z3 A er F).pt:=OU hS h hN hw
end
end Go.Gv

namespace Go.Gv
open Go.Proofs
def mS:CC:=oX [oB 2 (.alloc aC [.int .u8 0,oe,oi])] [0,2] [0,2] (.seq (.regd [oA 3 0,oG 4 3,oE 5 0 4,oC 6 1 5,oA 7 0,oG 8 7,oE 9 1 8,oC 10 1 9] [oB 11 (.iaddr 3 (oT 6) (oT 10)),oD 12 3 11,.op none none (.store (some 2) 3 (oT 2) (oT 12))]) (.keep [2] [0,2] (.ret)))
def ml:List aI:= [.cell 2 true 3]
def Ba:List Nat:= [2002002]
theorem AP:aR Tryz.prog am Ba mS ml 13:=aA ay (by kernel_rfl)
def lA:CC:=oX [oB 2 (.alloc aC [.int .u8 0,oe,oi])] [0,2] [0,2] (.seq (.regd [oA 3 0,oG 4 3,oE 5 0 4,oC 6 1 5,oA 7 0,oG 8 7,oE 9 1 8,oC 10 1 9,oB 11 (.arith .add (oT 10) (oN 1)),oA 12 0,oG 13 12,oE 14 0 13,oC 15 1 14,oB 16 (.len (oT 15)),oB 17 (.arith .sub (oT 16) (oN 1)),oB 18 (.mm false [oT 11,oT 17])] [oB 19 (.iaddr 3 (oT 6) (oT 18)),
 oD 20 3 19,.op none none (.store (some 2) 3 (oT 2) (oT 20))]) (.keep [2] [0,2] (.ret)))
def k9:List aI:= [.cell 2 true 3]
def zH:List Nat:= [2002002]
theorem zl:aR Tryz.prog gk zH lA k9 21:=aA ay (by kernel_rfl)
def ku:CC:=oX [oA 6 0,oG 7 6,oE 8 3 7,oC 9 1 8,oB 10 (.eql false false [.int] (oT 9) (oN 0))] [0,1,2,10] [0] (.ite (oT 10) (.reg [oA 11 0,oA 12 0,oA 13 1,oA 14 2,oG 15 11,oE 16 3 15,oF 1 16 13,oG 17 12,oE 18 4 17,oF 1 18 14]) (.skip))
def j9:List aI:= []
def yb:List Nat:= []
theorem xP:aR Tryz.prog bJ yb ku j9 19:=aA ay (by kernel_rfl)
def kt:CC:= .reg [oA 2 0,oA 3 0,oZ 4 am [oT 3],oB 5 (.fld false 1 2 (oT 4)),oZ 6 bJ [oT 2,oN 3,oT 5]]
def j8:List aI:= []
def ya:List Nat:= []
theorem xO:aR Tryz.prog bR ya kt j8 7:=aA ay (by kernel_rfl)
def jQ:CC:=oX [oB 6 (.mv (.const ob))] [0,1,2] [0] (oX [oA 7 0,oG 8 7,oE 9 3 8,oC 10 1 9,oB 11 (.eql false false [.int] (oT 10) (oN 0)),oA 12 11,oH 13 12 (.mv (oT 0)),oH 14 12 (.call am [oT 13]),oH 15 12 (.fld false 1 0 (oT 14)),oH 16 12 (.mv (oT 1)),oH 17 12 (.eql false false [.int] (oT 15) (oT 16)),oB 18 (.pick (oT 12) (oT 17) (.const ob)),oA 19 18,
 oH 20 19 (.mv (oT 0)),oH 21 19 (.call am [oT 20]),oH 22 19 (.fld false 1 1 (oT 21)),oH 23 19 (.mv (oT 2)),oH 24 19 (.eql false false [.str] (oT 22) (oT 23)),oB 25 (.pick (oT 19) (oT 24) (.const ob)),oA 6 25] [6] [0] (.ret))
def jL:List aI:= [.tmp 6]
def CU:List Nat:= []
theorem Cw:aR Tryz.prog bF CU jQ jL 26:=aA ay (by kernel_rfl)
def mV:CC:=oX [oB 4 (.mv (.const ob))] [0,1] [0] (.seq (oX [oA 5 0,oA 6 1,oZ 7 bF [oT 5,.const (.int .u8 111),oT 6]] [0,7] [0] (.ite (oT 7) (oX [oA 8 0,oG 9 8,oE 10 1 9,oC 11 1 10,oB 12 (.arith .add (oT 11) (oN 1)),oG 13 8,oE 14 1 13,oF 1 14 12] [] [0] (oX [oB 4 (.mv (.const (.bool true)))] [4] [0] (.ret))) (.skip))) (.keep [] [0] (oX [
 oB 4 (.mv (.const ob))] [4] [0] (.ret))))
def mq:List aI:= [.tmp 4]
def Bd:List Nat:= []
theorem AS:aR Tryz.prog ah Bd mV mq 15:=aA ay (by kernel_rfl)
def fO:CC:=oX [oB 6 (.mv (oS ⟨#[]⟩))] [0,1,2] [0] (oX [oA 8 0,oZ 9 am [oT 8],oB 7 (.alloc aC [.int .u8 0,oe,oi]),oF 3 7 9] [0,1,2,7] [0,7] (.seq (oX [oA 10 0,oG 11 10,oE 12 3 11,oC 13 1 12,oB 14 (.eql true false [.int] (oT 13) (oN 0))] [0,1,2,7,14] [0,7] (.ite (oT 14) (oX [oB 6 (.mv (oS ⟨#[]⟩))] [6] [0] (.ret)) (.skip)))
 (.keep [0,1,2,7] [0,7] (.seq (oX [oE 15 0 7,oC 16 1 15,oA 17 1,oB 18 (.eql true false [.int] (oT 16) (oT 17)),oA 19 18,oI 20 19 (.mv (oT 1)),oI 21 19 (.eql false false [.int] (oT 20) (.const (.int .u8 111))),oI 22 19 (.mv (oT 21)),oH 23 22 (.faddr 1 (oT 7)),oH 24 22 (.load false 1 (oT 23)),oH 25 22 (.mv (oT 2)),oH 26 22 (.eql true false [.str] (oT 24) (oT 25)),
 oI 27 19 (.pick (oT 22) (oT 26) (.const ob)),oB 28 (.pick (oT 19) (.const (.bool true)) (oT 27))] [0,7,28] [0,7] (.ite (oT 28) (oX [oA 29 0,oZ 30 bR [oT 29]] [] [0] (oX [oB 6 (.mv (oS ⟨#[]⟩))] [6] [0] (.ret))) (.skip))) (.keep [0,7] [0,7] (oX [oA 31 0,oG 32 31,oE 33 1 32,oC 34 1 33,oB 35 (.arith .add (oT 34) (oN 1)),oG 36 31,oE 37 1 36,oF 1 37 35] [7] [0,7] (oX [
 oE 38 1 7,oC 39 1 38,oA 6 39] [6] [0] (.ret))))))))
def fJ:List aI:= [.tmp 6]
def zE:List Nat:= []
theorem zj:aR Tryz.prog af zE fO fJ 40:=aA ay (by kernel_rfl)
-- r23_parser_number while id=0: live [0:p, 1:limit, 2:at, 7:s, 8:n, 9:i] changed [8, 9] res [0]
def jr:CC:=oX [oB 6 (.mv (oN 0))] [0,1,2] [0] (oX [oA 10 0,oZ 11 af [oT 10,.const (.int .u8 100),oS ⟨#[]⟩],oA 7 11] [0,1,2,7] [0] (oX [oB 8 (.mv (oN 0))] [0,1,2,7,8] [0] (.seq (oX [oB 9 (.mv (oN 0))] [0,1,2,7,8,9] [0] (.block 0 (.loop 1 (.seq (oX [oA 12 9,oA 13 7,oB 14 (.slen (oT 13)),
 oB 15 (.cmp .lss (oT 12) (oT 14))] [0,1,2,7,8,9,15] [0] (.ite (oT 15) (.skip) (.exit 0))) (.keep [0,1,2,7,8,9] [0] (.seq (.block 1 (.reg [oA 18 8,oB 19 (.arith .mul (oN 10) (oT 18)),oA 20 7,oA 21 9,oB 22 (.sidx (oT 20) (oT 21)),oB 23 (.arith .sub (oT 22) (.const (.int .u8 48))),oB 24 (.conv .i64 (oT 23)),oB 25 (.arith .add (oT 19) (oT 24)),oB 26 (.mm false [oT 25,oN 1000000]),oA 8 26]))
 (.keep [0,1,2,7,8,9] [0] (.reg [oA 16 9,oB 17 (.arith .add (oT 16) (oN 1)),oA 9 17])))))))) (.keep [0,1,2,8] [0] (.seq (oX [oA 27 8,oA 28 1,oB 29 (.cmp .gtr (oT 27) (oT 28))] [0,2,8,29] [0] (.ite (oT 29) (.reg [oA 30 0,oA 31 2,oZ 32 bJ [oT 30,oN 8,oT 31]]) (.skip))) (.keep [8] [0] (oX [oA 33 8,oA 6 33] [6] [0] (.ret))))))))
def iV:List aI:= [.tmp 6]
def wC:List Nat:= []
theorem v7:aR Tryz.prog bb wC jr iV 34:=aA ay (by kernel_rfl)
def lE:CC:=oX [oB 2 (.mv (.const ob))] [0] [0] (oX [oA 3 0,oZ 4 ah [oT 3,oS ⟨#[37,99]⟩],oA 2 4] [2] [0] (.ret))
def lf:List aI:= [.tmp 2]
def zL:List Nat:= []
theorem zp:aR Tryz.prog bG zL lE lf 5:=aA ay (by kernel_rfl)
-- r23_parser_alt while id=0: live [0:p, 2:, 3:l] changed [3] res [0, 2, 6, 13]
def mX:CC:=oX [oB 2 (.alloc ag [oi,oi,oe,oe,oe,oe,ob,on,oe,oe,oi,oi,on])] [0,2] [0,2,6,13] (oX [oA 4 0,oZ 5 fA [oT 4],oB 6 (.mslice ag 13 [oT 5]),oA 3 6] [0,2,3] [0,2,6,13] (.seq (.block 0 (.loop 1 (.seq (oX [oA 7 0,oZ 8 ah [oT 7,oS ⟨#[124]⟩]] [0,2,3,8] [0,2,6,13] (.ite (oT 8) (.skip) (.exit 0)))
 (.keep [0,2,3] [0,2,6,13] (.block 1 (.reg [oA 9 3,oA 10 0,oZ 11 fA [oT 10],oB 12 (.bslice ag 13 [oT 11]),oB 13 (.append (some 6) ag 13 184 (oT 9) (oT 12)),oA 3 13])))))) (.keep [2,3] [0,2,6,13] (.seq (oX [oA 14 3,oB 15 (.len (oT 14)),oB 16 (.eql false false [.int] (oT 15) (oN 1))] [2,3,16] [0,2,6,13] (.ite (oT 16) (oX [oA 17 3,
 oB 18 (.iaddr 13 (oT 17) (oN 0)),oD 19 13 18,oF 13 2 19] [2] [0,2,6,13] (.ret)) (.skip))) (.keep [2,3] [0,2,6,13] (oX [oA 20 3,oB 21 (.build [oi,oi,oe,oe,oe,oe,ob,on,oe,oe,oi,oi,on] [(0,1,oN 5),(12,1,oT 20)]),oF 13 2 21] [2] [0,2,6,13] (.ret)))))))
def ms:List aI:= [.cell 2 true 13]
def Bf:List Nat:= [100006,1013006]
theorem AU:aR Tryz.prog dA Bf mX ms 22:=aA ay (by kernel_rfl)
def eF:CC:=oX [oB 2 (.mv (.const ob))] [0] [0] (oX [oA 5 0,oZ 6 am [oT 5],oB 3 (.alloc aC [.int .u8 0,oe,oi]),oF 3 3 6] [0,3] [0,3] (.seq (oX [oA 7 0,oG 8 7,oE 9 3 8,oC 10 1 9,oB 11 (.eql true false [.int] (oT 10) (oN 0))] [0,3,11] [0,3] (.ite (oT 11) (oX [oB 2 (.mv (.const ob))] [2] [0] (.ret)) (.skip)))
 (.keep [0,3] [0,3] (.seq (oX [oE 12 0 3,oC 13 1 12,oB 14 (.eql false false [.int] (oT 13) (.const (.int .u8 110)))] [0,3,14] [0,3] (.ite (oT 14) (oX [oA 15 0,oZ 16 gk [oT 15],oB 4 (.alloc aC [.int .u8 0,oe,oi]),oF 3 4 16] [0,4] [0,4] (.seq (oX [oE 17 0 4,oC 18 1 17,oB 19 (.eql false false [.int] (oT 18) (.const (.int .u8 111))),oA 20 19,
 oH 21 20 (.faddr 1 (oT 4)),oH 22 20 (.load false 1 (oT 21)),oH 23 20 (.eql false false [.str] (oT 22) (oS ⟨#[58]⟩)),oB 24 (.pick (oT 20) (oT 23) (.const ob))] [0,24] [0] (.ite (oT 24) (oX [oB 2 (.mv (.const (.bool true)))] [2] [0] (.ret)) (.skip))) (.keep [0] [0] (oX [oA 25 0,oG 26 25,oE 27 2 26,oC 28 1 27,oB 29 (.cmp .gtr (oT 28) (oN 0)),oA 30 29,oI 31 30 (.mv (oT 0)),
 oI 32 30 (.call gj [oT 31]),oI 33 30 (.not (oT 32)),oB 34 (.pick (oT 30) (.const (.bool true)) (oT 33)),oA 2 34] [2] [0] (.ret))))) (.skip))) (.keep [3] [0,3] (oX [oE 35 0 3,oC 36 1 35,oB 37 (.eql false false [.int] (oT 36) (.const (.int .u8 115))),oA 38 37,oI 39 38 (.faddr 0 (oT 3)),oI 40 38 (.load false 1 (oT 39)),
 oI 41 38 (.eql false false [.int] (oT 40) (.const (.int .u8 111))),oI 42 38 (.mv (oT 41)),oH 43 42 (.faddr 1 (oT 3)),oH 44 42 (.load false 1 (oT 43)),oH 45 42 (.eql false false [.str] (oT 44) (oS ⟨#[91]⟩)),oH 46 42 (.mv (oT 45)),oI 47 46 (.faddr 1 (oT 3)),oI 48 46 (.load false 1 (oT 47)),oI 49 46 (.eql false false [.str] (oT 48) (oS ⟨#[60]⟩)),
 oH 50 42 (.pick (oT 46) (.const (.bool true)) (oT 49)),oH 51 42 (.mv (oT 50)),oI 52 51 (.faddr 1 (oT 3)),oI 53 51 (.load false 1 (oT 52)),oI 54 51 (.eql false false [.str] (oT 53) (oS ⟨#[60,47]⟩)),oH 55 42 (.pick (oT 51) (.const (.bool true)) (oT 54)),oH 56 42 (.mv (oT 55)),oI 57 56 (.faddr 1 (oT 3)),oI 58 56 (.load false 1 (oT 57)),
 oI 59 56 (.eql false false [.str] (oT 58) (oS ⟨#[40]⟩)),oH 60 42 (.pick (oT 56) (.const (.bool true)) (oT 59)),oI 61 38 (.pick (oT 42) (oT 60) (.const ob)),oB 62 (.pick (oT 38) (.const (.bool true)) (oT 61)),oA 2 62] [2] [0] (.ret)))))))
def eu:List aI:= [.tmp 2]
def wD:List Nat:= []
theorem v8:aR Tryz.prog eU wD eF eu 63:=aA ay (by kernel_rfl)
def lz:CC:=oX [oB 2 (.mv (.const ob))] [0] [0] (oX [oA 4 0,oZ 5 am [oT 4],oB 6 (.fld false 1 1 (oT 5)),oA 3 6] [3] [0] (oX [oA 7 3,oB 8 (.eql false false [.str] (oT 7) (oS ⟨#[115,116,114,97,116,101,103,121]⟩)),oA 9 8,oI 10 9 (.mv (oT 3)),oI 11 9 (.eql false false [.str] (oT 10) (oS ⟨#[119,105,116,104,105,110]⟩)),
 oB 12 (.pick (oT 9) (.const (.bool true)) (oT 11)),oA 13 12,oI 14 13 (.mv (oT 3)),oI 15 13 (.eql false false [.str] (oT 14) (oS ⟨#[99,111,110,116,97,105,110,105,110,103]⟩)),oB 16 (.pick (oT 13) (.const (.bool true)) (oT 15)),oA 17 16,oI 18 17 (.mv (oT 3)),oI 19 17 (.eql false false [.str] (oT 18) (oS ⟨#[111,118,101,114,108,97,112,112,105,110,103]⟩)),
 oB 20 (.pick (oT 17) (.const (.bool true)) (oT 19)),oA 2 20] [2] [0] (.ret)))
def k8:List aI:= [.tmp 2]
def zG:List Nat:= []
theorem zk:aR Tryz.prog gj zG lz k8 21:=aA ay (by kernel_rfl)
-- r23_parser_seq while id=0: live [0:p, 2:, 3:l] changed [3] res [0, 2, 6, 13]
def mQ:CC:=oX [oB 2 (.alloc ag [oi,oi,oe,oe,oe,oe,ob,on,oe,oe,oi,oi,on])] [0,2] [0,2,6,13] (oX [oA 4 0,oZ 5 fB [oT 4],oB 6 (.mslice ag 13 [oT 5]),oA 3 6] [0,2,3] [0,2,6,13] (.seq (.block 0 (.loop 1 (.seq (oX [oA 7 0,oZ 8 eU [oT 7]] [0,2,3,8] [0,2,6,13] (.ite (oT 8) (.skip) (.exit 0)))
 (.keep [0,2,3] [0,2,6,13] (.block 1 (.reg [oA 9 3,oA 10 0,oZ 11 fB [oT 10],oB 12 (.bslice ag 13 [oT 11]),oB 13 (.append (some 6) ag 13 184 (oT 9) (oT 12)),oA 3 13])))))) (.keep [2,3] [0,2,6,13] (.seq (oX [oA 14 3,oB 15 (.len (oT 14)),oB 16 (.eql false false [.int] (oT 15) (oN 1))] [2,3,16] [0,2,6,13] (.ite (oT 16) (oX [oA 17 3,
 oB 18 (.iaddr 13 (oT 17) (oN 0)),oD 19 13 18,oF 13 2 19] [2] [0,2,6,13] (.ret)) (.skip))) (.keep [2,3] [0,2,6,13] (oX [oA 20 3,oB 21 (.build [oi,oi,oe,oe,oe,oe,ob,on,oe,oe,oi,oi,on] [(0,1,oN 4),(12,1,oT 20)]),oF 13 2 21] [2] [0,2,6,13] (.ret)))))))
def mi:List aI:= [.cell 2 true 13]
def A8:List Nat:= [100006,1013006]
theorem AN:aR Tryz.prog fA A8 mQ mi 22:=aA ay (by kernel_rfl)
-- r23_parser_rep while id=0: live [0:p, 2:, 3:x] changed [] res [0, 2, 3]
def mR:CC:=oX [oB 2 (.alloc ag [oi,oi,oe,oe,oe,oe,ob,on,oe,oe,oi,oi,on])] [0,2] [0,2] (oX [oA 7 0,oZ 8 gl [oT 7],oB 3 (.alloc ag [oi,oi,oe,oe,oe,oe,ob,on,oe,oe,oi,oi,on]),oF 13 3 8] [0,2,3] [0,2,3] (.seq (.block 0 (.loop 1 (.seq (oX [oA 9 0,oG 10 9,oE 11 3 10,oC 12 1 11,
 oB 13 (.eql false false [.int] (oT 12) (oN 0))] [0,2,3,13] [0,2,3] (.ite (oT 13) (.skip) (.exit 0))) (.keep [0,2,3] [0,2,3] (.block 1 (oX [oA 14 0,oZ 15 am [oT 14],oB 16 (.fld false 1 2 (oT 15)),oA 4 16] [0,2,3,4] [0,2,3] (oX [oB 5 (.mv (oN 0)),oB 6 (.mv (oN (-1)))] [0,2,3,4,5,6] [0,2,3] (.seq (.block 2 (oX [oA 19 0,oZ 20 ah [oT 19,oS ⟨#[63]⟩],
 oA 18 20] [0,2,3,4,5,6,18] [0,2,3] (.ite (oT 18) (.reg [oB 6 (.mv (oN 1))]) (oX [oA 22 0,oZ 23 ah [oT 22,oS ⟨#[42]⟩],oA 21 23] [0,2,3,4,5,6,21] [0,2,3] (.ite (oT 21) (.skip) (oX [oA 25 0,oZ 26 ah [oT 25,oS ⟨#[43]⟩],oA 24 26] [0,2,3,4,6,24] [0,2,3] (.ite (oT 24) (.reg [oB 5 (.mv (oN 1))]) (oX [oA 28 0,oZ 29 ah [oT 28,oS ⟨#[123]⟩],
 oA 27 29] [0,2,3,4,27] [0,2,3] (.ite (oT 27) (oX [oA 30 0,oA 31 4,oZ 32 bb [oT 30,oN 16,oT 31],oA 5 32] [0,2,3,4,5] [0,2,3] (oX [oA 33 5,oA 6 33] [0,2,3,4,5,6] [0,2,3] (.seq (oX [oA 34 0,oZ 35 ah [oT 34,oS ⟨#[44]⟩]] [0,2,3,4,5,6,35] [0,2,3] (.ite (oT 35) (oX [oB 6 (.mv (oN (-1)))] [0,2,3,4,5,6] [0,2,3] (oX [oA 36 0,oG 37 36,oE 38 3 37,oC 39 1 38,
 oB 40 (.eql false false [.int] (oT 39) (oN 0)),oA 41 40,oH 42 41 (.mv (oT 0)),oH 43 41 (.call am [oT 42]),oH 44 41 (.fld false 1 0 (oT 43)),oH 45 41 (.eql false false [.int] (oT 44) (.const (.int .u8 100))),oB 46 (.pick (oT 41) (oT 45) (.const ob))] [0,2,3,4,5,6,46] [0,2,3] (.ite (oT 46) (oX [oA 47 0,oA 48 4,oZ 49 bb [oT 47,oN 16,oT 48],
 oA 6 49] [0,2,3,4,5,6] [0,2,3] (oX [oA 50 6,oA 51 5,oB 52 (.cmp .lss (oT 50) (oT 51))] [0,2,3,4,5,6,52] [0,2,3] (.ite (oT 52) (.reg [oA 53 0,oA 54 4,oZ 55 bJ [oT 53,oN 8,oT 54]]) (.skip)))) (.skip)))) (.skip))) (.keep [0,2,3,5,6] [0,2,3] (.reg [oA 56 0,oZ 57 af [oT 56,.const (.int .u8 111),oS ⟨#[125]⟩]]))))) (oX [oD 17 13 3,
 oF 13 2 17] [2] [0,2] (.ret))))))))))) (.keep [0,2,3,5,6] [0,2,3] (.reg [oA 58 5,oA 59 6,oD 60 13 3,oB 61 (.bslice ag 13 [oT 60]),oB 62 (.build [oi,oi,oe,oe,oe,oe,ob,on,oe,oe,oi,oi,on] [(0,1,oN 6),(10,1,oT 58),(11,1,oT 59),(12,1,oT 61)]),oF 13 3 62])))))))))) (.keep [2,3] [0,2,3] (oX [oD 63 13 3,oF 13 2 63] [2] [0,2] (.ret)))))
def mj:List aI:= [.cell 2 true 13]
def A9:List Nat:= []
theorem AO:aR Tryz.prog fB A9 mR mj 64:=aA ay (by kernel_rfl)
def lB:CC:=oX [oB 2 (.alloc ag [oi,oi,oe,oe,oe,oe,ob,on,oe,oe,oi,oi,on])] [0,2] [0,2] (.seq (.block 0 (oX [oA 8 0,oZ 9 ah [oT 8,oS ⟨#[40]⟩],oA 7 9] [0,2,7] [0,2] (.ite (oT 7) (oX [oA 10 0,oG 11 10,oE 12 2 11,oC 13 1 12,oB 14 (.arith .add (oT 13) (oN 1)),oG 15 10,oE 16 2 15,oF 1 16 14] [0,2] [0,2] (oX [oA 17 0,oZ 18 dA [oT 17],
 oB 3 (.alloc ag [oi,oi,oe,oe,oe,oe,ob,on,oe,oe,oi,oi,on]),oF 13 3 18] [0,2,3] [0,2,3] (oX [oA 19 0,oG 20 19,oE 21 2 20,oC 22 1 21,oB 23 (.arith .sub (oT 22) (oN 1)),oG 24 19,oE 25 2 24,oF 1 25 23] [0,2,3] [0,2,3] (oX [oA 26 0,oZ 27 af [oT 26,.const (.int .u8 111),oS ⟨#[41]⟩]] [2,3] [0,2,3] (oX [oD 28 13 3,oF 13 2 28] [2] [0,2] (.ret)))))) (oX [oA 30 0,
 oZ 31 ah [oT 30,oS ⟨#[60]⟩],oA 29 31] [0,2,29] [0,2] (.ite (oT 29) (oX [oA 32 0,oZ 33 af [oT 32,.const (.int .u8 110),oS ⟨#[]⟩],oB 34 (.build [oi,oi,oe,oe,oe,oe,ob,on,oe,oe,oi,oi,on] [(0,1,oN 2),(9,1,oT 33)]),oB 4 (.alloc ag [oi,oi,oe,oe,oe,oe,ob,on,oe,oe,oi,oi,on]),oF 13 4 34] [0,2,4] [0,2,4] (oX [oA 35 0,
 oZ 36 af [oT 35,.const (.int .u8 111),oS ⟨#[62]⟩]] [2,4] [0,2,4] (oX [oD 37 13 4,oF 13 2 37] [2] [0,2] (.ret)))) (oX [oA 39 0,oZ 40 ah [oT 39,oS ⟨#[60,47]⟩],oA 38 40] [0,2,38] [0,2] (.ite (oT 38) (oX [oA 41 0,oZ 42 af [oT 41,.const (.int .u8 110),oS ⟨#[]⟩],oB 43 (.build [oi,oi,oe,oe,oe,oe,ob,on,oe,oe,oi,oi,on] [(0,1,oN 3),(9,1,oT 42)]),
 oB 5 (.alloc ag [oi,oi,oe,oe,oe,oe,ob,on,oe,oe,oi,oi,on]),oF 13 5 43] [0,2,5] [0,2,5] (oX [oA 44 0,oZ 45 af [oT 44,.const (.int .u8 111),oS ⟨#[62]⟩]] [2,5] [0,2,5] (oX [oD 46 13 5,oF 13 2 46] [2] [0,2] (.ret)))) (.skip)))))))) (.keep [0,2] [0,2] (oX [oB 47 (.build [oi,oi,oe,oe,oe,oe,ob,on,oe,oe,oi,oi,on] [(0,1,oN 1)]),
 oB 6 (.alloc ag [oi,oi,oe,oe,oe,oe,ob,on,oe,oe,oi,oi,on]),oF 13 6 47] [0,2,6] [0,2,6] (.seq (oX [oA 48 0,oG 49 48,oE 50 3 49,oC 51 1 50,oB 52 (.eql false false [.int] (oT 51) (oN 0)),oA 53 52,oH 54 53 (.mv (oT 0)),oH 55 53 (.call am [oT 54]),oH 56 53 (.fld false 1 0 (oT 55)),oH 57 53 (.eql false false [.int] (oT 56) (.const (.int .u8 110))),
 oB 58 (.pick (oT 53) (oT 57) (.const ob))] [0,2,6,58] [0,2,6] (.ite (oT 58) (oX [oA 59 0,oZ 60 af [oT 59,.const (.int .u8 110),oS ⟨#[]⟩],oE 61 8 6,oF 1 61 60] [0,2,6] [0,2,6] (.reg [oA 62 0,oZ 63 af [oT 62,.const (.int .u8 111),oS ⟨#[58]⟩]])) (.skip))) (.keep [0,2,6] [0,2,6] (.seq (oX [oA 64 0,oG 65 64,oE 66 3 65,oC 67 1 66,
 oB 68 (.eql false false [.int] (oT 67) (oN 0)),oA 69 68,oH 70 69 (.mv (oT 0)),oH 71 69 (.call am [oT 70]),oH 72 69 (.fld false 1 0 (oT 71)),oH 73 69 (.eql false false [.int] (oT 72) (.const (.int .u8 115))),oB 74 (.pick (oT 69) (oT 73) (.const ob))] [0,2,6,74] [0,2,6] (.ite (oT 74) (oX [oA 75 0,oZ 76 af [oT 75,.const (.int .u8 115),oS ⟨#[]⟩],
 oB 77 (.build [oi,oe,oe,oe,oe,ob,on] [(0,1,oN 2),(3,1,oT 76)]),oE 78 1 6,oF 7 78 77] [0,2,6] [0,2,6] (oX [oA 79 0,oZ 80 bG [oT 79],oE 81 1 6,oE 82 5 81,oF 1 82 80] [2,6] [0,2,6] (oX [oD 83 13 6,oF 13 2 83] [2] [0,2] (.ret)))) (.skip))) (.keep [0,2,6] [0,2,6] (oX [oA 84 0,oZ 85 af [oT 84,.const (.int .u8 111),oS ⟨#[91]⟩]] [0,2,6] [0,2,6] (.seq (oX [
 oA 86 0,oZ 87 ah [oT 86,oS ⟨#[93]⟩]] [0,2,6,87] [0,2,6] (.ite (oT 87) (oX [oB 88 (.build [oi,oe,oe,oe,oe,ob,on] [(0,1,oN 1)]),oE 89 1 6,oF 7 89 88] [2,6] [0,2,6] (oX [oD 90 13 6,oF 13 2 90] [2] [0,2] (.ret))) (.skip))) (.keep [0,2,6] [0,2,6] (oX [oA 91 0,oZ 92 d5 [oT 91],oE 93 1 6,oF 7 93 92] [0,2,6] [0,2,6] (oX [oA 94 0,
 oZ 95 af [oT 94,.const (.int .u8 111),oS ⟨#[93]⟩]] [2,6] [0,2,6] (oX [oD 96 13 6,oF 13 2 96] [2] [0,2] (.ret))))))))))))))
def la:List aI:= [.cell 2 true 13]
def zI:List Nat:= []
theorem zm:aR Tryz.prog gl zI lB la 97:=aA ay (by kernel_rfl)
end Go.Gv

namespace Go.Gv
open Cod (enc dec)
variable {S S0:Nat→Spc}
@[simp] abbrev Rq (s:Pst) (_:Unit):Option (Pst×Dy):=(ub s).map fun x=> (s,x)
abbrev ik:Spc:=z3 a0 (enc (X:=Dy)) Rq
theorem qcd:zZ mS ml S a0 (enc (X:=Dy)) (fun s z=> ∃r,Rq s z=some r) (fun s z s' y=> Rq s z=some (s',y)):=by
 rintro b s ⟨⟩ ⟨r,hr⟩
 simp only[Rq,ub,Option.map_eq_some_iff] at hr
 obtain⟨x,hx,rfl⟩:=hr
 split at hx
 ·rename_i h0
  obtain⟨h0,hb⟩:=h0
  have hl:=QR hx
  obtain⟨_,hgx⟩:=List.getElem?_eq_some_iff.1 hx
  simp[mS,ml,hx]
  exact fun _=> ⟨h0,by omega,jY s x (.same _) (by simp) ⟨by rw[ub,if_pos ⟨h0,hb⟩,hx],rfl⟩⟩
 ·cases hx
theorem Wl {s:Pst} (h:s.e=0):Pst.mk s.l s.pos s.deep 0 s.fail=s:=by rw[←h]
theorem Dk {b:Nat} {post:Pst→Bool→Prop} {v:Bool} {H:ab} (s:Pst) (h0:H 0=some (.box b (dF s))) (hq:post s v):rT enc b post (.v (.bool v)) H:=jY s v (.same _) h0 hq
theorem qaR {b:Nat} {post:Pst→Int→Prop} {v:Int} {H:ab} (s:Pst) (h0:H 0=some (.box b (dF s))) (hq:post s v):rT enc b post (.v (.int .i64 v)) H:=jY s v (.same _) h0 hq
theorem qaQ {b:Nat} {post:Pst→B→Prop} {v:B} {H:ab} (s:Pst) (h0:H 0=some (.box b (dF s))) (hq:post s v):rT enc b post (.v (.string v)) H:=jY s v (.same _) h0 hq
@[simp] abbrev Zg (s:Pst) (z:U8×B):Option (Pst×Bool):=(DV s z.1.val z.2).map fun x=> (s,x)
abbrev KR:Spc:=z3 (a2 U8 B) (enc (X:=Bool)) Zg
theorem qf5 (h1:S am=ik):zZ jQ jL S (a2 U8 B) (enc (X:=Bool)) (fun s z=> ∃r,Zg s z=some r) (fun s z s' y=> Zg s z=some (s',y)):=by
 rintro b s ⟨⟨k⟩,t⟩ ⟨r,hr⟩
 simp only[Zg,DV,Option.map_eq_some_iff] at hr
 obtain⟨v,hr,rfl⟩:=hr
 split at hr
 ·rename_i he
  simp[jQ,jL,h1,he]
  exact Dk s (by simp) ⟨by rw[DV,if_pos he],rfl⟩
 ·rename_i he
  have he:s.e=0:=by simpa using he
  obtain⟨x,hx,rfl⟩:=Option.map_eq_some_iff.1 hr
  have hF:DV s k t=some (decide (x.kind=k∧x.text=t)):=by rw[DV,if_neg (by simp[he]),hx];rfl
  simp[jQ,jL,h1,he,Wl he,hx]
  refine⟨fun hk=> Dk s (by simp[he]) ⟨by rw[hF];simp[hk],rfl⟩,fun hk=> Dk s (by simp[he]) ⟨by rw[hF];simp[hk],rfl⟩⟩
@[simp] abbrev J8 (s:Pst) (t:B):Option (Pst×Bool):=fT s t
abbrev gK:Spc:=z3 (a1 B) (enc (X:=Bool)) J8
theorem VE {s:Pst} {k:Int} {t:B} (h:DV s k t=some true):s.e=0∧ ∃x,ub s=some x∧x.kind=k∧x.text=t:=by
 unfold DV at h
 split at h
 ·cases h
 ·rename_i he
  obtain⟨x,hx,h2⟩:=Option.map_eq_some_iff.1 h
  simp at h2
  exact⟨by simpa using he,x,hx,h2⟩
theorem Nc {s:Pst} {x:Dy} (h:ub s=some x):0≤s.pos∧s.pos < s.l.length∧s.l.length≤1000000:=by
 unfold ub at h
 split at h
 ·have:=QR h
  omega
 ·cases h
theorem qce (h1:S bF=KR):zZ mV mq S (a1 B) (enc (X:=Bool)) (fun s z=> ∃r,J8 s z=some r) (fun s z s' y=> J8 s z=some (s',y)):=by
 rintro b s t ⟨r,hr⟩
 have hr0:=hr
 simp only[J8,fT,Option.map_eq_some_iff] at hr
 obtain⟨v,hr,rfl⟩:=hr
 simp[mV,mq,h1,hr]
 cases v
 ·simp
  exact Dk s (by simp) (by simp[J8,fT,hr])
 ·obtain⟨_,x,hx,_⟩:=VE hr
  have:=Nc hx
  simp
  exact⟨by simp only[InR];omega,Dk s.step (by simp[Pst.step]) (by simp[J8,fT,hr])⟩
@[simp] abbrev Me (s:Pst) (_:Unit):Option (Pst×Bool):=fT s ⟨#[37,99]⟩
abbrev yZ:Spc:=z3 a0 (enc (X:=Bool)) Me
theorem ZS (h1:S ah=gK):zZ lE lf S a0 (enc (X:=Bool)) (fun s z=> ∃r,Me s z=some r) (fun s z s' y=> Me s z=some (s',y)):=by
 rintro b s ⟨⟩ ⟨⟨s',v⟩,hr⟩
 simp only[Me] at hr
 simp[lE,lf,h1,hr, -Bool.forall_bool, -Bool.exists_bool]
 refine Dk s' ?_ ?_
 ·simp
 ·exact⟨rfl,rfl⟩
end Go.Gv

namespace Go.Gv
open Cod (enc dec)
variable {S S0:Nat→Spc}
theorem LO {H:ab} {op o:Int} {n a v l lb rg:B} {f:Bool} {cd d:D} {mn mx:Int} (cks:List Cond) (ks:List Pat) (hc:FrzTo H cd (enc cks)) (hd:FrzTo H d (enc ks)):
 FrzTo H (.agg [.v (.int .i64 op), .v (.int .i64 o), .v (.string n), .v (.string a), .v (.string v), .v (.string l), .v (.bool f),cd, .v (.string lb), .v (.string rg), .v (.int .i64 mn), .v (.int .i64 mx),d]) (enc (⟨op,⟨o,n,a,v,l,f,cks⟩,lb,rg,mn,mx,ks⟩:Pat)):=by
 rw[LU]
 refine .agg rfl fun k x y hx hy=> ?_
 rcases k with _ | _ | _ | _ | _ | _ | _ | _ | _ | _ | _ | _ | _ | k
 ·cases hx;cases hy;exact .same _
 ·cases hx;cases hy;exact .same _
 ·cases hx;cases hy;exact .same _
 ·cases hx;cases hy;exact .same _
 ·cases hx;cases hy;exact .same _
 ·cases hx;cases hy;exact .same _
 ·cases hx;cases hy;exact .same _
 ·cases hx;cases hy;exact hc
 ·cases hx;cases hy;exact .same _
 ·cases hx;cases hy;exact .same _
 ·cases hx;cases hy;exact .same _
 ·cases hx;cases hy;exact .same _
 ·cases hx;cases hy;exact hd
 ·simp at hx
theorem YR {b:Nat} {post:Pst→Pat→Prop} {H:ab} {op o:Int} {n a v l lb rg:B} {f:Bool} {cd d:D} {mn mx:Int} (s:Pst) (cks:List Cond) (ks:List Pat) (hc:FrzTo (fun i=> if i=0 then none else H i) cd (enc cks)) (hd:FrzTo (fun i=> if i=0 then none else H i) d (enc ks))
 (h0:H 0=some (.box b (dF s))) (hq:post s ⟨op,⟨o,n,a,v,l,f,cks⟩,lb,rg,mn,mx,ks⟩):
 rT enc b post (.agg [.v (.int .i64 op), .v (.int .i64 o), .v (.string n), .v (.string a), .v (.string v), .v (.string l), .v (.bool f),cd, .v (.string lb), .v (.string rg), .v (.int .i64 mn), .v (.int .i64 mx),d]) H:=
 jY s _ (LO cks ks hc hd) h0 hq
end Go.Gv

namespace Go.Gv
open Cod (enc dec)
variable {S S0:Nat→Spc}
theorem Ld {op:Int} {l:List Pat} (h:l.length≠1):sX op l=⟨op,Cond0,E0,E0,0,0,l⟩:=by
 match l,h with
 | [],_=> rfl
 | [x],h=> exact absurd rfl h
 | x::y::l,_=> rfl
end Go.Gv

namespace Go.Gv
open Cod (enc dec)
variable {S S0:Nat→Spc}
abbrev pZ:Spc:=dG (a2 Int (List Pat)) (fun _=> True) (enc (X:=Pat)) fun x y=> y=sX x.1 x.2
theorem OE:Walk mY mu S (a2 Int (List Pat)) (fun _=> True) (enc (X:=Pat)) fun x y=> y=sX x.1 x.2:=by
 rintro⟨op,l⟩ -
 simp[mY,mu]
 refine fun b _=> ⟨fun h=> ⟨by omega,fun a ha=> ?_⟩,fun h=> ?_⟩
 ·have e:l= [a]:=by
   match l,h,ha with
   | [x],_,ha=> simp at ha;rw[ha]
  exact fK a (by simp) (by rw[e];rfl)
 ·exact fK (⟨op,Cond0,E0,E0,0,0,l⟩:Pat) (LO [] l (.nil _) (by simp)) (Ld (by omega)).symm
@[simp] abbrev DA (s:Rdr) (i:Bool):Option (Rdr×Bool):=(uD s i).map fun v=> (s,v)
abbrev B3:Spc:=XA (a1 Bool) (enc (X:=Bool)) DA
theorem Wb {b:Nat} {post:Rdr→Pat→Prop} {H:ab} {op o:Int} {n a v l lb rg:B} {f:Bool} {cd d:D} {mn mx:Int} (s:Rdr) (cks:List Cond) (ks:List Pat) (hc:FrzTo (fun i=> if i=0 then none else H i) cd (enc cks)) (hd:FrzTo (fun i=> if i=0 then none else H i) d (enc ks))
 (h0:H 0=some (.box b (cW s))) (hq:post s ⟨op,⟨o,n,a,v,l,f,cks⟩,lb,rg,mn,mx,ks⟩):
 BI enc b post (.agg [.v (.int .i64 op), .v (.int .i64 o), .v (.string n), .v (.string a), .v (.string v), .v (.string l), .v (.bool f),cd, .v (.string lb), .v (.string rg), .v (.int .i64 mn), .v (.int .i64 mx),d]) H:=
 gT s _ (LO cks ks hc hd) h0 hq
theorem D6 (h1:S aQ=me) (h2:S bf=tH) (h3:S eV=KN):
 sA dR dL S (a1 Bool) (enc (X:=Bool)) (fun s z=> ∃r,DA s z=some r) (fun s z s' y=> DA s z=some (s',y)):=by
 rintro b s i ⟨⟨s',y⟩,hr0⟩
 obtain⟨v,q,q1⟩:=Option.map_eq_some_iff.1 hr0
 simp only[Prod.mk.injEq] at q1
 obtain⟨rfl,rfl⟩:=q1
 have q0:=q
 unfold uD at q
 split at q
 ·rename_i hk
  cases q
  obtain⟨tx,fi,kd,te,po⟩:=s
  simp only at hk
  subst hk
  simp[dR,dL]
  exact pH ⟨tx,fi,4,te,po⟩ (by simp) ⟨q0,rfl⟩
 rename_i hk4
 split at q
 ·rename_i hk
  obtain⟨n,hn,q2⟩:=Option.map_eq_some_iff.1 q
  clear q hk4
  obtain⟨tx,fi,kd,te,po⟩:=s
  simp only at hk
  subst hk
  simp[dR,dL,h1,h2,h3,hn, -Bool.forall_bool, -Bool.exists_bool]
  clear h1 h2 h3
  refine⟨fun hi=> ⟨fun hw=> ⟨fun h5=> ?_,fun h5=> ?_⟩,fun hw=> ?_⟩,fun hi=> ?_⟩
  ·exact pH ⟨tx,fi,2,te,po⟩ (by simp) ⟨by rw[q0,←q2];simp[hi,Jk,hw,h5],rfl⟩
  ·exact pH ⟨tx,fi,2,te,po⟩ (by simp) ⟨by rw[q0,←q2];simp[hi,Jk,hw,h5],rfl⟩
  ·exact pH ⟨tx,fi,2,te,po⟩ (by simp) ⟨by rw[q0,←q2];simp[hi,Jk,hw],rfl⟩
  ·exact pH ⟨tx,fi,2,te,po⟩ (by simp) ⟨by rw[q0,←q2];simp[hi],rfl⟩
 ·rename_i hk
  cases q
  simp[dR,dL,h1,h2,h3,hk4,hk, -Bool.forall_bool, -Bool.exists_bool]
  clear h1 h2 h3
  refine⟨fun a1=> ⟨fun a2=> ⟨fun a3=> ?_,fun a3=> ?_⟩,fun a2=> ?_⟩,fun a1=> ?_⟩
  ·exact pH s (by simp) ⟨by rw[q0];simp[a1,a2,a3],rfl⟩
  ·exact pH s (by simp) ⟨by rw[q0];simp[a1,a2,a3],rfl⟩
  ·exact pH s (by simp) ⟨by rw[q0];simp[a1,a2],rfl⟩
  ·exact pH s (by simp) ⟨by rw[q0];simp[a1],rfl⟩
end Go.Gv

namespace Go.Gv
open Cod (enc dec)
variable {S S0:Nat→Spc}
variable (A:Rdr→Bool→Option (Rdr×Pat)) (O:Rdr→Option (Rdr×Cond))
end Go.Gv

namespace Go.Gv
open Cod (enc dec)
variable {S S0:Nat→Spc}
abbrev od:Spc:=dG a0 (fun _=> True) (enc (X:=List B)) fun _ y=> y=filterL
theorem TH:Walk jC ja S a0 (fun _=> True) (enc (X:=List B)) fun _ y=> y=filterL:=by
 rintro x -
 simp[jC,ja]
 exact fK (Y:=List B) filterL (.same _) rfl
theorem ox {H:ab} {l l':List D} (h:FzL H l l'):FrzTo H (.agg l) (.agg l'):= .agg h.get.1 h.get.2
def Ls:B:=⟨#[60,115,62,32,91,119,111,114,100,61,34,84,104,101,34,37,99,93]⟩
def pi:Pat:=⟨4,Cond0,E0,E0,0,0, [⟨2,Cond0,E0,⟨#[115]⟩,0,0, []⟩,⟨1,⟨2,⟨#[119,111,114,100]⟩,E0,⟨#[84,104,101]⟩,E0,true, []⟩,E0,E0,0,0, []⟩]⟩
end Go.Gv

namespace Go.Gv
open Cod (enc dec)
open Go.Proofs
theorem PN (v2 v3 v4:Value) (w:World):CallsD Tryz.prog 27 #[v2,v3,v4] .returning w fun e u' w'=> e= .returned (.tuple #[])∧u'= .returning∧w'=w:=by
 refine callsD_of_wpS Tryz.func27 rfl fun c₀ cs hu=> ?_
 apply wpS_seq
 apply wpS_region
 simp[wpOpsS,go_sem,recoverD,hu,Tryz.ntmps27,Exit.thenS]
 apply wpS_seq
 apply wpS_region
 simp[wpOpsS,go_sem,recoverD,hu,Tryz.ntmps27,Exit.thenS]
 refine wpS_cond (t:=false) (by simp[Act.eval,Array.replicate]) ?_
 simp only[Bool.false_eq_true,if_false]
 refine wpS_of_wp (wp_skip ?_)
 cases c₀
 simp_all [bodyPostS,results,Tryz.results27]
def Jc:CC:= .reg [.op (some 2) none (.alloc 38 [(.int .i64 0),(.int .i64 0),(.string ⟨#[]⟩),(.string ⟨#[]⟩),(.string ⟨#[]⟩),(.string ⟨#[]⟩),(.bool false),(.slice none 0 0),(.string ⟨#[]⟩),(.string ⟨#[]⟩),(.int .i64 0),(.int .i64 0),(.slice none 0 0),(.int .i64 0),(.string ⟨#[]⟩),(.string ⟨#[]⟩),(.string ⟨#[]⟩),(.string ⟨#[]⟩),(.string ⟨#[]⟩),(.bool false),(.int .i64 0),(.int .i64 0),(.slice none 0 0),(.slice none 0 0),(.slice none 0 0),(.int .i64 0)]), .op (some 3) none (.alloc 3 [(.int .i64 0)]), .op (some 4) none (.alloc 39 [(.int .i64 0)])]
def Jb:CC:= .seq (.reg [.op (some 5) none (.mv (.tmp 0)), .op (some 6) none (.slen (.tmp 5)), .op (some 7) none (.cmp .gtr (.tmp 6) (.const (.int .i64 400)))])
 (.keep [0,2,3,4,7] [2,3,4] (.ite (.tmp 7) (.seq (.reg [.op (some 8) none (.build [(.int .i64 0),(.int .i64 0),(.string ⟨#[]⟩),(.string ⟨#[]⟩),(.string ⟨#[]⟩),(.string ⟨#[]⟩),(.bool false),(.slice none 0 0),(.string ⟨#[]⟩),(.string ⟨#[]⟩),(.int .i64 0),(.int .i64 0),(.slice none 0 0),(.int .i64 0),(.string ⟨#[]⟩),(.string ⟨#[]⟩),(.string ⟨#[]⟩),(.string ⟨#[]⟩),(.string ⟨#[]⟩),(.bool false),(.int .i64 0),(.int .i64 0),(.slice none 0 0),(.slice none 0 0),(.slice none 0 0),(.int .i64 0)] []), .op none none (.store none 26 (.tmp 2) (.tmp 8)), .op none none (.store none 1 (.tmp 3) (.const (.int .i64 0))), .op none none (.store none 1 (.tmp 4) (.const (.int .i64 2)))]) .ret) .skip))
def Y2:CC:= .keep [0,2,3,4] [2,3,4] (.seq (.reg [.op (some 10) none (.mv (.tmp 0)), .op (some 11) none (.build [(.string ⟨#[]⟩),(.int .i64 0),(.int .i64 0),(.string ⟨#[]⟩),(.int .i64 0)] [(0,1,(.tmp 10))]), .op (some 12) none (.box 69 false (.tmp 11)),
 .op (some 13) none (.call bB [(.tmp 12)]), .op none none (.store none 26 (.tmp 2) (.tmp 13)), .op none none (.store none 1 (.tmp 3) (.const (.int .i64 0))), .op none none (.store none 1 (.tmp 4) (.const (.int .i64 0)))]) .ret)
def Yf:List aI:= [.cell 2 true 26, .cell 3 false 1, .cell 4 false 1]
def qds:Code→Option Code
 | .seq a _=> some a
 | _=> none
def qdr:Code→Option Code
 | .seq _ (.seq a _)=> some a
 | _=> none
def qdq:Code→Option Code
 | .seq _ (.seq _ (.seq _ a))=> some a
 | _=> none
theorem Vb: ((Tryz.f11.body.bind qds).bind fun c=> bd Tryz.prog [] 14 c)=some (dZ Jc):=by kernel_rfl
theorem Va: ((Tryz.f11.body.bind qdr).bind fun c=> bd Tryz.prog [] 14 c)=some (dZ Jb):=by kernel_rfl
theorem qcK: ((Tryz.f11.body.bind qdq).bind fun c=> bd Tryz.prog [] 14 c)=some (dZ Y2):=by kernel_rfl
theorem qcJ:Tryz.f11.results.toList.mapM (eO Tryz.prog)=some Yf:=by kernel_rfl
def Vi (F:Sg→ab→Prop):Ex→Sg→ab→Prop
 | .norm,σ,H=> F σ H
 | _,_,_=> False
def VP (S:Nat→Spc) (Q:D→ab→Prop) (ds:List D) (H0:ab):Prop:=
 vc S Jc (Vi fun σ H=> vc S Jb (Vi fun σ H=> vc S Y2 (fun e σ H=> match e with | .ret=> ln Yf σ H fun ds=> Q (cR ds) H | _=> False) (l5 σ 9 .any) H) σ H) (d9 ds) H0
theorem St.defer {E:pR} {σ:Sg} {H:ab} {a:Act} {w:World} (h:St E σ H a w) (x:Value) (dl:List Deferred) (h9:9 < E.N):St { E with ds:=dl } (l5 σ 9 .any) H { (a.put (some 9) x) with defers:=dl } w:=by
 obtain⟨h1,h2,tp,h3,h4⟩:=h
 refine⟨rfl,by rw[←h2];simp[Act.put],tp,⟨h3.1,h3.2,h3.3,h3.4,h3.5,h3.6,h3.7⟩,fun t=> ?_⟩
 have:=QI (σ:=σ) (Q:=R tp (cm E.O tp H w) w) (a:=a) h2 h4 (some 9) (fun t ht=> by cases ht;exact h9) (x:=x) (d:= .any) (.any x) t
 exact this
theorem Pl {S:Nat→Spc} (hS: ∀f,Tri Tryz.prog f (S f).pt) (E:pR) (ds':List D) (H0:ab) (Q:D→ab→Prop) (vs:List Value) (w:World) (R:Ending→World→Prop) (hds:E.ds= []) (hN:E.N=14)
 (hst:St E (d9 ds') H0 { tmps:=vs.toArray++Array.replicate (Tryz.f11.ntmps -vs.toArray.size) undef,defers:= [] } w) (hV:VP S Q ds' H0)
 (hfin: ∀ (a':Act) (w':World) (σ':Sg) (H':ab) (dl:List Deferred),St { E with ds:=dl } σ' H' a' w'→(ln Yf σ' H' fun ds=> Q (cR ds) H')→ ∃v,(results Tryz.f11 a'.tmps).run Tryz.prog w'= .ok v w'∧R (.returned v) w'):Calls Tryz.prog 11 vs.toArray w R:=by
 have hmf: ∀ (fn:Fn) (first cap:Array Value) (w:World),(Instr.makeFunc fn first cap).run Tryz.prog w= .ok (.func fn first cap) w:=fun _ _ _ _=> rfl
 refine calls_of_wp_defers Tryz.func11 rfl ?_
 apply wp_seq
 refine wp_mono (ij (E:=E) (im:= []) hS ay Jc _ (by rw[hN];exact Vb) _ _ _ _ _ hst hV) ?_
 intro e a1 w1 hP
 cases e with
 | normal=> ?_
 | ret=> obtain⟨_,_,_,h⟩:=hP;exact h.elim
 | exit i=> obtain⟨_,_,_,h⟩:=hP;exact h.elim
 | _=> exact hP.elim
 obtain⟨σ1,H1,hst1,hV1⟩:=hP
 apply wp_seq
 refine wp_mono (ij (E:=E) (im:= []) hS ay Jb _ (by rw[hN];exact Va) _ _ _ _ _ hst1 hV1) ?_
 intro e a2 w2 hP
 cases e with
 | normal=> ?_
 | ret=> obtain⟨_,_,_,h⟩:=hP;exact h.elim
 | exit i=> obtain⟨_,_,_,h⟩:=hP;exact h.elim
 | _=> exact hP.elim
 obtain⟨σ2,H2,hst2,hV2⟩:=hP
 apply wp_seq
 have hsz:a2.tmps.size=14:=by rw[hst2.2.1,hN]
 have hde:a2.defers= []:=by rw[hst2.1,hds]
 refine wp_region_list ?_
 refine wpList_plain rfl fun K hK=> ?_
 simp[go_sem,hmf]
 refine hK _ _ ?_
 refine wpList_plain rfl fun K hK=> ?_
 simp[go_sem,hsz]
 refine hK _ _ ?_
 refine wpList_nil ?_
 have hst3:=St.defer hst2 (Value.func (Fn.func 27) #[] #[a2.tmps[2],a2.tmps[3],a2.tmps[4]]) ({ target:=Target.fn (Fn.func 27) #[a2.tmps[2],a2.tmps[3],a2.tmps[4]],args:= #[] } ::a2.defers) (by rw[hN];decide)
 refine wp_mono (ij (E:= { E with ds:= { target:=Target.fn (Fn.func 27) #[a2.tmps[2],a2.tmps[3],a2.tmps[4]],args:= #[] } ::a2.defers }) (im:= []) hS ay Y2 _ (by show bd _ _ E.N _=_;rw[hN];exact qcK) _ _ _ _ _ hst3 hV2) ?_
 intro e a3 w3 hP
 cases e with
 | ret=> ?_
 | normal=> obtain⟨_,_,_,h⟩:=hP;exact h.elim
 | exit i=> obtain⟨_,_,_,h⟩:=hP;exact h.elim
 | _=> exact hP.elim
 obtain⟨σ3,H3,hst4,hres⟩:=hP
 show Leaves Tryz.prog Tryz.f11 a3.tmps R a3.defers .returning w3
 have hd3:a3.defers= { target:=Target.fn (Fn.func 27) #[a2.tmps[2],a2.tmps[3],a2.tmps[4]],args:= #[] } ::a2.defers:=hst4.1
 rw[hd3,hde]
 refine leaves_cons (f:=27) (args:= #[a2.tmps[2],a2.tmps[3],a2.tmps[4]]) (by simp) (by simp[go_sem]) ?_
 refine(PN _ _ _ w3).mono ?_
 rintro e u' w'' ⟨rfl,rfl,rfl⟩
 obtain⟨v,h1,h2⟩:=hfin a3 w'' σ3 H3 _ hst4 hres
 exact⟨v,h1,h2⟩
theorem NO:fF Tryz.prog ep:=pV Tryz.func11 (by kernel_rfl) rfl
end Go.Gv

namespace Go.Gv
open Cod (enc dec)
variable {S S0:Nat→Spc}
end Go.Gv

namespace Go.Gv
open Cod (enc dec)
variable {S S0:Nat→Spc}
end Go.Gv

namespace Go.Gv
open Go.Proofs
end Go.Gv

namespace Go.Gv
open Cod (enc dec)
variable {S S0:Nat→Spc}
end Go.Gv

namespace Go.Gv
end Go.Gv

namespace Go.Gv
theorem lZ {s:B} {c d:UInt8} (h:s=⟨#[c]⟩∨s=⟨#[c,d]⟩) (hc:tr c.toNat=true) (hd:tr d.toNat=true):eL s=true:=by
 refine(yG s).2 ?_
 have hc':LZ c.toNat=true:=by unfold LZ;rw[hc];rfl
 have hd':LZ d.toNat=true:=by unfold LZ;rw[hd];rfl
 rcases h with rfl | rfl
 ·refine⟨by show 1≤1;decide,by show 1≤32;decide,fun x hx=> ?_,fun k x hx=> ?_⟩
  ·cases hx;exact hc
  ·rcases k with _ | k
   ·cases hx;exact hc'
   ·simp at hx
 ·refine⟨by show 1≤2;decide,by show 2≤32;decide,fun x hx=> ?_,fun k x hx=> ?_⟩
  ·cases hx;exact hc
  ·rcases k with _ | _ | k
   ·cases hx;exact hc'
   ·cases hx;exact hd'
   ·simp at hx
theorem Fv:eL qdK=true∧eL Zc=true∧eL qfF=true∧eL qdJ=true∧eL qdI=true:=
 ⟨lZ (c:=115) (d:=115) (.inl rfl) (by decide) (by decide),lZ (c:=110) (d:=112) (.inr rfl) (by decide) (by decide),lZ (c:=116) (d:=116) (.inl rfl) (by decide) (by decide),
  lZ (c:=120) (d:=120) (.inl rfl) (by decide) (by decide),lZ (c:=121) (d:=121) (.inl rfl) (by decide) (by decide)⟩
theorem SA:J3 []:=fun l h=> by simp at h
end Go.Gv

namespace Go.Gv
end Go.Gv

namespace Go.Gv
open Cod (enc dec)
variable {S S0:Nat→Spc}
def VB:Qry:=⟨pi,fP, [],0⟩
theorem VA:WP [] 1 pi:= .inr (.inl ⟨.inl rfl,rfl,rfl,rfl,rfl,rfl,_,_,rfl,qb8 (.inr ⟨.inl rfl,rfl,rfl,by simp[rS,qdK],rfl,rfl,rfl⟩),qb8 (.inl ⟨rfl, .inl rfl,rfl,rfl,rfl,rfl⟩)⟩)
theorem JH:sU eL pi=true:=Qs SA Fv 1 _ VA (by omega)
theorem ue:aY pi= [⟨1,⟨2,⟨#[119,111,114,100]⟩,E0,⟨#[84,104,101]⟩,E0,true, []⟩,E0,E0,0,0, []⟩]:=by
 rw[bz,if_neg (by decide)]
 show[_,_].flatMap aY=_
 simp only[List.flatMap_cons,List.flatMap_nil,List.append_nil]
 rw[bz,if_neg (by decide),bz,if_pos rfl]
 rfl
theorem G1:vY 10 pi=some Ls:=by kernel_rfl
theorem SB:qbv 10 VB:=by
 have h:=JH
 unfold sU at h
 simp only[Bool.and_eq_true] at h
 refine⟨by rw[Bool.and_eq_true];exact h.1.1,rfl,rfl,rfl,⟨?_,?_⟩,?_,Ls,G1,by unfold rl;decide,by decide⟩
 ·show 0+ (aY pi).length≤_
  rw[ue]
  decide
 ·intro y hy
  have hy:y∈aY pi:=hy
  rw[ue] at hy
  simp only[List.mem_singleton] at hy
  subst hy
  exact⟨1,by show 0≤1000000;decide,fun k hk=> by simp at hk⟩
 ·intro x hx
  have hx:x∈ (aY pi).map zY:=hx
  rw[ue] at hx
  simp only[List.map_cons,List.map_nil,List.mem_singleton] at hx
  subst hx
  exact⟨rfl,rfl,rfl,rfl⟩
theorem PG:l9 pi=2:=by kernel_rfl
abbrev B9:Spc:=dG a0 (fun _=> True) (enc (X:=Bool)) fun _ y=> y=true
end Go.Gv

namespace Go.Gv
open Cod (enc dec)
variable {S S0:Nat→Spc}
theorem qaI {n:Nat} {q:Qry} (h:GQ n q) (hn:n≤5):xM q.pat≤64:=by
 obtain⟨lb,_,hw⟩:=h.lab
 have:=(Qr _ _ hw hn).2.2
 have h2:2^ (n+1)≤64:=Nat.pow_le_pow_right (n:=2) (by omega) (show n+1≤6 by omega)
 omega
theorem YH {n:Nat} {q:Qry} (h:GQ n q) (hn:n≤5):sU eL q.pat=true:=by
 obtain⟨lb,hl,hw⟩:=h.lab
 exact Qs hl Fv n _ hw (by omega)
end Go.Gv

namespace Go.Gv
open Go.Proofs Cod
theorem gz {P:Program} {f:Nat} {A:Nat→PT} {A':PT} (h: ∀n,Tri P f (A n)) (hs: ∀d ds H K,A' d ds H K→ ∃n,A n d ds H K):Tri P f A':=
 fun O tp w vs ds H d K a b c e g hA=> (hs d ds H K hA).elim fun n hn=> h n O tp w vs ds H d K a b c e g hn
theorem sI {P:Program} {f:Nat} {A:PT} (hs: ∀d ds H K,¬A d ds H K):Tri P f A:=fun O tp w vs ds H d K a b c e g hA=> absurd hA (hs d ds H K)
theorem iz {X Y:Type} {A:ix X} {pre:Nat→X→Prop} {pre':X→Prop} {er:Y→D} {post:X→Y→Prop} (hx: ∀x,pre' x→ ∃n,pre n x): ∀d ds H K,(dG A pre' er post).pt d ds H K→ ∃n,(dG A (pre n) er post).pt d ds H K:=by
 intro d ds H K h
 rw[tE] at h
 cases e:A.dec ds with
 | none=> rw[e] at h;exact h.elim
 | some x=>
   rw[e] at h
   obtain⟨h1,h2⟩:=h
   obtain⟨n,hn⟩:=hx x h1
   exact⟨n,by rw[tE,e];exact⟨hn,h2⟩⟩
theorem df {P:Program} {f:Nat} {X Y:Type} {A:ix X} {pre:X→Prop} {er:Y→D} {post:X→Y→Prop} (hx: ∀x,¬pre x):Tri P f (dG A pre er post).pt:=sI fun d ds H K h=> by
 rw[tE] at h
 cases e:A.dec ds with
 | none=> rw[e] at h;exact h.elim
 | some x=> rw[e] at h;exact hx x h.1
theorem Zp {p:Pat} (h:fb p≤0):False:=by rw[QM] at h;omega
theorem qmJ {p:Cond} (h:iN p≤0):False:=by rw[xr] at h;omega
theorem XG {P:Program} {f:Nat} {Z:Type} {tw el:Nat} {A:ix Z} {r:D} {T:Z→Option ByteArray} (hx: ∀z,T z=none):Tri P f (XH tw el A r T).pt:=sI fun d ds H K ⟨id,b,x,z,ds',h1,h2,h3,h4,h5,hp,h7⟩=> by
 obtain⟨t,ht,_⟩:=hp
 rw[hx] at ht
 cases ht
theorem KB:Tri Tryz.prog hX (rI).pt:=
 ax (S:=bU []) (aw aj) U9 (fun _=> Nat.le_of_ble_eq_true rfl) (XL)
theorem iv:Tri Tryz.prog ap s_m_Next.pt:=Ul (S:=bU [(hX,rI)]) (aw (aa KB aj)) rfl GR (by decide)
theorem X7:Tri Tryz.prog Bq s_m_New.pt:=X6 (OV (S:=bU []) (aw aj) U7 (by decide) XK)
theorem Aj:Tri Tryz.prog gq (jJ).pt:=
 ax (S:=bU [(hX,rI)]) (aw (aa KB aj)) Sm (fun _=> Nat.le_of_ble_eq_true rfl) (RG rfl)
theorem uI:Tri Tryz.prog d6 (oh).pt:=
 ax (S:=bU []) (aw aj) CG (fun _=> Nat.le_of_ble_eq_true rfl) (Ef)
theorem Ei:Tri Tryz.prog iq (F1).pt:=
 ax (S:=bU [(d6,oh)]) (aw (aa uI aj)) CF (fun _=> Nat.le_of_ble_eq_true rfl) (Ee rfl)
theorem yJ:Tri Tryz.prog ei (FW).pt:=
 ax (S:=bU [(d6,oh),(iq,F1)]) (aw (aa uI (aa Ei aj))) xY (fun _=> Nat.le_of_ble_eq_true rfl) (yF rfl rfl)
theorem Ku:Tri Tryz.prog mJ (O3).pt:=
 ax (S:=bU []) (aw aj) IP (fun _=> Nat.le_of_ble_eq_true rfl) (Kk)
theorem Kx:Tri Tryz.prog hU (KQ).pt:=
 ax (S:=bU [(mJ,O3)]) (aw (aa Ku aj)) IS (fun _=> Nat.le_of_ble_eq_true rfl) (Kn rfl)
theorem IF:Tri Tryz.prog gB (EW).pt:=
 ax (S:=bU [(ei,FW)]) (aw (aa yJ aj)) GD (fun _=> Nat.le_of_ble_eq_true rfl) (Is rfl)
theorem Fx:Tri Tryz.prog fM (Aw).pt:=
 ax (S:=bU []) (aw aj) Es (fun _=> Nat.le_of_ble_eq_true rfl) (Fl)
def Rn:Nat→Spc:=bU [(hU,KQ),(gB,EW),(fM,Aw)]
def qjE (n:Nat):Nat→Spc:=bU [(eJ,UG n)]
theorem P8 {S:Nat→Spc} (h: ∀f,Tri Tryz.prog f (S f).pt):Tri Tryz.prog aP (zd S).pt:=
 ax (S:=bU [(dN,UK S)]) (aw (aa (ax (S:=S) h pK (fun _=> Nat.le_of_ble_eq_true rfl) pW) aj)) nD (fun _=> Nat.le_of_ble_eq_true rfl) (oa rfl)
theorem uL: ∀n,Tri Tryz.prog du (B0 n).pt
 | 0=> df fun x h=> Zp h.1
 | n+1=>
   have h1:Tri Tryz.prog eJ (UG n).pt:=ax (S:=bU [(du,B0 n)]) (aw (aa (uL n) aj)) zt (fun _=> Nat.le_of_ble_eq_true rfl) (Ab n rfl)
   ax (S:=bU [(aP,zd (qjE n))]) (aw (aa (P8 (S:=qjE n) (aw (aa h1 aj))) aj)) CD (fun _=> Nat.le_of_ble_eq_true rfl) (Eb (S0:=qjE n) n rfl rfl)
theorem Eh:Tri Tryz.prog du (yR).pt:=
 gz (fun n=> uL n) (iz (fun x h=> ⟨fb x.1,Nat.le_refl _,h⟩))
def qjI (n:Nat):Nat→Spc:=bU [(f6,UI Rn n)]
def qjH (n:Nat):Nat→Spc:=bU [(aP,zd (qjI n)),(hU,KQ),(gB,EW),(fM,Aw)]
theorem YB (n:Nat) (d:D) (f:Pat→Bool) (h:FunIs Rn d f):FunIs (qjH n) d f:=by
 obtain⟨g,c,pc,a,b,e⟩:=h
 refine⟨g,c,pc,a,?_,e⟩
 by_cases hg:g=aP
 ·subst hg
  have:Rn aP=Spc.none:=rfl
  rw[this] at b
  cases b
 ·rw[←b]
  unfold qjH Rn
  rw[bU,if_neg hg]
theorem yv: ∀n,Tri Tryz.prog cv (KW Rn n).pt
 | 0=> df fun x h=> by obtain⟨f,h1,h2⟩:=h;exact Zp h2
 | n+1=>
   have h1:Tri Tryz.prog f6 (UI Rn n).pt:=ax (S:=bU [(cv,KW Rn n)]) (aw (aa (yv n) aj)) CE (fun _=> Nat.le_of_ble_eq_true rfl) (Ed (S0:=Rn) n rfl)
   ax (S:=qjH n) (aw (aa (P8 (S:=qjI n) (aw (aa h1 aj))) (aa Kx (aa IF (aa Fx aj))))) GK (fun _=> Nat.le_of_ble_eq_true rfl) (Iv (S0:=qjI n) (N:=Rn) n (YB n) rfl rfl)
theorem yq:Tri Tryz.prog cv (vO Rn).pt:=
 gz (fun n=> yv n) (iz (fun x h=> by obtain⟨f,h⟩:=h;exact⟨fb x.1,f,h,Nat.le_refl _⟩))
theorem yu:Tri Tryz.prog ft (AA).pt:=
 ax (S:=bU [(du,yR),(cv,vO Rn)]) (aw (aa Eh (aa yq aj))) GP (fun _=> Nat.le_of_ble_eq_true rfl) (Iz (N:=Rn) rfl rfl rfl)
theorem IE:Tri Tryz.prog kN (o3).pt:=
 ax (S:=bU [(ft,AA),(cv,vO Rn)]) (aw (aa yu (aa yq aj))) GB (fun _=> Nat.le_of_ble_eq_true rfl) (Ir (N:=Rn) rfl rfl rfl rfl)
theorem AH: ∀n,Tri Tryz.prog ff (O7 n).pt
 | 0=> df fun x h=> Zp h.1
 | n+1=> ax (S:=bU [(ff,O7 n)]) (aw (aa (AH n) aj)) IQ (fun _=> Nat.le_of_ble_eq_true rfl) (Kl n rfl)
theorem Kv:Tri Tryz.prog ff (KH).pt:=
 gz (fun n=> AH n) (iz (fun x h=> ⟨fb x,Nat.le_refl _,h⟩))
theorem Kz:Tri Tryz.prog mL (yS).pt:=
 ax (S:=bU [(kN,o3),(ff,KH)]) (aw (aa IE (aa Kv aj))) IT (fun _=> Nat.le_of_ble_eq_true rfl) (Ko rfl rfl)
theorem vB:Tri Tryz.prog eD (pY).pt:=
 ax (S:=bU []) (aw aj) Eu (fun _=> Nat.le_of_ble_eq_true rfl) (Fo)
theorem rW:Tri Tryz.prog ch (ni).pt:=
 ax (S:=bU []) (aw aj) GL (fun _=> Nat.le_of_ble_eq_true rfl) (Iw)
theorem IH:Tri Tryz.prog gC (B6).pt:=
 ax (S:=bU []) (aw aj) GH (fun _=> Nat.le_of_ble_eq_true rfl) (Iu)
theorem IG:Tri Tryz.prog fm (FZ).pt:=
 ax (S:=bU [(eD,pY),(ch,ni)]) (aw (aa vB (aa rW aj))) GE (fun _=> Nat.le_of_ble_eq_true rfl) (It rfl rfl)
def Lx:Nat→Spc:=bU [(gC,B6),(fm,FZ),(ch,ni)]
theorem MD:Tri Tryz.prog ji (KO Lx).pt:=ax (S:=Lx) (aw (aa IH (aa IG (aa rW aj)))) Ll (fun _=> Nat.le_of_ble_eq_true rfl) Mu
theorem l6:Tri Tryz.prog bQ (lO).pt:=
 ax (S:=bU []) (aw aj) lU (fun _=> Nat.le_of_ble_eq_true rfl) (sD)
theorem xE:Tri Tryz.prog eT (lO).pt:=
 ax (S:=bU [(bQ,lO)]) (aw (aa l6 aj)) v5 (fun _=> Nat.le_of_ble_eq_true rfl) (xw rfl)
theorem xD:Tri Tryz.prog eS (s_indexByte).pt:=
 ax (S:=bU [(cB,s_indexByte)]) (aw (aa sK aj)) vZ (fun _=> Nat.le_of_ble_eq_true rfl) (xv rfl)
theorem nb:Tri Tryz.prog bL (mf).pt:=
 ax (S:=bU []) (aw aj) t4 (fun _=> Nat.le_of_ble_eq_true rfl) (uU)
theorem rV:Tri Tryz.prog di (tL).pt:=
 ax (S:=bU [(bL,mf)]) (aw (aa nb aj)) rp (fun _=> Nat.le_of_ble_eq_true rfl) (rU rfl)
theorem Fy:Tri Tryz.prog jj (yT).pt:=
 ax (S:=bU []) (aw aj) Et (fun _=> Nat.le_of_ble_eq_true rfl) (Fm)
theorem DF:Tri Tryz.prog gU (Ax).pt:=
 ax (S:=bU [(ji,KO Lx),(eD,pY),(ch,ni),(jj,yT),(eT,lO),(eS,s_indexByte)]) (aw (aa MD (aa vB (aa rW (aa Fy (aa xE (aa xD aj))))))) Lm (fun _=> Nat.le_of_ble_eq_true rfl) (Mv (S0:=Lx) rfl rfl rfl rfl rfl rfl rfl rfl rfl)
theorem gH:Tri Tryz.prog a5 (pI).pt:=
 iR (S:=bU [(gU,Ax)]) (aw (aa DF aj)) wh (fun _=> Nat.le_of_ble_eq_true rfl) (Ik rfl)
theorem xG:Tri Tryz.prog eV (KN).pt:=
 iR (S:=bU [(gU,Ax)]) (aw (aa DF aj)) wg (fun _=> Nat.le_of_ble_eq_true rfl) (Ij rfl)
theorem eP:Tri Tryz.prog aQ (me).pt:=
 iR (S:=bU []) (aw aj) we (fun _=> Nat.le_of_ble_eq_true rfl) (Ii)
theorem aX:Tri Tryz.prog ae (bN).pt:=
 iR (S:=bU [(a5,pI),(aQ,me)]) (aw (aa gH (aa eP aj))) wc (fun _=> Nat.le_of_ble_eq_true rfl) (Ih rfl rfl)
theorem j5:Tri Tryz.prog bf (tH).pt:=
 iR (S:=bU [(di,tL)]) (aw (aa rV aj)) wa (fun _=> Nat.le_of_ble_eq_true rfl) (Ig rfl)
theorem j6:Tri Tryz.prog bp (tI).pt:=
 iR (S:=bU [(ae,bN)]) (aw (aa aX aj)) wn (fun _=> Nat.le_of_ble_eq_true rfl) (Il rfl)
theorem yr:Tri Tryz.prog fq (Ay).pt:=
 ax (S:=bU []) (aw aj) GM (fun _=> Nat.le_of_ble_eq_true rfl) (X0)
theorem sE:Tri Tryz.prog dD (pZ).pt:=
 ax (S:=bU []) (aw aj) AW (fun _=> Nat.le_of_ble_eq_true rfl) (OE)
theorem uW:Tri Tryz.prog ea (B3).pt:=
 iR (S:=bU [(aQ,me),(bf,tH),(eV,KN)]) (aw (aa eP (aa j5 (aa xG aj)))) ua (fun _=> Nat.le_of_ble_eq_true rfl) (D6 rfl rfl rfl)
theorem pD:Tri Tryz.prog cw (od).pt:=
 ax (S:=bU []) (aw aj) wq (fun _=> Nat.le_of_ble_eq_true rfl) (TH)
theorem Ah:Tri Tryz.prog gi (B1).pt:=
 ax (S:=bU [(kX,s_count0)]) (aw (aa El aj)) zh (fun _=> Nat.le_of_ble_eq_true rfl) (z9 rfl)
theorem vx:Tri Tryz.prog ez (B2).pt:=
 ax (S:=bU [(gi,B1)]) (aw (aa Ah aj)) uY (fun _=> Nat.le_of_ble_eq_true rfl) (vt rfl)
theorem yI:Tri Tryz.prog dx (O5).pt:=
 sH (S:=bU [(ez,B2),(ac,s_wstr)]) (aw (aa vx (aa iw aj))) xQ (fun _=> Nat.le_of_ble_eq_true rfl) (Kf rfl rfl)
theorem vz:Tri Tryz.prog eA (FU).pt:=
 sH (S:=bU [(dx,O5),(ac,s_wstr)]) (aw (aa yI (aa iw aj))) uZ (fun _=> Nat.le_of_ble_eq_true rfl) (Fi rfl rfl)
theorem xF:Tri Tryz.prog dU (KF).pt:=
 sH (S:=bU [(eA,FU),(ac,s_wstr)]) (aw (aa vz (aa iw aj))) v9 (fun _=> Nat.le_of_ble_eq_true rfl) (If rfl rfl)
theorem vA:Tri Tryz.prog eB (O4).pt:=
 sH (S:=bU [(dU,KF),(ac,s_wstr)]) (aw (aa xF (aa iw aj))) u5 (fun _=> Nat.le_of_ble_eq_true rfl) (Fj rfl rfl)
theorem mC: ∀n,Tri Tryz.prog bP (FV (vY n)).pt
 | 0=> XG fun z=> rfl
 | n+1=>
   have h1:Tri Tryz.prog bS (QE (Jx (vY n))).pt:=Jh (S:=bU [(bP,FV (vY n))]) (aw (aa (mC n) aj)) rq (fun id b ds t h=> by unfold qbT at h;split at h <;> first | (exact Nat.le_of_ble_eq_true rfl) | cases h) (yD (vY n) rfl)
   have h2:Tri Tryz.prog cA (QD (qby (vY n))).pt:=Jh (S:=bU [(ac,s_wstr),(bS,QE (Jx (vY n)))]) (aw (aa iw (aa h1 aj))) zs (fun id b ds t h=> by unfold qbO at h;split at h <;> first | (exact Nat.le_of_ble_eq_true rfl) | cases h) (Mn (qby (vY n)) rfl fun g cs t h=> by
    unfold qby at h
    split at h
    ·rename_i e;subst e;rfl
    ·cases h)
   sH (S:=bU [(eB,O4),(ac,s_wstr),(cA,QD (qby (vY n)))]) (aw (aa vA (aa iw (aa h2 aj)))) sZ (fun _=> Nat.le_of_ble_eq_true rfl) (BM (vY n) rfl rfl rfl)
theorem vW: ∀n,Tri Tryz.prog dP (Gb n).pt
 | 0=> df fun x h=> h
 | n+1=> ax (S:=bU [(dP,Gb n)]) (aw (aa (vW n) aj)) Ev (fun _=> Nat.le_of_ble_eq_true rfl) (Fq n rfl)
theorem FA:Tri Tryz.prog dP (Ch).pt:=
 gz (fun n=> vW n) (iz (fun x h=> h))
theorem yt:Tri Tryz.prog gD (Az).pt:=
 ax (S:=bU [(dP,Ch)]) (aw (aa FA aj)) GN (fun _=> Nat.le_of_ble_eq_true rfl) (Ix rfl)
theorem vV: ∀n,Tri Tryz.prog cq (Df n).pt
 | 0=> sI fun d ds H K ⟨id,v,l,a,x,h1,h2,h3,h4,h5⟩=> Zp h4.1
 | n+1=> yL (S:=bU [(cq,Df n),(gD,Az)]) (aw (aa (vV n) (aa yt aj))) uO (by decide) (Fp n rfl rfl)
theorem sG:Tri Tryz.prog cq i_leavesQA.pt:=gz (fun n=> vV n) fun d ds H K ⟨id,v,l,a,x,h1,h2,h3,h4,h5⟩=> ⟨fb x,id,v,l,a,x,h1,h2,h3,⟨Nat.le_refl _,h4⟩,h5⟩
theorem Fz:Tri Tryz.prog cq s_leavesQ.pt:=OX (BU (S:=bU [(cq,i_leavesQA),(gD,Az)]) (aw (aa sG (aa yt aj))) uO (fun _=> Nat.le_of_ble_eq_true rfl) (Ec rfl rfl)) sG
theorem Ak:Tri Tryz.prog gr (Ga).pt:=
 ax (S:=bU []) (aw aj) zw (fun _=> Nat.le_of_ble_eq_true rfl) (Ac)
theorem xJ:Tri Tryz.prog cX (Ci).pt:=
 ax (S:=bU [(gr,Ga)]) (aw (aa Ak aj)) wt (fun _=> Nat.le_of_ble_eq_true rfl) (xy rfl)
theorem xI:Tri Tryz.prog dW (zc).pt:=
 ax (S:=bU []) (aw aj) ws (fun _=> Nat.le_of_ble_eq_true rfl) (xx)
theorem BT:Tri Tryz.prog fE (K1).pt:=
 ax (S:=bU [(cX,Ci)]) (aw (aa xJ aj)) A0 (fun _=> Nat.le_of_ble_eq_true rfl) (BQ rfl)
theorem Al:Tri Tryz.prog gu (Gc).pt:=
 ax (S:=bU [(dW,zc),(fE,K1)]) (aw (aa xI (aa BT aj))) zx (fun _=> Nat.le_of_ble_eq_true rfl) (Ad rfl rfl)
theorem BS:Tri Tryz.prog fD (Cj).pt:=
 ax (S:=bU [(gu,Gc)]) (aw (aa Al aj)) AY (fun _=> Nat.le_of_ble_eq_true rfl) (BP rfl)
theorem Kw:Tri Tryz.prog mK (O8).pt:=
 ax (S:=bU []) (aw aj) IR (fun _=> Nat.le_of_ble_eq_true rfl) (Km)
theorem II:Tri Tryz.prog kO (K3).pt:=
 ax (S:=bU [(mK,O8)]) (aw (aa Kw aj)) GO (fun _=> Nat.le_of_ble_eq_true rfl) (Iy rfl)
theorem ro:Tri Tryz.prog cV (Pi).pt:=
 ax (S:=bU []) (aw aj) qx (fun _=> Nat.le_of_ble_eq_true rfl) (rm)
theorem o0:Tri Tryz.prog cp (Pj).pt:=
 ax (S:=bU [(cV,Pi)]) (aw (aa ro aj)) ol (fun _=> Nat.le_of_ble_eq_true rfl) (oY rfl)
def qjG:Nat→Spc:=bU [(fD,Cj)]
theorem FB:Tri Tryz.prog jk (Gd 10).pt:=
 ax (S:=bU [(ft,AA),(cp,Pj),(kO,K3),(cq,s_leavesQ),(aP,zd qjG),(bP,FV (vY 10)),(dh,s_string)]) (aw (aa yu (aa o0 (aa II (aa Fz (aa (P8 (S:=qjG) (aw (aa BS aj))) (aa (mC 10) (aa Us aj)))))))) Ew (fun _=> Nat.le_of_ble_eq_true rfl) (Fs (S0:=qjG) 10 rfl rfl rfl rfl rfl rfl rfl rfl)
theorem uM: ∀n,Tri Tryz.prog cM (yU n).pt
 | 0=> df fun x h=> absurd h.1 (Nat.not_lt_zero _)
 | n+1=> ax (S:=bU [(ap,s_m_Next),(gq,jJ),(cM,yU n)]) (aw (aa iv (aa Aj (aa (uM n) aj)))) Ey (fun _=> Nat.le_of_ble_eq_true rfl) (OG n rfl rfl rfl)
theorem Ek:Tri Tryz.prog cM (vK).pt:=
 gz (fun n=> uM n) (iz (fun x h=> h))
theorem FE:Tri Tryz.prog kP (B8).pt:=
 ax (S:=bU [(ap,s_m_Next),(cM,vK)]) (aw (aa iv (aa Ek aj))) GS (fun _=> Nat.le_of_ble_eq_true rfl) (RH rfl rfl)
theorem rK: ∀n,Tri Tryz.prog bC (tK n).pt
 | 0=> df fun x h=> absurd h.1 (Nat.not_lt_zero _)
 | n+1=> ax (S:=bU [(ap,s_m_Next),(gq,jJ),(kP,B8),(bC,tK n)]) (aw (aa iv (aa Aj (aa FE (aa (rK n) aj))))) AZ (fun _=> Nat.le_of_ble_eq_true rfl) (Kq n rfl rfl rfl rfl)
theorem Am:Tri Tryz.prog bC (r6).pt:=
 gz (fun n=> rK n) (iz (fun x h=> ⟨x.2.1.toNat+1,Nat.lt_succ_self _,h⟩))
theorem DO: ∀n,Tri Tryz.prog gp (tJ n).pt
 | 0=> df fun x h=> absurd h.1 (Nat.not_lt_zero _)
 | n+1=> ax (S:=bU [(gp,tJ n)]) (aw (aa (DO n) aj)) Ln (fun _=> Nat.le_of_ble_eq_true rfl) (Kp n rfl)
theorem ME:Tri Tryz.prog gp (rZ).pt:=
 gz (fun n=> DO n) (iz (fun x h=> by obtain⟨n,h⟩:=h;exact⟨n+1,Nat.succ_pos _,h⟩))
theorem MZ: ∀n,Tri Tryz.prog mM (B7 n).pt
 | 0=> df fun x h=> absurd h.1 (Nat.not_lt_zero _)
 | n+1=> ax (S:=bU [(gp,rZ),(mM,B7 n)]) (aw (aa ME (aa (MZ n) aj))) Sl (fun _=> Nat.le_of_ble_eq_true rfl) (RF n rfl rfl)
theorem Ui:Tri Tryz.prog mM (yV).pt:=
 gz (fun n=> MZ n) (iz (fun x h=> by obtain⟨n,h⟩:=h;exact⟨n+1,Nat.succ_pos _,h⟩))
theorem Jt: ∀n,Tri Tryz.prog f7 (Hv n).pt
 | 0=> sI fun d ds H K ⟨id,v,l,a,x,h1,h2,h3,h4,h5⟩=> Zp h4.1
 | n+1=> yL (S:=bU [(f7,Hv n)]) (aw (aa (Jt n) aj)) GT (by decide) (Mx n rfl)
theorem DG:Tri Tryz.prog f7 i_BoundA2.pt:=gz (fun n=> Jt n) fun d ds H K ⟨id,v,l,a,x,h1,h2,h3,h4,h5⟩=> ⟨fb x,id,v,l,a,x,h1,h2,h3,⟨Nat.le_refl _,h4⟩,h5⟩
theorem RV:Tri Tryz.prog f7 s_Bound2.pt:=OX (BU (S:=bU [(f7,i_BoundA2)]) (aw (aa DG aj)) GT (fun _=> Nat.le_of_ble_eq_true rfl) (My rfl)) DG
theorem pG: ∀n,Tri Tryz.prog bx (o4 n).pt
 | 0=> df fun x h=> absurd h.1 (Nat.not_lt_zero _)
 | n+1=> ax (S:=bU [(ap,s_m_Next),(gq,jJ),(bx,o4 n)]) (aw (aa iv (aa Aj (aa (pG n) aj)))) wr (fun _=> Nat.le_of_ble_eq_true rfl) (Eg n rfl rfl rfl)
theorem xH:Tri Tryz.prog bx (nj).pt:=
 gz (fun n=> pG n) (iz (fun x h=> h))
theorem Ej:Tri Tryz.prog ir (vL).pt:=
 ax (S:=bU [(ap,s_m_Next),(gq,jJ)]) (aw (aa iv (aa Aj aj))) CH (fun _=> Nat.le_of_ble_eq_true rfl) (Mw rfl rfl)
theorem FC:Tri Tryz.prog jl (yW).pt:=
 ax (S:=bU [(ap,s_m_Next),(bC,r6),(f7,s_Bound2),(mM,yV),(bx,nj),(ir,vL)]) (aw (aa iv (aa Am (aa RV (aa Ui (aa xH (aa Ej aj))))))) Ez (fun _=> Nat.le_of_ble_eq_true rfl) (OH rfl rfl rfl rfl rfl rfl)
theorem Gk: ∀n,Tri Tryz.prog eN (KM n).pt
 | 0=> df fun x h=> qmJ h
 | n+1=> ax (S:=bU [(eN,KM n)]) (aw (aa (Gk n) aj)) M9 (fun _=> Nat.le_of_ble_eq_true rfl) (OD n rfl)
theorem Fw:Tri Tryz.prog eN (Av).pt:=
 gz (fun n=> Gk n) (iz (fun x _=> ⟨iN x.1,Nat.le_refl _⟩))
theorem MB:Tri Tryz.prog oL (vJ).pt:=
 ax (S:=bU [(eN,Av)]) (aw (aa Fw aj)) Lf (fun _=> Nat.le_of_ble_eq_true rfl) (Mo rfl)
theorem AF: ∀n,Tri Tryz.prog fe (FX n).pt
 | 0=> df fun x h=> Zp h.1
 | n+1=> ax (S:=bU [(oL,vJ),(fe,FX n)]) (aw (aa MB (aa (AF n) aj))) IM (fun _=> Nat.le_of_ble_eq_true rfl) (Kh n rfl rfl)
theorem Ks:Tri Tryz.prog fe (BZ).pt:=
 gz (fun n=> AF n) (iz (fun x h=> ⟨fb x.1,Nat.le_refl _,h⟩))
theorem AG: ∀n,Tri Tryz.prog dq (Hu n).pt
 | 0=> sI fun d ds H K ⟨id,v,l,a,x,h1,h2,h3,h4,h5⟩=> Zp h4.1
 | n+1=> yL (S:=bU [(dq,Hu n)]) (aw (aa (AG n) aj)) yx (by decide) (Ki n rfl)
theorem vy:Tri Tryz.prog dq i_leavesA.pt:=gz (fun n=> AG n) fun d ds H K ⟨id,v,l,a,x,h1,h2,h3,h4,h5⟩=> ⟨fb x,id,v,l,a,x,h1,h2,h3,⟨Nat.le_refl _,h4⟩,h5⟩
theorem Kt:Tri Tryz.prog dq s_leaves.pt:=OX (BU (S:=bU [(dq,i_leavesA)]) (aw (aa vy aj)) yx (fun _=> Nat.le_of_ble_eq_true rfl) (Io rfl)) vy
theorem rJ: ∀n,Tri Tryz.prog cz (KK n).pt
 | 0=> df fun x h=> Zp h
 | n+1=> ax (S:=bU [(eN,Av),(cz,KK n)]) (aw (aa Fw (aa (rJ n) aj))) zr (fun _=> Nat.le_of_ble_eq_true rfl) (Aa n rfl rfl)
theorem Ai:Tri Tryz.prog cz (FY).pt:=
 gz (fun n=> rJ n) (iz (fun x _=> ⟨fb x.1,Nat.le_refl _⟩))
theorem MC:Tri Tryz.prog oO (KG).pt:=
 ax (S:=bU []) (aw aj) Li (fun _=> Nat.le_of_ble_eq_true rfl) (Mr)
end Go.Gv
