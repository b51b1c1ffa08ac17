/- A part of the framework and of the walks: W146 C59 W159 W160 T25. -/
import Derived.Test.YticbieanhfdnoaaGreatDoorGc35
import Derived.Test.YticbieanhfdnoaaGreatDoorGc21
import Derived.Test.YticbieanhfdnoaaGreatDoorGc30
import Derived.Test.YticbieanhfdnoaaGreatDoorGc36
import Derived.Test.YticbieanhfdnoaaGreatDoorGc19
set_option linter.unusedSimpArgs false
set_option linter.unusedVariables false
set_option maxRecDepth 100000

namespace Go.Gv
open Cod (enc dec)
variable {S S0:Nat→Spc}
def iz (c:Int):B:=⟨#[c.toNat.toUInt8]⟩
abbrev s_cpFold1:Spc:=cv (a1 B) (fun s=> ∃c:Int,0≤c∧c < 128∧s=iz c) (enc (X:=B)) fun s y=> ∀c:Int,0≤c→c < 128→s=iz c→y=iz (low c)
theorem E9 {c:Int} (h0:0≤c) (h1:c < 128):Utf8.encode c=iz c:=by
 unfold Utf8.encode iz
 have e:c.toNat < 128:=by omega
 have h:Utf8.valid c=true:=by
  unfold Utf8.valid
  have:c < 55296:=by omega
  simp[h0,this]
 simp[e,h]
theorem EG {c:Int} (h0:0≤c) (h1:c < 128):0≤low c∧low c < 128:=by unfold low;split <;> omega
theorem JP {c d:Int} (hc:0≤c) (hc':c < 128) (hd:0≤d) (hd':d < 128) (h:iz c=iz d):c=d:=by
 have:c.toNat.toUInt8=d.toNat.toUInt8:=by
  have:=congrArg (fun b:B=> b.data.toList.head?) h
  simpa [iz] using this
 have:=congrArg UInt8.toNat this
 have e1:c.toNat.toUInt8.toNat=c.toNat % 256:=UInt8.toNat_ofNat' ..
 have e2:d.toNat.toUInt8.toNat=d.toNat % 256:=UInt8.toNat_ofNat' ..
 omega
theorem RX {c d:Int} (hc:0≤c) (hc':c < 128) (hd:0≤d) (hd':d < 128): (iz c=iz d)=(c=d):=propext ⟨JP hc hc' hd hd',fun h=> by rw[h]⟩
theorem HO (h1:S d7=s_cpFold1):aN kC jV S (a1 I32) (fun c=> 0≤c.val∧c.val < 128) (enc (X:=List I32)) fun c y=> y=HY true c:=by
 rintro⟨c⟩ ⟨c0,c1⟩
 have c0:0≤c:=c0
 have c1:c < 128:=c1
 obtain⟨l0,l1⟩:=EG c0 c1
 have hP: ∃d:Int,0≤d∧d < 128∧iz c=iz d:=⟨c,c0,c1,rfl⟩
 simp[kC,jV,h1,E9 c0 c1,hP, -Bool.forall_bool, -Bool.exists_bool]
 intro y hy b
 obtain rfl:=hy c c0 c1 rfl
 clear hy
 obtain⟨r,hr⟩: ∃r,r=low c:=⟨_,rfl⟩
 rw[←hr] at l0 l1 ⊢
 have hsz: (iz r).size=1:=rfl
 have hdec:Utf8.decode (iz r) 0=(r.toNat,1):=by
  have h0:0 < (iz r).size:=by rw[hsz];omega
  have e1: ((iz r)[0]'h0).toNat=r.toNat % 256:=UInt8.toNat_ofNat' ..
  have e2: ((iz r)[0]'h0).toNat=r.toNat:=by omega
  rw[Go.decode_ascii (iz r) 0 h0 (by omega),e2]
 refine bq (X:=Nat×Value×List I32) [4,13] [] (fun z=> z.1=0∧z.2.1= .slice none 0 0∧z.2.2= []∨z.1=1∧z.2.2=Bl ⟨c⟩) (fun z=> [(3, .own 40 z.2.1)]) (fun z=> [(13, .iter b (iz r) z.1),(40, .row z.2.1 mT 1 (z.2.2.map enc))]) (fun z=> 1 -z.1) (0, .slice none 0 0, []) (.inl ⟨rfl,rfl,rfl⟩) (by simp) (by simp[isNilRow]) ?_
 rintro⟨pos,v,l⟩ hz
 simp only at hz
 rcases hz with⟨rfl,rfl,rfl⟩ | ⟨rfl,rfl⟩
 ·have hrn: ((r.toNat:Nat):Int)=r:=by omega
  have i1:InR .i32 (r -32):=by simp only[InR];omega
  have i2:InR .i32 (r -80):=by simp only[InR];omega
  simp[hsz,hdec,hrn,i1,i2, -Bool.forall_bool, -Bool.exists_bool]
  have hfo: ∀l:List I32,l=([⟨r⟩,⟨r -32⟩,⟨r -80⟩]:List I32).filter (fun v=> decide (0≤v.val∧low v.val=r))→l=Bl ⟨c⟩:=fun l hl=> by
   rw[hl,Bl]
   simp only[←hr]
  refine aq (X:=Value×List I32) [4,13,22] [13] 3 (fun k z=> z.2=(([⟨r⟩,⟨r -32⟩,⟨r -80⟩]:List I32).take k).filter (fun v=> decide (0≤v.val∧low v.val=r))∧z.2.length≤k) (fun z=> [(3, .own 40 z.1)]) (fun z=> [(40, .row z.1 mT 1 (z.2.map enc))]) (.slice none 0 0, []) (by simp) (by simp) (by omega) (by simp) (by simp) ⟨rfl,by simp⟩ (by simp) (by simp[isNilRow]) ?_ ?_
  ·rintro k ⟨v,l⟩ hk ⟨hl,hlen⟩
   simp only at hl hlen
   obtain⟨e,he,hee⟩: ∃e:Int,e < 128∧([⟨r⟩,⟨r -32⟩,⟨r -80⟩]:List I32)[k]?=some ⟨e⟩∧([.v (.int .i32 r), .v (.int .i32 (r -32)), .v (.int .i32 (r -80))]:List D)[k]?=some (.v (.int .i32 e)):=by
    rcases(by omega:k=0∨k=1∨k=2) with rfl | rfl | rfl
    ·exact⟨r,by omega,rfl,rfl⟩
    ·exact⟨r -32,by omega,rfl,rfl⟩
    ·exact⟨r -80,by omega,rfl,rfl⟩
   obtain⟨he1,he2⟩:=hee
   have he3: ∀h,([.v (.int .i32 r), .v (.int .i32 (r -32)), .v (.int .i32 (r -80))]:List D)[k]'h= .v (.int .i32 e):=fun h=> by
    obtain⟨_,h2⟩:=List.getElem?_eq_some_iff.1 he2
    exact h2
   have hki: (k:Int) < 3:=by omega
   have hstep: (([⟨r⟩,⟨r -32⟩,⟨r -80⟩]:List I32).take (k+1)).filter (fun v=> decide (0≤v.val∧low v.val=r))=l++ ([⟨e⟩]:List I32).filter (fun v=> decide (0≤v.val∧low v.val=r)):=by
    rw[List.take_add_one,he1,List.filter_append,←hl]
    rfl
   by_cases h0:0≤e
   ·obtain⟨q0,q1⟩:=EG h0 he
    have hPe: ∃d:Int,0≤d∧d < 128∧iz e=iz d:=⟨e,h0,he,rfl⟩
    simp[hk,hki,he2,he3,h0,h1,E9 h0 he,hPe, -Bool.forall_bool, -Bool.exists_bool]
    intro y hy
    obtain rfl:=hy e h0 he rfl
    rw[RX q0 q1 l0 l1]
    refine⟨fun hh=> ⟨by omega,by omega,fun v=> ⟨v,l++ [⟨e⟩],⟨?_,by simp;omega⟩,rfl, .inl ⟨rfl,by simp⟩⟩⟩,fun hh=> ⟨v,l,⟨?_,by omega⟩,rfl, .inl ⟨rfl,rfl⟩⟩⟩
    ·simpa [h0,hh] using hstep.symm
    ·simpa [h0,hh] using hstep.symm
   ·simp[hk,hki,he2,he3,h0, -Bool.forall_bool, -Bool.exists_bool]
    refine⟨v,l,⟨?_,by omega⟩,rfl, .inl ⟨rfl,rfl⟩⟩
    simpa [h0] using hstep.symm
  ·rintro⟨v,l⟩ ⟨hl,hlen⟩
   simp only at hl hlen
   have hl:=hfo l hl
   simp[-Bool.forall_bool, -Bool.exists_bool]
   exact⟨1,v,l, .inr ⟨rfl,hl⟩,⟨rfl, .inl rfl, .inl ⟨rfl,rfl⟩⟩,rfl⟩
 ·simp[hsz, -Bool.forall_bool, -Bool.exists_bool]
  exact dE (Bl ⟨c⟩) (jQ (l:=Bl ⟨c⟩) mT rfl) rfl
end Go.Gv

namespace Go.Gv
open Go.Proofs
def kK:CC:=oX [oB 2 (.mv (.const ob))] [0] [] (oX [oA 3 0,oB 4 (.cmp .geq (oT 3) (.const (.int .u8 65))),oA 5 4,oH 6 5 (.mv (oT 0)),oH 7 5 (.cmp .leq (oT 6) (.const (.int .u8 90))),oB 8 (.pick (oT 5) (oT 7) (.const ob)),oA 9 8,oI 10 9 (.mv (oT 0)),oI 11 9 (.cmp .geq (oT 10) (.const (.int .u8 97))),oI 12 9 (.mv (oT 11)),oH 13 12 (.mv (oT 0)),
 oH 14 12 (.cmp .leq (oT 13) (.const (.int .u8 122))),oI 15 9 (.pick (oT 12) (oT 14) (.const ob)),oB 16 (.pick (oT 9) (.const (.bool true)) (oT 15)),oA 17 16,oI 18 17 (.mv (oT 0)),oI 19 17 (.eql false false [.int] (oT 18) (.const (.int .u8 95))),oB 20 (.pick (oT 17) (.const (.bool true)) (oT 19)),oA 2 20] [2] [] (.ret))
def j5:List au:= [.tmp 2]
def ws:List Nat:= []
theorem vY:ay Tryz.prog da ws kK j5 21:=ap mixed (by kernel_rfl)
def kJ:CC:=oX [oB 2 (.mv (.const ob))] [0] [] (oX [oA 3 0,oZ 4 da [oT 3],oA 5 4,oI 6 5 (.mv (oT 0)),oI 7 5 (.cmp .geq (oT 6) (.const (.int .u8 48))),oI 8 5 (.mv (oT 7)),oH 9 8 (.mv (oT 0)),oH 10 8 (.cmp .leq (oT 9) (.const (.int .u8 57))),oI 11 5 (.pick (oT 8) (oT 10) (.const ob)),oB 12 (.pick (oT 5) (.const (.bool true)) (oT 11)),oA 13 12,
 oI 14 13 (.mv (oT 0)),oI 15 13 (.eql false false [.int] (oT 14) (.const (.int .u8 45))),oB 16 (.pick (oT 13) (.const (.bool true)) (oT 15)),oA 2 16] [2] [] (.ret))
def j4:List au:= [.tmp 2]
def wq:List Nat:= []
theorem vX:ay Tryz.prog gi wq kJ j4 17:=ap mixed (by kernel_rfl)
-- markup_ValidName range i=20 n=19 c=21 i2=28 id=0: live [0:s] changed [] res []
def iq:CC:=oX [oB 2 (.mv (.const ob))] [0] [] (.seq (oX [oA 4 0,oB 5 (.slen (oT 4)),oB 6 (.cmp .lss (oT 5) (oN 1)),oA 7 6,oI 8 7 (.mv (oT 0)),oI 9 7 (.slen (oT 8)),oI 10 7 (.cmp .gtr (oT 9) (oN 32)),oB 11 (.pick (oT 7) (.const (.bool true)) (oT 10)),oA 12 11,oI 13 12 (.mv (oT 0)),oI 14 12 (.sidx (oT 13) (oN 0)),oI 15 12 (.call da [oT 14]),
 oI 16 12 (.not (oT 15)),oB 17 (.pick (oT 12) (.const (.bool true)) (oT 16))] [0,17] [] (.ite (oT 17) (oX [oB 2 (.mv (.const ob))] [2] [] (.ret)) (.skip))) (.keep [0] [] (.seq (oX [oA 18 0,oB 19 (.slen (oT 18)),oB 20 (.mv (oN 0))] [0,19,20] [] (aw 0 20 19 21 1 (oX [oA 22 20,oA 3 22] [0,3,19,20] [] (oX [oA 23 0,oA 24 3,oB 25 (.sidx (oT 23) (oT 24)),oZ 26 gi [oT 25],
 oB 27 (.not (oT 26))] [0,19,20,27] [] (.ite (oT 27) (oX [oB 2 (.mv (.const ob))] [2] [] (.ret)) (.skip)))) 28)) (.keep [] [] (oX [oB 2 (.mv (.const (.bool true)))] [2] [] (.ret))))))
def gQ:List au:= [.tmp 2]
def sx:List Nat:= []
theorem r7:ay Tryz.prog dq sx iq gQ 29:=ap mixed (by kernel_rfl)
-- markup_ValidValue while id=0: live [14:] changed [] res [14]
def ip:CC:=oX [oB 2 (.mv (oN 0))] [0] [] (.seq (.block 0 (oX [oA 6 0,oB 7 (.slen (oT 6)),oB 8 (.cmp .gtr (oT 7) (oN 120)),oA 5 8] [0,5] [] (.ite (oT 5) (oX [oB 2 (.mv (oN 2))] [2] [] (.ret)) (oX [oA 10 0,oZ 11 cX [oT 10],oB 12 (.not (oT 11)),oA 9 12] [0,9] [] (.ite (oT 9) (oX [oB 2 (.mv (oN 7))] [2] [] (.ret)) (.skip)))))) (.keep [0] [] (.seq (oX [
 oA 13 0,oB 14 (.srange (oT 13))] [14] [14] (.block 1 (.loop 1 (oX [oB 15 (.snext (oT 14)),oB 16 (.ext (oT 15) 0)] [14,15,16] [14] (.seq (.ite (oT 16) (.skip) (.exit 1)) (.keep [14,15] [14] (.block 2 (oX [oB 17 (.ext (oT 15) 2),oA 4 17] [4,14] [14] (oX [oA 18 4,oB 19 (.cmp .leq (oT 18) (.const (.int .i32 31))),oA 20 19,oI 21 20 (.mv (oT 4)),
 oI 22 20 (.eql false false [.int] (oT 21) (.const (.int .i32 127))),oB 23 (.pick (oT 20) (.const (.bool true)) (oT 22))] [14,23] [14] (.ite (oT 23) (oX [oB 2 (.mv (oN 14))] [2] [] (.ret)) (.skip))))))))))) (.keep [] [] (oX [oB 2 (.mv (oN 0))] [2] [] (.ret))))))
def gP:List au:= [.tmp 2]
def sw:List Nat:= []
theorem r6:ay Tryz.prog aR sw ip gP 24:=ap mixed (by kernel_rfl)
-- feature_contains range i=9 n=8 c=10 i2=16 id=0: live [1:f, 7:] changed [] res []
def iS:CC:=oX [oB 4 (.mv (.const ob))] [0,1] [] (.seq (oX [oA 7 0,oB 8 (.len (oT 7)),oB 9 (.mv (oN 0))] [1,7,8,9] [] (aw 0 9 8 10 1 (oX [oB 11 (.iaddr 1 (oT 7) (oT 9)),oC 12 1 11,oA 6 12] [1,6,7,8,9] [] (oX [oA 13 6,oA 14 1,oB 15 (.eql false false [.str] (oT 13) (oT 14))] [1,7,8,9,15] [] (.ite (oT 15) (oX [oB 4 (.mv (.const (.bool true)))] [4] [] (.ret))
 (.skip)))) 16)) (.keep [] [] (oX [oB 4 (.mv (.const ob))] [4] [] (.ret))))
def iI:List au:= [.tmp 4]
def tA:List Nat:= []
theorem ts:ay Tryz.prog ef tA iS iI 17:=ap mixed (by kernel_rfl)
def nF:CC:=oX [oB 4 (.mv (.const ob))] [0,1] [] (oX [oA 8 0,oZ 9 gk [oT 8],oA 7 9,oB 10 (.ext (oT 7) 0),oB 11 (.ext (oT 7) 1),oA 5 10,oA 6 11] [1,5,6] [] (oX [oA 12 6,oB 13 (.eql false false [.int] (oT 12) (oN 0)),oA 14 13,oH 15 14 (.mv (oT 5)),oH 16 14 (.mv (oT 1)),oH 17 14 (.call ef [oT 15,oT 16]),
 oB 18 (.pick (oT 14) (oT 17) (.const ob)),oA 4 18] [4] [] (.ret)))
def na:List au:= [.tmp 4]
def Bd:List Nat:= []
theorem AL:ay Tryz.prog jf Bd nF na 19:=ap mixed (by kernel_rfl)
-- feature_Parse while id=0: live [0:s, 5:l, 6:from, 7:i] changed [5, 6, 7] res [51]
-- feature_Parse while id=0: live [5:l, 8:i] changed [8] res [51]
def cu:CC:=oX [oB 2 (.mv (.const on)),oB 3 (.mv (oN 0))] [0] [] (.seq (oX [oA 9 0,oZ 10 aR [oT 9],oA 4 10] [0,4] [] (oX [oA 11 4,oB 12 (.eql true false [.int] (oT 11) (oN 0))] [0,4,12] [] (.ite (oT 12) (oX [oA 13 4,oB 2 (.mv (.const on)),oA 3 13] [2,3] [51] (.ret)) (.skip)))) (.keep [0] [] (.seq (oX [oA 14 0,
 oB 15 (.eql false false [.str] (oT 14) (oS ⟨#[124]⟩))] [0,15] [] (.ite (oT 15) (oX [oB 2 (.mv (.const on)),oB 3 (.mv (oN 0))] [2,3] [51] (.ret)) (.skip))) (.keep [0] [] (.seq (oX [oA 16 0,oB 17 (.slen (oT 16)),oB 18 (.cmp .lss (oT 17) (oN 2)),oA 19 18,oI 20 19 (.mv (oT 0)),oI 21 19 (.sidx (oT 20) (oN 0)),oI 22 19 (.eql true false [.int] (oT 21) (.const (.int .u8 124))),
 oB 23 (.pick (oT 19) (.const (.bool true)) (oT 22)),oA 24 23,oI 25 24 (.mv (oT 0)),oI 26 24 (.mv (oT 0)),oI 27 24 (.slen (oT 26)),oI 28 24 (.arith .sub (oT 27) (oN 1)),oI 29 24 (.sidx (oT 25) (oT 28)),oI 30 24 (.eql true false [.int] (oT 29) (.const (.int .u8 124))),oB 31 (.pick (oT 24) (.const (.bool true)) (oT 30))] [0,31] [] (.ite (oT 31) (oX [oB 2 (.mv (.const on)),
 oB 3 (.mv (oN 3))] [2,3] [51] (.ret)) (.skip))) (.keep [0] [] (oX [oB 5 (.mv (.const on))] [0,5] [51] (.seq (oX [oB 6 (.mv (oN 1)),oB 7 (.mv (oN 1))] [0,5,6,7] [51] (.block 0 (.loop 1 (.seq (oX [oA 32 7,oA 33 0,oB 34 (.slen (oT 33)),oB 35 (.cmp .lss (oT 32) (oT 34))] [0,5,6,7,35] [51] (.ite (oT 35) (.skip) (.exit 0))) (.keep [0,5,6,7] [51] (.seq (.block 1 (.seq (oX [oA 38 0,oA 39 7,
 oB 40 (.sidx (oT 38) (oT 39)),oB 41 (.eql true false [.int] (oT 40) (.const (.int .u8 124)))] [0,5,6,7,41] [51] (.ite (oT 41) (.exit 1) (.skip))) (.keep [0,5,6,7] [51] (.seq (oX [oA 42 7,oA 43 6,oB 44 (.eql false false [.int] (oT 42) (oT 43))] [0,5,6,7,44] [51] (.ite (oT 44) (oX [oB 2 (.mv (.const on)),oB 3 (.mv (oN 3))] [2,3] [51] (.ret)) (.skip))) (.keep [0,5,6,7] [51] (oX [oA 45 5,
 oA 46 0,oA 47 6,oA 48 7,oB 49 (.sslice (oT 46) (some (oT 47)) (some (oT 48))),oB 50 (.bslice ai 1 [oT 49]),oB 51 (.append none ai 1 16 (oT 45) (oT 50)),oA 5 51] [0,5,7] [51] (.reg [oA 52 7,oB 53 (.arith .add (oT 52) (oN 1)),oA 6 53]))))))) (.keep [0,5,6,7] [51] (.reg [oA 36 7,oB 37 (.arith .add (oT 36) (oN 1)),oA 7 37])))))))) (.keep [5] [51] (.seq (oX [
 oB 8 (.mv (oN 1))] [5,8] [51] (.block 2 (.loop 2 (.seq (oX [oA 54 8,oA 55 5,oB 56 (.len (oT 55)),oB 57 (.cmp .lss (oT 54) (oT 56))] [5,8,57] [51] (.ite (oT 57) (.skip) (.exit 2))) (.keep [5,8] [51] (.seq (.block 3 (.seq (.regd [oA 60 5,oA 61 8,oB 62 (.arith .sub (oT 61) (oN 1)),oB 63 (.iaddr 1 (oT 60) (oT 62)),oC 64 1 63,oA 65 5,oA 66 8,oB 67 (.iaddr 1 (oT 65) (oT 66)),oC 68 1 67] [
 oB 69 (.cmp .geq (oT 64) (oT 68))]) (.keep [5,8,69] [51] (.ite (oT 69) (oX [oB 2 (.mv (.const on)),oB 3 (.mv (oN 6))] [2,3] [51] (.ret)) (.skip))))) (.keep [5,8] [51] (.reg [oA 58 8,oB 59 (.arith .add (oT 58) (oN 1)),oA 8 59])))))))) (.keep [5] [51] (oX [oA 70 5,oA 2 70,oB 3 (.mv (oN 0))] [2,3] [51] (.ret)))))))))))))
def ct:List au:= [.tmp 2, .tmp 3]
def xM:List Nat:= []
theorem xy:ay Tryz.prog gk xM cu ct 71:=ap mixed (by kernel_rfl)
end Go.Gv

namespace Go.Gv
open Cod (enc dec)
variable {S S0:Nat→Spc}
def Fi (c:Int):Bool:=(decide (65≤c) && decide (c≤90)) || (decide (97≤c) && decide (c≤122)) || decide (c=95)
def TL (c:Int):Bool:=Fi c || (decide (48≤c) && decide (c≤57)) || decide (c=45)
abbrev Gh:Spc:=cv (a1 U8) (fun _=> True) (enc (X:=Bool)) fun c y=> y=Fi c.val
theorem w8:aN kK j5 S (a1 U8) (fun _=> True) (enc (X:=Bool)) fun c y=> y=Fi c.val:=by
 rintro⟨c⟩ -
 by_cases h1: (65:Int)≤c <;> by_cases h2:c≤90 <;> by_cases h3: (97:Int)≤c <;> by_cases h4:c≤122 <;> by_cases h5:c=95 <;>
  simp[kK,j5,Fi,h1,h2,h3,h4,h5, -Bool.forall_bool, -Bool.exists_bool]
abbrev xn:Spc:=cv (a1 U8) (fun _=> True) (enc (X:=Bool)) fun c y=> y=TL c.val
theorem w7 (h0:S da=Gh):aN kJ j4 S (a1 U8) (fun _=> True) (enc (X:=Bool)) fun c y=> y=TL c.val:=by
 rintro⟨c⟩ -
 cases hb:Fi c <;> by_cases h1: (48:Int)≤c <;> by_cases h2:c≤57 <;> by_cases h3:c=45 <;>
  simp[kJ,j4,TL,h0,hb,h1,h2,h3, -Bool.forall_bool, -Bool.exists_bool]
theorem Ox (c:UInt8):Kw c=Fi (c.toNat:Int):=by
 unfold Kw Fi
 rw[Bool.eq_iff_iff]
 simp
 omega
theorem Vj (c:UInt8):qc8 c=TL (c.toNat:Int):=by
 unfold qc8 TL
 rw[Ox]
 cases Fi (c.toNat:Int)
 ·rw[Bool.eq_iff_iff]
  simp
  omega
 ·simp
theorem tn (h1:S da=Gh) (h2:S gi=xn):aN iq gQ S (a1 B) (fun s=> xz s=true) (enc (X:=Bool)) fun _ y=> y=true:=by
 rintro s hs
 have hs:xz s=true:=hs
 unfold xz at hs
 simp only[Bool.and_eq_true,decide_eq_true_eq] at hs
 obtain⟨⟨⟨q1,q2⟩,q3⟩,q4⟩:=hs
 simp[iq,gQ,h1,h2, -Bool.forall_bool, -Bool.exists_bool]
 have r1: (1:Int)≤(s.size:Int):=by omega
 have r2: (s.size:Int)≤32:=by omega
 have r3: (s.size:Int)≤9223372036854775807:=by omega
 have hsl:s.data.toList.length=s.size:=Array.length_toList
 refine fun _=> ⟨fun _ _=> ⟨fun _=> ⟨by omega,fun c hc=> ?_⟩,r2⟩,r1⟩
 have hc':s.data.toList[0]?=some c:=by rw[Array.getElem?_toList];exact hc
 have hb:Fi (c.toNat:Int)=true:=by
  rw[←Ox]
  cases hl:s.data.toList with
  | nil=> rw[hl] at hc';cases hc'
  | cons d l=>
    rw[hl] at hc' q3
    cases hc'
    exact q3
 refine⟨hb,fun _ _=> ?_⟩
 refine aq (X:=Unit) [0] [] s.size (fun _ _=> True) (fun _=> []) (fun _=> []) () (by simp) (by simp) (by omega) (by simp) (by simp) trivial (by simp) (by simp) ?_ ?_
 ·rintro k -hk -
  obtain⟨d,hd⟩:=jI (show k < s.data.toList.length by omega)
  have hg:TL (d.toNat:Int)=true:=by rw[←Vj];exact List.all_eq_true.1 q4 d (List.mem_of_getElem? hd)
  have hd':s.data[k]?=some d:=by rw[←Array.getElem?_toList];exact hd
  obtain⟨_,hgd⟩:=Array.getElem?_eq_some_iff.1 hd'
  simp[hk,hd',hgd,hg,h2, -Bool.forall_bool, -Bool.exists_bool]
 ·rintro - -
  simp[-Bool.forall_bool, -Bool.exists_bool]
theorem tm (h1:S cX=s_cpVal):aN ip gP S (a1 B) (fun s=> sj s=true) (enc (X:=Int)) fun _ y=> y=0:=by
 rintro s hs
 have hs:sj s=true:=hs
 unfold sj at hs
 simp only[Bool.and_eq_true,decide_eq_true_eq] at hs
 obtain⟨q1,q2⟩:=hs
 have ha:qR s=true:=by
  unfold qR
  refine List.all_eq_true.2 fun c hc=> ?_
  have:=List.all_eq_true.1 q2 c hc
  simp at this
  simp
  omega
 have r1: (s.size:Int)≤120:=by omega
 have r2: (s.size:Int)≤9223372036854775807:=by omega
 have r3:s.size≤1000:=by omega
 have r4: ¬ (120:Int) < (s.size:Int):=by omega
 simp[ip,gP,h1,ha,r1,r2,r3,r4, -Bool.forall_bool, -Bool.exists_bool]
 intro b
 refine bq (X:=Nat) [] [] (fun p=> p≤s.size) (fun p=> [(14, .bptr 14 b 0)]) (fun p=> [(14, .iter b s p)]) (fun p=> s.size -p) 0 (Nat.zero_le _) (by simp) (by simp) ?_
 rintro p hp
 by_cases hlt:p < s.size
 ·obtain⟨c,hc,hc128,hdec⟩:=DJ ha hlt
  have hcm:=List.all_eq_true.1 q2 c (List.mem_of_getElem? hc)
  simp at hcm
  have n1: ¬ (c.toNat:Int)≤31:=by omega
  have n2: ¬ (c.toNat:Int)=127:=by omega
  simp[hlt,hdec,n1,n2, -Bool.forall_bool, -Bool.exists_bool]
  exact⟨p+1,by omega, .inl rfl,by omega⟩
 ·have hpe:p=s.size:=by omega
  subst hpe
  simp[-Bool.forall_bool, -Bool.exists_bool]
end Go.Gv

namespace Go.Gv
open Cod (enc dec)
variable {S S0:Nat→Spc}
def J9 (s:B):List B:=if s=⟨#[124,112,124]⟩ then[⟨#[112]⟩] else if s=⟨#[124,112,124,113,124]⟩ then[⟨#[112]⟩,⟨#[113]⟩] else if s=⟨#[124,113,124]⟩ then[⟨#[113]⟩] else[]
abbrev Ah:Spc:=cv (a1 B) (fun s=> s∈featS) (tG (Y:=List B) (Z:=Int)) fun s y=> y=(J9 s,0)
set_option maxHeartbeats 1000000 in
theorem FK (h1:S aR=rO):vc S cu (oJ ct fun r H'=> Fin (tG (Y:=List B) (Z:=Int)) (fun y=> y=([⟨#[112]⟩],0)) r H') (dC ((a1 B).view (⟨#[124,112,124]⟩:B))) df:=by
 have hv:sj ⟨#[124,112,124]⟩=true:=by decide
 have hsz: (⟨#[124,112,124]⟩:B).size=3:=rfl
 have x1: ((⟨#[124,112,124]⟩:B).extract 1 2)=⟨#[112]⟩:=by decide
 simp[cu,ct,h1,hv,hsz, -Bool.forall_bool, -Bool.exists_bool]
 refine⟨by simp[InR],?_⟩
 refine bq (X:=Int×Int×Value×List B) [0] [] (fun z=> z.1=1∧z.2.1=1∧z.2.2.2=([]:List B)∨z.1=1∧z.2.1=2∧z.2.2.2=([]:List B)∨z.1=3∧z.2.1=3∧z.2.2.2=([⟨#[112]⟩]:List B)) (fun z=> [(5, .own 51 z.2.2.1),(6,enc z.1),(7,enc z.2.1)]) (fun z=> [(51, .row z.2.2.1 ai 1 (z.2.2.2.map enc))]) (fun z=> (3 -z.2.1).toNat) (1,1, .slice none 0 0, []) (by simp) (by simp) (by simp[isNilRow]) ?_
 rintro⟨f,i,v,l⟩ hz
 simp only at hz
 rcases hz with⟨rfl,rfl,rfl⟩ | ⟨rfl,rfl,rfl⟩ | ⟨rfl,rfl,rfl⟩
 ·simp[hsz,x1, -Bool.forall_bool, -Bool.exists_bool]
  exact⟨by simp[InR],1,2,v, [],by simp,⟨⟨rfl,rfl,rfl⟩, .inl ⟨rfl,rfl⟩⟩,by omega⟩
 ·simp[hsz,x1, -Bool.forall_bool, -Bool.exists_bool]
  exact fun v=> ⟨by simp[InR],3,3,v, [⟨#[112]⟩],by simp,⟨⟨rfl,rfl,rfl⟩, .inl ⟨rfl,rfl⟩⟩,by omega⟩
 ·simp[hsz, -Bool.forall_bool, -Bool.exists_bool]
  refine bq (X:=Int) [5] [51] (fun i=> i=1) (fun i=> [(8,enc i)]) (fun _=> []) (fun i=> (3 -i).toNat) 1 (by simp) (by simp) (by simp) ?_
  rintro i hi
  subst hi
  simp[-Bool.forall_bool, -Bool.exists_bool]
  exact jQ (l:=([⟨#[112]⟩]:List B)) ai rfl
set_option maxHeartbeats 1000000 in
theorem B9 (h1:S aR=rO):vc S cu (oJ ct fun r H'=> Fin (tG (Y:=List B) (Z:=Int)) (fun y=> y=([⟨#[112]⟩,⟨#[113]⟩],0)) r H') (dC ((a1 B).view (⟨#[124,112,124,113,124]⟩:B))) df:=by
 have hv:sj ⟨#[124,112,124,113,124]⟩=true:=by decide
 have hsz: (⟨#[124,112,124,113,124]⟩:B).size=5:=rfl
 have x1: ((⟨#[124,112,124,113,124]⟩:B).extract 1 2)=⟨#[112]⟩:=by decide
 have x3: ((⟨#[124,112,124,113,124]⟩:B).extract 3 4)=⟨#[113]⟩:=by decide
 simp[cu,ct,h1,hv,hsz, -Bool.forall_bool, -Bool.exists_bool]
 refine⟨by simp[InR],?_⟩
 refine bq (X:=Int×Int×Value×List B) [0] [] (fun z=> z.1=1∧z.2.1=1∧z.2.2.2=([]:List B)∨z.1=1∧z.2.1=2∧z.2.2.2=([]:List B)∨z.1=3∧z.2.1=3∧z.2.2.2=([⟨#[112]⟩]:List B)∨z.1=3∧z.2.1=4∧z.2.2.2=([⟨#[112]⟩]:List B)∨z.1=5∧z.2.1=5∧z.2.2.2=([⟨#[112]⟩,⟨#[113]⟩]:List B)) (fun z=> [(5, .own 51 z.2.2.1),(6,enc z.1),(7,enc z.2.1)]) (fun z=> [(51, .row z.2.2.1 ai 1 (z.2.2.2.map enc))]) (fun z=> (5 -z.2.1).toNat) (1,1, .slice none 0 0, []) (by simp) (by simp) (by simp[isNilRow]) ?_
 rintro⟨f,i,v,l⟩ hz
 simp only at hz
 rcases hz with⟨rfl,rfl,rfl⟩ | ⟨rfl,rfl,rfl⟩ | ⟨rfl,rfl,rfl⟩ | ⟨rfl,rfl,rfl⟩ | ⟨rfl,rfl,rfl⟩
 ·simp[hsz,x1,x3, -Bool.forall_bool, -Bool.exists_bool]
  exact⟨by simp[InR],1,2,v, [],by simp,⟨⟨rfl,rfl,rfl⟩, .inl ⟨rfl,rfl⟩⟩,by omega⟩
 ·simp[hsz,x1,x3, -Bool.forall_bool, -Bool.exists_bool]
  exact fun v=> ⟨by simp[InR],3,3,v, [⟨#[112]⟩],by simp,⟨⟨rfl,rfl,rfl⟩, .inl ⟨rfl,rfl⟩⟩,by omega⟩
 ·simp[hsz,x1,x3, -Bool.forall_bool, -Bool.exists_bool]
  exact⟨by simp[InR],3,4,v, [⟨#[112]⟩],by simp,⟨⟨rfl,rfl,rfl⟩, .inl ⟨rfl,rfl⟩⟩,by omega⟩
 ·simp[hsz,x1,x3, -Bool.forall_bool, -Bool.exists_bool]
  exact fun v=> ⟨by simp[InR],5,5,v, [⟨#[112]⟩,⟨#[113]⟩],by simp,⟨⟨rfl,rfl,rfl⟩, .inl ⟨rfl,rfl⟩⟩,by omega⟩
 ·simp[hsz, -Bool.forall_bool, -Bool.exists_bool]
  refine bq (X:=Int) [5] [51] (fun i=> i=1∨i=2) (fun i=> [(8,enc i)]) (fun _=> []) (fun i=> (3 -i).toNat) 1 (by simp) (by simp) (by simp) ?_
  rintro i hi
  rcases hi with rfl | rfl
  ·simp[-Bool.forall_bool, -Bool.exists_bool]
   exact⟨by simp[InR],by decide,fun _=> by simp[InR]⟩
  ·simp[-Bool.forall_bool, -Bool.exists_bool]
   exact jQ (l:=([⟨#[112]⟩,⟨#[113]⟩]:List B)) ai rfl
set_option maxHeartbeats 1000000 in
theorem FJ (h1:S aR=rO):vc S cu (oJ ct fun r H'=> Fin (tG (Y:=List B) (Z:=Int)) (fun y=> y=([⟨#[113]⟩],0)) r H') (dC ((a1 B).view (⟨#[124,113,124]⟩:B))) df:=by
 have hv:sj ⟨#[124,113,124]⟩=true:=by decide
 have hsz: (⟨#[124,113,124]⟩:B).size=3:=rfl
 have x1: ((⟨#[124,113,124]⟩:B).extract 1 2)=⟨#[113]⟩:=by decide
 simp[cu,ct,h1,hv,hsz, -Bool.forall_bool, -Bool.exists_bool]
 refine⟨by simp[InR],?_⟩
 refine bq (X:=Int×Int×Value×List B) [0] [] (fun z=> z.1=1∧z.2.1=1∧z.2.2.2=([]:List B)∨z.1=1∧z.2.1=2∧z.2.2.2=([]:List B)∨z.1=3∧z.2.1=3∧z.2.2.2=([⟨#[113]⟩]:List B)) (fun z=> [(5, .own 51 z.2.2.1),(6,enc z.1),(7,enc z.2.1)]) (fun z=> [(51, .row z.2.2.1 ai 1 (z.2.2.2.map enc))]) (fun z=> (3 -z.2.1).toNat) (1,1, .slice none 0 0, []) (by simp) (by simp) (by simp[isNilRow]) ?_
 rintro⟨f,i,v,l⟩ hz
 simp only at hz
 rcases hz with⟨rfl,rfl,rfl⟩ | ⟨rfl,rfl,rfl⟩ | ⟨rfl,rfl,rfl⟩
 ·simp[hsz,x1, -Bool.forall_bool, -Bool.exists_bool]
  exact⟨by simp[InR],1,2,v, [],by simp,⟨⟨rfl,rfl,rfl⟩, .inl ⟨rfl,rfl⟩⟩,by omega⟩
 ·simp[hsz,x1, -Bool.forall_bool, -Bool.exists_bool]
  exact fun v=> ⟨by simp[InR],3,3,v, [⟨#[113]⟩],by simp,⟨⟨rfl,rfl,rfl⟩, .inl ⟨rfl,rfl⟩⟩,by omega⟩
 ·simp[hsz, -Bool.forall_bool, -Bool.exists_bool]
  refine bq (X:=Int) [5] [51] (fun i=> i=1) (fun i=> [(8,enc i)]) (fun _=> []) (fun i=> (3 -i).toNat) 1 (by simp) (by simp) (by simp) ?_
  rintro i hi
  subst hi
  simp[-Bool.forall_bool, -Bool.exists_bool]
  exact jQ (l:=([⟨#[113]⟩]:List B)) ai rfl
theorem yB (h1:S aR=rO):aN cu ct S (a1 B) (fun s=> s∈featS) (tG (Y:=List B) (Z:=Int)) fun s y=> y=(J9 s,0):=by
 rintro s hs
 have hs:s∈featS:=hs
 simp only[featS,List.mem_cons,List.not_mem_nil,or_false] at hs
 rcases hs with rfl | rfl | rfl | rfl
 ·have hv:sj ⟨#[124]⟩=true:=by decide
  have e:J9 ⟨#[124]⟩= []:=by decide
  simp[cu,ct,h1,hv,e, -Bool.forall_bool, -Bool.exists_bool]
 ·exact FK h1
 ·exact B9 h1
 ·exact FJ h1
abbrev Iw:Spc:=cv (a2 (List B) B) (fun _=> True) (enc (X:=Bool)) fun x y=> y=nk x.1 x.2
theorem tT:aN iS iI S (a2 (List B) B) (fun _=> True) (enc (X:=Bool)) fun x y=> y=nk x.1 x.2:=by
 rintro⟨l,s⟩ -
 simp[iS,iI, -Bool.forall_bool, -Bool.exists_bool]
 intro hl
 refine aq (X:=Unit) [1,7] [] l.length (fun k _=> ∀x∈l.take k,decide (x=s)=false) (fun _=> []) (fun _=> []) () (by simp) (by simp) (by omega) (by simp) (by simp) (by simp) (by simp) (by simp) ?_ ?_
 ·intro k _ hk hP
  obtain⟨x,hx⟩:=jI hk
  obtain⟨_,hgx⟩:=List.getElem?_eq_some_iff.1 hx
  simp[hk,hx,hgx, -Bool.forall_bool, -Bool.exists_bool]
  refine⟨fun h=> ?_,fun h=> ?_⟩
  ·have:nk l s=true:=List.any_eq_true.2 ⟨x,List.mem_of_getElem? hx,by simp[h]⟩
   exact this
  ·rw[dM hx]
   intro z hz
   rcases List.mem_append.1 hz with hz | hz
   ·have:=hP z hz
    simpa using this
   ·simp at hz;subst hz
    exact h
 ·intro _ hP
  rw[List.take_length] at hP
  simp[-Bool.forall_bool, -Bool.exists_bool]
  have:nk l s=false:=by
   rw[nk,List.any_eq_false]
   intro x hx
   rw[hP x hx]
   simp
  exact this
theorem Ce (h1:S gk=Ah) (h2:S ef=Iw):aN nF na S (a2 B B) (fun x=> ∃b,EZ x.1 x.2=some b) (enc (X:=Bool)) fun x y=> EZ x.1 x.2=some y:=by
 rintro⟨s,f⟩ ⟨b,hb⟩
 have hb:EZ s f=some b:=hb
 have hb0:=hb
 unfold EZ at hb
 split at hb
 rotate_left
 ·cases hb
 rename_i hc
 obtain⟨c1,c2⟩:=hc
 obtain⟨z,hz,hze⟩:=List.any_eq_true.1 c1
 obtain rfl:z=s:=of_decide_eq_true hze
 have e:nk (J9 z) f=b:=by
  have hb:=Option.some.inj hb
  rw[←hb]
  simp only[featS,List.mem_cons,List.not_mem_nil,or_false] at hz
  rcases hz with rfl | rfl | rfl | rfl <;> rcases c2 with rfl | rfl <;> decide
 simp[nF,na,h1,h2,hz,e, -Bool.forall_bool, -Bool.exists_bool]
 exact hb0
end Go.Gv

namespace Go.Gv
section
variable {P:Program} {im:List Nat} {E:q7} {S:Nat→Spc}
end
end Go.Gv
