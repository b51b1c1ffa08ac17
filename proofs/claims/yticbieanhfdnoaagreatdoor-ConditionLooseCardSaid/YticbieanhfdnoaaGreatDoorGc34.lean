/- A part of the framework and of the walks: T33 C55 W140 W141. -/
import Derived.Test.YticbieanhfdnoaaGreatDoorGc29
import Derived.Test.YticbieanhfdnoaaGreatDoorGc30
import Derived.Test.YticbieanhfdnoaaGreatDoorGc21
set_option linter.unusedSimpArgs false
set_option linter.unusedVariables false
set_option linter.unusedSectionVars false
set_option maxRecDepth 100000

namespace Go.Gv
open Cod (enc dec)
structure qgV where
 v:Value
 v':Value
 t:Tbk
def mK (v v':Value) (t:Tbk):List D:= [.own 990 v, .v (.int .u64 t.fi.val), .v (.int .u64 t.la.val), .own 991 v', .v (.bool t.nul)]
def kP (v:Value) (l:List (List Rng)):Res:= .row v cT 1 (l.map enc)
def kQ (v:Value) (l:List U64):Res:= .row v dL 1 (l.map enc)
def tbB:vd qgV:=⟨[990,991],fun x=> mK x.v x.v' x.t,fun x=> [(990,kP x.v x.t.lvs),(991,kQ x.v' x.t.fol)],fun _=> rfl⟩
section
variable {Y Z:Type}
def O5 (A:gK Z) (er:Y→D) (F:Tbk→Z→Option (Tbk×Y)):Spc:=qdY tbB A er (fun s z=> ∃r,F s.t z=some r) (fun s z s' y=> F s.t z=some (s'.t,y))
def ph (H:aa) (id b:Nat) (v v':Value) (t:Tbk):aa:=aj (aj (aj H 991 (some (kQ v' t.fol))) 990 (some (kP v t.lvs))) id (some (.box b (mK v v' t)))
def FR (er:Y→D) (F:Tbk→Z→Option (Tbk×Y)) (id b:Nat) (r r1 r2:Option Res) (o:Option Z) (H:aa) (K:D→aa→Prop):Prop:=
 ∃v v' t,r=some (.box b (mK v v' t))∧r1=some (kP v t.lvs)∧r2=some (kQ v' t.fol)∧id≠990∧id≠991∧iN o fun z=> iN (F t z) fun q=> ∀w w',K (er q.2) (ph H id b w w' q.1)
@[congr] theorem WH {er:Y→D} {F:Tbk→Z→Option (Tbk×Y)} {id b:Nat} {r r' r1 r1' r2 r2':Option Res} {o o':Option Z} {H:aa} {K:D→aa→Prop} (h1:r=r') (h2:r1=r1') (h3:r2=r2') (h4:o=o'):FR er F id b r r1 r2 o H K=FR er F id b r' r1' r2' o' H K:=by subst h1;subst h2;subst h3;subst h4;rfl
theorem uD {X:Type} [Cod X]: ∀ {l l':List X},l.map enc=l'.map enc→l=l'
 | [], [],_=> rfl
 | [],_::_,h=> by simp at h
 | _::_, [],h=> by simp at h
 | a::l,b::l',h=> by
   rw[List.map_cons,List.map_cons,List.cons.injEq] at h
   rw[bU h.1,uD h.2]
theorem MM {v v':Value} {l l':List (List Rng)} (h:kP v l=kP v' l'):v=v'∧l=l':=by
 unfold kP at h
 injection h with h1 h2 h3 h4
 exact⟨h1,uD h4⟩
theorem MN {v v':Value} {l l':List U64} (h:kQ v l=kQ v' l'):v=v'∧l=l':=by
 unfold kQ at h
 injection h with h1 h2 h3 h4
 exact⟨h1,uD h4⟩
theorem Mo {b b':Nat} {v v' w w':Value} {t t':Tbk} (h:Res.box b (mK v v' t)=Res.box b' (mK w w' t')) (h1:kP v t.lvs=kP w t'.lvs) (h2:kQ v' t.fol=kQ w' t'.fol):b=b'∧v=w∧v'=w'∧t=t':=by
 obtain⟨e1,e2⟩:=MM h1
 obtain⟨e3,e4⟩:=MN h2
 obtain⟨hb,hc⟩:=Res.box.inj h
 simp only[mK,List.cons.injEq,D.own.injEq,D.v.injEq,Value.int.injEq,Value.bool.injEq,true_and,and_true] at hc
 obtain⟨_,⟨c1,c2,_,c3⟩⟩:=hc
 refine⟨hb,e1,e3,?_⟩
 obtain⟨a1,⟨a2⟩,⟨a3⟩,a4,a5⟩:=t
 obtain⟨b1,⟨b2⟩,⟨b3⟩,b4,b5⟩:=t'
 simp only at e2 e4 c1 c2 c3
 subst e2;subst e4;subst c1;subst c2;subst c3
 rfl
theorem Mp (x:qgV) (H:aa) (id b:Nat):aj (eT (tbB.hp x) H) id (some (.box b (tbB.ce x)))=ph H id b x.v x.v' x.t:=by
 rfl
theorem Id (A:gK Z) (er:Y→D) (F:Tbk→Z→Option (Tbk×Y)) (d i b:Nat) (ds:List D) (H:aa) (K:D→aa→Prop): (O5 A er F).pt d (.bptr i b 0::ds) H K=FR er F i b (H i) (H 990) (H 991) (A.dec ds) H K:=by
 refine propext ⟨fun h=> ?_,fun h=> ?_⟩
 ·obtain⟨id,b',x,z,ds',h1,h2,h3,h4,h5,h6,h7⟩:=h
  cases h1
  simp only[tbB,List.mem_cons,List.not_mem_nil,or_false,not_or] at h5
  refine⟨x.v,x.v',x.t,h3,h4 (990,kP x.v x.t.lvs) (by simp[tbB]),h4 (991,kQ x.v' x.t.fol) (by simp[tbB]),h5.1,h5.2,?_⟩
  rw[h2]
  obtain⟨⟨t',y⟩,hr⟩:=h6
  show iN (F x.t z) _
  rw[hr]
  intro w w'
  have:=h7 ⟨w,w',t'⟩ y hr
  rwa [Mp] at this
 ·obtain⟨v,v',t,h1,h2,h3,h4,h5,h6⟩:=h
  cases hz:A.dec ds with
  | none=> rw[hz] at h6;exact h6.elim
  | some z=>
    rw[hz] at h6
    have h6:iN (F t z) fun q=> ∀w w',K (er q.2) (ph H i b w w' q.1):=h6
    cases hF:F t z with
    | none=> rw[hF] at h6;exact h6.elim
    | some q=>
      rw[hF] at h6
      have h6: ∀w w',K (er q.2) (ph H i b w w' q.1):=h6
      refine⟨i,b,⟨v,v',t⟩,z,ds,rfl,hz,h1,fun p hp=> ?_,by simp[tbB,h4,h5],⟨q,hF⟩,fun x' y hq=> ?_⟩
      ·simp only[tbB,List.mem_cons,List.not_mem_nil,or_false] at hp
       rcases hp with rfl | rfl
       ·exact h2
       ·exact h3
      ·have hq:F t z=some (x'.t,y):=hq
       rw[hF] at hq
       cases hq
       rw[Mp]
       exact h6 x'.v x'.v'
theorem P2 (A:gK Z) (er:Y→D) (F:Tbk→Z→Option (Tbk×Y)) (b:Nat) (ds:List D):Ta 0 (O5 A er F).pt (.bptr 0 b 0::ds):=by
 refine⟨fun R=> FR er F 0 b (R 0) (R 990) (R 991) (A.dec ds) R fun _ _=> True,fun R d u=> ∃v v' t z q w w',R 0=some (.box b (mK v v' t))∧R 990=some (kP v t.lvs)∧R 991=some (kQ v' t.fol)∧A.dec ds=some z∧F t z=some q∧d=er q.2∧u= [(0, .box b (mK w w' q.1)),(990,kP w q.1.lvs),(991,kQ w' q.1.fol)],fun t H K=> ?_⟩
 rw[Id]
 have r0:nc H (some 0) 0=H 0:=by simp only[nc];exact if_pos rfl
 have r1:nc H (some 0) 990=H 990:=by simp only[nc];exact if_pos rfl
 have r2:nc H (some 0) 991=H 991:=by simp only[nc];exact if_pos rfl
 show _↔FR er F 0 b (nc H (some 0) 0) (nc H (some 0) 990) (nc H (some 0) 991) (A.dec ds) (nc H (some 0)) (fun _ _=> True)∧ ∀d u,(∃v v' t z q w w',nc H (some 0) 0=some (.box b (mK v v' t))∧nc H (some 0) 990=some (kP v t.lvs)∧nc H (some 0) 991=some (kQ v' t.fol)∧A.dec ds=some z∧F t z=some q∧d=er q.2∧u= [(0, .box b (mK w w' q.1)),(990,kP w q.1.lvs),(991,kQ w' q.1.fol)])→K d (gD H (some 0) u)
 rw[r0,r1,r2]
 have hp: ∀ (w w':Value) (q:Tbk),gD H (some 0) [(0, .box b (mK w w' q)),(990,kP w q.lvs),(991,kQ w' q.fol)]=ph H 0 b w w' q:=fun w w' q=> by
  funext i
  simp only[gD,ph,aj]
  by_cases h0:i=0
  ·subst h0;rfl
  ·by_cases h1:i=990
   ·subst h1;rfl
   ·by_cases h2:i=991
    ·subst h2;rfl
    ·have e: ([(0, .box b (mK w w' q)),(990,kP w q.lvs),(991,kQ w' q.fol)]:List (Nat×Res)).lookup i=none:=by
      have e0: (i==0)=false:=by simp[h0]
      have e1: (i==990)=false:=by simp[h1]
      have e2: (i==991)=false:=by simp[h2]
      simp only[List.lookup,e0,e1,e2]
     rw[e,if_neg h0,if_neg h1,if_neg h2]
     split <;> rfl
 constructor
 ·rintro⟨v,v',t,h1,h2,h3,h4,h5,h6⟩
  cases hz:A.dec ds with
  | none=> rw[hz] at h6;exact h6.elim
  | some z=>
    rw[hz] at h6
    have h6:iN (F t z) fun q=> ∀w w',K (er q.2) (ph H 0 b w w' q.1):=h6
    cases hF:F t z with
    | none=> rw[hF] at h6;exact h6.elim
    | some q=>
      rw[hF] at h6
      have h6: ∀w w',K (er q.2) (ph H 0 b w w' q.1):=h6
      refine⟨⟨v,v',t,h1,h2,h3,h4,h5,?_⟩,?_⟩
      ·show iN (F t z) _
       rw[hF]
       exact fun _ _=> trivial
      ·rintro d u ⟨v1,v1',t1,z1,q1,w,w',g1,g2,g3,g4,g5,rfl,rfl⟩
       rw[h1] at g1;rw[h2] at g2;rw[h3] at g3
       obtain⟨_,_,_,rfl⟩:=Mo (Option.some.inj g1) (Option.some.inj g2) (Option.some.inj g3)
       cases g4
       rw[hF] at g5
       cases g5
       rw[hp]
       exact h6 w w'
 ·rintro⟨⟨v,v',t,h1,h2,h3,h4,h5,h6⟩,h7⟩
  refine⟨v,v',t,h1,h2,h3,h4,h5,?_⟩
  cases hz:A.dec ds with
  | none=> rw[hz] at h6;exact h6.elim
  | some z=>
    rw[hz] at h6
    have h6:iN (F t z) fun q=> ∀w w':Value,True:=h6
    show iN (F t z) _
    cases hF:F t z with
    | none=> rw[hF] at h6;exact h6.elim
    | some q=>
      intro w w'
      have:=h7 (er q.2) _ ⟨v,v',t,z,q,w,w',h1,h2,h3,hz,hF,rfl,rfl⟩
      rwa [hp] at this
theorem MY (A:gK Z) (er:Y→D) (F:Tbk→Z→Option (Tbk×Y)) (b:Nat) (dst:Option Nat) (ds:List D) (H:aa) (K:D→aa→Prop):C7 0 dst (O5 A er F) (.bptr 0 b 0::ds) H K=FR er F 0 b (H 0) (H 990) (H 991) (A.dec ds) H K:=by
 rw[←Id A er F (dst.getD 0)]
 exact propext ⟨fun h=> h.2,fun h=> ⟨P2 A er F b ds,h⟩⟩
theorem RB (er:Y→D) (F:Tbk→Z→Option (Tbk×Y)) (id b:Nat) (v v':Value) (f l:Int) (n:Bool) (lv:List (List Rng)) (fo:List U64) (o:Option Z) (H:aa) (K:D→aa→Prop):
 FR er F id b (some (.box b [.own 990 v, .v (.int .u64 f), .v (.int .u64 l), .own 991 v', .v (.bool n)])) (some (.row v cT 1 (lv.map enc))) (some (.row v' dL 1 (fo.map enc))) o H K=(id≠990∧id≠991∧iN o fun z=> iN (F ⟨lv,⟨f⟩,⟨l⟩,fo,n⟩ z) fun q=> ∀w w',K (er q.2) (ph H id b w w' q.1)):=by
 refine propext ⟨fun⟨w,w',t,h1,h2,h3,h4,h5,h6⟩=> ⟨h4,h5,?_⟩,fun h=> ⟨v,v',⟨lv,⟨f⟩,⟨l⟩,fo,n⟩,rfl,rfl,rfl,h.1,h.2.1,h.2.2⟩⟩
 obtain⟨_,_,_,e⟩:=Mo (t:=⟨lv,⟨f⟩,⟨l⟩,fo,n⟩) (t':=t) (b:=b) (b':=b) (Option.some.inj h1) (Option.some.inj h2) (Option.some.inj h3)
 subst e
 exact h6
def HL (er:Y→D) (b:Nat) (post:Tbk→Y→Prop) (r:D) (H:aa):Prop:=yx tbB er b (fun s y=> post s.t y) r H
theorem Rd {er:Y→D} {b:Nat} {post:Tbk→Y→Prop} {r:D} {H:aa} (v v':Value) (t:Tbk) (y:Y) (hr:FrzTo (fun i=> if i=0∨i=990∨i=991 then none else H i) r (er y)) (h0:H 0=some (.box b (mK v v' t))) (h1:H 990=some (kP v t.lvs)) (h2:H 991=some (kQ v' t.fol)) (hq:post t y):HL er b post r H:=
 ⟨⟨v,v',t⟩,y,by simpa [tbB] using hr,h0,fun p hp=> by
  simp only[tbB,List.mem_cons,List.not_mem_nil,or_false] at hp
  rcases hp with rfl | rfl
  ·exact h1
  ·exact h2,hq⟩
def yf (cc:CC) (rs:List au) (S:Nat→Spc) (A:gK Z) (er:Y→D) (F:Tbk→Z→Option (Tbk×Y)):Prop:=
 ∀b v v' t z r,F t z=some r→vc S cc (oJ rs fun d H'=> HL er b (fun t' y=> r=(t',y)) d H') (dC (.bptr 0 b 0::A.view z)) (ph df 0 b v v' t)
variable {P:Program} {S:Nat→Spc} {f:Nat} {im:List Nat} {cc:CC} {rs:List au} {N:Nat}
theorem mU {A:gK Z} {er:Y→D} {F:Tbk→Z→Option (Tbk×Y)} (hS: ∀f,Tri P f (S f).pt) (h:ay P f im cc rs N) (hN: ∀z,(A.view z).length+1≤N) (hw:yf cc rs S A er F):Tri P f (O5 A er F).pt:=
 zK (by simp[tbB]) hS h hN fun b x z hp=> by
  obtain⟨r,hr⟩:=hp
  rw[Mp]
  have:=hw b x.v x.v' x.t z r hr
  have e: (fun(d:D) (H':aa)=> yx tbB er b (fun s' y=> F x.t z=some (s'.t,y)) d H')=fun d H'=> HL er b (fun t' y=> r=(t',y)) d H':=by
   funext d H'
   unfold HL
   congr 1
   funext s' y
   rw[hr]
   exact propext ⟨fun h=> Option.some.inj h,fun h=> congrArg some h⟩
  rw[e]
  exact this
end
@[simp] theorem YN (m:U64) (i:Nat):decide (Js .u64 (MB .u64 m.val i) 1=1)=LT m i:=id rfl
end Go.Gv

namespace Go.Gv
open Go.Proofs
def qN:CC:=oX [oB 1 (.box aA true (oT 0)),oB 2 (.mv (.const (.pointer none)))] [1] [] (eC 1 (.reg [oB 5 (.build [on,.int .u64 0,.int .u64 0,on,ob] []),oB 6 (.box yE false (oT 5)),oA 3 6]) (.keep [1,3] [6,990,991] (oX [oA 7 3,oD 8 5 1,oZ 9 ax [oT 7,oT 8],oB 4 (.alloc bk [.int .u64 0,.int .u64 0,ob]),
 oF 3 4 9] [3,4] [4,6,990,991] (.seq (.regd [oA 10 3,oA 11 3,oA 12 3,oE 13 0 4,oC 14 1 13,oE 15 1 4,oC 16 1 15,oE 17 2 4,oC 18 1 17,oG 19 10,oE 20 1 19,.op none none (.store (some 6) 1 (oT 20) (oT 14)),oG 21 11,oE 22 2 21,.op none none (.store (some 6) 1 (oT 22) (oT 16))] [oG 23 12,oE 24 4 23,.op none none (.store (some 6) 1 (oT 24) (oT 18))])
 (.keep [3] [6,990,991] (eC 4 (.reg [oA 25 3,oA 2 25]) (.keep [2] [6,990,991] (.ret))))))))
def qd:List au:= [.tmp 2]
def EW:List Nat:= [1,2024006,2022006,2020006]
theorem EB:ay Tryz.prog lR EW qN qd 26:=ap mixed (by kernel_rfl)
-- follow_Table_link range i=12 n=11 c=13 i2=30 id=0: live [0:t, 1:from, 2:to] changed [] res [0]
def ir:CC:=oX [oA 7 0,oG 8 7,oE 9 3 8,oC 10 1 9,oB 11 (.len (oT 10)),oB 12 (.mv (oN 0))] [0,1,2,11,12] [0,990,991] (aw 0 12 11 13 1 (oX [oA 14 12,oA 6 14] [0,1,2,6,11,12] [0,990,991] (oX [oA 15 1,oA 16 6,oB 17 (.arith .shr (oT 15) (oT 16)),oB 18 (.arith .and (oT 17) (.const (.int .u64 1))),
 oB 19 (.eql false false [.int] (oT 18) (.const (.int .u64 1)))] [0,1,2,6,11,12,19] [0,990,991] (.ite (oT 19) (.reg [oA 20 0,oG 21 20,oE 22 3 21,oC 23 1 22,oA 24 6,oB 25 (.iaddr 1 (oT 23) (oT 24)),oC 26 1 25,oA 27 2,oB 28 (.arith .or (oT 26) (oT 27)),oB 29 (.iaddr 1 (oT 23) (oT 24)),oF 1 29 28]) (.skip)))) 30)
def gR:List au:= []
def sy:List Nat:= []
theorem r8:ay Tryz.prog bF sy ir gR 31:=ap mixed (by kernel_rfl)
def gb:CC:=oX [oB 4 (.box bk true (oT 1)),oB 5 (.box bk true (oT 2)),oB 6 (.alloc bk [.int .u64 0,.int .u64 0,ob])] [0,4,5,6] [0,6,990,991] (oX [oA 8 0,oE 9 1 4,oC 10 1 9,oE 11 0 5,oC 12 1 11,oZ 13 bF [oT 8,oT 10,oT 12]] [4,5,6] [0,6,990,991] (oX [oE 14 0 4,oC 15 1 14,oE 16 1 5,oC 17 1 16,oE 18 2 4,
 oC 19 1 18,oA 20 19,oH 21 20 (.faddr 2 (oT 5)),oH 22 20 (.load false 1 (oT 21)),oB 23 (.pick (oT 20) (oT 22) (.const ob)),oB 24 (.build [.int .u64 0,.int .u64 0,ob] [(0,1,oT 15),(1,1,oT 17),(2,1,oT 23)]),oB 7 (.alloc bk [.int .u64 0,.int .u64 0,ob]),oF 3 7 24] [4,5,6,7] [0,6,7,990,991] (.seq (oX [oE 25 2 4,oC 26 1 25] [4,5,6,7,26] [0,6,7,990,991] (.ite (oT 26) (.reg [
 oE 27 0 7,oC 28 1 27,oE 29 0 5,oC 30 1 29,oB 31 (.arith .or (oT 28) (oT 30)),oE 32 0 7,oF 1 32 31]) (.skip))) (.keep [4,5,6,7] [0,6,7,990,991] (.seq (oX [oE 33 2 5,oC 34 1 33] [4,6,7,34] [0,6,7,990,991] (.ite (oT 34) (.reg [oE 35 1 7,oC 36 1 35,oE 37 1 4,oC 38 1 37,oB 39 (.arith .or (oT 36) (oT 38)),oE 40 1 7,oF 1 40 39]) (.skip))) (.keep [6,7] [0,6,7,990,991] (oX [oD 41 3 7,
 oF 3 6 41] [6] [0,6,990,991] (.ret))))))))
def fR:List au:= [.cell 6 true 3]
def qv:List Nat:= [4,5]
theorem qk:ay Tryz.prog aJ qv gb fR 42:=ap mixed (by kernel_rfl)
-- follow_Table_build range i=52 n=51 c=53 i2=62 id=1: live [0:t, 4:, 6:p, 50:] changed [] res [0, 4, 6, 31, 40]
-- follow_Table_build range i=69 n=68 c=70 i2=93 id=3: live [0:t, 4:, 9:p, 67:] changed [] res [0, 4, 9, 31, 40]
def cJ:CC:=oX [oB 3 (.box aA true (oT 1)),oB 4 (.alloc bk [.int .u64 0,.int .u64 0,ob])] [0,3,4] [0,4,31,40,990,991] (.seq (oX [oE 13 0 3,oC 14 1 13] [0,3,4,14] [0,4,31,40,990,991] (.block 0 (oX [oB 16 (.eql false false [.int] (oT 14) (oN 1)),oA 15 16] [0,3,4,14,15] [0,4,31,40,990,991] (.ite (oT 15) (oX [oA 17 0,oG 18 17,oE 19 0 18,oC 20 1 19,
 oB 21 (.len (oT 20)),oB 22 (.arith .shl (.const (.int .u64 1)) (oT 21)),oA 5 22] [0,3,4,5] [0,4,31,40,990,991] (.seq (.regd [oA 23 0,oA 24 0,oG 25 24,oE 26 0 25,oC 27 1 26,oE 28 3 3,oC 29 1 28,oB 30 (.bslice cT 1 [oT 29]),.frz 0 0,oB 31 (.append (some 990) cT 1 24 (oT 27) (oT 30))] [oG 32 23,oE 33 0 32,.op none none (.store (some 0) 1 (oT 33) (oT 31))])
 (.keep [0,4,5] [0,4,31,40,990,991] (oX [oA 34 0,oA 35 0,oG 36 35,oE 37 3 36,oC 38 1 37,oB 39 (.bslice dL 1 [.const (.int .u64 0)]),oB 40 (.append none dL 1 8 (oT 38) (oT 39)),oG 41 34,oE 42 3 41,oF 1 42 40] [4,5] [0,4,31,40,990,991] (oX [oA 43 5,oA 44 5,oB 45 (.build [.int .u64 0,.int .u64 0,ob] [(0,1,oT 43),(1,1,oT 44)]),oF 3 4 45] [4] [0,4,31,40,990,991] (.ret))))))
 (oX [oB 47 (.eql false false [.int] (oT 14) (oN 2)),oA 46 47] [0,3,4,14,46] [0,4,31,40,990,991] (.ite (oT 46) (oX [oB 48 (.build [.int .u64 0,.int .u64 0,ob] [(2,1,.const (.bool true))]),oB 6 (.alloc bk [.int .u64 0,.int .u64 0,ob]),.op none none (.store (some 6) 3 (oT 6) (oT 48))] [0,3,4,6] [0,4,6,31,40,990,991] (.seq (oX [oE 49 4 3,oC 50 1 49,oB 51 (.len (oT 50)),
 oB 52 (.mv (oN 0))] [0,4,6,50,51,52] [0,4,6,31,40,990,991] (aw 1 52 51 53 2 (oX [oB 54 (.iaddr 5 (oT 50) (oT 52)),oD 55 5 54,oB 8 (.alloc aA [oi,oi,oi,on,on]),oF 5 8 55] [0,4,6,8,50,51,52] [0,4,6,8,31,40,990,991] (.regd [oA 56 0,oD 57 3 6,oA 58 0,oD 59 5 8,oB 60 (.callb 0 ax [oT 58,oT 59])] [oZ 61 aJ [oT 56,oT 57,oT 60],
 .op none none (.store (some 6) 3 (oT 6) (oT 61))])) 62)) (.keep [4,6] [0,4,6,31,40,990,991] (oX [oD 63 3 6,oF 3 4 63] [4] [0,4,31,40,990,991] (.ret))))) (oX [oB 65 (.eql false false [.int] (oT 14) (oN 3)),oA 64 65] [0,3,4,64] [0,4,31,40,990,991] (.ite (oT 64) (oX [oB 9 (.alloc bk [.int .u64 0,.int .u64 0,ob])] [0,3,4,9] [0,4,9,31,40,990,991] (.seq (oX [oE 66 4 3,oC 67 1 66,
 oB 68 (.len (oT 67)),oB 69 (.mv (oN 0))] [0,4,9,67,68,69] [0,4,9,31,40,990,991] (aw 3 69 68 70 4 (oX [oB 71 (.iaddr 5 (oT 67) (oT 69)),oD 72 5 71,oB 11 (.alloc aA [oi,oi,oi,on,on]),oF 5 11 72] [0,4,9,11,67,68,69] [0,4,9,11,31,40,990,991] (oX [oA 73 0,oD 74 5 11,oZ 75 ax [oT 73,oT 74],oB 12 (.alloc bk [.int .u64 0,.int .u64 0,ob]),
 oF 3 12 75] [0,4,9,12,67,68,69] [0,4,9,12,31,40,990,991] (.reg [oE 76 0 9,oC 77 1 76,oE 78 0 12,oC 79 1 78,oB 80 (.arith .or (oT 77) (oT 79)),oE 81 1 9,oC 82 1 81,oE 83 1 12,oC 84 1 83,oB 85 (.arith .or (oT 82) (oT 84)),oE 86 2 9,oC 87 1 86,oA 88 87,oI 89 88 (.faddr 2 (oT 12)),oI 90 88 (.load false 1 (oT 89)),oB 91 (.pick (oT 88) (.const (.bool true)) (oT 90)),
 oB 92 (.build [.int .u64 0,.int .u64 0,ob] [(0,1,oT 80),(1,1,oT 85),(2,1,oT 91)]),oF 3 9 92]))) 93)) (.keep [4,9] [0,4,9,31,40,990,991] (oX [oD 94 3 9,oF 3 4 94] [4] [0,4,31,40,990,991] (.ret))))) (.skip))))))))) (.keep [0,3,4] [0,4,31,40,990,991] (oX [oA 95 0,oD 96 5 3,oZ 97 di [oT 95,oT 96],oF 3 4 97] [4] [0,4,31,40,990,991] (.ret))))
def cH:List au:= [.cell 4 true 3]
def rq:List Nat:= [3,3060000,1031990,2033000,2006006]
theorem rf:ay Tryz.prog ax rq cJ cH 98:=ap mixed (by kernel_rfl)
-- follow_Table_repeat range i=12 n=11 c=13 i2=54 id=0: live [0:t, 3:e, 4:, 5:p] changed [] res [0, 4, 5]
def ga:CC:=oX [oB 3 (.box aA true (oT 1)),oB 4 (.alloc bk [.int .u64 0,.int .u64 0,ob])] [0,3,4] [0,4,990,991] (oX [oB 9 (.build [.int .u64 0,.int .u64 0,ob] [(2,1,.const (.bool true))]),oB 5 (.alloc bk [.int .u64 0,.int .u64 0,ob]),.op none none (.store (some 5) 3 (oT 5) (oT 9))] [0,3,4,5] [0,4,5,990,991] (.seq (oX [oE 10 1 3,
 oC 11 1 10,oB 12 (.mv (oN 0))] [0,3,4,5,11,12] [0,4,5,990,991] (aw 0 12 11 13 1 (oX [oA 14 12,oA 6 14] [0,3,4,5,6,11,12] [0,4,5,990,991] (oX [oA 15 0,oG 16 15,oE 17 0 16,oC 18 1 17,oB 19 (.len (oT 18)),oA 7 19] [0,3,4,5,6,7,11,12] [0,4,5,990,991] (oX [oA 20 0,oE 21 4 3,oC 22 1 21,oB 23 (.iaddr 5 (oT 22) (oN 0)),oD 24 5 23,oZ 25 ax [oT 20,oT 24],
 oB 8 (.alloc bk [.int .u64 0,.int .u64 0,ob]),oF 3 8 25] [0,3,4,5,6,7,8,11,12] [0,4,5,8,990,991] (.seq (oX [oA 26 0,oG 27 26,oE 28 0 27,oC 29 1 28,oB 30 (.len (oT 29)),oA 31 7,oB 32 (.eql false false [.int] (oT 30) (oT 31))] [0,3,4,5,6,8,11,12,32] [0,4,5,8,990,991] (.ite (oT 32) (oX [oB 33 (.build [.int .u64 0,.int .u64 0,ob] [(2,1,.const (.bool true))]),
 oF 3 4 33] [4] [0,4,990,991] (.ret)) (.skip))) (.keep [0,3,4,5,6,8,11,12] [0,4,5,8,990,991] (.seq (oX [oE 34 2 3,oC 35 1 34,oB 36 (.cmp .lss (oT 35) (oN 0)),oA 37 36,oH 38 37 (.mv (oT 6)),oH 39 37 (.faddr 1 (oT 3)),oH 40 37 (.load false 1 (oT 39)),oH 41 37 (.arith .sub (oT 40) (oN 1)),oH 42 37 (.eql false false [.int] (oT 38) (oT 41)),
 oB 43 (.pick (oT 37) (oT 42) (.const ob))] [0,3,4,5,8,11,12,43] [0,4,5,8,990,991] (.ite (oT 43) (.reg [oA 44 0,oE 45 1 8,oC 46 1 45,oE 47 0 8,oC 48 1 47,oZ 49 bF [oT 44,oT 46,oT 48]]) (.skip))) (.keep [0,3,4,5,8,11,12] [0,4,5,8,990,991] (.reg [oA 50 0,oD 51 3 5,oD 52 3 8,oZ 53 aJ [oT 50,oT 51,oT 52],
 .op none none (.store (some 5) 3 (oT 5) (oT 53))])))))))) 54)) (.keep [0,3,4,5] [0,4,5,990,991] (.seq (.block 2 (oX [oE 56 2 3,oC 57 1 56,oB 58 (.cmp .lss (oT 57) (oN 0)),oA 59 58,oH 60 59 (.faddr 1 (oT 3)),oH 61 59 (.load false 1 (oT 60)),oH 62 59 (.eql false false [.int] (oT 61) (oN 0)),oB 63 (.pick (oT 59) (oT 62) (.const ob)),oA 55 63] [0,3,4,5,55] [0,4,5,990,991] (.ite (oT 55) (oX [
 oA 64 0,oE 65 4 3,oC 66 1 65,oB 67 (.iaddr 5 (oT 66) (oN 0)),oD 68 5 67,oZ 69 ax [oT 64,oT 68],.op none none (.store (some 5) 3 (oT 5) (oT 69))] [0,4,5] [0,4,5,990,991] (oX [oA 70 0,oE 71 1 5,oC 72 1 71,oE 73 0 5,oC 74 1 73,oZ 75 bF [oT 70,oT 72,oT 74]] [4,5] [0,4,5,990,991] (.reg [oE 76 2 5,
 .op none none (.store none 1 (oT 76) (.const (.bool true)))]))) (oX [oE 78 2 3,oC 79 1 78,oE 80 1 3,oC 81 1 80,oB 82 (.cmp .gtr (oT 79) (oT 81)),oA 77 82] [0,3,4,5,77] [0,4,5,990,991] (.ite (oT 77) (.regd [oA 83 0,oD 84 3 5,oA 85 0,oE 86 4 3,oC 87 1 86,oB 88 (.iaddr 5 (oT 87) (oN 0)),oD 89 5 88,oE 90 2 3,oC 91 1 90,oE 92 1 3,oC 93 1 92,oB 94 (.arith .sub (oT 91) (oT 93)),
 oB 95 (.callb 0 bp [oT 85,oT 89,oT 94])] [oZ 96 aJ [oT 83,oT 84,oT 95],.op none none (.store (some 5) 3 (oT 5) (oT 96))]) (.skip)))))) (.keep [4,5] [0,4,5,990,991] (oX [oD 97 3 5,oF 3 4 97] [4] [0,4,990,991] (.ret)))))))
def fQ:List au:= [.cell 4 true 3]
def qu:List Nat:= [3,3095000,2005005]
theorem qj:ay Tryz.prog di qu ga fQ 98:=ap mixed (by kernel_rfl)
def cL:CC:=oX [oB 4 (.box aA true (oT 1)),oB 6 (.alloc bk [.int .u64 0,.int .u64 0,ob])] [0,2,4,6] [0,6,990,991] (.seq (oX [oA 10 2,oB 11 (.eql false false [.int] (oT 10) (oN 0))] [0,2,4,6,11] [0,6,990,991] (.ite (oT 11) (oX [oB 12 (.build [.int .u64 0,.int .u64 0,ob] [(2,1,.const (.bool true))]),oF 3 6 12] [6] [0,6,990,991] (.ret)) (.skip)))
 (.keep [0,2,4,6] [0,6,990,991] (oX [oA 13 0,oG 14 13,oE 15 0 14,oC 16 1 15,oB 17 (.len (oT 16)),oA 7 17] [0,2,4,6,7] [0,6,990,991] (oX [oA 18 0,oD 19 5 4,oZ 20 ax [oT 18,oT 19],oB 8 (.alloc bk [.int .u64 0,.int .u64 0,ob]),oF 3 8 20] [0,2,4,6,7,8] [0,6,8,990,991] (.seq (oX [oA 21 0,oG 22 21,oE 23 0 22,oC 24 1 23,oB 25 (.len (oT 24)),oA 26 7,
 oB 27 (.eql false false [.int] (oT 25) (oT 26))] [0,2,4,6,8,27] [0,6,8,990,991] (.ite (oT 27) (oX [oB 28 (.build [.int .u64 0,.int .u64 0,ob] [(2,1,.const (.bool true))]),oF 3 6 28] [6] [0,6,990,991] (.ret)) (.skip))) (.keep [0,2,4,6,8] [0,6,8,990,991] (.seq (.regd [oA 29 0,oD 30 3 8,oA 31 0,oD 32 5 4,oA 33 2,oB 34 (.arith .sub (oT 33) (oN 1)),
 oB 35 (.callb 0 bp [oT 31,oT 32,oT 34]),oB 36 (.callb 0 aJ [oT 29,oT 30,oT 35]),oB 9 (.alloc bk [.int .u64 0,.int .u64 0,ob])] [.op none none (.store (some 9) 3 (oT 9) (oT 36))]) (.keep [6,9] [0,6,9,990,991] (oX [oE 37 2 9,.op none none (.store none 1 (oT 37) (.const (.bool true)))] [6,9] [0,6,9,990,991] (oX [oD 38 3 9,
 oF 3 6 38] [6] [0,6,990,991] (.ret)))))))))))
def cK:List au:= [.cell 6 true 3]
def oR:List Nat:= [4,3035000,3036000,2009009]
theorem oM:ay Tryz.prog bp oR cL cK 39:=ap mixed (by kernel_rfl)
-- follow_Table_Next range i=20 n=19 c=21 i2=33 id=0: live [1:set, 7:next, 18:] changed [7] res []
def eR:CC:=oX [oB 6 (.mv (.const (.int .u64 0)))] [0,1,2] [0,990,991] (.seq (oX [oA 10 2] [0,1,10] [0,990,991] (.ite (oT 10) (oX [oA 11 0,oG 12 11,oE 13 1 12,oC 14 1 13,oA 6 14] [6] [0,990,991] (.ret)) (.skip))) (.keep [0,1] [0,990,991] (oX [oB 7 (.mv (.const (.int .u64 0)))] [0,1,7] [0,990,991] (.seq (oX [oA 15 0,oG 16 15,oE 17 3 16,oC 18 1 17,
 oB 19 (.len (oT 18)),oB 20 (.mv (oN 0))] [1,7,18,19,20] [0,990,991] (aw 0 20 19 21 1 (oX [oA 22 20,oB 23 (.iaddr 1 (oT 18) (oT 20)),oC 24 1 23,oA 8 22,oA 9 24] [1,7,8,9,18,19,20] [0,990,991] (oX [oA 25 1,oA 26 8,oB 27 (.arith .shr (oT 25) (oT 26)),oB 28 (.arith .and (oT 27) (.const (.int .u64 1))),
 oB 29 (.eql false false [.int] (oT 28) (.const (.int .u64 1)))] [1,7,9,18,19,20,29] [0,990,991] (.ite (oT 29) (.reg [oA 30 7,oA 31 9,oB 32 (.arith .or (oT 30) (oT 31)),oA 7 32]) (.skip)))) 33)) (.keep [7] [0,990,991] (oX [oA 34 7,oA 6 34] [6] [0,990,991] (.ret)))))))
def eE:List au:= [.tmp 6]
def sA:List Nat:= []
theorem r9:ay Tryz.prog dU sA eR eE 35:=ap mixed (by kernel_rfl)
end Go.Gv

namespace Go.Gv
open Cod (enc dec)
variable {S S0:Nat→Spc}
@[simp] theorem X6 (t:Tbk):Tbk.mk t.lvs t.fi t.la t.fol t.nul=t:=id rfl
abbrev vL:Spc:=O5 (a2 U64 U64) Ka wh
theorem JW (fr to:U64): ∀ (l:List U64) (i:Nat),(JX fr to i l).length=l.length
 | [],_=> rfl
 | f::l,i=> by rw[JX,List.length_cons,List.length_cons,JW fr to l (i+1)]
theorem GE {fr to f:U64} : ∀ {l:List U64} {i k:Nat},l[k]?=some f→JX fr to i (l.take k) ++ (if LT fr (i+k)=true then PG f to else f)::l.drop (k+1)=JX fr to i (l.take (k+1)) ++l.drop (k+1)
 | [],i,k,h=> by simp at h
 | g::l,i,0,h=> by
   simp at h
   subst h
   simp[JX]
 | g::l,i,k+1,h=> by
   simp at h
   have:=GE (fr:=fr) (to:=to) (i:=i+1) h
   rw[show i+1+k=i+ (k+1) by omega] at this
   simp only[List.take_succ_cons,JX,List.cons_append,List.drop_succ_cons]
   rw[this]
theorem Rt:yf ir gR S (a2 U64 U64) Ka wh:=by
 rintro b v v' ⟨lv,fi,la,fo,nu⟩ ⟨fr,to⟩ r hF
 unfold wh at hF
 simp only at hF
 split at hF
 ·rename_i hlen
  cases hF
  have hl: (fo.length:Int)≤9223372036854775807:=by omega
  simp[ir,gR,ph,kP,kQ,mK,hl, -Bool.forall_bool, -Bool.exists_bool]
  refine aq (X:=List U64) [0,1,2] [] fo.length (fun k x=> x=JX fr to 0 (fo.take k) ++fo.drop k) (fun x=> []) (fun x=> [(0, .box b [.own 990 v, .v (.int .u64 fi.val), .v (.int .u64 la.val), .own 991 v', .v (.bool nu)]),(990, .row v cT 1 (lv.map enc)),(991, .row v' dL 1 (x.map enc))]) fo (by simp) (by simp) (by omega) (by simp) (by simp) (by simp[JX]) (by simp) (by simp) ?_ ?_
  ·rintro k x hk hx
   obtain⟨f,hf⟩: ∃f,fo[k]?=some f:=⟨_,List.getElem?_eq_getElem hk⟩
   have hll: (JX fr to 0 (fo.take k)).length=k:=by rw[JW,List.length_take];omega
   have hxl:x.length=fo.length:=by rw[hx,List.length_append,hll,List.length_drop];omega
   have hxk:x[k]?=some f:=by
    rw[hx,List.getElem?_append_right (by omega),hll,Nat.sub_self,List.getElem?_drop]
    simpa using hf
   have hdr:x.drop (k+1)=fo.drop (k+1):=by
    rw[hx,List.drop_append,hll,List.drop_drop,List.drop_eq_nil_of_le (by rw[hll];omega)]
    simp
   have htk:x.take k=JX fr to 0 (fo.take k):=by
    rw[hx,List.take_append,hll,Nat.sub_self,List.take_zero,List.append_nil,List.take_of_length_le (by rw[hll];omega)]
   have hset: ∀g,x.set k g=JX fr to 0 (fo.take k) ++g::fo.drop (k+1):=fun g=> by
    rw[List.set_eq_take_append_cons_drop,if_pos (by omega),htk,hdr]
   have hst:=GE (fr:=fr) (to:=to) (i:=0) hf
   rw[Nat.zero_add,←hset] at hst
   have hkx:k < x.length:=by omega
   obtain⟨_,hgx⟩:=List.getElem?_eq_some_iff.1 hxk
   simp[hkx,hxk,hgx,hk,hxl, -Bool.forall_bool, -Bool.exists_bool]
   refine⟨fun hb=> ?_,fun hb=> ?_⟩
   ·rw[if_pos hb] at hst
    left
    rw[←List.map_drop,←List.map_append,←hst,List.map_set]
    rfl
   ·rw[if_neg (by simp[hb])] at hst
    rw[show x.set k f=x from by rw[←hgx];exact List.set_getElem_self _] at hst
    exact .inl hst
  ·rintro x hx
   rw[List.take_length,List.drop_length,List.append_nil] at hx
   subst hx
   simp[-Bool.forall_bool, -Bool.exists_bool]
   exact Rd (er:=Ka) (y:=()) v v' ⟨lv,fi,la,JX fr to 0 fo,nu⟩ (.same _) rfl rfl rfl rfl
 ·cases hF
attribute [simp] Id MY
@[simp] theorem WG {Y Z:Type} (er:Y→D) (F:Tbk→Z→Option (Tbk×Y)) (id b:Nat) (v v':Value) (f l:Int) (n:Bool) (lv:List (List Rng)) (fo:List U64) (o:Option Z) (H:aa) (K:D→aa→Prop):
 FR er F id b (some (.box b [.own 990 v, .v (.int .u64 f), .v (.int .u64 l), .own 991 v', .v (.bool n)])) (some (.row v cT 1 (lv.map enc))) (some (.row v' dL 1 (fo.map enc))) o H K=(id≠990∧id≠991∧iN o fun z=> iN (F ⟨lv,⟨f⟩,⟨l⟩,fo,n⟩ z) fun q=> ∀w w',K (er q.2) (aj (aj (aj H 991 (some (.row w' dL 1 (q.1.fol.map enc)))) 990 (some (.row w cT 1 (q.1.lvs.map enc)))) id (some (.box b [.own 990 w, .v (.int .u64 q.1.fi.val), .v (.int .u64 q.1.la.val), .own 991 w', .v (.bool q.1.nul)])))):=RB er F id b v v' f l n lv fo o H K
abbrev pP:Spc:=O5 (a2 Prt Prt) (enc (X:=Prt)) qX
theorem py {b:Nat} {post:Tbk→Prt→Prop} {d:D} {H:aa} (v v':Value) (t:Tbk) (y:Prt) (hd:d=enc y) (h0:H 0=some (.box b (mK v v' t))) (h1:H 990=some (kP v t.lvs)) (h2:H 991=some (kQ v' t.fol)) (hq:post t y):HL enc b post d H:=
 Rd (er:=enc) (y:=y) v v' t (by rw[hd];exact .same _) h0 h1 h2 hq
theorem Ma (h1:S bF=vL):yf gb fR S (a2 Prt Prt) (enc (X:=Prt)) qX:=by
 rintro b v v' ⟨lv,fi,la,fo,nu⟩ ⟨⟨af,al,an⟩,⟨bf,bl,bn⟩⟩ r hF
 unfold qX at hF
 simp only at hF
 obtain⟨q,hl,rfl⟩:=Option.map_eq_some_iff.1 hF
 cases an <;> cases bn <;> simp[gb,fR,ph,kP,kQ,mK,h1,hl, -Bool.forall_bool, -Bool.exists_bool] <;> intro b1 w w' <;> exact py w w' q.1 _ rfl rfl rfl rfl ⟨rfl,rfl⟩
theorem Nc {set f:U64} {l:List U64} {k:Nat} (h:l[k]?=some f) (m:U64):Q3 set k (l.drop k) m=Q3 set (k+1) (l.drop (k+1)) (if LT set k=true then PG m f else m):=by
 obtain⟨h1,h2⟩:=List.getElem?_eq_some_iff.1 h
 rw[List.drop_eq_getElem_cons h1,h2,Q3]
end Go.Gv

namespace Go.Gv
open Cod (enc dec)
variable {S S0:Nat→Spc}
abbrev pQ (n:Nat):Spc:=O5 (a1 Rx) (enc (X:=Prt)) (ve n).b
abbrev Ip (n:Nat):Spc:=O5 (a1 Rx) (enc (X:=Prt)) (ve n).r
abbrev Ab (n:Nat):Spc:=O5 (a2 Rx Int) (enc (X:=Prt)) (ve n).o
theorem Fk {X:Type} {l:List X} {k:Nat} (h:k < l.length): ∃x,l[k]?=some x:=⟨_,List.getElem?_eq_getElem h⟩
theorem nq {X:Type} {l:List X} {k:Nat} {x:X} (h:l[k]?=some x):l.drop k=x::l.drop (k+1):=by
 obtain⟨h1,h2⟩:=List.getElem?_eq_some_iff.1 h
 rw[List.drop_eq_getElem_cons h1,h2]
set_option maxHeartbeats 1000000 in
theorem Pe (n:Nat) (h1:S ax=pQ n) (h2:S di=Ip n) (h3:S aJ=pP):yf cJ cH S (a1 Rx) (enc (X:=Prt)) (ve (n+1)).b:=by
 rintro b v v' t ⟨op,mn,mx,rs,ks⟩ r hF
 replace hF:SO (ve n).b (ve n).r t ⟨op,mn,mx,rs,ks⟩=some r:=hF
 unfold SO at hF
 simp only at hF
 split at hF
 ·cases hF
 rename_i hok
 have hok1:t.lvs.length≤1000∧t.fol.length≤1000:=by
  cases hb:EC t with
  | true=> exact of_decide_eq_true hb
  | false=> exact absurd (.inl hb) hok
 have hkl:ks.length≤1000:=by
  have: ¬1000 < ks.length:=fun h=> hok (.inr h)
  omega
 obtain⟨hlv,hfo⟩:=hok1
 have hkl': (ks.length:Int)≤9223372036854775807:=by omega
 have hlv': (t.lvs.length:Int)≤9223372036854775807:=by omega
 split at hF
 ·rename_i e
  subst e
  obtain rfl:=Option.some.inj hF
  simp[cJ,cH,ph,kP,kQ,mK,hlv', -Bool.forall_bool, -Bool.exists_bool]
  refine fun b1=> ⟨by omega,by omega,fun w=> ⟨by omega,by omega,fun w'=> ?_⟩⟩
  exact py w w' ⟨t.lvs++ [rs],t.fi,t.la,t.fol++ [⟨0⟩],t.nul⟩ ⟨⟨F8 .u64 1 t.lvs.length⟩,⟨F8 .u64 1 t.lvs.length⟩,false⟩ rfl rfl (by simp[kP,aj]) (by simp[kQ,aj]) ⟨rfl,rfl⟩
 rename_i e1
 split at hF
 ·rename_i e
  subst e
  simp[cJ,cH,ph,kP,kQ,mK,hkl', -Bool.forall_bool, -Bool.exists_bool]
  intro b4 b6
  refine aq (X:=Tbk×Prt×Value×Value) [0,4,6,50] [4] ks.length (fun k x=> VJ (ve n).b (ks.drop k) x.1 x.2.1=some r) (fun x=> []) (fun x=> [(0, .box b [.own 990 x.2.2.1, .v (.int .u64 x.1.fi.val), .v (.int .u64 x.1.la.val), .own 991 x.2.2.2, .v (.bool x.1.nul)]),(990, .row x.2.2.1 cT 1 (x.1.lvs.map enc)),(991, .row x.2.2.2 dL 1 (x.1.fol.map enc)),(6, .box b6 [.v (.int .u64 x.2.1.first.val), .v (.int .u64 x.2.1.last.val), .v (.bool x.2.1.nul)])]) (t,uy,v,v') (by simp) (by simp) (by omega) (by simp) (by simp) (by simpa using hF) (by simp) (by simp[uy]) ?_ ?_
  ·rintro k ⟨t,p,w,w'⟩ hk hx
   obtain⟨y,hy⟩:=Fk hk
   obtain⟨_,hgy⟩:=List.getElem?_eq_some_iff.1 hy
   rw[nq hy,VJ] at hx
   obtain⟨q,hq,hx⟩:=Option.bind_eq_some_iff.1 hx
   obtain⟨c,hc,hx⟩:=Option.bind_eq_some_iff.1 hx
   simp[hk,hy,hgy,h1,h3,hq,hc, -Bool.forall_bool, -Bool.exists_bool]
   exact fun u u'=> ⟨c.1,c.2,hx,u,u', .inl ⟨rfl,rfl,rfl,rfl,rfl⟩, .inl ⟨rfl,rfl⟩, .inl ⟨rfl,rfl⟩, .inl ⟨rfl,rfl,rfl⟩⟩
  ·rintro⟨t,p,w,w'⟩ hx
   rw[List.drop_length,VJ] at hx
   obtain rfl:=Option.some.inj hx
   simp[-Bool.forall_bool, -Bool.exists_bool]
   exact py w w' t p rfl rfl rfl rfl ⟨rfl,rfl⟩
 rename_i e2
 split at hF
 ·rename_i e
  subst e
  simp[cJ,cH,ph,kP,kQ,mK,hkl', -Bool.forall_bool, -Bool.exists_bool]
  intro b4 b9
  refine aq (X:=Tbk×Prt×Value×Value) [0,4,9,67] [4] ks.length (fun k x=> Un (ve n).b (ks.drop k) x.1 x.2.1=some r) (fun x=> []) (fun x=> [(0, .box b [.own 990 x.2.2.1, .v (.int .u64 x.1.fi.val), .v (.int .u64 x.1.la.val), .own 991 x.2.2.2, .v (.bool x.1.nul)]),(990, .row x.2.2.1 cT 1 (x.1.lvs.map enc)),(991, .row x.2.2.2 dL 1 (x.1.fol.map enc)),(9, .box b9 [.v (.int .u64 x.2.1.first.val), .v (.int .u64 x.2.1.last.val), .v (.bool x.2.1.nul)])]) (t,ZP,v,v') (by simp) (by simp) (by omega) (by simp) (by simp) (by simpa using hF) (by simp) (by simp[ZP]) ?_ ?_
  ·rintro k ⟨t,p,w,w'⟩ hk hx
   obtain⟨y,hy⟩:=Fk hk
   obtain⟨_,hgy⟩:=List.getElem?_eq_some_iff.1 hy
   rw[nq hy,Un] at hx
   obtain⟨q,hq,hx⟩:=Option.bind_eq_some_iff.1 hx
   simp[hk,hy,hgy,h1,hq, -Bool.forall_bool, -Bool.exists_bool]
   refine fun u u'=> ⟨fun hn=> ⟨q.1,_,hx,u,u', .inl ⟨rfl,rfl,rfl,rfl,rfl⟩, .inl ⟨rfl,rfl⟩, .inl ⟨rfl,rfl⟩, .inl ⟨rfl,rfl,by simp[hn]⟩⟩,fun hn=> ⟨q.1,_,hx,u,u', .inl ⟨rfl,rfl,rfl,rfl,rfl⟩, .inl ⟨rfl,rfl⟩, .inl ⟨rfl,rfl⟩, .inl ⟨rfl,rfl,by simp[hn]⟩⟩⟩
  ·rintro⟨t,p,w,w'⟩ hx
   rw[List.drop_length,Un] at hx
   obtain rfl:=Option.some.inj hx
   simp[-Bool.forall_bool, -Bool.exists_bool]
   exact py w w' t p rfl rfl rfl rfl ⟨rfl,rfl⟩
 rename_i e3
 simp[cJ,cH,ph,kP,kQ,mK,h2,e1,e2,e3,hF, -Bool.forall_bool, -Bool.exists_bool]
 intro b1 w w'
 exact py w w' r.1 r.2 rfl rfl rfl rfl rfl
end Go.Gv
