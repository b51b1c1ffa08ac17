/- A part of the framework and of the walks: T42 T44 C65 W180 W181 W182. -/
import Derived.Test.YtphdikcommfnhaaGreatDoorGa36
import Derived.Test.YtphdikcommfnhaaGreatDoorGa35
import Derived.Test.YtphdikcommfnhaaGreatDoorGa22
import Derived.Test.YtphdikcommfnhaaGreatDoorGa25
import Derived.Test.YtphdikcommfnhaaGreatDoorGa29
import Derived.Test.YtphdikcommfnhaaGreatDoorGa26
set_option linter.unusedSimpArgs false
set_option linter.unusedVariables false
set_option linter.unusedSectionVars false
set_option maxRecDepth 100000

namespace Go.Gv
open Go.Proofs
open Cod (enc dec)
def kg (r:Rn) (k:D):List D:= [.list 2 (r.c.attrs.map enc), .list 1 (r.c.toks.map enc), .list 4 (r.c.texts.map enc), .list 4 (r.c.regs.map enc), .list 4 (r.c.nodes.map enc), .list 1 (r.c.heads.map enc), .list 1 (r.c.rels.map enc), .list 1 (r.lb.map enc), .v (.int .i64 r.bg), .v (.int .i64 r.en),k]
theorem Ek {r r':Rn} {k k':D} (h:kg r k=kg r' k'):r=r'/\k=k':=by
 simp only[kg,List.cons.injEq,D.list.injEq,D.v.injEq,Value.int.injEq,true_and,and_true] at h
 obtain⟨h1,h2,h3,h4,h5,h6,h7,h8,h9,h10,h11⟩:=h
 obtain⟨⟨a1,a2,a3,a4,a5,a6,a7⟩,lb,bg,en⟩:=r
 obtain⟨⟨b1,b2,b3,b4,b5,b6,b7⟩,lb',bg',en'⟩:=r'
 have inj: ∀ {X:Type} [Cod X] {l l':List X},l.map enc=l'.map enc->l=l':=fun {X} _ {l l'} h=> bj (X:=List X) (by show D.list _ _=D.list _ _;rw[h])
 simp only at h1 h2 h3 h4 h5 h6 h7 h8 h9 h10
 rw[inj h1,inj h2,inj h3,inj h4,inj h5,inj h6,inj h7,inj h8,h9,h10]
 exact⟨rfl,h11⟩
theorem yN {r r':Rn} {k k':D} (h:D.cptr (kg r k) 0= .cptr (kg r' k') 0):r=r':=by
 injection h with h _
 exact(Ek h).1
@[simp] theorem qdp (r:Rn) (k:D): (kg r k).length=11:=id rfl
@[simp] theorem qki (r:Rn) (k:D) (h:3 < (kg r k).length): (kg r k)[3]= .list 4 (r.c.regs.map enc):=id rfl
@[simp] theorem qkh (r:Rn) (k:D) (h:8 < (kg r k).length): (kg r k)[8]= .v (.int .i64 r.bg):=id rfl
@[simp] theorem qkg (r:Rn) (k:D) (h:9 < (kg r k).length): (kg r k)[9]= .v (.int .i64 r.en):=id rfl
@[simp] theorem qgh (r:Rn) (k:D) (h:10 < (kg r k).length): (kg r k)[10]=k:=id rfl
structure qmI where
 r:Rn
 v:Value
 es:List D
def rnB:F5 qmI:=⟨[990],fun x=> kg x.r (.own 990 x.v),fun x=> [(990, .mrow x.v x.es)],fun _=> rfl⟩
section
variable {Y Z:Type}
def qa9 (A:du Z) (er:Y->D) (pre:Rn->List D->Z->Prop) (post:Rn->Z->List D->Y->Prop):Spc:=qcq rnB A er (fun x z=> pre x.r x.es z) (fun x z x' y=> x'.r=x.r/\post x.r z x'.es y)
def yQ (H:aa) (id b:Nat) (r:Rn) (v:Value) (es:List D):aa:=ah (ah H 990 (some (.mrow v es))) id (some (.box b (kg r (.own 990 v))))
def qdo (er:Y->D) (pre:Rn->List D->Z->Prop) (post:Rn->Z->List D->Y->Prop) (id b:Nat) (q q1:Option Res) (o:Option Z) (H:aa) (K:D->aa->Prop):Prop:=
 ∃r v es,q=some (.box b (kg r (.own 990 v)))/\q1=some (.mrow v es)/\id≠990/\dP o fun z=> pre r es z/\ ∀v' es' y,post r z es' y->K (er y) (yQ H id b r v' es')
@[congr] theorem qgi {er:Y->D} {pre:Rn->List D->Z->Prop} {post:Rn->Z->List D->Y->Prop} {id b:Nat} {q q' q1 q1':Option Res} {o o':Option Z} {H:aa} {K:D->aa->Prop} (h1:q=q') (h2:q1=q1') (h3:o=o'):qdo er pre post id b q q1 o H K=qdo er pre post id b q' q1' o' H K:=by subst h1;subst h2;subst h3;rfl
theorem Xs (x:qmI) (H:aa) (id b:Nat):ah (gk (rnB.hp x) H) id (some (.box b (rnB.ce x)))=yQ H id b x.r x.v x.es:=rfl
theorem wL (A:du Z) (er:Y->D) (pre:Rn->List D->Z->Prop) (post:Rn->Z->List D->Y->Prop) (d i b:Nat) (ds:List D) (H:aa) (K:D->aa->Prop): (qa9 A er pre post).pt d (.bptr i b 0::ds) H K=qdo er pre post i b (H i) (H 990) (A.dec ds) H K:=by
 refine propext ⟨fun h=> ?_,fun h=> ?_⟩
 ·obtain⟨id,b',x,z,ds',h1,h2,h3,h4,h5,h6,h7⟩:=h
  cases h1
  simp only[rnB,List.mem_cons,List.not_mem_nil,or_false] at h5
  refine⟨x.r,x.v,x.es,h3,h4 (990, .mrow x.v x.es) (by simp[rnB]),h5,?_⟩
  rw[h2]
  refine⟨h6,fun v' es' y hq=> ?_⟩
  have:=h7 ⟨x.r,v',es'⟩ y ⟨rfl,hq⟩
  rwa [Xs] at this
 ·obtain⟨r,v,es,h1,h2,h3,h4⟩:=h
  cases hz:A.dec ds with
  | none=> rw[hz] at h4;exact h4.elim
  | some z=>
    rw[hz] at h4
    refine⟨i,b,⟨r,v,es⟩,z,ds,rfl,hz,h1,fun p hp=> ?_,by simp[rnB,h3],h4.1,fun x' y hq=> ?_⟩
    ·simp only[rnB,List.mem_cons,List.not_mem_nil,or_false] at hp
     subst hp
     exact h2
    ·obtain⟨r',v',es'⟩:=x'
     obtain⟨e,hq⟩:=hq
     have e:r'=r:=e
     subst e
     rw[Xs]
     exact h4.2 v' es' y hq
@[simp] theorem qkj (er:Y->D) (pre:Rn->List D->Z->Prop) (post:Rn->Z->List D->Y->Prop) (id b b':Nat) (r:Rn) (v v':Value) (es:List D) (o:Option Z) (H:aa) (K:D->aa->Prop):
 qdo er pre post id b (some (.box b' (kg r (.own 990 v)))) (some (.mrow v' es)) o H K=(b'=b/\v'=v/\id≠990/\dP o fun z=> pre r es z/\ ∀v' es' y,post r z es' y->K (er y) (yQ H id b r v' es')):=by
 refine propext ⟨fun⟨r1,v1,es1,h1,h2,h3,h4⟩=> ?_,fun⟨h1,h2,h3,h4⟩=> ⟨r,v,es,by rw[h1],by rw[h2],h3,h4⟩⟩
 injection h1 with h1
 injection h1 with h1 h5
 injection h2 with h2
 injection h2 with h2 h6
 obtain⟨e1,e2⟩:=Ek h5
 injection e2 with _ e2
 subst e1;subst e2;subst h6
 exact⟨h1,h2,h3,h4⟩
def XS (er:Y->D) (b:Nat) (r:Rn) (post:List D->Y->Prop) (d:D) (H:aa):Prop:=H5 rnB er b (fun s y=> s.r=r/\post s.es y) d H
theorem HM {er:Y->D} {b:Nat} {r:Rn} {post:List D->Y->Prop} {d:D} {H:aa} (v:Value) (es:List D) (y:Y) (hr:FrzTo (fun i=> if i=0\/i=990 then none else H i) d (er y)) (h0:H 0=some (.box b (kg r (.own 990 v)))) (h1:H 990=some (.mrow v es)) (hq:post es y):XS er b r post d H:=
 ⟨⟨r,v,es⟩,y,by simpa [rnB] using hr,h0,fun p hp=> by
  simp only[rnB,List.mem_cons,List.not_mem_nil,or_false] at hp
  subst hp
  exact h1,rfl,hq⟩
def JU (cc:CC) (rs:List ar) (S:Nat->Spc) (A:du Z) (er:Y->D) (pre:Rn->List D->Z->Prop) (post:Rn->Z->List D->Y->Prop):Prop:=
 ∀b r v es z,pre r es z->vc S cc (rF rs fun d H'=> XS er b r (post r z) d H') (fY (.bptr 0 b 0::A.view z)) (yQ ed 0 b r v es)
variable {P:Program} {S:Nat->Spc} {f:Nat} {im:List Nat} {cc:CC} {rs:List ar} {N:Nat}
theorem wG {A:du Z} {er:Y->D} {pre:Rn->List D->Z->Prop} {post:Rn->Z->List D->Y->Prop} (hS: ∀f,Tri P f (S f).pt) (h:ay P f im cc rs N) (hN: ∀z,(A.view z).length+1<=N) (hw:JU cc rs S A er pre post):Tri P f (qa9 A er pre post).pt:=
 sf (by simp[rnB]) hS h hN fun b x z hp=> hw b x.r x.v x.es z hp
end
section
variable {X Y Z:Type}
theorem qgm (H:aa) (r:Nat):nE H (some r) r=H r:=by simp only[nE];exact if_pos rfl
theorem L4 (H:aa) (w:Option Nat):gj H w []=H:=by
 funext i
 simp only[gj,List.lookup]
 split <;> rfl
theorem Wm (A:du X) (pre:D×X->Prop) (er:Z->D) (post:D×X->Z->Prop) (r b:Nat) (ds:List D):Xj r (XJ A pre er post).pt (.bptr r b 0::ds):=by
 refine⟨fun R=> XI A pre er post b ds (R r) R fun _ _=> True,fun R d u=> ∃cells x z,R r=some (.box b cells)/\A.dec ds=some x/\post (.cptr cells 0,x) z/\d=er z/\u= [],fun t H K=> ?_⟩
 rw[Uq]
 show _↔XI A pre er post b ds (nE H (some r) r) (nE H (some r)) (fun _ _=> True)/\ ∀d u,(∃cells x z,nE H (some r) r=some (.box b cells)/\A.dec ds=some x/\post (.cptr cells 0,x) z/\d=er z/\u= [])->K d (gj H (some r) u)
 rw[qgm]
 cases hH:H r with
 | none=> exact⟨fun h=> h.elim,fun h=> h.1.elim⟩
 | some q=>
   cases q with
   | box b' cells=>
     rw[Up,Up]
     cases hd:A.dec ds with
     | none=> exact⟨fun h=> h.2.elim,fun h=> h.1.2.elim⟩
     | some x=>
       constructor
       ·rintro⟨rfl,h1,h2⟩
        refine⟨⟨rfl,h1,fun _ _=> trivial⟩,?_⟩
        rintro d u ⟨cells',x',z,e1,e2,h3,rfl,rfl⟩
        cases e1;cases e2
        rw[L4]
        exact h2 z h3
       ·rintro⟨⟨rfl,h1,_⟩,h2⟩
        refine⟨rfl,h1,fun z hz=> ?_⟩
        have:=h2 (er z) [] ⟨cells,x,z,rfl,rfl,hz,rfl,rfl⟩
        rwa [L4] at this
   | _=> exact⟨fun h=> h.elim,fun h=> h.1.elim⟩
theorem KA (A:du X) (pre:D×X->Prop) (er:Z->D) (post:D×X->Z->Prop) (r b:Nat) (dst:Option Nat) (ds:List D) (H:aa) (K:D->aa->Prop):Eo r dst (XJ A pre er post) (.bptr r b 0::ds) H K=XI A pre er post b ds (H r) H K:=by
 rw[<-Uq A pre er post (dst.getD 0)]
 exact propext ⟨fun h=> h.2,fun h=> ⟨Wm A pre er post r b ds,h⟩⟩
end
end Go.Gv

namespace Go.Gv
open Cod (enc dec)
@[simp] theorem qeG (s:St3):St3.mk s.p s.b0 s.b1 s.b2=s:=by cases s;rfl
theorem Mq {X:Type} [Cod X] [DecidableEq X] {ka:Bool} {ks:List KK} (hK:Rc X ka ks) (x:X) (hM:F1 (enc x) (enc x)) (l:List X) (K:List D->Prop):wg ka ks (enc x) (.v (.bool true)) (bQ l) K=K (bQ (sR x l)):=by
 refine propext ⟨fun⟨_,_,h1,h2⟩=> ?_,Vs hK rfl⟩
 by_cases hx:x∈l
 ·obtain⟨a,b,rfl⟩:=List.append_of_mem hx
  have e:sR x (a++x::b)=a++x::b:=by unfold sR;rw[if_pos hx]
  have:=h1 (bQ a) (enc x) (.v (.bool true)) (bQ b) (by simp[bQ]) hM
  rw[e]
  have e2:bQ (a++x::b)=bQ a++ .tup [enc x, .v (.bool true)]::bQ b:=by simp[bQ]
  rw[e2]
  exact this
 ·have:=h2 fun _ v hm=> hx (uG.1 hm).1
  have e:sR x l=l++ [x]:=by unfold sR;rw[if_neg hx]
  rw[e,gP]
  exact this
theorem KP (s:St3):F1 (enc s) (enc s):=by
 refine⟨fun _=> False,fun _=> False,default, .agg [Value.int .i64 s.p, .int .i64 s.b0, .int .i64 s.b1, .int .i64 s.b2].toArray,?_,?_⟩ <;>
 ·refine R.agg _ _ rfl (by simp[Value.oneCell']) fun k x c h1 h2=> ?_
  rcases k with _ | _ | _ | _ | k
  ·cases h1;cases h2;exact R.int .i64 _
  ·cases h1;cases h2;exact R.int .i64 _
  ·cases h1;cases h2;exact R.int .i64 _
  ·cases h1;cases h2;exact R.int .i64 _
  ·simp at h1
@[simp] theorem Ye (a b c d:Int) (l:List St3) (K:List D->Prop):wg true [.int .i64, .int .i64, .int .i64, .int .i64] (.agg [.v (.int .i64 a), .v (.int .i64 b), .v (.int .i64 c), .v (.int .i64 d)]) (.v (.bool true)) (bQ l) K=K (bQ (sR ⟨a,b,c,d⟩ l)):=
 Mq OG ⟨a,b,c,d⟩ (KP _) l K
@[simp] theorem qd2 (ok:Bool) (a b c d:Int) (l:List St3) (K:D->Prop):sL ok false true [.int .i64, .int .i64, .int .i64, .int .i64] [.bool false] (.agg [.v (.int .i64 a), .v (.int .i64 b), .v (.int .i64 c), .v (.int .i64 d)]) (bQ l) K=K (XA ok (.v (.bool (decide ((⟨a,b,c,d⟩:St3) ∈l)))) (decide ((⟨a,b,c,d⟩:St3) ∈l))):=
 KS OG ⟨a,b,c,d⟩ (KP _) l K
@[simp] theorem qc8 (a b c d:Int) (K:List D->Prop):wg true [.int .i64, .int .i64, .int .i64, .int .i64] (.agg [.v (.int .i64 a), .v (.int .i64 b), .v (.int .i64 c), .v (.int .i64 d)]) (.v (.bool true)) [] K=K (bQ [(⟨a,b,c,d⟩:St3)]):=
 Ye a b c d [] K
theorem o9 {X:Type} [Cod X]:bQ ([]:List X)= []:=rfl
theorem fk {X:Type} [Cod X] {l:List X} (h:bQ l= []):l= []:=by
 cases l with
 | nil=> rfl
 | cons a l=> simp[bQ] at h
theorem DU {X:Type} [Cod X] {l l':List X} (h:bQ l=bQ l'):l=l':=by
 unfold bQ at h
 induction l generalizing l' with
 | nil=> cases l' with
   | nil=> rfl
   | cons a l=> simp at h
 | cons a l ih=> cases l' with
   | nil=> simp at h
   | cons b l'=>
     simp only[List.map_cons,List.cons.injEq,D.tup.injEq,and_true] at h
     rw[bj h.1,ih h.2]
theorem rR {Hf:aa} {i:Nat} {x:Value} {es:List D} (h:Hf i=some (.mrow x es)):FrzTo Hf (.own i x) (.mp es):= .mrow h rfl fun k c c' h1 h2=> by rw[h1] at h2;cases h2;exact .same _
@[simp] theorem qj1 (d:Option Nat) (g:Option (Nat×Bool)) (o:MOp) (xs:List Operand): (CI.op d g (.m o xs)).wid=d:=id rfl
end Go.Gv

namespace Go.Gv
open Go.Proofs
def c6:CC:=oX [oB 3 (.box bO true (oT 1)),oB 4 (.mv (.const on))] [0,3] [] (oX [oA 7 0,oG 8 7,oE 9 7 8,oC 10 1 9,oB 11 (.len (oT 10)),oB 12 (.mkslice fV 1 8 false [oi] (oT 11) (oT 11)),oA 5 12] [3,5] [12] (.seq (oX [oA 13 5,oB 14 (.len (oT 13)),oB 15 (.mv (oN 0))] [3,5,14,15] [12] (aP 0 15 14 16 1 (oX [oA 17 15,
 oA 6 17] [3,5,6,14,15] [12] (.reg [oA 18 5,oA 19 6,oA 20 6,oE 21 1 3,oB 22 (.m (.aidx 3 1) [oT 21,oT 20]),oC 23 1 22,oB 24 (.arith .sub (oT 23) (oN 1)),oB 25 (.iaddr 1 (oT 18) (oT 19)),oF 1 25 24])) 26)) (.keep [5] [12] (oX [oA 27 5,oA 4 27] [4] [12] (.ret)))))
def cV:List ar:= [.tmp 4]
def rP:List Nat:= [3]
theorem kX:ay Tryz.prog bq rP c6 cV 28:=ak mixed (by kernel_rfl)
def dF:CC:=oX [oB 4 (.box aq true (oT 1)),oB 5 (.box bO false (oT 2)),oB 6 (.alloc bO [oi,oi,oi,oi]),oB 7 (.mv (.const ob))] [0,4,5,6] [5,6] (.seq (.seq (.regd [oE 8 0 5,oC 9 1 8,oA 10 0,oG 11 10,oE 12 9 11,oC 13 1 12,oB 14 (.cmp .geq (oT 9) (oT 13)),oA 15 14,oI 16 15 (.mv (oT 0)),oI 17 15 (.nilck (oT 16)),
 oI 18 15 (.faddr 0 (oT 17)),oI 19 15 (.load true 7 (oT 18)),oI 20 15 (.faddr 1 (oT 4)),oI 21 15 (.load true 7 (oT 20)),oI 22 15 (.faddr 0 (oT 5)),oI 23 15 (.load false 1 (oT 22)),oI 24 15 (.mv (oT 0)),oI 25 15 (.nilck (oT 24)),oI 26 15 (.faddr 7 (oT 25)),oI 27 15 (.load false 1 (oT 26)),oI 28 15 (.mv (oT 0)),oI 29 15 (.load true 4 (oT 5)),
 oI 30 15 (.call bq [oT 28,oT 29])] [oI 31 15 (.call gd [oT 19,oT 21,oT 23,oT 27,oT 30]),oI 32 15 (.not (oT 31)),oB 33 (.pick (oT 15) (.const (.bool true)) (oT 32))]) (.keep [0,4,5,6,33] [5,6] (.ite (oT 33) (oX [oB 34 (.build [oi,oi,oi,oi] []),oF 4 6 34,oB 7 (.mv (.const ob))] [6,7] [6] (.ret)) (.skip)))) (.keep [0,4,5,6] [5,6] (.seq (oX [oE 35 8 4,
 oC 36 1 35,oB 37 (.eql true false [.str] (oT 36) (oS ⟨#[]⟩))] [0,4,5,6,37] [5,6] (.ite (oT 37) (.regd [oA 38 0,oG 39 38,oE 40 7 39,oC 41 1 40,oE 42 8 4,oC 43 1 42,oZ 44 aF [oT 41,oT 43],oE 45 0 5,oC 46 1 45,oB 47 (.arith .add (oT 46) (oN 1)),oE 48 1 5] [oB 49 (.m (.aidx 3 1) [oT 48,oT 44]),.op none none (.store (some 5) 1 (oT 49) (oT 47))]) (.skip)))
 (.keep [5,6] [5,6] (oX [oE 50 0 5,oC 51 1 50,oB 52 (.arith .add (oT 51) (oN 1)),oE 53 0 5,oF 1 53 52] [5,6] [5,6] (oX [oD 54 4 5,oF 4 6 54,oB 7 (.mv (.const (.bool true)))] [6,7] [6] (.ret)))))))
def dz:List ar:= [.cell 6 true 4, .tmp 7]
def xy:List Nat:= [4,2049005]
theorem w3:ay Tryz.prog d8 xy dF dz 55:=ak mixed (by kernel_rfl)
def jE:CC:=oX [oB 3 (.box DJ true (oT 0)),oB 4 (.box aq true (oT 1)),oB 5 (.box fV true (oT 2)),oB 6 (.mv (.const ob))] [3,4,5] [] (oX [oC 7 1 3,oG 8 7,oE 9 0 8,oE 10 3 9,oC 11 1 10,oB 12 (.clo bc [oT 4,oT 5,oT 3]),oZ 13 aG [oT 11,oT 12],oA 6 13] [6] [] (.ret))
def js:List ar:= [.tmp 6]
def vQ:List Nat:= [5,4,3]
theorem vH:ay Tryz.prog dA vQ jE js 14:=ak mixed (by kernel_rfl)
def bA:CC:=oX [oB 4 (.box Ha true (oT 0)),oB 5 (.mv (.const ob))] [1,2,3,4] [] (oX [oE 7 1 4,oC 8 1 7,oA 6 8] [1,2,3,4,6] [] (.seq (oX [oE 9 0 1,oC 10 1 9,oB 11 (.eql false false [.int] (oT 10) (oN 3))] [1,2,3,4,6,11] [] (.ite (oT 11) (.reg [oE 12 2 4,oC 13 1 12,oA 6 13]) (.skip))) (.keep [1,2,3,4,6] [] (.seq (.regd [oE 14 0 4,oC 15 1 14,oE 16 9 1,
 oC 17 1 16,oB 18 (.eql false false [.str] (oT 15) (oT 17)),oA 19 18,oH 20 19 (.mv (oT 6)),oH 21 19 (.load false 1 (oT 2)),oH 22 19 (.eql false false [.int] (oT 20) (oT 21)),oB 23 (.pick (oT 19) (oT 22) (.const ob)),oA 24 23,oH 25 24 (.faddr 1 (oT 4)),oH 26 24 (.load false 1 (oT 25)),oH 27 24 (.load false 1 (oT 3)),oH 28 24 (.nilck (oT 27)),oH 29 24 (.faddr 8 (oT 28)),
 oH 30 24 (.load false 1 (oT 29)),oH 31 24 (.cmp .geq (oT 26) (oT 30)),oB 32 (.pick (oT 24) (oT 31) (.const ob)),oA 33 32,oH 34 33 (.faddr 2 (oT 4)),oH 35 33 (.load false 1 (oT 34)),oH 36 33 (.load false 1 (oT 3)),oH 37 33 (.nilck (oT 36)),oH 38 33 (.faddr 9 (oT 37)),oH 39 33 (.load false 1 (oT 38))] [oH 40 33 (.cmp .leq (oT 35) (oT 39)),oB 41 (.pick (oT 33) (oT 40) (.const ob)),
 oA 5 41]) (.keep [5] [] (.ret))))))
def bz:List ar:= [.tmp 5]
def tP:List Nat:= [4]
theorem tH:ay Tryz.prog bc tP bA bz 42:=ak mixed (by kernel_rfl)
def rj:CC:=oX [oB 2 (.mv (.const ob))] [0] [] (oX [oA 3 0,oG 4 3,oE 5 0 4,oC 6 1 5,oB 7 (.eql false false [.int] (oT 6) (oN 6)),oA 8 7,oH 9 8 (.mv (oT 0)),oH 10 8 (.nilck (oT 9)),oH 11 8 (.faddr 11 (oT 10)),oH 12 8 (.load false 1 (oT 11)),oH 13 8 (.cmp .lss (oT 12) (oN 0)),oB 14 (.pick (oT 8) (oT 13) (.const ob)),oA 15 14,oH 16 15 (.mv (oT 0)),
 oH 17 15 (.nilck (oT 16)),oH 18 15 (.faddr 10 (oT 17)),oH 19 15 (.load false 1 (oT 18)),oH 20 15 (.cmp .leq (oT 19) (oN 1)),oB 21 (.pick (oT 15) (oT 20) (.const ob)),oA 2 21] [2] [] (.ret))
def qV:List ar:= [.tmp 2]
def GO:List Nat:= []
theorem GF:ay Tryz.prog jh GO rj qV 22:=ak mixed (by kernel_rfl)
def mu:CC:=oX [oB 5 (.box jc true (oT 0)),oB 6 (.box cQ true (oT 1)),oB 10 (.mv (.const ob))] [2,3,4,5,6] [] (oX [oD 11 7 5,oD 12 7 6,oA 13 2,oA 14 3,oA 15 4,oZ 16 cH [oT 11,oT 12,oT 13,oT 14,oT 15],oA 10 16] [10] [] (.ret))
def lJ:List ar:= [.tmp 10]
def zL:List Nat:= [6,5]
theorem zj:ay Tryz.prog gd zL mu lJ 17:=ak mixed (by kernel_rfl)
end Go.Gv

namespace Go.Gv
open Go.Proofs
open Cod (enc dec)
variable {S S0:Nat->Spc}
def ZL (d:D):Prop:= ∃r k,d= .cptr (kg r k) 0/\r.lb.length<=3
def qcJ (s:St3):Prop:=0<=s.p/\s.p<=1000000/\ ∀i,0<=s.get i/\s.get i<=1000000
def H4 (x:D×St3):Prop:=ZL x.1/\qcJ x.2
def Ma (x:D×St3) (y:List Int):Prop:= ∀r k,x.1= .cptr (kg r k) 0->y=Mh r x.2
abbrev M1:Spc:=cC (aD (a1 St3)) H4 (enc (X:=List Int)) Ma
theorem Le (s:St3) {k:Nat} (hk:k < 3): ([.v (.int .i64 s.p), .v (.int .i64 s.b0), .v (.int .i64 s.b1), .v (.int .i64 s.b2)]:List D)[1+k]?=some (.v (.int .i64 (s.get k))):=by
 rcases k with _ | _ | _ | k
 ·rfl
 ·rfl
 ·rfl
 ·omega
theorem X3:aV c6 cV S (aD (a1 St3)) H4 (enc (X:=List Int)) Ma:=by
 rintro⟨d,s⟩ ⟨⟨r,k,hd,hl⟩,hs⟩
 have hd:d= .cptr (kg r k) 0:=hd
 subst hd
 simp[c6,cV,kg, -Bool.forall_bool, -Bool.exists_bool]
 intro hl1
 refine⟨by omega,by omega,fun v hl2=> ?_⟩
 refine aA (X:=List Int) [3,5] [] r.lb.length (fun k z=> z.length=r.lb.length/\ ∀i,i < k->z[i]?=some (s.get i -1)) (fun _=> []) (fun z=> [(12, .row v fV 1 (z.map enc))]) (List.replicate r.lb.length 0) (by simp) (by simp) (by omega) (by simp) (by simp) (by simp) (by simp) (by simp) ?_ ?_
 ·rintro j z hj ⟨hz1,hz2⟩
  have hg:=Le s (k:=j) (by omega)
  have hb:0<=s.get j/\s.get j<=1000000:=hs.2.2 j
  have hjz:j < z.length:=by omega
  simp[hj,hg,hjz, -Bool.forall_bool, -Bool.exists_bool]
  refine⟨by omega,by omega,by simp only[InR];omega,z.set j (s.get j -1),⟨by simp[hz1],fun i hi=> ?_⟩, .inl (by rw[List.map_set];rfl)⟩
  by_cases e:j=i
  ·subst e
   rw[List.getElem?_set_self (by omega)]
  ·rw[List.getElem?_set_ne e]
   exact hz2 i (by omega)
 ·rintro z ⟨hz1,hz2⟩
  simp[-Bool.forall_bool, -Bool.exists_bool]
  refine eR z (xI fV (by simp[ah])) fun r' k' e=> ?_
  have e:D.cptr (kg r k) 0= .cptr (kg r' k') 0:=e
  obtain rfl:=yN e
  refine List.ext_getElem? fun i=> ?_
  unfold Mh
  rw[List.getElem?_map]
  by_cases hi:i < r.lb.length
  ·rw[hz2 i hi,List.getElem?_range hi];rfl
  ·rw[List.getElem?_eq_none (by omega),List.getElem?_eq_none (by simp;omega)];rfl
def wn (p:Pat):Bool:=decide (p.op=6) && decide (p.mx < 0) && decide (p.mn<=1)
abbrev ID:Spc:=cC (aD a0) (fun x=> ∃p,oL x.1 p) (enc (X:=Bool)) fun x y=> ∀p,oL x.1 p->y=wn p
def Pm (x:D×Pat×St3):Prop:=(∃r k,x.1= .cptr (kg r k) 0/\r.lb.length<=3/\ZX r.c/\(x.2.1.lab≠oj->pH r.lb x.2.1.lab=true)/\(x.2.2.p < r.en-> ∃y,vE r x.2.1 x.2.2=some y))/\qcJ x.2.2
def L9 (x:D×Pat×St3) (y:St3×Bool):Prop:= ∀r k,x.1= .cptr (kg r k) 0->(y.2=true↔x.2.2.p < r.en/\vE r x.2.1 x.2.2=some true)/\(y.2=true->y.1=A6 r x.2.1 x.2.2)
end Go.Gv

namespace Go.Gv
open Go.Proofs
open Cod (enc dec)
variable {S S0:Nat->Spc}
abbrev IF:Spc:=cC aH (Xd 21) (enc (X:=Bool)) (ZE 21)
theorem Vj (h1:S cH=ui 21):aV mu lJ S aH (Xd 21) (enc (X:=Bool)) (ZE 21):=by
 rintro⟨c,x,tok,lb,bd⟩ hp
 simp[mu,lJ,h1,hp, -Bool.forall_bool, -Bool.exists_bool]
theorem pL (p:Pat):enc p= .agg (enc p).cells:=by simp
theorem om {d:D} {p q:Pat} (h1:oL d p) (h2:oL d q):p=q:=by
 obtain⟨cs,off,rfl,_,e1⟩:=h1
 obtain⟨cs',off',e,_,e2⟩:=h2
 cases e
 exact bj (by rw[pL p,pL q,<-e1,<-e2])
theorem Vf:aV rj qV S (aD a0) (fun x=> ∃p,oL x.1 p) (enc (X:=Bool)) fun x y=> ∀p,oL x.1 p->y=wn p:=by
 rintro⟨d,⟨⟩⟩ ⟨p,cs,off,hd,hl,hc⟩
 have hd:d= .cptr cs off:=hd
 subst hd
 have c0:cs[off]?=some (.v (.int .i64 p.op)):=by
  have:=sA hl hc (j:=0) (by decide)
  rw[Nat.add_zero] at this
  rw[this];simp
 have c10:cs[off+10]?=some (.v (.int .i64 p.mn)):=by rw[sA hl hc (j:=10) (by decide)];simp
 have c11:cs[off+11]?=some (.v (.int .i64 p.mx)):=by rw[sA hl hc (j:=11) (by decide)];simp
 have hlo:off+1<=cs.length:=by omega
 have hl10:off+10+1<=cs.length:=by omega
 have hl11:off+11+1<=cs.length:=by omega
 simp[rj,qV,c0,c10,c11,hlo,hl10,hl11, -Bool.forall_bool, -Bool.exists_bool]
 have hp:oL (.cptr cs off) p:=⟨cs,off,rfl,hl,hc⟩
 refine⟨fun h6=> ⟨fun hm q hq=> ?_,fun hm q hq=> ?_⟩,fun h6 q hq=> ?_⟩
 ·obtain rfl:=om hp hq
  simp[wn,h6,hm]
 ·obtain rfl:=om hp hq
  simp[wn,h6]
  omega
 ·obtain rfl:=om hp hq
  simp[wn,h6]
abbrev Yr:Spc:=cC (aD (a2 Pat St3)) Pm (J4 (Y:=St3) (Z:=Bool)) L9
theorem Wq {r:Rn} {b:B} (hl:r.lb.length<=3) (h:pH r.lb b=true): (gT r.lb fun z=> decide (z=b))=0\/(gT r.lb fun z=> decide (z=b))=1\/(gT r.lb fun z=> decide (z=b))=2:=by
 have h1:=qD (fun z=> decide (z=b)) r.lb
 have h2:=zO (fun z=> decide (z=b)) r.lb
 have h3:decide (0<=gT r.lb fun z=> decide (z=b))=true:=h1.trans h
 have h4:=of_decide_eq_true h3
 omega
theorem X1 (h1:S bq=M1) (h2:S gd=IF) (h3:S aF=sr):aV dF dz S (aD (a2 Pat St3)) Pm (J4 (Y:=St3) (Z:=Bool)) L9:=by
 rintro⟨d,p,s⟩ ⟨⟨r,k,hd,hl,hz,hlab,htok⟩,hs⟩
 have hd:d= .cptr (kg r k) 0:=hd
 subst hd
 have hs:qcJ s:=hs
 have hPa:H4 (.cptr (kg r k) 0,s):=⟨⟨r,k,rfl,hl⟩,hs⟩
 have hp0:=hs.1
 have hp1:=hs.2.1
 have hno: ∀y:St3,(¬s.p < r.en\/vE r p s=some false)->L9 (.cptr (kg r k) 0,p,s) (y,false):=fun y h r' k' e=> by
  have e:D.cptr (kg r k) 0= .cptr (kg r' k') 0:=e
  obtain rfl:=yN e
  refine⟨⟨fun h=> (by cases h),fun h2=> ?_⟩,fun h=> (by cases h)⟩
  rcases h with h | h
  ·exact absurd h2.1 h
  ·have h3:vE r p s=some true:=h2.2
   rw[h] at h3;cases h3
 have hyes:s.p < r.en->vE r p s=some true->L9 (.cptr (kg r k) 0,p,s) (A6 r p s,true):=fun h4 h5 r' k' e=> by
  have e:D.cptr (kg r k) 0= .cptr (kg r' k') 0:=e
  obtain rfl:=yN e
  exact⟨⟨fun _=> ⟨h4,h5⟩,fun _=> rfl⟩,fun _=> rfl⟩
 simp only[kg] at hPa hno hyes
 have hz3: ∀ (y:List Int),Ma (.cptr (kg r k) 0,s) y->y=Mh r s:=fun y h=> h r k rfl
 simp only[kg] at hz3
 by_cases hL:p.lab=oj
 ·have hL2:p.lab=⟨#[]⟩:=hL
  have hnx:A6 r p s=⟨s.p+1,s.b0,s.b1,s.b2⟩:=by unfold A6;rw[if_pos hL]
  rw[hnx] at hyes
  simp[dF,dz,kg,h1,h2,h3,hPa,hL2, -Bool.forall_bool, -Bool.exists_bool]
  refine fun b=> ⟨fun h4 y hy=> ?_,fun h4=> ⟨⟨0,0,0,0⟩, .same _,hno _ (.inl (by omega))⟩⟩
  obtain rfl:=hz3 y hy
  obtain⟨z,hz2⟩:=htok h4
  refine⟨⟨hz,z,hz2⟩,fun y1 hy1=> ?_⟩
  have hy1:vE r p s=some y1:=hy1
  refine⟨fun e=> ⟨⟨0,0,0,0⟩, .same _,hno _ (.inr (e ▸hy1))⟩,fun e=> ?_⟩
  exact⟨by simp only[InR];omega,⟨s.p+1,s.b0,s.b1,s.b2⟩, .same _,hyes h4 (e ▸hy1)⟩
 ·have hL2: ¬p.lab=⟨#[]⟩:=hL
  rcases Wq hl (hlab hL) with hq | hq | hq
  ·have hnx:A6 r p s=⟨s.p+1,s.p+1,s.b1,s.b2⟩:=by unfold A6;rw[if_neg hL,hq];rfl
   rw[hnx] at hyes
   simp[dF,dz,kg,h1,h2,h3,hPa,hL2,hq, -Bool.forall_bool, -Bool.exists_bool]
   refine fun b=> ⟨fun h4 y hy=> ?_,fun h4=> ⟨⟨0,0,0,0⟩, .same _,hno _ (.inl (by omega))⟩⟩
   obtain rfl:=hz3 y hy
   obtain⟨z,hz2⟩:=htok h4
   refine⟨⟨hz,z,hz2⟩,fun y1 hy1=> ?_⟩
   have hy1:vE r p s=some y1:=hy1
   refine⟨fun e=> ⟨⟨0,0,0,0⟩, .same _,hno _ (.inr (e ▸hy1))⟩,fun e=> ?_⟩
   exact⟨by simp only[InR];omega,⟨s.p+1,s.p+1,s.b1,s.b2⟩, .same _,hyes h4 (e ▸hy1)⟩
  ·have hnx:A6 r p s=⟨s.p+1,s.b0,s.p+1,s.b2⟩:=by unfold A6;rw[if_neg hL,hq];rfl
   rw[hnx] at hyes
   simp[dF,dz,kg,h1,h2,h3,hPa,hL2,hq, -Bool.forall_bool, -Bool.exists_bool]
   refine fun b=> ⟨fun h4 y hy=> ?_,fun h4=> ⟨⟨0,0,0,0⟩, .same _,hno _ (.inl (by omega))⟩⟩
   obtain rfl:=hz3 y hy
   obtain⟨z,hz2⟩:=htok h4
   refine⟨⟨hz,z,hz2⟩,fun y1 hy1=> ?_⟩
   have hy1:vE r p s=some y1:=hy1
   refine⟨fun e=> ⟨⟨0,0,0,0⟩, .same _,hno _ (.inr (e ▸hy1))⟩,fun e=> ?_⟩
   exact⟨by simp only[InR];omega,⟨s.p+1,s.b0,s.p+1,s.b2⟩, .same _,hyes h4 (e ▸hy1)⟩
  ·have hnx:A6 r p s=⟨s.p+1,s.b0,s.b1,s.p+1⟩:=by unfold A6;rw[if_neg hL,hq];rfl
   rw[hnx] at hyes
   simp[dF,dz,kg,h1,h2,h3,hPa,hL2,hq, -Bool.forall_bool, -Bool.exists_bool]
   refine fun b=> ⟨fun h4 y hy=> ?_,fun h4=> ⟨⟨0,0,0,0⟩, .same _,hno _ (.inl (by omega))⟩⟩
   obtain rfl:=hz3 y hy
   obtain⟨z,hz2⟩:=htok h4
   refine⟨⟨hz,z,hz2⟩,fun y1 hy1=> ?_⟩
   have hy1:vE r p s=some y1:=hy1
   refine⟨fun e=> ⟨⟨0,0,0,0⟩, .same _,hno _ (.inr (e ▸hy1))⟩,fun e=> ?_⟩
   exact⟨by simp only[InR];omega,⟨s.p+1,s.b0,s.b1,s.p+1⟩, .same _,hyes h4 (e ▸hy1)⟩
end Go.Gv

namespace Go.Gv
open Go.Proofs
open Cod (enc dec)
variable {S S0:Nat->Spc}
def G5 (r:Rn) (p:Pat) (at_:Int) (x:Region):Bool:=decide (x.ty=p.reg) && decide ((if p.op=3 then x.e else x.b)=at_) && decide (r.bg<=x.b) && decide (x.e<=r.en)
def Re (x:Region×Pat×Int×Rn×D):List D:= [enc x.1, .cptr (enc x.2.1).cells 0, .cptr [enc x.2.2.1] 0, .cptr [.cptr (kg x.2.2.2.1 x.2.2.2.2) 0] 0]
theorem Og (z z':Region×Pat×Int×Rn×D) (h:Re z=Re z'):z=z':=by
 obtain⟨a,p,i,r,k⟩:=z
 obtain⟨a',p',i',r',k'⟩:=z'
 unfold Re at h
 simp only[List.cons.injEq,D.cptr.injEq,and_true] at h
 obtain⟨h1,h2,h3,h4⟩:=h
 have e:p=p':=bj (by rw[pL p,pL p',h2])
 obtain⟨e2,e3⟩:=Ek h4
 rw[bj h1,e,bj h3,e2,e3]
noncomputable abbrev qmG:du (Region×Pat×Int×Rn×D):=aX Re Og
noncomputable abbrev qz:Spc:=cC qmG (fun _=> True) (enc (X:=Bool)) fun x y=> y=G5 x.2.2.2.1 x.2.1 x.2.2.1 x.1
theorem Vi:aV bA bz S qmG (fun _=> True) (enc (X:=Bool)) fun x y=> y=G5 x.2.2.2.1 x.2.1 x.2.2.1 x.1:=by
 rintro⟨a,p,i,r,k⟩ -
 rw[vy]
 by_cases e0:p.op=3
 ·by_cases e1:a.ty=p.reg
  rotate_left
  ·simp[Re,bA,bz,G5,e0,e1, -Bool.forall_bool, -Bool.exists_bool]
  by_cases e2:a.e=i
  rotate_left
  ·simp[Re,bA,bz,G5,e0,e1,e2, -Bool.forall_bool, -Bool.exists_bool]
  by_cases e3:r.bg<=a.b
  rotate_left
  ·simp[Re,bA,bz,G5,e0,e1,e2,e3, -Bool.forall_bool, -Bool.exists_bool]
  simp[Re,bA,bz,G5,e0,e1,e2,e3, -Bool.forall_bool, -Bool.exists_bool]
 ·by_cases e1:a.ty=p.reg
  rotate_left
  ·simp[Re,bA,bz,G5,e0,e1, -Bool.forall_bool, -Bool.exists_bool]
  by_cases e2:a.b=i
  rotate_left
  ·simp[Re,bA,bz,G5,e0,e1,e2, -Bool.forall_bool, -Bool.exists_bool]
  simp[Re,bA,bz,G5,e0,e1,e2, -Bool.forall_bool, -Bool.exists_bool]
  exact⟨by intros;omega,by intros;omega⟩
abbrev UU (x:D×Pat×Int):Prop:=ZL x.1
abbrev UL (x:D×Pat×Int) (y:Bool):Prop:= ∀r k,x.1= .cptr (kg r k) 0->y=N4 r x.2.1 x.2.2
abbrev Ys:Spc:=cC (aD (a2 Pat Int)) UU (enc (X:=Bool)) UL
theorem X4 (h0:S0 bc=qz) (h1:S aG=IQ Region S0):aV jE js S (aD (a2 Pat Int)) UU (enc (X:=Bool)) UL:=by
 rintro⟨d,p,i⟩ ⟨r,k,hd,hl⟩
 have hd:d= .cptr (kg r k) 0:=hd
 subst hd
 have hf:FunOn S0 (.clo bc [.cptr (enc p).cells 0, .cptr [enc i] 0, .cptr [.cptr (kg r k) 0] 0]) r.c.regs (G5 r p i):=
  rS (f:=fun a=> (a,p,i,r,k)) h0 (fun a _=> xW Re Og (a,p,i,r,k)) (fun _ _=> trivial) (fun a _ y hy=> hy)
 rw[show(enc p).cells= [enc p.op,enc p.cond.op,enc p.cond.name,enc p.cond.arg,enc p.cond.val,enc p.cond.lab,enc p.cond.fold,enc p.cond.kids,enc p.lab,enc p.reg,enc p.mn,enc p.mx,enc p.kids] by simp] at hf
 simp at hf
 simp[jE,js,h1, -Bool.forall_bool, -Bool.exists_bool]
 refine⟨⟨_,hf⟩,fun y hy r' k' e=> ?_⟩
 have e:D.cptr (kg r k) 0= .cptr (kg r' k') 0:=e
 obtain rfl:=yN e
 rw[hy _ hf]
 rfl
end Go.Gv
