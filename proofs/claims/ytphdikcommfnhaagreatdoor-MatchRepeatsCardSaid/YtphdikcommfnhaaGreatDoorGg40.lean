/- A part of the framework and of the walks: T42 T44 C65 W180 W181 W182 C66 W183. -/
import Derived.Test.YtphdikcommfnhaaGreatDoorGg39
import Derived.Test.YtphdikcommfnhaaGreatDoorGg38
import Derived.Test.YtphdikcommfnhaaGreatDoorGg27
import Derived.Test.YtphdikcommfnhaaGreatDoorGg20
import Derived.Test.YtphdikcommfnhaaGreatDoorGg29
import Derived.Test.YtphdikcommfnhaaGreatDoorGg32
import Derived.Test.YtphdikcommfnhaaGreatDoorGg30
set_option linter.unusedSimpArgs false
set_option linter.unusedVariables false
set_option linter.unusedSectionVars false
set_option maxRecDepth 100000
set_option maxHeartbeats 0

namespace Go.Gv
open Go.Proofs
open Cod (enc dec)
def ku(r:Rn)(k:D):List D:=[.list 2 (r.c.attrs.map enc), .list 1 (r.c.toks.map enc), .list 4 (r.c.texts.map enc), .list 4 (r.c.regs.map enc), .list 4 (r.c.nodes.map enc), .list 1 (r.c.heads.map enc), .list 1 (r.c.rels.map enc), .list 1 (r.lb.map enc), .v (.int .i64 r.bg), .v (.int .i64 r.en),k]
theorem Hn{r r':Rn}{k k':D}(h:ku r k=ku r' k'):r=r'/\k=k':=by
 simp only[ku,qt5,D.list.injEq,D.v.injEq,qvL,true_and,and_true]at h
 obtain⟨h1,h2,h3,h4,h5,h6,h7,h8,h9,h10,h11⟩:=h
 obtain⟨⟨a1,a2,a3,a4,a5,a6,a7⟩,lb,bg,en⟩:=r
 obtain⟨⟨b1,b2,b3,b4,b5,b6,b7⟩,lb',bg',en'⟩:=r'
 have inj:∀ {X:Type} [Cod X] {l l':List X},l.map enc=l'.map enc->l=l':=fun {X} _ {l l'} h=>aL (X:=List X) (by show D.list _ _=D.list _ _;rw[h])
 simp only at h1 h2 h3 h4 h5 h6 h7 h8 h9 h10
 rw[inj h1,inj h2,inj h3,inj h4,inj h5,inj h6,inj h7,inj h8,h9,h10]
 exact⟨rfl,h11⟩
theorem Ct{r r':Rn}{k k':D}(h:D.cptr (ku r k) 0= .cptr (ku r' k') 0):r=r':=by
 injection h with h _
 exact(Hn h).1
@[simp] theorem qlH(r:Rn)(k:D):(ku r k).length=11:=id rfl
@[simp] theorem qrQ(r:Rn)(k:D)(h:3 < (ku r k).length):(ku r k)[3]= .list 4 (r.c.regs.map enc):=id rfl
@[simp] theorem qrP(r:Rn)(k:D)(h:8 < (ku r k).length):(ku r k)[8]= .v (.int .i64 r.bg):=id rfl
@[simp] theorem qrO(r:Rn)(k:D)(h:9 < (ku r k).length):(ku r k)[9]= .v (.int .i64 r.en):=id rfl
@[simp] theorem qoP(r:Rn)(k:D)(h:10 < (ku r k).length):(ku r k)[10]=k:=id rfl
structure qsU where
 r:Rn
 v:Value
 es:List D
def rnB:I1 qsU:=⟨[990],fun x=>ku x.r (.own 990 x.v),fun x=>[(990, .mrow x.v x.es)],fun _=>rfl⟩
section
variable {Y Z:Type}
def qi2(A:cM Z)(er:Y->D)(pre:Rn->List D->Z->Prop)(post:Rn->Z->List D->Y->Prop):Spc:=qkG rnB A er (fun x z=>pre x.r x.es z) (fun x z x' y=>x'.r=x.r/\post x.r z x'.es y)
def Cw(H:ab)(id b:Nat)(r:Rn)(v:Value)(es:List D):ab:=ah (ah H 990 (some (.mrow v es))) id (some (.box b (ku r (.own 990 v))))
def qlG(er:Y->D)(pre:Rn->List D->Z->Prop)(post:Rn->Z->List D->Y->Prop)(id b:Nat)(q q1:Option Res)(o:Option Z)(H:ab)(K:D->ab->Prop):Prop:=
 ∃r v es,q=some (.box b (ku r (.own 990 v)))/\q1=some (.mrow v es)/\id≠990/\dx o fun z=>pre r es z/\∀v' es' y,post r z es' y->K (er y) (Cw H id b r v' es')
@[congr] theorem qoQ{er:Y->D}{pre:Rn->List D->Z->Prop}{post:Rn->Z->List D->Y->Prop}{id b:Nat}{q q' q1 q1':Option Res}{o o':Option Z}{H:ab}{K:D->ab->Prop}(h1:q=q')(h2:q1=q1')(h3:o=o'):qlG er pre post id b q q1 o H K=qlG er pre post id b q' q1' o' H K:=by subst h1;subst h2;subst h3;rfl
theorem qej(x:qsU)(H:ab)(id b:Nat):ah (fE (rnB.hp x) H) id (some (.box b (rnB.ce x)))=Cw H id b x.r x.v x.es:=rfl
theorem AP(A:cM Z)(er:Y->D)(pre:Rn->List D->Z->Prop)(post:Rn->Z->List D->Y->Prop)(d i b:Nat)(ds:List D)(H:ab)(K:D->ab->Prop):(qi2 A er pre post).pt d (.bptr i b 0::ds) H K=qlG er pre post i b (H i) (H 990) (A.dec ds) H K:=by
 refine propext ⟨fun h=>?_,fun h=>?_⟩
 ·obtain⟨id,b',x,z,ds',h1,h2,h3,h4,h5,h6,h7⟩:=h
  cases h1
  simp only[rnB,qtM,quc,or_false]at h5
  refine⟨x.r,x.v,x.es,h3,h4 (990, .mrow x.v x.es) (by simp[rnB]),h5,?_⟩
  rw[h2]
  refine⟨h6,fun v' es' y hq=>?_⟩
  have:=h7 ⟨x.r,v',es'⟩ y ⟨rfl,hq⟩
  rwa [qej]at this
 ·obtain⟨r,v,es,h1,h2,h3,h4⟩:=h
  cases hz:A.dec ds with
  | none=>rw[hz]at h4;exact h4.elim
  | some z=>
    rw[hz]at h4
    refine⟨i,b,⟨r,v,es⟩,z,ds,rfl,hz,h1,fun p hp=>?_,by simp[rnB,h3],h4.1,fun x' y hq=>?_⟩
    ·simp only[rnB,qtM,quc,or_false]at hp
     subst hp
     exact h2
    ·obtain⟨r',v',es'⟩:=x'
     obtain⟨e,hq⟩:=hq
     have e:r'=r:=e
     subst e
     rw[qej]
     exact h4.2 v' es' y hq
@[simp] theorem qrR(er:Y->D)(pre:Rn->List D->Z->Prop)(post:Rn->Z->List D->Y->Prop)(id b b':Nat)(r:Rn)(v v':Value)(es:List D)(o:Option Z)(H:ab)(K:D->ab->Prop):
 qlG er pre post id b (some (.box b' (ku r (.own 990 v)))) (some (.mrow v' es)) o H K=(b'=b/\v'=v/\id≠990/\dx o fun z=>pre r es z/\∀v' es' y,post r z es' y->K (er y) (Cw H id b r v' es')):=by
 refine propext ⟨fun⟨r1,v1,es1,h1,h2,h3,h4⟩=>?_,fun⟨h1,h2,h3,h4⟩=>⟨r,v,es,by rw[h1],by rw[h2],h3,h4⟩⟩
 injection h1 with h1
 injection h1 with h1 h5
 injection h2 with h2
 injection h2 with h2 h6
 obtain⟨e1,e2⟩:=Hn h5
 injection e2 with _ e2
 subst e1;subst e2;subst h6
 exact⟨h1,h2,h3,h4⟩
def qeV(er:Y->D)(b:Nat)(r:Rn)(post:List D->Y->Prop)(d:D)(H:ab):Prop:=Lp rnB er b (fun s y=>s.r=r/\post s.es y) d H
theorem K3{er:Y->D}{b:Nat}{r:Rn}{post:List D->Y->Prop}{d:D}{H:ab}(v:Value)(es:List D)(y:Y)(hr:FrzTo (fun i=>if i=0\/i=990 then none else H i) d (er y))(h0:H 0=some (.box b (ku r (.own 990 v))))(h1:H 990=some (.mrow v es))(hq:post es y):qeV er b r post d H:=
 ⟨⟨r,v,es⟩,y,by simpa [rnB]using hr,h0,fun p hp=>by
  simp only[rnB,qtM,quc,or_false]at hp
  subst hp
  exact h1,rfl,hq⟩
def Np(cc:CC)(rs:List aj)(S:Nat->Spc)(A:cM Z)(er:Y->D)(pre:Rn->List D->Z->Prop)(post:Rn->Z->List D->Y->Prop):Prop:=
 ∀b r v es z,pre r es z->vc S cc (rG rs fun d H'=>qeV er b r (post r z) d H') (cR (.bptr 0 b 0::A.view z)) (Cw bB 0 b r v es)
variable {P:Program}{S:Nat->Spc}{f:Nat}{im:List Nat}{cc:CC}{rs:List aj}{N:Nat}
theorem AJ{A:cM Z}{er:Y->D}{pre:Rn->List D->Z->Prop}{post:Rn->Z->List D->Y->Prop}(hS:∀f,Tri P f (S f).pt)(h:am P f im cc rs N)(hN:∀z,(A.view z).length+1<=N)(hw:Np cc rs S A er pre post):Tri P f (qi2 A er pre post).pt:=
 vt (by simp[rnB]) hS h hN fun b x z hp=>hw b x.r x.v x.es z hp
end
section
variable {X Y Z:Type}
theorem qoU(H:ab)(r:Nat):pF H (some r) r=H r:=by simp only[pF];exact if_pos rfl
theorem Ql(H:ab)(w:Option Nat):fD H w []=H:=by
 funext i
 simp only[fD,List.lookup]
 split <;> rfl
theorem qcX(A:cM X)(pre:D×X->Prop)(er:Z->D)(post:D×X->Z->Prop)(r b:Nat)(ds:List D):qdY r (qeF A pre er post).pt (.bptr r b 0::ds):=by
 refine⟨fun R=>qeE A pre er post b ds (R r) R fun _ _=>True,fun R d u=>∃cells x z,R r=some (.box b cells)/\A.dec ds=some x/\post (.cptr cells 0,x) z/\d=er z/\u=[],fun t H K=>?_⟩
 rw[qaC]
 show _↔qeE A pre er post b ds (pF H (some r) r) (pF H (some r)) (fun _ _=>True)/\∀d u,(∃cells x z,pF H (some r) r=some (.box b cells)/\A.dec ds=some x/\post (.cptr cells 0,x) z/\d=er z/\u=[])->K d (fD H (some r) u)
 rw[qoU]
 cases hH:H r with
 | none=>exact⟨fun h=>h.elim,fun h=>h.1.elim⟩
 | some q=>
   cases q with
   | box b' cells=>
     rw[qaB,qaB]
     cases hd:A.dec ds with
     | none=>exact⟨fun h=>h.2.elim,fun h=>h.1.2.elim⟩
     | some x=>
       constructor
       ·rintro⟨rfl,h1,h2⟩
        refine⟨⟨rfl,h1,fun _ _=>trivial⟩,?_⟩
        rintro d u ⟨cells',x',z,e1,e2,h3,rfl,rfl⟩
        cases e1;cases e2
        rw[Ql]
        exact h2 z h3
       ·rintro⟨⟨rfl,h1,_⟩,h2⟩
        refine⟨rfl,h1,fun z hz=>?_⟩
        have:=h2 (er z) [] ⟨cells,x,z,rfl,rfl,hz,rfl,rfl⟩
        rwa [Ql]at this
   | _=>exact⟨fun h=>h.elim,fun h=>h.1.elim⟩
theorem OE(A:cM X)(pre:D×X->Prop)(er:Z->D)(post:D×X->Z->Prop)(r b:Nat)(dst:Option Nat)(ds:List D)(H:ab)(K:D->ab->Prop):Hs r dst (qeF A pre er post) (.bptr r b 0::ds) H K=qeE A pre er post b ds (H r) H K:=by
 rw[<-qaC A pre er post (dst.getD 0)]
 exact propext ⟨fun h=>h.2,fun h=>⟨qcX A pre er post r b ds,h⟩⟩
end
end Go.Gv

namespace Go.Gv
open Cod (enc dec)
@[simp] theorem qm1(s:St3):St3.mk s.p s.b0 s.b1 s.b2=s:=by cases s;rfl
theorem QR{X:Type}[Cod X][DecidableEq X]{ka:Bool}{ks:List KK}(hK:WO X ka ks)(x:X)(hM:IX (enc x) (enc x))(l:List X)(K:List D->Prop):Ai ka ks (enc x) (.v (.bool true)) (bc l) K=K (bc (wh x l)):=by
 refine propext ⟨fun⟨_,_,h1,h2⟩=>?_,qbW hK rfl⟩
 by_cases hx:x∈l
 ·obtain⟨a,b,rfl⟩:=qwi hx
  have e:wh x (a++x::b)=a++x::b:=by unfold wh;rw[if_pos hx]
  have:=h1 (bc a) (enc x) (.v (.bool true)) (bc b) (by simp[bc]) hM
  rw[e]
  have e2:bc (a++x::b)=bc a++ .tup [enc x, .v (.bool true)]::bc b:=by simp[bc]
  rw[e2]
  exact this
 ·have:=h2 fun _ v hm=>hx (yE.1 hm).1
  have e:wh x l=l++ [x]:=by unfold wh;rw[if_neg hx]
  rw[e,gm]
  exact this
theorem OW(s:St3):IX (enc s) (enc s):=by
 refine⟨fun _=>False,fun _=>False,default, .agg [Value.int .i64 s.p, .int .i64 s.b0, .int .i64 s.b1, .int .i64 s.b2].toArray,?_,?_⟩ <;>
 ·refine R.agg _ _ rfl (by simp[Value.oneCell']) fun k x c h1 h2=>?_
  rcases k with _|_|_|_|k
  ·cases h1;cases h2;exact R.int .i64 _
  ·cases h1;cases h2;exact R.int .i64 _
  ·cases h1;cases h2;exact R.int .i64 _
  ·cases h1;cases h2;exact R.int .i64 _
  ·simp at h1
@[simp] theorem qfl(a b c d:Int)(l:List St3)(K:List D->Prop):Ai true [.int .i64, .int .i64, .int .i64, .int .i64] (.agg [.v (.int .i64 a), .v (.int .i64 b), .v (.int .i64 c), .v (.int .i64 d)]) (.v (.bool true)) (bc l) K=K (bc (wh ⟨a,b,c,d⟩ l)):=
 QR Tz ⟨a,b,c,d⟩ (OW _) l K
@[simp] theorem qml(ok:Bool)(a b c d:Int)(l:List St3)(K:D->Prop):vZ ok false true [.int .i64, .int .i64, .int .i64, .int .i64] [.bool false] (.agg [.v (.int .i64 a), .v (.int .i64 b), .v (.int .i64 c), .v (.int .i64 d)]) (bc l) K=K (qeu ok (.v (.bool (decide ((⟨a,b,c,d⟩:St3) ∈l)))) (decide ((⟨a,b,c,d⟩:St3) ∈l))):=
 O0 Tz ⟨a,b,c,d⟩ (OW _) l K
@[simp] theorem qll(a b c d:Int)(K:List D->Prop):Ai true [.int .i64, .int .i64, .int .i64, .int .i64] (.agg [.v (.int .i64 a), .v (.int .i64 b), .v (.int .i64 c), .v (.int .i64 d)]) (.v (.bool true)) [] K=K (bc [(⟨a,b,c,d⟩:St3)]):=
 qfl a b c d [] K
theorem rb{X:Type}[Cod X]:bc ([]:List X)=[]:=rfl
theorem eJ{X:Type}[Cod X]{l:List X}(h:bc l=[]):l=[]:=by
 cases l with
 | nil=>rfl
 | cons a l=>simp[bc]at h
theorem G3{X:Type}[Cod X]{l l':List X}(h:bc l=bc l'):l=l':=by
 unfold bc at h
 induction l generalizing l' with
 | nil=>cases l' with
   | nil=>rfl
   | cons a l=>simp at h
 | cons a l ih=>cases l' with
   | nil=>simp at h
   | cons b l'=>
     simp only[qt7,qt5,D.tup.injEq,and_true]at h
     rw[aL h.1,ih h.2]
theorem uV{Hf:ab}{i:Nat}{x:Value}{es:List D}(h:Hf i=some (.mrow x es)):FrzTo Hf (.own i x) (.mp es):= .mrow h rfl fun k c c' h1 h2=>by rw[h1]at h2;cases h2;exact .same _
@[simp] theorem qry(d:Option Nat)(g:Option (Nat×Bool))(o:MOp)(xs:List Operand):(CI.op d g (.m o xs)).wid=d:=id rfl
end Go.Gv

namespace Go.Gv
open Go.Proofs
def cy:CC:=gq Tryz.f82 [3] {} _
def cp:List aj:=[.tmp 4]
theorem lD:am Tryz.prog cG [3] cy cp 28:=fo
def dj:CC:=gq Tryz.f131 [4,2049005] {} _
def db:List aj:=[.cell 6 true 4, .tmp 7]
theorem A5:am Tryz.prog ig [4,2049005] dj db 55:=fo
def jQ:CC:=gq Tryz.f132 [5,4,3] {} _
def jC:List aj:=[.tmp 6]
theorem zY:am Tryz.prog fX [5,4,3] jQ jC 14:=fo
def aR:CC:=gq Tryz.f182 [4] {} _
def aQ:List aj:=[.tmp 5]
theorem xz:am Tryz.prog bH [4] aR aQ 42:=fo
def ut:CC:=gq Tryz.f183 [] {} _
def tL:List aj:=[.tmp 2]
theorem JM:am Tryz.prog wu [] ut tL 22:=fo
def nn:CC:=gq Tryz.f180 [6,5] {} _
def mr:List aj:=[.tmp 10]
theorem CU:am Tryz.prog nY [6,5] nn mr 17:=fo
end Go.Gv

namespace Go.Gv
open Go.Proofs
open Cod (enc dec)
variable {S S0:Nat->Spc}
def qhl(d:D):Prop:=∃r k,d= .cptr (ku r k) 0/\r.lb.length<=3
def qkX(s:St3):Prop:=0<=s.p/\s.p<=1000000/\∀i,0<=s.get i/\s.get i<=1000000
def Lm(x:D×St3):Prop:=qhl x.1/\qkX x.2
def Qv(x:D×St3)(y:List Int):Prop:=∀r k,x.1= .cptr (ku r k) 0->y=Nl r x.2
abbrev X9:Spc:=aS (aD (a1 St3)) Lm (enc (X:=List Int)) Qv
theorem Pm(s:St3){k:Nat}(hk:k < 3):([.v (.int .i64 s.p), .v (.int .i64 s.b0), .v (.int .i64 s.b1), .v (.int .i64 s.b2)]:List D)[1+k]? =some (.v (.int .i64 (s.get k))):=by
 rcases k with _|_|_|k
 ·rfl
 ·rfl
 ·rfl
 ·omega
theorem qe7:aq cy cp S (aD (a1 St3)) Lm (enc (X:=List Int)) Qv:=by
 rintro⟨d,s⟩ ⟨⟨r,k,hd,hl⟩,hs⟩
 have hd:d= .cptr (ku r k) 0:=hd
 subst hd
 simp[cy,cp,ku, -Bool.forall_bool, -Bool.exists_bool]
 intro hl1
 refine⟨by omega,by omega,fun v hl2=>?_⟩
 refine ai (X:=List Int) [3,5] [] r.lb.length (fun k z=>z.length=r.lb.length/\∀i,i < k->z[i]? =some (s.get i -1)) (fun _=>[]) (fun z=>[(12, .row v gE 1 (z.map enc))]) (List.replicate r.lb.length 0) (by simp) (by simp) (by omega) (by simp) (by simp) (by simp) (by simp) (by simp) ?_ ?_
 ·rintro j z hj ⟨hz1,hz2⟩
  have hg:=Pm s (k:=j) (by omega)
  have hb:0<=s.get j/\s.get j<=1000000:=hs.2.2 j
  have hjz:j < z.length:=by omega
  simp[hj,hg,hjz, -Bool.forall_bool, -Bool.exists_bool]
  refine⟨by omega,by omega,by simp only[InR];omega,z.set j (s.get j -1),⟨by simp[hz1],fun i hi=>?_⟩, .inl (by rw[qvS];rfl)⟩
  by_cases e:j=i
  ·subst e
   rw[quO (by omega)]
  ·rw[qvM e]
   exact hz2 i (by omega)
 ·rintro z ⟨hz1,hz2⟩
  simp[-Bool.forall_bool, -Bool.exists_bool]
  refine cB z (gP gE (by simp[ah])) fun r' k' e=>?_
  have e:D.cptr (ku r k) 0= .cptr (ku r' k') 0:=e
  obtain rfl:=Ct e
  refine quC fun i=>?_
  unfold Nl
  rw[qtX]
  by_cases hi:i < r.lb.length
  ·rw[hz2 i hi,quP hi];rfl
  ·rw[qua (by omega),qua (by simp;omega)];rfl
def Ao(p:Pat):Bool:=decide (p.op=6) && decide (p.mx < 0) && decide (p.mn<=1)
abbrev SU:Spc:=aS (aD a0) (fun x=>∃p,qN x.1 p) (enc (X:=Bool)) fun x y=>∀p,qN x.1 p->y=Ao p
def Ut(x:D×Pat×St3):Prop:=(∃r k,x.1= .cptr (ku r k) 0/\r.lb.length<=3/\qhz r.c/\(x.2.1.lab≠qz->kb r.lb x.2.1.lab=true)/\(x.2.2.p < r.en->∃y,zV r x.2.1 x.2.2=some y))/\qkX x.2.2
def Qt(x:D×Pat×St3)(y:St3×Bool):Prop:=∀r k,x.1= .cptr (ku r k) 0->(y.2=true↔x.2.2.p < r.en/\zV r x.2.1 x.2.2=some true)/\(y.2=true->y.1=Ed r x.2.1 x.2.2)
end Go.Gv

namespace Go.Gv
open Go.Proofs
open Cod (enc dec)
variable {S S0:Nat->Spc}
abbrev SV:Spc:=aS aH (qdV 21) (enc (X:=Bool)) (qhg 21)
theorem qbK(h1:S io=Hd 21):aq nn mr S aH (qdV 21) (enc (X:=Bool)) (qhg 21):=by
 rintro⟨c,x,tok,lb,bd⟩ hp
 simp[nn,mr,h1,hp, -Bool.forall_bool, -Bool.exists_bool]
theorem rU(p:Pat):enc p= .agg (enc p).cells:=by simp
theorem qE{d:D}{p q:Pat}(h1:qN d p)(h2:qN d q):p=q:=by
 obtain⟨cs,off,rfl,_,e1⟩:=h1
 obtain⟨cs',off',e,_,e2⟩:=h2
 cases e
 exact aL (by rw[rU p,rU q,<-e1,<-e2])
theorem qbD:aq ut tL S (aD a0) (fun x=>∃p,qN x.1 p) (enc (X:=Bool)) fun x y=>∀p,qN x.1 p->y=Ao p:=by
 rintro⟨d,⟨⟩⟩ ⟨p,cs,off,hd,hl,hc⟩
 have hd:d= .cptr cs off:=hd
 subst hd
 have c0:cs[off]? =some (.v (.int .i64 p.op)):=by
  have:=vN hl hc (j:=0) (by decide)
  rw[quS]at this
  rw[this];simp
 have c10:cs[off+10]? =some (.v (.int .i64 p.mn)):=by rw[vN hl hc (j:=10) (by decide)];simp
 have c11:cs[off+11]? =some (.v (.int .i64 p.mx)):=by rw[vN hl hc (j:=11) (by decide)];simp
 have hlo:off+1<=cs.length:=by omega
 have hl10:off+10+1<=cs.length:=by omega
 have hl11:off+11+1<=cs.length:=by omega
 simp[ut,tL,c0,c10,c11,hlo,hl10,hl11, -Bool.forall_bool, -Bool.exists_bool]
 have hp:qN (.cptr cs off) p:=⟨cs,off,rfl,hl,hc⟩
 refine⟨fun h6=>⟨fun hm q hq=>?_,fun hm q hq=>?_⟩,fun h6 q hq=>?_⟩
 ·obtain rfl:=qE hp hq
  simp[Ao,h6,hm]
 ·obtain rfl:=qE hp hq
  simp[Ao,h6]
  omega
 ·obtain rfl:=qE hp hq
  simp[Ao,h6]
abbrev qfE:Spc:=aS (aD (a2 Pat St3)) Ut (xb (Y:=St3) (Z:=Bool)) Qt
theorem qc3{r:Rn}{b:B}(hl:r.lb.length<=3)(h:kb r.lb b=true):(fS r.lb fun z=>decide (z=b))=0\/(fS r.lb fun z=>decide (z=b))=1\/(fS r.lb fun z=>decide (z=b))=2:=by
 have h1:=tb (fun z=>decide (z=b)) r.lb
 have h2:=uU (fun z=>decide (z=b)) r.lb
 have h3:decide (0<=fS r.lb fun z=>decide (z=b))=true:=h1.trans h
 have h4:=of_decide_eq_true h3
 omega
theorem qe5(h1:S cG=X9)(h2:S nY=SV)(h3:S bZ=G9):aq dj db S (aD (a2 Pat St3)) Ut (xb (Y:=St3) (Z:=Bool)) Qt:=by
 rintro⟨d,p,s⟩ ⟨⟨r,k,hd,hl,hz,hlab,htok⟩,hs⟩
 have hd:d= .cptr (ku r k) 0:=hd
 subst hd
 have hs:qkX s:=hs
 have hPa:Lm (.cptr (ku r k) 0,s):=⟨⟨r,k,rfl,hl⟩,hs⟩
 have hp0:=hs.1
 have hp1:=hs.2.1
 have hno:∀y:St3,(¬s.p < r.en\/zV r p s=some false)->Qt (.cptr (ku r k) 0,p,s) (y,false):=fun y h r' k' e=>by
  have e:D.cptr (ku r k) 0= .cptr (ku r' k') 0:=e
  obtain rfl:=Ct e
  refine⟨⟨fun h=>(by cases h),fun h2=>?_⟩,fun h=>(by cases h)⟩
  rcases h with h|h
  ·exact absurd h2.1 h
  ·have h3:zV r p s=some true:=h2.2
   rw[h]at h3;cases h3
 have hyes:s.p < r.en->zV r p s=some true->Qt (.cptr (ku r k) 0,p,s) (Ed r p s,true):=fun h4 h5 r' k' e=>by
  have e:D.cptr (ku r k) 0= .cptr (ku r' k') 0:=e
  obtain rfl:=Ct e
  exact⟨⟨fun _=>⟨h4,h5⟩,fun _=>rfl⟩,fun _=>rfl⟩
 simp only[ku]at hPa hno hyes
 have hz3:∀ (y:List Int),Qv (.cptr (ku r k) 0,s) y->y=Nl r s:=fun y h=>h r k rfl
 simp only[ku]at hz3
 by_cases hL:p.lab=qz
 ·have hL2:p.lab=⟨#[]⟩:=hL
  have hnx:Ed r p s=⟨s.p+1,s.b0,s.b1,s.b2⟩:=by unfold Ed;rw[if_pos hL]
  rw[hnx]at hyes
  simp[dj,db,ku,h1,h2,h3,hPa,hL2, -Bool.forall_bool, -Bool.exists_bool]
  refine fun b=>⟨fun h4 y hy=>?_,fun h4=>⟨⟨0,0,0,0⟩, .same _,hno _ (.inl (by omega))⟩⟩
  obtain rfl:=hz3 y hy
  obtain⟨z,hz2⟩:=htok h4
  refine⟨⟨hz,z,hz2⟩,fun y1 hy1=>?_⟩
  have hy1:zV r p s=some y1:=hy1
  refine⟨fun e=>⟨⟨0,0,0,0⟩, .same _,hno _ (.inr (e ▸hy1))⟩,fun e=>?_⟩
  exact⟨by simp only[InR];omega,⟨s.p+1,s.b0,s.b1,s.b2⟩, .same _,hyes h4 (e ▸hy1)⟩
 ·have hL2:¬p.lab=⟨#[]⟩:=hL
  rcases qc3 hl (hlab hL)with hq|hq|hq
  ·have hnx:Ed r p s=⟨s.p+1,s.p+1,s.b1,s.b2⟩:=by unfold Ed;rw[if_neg hL,hq];rfl
   rw[hnx]at hyes
   simp[dj,db,ku,h1,h2,h3,hPa,hL2,hq, -Bool.forall_bool, -Bool.exists_bool]
   refine fun b=>⟨fun h4 y hy=>?_,fun h4=>⟨⟨0,0,0,0⟩, .same _,hno _ (.inl (by omega))⟩⟩
   obtain rfl:=hz3 y hy
   obtain⟨z,hz2⟩:=htok h4
   refine⟨⟨hz,z,hz2⟩,fun y1 hy1=>?_⟩
   have hy1:zV r p s=some y1:=hy1
   refine⟨fun e=>⟨⟨0,0,0,0⟩, .same _,hno _ (.inr (e ▸hy1))⟩,fun e=>?_⟩
   exact⟨by simp only[InR];omega,⟨s.p+1,s.p+1,s.b1,s.b2⟩, .same _,hyes h4 (e ▸hy1)⟩
  ·have hnx:Ed r p s=⟨s.p+1,s.b0,s.p+1,s.b2⟩:=by unfold Ed;rw[if_neg hL,hq];rfl
   rw[hnx]at hyes
   simp[dj,db,ku,h1,h2,h3,hPa,hL2,hq, -Bool.forall_bool, -Bool.exists_bool]
   refine fun b=>⟨fun h4 y hy=>?_,fun h4=>⟨⟨0,0,0,0⟩, .same _,hno _ (.inl (by omega))⟩⟩
   obtain rfl:=hz3 y hy
   obtain⟨z,hz2⟩:=htok h4
   refine⟨⟨hz,z,hz2⟩,fun y1 hy1=>?_⟩
   have hy1:zV r p s=some y1:=hy1
   refine⟨fun e=>⟨⟨0,0,0,0⟩, .same _,hno _ (.inr (e ▸hy1))⟩,fun e=>?_⟩
   exact⟨by simp only[InR];omega,⟨s.p+1,s.b0,s.p+1,s.b2⟩, .same _,hyes h4 (e ▸hy1)⟩
  ·have hnx:Ed r p s=⟨s.p+1,s.b0,s.b1,s.p+1⟩:=by unfold Ed;rw[if_neg hL,hq];rfl
   rw[hnx]at hyes
   simp[dj,db,ku,h1,h2,h3,hPa,hL2,hq, -Bool.forall_bool, -Bool.exists_bool]
   refine fun b=>⟨fun h4 y hy=>?_,fun h4=>⟨⟨0,0,0,0⟩, .same _,hno _ (.inl (by omega))⟩⟩
   obtain rfl:=hz3 y hy
   obtain⟨z,hz2⟩:=htok h4
   refine⟨⟨hz,z,hz2⟩,fun y1 hy1=>?_⟩
   have hy1:zV r p s=some y1:=hy1
   refine⟨fun e=>⟨⟨0,0,0,0⟩, .same _,hno _ (.inr (e ▸hy1))⟩,fun e=>?_⟩
   exact⟨by simp only[InR];omega,⟨s.p+1,s.b0,s.b1,s.p+1⟩, .same _,hyes h4 (e ▸hy1)⟩
end Go.Gv

namespace Go.Gv
open Go.Proofs
open Cod (enc dec)
variable {S S0:Nat->Spc}
def J6(r:Rn)(p:Pat)(at_:Int)(x:Region):Bool:=decide (x.ty=p.reg) && decide ((if p.op=3 then x.e else x.b)=at_) && decide (r.bg<=x.b) && decide (x.e<=r.en)
def WR(x:Region×Pat×Int×Rn×D):List D:=[enc x.1, .cptr (enc x.2.1).cells 0, .cptr [enc x.2.2.1] 0, .cptr [.cptr (ku x.2.2.2.1 x.2.2.2.2) 0] 0]
theorem SG(z z':Region×Pat×Int×Rn×D)(h:WR z=WR z'):z=z':=by
 obtain⟨a,p,i,r,k⟩:=z
 obtain⟨a',p',i',r',k'⟩:=z'
 unfold WR at h
 simp only[qt5,D.cptr.injEq,and_true]at h
 obtain⟨h1,h2,h3,h4⟩:=h
 have e:p=p':=aL (by rw[rU p,rU p',h2])
 obtain⟨e2,e3⟩:=Hn h4
 rw[aL h1,e,aL h3,e2,e3]
noncomputable abbrev qsR:cM (Region×Pat×Int×Rn×D):=aX WR SG
noncomputable abbrev Cp:Spc:=aS qsR (fun _=>True) (enc (X:=Bool)) fun x y=>y=J6 x.2.2.2.1 x.2.1 x.2.2.1 x.1
theorem qbG:aq aR aQ S qsR (fun _=>True) (enc (X:=Bool)) fun x y=>y=J6 x.2.2.2.1 x.2.1 x.2.2.1 x.1:=by
 rintro⟨a,p,i,r,k⟩ -
 rw[wR]
 by_cases e0:p.op=3
 ·by_cases e1:a.ty=p.reg
  rotate_left
  ·simp[WR,aR,aQ,J6,e0,e1, -Bool.forall_bool, -Bool.exists_bool]
  by_cases e2:a.e=i
  rotate_left
  ·simp[WR,aR,aQ,J6,e0,e1,e2, -Bool.forall_bool, -Bool.exists_bool]
  by_cases e3:r.bg<=a.b
  rotate_left
  ·simp[WR,aR,aQ,J6,e0,e1,e2,e3, -Bool.forall_bool, -Bool.exists_bool]
  simp[WR,aR,aQ,J6,e0,e1,e2,e3, -Bool.forall_bool, -Bool.exists_bool]
 ·by_cases e1:a.ty=p.reg
  rotate_left
  ·simp[WR,aR,aQ,J6,e0,e1, -Bool.forall_bool, -Bool.exists_bool]
  by_cases e2:a.b=i
  rotate_left
  ·simp[WR,aR,aQ,J6,e0,e1,e2, -Bool.forall_bool, -Bool.exists_bool]
  simp[WR,aR,aQ,J6,e0,e1,e2, -Bool.forall_bool, -Bool.exists_bool]
  exact⟨by intros;omega,by intros;omega⟩
abbrev qbb(x:D×Pat×Int):Prop:=qhl x.1
abbrev qa2(x:D×Pat×Int)(y:Bool):Prop:=∀r k,x.1= .cptr (ku r k) 0->y=Sp r x.2.1 x.2.2
abbrev qfF:Spc:=aS (aD (a2 Pat Int)) qbb (enc (X:=Bool)) qa2
theorem qe8(h0:S0 bH=Cp)(h1:S bj=Vb Region S0):aq jQ jC S (aD (a2 Pat Int)) qbb (enc (X:=Bool)) qa2:=by
 rintro⟨d,p,i⟩ ⟨r,k,hd,hl⟩
 have hd:d= .cptr (ku r k) 0:=hd
 subst hd
 have hf:FunOn S0 (.clo bH [.cptr (enc p).cells 0, .cptr [enc i] 0, .cptr [.cptr (ku r k) 0] 0]) r.c.regs (J6 r p i):=
  uW (f:=fun a=>(a,p,i,r,k)) h0 (fun a _=>BH WR SG (a,p,i,r,k)) (fun _ _=>trivial) (fun a _ y hy=>hy)
 rw[show(enc p).cells=[enc p.op,enc p.cond.op,enc p.cond.name,enc p.cond.arg,enc p.cond.val,enc p.cond.lab,enc p.cond.fold,enc p.cond.kids,enc p.lab,enc p.reg,enc p.mn,enc p.mx,enc p.kids] by simp]at hf
 simp at hf
 simp[jQ,jC,h1, -Bool.forall_bool, -Bool.exists_bool]
 refine⟨⟨_,hf⟩,fun y hy r' k' e=>?_⟩
 have e:D.cptr (ku r k) 0= .cptr (ku r' k') 0:=e
 obtain rfl:=Ct e
 rw[hy _ hf]
 rfl
end Go.Gv

namespace Go.Gv
open Go.Proofs
def ng:CC:=gq Tryz.f133 [] { ke:=[0,990] } _
def mf:List aj:=[.tmp 6]
theorem CN:am Tryz.prog jr [] ng mf 29:=fo
def lm:CC:=gq Tryz.f81 [5,3045000,2010010] { cu:=[6,15],ke:=[0,990] } _
def kN:List aj:=[.tmp 6]
theorem A6:am Tryz.prog cF [5,3045000,2010010] lm kN 121:=fo
def jP:CC:=gq Tryz.f134 [5] { bx:=[53],cu:=[3,7,13,17],ke:=[0,990] } _
def jB:List aj:=[.tmp 6]
theorem zX:am Tryz.prog kT [5] jP jB 109:=fo
def nj:CC:=gq Tryz.f185 [] { bx:=[0] } _
def mi:List aj:=[]
theorem CQ:am Tryz.prog nX [] nj mi 16:=fo
end Go.Gv

namespace Go.Gv
open Go.Proofs
open Cod (enc dec)
variable {S S0:Nat->Spc}
structure qbu (r:Rn) (q:Pat):Prop where
 nd:uA q
 num:xG q=true
 lab:q.lab≠qz->kb r.lb q.lab=true
 tok:q.op=1->∀s,QB r.en s->s.p < r.en->∃y,zV r q s=some y
structure qdQ (r:Rn):Prop where
 l3:r.lb.length<=3
 sz:qhz r.c
 en:r.en<=100000
def zA(r:Rn)(es:List D):Prop:=∀e∈es,∃d p s l,qN d p/\e= .tup [.agg [d, .v (.int .i64 s.p), .v (.int .i64 s.b0), .v (.int .i64 s.b1), .v (.int .i64 s.b2)], .mp (bc l)]/\l.Nodup/\∀t,t∈l↔jW r p s t
def qgA(l:List St3):D:= .mp (bc l)
@[simp] theorem qsp(l:List St3):qgA l= .mp (bc l):=rfl
def Uu(n:Nat)(r:Rn)(es:List D)(x:D×St3):Prop:=qdQ r/\zA r es/\QB r.en x.2/\∃p,qN x.1 p/\fe p<=n/\jv (qbu r) p
def Uq(r:Rn)(x:D×St3)(es:List D)(y:List St3):Prop:=zA r es/\y.Nodup/\∀p,qN x.1 p->∀t,t∈y↔jW r p x.2 t
abbrev Kl(n:Nat):Spc:=qi2 (aD (a1 St3)) qgA (Uu n) Uq
def qa9(n:Nat)(r:Rn)(es:List D)(x:D×D×Unit):Prop:=qdQ r/\zA r es/\(∃l:List St3,x.2.1= .mp (bc l)/\∀s∈l,QB r.en s)/\∃p,qN x.1 p/\fe p<=n/\jv (qbu r) p
def qa0(r:Rn)(x:D×D×Unit)(es:List D)(y:List St3):Prop:=zA r es/\y.Nodup/\∀ (p:Pat) (l:List St3),qN x.1 p->x.2.1= .mp (bc l)->∀t,t∈y↔ ∃s∈l,jW r p s t
abbrev Rh(n:Nat):Spc:=qi2 (aD (aD a0)) qgA (qa9 n) qa0
theorem qfb(n:Nat)(h1:S cF=Kl n):Np ng mf S (aD (aD a0)) qgA (qa9 n) qa0:=by
 rintro b r v es ⟨d,dl,⟨⟩⟩ ⟨hr,hm,⟨l,hdl,hl⟩,p,hp,hpn,hpa⟩
 have hdl:dl= .mp (bc l):=hdl
 subst hdl
 obtain⟨cs,off,hd,hl13,hc13⟩:=hp
 have hd:d= .cptr cs off:=hd
 subst hd
 have hp:qN (.cptr cs off) p:=⟨cs,off,rfl,hl13,hc13⟩
 simp[ng,mf,Cw, -Bool.forall_bool, -Bool.exists_bool]
 intro v1 b1
 refine ar (X:=Value×List D×List St3×List D×List St3) [0,1,7,12] [] (fun x=>zA r x.2.1/\x.2.2.1.Nodup/\(∀s∈x.2.2.2.2,s∈l)/\(∀t∈x.2.2.1,∃s∈l,jW r p s t)/\∀s∈l,s∈x.2.2.2.2\/ ∀t,jW r p s t->t∈x.2.2.1)
  (fun _=>[]) (fun x=>[(0, .box b (ku r (.own 990 x.1))),(990, .mrow x.1 x.2.1),(10, .mrow v1 (bc x.2.2.1)),(12, .miter b1 x.2.2.2.1 (bc x.2.2.2.2))]) (fun x=>x.2.2.2.2.length) (v,es, [], [],l)
  ⟨hm,qvp,fun _ h=>h,fun _ h=>(by cases h),fun s hs=> .inl hs⟩ (by simp) (by simp[rb]) ?_
 rintro⟨v',es',out,cur,left⟩ ⟨hm',hn',hl',ho',hd'⟩
 simp only at hm' hn' hl' ho' hd'
 simp[-Bool.forall_bool, -Bool.exists_bool]
 refine⟨fun h0=>?_,fun l1 e l2 hsp=>?_⟩
 ·have hlz:=eJ h0
  subst hlz
  refine K3 v' es' out (uV (by simp[ah])) (by simp[ah]) (by simp[ah]) ⟨hm',hn',fun p' l' hp' hl2 t=>?_⟩
  obtain rfl:=qE hp hp'
  have hl2:D.mp (bc l)= .mp (bc l'):=hl2
  obtain rfl:=G3 (D.mp.inj hl2)
  exact⟨ho' t,fun⟨s,hs,hD⟩=>(hd' s hs).elim (fun h=>by cases h) fun h=>h t hD⟩
 ·obtain⟨a,s,c,rfl,rfl,rfl,rfl⟩:=fI hsp
  have hs:s∈l:=hl' s (by simp)
  have hPr:Uu n r es' (.cptr cs off,s):=⟨hr,hm',hl s hs,p,hp,hpn,hpa⟩
  simp[h1,AP,hPr,Cw, -Bool.forall_bool, -Bool.exists_bool]
  intro v2 es2 ys hQ b2
  have hys:=hQ.2.2 p hp
  refine ar (X:=List St3×List D×List St3) [0,1,7,12,21] [0,990,12] (fun x=>x.1.Nodup/\(∀t∈x.2.2,t∈ys)/\(∀t∈out,t∈x.1)/\(∀t∈x.1,t∈out\/t∈ys)/\∀t∈ys,t∈x.2.2\/t∈x.1)
   (fun _=>[]) (fun x=>[(10, .mrow v1 (bc x.1)),(21, .miter b2 x.2.1 (bc x.2.2))]) (fun x=>x.2.2.length) (out, [],ys)
   ⟨hn',fun _ h=>h,fun _ h=>h,fun _ h=> .inl h,fun _ h=> .inl h⟩ (by simp) (by simp) ?_
  rintro⟨out2,cur2,left2⟩ ⟨g1,g2,g3,g4,g5⟩
  simp only at g1 g2 g3 g4 g5
  simp[-Bool.forall_bool, -Bool.exists_bool]
  refine⟨fun h0=>?_,fun l1 e l2 hsp2=>?_⟩
  ·have hlz:=eJ h0
   subst hlz
   refine⟨v2,es2,out2,_,a++c,⟨hQ.1,g1,fun x h=>hl' x (by simp only[qtK,qtM]at h ⊢;rcases h with h|h <;> simp[h]),fun t ht=>?_,fun x hx=>?_⟩,⟨.inl rfl, .inl ⟨rfl,rfl⟩, .inl rfl, .inl ⟨rfl,(gm a c).symm⟩⟩,by simp⟩
   ·rcases g4 t ht with h|h
    ·exact ho' t h
    ·exact⟨s,hs,(hys t).1 h⟩
   ·rcases hd' x hx with h|h
    ·rcases qtK.1 h with h|h
     ·exact .inl (by simp[h])
     ·rcases qtM.1 h with rfl|h
      ·exact .inr fun t ht=>(g5 t ((hys t).2 ht)).elim (fun h=>by cases h) id
      ·exact .inl (by simp[h])
    ·exact .inr fun t ht=>g3 t (h t ht)
  ·obtain⟨a2,t,c2,rfl,rfl,rfl,rfl⟩:=fI hsp2
   simp[-Bool.forall_bool, -Bool.exists_bool]
   refine⟨wh t out2,_,a2++c2,⟨wg g1,fun x h=>g2 x (by simp only[qtK,qtM]at h ⊢;rcases h with h|h <;> simp[h]),fun x hx=>dS.2 (.inr (g3 x hx)),fun x hx=>?_,fun x hx=>?_⟩,⟨.inl rfl, .inl ⟨rfl,(gm a2 c2).symm⟩⟩,by simp⟩
   ·rcases dS.1 hx with rfl|h
    ·exact .inr (g2 x (by simp))
    ·exact g4 x h
   ·rcases g5 x hx with h|h
    ·rcases qtK.1 h with h|h
     ·exact .inl (by simp[h])
     ·rcases qtM.1 h with rfl|h
      ·exact .inr (dS.2 (.inl rfl))
      ·exact .inl (by simp[h])
    ·exact .inr (dS.2 (.inr h))
end Go.Gv
