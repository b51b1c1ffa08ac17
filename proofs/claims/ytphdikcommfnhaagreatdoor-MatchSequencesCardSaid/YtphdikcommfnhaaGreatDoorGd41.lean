/- A part of the framework and of the walks: T42 T44 C65 W180 W181 W182 C66 W183. -/
import Derived.Test.YtphdikcommfnhaaGreatDoorGd40
import Derived.Test.YtphdikcommfnhaaGreatDoorGd39
import Derived.Test.YtphdikcommfnhaaGreatDoorGd27
import Derived.Test.YtphdikcommfnhaaGreatDoorGd20
import Derived.Test.YtphdikcommfnhaaGreatDoorGd29
import Derived.Test.YtphdikcommfnhaaGreatDoorGd32
import Derived.Test.YtphdikcommfnhaaGreatDoorGd30
set_option linter.unusedSimpArgs false
set_option linter.unusedVariables false
set_option linter.unusedSectionVars false
set_option maxRecDepth 100000
set_option maxHeartbeats 0

namespace Go.Gv
open Go.Proofs
open Cod (enc dec)
def ll(r:Rn)(k:D):List D:=[.list 2 (r.c.attrs.map enc), .list 1 (r.c.toks.map enc), .list 4 (r.c.texts.map enc), .list 4 (r.c.regs.map enc), .list 4 (r.c.nodes.map enc), .list 1 (r.c.heads.map enc), .list 1 (r.c.rels.map enc), .list 1 (r.lb.map enc), .v (.int .i64 r.bg), .v (.int .i64 r.en),k]
theorem Iq{r r':Rn}{k k':D}(h:ll r k=ll r' k'):r=r'/\k=k':=by
 simp only[ll,quk,D.list.injEq,D.v.injEq,qv1,true_and,and_true]at h
 obtain⟨h1,h2,h3,h4,h5,h6,h7,h8,h9,h10,h11⟩:=h
 obtain⟨⟨a1,a2,a3,a4,a5,a6,a7⟩,lb,bg,en⟩:=r
 obtain⟨⟨b1,b2,b3,b4,b5,b6,b7⟩,lb',bg',en'⟩:=r'
 have inj:∀ {X:Type} [Cod X] {l l':List X},l.map enc=l'.map enc->l=l':=fun {X} _ {l l'} h=>aL (X:=List X) (by show D.list _ _=D.list _ _;rw[h])
 simp only at h1 h2 h3 h4 h5 h6 h7 h8 h9 h10
 rw[inj h1,inj h2,inj h3,inj h4,inj h5,inj h6,inj h7,inj h8,h9,h10]
 exact⟨rfl,h11⟩
theorem CX{r r':Rn}{k k':D}(h:D.cptr (ll r k) 0= .cptr (ll r' k') 0):r=r':=by
 injection h with h _
 exact(Iq h).1
@[simp] theorem qlU(r:Rn)(k:D):(ll r k).length=11:=id rfl
@[simp] theorem qr7(r:Rn)(k:D)(h:3 < (ll r k).length):(ll r k)[3]= .list 4 (r.c.regs.map enc):=id rfl
@[simp] theorem qr6(r:Rn)(k:D)(h:8 < (ll r k).length):(ll r k)[8]= .v (.int .i64 r.bg):=id rfl
@[simp] theorem qr5(r:Rn)(k:D)(h:9 < (ll r k).length):(ll r k)[9]= .v (.int .i64 r.en):=id rfl
@[simp] theorem qo4(r:Rn)(k:D)(h:10 < (ll r k).length):(ll r k)[10]=k:=id rfl
structure qta where
 r:Rn
 v:Value
 es:List D
def rnB:J6 qta:=⟨[990],fun x=>ll x.r (.own 990 x.v),fun x=>[(990, .mrow x.v x.es)],fun _=>rfl⟩
section
variable {Y Z:Type}
def qji(A:df Z)(er:Y->D)(pre:Rn->List D->Z->Prop)(post:Rn->Z->List D->Y->Prop):Spc:=qkS rnB A er (fun x z=>pre x.r x.es z) (fun x z x' y=>x'.r=x.r/\post x.r z x'.es y)
def C0(H:ab)(id b:Nat)(r:Rn)(v:Value)(es:List D):ab:=ah (ah H 990 (some (.mrow v es))) id (some (.box b (ll r (.own 990 v))))
def qlT(er:Y->D)(pre:Rn->List D->Z->Prop)(post:Rn->Z->List D->Y->Prop)(id b:Nat)(q q1:Option Res)(o:Option Z)(H:ab)(K:D->ab->Prop):Prop:=
 ∃r v es,q=some (.box b (ll r (.own 990 v)))/\q1=some (.mrow v es)/\id≠990/\dK o fun z=>pre r es z/\∀v' es' y,post r z es' y->K (er y) (C0 H id b r v' es')
@[congr] theorem qo5{er:Y->D}{pre:Rn->List D->Z->Prop}{post:Rn->Z->List D->Y->Prop}{id b:Nat}{q q' q1 q1':Option Res}{o o':Option Z}{H:ab}{K:D->ab->Prop}(h1:q=q')(h2:q1=q1')(h3:o=o'):qlT er pre post id b q q1 o H K=qlT er pre post id b q' q1' o' H K:=by subst h1;subst h2;subst h3;rfl
theorem qeC(x:qta)(H:ab)(id b:Nat):ah (gk (rnB.hp x) H) id (some (.box b (rnB.ce x)))=C0 H id b x.r x.v x.es:=rfl
theorem Bh(A:df Z)(er:Y->D)(pre:Rn->List D->Z->Prop)(post:Rn->Z->List D->Y->Prop)(d i b:Nat)(ds:List D)(H:ab)(K:D->ab->Prop):(qji A er pre post).pt d (.bptr i b 0::ds) H K=qlT er pre post i b (H i) (H 990) (A.dec ds) H K:=by
 refine propext ⟨fun h=>?_,fun h=>?_⟩
 ·obtain⟨id,b',x,z,ds',h1,h2,h3,h4,h5,h6,h7⟩:=h
  cases h1
  simp only[rnB,qt1,qus,or_false]at h5
  refine⟨x.r,x.v,x.es,h3,h4 (990, .mrow x.v x.es) (by simp[rnB]),h5,?_⟩
  rw[h2]
  refine⟨h6,fun v' es' y hq=>?_⟩
  have:=h7 ⟨x.r,v',es'⟩ y ⟨rfl,hq⟩
  rwa [qeC]at this
 ·obtain⟨r,v,es,h1,h2,h3,h4⟩:=h
  cases hz:A.dec ds with
  | none=>rw[hz]at h4;exact h4.elim
  | some z=>
    rw[hz]at h4
    refine⟨i,b,⟨r,v,es⟩,z,ds,rfl,hz,h1,fun p hp=>?_,by simp[rnB,h3],h4.1,fun x' y hq=>?_⟩
    ·simp only[rnB,qt1,qus,or_false]at hp
     subst hp
     exact h2
    ·obtain⟨r',v',es'⟩:=x'
     obtain⟨e,hq⟩:=hq
     have e:r'=r:=e
     subst e
     rw[qeC]
     exact h4.2 v' es' y hq
@[simp] theorem qr8(er:Y->D)(pre:Rn->List D->Z->Prop)(post:Rn->Z->List D->Y->Prop)(id b b':Nat)(r:Rn)(v v':Value)(es:List D)(o:Option Z)(H:ab)(K:D->ab->Prop):
 qlT er pre post id b (some (.box b' (ll r (.own 990 v)))) (some (.mrow v' es)) o H K=(b'=b/\v'=v/\id≠990/\dK o fun z=>pre r es z/\∀v' es' y,post r z es' y->K (er y) (C0 H id b r v' es')):=by
 refine propext ⟨fun⟨r1,v1,es1,h1,h2,h3,h4⟩=>?_,fun⟨h1,h2,h3,h4⟩=>⟨r,v,es,by rw[h1],by rw[h2],h3,h4⟩⟩
 injection h1 with h1
 injection h1 with h1 h5
 injection h2 with h2
 injection h2 with h2 h6
 obtain⟨e1,e2⟩:=Iq h5
 injection e2 with _ e2
 subst e1;subst e2;subst h6
 exact⟨h1,h2,h3,h4⟩
def qfa(er:Y->D)(b:Nat)(r:Rn)(post:List D->Y->Prop)(d:D)(H:ab):Prop:=L8 rnB er b (fun s y=>s.r=r/\post s.es y) d H
theorem LP{er:Y->D}{b:Nat}{r:Rn}{post:List D->Y->Prop}{d:D}{H:ab}(v:Value)(es:List D)(y:Y)(hr:FrzTo (fun i=>if i=0\/i=990 then none else H i) d (er y))(h0:H 0=some (.box b (ll r (.own 990 v))))(h1:H 990=some (.mrow v es))(hq:post es y):qfa er b r post d H:=
 ⟨⟨r,v,es⟩,y,by simpa [rnB]using hr,h0,fun p hp=>by
  simp only[rnB,qt1,qus,or_false]at hp
  subst hp
  exact h1,rfl,hq⟩
def Ok(cc:CC)(rs:List ak)(S:Nat->Spc)(A:df Z)(er:Y->D)(pre:Rn->List D->Z->Prop)(post:Rn->Z->List D->Y->Prop):Prop:=
 ∀b r v es z,pre r es z->vc S cc (sR rs fun d H'=>qfa er b r (post r z) d H') (dj (.bptr 0 b 0::A.view z)) (C0 bY 0 b r v es)
variable {P:Program}{S:Nat->Spc}{f:Nat}{im:List Nat}{cc:CC}{rs:List ak}{N:Nat}
theorem Ba{A:df Z}{er:Y->D}{pre:Rn->List D->Z->Prop}{post:Rn->Z->List D->Y->Prop}(hS:∀f,Tri P f (S f).pt)(h:aq P f im cc rs N)(hN:∀z,(A.view z).length+1<=N)(hw:Ok cc rs S A er pre post):Tri P f (qji A er pre post).pt:=
 wn (by simp[rnB]) hS h hN fun b x z hp=>hw b x.r x.v x.es z hp
end
section
variable {X Y Z:Type}
theorem qo9(H:ab)(r:Nat):qw H (some r) r=H r:=by simp only[qw];exact if_pos rfl
theorem Q6(H:ab)(w:Option Nat):gj H w []=H:=by
 funext i
 simp only[gj,List.lookup]
 split <;> rfl
theorem qdn(A:df X)(pre:D×X->Prop)(er:Z->D)(post:D×X->Z->Prop)(r b:Nat)(ds:List D):qeo r (qeX A pre er post).pt (.bptr r b 0::ds):=by
 refine⟨fun R=>qeW A pre er post b ds (R r) R fun _ _=>True,fun R d u=>∃cells x z,R r=some (.box b cells)/\A.dec ds=some x/\post (.cptr cells 0,x) z/\d=er z/\u=[],fun t H K=>?_⟩
 rw[qbb]
 show _↔qeW A pre er post b ds (qw H (some r) r) (qw H (some r)) (fun _ _=>True)/\∀d u,(∃cells x z,qw H (some r) r=some (.box b cells)/\A.dec ds=some x/\post (.cptr cells 0,x) z/\d=er z/\u=[])->K d (gj H (some r) u)
 rw[qo9]
 cases hH:H r with
 | none=>exact⟨fun h=>h.elim,fun h=>h.1.elim⟩
 | some q=>
   cases q with
   | box b' cells=>
     rw[qba,qba]
     cases hd:A.dec ds with
     | none=>exact⟨fun h=>h.2.elim,fun h=>h.1.2.elim⟩
     | some x=>
       constructor
       ·rintro⟨rfl,h1,h2⟩
        refine⟨⟨rfl,h1,fun _ _=>trivial⟩,?_⟩
        rintro d u ⟨cells',x',z,e1,e2,h3,rfl,rfl⟩
        cases e1;cases e2
        rw[Q6]
        exact h2 z h3
       ·rintro⟨⟨rfl,h1,_⟩,h2⟩
        refine⟨rfl,h1,fun z hz=>?_⟩
        have:=h2 (er z) [] ⟨cells,x,z,rfl,rfl,hz,rfl,rfl⟩
        rwa [Q6]at this
   | _=>exact⟨fun h=>h.elim,fun h=>h.1.elim⟩
theorem Pt(A:df X)(pre:D×X->Prop)(er:Z->D)(post:D×X->Z->Prop)(r b:Nat)(dst:Option Nat)(ds:List D)(H:ab)(K:D->ab->Prop):Iu r dst (qeX A pre er post) (.bptr r b 0::ds) H K=qeW A pre er post b ds (H r) H K:=by
 rw[<-qbb A pre er post (dst.getD 0)]
 exact propext ⟨fun h=>h.2,fun h=>⟨qdn A pre er post r b ds,h⟩⟩
end
end Go.Gv

namespace Go.Gv
open Cod (enc dec)
@[simp] theorem qng(s:St3):St3.mk s.p s.b0 s.b1 s.b2=s:=by cases s;rfl
theorem Hv{X:Type}[Cod X][DecidableEq X]{ka:Bool}{ks:List KK}(hK:TX X ka ks)(x:X)(hM:F3 (enc x) (enc x))(l:List X)(K:List D->Prop):yJ ka ks (enc x) (.v (.bool true)) (bz l) K=K (bz (uX x l)):=by
 refine propext ⟨fun⟨_,_,h1,h2⟩=>?_,qcq hK rfl⟩
 by_cases hx:x∈l
 ·obtain⟨a,b,rfl⟩:=qwz hx
  have e:uX x (a++x::b)=a++x::b:=by unfold uX;rw[if_pos hx]
  have:=h1 (bz a) (enc x) (.v (.bool true)) (bz b) (by simp[bz]) hM
  rw[e]
  have e2:bz (a++x::b)=bz a++ .tup [enc x, .v (.bool true)]::bz b:=by simp[bz]
  rw[e2]
  exact this
 ·have:=h2 fun _ v hm=>hx (zF.1 hm).1
  have e:uX x l=l++ [x]:=by unfold uX;rw[if_neg hx]
  rw[e,gX]
  exact this
theorem PN(s:St3):F3 (enc s) (enc s):=by
 refine⟨fun _=>False,fun _=>False,default, .agg [Value.int .i64 s.p, .int .i64 s.b0, .int .i64 s.b1, .int .i64 s.b2].toArray,?_,?_⟩ <;>
 ·refine R.agg _ _ rfl (by simp[Value.oneCell']) fun k x c h1 h2=>?_
  rcases k with _|_|_|_|k
  ·cases h1;cases h2;exact R.int .i64 _
  ·cases h1;cases h2;exact R.int .i64 _
  ·cases h1;cases h2;exact R.int .i64 _
  ·cases h1;cases h2;exact R.int .i64 _
  ·simp at h1
@[simp] theorem qfz(a b c d:Int)(l:List St3)(K:List D->Prop):yJ true [.int .i64, .int .i64, .int .i64, .int .i64] (.agg [.v (.int .i64 a), .v (.int .i64 b), .v (.int .i64 c), .v (.int .i64 d)]) (.v (.bool true)) (bz l) K=K (bz (uX ⟨a,b,c,d⟩ l)):=
 Hv UE ⟨a,b,c,d⟩ (PN _) l K
@[simp] theorem qmz(ok:Bool)(a b c d:Int)(l:List St3)(K:D->Prop):uW ok false true [.int .i64, .int .i64, .int .i64, .int .i64] [.bool false] (.agg [.v (.int .i64 a), .v (.int .i64 b), .v (.int .i64 c), .v (.int .i64 d)]) (bz l) K=K (qdc ok (.v (.bool (decide ((⟨a,b,c,d⟩:St3) ∈l)))) (decide ((⟨a,b,c,d⟩:St3) ∈l))):=
 FR UE ⟨a,b,c,d⟩ (PN _) l K
@[simp] theorem qly(a b c d:Int)(K:List D->Prop):yJ true [.int .i64, .int .i64, .int .i64, .int .i64] (.agg [.v (.int .i64 a), .v (.int .i64 b), .v (.int .i64 c), .v (.int .i64 d)]) (.v (.bool true)) [] K=K (bz [(⟨a,b,c,d⟩:St3)]):=
 qfz a b c d [] K
theorem YG{X:Type}[Cod X](l:List X):(bz l).length=l.length:=by simp[bz]
theorem qi{X:Type}[Cod X]:bz ([]:List X)=[]:=rfl
theorem fb{X:Type}[Cod X]{l:List X}(h:bz l=[]):l=[]:=by
 cases l with
 | nil=>rfl
 | cons a l=>simp[bz]at h
theorem HT{X:Type}[Cod X]{l l':List X}(h:bz l=bz l'):l=l':=by
 unfold bz at h
 induction l generalizing l' with
 | nil=>cases l' with
   | nil=>rfl
   | cons a l=>simp at h
 | cons a l ih=>cases l' with
   | nil=>simp at h
   | cons b l'=>
     simp only[qun,quk,D.tup.injEq,and_true]at h
     rw[aL h.1,ih h.2]
theorem vU{Hf:ab}{i:Nat}{x:Value}{es:List D}(h:Hf i=some (.mrow x es)):FrzTo Hf (.own i x) (.mp es):= .mrow h rfl fun k c c' h1 h2=>by rw[h1]at h2;cases h2;exact .same _
@[simp] theorem qrP(d:Option Nat)(g:Option (Nat×Bool))(o:MOp)(xs:List Operand):(CI.op d g (.m o xs)).wid=d:=id rfl
end Go.Gv

namespace Go.Gv
open Go.Proofs
def cV:CC:=by refine(fun(_:G.ap (G.gn Tryz.prog Tryz.f82 [3] {})=?c)=>?c) ?h;case h=>conv=>lhs; (conv=>arg 1;reduce);dsimp only[G.ap]
def cR:List ak:=[.tmp 4]
theorem mw:aq Tryz.prog bL [3] cV cR 28:=ai mixed (by kernel_rfl)
def dD:CC:=by refine(fun(_:G.ap (G.gn Tryz.prog Tryz.f131 [4,2049005] {})=?c)=>?c) ?h;case h=>conv=>lhs; (conv=>arg 1;reduce);dsimp only[G.ap]
def dv:List ak:=[.cell 6 true 4, .tmp 7]
theorem BB:aq Tryz.prog fw [4,2049005] dD dv 55:=ai mixed (by kernel_rfl)
def kS:CC:=by refine(fun(_:G.ap (G.gn Tryz.prog Tryz.f132 [5,4,3] {})=?c)=>?c) ?h;case h=>conv=>lhs; (conv=>arg 1;reduce);dsimp only[G.ap]
def kH:List ak:=[.tmp 6]
theorem AD:aq Tryz.prog eH [5,4,3] kS kH 14:=ai mixed (by kernel_rfl)
def ba:CC:=by refine(fun(_:G.ap (G.gn Tryz.prog Tryz.f182 [4] {})=?c)=>?c) ?h;case h=>conv=>lhs; (conv=>arg 1;reduce);dsimp only[G.ap]
def aZ:List ak:=[.tmp 5]
theorem yt:aq Tryz.prog aS [4] ba aZ 42:=ai mixed (by kernel_rfl)
def vo:CC:=by refine(fun(_:G.ap (G.gn Tryz.prog Tryz.f183 [] {})=?c)=>?c) ?h;case h=>conv=>lhs; (conv=>arg 1;reduce);dsimp only[G.ap]
def uL:List ak:=[.tmp 2]
theorem KT:aq Tryz.prog rK [] vo uL 22:=ai mixed (by kernel_rfl)
def od:CC:=by refine(fun(_:G.ap (G.gn Tryz.prog Tryz.f180 [6,5] {})=?c)=>?c) ?h;case h=>conv=>lhs; (conv=>arg 1;reduce);dsimp only[G.ap]
def nf:List ak:=[.tmp 10]
theorem Do:aq Tryz.prog km [6,5] od nf 17:=ai mixed (by kernel_rfl)
end Go.Gv

namespace Go.Gv
open Go.Proofs
open Cod (enc dec)
variable {S S0:Nat->Spc}
def qhA(d:D):Prop:=∃r k,d= .cptr (ll r k) 0/\r.lb.length<=3
def qk9(s:St3):Prop:=0<=s.p/\s.p<=1000000/\∀i,0<=s.get i/\s.get i<=1000000
def L6(x:D×St3):Prop:=qhA x.1/\qk9 x.2
def Rf(x:D×St3)(y:List Int):Prop:=∀r k,x.1= .cptr (ll r k) 0->y=Oh r x.2
abbrev Sr:Spc:=bj (aD (a1 St3)) L6 (enc (X:=List Int)) Rf
theorem Qc(s:St3){k:Nat}(hk:k < 3):([.v (.int .i64 s.p), .v (.int .i64 s.b0), .v (.int .i64 s.b1), .v (.int .i64 s.b2)]:List D)[1+k]? =some (.v (.int .i64 (s.get k))):=by
 rcases k with _|_|_|k
 ·rfl
 ·rfl
 ·rfl
 ·omega
theorem qfn:ar cV cR S (aD (a1 St3)) L6 (enc (X:=List Int)) Rf:=by
 rintro⟨d,s⟩ ⟨⟨r,k,hd,hl⟩,hs⟩
 have hd:d= .cptr (ll r k) 0:=hd
 subst hd
 simp[cV,cR,ll, -Bool.forall_bool, -Bool.exists_bool]
 intro hl1
 refine⟨by omega,by omega,fun v hl2=>?_⟩
 refine aj (X:=List Int) [3,5] [] r.lb.length (fun k z=>z.length=r.lb.length/\∀i,i < k->z[i]? =some (s.get i -1)) (fun _=>[]) (fun z=>[(12, .row v ix 1 (z.map enc))]) (List.replicate r.lb.length 0) (by simp) (by simp) (by omega) (by simp) (by simp) (by simp) (by simp) (by simp) ?_ ?_
 ·rintro j z hj ⟨hz1,hz2⟩
  have hg:=Qc s (k:=j) (by omega)
  have hb:0<=s.get j/\s.get j<=1000000:=hs.2.2 j
  have hjz:j < z.length:=by omega
  simp[hj,hg,hjz, -Bool.forall_bool, -Bool.exists_bool]
  refine⟨by omega,by omega,by simp only[InR];omega,z.set j (s.get j -1),⟨by simp[hz1],fun i hi=>?_⟩, .inl (by rw[qwa];rfl)⟩
  by_cases e:j=i
  ·subst e
   rw[qu1 (by omega)]
  ·rw[qv2 e]
   exact hz2 i (by omega)
 ·rintro z ⟨hz1,hz2⟩
  simp[-Bool.forall_bool, -Bool.exists_bool]
  refine cX z (jj ix (by simp[ah])) fun r' k' e=>?_
  have e:D.cptr (ll r k) 0= .cptr (ll r' k') 0:=e
  obtain rfl:=CX e
  refine quQ fun i=>?_
  unfold Oh
  rw[quc]
  by_cases hi:i < r.lb.length
  ·rw[hz2 i hi,qu2 hi];rfl
  ·rw[qur (by omega),qur (by simp;omega)];rfl
def AV(p:Pat):Bool:=decide (p.op=6) && decide (p.mx < 0) && decide (p.mn<=1)
abbrev MX:Spc:=bj (aD a0) (fun x=>∃p,rQ x.1 p) (enc (X:=Bool)) fun x y=>∀p,rQ x.1 p->y=AV p
def Vq(x:D×Pat×St3):Prop:=(∃r k,x.1= .cptr (ll r k) 0/\r.lb.length<=3/\qhP r.c/\(x.2.1.lab≠ri->sU r.lb x.2.1.lab=true)/\(x.2.2.p < r.en->∃y,AA r x.2.1 x.2.2=some y))/\qk9 x.2.2
def Re(x:D×Pat×St3)(y:St3×Bool):Prop:=∀r k,x.1= .cptr (ll r k) 0->(y.2=true↔x.2.2.p < r.en/\AA r x.2.1 x.2.2=some true)/\(y.2=true->y.1=D0 r x.2.1 x.2.2)
end Go.Gv

namespace Go.Gv
open Go.Proofs
open Cod (enc dec)
variable {S S0:Nat->Spc}
abbrev MZ:Spc:=bj aH (qek 21) (enc (X:=Bool)) (qht 21)
theorem qcf(h1:S dV=yV 21):ar od nf S aH (qek 21) (enc (X:=Bool)) (qht 21):=by
 rintro⟨c,x,tok,lb,bd⟩ hp
 simp[od,nf,h1,hp, -Bool.forall_bool, -Bool.exists_bool]
theorem sX(p:Pat):enc p= .agg (enc p).cells:=by simp
theorem rv{d:D}{p q:Pat}(h1:rQ d p)(h2:rQ d q):p=q:=by
 obtain⟨cs,off,rfl,_,e1⟩:=h1
 obtain⟨cs',off',e,_,e2⟩:=h2
 cases e
 exact aL (by rw[sX p,sX q,<-e1,<-e2])
theorem qb8:ar vo uL S (aD a0) (fun x=>∃p,rQ x.1 p) (enc (X:=Bool)) fun x y=>∀p,rQ x.1 p->y=AV p:=by
 rintro⟨d,⟨⟩⟩ ⟨p,cs,off,hd,hl,hc⟩
 have hd:d= .cptr cs off:=hd
 subst hd
 have c0:cs[off]? =some (.v (.int .i64 p.op)):=by
  have:=wM hl hc (j:=0) (by decide)
  rw[qu6]at this
  rw[this];simp
 have c10:cs[off+10]? =some (.v (.int .i64 p.mn)):=by rw[wM hl hc (j:=10) (by decide)];simp
 have c11:cs[off+11]? =some (.v (.int .i64 p.mx)):=by rw[wM hl hc (j:=11) (by decide)];simp
 have hlo:off+1<=cs.length:=by omega
 have hl10:off+10+1<=cs.length:=by omega
 have hl11:off+11+1<=cs.length:=by omega
 simp[vo,uL,c0,c10,c11,hlo,hl10,hl11, -Bool.forall_bool, -Bool.exists_bool]
 have hp:rQ (.cptr cs off) p:=⟨cs,off,rfl,hl,hc⟩
 refine⟨fun h6=>⟨fun hm q hq=>?_,fun hm q hq=>?_⟩,fun h6 q hq=>?_⟩
 ·obtain rfl:=rv hp hq
  simp[AV,h6,hm]
 ·obtain rfl:=rv hp hq
  simp[AV,h6]
  omega
 ·obtain rfl:=rv hp hq
  simp[AV,h6]
abbrev qfR:Spc:=bj (aD (a2 Pat St3)) Vq (ro (Y:=St3) (Z:=Bool)) Re
theorem qdt{r:Rn}{b:B}(hl:r.lb.length<=3)(h:sU r.lb b=true):(gi r.lb fun z=>decide (z=b))=0\/(gi r.lb fun z=>decide (z=b))=1\/(gi r.lb fun z=>decide (z=b))=2:=by
 have h1:=tY (fun z=>decide (z=b)) r.lb
 have h2:=zJ (fun z=>decide (z=b)) r.lb
 have h3:decide (0<=gi r.lb fun z=>decide (z=b))=true:=h1.trans h
 have h4:=of_decide_eq_true h3
 omega
theorem qfl(h1:S bL=Sr)(h2:S km=MZ)(h3:S aM=wu):ar dD dv S (aD (a2 Pat St3)) Vq (ro (Y:=St3) (Z:=Bool)) Re:=by
 rintro⟨d,p,s⟩ ⟨⟨r,k,hd,hl,hz,hlab,htok⟩,hs⟩
 have hd:d= .cptr (ll r k) 0:=hd
 subst hd
 have hs:qk9 s:=hs
 have hPa:L6 (.cptr (ll r k) 0,s):=⟨⟨r,k,rfl,hl⟩,hs⟩
 have hp0:=hs.1
 have hp1:=hs.2.1
 have hno:∀y:St3,(¬s.p < r.en\/AA r p s=some false)->Re (.cptr (ll r k) 0,p,s) (y,false):=fun y h r' k' e=>by
  have e:D.cptr (ll r k) 0= .cptr (ll r' k') 0:=e
  obtain rfl:=CX e
  refine⟨⟨fun h=>(by cases h),fun h2=>?_⟩,fun h=>(by cases h)⟩
  rcases h with h|h
  ·exact absurd h2.1 h
  ·have h3:AA r p s=some true:=h2.2
   rw[h]at h3;cases h3
 have hyes:s.p < r.en->AA r p s=some true->Re (.cptr (ll r k) 0,p,s) (D0 r p s,true):=fun h4 h5 r' k' e=>by
  have e:D.cptr (ll r k) 0= .cptr (ll r' k') 0:=e
  obtain rfl:=CX e
  exact⟨⟨fun _=>⟨h4,h5⟩,fun _=>rfl⟩,fun _=>rfl⟩
 simp only[ll]at hPa hno hyes
 have hz3:∀ (y:List Int),Rf (.cptr (ll r k) 0,s) y->y=Oh r s:=fun y h=>h r k rfl
 simp only[ll]at hz3
 by_cases hL:p.lab=ri
 ·have hL2:p.lab=⟨#[]⟩:=hL
  have hnx:D0 r p s=⟨s.p+1,s.b0,s.b1,s.b2⟩:=by unfold D0;rw[if_pos hL]
  rw[hnx]at hyes
  simp[dD,dv,ll,h1,h2,h3,hPa,hL2, -Bool.forall_bool, -Bool.exists_bool]
  refine fun b=>⟨fun h4 y hy=>?_,fun h4=>⟨⟨0,0,0,0⟩, .same _,hno _ (.inl (by omega))⟩⟩
  obtain rfl:=hz3 y hy
  obtain⟨z,hz2⟩:=htok h4
  refine⟨⟨hz,z,hz2⟩,fun y1 hy1=>?_⟩
  have hy1:AA r p s=some y1:=hy1
  refine⟨fun e=>⟨⟨0,0,0,0⟩, .same _,hno _ (.inr (e ▸hy1))⟩,fun e=>?_⟩
  exact⟨by simp only[InR];omega,⟨s.p+1,s.b0,s.b1,s.b2⟩, .same _,hyes h4 (e ▸hy1)⟩
 ·have hL2:¬p.lab=⟨#[]⟩:=hL
  rcases qdt hl (hlab hL)with hq|hq|hq
  ·have hnx:D0 r p s=⟨s.p+1,s.p+1,s.b1,s.b2⟩:=by unfold D0;rw[if_neg hL,hq];rfl
   rw[hnx]at hyes
   simp[dD,dv,ll,h1,h2,h3,hPa,hL2,hq, -Bool.forall_bool, -Bool.exists_bool]
   refine fun b=>⟨fun h4 y hy=>?_,fun h4=>⟨⟨0,0,0,0⟩, .same _,hno _ (.inl (by omega))⟩⟩
   obtain rfl:=hz3 y hy
   obtain⟨z,hz2⟩:=htok h4
   refine⟨⟨hz,z,hz2⟩,fun y1 hy1=>?_⟩
   have hy1:AA r p s=some y1:=hy1
   refine⟨fun e=>⟨⟨0,0,0,0⟩, .same _,hno _ (.inr (e ▸hy1))⟩,fun e=>?_⟩
   exact⟨by simp only[InR];omega,⟨s.p+1,s.p+1,s.b1,s.b2⟩, .same _,hyes h4 (e ▸hy1)⟩
  ·have hnx:D0 r p s=⟨s.p+1,s.b0,s.p+1,s.b2⟩:=by unfold D0;rw[if_neg hL,hq];rfl
   rw[hnx]at hyes
   simp[dD,dv,ll,h1,h2,h3,hPa,hL2,hq, -Bool.forall_bool, -Bool.exists_bool]
   refine fun b=>⟨fun h4 y hy=>?_,fun h4=>⟨⟨0,0,0,0⟩, .same _,hno _ (.inl (by omega))⟩⟩
   obtain rfl:=hz3 y hy
   obtain⟨z,hz2⟩:=htok h4
   refine⟨⟨hz,z,hz2⟩,fun y1 hy1=>?_⟩
   have hy1:AA r p s=some y1:=hy1
   refine⟨fun e=>⟨⟨0,0,0,0⟩, .same _,hno _ (.inr (e ▸hy1))⟩,fun e=>?_⟩
   exact⟨by simp only[InR];omega,⟨s.p+1,s.b0,s.p+1,s.b2⟩, .same _,hyes h4 (e ▸hy1)⟩
  ·have hnx:D0 r p s=⟨s.p+1,s.b0,s.b1,s.p+1⟩:=by unfold D0;rw[if_neg hL,hq];rfl
   rw[hnx]at hyes
   simp[dD,dv,ll,h1,h2,h3,hPa,hL2,hq, -Bool.forall_bool, -Bool.exists_bool]
   refine fun b=>⟨fun h4 y hy=>?_,fun h4=>⟨⟨0,0,0,0⟩, .same _,hno _ (.inl (by omega))⟩⟩
   obtain rfl:=hz3 y hy
   obtain⟨z,hz2⟩:=htok h4
   refine⟨⟨hz,z,hz2⟩,fun y1 hy1=>?_⟩
   have hy1:AA r p s=some y1:=hy1
   refine⟨fun e=>⟨⟨0,0,0,0⟩, .same _,hno _ (.inr (e ▸hy1))⟩,fun e=>?_⟩
   exact⟨by simp only[InR];omega,⟨s.p+1,s.b0,s.b1,s.p+1⟩, .same _,hyes h4 (e ▸hy1)⟩
end Go.Gv

namespace Go.Gv
open Go.Proofs
open Cod (enc dec)
variable {S S0:Nat->Spc}
def Le(r:Rn)(p:Pat)(at_:Int)(x:Region):Bool:=decide (x.ty=p.reg) && decide ((if p.op=3 then x.e else x.b)=at_) && decide (r.bg<=x.b) && decide (x.e<=r.en)
def XR(x:Region×Pat×Int×Rn×D):List D:=[enc x.1, .cptr (enc x.2.1).cells 0, .cptr [enc x.2.2.1] 0, .cptr [.cptr (ll x.2.2.2.1 x.2.2.2.2) 0] 0]
theorem Uh(z z':Region×Pat×Int×Rn×D)(h:XR z=XR z'):z=z':=by
 obtain⟨a,p,i,r,k⟩:=z
 obtain⟨a',p',i',r',k'⟩:=z'
 unfold XR at h
 simp only[quk,D.cptr.injEq,and_true]at h
 obtain⟨h1,h2,h3,h4⟩:=h
 have e:p=p':=aL (by rw[sX p,sX p',h2])
 obtain⟨e2,e3⟩:=Iq h4
 rw[aL h1,e,aL h3,e2,e3]
noncomputable abbrev qs8:df (Region×Pat×Int×Rn×D):=aX XR Uh
noncomputable abbrev tT:Spc:=bj qs8 (fun _=>True) (enc (X:=Bool)) fun x y=>y=Le x.2.2.2.1 x.2.1 x.2.2.1 x.1
theorem qcb:ar ba aZ S qs8 (fun _=>True) (enc (X:=Bool)) fun x y=>y=Le x.2.2.2.1 x.2.1 x.2.2.1 x.1:=by
 rintro⟨a,p,i,r,k⟩ -
 rw[Au]
 by_cases e0:p.op=3
 ·by_cases e1:a.ty=p.reg
  rotate_left
  ·simp[XR,ba,aZ,Le,e0,e1, -Bool.forall_bool, -Bool.exists_bool]
  by_cases e2:a.e=i
  rotate_left
  ·simp[XR,ba,aZ,Le,e0,e1,e2, -Bool.forall_bool, -Bool.exists_bool]
  by_cases e3:r.bg<=a.b
  rotate_left
  ·simp[XR,ba,aZ,Le,e0,e1,e2,e3, -Bool.forall_bool, -Bool.exists_bool]
  simp[XR,ba,aZ,Le,e0,e1,e2,e3, -Bool.forall_bool, -Bool.exists_bool]
 ·by_cases e1:a.ty=p.reg
  rotate_left
  ·simp[XR,ba,aZ,Le,e0,e1, -Bool.forall_bool, -Bool.exists_bool]
  by_cases e2:a.b=i
  rotate_left
  ·simp[XR,ba,aZ,Le,e0,e1,e2, -Bool.forall_bool, -Bool.exists_bool]
  simp[XR,ba,aZ,Le,e0,e1,e2, -Bool.forall_bool, -Bool.exists_bool]
  exact⟨by intros;omega,by intros;omega⟩
abbrev qbI(x:D×Pat×Int):Prop:=qhA x.1
abbrev qby(x:D×Pat×Int)(y:Bool):Prop:=∀r k,x.1= .cptr (ll r k) 0->y=TO r x.2.1 x.2.2
abbrev qfS:Spc:=bj (aD (a2 Pat Int)) qbI (enc (X:=Bool)) qby
theorem qfo(h0:S0 aS=tT)(h1:S aO=Na Region S0):ar kS kH S (aD (a2 Pat Int)) qbI (enc (X:=Bool)) qby:=by
 rintro⟨d,p,i⟩ ⟨r,k,hd,hl⟩
 have hd:d= .cptr (ll r k) 0:=hd
 subst hd
 have hf:FunOn S0 (.clo aS [.cptr (enc p).cells 0, .cptr [enc i] 0, .cptr [.cptr (ll r k) 0] 0]) r.c.regs (Le r p i):=
  vV (f:=fun a=>(a,p,i,r,k)) h0 (fun a _=>B8 XR Uh (a,p,i,r,k)) (fun _ _=>trivial) (fun a _ y hy=>hy)
 rw[show(enc p).cells=[enc p.op,enc p.cond.op,enc p.cond.name,enc p.cond.arg,enc p.cond.val,enc p.cond.lab,enc p.cond.fold,enc p.cond.kids,enc p.lab,enc p.reg,enc p.mn,enc p.mx,enc p.kids] by simp]at hf
 simp at hf
 simp[kS,kH,h1, -Bool.forall_bool, -Bool.exists_bool]
 refine⟨⟨_,hf⟩,fun y hy r' k' e=>?_⟩
 have e:D.cptr (ll r k) 0= .cptr (ll r' k') 0:=e
 obtain rfl:=CX e
 rw[hy _ hf]
 rfl
end Go.Gv

namespace Go.Gv
open Go.Proofs
def nV:CC:=by refine(fun(_:G.ap (G.gn Tryz.prog Tryz.f133 [] { ke:=[0,990] })=?c)=>?c) ?h;case h=>conv=>lhs; (conv=>arg 1;reduce);dsimp only[G.ap]
def mW:List ak:=[.tmp 6]
theorem Di:aq Tryz.prog eu [] nV mW 29:=ai mixed (by kernel_rfl)
def lZ:CC:=by refine(fun(_:G.ap (G.gn Tryz.prog Tryz.f81 [5,3045000,2010010] { cu:=[6,15],ke:=[0,990] })=?c)=>?c) ?h;case h=>conv=>lhs; (conv=>arg 1;reduce);dsimp only[G.ap]
def lK:List ak:=[.tmp 6]
theorem BC:aq Tryz.prog bv [5,3045000,2010010] lZ lK 121:=ai mixed (by kernel_rfl)
def kQ:CC:=by refine(fun(_:G.ap (G.gn Tryz.prog Tryz.f134 [5] { bx:=[53],cu:=[3,7,13,17],ke:=[0,990] })=?c)=>?c) ?h;case h=>conv=>lhs; (conv=>arg 1;reduce);dsimp only[G.ap]
def kG:List ak:=[.tmp 6]
theorem AC:aq Tryz.prog gG [5] kQ kG 109:=ai mixed (by kernel_rfl)
def nY:CC:=by refine(fun(_:G.ap (G.gn Tryz.prog Tryz.f185 [] { bx:=[0] })=?c)=>?c) ?h;case h=>conv=>lhs; (conv=>arg 1;reduce);dsimp only[G.ap]
def mZ:List ak:=[]
theorem Dl:aq Tryz.prog kj [] nY mZ 16:=ai mixed (by kernel_rfl)
end Go.Gv

namespace Go.Gv
open Go.Proofs
open Cod (enc dec)
variable {S S0:Nat->Spc}
structure qem (r:Rn) (q:Pat):Prop where
 nd:tE q
 num:uT q=true
 lab:q.lab≠ri->sU r.lb q.lab=true
 tok:q.op=1->∀s,OC r.en s->s.p < r.en->∃y,AA r q s=some y
structure qeh (r:Rn):Prop where
 l3:r.lb.length<=3
 sz:qhP r.c
 en:r.en<=100000
def Af(r:Rn)(es:List D):Prop:=∀e∈es,∃d p s l,rQ d p/\e= .tup [.agg [d, .v (.int .i64 s.p), .v (.int .i64 s.b0), .v (.int .i64 s.b1), .v (.int .i64 s.b2)], .mp (bz l)]/\l.Nodup/\∀t,t∈l↔kX r p s t
def qgM(l:List St3):D:= .mp (bz l)
@[simp] theorem qsG(l:List St3):qgM l= .mp (bz l):=rfl
def Vr(n:Nat)(r:Rn)(es:List D)(x:D×St3):Prop:=qeh r/\Af r es/\OC r.en x.2/\∃p,rQ x.1 p/\fk p<=n/\kA (qem r) p
def Vn(r:Rn)(x:D×St3)(es:List D)(y:List St3):Prop:=Af r es/\y.Nodup/\∀p,rQ x.1 p->∀t,t∈y↔kX r p x.2 t
abbrev AR(n:Nat):Spc:=qji (aD (a1 St3)) qgM (Vr n) Vn
def qbF(n:Nat)(r:Rn)(es:List D)(x:D×D×Unit):Prop:=qeh r/\Af r es/\(∃l:List St3,x.2.1= .mp (bz l)/\∀s∈l,OC r.en s)/\∃p,rQ x.1 p/\fk p<=n/\kA (qem r) p
def qbw(r:Rn)(x:D×D×Unit)(es:List D)(y:List St3):Prop:=Af r es/\y.Nodup/\∀ (p:Pat) (l:List St3),rQ x.1 p->x.2.1= .mp (bz l)->∀t,t∈y↔ ∃s∈l,kX r p s t
abbrev H6(n:Nat):Spc:=qji (aD (aD a0)) qgM (qbF n) qbw
theorem qfq(n:Nat)(h1:S bv=AR n):Ok nV mW S (aD (aD a0)) qgM (qbF n) qbw:=by
 rintro b r v es ⟨d,dl,⟨⟩⟩ ⟨hr,hm,⟨l,hdl,hl⟩,p,hp,hpn,hpa⟩
 have hdl:dl= .mp (bz l):=hdl
 subst hdl
 obtain⟨cs,off,hd,hl13,hc13⟩:=hp
 have hd:d= .cptr cs off:=hd
 subst hd
 have hp:rQ (.cptr cs off) p:=⟨cs,off,rfl,hl13,hc13⟩
 simp[nV,mW,C0, -Bool.forall_bool, -Bool.exists_bool]
 intro v1 b1
 refine av (X:=Value×List D×List St3×List D×List St3) [0,1,7,12] [] (fun x=>Af r x.2.1/\x.2.2.1.Nodup/\(∀s∈x.2.2.2.2,s∈l)/\(∀t∈x.2.2.1,∃s∈l,kX r p s t)/\∀s∈l,s∈x.2.2.2.2\/ ∀t,kX r p s t->t∈x.2.2.1)
  (fun _=>[]) (fun x=>[(0, .box b (ll r (.own 990 x.1))),(990, .mrow x.1 x.2.1),(10, .mrow v1 (bz x.2.2.1)),(12, .miter b1 x.2.2.2.1 (bz x.2.2.2.2))]) (fun x=>x.2.2.2.2.length) (v,es, [], [],l)
  ⟨hm,qvG,fun _ h=>h,fun _ h=>(by cases h),fun s hs=> .inl hs⟩ (by simp) (by simp[qi]) ?_
 rintro⟨v',es',out,cur,left⟩ ⟨hm',hn',hl',ho',hd'⟩
 simp only at hm' hn' hl' ho' hd'
 simp[-Bool.forall_bool, -Bool.exists_bool]
 refine⟨fun h0=>?_,fun l1 e l2 hsp=>?_⟩
 ·have hlz:=fb h0
  subst hlz
  refine LP v' es' out (vU (by simp[ah])) (by simp[ah]) (by simp[ah]) ⟨hm',hn',fun p' l' hp' hl2 t=>?_⟩
  obtain rfl:=rv hp hp'
  have hl2:D.mp (bz l)= .mp (bz l'):=hl2
  obtain rfl:=HT (D.mp.inj hl2)
  exact⟨ho' t,fun⟨s,hs,hD⟩=>(hd' s hs).elim (fun h=>by cases h) fun h=>h t hD⟩
 ·obtain⟨a,s,c,rfl,rfl,rfl,rfl⟩:=gq hsp
  have hs:s∈l:=hl' s (by simp)
  have hPr:Vr n r es' (.cptr cs off,s):=⟨hr,hm',hl s hs,p,hp,hpn,hpa⟩
  simp[h1,Bh,hPr,C0, -Bool.forall_bool, -Bool.exists_bool]
  intro v2 es2 ys hQ b2
  have hys:=hQ.2.2 p hp
  refine av (X:=List St3×List D×List St3) [0,1,7,12,21] [0,990,12] (fun x=>x.1.Nodup/\(∀t∈x.2.2,t∈ys)/\(∀t∈out,t∈x.1)/\(∀t∈x.1,t∈out\/t∈ys)/\∀t∈ys,t∈x.2.2\/t∈x.1)
   (fun _=>[]) (fun x=>[(10, .mrow v1 (bz x.1)),(21, .miter b2 x.2.1 (bz x.2.2))]) (fun x=>x.2.2.length) (out, [],ys)
   ⟨hn',fun _ h=>h,fun _ h=>h,fun _ h=> .inl h,fun _ h=> .inl h⟩ (by simp) (by simp) ?_
  rintro⟨out2,cur2,left2⟩ ⟨g1,g2,g3,g4,g5⟩
  simp only at g1 g2 g3 g4 g5
  simp[-Bool.forall_bool, -Bool.exists_bool]
  refine⟨fun h0=>?_,fun l1 e l2 hsp2=>?_⟩
  ·have hlz:=fb h0
   subst hlz
   refine⟨v2,es2,out2,_,a++c,⟨hQ.1,g1,fun x h=>hl' x (by simp only[qtZ,qt1]at h ⊢;rcases h with h|h <;> simp[h]),fun t ht=>?_,fun x hx=>?_⟩,⟨.inl rfl, .inl ⟨rfl,rfl⟩, .inl rfl, .inl ⟨rfl,(gX a c).symm⟩⟩,by simp⟩
   ·rcases g4 t ht with h|h
    ·exact ho' t h
    ·exact⟨s,hs,(hys t).1 h⟩
   ·rcases hd' x hx with h|h
    ·rcases qtZ.1 h with h|h
     ·exact .inl (by simp[h])
     ·rcases qt1.1 h with rfl|h
      ·exact .inr fun t ht=>(g5 t ((hys t).2 ht)).elim (fun h=>by cases h) id
      ·exact .inl (by simp[h])
    ·exact .inr fun t ht=>g3 t (h t ht)
  ·obtain⟨a2,t,c2,rfl,rfl,rfl,rfl⟩:=gq hsp2
   simp[-Bool.forall_bool, -Bool.exists_bool]
   refine⟨uX t out2,_,a2++c2,⟨sT g1,fun x h=>g2 x (by simp only[qtZ,qt1]at h ⊢;rcases h with h|h <;> simp[h]),fun x hx=>dL.2 (.inr (g3 x hx)),fun x hx=>?_,fun x hx=>?_⟩,⟨.inl rfl, .inl ⟨rfl,(gX a2 c2).symm⟩⟩,by simp⟩
   ·rcases dL.1 hx with rfl|h
    ·exact .inr (g2 x (by simp))
    ·exact g4 x h
   ·rcases g5 x hx with h|h
    ·rcases qtZ.1 h with h|h
     ·exact .inl (by simp[h])
     ·rcases qt1.1 h with rfl|h
      ·exact .inr (dL.2 (.inl rfl))
      ·exact .inl (by simp[h])
    ·exact .inr (dL.2 (.inr h))
end Go.Gv
