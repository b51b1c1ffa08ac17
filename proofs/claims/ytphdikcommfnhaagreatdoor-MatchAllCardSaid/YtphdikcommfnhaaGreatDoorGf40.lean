/- A part of the framework and of the walks: T42 T44 C65 W180 W181 W182 C66 W183. -/
import Derived.Test.YtphdikcommfnhaaGreatDoorGf39
import Derived.Test.YtphdikcommfnhaaGreatDoorGf38
import Derived.Test.YtphdikcommfnhaaGreatDoorGf27
import Derived.Test.YtphdikcommfnhaaGreatDoorGf20
import Derived.Test.YtphdikcommfnhaaGreatDoorGf29
import Derived.Test.YtphdikcommfnhaaGreatDoorGf32
import Derived.Test.YtphdikcommfnhaaGreatDoorGf30
set_option linter.unusedSimpArgs false
set_option linter.unusedVariables false
set_option linter.unusedSectionVars false
set_option maxRecDepth 100000
set_option maxHeartbeats 0

namespace Go.Gv
open Go.Proofs
open Cod (enc dec)
def lp(r:Rn)(k:D):List D:=[.list 2 (r.c.attrs.map enc), .list 1 (r.c.toks.map enc), .list 4 (r.c.texts.map enc), .list 4 (r.c.regs.map enc), .list 4 (r.c.nodes.map enc), .list 1 (r.c.heads.map enc), .list 1 (r.c.rels.map enc), .list 1 (r.lb.map enc), .v (.int .i64 r.bg), .v (.int .i64 r.en),k]
theorem Jh{r r':Rn}{k k':D}(h:lp r k=lp r' k'):r=r'/\k=k':=by
 simp only[lp,qxg,D.list.injEq,D.v.injEq,qyU,true_and,and_true]at h
 obtain⟨h1,h2,h3,h4,h5,h6,h7,h8,h9,h10,h11⟩:=h
 obtain⟨⟨a1,a2,a3,a4,a5,a6,a7⟩,lb,bg,en⟩:=r
 obtain⟨⟨b1,b2,b3,b4,b5,b6,b7⟩,lb',bg',en'⟩:=r'
 have inj:∀ {X:Type} [Cod X] {l l':List X},l.map enc=l'.map enc->l=l':=fun {X} _ {l l'} h=>aK (X:=List X) (by show D.list _ _=D.list _ _;rw[h])
 simp only at h1 h2 h3 h4 h5 h6 h7 h8 h9 h10
 rw[inj h1,inj h2,inj h3,inj h4,inj h5,inj h6,inj h7,inj h8,h9,h10]
 exact⟨rfl,h11⟩
theorem DR{r r':Rn}{k k':D}(h:D.cptr (lp r k) 0= .cptr (lp r' k') 0):r=r':=by
 injection h with h _
 exact(Jh h).1
@[simp] theorem qoL(r:Rn)(k:D):(lp r k).length=11:=id rfl
@[simp] theorem qu0(r:Rn)(k:D)(h:3 < (lp r k).length):(lp r k)[3]= .list 4 (r.c.regs.map enc):=id rfl
@[simp] theorem quZ(r:Rn)(k:D)(h:8 < (lp r k).length):(lp r k)[8]= .v (.int .i64 r.bg):=id rfl
@[simp] theorem quY(r:Rn)(k:D)(h:9 < (lp r k).length):(lp r k)[9]= .v (.int .i64 r.en):=id rfl
@[simp] theorem qrU(r:Rn)(k:D)(h:10 < (lp r k).length):(lp r k)[10]=k:=id rfl
structure qv4 where
 r:Rn
 v:Value
 es:List D
def rnB:K5 qv4:=⟨[990],fun x=>lp x.r (.own 990 x.v),fun x=>[(990, .mrow x.v x.es)],fun _=>rfl⟩
section
variable {Y Z:Type}
def ql5(A:de Z)(er:Y->D)(pre:Rn->List D->Z->Prop)(post:Rn->Z->List D->Y->Prop):Spc:=qnG rnB A er (fun x z=>pre x.r x.es z) (fun x z x' y=>x'.r=x.r/\post x.r z x'.es y)
def DU(H:ab)(id b:Nat)(r:Rn)(v:Value)(es:List D):ab:=ah (ah H 990 (some (.mrow v es))) id (some (.box b (lp r (.own 990 v))))
def qoK(er:Y->D)(pre:Rn->List D->Z->Prop)(post:Rn->Z->List D->Y->Prop)(id b:Nat)(q q1:Option Res)(o:Option Z)(H:ab)(K:D->ab->Prop):Prop:=
 ∃r v es,q=some (.box b (lp r (.own 990 v)))/\q1=some (.mrow v es)/\id≠990/\dS o fun z=>pre r es z/\∀v' es' y,post r z es' y->K (er y) (DU H id b r v' es')
@[congr] theorem qrV{er:Y->D}{pre:Rn->List D->Z->Prop}{post:Rn->Z->List D->Y->Prop}{id b:Nat}{q q' q1 q1':Option Res}{o o':Option Z}{H:ab}{K:D->ab->Prop}(h1:q=q')(h2:q1=q1')(h3:o=o'):qoK er pre post id b q q1 o H K=qoK er pre post id b q' q1' o' H K:=by subst h1;subst h2;subst h3;rfl
theorem qg2(x:qv4)(H:ab)(id b:Nat):ah (gj (rnB.hp x) H) id (some (.box b (rnB.ce x)))=DU H id b x.r x.v x.es:=rfl
theorem B7(A:de Z)(er:Y->D)(pre:Rn->List D->Z->Prop)(post:Rn->Z->List D->Y->Prop)(d i b:Nat)(ds:List D)(H:ab)(K:D->ab->Prop):(ql5 A er pre post).pt d (.bptr i b 0::ds) H K=qoK er pre post i b (H i) (H 990) (A.dec ds) H K:=by
 refine propext ⟨fun h=>?_,fun h=>?_⟩
 ·obtain⟨id,b',x,z,ds',h1,h2,h3,h4,h5,h6,h7⟩:=h
  cases h1
  simp only[rnB,qwT,qxe,or_false]at h5
  refine⟨x.r,x.v,x.es,h3,h4 (990, .mrow x.v x.es) (by simp[rnB]),h5,?_⟩
  rw[h2]
  refine⟨h6,fun v' es' y hq=>?_⟩
  have:=h7 ⟨x.r,v',es'⟩ y ⟨rfl,hq⟩
  rwa [qg2]at this
 ·obtain⟨r,v,es,h1,h2,h3,h4⟩:=h
  cases hz:A.dec ds with
  | none=>rw[hz]at h4;exact h4.elim
  | some z=>
    rw[hz]at h4
    refine⟨i,b,⟨r,v,es⟩,z,ds,rfl,hz,h1,fun p hp=>?_,by simp[rnB,h3],h4.1,fun x' y hq=>?_⟩
    ·simp only[rnB,qwT,qxe,or_false]at hp
     subst hp
     exact h2
    ·obtain⟨r',v',es'⟩:=x'
     obtain⟨e,hq⟩:=hq
     have e:r'=r:=e
     subst e
     rw[qg2]
     exact h4.2 v' es' y hq
@[simp] theorem qu1(er:Y->D)(pre:Rn->List D->Z->Prop)(post:Rn->Z->List D->Y->Prop)(id b b':Nat)(r:Rn)(v v':Value)(es:List D)(o:Option Z)(H:ab)(K:D->ab->Prop):
 qoK er pre post id b (some (.box b' (lp r (.own 990 v)))) (some (.mrow v' es)) o H K=(b'=b/\v'=v/\id≠990/\dS o fun z=>pre r es z/\∀v' es' y,post r z es' y->K (er y) (DU H id b r v' es')):=by
 refine propext ⟨fun⟨r1,v1,es1,h1,h2,h3,h4⟩=>?_,fun⟨h1,h2,h3,h4⟩=>⟨r,v,es,by rw[h1],by rw[h2],h3,h4⟩⟩
 injection h1 with h1
 injection h1 with h1 h5
 injection h2 with h2
 injection h2 with h2 h6
 obtain⟨e1,e2⟩:=Jh h5
 injection e2 with _ e2
 subst e1;subst e2;subst h6
 exact⟨h1,h2,h3,h4⟩
def qhF(er:Y->D)(b:Nat)(r:Rn)(post:List D->Y->Prop)(d:D)(H:ab):Prop:=Nn rnB er b (fun s y=>s.r=r/\post s.es y) d H
theorem M4{er:Y->D}{b:Nat}{r:Rn}{post:List D->Y->Prop}{d:D}{H:ab}(v:Value)(es:List D)(y:Y)(hr:FrzTo (fun i=>if i=0\/i=990 then none else H i) d (er y))(h0:H 0=some (.box b (lp r (.own 990 v))))(h1:H 990=some (.mrow v es))(hq:post es y):qhF er b r post d H:=
 ⟨⟨r,v,es⟩,y,by simpa [rnB]using hr,h0,fun p hp=>by
  simp only[rnB,qwT,qxe,or_false]at hp
  subst hp
  exact h1,rfl,hq⟩
def Pq(cc:CC)(rs:List aj)(S:Nat->Spc)(A:de Z)(er:Y->D)(pre:Rn->List D->Z->Prop)(post:Rn->Z->List D->Y->Prop):Prop:=
 ∀b r v es z,pre r es z->vc S cc (tc rs fun d H'=>qhF er b r (post r z) d H') (dm (.bptr 0 b 0::A.view z)) (DU bJ 0 b r v es)
variable {P:Program}{S:Nat->Spc}{f:Nat}{im:List Nat}{cc:CC}{rs:List aj}{N:Nat}
theorem B1{A:de Z}{er:Y->D}{pre:Rn->List D->Z->Prop}{post:Rn->Z->List D->Y->Prop}(hS:∀f,Tri P f (S f).pt)(h:ak P f im cc rs N)(hN:∀z,(A.view z).length+1<=N)(hw:Pq cc rs S A er pre post):Tri P f (ql5 A er pre post).pt:=
 wN (by simp[rnB]) hS h hN fun b x z hp=>hw b x.r x.v x.es z hp
end
section
variable {X Y Z:Type}
theorem qrZ(H:ab)(r:Nat):qQ H (some r) r=H r:=by simp only[qQ];exact if_pos rfl
theorem SG(H:ab)(w:Option Nat):gi H w []=H:=by
 funext i
 simp only[gi,List.lookup]
 split <;> rfl
theorem qfC(A:de X)(pre:D×X->Prop)(er:Z->D)(post:D×X->Z->Prop)(r b:Nat)(ds:List D):qgG r (qhq A pre er post).pt (.bptr r b 0::ds):=by
 refine⟨fun R=>qhp A pre er post b ds (R r) R fun _ _=>True,fun R d u=>∃cells x z,R r=some (.box b cells)/\A.dec ds=some x/\post (.cptr cells 0,x) z/\d=er z/\u=[],fun t H K=>?_⟩
 rw[qda]
 show _↔qhp A pre er post b ds (qQ H (some r) r) (qQ H (some r)) (fun _ _=>True)/\∀d u,(∃cells x z,qQ H (some r) r=some (.box b cells)/\A.dec ds=some x/\post (.cptr cells 0,x) z/\d=er z/\u=[])->K d (gi H (some r) u)
 rw[qrZ]
 cases hH:H r with
 | none=>exact⟨fun h=>h.elim,fun h=>h.1.elim⟩
 | some q=>
   cases q with
   | box b' cells=>
     rw[qc9,qc9]
     cases hd:A.dec ds with
     | none=>exact⟨fun h=>h.2.elim,fun h=>h.1.2.elim⟩
     | some x=>
       constructor
       ·rintro⟨rfl,h1,h2⟩
        refine⟨⟨rfl,h1,fun _ _=>trivial⟩,?_⟩
        rintro d u ⟨cells',x',z,e1,e2,h3,rfl,rfl⟩
        cases e1;cases e2
        rw[SG]
        exact h2 z h3
       ·rintro⟨⟨rfl,h1,_⟩,h2⟩
        refine⟨rfl,h1,fun z hz=>?_⟩
        have:=h2 (er z) [] ⟨cells,x,z,rfl,rfl,hz,rfl,rfl⟩
        rwa [SG]at this
   | _=>exact⟨fun h=>h.elim,fun h=>h.1.elim⟩
theorem QX(A:de X)(pre:D×X->Prop)(er:Z->D)(post:D×X->Z->Prop)(r b:Nat)(dst:Option Nat)(ds:List D)(H:ab)(K:D->ab->Prop):Jm r dst (qhq A pre er post) (.bptr r b 0::ds) H K=qhp A pre er post b ds (H r) H K:=by
 rw[<-qda A pre er post (dst.getD 0)]
 exact propext ⟨fun h=>h.2,fun h=>⟨qfC A pre er post r b ds,h⟩⟩
end
end Go.Gv

namespace Go.Gv
open Cod (enc dec)
@[simp] theorem qp5(s:St3):St3.mk s.p s.b0 s.b1 s.b2=s:=by cases s;rfl
theorem To{X:Type}[Cod X][DecidableEq X]{ka:Bool}{ks:List KK}(hK:Zn X ka ks)(x:X)(hM:K1 (enc x) (enc x))(l:List X)(K:List D->Prop):BD ka ks (enc x) (.v (.bool true)) (be l) K=K (be (xG x l)):=by
 refine propext ⟨fun⟨_,_,h1,h2⟩=>?_,qey hK rfl⟩
 by_cases hx:x∈l
 ·obtain⟨a,b,rfl⟩:=qzr hx
  have e:xG x (a++x::b)=a++x::b:=by unfold xG;rw[if_pos hx]
  have:=h1 (be a) (enc x) (.v (.bool true)) (be b) (by simp[be]) hM
  rw[e]
  have e2:be (a++x::b)=be a++ .tup [enc x, .v (.bool true)]::be b:=by simp[be]
  rw[e2]
  exact this
 ·have:=h2 fun _ v hm=>hx (Ae.1 hm).1
  have e:xG x l=l++ [x]:=by unfold xG;rw[if_neg hx]
  rw[e,gX]
  exact this
theorem Rf(s:St3):K1 (enc s) (enc s):=by
 refine⟨fun _=>False,fun _=>False,default, .agg [Value.int .i64 s.p, .int .i64 s.b0, .int .i64 s.b1, .int .i64 s.b2].toArray,?_,?_⟩ <;>
 ·refine R.agg _ _ rfl (by simp[Value.oneCell']) fun k x c h1 h2=>?_
  rcases k with _|_|_|_|k
  ·cases h1;cases h2;exact R.int .i64 _
  ·cases h1;cases h2;exact R.int .i64 _
  ·cases h1;cases h2;exact R.int .i64 _
  ·cases h1;cases h2;exact R.int .i64 _
  ·simp at h1
@[simp] theorem qh7(a b c d:Int)(l:List St3)(K:List D->Prop):BD true [.int .i64, .int .i64, .int .i64, .int .i64] (.agg [.v (.int .i64 a), .v (.int .i64 b), .v (.int .i64 c), .v (.int .i64 d)]) (.v (.bool true)) (be l) K=K (be (xG ⟨a,b,c,d⟩ l)):=
 To Wd ⟨a,b,c,d⟩ (Rf _) l K
@[simp] theorem qpp(ok:Bool)(a b c d:Int)(l:List St3)(K:D->Prop):xy ok false true [.int .i64, .int .i64, .int .i64, .int .i64] [.bool false] (.agg [.v (.int .i64 a), .v (.int .i64 b), .v (.int .i64 c), .v (.int .i64 d)]) (be l) K=K (qhf ok (.v (.bool (decide ((⟨a,b,c,d⟩:St3) ∈l)))) (decide ((⟨a,b,c,d⟩:St3) ∈l))):=
 Ri Wd ⟨a,b,c,d⟩ (Rf _) l K
@[simp] theorem qop(a b c d:Int)(K:List D->Prop):BD true [.int .i64, .int .i64, .int .i64, .int .i64] (.agg [.v (.int .i64 a), .v (.int .i64 b), .v (.int .i64 c), .v (.int .i64 d)]) (.v (.bool true)) [] K=K (be [(⟨a,b,c,d⟩:St3)]):=
 qh7 a b c d [] K
theorem sF{X:Type}[Cod X]:be ([]:List X)=[]:=rfl
theorem ff{X:Type}[Cod X]{l:List X}(h:be l=[]):l=[]:=by
 cases l with
 | nil=>rfl
 | cons a l=>simp[be]at h
theorem IV{X:Type}[Cod X]{l l':List X}(h:be l=be l'):l=l':=by
 unfold be at h
 induction l generalizing l' with
 | nil=>cases l' with
   | nil=>rfl
   | cons a l=>simp at h
 | cons a l ih=>cases l' with
   | nil=>simp at h
   | cons b l'=>
     simp only[qxf,qxg,D.tup.injEq,and_true]at h
     rw[aK h.1,ih h.2]
theorem ws{Hf:ab}{i:Nat}{x:Value}{es:List D}(h:Hf i=some (.mrow x es)):FrzTo Hf (.own i x) (.mp es):= .mrow h rfl fun k c c' h1 h2=>by rw[h1]at h2;cases h2;exact .same _
@[simp] theorem quI(d:Option Nat)(g:Option (Nat×Bool))(o:MOp)(xs:List Operand):(CI.op d g (.m o xs)).wid=d:=id rfl
end Go.Gv

namespace Go.Gv
open Go.Proofs
def cN:CC:=gq Tryz.f82 [3] {} _
def cI:List aj:=[.tmp 4]
theorem my:ak Tryz.prog cY [3] cN cI 28:=fo
def dI:CC:=gq Tryz.f131 [4,2049005] {} _
def dA:List aj:=[.cell 6 true 4, .tmp 7]
theorem Co:ak Tryz.prog iU [4,2049005] dI dA 55:=fo
def kR:CC:=gq Tryz.f132 [5,4,3] {} _
def kD:List aj:=[.tmp 6]
theorem Bp:ak Tryz.prog gK [5,4,3] kR kD 14:=fo
def aV:CC:=gq Tryz.f182 [4] {} _
def aU:List aj:=[.tmp 5]
theorem yT:ak Tryz.prog bQ [4] aV aU 42:=fo
def vI:CC:=gq Tryz.f183 [] {} _
def uX:List aj:=[.tmp 2]
theorem LP:ak Tryz.prog xQ [] vI uX 22:=fo
def ov:CC:=gq Tryz.f180 [6,5] {} _
def nj:List aj:=[.tmp 10]
theorem Ef:ak Tryz.prog pI [6,5] ov nj 17:=fo
end Go.Gv

namespace Go.Gv
open Go.Proofs
open Cod (enc dec)
variable {S S0:Nat->Spc}
def qkk(d:D):Prop:=∃r k,d= .cptr (lp r k) 0/\r.lb.length<=3
def qn0(s:St3):Prop:=0<=s.p/\s.p<=1000000/\∀i,0<=s.get i/\s.get i<=1000000
def Nl(x:D×St3):Prop:=qkk x.1/\qn0 x.2
def SQ(x:D×St3)(y:List Int):Prop:=∀r k,x.1= .cptr (lp r k) 0->y=Pn r x.2
abbrev qax:Spc:=aJ (aD (a1 St3)) Nl (enc (X:=List Int)) SQ
theorem RK(s:St3){k:Nat}(hk:k < 3):([.v (.int .i64 s.p), .v (.int .i64 s.b0), .v (.int .i64 s.b1), .v (.int .i64 s.b2)]:List D)[1+k]? =some (.v (.int .i64 (s.get k))):=by
 rcases k with _|_|_|k
 ·rfl
 ·rfl
 ·rfl
 ·omega
theorem qhR:aq cN cI S (aD (a1 St3)) Nl (enc (X:=List Int)) SQ:=by
 rintro⟨d,s⟩ ⟨⟨r,k,hd,hl⟩,hs⟩
 have hd:d= .cptr (lp r k) 0:=hd
 subst hd
 simp[cN,cI,lp, -Bool.forall_bool, -Bool.exists_bool]
 intro hl1
 refine⟨by omega,by omega,fun v hl2=>?_⟩
 refine ai (X:=List Int) [3,5] [] r.lb.length (fun k z=>z.length=r.lb.length/\∀i,i < k->z[i]? =some (s.get i -1)) (fun _=>[]) (fun z=>[(12, .row v iw 1 (z.map enc))]) (List.replicate r.lb.length 0) (by simp) (by simp) (by omega) (by simp) (by simp) (by simp) (by simp) (by simp) ?_ ?_
 ·rintro j z hj ⟨hz1,hz2⟩
  have hg:=RK s (k:=j) (by omega)
  have hb:0<=s.get j/\s.get j<=1000000:=hs.2.2 j
  have hjz:j < z.length:=by omega
  simp[hj,hg,hjz, -Bool.forall_bool, -Bool.exists_bool]
  refine⟨by omega,by omega,by simp only[InR];omega,z.set j (s.get j -1),⟨by simp[hz1],fun i hi=>?_⟩, .inl (by rw[qy2];rfl)⟩
  by_cases e:j=i
  ·subst e
   rw[qxV (by omega)]
  ·rw[qyV e]
   exact hz2 i (by omega)
 ·rintro z ⟨hz1,hz2⟩
  simp[-Bool.forall_bool, -Bool.exists_bool]
  refine cm z (gh iw (by simp[ah])) fun r' k' e=>?_
  have e:D.cptr (lp r k) 0= .cptr (lp r' k') 0:=e
  obtain rfl:=DR e
  refine qxM fun i=>?_
  unfold Pn
  rw[qw6]
  by_cases hi:i < r.lb.length
  ·rw[hz2 i hi,qxW hi];rfl
  ·rw[qxm (by omega),qxm (by simp;omega)];rfl
def BK(p:Pat):Bool:=decide (p.op=6) && decide (p.mx < 0) && decide (p.mn<=1)
abbrev Vs:Spc:=aJ (aD a0) (fun x=>∃p,sj x.1 p) (enc (X:=Bool)) fun x y=>∀p,sj x.1 p->y=BK p
def Xa(x:D×Pat×St3):Prop:=(∃r k,x.1= .cptr (lp r k) 0/\r.lb.length<=3/\qkz r.c/\(x.2.1.lab≠rO->qH r.lb x.2.1.lab=true)/\(x.2.2.p < r.en->∃y,Bm r x.2.1 x.2.2=some y))/\qn0 x.2.2
def SP(x:D×Pat×St3)(y:St3×Bool):Prop:=∀r k,x.1= .cptr (lp r k) 0->(y.2=true↔x.2.2.p < r.en/\Bm r x.2.1 x.2.2=some true)/\(y.2=true->y.1=FI r x.2.1 x.2.2)
end Go.Gv

namespace Go.Gv
open Go.Proofs
open Cod (enc dec)
variable {S S0:Nat->Spc}
abbrev Vt:Spc:=aJ aH (qgB 21) (enc (X:=Bool)) (qke 21)
theorem qeg(h1:S iV=I4 21):aq ov nj S aH (qgB 21) (enc (X:=Bool)) (qke 21):=by
 rintro⟨c,x,tok,lb,bd⟩ hp
 simp[ov,nj,h1,hp, -Bool.forall_bool, -Bool.exists_bool]
theorem tw(p:Pat):enc p= .agg (enc p).cells:=by simp
theorem rV{d:D}{p q:Pat}(h1:sj d p)(h2:sj d q):p=q:=by
 obtain⟨cs,off,rfl,_,e1⟩:=h1
 obtain⟨cs',off',e,_,e2⟩:=h2
 cases e
 exact aK (by rw[tw p,tw q,<-e1,<-e2])
theorem qd9:aq vI uX S (aD a0) (fun x=>∃p,sj x.1 p) (enc (X:=Bool)) fun x y=>∀p,sj x.1 p->y=BK p:=by
 rintro⟨d,⟨⟩⟩ ⟨p,cs,off,hd,hl,hc⟩
 have hd:d= .cptr cs off:=hd
 subst hd
 have c0:cs[off]? =some (.v (.int .i64 p.op)):=by
  have:=xi hl hc (j:=0) (by decide)
  rw[qxZ]at this
  rw[this];simp
 have c10:cs[off+10]? =some (.v (.int .i64 p.mn)):=by rw[xi hl hc (j:=10) (by decide)];simp
 have c11:cs[off+11]? =some (.v (.int .i64 p.mx)):=by rw[xi hl hc (j:=11) (by decide)];simp
 have hlo:off+1<=cs.length:=by omega
 have hl10:off+10+1<=cs.length:=by omega
 have hl11:off+11+1<=cs.length:=by omega
 simp[vI,uX,c0,c10,c11,hlo,hl10,hl11, -Bool.forall_bool, -Bool.exists_bool]
 have hp:sj (.cptr cs off) p:=⟨cs,off,rfl,hl,hc⟩
 refine⟨fun h6=>⟨fun hm q hq=>?_,fun hm q hq=>?_⟩,fun h6 q hq=>?_⟩
 ·obtain rfl:=rV hp hq
  simp[BK,h6,hm]
 ·obtain rfl:=rV hp hq
  simp[BK,h6]
  omega
 ·obtain rfl:=rV hp hq
  simp[BK,h6]
abbrev qiq:Spc:=aJ (aD (a2 Pat St3)) Xa (ww (Y:=St3) (Z:=Bool)) SP
theorem qfI{r:Rn}{b:B}(hl:r.lb.length<=3)(h:qH r.lb b=true):(gF r.lb fun z=>decide (z=b))=0\/(gF r.lb fun z=>decide (z=b))=1\/(gF r.lb fun z=>decide (z=b))=2:=by
 have h1:=uw (fun z=>decide (z=b)) r.lb
 have h2:=Ai (fun z=>decide (z=b)) r.lb
 have h3:decide (0<=gF r.lb fun z=>decide (z=b))=true:=h1.trans h
 have h4:=of_decide_eq_true h3
 omega
theorem qhP(h1:S cY=qax)(h2:S pI=Vt)(h3:S cw=I3):aq dI dA S (aD (a2 Pat St3)) Xa (ww (Y:=St3) (Z:=Bool)) SP:=by
 rintro⟨d,p,s⟩ ⟨⟨r,k,hd,hl,hz,hlab,htok⟩,hs⟩
 have hd:d= .cptr (lp r k) 0:=hd
 subst hd
 have hs:qn0 s:=hs
 have hPa:Nl (.cptr (lp r k) 0,s):=⟨⟨r,k,rfl,hl⟩,hs⟩
 have hp0:=hs.1
 have hp1:=hs.2.1
 have hno:∀y:St3,(¬s.p < r.en\/Bm r p s=some false)->SP (.cptr (lp r k) 0,p,s) (y,false):=fun y h r' k' e=>by
  have e:D.cptr (lp r k) 0= .cptr (lp r' k') 0:=e
  obtain rfl:=DR e
  refine⟨⟨fun h=>(by cases h),fun h2=>?_⟩,fun h=>(by cases h)⟩
  rcases h with h|h
  ·exact absurd h2.1 h
  ·have h3:Bm r p s=some true:=h2.2
   rw[h]at h3;cases h3
 have hyes:s.p < r.en->Bm r p s=some true->SP (.cptr (lp r k) 0,p,s) (FI r p s,true):=fun h4 h5 r' k' e=>by
  have e:D.cptr (lp r k) 0= .cptr (lp r' k') 0:=e
  obtain rfl:=DR e
  exact⟨⟨fun _=>⟨h4,h5⟩,fun _=>rfl⟩,fun _=>rfl⟩
 simp only[lp]at hPa hno hyes
 have hz3:∀ (y:List Int),SQ (.cptr (lp r k) 0,s) y->y=Pn r s:=fun y h=>h r k rfl
 simp only[lp]at hz3
 by_cases hL:p.lab=rO
 ·have hL2:p.lab=⟨#[]⟩:=hL
  have hnx:FI r p s=⟨s.p+1,s.b0,s.b1,s.b2⟩:=by unfold FI;rw[if_pos hL]
  rw[hnx]at hyes
  simp[dI,dA,lp,h1,h2,h3,hPa,hL2, -Bool.forall_bool, -Bool.exists_bool]
  refine fun b=>⟨fun h4 y hy=>?_,fun h4=>⟨⟨0,0,0,0⟩, .same _,hno _ (.inl (by omega))⟩⟩
  obtain rfl:=hz3 y hy
  obtain⟨z,hz2⟩:=htok h4
  refine⟨⟨hz,z,hz2⟩,fun y1 hy1=>?_⟩
  have hy1:Bm r p s=some y1:=hy1
  refine⟨fun e=>⟨⟨0,0,0,0⟩, .same _,hno _ (.inr (e ▸hy1))⟩,fun e=>?_⟩
  exact⟨by simp only[InR];omega,⟨s.p+1,s.b0,s.b1,s.b2⟩, .same _,hyes h4 (e ▸hy1)⟩
 ·have hL2:¬p.lab=⟨#[]⟩:=hL
  rcases qfI hl (hlab hL)with hq|hq|hq
  ·have hnx:FI r p s=⟨s.p+1,s.p+1,s.b1,s.b2⟩:=by unfold FI;rw[if_neg hL,hq];rfl
   rw[hnx]at hyes
   simp[dI,dA,lp,h1,h2,h3,hPa,hL2,hq, -Bool.forall_bool, -Bool.exists_bool]
   refine fun b=>⟨fun h4 y hy=>?_,fun h4=>⟨⟨0,0,0,0⟩, .same _,hno _ (.inl (by omega))⟩⟩
   obtain rfl:=hz3 y hy
   obtain⟨z,hz2⟩:=htok h4
   refine⟨⟨hz,z,hz2⟩,fun y1 hy1=>?_⟩
   have hy1:Bm r p s=some y1:=hy1
   refine⟨fun e=>⟨⟨0,0,0,0⟩, .same _,hno _ (.inr (e ▸hy1))⟩,fun e=>?_⟩
   exact⟨by simp only[InR];omega,⟨s.p+1,s.p+1,s.b1,s.b2⟩, .same _,hyes h4 (e ▸hy1)⟩
  ·have hnx:FI r p s=⟨s.p+1,s.b0,s.p+1,s.b2⟩:=by unfold FI;rw[if_neg hL,hq];rfl
   rw[hnx]at hyes
   simp[dI,dA,lp,h1,h2,h3,hPa,hL2,hq, -Bool.forall_bool, -Bool.exists_bool]
   refine fun b=>⟨fun h4 y hy=>?_,fun h4=>⟨⟨0,0,0,0⟩, .same _,hno _ (.inl (by omega))⟩⟩
   obtain rfl:=hz3 y hy
   obtain⟨z,hz2⟩:=htok h4
   refine⟨⟨hz,z,hz2⟩,fun y1 hy1=>?_⟩
   have hy1:Bm r p s=some y1:=hy1
   refine⟨fun e=>⟨⟨0,0,0,0⟩, .same _,hno _ (.inr (e ▸hy1))⟩,fun e=>?_⟩
   exact⟨by simp only[InR];omega,⟨s.p+1,s.b0,s.p+1,s.b2⟩, .same _,hyes h4 (e ▸hy1)⟩
  ·have hnx:FI r p s=⟨s.p+1,s.b0,s.b1,s.p+1⟩:=by unfold FI;rw[if_neg hL,hq];rfl
   rw[hnx]at hyes
   simp[dI,dA,lp,h1,h2,h3,hPa,hL2,hq, -Bool.forall_bool, -Bool.exists_bool]
   refine fun b=>⟨fun h4 y hy=>?_,fun h4=>⟨⟨0,0,0,0⟩, .same _,hno _ (.inl (by omega))⟩⟩
   obtain rfl:=hz3 y hy
   obtain⟨z,hz2⟩:=htok h4
   refine⟨⟨hz,z,hz2⟩,fun y1 hy1=>?_⟩
   have hy1:Bm r p s=some y1:=hy1
   refine⟨fun e=>⟨⟨0,0,0,0⟩, .same _,hno _ (.inr (e ▸hy1))⟩,fun e=>?_⟩
   exact⟨by simp only[InR];omega,⟨s.p+1,s.b0,s.b1,s.p+1⟩, .same _,hyes h4 (e ▸hy1)⟩
end Go.Gv

namespace Go.Gv
open Go.Proofs
open Cod (enc dec)
variable {S S0:Nat->Spc}
def Ma(r:Rn)(p:Pat)(at_:Int)(x:Region):Bool:=decide (x.ty=p.reg) && decide ((if p.op=3 then x.e else x.b)=at_) && decide (r.bg<=x.b) && decide (x.e<=r.en)
def Zp(x:Region×Pat×Int×Rn×D):List D:=[enc x.1, .cptr (enc x.2.1).cells 0, .cptr [enc x.2.2.1] 0, .cptr [.cptr (lp x.2.2.2.1 x.2.2.2.2) 0] 0]
theorem Vh(z z':Region×Pat×Int×Rn×D)(h:Zp z=Zp z'):z=z':=by
 obtain⟨a,p,i,r,k⟩:=z
 obtain⟨a',p',i',r',k'⟩:=z'
 unfold Zp at h
 simp only[qxg,D.cptr.injEq,and_true]at h
 obtain⟨h1,h2,h3,h4⟩:=h
 have e:p=p':=aK (by rw[tw p,tw p',h2])
 obtain⟨e2,e3⟩:=Jh h4
 rw[aK h1,e,aK h3,e2,e3]
noncomputable abbrev qv1:de (Region×Pat×Int×Rn×D):=aX Zp Vh
noncomputable abbrev DM:Spc:=aJ qv1 (fun _=>True) (enc (X:=Bool)) fun x y=>y=Ma x.2.2.2.1 x.2.1 x.2.2.1 x.1
theorem qec:aq aV aU S qv1 (fun _=>True) (enc (X:=Bool)) fun x y=>y=Ma x.2.2.2.1 x.2.1 x.2.2.1 x.1:=by
 rintro⟨a,p,i,r,k⟩ -
 rw[Be]
 by_cases e0:p.op=3
 ·by_cases e1:a.ty=p.reg
  rotate_left
  ·simp[Zp,aV,aU,Ma,e0,e1, -Bool.forall_bool, -Bool.exists_bool]
  by_cases e2:a.e=i
  rotate_left
  ·simp[Zp,aV,aU,Ma,e0,e1,e2, -Bool.forall_bool, -Bool.exists_bool]
  by_cases e3:r.bg<=a.b
  rotate_left
  ·simp[Zp,aV,aU,Ma,e0,e1,e2,e3, -Bool.forall_bool, -Bool.exists_bool]
  simp[Zp,aV,aU,Ma,e0,e1,e2,e3, -Bool.forall_bool, -Bool.exists_bool]
 ·by_cases e1:a.ty=p.reg
  rotate_left
  ·simp[Zp,aV,aU,Ma,e0,e1, -Bool.forall_bool, -Bool.exists_bool]
  by_cases e2:a.b=i
  rotate_left
  ·simp[Zp,aV,aU,Ma,e0,e1,e2, -Bool.forall_bool, -Bool.exists_bool]
  simp[Zp,aV,aU,Ma,e0,e1,e2, -Bool.forall_bool, -Bool.exists_bool]
  exact⟨by intros;omega,by intros;omega⟩
abbrev qdK(x:D×Pat×Int):Prop:=qkk x.1
abbrev qdy(x:D×Pat×Int)(y:Bool):Prop:=∀r k,x.1= .cptr (lp r k) 0->y=UY r x.2.1 x.2.2
abbrev qir:Spc:=aJ (aD (a2 Pat Int)) qdK (enc (X:=Bool)) qdy
theorem qhS(h0:S0 bQ=DM)(h1:S bz=XW Region S0):aq kR kD S (aD (a2 Pat Int)) qdK (enc (X:=Bool)) qdy:=by
 rintro⟨d,p,i⟩ ⟨r,k,hd,hl⟩
 have hd:d= .cptr (lp r k) 0:=hd
 subst hd
 have hf:FunOn S0 (.clo bQ [.cptr (enc p).cells 0, .cptr [enc i] 0, .cptr [.cptr (lp r k) 0] 0]) r.c.regs (Ma r p i):=
  wt (f:=fun a=>(a,p,i,r,k)) h0 (fun a _=>C3 Zp Vh (a,p,i,r,k)) (fun _ _=>trivial) (fun a _ y hy=>hy)
 rw[show(enc p).cells=[enc p.op,enc p.cond.op,enc p.cond.name,enc p.cond.arg,enc p.cond.val,enc p.cond.lab,enc p.cond.fold,enc p.cond.kids,enc p.lab,enc p.reg,enc p.mn,enc p.mx,enc p.kids] by simp]at hf
 simp at hf
 simp[kR,kD,h1, -Bool.forall_bool, -Bool.exists_bool]
 refine⟨⟨_,hf⟩,fun y hy r' k' e=>?_⟩
 have e:D.cptr (lp r k) 0= .cptr (lp r' k') 0:=e
 obtain rfl:=DR e
 rw[hy _ hf]
 rfl
end Go.Gv

namespace Go.Gv
open Go.Proofs
def od:CC:=gq Tryz.f133 [] { ke:=[0,990] } _
def mZ:List aj:=[.tmp 6]
theorem D8:ak Tryz.prog kb [] od mZ 29:=fo
def lZ:CC:=gq Tryz.f81 [5,3045000,2010010] { cu:=[6,15],ke:=[0,990] } _
def lI:List aj:=[.tmp 6]
theorem Cp:ak Tryz.prog cX [5,3045000,2010010] lZ lI 121:=fo
def kQ:CC:=gq Tryz.f134 [5] { bx:=[53],cu:=[3,7,13,17],ke:=[0,990] } _
def kC:List aj:=[.tmp 6]
theorem Bo:ak Tryz.prog lN [5] kQ kC 109:=fo
def ol:CC:=gq Tryz.f185 [] { bx:=[0] } _
def nc:List aj:=[]
theorem Eb:ak Tryz.prog pG [] ol nc 16:=fo
end Go.Gv

namespace Go.Gv
open Go.Proofs
open Cod (enc dec)
variable {S S0:Nat->Spc}
structure qgE (r:Rn) (q:Pat):Prop where
 nd:vP q
 num:xt q=true
 lab:q.lab≠rO->qH r.lb q.lab=true
 tok:q.op=1->∀s,SW r.en s->s.p < r.en->∃y,Bm r q s=some y
structure qgy (r:Rn):Prop where
 l3:r.lb.length<=3
 sz:qkz r.c
 en:r.en<=100000
def AT(r:Rn)(es:List D):Prop:=∀e∈es,∃d p s l,sj d p/\e= .tup [.agg [d, .v (.int .i64 s.p), .v (.int .i64 s.b0), .v (.int .i64 s.b1), .v (.int .i64 s.b2)], .mp (be l)]/\l.Nodup/\∀t,t∈l↔mG r p s t
def qjv(l:List St3):D:= .mp (be l)
@[simp] theorem qvz(l:List St3):qjv l= .mp (be l):=rfl
def Xb(n:Nat)(r:Rn)(es:List D)(x:D×St3):Prop:=qgy r/\AT r es/\SW r.en x.2/\∃p,sj x.1 p/\eG p<=n/\kW (qgE r) p
def WX(r:Rn)(x:D×St3)(es:List D)(y:List St3):Prop:=AT r es/\y.Nodup/\∀p,sj x.1 p->∀t,t∈y↔mG r p x.2 t
abbrev Mp(n:Nat):Spc:=ql5 (aD (a1 St3)) qjv (Xb n) WX
def qdI(n:Nat)(r:Rn)(es:List D)(x:D×D×Unit):Prop:=qgy r/\AT r es/\(∃l:List St3,x.2.1= .mp (be l)/\∀s∈l,SW r.en s)/\∃p,sj x.1 p/\eG p<=n/\kW (qgE r) p
def qdw(r:Rn)(x:D×D×Unit)(es:List D)(y:List St3):Prop:=AT r es/\y.Nodup/\∀ (p:Pat) (l:List St3),sj x.1 p->x.2.1= .mp (be l)->∀t,t∈y↔ ∃s∈l,mG r p s t
abbrev TQ(n:Nat):Spc:=ql5 (aD (aD a0)) qjv (qdI n) qdw
theorem qhU(n:Nat)(h1:S cX=Mp n):Pq od mZ S (aD (aD a0)) qjv (qdI n) qdw:=by
 rintro b r v es ⟨d,dl,⟨⟩⟩ ⟨hr,hm,⟨l,hdl,hl⟩,p,hp,hpn,hpa⟩
 have hdl:dl= .mp (be l):=hdl
 subst hdl
 obtain⟨cs,off,hd,hl13,hc13⟩:=hp
 have hd:d= .cptr cs off:=hd
 subst hd
 have hp:sj (.cptr cs off) p:=⟨cs,off,rfl,hl13,hc13⟩
 simp[od,mZ,DU, -Bool.forall_bool, -Bool.exists_bool]
 intro v1 b1
 refine av (X:=Value×List D×List St3×List D×List St3) [0,1,7,12] [] (fun x=>AT r x.2.1/\x.2.2.1.Nodup/\(∀s∈x.2.2.2.2,s∈l)/\(∀t∈x.2.2.1,∃s∈l,mG r p s t)/\∀s∈l,s∈x.2.2.2.2\/ ∀t,mG r p s t->t∈x.2.2.1)
  (fun _=>[]) (fun x=>[(0, .box b (lp r (.own 990 x.1))),(990, .mrow x.1 x.2.1),(10, .mrow v1 (be x.2.2.1)),(12, .miter b1 x.2.2.2.1 (be x.2.2.2.2))]) (fun x=>x.2.2.2.2.length) (v,es, [], [],l)
  ⟨hm,qyy,fun _ h=>h,fun _ h=>(by cases h),fun s hs=> .inl hs⟩ (by simp) (by simp[sF]) ?_
 rintro⟨v',es',out,cur,left⟩ ⟨hm',hn',hl',ho',hd'⟩
 simp only at hm' hn' hl' ho' hd'
 simp[-Bool.forall_bool, -Bool.exists_bool]
 refine⟨fun h0=>?_,fun l1 e l2 hsp=>?_⟩
 ·have hlz:=ff h0
  subst hlz
  refine M4 v' es' out (ws (by simp[ah])) (by simp[ah]) (by simp[ah]) ⟨hm',hn',fun p' l' hp' hl2 t=>?_⟩
  obtain rfl:=rV hp hp'
  have hl2:D.mp (be l)= .mp (be l'):=hl2
  obtain rfl:=IV (D.mp.inj hl2)
  exact⟨ho' t,fun⟨s,hs,hD⟩=>(hd' s hs).elim (fun h=>by cases h) fun h=>h t hD⟩
 ·obtain⟨a,s,c,rfl,rfl,rfl,rfl⟩:=gu hsp
  have hs:s∈l:=hl' s (by simp)
  have hPr:Xb n r es' (.cptr cs off,s):=⟨hr,hm',hl s hs,p,hp,hpn,hpa⟩
  simp[h1,B7,hPr,DU, -Bool.forall_bool, -Bool.exists_bool]
  intro v2 es2 ys hQ b2
  have hys:=hQ.2.2 p hp
  refine av (X:=List St3×List D×List St3) [0,1,7,12,21] [0,990,12] (fun x=>x.1.Nodup/\(∀t∈x.2.2,t∈ys)/\(∀t∈out,t∈x.1)/\(∀t∈x.1,t∈out\/t∈ys)/\∀t∈ys,t∈x.2.2\/t∈x.1)
   (fun _=>[]) (fun x=>[(10, .mrow v1 (be x.1)),(21, .miter b2 x.2.1 (be x.2.2))]) (fun x=>x.2.2.length) (out, [],ys)
   ⟨hn',fun _ h=>h,fun _ h=>h,fun _ h=> .inl h,fun _ h=> .inl h⟩ (by simp) (by simp) ?_
  rintro⟨out2,cur2,left2⟩ ⟨g1,g2,g3,g4,g5⟩
  simp only at g1 g2 g3 g4 g5
  simp[-Bool.forall_bool, -Bool.exists_bool]
  refine⟨fun h0=>?_,fun l1 e l2 hsp2=>?_⟩
  ·have hlz:=ff h0
   subst hlz
   refine⟨v2,es2,out2,_,a++c,⟨hQ.1,g1,fun x h=>hl' x (by simp only[qwU,qwT]at h ⊢;rcases h with h|h <;> simp[h]),fun t ht=>?_,fun x hx=>?_⟩,⟨.inl rfl, .inl ⟨rfl,rfl⟩, .inl rfl, .inl ⟨rfl,(gX a c).symm⟩⟩,by simp⟩
   ·rcases g4 t ht with h|h
    ·exact ho' t h
    ·exact⟨s,hs,(hys t).1 h⟩
   ·rcases hd' x hx with h|h
    ·rcases qwU.1 h with h|h
     ·exact .inl (by simp[h])
     ·rcases qwT.1 h with rfl|h
      ·exact .inr fun t ht=>(g5 t ((hys t).2 ht)).elim (fun h=>by cases h) id
      ·exact .inl (by simp[h])
    ·exact .inr fun t ht=>g3 t (h t ht)
  ·obtain⟨a2,t,c2,rfl,rfl,rfl,rfl⟩:=gu hsp2
   simp[-Bool.forall_bool, -Bool.exists_bool]
   refine⟨xG t out2,_,a2++c2,⟨xF g1,fun x h=>g2 x (by simp only[qwU,qwT]at h ⊢;rcases h with h|h <;> simp[h]),fun x hx=>eq.2 (.inr (g3 x hx)),fun x hx=>?_,fun x hx=>?_⟩,⟨.inl rfl, .inl ⟨rfl,(gX a2 c2).symm⟩⟩,by simp⟩
   ·rcases eq.1 hx with rfl|h
    ·exact .inr (g2 x (by simp))
    ·exact g4 x h
   ·rcases g5 x hx with h|h
    ·rcases qwU.1 h with h|h
     ·exact .inl (by simp[h])
     ·rcases qwT.1 h with rfl|h
      ·exact .inr (eq.2 (.inl rfl))
      ·exact .inl (by simp[h])
    ·exact .inr (eq.2 (.inr h))
end Go.Gv
