/- A part of the framework and of the walks: T42 T44 C65 W180 W181 W182 C66 W183. -/
import Derived.Test.YtphdikcommfnhaaGreatDoorGe39
import Derived.Test.YtphdikcommfnhaaGreatDoorGe38
import Derived.Test.YtphdikcommfnhaaGreatDoorGe27
import Derived.Test.YtphdikcommfnhaaGreatDoorGe20
import Derived.Test.YtphdikcommfnhaaGreatDoorGe29
import Derived.Test.YtphdikcommfnhaaGreatDoorGe32
import Derived.Test.YtphdikcommfnhaaGreatDoorGe30
set_option linter.unusedSimpArgs false
set_option linter.unusedVariables false
set_option linter.unusedSectionVars false
set_option maxRecDepth 100000
set_option maxHeartbeats 0

namespace Go.Gv
open Go.Proofs
open Cod (enc dec)
def lF(r:Rn)(k:D):List D:=[.list 2 (r.c.attrs.map enc), .list 1 (r.c.toks.map enc), .list 4 (r.c.texts.map enc), .list 4 (r.c.regs.map enc), .list 4 (r.c.nodes.map enc), .list 1 (r.c.heads.map enc), .list 1 (r.c.rels.map enc), .list 1 (r.lb.map enc), .v (.int .i64 r.bg), .v (.int .i64 r.en),k]
theorem JB{r r':Rn}{k k':D}(h:lF r k=lF r' k'):r=r'/\k=k':=by
 simp only[lF,qx0,D.list.injEq,D.v.injEq,qzH,true_and,and_true]at h
 obtain⟨h1,h2,h3,h4,h5,h6,h7,h8,h9,h10,h11⟩:=h
 obtain⟨⟨a1,a2,a3,a4,a5,a6,a7⟩,lb,bg,en⟩:=r
 obtain⟨⟨b1,b2,b3,b4,b5,b6,b7⟩,lb',bg',en'⟩:=r'
 have inj:∀ {X:Type} [Cod X] {l l':List X},l.map enc=l'.map enc->l=l':=fun {X} _ {l l'} h=>aK (X:=List X) (by show D.list _ _=D.list _ _;rw[h])
 simp only at h1 h2 h3 h4 h5 h6 h7 h8 h9 h10
 rw[inj h1,inj h2,inj h3,inj h4,inj h5,inj h6,inj h7,inj h8,h9,h10]
 exact⟨rfl,h11⟩
theorem D7{r r':Rn}{k k':D}(h:D.cptr (lF r k) 0= .cptr (lF r' k') 0):r=r':=by
 injection h with h _
 exact(JB h).1
@[simp] theorem qpt(r:Rn)(k:D):(lF r k).length=11:=id rfl
@[simp] theorem qvI(r:Rn)(k:D)(h:3 < (lF r k).length):(lF r k)[3]= .list 4 (r.c.regs.map enc):=id rfl
@[simp] theorem qvH(r:Rn)(k:D)(h:8 < (lF r k).length):(lF r k)[8]= .v (.int .i64 r.bg):=id rfl
@[simp] theorem qvG(r:Rn)(k:D)(h:9 < (lF r k).length):(lF r k)[9]= .v (.int .i64 r.en):=id rfl
@[simp] theorem qsC(r:Rn)(k:D)(h:10 < (lF r k).length):(lF r k)[10]=k:=id rfl
structure qwN where
 r:Rn
 v:Value
 es:List D
def rnB:Lo qwN:=⟨[990],fun x=>lF x.r (.own 990 x.v),fun x=>[(990, .mrow x.v x.es)],fun _=>rfl⟩
section
variable {Y Z:Type}
def qmO(A:df Z)(er:Y->D)(pre:Rn->List D->Z->Prop)(post:Rn->Z->List D->Y->Prop):Spc:=qom rnB A er (fun x z=>pre x.r x.es z) (fun x z x' y=>x'.r=x.r/\post x.r z x'.es y)
def Ea(H:ab)(id b:Nat)(r:Rn)(v:Value)(es:List D):ab:=ah (ah H 990 (some (.mrow v es))) id (some (.box b (lF r (.own 990 v))))
def qps(er:Y->D)(pre:Rn->List D->Z->Prop)(post:Rn->Z->List D->Y->Prop)(id b:Nat)(q q1:Option Res)(o:Option Z)(H:ab)(K:D->ab->Prop):Prop:=
 ∃r v es,q=some (.box b (lF r (.own 990 v)))/\q1=some (.mrow v es)/\id≠990/\dT o fun z=>pre r es z/\∀v' es' y,post r z es' y->K (er y) (Ea H id b r v' es')
@[congr] theorem qsD{er:Y->D}{pre:Rn->List D->Z->Prop}{post:Rn->Z->List D->Y->Prop}{id b:Nat}{q q' q1 q1':Option Res}{o o':Option Z}{H:ab}{K:D->ab->Prop}(h1:q=q')(h2:q1=q1')(h3:o=o'):qps er pre post id b q q1 o H K=qps er pre post id b q' q1' o' H K:=by subst h1;subst h2;subst h3;rfl
theorem qhJ(x:qwN)(H:ab)(id b:Nat):ah (gp (rnB.hp x) H) id (some (.box b (rnB.ce x)))=Ea H id b x.r x.v x.es:=rfl
theorem Co(A:df Z)(er:Y->D)(pre:Rn->List D->Z->Prop)(post:Rn->Z->List D->Y->Prop)(d i b:Nat)(ds:List D)(H:ab)(K:D->ab->Prop):(qmO A er pre post).pt d (.bptr i b 0::ds) H K=qps er pre post i b (H i) (H 990) (A.dec ds) H K:=by
 refine propext ⟨fun h=>?_,fun h=>?_⟩
 ·obtain⟨id,b',x,z,ds',h1,h2,h3,h4,h5,h6,h7⟩:=h
  cases h1
  simp only[rnB,qxD,qxY,or_false]at h5
  refine⟨x.r,x.v,x.es,h3,h4 (990, .mrow x.v x.es) (by simp[rnB]),h5,?_⟩
  rw[h2]
  refine⟨h6,fun v' es' y hq=>?_⟩
  have:=h7 ⟨x.r,v',es'⟩ y ⟨rfl,hq⟩
  rwa [qhJ]at this
 ·obtain⟨r,v,es,h1,h2,h3,h4⟩:=h
  cases hz:A.dec ds with
  | none=>rw[hz]at h4;exact h4.elim
  | some z=>
    rw[hz]at h4
    refine⟨i,b,⟨r,v,es⟩,z,ds,rfl,hz,h1,fun p hp=>?_,by simp[rnB,h3],h4.1,fun x' y hq=>?_⟩
    ·simp only[rnB,qxD,qxY,or_false]at hp
     subst hp
     exact h2
    ·obtain⟨r',v',es'⟩:=x'
     obtain⟨e,hq⟩:=hq
     have e:r'=r:=e
     subst e
     rw[qhJ]
     exact h4.2 v' es' y hq
@[simp] theorem qvJ(er:Y->D)(pre:Rn->List D->Z->Prop)(post:Rn->Z->List D->Y->Prop)(id b b':Nat)(r:Rn)(v v':Value)(es:List D)(o:Option Z)(H:ab)(K:D->ab->Prop):
 qps er pre post id b (some (.box b' (lF r (.own 990 v)))) (some (.mrow v' es)) o H K=(b'=b/\v'=v/\id≠990/\dT o fun z=>pre r es z/\∀v' es' y,post r z es' y->K (er y) (Ea H id b r v' es')):=by
 refine propext ⟨fun⟨r1,v1,es1,h1,h2,h3,h4⟩=>?_,fun⟨h1,h2,h3,h4⟩=>⟨r,v,es,by rw[h1],by rw[h2],h3,h4⟩⟩
 injection h1 with h1
 injection h1 with h1 h5
 injection h2 with h2
 injection h2 with h2 h6
 obtain⟨e1,e2⟩:=JB h5
 injection e2 with _ e2
 subst e1;subst e2;subst h6
 exact⟨h1,h2,h3,h4⟩
def qim(er:Y->D)(b:Nat)(r:Rn)(post:List D->Y->Prop)(d:D)(H:ab):Prop:=NG rnB er b (fun s y=>s.r=r/\post s.es y) d H
theorem Nk{er:Y->D}{b:Nat}{r:Rn}{post:List D->Y->Prop}{d:D}{H:ab}(v:Value)(es:List D)(y:Y)(hr:FrzTo (fun i=>if i=0\/i=990 then none else H i) d (er y))(h0:H 0=some (.box b (lF r (.own 990 v))))(h1:H 990=some (.mrow v es))(hq:post es y):qim er b r post d H:=
 ⟨⟨r,v,es⟩,y,by simpa [rnB]using hr,h0,fun p hp=>by
  simp only[rnB,qxD,qxY,or_false]at hp
  subst hp
  exact h1,rfl,hq⟩
def PK(cc:CC)(rs:List aj)(S:Nat->Spc)(A:df Z)(er:Y->D)(pre:Rn->List D->Z->Prop)(post:Rn->Z->List D->Y->Prop):Prop:=
 ∀b r v es z,pre r es z->vc S cc (tu rs fun d H'=>qim er b r (post r z) d H') (dq (.bptr 0 b 0::A.view z)) (Ea bM 0 b r v es)
variable {P:Program}{S:Nat->Spc}{f:Nat}{im:List Nat}{cc:CC}{rs:List aj}{N:Nat}
theorem Ci{A:df Z}{er:Y->D}{pre:Rn->List D->Z->Prop}{post:Rn->Z->List D->Y->Prop}(hS:∀f,Tri P f (S f).pt)(h:ak P f im cc rs N)(hN:∀z,(A.view z).length+1<=N)(hw:PK cc rs S A er pre post):Tri P f (qmO A er pre post).pt:=
 xf (by simp[rnB]) hS h hN fun b x z hp=>hw b x.r x.v x.es z hp
end
section
variable {X Y Z:Type}
theorem qsH(H:ab)(r:Nat):rc H (some r) r=H r:=by simp only[rc];exact if_pos rfl
theorem SZ(H:ab)(w:Option Nat):gm H w []=H:=by
 funext i
 simp only[gm,List.lookup]
 split <;> rfl
theorem qgj(A:df X)(pre:D×X->Prop)(er:Z->D)(post:D×X->Z->Prop)(r b:Nat)(ds:List D):qhn r (qh7 A pre er post).pt (.bptr r b 0::ds):=by
 refine⟨fun R=>qh6 A pre er post b ds (R r) R fun _ _=>True,fun R d u=>∃cells x z,R r=some (.box b cells)/\A.dec ds=some x/\post (.cptr cells 0,x) z/\d=er z/\u=[],fun t H K=>?_⟩
 rw[qdN]
 show _↔qh6 A pre er post b ds (rc H (some r) r) (rc H (some r)) (fun _ _=>True)/\∀d u,(∃cells x z,rc H (some r) r=some (.box b cells)/\A.dec ds=some x/\post (.cptr cells 0,x) z/\d=er z/\u=[])->K d (gm H (some r) u)
 rw[qsH]
 cases hH:H r with
 | none=>exact⟨fun h=>h.elim,fun h=>h.1.elim⟩
 | some q=>
   cases q with
   | box b' cells=>
     rw[qdM,qdM]
     cases hd:A.dec ds with
     | none=>exact⟨fun h=>h.2.elim,fun h=>h.1.2.elim⟩
     | some x=>
       constructor
       ·rintro⟨rfl,h1,h2⟩
        refine⟨⟨rfl,h1,fun _ _=>trivial⟩,?_⟩
        rintro d u ⟨cells',x',z,e1,e2,h3,rfl,rfl⟩
        cases e1;cases e2
        rw[SZ]
        exact h2 z h3
       ·rintro⟨⟨rfl,h1,_⟩,h2⟩
        refine⟨rfl,h1,fun z hz=>?_⟩
        have:=h2 (er z) [] ⟨cells,x,z,rfl,rfl,hz,rfl,rfl⟩
        rwa [SZ]at this
   | _=>exact⟨fun h=>h.elim,fun h=>h.1.elim⟩
theorem Rg(A:df X)(pre:D×X->Prop)(er:Z->D)(post:D×X->Z->Prop)(r b:Nat)(dst:Option Nat)(ds:List D)(H:ab)(K:D->ab->Prop):JF r dst (qh7 A pre er post) (.bptr r b 0::ds) H K=qh6 A pre er post b ds (H r) H K:=by
 rw[<-qdN A pre er post (dst.getD 0)]
 exact propext ⟨fun h=>h.2,fun h=>⟨qgj A pre er post r b ds,h⟩⟩
end
end Go.Gv

namespace Go.Gv
open Cod (enc dec)
@[simp] theorem qqN(s:St3):St3.mk s.p s.b0 s.b1 s.b2=s:=by cases s;rfl
theorem TF{X:Type}[Cod X][DecidableEq X]{ka:Bool}{ks:List KK}(hK:ZS X ka ks)(x:X)(hM:Lk (enc x) (enc x))(l:List X)(K:List D->Prop):BQ ka ks (enc x) (.v (.bool true)) (bp l) K=K (bp (xW x l)):=by
 refine propext ⟨fun⟨_,_,h1,h2⟩=>?_,qfe hK rfl⟩
 by_cases hx:x∈l
 ·obtain⟨a,b,rfl⟩:=qAc hx
  have e:xW x (a++x::b)=a++x::b:=by unfold xW;rw[if_pos hx]
  have:=h1 (bp a) (enc x) (.v (.bool true)) (bp b) (by simp[bp]) hM
  rw[e]
  have e2:bp (a++x::b)=bp a++ .tup [enc x, .v (.bool true)]::bp b:=by simp[bp]
  rw[e2]
  exact this
 ·have:=h2 fun _ v hm=>hx (At.1 hm).1
  have e:xW x l=l++ [x]:=by unfold xW;rw[if_neg hx]
  rw[e,hZ]
  exact this
theorem RA(s:St3):Lk (enc s) (enc s):=by
 refine⟨fun _=>False,fun _=>False,default, .agg [Value.int .i64 s.p, .int .i64 s.b0, .int .i64 s.b1, .int .i64 s.b2].toArray,?_,?_⟩ <;>
 ·refine R.agg _ _ rfl (by simp[Value.oneCell']) fun k x c h1 h2=>?_
  rcases k with _|_|_|_|k
  ·cases h1;cases h2;exact R.int .i64 _
  ·cases h1;cases h2;exact R.int .i64 _
  ·cases h1;cases h2;exact R.int .i64 _
  ·cases h1;cases h2;exact R.int .i64 _
  ·simp at h1
@[simp] theorem qiO(a b c d:Int)(l:List St3)(K:List D->Prop):BQ true [.int .i64, .int .i64, .int .i64, .int .i64] (.agg [.v (.int .i64 a), .v (.int .i64 b), .v (.int .i64 c), .v (.int .i64 d)]) (.v (.bool true)) (bp l) K=K (bp (xW ⟨a,b,c,d⟩ l)):=
 TF WI ⟨a,b,c,d⟩ (RA _) l K
@[simp] theorem qp7(ok:Bool)(a b c d:Int)(l:List St3)(K:D->Prop):xR ok false true [.int .i64, .int .i64, .int .i64, .int .i64] [.bool false] (.agg [.v (.int .i64 a), .v (.int .i64 b), .v (.int .i64 c), .v (.int .i64 d)]) (bp l) K=K (qhW ok (.v (.bool (decide ((⟨a,b,c,d⟩:St3) ∈l)))) (decide ((⟨a,b,c,d⟩:St3) ∈l))):=
 RD WI ⟨a,b,c,d⟩ (RA _) l K
@[simp] theorem qo7(a b c d:Int)(K:List D->Prop):BQ true [.int .i64, .int .i64, .int .i64, .int .i64] (.agg [.v (.int .i64 a), .v (.int .i64 b), .v (.int .i64 c), .v (.int .i64 d)]) (.v (.bool true)) [] K=K (bp [(⟨a,b,c,d⟩:St3)]):=
 qiO a b c d [] K
theorem sU{X:Type}[Cod X]:bp ([]:List X)=[]:=rfl
theorem fg{X:Type}[Cod X]{l:List X}(h:bp l=[]):l=[]:=by
 cases l with
 | nil=>rfl
 | cons a l=>simp[bp]at h
theorem Ji{X:Type}[Cod X]{l l':List X}(h:bp l=bp l'):l=l':=by
 unfold bp at h
 induction l generalizing l' with
 | nil=>cases l' with
   | nil=>rfl
   | cons a l=>simp at h
 | cons a l ih=>cases l' with
   | nil=>simp at h
   | cons b l'=>
     simp only[qxZ,qx0,D.tup.injEq,and_true]at h
     rw[aK h.1,ih h.2]
theorem wO{Hf:ab}{i:Nat}{x:Value}{es:List D}(h:Hf i=some (.mrow x es)):FrzTo Hf (.own i x) (.mp es):= .mrow h rfl fun k c c' h1 h2=>by rw[h1]at h2;cases h2;exact .same _
@[simp] theorem qvq(d:Option Nat)(g:Option (Nat×Bool))(o:MOp)(xs:List Operand):(CI.op d g (.m o xs)).wid=d:=id rfl
end Go.Gv

namespace Go.Gv
open Go.Proofs
def cP:CC:=gq Tryz.f82 [3] {} _
def cK:List aj:=[.tmp 4]
theorem mJ:ak Tryz.prog da [3] cP cK 28:=fo
def dK:CC:=gq Tryz.f131 [4,2049005] {} _
def dC:List aj:=[.cell 6 true 4, .tmp 7]
theorem CE:ak Tryz.prog iZ [4,2049005] dK dC 55:=fo
def kZ:CC:=gq Tryz.f132 [5,4,3] {} _
def kJ:List aj:=[.tmp 6]
theorem BE:ak Tryz.prog gO [5,4,3] kZ kJ 14:=fo
def aV:CC:=gq Tryz.f182 [4] {} _
def aU:List aj:=[.tmp 5]
theorem zq:ak Tryz.prog bU [4] aV aU 42:=fo
def wi:CC:=gq Tryz.f183 [] {} _
def vy:List aj:=[.tmp 2]
theorem Md:ak Tryz.prog yg [] wi vy 22:=fo
def oP:CC:=gq Tryz.f180 [6,5] {} _
def nw:List aj:=[.tmp 10]
theorem Ev:ak Tryz.prog pR [6,5] oP nw 17:=fo
end Go.Gv

namespace Go.Gv
open Go.Proofs
open Cod (enc dec)
variable {S S0:Nat->Spc}
def qk1(d:D):Prop:=∃r k,d= .cptr (lF r k) 0/\r.lb.length<=3
def qoF(s:St3):Prop:=0<=s.p/\s.p<=1000000/\∀i,0<=s.get i/\s.get i<=1000000
def ND(x:D×St3):Prop:=qk1 x.1/\qoF x.2
def Tj(x:D×St3)(y:List Int):Prop:=∀r k,x.1= .cptr (lF r k) 0->y=NB r x.2
abbrev qa6:Spc:=aI (aD (a1 St3)) ND (enc (X:=List Int)) Tj
theorem R2(s:St3){k:Nat}(hk:k < 3):([.v (.int .i64 s.p), .v (.int .i64 s.b0), .v (.int .i64 s.b1), .v (.int .i64 s.b2)]:List D)[1+k]? =some (.v (.int .i64 (s.get k))):=by
 rcases k with _|_|_|k
 ·rfl
 ·rfl
 ·rfl
 ·omega
theorem qiz:aq cP cK S (aD (a1 St3)) ND (enc (X:=List Int)) Tj:=by
 rintro⟨d,s⟩ ⟨⟨r,k,hd,hl⟩,hs⟩
 have hd:d= .cptr (lF r k) 0:=hd
 subst hd
 simp[cP,cK,lF, -Bool.forall_bool, -Bool.exists_bool]
 intro hl1
 refine⟨by omega,by omega,fun v hl2=>?_⟩
 refine ai (X:=List Int) [3,5] [] r.lb.length (fun k z=>z.length=r.lb.length/\∀i,i < k->z[i]? =some (s.get i -1)) (fun _=>[]) (fun z=>[(12, .row v iB 1 (z.map enc))]) (List.replicate r.lb.length 0) (by simp) (by simp) (by omega) (by simp) (by simp) (by simp) (by simp) (by simp) ?_ ?_
 ·rintro j z hj ⟨hz1,hz2⟩
  have hg:=R2 s (k:=j) (by omega)
  have hb:0<=s.get j/\s.get j<=1000000:=hs.2.2 j
  have hjz:j < z.length:=by omega
  simp[hj,hg,hjz, -Bool.forall_bool, -Bool.exists_bool]
  refine⟨by omega,by omega,by simp only[InR];omega,z.set j (s.get j -1),⟨by simp[hz1],fun i hi=>?_⟩, .inl (by rw[qzO];rfl)⟩
  by_cases e:j=i
  ·subst e
   rw[qyF (by omega)]
  ·rw[qzI e]
   exact hz2 i (by omega)
 ·rintro z ⟨hz1,hz2⟩
  simp[-Bool.forall_bool, -Bool.exists_bool]
  refine cp z (gl iB (by simp[ah])) fun r' k' e=>?_
  have e:D.cptr (lF r k) 0= .cptr (lF r' k') 0:=e
  obtain rfl:=D7 e
  refine qyw fun i=>?_
  unfold NB
  rw[qxQ]
  by_cases hi:i < r.lb.length
  ·rw[hz2 i hi,qyG hi];rfl
  ·rw[qx7 (by omega),qx7 (by simp;omega)];rfl
def BZ(p:Pat):Bool:=decide (p.op=6) && decide (p.mx < 0) && decide (p.mn<=1)
abbrev VU:Spc:=aI (aD a0) (fun x=>∃p,sC x.1 p) (enc (X:=Bool)) fun x y=>∀p,sC x.1 p->y=BZ p
def XC(x:D×Pat×St3):Prop:=(∃r k,x.1= .cptr (lF r k) 0/\r.lb.length<=3/\qlh r.c/\(x.2.1.lab≠se->qR r.lb x.2.1.lab=true)/\(x.2.2.p < r.en->∃y,BB r x.2.1 x.2.2=some y))/\qoF x.2.2
def Ti(x:D×Pat×St3)(y:St3×Bool):Prop:=∀r k,x.1= .cptr (lF r k) 0->(y.2=true↔x.2.2.p < r.en/\BB r x.2.1 x.2.2=some true)/\(y.2=true->y.1=Ez r x.2.1 x.2.2)
end Go.Gv

namespace Go.Gv
open Go.Proofs
open Cod (enc dec)
variable {S S0:Nat->Spc}
abbrev VW:Spc:=aI aH (qhj 21) (enc (X:=Bool)) (qkV 21)
theorem qeX(h1:S ja=Jr 21):aq oP nw S aH (qhj 21) (enc (X:=Bool)) (qkV 21):=by
 rintro⟨c,x,tok,lb,bd⟩ hp
 simp[oP,nw,h1,hp, -Bool.forall_bool, -Bool.exists_bool]
theorem tN(p:Pat):enc p= .agg (enc p).cells:=by simp
theorem ss{d:D}{p q:Pat}(h1:sC d p)(h2:sC d q):p=q:=by
 obtain⟨cs,off,rfl,_,e1⟩:=h1
 obtain⟨cs',off',e,_,e2⟩:=h2
 cases e
 exact aK (by rw[tN p,tN q,<-e1,<-e2])
theorem qeQ:aq wi vy S (aD a0) (fun x=>∃p,sC x.1 p) (enc (X:=Bool)) fun x y=>∀p,sC x.1 p->y=BZ p:=by
 rintro⟨d,⟨⟩⟩ ⟨p,cs,off,hd,hl,hc⟩
 have hd:d= .cptr cs off:=hd
 subst hd
 have c0:cs[off]? =some (.v (.int .i64 p.op)):=by
  have:=xF hl hc (j:=0) (by decide)
  rw[qyJ]at this
  rw[this];simp
 have c10:cs[off+10]? =some (.v (.int .i64 p.mn)):=by rw[xF hl hc (j:=10) (by decide)];simp
 have c11:cs[off+11]? =some (.v (.int .i64 p.mx)):=by rw[xF hl hc (j:=11) (by decide)];simp
 have hlo:off+1<=cs.length:=by omega
 have hl10:off+10+1<=cs.length:=by omega
 have hl11:off+11+1<=cs.length:=by omega
 simp[wi,vy,c0,c10,c11,hlo,hl10,hl11, -Bool.forall_bool, -Bool.exists_bool]
 have hp:sC (.cptr cs off) p:=⟨cs,off,rfl,hl,hc⟩
 refine⟨fun h6=>⟨fun hm q hq=>?_,fun hm q hq=>?_⟩,fun h6 q hq=>?_⟩
 ·obtain rfl:=ss hp hq
  simp[BZ,h6,hm]
 ·obtain rfl:=ss hp hq
  simp[BZ,h6]
  omega
 ·obtain rfl:=ss hp hq
  simp[BZ,h6]
abbrev qi7:Spc:=aI (aD (a2 Pat St3)) XC (qW (Y:=St3) (Z:=Bool)) Ti
theorem qgp{r:Rn}{b:B}(hl:r.lb.length<=3)(h:qR r.lb b=true):(fW r.lb fun z=>decide (z=b))=0\/(fW r.lb fun z=>decide (z=b))=1\/(fW r.lb fun z=>decide (z=b))=2:=by
 have h1:=uQ (fun z=>decide (z=b)) r.lb
 have h2:=Ay (fun z=>decide (z=b)) r.lb
 have h3:decide (0<=fW r.lb fun z=>decide (z=b))=true:=h1.trans h
 have h4:=of_decide_eq_true h3
 omega
theorem qix(h1:S da=qa6)(h2:S pR=VW)(h3:S cy=Jq):aq dK dC S (aD (a2 Pat St3)) XC (qW (Y:=St3) (Z:=Bool)) Ti:=by
 rintro⟨d,p,s⟩ ⟨⟨r,k,hd,hl,hz,hlab,htok⟩,hs⟩
 have hd:d= .cptr (lF r k) 0:=hd
 subst hd
 have hs:qoF s:=hs
 have hPa:ND (.cptr (lF r k) 0,s):=⟨⟨r,k,rfl,hl⟩,hs⟩
 have hp0:=hs.1
 have hp1:=hs.2.1
 have hno:∀y:St3,(¬s.p < r.en\/BB r p s=some false)->Ti (.cptr (lF r k) 0,p,s) (y,false):=fun y h r' k' e=>by
  have e:D.cptr (lF r k) 0= .cptr (lF r' k') 0:=e
  obtain rfl:=D7 e
  refine⟨⟨fun h=>(by cases h),fun h2=>?_⟩,fun h=>(by cases h)⟩
  rcases h with h|h
  ·exact absurd h2.1 h
  ·have h3:BB r p s=some true:=h2.2
   rw[h]at h3;cases h3
 have hyes:s.p < r.en->BB r p s=some true->Ti (.cptr (lF r k) 0,p,s) (Ez r p s,true):=fun h4 h5 r' k' e=>by
  have e:D.cptr (lF r k) 0= .cptr (lF r' k') 0:=e
  obtain rfl:=D7 e
  exact⟨⟨fun _=>⟨h4,h5⟩,fun _=>rfl⟩,fun _=>rfl⟩
 simp only[lF]at hPa hno hyes
 have hz3:∀ (y:List Int),Tj (.cptr (lF r k) 0,s) y->y=NB r s:=fun y h=>h r k rfl
 simp only[lF]at hz3
 by_cases hL:p.lab=se
 ·have hL2:p.lab=⟨#[]⟩:=hL
  have hnx:Ez r p s=⟨s.p+1,s.b0,s.b1,s.b2⟩:=by unfold Ez;rw[if_pos hL]
  rw[hnx]at hyes
  simp[dK,dC,lF,h1,h2,h3,hPa,hL2, -Bool.forall_bool, -Bool.exists_bool]
  refine fun b=>⟨fun h4 y hy=>?_,fun h4=>⟨⟨0,0,0,0⟩, .same _,hno _ (.inl (by omega))⟩⟩
  obtain rfl:=hz3 y hy
  obtain⟨z,hz2⟩:=htok h4
  refine⟨⟨hz,z,hz2⟩,fun y1 hy1=>?_⟩
  have hy1:BB r p s=some y1:=hy1
  refine⟨fun e=>⟨⟨0,0,0,0⟩, .same _,hno _ (.inr (e ▸hy1))⟩,fun e=>?_⟩
  exact⟨by simp only[InR];omega,⟨s.p+1,s.b0,s.b1,s.b2⟩, .same _,hyes h4 (e ▸hy1)⟩
 ·have hL2:¬p.lab=⟨#[]⟩:=hL
  rcases qgp hl (hlab hL)with hq|hq|hq
  ·have hnx:Ez r p s=⟨s.p+1,s.p+1,s.b1,s.b2⟩:=by unfold Ez;rw[if_neg hL,hq];rfl
   rw[hnx]at hyes
   simp[dK,dC,lF,h1,h2,h3,hPa,hL2,hq, -Bool.forall_bool, -Bool.exists_bool]
   refine fun b=>⟨fun h4 y hy=>?_,fun h4=>⟨⟨0,0,0,0⟩, .same _,hno _ (.inl (by omega))⟩⟩
   obtain rfl:=hz3 y hy
   obtain⟨z,hz2⟩:=htok h4
   refine⟨⟨hz,z,hz2⟩,fun y1 hy1=>?_⟩
   have hy1:BB r p s=some y1:=hy1
   refine⟨fun e=>⟨⟨0,0,0,0⟩, .same _,hno _ (.inr (e ▸hy1))⟩,fun e=>?_⟩
   exact⟨by simp only[InR];omega,⟨s.p+1,s.p+1,s.b1,s.b2⟩, .same _,hyes h4 (e ▸hy1)⟩
  ·have hnx:Ez r p s=⟨s.p+1,s.b0,s.p+1,s.b2⟩:=by unfold Ez;rw[if_neg hL,hq];rfl
   rw[hnx]at hyes
   simp[dK,dC,lF,h1,h2,h3,hPa,hL2,hq, -Bool.forall_bool, -Bool.exists_bool]
   refine fun b=>⟨fun h4 y hy=>?_,fun h4=>⟨⟨0,0,0,0⟩, .same _,hno _ (.inl (by omega))⟩⟩
   obtain rfl:=hz3 y hy
   obtain⟨z,hz2⟩:=htok h4
   refine⟨⟨hz,z,hz2⟩,fun y1 hy1=>?_⟩
   have hy1:BB r p s=some y1:=hy1
   refine⟨fun e=>⟨⟨0,0,0,0⟩, .same _,hno _ (.inr (e ▸hy1))⟩,fun e=>?_⟩
   exact⟨by simp only[InR];omega,⟨s.p+1,s.b0,s.p+1,s.b2⟩, .same _,hyes h4 (e ▸hy1)⟩
  ·have hnx:Ez r p s=⟨s.p+1,s.b0,s.b1,s.p+1⟩:=by unfold Ez;rw[if_neg hL,hq];rfl
   rw[hnx]at hyes
   simp[dK,dC,lF,h1,h2,h3,hPa,hL2,hq, -Bool.forall_bool, -Bool.exists_bool]
   refine fun b=>⟨fun h4 y hy=>?_,fun h4=>⟨⟨0,0,0,0⟩, .same _,hno _ (.inl (by omega))⟩⟩
   obtain rfl:=hz3 y hy
   obtain⟨z,hz2⟩:=htok h4
   refine⟨⟨hz,z,hz2⟩,fun y1 hy1=>?_⟩
   have hy1:BB r p s=some y1:=hy1
   refine⟨fun e=>⟨⟨0,0,0,0⟩, .same _,hno _ (.inr (e ▸hy1))⟩,fun e=>?_⟩
   exact⟨by simp only[InR];omega,⟨s.p+1,s.b0,s.b1,s.p+1⟩, .same _,hyes h4 (e ▸hy1)⟩
end Go.Gv

namespace Go.Gv
open Go.Proofs
open Cod (enc dec)
variable {S S0:Nat->Spc}
def Mw(r:Rn)(p:Pat)(at_:Int)(x:Region):Bool:=decide (x.ty=p.reg) && decide ((if p.op=3 then x.e else x.b)=at_) && decide (r.bg<=x.b) && decide (x.e<=r.en)
def ZT(x:Region×Pat×Int×Rn×D):List D:=[enc x.1, .cptr (enc x.2.1).cells 0, .cptr [enc x.2.2.1] 0, .cptr [.cptr (lF x.2.2.2.1 x.2.2.2.2) 0] 0]
theorem VG(z z':Region×Pat×Int×Rn×D)(h:ZT z=ZT z'):z=z':=by
 obtain⟨a,p,i,r,k⟩:=z
 obtain⟨a',p',i',r',k'⟩:=z'
 unfold ZT at h
 simp only[qx0,D.cptr.injEq,and_true]at h
 obtain⟨h1,h2,h3,h4⟩:=h
 have e:p=p':=aK (by rw[tN p,tN p',h2])
 obtain⟨e2,e3⟩:=JB h4
 rw[aK h1,e,aK h3,e2,e3]
noncomputable abbrev qwK:df (Region×Pat×Int×Rn×D):=aX ZT VG
noncomputable abbrev D2:Spc:=aI qwK (fun _=>True) (enc (X:=Bool)) fun x y=>y=Mw x.2.2.2.1 x.2.1 x.2.2.1 x.1
theorem qeT:aq aV aU S qwK (fun _=>True) (enc (X:=Bool)) fun x y=>y=Mw x.2.2.2.1 x.2.1 x.2.2.1 x.1:=by
 rintro⟨a,p,i,r,k⟩ -
 rw[Bt]
 by_cases e0:p.op=3
 ·by_cases e1:a.ty=p.reg
  rotate_left
  ·simp[ZT,aV,aU,Mw,e0,e1, -Bool.forall_bool, -Bool.exists_bool]
  by_cases e2:a.e=i
  rotate_left
  ·simp[ZT,aV,aU,Mw,e0,e1,e2, -Bool.forall_bool, -Bool.exists_bool]
  by_cases e3:r.bg<=a.b
  rotate_left
  ·simp[ZT,aV,aU,Mw,e0,e1,e2,e3, -Bool.forall_bool, -Bool.exists_bool]
  simp[ZT,aV,aU,Mw,e0,e1,e2,e3, -Bool.forall_bool, -Bool.exists_bool]
 ·by_cases e1:a.ty=p.reg
  rotate_left
  ·simp[ZT,aV,aU,Mw,e0,e1, -Bool.forall_bool, -Bool.exists_bool]
  by_cases e2:a.b=i
  rotate_left
  ·simp[ZT,aV,aU,Mw,e0,e1,e2, -Bool.forall_bool, -Bool.exists_bool]
  simp[ZT,aV,aU,Mw,e0,e1,e2, -Bool.forall_bool, -Bool.exists_bool]
  exact⟨by intros;omega,by intros;omega⟩
abbrev qen(x:D×Pat×Int):Prop:=qk1 x.1
abbrev qeb(x:D×Pat×Int)(y:Bool):Prop:=∀r k,x.1= .cptr (lF r k) 0->y=Vi r x.2.1 x.2.2
abbrev qi8:Spc:=aI (aD (a2 Pat Int)) qen (enc (X:=Bool)) qeb
theorem qiA(h0:S0 bU=D2)(h1:S bA=Yp Region S0):aq kZ kJ S (aD (a2 Pat Int)) qen (enc (X:=Bool)) qeb:=by
 rintro⟨d,p,i⟩ ⟨r,k,hd,hl⟩
 have hd:d= .cptr (lF r k) 0:=hd
 subst hd
 have hf:FunOn S0 (.clo bU [.cptr (enc p).cells 0, .cptr [enc i] 0, .cptr [.cptr (lF r k) 0] 0]) r.c.regs (Mw r p i):=
  wP (f:=fun a=>(a,p,i,r,k)) h0 (fun a _=>Dj ZT VG (a,p,i,r,k)) (fun _ _=>trivial) (fun a _ y hy=>hy)
 rw[show(enc p).cells=[enc p.op,enc p.cond.op,enc p.cond.name,enc p.cond.arg,enc p.cond.val,enc p.cond.lab,enc p.cond.fold,enc p.cond.kids,enc p.lab,enc p.reg,enc p.mn,enc p.mx,enc p.kids] by simp]at hf
 simp at hf
 simp[kZ,kJ,h1, -Bool.forall_bool, -Bool.exists_bool]
 refine⟨⟨_,hf⟩,fun y hy r' k' e=>?_⟩
 have e:D.cptr (lF r k) 0= .cptr (lF r' k') 0:=e
 obtain rfl:=D7 e
 rw[hy _ hf]
 rfl
end Go.Gv

namespace Go.Gv
open Go.Proofs
def ov:CC:=gq Tryz.f133 [] { ke:=[0,990] } _
def nk:List aj:=[.tmp 6]
theorem Eo:ak Tryz.prog ku [] ov nk 29:=fo
def my:CC:=gq Tryz.f81 [5,3045000,2010010] { cu:=[6,15],ke:=[0,990] } _
def lT:List aj:=[.tmp 6]
theorem CF:ak Tryz.prog cZ [5,3045000,2010010] my lT 121:=fo
def kY:CC:=gq Tryz.f134 [5] { bx:=[53],cu:=[3,7,13,17],ke:=[0,990] } _
def kI:List aj:=[.tmp 6]
theorem BD:ak Tryz.prog lY [5] kY kI 109:=fo
def oz:CC:=gq Tryz.f185 [] { bx:=[0] } _
def np:List aj:=[]
theorem Es:ak Tryz.prog pP [] oz np 16:=fo
end Go.Gv

namespace Go.Gv
open Go.Proofs
open Cod (enc dec)
variable {S S0:Nat->Spc}
structure qhl (r:Rn) (q:Pat):Prop where
 nd:uv q
 num:uB q=true
 lab:q.lab≠se->qR r.lb q.lab=true
 tok:q.op=1->∀s,P2 r.en s->s.p < r.en->∃y,BB r q s=some y
structure qhg (r:Rn):Prop where
 l3:r.lb.length<=3
 sz:qlh r.c
 en:r.en<=100000
def A8(r:Rn)(es:List D):Prop:=∀e∈es,∃d p s l,sC d p/\e= .tup [.agg [d, .v (.int .i64 s.p), .v (.int .i64 s.b0), .v (.int .i64 s.b1), .v (.int .i64 s.b2)], .mp (bp l)]/\l.Nodup/\∀t,t∈l↔lJ r p s t
def qkc(l:List St3):D:= .mp (bp l)
@[simp] theorem qwi(l:List St3):qkc l= .mp (bp l):=rfl
def XD(n:Nat)(r:Rn)(es:List D)(x:D×St3):Prop:=qhg r/\A8 r es/\P2 r.en x.2/\∃p,sC x.1 p/\eD p<=n/\ll (qhl r) p
def Xz(r:Rn)(x:D×St3)(es:List D)(y:List St3):Prop:=A8 r es/\y.Nodup/\∀p,sC x.1 p->∀t,t∈y↔lJ r p x.2 t
abbrev MJ(n:Nat):Spc:=qmO (aD (a1 St3)) qkc (XD n) Xz
def qek(n:Nat)(r:Rn)(es:List D)(x:D×D×Unit):Prop:=qhg r/\A8 r es/\(∃l:List St3,x.2.1= .mp (bp l)/\∀s∈l,P2 r.en s)/\∃p,sC x.1 p/\eD p<=n/\ll (qhl r) p
def qd9(r:Rn)(x:D×D×Unit)(es:List D)(y:List St3):Prop:=A8 r es/\y.Nodup/\∀ (p:Pat) (l:List St3),sC x.1 p->x.2.1= .mp (bp l)->∀t,t∈y↔ ∃s∈l,lJ r p s t
abbrev Ug(n:Nat):Spc:=qmO (aD (aD a0)) qkc (qek n) qd9
theorem qiC(n:Nat)(h1:S cZ=MJ n):PK ov nk S (aD (aD a0)) qkc (qek n) qd9:=by
 rintro b r v es ⟨d,dl,⟨⟩⟩ ⟨hr,hm,⟨l,hdl,hl⟩,p,hp,hpn,hpa⟩
 have hdl:dl= .mp (bp l):=hdl
 subst hdl
 obtain⟨cs,off,hd,hl13,hc13⟩:=hp
 have hd:d= .cptr cs off:=hd
 subst hd
 have hp:sC (.cptr cs off) p:=⟨cs,off,rfl,hl13,hc13⟩
 simp[ov,nk,Ea, -Bool.forall_bool, -Bool.exists_bool]
 intro v1 b1
 refine av (X:=Value×List D×List St3×List D×List St3) [0,1,7,12] [] (fun x=>A8 r x.2.1/\x.2.2.1.Nodup/\(∀s∈x.2.2.2.2,s∈l)/\(∀t∈x.2.2.1,∃s∈l,lJ r p s t)/\∀s∈l,s∈x.2.2.2.2\/ ∀t,lJ r p s t->t∈x.2.2.1)
  (fun _=>[]) (fun x=>[(0, .box b (lF r (.own 990 x.1))),(990, .mrow x.1 x.2.1),(10, .mrow v1 (bp x.2.2.1)),(12, .miter b1 x.2.2.2.1 (bp x.2.2.2.2))]) (fun x=>x.2.2.2.2.length) (v,es, [], [],l)
  ⟨hm,qzk,fun _ h=>h,fun _ h=>(by cases h),fun s hs=> .inl hs⟩ (by simp) (by simp[sU]) ?_
 rintro⟨v',es',out,cur,left⟩ ⟨hm',hn',hl',ho',hd'⟩
 simp only at hm' hn' hl' ho' hd'
 simp[-Bool.forall_bool, -Bool.exists_bool]
 refine⟨fun h0=>?_,fun l1 e l2 hsp=>?_⟩
 ·have hlz:=fg h0
  subst hlz
  refine Nk v' es' out (wO (by simp[ah])) (by simp[ah]) (by simp[ah]) ⟨hm',hn',fun p' l' hp' hl2 t=>?_⟩
  obtain rfl:=ss hp hp'
  have hl2:D.mp (bp l)= .mp (bp l'):=hl2
  obtain rfl:=Ji (D.mp.inj hl2)
  exact⟨ho' t,fun⟨s,hs,hD⟩=>(hd' s hs).elim (fun h=>by cases h) fun h=>h t hD⟩
 ·obtain⟨a,s,c,rfl,rfl,rfl,rfl⟩:=gA hsp
  have hs:s∈l:=hl' s (by simp)
  have hPr:XD n r es' (.cptr cs off,s):=⟨hr,hm',hl s hs,p,hp,hpn,hpa⟩
  simp[h1,Co,hPr,Ea, -Bool.forall_bool, -Bool.exists_bool]
  intro v2 es2 ys hQ b2
  have hys:=hQ.2.2 p hp
  refine av (X:=List St3×List D×List St3) [0,1,7,12,21] [0,990,12] (fun x=>x.1.Nodup/\(∀t∈x.2.2,t∈ys)/\(∀t∈out,t∈x.1)/\(∀t∈x.1,t∈out\/t∈ys)/\∀t∈ys,t∈x.2.2\/t∈x.1)
   (fun _=>[]) (fun x=>[(10, .mrow v1 (bp x.1)),(21, .miter b2 x.2.1 (bp x.2.2))]) (fun x=>x.2.2.length) (out, [],ys)
   ⟨hn',fun _ h=>h,fun _ h=>h,fun _ h=> .inl h,fun _ h=> .inl h⟩ (by simp) (by simp) ?_
  rintro⟨out2,cur2,left2⟩ ⟨g1,g2,g3,g4,g5⟩
  simp only at g1 g2 g3 g4 g5
  simp[-Bool.forall_bool, -Bool.exists_bool]
  refine⟨fun h0=>?_,fun l1 e l2 hsp2=>?_⟩
  ·have hlz:=fg h0
   subst hlz
   refine⟨v2,es2,out2,_,a++c,⟨hQ.1,g1,fun x h=>hl' x (by simp only[qxE,qxD]at h ⊢;rcases h with h|h <;> simp[h]),fun t ht=>?_,fun x hx=>?_⟩,⟨.inl rfl, .inl ⟨rfl,rfl⟩, .inl rfl, .inl ⟨rfl,(hZ a c).symm⟩⟩,by simp⟩
   ·rcases g4 t ht with h|h
    ·exact ho' t h
    ·exact⟨s,hs,(hys t).1 h⟩
   ·rcases hd' x hx with h|h
    ·rcases qxE.1 h with h|h
     ·exact .inl (by simp[h])
     ·rcases qxD.1 h with rfl|h
      ·exact .inr fun t ht=>(g5 t ((hys t).2 ht)).elim (fun h=>by cases h) id
      ·exact .inl (by simp[h])
    ·exact .inr fun t ht=>g3 t (h t ht)
  ·obtain⟨a2,t,c2,rfl,rfl,rfl,rfl⟩:=gA hsp2
   simp[-Bool.forall_bool, -Bool.exists_bool]
   refine⟨xW t out2,_,a2++c2,⟨xV g1,fun x h=>g2 x (by simp only[qxE,qxD]at h ⊢;rcases h with h|h <;> simp[h]),fun x hx=>eu.2 (.inr (g3 x hx)),fun x hx=>?_,fun x hx=>?_⟩,⟨.inl rfl, .inl ⟨rfl,(hZ a2 c2).symm⟩⟩,by simp⟩
   ·rcases eu.1 hx with rfl|h
    ·exact .inr (g2 x (by simp))
    ·exact g4 x h
   ·rcases g5 x hx with h|h
    ·rcases qxE.1 h with h|h
     ·exact .inl (by simp[h])
     ·rcases qxD.1 h with rfl|h
      ·exact .inr (eu.2 (.inl rfl))
      ·exact .inl (by simp[h])
    ·exact .inr (eu.2 (.inr h))
end Go.Gv
