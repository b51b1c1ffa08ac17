/- T42 -/
import Derived.Test.YtnffegdacbdhmaaGreatDoorGe20
set_option linter.all false
set_option maxRecDepth 100000
set_option maxHeartbeats 0
open Bool renaming forall_bool → fB', exists_bool → eB'
namespace Go.Gv
section
open Go.Proofs
open Cod (enc dec)
variable {dq:Prop}
def nX(r:Rn)(k:D):List D:=[.list 2 (r.c.attrs.map enc), .list 1 (r.c.toks.map enc), .list 4 (r.c.texts.map enc), .list 4 (r.c.regs.map enc), .list 4 (r.c.nodes.map enc), .list 1 (r.c.heads.map enc), .list 1 (r.c.rels.map enc), .list 1 (r.lb.map enc), .v (.int .i64 r.bg), .v (.int .i64 r.en),k]
def OU{r r':Rn}{k d:D}(h:nX r k=nX r' d):r=r'/\k=d:=by
 simp only[nX,qGd,D.list.injEq,D.v.injEq,qH6,true_and,and_true]at h;obtain⟨h1,h2,h3,h4,h5,h6,j,p,q,b,c⟩:=h;obtain⟨⟨a1,a2,a3,a4,u,w,x⟩,lb,bg,en⟩:=r;obtain⟨⟨b1,b2,y,A,C,E,F⟩,lb',s,t⟩:=r';have a:∀{X:Type} [Cod X] {l l':List X},l.map enc=l'.map enc->l=l':=λ{X} _ {l l'} h=>aP (X:=List X) (by show D.list _ _=D.list _ _;rw[h])
 simp only at h1 h2 h3 h4 h5 h6 j p q b;rw[a h1,a h2,a h3,a h4,a h5,a h6,a j,a p,q,b];exact⟨rfl,c⟩
def Iu{r r':Rn}{k a:D}(h:D.cptr (nX r k) 0= .cptr (nX r' a) 0):r=r':=by
 injection h with h _;exact(OU h).1
@[simp] theorem qxj(r:Rn)(k:D):(nX r k).length=11:=i' rfl
@[simp] theorem qDU(r:Rn)(k:D)(h:3<(nX r k).length):(nX r k)[3]= .list 4 (r.c.regs.map enc):=i' rfl
@[simp] theorem qDT(r:Rn)(k:D)(h:8<(nX r k).length):(nX r k)[8]= .v (.int .i64 r.bg):=i' rfl
@[simp] theorem qDS(r:Rn)(k:D)(h:9<(nX r k).length):(nX r k)[9]= .v (.int .i64 r.en):=i' rfl
@[simp] theorem qAB(r:Rn)(k:D)(h:10<(nX r k).length):(nX r k)[10]=k:=i' rfl
structure qEZ where
 r:Rn
 v:Value
 es:List D
def rnB:Nj qEZ:=⟨[990],λx=>nX x.r (.own 990 x.v),λx=>[(990, .mrow x.v x.es)],λ_=>rfl⟩
section
variable {Y Z:Type}
def quy(A:dP Z)(er:Y->D)(pre:Rn->List D->Z->Prop)(post:Rn->Z->List D->Y->Prop):Spc:=qsw rnB A er (λx z=>pre x.r x.es z) (λx z a y=>a.r=x.r/\post x.r z a.es y)
def IA(H:ab)(id b:Nat)(r:Rn)(v:Value)(es:List D):ab:=ai (ai H 990 (some (.mrow v es))) id (some (.box b (nX r (.own 990 v))))
def qxi(er:Y->D)(pre:Rn->List D->Z->Prop)(post:Rn->Z->List D->Y->Prop)(id b:Nat)(q a:Option Res)(o:Option Z)(H:ab)(K:D->ab->Prop):Prop:=
 ∃r v es,q=some (.box b (nX r (.own 990 v)))/\a=some (.mrow v es)/\id≠990/\eL o λz=>pre r es z/\∀v' es' y,post r z es' y->K (er y) (IA H id b r v' es')
@[congr] theorem qAC{er:Y->D}{pre:Rn->List D->Z->Prop}{post:Rn->Z->List D->Y->Prop}{id b:Nat}{q c d a:Option Res}{o h:Option Z}{H:ab}{K:D->ab->Prop}(h1:q=c)(h2:d=a)(h3:o=h):qxi er pre post id b q d o H K=qxi er pre post id b c a h H K:=by subst h1;subst h2;subst h3;rfl
def qpA(x:qEZ)(H:ab)(id b:Nat):ai (gS (rnB.hp x) H) id (some (.box b (rnB.ce x)))=IA H id b x.r x.v x.es:=rfl
theorem Gp(A:dP Z)(er:Y->D)(pre:Rn->List D->Z->Prop)(post:Rn->Z->List D->Y->Prop)(d i b:Nat)(ds:List D)(H:ab)(K:D->ab->Prop):(quy A er pre post).pt d (.bptr i b 0::ds) H K=qxi er pre post i b (H i) (H 990) (A.dec ds) H K:=by
 refine propext ⟨λh=>?_,λh=>?_⟩
 ·obtain⟨id,b',x,z,c,h1,h2,h3,h4,h5,h6,j⟩:=h;cases h1;simp only[rnB,qFP,qGi,or_false]at h5;refine⟨x.r,x.v,x.es,h3,h4 (990, .mrow x.v x.es) (by simp[rnB]),h5,?_⟩;rw[h2];refine⟨h6,λv' es' y a=>?_⟩;have:=j ⟨x.r,v',es'⟩ y ⟨rfl,a⟩;rwa [qpA]at this
 ·obtain⟨r,v,es,h1,h2,h3,h4⟩:=h;cases hz:A.dec ds with
  |none=>rw[hz]at h4;exact h4.elim
  | some z=>
    rw[hz]at h4;refine⟨i,b,⟨r,v,es⟩,z,ds,rfl,hz,h1,λp hp=>?_,by simp[rnB,h3],h4.1,λk y a=>?_⟩
    ·simp only[rnB,qFP,qGi,or_false]at hp;subst hp;exact h2
    ·obtain⟨r',v',es'⟩:=k;obtain⟨e,a⟩:=a;have e:r'=r:=e;subst e;rw[qpA];exact h4.2 v' es' y a
@[simp] theorem qDV(er:Y->D)(pre:Rn->List D->Z->Prop)(post:Rn->Z->List D->Y->Prop)(id b b':Nat)(r:Rn)(v v':Value)(es:List D)(o:Option Z)(H:ab)(K:D->ab->Prop):
 qxi er pre post id b (some (.box b' (nX r (.own 990 v)))) (some (.mrow v' es)) o H K=(b'=b/\v'=v/\id≠990/\eL o λz=>pre r es z/\∀v' es' y,post r z es' y->K (er y) (IA H id b r v' es')):=by
 refine propext ⟨λ⟨h,v1,c,h1,h2,h3,h4⟩=>?_,λ⟨h1,h2,h3,h4⟩=>⟨r,v,es,by rw[h1],by rw[h2],h3,h4⟩⟩;injection h1 with h1;injection h1 with h1 h5;injection h2 with h2;injection h2 with h2 h6;obtain⟨d,a⟩:=OU h5;injection a with _ a;subst d;subst a;subst h6;exact⟨h1,h2,h3,h4⟩
def qqa(er:Y->D)(b:Nat)(r:Rn)(post:List D->Y->Prop)(d:D)(H:ab):Prop:=Mj rnB er b (λs y=>s.r=r/\post s.es y) d H
def Tt{er:Y->D}{b:Nat}{r:Rn}{post:List D->Y->Prop}{d:D}{H:ab}(v:Value)(es:List D)(y:Y)(a:FrzTo (λi=>if i=0\/i=990 then none else H i) d (er y))(h0:H 0=some (.box b (nX r (.own 990 v))))(h1:H 990=some (.mrow v es))(c:post es y):qqa er b r post d H:=
 ⟨⟨r,v,es⟩,y,by simpa [rnB]using a,h0,λp hp=>by
  simp only[rnB,qFP,qGi,or_false]at hp;subst hp;exact h1,rfl,c⟩
def WH(cc:CC)(rs:List aj)(S:Nat->Spc)(A:dP Z)(er:Y->D)(pre:Rn->List D->Z->Prop)(post:Rn->Z->List D->Y->Prop):Prop:=
 ∀b r v es z,pre r es z->vc S cc (vE rs λd H'=>qqa er b r (post r z) d H') (dR (.bptr 0 b 0::A.view z)) (IA bS 0 b r v es)
variable {P:Program}{S:Nat->Spc}{f:Nat}{im:List Nat}{cc:CC}{rs:List aj}{N:Nat}
def Gf{A:dP Z}{er:Y->D}{pre:Rn->List D->Z->Prop}{post:Rn->Z->List D->Y->Prop}(a:∀f,Tri dq P f (S f).pt)(h:zY P f im cc rs N)(c:∀z,(A.view z).length+1<=N)(d:WH cc rs S A er pre post):Tri dq P f (quy A er pre post).pt:=
 wl (by simp[rnB]) a h c λb x z hp=>d b x.r x.v x.es z hp
end
section
variable {X Y Z:Type}
def qAG(H:ab)(r:Nat):uK H (some r) r=H r:=by simp only[uK];exact if_pos rfl
def qaD(H:ab)(w:Option Nat):jX H w []=H:=by
 funext i;simp only[jX,List.lookup];split<;>rfl
theorem qn8(A:dP X)(pre:D×X->Prop)(er:Z->D)(post:D×X->Z->Prop)(r b:Nat)(ds:List D):qmm r (qpV A pre er post).pt (.bptr r b 0::ds):=by
 refine⟨λR=>qpU A pre er post b ds (R r) R λ_ _=>True,λR d u=>∃cells x z,R r=some (.box b cells)/\A.dec ds=some x/\post (.cptr cells 0,x) z/\d=er z/\u=[],λt H K=>?_⟩;rw[qlA];show _↔qpU A pre er post b ds (uK H (some r) r) (uK H (some r)) (λ_ _=>True)/\∀d u,(∃cells x z,uK H (some r) r=some (.box b cells)/\A.dec ds=some x/\post (.cptr cells 0,x) z/\d=er z/\u=[])->K d (jX H (some r) u);rw[qAG];cases k:H r with
 |none=>exact⟨λh=>h.elim,λh=>h.1.elim⟩
 | some q=>
   cases q with
   | box b' cells=>
     rw[qlz,qlz];cases l:A.dec ds with
     |none=>exact⟨λh=>h.2.elim,λh=>h.1.2.elim⟩
     | some x=>
       constructor
       ·rintro⟨rfl,h1,h2⟩;refine⟨⟨rfl,h1,λ_ _=>trivial⟩,?_⟩;rintro d u ⟨a,p,z,c,j,h3,rfl,rfl⟩;cases c;cases j;rw[qaD];exact h2 z h3
       ·rintro⟨⟨rfl,h1,_⟩,h2⟩;refine⟨rfl,h1,λz hz=>?_⟩;have:=h2 (er z) [] ⟨cells,x,z,rfl,rfl,hz,rfl,rfl⟩;rwa [qaD]at this
   | _=>exact⟨λh=>h.elim,λh=>h.1.elim⟩
def YU(A:dP X)(pre:D×X->Prop)(er:Z->D)(post:D×X->Z->Prop)(r b:Nat)(dst:Option Nat)(ds:List D)(H:ab)(K:D->ab->Prop):O3 r dst (qpV A pre er post) (.bptr r b 0::ds) H K=qpU A pre er post b ds (H r) H K:=by
 rw[<-qlA A pre er post (dst.getD 0)];exact propext ⟨λh=>h.2,λh=>⟨qn8 A pre er post r b ds,h⟩⟩
end
end
section
open Cod (enc dec)
@[simp] theorem qyK(s:St3):St3.mk s.p s.b0 s.b1 s.b2=s:=by cases s;rfl
def qbi{X:Type}[Cod X][DecidableEq X]{ka:Bool}{ks:List KK}(d:qc3 X ka ks)(x:X)(h:Mi (enc x) (enc x))(l:List X)(K:List D->Prop):Di ka ks (enc x) (.v (.bool true)) (aW l) K=K (aW (ye x l)):=by
 refine propext ⟨λ⟨_,_,h1,h2⟩=>?_,Uy d rfl⟩;by_cases c:x∈l
 ·obtain⟨a,b,rfl⟩:=qHU c;have e:ye x (a++x::b)=a++x::b:=by unfold ye;rw[if_pos c]
  have:=h1 (aW a) (enc x) (.v (.bool true)) (aW b) (by simp[aW]) h;rw[e];have j:aW (a++x::b)=aW a++ .tup [enc x, .v (.bool true)]::aW b:=by simp[aW]
  rw[j];exact this
 ·have:=h2 λ_ v hm=>c (AF.1 hm).1
  have e:ye x l=l++ [x]:=by unfold ye;rw[if_neg c]
  rw[e,jG];exact this
def Zj(s:St3):Mi (enc s) (enc s):=by
 refine⟨λ_=>False,λ_=>False,default, .agg [Value.int .i64 s.p, .int .i64 s.b0, .int .i64 s.b1, .int .i64 s.b2].toArray,?_,?_⟩ <;>
 ·refine R.agg _ _ rfl (by simp[Value.oneCell']) λk x c h1 h2=>?_
  rcases k with _|_|_|_|k
  ·cases h1;cases h2;exact R.int .i64 _
  ·cases h1;cases h2;exact R.int .i64 _
  ·cases h1;cases h2;exact R.int .i64 _
  ·cases h1;cases h2;exact R.int .i64 _
  ·simp at h1
@[simp] theorem qqE(a b c d:Int)(l:List St3)(K:List D->Prop):Di true [.int .i64, .int .i64, .int .i64, .int .i64] (.agg [.v (.int .i64 a), .v (.int .i64 b), .v (.int .i64 c), .v (.int .i64 d)]) (.v (.bool true)) (aW l) K=K (aW (ye ⟨a,b,c,d⟩ l)):=
 qbi qea ⟨a,b,c,d⟩ (Zj _) l K
@[simp] theorem qxZ(ok:Bool)(a b c d:Int)(l:List St3)(K:D->Prop):zr ok false true [.int .i64, .int .i64, .int .i64, .int .i64] [.bool false] (.agg [.v (.int .i64 a), .v (.int .i64 b), .v (.int .i64 c), .v (.int .i64 d)]) (aW l) K=K (qnY ok (.v (.bool (decide ((⟨a,b,c,d⟩:St3) ∈l)))) (decide ((⟨a,b,c,d⟩:St3) ∈l))):=
 L3 qea ⟨a,b,c,d⟩ (Zj _) l K
@[simp] theorem qwV(a b c d:Int)(K:List D->Prop):Di true [.int .i64, .int .i64, .int .i64, .int .i64] (.agg [.v (.int .i64 a), .v (.int .i64 b), .v (.int .i64 c), .v (.int .i64 d)]) (.v (.bool true)) [] K=K (aW [(⟨a,b,c,d⟩:St3)]):=
 qqE a b c d [] K
def wm{X:Type}[Cod X]:aW ([]:List X)=[]:=rfl
def gz{X:Type}[Cod X]{l:List X}(h:aW l=[]):l=[]:=by
 cases l with
 |nil=>rfl
 |cons a l=>simp[aW]at h
def Ox{X:Type}[Cod X]{l l':List X}(h:aW l=aW l'):l=l':=by
 unfold aW at h
 induction l generalizing l' with
 | nil=>cases l' with
   |nil=>rfl
   |cons a l=>simp at h
 | cons a l c=>cases l' with
   |nil=>simp at h
   | cons b l'=>
     simp only[qGb,qGd,D.tup.injEq,and_true]at h;rw[aP h.1,c h.2]
def AI{Hf:ab}{i:Nat}{x:Value}{es:List D}(h:Hf i=some (.mrow x es)):FrzTo Hf (.own i x) (.mp es):= .mrow h rfl λk c c' h1 h2=>by rw[h1]at h2;cases h2;exact .same _
@[simp] theorem qDC(d:Option Nat)(g:Option (Nat×Bool))(o:MOp)(xs:List Operand):(CI.op d g (.m o xs)).wid=d:=i' rfl
open Go.Proofs
def dA:CC:=gq Tryz.f95 [3] {} _
def du:List aj:=[.tmp 4]
def pz:FO dN [3] dA du 28:=fo
def eI:CC:=gq Tryz.f155 [4,2049005] {} _
def eu:List aj:=[.cell 6 true 4, .tmp 7]
def GJ:FO kS [4,2049005] eI eu 55:=fo
def nq:CC:=gq Tryz.f156 [5,4,3] {} _
def mS:List aj:=[.tmp 6]
def Fu:FO jq [5,4,3] nq mS 14:=fo
def br:CC:=gq Tryz.f217 [4] {} _
def bq:List aj:=[.tmp 5]
def CZ:FO cv [4] br bq 42:=fo
def zR:CC:=gq Tryz.f218 [] {} _
def zd:List aj:=[.tmp 2]
def RP:FO BV [] zR zd 22:=fo
def rO:CC:=gq Tryz.f216 [6,5] {} _
def qu:List aj:=[.tmp 10]
def I0:FO sV [6,5] rO qu 17:=fo
variable {S S0:Nat->Spc}
def qsO(d:D):Prop:=∃r k,d= .cptr (nX r k) 0/\r.lb.length<=3
def qws(s:St3):Prop:=0<=s.p/\s.p<=1000000/\∀i,0<=s.get i/\s.get i<=1000000
def TP(x:D×St3):Prop:=qsO x.1/\qws x.2
def qaN(x:D×St3)(y:List Int):Prop:=∀r k,x.1= .cptr (nX r k) 0->y=WE r x.2
abbrev qiu:Spc:=aG (aD (a1 St3)) TP (enc (X:=List Int)) qaN
def ZN(s:St3){k:Nat}(hk:k< 3):([.v (.int .i64 s.p), .v (.int .i64 s.b0), .v (.int .i64 s.b1), .v (.int .i64 s.b2)]:List D)[1+k]? =some (.v (.int .i64 (s.get k))):=by
 rcases k with _|_|_|k
 ·rfl
 ·rfl
 ·rfl
 ·omega
theorem qqp:ak dA du S (aD (a1 St3)) TP (enc (X:=List Int)) qaN:=by
 rintro⟨d,s⟩ ⟨⟨r,k,c,hl⟩,hs⟩;have c:d= .cptr (nX r k) 0:=c;subst c;simp[dA,du,nX,-fB',-eB'];intro l;refine⟨by omega,by omega,λv p=>?_⟩;refine ah (X:=List Int) [3,5] [] r.lb.length (λk z=>z.length=r.lb.length/\∀i,i<k->z[i]? =some (s.get i -1)) (λ_=>[]) (λz=>[(12, .row v bj 1 (z.map enc))]) (List.replicate r.lb.length 0) (by simp) ?_ ?_
 ·rintro j z q ⟨b,a⟩;have t:=ZN s (k:=j) (by omega);have hb:0<=s.get j/\s.get j<=1000000:=hs.2.2 j;have h:j<z.length:=by omega
  simp[q,t,h,-fB',-eB'];refine⟨by omega,by omega,by simp only[InR];omega,z.set j (s.get j -1),⟨by simp[b],λi hi=>?_⟩, .inl (by rw[qHA];rfl)⟩;by_cases e:j=i
  ·subst e;rw[qGM (by omega)]
  ·rw[qHP e];exact a i (by omega)
 ·rintro z ⟨b,a⟩;simp[-fB',-eB'];refine aL z (fA bj (by simp[ai])) λr' u e=>?_
  have e:D.cptr (nX r k) 0= .cptr (nX r' u) 0:=e;obtain rfl:=Iu e;refine qGo λi=>?_
  unfold WE;rw[qFU];by_cases hi:i<r.lb.length
  ·rw[a i hi,qHj hi];rfl
  ·rw[qF0 (by omega),qF0 (by simp;omega)];rfl
def FU(p:Pat):Bool:=decide (p.op=6) && decide (p.mx< 0) && decide (p.mn<=1)
abbrev qdv:Spc:=aG (aD a0) (λx=>∃p,vQ x.1 p) (enc (X:=Bool)) λx y=>∀p,vQ x.1 p->y=FU p
def qeU(x:D×Pat×St3):Prop:=(∃r k,x.1= .cptr (nX r k) 0/\r.lb.length<=3/\qqL r.c/\(x.2.1.lab≠mq->vw r.lb x.2.1.lab=true)/\(x.2.2.p<r.en->∃y,Kj r x.2.1 x.2.2=some y))/\qws x.2.2
def qaL(x:D×Pat×St3)(y:St3×Bool):Prop:=∀r k,x.1= .cptr (nX r k) 0->(y.2=true↔x.2.2.p<r.en/\Kj r x.2.1 x.2.2=some true)/\(y.2=true->y.1=KR r x.2.1 x.2.2)
abbrev qdx:Spc:=aG aH (qmx 21) (enc (X:=Bool)) (qsH 21)
def qmP(h1:S fp=It 21):ak rO qu S aH (qmx 21) (enc (X:=Bool)) (qsH 21):=by
 rintro⟨c,x,tok,lb,bd⟩ hp;simp[rO,qu,h1,hp,-fB',-eB']
def xn(p:Pat):enc p= .agg (enc p).cells:=by simp
def vF{d:D}{p q:Pat}(h1:vQ d p)(h2:vQ d q):p=q:=by
 obtain⟨cs,off,rfl,_,b⟩:=h1;obtain⟨cs',a,e,_,c⟩:=h2;cases e;exact aP (by rw[xn p,xn q,<-b,<-c])
theorem qmI:ak zR zd S (aD a0) (λx=>∃p,vQ x.1 p) (enc (X:=Bool)) λx y=>∀p,vQ x.1 p->y=FU p:=by
 rintro⟨d,⟨⟩⟩ ⟨p,cs,off,h,hl,hc⟩;have h:d= .cptr cs off:=h;subst h;have s:cs[off]? =some (.v (.int .i64 p.op)):=by
  have:=Bn hl hc (j:=0) (by decide);rw[qGS]at this;rw[this];simp
 have k:cs[off+10]? =some (.v (.int .i64 p.mn)):=by rw[Bn hl hc (j:=10) (by decide)];simp
 have l:cs[off+11]? =some (.v (.int .i64 p.mx)):=by rw[Bn hl hc (j:=11) (by decide)];simp
 have r:off+1<=cs.length:=by omega
 have a:off+10+1<=cs.length:=by omega
 have b:off+11+1<=cs.length:=by omega
 simp[zR,zd,s,k,l,r,a,b,-fB',-eB'];have hp:vQ (.cptr cs off) p:=⟨cs,off,rfl,hl,hc⟩
 refine⟨λh6=>⟨λhm q c=>?_,λhm q c=>?_⟩,λh6 q c=>?_⟩
 ·obtain rfl:=vF hp c;simp[FU,h6,hm]
 ·obtain rfl:=vF hp c;simp[FU,h6];omega
 ·obtain rfl:=vF hp c;simp[FU,h6]
abbrev qq0:Spc:=aG (aD (a2 Pat St3)) qeU (kZ (Y:=St3) (Z:=Bool)) qaL
def qoe{r:Rn}{b:B}(hl:r.lb.length<=3)(h:vw r.lb b=true):(fe r.lb λz=>decide (z=b))=0\/(fe r.lb λz=>decide (z=b))=1\/(fe r.lb λz=>decide (z=b))=2:=by
 have h1:=vJ (λz=>decide (z=b)) r.lb;have h2:=D6 (λz=>decide (z=b)) r.lb;have h3:decide (0<=fe r.lb λz=>decide (z=b))=true:=h1.trans h;have h4:=of_decide_eq_true h3;omega
theorem qqn(h1:S dN=qiu)(h2:S sV=qdx)(h3:S cY=OK):ak eI eu S (aD (a2 Pat St3)) qeU (kZ (Y:=St3) (Z:=Bool)) qaL:=by
 rintro⟨d,p,s⟩ ⟨⟨r,k,I,hl,hz,F,t⟩,hs⟩;have I:d= .cptr (nX r k) 0:=I;subst I;have hs:qws s:=hs;have u:TP (.cptr (nX r k) 0,s):=⟨⟨r,k,rfl,hl⟩,hs⟩
 have K:=hs.1;have L:=hs.2.1;have j:∀y:St3,(¬s.p<r.en\/Kj r p s=some false)->qaL (.cptr (nX r k) 0,p,s) (y,false):=λy h r' J e=>by
  have e:D.cptr (nX r k) 0= .cptr (nX r' J) 0:=e;obtain rfl:=Iu e;refine⟨⟨λh=>(by cases h),λh2=>?_⟩,λh=>(by cases h)⟩;rcases h with h|h
  ·exact absurd h2.1 h
  ·have h3:Kj r p s=some true:=h2.2;rw[h]at h3;cases h3
 have c:s.p<r.en->Kj r p s=some true->qaL (.cptr (nX r k) 0,p,s) (KR r p s,true):=λh4 h5 r' J e=>by
  have e:D.cptr (nX r k) 0= .cptr (nX r' J) 0:=e;obtain rfl:=Iu e;exact⟨⟨λ_=>⟨h4,h5⟩,λ_=>rfl⟩,λ_=>rfl⟩
 simp only[nX]at u j c;have w:∀(y:List Int),qaN (.cptr (nX r k) 0,s) y->y=WE r s:=λy h=>h r k rfl
 simp only[nX]at w;by_cases A:p.lab=mq
 ·have x:p.lab=⟨#[]⟩:=A;have l:KR r p s=⟨s.p+1,s.b0,s.b1,s.b2⟩:=by unfold KR;rw[if_pos A]
  rw[l]at c;simp[eI,eu,nX,h1,h2,h3,u,x,-fB',-eB'];refineλb=>⟨λh4 y C=>?_,λh4=>⟨⟨0,0,0,0⟩, .same _,j _ (.inl (by omega))⟩⟩
  obtain rfl:=w y C;obtain⟨z,q⟩:=t h4;refine⟨⟨hz,z,q⟩,λE a=>?_⟩;have a:Kj r p s=some E:=a;refine⟨λe=>⟨⟨0,0,0,0⟩, .same _,j _ (.inr (e ▸a))⟩,λe=>?_⟩;exact⟨by simp only[InR];omega,⟨s.p+1,s.b0,s.b1,s.b2⟩, .same _,c h4 (e ▸a)⟩
 ·have x:¬p.lab=⟨#[]⟩:=A;rcases qoe hl (F A)with hq|hq|hq
  ·have l:KR r p s=⟨s.p+1,s.p+1,s.b1,s.b2⟩:=by unfold KR;rw[if_neg A,hq];rfl
   rw[l]at c;simp[eI,eu,nX,h1,h2,h3,u,x,hq,-fB',-eB'];refineλb=>⟨λh4 y C=>?_,λh4=>⟨⟨0,0,0,0⟩, .same _,j _ (.inl (by omega))⟩⟩
   obtain rfl:=w y C;obtain⟨z,q⟩:=t h4;refine⟨⟨hz,z,q⟩,λE a=>?_⟩;have a:Kj r p s=some E:=a;refine⟨λe=>⟨⟨0,0,0,0⟩, .same _,j _ (.inr (e ▸a))⟩,λe=>?_⟩;exact⟨by simp only[InR];omega,⟨s.p+1,s.p+1,s.b1,s.b2⟩, .same _,c h4 (e ▸a)⟩
  ·have l:KR r p s=⟨s.p+1,s.b0,s.p+1,s.b2⟩:=by unfold KR;rw[if_neg A,hq];rfl
   rw[l]at c;simp[eI,eu,nX,h1,h2,h3,u,x,hq,-fB',-eB'];refineλb=>⟨λh4 y C=>?_,λh4=>⟨⟨0,0,0,0⟩, .same _,j _ (.inl (by omega))⟩⟩
   obtain rfl:=w y C;obtain⟨z,q⟩:=t h4;refine⟨⟨hz,z,q⟩,λE a=>?_⟩;have a:Kj r p s=some E:=a;refine⟨λe=>⟨⟨0,0,0,0⟩, .same _,j _ (.inr (e ▸a))⟩,λe=>?_⟩;exact⟨by simp only[InR];omega,⟨s.p+1,s.b0,s.p+1,s.b2⟩, .same _,c h4 (e ▸a)⟩
  ·have l:KR r p s=⟨s.p+1,s.b0,s.b1,s.p+1⟩:=by unfold KR;rw[if_neg A,hq];rfl
   rw[l]at c;simp[eI,eu,nX,h1,h2,h3,u,x,hq,-fB',-eB'];refineλb=>⟨λh4 y C=>?_,λh4=>⟨⟨0,0,0,0⟩, .same _,j _ (.inl (by omega))⟩⟩
   obtain rfl:=w y C;obtain⟨z,q⟩:=t h4;refine⟨⟨hz,z,q⟩,λE a=>?_⟩;have a:Kj r p s=some E:=a;refine⟨λe=>⟨⟨0,0,0,0⟩, .same _,j _ (.inr (e ▸a))⟩,λe=>?_⟩;exact⟨by simp only[InR];omega,⟨s.p+1,s.b0,s.b1,s.p+1⟩, .same _,c h4 (e ▸a)⟩
def R8(r:Rn)(p:Pat)(at_:Int)(x:Region):Bool:=decide (x.ty=p.reg) && decide ((if p.op=3 then x.e else x.b)=at_) && decide (r.bg<=x.b) && decide (x.e<=r.en)
def qhd(x:Region×Pat×Int×Rn×D):List D:=[enc x.1, .cptr (enc x.2.1).cells 0, .cptr [enc x.2.2.1] 0, .cptr [.cptr (nX x.2.2.2.1 x.2.2.2.2) 0] 0]
def qdh(z b:Region×Pat×Int×Rn×D)(h:qhd z=qhd b):z=b:=by
 obtain⟨a,p,i,r,k⟩:=z;obtain⟨l,c,q,r',s⟩:=b;unfold qhd at h;simp only[qGd,D.cptr.injEq,and_true]at h;obtain⟨h1,h2,h3,h4⟩:=h;have e:p=c:=aP (by rw[xn p,xn c,h2]);obtain⟨d,j⟩:=OU h4;rw[aP h1,e,aP h3,d,j]
noncomputable abbrev qEW:dP (Region×Pat×Int×Rn×D):=aX qhd qdh
noncomputable abbrev In:Spc:=aG qEW (λ_=>True) (enc (X:=Bool)) λx y=>y=R8 x.2.2.2.1 x.2.1 x.2.2.1 x.1
theorem qmL:ak br bq S qEW (λ_=>True) (enc (X:=Bool)) λx y=>y=R8 x.2.2.2.1 x.2.1 x.2.2.1 x.1:=by
 rintro⟨a,p,i,r,k⟩ -;rw[Fg];by_cases d:p.op=3
 ·by_cases c:a.ty=p.reg
  rotate_left
  ·simp[qhd,br,bq,R8,d,c,-fB',-eB']
  by_cases h:a.e=i
  rotate_left
  ·simp[qhd,br,bq,R8,d,c,h,-fB',-eB']
  by_cases j:r.bg<=a.b
  rotate_left
  ·simp[qhd,br,bq,R8,d,c,h,j,-fB',-eB']
  simp[qhd,br,bq,R8,d,c,h,j,-fB',-eB']
 ·by_cases c:a.ty=p.reg
  rotate_left
  ·simp[qhd,br,bq,R8,d,c,-fB',-eB']
  by_cases h:a.b=i
  rotate_left
  ·simp[qhd,br,bq,R8,d,c,h,-fB',-eB']
  simp[qhd,br,bq,R8,d,c,h,-fB',-eB'];exact⟨by intros;omega,by intros;omega⟩
abbrev qmf(x:D×Pat×Int):Prop:=qsO x.1
abbrev ql2(x:D×Pat×Int)(y:Bool):Prop:=∀r k,x.1= .cptr (nX r k) 0->y=qlN r x.2.1 x.2.2
abbrev qq1:Spc:=aG (aD (a2 Pat Int)) qmf (enc (X:=Bool)) ql2
theorem qqq(h0:S0 cv=In)(h1:S bQ=YP Region S0):ak nq mS S (aD (a2 Pat Int)) qmf (enc (X:=Bool)) ql2:=by
 rintro⟨d,p,i⟩ ⟨r,k,h,hl⟩;have h:d= .cptr (nX r k) 0:=h;subst h;have b:FunOn S0 (.clo cv [.cptr (enc p).cells 0, .cptr [enc i] 0, .cptr [.cptr (nX r k) 0] 0]) r.c.regs (R8 r p i):=
  wb (f:=λa=>(a,p,i,r,k)) h0 (λa _=>Hs qhd qdh (a,p,i,r,k)) (λ_ _=>trivial) (λa _ y j=>j)
 rw[show(enc p).cells=[enc p.op,enc p.cond.op,enc p.cond.name,enc p.cond.arg,enc p.cond.val,enc p.cond.lab,enc p.cond.fold,enc p.cond.kids,enc p.lab,enc p.reg,enc p.mn,enc p.mx,enc p.kids]by simp]at b;simp at b;simp[nq,mS,h1,-fB',-eB'];refine⟨⟨_,b⟩,λy j r' l e=>?_⟩;have e:D.cptr (nX r k) 0= .cptr (nX r' l) 0:=e;obtain rfl:=Iu e;rw[j _ b];rfl
end
section
open Go.Proofs
def rD:CC:=gq Tryz.f157 [] { ke:=[0,990] } _
def qh:List aj:=[.tmp 6]
def IP:FO mD [] rD qh 29:=fo
def ph:CC:=gq Tryz.f94 [5,3045000,2010010] { cu:=[6,15],ke:=[0,990] } _
def ov:List aj:=[.tmp 6]
def GK:FO dM [5,3045000,2010010] ph ov 121:=fo
def np:CC:=gq Tryz.f158 [5] { bx:=[53],cu:=[3,7,13,17],ke:=[0,990] } _
def mR:List aj:=[.tmp 6]
def Ft:FO oP [5] np mR 109:=fo
def rG:CC:=gq Tryz.f220 [] { bx:=[0] } _
def qk:List aj:=[]
def IS:FO sS [] rG qk 16:=fo
open Cod (enc dec)
variable {S S0:Nat->Spc}
structure qp6 (r:Rn) (q:Pat):Prop where
 nd:xY q
 num:lF q=true
 lab:q.lab≠mq->vw r.lb q.lab=true
 tok:q.op=1->∀s,qaY r.en s->s.p<r.en->∃y,Kj r q s=some y
structure qo8 (r:Rn):Prop where
 l3:r.lb.length<=3
 sz:qqL r.c
 en:r.en<=100000
def EQ(r:Rn)(es:List D):Prop:=∀e∈es,∃d p s l,vQ d p/\e= .tup [.agg [d, .v (.int .i64 s.p), .v (.int .i64 s.b0), .v (.int .i64 s.b1), .v (.int .i64 s.b2)], .mp (aW l)]/\l.Nodup/\∀t,t∈l↔pM r p s t
def qrW(l:List St3):D:= .mp (aW l)
@[simp] theorem qEu(l:List St3):qrW l= .mp (aW l):=rfl
def qeV(n:Nat)(r:Rn)(es:List D)(x:D×St3):Prop:=qo8 r/\EQ r es/\qaY r.en x.2/\∃p,vQ x.1 p/\cg p<=n/\tt (qp6 r) p
def qeR(r:Rn)(x:D×St3)(es:List D)(y:List St3):Prop:=EQ r es/\y.Nodup/\∀p,vQ x.1 p->∀t,t∈y↔pM r p x.2 t
abbrev Su(n:Nat):Spc:=quy (aD (a1 St3)) qrW (qeV n) qeR
def qmb(n:Nat)(r:Rn)(es:List D)(x:D×D×Unit):Prop:=qo8 r/\EQ r es/\(∃l:List St3,x.2.1= .mp (aW l)/\∀s∈l,qaY r.en s)/\∃p,vQ x.1 p/\cg p<=n/\tt (qp6 r) p
def qlZ(r:Rn)(x:D×D×Unit)(es:List D)(y:List St3):Prop:=EQ r es/\y.Nodup/\∀(p:Pat) (l:List St3),vQ x.1 p->x.2.1= .mp (aW l)->∀t,t∈y↔ ∃s∈l,pM r p s t
abbrev qbQ(n:Nat):Spc:=quy (aD (aD a0)) qrW (qmb n) qlZ
theorem qqs(n:Nat)(h1:S dM=Su n):WH rD qh S (aD (aD a0)) qrW (qmb n) qlZ:=by
 rintro b r v es ⟨d,dl,⟨⟩⟩ ⟨hr,hm,⟨l,k,hl⟩,p,hp,O,Q⟩;have k:dl= .mp (aW l):=k;subst k;obtain⟨cs,off,U,I,J⟩:=hp;have U:d= .cptr cs off:=U;subst U;have hp:vQ (.cptr cs off) p:=⟨cs,off,rfl,I,J⟩
 simp[rD,qh,IA,-fB',-eB'];intro v1 b1;refine nD (X:=Value×List D×List St3×List D×List St3) [0,1,7,12] [] (λx=>EQ r x.2.1/\x.2.2.1.Nodup/\(∀s∈x.2.2.2.2,s∈l)/\(∀t∈x.2.2.1,∃s∈l,pM r p s t)/\∀s∈l,s∈x.2.2.2.2\/ ∀t,pM r p s t->t∈x.2.2.1)
  (λ_=>[]) (λx=>[(0, .box b (nX r (.own 990 x.1))),(990, .mrow x.1 x.2.1),(10, .mrow v1 (aW x.2.2.1)),(12, .miter b1 x.2.2.2.1 (aW x.2.2.2.2))]) (λx=>x.2.2.2.2.length) (v,es, [], [],l)
  ⟨hm,qG7,λ_ h=>h,λ_ h=>(by cases h),λs hs=> .inl hs⟩ (by simp) (by simp[wm]) ?_
 rintro⟨v',es',out,cur,left⟩ ⟨q,u,w,y,A⟩;simp only at q u w y A;simp[-fB',-eB'];refine⟨λh0=>?_,λl1 e l2 W=>?_⟩
 ·have C:=gz h0;subst C;refine Tt v' es' out (AI (by simp[ai])) (by simp[ai]) (by simp[ai]) ⟨q,u,λp' l' Y E t=>?_⟩;obtain rfl:=vF hp Y;have E:D.mp (aW l)= .mp (aW l'):=E;obtain rfl:=Ox (D.mp.inj E);exact⟨y t,λ⟨s,hs,hD⟩=>(A s hs).elim (λh=>by cases h) λh=>h t hD⟩
 ·obtain⟨a,s,c,rfl,rfl,rfl,rfl⟩:=iX W;have hs:s∈l:=w s (by simp);have Z:qeV n r es' (.cptr cs off,s):=⟨hr,q,hl s hs,p,hp,O,Q⟩
  simp[h1,Gp,Z,IA,-fB',-eB'];intro v2 es2 N hQ b2;have K:=hQ.2.2 p hp;refine nD (X:=List St3×List D×List St3) [0,1,7,12,21] [0,990,12] (λx=>x.1.Nodup/\(∀t∈x.2.2,t∈N)/\(∀t∈out,t∈x.1)/\(∀t∈x.1,t∈out\/t∈N)/\∀t∈N,t∈x.2.2\/t∈x.1)
   (λ_=>[]) (λx=>[(10, .mrow v1 (aW x.1)),(21, .miter b2 x.2.1 (aW x.2.2))]) (λx=>x.2.2.length) (out, [],N)
   ⟨u,λ_ h=>h,λ_ h=>h,λ_ h=> .inl h,λ_ h=> .inl h⟩ (by simp) (by simp) ?_
  rintro⟨j,cur2,left2⟩ ⟨g1,g2,g3,g4,g5⟩;simp only at g1 g2 g3 g4 g5;simp[-fB',-eB'];refine⟨λh0=>?_,λl1 e l2 L=>?_⟩
  ·have C:=gz h0;subst C;refine⟨v2,es2,j,_,a++c,⟨hQ.1,g1,λx h=>w x (by simp only[qFL,qFP]at h ⊢;rcases h with h|h<;>simp[h]),λt M=>?_,λx F=>?_⟩,⟨.inl rfl, .inl ⟨rfl,rfl⟩, .inl rfl, .inl ⟨rfl,(jG a c).symm⟩⟩,by simp⟩
   ·rcases g4 t M with h|h
    ·exact y t h
    ·exact⟨s,hs,(K t).1 h⟩
   ·rcases A x F with h|h
    ·rcases qFL.1 h with h|h
     ·exact .inl (by simp[h])
     ·rcases qFP.1 h with rfl|h
      ·exact .inr λt M=>(g5 t ((K t).2 M)).elim (λh=>by cases h) id
      ·exact .inl (by simp[h])
    ·exact .inr λt M=>g3 t (h t M)
  ·obtain⟨a2,t,c2,rfl,rfl,rfl,rfl⟩:=iX L;simp[-fB',-eB'];refine⟨ye t j,_,a2++c2,⟨BJ g1,λx h=>g2 x (by simp only[qFL,qFP]at h ⊢;rcases h with h|h<;>simp[h]),λx F=>fU.2 (.inr (g3 x F)),λx F=>?_,λx F=>?_⟩,⟨.inl rfl, .inl ⟨rfl,(jG a2 c2).symm⟩⟩,by simp⟩
   ·rcases fU.1 F with rfl|h
    ·exact .inr (g2 x (by simp))
    ·exact g4 x h
   ·rcases g5 x F with h|h
    ·rcases qFL.1 h with h|h
     ·exact .inl (by simp[h])
     ·rcases qFP.1 h with rfl|h
      ·exact .inr (fU.2 (.inl rfl))
      ·exact .inl (by simp[h])
    ·exact .inr (fU.2 (.inr h))
end
section
open Go.Proofs
def qet{r:Rn}{p:Pat}(h:p.op=1)(s t:St3):pM r p s t↔s.p<r.en/\Kj r p s=some true/\t=KR r p s:=by
 obtain⟨op,c,l,rg,mn,mx,ks⟩:=p;rw[pM];dsimp only;rw[if_pos h]
def Qf{r:Rn}{p:Pat}(h:p.op=2\/p.op=3)(s t:St3):pM r p s t↔qlN r p s.p=true/\t=s:=by
 obtain⟨op,c,l,rg,mn,mx,ks⟩:=p;have h:op=2\/op=3:=h;rw[pM];dsimp only;rw[if_neg (by omega),if_pos h]
def qkW{r:Rn}{p:Pat}(h:p.op=4)(s t:St3):pM r p s t↔zZ r p.kids s t:=by
 obtain⟨op,c,l,rg,mn,mx,ks⟩:=p;have h:op=4:=h;rw[pM];dsimp only;rw[if_neg (by omega),if_neg (by omega),if_pos h]
def qpR{r:Rn}{p:Pat}(h:p.op=5)(s t:St3):pM r p s t↔Ct r p.kids s t:=by
 obtain⟨op,c,l,rg,mn,mx,ks⟩:=p;have h:op=5:=h;rw[pM];dsimp only;rw[if_neg (by omega),if_neg (by omega),if_neg (by omega),if_pos h]
def qes{r:Rn}{p k:Pat}{ks:List Pat}(h:p.op=6)(hk:p.kids=k::ks)(s t:St3):pM r p s t↔EP (pM r k) p.mn p.mx s t:=by
 obtain⟨op,c,l,rg,mn,mx,kids⟩:=p;have h:op=6:=h;have hk:kids=k::ks:=hk;subst hk;rw[pM];dsimp only;rw[if_neg (by omega),if_neg (by omega),if_neg (by omega),if_neg (by omega),QS]
def xp(r:Rn)(s t:St3):zZ r [] s t↔s=t:=by rw[zZ]
def pF(r:Rn)(k:Pat)(ks:List Pat)(s t:St3):zZ r (k::ks) s t↔ ∃u,pM r k s u/\zZ r ks u t:=by rw[zZ]
def Js(r:Rn)(s t:St3):Ct r [] s t↔False:=by rw[Ct]
def wg(r:Rn)(k:Pat)(ks:List Pat)(s t:St3):Ct r (k::ks) s t↔pM r k s t\/Ct r ks s t:=by rw[Ct]
def Ld{r:Rn}{k:Pat} :∀{ks:List Pat} {s t:St3},zZ r (ks++ [k]) s t↔ ∃u,zZ r ks s u/\pM r k u t
 | [],s,t=>by
   rw[qGE,pF];constructor
   ·rintro⟨u,h1,h2⟩;exact⟨s,(xp ..).2 rfl,(xp ..).1 h2 ▸h1⟩
   ·rintro⟨u,h1,h2⟩;exact⟨t,(xp ..).1 h1 ▸h2,(xp ..).2 rfl⟩
 | a::ks,s,t=>by
   rw[qGp,pF];constructor
   ·rintro⟨u,h1,h2⟩;obtain⟨v,h3,h4⟩:=Ld.1 h2;exact⟨v,(pF ..).2 ⟨u,h1,h3⟩,h4⟩
   ·rintro⟨v,h3,h4⟩;obtain⟨u,h1,h2⟩:=(pF ..).1 h3;exact⟨u,h1,Ld.2 ⟨v,h2,h4⟩⟩
def Tz{r:Rn}{k:Pat} :∀{ks:List Pat} {s t:St3},Ct r (ks++ [k]) s t↔Ct r ks s t\/pM r k s t
 | [],s,t=>by rw[qGE,wg,Js];simp
 |a::ks,s,t=>by rw[qGp,wg,wg,Tz,or_assoc]
def O4{a:Type}{R:a->a->Prop}{n:Nat}{s t:a} :Pow R (n+1) s t↔ ∃u,Pow R n s u/\R u t:=by
 induction n generalizing s with
 | zero=>
   constructor
   ·rintro⟨u,h1,h2⟩;cases h2;exact⟨s,rfl,h1⟩
   ·rintro⟨u,h1,h2⟩;cases h1;exact⟨t,h2,rfl⟩
 | succ n b=>
   constructor
   ·rintro⟨u,h1,h2⟩;obtain⟨v,h3,h4⟩:=b.1 h2;exact⟨v,⟨u,h1,h3⟩,h4⟩
   ·rintro⟨v,⟨u,h1,h3⟩,h4⟩;exact⟨u,h1,b.2 ⟨v,h3,h4⟩⟩
def Ku{a:Type}{R:a->a->Prop}{m n:Nat}{s t:a}(h:Pow R (m+n) s t):∃u,Pow R m s u/\Pow R n u t:=by
 induction m generalizing s with
 |zero=>exact⟨s,rfl,by rwa [qGs]at h⟩
 | succ m b=>
   rw[Nat.succ_add]at h;obtain⟨v,h1,h2⟩:=h;obtain⟨u,h3,h4⟩:=b h2;exact⟨u,⟨v,h1,h3⟩,h4⟩
def LB(R:St3->St3->Prop)(base:List St3)(k:Nat)(t:St3):Prop:=∃u∈base,Pow (Ni R) k u t
structure qtP (R:St3->St3->Prop) (base:List St3) (j:Nat) (out new:List St3):Prop where
 o:∀t,t∈out↔ ∃k,k<=j/\LB R base k t
 f:∀t∈new,LB R base j t
 n:∀t,LB R base j t->t∈new\/ ∃k,k<j/\LB R base k t
def qlu(R:St3->St3->Prop)(base:List St3):qtP R base 0 base base:=by
 have h0:∀t,LB R base 0 t↔t∈base:=λt=>⟨λ⟨u,h1,h2⟩=>by cases h2;exact h1,λh=>⟨t,h,rfl⟩⟩
 refine⟨λt=>⟨λh=>⟨0,qFM _,(h0 t).2 h⟩,?_⟩,λt h=>(h0 t).2 h,λt h=> .inl ((h0 t).1 h)⟩;rintro⟨k,hk,h⟩;obtain rfl:k=0:=by omega
 exact(h0 t).1 h
def OW{R:St3->St3->Prop}{base:List St3}{k:Nat}{t:St3} :LB R base (k+1) t↔ ∃a,LB R base k a/\Ni R a t:=by
 constructor
 ·rintro⟨u,h1,h2⟩;obtain⟨a,h3,h4⟩:=O4.1 h2;exact⟨a,⟨u,h1,h3⟩,h4⟩
 ·rintro⟨a,⟨u,h1,h3⟩,h4⟩;exact⟨u,h1,O4.2 ⟨a,h3,h4⟩⟩
theorem qlv{R:St3->St3->Prop}{base out new d b:List St3}{j:Nat}(h:qtP R base j out new)(h1:∀t,t∈b↔t∉out/\∃a∈new,Ni R a t)(h2:∀t,t∈d↔t∈out\/t∈b):qtP R base (j+1) d b:=by
 have key:∀t,LB R base (j+1) t->t∈b\/t∈out:=λt p=>by
  obtain⟨a,q,hs⟩:=OW.1 p;by_cases ho:t∈out
  ·exact .inr ho
  ·rcases h.n a q with hn|⟨k,hk,l⟩
   ·exact .inl ((h1 t).2 ⟨ho,a,hn,hs⟩)
   ·exact .inr ((h.o t).2 ⟨k+1,by omega,OW.2 ⟨a,l,hs⟩⟩)
 have c:∀t∈b,LB R base (j+1) t:=λt p=>by
  obtain⟨_,a,q,hs⟩:=(h1 t).1 p;exact OW.2 ⟨a,h.f a q,hs⟩
 refine⟨λt=>?_,c,λt p=>?_⟩
 ·rw[h2];constructor
  ·rintro(ho|hn)
   ·obtain⟨k,hk,l⟩:=(h.o t).1 ho;exact⟨k,by omega,l⟩
   ·exact⟨j+1,qFM _,c t hn⟩
  ·rintro⟨k,hk,l⟩;by_cases e:k=j+1
   ·subst e;exact(key t l).symm
   ·exact .inl ((h.o t).2 ⟨k,by omega,l⟩)
 ·rcases key t p with hn|ho
  ·exact .inl hn
  ·obtain⟨k,hk,l⟩:=(h.o t).1 ho;exact .inr ⟨k,by omega,l⟩
def qlw{R:St3->St3->Prop}{base out:List St3}{j:Nat}(h:qtP R base j out [])(t:St3):t∈out↔ ∃k,LB R base k t:=by
 constructor
 ·intro c;obtain⟨k,_,b⟩:=(h.o t).1 c;exact⟨k,b⟩
 ·rintro⟨k,b⟩
  induction k using Nat.strongRecOn with
  | _ k d=>
    by_cases hk:k<=j
    ·exact(h.o t).2 ⟨k,hk,b⟩
    ·obtain⟨u,l,hp⟩:=b;obtain⟨a,h1,h2⟩:=Ku (m:=j) (n:=k -j) (by rwa [show j+ (k -j)=k by omega]);rcases h.n a ⟨u,l,h1⟩with hn|⟨i,hi,v,p,h3⟩
     ·cases hn
     ·exact d (i+ (k -j)) (by omega) ⟨v,p,h3.add h2⟩
def qi2{R:St3->St3->Prop}{base:List St3}{mn mx:Int}{s:St3}(hb:∀u,u∈base↔Pow R mn.toNat s u)(t:St3):EP R mn mx s t↔ ∃k:Nat,(mx< 0\/mn+k<=mx)/\LB R base k t:=by
 constructor
 ·rintro⟨u,h1,k,h2,h3⟩;exact⟨k,h2,u,(hb u).2 h1,h3⟩
 ·rintro⟨k,h2,u,h1,h3⟩;exact⟨u,(hb u).1 h1,k,h2,h3⟩
open Cod (enc dec)
variable {S S0:Nat->Spc}
def ql9(n:Nat)(r:Rn)(es:List D)(x:D×St3):Prop:=qo8 r/\EQ r es/\qaY r.en x.2/\∃p,vQ x.1 p/\p.op=6/\cg p<=n+1/\tt (qp6 r) p
abbrev qpv(n:Nat):Spc:=quy (aD (a1 St3)) qrW (ql9 n) qeR
abbrev b_mtok:Spc:=qpV (a2 Pat St3) qeU (kZ (Y:=St3) (Z:=Bool)) qaL
abbrev b_manc:Spc:=qpV (a2 Pat Int) qmf (enc (X:=Bool)) ql2
theorem qgj{d l:D}{s k:St3}(h:Mi (.agg [d, .v (.int .i64 s.p), .v (.int .i64 s.b0), .v (.int .i64 s.b1), .v (.int .i64 s.b2)]) (.agg [l, .v (.int .i64 k.p), .v (.int .i64 k.b0), .v (.int .i64 k.b1), .v (.int .i64 k.b2)])){p C:Pat}(hp:vQ d p)(q:vQ l C):p=C/\s=k:=by
 obtain⟨tp,I,w,x,h1,h2⟩:=h;obtain⟨xs,rfl,hl,hc⟩:=h1.inv_agg;obtain⟨E,he,F,j⟩:=h2.inv_agg;have r:xs=E:=by simpa using he
 subst r
 match xs,hl with
 | [J,K,L,M,N],_=>
   have a0:=(hc 0 _ _ rfl rfl).2;have b0:=(j 0 _ _ rfl rfl).2;have t:=(hc 1 _ _ rfl rfl).2.inv_v.symm.trans (j 1 _ _ rfl rfl).2.inv_v;have u:=(hc 2 _ _ rfl rfl).2.inv_v.symm.trans (j 2 _ _ rfl rfl).2.inv_v;have y:=(hc 3 _ _ rfl rfl).2.inv_v.symm.trans (j 3 _ _ rfl rfl).2.inv_v;have A:=(hc 4 _ _ rfl rfl).2.inv_v.symm.trans (j 4 _ _ rfl rfl).2.inv_v;simp only[qH6,true_and]at t u y A;obtain⟨a,b,c,d⟩:=s;obtain⟨O,b',c',l⟩:=k;simp only at t u y A;subst t;subst u;subst y;subst A;exact⟨qfT hp q a0 b0,rfl⟩
abbrev qDw:List KK:=[.ptr, .int .i64, .int .i64, .int .i64, .int .i64]
def Ve{d:D}{p:Pat}(h:vQ d p):qky .ptr d=true:=by
 obtain⟨cs,off,rfl,h1,_⟩:=h;show decide (cs.length≠1)=true;rw[decide_eq_true_iff];omega
def Zh{r:Rn}{es:List D}(h:EQ r es):es.all (Wc true qDw)=true:=by
 rw[qFN];intro e he;obtain⟨d,p,s,l,hp,rfl,_⟩:=h e he;have:=Ve hp;simp[Wc,M7,rR,qcz,this];exact⟨rfl,rfl,rfl,rfl⟩
def qgl{r:Rn}{es:List D}{d:D}{p:Pat}{s:St3}{K:D->Prop}(h:EQ r es)(hp:vQ d p)(h1:∀l:List St3,l.Nodup->(∀t,t∈l↔pM r p s t)->K (.tup [.mp (aW l), .v (.bool true)]))(h2:K (.tup [.v (.map none), .v (.bool false)])):
 zr true false true qDw [.map none] (.agg [d, .v (.int .i64 s.p), .v (.int .i64 s.b0), .v (.int .i64 s.b1), .v (.int .i64 s.b2)]) es K:=by
 refine⟨Zh h,?_,λc v hm b=>?_,λ_=>h2⟩
 ·have:=Ve hp;simp[M7,rR,qcz,this];exact⟨rfl,rfl,rfl,rfl⟩
 ·obtain⟨j,k,q,l,a,e,hn,hl⟩:=h _ hm;simp only[D.tup.injEq,qGd,and_true]at e;obtain⟨rfl,rfl⟩:=e;obtain⟨rfl,rfl⟩:=qgj b hp a;exact h1 l hn hl
def qhE{r:Rn}{es:List D}{d:D}{p:Pat}{s:St3}{l:List St3}{K:List D->Prop}(h:EQ r es)(hp:vQ d p)(hn:l.Nodup)(hl:∀t,t∈l↔pM r p s t)(h1:∀es',EQ r es'->K es'):
 Di true qDw (.agg [d, .v (.int .i64 s.p), .v (.int .i64 s.b0), .v (.int .i64 s.b1), .v (.int .i64 s.b2)]) (.mp (aW l)) es K:=by
 refine⟨Zh h,?_,λa b v' c e j=>h1 _ λx hx=>?_,λ_=>h1 _ λx hx=>?_⟩
 ·have:=Ve hp;simp[M7,rR,qcz,this];exact⟨rfl,rfl,rfl,rfl⟩
 ·rcases qFL.1 hx with hx|hx
  ·exact h x (by rw[e];simp[hx])
  ·rcases qFP.1 hx with rfl|hx
   ·exact⟨d,p,s,l,hp,rfl,hn,hl⟩
   ·exact h x (by rw[e];simp[hx])
 ·rcases qFL.1 hx with hx|hx
  ·exact h x hx
  ·simp at hx;subst hx;exact⟨d,p,s,l,hp,rfl,hn,hl⟩
def SM{cs:List D}{off:Nat}{p:Pat}(hl:off+13<=cs.length)(hc:(cs.drop off).take 13=(enc p).cells):
 cs[off]? =some (.v (.int .i64 p.op))/\cs[off+10]? =some (.v (.int .i64 p.mn))/\cs[off+11]? =some (.v (.int .i64 p.mx))/\cs[off+12]? =some (.list 13 (p.kids.map enc)):=by
 refine⟨?_,?_,?_,?_⟩
 ·have:=Bn hl hc (j:=0) (by decide);rw[qGS]at this;rw[this];simp
 ·rw[Bn hl hc (j:=10) (by decide)];simp
 ·rw[Bn hl hc (j:=11) (by decide)];simp
 ·rw[Bn hl hc (j:=12) (by decide)];simp
def nG(q:Pat):vQ (.cptr [.v (.int .i64 q.op), .v (.int .i64 q.cond.op), .v (.string q.cond.name), .v (.string q.cond.arg), .v (.string q.cond.val), .v (.string q.cond.lab), .v (.bool q.cond.fold), .list 7 (q.cond.kids.map enc), .v (.string q.lab), .v (.string q.reg), .v (.int .i64 q.mn), .v (.int .i64 q.mx), .list 13 (q.kids.map enc)] 0) q:=
 ⟨_,_,rfl,qFM _,by simp⟩
theorem qmG(n:Nat)(h1:S kS=b_mtok)(h2:S jq=b_manc)(h3:S mD=qbQ n)(h4:S dM=Su n)(h5:S oP=qpv n):WH ph ov S (aD (a1 St3)) qrW (qeV (n+1)) qeR:=by
 rintro b r v es ⟨d,s⟩ ⟨Y,hm,hs,p,hp,hpn,I⟩;have hp':=hp;obtain⟨cs,off,hd,E,Q⟩:=hp';have hd:d= .cptr cs off:=hd;subst hd;have hp:vQ (.cptr cs off) p:=hp;obtain⟨Z,c10,c11,N⟩:=SM E Q;simp[ph,ov,IA,-fB',-eB'];refine qgl hm hp (λl hn hl=>?_) ?_
 ·simp[-fB',-eB'];exact Tt v es l (.same _) (by simp[ai]) (by simp[ai]) ⟨hm,hn,λp' J=>by obtain rfl:=vF hp J;exact hl⟩
 simp[-fB',-eB'];intro v1;refine gc (X:=Value×List D×List St3) [0,1,5] [] [28] [] (λx=>EQ r x.2.1/\x.2.2.Nodup/\∀t,t∈x.2.2↔pM r p s t) (λx=>[(9, .mp (aW x.2.2))]) (λx=>[(0, .box b (nX r (.own 990 x.1))),(990, .mrow x.1 x.2.1)]) [0,990] (λ_=>rfl) (by decide) ?_ ?_
 ·have hnd:=(py I).nd;have hops:p.op=1\/p.op=2\/p.op=3\/p.op=4\/p.op=5\/p.op=6:=by
   rcases hnd with h|h|h|h
   ·exact .inl h.1
   ·rcases h.1 with h|h
    ·exact .inr (.inl h)
    ·exact .inr (.inr (.inl h))
   ·rcases h.1 with h|h
    ·exact .inr (.inr (.inr (.inl h)))
    ·exact .inr (.inr (.inr (.inr (.inl h))))
   ·exact .inr (.inr (.inr (.inr (.inr h.1))))
  have A:off+1<=cs.length:=by omega
  have F:off+12+1<=cs.length:=by omega
  have hdp:dec (X:=Pat) (.agg ((cs.drop off).take 13))=some p:=by rw[Q,<-xn,Cod.dec_enc]
  have hs:qaY r.en s:=hs;have hen:=Y.en;have hOk:qws s:=⟨hs.1,by have:=hs.2.1;omega,λi=>⟨(hs.2.2 i).1,by have:=(hs.2.2 i).2;omega⟩⟩
  have hRn:∀k,qsO (.cptr (nX r k) 0):=λk=>⟨r,k,rfl,Y.l3⟩
  rcases hops with e|e|e|e|e|e
  all_goals rw[e]at Z
  ·have hPt:qeU (.cptr (nX r (.own 990 v)) 0,p,s):=⟨⟨r,_,rfl,Y.l3,Y.sz,(py I).lab,(py I).tok e s hs⟩,hOk⟩
   simp[Z,h1,YU,A,E,hdp,hPt,-fB',-eB'];intro a y C b2;obtain⟨U,q2⟩:=C r _ rfl;refine⟨λK=>?_,λK=>?_⟩
   ·subst K;obtain⟨q3,q4⟩:=U.1 rfl;have q5:a=KR r p s:=q2 rfl;subst q5;exact⟨v,es, [KR r p s],⟨hm,by simp,λt=>by rw[qet e];simp[q3,q4]⟩,AI (by simp[Mb,ai]), .inl (.inl rfl), .inl (.inl rfl)⟩
   ·subst K;refine⟨v,es, [],⟨hm,by simp,λt=>?_⟩,AI (by simp[Mb,ai,wm]), .inl (.inl rfl), .inl (.inl rfl)⟩;rw[qet e];constructor
    ·intro h;cases h
    ·rintro⟨q3,q4,_⟩;cases U.2 ⟨q3,q4⟩
  ·simp[Z,h2,A,E,hdp,hRn,-fB',-eB'];intro y C;obtain U:y=qlN r p s.p:=C r _ rfl;refine⟨λK=>?_,λK=>?_⟩
   ·exact⟨v,es, [s],⟨hm,by simp,λt=>by rw[Qf (.inl e),<-U,K];simp⟩,AI (by simp[Mb,ai]), .inl (.inl rfl), .inl (.inl rfl)⟩
   ·exact⟨v,es, [],⟨hm,by simp,λt=>by rw[Qf (.inl e),<-U,K];simp⟩,AI (by simp[Mb,ai,wm]), .inl (.inl rfl), .inl (.inl rfl)⟩
  ·simp[Z,h2,A,E,hdp,hRn,-fB',-eB'];intro y C;obtain U:y=qlN r p s.p:=C r _ rfl;refine⟨λK=>?_,λK=>?_⟩
   ·exact⟨v,es, [s],⟨hm,by simp,λt=>by rw[Qf (.inr e),<-U,K];simp⟩,AI (by simp[Mb,ai]), .inl (.inl rfl), .inl (.inl rfl)⟩
   ·exact⟨v,es, [],⟨hm,by simp,λt=>by rw[Qf (.inr e),<-U,K];simp⟩,AI (by simp[Mb,ai,wm]), .inl (.inl rfl), .inl (.inl rfl)⟩
  ·simp[Z,A,-fB',-eB'];refine gc (X:=Unit) [0,1,5] [0,990] [28] [] (λ_=>True) (λ_=>[(9, .mp (aW [s]))]) (λ_=>[]) [] (λ_=>rfl) (by decide) ?_ ?_
   ·simp[-fB',-eB'];exact AI (by simp[Mb,ai])
   rintro⟨⟩ -;simp[N,A,F,-fB',-eB'];intro hkl;refine Dg (X:=Value×List D×List St3) [0,1,5] [] p.kids.length (λk x=>EQ r x.2.1/\x.2.2.Nodup/\∀t,t∈x.2.2↔zZ r (p.kids.take k) s t) (λx=>[(9, .mp (aW x.2.2))]) (λx=>[(0, .box b (nX r (.own 990 x.1))),(990, .mrow x.1 x.2.1)]) (v,es, [s]) (by simp) (by simp) (by omega) (by simp) (by simp)
    ⟨hm,by simp,λt=>by rw[qHq,xp];simp[eq_comm]⟩ (by simp) (by simp) ?_ ?_
   ·rintro k ⟨O,es2,l⟩ hk ⟨c,w,j⟩;simp only at c w j;obtain⟨q,hq⟩:∃q,p.kids[k]? =some q:=⟨_,qFH hk⟩
    obtain⟨_,hgq⟩:=qFG.1 hq;have L:q∈p.kids:=qFK hq;simp[hk,hgq,N,A,F,h3,Gp,IA,-fB',-eB'];refine⟨⟨Y,c,⟨l,rfl,λt ht=>VN r _ _ _ ((j t).1 ht) hs⟩,q,nG q,by have:=fT L;omega,wM I L⟩,λv3 M ys C=>⟨v3,M,ys,⟨C.1,C.2.1,λt=>?_⟩,rfl, .inl rfl, .inl ⟨rfl,rfl⟩⟩⟩;rw[av hq,Ld,C.2.2 q l (nG q) rfl t];exact⟨λ⟨u,h1,h2⟩=>⟨u,(j u).1 h1,h2⟩,λ⟨u,h1,h2⟩=>⟨u,(j u).2 h1,h2⟩⟩
   ·rintro⟨O,es2,l⟩ ⟨c,w,j⟩;simp only at c w j;simp[-fB',-eB'];exact⟨O,es2,l,⟨c,w,λt=>by rw[qkW e,j,qFY]⟩, .same _, .inl (.inl rfl), .inl (.inl rfl)⟩
  ·simp[Z,N,A,F,-fB',-eB'];intro hkl;refine Dg (X:=Value×List D×List St3) [0,1,5,9] [] p.kids.length (λk x=>EQ r x.2.1/\x.2.2.Nodup/\∀t,t∈x.2.2↔Ct r (p.kids.take k) s t) (λx=>[]) (λx=>[(0, .box b (nX r (.own 990 x.1))),(990, .mrow x.1 x.2.1),(28, .mrow v1 (aW x.2.2))]) (v,es, []) (by simp) (by simp) (by omega) (by simp) (by simp)
    ⟨hm,by simp,λt=>by rw[qHq,Js];simp⟩ (by simp) (by simp[wm]) ?_ ?_
   ·rintro k ⟨O,es2,l⟩ hk ⟨c,w,j⟩;simp only at c w j;obtain⟨q,hq⟩:∃q,p.kids[k]? =some q:=⟨_,qFH hk⟩
    obtain⟨_,hgq⟩:=qFG.1 hq;have L:q∈p.kids:=qFK hq;simp[hk,hgq,N,A,F,h4,Gp,IA,-fB',-eB'];refine⟨⟨Y,c,hs,q,nG q,by have:=fT L;omega,wM I L⟩,λv3 M ys C b2=>?_⟩;have hys:=C.2.2 q (nG q);refine nD (X:=List St3×List D×List St3) [0,1,5,9,91,92,104] [0,990] (λx=>x.1.Nodup/\(∀t∈x.2.2,t∈ys)/\(∀t∈l,t∈x.1)/\(∀t∈x.1,t∈l\/t∈ys)/\∀t∈ys,t∈x.2.2\/t∈x.1)
     (λ_=>[]) (λx=>[(28, .mrow v1 (aW x.1)),(104, .miter b2 x.2.1 (aW x.2.2))]) (λx=>x.2.2.length) (l, [],ys)
     ⟨w,λ_ h=>h,λ_ h=>h,λ_ h=> .inl h,λ_ h=> .inl h⟩ (by simp) (by simp) ?_
    rintro⟨W,cur2,left2⟩ ⟨g1,g2,g3,g4,g5⟩;simp only at g1 g2 g3 g4 g5;simp[-fB',-eB'];refine⟨λh0=>?_,λl1 x l2 hsp2=>?_⟩
    ·have hlz:=gz h0;subst hlz;refine⟨v3,M,W,⟨C.1,g1,λt=>?_⟩, .inl rfl, .inl ⟨rfl,rfl⟩, .inl rfl⟩;rw[av hq,Tz,<-j,<-hys];exact⟨g4 t,λh=>h.elim (g3 t) λh=>(g5 t h).elim (λh=>by cases h) id⟩
    ·obtain⟨a2,t,c2,rfl,rfl,rfl,rfl⟩:=iX hsp2;simp[-fB',-eB'];refine⟨ye t W,_,a2++c2,⟨BJ g1,λx h=>g2 x (by simp only[qFL,qFP]at h ⊢;rcases h with h|h<;>simp[h]),λx hx=>fU.2 (.inr (g3 x hx)),λx hx=>?_,λx hx=>?_⟩,⟨.inl rfl, .inl ⟨rfl,(jG a2 c2).symm⟩⟩,by simp⟩
     ·rcases fU.1 hx with rfl|h
      ·exact .inr (g2 x (by simp))
      ·exact g4 x h
     ·rcases g5 x hx with h|h
      ·rcases qFL.1 h with h|h
       ·exact .inl (by simp[h])
       ·rcases qFP.1 h with rfl|h
        ·exact .inr (fU.2 (.inl rfl))
        ·exact .inl (by simp[h])
      ·exact .inr (fU.2 (.inr h))
   ·rintro⟨O,es2,l⟩ ⟨c,w,j⟩;simp only at c w j;simp[-fB',-eB'];exact⟨O,es2,l,⟨c,w,λt=>by rw[qpR e,j,qFY]⟩,AI (by simp[Mb,ai]), .inl (.inl rfl), .inl (.inl rfl)⟩
  ·have hPr:ql9 n r es (.cptr cs off,s):=⟨Y,hm,hs,p,hp,e,hpn,I⟩
   simp[Z,h5,Gp,A,hPr,IA,-fB',-eB'];exactλO es2 y C=>⟨O,es2,y,⟨C.1,C.2.1,C.2.2 p hp⟩, .same _, .inl (.inl rfl), .inl (.inl rfl)⟩
 ·rintro⟨O,es2,l⟩ ⟨c,hn,hl⟩;simp only at c hn hl;simp[-fB',-eB'];refine qhE c hp hn hl λM hm3=>?_
  exact Tt O M l (.same _) (by simp[ai]) (by simp[ai]) ⟨hm3,hn,λp' J=>by obtain rfl:=vF hp J;exact hl⟩
def qp4(x:D×Unit)(l:List D):Prop:=∃a c:List St3,x.1= .mp (aW c)/\l=aW a/\a.Nodup
def qp1(x:D×Unit)(l l':List D):Prop:=∀a c:List St3,x.1= .mp (aW c)->l=aW a->∃q:List St3,l'=aW q/\q.Nodup/\∀t,t∈q↔t∈a\/t∈c
abbrev qit:Spc:=qA5 (aD a0) qp4 qp1
theorem qqo:qlT rG qk S (aD a0) qp4 qp1:=by
 rintro v l ⟨d,⟨⟩⟩ ⟨a,c,p,hl,hn⟩;have p:d= .mp (aW c):=p;subst p;subst hl;simp[rG,qk,-fB',-eB'];intro b1;refine nD (X:=List St3×List D×List St3) [0,7] [] (λx=>x.1.Nodup/\(∀t∈x.2.2,t∈c)/\(∀t∈a,t∈x.1)/\(∀t∈x.1,t∈a\/t∈c)/\∀t∈c,t∈x.2.2\/t∈x.1)
  (λ_=>[]) (λx=>[(0, .mrow v (aW x.1)),(7, .miter b1 x.2.1 (aW x.2.2))]) (λx=>x.2.2.length) (a, [],c)
  ⟨hn,λ_ h=>h,λ_ h=>h,λ_ h=> .inl h,λ_ h=> .inl h⟩ (by simp) (by simp) ?_
 rintro⟨b,s,q⟩ ⟨u,w,y,C,A⟩;simp only at u w y C A;simp[-fB',-eB'];refine⟨λh0=>?_,λE x F j=>?_⟩
 ·have r:=gz h0;subst r;refine⟨aW b,rfl,by rfl,λI c' h1 h2=>?_⟩;have h1:D.mp (aW c)= .mp (aW c'):=h1;obtain rfl:=Ox (D.mp.inj h1);obtain rfl:=Ox h2;grind
 ·obtain⟨a2,t,c2,rfl,rfl,rfl,rfl⟩:=iX j;simp[-fB',-eB'];refine⟨ye t b,_,a2++c2,⟨BJ u,λx h=>w x (by grind),λx k=>fU.2 (.inr (y x k)),λx k=>?_,λx k=>?_⟩,⟨.inl rfl, .inl ⟨rfl,(jG a2 c2).symm⟩⟩,by simp⟩;grind [fU]
  ·rcases A x k with h|h
   ·rcases qFL.1 h with h|h;grind
    ·rcases qFP.1 h with rfl|h;simp;grind
   simp_all
abbrev kp(q:Pat):D:= .cptr [.v (.int .i64 q.op), .v (.int .i64 q.cond.op), .v (.string q.cond.name), .v (.string q.cond.arg), .v (.string q.cond.val), .v (.string q.cond.lab), .v (.bool q.cond.fold), .list 7 (q.cond.kids.map enc), .v (.string q.lab), .v (.string q.reg), .v (.int .i64 q.mn), .v (.int .i64 q.mx), .list 13 (q.kids.map enc)] 0
def KY{p:Pat} :FU p=true↔p.op=6/\p.mx< 0/\p.mn<=1:=by
 simp[FU,and_assoc]
theorem qtX(n:Nat)(h1:S BV=qdv)(h3:S mD=qbQ n)(h4:S dM=Su n)(h5:S yw=clC)(h6:S sS=qit):WH np mR S (aD (a1 St3)) qrW (ql9 n) qeR:=by
 rintro b r v es ⟨d,s⟩ ⟨hr,hm,hs,p,hp,hop,hpn,hpa⟩;have y:=hp;obtain⟨cs,off,hd,hl13,hc13⟩:=y;have hd:d= .cptr cs off:=hd;subst hd;have hp:vQ (.cptr cs off) p:=hp;have hs:qaY r.en s:=hs;have hen:=hr.en;obtain⟨c0,c10,c11,c12⟩:=SM hl13 hc13;have hl10:off+10+1<=cs.length:=by omega
 have hl11:off+11+1<=cs.length:=by omega
 have hl12:off+12+1<=cs.length:=by omega
 have hM:=py hpa;obtain⟨k0,U⟩:∃k,p.kids=[k]:=by
  rcases hM.nd with h|h|h|h
  ·have:=h.1;omega
  ·have:=h.1;omega
  ·have:=h.1;omega
  ·obtain⟨_,_,_,_,h⟩:=h
   match hk:p.kids,h with
   | [k],_=>exact⟨k,rfl⟩
 have hnum:0<=p.mn/\p.mn<=16/\(p.mx= -1\/p.mn<=p.mx/\p.mx<=16):=of_decide_eq_true hM.num hop;have L:k0∈p.kids:=by rw[U];simp
 have hk0d:=fT L;simp[np,mR,IA,c10,c12,hl10,hl12,U,-fB',-eB'];have inv0:∀s t,pM r p s t↔EP (pM r k0) p.mn p.mx s t:=qes hop U;refine aS (X:=Int×Pat) [0,1,5] [0,990] (λx=>cg x.2<=n/\tt (qp6 r) x.2/\0<=x.1/\x.1<=16/\(0<=p.mx->x.1<=p.mx)/\(FU p=true->x.1<=1)/\∀s t,pM r p s t↔EP (pM r x.2) x.1 p.mx s t)
  (λx=>[(7, .v (.int .i64 x.1)),(8,kp x.2)]) (λ_=>[]) ?_ ?_
 ·simp[-fB',-eB'];refine nD (X:=Int×Pat) [0,1,5] [0,990] (λx=>cg x.2<=n/\tt (qp6 r) x.2/\0<=x.1/\x.1<=16/\(0<=p.mx->x.1<=p.mx)/\(FU p=true->x.1<=1)/\∀s t,pM r p s t↔EP (pM r x.2) x.1 p.mx s t)
   (λx=>[(7, .v (.int .i64 x.1)),(8,kp x.2)]) (λ_=>[]) (λx=>cg x.2) (p.mn,k0)
   ⟨by show cg k0<=n;omega,wM hpa L,hnum.1,hnum.2.1,λh=>by show p.mn<=p.mx;omega,λh=>(KY.1 h).2.2,inv0⟩ (by simp) (by simp) ?_
  rintro⟨m,q⟩ ⟨g1,g2,g3,g4,g7,g5,g6⟩;simp only at g1 g2 g3 g4 g5 g6 g7;simp[h1,-fB',-eB'];have hnow:∀q':Pat,q'=q->(cg q'<=n/\tt (qp6 r) q'/\0<=m/\m<=16/\(0<=p.mx->m<=p.mx)/\(FU p=true->m<=1)/\∀s t,pM r p s t↔EP (pM r q') m p.mx s t):=λq' e=>by subst e;exact⟨g1,g2,g3,g4,g7,g5,g6⟩
  refine⟨⟨p,hp⟩,λy1 hy1=>⟨λe1=>⟨⟨q,nG q⟩,λy2 hy2=>⟨λe2=>?_,λe2=>⟨m,q,hnow q rfl,by simp⟩⟩⟩,λe1=>⟨m,q,hnow q rfl,by simp⟩⟩⟩;have e1:=(hy1 p hp).symm.trans e1;have e2:=(hy2 q (nG q)).symm.trans e2;obtain⟨_,px,pm⟩:=KY.1 e1;obtain⟨qo,qx,qm⟩:=KY.1 e2;have hpx:p.mx= -1:=by omega
  have hMq:=py g2;obtain⟨q1,W⟩:∃k,q.kids=[k]:=by
   rcases hMq.nd with h|h|h|h
   ·have:=h.1;omega
   ·have:=h.1;omega
   ·have:=h.1;omega
   ·obtain⟨_,_,_,_,h⟩:=h
    match hk:q.kids,h with
    | [k],_=>exact⟨k,rfl⟩
  have qnum:0<=q.mn/\q.mn<=16/\(q.mx= -1\/q.mn<=q.mx/\q.mx<=16):=of_decide_eq_true hMq.num qo;have hqx:q.mx= -1:=by omega
  have hq1m:q1∈q.kids:=by rw[W];simp
  have hq1d:=fT hq1m;have g5:=g5 e1;have hDq:pM r q=EP (pM r q1) q.mn (-1):=by
   funext s t;exact propext (by rw[<-hqx];exact qes qo W s t)
  have hmm:0<=m*q.mn/\m*q.mn<=1:=by
   have a:m=0\/m=1:=by omega
   have b:q.mn=0\/q.mn=1:=by omega
   rcases a with a|a<;>rcases b with b|b<;>rw[a,b] <;>decide
  refine⟨by simp only[InR];omega,by rw[W];simp,λa ha=>?_⟩;rw[W]at ha;obtain rfl:q1=a:=by simpa using ha
  refine⟨m*q.mn,q1,⟨by omega,wM g2 hq1m,hmm.1,by omega,λh=>by omega,λ_=>hmm.2,λs t=>?_⟩,by simp,hq1d⟩;rw[g6,hDq,hpx];exact qno (D8 r q1) ⟨g3,g5⟩ ⟨qnum.1,qm⟩ s t
 rintro⟨m,q⟩ ⟨g1,g2,g3,g4,g7,g5,g6⟩;simp only at g1 g2 g3 g4 g5 g6 g7;clear inv0 g5 U L hk0d c12 hl12;simp[-fB',-eB'];refine gc (X:=Unit) [0,1,7,8] [0,990] [41] [] (λ_=>True) (λ_=>[(9, .mp (aW [s]))]) (λ_=>[]) [] (λ_=>rfl) (by decide) ?_ ?_;simp[AI,Mb];rintro⟨⟩ -;obtain⟨M,rfl⟩:∃M:Nat,m=(M:Int):=⟨m.toNat,by omega⟩
 simp[-fB',-eB'];refine Dg (X:=Value×List D×List St3) [0,1,7,8] [] M (λk x=>EQ r x.2.1/\x.2.2.Nodup/\∀t,t∈x.2.2↔Pow (pM r q) k s t) (λx=>[(9, .mp (aW x.2.2))]) (λx=>[(0, .box b (nX r (.own 990 x.1))),(990, .mrow x.1 x.2.1)]) (v,es, [s]) (by simp) (by simp) (by omega) (by simp) (by simp)
  ⟨hm,by simp,λt=>by simp[Pow,eq_comm]⟩ (by simp) (by simp) ?_ ?_
 ·rintro k ⟨v2,es2,l⟩ hk ⟨E,N,Y⟩;simp only at E N Y;simp[h3,Gp,IA,-fB',-eB'];refine⟨⟨hr,E,⟨l,rfl,λt C=>KZ (BI r q) _ _ _ ((Y t).1 C) hs⟩,q,nG q,g1,g2⟩,λv3 es3 Z hQ=>⟨v3,es3,Z,⟨hQ.1,hQ.2.1,λt=>?_⟩,rfl, .inl rfl, .inl ⟨rfl,rfl⟩⟩⟩;rw[O4,hQ.2.2 q l (nG q) rfl t];exact⟨λ⟨u,h1,h2⟩=>⟨u,(Y u).1 h1,h2⟩,λ⟨u,h1,h2⟩=>⟨u,(Y u).2 h1,h2⟩⟩
 rintro⟨v2,es2,base⟩ ⟨E,N,hb⟩;simp only at E N hb;have O:∀t,pM r p s t↔ ∃k:Nat,(p.mx< 0\/(M:Int) +k<=p.mx)/\LB (pM r q) base k t:=λt=>by
  rw[g6 s t];exact qi2 (mn:=(M:Int)) (λu=>by rw[hb u];rfl) t
 have hbl:∀t∈base,qaY r.en t:=λt C=>KZ (BI r q) _ _ _ ((hb t).1 C) hs
 clear hb g6;have hbz:qtP (pM r q) base 0 base base:=qlu _ _;have hrn:∀{j:Nat} {t:St3},LB (pM r q) base j t->qaY r.en t/\(j:Int)<=t.p:=λ{j t} ⟨u,h1,h2⟩=>by
  have a:=hbl u h1;have c:=KZ (R:=Ni (pM r q)) (λs t q=>BI r _ s t q.1) j _ _ h2 a;have d:=PS h2;have:=a.1;exact⟨c,by omega⟩
 simp[h5,-fB',-eB'];constructor
 ·intro h0;have A:=gz h0;subst A;refine au (X:=Unit) [0,1,8,9,10,11] [0,990] (λ_=>True) (λ_=>[]) (λ_=>[]) (λ_=>0) () trivial ?_;rintro⟨⟩ -;refine aS (X:=Unit) [0] [] (λ_=>False) (λ_=>[]) (λ_=>[]) ?_ λ_ h=>h.elim
  simp[wm,-fB',-eB'];refine Tt v2 es2 [] (.same _) (by simp[ai]) (by simp[ai]) ⟨E,qG7,λp' y t=>?_⟩;obtain rfl:=vF hp y;rw[O];exact⟨λh=>(by cases h),λ⟨k,_,u,hu,_⟩=>(by cases hu)⟩
 intro hne v5;refine nD (X:=Nat×List St3×List St3×Value×List D) [0,1,8,10] [] (λx=>(p.mx< 0\/(M:Int) +x.1<=p.mx)/\EQ r x.2.2.2.2/\x.2.1.Nodup/\x.2.2.1.Nodup/\qtP (pM r q) base x.1 x.2.1 x.2.2.1)
  (λx=>[(9, .mp (aW x.2.2.1)),(11, .v (.int .i64 (M+x.1)))]) (λx=>[(0, .box b (nX r (.own 990 x.2.2.2.1))),(990, .mrow x.2.2.2.1 x.2.2.2.2),(53, .mrow v5 (aW x.2.1))]) (λx=>r.en.toNat+1 -x.1) (0,base,base,v2,es2)
  ⟨by show p.mx< 0\/(M:Int) + ((0:Nat):Int)<=p.mx;omega,E,N,N,hbz⟩ (by simp) (by simp) ?_
 rintro⟨j,out,new,v6,es6⟩ ⟨e1,hm6,ho6,hn6,hB⟩;simp only at e1 hm6 ho6 hn6 hB;have hjm:(new≠ []->(j:Int)<=r.en):=λh=>by
  obtain⟨t,C⟩:=List.exists_mem_of_ne_nil _ h;obtain⟨a,c⟩:=hrn (hB.f t C);have:=a.2.1;omega
 refine aS (X:=Unit) [0,1,8,9,10,11] [0,990,53] (λ_=>new≠ []/\(p.mx< 0\/(M:Int) +j<p.mx)) (λ_=>[]) (λ_=>[]) ?_ ?_
 ·simp[c11,hl11,-fB',-eB'];have hnz:0<(aW new).length->¬new=[]:=λh e=>by subst e;simp[aW]at h
  refine⟨λh0=>⟨λh1=>⟨λh2=>⟨hnz h0, .inr h2⟩,λh2=>?_⟩,λh1=>⟨hnz h0, .inl h1⟩⟩,λh0=>?_⟩
  ·refine Tt v6 es6 out (AI (by simp[ai])) (by simp[ai]) (by simp[ai]) ⟨hm6,ho6,λp' y t=>?_⟩;obtain rfl:=vF hp y;rw[O,hB.o];exact⟨λ⟨k,h3,h4⟩=>⟨k, .inr (by omega),h4⟩,λ⟨k,h3,h4⟩=>⟨k,by omega,h4⟩⟩
  ·have A:=gz h0;subst A;refine Tt v6 es6 out (AI (by simp[ai])) (by simp[ai]) (by simp[ai]) ⟨hm6,ho6,λp' y t=>?_⟩;obtain rfl:=vF hp y;rw[O];constructor
   ·intro h;obtain⟨k,h3,h4⟩:=(hB.o t).1 h;exact⟨k,by omega,h4⟩
   ·rintro⟨k,_,h4⟩;exact(qlw hB t).2 ⟨k,h4⟩
 rintro⟨⟩ ⟨hne,hgo⟩;have hjr:=hjm hne;simp[-fB',-eB'];intro v7;refine gc (X:=Value×List D×List St3) [0,1,8,10,11] [53] [75] [] (λx=>EQ r x.2.1/\x.2.2.Nodup/\∀t,t∈x.2.2↔t∉out/\∃a∈new,Ni (pM r q) a t) (λx=>[(12, .mp (aW x.2.2))]) (λx=>[(0, .box b (nX r (.own 990 x.1))),(990, .mrow x.1 x.2.1)]) [0,990] (λ_=>rfl) (by decide) ?_ ?_
 ·simp[-fB',-eB'];intro b7;refine nD (X:=Value×List D×List St3×List D×List St3) [0,1,8,10,11,12,77] [53] (λx=>EQ r x.2.1/\x.2.2.1.Nodup/\(∀a∈x.2.2.2.2,a∈new)/\(∀t∈x.2.2.1,t∉out/\∃a∈new,Ni (pM r q) a t)/\∀a∈new,a∈x.2.2.2.2\/ ∀t,Ni (pM r q) a t->t∉out->t∈x.2.2.1)
   (λ_=>[]) (λx=>[(0, .box b (nX r (.own 990 x.1))),(990, .mrow x.1 x.2.1),(75, .mrow v7 (aW x.2.2.1)),(77, .miter b7 x.2.2.2.1 (aW x.2.2.2.2))]) (λx=>x.2.2.2.2.length) (v6,es6, [], [],new)
   ⟨hm6,qG7,λ_ h=>h,λ_ h=>(by cases h),λs hs=> .inl hs⟩ (by simp) (by simp[wm]) ?_
  rintro⟨v8,es8,w,cur,left⟩ ⟨F,I,hl8,ho8,hd8⟩;simp only at F I hl8 ho8 hd8;simp[-fB',-eB'];refine⟨λh0=>?_,λl1 x l2 hsp=>?_⟩
  ·have A:=gz h0;subst A;refine⟨v8,es8,w,⟨F,I,λt=>⟨ho8 t,λ⟨h3,a,h4,h5⟩=>(hd8 a h4).elim (λh=>by cases h) λh=>h t h5 h3⟩⟩,AI (by simp[Mb,ai]), .inl (.inl rfl), .inl (.inl rfl)⟩
  ·obtain⟨a1,a,c1,rfl,rfl,rfl,rfl⟩:=iX hsp;have ha:a∈new:=hl8 a (by simp);have haL:=(hrn (hB.f a ha)).1;have hPr:qeV n r es8 (kp q,a):=⟨hr,F,haL,q,nG q,g1,g2⟩
   simp[h4,Gp,hPr,IA,-fB',-eB'];intro b13 v9 es9 Z hQ b9;have hys:=hQ.2.2 q (nG q);refine nD (X:=List St3×List D×List St3) [0,1,8,10,11,12,13,77,86] [0,990,13,53,77] (λx=>x.1.Nodup/\(∀t∈x.2.2,t∈Z)/\(∀t∈w,t∈x.1)/\(∀t∈x.1,t∈w\/t∉out/\t∈Z/\a.p<t.p)/\∀t∈Z,t∈x.2.2\/(a.p<t.p->t∉out->t∈x.1))
    (λ_=>[]) (λx=>[(75, .mrow v7 (aW x.1)),(86, .miter b9 x.2.1 (aW x.2.2))]) (λx=>x.2.2.length) (w, [],Z)
    ⟨I,λ_ h=>h,λ_ h=>h,λ_ h=> .inl h,λ_ h=> .inl h⟩ (by simp) (by simp) ?_
   rintro⟨J,cur2,left2⟩ ⟨k1,k2,k3,k4,k5⟩;simp only at k1 k2 k3 k4 k5;simp[-fB',-eB'];refine⟨λh0=>?_,λl1 x l2 hsp2=>?_⟩
   ·have A:=gz h0;subst A;refine⟨v9,es9,J,_,a1++c1,⟨hQ.1,k1,λx h=>hl8 x (by simp only[qFL,qFP]at h ⊢;rcases h with h|h<;>simp[h]),λt C=>?_,λx hx=>?_⟩,⟨.inl rfl, .inl ⟨rfl,rfl⟩, .inl rfl, .inl ⟨rfl,(jG a1 c1).symm⟩⟩,by simp⟩
    ·rcases k4 t C with h|⟨h,h',h''⟩
     ·exact ho8 t h
     ·exact⟨h,a,ha,(hys t).1 h',h''⟩
    ·rcases hd8 x hx with h|h
     ·rcases qFL.1 h with h|h
      ·exact .inl (by simp[h])
      ·rcases qFP.1 h with rfl|h
       ·exact .inr λt C K=>(k5 t ((hys t).2 C.1)).elim (λh=>by cases h) λh=>h C.2 K
       ·exact .inl (by simp[h])
     ·exact .inr λt C K=>k3 t (h t C K)
   ·obtain⟨a2,t,c2,rfl,rfl,rfl,rfl⟩:=iX hsp2;have Q:∀x∈a2++c2,x∈Z:=λx h=>k2 x (by simp only[qFL,qFP]at h ⊢;rcases h with h|h<;>simp[h])
    have C:t∈Z:=k2 t (by simp);have K:(a.p<t.p->t∉out->t∈J)->∀x∈Z,x∈a2++c2\/(a.p<x.p->x∉out->x∈J):=λhh x hx=>by
     rcases k5 x hx with h|h
     ·rcases qFL.1 h with h|h
      ·exact .inl (by simp[h])
      ·rcases qFP.1 h with rfl|h
       ·exact .inr hh
       ·exact .inl (by simp[h])
     ·exact .inr h
    by_cases e3:a.p<t.p
    rotate_left
    ·simp[e3,-fB',-eB'];exact⟨J,_,a2++c2,⟨k1,Q,k3,k4,K λh=>absurd h e3⟩,⟨.inl rfl, .inl ⟨rfl,(jG a2 c2).symm⟩⟩,by simp⟩
    by_cases e4:t∈out
    ·simp[e3,e4,-fB',-eB'];exact⟨J,_,a2++c2,⟨k1,Q,k3,k4,K λ_ h=>absurd e4 h⟩,⟨.inl rfl, .inl ⟨rfl,(jG a2 c2).symm⟩⟩,by simp⟩
    ·simp[e3,e4,-fB',-eB'];refine⟨ye t J,_,a2++c2,⟨BJ k1,Q,λx hx=>fU.2 (.inr (k3 x hx)),λx hx=>?_,λx hx=>?_⟩,⟨.inl rfl, .inl ⟨rfl,(jG a2 c2).symm⟩⟩,by simp⟩
     ·rcases fU.1 hx with rfl|h
      ·exact .inr ⟨e4,C,e3⟩
      ·exact k4 x h
     ·rcases k5 x hx with h|h
      ·rcases qFL.1 h with h|h
       ·exact .inl (by simp[h])
       ·rcases qFP.1 h with rfl|h
        ·exact .inr λ_ _=>fU.2 (.inl rfl)
        ·exact .inl (by simp[h])
      ·exact .inr λq1 q2=>fU.2 (.inr (h q1 q2))
 ·rintro⟨v8,es8,w⟩ ⟨F,I,hx8⟩;simp only at F I hx8;simp[h6,-fB',-eB'];refine⟨⟨out,w,rfl,rfl,ho6⟩,λl' hQ=>?_⟩;obtain⟨out',rfl,ho',hx'⟩:=hQ out w rfl rfl;exact⟨by simp only[InR];omega,j+1,out',w,v8,es8,⟨by omega,F,ho',I,qlv hB hx8 hx'⟩,⟨⟨rfl,by omega⟩, .inl rfl, .inl ⟨rfl,rfl⟩, .inl rfl⟩,by omega⟩
end
end Go.Gv
