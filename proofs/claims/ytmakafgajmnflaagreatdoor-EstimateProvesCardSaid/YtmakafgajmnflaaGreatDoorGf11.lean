/- Cc -/
import Derived.Test.YtmakafgajmnflaaGreatDoorGf10
set_option linter.all false
set_option maxRecDepth 100000
set_option maxHeartbeats 0
namespace Go.Gv
section
open Go.Proofs
def NR:CC:=gq Tryz.f44 [] {} _
def Mp:List ak:=[.tmp 4]
def qfR:FO wi [] NR Mp 16:=fo
def pG:CC:=gq Tryz.f199 [] {} _
def nX:List ak:=[.tmp 2]
def Gf:FO kM [] pG nX 21:=fo
def sj:CC:=gq Tryz.f200 [] {} _
def rS:List ak:=[.tmp 2]
def JK:FO uV [] sj rS 17:=fo
def hZ:CC:=gq Tryz.f132 [] {} _
def gN:List ak:=[.tmp 2]
def yh:FO cq [] hZ gN 29:=fo
def pF:CC:=gq Tryz.f263 [] {} _
def nW:List ak:=[.tmp 2]
def Ge:FO gU [] pF nW 25:=fo
def Ae:CC:=gq Tryz.f291 [] { cu:=[2,7,9] } _
def yY:List ak:=[.tmp 2]
def Ss:FO BW [] Ae yY 81:=fo
def Ad:CC:=gq Tryz.f280 [] {} _
def yX:List ak:=[.tmp 2]
def Sr:FO BV [] Ad yX 16:=fo
def Ac:CC:=gq Tryz.f262 [] {} _
def yW:List ak:=[.tmp 2, .tmp 3]
def Sq:FO BU [] Ac yW 69:=fo
def B9:CC:=gq Tryz.f163 [] {} _
def Bh:List ak:=[.tmp 2]
def VR:FO EJ [] B9 Bh 4:=fo
def vt:CC:=gq Tryz.f164 [] {} _
def uv:List ak:=[.tmp 4]
def MJ:FO wV [] vt uv 13:=fo
def jC:CC:=gq Tryz.f102 [2,3] {} _
def jq:List ak:=[.tmp 4]
def AM:FO gc [2,3] jC jq 122:=fo
def ng:CC:=gq Tryz.f41 [] { cu:=[6] } _
def mQ:List ak:=[.tmp 2]
def Eb:FO pd [] ng mQ 47:=fo
def zZ:CC:=gq Tryz.f218 [2] {} _
def yT:List ak:=[.tmp 4]
def Sn:FO BR [2] zZ yT 17:=fo
def zX:CC:=gq Tryz.f219 [] {} _
def yR:List ak:=[.tmp 2]
def Sl:FO wg [] zX yR 42:=fo
def xf:CC:=gq Tryz.f220 [3] {} _
def wy:List ak:=[.tmp 6]
def OZ:FO tO [3] xf wy 32:=fo
def Ca:CC:=gq Tryz.f221 [] {} _
def Bj:List ak:=[.tmp 4]
def VS:FO EK [] Ca Bj 24:=fo
def xi:CC:=gq Tryz.f222 [2] {} _
def wB:List ak:=[.tmp 4]
def O3:FO zK [2] xi wB 27:=fo
def xh:CC:=gq Tryz.f223 [] {} _
def wA:List ak:=[.tmp 4]
def O1:FO zJ [] xh wA 27:=fo
def pE:CC:=gq Tryz.f165 [] {} _
def nV:List ak:=[.tmp 2, .tmp 3]
def Gd:FO qK [] pE nV 42:=fo
def xg:CC:=gq Tryz.f166 [1] {} _
def wz:List ak:=[.tmp 2, .tmp 3]
def O0:FO zI [1] xg wz 48:=fo
def zW:CC:=gq Tryz.f167 [1] {} _
def yQ:List ak:=[.tmp 2, .tmp 3]
def Sk:FO BP [1] zW yQ 96:=fo
def vr:CC:=gq Tryz.f168 [1] {} _
def uu:List ak:=[.tmp 2, .tmp 3]
def MI:FO wU [1] vr uu 143:=fo
def Ab:CC:=gq Tryz.f169 [3] { cu:=[14,17,20,26] } _
def yV:List ak:=[.tmp 4, .tmp 5]
def Sp:FO BT [3] Ab yV 128:=fo
def zY:CC:=gq Tryz.f170 [1] { cu:=[2,5,11,14] } _
def yS:List ak:=[.tmp 2, .tmp 3]
def Sm:FO BQ [1] zY yS 86:=fo
def sW:CC:=gq Tryz.f103 [1] {} _
def sx:List ak:=[.tmp 2, .tmp 3, .tmp 4]
def Kq:FO uT [1] sW sx 74:=fo
def Aa:CC:=gq Tryz.f45 [1] {} _
def yU:List ak:=[.tmp 2]
def So:FO BS [1] Aa yU 14:=fo
def jB:CC:=gq Tryz.f46 [] {} _
def jp:List ak:=[.tmp 4]
def AL:FO kL [] jB jp 26:=fo
def sX:CC:=gq Tryz.f47 [2] {} _
def sy:List ak:=[.tmp 4]
def Kr:FO uU [2] sX sy 21:=fo
def sV:CC:=gq Tryz.f48 [1] {} _
def sw:List ak:=[.tmp 2, .tmp 3]
def Kp:FO uS [1] sV sw 32:=fo
def xj:CC:=gq Tryz.f15 [2,3,2101010,1100097,2108010,1107104,2145010,1144141,2182010,1181178] { cu:=[7,13,19,26,33,48] } _
def wC:List ak:=[.cell 4 true 7, .tmp 5]
def O4:FO zL [2,3,2101010,1100097,2108010,1107104,2145010,1144141,2182010,1181178] xj wC 273:=fo
def yr:CC:=gq Tryz.f40 [] {} _
def ya:List ak:=[.tmp 2]
def Qa:FO sf [] yr ya 8:=fo
def I4:CC:=gq Tryz.f37 [] {} _
def H6:List ak:=[.tmp 2]
def qcS:FO Nt [] I4 H6 7:=fo
def NP:CC:=gq Tryz.f38 [] {} _
def Mn:List ak:=[.tmp 2]
def qfP:FO Td [] NP Mn 7:=fo
def xt:CC:=gq Tryz.f39 [] {} _
def wJ:List ak:=[.tmp 2]
def Pe:FO zQ [] xt wJ 7:=fo
def tg:CC:=gq Tryz.f36 [] {} _
def sH:List ak:=[.tmp 0]
def KA:FO vd [] tg sH 5:=fo
def vB:CC:=gq Tryz.f14 [] {} _
def Bk:List ak:=[.tmp 4]
def MT:FO cv [] vB Bk 35:=fo
def NQ:CC:=gq Tryz.f4 [999] {} _
def Mo:List ak:=[.tmp 2]
def qfQ:FO Te [999] NQ Mo 11:=fo
def nk:CC:=gq Tryz.f13 [100026,2067008] { cu:=[3,5,12,19,22,28] } _
def mU:List ak:=[.cell 6 true 7]
def Eh:FO pj [100026,2067008] nk mU 177:=fo
def tb:CC:=gq Tryz.f42 [1061061,1096061,2063001,2098001] { bx:=[1],cu:=[12] } _
def sD:List ak:=[]
def Kv:FO uX [1061061,1096061,2063001,2098001] tb sD 100:=fo
def td:CC:=gq Tryz.f43 [1038027,1034027,1031027,2076042,2075040] { bx:=[1],cu:=[10,14] } _
def sF:List ak:=[]
def Kx:FO uY [1038027,1034027,1031027,2076042,2075040] td sF 102:=fo
def rf:CC:=gq Tryz.f5 [] {} _
def qv:List ak:=[.cell 4 true 7]
def Ip:FO sP [] rf qv 36:=fo
def xu:CC:=gq Tryz.f85 [] {} _
def wK:List ak:=[.tmp 2]
def np:CC:=gq Tryz.f86 [] {} _
def mX:List ak:=[.tmp 4]
def ri:CC:=gq Tryz.f146 [] {} _
def qz:List ak:=[.tmp 2]
def rh:CC:=gq Tryz.f58 [2] {} _
def qw:List ak:=[.tmp 4]
def xb:CC:=gq Tryz.f12 [2] {} _
def wv:List ak:=[.cell 4 true 4, .tmp 5]
open Cod (enc dec)
variable {S:Nat->Spc}
abbrev Aq:Spc:=aJ (a1 Int) (λ_=>True) enc λ_ y=>y=false
def Kf:aq ri qz S (a1 Int) (λ_=>True) enc λ_ y=>y=false:=by
 rintro x -;simp[ri,qz]
def tQ(a b:Int):Int:=if a<b then -1 else if b<a then 1 else 0
abbrev jM:Spc:=aJ (a2 Int Int) (λ_=>True) enc λx y=>y=tQ x.1 x.2
def Fs(h1:S sS=Aq):aq np mX S (a2 Int Int) (λ_=>True) enc λx y=>y=tQ x.1 x.2:=by
 rintro⟨a,b⟩ -;simp_all [np,mX,tQ,if_neg]
abbrev yL:Spc:=aJ (a1 (List Int)) (λ_=>True) enc λx y=>y=(x.find? (· ≠0)).getD 0
def Ro:aq xu wK S (a1 (List Int)) (λ_=>True) enc λx y=>y=(x.find? (· ≠0)).getD 0:=by
 rintro l -;simp[xu,wK];intro _;refine ah (X:=Unit) [3,6] [] l.length (λk _=>(l.find? λx=>!decide (x=0))=(l.drop k).find? λx=>!decide (x=0)) (λ_=>[]) (λ_=>[]) () (by simp) ?_ ?_
 ·intro k _ hk a;simp;refine⟨hk,λx b=>?_⟩;rw[cY b]at a;grind
 ·intro _ a;rw[qC2]at a;simp[a]
def Iy(x n:Int):Int:=if n< 1 then 0 else if x.tmod n< 0 then x.tmod n+n else x.tmod n
abbrev s_m_Mod:Spc:=aJ (a2 Int Int) (λx=>x.2<=1000000000) enc λx y=>y=Iy x.1 x.2
def qjb:aq NR Mp S (a2 Int Int) (λx=>x.2<=1000000000) enc λx y=>y=Iy x.1 x.2:=by
 rintro⟨a,b⟩ hl;simp at hl;simp[NR,Mp,Iy];refine⟨λh1 h2=>by omega,λh1=>⟨by omega,λh2=>⟨?_,?_⟩,λh2=>?_⟩⟩
 ·have:=Int.lt_tmod_of_pos a (b:=b) (by omega);grind [InR]
 omega;omega
end
section
open Cod (enc dec)
variable {dq:Prop}
def qnK(s t:Spc):Spc:= .gen (λd ds H K=>s.pt d ds H K\/t.pt d ds H K) λd ds H K a hk h=>h.elim (λh=> .inl (s.mono d ds H K a hk h)) (λh=> .inr (t.mono d ds H K a hk h))
@[simp] theorem qxl(s t:Spc)(d:Nat)(ds:List D)(H:ab)(K:D->ab->Prop):(qnK s t).pt d ds H K=(s.pt d ds H K\/t.pt d ds H K):=i' rfl
def LS{P:Program}{f:Nat}{s t:Spc}(h1:Tri dq P f s.pt)(h2:Tri dq P f t.pt):Tri dq P f (qnK s t).pt:=λO tp w vs ds H d K a b c e g h=>h.elim (λh=>h1 O tp w vs ds H d K a b c e g h) (λh=>h2 O tp w vs ds H d K a b c e g h)
section
variable {X Y:Type}[Cod Y]
def qyC(A:dN X)(pre:X->Prop)(post:X->List Y->Prop)(el n:Nat):PT:=λd ds H K=>eX (A.dec ds) λx=>pre x/\∀v l,post x l->K (.own d v) (ai H d (some (.row v el n (l.map enc))))
def qyh(A:dN X)(pre:X->List Y->Prop)(post:X->List Y->List Y->Prop)(el n:Nat):PT:=λd ds H K=>∃id v l a x,ds= .own id v::a/\A.dec a=some x/\H id=some (.row v el n (l.map enc))/\pre x l/\
 ∀v' l',post x l l'->K (.own id v') (ai H id (some (.row v' el n (l'.map enc))))
def qyb(A:dN X)(pre:X->List Y->Prop)(post:X->List Y->List Y->Prop)(el n:Nat):PT:=λd ds H K=>∃id v l a x,ds= .own id v::a/\A.dec a=some x/\H id=some (.row v el n (l.map enc))/\pre x l/\
 ∀l',post x l l'->K (.tup []) (ai H id (some (.row v el n (l'.map enc))))
def qcP{o:Option X}{k a:X->Prop}(h:∀x,k x->a x)(ho:eX o k):eX o a:=by
 cases o<;>simp_all
def qkT(A:dN X)(pre:X->Prop)(post:X->List Y->Prop)(el n:Nat):nt (qyC A pre post el n):=λd ds H K a hk h=>qcP (λx h=>⟨h.1,λv l hp=>hk _ _ (h.2 v l hp)⟩) h
def qkE(A:dN X)(pre:X->List Y->Prop)(post:X->List Y->List Y->Prop)(el n:Nat):nt (qyh A pre post el n):=λd ds H K b hk ⟨id,v,l,a,x,h1,h2,h3,h4,h5⟩=>⟨id,v,l,a,x,h1,h2,h3,h4,λv' l' hp=>hk _ _ (h5 v' l' hp)⟩
def qkB(A:dN X)(pre:X->List Y->Prop)(post:X->List Y->List Y->Prop)(el n:Nat):nt (qyb A pre post el n):=λd ds H K b hk ⟨id,v,l,a,x,h1,h2,h3,h4,h5⟩=>⟨id,v,l,a,x,h1,h2,h3,h4,λl' hp=>hk _ _ (h5 l' hp)⟩
def qog(A:dN X)(pre:X->Prop)(post:X->List Y->Prop)(el n:Nat):Spc:= .gen _ (qkT A pre post el n)
def qrD(A:dN X)(pre:X->List Y->Prop)(post:X->List Y->List Y->Prop)(el n:Nat):Spc:= .gen _ (qkE A pre post el n)
def qn8(A:dN X)(pre:X->List Y->Prop)(post:X->List Y->List Y->Prop)(el n:Nat):Spc:= .gen _ (qkB A pre post el n)
@[simp] theorem qgS(A:dN X)(pre:X->Prop)(post:X->List Y->Prop)(el n:Nat)(d:Nat)(ds:List D)(H:ab)(K:D->ab->Prop):(qog A pre post el n).pt d ds H K=eX (A.dec ds) λx=>pre x/\∀v l,post x l->K (.own d v) (ai H d (some (.row v el n (l.map enc)))):=i' rfl
def quV(A:dN X)(pre:X->List Y->Prop)(post:X->List Y->List Y->Prop)(el n id:Nat)(v:Value)(ds:List D)(r:Option Res)(H:ab)(K:D->ab->Prop):Prop:=∃l,r=some (.row v el n (l.map enc))/\eX (A.dec ds) λx=>pre x l/\∀v' l',post x l l'->K (.own id v') (ai H id (some (.row v' el n (l'.map enc))))
def quS(A:dN X)(pre:X->List Y->Prop)(post:X->List Y->List Y->Prop)(el n id:Nat)(v:Value)(ds:List D)(r:Option Res)(H:ab)(K:D->ab->Prop):Prop:=∃l,r=some (.row v el n (l.map enc))/\eX (A.dec ds) λx=>pre x l/\∀l',post x l l'->K (.tup []) (ai H id (some (.row v el n (l'.map enc))))
@[congr] theorem qyg{A:dN X}{pre:X->List Y->Prop}{post:X->List Y->List Y->Prop}{el n id:Nat}{v:Value}{ds a:List D}{r r':Option Res}{H:ab}{K:D->ab->Prop}(h1:ds=a)(h2:r=r'):quV A pre post el n id v ds r H K=quV A pre post el n id v a r' H K:=by grind
@[congr] theorem qya{A:dN X}{pre:X->List Y->Prop}{post:X->List Y->List Y->Prop}{el n id:Nat}{v:Value}{ds a:List D}{r r':Option Res}{H:ab}{K:D->ab->Prop}(h1:ds=a)(h2:r=r'):quS A pre post el n id v ds r H K=quS A pre post el n id v a r' H K:=by grind
@[simp] theorem qyi(A:dN X)(pre:X->List Y->Prop)(post:X->List Y->List Y->Prop)(el n:Nat)(d i:Nat)(v:Value)(ds:List D)(H:ab)(K:D->ab->Prop):(qrD A pre post el n).pt d (.own i v::ds) H K=quV A pre post el n i v ds (H i) H K:=by
 refine propext ⟨λh=>?_,λh=>?_⟩
 ·obtain⟨id,v,l,b,x,h1,h2,h3,h4,h5⟩:=h;cases h1;refine⟨l,h3,?_⟩;rw[h2];exact⟨h4,h5⟩
 ·obtain⟨l,h1,h2⟩:=h;cases a:A.dec ds with
  |none=>rw[a]at h2;exact h2.elim
  |some x=>rw[a]at h2;exact⟨i,v,l,ds,x,rfl,a,h1,h2.1,h2.2⟩
@[simp] theorem qyc(A:dN X)(pre:X->List Y->Prop)(post:X->List Y->List Y->Prop)(el n:Nat)(d i:Nat)(v:Value)(ds:List D)(H:ab)(K:D->ab->Prop):(qn8 A pre post el n).pt d (.own i v::ds) H K=quS A pre post el n i v ds (H i) H K:=by
 refine propext ⟨λh=>?_,λh=>?_⟩
 ·obtain⟨id,v,l,b,x,h1,h2,h3,h4,h5⟩:=h;cases h1;refine⟨l,h3,?_⟩;rw[h2];exact⟨h4,h5⟩
 ·obtain⟨l,h1,h2⟩:=h;cases a:A.dec ds with
  |none=>rw[a]at h2;exact h2.elim
  |some x=>rw[a]at h2;exact⟨i,v,l,ds,x,rfl,a,h1,h2.1,h2.2⟩
@[simp] theorem qAP(A:dN X)(pre:X->List Y->Prop)(post:X->List Y->List Y->Prop)(el n id:Nat)(v:Value)(ds:List D)(l:List Y)(H:ab)(K:D->ab->Prop):quV A pre post el n id v ds (some (.row v el n (l.map enc))) H K=eX (A.dec ds) λx=>pre x l/\∀v' l',post x l l'->K (.own id v') (ai H id (some (.row v' el n (l'.map enc)))):=by
 refine propext ⟨λ⟨l',h1,h2⟩=>?_,λh=>⟨l,rfl,h⟩⟩;simp at h1;subst h1;exact h2
@[simp] theorem qAO(A:dN X)(pre:X->List Y->Prop)(post:X->List Y->List Y->Prop)(el n id:Nat)(v:Value)(ds:List D)(l:List Y)(H:ab)(K:D->ab->Prop):quS A pre post el n id v ds (some (.row v el n (l.map enc))) H K=eX (A.dec ds) λx=>pre x l/\∀l',post x l l'->K (.tup []) (ai H id (some (.row v el n (l'.map enc)))):=by
 refine propext ⟨λ⟨l',h1,h2⟩=>?_,λh=>⟨l,rfl,h⟩⟩;simp at h1;subst h1;exact h2
def qlJ(el n:Nat)(q:List Y->Prop)(r:D)(H':ab):Prop:=∃j v l,r= .own j v/\H' j=some (.row v el n (l.map enc))/\q l
def dw{el n:Nat}{q:List Y->Prop}{j:Nat}{v:Value}{H':ab}(l:List Y)(h:H' j=some (.row v el n (l.map enc)))(a:q l):qlJ el n q (.own j v) H':=⟨j,v,l,rfl,h,a⟩
def QU(cc:CC)(rs:List ak)(S:Nat->Spc)(A:dN X)(pre:X->Prop)(post:X->List Y->Prop)(el n:Nat):Prop:=
 ∀x,pre x->vc S cc (tJ rs λr H'=>qlJ el n (post x) r H') (dt (A.view x)) bV
def TK(cc:CC)(rs:List ak)(S:Nat->Spc)(A:dN X)(pre:X->List Y->Prop)(post:X->List Y->List Y->Prop)(el n:Nat):Prop:=
 ∀v l x,pre x l->vc S cc (tJ rs λr H'=>qlJ el n (post x l) r H') (dt (.own 0 v::A.view x)) (ai bV 0 (some (.row v el n (l.map enc))))
variable {P:Program}{S:Nat->Spc}{f:Nat}{im:List Nat}{cc:CC}{rs:List ak}{N:Nat}{A:dN X}{el n:Nat}
theorem xU{pre:X->Prop}{post:X->List Y->Prop}(p:∀f,Tri dq P f (S f).pt)(h:xD P f im cc rs N)(y:∀x,(A.view x).length<=N)(t:QU cc rs S A pre post el n):Tri dq P f (qog A pre post el n).pt:=by
 obtain⟨vX,enter,fn,code,h1,h2,h3,h4,h5⟩:=h;refine lp p vX h1 h2 enter h3 h4 h5 ?_;intro ds H d K b;rw[qgS]at b;cases c:A.dec ds with
 |none=>simp_all
 | some x=>
   rw[c]at b;obtain⟨hp,u⟩:=b;have hl:=A.le ds x c;refine⟨by rw[hl.1];grind,A.view x,bV,id,hl,λi r h=>by simp at h,λi j r s h=>by simp,_,t x hp,?_⟩;rintro r H' ⟨j,v,l,rfl,C,a⟩;refine⟨.own d v,bV,ai H d (some (.row v el n (l.map enc))),λi=>if i=d then some j else none, .own _ _ _,λj q h=>by simp at h,u v l a,λi s hi=>?_,λi E k s q hi w F I=>?_⟩
   ·by_cases e:i=d;simp_all;simp_all
   grind
theorem DX{pre:X->List Y->Prop}{post:X->List Y->List Y->Prop}(t:∀f,Tri dq P f (S f).pt)(h:xD P f im cc rs N)(F:∀x,(A.view x).length+1<=N)(u:TK cc rs S A pre post el n):Tri dq P f (qrD A pre post el n).pt:=by
 obtain⟨vX,enter,fn,code,h1,h2,h3,h4,h5⟩:=h;refine lp t vX h1 h2 enter h3 h4 h5 ?_;rintro ds H d K ⟨id,v,l,p,x,rfl,w,hid,hp,y⟩;have hl:=A.le p x w;refine⟨by simp only[qCZ];rw[hl.1];grind, .own 0 v::A.view x,ai bV 0 (some (.row v el n (l.map enc))),λ_=>id, .cons (.own _ _ _) hl,λi r h=>?_,λi j r s h C _=>?_,_,u v l x hp,?_⟩;simp_all
 ·have a:i=0:=by
   by_cases e:i=0;omega
   ·simp[ai,e]at h
  have b:j=0:=by
   by_cases e:j=0;omega
   ·simp[ai,e]at C
  omega
 ·rintro r H' ⟨j,v',l',rfl,I,c⟩;refine⟨.own id v',bV,ai H id (some (.row v' el n (l'.map enc))),λi=>if i=id then some j else none, .own _ _ _,λj q h=>by simp at h,y v' l' c,λi s hi=>?_,λi J k s q hi E L M=>?_⟩
  ·by_cases e:i=id;simp_all;simp_all;omega
  grind
end
def aD{X:Type}(A:dN X):dN (D×X):=⟨λds=>match ds with|d::r=>(A.dec r).map λx=>(d,x)|_=>none,λx=>x.1::A.view x.2,λds x h=>by
 split at h
 ·simp only[qCn]at h;obtain⟨y,a,rfl⟩:=h;exact .cons (.same _) (A.le _ _ a)
 grind⟩
def aE(X:Type)[Cod X]{Y:Type}(A:dN Y):dN (X×Y):=⟨λds=>match ds with|d::r=>(dec d).bind λx=>(A.dec r).map λy=>(x,y)|_=>none,λx=>enc x.1::A.view x.2,λds x h=>by
 split at h
 ·simp only[qCc,qCn]at h;obtain⟨x,a,y,b,rfl⟩:=h;exact .cons (Cod.le _ _ a) (A.le _ _ b)
 grind⟩
@[simp] theorem qig{X:Type}(A:dN X)(d:D)(r:List D):(aD A).dec (d::r)=(A.dec r).map λx=>(d,x):=i' rfl
@[simp] theorem qwo{X:Type}(A:dN X)(d:D)(x:X):(aD A).view (d,x)=d::A.view x:=i' rfl
@[simp] theorem qzU{X Y:Type}[Cod X](A:dN Y)(d:D)(r:List D):(aE X A).dec (d::r)=(dec d).bind λx=>(A.dec r).map λy=>(x,y):=i' rfl
@[simp] theorem qwn{X Y:Type}[Cod X](A:dN Y)(x:X)(y:Y):(aE X A).view (x,y)=enc x::A.view y:=i' rfl
def FunIs{X Y:Type}[Cod X][Cod Y](S:Nat->Spc)(d:D)(p:X->Y):Prop:=
 ∃g caps a,d= .clo g caps/\S g= .pure a/\∀x:X,a.pre (enc x::caps)/\∀r,a.post (enc x::caps) r->r=enc (p x)
def FunIs.use'{X Y:Type}[Cod X][Cod Y]{S:Nat->Spc}{d:D}{p:X->Y}(h:FunIs S d p)(x:X)(a:Nat)(H:ab)(K:D->ab->Prop)(hk:∀y:Y,(∀q,FunIs S d q->y=q x)->K (enc y) H):Cb S d a [enc x] H K:=by
 grind [FunIs,Cb,Spc.pt,bi]
def FunIs.useB{X:Type}[Cod X]{S:Nat->Spc}{d:D}{p:X->Bool}(h:FunIs S d p)(x:X){a:Nat}{H:ab}{K:D->ab->Prop}(hk:∀y:Bool,(∀q,FunIs S d q->y=q x)->K (.v (.bool y)) H):Cb S d a [enc x] H K:=h.use' x a H K hk
def FunIs.eq{X Y:Type}[Cod X][Cod Y]{S:Nat->Spc}{d:D}{p q:X->Y}(hex:∀g a ds,S g= .pure a->a.pre ds->∃r,a.post ds r)(h:FunIs S d p)(k:FunIs S d q):p=q:=by
 obtain⟨g,caps,a,rfl,h1,h2⟩:=h;obtain⟨l,b,j,e,c,s⟩:=k;cases e;rw[h1]at c;cases c;funext x;obtain⟨r,t⟩:=hex g a _ h1 (h2 x).1;grind [bi]
def X4(d:D):Prop:=∀(tp I a b:Nat->Prop) (w w':World) (x:Value),R tp I w x d->R a b w' x d
def Nl(v:Value):X4 (.v v):=λtp I a b w w' x h=>by
 cases h with
 |v _ h1 h2=>exact .v _ h1 h2
def WK{ds:List D}(h:∀d∈ds,X4 d):X4 (.tup ds):=λtp I a l w w' x b=>by
 cases b with
 |tup xs _ hl j=>exact .tup xs ds hl λk x c h1 h2=>h c (qCg h2) _ _ _ _ _ _ _ (j k x c h1 h2)
section
variable {X Y Z:Type}[Cod Y]
def qzw(A:dN X)(pre:List Y×X->Prop)(er:Z->D)(post:List Y×X->Z->Prop)(el n:Nat):PT:=λd ds H K=>∃id v l a x,ds= .own id v::a/\A.dec a=some x/\H id=some (.row v el n (l.map enc))/\pre (l,x)/\∀z,post (l,x) z->K (er z) H
def qlo(A:dN X)(pre:List Y×X->Prop)(er:Z->D)(post:List Y×X->Z->Prop)(el n:Nat):nt (qzw A pre er post el n):=λd ds H K b hk ⟨id,v,l,a,x,h1,h2,h3,h4,h5⟩=>⟨id,v,l,a,x,h1,h2,h3,h4,λz hz=>hk _ _ (h5 z hz)⟩
def qv8(A:dN X)(pre:List Y×X->Prop)(er:Z->D)(post:List Y×X->Z->Prop)(el n:Nat):Spc:= .gen _ (qlo A pre er post el n)
def qv7(A:dN X)(pre:List Y×X->Prop)(er:Z->D)(post:List Y×X->Z->Prop)(el n:Nat)(v:Value)(ds:List D)(r:Option Res)(H:ab)(K:D->ab->Prop):Prop:=∃l,r=some (.row v el n (l.map enc))/\eX (A.dec ds) λx=>pre (l,x)/\∀z,post (l,x) z->K (er z) H
@[congr] theorem qzv{A:dN X}{pre:List Y×X->Prop}{er:Z->D}{post:List Y×X->Z->Prop}{el n:Nat}{v:Value}{ds a:List D}{r r':Option Res}{H:ab}{K:D->ab->Prop}(h1:ds=a)(h2:r=r'):qv7 A pre er post el n v ds r H K=qv7 A pre er post el n v a r' H K:=by grind
@[simp] theorem qzx(A:dN X)(pre:List Y×X->Prop)(er:Z->D)(post:List Y×X->Z->Prop)(el n:Nat)(d i:Nat)(v:Value)(ds:List D)(H:ab)(K:D->ab->Prop):(qv8 A pre er post el n).pt d (.own i v::ds) H K=qv7 A pre er post el n v ds (H i) H K:=by
 refine propext ⟨λh=>?_,λh=>?_⟩
 ·obtain⟨id,v,l,b,x,h1,h2,h3,h4,h5⟩:=h;cases h1;refine⟨l,h3,?_⟩;rw[h2];exact⟨h4,h5⟩
 ·obtain⟨l,h1,h2⟩:=h;cases a:A.dec ds with
  |none=>rw[a]at h2;exact h2.elim
  |some x=>rw[a]at h2;exact⟨i,v,l,ds,x,rfl,a,h1,h2.1,h2.2⟩
@[simp] theorem qBj(A:dN X)(pre:List Y×X->Prop)(er:Z->D)(post:List Y×X->Z->Prop)(el n:Nat)(v:Value)(ds:List D)(l:List Y)(H:ab)(K:D->ab->Prop):qv7 A pre er post el n v ds (some (.row v el n (l.map enc))) H K=eX (A.dec ds) λx=>pre (l,x)/\∀z,post (l,x) z->K (er z) H:=by
 refine propext ⟨λ⟨l',h1,h2⟩=>?_,λh=>⟨l,rfl,h⟩⟩;simp at h1;subst h1;exact h2
theorem LT{P:Program}{f:Nat}{A:dN X}{pre:List Y×X->Prop}{er:Z->D}{post:List Y×X->Z->Prop}{el n:Nat}(hf:Tri dq P f (aJ (aE (List Y) A) pre er post).pt)(hn:n=Cod.wd Y)(p:∀z,X4 (er z)):Tri dq P f (qv8 A pre er post el n).pt:=by
 intro O tp w vs ds H d K hO M a hlen t hA;obtain⟨id,v,l,E,x,rfl,hd,hid,hp,hK⟩:=hA;subst hn;cases vs with
 |nil=>grind
 | cons J vs=>
   have Q:J=v:=by
    have:=t 0 J (.own id v) rfl rfl;cases this;rfl
   subst Q
   let L:Nat->Prop:=λb=>O b\/ ∃i r,i≠id/\H i=some r/\r.blk=some b
   have F:∀b,aN O tp H w b->aN L tp bV w b:=λb hb=>⟨hb.1,λh=>h.elim hb.2.1 λ⟨i,r,_,h1,h2⟩=>hb.2.2.2 ⟨i,r,h1,h2⟩,hb.2.2.1,λ⟨i,r,h1,_⟩=>by simp at h1⟩
   have U:∀y e,R tp (aN O tp H w) w y e->R tp (aN L tp bV w) w y e:=λy e W=>W.mono (λ_ h=>h) (λb hb=>⟨F b hb,rfl⟩) (λb _=> .refl _ _)
   have hl:R tp (aN L tp bV w) w J (.list (Cod.wd Y) (l.map enc)):=Mq (λb hb=>by
    have h1:=a.out id _ b hid hb;refine⟨(a.ok id _ hid).lt hb,λh=>h.elim h1.1 λ⟨i,r,hne,h2,h3⟩=>hne (a.dis _ _ _ _ b h2 hid h3 hb),h1.2,λ⟨i,r,h2,_⟩=>by simp at h2⟩) ((a.ok id _ hid).conv U (λ_ _=>rfl))
   have I:(aE (List Y) A).dec (.list (Cod.wd Y) (l.map enc)::E)=some (l,x):=by simp[hd]
   obtain⟨hce,hc⟩:=hf L tp w (J::vs) (.list (Cod.wd Y) (l.map enc)::E) bV d (λr H'=>∃z,r=er z/\post (l,x) z/\H'=bV)
    (λb hb=>hb.elim (hO b) λ⟨i,r,_,h1,h2⟩=>(a.ok i r h1).lt h2) (M.mono λb ⟨i,r,h,_⟩=>by simp at h) ⟨λi j r s b h=>by simp,λi r b h=>by simp at h,λi r h=>by simp at h⟩ (by omega)
    (λk y e h1 h2=>by
      grind)
    (by rw[su,I];exact⟨hp,λz hz=>⟨z,rfl,hz,rfl⟩⟩)
   refine⟨hce,hc.mono ?_⟩;rintro e w' ⟨q,r,H',u,rfl,⟨z,rfl,hz,rfl⟩,t1,t2,t3,hs,ho,hsat',hR⟩;have c:∀b,b<w.heap.size->¬tp b->w'.heap[b]? =w.heap[b]?:=λb hb ht=>hs.same b hb (λ⟨i,r,h,_⟩=>by simp at h) ht
   have C:∀y e,R tp (aN O tp H w) w y e->R u (aN O u H w') w' y e:=λy e W=>W.mono t1 (λb hb=>⟨⟨qCt hb.1 hs.size,hb.2.1,λh=>by
    rcases t2 b h with h|h
    ·exact hb.2.2.1 h
    ·have:=hb.1;omega,hb.2.2.2⟩,c b hb.1 hb.2.2.1⟩) hs.tapes
   refine⟨q,er z,H,u,rfl,hK z hz,t1,t2,t3,⟨hs.os,hs.tape,hs.output,hs.size,λb hb _ ht=>c b hb ht,hs.tapes,hs.drawn⟩,λb h=> .inl h,⟨a.dis,λi r b h1 h2=>?_,λi r h1=>?_⟩,p z _ _ _ _ _ _ _ hR⟩
   ·have:=a.out i r b h1 h2;refine⟨this.1,λh=>?_⟩;rcases t2 b h with h|h;grind
    ·have:=(a.ok i r h1).lt h2;omega
   ·exact(a.ok i r h1).conv C λb hb=>c b ((a.ok i r h1).lt hb) (a.out i r b h1 hb).2
end
end
section
def RSub(r r':Res):Prop:=r=r'\/ ∃b cs cs',r= .box b cs/\r'= .box b cs'/\cs.length=cs'.length/\∀(m:Nat) (c c':D),cs[m]? =some c->cs'[m]? =some c'->TN c c'
theorem RSub.blk{r r':Res}(h:RSub r r'):r'.blk=r.blk:=by
 grind [Res.blk,RSub]
def RSub.ok{tp I:Nat->Prop}{w w':World}{r r':Res}(h:RSub r r')(d:ResOk (R tp I w) w' r):ResOk (R tp I w) w' r':=by
 rcases h with rfl|⟨b,cs,cs',rfl,rfl,hl,hc⟩;omega
 ·obtain⟨xs,el,h1,h2,h3⟩:=d;refine⟨xs,el,h1,h2.trans hl,λk y c j a=>?_⟩;have hk:k<cs.length:=by grind
  have h4:=h3 k y cs[k] j (qCe hk);exact⟨h4.1,qms (hc k _ _ (qCe hk) a) h4.2⟩
theorem StW.ren{E:AF}{tp:Nat->Prop}{H H':ab}{w:World}(ρ:Nat->Nat)(h:StW E tp H w)(k:∀i j r s,H' i=some r->H' j=some s->ρ i=ρ j->i=j)
 (hs:∀i r,H' i=some r->∃a,H (ρ i)=some a/\RSub a r):
 StW E tp H' w/\∀x d,R tp (aN E.O tp H w) w x d->R tp (aN E.O tp H' w) w x d:=by
 have c:∀b,bz H' b->bz H b:=λb ⟨i,r,h1,h2⟩=>by
  obtain⟨a,h3,h4⟩:=hs i r h1;exact⟨ρ i,a,h3,h4.blk ▸h2⟩
 have move:∀x d,R tp (aN E.O tp H w) w x d->R tp (aN E.O tp H' w) w x d:=λx d l=>
  l.mono (λ_ h=>h) (λb hb=>⟨⟨hb.1,hb.2.1,hb.2.2.1,λho=>hb.2.2.2 (c b ho)⟩,rfl⟩) (λb _=> .refl _ _)
 refine⟨⟨h.hO,h.tpx,h.tpn,h.tpl,h.step,λb hb=>h.loc b (c b hb),⟨λi j r s b h1 h2 h3 h4=>?_,λi r b h1 h2=>?_,λi r h1=>?_⟩⟩,move⟩
 ·obtain⟨a,a1,a2⟩:=hs i r h1;obtain⟨p,b1,b2⟩:=hs j s h2;exact k i j r s h1 h2 (h.sat.dis _ _ a p b a1 b1 (a2.blk ▸h3) (b2.blk ▸h4))
 ·obtain⟨a,a1,a2⟩:=hs i r h1;exact h.sat.out _ a b a1 (a2.blk ▸h2)
 ·obtain⟨a,a1,a2⟩:=hs i r h1;exact a2.ok ((h.sat.ok _ a a1).conv move (λ_ _=>rfl))
theorem qmJ{σ:Sg}{H:ab}(i j k b:Nat)(cs cs':List D)(q:i≠j)(hk:k≠i/\k≠j)(d:H k=some (.box b cs))(hl:cs.length=cs'.length)(hc:∀(m:Nat) (c c':D),cs[m]? =some c->cs'[m]? =some c'->TN c c'):
 Wk σ H σ (ai (ai (ai H i none) j (H i)) k (some (.box b cs'))):=by
 intro E a w h;obtain⟨u,x,tp,y,A⟩:=h;have hm:=y.ren (H':=ai (ai (ai H i none) j (H i)) k (some (.box b cs'))) (λt=>if t=j then i else t) (λa c r s h1 h2 h3=>?_) (λt r h1=>?_)
 ·exact⟨u,x,tp,hm.1,λt=>hm.2 _ _ (A t)⟩
 ·simp only[ai]at h1 h2;grind
 ·simp only[ai]at h1;by_cases l:t=k
  ·subst l;simp only[if_true]at h1;cases h1;simp only[hk.2,if_false];exact⟨_,d, .inr ⟨b,cs,cs',rfl,rfl,hl,hc⟩⟩
  ·simp only[l,if_false]at h1;by_cases p:t=j
   ·simp only[p,if_true]at h1 ⊢;exact⟨r,h1, .inl rfl⟩
   ·simp only[p,if_false]at h1 ⊢;by_cases C:t=i;grind
    ·simp only[C,if_false]at h1;exact⟨r,h1, .inl rfl⟩
section
variable {S:Nat->Spc}{σ σ1:Sg}{H H1:ab}{K:Ex->Sg->ab->Prop}
theorem qen{k:Nat}{b:CC}(a:Wk σ H σ1 H1)(h:vc S (.loop k b) K σ1 H1):vc S (.loop k b) K σ H:=by
 grind [Wk,To]
def HR{id i n c a b:Nat}{body:CC}(d:Wk σ H σ1 H1)(h:vc S (gH id i n c a body b) K σ1 H1):vc S (gH id i n c a body b) K σ H:=by
 grind [gH,Tp,qen]
end
variable {dq:Prop}
section
variable {X Y:Type}
def qzt(ce:X->List D)(cf:Y->List D)(pre:X->Prop)(post:X->Y->Prop):PT:=λd ds H K=>∃L id b x,ds=[.tape L, .bptr id b 0]/\H id=some (.box b (ce x))/\pre x/\∀y,post x y->K (.tup []) (ai H id (some (.box b (cf y))))
def qln(ce:X->List D)(cf:Y->List D)(pre:X->Prop)(post:X->Y->Prop):nt (qzt ce cf pre post):=λd ds H K c hk ⟨L,id,b,x,h1,h2,h3,h4⟩=>⟨L,id,b,x,h1,h2,h3,λy a=>hk _ _ (h4 y a)⟩
def qv6(ce:X->List D)(cf:Y->List D)(pre:X->Prop)(post:X->Y->Prop):Spc:= .gen _ (qln ce cf pre post)
def qzs(ce:X->List D)(cf:Y->List D)(pre:X->Prop)(post:X->Y->Prop)(id b:Nat)(r:Option Res)(H:ab)(K:D->ab->Prop):Prop:=∃x,r=some (.box b (ce x))/\pre x/\∀y,post x y->K (.tup []) (ai H id (some (.box b (cf y))))
@[congr] theorem qzr{ce:X->List D}{cf:Y->List D}{pre:X->Prop}{post:X->Y->Prop}{id b:Nat}{r r':Option Res}{H:ab}{K:D->ab->Prop}(h:r=r'):qzs ce cf pre post id b r H K=qzs ce cf pre post id b r' H K:=by grind
@[simp] theorem qzu(ce:X->List D)(cf:Y->List D)(pre:X->Prop)(post:X->Y->Prop)(d i b:Nat)(L:List Int)(H:ab)(K:D->ab->Prop):(qv6 ce cf pre post).pt d [.tape L, .bptr i b 0] H K=qzs ce cf pre post i b (H i) H K:=by
 refine propext ⟨λh=>?_,λh=>?_⟩
 ·obtain⟨a,id,b',x,h1,h2,h3,h4⟩:=h;cases h1;exact⟨x,h2,h3,h4⟩
 ·obtain⟨x,h1,h2,h3⟩:=h;exact⟨L,i,b,x,rfl,h1,h2,h3⟩
variable {P:Program}{S:Nat->Spc}{f:Nat}{im:List Nat}{cc:CC}{rs:List ak}{N:Nat}
end
def HWk(H a:ab):Prop:=∀(E:AF) (tp:Nat->Prop) (w:World),StW E tp H w->StW E tp a w/\∀x d,R tp (aN E.O tp H w) w x d->R tp (aN E.O tp a w) w x d
def HWk.refl(H:ab):HWk H H:=λ_ _ _ h=>⟨h,λ_ _ h=>h⟩
def Wk.trans{σ b c:Sg}{H d j:ab}(h:Wk σ H b d)(k:Wk b d c j):Wk σ H c j:=λE a w hs=>k E a w (h E a w hs)
def qkS(k:Nat)(ks:List Nat)(H:ab):ab:=λi=>if i=k\/i∈ks then none else H i
def left(k b:Nat)(cs:List D)(ks:List Nat)(H:ab):ab:=λi=>if i=k then some (.box b cs)else if i∈ks then H i else none
theorem qkL{H:ab}(k b:Nat)(cs cs':List D)(ks:List Nat)(hk:H k=some (.box b cs))(hl:cs.length=cs'.length)
 (hc:∀(m:Nat) (c c':D),cs[m]? =some c->cs'[m]? =some c'->FrzTo (qkS k ks H) c c'):HWk H (left k b cs' ks H):=by
 intro E tp w h;have hs:∀i r,left k b cs' ks H i=some r->(i=k/\r= .box b cs')\/(i≠k/\i∈ks/\H i=some r):=λi r h1=>by
  simp only[left]at h1;grind
 have a:∀i r c,left k b cs' ks H i=some r->r.blk=some c->∃q,H i=some q/\q.blk=some c:=λi r c h1 h2=>by
  grind [Res.blk]
 have l:∀c,bz (left k b cs' ks H) c->bz H c:=λc ⟨i,r,h1,h2⟩=>by
  grind [bz]
 have p:∀c,aN E.O tp H w c->aN E.O tp (left k b cs' ks H) w c:=λc hb=>⟨hb.1,hb.2.1,hb.2.2.1,λho=>hb.2.2.2 (l c ho)⟩
 have move:∀x d,R tp (aN E.O tp H w) w x d->R tp (aN E.O tp (left k b cs' ks H) w) w x d:=λx d A=>
  A.mono (λ_ h=>h) (λb hb=>⟨p b hb,rfl⟩) (λb _=> .refl _ _)
 refine⟨⟨h.hO,h.tpx,h.tpn,h.tpl,h.step,λb hb=>h.loc b (l b hb),⟨λi j r s c h1 h2 h3 h4=>?_,λi r c h1 h2=>?_,λi r h1=>?_⟩⟩,move⟩
 ·obtain⟨q,a1,a2⟩:=a i r c h1 h3;obtain⟨t,b1,b2⟩:=a j s c h2 h4;exact h.sat.dis i j q t c a1 b1 a2 b2
 ·obtain⟨q,a1,a2⟩:=a i r c h1 h2;exact h.sat.out i q c a1 a2
 ·rcases hs i r h1 with⟨rfl,rfl⟩|⟨_,_,h3⟩
  ·obtain⟨xs,el,h1,h2,h3⟩:=h.sat.ok _ _ hk;refine⟨xs,el,h1,h2.trans hl,λm y c C u=>?_⟩;have hm:m<cs.length:=by grind
   have h4:=h3 m y cs[m] C (qCe hm);refine⟨h4.1,(hc m _ _ (qCe hm) u).R (H:=bV) (λi r hi=>?_) p (λi r c hi hb=>?_) h4.2⟩
   ·simp only[qkS]at hi;split at hi;grind
    ·exact h.sat.ok i r hi
   ·simp only[qkS]at hi;split at hi;grind
    ·rename_i hn;have ho:=h.sat.out i r c hi hb;refine⟨(h.sat.ok i r hi).lt hb,ho.1,ho.2,λ⟨j,s,F,I⟩=>?_⟩;obtain⟨t,J,L⟩:=a j s c F I;have e:=h.sat.dis i j r t c hi J hb L;grind
  ·exact(h.sat.ok i r h3).conv move (λ_ _=>rfl)
section
variable {S:Nat->Spc}{σ:Sg}{H:ab}{K:Ex->Sg->ab->Prop}
def qjs{X:Type}(P:X->Prop)(s:X->Sg)(h:X->ab){k:Nat}{a b:CC}
 (d:vc S a (V9 (λc H'=>∃x,P x/\Wk c H' (s x) (h x)) K) σ H)
 (hb:∀x,P x->vc S b K (s x) (h x)):vc S (OU k a b) K σ H:=by
 unfold OU;rw[WY];refine yF a _ _ (λe c H' h=>?_) d;cases e<;>grind [U7,V9,qhf]
end
section
variable {P:Program}{im:List Nat}{E:AF}{S:Nat->Spc}
theorem Yz{f:Nat}{fn:Func}{code:Code}{cc:CC}{rs:List ak}{A:PT}(hS:∀f,Tri dq P f (S f).pt)(hmix:P.follows .mixedOrders=true)(hf:P.funcs[f]? =some fn)(hb:fn.body=some code)(hce:dj P f){N:Nat}(hN:fn.ntmps=N)
 (hcc:ay P im N code=some (bH cc)) (hrs:fn.results.toList.mapM (fy P)=some rs)
 (hA:∀ (ds:List D) (H:ab) (d:Nat) (K:D->ab->Prop),A d ds H K->ds.length<=N/\
   ∃ (Y:List D) (M:ab) (ι:Nat->Nat),LeL ds Y/\(∀i r,M i=some r->H (ι i)=some r)/\(∀i j r s,M i=some r->M j=some s->ι i=ι j->i=j)/\
    ∃Q:D->ab->Prop,vc S cc (tJ rs Q) (dt Y) M/\∀r H',Q r H'->∃(r':D) (H2 Hf Hc:ab) (κ:Nat->Option Nat),HWk H' H2/\FrzTo Hf r r'/\(∀j q,Hf j=some q->H2 j=some q/\∀i,κ i≠some j)/\K r' Hc/\
     (∀i s,Hc i=some s->match κ i with|some j=>H2 j=some s|none=>H i=some s/\∀k q,M k=some q->ι k≠i)/\
     (∀i j k s q,Hc i=some s->Hc j=some q->κ i=some k->κ j=some k->i=j)):Tri dq P f A:=by
 intro O tp w vs ds H d K hO htl u hlen hargs hAK;refine⟨hce,?_⟩;obtain⟨hdN,Y,M,ι,hle,C,hinj,Q,hv,hQ⟩:=hA ds H d K hAK
 let W:Nat->Prop:=λi=>∃k q,M k=some q/\ι k=i
 let rest:Nat->Prop:=λb=>∃i r,H i=some r/\ ¬W i/\r.blk=some b
 let E:AF:={ O:=λb=>O b\/rest b,tp0:=tp,w0:=w,own0:=bz M,N:=N,dq:=dq }
 have y:∀b,bz M b->bz H b:=λb ⟨i,r,h1,h2⟩=>⟨ι i,r,C i r h1,h2⟩
 have Z:∀b,rest b->b<w.heap.size:=λb ⟨i,r,h1,_,h2⟩=>(u.ok i r h1).lt h2
 have I:∀b,rest b->¬bz M b:=λb ⟨i,r,h1,h2,h3⟩ ⟨j,s,h4,h5⟩=>h2 ⟨j,s,h4,(u.dis i (ι j) r s b h1 (C j s h4) h3 h5).symm⟩
 have himm:∀b,aN O tp H w b->aN E.O tp M w b:=λb hb=>⟨hb.1,λh=>h.elim hb.2.1 (λ⟨i,r,h1,_,h2⟩=>hb.2.2.2 ⟨i,r,h1,h2⟩),hb.2.2.1,λh=>hb.2.2.2 (y b h)⟩
 have hmove:∀x e,R tp (aN O tp H w) w x e->R tp (aN E.O tp M w) w x e:=λx e hr=>hr.mono (λ_ h=>h) (λb hb=>⟨himm b hb,rfl⟩) (λb _=> .refl _ _)
 have hstw:StW E tp M w:=by
  refine⟨λb hb=>hb.elim (hO b) (Z b),λb h=>h,λb h=> .inl h,⟨htl.1,htl.2.mono (λ_ h=>h) y⟩, .refl _ _ _,λb hb=> .inl hb,⟨λi j r s b h1 h2 h3 h4=>?_,λi r b h1 h2=>⟨λh=>?_,?_⟩,λi r h1=>?_⟩⟩
  ·exact hinj i j r s h1 h2 (u.dis _ _ r s b (C i r h1) (C j s h2) h3 h4)
  ·rcases h with h|h
   ·exact(u.out _ r b (C i r h1) h2).1 h
   ·exact I b h ⟨i,r,h1,h2⟩
  ·exact(u.out _ r b (C i r h1) h2).2
  ·exact(u.ok _ r (C i r h1)).conv hmove (λ_ _=>rfl)
 have hst:St E (dt Y) M { tmps:=vs.toArray++Array.replicate (fn.ntmps -vs.toArray.size) undef,defers:=[] } w:=by
  refine⟨rfl,?_,tp,hstw,λt=>?_⟩
  ·show(vs.toArray++Array.replicate (fn.ntmps -vs.toArray.size) undef).size=N;simp;omega
  ·unfold dt;cases hd:Y[t]? with
   |none=>exact .any _
   | some e'=>
     have hlt:t<vs.length:=by rw[hlen,hle.1];exact(qCd.1 hd).1
     have hlt':t<ds.length:=by rw[<-hlen];exact hlt
     have hg:(vs.toArray++Array.replicate (fn.ntmps -vs.toArray.size) undef).getD t undef=vs[t]:=by
      rw[qCX,qC0 (by simpa using hlt)];simp[hlt]
     simp only[qCV,hg];have he:=qCe hlt';exact(hle.2 t _ e' he hd).R (H:=bV) (λi r h=>by cases h) (λ_ h=>h) (λi r b h=>by cases h) (hmove _ _ (hargs t _ _ (by simp[hlt]) he))
 have hwp:=xK hS hmix cc code (by exact hcc) _ _ _ _ w hst hv;refine calls_of_wp hf hb (qDv ?_ hwp);have vM:∀a' w' J H',St E J H' a' w'->(yb rs J H' λds=>Q (dI ds) H')->
  a'.defers=[]/\∃v,(results fn a'.tmps).run P w'= .ok v w'/\X2 dq O tp H w K (.returned v) w':=by
  intro a' w' J H' hst' hres;obtain⟨hd',hN',U,hw',hr'⟩:=hst';obtain⟨v,r0,hrun,hR,hq⟩:=rA (K:=λr=>Q r H') hrs hr' hw'.sat.ok hres;obtain⟨r,H2,Hf,Hc,κ,hW,hfz,hHf,hK,hκ,hκi⟩:=hQ r0 H' hq;obtain⟨p,mv2⟩:=hW _ _ _ hw';refine⟨hd',v,hrun,v,r,Hc,U,rfl,hK,p.tpx,p.tpn,p.tpl.1,?_,?_,?_,?_⟩
  ·-- the step
   have hs:=p.step;exact⟨hs.os,hs.tape,hs.output,hs.size,λb hb ho ht=>hs.same b hb (λh=>ho (y b h)) ht,hs.tapes,hs.drawn⟩
  all_goals
   have L:∀i s,Hc i=some s->(∃j,κ i=some j/\H2 j=some s)\/(κ i=none/\H i=some s/\ ¬W i):=λi s hi=>by
    have:=hκ i s hi;cases hk:κ i with
    |some j=>rw[hk]at this;exact .inl ⟨j,rfl,this⟩
    |none=>rw[hk]at this;exact .inr ⟨rfl,this.1,λ⟨k,q,h1,h2⟩=>this.2 k q h1 h2⟩
  ·intro b ⟨i,s,h1,h2⟩;rcases L i s h1 with⟨j,_,h3⟩|⟨_,h3,_⟩
   ·rcases p.loc b ⟨j,s,h3,h2⟩with h4|h4
    ·exact .inl (y b h4)
    ·exact .inr h4
   ·exact .inl ⟨i,s,h3,h2⟩
  all_goals
   have hownc:∀b,bz Hc b->bz H2 b\/rest b:=λb ⟨i,s,h1,h2⟩=>by
    rcases L i s h1 with⟨j,_,h3⟩|⟨_,h3,h4⟩
    ·exact .inl ⟨j,s,h3,h2⟩
    ·exact .inr ⟨i,s,h3,h4,h2⟩
   have himmc:∀b,aN E.O U H2 w' b->aN O U Hc w' b:=λb hb=>⟨hb.1,λh=>hb.2.1 (.inl h),hb.2.2.1,λh=>by
    rcases hownc b h with h|h
    ·exact hb.2.2.2 h
    ·exact hb.2.1 (.inr h)⟩
   have hmovec:∀x e,R U (aN E.O U H2 w') w' x e->R U (aN O U Hc w') w' x e:=λx e hr=>hr.mono (λ_ h=>h) (λb hb=>⟨himmc b hb,rfl⟩) (λb _=> .refl _ _)
  ·refine⟨λi j s q b h1 h2 h3 h4=>?_,λi s b h1 h2=>?_,λi s h1=>?_⟩
   ·rcases L i s h1 with⟨i',e1,F⟩|⟨e1,F,p1⟩
    ·rcases L j q h2 with⟨j',e2,k2⟩|⟨e2,k2,p2⟩
     ·have:=p.sat.dis i' j' s q b F k2 h3 h4;subst this;exact hκi i j i' s q h1 h2 e1 e2
     ·exact absurd (Or.inr ⟨j,q,k2,p2,h4⟩) (p.sat.out i' s b F h3).1
    ·rcases L j q h2 with⟨j',e2,k2⟩|⟨e2,k2,p2⟩
     ·exact absurd (Or.inr ⟨i,s,F,p1,h3⟩) (p.sat.out j' q b k2 h4).1
     ·exact u.dis i j s q b F k2 h3 h4
   ·rcases L i s h1 with⟨i',e1,F⟩|⟨e1,F,p1⟩
    ·have:=p.sat.out i' s b F h2;exact⟨λh=>this.1 (.inl h),this.2⟩
    ·have h3:=u.out i s b F h2;refine⟨h3.1,λh=>?_⟩;rcases p.tpn b h with h4|h4
     ·exact h3.2 h4
     ·have:=(u.ok i s F).lt h2;have h4':w.heap.size<=b:=h4;omega
   ·rcases L i s h1 with⟨i',e1,F⟩|⟨e1,F,p1⟩
    ·exact(p.sat.ok i' s F).conv hmovec (λ_ _=>rfl)
    ·-- a resource that was not handed in is as it was
     have hs:=p.step;have hsame:∀b,b<w.heap.size->¬bz M b->¬tp b->w'.heap[b]? =w.heap[b]?:=hs.same;refine(u.ok i s F).conv (λx e hr=>?_) (λb hb=>hsame b ((u.ok i s F).lt hb) (I b ⟨i,s,F,p1,hb⟩) (u.out i s b F hb).2);refine hr.mono p.tpx (λb hb=>?_) hs.tapes;have h0:¬bz M b:=λh=>hb.2.2.2 (y b h)
     have hsz:w.heap.size<=w'.heap.size:=hs.size;have hbl:b<w.heap.size:=hb.1;refine⟨⟨by omega,hb.2.1,λh=>?_,λh=>?_⟩,hsame b hb.1 h0 hb.2.2.1⟩
     ·rcases p.tpn b h with h4|h4
      ·exact hb.2.2.1 h4
      ·have h4':w.heap.size<=b:=h4;omega
     ·rcases hownc b h with h|h
      ·rcases p.loc b h with h4|h4
       ·exact h0 h4
       ·have h4':w.heap.size<=b:=h4;omega
      ·obtain⟨j,q,h5,_,h6⟩:=h;exact hb.2.2.2 ⟨j,q,h5,h6⟩
  ·refine hfz.R (H:=bV) (λi q hi=>p.sat.ok i q (hHf i q hi).1) himmc (λi q b hi hb=>?_) (mv2 _ _ hR);obtain⟨hi',hne⟩:=hHf i q hi;have ho:=p.sat.out i q b hi' hb;refine⟨(p.sat.ok i q hi').lt hb,λh=>ho.1 (.inl h),ho.2,λ⟨j,s,h1,h2⟩=>?_⟩;rcases L j s h1 with⟨j',e1,F⟩|⟨e1,F,p1⟩
   ·have:=p.sat.dis i j' q s b hi' F hb h2;subst this;exact hne j e1
   ·exact ho.1 (.inr ⟨j,s,F,p1,h2⟩)
 intro e a' w' hp;cases e with
 | normal=>
   obtain⟨J,H',hs,hk⟩:=hp;exact vM a' w' J H' hs hk
 | ret=>
   obtain⟨J,H',hs,hk⟩:=hp;exact vM a' w' J H' hs hk
 | exit i=>
   obtain⟨J,H',hs,hk⟩:=hp;exact hk.elim
 |goto l=>exact hp.elim
 |panic c=>exact hp.elim
 |outgrown=>exact hp.elim
end
end
section
open Cod (enc dec)
variable {S S0:Nat->Spc}
def M1(x n:Int)(h:1<=n):0<=Iy x n/\Iy x n<n:=by
 unfold Iy;rw[if_neg (by omega)];have h1:=Int.tmod_lt_of_pos x (show 0<n by omega);have h2: -n<x.tmod n:=by
  have h3:=Int.natAbs_tmod x n;have h4:x.natAbs % n.natAbs<n.natAbs:=qDs _ (by omega);omega
 split<;>omega
def qpL:CC:= .reg [
 .op (some 4) none (.mv (.const (.int .i64 0)))]
def qnU:CC:= .seq (.regd [
 .op (some 5) none (.mv (.tmp 0)),
 .op (some 6) none (.nilck (.tmp 5)),
 .op (some 7) none (.faddr 1 (.tmp 6)),
 .op (some 8) none (.load false 1 (.tmp 7)),
 .op (some 9) none (.mv (.tmp 0)),
 .op (some 10) none (.nilck (.tmp 9)),
 .op (some 11) none (.faddr 0 (.tmp 10)),
 .op (some 12) none (.load false 1 (.tmp 11)),
 .op (some 13) none (.len (.tmp 12))] [
 .op (some 14) none (.cmp .geq (.tmp 8) (.tmp 13))]) (.ite (.tmp 14) (.seq (.reg [
  .op (some 4) none (.mv (.const (.int .i64 0)))]) .ret) .skip)
def ql9:CC:= .reg [
 .op (some 15) none (.mv (.tmp 0)),
 .op (some 16) none (.nilck (.tmp 15)),
 .op (some 17) none (.faddr 1 (.tmp 16)),
 .op (some 18) none (.load false 1 (.tmp 17)),
 .op (some 19) none (.arith .add (.tmp 18) (.const (.int .i64 1))),
 .op (some 20) none (.nilck (.tmp 15)),
 .op (some 21) none (.faddr 1 (.tmp 20)),
 .op none none (.store none 1 (.tmp 21) (.tmp 19))]
def qpK:CC:= .seq (.regd [
 .op (some 22) none (.mv (.tmp 0)),
 .op (some 23) none (.nilck (.tmp 22)),
 .op (some 24) none (.faddr 0 (.tmp 23)),
 .op (some 25) none (.load false 1 (.tmp 24)),
 .op (some 26) none (.mv (.tmp 0)),
 .op (some 27) none (.nilck (.tmp 26)),
 .op (some 28) none (.faddr 1 (.tmp 27)),
 .op (some 29) none (.load false 1 (.tmp 28)),
 .op (some 30) none (.arith .sub (.tmp 29) (.const (.int .i64 1))),
 .op (some 31) none (.iaddr 1 (.tmp 25) (.tmp 30)),
 .op (some 32) none (.load false 1 (.tmp 31)),
 .op (some 33) none (.mv (.tmp 1))] [
 .op (some 34) none (.call wi [(.tmp 32),(.tmp 33)]),
 .op (some 4) none (.mv (.tmp 34))]) .ret
def qfZ:bH vB= .seq qpL (.seq qnU (.seq ql9 qpK)):=rfl
def qrj:bH qpL=qpL:=rfl
def qri:bH qnU=qnU:=rfl
def qrh:bH ql9=ql9:=rfl
def qrg:bH qpK=qpK:=rfl
def ql8(b:Nat)(s:Value)(i n:Int):Ex->Sg->ab->Prop:=λe a H=>match e with
 | .norm=>a 0= .bptr 0 b 0/\a 1= .v (.int .i64 n)/\H 0=some (.box b [.v s, .v (.int .i64 (i+1))])/\i<slen s
 | .ret=>a 4= .v (.int .i64 0)/\H 0=some (.box b [.v s, .v (.int .i64 i)])
 | .ex _=>False
@[simp ↓] theorem qAE(b:Nat)(s:Value)(i n:Int)(a:Sg)(H:ab):ql8 b s i n .norm a H=(a 0= .bptr 0 b 0/\a 1= .v (.int .i64 n)/\H 0=some (.box b [.v s, .v (.int .i64 (i+1))])/\i<slen s):=i' rfl
@[simp ↓] theorem qAD(b:Nat)(s:Value)(i n:Int)(a:Sg)(H:ab):ql8 b s i n .ret a H=(a 4= .v (.int .i64 0)/\H 0=some (.box b [.v s, .v (.int .i64 i)])):=i' rfl
def qke(b:Nat)(a:Option Addr)(len cap:Nat)(i n:Int)(h0:0<=i)(hl:(len:Int)<=9223372036854775807):vc S (.seq qpL (.seq qnU ql9)) (ql8 b (.slice a len cap) i n) (dt [.bptr 0 b 0, .v (.int .i64 n)]) (ai bV 0 (some (.box b [.v (.slice a len cap), .v (.int .i64 i)]))):=by
 simp[qpL,qnU,ql9,slen];intro h;exact⟨by simp only[InR];omega,h⟩
def qAC(n:Int):Ex->Sg->ab->Prop:=λe a H=>match e with
 | .ret=>∃y,a 4= .v (.int .i64 y)/\(n< 1/\y=0\/1<=n/\0<=y/\y<n)
 | _=>False
@[simp ↓] theorem qAB(n:Int)(a:Sg)(H:ab):qAC n .ret a H=(∃y,a 4= .v (.int .i64 y)/\(n< 1/\y=0\/1<=n/\0<=y/\y<n)):=i' rfl
def qkd(hm:S wi=s_m_Mod)(L:List Int)(i n:Int)(h0:0<=i)(hi:i<L.length)(hn:n<=1000000000)(hl:(L.length:Int)<=9223372036854775807):vc S qpK (qAC n) (dt [.cptr [.list 1 (L.map enc), .v (.int .i64 (i+1))] 0, .v (.int .i64 n)]) bV:=by
 obtain⟨x,b⟩:=bh (l:=L) (k:=i.toNat) (by omega);simp[qpK,hm];refine⟨by simp only[InR];omega,h0,hi,λa _=>⟨hn,?_⟩⟩;rcases Int.lt_or_le n 1 with h|h
 ·exact .inl ⟨h,by simp[Iy,h]⟩
 ·exact .inr ⟨h,M1 a n h⟩
end
section
open Cod (enc dec)
variable {dq:Prop}
def M9{tp I p r:Nat->Prop}{w w':World}{s:Value}{es:List D}(q:∀d∈es,∃n,d= .v (.int .i64 n))(h:R tp I w s (.list 1 es))(hI:∀c,I c->r c/\w'.heap[c]? =w.heap[c]?):R p r w' s (.list 1 es):=by
 cases h with
 |nolist a cap _=>exact .nolist _ _ _
 | list b off cap n es f hb hc hm hz hn hcell h1 h2=>
   refine .list b off cap _ es f (hI b hb).1 hc hm (λh=>absurd rfl h) hn (λk c hk=>by grind [D,PlainB,World.cell?_of_block]) h1 (λk c hk=>?_);have j:=qCg hk;simp only[ba,qDq]at j;obtain⟨d,t,l⟩:=j;obtain⟨n,rfl⟩:=q d t;simp[D.cells]at l;subst l;have:=h2 k _ hk;generalize f k=y at this ⊢;cases this with
   |v _ a1 a2=>exact .v _ a1 a2
def NL{P:Program}{im:List Nat}{N:Nat}{code:Code}{a b:CC}(h:ay P im N code=some (.seq a b)):∃x y,code= .seq x y/\ay P im N x=some a/\ay P im N y=some b:=by
 grind [bq]
abbrev s_m_Next:Spc:=aJ (aT (a1 Int)) (λx=>x.2<=1000000000) (enc (X:=Int)) (λx y=>x.2< 1/\y=0\/1<=x.2/\0<=y/\y<x.2)
section
variable {P:Program}{S:Nat->Spc}{f:Nat}{im:List Nat}{N:Nat}
theorem qez(hS:∀f,Tri dq P f (S f).pt)(hm:S wi=s_m_Mod)(h:xD P f im vB Bk N)(hN:2<=N):Tri dq P f s_m_Next.pt:=by
 obtain⟨vX,enter,fn,code,h1,h2,h3,h4,h5⟩:=h;subst h3;rw[qfZ]at h4;obtain⟨x0,y0,rfl,hc0,h4⟩:=NL h4;obtain⟨xA,yA,rfl,hcA,h4⟩:=NL h4;obtain⟨xB,xC,rfl,hcB,hcC⟩:=NL h4;intro O tp w vs ds H d K hO htl Q hlen U hA;refine⟨enter,calls_of_wp h1 h2 ?_⟩;simp only[s_m_Next,su]at hA;cases hd:(aT (a1 Int)).dec ds with
 |none=>simp_all
 |some x=>
 rw[hd]at hA;obtain⟨L,n⟩:=x;obtain⟨hp,hK⟩:=hA;have hl:=(aT (a1 Int)).le ds (L,n) hd;have hl1:ds.length=2:=hl.1
 match ds,vs,hl,hl1,hlen,U with
 | [d0,d1], [v0,v1],hl,_,_,U=>
 have e0:d0= .tape L:=by
  have:=hl.2 0 d0 (.tape L) rfl rfl;cases this;rfl
 have e1:d1= .v (.int .i64 n):=by
  have:=hl.2 1 d1 (.v (.int .i64 n)) rfl rfl;cases this;rfl
 subst e0;subst e1;have r1:=(U 1 v1 _ rfl rfl).inv_v;subst r1;have r0:=U 0 v0 _ rfl rfl;cases r0 with
 |tape b _ s i el hb hh g0 g1 gs hR=>
 obtain⟨a,len,cap,rfl⟩:∃a len cap,s= .slice a len cap:=by
  generalize L.map (λn=>D.v (.int .i64 n))=es at hR;cases hR<;>exact⟨_,_,_,rfl⟩
 have hlen:(len:Int)<=9223372036854775807:=by
  generalize L.map (λn=>D.v (.int .i64 n))=es at hR;cases hR with
  |nolist=>simp
  |list b off cap n es f hI hc hm=>simp only[maxLen]at hm;omega
 have hLl:len=L.length:=gs;have hbl:=htl.1 b hb
 let O2:Nat->Prop:=λx=>(O x\/bz H x)/\x≠b
 let tp2:Nat->Prop:=λx=>tp x/\x≠b
 let E2:AF:={ O:=O2,tp0:=tp2,w0:=w,own0:=λx=>x=b,N:=fn.ntmps,dq:=dq }
 let H2:ab:=ai bV 0 (some (.box b [.v (.slice a len cap), .v (.int .i64 i)]))
 have hownlt:∀c,bz H c->c<w.heap.size:=λc ⟨j,r,C,Y⟩=>(Q.ok j r C).lt Y
 have h2:∀j r,H2 j=some r->j=0/\r= .box b [.v (.slice a len cap), .v (.int .i64 i)]:=λj r hj=>by
  by_cases e:j=0
  ·subst e;simp only[H2,ai,if_true]at hj;cases hj;exact⟨rfl,rfl⟩
  ·simp[H2,ai,e,bV]at hj
 have hst:St E2 (dt [.bptr 0 b 0, .v (.int .i64 n)]) H2 { tmps:= #[.pointer (some ⟨b,0,none⟩), .int .i64 n] ++Array.replicate (fn.ntmps -2) undef,defers:=[] } w:=by
  refine⟨rfl,?_,tp2,⟨λc hc=>hc.1.elim (hO c) (hownlt c),λc hc=>hc,λc hc=> .inl hc,⟨λc hc=>htl.1 c hc.1,λp hp=>⟨λh=>(htl.2 p hp).1 h.1,λh=>(htl.2 p hp).1 (h ▸hb),(htl.2 p hp).2.2⟩⟩, .refl _ _ _,λc ⟨j,r,C,Y⟩=>?_,⟨λj k r q c C Y k3 k4=>?_,λj r c C Y=>?_,λj r C=>?_⟩⟩,λt=>?_⟩
  ·show(_:Array Value).size=fn.ntmps;simp;omega
  ·obtain⟨_,rfl⟩:=h2 j r C;cases Y;exact .inl rfl
  ·rw[(h2 j r C).1,(h2 k q Y).1]
  ·obtain⟨_,rfl⟩:=h2 j r C;cases Y;exact⟨λh=>h.2 rfl,λh=>h.2 rfl⟩
  ·obtain⟨_,rfl⟩:=h2 j r C;refine⟨_,el,hh,rfl,λk y c hy hc=>?_⟩;rcases k with _|_|k
   ·simp at hy hc;subst hy;subst hc;exact⟨rfl, .v _ rfl (λs hs=>by cases hs)⟩
   ·simp at hy hc;subst hy;subst hc;exact⟨rfl, .v _ rfl (λs hs=>by cases hs)⟩
   ·simp at hy
  ·have q0:(#[Value.pointer (some ⟨b,0,none⟩), .int .i64 n] ++Array.replicate (fn.ntmps -2) undef).getD 0 undef=Value.pointer (some ⟨b,0,none⟩):=by
    rw[qCX,qC0 (by simp)];rfl
   have q1:(#[Value.pointer (some ⟨b,0,none⟩), .int .i64 n] ++Array.replicate (fn.ntmps -2) undef).getD 1 undef=Value.int .i64 n:=by
    rw[qCX,qC0 (by simp)];rfl
   rcases t with _|_|t
   ·show R _ _ _ (Array.getD _ 0 undef) _;rw[q0];exact .bptr _ _ _
   ·show R _ _ _ (Array.getD _ 1 undef) _;rw[q1];exact .v _ rfl (λs hs=>by cases hs)
   ·exact .any _
 have vM:∀(Z:World) (j y:Int) (W:Nat),Z.os=w.os->Z.tape=w.tape->Z.output=w.output->w.heap.size<=Z.heap.size->(∀c,c<w.heap.size->¬tp c->Z.heap[c]? =w.heap[c]?)->
  (∀c,tp c->c≠b->TapeStep w Z c)->Z.heap[b]? =some (.cells #[.slice a len cap, .int .i64 j] W (0,0))->0<=j->j<=len->(dq->w.drawn<=Z.drawn)->
  (n< 1/\y=0\/1<=n/\0<=y/\y<n)->X2 dq O tp H w K (.returned (.int .i64 y)) Z:=by
  intro Z j y W s1 s2 s3 s4 s5 s6 s7 s8 s9 s11 s10;have htapes:∀c,tp c->TapeStep w Z c:=λc hc=>by
   by_cases e:c=b
   ·subst e;intro s' i' el0 hh' _ _;rw[hh]at hh';cases hh';exact⟨j,W,s7,s8,s9⟩
   ·exact s6 c hc e
  refine⟨_, .v (.int .i64 y),H,tp,rfl,hK y s10,λc hc=>hc,λc hc=> .inl hc,λc hc=>qCt (htl.1 c hc) s4,⟨s1,s2,s3,s4,λc hc _ ht=>s5 c hc ht,htapes,s11⟩,λc hc=> .inl hc,
   ⟨Q.dis,Q.out,λk r hk=>(Q.ok k r hk).conv (λx d hr=>hr.mono (λ_ h=>h) (λc hc=>⟨⟨qCt hc.1 s4,hc.2.1,hc.2.2.1,hc.2.2.2⟩,s5 c hc.1 hc.2.2.1⟩) htapes) (λc hc=>s5 c ((Q.ok k r hk).lt hc) (Q.out k r c hk hc).2)⟩, .v _ rfl (λs hs=>by cases hs)⟩
 have hv:=qke (S:=S) b a len cap i n g0 hlen;have cells2:∀(tp':Nat->Prop) (H':ab) (w':World) (j:Int),StW E2 tp' H' w'->H' 0=some (.box b [.v (.slice a len cap), .v (.int .i64 j)])->∃W,w'.heap[b]? =some (.cells #[.slice a len cap, .int .i64 j] W (0,0)):=by
  intro tp' H' w' j hw hH;obtain⟨xs,W,C,Y,k3⟩:=hw.sat.ok 0 _ hH;refine⟨W,?_⟩;rw[C];obtain⟨l⟩:=xs
  match l,Y,k3 with
  | [x,y],_,k3=>
    have a1:=(k3 0 x _ rfl rfl).2.inv_v;have a2:=(k3 1 y _ rfl rfl).2.inv_v;rw[a1,a2]
 have hret:∀(a':Act) (w':World) (σ':Sg) (H':ab),St E2 σ' H' a' w'->ql8 b (.slice a len cap) i n .ret σ' H'->a'.defers=[]/\∃v,(results fn a'.tmps).run P w'= .ok v w'/\X2 dq O tp H w K (.returned v) w':=by
  rintro a' w' σ' H' ⟨hd',hN',tp',hw',hr'⟩ ⟨C,Y⟩;obtain⟨v,r0,hrun,hRv,hq⟩:=rA (H:=H') (K:=λr=>r= .v (.int .i64 0)) h5 hr' hw'.sat.ok C;subst hq;have:=hRv.inv_v;subst this;obtain⟨W,k3⟩:=cells2 tp' H' w' i hw' Y;have st:=hw'.step;refine⟨hd',_,hrun,vM w' i 0 W st.os st.tape st.output st.size (λc hc ht=>st.same c hc (λe=>ht (e ▸hb)) (λh=>ht h.1)) (λc hc hcb=>st.tapes c ⟨hc,hcb⟩) k3 g0 g1 st.drawn ?_⟩;rcases Int.lt_or_le n 1 with h|h
  ·exact .inl ⟨h,rfl⟩
  ·exact .inr ⟨h,by omega,by omega⟩
 have htail:∀(a':Act) (w':World) (σ':Sg) (H':ab),St E2 σ' H' a' w'->ql8 b (.slice a len cap) i n .norm σ' H'->xC.wp P (bodyPost P fn (X2 dq O tp H w K)) a' w':=by
  rintro a1 J M H1 ⟨hd1,hN1,F,hw1,hr1⟩ ⟨C,Y,k3,k4⟩;obtain⟨el1,k5⟩:=cells2 F H1 J (i+1) hw1 k3;have A:=hw1.step;have hsz1:w.heap.size<=J.heap.size:=A.size;have same1:∀c,c<w.heap.size->¬tp c->J.heap[c]? =w.heap[c]?:=λc hc ht=>A.same c hc (λe=>ht (e ▸hb)) (λh=>ht h.1)
  have tp1o:∀c,c<w.heap.size->F c->tp2 c:=λc hc h=>(hw1.tpn c h).elim id (λh=>by
   have h:w.heap.size<=c:=h;omega)
  have hb1:¬F b:=λh=>(tp1o b hbl h).2 rfl
  let E3:AF:={ O:=O2,tp0:=F,w0:=J,own0:=λ_=>False,N:=fn.ntmps,dq:=dq }
  have himm:∀c,aN O tp H w c->aN O2 F bV J c/\J.heap[c]? =w.heap[c]?:=λc hc=>⟨⟨qCt hc.1 hsz1,λh=>h.1.elim hc.2.1 hc.2.2.2,λh=>hc.2.2.1 (tp1o c hc.1 h).1,λ⟨j,r,h,_⟩=>by simp[bV]at h⟩,same1 c hc.1 hc.2.2.1⟩
  have hbi:aN O2 F bV J b:=⟨qCt hbl hsz1,λh=>h.2 rfl,hb1,λ⟨j,r,h,_⟩=>by simp[bV]at h⟩
  have hRs:R F (aN O2 F bV J) J (.slice a len cap) (.list 1 (L.map enc)):=M9 (es:=L.map λn=>D.v (.int .i64 n)) (λd hd=>by simp at hd;obtain⟨n,_,rfl⟩:=hd;exact⟨n,rfl⟩) hR himm;have st3:St E3 (dt [.cptr [.list 1 (L.map enc), .v (.int .i64 (i+1))] 0, .v (.int .i64 n)]) bV a1 J:=by
   refine⟨hd1,hN1,F,⟨λc hc=>qCt (hc.1.elim (hO c) (hownlt c)) hsz1,λc hc=>hc,λc hc=> .inl hc,⟨hw1.tpl.1,hw1.tpg.2.mono (λ_ h=>h) (λb h=>h.elim)⟩, .refl _ _ _,λc ⟨j,r,C,Y⟩=>by simp[bV]at C,⟨λj k r q c C Y k3 k4=>by simp[bV]at C,λj r c C Y=>by simp[bV]at C,λj r C=>by simp[bV]at C⟩⟩,λt=>?_⟩;rcases t with _|_|t
   ·have r0:=hr1 0;rw[C]at r0;generalize a1.tmps.getD 0 undef=v0 at r0 ⊢;cases r0;obtain⟨f,q1,q2,q3⟩:=rj (tp:=F) (I:=aN O2 F bV J) (w:=J) (cells:=[.list 1 (L.map enc), .v (.int .i64 (i+1))]) k5 rfl (by
     intro k y c hy hc;rcases k with _|_|k
     ·simp at hy hc;subst hy;subst hc;exact⟨rfl,by simpa using hRs⟩
     ·simp at hy hc;subst hy;subst hc;exact⟨rfl, .v _ rfl (λs hs=>by cases hs)⟩
     ·simp at hy)
    have:=Gv.R.cptr (tp:=F) (I:=aN O2 F bV J) b 0 [.list 1 (L.map enc), .v (.int .i64 (i+1))] 0 f hbi (λ_=>⟨_,_,k5⟩) q1 q2 q3;simpa [dt]using this
   ·have r0:=hr1 1;rw[Y]at r0;have:=r0.inv_v;show R _ _ _ _ (.v (.int .i64 n));rw[this];exact .v _ rfl (λs hs=>by cases hs)
   ·exact .any _
  have hv3:=qkd (S:=S) hm L i n g0 (by have:i<(len:Int):=k4;omega) hp (by omega);refine qDv ?_ (xK (E:=E3) hS vX qpK xC (by rw[qrg];exact hcC) _ _ _ _ _ st3 hv3);intro e a2 Z hp2;cases e with
  | ret=>
    obtain⟨σ2,H2',⟨hd2,hN2,tp2',hw2,hr2⟩,y,k6,k7⟩:=hp2;obtain⟨v,r0,hrun,hRv,hq⟩:=rA (H:=H2') (K:=λr=>r= .v (.int .i64 y)) h5 hr2 hw2.sat.ok k6;subst hq;have:=hRv.inv_v;subst this;have st2:=hw2.step;have hsz2:J.heap.size<=Z.heap.size:=st2.size;have same2:∀c,c<J.heap.size->¬F c->Z.heap[c]? =J.heap[c]?:=λc hc ht=>st2.same c hc (λh=>h) ht
    refine⟨hd2,_,hrun,vM Z (i+1) y el1 (st2.os.trans A.os) (st2.tape.trans A.tape) (st2.output.trans A.output) (qCU hsz1 hsz2) (λc hc ht=>?_) (λc hc hcb=>(A.tapes c ⟨hc,hcb⟩).trans (st2.tapes c (hw1.tpx c ⟨hc,hcb⟩))) ?_ (by omega) (by have:i<(len:Int):=k4;omega) (λq=>qCU (A.drawn q) (st2.drawn q)) k7⟩
    ·rw[same2 c (by omega) (λh=>ht (tp1o c hc h).1),same1 c hc ht]
    ·rw[same2 b (by omega) hb1,k5]
  |normal=>obtain⟨σ2,H2',_,k⟩:=hp2;exact k.elim
  |exit j=>obtain⟨σ2,H2',_,k⟩:=hp2;exact k.elim
  |goto l=>exact hp2.elim
  |panic c=>exact hp2.elim
  |outgrown=>exact hp2.elim
 refine wp_seq (qDv ?_ (xK (E:=E2) hS vX qpL x0 (by rw[qrj];exact hc0) (U7 S (.seq qnU ql9) (ql8 b (.slice a len cap) i n)) _ _ _ _ hst hv));intro e a1 J u;cases e with
 | normal=>
   obtain⟨M,H1,A,C⟩:=u;refine wp_seq (qDv ?_ (xK (E:=E2) hS vX qnU xA (by rw[qri];exact hcA) (U7 S ql9 (ql8 b (.slice a len cap) i n)) _ _ _ _ A C));intro e a1 J u;cases e with
   | normal=>
     obtain⟨M,H1,A,C⟩:=u;refine wp_seq (qDv ?_ (xK (E:=E2) hS vX ql9 xB (by rw[qrh];exact hcB) (ql8 b (.slice a len cap) i n) _ _ _ _ A C));intro e a1 J u;cases e with
     |normal=>obtain⟨M,H1,A,C⟩:=u;exact htail a1 J M H1 A C
     |ret=>obtain⟨M,H1,A,C⟩:=u;exact hret a1 J M H1 A C
     |exit j=>obtain⟨σ2,H2',_,k⟩:=u;exact k.elim
     |goto l=>exact u.elim
     |panic c=>exact u.elim
     |outgrown=>exact u.elim
   |ret=>obtain⟨M,H1,A,C⟩:=u;exact hret a1 J M H1 A C
   |exit j=>obtain⟨σ2,H2',_,k⟩:=u;exact k.elim
   |goto l=>exact u.elim
   |panic c=>exact u.elim
   |outgrown=>exact u.elim
 |ret=>obtain⟨M,H1,A,C⟩:=u;exact hret a1 J M H1 A C
 |exit j=>obtain⟨σ2,H2',_,k⟩:=u;exact k.elim
 |goto l=>exact u.elim
 |panic c=>exact u.elim
 |outgrown=>exact u.elim
end
def FF(b:Nat)(L:List Int):Res:= .box b [.list 1 (L.map enc), .v (.int .i64 0)]
def qr0:PT:=λd ds H K=>∃l,(a1 (List Int)).dec ds=some l/\∀b L,K (.bptr d b 0) (ai H d (some (FF b L)))
def qik(cc:CC)(rs:List ak)(S:Nat->Spc):Prop:=
 ∀l:List Int,vc S cc (tJ rs λr H'=>∃j b L,r= .bptr j b 0/\H' j=some (FF b L)) (dt [enc l]) bV
section
variable {P:Program}{S:Nat->Spc}{f:Nat}{im:List Nat}{cc:CC}{rs:List ak}{N:Nat}
theorem Yx(p:∀f,Tri dq P f (S f).pt)(h:xD P f im cc rs N)(t:1<=N)(u:qik cc rs S):Tri dq P f qr0:=by
 obtain⟨vX,enter,fn,code,h1,h2,h3,h4,h5⟩:=h;refine lp p vX h1 h2 enter h3 h4 h5 ?_;rintro ds H d K ⟨l,w,x⟩;have hl:=(a1 (List Int)).le ds l w;refine⟨by rw[hl.1];exact t,_,bV,λ_=>0,hl,λi r h=>by simp[bV]at h,λi j r s h=>by simp[bV]at h,_,u l,?_⟩;rintro r H' ⟨j,b,L,rfl,y⟩;refine⟨.bptr d b 0,bV,ai H d (some (FF b L)),λi=>if i=d then some j else none, .bptr _ _ _ _,λj q h=>by simp[bV]at h,x b L,λi s hi=>?_,λi c k s q hi A C E=>?_⟩
 ·by_cases e:i=d
  ·subst e;simp only[ai,if_true]at hi;cases hi;simpa using y
  ·simp only[ai,e,if_false]at hi ⊢;exact⟨hi,λk q h=>by simp[bV]at h⟩
 ·have a:i=d:=by
   by_cases e:i=d
   ·exact e
   ·simp[e]at C
  have b:c=d:=by
   by_cases e:c=d
   ·exact e
   ·simp[e]at E
  exact a.trans b.symm
abbrev s_m_New:Spc:=aJ (a1 (List Int)) (λ_=>True) (λL:List Int=>D.tape L) (λ_ _=>True)
theorem qjz(hf:Tri dq P f qr0):Tri dq P f s_m_New.pt:=by
 intro O tp w vs ds H d K hO Z a hlen u F;simp only[s_m_New,su]at F;cases E:(a1 (List Int)).dec ds with
 |none=>rw[E]at F;exact F.elim
 |some l=>
 rw[E]at F;obtain⟨_,hK⟩:=F;have p:∀c,bz H c->c<w.heap.size:=λc ⟨j,r,k1,k2⟩=>(a.ok j r k1).lt k2
 have q:∀c,¬bz bV c:=λc ⟨j,r,h,_⟩=>by simp[bV]at h
 have I:∀c,aN O tp H w c->aN (λc=>O c\/bz H c) tp bV w c:=λc hc=>⟨hc.1,λh=>h.elim hc.2.1 hc.2.2.2,hc.2.2.1,q c⟩
 obtain⟨c1,c2⟩:=hf (λc=>O c\/bz H c) tp w vs ds bV 0 (λr H'=>∃b L,r= .bptr 0 b 0/\H'=ai bV 0 (some (FF b L))) (λc hc=>hc.elim (hO c) (p c)) (Z.mono λb h=>(q b h).elim)
  ⟨λi j r s b h=>by simp[bV]at h,λi r b h=>by simp[bV]at h,λi r h=>by simp[bV]at h⟩ hlen
  (λk x c hx hc=>(u k x c hx hc).mono (λ_ h=>h) (λc hc=>⟨I c hc,rfl⟩) (λb _=> .refl _ _)) ⟨l,E,λb L=>⟨b,L,rfl,rfl⟩⟩
 refine⟨c1,c2.mono ?_⟩;rintro e J ⟨x,r,H',t,rfl,⟨b,L,rfl,rfl⟩,tpx,tpn,tpl,st,loc,sat,hR⟩;cases hR;have W:ai bV 0 (some (FF b L)) 0=some (FF b L):=rfl;have M:bz (ai bV 0 (some (FF b L))) b:=⟨0,_,W,rfl⟩
 have hbs:w.heap.size<=b:=(loc b M).elim (λh=>(q b h).elim) id;have hbl:b<J.heap.size:=(sat.ok 0 _ W).lt rfl;have hbtp:=sat.out 0 _ b W rfl;have hsz:w.heap.size<=J.heap.size:=st.size;have Q:∀c,c<w.heap.size->¬tp c->¬(t c\/c=b):=λc hc U h=>h.elim (λh=>(tpn c h).elim U (λh=>by
  have h:w.heap.size<=c:=h;omega)) (λh=>by omega)
 have same:∀c,c<w.heap.size->¬tp c->J.heap[c]? =w.heap[c]?:=λc hc U=>st.same c hc (q c) U
 obtain⟨xs,el,q1,q2,Y⟩:=sat.ok 0 _ W;obtain⟨xl⟩:=xs
 match xl,q2,Y,q1 with
 | [s,y],_,Y,q1=>
 have A:=(Y 0 s _ rfl rfl).2;have a2:=(Y 1 y _ rfl rfl).2.inv_v;subst a2;have hsl:slen s=L.length:=by
  generalize hes:L.map enc=es at A;have C:L.length=es.length:=by rw[<-hes];simp
  cases A with
  |nolist=>simp at C;simp[slen,C]
  |list=>rw[C];rfl
 refine⟨_, .tape L,H,λc=>t c\/c=b,rfl,hK L trivial,λc hc=> .inl (tpx c hc),λc hc=>hc.elim (tpn c) (λe=> .inr (e ▸hbs)),λc hc=>hc.elim (tpl c) (λe=>e ▸hbl),
  ⟨st.os,st.tape,st.output,st.size,λc hc _ U=>same c hc U,st.tapes,st.drawn⟩,λc hc=> .inl hc,
  ⟨a.dis,λi r c hi hc=>⟨(a.out i r c hi hc).1,Q c ((a.ok i r hi).lt hc) (a.out i r c hi hc).2⟩,λi r hi=>(a.ok i r hi).conv (λx d hr=>hr.mono (λc hc=> .inl (tpx c hc)) (λc hc=>⟨⟨qCt hc.1 hsz,hc.2.1,Q c hc.1 hc.2.2.1,hc.2.2.2⟩,same c hc.1 hc.2.2.1⟩) st.tapes) (λc hc=>same c ((a.ok i r hi).lt hc) (a.out i r c hi hc).2)⟩,?_⟩
 refine .tape b L s 0 el (.inr rfl) q1 (by omega) (by omega) hsl ?_;have a3:R t (aN (λc=>O c\/bz H c) t (ai bV 0 (some (FF b L))) J) J s (.list 1 (L.map λn=>D.v (.int .i64 n))):=A;exact M9 (λd E=>by simp at E;obtain⟨n,_,rfl⟩:=E;exact⟨n,rfl⟩) a3 (λc hc=>⟨⟨hc.1,λh=>hc.2.1 (.inl h),λh=>h.elim hc.2.2.1 (λe=>hc.2.2.2 (e ▸M)),λh=>hc.2.1 (.inr h)⟩,rfl⟩)
end
end
end Go.Gv
