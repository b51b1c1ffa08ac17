/- T32 -/
import Derived.RangeFuncNested
import Derived.RangeFuncBound
import Derived.RangeFuncCalls
import Derived.RangeFuncLeaves
import Derived.Shelf.Abstract
import Derived.Shelf.RegionOpen
import Derived.OwnWalkIn
import Derived.TacticsInMore
import Derived.LoopNIn
import Derived.LoopIn
import Derived.Test.YtmakafgajmnflaaGreatDoorGf15
set_option linter.all false
set_option maxRecDepth 100000
set_option maxHeartbeats 0
open Bool renaming forall_bool → fB', exists_bool → eB'
namespace Go.Gv
section
open Cod (enc dec)
variable {dq:Prop}
def qwX(F:Rx->Int->Int->Option (Bool×Int)):PT:=λd ds H K=>∃id b x n k r a,ds=[a, .v (.int .i64 n), .bptr id b 0]/\dec a=some x/\H id=some (.box b [.v (.int .i64 k)])/\F x n k=some r/\K (.v (.bool r.1)) (ai H id (some (.box b [.v (.int .i64 r.2)])))
def qjK(F:Rx->Int->Int->Option (Bool×Int)):nt (qwX F):=λd ds H K c hk ⟨id,b,x,n,k,r,a,h1,h2,h3,h4,h5⟩=>⟨id,b,x,n,k,r,a,h1,h2,h3,h4,hk _ _ h5⟩
def qpB(F:Rx->Int->Int->Option (Bool×Int)):Spc:= .gen _ (qjK F)
def qtK(F:Rx->Int->Int->Option (Bool×Int))(o:Option Rx)(n:Int)(id b:Nat)(q:Option Res)(H:ab)(K:D->ab->Prop):Prop:=
 ∃k,q=some (.box b [.v (.int .i64 k)])/\eX o λx=>eX (F x n k) λr=>K (.v (.bool r.1)) (ai H id (some (.box b [.v (.int .i64 r.2)])))
@[congr] theorem qwW{F:Rx->Int->Int->Option (Bool×Int)}{o a:Option Rx}{n c:Int}{id b:Nat}{q d:Option Res}{H:ab}{K:D->ab->Prop}(h1:o=a)(h2:n=c)(h3:q=d):qtK F o n id b q H K=qtK F a c id b d H K:=by subst h1;subst h2;subst h3;rfl
@[simp] theorem qwY(F:Rx->Int->Int->Option (Bool×Int))(d id b:Nat)(a:D)(n:Int)(H:ab)(K:D->ab->Prop):(qpB F).pt d [a, .v (.int .i64 n), .bptr id b 0] H K=qtK F (dec a) n id b (H id) H K:=by
 refine propext ⟨λh=>?_,λh=>?_⟩
 ·obtain⟨l,b',x,q,k,r,p,h1,h2,h3,h4,h5⟩:=h;cases h1;refine⟨k,h3,?_⟩;rw[h2];show eX (F x n k) _;rw[h4];exact h5
 ·obtain⟨k,h1,h2⟩:=h;cases c:dec (X:=Rx) a with
  |none=>rw[c]at h2;exact h2.elim
  | some x=>
    rw[c]at h2;have h2:eX (F x n k) _:=h2;cases j:F x n k with
    |none=>rw[j]at h2;exact h2.elim
    |some r=>rw[j]at h2;exact⟨id,b,x,n,k,r,a,rfl,c,h1,j,h2⟩
@[simp] theorem qAf(F:Rx->Int->Int->Option (Bool×Int))(o:Option Rx)(n:Int)(id b:Nat)(k:Int)(H:ab)(K:D->ab->Prop):
 qtK F o n id b (some (.box b [.v (.int .i64 k)])) H K=eX o λx=>eX (F x n k) λr=>K (.v (.bool r.1)) (ai H id (some (.box b [.v (.int .i64 r.2)]))):=by
 refine propext ⟨λ⟨a,h1,h2⟩=>?_,λh=>⟨k,rfl,h⟩⟩;cases h1;exact h2
def qs9(b:Nat)(q:Bool×Int)(r:D)(H:ab):Prop:=r= .v (.bool q.1)/\H 2=some (.box b [.v (.int .i64 q.2)])
def qii(cc:CC)(rs:List ak)(S:Nat->Spc)(F:Rx->Int->Int->Option (Bool×Int)):Prop:=
 ∀b x n k q,F x n k=some q->vc S cc (tJ rs λr H'=>qs9 b q r H') (dt [enc x, .v (.int .i64 n), .bptr 2 b 0]) (ai bV 2 (some (.box b [.v (.int .i64 k)])))
variable {P:Program}{S:Nat->Spc}{f:Nat}{im:List Nat}{cc:CC}{rs:List ak}{N:Nat}
theorem Yu{F:Rx->Int->Int->Option (Bool×Int)}(c:∀f,Tri dq P f (S f).pt)(h:xD P f im cc rs N)(l:3<=N)(p:qii cc rs S F):Tri dq P f (qpB F).pt:=by
 obtain⟨vX,enter,fn,code,h1,h2,h3,h4,h5⟩:=h;refine lp c vX h1 h2 enter h3 h4 h5 ?_;rintro ds H d K ⟨id,b,x,n,k,r,J,rfl,t,hid,u,w⟩;have h0:∀i q,ai bV 2 (some (.box b [.v (.int .i64 k)])) i=some q->i=2/\q= .box b [.v (.int .i64 k)]:=by
  intro i q h;by_cases e:i=2
  ·subst e;simp only[ai,if_true]at h;cases h;exact⟨rfl,rfl⟩
  ·simp[ai,e,bV]at h
 refine⟨l, [enc x, .v (.int .i64 n), .bptr 2 b 0],ai bV 2 (some (.box b [.v (.int .i64 k)])),λi=>if i=2 then id else i, .cons (Cod.le _ _ t) (.cons (.same _) (.cons (.bptr _ _ _ _) .nil)),λi q h=>?_,λi j q y h A e=>?_,_,p b x n k r u,?_⟩
 ·obtain⟨rfl,rfl⟩:=h0 i q h;exact hid
 ·exact(h0 i q h).1.trans (h0 j y A).1.symm
 ·rintro r' H' ⟨rfl,C⟩;refine⟨.v (.bool r.1),bV,ai H id (some (.box b [.v (.int .i64 r.2)])),λi=>if i=id then some 2 else none, .same _,λj q h=>by simp[bV]at h,w,λi s hi=>?_,λi j L s q hi M E I=>?_⟩
  ·by_cases e:i=id
   ·subst e;simp only[ai,if_true]at hi ⊢;cases hi;exact C
   ·simp only[ai,e,if_false]at hi ⊢;refine⟨hi,λa q h he=>?_⟩;obtain⟨rfl,rfl⟩:=h0 a q h;exact e he.symm
  ·by_cases c1:i=id
   ·by_cases c2:j=id
    ·exact c1.trans c2.symm
    ·simp[c2]at I
   ·simp[c1]at E
end
section
open Go.Proofs
def kT:CC:=gq Tryz.f255 [3] { bx:=[2],ke:=[2] } _
def km:List ak:=[.tmp 6]
def MD:FO rC [3] kT km 36:=fo
def pz:CC:=gq Tryz.f288 [] {} _
def nR:List ak:=[.tmp 2]
def F9:FO qI [] pz nR 47:=fo
def dY:CC:=gq Tryz.f277 [1] {} _
def dR:List ak:=[.tmp 2]
def D8:FO oY [1] dY dR 101:=fo
def lX:CC:=gq Tryz.f256 [1] {} _
def lJ:List ak:=[.tmp 2]
def CW:FO iF [1] lX lJ 19:=fo
def iK:CC:=gq Tryz.f257 [1] {} _
def ir:List ak:=[.tmp 2]
def D9:FO jS [1] iK ir 42:=fo
def pD:CC:=gq Tryz.f212 [1] {} _
def nU:List ak:=[.tmp 2]
def Gc:FO lw [1] pD nU 16:=fo
open Cod (enc dec)
variable {S S0:Nat->Spc}
def Jm{X:Type}{l:List X}{k:Nat}(h:k<l.length):∃x,l[k]? =some x:=⟨_,qCe h⟩
def NB{X:Type}{l:List X}{k:Nat}{x:X}(h:l[k]? =some x):l.drop k=x::l.drop (k+1):=by
 obtain⟨h1,h2⟩:=qCd.1 h;rw[qCO h1,h2]
theorem On(n:Nat)(h1:S rC=qpB (wu n)):qii kT km S (wu (n+1)):=by
 rintro b x d k ⟨ok,m⟩ j;have u:=j;simp only[wu]at j;split at j
 ·cases j
 rename_i s;have l:InR .i64 (k+1):=by simp only[InR];omega
 split at j
 ·rename_i p;cases j;by_cases c:40<d
  ·simp[kT,km,l,c,-fB',-eB'];exact⟨rfl,by simp⟩
  ·have a:200<k+1:=by omega
   simp[kT,km,l,c,a,-fB',-eB'];exact⟨rfl,by simp⟩
 ·rename_i p;have c:¬40<d:=by omega
  have a:¬200<k+1:=by omega
  simp[kT,km,l,c,a,-fB',-eB'];intro w;refine ah (X:=Int) [1,2,23] [] x.kids.length (λi z=>qqT (wu n) d (x.kids.drop i) z=some (ok,m)) (λz=>[]) (λz=>[(2, .box b [.v (.int .i64 z)])]) (k+1) j ?_ ?_
  ·rintro i z hi hz;obtain⟨y,r⟩:=Jm hi;obtain⟨_,q⟩:=qCd.1 r;rw[NB r,qqT]at hz;obtain⟨⟨t,A⟩,hs,hz⟩:=qCc.1 hz;simp only at hz;have h:InR .i64 (d+1):=by simp only[InR];omega
   cases t with
   | true=>
     simp only[if_true]at hz;simp[h1,hi,r,q,hs,h,-fB',-eB'];exact⟨A,hz, .inl rfl⟩
   | false=>
     simp only[qC4,if_false]at hz;cases hz;simp[h1,hi,r,q,hs,h,-fB',-eB'];exact⟨rfl,by simp⟩
  ·rintro z hz;rw[qC2,qqT]at hz;cases hz;simp[-fB',-eB'];exact⟨rfl,by simp⟩
abbrev Vc:Spc:=aJ (a1 (List Rng)) (λl=>qaR l=true) (enc (X:=Bool)) λ_ y=>y=true
def Hz:aq pz nR S (a1 (List Rng)) (λl=>qaR l=true) (enc (X:=Bool)) λ_ y=>y=true:=by
 rintro l hl;obtain⟨r,rfl⟩:∃r,l=[r]:=by
  match l,hl with
  | [r],_=>exact⟨r,rfl⟩
 simp[qaR]at hl;simp[pz,nR,-fB',-eB'];refine ah (X:=Unit) [0,5] [] 1 (λ_ _=>True) (λ_=>[]) (λ_=>[]) () trivial ?_ ?_
 ·rintro k -hk -;obtain rfl:k=0:=by omega
  have a:¬r.fr.val< 0:=by omega
  have b:¬r.to.val<r.fr.val:=by omega
  have c:¬1114111<r.to.val:=by omega
  simp[a,b,c,-fB',-eB']
 ·rintro - -;simp[-fB',-eB']
abbrev PO:Spc:=aJ (a1 Rx) (λx=>qrd x=true) (enc (X:=Bool)) λ_ y=>y=true
set_option maxHeartbeats 2000000 in
theorem Fc(h1:S qI=Vc):aq dY dR S (a1 Rx) (λx=>qrd x=true) (enc (X:=Bool)) λ_ y=>y=true:=by
 rintro⟨op,mn,mx,rs,ks⟩ hx;have hx:qrd ⟨op,mn,mx,rs,ks⟩=true:=hx;unfold qrd at hx;simp only at hx;split at hx
 ·rename_i e;subst e;simp at hx;obtain⟨⟨⟨rfl,rfl⟩,rfl⟩,hs⟩:=hx;simp[dY,dR,h1,hs,-fB',-eB'];refine ah (X:=Unit) [1,3] [] 0 (λ_ _=>True) (λ_=>[]) (λ_=>[]) () trivial (λk x hk=>absurd hk (by omega)) (λ_ _=>?_);simp[h1,hs,-fB',-eB']
 split at hx
 ·rename_i e1 e;subst e;simp at hx;obtain⟨⟨⟨⟨rfl,rfl⟩,rfl⟩,hl1,hl3⟩,hk2⟩:=hx;have hlt:(ks.length:Int)<=9223372036854775807:=by omega
  simp[dY,dR,hlt,-fB',-eB'];refine ah (X:=Unit) [1,3,34] [] ks.length (λ_ _=>True) (λ_=>[]) (λ_=>[]) () trivial ?_ ?_
  ·rintro k -hk -;obtain⟨y,hy⟩:=Jm hk;obtain⟨_,hgy⟩:=qCd.1 hy;have hop:=hk2 y (qCg hy);simp[hk,hy,hgy,hop,-fB',-eB']
  ·rintro - -;have hl1':¬(ks.length:Int)=1:=by omega
   simp[hl1,hl1',-fB',-eB']
 split at hx
 ·rename_i e1 e2 e;subst e;simp at hx;obtain⟨⟨⟨⟨rfl,rfl⟩,rfl⟩,hl1,hl3⟩,hk2⟩:=hx;have hlt:(ks.length:Int)<=9223372036854775807:=by omega
  simp[dY,dR,hlt,-fB',-eB'];refine ah (X:=Unit) [1,3,34] [] ks.length (λ_ _=>True) (λ_=>[]) (λ_=>[]) () trivial ?_ ?_
  ·rintro k -hk -;obtain⟨y,hy⟩:=Jm hk;obtain⟨_,hgy⟩:=qCd.1 hy;have hop:=hk2 y (qCg hy);simp[hk,hy,hgy,hop,-fB',-eB']
  ·rintro - -;have hl1':(1:Int)<ks.length:=by omega
   simp[hl1,hl1',-fB',-eB']
 split at hx
 ·rename_i e1 e2 e3 e;subst e;simp at hx;obtain⟨⟨⟨g0,g1,g2⟩,rfl⟩,hl1⟩:=hx;obtain⟨k0,rfl⟩:∃k,ks=[k]:=qDt.1 hl1;simp[dY,dR,-fB',-eB'];refine ah (X:=Unit) [1,3,34] [] 1 (λ_ _=>True) (λ_=>[]) (λ_=>[]) () trivial ?_ ?_
  ·rintro k -hk -;obtain rfl:k=0:=by omega
   simp[-fB',-eB']
  ·rintro - -;simp[g0,g1,-fB',-eB'];exactλh=>⟨λ_=>by omega,by omega⟩
 ·cases hx
abbrev D1(n:Nat):Spc:=aJ (a1 Rx) (λx=>qcU n x=true) (enc (X:=Bool)) λ_ y=>y=true
def DJ(n:Nat)(h1:S oY=PO)(h2:S iF=D1 n):aq lX lJ S (a1 Rx) (λx=>qcU (n+1) x=true) (enc (X:=Bool)) λ_ y=>y=true:=by
 rintro x a;have a:qcU (n+1) x=true:=a;simp only[qcU,qCi,qCl]at a;obtain⟨b,c⟩:=a;simp[lX,lJ,h1,b,-fB',-eB'];intro j;refine ah (X:=Unit) [9] [] x.kids.length (λ_ _=>True) (λ_=>[]) (λ_=>[]) () trivial ?_ ?_
 ·rintro k -hk -;obtain⟨y,d⟩:=Jm hk;obtain⟨_,h⟩:=qCd.1 d;have hp:=c y (qCg d);simp[h2,hk,d,h,hp,-fB',-eB']
 ·rintro - -;simp[-fB',-eB']
abbrev YM(n:Nat):Spc:=aJ (a1 Rx) (λx=>∃m,MC n x=some m) (enc (X:=Int)) λx y=>MC n x=some y
set_option maxHeartbeats 1000000 in
theorem Fd(n:Nat)(h1:S jS=YM n):aq iK ir S (a1 Rx) (λx=>∃m,MC (n+1) x=some m) (enc (X:=Int)) λx y=>MC (n+1) x=some y:=by
 rintro x ⟨m,hm⟩;have hm0:=hm;simp only[MC]at hm;split at hm
 ·rename_i e;cases hm;simp[iK,ir,e,hm0,-fB',-eB']
 rename_i e1;obtain⟨k,hk,hm⟩:=qCc.1 hm;simp[iK,ir,e1,-fB',-eB'];intro hkl;refine ah (X:=Int) [1,10] [] x.kids.length (λi z=>qq8 (MC n) (x.kids.drop i) z=some k) (λz=>[(3,enc z)]) (λ_=>[]) 0 hk ?_ ?_
 ·rintro i z hi hz;obtain⟨y,hy⟩:=Jm hi;obtain⟨_,hgy⟩:=qCd.1 hy;rw[NB hy,qq8]at hz;obtain⟨v,hv,hz⟩:=qCc.1 hz;split at hz
  ·cases hz
  rename_i hr;have hin:InR .i64 (z+v):=by simp only[InR];omega
  have hp:∃m,MC n y=some m:=⟨v,hv⟩
  simp[h1,hi,hy,hgy,hv,-fB',-eB'];exact⟨hin,hz⟩
 ·rintro z hz;rw[qC2,qq8]at hz;cases hz;split at hm
  ·rename_i e4;cases hm;simp[e4,hm0,-fB',-eB']
  ·rename_i e4;have e4:x.op=4:=by omega
   unfold qra at hm;split at hm
   ·rename_i emx;split at hm
    ·rename_i hb;cases hm;have hin:InR .i64 (k*max x.mn 1):=by simp only[InR];omega
     simp[e4,emx,hin,hm0,-fB',-eB']
    ·cases hm
   ·rename_i emx;split at hm
    ·rename_i hb;cases hm;have hin:InR .i64 (k*x.mx):=by simp only[InR];omega
     simp[e4,emx,hin,hm0,-fB',-eB']
    ·cases hm
abbrev Ve:Spc:=aJ (a1 Rx) (λx=>DR 50 x=true) (enc (X:=Int)) λx y=>y=0
def HC(h1:S rC=qpB (wu 50))(h2:S iF=D1 50)(h3:S jS=YM 50):aq pD nU S (a1 Rx) (λx=>DR 50 x=true) (enc (X:=Int)) λx y=>y=0:=by
 rintro x b;have b:DR 50 x=true:=b;simp only[DR,qCi]at b;obtain⟨⟨c,j⟩,d⟩:=b;obtain⟨⟨t,k⟩,hs,rfl⟩:∃r,wu 50 x 1 0=some r/\r.1=true:=by
  cases h:wu 50 x 1 0 with
  |none=>rw[h]at c;cases c
  |some r=>rw[h]at c;exact⟨r,rfl,c⟩
 obtain⟨m,hm,a⟩:∃m,MC 50 x=some m/\m<=64:=by
  cases h:MC 50 x with
  |none=>rw[h]at d;cases d
  |some r=>rw[h]at d;exact⟨r,rfl,of_decide_eq_true d⟩
 have n64:¬64<m:=by omega
 simp[pD,nU,h1,h2,h3,hs,j,hm,n64,-fB',-eB'];exact a
end
section
open Go.Proofs
def vn:CC:=gq Tryz.f152 [2002002] {} _
def uo:List ak:=[.cell 2 true 5, .tmp 3, .tmp 4]
def MF:FO rE [2002002] vn uo 66:=fo
def vG:CC:=gq Tryz.f149 [] {} _
def uH:List ak:=[.tmp 2]
def MZ:FO rH [] vG uH 13:=fo
def pB:CC:=gq Tryz.f260 [] {} _
def nT:List ak:=[.tmp 4]
def Gb:FO qJ [] pB nT 24:=fo
open Cod (enc dec)
variable {S S0:Nat->Spc}
def qAZ{Y Z W V:Type}[Cod Y][Cod Z][Cod W][Cod V](x:Y×Z×W×V):D:= .tup [enc x.1,enc x.2.1,enc x.2.2.1,enc x.2.2.2]
@[simp] theorem qAY{Y Z W V:Type}[Cod Y][Cod Z][Cod W][Cod V](y:Y)(z:Z)(w:W)(v:V):qAZ (y,z,w,v)= .tup [enc y,enc z,enc w,enc v]:=i' rfl
def qiW(s:B)(i:Int):I32×Int×Int×Bool:=match s.data[i.toNat]? with
 |some c=>(⟨c.toNat⟩,i,1,true)
 |none=>(⟨0⟩,0,0,false)
abbrev s_cpAt:Spc:=aJ (a2 B Int) (λx=>x.1.size<=1000/\Ak x.1=true/\0<=x.2/\x.2<=x.1.size) (qAZ (Y:=I32) (Z:=Int) (W:=Int) (V:=Bool)) λx y=>y=qiW x.1 x.2
def qh3{s:B}(h:Ak s=true){k:Nat}{c:UInt8}(hc:s.data[k]? =some c):c.toNat< 128:=by
 have:=qCl.1 h c (by rw[<-qCA]at hc;exact qCg hc);exact of_decide_eq_true this
abbrev H5:Spc:=aJ (a1 B) (λs=>∃r,ox s=some r) (qmj (Y:=Rx) (Z:=Int) (W:=Int)) λs y=>ox s=some y.1/\y.2=(0,0)
set_option maxHeartbeats 2000000 in
theorem Ot(h1:S BZ=s_cpAt)(h2:S kJ=qeX)(h3:S lw=Ve):aq vn uo S (a1 B) (λs=>∃r,ox s=some r) (qmj (Y:=Rx) (Z:=Int) (W:=Int)) λs y=>ox s=some y.1/\y.2=(0,0):=by
 rintro s ⟨r,hr⟩;have hr0:=hr;unfold ox at hr;split at hr
 rotate_left
 ·cases hr
 rename_i hs;obtain⟨hsz,hasc⟩:=hs;obtain⟨⟨p,x,ok⟩,hu,hr⟩:=qCc.1 hr;split at hr
 rotate_left
 ·cases hr
 rename_i hv;obtain⟨rfl,hpos,hval⟩:=hv;cases hr;have n200:¬(200:Int)<s.size:=by omega
 have hs10:s.size<=1000:=by omega
 simp[vn,uo,n200,-fB',-eB'];intro b2 hsz2;refine aA (X:=Nat) [0,2] [2] (λi=>i<=s.size) (λi=>[(5,enc (i:Int))]) (λ_=>[]) (λi=>s.size -i) 0 (qCC _) ?_;rintro i hi;by_cases hlt:i<s.size
 ·obtain⟨c,hc⟩:∃c,s.data[i]? =some c:=⟨s.data[i]'hlt,qCQ hlt⟩
  have h128:=qh3 hasc hc;have hat:qiW s (i:Int)=((⟨(c.toNat:Int)⟩:I32),(i:Int),(1:Int),true):=by simp[qiW,hc]
  have hff:¬((c.toNat:Int)=65533):=by omega
  simp[h1,hs10,hasc,hat,hff,hi,-fB',-eB'];exact⟨by simp only[InR];omega,i+1,by omega,by omega,by omega⟩
 ·obtain rfl:i=s.size:=by omega
  have hat:qiW s (s.size:Int)=(⟨0⟩,0,0,false):=by
   have:s.data[s.size]? =none:=qDN (qCj _);simp[qiW,this]
  simp only at hpos hval;have npos:¬p.pos<s.size:=by omega
  simp[h1,h2,h3,hs10,hasc,hat,hu,hpos,hval,npos,-fB',-eB'];exactλb _=>⟨x, .same _,hr0⟩
abbrev qat:Spc:=aJ (a1 B) (λs=>∃r,ox s=some r) (enc (X:=Int)) λ_ y=>y=0
def OM(h1:S rE=H5):aq vG uH S (a1 B) (λs=>∃r,ox s=some r) (enc (X:=Int)) λ_ y=>y=0:=by
 rintro s ⟨r,a⟩;simp[vG,uH,h1,a,-fB',-eB']
abbrev qjO:Spc:=aJ (a2 (List Rng) I32) (λ_=>True) (enc (X:=Bool)) λx y=>y=Tt x.1 x.2.val
theorem HB:aq pB nT S (a2 (List Rng) I32) (λ_=>True) (enc (X:=Bool)) λx y=>y=Tt x.1 x.2.val:=by
 rintro⟨l,⟨c⟩⟩ -;simp[pB,nT,-fB',-eB'];intro p;refine ah (X:=Unit) [1,7] [] l.length (λk _=>Tt (l.take k) c=false) (λ_=>[]) (λ_=>[]) () rfl ?_ ?_
 ·rintro k -hk j;obtain⟨y,h⟩:=Jm hk;obtain⟨_,b⟩:=qCd.1 h;have d:Tt (l.take (k+1)) c=(decide (y.fr.val<=c) && decide (c<=y.to.val)):=by
   have:l.take (k+1)=l.take k++ [y]:=by rw[qDg,h];rfl
   unfold Tt at j ⊢;rw[this,List.any_append,j];simp
  by_cases h1:y.fr.val<=c/\c<=y.to.val
  ·obtain⟨h1,h2⟩:=h1;have a:Tt l c=true:=by
    refine qDV.2 ⟨y,qCg h,by simp[h1,h2]⟩
   simp[hk,h,b,h1,h2,a,-fB',-eB']
  ·have a:Tt (l.take (k+1)) c=false:=by
    rw[d];simp;omega
   by_cases h2:y.fr.val<=c
   ·have h3:¬c<=y.to.val:=λe=>h1 ⟨h2,e⟩
    simp[hk,h,b,h2,h3,a,-fB',-eB']
   ·simp[hk,h,b,h2,a,-fB',-eB']
 ·rintro -j;rw[qCx]at j;simp[j,-fB',-eB']
end
section
open Go.Proofs
def pR:CC:=gq Tryz.f93 [] {} _
def om:List ak:=[.tmp 6]
def MY:FO xa [] pR om 25:=fo
def nn:CC:=gq Tryz.f35 [9,8,7,6,5] { cu:=[1] } _
def mW:List ak:=[.tmp 10]
def Em:FO eP [9,8,7,6,5] nn mW 102:=fo
def lg:CC:=gq Tryz.f92 [5] {} _
def kE:List ak:=[.tmp 6]
def BD:FO aL [5] lg kE 13:=fo
def ld:CC:=gq Tryz.f101 [2] {} _
def kD:List ak:=[.tmp 3]
def BC:FO cI [2] ld kD 8:=fo
def mj:CC:=oX [oB 2 (.box qcr true (oT 0)),oB 3 (.box eI false (oT 1)),oB 4 (.mv (.const on)),oB 5 (.mv (oN 0))] [2,3] [3] (.seq (oX [oD 9 7 3,oZ 10 jU [oT 9]] [2,3,10] [3] (.ite (oT 10) (oX [oB 4 (.mv (.const on)),oB 5 (.mv (oN 2))] [4,5] [33] (.ret)) (.skip))) (.keep [2,3] [3] (oX [oD 11 7 3,oZ 12 dC [oT 11],
 oF 7 3 12] [2,3] [3] (.seq (oX [oD 13 7 3,oE 14 0 2,oC 15 1 14,oZ 16 eC [oT 13,oT 15,.const on],oA 6 16] [2,3,6] [3] (oX [oA 17 6,oB 18 (.eql true false [.int] (oT 17) (oN 0))] [2,3,6,18] [3] (.ite (oT 18) (oX [oA 19 6,oB 4 (.mv (.const on)),oA 5 19] [4,5] [33] (.ret)) (.skip)))) (.keep [2,3] [3] (oX [oB 7 (.mv (.const on))] [2,3,7] [3,33] (.seq (oX [oE 20 1 2,
 oC 21 1 20,oB 22 (.len (oT 21)),oB 23 (.mv (oN 0))] [2,3,7,22,23] [3,33] (gH 0 23 22 24 1 (oX [oA 25 23,oA 8 25] [2,3,7,8,22,23] [3,33] (oX [oD 26 7 2,oD 27 7 3,oA 28 8,oZ 29 eP [oT 26,oT 27,oT 28,.const on,.const on]] [2,3,7,8,22,23,29] [3,33] (.ite (oT 29) (.reg [oA 30 7,oA 31 8,oB 32 (.bslice bE 1 [oT 31]),oB 33 (.append none bE 1 8 (oT 30) (oT 32)),
 oA 7 33]) (.skip)))) 34)) (.keep [7] [33] (oX [oA 35 7,oA 4 35,oB 5 (.mv (oN 0))] [4,5] [33] (.ret))))))))))
def lQ:List ak:=[.tmp 4, .tmp 5]
def C5:FO nb [2] mj lQ 36:=fo
open Cod (enc dec)
variable {S S0:Nat->Spc}
def Ey(v s:B)(f:Bool):Option Bool:=(ox v).bind λx=>Ev x s f
def qiB(x:B×B×Bool):Prop:=∃y,Ey x.1 x.2.1 x.2.2=some y
def qmw(x:B×B×Bool)(y:Bool):Prop:=Ey x.1 x.2.1 x.2.2=some y
abbrev qas:Spc:=aJ (a3 B B Bool) qiB (enc (X:=Bool)) qmw
def OL(h1:S rE=H5)(h2:S wT=qaC false)(h3:S pa=qaC true):aq pR om S (a3 B B Bool) qiB (enc (X:=Bool)) qmw:=by
 rintro⟨v,s,f⟩ ⟨y,b⟩;have b:Ey v s f=some y:=b;obtain⟨x,a,hm⟩:=qCc.1 b;cases f
 ·have hp:XY false (x,s):=⟨y,hm⟩
  simp[pR,om,h1,h2,a,hp,-fB',-eB'];exactλz hz=>by show(ox v).bind _=_;rw[a];exact hz
 ·have hp:XY true (x,s):=⟨y,hm⟩
  simp[pR,om,h1,h3,a,hp,-fB',-eB'];exactλz hz=>by show(ox v).bind _=_;rw[a];exact hz
mutual
def iY:Cond->Cond| .mk op n a v l f ks=>if op=4\/op=6/\rR (.mk op n a v l f ks)=true then⟨1,ll,ll,ll,ll,false, []⟩else⟨op,n,a,v,l,f,BI ks⟩
def BI:List Cond->List Cond|[]=>[]|k::ks=>iY k::BI ks
end
def Qn:∀l:List Cond,BI l=l.map iY
 | []=>by rw[BI];rfl
 |k::l=>by rw[BI,Qn l];rfl
def Lk(x:Cond):iY x=if x.op=4\/x.op=6/\rR x=true then⟨1,ll,ll,ll,ll,false, []⟩else⟨x.op,x.name,x.arg,x.val,x.lab,x.fold,x.kids.map iY⟩:=by cases x;rw[iY,Qn]
abbrev Vn:Spc:=aJ (a1 Cond) (λx=>∃n,dE x<=n) (enc (X:=Bool)) λx y=>y=rR x
abbrev Vr(n:Nat):Spc:=aJ (a1 Cond) (λx=>dE x<=n/\iX x<=60) (enc (X:=Cond)) λx y=>y=iY x
abbrev qaw:Spc:=aJ (a1 Cond) (λx=>∃n,dE x<=n/\iX x<=60) (enc (X:=Cond)) λx y=>y=iY x
def WJ{H:ab}{op:Int}{name arg val lab:B}{fold:Bool}{l:List Cond}{v:Value}(h:H 33=some (.row v eI 7 (l.map enc))):FrzTo H (.agg [.v (.int .i64 op), .v (.string name), .v (.string arg), .v (.string val), .v (.string lab), .v (.bool fold), .own 33 v]) (enc (Cond.mk op name arg val lab fold l)):=by
 simp;refine .agg rfl λk c c' h1 h2=>?_
 match k,h1,h2 with
 | 0,h1,h2|1,h1,h2|2,h1,h2|3,h1,h2|4,h1,h2|5,h1,h2=>cases h1;cases h2;exact .same _
 | 6,h1,h2=>cases h1;cases h2;exact gp eI h
 |k+7,h1,_=>simp at h1
def Qf:∀l:List Cond,l.length<=gE l
 | []=>by simp[gE]
 | k::l=>by
   have:=Qf l;have:=zt k;rw[gE,qCZ];omega
set_option maxHeartbeats 1000000 in
theorem Fk(n:Nat)(h1:S bD=Vn)(h2:S dC=Vr n):aq ea dT S (a1 Cond) (λx=>dE x<=n+1/\iX x<=60) (enc (X:=Cond)) λx y=>y=iY x:=by
 rintro x ⟨hd,hn⟩;have hsm:∃n,dE x<=n:=⟨_,qCj _⟩
 have hany:∀H:ab,Fin (enc (X:=Cond)) (λy=>y=⟨1,ll,ll,ll,ll,false, []⟩) (D.agg [.v (.int .i64 1), .v (.string ⟨#[]⟩), .v (.string ⟨#[]⟩), .v (.string ⟨#[]⟩), .v (.string ⟨#[]⟩), .v (.bool false), .v (.slice none 0 0)]) H:=λH=>by
  refine bF ⟨1,ll,ll,ll,ll,false, []⟩ ?_ rfl;simp[ll];refine .agg rfl λk c c' h1 h2=>?_
  match k,h1,h2 with
  | 0,h1,h2|1,h1,h2|2,h1,h2|3,h1,h2|4,h1,h2|5,h1,h2=>cases h1;cases h2;exact .same _
  | 6,h1,h2=>cases h1;cases h2;exact .nil 7
  |k+7,h1,_=>simp at h1
 by_cases hc:x.op=4\/x.op=6/\rR x=true
 ·have hl:iY x=⟨1,ll,ll,ll,ll,false, []⟩:=by rw[Lk,if_pos hc]
  rcases hc with e|⟨e,e'⟩
  ·simp[ea,dT,h1,hsm,e,hl,-fB',-eB'];exactλb=>hany _
  ·obtain⟨op,name,arg,val,lab,fold,ks⟩:=x;simp only at e;subst e;simp[ea,dT,h1,hsm,e',hl,-fB',-eB'];exactλb=>hany _
 ·have hl:iY x=⟨x.op,x.name,x.arg,x.val,x.lab,x.fold,x.kids.map iY⟩:=by rw[Lk,if_neg hc]
  have e4:¬x.op=4:=λh=>hc (.inl h)
  obtain⟨op,name,arg,val,lab,fold,ks⟩:=x;simp only at hl e4;have hs:op=6->rR ⟨op,name,arg,val,lab,fold,ks⟩=false:=λh=>by
   cases hb:rR ⟨op,name,arg,val,lab,fold,ks⟩with
   |false=>rfl
   |true=>exact absurd (.inr ⟨h,hb⟩) hc
  have hkn:∀y∈ks,dE y<=n/\iX y<=60:=λy hy=>by
   have h1:=NV (p:=⟨op,name,arg,val,lab,fold,ks⟩) hy;have h2:=Iw hy;have h3:=zt ⟨op,name,arg,val,lab,fold,ks⟩;simp only at h3;exact⟨by omega,by omega⟩
  have hks:ks.length<=60:=by
   have h3:=zt ⟨op,name,arg,val,lab,fold,ks⟩;simp only at h3;have:=Qf ks;omega
  by_cases e6:op=6
  ·subst e6;have hs':=hs rfl;simp[ea,dT,h1,hsm,hs',hl,-fB',-eB'];intro b2 b3;refine fE (X:=Unit) [1,2] [2] [] [] (λ_=>True) (λ_=>[(3, .bptr 3 b3 0)]) (λ_=>[(3, .box b3 [.v (.int .i64 6), .v (.string name), .v (.string arg), .v (.string val), .v (.string lab), .v (.bool fold), .own 33 (.slice none 0 0)]),(33, .row (.slice none 0 0) eI 7 [])]) [3,33] (λ_=>rfl) (by decide) ?_ ?_
   ·simp;refine⟨.inl (.nilown 33),by simp[isNilRow]⟩
   rintro - -;simp[-fB',-eB'];intro hkl;refine ah (X:=Value×List Cond) [2,3,22] [2] ks.length (λk z=>z.2=(ks.take k).map iY/\z.2.length=k) (λz=>[]) (λz=>[(3, .box b3 [.v (.int .i64 6), .v (.string name), .v (.string arg), .v (.string val), .v (.string lab), .v (.bool fold), .own 33 z.1]),(33, .row z.1 eI 7 (z.2.map enc))]) (.slice none 0 0, []) ⟨rfl,rfl⟩ ?_ ?_
   ·rintro k ⟨v,l⟩ hk ⟨hl1,hl2⟩;simp only at hl1 hl2;obtain⟨y,hy⟩:=nr hk;obtain⟨_,hgy⟩:=qCd.1 hy;obtain⟨q1,q2⟩:=hkn y (qCg hy);have hk60:ks.length<=60:=hks;simp[h2,hk,hy,hgy,q1,q2,-fB',-eB'];refine⟨by omega,by omega,λv=>⟨v,l++ [iY y],⟨?_,by simp;omega⟩, .inl rfl, .inl ⟨rfl,by simp⟩⟩⟩;rw[hl1,<-List.map_take,aB hy];simp
   ·rintro⟨v,l⟩ ⟨hl1,hl2⟩;simp only at hl1 hl2;rw[qCx]at hl1;simp[-fB',-eB'];exact bF _ (WJ rfl) (by rw[hl1])
  ·simp[ea,dT,h1,hsm,e4,e6,hl,-fB',-eB'];intro b2 b3;refine fE (X:=Unit) [1,2] [2] [] [] (λ_=>True) (λ_=>[(3, .bptr 3 b3 0)]) (λ_=>[(3, .box b3 [.v (.int .i64 op), .v (.string name), .v (.string arg), .v (.string val), .v (.string lab), .v (.bool fold), .own 33 (.slice none 0 0)]),(33, .row (.slice none 0 0) eI 7 [])]) [3,33] (λ_=>rfl) (by decide) ?_ ?_
   ·simp;refine⟨.inl (.nilown 33),by simp[isNilRow]⟩
   rintro - -;simp[-fB',-eB'];intro hkl;refine ah (X:=Value×List Cond) [2,3,22] [2] ks.length (λk z=>z.2=(ks.take k).map iY/\z.2.length=k) (λz=>[]) (λz=>[(3, .box b3 [.v (.int .i64 op), .v (.string name), .v (.string arg), .v (.string val), .v (.string lab), .v (.bool fold), .own 33 z.1]),(33, .row z.1 eI 7 (z.2.map enc))]) (.slice none 0 0, []) ⟨rfl,rfl⟩ ?_ ?_
   ·rintro k ⟨v,l⟩ hk ⟨hl1,hl2⟩;simp only at hl1 hl2;obtain⟨y,hy⟩:=nr hk;obtain⟨_,hgy⟩:=qCd.1 hy;obtain⟨q1,q2⟩:=hkn y (qCg hy);have hk60:ks.length<=60:=hks;simp[h2,hk,hy,hgy,q1,q2,-fB',-eB'];refine⟨by omega,by omega,λv=>⟨v,l++ [iY y],⟨?_,by simp;omega⟩, .inl rfl, .inl ⟨rfl,by simp⟩⟩⟩;rw[hl1,<-List.map_take,aB hy];simp
   ·rintro⟨v,l⟩ ⟨hl1,hl2⟩;simp only at hl1 hl2;rw[qCx]at hl1;simp[-fB',-eB'];exact bF _ (WJ rfl) (by rw[hl1])
def featS:List B:=[⟨#[124]⟩,⟨#[124,112,124]⟩,⟨#[124,112,124,113,124]⟩,⟨#[124,113,124]⟩]
def SP(s v:B):Option Bool:=if(featS.any λz=>decide (z=s))=true/\(v=⟨#[112]⟩\/v=⟨#[113]⟩)then some (s.data.toList.any λc=>decide (v.data.toList=[c]))else none
structure Py where
 c:Corpus
 tok:Int
 lb:List B
 bd:List Int
def qH(E:Py):Nat->Cond->Option Bool
 | 0=>λ_=>none
 | n+1=>λx=>
   if x.op=1 then some true else
   if x.op=2 then Ey x.val (vN E.c.toks E.tok (zF E.c.attrs x.name)) x.fold else
   if x.op=3 then SP (vN E.c.toks E.tok (lH E.c.attrs x.name)) x.val else
   if x.op=4 then(if ij E.lb (λz=>decide (z=x.lab))< 0 then none else match E.bd[(ij E.lb λz=>decide (z=x.lab)).toNat]? with
    |some o=>some (decide (0<=o) && decide (vN E.c.toks E.tok (lH E.c.attrs x.name)=vN E.c.toks o (lH E.c.attrs x.arg)))
    |none=>none)else
   if x.op=5 then some (E.c.regs.any (Mv x E.tok))else
   if x.op=6 then(match x.kids with|k::_=>(qH E n k).map not|[]=>none)else
   if(x.kids.all λk=>(qH E n k).isSome)=true then
    (if x.op=7 then some (!(x.kids.any λk=>!((qH E n k).getD false)))else some (x.kids.any λk=>(qH E n k).getD false))
   else none
def qm6(c:Corpus):Prop:=c.toks.length<=100000/\(∀r∈c.toks,r.length<=100000)/\c.attrs.length<=1000
abbrev HZ:=Corpus×Cond×Int×List B×List Int
def qk3(z:HZ):Py:=⟨z.1,z.2.2.1,z.2.2.2.1,z.2.2.2.2⟩
def qiX(n:Nat)(z:HZ):Prop:=qm6 z.1/\∃y,qH (qk3 z) n z.2.1=some y
def qpb(n:Nat)(z:HZ)(y:Bool):Prop:=qH (qk3 z) n z.2.1=some y
abbrev aH:dN HZ:=aE Corpus (a4 Cond Int (List B) (List Int))
abbrev F1(n:Nat):Spc:=aJ aH (qiX n) (enc (X:=Bool)) (qpb n)
def qiV(c:Corpus):List D:=[.list 2 (c.attrs.map enc), .list 1 (c.toks.map enc), .list 4 (c.texts.map enc), .list 4 (c.regs.map enc), .list 4 (c.nodes.map enc), .list 1 (c.heads.map enc), .list 1 (c.rels.map enc)]
def qbC(c:Corpus): .agg (qiV c)=enc c:=by simp[qiV]
def qlc{x y:Corpus}(h:qiV x=qiV y):x=y:=bi (by rw[<-qbC,<-qbC,h])
def qhE(z:HZ):List D:=[.cptr (qiV z.1) 0, .cptr [enc z.2.2.1] 0, .cptr [enc z.2.2.2.1] 0, .cptr [enc z.2.2.2.2] 0]
def qiP(z:HZ):List D:=enc z.2.1::qhE z
def qpx(z:HZ):List D:=[enc z.2.1, .cptr [.clo aL (qhE z)] 0]
def K6(z j:HZ)(h:qiP z=qiP j):z=j:=by
 obtain⟨a,b,c,d,e⟩:=z;obtain⟨k,b',c',l,p⟩:=j;unfold qiP qhE at h;simp only[qCL,D.cptr.injEq,and_true]at h;rw[bi h.1,qlc h.2.1,bi h.2.2.1,bi h.2.2.2.1,bi h.2.2.2.2]
def Z8(z a:HZ)(h:qpx z=qpx a):z=a:=by
 unfold qpx at h;simp only[qCL,D.cptr.injEq,D.clo.injEq,and_true,true_and]at h;refine K6 z a ?_;unfold qiP;rw[h.1,h.2]
noncomputable abbrev aH1:dN HZ:=aX qiP K6
noncomputable abbrev qBn:dN HZ:=aX qpx Z8
noncomputable abbrev YO(n:Nat):Spc:=aJ aH1 (qiX n) (enc (X:=Bool)) (qpb n)
noncomputable abbrev qfg(n:Nat):Spc:=aJ qBn (qiX n) (enc (X:=Bool)) λz y=>∃b,qH (qk3 z) n z.2.1=some b/\y=!b
def qcj(n:Nat)(h1:S eP=F1 n):aq lg kE S aH1 (qiX n) (enc (X:=Bool)) (qpb n):=by
 rintro z hz;rw[CK];obtain⟨c,x,tok,lb,bd⟩:=z;simp[qiP,qhE,qiV,lg,kE,h1,hz,-fB',-eB']
@[simp] theorem qwm(c:Corpus)(x:Cond)(tok:Int)(lb:List B)(bd:List Int):aH1.dec [.agg [.v (.int .i64 x.op), .v (.string x.name), .v (.string x.arg), .v (.string x.val), .v (.string x.lab), .v (.bool x.fold), .list 7 (x.kids.map enc)], .cptr [.list 2 (c.attrs.map enc), .list 1 (c.toks.map enc), .list 4 (c.texts.map enc), .list 4 (c.regs.map enc), .list 4 (c.nodes.map enc), .list 1 (c.heads.map enc), .list 1 (c.rels.map enc)] 0, .cptr [.v (.int .i64 tok)] 0, .cptr [.list 1 (lb.map enc)] 0, .cptr [.list 1 (bd.map enc)] 0]=some (c,x,tok,lb,bd):=by
 have h:=EV qiP K6 (c,x,tok,lb,bd);have e:qiP (c,x,tok,lb,bd)=[.agg [.v (.int .i64 x.op), .v (.string x.name), .v (.string x.arg), .v (.string x.val), .v (.string x.lab), .v (.bool x.fold), .list 7 (x.kids.map enc)], .cptr [.list 2 (c.attrs.map enc), .list 1 (c.toks.map enc), .list 4 (c.texts.map enc), .list 4 (c.regs.map enc), .list 4 (c.nodes.map enc), .list 1 (c.heads.map enc), .list 1 (c.rels.map enc)] 0, .cptr [.v (.int .i64 tok)] 0, .cptr [.list 1 (lb.map enc)] 0, .cptr [.list 1 (bd.map enc)] 0]:=by simp[qiP,qhE,qiV]
 rw[<-e];exact h
def qci(n:Nat)(h1:S aL=YO n):aq ld kD S qBn (qiX n) (enc (X:=Bool)) λz y=>∃b,qH (qk3 z) n z.2.1=some b/\y=!b:=by
 rintro z hz;rw[CK];obtain⟨c,x,tok,lb,bd⟩:=z;simp[qpx,qhE,qiV,ld,kD,h1,hz,-fB',-eB'];exactλy a=>a
abbrev qfh:Spc:=aJ (a2 B B) (λx=>∃b,SP x.1 x.2=some b) (enc (X:=Bool)) λx y=>SP x.1 x.2=some y
set_option maxHeartbeats 4000000 in
theorem qje(n:Nat)(h0:S0 aL=YO n)(h0':S0 cI=qfg n)(h1:S aL=YO n)(h2:S bC=VC Cond S0)(h3:S jV=Mk)(h4:S pr=Vw)(h5:S xa=qas)(h6:S bQ=Cr)(h7:S wZ=qfh)(h8:S cO=Mi)(h9:S na=qfl):
 aq nn mW S aH (qiX (n+1)) (enc (X:=Bool)) (qpb (n+1)):=by
 rintro⟨c,x,tok,lb,bd⟩ ⟨⟨z1,z2,z3⟩,y,hy⟩;simp only at z1 z2 z3;have hy0:qH ⟨c,tok,lb,bd⟩ (n+1) x=some y:=hy;have hQ:∀w,w=y->qpb (n+1) (c,x,tok,lb,bd) w:=λw e=>by subst e;exact hy
 clear hy;obtain⟨op,name,arg,val,lab,fold,ks⟩:=x;unfold qH at hy0;simp only at hy0;have hval:∀i k:Int,qm6 c:=λ_ _=>⟨z1,z2,z3⟩
 simp[nn,mW,-fB',-eB'];refine fE (X:=Unit) [5,6,7,8,9] [] [11] [] (λ_=>True) (λ_=>[(11, .cptr [.clo aL (qhE (c,⟨op,name,arg,val,lab,fold,ks⟩,tok,lb,bd))] 0)]) (λ_=>[]) [] (λ_=>rfl) (by decide) ?_ ?_
 ·simp[qhE,qiV];exactλb=> .box rfl
 rintro - -;simp only[qhE,qiV];split at hy0
 ·rename_i e;subst e;obtain rfl:=qCr hy0;simp[-fB',-eB'];exact hQ _ rfl
 rename_i e1;split at hy0
 ·rename_i e;subst e;have hM:qiB (val,vN c.toks tok (zF c.attrs name),fold):=⟨y,hy0⟩
  simp[h3,h4,h5,z1,z2,z3,hM,-fB',-eB'];refine⟨z2,λw hw=>hQ _ (qCr (hw.symm.trans hy0))⟩
 rename_i e2;split at hy0
 ·rename_i e;subst e;have hM:∃b,SP (vN c.toks tok (lH c.attrs name)) val=some b:=⟨y,hy0⟩
  simp[h6,h4,h7,z1,z2,z3,hM,-fB',-eB'];refine⟨z2,λw hw=>hQ _ (qCr (hw.symm.trans hy0))⟩
 rename_i e3;split at hy0
 ·rename_i e;subst e;split at hy0
  ·cases hy0
  rename_i hj;obtain⟨j,hjj⟩:∃j,j=ij lb λz=>decide (z=lab):=⟨_,rfl⟩
  rw[<-hjj]at hj hy0;cases ho:bd[j.toNat]? with
  |none=>rw[ho]at hy0;cases hy0
  |some o=>
  rw[ho]at hy0;have hy1:(decide (0<=o) && decide (vN c.toks tok (lH c.attrs name)=vN c.toks o (lH c.attrs arg)))=y:=qCr hy0;have j0:0<=j:=by omega
  obtain⟨hjl,hgo⟩:=qCd.1 ho;have j1:j<(bd.length:Int):=by omega
  by_cases h0o:0<=o
  ·simp[h8,<-hjj,j0,j1,ho,hgo,h0o,h6,h4,z1,z2,z3,-fB',-eB'];exact⟨⟨z2,hQ _ (by rw[<-hy1];simp[h0o])⟩,λh=>by omega⟩
  ·simp[h8,<-hjj,j0,j1,ho,hgo,h0o,-fB',-eB'];exactλ_=>hQ _ (by rw[<-hy1];simp[h0o])
 rename_i e4;split at hy0
 ·rename_i e;subst e;have hy1:=qCr hy0;simp[h9,-fB',-eB'];exact hQ _ hy1
 rename_i e5;split at hy0
 ·rename_i e;subst e;split at hy0
  ·rename_i k ks';obtain⟨b,hb,rfl⟩:=qCn.1 hy0;have hp:qiX n (c,k,tok,lb,bd):=⟨⟨z1,z2,z3⟩,b,hb⟩
   simp[h1,hp,-fB',-eB'];intro w hw;have hw:qH ⟨c,tok,lb,bd⟩ n k=some w:=hw;rw[hb]at hw;cases hw;exact hQ _ rfl
  ·cases hy0
 rename_i e6;split at hy0
 rotate_left
 ·cases hy0
 rename_i hall;have hal:∀k∈ks,∃b,qH ⟨c,tok,lb,bd⟩ n k=some b:=λk hk=>qDa.1 (qCl.1 hall k hk)
 have hf2:FunOn S0 (.clo cI [.cptr [.clo aL (qhE (c,⟨op,name,arg,val,lab,fold,ks⟩,tok,lb,bd))] 0]) ks λk=>!((qH ⟨c,tok,lb,bd⟩ n k).getD false):=
  uc (f:=λk=>(c,k,tok,lb,bd)) h0' (λk _=>EV qpx Z8 (c,k,tok,lb,bd)) (λk hk=>⟨⟨z1,z2,z3⟩,hal k hk⟩) (λk hk y hy=>by
   obtain⟨b,h1,h2⟩:=hy;have h1:qH ⟨c,tok,lb,bd⟩ n k=some b:=h1;rw[h2,h1];rfl)
 have hf1:FunOn S0 (.clo aL (qhE (c,⟨op,name,arg,val,lab,fold,ks⟩,tok,lb,bd))) ks λk=>(qH ⟨c,tok,lb,bd⟩ n k).getD false:=
  uc (f:=λk=>(c,k,tok,lb,bd)) h0 (λk _=>EV qiP K6 (c,k,tok,lb,bd)) (λk hk=>⟨⟨z1,z2,z3⟩,hal k hk⟩) (λk hk y hy=>by
   have h1:qH ⟨c,tok,lb,bd⟩ n k=some y:=hy;rw[h1];rfl)
 split at hy0
 ·rename_i e;subst e;have hy1:=qCr hy0;simp[h2,-fB',-eB'];exact⟨⟨_,hf2⟩,λw hw=>hQ _ (by rw[hw _ hf2];exact hy1)⟩
 ·rename_i e7;have hy1:=qCr hy0;simp[h2,e1,e2,e3,e4,e5,e6,e7,-fB',-eB'];exact⟨⟨_,hf1⟩,λw hw=>hQ _ (by rw[hw _ hf1];exact hy1)⟩
def qbj(s:B):List B:=if s=⟨#[124,112,124]⟩then[⟨#[112]⟩]else if s=⟨#[124,112,124,113,124]⟩then[⟨#[112]⟩,⟨#[113]⟩]else if s=⟨#[124,113,124]⟩then[⟨#[113]⟩]else[]
abbrev Vk:Spc:=aJ (a1 B) (λs=>s∈featS) (qR (Y:=List B) (Z:=Int)) λs y=>y=(qbj s,0)
set_option maxHeartbeats 1000000 in
theorem Up(h1:S cG=H4):vc S cB (tJ cz λr H'=>Fin (qR (Y:=List B) (Z:=Int)) (λy=>y=([⟨#[112]⟩],0)) r H') (dt ((a1 B).view (⟨#[124,112,124]⟩:B))) bV:=by
 have hv:BE ⟨#[124,112,124]⟩=true:=by decide
 have hsz:(⟨#[124,112,124]⟩:B).size=3:=rfl;have x1:((⟨#[124,112,124]⟩:B).extract 1 2)=⟨#[112]⟩:=by decide
 simp[cB,cz,h1,hv,hsz,-fB',-eB'];refine⟨by simp[InR],?_⟩;refine aA (X:=Int×Int×Value×List B) [0] [] (λz=>z.1=1/\z.2.1=1/\z.2.2.2=([]:List B)\/z.1=1/\z.2.1=2/\z.2.2.2=([]:List B)\/z.1=3/\z.2.1=3/\z.2.2.2=([⟨#[112]⟩]:List B)) (λz=>[(5, .own 51 z.2.2.1),(6,enc z.1),(7,enc z.2.1)]) (λz=>[(51, .row z.2.2.1 au 1 (z.2.2.2.map enc))]) (λz=>(3 -z.2.1).toNat) (1,1, .slice none 0 0, []) (by simp) ?_ (hh:=by simp[isNilRow]);rintro⟨f,i,v,l⟩ hz;simp only at hz;rcases hz with⟨rfl,rfl,rfl⟩|⟨rfl,rfl,rfl⟩|⟨rfl,rfl,rfl⟩
 ·simp[hsz,x1,-fB',-eB'];exact⟨by simp[InR],1,2,v, [],by simp,⟨⟨rfl,rfl,rfl⟩, .inl ⟨rfl,rfl⟩⟩,by omega⟩
 ·simp[hsz,x1,-fB',-eB'];exactλv=>⟨by simp[InR],3,3,v, [⟨#[112]⟩],by simp,⟨⟨rfl,rfl,rfl⟩, .inl ⟨rfl,rfl⟩⟩,by omega⟩
 ·simp[hsz,-fB',-eB'];refine aA (X:=Int) [5] [51] (λi=>i=1) (λi=>[(8,enc i)]) (λ_=>[]) (λi=>(3 -i).toNat) 1 (by simp) ?_;rintro i hi;subst hi;simp[-fB',-eB'];exact gp (l:=([⟨#[112]⟩]:List B)) au rfl
set_option maxHeartbeats 1000000 in
theorem OJ(h1:S cG=H4):vc S cB (tJ cz λr H'=>Fin (qR (Y:=List B) (Z:=Int)) (λy=>y=([⟨#[112]⟩,⟨#[113]⟩],0)) r H') (dt ((a1 B).view (⟨#[124,112,124,113,124]⟩:B))) bV:=by
 have hv:BE ⟨#[124,112,124,113,124]⟩=true:=by decide
 have hsz:(⟨#[124,112,124,113,124]⟩:B).size=5:=rfl;have x1:((⟨#[124,112,124,113,124]⟩:B).extract 1 2)=⟨#[112]⟩:=by decide
 have x3:((⟨#[124,112,124,113,124]⟩:B).extract 3 4)=⟨#[113]⟩:=by decide
 simp[cB,cz,h1,hv,hsz,-fB',-eB'];refine⟨by simp[InR],?_⟩;refine aA (X:=Int×Int×Value×List B) [0] [] (λz=>z.1=1/\z.2.1=1/\z.2.2.2=([]:List B)\/z.1=1/\z.2.1=2/\z.2.2.2=([]:List B)\/z.1=3/\z.2.1=3/\z.2.2.2=([⟨#[112]⟩]:List B)\/z.1=3/\z.2.1=4/\z.2.2.2=([⟨#[112]⟩]:List B)\/z.1=5/\z.2.1=5/\z.2.2.2=([⟨#[112]⟩,⟨#[113]⟩]:List B)) (λz=>[(5, .own 51 z.2.2.1),(6,enc z.1),(7,enc z.2.1)]) (λz=>[(51, .row z.2.2.1 au 1 (z.2.2.2.map enc))]) (λz=>(5 -z.2.1).toNat) (1,1, .slice none 0 0, []) (by simp) ?_ (hh:=by simp[isNilRow]);rintro⟨f,i,v,l⟩ hz;simp only at hz;rcases hz with⟨rfl,rfl,rfl⟩|⟨rfl,rfl,rfl⟩|⟨rfl,rfl,rfl⟩|⟨rfl,rfl,rfl⟩|⟨rfl,rfl,rfl⟩
 ·simp[hsz,x1,x3,-fB',-eB'];exact⟨by simp[InR],1,2,v, [],by simp,⟨⟨rfl,rfl,rfl⟩, .inl ⟨rfl,rfl⟩⟩,by omega⟩
 ·simp[hsz,x1,x3,-fB',-eB'];exactλv=>⟨by simp[InR],3,3,v, [⟨#[112]⟩],by simp,⟨⟨rfl,rfl,rfl⟩, .inl ⟨rfl,rfl⟩⟩,by omega⟩
 ·simp[hsz,x1,x3,-fB',-eB'];exact⟨by simp[InR],3,4,v, [⟨#[112]⟩],by simp,⟨⟨rfl,rfl,rfl⟩, .inl ⟨rfl,rfl⟩⟩,by omega⟩
 ·simp[hsz,x1,x3,-fB',-eB'];exactλv=>⟨by simp[InR],5,5,v, [⟨#[112]⟩,⟨#[113]⟩],by simp,⟨⟨rfl,rfl,rfl⟩, .inl ⟨rfl,rfl⟩⟩,by omega⟩
 ·simp[hsz,-fB',-eB'];refine aA (X:=Int) [5] [51] (λi=>i=1\/i=2) (λi=>[(8,enc i)]) (λ_=>[]) (λi=>(3 -i).toNat) 1 (by simp) ?_;rintro i hi;rcases hi with rfl|rfl
  ·simp[-fB',-eB'];exact⟨by simp[InR],by decide,λ_=>by simp[InR]⟩
  ·simp[-fB',-eB'];exact gp (l:=([⟨#[112]⟩,⟨#[113]⟩]:List B)) au rfl
set_option maxHeartbeats 1000000 in
theorem Uo(h1:S cG=H4):vc S cB (tJ cz λr H'=>Fin (qR (Y:=List B) (Z:=Int)) (λy=>y=([⟨#[113]⟩],0)) r H') (dt ((a1 B).view (⟨#[124,113,124]⟩:B))) bV:=by
 have hv:BE ⟨#[124,113,124]⟩=true:=by decide
 have hsz:(⟨#[124,113,124]⟩:B).size=3:=rfl;have x1:((⟨#[124,113,124]⟩:B).extract 1 2)=⟨#[113]⟩:=by decide
 simp[cB,cz,h1,hv,hsz,-fB',-eB'];refine⟨by simp[InR],?_⟩;refine aA (X:=Int×Int×Value×List B) [0] [] (λz=>z.1=1/\z.2.1=1/\z.2.2.2=([]:List B)\/z.1=1/\z.2.1=2/\z.2.2.2=([]:List B)\/z.1=3/\z.2.1=3/\z.2.2.2=([⟨#[113]⟩]:List B)) (λz=>[(5, .own 51 z.2.2.1),(6,enc z.1),(7,enc z.2.1)]) (λz=>[(51, .row z.2.2.1 au 1 (z.2.2.2.map enc))]) (λz=>(3 -z.2.1).toNat) (1,1, .slice none 0 0, []) (by simp) ?_ (hh:=by simp[isNilRow]);rintro⟨f,i,v,l⟩ hz;simp only at hz;rcases hz with⟨rfl,rfl,rfl⟩|⟨rfl,rfl,rfl⟩|⟨rfl,rfl,rfl⟩
 ·simp[hsz,x1,-fB',-eB'];exact⟨by simp[InR],1,2,v, [],by simp,⟨⟨rfl,rfl,rfl⟩, .inl ⟨rfl,rfl⟩⟩,by omega⟩
 ·simp[hsz,x1,-fB',-eB'];exactλv=>⟨by simp[InR],3,3,v, [⟨#[113]⟩],by simp,⟨⟨rfl,rfl,rfl⟩, .inl ⟨rfl,rfl⟩⟩,by omega⟩
 ·simp[hsz,-fB',-eB'];refine aA (X:=Int) [5] [51] (λi=>i=1) (λi=>[(8,enc i)]) (λ_=>[]) (λi=>(3 -i).toNat) 1 (by simp) ?_;rintro i hi;subst hi;simp[-fB',-eB'];exact gp (l:=([⟨#[113]⟩]:List B)) au rfl
def Ke(h1:S cG=H4):aq cB cz S (a1 B) (λs=>s∈featS) (qR (Y:=List B) (Z:=Int)) λs y=>y=(qbj s,0):=by
 rintro s hs;have hs:s∈featS:=hs;simp only[featS,qCm,qCN,or_false]at hs;rcases hs with rfl|rfl|rfl|rfl
 ·have a:BE ⟨#[124]⟩=true:=by decide
  have e:qbj ⟨#[124]⟩=[]:=by decide
  simp[cB,cz,h1,a,e,-fB',-eB']
 ·exact Up h1
 ·exact OJ h1
 ·exact Uo h1
abbrev qfi:Spc:=aJ (a2 (List B) B) (λ_=>True) (enc (X:=Bool)) λx y=>y=tq x.1 x.2
theorem DL:aq mg lN S (a2 (List B) B) (λ_=>True) (enc (X:=Bool)) λx y=>y=tq x.1 x.2:=by
 rintro⟨l,s⟩ -;simp[mg,lN,-fB',-eB'];intro hl;refine ah (X:=Unit) [1,7] [] l.length (λk _=>∀x∈l.take k,decide (x=s)=false) (λ_=>[]) (λ_=>[]) () (by simp) ?_ ?_
 ·intro k _ hk b;obtain⟨x,a⟩:=nr hk;obtain⟨_,c⟩:=qCd.1 a;simp[hk,a,c,-fB',-eB'];refine⟨λh=>?_,λh=>?_⟩
  ·have:tq l s=true:=qDV.2 ⟨x,qCg a,by simp[h]⟩;exact this
  ·rw[aB a];intro z hz;rcases qCk.1 hz with hz|hz
   ·have:=b z hz;simpa using this
   ·simp at hz;subst hz;exact h
 ·intro _ b;rw[qCx]at b;simp[-fB',-eB'];have:tq l s=false:=by
   rw[tq,List.any_eq_false];intro x a;rw[b x a];simp
  exact this
def OK(h1:S sQ=Vk)(h2:S mZ=qfi):aq vF uG S (a2 B B) (λx=>∃b,SP x.1 x.2=some b) (enc (X:=Bool)) λx y=>SP x.1 x.2=some y:=by
 rintro⟨s,f⟩ ⟨b,hb⟩;have hb:SP s f=some b:=hb;have a:=hb;unfold SP at hb;split at hb
 rotate_left
 ·cases hb
 rename_i hc;obtain⟨c1,c2⟩:=hc;obtain⟨z,hz,c⟩:=qDV.1 c1;obtain rfl:z=s:=of_decide_eq_true c;have e:tq (qbj z) f=b:=by
  have hb:=qCr hb;rw[<-hb];simp only[featS,qCm,qCN,or_false]at hz;rcases hz with rfl|rfl|rfl|rfl<;>rcases c2 with rfl|rfl<;>decide
 simp[vF,uG,h1,h2,hz,e,-fB',-eB'];exact a
end
section
variable {dq:Prop}
section
variable {P:Program}{im:List Nat}{E:AF}{S:Nat->Spc}
end
end
section
open Go.RowKit Go.Proofs
variable {F:Fence}{n:Nat}{P:Program}
structure GrL (B:Nat) (W W':World):Prop where
 os:W'.os=W.os
 tape:W'.tape=W.tape
 output:W'.output=W.output
 size:W.heap.size<=W'.heap.size
 low:∀j,j<B->W'.heap[j]? =W.heap[j]?
 drawn:W.drawn<=W'.drawn
def GrL.refl(B:Nat)(W:World):GrL B W W:=⟨rfl,rfl,rfl,qCj _,λ_ _=>rfl,qCj _⟩
def GrL.trans{B:Nat}{X Y Z:World}(h:GrL B X Y)(k:GrL B Y Z):GrL B X Z:=⟨k.os.trans h.os,k.tape.trans h.tape,k.output.trans h.output,qCU h.size k.size,λj a=>(k.low j a).trans (h.low j a),qCU h.drawn k.drawn⟩
def GrL.mono{A B:Nat}{X Y:World}(h:GrL B X Y)(a:A<=B):GrL A X Y:=⟨h.os,h.tape,h.output,h.size,λj b=>h.low j (qCt b a),h.drawn⟩
def GrL.alloc{B:Nat}(W:World)(a:B<=W.heap.size)(o:Obj):GrL B W (W.alloc o):=⟨rfl,rfl,rfl,by simp,λj b=>Below.heap_alloc W o j (qCt b a),qCj _⟩
def GrL.put{B:Nat}(W:World){l:Nat}(a:B<=l)(o:Obj):GrL B W (W.putObj l o):=⟨rfl,rfl,rfl,by simp,λj b=>World.putObj_heap_other (by omega),qCj _⟩
structure GrR (B C:Nat) (W W':World):Prop where
 os:W'.os=W.os
 tape:W'.tape=W.tape
 output:W'.output=W.output
 size:W.heap.size<=W'.heap.size
 at_:B<=W.heap.size
 low:∀j,j<W.heap.size->(j<B\/C<=j)->W'.heap[j]? =W.heap[j]?
 drawn:W.drawn<=W'.drawn
def GrR.toL{B C:Nat}{X Y:World}(h:GrR B C X Y):GrL B X Y:=⟨h.os,h.tape,h.output,h.size,λj a=>h.low j (qCt a h.at_) (.inl a),h.drawn⟩
def GrR.mono{A B C D:Nat}{X Y:World}(h:GrR B C X Y)(a:A<=B)(b:C<=D):GrR A D X Y:=⟨h.os,h.tape,h.output,h.size,qCU a h.at_,λj c hs=>h.low j c (hs.imp (λh=>qCt h a) λh=>qCU b h),h.drawn⟩
def GrR.trans{B C:Nat}{X Y Z:World}(h:GrR B C X Y)(k:GrR B C Y Z):GrR B C X Z:=⟨k.os.trans h.os,k.tape.trans h.tape,k.output.trans h.output,qCU h.size k.size,h.at_,λj a hs=>(k.low j (qCt a h.size) hs).trans (h.low j a hs),qCU h.drawn k.drawn⟩
def GrR.get{B C:Nat}{X Y:World}(h:GrR B C X Y){j:Nat}{o:Obj}(a:X.heap[j]? =some o)(hs:j<B\/C<=j):Y.heap[j]? =some o:=(h.low j (qCp.1 a).1 hs).trans a
def GrR.alloc{B C:Nat}(W:World)(a:B<=W.heap.size)(o:Obj):GrR B C W (W.alloc o):=⟨rfl,rfl,rfl,by simp,a,λj b _=>Below.heap_alloc W o j b,qCj _⟩
def GrR.put{B C:Nat}(W:World){l:Nat}(a:B<=l)(b:l<C)(h:B<=W.heap.size)(o:Obj):GrR B C W (W.putObj l o):=⟨rfl,rfl,rfl,by simp,h,λj _ hs=>World.putObj_heap_other (by omega),qCj _⟩
def GrR.set{B C b k:Nat}(W:World)(a:B<=b)(c:b<C)(h:B<=W.heap.size)(v:Value):GrR B C W (W.setCell ⟨b,k,none⟩ v):=⟨rfl,rfl,rfl,by simp,h,λj _ hs=>Below.heap_setCell W ⟨b,k,none⟩ v j (by grind),qCj _⟩
structure KBt (B:Nat) (S:Nat->Prop) (W W':World):Prop where
 size:W.heap.size<=W'.heap.size
 block:∀k,k<W.heap.size->(S k\/B<=k)->W'.heap[k]? =W.heap[k]?
def KBt.refl(B:Nat)(S:Nat->Prop)(W:World):KBt B S W W:=⟨qCj _,λ_ _ _=>rfl⟩
def KBt.trans{B:Nat}{S:Nat->Prop}{X Y Z:World}(h:KBt B S X Y)(k:KBt B S Y Z):KBt B S X Z:=⟨qCU h.size k.size,λi hi hs=>(k.block i (qCt hi h.size) hs).trans (h.block i hi hs)⟩
def KBt.mono{A B:Nat}{S:Nat->Prop}{X Y:World}(h:KBt A S X Y)(a:A<=B):KBt B S X Y:=⟨h.size,λi hi hs=>h.block i hi (hs.imp id λh=>qCU a h)⟩
def KBt.alloc(B:Nat)(S:Nat->Prop)(W:World)(o:Obj):KBt B S W (W.alloc o):=⟨by simp,λk hk _=>Below.heap_alloc W o k hk⟩
def qs8(B C:Nat)(I:Nat->World->Prop):Prop:=∀k W W',I k W->GrR B C W W'->I k W'
def qnF(S:Nat->Prop)(B:Nat)(I a:Nat->World->Prop)(k:Nat)(W:World):Exit->Act->World->Prop
 | .normal,_,W'=>KeepsFrom B W W'/\KBt B S W W'/\I (k+1) W'
 | .ret,_,W'=>KeepsFrom B W W'/\a k W'
 | _,_,_=>False
def qs4(F:Fence)(n:Nat)(P:Program)(gf:Nat)(lb:Array Value)(len:Nat)(a:Nat->Array Value)(S:Nat->Prop)(m:Nat)(w:World):Prop:=
 ∀ (l:Nat) (J c:Nat->World->Prop) (W:World),KBt w.heap.size S w W->w.heap.size<=W.heap.size->(∀k A C,GrR W.heap.size (W.heap.size+m) A C->J k A->J k C)->
  (∀k b,J k b->W.heap.size+m<=b.heap.size->k<len->YieldAt F (n -1) P l (a k) b λe W'=>
    (e= .returned (.bool true)/\J (k+1) W'/\KBt W.heap.size S b W')\/(e= .returned (.bool false)/\c k W'))->
  J 0 W->CallsIn F n P gf (#[.func (.yield l) #[] #[]] ++lb) W λe W'=>(∃v,e= .returned v)/\(J len W'\/ ∃k,k<len/\c k W')
theorem R5{g:Operand}{ps:Array Tmp}{assign body:Code}{Q:Exit->Act->World->Prop}{a:Act}{w:World}
 (hro:F.round=none) (h1:1<=n) {gf:Nat} {lb:Array Value} (U:a.eval g= .func (.func gf) #[] lb) (hFg:F.fn gf) (eg:∀args w,(callFunc gf args).run P w= .ok (.enter gf args) w)
 {len:Nat} {d:Nat->Array Value} {S:Nat->Prop} {m:Nat} (Y:qs4 F (n -1) P gf lb len d S m w) (hS:∀k,S k->k<w.heap.size) (hps:∀x,(d x).size=ps.size)
 (I Ix:Nat->World->Prop) (hI:qs8 w.heap.size (w.heap.size+2+m) I) (Z:qs8 w.heap.size (w.heap.size+2+m) Ix) (h0:I 0 w)
 (Ax:Nat->Act->World->Prop) (hAx:∀y,∀k W o,w.heap.size+1<W.heap.size->Ax k y W->Ax k y (W.putObj (w.heap.size+1) o))
 (q:∀ (l k:Nat) (W:World),w.heap.size+2+m<=W.heap.size->w.heap.size<=l->I k W->k<len->
   assign.wpIn (F.inRound l) (n -1 -1) P (Exit.then (λy W'=>KeepsFrom w.heap.size W W'/\KBt w.heap.size S W W'/\I k W'/\Ax k y W') (λ_ _ _=>False)) { tmps:=(ps.zip (d k)).foldl (λt (p,v)=>t.setIfInBounds p v) a.tmps,defers:=[] } W)
 (J:∀(l k:Nat) (y:Act) (W:World),w.heap.size+2+m<=W.heap.size->w.heap.size<=l->I k W->Ax k y W->k<len->body.wpIn (F.inRound l) (n -1 -1) P (qnF S w.heap.size I Ix k W) y W)
 (K:∀(D:Nat) (W:World),w.heap.size<=D->I len W->W.heap[D]? =some (.deferred (some []))->Q .normal { a with defers:={ target:= .collected D,args:= #[] } ::a.defers } W)
 (L:∀(D k:Nat) (W:World),w.heap.size<=D->k<len->Ix k W->W.heap[D]? =some (.deferred (some []))->Code.ret.wpIn F n P Q { a with defers:={ target:= .collected D,args:= #[] } ::a.defers } W):
 (Code.rangeFunc g ps assign body).wpIn F n P Q a w:=by
 refine wpIn_rangeFunc ?_;intro fn hfn;rw[hro];obtain⟨rec,b⟩:∃rec:LoopState->Option Code->Loop,rec=λst pe=>{ state:=st,pending:=pe,fn,tmps:=a.tmps,params:=ps,assign,body,defers:=w.heap.size } :=⟨_,rfl⟩
 obtain⟨r,M⟩:∃r,(w.alloc (.deferred (some []))).alloc (.loop (rec .ready none))=r:=⟨_,rfl⟩
 have hL1:r.heap[w.heap.size+1]? =some (.loop (rec .ready none)):=by
  grind [World.alloc_heap_new,World.size_alloc]
 have hK1:r.heap[w.heap.size]? =some (.deferred (some [])):=by
  grind [Below.heap_alloc,World.alloc_heap_new]
 have hI1:I 0 r:=by rw[<-M];exact hI 0 _ _ (hI 0 _ _ h0 (GrR.alloc w (qCj _) _)) (GrR.alloc _ (by simp) _)
 have hs1:r.heap.size=w.heap.size+2:=by rw[<-M];simp
 have hb1:KBt w.heap.size S w r:=by
  rw[<-M];exact(KBt.alloc _ _ _ _).trans (KBt.alloc _ _ _ _)
 refine⟨w.heap.size+1, [{ target:= .collected w.heap.size,args:= #[] }],r, { target:= .fn (.func gf) lb,args:= #[.func (.yield (w.heap.size+1)) #[] #[]] },r,gf,
  #[.func (.yield (w.heap.size+1)) #[] #[]] ++lb,r,?_,?_,?_,?_,λ_=>h1,?_⟩
 grind [run_enterLoop_outer]
 ·simp only[resolve,U];simp[go_sem]
 grind [Target.leads];grind [invoke]
 ·refine(Y (w.heap.size+1)
   (λk W=>I k W/\W.heap[w.heap.size+1]? =some (.loop (rec .ready none))/\W.heap[w.heap.size]? =some (.deferred (some [])))
   (λk W=>Ix k W/\W.heap[w.heap.size+1]? =some (.loop (rec .done (some .ret)))/\W.heap[w.heap.size]? =some (.deferred (some [])))
   r hb1 (by omega)
   (λk A C U hs=>by
     rw[hs1]at U;exact⟨hI k A C hs.1 (U.mono (by omega) (by omega)),U.get hs.2.1 (.inl (by omega)),U.get hs.2.2 (.inl (by omega))⟩)
   ?_ ⟨hI1,hL1,hK1⟩).mono ?_
  ·rintro k W ⟨hi,hl,hk⟩ hsz hlen;rw[hs1]at hsz ⊢;have hy:=run_yield (P:=P) (args:=d k) hl (by rw[b];exact hps k);rw[b]at hy;refine⟨fn,_,assign,body,hy,roundIn_of_wpIn hfn (wpIn_mono (q _ k W (by omega) (by omega) hi hlen) ?_)⟩;clear hy;rintro e y Wa he;cases e with
   | normal=>
     obtain⟨s,hba,hia,hax⟩:=he;have hla:=s.same _ _ (by omega) hl rfl;have hka:=s.same _ _ (qCj _) hk rfl;have hlt:w.heap.size+1<Wa.heap.size:=(qCp.1 hla).1;refine⟨_,run_beginRound hla (by rw[b]),?_⟩;have hl2:(Wa.putObj (w.heap.size+1) (.loop { rec .ready none with state:= .busy })).heap[w.heap.size+1]? =some (.loop { rec .ready none with state:= .busy }):=World.putObj_heap_same hlt;have hk2:(Wa.putObj (w.heap.size+1) (.loop { rec .ready none with state:= .busy })).heap[w.heap.size]? =some (.deferred (some [])):=(World.putObj_heap_other (by omega)).trans hka;have E:∀(X:World) (o:Obj),KBt (w.heap.size+2) S X (X.putObj (w.heap.size+1) o):=λX o=>⟨by simp,λj hj hs=>World.putObj_heap_other (by rcases hs with h|h;(have:=hS j h;omega);omega)⟩
     refine wpIn_mono (J _ k y _ (by simp;have:=s.size;omega) (by omega) (hI k _ _ hia (GrR.put _ (by omega) (by omega) (by omega) _)) (hAx y k _ _ hlt hax) hlen) ?_;rintro e a3 W3 hp;cases e with
     | normal=>
       obtain⟨u,hb3,N⟩:=hp;have c:=u.same _ _ (by omega) hl2 rfl;have O:=u.same _ _ (qCj _) hk2 rfl;have hr:=run_endRound (P:=P) none c;refine⟨_,_,hr, .inl ⟨rfl,⟨hI _ _ _ N (GrR.put _ (by omega) (by omega) (by have:=(qCp.1 c).1;omega) _),?_,(World.putObj_heap_other (by omega)).trans O⟩,(hba.mono (by omega)).trans ((E _ _).trans ((hb3.mono (by omega)).trans (E _ _)))⟩⟩;rw[World.putObj_heap_same (qCp.1 c).1,b];rfl
     | ret=>
       obtain⟨u,N⟩:=hp;have c:=u.same _ _ (by omega) hl2 rfl;have O:=u.same _ _ (qCj _) hk2 rfl;have hr:=run_endRound (P:=P) (some .ret) c;refine⟨_,_,hr, .inr ⟨rfl,Z _ _ _ N (GrR.put _ (by omega) (by omega) (by have:=(qCp.1 c).1;omega) _),?_,(World.putObj_heap_other (by omega)).trans O⟩⟩;rw[World.putObj_heap_same (qCp.1 c).1,b];rfl
     |exit id=>exact hp.elim
     |goto t=>exact hp.elim
     |panic ch=>exact hp.elim
     |outgrown=>exact hp.elim
   |ret=>exact he.elim
   |exit id=>exact he.elim
   |goto t=>exact he.elim
   |panic ch=>exact he.elim
   |outgrown=>exact he.elim
  ·rintro e W2 ⟨⟨v,rfl⟩,(⟨hi,hl,hk⟩|⟨k,hk0,hi,hl,hk⟩)⟩
   ·exact⟨none,_,by have:=run_endLoop (P:=P) hl (by rw[b];simp);rw[b]at this;exact this,K _ _ (qCj _) (hI _ _ _ hi (GrR.put _ (by omega) (by omega) (by have:=(qCp.1 hl).1;omega) _)) ((World.putObj_heap_other (by omega)).trans hk)⟩
   ·exact⟨some .ret,_,by have:=run_endLoop (P:=P) hl (by rw[b];simp);rw[b]at this;exact this,L _ k _ (qCj _) hk0 (Z _ _ _ hi (GrR.put _ (by omega) (by omega) (by have:=(qCp.1 hl).1;omega) _)) ((World.putObj_heap_other (by omega)).trans hk)⟩
end
end Go.Gv
