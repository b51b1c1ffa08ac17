/- A part of the framework and of the walks: C53 W135 C54 W136 T33 C55 W140 W141. -/
import Derived.Test.YtfbleenmepoodaaGreatDoorGa28
set_option linter.unusedSimpArgs false
set_option linter.unusedVariables false
set_option linter.unusedSectionVars false
set_option linter.defProp false
set_option maxRecDepth 100000
set_option maxHeartbeats 0
namespace Go.Gv
open Go.Proofs
def gK:CC:=gq Tryz.f140 [3] { bx:=[2],ke:=[2] } _
def gk:List ai:=[.tmp 6]
def CT:aq Tryz.prog ld [3] gK gk 36:=fo
def jS:CC:=gq Tryz.f183 [] {} _
def jk:List ai:=[.tmp 2]
def yf:aq Tryz.prog kJ [] jS jk 47:=fo
def cH:CC:=gq Tryz.f166 [1] {} _
def cE:List ai:=[.tmp 2]
def wc:aq Tryz.prog jF [1] cH cE 101:=fo
def iw:CC:=gq Tryz.f141 [1] {} _
def hZ:List ai:=[.tmp 2]
def uX:aq Tryz.prog fb [1] iw hZ 19:=fo
def ff:CC:=gq Tryz.f142 [1] {} _
def eP:List ai:=[.tmp 2]
def we:aq Tryz.prog fZ [1] ff eP 42:=fo
def jV:CC:=gq Tryz.f112 [1] {} _
def jn:List ai:=[.tmp 2]
def yi:aq Tryz.prog gY [1] jV jn 16:=fo
open Cod (enc dec)
variable {S S0:Nat->Spc}
def AD{X:Type}{l:List X}{k:Nat}(h:k < l.length):∃x,l[k]? =some x:=⟨_,qjC h⟩
def Dz{X:Type}{l:List X}{k:Nat}{x:X}(h:l[k]? =some x):l.drop k=x::l.drop (k+1):=by
 obtain⟨h1,h2⟩:=qjA.1 h;rw[qkq h1,h2]
theorem D7(n:Nat)(h1:S ld=YU (pq n)):SK gK gk S (pq (n+1)):=by
 rintro b x d k ⟨ok,m⟩ hF;have hF0:=hF;simp only[pq]at hF;split at hF
 ·cases hF
 rename_i hrng;have hin:InR .i64 (k+1):=by simp only[InR];omega
 split at hF
 ·rename_i hbig;cases hF;by_cases h40:40 < d
  ·simp[gK,gk,hin,h40, -Bool.forall_bool, -Bool.exists_bool];exact⟨rfl,by simp⟩
  ·have h200:200 < k+1:=by omega
   simp[gK,gk,hin,h40,h200, -Bool.forall_bool, -Bool.exists_bool];exact⟨rfl,by simp⟩
 ·rename_i hbig;have h40:¬40 < d:=by omega
  have h200:¬200 < k+1:=by omega
  simp[gK,gk,hin,h40,h200, -Bool.forall_bool, -Bool.exists_bool];intro hkl;refine am (X:=Int) [1,2,23] [] x.kids.length (λi z=>ZY (pq n) d (x.kids.drop i) z=some (ok,m)) (λz=>[]) (λz=>[(2, .box b [.v (.int .i64 z)])]) (k+1) (by simp) (by simp) (by omega) (by simp) (by simp) hF (by simp) (by simp) ?_ ?_
  ·rintro i z hi hz;obtain⟨y,hy⟩:=AD hi;obtain⟨_,hgy⟩:=qjA.1 hy;rw[Dz hy,ZY]at hz;obtain⟨⟨t,m'⟩,hs,hz⟩:=qjy.1 hz;simp only at hz;have hin2:InR .i64 (d+1):=by simp only[InR];omega
   cases t with
   | true=>
     simp only[if_true]at hz;simp[h1,hi,hy,hgy,hs,hin2, -Bool.forall_bool, -Bool.exists_bool];exact⟨m',hz, .inl rfl⟩
   | false=>
     simp only[qkc,if_false]at hz;cases hz;simp[h1,hi,hy,hgy,hs,hin2, -Bool.forall_bool, -Bool.exists_bool];exact⟨rfl,by simp⟩
  ·rintro z hz;rw[qkD,ZY]at hz;cases hz;simp[-Bool.forall_bool, -Bool.exists_bool];exact⟨rfl,by simp⟩
abbrev Ji:Spc:=aZ (a1 (List Rng)) (λl=>Na l=true) (enc (X:=Bool)) λ_ y=>y=true
def zD:ax jS jk S (a1 (List Rng)) (λl=>Na l=true) (enc (X:=Bool)) λ_ y=>y=true:=by
 rintro l hl;obtain⟨r,rfl⟩:∃r,l=[r]:=by
  match l,hl with
  | [r],_=>exact⟨r,rfl⟩
 simp[Na]at hl;simp[jS,jk, -Bool.forall_bool, -Bool.exists_bool];refine am (X:=Unit) [0,5] [] 1 (λ_ _=>True) (λ_=>[]) (λ_=>[]) () (by simp) (by simp) (by omega) (by simp) (by simp) trivial (by simp) (by simp) ?_ ?_
 ·rintro k -hk -;obtain rfl:k=0:=by omega
  have n1:¬r.fr.val < 0:=by omega
  have n2:¬r.to.val < r.fr.val:=by omega
  have n3:¬1114111 < r.to.val:=by omega
  simp[n1,n2,n3, -Bool.forall_bool, -Bool.exists_bool]
 ·rintro - -;simp[-Bool.forall_bool, -Bool.exists_bool]
abbrev E1:Spc:=aZ (a1 Rx) (λx=>qaf x=true) (enc (X:=Bool)) λ_ y=>y=true
set_option maxHeartbeats 2000000 in
theorem xk(h1:S kJ=Ji):ax cH cE S (a1 Rx) (λx=>qaf x=true) (enc (X:=Bool)) λ_ y=>y=true:=by
 rintro⟨op,mn,mx,rs,ks⟩ hx;have hx:qaf ⟨op,mn,mx,rs,ks⟩=true:=hx;unfold qaf at hx;simp only at hx;split at hx
 ·rename_i e;subst e;simp at hx;obtain⟨⟨⟨rfl,rfl⟩,rfl⟩,hs⟩:=hx;simp[cH,cE,h1,hs, -Bool.forall_bool, -Bool.exists_bool];refine am (X:=Unit) [1,3] [] 0 (λ_ _=>True) (λ_=>[]) (λ_=>[]) () (by simp) (by simp) (by omega) (by simp) (by simp) trivial (by simp) (by simp) (λk x hk=>absurd hk (by omega)) (λ_ _=>?_);simp[h1,hs, -Bool.forall_bool, -Bool.exists_bool]
 split at hx
 ·rename_i e1 e;subst e;simp at hx;obtain⟨⟨⟨⟨rfl,rfl⟩,rfl⟩,hl1,hl3⟩,hk2⟩:=hx;have hlt:(ks.length:Int)<=9223372036854775807:=by omega
  simp[cH,cE,hlt, -Bool.forall_bool, -Bool.exists_bool];refine am (X:=Unit) [1,3,34] [] ks.length (λ_ _=>True) (λ_=>[]) (λ_=>[]) () (by simp) (by simp) (by omega) (by simp) (by simp) trivial (by simp) (by simp) ?_ ?_
  ·rintro k -hk -;obtain⟨y,hy⟩:=AD hk;obtain⟨_,hgy⟩:=qjA.1 hy;have hop:=hk2 y (qjD hy);simp[hk,hy,hgy,hop, -Bool.forall_bool, -Bool.exists_bool]
  ·rintro - -;have hl1':¬ (ks.length:Int)=1:=by omega
   simp[hl1,hl1', -Bool.forall_bool, -Bool.exists_bool]
 split at hx
 ·rename_i e1 e2 e;subst e;simp at hx;obtain⟨⟨⟨⟨rfl,rfl⟩,rfl⟩,hl1,hl3⟩,hk2⟩:=hx;have hlt:(ks.length:Int)<=9223372036854775807:=by omega
  simp[cH,cE,hlt, -Bool.forall_bool, -Bool.exists_bool];refine am (X:=Unit) [1,3,34] [] ks.length (λ_ _=>True) (λ_=>[]) (λ_=>[]) () (by simp) (by simp) (by omega) (by simp) (by simp) trivial (by simp) (by simp) ?_ ?_
  ·rintro k -hk -;obtain⟨y,hy⟩:=AD hk;obtain⟨_,hgy⟩:=qjA.1 hy;have hop:=hk2 y (qjD hy);simp[hk,hy,hgy,hop, -Bool.forall_bool, -Bool.exists_bool]
  ·rintro - -;have hl1':(1:Int) < ks.length:=by omega
   simp[hl1,hl1', -Bool.forall_bool, -Bool.exists_bool]
 split at hx
 ·rename_i e1 e2 e3 e;subst e;simp at hx;obtain⟨⟨⟨g0,g1,g2⟩,rfl⟩,hl1⟩:=hx;obtain⟨k0,rfl⟩:∃k,ks=[k]:=qkI.1 hl1;simp[cH,cE, -Bool.forall_bool, -Bool.exists_bool];refine am (X:=Unit) [1,3,34] [] 1 (λ_ _=>True) (λ_=>[]) (λ_=>[]) () (by simp) (by simp) (by omega) (by simp) (by simp) trivial (by simp) (by simp) ?_ ?_
  ·rintro k -hk -;obtain rfl:k=0:=by omega
   simp[-Bool.forall_bool, -Bool.exists_bool]
  ·rintro - -;simp[g0,g1, -Bool.forall_bool, -Bool.exists_bool];exactλh=>⟨λ_=>by omega,by omega⟩
 ·cases hx
abbrev vY(n:Nat):Spc:=aZ (a1 Rx) (λx=>OG n x=true) (enc (X:=Bool)) λ_ y=>y=true
def vO(n:Nat)(h1:S jF=E1)(h2:S fb=vY n):ax iw hZ S (a1 Rx) (λx=>OG (n+1) x=true) (enc (X:=Bool)) λ_ y=>y=true:=by
 rintro x hx;have hx:OG (n+1) x=true:=hx;simp only[OG,qjE,qjF]at hx;obtain⟨hx1,hx2⟩:=hx;simp[iw,hZ,h1,hx1, -Bool.forall_bool, -Bool.exists_bool];intro hkl;refine am (X:=Unit) [9] [] x.kids.length (λ_ _=>True) (λ_=>[]) (λ_=>[]) () (by simp) (by simp) (by omega) (by simp) (by simp) trivial (by simp) (by simp) ?_ ?_
 ·rintro k -hk -;obtain⟨y,hy⟩:=AD hk;obtain⟨_,hgy⟩:=qjA.1 hy;have hp:=hx2 y (qjD hy);simp[h2,hk,hy,hgy,hp, -Bool.forall_bool, -Bool.exists_bool]
 ·rintro - -;simp[-Bool.forall_bool, -Bool.exists_bool]
abbrev LH(n:Nat):Spc:=aZ (a1 Rx) (λx=>∃m,CS n x=some m) (enc (X:=Int)) λx y=>CS n x=some y
set_option maxHeartbeats 1000000 in
theorem xn(n:Nat)(h1:S fZ=LH n):ax ff eP S (a1 Rx) (λx=>∃m,CS (n+1) x=some m) (enc (X:=Int)) λx y=>CS (n+1) x=some y:=by
 rintro x ⟨m,hm⟩;have hm0:=hm;simp only[CS]at hm;split at hm
 ·rename_i e;cases hm;simp[ff,eP,e,hm0, -Bool.forall_bool, -Bool.exists_bool]
 rename_i e1;obtain⟨k,hk,hm⟩:=qjy.1 hm;simp[ff,eP,e1, -Bool.forall_bool, -Bool.exists_bool];intro hkl;refine am (X:=Int) [1,10] [] x.kids.length (λi z=>qab (CS n) (x.kids.drop i) z=some k) (λz=>[(3,enc z)]) (λ_=>[]) 0 (by simp) (by simp) (by omega) (by simp) (by simp) hk (by simp) (by simp) ?_ ?_
 ·rintro i z hi hz;obtain⟨y,hy⟩:=AD hi;obtain⟨_,hgy⟩:=qjA.1 hy;rw[Dz hy,qab]at hz;obtain⟨v,hv,hz⟩:=qjy.1 hz;split at hz
  ·cases hz
  rename_i hr;have hin:InR .i64 (z+v):=by simp only[InR];omega
  have hp:∃m,CS n y=some m:=⟨v,hv⟩
  simp[h1,hi,hy,hgy,hv, -Bool.forall_bool, -Bool.exists_bool];exact⟨hin,hz⟩
 ·rintro z hz;rw[qkD,qab]at hz;cases hz;split at hm
  ·rename_i e4;cases hm;simp[e4,hm0, -Bool.forall_bool, -Bool.exists_bool]
  ·rename_i e4;have e4:x.op=4:=by omega
   unfold qad at hm;split at hm
   ·rename_i emx;split at hm
    ·rename_i hb;cases hm;have hin:InR .i64 (k*max x.mn 1):=by simp only[InR];omega
     simp[e4,emx,hin,hm0, -Bool.forall_bool, -Bool.exists_bool]
    ·cases hm
   ·rename_i emx;split at hm
    ·rename_i hb;cases hm;have hin:InR .i64 (k*x.mx):=by simp only[InR];omega
     simp[e4,emx,hin,hm0, -Bool.forall_bool, -Bool.exists_bool]
    ·cases hm
abbrev Jk:Spc:=aZ (a1 Rx) (λx=>vT 50 x=true) (enc (X:=Int)) λx y=>y=0
def zG(h1:S ld=YU (pq 50))(h2:S fb=vY 50)(h3:S fZ=LH 50):ax jV jn S (a1 Rx) (λx=>vT 50 x=true) (enc (X:=Int)) λx y=>y=0:=by
 rintro x hx;have hx:vT 50 x=true:=hx;simp only[vT,qjE]at hx;obtain⟨⟨g1,g2⟩,g3⟩:=hx;obtain⟨⟨t,k⟩,hs,rfl⟩:∃r,pq 50 x 1 0=some r/\r.1=true:=by
  cases h:pq 50 x 1 0 with
  | none=>rw[h]at g1;cases g1
  | some r=>rw[h]at g1;exact⟨r,rfl,g1⟩
 obtain⟨m,hm,hm64⟩:∃m,CS 50 x=some m/\m<=64:=by
  cases h:CS 50 x with
  | none=>rw[h]at g3;cases g3
  | some r=>rw[h]at g3;exact⟨r,rfl,of_decide_eq_true g3⟩
 have n64:¬64 < m:=by omega
 simp[jV,jn,h1,h2,h3,hs,g2,hm,n64, -Bool.forall_bool, -Bool.exists_bool];exact hm64
end Go.Gv
namespace Go.Gv
open Go.Proofs
def nU:CC:=gq Tryz.f83 [2002002] {} _
def nl:List ai:=[.cell 2 true 5, .tmp 3, .tmp 4]
def CV:aq Tryz.prog li [2002002] nU nl 66:=fo
def oh:CC:=gq Tryz.f74 [] {} _
def nA:List ai:=[.tmp 2]
def C7:aq Tryz.prog pP [] oh nA 13:=fo
def jU:CC:=gq Tryz.f145 [] {} _
def jm:List ai:=[.tmp 4]
def yh:aq Tryz.prog kK [] jU jm 24:=fo
open Cod (enc dec)
variable {S S0:Nat->Spc}
def qia{Y Z W V:Type}[Cod Y][Cod Z][Cod W][Cod V](x:Y×Z×W×V):D:= .tup [enc x.1,enc x.2.1,enc x.2.2.1,enc x.2.2.2]
@[simp] theorem qh9{Y Z W V:Type}[Cod Y][Cod Z][Cod W][Cod V](y:Y)(z:Z)(w:W)(v:V):qia (y,z,w,v)= .tup [enc y,enc z,enc w,enc v]:=id rfl
def Tl(s:B)(i:Int):I32×Int×Int×Bool:=match s.data[i.toNat]? with
 | some c=>(⟨c.toNat⟩,i,1,true)
 | none=>(⟨0⟩,0,0,false)
abbrev s_cpAt:Spc:=aZ (a2 B Int) (λx=>x.1.size<=1000/\sd x.1=true/\0<=x.2/\x.2<=x.1.size) (qia (Y:=I32) (Z:=Int) (W:=Int) (V:=Bool)) λx y=>y=Tl x.1 x.2
def SA{s:B}(h:sd s=true){k:Nat}{c:UInt8}(hc:s.data[k]? =some c):c.toNat < 128:=by
 have:=qjF.1 h c (by rw[<-qj6]at hc;exact qjD hc);exact of_decide_eq_true this
abbrev zT:Spc:=aZ (a1 B) (λs=>∃r,jv s=some r) (Ze (Y:=Rx) (Z:=Int) (W:=Int)) λs y=>jv s=some y.1/\y.2=(0,0)
set_option maxHeartbeats 2000000 in
theorem Ea(h1:S tW=s_cpAt)(h2:S gE=Qh)(h3:S gY=Jk):ax nU nl S (a1 B) (λs=>∃r,jv s=some r) (Ze (Y:=Rx) (Z:=Int) (W:=Int)) λs y=>jv s=some y.1/\y.2=(0,0):=by
 rintro s ⟨r,hr⟩;have hr0:=hr;unfold jv at hr;split at hr
 rotate_left
 ·cases hr
 rename_i hs;obtain⟨hsz,hasc⟩:=hs;obtain⟨⟨p,x,ok⟩,hu,hr⟩:=qjy.1 hr;split at hr
 rotate_left
 ·cases hr
 rename_i hv;obtain⟨rfl,hpos,hval⟩:=hv;cases hr;have n200:¬ (200:Int) < s.size:=by omega
 have hs10:s.size<=1000:=by omega
 simp[nU,nl,n200, -Bool.forall_bool, -Bool.exists_bool];intro b2 hsz2;refine aL (X:=Nat) [0,2] [2] (λi=>i<=s.size) (λi=>[(5,enc (i:Int))]) (λ_=>[]) (λi=>s.size -i) 0 (qj5 _) (by simp) (by simp) ?_;rintro i hi;by_cases hlt:i < s.size
 ·obtain⟨c,hc⟩:∃c,s.data[i]? =some c:=⟨s.data[i]'hlt,qly hlt⟩
  have h128:=SA hasc hc;have hat:Tl s (i:Int)=((⟨(c.toNat:Int)⟩:I32),(i:Int),(1:Int),true):=by simp[Tl,hc]
  have hff:¬ ((c.toNat:Int)=65533):=by omega
  simp[h1,hs10,hasc,hat,hff,hi, -Bool.forall_bool, -Bool.exists_bool];exact⟨by simp only[InR];omega,i+1,by omega,by omega,by omega⟩
 ·obtain rfl:i=s.size:=by omega
  have hat:Tl s (s.size:Int)=(⟨0⟩,0,0,false):=by
   have:s.data[s.size]? =none:=qlh (qjL _);simp[Tl,this]
  simp only at hpos hval;have npos:¬p.pos < s.size:=by omega
  simp[h1,h2,h3,hs10,hasc,hat,hu,hpos,hval,npos, -Bool.forall_bool, -Bool.exists_bool];exactλb _=>⟨x, .same _,hr0⟩
abbrev T0:Spc:=aZ (a1 B) (λs=>∃r,jv s=some r) (enc (X:=Int)) λ_ y=>y=0
def Ej(h1:S li=zT):ax oh nA S (a1 B) (λs=>∃r,jv s=some r) (enc (X:=Int)) λ_ y=>y=0:=by
 rintro s ⟨r,hr⟩;simp[oh,nA,h1,hr, -Bool.forall_bool, -Bool.exists_bool]
abbrev TZ:Spc:=aZ (a2 (List Rng) I32) (λ_=>True) (enc (X:=Bool)) λx y=>y=HM x.1 x.2.val
theorem zF:ax jU jm S (a2 (List Rng) I32) (λ_=>True) (enc (X:=Bool)) λx y=>y=HM x.1 x.2.val:=by
 rintro⟨l,⟨c⟩⟩ -;simp[jU,jm, -Bool.forall_bool, -Bool.exists_bool];intro hkl;refine am (X:=Unit) [1,7] [] l.length (λk _=>HM (l.take k) c=false) (λ_=>[]) (λ_=>[]) () (by simp) (by simp) (by omega) (by simp) (by simp) rfl (by simp) (by simp) ?_ ?_
 ·rintro k -hk hP;obtain⟨y,hy⟩:=AD hk;obtain⟨_,hgy⟩:=qjA.1 hy;have hstep:HM (l.take (k+1)) c=(decide (y.fr.val<=c) && decide (c<=y.to.val)):=by
   have:l.take (k+1)=l.take k++ [y]:=by rw[qlx,hy];rfl
   unfold HM at hP ⊢;rw[this,List.any_append,hP];simp
  by_cases h1:y.fr.val<=c/\c<=y.to.val
  ·obtain⟨h1,h2⟩:=h1;have hres:HM l c=true:=by
    refine qko.2 ⟨y,qjD hy,by simp[h1,h2]⟩
   simp[hk,hy,hgy,h1,h2,hres, -Bool.forall_bool, -Bool.exists_bool]
  ·have hres:HM (l.take (k+1)) c=false:=by
    rw[hstep];simp;omega
   by_cases h2:y.fr.val<=c
   ·have h3:¬c<=y.to.val:=λe=>h1 ⟨h2,e⟩
    simp[hk,hy,hgy,h2,h3,hres, -Bool.forall_bool, -Bool.exists_bool]
   ·simp[hk,hy,hgy,h2,hres, -Bool.forall_bool, -Bool.exists_bool]
 ·rintro -hP;rw[qkl]at hP;simp[hP, -Bool.forall_bool, -Bool.exists_bool]
end Go.Gv
namespace Go.Gv
open Cod (enc dec)
variable {dq:Prop}
structure qiF where
 v:Value
 v':Value
 t:Tbk
def mX(v v':Value)(t:Tbk):List D:=[.own 990 v, .v (.int .u64 t.fi.val), .v (.int .u64 t.la.val), .own 991 v', .v (.bool t.nul)]
def kj(v:Value)(l:List (List Rng)):Res:= .row v df 1 (l.map enc)
def km(v:Value)(l:List U64):Res:= .row v dM 1 (l.map enc)
def tbB:Id qiF:=⟨[990,991],λx=>mX x.v x.v' x.t,λx=>[(990,kj x.v x.t.lvs),(991,km x.v' x.t.fol)],λ_=>rfl⟩
section
variable {Y Z:Type}
def Tj(A:fw Z)(er:Y->D)(F:Tbk->Z->Option (Tbk×Y)):Spc:=qha tbB A er (λs z=>∃r,F s.t z=some r) (λs z s' y=>F s.t z=some (s'.t,y))
def qk(H:aa)(id b:Nat)(v v':Value)(t:Tbk):aa:=aj (aj (aj H 991 (some (km v' t.fol))) 990 (some (kj v t.lvs))) id (some (.box b (mX v v' t)))
def IU(er:Y->D)(F:Tbk->Z->Option (Tbk×Y))(id b:Nat)(r r1 r2:Option Res)(o:Option Z)(H:aa)(K:D->aa->Prop):Prop:=
 ∃v v' t,r=some (.box b (mX v v' t))/\r1=some (kj v t.lvs)/\r2=some (km v' t.fol)/\id≠990/\id≠991/\ij o λz=>ij (F t z) λq=>∀w w',K (er q.2) (qk H id b w w' q.1)
@[congr] theorem qcF{er:Y->D}{F:Tbk->Z->Option (Tbk×Y)}{id b:Nat}{r r' r1 r1' r2 r2':Option Res}{o o':Option Z}{H:aa}{K:D->aa->Prop}(h1:r=r')(h2:r1=r1')(h3:r2=r2')(h4:o=o'):IU er F id b r r1 r2 o H K=IU er F id b r' r1' r2' o' H K:=by subst h1;subst h2;subst h3;subst h4;rfl
def wB{X:Type}[Cod X]:∀ {l l':List X},l.map enc=l'.map enc->l=l'
 | [], [],_=>rfl
 | [],_::_,h=>by simp at h
 | _::_, [],h=>by simp at h
 | a::l,b::l',h=>by
   rw[qj2,qj2,qke]at h;rw[bC h.1,wB h.2]
def QG{v v':Value}{l l':List (List Rng)}(h:kj v l=kj v' l'):v=v'/\l=l':=by
 unfold kj at h;injection h with h1 h2 h3 h4;exact⟨h1,wB h4⟩
def QH{v v':Value}{l l':List U64}(h:km v l=km v' l'):v=v'/\l=l':=by
 unfold km at h;injection h with h1 h2 h3 h4;exact⟨h1,wB h4⟩
def P0{b b':Nat}{v v' w w':Value}{t t':Tbk}(h:Res.box b (mX v v' t)=Res.box b' (mX w w' t'))(h1:kj v t.lvs=kj w t'.lvs)(h2:km v' t.fol=km w' t'.fol):b=b'/\v=w/\v'=w'/\t=t':=by
 obtain⟨e1,e2⟩:=QG h1;obtain⟨e3,e4⟩:=QH h2;obtain⟨hb,hc⟩:=Res.box.inj h;simp only[mX,qke,D.own.injEq,D.v.injEq,Value.int.injEq,Value.bool.injEq,true_and,and_true]at hc;obtain⟨_,⟨c1,c2,_,c3⟩⟩:=hc;refine⟨hb,e1,e3,?_⟩;obtain⟨a1,⟨a2⟩,⟨a3⟩,a4,a5⟩:=t;obtain⟨b1,⟨b2⟩,⟨b3⟩,b4,b5⟩:=t';simp only at e2 e4 c1 c2 c3;subst e2;subst e4;subst c1;subst c2;subst c3;rfl
def P1(x:qiF)(H:aa)(id b:Nat):aj (fq (tbB.hp x) H) id (some (.box b (tbB.ce x)))=qk H id b x.v x.v' x.t:=by
 rfl
theorem Lx(A:fw Z)(er:Y->D)(F:Tbk->Z->Option (Tbk×Y))(d i b:Nat)(ds:List D)(H:aa)(K:D->aa->Prop):(Tj A er F).pt d (.bptr i b 0::ds) H K=IU er F i b (H i) (H 990) (H 991) (A.dec ds) H K:=by
 refine propext ⟨λh=>?_,λh=>?_⟩
 ·obtain⟨id,b',x,z,ds',h1,h2,h3,h4,h5,h6,h7⟩:=h;cases h1;simp only[tbB,qjW,qkm,or_false,not_or]at h5;refine⟨x.v,x.v',x.t,h3,h4 (990,kj x.v x.t.lvs) (by simp[tbB]),h4 (991,km x.v' x.t.fol) (by simp[tbB]),h5.1,h5.2,?_⟩;rw[h2];obtain⟨⟨t',y⟩,hr⟩:=h6;show ij (F x.t z) _;rw[hr];intro w w';have:=h7 ⟨w,w',t'⟩ y hr;rwa [P1]at this
 ·obtain⟨v,v',t,h1,h2,h3,h4,h5,h6⟩:=h;cases hz:A.dec ds with
  | none=>rw[hz]at h6;exact h6.elim
  | some z=>
    rw[hz]at h6;have h6:ij (F t z) λq=>∀w w',K (er q.2) (qk H i b w w' q.1):=h6
    cases hF:F t z with
    | none=>rw[hF]at h6;exact h6.elim
    | some q=>
      rw[hF]at h6;have h6:∀w w',K (er q.2) (qk H i b w w' q.1):=h6;refine⟨i,b,⟨v,v',t⟩,z,ds,rfl,hz,h1,λp hp=>?_,by simp[tbB,h4,h5],⟨q,hF⟩,λx' y hq=>?_⟩
      ·simp only[tbB,qjW,qkm,or_false]at hp;rcases hp with rfl|rfl
       ·exact h2
       ·exact h3
      ·have hq:F t z=some (x'.t,y):=hq;rw[hF]at hq;cases hq;rw[P1];exact h6 x'.v x'.v'
theorem UG(A:fw Z)(er:Y->D)(F:Tbk->Z->Option (Tbk×Y))(b:Nat)(ds:List D):YC 0 (Tj A er F).pt (.bptr 0 b 0::ds):=by
 refine⟨λR=>IU er F 0 b (R 0) (R 990) (R 991) (A.dec ds) R λ_ _=>True,λR d u=>∃v v' t z q w w',R 0=some (.box b (mX v v' t))/\R 990=some (kj v t.lvs)/\R 991=some (km v' t.fol)/\A.dec ds=some z/\F t z=some q/\d=er q.2/\u=[(0, .box b (mX w w' q.1)),(990,kj w q.1.lvs),(991,km w' q.1.fol)],λt H K=>?_⟩;rw[Lx];have r0:nB H (some 0) 0=H 0:=by simp only[nB];exact if_pos rfl
 have r1:nB H (some 0) 990=H 990:=by simp only[nB];exact if_pos rfl
 have r2:nB H (some 0) 991=H 991:=by simp only[nB];exact if_pos rfl
 show _↔IU er F 0 b (nB H (some 0) 0) (nB H (some 0) 990) (nB H (some 0) 991) (A.dec ds) (nB H (some 0)) (λ_ _=>True)/\∀d u,(∃v v' t z q w w',nB H (some 0) 0=some (.box b (mX v v' t))/\nB H (some 0) 990=some (kj v t.lvs)/\nB H (some 0) 991=some (km v' t.fol)/\A.dec ds=some z/\F t z=some q/\d=er q.2/\u=[(0, .box b (mX w w' q.1)),(990,kj w q.1.lvs),(991,km w' q.1.fol)])->K d (fQ H (some 0) u);rw[r0,r1,r2];have hp:∀ (w w':Value) (q:Tbk),fQ H (some 0) [(0, .box b (mX w w' q)),(990,kj w q.lvs),(991,km w' q.fol)]=qk H 0 b w w' q:=λw w' q=>by
  funext i;simp only[fQ,qk,aj];by_cases h0:i=0
  ·subst h0;rfl
  ·by_cases h1:i=990
   ·subst h1;rfl
   ·by_cases h2:i=991
    ·subst h2;rfl
    ·have e:([(0, .box b (mX w w' q)),(990,kj w q.lvs),(991,km w' q.fol)]:List (Nat×Res)).lookup i=none:=by
      have e0:(i==0)=false:=by simp[h0]
      have e1:(i==990)=false:=by simp[h1]
      have e2:(i==991)=false:=by simp[h2]
      simp only[List.lookup,e0,e1,e2]
     rw[e,if_neg h0,if_neg h1,if_neg h2];split <;> rfl
 constructor
 ·rintro⟨v,v',t,h1,h2,h3,h4,h5,h6⟩;cases hz:A.dec ds with
  | none=>rw[hz]at h6;exact h6.elim
  | some z=>
    rw[hz]at h6;have h6:ij (F t z) λq=>∀w w',K (er q.2) (qk H 0 b w w' q.1):=h6
    cases hF:F t z with
    | none=>rw[hF]at h6;exact h6.elim
    | some q=>
      rw[hF]at h6;have h6:∀w w',K (er q.2) (qk H 0 b w w' q.1):=h6;refine⟨⟨v,v',t,h1,h2,h3,h4,h5,?_⟩,?_⟩
      ·show ij (F t z) _;rw[hF];exactλ_ _=>trivial
      ·rintro d u ⟨v1,v1',t1,z1,q1,w,w',g1,g2,g3,g4,g5,rfl,rfl⟩;rw[h1]at g1;rw[h2]at g2;rw[h3]at g3;obtain⟨_,_,_,rfl⟩:=P0 (qjJ g1) (qjJ g2) (qjJ g3);cases g4;rw[hF]at g5;cases g5;rw[hp];exact h6 w w'
 ·rintro⟨⟨v,v',t,h1,h2,h3,h4,h5,h6⟩,h7⟩;refine⟨v,v',t,h1,h2,h3,h4,h5,?_⟩;cases hz:A.dec ds with
  | none=>rw[hz]at h6;exact h6.elim
  | some z=>
    rw[hz]at h6;have h6:ij (F t z) λq=>∀w w':Value,True:=h6
    show ij (F t z) _;cases hF:F t z with
    | none=>rw[hF]at h6;exact h6.elim
    | some q=>
      intro w w';have:=h7 (er q.2) _ ⟨v,v',t,z,q,w,w',h1,h2,h3,hz,hF,rfl,rfl⟩;rwa [hp]at this
def QV(A:fw Z)(er:Y->D)(F:Tbk->Z->Option (Tbk×Y))(b:Nat)(dst:Option Nat)(ds:List D)(H:aa)(K:D->aa->Prop):Fd 0 dst (Tj A er F) (.bptr 0 b 0::ds) H K=IU er F 0 b (H 0) (H 990) (H 991) (A.dec ds) H K:=by
 rw[<-Lx A er F (dst.getD 0)];exact propext ⟨λh=>h.2,λh=>⟨UG A er F b ds,h⟩⟩
def Wy(er:Y->D)(F:Tbk->Z->Option (Tbk×Y))(id b:Nat)(v v':Value)(f l:Int)(n:Bool)(lv:List (List Rng))(fo:List U64)(o:Option Z)(H:aa)(K:D->aa->Prop):
 IU er F id b (some (.box b [.own 990 v, .v (.int .u64 f), .v (.int .u64 l), .own 991 v', .v (.bool n)])) (some (.row v df 1 (lv.map enc))) (some (.row v' dM 1 (fo.map enc))) o H K=(id≠990/\id≠991/\ij o λz=>ij (F ⟨lv,⟨f⟩,⟨l⟩,fo,n⟩ z) λq=>∀w w',K (er q.2) (qk H id b w w' q.1)):=by
 refine propext ⟨λ⟨w,w',t,h1,h2,h3,h4,h5,h6⟩=>⟨h4,h5,?_⟩,λh=>⟨v,v',⟨lv,⟨f⟩,⟨l⟩,fo,n⟩,rfl,rfl,rfl,h.1,h.2.1,h.2.2⟩⟩;obtain⟨_,_,_,e⟩:=P0 (t:=⟨lv,⟨f⟩,⟨l⟩,fo,n⟩) (t':=t) (b:=b) (b':=b) (qjJ h1) (qjJ h2) (qjJ h3);subst e;exact h6
def K6(er:Y->D)(b:Nat)(post:Tbk->Y->Prop)(r:D)(H:aa):Prop:=NX tbB er b (λs y=>post s.t y) r H
def Wd{er:Y->D}{b:Nat}{post:Tbk->Y->Prop}{r:D}{H:aa}(v v':Value)(t:Tbk)(y:Y)(hr:FrzTo (λi=>if i=0\/i=990\/i=991 then none else H i) r (er y))(h0:H 0=some (.box b (mX v v' t)))(h1:H 990=some (kj v t.lvs))(h2:H 991=some (km v' t.fol))(hq:post t y):K6 er b post r H:=
 ⟨⟨v,v',t⟩,y,by simpa [tbB]using hr,h0,λp hp=>by
  simp only[tbB,qjW,qkm,or_false]at hp;rcases hp with rfl|rfl
  ·exact h1
  ·exact h2,hq⟩
def AF(cc:CC)(rs:List ai)(S:Nat->Spc)(A:fw Z)(er:Y->D)(F:Tbk->Z->Option (Tbk×Y)):Prop:=
 ∀b v v' t z r,F t z=some r->vc S cc (ra rs λd H'=>K6 er b (λt' y=>r=(t',y)) d H') (cR (.bptr 0 b 0::A.view z)) (qk cv 0 b v v' t)
variable {P:Program}{S:Nat->Spc}{f:Nat}{im:List Nat}{cc:CC}{rs:List ai}{N:Nat}
def nj{A:fw Z}{er:Y->D}{F:Tbk->Z->Option (Tbk×Y)}(hS:∀f,Tri dq P f (S f).pt)(h:aq P f im cc rs N)(hN:∀z,(A.view z).length+1<=N)(hw:AF cc rs S A er F):Tri dq P f (Tj A er F).pt:=
 Cl (by simp[tbB]) hS h hN λb x z hp=>by
  obtain⟨r,hr⟩:=hp;rw[P1];have:=hw b x.v x.v' x.t z r hr;have e:(λ(d:D) (H':aa)=>NX tbB er b (λs' y=>F x.t z=some (s'.t,y)) d H')=λd H'=>K6 er b (λt' y=>r=(t',y)) d H':=by
   funext d H';unfold K6;congr 1;funext s' y;rw[hr];exact propext ⟨λh=>qjJ h,λh=>congrArg some h⟩
  rw[e];exact this
end
@[simp] theorem qeE(m:U64)(i:Nat):decide (KX .u64 (Oo .u64 m.val i) 1=1)=Pr m i:=id rfl
end Go.Gv
namespace Go.Gv
open Go.Proofs
def rX:CC:=gq Tryz.f143 [1,2024006,2022006,2020006] { cu:=[1,4],kz:=[990,991] } _
def qZ:List ai:=[.tmp 2]
def G6:aq Tryz.prog tV [1,2024006,2022006,2020006] rX qZ 26:=fo
def gO:CC:=gq Tryz.f196 [] { bx:=[0],kz:=[990,991] } _
def gw:List ai:=[]
def tB:aq Tryz.prog eq [] gO gw 31:=fo
def fl:CC:=gq Tryz.f184 [4,5] { ke:=[0],kz:=[990,991] } _
def eU:List ai:=[.cell 6 true 3]
def rk:aq Tryz.prog cA [4,5] fl eU 42:=fo
def bQ:CC:=gq Tryz.f167 [3,3060000,1031990,2033000,2006006] { bx:=[0],kz:=[990,991] } _
def bN:List ai:=[.cell 4 true 3]
def sD:aq Tryz.prog cg [3,3060000,1031990,2033000,2006006] bQ bN 98:=fo
def fk:CC:=gq Tryz.f185 [3,3095000,2005005] { bx:=[0],kz:=[990,991] } _
def eT:List ai:=[.cell 4 true 3]
def rj:aq Tryz.prog fJ [3,3095000,2005005] fk eT 98:=fo
def bV:CC:=gq Tryz.f197 [4,3035000,3036000,2009009] { bx:=[0],kz:=[990,991] } _
def bS:List ai:=[.cell 6 true 3]
def pD:aq Tryz.prog db [4,3035000,3036000,2009009] bV bS 39:=fo
def dZ:CC:=gq Tryz.f144 [] { ke:=[0],kz:=[990,991] } _
def dT:List ai:=[.tmp 6]
def tC:aq Tryz.prog iu [] dZ dT 35:=fo
open Cod (enc dec)
variable {S S0:Nat->Spc}
@[simp] theorem qd1(t:Tbk):Tbk.mk t.lvs t.fi t.la t.fol t.nul=t:=id rfl
abbrev Gt:Spc:=Tj (a2 U64 U64) Nt yv
def Ng(fr to:U64):∀ (l:List U64) (i:Nat),(Nh fr to i l).length=l.length
 | [],_=>rfl
 | f::l,i=>by rw[Nh,qkn,qkn,Ng fr to l (i+1)]
def JT{fr to f:U64} :∀ {l:List U64} {i k:Nat},l[k]? =some f->Nh fr to i (l.take k) ++ (if Pr fr (i+k)=true then Ul f to else f)::l.drop (k+1)=Nh fr to i (l.take (k+1)) ++l.drop (k+1)
 | [],i,k,h=>by simp at h
 | g::l,i,0,h=>by
   simp at h;subst h;simp[Nh]
 | g::l,i,k+1,h=>by
   simp at h;have:=JT (fr:=fr) (to:=to) (i:=i+1) h;rw[show i+1+k=i+ (k+1) by omega]at this;simp only[qlN,Nh,qku,qlJ];rw[this]
theorem Ws:AF gO gw S (a2 U64 U64) Nt yv:=by
 rintro b v v' ⟨lv,fi,la,fo,nu⟩ ⟨fr,to⟩ r hF;unfold yv at hF;simp only at hF;split at hF
 ·rename_i hlen;cases hF;have hl:(fo.length:Int)<=9223372036854775807:=by omega
  simp[gO,gw,qk,kj,km,mX,hl, -Bool.forall_bool, -Bool.exists_bool];refine am (X:=List U64) [0,1,2] [] fo.length (λk x=>x=Nh fr to 0 (fo.take k) ++fo.drop k) (λx=>[]) (λx=>[(0, .box b [.own 990 v, .v (.int .u64 fi.val), .v (.int .u64 la.val), .own 991 v', .v (.bool nu)]),(990, .row v df 1 (lv.map enc)),(991, .row v' dM 1 (x.map enc))]) fo (by simp) (by simp) (by omega) (by simp) (by simp) (by simp[Nh]) (by simp) (by simp) ?_ ?_
  ·rintro k x hk hx;obtain⟨f,hf⟩:∃f,fo[k]? =some f:=⟨_,qjC hk⟩
   have hll:(Nh fr to 0 (fo.take k)).length=k:=by rw[Ng,qj3];omega
   have hxl:x.length=fo.length:=by rw[hx,qj4,hll,qkz];omega
   have hxk:x[k]? =some f:=by
    rw[hx,qjK (by omega),hll,qkV,qkb];simpa using hf
   have hdr:x.drop (k+1)=fo.drop (k+1):=by
    rw[hx,List.drop_append,hll,List.drop_drop,qk3 (by rw[hll];omega)];simp
   have htk:x.take k=Nh fr to 0 (fo.take k):=by
    rw[hx,List.take_append,hll,qkV,qlq,qkF,qk2 (by rw[hll];omega)]
   have hset:∀g,x.set k g=Nh fr to 0 (fo.take k) ++g::fo.drop (k+1):=λg=>by
    rw[qlf,if_pos (by omega),htk,hdr]
   have hst:=JT (fr:=fr) (to:=to) (i:=0) hf;rw[qki,<-hset]at hst;have hkx:k < x.length:=by omega
   obtain⟨_,hgx⟩:=qjA.1 hxk;simp[hkx,hxk,hgx,hk,hxl, -Bool.forall_bool, -Bool.exists_bool];refine⟨λhb=>?_,λhb=>?_⟩
   ·rw[if_pos hb]at hst;left;rw[<-List.map_drop,<-qkO,<-hst,List.map_set];rfl
   ·rw[if_neg (by simp[hb])]at hst;rw[show x.set k f=x from by rw[<-hgx];exact List.set_getElem_self _]at hst;exact .inl hst
  ·rintro x hx;rw[qkl,qkD,qkF]at hx;subst hx;simp[-Bool.forall_bool, -Bool.exists_bool];exact Wd (er:=Nt) (y:=()) v v' ⟨lv,fi,la,Nh fr to 0 fo,nu⟩ (.same _) rfl rfl rfl rfl
 ·cases hF
attribute [simp] Lx QV
@[simp] theorem qcE{Y Z:Type}(er:Y->D)(F:Tbk->Z->Option (Tbk×Y))(id b:Nat)(v v':Value)(f l:Int)(n:Bool)(lv:List (List Rng))(fo:List U64)(o:Option Z)(H:aa)(K:D->aa->Prop):
 IU er F id b (some (.box b [.own 990 v, .v (.int .u64 f), .v (.int .u64 l), .own 991 v', .v (.bool n)])) (some (.row v df 1 (lv.map enc))) (some (.row v' dM 1 (fo.map enc))) o H K=(id≠990/\id≠991/\ij o λz=>ij (F ⟨lv,⟨f⟩,⟨l⟩,fo,n⟩ z) λq=>∀w w',K (er q.2) (aj (aj (aj H 991 (some (.row w' dM 1 (q.1.fol.map enc)))) 990 (some (.row w df 1 (q.1.lvs.map enc)))) id (some (.box b [.own 990 w, .v (.int .u64 q.1.fi.val), .v (.int .u64 q.1.la.val), .own 991 w', .v (.bool q.1.nul)])))):=Wy er F id b v v' f l n lv fo o H K
abbrev BS:Spc:=Tj (a2 Prt Prt) (enc (X:=Prt)) sr
def qt{b:Nat}{post:Tbk->Prt->Prop}{d:D}{H:aa}(v v':Value)(t:Tbk)(y:Prt)(hd:d=enc y)(h0:H 0=some (.box b (mX v v' t)))(h1:H 990=some (kj v t.lvs))(h2:H 991=some (km v' t.fol))(hq:post t y):K6 enc b post d H:=
 Wd (er:=enc) (y:=y) v v' t (by rw[hd];exact .same _) h0 h1 h2 hq
def PM(h1:S eq=Gt):AF fl eU S (a2 Prt Prt) (enc (X:=Prt)) sr:=by
 rintro b v v' ⟨lv,fi,la,fo,nu⟩ ⟨⟨af,al,an⟩,⟨bf,bl,bn⟩⟩ r hF;unfold sr at hF;simp only at hF;obtain⟨q,hl,rfl⟩:=qjH.1 hF;cases an <;> cases bn <;> simp[fl,eU,qk,kj,km,mX,h1,hl, -Bool.forall_bool, -Bool.exists_bool] <;> intro b1 w w' <;> exact qt w w' q.1 _ rfl rfl rfl rfl ⟨rfl,rfl⟩
def Rb{set f:U64}{l:List U64}{k:Nat}(h:l[k]? =some f)(m:U64):VV set k (l.drop k) m=VV set (k+1) (l.drop (k+1)) (if Pr set k=true then Ul m f else m):=by
 obtain⟨h1,h2⟩:=qjA.1 h;rw[qkq h1,h2,VV]
abbrev CA(n:Nat):Spc:=Tj (a1 Rx) (enc (X:=Prt)) (wW n).b
abbrev Qn(n:Nat):Spc:=Tj (a1 Rx) (enc (X:=Prt)) (wW n).r
abbrev LG(n:Nat):Spc:=Tj (a2 Rx Int) (enc (X:=Prt)) (wW n).o
def HV{X:Type}{l:List X}{k:Nat}(h:k < l.length):∃x,l[k]? =some x:=⟨_,qjC h⟩
def nR{X:Type}{l:List X}{k:Nat}{x:X}(h:l[k]? =some x):l.drop k=x::l.drop (k+1):=by
 obtain⟨h1,h2⟩:=qjA.1 h;rw[qkq h1,h2]
set_option maxHeartbeats 1000000 in
theorem Tt(n:Nat)(h1:S cg=CA n)(h2:S fJ=Qn n)(h3:S cA=BS):AF bQ bN S (a1 Rx) (enc (X:=Prt)) (wW (n+1)).b:=by
 rintro b v v' t ⟨op,mn,mx,rs,ks⟩ r hF;replace hF:Yk (wW n).b (wW n).r t ⟨op,mn,mx,rs,ks⟩=some r:=hF;unfold Yk at hF;simp only at hF;split at hF
 ·cases hF
 rename_i hok;have hok1:t.lvs.length<=1000/\t.fol.length<=1000:=by
  cases hb:G7 t with
  | true=>exact of_decide_eq_true hb
  | false=>exact absurd (.inl hb) hok
 have hkl:ks.length<=1000:=by
  have:¬1000 < ks.length:=λh=>hok (.inr h)
  omega
 obtain⟨hlv,hfo⟩:=hok1;have hkl':(ks.length:Int)<=9223372036854775807:=by omega
 have hlv':(t.lvs.length:Int)<=9223372036854775807:=by omega
 split at hF
 ·rename_i e;subst e;obtain rfl:=qjJ hF;simp[bQ,bN,qk,kj,km,mX,hlv', -Bool.forall_bool, -Bool.exists_bool];refineλb1=>⟨by omega,by omega,λw=>⟨by omega,by omega,λw'=>?_⟩⟩
  exact qt w w' ⟨t.lvs++ [rs],t.fi,t.la,t.fol++ [⟨0⟩],t.nul⟩ ⟨⟨Gr .u64 1 t.lvs.length⟩,⟨Gr .u64 1 t.lvs.length⟩,false⟩ rfl rfl (by simp[kj,aj]) (by simp[km,aj]) ⟨rfl,rfl⟩
 rename_i e1;split at hF
 ·rename_i e;subst e;simp[bQ,bN,qk,kj,km,mX,hkl', -Bool.forall_bool, -Bool.exists_bool];intro b4 b6;refine am (X:=Tbk×Prt×Value×Value) [0,4,6,50] [4] ks.length (λk x=>qbK (wW n).b (ks.drop k) x.1 x.2.1=some r) (λx=>[]) (λx=>[(0, .box b [.own 990 x.2.2.1, .v (.int .u64 x.1.fi.val), .v (.int .u64 x.1.la.val), .own 991 x.2.2.2, .v (.bool x.1.nul)]),(990, .row x.2.2.1 df 1 (x.1.lvs.map enc)),(991, .row x.2.2.2 dM 1 (x.1.fol.map enc)),(6, .box b6 [.v (.int .u64 x.2.1.first.val), .v (.int .u64 x.2.1.last.val), .v (.bool x.2.1.nul)])]) (t,wx,v,v') (by simp) (by simp) (by omega) (by simp) (by simp) (by simpa using hF) (by simp) (by simp[wx]) ?_ ?_
  ·rintro k ⟨t,p,w,w'⟩ hk hx;obtain⟨y,hy⟩:=HV hk;obtain⟨_,hgy⟩:=qjA.1 hy;rw[nR hy,qbK]at hx;obtain⟨q,hq,hx⟩:=qjy.1 hx;obtain⟨c,hc,hx⟩:=qjy.1 hx;simp[hk,hy,hgy,h1,h3,hq,hc, -Bool.forall_bool, -Bool.exists_bool];exactλu u'=>⟨c.1,c.2,hx,u,u', .inl ⟨rfl,rfl,rfl,rfl,rfl⟩, .inl ⟨rfl,rfl⟩, .inl ⟨rfl,rfl⟩, .inl ⟨rfl,rfl,rfl⟩⟩
  ·rintro⟨t,p,w,w'⟩ hx;rw[qkD,qbK]at hx;obtain rfl:=qjJ hx;simp[-Bool.forall_bool, -Bool.exists_bool];exact qt w w' t p rfl rfl rfl rfl ⟨rfl,rfl⟩
 rename_i e2;split at hF
 ·rename_i e;subst e;simp[bQ,bN,qk,kj,km,mX,hkl', -Bool.forall_bool, -Bool.exists_bool];intro b4 b9;refine am (X:=Tbk×Prt×Value×Value) [0,4,9,67] [4] ks.length (λk x=>Pv (wW n).b (ks.drop k) x.1 x.2.1=some r) (λx=>[]) (λx=>[(0, .box b [.own 990 x.2.2.1, .v (.int .u64 x.1.fi.val), .v (.int .u64 x.1.la.val), .own 991 x.2.2.2, .v (.bool x.1.nul)]),(990, .row x.2.2.1 df 1 (x.1.lvs.map enc)),(991, .row x.2.2.2 dM 1 (x.1.fol.map enc)),(9, .box b9 [.v (.int .u64 x.2.1.first.val), .v (.int .u64 x.2.1.last.val), .v (.bool x.2.1.nul)])]) (t,qfH,v,v') (by simp) (by simp) (by omega) (by simp) (by simp) (by simpa using hF) (by simp) (by simp[qfH]) ?_ ?_
  ·rintro k ⟨t,p,w,w'⟩ hk hx;obtain⟨y,hy⟩:=HV hk;obtain⟨_,hgy⟩:=qjA.1 hy;rw[nR hy,Pv]at hx;obtain⟨q,hq,hx⟩:=qjy.1 hx;simp[hk,hy,hgy,h1,hq, -Bool.forall_bool, -Bool.exists_bool];refineλu u'=>⟨λhn=>⟨q.1,_,hx,u,u', .inl ⟨rfl,rfl,rfl,rfl,rfl⟩, .inl ⟨rfl,rfl⟩, .inl ⟨rfl,rfl⟩, .inl ⟨rfl,rfl,by simp[hn]⟩⟩,λhn=>⟨q.1,_,hx,u,u', .inl ⟨rfl,rfl,rfl,rfl,rfl⟩, .inl ⟨rfl,rfl⟩, .inl ⟨rfl,rfl⟩, .inl ⟨rfl,rfl,by simp[hn]⟩⟩⟩
  ·rintro⟨t,p,w,w'⟩ hx;rw[qkD,Pv]at hx;obtain rfl:=qjJ hx;simp[-Bool.forall_bool, -Bool.exists_bool];exact qt w w' t p rfl rfl rfl rfl ⟨rfl,rfl⟩
 rename_i e3;simp[bQ,bN,qk,kj,km,mX,h2,e1,e2,e3,hF, -Bool.forall_bool, -Bool.exists_bool];intro b1 w w';exact qt w w' r.1 r.2 rfl rfl rfl rfl rfl
end Go.Gv
