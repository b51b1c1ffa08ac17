/- A part of the framework and of the walks: C53 W135 C54 W136 T33 C55 W140 W141. -/
import Derived.Test.YtfbleenmepoodaaGreatDoorGb28
set_option linter.unusedSimpArgs false
set_option linter.unusedVariables false
set_option linter.unusedSectionVars false
set_option linter.defProp false
set_option maxRecDepth 100000
set_option maxHeartbeats 0
namespace Go.Gv
open Go.Proofs
def ia:CC:=gq Tryz.f140 [3] { bx:=[2],ke:=[2] } _
def gJ:List aj:=[.tmp 6]
def Et:aq Tryz.prog lY [3] ia gJ 36:=fo
def kS:CC:=gq Tryz.f183 [] {} _
def jR:List aj:=[.tmp 2]
def zS:aq Tryz.prog lG [] kS jR 47:=fo
def cV:CC:=gq Tryz.f166 [1] {} _
def cS:List aj:=[.tmp 2]
def xO:aq Tryz.prog kB [1] cV cS 101:=fo
def iS:CC:=gq Tryz.f141 [1] {} _
def iE:List aj:=[.tmp 2]
def wy:aq Tryz.prog fy [1] iS iE 19:=fo
def fD:CC:=gq Tryz.f142 [1] {} _
def fb:List aj:=[.tmp 2]
def xP:aq Tryz.prog gB [1] fD fb 42:=fo
def kV:CC:=gq Tryz.f112 [1] {} _
def jU:List aj:=[.tmp 2]
def zV:aq Tryz.prog iz [1] kV jU 16:=fo
open Cod (enc dec)
variable {S S0:Nat->Spc}
def B1{X:Type}{l:List X}{k:Nat}(h:k < l.length):∃x,l[k]? =some x:=⟨_,qmd h⟩
def Fd{X:Type}{l:List X}{k:Nat}{x:X}(h:l[k]? =some x):l.drop k=x::l.drop (k+1):=by
 obtain⟨h1,h2⟩:=qmb.1 h;rw[qmW h1,h2]
theorem FO(n:Nat)(h1:S lY=qbh (qp n)):Vm ia gJ S (qp (n+1)):=by
 rintro b x d k ⟨ok,m⟩ hF;have hF0:=hF;simp only[qp]at hF;split at hF
 ·cases hF
 rename_i hrng;have hin:InR .i64 (k+1):=by simp only[InR];omega
 split at hF
 ·rename_i hbig;cases hF;by_cases h40:40 < d
  ·simp[ia,gJ,hin,h40, -Bool.forall_bool, -Bool.exists_bool];exact⟨rfl,by simp⟩
  ·have h200:200 < k+1:=by omega
   simp[ia,gJ,hin,h40,h200, -Bool.forall_bool, -Bool.exists_bool];exact⟨rfl,by simp⟩
 ·rename_i hbig;have h40:¬40 < d:=by omega
  have h200:¬200 < k+1:=by omega
  simp[ia,gJ,hin,h40,h200, -Bool.forall_bool, -Bool.exists_bool];intro hkl;refine ak (X:=Int) [1,2,23] [] x.kids.length (λi z=>qck (qp n) d (x.kids.drop i) z=some (ok,m)) (λz=>[]) (λz=>[(2, .box b [.v (.int .i64 z)])]) (k+1) (by simp) (by simp) (by omega) (by simp) (by simp) hF (by simp) (by simp) ?_ ?_
  ·rintro i z hi hz;obtain⟨y,hy⟩:=B1 hi;obtain⟨_,hgy⟩:=qmb.1 hy;rw[Fd hy,qck]at hz;obtain⟨⟨t,m'⟩,hs,hz⟩:=ql9.1 hz;simp only at hz;have hin2:InR .i64 (d+1):=by simp only[InR];omega
   cases t with
   | true=>
     simp only[if_true]at hz;simp[h1,hi,hy,hgy,hs,hin2, -Bool.forall_bool, -Bool.exists_bool];exact⟨m',hz, .inl rfl⟩
   | false=>
     simp only[qmP,if_false]at hz;cases hz;simp[h1,hi,hy,hgy,hs,hin2, -Bool.forall_bool, -Bool.exists_bool];exact⟨rfl,by simp⟩
  ·rintro z hz;rw[qne,qck]at hz;cases hz;simp[-Bool.forall_bool, -Bool.exists_bool];exact⟨rfl,by simp⟩
abbrev Lm:Spc:=aY (a1 (List Rng)) (λl=>Pi l=true) (enc (X:=Bool)) λ_ y=>y=true
def A6:av kS jR S (a1 (List Rng)) (λl=>Pi l=true) (enc (X:=Bool)) λ_ y=>y=true:=by
 rintro l hl;obtain⟨r,rfl⟩:∃r,l=[r]:=by
  match l,hl with
  | [r],_=>exact⟨r,rfl⟩
 simp[Pi]at hl;simp[kS,jR, -Bool.forall_bool, -Bool.exists_bool];refine ak (X:=Unit) [0,5] [] 1 (λ_ _=>True) (λ_=>[]) (λ_=>[]) () (by simp) (by simp) (by omega) (by simp) (by simp) trivial (by simp) (by simp) ?_ ?_
 ·rintro k -hk -;obtain rfl:k=0:=by omega
  have n1:¬r.fr.val < 0:=by omega
  have n2:¬r.to.val < r.fr.val:=by omega
  have n3:¬1114111 < r.to.val:=by omega
  simp[n1,n2,n3, -Bool.forall_bool, -Bool.exists_bool]
 ·rintro - -;simp[-Bool.forall_bool, -Bool.exists_bool]
abbrev GQ:Spc:=aY (a1 Rx) (λx=>qcB x=true) (enc (X:=Bool)) λ_ y=>y=true
set_option maxHeartbeats 2000000 in
theorem yW(h1:S lG=Lm):av cV cS S (a1 Rx) (λx=>qcB x=true) (enc (X:=Bool)) λ_ y=>y=true:=by
 rintro⟨op,mn,mx,rs,ks⟩ hx;have hx:qcB ⟨op,mn,mx,rs,ks⟩=true:=hx;unfold qcB at hx;simp only at hx;split at hx
 ·rename_i e;subst e;simp at hx;obtain⟨⟨⟨rfl,rfl⟩,rfl⟩,hs⟩:=hx;simp[cV,cS,h1,hs, -Bool.forall_bool, -Bool.exists_bool];refine ak (X:=Unit) [1,3] [] 0 (λ_ _=>True) (λ_=>[]) (λ_=>[]) () (by simp) (by simp) (by omega) (by simp) (by simp) trivial (by simp) (by simp) (λk x hk=>absurd hk (by omega)) (λ_ _=>?_);simp[h1,hs, -Bool.forall_bool, -Bool.exists_bool]
 split at hx
 ·rename_i e1 e;subst e;simp at hx;obtain⟨⟨⟨⟨rfl,rfl⟩,rfl⟩,hl1,hl3⟩,hk2⟩:=hx;have hlt:(ks.length:Int)<=9223372036854775807:=by omega
  simp[cV,cS,hlt, -Bool.forall_bool, -Bool.exists_bool];refine ak (X:=Unit) [1,3,34] [] ks.length (λ_ _=>True) (λ_=>[]) (λ_=>[]) () (by simp) (by simp) (by omega) (by simp) (by simp) trivial (by simp) (by simp) ?_ ?_
  ·rintro k -hk -;obtain⟨y,hy⟩:=B1 hk;obtain⟨_,hgy⟩:=qmb.1 hy;have hop:=hk2 y (qme hy);simp[hk,hy,hgy,hop, -Bool.forall_bool, -Bool.exists_bool]
  ·rintro - -;have hl1':¬ (ks.length:Int)=1:=by omega
   simp[hl1,hl1', -Bool.forall_bool, -Bool.exists_bool]
 split at hx
 ·rename_i e1 e2 e;subst e;simp at hx;obtain⟨⟨⟨⟨rfl,rfl⟩,rfl⟩,hl1,hl3⟩,hk2⟩:=hx;have hlt:(ks.length:Int)<=9223372036854775807:=by omega
  simp[cV,cS,hlt, -Bool.forall_bool, -Bool.exists_bool];refine ak (X:=Unit) [1,3,34] [] ks.length (λ_ _=>True) (λ_=>[]) (λ_=>[]) () (by simp) (by simp) (by omega) (by simp) (by simp) trivial (by simp) (by simp) ?_ ?_
  ·rintro k -hk -;obtain⟨y,hy⟩:=B1 hk;obtain⟨_,hgy⟩:=qmb.1 hy;have hop:=hk2 y (qme hy);simp[hk,hy,hgy,hop, -Bool.forall_bool, -Bool.exists_bool]
  ·rintro - -;have hl1':(1:Int) < ks.length:=by omega
   simp[hl1,hl1', -Bool.forall_bool, -Bool.exists_bool]
 split at hx
 ·rename_i e1 e2 e3 e;subst e;simp at hx;obtain⟨⟨⟨g0,g1,g2⟩,rfl⟩,hl1⟩:=hx;obtain⟨k0,rfl⟩:∃k,ks=[k]:=qnk.1 hl1;simp[cV,cS, -Bool.forall_bool, -Bool.exists_bool];refine ak (X:=Unit) [1,3,34] [] 1 (λ_ _=>True) (λ_=>[]) (λ_=>[]) () (by simp) (by simp) (by omega) (by simp) (by simp) trivial (by simp) (by simp) ?_ ?_
  ·rintro k -hk -;obtain rfl:k=0:=by omega
   simp[-Bool.forall_bool, -Bool.exists_bool]
  ·rintro - -;simp[g0,g1, -Bool.forall_bool, -Bool.exists_bool];exactλh=>⟨λ_=>by omega,by omega⟩
 ·cases hx
abbrev xJ(n:Nat):Spc:=aY (a1 Rx) (λx=>QR n x=true) (enc (X:=Bool)) λ_ y=>y=true
def xt(n:Nat)(h1:S kB=GQ)(h2:S fy=xJ n):av iS iE S (a1 Rx) (λx=>QR (n+1) x=true) (enc (X:=Bool)) λ_ y=>y=true:=by
 rintro x hx;have hx:QR (n+1) x=true:=hx;simp only[QR,qmf,qmg]at hx;obtain⟨hx1,hx2⟩:=hx;simp[iS,iE,h1,hx1, -Bool.forall_bool, -Bool.exists_bool];intro hkl;refine ak (X:=Unit) [9] [] x.kids.length (λ_ _=>True) (λ_=>[]) (λ_=>[]) () (by simp) (by simp) (by omega) (by simp) (by simp) trivial (by simp) (by simp) ?_ ?_
 ·rintro k -hk -;obtain⟨y,hy⟩:=B1 hk;obtain⟨_,hgy⟩:=qmb.1 hy;have hp:=hx2 y (qme hy);simp[h2,hk,hy,hgy,hp, -Bool.forall_bool, -Bool.exists_bool]
 ·rintro - -;simp[-Bool.forall_bool, -Bool.exists_bool]
abbrev NE(n:Nat):Spc:=aY (a1 Rx) (λx=>∃m,Es n x=some m) (enc (X:=Int)) λx y=>Es n x=some y
set_option maxHeartbeats 1000000 in
theorem yX(n:Nat)(h1:S gB=NE n):av fD fb S (a1 Rx) (λx=>∃m,Es (n+1) x=some m) (enc (X:=Int)) λx y=>Es (n+1) x=some y:=by
 rintro x ⟨m,hm⟩;have hm0:=hm;simp only[Es]at hm;split at hm
 ·rename_i e;cases hm;simp[fD,fb,e,hm0, -Bool.forall_bool, -Bool.exists_bool]
 rename_i e1;obtain⟨k,hk,hm⟩:=ql9.1 hm;simp[fD,fb,e1, -Bool.forall_bool, -Bool.exists_bool];intro hkl;refine ak (X:=Int) [1,10] [] x.kids.length (λi z=>qcx (Es n) (x.kids.drop i) z=some k) (λz=>[(3,enc z)]) (λ_=>[]) 0 (by simp) (by simp) (by omega) (by simp) (by simp) hk (by simp) (by simp) ?_ ?_
 ·rintro i z hi hz;obtain⟨y,hy⟩:=B1 hi;obtain⟨_,hgy⟩:=qmb.1 hy;rw[Fd hy,qcx]at hz;obtain⟨v,hv,hz⟩:=ql9.1 hz;split at hz
  ·cases hz
  rename_i hr;have hin:InR .i64 (z+v):=by simp only[InR];omega
  have hp:∃m,Es n y=some m:=⟨v,hv⟩
  simp[h1,hi,hy,hgy,hv, -Bool.forall_bool, -Bool.exists_bool];exact⟨hin,hz⟩
 ·rintro z hz;rw[qne,qcx]at hz;cases hz;split at hm
  ·rename_i e4;cases hm;simp[e4,hm0, -Bool.forall_bool, -Bool.exists_bool]
  ·rename_i e4;have e4:x.op=4:=by omega
   unfold qcz at hm;split at hm
   ·rename_i emx;split at hm
    ·rename_i hb;cases hm;have hin:InR .i64 (k*max x.mn 1):=by simp only[InR];omega
     simp[e4,emx,hin,hm0, -Bool.forall_bool, -Bool.exists_bool]
    ·cases hm
   ·rename_i emx;split at hm
    ·rename_i hb;cases hm;have hin:InR .i64 (k*x.mx):=by simp only[InR];omega
     simp[e4,emx,hin,hm0, -Bool.forall_bool, -Bool.exists_bool]
    ·cases hm
abbrev Lp:Spc:=aY (a1 Rx) (λx=>xD 50 x=true) (enc (X:=Int)) λx y=>y=0
def A9(h1:S lY=qbh (qp 50))(h2:S fy=xJ 50)(h3:S gB=NE 50):av kV jU S (a1 Rx) (λx=>xD 50 x=true) (enc (X:=Int)) λx y=>y=0:=by
 rintro x hx;have hx:xD 50 x=true:=hx;simp only[xD,qmf]at hx;obtain⟨⟨g1,g2⟩,g3⟩:=hx;obtain⟨⟨t,k⟩,hs,rfl⟩:∃r,qp 50 x 1 0=some r/\r.1=true:=by
  cases h:qp 50 x 1 0 with
  | none=>rw[h]at g1;cases g1
  | some r=>rw[h]at g1;exact⟨r,rfl,g1⟩
 obtain⟨m,hm,hm64⟩:∃m,Es 50 x=some m/\m<=64:=by
  cases h:Es 50 x with
  | none=>rw[h]at g3;cases g3
  | some r=>rw[h]at g3;exact⟨r,rfl,of_decide_eq_true g3⟩
 have n64:¬64 < m:=by omega
 simp[kV,jU,h1,h2,h3,hs,g2,hm,n64, -Bool.forall_bool, -Bool.exists_bool];exact hm64
end Go.Gv
namespace Go.Gv
open Go.Proofs
def pq:CC:=gq Tryz.f83 [2002002] {} _
def ot:List aj:=[.cell 2 true 5, .tmp 3, .tmp 4]
def Ev:aq Tryz.prog ma [2002002] pq ot 66:=fo
def pD:CC:=gq Tryz.f74 [] {} _
def oO:List aj:=[.tmp 2]
def EG:aq Tryz.prog qJ [] pD oO 13:=fo
def kU:CC:=gq Tryz.f145 [] {} _
def jT:List aj:=[.tmp 4]
def zU:aq Tryz.prog lH [] kU jT 24:=fo
open Cod (enc dec)
variable {S S0:Nat->Spc}
def qkL{Y Z W V:Type}[Cod Y][Cod Z][Cod W][Cod V](x:Y×Z×W×V):D:= .tup [enc x.1,enc x.2.1,enc x.2.2.1,enc x.2.2.2]
@[simp] theorem qkK{Y Z W V:Type}[Cod Y][Cod Z][Cod W][Cod V](y:Y)(z:Z)(w:W)(v:V):qkL (y,z,w,v)= .tup [enc y,enc z,enc w,enc v]:=id rfl
def VP(s:B)(i:Int):I32×Int×Int×Bool:=match s.data[i.toNat]? with
 | some c=>(⟨c.toNat⟩,i,1,true)
 | none=>(⟨0⟩,0,0,false)
abbrev s_cpAt:Spc:=aY (a2 B Int) (λx=>x.1.size<=1000/\tE x.1=true/\0<=x.2/\x.2<=x.1.size) (qkL (Y:=I32) (Z:=Int) (W:=Int) (V:=Bool)) λx y=>y=VP x.1 x.2
def Vc{s:B}(h:tE s=true){k:Nat}{c:UInt8}(hc:s.data[k]? =some c):c.toNat < 128:=by
 have:=qmg.1 h c (by rw[<-qmH]at hc;exact qme hc);exact of_decide_eq_true this
abbrev Bn:Spc:=aY (a1 B) (λs=>∃r,kj s=some r) (qbA (Y:=Rx) (Z:=Int) (W:=Int)) λs y=>kj s=some y.1/\y.2=(0,0)
set_option maxHeartbeats 2000000 in
theorem FR(h1:S vu=s_cpAt)(h2:S gX=Sr)(h3:S iz=Lp):av pq ot S (a1 B) (λs=>∃r,kj s=some r) (qbA (Y:=Rx) (Z:=Int) (W:=Int)) λs y=>kj s=some y.1/\y.2=(0,0):=by
 rintro s ⟨r,hr⟩;have hr0:=hr;unfold kj at hr;split at hr
 rotate_left
 ·cases hr
 rename_i hs;obtain⟨hsz,hasc⟩:=hs;obtain⟨⟨p,x,ok⟩,hu,hr⟩:=ql9.1 hr;split at hr
 rotate_left
 ·cases hr
 rename_i hv;obtain⟨rfl,hpos,hval⟩:=hv;cases hr;have n200:¬ (200:Int) < s.size:=by omega
 have hs10:s.size<=1000:=by omega
 simp[pq,ot,n200, -Bool.forall_bool, -Bool.exists_bool];intro b2 hsz2;refine aP (X:=Nat) [0,2] [2] (λi=>i<=s.size) (λi=>[(5,enc (i:Int))]) (λ_=>[]) (λi=>s.size -i) 0 (qmG _) (by simp) (by simp) ?_;rintro i hi;by_cases hlt:i < s.size
 ·obtain⟨c,hc⟩:∃c,s.data[i]? =some c:=⟨s.data[i]'hlt,qoa hlt⟩
  have h128:=Vc hasc hc;have hat:VP s (i:Int)=((⟨(c.toNat:Int)⟩:I32),(i:Int),(1:Int),true):=by simp[VP,hc]
  have hff:¬ ((c.toNat:Int)=65533):=by omega
  simp[h1,hs10,hasc,hat,hff,hi, -Bool.forall_bool, -Bool.exists_bool];exact⟨by simp only[InR];omega,i+1,by omega,by omega,by omega⟩
 ·obtain rfl:i=s.size:=by omega
  have hat:VP s (s.size:Int)=(⟨0⟩,0,0,false):=by
   have:s.data[s.size]? =none:=qnS (qmm _);simp[VP,this]
  simp only at hpos hval;have npos:¬p.pos < s.size:=by omega
  simp[h1,h2,h3,hs10,hasc,hat,hu,hpos,hval,npos, -Bool.forall_bool, -Bool.exists_bool];exactλb _=>⟨x, .same _,hr0⟩
abbrev WF:Spc:=aY (a1 B) (λs=>∃r,kj s=some r) (enc (X:=Int)) λ_ y=>y=0
def F1(h1:S ma=Bn):av pD oO S (a1 B) (λs=>∃r,kj s=some r) (enc (X:=Int)) λ_ y=>y=0:=by
 rintro s ⟨r,hr⟩;simp[pD,oO,h1,hr, -Bool.forall_bool, -Bool.exists_bool]
abbrev WE:Spc:=aY (a2 (List Rng) I32) (λ_=>True) (enc (X:=Bool)) λx y=>y=JT x.1 x.2.val
theorem A8:av kU jT S (a2 (List Rng) I32) (λ_=>True) (enc (X:=Bool)) λx y=>y=JT x.1 x.2.val:=by
 rintro⟨l,⟨c⟩⟩ -;simp[kU,jT, -Bool.forall_bool, -Bool.exists_bool];intro hkl;refine ak (X:=Unit) [1,7] [] l.length (λk _=>JT (l.take k) c=false) (λ_=>[]) (λ_=>[]) () (by simp) (by simp) (by omega) (by simp) (by simp) rfl (by simp) (by simp) ?_ ?_
 ·rintro k -hk hP;obtain⟨y,hy⟩:=B1 hk;obtain⟨_,hgy⟩:=qmb.1 hy;have hstep:JT (l.take (k+1)) c=(decide (y.fr.val<=c) && decide (c<=y.to.val)):=by
   have:l.take (k+1)=l.take k++ [y]:=by rw[qn9,hy];rfl
   unfold JT at hP ⊢;rw[this,List.any_append,hP];simp
  by_cases h1:y.fr.val<=c/\c<=y.to.val
  ·obtain⟨h1,h2⟩:=h1;have hres:JT l c=true:=by
    refine qmU.2 ⟨y,qme hy,by simp[h1,h2]⟩
   simp[hk,hy,hgy,h1,h2,hres, -Bool.forall_bool, -Bool.exists_bool]
  ·have hres:JT (l.take (k+1)) c=false:=by
    rw[hstep];simp;omega
   by_cases h2:y.fr.val<=c
   ·have h3:¬c<=y.to.val:=λe=>h1 ⟨h2,e⟩
    simp[hk,hy,hgy,h2,h3,hres, -Bool.forall_bool, -Bool.exists_bool]
   ·simp[hk,hy,hgy,h2,hres, -Bool.forall_bool, -Bool.exists_bool]
 ·rintro -hP;rw[qmJ]at hP;simp[hP, -Bool.forall_bool, -Bool.exists_bool]
end Go.Gv
namespace Go.Gv
open Cod (enc dec)
variable {dq:Prop}
structure qlg where
 v:Value
 v':Value
 t:Tbk
def nW(v v':Value)(t:Tbk):List D:=[.own 990 v, .v (.int .u64 t.fi.val), .v (.int .u64 t.la.val), .own 991 v', .v (.bool t.nul)]
def lj(v:Value)(l:List (List Rng)):Res:= .row v dx 1 (l.map enc)
def ll(v:Value)(l:List U64):Res:= .row v dX 1 (l.map enc)
def tbB:yI qlg:=⟨[990,991],λx=>nW x.v x.v' x.t,λx=>[(990,lj x.v x.t.lvs),(991,ll x.v' x.t.fol)],λ_=>rfl⟩
section
variable {Y Z:Type}
def VN(A:eZ Z)(er:Y->D)(F:Tbk->Z->Option (Tbk×Y)):Spc:=qjH tbB A er (λs z=>∃r,F s.t z=some r) (λs z s' y=>F s.t z=some (s'.t,y))
def rh(H:ab)(id b:Nat)(v v':Value)(t:Tbk):ab:=ai (ai (ai H 991 (some (ll v' t.fol))) 990 (some (lj v t.lvs))) id (some (.box b (nW v v' t)))
def K3(er:Y->D)(F:Tbk->Z->Option (Tbk×Y))(id b:Nat)(r r1 r2:Option Res)(o:Option Z)(H:ab)(K:D->ab->Prop):Prop:=
 ∃v v' t,r=some (.box b (nW v v' t))/\r1=some (lj v t.lvs)/\r2=some (ll v' t.fol)/\id≠990/\id≠991/\fq o λz=>fq (F t z) λq=>∀w w',K (er q.2) (rh H id b w w' q.1)
@[congr] theorem qe2{er:Y->D}{F:Tbk->Z->Option (Tbk×Y)}{id b:Nat}{r r' r1 r1' r2 r2':Option Res}{o o':Option Z}{H:ab}{K:D->ab->Prop}(h1:r=r')(h2:r1=r1')(h3:r2=r2')(h4:o=o'):K3 er F id b r r1 r2 o H K=K3 er F id b r' r1' r2' o' H K:=by subst h1;subst h2;subst h3;subst h4;rfl
def yl{X:Type}[Cod X]:∀ {l l':List X},l.map enc=l'.map enc->l=l'
 | [], [],_=>rfl
 | [],_::_,h=>by simp at h
 | _::_, [],h=>by simp at h
 | a::l,b::l',h=>by
   rw[qmD,qmD,qmR]at h;rw[bJ h.1,yl h.2]
def SU{v v':Value}{l l':List (List Rng)}(h:lj v l=lj v' l'):v=v'/\l=l':=by
 unfold lj at h;injection h with h1 h2 h3 h4;exact⟨h1,yl h4⟩
def SV{v v':Value}{l l':List U64}(h:ll v l=ll v' l'):v=v'/\l=l':=by
 unfold ll at h;injection h with h1 h2 h3 h4;exact⟨h1,yl h4⟩
def Sb{b b':Nat}{v v' w w':Value}{t t':Tbk}(h:Res.box b (nW v v' t)=Res.box b' (nW w w' t'))(h1:lj v t.lvs=lj w t'.lvs)(h2:ll v' t.fol=ll w' t'.fol):b=b'/\v=w/\v'=w'/\t=t':=by
 obtain⟨e1,e2⟩:=SU h1;obtain⟨e3,e4⟩:=SV h2;obtain⟨hb,hc⟩:=Res.box.inj h;simp only[nW,qmR,D.own.injEq,D.v.injEq,Value.int.injEq,Value.bool.injEq,true_and,and_true]at hc;obtain⟨_,⟨c1,c2,_,c3⟩⟩:=hc;refine⟨hb,e1,e3,?_⟩;obtain⟨a1,⟨a2⟩,⟨a3⟩,a4,a5⟩:=t;obtain⟨b1,⟨b2⟩,⟨b3⟩,b4,b5⟩:=t';simp only at e2 e4 c1 c2 c3;subst e2;subst e4;subst c1;subst c2;subst c3;rfl
def Sc(x:qlg)(H:ab)(id b:Nat):ai (eB (tbB.hp x) H) id (some (.box b (tbB.ce x)))=rh H id b x.v x.v' x.t:=by
 rfl
theorem Nv(A:eZ Z)(er:Y->D)(F:Tbk->Z->Option (Tbk×Y))(d i b:Nat)(ds:List D)(H:ab)(K:D->ab->Prop):(VN A er F).pt d (.bptr i b 0::ds) H K=K3 er F i b (H i) (H 990) (H 991) (A.dec ds) H K:=by
 refine propext ⟨λh=>?_,λh=>?_⟩
 ·obtain⟨id,b',x,z,ds',h1,h2,h3,h4,h5,h6,h7⟩:=h;cases h1;simp only[tbB,qmw,qmM,or_false,not_or]at h5;refine⟨x.v,x.v',x.t,h3,h4 (990,lj x.v x.t.lvs) (by simp[tbB]),h4 (991,ll x.v' x.t.fol) (by simp[tbB]),h5.1,h5.2,?_⟩;rw[h2];obtain⟨⟨t',y⟩,hr⟩:=h6;show fq (F x.t z) _;rw[hr];intro w w';have:=h7 ⟨w,w',t'⟩ y hr;rwa [Sc]at this
 ·obtain⟨v,v',t,h1,h2,h3,h4,h5,h6⟩:=h;cases hz:A.dec ds with
  | none=>rw[hz]at h6;exact h6.elim
  | some z=>
    rw[hz]at h6;have h6:fq (F t z) λq=>∀w w',K (er q.2) (rh H i b w w' q.1):=h6
    cases hF:F t z with
    | none=>rw[hF]at h6;exact h6.elim
    | some q=>
      rw[hF]at h6;have h6:∀w w',K (er q.2) (rh H i b w w' q.1):=h6;refine⟨i,b,⟨v,v',t⟩,z,ds,rfl,hz,h1,λp hp=>?_,by simp[tbB,h4,h5],⟨q,hF⟩,λx' y hq=>?_⟩
      ·simp only[tbB,qmw,qmM,or_false]at hp;rcases hp with rfl|rfl
       ·exact h2
       ·exact h3
      ·have hq:F t z=some (x'.t,y):=hq;rw[hF]at hq;cases hq;rw[Sc];exact h6 x'.v x'.v'
theorem Xq(A:eZ Z)(er:Y->D)(F:Tbk->Z->Option (Tbk×Y))(b:Nat)(ds:List D):qa0 0 (VN A er F).pt (.bptr 0 b 0::ds):=by
 refine⟨λR=>K3 er F 0 b (R 0) (R 990) (R 991) (A.dec ds) R λ_ _=>True,λR d u=>∃v v' t z q w w',R 0=some (.box b (nW v v' t))/\R 990=some (lj v t.lvs)/\R 991=some (ll v' t.fol)/\A.dec ds=some z/\F t z=some q/\d=er q.2/\u=[(0, .box b (nW w w' q.1)),(990,lj w q.1.lvs),(991,ll w' q.1.fol)],λt H K=>?_⟩;rw[Nv];have r0:oP H (some 0) 0=H 0:=by simp only[oP];exact if_pos rfl
 have r1:oP H (some 0) 990=H 990:=by simp only[oP];exact if_pos rfl
 have r2:oP H (some 0) 991=H 991:=by simp only[oP];exact if_pos rfl
 show _↔K3 er F 0 b (oP H (some 0) 0) (oP H (some 0) 990) (oP H (some 0) 991) (A.dec ds) (oP H (some 0)) (λ_ _=>True)/\∀d u,(∃v v' t z q w w',oP H (some 0) 0=some (.box b (nW v v' t))/\oP H (some 0) 990=some (lj v t.lvs)/\oP H (some 0) 991=some (ll v' t.fol)/\A.dec ds=some z/\F t z=some q/\d=er q.2/\u=[(0, .box b (nW w w' q.1)),(990,lj w q.1.lvs),(991,ll w' q.1.fol)])->K d (gi H (some 0) u);rw[r0,r1,r2];have hp:∀ (w w':Value) (q:Tbk),gi H (some 0) [(0, .box b (nW w w' q)),(990,lj w q.lvs),(991,ll w' q.fol)]=rh H 0 b w w' q:=λw w' q=>by
  funext i;simp only[gi,rh,ai];by_cases h0:i=0
  ·subst h0;rfl
  ·by_cases h1:i=990
   ·subst h1;rfl
   ·by_cases h2:i=991
    ·subst h2;rfl
    ·have e:([(0, .box b (nW w w' q)),(990,lj w q.lvs),(991,ll w' q.fol)]:List (Nat×Res)).lookup i=none:=by
      have e0:(i==0)=false:=by simp[h0]
      have e1:(i==990)=false:=by simp[h1]
      have e2:(i==991)=false:=by simp[h2]
      simp only[List.lookup,e0,e1,e2]
     rw[e,if_neg h0,if_neg h1,if_neg h2];split <;> rfl
 constructor
 ·rintro⟨v,v',t,h1,h2,h3,h4,h5,h6⟩;cases hz:A.dec ds with
  | none=>rw[hz]at h6;exact h6.elim
  | some z=>
    rw[hz]at h6;have h6:fq (F t z) λq=>∀w w',K (er q.2) (rh H 0 b w w' q.1):=h6
    cases hF:F t z with
    | none=>rw[hF]at h6;exact h6.elim
    | some q=>
      rw[hF]at h6;have h6:∀w w',K (er q.2) (rh H 0 b w w' q.1):=h6;refine⟨⟨v,v',t,h1,h2,h3,h4,h5,?_⟩,?_⟩
      ·show fq (F t z) _;rw[hF];exactλ_ _=>trivial
      ·rintro d u ⟨v1,v1',t1,z1,q1,w,w',g1,g2,g3,g4,g5,rfl,rfl⟩;rw[h1]at g1;rw[h2]at g2;rw[h3]at g3;obtain⟨_,_,_,rfl⟩:=Sb (qmk g1) (qmk g2) (qmk g3);cases g4;rw[hF]at g5;cases g5;rw[hp];exact h6 w w'
 ·rintro⟨⟨v,v',t,h1,h2,h3,h4,h5,h6⟩,h7⟩;refine⟨v,v',t,h1,h2,h3,h4,h5,?_⟩;cases hz:A.dec ds with
  | none=>rw[hz]at h6;exact h6.elim
  | some z=>
    rw[hz]at h6;have h6:fq (F t z) λq=>∀w w':Value,True:=h6
    show fq (F t z) _;cases hF:F t z with
    | none=>rw[hF]at h6;exact h6.elim
    | some q=>
      intro w w';have:=h7 (er q.2) _ ⟨v,v',t,z,q,w,w',h1,h2,h3,hz,hF,rfl,rfl⟩;rwa [hp]at this
def Tk(A:eZ Z)(er:Y->D)(F:Tbk->Z->Option (Tbk×Y))(b:Nat)(dst:Option Nat)(ds:List D)(H:ab)(K:D->ab->Prop):GZ 0 dst (VN A er F) (.bptr 0 b 0::ds) H K=K3 er F 0 b (H 0) (H 990) (H 991) (A.dec ds) H K:=by
 rw[<-Nv A er F (dst.getD 0)];exact propext ⟨λh=>h.2,λh=>⟨Xq A er F b ds,h⟩⟩
def Zp(er:Y->D)(F:Tbk->Z->Option (Tbk×Y))(id b:Nat)(v v':Value)(f l:Int)(n:Bool)(lv:List (List Rng))(fo:List U64)(o:Option Z)(H:ab)(K:D->ab->Prop):
 K3 er F id b (some (.box b [.own 990 v, .v (.int .u64 f), .v (.int .u64 l), .own 991 v', .v (.bool n)])) (some (.row v dx 1 (lv.map enc))) (some (.row v' dX 1 (fo.map enc))) o H K=(id≠990/\id≠991/\fq o λz=>fq (F ⟨lv,⟨f⟩,⟨l⟩,fo,n⟩ z) λq=>∀w w',K (er q.2) (rh H id b w w' q.1)):=by
 refine propext ⟨λ⟨w,w',t,h1,h2,h3,h4,h5,h6⟩=>⟨h4,h5,?_⟩,λh=>⟨v,v',⟨lv,⟨f⟩,⟨l⟩,fo,n⟩,rfl,rfl,rfl,h.1,h.2.1,h.2.2⟩⟩;obtain⟨_,_,_,e⟩:=Sb (t:=⟨lv,⟨f⟩,⟨l⟩,fo,n⟩) (t':=t) (b:=b) (b':=b) (qmk h1) (qmk h2) (qmk h3);subst e;exact h6
def M3(er:Y->D)(b:Nat)(post:Tbk->Y->Prop)(r:D)(H:ab):Prop:=Co tbB er b (λs y=>post s.t y) r H
def Y2{er:Y->D}{b:Nat}{post:Tbk->Y->Prop}{r:D}{H:ab}(v v':Value)(t:Tbk)(y:Y)(hr:FrzTo (λi=>if i=0\/i=990\/i=991 then none else H i) r (er y))(h0:H 0=some (.box b (nW v v' t)))(h1:H 990=some (lj v t.lvs))(h2:H 991=some (ll v' t.fol))(hq:post t y):M3 er b post r H:=
 ⟨⟨v,v',t⟩,y,by simpa [tbB]using hr,h0,λp hp=>by
  simp only[tbB,qmw,qmM,or_false]at hp;rcases hp with rfl|rfl
  ·exact h1
  ·exact h2,hq⟩
def B3(cc:CC)(rs:List aj)(S:Nat->Spc)(A:eZ Z)(er:Y->D)(F:Tbk->Z->Option (Tbk×Y)):Prop:=
 ∀b v v' t z r,F t z=some r->vc S cc (nQ rs λd H'=>M3 er b (λt' y=>r=(t',y)) d H') (cE (.bptr 0 b 0::A.view z)) (rh cw 0 b v v' t)
variable {P:Program}{S:Nat->Spc}{f:Nat}{im:List Nat}{cc:CC}{rs:List aj}{N:Nat}
def om{A:eZ Z}{er:Y->D}{F:Tbk->Z->Option (Tbk×Y)}(hS:∀f,Tri dq P f (S f).pt)(h:aq P f im cc rs N)(hN:∀z,(A.view z).length+1<=N)(hw:B3 cc rs S A er F):Tri dq P f (VN A er F).pt:=
 DU (by simp[tbB]) hS h hN λb x z hp=>by
  obtain⟨r,hr⟩:=hp;rw[Sc];have:=hw b x.v x.v' x.t z r hr;have e:(λ(d:D) (H':ab)=>Co tbB er b (λs' y=>F x.t z=some (s'.t,y)) d H')=λd H'=>M3 er b (λt' y=>r=(t',y)) d H':=by
   funext d H';unfold M3;congr 1;funext s' y;rw[hr];exact propext ⟨λh=>qmk h,λh=>congrArg some h⟩
  rw[e];exact this
end
@[simp] theorem qg2(m:U64)(i:Nat):decide (MY .u64 (QD .u64 m.val i) 1=1)=RE m i:=id rfl
end Go.Gv
namespace Go.Gv
open Go.Proofs
def tw:CC:=gq Tryz.f143 [1,2024006,2022006,2020006] { cu:=[1,4],kz:=[990,991] } _
def sv:List aj:=[.tmp 2]
def Jf:aq Tryz.prog vt [1,2024006,2022006,2020006] tw sv 26:=fo
def ij:CC:=gq Tryz.f196 [] { bx:=[0],kz:=[990,991] } _
def gN:List aj:=[]
def uQ:aq Tryz.prog eJ [] ij gN 31:=fo
def fI:CC:=gq Tryz.f184 [4,5] { ke:=[0],kz:=[990,991] } _
def fj:List aj:=[.cell 6 true 3]
def sE:aq Tryz.prog cP [4,5] fI fj 42:=fo
def bZ:CC:=gq Tryz.f167 [3,3060000,1031990,2033000,2006006] { bx:=[0],kz:=[990,991] } _
def bW:List aj:=[.cell 4 true 3]
def tV:aq Tryz.prog cA [3,3060000,1031990,2033000,2006006] bZ bW 98:=fo
def fH:CC:=gq Tryz.f185 [3,3095000,2005005] { bx:=[0],kz:=[990,991] } _
def fh:List aj:=[.cell 4 true 3]
def sD:aq Tryz.prog fZ [3,3095000,2005005] fH fh 98:=fo
def cg:CC:=gq Tryz.f197 [4,3035000,3036000,2009009] { bx:=[0],kz:=[990,991] } _
def ca:List aj:=[.cell 6 true 3]
def qB:aq Tryz.prog dt [4,3035000,3036000,2009009] cg ca 39:=fo
def eu:CC:=gq Tryz.f144 [] { ke:=[0],kz:=[990,991] } _
def eh:List aj:=[.tmp 6]
def uR:aq Tryz.prog iQ [] eu eh 35:=fo
open Cod (enc dec)
variable {S S0:Nat->Spc}
@[simp] theorem qgp(t:Tbk):Tbk.mk t.lvs t.fi t.la t.fol t.nul=t:=id rfl
abbrev Iv:Spc:=VN (a2 U64 U64) PD Ai
def Po(fr to:U64):∀ (l:List U64) (i:Nat),(Pp fr to i l).length=l.length
 | [],_=>rfl
 | f::l,i=>by rw[Pp,qm1,qm1,Po fr to l (i+1)]
def LW{fr to f:U64} :∀ {l:List U64} {i k:Nat},l[k]? =some f->Pp fr to i (l.take k) ++ (if RE fr (i+k)=true then WS f to else f)::l.drop (k+1)=Pp fr to i (l.take (k+1)) ++l.drop (k+1)
 | [],i,k,h=>by simp at h
 | g::l,i,0,h=>by
   simp at h;subst h;simp[Pp]
 | g::l,i,k+1,h=>by
   simp at h;have:=LW (fr:=fr) (to:=to) (i:=i+1) h;rw[show i+1+k=i+ (k+1) by omega]at this;simp only[qoo,Pp,qm5,qok];rw[this]
theorem Zi:B3 ij gN S (a2 U64 U64) PD Ai:=by
 rintro b v v' ⟨lv,fi,la,fo,nu⟩ ⟨fr,to⟩ r hF;unfold Ai at hF;simp only at hF;split at hF
 ·rename_i hlen;cases hF;have hl:(fo.length:Int)<=9223372036854775807:=by omega
  simp[ij,gN,rh,lj,ll,nW,hl, -Bool.forall_bool, -Bool.exists_bool];refine ak (X:=List U64) [0,1,2] [] fo.length (λk x=>x=Pp fr to 0 (fo.take k) ++fo.drop k) (λx=>[]) (λx=>[(0, .box b [.own 990 v, .v (.int .u64 fi.val), .v (.int .u64 la.val), .own 991 v', .v (.bool nu)]),(990, .row v dx 1 (lv.map enc)),(991, .row v' dX 1 (x.map enc))]) fo (by simp) (by simp) (by omega) (by simp) (by simp) (by simp[Pp]) (by simp) (by simp) ?_ ?_
  ·rintro k x hk hx;obtain⟨f,hf⟩:∃f,fo[k]? =some f:=⟨_,qmd hk⟩
   have hll:(Pp fr to 0 (fo.take k)).length=k:=by rw[Po,qmE];omega
   have hxl:x.length=fo.length:=by rw[hx,qmF,hll,qna];omega
   have hxk:x[k]? =some f:=by
    rw[hx,qmn (by omega),hll,qnw,qmO];simpa using hf
   have hdr:x.drop (k+1)=fo.drop (k+1):=by
    rw[hx,List.drop_append,hll,List.drop_drop,qnE (by rw[hll];omega)];simp
   have htk:x.take k=Pp fr to 0 (fo.take k):=by
    rw[hx,List.take_append,hll,qnw,qn2,qnh,qnD (by rw[hll];omega)]
   have hset:∀g,x.set k g=Pp fr to 0 (fo.take k) ++g::fo.drop (k+1):=λg=>by
    rw[qnQ,if_pos (by omega),htk,hdr]
   have hst:=LW (fr:=fr) (to:=to) (i:=0) hf;rw[qmX,<-hset]at hst;have hkx:k < x.length:=by omega
   obtain⟨_,hgx⟩:=qmb.1 hxk;simp[hkx,hxk,hgx,hk,hxl, -Bool.forall_bool, -Bool.exists_bool];refine⟨λhb=>?_,λhb=>?_⟩
   ·rw[if_pos hb]at hst;left;rw[<-List.map_drop,<-qnp,<-hst,List.map_set];rfl
   ·rw[if_neg (by simp[hb])]at hst;rw[show x.set k f=x from by rw[<-hgx];exact List.set_getElem_self _]at hst;exact .inl hst
  ·rintro x hx;rw[qmJ,qne,qnh]at hx;subst hx;simp[-Bool.forall_bool, -Bool.exists_bool];exact Y2 (er:=PD) (y:=()) v v' ⟨lv,fi,la,Pp fr to 0 fo,nu⟩ (.same _) rfl rfl rfl rfl
 ·cases hF
attribute [simp] Nv Tk
@[simp] theorem qe1{Y Z:Type}(er:Y->D)(F:Tbk->Z->Option (Tbk×Y))(id b:Nat)(v v':Value)(f l:Int)(n:Bool)(lv:List (List Rng))(fo:List U64)(o:Option Z)(H:ab)(K:D->ab->Prop):
 K3 er F id b (some (.box b [.own 990 v, .v (.int .u64 f), .v (.int .u64 l), .own 991 v', .v (.bool n)])) (some (.row v dx 1 (lv.map enc))) (some (.row v' dX 1 (fo.map enc))) o H K=(id≠990/\id≠991/\fq o λz=>fq (F ⟨lv,⟨f⟩,⟨l⟩,fo,n⟩ z) λq=>∀w w',K (er q.2) (ai (ai (ai H 991 (some (.row w' dX 1 (q.1.fol.map enc)))) 990 (some (.row w dx 1 (q.1.lvs.map enc)))) id (some (.box b [.own 990 w, .v (.int .u64 q.1.fi.val), .v (.int .u64 q.1.la.val), .own 991 w', .v (.bool q.1.nul)])))):=Zp er F id b v v' f l n lv fo o H K
abbrev Dq:Spc:=VN (a2 Prt Prt) (enc (X:=Prt)) tL
def rB{b:Nat}{post:Tbk->Prt->Prop}{d:D}{H:ab}(v v':Value)(t:Tbk)(y:Prt)(hd:d=enc y)(h0:H 0=some (.box b (nW v v' t)))(h1:H 990=some (lj v t.lvs))(h2:H 991=some (ll v' t.fol))(hq:post t y):M3 enc b post d H:=
 Y2 (er:=enc) (y:=y) v v' t (by rw[hd];exact .same _) h0 h1 h2 hq
def RV(h1:S eJ=Iv):B3 fI fj S (a2 Prt Prt) (enc (X:=Prt)) tL:=by
 rintro b v v' ⟨lv,fi,la,fo,nu⟩ ⟨⟨af,al,an⟩,⟨bf,bl,bn⟩⟩ r hF;unfold tL at hF;simp only at hF;obtain⟨q,hl,rfl⟩:=qmi.1 hF;cases an <;> cases bn <;> simp[fI,fj,rh,lj,ll,nW,h1,hl, -Bool.forall_bool, -Bool.exists_bool] <;> intro b1 w w' <;> exact rB w w' q.1 _ rfl rfl rfl rfl ⟨rfl,rfl⟩
def TC{set f:U64}{l:List U64}{k:Nat}(h:l[k]? =some f)(m:U64):YT set k (l.drop k) m=YT set (k+1) (l.drop (k+1)) (if RE set k=true then WS m f else m):=by
 obtain⟨h1,h2⟩:=qmb.1 h;rw[qmW h1,h2,YT]
abbrev Eb(n:Nat):Spc:=VN (a1 Rx) (enc (X:=Prt)) (yJ n).b
abbrev Sy(n:Nat):Spc:=VN (a1 Rx) (enc (X:=Prt)) (yJ n).r
abbrev ND(n:Nat):Spc:=VN (a2 Rx Int) (enc (X:=Prt)) (yJ n).o
def J5{X:Type}{l:List X}{k:Nat}(h:k < l.length):∃x,l[k]? =some x:=⟨_,qmd h⟩
def pk{X:Type}{l:List X}{k:Nat}{x:X}(h:l[k]? =some x):l.drop k=x::l.drop (k+1):=by
 obtain⟨h1,h2⟩:=qmb.1 h;rw[qmW h1,h2]
set_option maxHeartbeats 1000000 in
theorem VY(n:Nat)(h1:S cA=Eb n)(h2:S fZ=Sy n)(h3:S cP=Dq):B3 bZ bW S (a1 Rx) (enc (X:=Prt)) (yJ (n+1)).b:=by
 rintro b v v' t ⟨op,mn,mx,rs,ks⟩ r hF;replace hF:qaJ (yJ n).b (yJ n).r t ⟨op,mn,mx,rs,ks⟩=some r:=hF;unfold qaJ at hF;simp only at hF;split at hF
 ·cases hF
 rename_i hok;have hok1:t.lvs.length<=1000/\t.fol.length<=1000:=by
  cases hb:Jg t with
  | true=>exact of_decide_eq_true hb
  | false=>exact absurd (.inl hb) hok
 have hkl:ks.length<=1000:=by
  have:¬1000 < ks.length:=λh=>hok (.inr h)
  omega
 obtain⟨hlv,hfo⟩:=hok1;have hkl':(ks.length:Int)<=9223372036854775807:=by omega
 have hlv':(t.lvs.length:Int)<=9223372036854775807:=by omega
 split at hF
 ·rename_i e;subst e;obtain rfl:=qmk hF;simp[bZ,bW,rh,lj,ll,nW,hlv', -Bool.forall_bool, -Bool.exists_bool];refineλb1=>⟨by omega,by omega,λw=>⟨by omega,by omega,λw'=>?_⟩⟩
  exact rB w w' ⟨t.lvs++ [rs],t.fi,t.la,t.fol++ [⟨0⟩],t.nul⟩ ⟨⟨It .u64 1 t.lvs.length⟩,⟨It .u64 1 t.lvs.length⟩,false⟩ rfl rfl (by simp[lj,ai]) (by simp[ll,ai]) ⟨rfl,rfl⟩
 rename_i e1;split at hF
 ·rename_i e;subst e;simp[bZ,bW,rh,lj,ll,nW,hkl', -Bool.forall_bool, -Bool.exists_bool];intro b4 b6;refine ak (X:=Tbk×Prt×Value×Value) [0,4,6,50] [4] ks.length (λk x=>qd5 (yJ n).b (ks.drop k) x.1 x.2.1=some r) (λx=>[]) (λx=>[(0, .box b [.own 990 x.2.2.1, .v (.int .u64 x.1.fi.val), .v (.int .u64 x.1.la.val), .own 991 x.2.2.2, .v (.bool x.1.nul)]),(990, .row x.2.2.1 dx 1 (x.1.lvs.map enc)),(991, .row x.2.2.2 dX 1 (x.1.fol.map enc)),(6, .box b6 [.v (.int .u64 x.2.1.first.val), .v (.int .u64 x.2.1.last.val), .v (.bool x.2.1.nul)])]) (t,yh,v,v') (by simp) (by simp) (by omega) (by simp) (by simp) (by simpa using hF) (by simp) (by simp[yh]) ?_ ?_
  ·rintro k ⟨t,p,w,w'⟩ hk hx;obtain⟨y,hy⟩:=J5 hk;obtain⟨_,hgy⟩:=qmb.1 hy;rw[pk hy,qd5]at hx;obtain⟨q,hq,hx⟩:=ql9.1 hx;obtain⟨c,hc,hx⟩:=ql9.1 hx;simp[hk,hy,hgy,h1,h3,hq,hc, -Bool.forall_bool, -Bool.exists_bool];exactλu u'=>⟨c.1,c.2,hx,u,u', .inl ⟨rfl,rfl,rfl,rfl,rfl⟩, .inl ⟨rfl,rfl⟩, .inl ⟨rfl,rfl⟩, .inl ⟨rfl,rfl,rfl⟩⟩
  ·rintro⟨t,p,w,w'⟩ hx;rw[qne,qd5]at hx;obtain rfl:=qmk hx;simp[-Bool.forall_bool, -Bool.exists_bool];exact rB w w' t p rfl rfl rfl rfl ⟨rfl,rfl⟩
 rename_i e2;split at hF
 ·rename_i e;subst e;simp[bZ,bW,rh,lj,ll,nW,hkl', -Bool.forall_bool, -Bool.exists_bool];intro b4 b9;refine ak (X:=Tbk×Prt×Value×Value) [0,4,9,67] [4] ks.length (λk x=>RI (yJ n).b (ks.drop k) x.1 x.2.1=some r) (λx=>[]) (λx=>[(0, .box b [.own 990 x.2.2.1, .v (.int .u64 x.1.fi.val), .v (.int .u64 x.1.la.val), .own 991 x.2.2.2, .v (.bool x.1.nul)]),(990, .row x.2.2.1 dx 1 (x.1.lvs.map enc)),(991, .row x.2.2.2 dX 1 (x.1.fol.map enc)),(9, .box b9 [.v (.int .u64 x.2.1.first.val), .v (.int .u64 x.2.1.last.val), .v (.bool x.2.1.nul)])]) (t,qh8,v,v') (by simp) (by simp) (by omega) (by simp) (by simp) (by simpa using hF) (by simp) (by simp[qh8]) ?_ ?_
  ·rintro k ⟨t,p,w,w'⟩ hk hx;obtain⟨y,hy⟩:=J5 hk;obtain⟨_,hgy⟩:=qmb.1 hy;rw[pk hy,RI]at hx;obtain⟨q,hq,hx⟩:=ql9.1 hx;simp[hk,hy,hgy,h1,hq, -Bool.forall_bool, -Bool.exists_bool];refineλu u'=>⟨λhn=>⟨q.1,_,hx,u,u', .inl ⟨rfl,rfl,rfl,rfl,rfl⟩, .inl ⟨rfl,rfl⟩, .inl ⟨rfl,rfl⟩, .inl ⟨rfl,rfl,by simp[hn]⟩⟩,λhn=>⟨q.1,_,hx,u,u', .inl ⟨rfl,rfl,rfl,rfl,rfl⟩, .inl ⟨rfl,rfl⟩, .inl ⟨rfl,rfl⟩, .inl ⟨rfl,rfl,by simp[hn]⟩⟩⟩
  ·rintro⟨t,p,w,w'⟩ hx;rw[qne,RI]at hx;obtain rfl:=qmk hx;simp[-Bool.forall_bool, -Bool.exists_bool];exact rB w w' t p rfl rfl rfl rfl ⟨rfl,rfl⟩
 rename_i e3;simp[bZ,bW,rh,lj,ll,nW,h2,e1,e2,e3,hF, -Bool.forall_bool, -Bool.exists_bool];intro b1 w w';exact rB w w' r.1 r.2 rfl rfl rfl rfl rfl
end Go.Gv
