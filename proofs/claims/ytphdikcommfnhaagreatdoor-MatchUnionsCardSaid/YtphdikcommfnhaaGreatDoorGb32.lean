/- A part of the framework and of the walks: W135 C54 W136 C58 W156 W157 W160 T25. -/
import Derived.Test.YtphdikcommfnhaaGreatDoorGb26
import Derived.Test.YtphdikcommfnhaaGreatDoorGb31
import Derived.Test.YtphdikcommfnhaaGreatDoorGb20
import Derived.Test.YtphdikcommfnhaaGreatDoorGb28
import Derived.Test.YtphdikcommfnhaaGreatDoorGb30
import Derived.Test.YtphdikcommfnhaaGreatDoorGb18
set_option linter.unusedSimpArgs false
set_option linter.unusedVariables false
set_option maxRecDepth 100000
set_option maxHeartbeats 0

namespace Go.Gv
open Cod (enc dec)
variable {S S0:Nat->Spc}
theorem Fa{X:Type}{l:List X}{k:Nat}(h:k < l.length):∃x,l[k]? =some x:=⟨_,qsU h⟩
theorem I4{X:Type}{l:List X}{k:Nat}{x:X}(h:l[k]? =some x):l.drop k=x::l.drop (k+1):=by
 obtain⟨h1,h2⟩:=qsT.1 h
 rw[qtr h1,h2]
theorem JF(n:Nat)(h1:S gZ=qdy (qe n)):qau ju jc S (qe (n+1)):=by
 rintro b x d k ⟨ok,m⟩ hF
 have hF0:=hF
 simp only[qe]at hF
 split at hF
 ·cases hF
 rename_i hrng
 have hin:InR .i64 (k+1):=by simp only[InR];omega
 split at hF
 ·rename_i hbig
  cases hF
  by_cases h40:40 < d
  ·simp[ju,jc,hin,h40, -Bool.forall_bool, -Bool.exists_bool]
   exact⟨rfl,by simp⟩
  ·have h200:200 < k+1:=by omega
   simp[ju,jc,hin,h40,h200, -Bool.forall_bool, -Bool.exists_bool]
   exact⟨rfl,by simp⟩
 ·rename_i hbig
  have h40:¬40 < d:=by omega
  have h200:¬200 < k+1:=by omega
  simp[ju,jc,hin,h40,h200, -Bool.forall_bool, -Bool.exists_bool]
  intro hkl
  refine ak (X:=Int) [1,2,23] [] x.kids.length (fun i z=>qh9 (qe n) d (x.kids.drop i) z=some (ok,m)) (fun z=>[]) (fun z=>[(2, .box b [.v (.int .i64 z)])]) (k+1) (by simp) (by simp) (by omega) (by simp) (by simp) hF (by simp) (by simp) ?_ ?_
  ·rintro i z hi hz
   obtain⟨y,hy⟩:=Fa hi
   obtain⟨_,hgy⟩:=qsT.1 hy
   rw[I4 hy,qh9]at hz
   obtain⟨⟨t,m'⟩,hs,hz⟩:=qsR.1 hz
   simp only at hz
   have hin2:InR .i64 (d+1):=by simp only[InR];omega
   cases t with
   | true=>
     simp only[if_true]at hz
     simp[h1,hi,hy,hgy,hs,hin2, -Bool.forall_bool, -Bool.exists_bool]
     exact⟨m',hz, .inl rfl⟩
   | false=>
     simp only[qtz,if_false]at hz
     cases hz
     simp[h1,hi,hy,hgy,hs,hin2, -Bool.forall_bool, -Bool.exists_bool]
     exact⟨rfl,by simp⟩
  ·rintro z hz
   rw[qtR,qh9]at hz
   cases hz
   simp[-Bool.forall_bool, -Bool.exists_bool]
   exact⟨rfl,by simp⟩
abbrev Hu:Spc:=bp (a1 (List Rng)) (fun l=>TA l=true) (enc (X:=Bool)) fun _ y=>y=true
theorem DN:ar nt mz S (a1 (List Rng)) (fun l=>TA l=true) (enc (X:=Bool)) fun _ y=>y=true:=by
 rintro l hl
 obtain⟨r,rfl⟩:∃r,l=[r]:=by
  match l,hl with
  | [r],_=>exact⟨r,rfl⟩
 simp[TA]at hl
 simp[nt,mz, -Bool.forall_bool, -Bool.exists_bool]
 refine ak (X:=Unit) [0,5] [] 1 (fun _ _=>True) (fun _=>[]) (fun _=>[]) () (by simp) (by simp) (by omega) (by simp) (by simp) trivial (by simp) (by simp) ?_ ?_
 ·rintro k -hk -
  obtain rfl:k=0:=by omega
  have n1:¬r.fr.val < 0:=by omega
  have n2:¬r.to.val < r.fr.val:=by omega
  have n3:¬1114111 < r.to.val:=by omega
  simp[n1,n2,n3, -Bool.forall_bool, -Bool.exists_bool]
 ·rintro - -
  simp[-Bool.forall_bool, -Bool.exists_bool]
abbrev D7:Spc:=bp (a1 Rx) (fun x=>qiv x=true) (enc (X:=Bool)) fun _ y=>y=true
set_option maxHeartbeats 2000000 in
theorem BU(h1:S jK=Hu):ar dz dq S (a1 Rx) (fun x=>qiv x=true) (enc (X:=Bool)) fun _ y=>y=true:=by
 rintro⟨op,mn,mx,rs,ks⟩ hx
 have hx:qiv ⟨op,mn,mx,rs,ks⟩=true:=hx
 unfold qiv at hx
 simp only at hx
 split at hx
 ·rename_i e
  subst e
  simp at hx
  obtain⟨⟨⟨rfl,rfl⟩,rfl⟩,hs⟩:=hx
  simp[dz,dq,h1,hs, -Bool.forall_bool, -Bool.exists_bool]
  refine ak (X:=Unit) [1,3] [] 0 (fun _ _=>True) (fun _=>[]) (fun _=>[]) () (by simp) (by simp) (by omega) (by simp) (by simp) trivial (by simp) (by simp) (fun k x hk=>absurd hk (by omega)) (fun _ _=>?_)
  simp[h1,hs, -Bool.forall_bool, -Bool.exists_bool]
 split at hx
 ·rename_i e1 e
  subst e
  simp at hx
  obtain⟨⟨⟨⟨rfl,rfl⟩,rfl⟩,hl1,hl3⟩,hk2⟩:=hx
  have hlt:(ks.length:Int)<=9223372036854775807:=by omega
  simp[dz,dq,hlt, -Bool.forall_bool, -Bool.exists_bool]
  refine ak (X:=Unit) [1,3,34] [] ks.length (fun _ _=>True) (fun _=>[]) (fun _=>[]) () (by simp) (by simp) (by omega) (by simp) (by simp) trivial (by simp) (by simp) ?_ ?_
  ·rintro k -hk -
   obtain⟨y,hy⟩:=Fa hk
   obtain⟨_,hgy⟩:=qsT.1 hy
   have hop:=hk2 y (qsW hy)
   simp[hk,hy,hgy,hop, -Bool.forall_bool, -Bool.exists_bool]
  ·rintro - -
   have hl1':¬ (ks.length:Int)=1:=by omega
   simp[hl1,hl1', -Bool.forall_bool, -Bool.exists_bool]
 split at hx
 ·rename_i e1 e2 e
  subst e
  simp at hx
  obtain⟨⟨⟨⟨rfl,rfl⟩,rfl⟩,hl1,hl3⟩,hk2⟩:=hx
  have hlt:(ks.length:Int)<=9223372036854775807:=by omega
  simp[dz,dq,hlt, -Bool.forall_bool, -Bool.exists_bool]
  refine ak (X:=Unit) [1,3,34] [] ks.length (fun _ _=>True) (fun _=>[]) (fun _=>[]) () (by simp) (by simp) (by omega) (by simp) (by simp) trivial (by simp) (by simp) ?_ ?_
  ·rintro k -hk -
   obtain⟨y,hy⟩:=Fa hk
   obtain⟨_,hgy⟩:=qsT.1 hy
   have hop:=hk2 y (qsW hy)
   simp[hk,hy,hgy,hop, -Bool.forall_bool, -Bool.exists_bool]
  ·rintro - -
   have hl1':(1:Int) < ks.length:=by omega
   simp[hl1,hl1', -Bool.forall_bool, -Bool.exists_bool]
 split at hx
 ·rename_i e1 e2 e3 e
  subst e
  simp at hx
  obtain⟨⟨⟨g0,g1,g2⟩,rfl⟩,hl1⟩:=hx
  obtain⟨k0,rfl⟩:∃k,ks=[k]:=qug.1 hl1
  simp[dz,dq, -Bool.forall_bool, -Bool.exists_bool]
  refine ak (X:=Unit) [1,3,34] [] 1 (fun _ _=>True) (fun _=>[]) (fun _=>[]) () (by simp) (by simp) (by omega) (by simp) (by simp) trivial (by simp) (by simp) ?_ ?_
  ·rintro k -hk -
   obtain rfl:k=0:=by omega
   simp[-Bool.forall_bool, -Bool.exists_bool]
  ·rintro - -
   simp[g0,g1, -Bool.forall_bool, -Bool.exists_bool]
   exact fun h=>⟨fun _=>by omega,by omega⟩
 ·cases hx
abbrev rS(n:Nat):Spc:=bp (a1 Rx) (fun x=>Vy n x=true) (enc (X:=Bool)) fun _ y=>y=true
theorem AJ(n:Nat)(h1:S iH=D7)(h2:S dv=rS n):ar kH ku S (a1 Rx) (fun x=>Vy (n+1) x=true) (enc (X:=Bool)) fun _ y=>y=true:=by
 rintro x hx
 have hx:Vy (n+1) x=true:=hx
 simp only[Vy,qs1,qsX]at hx
 obtain⟨hx1,hx2⟩:=hx
 simp[kH,ku,h1,hx1, -Bool.forall_bool, -Bool.exists_bool]
 intro hkl
 refine ak (X:=Unit) [9] [] x.kids.length (fun _ _=>True) (fun _=>[]) (fun _=>[]) () (by simp) (by simp) (by omega) (by simp) (by simp) trivial (by simp) (by simp) ?_ ?_
 ·rintro k -hk -
  obtain⟨y,hy⟩:=Fa hk
  obtain⟨_,hgy⟩:=qsT.1 hy
  have hp:=hx2 y (qsW hy)
  simp[h2,hk,hy,hgy,hp, -Bool.forall_bool, -Bool.exists_bool]
 ·rintro - -
  simp[-Bool.forall_bool, -Bool.exists_bool]
abbrev Hx(n:Nat):Spc:=bp (a1 Rx) (fun x=>∃m,H3 n x=some m) (enc (X:=Int)) fun x y=>H3 n x=some y
set_option maxHeartbeats 1000000 in
theorem BV(n:Nat)(h1:S dR=Hx n):ar gI gl S (a1 Rx) (fun x=>∃m,H3 (n+1) x=some m) (enc (X:=Int)) fun x y=>H3 (n+1) x=some y:=by
 rintro x ⟨m,hm⟩
 have hm0:=hm
 simp only[H3]at hm
 split at hm
 ·rename_i e
  cases hm
  simp[gI,gl,e,hm0, -Bool.forall_bool, -Bool.exists_bool]
 rename_i e1
 obtain⟨k,hk,hm⟩:=qsR.1 hm
 simp[gI,gl,e1, -Bool.forall_bool, -Bool.exists_bool]
 intro hkl
 refine ak (X:=Int) [1,10] [] x.kids.length (fun i z=>qin (H3 n) (x.kids.drop i) z=some k) (fun z=>[(3,enc z)]) (fun _=>[]) 0 (by simp) (by simp) (by omega) (by simp) (by simp) hk (by simp) (by simp) ?_ ?_
 ·rintro i z hi hz
  obtain⟨y,hy⟩:=Fa hi
  obtain⟨_,hgy⟩:=qsT.1 hy
  rw[I4 hy,qin]at hz
  obtain⟨v,hv,hz⟩:=qsR.1 hz
  split at hz
  ·cases hz
  rename_i hr
  have hin:InR .i64 (z+v):=by simp only[InR];omega
  have hp:∃m,H3 n y=some m:=⟨v,hv⟩
  simp[h1,hi,hy,hgy,hv, -Bool.forall_bool, -Bool.exists_bool]
  exact⟨hin,hz⟩
 ·rintro z hz
  rw[qtR,qin]at hz
  cases hz
  split at hm
  ·rename_i e4
   cases hm
   simp[e4,hm0, -Bool.forall_bool, -Bool.exists_bool]
  ·rename_i e4
   have e4:x.op=4:=by omega
   unfold qip at hm
   split at hm
   ·rename_i emx
    split at hm
    ·rename_i hb
     cases hm
     have hin:InR .i64 (k*max x.mn 1):=by simp only[InR];omega
     simp[e4,emx,hin,hm0, -Bool.forall_bool, -Bool.exists_bool]
    ·cases hm
   ·rename_i emx
    split at hm
    ·rename_i hb
     cases hm
     have hin:InR .i64 (k*x.mx):=by simp only[InR];omega
     simp[e4,emx,hin,hm0, -Bool.forall_bool, -Bool.exists_bool]
    ·cases hm
abbrev Hw:Spc:=bp (a1 Rx) (fun x=>AP 50 x=true) (enc (X:=Int)) fun x y=>y=0
theorem DQ(h1:S gZ=qdy (qe 50))(h2:S dv=rS 50)(h3:S dR=Hx 50):ar nz mC S (a1 Rx) (fun x=>AP 50 x=true) (enc (X:=Int)) fun x y=>y=0:=by
 rintro x hx
 have hx:AP 50 x=true:=hx
 simp only[AP,qs1]at hx
 obtain⟨⟨g1,g2⟩,g3⟩:=hx
 obtain⟨⟨t,k⟩,hs,rfl⟩:∃r,qe 50 x 1 0=some r/\r.1=true:=by
  cases h:qe 50 x 1 0 with
  | none=>rw[h]at g1;cases g1
  | some r=>rw[h]at g1;exact⟨r,rfl,g1⟩
 obtain⟨m,hm,hm64⟩:∃m,H3 50 x=some m/\m<=64:=by
  cases h:H3 50 x with
  | none=>rw[h]at g3;cases g3
  | some r=>rw[h]at g3;exact⟨r,rfl,of_decide_eq_true g3⟩
 have n64:¬64 < m:=by omega
 simp[nz,mC,h1,h2,h3,hs,g2,hm,n64, -Bool.forall_bool, -Bool.exists_bool]
 exact hm64
end Go.Gv

namespace Go.Gv
open Go.Proofs
def sK:CC:=by refine(fun(_:G.ap (G.gn Tryz.prog Tryz.f220 [2002002] {})=?c)=>?c) ?h;case h=>conv=>lhs; (conv=>arg 1;reduce);dsimp only[G.ap]
def rW:List aj:=[.cell 2 true 5, .tmp 3, .tmp 4]
theorem H6:aq Tryz.prog hZ [2002002] sK rW 66:=ai mixed (by kernel_rfl)
def td:CC:=by refine(fun(_:G.ap (G.gn Tryz.prog Tryz.f172 [] {})=?c)=>?c) ?h;case h=>conv=>lhs; (conv=>arg 1;reduce);dsimp only[G.ap]
def sx:List aj:=[.tmp 2]
theorem Ip:aq Tryz.prog pI [] td sx 13:=ai mixed (by kernel_rfl)
def ny:CC:=by refine(fun(_:G.ap (G.gn Tryz.prog Tryz.f319 [] {})=?c)=>?c) ?h;case h=>conv=>lhs; (conv=>arg 1;reduce);dsimp only[G.ap]
def mB:List aj:=[.tmp 4]
theorem CK:aq Tryz.prog jL [] ny mB 24:=ai mixed (by kernel_rfl)
end Go.Gv

namespace Go.Gv
open Cod (enc dec)
variable {S S0:Nat->Spc}
def qrG{Y Z W V:Type}[Cod Y][Cod Z][Cod W][Cod V](x:Y×Z×W×V):D:= .tup [enc x.1,enc x.2.1,enc x.2.2.1,enc x.2.2.2]
@[simp] theorem qrF{Y Z W V:Type}[Cod Y][Cod Z][Cod W][Cod V](y:Y)(z:Z)(w:W)(v:V):qrG (y,z,w,v)= .tup [enc y,enc z,enc w,enc v]:=id rfl
def qa3(s:B)(i:Int):I32×Int×Int×Bool:=match s.data[i.toNat]? with
 | some c=>(⟨c.toNat⟩,i,1,true)
 | none=>(⟨0⟩,0,0,false)
abbrev s_cpAt:Spc:=bp (a2 B Int) (fun x=>x.1.size<=1000/\uO x.1=true/\0<=x.2/\x.2<=x.1.size) (qrG (Y:=I32) (Z:=Int) (W:=Int) (V:=Bool)) fun x y=>y=qa3 x.1 x.2
theorem qag{s:B}(h:uO s=true){k:Nat}{c:UInt8}(hc:s.data[k]? =some c):c.toNat < 128:=by
 have:=qsX.1 h c (by rw[<-qtn]at hc;exact qsW hc)
 exact of_decide_eq_true this
abbrev vi:Spc:=bp (a1 B) (fun s=>∃r,qv s=some r) (qdS (Y:=Rx) (Z:=Int) (W:=Int)) fun s y=>qv s=some y.1/\y.2=(0,0)
set_option maxHeartbeats 2000000 in
theorem JI(h1:S sE=s_cpAt)(h2:S fl=Ro)(h3:S eq=Hw):ar sK rW S (a1 B) (fun s=>∃r,qv s=some r) (qdS (Y:=Rx) (Z:=Int) (W:=Int)) fun s y=>qv s=some y.1/\y.2=(0,0):=by
 rintro s ⟨r,hr⟩
 have hr0:=hr
 unfold qv at hr
 split at hr
 rotate_left
 ·cases hr
 rename_i hs
 obtain⟨hsz,hasc⟩:=hs
 obtain⟨⟨p,x,ok⟩,hu,hr⟩:=qsR.1 hr
 split at hr
 rotate_left
 ·cases hr
 rename_i hv
 obtain⟨rfl,hpos,hval⟩:=hv
 cases hr
 have n200:¬ (200:Int) < s.size:=by omega
 have hs10:s.size<=1000:=by omega
 simp[sK,rW,n200, -Bool.forall_bool, -Bool.exists_bool]
 intro b2 hsz2
 refine av (X:=Nat) [0,2] [2] (fun i=>i<=s.size) (fun i=>[(5,enc (i:Int))]) (fun _=>[]) (fun i=>s.size -i) 0 (qtl _) (by simp) (by simp) ?_
 rintro i hi
 by_cases hlt:i < s.size
 ·obtain⟨c,hc⟩:∃c,s.data[i]? =some c:=⟨s.data[i]'hlt,qtU hlt⟩
  have h128:=qag hasc hc
  have hat:qa3 s (i:Int)=((⟨(c.toNat:Int)⟩:I32),(i:Int),(1:Int),true):=by simp[qa3,hc]
  have hff:¬ ((c.toNat:Int)=65533):=by omega
  simp[h1,hs10,hasc,hat,hff,hi, -Bool.forall_bool, -Bool.exists_bool]
  exact⟨by simp only[InR];omega,i+1,by omega,by omega,by omega⟩
 ·obtain rfl:i=s.size:=by omega
  have hat:qa3 s (s.size:Int)=(⟨0⟩,0,0,false):=by
   have:s.data[s.size]? =none:=quh (qs2 _)
   simp[qa3,this]
  simp only at hpos hval
  have npos:¬p.pos < s.size:=by omega
  simp[h1,h2,h3,hs10,hasc,hat,hu,hpos,hval,npos, -Bool.forall_bool, -Bool.exists_bool]
  exact fun b _=>⟨x, .same _,hr0⟩
abbrev qbJ:Spc:=bp (a1 B) (fun s=>∃r,qv s=some r) (enc (X:=Int)) fun _ y=>y=0
theorem JW(h1:S hZ=vi):ar td sx S (a1 B) (fun s=>∃r,qv s=some r) (enc (X:=Int)) fun _ y=>y=0:=by
 rintro s ⟨r,hr⟩
 simp[td,sx,h1,hr, -Bool.forall_bool, -Bool.exists_bool]
abbrev qbI:Spc:=bp (a2 (List Rng) I32) (fun _=>True) (enc (X:=Bool)) fun x y=>y=Nq x.1 x.2.val
theorem DP:ar ny mB S (a2 (List Rng) I32) (fun _=>True) (enc (X:=Bool)) fun x y=>y=Nq x.1 x.2.val:=by
 rintro⟨l,⟨c⟩⟩ -
 simp[ny,mB, -Bool.forall_bool, -Bool.exists_bool]
 intro hkl
 refine ak (X:=Unit) [1,7] [] l.length (fun k _=>Nq (l.take k) c=false) (fun _=>[]) (fun _=>[]) () (by simp) (by simp) (by omega) (by simp) (by simp) rfl (by simp) (by simp) ?_ ?_
 ·rintro k -hk hP
  obtain⟨y,hy⟩:=Fa hk
  obtain⟨_,hgy⟩:=qsT.1 hy
  have hstep:Nq (l.take (k+1)) c=(decide (y.fr.val<=c) && decide (c<=y.to.val)):=by
   have:l.take (k+1)=l.take k++ [y]:=by rw[quB,hy];rfl
   unfold Nq at hP ⊢
   rw[this,List.any_append,hP]
   simp
  by_cases h1:y.fr.val<=c/\c<=y.to.val
  ·obtain⟨h1,h2⟩:=h1
   have hres:Nq l c=true:=by
    refine qt3.2 ⟨y,qsW hy,by simp[h1,h2]⟩
   simp[hk,hy,hgy,h1,h2,hres, -Bool.forall_bool, -Bool.exists_bool]
  ·have hres:Nq (l.take (k+1)) c=false:=by
    rw[hstep]
    simp
    omega
   by_cases h2:y.fr.val<=c
   ·have h3:¬c<=y.to.val:=fun e=>h1 ⟨h2,e⟩
    simp[hk,hy,hgy,h2,h3,hres, -Bool.forall_bool, -Bool.exists_bool]
   ·simp[hk,hy,hgy,h2,hres, -Bool.forall_bool, -Bool.exists_bool]
 ·rintro -hP
  rw[qtD]at hP
  simp[hP, -Bool.forall_bool, -Bool.exists_bool]
end Go.Gv

namespace Go.Gv
open Go.Proofs
def nO:CC:=by refine(fun(_:G.ap (G.gn Tryz.prog Tryz.f262 [] {})=?c)=>?c) ?h;case h=>conv=>lhs; (conv=>arg 1;reduce);dsimp only[G.ap]
def mR:List aj:=[.tmp 6]
theorem Io:aq Tryz.prog pH [] nO mR 25:=ai mixed (by kernel_rfl)
def lR:CC:=by refine(fun(_:G.ap (G.gn Tryz.prog Tryz.f227 [9,8,7,6,5] { cu:=[1] })=?c)=>?c) ?h;case h=>conv=>lhs; (conv=>arg 1;reduce);dsimp only[G.ap]
def lD:List aj:=[.tmp 10]
theorem Bl:aq Tryz.prog dS [9,8,7,6,5] lR lD 102:=ai mixed (by kernel_rfl)
def jC:CC:=by refine(fun(_:G.ap (G.gn Tryz.prog Tryz.f261 [5] {})=?c)=>?c) ?h;case h=>conv=>lhs; (conv=>arg 1;reduce);dsimp only[G.ap]
def jl:List aj:=[.tmp 6]
theorem yW:aq Tryz.prog au [5] jC jl 13:=ai mixed (by kernel_rfl)
def jB:CC:=by refine(fun(_:G.ap (G.gn Tryz.prog Tryz.f267 [2] {})=?c)=>?c) ?h;case h=>conv=>lhs; (conv=>arg 1;reduce);dsimp only[G.ap]
def jk:List aj:=[.tmp 3]
theorem yV:aq Tryz.prog be [2] jB jk 8:=ai mixed (by kernel_rfl)
end Go.Gv

namespace Go.Gv
open Cod (enc dec)
variable {S S0:Nat->Spc}
def By(v s:B)(f:Bool):Option Bool:=(qv v).bind fun x=>Bv x s f
def qaL(x:B×B×Bool):Prop:=∃y,By x.1 x.2.1 x.2.2=some y
def qd6(x:B×B×Bool)(y:Bool):Prop:=By x.1 x.2.1 x.2.2=some y
abbrev Mq:Spc:=bp (a3 B B Bool) qaL (enc (X:=Bool)) qd6
theorem JV(h1:S hZ=vi)(h2:S pq=KP false)(h3:S iI=KP true):ar nO mR S (a3 B B Bool) qaL (enc (X:=Bool)) qd6:=by
 rintro⟨v,s,f⟩ ⟨y,hy⟩
 have hy:By v s f=some y:=hy
 obtain⟨x,hx,hm⟩:=qsR.1 hy
 cases f
 ·have hp:QE false (x,s):=⟨y,hm⟩
  simp[nO,mR,h1,h2,hx,hp, -Bool.forall_bool, -Bool.exists_bool]
  exact fun z hz=>by show(qv v).bind _=_;rw[hx];exact hz
 ·have hp:QE true (x,s):=⟨y,hm⟩
  simp[nO,mR,h1,h3,hx,hp, -Bool.forall_bool, -Bool.exists_bool]
  exact fun z hz=>by show(qv v).bind _=_;rw[hx];exact hz
end Go.Gv

namespace Go.Gv
open Cod (enc dec)
variable {S S0:Nat->Spc}
def featS:List B:=[⟨#[124]⟩,⟨#[124,112,124]⟩,⟨#[124,112,124,113,124]⟩,⟨#[124,113,124]⟩]
def Na(s v:B):Option Bool:=if(featS.any fun z=>decide (z=s))=true/\(v=⟨#[112]⟩\/v=⟨#[113]⟩)then some (s.data.toList.any fun c=>decide (v.data.toList=[c]))else none
structure NW where
 c:Corpus
 tok:Int
 lb:List B
 bd:List Int
def wH(E:NW):Nat->Cond->Option Bool
 | 0=>fun _=>none
 | n+1=>fun x=>
   if x.op=1 then some true else
   if x.op=2 then By x.val (tn E.c.toks E.tok (wJ E.c.attrs x.name)) x.fold else
   if x.op=3 then Na (tn E.c.toks E.tok (mq E.c.attrs x.name)) x.val else
   if x.op=4 then(if gy E.lb (fun z=>decide (z=x.lab)) < 0 then none else match E.bd[(gy E.lb fun z=>decide (z=x.lab)).toNat]? with
    | some o=>some (decide (0<=o) && decide (tn E.c.toks E.tok (mq E.c.attrs x.name)=tn E.c.toks o (mq E.c.attrs x.arg)))
    | none=>none)else
   if x.op=5 then some (E.c.regs.any (HU x E.tok))else
   if x.op=6 then(match x.kids with|k::_=>(wH E n k).map not|[]=>none)else
   if(x.kids.all fun k=>(wH E n k).isSome)=true then
    (if x.op=7 then some (!(x.kids.any fun k=>!((wH E n k).getD false)))else some (x.kids.any fun k=>(wH E n k).getD false))
   else none
def qgQ(c:Corpus):Prop:=c.toks.length<=100000/\(∀r∈c.toks,r.length<=100000)/\c.attrs.length<=1000
abbrev HZ:=Corpus×Cond×Int×List B×List Int
def qcO(z:HZ):NW:=⟨z.1,z.2.2.1,z.2.2.2.1,z.2.2.2.2⟩
def qdk(n:Nat)(z:HZ):Prop:=qgQ z.1/\∃y,wH (qcO z) n z.2.1=some y
def qgw(n:Nat)(z:HZ)(y:Bool):Prop:=wH (qcO z) n z.2.1=some y
abbrev aH:dc HZ:=aE Corpus (a4 Cond Int (List B) (List Int))
abbrev yy(n:Nat):Spc:=bp aH (qdk n) (enc (X:=Bool)) (qgw n)
def qa2(c:Corpus):List D:=[.list 2 (c.attrs.map enc), .list 1 (c.toks.map enc), .list 4 (c.texts.map enc), .list 4 (c.regs.map enc), .list 4 (c.nodes.map enc), .list 1 (c.heads.map enc), .list 1 (c.rels.map enc)]
theorem Um(c:Corpus): .agg (qa2 c)=enc c:=by simp[qa2]
theorem qcW{x y:Corpus}(h:qa2 x=qa2 y):x=y:=aL (by rw[<-Um,<-Um,h])
def ZW(z:HZ):List D:=[.cptr (qa2 z.1) 0, .cptr [enc z.2.2.1] 0, .cptr [enc z.2.2.2.1] 0, .cptr [enc z.2.2.2.2] 0]
def qa0(z:HZ):List D:=enc z.2.1::ZW z
def qgP(z:HZ):List D:=[enc z.2.1, .cptr [.clo au (ZW z)] 0]
theorem Gr(z z':HZ)(h:qa0 z=qa0 z'):z=z':=by
 obtain⟨a,b,c,d,e⟩:=z
 obtain⟨a',b',c',d',e'⟩:=z'
 unfold qa0 ZW at h
 simp only[qti,D.cptr.injEq,and_true]at h
 rw[aL h.1,qcW h.2.1,aL h.2.2.1,aL h.2.2.2.1,aL h.2.2.2.2]
theorem To(z z':HZ)(h:qgP z=qgP z'):z=z':=by
 unfold qgP at h
 simp only[qti,D.cptr.injEq,D.clo.injEq,and_true,true_and]at h
 refine Gr z z' ?_
 unfold qa0
 rw[h.1,h.2]
noncomputable abbrev aH1:dc HZ:=aX qa0 Gr
noncomputable abbrev qr5:dc HZ:=aX qgP To
noncomputable abbrev FX(n:Nat):Spc:=bp aH1 (qdk n) (enc (X:=Bool)) (qgw n)
noncomputable abbrev OL(n:Nat):Spc:=bp qr5 (qdk n) (enc (X:=Bool)) fun z y=>∃b,wH (qcO z) n z.2.1=some b/\y=!b
theorem UY(n:Nat)(h1:S dS=yy n):ar jC jl S aH1 (qdk n) (enc (X:=Bool)) (qgw n):=by
 rintro z hz
 rw[Aa]
 obtain⟨c,x,tok,lb,bd⟩:=z
 simp[qa0,ZW,qa2,jC,jl,h1,hz, -Bool.forall_bool, -Bool.exists_bool]
@[simp] theorem qnk(c:Corpus)(x:Cond)(tok:Int)(lb:List B)(bd:List Int):aH1.dec [.agg [.v (.int .i64 x.op), .v (.string x.name), .v (.string x.arg), .v (.string x.val), .v (.string x.lab), .v (.bool x.fold), .list 7 (x.kids.map enc)], .cptr [.list 2 (c.attrs.map enc), .list 1 (c.toks.map enc), .list 4 (c.texts.map enc), .list 4 (c.regs.map enc), .list 4 (c.nodes.map enc), .list 1 (c.heads.map enc), .list 1 (c.rels.map enc)] 0, .cptr [.v (.int .i64 tok)] 0, .cptr [.list 1 (lb.map enc)] 0, .cptr [.list 1 (bd.map enc)] 0]=some (c,x,tok,lb,bd):=by
 have h:=BO qa0 Gr (c,x,tok,lb,bd)
 have e:qa0 (c,x,tok,lb,bd)=[.agg [.v (.int .i64 x.op), .v (.string x.name), .v (.string x.arg), .v (.string x.val), .v (.string x.lab), .v (.bool x.fold), .list 7 (x.kids.map enc)], .cptr [.list 2 (c.attrs.map enc), .list 1 (c.toks.map enc), .list 4 (c.texts.map enc), .list 4 (c.regs.map enc), .list 4 (c.nodes.map enc), .list 1 (c.heads.map enc), .list 1 (c.rels.map enc)] 0, .cptr [.v (.int .i64 tok)] 0, .cptr [.list 1 (lb.map enc)] 0, .cptr [.list 1 (bd.map enc)] 0]:=by simp[qa0,ZW,qa2]
 rw[<-e]
 exact h
theorem UX(n:Nat)(h1:S au=FX n):ar jB jk S qr5 (qdk n) (enc (X:=Bool)) fun z y=>∃b,wH (qcO z) n z.2.1=some b/\y=!b:=by
 rintro z hz
 rw[Aa]
 obtain⟨c,x,tok,lb,bd⟩:=z
 simp[qgP,ZW,qa2,jB,jk,h1,hz, -Bool.forall_bool, -Bool.exists_bool]
 exact fun y hy=>hy
abbrev RQ:Spc:=bp (a2 B B) (fun x=>∃b,Na x.1 x.2=some b) (enc (X:=Bool)) fun x y=>Na x.1 x.2=some y
set_option maxHeartbeats 4000000 in
theorem qbj(n:Nat)(h0:S0 au=FX n)(h0':S0 be=OL n)(h1:S au=FX n)(h2:S cX=My Cond S0)(h3:S dT=yz)(h4:S iV=HJ)(h5:S pH=Mq)(h6:S aN=qW)(h7:S pG=RQ)(h8:S aM=vS)(h9:S gD=RS):
 ar lR lD S aH (qdk (n+1)) (enc (X:=Bool)) (qgw (n+1)):=by
 rintro⟨c,x,tok,lb,bd⟩ ⟨⟨z1,z2,z3⟩,y,hy⟩
 simp only at z1 z2 z3
 have hy0:wH ⟨c,tok,lb,bd⟩ (n+1) x=some y:=hy
 have hQ:∀w,w=y->qgw (n+1) (c,x,tok,lb,bd) w:=fun w e=>by subst e;exact hy
 clear hy
 obtain⟨op,name,arg,val,lab,fold,ks⟩:=x
 unfold wH at hy0
 simp only at hy0
 have hval:∀i k:Int,qgQ c:=fun _ _=>⟨z1,z2,z3⟩
 simp[lR,lD, -Bool.forall_bool, -Bool.exists_bool]
 refine jF (X:=Unit) [5,6,7,8,9] [] [11] [] (fun _=>True) (fun _=>[(11, .cptr [.clo au (ZW (c,⟨op,name,arg,val,lab,fold,ks⟩,tok,lb,bd))] 0)]) (fun _=>[]) [] (fun _=>rfl) (by decide) ?_ ?_
 ·simp[ZW,qa2]
  exact fun b=> .box rfl
 rintro - -
 simp only[ZW,qa2]
 split at hy0
 ·rename_i e;subst e
  obtain rfl:=qs8 hy0
  simp[-Bool.forall_bool, -Bool.exists_bool]
  exact hQ _ rfl
 rename_i e1
 split at hy0
 ·rename_i e;subst e
  have hM:qaL (val,tn c.toks tok (wJ c.attrs name),fold):=⟨y,hy0⟩
  simp[h3,h4,h5,z1,z2,z3,hM, -Bool.forall_bool, -Bool.exists_bool]
  refine⟨z2,fun w hw=>hQ _ (qs8 (hw.symm.trans hy0))⟩
 rename_i e2
 split at hy0
 ·rename_i e;subst e
  have hM:∃b,Na (tn c.toks tok (mq c.attrs name)) val=some b:=⟨y,hy0⟩
  simp[h6,h4,h7,z1,z2,z3,hM, -Bool.forall_bool, -Bool.exists_bool]
  refine⟨z2,fun w hw=>hQ _ (qs8 (hw.symm.trans hy0))⟩
 rename_i e3
 split at hy0
 ·rename_i e;subst e
  split at hy0
  ·cases hy0
  rename_i hj
  obtain⟨j,hjj⟩:∃j,j=gy lb fun z=>decide (z=lab):=⟨_,rfl⟩
  rw[<-hjj]at hj hy0
  cases ho:bd[j.toNat]? with
  | none=>rw[ho]at hy0;cases hy0
  | some o=>
  rw[ho]at hy0
  have hy1:(decide (0<=o) && decide (tn c.toks tok (mq c.attrs name)=tn c.toks o (mq c.attrs arg)))=y:=qs8 hy0
  have j0:0<=j:=by omega
  obtain⟨hjl,hgo⟩:=qsT.1 ho
  have j1:j < (bd.length:Int):=by omega
  by_cases h0o:0<=o
  ·simp[h8,<-hjj,j0,j1,ho,hgo,h0o,h6,h4,z1,z2,z3, -Bool.forall_bool, -Bool.exists_bool]
   exact⟨⟨z2,hQ _ (by rw[<-hy1];simp[h0o])⟩,fun h=>by omega⟩
  ·simp[h8,<-hjj,j0,j1,ho,hgo,h0o, -Bool.forall_bool, -Bool.exists_bool]
   exact fun _=>hQ _ (by rw[<-hy1];simp[h0o])
 rename_i e4
 split at hy0
 ·rename_i e;subst e
  have hy1:=qs8 hy0
  simp[h9, -Bool.forall_bool, -Bool.exists_bool]
  exact hQ _ hy1
 rename_i e5
 split at hy0
 ·rename_i e;subst e
  split at hy0
  ·rename_i k ks'
   obtain⟨b,hb,rfl⟩:=qs4.1 hy0
   have hp:qdk n (c,k,tok,lb,bd):=⟨⟨z1,z2,z3⟩,b,hb⟩
   simp[h1,hp, -Bool.forall_bool, -Bool.exists_bool]
   intro w hw
   have hw:wH ⟨c,tok,lb,bd⟩ n k=some w:=hw
   rw[hb]at hw
   cases hw
   exact hQ _ rfl
  ·cases hy0
 rename_i e6
 split at hy0
 rotate_left
 ·cases hy0
 rename_i hall
 have hal:∀k∈ks,∃b,wH ⟨c,tok,lb,bd⟩ n k=some b:=fun k hk=>qtV.1 (qsX.1 hall k hk)
 have hf2:FunOn S0 (.clo be [.cptr [.clo au (ZW (c,⟨op,name,arg,val,lab,fold,ks⟩,tok,lb,bd))] 0]) ks fun k=>!((wH ⟨c,tok,lb,bd⟩ n k).getD false):=
  vv (f:=fun k=>(c,k,tok,lb,bd)) h0' (fun k _=>BO qgP To (c,k,tok,lb,bd)) (fun k hk=>⟨⟨z1,z2,z3⟩,hal k hk⟩) (fun k hk y hy=>by
   obtain⟨b,h1,h2⟩:=hy
   have h1:wH ⟨c,tok,lb,bd⟩ n k=some b:=h1
   rw[h2,h1];rfl)
 have hf1:FunOn S0 (.clo au (ZW (c,⟨op,name,arg,val,lab,fold,ks⟩,tok,lb,bd))) ks fun k=>(wH ⟨c,tok,lb,bd⟩ n k).getD false:=
  vv (f:=fun k=>(c,k,tok,lb,bd)) h0 (fun k _=>BO qa0 Gr (c,k,tok,lb,bd)) (fun k hk=>⟨⟨z1,z2,z3⟩,hal k hk⟩) (fun k hk y hy=>by
   have h1:wH ⟨c,tok,lb,bd⟩ n k=some y:=hy
   rw[h1];rfl)
 split at hy0
 ·rename_i e;subst e
  have hy1:=qs8 hy0
  simp[h2, -Bool.forall_bool, -Bool.exists_bool]
  exact⟨⟨_,hf2⟩,fun w hw=>hQ _ (by rw[hw _ hf2];exact hy1)⟩
 ·rename_i e7
  have hy1:=qs8 hy0
  simp[h2,e1,e2,e3,e4,e5,e6,e7, -Bool.forall_bool, -Bool.exists_bool]
  exact⟨⟨_,hf1⟩,fun w hw=>hQ _ (by rw[hw _ hf1];exact hy1)⟩
end Go.Gv

namespace Go.Gv
open Cod (enc dec)
variable {S S0:Nat->Spc}
def TW(s:B):List B:=if s=⟨#[124,112,124]⟩then[⟨#[112]⟩]else if s=⟨#[124,112,124,113,124]⟩then[⟨#[112]⟩,⟨#[113]⟩]else if s=⟨#[124,113,124]⟩then[⟨#[113]⟩]else[]
abbrev HB:Spc:=bp (a1 B) (fun s=>s∈featS) (yd (Y:=List B) (Z:=Int)) fun s y=>y=(TW s,0)
set_option maxHeartbeats 1000000 in
theorem Ob(h1:S bE=yu):vc S cn (sy cj fun r H'=>Fin (yd (Y:=List B) (Z:=Int)) (fun y=>y=([⟨#[112]⟩],0)) r H') (dh ((a1 B).view (⟨#[124,112,124]⟩:B))) bU:=by
 have hv:yX ⟨#[124,112,124]⟩=true:=by decide
 have hsz:(⟨#[124,112,124]⟩:B).size=3:=rfl
 have x1:((⟨#[124,112,124]⟩:B).extract 1 2)=⟨#[112]⟩:=by decide
 simp[cn,cj,h1,hv,hsz, -Bool.forall_bool, -Bool.exists_bool]
 refine⟨by simp[InR],?_⟩
 refine av (X:=Int×Int×Value×List B) [0] [] (fun z=>z.1=1/\z.2.1=1/\z.2.2.2=([]:List B)\/z.1=1/\z.2.1=2/\z.2.2.2=([]:List B)\/z.1=3/\z.2.1=3/\z.2.2.2=([⟨#[112]⟩]:List B)) (fun z=>[(5, .own 51 z.2.2.1),(6,enc z.1),(7,enc z.2.1)]) (fun z=>[(51, .row z.2.2.1 az 1 (z.2.2.2.map enc))]) (fun z=>(3 -z.2.1).toNat) (1,1, .slice none 0 0, []) (by simp) (by simp) (by simp[isNilRow]) ?_
 rintro⟨f,i,v,l⟩ hz
 simp only at hz
 rcases hz with⟨rfl,rfl,rfl⟩|⟨rfl,rfl,rfl⟩|⟨rfl,rfl,rfl⟩
 ·simp[hsz,x1, -Bool.forall_bool, -Bool.exists_bool]
  exact⟨by simp[InR],1,2,v, [],by simp,⟨⟨rfl,rfl,rfl⟩, .inl ⟨rfl,rfl⟩⟩,by omega⟩
 ·simp[hsz,x1, -Bool.forall_bool, -Bool.exists_bool]
  exact fun v=>⟨by simp[InR],3,3,v, [⟨#[112]⟩],by simp,⟨⟨rfl,rfl,rfl⟩, .inl ⟨rfl,rfl⟩⟩,by omega⟩
 ·simp[hsz, -Bool.forall_bool, -Bool.exists_bool]
  refine av (X:=Int) [5] [51] (fun i=>i=1) (fun i=>[(8,enc i)]) (fun _=>[]) (fun i=>(3 -i).toNat) 1 (by simp) (by simp) (by simp) ?_
  rintro i hi
  subst hi
  simp[-Bool.forall_bool, -Bool.exists_bool]
  exact iX (l:=([⟨#[112]⟩]:List B)) az rfl
set_option maxHeartbeats 1000000 in
theorem JS(h1:S bE=yu):vc S cn (sy cj fun r H'=>Fin (yd (Y:=List B) (Z:=Int)) (fun y=>y=([⟨#[112]⟩,⟨#[113]⟩],0)) r H') (dh ((a1 B).view (⟨#[124,112,124,113,124]⟩:B))) bU:=by
 have hv:yX ⟨#[124,112,124,113,124]⟩=true:=by decide
 have hsz:(⟨#[124,112,124,113,124]⟩:B).size=5:=rfl
 have x1:((⟨#[124,112,124,113,124]⟩:B).extract 1 2)=⟨#[112]⟩:=by decide
 have x3:((⟨#[124,112,124,113,124]⟩:B).extract 3 4)=⟨#[113]⟩:=by decide
 simp[cn,cj,h1,hv,hsz, -Bool.forall_bool, -Bool.exists_bool]
 refine⟨by simp[InR],?_⟩
 refine av (X:=Int×Int×Value×List B) [0] [] (fun z=>z.1=1/\z.2.1=1/\z.2.2.2=([]:List B)\/z.1=1/\z.2.1=2/\z.2.2.2=([]:List B)\/z.1=3/\z.2.1=3/\z.2.2.2=([⟨#[112]⟩]:List B)\/z.1=3/\z.2.1=4/\z.2.2.2=([⟨#[112]⟩]:List B)\/z.1=5/\z.2.1=5/\z.2.2.2=([⟨#[112]⟩,⟨#[113]⟩]:List B)) (fun z=>[(5, .own 51 z.2.2.1),(6,enc z.1),(7,enc z.2.1)]) (fun z=>[(51, .row z.2.2.1 az 1 (z.2.2.2.map enc))]) (fun z=>(5 -z.2.1).toNat) (1,1, .slice none 0 0, []) (by simp) (by simp) (by simp[isNilRow]) ?_
 rintro⟨f,i,v,l⟩ hz
 simp only at hz
 rcases hz with⟨rfl,rfl,rfl⟩|⟨rfl,rfl,rfl⟩|⟨rfl,rfl,rfl⟩|⟨rfl,rfl,rfl⟩|⟨rfl,rfl,rfl⟩
 ·simp[hsz,x1,x3, -Bool.forall_bool, -Bool.exists_bool]
  exact⟨by simp[InR],1,2,v, [],by simp,⟨⟨rfl,rfl,rfl⟩, .inl ⟨rfl,rfl⟩⟩,by omega⟩
 ·simp[hsz,x1,x3, -Bool.forall_bool, -Bool.exists_bool]
  exact fun v=>⟨by simp[InR],3,3,v, [⟨#[112]⟩],by simp,⟨⟨rfl,rfl,rfl⟩, .inl ⟨rfl,rfl⟩⟩,by omega⟩
 ·simp[hsz,x1,x3, -Bool.forall_bool, -Bool.exists_bool]
  exact⟨by simp[InR],3,4,v, [⟨#[112]⟩],by simp,⟨⟨rfl,rfl,rfl⟩, .inl ⟨rfl,rfl⟩⟩,by omega⟩
 ·simp[hsz,x1,x3, -Bool.forall_bool, -Bool.exists_bool]
  exact fun v=>⟨by simp[InR],5,5,v, [⟨#[112]⟩,⟨#[113]⟩],by simp,⟨⟨rfl,rfl,rfl⟩, .inl ⟨rfl,rfl⟩⟩,by omega⟩
 ·simp[hsz, -Bool.forall_bool, -Bool.exists_bool]
  refine av (X:=Int) [5] [51] (fun i=>i=1\/i=2) (fun i=>[(8,enc i)]) (fun _=>[]) (fun i=>(3 -i).toNat) 1 (by simp) (by simp) (by simp) ?_
  rintro i hi
  rcases hi with rfl|rfl
  ·simp[-Bool.forall_bool, -Bool.exists_bool]
   exact⟨by simp[InR],by decide,fun _=>by simp[InR]⟩
  ·simp[-Bool.forall_bool, -Bool.exists_bool]
   exact iX (l:=([⟨#[112]⟩,⟨#[113]⟩]:List B)) az rfl
set_option maxHeartbeats 1000000 in
theorem Oa(h1:S bE=yu):vc S cn (sy cj fun r H'=>Fin (yd (Y:=List B) (Z:=Int)) (fun y=>y=([⟨#[113]⟩],0)) r H') (dh ((a1 B).view (⟨#[124,113,124]⟩:B))) bU:=by
 have hv:yX ⟨#[124,113,124]⟩=true:=by decide
 have hsz:(⟨#[124,113,124]⟩:B).size=3:=rfl
 have x1:((⟨#[124,113,124]⟩:B).extract 1 2)=⟨#[113]⟩:=by decide
 simp[cn,cj,h1,hv,hsz, -Bool.forall_bool, -Bool.exists_bool]
 refine⟨by simp[InR],?_⟩
 refine av (X:=Int×Int×Value×List B) [0] [] (fun z=>z.1=1/\z.2.1=1/\z.2.2.2=([]:List B)\/z.1=1/\z.2.1=2/\z.2.2.2=([]:List B)\/z.1=3/\z.2.1=3/\z.2.2.2=([⟨#[113]⟩]:List B)) (fun z=>[(5, .own 51 z.2.2.1),(6,enc z.1),(7,enc z.2.1)]) (fun z=>[(51, .row z.2.2.1 az 1 (z.2.2.2.map enc))]) (fun z=>(3 -z.2.1).toNat) (1,1, .slice none 0 0, []) (by simp) (by simp) (by simp[isNilRow]) ?_
 rintro⟨f,i,v,l⟩ hz
 simp only at hz
 rcases hz with⟨rfl,rfl,rfl⟩|⟨rfl,rfl,rfl⟩|⟨rfl,rfl,rfl⟩
 ·simp[hsz,x1, -Bool.forall_bool, -Bool.exists_bool]
  exact⟨by simp[InR],1,2,v, [],by simp,⟨⟨rfl,rfl,rfl⟩, .inl ⟨rfl,rfl⟩⟩,by omega⟩
 ·simp[hsz,x1, -Bool.forall_bool, -Bool.exists_bool]
  exact fun v=>⟨by simp[InR],3,3,v, [⟨#[113]⟩],by simp,⟨⟨rfl,rfl,rfl⟩, .inl ⟨rfl,rfl⟩⟩,by omega⟩
 ·simp[hsz, -Bool.forall_bool, -Bool.exists_bool]
  refine av (X:=Int) [5] [51] (fun i=>i=1) (fun i=>[(8,enc i)]) (fun _=>[]) (fun i=>(3 -i).toNat) 1 (by simp) (by simp) (by simp) ?_
  rintro i hi
  subst hi
  simp[-Bool.forall_bool, -Bool.exists_bool]
  exact iX (l:=([⟨#[113]⟩]:List B)) az rfl
theorem FQ(h1:S bE=yu):ar cn cj S (a1 B) (fun s=>s∈featS) (yd (Y:=List B) (Z:=Int)) fun s y=>y=(TW s,0):=by
 rintro s hs
 have hs:s∈featS:=hs
 simp only[featS,qsY,qtp,or_false]at hs
 rcases hs with rfl|rfl|rfl|rfl
 ·have hv:yX ⟨#[124]⟩=true:=by decide
  have e:TW ⟨#[124]⟩=[]:=by decide
  simp[cn,cj,h1,hv,e, -Bool.forall_bool, -Bool.exists_bool]
 ·exact Ob h1
 ·exact JS h1
 ·exact Oa h1
abbrev RR:Spc:=bp (a2 (List B) B) (fun _=>True) (enc (X:=Bool)) fun x y=>y=sC x.1 x.2
theorem AL:ar kL kC S (a2 (List B) B) (fun _=>True) (enc (X:=Bool)) fun x y=>y=sC x.1 x.2:=by
 rintro⟨l,s⟩ -
 simp[kL,kC, -Bool.forall_bool, -Bool.exists_bool]
 intro hl
 refine ak (X:=Unit) [1,7] [] l.length (fun k _=>∀x∈l.take k,decide (x=s)=false) (fun _=>[]) (fun _=>[]) () (by simp) (by simp) (by omega) (by simp) (by simp) (by simp) (by simp) (by simp) ?_ ?_
 ·intro k _ hk hP
  obtain⟨x,hx⟩:=xm hk
  obtain⟨_,hgx⟩:=qsT.1 hx
  simp[hk,hx,hgx, -Bool.forall_bool, -Bool.exists_bool]
  refine⟨fun h=>?_,fun h=>?_⟩
  ·have:sC l s=true:=qt3.2 ⟨x,qsW hx,by simp[h]⟩
   exact this
  ·rw[cO hx]
   intro z hz
   rcases qsZ.1 hz with hz|hz
   ·have:=hP z hz
    simpa using this
   ·simp at hz;subst hz
    exact h
 ·intro _ hP
  rw[qtD]at hP
  simp[-Bool.forall_bool, -Bool.exists_bool]
  have:sC l s=false:=by
   rw[sC,List.any_eq_false]
   intro x hx
   rw[hP x hx]
   simp
  exact this
theorem JU(h1:S ld=HB)(h2:S gC=RR):ar tc sw S (a2 B B) (fun x=>∃b,Na x.1 x.2=some b) (enc (X:=Bool)) fun x y=>Na x.1 x.2=some y:=by
 rintro⟨s,f⟩ ⟨b,hb⟩
 have hb:Na s f=some b:=hb
 have hb0:=hb
 unfold Na at hb
 split at hb
 rotate_left
 ·cases hb
 rename_i hc
 obtain⟨c1,c2⟩:=hc
 obtain⟨z,hz,hze⟩:=qt3.1 c1
 obtain rfl:z=s:=of_decide_eq_true hze
 have e:sC (TW z) f=b:=by
  have hb:=qs8 hb
  rw[<-hb]
  simp only[featS,qsY,qtp,or_false]at hz
  rcases hz with rfl|rfl|rfl|rfl <;> rcases c2 with rfl|rfl <;> decide
 simp[tc,sw,h1,h2,hz,e, -Bool.forall_bool, -Bool.exists_bool]
 exact hb0
end Go.Gv

namespace Go.Gv
section
variable {P:Program}{im:List Nat}{E:xK}{S:Nat->Spc}
end
end Go.Gv
