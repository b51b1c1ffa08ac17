/- A part of the framework and of the walks: W135 C54 W136 C58 W156 W157 W160 T25. -/
import Derived.Test.YtphdikcommfnhaaGreatDoorGd26
import Derived.Test.YtphdikcommfnhaaGreatDoorGd31
import Derived.Test.YtphdikcommfnhaaGreatDoorGd20
import Derived.Test.YtphdikcommfnhaaGreatDoorGd28
import Derived.Test.YtphdikcommfnhaaGreatDoorGd30
import Derived.Test.YtphdikcommfnhaaGreatDoorGd18
set_option linter.unusedSimpArgs false
set_option linter.unusedVariables false
set_option linter.unusedSectionVars false
set_option maxRecDepth 100000
set_option maxHeartbeats 0

namespace Go.Gv
open Cod (enc dec)
variable {S S0:Nat->Spc}
theorem Fv{X:Type}{l:List X}{k:Nat}(h:k < l.length):∃x,l[k]? =some x:=⟨_,qtW h⟩
theorem JE{X:Type}{l:List X}{k:Nat}{x:X}(h:l[k]? =some x):l.drop k=x::l.drop (k+1):=by
 obtain⟨h1,h2⟩:=qtV.1 h
 rw[qux h1,h2]
theorem Kb(n:Nat)(h1:S il=qey (qB n)):qbq jD jn S (qB (n+1)):=by
 rintro b x d k ⟨ok,m⟩ hF
 have hF0:=hF
 simp only[qB]at hF
 split at hF
 ·cases hF
 rename_i hrng
 have hin:InR .i64 (k+1):=by simp only[InR];omega
 split at hF
 ·rename_i hbig
  cases hF
  by_cases h40:40 < d
  ·simp[jD,jn,hin,h40, -Bool.forall_bool, -Bool.exists_bool]
   exact⟨rfl,by simp⟩
  ·have h200:200 < k+1:=by omega
   simp[jD,jn,hin,h40,h200, -Bool.forall_bool, -Bool.exists_bool]
   exact⟨rfl,by simp⟩
 ·rename_i hbig
  have h40:¬40 < d:=by omega
  have h200:¬200 < k+1:=by omega
  simp[jD,jn,hin,h40,h200, -Bool.forall_bool, -Bool.exists_bool]
  intro hkl
  refine aj (X:=Int) [1,2,23] [] x.kids.length (fun i z=>qja (qB n) d (x.kids.drop i) z=some (ok,m)) (fun z=>[]) (fun z=>[(2, .box b [.v (.int .i64 z)])]) (k+1) (by simp) (by simp) (by omega) (by simp) (by simp) hF (by simp) (by simp) ?_ ?_
  ·rintro i z hi hz
   obtain⟨y,hy⟩:=Fv hi
   obtain⟨_,hgy⟩:=qtV.1 hy
   rw[JE hy,qja]at hz
   obtain⟨⟨t,m'⟩,hs,hz⟩:=qtT.1 hz
   simp only at hz
   have hin2:InR .i64 (d+1):=by simp only[InR];omega
   cases t with
   | true=>
     simp only[if_true]at hz
     simp[h1,hi,hy,hgy,hs,hin2, -Bool.forall_bool, -Bool.exists_bool]
     exact⟨m',hz, .inl rfl⟩
   | false=>
     simp only[quC,if_false]at hz
     cases hz
     simp[h1,hi,hy,hgy,hs,hin2, -Bool.forall_bool, -Bool.exists_bool]
     exact⟨rfl,by simp⟩
  ·rintro z hz
   rw[quU,qja]at hz
   cases hz
   simp[-Bool.forall_bool, -Bool.exists_bool]
   exact⟨rfl,by simp⟩
abbrev HX:Spc:=bj (a1 (List Rng)) (fun l=>Us l=true) (enc (X:=Bool)) fun _ y=>y=true
theorem D5:ar nI mJ S (a1 (List Rng)) (fun l=>Us l=true) (enc (X:=Bool)) fun _ y=>y=true:=by
 rintro l hl
 obtain⟨r,rfl⟩:∃r,l=[r]:=by
  match l,hl with
  | [r],_=>exact⟨r,rfl⟩
 simp[Us]at hl
 simp[nI,mJ, -Bool.forall_bool, -Bool.exists_bool]
 refine aj (X:=Unit) [0,5] [] 1 (fun _ _=>True) (fun _=>[]) (fun _=>[]) () (by simp) (by simp) (by omega) (by simp) (by simp) trivial (by simp) (by simp) ?_ ?_
 ·rintro k -hk -
  obtain rfl:k=0:=by omega
  have n1:¬r.fr.val < 0:=by omega
  have n2:¬r.to.val < r.fr.val:=by omega
  have n3:¬1114111 < r.to.val:=by omega
  simp[n1,n2,n3, -Bool.forall_bool, -Bool.exists_bool]
 ·rintro - -
  simp[-Bool.forall_bool, -Bool.exists_bool]
abbrev Er:Spc:=bj (a1 Rx) (fun x=>qjv x=true) (enc (X:=Bool)) fun _ y=>y=true
set_option maxHeartbeats 2000000 in
theorem Cf(h1:S jS=HX):ar dB dt S (a1 Rx) (fun x=>qjv x=true) (enc (X:=Bool)) fun _ y=>y=true:=by
 rintro⟨op,mn,mx,rs,ks⟩ hx
 have hx:qjv ⟨op,mn,mx,rs,ks⟩=true:=hx
 unfold qjv at hx
 simp only at hx
 split at hx
 ·rename_i e
  subst e
  simp at hx
  obtain⟨⟨⟨rfl,rfl⟩,rfl⟩,hs⟩:=hx
  simp[dB,dt,h1,hs, -Bool.forall_bool, -Bool.exists_bool]
  refine aj (X:=Unit) [1,3] [] 0 (fun _ _=>True) (fun _=>[]) (fun _=>[]) () (by simp) (by simp) (by omega) (by simp) (by simp) trivial (by simp) (by simp) (fun k x hk=>absurd hk (by omega)) (fun _ _=>?_)
  simp[h1,hs, -Bool.forall_bool, -Bool.exists_bool]
 split at hx
 ·rename_i e1 e
  subst e
  simp at hx
  obtain⟨⟨⟨⟨rfl,rfl⟩,rfl⟩,hl1,hl3⟩,hk2⟩:=hx
  have hlt:(ks.length:Int)<=9223372036854775807:=by omega
  simp[dB,dt,hlt, -Bool.forall_bool, -Bool.exists_bool]
  refine aj (X:=Unit) [1,3,34] [] ks.length (fun _ _=>True) (fun _=>[]) (fun _=>[]) () (by simp) (by simp) (by omega) (by simp) (by simp) trivial (by simp) (by simp) ?_ ?_
  ·rintro k -hk -
   obtain⟨y,hy⟩:=Fv hk
   obtain⟨_,hgy⟩:=qtV.1 hy
   have hop:=hk2 y (qtY hy)
   simp[hk,hy,hgy,hop, -Bool.forall_bool, -Bool.exists_bool]
  ·rintro - -
   have hl1':¬ (ks.length:Int)=1:=by omega
   simp[hl1,hl1', -Bool.forall_bool, -Bool.exists_bool]
 split at hx
 ·rename_i e1 e2 e
  subst e
  simp at hx
  obtain⟨⟨⟨⟨rfl,rfl⟩,rfl⟩,hl1,hl3⟩,hk2⟩:=hx
  have hlt:(ks.length:Int)<=9223372036854775807:=by omega
  simp[dB,dt,hlt, -Bool.forall_bool, -Bool.exists_bool]
  refine aj (X:=Unit) [1,3,34] [] ks.length (fun _ _=>True) (fun _=>[]) (fun _=>[]) () (by simp) (by simp) (by omega) (by simp) (by simp) trivial (by simp) (by simp) ?_ ?_
  ·rintro k -hk -
   obtain⟨y,hy⟩:=Fv hk
   obtain⟨_,hgy⟩:=qtV.1 hy
   have hop:=hk2 y (qtY hy)
   simp[hk,hy,hgy,hop, -Bool.forall_bool, -Bool.exists_bool]
  ·rintro - -
   have hl1':(1:Int) < ks.length:=by omega
   simp[hl1,hl1', -Bool.forall_bool, -Bool.exists_bool]
 split at hx
 ·rename_i e1 e2 e3 e
  subst e
  simp at hx
  obtain⟨⟨⟨g0,g1,g2⟩,rfl⟩,hl1⟩:=hx
  obtain⟨k0,rfl⟩:∃k,ks=[k]:=qvj.1 hl1
  simp[dB,dt, -Bool.forall_bool, -Bool.exists_bool]
  refine aj (X:=Unit) [1,3,34] [] 1 (fun _ _=>True) (fun _=>[]) (fun _=>[]) () (by simp) (by simp) (by omega) (by simp) (by simp) trivial (by simp) (by simp) ?_ ?_
  ·rintro k -hk -
   obtain rfl:k=0:=by omega
   simp[-Bool.forall_bool, -Bool.exists_bool]
  ·rintro - -
   simp[g0,g1, -Bool.forall_bool, -Bool.exists_bool]
   exact fun h=>⟨fun _=>by omega,by omega⟩
 ·cases hx
abbrev sr(n:Nat):Spc:=bj (a1 Rx) (fun x=>Wx n x=true) (enc (X:=Bool)) fun _ y=>y=true
theorem A2(n:Nat)(h1:S iR=Er)(h2:S dx=sr n):ar kO kF S (a1 Rx) (fun x=>Wx (n+1) x=true) (enc (X:=Bool)) fun _ y=>y=true:=by
 rintro x hx
 have hx:Wx (n+1) x=true:=hx
 simp only[Wx,qt2,qt0]at hx
 obtain⟨hx1,hx2⟩:=hx
 simp[kO,kF,h1,hx1, -Bool.forall_bool, -Bool.exists_bool]
 intro hkl
 refine aj (X:=Unit) [9] [] x.kids.length (fun _ _=>True) (fun _=>[]) (fun _=>[]) () (by simp) (by simp) (by omega) (by simp) (by simp) trivial (by simp) (by simp) ?_ ?_
 ·rintro k -hk -
  obtain⟨y,hy⟩:=Fv hk
  obtain⟨_,hgy⟩:=qtV.1 hy
  have hp:=hx2 y (qtY hy)
  simp[h2,hk,hy,hgy,hp, -Bool.forall_bool, -Bool.exists_bool]
 ·rintro - -
  simp[-Bool.forall_bool, -Bool.exists_bool]
abbrev H4(n:Nat):Spc:=bj (a1 Rx) (fun x=>∃m,Iw n x=some m) (enc (X:=Int)) fun x y=>Iw n x=some y
set_option maxHeartbeats 1000000 in
theorem Cg(n:Nat)(h1:S dU=H4 n):ar gN gw S (a1 Rx) (fun x=>∃m,Iw (n+1) x=some m) (enc (X:=Int)) fun x y=>Iw (n+1) x=some y:=by
 rintro x ⟨m,hm⟩
 have hm0:=hm
 simp only[Iw]at hm
 split at hm
 ·rename_i e
  cases hm
  simp[gN,gw,e,hm0, -Bool.forall_bool, -Bool.exists_bool]
 rename_i e1
 obtain⟨k,hk,hm⟩:=qtT.1 hm
 simp[gN,gw,e1, -Bool.forall_bool, -Bool.exists_bool]
 intro hkl
 refine aj (X:=Int) [1,10] [] x.kids.length (fun i z=>qjo (Iw n) (x.kids.drop i) z=some k) (fun z=>[(3,enc z)]) (fun _=>[]) 0 (by simp) (by simp) (by omega) (by simp) (by simp) hk (by simp) (by simp) ?_ ?_
 ·rintro i z hi hz
  obtain⟨y,hy⟩:=Fv hi
  obtain⟨_,hgy⟩:=qtV.1 hy
  rw[JE hy,qjo]at hz
  obtain⟨v,hv,hz⟩:=qtT.1 hz
  split at hz
  ·cases hz
  rename_i hr
  have hin:InR .i64 (z+v):=by simp only[InR];omega
  have hp:∃m,Iw n y=some m:=⟨v,hv⟩
  simp[h1,hi,hy,hgy,hv, -Bool.forall_bool, -Bool.exists_bool]
  exact⟨hin,hz⟩
 ·rintro z hz
  rw[quU,qjo]at hz
  cases hz
  split at hm
  ·rename_i e4
   cases hm
   simp[e4,hm0, -Bool.forall_bool, -Bool.exists_bool]
  ·rename_i e4
   have e4:x.op=4:=by omega
   unfold qjq at hm
   split at hm
   ·rename_i emx
    split at hm
    ·rename_i hb
     cases hm
     have hin:InR .i64 (k*max x.mn 1):=by simp only[InR];omega
     simp[e4,emx,hin,hm0, -Bool.forall_bool, -Bool.exists_bool]
    ·cases hm
   ·rename_i emx
    split at hm
    ·rename_i hb
     cases hm
     have hin:InR .i64 (k*x.mx):=by simp only[InR];omega
     simp[e4,emx,hin,hm0, -Bool.forall_bool, -Bool.exists_bool]
    ·cases hm
abbrev H3:Spc:=bj (a1 Rx) (fun x=>A8 50 x=true) (enc (X:=Int)) fun x y=>y=0
theorem D8(h1:S il=qey (qB 50))(h2:S dx=sr 50)(h3:S dU=H4 50):ar nL mM S (a1 Rx) (fun x=>A8 50 x=true) (enc (X:=Int)) fun x y=>y=0:=by
 rintro x hx
 have hx:A8 50 x=true:=hx
 simp only[A8,qt2]at hx
 obtain⟨⟨g1,g2⟩,g3⟩:=hx
 obtain⟨⟨t,k⟩,hs,rfl⟩:∃r,qB 50 x 1 0=some r/\r.1=true:=by
  cases h:qB 50 x 1 0 with
  | none=>rw[h]at g1;cases g1
  | some r=>rw[h]at g1;exact⟨r,rfl,g1⟩
 obtain⟨m,hm,hm64⟩:∃m,Iw 50 x=some m/\m<=64:=by
  cases h:Iw 50 x with
  | none=>rw[h]at g3;cases g3
  | some r=>rw[h]at g3;exact⟨r,rfl,of_decide_eq_true g3⟩
 have n64:¬64 < m:=by omega
 simp[nL,mM,h1,h2,h3,hs,g2,hm,n64, -Bool.forall_bool, -Bool.exists_bool]
 exact hm64
end Go.Gv

namespace Go.Gv
open Go.Proofs
def tb:CC:=by refine(fun(_:G.ap (G.gn Tryz.prog Tryz.f220 [2002002] {})=?c)=>?c) ?h;case h=>conv=>lhs; (conv=>arg 1;reduce);dsimp only[G.ap]
def sw:List ak:=[.cell 2 true 5, .tmp 3, .tmp 4]
theorem IA:aq Tryz.prog ip [2002002] tb sw 66:=ai mixed (by kernel_rfl)
def tz:CC:=by refine(fun(_:G.ap (G.gn Tryz.prog Tryz.f172 [] {})=?c)=>?c) ?h;case h=>conv=>lhs; (conv=>arg 1;reduce);dsimp only[G.ap]
def sQ:List ak:=[.tmp 2]
theorem IW:aq Tryz.prog qa [] tz sQ 13:=ai mixed (by kernel_rfl)
def nK:CC:=by refine(fun(_:G.ap (G.gn Tryz.prog Tryz.f319 [] {})=?c)=>?c) ?h;case h=>conv=>lhs; (conv=>arg 1;reduce);dsimp only[G.ap]
def mL:List ak:=[.tmp 4]
theorem C7:aq Tryz.prog jT [] nK mL 24:=ai mixed (by kernel_rfl)
end Go.Gv

namespace Go.Gv
open Cod (enc dec)
variable {S S0:Nat->Spc}
def qsI{Y Z W V:Type}[Cod Y][Cod Z][Cod W][Cod V](x:Y×Z×W×V):D:= .tup [enc x.1,enc x.2.1,enc x.2.2.1,enc x.2.2.2]
@[simp] theorem qsH{Y Z W V:Type}[Cod Y][Cod Z][Cod W][Cod V](y:Y)(z:Z)(w:W)(v:V):qsI (y,z,w,v)= .tup [enc y,enc z,enc w,enc v]:=id rfl
def qbZ(s:B)(i:Int):I32×Int×Int×Bool:=match s.data[i.toNat]? with
 | some c=>(⟨c.toNat⟩,i,1,true)
 | none=>(⟨0⟩,0,0,false)
abbrev s_cpAt:Spc:=bj (a2 B Int) (fun x=>x.1.size<=1000/\vt x.1=true/\0<=x.2/\x.2<=x.1.size) (qsI (Y:=I32) (Z:=Int) (W:=Int) (V:=Bool)) fun x y=>y=qbZ x.1 x.2
theorem qbd{s:B}(h:vt s=true){k:Nat}{c:UInt8}(hc:s.data[k]? =some c):c.toNat < 128:=by
 have:=qt0.1 h c (by rw[<-quq]at hc;exact qtY hc)
 exact of_decide_eq_true this
abbrev vG:Spc:=bj (a1 B) (fun s=>∃r,qP s=some r) (qeR (Y:=Rx) (Z:=Int) (W:=Int)) fun s y=>qP s=some y.1/\y.2=(0,0)
set_option maxHeartbeats 2000000 in
theorem Kg(h1:S sW=s_cpAt)(h2:S fm=R7)(h3:S eq=H3):ar tb sw S (a1 B) (fun s=>∃r,qP s=some r) (qeR (Y:=Rx) (Z:=Int) (W:=Int)) fun s y=>qP s=some y.1/\y.2=(0,0):=by
 rintro s ⟨r,hr⟩
 have hr0:=hr
 unfold qP at hr
 split at hr
 rotate_left
 ·cases hr
 rename_i hs
 obtain⟨hsz,hasc⟩:=hs
 obtain⟨⟨p,x,ok⟩,hu,hr⟩:=qtT.1 hr
 split at hr
 rotate_left
 ·cases hr
 rename_i hv
 obtain⟨rfl,hpos,hval⟩:=hv
 cases hr
 have n200:¬ (200:Int) < s.size:=by omega
 have hs10:s.size<=1000:=by omega
 simp[tb,sw,n200, -Bool.forall_bool, -Bool.exists_bool]
 intro b2 hsz2
 refine av (X:=Nat) [0,2] [2] (fun i=>i<=s.size) (fun i=>[(5,enc (i:Int))]) (fun _=>[]) (fun i=>s.size -i) 0 (qul _) (by simp) (by simp) ?_
 rintro i hi
 by_cases hlt:i < s.size
 ·obtain⟨c,hc⟩:∃c,s.data[i]? =some c:=⟨s.data[i]'hlt,quX hlt⟩
  have h128:=qbd hasc hc
  have hat:qbZ s (i:Int)=((⟨(c.toNat:Int)⟩:I32),(i:Int),(1:Int),true):=by simp[qbZ,hc]
  have hff:¬ ((c.toNat:Int)=65533):=by omega
  simp[h1,hs10,hasc,hat,hff,hi, -Bool.forall_bool, -Bool.exists_bool]
  exact⟨by simp only[InR];omega,i+1,by omega,by omega,by omega⟩
 ·obtain rfl:i=s.size:=by omega
  have hat:qbZ s (s.size:Int)=(⟨0⟩,0,0,false):=by
   have:s.data[s.size]? =none:=qvk (qt4 _)
   simp[qbZ,this]
  simp only at hpos hval
  have npos:¬p.pos < s.size:=by omega
  simp[h1,h2,h3,hs10,hasc,hat,hu,hpos,hval,npos, -Bool.forall_bool, -Bool.exists_bool]
  exact fun b _=>⟨x, .same _,hr0⟩
abbrev qcG:Spc:=bj (a1 B) (fun s=>∃r,qP s=some r) (enc (X:=Int)) fun _ y=>y=0
theorem Kw(h1:S ip=vG):ar tz sQ S (a1 B) (fun s=>∃r,qP s=some r) (enc (X:=Int)) fun _ y=>y=0:=by
 rintro s ⟨r,hr⟩
 simp[tz,sQ,h1,hr, -Bool.forall_bool, -Bool.exists_bool]
abbrev qcF:Spc:=bj (a2 (List Rng) I32) (fun _=>True) (enc (X:=Bool)) fun x y=>y=N2 x.1 x.2.val
theorem D7:ar nK mL S (a2 (List Rng) I32) (fun _=>True) (enc (X:=Bool)) fun x y=>y=N2 x.1 x.2.val:=by
 rintro⟨l,⟨c⟩⟩ -
 simp[nK,mL, -Bool.forall_bool, -Bool.exists_bool]
 intro hkl
 refine aj (X:=Unit) [1,7] [] l.length (fun k _=>N2 (l.take k) c=false) (fun _=>[]) (fun _=>[]) () (by simp) (by simp) (by omega) (by simp) (by simp) rfl (by simp) (by simp) ?_ ?_
 ·rintro k -hk hP
  obtain⟨y,hy⟩:=Fv hk
  obtain⟨_,hgy⟩:=qtV.1 hy
  have hstep:N2 (l.take (k+1)) c=(decide (y.fr.val<=c) && decide (c<=y.to.val)):=by
   have:l.take (k+1)=l.take k++ [y]:=by rw[qvV,hy];rfl
   unfold N2 at hP ⊢
   rw[this,List.any_append,hP]
   simp
  by_cases h1:y.fr.val<=c/\c<=y.to.val
  ·obtain⟨h1,h2⟩:=h1
   have hres:N2 l c=true:=by
    refine qva.2 ⟨y,qtY hy,by simp[h1,h2]⟩
   simp[hk,hy,hgy,h1,h2,hres, -Bool.forall_bool, -Bool.exists_bool]
  ·have hres:N2 (l.take (k+1)) c=false:=by
    rw[hstep]
    simp
    omega
   by_cases h2:y.fr.val<=c
   ·have h3:¬c<=y.to.val:=fun e=>h1 ⟨h2,e⟩
    simp[hk,hy,hgy,h2,h3,hres, -Bool.forall_bool, -Bool.exists_bool]
   ·simp[hk,hy,hgy,h2,hres, -Bool.forall_bool, -Bool.exists_bool]
 ·rintro -hP
  rw[quy]at hP
  simp[hP, -Bool.forall_bool, -Bool.exists_bool]
end Go.Gv

namespace Go.Gv
open Go.Proofs
def oa:CC:=by refine(fun(_:G.ap (G.gn Tryz.prog Tryz.f262 [] {})=?c)=>?c) ?h;case h=>conv=>lhs; (conv=>arg 1;reduce);dsimp only[G.ap]
def nb:List ak:=[.tmp 6]
theorem IV:aq Tryz.prog pY [] oa nb 25:=ai mixed (by kernel_rfl)
def mc:CC:=by refine(fun(_:G.ap (G.gn Tryz.prog Tryz.f227 [9,8,7,6,5] { cu:=[1] })=?c)=>?c) ?h;case h=>conv=>lhs; (conv=>arg 1;reduce);dsimp only[G.ap]
def lM:List ak:=[.tmp 10]
theorem BG:aq Tryz.prog dV [9,8,7,6,5] mc lM 102:=ai mixed (by kernel_rfl)
def jK:CC:=by refine(fun(_:G.ap (G.gn Tryz.prog Tryz.f261 [5] {})=?c)=>?c) ?h;case h=>conv=>lhs; (conv=>arg 1;reduce);dsimp only[G.ap]
def ju:List ak:=[.tmp 6]
theorem zA:aq Tryz.prog au [5] jK ju 13:=ai mixed (by kernel_rfl)
def jJ:CC:=by refine(fun(_:G.ap (G.gn Tryz.prog Tryz.f267 [2] {})=?c)=>?c) ?h;case h=>conv=>lhs; (conv=>arg 1;reduce);dsimp only[G.ap]
def jt:List ak:=[.tmp 3]
theorem zz:aq Tryz.prog bh [2] jJ jt 8:=ai mixed (by kernel_rfl)
end Go.Gv

namespace Go.Gv
open Cod (enc dec)
variable {S S0:Nat->Spc}
def BQ(v s:B)(f:Bool):Option Bool:=(qP v).bind fun x=>BO x s f
def qbH(x:B×B×Bool):Prop:=∃y,BQ x.1 x.2.1 x.2.2=some y
def qe3(x:B×B×Bool)(y:Bool):Prop:=BQ x.1 x.2.1 x.2.2=some y
abbrev M1:Spc:=bj (a3 B B Bool) qbH (enc (X:=Bool)) qe3
theorem Kv(h1:S ip=vG)(h2:S pJ=Lp false)(h3:S iS=Lp true):ar oa nb S (a3 B B Bool) qbH (enc (X:=Bool)) qe3:=by
 rintro⟨v,s,f⟩ ⟨y,hy⟩
 have hy:BQ v s f=some y:=hy
 obtain⟨x,hx,hm⟩:=qtT.1 hy
 cases f
 ·have hp:Ri false (x,s):=⟨y,hm⟩
  simp[oa,nb,h1,h2,hx,hp, -Bool.forall_bool, -Bool.exists_bool]
  exact fun z hz=>by show(qP v).bind _=_;rw[hx];exact hz
 ·have hp:Ri true (x,s):=⟨y,hm⟩
  simp[oa,nb,h1,h3,hx,hp, -Bool.forall_bool, -Bool.exists_bool]
  exact fun z hz=>by show(qP v).bind _=_;rw[hx];exact hz
end Go.Gv

namespace Go.Gv
open Cod (enc dec)
variable {S S0:Nat->Spc}
def featS:List B:=[⟨#[124]⟩,⟨#[124,112,124]⟩,⟨#[124,112,124,113,124]⟩,⟨#[124,113,124]⟩]
def NN(s v:B):Option Bool:=if(featS.any fun z=>decide (z=s))=true/\(v=⟨#[112]⟩\/v=⟨#[113]⟩)then some (s.data.toList.any fun c=>decide (v.data.toList=[c]))else none
structure OA where
 c:Corpus
 tok:Int
 lb:List B
 bd:List Int
def xc(E:OA):Nat->Cond->Option Bool
 | 0=>fun _=>none
 | n+1=>fun x=>
   if x.op=1 then some true else
   if x.op=2 then BQ x.val (tI E.c.toks E.tok (xg E.c.attrs x.name)) x.fold else
   if x.op=3 then NN (tI E.c.toks E.tok (mE E.c.attrs x.name)) x.val else
   if x.op=4 then(if gi E.lb (fun z=>decide (z=x.lab)) < 0 then none else match E.bd[(gi E.lb fun z=>decide (z=x.lab)).toNat]? with
    | some o=>some (decide (0<=o) && decide (tI E.c.toks E.tok (mE E.c.attrs x.name)=tI E.c.toks o (mE E.c.attrs x.arg)))
    | none=>none)else
   if x.op=5 then some (E.c.regs.any (Ir x E.tok))else
   if x.op=6 then(match x.kids with|k::_=>(xc E n k).map not|[]=>none)else
   if(x.kids.all fun k=>(xc E n k).isSome)=true then
    (if x.op=7 then some (!(x.kids.any fun k=>!((xc E n k).getD false)))else some (x.kids.any fun k=>(xc E n k).getD false))
   else none
def qhP(c:Corpus):Prop:=c.toks.length<=100000/\(∀r∈c.toks,r.length<=100000)/\c.attrs.length<=1000
abbrev HZ:=Corpus×Cond×Int×List B×List Int
def qdM(z:HZ):OA:=⟨z.1,z.2.2.1,z.2.2.2.1,z.2.2.2.2⟩
def qek(n:Nat)(z:HZ):Prop:=qhP z.1/\∃y,xc (qdM z) n z.2.1=some y
def qht(n:Nat)(z:HZ)(y:Bool):Prop:=xc (qdM z) n z.2.1=some y
abbrev aH:df HZ:=aE Corpus (a4 Cond Int (List B) (List Int))
abbrev yV(n:Nat):Spc:=bj aH (qek n) (enc (X:=Bool)) (qht n)
def qbY(c:Corpus):List D:=[.list 2 (c.attrs.map enc), .list 1 (c.toks.map enc), .list 4 (c.texts.map enc), .list 4 (c.regs.map enc), .list 4 (c.nodes.map enc), .list 1 (c.heads.map enc), .list 1 (c.rels.map enc)]
theorem U9(c:Corpus): .agg (qbY c)=enc c:=by simp[qbY]
theorem qdW{x y:Corpus}(h:qbY x=qbY y):x=y:=aL (by rw[<-U9,<-U9,h])
def qaU(z:HZ):List D:=[.cptr (qbY z.1) 0, .cptr [enc z.2.2.1] 0, .cptr [enc z.2.2.2.1] 0, .cptr [enc z.2.2.2.2] 0]
def qbW(z:HZ):List D:=enc z.2.1::qaU z
def qhN(z:HZ):List D:=[enc z.2.1, .cptr [.clo au (qaU z)] 0]
theorem GV(z z':HZ)(h:qbW z=qbW z'):z=z':=by
 obtain⟨a,b,c,d,e⟩:=z
 obtain⟨a',b',c',d',e'⟩:=z'
 unfold qbW qaU at h
 simp only[quk,D.cptr.injEq,and_true]at h
 rw[aL h.1,qdW h.2.1,aL h.2.2.1,aL h.2.2.2.1,aL h.2.2.2.2]
theorem Ug(z z':HZ)(h:qhN z=qhN z'):z=z':=by
 unfold qhN at h
 simp only[quk,D.cptr.injEq,D.clo.injEq,and_true,true_and]at h
 refine GV z z' ?_
 unfold qbW
 rw[h.1,h.2]
noncomputable abbrev aH1:df HZ:=aX qbW GV
noncomputable abbrev qs7:df HZ:=aX qhN Ug
noncomputable abbrev Gk(n:Nat):Spc:=bj aH1 (qek n) (enc (X:=Bool)) (qht n)
noncomputable abbrev Pq(n:Nat):Spc:=bj qs7 (qek n) (enc (X:=Bool)) fun z y=>∃b,xc (qdM z) n z.2.1=some b/\y=!b
theorem VN(n:Nat)(h1:S dV=yV n):ar jK ju S aH1 (qek n) (enc (X:=Bool)) (qht n):=by
 rintro z hz
 rw[Au]
 obtain⟨c,x,tok,lb,bd⟩:=z
 simp[qbW,qaU,qbY,jK,ju,h1,hz, -Bool.forall_bool, -Bool.exists_bool]
@[simp] theorem qol(c:Corpus)(x:Cond)(tok:Int)(lb:List B)(bd:List Int):aH1.dec [.agg [.v (.int .i64 x.op), .v (.string x.name), .v (.string x.arg), .v (.string x.val), .v (.string x.lab), .v (.bool x.fold), .list 7 (x.kids.map enc)], .cptr [.list 2 (c.attrs.map enc), .list 1 (c.toks.map enc), .list 4 (c.texts.map enc), .list 4 (c.regs.map enc), .list 4 (c.nodes.map enc), .list 1 (c.heads.map enc), .list 1 (c.rels.map enc)] 0, .cptr [.v (.int .i64 tok)] 0, .cptr [.list 1 (lb.map enc)] 0, .cptr [.list 1 (bd.map enc)] 0]=some (c,x,tok,lb,bd):=by
 have h:=B8 qbW GV (c,x,tok,lb,bd)
 have e:qbW (c,x,tok,lb,bd)=[.agg [.v (.int .i64 x.op), .v (.string x.name), .v (.string x.arg), .v (.string x.val), .v (.string x.lab), .v (.bool x.fold), .list 7 (x.kids.map enc)], .cptr [.list 2 (c.attrs.map enc), .list 1 (c.toks.map enc), .list 4 (c.texts.map enc), .list 4 (c.regs.map enc), .list 4 (c.nodes.map enc), .list 1 (c.heads.map enc), .list 1 (c.rels.map enc)] 0, .cptr [.v (.int .i64 tok)] 0, .cptr [.list 1 (lb.map enc)] 0, .cptr [.list 1 (bd.map enc)] 0]:=by simp[qbW,qaU,qbY]
 rw[<-e]
 exact h
theorem VM(n:Nat)(h1:S au=Gk n):ar jJ jt S qs7 (qek n) (enc (X:=Bool)) fun z y=>∃b,xc (qdM z) n z.2.1=some b/\y=!b:=by
 rintro z hz
 rw[Au]
 obtain⟨c,x,tok,lb,bd⟩:=z
 simp[qhN,qaU,qbY,jJ,jt,h1,hz, -Bool.forall_bool, -Bool.exists_bool]
 exact fun y hy=>hy
abbrev Sx:Spc:=bj (a2 B B) (fun x=>∃b,NN x.1 x.2=some b) (enc (X:=Bool)) fun x y=>NN x.1 x.2=some y
set_option maxHeartbeats 4000000 in
theorem qcg(n:Nat)(h0:S0 au=Gk n)(h0':S0 bh=Pq n)(h1:S au=Gk n)(h2:S cZ=Na Cond S0)(h3:S dW=yW)(h4:S jh=Ig)(h5:S pY=M1)(h6:S aN=ru)(h7:S pX=Sx)(h8:S aM=wu)(h9:S gI=Sz):
 ar mc lM S aH (qek (n+1)) (enc (X:=Bool)) (qht (n+1)):=by
 rintro⟨c,x,tok,lb,bd⟩ ⟨⟨z1,z2,z3⟩,y,hy⟩
 simp only at z1 z2 z3
 have hy0:xc ⟨c,tok,lb,bd⟩ (n+1) x=some y:=hy
 have hQ:∀w,w=y->qht (n+1) (c,x,tok,lb,bd) w:=fun w e=>by subst e;exact hy
 clear hy
 obtain⟨op,name,arg,val,lab,fold,ks⟩:=x
 unfold xc at hy0
 simp only at hy0
 have hval:∀i k:Int,qhP c:=fun _ _=>⟨z1,z2,z3⟩
 simp[mc,lM, -Bool.forall_bool, -Bool.exists_bool]
 refine jN (X:=Unit) [5,6,7,8,9] [] [11] [] (fun _=>True) (fun _=>[(11, .cptr [.clo au (qaU (c,⟨op,name,arg,val,lab,fold,ks⟩,tok,lb,bd))] 0)]) (fun _=>[]) [] (fun _=>rfl) (by decide) ?_ ?_
 ·simp[qaU,qbY]
  exact fun b=> .box rfl
 rintro - -
 simp only[qaU,qbY]
 split at hy0
 ·rename_i e;subst e
  obtain rfl:=qua hy0
  simp[-Bool.forall_bool, -Bool.exists_bool]
  exact hQ _ rfl
 rename_i e1
 split at hy0
 ·rename_i e;subst e
  have hM:qbH (val,tI c.toks tok (xg c.attrs name),fold):=⟨y,hy0⟩
  simp[h3,h4,h5,z1,z2,z3,hM, -Bool.forall_bool, -Bool.exists_bool]
  refine⟨z2,fun w hw=>hQ _ (qua (hw.symm.trans hy0))⟩
 rename_i e2
 split at hy0
 ·rename_i e;subst e
  have hM:∃b,NN (tI c.toks tok (mE c.attrs name)) val=some b:=⟨y,hy0⟩
  simp[h6,h4,h7,z1,z2,z3,hM, -Bool.forall_bool, -Bool.exists_bool]
  refine⟨z2,fun w hw=>hQ _ (qua (hw.symm.trans hy0))⟩
 rename_i e3
 split at hy0
 ·rename_i e;subst e
  split at hy0
  ·cases hy0
  rename_i hj
  obtain⟨j,hjj⟩:∃j,j=gi lb fun z=>decide (z=lab):=⟨_,rfl⟩
  rw[<-hjj]at hj hy0
  cases ho:bd[j.toNat]? with
  | none=>rw[ho]at hy0;cases hy0
  | some o=>
  rw[ho]at hy0
  have hy1:(decide (0<=o) && decide (tI c.toks tok (mE c.attrs name)=tI c.toks o (mE c.attrs arg)))=y:=qua hy0
  have j0:0<=j:=by omega
  obtain⟨hjl,hgo⟩:=qtV.1 ho
  have j1:j < (bd.length:Int):=by omega
  by_cases h0o:0<=o
  ·simp[h8,<-hjj,j0,j1,ho,hgo,h0o,h6,h4,z1,z2,z3, -Bool.forall_bool, -Bool.exists_bool]
   exact⟨⟨z2,hQ _ (by rw[<-hy1];simp[h0o])⟩,fun h=>by omega⟩
  ·simp[h8,<-hjj,j0,j1,ho,hgo,h0o, -Bool.forall_bool, -Bool.exists_bool]
   exact fun _=>hQ _ (by rw[<-hy1];simp[h0o])
 rename_i e4
 split at hy0
 ·rename_i e;subst e
  have hy1:=qua hy0
  simp[h9, -Bool.forall_bool, -Bool.exists_bool]
  exact hQ _ hy1
 rename_i e5
 split at hy0
 ·rename_i e;subst e
  split at hy0
  ·rename_i k ks'
   obtain⟨b,hb,rfl⟩:=qt6.1 hy0
   have hp:qek n (c,k,tok,lb,bd):=⟨⟨z1,z2,z3⟩,b,hb⟩
   simp[h1,hp, -Bool.forall_bool, -Bool.exists_bool]
   intro w hw
   have hw:xc ⟨c,tok,lb,bd⟩ n k=some w:=hw
   rw[hb]at hw
   cases hw
   exact hQ _ rfl
  ·cases hy0
 rename_i e6
 split at hy0
 rotate_left
 ·cases hy0
 rename_i hall
 have hal:∀k∈ks,∃b,xc ⟨c,tok,lb,bd⟩ n k=some b:=fun k hk=>quY.1 (qt0.1 hall k hk)
 have hf2:FunOn S0 (.clo bh [.cptr [.clo au (qaU (c,⟨op,name,arg,val,lab,fold,ks⟩,tok,lb,bd))] 0]) ks fun k=>!((xc ⟨c,tok,lb,bd⟩ n k).getD false):=
  vV (f:=fun k=>(c,k,tok,lb,bd)) h0' (fun k _=>B8 qhN Ug (c,k,tok,lb,bd)) (fun k hk=>⟨⟨z1,z2,z3⟩,hal k hk⟩) (fun k hk y hy=>by
   obtain⟨b,h1,h2⟩:=hy
   have h1:xc ⟨c,tok,lb,bd⟩ n k=some b:=h1
   rw[h2,h1];rfl)
 have hf1:FunOn S0 (.clo au (qaU (c,⟨op,name,arg,val,lab,fold,ks⟩,tok,lb,bd))) ks fun k=>(xc ⟨c,tok,lb,bd⟩ n k).getD false:=
  vV (f:=fun k=>(c,k,tok,lb,bd)) h0 (fun k _=>B8 qbW GV (c,k,tok,lb,bd)) (fun k hk=>⟨⟨z1,z2,z3⟩,hal k hk⟩) (fun k hk y hy=>by
   have h1:xc ⟨c,tok,lb,bd⟩ n k=some y:=hy
   rw[h1];rfl)
 split at hy0
 ·rename_i e;subst e
  have hy1:=qua hy0
  simp[h2, -Bool.forall_bool, -Bool.exists_bool]
  exact⟨⟨_,hf2⟩,fun w hw=>hQ _ (by rw[hw _ hf2];exact hy1)⟩
 ·rename_i e7
  have hy1:=qua hy0
  simp[h2,e1,e2,e3,e4,e5,e6,e7, -Bool.forall_bool, -Bool.exists_bool]
  exact⟨⟨_,hf1⟩,fun w hw=>hQ _ (by rw[hw _ hf1];exact hy1)⟩
end Go.Gv

namespace Go.Gv
open Cod (enc dec)
variable {S S0:Nat->Spc}
def UQ(s:B):List B:=if s=⟨#[124,112,124]⟩then[⟨#[112]⟩]else if s=⟨#[124,112,124,113,124]⟩then[⟨#[112]⟩,⟨#[113]⟩]else if s=⟨#[124,113,124]⟩then[⟨#[113]⟩]else[]
abbrev H8:Spc:=bj (a1 B) (fun s=>s∈featS) (ro (Y:=List B) (Z:=Int)) fun s y=>y=(UQ s,0)
set_option maxHeartbeats 1000000 in
theorem OR(h1:S bG=yR):vc S cv (sR cp fun r H'=>Fin (ro (Y:=List B) (Z:=Int)) (fun y=>y=([⟨#[112]⟩],0)) r H') (dj ((a1 B).view (⟨#[124,112,124]⟩:B))) bY:=by
 have hv:zB ⟨#[124,112,124]⟩=true:=by decide
 have hsz:(⟨#[124,112,124]⟩:B).size=3:=rfl
 have x1:((⟨#[124,112,124]⟩:B).extract 1 2)=⟨#[112]⟩:=by decide
 simp[cv,cp,h1,hv,hsz, -Bool.forall_bool, -Bool.exists_bool]
 refine⟨by simp[InR],?_⟩
 refine av (X:=Int×Int×Value×List B) [0] [] (fun z=>z.1=1/\z.2.1=1/\z.2.2.2=([]:List B)\/z.1=1/\z.2.1=2/\z.2.2.2=([]:List B)\/z.1=3/\z.2.1=3/\z.2.2.2=([⟨#[112]⟩]:List B)) (fun z=>[(5, .own 51 z.2.2.1),(6,enc z.1),(7,enc z.2.1)]) (fun z=>[(51, .row z.2.2.1 az 1 (z.2.2.2.map enc))]) (fun z=>(3 -z.2.1).toNat) (1,1, .slice none 0 0, []) (by simp) (by simp) (by simp[isNilRow]) ?_
 rintro⟨f,i,v,l⟩ hz
 simp only at hz
 rcases hz with⟨rfl,rfl,rfl⟩|⟨rfl,rfl,rfl⟩|⟨rfl,rfl,rfl⟩
 ·simp[hsz,x1, -Bool.forall_bool, -Bool.exists_bool]
  exact⟨by simp[InR],1,2,v, [],by simp,⟨⟨rfl,rfl,rfl⟩, .inl ⟨rfl,rfl⟩⟩,by omega⟩
 ·simp[hsz,x1, -Bool.forall_bool, -Bool.exists_bool]
  exact fun v=>⟨by simp[InR],3,3,v, [⟨#[112]⟩],by simp,⟨⟨rfl,rfl,rfl⟩, .inl ⟨rfl,rfl⟩⟩,by omega⟩
 ·simp[hsz, -Bool.forall_bool, -Bool.exists_bool]
  refine av (X:=Int) [5] [51] (fun i=>i=1) (fun i=>[(8,enc i)]) (fun _=>[]) (fun i=>(3 -i).toNat) 1 (by simp) (by simp) (by simp) ?_
  rintro i hi
  subst hi
  simp[-Bool.forall_bool, -Bool.exists_bool]
  exact jj (l:=([⟨#[112]⟩]:List B)) az rfl
set_option maxHeartbeats 1000000 in
theorem Ks(h1:S bG=yR):vc S cv (sR cp fun r H'=>Fin (ro (Y:=List B) (Z:=Int)) (fun y=>y=([⟨#[112]⟩,⟨#[113]⟩],0)) r H') (dj ((a1 B).view (⟨#[124,112,124,113,124]⟩:B))) bY:=by
 have hv:zB ⟨#[124,112,124,113,124]⟩=true:=by decide
 have hsz:(⟨#[124,112,124,113,124]⟩:B).size=5:=rfl
 have x1:((⟨#[124,112,124,113,124]⟩:B).extract 1 2)=⟨#[112]⟩:=by decide
 have x3:((⟨#[124,112,124,113,124]⟩:B).extract 3 4)=⟨#[113]⟩:=by decide
 simp[cv,cp,h1,hv,hsz, -Bool.forall_bool, -Bool.exists_bool]
 refine⟨by simp[InR],?_⟩
 refine av (X:=Int×Int×Value×List B) [0] [] (fun z=>z.1=1/\z.2.1=1/\z.2.2.2=([]:List B)\/z.1=1/\z.2.1=2/\z.2.2.2=([]:List B)\/z.1=3/\z.2.1=3/\z.2.2.2=([⟨#[112]⟩]:List B)\/z.1=3/\z.2.1=4/\z.2.2.2=([⟨#[112]⟩]:List B)\/z.1=5/\z.2.1=5/\z.2.2.2=([⟨#[112]⟩,⟨#[113]⟩]:List B)) (fun z=>[(5, .own 51 z.2.2.1),(6,enc z.1),(7,enc z.2.1)]) (fun z=>[(51, .row z.2.2.1 az 1 (z.2.2.2.map enc))]) (fun z=>(5 -z.2.1).toNat) (1,1, .slice none 0 0, []) (by simp) (by simp) (by simp[isNilRow]) ?_
 rintro⟨f,i,v,l⟩ hz
 simp only at hz
 rcases hz with⟨rfl,rfl,rfl⟩|⟨rfl,rfl,rfl⟩|⟨rfl,rfl,rfl⟩|⟨rfl,rfl,rfl⟩|⟨rfl,rfl,rfl⟩
 ·simp[hsz,x1,x3, -Bool.forall_bool, -Bool.exists_bool]
  exact⟨by simp[InR],1,2,v, [],by simp,⟨⟨rfl,rfl,rfl⟩, .inl ⟨rfl,rfl⟩⟩,by omega⟩
 ·simp[hsz,x1,x3, -Bool.forall_bool, -Bool.exists_bool]
  exact fun v=>⟨by simp[InR],3,3,v, [⟨#[112]⟩],by simp,⟨⟨rfl,rfl,rfl⟩, .inl ⟨rfl,rfl⟩⟩,by omega⟩
 ·simp[hsz,x1,x3, -Bool.forall_bool, -Bool.exists_bool]
  exact⟨by simp[InR],3,4,v, [⟨#[112]⟩],by simp,⟨⟨rfl,rfl,rfl⟩, .inl ⟨rfl,rfl⟩⟩,by omega⟩
 ·simp[hsz,x1,x3, -Bool.forall_bool, -Bool.exists_bool]
  exact fun v=>⟨by simp[InR],5,5,v, [⟨#[112]⟩,⟨#[113]⟩],by simp,⟨⟨rfl,rfl,rfl⟩, .inl ⟨rfl,rfl⟩⟩,by omega⟩
 ·simp[hsz, -Bool.forall_bool, -Bool.exists_bool]
  refine av (X:=Int) [5] [51] (fun i=>i=1\/i=2) (fun i=>[(8,enc i)]) (fun _=>[]) (fun i=>(3 -i).toNat) 1 (by simp) (by simp) (by simp) ?_
  rintro i hi
  rcases hi with rfl|rfl
  ·simp[-Bool.forall_bool, -Bool.exists_bool]
   exact⟨by simp[InR],by decide,fun _=>by simp[InR]⟩
  ·simp[-Bool.forall_bool, -Bool.exists_bool]
   exact jj (l:=([⟨#[112]⟩,⟨#[113]⟩]:List B)) az rfl
set_option maxHeartbeats 1000000 in
theorem OQ(h1:S bG=yR):vc S cv (sR cp fun r H'=>Fin (ro (Y:=List B) (Z:=Int)) (fun y=>y=([⟨#[113]⟩],0)) r H') (dj ((a1 B).view (⟨#[124,113,124]⟩:B))) bY:=by
 have hv:zB ⟨#[124,113,124]⟩=true:=by decide
 have hsz:(⟨#[124,113,124]⟩:B).size=3:=rfl
 have x1:((⟨#[124,113,124]⟩:B).extract 1 2)=⟨#[113]⟩:=by decide
 simp[cv,cp,h1,hv,hsz, -Bool.forall_bool, -Bool.exists_bool]
 refine⟨by simp[InR],?_⟩
 refine av (X:=Int×Int×Value×List B) [0] [] (fun z=>z.1=1/\z.2.1=1/\z.2.2.2=([]:List B)\/z.1=1/\z.2.1=2/\z.2.2.2=([]:List B)\/z.1=3/\z.2.1=3/\z.2.2.2=([⟨#[113]⟩]:List B)) (fun z=>[(5, .own 51 z.2.2.1),(6,enc z.1),(7,enc z.2.1)]) (fun z=>[(51, .row z.2.2.1 az 1 (z.2.2.2.map enc))]) (fun z=>(3 -z.2.1).toNat) (1,1, .slice none 0 0, []) (by simp) (by simp) (by simp[isNilRow]) ?_
 rintro⟨f,i,v,l⟩ hz
 simp only at hz
 rcases hz with⟨rfl,rfl,rfl⟩|⟨rfl,rfl,rfl⟩|⟨rfl,rfl,rfl⟩
 ·simp[hsz,x1, -Bool.forall_bool, -Bool.exists_bool]
  exact⟨by simp[InR],1,2,v, [],by simp,⟨⟨rfl,rfl,rfl⟩, .inl ⟨rfl,rfl⟩⟩,by omega⟩
 ·simp[hsz,x1, -Bool.forall_bool, -Bool.exists_bool]
  exact fun v=>⟨by simp[InR],3,3,v, [⟨#[113]⟩],by simp,⟨⟨rfl,rfl,rfl⟩, .inl ⟨rfl,rfl⟩⟩,by omega⟩
 ·simp[hsz, -Bool.forall_bool, -Bool.exists_bool]
  refine av (X:=Int) [5] [51] (fun i=>i=1) (fun i=>[(8,enc i)]) (fun _=>[]) (fun i=>(3 -i).toNat) 1 (by simp) (by simp) (by simp) ?_
  rintro i hi
  subst hi
  simp[-Bool.forall_bool, -Bool.exists_bool]
  exact jj (l:=([⟨#[113]⟩]:List B)) az rfl
theorem Gc(h1:S bG=yR):ar cv cp S (a1 B) (fun s=>s∈featS) (ro (Y:=List B) (Z:=Int)) fun s y=>y=(UQ s,0):=by
 rintro s hs
 have hs:s∈featS:=hs
 simp only[featS,qt1,qus,or_false]at hs
 rcases hs with rfl|rfl|rfl|rfl
 ·have hv:zB ⟨#[124]⟩=true:=by decide
  have e:UQ ⟨#[124]⟩=[]:=by decide
  simp[cv,cp,h1,hv,e, -Bool.forall_bool, -Bool.exists_bool]
 ·exact OR h1
 ·exact Ks h1
 ·exact OQ h1
abbrev Sy:Spc:=bj (a2 (List B) B) (fun _=>True) (enc (X:=Bool)) fun x y=>y=sU x.1 x.2
theorem A4:ar kU kJ S (a2 (List B) B) (fun _=>True) (enc (X:=Bool)) fun x y=>y=sU x.1 x.2:=by
 rintro⟨l,s⟩ -
 simp[kU,kJ, -Bool.forall_bool, -Bool.exists_bool]
 intro hl
 refine aj (X:=Unit) [1,7] [] l.length (fun k _=>∀x∈l.take k,decide (x=s)=false) (fun _=>[]) (fun _=>[]) () (by simp) (by simp) (by omega) (by simp) (by simp) (by simp) (by simp) (by simp) ?_ ?_
 ·intro k _ hk hP
  obtain⟨x,hx⟩:=xM hk
  obtain⟨_,hgx⟩:=qtV.1 hx
  simp[hk,hx,hgx, -Bool.forall_bool, -Bool.exists_bool]
  refine⟨fun h=>?_,fun h=>?_⟩
  ·have:sU l s=true:=qva.2 ⟨x,qtY hx,by simp[h]⟩
   exact this
  ·rw[bJ hx]
   intro z hz
   rcases qtZ.1 hz with hz|hz
   ·have:=hP z hz
    simpa using this
   ·simp at hz;subst hz
    exact h
 ·intro _ hP
  rw[quy]at hP
  simp[-Bool.forall_bool, -Bool.exists_bool]
  have:sU l s=false:=by
   rw[sU,List.any_eq_false]
   intro x hx
   rw[hP x hx]
   simp
  exact this
theorem Ku(h1:S lu=H8)(h2:S gH=Sy):ar tw sP S (a2 B B) (fun x=>∃b,NN x.1 x.2=some b) (enc (X:=Bool)) fun x y=>NN x.1 x.2=some y:=by
 rintro⟨s,f⟩ ⟨b,hb⟩
 have hb:NN s f=some b:=hb
 have hb0:=hb
 unfold NN at hb
 split at hb
 rotate_left
 ·cases hb
 rename_i hc
 obtain⟨c1,c2⟩:=hc
 obtain⟨z,hz,hze⟩:=qva.1 c1
 obtain rfl:z=s:=of_decide_eq_true hze
 have e:sU (UQ z) f=b:=by
  have hb:=qua hb
  rw[<-hb]
  simp only[featS,qt1,qus,or_false]at hz
  rcases hz with rfl|rfl|rfl|rfl <;> rcases c2 with rfl|rfl <;> decide
 simp[tw,sP,h1,h2,hz,e, -Bool.forall_bool, -Bool.exists_bool]
 exact hb0
end Go.Gv

namespace Go.Gv
section
variable {P:Program}{im:List Nat}{E:yh}{S:Nat->Spc}
end
end Go.Gv
