/- A part of the framework and of the walks: T44 C65 W180 W181 W182 C66 W183 V64. -/
import Derived.Test.YtphdikcommfnhaaGreatDoorGb40
import Derived.Test.YtphdikcommfnhaaGreatDoorGb20
import Derived.Test.YtphdikcommfnhaaGreatDoorGb29
import Derived.Test.YtphdikcommfnhaaGreatDoorGb32
import Derived.Test.YtphdikcommfnhaaGreatDoorGb30
import Derived.Test.YtphdikcommfnhaaGreatDoorGb39
set_option linter.unusedSimpArgs false
set_option linter.unusedVariables false
set_option linter.unusedSectionVars false
set_option maxRecDepth 100000
set_option maxHeartbeats 0

namespace Go.Gv
open Cod (enc dec)
@[simp] theorem qmf(s:St3):St3.mk s.p s.b0 s.b1 s.b2=s:=by cases s;rfl
theorem QY{X:Type}[Cod X][DecidableEq X]{ka:Bool}{ks:List KK}(hK:WR X ka ks)(x:X)(hM:Jv (enc x) (enc x))(l:List X)(K:List D->Prop):Au ka ks (enc x) (.v (.bool true)) (bG l) K=K (bG (wG x l)):=by
 refine propext ⟨fun⟨_,_,h1,h2⟩=>?_,qbt hK rfl⟩
 by_cases hx:x∈l
 ·obtain⟨a,b,rfl⟩:=qvv hx
  have e:wG x (a++x::b)=a++x::b:=by unfold wG;rw[if_pos hx]
  have:=h1 (bG a) (enc x) (.v (.bool true)) (bG b) (by simp[bG]) hM
  rw[e]
  have e2:bG (a++x::b)=bG a++ .tup [enc x, .v (.bool true)]::bG b:=by simp[bG]
  rw[e2]
  exact this
 ·have:=h2 fun _ v hm=>hx (zd.1 hm).1
  have e:wG x l=l++ [x]:=by unfold wG;rw[if_neg hx]
  rw[e,gR]
  exact this
theorem O7(s:St3):Jv (enc s) (enc s):=by
 refine⟨fun _=>False,fun _=>False,default, .agg [Value.int .i64 s.p, .int .i64 s.b0, .int .i64 s.b1, .int .i64 s.b2].toArray,?_,?_⟩ <;>
 ·refine R.agg _ _ rfl (by simp[Value.oneCell']) fun k x c h1 h2=>?_
  rcases k with _|_|_|_|k
  ·cases h1;cases h2;exact R.int .i64 _
  ·cases h1;cases h2;exact R.int .i64 _
  ·cases h1;cases h2;exact R.int .i64 _
  ·cases h1;cases h2;exact R.int .i64 _
  ·simp at h1
@[simp] theorem qeD(a b c d:Int)(l:List St3)(K:List D->Prop):Au true [.int .i64, .int .i64, .int .i64, .int .i64] (.agg [.v (.int .i64 a), .v (.int .i64 b), .v (.int .i64 c), .v (.int .i64 d)]) (.v (.bool true)) (bG l) K=K (bG (wG ⟨a,b,c,d⟩ l)):=
 QY TL ⟨a,b,c,d⟩ (O7 _) l K
@[simp] theorem qlz(ok:Bool)(a b c d:Int)(l:List St3)(K:D->Prop):wB ok false true [.int .i64, .int .i64, .int .i64, .int .i64] [.bool false] (.agg [.v (.int .i64 a), .v (.int .i64 b), .v (.int .i64 c), .v (.int .i64 d)]) (bG l) K=K (qdP ok (.v (.bool (decide ((⟨a,b,c,d⟩:St3) ∈l)))) (decide ((⟨a,b,c,d⟩:St3) ∈l))):=
 Pa TL ⟨a,b,c,d⟩ (O7 _) l K
@[simp] theorem qky(a b c d:Int)(K:List D->Prop):Au true [.int .i64, .int .i64, .int .i64, .int .i64] (.agg [.v (.int .i64 a), .v (.int .i64 b), .v (.int .i64 c), .v (.int .i64 d)]) (.v (.bool true)) [] K=K (bG [(⟨a,b,c,d⟩:St3)]):=
 qeD a b c d [] K
theorem rQ{X:Type}[Cod X]:bG ([]:List X)=[]:=rfl
theorem fb{X:Type}[Cod X]{l:List X}(h:bG l=[]):l=[]:=by
 cases l with
 | nil=>rfl
 | cons a l=>simp[bG]at h
theorem Hq{X:Type}[Cod X]{l l':List X}(h:bG l=bG l'):l=l':=by
 unfold bG at h
 induction l generalizing l' with
 | nil=>cases l' with
   | nil=>rfl
   | cons a l=>simp at h
 | cons a l ih=>cases l' with
   | nil=>simp at h
   | cons b l'=>
     simp only[qtk,qti,D.tup.injEq,and_true]at h
     rw[aL h.1,ih h.2]
theorem vu{Hf:ab}{i:Nat}{x:Value}{es:List D}(h:Hf i=some (.mrow x es)):FrzTo Hf (.own i x) (.mp es):= .mrow h rfl fun k c c' h1 h2=>by rw[h1]at h2;cases h2;exact .same _
@[simp] theorem qqN(d:Option Nat)(g:Option (Nat×Bool))(o:MOp)(xs:List Operand):(CI.op d g (.m o xs)).wid=d:=id rfl
end Go.Gv

namespace Go.Gv
open Go.Proofs
def cT:CC:=by refine(fun(_:G.ap (G.gn Tryz.prog Tryz.f82 [3] {})=?c)=>?c) ?h;case h=>conv=>lhs; (conv=>arg 1;reduce);dsimp only[G.ap]
def cP:List aj:=[.tmp 4]
theorem ma:aq Tryz.prog bJ [3] cT cP 28:=ai mixed (by kernel_rfl)
def dB:CC:=by refine(fun(_:G.ap (G.gn Tryz.prog Tryz.f131 [4,2049005] {})=?c)=>?c) ?h;case h=>conv=>lhs; (conv=>arg 1;reduce);dsimp only[G.ap]
def dt:List aj:=[.cell 6 true 4, .tmp 7]
theorem Bf:aq Tryz.prog fu [4,2049005] dB dt 55:=ai mixed (by kernel_rfl)
def kJ:CC:=by refine(fun(_:G.ap (G.gn Tryz.prog Tryz.f132 [5,4,3] {})=?c)=>?c) ?h;case h=>conv=>lhs; (conv=>arg 1;reduce);dsimp only[G.ap]
def kA:List aj:=[.tmp 6]
theorem Aj:aq Tryz.prog eH [5,4,3] kJ kA 14:=ai mixed (by kernel_rfl)
def ba:CC:=by refine(fun(_:G.ap (G.gn Tryz.prog Tryz.f182 [4] {})=?c)=>?c) ?h;case h=>conv=>lhs; (conv=>arg 1;reduce);dsimp only[G.ap]
def aZ:List aj:=[.tmp 5]
theorem xT:aq Tryz.prog aS [4] ba aZ 42:=ai mixed (by kernel_rfl)
def uK:CC:=by refine(fun(_:G.ap (G.gn Tryz.prog Tryz.f183 [] {})=?c)=>?c) ?h;case h=>conv=>lhs; (conv=>arg 1;reduce);dsimp only[G.ap]
def uq:List aj:=[.tmp 2]
theorem Kh:aq Tryz.prog ro [] uK uq 22:=ai mixed (by kernel_rfl)
def nQ:CC:=by refine(fun(_:G.ap (G.gn Tryz.prog Tryz.f180 [6,5] {})=?c)=>?c) ?h;case h=>conv=>lhs; (conv=>arg 1;reduce);dsimp only[G.ap]
def mT:List aj:=[.tmp 10]
theorem C5:aq Tryz.prog jV [6,5] nQ mT 17:=ai mixed (by kernel_rfl)
end Go.Gv

namespace Go.Gv
open Go.Proofs
open Cod (enc dec)
variable {S S0:Nat->Spc}
def qgC(d:D):Prop:=∃r k,d= .cptr (kW r k) 0/\r.lb.length<=3
def qka(s:St3):Prop:=0<=s.p/\s.p<=1000000/\∀i,0<=s.get i/\s.get i<=1000000
def Lx(x:D×St3):Prop:=qgC x.1/\qka x.2
def QB(x:D×St3)(y:List Int):Prop:=∀r k,x.1= .cptr (kW r k) 0->y=NG r x.2
abbrev RL:Spc:=bp (aD (a1 St3)) Lx (enc (X:=List Int)) QB
theorem Pu(s:St3){k:Nat}(hk:k < 3):([.v (.int .i64 s.p), .v (.int .i64 s.b0), .v (.int .i64 s.b1), .v (.int .i64 s.b2)]:List D)[1+k]? =some (.v (.int .i64 (s.get k))):=by
 rcases k with _|_|_|k
 ·rfl
 ·rfl
 ·rfl
 ·omega
theorem qeq:ar cT cP S (aD (a1 St3)) Lx (enc (X:=List Int)) QB:=by
 rintro⟨d,s⟩ ⟨⟨r,k,hd,hl⟩,hs⟩
 have hd:d= .cptr (kW r k) 0:=hd
 subst hd
 simp[cT,cP,kW, -Bool.forall_bool, -Bool.exists_bool]
 intro hl1
 refine⟨by omega,by omega,fun v hl2=>?_⟩
 refine ak (X:=List Int) [3,5] [] r.lb.length (fun k z=>z.length=r.lb.length/\∀i,i < k->z[i]? =some (s.get i -1)) (fun _=>[]) (fun z=>[(12, .row v ig 1 (z.map enc))]) (List.replicate r.lb.length 0) (by simp) (by simp) (by omega) (by simp) (by simp) (by simp) (by simp) (by simp) ?_ ?_
 ·rintro j z hj ⟨hz1,hz2⟩
  have hg:=Pu s (k:=j) (by omega)
  have hb:0<=s.get j/\s.get j<=1000000:=hs.2.2 j
  have hjz:j < z.length:=by omega
  simp[hj,hg,hjz, -Bool.forall_bool, -Bool.exists_bool]
  refine⟨by omega,by omega,by simp only[InR];omega,z.set j (s.get j -1),⟨by simp[hz1],fun i hi=>?_⟩, .inl (by rw[qu5];rfl)⟩
  by_cases e:j=i
  ·subst e
   rw[qtY (by omega)]
  ·rw[quY e]
   exact hz2 i (by omega)
 ·rintro z ⟨hz1,hz2⟩
  simp[-Bool.forall_bool, -Bool.exists_bool]
  refine cV z (iX ig (by simp[ah])) fun r' k' e=>?_
  have e:D.cptr (kW r k) 0= .cptr (kW r' k') 0:=e
  obtain rfl:=CA e
  refine qtN fun i=>?_
  unfold NG
  rw[qta]
  by_cases hi:i < r.lb.length
  ·rw[hz2 i hi,qtZ hi];rfl
  ·rw[qto (by omega),qto (by simp;omega)];rfl
def AB(p:Pat):Bool:=decide (p.op=6) && decide (p.mx < 0) && decide (p.mn<=1)
abbrev Mm:Spc:=bp (aD a0) (fun x=>∃p,rz x.1 p) (enc (X:=Bool)) fun x y=>∀p,rz x.1 p->y=AB p
def UE(x:D×Pat×St3):Prop:=(∃r k,x.1= .cptr (kW r k) 0/\r.lb.length<=3/\qgQ r.c/\(x.2.1.lab≠qP->sC r.lb x.2.1.lab=true)/\(x.2.2.p < r.en->∃y,Af r x.2.1 x.2.2=some y))/\qka x.2.2
def QA(x:D×Pat×St3)(y:St3×Bool):Prop:=∀r k,x.1= .cptr (kW r k) 0->(y.2=true↔x.2.2.p < r.en/\Af r x.2.1 x.2.2=some true)/\(y.2=true->y.1=EB r x.2.1 x.2.2)
end Go.Gv

namespace Go.Gv
open Go.Proofs
open Cod (enc dec)
variable {S S0:Nat->Spc}
abbrev Mo:Spc:=bp aH (qdk 21) (enc (X:=Bool)) (qgw 21)
theorem qbi(h1:S dS=yy 21):ar nQ mT S aH (qdk 21) (enc (X:=Bool)) (qgw 21):=by
 rintro⟨c,x,tok,lb,bd⟩ hp
 simp[nQ,mT,h1,hp, -Bool.forall_bool, -Bool.exists_bool]
theorem sF(p:Pat):enc p= .agg (enc p).cells:=by simp
theorem qX{d:D}{p q:Pat}(h1:rz d p)(h2:rz d q):p=q:=by
 obtain⟨cs,off,rfl,_,e1⟩:=h1
 obtain⟨cs',off',e,_,e2⟩:=h2
 cases e
 exact aL (by rw[sF p,sF q,<-e1,<-e2])
theorem qbb:ar uK uq S (aD a0) (fun x=>∃p,rz x.1 p) (enc (X:=Bool)) fun x y=>∀p,rz x.1 p->y=AB p:=by
 rintro⟨d,⟨⟩⟩ ⟨p,cs,off,hd,hl,hc⟩
 have hd:d= .cptr cs off:=hd
 subst hd
 have c0:cs[off]? =some (.v (.int .i64 p.op)):=by
  have:=wn hl hc (j:=0) (by decide)
  rw[qt4]at this
  rw[this];simp
 have c10:cs[off+10]? =some (.v (.int .i64 p.mn)):=by rw[wn hl hc (j:=10) (by decide)];simp
 have c11:cs[off+11]? =some (.v (.int .i64 p.mx)):=by rw[wn hl hc (j:=11) (by decide)];simp
 have hlo:off+1<=cs.length:=by omega
 have hl10:off+10+1<=cs.length:=by omega
 have hl11:off+11+1<=cs.length:=by omega
 simp[uK,uq,c0,c10,c11,hlo,hl10,hl11, -Bool.forall_bool, -Bool.exists_bool]
 have hp:rz (.cptr cs off) p:=⟨cs,off,rfl,hl,hc⟩
 refine⟨fun h6=>⟨fun hm q hq=>?_,fun hm q hq=>?_⟩,fun h6 q hq=>?_⟩
 ·obtain rfl:=qX hp hq
  simp[AB,h6,hm]
 ·obtain rfl:=qX hp hq
  simp[AB,h6]
  omega
 ·obtain rfl:=qX hp hq
  simp[AB,h6]
abbrev qeV:Spc:=bp (aD (a2 Pat St3)) UE (yd (Y:=St3) (Z:=Bool)) QA
theorem qcv{r:Rn}{b:B}(hl:r.lb.length<=3)(h:sC r.lb b=true):(gy r.lb fun z=>decide (z=b))=0\/(gy r.lb fun z=>decide (z=b))=1\/(gy r.lb fun z=>decide (z=b))=2:=by
 have h1:=tG (fun z=>decide (z=b)) r.lb
 have h2:=zj (fun z=>decide (z=b)) r.lb
 have h3:decide (0<=gy r.lb fun z=>decide (z=b))=true:=h1.trans h
 have h4:=of_decide_eq_true h3
 omega
theorem qeo(h1:S bJ=RL)(h2:S jV=Mo)(h3:S aM=vS):ar dB dt S (aD (a2 Pat St3)) UE (yd (Y:=St3) (Z:=Bool)) QA:=by
 rintro⟨d,p,s⟩ ⟨⟨r,k,hd,hl,hz,hlab,htok⟩,hs⟩
 have hd:d= .cptr (kW r k) 0:=hd
 subst hd
 have hs:qka s:=hs
 have hPa:Lx (.cptr (kW r k) 0,s):=⟨⟨r,k,rfl,hl⟩,hs⟩
 have hp0:=hs.1
 have hp1:=hs.2.1
 have hno:∀y:St3,(¬s.p < r.en\/Af r p s=some false)->QA (.cptr (kW r k) 0,p,s) (y,false):=fun y h r' k' e=>by
  have e:D.cptr (kW r k) 0= .cptr (kW r' k') 0:=e
  obtain rfl:=CA e
  refine⟨⟨fun h=>(by cases h),fun h2=>?_⟩,fun h=>(by cases h)⟩
  rcases h with h|h
  ·exact absurd h2.1 h
  ·have h3:Af r p s=some true:=h2.2
   rw[h]at h3;cases h3
 have hyes:s.p < r.en->Af r p s=some true->QA (.cptr (kW r k) 0,p,s) (EB r p s,true):=fun h4 h5 r' k' e=>by
  have e:D.cptr (kW r k) 0= .cptr (kW r' k') 0:=e
  obtain rfl:=CA e
  exact⟨⟨fun _=>⟨h4,h5⟩,fun _=>rfl⟩,fun _=>rfl⟩
 simp only[kW]at hPa hno hyes
 have hz3:∀ (y:List Int),QB (.cptr (kW r k) 0,s) y->y=NG r s:=fun y h=>h r k rfl
 simp only[kW]at hz3
 by_cases hL:p.lab=qP
 ·have hL2:p.lab=⟨#[]⟩:=hL
  have hnx:EB r p s=⟨s.p+1,s.b0,s.b1,s.b2⟩:=by unfold EB;rw[if_pos hL]
  rw[hnx]at hyes
  simp[dB,dt,kW,h1,h2,h3,hPa,hL2, -Bool.forall_bool, -Bool.exists_bool]
  refine fun b=>⟨fun h4 y hy=>?_,fun h4=>⟨⟨0,0,0,0⟩, .same _,hno _ (.inl (by omega))⟩⟩
  obtain rfl:=hz3 y hy
  obtain⟨z,hz2⟩:=htok h4
  refine⟨⟨hz,z,hz2⟩,fun y1 hy1=>?_⟩
  have hy1:Af r p s=some y1:=hy1
  refine⟨fun e=>⟨⟨0,0,0,0⟩, .same _,hno _ (.inr (e ▸hy1))⟩,fun e=>?_⟩
  exact⟨by simp only[InR];omega,⟨s.p+1,s.b0,s.b1,s.b2⟩, .same _,hyes h4 (e ▸hy1)⟩
 ·have hL2:¬p.lab=⟨#[]⟩:=hL
  rcases qcv hl (hlab hL)with hq|hq|hq
  ·have hnx:EB r p s=⟨s.p+1,s.p+1,s.b1,s.b2⟩:=by unfold EB;rw[if_neg hL,hq];rfl
   rw[hnx]at hyes
   simp[dB,dt,kW,h1,h2,h3,hPa,hL2,hq, -Bool.forall_bool, -Bool.exists_bool]
   refine fun b=>⟨fun h4 y hy=>?_,fun h4=>⟨⟨0,0,0,0⟩, .same _,hno _ (.inl (by omega))⟩⟩
   obtain rfl:=hz3 y hy
   obtain⟨z,hz2⟩:=htok h4
   refine⟨⟨hz,z,hz2⟩,fun y1 hy1=>?_⟩
   have hy1:Af r p s=some y1:=hy1
   refine⟨fun e=>⟨⟨0,0,0,0⟩, .same _,hno _ (.inr (e ▸hy1))⟩,fun e=>?_⟩
   exact⟨by simp only[InR];omega,⟨s.p+1,s.p+1,s.b1,s.b2⟩, .same _,hyes h4 (e ▸hy1)⟩
  ·have hnx:EB r p s=⟨s.p+1,s.b0,s.p+1,s.b2⟩:=by unfold EB;rw[if_neg hL,hq];rfl
   rw[hnx]at hyes
   simp[dB,dt,kW,h1,h2,h3,hPa,hL2,hq, -Bool.forall_bool, -Bool.exists_bool]
   refine fun b=>⟨fun h4 y hy=>?_,fun h4=>⟨⟨0,0,0,0⟩, .same _,hno _ (.inl (by omega))⟩⟩
   obtain rfl:=hz3 y hy
   obtain⟨z,hz2⟩:=htok h4
   refine⟨⟨hz,z,hz2⟩,fun y1 hy1=>?_⟩
   have hy1:Af r p s=some y1:=hy1
   refine⟨fun e=>⟨⟨0,0,0,0⟩, .same _,hno _ (.inr (e ▸hy1))⟩,fun e=>?_⟩
   exact⟨by simp only[InR];omega,⟨s.p+1,s.b0,s.p+1,s.b2⟩, .same _,hyes h4 (e ▸hy1)⟩
  ·have hnx:EB r p s=⟨s.p+1,s.b0,s.b1,s.p+1⟩:=by unfold EB;rw[if_neg hL,hq];rfl
   rw[hnx]at hyes
   simp[dB,dt,kW,h1,h2,h3,hPa,hL2,hq, -Bool.forall_bool, -Bool.exists_bool]
   refine fun b=>⟨fun h4 y hy=>?_,fun h4=>⟨⟨0,0,0,0⟩, .same _,hno _ (.inl (by omega))⟩⟩
   obtain rfl:=hz3 y hy
   obtain⟨z,hz2⟩:=htok h4
   refine⟨⟨hz,z,hz2⟩,fun y1 hy1=>?_⟩
   have hy1:Af r p s=some y1:=hy1
   refine⟨fun e=>⟨⟨0,0,0,0⟩, .same _,hno _ (.inr (e ▸hy1))⟩,fun e=>?_⟩
   exact⟨by simp only[InR];omega,⟨s.p+1,s.b0,s.b1,s.p+1⟩, .same _,hyes h4 (e ▸hy1)⟩
end Go.Gv

namespace Go.Gv
open Go.Proofs
open Cod (enc dec)
variable {S S0:Nat->Spc}
def KD(r:Rn)(p:Pat)(at_:Int)(x:Region):Bool:=decide (x.ty=p.reg) && decide ((if p.op=3 then x.e else x.b)=at_) && decide (r.bg<=x.b) && decide (x.e<=r.en)
def WT(x:Region×Pat×Int×Rn×D):List D:=[enc x.1, .cptr (enc x.2.1).cells 0, .cptr [enc x.2.2.1] 0, .cptr [.cptr (kW x.2.2.2.1 x.2.2.2.2) 0] 0]
theorem Tp(z z':Region×Pat×Int×Rn×D)(h:WT z=WT z'):z=z':=by
 obtain⟨a,p,i,r,k⟩:=z
 obtain⟨a',p',i',r',k'⟩:=z'
 unfold WT at h
 simp only[qti,D.cptr.injEq,and_true]at h
 obtain⟨h1,h2,h3,h4⟩:=h
 have e:p=p':=aL (by rw[sF p,sF p',h2])
 obtain⟨e2,e3⟩:=HT h4
 rw[aL h1,e,aL h3,e2,e3]
noncomputable abbrev qr6:dc (Region×Pat×Int×Rn×D):=aX WT Tp
noncomputable abbrev tA:Spc:=bp qr6 (fun _=>True) (enc (X:=Bool)) fun x y=>y=KD x.2.2.2.1 x.2.1 x.2.2.1 x.1
theorem qbe:ar ba aZ S qr6 (fun _=>True) (enc (X:=Bool)) fun x y=>y=KD x.2.2.2.1 x.2.1 x.2.2.1 x.1:=by
 rintro⟨a,p,i,r,k⟩ -
 rw[Aa]
 by_cases e0:p.op=3
 ·by_cases e1:a.ty=p.reg
  rotate_left
  ·simp[WT,ba,aZ,KD,e0,e1, -Bool.forall_bool, -Bool.exists_bool]
  by_cases e2:a.e=i
  rotate_left
  ·simp[WT,ba,aZ,KD,e0,e1,e2, -Bool.forall_bool, -Bool.exists_bool]
  by_cases e3:r.bg<=a.b
  rotate_left
  ·simp[WT,ba,aZ,KD,e0,e1,e2,e3, -Bool.forall_bool, -Bool.exists_bool]
  simp[WT,ba,aZ,KD,e0,e1,e2,e3, -Bool.forall_bool, -Bool.exists_bool]
 ·by_cases e1:a.ty=p.reg
  rotate_left
  ·simp[WT,ba,aZ,KD,e0,e1, -Bool.forall_bool, -Bool.exists_bool]
  by_cases e2:a.b=i
  rotate_left
  ·simp[WT,ba,aZ,KD,e0,e1,e2, -Bool.forall_bool, -Bool.exists_bool]
  simp[WT,ba,aZ,KD,e0,e1,e2, -Bool.forall_bool, -Bool.exists_bool]
  exact⟨by intros;omega,by intros;omega⟩
abbrev qaM(x:D×Pat×Int):Prop:=qgC x.1
abbrev qaC(x:D×Pat×Int)(y:Bool):Prop:=∀r k,x.1= .cptr (kW r k) 0->y=SY r x.2.1 x.2.2
abbrev qeW:Spc:=bp (aD (a2 Pat Int)) qaM (enc (X:=Bool)) qaC
theorem qer(h0:S0 aS=tA)(h1:S aO=My Region S0):ar kJ kA S (aD (a2 Pat Int)) qaM (enc (X:=Bool)) qaC:=by
 rintro⟨d,p,i⟩ ⟨r,k,hd,hl⟩
 have hd:d= .cptr (kW r k) 0:=hd
 subst hd
 have hf:FunOn S0 (.clo aS [.cptr (enc p).cells 0, .cptr [enc i] 0, .cptr [.cptr (kW r k) 0] 0]) r.c.regs (KD r p i):=
  vv (f:=fun a=>(a,p,i,r,k)) h0 (fun a _=>BO WT Tp (a,p,i,r,k)) (fun _ _=>trivial) (fun a _ y hy=>hy)
 rw[show(enc p).cells=[enc p.op,enc p.cond.op,enc p.cond.name,enc p.cond.arg,enc p.cond.val,enc p.cond.lab,enc p.cond.fold,enc p.cond.kids,enc p.lab,enc p.reg,enc p.mn,enc p.mx,enc p.kids] by simp]at hf
 simp at hf
 simp[kJ,kA,h1, -Bool.forall_bool, -Bool.exists_bool]
 refine⟨⟨_,hf⟩,fun y hy r' k' e=>?_⟩
 have e:D.cptr (kW r k) 0= .cptr (kW r' k') 0:=e
 obtain rfl:=CA e
 rw[hy _ hf]
 rfl
end Go.Gv

namespace Go.Gv
open Go.Proofs
def nJ:CC:=by refine(fun(_:G.ap (G.gn Tryz.prog Tryz.f133 [] { ke:=[0,990] })=?c)=>?c) ?h;case h=>conv=>lhs; (conv=>arg 1;reduce);dsimp only[G.ap]
def mM:List aj:=[.tmp 6]
theorem CX:aq Tryz.prog eu [] nJ mM 29:=ai mixed (by kernel_rfl)
def lP:CC:=by refine(fun(_:G.ap (G.gn Tryz.prog Tryz.f81 [5,3045000,2010010] { cu:=[6,15],ke:=[0,990] })=?c)=>?c) ?h;case h=>conv=>lhs; (conv=>arg 1;reduce);dsimp only[G.ap]
def lB:List aj:=[.tmp 6]
theorem Bg:aq Tryz.prog bu [5,3045000,2010010] lP lB 121:=ai mixed (by kernel_rfl)
def kI:CC:=by refine(fun(_:G.ap (G.gn Tryz.prog Tryz.f134 [5] { bx:=[53],cu:=[3,7,13,17],ke:=[0,990] })=?c)=>?c) ?h;case h=>conv=>lhs; (conv=>arg 1;reduce);dsimp only[G.ap]
def kw:List aj:=[.tmp 6]
theorem Ai:aq Tryz.prog gB [5] kI kw 109:=ai mixed (by kernel_rfl)
def nM:CC:=by refine(fun(_:G.ap (G.gn Tryz.prog Tryz.f185 [] { bx:=[0] })=?c)=>?c) ?h;case h=>conv=>lhs; (conv=>arg 1;reduce);dsimp only[G.ap]
def mP:List aj:=[]
theorem C0:aq Tryz.prog jU [] nM mP 16:=ai mixed (by kernel_rfl)
end Go.Gv

namespace Go.Gv
open Go.Proofs
open Cod (enc dec)
variable {S S0:Nat->Spc}
structure qdm (r:Rn) (q:Pat):Prop where
 nd:uS q
 num:xX q=true
 lab:q.lab≠qP->sC r.lb q.lab=true
 tok:q.op=1->∀s,QI r.en s->s.p < r.en->∃y,Af r q s=some y
structure qdh (r:Rn):Prop where
 l3:r.lb.length<=3
 sz:qgQ r.c
 en:r.en<=100000
def zL(r:Rn)(es:List D):Prop:=∀e∈es,∃d p s l,rz d p/\e= .tup [.agg [d, .v (.int .i64 s.p), .v (.int .i64 s.b0), .v (.int .i64 s.b1), .v (.int .i64 s.b2)], .mp (bG l)]/\l.Nodup/\∀t,t∈l↔kU r p s t
def qfP(l:List St3):D:= .mp (bG l)
@[simp] theorem qrE(l:List St3):qfP l= .mp (bG l):=rfl
def UF(n:Nat)(r:Rn)(es:List D)(x:D×St3):Prop:=qdh r/\zL r es/\QI r.en x.2/\∃p,rz x.1 p/\fH p<=n/\kg (qdm r) p
def UB(r:Rn)(x:D×St3)(es:List D)(y:List St3):Prop:=zL r es/\y.Nodup/\∀p,rz x.1 p->∀t,t∈y↔kU r p x.2 t
abbrev Ay(n:Nat):Spc:=qih (aD (a1 St3)) qfP (UF n) UB
def qaJ(n:Nat)(r:Rn)(es:List D)(x:D×D×Unit):Prop:=qdh r/\zL r es/\(∃l:List St3,x.2.1= .mp (bG l)/\∀s∈l,QI r.en s)/\∃p,rz x.1 p/\fH p<=n/\kg (qdm r) p
def qaA(r:Rn)(x:D×D×Unit)(es:List D)(y:List St3):Prop:=zL r es/\y.Nodup/\∀ (p:Pat) (l:List St3),rz x.1 p->x.2.1= .mp (bG l)->∀t,t∈y↔ ∃s∈l,kU r p s t
abbrev Hz(n:Nat):Spc:=qih (aD (aD a0)) qfP (qaJ n) qaA
theorem qet(n:Nat)(h1:S bu=Ay n):NJ nJ mM S (aD (aD a0)) qfP (qaJ n) qaA:=by
 rintro b r v es ⟨d,dl,⟨⟩⟩ ⟨hr,hm,⟨l,hdl,hl⟩,p,hp,hpn,hpa⟩
 have hdl:dl= .mp (bG l):=hdl
 subst hdl
 obtain⟨cs,off,hd,hl13,hc13⟩:=hp
 have hd:d= .cptr cs off:=hd
 subst hd
 have hp:rz (.cptr cs off) p:=⟨cs,off,rfl,hl13,hc13⟩
 simp[nJ,mM,CE, -Bool.forall_bool, -Bool.exists_bool]
 intro v1 b1
 refine av (X:=Value×List D×List St3×List D×List St3) [0,1,7,12] [] (fun x=>zL r x.2.1/\x.2.2.1.Nodup/\(∀s∈x.2.2.2.2,s∈l)/\(∀t∈x.2.2.1,∃s∈l,kU r p s t)/\∀s∈l,s∈x.2.2.2.2\/ ∀t,kU r p s t->t∈x.2.2.1)
  (fun _=>[]) (fun x=>[(0, .box b (kW r (.own 990 x.1))),(990, .mrow x.1 x.2.1),(10, .mrow v1 (bG x.2.2.1)),(12, .miter b1 x.2.2.2.1 (bG x.2.2.2.2))]) (fun x=>x.2.2.2.2.length) (v,es, [], [],l)
  ⟨hm,quP,fun _ h=>h,fun _ h=>(by cases h),fun s hs=> .inl hs⟩ (by simp) (by simp[rQ]) ?_
 rintro⟨v',es',out,cur,left⟩ ⟨hm',hn',hl',ho',hd'⟩
 simp only at hm' hn' hl' ho' hd'
 simp[-Bool.forall_bool, -Bool.exists_bool]
 refine⟨fun h0=>?_,fun l1 e l2 hsp=>?_⟩
 ·have hlz:=fb h0
  subst hlz
  refine Lg v' es' out (vu (by simp[ah])) (by simp[ah]) (by simp[ah]) ⟨hm',hn',fun p' l' hp' hl2 t=>?_⟩
  obtain rfl:=qX hp hp'
  have hl2:D.mp (bG l)= .mp (bG l'):=hl2
  obtain rfl:=Hq (D.mp.inj hl2)
  exact⟨ho' t,fun⟨s,hs,hD⟩=>(hd' s hs).elim (fun h=>by cases h) fun h=>h t hD⟩
 ·obtain⟨a,s,c,rfl,rfl,rfl,rfl⟩:=gi hsp
  have hs:s∈l:=hl' s (by simp)
  have hPr:UF n r es' (.cptr cs off,s):=⟨hr,hm',hl s hs,p,hp,hpn,hpa⟩
  simp[h1,AZ,hPr,CE, -Bool.forall_bool, -Bool.exists_bool]
  intro v2 es2 ys hQ b2
  have hys:=hQ.2.2 p hp
  refine av (X:=List St3×List D×List St3) [0,1,7,12,21] [0,990,12] (fun x=>x.1.Nodup/\(∀t∈x.2.2,t∈ys)/\(∀t∈out,t∈x.1)/\(∀t∈x.1,t∈out\/t∈ys)/\∀t∈ys,t∈x.2.2\/t∈x.1)
   (fun _=>[]) (fun x=>[(10, .mrow v1 (bG x.1)),(21, .miter b2 x.2.1 (bG x.2.2))]) (fun x=>x.2.2.length) (out, [],ys)
   ⟨hn',fun _ h=>h,fun _ h=>h,fun _ h=> .inl h,fun _ h=> .inl h⟩ (by simp) (by simp) ?_
  rintro⟨out2,cur2,left2⟩ ⟨g1,g2,g3,g4,g5⟩
  simp only at g1 g2 g3 g4 g5
  simp[-Bool.forall_bool, -Bool.exists_bool]
  refine⟨fun h0=>?_,fun l1 e l2 hsp2=>?_⟩
  ·have hlz:=fb h0
   subst hlz
   refine⟨v2,es2,out2,_,a++c,⟨hQ.1,g1,fun x h=>hl' x (by simp only[qsZ,qsY]at h ⊢;rcases h with h|h <;> simp[h]),fun t ht=>?_,fun x hx=>?_⟩,⟨.inl rfl, .inl ⟨rfl,rfl⟩, .inl rfl, .inl ⟨rfl,(gR a c).symm⟩⟩,by simp⟩
   ·rcases g4 t ht with h|h
    ·exact ho' t h
    ·exact⟨s,hs,(hys t).1 h⟩
   ·rcases hd' x hx with h|h
    ·rcases qsZ.1 h with h|h
     ·exact .inl (by simp[h])
     ·rcases qsY.1 h with rfl|h
      ·exact .inr fun t ht=>(g5 t ((hys t).2 ht)).elim (fun h=>by cases h) id
      ·exact .inl (by simp[h])
    ·exact .inr fun t ht=>g3 t (h t ht)
  ·obtain⟨a2,t,c2,rfl,rfl,rfl,rfl⟩:=gi hsp2
   simp[-Bool.forall_bool, -Bool.exists_bool]
   refine⟨wG t out2,_,a2++c2,⟨wF g1,fun x h=>g2 x (by simp only[qsZ,qsY]at h ⊢;rcases h with h|h <;> simp[h]),fun x hx=>ed.2 (.inr (g3 x hx)),fun x hx=>?_,fun x hx=>?_⟩,⟨.inl rfl, .inl ⟨rfl,(gR a2 c2).symm⟩⟩,by simp⟩
   ·rcases ed.1 hx with rfl|h
    ·exact .inr (g2 x (by simp))
    ·exact g4 x h
   ·rcases g5 x hx with h|h
    ·rcases qsZ.1 h with h|h
     ·exact .inl (by simp[h])
     ·rcases qsY.1 h with rfl|h
      ·exact .inr (ed.2 (.inl rfl))
      ·exact .inl (by simp[h])
    ·exact .inr (ed.2 (.inr h))
end Go.Gv

namespace Go.Gv
open Go.Proofs
theorem qdW{r:Rn}{p:Pat}(h:p.op=1)(s t:St3):kU r p s t↔s.p < r.en/\Af r p s=some true/\t=EB r p s:=by
 obtain⟨op,c,l,rg,mn,mx,ks⟩:=p
 rw[kU];dsimp only;rw[if_pos h]
theorem Np{r:Rn}{p:Pat}(h:p.op=2\/p.op=3)(s t:St3):kU r p s t↔SY r p s.p=true/\t=s:=by
 obtain⟨op,c,l,rg,mn,mx,ks⟩:=p
 have h:op=2\/op=3:=h
 rw[kU];dsimp only;rw[if_neg (by omega),if_pos h]
theorem qjv{r:Rn}{p:Pat}(h:p.op=4)(s t:St3):kU r p s t↔uT r p.kids s t:=by
 obtain⟨op,c,l,rg,mn,mx,ks⟩:=p
 have h:op=4:=h
 rw[kU];dsimp only;rw[if_neg (by omega),if_neg (by omega),if_pos h]
theorem qdV{r:Rn}{p:Pat}(h:p.op=5)(s t:St3):kU r p s t↔uU r p.kids s t:=by
 obtain⟨op,c,l,rg,mn,mx,ks⟩:=p
 have h:op=5:=h
 rw[kU];dsimp only;rw[if_neg (by omega),if_neg (by omega),if_neg (by omega),if_pos h]
theorem qdU{r:Rn}{p k:Pat}{ks:List Pat}(h:p.op=6)(hk:p.kids=k::ks)(s t:St3):kU r p s t↔xn (kU r k) p.mn p.mx s t:=by
 obtain⟨op,c,l,rg,mn,mx,kids⟩:=p
 have h:op=6:=h
 have hk:kids=k::ks:=hk
 subst hk
 rw[kU];dsimp only;rw[if_neg (by omega),if_neg (by omega),if_neg (by omega),if_neg (by omega),DI]
theorem vx(r:Rn)(s t:St3):uT r [] s t↔s=t:=by rw[uT]
theorem vy(r:Rn)(k:Pat)(ks:List Pat)(s t:St3):uT r (k::ks) s t↔ ∃u,kU r k s u/\uT r ks u t:=by rw[uT]
theorem Ds(r:Rn)(s t:St3):uU r [] s t↔False:=by rw[uU]
theorem rJ(r:Rn)(k:Pat)(ks:List Pat)(s t:St3):uU r (k::ks) s t↔kU r k s t\/uU r ks s t:=by rw[uU]
theorem ES{r:Rn}{k:Pat} :∀ {ks:List Pat} {s t:St3},uT r (ks++ [k]) s t↔ ∃u,uT r ks s u/\kU r k u t
 | [],s,t=>by
   rw[qtO,vy]
   constructor
   ·rintro⟨u,h1,h2⟩
    exact⟨s,(vx ..).2 rfl,(vx ..).1 h2 ▸h1⟩
   ·rintro⟨u,h1,h2⟩
    exact⟨t,(vx ..).1 h1 ▸h2,(vx ..).2 rfl⟩
 | a::ks,s,t=>by
   rw[qtI,vy]
   constructor
   ·rintro⟨u,h1,h2⟩
    obtain⟨v,h3,h4⟩:=ES.1 h2
    exact⟨v,(vy ..).2 ⟨u,h1,h3⟩,h4⟩
   ·rintro⟨v,h3,h4⟩
    obtain⟨u,h1,h2⟩:=(vy ..).1 h3
    exact⟨u,h1,ES.2 ⟨v,h2,h4⟩⟩
theorem Lm{r:Rn}{k:Pat} :∀ {ks:List Pat} {s t:St3},uU r (ks++ [k]) s t↔uU r ks s t\/kU r k s t
 | [],s,t=>by rw[qtO,rJ,Ds];simp
 | a::ks,s,t=>by rw[qtI,rJ,rJ,Lm,or_assoc]
theorem HY{α:Type}{R:α->α->Prop}{n:Nat}{s t:α} :Pow R (n+1) s t↔ ∃u,Pow R n s u/\R u t:=by
 induction n generalizing s with
 | zero=>
   constructor
   ·rintro⟨u,h1,h2⟩;cases h2;exact⟨s,rfl,h1⟩
   ·rintro⟨u,h1,h2⟩;cases h1;exact⟨t,h2,rfl⟩
 | succ n ih=>
   constructor
   ·rintro⟨u,h1,h2⟩
    obtain⟨v,h3,h4⟩:=ih.1 h2
    exact⟨v,⟨u,h1,h3⟩,h4⟩
   ·rintro⟨v,⟨u,h1,h3⟩,h4⟩
    exact⟨u,h1,ih.2 ⟨v,h3,h4⟩⟩
theorem Vr{α:Type}{R:α->α->Prop}{m n:Nat}{s t:α}(h:Pow R (m+n) s t):∃u,Pow R m s u/\Pow R n u t:=by
 induction m generalizing s with
 | zero=>exact⟨s,rfl,by rwa [qtH]at h⟩
 | succ m ih=>
   rw[Nat.succ_add]at h
   obtain⟨v,h1,h2⟩:=h
   obtain⟨u,h3,h4⟩:=ih h2
   exact⟨u,⟨v,h1,h3⟩,h4⟩
def Fe(R:St3->St3->Prop)(base:List St3)(k:Nat)(t:St3):Prop:=∃u∈base,Pow (BQ R) k u t
structure qhD (R:St3->St3->Prop) (base:List St3) (j:Nat) (out new:List St3):Prop where
 o:∀t,t∈out↔ ∃k,k<=j/\Fe R base k t
 f:∀t∈new,Fe R base j t
 n:∀t,Fe R base j t->t∈new\/ ∃k,k < j/\Fe R base k t
theorem Z9(R:St3->St3->Prop)(base:List St3):qhD R base 0 base base:=by
 have h0:∀t,Fe R base 0 t↔t∈base:=fun t=>⟨fun⟨u,h1,h2⟩=>by cases h2;exact h1,fun h=>⟨t,h,rfl⟩⟩
 refine⟨fun t=>⟨fun h=>⟨0,qs2 _,(h0 t).2 h⟩,?_⟩,fun t h=>(h0 t).2 h,fun t h=> .inl ((h0 t).1 h)⟩
 rintro⟨k,hk,h⟩
 obtain rfl:k=0:=by omega
 exact(h0 t).1 h
theorem HV{R:St3->St3->Prop}{base:List St3}{k:Nat}{t:St3} :Fe R base (k+1) t↔ ∃a,Fe R base k a/\BQ R a t:=by
 constructor
 ·rintro⟨u,h1,h2⟩
  obtain⟨a,h3,h4⟩:=HY.1 h2
  exact⟨a,⟨u,h1,h3⟩,h4⟩
 ·rintro⟨a,⟨u,h1,h3⟩,h4⟩
  exact⟨u,h1,HY.2 ⟨a,h3,h4⟩⟩
theorem qaa{R:St3->St3->Prop}{base out new out' new':List St3}{j:Nat}(h:qhD R base j out new)(h1:∀t,t∈new'↔t∉out/\∃a∈new,BQ R a t)(h2:∀t,t∈out'↔t∈out\/t∈new'):qhD R base (j+1) out' new':=by
 have key:∀t,Fe R base (j+1) t->t∈new'\/t∈out:=fun t ht=>by
  obtain⟨a,ha,hs⟩:=HV.1 ht
  by_cases ho:t∈out
  ·exact .inr ho
  ·rcases h.n a ha with hn|⟨k,hk,hr⟩
   ·exact .inl ((h1 t).2 ⟨ho,a,hn,hs⟩)
   ·exact .inr ((h.o t).2 ⟨k+1,by omega,HV.2 ⟨a,hr,hs⟩⟩)
 have new_r:∀t∈new',Fe R base (j+1) t:=fun t ht=>by
  obtain⟨_,a,ha,hs⟩:=(h1 t).1 ht
  exact HV.2 ⟨a,h.f a ha,hs⟩
 refine⟨fun t=>?_,new_r,fun t ht=>?_⟩
 ·rw[h2]
  constructor
  ·rintro(ho|hn)
   ·obtain⟨k,hk,hr⟩:=(h.o t).1 ho
    exact⟨k,by omega,hr⟩
   ·exact⟨j+1,qs2 _,new_r t hn⟩
  ·rintro⟨k,hk,hr⟩
   by_cases e:k=j+1
   ·subst e;exact(key t hr).symm
   ·exact .inl ((h.o t).2 ⟨k,by omega,hr⟩)
 ·rcases key t ht with hn|ho
  ·exact .inl hn
  ·obtain⟨k,hk,hr⟩:=(h.o t).1 ho
   exact .inr ⟨k,by omega,hr⟩
theorem qab{R:St3->St3->Prop}{base out:List St3}{j:Nat}(h:qhD R base j out [])(t:St3):t∈out↔ ∃k,Fe R base k t:=by
 constructor
 ·intro ht
  obtain⟨k,_,hr⟩:=(h.o t).1 ht
  exact⟨k,hr⟩
 ·rintro⟨k,hr⟩
  induction k using Nat.strongRecOn with
  | _ k ih=>
    by_cases hk:k<=j
    ·exact(h.o t).2 ⟨k,hk,hr⟩
    ·obtain⟨u,hu,hp⟩:=hr
     obtain⟨a,h1,h2⟩:=Vr (m:=j) (n:=k -j) (by rwa [show j+ (k -j)=k by omega])
     rcases h.n a ⟨u,hu,h1⟩with hn|⟨i,hi,v,hv,h3⟩
     ·cases hn
     ·exact ih (i+ (k -j)) (by omega) ⟨v,hv,h3.add h2⟩
theorem X7{R:St3->St3->Prop}{base:List St3}{mn mx:Int}{s:St3}(hb:∀u,u∈base↔Pow R mn.toNat s u)(t:St3):xn R mn mx s t↔ ∃k:Nat,(mx < 0\/mn+k<=mx)/\Fe R base k t:=by
 constructor
 ·rintro⟨u,h1,k,h2,h3⟩
  exact⟨k,h2,u,(hb u).2 h1,h3⟩
 ·rintro⟨k,h2,u,h1,h3⟩
  exact⟨u,(hb u).1 h1,k,h2,h3⟩
end Go.Gv
