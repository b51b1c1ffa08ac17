/- V12 -/
import Derived.Test.YtfpmgnnippjblaaGreatDoorGc14
set_option linter.all false
set_option maxRecDepth 100000
set_option maxHeartbeats 0
open Bool renaming forall_bool → fB', exists_bool → eB'
namespace Go.Gv
section
open Cod (enc dec)
section
variable (N:Pst->Option (Pst×Cond))(O:Pst->Option (Pst×Cond))
end
section
variable (A:Pst->Option (Pst×Pat))(O:Pst->Option (Pst×Cond))
end
section
variable (N:Pst->Option (Pst×Glob))(O:Pst->Option (Pst×Glob))
end

open Go.Proofs
def mF:CC:=gq Tryz.f123 [] {} _
def mg:List ai:=[.tmp 2]
def EA:FO bN [] mF mg 29:=fo
def rE:CC:=gq Tryz.f190 [] {} _
def qJ:List ai:=[.tmp 2]
def KO:FO ct [] rE qJ 21:=fo
def rD:CC:=gq Tryz.f191 [] {} _
def qI:List ai:=[.tmp 2]
def KN:FO fb [] rD qI 17:=fo
def DI:CC:=gq Tryz.f202 [2,3] {} _
def CL:List ai:=[.tmp 4]
def ZS:FO vF [2,3] DI CL 74:=fo
def ru:CC:=gq Tryz.f186 [3,2] {} _
def qC:List ai:=[.tmp 4]
def nL:CC:=gq Tryz.f252 [2] {} _
def ny:List ai:=[.tmp 3]
def yu:CC:=gq Tryz.f253 [1] {} _
def xI:List ai:=[.tmp 2]
def yw:CC:=gq Tryz.f187 [1] {} _
def xK:List ai:=[.tmp 2]
def wh:CC:=gq Tryz.f120 [3,2] {} _
def vg:List ai:=[.tmp 4]
def rz:CC:=gq Tryz.f189 [2] {} _
def qE:List ai:=[.tmp 3]
def wg:CC:=gq Tryz.f121 [1] {} _
def ve:List ai:=[.tmp 2]
def tR:CC:=gq Tryz.f124 [1] {} _
def tm:List ai:=[.tmp 2]
def wl:CC:=gq Tryz.f119 [1] {} _
def vk:List ai:=[.tmp 2]
def we:CC:=gq Tryz.f74 [1] {} _
def vd:List ai:=[.tmp 2]
def yv:CC:=gq Tryz.f125 [1] {} _
def xJ:List ai:=[.tmp 2]
def yy:CC:=gq Tryz.f98 [1] {} _
def xM:List ai:=[.tmp 2]
def iv:CC:=gq Tryz.f222 [1] {} _
def hU:List ai:=[.tmp 2, .tmp 3]
def wk:CC:=gq Tryz.f164 [1] {} _
def vj:List ai:=[.tmp 2, .tmp 3]
def ei:CC:=gq Tryz.f188 [] {} _
def dY:List ai:=[.tmp 4]
def fl:CC:=gq Tryz.f254 [] {} _
def fh:List ai:=[.tmp 4]
def A8:CC:=gq Tryz.f138 [2] {} _
def Ae:List ai:=[.tmp 4]
def yk:CC:=gq Tryz.f75 [2] {} _
def xu:List ai:=[.tmp 4]
def A9:CC:=gq Tryz.f76 [1] { cu:=[1] } _
def Af:List ai:=[.tmp 2]
def vZ:CC:=gq Tryz.f78 [1] { cu:=[1] } _
def uW:List ai:=[.tmp 2]
def rq:CC:=gq Tryz.f36 [1] {} _
def qA:List ai:=[.tmp 2]
def nb:CC:=gq Tryz.f37 [2] { bx:=[1,23] } _
def mR:List ai:=[.tmp 4]
def yl:CC:=gq Tryz.f12 [1] { bx:=[7] } _
def xw:List ai:=[.tmp 2]
def DF:CC:=gq Tryz.f79 [1] {} _
def CH:List ai:=[.tmp 2]
def DH:CC:=gq Tryz.f103 [1] {} _
def CK:List ai:=[.tmp 2]
def lP:CC:=gq Tryz.f234 [1] {} _
def lG:List ai:=[.tmp 2, .tmp 3]
def Ba:CC:=gq Tryz.f170 [1] {} _
def Ag:List ai:=[.tmp 2, .tmp 3]
def yi:CC:=gq Tryz.f169 [3,1044033,1040033,1037033] { cu:=[2,5] } _
def xr:List ai:=[.tmp 4]
def DD:CC:=gq Tryz.f23 [] {} _
def CE:List ai:=[.tmp 4]
def DE:CC:=gq Tryz.f50 [2,3] {} _
def CG:List ai:=[.tmp 4]
def RV:FO ux [1] yy xM 8:=fo
def VA:FO sG [1] lP lG 105:=fo
def VD:FO Dk [1] Ba Ag 11:=fo
def RD:FO AR [3,1044033,1040033,1037033] yi xr 45:=fo
def ZM:FO Gz [] DD CE 26:=fo
def ZN:FO AS [2,3] DE CG 24:=fo
def Qw:CC:=gq Tryz.f59 [] {} _
def OY:List ai:=[.tmp 4]
def qjG:FO wZ [] Qw OY 16:=fo
def qe:CC:=gq Tryz.f139 [] {} _
def oP:List ai:=[.tmp 2]
def Iu:FO iC [] qe oP 21:=fo
def sR:CC:=gq Tryz.f140 [] {} _
def sx:List ai:=[.tmp 2]
def L4:FO rc [] sR sx 17:=fo
def iu:CC:=gq Tryz.f77 [] {} _
def gZ:List ai:=[.tmp 2]
def zt:FO aK [] iu gZ 29:=fo
def qd:CC:=gq Tryz.f262 [] {} _
def oO:List ai:=[.tmp 2]
def It:FO bQ [] qd oO 25:=fo
def Bo:CC:=gq Tryz.f204 [] { cu:=[2,7,9] } _
def At:List ai:=[.tmp 2]
def VV:FO sM [] Bo At 81:=fo
def Bn:CC:=gq Tryz.f298 [] {} _
def As:List ai:=[.tmp 2]
def VU:FO sL [] Bn As 16:=fo
def Bm:CC:=gq Tryz.f294 [] {} _
def Ar:List ai:=[.tmp 2, .tmp 3]
def VT:FO Dr [] Bm Ar 69:=fo
def DJ:CC:=gq Tryz.f178 [] {} _
def CM:List ai:=[.tmp 2]
def ZU:FO GO [] DJ CM 4:=fo
def wc:CC:=gq Tryz.f179 [] {} _
def uZ:List ai:=[.tmp 4]
def Pi:FO yc [] wc uZ 13:=fo
def jX:CC:=gq Tryz.f116 [2,3] {} _
def jM:List ai:=[.tmp 4]
def B2:FO gw [2,3] jX jM 122:=fo
def nK:CC:=gq Tryz.f56 [] { cu:=[6] } _
def nt:List ai:=[.tmp 2]
def F6:FO pH [] nK nt 47:=fo
def Bj:CC:=gq Tryz.f246 [2] {} _
def Ao:List ai:=[.tmp 4]
def VP:FO Do [2] Bj Ao 17:=fo
def Bg:CC:=gq Tryz.f247 [] {} _
def Am:List ai:=[.tmp 2]
def VN:FO wY [] Bg Am 42:=fo
def yo:CC:=gq Tryz.f248 [3] {} _
def xz:List ai:=[.tmp 6]
def RL:FO uw [3] yo xz 32:=fo
def DK:CC:=gq Tryz.f249 [] {} _
def CN:List ai:=[.tmp 4]
def ZV:FO GP [] DK CN 24:=fo
def yr:CC:=gq Tryz.f250 [2] {} _
def xF:List ai:=[.tmp 4]
def RO:FO A0 [2] yr xF 27:=fo
def yq:CC:=gq Tryz.f251 [] {} _
def xE:List ai:=[.tmp 4]
def RN:FO AZ [] yq xE 27:=fo
def qc:CC:=gq Tryz.f180 [] {} _
def oL:List ai:=[.tmp 2, .tmp 3]
def Is:FO rb [] qc oL 42:=fo
def yp:CC:=gq Tryz.f181 [1] {} _
def xD:List ai:=[.tmp 2, .tmp 3]
def RM:FO AY [1] yp xD 48:=fo
def Bf:CC:=gq Tryz.f182 [1] {} _
def Al:List ai:=[.tmp 2, .tmp 3]
def VM:FO Dm [1] Bf Al 96:=fo
def wb:CC:=gq Tryz.f183 [1] {} _
def uY:List ai:=[.tmp 2, .tmp 3]
def Ph:FO yb [1] wb uY 143:=fo
def Bl:CC:=gq Tryz.f184 [3] { cu:=[14,17,20,26] } _
def Aq:List ai:=[.tmp 4, .tmp 5]
def VS:FO Dq [3] Bl Aq 128:=fo
def Bh:CC:=gq Tryz.f185 [1] { cu:=[2,5,11,14] } _
def An:List ai:=[.tmp 2, .tmp 3]
def VO:FO Dn [1] Bh An 86:=fo
def tP:CC:=gq Tryz.f117 [1] {} _
def ti:List ai:=[.tmp 2, .tmp 3, .tmp 4]
def MW:FO vH [1] tP ti 74:=fo
def Bk:CC:=gq Tryz.f60 [1] {} _
def Ap:List ai:=[.tmp 2]
def VR:FO Dp [1] Bk Ap 14:=fo
def jW:CC:=gq Tryz.f61 [] {} _
def jL:List ai:=[.tmp 4]
def B1:FO kZ [] jW jL 26:=fo
def tQ:CC:=gq Tryz.f62 [2] {} _
def tj:List ai:=[.tmp 4]
def MX:FO vI [2] tQ tj 21:=fo
def tO:CC:=gq Tryz.f63 [1] {} _
def th:List ai:=[.tmp 2, .tmp 3]
def MV:FO vG [1] tO th 32:=fo
def yt:CC:=gq Tryz.f26 [2,3,2101010,1100097,2108010,1107104,2145010,1144141,2182010,1181178] { cu:=[7,13,19,26,33,48] } _
def xG:List ai:=[.cell 4 true 7, .tmp 5]
def RP:FO A1 [2,3,2101010,1100097,2108010,1107104,2145010,1144141,2182010,1181178] yt xG 273:=fo
def zD:CC:=gq Tryz.f55 [] {} _
def zh:List ai:=[.tmp 2]
def Tf:FO sP [] zD zh 8:=fo
def Lq:CC:=gq Tryz.f52 [] {} _
def Ku:List ai:=[.tmp 2]
def qgq:FO Qa [] Lq Ku 7:=fo
def Qu:CC:=gq Tryz.f53 [] {} _
def OW:List ai:=[.tmp 2]
def qjE:FO WI [] Qu OW 7:=fo
def yz:CC:=gq Tryz.f54 [] {} _
def xN:List ai:=[.tmp 2]
def RW:FO A3 [] yz xN 7:=fo
def tZ:CC:=gq Tryz.f51 [] {} _
def tz:List ai:=[.tmp 0]
def M6:FO vN [] tZ tz 5:=fo
def wn:CC:=gq Tryz.f25 [] {} _
def CO:List ai:=[.tmp 4]
def Ps:FO bS [] wn CO 35:=fo
def Qv:CC:=gq Tryz.f6 [999] {} _
def OX:List ai:=[.tmp 2]
def qjF:FO WJ [999] Qv OX 11:=fo
def nN:CC:=gq Tryz.f24 [100026,2067008] { cu:=[3,5,12,19,22,28] } _
def nA:List ai:=[.cell 6 true 7]
def F9:FO pN [100026,2067008] nN nA 177:=fo
def tV:CC:=gq Tryz.f57 [1061061,1096061,2063001,2098001] { bx:=[1],cu:=[12] } _
def tt:List ai:=[]
def M2:FO vK [1061061,1096061,2063001,2098001] tV tt 100:=fo
def tX:CC:=gq Tryz.f58 [1038027,1034027,1031027,2076042,2075040] { bx:=[1],cu:=[10,14] } _
def tv:List ai:=[]
def M4:FO vL [1038027,1034027,1031027,2076042,2075040] tX tv 102:=fo
def rG:CC:=gq Tryz.f7 [] {} _
def qL:List ai:=[.cell 4 true 7]
def KQ:FO tG [] rG qL 36:=fo
def yB:CC:=gq Tryz.f113 [] {} _
def xO:List ai:=[.tmp 2]
def nR:CC:=gq Tryz.f114 [] {} _
def nE:List ai:=[.tmp 4]
def rI:CC:=gq Tryz.f171 [] {} _
def qN:List ai:=[.tmp 2]
def rH:CC:=gq Tryz.f43 [2] {} _
def qM:List ai:=[.tmp 4]
def yj:CC:=gq Tryz.f47 [2] {} _
def xt:List ai:=[.cell 4 true 4, .tmp 5]
variable {S S0:Nat->Spc}
def Ns(c:Int):Bool:=decide (65<=c/\c<=90\/97<=c/\c<=122\/c=95)
def R9(c:Int):Bool:=Ns c||decide (48<=c/\c<=57\/c=45)
def QL(s:B):Prop:=1<=s.size/\s.size<=32/\(∀c:UInt8,s.data[0]? =some c->Ns c.toNat=true)/\∀(k:Nat) (c:UInt8),s.data[k]? =some c->R9 c.toNat=true
noncomputable def ay(s:B):Bool:= @decide (QL s) (Classical.propDecidable _)
def FJ(s:B):ay s=true↔QL s:= @decide_eq_true_iff (QL s) (Classical.propDecidable _)
def Yv{s:B}(h:QL s):true=ay s:=((FJ s).2 h).symm
def sj{s:B}(h:¬QL s):false=ay s:=by
 rcases hb:ay s
 ·rfl
 ·exact absurd ((FJ s).1 hb) h
abbrev zd:Spc:=ax (a1 U8) (λ_=>True) (enc (X:=Bool)) λx y=>y=Ns x.val
abbrev Ie:Spc:=ax (a1 U8) (λ_=>True) (enc (X:=Bool)) λx y=>y=R9 x.val
abbrev ot:Spc:=ax (a1 B) (λ_=>True) (enc (X:=Bool)) λx y=>y=ay x
def MB:aq rE qJ S (a1 U8) (λ_=>True) (enc (X:=Bool)) λx y=>y=Ns x.val:=by
 rintro⟨c⟩ -;simp[rE,qJ,Ns]
 repeat' first|apply And.intro|intro _
 all_goals first|omega|(rw[qGD];simp;omega)
def Uv:aq qe oP S (a1 U8) (λ_=>True) (enc (X:=Bool)) λx y=>y=Ns x.val:=by
 rintro⟨c⟩ -;simp[qe,oP,Ns]
 repeat' first|apply And.intro|intro _
 all_goals first|omega|(rw[qGD];simp;omega)
def MA(h1:S ct=zd):aq rD qI S (a1 U8) (λ_=>True) (enc (X:=Bool)) λx y=>y=R9 x.val:=by
 rintro⟨c⟩ -;simp[rD,qI,h1,R9,-fB'];rcases hb:Ns c<;>simp[hb]
 repeat' first|apply And.intro|intro _
 all_goals first|omega|(rw[qGD];simp;omega)
def Yg(h1:S iC=zd):aq sR sx S (a1 U8) (λ_=>True) (enc (X:=Bool)) λx y=>y=R9 x.val:=by
 rintro⟨c⟩ -;simp[sR,sx,h1,R9,-fB'];rcases hb:Ns c<;>simp[hb]
 repeat' first|apply And.intro|intro _
 all_goals first|omega|(rw[qGD];simp;omega)
theorem J0(h1:S iC=zd)(h2:S rc=Ie):aq iu gZ S (a1 B) (λ_=>True) (enc (X:=Bool)) λx y=>y=ay x:=by
 rintro s -;simp[iu,gZ,h1,h2];refineλ_=>⟨λl _=>⟨λp=>⟨by omega,λc hc=>⟨λhb=>(sj λh=>by rw[h.2.2.1 c hc]at hb;cases hb).symm,λhb=>?_⟩⟩,λp=>(sj λh=>by have:=h.2.1;omega).symm⟩,λl=>(sj λh=>by have:=h.1;omega).symm⟩
 refine aA (X:=Nat) [0] [] (λk=>1<=k/\k<=s.size/\∀(j:Nat) (c:UInt8),j<k->s.data[j]? =some c->R9 c.toNat=true) (λk=>[(3,enc (k:Int))]) (λ_=>[]) (λk=>s.size -k) 1 ⟨by omega,by omega,λj d q a=>?_⟩ ?_
 ·have:j=0:=by omega
  subst this;rw[hc]at a;cases a;simp[R9,hb]
 rintro k ⟨h3,h4,h5⟩;simp[h2];refineλ_=>⟨λhk=>⟨by omega,λd a=>⟨λb=>(sj λh=>by rw[h.2.2.2 k d a]at b;cases b).symm,λr=>⟨by simp only[InR];omega,k+1,⟨by omega,by omega,λj e q he=>?_⟩,by omega,by omega⟩⟩⟩,λhk=>?_⟩
 ·by_cases t:j=k
  ·subst t;rw[a]at he;cases he;exact r
  ·exact h5 j e (by omega) he
 ·refine(Yv ⟨by omega,by omega,λd a=>by rw[hc]at a;cases a;exact hb,λj e he=>h5 j e ?_ he⟩).symm;have:=(qGg.1 he).1;have:j<s.size:=this;omega
theorem FB(h1:S ct=zd)(h2:S fb=Ie):aq mF mg S (a1 B) (λ_=>True) (enc (X:=Bool)) λx y=>y=ay x:=by
 rintro s -;simp[mF,mg,h1,h2];refineλ_=>⟨λl _=>⟨λp=>⟨by omega,λc hc=>⟨λhb=>(sj λh=>by rw[h.2.2.1 c hc]at hb;cases hb).symm,λhb _=>?_⟩⟩,λp=>(sj λh=>by have:=h.2.1;omega).symm⟩,λl=>(sj λh=>by have:=h.1;omega).symm⟩
 refine ah (X:=Unit) [0] [] s.size (λk _=>∀(j:Nat) (c:UInt8),j<k->s.data[j]? =some c->R9 c.toNat=true) (λ_=>[]) (λ_=>[]) () (by intro j d q;omega) ?_ ?_
 ·rintro k -hk h5;simp[h2];refine⟨hk,λd a=>⟨λb=>(sj λh=>by rw[h.2.2.2 k d a]at b;cases b).symm,λr j e q he=>?_⟩⟩;by_cases t:j=k
  ·subst t;rw[a]at he;cases he;exact r
  ·exact h5 j e (by omega) he
 ·rintro -h5;simp;refine(Yv ⟨by omega,by omega,λd a=>by rw[hc]at a;cases a;exact hb,λj e he=>h5 j e ?_ he⟩).symm;exact(qGg.1 he).1
end
section

open Cod (enc dec)
variable {dq:Prop}
section
variable {X Y:Type}
def qp8(cf:Y->List D)(b:Nat)(post:Y->Prop)(r:D)(H:ab):Prop:=∃y cs,r= .tup []/\H 1=some (.box b cs)/\FzL (qoq 1 [] H) cs (cf y)/\post y
def Xn(cc:CC)(rs:List ai)(S:Nat->Spc)(ce:X->List D)(cf:Y->List D)(pre:X->Prop)(post:X->Y->Prop):Prop:=
 ∀L b x,pre x->vc S cc (wC rs λr H'=>qp8 cf b (post x) r H') (dI [.tape L, .bptr 1 b 0]) (aj dm 1 (some (.box b (ce x))))
variable {P:Program}{S:Nat->Spc}{f:Nat}{im:List Nat}{cc:CC}{rs:List ai}{N:Nat}
theorem LJ{ce:X->List D}{cf:Y->List D}{pre:X->Prop}{post:X->Y->Prop}(t:∀f,Tri dq P f (S f).pt)(h:BA P f im cc rs N)(u:2<=N)(w:Xn cc rs S ce cf pre post):Tri dq P f (qzV ce cf pre post).pt:=by
 obtain⟨yH,enter,fn,code,h1,h2,h3,h4,h5⟩:=h;refine qce t yH h1 h2 enter h3 h4 h5 ?_;rintro ds H d K ⟨L,id,b,x,rfl,hid,hp,A⟩;refine⟨u, [.tape L, .bptr 1 b 0],aj dm 1 (some (.box b (ce x))),λ_=>id, .cons (.same _) (.cons (.bptr _ _ _ _) .nil),λi r h=>?_,λi j r s h C _=>?_,_,w L b x hp,?_⟩
 ·by_cases e:i=1
  ·subst e;simp only[aj,if_true]at h;cases h;exact hid
  ·simp[aj,e,dm]at h
 ·have a:i=1:=by
   by_cases e:i=1
   ·exact e
   ·simp[aj,e,dm]at h
  have b:j=1:=by
   by_cases e:j=1
   ·exact e
   ·simp[aj,e,dm]at C
  exact a.trans b.symm
 ·rintro r H' ⟨y,cs,rfl,l,hz,c⟩;have E:=qoi (H:=H') 1 b cs (cf y) [] l hz.get.1 hz.get.2;have l:left 1 b (cf y) [] H' 1=some (.box b (cf y)):=rfl;refine⟨.tup [],left 1 b (cf y) [] H',dm,aj H id (some (.box b (cf y))),λi=>if i=id then some 1 else none,E, .same _,λj q h=>by simp[dm]at h,A y c,λi s hi=>?_,λi p k s q hi F I J=>?_⟩
  ·by_cases e:i=id
   ·subst e;simp only[aj,if_true]at hi;cases hi;simpa using l
   ·simp only[aj,e,if_false]at hi ⊢;exact⟨hi,λk q h he=>e he.symm⟩
  ·have a:i=id:=by
    by_cases e:i=id
    ·exact e
    ·simp[e]at I
   have b:p=id:=by
    by_cases e:p=id
    ·exact e
    ·simp[e]at J
   exact a.trans b.symm
end
end
section
section
variable {S:Nat->Spc}{σ:Sg}{H:ab}{K:Ex->Sg->ab->Prop}
theorem uB{X:Type}(ks hk c p:List Nat)(qhB rn:List (Nat×Nat))(P:X->Prop)(l:X->List (Nat×D))(hp:X->List (Nat×Res))(m:X->Nat)(d:X)(ids:List Nat)(a:∀x,(hp x).map (·.1)=ids)
 (j:qsO qhB (ids++hk) c/\∀i∈hk,i∉ids->qhA qhB i=i) (hi:qsO rn (ids++hk) p/\∀i∈hk,i∉ids->qhA rn i=i) {k:Nat} {b:CC} (h0:P d)
 (hs:Bz (qeV c H) (l d) σ) (hh:yG (qeV c H) qhB (hp d) H)
 (q:∀x,P x->vc S b (qfK P (λy=>qfE σ H ks hk p rn (l y) (hp y)) m x K) (sV (l x) (jr ks σ)) (gT (hp x) (js hk H))):vc S (.loop k b) K σ H:=by
 rw[WV];refine⟨⟨X,P,λx=>sV (l x) (jr ks σ),λx=>gT (hp x) (js hk H),m⟩,⟨d,h0,JT (by rw[a d];exact j.1) (by rw[a d];exact j.2) hs (λ_ _=>rfl) hh (λ_ _=>rfl)⟩,λx r=>zR b _ _ (λe s H' h=>?_) (q x r)⟩;cases e with
 | norm=>
   obtain⟨y,h1,h2,h3⟩:=h;exact⟨y,h1,JT (by rw[a y];exact hi.1) (by rw[a y];exact hi.2) h2.1 h2.2.1 h2.2.2.1 h2.2.2.2,h3⟩
 |ex i=>exact h
 |ret=>exact h
end
def qhJ{b:Sg}{H:ab}(t id:Nat)(x:Value)(el n:Nat)(es:List D)(h1:b t= .own id x)(h2:H id=some (.row x el n es)):Wk b H (upd b t (.sub id x n 0 es.length)) H:=by
 intro E a w ⟨h,j,tp,c,d⟩;refine⟨h,j,tp,c,λs=>?_⟩;unfold upd;split
 ·rename_i e;subst e;have h3:=d s;rw[h1]at h3;have k:a.tmps.getD s undef=x:=by
   generalize a.tmps.getD s undef=y at h3;cases h3;rfl
  obtain⟨xs,⟨_,h4⟩,_⟩:=c.sat.ok id _ h2;rw[k];rcases h4 with⟨rfl,h5⟩|⟨g,cap,cur,rfl,_,_,h6,l,_⟩
  ·rw[h5];exact .subnil id n
  ·exact .sub id g es.length cap n 0 es.length _ (qGr _) (qGb _) h6 l (λ_=>by simp)
 ·exact d s
open Cod (enc dec) in
def qvE{X:Type}[Cod X]{H:ab}{id n hi:Nat}{v:Value}{l:List X}(el:Nat)(h:H id=some (.row v el n (l.map enc)))(hh:hi=l.length)(hn:n=Cod.wd X:=by rfl):FrzTo H (.sub id v n 0 hi) (.list n (l.map enc)):=by
 subst hh;have e:((l.map (enc (X:=X))).take l.length).drop 0=l.map enc:=by
  rw[List.drop_zero,qGR (by simp)]
 refine .sub h (by rw[e]) (λd hd=>?_) (λk c c' h1 h2=>?_)
 ·obtain⟨x,_,rfl⟩:=qGd.1 hd;exact⟨Cod.kn x,(Cod.wid x).trans hn.symm⟩
 ·rw[e,h2]at h1;cases h1;exact .same _
open Cod (enc dec)
variable {dq:Prop}
section
variable {X Y:Type}[Cod X][Cod Y]
def qB8(pre:X->List Y->Prop)(post:X->List Y->List Y->Prop)(el n:Nat):PT:=λd ds H K=>∃id v l a x,ds=[a, .own id v]/\dec a=some x/\H id=some (.row v el n (l.map enc))/\pre x l/\
 ∀v' b,post x l b->K (.own id v') (aj H id (some (.row v' el n (b.map enc))))
def qoh(pre:X->List Y->Prop)(post:X->List Y->List Y->Prop)(el n:Nat):qq (qB8 pre post el n):=λd ds H K c hk ⟨id,v,l,a,x,h1,h2,h3,h4,h5⟩=>⟨id,v,l,a,x,h1,h2,h3,h4,λv' b hp=>hk _ _ (h5 v' b hp)⟩
def qmn(pre:X->List Y->Prop)(post:X->List Y->List Y->Prop)(el n:Nat):Spc:= .gen _ (qoh pre post el n)
def qyS(pre:X->List Y->Prop)(post:X->List Y->List Y->Prop)(el n id:Nat)(v:Value)(o:Option X)(r:Option Res)(H:ab)(K:D->ab->Prop):Prop:=∃l,r=some (.row v el n (l.map enc))/\gK o λx=>pre x l/\∀v' a,post x l a->K (.own id v') (aj H id (some (.row v' el n (a.map enc))))
@[congr] theorem qB7{pre:X->List Y->Prop}{post:X->List Y->List Y->Prop}{el n id:Nat}{v:Value}{o a:Option X}{r r':Option Res}{H:ab}{K:D->ab->Prop}(h1:o=a)(h2:r=r'):qyS pre post el n id v o r H K=qyS pre post el n id v a r' H K:=by grind
@[simp] theorem qB9(pre:X->List Y->Prop)(post:X->List Y->List Y->Prop)(el n:Nat)(d i:Nat)(a:D)(v:Value)(H:ab)(K:D->ab->Prop):(qmn pre post el n).pt d [a, .own i v] H K=qyS pre post el n i v (dec a) (H i) H K:=by
 refine propext ⟨λh=>?_,λh=>?_⟩
 ·obtain⟨id,v,l,a,x,h1,h2,h3,h4,h5⟩:=h;cases h1;refine⟨l,h3,?_⟩;rw[h2];exact⟨h4,h5⟩
 ·obtain⟨l,h1,h2⟩:=h;cases b:dec (X:=X) a with
  |none=>rw[b]at h2;exact h2.elim
  |some x=>rw[b]at h2;exact⟨i,v,l,a,x,rfl,b,h1,h2.1,h2.2⟩
@[simp] theorem qEz(pre:X->List Y->Prop)(post:X->List Y->List Y->Prop)(el n id:Nat)(v:Value)(o:Option X)(l:List Y)(H:ab)(K:D->ab->Prop):qyS pre post el n id v o (some (.row v el n (l.map enc))) H K=gK o λx=>pre x l/\∀v' a,post x l a->K (.own id v') (aj H id (some (.row v' el n (a.map enc)))):=by
 refine propext ⟨λ⟨a,h1,h2⟩=>?_,λh=>⟨l,rfl,h⟩⟩;simp at h1;subst h1;exact h2
def QK(cc:CC)(rs:List ai)(S:Nat->Spc)(pre:X->List Y->Prop)(post:X->List Y->List Y->Prop)(el n:Nat):Prop:=
 ∀v l x,pre x l->vc S cc (wC rs λr H'=>qph el n (post x l) r H') (dI [enc x, .own 1 v]) (aj dm 1 (some (.row v el n (l.map enc))))
variable {P:Program}{S:Nat->Spc}{f:Nat}{im:List Nat}{cc:CC}{rs:List ai}{N:Nat}{el n:Nat}
theorem zV{pre:X->List Y->Prop}{post:X->List Y->List Y->Prop}(t:∀f,Tri dq P f (S f).pt)(h:BA P f im cc rs N)(u:2<=N)(w:QK cc rs S pre post el n):Tri dq P f (qmn pre post el n).pt:=by
 obtain⟨yH,enter,fn,code,h1,h2,h3,h4,h5⟩:=h;refine nU t yH h1 h2 enter h3 h4 h5 ?_;rintro ds H d K ⟨id,v,l,a,x,rfl,y,hid,hp,A⟩;have hl:=Cod.le _ _ y;refine⟨u, [enc x, .own 1 v],aj dm 1 (some (.row v el n (l.map enc))),λ_=>id, .cons hl (.cons (.own _ _ _) .nil),λi r h=>?_,λi j r s h C _=>?_,_,w v l x hp,?_⟩;simp_all
 ·have a:i=1:=by
   by_cases e:i=1;omega
   ·simp[aj,e]at h
  have b:j=1:=by
   by_cases e:j=1;omega
   ·simp[aj,e]at C
  omega
 ·rintro r H' ⟨j,v',p,rfl,F,c⟩;refine⟨.own id v',dm,aj H id (some (.row v' el n (p.map enc))),λi=>if i=id then some j else none, .own _ _ _,λj q h=>by simp at h,A v' p c,λi s hi=>?_,λi I k s q hi E J L=>?_⟩
  ·by_cases e:i=id;simp_all;simp_all;omega
  grind
end
section
variable {X Y Z:Type}
structure Sn (X:Type) where
 ids:List Nat
 ce:X->List D
 hp:X->List (Nat×Res)
 keys:∀x,(hp x).map (·.1)=ids
def qbp:∀{l:List (Nat×Res)} {i:Nat} {s:Res},gT l dm i=some s->(i,s) ∈l
 | [],i,s,h=>by simp_all
 | (j,r)::l,i,s,h=>by
  simp only[gT,aj]at h;by_cases e:i=j;grind
  ·simp only[e,if_false]at h;exact qHF _ (qbp h)
def qbq:∀{l:List (Nat×Res)} {H:ab} {i:Nat} {s:Res},i∈l.map (·.1)->gT l H i=some s->(i,s) ∈l
 | (j,r)::l,H,i,s,hi,h=>by
  simp only[gT,aj]at h;by_cases e:i=j;grind
  ·simp only[e,if_false]at h;simp[e]at hi;refine qHF _ (qbq (H:=H) ?_ h);grind
def qbo:∀{l:List (Nat×Res)} {H:ab} {i:Nat},i∉l.map (·.1)->gT l H i=H i
 | [],H,i,_=>rfl
 | (j,r)::l,H,i,hi=>by
  simp only[qGG,qGm,not_or]at hi;simp only[gT,aj,hi.1,if_false];exact qbo hi.2
def qDs(B:Sn X)(A:fN Z)(er:Y->D)(pre:X->Z->Prop)(post:X->Z->X->Y->Prop):PT:=λd ds H K=>∃id b x z a,ds= .bptr id b 0::a/\A.dec a=some z/\H id=some (.box b (B.ce x))/\(∀p∈B.hp x,H p.1=some p.2)/\id∉B.ids/\pre x z/\
 ∀c y,post x z c y->K (er y) (aj (gT (B.hp c) H) id (some (.box b (B.ce c))))
def qoZ(B:Sn X)(A:fN Z)(er:Y->D)(pre:X->Z->Prop)(post:X->Z->X->Y->Prop):qq (qDs B A er pre post):=λd ds H K j hk ⟨id,b,x,z,a,h1,h2,h3,h4,h5,h6,c⟩=>⟨id,b,x,z,a,h1,h2,h3,h4,h5,h6,λh y hp=>hk _ _ (c h y hp)⟩
def qwv(B:Sn X)(A:fN Z)(er:Y->D)(pre:X->Z->Prop)(post:X->Z->X->Y->Prop):Spc:= .gen _ (qoZ B A er pre post)
def TV(B:Sn X)(er:Y->D)(b:Nat)(post:X->Y->Prop)(r:D)(H:ab):Prop:=∃x y,FrzTo (λi=>if i=0\/i∈B.ids then none else H i) r (er y)/\H 0=some (.box b (B.ce x))/\(∀p∈B.hp x,H p.1=some p.2)/\post x y
def qdA(cc:CC)(rs:List ai)(S:Nat->Spc)(B:Sn X)(A:fN Z)(er:Y->D)(pre:X->Z->Prop)(post:X->Z->X->Y->Prop):Prop:=
 ∀b x z,pre x z->vc S cc (wC rs λr H'=>TV B er b (post x z) r H') (dI (.bptr 0 b 0::A.view z)) (aj (gT (B.hp x) dm) 0 (some (.box b (B.ce x))))
variable {P:Program}{S:Nat->Spc}{f:Nat}{im:List Nat}{cc:CC}{rs:List ai}{N:Nat}
theorem FP{B:Sn X}{A:fN Z}{er:Y->D}{pre:X->Z->Prop}{post:X->Z->X->Y->Prop}(w:0∉B.ids)(C:∀f,Tri dq P f (S f).pt)(h:BA P f im cc rs N)(O:∀z,(A.view z).length+1<=N)(E:qdA cc rs S B A er pre post):Tri dq P f (qwv B A er pre post).pt:=by
 obtain⟨yH,enter,fn,code,h1,h2,h3,h4,h5⟩:=h;refine nU C yH h1 h2 enter h3 h4 h5 ?_;rintro ds H d K ⟨id,b,x,z,l,rfl,F,hid,I,J,hp,L⟩;have hl:=A.le l z F;have h0:∀i r,aj (gT (B.hp x) dm) 0 (some (.box b (B.ce x))) i=some r->i=0/\r= .box b (B.ce x)\/i≠0/\(i,r) ∈B.hp x:=by
  intro i r h;by_cases e:i=0;simp_all;simp_all [qbp]
 have hk:∀{x:X} {i:Nat} {r:Res},(i,r) ∈B.hp x->i∈B.ids:=by
  intro x i r h;rw[<-B.keys x];grind
 refine⟨by simp only[qGT];rw[hl.1];grind, .bptr 0 b 0::A.view z,aj (gT (B.hp x) dm) 0 (some (.box b (B.ce x))),λi=>if i=0 then id else i, .cons (.bptr _ _ _ _) hl,λi r h=>?_,λi j r s h Q e=>?_,_,E b x z hp,?_⟩;grind;grind
 ·rintro r H' ⟨p,y,t,U,c,a⟩;refine⟨er y,λi=>if i=0\/i∈B.ids then none else H' i,aj (gT (B.hp p) H) id (some (.box b (B.ce p))),λi=>if i=id then some 0 else if i∈B.ids then some i else none,t,λj q h=>?_,L p y a,λi s hi=>?_,λi W k s q hi M e1 u=>?_⟩;grind
  ·by_cases e:i=id;simp_all
   ·simp only[aj,e,if_false]at hi ⊢;by_cases u:i∈B.ids
    ·simp only[u,if_true];exact c _ (qbq (by grind [Tri,qdA,dH,aG,B.keys]) hi)
    ·simp only[u,if_false];rw[qbo (by grind)]at hi;refine⟨hi,λk q h he=>?_⟩;rcases h0 k q h with⟨rfl,rfl⟩|⟨e3,hm⟩
     grind;grind
  grind
def qhm{X:Type}(ce:X->List D):Sn X:=⟨[],ce,λ_=>[],λ_=>rfl⟩
end
structure qpZ where
 txt:B
 tD:Int
 kind:Int
 text:B
 pos:Int
section
variable {Y Z:Type}
variable {P:Program}{S:Nat->Spc}{f:Nat}{im:List Nat}{cc:CC}{rs:List ai}{N:Nat}
end
section
variable {Y Z:Type}
variable {P:Program}{S:Nat->Spc}{f:Nat}{im:List Nat}{cc:CC}{rs:List ai}{N:Nat}
end
end
section
section
variable (N:qpZ->Option (qpZ×Cond))(O:qpZ->Option (qpZ×Cond))
end
section
variable (A:qpZ->Bool->Option (qpZ×Pat))(O:qpZ->Option (qpZ×Cond))
end
def GlobE:Glob:=⟨0,E0,E0,E0,E0,E0,false,0,0, [], []⟩
def uN:B:=⟨#[119,111,114,100]⟩
def LL:B:=⟨#[116,97,103]⟩
def FR:B:=⟨#[102,101,97,116]⟩
def ValsT:List B:=[⟨#[97]⟩,⟨#[98]⟩,⟨#[97,46,42]⟩,⟨#[91,97,98,93]⟩]
def ValsI:List B:=[⟨#[97]⟩,⟨#[98]⟩,⟨#[97,46,42]⟩,⟨#[91,97,98,93]⟩,⟨#[88]⟩,⟨#[]⟩,⟨#[99,63]⟩,⟨#[97,124,98]⟩,⟨#[89]⟩,⟨#[97,124,88]⟩]
def Attr2:List B:=[uN,LL]
def FeatL:List B:=[⟨#[112]⟩,⟨#[113]⟩]
def NumL:List B:=[⟨#[49]⟩,⟨#[50]⟩]
def qpp:B:=⟨#[110]⟩
inductive GA (lb:List B):Cond->Prop
 |val (n v:B) (f:Bool) (h1:n∈Attr2) (h2:v∈ValsI):GA lb ⟨2,n,E0,v,E0,f, []⟩
 |feat (v:B) (h:v∈FeatL):GA lb ⟨3,FR,E0,v,E0,false, []⟩
 |same (n l a:B) (h1:n∈Attr2) (h2:l∈lb) (h3:a∈Attr2):GA lb ⟨4,n,a,E0,l,false, []⟩
 |reg (n:B) (h:n∈Types):GA lb ⟨5,n,E0,E0,E0,false, []⟩
 |regk (n v:B) (h1:n∈Types) (h2:v∈NumL):GA lb ⟨5,n,qpp,v,E0,false, []⟩
inductive GI (lb:List B):Nat->Cond->Prop
 |atom (n:Nat) (c:Cond) (h:GA lb c):GI lb n c
 |not (n:Nat) (k:Cond) (h:GI lb n k):GI lb (n+1) ⟨6,E0,E0,E0,E0,false, [k]⟩
 |two (n:Nat) (op:Int) (a b:Cond) (ho:op=7\/op=8) (h1:GI lb n a) (h2:GI lb n b):GI lb (n+1) ⟨op,E0,E0,E0,E0,false, [a,b]⟩
inductive GC (lb:List B) (n:Nat):Cond->Prop
 |any:GC lb n ⟨1,E0,E0,E0,E0,false, []⟩
 |top (v:B) (f:Bool) (h:v∈ValsT):GC lb n ⟨2,E0,E0,v,E0,f, []⟩
 |inner (c:Cond) (h:GI lb n c):GC lb n c
theorem wR{lb:List B}{c:Cond}(h:GA lb c):c.kids=[]:=by cases h<;>rfl
def qeZ{lb:List B} :∀{n:Nat} {c:Cond},GI lb n c->CS n c
 | _,_, .atom n c h=>qdp (wR h)
 | _,_, .not n k h=>qsf rfl rfl (qeZ h)
 | _,_, .two n op a b _ h1 h2=>qse rfl rfl (qeZ h1) (qeZ h2)
def qvA{lb:List B}{n:Nat}{c:Cond}(h:GC lb n c):CS n c:=by
 cases h with
 |any=>exact qdp rfl
 |top v f h=>exact qdp rfl
 |inner c h=>exact qeZ h
def qrE(l:List B)(x:B):Bool:=l.any λz=>decide (z=x)
def qal(l:List B)(x:B):qrE l x=true↔x∈l:=by
 unfold qrE;simp
instance decMem (l:List B) (x:B):Decidable (x∈l):=if h:qrE l x=true then .isTrue ((qal l x).1 h)else .isFalse λa=>h ((qal l x).2 a)
mutual
def zj(lb:List B):Cond->Cond
 | .mk op n a v l f ks=>if op=4 then(if l∈lb then .mk op n a v l f ks else⟨2,n,E0,⟨#[97,124,88]⟩,E0,false, []⟩)else .mk op n a v l f (qew lb ks)
def qew(lb:List B):List Cond->List Cond
 | []=>[]
 |k::ks=>zj lb k::qew lb ks
end
def SX(lb:List B):∀l:List Cond,qew lb l=l.map (zj lb)
 | []=>by rfl
 |k::l=>by rw[qew,SX lb l];rfl
def nk(lb:List B)(c:Cond):zj lb c=if c.op=4 then(if c.lab∈lb then c else⟨2,c.name,E0,⟨#[97,124,88]⟩,E0,false, []⟩)else⟨c.op,c.name,c.arg,c.val,c.lab,c.fold,c.kids.map (zj lb)⟩:=by
 cases c;rw[zj,SX]
def qcC(lb:List B):zj lb sW=sW:=by
 rfl
mutual
def ni(lb:List B):Pat->Pat
 | .mk op c l r mn mx ks=>⟨op,zj lb c,l,r,mn,mx,Xg lb ks⟩
def Xg(lb:List B):List Pat->List Pat
 | []=>[]
 |k::ks=>ni lb k::Xg lb ks
end
def QD(lb:List B):∀l:List Pat,Xg lb l=l.map (ni lb)
 | []=>by rfl
 |k::l=>by rw[Xg,QD lb l];rfl
def sU(lb:List B)(p:Pat):ni lb p=⟨p.op,zj lb p.cond,p.lab,p.reg,p.mn,p.mx,p.kids.map (ni lb)⟩:=by
 cases p;rw[ni,QD]
def DV(out:List B)(x:B):List B:=if x∈out then out else out++ [x]
mutual
def kg:Pat->List B->List B
 | .mk op c l r mn mx ks,out=>if op=1/\l≠E0 then DV out l else qfp ks out
def qfp:List Pat->List B->List B
 | [],out=>out
 |k::ks,out=>qfp ks (kg k out)
end
def QC:∀(l:List Pat) (out:List B),qfp l out=l.foldl (λo k=>kg k o) out
 | [],out=>by rfl
 |k::l,out=>by rw[qfp,QC l];rfl
def qp(p:Pat)(out:List B):kg p out=if p.op=1/\p.lab≠E0 then DV out p.lab else p.kids.foldl (λo k=>kg k o) out:=by
 cases p;rw[kg,QC]
theorem Wx{lb d:List B} :∀{n:Nat} {c:Cond},GI lb n c->GI d n (zj d c)
 | _,_, .atom n c h=>by
   cases h with
   |val nm v f h1 h2=>rw[nk,if_neg (by decide:¬(2:Int)=4)];exact .atom _ _ (.val nm v f h1 h2)
   |feat v h=>rw[nk,if_neg (by decide:¬(3:Int)=4)];exact .atom _ _ (.feat v h)
   | same nm l a h1 h2 h3=>
     rw[nk,if_pos rfl];split
     ·rename_i hl;exact .atom _ _ (.same nm l a h1 hl h3)
     ·exact .atom _ _ (.val nm _ false h1 (by simp[ValsI]))
   |reg nm h=>rw[nk,if_neg (by decide:¬(5:Int)=4)];exact .atom _ _ (.reg nm h)
   |regk nm v h1 h2=>rw[nk,if_neg (by decide:¬(5:Int)=4)];exact .atom _ _ (.regk nm v h1 h2)
 | _,_, .not n k h=>by
   rw[nk,if_neg (by decide:¬(6:Int)=4)];exact .not n _ (Wx h)
 | _,_, .two n op a b ho h1 h2=>by
   rw[nk,if_neg (show ¬op=4 by omega)];exact .two n op _ _ ho (Wx h1) (Wx h2)
def qrF{lb a:List B}{n:Nat}{c:Cond}(h:GC lb n c):GC a n (zj a c):=by
 cases h with
 |any=>rw[nk,if_neg (by decide:¬(1:Int)=4)];exact .any
 |top v f h=>rw[nk,if_neg (by decide:¬(2:Int)=4)];grind [GC]
 |inner c h=>grind [GC,Wx]
theorem qhI{lb a:List B}{p:Pat}(h:qtK lb p):qtK lb (ni a p):=by
 rw[sU];rcases h with⟨h1,h2,h3,h4,h5,h6⟩|⟨h1,h2,h3,h4,h5,h6,b⟩
 ·exact .inl ⟨h1,h2,h3,h4,h5,by grind⟩
 ·exact .inr ⟨h1,by show zj a p.cond=_;rw[h2,qcC],h3,h4,h5,h6,by grind⟩
def qmE{lb c:List B} :∀n p,WP lb n p->WP lb n (ni c p):=by
 refine JS λn p hp h=>?_
 rcases yL hp with hp|⟨m,rfl,(⟨h1,h2,h3,h4,h5,h6,a,b,l,q,hb⟩|⟨h1,h2,h3,h4,h5,a,l,q⟩)⟩;grind [qAp,qhI]
 ·obtain⟨j,d,_,a1⟩:=h a (by grind);obtain⟨r,k,_,a2⟩:=h b (by grind);have d:j=m:=by omega
  have k:r=m:=by omega
  subst d;subst k;rw[sU];exact .inr (.inl ⟨h1,by show zj c p.cond=_;rw[h2,qcC],h3,h4,h5,h6,_,_,by grind,a1,a2⟩)
 ·obtain⟨j,d,_,a1⟩:=h a (by grind);have d:j=m:=by omega
  subst d;rw[sU];exact .inr (.inr ⟨h1,by show zj c p.cond=_;rw[h2,qcC],h3,h4,h5,_,by grind,a1⟩)
def qac(lb:List B)(p:Pat):am (ni lb p)=(am p).map (ni lb):=by
 induction p using fJ with|_ p b=>?_
 rw[aW,aW p,sU];simp only;split
 ·rw[List.map_singleton,sU]
 ·rw[List.flatMap_map,List.map_flatMap];have:∀ks:List Pat,(∀k∈ks,am (ni lb k)=(am k).map (ni lb))->ks.flatMap (λa=>am (ni lb a))=ks.flatMap (λa=>(am a).map (ni lb)):=by
   intro ks
   induction ks<;>grind
  grind
def qlG(lb:List B)(p:Pat):∀out,kg (ni lb p) out=kg p out:=by
 induction p using fJ with|_ p a=>?_
 intro out;rw[qp,qp p,sU];simp only;split
 ·rfl
 ·have:∀(ks:List Pat) (o:List B),(∀k∈ks,∀out,kg (ni lb k) out=kg k out)->(ks.map (ni lb)).foldl (λo k=>kg k o) o=ks.foldl (λo k=>kg k o) o:=by
   intro ks
   induction ks<;>grind
  grind
def qlV{out:List B}{x y:B}(h:y∈DV out x):y∈out\/y=x:=by
 grind [DV]
def qo0{lb:List B} :∀n p,WP lb n p->∀out,(∀y∈kg p out,y∈out\/y∈lb):=by
 refine JS λn p hp c=>λout y a=>?_
 rw[qp]at a;split at a
 ·rename_i h;rcases qlV a with h1|rfl;grind
  ·rcases yL hp with(⟨h1,h2,_⟩|⟨h1,_⟩)|⟨m,rfl,(⟨h1,_⟩|⟨h1,_⟩)⟩
   ·exact .inr (h2.resolve_left h.2)
   omega;omega;omega
 ·have:∀(ks:List Pat) (o:List B),(∀k∈ks,k∈p.kids)->y∈ks.foldl (λo k=>kg k o) o->y∈o\/y∈lb:=by
   intro ks
   induction ks with
   |nil=>grind
   | cons k ks b=>
     intro o hk h;rw[qHf]at h;rcases b _ (λz hz=>hk z (by grind)) h with h1|h1
     ·obtain⟨m,_,_,h2⟩:=c k (hk k (by simp));grind
     grind
  grind
def QT:List B:=[⟨#[97]⟩,⟨#[98,124,99]⟩,⟨#[46]⟩]
def Xo:List B:=[⟨#[111,98,106]⟩,⟨#[100,101,116]⟩,⟨#[]⟩]
def qbB:List B:=[⟨#[83]⟩,⟨#[78,80]⟩,⟨#[86,80]⟩]
inductive GG (lb:List B):Nat->Glob->Prop
 |bound (n:Nat) (a:B) (h:a∈lb):GG lb n ⟨1,a,E0,E0,E0,E0,false,0,0, [], []⟩
 |val (n:Nat) (a v:B) (f:Bool) (h1:a∈lb) (h2:v∈QT):GG lb n ⟨2,a,E0,uN,E0,v,f,0,0, [], []⟩
 |same (n:Nat) (a b g:B) (h1:a∈lb) (h2:b∈lb) (h3:g∈Attr2):GG lb n ⟨3,a,b,uN,g,E0,false,0,0, [], []⟩
 |dist (n:Nat) (a b:B) (mn mx:Int) (h1:a∈lb) (h2:b∈lb) (h3: -2<=mn) (h4:mn<=2) (h5:mn<=mx) (h6:mx<=mn+3):GG lb n ⟨4,a,b,E0,E0,E0,false,mn,mx, [], []⟩
 |reg (n:Nat) (a b t:B) (h1:a∈lb) (h2:b∈lb) (h3:t∈Types):GG lb n ⟨5,a,b,t,E0,E0,false,0,0, [], []⟩
 |head (n:Nat) (op:Int) (a b:B) (ho:op=6\/op=7) (h1:a∈lb) (h2:b∈lb):GG lb n ⟨op,a,b,E0,E0,E0,false,0,0, [], []⟩
 |path (n:Nat) (a b:B) (l:List B) (h1:a∈lb) (h2:b∈lb) (h3:l.length<=2) (h4:∀x∈l,x∈Xo):GG lb n ⟨8,a,b,E0,E0,E0,false,0,0,l, []⟩
 |node (n:Nat) (a b t:B) (h1:a∈lb) (h2:b∈lb) (h3:t∈qbB):GG lb n ⟨9,a,b,t,E0,E0,false,0,0, [], []⟩
 |depth (n:Nat) (a:B) (mn mx:Int) (h1:a∈lb) (h3:0<=mn) (h4:mn<=2) (h5:mn<=mx) (h6:mx<=mn+1):GG lb n ⟨10,a,E0,E0,E0,E0,false,mn,mx, [], []⟩
 |not (n:Nat) (k:Glob) (h:GG lb n k):GG lb (n+1) ⟨11,E0,E0,E0,E0,E0,false,0,0, [], [k]⟩
 |two (n:Nat) (op:Int) (a b:Glob) (ho:op=12\/op=13) (h1:GG lb n a) (h2:GG lb n b):GG lb (n+1) ⟨op,E0,E0,E0,E0,E0,false,0,0, [], [a,b]⟩
def GF(f:Filt):Prop:=(f.op=1\/f.op=2\/f.op=3)/\f.reg∈Types
structure GQ (n:Nat) (q:Qry):Prop where
 lab:∃lb,qfD lb/\WP lb n q.pat
 cond:∀y∈am q.pat,GC (kg q.pat []) 1 y.cond
 glob:q.glob=GlobE\/GG (kg q.pat []) 2 q.glob
 filts:q.filts.length<=1/\∀f∈q.filts,GF f
 strat:0<=q.strat/\q.strat< 4
def DW:List B:=[⟨#[97]⟩,⟨#[98]⟩,⟨#[99]⟩,⟨#[65]⟩,⟨#[97,98]⟩,⟨#[]⟩]
def QM:List B:=[⟨#[88]⟩,⟨#[89]⟩]
def FsetL:List B:=[⟨#[124]⟩,⟨#[124,112,124]⟩,⟨#[124,112,124,113,124]⟩,⟨#[124,113,124]⟩]
def att3:List Attr:=[⟨⟨#[119,111,114,100]⟩,false⟩,⟨⟨#[116,97,103]⟩,false⟩,⟨⟨#[102,101,97,116]⟩,true⟩]
def qp7(l:List Attr):Prop:=l=att3
def Fh(r:List B):Prop:=∃w t f,w∈DW/\t∈QM/\f∈FsetL/\r=[w,t,f]
def Sl(c:Corpus):Prop:=c.attrs=att3/\∀r∈c.toks,Fh r
open Go.Proofs
def yI:X.Fn:=gx Tryz.f260 _
def Cg:X.Fn:=gx Tryz.f177 _
def yK:X.Fn:=gx Tryz.f77 _
def wI:X.Fn:=gx Tryz.f262 _
def Ua:X.Fn:=gx Tryz.f139 _
def XI:X.Fn:=gx Tryz.f140 _
open X
variable {dq:Prop}
def qCO:List (Nat×X.Fn):=[(jw,yI),(rX,Cg),(aK,yK),(bQ,wI),(iC,Ua),(rc,XI),(sL,Hh),(sM,Hi)]
def qr4:∀p∈qCO,qmq p:=by
 unfold qCO
 repeat' first|exact qqa|refine qhG qAn ?_
noncomputable def Δ2:Nat->Option X.Fn:=ΔL qCO
def qdO{f:Nat}{fn:X.Fn}(h:Δ2 f=some fn)(k:Nat):Tri dq Tryz.prog f (qdi (MP Δ2 qpC k) f):=qhF qr4 h k
noncomputable def qyT(f:Nat)(l:List D):Option (D×XH):=MP Δ2 qpC 10000 f l ⟨.e, [], [],0⟩
def qkf(b:Bool):Option (D×XH)->Bool
 |some (.v (.bool t),_)=>t==b
 | _=>false
def qrA(n:Int):Option (D×XH)->Bool
 |some (.v (.int .i64 a),_)=>decide (a=n)
 | _=>false
def Ws{b:Bool}{r:Option (D×XH)}(h:qkf b r=true):∃x,r=some (.v (.bool b),x):=by
 unfold qkf at h;split at h
 ·rename_i t x;have:t=b:=by simpa using h
  subst this;exact⟨x,rfl⟩
 ·cases h
def qob{n:Int}{r:Option (D×XH)}(h:qrA n r=true):∃x,r=some (.v (.int .i64 n),x):=by
 unfold qrA at h;split at h
 ·rename_i a x;simp only[decide_eq_true_eq]at h;subst h;exact⟨x,rfl⟩
 ·cases h
open Cod (enc dec)
abbrev s_rIsF:Spc:=ax (a1 B) (λx=>x∈FeatL) (enc (X:=Bool)) λ_ y=>y=true
abbrev s_rVName:Spc:=ax (a1 B) (λx=>x∈qpp::Types) (enc (X:=Bool)) λ_ y=>y=true
abbrev s_rVVal:Spc:=ax (a1 B) (λx=>x∈E0::NumL) (enc (X:=Int)) λ_ y=>y=0
def qkO(s v:B):Bool:=s.data.toList.any λc=>decide (v.data.toList=[c])
abbrev s_rFeat:Spc:=ax (a2 B B) (λx=>x.1∈FsetL/\x.2∈FeatL) (enc (X:=Bool)) λx y=>y=qkO x.1 x.2
def qvB:(FeatL.all λv=>qkf true (qyT jw [.v (.string v)]))=true:=by kernel_rfl
def qCe:((qpp::Types).all λv=>qkf true (qyT aK [.v (.string v)]))=true:=by kernel_rfl
def qCd:((E0::NumL).all λv=>qrA 0 (qyT bQ [.v (.string v)]))=true:=by kernel_rfl
def qvC:(FsetL.all λs=>FeatL.all λv=>qkf (qkO s v) (qyT rX [.v (.string s), .v (.string v)]))=true:=by kernel_rfl
def Vn{a:VL}{x:Value}{r':D}(h:Rep a (.v x) r'):FrzTo dm r' (.v x):=by cases h;exact .same _
def qqw:Tri dq Tryz.prog jw s_rIsF.pt:=by
 refine qs (qdO (fn:=yI) rfl 10000) λv a=>⟨rfl,?_⟩
 obtain⟨x,h⟩:=Ws (qGa.1 qvB v a);exact⟨_,_,true,h,λρ r' b=>Vn b,rfl⟩
def qih:Tri dq Tryz.prog aK s_rVName.pt:=by
 refine qs (qdO (fn:=yK) rfl 10000) λv a=>⟨rfl,?_⟩
 obtain⟨x,h⟩:=Ws (qGa.1 qCe v a);exact⟨_,_,true,h,λρ r' b=>Vn b,rfl⟩
def qnc:Tri dq Tryz.prog bQ s_rVVal.pt:=by
 refine qs (qdO (fn:=wI) rfl 10000) λv a=>⟨rfl,?_⟩
 obtain⟨x,h⟩:=qob (qGa.1 qCd v a);exact⟨_,_,(0:Int),h,λρ r' b=>Vn b,rfl⟩
def qnd:Tri dq Tryz.prog rX s_rFeat.pt:=by
 refine qs (qdO (fn:=Cg) rfl 10000) λx a=>⟨rfl,?_⟩
 obtain⟨s,v⟩:=x;obtain⟨z,h⟩:=Ws (qGa.1 (qGa.1 qvC s a.1) v a.2);exact⟨_,_,qkO s v,h,λρ r' b=>Vn b,rfl⟩
end
section
open Cod (enc dec)
variable {S S0:Nat->Spc}
abbrev s_rAttr:Spc:=ax (a2 (List Attr) B) (λ_=>True) (enc (X:=Int)) λx y=>y=dU x.1 x.2
def Mr:aq rr qB S (a2 (List Attr) B) (λ_=>True) (enc (X:=Int)) λx y=>y=dU x.1 x.2:=by
 rintro⟨l,s⟩ -;simp[rr,qB,-fB',-eB'];intro _;refine ah (X:=Unit) [1,7] [] l.length (λk _=>∀x∈l.take k,decide (x.nm=s)=false) (λ_=>[]) (λ_=>[]) () (by simp) ?_ ?_
 ·intro k _ hk a;obtain⟨x,b⟩:=aM hk;obtain⟨_,c⟩:=qF4.1 b;simp[hk,b,c,-fB',-eB'];refine⟨λh=>?_,λh=>?_⟩
  ·exact(pu b (by simp[h]) a).symm
  ·rw[au b];intro z hz;rcases qGi.1 hz with hz|hz
   ·have:=a z hz;simpa using this
   ·simp at hz;subst hz;simpa using h
 ·intro _ a;simp[-fB',-eB'];exact(ig (by simpa using a)).symm
abbrev s_rIn:Spc:=ax (a2 (List B) B) (λ_=>True) (enc (X:=Bool)) λx y=>y=pw x.1 x.2
def qhQ:aq Lp Kt S (a2 (List B) B) (λ_=>True) (enc (X:=Bool)) λx y=>y=pw x.1 x.2:=by
 rintro⟨l,s⟩ -;simp[Lp,Kt,-fB',-eB'];intro _;refine ah (X:=Unit) [1,7] [] l.length (λk _=>∀x∈l.take k,¬x=s) (λ_=>[]) (λ_=>[]) () (by simp) ?_ ?_
 ·intro k _ hk b;obtain⟨x,a⟩:=aM hk;obtain⟨_,c⟩:=qF4.1 a;simp[hk,a,c,-fB',-eB'];refine⟨λh=>?_,λh=>?_⟩
  ·simp[pw];exact h ▸qF7 a
  ·rw[au a];intro z hz;rcases qGi.1 hz with hz|hz
   ·exact b z hz
   ·simp at hz;subst hz;exact h
 ·intro _ b;simp[-fB',-eB'];simp[pw];exactλx a=>b x (by simpa using a)
abbrev s_rShape:Spc:=ax (a1 Cond) (λx=>qf5 x=true) (enc (X:=Bool)) λ_ y=>y=true
set_option maxHeartbeats 1000000 in
theorem XW:aq eA ep S (a1 Cond) (λx=>qf5 x=true) (enc (X:=Bool)) λ_ y=>y=true:=by
 rintro⟨op,name,arg,val,lab,fold,ks⟩ hx;have hx:qf5 ⟨op,name,arg,val,lab,fold,ks⟩=true:=hx;unfold qf5 at hx;simp only at hx;split at hx
 ·rename_i e;subst e;simp at hx;obtain⟨⟨rfl,rfl,rfl,rfl,rfl⟩,rfl⟩:=hx;simp[eA,ep,fu,-fB',-eB']
 split at hx
 ·rename_i e;subst e;simp at hx;obtain⟨⟨rfl,rfl⟩,rfl⟩:=hx;simp[eA,ep,fu,-fB',-eB']
 split at hx
 ·rename_i e;subst e;simp at hx;obtain⟨⟨rfl,rfl,rfl⟩,rfl⟩:=hx;simp[eA,ep,fu,-fB',-eB']
 split at hx
 ·rename_i e;subst e;simp at hx;obtain⟨⟨rfl,rfl⟩,rfl⟩:=hx;simp[eA,ep,fu,-fB',-eB']
 split at hx
 ·rename_i e;subst e;simp at hx;obtain⟨⟨rfl,rfl,hav⟩,rfl⟩:=hx;by_cases ha:arg=fu
  ·have hv:=hav.resolve_left λh=>h ha
   subst ha;subst hv;simp[eA,ep,fu,-fB',-eB']
  ·have ha':¬arg=⟨#[]⟩:=ha;simp[eA,ep,fu,ha',-fB',-eB']
 split at hx
 ·rename_i e;subst e;simp at hx;obtain⟨⟨rfl,rfl,rfl,rfl,rfl⟩,hk⟩:=hx;simp[eA,ep,fu,hk,-fB',-eB']
 split at hx
 ·rename_i e;simp at hx;obtain⟨⟨rfl,rfl,rfl,rfl,rfl⟩,hk1,hk2⟩:=hx;have q1:(2:Int)<=(ks.length:Int):=by omega
  have q2:(ks.length:Int)<=60:=by omega
  have q2':(ks.length:Int)<=1000:=by omega
  have q3:(ks.length:Int)<=9223372036854775807:=by omega
  rcases e with rfl|rfl<;>simp[eA,ep,fu,q1,q2,q2',q3,-fB',-eB']
 ·cases hx
end
section
open Go.Proofs X
variable {dq:Prop}
def qEx(b:Bool):Option (D×XH)->Bool
 |some (.v (.bool t),_)=>t==b
 | _=>false
def WT:List B:=DW++QM
noncomputable def sX(v w:B)(f:Bool):Bool:=match(ms v).bind λx=>AK x w f with
 |some b=>qEx b (MP Δ qpC 10000 rW [.v (.string v), .v (.string w), .v (.bool f)] ⟨.e, [], [],0⟩)
 |none=>false
noncomputable def IR(v:B):Bool:=WT.all λw=>sX v w false && sX v w true
end
section
open Cod (enc dec)
abbrev s_rMatches:Spc:=ax (a3 B B Bool) (λx=>x.1∈ValsI/\x.2.1∈WT) (enc (X:=Bool)) λx y=>((ms x.1).bind λz=>AK z x.2.1 x.2.2)=some y
abbrev s_rParse0:Spc:=ax (a1 B) (λx=>x∈ValsI\/x∈QT) (λ_:Unit=>D.tup [.agg [.any, .any, .any, .any, .any], .v (.int .i64 0), .v (.int .i64 0)]) λ_ _=>True
def quX:Option (D×X.XH)->Bool
 |some (.tup [.agg [_,_,_,_,_], .v (.int .i64 a), .v (.int .i64 b)],_)=>decide (a=0) && decide (b=0)
 | _=>false
variable {S S0:Nat->Spc}
def qxT(x:Cond):Prop:=(x.op=2->x.val∈ValsI/\(x.name=fu\/x.name∈Attr2))/\(x.op=3->x.val∈FeatL/\x.name=FR)/\(x.op=4->x.name∈Attr2/\x.arg∈Attr2)/\(x.op=5->x.name∈qpp::Types/\(x.arg=fu\/x.arg∈qpp::Types)/\x.val∈E0::NumL)
def qsK(x:Cond×List Attr×List B):Prop:=oh x.2.1 x.2.2 x.1=true/\qxT x.1/\x.2.1.length<=1000
abbrev s_rnode:Spc:=ax (a3 Cond (List Attr) (List B)) qsK (enc (X:=Int)) λ_ y=>y=0
theorem qbN(h1:S wX=s_rShape)(h2:S ga=s_rAttr)(h3:S nY=s_rParse0)(h4:S jw=s_rIsF)(h5:S Je=s_rIn)(h6:S aK=s_rVName)(C:S bQ=s_rVVal):
 aq gC gg S (a3 Cond (List Attr) (List B)) qsK (enc (X:=Int)) λ_ y=>y=0:=by
 rintro⟨x,a,lb⟩ ⟨k,K,hl⟩;have k:oh a lb x=true:=k;have hl:a.length<=1000:=hl;unfold oh at k;simp only[qF9]at k;obtain⟨⟨hs,hn⟩,hc⟩:=k;obtain⟨op,name,arg,val,lab,fold,ks⟩:=x;obtain⟨E,F,U,I⟩:=K;simp only at E F I;have t:=(IS (λx:Attr=>decide (x.nm=name)) a).2;have u:dU a name<a.length:=t;have c:(a.length:Int)<=9223372036854775807:=by omega
 unfold qwl at hc;unfold qnQ at hn;simp only at hc hn;split at hc
 ·rename_i e;subst e;simp only[if_true,decide_eq_true_eq]at hn;have s:=(E rfl).1;unfold qX at hn;have d:¬a=[]:=λe=>by
   subst e;simp[dU,fL]at hn;split at hn<;>omega
  have l:0<(a.length:Int):=by
   have:=List.length_pos_iff.2 d;omega
  have p:¬(a.length:Int)=0:=by omega
  by_cases h:name=fu
  ·subst h;have L:fu=⟨#[]⟩:=rfl;have j:qf5 ⟨2,⟨#[]⟩,arg,val,lab,fold,ks⟩=true:=hs;simp[gC,gg,h1,h2,h3,j,c,d,l,p,s,L,-fB',-eB']
  ·have q:¬name=⟨#[]⟩:=h;rw[if_neg h]at hn;have r:¬dU a name= -1:=by omega
   simp[gC,gg,h1,h2,h3,hs,c,d,l,p,q,r,s,-fB',-eB']
 rename_i M;split at hc
 ·rename_i e;subst e;simp at hn;simp only[qF9]at hc;obtain⟨⟨⟨c1,c2⟩,c3⟩,c4⟩:=hc;obtain⟨b,hb⟩:=aM (show(dU a name).toNat<a.length by omega);obtain⟨_,w⟩:=qF4.1 hb;rw[hb]at c1;have c1:b.st=true:=c1;have s:=(F rfl).1;have r:¬dU a name= -1:=by omega
  simp[gC,gg,h1,h2,h4,hs,hn,c,u,r,hb,w,c1,s,-fB',-eB']
 rename_i N;split at hc
 ·rename_i e;subst e;simp at hn;have r:¬dU a name= -1:=by omega
  have A:¬dU a arg= -1:=by omega
  have hc:pw lb lab=true:=hc;simp[gC,gg,h1,h2,h5,hs,hc,r,A,-fB',-eB']
 rename_i O;split at hc
 ·rename_i e;subst e;obtain⟨v1,v2,J⟩:=I rfl;rcases v2 with v2|v2
  ·subst v2;have j:qf5 ⟨5,name,⟨#[]⟩,val,lab,fold,ks⟩=true:=hs;simp[gC,gg,fu,h1,h2,h6,C,j,v1,J,-fB',-eB']
  ·simp[gC,gg,h1,h2,h6,C,hs,v1,v2,J,-fB',-eB']
 rename_i Q;simp[gC,gg,h1,h2,hs,M,N,O,Q,-fB',-eB']
def qpG(a:List Attr)(lb:List B):Nat->Cond->Prop
 | 0=>λ_=>False
 |n+1=>λx=>oh a lb x=true/\qxT x/\∀k∈x.kids,qpG a lb n k
def ql9(n:Nat)(x:Cond×List Attr×List B):Prop:=qpG x.2.1 x.2.2 n x.1/\x.2.1.length<=1000
abbrev Zb(n:Nat):Spc:=ax (a3 Cond (List Attr) (List B)) (ql9 n) (enc (X:=Int)) λ_ y=>y=0
def XU(n:Nat)(h1:S GH=s_rnode)(h2:S sI=Zb n):
 aq Bb Ah S (a3 Cond (List Attr) (List B)) (ql9 (n+1)) (enc (X:=Int)) λ_ y=>y=0:=by
 rintro⟨x,a,lb⟩ ⟨⟨j,l,hk⟩,hl⟩;simp only at j l hk hl;have c:qsK (x,a,lb):=⟨j,l,hl⟩
 simp[Bb,Ah,h1,c];intro p;refine ah (X:=Unit) [1,2,19] [] x.kids.length (λ_ _=>True) (λ_=>[]) (λ_=>[]) () (by simp) ?_ ?_
 ·intro k _ b _;obtain⟨y,d⟩:=aM b;obtain⟨_,h⟩:=qF4.1 d;have hp:ql9 n (y,a,lb):=⟨hk y (qF7 d),hl⟩
  simp[h2,b,d,h,hp]
 ·intro _ _;simp
def qmb(n:Nat)(x:Cond×Int):Prop:=bi x.1<=n/\0<=x.2/\x.2+bi x.1<=61/\cR x.1<=60
abbrev Zd(n:Nat):Spc:=ax (a2 Cond Int) (qmb n) (iA (Y:=Int) (Z:=Int)) λx y=>y=((cR x.1:Int),(bi x.1:Int))
theorem XV(n:Nat)(h1:S sJ=Zd n):aq Bc Ai S (a2 Cond Int) (qmb (n+1)) (iA (Y:=Int) (Z:=Int)) λx y=>y=((cR x.1:Int),(bi x.1:Int)):=by
 rintro⟨x,deep⟩ ⟨hn,h0,h2,h3⟩;simp only at hn h0 h2 h3;have q:=Bw x;have r:=rS x;have j:¬60<deep:=by omega
 simp[Bc,Ai,j];intro s;refine ah (X:=Int×Int) [1,15] [] x.kids.length (λk z=>z.1=1+ (gk (x.kids.take k):Int)/\z.2=(jE (x.kids.take k):Int)) (λz=>[(6,enc z.1),(7,enc z.2)]) (λ_=>[]) (1,0) (by simp[gk,jE]) ?_ ?_
 ·rintro k ⟨m,d⟩ hk ⟨c,a⟩;simp only at c a;obtain⟨y,h⟩:=aM hk;obtain⟨_,l⟩:=qF4.1 h;have hm:=Tk h;have u:=Ei (qF7 h);have hp:qmb n (y,deep+1):=⟨by show bi y<=n;omega,by show 0<=deep+1;omega,by show deep+1+bi y<=61;omega,by show cR y<=60;omega⟩
  have b:¬60<m+ (cR y:Int):=by omega
  have p:InR .i64 (deep+1):=by simp only[InR];omega
  have t:InR .i64 (m+ (cR y:Int)):=by simp only[InR];omega
  simp[h1,hk,h,l,hp,b,p,t];exactλ_=>⟨by omega,by rw[hm.2.1,a];omega⟩
 ·rintro⟨m,d⟩ ⟨c,a⟩;simp only at c a;rw[qGc]at c a;have p:InR .i64 (d+1):=by simp only[InR];omega
  simp[p];exact⟨by omega,by omega⟩
abbrev s_rcountA:Spc:=ax (a2 Cond Int) (λx=>∃n,qmb n x) (iA (Y:=Int) (Z:=Int)) λx y=>y=((cR x.1:Int),(bi x.1:Int))
abbrev s_rNodes:Spc:=ax (a1 Cond) (λx=>cR x<=60/\bi x<=20) (iA (Y:=Int) (Z:=Int)) λx y=>y=((cR x:Int),(bi x:Int))
def XX(h1:S sJ=s_rcountA):aq Bd Aj S (a1 Cond) (λx=>cR x<=60/\bi x<=20) (iA (Y:=Int) (Z:=Int)) λx y=>y=((cR x:Int),(bi x:Int)):=by
 rintro x ⟨hn,a⟩;have hp:∃n,qmb n (x,0):=⟨20,a,qHb _,by show(0:Int) +bi x<=61;omega,hn⟩
 simp[Bd,Aj,h1,hp]
abbrev s_rfirstA:Spc:=ax (a3 Cond (List Attr) (List B)) (λx=>∃n,ql9 n x) (enc (X:=Int)) λ_ y=>y=0
def ql6(x:Cond×List Attr×List B):Prop:=cR x.1<=60/\bi x.1<=20/\∃n,ql9 n x
abbrev s_rVal:Spc:=ax (a3 Cond (List Attr) (List B)) ql6 (enc (X:=Int)) λ_ y=>y=0
def NW(h1:S sK=s_rNodes)(h2:S sI=s_rfirstA):aq tN tg S (a3 Cond (List Attr) (List B)) ql6 (enc (X:=Int)) λ_ y=>y=0:=by
 rintro⟨x,a,lb⟩ ⟨hn,b,hp⟩;simp only at hn b;have c:¬60<(cR x:Int):=by omega
 have d:¬20<(bi x:Int):=by omega
 simp[tN,tg,h1,h2,hn,b,hp,c,d,-fB',-eB', -exists_and_left, -exists_and_right]
def qpm(x:Cond×List Attr×List B):List D:=[enc x.1, .cptr [enc x.2.1] 0, .cptr [enc x.2.2] 0]
def qdV(z b:Cond×List Attr×List B)(h:qpm z=qpm b):z=b:=by
 obtain⟨a,s,l⟩:=z;obtain⟨c,d,j⟩:=b;unfold qpm at h;simp only[qGF,D.cptr.injEq,and_true]at h;rw[cD h.1,cD h.2.1,cD h.2.2]
noncomputable abbrev aVd:fN (Cond×List Attr×List B):=aX qpm qdV
@[simp] theorem qxt(x:Cond)(a:List Attr)(lb:List B):aVd.dec [.agg [.v (.int .i64 x.op), .v (.string x.name), .v (.string x.arg), .v (.string x.val), .v (.string x.lab), .v (.bool x.fold), .list 7 (x.kids.map enc)], .cptr [.list 2 (a.map enc)] 0, .cptr [.list 1 (lb.map enc)] 0]=some (x,a,lb):=by
 have h:=LD qpm qdV (x,a,lb);have e:qpm (x,a,lb)=[.agg [.v (.int .i64 x.op), .v (.string x.name), .v (.string x.arg), .v (.string x.val), .v (.string x.lab), .v (.bool x.fold), .list 7 (x.kids.map enc)], .cptr [.list 2 (a.map enc)] 0, .cptr [.list 1 (lb.map enc)] 0]:=by simp[qpm]
 rw[<-e];exact h
noncomputable abbrev qeo:Spc:=ax aVd (λx=>oh x.2.1 x.2.2 x.1=true/\x.2.1.length<=1000) (enc (X:=Int)) λ_ y=>y=0
def zP(h1:S pT=Zv):aq iy ib S aVd (λx=>oh x.2.1 x.2.2 x.1=true/\x.2.1.length<=1000) (enc (X:=Int)) λ_ y=>y=0:=by
 rintro⟨x,a,lb⟩ ⟨b,hl⟩;simp only at b hl;rw[JI];simp[qpm,iy,ib,h1,b,hl,-fB',-eB']
def qwN(n:Nat)(x:Cond×D×Unit):Prop:=∃(a:List Attr) (lb:List B),x.2.1= .clo cB [.cptr [enc a] 0, .cptr [enc lb] 0]/\sC a lb n x.1=true/\a.length<=1000/\cR x.1<=60
noncomputable abbrev Zn(n:Nat):Spc:=ax (aE Cond (aD a0)) (qwN n) (enc (X:=Int)) λx y=>y=0
noncomputable abbrev Zm:Spc:=ax (aE Cond (aD a0)) (λx=>∃n,qwN n x) (enc (X:=Int)) λx y=>y=0
theorem Ht(n:Nat)(h1:S cB=qeo)(h2:S ip=Zn n):aq qn pd S (aE Cond (aD a0)) (qwN (n+1)) (enc (X:=Int)) λx y=>y=0:=by
 rintro⟨x,d,⟨⟩⟩ ⟨a,lb,p,b,hl,hn⟩;simp only at p b hn;subst p;simp only[sC,qF9]at b;obtain⟨c,h⟩:=b;simp[qn,pd,h1,c,hl,-fB',-eB'];intro q;refine ah (X:=Unit) [1,16] [] x.kids.length (λk _=>True) (λ_=>[]) (λ_=>[]) () (by simp) ?_ ?_
 ·rintro k -hk -;obtain⟨y,j⟩:=aM hk;obtain⟨_,l⟩:=qF4.1 j;have hm:=qF7 j;have r:=D7 hm;have s:=rS x;have hp:qwN n (y, .clo cB [.cptr [.list 2 (a.map enc)] 0, .cptr [.list 1 (lb.map enc)] 0],()):=⟨a,lb,rfl,qGa.1 h y hm,hl,by show cR y<=60;omega⟩
  simp[h2,hk,j,l,hp,-fB',-eB']
 ·rintro - -;simp[-fB',-eB']
abbrev Xv(x:Cond×List Attr×List B):Prop:=qmm x.2.1 x.2.2 x.1=true/\x.2.1.length<=1000
abbrev Vd:Spc:=ax (a3 Cond (List Attr) (List B)) Xv (enc (X:=Int)) λ_ y=>y=0
def Cq(h1:S dG=OQ)(h2:S ip=Zm):aq jY jN S (a3 Cond (List Attr) (List B)) Xv (enc (X:=Int)) λ_ y=>y=0:=by
 rintro⟨x,a,lb⟩ ⟨b,hl⟩;simp only at b hl;unfold qmm at b;simp at b;obtain⟨⟨hn,k⟩,c⟩:=b;have hp:∃n,qtN n (x,0,1):=⟨bi x,qGb _,qHb _,by show(0:Int) +cR x<=60;omega,by show(0:Int)<=1;omega,by show(1:Int) +bi x<=1000;omega,by show bi x<=60;omega⟩
 have d:∃n,qwN n (x, .clo cB [.cptr [.list 2 (a.map enc)] 0, .cptr [.list 1 (lb.map enc)] 0],()):=⟨20,a,lb,rfl,c,hl,hn⟩
 have h:¬(60:Int)<(cR x:Int):=by omega
 have j:¬(20:Int)< 1+ (bi x:Int) -1:=by omega
 simp[jY,jN,h1,h2,hp,d,h,j,-fB',-eB']
def qak(l:List Pair)(s:Pair):Bool:=l.any λz=>decide (z=s)
abbrev qee:Spc:=ax (a2 (List Pair) Pair) (λ_=>True) (enc (X:=Int)) λx y=>y=fL x.1 λz=>decide (z=x.2)
abbrev qej:Spc:=ax (a2 (List Pair) Pair) (λ_=>True) (enc (X:=Bool)) λx y=>y=qak x.1 x.2
theorem UI:aq li kH S (a2 (List Pair) Pair) (λ_=>True) (enc (X:=Int)) λx y=>y=fL x.1 λz=>decide (z=x.2):=by
 rintro⟨l,s⟩ -;simp[li,kH,-fB',-eB'];intro _;refine ah (X:=Unit) [0,3] [] l.length (λk _=>∀x∈l.take k,decide (x=s)=false) (λ_=>[]) (λ_=>[]) () (by simp) ?_ ?_
 ·intro k _ hk c;obtain⟨x,d⟩:=aM hk;obtain⟨_,j⟩:=qF4.1 d;simp[hk,d,j,-fB',-eB'];have p:s.nm=x.nm->s.vl=x.vl->x=s:=λh1 h2=>by
   obtain⟨a,b⟩:=x;obtain⟨q,b'⟩:=s;simp only at h1 h2;rw[h1,h2]
  refine⟨λh1 h2=>(pu d (by simp[p h1 h2]) c).symm,λh=>?_⟩;rw[au d];intro z hz;rcases qGi.1 hz with hz|hz
  ·have:=c z hz;simpa using this
  ·simp at hz;subst hz;intro e;subst e;exact h rfl rfl
 ·intro _ c;simp[-fB',-eB'];exact(ig (by simpa using c)).symm
def MG(h1:S mw=qee):aq ir gY S (a2 (List Pair) Pair) (λ_=>True) (enc (X:=Bool)) λx y=>y=qak x.1 x.2:=by
 rintro⟨l,s⟩ -;simp[ir,gY,h1,-fB',-eB'];exact AO _ l
def xP(x:Cond)(tok:Int)(r:Region):Bool:=decide (r.ty=x.name) && decide (r.b<=tok) && decide (tok<r.e) && (decide (x.arg=fu)||qak r.kv ⟨x.arg,x.val⟩)
def qhC(x:Cond):List D:=[.v (.int .i64 x.op), .v (.string x.name), .v (.string x.arg), .v (.string x.val), .v (.string x.lab), .v (.bool x.fold), .list 7 (x.kids.map enc)]
def qfm(x:Cond): .agg (qhC x)=enc x:=by simp[qhC]
def qoT{x y:Cond}(h:qhC x=qhC y):x=y:=cD (by rw[<-qfm,<-qfm,h])
def qmj(x:Region×Cond×Int):List D:=[enc x.1, .cptr (qhC x.2.1) 0, .cptr [enc x.2.2] 0]
def qdW(z b:Region×Cond×Int)(h:qmj z=qmj b):z=b:=by
 obtain⟨a,s,l⟩:=z;obtain⟨c,d,j⟩:=b;unfold qmj at h;simp only[qGF,D.cptr.injEq,and_true]at h;rw[cD h.1,qoT h.2.1,cD h.2.2]
noncomputable abbrev qE5:fN (Region×Cond×Int):=aX qmj qdW
noncomputable abbrev Ii:Spc:=ax qE5 (λ_=>True) (enc (X:=Bool)) λx y=>y=xP x.2.1 x.2.2 x.1
def Co(h1:S iV=qej):aq bX bU S qE5 (λ_=>True) (enc (X:=Bool)) λx y=>y=xP x.2.1 x.2.2 x.1:=by
 rintro⟨r,x,tok⟩ -;rw[JI];by_cases c:r.ty=x.name
 rotate_left
 ·simp[qmj,qhC,bX,bU,xP,c,-fB',-eB']
 by_cases d:r.b<=tok
 rotate_left
 ·simp[qmj,qhC,bX,bU,xP,c,d,-fB',-eB']
 by_cases j:tok<r.e
 rotate_left
 ·simp[qmj,qhC,bX,bU,xP,c,d,j,-fB',-eB']
 by_cases h:x.arg=fu
 ·have a:x.arg=⟨#[]⟩:=h;simp[qmj,qhC,bX,bU,xP,c,d,j,h,a,fu,-fB',-eB']
 ·have a:¬x.arg=⟨#[]⟩:=h;simp[qmj,qhC,bX,bU,xP,h1,c,d,j,h,a,-fB',-eB']
abbrev qiZ:Spc:=ax (a3 Corpus Cond Int) (λ_=>True) (enc (X:=Bool)) λx y=>y=x.1.regs.any (xP x.2.1 x.2.2)
def FF(h0:S0 ck=Ii)(h1:S fa=qf8 Region S0):aq mJ ml S (a3 Corpus Cond Int) (λ_=>True) (enc (X:=Bool)) λx y=>y=x.1.regs.any (xP x.2.1 x.2.2):=by
 rintro⟨c,x,tok⟩ -;have a:FunOn S0 (.clo ck [.cptr (qhC x) 0, .cptr [enc tok] 0]) c.regs (xP x tok):=
  zB (f:=λr=>(r,x,tok)) h0 (λr _=>LD qmj qdW (r,x,tok)) (λ_ _=>trivial) (λr _ y b=>b)
 unfold qhC at a;simp[mJ,ml,h1,-fB',-eB'];exact⟨⟨_,a⟩,λy b=>b _ a⟩
mutual
def oc:Cond->Bool| .mk op _ _ _ _ _ ks=>decide (op=4)||Y6 ks
def Y6:List Cond->Bool|[]=>false|k::ks=>oc k||Y6 ks
end
def SE:∀l:List Cond,Y6 l=l.any oc
 | []=>by rw[Y6];rfl
 |k::l=>by rw[Y6,SE l];rfl
theorem Nx(x:Cond):oc x=(decide (x.op=4)||x.kids.any oc):=by cases x;rw[oc,SE]
abbrev Ih(n:Nat):Spc:=ax (a1 Cond) (λx=>bi x<=n) (enc (X:=Bool)) λx y=>y=oc x
def J9(n:Nat)(h0:S0 cA=Ih n)(h1:S cj=qf8 Cond S0):aq kC kj S (a1 Cond) (λx=>bi x<=n+1) (enc (X:=Bool)) λx y=>y=oc x:=by
 rintro x c;have c:bi x<=n+1:=c;have d:FunOn S0 (.clo cA []) x.kids oc:=
  zB (f:=λk=>k) h0 (λk _=>by rw[qsD,Cod.dec_enc]) (λk hk=>by have:=DS hk;show bi k<=n;omega) (λr _ y b=>b)
 have a:=Nx x;by_cases e:x.op=4
 ·simp[kC,kj,h1,a,e,-fB',-eB']
 ·simp[kC,kj,h1,a,e,-fB',-eB'];exact⟨⟨_,d⟩,λy b=>b _ d⟩
end
section
open Cod (enc dec)
variable {dq:Prop}
@[simp] theorem qCA(s:Rp):Rp.mk s.s s.pos s.fault s.e=s:=by cases s;rfl
def tJ(s:Rp):List D:=[enc s.s,enc s.pos,enc s.fault,enc s.e]
@[simp] theorem qzI(s:Rp):tJ s=[enc s.s,enc s.pos,enc s.fault,enc s.e]:=i' rfl
section
variable {Y Z:Type}
def qqO:Sn Rp:=qhm tJ
def qAV(A:fN Z)(er:Y->D)(pre:Rp->Z->Prop)(post:Rp->Z->Rp->Y->Prop):Spc:=qwv qqO A er pre post
def qD8(er:Y->D)(pre:Rp->Z->Prop)(post:Rp->Z->Rp->Y->Prop)(id b:Nat)(r:Option Res)(o:Option Z)(H:ab)(K:D->ab->Prop):Prop:=
 ∃x,r=some (.box b (tJ x))/\gK o λz=>pre x z/\∀a y,post x z a y->K (er y) (aj H id (some (.box b (tJ a))))
def qlB{x y:Rp}(h:tJ x=tJ y):x=y:=by
 obtain⟨l,a,d,e⟩:=x;obtain⟨b,c,j,k⟩:=y;simp only[tJ,qGF]at h;obtain⟨h1,h2,h3,h4,_⟩:=h;have h1:=cD h1;have h2:=cD h2;have h3:=cD h3;have h4:=cD h4;subst h1;subst h2;subst h3;subst h4;rfl
@[simp] theorem qqN(A:fN Z)(er:Y->D)(pre:Rp->Z->Prop)(post:Rp->Z->Rp->Y->Prop)(d i b:Nat)(ds:List D)(H:ab)(K:D->ab->Prop):(qAV A er pre post).pt d (.bptr i b 0::ds) H K=qD8 er pre post i b (H i) (A.dec ds) H K:=by
 refine propext ⟨λh=>?_,λh=>?_⟩
 ·obtain⟨id,b',x,z,a,h1,h2,h3,h4,h5,h6,c⟩:=h;cases h1;refine⟨x,h3,?_⟩;rw[h2];exact⟨h6,c⟩
 ·obtain⟨x,h1,h2⟩:=h;cases hz:A.dec ds with
  |none=>rw[hz]at h2;exact h2.elim
  |some z=>rw[hz]at h2;exact⟨i,b,x,z,ds,rfl,hz,h1,λp hp=>by simp[qqO,qhm]at hp,by simp[qqO,qhm],h2.1,h2.2⟩
def JL(er:Y->D)(b:Nat)(post:Rp->Y->Prop)(r:D)(H:ab):Prop:=TV qqO er b post r H
def I0{er:Y->D}{b:Nat}{post:Rp->Y->Prop}{r:D}{H:ab}(x:Rp)(y:Y)(a:FrzTo (λi=>if i=0 then none else H i) r (er y))(h0:H 0=some (.box b (tJ x)))(c:post x y):JL er b post r H:=
 ⟨x,y,by simpa [qqO,qhm]using a,h0,λp hp=>by simp[qqO,qhm]at hp,c⟩
def wz(cc:CC)(rs:List ai)(S:Nat->Spc)(A:fN Z)(er:Y->D)(pre:Rp->Z->Prop)(post:Rp->Z->Rp->Y->Prop):Prop:=
 ∀b x z,pre x z->vc S cc (wC rs λr H'=>JL er b (post x z) r H') (dI (.bptr 0 b 0::A.view z)) (aj dm 0 (some (.box b (tJ x))))
variable {P:Program}{S:Nat->Spc}{f:Nat}{im:List Nat}{cc:CC}{rs:List ai}{N:Nat}
def qca{A:fN Z}{er:Y->D}{pre:Rp->Z->Prop}{post:Rp->Z->Rp->Y->Prop}(a:∀f,Tri dq P f (S f).pt)(h:BA P f im cc rs N)(c:∀z,(A.view z).length+1<=N)(d:wz cc rs S A er pre post):Tri dq P f (qAV A er pre post).pt:=
 FP (by simp[qqO,qhm]) a h c λb x z hp=>d b x z hp
end
section
variable {Y Z:Type}
def qhz(A:fN Z)(er:Y->D)(F:Rp->Z->Option (Rp×Y)):Spc:=qAV A er (λs z=>∃r,F s z=some r) (λs z a y=>F s z=some (a,y))
def qjc(er:Y->D)(F:Rp->Z->Option (Rp×Y))(id b:Nat)(r:Option Res)(o:Option Z)(H:ab)(K:D->ab->Prop):Prop:=
 ∃x,r=some (.box b (tJ x))/\gK o λz=>gK (F x z) λq=>K (er q.2) (aj H id (some (.box b (tJ q.1))))
@[congr] theorem qxL{er:Y->D}{F:Rp->Z->Option (Rp×Y)}{id b:Nat}{r r':Option Res}{o a:Option Z}{H:ab}{K:D->ab->Prop}(h1:r=r')(h2:o=a):qjc er F id b r o H K=qjc er F id b r' a H K:=by subst h1;subst h2;rfl
def qq9{F:Option (Rp×Y)}{k:Rp->Y->Prop} :((∃r,F=some r)/\∀a y,F=some (a,y)->k a y)=gK F λq=>k q.1 q.2:=by
 cases F with
 | none=>
   refine propext (Iff.intro (λh=>?_) (λh=>?_))
   ·obtain⟨⟨r,h⟩,_⟩:=h;cases h
   ·exact False.elim h
 | some r=>
   refine propext (Iff.intro (λh=>h.2 _ _ rfl) (λh=>⟨⟨_,rfl⟩,λa y e=>?_⟩));cases e;exact h
@[simp] theorem qAT(A:fN Z)(er:Y->D)(F:Rp->Z->Option (Rp×Y))(d i b:Nat)(ds:List D)(H:ab)(K:D->ab->Prop):(qhz A er F).pt d (.bptr i b 0::ds) H K=qjc er F i b (H i) (A.dec ds) H K:=by
 unfold qhz qjc;rw[qqN];unfold qD8;refine propext (exists_congr λx=>and_congr_right λ_=>?_);cases A.dec ds with
 |none=>exact qHB
 |some z=>exact iff_of_eq qq9
@[simp] theorem qAU(er:Y->D)(F:Rp->Z->Option (Rp×Y))(id b:Nat)(l:B)(p a e:Int)(o:Option Z)(H:ab)(K:D->ab->Prop):
 qjc er F id b (some (.box b [.v (.string l), .v (.int .i64 p), .v (.int .i64 a), .v (.int .i64 e)])) o H K=gK o λz=>gK (F ⟨l,p,a,e⟩ z) λq=>K (er q.2) (aj H id (some (.box b (tJ q.1)))):=by
 refine propext ⟨λ⟨x,h1,h2⟩=>?_,λh=>⟨⟨l,p,a,e⟩,rfl,h⟩⟩;have c:tJ ⟨l,p,a,e⟩=tJ x:=by
  have:=qGf h1;exact(Res.box.inj this).2
 have:=qlB c;subst this;exact h2
variable {P:Program}{S:Nat->Spc}{f:Nat}{im:List Nat}{cc:CC}{rs:List ai}{N:Nat}
def gd{A:fN Z}{er:Y->D}{F:Rp->Z->Option (Rp×Y)}(a:∀f,Tri dq P f (S f).pt)(h:BA P f im cc rs N)(b:∀z,(A.view z).length+1<=N)
 (c:wz cc rs S A er (λs z=>∃r,F s z=some r) (λs z d y=>F s z=some (d,y))):Tri dq P f (qhz A er F).pt:=qca a h b c
end
end
end Go.Gv
