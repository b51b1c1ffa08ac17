/- C2 -/
import Derived.Test.YtfpmgnnippjblaaGreatDoorGa14
set_option linter.all false
set_option maxRecDepth 100000
set_option maxHeartbeats 0
open Bool renaming forall_bool → fB', exists_bool → eB'
namespace Go.Gv
section
open Go.Proofs
def lz:CC:=gq Tryz.f123 [] {} _
def kY:List ai:=[.tmp 2]
def Cz:FO bC [] lz kY 29:=fo
def qo:CC:=gq Tryz.f190 [] {} _
def pF:List ai:=[.tmp 2]
def Iz:FO ca [] qo pF 21:=fo
def qn:CC:=gq Tryz.f191 [] {} _
def pE:List ai:=[.tmp 2]
def Iy:FO eJ [] qn pE 17:=fo
def BG:CC:=gq Tryz.f202 [2,3] {} _
def AP:List ai:=[.tmp 4]
def Wp:FO tT [2,3] BG AP 74:=fo
def qi:CC:=gq Tryz.f186 [3,2] {} _
def py:List ai:=[.tmp 4]
def mA:CC:=gq Tryz.f252 [2] {} _
def mf:List ai:=[.tmp 3]
def wx:CC:=gq Tryz.f253 [1] {} _
def vK:List ai:=[.tmp 2]
def wz:CC:=gq Tryz.f187 [1] {} _
def vM:List ai:=[.tmp 2]
def uv:CC:=gq Tryz.f120 [3,2] {} _
def tz:List ai:=[.tmp 4]
def qk:CC:=gq Tryz.f189 [2] {} _
def pA:List ai:=[.tmp 3]
def uu:CC:=gq Tryz.f121 [1] {} _
def tw:List ai:=[.tmp 2]
def sq:CC:=gq Tryz.f124 [1] {} _
def rL:List ai:=[.tmp 2]
def uz:CC:=gq Tryz.f119 [1] {} _
def tD:List ai:=[.tmp 2]
def ur:CC:=gq Tryz.f74 [1] {} _
def tv:List ai:=[.tmp 2]
def wy:CC:=gq Tryz.f125 [1] {} _
def vL:List ai:=[.tmp 2]
def wB:CC:=gq Tryz.f98 [1] {} _
def vO:List ai:=[.tmp 2]
def gO:CC:=gq Tryz.f222 [1] {} _
def gA:List ai:=[.tmp 2, .tmp 3]
def uy:CC:=gq Tryz.f164 [1] {} _
def tC:List ai:=[.tmp 2, .tmp 3]
def dM:CC:=gq Tryz.f188 [] {} _
def dF:List ai:=[.tmp 4]
def eQ:CC:=gq Tryz.f254 [] {} _
def eN:List ai:=[.tmp 4]
def za:CC:=gq Tryz.f138 [2] {} _
def yc:List ai:=[.tmp 4]
def wm:CC:=gq Tryz.f75 [2] {} _
def vB:List ai:=[.tmp 4]
def zd:CC:=gq Tryz.f76 [1] { cu:=[1] } _
def yd:List ai:=[.tmp 2]
def um:CC:=gq Tryz.f78 [1] { cu:=[1] } _
def tq:List ai:=[.tmp 2]
def qg:CC:=gq Tryz.f36 [1] {} _
def pw:List ai:=[.tmp 2]
def lR:CC:=gq Tryz.f37 [2] { bx:=[1,23] } _
def lK:List ai:=[.tmp 4]
def wn:CC:=gq Tryz.f12 [1] { bx:=[7] } _
def vC:List ai:=[.tmp 2]
def BE:CC:=gq Tryz.f79 [1] {} _
def AN:List ai:=[.tmp 2]
def BD:CC:=gq Tryz.f23 [] {} _
def AM:List ai:=[.tmp 4]
def Pc:FO sT [1] wB vO 8:=fo
def Wl:FO Es [] BD AM 26:=fo
def NM:CC:=gq Tryz.f59 [] {} _
def Mo:List ai:=[.tmp 4]
def qfM:FO vm [] NM Mo 16:=fo
def oJ:CC:=gq Tryz.f139 [] {} _
def ni:List ai:=[.tmp 2]
def Gd:FO gU [] oJ ni 21:=fo
def ru:CC:=gq Tryz.f140 [] {} _
def qX:List ai:=[.tmp 2]
def JN:FO pW [] ru qX 17:=fo
def gN:CC:=gq Tryz.f77 [] {} _
def gz:List ai:=[.tmp 2]
def xr:FO aJ [] gN gz 29:=fo
def oz:CC:=gq Tryz.f262 [] {} _
def nh:List ai:=[.tmp 2]
def Gc:FO bH [] oz nh 25:=fo
def zx:CC:=gq Tryz.f204 [] { cu:=[2,7,9] } _
def yq:List ai:=[.tmp 2]
def SD:FO rp [] zx yq 81:=fo
def zw:CC:=gq Tryz.f298 [] {} _
def yp:List ai:=[.tmp 2]
def SC:FO ro [] zw yp 16:=fo
def zu:CC:=gq Tryz.f294 [] {} _
def yo:List ai:=[.tmp 2, .tmp 3]
def SB:FO Bt [] zu yo 69:=fo
def BH:CC:=gq Tryz.f178 [] {} _
def AQ:List ai:=[.tmp 2]
def Wr:FO EC [] BH AQ 4:=fo
def uq:CC:=gq Tryz.f179 [] {} _
def tu:List ai:=[.tmp 4]
def MF:FO we [] uq tu 13:=fo
def jj:CC:=gq Tryz.f116 [2,3] {} _
def iW:List ai:=[.tmp 4]
def Ac:FO fP [2,3] jj iW 122:=fo
def mz:CC:=gq Tryz.f56 [] { cu:=[6] } _
def me:List ai:=[.tmp 2]
def D0:FO nU [] mz me 47:=fo
def zq:CC:=gq Tryz.f246 [2] {} _
def yl:List ai:=[.tmp 4]
def Sy:FO Bo [2] zq yl 17:=fo
def zn:CC:=gq Tryz.f247 [] {} _
def yj:List ai:=[.tmp 2]
def Sw:FO vk [] zn yj 42:=fo
def ws:CC:=gq Tryz.f248 [3] {} _
def vF:List ai:=[.tmp 6]
def O0:FO sS [3] ws vF 32:=fo
def BI:CC:=gq Tryz.f249 [] {} _
def AR:List ai:=[.tmp 4]
def Ws:FO ED [] BI AR 24:=fo
def wv:CC:=gq Tryz.f250 [2] {} _
def vI:List ai:=[.tmp 4]
def O4:FO yQ [2] wv vI 27:=fo
def wu:CC:=gq Tryz.f251 [] {} _
def vH:List ai:=[.tmp 4]
def O3:FO yP [] wu vH 27:=fo
def ox:CC:=gq Tryz.f180 [] {} _
def nf:List ai:=[.tmp 2, .tmp 3]
def Gb:FO pV [] ox nf 42:=fo
def wt:CC:=gq Tryz.f181 [1] {} _
def vG:List ai:=[.tmp 2, .tmp 3]
def O1:FO yO [1] wt vG 48:=fo
def zl:CC:=gq Tryz.f182 [1] {} _
def yi:List ai:=[.tmp 2, .tmp 3]
def Sv:FO Bm [1] zl yi 96:=fo
def uo:CC:=gq Tryz.f183 [1] {} _
def tt:List ai:=[.tmp 2, .tmp 3]
def ME:FO wc [1] uo tt 143:=fo
def zt:CC:=gq Tryz.f184 [3] { cu:=[14,17,20,26] } _
def yn:List ai:=[.tmp 4, .tmp 5]
def SA:FO Bq [3] zt yn 128:=fo
def zo:CC:=gq Tryz.f185 [1] { cu:=[2,5,11,14] } _
def yk:List ai:=[.tmp 2, .tmp 3]
def Sx:FO Bn [1] zo yk 86:=fo
def sk:CC:=gq Tryz.f117 [1] {} _
def rJ:List ai:=[.tmp 2, .tmp 3, .tmp 4]
def KC:FO tV [1] sk rJ 74:=fo
def zr:CC:=gq Tryz.f60 [1] {} _
def ym:List ai:=[.tmp 2]
def Sz:FO Bp [1] zr ym 14:=fo
def ji:CC:=gq Tryz.f61 [] {} _
def iV:List ai:=[.tmp 4]
def Ab:FO jU [] ji iV 26:=fo
def so:CC:=gq Tryz.f62 [2] {} _
def rK:List ai:=[.tmp 4]
def KD:FO tW [2] so rK 21:=fo
def sj:CC:=gq Tryz.f63 [1] {} _
def rI:List ai:=[.tmp 2, .tmp 3]
def KB:FO tU [1] sj rI 32:=fo
def ww:CC:=gq Tryz.f26 [2,3,2101010,1100097,2108010,1107104,2145010,1144141,2182010,1181178] { cu:=[7,13,19,26,33,48] } _
def vJ:List ai:=[.cell 4 true 7, .tmp 5]
def O5:FO yR [2,3,2101010,1100097,2108010,1107104,2145010,1144141,2182010,1181178] ww vJ 273:=fo
def xF:CC:=gq Tryz.f55 [] {} _
def xh:List ai:=[.tmp 2]
def Qg:FO rr [] xF xh 8:=fo
def Je:CC:=gq Tryz.f52 [] {} _
def Ii:List ai:=[.tmp 2]
def qcY:FO Ns [] Je Ii 7:=fo
def NK:CC:=gq Tryz.f53 [] {} _
def Mm:List ai:=[.tmp 2]
def qfK:FO Ts [] NK Mm 7:=fo
def wC:CC:=gq Tryz.f54 [] {} _
def vP:List ai:=[.tmp 2]
def Pd:FO yU [] wC vP 7:=fo
def sy:CC:=gq Tryz.f51 [] {} _
def rS:List ai:=[.tmp 0]
def KN:FO ub [] sy rS 5:=fo
def uA:CC:=gq Tryz.f25 [] {} _
def AS:List ai:=[.tmp 4]
def MP:FO cb [] uA AS 35:=fo
def NL:CC:=gq Tryz.f6 [999] {} _
def Mn:List ai:=[.tmp 2]
def qfL:FO Tt [999] NL Mn 11:=fo
def mC:CC:=gq Tryz.f24 [100026,2067008] { cu:=[3,5,12,19,22,28] } _
def mh:List ai:=[.cell 6 true 7]
def D4:FO nY [100026,2067008] mC mh 177:=fo
def su:CC:=gq Tryz.f57 [1061061,1096061,2063001,2098001] { bx:=[1],cu:=[12] } _
def rO:List ai:=[]
def KH:FO tY [1061061,1096061,2063001,2098001] su rO 100:=fo
def sw:CC:=gq Tryz.f58 [1038027,1034027,1031027,2076042,2075040] { bx:=[1],cu:=[10,14] } _
def rQ:List ai:=[]
def KJ:FO tZ [1038027,1034027,1031027,2076042,2075040] sw rQ 102:=fo
def qq:CC:=gq Tryz.f7 [] {} _
def pH:List ai:=[.cell 4 true 7]
def IB:FO rX [] qq pH 36:=fo
def wD:CC:=gq Tryz.f113 [] {} _
def vQ:List ai:=[.tmp 2]
def mG:CC:=gq Tryz.f114 [] {} _
def mq:List ai:=[.tmp 4]
def qr:CC:=gq Tryz.f171 [] {} _
def pI:List ai:=[.tmp 2]
open Cod (enc dec)
variable {S S0:Nat->Spc}
def K7(c:Int):Bool:=decide (65<=c/\c<=90\/97<=c/\c<=122\/c=95)
def Po(c:Int):Bool:=K7 c||decide (48<=c/\c<=57\/c=45)
def N1(s:B):Prop:=1<=s.size/\s.size<=32/\(∀c:UInt8,s.data[0]? =some c->K7 c.toNat=true)/\∀(k:Nat) (c:UInt8),s.data[k]? =some c->Po c.toNat=true
noncomputable def aB(s:B):Bool:= @decide (N1 s) (Classical.propDecidable _)
def DG(s:B):aB s=true↔N1 s:= @decide_eq_true_iff (N1 s) (Classical.propDecidable _)
def UV{s:B}(h:N1 s):true=aB s:=((DG s).2 h).symm
def qQ{s:B}(h:¬N1 s):false=aB s:=by
 rcases hb:aB s
 ·rfl
 ·exact absurd ((DG s).1 hb) h
abbrev xf:Spc:=aA (a1 U8) (λ_=>True) (enc (X:=Bool)) λx y=>y=K7 x.val
abbrev FU:Spc:=aA (a1 U8) (λ_=>True) (enc (X:=Bool)) λx y=>y=Po x.val
abbrev mX:Spc:=aA (a1 B) (λ_=>True) (enc (X:=Bool)) λx y=>y=aB x
def Kj:aq qo pF S (a1 U8) (λ_=>True) (enc (X:=Bool)) λx y=>y=K7 x.val:=by
 rintro⟨c⟩ -;simp[qo,pF,K7]
 repeat' first|apply And.intro|intro _
 all_goals first|omega|(rw[qBK];simp;omega)
def Rj:aq oJ ni S (a1 U8) (λ_=>True) (enc (X:=Bool)) λx y=>y=K7 x.val:=by
 rintro⟨c⟩ -;simp[oJ,ni,K7]
 repeat' first|apply And.intro|intro _
 all_goals first|omega|(rw[qBK];simp;omega)
def Ki(h1:S ca=xf):aq qn pE S (a1 U8) (λ_=>True) (enc (X:=Bool)) λx y=>y=Po x.val:=by
 rintro⟨c⟩ -;simp[qn,pE,h1,Po,-fB'];rcases hb:K7 c<;>simp[hb]
 repeat' first|apply And.intro|intro _
 all_goals first|omega|(rw[qBK];simp;omega)
def UG(h1:S gU=xf):aq ru qX S (a1 U8) (λ_=>True) (enc (X:=Bool)) λx y=>y=Po x.val:=by
 rintro⟨c⟩ -;simp[ru,qX,h1,Po,-fB'];rcases hb:K7 c<;>simp[hb]
 repeat' first|apply And.intro|intro _
 all_goals first|omega|(rw[qBK];simp;omega)
theorem HN(h1:S gU=xf)(h2:S pW=FU):aq gN gz S (a1 B) (λ_=>True) (enc (X:=Bool)) λx y=>y=aB x:=by
 rintro s -;simp[gN,gz,h1,h2];refineλ_=>⟨λl _=>⟨λp=>⟨by omega,λc hc=>⟨λhb=>(qQ λh=>by rw[h.2.2.1 c hc]at hb;cases hb).symm,λhb=>?_⟩⟩,λp=>(qQ λh=>by have:=h.2.1;omega).symm⟩,λl=>(qQ λh=>by have:=h.1;omega).symm⟩
 refine aF (X:=Nat) [0] [] (λk=>1<=k/\k<=s.size/\∀(j:Nat) (c:UInt8),j<k->s.data[j]? =some c->Po c.toNat=true) (λk=>[(3,enc (k:Int))]) (λ_=>[]) (λk=>s.size -k) 1 ⟨by omega,by omega,λj d q a=>?_⟩ ?_
 ·have:j=0:=by omega
  subst this;rw[hc]at a;cases a;simp[Po,hb]
 rintro k ⟨h3,h4,h5⟩;simp[h2];refineλ_=>⟨λhk=>⟨by omega,λd a=>⟨λb=>(qQ λh=>by rw[h.2.2.2 k d a]at b;cases b).symm,λr=>⟨by simp only[InR];omega,k+1,⟨by omega,by omega,λj e q he=>?_⟩,by omega,by omega⟩⟩⟩,λhk=>?_⟩
 ·by_cases t:j=k
  ·subst t;rw[a]at he;cases he;exact r
  ·exact h5 j e (by omega) he
 ·refine(UV ⟨by omega,by omega,λd a=>by rw[hc]at a;cases a;exact hb,λj e he=>h5 j e ?_ he⟩).symm;have:=(qBn.1 he).1;have:j<s.size:=this;omega
theorem Dx(h1:S ca=xf)(h2:S eJ=FU):aq lz kY S (a1 B) (λ_=>True) (enc (X:=Bool)) λx y=>y=aB x:=by
 rintro s -;simp[lz,kY,h1,h2];refineλ_=>⟨λl _=>⟨λp=>⟨by omega,λc hc=>⟨λhb=>(qQ λh=>by rw[h.2.2.1 c hc]at hb;cases hb).symm,λhb _=>?_⟩⟩,λp=>(qQ λh=>by have:=h.2.1;omega).symm⟩,λl=>(qQ λh=>by have:=h.1;omega).symm⟩
 refine ah (X:=Unit) [0] [] s.size (λk _=>∀(j:Nat) (c:UInt8),j<k->s.data[j]? =some c->Po c.toNat=true) (λ_=>[]) (λ_=>[]) () (by intro j d q;omega) ?_ ?_
 ·rintro k -hk h5;simp[h2];refine⟨hk,λd a=>⟨λb=>(qQ λh=>by rw[h.2.2.2 k d a]at b;cases b).symm,λr j e q he=>?_⟩⟩;by_cases t:j=k
  ·subst t;rw[a]at he;cases he;exact r
  ·exact h5 j e (by omega) he
 ·rintro -h5;simp;refine(UV ⟨by omega,by omega,λd a=>by rw[hc]at a;cases a;exact hb,λj e he=>h5 j e ?_ he⟩).symm;exact(qBn.1 he).1
end
section

open Cod (enc dec)
variable {dq:Prop}
section
variable {X Y:Type}
def ql3(cf:Y->List D)(b:Nat)(post:Y->Prop)(r:D)(H:ab):Prop:=∃y cs,r= .tup []/\H 1=some (.box b cs)/\FzL (qki 1 [] H) cs (cf y)/\post y
def TV(cc:CC)(rs:List ai)(S:Nat->Spc)(ce:X->List D)(cf:Y->List D)(pre:X->Prop)(post:X->Y->Prop):Prop:=
 ∀L b x,pre x->vc S cc (uL rs λr H'=>ql3 cf b (post x) r H') (dr [.tape L, .bptr 1 b 0]) (ak cX 1 (some (.box b (ce x))))
variable {P:Program}{S:Nat->Spc}{f:Nat}{im:List Nat}{cc:CC}{rs:List ai}{N:Nat}
theorem Jv{ce:X->List D}{cf:Y->List D}{pre:X->Prop}{post:X->Y->Prop}(t:∀f,Tri dq P f (S f).pt)(h:zF P f im cc rs N)(u:2<=N)(w:TV cc rs S ce cf pre post):Tri dq P f (qvh ce cf pre post).pt:=by
 obtain⟨wJ,enter,fn,code,h1,h2,h3,h4,h5⟩:=h;refine Y0 t wJ h1 h2 enter h3 h4 h5 ?_;rintro ds H d K ⟨L,id,b,x,rfl,hid,hp,A⟩;refine⟨u, [.tape L, .bptr 1 b 0],ak cX 1 (some (.box b (ce x))),λ_=>id, .cons (.same _) (.cons (.bptr _ _ _ _) .nil),λi r h=>?_,λi j r s h C _=>?_,_,w L b x hp,?_⟩
 ·by_cases e:i=1
  ·subst e;simp only[ak,if_true]at h;cases h;exact hid
  ·simp[ak,e,cX]at h
 ·have a:i=1:=by
   by_cases e:i=1
   ·exact e
   ·simp[ak,e,cX]at h
  have b:j=1:=by
   by_cases e:j=1
   ·exact e
   ·simp[ak,e,cX]at C
  exact a.trans b.symm
 ·rintro r H' ⟨y,cs,rfl,l,hz,c⟩;have E:=qka (H:=H') 1 b cs (cf y) [] l hz.get.1 hz.get.2;have l:left 1 b (cf y) [] H' 1=some (.box b (cf y)):=rfl;refine⟨.tup [],left 1 b (cf y) [] H',cX,ak H id (some (.box b (cf y))),λi=>if i=id then some 1 else none,E, .same _,λj q h=>by simp[cX]at h,A y c,λi s hi=>?_,λi p k s q hi F I J=>?_⟩
  ·by_cases e:i=id
   ·subst e;simp only[ak,if_true]at hi;cases hi;simpa using l
   ·simp only[ak,e,if_false]at hi ⊢;exact⟨hi,λk q h he=>e he.symm⟩
  ·have a:i=id:=by
    by_cases e:i=id
    ·exact e
    ·simp[e]at I
   have b:p=id:=by
    by_cases e:p=id
    ·exact e
    ·simp[e]at J
   exact a.trans b.symm
end
end
section
section
variable {S:Nat->Spc}{σ:Sg}{H:ab}{K:Ex->Sg->ab->Prop}
theorem sV{X:Type}(ks hk c p:List Nat)(qd1 rn:List (Nat×Nat))(P:X->Prop)(l:X->List (Nat×D))(hp:X->List (Nat×Res))(m:X->Nat)(d:X)(ids:List Nat)(a:∀x,(hp x).map (·.1)=ids)
 (j:qov qd1 (ids++hk) c/\∀i∈hk,i∉ids->qd0 qd1 i=i) (hi:qov rn (ids++hk) p/\∀i∈hk,i∉ids->qd0 rn i=i) {k:Nat} {b:CC} (h0:P d)
 (hs:zD (qbv c H) (l d) σ) (hh:wI (qbv c H) qd1 (hp d) H)
 (q:∀x,P x->vc S b (qck P (λy=>qcd σ H ks hk p rn (l y) (hp y)) m x K) (rC (l x) (iF ks σ)) (gk (hp x) (iG hk H))):vc S (.loop k b) K σ H:=by
 rw[TB];refine⟨⟨X,P,λx=>rC (l x) (iF ks σ),λx=>gk (hp x) (iG hk H),m⟩,⟨d,h0,HG (by rw[a d];exact j.1) (by rw[a d];exact j.2) hs (λ_ _=>rfl) hh (λ_ _=>rfl)⟩,λx r=>xS b _ _ (λe s H' h=>?_) (q x r)⟩;cases e with
 | norm=>
   obtain⟨y,h1,h2,h3⟩:=h;exact⟨y,h1,HG (by rw[a y];exact hi.1) (by rw[a y];exact hi.2) h2.1 h2.2.1 h2.2.2.1 h2.2.2.2,h3⟩
 |ex i=>exact h
 |ret=>exact h
end
def qeb{b:Sg}{H:ab}(t id:Nat)(x:Value)(el n:Nat)(es:List D)(h1:b t= .own id x)(h2:H id=some (.row x el n es)):Wk b H (upd b t (.sub id x n 0 es.length)) H:=by
 intro E a w ⟨h,j,tp,c,d⟩;refine⟨h,j,tp,c,λs=>?_⟩;unfold upd;split
 ·rename_i e;subst e;have h3:=d s;rw[h1]at h3;have k:a.tmps.getD s undef=x:=by
   generalize a.tmps.getD s undef=y at h3;cases h3;rfl
  obtain⟨xs,⟨_,h4⟩,_⟩:=c.sat.ok id _ h2;rw[k];rcases h4 with⟨rfl,h5⟩|⟨g,cap,cur,rfl,_,_,h6,l,_⟩
  ·rw[h5];exact .subnil id n
  ·exact .sub id g es.length cap n 0 es.length _ (qBB _) (qBj _) h6 l (λ_=>by simp)
 ·exact d s
open Cod (enc dec) in
def qrf{X:Type}[Cod X]{H:ab}{id n hi:Nat}{v:Value}{l:List X}(el:Nat)(h:H id=some (.row v el n (l.map enc)))(hh:hi=l.length)(hn:n=Cod.wd X:=by rfl):FrzTo H (.sub id v n 0 hi) (.list n (l.map enc)):=by
 subst hh;have e:((l.map (enc (X:=X))).take l.length).drop 0=l.map enc:=by
  rw[List.drop_zero,qBQ (by simp)]
 refine .sub h (by rw[e]) (λd hd=>?_) (λk c c' h1 h2=>?_)
 ·obtain⟨x,_,rfl⟩:=qBr.1 hd;exact⟨Cod.kn x,(Cod.wid x).trans hn.symm⟩
 ·rw[e,h2]at h1;cases h1;exact .same _
open Cod (enc dec)
variable {dq:Prop}
section
variable {X Y:Type}[Cod X][Cod Y]
def qxm(pre:X->List Y->Prop)(post:X->List Y->List Y->Prop)(el n:Nat):PT:=λd ds H K=>∃id v l a x,ds=[a, .own id v]/\dec a=some x/\H id=some (.row v el n (l.map enc))/\pre x l/\
 ∀v' b,post x l b->K (.own id v') (ak H id (some (.row v' el n (b.map enc))))
def qj9(pre:X->List Y->Prop)(post:X->List Y->List Y->Prop)(el n:Nat):sD (qxm pre post el n):=λd ds H K c hk ⟨id,v,l,a,x,h1,h2,h3,h4,h5⟩=>⟨id,v,l,a,x,h1,h2,h3,h4,λv' b hp=>hk _ _ (h5 v' b hp)⟩
def qil(pre:X->List Y->Prop)(post:X->List Y->List Y->Prop)(el n:Nat):Spc:= .gen _ (qj9 pre post el n)
def quf(pre:X->List Y->Prop)(post:X->List Y->List Y->Prop)(el n id:Nat)(v:Value)(o:Option X)(r:Option Res)(H:ab)(K:D->ab->Prop):Prop:=∃l,r=some (.row v el n (l.map enc))/\ga o λx=>pre x l/\∀v' a,post x l a->K (.own id v') (ak H id (some (.row v' el n (a.map enc))))
@[congr] theorem qxl{pre:X->List Y->Prop}{post:X->List Y->List Y->Prop}{el n id:Nat}{v:Value}{o a:Option X}{r r':Option Res}{H:ab}{K:D->ab->Prop}(h1:o=a)(h2:r=r'):quf pre post el n id v o r H K=quf pre post el n id v a r' H K:=by grind
@[simp] theorem qxn(pre:X->List Y->Prop)(post:X->List Y->List Y->Prop)(el n:Nat)(d i:Nat)(a:D)(v:Value)(H:ab)(K:D->ab->Prop):(qil pre post el n).pt d [a, .own i v] H K=quf pre post el n i v (dec a) (H i) H K:=by
 refine propext ⟨λh=>?_,λh=>?_⟩
 ·obtain⟨id,v,l,a,x,h1,h2,h3,h4,h5⟩:=h;cases h1;refine⟨l,h3,?_⟩;rw[h2];exact⟨h4,h5⟩
 ·obtain⟨l,h1,h2⟩:=h;cases b:dec (X:=X) a with
  |none=>rw[b]at h2;exact h2.elim
  |some x=>rw[b]at h2;exact⟨i,v,l,a,x,rfl,b,h1,h2.1,h2.2⟩
@[simp] theorem qzH(pre:X->List Y->Prop)(post:X->List Y->List Y->Prop)(el n id:Nat)(v:Value)(o:Option X)(l:List Y)(H:ab)(K:D->ab->Prop):quf pre post el n id v o (some (.row v el n (l.map enc))) H K=ga o λx=>pre x l/\∀v' a,post x l a->K (.own id v') (ak H id (some (.row v' el n (a.map enc)))):=by
 refine propext ⟨λ⟨a,h1,h2⟩=>?_,λh=>⟨l,rfl,h⟩⟩;simp at h1;subst h1;exact h2
def N0(cc:CC)(rs:List ai)(S:Nat->Spc)(pre:X->List Y->Prop)(post:X->List Y->List Y->Prop)(el n:Nat):Prop:=
 ∀v l x,pre x l->vc S cc (uL rs λr H'=>qk7 el n (post x l) r H') (dr [enc x, .own 1 v]) (ak cX 1 (some (.row v el n (l.map enc))))
variable {P:Program}{S:Nat->Spc}{f:Nat}{im:List Nat}{cc:CC}{rs:List ai}{N:Nat}{el n:Nat}
theorem xV{pre:X->List Y->Prop}{post:X->List Y->List Y->Prop}(t:∀f,Tri dq P f (S f).pt)(h:zF P f im cc rs N)(u:2<=N)(w:N0 cc rs S pre post el n):Tri dq P f (qil pre post el n).pt:=by
 obtain⟨wJ,enter,fn,code,h1,h2,h3,h4,h5⟩:=h;refine mJ t wJ h1 h2 enter h3 h4 h5 ?_;rintro ds H d K ⟨id,v,l,a,x,rfl,y,hid,hp,A⟩;have hl:=Cod.le _ _ y;refine⟨u, [enc x, .own 1 v],ak cX 1 (some (.row v el n (l.map enc))),λ_=>id, .cons hl (.cons (.own _ _ _) .nil),λi r h=>?_,λi j r s h C _=>?_,_,w v l x hp,?_⟩;simp_all
 ·have a:i=1:=by
   by_cases e:i=1;omega
   ·simp[ak,e]at h
  have b:j=1:=by
   by_cases e:j=1;omega
   ·simp[ak,e]at C
  omega
 ·rintro r H' ⟨j,v',p,rfl,F,c⟩;refine⟨.own id v',cX,ak H id (some (.row v' el n (p.map enc))),λi=>if i=id then some j else none, .own _ _ _,λj q h=>by simp at h,A v' p c,λi s hi=>?_,λi I k s q hi E J L=>?_⟩
  ·by_cases e:i=id;simp_all;simp_all;omega
  grind
end
section
variable {X Y Z:Type}
structure Pz (X:Type) where
 ids:List Nat
 ce:X->List D
 hp:X->List (Nat×Res)
 keys:∀x,(hp x).map (·.1)=ids
def Yh:∀{l:List (Nat×Res)} {i:Nat} {s:Res},gk l cX i=some s->(i,s) ∈l
 | [],i,s,h=>by simp_all
 | (j,r)::l,i,s,h=>by
  simp only[gk,ak]at h;by_cases e:i=j;grind
  ·simp only[e,if_false]at h;exact qCI _ (Yh h)
def Yi:∀{l:List (Nat×Res)} {H:ab} {i:Nat} {s:Res},i∈l.map (·.1)->gk l H i=some s->(i,s) ∈l
 | (j,r)::l,H,i,s,hi,h=>by
  simp only[gk,ak]at h;by_cases e:i=j;grind
  ·simp only[e,if_false]at h;simp[e]at hi;refine qCI _ (Yi (H:=H) ?_ h);grind
def Yg:∀{l:List (Nat×Res)} {H:ab} {i:Nat},i∉l.map (·.1)->gk l H i=H i
 | [],H,i,_=>rfl
 | (j,r)::l,H,i,hi=>by
  simp only[qBZ,qBt,not_or]at hi;simp only[gk,ak,hi.1,if_false];exact Yg hi.2
def qyD(B:Pz X)(A:fm Z)(er:Y->D)(pre:X->Z->Prop)(post:X->Z->X->Y->Prop):PT:=λd ds H K=>∃id b x z a,ds= .bptr id b 0::a/\A.dec a=some z/\H id=some (.box b (B.ce x))/\(∀p∈B.hp x,H p.1=some p.2)/\id∉B.ids/\pre x z/\
 ∀c y,post x z c y->K (er y) (ak (gk (B.hp c) H) id (some (.box b (B.ce c))))
def qkQ(B:Pz X)(A:fm Z)(er:Y->D)(pre:X->Z->Prop)(post:X->Z->X->Y->Prop):sD (qyD B A er pre post):=λd ds H K j hk ⟨id,b,x,z,a,h1,h2,h3,h4,h5,h6,c⟩=>⟨id,b,x,z,a,h1,h2,h3,h4,h5,h6,λh y hp=>hk _ _ (c h y hp)⟩
def qr3(B:Pz X)(A:fm Z)(er:Y->D)(pre:X->Z->Prop)(post:X->Z->X->Y->Prop):Spc:= .gen _ (qkQ B A er pre post)
def QU(B:Pz X)(er:Y->D)(b:Nat)(post:X->Y->Prop)(r:D)(H:ab):Prop:=∃x y,FrzTo (λi=>if i=0\/i∈B.ids then none else H i) r (er y)/\H 0=some (.box b (B.ce x))/\(∀p∈B.hp x,H p.1=some p.2)/\post x y
def qae(cc:CC)(rs:List ai)(S:Nat->Spc)(B:Pz X)(A:fm Z)(er:Y->D)(pre:X->Z->Prop)(post:X->Z->X->Y->Prop):Prop:=
 ∀b x z,pre x z->vc S cc (uL rs λr H'=>QU B er b (post x z) r H') (dr (.bptr 0 b 0::A.view z)) (ak (gk (B.hp x) cX) 0 (some (.box b (B.ce x))))
variable {P:Program}{S:Nat->Spc}{f:Nat}{im:List Nat}{cc:CC}{rs:List ai}{N:Nat}
theorem DL{B:Pz X}{A:fm Z}{er:Y->D}{pre:X->Z->Prop}{post:X->Z->X->Y->Prop}(w:0∉B.ids)(C:∀f,Tri dq P f (S f).pt)(h:zF P f im cc rs N)(O:∀z,(A.view z).length+1<=N)(E:qae cc rs S B A er pre post):Tri dq P f (qr3 B A er pre post).pt:=by
 obtain⟨wJ,enter,fn,code,h1,h2,h3,h4,h5⟩:=h;refine mJ C wJ h1 h2 enter h3 h4 h5 ?_;rintro ds H d K ⟨id,b,x,z,l,rfl,F,hid,I,J,hp,L⟩;have hl:=A.le l z F;have h0:∀i r,ak (gk (B.hp x) cX) 0 (some (.box b (B.ce x))) i=some r->i=0/\r= .box b (B.ce x)\/i≠0/\(i,r) ∈B.hp x:=by
  intro i r h;by_cases e:i=0;simp_all;simp_all [Yh]
 have hk:∀{x:X} {i:Nat} {r:Res},(i,r) ∈B.hp x->i∈B.ids:=by
  intro x i r h;rw[<-B.keys x];grind
 refine⟨by simp only[qB2];rw[hl.1];grind, .bptr 0 b 0::A.view z,ak (gk (B.hp x) cX) 0 (some (.box b (B.ce x))),λi=>if i=0 then id else i, .cons (.bptr _ _ _ _) hl,λi r h=>?_,λi j r s h Q e=>?_,_,E b x z hp,?_⟩;grind;grind
 ·rintro r H' ⟨p,y,t,U,c,a⟩;refine⟨er y,λi=>if i=0\/i∈B.ids then none else H' i,ak (gk (B.hp p) H) id (some (.box b (B.ce p))),λi=>if i=id then some 0 else if i∈B.ids then some i else none,t,λj q h=>?_,L p y a,λi s hi=>?_,λi W k s q hi M e1 u=>?_⟩;grind
  ·by_cases e:i=id;simp_all
   ·simp only[ak,e,if_false]at hi ⊢;by_cases u:i∈B.ids
    ·simp only[u,if_true];exact c _ (Yi (by grind [Tri,qae,eE,ay,B.keys]) hi)
    ·simp only[u,if_false];rw[Yg (by grind)]at hi;refine⟨hi,λk q h he=>?_⟩;rcases h0 k q h with⟨rfl,rfl⟩|⟨e3,hm⟩
     grind;grind
  grind
def qdO{X:Type}(ce:X->List D):Pz X:=⟨[],ce,λ_=>[],λ_=>rfl⟩
end
structure qlU where
 txt:B
 wK:Int
 kind:Int
 text:B
 pos:Int
section
variable {Y Z:Type}
variable {P:Program}{S:Nat->Spc}{f:Nat}{im:List Nat}{cc:CC}{rs:List ai}{N:Nat}
end
section
variable {Y Z:Type}
variable {P:Program}{S:Nat->Spc}{f:Nat}{im:List Nat}{cc:CC}{rs:List ai}{N:Nat}
end
end
section
section
variable (N:qlU->Option (qlU×Cond))(O:qlU->Option (qlU×Cond))
end
section
variable (A:qlU->Bool->Option (qlU×Pat))(O:qlU->Option (qlU×Cond))
end
def GlobE:Glob:=⟨0,E0,E0,E0,E0,E0,false,0,0, [], []⟩
def th:B:=⟨#[119,111,114,100]⟩
def Jy:B:=⟨#[116,97,103]⟩
def DM:B:=⟨#[102,101,97,116]⟩
def ValsT:List B:=[⟨#[97]⟩,⟨#[98]⟩,⟨#[97,46,42]⟩,⟨#[91,97,98,93]⟩]
def ValsI:List B:=[⟨#[97]⟩,⟨#[98]⟩,⟨#[97,46,42]⟩,⟨#[91,97,98,93]⟩,⟨#[88]⟩,⟨#[]⟩,⟨#[99,63]⟩,⟨#[97,124,98]⟩,⟨#[89]⟩,⟨#[97,124,88]⟩]
def Attr2:List B:=[th,Jy]
def FeatL:List B:=[⟨#[112]⟩,⟨#[113]⟩]
def NumL:List B:=[⟨#[49]⟩,⟨#[50]⟩]
def qlj:B:=⟨#[110]⟩
inductive GA (lb:List B):Cond->Prop
 |val (n v:B) (f:Bool) (h1:n∈Attr2) (h2:v∈ValsI):GA lb ⟨2,n,E0,v,E0,f, []⟩
 |feat (v:B) (h:v∈FeatL):GA lb ⟨3,DM,E0,v,E0,false, []⟩
 |same (n l a:B) (h1:n∈Attr2) (h2:l∈lb) (h3:a∈Attr2):GA lb ⟨4,n,a,E0,l,false, []⟩
 |reg (n:B) (h:n∈Types):GA lb ⟨5,n,E0,E0,E0,false, []⟩
 |regk (n v:B) (h1:n∈Types) (h2:v∈NumL):GA lb ⟨5,n,qlj,v,E0,false, []⟩
inductive GI (lb:List B):Nat->Cond->Prop
 |atom (n:Nat) (c:Cond) (h:GA lb c):GI lb n c
 |not (n:Nat) (k:Cond) (h:GI lb n k):GI lb (n+1) ⟨6,E0,E0,E0,E0,false, [k]⟩
 |two (n:Nat) (op:Int) (a b:Cond) (ho:op=7\/op=8) (h1:GI lb n a) (h2:GI lb n b):GI lb (n+1) ⟨op,E0,E0,E0,E0,false, [a,b]⟩
inductive GC (lb:List B) (n:Nat):Cond->Prop
 |any:GC lb n ⟨1,E0,E0,E0,E0,false, []⟩
 |top (v:B) (f:Bool) (h:v∈ValsT):GC lb n ⟨2,E0,E0,v,E0,f, []⟩
 |inner (c:Cond) (h:GI lb n c):GC lb n c
theorem vd{lb:List B}{c:Cond}(h:GA lb c):c.kids=[]:=by cases h<;>rfl
def qbz{lb:List B} :∀{n:Nat} {c:Cond},GI lb n c->CS n c
 | _,_, .atom n c h=>Z3 (vd h)
 | _,_, .not n k h=>qnY rfl rfl (qbz h)
 | _,_, .two n op a b _ h1 h2=>qnX rfl rfl (qbz h1) (qbz h2)
def qrb{lb:List B}{n:Nat}{c:Cond}(h:GC lb n c):CS n c:=by
 cases h with
 |any=>exact Z3 rfl
 |top v f h=>exact Z3 rfl
 |inner c h=>exact qbz h
def qno(l:List B)(x:B):Bool:=l.any λz=>decide (z=x)
def WN(l:List B)(x:B):qno l x=true↔x∈l:=by
 unfold qno;simp
instance decMem (l:List B) (x:B):Decidable (x∈l):=if h:qno l x=true then .isTrue ((WN l x).1 h)else .isFalse λa=>h ((WN l x).2 a)
mutual
def xj(lb:List B):Cond->Cond
 | .mk op n a v l f ks=>if op=4 then(if l∈lb then .mk op n a v l f ks else⟨2,n,E0,⟨#[97,124,88]⟩,E0,false, []⟩)else .mk op n a v l f (qa6 lb ks)
def qa6(lb:List B):List Cond->List Cond
 | []=>[]
 |k::ks=>xj lb k::qa6 lb ks
end
def P9(lb:List B):∀l:List Cond,qa6 lb l=l.map (xj lb)
 | []=>by rfl
 |k::l=>by rw[qa6,P9 lb l];rfl
def lX(lb:List B)(c:Cond):xj lb c=if c.op=4 then(if c.lab∈lb then c else⟨2,c.name,E0,⟨#[97,124,88]⟩,E0,false, []⟩)else⟨c.op,c.name,c.arg,c.val,c.lab,c.fold,c.kids.map (xj lb)⟩:=by
 cases c;rw[xj,P9]
def Zl(lb:List B):xj lb pi=pi:=by
 rfl
mutual
def lV(lb:List B):Pat->Pat
 | .mk op c l r mn mx ks=>⟨op,xj lb c,l,r,mn,mx,TN lb ks⟩
def TN(lb:List B):List Pat->List Pat
 | []=>[]
 |k::ks=>lV lb k::TN lb ks
end
def NT(lb:List B):∀l:List Pat,TN lb l=l.map (lV lb)
 | []=>by rfl
 |k::l=>by rw[TN,NT lb l];rfl
def rB(lb:List B)(p:Pat):lV lb p=⟨p.op,xj lb p.cond,p.lab,p.reg,p.mn,p.mx,p.kids.map (lV lb)⟩:=by
 cases p;rw[lV,NT]
def BT(out:List B)(x:B):List B:=if x∈out then out else out++ [x]
mutual
def jo:Pat->List B->List B
 | .mk op c l r mn mx ks,out=>if op=1/\l≠E0 then BT out l else qbY ks out
def qbY:List Pat->List B->List B
 | [],out=>out
 |k::ks,out=>qbY ks (jo k out)
end
def NS:∀(l:List Pat) (out:List B),qbY l out=l.foldl (λo k=>jo k o) out
 | [],out=>by rfl
 |k::l,out=>by rw[qbY,NS l];rfl
def ph(p:Pat)(out:List B):jo p out=if p.op=1/\p.lab≠E0 then BT out p.lab else p.kids.foldl (λo k=>jo k o) out:=by
 cases p;rw[jo,NS]
theorem Tg{lb d:List B} :∀{n:Nat} {c:Cond},GI lb n c->GI d n (xj d c)
 | _,_, .atom n c h=>by
   cases h with
   |val nm v f h1 h2=>rw[lX,if_neg (by decide:¬(2:Int)=4)];exact .atom _ _ (.val nm v f h1 h2)
   |feat v h=>rw[lX,if_neg (by decide:¬(3:Int)=4)];exact .atom _ _ (.feat v h)
   | same nm l a h1 h2 h3=>
     rw[lX,if_pos rfl];split
     ·rename_i hl;exact .atom _ _ (.same nm l a h1 hl h3)
     ·exact .atom _ _ (.val nm _ false h1 (by simp[ValsI]))
   |reg nm h=>rw[lX,if_neg (by decide:¬(5:Int)=4)];exact .atom _ _ (.reg nm h)
   |regk nm v h1 h2=>rw[lX,if_neg (by decide:¬(5:Int)=4)];exact .atom _ _ (.regk nm v h1 h2)
 | _,_, .not n k h=>by
   rw[lX,if_neg (by decide:¬(6:Int)=4)];exact .not n _ (Tg h)
 | _,_, .two n op a b ho h1 h2=>by
   rw[lX,if_neg (show ¬op=4 by omega)];exact .two n op _ _ ho (Tg h1) (Tg h2)
def qnp{lb a:List B}{n:Nat}{c:Cond}(h:GC lb n c):GC a n (xj a c):=by
 cases h with
 |any=>rw[lX,if_neg (by decide:¬(1:Int)=4)];exact .any
 |top v f h=>rw[lX,if_neg (by decide:¬(2:Int)=4)];grind [GC]
 |inner c h=>grind [GC,Tg]
theorem qea{lb a:List B}{p:Pat}(h:qpp lb p):qpp lb (lV a p):=by
 rw[rB];rcases h with⟨h1,h2,h3,h4,h5,h6⟩|⟨h1,h2,h3,h4,h5,h6,b⟩
 ·exact .inl ⟨h1,h2,h3,h4,h5,by grind⟩
 ·exact .inr ⟨h1,by show xj a p.cond=_;rw[h2,Zl],h3,h4,h5,h6,by grind⟩
def qiA{lb c:List B} :∀n p,WP lb n p->WP lb n (lV c p):=by
 refine HF λn p hp h=>?_
 rcases wO hp with hp|⟨m,rfl,(⟨h1,h2,h3,h4,h5,h6,a,b,l,q,hb⟩|⟨h1,h2,h3,h4,h5,a,l,q⟩)⟩;grind [qvK,qea]
 ·obtain⟨j,d,_,a1⟩:=h a (by grind);obtain⟨r,k,_,a2⟩:=h b (by grind);have d:j=m:=by omega
  have k:r=m:=by omega
  subst d;subst k;rw[rB];exact .inr (.inl ⟨h1,by show xj c p.cond=_;rw[h2,Zl],h3,h4,h5,h6,_,_,by grind,a1,a2⟩)
 ·obtain⟨j,d,_,a1⟩:=h a (by grind);have d:j=m:=by omega
  subst d;rw[rB];exact .inr (.inr ⟨h1,by show xj c p.cond=_;rw[h2,Zl],h3,h4,h5,_,by grind,a1⟩)
def WG(lb:List B)(p:Pat):am (lV lb p)=(am p).map (lV lb):=by
 induction p using fh with|_ p b=>?_
 rw[aV,aV p,rB];simp only;split
 ·rw[List.map_singleton,rB]
 ·rw[List.flatMap_map,List.map_flatMap];have:∀ks:List Pat,(∀k∈ks,am (lV lb k)=(am k).map (lV lb))->ks.flatMap (λa=>am (lV lb a))=ks.flatMap (λa=>(am a).map (lV lb)):=by
   intro ks
   induction ks<;>grind
  grind
def qhG(lb:List B)(p:Pat):∀out,jo (lV lb p) out=jo p out:=by
 induction p using fh with|_ p a=>?_
 intro out;rw[ph,ph p,rB];simp only;split
 ·rfl
 ·have:∀(ks:List Pat) (o:List B),(∀k∈ks,∀out,jo (lV lb k) out=jo k out)->(ks.map (lV lb)).foldl (λo k=>jo k o) o=ks.foldl (λo k=>jo k o) o:=by
   intro ks
   induction ks<;>grind
  grind
def qhV{out:List B}{x y:B}(h:y∈BT out x):y∈out\/y=x:=by
 grind [BT]
def qkR{lb:List B} :∀n p,WP lb n p->∀out,(∀y∈jo p out,y∈out\/y∈lb):=by
 refine HF λn p hp c=>λout y a=>?_
 rw[ph]at a;split at a
 ·rename_i h;rcases qhV a with h1|rfl;grind
  ·rcases wO hp with(⟨h1,h2,_⟩|⟨h1,_⟩)|⟨m,rfl,(⟨h1,_⟩|⟨h1,_⟩)⟩
   ·exact .inr (h2.resolve_left h.2)
   omega;omega;omega
 ·have:∀(ks:List Pat) (o:List B),(∀k∈ks,k∈p.kids)->y∈ks.foldl (λo k=>jo k o) o->y∈o\/y∈lb:=by
   intro ks
   induction ks with
   |nil=>grind
   | cons k ks b=>
     intro o hk h;rw[qCj]at h;rcases b _ (λz hz=>hk z (by grind)) h with h1|h1
     ·obtain⟨m,_,_,h2⟩:=c k (hk k (by simp));grind
     grind
  grind
def Ob:List B:=[⟨#[97]⟩,⟨#[98,124,99]⟩,⟨#[46]⟩]
def TW:List B:=[⟨#[111,98,106]⟩,⟨#[100,101,116]⟩,⟨#[]⟩]
def Yr:List B:=[⟨#[83]⟩,⟨#[78,80]⟩,⟨#[86,80]⟩]
inductive GG (lb:List B):Nat->Glob->Prop
 |bound (n:Nat) (a:B) (h:a∈lb):GG lb n ⟨1,a,E0,E0,E0,E0,false,0,0, [], []⟩
 |val (n:Nat) (a v:B) (f:Bool) (h1:a∈lb) (h2:v∈Ob):GG lb n ⟨2,a,E0,th,E0,v,f,0,0, [], []⟩
 |same (n:Nat) (a b g:B) (h1:a∈lb) (h2:b∈lb) (h3:g∈Attr2):GG lb n ⟨3,a,b,th,g,E0,false,0,0, [], []⟩
 |dist (n:Nat) (a b:B) (mn mx:Int) (h1:a∈lb) (h2:b∈lb) (h3: -2<=mn) (h4:mn<=2) (h5:mn<=mx) (h6:mx<=mn+3):GG lb n ⟨4,a,b,E0,E0,E0,false,mn,mx, [], []⟩
 |reg (n:Nat) (a b t:B) (h1:a∈lb) (h2:b∈lb) (h3:t∈Types):GG lb n ⟨5,a,b,t,E0,E0,false,0,0, [], []⟩
 |head (n:Nat) (op:Int) (a b:B) (ho:op=6\/op=7) (h1:a∈lb) (h2:b∈lb):GG lb n ⟨op,a,b,E0,E0,E0,false,0,0, [], []⟩
 |path (n:Nat) (a b:B) (l:List B) (h1:a∈lb) (h2:b∈lb) (h3:l.length<=2) (h4:∀x∈l,x∈TW):GG lb n ⟨8,a,b,E0,E0,E0,false,0,0,l, []⟩
 |node (n:Nat) (a b t:B) (h1:a∈lb) (h2:b∈lb) (h3:t∈Yr):GG lb n ⟨9,a,b,t,E0,E0,false,0,0, [], []⟩
 |depth (n:Nat) (a:B) (mn mx:Int) (h1:a∈lb) (h3:0<=mn) (h4:mn<=2) (h5:mn<=mx) (h6:mx<=mn+1):GG lb n ⟨10,a,E0,E0,E0,E0,false,mn,mx, [], []⟩
 |not (n:Nat) (k:Glob) (h:GG lb n k):GG lb (n+1) ⟨11,E0,E0,E0,E0,E0,false,0,0, [], [k]⟩
 |two (n:Nat) (op:Int) (a b:Glob) (ho:op=12\/op=13) (h1:GG lb n a) (h2:GG lb n b):GG lb (n+1) ⟨op,E0,E0,E0,E0,E0,false,0,0, [], [a,b]⟩
def GF(f:Filt):Prop:=(f.op=1\/f.op=2\/f.op=3)/\f.reg∈Types
structure GQ (n:Nat) (q:Qry):Prop where
 lab:∃lb,qcb lb/\WP lb n q.pat
 cond:∀y∈am q.pat,GC (jo q.pat []) 1 y.cond
 glob:q.glob=GlobE\/GG (jo q.pat []) 2 q.glob
 filts:q.filts.length<=1/\∀f∈q.filts,GF f
 strat:0<=q.strat/\q.strat< 4
def BU:List B:=[⟨#[97]⟩,⟨#[98]⟩,⟨#[99]⟩,⟨#[65]⟩,⟨#[97,98]⟩,⟨#[]⟩]
def N3:List B:=[⟨#[88]⟩,⟨#[89]⟩]
def FsetL:List B:=[⟨#[124]⟩,⟨#[124,112,124]⟩,⟨#[124,112,124,113,124]⟩,⟨#[124,113,124]⟩]
def att3:List Attr:=[⟨⟨#[119,111,114,100]⟩,false⟩,⟨⟨#[116,97,103]⟩,false⟩,⟨⟨#[102,101,97,116]⟩,true⟩]
def ql2(l:List Attr):Prop:=l=att3
def Dg(r:List B):Prop:=∃w t f,w∈BU/\t∈N3/\f∈FsetL/\r=[w,t,f]
def Uf(c:Corpus):Prop:=c.attrs=att3/\∀r∈c.toks,Dg r
open Go.Proofs
def wL:X.Fn:=gx Tryz.f260 _
def Ao:X.Fn:=gx Tryz.f177 _
def wN:X.Fn:=gx Tryz.f77 _
def uR:X.Fn:=gx Tryz.f262 _
def Q0:X.Fn:=gx Tryz.f139 _
def Ul:X.Fn:=gx Tryz.f140 _
open X
variable {dq:Prop}
def qx2:List (Nat×X.Fn):=[(iK,wL),(qI,Ao),(aJ,wN),(bH,uR),(gU,Q0),(pW,Ul),(ro,E5),(rp,E6)]
def qnN:∀p∈qx2,qio p:=by
 unfold qx2
 repeat' first|exact ql4|refine qd8 qvI ?_
noncomputable def Δ2:Nat->Option X.Fn:=ΔL qx2
def qaq{f:Nat}{fn:X.Fn}(h:Δ2 f=some fn)(k:Nat):Tri dq Tryz.prog f (ZW (Kv Δ2 qlv k) f):=qd7 qnN h k
noncomputable def qug(f:Nat)(l:List D):Option (D×XH):=Kv Δ2 qlv 10000 f l ⟨.e, [], [],0⟩
def qgi(b:Bool):Option (D×XH)->Bool
 |some (.v (.bool t),_)=>t==b
 | _=>false
def qnk(n:Int):Option (D×XH)->Bool
 |some (.v (.int .i64 a),_)=>decide (a=n)
 | _=>false
def Ta{b:Bool}{r:Option (D×XH)}(h:qgi b r=true):∃x,r=some (.v (.bool b),x):=by
 unfold qgi at h;split at h
 ·rename_i t x;have:t=b:=by simpa using h
  subst this;exact⟨x,rfl⟩
 ·cases h
def qj3{n:Int}{r:Option (D×XH)}(h:qnk n r=true):∃x,r=some (.v (.int .i64 n),x):=by
 unfold qnk at h;split at h
 ·rename_i a x;simp only[decide_eq_true_eq]at h;subst h;exact⟨x,rfl⟩
 ·cases h
open Cod (enc dec)
abbrev s_rIsF:Spc:=aA (a1 B) (λx=>x∈FeatL) (enc (X:=Bool)) λ_ y=>y=true
abbrev s_rVName:Spc:=aA (a1 B) (λx=>x∈qlj::Types) (enc (X:=Bool)) λ_ y=>y=true
abbrev s_rVVal:Spc:=aA (a1 B) (λx=>x∈E0::NumL) (enc (X:=Int)) λ_ y=>y=0
def qgQ(s v:B):Bool:=s.data.toList.any λc=>decide (v.data.toList=[c])
abbrev s_rFeat:Spc:=aA (a2 B B) (λx=>x.1∈FsetL/\x.2∈FeatL) (enc (X:=Bool)) λx y=>y=qgQ x.1 x.2
def qrc:(FeatL.all λv=>qgi true (qug iK [.v (.string v)]))=true:=by kernel_rfl
def qxs:((qlj::Types).all λv=>qgi true (qug aJ [.v (.string v)]))=true:=by kernel_rfl
def qxr:((E0::NumL).all λv=>qnk 0 (qug bH [.v (.string v)]))=true:=by kernel_rfl
def qrd:(FsetL.all λs=>FeatL.all λv=>qgi (qgQ s v) (qug qI [.v (.string s), .v (.string v)]))=true:=by kernel_rfl
def R9{a:VL}{x:Value}{r':D}(h:Rep a (.v x) r'):FrzTo cX r' (.v x):=by cases h;exact .same _
def qml:Tri dq Tryz.prog iK s_rIsF.pt:=by
 refine pj (qaq (fn:=wL) rfl 10000) λv a=>⟨rfl,?_⟩
 obtain⟨x,h⟩:=Ta (qBi.1 qrc v a);exact⟨_,_,true,h,λρ r' b=>R9 b,rfl⟩
def qeC:Tri dq Tryz.prog aJ s_rVName.pt:=by
 refine pj (qaq (fn:=wN) rfl 10000) λv a=>⟨rfl,?_⟩
 obtain⟨x,h⟩:=Ta (qBi.1 qxs v a);exact⟨_,_,true,h,λρ r' b=>R9 b,rfl⟩
def qi6:Tri dq Tryz.prog bH s_rVVal.pt:=by
 refine pj (qaq (fn:=uR) rfl 10000) λv a=>⟨rfl,?_⟩
 obtain⟨x,h⟩:=qj3 (qBi.1 qxr v a);exact⟨_,_,(0:Int),h,λρ r' b=>R9 b,rfl⟩
def qi7:Tri dq Tryz.prog qI s_rFeat.pt:=by
 refine pj (qaq (fn:=Ao) rfl 10000) λx a=>⟨rfl,?_⟩
 obtain⟨s,v⟩:=x;obtain⟨z,h⟩:=Ta (qBi.1 (qBi.1 qrd s a.1) v a.2);exact⟨_,_,qgQ s v,h,λρ r' b=>R9 b,rfl⟩
end
section
open Cod (enc dec)
variable {S S0:Nat->Spc}
abbrev s_rAttr:Spc:=aA (a2 (List Attr) B) (λ_=>True) (enc (X:=Int)) λx y=>y=dA x.1 x.2
def J8:aq qh px S (a2 (List Attr) B) (λ_=>True) (enc (X:=Int)) λx y=>y=dA x.1 x.2:=by
 rintro⟨l,s⟩ -;simp[qh,px,-fB',-eB'];intro _;refine ah (X:=Unit) [1,7] [] l.length (λk _=>∀x∈l.take k,decide (x.nm=s)=false) (λ_=>[]) (λ_=>[]) () (by simp) ?_ ?_
 ·intro k _ hk a;obtain⟨x,b⟩:=bD hk;obtain⟨_,c⟩:=qBc.1 b;simp[hk,b,c,-fB',-eB'];refine⟨λh=>?_,λh=>?_⟩
  ·exact(sR b (by simp[h]) a).symm
  ·rw[au b];intro z hz;rcases qBo.1 hz with hz|hz
   ·have:=a z hz;simpa using this
   ·simp at hz;subst hz;simpa using h
 ·intro _ a;simp[-fB',-eB'];exact(kH (by simpa using a)).symm
abbrev s_rIn:Spc:=aA (a2 (List B) B) (λ_=>True) (enc (X:=Bool)) λx y=>y=nL x.1 x.2
def qef:aq Jd Ih S (a2 (List B) B) (λ_=>True) (enc (X:=Bool)) λx y=>y=nL x.1 x.2:=by
 rintro⟨l,s⟩ -;simp[Jd,Ih,-fB',-eB'];intro _;refine ah (X:=Unit) [1,7] [] l.length (λk _=>∀x∈l.take k,¬x=s) (λ_=>[]) (λ_=>[]) () (by simp) ?_ ?_
 ·intro k _ hk b;obtain⟨x,a⟩:=bD hk;obtain⟨_,c⟩:=qBc.1 a;simp[hk,a,c,-fB',-eB'];refine⟨λh=>?_,λh=>?_⟩
  ·simp[nL];exact h ▸qBf a
  ·rw[au a];intro z hz;rcases qBo.1 hz with hz|hz
   ·exact b z hz
   ·simp at hz;subst hz;exact h
 ·intro _ b;simp[-fB',-eB'];simp[nL];exactλx a=>b x (by simpa using a)
abbrev s_rShape:Spc:=aA (a1 Cond) (λx=>qcF x=true) (enc (X:=Bool)) λ_ y=>y=true
set_option maxHeartbeats 1000000 in
theorem Uw:aq dT dQ S (a1 Cond) (λx=>qcF x=true) (enc (X:=Bool)) λ_ y=>y=true:=by
 rintro⟨op,name,arg,val,lab,fold,ks⟩ hx;have hx:qcF ⟨op,name,arg,val,lab,fold,ks⟩=true:=hx;unfold qcF at hx;simp only at hx;split at hx
 ·rename_i e;subst e;simp at hx;obtain⟨⟨rfl,rfl,rfl,rfl,rfl⟩,rfl⟩:=hx;simp[dT,dQ,eT,-fB',-eB']
 split at hx
 ·rename_i e;subst e;simp at hx;obtain⟨⟨rfl,rfl⟩,rfl⟩:=hx;simp[dT,dQ,eT,-fB',-eB']
 split at hx
 ·rename_i e;subst e;simp at hx;obtain⟨⟨rfl,rfl,rfl⟩,rfl⟩:=hx;simp[dT,dQ,eT,-fB',-eB']
 split at hx
 ·rename_i e;subst e;simp at hx;obtain⟨⟨rfl,rfl⟩,rfl⟩:=hx;simp[dT,dQ,eT,-fB',-eB']
 split at hx
 ·rename_i e;subst e;simp at hx;obtain⟨⟨rfl,rfl,hav⟩,rfl⟩:=hx;by_cases ha:arg=eT
  ·have hv:=hav.resolve_left λh=>h ha
   subst ha;subst hv;simp[dT,dQ,eT,-fB',-eB']
  ·have ha':¬arg=⟨#[]⟩:=ha;simp[dT,dQ,eT,ha',-fB',-eB']
 split at hx
 ·rename_i e;subst e;simp at hx;obtain⟨⟨rfl,rfl,rfl,rfl,rfl⟩,hk⟩:=hx;simp[dT,dQ,eT,hk,-fB',-eB']
 split at hx
 ·rename_i e;simp at hx;obtain⟨⟨rfl,rfl,rfl,rfl,rfl⟩,hk1,hk2⟩:=hx;have q1:(2:Int)<=(ks.length:Int):=by omega
  have q2:(ks.length:Int)<=60:=by omega
  have q2':(ks.length:Int)<=1000:=by omega
  have q3:(ks.length:Int)<=9223372036854775807:=by omega
  rcases e with rfl|rfl<;>simp[dT,dQ,eT,q1,q2,q2',q3,-fB',-eB']
 ·cases hx
end
section
open Go.Proofs X
variable {dq:Prop}
def qzF(b:Bool):Option (D×XH)->Bool
 |some (.v (.bool t),_)=>t==b
 | _=>false
def WT:List B:=BU++N3
noncomputable def rD(v w:B)(f:Bool):Bool:=match(lj v).bind λx=>yF x w f with
 |some b=>qzF b (Kv Δ qlv 10000 qH [.v (.string v), .v (.string w), .v (.bool f)] ⟨.e, [], [],0⟩)
 |none=>false
noncomputable def GB(v:B):Bool:=WT.all λw=>rD v w false && rD v w true
end
section
open Cod (enc dec)
abbrev s_rMatches:Spc:=aA (a3 B B Bool) (λx=>x.1∈ValsI/\x.2.1∈WT) (enc (X:=Bool)) λx y=>((lj x.1).bind λz=>yF z x.2.1 x.2.2)=some y
abbrev s_rParse0:Spc:=aA (a1 B) (λx=>x∈ValsI\/x∈Ob) (λ_:Unit=>D.tup [.agg [.any, .any, .any, .any, .any], .v (.int .i64 0), .v (.int .i64 0)]) λ_ _=>True
def qqy:Option (D×X.XH)->Bool
 |some (.tup [.agg [_,_,_,_,_], .v (.int .i64 a), .v (.int .i64 b)],_)=>decide (a=0) && decide (b=0)
 | _=>false
variable {S S0:Nat->Spc}
def qtp(x:Cond):Prop:=(x.op=2->x.val∈ValsI/\(x.name=eT\/x.name∈Attr2))/\(x.op=3->x.val∈FeatL/\x.name=DM)/\(x.op=4->x.name∈Attr2/\x.arg∈Attr2)/\(x.op=5->x.name∈qlj::Types/\(x.arg=eT\/x.arg∈qlj::Types)/\x.val∈E0::NumL)
def qos(x:Cond×List Attr×List B):Prop:=mT x.2.1 x.2.2 x.1=true/\qtp x.1/\x.2.1.length<=1000
abbrev s_rnode:Spc:=aA (a3 Cond (List Attr) (List B)) qos (enc (X:=Int)) λ_ y=>y=0
theorem YA(h1:S vj=s_rShape)(h2:S fE=s_rAttr)(h3:S mO=s_rParse0)(h4:S iK=s_rIsF)(h5:S G0=s_rIn)(h6:S aJ=s_rVName)(C:S bH=s_rVVal):
 aq fU fI S (a3 Cond (List Attr) (List B)) qos (enc (X:=Int)) λ_ y=>y=0:=by
 rintro⟨x,a,lb⟩ ⟨k,K,hl⟩;have k:mT a lb x=true:=k;have hl:a.length<=1000:=hl;unfold mT at k;simp only[qBh]at k;obtain⟨⟨hs,hn⟩,hc⟩:=k;obtain⟨op,name,arg,val,lab,fold,ks⟩:=x;obtain⟨E,F,U,I⟩:=K;simp only at E F I;have t:=(GD (λx:Attr=>decide (x.nm=name)) a).2;have u:dA a name<a.length:=t;have c:(a.length:Int)<=9223372036854775807:=by omega
 unfold qrU at hc;unfold qjK at hn;simp only at hc hn;split at hc
 ·rename_i e;subst e;simp only[if_true,decide_eq_true_eq]at hn;have s:=(E rfl).1;unfold pS at hn;have d:¬a=[]:=λe=>by
   subst e;simp[dA,nK]at hn;split at hn<;>omega
  have l:0<(a.length:Int):=by
   have:=List.length_pos_iff.2 d;omega
  have p:¬(a.length:Int)=0:=by omega
  by_cases h:name=eT
  ·subst h;have L:eT=⟨#[]⟩:=rfl;have j:qcF ⟨2,⟨#[]⟩,arg,val,lab,fold,ks⟩=true:=hs;simp[fU,fI,h1,h2,h3,j,c,d,l,p,s,L,-fB',-eB']
  ·have q:¬name=⟨#[]⟩:=h;rw[if_neg h]at hn;have r:¬dA a name= -1:=by omega
   simp[fU,fI,h1,h2,h3,hs,c,d,l,p,q,r,s,-fB',-eB']
 rename_i M;split at hc
 ·rename_i e;subst e;simp at hn;simp only[qBh]at hc;obtain⟨⟨⟨c1,c2⟩,c3⟩,c4⟩:=hc;obtain⟨b,hb⟩:=bD (show(dA a name).toNat<a.length by omega);obtain⟨_,w⟩:=qBc.1 hb;rw[hb]at c1;have c1:b.st=true:=c1;have s:=(F rfl).1;have r:¬dA a name= -1:=by omega
  simp[fU,fI,h1,h2,h4,hs,hn,c,u,r,hb,w,c1,s,-fB',-eB']
 rename_i N;split at hc
 ·rename_i e;subst e;simp at hn;have r:¬dA a name= -1:=by omega
  have A:¬dA a arg= -1:=by omega
  have hc:nL lb lab=true:=hc;simp[fU,fI,h1,h2,h5,hs,hc,r,A,-fB',-eB']
 rename_i O;split at hc
 ·rename_i e;subst e;obtain⟨v1,v2,J⟩:=I rfl;rcases v2 with v2|v2
  ·subst v2;have j:qcF ⟨5,name,⟨#[]⟩,val,lab,fold,ks⟩=true:=hs;simp[fU,fI,eT,h1,h2,h6,C,j,v1,J,-fB',-eB']
  ·simp[fU,fI,h1,h2,h6,C,hs,v1,v2,J,-fB',-eB']
 rename_i Q;simp[fU,fI,h1,h2,hs,M,N,O,Q,-fB',-eB']
def qlz(a:List Attr)(lb:List B):Nat->Cond->Prop
 | 0=>λ_=>False
 |n+1=>λx=>mT a lb x=true/\qtp x/\∀k∈x.kids,qlz a lb n k
def qh9(n:Nat)(x:Cond×List Attr×List B):Prop:=qlz x.2.1 x.2.2 n x.1/\x.2.1.length<=1000
abbrev Vy(n:Nat):Spc:=aA (a3 Cond (List Attr) (List B)) (qh9 n) (enc (X:=Int)) λ_ y=>y=0
def Uu(n:Nat)(h1:S Ev=s_rnode)(h2:S ri=Vy n):
 aq zg ye S (a3 Cond (List Attr) (List B)) (qh9 (n+1)) (enc (X:=Int)) λ_ y=>y=0:=by
 rintro⟨x,a,lb⟩ ⟨⟨j,l,hk⟩,hl⟩;simp only at j l hk hl;have c:qos (x,a,lb):=⟨j,l,hl⟩
 simp[zg,ye,h1,c];intro p;refine ah (X:=Unit) [1,2,19] [] x.kids.length (λ_ _=>True) (λ_=>[]) (λ_=>[]) () (by simp) ?_ ?_
 ·intro k _ b _;obtain⟨y,d⟩:=bD b;obtain⟨_,h⟩:=qBc.1 d;have hp:qh9 n (y,a,lb):=⟨hk y (qBf d),hl⟩
  simp[h2,b,d,h,hp]
 ·intro _ _;simp
def qib(n:Nat)(x:Cond×Int):Prop:=bb x.1<=n/\0<=x.2/\x.2+bb x.1<=61/\cM x.1<=60
abbrev VA(n:Nat):Spc:=aA (a2 Cond Int) (qib n) (lH (Y:=Int) (Z:=Int)) λx y=>y=((cM x.1:Int),(bb x.1:Int))
theorem Uv(n:Nat)(h1:S rj=VA n):aq zh yf S (a2 Cond Int) (qib (n+1)) (lH (Y:=Int) (Z:=Int)) λx y=>y=((cM x.1:Int),(bb x.1:Int)):=by
 rintro⟨x,deep⟩ ⟨hn,h0,h2,h3⟩;simp only at hn h0 h2 h3;have q:=zC x;have r:=qC x;have j:¬60<deep:=by omega
 simp[zh,yf,j];intro s;refine ah (X:=Int×Int) [1,15] [] x.kids.length (λk z=>z.1=1+ (fK (x.kids.take k):Int)/\z.2=(iQ (x.kids.take k):Int)) (λz=>[(6,enc z.1),(7,enc z.2)]) (λ_=>[]) (1,0) (by simp[fK,iQ]) ?_ ?_
 ·rintro k ⟨m,d⟩ hk ⟨c,a⟩;simp only at c a;obtain⟨y,h⟩:=bD hk;obtain⟨_,l⟩:=qBc.1 h;have hm:=Ql h;have u:=Ck (qBf h);have hp:qib n (y,deep+1):=⟨by show bb y<=n;omega,by show 0<=deep+1;omega,by show deep+1+bb y<=61;omega,by show cM y<=60;omega⟩
  have b:¬60<m+ (cM y:Int):=by omega
  have p:InR .i64 (deep+1):=by simp only[InR];omega
  have t:InR .i64 (m+ (cM y:Int)):=by simp only[InR];omega
  simp[h1,hk,h,l,hp,b,p,t];exactλ_=>⟨by omega,by rw[hm.2.1,a];omega⟩
 ·rintro⟨m,d⟩ ⟨c,a⟩;simp only at c a;rw[qBm]at c a;have p:InR .i64 (d+1):=by simp only[InR];omega
  simp[p];exact⟨by omega,by omega⟩
abbrev s_rcountA:Spc:=aA (a2 Cond Int) (λx=>∃n,qib n x) (lH (Y:=Int) (Z:=Int)) λx y=>y=((cM x.1:Int),(bb x.1:Int))
abbrev s_rNodes:Spc:=aA (a1 Cond) (λx=>cM x<=60/\bb x<=20) (lH (Y:=Int) (Z:=Int)) λx y=>y=((cM x:Int),(bb x:Int))
def Ux(h1:S rj=s_rcountA):aq zi yg S (a1 Cond) (λx=>cM x<=60/\bb x<=20) (lH (Y:=Int) (Z:=Int)) λx y=>y=((cM x:Int),(bb x:Int)):=by
 rintro x ⟨hn,a⟩;have hp:∃n,qib n (x,0):=⟨20,a,qCi _,by show(0:Int) +bb x<=61;omega,hn⟩
 simp[zi,yg,h1,hp]
abbrev s_rfirstA:Spc:=aA (a3 Cond (List Attr) (List B)) (λx=>∃n,qh9 n x) (enc (X:=Int)) λ_ y=>y=0
def qh6(x:Cond×List Attr×List B):Prop:=cM x.1<=60/\bb x.1<=20/\∃n,qh9 n x
abbrev s_rVal:Spc:=aA (a3 Cond (List Attr) (List B)) qh6 (enc (X:=Int)) λ_ y=>y=0
def Lx(h1:S rk=s_rNodes)(h2:S ri=s_rfirstA):aq sf rH S (a3 Cond (List Attr) (List B)) qh6 (enc (X:=Int)) λ_ y=>y=0:=by
 rintro⟨x,a,lb⟩ ⟨hn,b,hp⟩;simp only at hn b;have c:¬60<(cM x:Int):=by omega
 have d:¬20<(bb x:Int):=by omega
 simp[sf,rH,h1,h2,hn,b,hp,c,d,-fB',-eB', -exists_and_left, -exists_and_right]
def qlf(x:Cond×List Attr×List B):List D:=[enc x.1, .cptr [enc x.2.1] 0, .cptr [enc x.2.2] 0]
def qax(z b:Cond×List Attr×List B)(h:qlf z=qlf b):z=b:=by
 obtain⟨a,s,l⟩:=z;obtain⟨c,d,j⟩:=b;unfold qlf at h;simp only[qB6,D.cptr.injEq,and_true]at h;rw[cS h.1,cS h.2.1,cS h.2.2]
noncomputable abbrev aVd:fm (Cond×List Attr×List B):=aX qlf qax
@[simp] theorem qs0(x:Cond)(a:List Attr)(lb:List B):aVd.dec [.agg [.v (.int .i64 x.op), .v (.string x.name), .v (.string x.arg), .v (.string x.val), .v (.string x.lab), .v (.bool x.fold), .list 7 (x.kids.map enc)], .cptr [.list 2 (a.map enc)] 0, .cptr [.list 1 (lb.map enc)] 0]=some (x,a,lb):=by
 have h:=Jq qlf qax (x,a,lb);have e:qlf (x,a,lb)=[.agg [.v (.int .i64 x.op), .v (.string x.name), .v (.string x.arg), .v (.string x.val), .v (.string x.lab), .v (.bool x.fold), .list 7 (x.kids.map enc)], .cptr [.list 2 (a.map enc)] 0, .cptr [.list 1 (lb.map enc)] 0]:=by simp[qlf]
 rw[<-e];exact h
noncomputable abbrev qaZ:Spc:=aA aVd (λx=>mT x.2.1 x.2.2 x.1=true/\x.2.1.length<=1000) (enc (X:=Int)) λ_ y=>y=0
def xQ(h1:S oj=VS):aq gS gD S aVd (λx=>mT x.2.1 x.2.2 x.1=true/\x.2.1.length<=1000) (enc (X:=Int)) λ_ y=>y=0:=by
 rintro⟨x,a,lb⟩ ⟨b,hl⟩;simp only at b hl;rw[Hu];simp[qlf,gS,gD,h1,b,hl,-fB',-eB']
def qsk(n:Nat)(x:Cond×D×Unit):Prop:=∃(a:List Attr) (lb:List B),x.2.1= .clo cn [.cptr [enc a] 0, .cptr [enc lb] 0]/\rc a lb n x.1=true/\a.length<=1000/\cM x.1<=60
noncomputable abbrev VJ(n:Nat):Spc:=aA (aE Cond (aD a0)) (qsk n) (enc (X:=Int)) λx y=>y=0
noncomputable abbrev VI:Spc:=aA (aE Cond (aD a0)) (λx=>∃n,qsk n x) (enc (X:=Int)) λx y=>y=0
theorem Ff(n:Nat)(h1:S cn=qaZ)(h2:S gK=VJ n):aq pd nB S (aE Cond (aD a0)) (qsk (n+1)) (enc (X:=Int)) λx y=>y=0:=by
 rintro⟨x,d,⟨⟩⟩ ⟨a,lb,p,b,hl,hn⟩;simp only at p b hn;subst p;simp only[rc,qBh]at b;obtain⟨c,h⟩:=b;simp[pd,nB,h1,c,hl,-fB',-eB'];intro q;refine ah (X:=Unit) [1,16] [] x.kids.length (λk _=>True) (λ_=>[]) (λ_=>[]) () (by simp) ?_ ?_
 ·rintro k -hk -;obtain⟨y,j⟩:=bD hk;obtain⟨_,l⟩:=qBc.1 j;have hm:=qBf j;have r:=B5 hm;have s:=qC x;have hp:qsk n (y, .clo cn [.cptr [.list 2 (a.map enc)] 0, .cptr [.list 1 (lb.map enc)] 0],()):=⟨a,lb,rfl,qBi.1 h y hm,hl,by show cM y<=60;omega⟩
  simp[h2,hk,j,l,hp,-fB',-eB']
 ·rintro - -;simp[-fB',-eB']
abbrev qak(x:Cond×List Attr×List B):Prop:=qjC x.2.1 x.2.2 x.1=true/\x.2.1.length<=1000
abbrev Zh:Spc:=aA (a3 Cond (List Attr) (List B)) qak (enc (X:=Int)) λ_ y=>y=0
def Az(h1:S dn=Mg)(h2:S gK=VI):aq jl iY S (a3 Cond (List Attr) (List B)) qak (enc (X:=Int)) λ_ y=>y=0:=by
 rintro⟨x,a,lb⟩ ⟨b,hl⟩;simp only at b hl;unfold qjC at b;simp at b;obtain⟨⟨hn,k⟩,c⟩:=b;have hp:∃n,qps n (x,0,1):=⟨bb x,qBj _,qCi _,by show(0:Int) +cM x<=60;omega,by show(0:Int)<=1;omega,by show(1:Int) +bb x<=1000;omega,by show bb x<=60;omega⟩
 have d:∃n,qsk n (x, .clo cn [.cptr [.list 2 (a.map enc)] 0, .cptr [.list 1 (lb.map enc)] 0],()):=⟨20,a,lb,rfl,c,hl,hn⟩
 have h:¬(60:Int)<(cM x:Int):=by omega
 have j:¬(20:Int)< 1+ (bb x:Int) -1:=by omega
 simp[jl,iY,h1,h2,hp,d,h,j,-fB',-eB']
def WM(l:List Pair)(s:Pair):Bool:=l.any λz=>decide (z=s)
abbrev qaR:Spc:=aA (a2 (List Pair) Pair) (λ_=>True) (enc (X:=Int)) λx y=>y=nK x.1 λz=>decide (z=x.2)
abbrev qaV:Spc:=aA (a2 (List Pair) Pair) (λ_=>True) (enc (X:=Bool)) λx y=>y=WM x.1 x.2
theorem Rw:aq jZ jC S (a2 (List Pair) Pair) (λ_=>True) (enc (X:=Int)) λx y=>y=nK x.1 λz=>decide (z=x.2):=by
 rintro⟨l,s⟩ -;simp[jZ,jC,-fB',-eB'];intro _;refine ah (X:=Unit) [0,3] [] l.length (λk _=>∀x∈l.take k,decide (x=s)=false) (λ_=>[]) (λ_=>[]) () (by simp) ?_ ?_
 ·intro k _ hk c;obtain⟨x,d⟩:=bD hk;obtain⟨_,j⟩:=qBc.1 d;simp[hk,d,j,-fB',-eB'];have p:s.nm=x.nm->s.vl=x.vl->x=s:=λh1 h2=>by
   obtain⟨a,b⟩:=x;obtain⟨q,b'⟩:=s;simp only at h1 h2;rw[h1,h2]
  refine⟨λh1 h2=>(sR d (by simp[p h1 h2]) c).symm,λh=>?_⟩;rw[au d];intro z hz;rcases qBo.1 hz with hz|hz
  ·have:=c z hz;simpa using this
  ·simp at hz;subst hz;intro e;subst e;exact h rfl rfl
 ·intro _ c;simp[-fB',-eB'];exact(kH (by simpa using c)).symm
def Kn(h1:S ln=qaR):aq gM gy S (a2 (List Pair) Pair) (λ_=>True) (enc (X:=Bool)) λx y=>y=WM x.1 x.2:=by
 rintro⟨l,s⟩ -;simp[gM,gy,h1,-fB',-eB'];exact Cb _ l
def vR(x:Cond)(tok:Int)(r:Region):Bool:=decide (r.ty=x.name) && decide (r.b<=tok) && decide (tok<r.e) && (decide (x.arg=eT)||WM r.kv ⟨x.arg,x.val⟩)
def qd2(x:Cond):List D:=[.v (.int .i64 x.op), .v (.string x.name), .v (.string x.arg), .v (.string x.val), .v (.string x.lab), .v (.bool x.fold), .list 7 (x.kids.map enc)]
def qbV(x:Cond): .agg (qd2 x)=enc x:=by simp[qd2]
def qkK{x y:Cond}(h:qd2 x=qd2 y):x=y:=cS (by rw[<-qbV,<-qbV,h])
def qii(x:Region×Cond×Int):List D:=[enc x.1, .cptr (qd2 x.2.1) 0, .cptr [enc x.2.2] 0]
def qay(z b:Region×Cond×Int)(h:qii z=qii b):z=b:=by
 obtain⟨a,s,l⟩:=z;obtain⟨c,d,j⟩:=b;unfold qii at h;simp only[qB6,D.cptr.injEq,and_true]at h;rw[cS h.1,qkK h.2.1,cS h.2.2]
noncomputable abbrev qAc:fm (Region×Cond×Int):=aX qii qay
noncomputable abbrev FZ:Spc:=aA qAc (λ_=>True) (enc (X:=Bool)) λx y=>y=vR x.2.1 x.2.2 x.1
def Aw(h1:S ip=qaV):aq bM bJ S qAc (λ_=>True) (enc (X:=Bool)) λx y=>y=vR x.2.1 x.2.2 x.1:=by
 rintro⟨r,x,tok⟩ -;rw[Hu];by_cases c:r.ty=x.name
 rotate_left
 ·simp[qii,qd2,bM,bJ,vR,c,-fB',-eB']
 by_cases d:r.b<=tok
 rotate_left
 ·simp[qii,qd2,bM,bJ,vR,c,d,-fB',-eB']
 by_cases j:tok<r.e
 rotate_left
 ·simp[qii,qd2,bM,bJ,vR,c,d,j,-fB',-eB']
 by_cases h:x.arg=eT
 ·have a:x.arg=⟨#[]⟩:=h;simp[qii,qd2,bM,bJ,vR,c,d,j,h,a,eT,-fB',-eB']
 ·have a:¬x.arg=⟨#[]⟩:=h;simp[qii,qd2,bM,bJ,vR,h1,c,d,j,h,a,-fB',-eB']
abbrev qfd:Spc:=aA (a3 Corpus Cond Int) (λ_=>True) (enc (X:=Bool)) λx y=>y=x.1.regs.any (vR x.2.1 x.2.2)
def DB(h0:S0 bW=FZ)(h1:S eI=qcI Region S0):aq lC ld S (a3 Corpus Cond Int) (λ_=>True) (enc (X:=Bool)) λx y=>y=x.1.regs.any (vR x.2.1 x.2.2):=by
 rintro⟨c,x,tok⟩ -;have a:FunOn S0 (.clo bW [.cptr (qd2 x) 0, .cptr [enc tok] 0]) c.regs (vR x tok):=
  xD (f:=λr=>(r,x,tok)) h0 (λr _=>Jq qii qay (r,x,tok)) (λ_ _=>trivial) (λr _ y b=>b)
 unfold qd2 at a;simp[lC,ld,h1,-fB',-eB'];exact⟨⟨_,a⟩,λy b=>b _ a⟩
mutual
def mR:Cond->Bool| .mk op _ _ _ _ _ ks=>decide (op=4)||Vs ks
def Vs:List Cond->Bool|[]=>false|k::ks=>mR k||Vs ks
end
def PR:∀l:List Cond,Vs l=l.any mR
 | []=>by rw[Vs];rfl
 |k::l=>by rw[Vs,PR l];rfl
theorem Lc(x:Cond):mR x=(decide (x.op=4)||x.kids.any mR):=by cases x;rw[mR,PR]
abbrev FY(n:Nat):Spc:=aA (a1 Cond) (λx=>bb x<=n) (enc (X:=Bool)) λx y=>y=mR x
def HW(n:Nat)(h0:S0 cm=FY n)(h1:S bV=qcI Cond S0):aq jx jq S (a1 Cond) (λx=>bb x<=n+1) (enc (X:=Bool)) λx y=>y=mR x:=by
 rintro x c;have c:bb x<=n+1:=c;have d:FunOn S0 (.clo cm []) x.kids mR:=
  xD (f:=λk=>k) h0 (λk _=>by rw[qol,Cod.dec_enc]) (λk hk=>by have:=BQ hk;show bb k<=n;omega) (λr _ y b=>b)
 have a:=Lc x;by_cases e:x.op=4
 ·simp[jx,jq,h1,a,e,-fB',-eB']
 ·simp[jx,jq,h1,a,e,-fB',-eB'];exact⟨⟨_,d⟩,λy b=>b _ d⟩
end
section
open Cod (enc dec)
variable {dq:Prop}
@[simp] theorem qxO(s:Rp):Rp.mk s.s s.pos s.fault s.e=s:=by cases s;rfl
def sa(s:Rp):List D:=[enc s.s,enc s.pos,enc s.fault,enc s.e]
@[simp] theorem qu5(s:Rp):sa s=[enc s.s,enc s.pos,enc s.fault,enc s.e]:=i' rfl
section
variable {Y Z:Type}
def qmC:Pz Rp:=qdO sa
def qwj(A:fm Z)(er:Y->D)(pre:Rp->Z->Prop)(post:Rp->Z->Rp->Y->Prop):Spc:=qr3 qmC A er pre post
def qzi(er:Y->D)(pre:Rp->Z->Prop)(post:Rp->Z->Rp->Y->Prop)(id b:Nat)(r:Option Res)(o:Option Z)(H:ab)(K:D->ab->Prop):Prop:=
 ∃x,r=some (.box b (sa x))/\ga o λz=>pre x z/\∀a y,post x z a y->K (er y) (ak H id (some (.box b (sa a))))
def qhB{x y:Rp}(h:sa x=sa y):x=y:=by
 obtain⟨l,a,d,e⟩:=x;obtain⟨b,c,j,k⟩:=y;simp only[sa,qB6]at h;obtain⟨h1,h2,h3,h4,_⟩:=h;have h1:=cS h1;have h2:=cS h2;have h3:=cS h3;have h4:=cS h4;subst h1;subst h2;subst h3;subst h4;rfl
@[simp] theorem qmB(A:fm Z)(er:Y->D)(pre:Rp->Z->Prop)(post:Rp->Z->Rp->Y->Prop)(d i b:Nat)(ds:List D)(H:ab)(K:D->ab->Prop):(qwj A er pre post).pt d (.bptr i b 0::ds) H K=qzi er pre post i b (H i) (A.dec ds) H K:=by
 refine propext ⟨λh=>?_,λh=>?_⟩
 ·obtain⟨id,b',x,z,a,h1,h2,h3,h4,h5,h6,c⟩:=h;cases h1;refine⟨x,h3,?_⟩;rw[h2];exact⟨h6,c⟩
 ·obtain⟨x,h1,h2⟩:=h;cases hz:A.dec ds with
  |none=>rw[hz]at h2;exact h2.elim
  |some z=>rw[hz]at h2;exact⟨i,b,x,z,ds,rfl,hz,h1,λp hp=>by simp[qmC,qdO]at hp,by simp[qmC,qdO],h2.1,h2.2⟩
def Hx(er:Y->D)(b:Nat)(post:Rp->Y->Prop)(r:D)(H:ab):Prop:=QU qmC er b post r H
def GP{er:Y->D}{b:Nat}{post:Rp->Y->Prop}{r:D}{H:ab}(x:Rp)(y:Y)(a:FrzTo (λi=>if i=0 then none else H i) r (er y))(h0:H 0=some (.box b (sa x)))(c:post x y):Hx er b post r H:=
 ⟨x,y,by simpa [qmC,qdO]using a,h0,λp hp=>by simp[qmC,qdO]at hp,c⟩
def uK(cc:CC)(rs:List ai)(S:Nat->Spc)(A:fm Z)(er:Y->D)(pre:Rp->Z->Prop)(post:Rp->Z->Rp->Y->Prop):Prop:=
 ∀b x z,pre x z->vc S cc (uL rs λr H'=>Hx er b (post x z) r H') (dr (.bptr 0 b 0::A.view z)) (ak cX 0 (some (.box b (sa x))))
variable {P:Program}{S:Nat->Spc}{f:Nat}{im:List Nat}{cc:CC}{rs:List ai}{N:Nat}
def YX{A:fm Z}{er:Y->D}{pre:Rp->Z->Prop}{post:Rp->Z->Rp->Y->Prop}(a:∀f,Tri dq P f (S f).pt)(h:zF P f im cc rs N)(c:∀z,(A.view z).length+1<=N)(d:uK cc rs S A er pre post):Tri dq P f (qwj A er pre post).pt:=
 DL (by simp[qmC,qdO]) a h c λb x z hp=>d b x z hp
end
section
variable {Y Z:Type}
def qdZ(A:fm Z)(er:Y->D)(F:Rp->Z->Option (Rp×Y)):Spc:=qwj A er (λs z=>∃r,F s z=some r) (λs z a y=>F s z=some (a,y))
def qfl(er:Y->D)(F:Rp->Z->Option (Rp×Y))(id b:Nat)(r:Option Res)(o:Option Z)(H:ab)(K:D->ab->Prop):Prop:=
 ∃x,r=some (.box b (sa x))/\ga o λz=>ga (F x z) λq=>K (er q.2) (ak H id (some (.box b (sa q.1))))
@[congr] theorem qti{er:Y->D}{F:Rp->Z->Option (Rp×Y)}{id b:Nat}{r r':Option Res}{o a:Option Z}{H:ab}{K:D->ab->Prop}(h1:r=r')(h2:o=a):qfl er F id b r o H K=qfl er F id b r' a H K:=by subst h1;subst h2;rfl
def qmX{F:Option (Rp×Y)}{k:Rp->Y->Prop} :((∃r,F=some r)/\∀a y,F=some (a,y)->k a y)=ga F λq=>k q.1 q.2:=by
 cases F with
 | none=>
   refine propext (Iff.intro (λh=>?_) (λh=>?_))
   ·obtain⟨⟨r,h⟩,_⟩:=h;cases h
   ·exact False.elim h
 | some r=>
   refine propext (Iff.intro (λh=>h.2 _ _ rfl) (λh=>⟨⟨_,rfl⟩,λa y e=>?_⟩));cases e;exact h
@[simp] theorem qwh(A:fm Z)(er:Y->D)(F:Rp->Z->Option (Rp×Y))(d i b:Nat)(ds:List D)(H:ab)(K:D->ab->Prop):(qdZ A er F).pt d (.bptr i b 0::ds) H K=qfl er F i b (H i) (A.dec ds) H K:=by
 unfold qdZ qfl;rw[qmB];unfold qzi;refine propext (exists_congr λx=>and_congr_right λ_=>?_);cases A.dec ds with
 |none=>exact qCE
 |some z=>exact iff_of_eq qmX
@[simp] theorem qwi(er:Y->D)(F:Rp->Z->Option (Rp×Y))(id b:Nat)(l:B)(p a e:Int)(o:Option Z)(H:ab)(K:D->ab->Prop):
 qfl er F id b (some (.box b [.v (.string l), .v (.int .i64 p), .v (.int .i64 a), .v (.int .i64 e)])) o H K=ga o λz=>ga (F ⟨l,p,a,e⟩ z) λq=>K (er q.2) (ak H id (some (.box b (sa q.1)))):=by
 refine propext ⟨λ⟨x,h1,h2⟩=>?_,λh=>⟨⟨l,p,a,e⟩,rfl,h⟩⟩;have c:sa ⟨l,p,a,e⟩=sa x:=by
  have:=qBl h1;exact(Res.box.inj this).2
 have:=qhB c;subst this;exact h2
variable {P:Program}{S:Nat->Spc}{f:Nat}{im:List Nat}{cc:CC}{rs:List ai}{N:Nat}
def fG{A:fm Z}{er:Y->D}{F:Rp->Z->Option (Rp×Y)}(a:∀f,Tri dq P f (S f).pt)(h:zF P f im cc rs N)(b:∀z,(A.view z).length+1<=N)
 (c:uK cc rs S A er (λs z=>∃r,F s z=some r) (λs z d y=>F s z=some (d,y))):Tri dq P f (qdZ A er F).pt:=YX a h b c
end
end
section
open Go.Proofs
def fT:CC:=gq Tryz.f302 [] { ke:=[0] } _
def fH:List ai:=[.tmp 2]
def AY:FO bu [] fT fH 29:=fo
def kg:CC:=gq Tryz.f365 [] { bx:=[0] } _
def jE:List ai:=[]
def AX:FO lp [] kg jE 25:=fo
def fw:CC:=gq Tryz.f357 [] { bx:=[0] } _
def fp:List ai:=[.tmp 4, .tmp 5]
def uM:FO dR [] fw fp 37:=fo
def iw:CC:=gq Tryz.f361 [] { bx:=[0] } _
def hU:List ai:=[.tmp 2, .tmp 3]
def yy:FO ja [] iw hU 27:=fo
def yY:CC:=gq Tryz.f354 [] {} _
def ya:List ai:=[.cell 4 true 5]
def Sj:FO Bh [] yY ya 10:=fo
def ep:CC:=gq Tryz.f342 [2002002] { bx:=[0] } _
def dZ:List ai:=[.cell 2 true 5, .tmp 3]
def AZ:FO lq [2002002] ep dZ 72:=fo
def jh:CC:=gq Tryz.f355 [] { ke:=[0] } _
def iU:List ai:=[.cell 2 true 5, .tmp 3]
def Aa:FO jT [] jh iU 108:=fo
def iv:CC:=gq Tryz.f324 [] { bx:=[0] } _
def gZ:List ai:=[.cell 2 true 5, .tmp 3]
def yx:FO iZ [] iv gZ 54:=fo
def ix:CC:=gq Tryz.f301 [] { ke:=[0] } _
def hZ:List ai:=[.cell 2 true 5, .tmp 3]
def yz:FO jc [] ix hZ 49:=fo
def jg:CC:=gq Tryz.f270 [] { ke:=[0] } _
def iT:List ai:=[.cell 2 true 5, .tmp 3]
def zZ:FO jS [] jg iT 44:=fo
end
end Go.Gv
