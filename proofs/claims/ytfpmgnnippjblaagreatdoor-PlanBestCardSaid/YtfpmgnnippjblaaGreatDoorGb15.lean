/- V12 -/
import Derived.Test.YtfpmgnnippjblaaGreatDoorGb14
set_option linter.all false
set_option maxRecDepth 100000
set_option maxHeartbeats 0
open Bool renaming forall_bool → fB', exists_bool → eB'
namespace Go.Gv
section
open Cod (enc dec)
section
variable (N:Pst->Option (Pst×Cond))(O:Pst->Option (Pst×Cond))
end
section
variable (A:Pst->Option (Pst×Pat))(O:Pst->Option (Pst×Cond))
end
section
variable (N:Pst->Option (Pst×Glob))(O:Pst->Option (Pst×Glob))
end

open Go.Proofs
def mF:CC:=gq Tryz.f123 [] {} _
def mh:List ai:=[.tmp 2]
def Em:FO bM [] mF mh 29:=fo
def rE:CC:=gq Tryz.f190 [] {} _
def qJ:List ai:=[.tmp 2]
def KA:FO cp [] rE qJ 21:=fo
def rD:CC:=gq Tryz.f191 [] {} _
def qI:List ai:=[.tmp 2]
def Kz:FO fa [] rD qI 17:=fo
def Du:CC:=gq Tryz.f202 [2,3] {} _
def Cs:List ai:=[.tmp 4]
def ZD:FO vv [2,3] Du Cs 74:=fo
def ru:CC:=gq Tryz.f186 [3,2] {} _
def qC:List ai:=[.tmp 4]
def nL:CC:=gq Tryz.f252 [2] {} _
def ny:List ai:=[.tmp 3]
def yg:CC:=gq Tryz.f253 [1] {} _
def xp:List ai:=[.tmp 2]
def yi:CC:=gq Tryz.f187 [1] {} _
def xr:List ai:=[.tmp 2]
def vU:CC:=gq Tryz.f120 [3,2] {} _
def uS:List ai:=[.tmp 4]
def rz:CC:=gq Tryz.f189 [2] {} _
def qE:List ai:=[.tmp 3]
def vT:CC:=gq Tryz.f121 [1] {} _
def uR:List ai:=[.tmp 2]
def tM:CC:=gq Tryz.f124 [1] {} _
def th:List ai:=[.tmp 2]
def vY:CC:=gq Tryz.f119 [1] {} _
def uW:List ai:=[.tmp 2]
def vS:CC:=gq Tryz.f74 [1] {} _
def uQ:List ai:=[.tmp 2]
def yh:CC:=gq Tryz.f125 [1] {} _
def xq:List ai:=[.tmp 2]
def yk:CC:=gq Tryz.f98 [1] {} _
def xu:List ai:=[.tmp 2]
def iu:CC:=gq Tryz.f222 [1] {} _
def gY:List ai:=[.tmp 2, .tmp 3]
def vX:CC:=gq Tryz.f164 [1] {} _
def uV:List ai:=[.tmp 2, .tmp 3]
def eh:CC:=gq Tryz.f188 [] {} _
def dX:List ai:=[.tmp 4]
def fl:CC:=gq Tryz.f254 [] {} _
def fg:List ai:=[.tmp 4]
def AV:CC:=gq Tryz.f138 [2] {} _
def zS:List ai:=[.tmp 4]
def xX:CC:=gq Tryz.f75 [2] {} _
def xe:List ai:=[.tmp 4]
def AW:CC:=gq Tryz.f76 [1] { cu:=[1] } _
def zT:List ai:=[.tmp 2]
def vO:CC:=gq Tryz.f78 [1] { cu:=[1] } _
def uL:List ai:=[.tmp 2]
def rq:CC:=gq Tryz.f36 [1] {} _
def qA:List ai:=[.tmp 2]
def na:CC:=gq Tryz.f37 [2] { bx:=[1,23] } _
def mQ:List ai:=[.tmp 4]
def xY:CC:=gq Tryz.f12 [1] { bx:=[7] } _
def xf:List ai:=[.tmp 2]
def Dr:CC:=gq Tryz.f79 [1] {} _
def Cp:List ai:=[.tmp 2]
def Dt:CC:=gq Tryz.f103 [1] {} _
def Cr:List ai:=[.tmp 2]
def lQ:CC:=gq Tryz.f234 [1] {} _
def lH:List ai:=[.tmp 2, .tmp 3]
def AX:CC:=gq Tryz.f170 [1] {} _
def zU:List ai:=[.tmp 2, .tmp 3]
def xU:CC:=gq Tryz.f169 [3,1044033,1040033,1037033] { cu:=[2,5] } _
def xb:List ai:=[.tmp 4]
def Dp:CC:=gq Tryz.f23 [] {} _
def Cn:List ai:=[.tmp 4]
def Dq:CC:=gq Tryz.f50 [2,3] {} _
def Co:List ai:=[.tmp 4]
def RE:FO un [1] yk xu 8:=fo
def Vh:FO sF [1] lQ lH 105:=fo
def Vk:FO C7 [1] AX zU 11:=fo
def Rk:FO AE [3,1044033,1040033,1037033] xU xb 45:=fo
def Zx:FO AF [] Dp Cn 26:=fo
def Zy:FO Gj [2,3] Dq Co 24:=fo
def Qf:CC:=gq Tryz.f59 [] {} _
def OK:List ai:=[.tmp 4]
def qjk:FO wO [] Qf OK 16:=fo
def qd:CC:=gq Tryz.f139 [] {} _
def oO:List ai:=[.tmp 2]
def Ii:FO iB [] qd oO 21:=fo
def sP:CC:=gq Tryz.f140 [] {} _
def sw:List ai:=[.tmp 2]
def LT:FO rc [] sP sw 17:=fo
def ir:CC:=gq Tryz.f77 [] {} _
def gX:List ai:=[.tmp 2]
def yY:FO aK [] ir gX 29:=fo
def qc:CC:=gq Tryz.f262 [] {} _
def oL:List ai:=[.tmp 2]
def Ih:FO bP [] qc oL 25:=fo
def Ba:CC:=gq Tryz.f204 [] { cu:=[2,7,9] } _
def Ah:List ai:=[.tmp 2]
def VA:FO sL [] Ba Ah 81:=fo
def A9:CC:=gq Tryz.f298 [] {} _
def Ag:List ai:=[.tmp 2]
def Vz:FO sK [] A9 Ag 16:=fo
def A8:CC:=gq Tryz.f294 [] {} _
def Af:List ai:=[.tmp 2, .tmp 3]
def Vy:FO De [] A8 Af 69:=fo
def Dv:CC:=gq Tryz.f178 [] {} _
def Ct:List ai:=[.tmp 2]
def ZF:FO Gu [] Dv Ct 4:=fo
def vR:CC:=gq Tryz.f179 [] {} _
def uP:List ai:=[.tmp 4]
def O1:FO xO [] vR uP 13:=fo
def jW:CC:=gq Tryz.f116 [2,3] {} _
def jK:List ai:=[.tmp 4]
def BM:FO gu [2,3] jW jK 122:=fo
def nK:CC:=gq Tryz.f56 [] { cu:=[6] } _
def nt:List ai:=[.tmp 2]
def FR:FO pG [] nK nt 47:=fo
def A5:CC:=gq Tryz.f246 [2] {} _
def Ac:List ai:=[.tmp 4]
def Vv:FO Db [2] A5 Ac 17:=fo
def A3:CC:=gq Tryz.f247 [] {} _
def Aa:List ai:=[.tmp 2]
def Vt:FO wM [] A3 Aa 42:=fo
def yb:CC:=gq Tryz.f248 [3] {} _
def xi:List ai:=[.tmp 6]
def Rt:FO um [3] yb xi 32:=fo
def Dw:CC:=gq Tryz.f249 [] {} _
def Cu:List ai:=[.tmp 4]
def ZG:FO Gw [] Dw Cu 24:=fo
def ye:CC:=gq Tryz.f250 [2] {} _
def xn:List ai:=[.tmp 4]
def Rw:FO AM [2] ye xn 27:=fo
def yd:CC:=gq Tryz.f251 [] {} _
def xk:List ai:=[.tmp 4]
def Rv:FO AL [] yd xk 27:=fo
def qb:CC:=gq Tryz.f180 [] {} _
def oJ:List ai:=[.tmp 2, .tmp 3]
def Ig:FO rb [] qb oJ 42:=fo
def yc:CC:=gq Tryz.f181 [1] {} _
def xj:List ai:=[.tmp 2, .tmp 3]
def Ru:FO AK [1] yc xj 48:=fo
def A2:CC:=gq Tryz.f182 [1] {} _
def zZ:List ai:=[.tmp 2, .tmp 3]
def Vs:FO C9 [1] A2 zZ 96:=fo
def vQ:CC:=gq Tryz.f183 [1] {} _
def uN:List ai:=[.tmp 2, .tmp 3]
def O0:FO xN [1] vQ uN 143:=fo
def A7:CC:=gq Tryz.f184 [3] { cu:=[14,17,20,26] } _
def Ae:List ai:=[.tmp 4, .tmp 5]
def Vx:FO Dd [3] A7 Ae 128:=fo
def A4:CC:=gq Tryz.f185 [1] { cu:=[2,5,11,14] } _
def Ab:List ai:=[.tmp 2, .tmp 3]
def Vu:FO Da [1] A4 Ab 86:=fo
def tK:CC:=gq Tryz.f117 [1] {} _
def te:List ai:=[.tmp 2, .tmp 3, .tmp 4]
def MK:FO vx [1] tK te 74:=fo
def A6:CC:=gq Tryz.f60 [1] {} _
def Ad:List ai:=[.tmp 2]
def Vw:FO Dc [1] A6 Ad 14:=fo
def jV:CC:=gq Tryz.f61 [] {} _
def jJ:List ai:=[.tmp 4]
def BL:FO kY [] jV jJ 26:=fo
def tL:CC:=gq Tryz.f62 [2] {} _
def tg:List ai:=[.tmp 4]
def ML:FO vy [2] tL tg 21:=fo
def tJ:CC:=gq Tryz.f63 [1] {} _
def td:List ai:=[.tmp 2, .tmp 3]
def MJ:FO vw [1] tJ td 32:=fo
def yf:CC:=gq Tryz.f26 [2,3,2101010,1100097,2108010,1107104,2145010,1144141,2182010,1181178] { cu:=[7,13,19,26,33,48] } _
def xo:List ai:=[.cell 4 true 7, .tmp 5]
def Ry:FO AN [2,3,2101010,1100097,2108010,1107104,2145010,1144141,2182010,1181178] yf xo 273:=fo
def zn:CC:=gq Tryz.f55 [] {} _
def yQ:List ai:=[.tmp 2]
def SM:FO sO [] zn yQ 8:=fo
def Le:CC:=gq Tryz.f52 [] {} _
def Ki:List ai:=[.tmp 2]
def qf5:FO PS [] Le Ki 7:=fo
def Qc:CC:=gq Tryz.f53 [] {} _
def OI:List ai:=[.tmp 2]
def qji:FO Wo [] Qc OI 7:=fo
def yl:CC:=gq Tryz.f54 [] {} _
def xw:List ai:=[.tmp 2]
def RG:FO AP [] yl xw 7:=fo
def tU:CC:=gq Tryz.f51 [] {} _
def tu:List ai:=[.tmp 0]
def MU:FO vD [] tU tu 5:=fo
def wa:CC:=gq Tryz.f25 [] {} _
def Cv:List ai:=[.tmp 4]
def Pc:FO cq [] wa Cv 35:=fo
def Qe:CC:=gq Tryz.f6 [999] {} _
def OJ:List ai:=[.tmp 2]
def qjj:FO Wp [999] Qe OJ 11:=fo
def nN:CC:=gq Tryz.f24 [100026,2067008] { cu:=[3,5,12,19,22,28] } _
def nA:List ai:=[.cell 6 true 7]
def FU:FO pM [100026,2067008] nN nA 177:=fo
def tQ:CC:=gq Tryz.f57 [1061061,1096061,2063001,2098001] { bx:=[1],cu:=[12] } _
def tn:List ai:=[]
def MQ:FO vA [1061061,1096061,2063001,2098001] tQ tn 100:=fo
def tS:CC:=gq Tryz.f58 [1038027,1034027,1031027,2076042,2075040] { bx:=[1],cu:=[10,14] } _
def tr:List ai:=[]
def MS:FO vB [1038027,1034027,1031027,2076042,2075040] tS tr 102:=fo
def rG:CC:=gq Tryz.f7 [] {} _
def qL:List ai:=[.cell 4 true 7]
def KC:FO tC [] rG qL 36:=fo
def ym:CC:=gq Tryz.f113 [] {} _
def xx:List ai:=[.tmp 2]
def nR:CC:=gq Tryz.f114 [] {} _
def nE:List ai:=[.tmp 4]
def rI:CC:=gq Tryz.f171 [] {} _
def qN:List ai:=[.tmp 2]
def rH:CC:=gq Tryz.f43 [2] {} _
def qM:List ai:=[.tmp 4]
variable {S S0:Nat->Spc}
def Ne(c:Int):Bool:=decide (65<=c/\c<=90\/97<=c/\c<=122\/c=95)
def RR(c:Int):Bool:=Ne c||decide (48<=c/\c<=57\/c=45)
def Qu(s:B):Prop:=1<=s.size/\s.size<=32/\(∀c:UInt8,s.data[0]? =some c->Ne c.toNat=true)/\∀(k:Nat) (c:UInt8),s.data[k]? =some c->RR c.toNat=true
noncomputable def ax(s:B):Bool:= @decide (Qu s) (Classical.propDecidable _)
def Fu(s:B):ax s=true↔Qu s:= @decide_eq_true_iff (Qu s) (Classical.propDecidable _)
def Ye{s:B}(h:Qu s):true=ax s:=((Fu s).2 h).symm
def sf{s:B}(h:¬Qu s):false=ax s:=by
 rcases hb:ax s
 ·rfl
 ·exact absurd ((Fu s).1 hb) h
abbrev yO:Spc:=ay (a1 U8) (λ_=>True) (enc (X:=Bool)) λx y=>y=Ne x.val
abbrev HX:Spc:=ay (a1 U8) (λ_=>True) (enc (X:=Bool)) λx y=>y=RR x.val
abbrev oq:Spc:=ay (a1 B) (λ_=>True) (enc (X:=Bool)) λx y=>y=ax x
def Mq:aq rE qJ S (a1 U8) (λ_=>True) (enc (X:=Bool)) λx y=>y=Ne x.val:=by
 rintro⟨c⟩ -;simp[rE,qJ,Ne]
 repeat' first|apply And.intro|intro _
 all_goals first|omega|(rw[qGo];simp;omega)
def Ud:aq qd oO S (a1 U8) (λ_=>True) (enc (X:=Bool)) λx y=>y=Ne x.val:=by
 rintro⟨c⟩ -;simp[qd,oO,Ne]
 repeat' first|apply And.intro|intro _
 all_goals first|omega|(rw[qGo];simp;omega)
def Mp(h1:S cp=yO):aq rD qI S (a1 U8) (λ_=>True) (enc (X:=Bool)) λx y=>y=RR x.val:=by
 rintro⟨c⟩ -;simp[rD,qI,h1,RR,-fB'];rcases hb:Ne c<;>simp[hb]
 repeat' first|apply And.intro|intro _
 all_goals first|omega|(rw[qGo];simp;omega)
def XO(h1:S iB=yO):aq sP sw S (a1 U8) (λ_=>True) (enc (X:=Bool)) λx y=>y=RR x.val:=by
 rintro⟨c⟩ -;simp[sP,sw,h1,RR,-fB'];rcases hb:Ne c<;>simp[hb]
 repeat' first|apply And.intro|intro _
 all_goals first|omega|(rw[qGo];simp;omega)
theorem JP(h1:S iB=yO)(h2:S rc=HX):aq ir gX S (a1 B) (λ_=>True) (enc (X:=Bool)) λx y=>y=ax x:=by
 rintro s -;simp[ir,gX,h1,h2];refineλ_=>⟨λl _=>⟨λp=>⟨by omega,λc hc=>⟨λhb=>(sf λh=>by rw[h.2.2.1 c hc]at hb;cases hb).symm,λhb=>?_⟩⟩,λp=>(sf λh=>by have:=h.2.1;omega).symm⟩,λl=>(sf λh=>by have:=h.1;omega).symm⟩
 refine aA (X:=Nat) [0] [] (λk=>1<=k/\k<=s.size/\∀(j:Nat) (c:UInt8),j<k->s.data[j]? =some c->RR c.toNat=true) (λk=>[(3,enc (k:Int))]) (λ_=>[]) (λk=>s.size -k) 1 ⟨by omega,by omega,λj d q a=>?_⟩ ?_
 ·have:j=0:=by omega
  subst this;rw[hc]at a;cases a;simp[RR,hb]
 rintro k ⟨h3,h4,h5⟩;simp[h2];refineλ_=>⟨λhk=>⟨by omega,λd a=>⟨λb=>(sf λh=>by rw[h.2.2.2 k d a]at b;cases b).symm,λr=>⟨by simp only[InR];omega,k+1,⟨by omega,by omega,λj e q he=>?_⟩,by omega,by omega⟩⟩⟩,λhk=>?_⟩
 ·by_cases t:j=k
  ·subst t;rw[a]at he;cases he;exact r
  ·exact h5 j e (by omega) he
 ·refine(Ye ⟨by omega,by omega,λd a=>by rw[hc]at a;cases a;exact hb,λj e he=>h5 j e ?_ he⟩).symm;have:=(qFZ.1 he).1;have:j<s.size:=this;omega
theorem Fk(h1:S cp=yO)(h2:S fa=HX):aq mF mh S (a1 B) (λ_=>True) (enc (X:=Bool)) λx y=>y=ax x:=by
 rintro s -;simp[mF,mh,h1,h2];refineλ_=>⟨λl _=>⟨λp=>⟨by omega,λc hc=>⟨λhb=>(sf λh=>by rw[h.2.2.1 c hc]at hb;cases hb).symm,λhb _=>?_⟩⟩,λp=>(sf λh=>by have:=h.2.1;omega).symm⟩,λl=>(sf λh=>by have:=h.1;omega).symm⟩
 refine ah (X:=Unit) [0] [] s.size (λk _=>∀(j:Nat) (c:UInt8),j<k->s.data[j]? =some c->RR c.toNat=true) (λ_=>[]) (λ_=>[]) () (by intro j d q;omega) ?_ ?_
 ·rintro k -hk h5;simp[h2];refine⟨hk,λd a=>⟨λb=>(sf λh=>by rw[h.2.2.2 k d a]at b;cases b).symm,λr j e q he=>?_⟩⟩;by_cases t:j=k
  ·subst t;rw[a]at he;cases he;exact r
  ·exact h5 j e (by omega) he
 ·rintro -h5;simp;refine(Ye ⟨by omega,by omega,λd a=>by rw[hc]at a;cases a;exact hb,λj e he=>h5 j e ?_ he⟩).symm;exact(qFZ.1 he).1
end
section

open Cod (enc dec)
variable {dq:Prop}
section
variable {X Y:Type}
def qpP(cf:Y->List D)(b:Nat)(post:Y->Prop)(r:D)(H:ab):Prop:=∃y cs,r= .tup []/\H 1=some (.box b cs)/\FzL (qn9 1 [] H) cs (cf y)/\post y
def WV(cc:CC)(rs:List ai)(S:Nat->Spc)(ce:X->List D)(cf:Y->List D)(pre:X->Prop)(post:X->Y->Prop):Prop:=
 ∀L b x,pre x->vc S cc (wq rs λr H'=>qpP cf b (post x) r H') (dI [.tape L, .bptr 1 b 0]) (aj dj 1 (some (.box b (ce x))))
variable {P:Program}{S:Nat->Spc}{f:Nat}{im:List Nat}{cc:CC}{rs:List ai}{N:Nat}
theorem Ly{ce:X->List D}{cf:Y->List D}{pre:X->Prop}{post:X->Y->Prop}(t:∀f,Tri dq P f (S f).pt)(h:Bk P f im cc rs N)(u:2<=N)(w:WV cc rs S ce cf pre post):Tri dq P f (qzC ce cf pre post).pt:=by
 obtain⟨yt,enter,fn,code,h1,h2,h3,h4,h5⟩:=h;refine qb4 t yt h1 h2 enter h3 h4 h5 ?_;rintro ds H d K ⟨L,id,b,x,rfl,hid,hp,A⟩;refine⟨u, [.tape L, .bptr 1 b 0],aj dj 1 (some (.box b (ce x))),λ_=>id, .cons (.same _) (.cons (.bptr _ _ _ _) .nil),λi r h=>?_,λi j r s h C _=>?_,_,w L b x hp,?_⟩
 ·by_cases e:i=1
  ·subst e;simp only[aj,if_true]at h;cases h;exact hid
  ·simp[aj,e,dj]at h
 ·have a:i=1:=by
   by_cases e:i=1
   ·exact e
   ·simp[aj,e,dj]at h
  have b:j=1:=by
   by_cases e:j=1
   ·exact e
   ·simp[aj,e,dj]at C
  exact a.trans b.symm
 ·rintro r H' ⟨y,cs,rfl,l,hz,c⟩;have E:=qn1 (H:=H') 1 b cs (cf y) [] l hz.get.1 hz.get.2;have l:left 1 b (cf y) [] H' 1=some (.box b (cf y)):=rfl;refine⟨.tup [],left 1 b (cf y) [] H',dj,aj H id (some (.box b (cf y))),λi=>if i=id then some 1 else none,E, .same _,λj q h=>by simp[dj]at h,A y c,λi s hi=>?_,λi p k s q hi F I J=>?_⟩
  ·by_cases e:i=id
   ·subst e;simp only[aj,if_true]at hi;cases hi;simpa using l
   ·simp only[aj,e,if_false]at hi ⊢;exact⟨hi,λk q h he=>e he.symm⟩
  ·have a:i=id:=by
    by_cases e:i=id
    ·exact e
    ·simp[e]at I
   have b:p=id:=by
    by_cases e:p=id
    ·exact e
    ·simp[e]at J
   exact a.trans b.symm
end
end
section
section
variable {S:Nat->Spc}{σ:Sg}{H:ab}{K:Ex->Sg->ab->Prop}
theorem ur{X:Type}(ks hk c p:List Nat)(qhh rn:List (Nat×Nat))(P:X->Prop)(l:X->List (Nat×D))(hp:X->List (Nat×Res))(m:X->Nat)(d:X)(ids:List Nat)(a:∀x,(hp x).map (·.1)=ids)
 (j:qsw qhh (ids++hk) c/\∀i∈hk,i∉ids->qhg qhh i=i) (hi:qsw rn (ids++hk) p/\∀i∈hk,i∉ids->qhg rn i=i) {k:Nat} {b:CC} (h0:P d)
 (hs:Bj (qeE c H) (l d) σ) (hh:yr (qeE c H) qhh (hp d) H)
 (q:∀x,P x->vc S b (qfq P (λy=>qfk σ H ks hk p rn (l y) (hp y)) m x K) (sT (l x) (jq ks σ)) (gS (hp x) (jr hk H))):vc S (.loop k b) K σ H:=by
 rw[Wy];refine⟨⟨X,P,λx=>sT (l x) (jq ks σ),λx=>gS (hp x) (jr hk H),m⟩,⟨d,h0,JI (by rw[a d];exact j.1) (by rw[a d];exact j.2) hs (λ_ _=>rfl) hh (λ_ _=>rfl)⟩,λx r=>zD b _ _ (λe s H' h=>?_) (q x r)⟩;cases e with
 | norm=>
   obtain⟨y,h1,h2,h3⟩:=h;exact⟨y,h1,JI (by rw[a y];exact hi.1) (by rw[a y];exact hi.2) h2.1 h2.2.1 h2.2.2.1 h2.2.2.2,h3⟩
 |ex i=>exact h
 |ret=>exact h
end
def qhp{b:Sg}{H:ab}(t id:Nat)(x:Value)(el n:Nat)(es:List D)(h1:b t= .own id x)(h2:H id=some (.row x el n es)):Wk b H (upd b t (.sub id x n 0 es.length)) H:=by
 intro E a w ⟨h,j,tp,c,d⟩;refine⟨h,j,tp,c,λs=>?_⟩;unfold upd;split
 ·rename_i e;subst e;have h3:=d s;rw[h1]at h3;have k:a.tmps.getD s undef=x:=by
   generalize a.tmps.getD s undef=y at h3;cases h3;rfl
  obtain⟨xs,⟨_,h4⟩,_⟩:=c.sat.ok id _ h2;rw[k];rcases h4 with⟨rfl,h5⟩|⟨g,cap,cur,rfl,_,_,h6,l,_⟩
  ·rw[h5];exact .subnil id n
  ·exact .sub id g es.length cap n 0 es.length _ (qGb _) (qFU _) h6 l (λ_=>by simp)
 ·exact d s
open Cod (enc dec) in
def qvk{X:Type}[Cod X]{H:ab}{id n hi:Nat}{v:Value}{l:List X}(el:Nat)(h:H id=some (.row v el n (l.map enc)))(hh:hi=l.length)(hn:n=Cod.wd X:=by rfl):FrzTo H (.sub id v n 0 hi) (.list n (l.map enc)):=by
 subst hh;have e:((l.map (enc (X:=X))).take l.length).drop 0=l.map enc:=by
  rw[List.drop_zero,qGt (by simp)]
 refine .sub h (by rw[e]) (λd hd=>?_) (λk c c' h1 h2=>?_)
 ·obtain⟨x,_,rfl⟩:=qFV.1 hd;exact⟨Cod.kn x,(Cod.wid x).trans hn.symm⟩
 ·rw[e,h2]at h1;cases h1;exact .same _
open Cod (enc dec)
variable {dq:Prop}
section
variable {X Y:Type}[Cod X][Cod Y]
def qBP(pre:X->List Y->Prop)(post:X->List Y->List Y->Prop)(el n:Nat):PT:=λd ds H K=>∃id v l a x,ds=[a, .own id v]/\dec a=some x/\H id=some (.row v el n (l.map enc))/\pre x l/\
 ∀v' b,post x l b->K (.own id v') (aj H id (some (.row v' el n (b.map enc))))
def qn0(pre:X->List Y->Prop)(post:X->List Y->List Y->Prop)(el n:Nat):qq (qBP pre post el n):=λd ds H K c hk ⟨id,v,l,a,x,h1,h2,h3,h4,h5⟩=>⟨id,v,l,a,x,h1,h2,h3,h4,λv' b hp=>hk _ _ (h5 v' b hp)⟩
def ql5(pre:X->List Y->Prop)(post:X->List Y->List Y->Prop)(el n:Nat):Spc:= .gen _ (qn0 pre post el n)
def qyz(pre:X->List Y->Prop)(post:X->List Y->List Y->Prop)(el n id:Nat)(v:Value)(o:Option X)(r:Option Res)(H:ab)(K:D->ab->Prop):Prop:=∃l,r=some (.row v el n (l.map enc))/\gJ o λx=>pre x l/\∀v' a,post x l a->K (.own id v') (aj H id (some (.row v' el n (a.map enc))))
@[congr] theorem qBO{pre:X->List Y->Prop}{post:X->List Y->List Y->Prop}{el n id:Nat}{v:Value}{o a:Option X}{r r':Option Res}{H:ab}{K:D->ab->Prop}(h1:o=a)(h2:r=r'):qyz pre post el n id v o r H K=qyz pre post el n id v a r' H K:=by grind
@[simp] theorem qBQ(pre:X->List Y->Prop)(post:X->List Y->List Y->Prop)(el n:Nat)(d i:Nat)(a:D)(v:Value)(H:ab)(K:D->ab->Prop):(ql5 pre post el n).pt d [a, .own i v] H K=qyz pre post el n i v (dec a) (H i) H K:=by
 refine propext ⟨λh=>?_,λh=>?_⟩
 ·obtain⟨id,v,l,a,x,h1,h2,h3,h4,h5⟩:=h;cases h1;refine⟨l,h3,?_⟩;rw[h2];exact⟨h4,h5⟩
 ·obtain⟨l,h1,h2⟩:=h;cases b:dec (X:=X) a with
  |none=>rw[b]at h2;exact h2.elim
  |some x=>rw[b]at h2;exact⟨i,v,l,a,x,rfl,b,h1,h2.1,h2.2⟩
@[simp] theorem qEg(pre:X->List Y->Prop)(post:X->List Y->List Y->Prop)(el n id:Nat)(v:Value)(o:Option X)(l:List Y)(H:ab)(K:D->ab->Prop):qyz pre post el n id v o (some (.row v el n (l.map enc))) H K=gJ o λx=>pre x l/\∀v' a,post x l a->K (.own id v') (aj H id (some (.row v' el n (a.map enc)))):=by
 refine propext ⟨λ⟨a,h1,h2⟩=>?_,λh=>⟨l,rfl,h⟩⟩;simp at h1;subst h1;exact h2
def Qt(cc:CC)(rs:List ai)(S:Nat->Spc)(pre:X->List Y->Prop)(post:X->List Y->List Y->Prop)(el n:Nat):Prop:=
 ∀v l x,pre x l->vc S cc (wq rs λr H'=>qoZ el n (post x l) r H') (dI [enc x, .own 1 v]) (aj dj 1 (some (.row v el n (l.map enc))))
variable {P:Program}{S:Nat->Spc}{f:Nat}{im:List Nat}{cc:CC}{rs:List ai}{N:Nat}{el n:Nat}
theorem zI{pre:X->List Y->Prop}{post:X->List Y->List Y->Prop}(t:∀f,Tri dq P f (S f).pt)(h:Bk P f im cc rs N)(u:2<=N)(w:Qt cc rs S pre post el n):Tri dq P f (ql5 pre post el n).pt:=by
 obtain⟨yt,enter,fn,code,h1,h2,h3,h4,h5⟩:=h;refine nU t yt h1 h2 enter h3 h4 h5 ?_;rintro ds H d K ⟨id,v,l,a,x,rfl,y,hid,hp,A⟩;have hl:=Cod.le _ _ y;refine⟨u, [enc x, .own 1 v],aj dj 1 (some (.row v el n (l.map enc))),λ_=>id, .cons hl (.cons (.own _ _ _) .nil),λi r h=>?_,λi j r s h C _=>?_,_,w v l x hp,?_⟩;simp_all
 ·have a:i=1:=by
   by_cases e:i=1;omega
   ·simp[aj,e]at h
  have b:j=1:=by
   by_cases e:j=1;omega
   ·simp[aj,e]at C
  omega
 ·rintro r H' ⟨j,v',p,rfl,F,c⟩;refine⟨.own id v',dj,aj H id (some (.row v' el n (p.map enc))),λi=>if i=id then some j else none, .own _ _ _,λj q h=>by simp at h,A v' p c,λi s hi=>?_,λi I k s q hi E J L=>?_⟩
  ·by_cases e:i=id;simp_all;simp_all;omega
  grind
end
section
variable {X Y Z:Type}
structure R5 (X:Type) where
 ids:List Nat
 ce:X->List D
 hp:X->List (Nat×Res)
 keys:∀x,(hp x).map (·.1)=ids
def qba:∀{l:List (Nat×Res)} {i:Nat} {s:Res},gS l dj i=some s->(i,s) ∈l
 | [],i,s,h=>by simp_all
 | (j,r)::l,i,s,h=>by
  simp only[gS,aj]at h;by_cases e:i=j;grind
  ·simp only[e,if_false]at h;exact qHn _ (qba h)
def qbb:∀{l:List (Nat×Res)} {H:ab} {i:Nat} {s:Res},i∈l.map (·.1)->gS l H i=some s->(i,s) ∈l
 | (j,r)::l,H,i,s,hi,h=>by
  simp only[gS,aj]at h;by_cases e:i=j;grind
  ·simp only[e,if_false]at h;simp[e]at hi;refine qHn _ (qbb (H:=H) ?_ h);grind
def qa9:∀{l:List (Nat×Res)} {H:ab} {i:Nat},i∉l.map (·.1)->gS l H i=H i
 | [],H,i,_=>rfl
 | (j,r)::l,H,i,hi=>by
  simp only[qGp,qF5,not_or]at hi;simp only[gS,aj,hi.1,if_false];exact qa9 hi.2
def qC9(B:R5 X)(A:fN Z)(er:Y->D)(pre:X->Z->Prop)(post:X->Z->X->Y->Prop):PT:=λd ds H K=>∃id b x z a,ds= .bptr id b 0::a/\A.dec a=some z/\H id=some (.box b (B.ce x))/\(∀p∈B.hp x,H p.1=some p.2)/\id∉B.ids/\pre x z/\
 ∀c y,post x z c y->K (er y) (aj (gS (B.hp c) H) id (some (.box b (B.ce c))))
def qoI(B:R5 X)(A:fN Z)(er:Y->D)(pre:X->Z->Prop)(post:X->Z->X->Y->Prop):qq (qC9 B A er pre post):=λd ds H K j hk ⟨id,b,x,z,a,h1,h2,h3,h4,h5,h6,c⟩=>⟨id,b,x,z,a,h1,h2,h3,h4,h5,h6,λh y hp=>hk _ _ (c h y hp)⟩
def qwb(B:R5 X)(A:fN Z)(er:Y->D)(pre:X->Z->Prop)(post:X->Z->X->Y->Prop):Spc:= .gen _ (qoI B A er pre post)
def TD(B:R5 X)(er:Y->D)(b:Nat)(post:X->Y->Prop)(r:D)(H:ab):Prop:=∃x y,FrzTo (λi=>if i=0\/i∈B.ids then none else H i) r (er y)/\H 0=some (.box b (B.ce x))/\(∀p∈B.hp x,H p.1=some p.2)/\post x y
def qdm(cc:CC)(rs:List ai)(S:Nat->Spc)(B:R5 X)(A:fN Z)(er:Y->D)(pre:X->Z->Prop)(post:X->Z->X->Y->Prop):Prop:=
 ∀b x z,pre x z->vc S cc (wq rs λr H'=>TD B er b (post x z) r H') (dI (.bptr 0 b 0::A.view z)) (aj (gS (B.hp x) dj) 0 (some (.box b (B.ce x))))
variable {P:Program}{S:Nat->Spc}{f:Nat}{im:List Nat}{cc:CC}{rs:List ai}{N:Nat}
theorem Fz{B:R5 X}{A:fN Z}{er:Y->D}{pre:X->Z->Prop}{post:X->Z->X->Y->Prop}(w:0∉B.ids)(C:∀f,Tri dq P f (S f).pt)(h:Bk P f im cc rs N)(O:∀z,(A.view z).length+1<=N)(E:qdm cc rs S B A er pre post):Tri dq P f (qwb B A er pre post).pt:=by
 obtain⟨yt,enter,fn,code,h1,h2,h3,h4,h5⟩:=h;refine nU C yt h1 h2 enter h3 h4 h5 ?_;rintro ds H d K ⟨id,b,x,z,l,rfl,F,hid,I,J,hp,L⟩;have hl:=A.le l z F;have h0:∀i r,aj (gS (B.hp x) dj) 0 (some (.box b (B.ce x))) i=some r->i=0/\r= .box b (B.ce x)\/i≠0/\(i,r) ∈B.hp x:=by
  intro i r h;by_cases e:i=0;simp_all;simp_all [qba]
 have hk:∀{x:X} {i:Nat} {r:Res},(i,r) ∈B.hp x->i∈B.ids:=by
  intro x i r h;rw[<-B.keys x];grind
 refine⟨by simp only[qGB];rw[hl.1];grind, .bptr 0 b 0::A.view z,aj (gS (B.hp x) dj) 0 (some (.box b (B.ce x))),λi=>if i=0 then id else i, .cons (.bptr _ _ _ _) hl,λi r h=>?_,λi j r s h Q e=>?_,_,E b x z hp,?_⟩;grind;grind
 ·rintro r H' ⟨p,y,t,U,c,a⟩;refine⟨er y,λi=>if i=0\/i∈B.ids then none else H' i,aj (gS (B.hp p) H) id (some (.box b (B.ce p))),λi=>if i=id then some 0 else if i∈B.ids then some i else none,t,λj q h=>?_,L p y a,λi s hi=>?_,λi W k s q hi M e1 u=>?_⟩;grind
  ·by_cases e:i=id;simp_all
   ·simp only[aj,e,if_false]at hi ⊢;by_cases u:i∈B.ids
    ·simp only[u,if_true];exact c _ (qbb (by grind [Tri,qdm,dH,aG,B.keys]) hi)
    ·simp only[u,if_false];rw[qa9 (by grind)]at hi;refine⟨hi,λk q h he=>?_⟩;rcases h0 k q h with⟨rfl,rfl⟩|⟨e3,hm⟩
     grind;grind
  grind
def qg1{X:Type}(ce:X->List D):R5 X:=⟨[],ce,λ_=>[],λ_=>rfl⟩
end
structure qpG where
 txt:B
 tz:Int
 kind:Int
 text:B
 pos:Int
section
variable {Y Z:Type}
variable {P:Program}{S:Nat->Spc}{f:Nat}{im:List Nat}{cc:CC}{rs:List ai}{N:Nat}
end
section
variable {Y Z:Type}
variable {P:Program}{S:Nat->Spc}{f:Nat}{im:List Nat}{cc:CC}{rs:List ai}{N:Nat}
end
end
section
section
variable (N:qpG->Option (qpG×Cond))(O:qpG->Option (qpG×Cond))
end
section
variable (A:qpG->Bool->Option (qpG×Pat))(O:qpG->Option (qpG×Cond))
end
def GlobE:Glob:=⟨0,E0,E0,E0,E0,E0,false,0,0, [], []⟩
def uF:B:=⟨#[119,111,114,100]⟩
def LA:B:=⟨#[116,97,103]⟩
def FB:B:=⟨#[102,101,97,116]⟩
def ValsT:List B:=[⟨#[97]⟩,⟨#[98]⟩,⟨#[97,46,42]⟩,⟨#[91,97,98,93]⟩]
def ValsI:List B:=[⟨#[97]⟩,⟨#[98]⟩,⟨#[97,46,42]⟩,⟨#[91,97,98,93]⟩,⟨#[88]⟩,⟨#[]⟩,⟨#[99,63]⟩,⟨#[97,124,98]⟩,⟨#[89]⟩,⟨#[97,124,88]⟩]
def Attr2:List B:=[uF,LA]
def FeatL:List B:=[⟨#[112]⟩,⟨#[113]⟩]
def NumL:List B:=[⟨#[49]⟩,⟨#[50]⟩]
def qo6:B:=⟨#[110]⟩
inductive GA (lb:List B):Cond->Prop
 |val (n v:B) (f:Bool) (h1:n∈Attr2) (h2:v∈ValsI):GA lb ⟨2,n,E0,v,E0,f, []⟩
 |feat (v:B) (h:v∈FeatL):GA lb ⟨3,FB,E0,v,E0,false, []⟩
 |same (n l a:B) (h1:n∈Attr2) (h2:l∈lb) (h3:a∈Attr2):GA lb ⟨4,n,a,E0,l,false, []⟩
 |reg (n:B) (h:n∈Types):GA lb ⟨5,n,E0,E0,E0,false, []⟩
 |regk (n v:B) (h1:n∈Types) (h2:v∈NumL):GA lb ⟨5,n,qo6,v,E0,false, []⟩
inductive GI (lb:List B):Nat->Cond->Prop
 |atom (n:Nat) (c:Cond) (h:GA lb c):GI lb n c
 |not (n:Nat) (k:Cond) (h:GI lb n k):GI lb (n+1) ⟨6,E0,E0,E0,E0,false, [k]⟩
 |two (n:Nat) (op:Int) (a b:Cond) (ho:op=7\/op=8) (h1:GI lb n a) (h2:GI lb n b):GI lb (n+1) ⟨op,E0,E0,E0,E0,false, [a,b]⟩
inductive GC (lb:List B) (n:Nat):Cond->Prop
 |any:GC lb n ⟨1,E0,E0,E0,E0,false, []⟩
 |top (v:B) (f:Bool) (h:v∈ValsT):GC lb n ⟨2,E0,E0,v,E0,f, []⟩
 |inner (c:Cond) (h:GI lb n c):GC lb n c
theorem wG{lb:List B}{c:Cond}(h:GA lb c):c.kids=[]:=by cases h<;>rfl
def qeI{lb:List B} :∀{n:Nat} {c:Cond},GI lb n c->CS n c
 | _,_, .atom n c h=>qdb (wG h)
 | _,_, .not n k h=>qrW rfl rfl (qeI h)
 | _,_, .two n op a b _ h1 h2=>qrV rfl rfl (qeI h1) (qeI h2)
def qvg{lb:List B}{n:Nat}{c:Cond}(h:GC lb n c):CS n c:=by
 cases h with
 |any=>exact qdb rfl
 |top v f h=>exact qdb rfl
 |inner c h=>exact qeI h
def qrm(l:List B)(x:B):Bool:=l.any λz=>decide (z=x)
def Z7(l:List B)(x:B):qrm l x=true↔x∈l:=by
 unfold qrm;simp
instance decMem (l:List B) (x:B):Decidable (x∈l):=if h:qrm l x=true then .isTrue ((Z7 l x).1 h)else .isFalse λa=>h ((Z7 l x).2 a)
mutual
def yS(lb:List B):Cond->Cond
 | .mk op n a v l f ks=>if op=4 then(if l∈lb then .mk op n a v l f ks else⟨2,n,E0,⟨#[97,124,88]⟩,E0,false, []⟩)else .mk op n a v l f (qef lb ks)
def qef(lb:List B):List Cond->List Cond
 | []=>[]
 |k::ks=>yS lb k::qef lb ks
end
def SE(lb:List B):∀l:List Cond,qef lb l=l.map (yS lb)
 | []=>by rfl
 |k::l=>by rw[qef,SE lb l];rfl
def nj(lb:List B)(c:Cond):yS lb c=if c.op=4 then(if c.lab∈lb then c else⟨2,c.name,E0,⟨#[97,124,88]⟩,E0,false, []⟩)else⟨c.op,c.name,c.arg,c.val,c.lab,c.fold,c.kids.map (yS lb)⟩:=by
 cases c;rw[yS,SE]
def qcr(lb:List B):yS lb sU=sU:=by
 rfl
mutual
def nh(lb:List B):Pat->Pat
 | .mk op c l r mn mx ks=>⟨op,yS lb c,l,r,mn,mx,WK lb ks⟩
def WK(lb:List B):List Pat->List Pat
 | []=>[]
 |k::ks=>nh lb k::WK lb ks
end
def Qm(lb:List B):∀l:List Pat,WK lb l=l.map (nh lb)
 | []=>by rfl
 |k::l=>by rw[WK,Qm lb l];rfl
def sS(lb:List B)(p:Pat):nh lb p=⟨p.op,yS lb p.cond,p.lab,p.reg,p.mn,p.mx,p.kids.map (nh lb)⟩:=by
 cases p;rw[nh,Qm]
def DI(out:List B)(x:B):List B:=if x∈out then out else out++ [x]
mutual
def kb:Pat->List B->List B
 | .mk op c l r mn mx ks,out=>if op=1/\l≠E0 then DI out l else qe6 ks out
def qe6:List Pat->List B->List B
 | [],out=>out
 |k::ks,out=>qe6 ks (kb k out)
end
def Ql:∀(l:List Pat) (out:List B),qe6 l out=l.foldl (λo k=>kb k o) out
 | [],out=>by rfl
 |k::l,out=>by rw[qe6,Ql l];rfl
def qp(p:Pat)(out:List B):kb p out=if p.op=1/\p.lab≠E0 then DI out p.lab else p.kids.foldl (λo k=>kb k o) out:=by
 cases p;rw[kb,Ql]
theorem Wc{lb d:List B} :∀{n:Nat} {c:Cond},GI lb n c->GI d n (yS d c)
 | _,_, .atom n c h=>by
   cases h with
   |val nm v f h1 h2=>rw[nj,if_neg (by decide:¬(2:Int)=4)];exact .atom _ _ (.val nm v f h1 h2)
   |feat v h=>rw[nj,if_neg (by decide:¬(3:Int)=4)];exact .atom _ _ (.feat v h)
   | same nm l a h1 h2 h3=>
     rw[nj,if_pos rfl];split
     ·rename_i hl;exact .atom _ _ (.same nm l a h1 hl h3)
     ·exact .atom _ _ (.val nm _ false h1 (by simp[ValsI]))
   |reg nm h=>rw[nj,if_neg (by decide:¬(5:Int)=4)];exact .atom _ _ (.reg nm h)
   |regk nm v h1 h2=>rw[nj,if_neg (by decide:¬(5:Int)=4)];exact .atom _ _ (.regk nm v h1 h2)
 | _,_, .not n k h=>by
   rw[nj,if_neg (by decide:¬(6:Int)=4)];exact .not n _ (Wc h)
 | _,_, .two n op a b ho h1 h2=>by
   rw[nj,if_neg (show ¬op=4 by omega)];exact .two n op _ _ ho (Wc h1) (Wc h2)
def qrn{lb a:List B}{n:Nat}{c:Cond}(h:GC lb n c):GC a n (yS a c):=by
 cases h with
 |any=>rw[nj,if_neg (by decide:¬(1:Int)=4)];exact .any
 |top v f h=>rw[nj,if_neg (by decide:¬(2:Int)=4)];grind [GC]
 |inner c h=>grind [GC,Wc]
theorem qho{lb a:List B}{p:Pat}(h:qtr lb p):qtr lb (nh a p):=by
 rw[sS];rcases h with⟨h1,h2,h3,h4,h5,h6⟩|⟨h1,h2,h3,h4,h5,h6,b⟩
 ·exact .inl ⟨h1,h2,h3,h4,h5,by grind⟩
 ·exact .inr ⟨h1,by show yS a p.cond=_;rw[h2,qcr],h3,h4,h5,h6,by grind⟩
def qmm{lb c:List B} :∀n p,WP lb n p->WP lb n (nh c p):=by
 refine JH λn p hp h=>?_
 rcases yx hp with hp|⟨m,rfl,(⟨h1,h2,h3,h4,h5,h6,a,b,l,q,hb⟩|⟨h1,h2,h3,h4,h5,a,l,q⟩)⟩;grind [qz6,qho]
 ·obtain⟨j,d,_,a1⟩:=h a (by grind);obtain⟨r,k,_,a2⟩:=h b (by grind);have d:j=m:=by omega
  have k:r=m:=by omega
  subst d;subst k;rw[sS];exact .inr (.inl ⟨h1,by show yS c p.cond=_;rw[h2,qcr],h3,h4,h5,h6,_,_,by grind,a1,a2⟩)
 ·obtain⟨j,d,_,a1⟩:=h a (by grind);have d:j=m:=by omega
  subst d;rw[sS];exact .inr (.inr ⟨h1,by show yS c p.cond=_;rw[h2,qcr],h3,h4,h5,_,by grind,a1⟩)
def ZX(lb:List B)(p:Pat):am (nh lb p)=(am p).map (nh lb):=by
 induction p using fJ with|_ p b=>?_
 rw[aW,aW p,sS];simp only;split
 ·rw[List.map_singleton,sS]
 ·rw[List.flatMap_map,List.map_flatMap];have:∀ks:List Pat,(∀k∈ks,am (nh lb k)=(am k).map (nh lb))->ks.flatMap (λa=>am (nh lb a))=ks.flatMap (λa=>(am a).map (nh lb)):=by
   intro ks
   induction ks<;>grind
  grind
def qln(lb:List B)(p:Pat):∀out,kb (nh lb p) out=kb p out:=by
 induction p using fJ with|_ p a=>?_
 intro out;rw[qp,qp p,sS];simp only;split
 ·rfl
 ·have:∀(ks:List Pat) (o:List B),(∀k∈ks,∀out,kb (nh lb k) out=kb k out)->(ks.map (nh lb)).foldl (λo k=>kb k o) o=ks.foldl (λo k=>kb k o) o:=by
   intro ks
   induction ks<;>grind
  grind
def qlC{out:List B}{x y:B}(h:y∈DI out x):y∈out\/y=x:=by
 grind [DI]
def qoJ{lb:List B} :∀n p,WP lb n p->∀out,(∀y∈kb p out,y∈out\/y∈lb):=by
 refine JH λn p hp c=>λout y a=>?_
 rw[qp]at a;split at a
 ·rename_i h;rcases qlC a with h1|rfl;grind
  ·rcases yx hp with(⟨h1,h2,_⟩|⟨h1,_⟩)|⟨m,rfl,(⟨h1,_⟩|⟨h1,_⟩)⟩
   ·exact .inr (h2.resolve_left h.2)
   omega;omega;omega
 ·have:∀(ks:List Pat) (o:List B),(∀k∈ks,k∈p.kids)->y∈ks.foldl (λo k=>kb k o) o->y∈o\/y∈lb:=by
   intro ks
   induction ks with
   |nil=>grind
   | cons k ks b=>
     intro o hk h;rw[qGY]at h;rcases b _ (λz hz=>hk z (by grind)) h with h1|h1
     ·obtain⟨m,_,_,h2⟩:=c k (hk k (by simp));grind
     grind
  grind
def QD:List B:=[⟨#[97]⟩,⟨#[98,124,99]⟩,⟨#[46]⟩]
def WW:List B:=[⟨#[111,98,106]⟩,⟨#[100,101,116]⟩,⟨#[]⟩]
def qbm:List B:=[⟨#[83]⟩,⟨#[78,80]⟩,⟨#[86,80]⟩]
inductive GG (lb:List B):Nat->Glob->Prop
 |bound (n:Nat) (a:B) (h:a∈lb):GG lb n ⟨1,a,E0,E0,E0,E0,false,0,0, [], []⟩
 |val (n:Nat) (a v:B) (f:Bool) (h1:a∈lb) (h2:v∈QD):GG lb n ⟨2,a,E0,uF,E0,v,f,0,0, [], []⟩
 |same (n:Nat) (a b g:B) (h1:a∈lb) (h2:b∈lb) (h3:g∈Attr2):GG lb n ⟨3,a,b,uF,g,E0,false,0,0, [], []⟩
 |dist (n:Nat) (a b:B) (mn mx:Int) (h1:a∈lb) (h2:b∈lb) (h3: -2<=mn) (h4:mn<=2) (h5:mn<=mx) (h6:mx<=mn+3):GG lb n ⟨4,a,b,E0,E0,E0,false,mn,mx, [], []⟩
 |reg (n:Nat) (a b t:B) (h1:a∈lb) (h2:b∈lb) (h3:t∈Types):GG lb n ⟨5,a,b,t,E0,E0,false,0,0, [], []⟩
 |head (n:Nat) (op:Int) (a b:B) (ho:op=6\/op=7) (h1:a∈lb) (h2:b∈lb):GG lb n ⟨op,a,b,E0,E0,E0,false,0,0, [], []⟩
 |path (n:Nat) (a b:B) (l:List B) (h1:a∈lb) (h2:b∈lb) (h3:l.length<=2) (h4:∀x∈l,x∈WW):GG lb n ⟨8,a,b,E0,E0,E0,false,0,0,l, []⟩
 |node (n:Nat) (a b t:B) (h1:a∈lb) (h2:b∈lb) (h3:t∈qbm):GG lb n ⟨9,a,b,t,E0,E0,false,0,0, [], []⟩
 |depth (n:Nat) (a:B) (mn mx:Int) (h1:a∈lb) (h3:0<=mn) (h4:mn<=2) (h5:mn<=mx) (h6:mx<=mn+1):GG lb n ⟨10,a,E0,E0,E0,E0,false,mn,mx, [], []⟩
 |not (n:Nat) (k:Glob) (h:GG lb n k):GG lb (n+1) ⟨11,E0,E0,E0,E0,E0,false,0,0, [], [k]⟩
 |two (n:Nat) (op:Int) (a b:Glob) (ho:op=12\/op=13) (h1:GG lb n a) (h2:GG lb n b):GG lb (n+1) ⟨op,E0,E0,E0,E0,E0,false,0,0, [], [a,b]⟩
def GF(f:Filt):Prop:=(f.op=1\/f.op=2\/f.op=3)/\f.reg∈Types
structure GQ (n:Nat) (q:Qry):Prop where
 lab:∃lb,qfj lb/\WP lb n q.pat
 cond:∀y∈am q.pat,GC (kb q.pat []) 1 y.cond
 glob:q.glob=GlobE\/GG (kb q.pat []) 2 q.glob
 filts:q.filts.length<=1/\∀f∈q.filts,GF f
 strat:0<=q.strat/\q.strat< 4
def DJ:List B:=[⟨#[97]⟩,⟨#[98]⟩,⟨#[99]⟩,⟨#[65]⟩,⟨#[97,98]⟩,⟨#[]⟩]
def Qv:List B:=[⟨#[88]⟩,⟨#[89]⟩]
def FsetL:List B:=[⟨#[124]⟩,⟨#[124,112,124]⟩,⟨#[124,112,124,113,124]⟩,⟨#[124,113,124]⟩]
def att3:List Attr:=[⟨⟨#[119,111,114,100]⟩,false⟩,⟨⟨#[116,97,103]⟩,false⟩,⟨⟨#[102,101,97,116]⟩,true⟩]
def qpO(l:List Attr):Prop:=l=att3
def EZ(r:List B):Prop:=∃w t f,w∈DJ/\t∈Qv/\f∈FsetL/\r=[w,t,f]
def R2(c:Corpus):Prop:=c.attrs=att3/\∀r∈c.toks,EZ r
open Go.Proofs
def yu:X.Fn:=gx Tryz.f260 _
def BX:X.Fn:=gx Tryz.f177 _
def yw:X.Fn:=gx Tryz.f77 _
def wx:X.Fn:=gx Tryz.f262 _
def TJ:X.Fn:=gx Tryz.f139 _
def Xo:X.Fn:=gx Tryz.f140 _
open X
variable {dq:Prop}
def qCv:List (Nat×X.Fn):=[(jv,yu),(rX,BX),(aK,yw),(bP,wx),(iB,TJ),(rc,Xo),(sK,G3),(sL,G4)]
def qrL:∀p∈qCv,ql8 p:=by
 unfold qCv
 repeat' first|exact qpR|refine qhm qz4 ?_
noncomputable def Δ2:Nat->Option X.Fn:=ΔL qCv
def qdx{f:Nat}{fn:X.Fn}(h:Δ2 f=some fn)(k:Nat):Tri dq Tryz.prog f (qc4 (ME Δ2 qpj k) f):=qhl qrL h k
noncomputable def qyA(f:Nat)(l:List D):Option (D×XH):=ME Δ2 qpj 10000 f l ⟨.e, [], [],0⟩
def qjW(b:Bool):Option (D×XH)->Bool
 |some (.v (.bool t),_)=>t==b
 | _=>false
def qri(n:Int):Option (D×XH)->Bool
 |some (.v (.int .i64 a),_)=>decide (a=n)
 | _=>false
def VX{b:Bool}{r:Option (D×XH)}(h:qjW b r=true):∃x,r=some (.v (.bool b),x):=by
 unfold qjW at h;split at h
 ·rename_i t x;have:t=b:=by simpa using h
  subst this;exact⟨x,rfl⟩
 ·cases h
def qnT{n:Int}{r:Option (D×XH)}(h:qri n r=true):∃x,r=some (.v (.int .i64 n),x):=by
 unfold qri at h;split at h
 ·rename_i a x;simp only[decide_eq_true_eq]at h;subst h;exact⟨x,rfl⟩
 ·cases h
open Cod (enc dec)
abbrev s_rIsF:Spc:=ay (a1 B) (λx=>x∈FeatL) (enc (X:=Bool)) λ_ y=>y=true
abbrev s_rVName:Spc:=ay (a1 B) (λx=>x∈qo6::Types) (enc (X:=Bool)) λ_ y=>y=true
abbrev s_rVVal:Spc:=ay (a1 B) (λx=>x∈E0::NumL) (enc (X:=Int)) λ_ y=>y=0
def qkv(s v:B):Bool:=s.data.toList.any λc=>decide (v.data.toList=[c])
abbrev s_rFeat:Spc:=ay (a2 B B) (λx=>x.1∈FsetL/\x.2∈FeatL) (enc (X:=Bool)) λx y=>y=qkv x.1 x.2
def qvh:(FeatL.all λv=>qjW true (qyA jv [.v (.string v)]))=true:=by kernel_rfl
def qBV:((qo6::Types).all λv=>qjW true (qyA aK [.v (.string v)]))=true:=by kernel_rfl
def qBU:((E0::NumL).all λv=>qri 0 (qyA bP [.v (.string v)]))=true:=by kernel_rfl
def qvi:(FsetL.all λs=>FeatL.all λv=>qjW (qkv s v) (qyA rX [.v (.string s), .v (.string v)]))=true:=by kernel_rfl
def U2{a:VL}{x:Value}{r':D}(h:Rep a (.v x) r'):FrzTo dj r' (.v x):=by cases h;exact .same _
def qqd:Tri dq Tryz.prog jv s_rIsF.pt:=by
 refine qs (qdx (fn:=yu) rfl 10000) λv a=>⟨rfl,?_⟩
 obtain⟨x,h⟩:=VX (qFT.1 qvh v a);exact⟨_,_,true,h,λρ r' b=>U2 b,rfl⟩
def qhV:Tri dq Tryz.prog aK s_rVName.pt:=by
 refine qs (qdx (fn:=yw) rfl 10000) λv a=>⟨rfl,?_⟩
 obtain⟨x,h⟩:=VX (qFT.1 qBV v a);exact⟨_,_,true,h,λρ r' b=>U2 b,rfl⟩
def qmU:Tri dq Tryz.prog bP s_rVVal.pt:=by
 refine qs (qdx (fn:=wx) rfl 10000) λv a=>⟨rfl,?_⟩
 obtain⟨x,h⟩:=qnT (qFT.1 qBU v a);exact⟨_,_,(0:Int),h,λρ r' b=>U2 b,rfl⟩
def qmV:Tri dq Tryz.prog rX s_rFeat.pt:=by
 refine qs (qdx (fn:=BX) rfl 10000) λx a=>⟨rfl,?_⟩
 obtain⟨s,v⟩:=x;obtain⟨z,h⟩:=VX (qFT.1 (qFT.1 qvi s a.1) v a.2);exact⟨_,_,qkv s v,h,λρ r' b=>U2 b,rfl⟩
end
section
open Cod (enc dec)
variable {S S0:Nat->Spc}
abbrev s_rAttr:Spc:=ay (a2 (List Attr) B) (λ_=>True) (enc (X:=Int)) λx y=>y=dT x.1 x.2
def Mg:aq rr qB S (a2 (List Attr) B) (λ_=>True) (enc (X:=Int)) λx y=>y=dT x.1 x.2:=by
 rintro⟨l,s⟩ -;simp[rr,qB,-fB',-eB'];intro _;refine ah (X:=Unit) [1,7] [] l.length (λk _=>∀x∈l.take k,decide (x.nm=s)=false) (λ_=>[]) (λ_=>[]) () (by simp) ?_ ?_
 ·intro k _ hk a;obtain⟨x,b⟩:=aQ hk;obtain⟨_,c⟩:=qFN.1 b;simp[hk,b,c,-fB',-eB'];refine⟨λh=>?_,λh=>?_⟩
  ·exact(pu b (by simp[h]) a).symm
  ·rw[au b];intro z hz;rcases qF1.1 hz with hz|hz
   ·have:=a z hz;simpa using this
   ·simp at hz;subst hz;simpa using h
 ·intro _ a;simp[-fB',-eB'];exact(ib (by simpa using a)).symm
abbrev s_rIn:Spc:=ay (a2 (List B) B) (λ_=>True) (enc (X:=Bool)) λx y=>y=pw x.1 x.2
def qhw:aq Ld Kh S (a2 (List B) B) (λ_=>True) (enc (X:=Bool)) λx y=>y=pw x.1 x.2:=by
 rintro⟨l,s⟩ -;simp[Ld,Kh,-fB',-eB'];intro _;refine ah (X:=Unit) [1,7] [] l.length (λk _=>∀x∈l.take k,¬x=s) (λ_=>[]) (λ_=>[]) () (by simp) ?_ ?_
 ·intro k _ hk b;obtain⟨x,a⟩:=aQ hk;obtain⟨_,c⟩:=qFN.1 a;simp[hk,a,c,-fB',-eB'];refine⟨λh=>?_,λh=>?_⟩
  ·simp[pw];exact h ▸qFP a
  ·rw[au a];intro z hz;rcases qF1.1 hz with hz|hz
   ·exact b z hz
   ·simp at hz;subst hz;exact h
 ·intro _ b;simp[-fB',-eB'];simp[pw];exactλx a=>b x (by simpa using a)
abbrev s_rShape:Spc:=ay (a1 Cond) (λx=>qfL x=true) (enc (X:=Bool)) λ_ y=>y=true
set_option maxHeartbeats 1000000 in
theorem XD:aq ez eo S (a1 Cond) (λx=>qfL x=true) (enc (X:=Bool)) λ_ y=>y=true:=by
 rintro⟨op,name,arg,val,lab,fold,ks⟩ hx;have hx:qfL ⟨op,name,arg,val,lab,fold,ks⟩=true:=hx;unfold qfL at hx;simp only at hx;split at hx
 ·rename_i e;subst e;simp at hx;obtain⟨⟨rfl,rfl,rfl,rfl,rfl⟩,rfl⟩:=hx;simp[ez,eo,ft,-fB',-eB']
 split at hx
 ·rename_i e;subst e;simp at hx;obtain⟨⟨rfl,rfl⟩,rfl⟩:=hx;simp[ez,eo,ft,-fB',-eB']
 split at hx
 ·rename_i e;subst e;simp at hx;obtain⟨⟨rfl,rfl,rfl⟩,rfl⟩:=hx;simp[ez,eo,ft,-fB',-eB']
 split at hx
 ·rename_i e;subst e;simp at hx;obtain⟨⟨rfl,rfl⟩,rfl⟩:=hx;simp[ez,eo,ft,-fB',-eB']
 split at hx
 ·rename_i e;subst e;simp at hx;obtain⟨⟨rfl,rfl,hav⟩,rfl⟩:=hx;by_cases ha:arg=ft
  ·have hv:=hav.resolve_left λh=>h ha
   subst ha;subst hv;simp[ez,eo,ft,-fB',-eB']
  ·have ha':¬arg=⟨#[]⟩:=ha;simp[ez,eo,ft,ha',-fB',-eB']
 split at hx
 ·rename_i e;subst e;simp at hx;obtain⟨⟨rfl,rfl,rfl,rfl,rfl⟩,hk⟩:=hx;simp[ez,eo,ft,hk,-fB',-eB']
 split at hx
 ·rename_i e;simp at hx;obtain⟨⟨rfl,rfl,rfl,rfl,rfl⟩,hk1,hk2⟩:=hx;have q1:(2:Int)<=(ks.length:Int):=by omega
  have q2:(ks.length:Int)<=60:=by omega
  have q2':(ks.length:Int)<=1000:=by omega
  have q3:(ks.length:Int)<=9223372036854775807:=by omega
  rcases e with rfl|rfl<;>simp[ez,eo,ft,q1,q2,q2',q3,-fB',-eB']
 ·cases hx
end
section
open Go.Proofs X
variable {dq:Prop}
def qEe(b:Bool):Option (D×XH)->Bool
 |some (.v (.bool t),_)=>t==b
 | _=>false
def WT:List B:=DJ++Qv
noncomputable def sV(v w:B)(f:Bool):Bool:=match(ms v).bind λx=>Ay x w f with
 |some b=>qEe b (ME Δ qpj 10000 rW [.v (.string v), .v (.string w), .v (.bool f)] ⟨.e, [], [],0⟩)
 |none=>false
noncomputable def IE(v:B):Bool:=WT.all λw=>sV v w false && sV v w true
end
section
open Cod (enc dec)
abbrev s_rMatches:Spc:=ay (a3 B B Bool) (λx=>x.1∈ValsI/\x.2.1∈WT) (enc (X:=Bool)) λx y=>((ms x.1).bind λz=>Ay z x.2.1 x.2.2)=some y
abbrev s_rParse0:Spc:=ay (a1 B) (λx=>x∈ValsI\/x∈QD) (λ_:Unit=>D.tup [.agg [.any, .any, .any, .any, .any], .v (.int .i64 0), .v (.int .i64 0)]) λ_ _=>True
def quD:Option (D×X.XH)->Bool
 |some (.tup [.agg [_,_,_,_,_], .v (.int .i64 a), .v (.int .i64 b)],_)=>decide (a=0) && decide (b=0)
 | _=>false
variable {S S0:Nat->Spc}
def qxz(x:Cond):Prop:=(x.op=2->x.val∈ValsI/\(x.name=ft\/x.name∈Attr2))/\(x.op=3->x.val∈FeatL/\x.name=FB)/\(x.op=4->x.name∈Attr2/\x.arg∈Attr2)/\(x.op=5->x.name∈qo6::Types/\(x.arg=ft\/x.arg∈qo6::Types)/\x.val∈E0::NumL)
def qss(x:Cond×List Attr×List B):Prop:=oh x.2.1 x.2.2 x.1=true/\qxz x.1/\x.2.1.length<=1000
abbrev s_rnode:Spc:=ay (a3 Cond (List Attr) (List B)) qss (enc (X:=Int)) λ_ y=>y=0
theorem qbA(h1:S wL=s_rShape)(h2:S fZ=s_rAttr)(h3:S nY=s_rParse0)(h4:S jv=s_rIsF)(h5:S IZ=s_rIn)(h6:S aK=s_rVName)(C:S bP=s_rVVal):
 aq gB ge S (a3 Cond (List Attr) (List B)) qss (enc (X:=Int)) λ_ y=>y=0:=by
 rintro⟨x,a,lb⟩ ⟨k,K,hl⟩;have k:oh a lb x=true:=k;have hl:a.length<=1000:=hl;unfold oh at k;simp only[qFS]at k;obtain⟨⟨hs,hn⟩,hc⟩:=k;obtain⟨op,name,arg,val,lab,fold,ks⟩:=x;obtain⟨E,F,U,I⟩:=K;simp only at E F I;have t:=(IF (λx:Attr=>decide (x.nm=name)) a).2;have u:dT a name<a.length:=t;have c:(a.length:Int)<=9223372036854775807:=by omega
 unfold qv1 at hc;unfold qny at hn;simp only at hc hn;split at hc
 ·rename_i e;subst e;simp only[if_true,decide_eq_true_eq]at hn;have s:=(E rfl).1;unfold qX at hn;have d:¬a=[]:=λe=>by
   subst e;simp[dT,jM]at hn;split at hn<;>omega
  have l:0<(a.length:Int):=by
   have:=List.length_pos_iff.2 d;omega
  have p:¬(a.length:Int)=0:=by omega
  by_cases h:name=ft
  ·subst h;have L:ft=⟨#[]⟩:=rfl;have j:qfL ⟨2,⟨#[]⟩,arg,val,lab,fold,ks⟩=true:=hs;simp[gB,ge,h1,h2,h3,j,c,d,l,p,s,L,-fB',-eB']
  ·have q:¬name=⟨#[]⟩:=h;rw[if_neg h]at hn;have r:¬dT a name= -1:=by omega
   simp[gB,ge,h1,h2,h3,hs,c,d,l,p,q,r,s,-fB',-eB']
 rename_i M;split at hc
 ·rename_i e;subst e;simp at hn;simp only[qFS]at hc;obtain⟨⟨⟨c1,c2⟩,c3⟩,c4⟩:=hc;obtain⟨b,hb⟩:=aQ (show(dT a name).toNat<a.length by omega);obtain⟨_,w⟩:=qFN.1 hb;rw[hb]at c1;have c1:b.st=true:=c1;have s:=(F rfl).1;have r:¬dT a name= -1:=by omega
  simp[gB,ge,h1,h2,h4,hs,hn,c,u,r,hb,w,c1,s,-fB',-eB']
 rename_i N;split at hc
 ·rename_i e;subst e;simp at hn;have r:¬dT a name= -1:=by omega
  have A:¬dT a arg= -1:=by omega
  have hc:pw lb lab=true:=hc;simp[gB,ge,h1,h2,h5,hs,hc,r,A,-fB',-eB']
 rename_i O;split at hc
 ·rename_i e;subst e;obtain⟨v1,v2,J⟩:=I rfl;rcases v2 with v2|v2
  ·subst v2;have j:qfL ⟨5,name,⟨#[]⟩,val,lab,fold,ks⟩=true:=hs;simp[gB,ge,ft,h1,h2,h6,C,j,v1,J,-fB',-eB']
  ·simp[gB,ge,h1,h2,h6,C,hs,v1,v2,J,-fB',-eB']
 rename_i Q;simp[gB,ge,h1,h2,hs,M,N,O,Q,-fB',-eB']
def qpn(a:List Attr)(lb:List B):Nat->Cond->Prop
 | 0=>λ_=>False
 |n+1=>λx=>oh a lb x=true/\qxz x/\∀k∈x.kids,qpn a lb n k
def qlR(n:Nat)(x:Cond×List Attr×List B):Prop:=qpn x.2.1 x.2.2 n x.1/\x.2.1.length<=1000
abbrev YV(n:Nat):Spc:=ay (a3 Cond (List Attr) (List B)) (qlR n) (enc (X:=Int)) λ_ y=>y=0
def XB(n:Nat)(h1:S Gn=s_rnode)(h2:S sH=YV n):
 aq AY zV S (a3 Cond (List Attr) (List B)) (qlR (n+1)) (enc (X:=Int)) λ_ y=>y=0:=by
 rintro⟨x,a,lb⟩ ⟨⟨j,l,hk⟩,hl⟩;simp only at j l hk hl;have c:qss (x,a,lb):=⟨j,l,hl⟩
 simp[AY,zV,h1,c];intro p;refine ah (X:=Unit) [1,2,19] [] x.kids.length (λ_ _=>True) (λ_=>[]) (λ_=>[]) () (by simp) ?_ ?_
 ·intro k _ b _;obtain⟨y,d⟩:=aQ b;obtain⟨_,h⟩:=qFN.1 d;have hp:qlR n (y,a,lb):=⟨hk y (qFP d),hl⟩
  simp[h2,b,d,h,hp]
 ·intro _ _;simp
def qlT(n:Nat)(x:Cond×Int):Prop:=bi x.1<=n/\0<=x.2/\x.2+bi x.1<=61/\cQ x.1<=60
abbrev YX(n:Nat):Spc:=ay (a2 Cond Int) (qlT n) (io (Y:=Int) (Z:=Int)) λx y=>y=((cQ x.1:Int),(bi x.1:Int))
theorem XC(n:Nat)(h1:S sI=YX n):aq AZ zW S (a2 Cond Int) (qlT (n+1)) (io (Y:=Int) (Z:=Int)) λx y=>y=((cQ x.1:Int),(bi x.1:Int)):=by
 rintro⟨x,deep⟩ ⟨hn,h0,h2,h3⟩;simp only at hn h0 h2 h3;have q:=Bg x;have r:=rS x;have j:¬60<deep:=by omega
 simp[AZ,zW,j];intro s;refine ah (X:=Int×Int) [1,15] [] x.kids.length (λk z=>z.1=1+ (gj (x.kids.take k):Int)/\z.2=(jC (x.kids.take k):Int)) (λz=>[(6,enc z.1),(7,enc z.2)]) (λ_=>[]) (1,0) (by simp[gj,jC]) ?_ ?_
 ·rintro k ⟨m,d⟩ hk ⟨c,a⟩;simp only at c a;obtain⟨y,h⟩:=aQ hk;obtain⟨_,l⟩:=qFN.1 h;have hm:=SR h;have u:=D5 (qFP h);have hp:qlT n (y,deep+1):=⟨by show bi y<=n;omega,by show 0<=deep+1;omega,by show deep+1+bi y<=61;omega,by show cQ y<=60;omega⟩
  have b:¬60<m+ (cQ y:Int):=by omega
  have p:InR .i64 (deep+1):=by simp only[InR];omega
  have t:InR .i64 (m+ (cQ y:Int)):=by simp only[InR];omega
  simp[h1,hk,h,l,hp,b,p,t];exactλ_=>⟨by omega,by rw[hm.2.1,a];omega⟩
 ·rintro⟨m,d⟩ ⟨c,a⟩;simp only at c a;rw[qFX]at c a;have p:InR .i64 (d+1):=by simp only[InR];omega
  simp[p];exact⟨by omega,by omega⟩
abbrev s_rcountA:Spc:=ay (a2 Cond Int) (λx=>∃n,qlT n x) (io (Y:=Int) (Z:=Int)) λx y=>y=((cQ x.1:Int),(bi x.1:Int))
abbrev s_rNodes:Spc:=ay (a1 Cond) (λx=>cQ x<=60/\bi x<=20) (io (Y:=Int) (Z:=Int)) λx y=>y=((cQ x:Int),(bi x:Int))
def XE(h1:S sI=s_rcountA):aq A0 zX S (a1 Cond) (λx=>cQ x<=60/\bi x<=20) (io (Y:=Int) (Z:=Int)) λx y=>y=((cQ x:Int),(bi x:Int)):=by
 rintro x ⟨hn,a⟩;have hp:∃n,qlT n (x,0):=⟨20,a,qGT _,by show(0:Int) +bi x<=61;omega,hn⟩
 simp[A0,zX,h1,hp]
abbrev s_rfirstA:Spc:=ay (a3 Cond (List Attr) (List B)) (λx=>∃n,qlR n x) (enc (X:=Int)) λ_ y=>y=0
def qlO(x:Cond×List Attr×List B):Prop:=cQ x.1<=60/\bi x.1<=20/\∃n,qlR n x
abbrev s_rVal:Spc:=ay (a3 Cond (List Attr) (List B)) qlO (enc (X:=Int)) λ_ y=>y=0
def NI(h1:S sJ=s_rNodes)(h2:S sH=s_rfirstA):aq tI tc S (a3 Cond (List Attr) (List B)) qlO (enc (X:=Int)) λ_ y=>y=0:=by
 rintro⟨x,a,lb⟩ ⟨hn,b,hp⟩;simp only at hn b;have c:¬60<(cQ x:Int):=by omega
 have d:¬20<(bi x:Int):=by omega
 simp[tI,tc,h1,h2,hn,b,hp,c,d,-fB',-eB', -exists_and_left, -exists_and_right]
def qo3(x:Cond×List Attr×List B):List D:=[enc x.1, .cptr [enc x.2.1] 0, .cptr [enc x.2.2] 0]
def qdE(z b:Cond×List Attr×List B)(h:qo3 z=qo3 b):z=b:=by
 obtain⟨a,s,l⟩:=z;obtain⟨c,d,j⟩:=b;unfold qo3 at h;simp only[qGn,D.cptr.injEq,and_true]at h;rw[cD h.1,cD h.2.1,cD h.2.2]
noncomputable abbrev aVd:fN (Cond×List Attr×List B):=aX qo3 qdE
@[simp] theorem qw9(x:Cond)(a:List Attr)(lb:List B):aVd.dec [.agg [.v (.int .i64 x.op), .v (.string x.name), .v (.string x.arg), .v (.string x.val), .v (.string x.lab), .v (.bool x.fold), .list 7 (x.kids.map enc)], .cptr [.list 2 (a.map enc)] 0, .cptr [.list 1 (lb.map enc)] 0]=some (x,a,lb):=by
 have h:=Lr qo3 qdE (x,a,lb);have e:qo3 (x,a,lb)=[.agg [.v (.int .i64 x.op), .v (.string x.name), .v (.string x.arg), .v (.string x.val), .v (.string x.lab), .v (.bool x.fold), .list 7 (x.kids.map enc)], .cptr [.list 2 (a.map enc)] 0, .cptr [.list 1 (lb.map enc)] 0]:=by simp[qo3]
 rw[<-e];exact h
noncomputable abbrev qd7:Spc:=ay aVd (λx=>oh x.2.1 x.2.2 x.1=true/\x.2.1.length<=1000) (enc (X:=Int)) λ_ y=>y=0
def zB(h1:S pS=Ze):aq ix hZ S aVd (λx=>oh x.2.1 x.2.2 x.1=true/\x.2.1.length<=1000) (enc (X:=Int)) λ_ y=>y=0:=by
 rintro⟨x,a,lb⟩ ⟨b,hl⟩;simp only at b hl;rw[Jw];simp[qo3,ix,hZ,h1,b,hl,-fB',-eB']
def qwt(n:Nat)(x:Cond×D×Unit):Prop:=∃(a:List Attr) (lb:List B),x.2.1= .clo cB [.cptr [enc a] 0, .cptr [enc lb] 0]/\sB a lb n x.1=true/\a.length<=1000/\cQ x.1<=60
noncomputable abbrev Y7(n:Nat):Spc:=ay (aE Cond (aD a0)) (qwt n) (enc (X:=Int)) λx y=>y=0
noncomputable abbrev Y6:Spc:=ay (aE Cond (aD a0)) (λx=>∃n,qwt n x) (enc (X:=Int)) λx y=>y=0
theorem He(n:Nat)(h1:S cB=qd7)(h2:S il=Y7 n):aq qn pd S (aE Cond (aD a0)) (qwt (n+1)) (enc (X:=Int)) λx y=>y=0:=by
 rintro⟨x,d,⟨⟩⟩ ⟨a,lb,p,b,hl,hn⟩;simp only at p b hn;subst p;simp only[sB,qFS]at b;obtain⟨c,h⟩:=b;simp[qn,pd,h1,c,hl,-fB',-eB'];intro q;refine ah (X:=Unit) [1,16] [] x.kids.length (λk _=>True) (λ_=>[]) (λ_=>[]) () (by simp) ?_ ?_
 ·rintro k -hk -;obtain⟨y,j⟩:=aQ hk;obtain⟨_,l⟩:=qFN.1 j;have hm:=qFP j;have r:=DT hm;have s:=rS x;have hp:qwt n (y, .clo cB [.cptr [.list 2 (a.map enc)] 0, .cptr [.list 1 (lb.map enc)] 0],()):=⟨a,lb,rfl,qFT.1 h y hm,hl,by show cQ y<=60;omega⟩
  simp[h2,hk,j,l,hp,-fB',-eB']
 ·rintro - -;simp[-fB',-eB']
abbrev Xc(x:Cond×List Attr×List B):Prop:=ql4 x.2.1 x.2.2 x.1=true/\x.2.1.length<=1000
abbrev US:Spc:=ay (a3 Cond (List Attr) (List B)) Xc (enc (X:=Int)) λ_ y=>y=0
def B8(h1:S dG=OC)(h2:S il=Y6):aq jX jL S (a3 Cond (List Attr) (List B)) Xc (enc (X:=Int)) λ_ y=>y=0:=by
 rintro⟨x,a,lb⟩ ⟨b,hl⟩;simp only at b hl;unfold ql4 at b;simp at b;obtain⟨⟨hn,k⟩,c⟩:=b;have hp:∃n,qtu n (x,0,1):=⟨bi x,qFU _,qGT _,by show(0:Int) +cQ x<=60;omega,by show(0:Int)<=1;omega,by show(1:Int) +bi x<=1000;omega,by show bi x<=60;omega⟩
 have d:∃n,qwt n (x, .clo cB [.cptr [.list 2 (a.map enc)] 0, .cptr [.list 1 (lb.map enc)] 0],()):=⟨20,a,lb,rfl,c,hl,hn⟩
 have h:¬(60:Int)<(cQ x:Int):=by omega
 have j:¬(20:Int)< 1+ (bi x:Int) -1:=by omega
 simp[jX,jL,h1,h2,hp,d,h,j,-fB',-eB']
def Z6(l:List Pair)(s:Pair):Bool:=l.any λz=>decide (z=s)
abbrev qdX:Spc:=ay (a2 (List Pair) Pair) (λ_=>True) (enc (X:=Int)) λx y=>y=jM x.1 λz=>decide (z=x.2)
abbrev qd2:Spc:=ay (a2 (List Pair) Pair) (λ_=>True) (enc (X:=Bool)) λx y=>y=Z6 x.1 x.2
theorem Up:aq lg kG S (a2 (List Pair) Pair) (λ_=>True) (enc (X:=Int)) λx y=>y=jM x.1 λz=>decide (z=x.2):=by
 rintro⟨l,s⟩ -;simp[lg,kG,-fB',-eB'];intro _;refine ah (X:=Unit) [0,3] [] l.length (λk _=>∀x∈l.take k,decide (x=s)=false) (λ_=>[]) (λ_=>[]) () (by simp) ?_ ?_
 ·intro k _ hk c;obtain⟨x,d⟩:=aQ hk;obtain⟨_,j⟩:=qFN.1 d;simp[hk,d,j,-fB',-eB'];have p:s.nm=x.nm->s.vl=x.vl->x=s:=λh1 h2=>by
   obtain⟨a,b⟩:=x;obtain⟨q,b'⟩:=s;simp only at h1 h2;rw[h1,h2]
  refine⟨λh1 h2=>(pu d (by simp[p h1 h2]) c).symm,λh=>?_⟩;rw[au d];intro z hz;rcases qF1.1 hz with hz|hz
  ·have:=c z hz;simpa using this
  ·simp at hz;subst hz;intro e;subst e;exact h rfl rfl
 ·intro _ c;simp[-fB',-eB'];exact(ib (by simpa using c)).symm
def Mv(h1:S mw=qdX):aq iq gW S (a2 (List Pair) Pair) (λ_=>True) (enc (X:=Bool)) λx y=>y=Z6 x.1 x.2:=by
 rintro⟨l,s⟩ -;simp[iq,gW,h1,-fB',-eB'];exact AC _ l
def xy(x:Cond)(tok:Int)(r:Region):Bool:=decide (r.ty=x.name) && decide (r.b<=tok) && decide (tok<r.e) && (decide (x.arg=ft)||Z6 r.kv ⟨x.arg,x.val⟩)
def qhi(x:Cond):List D:=[.v (.int .i64 x.op), .v (.string x.name), .v (.string x.arg), .v (.string x.val), .v (.string x.lab), .v (.bool x.fold), .list 7 (x.kids.map enc)]
def qe3(x:Cond): .agg (qhi x)=enc x:=by simp[qhi]
def qoC{x y:Cond}(h:qhi x=qhi y):x=y:=cD (by rw[<-qe3,<-qe3,h])
def ql1(x:Region×Cond×Int):List D:=[enc x.1, .cptr (qhi x.2.1) 0, .cptr [enc x.2.2] 0]
def qdF(z b:Region×Cond×Int)(h:ql1 z=ql1 b):z=b:=by
 obtain⟨a,s,l⟩:=z;obtain⟨c,d,j⟩:=b;unfold ql1 at h;simp only[qGn,D.cptr.injEq,and_true]at h;rw[cD h.1,qoC h.2.1,cD h.2.2]
noncomputable abbrev qEO:fN (Region×Cond×Int):=aX ql1 qdF
noncomputable abbrev H6:Spc:=ay qEO (λ_=>True) (enc (X:=Bool)) λx y=>y=xy x.2.1 x.2.2 x.1
def B6(h1:S iU=qd2):aq bV bS S qEO (λ_=>True) (enc (X:=Bool)) λx y=>y=xy x.2.1 x.2.2 x.1:=by
 rintro⟨r,x,tok⟩ -;rw[Jw];by_cases c:r.ty=x.name
 rotate_left
 ·simp[ql1,qhi,bV,bS,xy,c,-fB',-eB']
 by_cases d:r.b<=tok
 rotate_left
 ·simp[ql1,qhi,bV,bS,xy,c,d,-fB',-eB']
 by_cases j:tok<r.e
 rotate_left
 ·simp[ql1,qhi,bV,bS,xy,c,d,j,-fB',-eB']
 by_cases h:x.arg=ft
 ·have a:x.arg=⟨#[]⟩:=h;simp[ql1,qhi,bV,bS,xy,c,d,j,h,a,ft,-fB',-eB']
 ·have a:¬x.arg=⟨#[]⟩:=h;simp[ql1,qhi,bV,bS,xy,h1,c,d,j,h,a,-fB',-eB']
abbrev qiD:Spc:=ay (a3 Corpus Cond Int) (λ_=>True) (enc (X:=Bool)) λx y=>y=x.1.regs.any (xy x.2.1 x.2.2)
def Fp(h0:S0 cg=H6)(h1:S eZ=qfO Region S0):aq mI ml S (a3 Corpus Cond Int) (λ_=>True) (enc (X:=Bool)) λx y=>y=x.1.regs.any (xy x.2.1 x.2.2):=by
 rintro⟨c,x,tok⟩ -;have a:FunOn S0 (.clo cg [.cptr (qhi x) 0, .cptr [enc tok] 0]) c.regs (xy x tok):=
  zi (f:=λr=>(r,x,tok)) h0 (λr _=>Lr ql1 qdF (r,x,tok)) (λ_ _=>trivial) (λr _ y b=>b)
 unfold qhi at a;simp[mI,ml,h1,-fB',-eB'];exact⟨⟨_,a⟩,λy b=>b _ a⟩
mutual
def oc:Cond->Bool| .mk op _ _ _ _ _ ks=>decide (op=4)||YQ ks
def YQ:List Cond->Bool|[]=>false|k::ks=>oc k||YQ ks
end
def Sm:∀l:List Cond,YQ l=l.any oc
 | []=>by rw[YQ];rfl
 |k::l=>by rw[YQ,Sm l];rfl
theorem Nj(x:Cond):oc x=(decide (x.op=4)||x.kids.any oc):=by cases x;rw[oc,Sm]
abbrev H5(n:Nat):Spc:=ay (a1 Cond) (λx=>bi x<=n) (enc (X:=Bool)) λx y=>y=oc x
def JY(n:Nat)(h0:S0 cA=H5 n)(h1:S cb=qfO Cond S0):aq kB ki S (a1 Cond) (λx=>bi x<=n+1) (enc (X:=Bool)) λx y=>y=oc x:=by
 rintro x c;have c:bi x<=n+1:=c;have d:FunOn S0 (.clo cA []) x.kids oc:=
  zi (f:=λk=>k) h0 (λk _=>by rw[qsl,Cod.dec_enc]) (λk hk=>by have:=DF hk;show bi k<=n;omega) (λr _ y b=>b)
 have a:=Nj x;by_cases e:x.op=4
 ·simp[kB,ki,h1,a,e,-fB',-eB']
 ·simp[kB,ki,h1,a,e,-fB',-eB'];exact⟨⟨_,d⟩,λy b=>b _ d⟩
end
section
open Cod (enc dec)
variable {dq:Prop}
@[simp] theorem qCh(s:Rp):Rp.mk s.s s.pos s.fault s.e=s:=by cases s;rfl
def tF(s:Rp):List D:=[enc s.s,enc s.pos,enc s.fault,enc s.e]
@[simp] theorem qzp(s:Rp):tF s=[enc s.s,enc s.pos,enc s.fault,enc s.e]:=i' rfl
section
variable {Y Z:Type}
def qqw:R5 Rp:=qg1 tF
def qAC(A:fN Z)(er:Y->D)(pre:Rp->Z->Prop)(post:Rp->Z->Rp->Y->Prop):Spc:=qwb qqw A er pre post
def qDP(er:Y->D)(pre:Rp->Z->Prop)(post:Rp->Z->Rp->Y->Prop)(id b:Nat)(r:Option Res)(o:Option Z)(H:ab)(K:D->ab->Prop):Prop:=
 ∃x,r=some (.box b (tF x))/\gJ o λz=>pre x z/\∀a y,post x z a y->K (er y) (aj H id (some (.box b (tF a))))
def qli{x y:Rp}(h:tF x=tF y):x=y:=by
 obtain⟨l,a,d,e⟩:=x;obtain⟨b,c,j,k⟩:=y;simp only[tF,qGn]at h;obtain⟨h1,h2,h3,h4,_⟩:=h;have h1:=cD h1;have h2:=cD h2;have h3:=cD h3;have h4:=cD h4;subst h1;subst h2;subst h3;subst h4;rfl
@[simp] theorem qqv(A:fN Z)(er:Y->D)(pre:Rp->Z->Prop)(post:Rp->Z->Rp->Y->Prop)(d i b:Nat)(ds:List D)(H:ab)(K:D->ab->Prop):(qAC A er pre post).pt d (.bptr i b 0::ds) H K=qDP er pre post i b (H i) (A.dec ds) H K:=by
 refine propext ⟨λh=>?_,λh=>?_⟩
 ·obtain⟨id,b',x,z,a,h1,h2,h3,h4,h5,h6,c⟩:=h;cases h1;refine⟨x,h3,?_⟩;rw[h2];exact⟨h6,c⟩
 ·obtain⟨x,h1,h2⟩:=h;cases hz:A.dec ds with
  |none=>rw[hz]at h2;exact h2.elim
  |some z=>rw[hz]at h2;exact⟨i,b,x,z,ds,rfl,hz,h1,λp hp=>by simp[qqw,qg1]at hp,by simp[qqw,qg1],h2.1,h2.2⟩
def JA(er:Y->D)(b:Nat)(post:Rp->Y->Prop)(r:D)(H:ab):Prop:=TD qqw er b post r H
def IP{er:Y->D}{b:Nat}{post:Rp->Y->Prop}{r:D}{H:ab}(x:Rp)(y:Y)(a:FrzTo (λi=>if i=0 then none else H i) r (er y))(h0:H 0=some (.box b (tF x)))(c:post x y):JA er b post r H:=
 ⟨x,y,by simpa [qqw,qg1]using a,h0,λp hp=>by simp[qqw,qg1]at hp,c⟩
def wm(cc:CC)(rs:List ai)(S:Nat->Spc)(A:fN Z)(er:Y->D)(pre:Rp->Z->Prop)(post:Rp->Z->Rp->Y->Prop):Prop:=
 ∀b x z,pre x z->vc S cc (wq rs λr H'=>JA er b (post x z) r H') (dI (.bptr 0 b 0::A.view z)) (aj dj 0 (some (.box b (tF x))))
variable {P:Program}{S:Nat->Spc}{f:Nat}{im:List Nat}{cc:CC}{rs:List ai}{N:Nat}
def qb0{A:fN Z}{er:Y->D}{pre:Rp->Z->Prop}{post:Rp->Z->Rp->Y->Prop}(a:∀f,Tri dq P f (S f).pt)(h:Bk P f im cc rs N)(c:∀z,(A.view z).length+1<=N)(d:wm cc rs S A er pre post):Tri dq P f (qAC A er pre post).pt:=
 Fz (by simp[qqw,qg1]) a h c λb x z hp=>d b x z hp
end
section
variable {Y Z:Type}
def qhf(A:fN Z)(er:Y->D)(F:Rp->Z->Option (Rp×Y)):Spc:=qAC A er (λs z=>∃r,F s z=some r) (λs z a y=>F s z=some (a,y))
def qiR(er:Y->D)(F:Rp->Z->Option (Rp×Y))(id b:Nat)(r:Option Res)(o:Option Z)(H:ab)(K:D->ab->Prop):Prop:=
 ∃x,r=some (.box b (tF x))/\gJ o λz=>gJ (F x z) λq=>K (er q.2) (aj H id (some (.box b (tF q.1))))
@[congr] theorem qxr{er:Y->D}{F:Rp->Z->Option (Rp×Y)}{id b:Nat}{r r':Option Res}{o a:Option Z}{H:ab}{K:D->ab->Prop}(h1:r=r')(h2:o=a):qiR er F id b r o H K=qiR er F id b r' a H K:=by subst h1;subst h2;rfl
def qqR{F:Option (Rp×Y)}{k:Rp->Y->Prop} :((∃r,F=some r)/\∀a y,F=some (a,y)->k a y)=gJ F λq=>k q.1 q.2:=by
 cases F with
 | none=>
   refine propext (Iff.intro (λh=>?_) (λh=>?_))
   ·obtain⟨⟨r,h⟩,_⟩:=h;cases h
   ·exact False.elim h
 | some r=>
   refine propext (Iff.intro (λh=>h.2 _ _ rfl) (λh=>⟨⟨_,rfl⟩,λa y e=>?_⟩));cases e;exact h
@[simp] theorem qAA(A:fN Z)(er:Y->D)(F:Rp->Z->Option (Rp×Y))(d i b:Nat)(ds:List D)(H:ab)(K:D->ab->Prop):(qhf A er F).pt d (.bptr i b 0::ds) H K=qiR er F i b (H i) (A.dec ds) H K:=by
 unfold qhf qiR;rw[qqv];unfold qDP;refine propext (exists_congr λx=>and_congr_right λ_=>?_);cases A.dec ds with
 |none=>exact qHj
 |some z=>exact iff_of_eq qqR
@[simp] theorem qAB(er:Y->D)(F:Rp->Z->Option (Rp×Y))(id b:Nat)(l:B)(p a e:Int)(o:Option Z)(H:ab)(K:D->ab->Prop):
 qiR er F id b (some (.box b [.v (.string l), .v (.int .i64 p), .v (.int .i64 a), .v (.int .i64 e)])) o H K=gJ o λz=>gJ (F ⟨l,p,a,e⟩ z) λq=>K (er q.2) (aj H id (some (.box b (tF q.1)))):=by
 refine propext ⟨λ⟨x,h1,h2⟩=>?_,λh=>⟨⟨l,p,a,e⟩,rfl,h⟩⟩;have c:tF ⟨l,p,a,e⟩=tF x:=by
  have:=qFY h1;exact(Res.box.inj this).2
 have:=qli c;subst this;exact h2
variable {P:Program}{S:Nat->Spc}{f:Nat}{im:List Nat}{cc:CC}{rs:List ai}{N:Nat}
def gc{A:fN Z}{er:Y->D}{F:Rp->Z->Option (Rp×Y)}(a:∀f,Tri dq P f (S f).pt)(h:Bk P f im cc rs N)(b:∀z,(A.view z).length+1<=N)
 (c:wm cc rs S A er (λs z=>∃r,F s z=some r) (λs z d y=>F s z=some (d,y))):Tri dq P f (qhf A er F).pt:=qb0 a h b c
end
end
end Go.Gv
