/- A part of the framework and of the walks: W80 W171 Asm22 C64 T39 T37 T38 W172 Asm23 C78. -/
import Derived.Test.YtfbleenmepoodaaGreatDoorGa36
set_option linter.unusedSimpArgs false
set_option linter.unusedVariables false
set_option linter.unusedSectionVars false
set_option linter.defProp false
set_option maxRecDepth 100000
set_option maxHeartbeats 0
namespace Go.Gv
open Cod (enc dec)
variable {S S0:Nat->Spc}
def MD(x:List Int×Int×List B)(y:Cond):Prop:=GI x.2.2 x.2.1.toNat y
abbrev CD(n:Nat):Spc:=aZ (aT (a2 Int (List B))) (FM n) (enc (X:=Cond)) MD
def qjt{i:Nat}{a:B}(h:[(⟨#[119,111,114,100]⟩:B),⟨#[119,111,114,100]⟩,⟨#[116,97,103]⟩][i]? =some a):a∈Attr2:=by
 have:=fF h;simpa [Attr2,vU,AH]using this
def qiz{i:Nat}{a:B}(h:[(⟨#[119,111,114,100]⟩:B),⟨#[116,97,103]⟩][i]? =some a):a∈Attr2:=fF h
def qhc{i:Nat}{a:B}(h:[(⟨#[112]⟩:B),⟨#[113]⟩][i]? =some a):a∈FeatL:=fF h
def qhb{i:Nat}{a:B}(h:[(⟨#[49]⟩:B),⟨#[50]⟩][i]? =some a):a∈NumL:=fF h
def qiy{i:Nat}{a:B}(h:[(⟨#[97]⟩:B),⟨#[98]⟩,⟨#[97,46,42]⟩,⟨#[91,97,98,93]⟩][i]? =some a):a∈ValsT:=fF h
def qjs{i:Nat}{a:B}(h:[(⟨#[97]⟩:B),⟨#[98]⟩,⟨#[97,46,42]⟩,⟨#[91,97,98,93]⟩,⟨#[88]⟩,⟨#[]⟩,⟨#[99,63]⟩,⟨#[97,124,98]⟩][i]? =some a):a∈ValsI:=by
 have:=fF h;simp only[ValsI,qjW,qkm,or_false]at this ⊢;rcases this with h|h|h|h|h|h|h|h <;> simp[h]
theorem Li(n:Nat)(h1:S cL=s_m_Next)(h2:S tU=E4)(h3:S gH=CD n):ax mu lW S (aT (a2 Int (List B))) (FM (n+1)) (enc (X:=Cond)) MD:=by
 rintro⟨L,deep,lb⟩ ⟨hn,hd0,hd1,hlb⟩;simp only at hn hd0 hd1 hlb;simp[mu,lW,h1];intro b6 k0 hk0 hk1;refine cm (X:=Int) [0,1,2,6] [6] (λk=>0<=k/\k < 12/\(deep < 1->k < 8)) (λk=>[(7,enc k)]) (λ_=>[]) ?_ ?_
 ·simp;have:k0.tmod 8=k0 % 8:=Int.tmod_eq_emod_of_nonneg hk0;rw[this];omega
 rintro k ⟨q0,q1,q2⟩;refine cm (X:=Unit) [0,1,2,6,7] [6] (λ_=>10<=k) (λ_=>[]) (λ_=>[]) ?_ ?_
 ·simp;refine cm (X:=Bool) [0,1,2,6,7,15] [6] (λb=>b=decide (k < 4)) (λb=>[(16,enc b)]) (λ_=>[]) ?_ ?_
  ·simp
   repeat' first|apply And.intro|intro _
   all_goals first|omega|(rw[qkx];simp;omega)
  rintro b hb;simp[h1,I3,P6,ZO,VG,lw,oR, -Bool.forall_bool];refine⟨λ_ y hy0 hy1=>⟨hy0,hy1,λa ha y hy0 hy1=>⟨hy0,hy1,λa' ha' y hy0 hy1=>gD [] (.nil _) (.atom _ _ (.val a a' _ (qjt ha) (qjs ha')))⟩⟩,λhb0=>?_⟩;rw[hb0]at hb;have hb:4<=k:=by simpa using hb.symm
  refine⟨λ_ y hy0 hy1=>⟨hy0,hy1,λa ha=>gD [] (.nil _) (.atom _ _ (.feat a (qhc ha)))⟩,λk4=>⟨λ_ _=>⟨λhl y hy0 hy1=>⟨hy0,hy1,λa ha _=>⟨by omega,λy hy=>⟨by omega,by omega,λa' ha' y hy0 hy1=>⟨hy0,hy1,λa'' ha''=>gD [] (.nil _) (.atom _ _ (.same a a' a'' (qiz ha) (fF ha') (qiz ha'')))⟩⟩⟩⟩,λ_=>gD [] (.nil _) (.atom _ _ (.val AH _ false (by simp[Attr2]) (by simp[ValsI])))⟩,λk5=>?_⟩⟩;refine cm (X:=Bool) [0,1,2,6,7,15] [6] (λb=>b=decide (k=6\/k=7)) (λb=>[(67,enc b)]) (λ_=>[]) ?_ ?_
  ·simp
   repeat' first|apply And.intro|intro _
   all_goals first|omega|(rw[qkx];simp;omega)
  rintro b hb2;simp[h1,h2, -Bool.forall_bool];refine⟨λ_ y hy0 hy1=>⟨trivial,λt ht b8=>?_⟩,λhb0=>?_⟩
  ·refine cm (X:=B×B) [6,8] [6] (λx=>(x.1=E0/\x.2=E0)\/(x.1=VE/\x.2∈NumL)) (λ_=>[]) (λx=>[(8, .box b8 [.v (.int .i64 5), .v (.string t), .v (.string x.1), .v (.string x.2), .v (.string ⟨#[]⟩), .v (.bool false), .v (.slice none 0 0)])]) ?_ ?_
   ·simp[h1,I3,lw,oR];refineλy hy0 hy1=>⟨λ_ z hz0 hz1=>⟨hz0,hz1,λa ha=>⟨VE,a, .inr ⟨rfl,qhb ha⟩, .inl ⟨rfl,rfl⟩⟩⟩,λ_=>⟨E0,E0, .inl ⟨rfl,rfl⟩, .inl ⟨rfl,rfl⟩⟩⟩
   ·rintro⟨a,v⟩ hav;simp;refine gD [] (.nil _) (.atom _ _ ?_);rcases hav with⟨rfl,rfl⟩|⟨rfl,hv⟩
    ·exact .reg t ht
    ·exact .regk t v ht hv
  rw[hb0]at hb2;have hb2:¬ (k=6\/k=7):=by simpa using hb2.symm
  refine cm (X:=Bool) [0,1,2,6,7,15] [6] (λb=>b=decide (k=8\/k=9)) (λb=>[(85,enc b)]) (λ_=>[]) ?_ ?_
  ·simp
   repeat' first|apply And.intro|intro _
   all_goals first|omega|(rw[qkx];simp;omega)
  rintro b hb3;simp[h3, -Bool.forall_bool];have hrec:1<=deep->FM n (L,deep -1,lb):=λh=>⟨by show(deep -1).toNat < n;omega,by show -10<=deep -1;omega,by show deep -1<=100;omega,hlb⟩
  refine⟨λhb1=>?_,λhb0=>?_⟩
  ·rw[hb1]at hb3;have hb3:k=8\/k=9:=by simpa using hb3.symm
   have hdn:deep.toNat=(deep -1).toNat+1:=by omega
   refine⟨by simp only[InR];omega,hrec (by omega),λy hy=>gD [y] (by simp) (by show GI lb deep.toNat _;rw[hdn];exact .not _ _ hy)⟩
  rw[hb0]at hb3;have hb3:¬ (k=8\/k=9):=by simpa using hb3.symm
  omega
 ·rintro -hk;have hrec:FM n (L,deep -1,lb):=⟨by show(deep -1).toNat < n;omega,by show -10<=deep -1;omega,by show deep -1<=100;omega,hlb⟩
  have hdn:deep.toNat=(deep -1).toNat+1:=by omega
  simp[h3];refine⟨by simp only[InR];omega,by simp only[InR];omega,by simp only[InR];omega,hrec,λy hy=>⟨by simp only[InR];omega,hrec,λy' hy'=>gD [y,y'] (by simp) (by show GI lb deep.toNat _;rw[hdn];exact .two _ _ _ _ (by omega) hy hy')⟩⟩
def Wj(x:List Int×Int×List B)(y:Cond):Prop:=GC x.2.2 x.2.1.toNat y
abbrev E5:Spc:=aZ (aT (a2 Int (List B))) (λx=> -10<=x.2.1/\x.2.1<=100/\x.2.2.length<=1000) (enc (X:=Cond)) Wj
abbrev AL:Spc:=aZ (aT (a2 Int (List B))) (λx=>∃n,FM n x) (enc (X:=Cond)) MD
theorem N9(h1:S cL=s_m_Next)(h3:S gH=AL):ax nZ nr S (aT (a2 Int (List B))) (λx=> -10<=x.2.1/\x.2.1<=100/\x.2.2.length<=1000) (enc (X:=Cond)) Wj:=by
 rintro⟨L,deep,lb⟩ ⟨hd0,hd1,hlb⟩;simp only at hd0 hd1 hlb;simp[nZ,nr,h1];intro b6;refine cm (X:=Unit) [0,1,2,6] [6] (λ_=>True) (λ_=>[]) (λ_=>[]) ?_ ?_
 ·simp[h1,VG,lw,oR, -Bool.forall_bool];exactλy _ _=>⟨λ_=>gD [] (.nil _) .any,λ_=>⟨λ_ z z0 z1=>⟨z0,z1,λa ha u _ _=>gD [] (.nil _) (.top a _ (qiy ha))⟩,λ_ _ z z0 z1=>⟨z0,z1,λa ha u _ _=>gD [] (.nil _) (.top a _ (qiy ha))⟩⟩⟩
 ·rintro - -;have hrec:∃n,FM n (L,deep,lb):=⟨deep.toNat+1,Nat.lt_succ_self _,hd0,hd1,hlb⟩
  simp[h3,hrec];exactλy hy=>gD y.kids (.same _) (by show GC lb deep.toNat _;rw[RZ y];exact .inner _ hy)
open Go.Proofs
def YA(x:List Int×Corpus):Prop:=OkCorp x.2
def Vq(x:List Int×Corpus)(y:List Int):Prop:=y.length=2/\∀b∈y, -1<=b/\b < x.2.toks.length
abbrev Jn:Spc:=aZ (aT (a1 Corpus)) YA (enc (X:=List Int)) Vq
def Ef(h1:S cL=s_m_Next):ax oc ny S (aT (a1 Corpus)) YA (enc (X:=List Int)) Vq:=by
 rintro⟨L,c⟩ hc;obtain⟨h2,h3,h4,h5⟩:=hc;simp only at h2 h3 h4 h5;simp[oc,ny,h1, -Bool.forall_bool, -Bool.exists_bool];refineλ_=>⟨by simp only[InR];omega,by omega,λy hy=>⟨by simp only[InR];omega,λ_=>⟨by simp only[InR];omega,by omega,λz hz=>⟨by simp only[InR];omega,?_⟩⟩⟩⟩
 refine dm [y -1,z -1] (.same _) ⟨rfl,λb hb=>?_⟩;simp at hb;show -1<=b/\b < (c.toks.length:Int);omega
def Xw{c:Corpus}(hc:OkCorp c){x:Cond}{tok:Int}{bd:List Int}(t0:0<=tok)(t1:tok < c.toks.length)(hb:Vq (([]:List Int),c) bd)(hok:Pz dC lbs2 x=true)(hy:∃y,kp ⟨c,tok,lbs2,bd⟩ 21 x=some y):YB (c,x,tok,lbs2,bd):=
 ⟨hc.sz,by rw[show(c,x,tok,lbs2,bd).1.attrs=dC from hc.1];exact hok,t0,t1,hb.1,(by decide:lbs2.length<=1000),hb.2,hy⟩
end Go.Gv
namespace Go.Gv
open Go.Proofs Cod
variable {dq:Prop}
def Cn{P:Program}{f:Nat}{A:Nat->PT}{A':PT}(h:∀n,Tri dq P f (A n))(hs:∀d ds H K,A' d ds H K->∃n,A n d ds H K):Tri dq P f A':=
 λO tp w vs ds H d K a b c e g hA=>(hs d ds H K hA).elim λn hn=>h n O tp w vs ds H d K a b c e g hn
def Cm{P:Program}{f:Nat}{A:PT}(hs:∀d ds H K,¬A d ds H K):Tri dq P f A:=λO tp w vs ds H d K a b c e g hA=>absurd hA (hs d ds H K)
def Cy{X Y:Type}{A:fw X}{pre:Nat->X->Prop}{pre':X->Prop}{er:Y->D}{post:X->Y->Prop}(hx:∀x,pre' x->∃n,pre n x):∀d ds H K,(aZ A pre' er post).pt d ds H K->∃n,(aZ A (pre n) er post).pt d ds H K:=by
 intro d ds H K h;rw[kA]at h;cases e:A.dec ds with
 | none=>rw[e]at h;exact h.elim
 | some x=>
   rw[e]at h;obtain⟨h1,h2⟩:=h;obtain⟨n,hn⟩:=hx x h1;exact⟨n,by rw[kA,e];exact⟨hn,h2⟩⟩
def lz{P:Program}{f:Nat}{X Y:Type}{A:fw X}{pre:X->Prop}{er:Y->D}{post:X->Y->Prop}(hx:∀x,¬pre x):Tri dq P f (aZ A pre er post).pt:=Cm λd ds H K h=>by
 rw[kA]at h;cases e:A.dec ds with
 | none=>rw[e]at h;exact h.elim
 | some x=>rw[e]at h;exact hx x h.1
def Gj{P:Program}{f:Nat}{Y Z:Type}{A:fw Z}{er:Y->D} :Tri dq P f (Tj A er λ_ _=>none).pt:=Cm λd ds H K h=>by
 obtain⟨id,b',x,z,ds',h1,h2,h3,h4,h5,⟨r,h6⟩,h7⟩:=h;cases h6
def TT{P:Program}{f:Nat} :Tri dq P f (YU λ_ _ _=>none).pt:=Cm λd ds H K h=>by
 obtain⟨id',b',x,n',k,r,d0',h1,h2,h3,h4,h5⟩:=h;cases h4
def Yf{p:Cond}(h:bM p<=0):False:=by rw[uE]at h;omega
def Sv:Tri dq Tryz.prog tU (E4).pt:=
 ac (ag (ab Gq ae)) Ff (λ_=>qjz rfl) (N8 rfl)
def sv:∀n,Tri dq Tryz.prog gH (CD n).pt
 | 0=>lz λx h=>by have:=h.1;omega
 | n+1=>ac (ag (ab ed (ab Sv (ab (sv n) ae)))) Bk (λ_=>qjz rfl) (Li n rfl rfl rfl)
def DM:Tri dq Tryz.prog gH (AL).pt:=Cn (λn=>sv n) (Cy (λx h=>h))
def EI:Tri dq Tryz.prog pI (E5).pt:=
 ac (ag (ab ed (ab DM ae))) C0 (λ_=>qjz rfl) (N9 rfl rfl)
def za:Tri dq Tryz.prog dc (BT).pt:=
 ac (ag ae) wv (λ_=>qjz rfl) (xD)
def AB:Tri dq Tryz.prog kM (s_cpFold1).pt:=Oh (S:=DW [(dc,BT)]) (ag (ab za ae)) rfl
def AC:Tri dq Tryz.prog kN (Qs).pt:=
 ac (ag ae) yp (λ_=>qjz rfl) (zM)
def wU:Tri dq Tryz.prog iU (QB).pt:=
 ac (ag (ab AC ae)) ve (λ_=>qjz rfl) (vS rfl)
def Aw:Tri dq Tryz.prog cd (Qt).pt:=
 ac (ag (ab wU ae)) yg (λ_=>qjz rfl) (zE rfl)
def iE:Tri dq Tryz.prog bT (Qu).pt:=
 ac (ag (ab Aw ae)) il (λ_=>qjz rfl) (D5 rfl)
def lM:Tri dq Tryz.prog cT (Qr).pt:=
 ac (ag (ab iE ae)) kG (λ_=>qjz rfl) (D4 rfl)
def yS:Tri dq Tryz.prog jI (JA).pt:=
 ac (ag ae) wi (λ_=>qjz rfl) (Gg)
def BC:Tri dq Tryz.prog me (M2).pt:=
 ac (ag (ab yS ae)) Ab (λ_=>qjz rfl) (Lk rfl)
def qv:Tri dq Tryz.prog cZ (TY).pt:=
 ac (ag (ab BC (ab lM ae))) pB (λ_=>qjz rfl) (qf rfl rfl)
def qA:Tri dq Tryz.prog cZ (NQ).pt:=Lw qv rfl (λ_=>RL (λ_ h=>by cases h))
def DK:Tri dq Tryz.prog nH (Jm).pt:=
 Lr (ag (ab qA ae)) Bd (λ_=>qjz rfl) (B6 rfl)
def KJ:Tri dq Tryz.prog tL (Qj).pt:=
 ac (ag ae) GP (λ_=>qjz rfl) (Ir)
def bL:Tri dq Tryz.prog aS (oU).pt:=
 dQ (ag (ab xK ae)) tv (λ_=>qjz rfl) (F7 rfl)
def vm:Tri dq Tryz.prog iq (MU).pt:=
 dQ (ag (ab xK ae)) tu (λ_=>qjz rfl) (F6 rfl)
def iF:Tri dq Tryz.prog cK (Gs).pt:=
 dQ (ag (ab bL (ab vm ae))) ox (λ_=>qjz rfl) (xo rfl rfl)
def sH:Tri dq Tryz.prog fH (Qk).pt:=
 dQ (ag (ab bL (ab te (ab iF ae)))) rh (λ_=>qjz rfl) (B7 rfl rfl rfl)
def uh:Tri dq Tryz.prog gF (Ql).pt:=
 dQ (ag (ab bL (ab sH (ab DK ae)))) sA (λ_=>qjz rfl) (D9 rfl rfl rfl)
def vn:Tri dq Tryz.prog ir (MV).pt:=
 dQ (ag (ab bL (ab KJ (ab uh (ab te (ab iF ae)))))) tw (λ_=>qjz rfl) (F8 rfl rfl rfl rfl rfl)
def sG:Tri dq Tryz.prog fG (Qi).pt:=
 dQ (ag (ab bL (ab vn ae))) rf (λ_=>qjz rfl) (B5 rfl rfl)
def sI:Tri dq Tryz.prog fI (Qm).pt:=
 dQ (ag (ab bL (ab sG ae))) ri (λ_=>qjz rfl) (B8 rfl rfl)
def ug:Tri dq Tryz.prog gE (Qh).pt:=
 dQ (ag (ab bL (ab sI ae))) sy (λ_=>qjz rfl) (D6 rfl rfl)
def uf:∀n,Tri dq Tryz.prog ld (YU (pq n)).pt
 | 0=>TT
 | n+1=>Lp (ag (ab (uf n) ae)) CT (by decide) (D7 n rfl)
def Av:Tri dq Tryz.prog kJ (Ji).pt:=
 ac (ag ae) yf (λ_=>qjz rfl) (zD)
def yN:Tri dq Tryz.prog jF (E1).pt:=
 ac (ag (ab Av ae)) wc (λ_=>qjz rfl) (xk rfl)
def mF:∀n,Tri dq Tryz.prog fb (vY n).pt
 | 0=>lz λx h=>by cases h
 | n+1=>ac (ag (ab yN (ab (mF n) ae))) uX (λ_=>qjz rfl) (vO n rfl rfl)
def oj:∀n,Tri dq Tryz.prog fZ (LH n).pt
 | 0=>lz λx h=>by obtain⟨m,h⟩:=h;cases h
 | n+1=>ac (ag (ab (oj n) ae)) we (λ_=>qjz rfl) (xn n rfl)
def qw:Tri dq Tryz.prog gY (Jk).pt:=
 ac (ag (ab (uf 50) (ab (mF 50) (ab (oj 50) ae)))) yi (λ_=>qjz rfl) (zG rfl rfl rfl)
def vw:Tri dq Tryz.prog li (zT).pt:=
 ac (ag (ab Wx (ab ug (ab qw ae)))) CV (λ_=>qjz rfl) (Ea rfl rfl rfl)
def EN:Tri dq Tryz.prog pP (T0).pt:=
 ac (ag (ab vw ae)) C7 (λ_=>qjz rfl) (Ej rfl)
def Ay:Tri dq Tryz.prog kK (TZ).pt:=
 ac (ag ae) yh (λ_=>qjz rfl) (zF)
def mH:Tri dq Tryz.prog eq (Gt).pt:=
 nj (ag ae) tB (λ_=>qjz rfl) (Ws)
def fP:Tri dq Tryz.prog cA (BS).pt:=
 nj (ag (ab mH ae)) rk (λ_=>qjz rfl) (PM rfl)
def DJ:∀n,Tri dq Tryz.prog cg (CA n).pt/\Tri dq Tryz.prog fJ (Qn n).pt/\Tri dq Tryz.prog db (LG n).pt
 | 0=>⟨Gj,Gj,Gj⟩
 | n+1=>⟨nj (ag (ab (DJ n).1 (ab (DJ n).2.1 (ab fP ae)))) sD (λ_=>qjz rfl) (Tt n rfl rfl rfl),nj (ag (ab (DJ n).1 (ab (DJ n).2.2 (ab fP (ab mH ae))))) rj (λ_=>qjz rfl) (PI n rfl rfl rfl rfl),nj (ag (ab (DJ n).1 (ab (DJ n).2.2 (ab fP ae)))) pD (λ_=>qjz rfl) (Lh n rfl rfl rfl)⟩
def KQ:Tri dq Tryz.prog tV (VM 50).pt:=
 ac (ag (ab (DJ 50).1 ae)) G6 (λ_=>qjz rfl) (qe7 50 rfl)
def vo:Tri dq Tryz.prog iu (Qo).pt:=
 ac (ag ae) tC (λ_=>qjz rfl) (Tu)
def Au:Tri dq Tryz.prog cb (VK).pt:=
 ac (ag (ab AB ae)) ye (λ_=>qjz rfl) (Lb rfl)
def BB:Tri dq Tryz.prog ct (VN).pt:=
 ac (ag ae) zY (λ_=>qjz rfl) (A6)
def vv:Tri dq Tryz.prog lg (Qq).pt:=
 ac (ag (ab qw (ab EU (ab KQ (ab vo (ab Ay (ab BB (ab Au ae)))))))) CU (λ_=>qjz rfl) (D8 rfl rfl rfl rfl rfl rfl rfl)
def EH:Tri dq Tryz.prog pF (M3 false).pt:=
 ac (ag (ab vv ae)) CW (λ_=>qjz rfl) (Eb rfl)
def yO:Tri dq Tryz.prog jG (M3 true).pt:=
 ac (ag (ab vv ae)) wg (λ_=>qjz rfl) (xp rfl)
def EM:Tri dq Tryz.prog pN (MY).pt:=
 ac (ag (ab vw (ab EH (ab yO ae)))) C6 (λ_=>qjz rfl) (Ei rfl rfl rfl)
def su:Tri dq Tryz.prog dP (QC).pt:=
 ac (ag ae) ym (λ_=>qjz rfl) (zK)
def BD:Tri dq Tryz.prog iH (E7).pt:=
 ac (ag (ab su ae)) yl (λ_=>qjz rfl) (zJ rfl)
def wQ:Tri dq Tryz.prog iQ (MW).pt:=
 ac (ag (ab su (ab BD ae))) tA (λ_=>qjz rfl) (uW rfl rfl)
def mG:Tri dq Tryz.prog bH (zS).pt:=
 ac (ag (ab EU ae)) tz (λ_=>qjz rfl) (uV rfl)
def BE:Tri dq Tryz.prog mg (Jp).pt:=
 ac (ag (ab mG ae)) Ad (λ_=>qjz rfl) (A9 rfl)
def wR:Tri dq Tryz.prog iR (Qx).pt:=
 ac (ag ae) uY (λ_=>qjz rfl) (vP)
def EL:Tri dq Tryz.prog pM (Qw).pt:=
 ac (ag (ab BE (ab wR ae))) C5 (λ_=>qjz rfl) (Eh rfl rfl)
def lN:∀n,Tri dq Tryz.prog bI (Ju n).pt
 | 0=>lz λx h=>Yf h.1
 | n+1=>ac (ag (ab (lN n) ae)) tD (λ_=>qjz rfl) (tb n rfl)
def mI:Tri dq Tryz.prog bI (CE).pt:=Cn (λn=>lN n) (Cy (λx h=>h))
def yW:Tri dq Tryz.prog ga (Jw).pt:=
 ac (ag (ab mI ae)) wn (λ_=>qjz rfl) (xw rfl)
def yT:Tri dq Tryz.prog jL (E8).pt:=
 ac (ag ae) wk (λ_=>qjz rfl) (vQ)
def qx:Tri dq Tryz.prog bj (Gw).pt:=
 ac (ag ae) pE (λ_=>qjz rfl) (qg)
def mB:Tri dq Tryz.prog dg (Gx Attr (DW [(bj,Gw)])).pt:=
 ac (ag (ab qx ae)) lA (λ_=>qjz rfl) (Cj)
def dE:Tri dq Tryz.prog bO (ya).pt:=
 ac (ag (ab mB ae)) ro (λ_=>qjz rfl) (sx (S0:=(DW [(bj,Gw)])) rfl rfl)
def pm:Tri dq Tryz.prog gb (CG).pt:=
 ac (ag (ab dE ae)) wq (λ_=>qjz rfl) (xx rfl)
def yY:Tri dq Tryz.prog jO (Jz).pt:=
 ac (ag ae) wt (λ_=>qjz rfl) (xz)
def kq:Tri dq Tryz.prog dD (LI).pt:=
 ac (ag ae) re (λ_=>qjz rfl) (Ci)
def pW:Tri dq Tryz.prog ei (QA).pt:=
 ac (ag (ab kq ae)) ow (λ_=>qjz rfl) (xE rfl)
def yU:Tri dq Tryz.prog jM (Jt).pt:=
 ac (ag (ab pm (ab dE (ab wQ ae)))) wl (λ_=>qjz rfl) (xt rfl rfl rfl)
def yX:Tri dq Tryz.prog jN (Jy).pt:=
 ac (ag (ab yT (ab yU (ab EN (ab dE (ab Lo (ab mG (ab pW ae)))))))) ws (λ_=>qjz rfl) (xy rfl rfl rfl rfl rfl rfl rfl)
def sa:Tri dq Tryz.prog bB (M1).pt:=
 ac (ag (ab yX ae)) qo (λ_=>qjz rfl) (qE rfl)
def pj:∀n,Tri dq Tryz.prog eG (Jr n).pt
 | 0=>lz λx h=>by obtain⟨a,lb,_,h,_⟩:=h;cases h
 | n+1=>ac (ag (ab sa (ab (pj n) ae))) yn (λ_=>qjz rfl) (xr n rfl rfl)
def Az:Tri dq Tryz.prog eG (Jq).pt:=Cn (λn=>pj n) (Cy (λx h=>h))
def gT:Tri dq Tryz.prog bv (Gu).pt:=
 ac (ag (ab mI (ab Az ae))) sF (λ_=>qjz rfl) (tc rfl rfl)
def vk:Tri dq Tryz.prog ip (MX).pt:=
 ac (ag ae) tt (λ_=>qjz rfl) (Gh)
def rZ:Tri dq Tryz.prog fa (MZ).pt:=
 ac (ag (ab vk ae)) qm (λ_=>qjz rfl) (Ba rfl)
def ui:Tri dq Tryz.prog bu (xY).pt:=
 ac (ag (ab rZ ae)) sE (λ_=>qjz rfl) (ta rfl)
def oJ:Tri dq Tryz.prog dJ (Gx Region (DW [(bu,xY)])).pt:=
 ac (ag (ab ui ae)) nD (λ_=>qjz rfl) (IM)
def mC:Tri dq Tryz.prog dh (JC Region (DW [(bu,xY)])).pt:=
 ac (ag (ab oJ ae)) lB (λ_=>qjz rfl) (IN rfl)
def wS:Tri dq Tryz.prog iS (Qz).pt:=
 ac (ag (ab mC ae)) uZ (λ_=>qjz rfl) (vR (S0:=(DW [(bu,xY)])) rfl rfl)
def pk:∀n,Tri dq Tryz.prog aW (xX n).pt
 | 0=>lz λx h=>Yf h
 | n+1=>
   have h1:Tri dq Tryz.prog da (Gx Cond (DW [(aW,xX n)])).pt:=ac (ag (ab (pk n) ae)) iC (λ_=>qjz rfl) (EP);have h2:Tri dq Tryz.prog aV (JC Cond (DW [(aW,xX n)])).pt:=ac (ag (ab h1 ae)) fX (λ_=>qjz rfl) (EQ rfl)
   ac (ag (ab h2 ae)) yo (λ_=>qjz rfl) (zL (S0:=(DW [(aW,xX n)])) n rfl rfl)
def AA:Tri dq Tryz.prog aW (Js).pt:=Cn (λn=>pk n) (Cy (λx h=>h))
def ol:∀n,Tri dq Tryz.prog cn (Jv n).pt
 | 0=>lz λx h=>Yf h.1
 | n+1=>ac (ag (ab AA (ab (ol n) ae))) wm (λ_=>qjz rfl) (xu n rfl rfl)
def yV:Tri dq Tryz.prog cn (M0).pt:=Cn (λn=>ol n) (Cy (λx h=>h))
theorem jd:∀n,Tri dq Tryz.prog cp (xZ n).pt
 | 0=>lz λx h=>by obtain⟨_,y,h⟩:=h;cases h
 | n+1=>
   have g1:Tri dq Tryz.prog aB (LJ n).pt:=ac (ag (ab (jd n) ae)) tF (λ_=>qjz rfl) (Oc n rfl);have g2:Tri dq Tryz.prog bJ (Qv n).pt:=ac (ag (ab g1 ae)) tE (λ_=>qjz rfl) (Ob n rfl);have g3:Tri dq Tryz.prog da (Gx Cond (DW [(aB,LJ n),(bJ,Qv n)])).pt:=ac (ag (ab g1 (ab g2 ae))) iC (λ_=>qjz rfl) (EP);have g4:Tri dq Tryz.prog aV (JC Cond (DW [(aB,LJ n),(bJ,Qv n)])).pt:=ac (ag (ab g3 ae)) fX (λ_=>qjz rfl) (EQ rfl)
   ac (ag (ab g1 (ab g4 (ab pm (ab yY (ab EM (ab dE (ab EL (ab kq (ab wS ae)))))))))) wo (λ_=>qjz rfl) (Ts (S0:=(DW [(aB,LJ n),(bJ,Qv n)])) n rfl rfl rfl rfl rfl rfl rfl rfl rfl rfl rfl)
def vp:Tri dq Tryz.prog bc (JB).pt:=
 ac (ag ae) tG (λ_=>qjz rfl) (Od)
def rY:Tri dq Tryz.prog dn (Gx Int (DW [(bc,JB)])).pt:=
 ac (ag (ab vp ae)) ql (λ_=>qjz rfl) (PO)
def oL:Tri dq Tryz.prog cw (JC Int (DW [(bc,JB)])).pt:=
 ac (ag (ab rY ae)) nE (λ_=>qjz rfl) (PP rfl)
def yZ:Tri dq Tryz.prog jP (Z3).pt:=
 ac (ag (ab gT (ab oL (ab (jd 21) ae)))) wu (λ_=>qjz rfl) (Tv (S0:=(DW [(bc,JB)])) rfl rfl rfl rfl)
def wT:Tri dq Tryz.prog iT (VP).pt:=
 ac (ag (ab yW (ab yV (ab gT (ab (jd 21) ae))))) vd (λ_=>qjz rfl) (PN rfl rfl rfl rfl)
def DO:Tri dq Tryz.prog nQ (VO).pt:=
 ac (ag ae) Bo (λ_=>qjz rfl) (Ch)
def Mv:Tri dq Tryz.prog wG (QD).pt:=
 ac (ag ae) JH (λ_=>qjz rfl) (Ld)
def EJ:Tri dq Tryz.prog pJ (E6).pt:=
 ac (ag (ab DO (ab wT (ab Mv ae)))) C1 (λ_=>qjz rfl) (Oa rfl rfl rfl)
def DN:Tri dq Tryz.prog nP (Jo).pt:=
 ac (ag ae) Bn (λ_=>qjz rfl) (Cg)
def EK:Tri dq Tryz.prog pK (Jn).pt:=
 ac (ag (ab ed ae)) C3 (λ_=>qjz rfl) (Ef rfl)
end Go.Gv
namespace Go.Gv
open Go.Proofs
open Cod (enc dec)
variable {dq:Prop}
section
variable {X Y Z:Type}
variable {P:Program}{S:Nat->Spc}{f:Nat}{im:List Nat}{cc:CC}{rs:List ai}{N:Nat}
end
end Go.Gv
namespace Go.Gv
open Cod (enc dec)
section
variable {S:Nat->Spc}{σ:Sg}{H Hr:aa}{K:D->aa->Prop}
end
section
variable {X:Type}[Cod X][DecidableEq X]
end
open Go.Proofs
variable {S S0:Nat->Spc}
end Go.Gv
namespace Go.Gv
open Go.Proofs
variable {dq:Prop}
end Go.Gv
namespace Go.Gv
open Go.Proofs
def rK:CC:=gq Tryz.f78 [2] {} _
def qM:List ai:=[.tmp 4, .tmp 5]
def GS:aq Tryz.prog lF [2] rK qM 42:=fo
def rL:CC:=gq Tryz.f39 [1] {} _
def qN:List ai:=[.tmp 2, .tmp 3]
def GU:aq Tryz.prog tM [1] rL qN 8:=fo
def kP:CC:=gq Tryz.f69 [] {} _
def kC:List ai:=[.tmp 4]
def zZ:aq Tryz.prog fu [] kP kC 20:=fo
def Ar:CC:=gq Tryz.f80 [] {} _
def zU:List ai:=[.tmp 4]
def OE:aq Tryz.prog yG [] Ar zU 17:=fo
def cM:CC:=gq Tryz.f118 [1] {} _
def cJ:List ai:=[.tmp 2]
def GT:aq Tryz.prog pd [1] cM cJ 82:=fo
def dY:CC:=gq Tryz.f94 [3] {} _
def dS:List ai:=[.tmp 6]
def JG:aq Tryz.prog wF [3] dY dS 93:=fo
def rJ:CC:=gq Tryz.f68 [3] {} _
def qL:List ai:=[.tmp 6]
def GR:aq Tryz.prog lE [3] rJ qL 33:=fo
def mj:CC:=gq Tryz.f30 [3] {} _
def lR:List ai:=[.tmp 6]
def Be:aq Tryz.prog nI [3] mj lR 24:=fo
def bX:CC:=gq Tryz.f31 [5,6] {} _
def bW:List ai:=[.tmp 10]
def GQ:aq Tryz.prog pb [5,6] bX bW 187:=fo
def rM:CC:=gq Tryz.f11 [5,6] {} _
def qO:List ai:=[.tmp 10]
def GV:aq Tryz.prog tN [5,6] rM qO 59:=fo
end Go.Gv
