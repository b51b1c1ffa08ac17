/- A part of the framework and of the walks: W80 W171 Asm22 C64 T39 T37 T38 W172. -/
import Derived.Test.YtfbleenmepoodaaGreatDoorGb36
set_option linter.unusedSimpArgs false
set_option linter.unusedVariables false
set_option linter.unusedSectionVars false
set_option linter.defProp false
set_option maxRecDepth 100000
set_option maxHeartbeats 0
namespace Go.Gv
open Cod (enc dec)
variable {S S0:Nat->Spc}
def OI(x:List Int×Int×List B)(y:Cond):Prop:=GI x.2.2 x.2.1.toNat y
abbrev Ed(n:Nat):Spc:=aY (aT (a2 Int (List B))) (HF n) (enc (X:=Cond)) OI
def ql4{i:Nat}{a:B}(h:[(⟨#[119,111,114,100]⟩:B),⟨#[119,111,114,100]⟩,⟨#[116,97,103]⟩][i]? =some a):a∈Attr2:=by
 have:=fV h;simpa [Attr2,xF,B5]using this
def qla{i:Nat}{a:B}(h:[(⟨#[119,111,114,100]⟩:B),⟨#[116,97,103]⟩][i]? =some a):a∈Attr2:=fV h
def qjK{i:Nat}{a:B}(h:[(⟨#[112]⟩:B),⟨#[113]⟩][i]? =some a):a∈FeatL:=fV h
def qjJ{i:Nat}{a:B}(h:[(⟨#[49]⟩:B),⟨#[50]⟩][i]? =some a):a∈NumL:=fV h
def qk9{i:Nat}{a:B}(h:[(⟨#[97]⟩:B),⟨#[98]⟩,⟨#[97,46,42]⟩,⟨#[91,97,98,93]⟩][i]? =some a):a∈ValsT:=fV h
def ql3{i:Nat}{a:B}(h:[(⟨#[97]⟩:B),⟨#[98]⟩,⟨#[97,46,42]⟩,⟨#[91,97,98,93]⟩,⟨#[88]⟩,⟨#[]⟩,⟨#[99,63]⟩,⟨#[97,124,98]⟩][i]? =some a):a∈ValsI:=by
 have:=fV h;simp only[ValsI,qmw,qmM,or_false]at this ⊢;rcases this with h|h|h|h|h|h|h|h <;> simp[h]
theorem Ne(n:Nat)(h1:S cZ=s_m_Next)(h2:S vr=GR)(h3:S hL=Ed n):av np mW S (aT (a2 Int (List B))) (HF (n+1)) (enc (X:=Cond)) OI:=by
 rintro⟨L,deep,lb⟩ ⟨hn,hd0,hd1,hlb⟩;simp only at hn hd0 hd1 hlb;simp[np,mW,h1];intro b6 k0 hk0 hk1;refine cm (X:=Int) [0,1,2,6] [6] (λk=>0<=k/\k < 12/\(deep < 1->k < 8)) (λk=>[(7,enc k)]) (λ_=>[]) ?_ ?_
 ·simp;have:k0.tmod 8=k0 % 8:=Int.tmod_eq_emod_of_nonneg hk0;rw[this];omega
 rintro k ⟨q0,q1,q2⟩;refine cm (X:=Unit) [0,1,2,6,7] [6] (λ_=>10<=k) (λ_=>[]) (λ_=>[]) ?_ ?_
 ·simp;refine cm (X:=Bool) [0,1,2,6,7,15] [6] (λb=>b=decide (k < 4)) (λb=>[(16,enc b)]) (λ_=>[]) ?_ ?_
  ·simp
   repeat' first|apply And.intro|intro _
   all_goals first|omega|(rw[qm8];simp;omega)
  rintro b hb;simp[h1,Lc,Si,qca,YH,mr,qa, -Bool.forall_bool];refine⟨λ_ y hy0 hy1=>⟨hy0,hy1,λa ha y hy0 hy1=>⟨hy0,hy1,λa' ha' y hy0 hy1=>gW [] (.nil _) (.atom _ _ (.val a a' _ (ql4 ha) (ql3 ha')))⟩⟩,λhb0=>?_⟩;rw[hb0]at hb;have hb:4<=k:=by simpa using hb.symm
  refine⟨λ_ y hy0 hy1=>⟨hy0,hy1,λa ha=>gW [] (.nil _) (.atom _ _ (.feat a (qjK ha)))⟩,λk4=>⟨λ_ _=>⟨λhl y hy0 hy1=>⟨hy0,hy1,λa ha _=>⟨by omega,λy hy=>⟨by omega,by omega,λa' ha' y hy0 hy1=>⟨hy0,hy1,λa'' ha''=>gW [] (.nil _) (.atom _ _ (.same a a' a'' (qla ha) (fV ha') (qla ha'')))⟩⟩⟩⟩,λ_=>gW [] (.nil _) (.atom _ _ (.val B5 _ false (by simp[Attr2]) (by simp[ValsI])))⟩,λk5=>?_⟩⟩;refine cm (X:=Bool) [0,1,2,6,7,15] [6] (λb=>b=decide (k=6\/k=7)) (λb=>[(67,enc b)]) (λ_=>[]) ?_ ?_
  ·simp
   repeat' first|apply And.intro|intro _
   all_goals first|omega|(rw[qm8];simp;omega)
  rintro b hb2;simp[h1,h2, -Bool.forall_bool];refine⟨λ_ y hy0 hy1=>⟨trivial,λt ht b8=>?_⟩,λhb0=>?_⟩
  ·refine cm (X:=B×B) [6,8] [6] (λx=>(x.1=E0/\x.2=E0)\/(x.1=YF/\x.2∈NumL)) (λ_=>[]) (λx=>[(8, .box b8 [.v (.int .i64 5), .v (.string t), .v (.string x.1), .v (.string x.2), .v (.string ⟨#[]⟩), .v (.bool false), .v (.slice none 0 0)])]) ?_ ?_
   ·simp[h1,Lc,mr,qa];refineλy hy0 hy1=>⟨λ_ z hz0 hz1=>⟨hz0,hz1,λa ha=>⟨YF,a, .inr ⟨rfl,qjJ ha⟩, .inl ⟨rfl,rfl⟩⟩⟩,λ_=>⟨E0,E0, .inl ⟨rfl,rfl⟩, .inl ⟨rfl,rfl⟩⟩⟩
   ·rintro⟨a,v⟩ hav;simp;refine gW [] (.nil _) (.atom _ _ ?_);rcases hav with⟨rfl,rfl⟩|⟨rfl,hv⟩
    ·exact .reg t ht
    ·exact .regk t v ht hv
  rw[hb0]at hb2;have hb2:¬ (k=6\/k=7):=by simpa using hb2.symm
  refine cm (X:=Bool) [0,1,2,6,7,15] [6] (λb=>b=decide (k=8\/k=9)) (λb=>[(85,enc b)]) (λ_=>[]) ?_ ?_
  ·simp
   repeat' first|apply And.intro|intro _
   all_goals first|omega|(rw[qm8];simp;omega)
  rintro b hb3;simp[h3, -Bool.forall_bool];have hrec:1<=deep->HF n (L,deep -1,lb):=λh=>⟨by show(deep -1).toNat < n;omega,by show -10<=deep -1;omega,by show deep -1<=100;omega,hlb⟩
  refine⟨λhb1=>?_,λhb0=>?_⟩
  ·rw[hb1]at hb3;have hb3:k=8\/k=9:=by simpa using hb3.symm
   have hdn:deep.toNat=(deep -1).toNat+1:=by omega
   refine⟨by simp only[InR];omega,hrec (by omega),λy hy=>gW [y] (by simp) (by show GI lb deep.toNat _;rw[hdn];exact .not _ _ hy)⟩
  rw[hb0]at hb3;have hb3:¬ (k=8\/k=9):=by simpa using hb3.symm
  omega
 ·rintro -hk;have hrec:HF n (L,deep -1,lb):=⟨by show(deep -1).toNat < n;omega,by show -10<=deep -1;omega,by show deep -1<=100;omega,hlb⟩
  have hdn:deep.toNat=(deep -1).toNat+1:=by omega
  simp[h3];refine⟨by simp only[InR];omega,by simp only[InR];omega,by simp only[InR];omega,hrec,λy hy=>⟨by simp only[InR];omega,hrec,λy' hy'=>gW [y,y'] (by simp) (by show GI lb deep.toNat _;rw[hdn];exact .two _ _ _ _ (by omega) hy hy')⟩⟩
def Y9(x:List Int×Int×List B)(y:Cond):Prop:=GC x.2.2 x.2.1.toNat y
abbrev Bo:Spc:=aY (aT (a2 Int (List B))) (λx=> -10<=x.2.1/\x.2.1<=100/\x.2.2.length<=1000) (enc (X:=Cond)) Y9
abbrev B9:Spc:=aY (aT (a2 Int (List B))) (λx=>∃n,HF n x) (enc (X:=Cond)) OI
theorem Qn(h1:S cZ=s_m_Next)(h3:S hL=B9):av py ox S (aT (a2 Int (List B))) (λx=> -10<=x.2.1/\x.2.1<=100/\x.2.2.length<=1000) (enc (X:=Cond)) Y9:=by
 rintro⟨L,deep,lb⟩ ⟨hd0,hd1,hlb⟩;simp only at hd0 hd1 hlb;simp[py,ox,h1];intro b6;refine cm (X:=Unit) [0,1,2,6] [6] (λ_=>True) (λ_=>[]) (λ_=>[]) ?_ ?_
 ·simp[h1,YH,mr,qa, -Bool.forall_bool];exactλy _ _=>⟨λ_=>gW [] (.nil _) .any,λ_=>⟨λ_ z z0 z1=>⟨z0,z1,λa ha u _ _=>gW [] (.nil _) (.top a _ (qk9 ha))⟩,λ_ _ z z0 z1=>⟨z0,z1,λa ha u _ _=>gW [] (.nil _) (.top a _ (qk9 ha))⟩⟩⟩
 ·rintro - -;have hrec:∃n,HF n (L,deep,lb):=⟨deep.toNat+1,Nat.lt_succ_self _,hd0,hd1,hlb⟩
  simp[h3,hrec];exactλy hy=>gW y.kids (.same _) (by show GC lb deep.toNat _;rw[UC y];exact .inner _ hy)
open Go.Proofs
def qaY(x:List Int×Corpus):Prop:=OkCorp x.2
def Yo(x:List Int×Corpus)(y:List Int):Prop:=y.length=2/\∀b∈y, -1<=b/\b < x.2.toks.length
abbrev Ls:Spc:=aY (aT (a1 Corpus)) qaY (enc (X:=List Int)) Yo
def FX(h1:S cZ=s_m_Next):av pA oJ S (aT (a1 Corpus)) qaY (enc (X:=List Int)) Yo:=by
 rintro⟨L,c⟩ hc;obtain⟨h2,h3,h4,h5⟩:=hc;simp only at h2 h3 h4 h5;simp[pA,oJ,h1, -Bool.forall_bool, -Bool.exists_bool];refineλ_=>⟨by simp only[InR];omega,by omega,λy hy=>⟨by simp only[InR];omega,λ_=>⟨by simp only[InR];omega,by omega,λz hz=>⟨by simp only[InR];omega,?_⟩⟩⟩⟩
 refine cp [y -1,z -1] (.same _) ⟨rfl,λb hb=>?_⟩;simp at hb;show -1<=b/\b < (c.toks.length:Int);omega
def Z7{c:Corpus}(hc:OkCorp c){x:Cond}{tok:Int}{bd:List Int}(t0:0<=tok)(t1:tok < c.toks.length)(hb:Yo (([]:List Int),c) bd)(hok:QT dA lbs2 x=true)(hy:∃y,jN ⟨c,tok,lbs2,bd⟩ 21 x=some y):qaZ (c,x,tok,lbs2,bd):=
 ⟨hc.sz,by rw[show(c,x,tok,lbs2,bd).1.attrs=dA from hc.1];exact hok,t0,t1,hb.1,(by decide:lbs2.length<=1000),hb.2,hy⟩
end Go.Gv
namespace Go.Gv
open Go.Proofs Cod
variable {dq:Prop}
def DX{P:Program}{f:Nat}{A:Nat->PT}{A':PT}(h:∀n,Tri dq P f (A n))(hs:∀d ds H K,A' d ds H K->∃n,A n d ds H K):Tri dq P f A':=
 λO tp w vs ds H d K a b c e g hA=>(hs d ds H K hA).elim λn hn=>h n O tp w vs ds H d K a b c e g hn
def DW{P:Program}{f:Nat}{A:PT}(hs:∀d ds H K,¬A d ds H K):Tri dq P f A:=λO tp w vs ds H d K a b c e g hA=>absurd hA (hs d ds H K)
def D8{X Y:Type}{A:eZ X}{pre:Nat->X->Prop}{pre':X->Prop}{er:Y->D}{post:X->Y->Prop}(hx:∀x,pre' x->∃n,pre n x):∀d ds H K,(aY A pre' er post).pt d ds H K->∃n,(aY A (pre n) er post).pt d ds H K:=by
 intro d ds H K h;rw[lu]at h;cases e:A.dec ds with
 | none=>rw[e]at h;exact h.elim
 | some x=>
   rw[e]at h;obtain⟨h1,h2⟩:=h;obtain⟨n,hn⟩:=hx x h1;exact⟨n,by rw[lu,e];exact⟨hn,h2⟩⟩
def ms{P:Program}{f:Nat}{X Y:Type}{A:eZ X}{pre:X->Prop}{er:Y->D}{post:X->Y->Prop}(hx:∀x,¬pre x):Tri dq P f (aY A pre er post).pt:=DW λd ds H K h=>by
 rw[lu]at h;cases e:A.dec ds with
 | none=>rw[e]at h;exact h.elim
 | some x=>rw[e]at h;exact hx x h.1
def Im{P:Program}{f:Nat}{Y Z:Type}{A:eZ Z}{er:Y->D} :Tri dq P f (VN A er λ_ _=>none).pt:=DW λd ds H K h=>by
 obtain⟨id,b',x,z,ds',h1,h2,h3,h4,h5,⟨r,h6⟩,h7⟩:=h;cases h6
def Wz{P:Program}{f:Nat} :Tri dq P f (qbh λ_ _ _=>none).pt:=DW λd ds H K h=>by
 obtain⟨id',b',x,n',k,r,d0',h1,h2,h3,h4,h5⟩:=h;cases h4
def qaE{p:Cond}(h:aA p<=0):False:=by rw[tD]at h;omega
def U4:Tri dq Tryz.prog vr (GR).pt:=
 ac (ag (aa Is ae)) G2 (λ_=>qma rfl) (Qm rfl)
def tO:∀n,Tri dq Tryz.prog hL (Ed n).pt
 | 0=>ms λx h=>by have:=h.1;omega
 | n+1=>ac (ag (aa eC (aa U4 (aa (tO n) ae)))) CP (λ_=>qma rfl) (Ne n rfl rfl rfl)
def Fq:Tri dq Tryz.prog hL (B9).pt:=DX (λn=>tO n) (D8 (λx h=>h))
def wW:Tri dq Tryz.prog mf (Bo).pt:=
 ac (ag (aa eC (aa Fq ae))) EB (λ_=>qma rfl) (Qn rfl rfl)
def AL:Tri dq Tryz.prog dv (Dr).pt:=
 ac (ag ae) yg (λ_=>qma rfl) (zo)
def BY:Tri dq Tryz.prog lJ (s_cpFold1).pt:=Qv (S:=Dl [(dv,Dr)]) (ag (aa AL ae)) rfl
def BZ:Tri dq Tryz.prog lK (SE).pt:=
 ac (ag ae) Ac (λ_=>qma rfl) (Bf)
def yF:Tri dq Tryz.prog jz (SO).pt:=
 ac (ag (aa BZ ae)) wD (λ_=>qma rfl) (xy rfl)
def BU:Tri dq Tryz.prog cz (SF).pt:=
 ac (ag (aa yF ae)) zT (λ_=>qma rfl) (A7 rfl)
def jh:Tri dq Tryz.prog cb (SG).pt:=
 ac (ag (aa BU ae)) iK (λ_=>qma rfl) (FM rfl)
def mM:Tri dq Tryz.prog dh (SD).pt:=
 ac (ag (aa jh ae)) lD (λ_=>qma rfl) (FL rfl)
def AF:Tri dq Tryz.prog kG (LC).pt:=
 ac (ag ae) xS (λ_=>qma rfl) (Ij)
def C6:Tri dq Tryz.prog nc (O9).pt:=
 ac (ag (aa AF ae)) BA (λ_=>qma rfl) (Ng rfl)
def rD:Tri dq Tryz.prog dn (WD).pt:=
 ac (ag (aa C6 (aa mM ae))) qA (λ_=>qma rfl) (ra rfl rfl)
def rJ:Tri dq Tryz.prog dn (P3).pt:=xE rD rfl (λ_=>Uo (λ_ h=>by cases h))
def Fo:Tri dq Tryz.prog oY (Lr).pt:=
 Np (ag (aa rJ ae)) CJ (λ_=>qma rfl) (DH rfl)
def MM:Tri dq Tryz.prog vg (Su).pt:=
 ac (ag ae) IR (λ_=>qma rfl) (Kw)
def bU:Tri dq Tryz.prog bb (qb).pt:=
 ed (ag (aa zx ae)) uL (λ_=>qma rfl) (H6 rfl)
def wJ:Tri dq Tryz.prog iO (O1).pt:=
 ed (ag (aa zx ae)) uK (λ_=>qma rfl) (H5 rfl)
def ji:Tri dq Tryz.prog cY (Iu).pt:=
 ed (ag (aa bU (aa wJ ae))) pP (λ_=>qma rfl) (yY rfl rfl)
def ua:Tri dq Tryz.prog fX (Sv).pt:=
 ed (ag (aa bU (aa uz (aa ji ae)))) sB (λ_=>qma rfl) (DI rfl rfl rfl)
def vG:Tri dq Tryz.prog gY (Sw).pt:=
 ed (ag (aa bU (aa ua (aa Fo ae)))) tS (λ_=>qma rfl) (FQ rfl rfl rfl)
def wK:Tri dq Tryz.prog iP (O3).pt:=
 ed (ag (aa bU (aa MM (aa vG (aa uz (aa ji ae)))))) uM (λ_=>qma rfl) (H7 rfl rfl rfl rfl rfl)
def tZ:Tri dq Tryz.prog fW (Ss).pt:=
 ed (ag (aa bU (aa wK ae))) sA (λ_=>qma rfl) (DG rfl rfl)
def ub:Tri dq Tryz.prog fY (Sx).pt:=
 ed (ag (aa bU (aa tZ ae))) sC (λ_=>qma rfl) (DJ rfl rfl)
def vF:Tri dq Tryz.prog gX (Sr).pt:=
 ed (ag (aa bU (aa ub ae))) tR (λ_=>qma rfl) (FN rfl rfl)
def vE:∀n,Tri dq Tryz.prog lY (qbh (qp n)).pt
 | 0=>Wz
 | n+1=>Nm (ag (aa (vE n) ae)) Et (by decide) (FO n rfl)
def BT:Tri dq Tryz.prog lG (Lm).pt:=
 ac (ag ae) zS (λ_=>qma rfl) (A6)
def AA:Tri dq Tryz.prog kB (GQ).pt:=
 ac (ag (aa BT ae)) xO (λ_=>qma rfl) (yW rfl)
def nC:∀n,Tri dq Tryz.prog fy (xJ n).pt
 | 0=>ms λx h=>by cases h
 | n+1=>ac (ag (aa AA (aa (nC n) ae))) wy (λ_=>qma rfl) (xt n rfl rfl)
def pE:∀n,Tri dq Tryz.prog gB (NE n).pt
 | 0=>ms λx h=>by obtain⟨m,h⟩:=h;cases h
 | n+1=>ac (ag (aa (pE n) ae)) xP (λ_=>qma rfl) (yX n rfl)
def rE:Tri dq Tryz.prog iz (Lp).pt:=
 ac (ag (aa (vE 50) (aa (nC 50) (aa (pE 50) ae)))) zV (λ_=>qma rfl) (A9 rfl rfl rfl)
def wT:Tri dq Tryz.prog ma (Bn).pt:=
 ac (ag (aa Zn (aa vF (aa rE ae)))) Ev (λ_=>qma rfl) (FR rfl rfl rfl)
def Gx:Tri dq Tryz.prog qJ (WF).pt:=
 ac (ag (aa wT ae)) EG (λ_=>qma rfl) (F1 rfl)
def BV:Tri dq Tryz.prog lH (WE).pt:=
 ac (ag ae) zU (λ_=>qma rfl) (A8)
def nE:Tri dq Tryz.prog eJ (Iv).pt:=
 om (ag ae) uQ (λ_=>qma rfl) (Zi)
def gh:Tri dq Tryz.prog cP (Dq).pt:=
 om (ag (aa nE ae)) sE (λ_=>qma rfl) (RV rfl)
def Fm:∀n,Tri dq Tryz.prog cA (Eb n).pt/\Tri dq Tryz.prog fZ (Sy n).pt/\Tri dq Tryz.prog dt (ND n).pt
 | 0=>⟨Im,Im,Im⟩
 | n+1=>⟨om (ag (aa (Fm n).1 (aa (Fm n).2.1 (aa gh ae)))) tV (λ_=>qma rfl) (VY n rfl rfl rfl),om (ag (aa (Fm n).1 (aa (Fm n).2.2 (aa gh (aa nE ae))))) sD (λ_=>qma rfl) (RS n rfl rfl rfl rfl),om (ag (aa (Fm n).1 (aa (Fm n).2.2 (aa gh ae)))) qB (λ_=>qma rfl) (Nd n rfl rfl rfl)⟩
def MS:Tri dq Tryz.prog vt (YM 50).pt:=
 ac (ag (aa (Fm 50).1 ae)) Jf (λ_=>qma rfl) (qhv 50 rfl)
def wL:Tri dq Tryz.prog iQ (Sz).pt:=
 ac (ag ae) uR (λ_=>qma rfl) (VZ)
def BS:Tri dq Tryz.prog cx (YL).pt:=
 ac (ag (aa BY ae)) zR (λ_=>qma rfl) (M7 rfl)
def C5:Tri dq Tryz.prog cH (YN).pt:=
 ac (ag ae) Bw (λ_=>qma rfl) (Cz)
def wS:Tri dq Tryz.prog lZ (SB).pt:=
 ac (ag (aa rE (aa GH (aa MS (aa wL (aa BV (aa C5 (aa BS ae)))))))) Eu (λ_=>qma rfl) (FP rfl rfl rfl rfl rfl rfl rfl)
def Gr:Tri dq Tryz.prog qD (Pa false).pt:=
 ac (ag (aa wS ae)) Ew (λ_=>qma rfl) (FS rfl)
def AB:Tri dq Tryz.prog kC (Pa true).pt:=
 ac (ag (aa wS ae)) xQ (λ_=>qma rfl) (yZ rfl)
def Gw:Tri dq Tryz.prog qI (O6).pt:=
 ac (ag (aa wT (aa Gr (aa AB ae)))) EF (λ_=>qma rfl) (F0 rfl rfl rfl)
def tN:Tri dq Tryz.prog eb (SP).pt:=
 ac (ag ae) zZ (λ_=>qma rfl) (Bd)
def C7:Tri dq Tryz.prog jk (GS).pt:=
 ac (ag (aa tN ae)) zY (λ_=>qma rfl) (Bc rfl)
def yC:Tri dq Tryz.prog jv (O4).pt:=
 ac (ag (aa tN (aa C7 ae))) uP (λ_=>qma rfl) (wx rfl rfl)
def nD:Tri dq Tryz.prog bP (Bm).pt:=
 ac (ag (aa GH ae)) uN (λ_=>qma rfl) (ww rfl)
def C8:Tri dq Tryz.prog nf (Lt).pt:=
 ac (ag (aa nD ae)) BC (λ_=>qma rfl) (CE rfl)
def yD:Tri dq Tryz.prog jw (SJ).pt:=
 ac (ag ae) wz (λ_=>qma rfl) (xu)
def Gu:Tri dq Tryz.prog qH (SI).pt:=
 ac (ag (aa C8 (aa yD ae))) EE (λ_=>qma rfl) (FZ rfl rfl)
def mN:∀n,Tri dq Tryz.prog bQ (Ly n).pt
 | 0=>ms λx h=>qaE h.1
 | n+1=>ac (ag (aa (mN n) ae)) uS (λ_=>qma rfl) (uw n rfl)
def nF:Tri dq Tryz.prog bQ (Ef).pt:=DX (λn=>mN n) (D8 (λx h=>h))
def li:Tri dq Tryz.prog du (zL).pt:=
 ac (ag (aa nF ae)) xZ (λ_=>qma rfl) (zi rfl)
def AG:Tri dq Tryz.prog kK (GT).pt:=
 ac (ag ae) xV (λ_=>qma rfl) (xw)
def rF:Tri dq Tryz.prog bv (IA).pt:=
 ac (ag ae) qC (λ_=>qma rfl) (rb)
def nz:Tri dq Tryz.prog dy (IB Attr (Dl [(bv,IA)])).pt:=
 ac (ag (aa rF ae)) mu (λ_=>qma rfl) (DS)
def dQ:Tri dq Tryz.prog bX (zN).pt:=
 ac (ag (aa nz ae)) sF (λ_=>qma rfl) (tQ (S0:=(Dl [(bv,IA)])) rfl rfl)
def qn:Tri dq Tryz.prog gC (Eg).pt:=
 ac (ag (aa dQ ae)) yb (λ_=>qma rfl) (zj rfl)
def AJ:Tri dq Tryz.prog kN (LB).pt:=
 ac (ag ae) yd (λ_=>qma rfl) (zn)
def gg:Tri dq Tryz.prog cO (Iw).pt:=
 ac (ag ae) sy (λ_=>qma rfl) (DR)
def qS:Tri dq Tryz.prog aV (SN).pt:=
 ac (ag (aa gg ae)) iB (λ_=>qma rfl) (pW rfl)
def AH:Tri dq Tryz.prog kL (Lx).pt:=
 ac (ag (aa qn (aa dQ (aa yC ae)))) xX (λ_=>qma rfl) (zg rfl rfl rfl)
def AI:Tri dq Tryz.prog kM (LA).pt:=
 ac (ag (aa AG (aa AH (aa Gx (aa dQ (aa Nl (aa nD (aa qS ae)))))))) yc (λ_=>qma rfl) (zl rfl rfl rfl rfl rfl rfl rfl)
def tC:Tri dq Tryz.prog bI (O8).pt:=
 ac (ag (aa AI ae)) ro (λ_=>qma rfl) (rO rfl)
def qk:∀n,Tri dq Tryz.prog aO (Lv n).pt
 | 0=>ms λx h=>by obtain⟨a,lb,_,h,_⟩:=h;cases h
 | n+1=>ac (ag (aa tC (aa (qk n) ae))) Aa (λ_=>qma rfl) (zd n rfl rfl)
def BW:Tri dq Tryz.prog aO (Lu).pt:=DX (λn=>qk n) (D8 (λx h=>h))
def iq:Tri dq Tryz.prog bD (Iz).pt:=
 ac (ag (aa nF (aa BW ae))) tX (λ_=>qma rfl) (ux rfl rfl)
def wI:Tri dq Tryz.prog iN (O5).pt:=
 ac (ag ae) uJ (λ_=>qma rfl) (Ik)
def tA:Tri dq Tryz.prog fw (O7).pt:=
 ac (ag (aa wI ae)) rj (λ_=>qma rfl) (CG rfl)
def vJ:Tri dq Tryz.prog bC (zK).pt:=
 ac (ag (aa tA ae)) tW (λ_=>qma rfl) (uv rfl)
def pT:Tri dq Tryz.prog dU (IB Region (Dl [(bC,zK)])).pt:=
 ac (ag (aa vJ ae)) oR (λ_=>qma rfl) (KW)
def nA:Tri dq Tryz.prog dz (LE Region (Dl [(bC,zK)])).pt:=
 ac (ag (aa pT ae)) mw (λ_=>qma rfl) (KX rfl)
def yE:Tri dq Tryz.prog jx (SM).pt:=
 ac (ag (aa nA ae)) wA (λ_=>qma rfl) (xx (S0:=(Dl [(bC,zK)])) rfl rfl)
def ql:∀n,Tri dq Tryz.prog bg (zJ n).pt
 | 0=>ms λx h=>qaE h
 | n+1=>
   have h1:Tri dq Tryz.prog dr (IB Cond (Dl [(bg,zJ n)])).pt:=ac (ag (aa (ql n) ae)) jc (λ_=>qma rfl) (GB);have h2:Tri dq Tryz.prog be (LE Cond (Dl [(bg,zJ n)])).pt:=ac (ag (aa h1 ae)) gx (λ_=>qma rfl) (GD rfl)
   ac (ag (aa h2 ae)) Ab (λ_=>qma rfl) (Be (S0:=(Dl [(bg,zJ n)])) n rfl rfl)
def BX:Tri dq Tryz.prog bg (Lw).pt:=DX (λn=>ql n) (D8 (λx h=>h))
def pF:∀n,Tri dq Tryz.prog bV (Lz n).pt
 | 0=>ms λx h=>qaE h.1
 | n+1=>ac (ag (aa BX (aa (pF n) ae))) xY (λ_=>qma rfl) (zh n rfl rfl)
def qm:Tri dq Tryz.prog bV (Iy).pt:=DX (λn=>pF n) (D8 (λx h=>h))
theorem jI:∀n,Tri dq Tryz.prog cF (zM n).pt
 | 0=>ms λx h=>by obtain⟨_,y,h⟩:=h;cases h
 | n+1=>
   have g1:Tri dq Tryz.prog aF (NF n).pt:=ac (ag (aa (jI n) ae)) uU (λ_=>qma rfl) (Qq n rfl);have g2:Tri dq Tryz.prog bS (SH n).pt:=ac (ag (aa g1 ae)) uT (λ_=>qma rfl) (Qp n rfl);have g3:Tri dq Tryz.prog dr (IB Cond (Dl [(aF,NF n),(bS,SH n)])).pt:=ac (ag (aa g1 (aa g2 ae))) jc (λ_=>qma rfl) (GB);have g4:Tri dq Tryz.prog be (LE Cond (Dl [(aF,NF n),(bS,SH n)])).pt:=ac (ag (aa g3 ae)) gx (λ_=>qma rfl) (GD rfl)
   ac (ag (aa g1 (aa g4 (aa qn (aa AJ (aa Gw (aa dQ (aa Gu (aa gg (aa yE ae)))))))))) ya (λ_=>qma rfl) (VX (S0:=(Dl [(aF,NF n),(bS,SH n)])) n rfl rfl rfl rfl rfl rfl rfl rfl rfl rfl rfl)
def wM:Tri dq Tryz.prog bp (LD).pt:=
 ac (ag ae) uV (λ_=>qma rfl) (Qr)
def tz:Tri dq Tryz.prog dE (IB Int (Dl [(bp,LD)])).pt:=
 ac (ag (aa wM ae)) ri (λ_=>qma rfl) (RY)
def pU:Tri dq Tryz.prog cK (LE Int (Dl [(bp,LD)])).pt:=
 ac (ag (aa tz ae)) oU (λ_=>qma rfl) (RZ rfl)
def AK:Tri dq Tryz.prog kP (qcp).pt:=
 ac (ag (aa iq (aa pU (aa (jI 21) ae)))) yf (λ_=>qma rfl) (Wb (S0:=(Dl [(bp,LD)])) rfl rfl rfl rfl)
def pG:Tri dq Tryz.prog fB (SQ).pt:=
 ac (ag (aa li (aa qm (aa iq (aa (jI 21) ae))))) wB (λ_=>qma rfl) (RW rfl rfl rfl rfl)
def Fs:Tri dq Tryz.prog pj (YO).pt:=
 ac (ag ae) CT (λ_=>qma rfl) (DQ)
def Fp:Tri dq Tryz.prog sP (NG).pt:=
 ac (ag ae) LK (λ_=>qma rfl) (M9)
def wX:Tri dq Tryz.prog mg (Bq).pt:=
 ac (ag (aa Fs (aa pG (aa Fp ae)))) EC (λ_=>qma rfl) (Qo rfl rfl rfl)
def vI:Tri dq Tryz.prog kI (Ee).pt:=
 ac (ag ae) CS (λ_=>qma rfl) (DP)
def Gt:Tri dq Tryz.prog qG (Ls).pt:=
 ac (ag (aa eC ae)) ED (λ_=>qma rfl) (FX rfl)
end Go.Gv
namespace Go.Gv
open Go.Proofs
def iW:CC:=gq Tryz.f21 [1] { cu:=[4],ke:=[3,990] } _
def iI:List aj:=[.tmp 2]
def wC:aq Tryz.prog jy [1] iW iI 10:=fo
def dP:CC:=gq Tryz.f41 [2] { ke:=[0,990] } _
def dO:List aj:=[.tmp 3]
def tY:aq Tryz.prog bi [2] dP dO 19:=fo
def jG:CC:=gq Tryz.f18 [1] {} _
def jt:List aj:=[.cell 2 true 7]
def ye:aq Tryz.prog kO [1] jG jt 8:=fo
def fJ:CC:=oX [oB 2 (.box cI true (oT 0)),oB 4 (.mv (oN 0))] [1,2] [0,990] (.seq (oX [oA 9 1,oD 10 7 2,oB 11 (.callv (oT 9) [oT 10]),oA 5 11] [1,2,5] [0,990] (oX [oA 12 5,oB 13 (.eql true false [.int] (oT 12) (oN 0))] [1,2,5,13] [0,990] (.ite (oT 13) (oX [oA 14 5,oA 4 14] [4] [0,990] (.ret)) (.skip)))) (.keep [1,2] [0,990] (.seq (oX [oE 15 6 2,oC 16 1 15,
 oB 17 (.len (oT 16)),oB 18 (.mv (oN 0))] [1,16,17,18] [0,990] (ki 0 18 17 19 1 (oX [oB 20 (.iaddr 7 (oT 16) (oT 18)),oD 21 7 20,oB 7 (.alloc cI [oi,oe,oe,oe,oe,ob,on]),oF 7 7 21] [1,7,16,17,18] [0,990,7] (oX [oD 22 7 7,oA 23 1,oZ 24 aO [oT 22,oT 23],oA 8 24] [1,8,16,17,18] [0,990] (oX [oA 25 8,
 oB 26 (.eql true false [.int] (oT 25) (oN 0))] [1,8,16,17,18,26] [0,990] (.ite (oT 26) (oX [oA 27 8,oA 4 27] [4] [0,990] (.ret)) (.skip))))) 28)) (.keep [] [0,990] (oX [oB 4 (.mv (oN 0))] [4] [0,990] (.ret))))))
def fk:List aj:=[.tmp 4]
def xU:aq Tryz.prog aO [2] fJ fk 29:=fo
open Cod (enc dec)
variable {dq:Prop}
structure OP (Z:Type) where
 dec:Nat->Nat->List D->Option Z
 view:Nat->Z->List D
 le:∀id b ds z,dec id b ds=some z->LeL ds (view b z)
section
variable {X Y Z:Type}
def qen(B:yI X)(A:OP Z)(er:Y->D)(pre:X->Z->Prop)(post:X->Z->X->Y->Prop):PT:=λd ds H K=>∃id b x z,A.dec id b ds=some z/\H id=some (.box b (B.ce x))/\(∀p∈B.hp x,H p.1=some p.2)/\id∉B.ids/\pre x z/\
 ∀x' y,post x z x' y->K (er y) (ai (eB (B.hp x') H) id (some (.box b (B.ce x'))))
def U6(B:yI X)(A:OP Z)(er:Y->D)(pre:X->Z->Prop)(post:X->Z->X->Y->Prop):pJ (qen B A er pre post):=λd ds H K K' hk ⟨id,b,x,z,h2,h3,h4,h5,h6,h7⟩=>⟨id,b,x,z,h2,h3,h4,h5,h6,λx' y hp=>hk _ _ (h7 x' y hp)⟩
def qjI(B:yI X)(A:OP Z)(er:Y->D)(pre:X->Z->Prop)(post:X->Z->X->Y->Prop):Spc:= .gen _ (U6 B A er pre post)
def OE(cc:CC)(rs:List aj)(S:Nat->Spc)(B:yI X)(A:OP Z)(er:Y->D)(pre:X->Z->Prop)(post:X->Z->X->Y->Prop):Prop:=
 ∀b x z,pre x z->vc S cc (nQ rs λr H'=>Co B er b (post x z) r H') (cE (A.view b z)) (ai (eB (B.hp x) cw) 0 (some (.box b (B.ce x))))
variable {P:Program}{S:Nat->Spc}{f:Nat}{im:List Nat}{cc:CC}{rs:List aj}{N:Nat}
theorem DV{B:yI X}{A:OP Z}{er:Y->D}{pre:X->Z->Prop}{post:X->Z->X->Y->Prop}(h1i:0∉B.ids)(hS:∀f,Tri dq P f (S f).pt)(h:aq P f im cc rs N)(hN:∀b z,(A.view b z).length<=N)(hw:OE cc rs S B A er pre post):Tri dq P f (qjI B A er pre post).pt:=by
 obtain⟨pR,enter,fn,code,h1,h2,h3,h4,h5⟩:=h;refine iv hS pR h1 h2 enter h3 h4 h5 ?_;rintro ds H d K ⟨id,b,x,z,hd,hid,hhp,hni,hp,hK⟩;have hl:=A.le id b ds z hd;have h0:∀i r,ai (eB (B.hp x) cw) 0 (some (.box b (B.ce x))) i=some r->i=0/\r= .box b (B.ce x)\/i≠0/\(i,r) ∈B.hp x:=by
  intro i r h;by_cases e:i=0
  ·subst e;simp only[ai,if_true]at h;cases h;exact .inl ⟨rfl,rfl⟩
  ·simp only[ai,e,if_false]at h;exact .inr ⟨e,Fy h⟩
 have hk:∀ {x:X} {i:Nat} {r:Res},(i,r) ∈B.hp x->i∈B.ids:=by
  intro x i r h;rw[<-B.keys x];exact qmo.2 ⟨_,h,rfl⟩
 refine⟨by rw[hl.1];exact hN b z,A.view b z,ai (eB (B.hp x) cw) 0 (some (.box b (B.ce x))),λi=>if i=0 then id else i,hl,λi r h=>?_,λi j r s h h' e=>?_,_,hw b x z hp,?_⟩
 ·rcases h0 i r h with⟨rfl,rfl⟩|⟨e,hm⟩
  ·exact hid
  ·simp only[e,if_false];exact hhp _ hm
 ·rcases h0 i r h with⟨rfl,rfl⟩|⟨e1,hm⟩
  ·rcases h0 j s h' with⟨rfl,rfl⟩|⟨e2,hm2⟩
   ·rfl
   ·simp only[e2,if_true,if_false]at e;subst e;exact absurd (hk hm2) hni
  ·rcases h0 j s h' with⟨rfl,rfl⟩|⟨e2,hm2⟩
   ·simp only[e1,if_true,if_false]at e;subst e;exact absurd (hk hm) hni
   ·simpa only[e1,e2,if_false]using e
 ·rintro r H' ⟨x',y,hfr,hj,hhp',hpost⟩;refine⟨er y,λi=>if i=0\/i∈B.ids then none else H' i,ai (eB (B.hp x') H) id (some (.box b (B.ce x'))),λi=>if i=id then some 0 else if i∈B.ids then some i else none,hfr,λj q h=>?_,hK x' y hpost,λi s hi=>?_,λi j' k s q hi hj' e1 e2=>?_⟩
  ·by_cases e:j=0\/j∈B.ids
   ·simp[e]at h
   ·simp only[e,if_false]at h;refine⟨h,λi hh=>e ?_⟩;by_cases e1:i=id
    ·simp only[e1,if_true]at hh;cases hh;exact .inl rfl
    ·simp only[e1,if_false]at hh;by_cases e2:i∈B.ids
     ·simp only[e2,if_true]at hh;cases hh;exact .inr e2
     ·simp[e2]at hh
  ·by_cases e:i=id
   ·subst e;simp only[ai,if_true]at hi;cases hi;simpa using hj
   ·simp only[ai,e,if_false]at hi ⊢;by_cases e2:i∈B.ids
    ·simp only[e2,if_true];exact hhp' _ (Fz (by rw[B.keys];exact e2) hi)
    ·simp only[e2,if_false];rw[Fx (by rw[B.keys];exact e2)]at hi;refine⟨hi,λk q h he=>?_⟩;rcases h0 k q h with⟨rfl,rfl⟩|⟨e3,hm⟩
     ·simp only[if_true]at he;exact e he.symm
     ·simp only[e3,if_false]at he;subst he;exact e2 (hk hm)
  ·by_cases c1:i=id
   ·by_cases c2:j'=id
    ·exact c1.trans c2.symm
    ·simp only[c1,if_true]at e1;cases e1;simp only[c2,if_false]at e2;by_cases c3:j'∈B.ids
     ·simp only[c3,if_true]at e2;cases e2;exact absurd c3 h1i
     ·simp[c3]at e2
   ·simp only[c1,if_false]at e1;by_cases c3:i∈B.ids
    ·simp only[c3,if_true]at e1;cases e1;by_cases c2:j'=id
     ·simp only[c2,if_true]at e2;cases e2;exact absurd c3 h1i
     ·simp only[c2,if_false]at e2;by_cases c4:j'∈B.ids
      ·simp only[c4,if_true]at e2;cases e2;rfl
      ·simp[c4]at e2
    ·simp[c3]at e1
end
end Go.Gv
namespace Go.Gv
open Cod (enc dec)
section
variable {S:Nat->Spc}{σ:Sg}{H Hr:ab}{K:D->ab->Prop}
end
section
variable {X:Type}[Cod X][DecidableEq X]
end
open Go.Proofs
variable {S S0:Nat->Spc}
def ba(l:List B)(x:Cond):List B:=if x.op=4/\gA l x.lab=false then l++ [x.lab]else l
mutual
def nT(l:List B):Cond->List B| .mk op n a v lb f ks=>gz (ba l (.mk op n a v lb f ks)) ks
def gz(l:List B):List Cond->List B|[]=>l|k::ks=>gz (nT l k) ks
end
def gU:∀ (ks:List Cond) (l:List B),gz l ks=ks.foldl nT l
 | [],l=>by rw[gz];rfl
 | k::ks,l=>by rw[gz,gU ks];rfl
def Dt(l:List B)(x:Cond):nT l x=x.kids.foldl nT (ba l x):=by cases x;rw[nT,gU]
structure Zb where
 v:Value
 l:List B
def qjk(v:Value):List D:=[.own 990 v]
def qhQ(v:Value)(l:List B):Res:= .row v ar 1 (l.map enc)
def Pg:yI Zb:=⟨[990],λx=>qjk x.v,λx=>[(990,qhQ x.v x.l)],λ_=>rfl⟩
def qjY:OP Cond:=⟨λid b ds=>match ds with
 | [c, .bptr i b' 0]=>if i=id/\b'=b then dec c else none
 | _=>none,λb x=>[enc x, .bptr 0 b 0],λid b ds z h=>by
   split at h
   ·split at h
    ·rename_i e;obtain⟨rfl,rfl⟩:=e;exact .cons (Cod.le _ _ h) (.cons (.bptr _ _ _ _) .nil)
    ·cases h
   ·cases h⟩
def qjX:OP Cond:=⟨λid b ds=>match ds with
 | [c, .clo f [.bptr i b' 0]]=>if i=id/\b'=b/\f=bi then dec c else none
 | _=>none,λb x=>[enc x, .clo bi [.bptr 0 b 0]],λid b ds z h=>by
   split at h
   ·split at h
    ·rename_i e;obtain⟨rfl,rfl,rfl⟩:=e;refine .cons (Cod.le _ _ h) (.cons (.clo rfl λk c c' h1 h2=>?_) .nil)
     match k with
     | 0=>cases h1;cases h2;exact .bptr _ _ _ _
     | k+1=>simp at h1
    ·cases h
   ·cases h⟩
def Vw(x:Zb)(z:Cond):Prop:=x.l.length<=1000
def OH(x:Zb)(z:Cond)(x':Zb)(y:Int):Prop:=y=0/\x'.l=ba x.l z
noncomputable abbrev s_lab1:Spc:=qjI Pg qjY (enc (X:=Int)) Vw OH
def Vv(n:Nat)(x:Zb)(z:Cond):Prop:=aA z<=n/\x.l.length+aJ z<=1000
def OG(x:Zb)(z:Cond)(x':Zb)(y:Int):Prop:=y=0/\x'.l=nT x.l z
noncomputable abbrev Bp(n:Nat):Spc:=qjI Pg qjX (enc (X:=Int)) (Vv n) OG
abbrev b_conS:Spc:=qeo (Y:=B) (a1 B) (λ_=>True) (enc (X:=Bool)) (λx y=>y=gA x.1 x.2) ar 1
def xz(h1:S cO=Iw):av cL cJ S (aE (List B) (a1 B)) (λ_=>True) (enc (X:=Bool)) λx y=>y=gA x.1 x.2:=by
 rintro⟨l,s⟩ -;exact pW h1 (l,s) trivial
def PA{b:Nat}{post:Zb->Int->Prop}{H:ab}(y:Int)(v:Value)(l:List B)(h0:H 0=some (.box b [.own 990 v]))(h1:H 990=some (.row v ar 1 (l.map enc)))(hq:post ⟨v,l⟩ y):Co Pg (enc (X:=Int)) b post (.v (.int .i64 y)) H:=
 ⟨⟨v,l⟩,y, .same _,h0,λp hp=>by
  simp only[Pg,qmw,qmM,or_false]at hp;subst hp;exact h1,hq⟩
theorem Nh(h1:S aV=b_conS):OE dP dO S Pg qjY (enc (X:=Int)) Vw OH:=by
 rintro b ⟨v,l⟩ x hl;have hl:l.length<=1000:=hl;show vc S dP (nQ dO λr H'=>Co Pg (enc (X:=Int)) b (OH ⟨v,l⟩ x) r H') (cE [enc x, .bptr 0 b 0]) (ai (ai cw 990 (some (.row v ar 1 (l.map enc)))) 0 (some (.box b [.own 990 v])));simp[dP,dO,h1, -Bool.forall_bool, -Bool.exists_bool];refine⟨λh4=>⟨λhh=>⟨by omega,by omega,λv1=>?_⟩,λhh=>?_⟩,λh4=>?_⟩
 ·refine PA 0 v1 (l++ [x.lab]) rfl (by simp[ai]) ⟨rfl,?_⟩;show l++ [x.lab]=ba l x;unfold ba;rw[if_pos ⟨h4,hh⟩]
 ·refine PA 0 v l rfl (by simp[ai]) ⟨rfl,?_⟩;show l=ba l x;unfold ba;rw[if_neg (by simp[hh])]
 ·refine PA 0 v l rfl (by simp[ai]) ⟨rfl,?_⟩;show l=ba l x;unfold ba;rw[if_neg (by simp[h4])]
def TR{d i b:Nat}{v:Value}{l:List B}{x:Cond}{c:D}{H:ab}{K:D->ab->Prop}(hc:c=enc x)(hi:i≠990)(h0:H i=some (.box b [.own 990 v]))(h1:H 990=some (.row v ar 1 (l.map enc)))(hl:l.length<=1000)
 (hK:∀v',K (.v (.int .i64 0)) (ai (ai H 990 (some (.row v' ar 1 ((ba l x).map enc)))) i (some (.box b [.own 990 v'])))):s_lab1.pt d [c, .bptr i b 0] H K:=by
 subst hc;refine⟨i,b,⟨v,l⟩,x,by simp[qjY],h0,λp hp=>?_,by simp[Pg,hi],hl,?_⟩
 ·simp only[Pg,qmw,qmM,or_false]at hp;subst hp;exact h1
 ·rintro⟨v',l'⟩ y ⟨rfl,e⟩;simp only at e;subst e;exact hK v'
def LZ{n d i b:Nat}{v:Value}{l:List B}{x:Cond}{c:D}{H:ab}{K:D->ab->Prop}(hc:c=enc x)(hi:i≠990)(h0:H i=some (.box b [.own 990 v]))(h1:H 990=some (.row v ar 1 (l.map enc)))(hd:aA x<=n)(hl:l.length+aJ x<=1000)
 (hK:∀v',K (.v (.int .i64 0)) (ai (ai H 990 (some (.row v' ar 1 ((nT l x).map enc)))) i (some (.box b [.own 990 v'])))):(Bp n).pt d [c, .clo bi [.bptr i b 0]] H K:=by
 subst hc;refine⟨i,b,⟨v,l⟩,x,by simp[qjX],h0,λp hp=>?_,by simp[Pg,hi],⟨hd,hl⟩,?_⟩
 ·simp only[Pg,qmw,qmM,or_false]at hp;subst hp;exact h1
 ·rintro⟨v',l'⟩ y ⟨rfl,e⟩;simp only at e;subst e;exact hK v'
def lR(l:List B)(x:Cond):(ba l x).length<=l.length+1:=by
 unfold ba;split <;> simp
mutual
def TQ(l:List B):∀x:Cond,(nT l x).length<=l.length+aJ x
 | .mk op n a v lb f ks=>by
   rw[nT,ej];have h1:=rv (ba l (.mk op n a v lb f ks)) ks;have h2:=lR l (.mk op n a v lb f ks);have h3:(Cond.mk op n a v lb f ks).kids=ks:=rfl;rw[h3];omega
def rv(l:List B):∀ks:List Cond,(gz l ks).length<=l.length+cv ks
 | []=>by simp[gz]
 | k::ks=>by
   rw[gz,cv];have h1:=TQ l k;have h2:=rv (nT l k) ks;omega
end
def ym(l:List B):∀ (ks:List Cond) (k:Cond),gz l (ks++ [k])=nT (gz l ks) k:=λks k=>by
 rw[gU,gU,List.foldl_append];rfl
theorem VT(n:Nat)(h1:S bi=s_lab1)(h2:S aO=Bp n):OE fJ fk S Pg qjX (enc (X:=Int)) (Vv (n+1)) OG:=by
 rintro b ⟨v,l⟩ x ⟨hd,hl⟩;have hl:l.length+aJ x<=1000:=hl;show vc S fJ (nQ fk λr H'=>Co Pg (enc (X:=Int)) b (OG ⟨v,l⟩ x) r H') (cE [enc x, .clo bi [.bptr 0 b 0]]) (ai (ai cw 990 (some (.row v ar 1 (l.map enc)))) 0 (some (.box b [.own 990 v])));simp[fJ,fk,h1, -Bool.forall_bool, -Bool.exists_bool];have hn:=ej x;refine TR (v:=v) (l:=l) (x:=x) (by simp) (by decide) (by simp[ai]) (by simp[ai]) (by omega) λv'=>?_
 simp[-Bool.forall_bool, -Bool.exists_bool];intro hkl;have hal:=lR l x;refine ak (X:=Value×List B) [1,16] [] x.kids.length (λk z=>z.2=gz (ba l x) (x.kids.take k)) (λ_=>[]) (λz=>[(0, .box b [.own 990 z.1]),(990, .row z.1 ar 1 (z.2.map enc))]) (v',ba l x) (by simp) (by simp) (by omega) (by simp) (by simp) (by simp[gz]) (by simp) (by simp) ?_ ?_
 ·rintro k ⟨v2,l2⟩ hk hP;obtain⟨y,hy⟩:=bL hk;obtain⟨_,hgy⟩:=qmb.1 hy;have hm:=qme hy;have hP:l2=gz (ba l x) (x.kids.take k):=hP;simp[h2,hk,hy,hgy, -Bool.forall_bool, -Bool.exists_bool];have hdy:aA y<=n:=by
   have h3:=rG hm;have h4:aA x=eA x.kids+1:=by cases x;rw[aA]
   omega
  have hln:l2.length+aJ y<=1000:=by
   have h3:=rv (ba l x) (x.kids.take k);have h4:cv (x.kids.take k) +aJ y<=cv x.kids:=by
    have e:x.kids=x.kids.take k++y::x.kids.drop (k+1):=by
     have h5:=(qmb.1 hy).2;rw[<-h5,<-qmW hk,qm0]
    have h6:=congrArg cv e;rw[rr,cv]at h6;omega
   rw[<-hP]at h3;omega
  refineλb7=>LZ (n:=n) (v:=v2) (l:=l2) (x:=y) (by simp) (by decide) (by simp[ai]) (by simp[ai]) hdy hln λv3=>?_
  simp[-Bool.forall_bool, -Bool.exists_bool];exact .inl (.inl (by rw[hP,aK hy,ym]))
 ·rintro⟨v2,l2⟩ hP;have hP:l2=gz (ba l x) (x.kids.take x.kids.length):=hP;rw[qmJ]at hP;simp[-Bool.forall_bool, -Bool.exists_bool];refine PA 0 v2 l2 rfl (by simp[ai]) ⟨rfl,?_⟩;show l2=nT l x;rw[hP,Dt,gU]
abbrev s_Labels:Spc:=aY (a1 Cond) (λx=>aJ x<=60/\aA x<=60) (enc (X:=List B)) λx y=>y=nT [] x
theorem RX(h1:S du=zL)(h2:S aO=Bp 60):av iW iI S (a1 Cond) (λx=>aJ x<=60/\aA x<=60) (enc (X:=List B)) λx y=>y=nT [] x:=by
 rintro x ⟨hn,hd⟩;simp[iW,iI,h1,hn,hd, -Bool.forall_bool, -Bool.exists_bool];refine jO (X:=Nat) [1] [] [] [] (λ_=>True) (λb=>[(3, .bptr 3 b 0)]) (λb=>[(3, .box b [.own 990 (.slice none 0 0)]),(990, .row (.slice none 0 0) ar 1 [])]) [3,990] (λ_=>rfl) (by decide) ?_ ?_
 ·simp[-Bool.forall_bool, -Bool.exists_bool];refineλb=>⟨b, .same _, .inl ?_,by simp[isNilRow]⟩
  simp;exact .nilown 990
 ·rintro b -;simp[h2, -Bool.forall_bool, -Bool.exists_bool];refine LZ (n:=60) (v:= .slice none 0 0) (l:=[]) (x:=x) (by simp) (by decide) (by simp[ai]) (by simp[ai]) hd (by simp;omega) λv=>?_
  simp[-Bool.forall_bool, -Bool.exists_bool];exact cp (nT [] x) (iM ar (by simp[ai])) rfl
abbrev s_Loose:Spc:=aY (a1 Cond) (λx=>aJ x<=60/\aA x<=60) (enc (X:=Cond)) λx y=>y=bG x
def V9(h1:S du=zL)(h2:S bV=Iy):av jG jt S (a1 Cond) (λx=>aJ x<=60/\aA x<=60) (enc (X:=Cond)) λx y=>y=bG x:=by
 rintro x ⟨hn,hd⟩;have hp:∃n,aA x<=n/\aJ x<=60:=⟨60,hd,hn⟩
 simp[jG,jt,h1,h2,hn,hd,hp, -Bool.forall_bool, -Bool.exists_bool];exactλb=>⟨⟨60,hd⟩,cp (bG x) (by simp) rfl⟩
end Go.Gv
