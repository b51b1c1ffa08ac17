/- A part of the framework and of the walks: W19 Asm C2 C59 C71 V2 C57. -/
import Derived.Test.YtfbleenmepoodaaGreatDoorGa24
set_option linter.unusedSimpArgs false
set_option linter.unusedVariables false
set_option linter.unusedSectionVars false
set_option linter.defProp false
set_option maxRecDepth 100000
set_option maxHeartbeats 0
namespace Go.Gv
open Cod (enc dec)
variable {S S0:Nat->Spc}
abbrev s_m_nodes:Spc:=qeA qdh Uu uH H5
abbrev s_m_heads:Spc:=qeA Uu qbb uH NU
def RK{H:aa}{id el n:Nat}{v:Value}{d d':D}(h:H id=some (.row v el n [d]))(hd:FrzTo H d d')(hk:d'.kn=true/\d'.cells.length=n):FrzTo H (.own id v) (.list n [d']):=by
 refine .row h rfl (λe he=>?_) (λk c c' h1 h2=>?_)
 ·simp at he;subst he;exact hk
 ·cases k with
  | zero=>simp at h1 h2;subst h1;subst h2;exact hd
  | succ k=>simp at h1
def Ru(l:List Int):List D:=l.map enc
def qaF(a b c d e f g h:Int):D.list 1 [.v (.int .i64 a), .v (.int .i64 b), .v (.int .i64 c), .v (.int .i64 d), .v (.int .i64 e), .v (.int .i64 f), .v (.int .i64 g), .v (.int .i64 h)]= .list 1 (Ru [a,b,c,d,e,f,g,h]):=id rfl
def Rt(l:List Int):(Ru l).length=l.length:=by simp[Ru]
def UI(l:List Int)(i:Nat)(d:D):((Ru l)[i]? =some d)=∃s,l[i]? =some s/\ .v (.int .i64 s)=d:=by
 simp[Ru]
def PZ{l:List (List B)}{r:List B}(h:∀x∈l,zg x)(hr:zg r):∀x∈l++ [r],zg x:=λx hx=>by
 rcases qjM.1 hx with hx|hx
 ·exact h x hx
 ·rw[qkL]at hx;rw[hx];exact hr
theorem Gf(h1:S cL=s_m_Next)(h2:S nO=s_m_Attributes)(h3:S Du=s_m_word)(h4:S HB=s_m_tag)(h5:S rF=s_m_features)
 (h6:S tU=s_m_Type) (h7:S jH=s_r06_SortRegions) (h8:S nM=s_m_nodes) (h9:S nN=s_m_heads):
 ax iY iM S (aT (a2 B Int)) (λx=>1<=x.2.2/\x.2.2<=1000) (enc (X:=Corpus)) (λx c=>K9 c/\Ib c/\(c.toks.length:Int)<=x.2.2):=by
 rintro⟨L,name,most⟩ hm;have hm:1<=most/\most<=1000:=hm;simp[iY,iM,h1,h2];refineλb6=>⟨by omega,λy hy=>⟨by simp only[InR];omega,trivial,λat_ hat v26 b8=>?_⟩⟩
 have hal:at_.length=3:=by rw[show at_=dC from hat];rfl
 obtain⟨n,hn0,hn⟩:∃n:Nat,1+y=(n:Int)/\1<=n/\n<=1000:=⟨(1+y).toNat,by omega,by omega⟩
 rw[hn0];refine kW (X:=un) [0,6,7,8] [6] [26] [] (λt=>t.b=0/\t.e=n) (λ_=>[]) (λt=>[(8, .box b8 [enc at_, .v (.slice none 0 0),enc [t], .v (.slice none 0 0), .v (.slice none 0 0), .v (.slice none 0 0), .v (.slice none 0 0)])]) [8] (λ_=>rfl) (by decide) ?_ ?_
 ·simp[h1,P6,lw,oR];refineλz _ _=>⟨λ_ u hu0 hu1=>⟨hu0,hu1,λs _=>⟨⟨name,0,n, [⟨⟨#[121,101,97,114]⟩,s⟩]⟩,⟨rfl,rfl⟩, .inl (RK (el:=ux) (by simp[L3]) (.same _) ⟨rfl,rfl⟩)⟩⟩,λ_=>⟨⟨name,0,n, []⟩,⟨rfl,rfl⟩, .inl (RK (el:=ux) (by simp[L3];rfl) ?_ ⟨rfl,rfl⟩)⟩⟩
  rw[cS,cS,cS,cS];exact⟨.same _, .same _, .same _, .nil _, .same _⟩
 ·rintro t ⟨ht1,ht2⟩;refine kW (X:=List (List B)) [0,6,7,8] [6] [66] [] (λl=>l.length=n/\∀r∈l,zg r) (λ_=>[]) (λl=>[(8, .box b8 [enc at_,enc l,enc [t], .v (.slice none 0 0), .v (.slice none 0 0), .v (.slice none 0 0), .v (.slice none 0 0)])]) [8] (λ_=>rfl) (by decide) ?_ ?_
  ·simp[h1];refine uw (X:=Int×Value×List (List B)) [0,6,7,8] [6] [] [] [] [] (λx=>0<=x.1/\x.1<=n/\(x.2.2.length:Int)=x.1/\∀r∈x.2.2,zg r) (λx=>[(9,enc x.1)]) (λx=>[(8, .box b8 [enc at_, .own 66 x.2.1,enc [t], .v (.slice none 0 0), .v (.slice none 0 0), .v (.slice none 0 0), .v (.slice none 0 0)]),(66, .row x.2.1 oQ 1 (x.2.2.map enc))]) (λx=>n -x.1.toNat) (0, .slice none 0 0, []) [8,66] (λ_=>rfl) (by decide) (by decide) ?_ ?_ ?_ ?_
   ·simp
   ·simp
   ·simp[isNilRow];exact .nilown 66
   ·rintro⟨i,v,l⟩ ⟨q1,q2,q3,q4⟩;simp only at q1 q2 q3 q4;simp[h1,h3,h4,h5,qaF,Rt,UI];refine⟨λhi y hy0 hy1=>?_,λhi=>⟨l,⟨by omega,q4⟩, .inl (jD oQ (by simp[L3]))⟩⟩;have a1:y.tmod 8=y % 8:=Int.tmod_eq_emod_of_nonneg hy0;have a2:y.tdiv 8=y/8:=Int.tdiv_eq_ediv_of_nonneg hy0;have a3:(y/8).tmod 2=(y/8) % 2:=Int.tmod_eq_emod_of_nonneg (by omega);have a4:y.tdiv 12=y/12:=Int.tdiv_eq_ediv_of_nonneg hy0;rw[a1,a2,a3,a4];refine⟨by omega,by omega,λs hs=>⟨?_,λw1 hw1=>⟨by simp only[InR];omega,by omega,λw2 hw2=>⟨by simp only[InR];omega,by omega,λw3 hw3=>⟨by omega,by omega,λv2=>⟨by simp only[InR];omega,i+1,v2,l++ [[w1,w2,w3]],⟨by omega,by omega,by simp;omega,PZ q4 ⟨w1,w2,w3,hw1,hw2,hw3,rfl⟩⟩,⟨rfl, .inl (.inl rfl), .inl (.inl (by simp))⟩,by omega⟩⟩⟩⟩⟩⟩;have:=qjD hs;simp at this;omega
  ·rintro toks ⟨htk,hto⟩;refine kW (X:=List Region) [0,6,7,8] [6,8] [165] [] (λl=>l.length<=8/\∀r∈l,0<=r.b/\r.b<=n/\0<=r.e/\r.e<=n) (λl=>[(11,enc l)]) (λ_=>[]) [] (λ_=>rfl) (by decide) ?_ ?_
   ·simp[h1];intro k hk0 hk1;refine uw (X:=Int×Value×List Region) [0,6,7,8] [6,8] [] [] [] [] (λx=>0<=x.1/\x.1+x.2.2.length<=4/\∀r∈x.2.2,0<=r.b/\r.b<=n/\0<=r.e/\r.e<=n) (λx=>[(11, .own 165 x.2.1),(12,enc x.1)]) (λx=>[(165, .row x.2.1 je 4 (x.2.2.map enc))]) (λx=>x.1.toNat) (k, .slice none 0 0, []) [165] (λ_=>rfl) (by decide) (by decide) ?_ ?_ ?_ ?_
    ·simp;omega
    ·simp;exact .nilown 165
    ·simp[isNilRow]
    ·rintro⟨k,v,l⟩ ⟨q1,q2,q3⟩;simp only at q1 q2 q3;simp[h1,h6];refine⟨λhk=>⟨by omega,λu hu z _ _=>⟨trivial,λty=>⟨by simp only[InR];omega,by simp only[InR];omega,by omega,λw hw=>⟨by simp only[InR];omega,λb14=>?_⟩⟩⟩⟩,λhk=>⟨l,⟨by omega,q3⟩,jD je (by simp[L3])⟩⟩;have hr:0<=u/\u<=n/\0<=u+1+w/\u+1+w<=n:=by omega
     generalize u+1+w=e' at*;refine kW (X:=List Pair) [0,6,7,8,11,12,14] [6,8,165] [] [] (λ_=>True) (λ_=>[]) (λkv=>[(14, .box b14 [.v (.string ty), .v (.int .i64 u), .v (.int .i64 e'),enc kv])]) [14] (λ_=>rfl) (by decide) ?_ ?_
     ·simp[h1,I3,lw,oR];exactλ_ _ _ _ q hq0 hq1=>⟨hq0,hq1,λs _=>⟨[⟨⟨#[110]⟩,s⟩], .inl (.inl rfl)⟩⟩
     ·rintro kv -;simp only[Xq,UC];simp;refine cm (X:=Bool) [0,6,7,8,11,12,14] [6,8,14,165] (λ_=>True) (λx=>[(15,enc x)]) (λ_=>[]) ?_ ?_
      ·simp[-Bool.exists_bool];intro _;refine am (X:=Bool) [0,6,7,8,11,12,14,101] [6,8,14,165] l.length (λ_ _=>True) (λx=>[(15,enc x)]) (λ_=>[]) false (by simp) (by simp) (by omega) (by simp) (by simp) trivial (by simp) (by simp) ?_ ?_
       ·rintro j cr hj -;obtain⟨x,hx⟩:=eM hj;obtain⟨_,hgx⟩:=qjA.1 hx;simp[hj,hx,hgx, -Bool.exists_bool];exactλ_ _ _ _=>⟨λ_ _ _=>⟨_,(Bool.not_not _).symm⟩,λ_ _=>⟨_,(Bool.not_not _).symm⟩⟩
       ·rintro cr -;simp[-Bool.exists_bool]
      ·rintro cr -;simp[-Bool.exists_bool];refine⟨λ_=>⟨by omega,by omega,λv2=>⟨by simp only[InR];omega,k -1,v2,l++ [⟨ty,u,e',kv⟩],⟨by omega,by simp;omega,λr hrr=>?_⟩,⟨⟨.same _,rfl⟩, .inl (.inl (by simp))⟩,by omega⟩⟩,λ_=>⟨by simp only[InR];omega,k -1,v,l,⟨by omega,by omega,q3⟩,⟨⟨.same _,rfl⟩, .inl (.inl rfl)⟩,by omega⟩⟩;rcases qjM.1 hrr with hrr|hrr
       ·exact q3 r hrr
       ·simp at hrr;subst hrr;exact hr
   ·rintro rg ⟨hr1,hr2⟩;simp[h7,h8];refine⟨by simp only[MF];omega,λrs ⟨hs1,hs2⟩=>⟨⟨at_,toks, [t],rs, [], [], []⟩,by simp[qdh],by simp only[uH];omega,λc hc=>?_⟩⟩;obtain⟨ns,rfl,hns,hnd⟩:=hc;simp only at hnd;simp[Uu];refine kW (X:=List Int×List B) [6,8] [6] [] [] (λx=>x.1.length<=n/\x.2.length<=n/\∀h∈x.1,h<=n) (λ_=>[]) (λx=>[(8, .box b8 [enc at_,enc toks,enc [t],enc rs,enc ns,enc x.1,enc x.2])]) [8] (λ_=>rfl) (by decide) ?_ ?_
    ·simp[h1,h9];refineλz _ _=>⟨λ_=>⟨⟨at_,toks, [t],rs,ns, [], []⟩,by simp[Uu],by simp only[uH];omega,λc hc=>?_⟩,λ_=>⟨[], [],⟨by simp,by simp,by simp⟩, .inl ⟨rfl,rfl⟩⟩⟩
     obtain⟨hs,rl,rfl,g1,g2,g3⟩:=hc;simp only at g1 g2 g3;simp[qbb];exact⟨hs,rl,⟨by omega,by omega,λh hh=>by have:=g3 h hh;omega⟩, .inl (.inl ⟨rfl,rfl⟩)⟩
    ·rintro⟨hs,rl⟩ ⟨p1,p2,p3⟩;simp only at p1 p2 p3;simp;refine dm ⟨at_,toks, [t],rs,ns,hs,rl⟩ (.same _) ⟨?_,⟨hat,hto⟩,by show(toks.length:Int)<=most;omega⟩;refine⟨⟨ht1,by omega,by show t.e=(toks.length:Int);omega⟩,by simp,by simp only;omega,by simp,by simp only;omega,by simp only;omega,by simp only;omega,by simp only;omega,by simp only;omega,λr hr=>?_,λm hm=>?_,hnd.2,λh hh=>?_⟩
     ·have:=hr2 r (hs2 r hr);simp only;omega
     ·have:=hnd.1 m hm;simp only;omega
     ·have:=p3 h hh;simp only;omega
end Go.Gv
namespace Go.Gv
open Go.Proofs
variable {dq:Prop}
def Gq:Tri dq Tryz.prog ph s_m_Mod.pt:=
 ac (ag ae) Q0 (λ_=>qjz rfl) (Tq)
def ed:Tri dq Tryz.prog cL s_m_Next.pt:=PX (S:=DW [(ph,s_m_Mod)]) (ag (ab Gq ae)) rfl CZ (by decide)
def TP:Tri dq Tryz.prog HC s_m_New.pt:=TK (Ls (ag ae) QZ (by decide) Tp)
def AJ:Tri dq Tryz.prog lH s_r04_First.pt:=
 ac (ag ae) G3 (λ_=>qjz rfl) (IG)
def LB:Tri dq Tryz.prog rE s_r04_Next.pt:=
 ac (ag (ab AJ ae)) JK (λ_=>qjz rfl) (Lg rfl)
def dN:Tri dq Tryz.prog aK s_r04_ValidName.pt:=
 ac (ag (ab AJ (ab LB ae))) Aa (λ_=>qjz rfl) (A8 rfl rfl)
def I2:Tri dq Tryz.prog lJ s_r01_Units.pt:=
 ac (ag ae) G5 (λ_=>qjz rfl) (IJ)
def I1:Tri dq Tryz.prog lI s_r01_Valid.pt:=
 ac (ag (ab I2 ae)) G4 (λ_=>qjz rfl) (II rfl)
def kw:Tri dq Tryz.prog bb s_r04_ValidValue.pt:=
 ac (ag (ab I1 ae)) yk (λ_=>qjz rfl) (zI rfl)
def I0:Tri dq Tryz.prog tT s_r05_Parse.pt:=
 ac (ag (ab kw ae)) G2 (λ_=>qjz rfl) (IF rfl)
def Lz:Tri dq Tryz.prog wL s_r06_sign.pt:=
 ac (ag ae) JI (λ_=>qjz rfl) (Le)
def El:Tri dq Tryz.prog pH s_r06_compare.pt:=
 ac (ag ae) CY (λ_=>qjz rfl) (Ed)
def lu:Tri dq Tryz.prog dW s_r06_CompareRegions.pt:=
 ac (ag (ab Lz (ab El ae))) sC (λ_=>qjz rfl) (sZ rfl rfl)
def zN:Tri dq Tryz.prog kL s_r06_Attributes.pt:=
 ac (ag (ab dN ae)) yj (λ_=>qjz rfl) (zH rfl)
def IX:Tri dq Tryz.prog tQ s_r06_Value.pt:=
 ac (ag (ab I0 (ab kw ae))) GZ (λ_=>qjz rfl) (IC rfl rfl)
def AI:Tri dq Tryz.prog pg s_r06_pairs.pt:=
 ac (ag (ab dN (ab kw ae))) GX (λ_=>qjz rfl) (IA rfl rfl)
def xN:Tri dq Tryz.prog mW s_r06_within.pt:=
 ac (ag ae) Er (λ_=>qjz rfl) (F9)
def LA:Tri dq Tryz.prog wM s_r06_bare.pt:=
 ac (ag ae) JJ (λ_=>qjz rfl) (Lf)
def Gm:Tri dq Tryz.prog rC s_r06_TextAt.pt:=
 ac (ag ae) Eu (λ_=>qjz rfl) (Gc)
def Cr:Tri dq Tryz.prog nL s_r06_FindText.pt:=
 ac (ag ae) Bh (λ_=>qjz rfl) (Ce)
def ti:Tri dq Tryz.prog gG s_r06_sameAttributes.pt:=
 ac (ag ae) sB (λ_=>qjz rfl) (sY)
def Gl:Tri dq Tryz.prog rB s_r06_cyclic.pt:=
 ac (ag ae) Et (λ_=>qjz rfl) (Gb)
def Gk:Tri dq Tryz.prog rA s_r06_tokens.pt:=
 ac (ag (ab IX ae)) Es (λ_=>qjz rfl) (Ga rfl)
def IV:Tri dq Tryz.prog tO s_r06_texts.pt:=
 ac (ag (ab dN (ab AI ae))) GW (λ_=>qjz rfl) (Iz rfl rfl)
def Ek:Tri dq Tryz.prog pG s_r06_regions.pt:=
 ac (ag (ab dN (ab AI (ab xN (ab lu ae))))) CX (λ_=>qjz rfl) (Ec rfl rfl rfl rfl)
def IZ:Tri dq Tryz.prog tS s_r06_Nodes.pt:=
 ac (ag (ab dN (ab xN ae))) G1 (λ_=>qjz rfl) (IE rfl rfl)
def IW:Tri dq Tryz.prog tP s_r06_heads.pt:=
 ac (ag (ab dN (ab LA (ab Gm (ab Gl ae))))) GY (λ_=>qjz rfl) (IB rfl rfl rfl rfl)
def Cq:Tri dq Tryz.prog nK s_r06_Validate.pt:=
 ac (ag (ab zN (ab Gk (ab IV (ab Ek (ab IZ (ab IW ae))))))) Bg (λ_=>qjz rfl) (Cb rfl rfl rfl rfl rfl rfl)
def IY:Tri dq Tryz.prog tR s_r06_Valid.pt:=
 ac (ag (ab Cq ae)) G0 (λ_=>qjz rfl) (ID rfl)
def xO:Tri dq Tryz.prog jH s_r06_SortRegions.pt:=
 ac (ag (ab lu ae)) wh (λ_=>qjz rfl) (xq rfl)
def Cp:Tri dq Tryz.prog nJ s_r06_allHeads.pt:=
 ac (ag ae) Bf (λ_=>qjz rfl) (Ca)
def Gn:Tri dq Tryz.prog rD s_r06_Concat.pt:=
 ac (ag (ab IY (ab ti (ab Cr (ab Cp ae))))) Ev (λ_=>qjz rfl) (Gd rfl rfl rfl rfl)
def P4:Tri dq Tryz.prog Du s_m_word.pt:=
 ac (ag ae) OF (λ_=>qjz rfl) (PK)
def TO:Tri dq Tryz.prog HB s_m_tag.pt:=
 ac (ag ae) QY (λ_=>qjz rfl) (To)
def Gp:Tri dq Tryz.prog rF s_m_features.pt:=
 ac (ag ae) Ew (λ_=>qjz rfl) (Ge)
def P5:Tri dq Tryz.prog tU s_m_Type.pt:=
 ac (ag (ab Gq ae)) Ff (λ_=>qjz rfl) (PL rfl)
def Cu:Tri dq Tryz.prog nO s_m_Attributes.pt:=
 ac (ag ae) Bm (λ_=>qjz rfl) (Cf)
def Cs:Tri dq Tryz.prog nM s_m_nodes.pt:=
 AG (ag (ab ed ae)) Bj (by decide) (N6 rfl)
def Ct:Tri dq Tryz.prog nN s_m_heads.pt:=
 AG (ag (ab ed ae)) Bl (by decide) (N7 rfl)
def xP:Tri dq Tryz.prog jJ s_m_Document.pt:=
 ac (ag (ab ed (ab Cu (ab P4 (ab TO (ab Gp (ab P5 (ab xO (ab Cs (ab Ct ae)))))))))) wj (λ_=>qjz rfl) (Gf rfl rfl rfl rfl rfl rfl rfl rfl rfl)
def Bb:Tri dq Tryz.prog mf s_m_Corpus.pt:=
 ac (ag (ab ed (ab xP (ab Gn ae)))) Ac (λ_=>qjz rfl) (Lj rfl rfl rfl)
end Go.Gv
namespace Go.Gv
open Go.Proofs
def jZ:CC:=oX [oB 2 (.mv (.const ob))] [0] [] (oX [oA 3 0,oB 4 (.cmp .geq (oT 3) (.const (.int .u8 65))),oA 5 4,oH 6 5 (.mv (oT 0)),oH 7 5 (.cmp .leq (oT 6) (.const (.int .u8 90))),oB 8 (.pick (oT 5) (oT 7) (.const ob)),oA 9 8,oI 10 9 (.mv (oT 0)),oI 11 9 (.cmp .geq (oT 10) (.const (.int .u8 97))),oI 12 9 (.mv (oT 11)),oH 13 12 (.mv (oT 0)),
 oH 14 12 (.cmp .leq (oT 13) (.const (.int .u8 122))),oI 15 9 (.pick (oT 12) (oT 14) (.const ob)),oB 16 (.pick (oT 9) (.const (.bool true)) (oT 15)),oA 17 16,oI 18 17 (.mv (oT 0)),oI 19 17 (.eql false false [.int] (oT 18) (.const (.int .u8 95))),oB 20 (.pick (oT 17) (.const (.bool true)) (oT 19)),oA 2 20] [2] [] (.ret))
def jr:List ai:=[.tmp 2]
def jY:CC:=oX [oB 2 (.mv (.const ob))] [0] [] (oX [oA 3 0,oZ 4 dP [oT 3],oA 5 4,oI 6 5 (.mv (oT 0)),oI 7 5 (.cmp .geq (oT 6) (.const (.int .u8 48))),oI 8 5 (.mv (oT 7)),oH 9 8 (.mv (oT 0)),oH 10 8 (.cmp .leq (oT 9) (.const (.int .u8 57))),oI 11 5 (.pick (oT 8) (oT 10) (.const ob)),oB 12 (.pick (oT 5) (.const (.bool true)) (oT 11)),oA 13 12,
 oI 14 13 (.mv (oT 0)),oI 15 13 (.eql false false [.int] (oT 14) (.const (.int .u8 45))),oB 16 (.pick (oT 13) (.const (.bool true)) (oT 15)),oA 2 16] [2] [] (.ret))
def jq:List ai:=[.tmp 2]
def gN:CC:=oX [oB 2 (.mv (.const ob))] [0] [] (.seq (oX [oA 4 0,oB 5 (.slen (oT 4)),oB 6 (.cmp .lss (oT 5) (oN 1)),oA 7 6,oI 8 7 (.mv (oT 0)),oI 9 7 (.slen (oT 8)),oI 10 7 (.cmp .gtr (oT 9) (oN 32)),oB 11 (.pick (oT 7) (.const (.bool true)) (oT 10)),oA 12 11,oI 13 12 (.mv (oT 0)),oI 14 12 (.sidx (oT 13) (oN 0)),oI 15 12 (.call dP [oT 14]),
 oI 16 12 (.not (oT 15)),oB 17 (.pick (oT 12) (.const (.bool true)) (oT 16))] [0,17] [] (.ite (oT 17) (oX [oB 2 (.mv (.const ob))] [2] [] (.ret)) (.skip))) (.keep [0] [] (.seq (oX [oA 18 0,oB 19 (.slen (oT 18)),oB 20 (.mv (oN 0))] [0,19,20] [] (kZ 0 20 19 21 1 (oX [oA 22 20,oA 3 22] [0,3,19,20] [] (oX [oA 23 0,oA 24 3,oB 25 (.sidx (oT 23) (oT 24)),oZ 26 iH [oT 25],
 oB 27 (.not (oT 26))] [0,19,20,27] [] (.ite (oT 27) (oX [oB 2 (.mv (.const ob))] [2] [] (.ret)) (.skip)))) 28)) (.keep [] [] (oX [oB 2 (.mv (.const (.bool true)))] [2] [] (.ret))))))
def gu:List ai:=[.tmp 2]
def gM:CC:=gq Tryz.f76 [] {} _
def gp:List ai:=[.tmp 2]
def tz:aq Tryz.prog bH [] gM gp 24:=fo
def ix:CC:=gq Tryz.f87 [] {} _
def ia:List ai:=[.tmp 4]
def uY:aq Tryz.prog iR [] ix ia 17:=fo
def od:CC:=gq Tryz.f62 [] {} _
def nz:List ai:=[.tmp 4]
def C5:aq Tryz.prog pM [] od nz 19:=fo
def bD:CC:=gq Tryz.f86 [] {} _
def bA:List ai:=[.tmp 2, .tmp 3]
def Ad:aq Tryz.prog mg [] bD bA 71:=fo
def ym:aq Tryz.prog dP [] jZ jr 21:=fo
def yl:aq Tryz.prog iH [] jY jq 17:=fo
def tA:aq Tryz.prog iQ [] gN gu 29:=fo
open Cod (enc dec)
structure Cond where
 op:Int
 name:B
 arg:B
 val:B
 lab:B
 fold:Bool
 kids:List Cond
mutual
def Dx:Cond->D
 | .mk op n a v l f ks=> .agg [enc op,enc n,enc a,enc v,enc l,enc f, .list 7 (so ks)]
def so:List Cond->List D
 | []=>[]
 | k::ks=>Dx k::so ks
end
mutual
def EE:D->Option Cond
 | .agg [x0,x1,x2,x3,x4,x5,x6]=>(dec x0).bind λop=>(dec x1).bind λn=>(dec x2).bind λa=>(dec x3).bind λv=>(dec x4).bind λl=>(dec x5).bind λf=>(Kw x6).bind λks=>some (.mk op n a v l f ks)
 | _=>none
def Kw:D->Option (List Cond)
 | .list n es=>if n=7 then ub es else none
 | .v (.slice none 0 0)=>some []
 | _=>none
def ub:List D->Option (List Cond)
 | []=>some []
 | d::ds=>(EE d).bind λx=>(ub ds).bind λxs=>some (x::xs)
end
def Ap:∀l:List Cond,so l=l.map Dx
 | []=>rfl
 | _::l=>by rw[so,Ap l];rfl
def Nz:∀c:Cond,(Dx c).kn=true
 | .mk .. =>rfl
def Ko:∀c:Cond,(Dx c).cells.length=7
 | .mk .. =>rfl
mutual
def KB:∀c:Cond,EE (Dx c)=some c
 | .mk op n a v l f ks=>by
   have h:Kw (.list 7 (so ks))=some ks:=by rw[Kw,if_pos rfl];exact FG ks
   simp only[Dx,EE,Cod.dec_enc,qjV,h]
def FG:∀l:List Cond,ub (so l)=some l
 | []=>by simp only[so,ub]
 | c::l=>by simp only[so,ub,KB c,FG l,qjV]
end
mutual
def NF:∀ (d:D) (c:Cond),EE d=some c->FrzTo cv d (Dx c)
 | .agg [x0,x1,x2,x3,x4,x5,x6],c,h=>by
   simp only[EE,qjy,qjO]at h;obtain⟨op,h0,n,h1,a,h2,v,h3,l,h4,f,h5,ks,h6,rfl⟩:=h;rw[Dx];exact LeL.agg (.cons (Cod.le _ _ h0) (.cons (Cod.le _ _ h1) (.cons (Cod.le _ _ h2) (.cons (Cod.le _ _ h3) (.cons (Cod.le _ _ h4) (.cons (Cod.le _ _ h5) (.cons (ND x6 ks h6) .nil)))))))
def ND:∀ (d:D) (l:List Cond),Kw d=some l->FrzTo cv d (.list 7 (so l))
 | .list n es,l,h=>by
   simp only[Kw]at h;split at h
   ·rename_i hn;subst hn;have hl:=KA es l h;refine .list hl.1 (λe he=>?_) hl.2;rw[Ap]at he;obtain⟨x,hx,rfl⟩:=qjN.1 he;exact⟨Nz x,Ko x⟩
   ·cases h
 | .v (.slice none 0 0),l,h=>by
   simp only[Kw,qjO]at h;subst h;exact .nil _
def KA:∀ (es:List D) (l:List Cond),ub es=some l->LeL es (so l)
 | [],l,h=>by
   simp only[ub,qjO]at h;subst h;exact .nil
 | d::ds,l,h=>by
   simp only[ub,qjy,qjO]at h;obtain⟨x,h1,xs,h2,rfl⟩:=h;rw[so];exact .cons (NF d x h1) (KA ds xs h2)
end
instance:Cod Cond where
 wd:=7
 enc:=Dx
 dec:=EE
 kn:=Nz
 wid:=Ko
 dec_enc:=KB
 le:=NF
def FA(ks:List Cond):D.list 7 (so ks)=enc ks:=by rw[Ap];rfl
def Kk(op:Int)(n a v l:B)(f:Bool)(ks:List Cond):enc (Cond.mk op n a v l f ks)= .agg [enc op,enc n,enc a,enc v,enc l,enc f,enc ks]:=by
 rw[<-FA];show Dx _=_;rw[Dx]
structure H6 where
 op:Int
 cond:Cond
 lab:B
 reg:B
 mn:Int
 mx:Int
 kids:List H6
def HR:Cond->List D
 | .mk op n a v l f ks=>[enc op,enc n,enc a,enc v,enc l,enc f,enc ks]
def Ms:∀c:Cond,(HR c).length=7
 | .mk .. =>rfl
mutual
def ED:H6->D
 | .mk op c l r mn mx ks=> .agg (enc op::(HR c++ [enc l,enc r,enc mn,enc mx, .list 13 (tY ks)]))
def tY:List H6->List D
 | []=>[]
 | k::ks=>ED k::tY ks
end
mutual
def Pk:D->Option H6
 | .agg [x0,y0,y1,y2,y3,y4,y5,y6,x1,x2,x3,x4,x5]=>(dec x0).bind λop=>(dec (D.agg [y0,y1,y2,y3,y4,y5,y6])).bind λc=>(dec x1).bind λl=>(dec x2).bind λr=>(dec x3).bind λmn=>(dec x4).bind λmx=>(FD x5).bind λks=>some (.mk op c l r mn mx ks)
 | _=>none
def FD:D->Option (List H6)
 | .list n es=>if n=13 then AT es else none
 | .v (.slice none 0 0)=>some []
 | _=>none
def AT:List D->Option (List H6)
 | []=>some []
 | d::ds=>(Pk d).bind λx=>(AT ds).bind λxs=>some (x::xs)
end
def Fy:∀l:List H6,tY l=l.map ED
 | []=>rfl
 | _::l=>by rw[tY,Fy l];rfl
def Nx:∀c:H6,(ED c).kn=true
 | .mk .. =>rfl
def Km:∀c:H6,(ED c).cells.length=13
 | .mk op c l r mn mx ks=>by simp[ED,D.cells,Ms]
mutual
def Kv:∀c:H6,Pk (ED c)=some c
 | .mk op (.mk cop n a v cl f cks) l r mn mx ks=>by
   have h:FD (.list 13 (tY ks))=some ks:=by rw[FD,if_pos rfl];exact FC ks
   have hc:dec (D.agg [enc cop,enc n,enc a,enc v,enc cl,enc f,enc cks])=some (Cond.mk cop n a v cl f cks):=by rw[<-Kk];exact Cod.dec_enc _
   simp only[ED,HR,qku,qky,Pk,Cod.dec_enc,qjV,h,hc]
def FC:∀l:List H6,AT (tY l)=some l
 | []=>by simp only[tY,AT]
 | c::l=>by simp only[tY,AT,Kv c,FC l,qjV]
end
def Pj{y0 y1 y2 y3 y4 y5 y6:D}{c:Cond}(h:dec (D.agg [y0,y1,y2,y3,y4,y5,y6])=some c):LeL [y0,y1,y2,y3,y4,y5,y6] (HR c):=by
 have h':EE (D.agg [y0,y1,y2,y3,y4,y5,y6])=some c:=h;simp only[EE,qjy,qjO]at h';obtain⟨op,h0,n,h1,a,h2,v,h3,l,h4,f,h5,ks,h6,rfl⟩:=h';have hk:=ND y6 ks h6;rw[FA]at hk;exact .cons (Cod.le _ _ h0) (.cons (Cod.le _ _ h1) (.cons (Cod.le _ _ h2) (.cons (Cod.le _ _ h3) (.cons (Cod.le _ _ h4) (.cons (Cod.le _ _ h5) (.cons hk .nil))))))
def LeL.append{a b c d:List D}(h:LeL a b)(k:LeL c d):LeL (a++c) (b++d):=by
 refine⟨by simp[h.1,k.1],λi x y hx hy=>?_⟩;rw[List.getElem?_append]at hx hy;by_cases hi:i < a.length
 ·rw[if_pos hi]at hx;rw[if_pos (by rw[<-h.1];exact hi)]at hy;exact h.2 i x y hx hy
 ·rw[if_neg hi]at hx;rw[if_neg (by rw[<-h.1];exact hi),<-h.1]at hy;exact k.2 _ x y hx hy
mutual
def NC:∀ (d:D) (c:H6),Pk d=some c->FrzTo cv d (ED c)
 | .agg [x0,y0,y1,y2,y3,y4,y5,y6,x1,x2,x3,x4,x5],c,h=>by
   simp only[Pk,qjy,qjO]at h;obtain⟨op,h0,c,h1,l,h2,r,h3,mn,h4,mx,h5,ks,h6,rfl⟩:=h;rw[ED];exact LeL.agg (.cons (Cod.le _ _ h0) ((Pj h1).append (.cons (Cod.le _ _ h2) (.cons (Cod.le _ _ h3) (.cons (Cod.le _ _ h4) (.cons (Cod.le _ _ h5) (.cons (Si x5 ks h6) .nil)))))))
def Si:∀ (d:D) (l:List H6),FD d=some l->FrzTo cv d (.list 13 (tY l))
 | .list n es,l,h=>by
   simp only[FD]at h;split at h
   ·rename_i hn;subst hn;have hl:=Ku es l h;refine .list hl.1 (λe he=>?_) hl.2;rw[Fy]at he;obtain⟨x,hx,rfl⟩:=qjN.1 he;exact⟨Nx x,Km x⟩
   ·cases h
 | .v (.slice none 0 0),l,h=>by
   simp only[FD,qjO]at h;subst h;exact .nil _
def Ku:∀ (es:List D) (l:List H6),AT es=some l->LeL es (tY l)
 | [],l,h=>by
   simp only[AT,qjO]at h;subst h;exact .nil
 | d::ds,l,h=>by
   simp only[AT,qjy,qjO]at h;obtain⟨x,h1,xs,h2,rfl⟩:=h;rw[tY];exact .cons (NC d x h1) (Ku ds xs h2)
end
instance:Cod H6 where
 wd:=13
 enc:=ED
 dec:=Pk
 kn:=Nx
 wid:=Km
 dec_enc:=Kv
 le:=NC
def DE:∀es:List D,ub es=es.mapM (dec (X:=Cond))
 | []=>by simp[ub]
 | d::es=>by
   rw[ub,qkd,DE es];rfl
def Vb:∀d:D,Kw d=dec (X:=List Cond) d:=λd=>by
 unfold Kw;split
 ·rename_i n es;show _=if n=7 then es.mapM (dec (X:=Cond))else none
  rw[DE]
 ·rfl
 ·rename_i h1 h2;show _=(match d with
   | .list n es=>if n=7 then es.mapM (dec (X:=Cond))else none
   | .v (.slice none 0 0)=>some []
   | _=>none)
  split
  ·exact absurd rfl (h1 _ _)
  ·exact absurd rfl h2
  ·rfl
@[simp] theorem RZ(s:Cond):Cond.mk s.op s.name s.arg s.val s.lab s.fold s.kids=s:=by cases s;rfl
@[simp] theorem R5(s:Cond):enc s= .agg [enc s.op,enc s.name,enc s.arg,enc s.val,enc s.lab,enc s.fold,enc s.kids]:=by cases s;exact Kk ..
@[simp] theorem qcz:Cod.wd Cond=7:=id rfl
@[simp] theorem qbH(x0 x1 x2 x3 x4 x5 x6:D):dec (X:=Cond) (.agg [x0,x1,x2,x3,x4,x5,x6])=((dec x0).bind λx0=>(dec x1).bind λx1=>(dec x2).bind λx2=>(dec x3).bind λx3=>(dec x4).bind λx4=>(dec x5).bind λx5=>(dec x6).bind λx6=>some ⟨x0,x1,x2,x3,x4,x5,x6⟩):=by
 show EE _=_;simp only[EE,Vb]
def cU:CC:=gq Tryz.f88 [] {} _
def cO:List ai:=[.tmp 4]
def lA:aq Tryz.prog dg [] cU cO 19:=fo
def dr:CC:=gq Tryz.f66 [] {} _
def dk:List ai:=[.tmp 4]
def fX:aq Tryz.prog aV [] dr dk 9:=fo
def ek:CC:=gq Tryz.f93 [] {} _
def ef:List ai:=[.tmp 4]
def iC:aq Tryz.prog da [] ek ef 19:=fo
def dA:CC:=oX [oB 4 (.mv (.const ob))] [0,1] [] (oX [oA 5 0,oA 6 1,oZ 7 dn [oT 5,oT 6],oB 8 (.cmp .geq (oT 7) (oN 0)),oA 4 8] [4] [] (.ret))
def dw:List ai:=[.tmp 4]
def eI:CC:=oX [oB 4 (.mv (oN 0))] [0,1] [] (.seq (oX [oA 6 0,oB 7 (.len (oT 6)),oB 8 (.mv (oN 0))] [0,1,7,8] [] (kZ 0 8 7 9 1 (oX [oA 10 8,oA 5 10] [0,1,5,7,8] [] (oX [oA 11 1,oA 12 0,oA 13 5,oB 14 (.iaddr 1 (oT 12) (oT 13)),oC 15 1 14,oB 16 (.callv (oT 11) [oT 15])] [0,1,5,7,8,16] [] (.ite (oT 16) (oX [oA 17 5,oA 4 17] [4] [] (.ret)) (.skip)))) 18))
 (.keep [] [] (oX [oB 4 (.mv (oN (-1)))] [4] [] (.ret))))
def eA:List ai:=[.tmp 4]
def cV:CC:=gq Tryz.f90 [] {} _
def cP:List ai:=[.tmp 4]
def lB:aq Tryz.prog dh [] cV cP 9:=fo
def dz:CC:=gq Tryz.f116 [] {} _
def dv:List ai:=[.tmp 4]
def nD:aq Tryz.prog dJ [] dz dv 19:=fo
def eJ:CC:=gq Tryz.f92 [3] {} _
def eB:List ai:=[.tmp 4]
def qm:aq Tryz.prog fa [3] eJ eB 9:=fo
def gJ:CC:=gq Tryz.f117 [3] {} _
def gj:List ai:=[.tmp 4]
def tt:aq Tryz.prog ip [3] gJ gj 19:=fo
def fe:CC:=gq Tryz.f64 [] {} _
def eO:List ai:=[.tmp 4]
def re:aq Tryz.prog dD [] fe eO 19:=fo
def dK:CC:=gq Tryz.f42 [] {} _
def dG:List ai:=[.tmp 4]
def ow:aq Tryz.prog ei [] dK dG 9:=fo
def gP:CC:=gq Tryz.f32 [3] {} _
def gx:List ai:=[.tmp 6, .tmp 7]
def tD:aq Tryz.prog bI [3] gP gx 40:=fo
def iZ:CC:=oX [oB 1 (.box ep true (oT 0)),oB 2 (.mv (.const ob))] [1] [] (oX [oD 6 7 1,oZ 7 bI [oT 6,oN 0,oN 1],oA 5 7,oB 8 (.ext (oT 5) 0),oB 9 (.ext (oT 5) 1),oA 3 8,oA 4 9] [3] [] (oX [oA 10 3,oB 11 (.cmp .gtr (oT 10) (oN 60)),oA 2 11] [2] [] (.ret)))
def iN:List ai:=[.tmp 2]
def kg:CC:=gq Tryz.f33 [2] {} _
def jt:List ai:=[.tmp 4]
def yn:aq Tryz.prog eG [2] kg jt 29:=fo
def aQ:CC:=gq Tryz.f72 [1,2034005,2033005,2043005,2042005,2041005,2052005,2051005,2050005] {} _
def aO:List ai:=[.tmp 2]
def wk:aq Tryz.prog jL [1,2034005,2033005,2043005,2042005,2041005,2052005,2051005,2050005] aQ aO 108:=fo
def fp:CC:=gq Tryz.f63 [3] {} _
def eW:List ai:=[.tmp 4]
def ro:aq Tryz.prog bO [3] fp eW 8:=fo
def eo:CC:=gq Tryz.f89 [2] {} _
def eh:List ai:=[.tmp 3]
def pE:aq Tryz.prog bj [2] eo eh 8:=fo
def fm:CC:=gq Tryz.f61 [] {} _
def eV:List ai:=[.tmp 4]
def wq:aq Tryz.prog gb [] fm eV 14:=fo
def bw:CC:=gq Tryz.f73 [2] {} _
def bp:List ai:=[.tmp 4]
def wl:aq Tryz.prog jM [2] bw bp 50:=fo
def bZ:CC:=gq Tryz.f35 [3] {} _
def bY:List ai:=[.tmp 6]
def ws:aq Tryz.prog jN [3] bZ bY 59:=fo
def fO:CC:=gq Tryz.f12 [5,4,3] {} _
def fE:List ai:=[.tmp 6]
def sF:aq Tryz.prog bv [5,4,3] fO fE 23:=fo
def eL:CC:=gq Tryz.f34 [3] {} _
def eD:List ai:=[.tmp 4]
def qo:aq Tryz.prog bB [3] eL eD 9:=fo
def gc:CC:=oX [oB 1 (.box ep true (oT 0)),oB 2 (.mv (.const ob))] [1] [] (oX [oE 3 0 1,oC 4 1 3,oB 5 (.eql false false [.int] (oT 4) (oN 4)),oA 6 5,oI 7 6 (.faddr 6 (oT 1)),oI 8 6 (.load false 1 (oT 7)),oI 9 6 (.call aV [oT 8,.func aW]),oB 10 (.pick (oT 6) (.const (.bool true)) (oT 9)),oA 2 10] [2] [] (.ret))
def fV:List ai:=[.tmp 2]
def cI:CC:=oX [oB 1 (.box ep true (oT 0)),oB 2 (.alloc ep [oi,oe,oe,oe,oe,ob,on])] [1,2] [2,33] (.seq (oX [oE 6 0 1,oC 7 1 6,oB 8 (.eql false false [.int] (oT 7) (oN 4)),oA 9 8,oI 10 9 (.faddr 0 (oT 1)),oI 11 9 (.load false 1 (oT 10)),oI 12 9 (.eql false false [.int] (oT 11) (oN 6)),oI 13 9 (.mv (oT 12)),oH 14 13 (.load true 7 (oT 1)),
 oH 15 13 (.call aW [oT 14]),oI 16 9 (.pick (oT 13) (oT 15) (.const ob)),oB 17 (.pick (oT 9) (.const (.bool true)) (oT 16))] [1,2,17] [2,33] (.ite (oT 17) (oX [oB 18 (.build [oi,oe,oe,oe,oe,ob,on] [(0,1,oN 1)]),oF 7 2 18] [2] [2,33] (.ret)) (.skip))) (.keep [1,2] [2,33] (oX [oD 19 7 1,oB 3 (.alloc ep [oi,oe,oe,oe,oe,ob,on]),oF 7 3 19] [1,2,3] [2,3,33] (LD 5 (.reg [
 oE 20 6 3,.op none none (.store none 1 (oT 20) (.const on))]) (.keep [1,2,3] [2,3,33] (.seq (oX [oE 21 6 1,oC 22 1 21,oB 23 (.len (oT 22)),oB 24 (.mv (oN 0))] [2,3,22,23,24] [2,3,33] (kZ 0 24 23 25 1 (oX [oB 26 (.iaddr 7 (oT 22) (oT 24)),oD 27 7 26,oB 5 (.alloc ep [oi,oe,oe,oe,oe,ob,on]),oF 7 5 27] [2,3,5,22,23,24] [2,3,5,33] (.regd [oE 28 6 3,oC 29 1 28,oD 30 7 5,
 oZ 31 cn [oT 30],oB 32 (.bslice ep 7 [oT 31])] [oB 33 (.append (some 33) ep 7 104 (oT 29) (oT 32)),oE 34 6 3,.op none none (.store (some 3) 1 (oT 34) (oT 33))])) 35)) (.keep [2,3] [2,3,33] (oX [oD 36 7 3,oF 7 2 36] [2] [2,33] (.ret)))))))))
def cF:List ai:=[.cell 2 true 7]
def bz:CC:=gq Tryz.f60 [3] {} _
def bq:List ai:=[.tmp 6]
def wt:aq Tryz.prog jO [3] bz bq 38:=fo
def iy:CC:=gq Tryz.f65 [5,4,3] {} _
def ib:List ai:=[.tmp 6]
def uZ:aq Tryz.prog iS [5,4,3] iy ib 11:=fo
def bh:CC:=gq Tryz.f91 [3] {} _
def be:List ai:=[.tmp 4]
def sE:aq Tryz.prog bu [3] bh be 37:=fo
def nE:aq Tryz.prog cw [] dA dw 9:=fo
def ql:aq Tryz.prog dn [] eI eA 19:=fo
def wn:aq Tryz.prog ga [1] iZ iN 12:=fo
def yo:aq Tryz.prog aW [1] gc fV 11:=fo
def wm:aq Tryz.prog cn [1,2034003,1033033] cI cF 37:=fo
end Go.Gv
