/- A part of the framework and of the walks: W19 Asm C2 C59 C71 V2 C57. -/
import Derived.Test.YtfbleenmepoodaaGreatDoorGb24
set_option linter.unusedSimpArgs false
set_option linter.unusedVariables false
set_option linter.unusedSectionVars false
set_option linter.defProp false
set_option maxRecDepth 100000
set_option maxHeartbeats 0
namespace Go.Gv
open Cod (enc dec)
variable {S S0:Nat->Spc}
abbrev s_m_nodes:Spc:=qgY qfE Xd wh Ka
abbrev s_m_heads:Spc:=qgY Xd qdv wh P7
def Um{H:ab}{id el n:Nat}{v:Value}{d d':D}(h:H id=some (.row v el n [d]))(hd:FrzTo H d d')(hk:d'.kn=true/\d'.cells.length=n):FrzTo H (.own id v) (.list n [d']):=by
 refine .row h rfl (λe he=>?_) (λk c c' h1 h2=>?_)
 ·simp at he;subst he;exact hk
 ·cases k with
  | zero=>simp at h1 h2;subst h1;subst h2;exact hd
  | succ k=>simp at h1
def TW(l:List Int):List D:=l.map enc
def qc1(a b c d e f g h:Int):D.list 1 [.v (.int .i64 a), .v (.int .i64 b), .v (.int .i64 c), .v (.int .i64 d), .v (.int .i64 e), .v (.int .i64 f), .v (.int .i64 g), .v (.int .i64 h)]= .list 1 (TW [a,b,c,d,e,f,g,h]):=id rfl
def TV(l:List Int):(TW l).length=l.length:=by simp[TW]
def Xt(l:List Int)(i:Nat)(d:D):((TW l)[i]? =some d)=∃s,l[i]? =some s/\ .v (.int .i64 s)=d:=by
 simp[TW]
def Sa{l:List (List B)}{r:List B}(h:∀x∈l,AO x)(hr:AO r):∀x∈l++ [r],AO x:=λx hx=>by
 rcases qml.1 hx with hx|hx
 ·exact h x hx
 ·rw[qnf]at hx;rw[hx];exact hr
theorem Ii(h1:S cZ=s_m_Next)(h2:S pi=s_m_Attributes)(h3:S E8=s_m_word)(h4:S JK=s_m_tag)(h5:S sW=s_m_features)
 (h6:S vr=s_m_Type) (h7:S kF=s_r06_SortRegions) (h8:S pg=s_m_nodes) (h9:S ph=s_m_heads):
 av jD jq S (aT (a2 B Int)) (λx=>1<=x.2.2/\x.2.2<=1000) (enc (X:=Corpus)) (λx c=>M5 c/\Ki c/\(c.toks.length:Int)<=x.2.2):=by
 rintro⟨L,name,most⟩ hm;have hm:1<=most/\most<=1000:=hm;simp[jD,jq,h1,h2];refineλb6=>⟨by omega,λy hy=>⟨by simp only[InR];omega,trivial,λat_ hat v26 b8=>?_⟩⟩
 have hal:at_.length=3:=by rw[show at_=dA from hat];rfl
 obtain⟨n,hn0,hn⟩:∃n:Nat,1+y=(n:Int)/\1<=n/\n<=1000:=⟨(1+y).toNat,by omega,by omega⟩
 rw[hn0];refine jO (X:=vN) [0,6,7,8] [6] [26] [] (λt=>t.b=0/\t.e=n) (λ_=>[]) (λt=>[(8, .box b8 [enc at_, .v (.slice none 0 0),enc [t], .v (.slice none 0 0), .v (.slice none 0 0), .v (.slice none 0 0), .v (.slice none 0 0)])]) [8] (λ_=>rfl) (by decide) ?_ ?_
 ·simp[h1,Si,mr,qa];refineλz _ _=>⟨λ_ u hu0 hu1=>⟨hu0,hu1,λs _=>⟨⟨name,0,n, [⟨⟨#[121,101,97,114]⟩,s⟩]⟩,⟨rfl,rfl⟩, .inl (Um (el:=vU) (by simp[N1]) (.same _) ⟨rfl,rfl⟩)⟩⟩,λ_=>⟨⟨name,0,n, []⟩,⟨rfl,rfl⟩, .inl (Um (el:=vU) (by simp[N1];rfl) ?_ ⟨rfl,rfl⟩)⟩⟩
  rw[dg,dg,dg,dg];exact⟨.same _, .same _, .same _, .nil _, .same _⟩
 ·rintro t ⟨ht1,ht2⟩;refine jO (X:=List (List B)) [0,6,7,8] [6] [66] [] (λl=>l.length=n/\∀r∈l,AO r) (λ_=>[]) (λl=>[(8, .box b8 [enc at_,enc l,enc [t], .v (.slice none 0 0), .v (.slice none 0 0), .v (.slice none 0 0), .v (.slice none 0 0)])]) [8] (λ_=>rfl) (by decide) ?_ ?_
  ·simp[h1];refine vT (X:=Int×Value×List (List B)) [0,6,7,8] [6] [] [] [] [] (λx=>0<=x.1/\x.1<=n/\(x.2.2.length:Int)=x.1/\∀r∈x.2.2,AO r) (λx=>[(9,enc x.1)]) (λx=>[(8, .box b8 [enc at_, .own 66 x.2.1,enc [t], .v (.slice none 0 0), .v (.slice none 0 0), .v (.slice none 0 0), .v (.slice none 0 0)]),(66, .row x.2.1 pY 1 (x.2.2.map enc))]) (λx=>n -x.1.toNat) (0, .slice none 0 0, []) [8,66] (λ_=>rfl) (by decide) (by decide) ?_ ?_ ?_ ?_
   ·simp
   ·simp
   ·simp[isNilRow];exact .nilown 66
   ·rintro⟨i,v,l⟩ ⟨q1,q2,q3,q4⟩;simp only at q1 q2 q3 q4;simp[h1,h3,h4,h5,qc1,TV,Xt];refine⟨λhi y hy0 hy1=>?_,λhi=>⟨l,⟨by omega,q4⟩, .inl (iM pY (by simp[N1]))⟩⟩;have a1:y.tmod 8=y % 8:=Int.tmod_eq_emod_of_nonneg hy0;have a2:y.tdiv 8=y/8:=Int.tdiv_eq_ediv_of_nonneg hy0;have a3:(y/8).tmod 2=(y/8) % 2:=Int.tmod_eq_emod_of_nonneg (by omega);have a4:y.tdiv 12=y/12:=Int.tdiv_eq_ediv_of_nonneg hy0;rw[a1,a2,a3,a4];refine⟨by omega,by omega,λs hs=>⟨?_,λw1 hw1=>⟨by simp only[InR];omega,by omega,λw2 hw2=>⟨by simp only[InR];omega,by omega,λw3 hw3=>⟨by omega,by omega,λv2=>⟨by simp only[InR];omega,i+1,v2,l++ [[w1,w2,w3]],⟨by omega,by omega,by simp;omega,Sa q4 ⟨w1,w2,w3,hw1,hw2,hw3,rfl⟩⟩,⟨rfl, .inl (.inl rfl), .inl (.inl (by simp))⟩,by omega⟩⟩⟩⟩⟩⟩;have:=qme hs;simp at this;omega
  ·rintro toks ⟨htk,hto⟩;refine jO (X:=List Region) [0,6,7,8] [6,8] [165] [] (λl=>l.length<=8/\∀r∈l,0<=r.b/\r.b<=n/\0<=r.e/\r.e<=n) (λl=>[(11,enc l)]) (λ_=>[]) [] (λ_=>rfl) (by decide) ?_ ?_
   ·simp[h1];intro k hk0 hk1;refine vT (X:=Int×Value×List Region) [0,6,7,8] [6,8] [] [] [] [] (λx=>0<=x.1/\x.1+x.2.2.length<=4/\∀r∈x.2.2,0<=r.b/\r.b<=n/\0<=r.e/\r.e<=n) (λx=>[(11, .own 165 x.2.1),(12,enc x.1)]) (λx=>[(165, .row x.2.1 jJ 4 (x.2.2.map enc))]) (λx=>x.1.toNat) (k, .slice none 0 0, []) [165] (λ_=>rfl) (by decide) (by decide) ?_ ?_ ?_ ?_
    ·simp;omega
    ·simp;exact .nilown 165
    ·simp[isNilRow]
    ·rintro⟨k,v,l⟩ ⟨q1,q2,q3⟩;simp only at q1 q2 q3;simp[h1,h6];refine⟨λhk=>⟨by omega,λu hu z _ _=>⟨trivial,λty=>⟨by simp only[InR];omega,by simp only[InR];omega,by omega,λw hw=>⟨by simp only[InR];omega,λb14=>?_⟩⟩⟩⟩,λhk=>⟨l,⟨by omega,q3⟩,iM jJ (by simp[N1])⟩⟩;have hr:0<=u/\u<=n/\0<=u+1+w/\u+1+w<=n:=by omega
     generalize u+1+w=e' at*;refine jO (X:=List Pair) [0,6,7,8,11,12,14] [6,8,165] [] [] (λ_=>True) (λ_=>[]) (λkv=>[(14, .box b14 [.v (.string ty), .v (.int .i64 u), .v (.int .i64 e'),enc kv])]) [14] (λ_=>rfl) (by decide) ?_ ?_
     ·simp[h1,Lc,mr,qa];exactλ_ _ _ _ q hq0 hq1=>⟨hq0,hq1,λs _=>⟨[⟨⟨#[110]⟩,s⟩], .inl (.inl rfl)⟩⟩
     ·rintro kv -;simp only[Z2,Xm];simp;refine cm (X:=Bool) [0,6,7,8,11,12,14] [6,8,14,165] (λ_=>True) (λx=>[(15,enc x)]) (λ_=>[]) ?_ ?_
      ·simp[-Bool.exists_bool];intro _;refine ak (X:=Bool) [0,6,7,8,11,12,14,101] [6,8,14,165] l.length (λ_ _=>True) (λx=>[(15,enc x)]) (λ_=>[]) false (by simp) (by simp) (by omega) (by simp) (by simp) trivial (by simp) (by simp) ?_ ?_
       ·rintro j cr hj -;obtain⟨x,hx⟩:=eX hj;obtain⟨_,hgx⟩:=qmb.1 hx;simp[hj,hx,hgx, -Bool.exists_bool];exactλ_ _ _ _=>⟨λ_ _ _=>⟨_,(Bool.not_not _).symm⟩,λ_ _=>⟨_,(Bool.not_not _).symm⟩⟩
       ·rintro cr -;simp[-Bool.exists_bool]
      ·rintro cr -;simp[-Bool.exists_bool];refine⟨λ_=>⟨by omega,by omega,λv2=>⟨by simp only[InR];omega,k -1,v2,l++ [⟨ty,u,e',kv⟩],⟨by omega,by simp;omega,λr hrr=>?_⟩,⟨⟨.same _,rfl⟩, .inl (.inl (by simp))⟩,by omega⟩⟩,λ_=>⟨by simp only[InR];omega,k -1,v,l,⟨by omega,by omega,q3⟩,⟨⟨.same _,rfl⟩, .inl (.inl rfl)⟩,by omega⟩⟩;rcases qml.1 hrr with hrr|hrr
       ·exact q3 r hrr
       ·simp at hrr;subst hrr;exact hr
   ·rintro rg ⟨hr1,hr2⟩;simp[h7,h8];refine⟨by simp only[OM];omega,λrs ⟨hs1,hs2⟩=>⟨⟨at_,toks, [t],rs, [], [], []⟩,by simp[qfE],by simp only[wh];omega,λc hc=>?_⟩⟩;obtain⟨ns,rfl,hns,hnd⟩:=hc;simp only at hnd;simp[Xd];refine jO (X:=List Int×List B) [6,8] [6] [] [] (λx=>x.1.length<=n/\x.2.length<=n/\∀h∈x.1,h<=n) (λ_=>[]) (λx=>[(8, .box b8 [enc at_,enc toks,enc [t],enc rs,enc ns,enc x.1,enc x.2])]) [8] (λ_=>rfl) (by decide) ?_ ?_
    ·simp[h1,h9];refineλz _ _=>⟨λ_=>⟨⟨at_,toks, [t],rs,ns, [], []⟩,by simp[Xd],by simp only[wh];omega,λc hc=>?_⟩,λ_=>⟨[], [],⟨by simp,by simp,by simp⟩, .inl ⟨rfl,rfl⟩⟩⟩
     obtain⟨hs,rl,rfl,g1,g2,g3⟩:=hc;simp only at g1 g2 g3;simp[qdv];exact⟨hs,rl,⟨by omega,by omega,λh hh=>by have:=g3 h hh;omega⟩, .inl (.inl ⟨rfl,rfl⟩)⟩
    ·rintro⟨hs,rl⟩ ⟨p1,p2,p3⟩;simp only at p1 p2 p3;simp;refine cp ⟨at_,toks, [t],rs,ns,hs,rl⟩ (.same _) ⟨?_,⟨hat,hto⟩,by show(toks.length:Int)<=most;omega⟩;refine⟨⟨ht1,by omega,by show t.e=(toks.length:Int);omega⟩,by simp,by simp only;omega,by simp,by simp only;omega,by simp only;omega,by simp only;omega,by simp only;omega,by simp only;omega,λr hr=>?_,λm hm=>?_,hnd.2,λh hh=>?_⟩
     ·have:=hr2 r (hs2 r hr);simp only;omega
     ·have:=hnd.1 m hm;simp only;omega
     ·have:=p3 h hh;simp only;omega
end Go.Gv
namespace Go.Gv
open Go.Proofs
variable {dq:Prop}
def Is:Tri dq Tryz.prog qh s_m_Mod.pt:=
 ac (ag ae) Tp (λ_=>qma rfl) (VW)
def eC:Tri dq Tryz.prog cZ s_m_Next.pt:=R8 (S:=Dl [(qh,s_m_Mod)]) (ag (aa Is ae)) rfl EA (by decide)
def OY:Tri dq Tryz.prog Dw s_m_New.pt:=Wr (Nr (ag ae) To (by decide) VV)
def B7:Tri dq Tryz.prog mH s_r04_First.pt:=
 ac (ag ae) Jc (λ_=>qma rfl) (KR)
def Nz:Tri dq Tryz.prog sV s_r04_Next.pt:=
 ac (ag (aa B7 ae)) LN (λ_=>qma rfl) (Nc rfl)
def dY:Tri dq Tryz.prog aN s_r04_ValidName.pt:=
 ac (ag (aa B7 (aa Nz ae))) Bz (λ_=>qma rfl) (CB rfl rfl)
def Lb:Tri dq Tryz.prog mJ s_r01_Units.pt:=
 ac (ag ae) Je (λ_=>qma rfl) (KT)
def La:Tri dq Tryz.prog mI s_r01_Valid.pt:=
 ac (ag (aa Lb ae)) Jd (λ_=>qma rfl) (KS rfl)
def lr:Tri dq Tryz.prog bk s_r04_ValidValue.pt:=
 ac (ag (aa La ae)) zX (λ_=>qma rfl) (Bb rfl)
def K9:Tri dq Tryz.prog vp s_r05_Parse.pt:=
 ac (ag (aa lr ae)) Jb (λ_=>qma rfl) (KQ rfl)
def Nx:Tri dq Tryz.prog yw s_r06_sign.pt:=
 ac (ag ae) LL (λ_=>qma rfl) (Na)
def F3:Tri dq Tryz.prog qF s_r06_compare.pt:=
 ac (ag ae) Ez (λ_=>qma rfl) (FV)
def mq:Tri dq Tryz.prog eo s_r06_CompareRegions.pt:=
 ac (ag (aa Nx (aa F3 ae))) tU (λ_=>qma rfl) (uu rfl rfl)
def Bg:Tri dq Tryz.prog lI s_r06_Attributes.pt:=
 ac (ag (aa dY ae)) zW (λ_=>qma rfl) (Ba rfl)
def K6:Tri dq Tryz.prog vm s_r06_Value.pt:=
 ac (ag (aa K9 (aa lr ae))) I4 (λ_=>qma rfl) (KN rfl rfl)
def B6:Tri dq Tryz.prog qg s_r06_pairs.pt:=
 ac (ag (aa dY (aa lr ae))) I2 (λ_=>qma rfl) (KL rfl rfl)
def zA:Tri dq Tryz.prog nV s_r06_within.pt:=
 ac (ag ae) Gb (λ_=>qma rfl) (Ic)
def Ny:Tri dq Tryz.prog yx s_r06_bare.pt:=
 ac (ag ae) LM (λ_=>qma rfl) (Nb)
def Ip:Tri dq Tryz.prog sT s_r06_TextAt.pt:=
 ac (ag ae) Ge (λ_=>qma rfl) (If)
def D1:Tri dq Tryz.prog pd s_r06_FindText.pt:=
 ac (ag ae) CN (λ_=>qma rfl) (DN)
def uC:Tri dq Tryz.prog gZ s_r06_sameAttributes.pt:=
 ac (ag ae) tT (λ_=>qma rfl) (ut)
def Io:Tri dq Tryz.prog sS s_r06_cyclic.pt:=
 ac (ag ae) Gd (λ_=>qma rfl) (Ie)
def In:Tri dq Tryz.prog sR s_r06_tokens.pt:=
 ac (ag (aa K6 ae)) Gc (λ_=>qma rfl) (Id rfl)
def K4:Tri dq Tryz.prog vj s_r06_texts.pt:=
 ac (ag (aa dY (aa B6 ae))) I1 (λ_=>qma rfl) (KJ rfl rfl)
def F2:Tri dq Tryz.prog qE s_r06_regions.pt:=
 ac (ag (aa dY (aa B6 (aa zA (aa mq ae))))) Ey (λ_=>qma rfl) (FU rfl rfl rfl rfl)
def K8:Tri dq Tryz.prog vo s_r06_Nodes.pt:=
 ac (ag (aa dY (aa zA ae))) Ja (λ_=>qma rfl) (KP rfl rfl)
def K5:Tri dq Tryz.prog vk s_r06_heads.pt:=
 ac (ag (aa dY (aa Ny (aa Ip (aa Io ae))))) I3 (λ_=>qma rfl) (KM rfl rfl rfl rfl)
def D0:Tri dq Tryz.prog pb s_r06_Validate.pt:=
 ac (ag (aa Bg (aa In (aa K4 (aa F2 (aa K8 (aa K5 ae))))))) CM (λ_=>qma rfl) (DM rfl rfl rfl rfl rfl rfl)
def K7:Tri dq Tryz.prog vn s_r06_Valid.pt:=
 ac (ag (aa D0 ae)) I5 (λ_=>qma rfl) (KO rfl)
def zB:Tri dq Tryz.prog kF s_r06_SortRegions.pt:=
 ac (ag (aa mq ae)) xR (λ_=>qma rfl) (za rfl)
def DZ:Tri dq Tryz.prog pa s_r06_allHeads.pt:=
 ac (ag ae) CL (λ_=>qma rfl) (DL)
def Iq:Tri dq Tryz.prog sU s_r06_Concat.pt:=
 ac (ag (aa K7 (aa uC (aa D1 (aa DZ ae))))) Gf (λ_=>qma rfl) (Ig rfl rfl rfl rfl)
def Sf:Tri dq Tryz.prog E8 s_m_word.pt:=
 ac (ag ae) QQ (λ_=>qma rfl) (RT)
def Wv:Tri dq Tryz.prog JK s_m_tag.pt:=
 ac (ag ae) Tn (λ_=>qma rfl) (VU)
def Ir:Tri dq Tryz.prog sW s_m_features.pt:=
 ac (ag ae) Gg (λ_=>qma rfl) (Ih)
def Sh:Tri dq Tryz.prog vr s_m_Type.pt:=
 ac (ag (aa Is ae)) G2 (λ_=>qma rfl) (RU rfl)
def D4:Tri dq Tryz.prog pi s_m_Attributes.pt:=
 ac (ag ae) CR (λ_=>qma rfl) (DO)
def D2:Tri dq Tryz.prog pg s_m_nodes.pt:=
 B4 (ag (aa eC ae)) CO (by decide) (Qk rfl)
def D3:Tri dq Tryz.prog ph s_m_heads.pt:=
 B4 (ag (aa eC ae)) CQ (by decide) (Ql rfl)
def zC:Tri dq Tryz.prog kH s_m_Document.pt:=
 ac (ag (aa eC (aa D4 (aa Sf (aa Wv (aa Ir (aa Sh (aa zB (aa D2 (aa D3 ae)))))))))) xT (λ_=>qma rfl) (Ii rfl rfl rfl rfl rfl rfl rfl rfl rfl)
def tH:Tri dq Tryz.prog jl s_m_Corpus.pt:=
 ac (ag (aa eC (aa zC (aa Iq ae)))) BB (λ_=>qma rfl) (Nf rfl rfl rfl)
end Go.Gv
namespace Go.Gv
open Go.Proofs
def vA:CC:=gq Tryz.f17 [2,3] {} _
def uE:List aj:=[.tmp 4]
def LJ:aq Tryz.prog sM [2,3] vA uE 74:=fo
def kZ:CC:=oX [oB 2 (.mv (.const ob))] [0] [] (oX [oA 3 0,oB 4 (.cmp .geq (oT 3) (.const (.int .u8 65))),oA 5 4,oH 6 5 (.mv (oT 0)),oH 7 5 (.cmp .leq (oT 6) (.const (.int .u8 90))),oB 8 (.pick (oT 5) (oT 7) (.const ob)),oA 9 8,oI 10 9 (.mv (oT 0)),oI 11 9 (.cmp .geq (oT 10) (.const (.int .u8 97))),oI 12 9 (.mv (oT 11)),oH 13 12 (.mv (oT 0)),
 oH 14 12 (.cmp .leq (oT 13) (.const (.int .u8 122))),oI 15 9 (.pick (oT 12) (oT 14) (.const ob)),oB 16 (.pick (oT 9) (.const (.bool true)) (oT 15)),oA 17 16,oI 18 17 (.mv (oT 0)),oI 19 17 (.eql false false [.int] (oT 18) (.const (.int .u8 95))),oB 20 (.pick (oT 17) (.const (.bool true)) (oT 19)),oA 2 20] [2] [] (.ret))
def jY:List aj:=[.tmp 2]
def kY:CC:=oX [oB 2 (.mv (.const ob))] [0] [] (oX [oA 3 0,oZ 4 eb [oT 3],oA 5 4,oI 6 5 (.mv (oT 0)),oI 7 5 (.cmp .geq (oT 6) (.const (.int .u8 48))),oI 8 5 (.mv (oT 7)),oH 9 8 (.mv (oT 0)),oH 10 8 (.cmp .leq (oT 9) (.const (.int .u8 57))),oI 11 5 (.pick (oT 8) (oT 10) (.const ob)),oB 12 (.pick (oT 5) (.const (.bool true)) (oT 11)),oA 13 12,
 oI 14 13 (.mv (oT 0)),oI 15 13 (.eql false false [.int] (oT 14) (.const (.int .u8 45))),oB 16 (.pick (oT 13) (.const (.bool true)) (oT 15)),oA 2 16] [2] [] (.ret))
def jX:List aj:=[.tmp 2]
def ig:CC:=oX [oB 2 (.mv (.const ob))] [0] [] (.seq (oX [oA 4 0,oB 5 (.slen (oT 4)),oB 6 (.cmp .lss (oT 5) (oN 1)),oA 7 6,oI 8 7 (.mv (oT 0)),oI 9 7 (.slen (oT 8)),oI 10 7 (.cmp .gtr (oT 9) (oN 32)),oB 11 (.pick (oT 7) (.const (.bool true)) (oT 10)),oA 12 11,oI 13 12 (.mv (oT 0)),oI 14 12 (.sidx (oT 13) (oN 0)),oI 15 12 (.call eb [oT 14]),
 oI 16 12 (.not (oT 15)),oB 17 (.pick (oT 12) (.const (.bool true)) (oT 16))] [0,17] [] (.ite (oT 17) (oX [oB 2 (.mv (.const ob))] [2] [] (.ret)) (.skip))) (.keep [0] [] (.seq (oX [oA 18 0,oB 19 (.slen (oT 18)),oB 20 (.mv (oN 0))] [0,19,20] [] (ki 0 20 19 21 1 (oX [oA 22 20,oA 3 22] [0,3,19,20] [] (oX [oA 23 0,oA 24 3,oB 25 (.sidx (oT 23) (oT 24)),oZ 26 jk [oT 25],
 oB 27 (.not (oT 26))] [0,19,20,27] [] (.ite (oT 27) (oX [oB 2 (.mv (.const ob))] [2] [] (.ret)) (.skip)))) 28)) (.keep [] [] (oX [oB 2 (.mv (.const (.bool true)))] [2] [] (.ret))))))
def gM:List aj:=[.tmp 2]
def ic:CC:=gq Tryz.f76 [] {} _
def gL:List aj:=[.tmp 2]
def uN:aq Tryz.prog bP [] ic gL 24:=fo
def iT:CC:=gq Tryz.f87 [] {} _
def iF:List aj:=[.tmp 4]
def wz:aq Tryz.prog jw [] iT iF 17:=fo
def pB:CC:=gq Tryz.f62 [] {} _
def oL:List aj:=[.tmp 4]
def EE:aq Tryz.prog qH [] pB oL 19:=fo
def bK:CC:=gq Tryz.f86 [] {} _
def bH:List aj:=[.tmp 2, .tmp 3]
def BC:aq Tryz.prog nf [] bK bH 71:=fo
def zZ:aq Tryz.prog eb [] kZ jY 21:=fo
def zY:aq Tryz.prog jk [] kY jX 17:=fo
def uP:aq Tryz.prog jv [] ig gM 29:=fo
open Cod (enc dec)
structure Cond where
 op:Int
 name:B
 arg:B
 val:B
 lab:B
 fold:Bool
 kids:List Cond
mutual
def Fb:Cond->D
 | .mk op n a v l f ks=> .agg [enc op,enc n,enc a,enc v,enc l,enc f, .list 7 (tJ ks)]
def tJ:List Cond->List D
 | []=>[]
 | k::ks=>Fb k::tJ ks
end
mutual
def Gn:D->Option Cond
 | .agg [x0,x1,x2,x3,x4,x5,x6]=>(dec x0).bind λop=>(dec x1).bind λn=>(dec x2).bind λa=>(dec x3).bind λv=>(dec x4).bind λl=>(dec x5).bind λf=>(MA x6).bind λks=>some (.mk op n a v l f ks)
 | _=>none
def MA:D->Option (List Cond)
 | .list n es=>if n=7 then vz es else none
 | .v (.slice none 0 0)=>some []
 | _=>none
def vz:List D->Option (List Cond)
 | []=>some []
 | d::ds=>(Gn d).bind λx=>(vz ds).bind λxs=>some (x::xs)
end
def BO:∀l:List Cond,tJ l=l.map Fb
 | []=>rfl
 | _::l=>by rw[tJ,BO l];rfl
def PK:∀c:Cond,(Fb c).kn=true
 | .mk .. =>rfl
def Ms:∀c:Cond,(Fb c).cells.length=7
 | .mk .. =>rfl
mutual
def ME:∀c:Cond,Gn (Fb c)=some c
 | .mk op n a v l f ks=>by
   have h:MA (.list 7 (tJ ks))=some ks:=by rw[MA,if_pos rfl];exact Hw ks
   simp only[Fb,Gn,Cod.dec_enc,qmx,h]
def Hw:∀l:List Cond,vz (tJ l)=some l
 | []=>by simp only[tJ,vz]
 | c::l=>by simp only[tJ,vz,ME c,Hw l,qmx]
end
mutual
def PQ:∀ (d:D) (c:Cond),Gn d=some c->FrzTo cw d (Fb c)
 | .agg [x0,x1,x2,x3,x4,x5,x6],c,h=>by
   simp only[Gn,ql9,qmp]at h;obtain⟨op,h0,n,h1,a,h2,v,h3,l,h4,f,h5,ks,h6,rfl⟩:=h;rw[Fb];exact LeL.agg (.cons (Cod.le _ _ h0) (.cons (Cod.le _ _ h1) (.cons (Cod.le _ _ h2) (.cons (Cod.le _ _ h3) (.cons (Cod.le _ _ h4) (.cons (Cod.le _ _ h5) (.cons (PO x6 ks h6) .nil)))))))
def PO:∀ (d:D) (l:List Cond),MA d=some l->FrzTo cw d (.list 7 (tJ l))
 | .list n es,l,h=>by
   simp only[MA]at h;split at h
   ·rename_i hn;subst hn;have hl:=MD es l h;refine .list hl.1 (λe he=>?_) hl.2;rw[BO]at he;obtain⟨x,hx,rfl⟩:=qmo.1 he;exact⟨PK x,Ms x⟩
   ·cases h
 | .v (.slice none 0 0),l,h=>by
   simp only[MA,qmp]at h;subst h;exact .nil _
def MD:∀ (es:List D) (l:List Cond),vz es=some l->LeL es (tJ l)
 | [],l,h=>by
   simp only[vz,qmp]at h;subst h;exact .nil
 | d::ds,l,h=>by
   simp only[vz,ql9,qmp]at h;obtain⟨x,h1,xs,h2,rfl⟩:=h;rw[tJ];exact .cons (PQ d x h1) (MD ds xs h2)
end
instance:Cod Cond where
 wd:=7
 enc:=Fb
 dec:=Gn
 kn:=PK
 wid:=Ms
 dec_enc:=ME
 le:=PQ
def Hp(ks:List Cond):D.list 7 (tJ ks)=enc ks:=by rw[BO];rfl
def Mo(op:Int)(n a v l:B)(f:Bool)(ks:List Cond):enc (Cond.mk op n a v l f ks)= .agg [enc op,enc n,enc a,enc v,enc l,enc f,enc ks]:=by
 rw[<-Hp];show Fb _=_;rw[Fb]
structure Kb where
 op:Int
 cond:Cond
 lab:B
 reg:B
 mn:Int
 mx:Int
 kids:List Kb
def JY:Cond->List D
 | .mk op n a v l f ks=>[enc op,enc n,enc a,enc v,enc l,enc f,enc ks]
def Ou:∀c:Cond,(JY c).length=7
 | .mk .. =>rfl
mutual
def Gm:Kb->D
 | .mk op c l r mn mx ks=> .agg (enc op::(JY c++ [enc l,enc r,enc mn,enc mx, .list 13 (vw ks)]))
def vw:List Kb->List D
 | []=>[]
 | k::ks=>Gm k::vw ks
end
mutual
def Rw:D->Option Kb
 | .agg [x0,y0,y1,y2,y3,y4,y5,y6,x1,x2,x3,x4,x5]=>(dec x0).bind λop=>(dec (D.agg [y0,y1,y2,y3,y4,y5,y6])).bind λc=>(dec x1).bind λl=>(dec x2).bind λr=>(dec x3).bind λmn=>(dec x4).bind λmx=>(Ht x5).bind λks=>some (.mk op c l r mn mx ks)
 | _=>none
def Ht:D->Option (List Kb)
 | .list n es=>if n=13 then Cj es else none
 | .v (.slice none 0 0)=>some []
 | _=>none
def Cj:List D->Option (List Kb)
 | []=>some []
 | d::ds=>(Rw d).bind λx=>(Cj ds).bind λxs=>some (x::xs)
end
def Hn:∀l:List Kb,vw l=l.map Gm
 | []=>rfl
 | _::l=>by rw[vw,Hn l];rfl
def PI:∀c:Kb,(Gm c).kn=true
 | .mk .. =>rfl
def Mq:∀c:Kb,(Gm c).cells.length=13
 | .mk op c l r mn mx ks=>by simp[Gm,D.cells,Ou]
mutual
def Mz:∀c:Kb,Rw (Gm c)=some c
 | .mk op (.mk cop n a v cl f cks) l r mn mx ks=>by
   have h:Ht (.list 13 (vw ks))=some ks:=by rw[Ht,if_pos rfl];exact Hs ks
   have hc:dec (D.agg [enc cop,enc n,enc a,enc v,enc cl,enc f,enc cks])=some (Cond.mk cop n a v cl f cks):=by rw[<-Mo];exact Cod.dec_enc _
   simp only[Gm,JY,qm5,qm9,Rw,Cod.dec_enc,qmx,h,hc]
def Hs:∀l:List Kb,Cj (vw l)=some l
 | []=>by simp only[vw,Cj]
 | c::l=>by simp only[vw,Cj,Mz c,Hs l,qmx]
end
def Rv{y0 y1 y2 y3 y4 y5 y6:D}{c:Cond}(h:dec (D.agg [y0,y1,y2,y3,y4,y5,y6])=some c):LeL [y0,y1,y2,y3,y4,y5,y6] (JY c):=by
 have h':Gn (D.agg [y0,y1,y2,y3,y4,y5,y6])=some c:=h;simp only[Gn,ql9,qmp]at h';obtain⟨op,h0,n,h1,a,h2,v,h3,l,h4,f,h5,ks,h6,rfl⟩:=h';have hk:=PO y6 ks h6;rw[Hp]at hk;exact .cons (Cod.le _ _ h0) (.cons (Cod.le _ _ h1) (.cons (Cod.le _ _ h2) (.cons (Cod.le _ _ h3) (.cons (Cod.le _ _ h4) (.cons (Cod.le _ _ h5) (.cons hk .nil))))))
def LeL.append{a b c d:List D}(h:LeL a b)(k:LeL c d):LeL (a++c) (b++d):=by
 refine⟨by simp[h.1,k.1],λi x y hx hy=>?_⟩;rw[List.getElem?_append]at hx hy;by_cases hi:i < a.length
 ·rw[if_pos hi]at hx;rw[if_pos (by rw[<-h.1];exact hi)]at hy;exact h.2 i x y hx hy
 ·rw[if_neg hi]at hx;rw[if_neg (by rw[<-h.1];exact hi),<-h.1]at hy;exact k.2 _ x y hx hy
mutual
def PN:∀ (d:D) (c:Kb),Rw d=some c->FrzTo cw d (Gm c)
 | .agg [x0,y0,y1,y2,y3,y4,y5,y6,x1,x2,x3,x4,x5],c,h=>by
   simp only[Rw,ql9,qmp]at h;obtain⟨op,h0,c,h1,l,h2,r,h3,mn,h4,mx,h5,ks,h6,rfl⟩:=h;rw[Gm];exact LeL.agg (.cons (Cod.le _ _ h0) ((Rv h1).append (.cons (Cod.le _ _ h2) (.cons (Cod.le _ _ h3) (.cons (Cod.le _ _ h4) (.cons (Cod.le _ _ h5) (.cons (US x5 ks h6) .nil)))))))
def US:∀ (d:D) (l:List Kb),Ht d=some l->FrzTo cw d (.list 13 (vw l))
 | .list n es,l,h=>by
   simp only[Ht]at h;split at h
   ·rename_i hn;subst hn;have hl:=My es l h;refine .list hl.1 (λe he=>?_) hl.2;rw[Hn]at he;obtain⟨x,hx,rfl⟩:=qmo.1 he;exact⟨PI x,Mq x⟩
   ·cases h
 | .v (.slice none 0 0),l,h=>by
   simp only[Ht,qmp]at h;subst h;exact .nil _
def My:∀ (es:List D) (l:List Kb),Cj es=some l->LeL es (vw l)
 | [],l,h=>by
   simp only[Cj,qmp]at h;subst h;exact .nil
 | d::ds,l,h=>by
   simp only[Cj,ql9,qmp]at h;obtain⟨x,h1,xs,h2,rfl⟩:=h;rw[vw];exact .cons (PN d x h1) (My ds xs h2)
end
instance:Cod Kb where
 wd:=13
 enc:=Gm
 dec:=Rw
 kn:=PI
 wid:=Mq
 dec_enc:=Mz
 le:=PN
def Fh:∀es:List D,vz es=es.mapM (dec (X:=Cond))
 | []=>by simp[vz]
 | d::es=>by
   rw[vz,qmQ,Fh es];rfl
def XY:∀d:D,MA d=dec (X:=List Cond) d:=λd=>by
 unfold MA;split
 ·rename_i n es;show _=if n=7 then es.mapM (dec (X:=Cond))else none
  rw[Fh]
 ·rfl
 ·rename_i h1 h2;show _=(match d with
   | .list n es=>if n=7 then es.mapM (dec (X:=Cond))else none
   | .v (.slice none 0 0)=>some []
   | _=>none)
  split
  ·exact absurd rfl (h1 _ _)
  ·exact absurd rfl h2
  ·rfl
@[simp] theorem UC(s:Cond):Cond.mk s.op s.name s.arg s.val s.lab s.fold s.kids=s:=by cases s;rfl
@[simp] theorem UG(s:Cond):enc s= .agg [enc s.op,enc s.name,enc s.arg,enc s.val,enc s.lab,enc s.fold,enc s.kids]:=by cases s;exact Mo ..
@[simp] theorem qeW:Cod.wd Cond=7:=id rfl
@[simp] theorem qd2(x0 x1 x2 x3 x4 x5 x6:D):dec (X:=Cond) (.agg [x0,x1,x2,x3,x4,x5,x6])=((dec x0).bind λx0=>(dec x1).bind λx1=>(dec x2).bind λx2=>(dec x3).bind λx3=>(dec x4).bind λx4=>(dec x5).bind λx5=>(dec x6).bind λx6=>some ⟨x0,x1,x2,x3,x4,x5,x6⟩):=by
 show Gn _=_;simp only[Gn,XY]
def di:CC:=gq Tryz.f88 [] {} _
def dc:List aj:=[.tmp 4]
def mu:aq Tryz.prog dy [] di dc 19:=fo
def dF:CC:=gq Tryz.f66 [] {} _
def dD:List aj:=[.tmp 4]
def gx:aq Tryz.prog be [] dF dD 9:=fo
def eH:CC:=gq Tryz.f93 [] {} _
def eE:List aj:=[.tmp 4]
def jc:aq Tryz.prog dr [] eH eE 19:=fo
def dM:CC:=oX [oB 4 (.mv (.const ob))] [0,1] [] (oX [oA 5 0,oA 6 1,oZ 7 dE [oT 5,oT 6],oB 8 (.cmp .geq (oT 7) (oN 0)),oA 4 8] [4] [] (.ret))
def dJ:List aj:=[.tmp 4]
def eT:CC:=oX [oB 4 (.mv (oN 0))] [0,1] [] (.seq (oX [oA 6 0,oB 7 (.len (oT 6)),oB 8 (.mv (oN 0))] [0,1,7,8] [] (ki 0 8 7 9 1 (oX [oA 10 8,oA 5 10] [0,1,5,7,8] [] (oX [oA 11 1,oA 12 0,oA 13 5,oB 14 (.iaddr 1 (oT 12) (oT 13)),oC 15 1 14,oB 16 (.callv (oT 11) [oT 15])] [0,1,5,7,8,16] [] (.ite (oT 16) (oX [oA 17 5,oA 4 17] [4] [] (.ret)) (.skip)))) 18))
 (.keep [] [] (oX [oB 4 (.mv (oN (-1)))] [4] [] (.ret))))
def eM:List aj:=[.tmp 4]
def dj:CC:=gq Tryz.f90 [] {} _
def de:List aj:=[.tmp 4]
def mw:aq Tryz.prog dz [] dj de 9:=fo
def dL:CC:=gq Tryz.f116 [] {} _
def dI:List aj:=[.tmp 4]
def oR:aq Tryz.prog dU [] dL dI 19:=fo
def eU:CC:=gq Tryz.f92 [3] {} _
def eN:List aj:=[.tmp 4]
def rj:aq Tryz.prog fw [3] eU eN 9:=fo
def hZ:CC:=gq Tryz.f117 [3] {} _
def gI:List aj:=[.tmp 4]
def uJ:aq Tryz.prog iN [3] hZ gI 19:=fo
def fC:CC:=gq Tryz.f64 [] {} _
def fa:List aj:=[.tmp 4]
def sy:aq Tryz.prog cO [] fC fa 19:=fo
def cL:CC:=gq Tryz.f42 [] {} _
def cJ:List aj:=[.tmp 4]
def iB:aq Tryz.prog aV [] cL cJ 9:=fo
def il:CC:=gq Tryz.f32 [3] {} _
def gO:List aj:=[.tmp 6, .tmp 7]
def uS:aq Tryz.prog bQ [3] il gO 40:=fo
def jE:CC:=oX [oB 1 (.box cI true (oT 0)),oB 2 (.mv (.const ob))] [1] [] (oX [oD 6 7 1,oZ 7 bQ [oT 6,oN 0,oN 1],oA 5 7,oB 8 (.ext (oT 5) 0),oB 9 (.ext (oT 5) 1),oA 3 8,oA 4 9] [3] [] (oX [oA 10 3,oB 11 (.cmp .gtr (oT 10) (oN 60)),oA 2 11] [2] [] (.ret)))
def jr:List aj:=[.tmp 2]
def ld:CC:=gq Tryz.f33 [2] {} _
def kb:List aj:=[.tmp 4]
def Aa:aq Tryz.prog aO [2] ld kb 29:=fo
def aW:CC:=gq Tryz.f72 [1,2034005,2033005,2043005,2042005,2041005,2052005,2051005,2050005] {} _
def aS:List aj:=[.tmp 2]
def xV:aq Tryz.prog kK [1,2034005,2033005,2043005,2042005,2041005,2052005,2051005,2050005] aW aS 108:=fo
def fL:CC:=gq Tryz.f63 [3] {} _
def fm:List aj:=[.tmp 4]
def sF:aq Tryz.prog bX [3] fL fm 8:=fo
def eI:CC:=gq Tryz.f89 [2] {} _
def eF:List aj:=[.tmp 3]
def qC:aq Tryz.prog bv [2] eI eF 8:=fo
def fK:CC:=gq Tryz.f61 [] {} _
def fl:List aj:=[.tmp 4]
def yb:aq Tryz.prog gC [] fK fl 14:=fo
def bE:CC:=gq Tryz.f73 [2] {} _
def bz:List aj:=[.tmp 4]
def xX:aq Tryz.prog kL [2] bE bz 50:=fo
def cq:CC:=gq Tryz.f35 [3] {} _
def cn:List aj:=[.tmp 6]
def yc:aq Tryz.prog kM [3] cq cn 59:=fo
def ge:CC:=gq Tryz.f12 [5,4,3] {} _
def fU:List aj:=[.tmp 6]
def tX:aq Tryz.prog bD [5,4,3] ge fU 23:=fo
def eW:CC:=gq Tryz.f34 [3] {} _
def eP:List aj:=[.tmp 4]
def ro:aq Tryz.prog bI [3] eW eP 9:=fo
def gD:CC:=oX [oB 1 (.box cI true (oT 0)),oB 2 (.mv (.const ob))] [1] [] (oX [oE 3 0 1,oC 4 1 3,oB 5 (.eql false false [.int] (oT 4) (oN 4)),oA 6 5,oI 7 6 (.faddr 6 (oT 1)),oI 8 6 (.load false 1 (oT 7)),oI 9 6 (.call be [oT 8,.func bg]),oB 10 (.pick (oT 6) (.const (.bool true)) (oT 9)),oA 2 10] [2] [] (.ret))
def gu:List aj:=[.tmp 2]
def cW:CC:=oX [oB 1 (.box cI true (oT 0)),oB 2 (.alloc cI [oi,oe,oe,oe,oe,ob,on])] [1,2] [2,33] (.seq (oX [oE 6 0 1,oC 7 1 6,oB 8 (.eql false false [.int] (oT 7) (oN 4)),oA 9 8,oI 10 9 (.faddr 0 (oT 1)),oI 11 9 (.load false 1 (oT 10)),oI 12 9 (.eql false false [.int] (oT 11) (oN 6)),oI 13 9 (.mv (oT 12)),oH 14 13 (.load true 7 (oT 1)),
 oH 15 13 (.call bg [oT 14]),oI 16 9 (.pick (oT 13) (oT 15) (.const ob)),oB 17 (.pick (oT 9) (.const (.bool true)) (oT 16))] [1,2,17] [2,33] (.ite (oT 17) (oX [oB 18 (.build [oi,oe,oe,oe,oe,ob,on] [(0,1,oN 1)]),oF 7 2 18] [2] [2,33] (.ret)) (.skip))) (.keep [1,2] [2,33] (oX [oD 19 7 1,oB 3 (.alloc cI [oi,oe,oe,oe,oe,ob,on]),oF 7 3 19] [1,2,3] [2,3,33] (NB 5 (.reg [
 oE 20 6 3,.op none none (.store none 1 (oT 20) (.const on))]) (.keep [1,2,3] [2,3,33] (.seq (oX [oE 21 6 1,oC 22 1 21,oB 23 (.len (oT 22)),oB 24 (.mv (oN 0))] [2,3,22,23,24] [2,3,33] (ki 0 24 23 25 1 (oX [oB 26 (.iaddr 7 (oT 22) (oT 24)),oD 27 7 26,oB 5 (.alloc cI [oi,oe,oe,oe,oe,ob,on]),oF 7 5 27] [2,3,5,22,23,24] [2,3,5,33] (.regd [oE 28 6 3,oC 29 1 28,oD 30 7 5,
 oZ 31 bV [oT 30],oB 32 (.bslice cI 7 [oT 31])] [oB 33 (.append (some 33) cI 7 104 (oT 29) (oT 32)),oE 34 6 3,.op none none (.store (some 3) 1 (oT 34) (oT 33))])) 35)) (.keep [2,3] [2,3,33] (oX [oD 36 7 3,oF 7 2 36] [2] [2,33] (.ret)))))))))
def cT:List aj:=[.cell 2 true 7]
def bF:CC:=gq Tryz.f60 [3] {} _
def bA:List aj:=[.tmp 6]
def yd:aq Tryz.prog kN [3] bF bA 38:=fo
def iU:CC:=gq Tryz.f65 [5,4,3] {} _
def iG:List aj:=[.tmp 6]
def wA:aq Tryz.prog jx [5,4,3] iU iG 11:=fo
def bu:CC:=gq Tryz.f91 [3] {} _
def bq:List aj:=[.tmp 4]
def tW:aq Tryz.prog bC [3] bu bq 37:=fo
def oU:aq Tryz.prog cK [] dM dJ 9:=fo
def ri:aq Tryz.prog dE [] eT eM 19:=fo
def xZ:aq Tryz.prog du [1] jE jr 12:=fo
def Ab:aq Tryz.prog bg [1] gD gu 11:=fo
def xY:aq Tryz.prog bV [1,2034003,1033033] cW cT 37:=fo
end Go.Gv
