/- W18 -/
import Derived.Test.YtmakafgajmnflaaGreatDoorGf12
set_option linter.all false
set_option maxRecDepth 100000
set_option maxHeartbeats 0
open Bool renaming forall_bool → fB', exists_bool → eB'
namespace Go.Gv
section
open Cod (enc dec)
variable {S S0:Nat->Spc}
def qlH(n:Nat)(hs:List Int)(rs:List B):Prop:=hs.length=n/\rs.length=n/\∀h∈hs,h<=n
def qbU(c c':Corpus):Prop:=∃hs rs,c'={ c with heads:=hs,rels:=rs } /\hs.length<=c.toks.length/\rs.length<=c.toks.length/\∀h∈hs,h<=c.toks.length
theorem qcd(h1:S cv=s_m_Next):TL td sF S qkk qrL CN qbU:=by
 intro L b c hc;have hc:c.toks.length<=4096:=hc;simp[td,sF,h1,qkk];intro _;refine tT (X:=Int×List Int) [0,1,4] [1] [] [27] [] [] (λx=>0<=x.1/\x.1<=c.toks.length/\(x.2.length:Int)=x.1/\∀y∈x.2,0<=y/\y<c.toks.length) (λx=>[(5,enc x.2),(6,enc x.1)]) (λx=>[]) (λx=>c.toks.length -x.1.toNat) (0, []) [] (λ_=>rfl) (by decide) (by decide) ?_ ?_ ?_ ?_
 ·simp
 ·simp
 ·simp
 ·rintro⟨i,l⟩ ⟨W,Y,Z,A⟩;simp only at W Y Z A;simp[h1];refine⟨λhi=>⟨by simp only[InR];omega,by omega,λy hy=>?_⟩,λhi=>?_⟩
  ·have e:List.take y.toNat (List.map enc l) ++D.v (.int .i64 i)::List.drop y.toNat (List.map enc l)=(l.take y.toNat++i::l.drop y.toNat).map enc:=by simp
   refine⟨by omega,by omega,by omega,by omega,by omega,by omega,by omega,by omega,by omega,by omega,λv=>⟨by simp only[InR];omega,i+1,l.take y.toNat++i::l.drop y.toNat,⟨by omega,by omega,?_,λz hz=>?_⟩,⟨?_,rfl⟩,by omega⟩⟩
   ·simp;omega
   ·rcases qCk.1 hz with hz|hz
    ·exact A z (qCD hz)
    ·rcases qCm.1 hz with hz|hz
     ·omega
     ·exact A z (qC1 hz)
   ·rw[e];exact gp bE (by simp[JS])
  ·have hil:l.length=c.toks.length:=by omega
   refine⟨by omega,by omega,λC=>⟨by omega,by omega,λE=>?_⟩⟩;refine bc (X:=Bool×List Int×List B) [1] [1] (λx=>qlH c.toks.length x.2.1 x.2.2) (λx=>[(8, .sub 40 C 1 0 c.toks.length),(9, .sub 42 E 1 0 c.toks.length),(10,enc x.1)]) (λx=>[(40, .row C bE 1 (x.2.1.map enc)),(42, .row E au 1 (x.2.2.map enc))]) ?_ ?_
   ·simp[-eB'];intro _;refine HR ((qed 8 40 C bE 1 _ rfl rfl).trans (qed 9 42 E au 1 _ rfl rfl)) ?_;simp only[qqA];refine ah (X:=Bool×List Int×List B) [0,1,5,8,9,43] [1] l.length (λ_ x=>qlH c.toks.length x.2.1 x.2.2) (λx=>[(10,enc x.1)]) (λx=>[(40, .row C bE 1 (x.2.1.map enc)),(42, .row E au 1 (x.2.2.map enc))]) (false,List.replicate c.toks.length 0,List.replicate c.toks.length ⟨#[]⟩) (by simp[qlH]) ?_ ?_
    ·rintro k ⟨sm,hs,rs⟩ hk ⟨p,j,q⟩;simp only at p j q;obtain⟨x,N⟩:=bh hk;obtain⟨_,O⟩:=qCd.1 N;have hxr:=A x (aY N);simp[hk,N,O,-eB'];refine⟨by omega,by omega,by omega,λa Q=>?_⟩;have U:(List.map enc hs).set x.toNat (D.v (Value.int .i64 (-1)))=(hs.set x.toNat (-1)).map enc:=jL hs _ _;rw[U];have r:(hs.set x.toNat (-1)).length=c.toks.length:=by simp[p]
     have t:∀h∈hs.set x.toNat (-1),h<=c.toks.length:=λh hh=>by
      rcases qDi hh with hh|hh
      ·exact q h hh
      ·omega
     generalize hs.set x.toNat (-1)=d at r t ⊢;clear p q Q U;refine bc (X:=List Int×List B) [0,1,5,8,9,10,12,43,44,45] [1] (λx=>qlH c.toks.length x.1 x.2) (λ_=>[]) (λx=>[(40, .row C bE 1 (x.1.map enc)),(42, .row E au 1 (x.2.map enc))]) ?_ ?_
     ·simp[h1,US,mu,rq,-eB'];have hlx:∀(y:Int),d.length=c.toks.length->∃z,d[x.toNat]? =some z:=λ_ _=>bh (by omega)
      refine⟨λhk0 y _ _=>⟨λ_=>⟨by omega,λy2 hy2=>⟨by omega,by omega,λa Q y3 F I=>⟨F,I,λs _=>⟨by omega,by omega,by omega,λz _=>⟨by omega,by omega,by omega,λz2 _=>⟨d.set x.toNat a,rs.set x.toNat s,⟨by simp[r],by simp[j],λh hh=>?_⟩, .inl (jL d _ _), .inl (jL rs _ _)⟩⟩⟩⟩⟩⟩,λ_=>⟨d,rs,⟨r,j,t⟩, .inl rfl, .inl rfl⟩⟩,λ_=>⟨d,rs,⟨r,j,t⟩, .inl rfl, .inl rfl⟩⟩;rcases qDi hh with hh|hh
      ·exact t h hh
      ·have:=A a (aY Q);omega
     ·rintro⟨u,w⟩ ⟨J,K,M⟩;simp only at J K M;simp[-eB'];refine⟨λ_=>⟨by omega,by omega,by omega,λa _=>⟨λ_=>⟨by omega,by omega,by omega,λa2 _=>⟨!decide (a2=⟨#[]⟩),u,w,⟨J,K,M⟩,by simp, .inl rfl, .inl rfl⟩⟩,λ_=>⟨true,u,w,⟨J,K,M⟩,by simp, .inl rfl, .inl rfl⟩⟩⟩,λ_=>⟨true,u,w,⟨J,K,M⟩,by simp, .inl rfl, .inl rfl⟩⟩
    ·rintro⟨sm,hs,rs⟩ ⟨p,j,q⟩;simp only at p j q;simp[-eB'];exact⟨sm,hs,rs,⟨p,j,q⟩,rfl, .inl rfl, .inl rfl⟩
   ·rintro⟨sm,hs,rs⟩ ⟨p,j,q⟩;simp only at p j q;simp;refine⟨λ_=>⟨{ c with heads:=hs,rels:=rs },_,rfl,rfl,?_,⟨hs,rs,rfl,by omega,by omega,q⟩⟩,λ_=>⟨{ c with heads:=[],rels:=[] },_,rfl,rfl,?_,⟨[], [],rfl,by simp,by simp,by simp⟩⟩⟩
    ·simp[qrL];exact⟨qrS bE rfl p.symm,qrS au rfl j.symm⟩
    ·simp[qrL]
abbrev s_m_word:Spc:=aJ (a1 Int) (λn=>0<=n/\n< 6) (enc (X:=B)) λ_ y=>y∈XR
def qei:aq I4 H6 S (a1 Int) (λn=>0<=n/\n< 6) (enc (X:=B)) λ_ y=>y∈XR:=by
 rintro n hn;have hn:0<=n/\n< 6:=hn;simp[I4,H6];refine⟨hn.1,hn.2,?_⟩;have:n=0\/n=1\/n=2\/n=3\/n=4\/n=5:=by omega
 rcases this with rfl|rfl|rfl|rfl|rfl|rfl<;>simp[XR]
abbrev s_m_tag:Spc:=aJ (a1 Int) (λn=>0<=n/\n< 2) (enc (X:=B)) λ_ y=>y∈qil
def qi9:aq NP Mn S (a1 Int) (λn=>0<=n/\n< 2) (enc (X:=B)) λ_ y=>y∈qil:=by
 rintro n hn;have hn:0<=n/\n< 2:=hn;simp[NP,Mn];refine⟨hn.1,hn.2,?_⟩;have:n=0\/n=1:=by omega
 rcases this with rfl|rfl<;>simp[qil]
abbrev s_m_features:Spc:=aJ (a1 Int) (λn=>0<=n/\n< 4) (enc (X:=B)) λ_ y=>y∈QX
def Rk:aq xt wJ S (a1 Int) (λn=>0<=n/\n< 4) (enc (X:=B)) λ_ y=>y∈QX:=by
 rintro n hn;have hn:0<=n/\n< 4:=hn;simp[xt,wJ];refine⟨hn.1,hn.2,?_⟩;have:n=0\/n=1\/n=2\/n=3:=by omega
 rcases this with rfl|rfl|rfl|rfl<;>simp[QX]
abbrev s_m_Type:Spc:=aJ (a1 Int) bW (enc (X:=B)) rP
def qej(h1:S wi=s_m_Mod):aq yr ya S (a1 Int) bW (enc (X:=B)) rP:=by
 rintro n -;simp[yr,ya,h1];have h3:=M1 n 3 (by omega);refine⟨h3.1,h3.2,?_⟩;have:Iy n 3=0\/Iy n 3=1\/Iy n 3=2:=by omega
 rcases this with h|h|h<;>simp[h]
abbrev s_m_Attributes:Spc:=aJ a0 bW (enc (X:=List Attr)) (λ_ l=>qmE l)
def LJ:aq tg sH S a0 bW (enc (X:=List Attr)) (λ_ l=>qmE l):=by
 rintro x -;simp[tg,sH];exact bF (Y:=List Attr) [⟨⟨#[119,111,114,100]⟩,false⟩,⟨⟨#[116,97,103]⟩,false⟩,⟨⟨#[102,101,97,116]⟩,true⟩] (by simp) rfl
abbrev s_m_nodes:Spc:=qv6 quf qkk CN TO
abbrev s_m_heads:Spc:=qv6 qkk qrL CN qbU
def qgN{H:ab}{id el n:Nat}{v:Value}{d a:D}(h:H id=some (.row v el n [d]))(b:FrzTo H d a)(hk:a.kn=true/\a.cells.length=n):FrzTo H (.own id v) (.list n [a]):=by
 refine .row h rfl (λe he=>?_) (λk c c' h1 h2=>?_)
 ·simp at he;subst he;exact hk
 ·cases k with
  |zero=>simp at h1 h2;subst h1;subst h2;exact b
  |succ k=>simp at h1
def qgt(l:List Int):List D:=l.map enc
def qrE(a b c d e f g h:Int):D.list 1 [.v (.int .i64 a), .v (.int .i64 b), .v (.int .i64 c), .v (.int .i64 d), .v (.int .i64 e), .v (.int .i64 f), .v (.int .i64 g), .v (.int .i64 h)]= .list 1 (qgt [a,b,c,d,e,f,g,h]):=i' rfl
def qgs(l:List Int):(qgt l).length=l.length:=by simp[qgt]
def qkF(l:List Int)(i:Nat)(d:D):((qgt l)[i]? =some d)=∃s,l[i]? =some s/\ .v (.int .i64 s)=d:=by
 simp[qgt]
def qeA{l:List (List B)}{r:List B}(h:∀x∈l,Dw x)(a:Dw r):∀x∈l++ [r],Dw x:=λx hx=>by
 rcases qCk.1 hx with hx|hx
 ·exact h x hx
 ·rw[qDH]at hx;rw[hx];exact a
theorem Rm(h1:S cv=s_m_Next)(h2:S vd=s_m_Attributes)(h3:S Nt=s_m_word)(h4:S Td=s_m_tag)(h5:S zQ=s_m_features)
 (h6:S sf=s_m_Type) (h7:S pd=s_r06_SortRegions) (h8:S uX=s_m_nodes) (h9:S uY=s_m_heads):
 aq nk mU S (aT (a2 B Int)) (λx=>1<=x.2.2/\x.2.2<=1000) (enc (X:=Corpus)) (λx c=>X6 c/\TX c/\(c.toks.length:Int)<=x.2.2):=by
 rintro⟨L,name,a⟩ hm;have hm:1<=a/\a<=1000:=hm;simp[nk,mU,h1,h2];refineλb6=>⟨by omega,λy hy=>⟨by simp only[InR];omega,trivial,λat_ C v26 E=>?_⟩⟩
 have hal:at_.length=3:=by rw[show at_=iS from C];rfl
 obtain⟨n,F,hn⟩:∃n:Nat,1+y=(n:Int)/\1<=n/\n<=1000:=⟨(1+y).toNat,by omega,by omega⟩
 rw[F];refine fE (X:=ro) [0,6,7,8] [6] [26] [] (λt=>t.b=0/\t.e=n) (λ_=>[]) (λt=>[(8, .box E [enc at_, .v (.slice none 0 0),enc [t], .v (.slice none 0 0), .v (.slice none 0 0), .v (.slice none 0 0), .v (.slice none 0 0)])]) [8] (λ_=>rfl) (by decide) ?_ ?_
 ·simp[h1,US,mu,rq];refineλz _ _=>⟨λ_ u I J=>⟨I,J,λs _=>⟨⟨name,0,n, [⟨⟨#[121,101,97,114]⟩,s⟩]⟩,⟨rfl,rfl⟩, .inl (qgN (el:=Cp) (by simp[JS]) (.same _) ⟨rfl,rfl⟩)⟩⟩,λ_=>⟨⟨name,0,n, []⟩,⟨rfl,rfl⟩, .inl (qgN (el:=Cp) (by simp[JS];rfl) ?_ ⟨rfl,rfl⟩)⟩⟩
  rw[cg,cg,cg,cg];exact⟨.same _, .same _, .same _, .nil _, .same _⟩
 ·rintro t ⟨K,ht2⟩;refine fE (X:=List (List B)) [0,6,7,8] [6] [66] [] (λl=>l.length=n/\∀r∈l,Dw r) (λ_=>[]) (λl=>[(8, .box E [enc at_,enc l,enc [t], .v (.slice none 0 0), .v (.slice none 0 0), .v (.slice none 0 0), .v (.slice none 0 0)])]) [8] (λ_=>rfl) (by decide) ?_ ?_
  ·simp[h1];refine tT (X:=Int×Value×List (List B)) [0,6,7,8] [6] [] [] [] [] (λx=>0<=x.1/\x.1<=n/\(x.2.2.length:Int)=x.1/\∀r∈x.2.2,Dw r) (λx=>[(9,enc x.1)]) (λx=>[(8, .box E [enc at_, .own 66 x.2.1,enc [t], .v (.slice none 0 0), .v (.slice none 0 0), .v (.slice none 0 0), .v (.slice none 0 0)]),(66, .row x.2.1 vU 1 (x.2.2.map enc))]) (λx=>n -x.1.toNat) (0, .slice none 0 0, []) [8,66] (λ_=>rfl) (by decide) (by decide) ?_ ?_ ?_ ?_
   ·simp
   ·simp
   ·simp[isNilRow];exact .nilown 66
   ·rintro⟨i,v,l⟩ ⟨M,N,A,O⟩;simp only at M N A O;simp[h1,h3,h4,h5,qrE,qgs,qkF];refine⟨λhi y d hy1=>?_,λhi=>⟨l,⟨by omega,O⟩, .inl (gp vU (by simp[JS]))⟩⟩;have a1:y.tmod 8=y % 8:=Int.tmod_eq_emod_of_nonneg d;have a2:y.tdiv 8=y/8:=Int.tdiv_eq_ediv_of_nonneg d;have a3:(y/8).tmod 2=(y/8) % 2:=Int.tmod_eq_emod_of_nonneg (by omega);have a4:y.tdiv 12=y/12:=Int.tdiv_eq_ediv_of_nonneg d;rw[a1,a2,a3,a4];refine⟨by omega,by omega,λs hs=>⟨?_,λw1 Q=>⟨by simp only[InR];omega,by omega,λw2 U=>⟨by simp only[InR];omega,by omega,λw3 W=>⟨by omega,by omega,λY=>⟨by simp only[InR];omega,i+1,Y,l++ [[w1,w2,w3]],⟨by omega,by omega,by simp;omega,qeA O ⟨w1,w2,w3,Q,U,W,rfl⟩⟩,⟨rfl, .inl (.inl rfl), .inl (.inl (by simp))⟩,by omega⟩⟩⟩⟩⟩⟩;have:=qCg hs;simp at this;omega
  ·rintro toks ⟨htk,Z⟩;refine fE (X:=List Region) [0,6,7,8] [6,8] [165] [] (λl=>l.length<=8/\∀r∈l,0<=r.b/\r.b<=n/\0<=r.e/\r.e<=n) (λl=>[(11,enc l)]) (λ_=>[]) [] (λ_=>rfl) (by decide) ?_ ?_
   ·simp[h1];intro k hk0 hk1;refine tT (X:=Int×Value×List Region) [0,6,7,8] [6,8] [] [] [] [] (λx=>0<=x.1/\x.1+x.2.2.length<=4/\∀r∈x.2.2,0<=r.b/\r.b<=n/\0<=r.e/\r.e<=n) (λx=>[(11, .own 165 x.2.1),(12,enc x.1)]) (λx=>[(165, .row x.2.1 nz 4 (x.2.2.map enc))]) (λx=>x.1.toNat) (k, .slice none 0 0, []) [165] (λ_=>rfl) (by decide) (by decide) ?_ ?_ ?_ ?_
    ·simp;omega
    ·simp;exact .nilown 165
    ·simp[isNilRow]
    ·rintro⟨k,v,l⟩ ⟨M,N,A⟩;simp only at M N A;simp[h1,h6];refine⟨λhk=>⟨by omega,λu hu z _ _=>⟨trivial,λty=>⟨by simp only[InR];omega,by simp only[InR];omega,by omega,λw hw=>⟨by simp only[InR];omega,λb14=>?_⟩⟩⟩⟩,λhk=>⟨l,⟨by omega,A⟩,gp nz (by simp[JS])⟩⟩;have hr:0<=u/\u<=n/\0<=u+1+w/\u+1+w<=n:=by omega
     generalize u+1+w=e' at*;refine fE (X:=List Pair) [0,6,7,8,11,12,14] [6,8,165] [] [] (λ_=>True) (λ_=>[]) (λkv=>[(14, .box b14 [.v (.string ty), .v (.int .i64 u), .v (.int .i64 e'),enc kv])]) [14] (λ_=>rfl) (by decide) ?_ ?_
     ·simp[h1,PK,mu,rq];exactλ_ _ _ _ q hq0 hq1=>⟨hq0,hq1,λs _=>⟨[⟨⟨#[110]⟩,s⟩], .inl (.inl rfl)⟩⟩
     ·rintro kv -;simp only[qn7,qky];simp;refine bc (X:=Bool) [0,6,7,8,11,12,14] [6,8,14,165] (λ_=>True) (λx=>[(15,enc x)]) (λ_=>[]) ?_ ?_
      ·simp[-eB'];intro _;refine ah (X:=Bool) [0,6,7,8,11,12,14,101] [6,8,14,165] l.length (λ_ _=>True) (λx=>[(15,enc x)]) (λ_=>[]) false trivial ?_ ?_
       ·rintro j cr hj -;obtain⟨x,hx⟩:=bh hj;obtain⟨_,hgx⟩:=qCd.1 hx;simp[hj,hx,hgx,-eB'];exactλ_ _ _ _=>⟨λ_ _ _=>⟨_,(Bool.not_not _).symm⟩,λ_ _=>⟨_,(Bool.not_not _).symm⟩⟩
       ·rintro cr -;simp[-eB']
      ·rintro cr -;simp[-eB'];refine⟨λ_=>⟨by omega,by omega,λY=>⟨by simp only[InR];omega,k -1,Y,l++ [⟨ty,u,e',kv⟩],⟨by omega,by simp;omega,λr hrr=>?_⟩,⟨⟨.same _,rfl⟩, .inl (.inl (by simp))⟩,by omega⟩⟩,λ_=>⟨by simp only[InR];omega,k -1,v,l,⟨by omega,by omega,A⟩,⟨⟨.same _,rfl⟩, .inl (.inl rfl)⟩,by omega⟩⟩;rcases qCk.1 hrr with hrr|hrr
       ·exact A r hrr
       ·simp at hrr;subst hrr;exact hr
   ·rintro rg ⟨hr1,hr2⟩;simp[h7,h8];refine⟨by simp only[ZU];omega,λrs ⟨hs1,hs2⟩=>⟨⟨at_,toks, [t],rs, [], [], []⟩,by simp[quf],by simp only[CN];omega,λc hc=>?_⟩⟩;obtain⟨ns,rfl,hns,p⟩:=hc;simp only at p;simp[qkk];refine fE (X:=List Int×List B) [6,8] [6] [] [] (λx=>x.1.length<=n/\x.2.length<=n/\∀h∈x.1,h<=n) (λ_=>[]) (λx=>[(8, .box E [enc at_,enc toks,enc [t],enc rs,enc ns,enc x.1,enc x.2])]) [8] (λ_=>rfl) (by decide) ?_ ?_
    ·simp[h1,h9];refineλz _ _=>⟨λ_=>⟨⟨at_,toks, [t],rs,ns, [], []⟩,by simp[qkk],by simp only[CN];omega,λc hc=>?_⟩,λ_=>⟨[], [],⟨by simp,by simp,by simp⟩, .inl ⟨rfl,rfl⟩⟩⟩
     obtain⟨hs,rl,rfl,g1,g2,g3⟩:=hc;simp only at g1 g2 g3;simp[qrL];exact⟨hs,rl,⟨by omega,by omega,λh hh=>by have:=g3 h hh;omega⟩, .inl (.inl ⟨rfl,rfl⟩)⟩
    ·rintro⟨hs,rl⟩ ⟨p1,p2,p3⟩;simp only at p1 p2 p3;simp;refine bF ⟨at_,toks, [t],rs,ns,hs,rl⟩ (.same _) ⟨?_,⟨C,Z⟩,by show(toks.length:Int)<=a;omega⟩;refine⟨⟨K,by omega,by show t.e=(toks.length:Int);omega⟩,by simp,by simp only;omega,by simp,by simp only;omega,by simp only;omega,by simp only;omega,by simp only;omega,by simp only;omega,λr hr=>?_,λm hm=>?_,p.2,λh hh=>?_⟩
     ·have:=hr2 r (hs2 r hr);simp only;omega
     ·have:=p.1 m hm;simp only;omega
     ·have:=p3 h hh;simp only;omega
end
section
open Go.Proofs
variable {dq:Prop}
def RK:Tri dq Tryz.prog wi s_m_Mod.pt:=
 ac (ag ae) qfR (qjb)
def du:Tri dq Tryz.prog cv s_m_Next.pt:=qez (S:=FG [(wi,s_m_Mod)]) (ag (aa RK ae)) rfl MT (by decide)
def qjC:Tri dq Tryz.prog Te s_m_New.pt:=qjz (Yx (ag ae) qfQ (by decide) qja)
def Jz:Tri dq Tryz.prog kM s_r04_First.pt:=
 ac (ag ae) Gf (Ul)
def YE:Tri dq Tryz.prog uV s_r04_Next.pt:=
 ac (ag (aa Jz ae)) JK (Ye rfl)
def fP:Tri dq Tryz.prog cq s_r04_ValidName.pt:=
 ac (ag (aa Jz (aa YE ae))) yh (J3 rfl rfl)
def UP:Tri dq Tryz.prog BW s_r01_Units.pt:=
 ac (ag ae) Ss (Un)
def UO:Tri dq Tryz.prog BV s_r01_Valid.pt:=
 ac (ag (aa UP ae)) Sr (Um rfl)
def qe:Tri dq Tryz.prog gU s_r04_ValidValue.pt:=
 ac (ag (aa UO ae)) Ge (HF rfl)
def UN:Tri dq Tryz.prog BU s_r05_Parse.pt:=
 ac (ag (aa qe ae)) Sq (Uj rfl)
def YC:Tri dq Tryz.prog EJ s_r06_sign.pt:=
 ac (ag ae) VR (Yc)
def OT:Tri dq Tryz.prog wV s_r06_compare.pt:=
 ac (ag ae) MJ (Oy)
def rQ:Tri dq Tryz.prog gc s_r06_CompareRegions.pt:=
 ac (ag (aa YC (aa OT ae))) AM (A0 rfl rfl)
def HV:Tri dq Tryz.prog qK s_r06_Attributes.pt:=
 ac (ag (aa fP ae)) Gd (HD rfl)
def UK:Tri dq Tryz.prog BR s_r06_Value.pt:=
 ac (ag (aa UN (aa qe ae))) Sn (Ug rfl rfl)
def Jy:Tri dq Tryz.prog wg s_r06_pairs.pt:=
 ac (ag (aa fP (aa qe ae))) Sl (Ue rfl rfl)
def FH:Tri dq Tryz.prog tO s_r06_within.pt:=
 ac (ag ae) OZ (Q9)
def YD:Tri dq Tryz.prog EK s_r06_bare.pt:=
 ac (ag ae) VS (Yd)
def RH:Tri dq Tryz.prog zK s_r06_TextAt.pt:=
 ac (ag ae) O3 (Rc)
def LZ:Tri dq Tryz.prog uU s_r06_FindText.pt:=
 ac (ag ae) Kr (LC)
def Bc:Tri dq Tryz.prog kL s_r06_sameAttributes.pt:=
 ac (ag ae) AL (AZ)
def RG:Tri dq Tryz.prog zJ s_r06_cyclic.pt:=
 ac (ag ae) O1 (Rb)
def RE:Tri dq Tryz.prog zI s_r06_tokens.pt:=
 ac (ag (aa UK ae)) O0 (Ra rfl)
def UI:Tri dq Tryz.prog BP s_r06_texts.pt:=
 ac (ag (aa fP (aa Jy ae))) Sk (Ud rfl rfl)
def OS:Tri dq Tryz.prog wU s_r06_regions.pt:=
 ac (ag (aa fP (aa Jy (aa FH (aa rQ ae))))) MI (Ox rfl rfl rfl rfl)
def UM:Tri dq Tryz.prog BT s_r06_Nodes.pt:=
 ac (ag (aa fP (aa FH ae))) Sp (Ui rfl rfl)
def UJ:Tri dq Tryz.prog BQ s_r06_heads.pt:=
 ac (ag (aa fP (aa YD (aa RH (aa RG ae))))) Sm (Uf rfl rfl rfl rfl)
def LY:Tri dq Tryz.prog uT s_r06_Validate.pt:=
 ac (ag (aa HV (aa RE (aa UI (aa OS (aa UM (aa UJ ae))))))) Kq (LB rfl rfl rfl rfl rfl rfl)
def UL:Tri dq Tryz.prog BS s_r06_Valid.pt:=
 ac (ag (aa LY ae)) So (Uh rfl)
def FI:Tri dq Tryz.prog pd s_r06_SortRegions.pt:=
 ac (ag (aa rQ ae)) Eb (Fg rfl)
def LX:Tri dq Tryz.prog uS s_r06_allHeads.pt:=
 ac (ag ae) Kp (LA)
def RI:Tri dq Tryz.prog zL s_r06_Concat.pt:=
 ac (ag (aa UL (aa Bc (aa LZ (aa LX ae))))) O4 (Rd rfl rfl rfl rfl)
def qeH:Tri dq Tryz.prog Nt s_m_word.pt:=
 ac (ag ae) qcS (qei)
def qjB:Tri dq Tryz.prog Td s_m_tag.pt:=
 ac (ag ae) qfP (qi9)
def RJ:Tri dq Tryz.prog zQ s_m_features.pt:=
 ac (ag ae) Pe (Rk)
def qeI:Tri dq Tryz.prog sf s_m_Type.pt:=
 ac (ag (aa RK ae)) Qa (qej rfl)
def L3:Tri dq Tryz.prog vd s_m_Attributes.pt:=
 ac (ag ae) KA (LJ)
def L0:Tri dq Tryz.prog uX s_m_nodes.pt:=
 Jv (ag (aa du ae)) Kv (by decide) (qcc rfl)
def L2:Tri dq Tryz.prog uY s_m_heads.pt:=
 Jv (ag (aa du ae)) Kx (by decide) (qcd rfl)
def FJ:Tri dq Tryz.prog pj s_m_Document.pt:=
 ac (ag (aa du (aa L3 (aa qeH (aa qjB (aa RJ (aa qeI (aa FI (aa L0 (aa L2 ae)))))))))) Eh (Rm rfl rfl rfl rfl rfl rfl rfl rfl rfl)
def Km:Tri dq Tryz.prog sP s_m_Corpus.pt:=
 ac (ag (aa du (aa FJ (aa RI ae)))) Ip (Yi rfl rfl rfl)
end
section
open Cod (enc dec)
structure Cond where
 op:Int
 name:B
 arg:B
 val:B
 lab:B
 fold:Bool
 kids:List Cond
mutual
def Tm:Cond->D
 | .mk op n a v l f ks=> .agg [enc op,enc n,enc a,enc v,enc l,enc f, .list 7 (B3 ks)]
def B3:List Cond->List D
 | []=>[]
 |k::ks=>Tm k::B3 ks
end
mutual
def Pn:D->Option Cond
 | .agg [b,c,d,h,j,k,p]=>(dec b).bind λop=>(dec c).bind λn=>(dec d).bind λa=>(dec h).bind λv=>(dec j).bind λl=>(dec k).bind λf=>(Xm p).bind λks=>some (.mk op n a v l f ks)
 | _=>none
def Xm:D->Option (List Cond)
 | .list n es=>if n=7 then G6 es else none
 | .v (.slice none 0 0)=>some []
 | _=>none
def G6:List D->Option (List Cond)
 | []=>some []
 |d::ds=>(Pn d).bind λx=>(G6 ds).bind λxs=>some (x::xs)
end
theorem IY:∀l:List Cond,B3 l=l.map Tm
 | []=>rfl
 | _::l=>by rw[B3,IY l];rfl
theorem qbr:∀c:Cond,(Tm c).kn=true
 | .mk .. =>rfl
theorem WX:∀c:Cond,(Tm c).cells.length=7
 | .mk .. =>rfl
mutual
def Xr:∀c:Cond,Pn (Tm c)=some c
 | .mk op n a v l f ks=>by
   have h:Xm (.list 7 (B3 ks))=some ks:=by rw[Xm,if_pos rfl];exact QK ks
   simp_all [Tm,Pn]
def QK:∀l:List Cond,G6 (B3 l)=some l
 | []=>by rfl
 |c::l=>by simp only[B3,G6,Xr c,QK l,qCy]
end
mutual
def qbz:∀(d:D) (c:Cond),Pn d=some c->FrzTo bV d (Tm c)
 | .agg [j,k,p,q,r,s,b],c,h=>by
   simp only[Pn,qCc,qCq]at h;obtain⟨op,h0,n,h1,a,h2,v,h3,l,h4,f,h5,ks,h6,rfl⟩:=h;rw[Tm];exact LeL.agg (.cons (Cod.le _ _ h0) (.cons (Cod.le _ _ h1) (.cons (Cod.le _ _ h2) (.cons (Cod.le _ _ h3) (.cons (Cod.le _ _ h4) (.cons (Cod.le _ _ h5) (.cons (qbx b ks h6) .nil)))))))
def qbx:∀(d:D) (l:List Cond),Xm d=some l->FrzTo bV d (.list 7 (B3 l))
 | .list n es,l,h=>by
   simp only[Xm]at h;split at h
   ·rename_i hn;subst hn;have hl:=Xq es l h;refine .list hl.1 (λe he=>?_) hl.2;grind [IY,qbr,WX]
   grind
 | .v (.slice none 0 0),l,h=>by
   simp only[Xm,qCq]at h;subst h;exact .nil _
def Xq:∀(es:List D) (l:List Cond),G6 es=some l->LeL es (B3 l)
 | [],l,h=>by
   simp only[G6,qCq]at h;subst h;exact .nil
 | d::ds,l,h=>by
   simp only[G6,qCc,qCq]at h;obtain⟨x,h1,xs,h2,rfl⟩:=h;rw[B3];exact .cons (qbz d x h1) (Xq ds xs h2)
end
instance:Cod Cond where
 wd:=7
 enc:=Tm
 dec:=Pn
 kn:=qbr
 wid:=WX
 dec_enc:=Xr
 le:=qbz
def QE(ks:List Cond):D.list 7 (B3 ks)=enc ks:=by rw[IY];rfl
theorem Nx(op:Int)(n a v l:B)(f:Bool)(ks:List Cond):enc (Cond.mk op n a v l f ks)= .agg [enc op,enc n,enc a,enc v,enc l,enc f,enc ks]:=by
 rw[<-QE];rfl
structure Pat where
 op:Int
 cond:Cond
 lab:B
 reg:B
 mn:Int
 mx:Int
 kids:List Pat
def B6:Cond->List D
 | .mk op n a v l f ks=>[enc op,enc n,enc a,enc v,enc l,enc f,enc ks]
def NO:∀c:Cond,(B6 c).length=7
 | .mk .. =>rfl
mutual
def Pm:Pat->D
 | .mk op c l r mn mx ks=> .agg (enc op::(B6 c++ [enc l,enc r,enc mn,enc mx, .list 13 (B2 ks)]))
def B2:List Pat->List D
 | []=>[]
 |k::ks=>Pm k::B2 ks
end
mutual
def Xl:D->Option Pat
 | .agg [a,b,d,h,j,k,p,q,s,t,u,w,x]=>(dec a).bind λop=>(dec (D.agg [b,d,h,j,k,p,q])).bind λc=>(dec s).bind λl=>(dec t).bind λr=>(dec u).bind λmn=>(dec w).bind λmx=>(JV x).bind λks=>some (.mk op c l r mn mx ks)
 | _=>none
def JV:D->Option (List Pat)
 | .list n es=>if n=13 then G5 es else none
 | .v (.slice none 0 0)=>some []
 | _=>none
def G5:List D->Option (List Pat)
 | []=>some []
 |d::ds=>(Xl d).bind λx=>(G5 ds).bind λxs=>some (x::xs)
end
theorem IW:∀l:List Pat,B2 l=l.map Pm
 | []=>rfl
 | _::l=>by rw[B2,IW l];rfl
theorem qbp:∀c:Pat,(Pm c).kn=true
 | .mk .. =>rfl
theorem WV:∀c:Pat,(Pm c).cells.length=13
 | .mk op c l r mn mx ks=>by simp[Pm,D.cells,NO]
mutual
def Xk:∀c:Pat,Xl (Pm c)=some c
 | .mk op (.mk b n a v cl f d) l r mn mx ks=>by
   have h:JV (.list 13 (B2 ks))=some ks:=by rw[JV,if_pos rfl];exact QI ks
   have hc:dec (D.agg [enc b,enc n,enc a,enc v,enc cl,enc f,enc d])=some (Cond.mk b n a v cl f d):=by grind [Nx,Cod.dec_enc]
   simp_all [Pm,B6,Xl]
def QI:∀l:List Pat,G5 (B2 l)=some l
 | []=>by rfl
 |c::l=>by simp only[B2,G5,Xk c,QI l,qCy]
end
def qdK{d j k p q r b:D}{c:Cond}(h:dec (D.agg [d,j,k,p,q,r,b])=some c):LeL [d,j,k,p,q,r,b] (B6 c):=by
 have s:Pn (D.agg [d,j,k,p,q,r,b])=some c:=h;simp only[Pn,qCc,qCq]at s;obtain⟨op,h0,n,h1,a,h2,v,h3,l,h4,f,h5,ks,h6,rfl⟩:=s;have hk:=qbx b ks h6;rw[QE]at hk;exact .cons (Cod.le _ _ h0) (.cons (Cod.le _ _ h1) (.cons (Cod.le _ _ h2) (.cons (Cod.le _ _ h3) (.cons (Cod.le _ _ h4) (.cons (Cod.le _ _ h5) (.cons hk .nil))))))
def LeL.append{a b c d:List D}(h:LeL a b)(k:LeL c d):LeL (a++c) (b++d):=by
 refine⟨by grind [LeL],λi x y j l=>?_⟩;rw[List.getElem?_append]at j l;by_cases hi:i<a.length
 ·rw[if_pos hi]at j;rw[if_pos (by grind [LeL])]at l;grind [LeL]
 ·rw[if_neg hi]at j;rw[if_neg (by grind [LeL]),<-h.1]at l;grind [LeL]
mutual
def qbw:∀(d:D) (c:Pat),Xl d=some c->FrzTo bV d (Pm c)
 | .agg [b,j,k,p,q,s,t,u,w,x,y,A,a],c,h=>by
   simp only[Xl,qCc,qCq]at h;obtain⟨op,h0,c,h1,l,h2,r,h3,mn,h4,mx,h5,ks,h6,rfl⟩:=h;rw[Pm];exact LeL.agg (.cons (Cod.le _ _ h0) ((qdK h1).append (.cons (Cod.le _ _ h2) (.cons (Cod.le _ _ h3) (.cons (Cod.le _ _ h4) (.cons (Cod.le _ _ h5) (.cons (qht a ks h6) .nil)))))))
def qht:∀(d:D) (l:List Pat),JV d=some l->FrzTo bV d (.list 13 (B2 l))
 | .list n es,l,h=>by
   simp only[JV]at h;split at h
   ·rename_i hn;subst hn;have hl:=Xj es l h;refine .list hl.1 (λe he=>?_) hl.2;grind [IW,qbp,WV]
   grind
 | .v (.slice none 0 0),l,h=>by
   simp only[JV,qCq]at h;subst h;exact .nil _
def Xj:∀(es:List D) (l:List Pat),G5 es=some l->LeL es (B2 l)
 | [],l,h=>by
   simp only[G5,qCq]at h;subst h;exact .nil
 | d::ds,l,h=>by
   simp only[G5,qCc,qCq]at h;obtain⟨x,h1,xs,h2,rfl⟩:=h;rw[B2];exact .cons (qbw d x h1) (Xj ds xs h2)
end
instance:Cod Pat where
 wd:=13
 enc:=Pm
 dec:=Xl
 kn:=qbp
 wid:=WV
 dec_enc:=Xk
 le:=qbw
def qdG(ks:List Pat):D.list 13 (B2 ks)=enc ks:=by rw[IW];rfl
def Tk(op:Int)(c:Cond)(l r:B)(mn mx:Int)(ks:List Pat):enc (Pat.mk op c l r mn mx ks)= .agg (enc op::(B6 c++ [enc l,enc r,enc mn,enc mx,enc ks])):=by
 rw[<-qdG];rfl
def NI:∀es:List D,G6 es=es.mapM (dec (X:=Cond))
 | []=>by rfl
 | d::es=>by
   rw[G6,qCY,NI es];rfl
def qla:∀d:D,Xm d=dec (X:=List Cond) d:=λd=>by
 unfold Xm;split
 ·rename_i n es;show _=if n=7 then es.mapM (dec (X:=Cond))else none
  rw[NI]
 ·rfl
 ·rename_i h1 h2;show _=(match d with
   | .list n es=>if n=7 then es.mapM (dec (X:=Cond))else none
   | .v (.slice none 0 0)=>some []
   | _=>none)
  simp
def NG:∀es:List D,G5 es=es.mapM (dec (X:=Pat))
 | []=>by rfl
 | d::es=>by
   rw[G5,qCY,NG es];rfl
def qhu:∀d:D,JV d=dec (X:=List Pat) d:=λd=>by
 unfold JV;split
 ·rename_i n es;show _=if n=13 then es.mapM (dec (X:=Pat))else none
  rw[NG]
 ·rfl
 ·rename_i h1 h2;show _=(match d with
   | .list n es=>if n=13 then es.mapM (dec (X:=Pat))else none
   | .v (.slice none 0 0)=>some []
   | _=>none)
  simp
@[simp] theorem G3(s:Cond):Cond.mk s.op s.name s.arg s.val s.lab s.fold s.kids=s:=by cases s;rfl
@[simp] theorem qhb(s:Cond):enc s= .agg [enc s.op,enc s.name,enc s.arg,enc s.val,enc s.lab,enc s.fold,enc s.kids]:=by cases s;exact Nx ..
@[simp] theorem qtp:Cod.wd Cond=7:=i' rfl
@[simp] theorem qhq(a b c d h j k:D):dec (X:=Cond) (.agg [a,b,c,d,h,j,k])=((dec a).bind λa=>(dec b).bind λb=>(dec c).bind λc=>(dec d).bind λd=>(dec h).bind λh=>(dec j).bind λj=>(dec k).bind λk=>some ⟨a,b,c,d,h,j,k⟩):=by
 show Pn _=_;simp only[Pn,qla]
@[simp] theorem qk0(s:Pat):Pat.mk s.op s.cond s.lab s.reg s.mn s.mx s.kids=s:=by cases s;rfl
@[simp] theorem qbn(s:Pat):enc s= .agg [enc s.op,enc s.cond.op,enc s.cond.name,enc s.cond.arg,enc s.cond.val,enc s.cond.lab,enc s.cond.fold,enc s.cond.kids,enc s.lab,enc s.reg,enc s.mn,enc s.mx,enc s.kids]:=by
 obtain⟨op,⟨a,b,c,d,e,f,g⟩,l,r,mn,mx,ks⟩:=s;exact Tk ..
@[simp] theorem qwI:Cod.wd Pat=13:=i' rfl
@[simp] theorem qvF(a b c d h j k l p q r s t:D):dec (X:=Pat) (.agg [a,b,c,d,h,j,k,l,p,q,r,s,t])=
 ((dec a).bind λa=>(dec b).bind λb=>(dec c).bind λc=>(dec d).bind λd=>(dec h).bind λh=>(dec j).bind λj=>(dec k).bind λk=>(dec l).bind λl=>
   (dec p).bind λp=>(dec q).bind λq=>(dec r).bind λr=>(dec s).bind λs=>(dec t).bind λt=>some ⟨a,⟨b,c,d,h,j,k,l⟩,p,q,r,s,t⟩):=by
 show Xl _=_;simp only[Xl,qhu,qhq,Option.bind_assoc,qCy]
structure U64 where
 val:Int
deriving DecidableEq
instance:Cod U64 where
 wd:=1
 enc n:= .v (.int .u64 n.val)
 dec| .v (.int .u64 n)=>some ⟨n⟩|_=>none
 kn _:=rfl
 wid _:=rfl
 dec_enc _:=rfl
 le d x h:=by
  split at h
  ·cases h;exact .same _
  ·cases h
@[simp] theorem qvp(n:U64):enc n= .v (.int .u64 n.val):=i' rfl
@[simp] theorem qwD:Cod.wd U64=1:=i' rfl
@[simp] theorem qvy(n:Int):dec (X:=U64) (.v (.int .u64 n))=some ⟨n⟩:=i' rfl
@[simp] theorem qvh(n:U64):U64.mk n.val=n:=i' rfl
structure Rng where
 fr:I32
 to:I32
deriving DecidableEq
instance:Cod Rng where
 wd:=2
 enc s:= .agg [enc s.fr,enc s.to]
 dec| .agg [a,b]=>(dec a).bind λa=>(dec b).bind λb=>some ⟨a,b⟩|_=>none
 kn _:=rfl
 wid _:=rfl
 dec_enc s:=by simp
 le d x h:=by
  split at h
  ·simp only[qCc]at h;obtain⟨a,h0,b,h1,h⟩:=h;cases h;exact LeL.agg (.cons (Cod.le _ _ h0) (.cons (Cod.le _ _ h1) .nil))
  ·cases h
@[simp] theorem qvl(s:Rng):(Rng.mk s.fr s.to)=s:=i' rfl
@[simp] theorem qvt(s:Rng):enc s= .agg [enc s.fr,enc s.to]:=i' rfl
@[simp] theorem qwH:Cod.wd Rng=2:=i' rfl
@[simp] theorem qvC(a b:D):dec (X:=Rng) (.agg [a,b])=((dec a).bind λa=>(dec b).bind λb=>some ⟨a,b⟩):=i' rfl
structure Rx where
 op:Int
 mn:Int
 mx:Int
 rs:List Rng
 kids:List Rx
mutual
def Nz:Rx->D
 | .mk op mn mx rs ks=> .agg [enc op,enc mn,enc mx,enc rs, .list 5 (Av ks)]
def Av:List Rx->List D
 | []=>[]
 |k::ks=>Nz k::Av ks
end
mutual
def Xi:D->Option Rx
 | .agg [a,b,c,d,h]=>(dec a).bind λop=>(dec b).bind λmn=>(dec c).bind λmx=>(dec d).bind λrs=>(JU h).bind λks=>some (.mk op mn mx rs ks)
 | _=>none
def JU:D->Option (List Rx)
 | .list n es=>if n=5 then B4 es else none
 | .v (.slice none 0 0)=>some []
 | _=>none
def B4:List D->Option (List Rx)
 | []=>some []
 |d::ds=>(Xi d).bind λx=>(B4 ds).bind λxs=>some (x::xs)
end
def IV:∀l:List Rx,Av l=l.map Nz
 | []=>rfl
 | _::l=>by rw[Av,IV l];rfl
def qbo:∀c:Rx,(Nz c).kn=true
 | .mk .. =>rfl
def WU:∀c:Rx,(Nz c).cells.length=5
 | .mk .. =>rfl
mutual
def Xh:∀c:Rx,Xi (Nz c)=some c
 | .mk op mn mx rs ks=>by
   have h:JU (.list 5 (Av ks))=some ks:=by rw[JU,if_pos rfl];exact QH ks
   simp only[Nz,Xi,Cod.dec_enc,qCy,h]
def QH:∀l:List Rx,B4 (Av l)=some l
 | []=>by simp only[Av,B4]
 |c::l=>by simp only[Av,B4,Xh c,QH l,qCy]
end
mutual
def qbv:∀(d:D) (c:Rx),Xi d=some c->FrzTo bV d (Nz c)
 | .agg [b,j,k,l,a],c,h=>by
   simp only[Xi,qCc,qCq]at h;obtain⟨op,h0,mn,h1,mx,h2,rs,h3,ks,h4,rfl⟩:=h;rw[Nz];exact LeL.agg (.cons (Cod.le _ _ h0) (.cons (Cod.le _ _ h1) (.cons (Cod.le _ _ h2) (.cons (Cod.le _ _ h3) (.cons (qhr a ks h4) .nil)))))
def qhr:∀(d:D) (l:List Rx),JU d=some l->FrzTo bV d (.list 5 (Av l))
 | .list n es,l,h=>by
   simp only[JU]at h;split at h
   ·rename_i hn;subst hn;have hl:=Xg es l h;refine .list hl.1 (λe he=>?_) hl.2;rw[IV]at he;obtain⟨x,a,rfl⟩:=qCo.1 he;exact⟨qbo x,WU x⟩
   ·cases h
 | .v (.slice none 0 0),l,h=>by
   simp only[JU,qCq]at h;subst h;exact .nil _
def Xg:∀(es:List D) (l:List Rx),B4 es=some l->LeL es (Av l)
 | [],l,h=>by
   simp only[B4,qCq]at h;subst h;exact .nil
 | d::ds,l,h=>by
   simp only[B4,qCc,qCq]at h;obtain⟨x,h1,xs,h2,rfl⟩:=h;rw[Av];exact .cons (qbv d x h1) (Xg ds xs h2)
end
instance:Cod Rx where
 wd:=5
 enc:=Nz
 dec:=Xi
 kn:=qbo
 wid:=WU
 dec_enc:=Xh
 le:=qbv
def qdF(ks:List Rx):D.list 5 (Av ks)=enc ks:=by rw[IV];rfl
def qg8(op mn mx:Int)(rs:List Rng)(ks:List Rx):enc (Rx.mk op mn mx rs ks)= .agg [enc op,enc mn,enc mx,enc rs,enc ks]:=by
 rw[<-qdF];show Nz _=_;rw[Nz]
def NF:∀es:List D,B4 es=es.mapM (dec (X:=Rx))
 | []=>by simp[B4]
 | d::es=>by
   rw[B4,qCY,NF es];rfl
def qhs:∀d:D,JU d=dec (X:=List Rx) d:=λd=>by
 unfold JU;split
 ·rename_i n es;show _=if n=5 then es.mapM (dec (X:=Rx))else none
  rw[NF]
 ·rfl
 ·rename_i h1 h2;show _=(match d with
   | .list n es=>if n=5 then es.mapM (dec (X:=Rx))else none
   | .v (.slice none 0 0)=>some []
   | _=>none)
  split
  ·exact absurd rfl (h1 _ _)
  ·exact absurd rfl h2
  ·rfl
@[simp] theorem qyG(s:Rx):Rx.mk s.op s.mn s.mx s.rs s.kids=s:=by cases s;rfl
@[simp] theorem qyN(s:Rx):enc s= .agg [enc s.op,enc s.mn,enc s.mx,enc s.rs,enc s.kids]:=by cases s;exact qg8 ..
@[simp] theorem qz5:Cod.wd Rx=5:=i' rfl
@[simp] theorem qyW(a b c d h:D):dec (X:=Rx) (.agg [a,b,c,d,h])=((dec a).bind λa=>(dec b).bind λb=>(dec c).bind λc=>(dec d).bind λd=>(dec h).bind λh=>some ⟨a,b,c,d,h⟩):=by
 show Xi _=_;simp only[Xi,qhs]
structure Rp where
 s:B
 pos:Int
 fault:Int
 e:Int
def Rp.bump(p:Rp):Rp:={ p with pos:=p.pos+1 }
def NW(p:Rp):Option Int:=
 if 200<p.s.size then none else
 if p.pos=p.s.size then some (-1)else
 if 0<=p.pos then match p.s.data[p.pos.toNat]? with
  |some c=>if c.toNat< 128 then some c.toNat else none
  |none=>none
 else none
def qkH(a:B)(c:Int):Bool:=a.data.toList.any λx=>decide ((x.toNat:Int)=c)
def lF(p:Rp)(_:Unit):Option (Rp×I32):=(NW p).map λc=>(p,⟨c⟩)
def PL(p:Rp)(_:Unit):Option (Rp×Unit):=(NW p).bind λc=>if 0<=c then some (p.bump,())else none
def Dr(p:Rp)(_:B):Option (Rp× (I32×Bool)):=(NW p).bind λc=>if c< 0\/c=92 then none else some (p.bump,⟨c⟩,true)
def qbE:B:=⟨#[92,91,93,94,45]⟩
def Wc(p:Rp)(_:Unit):Option (Rp× (I32×Bool)):=(NW p).bind λc=>if c< 0\/qkH qbE c=true then none else Dr p qbE
def qeT(fr to:Int):Rx:=⟨1,0,0, [⟨⟨fr⟩,⟨to⟩⟩], []⟩
def tM(out:List Rng)(r:Rng):List Rng:=match out.getLast? with
 |some q=>if r.fr.val<=q.to.val+1 then out.dropLast++ [⟨q.fr,⟨max q.to.val r.to.val⟩⟩]else out++ [r]
 |none=>[r]
def HW(l:List Rng):Bool:=match l with
 | [x]=>decide (0<=x.fr.val/\x.fr.val<=1114111/\0<=x.to.val/\x.to.val<=1114111)
 | [x,y]=>decide (0<=x.fr.val/\x.fr.val<=1114111/\0<=x.to.val/\x.to.val<=1114111/\0<=y.fr.val/\y.fr.val<=1114111/\0<=y.to.val/\y.to.val<=1114111/\x.fr.val<=y.fr.val)
 | _=>false
def GB(l:List Rng):List Rng:=l.foldl tM []
def qhM:Nat->Rp->List Rng->Option (Rp×List Rng)
 | 0,_,_=>none
 | n+1,p,l=>(NW p).bind λc=>if l≠ []/\c=93 then some (p,l)else
   (Wc p ()).bind λq=>(NW q.1).bind λd=>if d=45 then none else qhM n q.1 (l++ [⟨q.2.1,q.2.1⟩])
def qlg(p:Rp)(_:Unit):Option (Rp× (Rx×Bool)):=(NW p).bind λa=>if a≠91 then none else(NW p.bump).bind λc=>if c=94 then none else
 (qhM 100 p.bump []).bind λq=>if HW q.2=true then some (q.1.bump,⟨1,0,0,GB q.2, []⟩,true)else none
def qqZ:B:=⟨#[92,46,91,93,40,41,123,125,124,42,43,63]⟩
def qbN(p:Rp)(_:Unit):Option (Rp× (Rx×Bool)):=(NW p).bind λc=>
 if c=40 then none else if c=46 then some (p.bump,qeT 0 1114111,true)else if c=91 then qlg p ()else
 if c≠92/\qkH qqZ c=true then none else(Dr p qqZ).map λq=>(q.1,qeT q.2.1.val q.2.1.val,q.2.2)
def OV(c:Int):Option (Int×Int):=if c=42 then some (0, -1)else if c=43 then some (1, -1)else if c=63 then some (0,1)else none
def qfA(p:Rp)(_:Unit):Option (Rp× (Rx×Bool)):=(qbN p ()).bind λq=>if q.2.2=true then(NW q.1).bind λc=>if c=123 then none else match OV c with
 |some m=>(NW q.1.bump).bind λd=>if d=123\/(OV d).isSome=true then none else some (q.1.bump,⟨4,m.1,m.2, [], [q.2.1]⟩,true)
 |none=>some (q.1,q.2.1,true)
 else none
def Xy:Nat->Rp->List Rx->Option (Rp×List Rx)
 | 0,_,_=>none
 | n+1,p,l=>(NW p).bind λc=>if c< 0\/c=124\/c=41 then some (p,l)else
   (qfA p ()).bind λq=>if q.2.1.op=2 then none else Xy n q.1 (l++ [q.2.1])
def Y3(op:Int):List Rx->Rx
 | [e]=>e
 |l=>⟨op,0,0, [],l⟩
def qhR(p:Rp)(_:Unit):Option (Rp× (Rx×Bool)):=(Xy 100 p []).map λq=>(q.1,Y3 2 q.2,true)
def qeu:Nat->Rp->List Rx->Option (Rp×List Rx)
 | 0,_,_=>none
 | n+1,p,l=>(qhR p ()).bind λq=>(NW q.1).bind λc=>
   if q.2.1.op=3 then none else if c=124 then qeu n q.1.bump (l++ [q.2.1])else some (q.1,l++ [q.2.1])
def qjx(p:Rp)(_:Unit):Option (Rp× (Rx×Bool)):=(qeu 100 p []).map λq=>(q.1,Y3 3 q.2,true)
def qqT(f:Rx->Int->Int->Option (Bool×Int))(d:Int):List Rx->Int->Option (Bool×Int)
 | [],k=>some (true,k)
 |x::l,k=>(f x (d+1) k).bind λr=>if r.1=true then qqT f d l r.2 else some (false,r.2)
def wu:Nat->Rx->Int->Int->Option (Bool×Int)
 | 0=>λ_ _ _=>none
 |n+1=>λx d k=>if d< 0\/1000<d\/k< 0\/1000<k then none else if 40<d\/200<k+1 then some (false,k+1)else qqT (wu n) d x.kids (k+1)
def qaR(l:List Rng):Bool:=match l with
 | [r]=>decide (0<=r.fr.val/\r.fr.val<=r.to.val/\r.to.val<=1114111)
 | _=>false
def qrd(x:Rx):Bool:=
 if x.op=1 then decide (x.mn=0/\x.mx=0) && x.kids.isEmpty && qaR x.rs else
 if x.op=2 then decide (x.mn=0/\x.mx=0) && x.rs.isEmpty && decide (x.kids.length≠1/\x.kids.length<=300) && x.kids.all λk=>decide (k.op≠2)else
 if x.op=3 then decide (x.mn=0/\x.mx=0) && x.rs.isEmpty && decide (1<x.kids.length/\x.kids.length<=300) && x.kids.all λk=>decide (k.op≠3)else
 if x.op=4 then decide (0<=x.mn/\x.mn<=16/\(x.mx= -1\/x.mn<=x.mx/\x.mx<=16)) && x.rs.isEmpty && decide (x.kids.length=1)else false
def qcU:Nat->Rx->Bool
 | 0=>λ_=>false
 |n+1=>λx=>qrd x && x.kids.all (qcU n)
def qq8(f:Rx->Option Int):List Rx->Int->Option Int
 | [],k=>some k
 |x::l,k=>(f x).bind λy=>if k< 0\/1000<k\/y< 0\/1000<y then none else qq8 f l (min (k+y) 65)
def qra(x:Rx)(m:Int):Option Int:=
 if x.mx= -1 then(if -1000000<=m*max x.mn 1/\m*max x.mn 1<=1000000 then some (min (m*max x.mn 1) 65)else none)
 else if -1000000<=m*x.mx/\m*x.mx<=1000000 then some (min (m*x.mx) 65)else none
def MC:Nat->Rx->Option Int
 | 0=>λ_=>none
 |n+1=>λx=>if x.op=1 then some 1 else(qq8 (MC n) x.kids 0).bind λm=>if x.op≠4 then some m else qra x m
def DR(n:Nat)(x:Rx):Bool:=(match wu n x 1 0 with|some r=>r.1|none=>false) && qcU n x && (match MC n x with|some m=>decide (m<=64)|none=>false)
def Ak(s:B):Bool:=s.data.toList.all λc=>decide (c.toNat< 128)
def ox(s:B):Option Rx:=if s.size<=200/\Ak s=true then(qjx ⟨s,0,0,0⟩ ()).bind λq=>if q.2.2=true/\q.1.pos=s.size/\DR 50 q.2.1=true then some q.2.1 else none else none
structure Prt where
 first:U64
 last:U64
 nul:Bool
deriving DecidableEq
instance:Cod Prt where
 wd:=3
 enc s:= .agg [enc s.first,enc s.last,enc s.nul]
 dec| .agg [a,b,c]=>(dec a).bind λa=>(dec b).bind λb=>(dec c).bind λc=>some ⟨a,b,c⟩|_=>none
 kn _:=rfl
 wid _:=rfl
 dec_enc s:=by simp
 le d x h:=by
  split at h
  ·simp only[qCc]at h;obtain⟨a,h0,b,h1,c,h2,h⟩:=h;cases h;exact LeL.agg (.cons (Cod.le _ _ h0) (.cons (Cod.le _ _ h1) (.cons (Cod.le _ _ h2) .nil)))
  ·cases h
@[simp] theorem qvn(s:Prt):(Prt.mk s.first s.last s.nul)=s:=i' rfl
@[simp] theorem qvv(s:Prt):enc s= .agg [enc s.first,enc s.last,enc s.nul]:=i' rfl
@[simp] theorem qvE(a b c:D):dec (X:=Prt) (.agg [a,b,c])=((dec a).bind λa=>(dec b).bind λb=>(dec c).bind λc=>some ⟨a,b,c⟩):=i' rfl
structure Tbk where
 lvs:List (List Rng)
 fi:U64
 la:U64
 fol:List U64
 nul:Bool
def qdV(m:U64)(i:Nat):Bool:=decide (XN .u64 (qcB .u64 m.val i) 1=1)
def qj9(a b:U64):U64:=⟨qpJ .u64 a.val b.val⟩
def qa2(fr to:U64):Nat->List U64->List U64
 | _, []=>[]
 |i,f::l=>(if qdV fr i=true then qj9 f to else f)::qa2 fr to (i+1) l
def GH(t:Tbk)(z:U64×U64):Option (Tbk×Unit):=if t.fol.length<=100000 then some ({ t with fol:=qa2 z.1 z.2 0 t.fol },())else none
def qrA(a b:Prt):Prt:=⟨if a.nul=true then qj9 a.first b.first else a.first,if b.nul=true then qj9 b.last a.last else b.last,a.nul && b.nul⟩
def Az(t:Tbk)(z:Prt×Prt):Option (Tbk×Prt):=(GH t (z.1.last,z.2.first)).map λq=>(q.1,qrA z.1 z.2)
def Eu:Prt:=⟨⟨0⟩,⟨0⟩,true⟩
def qxq:Prt:=⟨⟨0⟩,⟨0⟩,false⟩
def qsn(f:Tbk->Rx->Option (Tbk×Prt)):List Rx->Tbk->Prt->Option (Tbk×Prt)
 | [],t,p=>some (t,p)
 |x::l,t,p=>(f t x).bind λq=>(Az q.1 (p,q.2)).bind λr=>qsn f l r.1 r.2
def qd3(f:Tbk->Rx->Option (Tbk×Prt)):List Rx->Tbk->Prt->Option (Tbk×Prt)
 | [],t,p=>some (t,p)
 |x::l,t,p=>(f t x).bind λq=>qd3 f l q.1 ⟨qj9 p.first q.2.first,qj9 p.last q.2.last,p.nul||q.2.nul⟩
def Sw(t:Tbk):Bool:=decide (t.lvs.length<=1000/\t.fol.length<=1000)
def qoY(b r:Tbk->Rx->Option (Tbk×Prt))(t:Tbk)(x:Rx):Option (Tbk×Prt):=
 if Sw t=false\/1000<x.kids.length then none else
 if x.op=1 then some ({ t with lvs:=t.lvs++ [x.rs],fol:=t.fol++ [⟨0⟩] },⟨⟨RL .u64 1 t.lvs.length⟩,⟨RL .u64 1 t.lvs.length⟩,false⟩)else
 if x.op=2 then qsn b x.kids t Eu else
 if x.op=3 then qd3 b x.kids t qxq else r t x
def qq1(b:Tbk->Rx->Option (Tbk×Prt))(y:Rx)(mx:Int):Nat->Tbk->Prt->Option (Tbk×Prt×Bool)
 | 0,t,p=>some (t,p,false)
 | k+1,t,p=>if Sw t=false then none else(b t y).bind λq=>if Sw q.1=false then none else
   if q.1.lvs.length=t.lvs.length then some (q.1,Eu,true)else
   (if mx< 0/\k=0 then GH q.1 (q.2.last,q.2.first)else some (q.1,())).bind λl=>(Az l.1 (p,q.2)).bind λr=>qq1 b y mx k r.1 r.2
def qfB(b:Tbk->Rx->Option (Tbk×Prt))(o:Tbk->Rx×Int->Option (Tbk×Prt))(t:Tbk)(x:Rx):Option (Tbk×Prt):=match x.kids with
 | []=>none
 | y::_=>if x.mn< 0\/100<x.mn\/x.mx< -1\/100<x.mx then none else
   (qq1 b y x.mx x.mn.toNat t Eu).bind λq=>if q.2.2=true then some (q.1,Eu)else
   if x.mx< 0/\x.mn=0 then(b q.1 y).bind λr=>(GH r.1 (r.2.last,r.2.first)).map λl=>(l.1, { r.2 with nul:=true })else
   if x.mn<x.mx then(o q.1 (y,x.mx -x.mn)).bind λr=>Az r.1 (q.2.1,r.2)else some (q.1,q.2.1)
def qnM(b:Tbk->Rx->Option (Tbk×Prt))(o:Tbk->Rx×Int->Option (Tbk×Prt))(t:Tbk)(z:Rx×Int):Option (Tbk×Prt):=
 if z.2< 0\/100<z.2\/Sw t=false then none else
 if z.2=0 then some (t,Eu)else
 (b t z.1).bind λq=>if Sw q.1=false then none else
 if q.1.lvs.length=t.lvs.length then some (q.1,Eu)else
 (o q.1 (z.1,z.2 -1)).bind λr=>(Az r.1 (q.2,r.2)).map λl=>(l.1, { l.2 with nul:=true })
structure qB9 where
 b:Tbk->Rx->Option (Tbk×Prt)
 r:Tbk->Rx->Option (Tbk×Prt)
 o:Tbk->Rx×Int->Option (Tbk×Prt)
def EX:Nat->qB9
 | 0=>⟨λ_ _=>none,λ_ _=>none,λ_ _=>none⟩
 |n+1=>⟨qoY (EX n).b (EX n).r,qfB (EX n).b (EX n).o,qnM (EX n).b (EX n).o⟩
def qBD:Tbk:=⟨[],⟨0⟩,⟨0⟩, [],false⟩
def qjA(n:Nat)(x:Rx):Option Tbk:=((EX n).b qBD x).map λq=>{ q.1 with fi:=q.2.first,la:=q.2.last,nul:=q.2.nul }
def ql7(set:U64):Nat->List U64->U64->U64
 | _, [],m=>m
 |i,f::l,m=>ql7 set (i+1) l (if qdV set i=true then qj9 m f else m)
def BF(t:Tbk)(set:U64)(a:Bool):U64:=if a=true then t.fi else ql7 set 0 t.fol ⟨0⟩
variable {dq:Prop}
section
variable {X Y:Type}[Cod X][Cod Y]
def qyl(pre:X->List Y->Prop)(post:X->List Y->List Y->Prop)(el n:Nat):PT:=λd ds H K=>∃id v l a x,ds=[a, .own id v]/\dec a=some x/\H id=some (.row v el n (l.map enc))/\pre x l/\
 ∀v' l',post x l l'->K (.own id v') (ai H id (some (.row v' el n (l'.map enc))))
def qkK(pre:X->List Y->Prop)(post:X->List Y->List Y->Prop)(el n:Nat):nt (qyl pre post el n):=λd ds H K b hk ⟨id,v,l,a,x,h1,h2,h3,h4,h5⟩=>⟨id,v,l,a,x,h1,h2,h3,h4,λv' l' hp=>hk _ _ (h5 v' l' hp)⟩
def qiT(pre:X->List Y->Prop)(post:X->List Y->List Y->Prop)(el n:Nat):Spc:= .gen _ (qkK pre post el n)
def quW(pre:X->List Y->Prop)(post:X->List Y->List Y->Prop)(el n id:Nat)(v:Value)(o:Option X)(r:Option Res)(H:ab)(K:D->ab->Prop):Prop:=∃l,r=some (.row v el n (l.map enc))/\eX o λx=>pre x l/\∀v' l',post x l l'->K (.own id v') (ai H id (some (.row v' el n (l'.map enc))))
@[congr] theorem qyk{pre:X->List Y->Prop}{post:X->List Y->List Y->Prop}{el n id:Nat}{v:Value}{o a:Option X}{r r':Option Res}{H:ab}{K:D->ab->Prop}(h1:o=a)(h2:r=r'):quW pre post el n id v o r H K=quW pre post el n id v a r' H K:=by grind
@[simp] theorem qym(pre:X->List Y->Prop)(post:X->List Y->List Y->Prop)(el n:Nat)(d i:Nat)(a:D)(v:Value)(H:ab)(K:D->ab->Prop):(qiT pre post el n).pt d [a, .own i v] H K=quW pre post el n i v (dec a) (H i) H K:=by
 refine propext ⟨λh=>?_,λh=>?_⟩
 ·obtain⟨id,v,l,a,x,h1,h2,h3,h4,h5⟩:=h;cases h1;refine⟨l,h3,?_⟩;rw[h2];exact⟨h4,h5⟩
 ·obtain⟨l,h1,h2⟩:=h;cases b:dec (X:=X) a with
  |none=>rw[b]at h2;exact h2.elim
  |some x=>rw[b]at h2;exact⟨i,v,l,a,x,rfl,b,h1,h2.1,h2.2⟩
@[simp] theorem qAQ(pre:X->List Y->Prop)(post:X->List Y->List Y->Prop)(el n id:Nat)(v:Value)(o:Option X)(l:List Y)(H:ab)(K:D->ab->Prop):quW pre post el n id v o (some (.row v el n (l.map enc))) H K=eX o λx=>pre x l/\∀v' l',post x l l'->K (.own id v') (ai H id (some (.row v' el n (l'.map enc)))):=by
 refine propext ⟨λ⟨l',h1,h2⟩=>?_,λh=>⟨l,rfl,h⟩⟩;simp at h1;subst h1;exact h2
def N6(cc:CC)(rs:List ak)(S:Nat->Spc)(pre:X->List Y->Prop)(post:X->List Y->List Y->Prop)(el n:Nat):Prop:=
 ∀v l x,pre x l->vc S cc (tJ rs λr H'=>qlJ el n (post x l) r H') (dt [enc x, .own 1 v]) (ai bV 1 (some (.row v el n (l.map enc))))
variable {P:Program}{S:Nat->Spc}{f:Nat}{im:List Nat}{cc:CC}{rs:List ak}{N:Nat}{el n:Nat}
theorem yH{pre:X->List Y->Prop}{post:X->List Y->List Y->Prop}(p:∀f,Tri dq P f (S f).pt)(h:xD P f im cc rs N)(t:2<=N)(u:N6 cc rs S pre post el n):Tri dq P f (qiT pre post el n).pt:=by
 obtain⟨vX,enter,fn,code,h1,h2,h3,h4,h5⟩:=h;refine lp p vX h1 h2 enter h3 h4 h5 ?_;rintro ds H d K ⟨id,v,l,a,x,rfl,w,hid,hp,y⟩;have hl:=Cod.le _ _ w;refine⟨t, [enc x, .own 1 v],ai bV 1 (some (.row v el n (l.map enc))),λ_=>id, .cons hl (.cons (.own _ _ _) .nil),λi r h=>?_,λi j r s h A _=>?_,_,u v l x hp,?_⟩;simp_all
 ·have a:i=1:=by
   by_cases e:i=1;omega
   ·simp[ai,e]at h
  have b:j=1:=by
   by_cases e:j=1;omega
   ·simp[ai,e]at A
  omega
 ·rintro r H' ⟨j,v',l',rfl,E,c⟩;refine⟨.own id v',bV,ai H id (some (.row v' el n (l'.map enc))),λi=>if i=id then some j else none, .own _ _ _,λj q h=>by simp at h,y v' l' c,λi s hi=>?_,λi F k s q hi C I J=>?_⟩
  ·by_cases e:i=id;simp_all;simp_all;omega
  grind
end
section
variable {X Y Z:Type}
structure Oh (X:Type) where
 ids:List Nat
 ce:X->List D
 hp:X->List (Nat×Res)
 keys:∀x,(hp x).map (·.1)=ids
def XP:∀{l:List (Nat×Res)} {i:Nat} {s:Res},gD l bV i=some s->(i,s) ∈l
 | [],i,s,h=>by simp_all
 | (j,r)::l,i,s,h=>by
  simp only[gD,ai]at h;by_cases e:i=j;grind
  ·simp only[e,if_false]at h;exact qDU _ (XP h)
def XQ:∀{l:List (Nat×Res)} {H:ab} {i:Nat} {s:Res},i∈l.map (·.1)->gD l H i=some s->(i,s) ∈l
 | (j,r)::l,H,i,s,hi,h=>by
  simp only[gD,ai]at h;by_cases e:i=j;grind
  ·simp only[e,if_false]at h;simp[e]at hi;refine qDU _ (XQ (H:=H) ?_ h);grind
def XO:∀{l:List (Nat×Res)} {H:ab} {i:Nat},i∉l.map (·.1)->gD l H i=H i
 | [],H,i,_=>rfl
 | (j,r)::l,H,i,hi=>by
  simp only[qCW,qCm,not_or]at hi;simp only[gD,ai,hi.1,if_false];exact XO hi.2
def qzA(B:Oh X)(A:dN Z)(er:Y->D)(pre:X->Z->Prop)(post:X->Z->X->Y->Prop):PT:=λd ds H K=>∃id b x z a,ds= .bptr id b 0::a/\A.dec a=some z/\H id=some (.box b (B.ce x))/\(∀p∈B.hp x,H p.1=some p.2)/\id∉B.ids/\pre x z/\
 ∀c y,post x z c y->K (er y) (ai (gD (B.hp c) H) id (some (.box b (B.ce c))))
def qlq(B:Oh X)(A:dN Z)(er:Y->D)(pre:X->Z->Prop)(post:X->Z->X->Y->Prop):nt (qzA B A er pre post):=λd ds H K j hk ⟨id,b,x,z,a,h1,h2,h3,h4,h5,h6,c⟩=>⟨id,b,x,z,a,h1,h2,h3,h4,h5,h6,λh y hp=>hk _ _ (c h y hp)⟩
def qp8(B:Oh X)(A:dN Z)(er:Y->D)(pre:X->Z->Prop)(post:X->Z->X->Y->Prop):Spc:= .gen _ (qlq B A er pre post)
def Oe(B:Oh X)(er:Y->D)(b:Nat)(post:X->Y->Prop)(r:D)(H:ab):Prop:=∃x y,FrzTo (λi=>if i=0\/i∈B.ids then none else H i) r (er y)/\H 0=some (.box b (B.ce x))/\(∀p∈B.hp x,H p.1=some p.2)/\post x y
def ZM(cc:CC)(rs:List ak)(S:Nat->Spc)(B:Oh X)(A:dN Z)(er:Y->D)(pre:X->Z->Prop)(post:X->Z->X->Y->Prop):Prop:=
 ∀b x z,pre x z->vc S cc (tJ rs λr H'=>Oe B er b (post x z) r H') (dt (.bptr 0 b 0::A.view z)) (ai (gD (B.hp x) bV) 0 (some (.box b (B.ce x))))
variable {P:Program}{S:Nat->Spc}{f:Nat}{im:List Nat}{cc:CC}{rs:List ak}{N:Nat}
theorem yI{B:Oh X}{A:dN Z}{er:Y->D}{pre:X->Z->Prop}{post:X->Z->X->Y->Prop}(w:0∉B.ids)(C:∀f,Tri dq P f (S f).pt)(h:xD P f im cc rs N)(O:∀z,(A.view z).length+1<=N)(E:ZM cc rs S B A er pre post):Tri dq P f (qp8 B A er pre post).pt:=by
 obtain⟨vX,enter,fn,code,h1,h2,h3,h4,h5⟩:=h;refine lp C vX h1 h2 enter h3 h4 h5 ?_;rintro ds H d K ⟨id,b,x,z,l,rfl,F,hid,I,J,hp,L⟩;have hl:=A.le l z F;have h0:∀i r,ai (gD (B.hp x) bV) 0 (some (.box b (B.ce x))) i=some r->i=0/\r= .box b (B.ce x)\/i≠0/\(i,r) ∈B.hp x:=by
  intro i r h;by_cases e:i=0;simp_all;simp_all [XP]
 have hk:∀{x:X} {i:Nat} {r:Res},(i,r) ∈B.hp x->i∈B.ids:=by
  intro x i r h;rw[<-B.keys x];grind
 refine⟨by simp only[qCZ];rw[hl.1];grind, .bptr 0 b 0::A.view z,ai (gD (B.hp x) bV) 0 (some (.box b (B.ce x))),λi=>if i=0 then id else i, .cons (.bptr _ _ _ _) hl,λi r h=>?_,λi j r s h Q e=>?_,_,E b x z hp,?_⟩;grind;grind
 ·rintro r H' ⟨p,y,t,U,c,a⟩;refine⟨er y,λi=>if i=0\/i∈B.ids then none else H' i,ai (gD (B.hp p) H) id (some (.box b (B.ce p))),λi=>if i=id then some 0 else if i∈B.ids then some i else none,t,λj q h=>?_,L p y a,λi s hi=>?_,λi W k s q hi M e1 u=>?_⟩;grind
  ·by_cases e:i=id;simp_all
   ·simp only[ai,e,if_false]at hi ⊢;by_cases u:i∈B.ids
    ·simp only[u,if_true];exact c _ (XQ (by grind [Tri,ZM,dj,ay,B.keys]) hi)
    ·simp only[u,if_false];rw[XO (by grind)]at hi;refine⟨hi,λk q h he=>?_⟩;rcases h0 k q h with⟨rfl,rfl⟩|⟨e3,hm⟩
     grind;grind
  grind
def qdS{X:Type}(ce:X->List D):Oh X:=⟨[],ce,λ_=>[],λ_=>rfl⟩
end
structure qBq where
 v:Value
 v':Value
 t:Tbk
def vk(v v':Value)(t:Tbk):List D:=[.own 990 v, .v (.int .u64 t.fi.val), .v (.int .u64 t.la.val), .own 991 v', .v (.bool t.nul)]
def qA(v:Value)(l:List (List Rng)):Res:= .row v eS 1 (l.map enc)
def qB(v:Value)(l:List U64):Res:= .row v fO 1 (l.map enc)
def tbB:Oh qBq:=⟨[990,991],λx=>vk x.v x.v' x.t,λx=>[(990,qA x.v x.t.lvs),(991,qB x.v' x.t.fol)],λ_=>rfl⟩
section
variable {Y Z:Type}
def qiQ(A:dN Z)(er:Y->D)(F:Tbk->Z->Option (Tbk×Y)):Spc:=qp8 tbB A er (λs z=>∃r,F s.t z=some r) (λs z a y=>F s.t z=some (a.t,y))
def ye(H:ab)(id b:Nat)(v v':Value)(t:Tbk):ab:=ai (ai (ai H 991 (some (qB v' t.fol))) 990 (some (qA v t.lvs))) id (some (.box b (vk v v' t)))
def UH(er:Y->D)(F:Tbk->Z->Option (Tbk×Y))(id b:Nat)(r a c:Option Res)(o:Option Z)(H:ab)(K:D->ab->Prop):Prop:=
 ∃v v' t,r=some (.box b (vk v v' t))/\a=some (qA v t.lvs)/\c=some (qB v' t.fol)/\id≠990/\id≠991/\eX o λz=>eX (F t z) λq=>∀w w',K (er q.2) (ye H id b w w' q.1)
@[congr] theorem qtw{er:Y->D}{F:Tbk->Z->Option (Tbk×Y)}{id b:Nat}{r r' d a h c:Option Res}{o j:Option Z}{H:ab}{K:D->ab->Prop}(h1:r=r')(h2:d=a)(h3:h=c)(h4:o=j):UH er F id b r d h o H K=UH er F id b r' a c j H K:=by grind
theorem EA{X:Type}[Cod X]:∀{l l':List X},l.map enc=l'.map enc->l=l'
 | [], [],_=>rfl
 | [],_::_,h=>by grind
 | _::_, [],h=>by grind
 | a::l,b::l',h=>by
   rw[qCW,qCW,qCL]at h;rw[bi h.1,EA h.2]
def qfu{v v':Value}{l l':List (List Rng)}(h:qA v l=qA v' l'):v=v'/\l=l':=by
 grind [qA,EA]
def qfv{v v':Value}{l l':List U64}(h:qB v l=qB v' l'):v=v'/\l=l':=by
 grind [qB,EA]
def qeC{b b':Nat}{v v' w w':Value}{t t':Tbk}(h:Res.box b (vk v v' t)=Res.box b' (vk w w' t'))(h1:qA v t.lvs=qA w t'.lvs)(h2:qB v' t.fol=qB w' t'.fol):b=b'/\v=w/\v'=w'/\t=t':=by
 obtain⟨a,d⟩:=qfu h1;obtain⟨c,j⟩:=qfv h2;obtain⟨hb,hc⟩:=Res.box.inj h;simp only[vk,qCL,D.own.injEq,D.v.injEq,qEu,Value.bool.injEq,true_and,and_true]at hc;obtain⟨_,⟨c1,c2,_,c3⟩⟩:=hc;refine⟨hb,a,c,?_⟩;obtain⟨a1,⟨a2⟩,⟨a3⟩,a4,k⟩:=t;simp_all
theorem qeD(x:qBq)(H:ab)(id b:Nat):ai (gD (tbB.hp x) H) id (some (.box b (tbB.ce x)))=ye H id b x.v x.v' x.t:=by
 rfl
theorem YB(A:dN Z)(er:Y->D)(F:Tbk->Z->Option (Tbk×Y))(d i b:Nat)(ds:List D)(H:ab)(K:D->ab->Prop):(qiQ A er F).pt d (.bptr i b 0::ds) H K=UH er F i b (H i) (H 990) (H 991) (A.dec ds) H K:=by
 refine propext ⟨λh=>?_,λh=>?_⟩
 ·obtain⟨id,b',x,z,k,h1,h2,h3,h4,h5,h6,l⟩:=h;cases h1;simp only[tbB,qCm,qCN,or_false,not_or]at h5;refine⟨x.v,x.v',x.t,h3,h4 (990,qA x.v x.t.lvs) (by simp[tbB]),h4 (991,qB x.v' x.t.fol) (by simp[tbB]),h5.1,h5.2,?_⟩;rw[h2];obtain⟨⟨t',y⟩,j⟩:=h6;show eX (F x.t z) _;rw[j];intro w w';have:=l ⟨w,w',t'⟩ y j;grind [qeD]
 ·obtain⟨v,v',t,h1,h2,h3,h4,h5,h6⟩:=h;cases hz:A.dec ds with
  |none=>simp_all
  | some z=>
    rw[hz]at h6;have h6:eX (F t z) λq=>∀w w',K (er q.2) (ye H i b w w' q.1):=h6
    cases c:F t z with
    |none=>simp_all
    | some q=>
      rw[c]at h6;have h6:∀w w',K (er q.2) (ye H i b w w' q.1):=h6;refine⟨i,b,⟨v,v',t⟩,z,ds,rfl,hz,h1,λp hp=>?_,by grind [eX,tbB],⟨q,c⟩,λr y a=>?_⟩
      ·simp only[tbB,qCm,qCN,or_false]at hp;grind
      ·have a:F t z=some (r.t,y):=a;rw[c]at a;cases a;rw[qeD];grind
theorem qkC(A:dN Z)(er:Y->D)(F:Tbk->Z->Option (Tbk×Y))(b:Nat)(ds:List D):qiJ 0 (qiQ A er F).pt (.bptr 0 b 0::ds):=by
 refine⟨λR=>UH er F 0 b (R 0) (R 990) (R 991) (A.dec ds) R λ_ _=>True,λR d u=>∃v v' t z q w w',R 0=some (.box b (vk v v' t))/\R 990=some (qA v t.lvs)/\R 991=some (qB v' t.fol)/\A.dec ds=some z/\F t z=some q/\d=er q.2/\u=[(0, .box b (vk w w' q.1)),(990,qA w q.1.lvs),(991,qB w' q.1.fol)],λt H K=>?_⟩;rw[YB];have l:vL H (some 0) 0=H 0:=by rfl
 have p:vL H (some 0) 990=H 990:=by rfl
 have r:vL H (some 0) 991=H 991:=by rfl
 show _↔UH er F 0 b (vL H (some 0) 0) (vL H (some 0) 990) (vL H (some 0) 991) (A.dec ds) (vL H (some 0)) (λ_ _=>True)/\∀d u,(∃v v' t z q w w',vL H (some 0) 0=some (.box b (vk v v' t))/\vL H (some 0) 990=some (qA v t.lvs)/\vL H (some 0) 991=some (qB v' t.fol)/\A.dec ds=some z/\F t z=some q/\d=er q.2/\u=[(0, .box b (vk w w' q.1)),(990,qA w q.1.lvs),(991,qB w' q.1.fol)])->K d (jH H (some 0) u);rw[l,p,r];have hp:∀(w w':Value) (q:Tbk),jH H (some 0) [(0, .box b (vk w w' q)),(990,qA w q.lvs),(991,qB w' q.fol)]=ye H 0 b w w' q:=λw w' q=>by
  funext i;simp only[jH,ye,ai];by_cases h0:i=0;simp_all
  ·by_cases h1:i=990
   ·subst h1;rfl
   ·by_cases h2:i=991
    ·subst h2;rfl
    grind
 constructor
 ·rintro⟨v,v',t,h1,h2,h3,h4,h5,h6⟩;cases hz:A.dec ds with
  |none=>simp_all
  | some z=>
    rw[hz]at h6;have h6:eX (F t z) λq=>∀w w',K (er q.2) (ye H 0 b w w' q.1):=h6
    cases a:F t z with
    |none=>rw[a]at h6;exact h6.elim
    | some q=>
      rw[a]at h6;have h6:∀w w',K (er q.2) (ye H 0 b w w' q.1):=h6;refine⟨⟨v,v',t,h1,h2,h3,h4,h5,?_⟩,?_⟩
      ·show eX (F t z) _;rw[a];exactλ_ _=>trivial
      ·rintro d u ⟨v1,s,t1,C,E,w,w',c,h,j,x,k,rfl,rfl⟩;rw[h1]at c;rw[h2]at h;rw[h3]at j;obtain⟨_,_,_,rfl⟩:=qeC (qCr c) (qCr h) (qCr j);cases x;rw[a]at k;cases k;rw[hp];exact h6 w w'
 ·rintro⟨⟨v,v',t,h1,h2,h3,h4,h5,h6⟩,y⟩;refine⟨v,v',t,h1,h2,h3,h4,h5,?_⟩;cases hz:A.dec ds with
  |none=>rw[hz]at h6;exact h6.elim
  | some z=>
    rw[hz]at h6;have h6:eX (F t z) λq=>∀w w':Value,True:=h6
    show eX (F t z) _;cases a:F t z with
    |none=>rw[a]at h6;exact h6.elim
    | some q=>
      intro w w';have:=y (er q.2) _ ⟨v,v',t,z,q,w,w',h1,h2,h3,hz,a,rfl,rfl⟩;rwa [hp]at this
def qfK(A:dN Z)(er:Y->D)(F:Tbk->Z->Option (Tbk×Y))(b:Nat)(dst:Option Nat)(ds:List D)(H:ab)(K:D->ab->Prop):MA 0 dst (qiQ A er F) (.bptr 0 b 0::ds) H K=UH er F 0 b (H 0) (H 990) (H 991) (A.dec ds) H K:=by
 rw[<-YB A er F (dst.getD 0)];exact propext ⟨λh=>h.2,λh=>⟨qkC A er F b ds,h⟩⟩
def qm4(er:Y->D)(F:Tbk->Z->Option (Tbk×Y))(id b:Nat)(v v':Value)(f l:Int)(n:Bool)(lv:List (List Rng))(fo:List U64)(o:Option Z)(H:ab)(K:D->ab->Prop):
 UH er F id b (some (.box b [.own 990 v, .v (.int .u64 f), .v (.int .u64 l), .own 991 v', .v (.bool n)])) (some (.row v eS 1 (lv.map enc))) (some (.row v' fO 1 (fo.map enc))) o H K=(id≠990/\id≠991/\eX o λz=>eX (F ⟨lv,⟨f⟩,⟨l⟩,fo,n⟩ z) λq=>∀w w',K (er q.2) (ye H id b w w' q.1)):=by
 refine propext ⟨λ⟨w,w',t,h1,h2,h3,h4,h5,h6⟩=>⟨h4,h5,?_⟩,λh=>⟨v,v',⟨lv,⟨f⟩,⟨l⟩,fo,n⟩,rfl,rfl,rfl,h.1,h.2.1,h.2.2⟩⟩;obtain⟨_,_,_,e⟩:=qeC (t:=⟨lv,⟨f⟩,⟨l⟩,fo,n⟩) (t':=t) (b:=b) (b':=b) (qCr h1) (qCr h2) (qCr h3);grind
def X5(er:Y->D)(b:Nat)(post:Tbk->Y->Prop)(r:D)(H:ab):Prop:=Oe tbB er b (λs y=>post s.t y) r H
def qmi{er:Y->D}{b:Nat}{post:Tbk->Y->Prop}{r:D}{H:ab}(v v':Value)(t:Tbk)(y:Y)(c:FrzTo (λi=>if i=0\/i=990\/i=991 then none else H i) r (er y))(h0:H 0=some (.box b (vk v v' t)))(h1:H 990=some (qA v t.lvs))(h2:H 991=some (qB v' t.fol))(a:post t y):X5 er b post r H:=
 ⟨⟨v,v',t⟩,y,by grind [tbB],h0,λp hp=>by
  simp only[tbB,qCm,qCN,or_false]at hp;grind,a⟩
def Jo(cc:CC)(rs:List ak)(S:Nat->Spc)(A:dN Z)(er:Y->D)(F:Tbk->Z->Option (Tbk×Y)):Prop:=
 ∀b v v' t z r,F t z=some r->vc S cc (tJ rs λd H'=>X5 er b (λt' y=>r=(t',y)) d H') (dt (.bptr 0 b 0::A.view z)) (ye bV 0 b v v' t)
variable {P:Program}{S:Nat->Spc}{f:Nat}{im:List Nat}{cc:CC}{rs:List ak}{N:Nat}
def uh{A:dN Z}{er:Y->D}{F:Tbk->Z->Option (Tbk×Y)}(a:∀f,Tri dq P f (S f).pt)(h:xD P f im cc rs N)(c:∀z,(A.view z).length+1<=N)(j:Jo cc rs S A er F):Tri dq P f (qiQ A er F).pt:=
 yI (by simp[tbB]) a h c λb x z hp=>by
  obtain⟨r,k⟩:=hp;rw[qeD];have:=j b x.v x.v' x.t z r k;have e:(λ(d:D) (H':ab)=>Oe tbB er b (λl y=>F x.t z=some (l.t,y)) d H')=λd H'=>X5 er b (λt' y=>r=(t',y)) d H':=by
   funext d H';unfold X5;grind
  grind
end
@[simp] theorem qwb(m:U64)(i:Nat):decide (XN .u64 (qcB .u64 m.val i) 1=1)=qdV m i:=i' rfl
end
section
open Go.Proofs
def Ag:CC:=gq Tryz.f258 [1,2024006,2022006,2020006] { cu:=[1,4],kz:=[990,991] } _
def za:List ak:=[.tmp 2]
def Sv:FO BY [1,2024006,2022006,2020006] Ag za 26:=fo
def kZ:CC:=gq Tryz.f299 [] { bx:=[0],kz:=[990,991] } _
def kB:List ak:=[]
def Bz:FO gJ [] kZ kB 31:=fo
def iP:CC:=gq Tryz.f289 [4,5] { ke:=[0],kz:=[990,991] } _
def iy:List ak:=[.cell 6 true 3]
def zq:FO dK [4,5] iP iy 42:=fo
def cR:CC:=gq Tryz.f278 [3,3060000,1031990,2033000,2006006] { bx:=[0],kz:=[990,991] } _
def cN:List ak:=[.cell 4 true 3]
def AP:FO dh [3,3060000,1031990,2033000,2006006] cR cN 98:=fo
def iO:CC:=gq Tryz.f290 [3,3095000,2005005] { bx:=[0],kz:=[990,991] } _
def ix:List ak:=[.cell 4 true 3]
def zo:FO jw [3,3095000,2005005] iO ix 98:=fo
def cV:CC:=gq Tryz.f300 [4,3035000,3036000,2009009] { bx:=[0],kz:=[990,991] } _
def cS:List ak:=[.cell 6 true 3]
def wN:FO eO [4,3035000,3036000,2009009] cV cS 39:=fo
def gg:CC:=gq Tryz.f259 [] { ke:=[0],kz:=[990,991] } _
def fX:List ak:=[.tmp 6]
def BA:FO lW [] gg fX 35:=fo
end
end Go.Gv
