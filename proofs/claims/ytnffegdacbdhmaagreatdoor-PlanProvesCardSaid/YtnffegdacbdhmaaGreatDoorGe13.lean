/- T20 -/
import Derived.Test.YtnffegdacbdhmaaGreatDoorGe12
set_option linter.all false
set_option maxRecDepth 100000
open Bool renaming forall_bool → fB', exists_bool → eB'
namespace Go.Gv
section
section
variable {S:Nat->Spc}{σ:Sg}{H:ab}{K:Ex->Sg->ab->Prop}
theorem rX{X:Type}(ks hk c p:List Nat)(rn0 rn:List (Nat×Nat))(P:X->Prop)(l:X->List (Nat×D))(hp:X->List (Nat×Res))(m:X->Nat)(d:X)(ids:List Nat)(a:∀x,(hp x).map (·.1)=ids)
 (j:qsQ rn0 (ids++hk) c/\∀i∈hk,i∉ids->qbW rn0 i=i) (hi:qsQ rn (ids++hk) p/\∀i∈hk,i∉ids->qbW rn i=i) {k:Nat} {b:CC} (h0:P d)
 (hs:Cr (Mb c H) (l d) σ) (hh:zX (Mb c H) rn0 (hp d) H)
 (q:∀x,P x->vc S b (qfd P (λy=>qe9 σ H ks hk p rn (l y) (hp y)) m x K) (um (l x) (jK ks σ)) (gS (hp x) (jL hk H))):vc S (.loop k b) K σ H:=by
 rw[Wo];refine⟨⟨X,P,λx=>um (l x) (jK ks σ),λx=>gS (hp x) (jL hk H),m⟩,⟨d,h0,JQ (by rw[a d];exact j.1) (by rw[a d];exact j.2) hs (λ_ _=>rfl) hh (λ_ _=>rfl)⟩,λx r=>AV b _ _ (λe s H' h=>?_) (q x r)⟩;cases e with
 | norm=>
   obtain⟨y,h1,h2,h3⟩:=h;exact⟨y,h1,JQ (by rw[a y];exact hi.1) (by rw[a y];exact hi.2) h2.1 h2.2.1 h2.2.2.1 h2.2.2.2,h3⟩
 |ex i=>exact h
 |ret=>exact h
end
open Cod (enc dec)
variable {S S0:Nat->Spc}
def X8(l:List B):List D:=l.map enc
def Sk(a b:B):D.list 1 [.v (.string a), .v (.string b)]= .list 1 (X8 [a,b]):=i' rfl
def X7(a b c:B):D.list 1 [.v (.string a), .v (.string b), .v (.string c)]= .list 1 (X8 [a,b,c]):=i' rfl
def nE(l:List B):(X8 l).length=l.length:=by simp[X8]
def tz(l:List B)(i:Nat)(d:D):((X8 l)[i]? =some d)=∃s,l[i]? =some s/\ .v (.string s)=d:=by
 simp[X8]
def qmj(n:Nat)(a:List AS):Prop:=(∀x∈a,0<=x.b/\x.b<=n/\0<=x.e/\x.e<=n)/\∀(j:Nat) (y:AS),a[j]? =some y->y.par<j
def WN(c c':Corpus):Prop:=∃a,c'={ c with nodes:=a } /\a.length<=6/\qmj c.toks.length a
def Fj(c:Corpus):Prop:=c.toks.length<=4096
theorem qfe(h1:S bU=s_m_Next):WJ vi uD S qxG qnM Fj WN:=by
 intro L b c hc;have hc:c.toks.length<=4096:=hc;simp[vi,uD,h1,qxG];intro _ k I J;refine rX (X:=Int×Int×Value×List AS) [0,1,4] [] [] [] [] [] (λx=>0<=x.1/\x.1<=c.toks.length/\0<=x.2.1/\2*x.2.1+x.2.2.2.length<=6/\qmj c.toks.length x.2.2.2) (λx=>[(5,enc x.1),(6,enc x.2.1)]) (λx=>[(1, .box b [enc c.attrs,enc c.toks,enc c.texts,enc c.regs, .own 61 x.2.2.1, .v (.slice none 0 0), .v (.slice none 0 0)]),(61, .row x.2.2.1 yj 4 (x.2.2.2.map enc))]) (λx=>x.2.1.toNat) (0,k, .slice none 0 0, []) [1,61] (λ_=>rfl) (by decide) (by decide) ?_ ?_ ?_ ?_
 ·simp[qmj];omega
 ·simp
 ·simp[isNilRow];exact .nilown 61
 ·rintro⟨at_,k,v,l⟩ ⟨K,M,N,O,q⟩;simp only at K M N O q;simp[h1,Sk,nE,tz];have fin:qp9 qnM b (WN c) (D.tup []) (ai (ai (ai (λx=>none) 96 none) 61 (some (Res.row v yj 4 (List.map enc l)))) 1 (some (Res.box b [D.list 2 (List.map enc c.attrs),D.list 1 (List.map enc c.toks),D.list 4 (List.map enc c.texts),D.list 4 (List.map enc c.regs),D.own 61 v,D.v (Value.slice none 0 0),D.v (Value.slice none 0 0)]))):=by
   refine⟨{ c with nodes:=l },_,rfl,rfl,?_,⟨l,rfl,by omega,q⟩⟩;simp[qnM];exact fA yj rfl
  refine⟨λhk=>⟨λQ y U W=>⟨by simp only[InR];omega,λ_=>fin,λhb=>⟨by simp only[InR];omega,by simp only[InR];omega,by omega,λr C=>⟨by simp only[InR];omega,λ_ z s t=>⟨s,t,λlb Y=>⟨by omega,by omega,λv1=>?_⟩⟩⟩⟩⟩,λ_=>fin⟩,λ_=>fin⟩;have Z:0<=at_+y:=by omega
  generalize at_+y=b' at*;have he:b'+1+r<=c.toks.length/\0<=r:=by omega
  generalize hee:b'+1+r=d at*;have a:qmj c.toks.length (l++ [⟨lb,b',d, -1⟩]):=by
   refine⟨λx hx=>?_,λj x hx=>?_⟩
   ·rcases qFL.1 hx with hx|hx
    ·exact q.1 x hx
    ·simp at hx;subst hx;simp only;omega
   ·by_cases e:j<l.length
    ·rw[qGh e]at hx;exact q.2 j x hx
    ·rw[qF9 (by omega)]at hx;have hx:=qFK hx;simp at hx;subst hx;simp only;omega
  refine aS (X:=Value×List AS) [0,1,4,6,8] [] (λx=>x.2.length<=l.length+2/\qmj c.toks.length x.2) (λ_=>[]) (λx=>[(1, .box b [enc c.attrs,enc c.toks,enc c.texts,enc c.regs, .own 61 x.1, .v (.slice none 0 0), .v (.slice none 0 0)]),(61, .row x.1 yj 4 (x.2.map enc))]) ?_ ?_
  ·simp[h1,Sk,nE,tz];refineλu hu0 hu1=>⟨λ_=>⟨by simp only[InR];omega,by omega,λE hy2=>⟨by simp only[InR];omega,λz2 h p=>⟨h,p,λw _=>⟨by simp only[InR];omega,by simp only[InR];omega,by omega,λy3 hy3=>⟨by simp only[InR];omega,by omega,by omega,λA=>⟨A,l++ [⟨lb,b',d, -1⟩] ++ [⟨w,b'+E,b'+E+1+y3,l.length⟩],⟨by simp,?_⟩, .inl rfl, .inl ⟨rfl,by simp⟩⟩⟩⟩⟩⟩⟩,λ_=>⟨v1,l++ [⟨lb,b',d, -1⟩],⟨by simp,a⟩, .inl rfl, .inl ⟨rfl,by simp⟩⟩⟩
   refine⟨λx hx=>?_,λj x hx=>?_⟩
   ·rcases qFL.1 hx with hx|hx
    ·exact a.1 x hx
    ·simp at hx;subst hx;simp only;omega
   ·by_cases e:j<(l++ [(⟨lb,b',d, -1⟩:AS)]).length
    ·rw[qGh e]at hx;exact a.2 j x hx
    ·rw[qF9 (by omega)]at hx;have hx:=qFK hx;simp at hx;subst hx;simp at e;simp only;omega
  ·rintro⟨A,l2⟩ ⟨r1,F⟩;simp only at r1 F;simp;exact⟨by simp only[InR];omega,d,k -1,A,l2,⟨by omega,by omega,by omega,by omega,F⟩,⟨⟨rfl,rfl⟩, .inl (.inl rfl), .inl (.inl rfl)⟩,by omega⟩
end
section
def qhm{b:Sg}{H:ab}(t id:Nat)(x:Value)(el n:Nat)(es:List D)(h1:b t= .own id x)(h2:H id=some (.row x el n es)):Wk b H (upd b t (.sub id x n 0 es.length)) H:=by
 intro E a w ⟨h,j,tp,c,d⟩;refine⟨h,j,tp,c,λs=>?_⟩;unfold upd;split
 ·rename_i e;subst e;have h3:=d s;rw[h1]at h3;have k:a.tmps.getD s undef=x:=by
   generalize a.tmps.getD s undef=y at h3;cases h3;rfl
  obtain⟨xs,⟨_,h4⟩,_⟩:=c.sat.ok id _ h2;rw[k];rcases h4 with⟨rfl,h5⟩|⟨g,cap,cur,rfl,_,_,h6,l,_⟩
  ·rw[h5];exact .subnil id n
  ·exact .sub id g es.length cap n 0 es.length _ (qF3 _) (qFM _) h6 l (λ_=>by simp)
 ·exact d s
open Cod (enc dec) in
def qvl{X:Type}[Cod X]{H:ab}{id n hi:Nat}{v:Value}{l:List X}(el:Nat)(h:H id=some (.row v el n (l.map enc)))(hh:hi=l.length)(hn:n=Cod.wd X:=by rfl):FrzTo H (.sub id v n 0 hi) (.list n (l.map enc)):=by
 subst hh;have e:((l.map (enc (X:=X))).take l.length).drop 0=l.map enc:=by
  rw[List.drop_zero,qGD (by simp)]
 refine .sub h (by rw[e]) (λd hd=>?_) (λk c c' h1 h2=>?_)
 ·obtain⟨x,_,rfl⟩:=qFQ.1 hd;exact⟨Cod.kn x,(Cod.wid x).trans hn.symm⟩
 ·rw[e,h2]at h1;cases h1;exact .same _
open Cod (enc dec)
variable {S S0:Nat->Spc}
def qpd(n:Nat)(hs:List Int)(rs:List B):Prop:=hs.length=n/\rs.length=n/\∀h∈hs,h<=n
def qeS(c c':Corpus):Prop:=∃hs rs,c'={ c with heads:=hs,rels:=rs } /\hs.length<=c.toks.length/\rs.length<=c.toks.length/\∀h∈hs,h<=c.toks.length
theorem qff(h1:S bU=s_m_Next):WJ vk uF S qnM qvg Fj qeS:=by
 intro L b c hc;have hc:c.toks.length<=4096:=hc;simp[vk,uF,h1,qnM];intro _;refine rX (X:=Int×List Int) [0,1,4] [1] [] [27] [] [] (λx=>0<=x.1/\x.1<=c.toks.length/\(x.2.length:Int)=x.1/\∀y∈x.2,0<=y/\y<c.toks.length) (λx=>[(5,enc x.2),(6,enc x.1)]) (λx=>[]) (λx=>c.toks.length -x.1.toNat) (0, []) [] (λ_=>rfl) (by decide) (by decide) ?_ ?_ ?_ ?_
 ·simp
 ·simp
 ·simp
 ·rintro⟨i,l⟩ ⟨Y,Z,q3,A⟩;simp only at Y Z q3 A;simp[h1];refine⟨λhi=>⟨by simp only[InR];omega,by omega,λy hy=>?_⟩,λhi=>?_⟩
  ·have e:List.take y.toNat (List.map enc l) ++D.v (.int .i64 i)::List.drop y.toNat (List.map enc l)=(l.take y.toNat++i::l.drop y.toNat).map enc:=by simp
   refine⟨by omega,by omega,by omega,by omega,by omega,by omega,by omega,by omega,by omega,by omega,λv=>⟨by simp only[InR];omega,i+1,l.take y.toNat++i::l.drop y.toNat,⟨by omega,by omega,?_,λz hz=>?_⟩,⟨?_,rfl⟩,by omega⟩⟩
   ·simp;omega
   ·rcases qFL.1 hz with hz|hz
    ·exact A z (qF6 hz)
    ·rcases qFP.1 hz with hz|hz
     ·omega
     ·exact A z (qGB hz)
   ·rw[e];exact fA bj (by simp[Mb])
  ·have hil:l.length=c.toks.length:=by omega
   refine⟨by omega,by omega,λC=>⟨by omega,by omega,λE=>?_⟩⟩;refine aS (X:=Bool×List Int×List B) [1] [1] (λx=>qpd c.toks.length x.2.1 x.2.2) (λx=>[(8, .sub 40 C 1 0 c.toks.length),(9, .sub 42 E 1 0 c.toks.length),(10,enc x.1)]) (λx=>[(40, .row C bj 1 (x.2.1.map enc)),(42, .row E aw 1 (x.2.2.map enc))]) ?_ ?_
   ·simp[-eB'];intro _;refine Ka ((qhm 8 40 C bj 1 _ rfl rfl).trans (qhm 9 42 E aw 1 _ rfl rfl)) ?_;simp only[qt5];refine ah (X:=Bool×List Int×List B) [0,1,5,8,9,43] [1] l.length (λ_ x=>qpd c.toks.length x.2.1 x.2.2) (λx=>[(10,enc x.1)]) (λx=>[(40, .row C bj 1 (x.2.1.map enc)),(42, .row E aw 1 (x.2.2.map enc))]) (false,List.replicate c.toks.length 0,List.replicate c.toks.length ⟨#[]⟩) (by simp[qpd]) ?_ ?_
    ·rintro k ⟨N,hs,rs⟩ hk ⟨p,j,q⟩;simp only at p j q;obtain⟨x,O⟩:=aQ hk;obtain⟨_,Q⟩:=qFG.1 O;have hxr:=A x (aU O);simp[hk,O,Q,-eB'];refine⟨by omega,by omega,by omega,λa U=>?_⟩;have W:(List.map enc hs).set x.toNat (D.v (Value.int .i64 (-1)))=(hs.set x.toNat (-1)).map enc:=kN hs _ _;rw[W];have r:(hs.set x.toNat (-1)).length=c.toks.length:=by simp[p]
     have t:∀h∈hs.set x.toNat (-1),h<=c.toks.length:=λh hh=>by
      rcases qGQ hh with hh|hh
      ·exact q h hh
      ·omega
     generalize hs.set x.toNat (-1)=d at r t ⊢;clear p q U W;refine aS (X:=List Int×List B) [0,1,5,8,9,10,12,43,44,45] [1] (λx=>qpd c.toks.length x.1 x.2) (λ_=>[]) (λx=>[(40, .row C bj 1 (x.1.map enc)),(42, .row E aw 1 (x.2.map enc))]) ?_ ?_
     ·simp[h1,X7,nE,tz,-eB'];have hlx:∀(y:Int),d.length=c.toks.length->∃z,d[x.toNat]? =some z:=λ_ _=>aQ (by omega)
      refine⟨λhk0 y _ _=>⟨λ_=>⟨by omega,λy2 hy2=>⟨by omega,by omega,λa U y3 F I=>⟨F,I,λs _=>⟨by omega,by omega,by omega,λz _=>⟨by omega,by omega,by omega,λz2 _=>⟨d.set x.toNat a,rs.set x.toNat s,⟨by simp[r],by simp[j],λh hh=>?_⟩, .inl (kN d _ _), .inl (kN rs _ _)⟩⟩⟩⟩⟩⟩,λ_=>⟨d,rs,⟨r,j,t⟩, .inl rfl, .inl rfl⟩⟩,λ_=>⟨d,rs,⟨r,j,t⟩, .inl rfl, .inl rfl⟩⟩;rcases qGQ hh with hh|hh
      ·exact t h hh
      ·have:=A a (aU U);omega
     ·rintro⟨u,w⟩ ⟨J,K,M⟩;simp only at J K M;simp[-eB'];refine⟨λ_=>⟨by omega,by omega,by omega,λa _=>⟨λ_=>⟨by omega,by omega,by omega,λa2 _=>⟨!decide (a2=⟨#[]⟩),u,w,⟨J,K,M⟩,by simp, .inl rfl, .inl rfl⟩⟩,λ_=>⟨true,u,w,⟨J,K,M⟩,by simp, .inl rfl, .inl rfl⟩⟩⟩,λ_=>⟨true,u,w,⟨J,K,M⟩,by simp, .inl rfl, .inl rfl⟩⟩
    ·rintro⟨N,hs,rs⟩ ⟨p,j,q⟩;simp only at p j q;simp[-eB'];exact⟨N,hs,rs,⟨p,j,q⟩,rfl, .inl rfl, .inl rfl⟩
   ·rintro⟨N,hs,rs⟩ ⟨p,j,q⟩;simp only at p j q;simp;refine⟨λ_=>⟨{ c with heads:=hs,rels:=rs },_,rfl,rfl,?_,⟨hs,rs,rfl,by omega,by omega,q⟩⟩,λ_=>⟨{ c with heads:=[],rels:=[] },_,rfl,rfl,?_,⟨[], [],rfl,by simp,by simp,by simp⟩⟩⟩
    ·simp[qvg];exact⟨qvl bj rfl p.symm,qvl aw rfl j.symm⟩
    ·simp[qvg]
abbrev s_m_word:Spc:=aG (a1 Int) (λn=>0<=n/\n< 6) (enc (X:=B)) λ_ y=>y∈qaH
def qhq:ak Lj Kr S (a1 Int) (λn=>0<=n/\n< 6) (enc (X:=B)) λ_ y=>y∈qaH:=by
 rintro n hn;have hn:0<=n/\n< 6:=hn;simp[Lj,Kr];refine⟨hn.1,hn.2,?_⟩;have:n=0\/n=1\/n=2\/n=3\/n=4\/n=5:=by omega
 rcases this with rfl|rfl|rfl|rfl|rfl|rfl<;>simp[qaH]
abbrev s_m_tag:Spc:=aG (a1 Int) (λn=>0<=n/\n< 2) (enc (X:=B)) λ_ y=>y∈qlW
def qmM:ak Qr OQ S (a1 Int) (λn=>0<=n/\n< 2) (enc (X:=B)) λ_ y=>y∈qlW:=by
 rintro n hn;have hn:0<=n/\n< 2:=hn;simp[Qr,OQ];refine⟨hn.1,hn.2,?_⟩;have:n=0\/n=1:=by omega
 rcases this with rfl|rfl<;>simp[qlW]
abbrev s_m_features:Spc:=aG (a1 Int) (λn=>0<=n/\n< 4) (enc (X:=B)) λ_ y=>y∈TS
def Ur:ak zS zg S (a1 Int) (λn=>0<=n/\n< 4) (enc (X:=B)) λ_ y=>y∈TS:=by
 rintro n hn;have hn:0<=n/\n< 4:=hn;simp[zS,zg];refine⟨hn.1,hn.2,?_⟩;have:n=0\/n=1\/n=2\/n=3:=by omega
 rcases this with rfl|rfl|rfl|rfl<;>simp[TS]
abbrev s_m_Type:Spc:=aG (a1 Int) ca (enc (X:=B)) tR
def qhr(h1:S yx=s_m_Mod):ak AK Au S (a1 Int) ca (enc (X:=B)) tR:=by
 rintro n -;simp[AK,Au,h1];have h3:=Pz n 3 (by omega);refine⟨h3.1,h3.2,?_⟩;have:KV n 3=0\/KV n 3=1\/KV n 3=2:=by omega
 rcases this with h|h|h<;>simp[h]
abbrev s_m_Attributes:Spc:=aG a0 ca (enc (X:=List Attr)) (λ_ l=>qp8 l)
def NX:ak vn uH S a0 ca (enc (X:=List Attr)) (λ_ l=>qp8 l):=by
 rintro x -;simp[vn,uH];exact aL (Y:=List Attr) [⟨⟨#[119,111,114,100]⟩,false⟩,⟨⟨#[116,97,103]⟩,false⟩,⟨⟨#[102,101,97,116]⟩,true⟩] (by simp) rfl
abbrev s_m_nodes:Spc:=qzz qxG qnM Fj WN
abbrev s_m_heads:Spc:=qzz qnM qvg Fj qeS
def qkn{H:ab}{id el n:Nat}{v:Value}{d a:D}(h:H id=some (.row v el n [d]))(b:FrzTo H d a)(hk:a.kn=true/\a.cells.length=n):FrzTo H (.own id v) (.list n [a]):=by
 refine .row h rfl (λe he=>?_) (λk c c' h1 h2=>?_)
 ·simp at he;subst he;exact hk
 ·cases k with
  |zero=>simp at h1 h2;subst h1;subst h2;exact b
  |succ k=>simp at h1
def qj2(l:List Int):List D:=l.map enc
def qva(a b c d e f g h:Int):D.list 1 [.v (.int .i64 a), .v (.int .i64 b), .v (.int .i64 c), .v (.int .i64 d), .v (.int .i64 e), .v (.int .i64 f), .v (.int .i64 g), .v (.int .i64 h)]= .list 1 (qj2 [a,b,c,d,e,f,g,h]):=i' rfl
def qj1(l:List Int):(qj2 l).length=l.length:=by simp[qj2]
def qoa(l:List Int)(i:Nat)(d:D):((qj2 l)[i]? =some d)=∃s,l[i]? =some s/\ .v (.int .i64 s)=d:=by
 simp[qj2]
def qhN{l:List (List B)}{r:List B}(h:∀x∈l,JI x)(a:JI r):∀x∈l++ [r],JI x:=λx hx=>by
 rcases qFL.1 hx with hx|hx
 ·exact h x hx
 ·rw[qGY]at hx;rw[hx];exact a
theorem Ut(h1:S bU=s_m_Next)(h2:S xh=s_m_Attributes)(h3:S P3=s_m_word)(h4:S We=s_m_tag)(h5:S BX=s_m_features)
 (h6:S uf=s_m_Type) (h7:S qT=s_r06_SortRegions) (h8:S xe=s_m_nodes) (h9:S xf=s_m_heads):
 ak pi ow S (aT (a2 B Int)) (λx=>1<=x.2.2/\x.2.2<=1000) (enc (X:=Corpus)) (λx c=>qaI c/\WY c/\(c.toks.length:Int)<=x.2.2):=by
 rintro⟨L,name,a⟩ hm;have hm:1<=a/\a<=1000:=hm;simp[pi,ow,h1,h2];refineλb6=>⟨by omega,λy hy=>⟨by simp only[InR];omega,trivial,λat_ C v26 E=>?_⟩⟩
 have hal:at_.length=3:=by rw[show at_=ij from C];rfl
 obtain⟨n,F,hn⟩:∃n:Nat,1+y=(n:Int)/\1<=n/\n<=1000:=⟨(1+y).toNat,by omega,by omega⟩
 rw[F];refine gc (X:=xX) [0,6,7,8] [6] [26] [] (λt=>t.b=0/\t.e=n) (λ_=>[]) (λt=>[(8, .box E [enc at_, .v (.slice none 0 0),enc [t], .v (.slice none 0 0), .v (.slice none 0 0), .v (.slice none 0 0), .v (.slice none 0 0)])]) [8] (λ_=>rfl) (by decide) ?_ ?_
 ·simp[h1,X7,nE,tz];refineλz _ _=>⟨λ_ u I J=>⟨I,J,λs _=>⟨⟨name,0,n, [⟨⟨#[121,101,97,114]⟩,s⟩]⟩,⟨rfl,rfl⟩, .inl (qkn (el:=ET) (by simp[Mb]) (.same _) ⟨rfl,rfl⟩)⟩⟩,λ_=>⟨⟨name,0,n, []⟩,⟨rfl,rfl⟩, .inl (qkn (el:=ET) (by simp[Mb];rfl) ?_ ⟨rfl,rfl⟩)⟩⟩
  rw[eU,eU,eU,eU];exact⟨.same _, .same _, .same _, .nil _, .same _⟩
 ·rintro t ⟨K,ht2⟩;refine gc (X:=List (List B)) [0,6,7,8] [6] [66] [] (λl=>l.length=n/\∀r∈l,JI r) (λ_=>[]) (λl=>[(8, .box E [enc at_,enc l,enc [t], .v (.slice none 0 0), .v (.slice none 0 0), .v (.slice none 0 0), .v (.slice none 0 0)])]) [8] (λ_=>rfl) (by decide) ?_ ?_
  ·simp[h1];refine rX (X:=Int×Value×List (List B)) [0,6,7,8] [6] [] [] [] [] (λx=>0<=x.1/\x.1<=n/\(x.2.2.length:Int)=x.1/\∀r∈x.2.2,JI r) (λx=>[(9,enc x.1)]) (λx=>[(8, .box E [enc at_, .own 66 x.2.1,enc [t], .v (.slice none 0 0), .v (.slice none 0 0), .v (.slice none 0 0), .v (.slice none 0 0)]),(66, .row x.2.1 yk 1 (x.2.2.map enc))]) (λx=>n -x.1.toNat) (0, .slice none 0 0, []) [8,66] (λ_=>rfl) (by decide) (by decide) ?_ ?_ ?_ ?_
   ·simp
   ·simp
   ·simp[isNilRow];exact .nilown 66
   ·rintro⟨i,v,l⟩ ⟨M,N,A,O⟩;simp only at M N A O;simp[h1,h3,h4,h5,qva,qj1,qoa];refine⟨λhi y d hy1=>?_,λhi=>⟨l,⟨by omega,O⟩, .inl (fA yk (by simp[Mb]))⟩⟩;have a1:y.tmod 8=y % 8:=Int.tmod_eq_emod_of_nonneg d;have a2:y.tdiv 8=y/8:=Int.tdiv_eq_ediv_of_nonneg d;have a3:(y/8).tmod 2=(y/8) % 2:=Int.tmod_eq_emod_of_nonneg (by omega);have a4:y.tdiv 12=y/12:=Int.tdiv_eq_ediv_of_nonneg d;rw[a1,a2,a3,a4];refine⟨by omega,by omega,λs hs=>⟨?_,λw1 Q=>⟨by simp only[InR];omega,by omega,λw2 U=>⟨by simp only[InR];omega,by omega,λw3 W=>⟨by omega,by omega,λY=>⟨by simp only[InR];omega,i+1,Y,l++ [[w1,w2,w3]],⟨by omega,by omega,by simp;omega,qhN O ⟨w1,w2,w3,Q,U,W,rfl⟩⟩,⟨rfl, .inl (.inl rfl), .inl (.inl (by simp))⟩,by omega⟩⟩⟩⟩⟩⟩;have:=qFK hs;simp at this;omega
  ·rintro toks ⟨htk,Z⟩;refine gc (X:=List Region) [0,6,7,8] [6,8] [165] [] (λl=>l.length<=8/\∀r∈l,0<=r.b/\r.b<=n/\0<=r.e/\r.e<=n) (λl=>[(11,enc l)]) (λ_=>[]) [] (λ_=>rfl) (by decide) ?_ ?_
   ·simp[h1];intro k hk0 hk1;refine rX (X:=Int×Value×List Region) [0,6,7,8] [6,8] [] [] [] [] (λx=>0<=x.1/\x.1+x.2.2.length<=4/\∀r∈x.2.2,0<=r.b/\r.b<=n/\0<=r.e/\r.e<=n) (λx=>[(11, .own 165 x.2.1),(12,enc x.1)]) (λx=>[(165, .row x.2.1 pv 4 (x.2.2.map enc))]) (λx=>x.1.toNat) (k, .slice none 0 0, []) [165] (λ_=>rfl) (by decide) (by decide) ?_ ?_ ?_ ?_
    ·simp;omega
    ·simp;exact .nilown 165
    ·simp[isNilRow]
    ·rintro⟨k,v,l⟩ ⟨M,N,A⟩;simp only at M N A;simp[h1,h6];refine⟨λhk=>⟨by omega,λu hu z _ _=>⟨trivial,λty=>⟨by simp only[InR];omega,by simp only[InR];omega,by omega,λw hw=>⟨by simp only[InR];omega,λb14=>?_⟩⟩⟩⟩,λhk=>⟨l,⟨by omega,A⟩,fA pv (by simp[Mb])⟩⟩;have hr:0<=u/\u<=n/\0<=u+1+w/\u+1+w<=n:=by omega
     generalize u+1+w=e' at*;refine gc (X:=List Pair) [0,6,7,8,11,12,14] [6,8,165] [] [] (λ_=>True) (λ_=>[]) (λkv=>[(14, .box b14 [.v (.string ty), .v (.int .i64 u), .v (.int .i64 e'),enc kv])]) [14] (λ_=>rfl) (by decide) ?_ ?_
     ·simp[h1,Sk,nE,tz];exactλ_ _ _ _ q hq0 hq1=>⟨hq0,hq1,λs _=>⟨[⟨⟨#[110]⟩,s⟩], .inl (.inl rfl)⟩⟩
     ·rintro kv -;simp only[qrK,qn3];simp;refine aS (X:=Bool) [0,6,7,8,11,12,14] [6,8,14,165] (λ_=>True) (λx=>[(15,enc x)]) (λ_=>[]) ?_ ?_
      ·simp[-eB'];intro _;refine ah (X:=Bool) [0,6,7,8,11,12,14,101] [6,8,14,165] l.length (λ_ _=>True) (λx=>[(15,enc x)]) (λ_=>[]) false trivial ?_ ?_
       ·rintro j cr hj -;obtain⟨x,hx⟩:=aQ hj;obtain⟨_,hgx⟩:=qFG.1 hx;simp[hj,hx,hgx,-eB'];exactλ_ _ _ _=>⟨λ_ _ _=>⟨_,(Bool.not_not _).symm⟩,λ_ _=>⟨_,(Bool.not_not _).symm⟩⟩
       ·rintro cr -;simp[-eB']
      ·rintro cr -;simp[-eB'];refine⟨λ_=>⟨by omega,by omega,λY=>⟨by simp only[InR];omega,k -1,Y,l++ [⟨ty,u,e',kv⟩],⟨by omega,by simp;omega,λr hrr=>?_⟩,⟨⟨.same _,rfl⟩, .inl (.inl (by simp))⟩,by omega⟩⟩,λ_=>⟨by simp only[InR];omega,k -1,v,l,⟨by omega,by omega,A⟩,⟨⟨.same _,rfl⟩, .inl (.inl rfl)⟩,by omega⟩⟩;rcases qFL.1 hrr with hrr|hrr
       ·exact A r hrr
       ·simp at hrr;subst hrr;exact hr
   ·rintro rg ⟨hr1,hr2⟩;simp[h7,h8];refine⟨by simp only[qc0];omega,λrs ⟨hs1,hs2⟩=>⟨⟨at_,toks, [t],rs, [], [], []⟩,by simp[qxG],by simp only[Fj];omega,λc hc=>?_⟩⟩;obtain⟨ns,rfl,hns,p⟩:=hc;simp only at p;simp[qnM];refine gc (X:=List Int×List B) [6,8] [6] [] [] (λx=>x.1.length<=n/\x.2.length<=n/\∀h∈x.1,h<=n) (λ_=>[]) (λx=>[(8, .box E [enc at_,enc toks,enc [t],enc rs,enc ns,enc x.1,enc x.2])]) [8] (λ_=>rfl) (by decide) ?_ ?_
    ·simp[h1,h9];refineλz _ _=>⟨λ_=>⟨⟨at_,toks, [t],rs,ns, [], []⟩,by simp[qnM],by simp only[Fj];omega,λc hc=>?_⟩,λ_=>⟨[], [],⟨by simp,by simp,by simp⟩, .inl ⟨rfl,rfl⟩⟩⟩
     obtain⟨hs,rl,rfl,g1,g2,g3⟩:=hc;simp only at g1 g2 g3;simp[qvg];exact⟨hs,rl,⟨by omega,by omega,λh hh=>by have:=g3 h hh;omega⟩, .inl (.inl ⟨rfl,rfl⟩)⟩
    ·rintro⟨hs,rl⟩ ⟨p1,p2,p3⟩;simp only at p1 p2 p3;simp;refine aL ⟨at_,toks, [t],rs,ns,hs,rl⟩ (.same _) ⟨?_,⟨C,Z⟩,by show(toks.length:Int)<=a;omega⟩;refine⟨⟨K,by omega,by show t.e=(toks.length:Int);omega⟩,by simp,by simp only;omega,by simp,by simp only;omega,by simp only;omega,by simp only;omega,by simp only;omega,by simp only;omega,λr hr=>?_,λm hm=>?_,p.2,λh hh=>?_⟩
     ·have:=hr2 r (hs2 r hr);simp only;omega
     ·have:=p.1 m hm;simp only;omega
     ·have:=p3 h hh;simp only;omega
end
section
open Go.Proofs
variable {dq:Prop}
def UQ:Tri dq Tryz.prog yx s_m_Mod.pt:=
 ac (ag ae) qjj (qmO)
def de:Tri dq Tryz.prog bU s_m_Next.pt:=qhL (S:=JN [(yx,s_m_Mod)]) (ag (aa UQ ae)) rfl Pq (by decide)
def qnb:Tri dq Tryz.prog Wf s_m_New.pt:=qm8 (qby (ag ae) qji (by decide) qmN)
def LJ:Tri dq Tryz.prog lM s_r04_First.pt:=
 ac (ag ae) IN (Xu)
def qbG:Tri dq Tryz.prog xa s_r04_Next.pt:=
 ac (ag (aa LJ ae)) LZ (qa8 rfl)
def gp:Tri dq Tryz.prog cD s_r04_ValidName.pt:=
 ac (ag (aa LJ (aa qbG ae))) AA (Mm rfl rfl)
def X4:Tri dq Tryz.prog Ek s_r01_Units.pt:=
 ac (ag ae) Vz (Xw)
def X3:Tri dq Tryz.prog Ej s_r01_Valid.pt:=
 ac (ag (aa X4 ae)) Vy (Xv rfl)
def rY:Tri dq Tryz.prog iE s_r04_ValidValue.pt:=
 ac (ag (aa X3 ae)) IM (JX rfl)
def X2:Tri dq Tryz.prog Ei s_r05_Parse.pt:=
 ac (ag (aa rY ae)) Vx (Xs rfl)
def qbE:Tri dq Tryz.prog Hg s_r06_sign.pt:=
 ac (ag ae) Y5 (qa6)
def Rw:Tri dq Tryz.prog zy s_r06_compare.pt:=
 ac (ag ae) Pg (Q7)
def tS:Tri dq Tryz.prog gJ s_r06_CompareRegions.pt:=
 ac (ag (aa qbE (aa Rw ae))) CY (Dc rfl rfl)
def Kk:Tri dq Tryz.prog sQ s_r06_Attributes.pt:=
 ac (ag (aa gp ae)) IL (JW rfl)
def XZ:Tri dq Tryz.prog Ef s_r06_Value.pt:=
 ac (ag (aa X2 (aa rY ae))) Vu (Xp rfl rfl)
def LI:Tri dq Tryz.prog yv s_r06_pairs.pt:=
 ac (ag (aa gp (aa rY ae))) Vs (Xn rfl rfl)
def H9:Tri dq Tryz.prog vM s_r06_within.pt:=
 ac (ag ae) RD (Uf)
def qbF:Tri dq Tryz.prog Hh s_r06_bare.pt:=
 ac (ag ae) Y6 (qa7)
def UN:Tri dq Tryz.prog BS s_r06_TextAt.pt:=
 ac (ag ae) RH (Ui)
def Oj:Tri dq Tryz.prog wZ s_r06_FindText.pt:=
 ac (ag ae) MP (NP)
def Dq:Tri dq Tryz.prog lL s_r06_sameAttributes.pt:=
 ac (ag ae) CX (Db)
def UM:Tri dq Tryz.prog BR s_r06_cyclic.pt:=
 ac (ag ae) RG (Uh)
def UL:Tri dq Tryz.prog BQ s_r06_tokens.pt:=
 ac (ag (aa XZ ae)) RE (Ug rfl)
def XX:Tri dq Tryz.prog Ed s_r06_texts.pt:=
 ac (ag (aa gp (aa LI ae))) Vr (Xm rfl rfl)
def Rv:Tri dq Tryz.prog zx s_r06_regions.pt:=
 ac (ag (aa gp (aa LI (aa H9 (aa tS ae))))) Pf (Q6 rfl rfl rfl rfl)
def X1:Tri dq Tryz.prog Eh s_r06_Nodes.pt:=
 ac (ag (aa gp (aa H9 ae))) Vw (Xr rfl rfl)
def XY:Tri dq Tryz.prog Ee s_r06_heads.pt:=
 ac (ag (aa gp (aa qbF (aa UN (aa UM ae))))) Vt (Xo rfl rfl rfl rfl)
def Oi:Tri dq Tryz.prog wY s_r06_Validate.pt:=
 ac (ag (aa Kk (aa UL (aa XX (aa Rv (aa X1 (aa XY ae))))))) MO (NO rfl rfl rfl rfl rfl rfl)
def X0:Tri dq Tryz.prog Eg s_r06_Valid.pt:=
 ac (ag (aa Oi ae)) Vv (Xq rfl)
def Ia:Tri dq Tryz.prog qT s_r06_SortRegions.pt:=
 ac (ag (aa tS ae)) GD (HB rfl)
def Oh:Tri dq Tryz.prog wX s_r06_allHeads.pt:=
 ac (ag ae) MN (NN)
def UO:Tri dq Tryz.prog BT s_r06_Concat.pt:=
 ac (ag (aa X0 (aa Dq (aa Oj (aa Oh ae))))) RI (Uj rfl rfl rfl rfl)
def qhT:Tri dq Tryz.prog P3 s_m_word.pt:=
 ac (ag ae) qf0 (qhq)
def qna:Tri dq Tryz.prog We s_m_tag.pt:=
 ac (ag ae) qjh (qmM)
def UP:Tri dq Tryz.prog BX s_m_features.pt:=
 ac (ag ae) RR (Ur)
def qhU:Tri dq Tryz.prog uf s_m_Type.pt:=
 ac (ag (aa UQ ae)) SQ (qhr rfl)
def Om:Tri dq Tryz.prog xh s_m_Attributes.pt:=
 ac (ag ae) MZ (NX)
def Ok:Tri dq Tryz.prog xe s_m_nodes.pt:=
 LG (ag (aa de ae)) MV (by decide) (qfe rfl)
def Ol:Tri dq Tryz.prog xf s_m_heads.pt:=
 LG (ag (aa de ae)) MX (by decide) (qff rfl)
def Ib:Tri dq Tryz.prog qY s_m_Document.pt:=
 ac (ag (aa de (aa Om (aa qhT (aa qna (aa UP (aa qhU (aa Ia (aa Ok (aa Ol ae)))))))))) GM (Ut rfl rfl rfl rfl rfl rfl rfl rfl rfl)
def MI:Tri dq Tryz.prog uQ s_m_Corpus.pt:=
 ac (ag (aa de (aa Ib (aa UO ae)))) KN (qbc rfl rfl rfl)
end
section
open Cod (enc dec)
structure Cond where
 op:Int
 name:B
 arg:B
 val:B
 lab:B
 fold:Bool
 kids:List Cond
mutual
def Qb:Cond->D
 | .mk op n a v l f ks=> .agg [enc op,enc n,enc a,enc v,enc l,enc f, .list 7 (CF ks)]
def CF:List Cond->List D
 | []=>[]
 |k::ks=>Qb k::CF ks
end
mutual
def RW:D->Option Cond
 | .agg [b,c,d,h,j,k,p]=>(dec b).bind λop=>(dec c).bind λn=>(dec d).bind λa=>(dec h).bind λv=>(dec j).bind λl=>(dec k).bind λf=>(qae p).bind λks=>some (.mk op n a v l f ks)
 | _=>none
def qae:D->Option (List Cond)
 | .list n es=>if n=7 then Eu es else none
 | .v (.slice none 0 0)=>some []
 | _=>none
def Eu:List D->Option (List Cond)
 | []=>some []
 |d::ds=>(RW d).bind λx=>(Eu ds).bind λxs=>some (x::xs)
end
def Lb:∀l:List Cond,CF l=l.map Qb
 | []=>rfl
 | _::l=>by rw[CF,Lb l];rfl
def qeq:∀c:Cond,(Qb c).kn=true
 | .mk .. =>rfl
def Z0:∀c:Cond,(Qb c).cells.length=7
 | .mk .. =>rfl
mutual
def qaj:∀c:Cond,RW (Qb c)=some c
 | .mk op n a v l f ks=>by
   have h:qae (.list 7 (CF ks))=some ks:=by rw[qae,if_pos rfl];exact TE ks
   simp only[Qb,RW,Cod.dec_enc,qF1,h]
def TE:∀l:List Cond,Eu (CF l)=some l
 | []=>by simp only[CF,Eu]
 |c::l=>by simp only[CF,Eu,qaj c,TE l,qF1]
end
mutual
def qey:∀(d:D) (c:Cond),RW d=some c->FrzTo bS d (Qb c)
 | .agg [j,k,p,q,r,s,b],c,h=>by
   simp only[RW,qFF,qFV]at h;obtain⟨op,h0,n,h1,a,h2,v,h3,l,h4,f,h5,ks,h6,rfl⟩:=h;rw[Qb];exact LeL.agg (.cons (Cod.le _ _ h0) (.cons (Cod.le _ _ h1) (.cons (Cod.le _ _ h2) (.cons (Cod.le _ _ h3) (.cons (Cod.le _ _ h4) (.cons (Cod.le _ _ h5) (.cons (qew b ks h6) .nil)))))))
def qew:∀(d:D) (l:List Cond),qae d=some l->FrzTo bS d (.list 7 (CF l))
 | .list n es,l,h=>by
   simp only[qae]at h;split at h
   ·rename_i hn;subst hn;have hl:=qai es l h;refine .list hl.1 (λe he=>?_) hl.2;rw[Lb]at he;obtain⟨x,a,rfl⟩:=qFQ.1 he;exact⟨qeq x,Z0 x⟩
   ·cases h
 | .v (.slice none 0 0),l,h=>by
   simp only[qae,qFV]at h;subst h;exact .nil _
def qai:∀(es:List D) (l:List Cond),Eu es=some l->LeL es (CF l)
 | [],l,h=>by
   simp only[Eu,qFV]at h;subst h;exact .nil
 | d::ds,l,h=>by
   simp only[Eu,qFF,qFV]at h;obtain⟨x,h1,xs,h2,rfl⟩:=h;rw[CF];exact .cons (qey d x h1) (qai ds xs h2)
end
instance:Cod Cond where
 wd:=7
 enc:=Qb
 dec:=RW
 kn:=qeq
 wid:=Z0
 dec_enc:=qaj
 le:=qey
def Tx(ks:List Cond):D.list 7 (CF ks)=enc ks:=by rw[Lb];rfl
def P7(op:Int)(n a v l:B)(f:Bool)(ks:List Cond):enc (Cond.mk op n a v l f ks)= .agg [enc op,enc n,enc a,enc v,enc l,enc f,enc ks]:=by
 rw[<-Tx];show Qb _=_;rw[Qb]
structure Pat where
 op:Int
 cond:Cond
 lab:B
 reg:B
 mn:Int
 mx:Int
 kids:List Pat
def Ew:Cond->List D
 | .mk op n a v l f ks=>[enc op,enc n,enc a,enc v,enc l,enc f,enc ks]
def Qq:∀c:Cond,(Ew c).length=7
 | .mk .. =>rfl
mutual
def M9:Pat->D
 | .mk op c l r mn mx ks=> .agg (enc op::(Ew c++ [enc l,enc r,enc mn,enc mx, .list 13 (CD ks)]))
def CD:List Pat->List D
 | []=>[]
 |k::ks=>M9 k::CD ks
end
mutual
def qad:D->Option Pat
 | .agg [a,b,d,h,j,k,p,q,s,t,u,w,x]=>(dec a).bind λop=>(dec (D.agg [b,d,h,j,k,p,q])).bind λc=>(dec s).bind λl=>(dec t).bind λr=>(dec u).bind λmn=>(dec w).bind λmx=>(Me x).bind λks=>some (.mk op c l r mn mx ks)
 | _=>none
def Me:D->Option (List Pat)
 | .list n es=>if n=13 then Es es else none
 | .v (.slice none 0 0)=>some []
 | _=>none
def Es:List D->Option (List Pat)
 | []=>some []
 |d::ds=>(qad d).bind λx=>(Es ds).bind λxs=>some (x::xs)
end
def K9:∀l:List Pat,CD l=l.map M9
 | []=>rfl
 | _::l=>by rw[CD,K9 l];rfl
def qeo:∀c:Pat,(M9 c).kn=true
 | .mk .. =>rfl
def ZY:∀c:Pat,(M9 c).cells.length=13
 | .mk op c l r mn mx ks=>by simp[M9,D.cells,Qq]
mutual
def qac:∀c:Pat,qad (M9 c)=some c
 | .mk op (.mk b n a v cl f d) l r mn mx ks=>by
   have h:Me (.list 13 (CD ks))=some ks:=by rw[Me,if_pos rfl];exact TC ks
   have hc:dec (D.agg [enc b,enc n,enc a,enc v,enc cl,enc f,enc d])=some (Cond.mk b n a v cl f d):=by rw[<-P7];exact Cod.dec_enc _
   simp only[M9,Ew,qGp,qGE,qad,Cod.dec_enc,qF1,h,hc]
def TC:∀l:List Pat,Es (CD l)=some l
 | []=>by simp only[CD,Es]
 |c::l=>by simp only[CD,Es,qac c,TC l,qF1]
end
def qgU{d j k p q r b:D}{c:Cond}(h:dec (D.agg [d,j,k,p,q,r,b])=some c):LeL [d,j,k,p,q,r,b] (Ew c):=by
 have s:RW (D.agg [d,j,k,p,q,r,b])=some c:=h;simp only[RW,qFF,qFV]at s;obtain⟨op,h0,n,h1,a,h2,v,h3,l,h4,f,h5,ks,h6,rfl⟩:=s;have hk:=qew b ks h6;rw[Tx]at hk;exact .cons (Cod.le _ _ h0) (.cons (Cod.le _ _ h1) (.cons (Cod.le _ _ h2) (.cons (Cod.le _ _ h3) (.cons (Cod.le _ _ h4) (.cons (Cod.le _ _ h5) (.cons hk .nil))))))
def LeL.append{a b c d:List D}(h:LeL a b)(k:LeL c d):LeL (a++c) (b++d):=by
 refine⟨by simp[h.1,k.1],λi x y j l=>?_⟩;rw[List.getElem?_append]at j l;by_cases hi:i<a.length
 ·rw[if_pos hi]at j;rw[if_pos (by rw[<-h.1];exact hi)]at l;exact h.2 i x y j l
 ·rw[if_neg hi]at j;rw[if_neg (by rw[<-h.1];exact hi),<-h.1]at l;exact k.2 _ x y j l
mutual
def qev:∀(d:D) (c:Pat),qad d=some c->FrzTo bS d (M9 c)
 | .agg [b,j,k,p,q,s,t,u,w,x,y,A,a],c,h=>by
   simp only[qad,qFF,qFV]at h;obtain⟨op,h0,c,h1,l,h2,r,h3,mn,h4,mx,h5,ks,h6,rfl⟩:=h;rw[M9];exact LeL.agg (.cons (Cod.le _ _ h0) ((qgU h1).append (.cons (Cod.le _ _ h2) (.cons (Cod.le _ _ h3) (.cons (Cod.le _ _ h4) (.cons (Cod.le _ _ h5) (.cons (qk1 a ks h6) .nil)))))))
def qk1:∀(d:D) (l:List Pat),Me d=some l->FrzTo bS d (.list 13 (CD l))
 | .list n es,l,h=>by
   simp only[Me]at h;split at h
   ·rename_i hn;subst hn;have hl:=qab es l h;refine .list hl.1 (λe he=>?_) hl.2;rw[K9]at he;obtain⟨x,a,rfl⟩:=qFQ.1 he;exact⟨qeo x,ZY x⟩
   ·cases h
 | .v (.slice none 0 0),l,h=>by
   simp only[Me,qFV]at h;subst h;exact .nil _
def qab:∀(es:List D) (l:List Pat),Es es=some l->LeL es (CD l)
 | [],l,h=>by
   simp only[Es,qFV]at h;subst h;exact .nil
 | d::ds,l,h=>by
   simp only[Es,qFF,qFV]at h;obtain⟨x,h1,xs,h2,rfl⟩:=h;rw[CD];exact .cons (qev d x h1) (qab ds xs h2)
end
instance:Cod Pat where
 wd:=13
 enc:=M9
 dec:=qad
 kn:=qeo
 wid:=ZY
 dec_enc:=qac
 le:=qev
def qgQ(ks:List Pat):D.list 13 (CD ks)=enc ks:=by rw[K9];rfl
def Wj(op:Int)(c:Cond)(l r:B)(mn mx:Int)(ks:List Pat):enc (Pat.mk op c l r mn mx ks)= .agg (enc op::(Ew c++ [enc l,enc r,enc mn,enc mx,enc ks])):=by
 rw[<-qgQ];show M9 _=_;rw[M9]
def Qj:∀es:List D,Eu es=es.mapM (dec (X:=Cond))
 | []=>by simp[Eu]
 | d::es=>by
   rw[Eu,qGv,Qj es];rfl
def qoG:∀d:D,qae d=dec (X:=List Cond) d:=λd=>by
 unfold qae;split
 ·rename_i n es;show _=if n=7 then es.mapM (dec (X:=Cond))else none
  rw[Qj]
 ·rfl
 ·rename_i h1 h2;show _=(match d with
   | .list n es=>if n=7 then es.mapM (dec (X:=Cond))else none
   | .v (.slice none 0 0)=>some []
   | _=>none)
  split
  ·exact absurd rfl (h1 _ _)
  ·exact absurd rfl h2
  ·rfl
def Qh:∀es:List D,Es es=es.mapM (dec (X:=Pat))
 | []=>by simp[Es]
 | d::es=>by
   rw[Es,qGv,Qh es];rfl
def qk2:∀d:D,Me d=dec (X:=List Pat) d:=λd=>by
 unfold Me;split
 ·rename_i n es;show _=if n=13 then es.mapM (dec (X:=Pat))else none
  rw[Qh]
 ·rfl
 ·rename_i h1 h2;show _=(match d with
   | .list n es=>if n=13 then es.mapM (dec (X:=Pat))else none
   | .v (.slice none 0 0)=>some []
   | _=>none)
  split
  ·exact absurd rfl (h1 _ _)
  ·exact absurd rfl h2
  ·rfl
@[simp] theorem Jp(s:Cond):Cond.mk s.op s.name s.arg s.val s.lab s.fold s.kids=s:=by cases s;rfl
@[simp] theorem qkK(s:Cond):enc s= .agg [enc s.op,enc s.name,enc s.arg,enc s.val,enc s.lab,enc s.fold,enc s.kids]:=by cases s;exact P7 ..
@[simp] theorem qwR:Cod.wd Cond=7:=i' rfl
@[simp] theorem qkY(a b c d h j k:D):dec (X:=Cond) (.agg [a,b,c,d,h,j,k])=((dec a).bind λa=>(dec b).bind λb=>(dec c).bind λc=>(dec d).bind λd=>(dec h).bind λh=>(dec j).bind λj=>(dec k).bind λk=>some ⟨a,b,c,d,h,j,k⟩):=by
 show RW _=_;simp only[RW,qoG]
@[simp] theorem qou(s:Pat):Pat.mk s.op s.cond s.lab s.reg s.mn s.mx s.kids=s:=by cases s;rfl
@[simp] theorem Wm(s:Pat):enc s= .agg [enc s.op,enc s.cond.op,enc s.cond.name,enc s.cond.arg,enc s.cond.val,enc s.cond.lab,enc s.cond.fold,enc s.cond.kids,enc s.lab,enc s.reg,enc s.mn,enc s.mx,enc s.kids]:=by
 obtain⟨op,⟨a,b,c,d,e,f,g⟩,l,r,mn,mx,ks⟩:=s;exact Wj ..
@[simp] theorem qAe:Cod.wd Pat=13:=i' rfl
@[simp] theorem qy7(a b c d h j k l p q r s t:D):dec (X:=Pat) (.agg [a,b,c,d,h,j,k,l,p,q,r,s,t])=
 ((dec a).bind λa=>(dec b).bind λb=>(dec c).bind λc=>(dec d).bind λd=>(dec h).bind λh=>(dec j).bind λj=>(dec k).bind λk=>(dec l).bind λl=>
   (dec p).bind λp=>(dec q).bind λq=>(dec r).bind λr=>(dec s).bind λs=>(dec t).bind λt=>some ⟨a,⟨b,c,d,h,j,k,l⟩,p,q,r,s,t⟩):=by
 show qad _=_;simp only[qad,qk2,qkY,Option.bind_assoc,qF1]
structure U64 where
 val:Int
deriving DecidableEq
instance:Cod U64 where
 wd:=1
 enc n:= .v (.int .u64 n.val)
 dec| .v (.int .u64 n)=>some ⟨n⟩|_=>none
 kn _:=rfl
 wid _:=rfl
 dec_enc _:=rfl
 le d x h:=by
  split at h
  ·cases h;exact .same _
  ·cases h
@[simp] theorem qyQ(n:U64):enc n= .v (.int .u64 n.val):=i' rfl
@[simp] theorem qz8:Cod.wd U64=1:=i' rfl
@[simp] theorem qy0(n:Int):dec (X:=U64) (.v (.int .u64 n))=some ⟨n⟩:=i' rfl
@[simp] theorem qyH(n:U64):U64.mk n.val=n:=i' rfl
structure Rng where
 fr:I32
 to:I32
deriving DecidableEq
instance:Cod Rng where
 wd:=2
 enc s:= .agg [enc s.fr,enc s.to]
 dec| .agg [a,b]=>(dec a).bind λa=>(dec b).bind λb=>some ⟨a,b⟩|_=>none
 kn _:=rfl
 wid _:=rfl
 dec_enc s:=by simp
 le d x h:=by
  split at h
  ·simp only[qFF]at h;obtain⟨a,h0,b,h1,h⟩:=h;cases h;exact LeL.agg (.cons (Cod.le _ _ h0) (.cons (Cod.le _ _ h1) .nil))
  ·cases h
@[simp] theorem qyL(s:Rng):(Rng.mk s.fr s.to)=s:=i' rfl
@[simp] theorem qyV(s:Rng):enc s= .agg [enc s.fr,enc s.to]:=i' rfl
@[simp] theorem qAd:Cod.wd Rng=2:=i' rfl
@[simp] theorem qy4(a b:D):dec (X:=Rng) (.agg [a,b])=((dec a).bind λa=>(dec b).bind λb=>some ⟨a,b⟩):=i' rfl
structure Rx where
 op:Int
 mn:Int
 mx:Int
 rs:List Rng
 kids:List Rx
mutual
def P9:Rx->D
 | .mk op mn mx rs ks=> .agg [enc op,enc mn,enc mx,enc rs, .list 5 (CB ks)]
def CB:List Rx->List D
 | []=>[]
 |k::ks=>P9 k::CB ks
end
mutual
def qaa:D->Option Rx
 | .agg [a,b,c,d,h]=>(dec a).bind λop=>(dec b).bind λmn=>(dec c).bind λmx=>(dec d).bind λrs=>(Md h).bind λks=>some (.mk op mn mx rs ks)
 | _=>none
def Md:D->Option (List Rx)
 | .list n es=>if n=5 then Er es else none
 | .v (.slice none 0 0)=>some []
 | _=>none
def Er:List D->Option (List Rx)
 | []=>some []
 |d::ds=>(qaa d).bind λx=>(Er ds).bind λxs=>some (x::xs)
end
def K8:∀l:List Rx,CB l=l.map P9
 | []=>rfl
 | _::l=>by rw[CB,K8 l];rfl
def qen:∀c:Rx,(P9 c).kn=true
 | .mk .. =>rfl
def ZX:∀c:Rx,(P9 c).cells.length=5
 | .mk .. =>rfl
mutual
def Z9:∀c:Rx,qaa (P9 c)=some c
 | .mk op mn mx rs ks=>by
   have h:Md (.list 5 (CB ks))=some ks:=by rw[Md,if_pos rfl];exact TB ks
   simp only[P9,qaa,Cod.dec_enc,qF1,h]
def TB:∀l:List Rx,Er (CB l)=some l
 | []=>by simp only[CB,Er]
 |c::l=>by simp only[CB,Er,Z9 c,TB l,qF1]
end
mutual
def qeu:∀(d:D) (c:Rx),qaa d=some c->FrzTo bS d (P9 c)
 | .agg [b,j,k,l,a],c,h=>by
   simp only[qaa,qFF,qFV]at h;obtain⟨op,h0,mn,h1,mx,h2,rs,h3,ks,h4,rfl⟩:=h;rw[P9];exact LeL.agg (.cons (Cod.le _ _ h0) (.cons (Cod.le _ _ h1) (.cons (Cod.le _ _ h2) (.cons (Cod.le _ _ h3) (.cons (qkZ a ks h4) .nil)))))
def qkZ:∀(d:D) (l:List Rx),Md d=some l->FrzTo bS d (.list 5 (CB l))
 | .list n es,l,h=>by
   simp only[Md]at h;split at h
   ·rename_i hn;subst hn;have hl:=Z8 es l h;refine .list hl.1 (λe he=>?_) hl.2;rw[K8]at he;obtain⟨x,a,rfl⟩:=qFQ.1 he;exact⟨qen x,ZX x⟩
   ·cases h
 | .v (.slice none 0 0),l,h=>by
   simp only[Md,qFV]at h;subst h;exact .nil _
def Z8:∀(es:List D) (l:List Rx),Er es=some l->LeL es (CB l)
 | [],l,h=>by
   simp only[Er,qFV]at h;subst h;exact .nil
 | d::ds,l,h=>by
   simp only[Er,qFF,qFV]at h;obtain⟨x,h1,xs,h2,rfl⟩:=h;rw[CB];exact .cons (qeu d x h1) (Z8 ds xs h2)
end
instance:Cod Rx where
 wd:=5
 enc:=P9
 dec:=qaa
 kn:=qen
 wid:=ZX
 dec_enc:=Z9
 le:=qeu
def qgP(ks:List Rx):D.list 5 (CB ks)=enc ks:=by rw[K8];rfl
def qkH(op mn mx:Int)(rs:List Rng)(ks:List Rx):enc (Rx.mk op mn mx rs ks)= .agg [enc op,enc mn,enc mx,enc rs,enc ks]:=by
 rw[<-qgP];show P9 _=_;rw[P9]
def Qg:∀es:List D,Er es=es.mapM (dec (X:=Rx))
 | []=>by simp[Er]
 | d::es=>by
   rw[Er,qGv,Qg es];rfl
def qk0:∀d:D,Md d=dec (X:=List Rx) d:=λd=>by
 unfold Md;split
 ·rename_i n es;show _=if n=5 then es.mapM (dec (X:=Rx))else none
  rw[Qg]
 ·rfl
 ·rename_i h1 h2;show _=(match d with
   | .list n es=>if n=5 then es.mapM (dec (X:=Rx))else none
   | .v (.slice none 0 0)=>some []
   | _=>none)
  split
  ·exact absurd rfl (h1 _ _)
  ·exact absurd rfl h2
  ·rfl
@[simp] theorem qCc(s:Rx):Rx.mk s.op s.mn s.mx s.rs s.kids=s:=by cases s;rfl
@[simp] theorem qCj(s:Rx):enc s= .agg [enc s.op,enc s.mn,enc s.mx,enc s.rs,enc s.kids]:=by cases s;exact qkH ..
@[simp] theorem qDD:Cod.wd Rx=5:=i' rfl
@[simp] theorem qCr(a b c d h:D):dec (X:=Rx) (.agg [a,b,c,d,h])=((dec a).bind λa=>(dec b).bind λb=>(dec c).bind λc=>(dec d).bind λd=>(dec h).bind λh=>some ⟨a,b,c,d,h⟩):=by
 show qaa _=_;simp only[qaa,qk0]
structure Rp where
 s:B
 pos:Int
 fault:Int
 e:Int
def Rp.bump(p:Rp):Rp:={ p with pos:=p.pos+1 }
def Qy(p:Rp):Option Int:=
 if 200<p.s.size then none else
 if p.pos=p.s.size then some (-1)else
 if 0<=p.pos then match p.s.data[p.pos.toNat]? with
  |some c=>if c.toNat< 128 then some c.toNat else none
  |none=>none
 else none
def qoc(a:B)(c:Int):Bool:=a.data.toList.any λx=>decide ((x.toNat:Int)=c)
def mM(p:Rp)(_:Unit):Option (Rp×I32):=(Qy p).map λc=>(p,⟨c⟩)
def Sl(p:Rp)(_:Unit):Option (Rp×Unit):=(Qy p).bind λc=>if 0<=c then some (p.bump,())else none
def FW(p:Rp)(_:B):Option (Rp× (I32×Bool)):=(Qy p).bind λc=>if c< 0\/c=92 then none else some (p.bump,⟨c⟩,true)
def qeD:B:=⟨#[92,91,93,94,45]⟩
def Zi(p:Rp)(_:Unit):Option (Rp× (I32×Bool)):=(Qy p).bind λc=>if c< 0\/qoc qeD c=true then none else FW p qeD
def qh5(fr to:Int):Rx:=⟨1,0,0, [⟨⟨fr⟩,⟨to⟩⟩], []⟩
def vH(out:List Rng)(r:Rng):List Rng:=match out.getLast? with
 |some q=>if r.fr.val<=q.to.val+1 then out.dropLast++ [⟨q.fr,⟨max q.to.val r.to.val⟩⟩]else out++ [r]
 |none=>[r]
def Km(l:List Rng):Bool:=match l with
 | [x]=>decide (0<=x.fr.val/\x.fr.val<=1114111/\0<=x.to.val/\x.to.val<=1114111)
 | [x,y]=>decide (0<=x.fr.val/\x.fr.val<=1114111/\0<=x.to.val/\x.to.val<=1114111/\0<=y.fr.val/\y.fr.val<=1114111/\0<=y.to.val/\y.to.val<=1114111/\x.fr.val<=y.fr.val)
 | _=>false
def Jb(l:List Rng):List Rng:=l.foldl vH []
def qll:Nat->Rp->List Rng->Option (Rp×List Rng)
 | 0,_,_=>none
 | n+1,p,l=>(Qy p).bind λc=>if l≠ []/\c=93 then some (p,l)else
   (Zi p ()).bind λq=>(Qy q.1).bind λd=>if d=45 then none else qll n q.1 (l++ [⟨q.2.1,q.2.1⟩])
def qoM(p:Rp)(_:Unit):Option (Rp× (Rx×Bool)):=(Qy p).bind λa=>if a≠91 then none else(Qy p.bump).bind λc=>if c=94 then none else
 (qll 100 p.bump []).bind λq=>if Km q.2=true then some (q.1.bump,⟨1,0,0,Jb q.2, []⟩,true)else none
def quv:B:=⟨#[92,46,91,93,40,41,123,125,124,42,43,63]⟩
def qeL(p:Rp)(_:Unit):Option (Rp× (Rx×Bool)):=(Qy p).bind λc=>
 if c=40 then none else if c=46 then some (p.bump,qh5 0 1114111,true)else if c=91 then qoM p ()else
 if c≠92/\qoc quv c=true then none else(FW p quv).map λq=>(q.1,qh5 q.2.1.val q.2.1.val,q.2.2)
def Rz(c:Int):Option (Int×Int):=if c=42 then some (0, -1)else if c=43 then some (1, -1)else if c=63 then some (0,1)else none
def qi0(p:Rp)(_:Unit):Option (Rp× (Rx×Bool)):=(qeL p ()).bind λq=>if q.2.2=true then(Qy q.1).bind λc=>if c=123 then none else match Rz c with
 |some m=>(Qy q.1.bump).bind λd=>if d=123\/(Rz d).isSome=true then none else some (q.1.bump,⟨4,m.1,m.2, [], [q.2.1]⟩,true)
 |none=>some (q.1,q.2.1,true)
 else none
def qao:Nat->Rp->List Rx->Option (Rp×List Rx)
 | 0,_,_=>none
 | n+1,p,l=>(Qy p).bind λc=>if c< 0\/c=124\/c=41 then some (p,l)else
   (qi0 p ()).bind λq=>if q.2.1.op=2 then none else qao n q.1 (l++ [q.2.1])
def qb8(op:Int):List Rx->Rx
 | [e]=>e
 |l=>⟨op,0,0, [],l⟩
def qlq(p:Rp)(_:Unit):Option (Rp× (Rx×Bool)):=(qao 100 p []).map λq=>(q.1,qb8 2 q.2,true)
def qhF:Nat->Rp->List Rx->Option (Rp×List Rx)
 | 0,_,_=>none
 | n+1,p,l=>(qlq p ()).bind λq=>(Qy q.1).bind λc=>
   if q.2.1.op=3 then none else if c=124 then qhF n q.1.bump (l++ [q.2.1])else some (q.1,l++ [q.2.1])
def qm6(p:Rp)(_:Unit):Option (Rp× (Rx×Bool)):=(qhF 100 p []).map λq=>(q.1,qb8 3 q.2,true)
def qun(f:Rx->Int->Int->Option (Bool×Int))(d:Int):List Rx->Int->Option (Bool×Int)
 | [],k=>some (true,k)
 |x::l,k=>(f x (d+1) k).bind λr=>if r.1=true then qun f d l r.2 else some (false,r.2)
def yN:Nat->Rx->Int->Int->Option (Bool×Int)
 | 0=>λ_ _ _=>none
 |n+1=>λx d k=>if d< 0\/1000<d\/k< 0\/1000<k then none else if 40<d\/200<k+1 then some (false,k+1)else qun (yN n) d x.kids (k+1)
def qdV(l:List Rng):Bool:=match l with
 | [r]=>decide (0<=r.fr.val/\r.fr.val<=r.to.val/\r.to.val<=1114111)
 | _=>false
def quK(x:Rx):Bool:=
 if x.op=1 then decide (x.mn=0/\x.mx=0) && x.kids.isEmpty && qdV x.rs else
 if x.op=2 then decide (x.mn=0/\x.mx=0) && x.rs.isEmpty && decide (x.kids.length≠1/\x.kids.length<=300) && x.kids.all λk=>decide (k.op≠2)else
 if x.op=3 then decide (x.mn=0/\x.mx=0) && x.rs.isEmpty && decide (1<x.kids.length/\x.kids.length<=300) && x.kids.all λk=>decide (k.op≠3)else
 if x.op=4 then decide (0<=x.mn/\x.mn<=16/\(x.mx= -1\/x.mn<=x.mx/\x.mx<=16)) && x.rs.isEmpty && decide (x.kids.length=1)else false
def qf2:Nat->Rx->Bool
 | 0=>λ_=>false
 |n+1=>λx=>quK x && x.kids.all (qf2 n)
def quE(f:Rx->Option Int):List Rx->Int->Option Int
 | [],k=>some k
 |x::l,k=>(f x).bind λy=>if k< 0\/1000<k\/y< 0\/1000<y then none else quE f l (min (k+y) 65)
def quG(x:Rx)(m:Int):Option Int:=
 if x.mx= -1 then(if -1000000<=m*max x.mn 1/\m*max x.mn 1<=1000000 then some (min (m*max x.mn 1) 65)else none)
 else if -1000000<=m*x.mx/\m*x.mx<=1000000 then some (min (m*x.mx) 65)else none
def O5:Nat->Rx->Option Int
 | 0=>λ_=>none
 |n+1=>λx=>if x.op=1 then some 1 else(quE (O5 n) x.kids 0).bind λm=>if x.op≠4 then some m else quG x m
def Ga(n:Nat)(x:Rx):Bool:=(match yN n x 1 0 with|some r=>r.1|none=>false) && qf2 n x && (match O5 n x with|some m=>decide (m<=64)|none=>false)
def Cq(s:B):Bool:=s.data.toList.all λc=>decide (c.toNat< 128)
def qw(s:B):Option Rx:=if s.size<=200/\Cq s=true then(qm6 ⟨s,0,0,0⟩ ()).bind λq=>if q.2.2=true/\q.1.pos=s.size/\Ga 50 q.2.1=true then some q.2.1 else none else none
structure Prt where
 first:U64
 last:U64
 nul:Bool
deriving DecidableEq
instance:Cod Prt where
 wd:=3
 enc s:= .agg [enc s.first,enc s.last,enc s.nul]
 dec| .agg [a,b,c]=>(dec a).bind λa=>(dec b).bind λb=>(dec c).bind λc=>some ⟨a,b,c⟩|_=>none
 kn _:=rfl
 wid _:=rfl
 dec_enc s:=by simp
 le d x h:=by
  split at h
  ·simp only[qFF]at h;obtain⟨a,h0,b,h1,c,h2,h⟩:=h;cases h;exact LeL.agg (.cons (Cod.le _ _ h0) (.cons (Cod.le _ _ h1) (.cons (Cod.le _ _ h2) .nil)))
  ·cases h
@[simp] theorem qyO(s:Prt):(Prt.mk s.first s.last s.nul)=s:=i' rfl
@[simp] theorem qyX(s:Prt):enc s= .agg [enc s.first,enc s.last,enc s.nul]:=i' rfl
@[simp] theorem qy6(a b c:D):dec (X:=Prt) (.agg [a,b,c])=((dec a).bind λa=>(dec b).bind λb=>(dec c).bind λc=>some ⟨a,b,c⟩):=i' rfl
structure Tbk where
 lvs:List (List Rng)
 fi:U64
 la:U64
 fol:List U64
 nul:Bool
def qg5(m:U64)(i:Nat):Bool:=decide (qcQ .u64 (qfI .u64 m.val i) 1=1)
def qnC(a b:U64):U64:=⟨quI .u64 a.val b.val⟩
def qd5(fr to:U64):Nat->List U64->List U64
 | _, []=>[]
 |i,f::l=>(if qg5 fr i=true then qnC f to else f)::qd5 fr to (i+1) l
def Je(t:Tbk)(z:U64×U64):Option (Tbk×Unit):=if t.fol.length<=100000 then some ({ t with fol:=qd5 z.1 z.2 0 t.fol },())else none
def qu7(a b:Prt):Prt:=⟨if a.nul=true then qnC a.first b.first else a.first,if b.nul=true then qnC b.last a.last else b.last,a.nul && b.nul⟩
def CH(t:Tbk)(z:Prt×Prt):Option (Tbk×Prt):=(Je t (z.1.last,z.2.first)).map λq=>(q.1,qu7 z.1 z.2)
def GZ:Prt:=⟨⟨0⟩,⟨0⟩,true⟩
def qAT:Prt:=⟨⟨0⟩,⟨0⟩,false⟩
def qvQ(f:Tbk->Rx->Option (Tbk×Prt)):List Rx->Tbk->Prt->Option (Tbk×Prt)
 | [],t,p=>some (t,p)
 |x::l,t,p=>(f t x).bind λq=>(CH q.1 (p,q.2)).bind λr=>qvQ f l r.1 r.2
def qhe(f:Tbk->Rx->Option (Tbk×Prt)):List Rx->Tbk->Prt->Option (Tbk×Prt)
 | [],t,p=>some (t,p)
 |x::l,t,p=>(f t x).bind λq=>qhe f l q.1 ⟨qnC p.first q.2.first,qnC p.last q.2.last,p.nul||q.2.nul⟩
def VD(t:Tbk):Bool:=decide (t.lvs.length<=1000/\t.fol.length<=1000)
def qsy(b r:Tbk->Rx->Option (Tbk×Prt))(t:Tbk)(x:Rx):Option (Tbk×Prt):=
 if VD t=false\/1000<x.kids.length then none else
 if x.op=1 then some ({ t with lvs:=t.lvs++ [x.rs],fol:=t.fol++ [⟨0⟩] },⟨⟨Yi .u64 1 t.lvs.length⟩,⟨Yi .u64 1 t.lvs.length⟩,false⟩)else
 if x.op=2 then qvQ b x.kids t GZ else
 if x.op=3 then qhe b x.kids t qAT else r t x
def quw(b:Tbk->Rx->Option (Tbk×Prt))(y:Rx)(mx:Int):Nat->Tbk->Prt->Option (Tbk×Prt×Bool)
 | 0,t,p=>some (t,p,false)
 | k+1,t,p=>if VD t=false then none else(b t y).bind λq=>if VD q.1=false then none else
   if q.1.lvs.length=t.lvs.length then some (q.1,GZ,true)else
   (if mx< 0/\k=0 then Je q.1 (q.2.last,q.2.first)else some (q.1,())).bind λl=>(CH l.1 (p,q.2)).bind λr=>quw b y mx k r.1 r.2
def qi1(b:Tbk->Rx->Option (Tbk×Prt))(o:Tbk->Rx×Int->Option (Tbk×Prt))(t:Tbk)(x:Rx):Option (Tbk×Prt):=match x.kids with
 | []=>none
 | y::_=>if x.mn< 0\/100<x.mn\/x.mx< -1\/100<x.mx then none else
   (quw b y x.mx x.mn.toNat t GZ).bind λq=>if q.2.2=true then some (q.1,GZ)else
   if x.mx< 0/\x.mn=0 then(b q.1 y).bind λr=>(Je r.1 (r.2.last,r.2.first)).map λl=>(l.1, { r.2 with nul:=true })else
   if x.mn<x.mx then(o q.1 (y,x.mx -x.mn)).bind λr=>CH r.1 (q.2.1,r.2)else some (q.1,q.2.1)
def qrp(b:Tbk->Rx->Option (Tbk×Prt))(o:Tbk->Rx×Int->Option (Tbk×Prt))(t:Tbk)(z:Rx×Int):Option (Tbk×Prt):=
 if z.2< 0\/100<z.2\/VD t=false then none else
 if z.2=0 then some (t,GZ)else
 (b t z.1).bind λq=>if VD q.1=false then none else
 if q.1.lvs.length=t.lvs.length then some (q.1,GZ)else
 (o q.1 (z.1,z.2 -1)).bind λr=>(CH r.1 (q.2,r.2)).map λl=>(l.1, { l.2 with nul:=true })
structure qFC where
 b:Tbk->Rx->Option (Tbk×Prt)
 r:Tbk->Rx->Option (Tbk×Prt)
 o:Tbk->Rx×Int->Option (Tbk×Prt)
def Hu:Nat->qFC
 | 0=>⟨λ_ _=>none,λ_ _=>none,λ_ _=>none⟩
 |n+1=>⟨qsy (Hu n).b (Hu n).r,qi1 (Hu n).b (Hu n).o,qrp (Hu n).b (Hu n).o⟩
def qE8:Tbk:=⟨[],⟨0⟩,⟨0⟩, [],false⟩
def qm9(n:Nat)(x:Rx):Option Tbk:=((Hu n).b qE8 x).map λq=>{ q.1 with fi:=q.2.first,la:=q.2.last,nul:=q.2.nul }
def qpG(set:U64):Nat->List U64->U64->U64
 | _, [],m=>m
 |i,f::l,m=>qpG set (i+1) l (if qg5 set i=true then qnC m f else m)
def D1(t:Tbk)(set:U64)(a:Bool):U64:=if a=true then t.fi else qpG set 0 t.fol ⟨0⟩
variable {dq:Prop}
section
variable {X Y:Type}[Cod X][Cod Y]
def qBP(pre:X->List Y->Prop)(post:X->List Y->List Y->Prop)(el n:Nat):PT:=λd ds H K=>∃id v l a x,ds=[a, .own id v]/\dec a=some x/\H id=some (.row v el n (l.map enc))/\pre x l/\
 ∀v' l',post x l l'->K (.own id v') (ai H id (some (.row v' el n (l'.map enc))))
def qof(pre:X->List Y->Prop)(post:X->List Y->List Y->Prop)(el n:Nat):nC (qBP pre post el n):=λd ds H K b hk ⟨id,v,l,a,x,h1,h2,h3,h4,h5⟩=>⟨id,v,l,a,x,h1,h2,h3,h4,λv' l' hp=>hk _ _ (h5 v' l' hp)⟩
def qmu(pre:X->List Y->Prop)(post:X->List Y->List Y->Prop)(el n:Nat):Spc:= .gen _ (qof pre post el n)
def qyo(pre:X->List Y->Prop)(post:X->List Y->List Y->Prop)(el n id:Nat)(v:Value)(o:Option X)(r:Option Res)(H:ab)(K:D->ab->Prop):Prop:=∃l,r=some (.row v el n (l.map enc))/\eL o λx=>pre x l/\∀v' l',post x l l'->K (.own id v') (ai H id (some (.row v' el n (l'.map enc))))
@[congr] theorem qBO{pre:X->List Y->Prop}{post:X->List Y->List Y->Prop}{el n id:Nat}{v:Value}{o a:Option X}{r r':Option Res}{H:ab}{K:D->ab->Prop}(h1:o=a)(h2:r=r'):qyo pre post el n id v o r H K=qyo pre post el n id v a r' H K:=by subst h1;subst h2;rfl
@[simp] theorem qBQ(pre:X->List Y->Prop)(post:X->List Y->List Y->Prop)(el n:Nat)(d i:Nat)(a:D)(v:Value)(H:ab)(K:D->ab->Prop):(qmu pre post el n).pt d [a, .own i v] H K=qyo pre post el n i v (dec a) (H i) H K:=by
 refine propext ⟨λh=>?_,λh=>?_⟩
 ·obtain⟨id,v,l,a,x,h1,h2,h3,h4,h5⟩:=h;cases h1;refine⟨l,h3,?_⟩;rw[h2];exact⟨h4,h5⟩
 ·obtain⟨l,h1,h2⟩:=h;cases b:dec (X:=X) a with
  |none=>rw[b]at h2;exact h2.elim
  |some x=>rw[b]at h2;exact⟨i,v,l,a,x,rfl,b,h1,h2.1,h2.2⟩
@[simp] theorem qEo(pre:X->List Y->Prop)(post:X->List Y->List Y->Prop)(el n id:Nat)(v:Value)(o:Option X)(l:List Y)(H:ab)(K:D->ab->Prop):qyo pre post el n id v o (some (.row v el n (l.map enc))) H K=eL o λx=>pre x l/\∀v' l',post x l l'->K (.own id v') (ai H id (some (.row v' el n (l'.map enc)))):=by
 refine propext ⟨λ⟨l',h1,h2⟩=>?_,λh=>⟨l,rfl,h⟩⟩;simp at h1;subst h1;exact h2
def QI(cc:CC)(rs:List aj)(S:Nat->Spc)(pre:X->List Y->Prop)(post:X->List Y->List Y->Prop)(el n:Nat):Prop:=
 ∀v l x,pre x l->vc S cc (vE rs λr H'=>qpf el n (post x l) r H') (dR [enc x, .own 1 v]) (ai bS 1 (some (.row v el n (l.map enc))))
variable {P:Program}{S:Nat->Spc}{f:Nat}{im:List Nat}{cc:CC}{rs:List aj}{N:Nat}{el n:Nat}
theorem AY{pre:X->List Y->Prop}{post:X->List Y->List Y->Prop}(t:∀f,Tri dq P f (S f).pt)(h:zY P f im cc rs N)(u:2<=N)(w:QI cc rs S pre post el n):Tri dq P f (qmu pre post el n).pt:=by
 obtain⟨zq,enter,fn,code,h1,h2,h3,h4,h5⟩:=h;refine pw t zq h1 h2 enter h3 h4 h5 ?_;rintro ds H d K ⟨id,v,l,a,x,rfl,y,hid,hp,A⟩;have hl:=Cod.le _ _ y;refine⟨u, [enc x, .own 1 v],ai bS 1 (some (.row v el n (l.map enc))),λ_=>id, .cons hl (.cons (.own _ _ _) .nil),λi r h=>?_,λi j r s h C _=>?_,_,w v l x hp,?_⟩
 ·by_cases e:i=1
  ·subst e;simp only[ai,if_true]at h;cases h;exact hid
  ·simp[ai,e]at h
 ·have a:i=1:=by
   by_cases e:i=1
   ·exact e
   ·simp[ai,e]at h
  have b:j=1:=by
   by_cases e:j=1
   ·exact e
   ·simp[ai,e]at C
  exact a.trans b.symm
 ·rintro r H' ⟨j,v',l',rfl,E,c⟩;refine⟨.own id v',bS,ai H id (some (.row v' el n (l'.map enc))),λi=>if i=id then some j else none, .own _ _ _,λj q h=>by simp at h,A v' l' c,λi s hi=>?_,λi p k s q hi F I J=>?_⟩
  ·by_cases e:i=id
   ·subst e;simp only[ai,if_true]at hi;cases hi;simpa using E
   ·simp only[ai,e,if_false]at hi ⊢;exact⟨hi,λk q h he=>e he.symm⟩
  ·have a:i=id:=by
    by_cases e:i=id
    ·exact e
    ·simp[e]at I
   have b:p=id:=by
    by_cases e:p=id
    ·exact e
    ·simp[e]at J
   exact a.trans b.symm
end
section
variable {X Y Z:Type}
structure Nj (X:Type) where
 ids:List Nat
 ce:X->List D
 hp:X->List (Nat×Res)
 keys:∀x,(hp x).map (·.1)=ids
def qaF:∀{l:List (Nat×Res)} {i:Nat} {s:Res},gS l bS i=some s->(i,s) ∈l
 | [],i,s,h=>by simp[gS,bS]at h
 | (j,r)::l,i,s,h=>by
  simp only[gS,ai]at h;by_cases e:i=j
  ·subst e;simp only[if_true]at h;cases h;simp
  ·simp only[e,if_false]at h;exact qHs _ (qaF h)
def qaG:∀{l:List (Nat×Res)} {H:ab} {i:Nat} {s:Res},i∈l.map (·.1)->gS l H i=some s->(i,s) ∈l
 | (j,r)::l,H,i,s,hi,h=>by
  simp only[gS,ai]at h;by_cases e:i=j
  ·subst e;simp only[if_true]at h;cases h;simp
  ·simp only[e,if_false]at h;simp[e]at hi;refine qHs _ (qaG (H:=H) ?_ h);simpa using hi
def qaE:∀{l:List (Nat×Res)} {H:ab} {i:Nat},i∉l.map (·.1)->gS l H i=H i
 | [],H,i,_=>rfl
 | (j,r)::l,H,i,hi=>by
  simp only[qGb,qFP,not_or]at hi;simp only[gS,ai,hi.1,if_false];exact qaE hi.2
def qC7(B:Nj X)(A:dP Z)(er:Y->D)(pre:X->Z->Prop)(post:X->Z->X->Y->Prop):PT:=λd ds H K=>∃id b x z a,ds= .bptr id b 0::a/\A.dec a=some z/\H id=some (.box b (B.ce x))/\(∀p∈B.hp x,H p.1=some p.2)/\id∉B.ids/\pre x z/\
 ∀c y,post x z c y->K (er y) (ai (gS (B.hp c) H) id (some (.box b (B.ce c))))
def qoX(B:Nj X)(A:dP Z)(er:Y->D)(pre:X->Z->Prop)(post:X->Z->X->Y->Prop):nC (qC7 B A er pre post):=λd ds H K j hk ⟨id,b,x,z,a,h1,h2,h3,h4,h5,h6,c⟩=>⟨id,b,x,z,a,h1,h2,h3,h4,h5,h6,λh y hp=>hk _ _ (c h y hp)⟩
def qsw(B:Nj X)(A:dP Z)(er:Y->D)(pre:X->Z->Prop)(post:X->Z->X->Y->Prop):Spc:= .gen _ (qoX B A er pre post)
def Mj(B:Nj X)(er:Y->D)(b:Nat)(post:X->Y->Prop)(r:D)(H:ab):Prop:=∃x y,FrzTo (λi=>if i=0\/i∈B.ids then none else H i) r (er y)/\H 0=some (.box b (B.ce x))/\(∀p∈B.hp x,H p.1=some p.2)/\post x y
def qlV(cc:CC)(rs:List aj)(S:Nat->Spc)(B:Nj X)(A:dP Z)(er:Y->D)(pre:X->Z->Prop)(post:X->Z->X->Y->Prop):Prop:=
 ∀b x z,pre x z->vc S cc (vE rs λr H'=>Mj B er b (post x z) r H') (dR (.bptr 0 b 0::A.view z)) (ai (gS (B.hp x) bS) 0 (some (.box b (B.ce x))))
variable {P:Program}{S:Nat->Spc}{f:Nat}{im:List Nat}{cc:CC}{rs:List aj}{N:Nat}
theorem wl{B:Nj X}{A:dP Z}{er:Y->D}{pre:X->Z->Prop}{post:X->Z->X->Y->Prop}(p:0∉B.ids)(M:∀f,Tri dq P f (S f).pt)(h:zY P f im cc rs N)(O:∀z,(A.view z).length+1<=N)(Q:qlV cc rs S B A er pre post):Tri dq P f (qsw B A er pre post).pt:=by
 obtain⟨zq,enter,fn,code,h1,h2,h3,h4,h5⟩:=h;refine pw M zq h1 h2 enter h3 h4 h5 ?_;rintro ds H d K ⟨id,b,x,z,E,rfl,U,hid,F,t,hp,W⟩;have hl:=A.le E z U;have h0:∀i r,ai (gS (B.hp x) bS) 0 (some (.box b (B.ce x))) i=some r->i=0/\r= .box b (B.ce x)\/i≠0/\(i,r) ∈B.hp x:=by
  intro i r h;by_cases e:i=0
  ·subst e;simp only[ai,if_true]at h;cases h;exact .inl ⟨rfl,rfl⟩
  ·simp only[ai,e,if_false]at h;exact .inr ⟨e,qaF h⟩
 have hk:∀{x:X} {i:Nat} {r:Res},(i,r) ∈B.hp x->i∈B.ids:=by
  intro x i r h;rw[<-B.keys x];exact qFQ.2 ⟨_,h,rfl⟩
 refine⟨by simp only[qGn];rw[hl.1];exact O z, .bptr 0 b 0::A.view z,ai (gS (B.hp x) bS) 0 (some (.box b (B.ce x))),λi=>if i=0 then id else i, .cons (.bptr _ _ _ _) hl,λi r h=>?_,λi j r s h L e=>?_,_,Q b x z hp,?_⟩
 ·rcases h0 i r h with⟨rfl,rfl⟩|⟨e,hm⟩
  ·exact hid
  ·simp only[e,if_false];exact F _ hm
 ·rcases h0 i r h with⟨rfl,rfl⟩|⟨c,hm⟩
  ·rcases h0 j s L with⟨rfl,rfl⟩|⟨a,u⟩
   ·rfl
   ·simp only[a,if_true,if_false]at e;subst e;exact absurd (hk u) t
  ·rcases h0 j s L with⟨rfl,rfl⟩|⟨a,u⟩
   ·simp only[c,if_true,if_false]at e;subst e;exact absurd (hk hm) t
   ·simpa only[c,a,if_false]using e
 ·rintro r H' ⟨I,y,J,hj,w,l⟩;refine⟨er y,λi=>if i=0\/i∈B.ids then none else H' i,ai (gS (B.hp I) H) id (some (.box b (B.ce I))),λi=>if i=id then some 0 else if i∈B.ids then some i else none,J,λj q h=>?_,W I y l,λi s hi=>?_,λi C k s q hi hj' c a=>?_⟩
  ·by_cases e:j=0\/j∈B.ids
   ·simp[e]at h
   ·simp only[e,if_false]at h;refine⟨h,λi hh=>e ?_⟩;by_cases c:i=id
    ·simp only[c,if_true]at hh;cases hh;exact .inl rfl
    ·simp only[c,if_false]at hh;by_cases a:i∈B.ids
     ·simp only[a,if_true]at hh;cases hh;exact .inr a
     ·simp[a]at hh
  ·by_cases e:i=id
   ·subst e;simp only[ai,if_true]at hi;cases hi;simpa using hj
   ·simp only[ai,e,if_false]at hi ⊢;by_cases a:i∈B.ids
    ·simp only[a,if_true];exact w _ (qaG (by rw[B.keys];exact a) hi)
    ·simp only[a,if_false];rw[qaE (by rw[B.keys];exact a)]at hi;refine⟨hi,λk q h he=>?_⟩;rcases h0 k q h with⟨rfl,rfl⟩|⟨e3,hm⟩
     ·simp only[if_true]at he;exact e he.symm
     ·simp only[e3,if_false]at he;subst he;exact a (hk hm)
  ·by_cases c1:i=id
   ·by_cases c2:C=id
    ·exact c1.trans c2.symm
    ·simp only[c1,if_true]at c;cases c;simp only[c2,if_false]at a;by_cases c3:C∈B.ids
     ·simp only[c3,if_true]at a;cases a;exact absurd c3 p
     ·simp[c3]at a
   ·simp only[c1,if_false]at c;by_cases c3:i∈B.ids
    ·simp only[c3,if_true]at c;cases c;by_cases c2:C=id
     ·simp only[c2,if_true]at a;cases a;exact absurd c3 p
     ·simp only[c2,if_false]at a;by_cases c4:C∈B.ids
      ·simp only[c4,if_true]at a;cases a;rfl
      ·simp[c4]at a
    ·simp[c3]at c
def Nh{X:Type}(ce:X->List D):Nj X:=⟨[],ce,λ_=>[],λ_=>rfl⟩
end
end
end Go.Gv
