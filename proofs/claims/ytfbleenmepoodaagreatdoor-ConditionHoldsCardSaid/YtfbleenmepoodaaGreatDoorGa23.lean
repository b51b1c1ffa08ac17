/- A part of the framework and of the walks: W5 W6 W7 W8. -/
import Derived.Test.YtfbleenmepoodaaGreatDoorGa22
set_option linter.unusedSimpArgs false
set_option linter.unusedVariables false
set_option linter.unusedSectionVars false
set_option linter.defProp false
set_option maxRecDepth 100000
namespace Go.Gv
open Cod (enc dec)
variable {S S0:Nat->Spc}
def th{X:Type}[Cod X](l:List X)(k:Nat):List.take k (List.map enc l)=List.map enc (List.take k l):=List.map_take.symm
def Se{X:Type}[Cod X](l:List X)(k:Nat):List.drop k (List.map enc l)=List.map enc (List.drop k l):=List.map_drop.symm
abbrev s_r06_sign:Spc:=aZ (a1 Bool) bk (enc (X:=Int)) lr
def Le:ax uc tm S (a1 Bool) bk (enc (X:=Int)) lr:=by
 rintro s -;simp[uc,tm, -Bool.forall_bool]
abbrev s_r06_compare:Spc:=aZ (a2 B B) bk (enc (X:=Int)) lr
def Ed:ax nX nq S (a2 B B) bk (enc (X:=Int)) lr:=by
 rintro⟨a,b⟩ -;simp[nX,nq]
abbrev s_r06_CompareRegions:Spc:=aZ (a2 Region Region) bk (enc (X:=Int)) lr
def sZ(h1:S wL=s_r06_sign)(h2:S pH=s_r06_compare):ax fN fD S (a2 Region Region) bk (enc (X:=Int)) lr:=by
 rintro⟨a,b⟩ -;simp[fN,fD,h1,h2,bk, -Bool.forall_bool];intro _ _ _;refine aL (X:=Nat) [2,3] [] (λk=>True) (λk=>[(5,enc (k:Int))]) (λ_=>[]) (λk=>a.kv.length -k) 0 trivial (by simp) (by simp) ?_;intro k _;simp[h1,h2,bk, -Bool.forall_bool]
 repeat' first|apply And.intro|intro _
 all_goals first|omega|(simp only[InR];omega)|exact⟨k+1,by omega,by omega⟩
abbrev s_r06_Attributes:Spc:=aZ (a1 (List Attr)) bk (sj (Y:=Int) (Z:=Int)) lr
theorem zH(h1:S aK=s_r04_ValidName):ax jW jo S (a1 (List Attr)) bk (sj (Y:=Int) (Z:=Int)) lr:=by
 rintro l -;simp[jW,jo,h1,bk, -Bool.forall_bool];intro _ _ _ _ _;refine am (X:=Unit) [0,14] [] (l.length) (λ_ _=>True) (λ_=>[]) (λ_=>[]) () (by simp) (by simp) (by first|omega|(simp;omega)) (by simp) (by simp) trivial (by simp) (by simp) ?_ ?_
 ·intro k _ hk _;obtain⟨x,hx⟩:=eM hk;simp[h1,bk, -Bool.forall_bool,hx,hk];refineλb=>⟨by omega,λ_=>?_⟩
  refine am (X:=Unit) [0,4,5,14,15,16,28] [5] (min k l.length) (λ_ _=>True) (λ_=>[]) (λ_=>[]) () (by simp) (by simp) (by first|omega|(simp;omega)) (by simp) (by simp) trivial (by simp) (by simp) ?_ ?_
  ·intro j _ hj _;obtain⟨y,hy⟩:∃y,(l.take k)[j]? =some y:=eM (by simpa using hj);simp[hy,th, -List.map_take];simpa using hj
  ·intro _ _;simp
 ·intro _ _;simp
abbrev s_r06_Value:Spc:=aZ (a2 Attr B) bk (enc (X:=Int)) lr
def IC(h1:S tT=s_r05_Parse)(h2:S bb=s_r04_ValidValue):ax rQ qS S (a2 Attr B) bk (enc (X:=Int)) lr:=by
 rintro⟨a,b⟩ -;simp[rQ,qS,h1,h2,bk, -Bool.forall_bool]
abbrev s_r06_pairs:Spc:=aZ (a1 (List Pair)) bk (enc (X:=Int)) lr
def IA(h1:S aK=s_r04_ValidName)(h2:S bb=s_r04_ValidValue):ax rO qQ S (a1 (List Pair)) bk (enc (X:=Int)) lr:=by
 rintro l -;simp[rO,qQ,h1,h2,bk, -Bool.forall_bool];intro _ _ _;refine am (X:=Unit) [0,9] [] (l.length) (λ_ _=>True) (λ_=>[]) (λ_=>[]) () (by simp) (by simp) (by first|omega|(simp;omega)) (by simp) (by simp) trivial (by simp) (by simp) ?_ ?_
 ·intro k _ hk _;obtain⟨x,hx⟩:=eM hk;simp[h1,h2,bk, -Bool.forall_bool,hx,hk]
  ((repeat' first|apply And.intro|intro _) <;> first|omega|(simp only[InR];omega)|assumption|trivial)
 ·intro _ _;simp
abbrev s_r06_within:Spc:=aZ (a3 Corpus Int Int) bk (enc (X:=Bool)) lr
def F9:ax pQ pr S (a3 Corpus Int Int) bk (enc (X:=Bool)) lr:=by
 rintro⟨c,x,y⟩ -;simp[pQ,pr, -Bool.forall_bool];intro _;refine am (X:=Unit) [1,2,10] [] (c.texts.length) (λ_ _=>True) (λ_=>[]) (λ_=>[]) () (by simp) (by simp) (by first|omega|(simp;omega)) (by simp) (by simp) trivial (by simp) (by simp) ?_ ?_
 ·intro k _ hk _;obtain⟨t,ht⟩:=eM hk;simp[ht,hk, -Bool.forall_bool]
 ·intro _ _;simp
abbrev s_r06_bare:Spc:=aZ (a2 (List Int) (List B)) (λx=>x.1.length=x.2.length) (enc (X:=Bool)) lr
def Lf:ax ud tn S (a2 (List Int) (List B)) (λx=>x.1.length=x.2.length) (enc (X:=Bool)) lr:=by
 rintro⟨l,r⟩ hl;have hl:l.length=r.length:=hl;simp[ud,tn, -Bool.forall_bool];intro _;refine am (X:=Unit) [0,1] [] (l.length) (λ_ _=>True) (λ_=>[]) (λ_=>[]) () (by simp) (by simp) (by first|omega|(simp;omega)) (by simp) (by simp) trivial (by simp) (by simp) ?_ ?_
 ·intro k _ hk _;obtain⟨t,ht⟩:=eM hk;obtain⟨u,hu⟩:=eM (l:=r) (k:=k) (by omega);have hk2:k < r.length:=by omega
  simp[ht,hu,hk,hk2, -Bool.forall_bool]
 ·intro _ _;simp
abbrev s_r06_TextAt:Spc:=aZ (a2 Corpus Int) bk (enc (X:=Int)) lr
def Gc:ax pT px S (a2 Corpus Int) bk (enc (X:=Int)) lr:=by
 rintro⟨c,x⟩ -;simp[pT,px, -Bool.forall_bool];intro _;refine am (X:=Unit) [1,8] [] (c.texts.length) (λ_ _=>True) (λ_=>[]) (λ_=>[]) () (by simp) (by simp) (by first|omega|(simp;omega)) (by simp) (by simp) trivial (by simp) (by simp) ?_ ?_
 ·intro k _ hk _;obtain⟨t,ht⟩:=eM hk;simp[ht,hk, -Bool.forall_bool]
 ·intro _ _;simp
abbrev s_r06_FindText:Spc:=aZ (a2 Corpus B) bk (enc (X:=Int)) lr
def Ce:ax mr lU S (a2 Corpus B) bk (enc (X:=Int)) lr:=by
 rintro⟨c,x⟩ -;simp[mr,lU, -Bool.forall_bool];intro _;refine am (X:=Unit) [1,8] [] (c.texts.length) (λ_ _=>True) (λ_=>[]) (λ_=>[]) () (by simp) (by simp) (by first|omega|(simp;omega)) (by simp) (by simp) trivial (by simp) (by simp) ?_ ?_
 ·intro k _ hk _;obtain⟨t,ht⟩:=eM hk;simp[ht,hk, -Bool.forall_bool]
 ·intro _ _;simp
abbrev s_r06_sameAttributes:Spc:=aZ (a2 (List Attr) (List Attr)) bk (enc (X:=Bool)) lr
def sY:ax fM fC S (a2 (List Attr) (List Attr)) bk (enc (X:=Bool)) lr:=by
 rintro⟨l,r⟩ -;simp[fM,fC, -Bool.forall_bool];intro _ _ he _;refine am (X:=Unit) [0,1] [] (l.length) (λ_ _=>True) (λ_=>[]) (λ_=>[]) () (by simp) (by simp) (by first|omega|(simp;omega)) (by simp) (by simp) trivial (by simp) (by simp) ?_ ?_
 ·intro k _ hk _;obtain⟨t,ht⟩:=eM hk;obtain⟨u,hu⟩:=eM (l:=r) (k:=k) (by omega);have hk2:k < r.length:=by omega
  simp[ht,hu,hk,hk2, -Bool.forall_bool]
 ·intro _ _;simp
abbrev s_r06_cyclic:Spc:=aZ (a2 (List Int) Int) (λx=>0<=x.2/\x.2 < x.1.length) (enc (X:=Bool)) lr
def Gb:ax pS pw S (a2 (List Int) Int) (λx=>0<=x.2/\x.2 < x.1.length) (enc (X:=Bool)) lr:=by
 rintro⟨l,i⟩ hl;have hl:0<=i/\i < l.length:=hl;simp[pS,pw, -Bool.forall_bool];intro _;refine am (X:=Int) [0,1] [] l.length (λ_ a=>0<=a/\a < l.length) (λa=>[(5,enc a)]) (λ_=>[]) i (by simp) (by simp) (by omega) (by simp) (by simp) hl (by simp) (by simp) ?_ ?_
 ·intro k a hk ha;simp[-Bool.forall_bool];refine⟨ha.1,ha.2,λb _ h1 _ h2 _=>⟨h1,h2⟩⟩
 ·intro _ _;simp
abbrev s_r06_tokens:Spc:=aZ (a1 Corpus) bk (sj (Y:=Int) (Z:=Int)) lr
theorem Ga(h1:S tQ=s_r06_Value):ax pR pu S (a1 Corpus) bk (sj (Y:=Int) (Z:=Int)) lr:=by
 rintro c -;simp[pR,pu,h1,bk, -Bool.forall_bool];intro _ _ _;refine am (X:=Unit) [1,14] [] (c.toks.length) (λ_ _=>True) (λ_=>[]) (λ_=>[]) () (by simp) (by simp) (by first|omega|(simp;omega)) (by simp) (by simp) trivial (by simp) (by simp) ?_ ?_
 ·intro k _ hk _;obtain⟨t,ht⟩:=eM hk;simp[ht,hk, -Bool.forall_bool];intro hl1 hl2 hle hl3;refine am (X:=Unit) [1,4,14,15,16,28] [] (c.toks[k].length) (λ_ _=>True) (λ_=>[]) (λ_=>[]) () (by simp) (by simp) (by first|omega|(simp;omega)) (by simp) (by simp) trivial (by simp) (by simp) ?_ ?_
  ·intro j _ hj _;have hj2:j < c.attrs.length:=by omega
   simp[hj,hj2,h1,bk, -Bool.forall_bool]
  ·intro _ _;simp
 ·intro _ _;simp
abbrev s_r06_texts:Spc:=aZ (a1 Corpus) bk (sj (Y:=Int) (Z:=Int)) lr
theorem Iz(h1:S aK=s_r04_ValidName)(h2:S pg=s_r06_pairs):ax rN qP S (a1 Corpus) bk (sj (Y:=Int) (Z:=Int)) lr:=by
 rintro c -;simp[rN,qP,h1,h2,bk, -Bool.forall_bool];intro _ _ _ _ _ _;refine am (X:=Int) [1,4,26] [] c.texts.length (λ_ _=>True) (λa=>[(5,enc a)]) (λ_=>[]) 0 (by simp) (by simp) (by omega) (by simp) (by simp) trivial (by simp) (by simp) ?_ ?_
 ·intro k a hk _;obtain⟨t,ht⟩:=eM hk;simp[ht,hk,h1,bk, -Bool.forall_bool];refineλb=>⟨by omega,λ_=>?_⟩
  refine am (X:=Unit) [1,4,5,6,7,26,27,28,41] [7] (min k c.texts.length) (λ_ _=>True) (λ_=>[]) (λ_=>[]) () (by simp) (by simp) (by first|omega|(simp;omega)) (by simp) (by simp) trivial (by simp) (by simp) ?_ ?_
  ·intro j _ hj _;obtain⟨y,hy⟩:∃y,(c.texts.take k)[j]? =some y:=eM (by simpa using hj);simp[hy,th, -List.map_take];simpa using hj
  ·intro _ _;simp[h2,bk, -Bool.forall_bool]
   ((repeat' first|apply And.intro|intro _) <;> first|omega|(simp only[InR];omega)|assumption|trivial)
 ·intro _ _;simp
abbrev s_r06_regions:Spc:=aZ (a1 Corpus) bk (sj (Y:=Int) (Z:=Int)) lr
theorem Ec(h1:S aK=s_r04_ValidName)(h2:S pg=s_r06_pairs)(h3:S mW=s_r06_within)(h4:S dW=s_r06_CompareRegions):ax nW np S (a1 Corpus) bk (sj (Y:=Int) (Z:=Int)) lr:=by
 rintro c -;simp[nW,np,h1,h2,h3,h4,bk, -Bool.forall_bool];intro _ _ _;refine am (X:=Unit) [1,15] [] (c.regs.length) (λ_ _=>True) (λ_=>[]) (λ_=>[]) () (by simp) (by simp) (by first|omega|(simp;omega)) (by simp) (by simp) trivial (by simp) (by simp) ?_ ?_
 ·intro k _ hk _;obtain⟨t,ht⟩:=eM hk;simp[ht,hk,h1,h2,h3,h4,bk, -Bool.forall_bool];refineλb=>⟨λh0=>⟨by simp only[InR];omega,by omega,by omega,λa _ y _=>⟨by simp only[InR];omega,by omega,by omega,λ_=>?_⟩⟩,λh0=>⟨by simp only[InR];omega,by omega,by omega,λ_=>?_⟩⟩
  all_goals
   refine am (X:=Nat) [1,4,5,15,16,17,62] [5] (min (k+1) c.regs.length) (λj d=>d<=j) (λd=>[(7,enc (d:Int))]) (λ_=>[]) 0 (by simp) (by simp) (by omega) (by simp) (by simp) (by omega) (by simp) (by simp) ?_ ?_
   ·intro j d hj hd;obtain⟨y,hy⟩:∃y,(c.regs.take (k+1))[j]? =some y:=eM (by simpa using hj);simp[hy,th, -List.map_take, -Bool.forall_bool]
    repeat' first|apply And.intro|intro _
    all_goals first|omega|(simp only[InR];omega)|exact⟨d,by omega,by omega⟩|exact⟨d+1,by omega,by omega⟩|(simp;omega)|skip
   ·intro d hd;simp
 ·intro _ _;simp
def NW(x:List qB×Corpus):Prop:=∀ (j:Nat) (y:qB),x.1[j]? =some y->y.par < j
abbrev s_r06_Nodes:Spc:=aZ (a2 (List qB) Corpus) NW (sj (Y:=Int) (Z:=Int)) lr
theorem IE(h1:S aK=s_r04_ValidName)(h3:S mW=s_r06_within):ax rS qU S (a2 (List qB) Corpus) NW (sj (Y:=Int) (Z:=Int)) lr:=by
 rintro⟨l,c⟩ hp;have hp:∀ (j:Nat) (y:qB),l[j]? =some y->y.par < j:=hp;simp[rS,qU,h1,h3,bk, -Bool.forall_bool];intro _ _ _;refine⟨by omega,by omega,λx _=>?_⟩;refine am (X:=List Int) [0,3,18] [] l.length (λ_ d=>d.length=l.length/\∀a∈d,0<=a/\a<=40) (λ_=>[(6, .own 17 x)]) (λd=>[(17, .row x hU 1 (d.map enc))]) (List.replicate l.length 0) (by simp) (by simp) (by omega) (by simp) (by simp) (by simp) (by simp) (by simp) ?_ ?_
 ·rintro k d hk ⟨hd1,hd2⟩;obtain⟨t,ht⟩:=eM hk;have htp:=hp k t ht;have ht':=qjA.1 ht;obtain⟨_,ht'⟩:=ht';simp[ht,ht',hk,h1,h3,bk, -Bool.forall_bool];refineλb=>⟨by simp only[InR];omega,?_⟩
  refine cm (X:=Int) [0,3,6,7,8,18,19,20] [8,17] (λ_=>True) (λa=>[(9,enc a)]) (λ_=>[]) ?_ ?_
  ·simp;refine aL (X:=Int) [0,3,6,7,8,18,19,20] [8,17] (λa=>a < k) (λa=>[(9,enc a)]) (λ_=>[]) (λa=>(a+1).toNat) ((k:Int) -1) (by omega) (by simp) (by simp) ?_;intro a ha;simp;intro h0 _;refine⟨h0,by omega,λy hy=>?_⟩;have:=hp a.toNat y hy;exact⟨y.par,by omega,rfl,by omega⟩
  ·intro a _;refine cm (X:=Unit) [0,3,6,7,8,18,19,20] [8,17] (λ_=>True) (λ_=>[]) (λ_=>[]) ?_ ?_
   ·simp
   ·rintro - -;refine cm (X:=List Int) [0,3,6,7,8,18,19,20] [8] (λd=>d.length=l.length/\∀a∈d,0<=a/\a<=40) (λ_=>[]) (λd=>[(17, .row x hU 1 (d.map enc))]) ?_ ?_
    ·simp;refine⟨λh0=>⟨h0,by omega,λy _ _ _=>⟨h0,by omega,by omega,λa2 ha2=>⟨by omega,λa3 _=>⟨d.set k a2,⟨by simpa using hd1,λa4 h4=>?_⟩, .inl (fU d k a2)⟩⟩⟩⟩,λ_=>⟨d,⟨hd1,hd2⟩, .inl rfl⟩⟩;rcases qkp h4 with h4|rfl
     ·exact hd2 _ h4
     ·exact hd2 _ (fF ha2)
    ·rintro d ⟨hd1,hd2⟩;refine cm (X:=Unit) [0,3,6,7,18,19,20] [17] (λ_=>True) (λ_=>[]) (λ_=>[]) ?_ ?_
     ·simp;refine⟨by simp only[InR];omega,?_⟩;refine aL (X:=Int) [0,3,6,7,8,18,19,20] [8,17] (λa=>a < k) (λa=>[(11,enc a)]) (λ_=>[]) (λa=>(a+1).toNat) ((k:Int) -1) (by omega) (by simp) (by simp) ?_;intro a ha;simp;exactλh0=>⟨h0,by omega,λy _=>⟨λ_=>⟨h0,by omega⟩,λ_=>⟨by simp only[InR];omega,a -1,by omega,rfl,by omega⟩⟩⟩
     ·rintro - -;simp;refine⟨by omega,λa2 ha2=>?_⟩;have h4:=hd2 _ (fF ha2);refine⟨by simp only[InR];omega,by omega,λ_ _=>⟨by omega,λd1 h5=>?_⟩⟩;have hkd:k < d.length:=by omega
      rw[qkJ (by simpa using hkd)]at h5;cases h5;simp;refineλh6=>⟨d.set k (a2+1),⟨by simpa using hd1,λa4 h4=>?_⟩, .inl (fU d k (a2+1))⟩
      rcases qkp h4 with h4|rfl
      ·exact hd2 _ h4
      ·omega
 ·intro d hd;simp
def NV(c:Corpus):Prop:=True
abbrev s_r06_heads:Spc:=aZ (a1 Corpus) NV (sj (Y:=Int) (Z:=Int)) lr
theorem IB(h1:S aK=s_r04_ValidName)(h3:S wM=s_r06_bare)(h4:S rC=s_r06_TextAt)(h5:S rB=s_r06_cyclic):ax rP qR S (a1 Corpus) NV (sj (Y:=Int) (Z:=Int)) lr:=by
 rintro c -;simp[rP,qR,h1,h3,h4,h5,bk, -Bool.forall_bool];intro _;refine cm (X:=Unit) [1,4] [] (λ_=>c.heads.length=c.rels.length) (λ_=>[]) (λ_=>[]) ?_ ?_
 ·simp
  ((repeat' first|apply And.intro|intro _) <;> first|omega|(simp only[InR];omega)|assumption|trivial)
 ·rintro -hl;refine cm (X:=Unit) [1,4] [] (λ_=>True) (λ_=>[]) (λ_=>[]) ?_ ?_
  ·simp[h1,h3,h4,h5,bk,hl, -Bool.forall_bool]
  ·rintro - -;simp;intro _;refine am (X:=Unit) [1,4,36] [] (c.heads.length) (λ_ _=>True) (λ_=>[]) (λ_=>[]) () (by simp) (by simp) (by first|omega|(simp;omega)) (by simp) (by simp) trivial (by simp) (by simp) ?_ ?_
   ·intro k _ hk _;have hk2:k < c.rels.length:=by omega
    simp[hk,hk2];refine cm (X:=Unit) [1,4,5,36,37,38] [] (λ_=>True) (λ_=>[]) (λ_=>[]) ?_ ?_
    ·simp[h1,h3,h4,h5,bk,hk,hk2,hl, -Bool.forall_bool]
    ·rintro - -;refine cm (X:=Unit) [1,4,5,36,37,38] [] (λ_=>True) (λ_=>[]) (λ_=>[]) ?_ ?_
     ·simp[h1,h3,h4,h5,bk,hk,hk2,hl, -Bool.forall_bool]
     ·rintro - -;simp[h1,h3,h4,h5,bk,hk,hk2,hl, -Bool.forall_bool]
   ·intro _ _;simp
def kU(c:Corpus):Prop:=∀ (j:Nat) (y:qB),c.nodes[j]? =some y->y.par < j
abbrev s_r06_Validate:Spc:=aZ (a1 Corpus) kU (Ze (Y:=Int) (Z:=Int) (W:=Int)) lr
def Cb(h1:S kL=s_r06_Attributes)(h2:S rA=s_r06_tokens)(h3:S tO=s_r06_texts)(h4:S pG=s_r06_regions)(h5:S tS=s_r06_Nodes)(h6:S tP=s_r06_heads):ax mq lT S (a1 Corpus) kU (Ze (Y:=Int) (Z:=Int) (W:=Int)) lr:=by
 rintro c hc;simp[mq,lT,h1,h2,h3,h4,h5,h6,bk, -Bool.forall_bool];exact⟨hc,trivial⟩
abbrev s_r06_Valid:Spc:=aZ (a1 Corpus) kU (enc (X:=Bool)) lr
def ID(h1:S nK=s_r06_Validate):ax rR qT S (a1 Corpus) kU (enc (X:=Bool)) lr:=by
 rintro c hc;simp[rR,qT,h1,bk, -Bool.forall_bool];exact hc
theorem Xu{α:Type}(m:List α)(bl x:α)(j:Nat)(hj:j<=m.length):(List.take (j+1) (m++ [bl]) ++ (List.take (m.length -j) (List.drop j (List.take (m.length+1) (m++ [bl]))) ++List.drop (j+1+min (m.length+1-j) (m.length-j)) (m++ [bl]))).set j x=m.take j++x::m.drop j:=by
 have h1:List.take (m.length+1) (m++ [bl])=m++ [bl]:=qk2 (by simp);have h2:List.drop j (m++ [bl])=m.drop j++ [bl]:=List.drop_append_of_le_length hj;have h3:List.take (m.length -j) (m.drop j++ [bl])=m.drop j:=by rw[List.take_left'];simp
 have h4:List.drop (j+1+min (m.length+1-j) (m.length-j)) (m++ [bl])=[]:=List.drop_of_length_le (by simp;omega);rw[h1,h2,h3,h4,qkF];have h5:List.take (j+1) (m++[bl])=m.take j++ [(m++ [bl])[j]'(by simp;omega)]:=by
  rw[List.take_succ_eq_append_getElem (by simp;omega),List.take_append_of_le_length hj]
 rw[h5,qkg,List.set_append_right _ _ (by simp;omega)];simp[hj]
def UJ{α:Type}{m:List α}{bl x:α}{j n:Nat}(hn:m.length=n)(hj:j<=n):(List.take (j+1) (m++ [bl]) ++ (List.take (n -j) (List.drop j (List.take (n+1) (m++ [bl]))) ++List.drop (j+1+min (n+1-j) (n-j)) (m++ [bl]))).set j x=m.take j++x::m.drop j:=by
 subst hn;exact Xu m bl x j hj
def SO(l m:List Region):Prop:=m.length=l.length/\∀x∈m,x∈l
def MF(l:List Region):Prop:=l.length<=1000000
abbrev s_r06_SortRegions:Spc:=aZ (a1 (List Region)) MF (enc (X:=List Region)) SO
theorem xq(h1:S dW=s_r06_CompareRegions):ax iW iK S (a1 (List Region)) MF (enc (X:=List Region)) SO:=by
 rintro l hl;have hl:l.length<=1000000:=hl;simp[iW,iK, -Bool.forall_bool];intro _;refine am (X:=Value×List Region) [7] [] l.length (λk x=>x.2.length=k/\∀y∈x.2,y∈l) (λx=>[(3, .own 32 x.1)]) (λx=>[(32, .row x.1 je 4 (x.2.map enc))]) (.slice none 0 0, []) (by simp) (by simp) (by omega) (by simp) (by simp) (by simp) (by simp) (by simp[isNilRow]) ?_ ?_
 ·rintro k ⟨v,m⟩ hk ⟨hm1,hm2⟩;simp at hm1 hm2;simp[hk];refineλb _=>?_
  refine cm (X:=Nat) [3,5,7,8,9] [5,32] (λx=>x<=m.length) (λx=>[(6,enc (x:Int))]) (λx=>[]) ?_ ?_
  ·simp;refine aL (X:=Nat) [3,5,7,8,9] [5,32] (λx=>x<=m.length) (λx=>[(6,enc (x:Int))]) (λx=>[]) (λx=>x) m.length (by simp) (by simp) (by simp) ?_;intro j hj;simp[h1,bk];refine⟨λh0=>⟨by simp only[InR];omega,by omega,by omega,by omega,λa _ y=>⟨λ_=>⟨by simp only[InR];omega,j -1,by omega,by omega,by omega⟩,λ_=>⟨j,hj,rfl⟩⟩⟩,λ_=>⟨j,hj,rfl⟩⟩
  ·intro j hj;simp;have hx:D.agg [D.v (Value.string l[k].ty),D.v (Value.int IntKind.i64 l[k].b),D.v (Value.int IntKind.i64 l[k].e),D.list 2 (List.map enc l[k].kv)]=enc l[k]:=by simp
   refine⟨by omega,by omega,λv=>⟨by simp only[InR];omega,by omega,by omega,by omega,by omega,by omega,λd _=>⟨v,m.take j++l[k]::m.drop j,⟨by simp;omega,λy hy=>?_⟩,rfl, .inl ⟨rfl,?_⟩⟩⟩⟩
   ·rcases qjM.1 hy with h|h
    ·exact hm2 _ (qjX h)
    ·rcases qjW.1 h with rfl|h
     ·exact qkW hk
     ·exact hm2 _ (qkh h)
   ·refine(UJ (by simp) hj).trans ?_;rw[hx,th,Se,qkO,qj2]
 ·rintro⟨v,m⟩ ⟨hm1,hm2⟩;simp at hm1 hm2;simp;exact dm m (jD je (by simp)) ⟨hm1,hm2⟩
def vy(s:Int):List un->Int->Prop
 | [],e=>s=e
 | t::r,e=>t.b=s/\t.b < t.e/\vy t.e r e
def K9(c:Corpus):Prop:=vy 0 c.texts c.toks.length/\c.texts≠ []/\c.toks.length<=4096/\c.texts.length<=64/\c.regs.length<=1024/\c.nodes.length<=2048/\c.attrs.length<=1000/\c.heads.length<=c.toks.length/\c.rels.length<=c.toks.length/\
 (∀x∈c.regs,0<=x.b/\x.b<=c.toks.length/\0<=x.e/\x.e<=c.toks.length)/\(∀x∈c.nodes,0<=x.b/\x.b<=c.toks.length/\0<=x.e/\x.e<=c.toks.length)/\(∀ (j:Nat) (y:qB),c.nodes[j]? =some y->y.par < j)/\∀h∈c.heads,h<=c.toks.length
def DU(c:Corpus)(x:List Int×List B):Prop:=(∀h∈x.1,h<=c.toks.length)/\x.1.length<=c.toks.length/\x.2.length<=c.toks.length
abbrev s_r06_allHeads:Spc:=aZ (a1 Corpus) K9 (sj (Y:=List Int) (Z:=List B)) DU
theorem Ca:ax ml lS S (a1 Corpus) K9 (sj (Y:=List Int) (Z:=List B)) DU:=by
 rintro c hc;obtain⟨c1,c2,c3,c4,c5,c6,c7,c8,c9,c10,c11,c12,c13⟩:=hc;simp[ml,lS, -Bool.forall_bool];refineλ_=>⟨λ_=>⟨c.heads, .same _,c.rels, .same _,c13,c8,c9⟩,λ_ _=>⟨by omega,by omega,λv _=>?_⟩⟩
 refine am (X:=List Int) [1] [] c.toks.length (λk x=>x.length=c.toks.length/\∀ (j:Nat) (y:Int),x[j]? =some y->j < k->y= -1) (λx=>[(4, .own 17 v)]) (λx=>[(17, .row v hU 1 (x.map enc))]) (List.replicate c.toks.length 0) (by simp) (by simp) (by omega) (by simp) (by simp) (by simp) (by simp) (by simp) ?_ ?_
 ·rintro k m hk ⟨hm1,hm2⟩;simp;refine⟨by omega,λa _=>⟨m.set k (-1),⟨by simpa using hm1,λj y hy hj=>?_⟩, .inl (fU m k (-1))⟩⟩;rw[List.getElem?_set]at hy;split at hy
  ·split at hy
   ·cases hy;rfl
   ·cases hy
  ·exact hm2 j y hy (by omega)
 ·rintro m ⟨hm1,hm2⟩;simp;refineλ_=>⟨by omega,by omega,λx=>⟨m,jD hU (by simp),List.replicate c.toks.length ⟨#[]⟩,jD aJ (by simp),λy hy=>?_,by show m.length<=_;omega,by simp⟩⟩
  obtain⟨j,hj⟩:=qjY.1 hy;have:=hm2 j y hj (by have:=(qjA.1 hj).1;have h9:j < m.length:=this;omega);omega
def cS(H:aa)(a b:D)(l bs:List D):FrzTo H (.agg (a::l)) (.agg (b::bs))=(FrzTo H a b/\FrzTo H (.agg l) (.agg bs)):=by
 refine propext ⟨λh=>?_,λ⟨h1,h2⟩=>?_⟩
 ·cases h with
  | same=>exact⟨.same _, .same _⟩
  | agg hl h=>exact⟨h 0 a b rfl rfl, .agg (by simpa using hl) λk c c' h1 h2=>h (k+1) c c' (by simpa using h1) (by simpa using h2)⟩
 ·have hl:l.length=bs.length:=by
   cases h2 with
   | same=>rfl
   | agg hl _=>exact hl
  refine .agg (by simp[hl]) λk c c' e1 e2=>?_
  cases k with
  | zero=>simp at e1 e2;subst e1;subst e2;exact h1
  | succ k=>
    simp at e1 e2;cases h2 with
    | same=>rw[e1]at e2;cases e2;exact .same _
    | agg _ h=>exact h k c c' e1 e2
def zc:Corpus:=⟨[], [], [], [], [], [], []⟩
def rp{X:Type}(f:X->X)(a b:List X)(j:Nat):List X:=a++ ((b.take j).map f++b.drop j)
def Rh{X:Type}(f:X->X)(a b:List X):rp f a b 0=a++b:=by simp[rp]
def Rg{X:Type}(f:X->X)(a b:List X):rp f a b b.length=a++b.map f:=by simp[rp]
def uA{X:Type}(f:X->X)(a b:List X)(j:Nat):(rp f a b j).length=a.length+b.length:=by simp[rp];omega
def Xm{X:Type}(f:X->X)(a b:List X){j:Nat}{y:X}(hy:b[j]? =some y):(rp f a b j)[a.length+j]? =some y:=by
 have hj:=(qjA.1 hy).1;simp only[rp];rw[qjK (by omega),qjK (by simp;omega)];simp only[qka,qj3,qkb];rw[<-hy];congr 1;omega
def Uy{X:Type}(f:X->X)(a b:List X){j:Nat}{y:X}(hy:b[j]? =some y):(rp f a b j).set (a.length+j) (f y)=rp f a b (j+1):=by
 have hj:=(qjA.1 hy).1;have hd:b.drop j=y::b.drop (j+1):=by
  rw[qkq hj];rw[(qjA.1 hy).2]
 simp only[rp];rw[List.set_append_right _ _ (by omega),List.set_append_right _ _ (by simp;omega)];have:a.length+j -a.length - (List.map f (List.take j b)).length=0:=by simp;omega
 rw[this,hd,List.set_cons_zero];rw[List.take_succ_eq_append_getElem hj,(qjA.1 hy).2];simp
def Hb{X:Type}(f:X->X)(a b:List X){k:Nat}{y:X}(hk:a.length<=k)(hy:b[k -a.length]? =some y):(rp f a b (k -a.length))[k]? =some y:=by
 have:=Xm f a b hy;rwa [Nat.add_sub_cancel' hk]at this
def Da{X:Type}(f:X->X)(a b:List X){k:Nat}{y:X}(hk:a.length<=k)(hy:b[k -a.length]? =some y):(rp f a b (k -a.length)).set k (f y)=rp f a b (k+1 -a.length):=by
 have:=Uy f a b hy;rw[Nat.add_sub_cancel' hk]at this;rw[this];congr 1;omega
def FH:∀ {l:List un} {s e:Int},vy s l e->∀t∈l,s<=t.b/\t.b < t.e/\t.e<=e
 | [],s,e,h,t,ht=>by simp at ht
 | x::r,s,e,h,t,ht=>by
   obtain⟨h1,h2,h3⟩:=h;have hle:∀ {l:List un} {s e:Int},vy s l e->s<=e:=by
    intro l
    induction l with
    | nil=>intro s e h;have h:s=e:=h;omega
    | cons a l ih=>intro s e h;have:=ih h.2.2;have:=h.1;have:=h.2.1;omega
   rcases qjW.1 ht with rfl|ht
   ·have:=hle h3;omega
   ·have:=FH h3 t ht;omega
def VI(n:Int)(t:un):un:=⟨t.nm,t.b+n,t.e+n,t.kv⟩
def FI:∀ {l:List un} {s e:Int} {r:List un} {n f:Int},vy s l e->vy 0 r f->n=e->vy s (l++r.map (VI n)) (n+f)
 | [],s,e,r,n,f,h,hr,hn=>by
   have h:s=e:=h;subst h;subst hn;have go:∀ (r:List un) (a:Int),vy a r f->vy (a+n) (r.map (VI n)) (n+f):=by
    intro r
    induction r with
    | nil=>intro a h;have h:a=f:=h;show a+n=n+f;omega
    | cons x r ih=>intro a h;obtain⟨h1,h2,h3⟩:=h;exact⟨by show x.b+n=a+n;omega,by show x.b+n < x.e+n;omega,ih _ h3⟩
   have:=go r 0 hr;simpa using this
 | x::l,s,e,r,n,f,h,hr,hn=>⟨h.1,h.2.1,FI h.2.2 hr hn⟩
def WK(n:Int)(x:Region):Region:=⟨x.ty,x.b+n,x.e+n,x.kv⟩
def TV(n m:Int)(x:qB):qB:=⟨x.lb,x.b+n,x.e+n,if 0<=x.par then x.par+m else x.par⟩
def eE(a b:Corpus)(hd:List Int)(rl:List B):Corpus:=⟨a.attrs,a.toks++b.toks,a.texts++b.texts.map (VI a.toks.length),a.regs++b.regs.map (WK a.toks.length),a.nodes++b.nodes.map (TV a.toks.length a.nodes.length),hd,rl⟩
theorem MJ{a b:Corpus}{hd:List Int}{rl:List B}(ha:K9 a)(hb:K9 b)(l1:a.toks.length+b.toks.length<=4096)(l2:a.texts.length+b.texts.length<=64)(l3:a.regs.length+b.regs.length<=1024)(l4:a.nodes.length+b.nodes.length<=2048)
 (h1:hd.length<=a.toks.length+b.toks.length) (h2:rl.length<=a.toks.length+b.toks.length) (h3:∀h∈hd,h<=a.toks.length+b.toks.length):K9 (eE a b hd rl):=by
 obtain⟨a1,a2,a3,a4,a5,a6,a7,a8,a9,a10,a11,a12,a13⟩:=ha;obtain⟨b1,b2,b3,b4,b5,b6,b7,b8,b9,b10,b11,b12,b13⟩:=hb;refine⟨?_,?_,?_,?_,?_,?_,a7,?_,?_,?_,?_,?_,?_⟩
 ·have:=FI (n:=a.toks.length) a1 b1 rfl;simpa [eE]using this
 ·simp[eE,a2]
 ·simpa [eE]using l1
 ·simpa [eE]using l2
 ·simpa [eE]using l3
 ·simpa [eE]using l4
 ·simpa [eE]using h1
 ·simpa [eE]using h2
 ·intro x hx;simp only[eE,qjM,qjN,qj4]at hx ⊢;rcases hx with hx|⟨y,hy,rfl⟩
  ·have:=a10 x hx;omega
  ·have:=b10 y hy;simp only[WK];omega
 ·intro x hx;simp only[eE,qjM,qjN,qj4]at hx ⊢;rcases hx with hx|⟨y,hy,rfl⟩
  ·have:=a11 x hx;omega
  ·have:=b11 y hy;simp only[TV];omega
 ·intro j y hy;simp only[eE]at hy;by_cases hj:j < a.nodes.length
  ·rw[qjQ hj]at hy;exact a12 j y hy
  ·rw[qjK (by omega),qjU]at hy;simp only[qjH]at hy;obtain⟨z,hz,rfl⟩:=hy;have:=b12 _ z hz;simp only[TV];split <;> omega
 ·intro h hh;simp only[eE,qj4]at hh ⊢;have:=h3 h hh;omega
def K5(x:Corpus×Corpus):Prop:=K9 x.1/\K9 x.2
def K1(x:Corpus×Corpus)(z:Corpus×Int):Prop:=z.2=0->K9 z.1/\z.1.attrs=x.1.attrs/\z.1.toks=x.1.toks++x.2.toks
abbrev s_r06_Concat:Spc:=aZ (a2 Corpus Corpus) K5 (sj (Y:=Corpus) (Z:=Int)) K1
theorem Gd(h1:S tR=s_r06_Valid)(h2:S gG=s_r06_sameAttributes)(h3:S nL=s_r06_FindText)(h4:S nJ=s_r06_allHeads):ax pU py S (a2 Corpus Corpus) K5 (sj (Y:=Corpus) (Z:=Int)) K1:=by
 rintro⟨a,b⟩ ⟨ha,hb⟩;have ha:K9 a:=ha;have hb:K9 b:=hb;have va:kU a:=ha.2.2.2.2.2.2.2.2.2.2.2.1;have vb:kU b:=hb.2.2.2.2.2.2.2.2.2.2.2.1;simp[pU,py,h1,h2,va,vb,bk, -Bool.forall_bool];intro r y;refine⟨λ_ y2=>⟨λ_=>?_,λ_ y3=>⟨λ_=>?_,λ_=>?_⟩⟩,λ_=>?_⟩
 case refine_1=>exact⟨zc,by simp[zc,cS],λh=>by simp at h⟩
 case refine_2=>exact⟨zc,by simp[zc,cS],λh=>by simp at h⟩
 case refine_4=>exact⟨zc,by simp[zc,cS],λh=>by simp at h⟩
 refine cm (X:=Unit) [2,3,4] [4] (λ_=>True) (λ_=>[]) (λ_=>[]) ?_ ?_
 ·simp;intro _;refine am (X:=Unit) [2,3,4,37] [4] (b.texts.length) (λ_ _=>True) (λ_=>[]) (λ_=>[]) () (by simp) (by simp) (by first|omega|(simp;omega)) (by simp) (by simp) trivial (by simp) (by simp) ?_ ?_
  ·intro k _ hk _;simp[hk,h3,bk];intro _ _;exact⟨zc,by simp[zc,cS],λh=>by simp at h⟩
  ·simp
 rintro - -;simp;intro _ _;refine cm (X:=Unit) [2,3,4,8,9] [4] (λ_=>a.toks.length+b.toks.length<=4096/\a.texts.length+b.texts.length<=64/\a.regs.length+b.regs.length<=1024/\a.nodes.length+b.nodes.length<=2048) (λ_=>[]) (λ_=>[]) ?_ ?_
 ·obtain⟨a1,a2,a3,a4,a5,a6,a7,a8,a9,a10,a11,a12,a13⟩:=ha;obtain⟨b1,b2,b3,b4,b5,b6,b7,b8,b9,b10,b11,b12,b13⟩:=hb;simp;intro _;refine⟨by simp only[InR];omega,λ_ _ _=>⟨by simp only[InR];omega,λ_ _ _=>⟨by simp only[InR];omega,λ_ _=>⟨by simp only[InR];omega,λ_=>?_,by omega⟩,λ_=>?_⟩,λ_=>?_⟩,λ_=>?_⟩
  all_goals exact⟨zc,by simp[zc,cS],λh=>by simp at h⟩
 ·rintro - ⟨l1,l2,l3,l4⟩;have hA:=ha;have hB:=hb;obtain⟨a1,a2,a3,a4,a5,a6,a7,a8,a9,a10,a11,a12,a13⟩:=ha;obtain⟨b1,b2,b3,b4,b5,b6,b7,b8,b9,b10,b11,b12,b13⟩:=hb;simp;refine⟨by omega,by omega,λv0 bx=>⟨by omega,by omega,by omega,by omega,λv1=>⟨by omega,by omega,by omega,by omega,λv2=>?_⟩⟩⟩;refine cm (X:=Unit) [2,3,4,8,9,10] [4,10,93,97] (λ_=>True) (λ_=>[]) (λ_=>[(104, .row v2 ux 4 ((a.texts++b.texts.map (VI a.toks.length)).map enc))]) ?_ ?_
  ·simp;intro _;refine aL (X:=Nat) [2,3,4,8,9,10] [4,10,93,97] (λk=>a.texts.length<=k/\k<=a.texts.length+b.texts.length) (λk=>[(11,enc (k:Int))]) (λk=>[(104, .row v2 ux 4 ((rp (VI a.toks.length) a.texts b.texts (k -a.texts.length)).map enc))]) (λk=>a.texts.length+b.texts.length -k) a.texts.length (by omega) (by simp) (by simp[Rh]) ?_;intro k hk;by_cases hkb:k < a.texts.length+b.texts.length
   ·obtain⟨t,ht⟩:=eM (l:=b.texts) (k:=k -a.texts.length) (by omega);have hat:=Hb (VI a.toks.length) a.texts b.texts hk.1 ht;have hset:=Da (VI a.toks.length) a.texts b.texts hk.1 ht;have hc:=FH b1 t (fF ht);obtain⟨hk9,hgk⟩:=qjA.1 hat;simp[uA,hat,hgk,hkb,qkJ,List.set_set];refineλ_=>⟨λ_=>⟨by omega,by simp only[InR];omega,by omega,by simp only[InR];omega,by omega,by simp only[InR];omega,k+1,by omega,⟨by omega, .inl ?_⟩,by omega⟩,λh=>by omega⟩
    rw[<-hset,<-fU];simp[VI]
   ·have hke:k -a.texts.length=b.texts.length:=by omega
    simp[uA,hkb,hke,Rg];omega
  rintro - -;simp;refine⟨by omega,by omega,by omega,by omega,λv3=>?_⟩;refine cm (X:=Unit) [2,3,4,8,9,10] [4,10,93,97,104] (λ_=>True) (λ_=>[]) (λ_=>[(141, .row v3 je 4 ((a.regs++b.regs.map (WK a.toks.length)).map enc))]) ?_ ?_
  ·simp;intro _;refine aL (X:=Nat) [2,3,4,8,9,10] [4,10,93,97,104] (λk=>a.regs.length<=k/\k<=a.regs.length+b.regs.length) (λk=>[(12,enc (k:Int))]) (λk=>[(141, .row v3 je 4 ((rp (WK a.toks.length) a.regs b.regs (k -a.regs.length)).map enc))]) (λk=>a.regs.length+b.regs.length -k) a.regs.length (by omega) (by simp) (by simp[Rh]) ?_;intro k hk;by_cases hkb:k < a.regs.length+b.regs.length
   ·obtain⟨t,ht⟩:=eM (l:=b.regs) (k:=k -a.regs.length) (by omega);have hat:=Hb (WK a.toks.length) a.regs b.regs hk.1 ht;have hset:=Da (WK a.toks.length) a.regs b.regs hk.1 ht;have hc:=b10 t (fF ht);obtain⟨hk9,hgk⟩:=qjA.1 hat;simp[uA,hat,hgk,hkb,qkJ,List.set_set];refineλ_=>⟨λ_=>⟨by omega,by simp only[InR];omega,by omega,by simp only[InR];omega,by omega,by simp only[InR];omega,k+1,by omega,⟨by omega, .inl ?_⟩,by omega⟩,λh=>by omega⟩
    rw[<-hset,<-fU];simp[WK]
   ·have hke:k -a.regs.length=b.regs.length:=by omega
    simp[uA,hkb,hke,Rg];omega
  rintro - -;simp;refine⟨by omega,by omega,by omega,by omega,λv4=>?_⟩;refine cm (X:=Unit) [2,3,4,8,10] [4,10,93,97,104,141] (λ_=>True) (λ_=>[]) (λ_=>[(178, .row v4 oP 4 ((a.nodes++b.nodes.map (TV a.toks.length a.nodes.length)).map enc))]) ?_ ?_
  ·simp;refine aL (X:=Nat) [2,3,4,8,9,10] [4,10,93,97,104,141] (λk=>a.nodes.length<=k/\k<=a.nodes.length+b.nodes.length) (λk=>[(13,enc (k:Int))]) (λk=>[(178, .row v4 oP 4 ((rp (TV a.toks.length a.nodes.length) a.nodes b.nodes (k -a.nodes.length)).map enc))]) (λk=>a.nodes.length+b.nodes.length -k) a.nodes.length (by omega) (by simp) (by simp[Rh]) ?_;intro k hk;by_cases hkb:k < a.nodes.length+b.nodes.length
   ·obtain⟨t,ht⟩:=eM (l:=b.nodes) (k:=k -a.nodes.length) (by omega);have hat:=Hb (TV a.toks.length a.nodes.length) a.nodes b.nodes hk.1 ht;have hset:=Da (TV a.toks.length a.nodes.length) a.nodes b.nodes hk.1 ht;have hc:=b11 t (fF ht);have hc2:=b12 _ t ht;obtain⟨hk9,hgk⟩:=qjA.1 hat;simp[uA,hat,hgk,hkb,qkJ,List.set_set];refineλ_=>⟨λ_=>⟨by omega,by simp only[InR];omega,by omega,by simp only[InR];omega,by omega,λhp=>⟨by omega,by simp only[InR];omega,by omega,by simp only[InR];omega,k+1,by omega,⟨by omega, .inl ?_⟩,by omega⟩,λhp=>⟨by simp only[InR];omega,k+1,by omega,⟨by omega, .inl ?_⟩,by omega⟩⟩,λh=>by omega⟩
    ·rw[<-hset,<-fU];simp[TV,hp]
    ·rw[<-hset,<-fU];simp[TV,show ¬ (0<=t.par) by omega]
   ·have hke:k -a.nodes.length=b.nodes.length:=by omega
    simp[uA,hkb,hke,Rg];omega
  rintro - -;simp[h4,hA,hB];refineλ_ _=>⟨by simp only[InR];omega,λ_=>?_,λ_=>?_⟩
  ·rintro hd1 rl1 ⟨q1,q2,q3⟩ hd2 rl2 ⟨p1,p2,p3⟩;simp only at q1 q2 q3 p1 p2 p3;refine⟨by omega,by omega,λv5=>⟨by omega,by omega,by omega,by omega,λv6 _=>?_⟩⟩;refine ES (Wp 247 269 10 bx _ [D.own 93 v0,D.own 97 v1,D.own 104 v2,D.own 141 v3,D.own 178 v4,D.own 269 v5,D.own 249 v6] (by decide) (by decide) rfl rfl (λm c c' h h'=>?_)) ?_
   ·rcases m with _|_|_|_|_|_|_|m <;> simp at h h' <;> subst h <;> subst h' <;> simp
   refine am (X:=Value×List Int) [4,8,10,254] [4,93,97,104,141,178,249] hd2.length (λk x=>x.2.length=hd1.length+k/\∀h∈x.2,h<=a.toks.length+b.toks.length) (λ_=>[]) (λx=>[(10, .box bx [D.own 93 v0,D.own 97 v1,D.own 104 v2,D.own 141 v3,D.own 178 v4,D.own 269 x.1,D.own 249 v6]),(269, .row x.1 hU 1 (x.2.map enc))]) (v5,hd1) (by simp) (by simp) (by omega) (by simp) (by simp) ⟨rfl,λh hh=>by have:=q1 h hh;omega⟩ (by simp) (by simp) ?_ ?_
   ·rintro k ⟨v,l⟩ hk ⟨hx1,hx2⟩;simp only at hx1 hx2;obtain⟨x,hx⟩:=eM hk;have hpx:=p1 x (fF hx);obtain⟨_,hgx⟩:=qjA.1 hx;simp[hk,hx,hgx];refine cm (X:=Int) [4,8,10,254,255,256] [4,10,93,97,104,141,178,249,269] (λy=>y<=a.toks.length+b.toks.length) (λy=>[(19,enc y)]) (λ_=>[]) ?_ ?_
    ·simp;exact⟨λh0=>⟨by simp only[InR];omega,by omega⟩,λh0=>by omega⟩
    ·intro y hy;simp;refine⟨by omega,by omega,λv=>⟨v,l++ [y],⟨by simp;omega,λh hh=>?_⟩, .inl rfl, .inl ⟨rfl,HX l y⟩⟩⟩;rcases qjM.1 hh with hh|hh
     ·exact hx2 h hh
     ·simp at hh;omega
   ·rintro⟨v,l⟩ ⟨hx1,hx2⟩;simp only at hx1 hx2;simp;refine⟨eE a b l (rl1++rl2),?_,λ_=>⟨MJ hA hB l1 l2 l3 l4 (by omega) (by simp;omega) hx2,rfl,rfl⟩⟩;simp only[cS];refine⟨jD (X:=Attr) xL (by simp[eE]),jD (X:=List B) oQ (by simp[eE]),jD (X:=un) ux (by simp[eE]),jD (X:=Region) je (by simp[eE]),jD (X:=qB) oP (by simp[eE]),jD (X:=Int) hU (by simp[eE]),jD (X:=B) aJ (by simp[eE]), .same _⟩
  ·refine⟨eE a b [] [],?_,λ_=>⟨MJ hA hB l1 l2 l3 l4 (by simp) (by simp) (by simp),rfl,rfl⟩⟩;simp only[cS];refine⟨jD (X:=Attr) xL (by simp[eE]),jD (X:=List B) oQ (by simp[eE]),jD (X:=un) ux (by simp[eE]),jD (X:=Region) je (by simp[eE]),jD (X:=qB) oP (by simp[eE]), .nil _, .nil _, .same _⟩
end Go.Gv
