/- A part of the framework and of the walks: W5 W6 W7 W8. -/
import Derived.Test.YtfbleenmepoodaaGreatDoorGb22
set_option linter.unusedSimpArgs false
set_option linter.unusedVariables false
set_option linter.unusedSectionVars false
set_option linter.defProp false
set_option maxRecDepth 100000
namespace Go.Gv
open Cod (enc dec)
variable {S S0:Nat->Spc}
def uB{X:Type}[Cod X](l:List X)(k:Nat):List.take k (List.map enc l)=List.map enc (List.take k l):=List.map_take.symm
def UP{X:Type}[Cod X](l:List X)(k:Nat):List.drop k (List.map enc l)=List.map enc (List.drop k l):=List.map_drop.symm
abbrev s_r06_sign:Spc:=aY (a1 Bool) bw (enc (X:=Int)) ml
def Na:av vB uF S (a1 Bool) bw (enc (X:=Int)) ml:=by
 rintro s -;simp[vB,uF, -Bool.forall_bool]
abbrev s_r06_compare:Spc:=aY (a2 B B) bw (enc (X:=Int)) ml
def FV:av pw ow S (a2 B B) bw (enc (X:=Int)) ml:=by
 rintro⟨a,b⟩ -;simp[pw,ow]
abbrev s_r06_CompareRegions:Spc:=aY (a2 Region Region) bw (enc (X:=Int)) ml
def uu(h1:S yw=s_r06_sign)(h2:S qF=s_r06_compare):av gd fT S (a2 Region Region) bw (enc (X:=Int)) ml:=by
 rintro⟨a,b⟩ -;simp[gd,fT,h1,h2,bw, -Bool.forall_bool];intro _ _ _;refine aP (X:=Nat) [2,3] [] (λk=>True) (λk=>[(5,enc (k:Int))]) (λ_=>[]) (λk=>a.kv.length -k) 0 trivial (by simp) (by simp) ?_;intro k _;simp[h1,h2,bw, -Bool.forall_bool]
 repeat' first|apply And.intro|intro _
 all_goals first|omega|(simp only[InR];omega)|exact⟨k+1,by omega,by omega⟩
abbrev s_r06_Attributes:Spc:=aY (a1 (List Attr)) bw (rN (Y:=Int) (Z:=Int)) ml
theorem Ba(h1:S aN=s_r04_ValidName):av kW jV S (a1 (List Attr)) bw (rN (Y:=Int) (Z:=Int)) ml:=by
 rintro l -;simp[kW,jV,h1,bw, -Bool.forall_bool];intro _ _ _ _ _;refine ak (X:=Unit) [0,14] [] (l.length) (λ_ _=>True) (λ_=>[]) (λ_=>[]) () (by simp) (by simp) (by first|omega|(simp;omega)) (by simp) (by simp) trivial (by simp) (by simp) ?_ ?_
 ·intro k _ hk _;obtain⟨x,hx⟩:=eX hk;simp[h1,bw, -Bool.forall_bool,hx,hk];refineλb=>⟨by omega,λ_=>?_⟩
  refine ak (X:=Unit) [0,4,5,14,15,16,28] [5] (min k l.length) (λ_ _=>True) (λ_=>[]) (λ_=>[]) () (by simp) (by simp) (by first|omega|(simp;omega)) (by simp) (by simp) trivial (by simp) (by simp) ?_ ?_
  ·intro j _ hj _;obtain⟨y,hy⟩:∃y,(l.take k)[j]? =some y:=eX (by simpa using hj);simp[hy,uB, -List.map_take];simpa using hj
  ·intro _ _;simp
 ·intro _ _;simp
abbrev s_r06_Value:Spc:=aY (a2 Attr B) bw (enc (X:=Int)) ml
def KN(h1:S vp=s_r05_Parse)(h2:S bk=s_r04_ValidValue):av tm sj S (a2 Attr B) bw (enc (X:=Int)) ml:=by
 rintro⟨a,b⟩ -;simp[tm,sj,h1,h2,bw, -Bool.forall_bool]
abbrev s_r06_pairs:Spc:=aY (a1 (List Pair)) bw (enc (X:=Int)) ml
def KL(h1:S aN=s_r04_ValidName)(h2:S bk=s_r04_ValidValue):av ti se S (a1 (List Pair)) bw (enc (X:=Int)) ml:=by
 rintro l -;simp[ti,se,h1,h2,bw, -Bool.forall_bool];intro _ _ _;refine ak (X:=Unit) [0,9] [] (l.length) (λ_ _=>True) (λ_=>[]) (λ_=>[]) () (by simp) (by simp) (by first|omega|(simp;omega)) (by simp) (by simp) trivial (by simp) (by simp) ?_ ?_
 ·intro k _ hk _;obtain⟨x,hx⟩:=eX hk;simp[h1,h2,bw, -Bool.forall_bool,hx,hk]
  ((repeat' first|apply And.intro|intro _) <;> first|omega|(simp only[InR];omega)|assumption|trivial)
 ·intro _ _;simp
abbrev s_r06_within:Spc:=aY (a3 Corpus Int Int) bw (enc (X:=Bool)) ml
def Ic:av qM qs S (a3 Corpus Int Int) bw (enc (X:=Bool)) ml:=by
 rintro⟨c,x,y⟩ -;simp[qM,qs, -Bool.forall_bool];intro _;refine ak (X:=Unit) [1,2,10] [] (c.texts.length) (λ_ _=>True) (λ_=>[]) (λ_=>[]) () (by simp) (by simp) (by first|omega|(simp;omega)) (by simp) (by simp) trivial (by simp) (by simp) ?_ ?_
 ·intro k _ hk _;obtain⟨t,ht⟩:=eX hk;simp[ht,hk, -Bool.forall_bool]
 ·intro _ _;simp
abbrev s_r06_bare:Spc:=aY (a2 (List Int) (List B)) (λx=>x.1.length=x.2.length) (enc (X:=Bool)) ml
def Nb:av vC uG S (a2 (List Int) (List B)) (λx=>x.1.length=x.2.length) (enc (X:=Bool)) ml:=by
 rintro⟨l,r⟩ hl;have hl:l.length=r.length:=hl;simp[vC,uG, -Bool.forall_bool];intro _;refine ak (X:=Unit) [0,1] [] (l.length) (λ_ _=>True) (λ_=>[]) (λ_=>[]) () (by simp) (by simp) (by first|omega|(simp;omega)) (by simp) (by simp) trivial (by simp) (by simp) ?_ ?_
 ·intro k _ hk _;obtain⟨t,ht⟩:=eX hk;obtain⟨u,hu⟩:=eX (l:=r) (k:=k) (by omega);have hk2:k < r.length:=by omega
  simp[ht,hu,hk,hk2, -Bool.forall_bool]
 ·intro _ _;simp
abbrev s_r06_TextAt:Spc:=aY (a2 Corpus Int) bw (enc (X:=Int)) ml
def If:av qP qv S (a2 Corpus Int) bw (enc (X:=Int)) ml:=by
 rintro⟨c,x⟩ -;simp[qP,qv, -Bool.forall_bool];intro _;refine ak (X:=Unit) [1,8] [] (c.texts.length) (λ_ _=>True) (λ_=>[]) (λ_=>[]) () (by simp) (by simp) (by first|omega|(simp;omega)) (by simp) (by simp) trivial (by simp) (by simp) ?_ ?_
 ·intro k _ hk _;obtain⟨t,ht⟩:=eX hk;simp[ht,hk, -Bool.forall_bool]
 ·intro _ _;simp
abbrev s_r06_FindText:Spc:=aY (a2 Corpus B) bw (enc (X:=Int)) ml
def DN:av nl mU S (a2 Corpus B) bw (enc (X:=Int)) ml:=by
 rintro⟨c,x⟩ -;simp[nl,mU, -Bool.forall_bool];intro _;refine ak (X:=Unit) [1,8] [] (c.texts.length) (λ_ _=>True) (λ_=>[]) (λ_=>[]) () (by simp) (by simp) (by first|omega|(simp;omega)) (by simp) (by simp) trivial (by simp) (by simp) ?_ ?_
 ·intro k _ hk _;obtain⟨t,ht⟩:=eX hk;simp[ht,hk, -Bool.forall_bool]
 ·intro _ _;simp
abbrev s_r06_sameAttributes:Spc:=aY (a2 (List Attr) (List Attr)) bw (enc (X:=Bool)) ml
def ut:av gc fS S (a2 (List Attr) (List Attr)) bw (enc (X:=Bool)) ml:=by
 rintro⟨l,r⟩ -;simp[gc,fS, -Bool.forall_bool];intro _ _ he _;refine ak (X:=Unit) [0,1] [] (l.length) (λ_ _=>True) (λ_=>[]) (λ_=>[]) () (by simp) (by simp) (by first|omega|(simp;omega)) (by simp) (by simp) trivial (by simp) (by simp) ?_ ?_
 ·intro k _ hk _;obtain⟨t,ht⟩:=eX hk;obtain⟨u,hu⟩:=eX (l:=r) (k:=k) (by omega);have hk2:k < r.length:=by omega
  simp[ht,hu,hk,hk2, -Bool.forall_bool]
 ·intro _ _;simp
abbrev s_r06_cyclic:Spc:=aY (a2 (List Int) Int) (λx=>0<=x.2/\x.2 < x.1.length) (enc (X:=Bool)) ml
def Ie:av qO qu S (a2 (List Int) Int) (λx=>0<=x.2/\x.2 < x.1.length) (enc (X:=Bool)) ml:=by
 rintro⟨l,i⟩ hl;have hl:0<=i/\i < l.length:=hl;simp[qO,qu, -Bool.forall_bool];intro _;refine ak (X:=Int) [0,1] [] l.length (λ_ a=>0<=a/\a < l.length) (λa=>[(5,enc a)]) (λ_=>[]) i (by simp) (by simp) (by omega) (by simp) (by simp) hl (by simp) (by simp) ?_ ?_
 ·intro k a hk ha;simp[-Bool.forall_bool];refine⟨ha.1,ha.2,λb _ h1 _ h2 _=>⟨h1,h2⟩⟩
 ·intro _ _;simp
abbrev s_r06_tokens:Spc:=aY (a1 Corpus) bw (rN (Y:=Int) (Z:=Int)) ml
theorem Id(h1:S vm=s_r06_Value):av qN qt S (a1 Corpus) bw (rN (Y:=Int) (Z:=Int)) ml:=by
 rintro c -;simp[qN,qt,h1,bw, -Bool.forall_bool];intro _ _ _;refine ak (X:=Unit) [1,14] [] (c.toks.length) (λ_ _=>True) (λ_=>[]) (λ_=>[]) () (by simp) (by simp) (by first|omega|(simp;omega)) (by simp) (by simp) trivial (by simp) (by simp) ?_ ?_
 ·intro k _ hk _;obtain⟨t,ht⟩:=eX hk;simp[ht,hk, -Bool.forall_bool];intro hl1 hl2 hle hl3;refine ak (X:=Unit) [1,4,14,15,16,28] [] (c.toks[k].length) (λ_ _=>True) (λ_=>[]) (λ_=>[]) () (by simp) (by simp) (by first|omega|(simp;omega)) (by simp) (by simp) trivial (by simp) (by simp) ?_ ?_
  ·intro j _ hj _;have hj2:j < c.attrs.length:=by omega
   simp[hj,hj2,h1,bw, -Bool.forall_bool]
  ·intro _ _;simp
 ·intro _ _;simp
abbrev s_r06_texts:Spc:=aY (a1 Corpus) bw (rN (Y:=Int) (Z:=Int)) ml
theorem KJ(h1:S aN=s_r04_ValidName)(h2:S qg=s_r06_pairs):av th sd S (a1 Corpus) bw (rN (Y:=Int) (Z:=Int)) ml:=by
 rintro c -;simp[th,sd,h1,h2,bw, -Bool.forall_bool];intro _ _ _ _ _ _;refine ak (X:=Int) [1,4,26] [] c.texts.length (λ_ _=>True) (λa=>[(5,enc a)]) (λ_=>[]) 0 (by simp) (by simp) (by omega) (by simp) (by simp) trivial (by simp) (by simp) ?_ ?_
 ·intro k a hk _;obtain⟨t,ht⟩:=eX hk;simp[ht,hk,h1,bw, -Bool.forall_bool];refineλb=>⟨by omega,λ_=>?_⟩
  refine ak (X:=Unit) [1,4,5,6,7,26,27,28,41] [7] (min k c.texts.length) (λ_ _=>True) (λ_=>[]) (λ_=>[]) () (by simp) (by simp) (by first|omega|(simp;omega)) (by simp) (by simp) trivial (by simp) (by simp) ?_ ?_
  ·intro j _ hj _;obtain⟨y,hy⟩:∃y,(c.texts.take k)[j]? =some y:=eX (by simpa using hj);simp[hy,uB, -List.map_take];simpa using hj
  ·intro _ _;simp[h2,bw, -Bool.forall_bool]
   ((repeat' first|apply And.intro|intro _) <;> first|omega|(simp only[InR];omega)|assumption|trivial)
 ·intro _ _;simp
abbrev s_r06_regions:Spc:=aY (a1 Corpus) bw (rN (Y:=Int) (Z:=Int)) ml
theorem FU(h1:S aN=s_r04_ValidName)(h2:S qg=s_r06_pairs)(h3:S nV=s_r06_within)(h4:S eo=s_r06_CompareRegions):av pu ov S (a1 Corpus) bw (rN (Y:=Int) (Z:=Int)) ml:=by
 rintro c -;simp[pu,ov,h1,h2,h3,h4,bw, -Bool.forall_bool];intro _ _ _;refine ak (X:=Unit) [1,15] [] (c.regs.length) (λ_ _=>True) (λ_=>[]) (λ_=>[]) () (by simp) (by simp) (by first|omega|(simp;omega)) (by simp) (by simp) trivial (by simp) (by simp) ?_ ?_
 ·intro k _ hk _;obtain⟨t,ht⟩:=eX hk;simp[ht,hk,h1,h2,h3,h4,bw, -Bool.forall_bool];refineλb=>⟨λh0=>⟨by simp only[InR];omega,by omega,by omega,λa _ y _=>⟨by simp only[InR];omega,by omega,by omega,λ_=>?_⟩⟩,λh0=>⟨by simp only[InR];omega,by omega,by omega,λ_=>?_⟩⟩
  all_goals
   refine ak (X:=Nat) [1,4,5,15,16,17,62] [5] (min (k+1) c.regs.length) (λj d=>d<=j) (λd=>[(7,enc (d:Int))]) (λ_=>[]) 0 (by simp) (by simp) (by omega) (by simp) (by simp) (by omega) (by simp) (by simp) ?_ ?_
   ·intro j d hj hd;obtain⟨y,hy⟩:∃y,(c.regs.take (k+1))[j]? =some y:=eX (by simpa using hj);simp[hy,uB, -List.map_take, -Bool.forall_bool]
    repeat' first|apply And.intro|intro _
    all_goals first|omega|(simp only[InR];omega)|exact⟨d,by omega,by omega⟩|exact⟨d+1,by omega,by omega⟩|(simp;omega)|skip
   ·intro d hd;simp
 ·intro _ _;simp
def P9(x:List rK×Corpus):Prop:=∀ (j:Nat) (y:rK),x.1[j]? =some y->y.par < j
abbrev s_r06_Nodes:Spc:=aY (a2 (List rK) Corpus) P9 (rN (Y:=Int) (Z:=Int)) ml
theorem KP(h1:S aN=s_r04_ValidName)(h3:S nV=s_r06_within):av tq so S (a2 (List rK) Corpus) P9 (rN (Y:=Int) (Z:=Int)) ml:=by
 rintro⟨l,c⟩ hp;have hp:∀ (j:Nat) (y:rK),l[j]? =some y->y.par < j:=hp;simp[tq,so,h1,h3,bw, -Bool.forall_bool];intro _ _ _;refine⟨by omega,by omega,λx _=>?_⟩;refine ak (X:=List Int) [0,3,18] [] l.length (λ_ d=>d.length=l.length/\∀a∈d,0<=a/\a<=40) (λ_=>[(6, .own 17 x)]) (λd=>[(17, .row x fP 1 (d.map enc))]) (List.replicate l.length 0) (by simp) (by simp) (by omega) (by simp) (by simp) (by simp) (by simp) (by simp) ?_ ?_
 ·rintro k d hk ⟨hd1,hd2⟩;obtain⟨t,ht⟩:=eX hk;have htp:=hp k t ht;have ht':=qmb.1 ht;obtain⟨_,ht'⟩:=ht';simp[ht,ht',hk,h1,h3,bw, -Bool.forall_bool];refineλb=>⟨by simp only[InR];omega,?_⟩
  refine cm (X:=Int) [0,3,6,7,8,18,19,20] [8,17] (λ_=>True) (λa=>[(9,enc a)]) (λ_=>[]) ?_ ?_
  ·simp;refine aP (X:=Int) [0,3,6,7,8,18,19,20] [8,17] (λa=>a < k) (λa=>[(9,enc a)]) (λ_=>[]) (λa=>(a+1).toNat) ((k:Int) -1) (by omega) (by simp) (by simp) ?_;intro a ha;simp;intro h0 _;refine⟨h0,by omega,λy hy=>?_⟩;have:=hp a.toNat y hy;exact⟨y.par,by omega,rfl,by omega⟩
  ·intro a _;refine cm (X:=Unit) [0,3,6,7,8,18,19,20] [8,17] (λ_=>True) (λ_=>[]) (λ_=>[]) ?_ ?_
   ·simp
   ·rintro - -;refine cm (X:=List Int) [0,3,6,7,8,18,19,20] [8] (λd=>d.length=l.length/\∀a∈d,0<=a/\a<=40) (λ_=>[]) (λd=>[(17, .row x fP 1 (d.map enc))]) ?_ ?_
    ·simp;refine⟨λh0=>⟨h0,by omega,λy _ _ _=>⟨h0,by omega,by omega,λa2 ha2=>⟨by omega,λa3 _=>⟨d.set k a2,⟨by simpa using hd1,λa4 h4=>?_⟩, .inl (gp d k a2)⟩⟩⟩⟩,λ_=>⟨d,⟨hd1,hd2⟩, .inl rfl⟩⟩;rcases qm2 h4 with h4|rfl
     ·exact hd2 _ h4
     ·exact hd2 _ (fV ha2)
    ·rintro d ⟨hd1,hd2⟩;refine cm (X:=Unit) [0,3,6,7,18,19,20] [17] (λ_=>True) (λ_=>[]) (λ_=>[]) ?_ ?_
     ·simp;refine⟨by simp only[InR];omega,?_⟩;refine aP (X:=Int) [0,3,6,7,8,18,19,20] [8,17] (λa=>a < k) (λa=>[(11,enc a)]) (λ_=>[]) (λa=>(a+1).toNat) ((k:Int) -1) (by omega) (by simp) (by simp) ?_;intro a ha;simp;exactλh0=>⟨h0,by omega,λy _=>⟨λ_=>⟨h0,by omega⟩,λ_=>⟨by simp only[InR];omega,a -1,by omega,rfl,by omega⟩⟩⟩
     ·rintro - -;simp;refine⟨by omega,λa2 ha2=>?_⟩;have h4:=hd2 _ (fV ha2);refine⟨by simp only[InR];omega,by omega,λ_ _=>⟨by omega,λd1 h5=>?_⟩⟩;have hkd:k < d.length:=by omega
      rw[qnl (by simpa using hkd)]at h5;cases h5;simp;refineλh6=>⟨d.set k (a2+1),⟨by simpa using hd1,λa4 h4=>?_⟩, .inl (gp d k (a2+1))⟩
      rcases qm2 h4 with h4|rfl
      ·exact hd2 _ h4
      ·omega
 ·intro d hd;simp
def P8(c:Corpus):Prop:=True
abbrev s_r06_heads:Spc:=aY (a1 Corpus) P8 (rN (Y:=Int) (Z:=Int)) ml
theorem KM(h1:S aN=s_r04_ValidName)(h3:S yx=s_r06_bare)(h4:S sT=s_r06_TextAt)(h5:S sS=s_r06_cyclic):av tj sf S (a1 Corpus) P8 (rN (Y:=Int) (Z:=Int)) ml:=by
 rintro c -;simp[tj,sf,h1,h3,h4,h5,bw, -Bool.forall_bool];intro _;refine cm (X:=Unit) [1,4] [] (λ_=>c.heads.length=c.rels.length) (λ_=>[]) (λ_=>[]) ?_ ?_
 ·simp
  ((repeat' first|apply And.intro|intro _) <;> first|omega|(simp only[InR];omega)|assumption|trivial)
 ·rintro -hl;refine cm (X:=Unit) [1,4] [] (λ_=>True) (λ_=>[]) (λ_=>[]) ?_ ?_
  ·simp[h1,h3,h4,h5,bw,hl, -Bool.forall_bool]
  ·rintro - -;simp;intro _;refine ak (X:=Unit) [1,4,36] [] (c.heads.length) (λ_ _=>True) (λ_=>[]) (λ_=>[]) () (by simp) (by simp) (by first|omega|(simp;omega)) (by simp) (by simp) trivial (by simp) (by simp) ?_ ?_
   ·intro k _ hk _;have hk2:k < c.rels.length:=by omega
    simp[hk,hk2];refine cm (X:=Unit) [1,4,5,36,37,38] [] (λ_=>True) (λ_=>[]) (λ_=>[]) ?_ ?_
    ·simp[h1,h3,h4,h5,bw,hk,hk2,hl, -Bool.forall_bool]
    ·rintro - -;refine cm (X:=Unit) [1,4,5,36,37,38] [] (λ_=>True) (λ_=>[]) (λ_=>[]) ?_ ?_
     ·simp[h1,h3,h4,h5,bw,hk,hk2,hl, -Bool.forall_bool]
     ·rintro - -;simp[h1,h3,h4,h5,bw,hk,hk2,hl, -Bool.forall_bool]
   ·intro _ _;simp
def lS(c:Corpus):Prop:=∀ (j:Nat) (y:rK),c.nodes[j]? =some y->y.par < j
abbrev s_r06_Validate:Spc:=aY (a1 Corpus) lS (qbA (Y:=Int) (Z:=Int) (W:=Int)) ml
def DM(h1:S lI=s_r06_Attributes)(h2:S sR=s_r06_tokens)(h3:S vj=s_r06_texts)(h4:S qE=s_r06_regions)(h5:S vo=s_r06_Nodes)(h6:S vk=s_r06_heads):av nk mT S (a1 Corpus) lS (qbA (Y:=Int) (Z:=Int) (W:=Int)) ml:=by
 rintro c hc;simp[nk,mT,h1,h2,h3,h4,h5,h6,bw, -Bool.forall_bool];exact⟨hc,trivial⟩
abbrev s_r06_Valid:Spc:=aY (a1 Corpus) lS (enc (X:=Bool)) ml
def KO(h1:S pb=s_r06_Validate):av tn sk S (a1 Corpus) lS (enc (X:=Bool)) ml:=by
 rintro c hc;simp[tn,sk,h1,bw, -Bool.forall_bool];exact hc
theorem Z5{α:Type}(m:List α)(bl x:α)(j:Nat)(hj:j<=m.length):(List.take (j+1) (m++ [bl]) ++ (List.take (m.length -j) (List.drop j (List.take (m.length+1) (m++ [bl]))) ++List.drop (j+1+min (m.length+1-j) (m.length-j)) (m++ [bl]))).set j x=m.take j++x::m.drop j:=by
 have h1:List.take (m.length+1) (m++ [bl])=m++ [bl]:=qnD (by simp);have h2:List.drop j (m++ [bl])=m.drop j++ [bl]:=List.drop_append_of_le_length hj;have h3:List.take (m.length -j) (m.drop j++ [bl])=m.drop j:=by rw[List.take_left'];simp
 have h4:List.drop (j+1+min (m.length+1-j) (m.length-j)) (m++ [bl])=[]:=List.drop_of_length_le (by simp;omega);rw[h1,h2,h3,h4,qnh];have h5:List.take (j+1) (m++[bl])=m.take j++ [(m++ [bl])[j]'(by simp;omega)]:=by
  rw[List.take_succ_eq_append_getElem (by simp;omega),List.take_append_of_le_length hj]
 rw[h5,qmT,List.set_append_right _ _ (by simp;omega)];simp[hj]
def Xu{α:Type}{m:List α}{bl x:α}{j n:Nat}(hn:m.length=n)(hj:j<=n):(List.take (j+1) (m++ [bl]) ++ (List.take (n -j) (List.drop j (List.take (n+1) (m++ [bl]))) ++List.drop (j+1+min (n+1-j) (n-j)) (m++ [bl]))).set j x=m.take j++x::m.drop j:=by
 subst hn;exact Z5 m bl x j hj
def Vq(l m:List Region):Prop:=m.length=l.length/\∀x∈m,x∈l
def OM(l:List Region):Prop:=l.length<=1000000
abbrev s_r06_SortRegions:Spc:=aY (a1 (List Region)) OM (enc (X:=List Region)) Vq
theorem za(h1:S eo=s_r06_CompareRegions):av jB jo S (a1 (List Region)) OM (enc (X:=List Region)) Vq:=by
 rintro l hl;have hl:l.length<=1000000:=hl;simp[jB,jo, -Bool.forall_bool];intro _;refine ak (X:=Value×List Region) [7] [] l.length (λk x=>x.2.length=k/\∀y∈x.2,y∈l) (λx=>[(3, .own 32 x.1)]) (λx=>[(32, .row x.1 jJ 4 (x.2.map enc))]) (.slice none 0 0, []) (by simp) (by simp) (by omega) (by simp) (by simp) (by simp) (by simp) (by simp[isNilRow]) ?_ ?_
 ·rintro k ⟨v,m⟩ hk ⟨hm1,hm2⟩;simp at hm1 hm2;simp[hk];refineλb _=>?_
  refine cm (X:=Nat) [3,5,7,8,9] [5,32] (λx=>x<=m.length) (λx=>[(6,enc (x:Int))]) (λx=>[]) ?_ ?_
  ·simp;refine aP (X:=Nat) [3,5,7,8,9] [5,32] (λx=>x<=m.length) (λx=>[(6,enc (x:Int))]) (λx=>[]) (λx=>x) m.length (by simp) (by simp) (by simp) ?_;intro j hj;simp[h1,bw];refine⟨λh0=>⟨by simp only[InR];omega,by omega,by omega,by omega,λa _ y=>⟨λ_=>⟨by simp only[InR];omega,j -1,by omega,by omega,by omega⟩,λ_=>⟨j,hj,rfl⟩⟩⟩,λ_=>⟨j,hj,rfl⟩⟩
  ·intro j hj;simp;have hx:D.agg [D.v (Value.string l[k].ty),D.v (Value.int IntKind.i64 l[k].b),D.v (Value.int IntKind.i64 l[k].e),D.list 2 (List.map enc l[k].kv)]=enc l[k]:=by simp
   refine⟨by omega,by omega,λv=>⟨by simp only[InR];omega,by omega,by omega,by omega,by omega,by omega,λd _=>⟨v,m.take j++l[k]::m.drop j,⟨by simp;omega,λy hy=>?_⟩,rfl, .inl ⟨rfl,?_⟩⟩⟩⟩
   ·rcases qml.1 hy with h|h
    ·exact hm2 _ (qmy h)
    ·rcases qmw.1 h with rfl|h
     ·exact qnx hk
     ·exact hm2 _ (qmV h)
   ·refine(Xu (by simp) hj).trans ?_;rw[hx,uB,UP,qnp,qmD]
 ·rintro⟨v,m⟩ ⟨hm1,hm2⟩;simp at hm1 hm2;simp;exact cp m (iM jJ (by simp)) ⟨hm1,hm2⟩
def wZ(s:Int):List vN->Int->Prop
 | [],e=>s=e
 | t::r,e=>t.b=s/\t.b < t.e/\wZ t.e r e
def M5(c:Corpus):Prop:=wZ 0 c.texts c.toks.length/\c.texts≠ []/\c.toks.length<=4096/\c.texts.length<=64/\c.regs.length<=1024/\c.nodes.length<=2048/\c.attrs.length<=1000/\c.heads.length<=c.toks.length/\c.rels.length<=c.toks.length/\
 (∀x∈c.regs,0<=x.b/\x.b<=c.toks.length/\0<=x.e/\x.e<=c.toks.length)/\(∀x∈c.nodes,0<=x.b/\x.b<=c.toks.length/\0<=x.e/\x.e<=c.toks.length)/\(∀ (j:Nat) (y:rK),c.nodes[j]? =some y->y.par < j)/\∀h∈c.heads,h<=c.toks.length
def FB(c:Corpus)(x:List Int×List B):Prop:=(∀h∈x.1,h<=c.toks.length)/\x.1.length<=c.toks.length/\x.2.length<=c.toks.length
abbrev s_r06_allHeads:Spc:=aY (a1 Corpus) M5 (rN (Y:=List Int) (Z:=List B)) FB
theorem DL:av nj mS S (a1 Corpus) M5 (rN (Y:=List Int) (Z:=List B)) FB:=by
 rintro c hc;obtain⟨c1,c2,c3,c4,c5,c6,c7,c8,c9,c10,c11,c12,c13⟩:=hc;simp[nj,mS, -Bool.forall_bool];refineλ_=>⟨λ_=>⟨c.heads, .same _,c.rels, .same _,c13,c8,c9⟩,λ_ _=>⟨by omega,by omega,λv _=>?_⟩⟩
 refine ak (X:=List Int) [1] [] c.toks.length (λk x=>x.length=c.toks.length/\∀ (j:Nat) (y:Int),x[j]? =some y->j < k->y= -1) (λx=>[(4, .own 17 v)]) (λx=>[(17, .row v fP 1 (x.map enc))]) (List.replicate c.toks.length 0) (by simp) (by simp) (by omega) (by simp) (by simp) (by simp) (by simp) (by simp) ?_ ?_
 ·rintro k m hk ⟨hm1,hm2⟩;simp;refine⟨by omega,λa _=>⟨m.set k (-1),⟨by simpa using hm1,λj y hy hj=>?_⟩, .inl (gp m k (-1))⟩⟩;rw[List.getElem?_set]at hy;split at hy
  ·split at hy
   ·cases hy;rfl
   ·cases hy
  ·exact hm2 j y hy (by omega)
 ·rintro m ⟨hm1,hm2⟩;simp;refineλ_=>⟨by omega,by omega,λx=>⟨m,iM fP (by simp),List.replicate c.toks.length ⟨#[]⟩,iM ar (by simp),λy hy=>?_,by show m.length<=_;omega,by simp⟩⟩
  obtain⟨j,hj⟩:=qmz.1 hy;have:=hm2 j y hj (by have:=(qmb.1 hj).1;have h9:j < m.length:=this;omega);omega
def dg(H:ab)(a b:D)(l bs:List D):FrzTo H (.agg (a::l)) (.agg (b::bs))=(FrzTo H a b/\FrzTo H (.agg l) (.agg bs)):=by
 refine propext ⟨λh=>?_,λ⟨h1,h2⟩=>?_⟩
 ·cases h with
  | same=>exact⟨.same _, .same _⟩
  | agg hl h=>exact⟨h 0 a b rfl rfl, .agg (by simpa using hl) λk c c' h1 h2=>h (k+1) c c' (by simpa using h1) (by simpa using h2)⟩
 ·have hl:l.length=bs.length:=by
   cases h2 with
   | same=>rfl
   | agg hl _=>exact hl
  refine .agg (by simp[hl]) λk c c' e1 e2=>?_
  cases k with
  | zero=>simp at e1 e2;subst e1;subst e2;exact h1
  | succ k=>
    simp at e1 e2;cases h2 with
    | same=>rw[e1]at e2;cases e2;exact .same _
    | agg _ h=>exact h k c c' e1 e2
def zc:Corpus:=⟨[], [], [], [], [], [], []⟩
def pR{X:Type}(f:X->X)(a b:List X)(j:Nat):List X:=a++ ((b.take j).map f++b.drop j)
def TI{X:Type}(f:X->X)(a b:List X):pR f a b 0=a++b:=by simp[pR]
def TH{X:Type}(f:X->X)(a b:List X):pR f a b b.length=a++b.map f:=by simp[pR]
def vY{X:Type}(f:X->X)(a b:List X)(j:Nat):(pR f a b j).length=a.length+b.length:=by simp[pR];omega
def ZY{X:Type}(f:X->X)(a b:List X){j:Nat}{y:X}(hy:b[j]? =some y):(pR f a b j)[a.length+j]? =some y:=by
 have hj:=(qmb.1 hy).1;simp only[pR];rw[qmn (by omega),qmn (by simp;omega)];simp only[qmN,qmE,qmO];rw[<-hy];congr 1;omega
def Xh{X:Type}(f:X->X)(a b:List X){j:Nat}{y:X}(hy:b[j]? =some y):(pR f a b j).set (a.length+j) (f y)=pR f a b (j+1):=by
 have hj:=(qmb.1 hy).1;have hd:b.drop j=y::b.drop (j+1):=by
  rw[qmW hj];rw[(qmb.1 hy).2]
 simp only[pR];rw[List.set_append_right _ _ (by omega),List.set_append_right _ _ (by simp;omega)];have:a.length+j -a.length - (List.map f (List.take j b)).length=0:=by simp;omega
 rw[this,hd,List.set_cons_zero];rw[List.take_succ_eq_append_getElem hj,(qmb.1 hy).2];simp
def Jl{X:Type}(f:X->X)(a b:List X){k:Nat}{y:X}(hk:a.length<=k)(hy:b[k -a.length]? =some y):(pR f a b (k -a.length))[k]? =some y:=by
 have:=ZY f a b hy;rwa [Nat.add_sub_cancel' hk]at this
def EL{X:Type}(f:X->X)(a b:List X){k:Nat}{y:X}(hk:a.length<=k)(hy:b[k -a.length]? =some y):(pR f a b (k -a.length)).set k (f y)=pR f a b (k+1 -a.length):=by
 have:=Xh f a b hy;rw[Nat.add_sub_cancel' hk]at this;rw[this];congr 1;omega
def Hx:∀ {l:List vN} {s e:Int},wZ s l e->∀t∈l,s<=t.b/\t.b < t.e/\t.e<=e
 | [],s,e,h,t,ht=>by simp at ht
 | x::r,s,e,h,t,ht=>by
   obtain⟨h1,h2,h3⟩:=h;have hle:∀ {l:List vN} {s e:Int},wZ s l e->s<=e:=by
    intro l
    induction l with
    | nil=>intro s e h;have h:s=e:=h;omega
    | cons a l ih=>intro s e h;have:=ih h.2.2;have:=h.1;have:=h.2.1;omega
   rcases qmw.1 ht with rfl|ht
   ·have:=hle h3;omega
   ·have:=Hx h3 t ht;omega
def YJ(n:Int)(t:vN):vN:=⟨t.nm,t.b+n,t.e+n,t.kv⟩
def Hy:∀ {l:List vN} {s e:Int} {r:List vN} {n f:Int},wZ s l e->wZ 0 r f->n=e->wZ s (l++r.map (YJ n)) (n+f)
 | [],s,e,r,n,f,h,hr,hn=>by
   have h:s=e:=h;subst h;subst hn;have go:∀ (r:List vN) (a:Int),wZ a r f->wZ (a+n) (r.map (YJ n)) (n+f):=by
    intro r
    induction r with
    | nil=>intro a h;have h:a=f:=h;show a+n=n+f;omega
    | cons x r ih=>intro a h;obtain⟨h1,h2,h3⟩:=h;exact⟨by show x.b+n=a+n;omega,by show x.b+n < x.e+n;omega,ih _ h3⟩
   have:=go r 0 hr;simpa using this
 | x::l,s,e,r,n,f,h,hr,hn=>⟨h.1,h.2.1,Hy h.2.2 hr hn⟩
def ZB(n:Int)(x:Region):Region:=⟨x.ty,x.b+n,x.e+n,x.kv⟩
def WB(n m:Int)(x:rK):rK:=⟨x.lb,x.b+n,x.e+n,if 0<=x.par then x.par+m else x.par⟩
def eQ(a b:Corpus)(hd:List Int)(rl:List B):Corpus:=⟨a.attrs,a.toks++b.toks,a.texts++b.texts.map (YJ a.toks.length),a.regs++b.regs.map (ZB a.toks.length),a.nodes++b.nodes.map (WB a.toks.length a.nodes.length),hd,rl⟩
theorem OR{a b:Corpus}{hd:List Int}{rl:List B}(ha:M5 a)(hb:M5 b)(l1:a.toks.length+b.toks.length<=4096)(l2:a.texts.length+b.texts.length<=64)(l3:a.regs.length+b.regs.length<=1024)(l4:a.nodes.length+b.nodes.length<=2048)
 (h1:hd.length<=a.toks.length+b.toks.length) (h2:rl.length<=a.toks.length+b.toks.length) (h3:∀h∈hd,h<=a.toks.length+b.toks.length):M5 (eQ a b hd rl):=by
 obtain⟨a1,a2,a3,a4,a5,a6,a7,a8,a9,a10,a11,a12,a13⟩:=ha;obtain⟨b1,b2,b3,b4,b5,b6,b7,b8,b9,b10,b11,b12,b13⟩:=hb;refine⟨?_,?_,?_,?_,?_,?_,a7,?_,?_,?_,?_,?_,?_⟩
 ·have:=Hy (n:=a.toks.length) a1 b1 rfl;simpa [eQ]using this
 ·simp[eQ,a2]
 ·simpa [eQ]using l1
 ·simpa [eQ]using l2
 ·simpa [eQ]using l3
 ·simpa [eQ]using l4
 ·simpa [eQ]using h1
 ·simpa [eQ]using h2
 ·intro x hx;simp only[eQ,qml,qmo,qmF]at hx ⊢;rcases hx with hx|⟨y,hy,rfl⟩
  ·have:=a10 x hx;omega
  ·have:=b10 y hy;simp only[ZB];omega
 ·intro x hx;simp only[eQ,qml,qmo,qmF]at hx ⊢;rcases hx with hx|⟨y,hy,rfl⟩
  ·have:=a11 x hx;omega
  ·have:=b11 y hy;simp only[WB];omega
 ·intro j y hy;simp only[eQ]at hy;by_cases hj:j < a.nodes.length
  ·rw[qmr hj]at hy;exact a12 j y hy
  ·rw[qmn (by omega),qmv]at hy;simp only[qmi]at hy;obtain⟨z,hz,rfl⟩:=hy;have:=b12 _ z hz;simp only[WB];split <;> omega
 ·intro h hh;simp only[eQ,qmF]at hh ⊢;have:=h3 h hh;omega
def M2(x:Corpus×Corpus):Prop:=M5 x.1/\M5 x.2
def MZ(x:Corpus×Corpus)(z:Corpus×Int):Prop:=z.2=0->M5 z.1/\z.1.attrs=x.1.attrs/\z.1.toks=x.1.toks++x.2.toks
abbrev s_r06_Concat:Spc:=aY (a2 Corpus Corpus) M2 (rN (Y:=Corpus) (Z:=Int)) MZ
theorem Ig(h1:S vn=s_r06_Valid)(h2:S gZ=s_r06_sameAttributes)(h3:S pd=s_r06_FindText)(h4:S pa=s_r06_allHeads):av qQ qw S (a2 Corpus Corpus) M2 (rN (Y:=Corpus) (Z:=Int)) MZ:=by
 rintro⟨a,b⟩ ⟨ha,hb⟩;have ha:M5 a:=ha;have hb:M5 b:=hb;have va:lS a:=ha.2.2.2.2.2.2.2.2.2.2.2.1;have vb:lS b:=hb.2.2.2.2.2.2.2.2.2.2.2.1;simp[qQ,qw,h1,h2,va,vb,bw, -Bool.forall_bool];intro r y;refine⟨λ_ y2=>⟨λ_=>?_,λ_ y3=>⟨λ_=>?_,λ_=>?_⟩⟩,λ_=>?_⟩
 case refine_1=>exact⟨zc,by simp[zc,dg],λh=>by simp at h⟩
 case refine_2=>exact⟨zc,by simp[zc,dg],λh=>by simp at h⟩
 case refine_4=>exact⟨zc,by simp[zc,dg],λh=>by simp at h⟩
 refine cm (X:=Unit) [2,3,4] [4] (λ_=>True) (λ_=>[]) (λ_=>[]) ?_ ?_
 ·simp;intro _;refine ak (X:=Unit) [2,3,4,37] [4] (b.texts.length) (λ_ _=>True) (λ_=>[]) (λ_=>[]) () (by simp) (by simp) (by first|omega|(simp;omega)) (by simp) (by simp) trivial (by simp) (by simp) ?_ ?_
  ·intro k _ hk _;simp[hk,h3,bw];intro _ _;exact⟨zc,by simp[zc,dg],λh=>by simp at h⟩
  ·simp
 rintro - -;simp;intro _ _;refine cm (X:=Unit) [2,3,4,8,9] [4] (λ_=>a.toks.length+b.toks.length<=4096/\a.texts.length+b.texts.length<=64/\a.regs.length+b.regs.length<=1024/\a.nodes.length+b.nodes.length<=2048) (λ_=>[]) (λ_=>[]) ?_ ?_
 ·obtain⟨a1,a2,a3,a4,a5,a6,a7,a8,a9,a10,a11,a12,a13⟩:=ha;obtain⟨b1,b2,b3,b4,b5,b6,b7,b8,b9,b10,b11,b12,b13⟩:=hb;simp;intro _;refine⟨by simp only[InR];omega,λ_ _ _=>⟨by simp only[InR];omega,λ_ _ _=>⟨by simp only[InR];omega,λ_ _=>⟨by simp only[InR];omega,λ_=>?_,by omega⟩,λ_=>?_⟩,λ_=>?_⟩,λ_=>?_⟩
  all_goals exact⟨zc,by simp[zc,dg],λh=>by simp at h⟩
 ·rintro - ⟨l1,l2,l3,l4⟩;have hA:=ha;have hB:=hb;obtain⟨a1,a2,a3,a4,a5,a6,a7,a8,a9,a10,a11,a12,a13⟩:=ha;obtain⟨b1,b2,b3,b4,b5,b6,b7,b8,b9,b10,b11,b12,b13⟩:=hb;simp;refine⟨by omega,by omega,λv0 bx=>⟨by omega,by omega,by omega,by omega,λv1=>⟨by omega,by omega,by omega,by omega,λv2=>?_⟩⟩⟩;refine cm (X:=Unit) [2,3,4,8,9,10] [4,10,93,97] (λ_=>True) (λ_=>[]) (λ_=>[(104, .row v2 vU 4 ((a.texts++b.texts.map (YJ a.toks.length)).map enc))]) ?_ ?_
  ·simp;intro _;refine aP (X:=Nat) [2,3,4,8,9,10] [4,10,93,97] (λk=>a.texts.length<=k/\k<=a.texts.length+b.texts.length) (λk=>[(11,enc (k:Int))]) (λk=>[(104, .row v2 vU 4 ((pR (YJ a.toks.length) a.texts b.texts (k -a.texts.length)).map enc))]) (λk=>a.texts.length+b.texts.length -k) a.texts.length (by omega) (by simp) (by simp[TI]) ?_;intro k hk;by_cases hkb:k < a.texts.length+b.texts.length
   ·obtain⟨t,ht⟩:=eX (l:=b.texts) (k:=k -a.texts.length) (by omega);have hat:=Jl (YJ a.toks.length) a.texts b.texts hk.1 ht;have hset:=EL (YJ a.toks.length) a.texts b.texts hk.1 ht;have hc:=Hx b1 t (fV ht);obtain⟨hk9,hgk⟩:=qmb.1 hat;simp[vY,hat,hgk,hkb,qnl,List.set_set];refineλ_=>⟨λ_=>⟨by omega,by simp only[InR];omega,by omega,by simp only[InR];omega,by omega,by simp only[InR];omega,k+1,by omega,⟨by omega, .inl ?_⟩,by omega⟩,λh=>by omega⟩
    rw[<-hset,<-gp];simp[YJ]
   ·have hke:k -a.texts.length=b.texts.length:=by omega
    simp[vY,hkb,hke,TH];omega
  rintro - -;simp;refine⟨by omega,by omega,by omega,by omega,λv3=>?_⟩;refine cm (X:=Unit) [2,3,4,8,9,10] [4,10,93,97,104] (λ_=>True) (λ_=>[]) (λ_=>[(141, .row v3 jJ 4 ((a.regs++b.regs.map (ZB a.toks.length)).map enc))]) ?_ ?_
  ·simp;intro _;refine aP (X:=Nat) [2,3,4,8,9,10] [4,10,93,97,104] (λk=>a.regs.length<=k/\k<=a.regs.length+b.regs.length) (λk=>[(12,enc (k:Int))]) (λk=>[(141, .row v3 jJ 4 ((pR (ZB a.toks.length) a.regs b.regs (k -a.regs.length)).map enc))]) (λk=>a.regs.length+b.regs.length -k) a.regs.length (by omega) (by simp) (by simp[TI]) ?_;intro k hk;by_cases hkb:k < a.regs.length+b.regs.length
   ·obtain⟨t,ht⟩:=eX (l:=b.regs) (k:=k -a.regs.length) (by omega);have hat:=Jl (ZB a.toks.length) a.regs b.regs hk.1 ht;have hset:=EL (ZB a.toks.length) a.regs b.regs hk.1 ht;have hc:=b10 t (fV ht);obtain⟨hk9,hgk⟩:=qmb.1 hat;simp[vY,hat,hgk,hkb,qnl,List.set_set];refineλ_=>⟨λ_=>⟨by omega,by simp only[InR];omega,by omega,by simp only[InR];omega,by omega,by simp only[InR];omega,k+1,by omega,⟨by omega, .inl ?_⟩,by omega⟩,λh=>by omega⟩
    rw[<-hset,<-gp];simp[ZB]
   ·have hke:k -a.regs.length=b.regs.length:=by omega
    simp[vY,hkb,hke,TH];omega
  rintro - -;simp;refine⟨by omega,by omega,by omega,by omega,λv4=>?_⟩;refine cm (X:=Unit) [2,3,4,8,10] [4,10,93,97,104,141] (λ_=>True) (λ_=>[]) (λ_=>[(178, .row v4 pX 4 ((a.nodes++b.nodes.map (WB a.toks.length a.nodes.length)).map enc))]) ?_ ?_
  ·simp;refine aP (X:=Nat) [2,3,4,8,9,10] [4,10,93,97,104,141] (λk=>a.nodes.length<=k/\k<=a.nodes.length+b.nodes.length) (λk=>[(13,enc (k:Int))]) (λk=>[(178, .row v4 pX 4 ((pR (WB a.toks.length a.nodes.length) a.nodes b.nodes (k -a.nodes.length)).map enc))]) (λk=>a.nodes.length+b.nodes.length -k) a.nodes.length (by omega) (by simp) (by simp[TI]) ?_;intro k hk;by_cases hkb:k < a.nodes.length+b.nodes.length
   ·obtain⟨t,ht⟩:=eX (l:=b.nodes) (k:=k -a.nodes.length) (by omega);have hat:=Jl (WB a.toks.length a.nodes.length) a.nodes b.nodes hk.1 ht;have hset:=EL (WB a.toks.length a.nodes.length) a.nodes b.nodes hk.1 ht;have hc:=b11 t (fV ht);have hc2:=b12 _ t ht;obtain⟨hk9,hgk⟩:=qmb.1 hat;simp[vY,hat,hgk,hkb,qnl,List.set_set];refineλ_=>⟨λ_=>⟨by omega,by simp only[InR];omega,by omega,by simp only[InR];omega,by omega,λhp=>⟨by omega,by simp only[InR];omega,by omega,by simp only[InR];omega,k+1,by omega,⟨by omega, .inl ?_⟩,by omega⟩,λhp=>⟨by simp only[InR];omega,k+1,by omega,⟨by omega, .inl ?_⟩,by omega⟩⟩,λh=>by omega⟩
    ·rw[<-hset,<-gp];simp[WB,hp]
    ·rw[<-hset,<-gp];simp[WB,show ¬ (0<=t.par) by omega]
   ·have hke:k -a.nodes.length=b.nodes.length:=by omega
    simp[vY,hkb,hke,TH];omega
  rintro - -;simp[h4,hA,hB];refineλ_ _=>⟨by simp only[InR];omega,λ_=>?_,λ_=>?_⟩
  ·rintro hd1 rl1 ⟨q1,q2,q3⟩ hd2 rl2 ⟨p1,p2,p3⟩;simp only at q1 q2 q3 p1 p2 p3;refine⟨by omega,by omega,λv5=>⟨by omega,by omega,by omega,by omega,λv6 _=>?_⟩⟩;refine GF (Zf 247 269 10 bx _ [D.own 93 v0,D.own 97 v1,D.own 104 v2,D.own 141 v3,D.own 178 v4,D.own 269 v5,D.own 249 v6] (by decide) (by decide) rfl rfl (λm c c' h h'=>?_)) ?_
   ·rcases m with _|_|_|_|_|_|_|m <;> simp at h h' <;> subst h <;> subst h' <;> simp
   refine ak (X:=Value×List Int) [4,8,10,254] [4,93,97,104,141,178,249] hd2.length (λk x=>x.2.length=hd1.length+k/\∀h∈x.2,h<=a.toks.length+b.toks.length) (λ_=>[]) (λx=>[(10, .box bx [D.own 93 v0,D.own 97 v1,D.own 104 v2,D.own 141 v3,D.own 178 v4,D.own 269 x.1,D.own 249 v6]),(269, .row x.1 fP 1 (x.2.map enc))]) (v5,hd1) (by simp) (by simp) (by omega) (by simp) (by simp) ⟨rfl,λh hh=>by have:=q1 h hh;omega⟩ (by simp) (by simp) ?_ ?_
   ·rintro k ⟨v,l⟩ hk ⟨hx1,hx2⟩;simp only at hx1 hx2;obtain⟨x,hx⟩:=eX hk;have hpx:=p1 x (fV hx);obtain⟨_,hgx⟩:=qmb.1 hx;simp[hk,hx,hgx];refine cm (X:=Int) [4,8,10,254,255,256] [4,10,93,97,104,141,178,249,269] (λy=>y<=a.toks.length+b.toks.length) (λy=>[(19,enc y)]) (λ_=>[]) ?_ ?_
    ·simp;exact⟨λh0=>⟨by simp only[InR];omega,by omega⟩,λh0=>by omega⟩
    ·intro y hy;simp;refine⟨by omega,by omega,λv=>⟨v,l++ [y],⟨by simp;omega,λh hh=>?_⟩, .inl rfl, .inl ⟨rfl,J7 l y⟩⟩⟩;rcases qml.1 hh with hh|hh
     ·exact hx2 h hh
     ·simp at hh;omega
   ·rintro⟨v,l⟩ ⟨hx1,hx2⟩;simp only at hx1 hx2;simp;refine⟨eQ a b l (rl1++rl2),?_,λ_=>⟨OR hA hB l1 l2 l3 l4 (by omega) (by simp;omega) hx2,rfl,rfl⟩⟩;simp only[dg];refine⟨iM (X:=Attr) zy (by simp[eQ]),iM (X:=List B) pY (by simp[eQ]),iM (X:=vN) vU (by simp[eQ]),iM (X:=Region) jJ (by simp[eQ]),iM (X:=rK) pX (by simp[eQ]),iM (X:=Int) fP (by simp[eQ]),iM (X:=B) ar (by simp[eQ]), .same _⟩
  ·refine⟨eQ a b [] [],?_,λ_=>⟨OR hA hB l1 l2 l3 l4 (by simp) (by simp) (by simp),rfl,rfl⟩⟩;simp only[dg];refine⟨iM (X:=Attr) zy (by simp[eQ]),iM (X:=List B) pY (by simp[eQ]),iM (X:=vN) vU (by simp[eQ]),iM (X:=Region) jJ (by simp[eQ]),iM (X:=rK) pX (by simp[eQ]), .nil _, .nil _, .same _⟩
end Go.Gv
