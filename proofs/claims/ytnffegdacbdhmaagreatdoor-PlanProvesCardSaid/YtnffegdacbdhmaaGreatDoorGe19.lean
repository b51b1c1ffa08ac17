/- Sh24b -/
import Derived.Shelf.SlGeneric
import Derived.Shelf.SlLaysF0
import Derived.Shelf.SlMaps.Clone
import Derived.Ground.SlsfProg
import Derived.Ground.SlmcProg
import Derived.Test.YtnffegdacbdhmaaGreatDoorProg
import Derived.Test.YtnffegdacbdhmaaGreatDoorGe18
set_option linter.all false
set_option maxRecDepth 100000
set_option maxHeartbeats 0
open Bool renaming forall_bool → fB', exists_bool → eB'
namespace Go.Proofs
open Go.Shelf
def Tryz.sortMatch_ren:Go.Shelf.Ren:=⟨λ|6=>96|15=>147|14=>159|28=>211|29=>212|20=>221|21=>222|22=>223|23=>224|24=>225|25=>226|26=>227|27=>228|46=>274|47=>262|48=>263|49=>275|50=>276|57=>297|n=>n,λ|22=>64|24=>69|25=>175|3=>3|39=>141|0=>0|53=>256|55=>258|4=>4|46=>250|45=>249|50=>90|5=>5|9=>9|66=>294|70=>298|76=>324|77=>127|n=>n,λ|n=>n⟩
theorem Tryz.sortMatch:Go.Proofs.SlLaysF0.n6 Tryz.prog Tryz.sortMatch_ren:={
 mixed:=by kernel_rfl
 f6:=⟨Tryz.f96.name,by decide,Tryz.func96.trans (congrArg some (by kernel_rfl))⟩
 f14:=⟨Tryz.f159.name,by decide,Tryz.func159.trans (congrArg some (by kernel_rfl))⟩
 f15:=Tryz.func147.trans (congrArg some (by kernel_rfl))
 f20:=⟨Tryz.f221.name,by decide,Tryz.func221.trans (congrArg some (by kernel_rfl))⟩
 f21:=⟨Tryz.f222.name,by decide,Tryz.func222.trans (congrArg some (by kernel_rfl))⟩
 f22:=⟨Tryz.f223.name,by decide,Tryz.func223.trans (congrArg some (by kernel_rfl))⟩
 f23:=⟨Tryz.f224.name,by decide,Tryz.func224.trans (congrArg some (by kernel_rfl))⟩
 f24:=⟨Tryz.f225.name,by decide,Tryz.func225.trans (congrArg some (by kernel_rfl))⟩
 f25:=⟨Tryz.f226.name,by decide,Tryz.func226.trans (congrArg some (by kernel_rfl))⟩
 f26:=⟨Tryz.f227.name,by decide,Tryz.func227.trans (congrArg some (by kernel_rfl))⟩
 f27:=⟨Tryz.f228.name,by decide,Tryz.func228.trans (congrArg some (by kernel_rfl))⟩
 f28:=Tryz.func211.trans (congrArg some (by kernel_rfl))
 f29:=Tryz.func212.trans (congrArg some (by kernel_rfl))
 f46:=⟨Tryz.f274.name,by decide,Tryz.func274.trans (congrArg some (by kernel_rfl))⟩
 f47:=Tryz.func262.trans (congrArg some (by kernel_rfl))
 f48:=Tryz.func263.trans (congrArg some (by kernel_rfl))
 f49:=⟨Tryz.f275.name,by decide,Tryz.func275.trans (congrArg some (by kernel_rfl))⟩
 f50:=⟨Tryz.f276.name,by decide,Tryz.func276.trans (congrArg some (by kernel_rfl))⟩
 f57:=⟨Tryz.f297.name,by decide,Tryz.func297.trans (congrArg some (by kernel_rfl))⟩
 t0:=Tryz.underlying0
 a0:=Tryz.isAgg0
 z0:=Tryz.sizeOf0
 v0:=Tryz.zeroValue0
 t3:=Tryz.underlying3
 a3:=Tryz.isAgg3
 z3:=Tryz.sizeOf3
 v3:=Tryz.zeroValue3
 t4:=Tryz.underlying4
 a4:=Tryz.isAgg4
 z4:=Tryz.sizeOf4
 v4:=Tryz.zeroValue4
 t5:=Tryz.underlying5
 a5:=Tryz.isAgg5
 z5:=Tryz.sizeOf5
 v5:=Tryz.zeroValue5
 t9:=Tryz.underlying9
 a9:=Tryz.isAgg9
 z9:=Tryz.sizeOf9
 v9:=Tryz.zeroValue9
 t22:=Tryz.underlying64
 a22:=Tryz.isAgg64
 z22:=Tryz.sizeOf64
 v22:=Tryz.zeroValue64
 t25:=Tryz.underlying175
 a25:=Tryz.isAgg175
 z25:=Tryz.sizeOf175
 v25:=Tryz.zeroValue175
 t39:=Tryz.underlying141
 a39:=Tryz.isAgg141
 z39:=Tryz.sizeOf141
 v39:=Tryz.zeroValue141
 t45:=Tryz.underlying249
 a45:=Tryz.isAgg249
 z45:=Tryz.sizeOf249
 v45:=Tryz.zeroValue249
 t46:=Tryz.underlying250
 a46:=Tryz.isAgg250
 z46:=Tryz.sizeOf250
 v46:=Tryz.zeroValue250
 t50:=Tryz.underlying90
 a50:=Tryz.isAgg90
 z50:=Tryz.sizeOf90
 v50:=Tryz.zeroValue90
 t53:=Tryz.underlying256
 a53:=Tryz.isAgg256
 z53:=Tryz.sizeOf256
 v53:=Tryz.zeroValue256
 t55:=Tryz.underlying258
 a55:=Tryz.isAgg258
 z55:=Tryz.sizeOf258
 v55:=Tryz.zeroValue258
 t66:=Tryz.underlying294
 a66:=Tryz.isAgg294
 z66:=Tryz.sizeOf294
 v66:=Tryz.zeroValue294
 t70:=Tryz.underlying298
 a70:=Tryz.isAgg298
 z70:=Tryz.sizeOf298
 v70:=Tryz.zeroValue298
 t76:=Tryz.underlying324
 a76:=Tryz.isAgg324
 z76:=Tryz.sizeOf324
 v76:=Tryz.zeroValue324
 t77:=Tryz.underlying127
 a77:=Tryz.isAgg127
 z77:=Tryz.sizeOf127
 v77:=Tryz.zeroValue127 }
def Tryz.cloneSet_ren:Go.Shelf.Ren:=⟨λ|5=>219|7=>273|n=>n,λ|23=>167|25=>172|3=>4|4=>4|20=>20|n=>n,λ|n=>n⟩
def Tryz.cloneSet:Go.Proofs.SlLaysW.n5 Tryz.prog Tryz.cloneSet_ren:={
 mixed:=by kernel_rfl
 f5:=⟨Tryz.f219.name,by decide,Tryz.func219.trans (congrArg some (by kernel_rfl))⟩
 f7:=Tryz.func273.trans (congrArg some (by kernel_rfl))
 t4:=Tryz.underlying4
 a4:=Tryz.isAgg4
 z4:=Tryz.sizeOf4
 v4:=Tryz.zeroValue4
 t20:=Tryz.underlying20
 a20:=Tryz.isAgg20
 z20:=Tryz.sizeOf20
 v20:=Tryz.zeroValue20
 t23:=Tryz.underlying167
 a23:=Tryz.isAgg167
 z23:=Tryz.sizeOf167
 v23:=Tryz.zeroValue167 }
end Go.Proofs
namespace Go.Gv
section
open Go.Proofs
open Cod (enc dec)
variable {S S0:Nat->Spc}
def Ry(c:Corpus)(x:Cond)(k:Nat):List Int:=((List.range k).filter λi:Nat=>(nJ ⟨c,(i:Int), [], []⟩ 21 (iQ x)).getD false).map λi:Nat=>(i:Int)
def If(c:Corpus)(x:Cond):List Int:=Ry c x c.toks.length
def qfJ(c:Corpus)(x:Cond)(k:Nat):Ry c x (k+1)=Ry c x k++ (if(nJ ⟨c,(k:Int), [], []⟩ 21 (iQ x)).getD false=true then[(k:Int)]else[]):=by
 unfold Ry;rw[List.range_succ,qHz,qHx];congr 1;simp only[List.filter];cases(nJ ⟨c,(k:Int), [], []⟩ 21 (iQ x)).getD false<;>rfl
def Ym(c:Corpus)(x:Cond)(k:Nat):(Ry c x k).length<=k:=by
 unfold Ry;rw[qGq];exact qGl (List.length_filter_le _ _) (by simp)
def JK(z:Corpus×Cond):Prop:=qqL z.1/\io z.2<=60/\dB z.2<=60/\qmt z.1.attrs [] (iQ z.2)=true/\∀i:Nat,i<z.1.toks.length->∃y,nJ ⟨z.1,(i:Int), [], []⟩ 21 (iQ z.2)=some y
abbrev qiK:Spc:=aG (a2 Corpus Cond) JK (kZ (Y:=List Int) (Z:=Int)) λz y=>y=(If z.1 z.2,0)
theorem qhw(h1:S kT=YE)(h2:S dO=qdF)(h3:S dz=U2)(h4:S fp=It 21):ak nA mY S (a2 Corpus Cond) JK (kZ (Y:=List Int) (Z:=Int)) λz y=>y=(If z.1 z.2,0):=by
 rintro⟨c,x⟩ ⟨⟨t,u,j⟩,hn,A,h,d⟩;simp only at t u j hn A h d;have hl:(c.toks.length:Int)<=9223372036854775807:=by omega
 have q:∃n,dB x<=n/\io x<=60:=⟨_,qFM _,hn⟩
 simp[nA,mY,h1,h2,h3,hn,A,h,q,hl,j,-fB',-eB'];intro b;refine⟨⟨_,qFM _⟩,⟨h,j⟩,?_⟩;refine ah (X:=Value×List Int) [2,3] [3] c.toks.length (λk z=>z.2=Ry c x k) (λz=>[(7, .own 33 z.1)]) (λz=>[(33, .row z.1 bj 1 (z.2.map enc))]) (.slice none 0 0, []) (by simp[Ry]) ?_ ?_ (hh:=by simp[isNilRow])
 ·rintro k ⟨v,l⟩ hk a;simp only at a;obtain⟨y,r⟩:=d k hk;have hp:qmx 21 (c,iQ x,(k:Int), [], []):=⟨⟨t,u,j⟩,y,r⟩
  have hs:=qfJ c x k;have s:=Ym c x k;rw[<-a]at hs s;have C:(if(nJ ⟨c,(k:Int), [], []⟩ 21 (iQ x)).getD false=true then[(k:Int)]else[])=if y=true then[(k:Int)]else[]:=by rw[r];rfl
  rw[C]at hs;simp[hk,h4,hp,-fB',-eB'];intro w p;have p:nJ ⟨c,(k:Int), [], []⟩ 21 (iQ x)=some w:=p;rw[r]at p;cases p;refine⟨λe=>⟨by omega,by omega,λv'=> .inl ?_⟩,λe=> .inl ?_⟩
  ·rw[hs,e];simp
  ·rw[hs,e];simp
 ·rintro⟨v,l⟩ a;simp only at a;simp[-fB',-eB'];have e:If c x=l:=a.symm;rw[e];exact fA bj rfl
end
section
open Go.Proofs
def yz:CC:=gq Tryz.f12 [] {} _
def yn:List aj:=[.tmp 4]
def Y4:FO He [] yz yn 26:=fo
def valsA:List B:=[⟨#[97]⟩,⟨#[98]⟩,⟨#[97,46,42]⟩,⟨#[91,97,98,93]⟩,⟨#[88]⟩,⟨#[]⟩,⟨#[99,63]⟩,⟨#[97,124,98]⟩,⟨#[89]⟩,⟨#[111,46,42]⟩,⟨#[78]⟩,⟨#[97,124,88]⟩]
def wordsA:List B:=[⟨#[97]⟩,⟨#[98]⟩,⟨#[99]⟩,⟨#[65]⟩,⟨#[97,98]⟩,⟨#[]⟩,⟨#[88]⟩,⟨#[89]⟩,⟨#[116,104,101]⟩,⟨#[111,108,100]⟩,⟨#[109,97,110]⟩,⟨#[68]⟩,⟨#[65]⟩,⟨#[78]⟩,⟨#[124]⟩,⟨#[124,112,124]⟩,⟨#[124,112,124,113,124]⟩,⟨#[124,113,124]⟩]
def qub:Bool:=valsA.all λv=>wordsA.all λw=>(G3 v w false).isSome && (G3 v w true).isSome
def qnR:qub=true:=by kernel_rfl
def PG{v w:B}(a:v∈valsA)(b:w∈wordsA)(f:Bool):∃y,G3 v w f=some y:=by
 have h:=qFN.1 (qFN.1 qnR v a) w b;simp only[qFO]at h;cases f
 ·exact qGG.1 h.1
 ·exact qGG.1 h.2
open Cod (enc dec)
variable {S S0:Nat->Spc}
def Ig(a b:List Int):Bool:=decide (a=b)
abbrev qiM:Spc:=aG (a2 (List Int) (List Int)) (λx=>x.1.length<=100000/\x.2.length<=100000) (enc (X:=Bool)) λx y=>y=Ig x.1 x.2
theorem qa5:ak yz yn S (a2 (List Int) (List Int)) (λx=>x.1.length<=100000/\x.2.length<=100000) (enc (X:=Bool)) λx y=>y=Ig x.1 x.2:=by
 rintro⟨a,b⟩ ⟨la,lb⟩;simp only at la lb;have p:(a.length:Int)<=9223372036854775807:=by omega
 have lb':(b.length:Int)<=9223372036854775807:=by omega
 by_cases hl:a.length=b.length
 ·have c:(a.length:Int)=b.length:=by omega
  simp[yz,yn,p,lb',hl,c,-fB',-eB'];refine ah (X:=Unit) [0,1] [] b.length (λk _=>a.take k=b.take k) (λ_=>[]) (λ_=>[]) () (by simp) ?_ ?_
  ·rintro k -hk t;have d:k<a.length:=by omega
   obtain⟨x,q⟩:=eK d;obtain⟨y,l⟩:=eK hk;obtain⟨_,r⟩:=qFG.1 q;obtain⟨_,s⟩:=qFG.1 l;have u:Ig a b=decide (a=b):=rfl;by_cases h:x=y
   ·subst h;simp[hk,d,q,l,r,s,-fB',-eB'];rw[av q,av l,t]
   ·have j:Ig a b=false:=by
     unfold Ig;rw[decide_eq_false_iff_not];intro e;subst e;rw[q]at l;exact h (qFT l)
    simp[hk,d,q,l,r,s,h,j,-fB',-eB']
  ·rintro -t;rw[<-hl,qFY,hl,qFY]at t;have he:Ig a b=true:=decide_eq_true t;simp[he,-fB',-eB']
 ·have c:¬(a.length:Int)=b.length:=by omega
  have j:Ig a b=false:=by
   unfold Ig;rw[decide_eq_false_iff_not];intro e;exact hl (by rw[e])
  simp[yz,yn,p,lb',hl,c,j,-fB',-eB']
def OkCorp(c:Corpus):Prop:=c.attrs=ij/\1<=c.toks.length/\c.toks.length<=4096/\∀r∈c.toks,JI r
def OkCorp.sz{c:Corpus}(h:OkCorp c):qqL c:=by
 obtain⟨h1,h2,h3,h4⟩:=h;refine⟨by omega,λr a=>?_,by rw[h1];decide⟩;obtain⟨w,t,f,_,_,_,rfl⟩:=h4 r a;simp
def qan:∀{l:List xX} {s e:Int},ER s l e->s<=e
 | [],s,e,h=>by have h:s=e:=h;omega
 |a::l,s,e,h=>by have:=qan h.2.2;have:=h.1;have:=h.2.1;omega
def qrr{c:Corpus}(h:qaI c)(hk:WY c):OkCorp c:=by
 obtain⟨h1,h2,h3,_⟩:=h;refine⟨hk.1,?_,h3,hk.2⟩;cases hl:c.texts with
 |nil=>exact absurd hl h2
 | cons a l=>
   rw[hl]at h1;have:=qan h1.2.2;have:=h1.1;have:=h1.2.1;omega
end
section
mutual
def SrcE:Pat->Int->Int->Span->Prop
 | .mk op c l r mn mx ks,d,leaf,s=>if op=1 then s=⟨leaf,d⟩else if op=4 then pK ks d leaf s else if op=6 then(match ks with|[]=>False|k::_=>∃i:Int,0<=i/\i<mn/\(i=0\/(aO k).1=(aO k).2)/\SrcE k (d+i* (aO k).1) leaf s)else False
def pK:List Pat->Int->Int->Span->Prop
 | [],_,_,_=>False
 |k::ks,d,leaf,s=>SrcE k d leaf s\/((aO k).1=(aO k).2/\pK ks (d+ (aO k).1) (leaf+ (aq k).length) s)
end
def qfG{p:Pat}(h:p.op=1)(d leaf:Int)(s:Span):SrcE p d leaf s↔s=⟨leaf,d⟩:=by cases p;simp only at h;unfold SrcE;rw[if_pos h]
def qfF{p:Pat}(h:p.op=4)(d leaf:Int)(s:Span):SrcE p d leaf s↔pK p.kids d leaf s:=by cases p;simp only at h;unfold SrcE;rw[if_neg (by omega),if_pos h]
def qh0{p k:Pat}(h:p.op=6){ks:List Pat}(hk:p.kids=k::ks)(d leaf:Int)(s:Span):SrcE p d leaf s↔ ∃i:Int,0<=i/\i<p.mn/\(i=0\/(aO k).1=(aO k).2)/\SrcE k (d+i* (aO k).1) leaf s:=by
 cases p;simp only at h hk;subst hk;rw[SrcE.eq_def];simp only;rw[if_neg (by omega),if_neg (by omega),if_pos h]
def qbJ{p:Pat}(h:p.op≠1/\p.op≠4/\p.op≠6)(d leaf:Int)(s:Span):¬SrcE p d leaf s:=by
 cases p;simp only at h;rw[SrcE.eq_def];simp only;rw[if_neg h.1,if_neg h.2.1,if_neg h.2.2];exact id
theorem UR{v:B->Bool}(p:Pat):fy v p=true->∀(d leaf:Int) (s:Span),SrcE p d leaf s->leaf<=s.b/\s.b<leaf+ (aq p).length/\d<=s.e/\s.e<=d+200000*dm p:=by
 induction p using fg with|_ p c=>?_
 intro hp d leaf s h;rw[bc];rcases mA (cH hp).1 with⟨ho,_⟩|⟨ho,_⟩|⟨ho,k,ks,hk⟩|⟨ho,k,hk⟩
 ·rw[qfG ho]at h;subst h;rw[cI,if_pos ho];simp only[qGn,qHv];omega
 ·exact absurd h (qbJ (by omega) _ _ _)
 ·by_cases h4:p.op=4
  ·rw[qfF h4]at h;rw[if_neg (by omega),cI];have:∀ks:List Pat,(∀k∈ks,k∈p.kids)->∀d leaf:Int,pK ks d leaf s->leaf<=s.b/\s.b<leaf+ (ks.flatMap aq).length/\d<=s.e/\s.e<=d+200000*bu ks:=by
    intro ks
    induction ks with
    |nil=>intro _ d leaf h;rw[pK]at h;exact h.elim
    | cons k ks a=>
      intro hk d leaf h;rw[pK]at h;rw[bu,qGk,qGa];rcases h with h|⟨j,h⟩
      ·have:=c k (hk k (by simp)) (dX hp (hk k (by simp))) d leaf s h;omega
      ·have h1:=a (λz hz=>hk z (by simp[hz])) _ _ h;have h2:dG (aO k):=tu k (dX hp (hk k (by simp)));have h3:1<=dm k:=by rw[cI];omega
       unfold dG at h2;omega
   have:=this p.kids (λk hk=>hk) d leaf h;omega
  ·exact absurd h (qbJ (by omega) _ _ _)
 ·rw[qh0 ho hk]at h;obtain⟨i,h0,h1,_,h3⟩:=h;rw[if_neg (by omega),cI,hk,bu,bu];have h4:=c k (by rw[hk];simp) (dX hp (by rw[hk];simp)) _ _ _ h3;have h2:dG (aO k):=tu k (dX hp (by rw[hk];simp));have hn:=(cH hp).2.2;unfold lF at hn;rw[decide_eq_true_eq]at hn;have hn:=hn ho;unfold dG at h2;have h5:0<=i* (aO k).1:=qHh h0 h2.1;have h6:i* (aO k).1<=16*10000:=Int.mul_le_mul (by omega) h2.2.1 h2.1 (by omega);have l:1<=dm k:=by rw[cI];omega
  simp only[qGk,List.flatMap_nil,qGW];generalize i* (aO k).1=z at*;omega
def SrcsOf(p:Pat)(r:List Span):Prop:=SS r/\∀s,s∈r↔SrcE p 0 0 s
def SrcsOf.eq{p:Pat}{a b:List Span}(h:SrcsOf p a)(k:SrcsOf p b):a=b:=qbI h.1 k.1 λx=>(h.2 x).trans (k.2 x).symm
def qzH:B:=⟨#[115]⟩
def qo2:B:=⟨#[110,112]⟩
def qzG:B:=⟨#[116]⟩
def qsA:B:=⟨#[120]⟩
def qtC:B:=⟨#[121]⟩
def Types:List B:=[qzH,qo2,qzG]
def qaJ:List (Int×Int):=[(0,1),(0, -1),(1, -1),(2,2),(0,2),(1,3),(0,0)]
def qtL(lb:List B)(p:Pat):Prop:=(p.op=1/\(p.lab=⟨#[]⟩\/p.lab∈lb)/\p.reg=⟨#[]⟩/\p.mn=0/\p.mx=0/\p.kids=[])\/((p.op=2\/p.op=3)/\p.cond=Cond0/\p.lab=⟨#[]⟩/\p.reg∈Types/\p.mn=0/\p.mx=0/\p.kids=[])
def WP(lb:List B):Nat->Pat->Prop
 | 0,p=>qtL lb p
 | n+1,p=>qtL lb p\/((p.op=4\/p.op=5)/\p.cond=Cond0/\p.lab=⟨#[]⟩/\p.reg=⟨#[]⟩/\p.mn=0/\p.mx=0/\∃a b,p.kids=[a,b]/\WP lb n a/\WP lb n b)\/
   (p.op=6/\p.cond=Cond0/\p.lab=⟨#[]⟩/\p.reg=⟨#[]⟩/\(p.mn,p.mx) ∈qaJ/\∃a,p.kids=[a]/\WP lb n a)
def qz2{lb:List B}{n:Nat}{p:Pat}(h:qtL lb p):WP lb n p:=by
 cases n
 ·exact h
 ·exact .inl h
def qmk(lb:List B):Prop:=∀l∈lb,l=qsA\/l=qtC
def Aa{lb:List B}{n:Nat}{p:Pat}(h:WP lb n p):qtL lb p\/ ∃m,n=m+1/\(((p.op=4\/p.op=5)/\p.cond=Cond0/\p.lab=⟨#[]⟩/\p.reg=⟨#[]⟩/\p.mn=0/\p.mx=0/\∃a b,p.kids=[a,b]/\WP lb m a/\WP lb m b)\/
 (p.op=6/\p.cond=Cond0/\p.lab=⟨#[]⟩/\p.reg=⟨#[]⟩/\(p.mn,p.mx) ∈qaJ/\∃a,p.kids=[a]/\WP lb m a)):=by
 cases n with
 |zero=>exact .inl h
 |succ m=>exact h.elim .inl λh=> .inr ⟨m,rfl,h⟩
theorem JP{lb:List B}{C:Nat->Pat->Prop}(h:∀n p,WP lb n p->(∀k∈p.kids,∃m,n=m+1/\WP lb m k/\C m k)->C n p):∀n p,WP lb n p->C n p:=by
 intro n
 induction n with
 | zero=>
   intro p hp;refine h 0 p hp λk hk=>?_
   rcases hp with hp|hp
   ·rw[hp.2.2.2.2.2]at hk;simp at hk
   ·rw[hp.2.2.2.2.2.2]at hk;simp at hk
 | succ m d=>
   intro p hp;refine h (m+1) p hp λk hk=>⟨m,rfl,?_⟩
   have:WP lb m k:=by
    rcases hp with(hp|hp)|hp|hp
    ·rw[hp.2.2.2.2.2]at hk;simp at hk
    ·rw[hp.2.2.2.2.2.2]at hk;simp at hk
    ·obtain⟨a,b,e,c,hb⟩:=hp.2.2.2.2.2.2;rw[e]at hk;simp at hk;rcases hk with rfl|rfl
     ·exact c
     ·exact hb
    ·obtain⟨a,e,c⟩:=hp.2.2.2.2.2;rw[e]at hk;simp at hk;subst hk;exact c
   exact⟨this,d k this⟩
theorem qc7{v:B->Bool}{lb:List B}(hl:qmk lb)(j:v qzH=true/\v qo2=true/\v qzG=true/\v qsA=true/\v qtC=true):∀n p,WP lb n p->n<=90->fy v p=true:=by
 have key:∀n p,WP lb n p->(n<=90->∀d:Int,d+n<=100->cm p d=true)/\cx qC p=true/\cx (nI v) p=true/\cx lF p=true:=by
  refine JP λn p hp q=>?_
  have c:qC p=true/\nI v p=true/\lF p=true:=by
   rw[vX];unfold xY nI lF;rw[decide_eq_true_eq,decide_eq_true_eq];have s:(p.mn,p.mx) ∈qaJ->0<=p.mn/\p.mn<=16/\(p.mx= -1\/p.mn<=p.mx/\p.mx<=16):=by
    intro h;simp[qaJ]at h;omega
   have t:p.reg∈Types->v p.reg=true:=by
    intro h;simp[Types]at h;rcases h with h|h|h<;>rw[h]
    ·exact j.1
    ·exact j.2.1
    ·exact j.2.2.1
   rcases Aa hp with(⟨h1,h2,h3,h4,h5,h6⟩|⟨h1,h2,h3,h4,h5,h6,l⟩)|⟨m,_,(⟨h1,h2,h3,h4,h5,h6,a,b,l,_⟩|⟨h1,h2,h3,h4,h5,a,l,_⟩)⟩
   ·refine⟨.inl ⟨h1,h3,h4,h5,h6⟩,⟨λh=>by omega,λr=>?_⟩,λh=>by omega⟩;rcases h2 with h2|h2
    ·exact absurd h2 r
    ·rcases hl _ h2 with h|h<;>rw[h]
     ·exact j.2.2.2.1
     ·exact j.2.2.2.2
   ·exact⟨.inr (.inl ⟨h1,h2,h3,h5,h6,l⟩),⟨λ_=>t h4,λh=>absurd h3 h⟩,λh=>by omega⟩
   ·exact⟨.inr (.inr (.inl ⟨h1,h2,h3,h4,h5,h6,by rw[l];simp⟩)),⟨λh=>by omega,λh=>absurd h3 h⟩,λh=>by omega⟩
   ·exact⟨.inr (.inr (.inr ⟨h1,h2,h3,h4,by rw[l];simp⟩)),⟨λh=>by omega,λh=>absurd h3 h⟩,λ_=>s h5⟩
  refine⟨λhn d u=>?_,?_,?_,?_⟩
  ·rw[ld,qFO,decide_eq_true_eq,qFN];refine⟨by omega,λk hk=>?_⟩;obtain⟨m,e,_,h,_⟩:=q k hk;exact h (by omega) _ (by omega)
  ·rw[cZ,qFO,qFN];exact⟨c.1,λk hk=>by obtain⟨m,e,_,h⟩:=q k hk;exact h.2.1⟩
  ·rw[cZ,qFO,qFN];exact⟨c.2.1,λk hk=>by obtain⟨m,e,_,h⟩:=q k hk;exact h.2.2.1⟩
  ·rw[cZ,qFO,qFN];exact⟨c.2.2,λk hk=>by obtain⟨m,e,_,h⟩:=q k hk;exact h.2.2.2⟩
 intro n p hp hn;obtain⟨h1,h2,h3,h4⟩:=key n p hp;unfold fy;rw[h1 hn 1 (by omega),h2,h3,h4];rfl
theorem qc6{lb:List B} :∀n p,WP lb n p->n<=5->1<=fM p/\fM p<=3^n/\dm p+1<=2^ (n+1):=by
 refine JP λn p hp l hn=>?_
 have hb:(1:Int)<=3^n/\1<=2^n:=⟨Int.pow_pos (by omega),Nat.one_le_two_pow⟩
 rcases Aa hp with(⟨h1,h2,h3,h4,h5,h6⟩|⟨h1,h2,h3,h4,h5,h6,d⟩)|⟨m,rfl,(⟨h1,h2,h3,h4,h5,h6,a,b,d,_⟩|⟨h1,h2,h3,h4,h5,a,d,_⟩)⟩
 ·rw[pR,Dr,if_pos h6,cI,h6,bu,Nat.pow_succ];omega
 ·rw[pR,Dr,if_pos d,cI,d,bu,Nat.pow_succ];omega
 ·obtain⟨j,c,_,a1⟩:=l a (by rw[d];simp);obtain⟨k,h,_,a2⟩:=l b (by rw[d];simp);have c:j=m:=by omega
  have h:k=m:=by omega
  subst c;subst h;have a1:=a1 (by omega);have a2:=a2 (by omega);rw[pR,Dr,if_neg (by rw[d];simp),if_neg (by omega),cI,d];simp only[eP,bu];rw[Int.pow_succ,Nat.pow_succ];rw[Nat.pow_succ]at a1 a2 ⊢;have h2:(0:Int)<=3^k:=by omega
  have:(3:Int) ^k<=243:=by
   have:k=0\/k=1\/k=2\/k=3\/k=4:=by omega
   rcases this with rfl|rfl|rfl|rfl|rfl<;>decide
  omega
 ·obtain⟨j,c,_,a1⟩:=l a (by rw[d];simp);have c:j=m:=by omega
  subst c;have a1:=a1 (by omega);rw[pR,Dr,if_neg (by rw[d];simp),if_pos h1,cI,d];simp only[eP,bu];rw[Int.pow_succ,Nat.pow_succ];rw[Nat.pow_succ]at a1 ⊢;have:(3:Int) ^j<=243:=by
   have:j=0\/j=1\/j=2\/j=3\/j=4:=by omega
   rcases this with rfl|rfl|rfl|rfl|rfl<;>decide
  simp only[qaJ,qFP,qHY,qGi,or_false]at h5;rw[show min (0+fM a) 1000=fM a by omega];rcases h5 with⟨c,h⟩|⟨c,h⟩|⟨c,h⟩|⟨c,h⟩|⟨c,h⟩|⟨c,h⟩|⟨c,h⟩ <;>rw[c,h] <;>simp<;>omega
def CS:Nat->Cond->Prop
 | 0,c=>c.kids=[]
 |n+1,c=>c.kids.length<=2/\∀k∈c.kids,CS n k
def qcG{n:Nat}{c:Cond}(h:c.kids=[]):CS n c:=by
 cases n
 ·exact h
 ·exact⟨by rw[h];exact qF3 _,λk hk=>by rw[h]at hk;simp at hk⟩
def qsk{n m:Nat}{c a:Cond}(hm:n=m+1)(h:c.kids=[a])(b:CS m a):CS n c:=by
 subst hm;refine⟨by rw[h];exact qG0 _,λk hk=>?_⟩;rw[h]at hk;have:k=a:=by simpa using hk
 subst this;exact b
def qsj{n m:Nat}{c a b:Cond}(hm:n=m+1)(h:c.kids=[a,b])(d:CS m a)(hb:CS m b):CS n c:=by
 subst hm;refine⟨by rw[h];exact qFM _,λk hk=>?_⟩;rw[h]at hk;have:k=a\/k=b:=by simpa using hk
 rcases this with rfl|rfl
 ·exact d
 ·exact hb
def qoH{n:Nat}{c d:Cond}(h:c.kids=d.kids)(a:CS n d):CS n c:=by
 cases n
 ·exact h.trans a
 ·exact⟨by rw[h];exact a.1,λk hk=>a.2 k (by rw[<-h];exact hk)⟩
def qsl{n:Nat}{c:Cond}(h:CS n c):c.kids.length<=2:=by
 cases n
 ·have:c.kids=[]:=h;rw[this];exact qF3 _
 ·exact h.1
def PD:Nat->Pat->Prop
 | 0,p=>(∃m,CS m p.cond)/\p.kids=[]
 |n+1,p=>(∃m,CS m p.cond)/\p.kids.length<=2/\∀k∈p.kids,PD n k
def qjf{n:Nat}{p:Pat}(hc:∃m,CS m p.cond)(h:p.kids=[]):PD n p:=by
 cases n
 ·exact⟨hc,h⟩
 ·exact⟨hc,by rw[h];exact qF3 _,λk hk=>by rw[h]at hk;simp at hk⟩
def qrj{n m:Nat}{p a:Pat}(hm:n=m+1)(hc:∃m,CS m p.cond)(h:p.kids=[a])(b:PD m a):PD n p:=by
 subst hm;refine⟨hc,by rw[h];exact qG0 _,λk hk=>?_⟩;rw[h]at hk;have:k=a:=by simpa using hk
 subst this;exact b
def qje{n m:Nat}{p a b:Pat}(hm:n=m+1)(hc:∃m,CS m p.cond)(h:p.kids=[a,b])(c:PD m a)(hb:PD m b):PD n p:=by
 subst hm;refine⟨hc,by rw[h];exact qFM _,λk hk=>?_⟩;rw[h]at hk;have:k=a\/k=b:=by simpa using hk
 rcases this with rfl|rfl
 ·exact c
 ·exact hb
def qez:∃m,CS m Cond0:=⟨0,rfl⟩
def qnA{n:Nat}{p:Pat}(h:PD n p):∃m,CS m p.cond:=by cases n<;>exact h.1
def qrk{n:Nat}{p:Pat}(h:PD n p):p.kids.length<=2:=by
 cases n
 ·rw[h.2];exact qF3 _
 ·exact h.2.1
def qrl{n:Nat}{p k:Pat}(h:PD n p)(hk:k∈p.kids):∃m,n=m+1/\PD m k:=by
 cases n
 ·rw[h.2]at hk;simp at hk
 ·exact⟨_,rfl,h.2.2 k hk⟩
def qsm{n:Nat}{p k:Cond}(h:CS n p)(hk:k∈p.kids):∃m,n=m+1/\CS m k:=by
 cases n
 ·have h:p.kids=[]:=h;rw[h]at hk;simp at hk
 ·exact⟨_,rfl,h.2 k hk⟩
open Cod (enc dec)
structure Glob where
 op:Int
 a:B
 b:B
 name:B
 arg:B
 val:B
 fold:Bool
 mn:Int
 mx:Int
 args:List B
 kids:List Glob
mutual
def Qa:Glob->D
 | .mk a b c d h j k l p q ks=> .agg [enc a,enc b,enc c,enc d,enc h,enc j,enc k,enc l,enc p,enc q, .list 11 (CE ks)]
def CE:List Glob->List D
 | []=>[]
 |k::ks=>Qa k::CE ks
end
mutual
def qah:D->Option Glob
 | .agg [b,c,d,h,j,k,l,p,q,r,a]=>(dec b).bind λs=>(dec c).bind λt=>(dec d).bind λu=>(dec h).bind λw=>(dec j).bind λx=>(dec k).bind λy=>(dec l).bind λA=>(dec p).bind λC=>(dec q).bind λE=>(dec r).bind λF=>(Mf a).bind λks=>some (.mk s t u w x y A C E F ks)
 | _=>none
def Mf:D->Option (List Glob)
 | .list n es=>if n=11 then Et es else none
 | .v (.slice none 0 0)=>some []
 | _=>none
def Et:List D->Option (List Glob)
 | []=>some []
 |d::ds=>(qah d).bind λx=>(Et ds).bind λxs=>some (x::xs)
end
def La:∀l:List Glob,CE l=l.map Qa
 | []=>rfl
 | _::l=>by rw[CE,La l];rfl
def qep:∀c:Glob,(Qa c).kn=true
 | .mk .. =>rfl
def ZZ:∀c:Glob,(Qa c).cells.length=11
 | .mk .. =>rfl
mutual
def qag:∀c:Glob,qah (Qa c)=some c
 | .mk a b d j k l p q r s ks=>by
   have h:Mf (.list 11 (CE ks))=some ks:=by rw[Mf,if_pos rfl];exact TD ks
   simp only[Qa,qah,Cod.dec_enc,qF1,h]
def TD:∀l:List Glob,Et (CE l)=some l
 | []=>by simp only[CE,Et]
 |c::l=>by simp only[CE,Et,qag c,TD l,qF1]
end
mutual
def qex:∀(d:D) (c:Glob),qah d=some c->FrzTo bS d (Qa c)
 | .agg [l,p,q,r,s,t,u,w,x,y,a],c,h=>by
   simp only[qah,qFF,qFV]at h;obtain⟨A,h0,C,h1,E,h2,F,h3,I,h4,J,h5,K,h6,L,b,M,j,N,k,ks,hk,rfl⟩:=h;rw[Qa];exact LeL.agg (.cons (Cod.le _ _ h0) (.cons (Cod.le _ _ h1) (.cons (Cod.le _ _ h2) (.cons (Cod.le _ _ h3) (.cons (Cod.le _ _ h4) (.cons (Cod.le _ _ h5) (.cons (Cod.le _ _ h6) (.cons (Cod.le _ _ b) (.cons (Cod.le _ _ j) (.cons (Cod.le _ _ k) ((.cons (qk3 a ks hk) .nil))))))))))))
def qk3:∀(d:D) (l:List Glob),Mf d=some l->FrzTo bS d (.list 11 (CE l))
 | .list n es,l,h=>by
   simp only[Mf]at h;split at h
   ·rename_i hn;subst hn;have hl:=qaf es l h;refine .list hl.1 (λe he=>?_) hl.2;rw[La]at he;obtain⟨x,a,rfl⟩:=qFQ.1 he;exact⟨qep x,ZZ x⟩
   ·cases h
 | .v (.slice none 0 0),l,h=>by
   simp only[Mf,qFV]at h;subst h;exact .nil _
def qaf:∀(es:List D) (l:List Glob),Et es=some l->LeL es (CE l)
 | [],l,h=>by
   simp only[Et,qFV]at h;subst h;exact .nil
 | d::ds,l,h=>by
   simp only[Et,qFF,qFV]at h;obtain⟨x,h1,xs,h2,rfl⟩:=h;rw[CE];exact .cons (qex d x h1) (qaf ds xs h2)
end
instance:Cod Glob where
 wd:=11
 enc:=Qa
 dec:=qah
 kn:=qep
 wid:=ZZ
 dec_enc:=qag
 le:=qex
def qgR(ks:List Glob):D.list 11 (CE ks)=enc ks:=by rw[La];rfl
def Qi:∀es:List D,Et es=es.mapM (dec (X:=Glob))
 | []=>by simp[Et]
 | d::es=>by
   rw[Et,qGv,Qi es];rfl
def qk4:∀d:D,Mf d=dec (X:=List Glob) d:=λd=>by
 unfold Mf;split
 ·rename_i n es;show _=if n=11 then es.mapM (dec (X:=Glob))else none
  rw[Qi]
 ·rfl
 ·rename_i h1 h2;show _=(match d with
   | .list n es=>if n=11 then es.mapM (dec (X:=Glob))else none
   | .v (.slice none 0 0)=>some []
   | _=>none)
  split
  ·exact absurd rfl (h1 _ _)
  ·exact absurd rfl h2
  ·rfl
@[simp] theorem qvz(s:Glob):Glob.mk s.op s.a s.b s.name s.arg s.val s.fold s.mn s.mx s.args s.kids=s:=by cases s;rfl
@[simp] theorem P8(s:Glob):enc s= .agg [enc s.op,enc s.a,enc s.b,enc s.name,enc s.arg,enc s.val,enc s.fold,enc s.mn,enc s.mx,enc s.args,enc s.kids]:=by
 rw[<-qgR];cases s;show Qa _=_;rw[Qa]
@[simp] theorem qwP:Cod.wd Glob=11:=i' rfl
@[simp] theorem qvM(b c d h j k l p q r a:D):dec (X:=Glob) (.agg [b,c,d,h,j,k,l,p,q,r,a])=((dec b).bind λb=>(dec c).bind λc=>(dec d).bind λd=>(dec h).bind λh=>(dec j).bind λj=>(dec k).bind λk=>(dec l).bind λl=>(dec p).bind λp=>(dec q).bind λq=>(dec r).bind λr=>(dec a).bind λa=>some ⟨b,c,d,h,j,k,l,p,q,r,a⟩):=by
 show qah _=_;simp only[qah,qk4]
structure vR where
 op:Int
 neg:Bool
 reg:B
instance:Cod vR where
 wd:=3
 enc f:= .agg [enc f.op,enc f.neg,enc f.reg]
 dec| .agg [j,k,l]=>(dec j).bind λa=>(dec k).bind λb=>(dec l).bind λc=>some ⟨a,b,c⟩|_=>none
 kn _:=rfl
 wid _:=rfl
 dec_enc f:=by simp only[Cod.dec_enc,qF1]
 le d x h:=by
  split at h
  ·simp only[qFF,qFV]at h;obtain⟨a,h0,b,h1,c,h2,rfl⟩:=h;exact LeL.agg (.cons (Cod.le _ _ h0) (.cons (Cod.le _ _ h1) (.cons (Cod.le _ _ h2) .nil)))
  ·cases h
@[simp] theorem qvG(s:vR):enc s= .agg [enc s.op,enc s.neg,enc s.reg]:=i' rfl
@[simp] theorem qwQ:Cod.wd vR=3:=i' rfl
structure Qry where
 pat:Pat
 glob:Glob
 filts:List vR
 strat:Int
def Li:Pat->List D| .mk op c l r mn mx ks=>enc op::(Ew c++ [enc l,enc r,enc mn,enc mx,enc ks])
def qgZ:∀p:Pat,D.agg (Li p)=enc p
 | .mk .. =>(Wj ..).symm
def qcK:∀p:Pat,(Li p).length=13
 | .mk op c l r mn mx ks=>by simp[Li,Qq]
def Qp(g:Glob):List D:=[enc g.op,enc g.a,enc g.b,enc g.name,enc g.arg,enc g.val,enc g.fold,enc g.mn,enc g.mx,enc g.args,enc g.kids]
def qg0(g:Glob):D.agg (Qp g)=enc g:=(P8 g).symm
def qlP{l l':List D}(h:FrzTo bS (.agg l) (.agg l')):LeL l l':=by
 cases h with
 |same=>exact⟨rfl,λk x y b a=>by rw[b]at a;cases a;exact .same _⟩
 |agg hl h=>exact⟨hl,h⟩
def qkX{l:List D}{p:Pat}(h:dec (D.agg l)=some p):LeL l (Li p):=qlP (by rw[qgZ];exact Cod.le _ _ h)
def qgT{l:List D}{p:Glob}(h:dec (D.agg l)=some p):LeL l (Qp p):=qlP (by rw[qg0];exact Cod.le _ _ h)
def qr1(q:Qry):D:= .agg (Li q.pat++ (Qp q.glob++ [enc q.filts,enc q.strat]))
def qsd:D->Option Qry
 | .agg [h,j,k,l,q,r,t,u,w,x,a,b,c,y,A,C,E,F,I,J,K,L,M,d,f,s]=>(dec (D.agg [h,j,k,l,q,r,t,u,w,x,a,b,c])).bind λp=>(dec (D.agg [y,A,C,E,F,I,J,K,L,M,d])).bind λg=>(dec f).bind λfs=>(dec s).bind λst=>some ⟨p,g,fs,st⟩
 | _=>none
instance:Cod Qry where
 wd:=26
 enc:=qr1
 dec:=qsd
 kn _:=rfl
 wid q:=by simp[qr1,D.cells,qcK,Qp]
 dec_enc q:=by
  obtain⟨⟨op,⟨o,n,a,v,l,f,b⟩,lb,rg,mn,mx,ks⟩,g,fs,st⟩:=q;have h1:=Cod.dec_enc (⟨op,⟨o,n,a,v,l,f,b⟩,lb,rg,mn,mx,ks⟩:Pat);have h2:=Cod.dec_enc g;rw[Wj]at h1;rw[P8]at h2;simp only[Ew,qGp,qGE]at h1;simp only[qr1,Li,Ew,Qp,qGp,qGE,qsd,h1,h2,Cod.dec_enc,qF1]
 le d x h:=by
  unfold qsd at h;split at h
  ·simp only[qFF,qFV]at h;obtain⟨p,h0,g,h1,fs,h2,st,h3,rfl⟩:=h;exact LeL.agg ((qkX h0).append ((qgT h1).append (.cons (Cod.le _ _ h2) (.cons (Cod.le _ _ h3) .nil))))
  ·cases h
@[simp] theorem qyM(s:Qry):Qry.mk s.pat s.glob s.filts s.strat=s:=by cases s;rfl
@[simp] theorem qyW(s:Qry):enc s= .agg [enc s.pat.op,enc s.pat.cond.op,enc s.pat.cond.name,enc s.pat.cond.arg,enc s.pat.cond.val,enc s.pat.cond.lab,enc s.pat.cond.fold,enc s.pat.cond.kids,enc s.pat.lab,enc s.pat.reg,enc s.pat.mn,enc s.pat.mx,enc s.pat.kids,enc s.glob.op,enc s.glob.a,enc s.glob.b,enc s.glob.name,enc s.glob.arg,enc s.glob.val,enc s.glob.fold,enc s.glob.mn,enc s.glob.mx,enc s.glob.args,enc s.glob.kids,enc s.filts,enc s.strat]:=by
 obtain⟨⟨op,⟨o,n,a,v,l,f,c⟩,lb,rg,mn,mx,ks⟩,g,fs,st⟩:=s;rfl
@[simp] theorem qy5(h j k l q r t u w x a b c y A C E F I J K L M d f s:D):dec (X:=Qry) (.agg [h,j,k,l,q,r,t,u,w,x,a,b,c,y,A,C,E,F,I,J,K,L,M,d,f,s])=((dec (D.agg [h,j,k,l,q,r,t,u,w,x,a,b,c])).bind λp=>(dec (D.agg [y,A,C,E,F,I,J,K,L,M,d])).bind λg=>(dec f).bind λfs=>(dec s).bind λst=>some ⟨p,g,fs,st⟩):=i' rfl
structure Mh where
 kind:Int
 text:B
 pos:Int
instance:Cod Mh where
 wd:=3
 enc t:= .agg [.v (.int .u8 t.kind),enc t.text,enc t.pos]
 dec| .agg [.v (.int .u8 k),a,j]=>(dec a).bind λb=>(dec j).bind λc=>some ⟨k,b,c⟩|_=>none
 kn _:=rfl
 wid _:=rfl
 dec_enc f:=by simp only[Cod.dec_enc,qF1]
 le d x h:=by
  split at h
  ·simp only[qFF,qFV]at h;obtain⟨b,h1,c,h2,rfl⟩:=h;exact LeL.agg (.cons (.same _) (.cons (Cod.le _ _ h1) (.cons (Cod.le _ _ h2) .nil)))
  ·cases h
@[simp] theorem qyT(s:Mh):enc s= .agg [.v (.int .u8 s.kind),enc s.text,enc s.pos]:=i' rfl
@[simp] theorem qAc:Cod.wd Mh=3:=i' rfl
structure Pst where
 l:List Mh
 pos:Int
 deep:Int
 e:Int
 fail:Int
@[simp] theorem qyN(s:Pst):Pst.mk s.l s.pos s.deep s.e s.fail=s:=by cases s;rfl
def nQ(s:Pst):List D:=[enc s.l,enc s.pos,enc s.deep,enc s.e,enc s.fail]
@[simp] theorem qvZ(s:Pst):nQ s=[enc s.l,enc s.pos,enc s.deep,enc s.e,enc s.fail]:=i' rfl
def Pst.step(s:Pst):Pst:={ s with pos:=s.pos+1 }
def BD(s:Pst):Option Mh:=if 0<=s.pos/\s.l.length<=1000000 then s.l[s.pos.toNat]? else none
def qec(s:Pst)(k:Int)(t:B):Option Bool:=if s.e≠0 then some false else(BD s).map λx=>decide (x.kind=k/\x.text=t)
def uS(s:Pst)(t:B):Option (Pst×Bool):=(qec s 111 t).map λb=>if b then(s.step,true)else(s,false)
def Hw(s:Pst)(k:Int)(t:B):Option (Pst×B):=if s.e≠0 then none else(BD s).bind λx=>if x.kind≠k\/k=111/\x.text≠t then none else some (s.step,x.text)
def E0:B:=⟨#[]⟩
section
variable (A:Pst->Option (Pst×Pat))
def qpE(op:Int)(l:List Pat):Pat:=match l with
 | [x]=>x
 |l=>⟨op,Cond0,E0,E0,0,0,l⟩
end
def qn6(s:B)(i:Nat):Bool:=match s.data[i]? with
 |some c=>decide (c.toNat=32\/c.toNat=10)
 |none=>false
def qdi:Nat->B->Nat->Nat
 | 0,_,i=>i
 |n+1,s,i=>if qn6 s i then qdi n s (i+1)else i
def yl(s:B)(i:Nat):Nat:=qdi (s.size -i) s i
def qnr:Nat->B->Nat->B->Option (Nat×B)
 | 0,_,_,_=>none
 | n+1,s,j,v=>match s.data[j]? with
   |none=>none
   | some c=>if c.toNat=34 then(match s.data[j+1]? with
      |some d=>if d.toNat=34 then none else some (j,v)
      |none=>some (j,v))else qnr n s (j+1) (v++s.extract j (j+1))
def qb1(s:B)(j:Nat)(v:B):Option (Nat×B):=qnr (s.size -j) s j v
def signsL:List B:=[⟨#[60,47]⟩,⟨#[33,61]⟩,⟨#[58,58]⟩,⟨#[37,99]⟩,⟨#[91]⟩,⟨#[93]⟩,⟨#[40]⟩,⟨#[41]⟩,⟨#[123]⟩,⟨#[125]⟩,⟨#[60]⟩,⟨#[62]⟩,⟨#[124]⟩,⟨#[38]⟩,⟨#[33]⟩,⟨#[61]⟩,⟨#[58]⟩,⟨#[46]⟩,⟨#[44]⟩,⟨#[63]⟩,⟨#[42]⟩,⟨#[43]⟩,⟨#[45]⟩]
def qrh(s:B)(i:Nat)(x:B):Bool:=decide (i+x.size<=s.size/\s.extract i (i+x.size)=x)
def Gk{s:B}{i:Nat}(h:i<s.size):yl s i=if qn6 s i then yl s (i+1)else i:=by
 unfold yl;rw[show s.size -i=(s.size - (i+1)) +1 by omega,qdi]
def Sm{s:B}{i:Nat}(h:s.size<=i):yl s i=i:=by
 unfold yl;rw[show s.size -i=0 by omega,qdi]
def qfR{s:B}{j:Nat}{v:B}{c:UInt8}(h:s.data[j]? =some c):qb1 s j v=if c.toNat=34 then(match s.data[j+1]? with
 |some d=>if d.toNat=34 then none else some (j,v)
 |none=>some (j,v))else qb1 s (j+1) (v++s.extract j (j+1)):=by
 have a:j<s.size:=(qFS.1 h).1;unfold qb1;rw[show s.size -j=(s.size - (j+1)) +1 by omega,qnr,h]
def qi5{s:B}{j:Nat}{v:B}(h:s.size<=j):qb1 s j v=none:=by
 unfold qb1;rw[show s.size -j=0 by omega,qnr]
section
variable (N:Pst->Option (Pst×Cond))(O:Pst->Option (Pst×Cond))
end
section
variable (A:Pst->Option (Pst×Pat))(O:Pst->Option (Pst×Cond))
end
section
variable (N:Pst->Option (Pst×Glob))(O:Pst->Option (Pst×Glob))
end
def qjT(c:Nat):Bool:=decide (65<=c/\c<=90\/97<=c/\c<=122\/c=95)
def qjZ(s:B)(i:Nat):Bool:=match s.data[i]? with
 |some c=>qjT c.toNat||decide (48<=c.toNat/\c.toNat<=57\/c.toNat=45)
 |none=>false
def qnN:Nat->B->Nat->Nat
 | 0,_,i=>i
 |n+1,s,i=>if qjZ s i then qnN n s (i+1)else i
def KU(s:B)(i:Nat):Nat:=qnN (s.size -i) s i
variable {S S0:Nat->Spc}
def AP(c:Int):Bool:=decide (65<=c/\c<=90\/97<=c/\c<=122\/c=95)
def RX(c:Int):Bool:=AP c||decide (48<=c/\c<=57\/c=45)
def QJ(s:B):Prop:=1<=s.size/\s.size<=32/\(∀c:UInt8,s.data[0]? =some c->AP c.toNat=true)/\∀(k:Nat) (c:UInt8),s.data[k]? =some c->RX c.toNat=true
noncomputable def aB(s:B):Bool:= @decide (QJ s) (Classical.propDecidable _)
def Gb(s:B):aB s=true↔QJ s:= @decide_eq_true_iff (QJ s) (Classical.propDecidable _)
def XF{s:B}(h:QJ s):true=aB s:=((Gb s).2 h).symm
def tP{s:B}(h:¬QJ s):false=aB s:=by
 rcases hb:aB s
 ·rfl
 ·exact absurd ((Gb s).1 hb) h
abbrev tT:Spc:=aG (a1 U8) (λ_=>True) (enc (X:=Bool)) λx y=>y=AP x.val
abbrev Iq:Spc:=aG (a1 U8) (λ_=>True) (enc (X:=Bool)) λx y=>y=RX x.val
abbrev wn:Spc:=aG (a1 B) (λ_=>True) (enc (X:=Bool)) λx y=>y=aB x
def Mv:ak tj sB S (a1 U8) (λ_=>True) (enc (X:=Bool)) λx y=>y=AP x.val:=by
 rintro⟨c⟩ -;simp[tj,sB,AP]
 repeat' first|apply And.intro|intro _
 all_goals first|omega|(rw[qGg];simp;omega)
def Uk:ak rC qg S (a1 U8) (λ_=>True) (enc (X:=Bool)) λx y=>y=AP x.val:=by
 rintro⟨c⟩ -;simp[rC,qg,AP]
 repeat' first|apply And.intro|intro _
 all_goals first|omega|(rw[qGg];simp;omega)
def Mu(h1:S cE=tT):ak ti sA S (a1 U8) (λ_=>True) (enc (X:=Bool)) λx y=>y=RX x.val:=by
 rintro⟨c⟩ -;simp[ti,sA,h1,RX,-fB'];rcases hb:AP c<;>simp[hb]
 repeat' first|apply And.intro|intro _
 all_goals first|omega|(rw[qGg];simp;omega)
def Xt(h1:S lM=tT):ak uh tU S (a1 U8) (λ_=>True) (enc (X:=Bool)) λx y=>y=RX x.val:=by
 rintro⟨c⟩ -;simp[uh,tU,h1,RX,-fB'];rcases hb:AP c<;>simp[hb]
 repeat' first|apply And.intro|intro _
 all_goals first|omega|(rw[qGg];simp;omega)
theorem JY(h1:S lM=tT)(h2:S xa=Iq):ak iK ix S (a1 B) (λ_=>True) (enc (X:=Bool)) λx y=>y=aB x:=by
 rintro s -;simp[iK,ix,h1,h2];refineλ_=>⟨λl _=>⟨λp=>⟨by omega,λc hc=>⟨λhb=>(tP λh=>by rw[h.2.2.1 c hc]at hb;cases hb).symm,λhb=>?_⟩⟩,λp=>(tP λh=>by have:=h.2.1;omega).symm⟩,λl=>(tP λh=>by have:=h.1;omega).symm⟩
 refine au (X:=Nat) [0] [] (λk=>1<=k/\k<=s.size/\∀(j:Nat) (c:UInt8),j<k->s.data[j]? =some c->RX c.toNat=true) (λk=>[(3,enc (k:Int))]) (λ_=>[]) (λk=>s.size -k) 1 ⟨by omega,by omega,λj d q a=>?_⟩ ?_
 ·have:j=0:=by omega
  subst this;rw[hc]at a;cases a;simp[RX,hb]
 rintro k ⟨h3,h4,h5⟩;simp[h2];refineλ_=>⟨λhk=>⟨by omega,λd a=>⟨λb=>(tP λh=>by rw[h.2.2.2 k d a]at b;cases b).symm,λr=>⟨by simp only[InR];omega,k+1,⟨by omega,by omega,λj e q he=>?_⟩,by omega,by omega⟩⟩⟩,λhk=>?_⟩
 ·by_cases t:j=k
  ·subst t;rw[a]at he;cases he;exact r
  ·exact h5 j e (by omega) he
 ·refine(XF ⟨by omega,by omega,λd a=>by rw[hc]at a;cases a;exact hb,λj e he=>h5 j e ?_ he⟩).symm;have:=(qFS.1 he).1;have:j<s.size:=this;omega
theorem F4(h1:S cE=tT)(h2:S fD=Iq):ak nr mT S (a1 B) (λ_=>True) (enc (X:=Bool)) λx y=>y=aB x:=by
 rintro s -;simp[nr,mT,h1,h2];refineλ_=>⟨λl _=>⟨λp=>⟨by omega,λc hc=>⟨λhb=>(tP λh=>by rw[h.2.2.1 c hc]at hb;cases hb).symm,λhb _=>?_⟩⟩,λp=>(tP λh=>by have:=h.2.1;omega).symm⟩,λl=>(tP λh=>by have:=h.1;omega).symm⟩
 refine ah (X:=Unit) [0] [] s.size (λk _=>∀(j:Nat) (c:UInt8),j<k->s.data[j]? =some c->RX c.toNat=true) (λ_=>[]) (λ_=>[]) () (by intro j d q;omega) ?_ ?_
 ·rintro k -hk h5;simp[h2];refine⟨hk,λd a=>⟨λb=>(tP λh=>by rw[h.2.2.2 k d a]at b;cases b).symm,λr j e q he=>?_⟩⟩;by_cases t:j=k
  ·subst t;rw[a]at he;cases he;exact r
  ·exact h5 j e (by omega) he
 ·rintro -h5;simp;refine(XF ⟨by omega,by omega,λd a=>by rw[hc]at a;cases a;exact hb,λj e he=>h5 j e ?_ he⟩).symm;exact(qFS.1 he).1
end
section

open Cod (enc dec)
variable {dq:Prop}
structure qpX where
 txt:B
 fin:Int
 kind:Int
 text:B
 pos:Int
section
variable {Y Z:Type}
variable {P:Program}{S:Nat->Spc}{f:Nat}{im:List Nat}{cc:CC}{rs:List aj}{N:Nat}
end
section
variable {Y Z:Type}
variable {P:Program}{S:Nat->Spc}{f:Nat}{im:List Nat}{cc:CC}{rs:List aj}{N:Nat}
end
end
section
section
variable (N:qpX->Option (qpX×Cond))(O:qpX->Option (qpX×Cond))
end
section
variable (A:qpX->Bool->Option (qpX×Pat))(O:qpX->Option (qpX×Cond))
end
def GlobE:Glob:=⟨0,E0,E0,E0,E0,E0,false,0,0, [], []⟩
def Og:B:=⟨#[119,111,114,100]⟩
def qhR:B:=⟨#[116,97,103]⟩
def On:B:=⟨#[102,101,97,116]⟩
def ValsT:List B:=[⟨#[97]⟩,⟨#[98]⟩,⟨#[97,46,42]⟩,⟨#[91,97,98,93]⟩]
def ValsI:List B:=[⟨#[97]⟩,⟨#[98]⟩,⟨#[97,46,42]⟩,⟨#[91,97,98,93]⟩,⟨#[88]⟩,⟨#[]⟩,⟨#[99,63]⟩,⟨#[97,124,98]⟩,⟨#[89]⟩,⟨#[97,124,88]⟩]
def Attr2:List B:=[Og,qhR]
def FeatL:List B:=[⟨#[112]⟩,⟨#[113]⟩]
def NumL:List B:=[⟨#[49]⟩,⟨#[50]⟩]
def qwY:B:=⟨#[110]⟩
inductive GA (lb:List B):Cond->Prop
 |val (n v:B) (f:Bool) (h1:n∈Attr2) (h2:v∈ValsI):GA lb ⟨2,n,E0,v,E0,f, []⟩
 |feat (v:B) (h:v∈FeatL):GA lb ⟨3,On,E0,v,E0,false, []⟩
 |same (n l a:B) (h1:n∈Attr2) (h2:l∈lb) (h3:a∈Attr2):GA lb ⟨4,n,a,E0,l,false, []⟩
 |reg (n:B) (h:n∈Types):GA lb ⟨5,n,E0,E0,E0,false, []⟩
 |regk (n v:B) (h1:n∈Types) (h2:v∈NumL):GA lb ⟨5,n,qwY,v,E0,false, []⟩
inductive GI (lb:List B):Nat->Cond->Prop
 |atom (n:Nat) (c:Cond) (h:GA lb c):GI lb n c
 |not (n:Nat) (k:Cond) (h:GI lb n k):GI lb (n+1) ⟨6,E0,E0,E0,E0,false, [k]⟩
 |two (n:Nat) (op:Int) (a b:Cond) (ho:op=7\/op=8) (h1:GI lb n a) (h2:GI lb n b):GI lb (n+1) ⟨op,E0,E0,E0,E0,false, [a,b]⟩
inductive GC (lb:List B) (n:Nat):Cond->Prop
 |any:GC lb n ⟨1,E0,E0,E0,E0,false, []⟩
 |top (v:B) (f:Bool) (h:v∈ValsT):GC lb n ⟨2,E0,E0,v,E0,f, []⟩
 |inner (c:Cond) (h:GI lb n c):GC lb n c
def yt{lb:List B}{c:Cond}(h:GA lb c):c.kids=[]:=by cases h<;>rfl
def qej{lb:List B} :∀{n:Nat} {c:Cond},GI lb n c->CS n c
 | _,_, .atom n c h=>qcG (yt h)
 | _,_, .not n k h=>qsk rfl rfl (qej h)
 | _,_, .two n op a b _ h1 h2=>qsj rfl rfl (qej h1) (qej h2)
def qvj{lb:List B}{n:Nat}{c:Cond}(h:GC lb n c):CS n c:=by
 cases h with
 |any=>exact qcG rfl
 |top v f h=>exact qcG rfl
 |inner c h=>exact qej h
def qrO(l:List B)(x:B):Bool:=l.any λz=>decide (z=x)
def ZC(l:List B)(x:B):qrO l x=true↔x∈l:=by
 unfold qrO;rw[qGU];exact⟨λ⟨z,h1,h2⟩=>by rw[decide_eq_true_eq]at h2;rwa [<-h2],λh=>⟨x,h,decide_eq_true rfl⟩⟩
instance decMem (l:List B) (x:B):Decidable (x∈l):=if h:qrO l x=true then .isTrue ((ZC l x).1 h)else .isFalse λa=>h ((ZC l x).2 a)
mutual
def Av(lb:List B):Cond->Cond
 | .mk op n a v l f ks=>if op=4 then(if l∈lb then .mk op n a v l f ks else⟨2,n,E0,⟨#[97,124,88]⟩,E0,false, []⟩)else .mk op n a v l f (YQ lb ks)
def YQ(lb:List B):List Cond->List Cond
 | []=>[]
 |k::ks=>Av lb k::YQ lb ks
end
def SK(lb:List B):∀l:List Cond,YQ lb l=l.map (Av lb)
 | []=>by rw[YQ];rfl
 |k::l=>by rw[YQ,SK lb l];rfl
def my(lb:List B)(c:Cond):Av lb c=if c.op=4 then(if c.lab∈lb then c else⟨2,c.name,E0,⟨#[97,124,88]⟩,E0,false, []⟩)else⟨c.op,c.name,c.arg,c.val,c.lab,c.fold,c.kids.map (Av lb)⟩:=by
 cases c;rw[Av,SK]
def qbY(lb:List B):Av lb Cond0=Cond0:=by
 rw[my,if_neg (show ¬Cond0.op=4 from by decide)];rfl
mutual
def nV(lb:List B):Pat->Pat
 | .mk op c l r mn mx ks=>⟨op,Av lb c,l,r,mn,mx,QB lb ks⟩
def QB(lb:List B):List Pat->List Pat
 | []=>[]
 |k::ks=>nV lb k::QB lb ks
end
def QA(lb:List B):∀l:List Pat,QB lb l=l.map (nV lb)
 | []=>by rw[QB];rfl
 |k::l=>by rw[QB,QA lb l];rfl
def ul(lb:List B)(p:Pat):nV lb p=⟨p.op,Av lb p.cond,p.lab,p.reg,p.mn,p.mx,p.kids.map (nV lb)⟩:=by
 cases p;rw[nV,QA]
def FG(out:List B)(x:B):List B:=if x∈out then out else out++ [x]
mutual
def jW:Pat->List B->List B
 | .mk op c l r mn mx ks,out=>if op=1/\l≠E0 then FG out l else qaA ks out
def qaA:List Pat->List B->List B
 | [],out=>out
 |k::ks,out=>qaA ks (jW k out)
end
def Qz:∀(l:List Pat) (out:List B),qaA l out=l.foldl (λo k=>jW k o) out
 | [],out=>by rw[qaA];rfl
 |k::l,out=>by rw[qaA,Qz l];rfl
def rQ(p:Pat)(out:List B):jW p out=if p.op=1/\p.lab≠E0 then FG out p.lab else p.kids.foldl (λo k=>jW k o) out:=by
 cases p;rw[jW,Qz]
theorem VW{lb lb':List B} :∀{n:Nat} {c:Cond},GI lb n c->GI lb' n (Av lb' c)
 | _,_, .atom n c h=>by
   cases h with
   |val nm v f h1 h2=>rw[my,if_neg (by decide:¬(2:Int)=4)];exact .atom _ _ (.val nm v f h1 h2)
   |feat v h=>rw[my,if_neg (by decide:¬(3:Int)=4)];exact .atom _ _ (.feat v h)
   | same nm l a h1 h2 h3=>
     rw[my,if_pos rfl];split
     ·rename_i hl;exact .atom _ _ (.same nm l a h1 hl h3)
     ·exact .atom _ _ (.val nm _ false h1 (by simp[ValsI]))
   |reg nm h=>rw[my,if_neg (by decide:¬(5:Int)=4)];exact .atom _ _ (.reg nm h)
   |regk nm v h1 h2=>rw[my,if_neg (by decide:¬(5:Int)=4)];exact .atom _ _ (.regk nm v h1 h2)
 | _,_, .not n k h=>by
   rw[my,if_neg (by decide:¬(6:Int)=4)];exact .not n _ (VW h)
 | _,_, .two n op a b ho h1 h2=>by
   rw[my,if_neg (show ¬op=4 by omega)];exact .two n op _ _ ho (VW h1) (VW h2)
def qrQ{lb lb':List B}{n:Nat}{c:Cond}(h:GC lb n c):GC lb' n (Av lb' c):=by
 cases h with
 |any=>rw[my,if_neg (by decide:¬(1:Int)=4)];exact .any
 |top v f h=>rw[my,if_neg (by decide:¬(2:Int)=4)];exact .top v f h
 |inner c h=>exact .inner _ (VW h)
def qhl{lb lb':List B}{p:Pat}(h:qtL lb p):qtL lb (nV lb' p):=by
 rw[ul];rcases h with⟨h1,h2,h3,h4,h5,h6⟩|⟨h1,h2,h3,h4,h5,h6,a⟩
 ·exact .inl ⟨h1,h2,h3,h4,h5,by show p.kids.map _=[];rw[h6];rfl⟩
 ·exact .inr ⟨h1,by show Av lb' p.cond=_;rw[h2,qbY],h3,h4,h5,h6,by show p.kids.map _=[];rw[a];rfl⟩
def qmA{lb lb':List B} :∀n p,WP lb n p->WP lb n (nV lb' p):=by
 refine JP λn p hp h=>?_
 rcases Aa hp with hp|⟨m,rfl,(⟨h1,h2,h3,h4,h5,h6,a,b,c,l,hb⟩|⟨h1,h2,h3,h4,h5,a,c,l⟩)⟩
 ·exact qz2 (qhl hp)
 ·obtain⟨j,d,_,a1⟩:=h a (by rw[c];simp);obtain⟨q,k,_,a2⟩:=h b (by rw[c];simp);have d:j=m:=by omega
  have k:q=m:=by omega
  subst d;subst k;rw[ul];exact .inr (.inl ⟨h1,by show Av lb' p.cond=_;rw[h2,qbY],h3,h4,h5,h6,_,_,by show p.kids.map _=_;rw[c];rfl,a1,a2⟩)
 ·obtain⟨j,d,_,a1⟩:=h a (by rw[c];simp);have d:j=m:=by omega
  subst d;rw[ul];exact .inr (.inr ⟨h1,by show Av lb' p.cond=_;rw[h2,qbY],h3,h4,h5,_,by show p.kids.map _=_;rw[c];rfl,a1⟩)
def Zs(lb:List B)(p:Pat):aq (nV lb p)=(aq p).map (nV lb):=by
 induction p using fg with|_ p c=>?_
 rw[bc,bc p,ul];simp only;split
 ·rw[List.map_singleton,ul]
 ·rw[List.flatMap_map,List.map_flatMap];have:∀ks:List Pat,(∀k∈ks,aq (nV lb k)=(aq k).map (nV lb))->ks.flatMap (λa=>aq (nV lb a))=ks.flatMap (λa=>(aq a).map (nV lb)):=by
   intro ks
   induction ks with
   |nil=>intro _;rfl
   | cons k ks b=>
     intro h;rw[qGk,qGk,h k (by simp),b λz hz=>h z (by simp[hz])]
  exact this p.kids c
def qls(lb:List B)(p:Pat):∀out,jW (nV lb p) out=jW p out:=by
 induction p using fg with|_ p b=>?_
 intro out;rw[rQ,rQ p,ul];simp only;split
 ·rfl
 ·have:∀(ks:List Pat) (o:List B),(∀k∈ks,∀out,jW (nV lb k) out=jW k out)->(ks.map (nV lb)).foldl (λo k=>jW k o) o=ks.foldl (λo k=>jW k o) o:=by
   intro ks
   induction ks with
   |nil=>intro o _;rfl
   | cons k ks a=>
     intro o h;rw[qGb,qGH,qGH,h k (by simp),a _ λz hz=>h z (by simp[hz])]
  exact this p.kids out b
def qlQ{out:List B}{x y:B}(h:y∈FG out x):y∈out\/y=x:=by
 unfold FG at h;split at h
 ·exact .inl h
 ·rcases qFL.1 h with h|h
  ·exact .inl h
  ·exact .inr (by simpa using h)
theorem qoY{lb:List B} :∀n p,WP lb n p->∀out,(∀y∈jW p out,y∈out\/y∈lb):=by
 refine JP λn p hp c=>λout y a=>?_
 rw[rQ]at a;split at a
 ·rename_i h;rcases qlQ a with h1|rfl
  ·exact .inl h1
  ·rcases Aa hp with(⟨h1,h2,_⟩|⟨h1,_⟩)|⟨m,rfl,(⟨h1,_⟩|⟨h1,_⟩)⟩
   ·exact .inr (h2.resolve_left h.2)
   ·omega
   ·omega
   ·omega
 ·have:∀(ks:List Pat) (o:List B),(∀k∈ks,k∈p.kids)->y∈ks.foldl (λo k=>jW k o) o->y∈o\/y∈lb:=by
   intro ks
   induction ks with
   |nil=>intro o _ h;exact .inl h
   | cons k ks b=>
     intro o hk h;rw[qGH]at h;rcases b _ (λz hz=>hk z (by simp[hz])) h with h1|h1
     ·obtain⟨m,_,_,h2⟩:=c k (hk k (by simp));exact h2 o y h1
     ·exact .inr h1
  exact this p.kids out (λ_ h=>h) a
def qe3:List B:=[⟨#[97]⟩,⟨#[98,124,99]⟩,⟨#[46]⟩]
def qaK:List B:=[⟨#[111,98,106]⟩,⟨#[100,101,116]⟩,⟨#[]⟩]
def qe2:List B:=[⟨#[83]⟩,⟨#[78,80]⟩,⟨#[86,80]⟩]
inductive GG (lb:List B):Nat->Glob->Prop
 |bound (n:Nat) (a:B) (h:a∈lb):GG lb n ⟨1,a,E0,E0,E0,E0,false,0,0, [], []⟩
 |val (n:Nat) (a v:B) (f:Bool) (h1:a∈lb) (h2:v∈qe3):GG lb n ⟨2,a,E0,Og,E0,v,f,0,0, [], []⟩
 |same (n:Nat) (a b g:B) (h1:a∈lb) (h2:b∈lb) (h3:g∈Attr2):GG lb n ⟨3,a,b,Og,g,E0,false,0,0, [], []⟩
 |dist (n:Nat) (a b:B) (mn mx:Int) (h1:a∈lb) (h2:b∈lb) (h3: -2<=mn) (h4:mn<=2) (h5:mn<=mx) (h6:mx<=mn+3):GG lb n ⟨4,a,b,E0,E0,E0,false,mn,mx, [], []⟩
 |reg (n:Nat) (a b t:B) (h1:a∈lb) (h2:b∈lb) (h3:t∈Types):GG lb n ⟨5,a,b,t,E0,E0,false,0,0, [], []⟩
 |head (n:Nat) (op:Int) (a b:B) (ho:op=6\/op=7) (h1:a∈lb) (h2:b∈lb):GG lb n ⟨op,a,b,E0,E0,E0,false,0,0, [], []⟩
 |path (n:Nat) (a b:B) (l:List B) (h1:a∈lb) (h2:b∈lb) (h3:l.length<=2) (h4:∀x∈l,x∈qaK):GG lb n ⟨8,a,b,E0,E0,E0,false,0,0,l, []⟩
 |node (n:Nat) (a b t:B) (h1:a∈lb) (h2:b∈lb) (h3:t∈qe2):GG lb n ⟨9,a,b,t,E0,E0,false,0,0, [], []⟩
 |depth (n:Nat) (a:B) (mn mx:Int) (h1:a∈lb) (h3:0<=mn) (h4:mn<=2) (h5:mn<=mx) (h6:mx<=mn+1):GG lb n ⟨10,a,E0,E0,E0,E0,false,mn,mx, [], []⟩
 |not (n:Nat) (k:Glob) (h:GG lb n k):GG lb (n+1) ⟨11,E0,E0,E0,E0,E0,false,0,0, [], [k]⟩
 |two (n:Nat) (op:Int) (a b:Glob) (ho:op=12\/op=13) (h1:GG lb n a) (h2:GG lb n b):GG lb (n+1) ⟨op,E0,E0,E0,E0,E0,false,0,0, [], [a,b]⟩
def GF(f:vR):Prop:=(f.op=1\/f.op=2\/f.op=3)/\f.reg∈Types
structure GQ (n:Nat) (q:Qry):Prop where
 lab:∃lb,qmk lb/\WP lb n q.pat
 cond:∀y∈aq q.pat,GC (jW q.pat []) 1 y.cond
 glob:q.glob=GlobE\/GG (jW q.pat []) 2 q.glob
 filts:q.filts.length<=1/\∀f∈q.filts,GF f
 strat:0<=q.strat/\q.strat< 4
open Go.Proofs
def qmB:∀w∈qaH,w∈wordsA:=by decide
def qqK:∀w∈qlW,w∈wordsA:=by decide
def qok:∀w∈TS,w∈wordsA:=by decide
def qm2:∀w∈ValsI,w∈valsA:=by decide
def qkQ:mq∈wordsA:=by decide
def qpj{toks:List (List B)}(h:∀r∈toks,JI r)(i k:Int):ya toks i k∈wordsA:=by
 unfold ya;split
 ·exact qkQ
 ·split
  ·rename_i r a;obtain⟨w,t,f,b,c,d,rfl⟩:=h r (qFK a);split
   ·rename_i s hs;have hm:=qFK hs;simp only[qFP,qGi,or_false]at hm;rcases hm with rfl|rfl|rfl
    ·exact qmB _ b
    ·exact qqK _ c
    ·exact qok _ d
   ·exact qkQ
  ·exact qkQ
def qg6:mN ij On=2:=by decide
def qhA{toks:List (List B)}(h:∀r∈toks,JI r){i:Int}(h0:0<=i)(h1:i<toks.length):∃f∈TS,ya toks i 2=f:=by
 obtain⟨j,rfl⟩:∃j:Nat,i=(j:Int):=⟨i.toNat,by omega⟩
 obtain⟨r,a⟩:∃r,toks[j]? =some r:=⟨toks[j]'(by omega),qFH _⟩
 obtain⟨w,t,f,c,d,b,rfl⟩:=h r (qFK a);refine⟨f,b,?_⟩;unfold ya;rw[if_neg (by omega),show((j:Int)).toNat=j from rfl,a];rfl
structure JM (E:R9):Prop where
 c:OkCorp E.c
 t0:0<=E.tok
 t1:E.tok<E.c.toks.length
 l:E.bd.length=E.lb.length
theorem qpO{E:R9}(b:JM E){n:Nat}{x:Cond}(h:GA E.lb x):∃y,nJ E (n+1) x=some y:=by
 cases h with
 | val nm v f h1 h2=>
   obtain⟨y,j⟩:=PG (qm2 v h2) (qpj b.c.2.2.2 E.tok (BN E.c.attrs nm)) f;refine⟨y,?_⟩;unfold nJ;rw[if_neg (show ¬(2:Int)=1 by decide),if_pos rfl];exact j
 | feat v h=>
   obtain⟨f,p,e⟩:=qhA b.c.2.2.2 b.t0 b.t1;have q:v=⟨#[112]⟩\/v=⟨#[113]⟩:=by simpa [FeatL]using h
   have d:(featS.any λz=>decide (z=f))=true:=qGU.2 ⟨f,p,decide_eq_true rfl⟩;refine⟨featS.any (λ_=>false)||f.data.toList.any λc=>decide (v.data.toList=[c]),?_⟩;unfold nJ;rw[if_neg (show ¬(3:Int)=1 by decide),if_neg (show ¬(3:Int)=2 by decide),if_pos rfl];simp only[b.c.1,qg6,e];unfold VT;rw[if_pos ⟨d,q⟩];simp
 | same nm l a h1 h2 h3=>
   obtain⟨k,hk⟩:∃k:Nat,fe E.lb (λz=>decide (z=l))=(k:Int):=by
    rcases G7 (λz=>decide (z=l)) E.lb with⟨e,h⟩|⟨k,_,e,_⟩
    ·have:=h l h2;simp at this
    ·exact⟨k,e⟩
   have r:=D6 (λz=>decide (z=l)) E.lb;obtain⟨o,ho⟩:∃o,E.bd[k]? =some o:=⟨E.bd[k]'(by have:=b.l;omega),qFH _⟩
   refine⟨decide (0<=o) && decide (ya E.c.toks E.tok (mN E.c.attrs nm)=ya E.c.toks o (mN E.c.attrs a)),?_⟩;unfold nJ;rw[if_neg (show ¬(4:Int)=1 by decide),if_neg (show ¬(4:Int)=2 by decide),if_neg (show ¬(4:Int)=3 by decide),if_pos rfl];simp only[hk];rw[if_neg (by omega),show((k:Int)).toNat=k from rfl,ho]
 |reg nm h=>exact⟨_,by unfold nJ;rw[if_neg (show ¬(5:Int)=1 by decide),if_neg (show ¬(5:Int)=2 by decide),if_neg (show ¬(5:Int)=3 by decide),if_neg (show ¬(5:Int)=4 by decide),if_pos rfl]⟩
 |regk nm v h1 h2=>exact⟨_,by unfold nJ;rw[if_neg (show ¬(5:Int)=1 by decide),if_neg (show ¬(5:Int)=2 by decide),if_neg (show ¬(5:Int)=3 by decide),if_neg (show ¬(5:Int)=4 by decide),if_pos rfl]⟩
def zU{X:Type}{p q:X->Bool} :∀{l:List X},(∀x∈l,p x=q x)->l.any p=l.any q
 | [],_=>rfl
 |x::l,h=>by rw[List.any_cons,List.any_cons,h x (by simp),zU λy a=>h y (by simp[a])]
def qj6{E:R9}{n:Nat}{k:Cond}{y:Bool}(h:nJ E n k=some y):nJ E (n+1) ⟨6,E0,E0,E0,E0,false, [k]⟩=some (!y):=by
 unfold nJ;rw[if_neg (show ¬(6:Int)=1 by decide),if_neg (show ¬(6:Int)=2 by decide),if_neg (show ¬(6:Int)=3 by decide),if_neg (show ¬(6:Int)=4 by decide),if_neg (show ¬(6:Int)=5 by decide),if_pos rfl];simp only[h];rfl
def VS{E:R9}{n:Nat}{a b:Cond}{p q:Bool}(h1:nJ E n a=some p)(h2:nJ E n b=some q):nJ E (n+1) ⟨7,E0,E0,E0,E0,false, [a,b]⟩=some (p && q):=by
 unfold nJ;rw[if_neg (show ¬(7:Int)=1 by decide),if_neg (show ¬(7:Int)=2 by decide),if_neg (show ¬(7:Int)=3 by decide),if_neg (show ¬(7:Int)=4 by decide),if_neg (show ¬(7:Int)=5 by decide),if_neg (show ¬(7:Int)=6 by decide),if_pos (by simp[h1,h2]),if_pos rfl];simp[h1,h2]
def qef{E:R9}{n:Nat}{a b:Cond}{p q:Bool}(h1:nJ E n a=some p)(h2:nJ E n b=some q):nJ E (n+1) ⟨8,E0,E0,E0,E0,false, [a,b]⟩=some (p||q):=by
 unfold nJ;rw[if_neg (show ¬(8:Int)=1 by decide),if_neg (show ¬(8:Int)=2 by decide),if_neg (show ¬(8:Int)=3 by decide),if_neg (show ¬(8:Int)=4 by decide),if_neg (show ¬(8:Int)=5 by decide),if_neg (show ¬(8:Int)=6 by decide),if_pos (by simp[h1,h2]),if_neg (show ¬(8:Int)=7 by decide)];simp[h1,h2]
def Tm{E:R9}(d:JM E):∀{n m:Nat} {x:Cond},GI E.lb n x->n<m->∃y,nJ E m x=some y
 | _,m+1,_, .atom n c h,_=>qpO d h
 | _,m+1,_, .not n k h,hm=>by
   obtain⟨y,l⟩:=Tm (m:=m) d h (by omega);exact⟨_,qj6 l⟩
 | _,m+1,_, .two n op a b ho h1 h2,hm=>by
   obtain⟨p,hp⟩:=Tm (m:=m) d h1 (by omega);obtain⟨q,j⟩:=Tm (m:=m) d h2 (by omega);rcases ho with rfl|rfl
   ·exact⟨_,VS hp j⟩
   ·exact⟨_,qef hp j⟩
def qj7{E:R9}(a:JM E){n m:Nat}{x:Cond}(h:GC E.lb n x)(hm:n<m):∃y,nJ E m x=some y:=by
 obtain⟨m,rfl⟩:∃k,m=k+1:=⟨m -1,by omega⟩
 cases h with
 |any=>exact⟨true,by unfold nJ;rw[if_pos rfl]⟩
 | top v f h=>
   have b:v∈valsA:=(by decide:∀w∈ValsT,w∈valsA) v h;obtain⟨y,d⟩:=PG b (qpj a.c.2.2.2 E.tok (BN E.c.attrs E0)) f;refine⟨y,?_⟩;unfold nJ;rw[if_neg (show ¬(2:Int)=1 by decide),if_pos rfl];exact d
 |inner c h=>exact Tm a h hm
def qt3:Bool:=Attr2.all λnm=>ValsI.all λv=>rV ij [] ⟨2,nm,E0,v,E0,false, []⟩ && rV ij [] ⟨2,nm,E0,v,E0,true, []⟩
def qqD:qt3=true:=by kernel_rfl
def qt9:Bool:=ValsT.all λv=>rV ij [] ⟨2,E0,E0,v,E0,false, []⟩ && rV ij [] ⟨2,E0,E0,v,E0,true, []⟩
def qqI:qt9=true:=by kernel_rfl
def qrT:Bool:=FeatL.all λv=>rV ij [] ⟨3,On,E0,v,E0,false, []⟩
def qot:qrT=true:=by kernel_rfl
def quA:Bool:=Types.all λn=>rV ij [] ⟨5,n,E0,E0,E0,false, []⟩ && NumL.all λv=>rV ij [] ⟨5,n,qwY,v,E0,false, []⟩
def qi3:quA=true:=by kernel_rfl
def qAV:Bool:=Attr2.all λn=>decide (0<=mN ij n)
def qpK:qAV=true:=by kernel_rfl
def Y7{lb:List B}{nm v:B}{f:Bool} :rV ij lb ⟨2,nm,E0,v,E0,f, []⟩=rV ij [] ⟨2,nm,E0,v,E0,f, []⟩:=rfl
def qf3{lb:List B}{v:B} :rV ij lb ⟨3,On,E0,v,E0,false, []⟩=rV ij [] ⟨3,On,E0,v,E0,false, []⟩:=rfl
def Y8{lb:List B}{n a v:B} :rV ij lb ⟨5,n,a,v,E0,false, []⟩=rV ij [] ⟨5,n,a,v,E0,false, []⟩:=rfl
theorem qdW{lb:List B}{x:Cond}(h:GA lb x):rV ij lb x=true:=by
 cases h with
 | val nm v f h1 h2=>
   rw[Y7];have h:=qFN.1 (qFN.1 qqD nm h1) v h2;simp only[qFO]at h;cases f
   ·exact h.1
   ·exact h.2
 | feat v h=>
   rw[qf3];exact qFN.1 qot v h
 | same nm l a h1 h2 h3=>
   have b:=qFN.1 qpK nm h1;have c:=qFN.1 qpK a h3;have d:(lb.any λz=>decide (z=l))=true:=qGU.2 ⟨l,h2,decide_eq_true rfl⟩;have j:qqY ⟨4,nm,a,E0,l,false, []⟩=true:=by
    unfold qqY;rw[if_neg (show ¬(4:Int)=1 by decide),if_neg (show ¬(4:Int)=2 by decide),if_neg (show ¬(4:Int)=3 by decide),if_pos rfl];rfl
   have k:qpL ij ⟨4,nm,a,E0,l,false, []⟩=true:=by
    unfold qpL;rw[if_neg (show ¬(4:Int)=2 by decide),if_neg (show ¬(4:Int)=3 by decide),if_pos rfl];exact decide_eq_true ⟨of_decide_eq_true b,of_decide_eq_true c⟩
   have p:qzi ij lb ⟨4,nm,a,E0,l,false, []⟩=true:=by
    unfold qzi;rw[if_neg (show ¬(4:Int)=2 by decide),if_neg (show ¬(4:Int)=3 by decide),if_pos rfl];exact d
   unfold rV;rw[j,k,p];rfl
 | reg nm h=>
   rw[Y8];have h:=qFN.1 qi3 nm h;simp only[qFO]at h;exact h.1
 | regk nm v h1 h2=>
   rw[Y8];have h:=qFN.1 qi3 nm h1;simp only[qFO]at h;exact qFN.1 h.2 v h2
def BB{a:List Attr}{lb:List B}{m:Nat}{x:Cond}(h:rV a lb x=true)(hk:x.kids=[]):tX a lb (m+1) x=true:=by
 show(rV a lb x && x.kids.all (tX a lb m))=true;rw[h,hk];rfl
def ST{lb:List B}{m:Nat}{k:Cond}(h:tX ij lb m k=true):tX ij lb (m+1) ⟨6,E0,E0,E0,E0,false, [k]⟩=true:=by
 have e:rV ij lb ⟨6,E0,E0,E0,E0,false, [k]⟩=true:=rfl;show(rV ij lb ⟨6,E0,E0,E0,E0,false, [k]⟩ && [k].all (tX ij lb m))=true;rw[e];simp[h]
def SR{lb:List B}{m:Nat}{op:Int}{a b:Cond}(ho:op=7\/op=8)(h1:tX ij lb m a=true)(h2:tX ij lb m b=true):tX ij lb (m+1) ⟨op,E0,E0,E0,E0,false, [a,b]⟩=true:=by
 have e:rV ij lb ⟨op,E0,E0,E0,E0,false, [a,b]⟩=true:=by rcases ho with rfl|rfl<;>rfl
 show(rV ij lb ⟨op,E0,E0,E0,E0,false, [a,b]⟩ && [a,b].all (tX ij lb m))=true;rw[e];simp[h1,h2]
def I4{lb:List B} :∀{n m:Nat} {x:Cond},GI lb n x->n<m->tX ij lb m x=true
 | _,m+1,_, .atom n c h,_=>BB (qdW h) (yt h)
 | _,m+1,_, .not n k h,hm=>ST (I4 h (by omega))
 | _,m+1,_, .two n op a b ho h1 h2,hm=>SR ho (I4 h1 (by omega)) (I4 h2 (by omega))
def qnK{k:Cond}{op:Int} :io ⟨op,E0,E0,E0,E0,false, [k]⟩=io k+1:=by rw[io,fE,fE]
def qnJ{a b:Cond}{op:Int} :io ⟨op,E0,E0,E0,E0,false, [a,b]⟩=io a+io b+1:=by rw[io,fE,fE,fE];omega
def qoD{k:Cond}{op:Int} :dB ⟨op,E0,E0,E0,E0,false, [k]⟩=dB k+1:=by rw[dB,iV,iV];omega
def qoC{a b:Cond}{op:Int} :dB ⟨op,E0,E0,E0,E0,false, [a,b]⟩=max (dB a) (dB b) +1:=by rw[dB,iV,iV,iV];omega
def PO{x:Cond}(h:x.kids=[]):io x=1/\dB x=1:=by
 rw[BC,JG,h];exact⟨rfl,rfl⟩
def VX{lb:List B} :∀{n:Nat} {x:Cond},GI lb n x->io x+1<=2^ (n+1)/\dB x<=n+1
 | _,_, .atom n c h=>by
   have:=PO (yt h);have h2:2^1<=2^ (n+1):=Nat.pow_le_pow_right (by decide) (by omega);omega
 | _,_, .not n k h=>by
   have:=VX h;rw[qnK,qoD,Nat.pow_succ];omega
 | _,_, .two n op a b ho h1 h2=>by
   have:=VX h1;have:=VX h2;rw[qnJ,qoC,Nat.pow_succ];omega
def qkl{lb:List B}{n:Nat}{x:Cond}(h:GC lb n x):io x+1<=2^ (n+1)/\dB x<=n+1:=by
 have h2:2^1<=2^ (n+1):=Nat.pow_le_pow_right (by decide) (by omega);cases h with
 |any=>have:=PO (x:=⟨1,E0,E0,E0,E0,false, []⟩) rfl;omega
 |top v f h=>have:=PO (x:=⟨2,E0,E0,v,E0,f, []⟩) rfl;omega
 |inner c h=>exact VX h
def Px{lb:List B}{n m:Nat}{x:Cond}(h:GC lb n x)(hm:n<m):tX ij lb m x=true:=by
 obtain⟨m,rfl⟩:∃k,m=k+1:=⟨m -1,by omega⟩
 cases h with
 |any=>exact BB rfl rfl
 | top v f h=>
   refine BB ?_ rfl;have h:=qFN.1 qqI v h;simp only[qFO]at h;rw[Y7];cases f
   ·exact h.1
   ·exact h.2
 |inner c h=>exact I4 h hm
def qjk{a:List Attr}{lb:List B}{x:Cond}(h1:io x<=60)(h2:dB x<=20)(h3:tX a lb 20 x=true):qmt a lb x=true:=by
 unfold qmt;rw[decide_eq_true ⟨h1,h2⟩,h3];rfl
def qrs{lb:List B}{n:Nat}{x:Cond}(h:GC lb n x)(hn:n<=4):qmt ij lb x=true:=by
 obtain⟨h1,h2⟩:=qkl h;have h3:2^ (n+1)<=2^5:=Nat.pow_le_pow_right (by decide) (by omega);exact qjk (by omega) (by omega) (Px h (by omega))
end
end Go.Gv
