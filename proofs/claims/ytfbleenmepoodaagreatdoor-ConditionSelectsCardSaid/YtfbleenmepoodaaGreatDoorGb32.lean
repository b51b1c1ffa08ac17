/- A part of the framework and of the walks: V58 W146 W159 W160 T25. -/
import Derived.Test.YtfbleenmepoodaaGreatDoorGb31
set_option linter.unusedSimpArgs false
set_option linter.unusedVariables false
set_option linter.unusedSectionVars false
set_option linter.defProp false
set_option maxRecDepth 100000
namespace Go.Gv
open Go.Proofs
def VR:∀w∈vM,w∈wordsA:=by decide
def Zq:∀w∈FA,w∈wordsA:=by decide
def XA:∀w∈FsetL,w∈wordsA:=by decide
def Wm:∀w∈ValsI,w∈valsA:=by decide
def UM:dm∈wordsA:=by decide
def YC{toks:List (List B)}(h:∀r∈toks,AO r)(i k:Int):mi toks i k∈wordsA:=by
 unfold mi;split
 ·exact UM
 ·split
  ·rename_i r hr;obtain⟨w,t,f,hw,ht,hf,rfl⟩:=h r (qme hr);split
   ·rename_i s hs;have hm:=qme hs;simp only[qmw,qmM,or_false]at hm;rcases hm with rfl|rfl|rfl
    ·exact VR _ hw
    ·exact Zq _ ht
    ·exact XA _ hf
   ·exact UM
  ·exact UM
def RG:dB dA xG=2:=by decide
def R2{toks:List (List B)}(h:∀r∈toks,AO r){i:Int}(h0:0<=i)(h1:i < toks.length):∃f∈FsetL,mi toks i 2=f:=by
 obtain⟨j,rfl⟩:∃j:Nat,i=(j:Int):=⟨i.toNat,by omega⟩
 obtain⟨r,hr⟩:∃r,toks[j]? =some r:=⟨toks[j]'(by omega),qmd _⟩
 obtain⟨w,t,f,hw,ht,hf,rfl⟩:=h r (qme hr);refine⟨f,hf,?_⟩;unfold mi;rw[if_neg (by omega),show((j:Int)).toNat=j from rfl,hr];rfl
structure FC (E:Gz):Prop where
 c:OkCorp E.c
 t0:0<=E.tok
 t1:E.tok < E.c.toks.length
 l:E.bd.length=E.lb.length
theorem Y0{E:Gz}(hE:FC E){n:Nat}{x:Cond}(h:GA E.lb x):∃y,jN E (n+1) x=some y:=by
 cases h with
 | val nm v f h1 h2=>
   obtain⟨y,hy⟩:=EM (Wm v h2) (YC hE.c.2.2.2 E.tok (lF E.c.attrs nm)) f;refine⟨y,?_⟩;unfold jN;rw[if_neg (show ¬ (2:Int)=1 by decide),if_pos rfl];exact hy
 | feat v h=>
   obtain⟨f,hf,e⟩:=R2 hE.c.2.2.2 hE.t0 hE.t1;have hv:v=⟨#[112]⟩\/v=⟨#[113]⟩:=by simpa [FeatL]using h
   have hfs:(featS.any λz=>decide (z=f))=true:=qmU.2 ⟨f,hf,decide_eq_true rfl⟩;refine⟨featS.any (λ_=>false)||f.data.toList.any λc=>decide (v.data.toList=[c]),?_⟩;unfold jN;rw[if_neg (show ¬ (3:Int)=1 by decide),if_neg (show ¬ (3:Int)=2 by decide),if_pos rfl];simp only[hE.c.1,RG,e];unfold Gj;rw[if_pos ⟨hfs,hv⟩];simp
 | same nm l a h1 h2 h3=>
   obtain⟨k,hk⟩:∃k:Nat,ln E.lb (λz=>decide (z=l))=(k:Int):=by
    rcases EW (λz=>decide (z=l)) E.lb with⟨e,h⟩|⟨k,_,e,_⟩
    ·have:=h l h2;simp at this
    ·exact⟨k,e⟩
   have hr:=Ak (λz=>decide (z=l)) E.lb;obtain⟨o,ho⟩:∃o,E.bd[k]? =some o:=⟨E.bd[k]'(by have:=hE.l;omega),qmd _⟩
   refine⟨decide (0<=o) && decide (mi E.c.toks E.tok (dB E.c.attrs nm)=mi E.c.toks o (dB E.c.attrs a)),?_⟩;unfold jN;rw[if_neg (show ¬ (4:Int)=1 by decide),if_neg (show ¬ (4:Int)=2 by decide),if_neg (show ¬ (4:Int)=3 by decide),if_pos rfl];simp only[hk];rw[if_neg (by omega),show((k:Int)).toNat=k from rfl,ho]
 | reg nm h=>exact⟨_,by unfold jN;rw[if_neg (show ¬ (5:Int)=1 by decide),if_neg (show ¬ (5:Int)=2 by decide),if_neg (show ¬ (5:Int)=3 by decide),if_neg (show ¬ (5:Int)=4 by decide),if_pos rfl]⟩
 | regk nm v h1 h2=>exact⟨_,by unfold jN;rw[if_neg (show ¬ (5:Int)=1 by decide),if_neg (show ¬ (5:Int)=2 by decide),if_neg (show ¬ (5:Int)=3 by decide),if_neg (show ¬ (5:Int)=4 by decide),if_pos rfl]⟩
def TZ{E:Gz}{n:Nat}{k:Cond}{y:Bool}(h:jN E n k=some y):jN E (n+1) ⟨6,E0,E0,E0,E0,false, [k]⟩=some (!y):=by
 unfold jN;rw[if_neg (show ¬ (6:Int)=1 by decide),if_neg (show ¬ (6:Int)=2 by decide),if_neg (show ¬ (6:Int)=3 by decide),if_neg (show ¬ (6:Int)=4 by decide),if_neg (show ¬ (6:Int)=5 by decide),if_pos rfl];simp only[h];rfl
def T0{E:Gz}{n:Nat}{a b:Cond}{p q:Bool}(h1:jN E n a=some p)(h2:jN E n b=some q):jN E (n+1) ⟨7,E0,E0,E0,E0,false, [a,b]⟩=some (p && q):=by
 unfold jN;rw[if_neg (show ¬ (7:Int)=1 by decide),if_neg (show ¬ (7:Int)=2 by decide),if_neg (show ¬ (7:Int)=3 by decide),if_neg (show ¬ (7:Int)=4 by decide),if_neg (show ¬ (7:Int)=5 by decide),if_neg (show ¬ (7:Int)=6 by decide),if_pos (by simp[h1,h2]),if_pos rfl];simp[h1,h2]
def YZ{E:Gz}{n:Nat}{a b:Cond}{p q:Bool}(h1:jN E n a=some p)(h2:jN E n b=some q):jN E (n+1) ⟨8,E0,E0,E0,E0,false, [a,b]⟩=some (p||q):=by
 unfold jN;rw[if_neg (show ¬ (8:Int)=1 by decide),if_neg (show ¬ (8:Int)=2 by decide),if_neg (show ¬ (8:Int)=3 by decide),if_neg (show ¬ (8:Int)=4 by decide),if_neg (show ¬ (8:Int)=5 by decide),if_neg (show ¬ (8:Int)=6 by decide),if_pos (by simp[h1,h2]),if_neg (show ¬ (8:Int)=7 by decide)];simp[h1,h2]
def Pu{E:Gz}(hE:FC E):∀ {n m:Nat} {x:Cond},GI E.lb n x->n < m->∃y,jN E m x=some y
 | _,m+1,_, .atom n c h,_=>Y0 hE h
 | _,m+1,_, .not n k h,hm=>by
   obtain⟨y,hy⟩:=Pu (m:=m) hE h (by omega);exact⟨_,TZ hy⟩
 | _,m+1,_, .two n op a b ho h1 h2,hm=>by
   obtain⟨p,hp⟩:=Pu (m:=m) hE h1 (by omega);obtain⟨q,hq⟩:=Pu (m:=m) hE h2 (by omega);rcases ho with rfl|rfl
   ·exact⟨_,T0 hp hq⟩
   ·exact⟨_,YZ hp hq⟩
def Pv{E:Gz}(hE:FC E){n m:Nat}{x:Cond}(h:GC E.lb n x)(hm:n < m):∃y,jN E m x=some y:=by
 obtain⟨m,rfl⟩:∃k,m=k+1:=⟨m -1,by omega⟩
 cases h with
 | any=>exact⟨true,by unfold jN;rw[if_pos rfl]⟩
 | top v f h=>
   have hv:v∈valsA:=(by decide:∀w∈ValsT,w∈valsA) v h;obtain⟨y,hy⟩:=EM hv (YC hE.c.2.2.2 E.tok (lF E.c.attrs E0)) f;refine⟨y,?_⟩;unfold jN;rw[if_neg (show ¬ (2:Int)=1 by decide),if_pos rfl];exact hy
 | inner c h=>exact Pu hE h hm
def qb2:Bool:=Attr2.all λnm=>ValsI.all λv=>iL dA [] ⟨2,nm,E0,v,E0,false, []⟩ && iL dA [] ⟨2,nm,E0,v,E0,true, []⟩
def Zj:qb2=true:=by kernel_rfl
def qb7:Bool:=ValsT.all λv=>iL dA [] ⟨2,E0,E0,v,E0,false, []⟩ && iL dA [] ⟨2,E0,E0,v,E0,true, []⟩
def R9:qb7=true:=by kernel_rfl
def qad:Bool:=FeatL.all λv=>iL dA [] ⟨3,xG,E0,v,E0,false, []⟩
def XL:qad=true:=by kernel_rfl
def qct:Bool:=Types.all λn=>iL dA [] ⟨5,n,E0,E0,E0,false, []⟩ && NumL.all λv=>iL dA [] ⟨5,n,YF,v,E0,false, []⟩
def Te:qct=true:=by kernel_rfl
def qia:Bool:=Attr2.all λn=>decide (0<=dB dA n)
def YX:qia=true:=by kernel_rfl
def EI{lb:List B}{nm v:B}{f:Bool} :iL dA lb ⟨2,nm,E0,v,E0,f, []⟩=iL dA [] ⟨2,nm,E0,v,E0,f, []⟩:=rfl
def QS{lb:List B}{v:B} :iL dA lb ⟨3,xG,E0,v,E0,false, []⟩=iL dA [] ⟨3,xG,E0,v,E0,false, []⟩:=rfl
def LO{lb:List B}{n a v:B} :iL dA lb ⟨5,n,a,v,E0,false, []⟩=iL dA [] ⟨5,n,a,v,E0,false, []⟩:=rfl
theorem Ji{lb:List B}{x:Cond}(h:GA lb x):iL dA lb x=true:=by
 cases h with
 | val nm v f h1 h2=>
   rw[EI];have h:=qmg.1 (qmg.1 Zj nm h1) v h2;simp only[qmf]at h;cases f
   ·exact h.1
   ·exact h.2
 | feat v h=>
   rw[QS];exact qmg.1 XL v h
 | same nm l a h1 h2 h3=>
   have e1:=qmg.1 YX nm h1;have e2:=qmg.1 YX a h3;have e3:(lb.any λz=>decide (z=l))=true:=qmU.2 ⟨l,h2,decide_eq_true rfl⟩;have s1:O0 ⟨4,nm,a,E0,l,false, []⟩=true:=by
    unfold O0;rw[if_neg (show ¬ (4:Int)=1 by decide),if_neg (show ¬ (4:Int)=2 by decide),if_neg (show ¬ (4:Int)=3 by decide),if_pos rfl];rfl
   have s2:Xc dA ⟨4,nm,a,E0,l,false, []⟩=true:=by
    unfold Xc;rw[if_neg (show ¬ (4:Int)=2 by decide),if_neg (show ¬ (4:Int)=3 by decide),if_pos rfl];exact decide_eq_true ⟨of_decide_eq_true e1,of_decide_eq_true e2⟩
   have s3:qee dA lb ⟨4,nm,a,E0,l,false, []⟩=true:=by
    unfold qee;rw[if_neg (show ¬ (4:Int)=2 by decide),if_neg (show ¬ (4:Int)=3 by decide),if_pos rfl];exact e3
   unfold iL;rw[s1,s2,s3];rfl
 | reg nm h=>
   rw[LO];have h:=qmg.1 Te nm h;simp only[qmf]at h;exact h.1
 | regk nm v h1 h2=>
   rw[LO];have h:=qmg.1 Te nm h1;simp only[qmf]at h;exact qmg.1 h.2 v h2
def sG{a:List Attr}{lb:List B}{m:Nat}{x:Cond}(h:iL a lb x=true)(hk:x.kids=[]):my a lb (m+1) x=true:=by
 show(iL a lb x && x.kids.all (my a lb m))=true;rw[h,hk];rfl
def G4{lb:List B}{m:Nat}{k:Cond}(h:my dA lb m k=true):my dA lb (m+1) ⟨6,E0,E0,E0,E0,false, [k]⟩=true:=by
 have e:iL dA lb ⟨6,E0,E0,E0,E0,false, [k]⟩=true:=rfl;show(iL dA lb ⟨6,E0,E0,E0,E0,false, [k]⟩ && [k].all (my dA lb m))=true;rw[e];simp[h]
def G3{lb:List B}{m:Nat}{op:Int}{a b:Cond}(ho:op=7\/op=8)(h1:my dA lb m a=true)(h2:my dA lb m b=true):my dA lb (m+1) ⟨op,E0,E0,E0,E0,false, [a,b]⟩=true:=by
 have e:iL dA lb ⟨op,E0,E0,E0,E0,false, [a,b]⟩=true:=by rcases ho with rfl|rfl <;> rfl
 show(iL dA lb ⟨op,E0,E0,E0,E0,false, [a,b]⟩ && [a,b].all (my dA lb m))=true;rw[e];simp[h1,h2]
def Ae{lb:List B} :∀ {n m:Nat} {x:Cond},GI lb n x->n < m->my dA lb m x=true
 | _,m+1,_, .atom n c h,_=>sG (Ji h) (Aq h)
 | _,m+1,_, .not n k h,hm=>G4 (Ae h (by omega))
 | _,m+1,_, .two n op a b ho h1 h2,hm=>G3 ho (Ae h1 (by omega)) (Ae h2 (by omega))
def Xa{k:Cond}{op:Int} :aJ ⟨op,E0,E0,E0,E0,false, [k]⟩=aJ k+1:=by rw[aJ,cv,cv]
def WZ{a b:Cond}{op:Int} :aJ ⟨op,E0,E0,E0,E0,false, [a,b]⟩=aJ a+aJ b+1:=by rw[aJ,cv,cv,cv];omega
def XX{k:Cond}{op:Int} :aA ⟨op,E0,E0,E0,E0,false, [k]⟩=aA k+1:=by rw[aA,eA,eA];omega
def XW{a b:Cond}{op:Int} :aA ⟨op,E0,E0,E0,E0,false, [a,b]⟩=max (aA a) (aA b) +1:=by rw[aA,eA,eA,eA];omega
def ET{x:Cond}(h:x.kids=[]):aJ x=1/\aA x=1:=by
 rw[ej,tD,h];exact⟨rfl,rfl⟩
def JA{lb:List B} :∀ {n:Nat} {x:Cond},GI lb n x->aJ x+1<=2^ (n+1)/\aA x<=n+1
 | _,_, .atom n c h=>by
   have:=ET (Aq h);have h2:2^1<=2^ (n+1):=Nat.pow_le_pow_right (by decide) (by omega);omega
 | _,_, .not n k h=>by
   have:=JA h;rw[Xa,XX,Nat.pow_succ];omega
 | _,_, .two n op a b ho h1 h2=>by
   have:=JA h1;have:=JA h2;rw[WZ,XW,Nat.pow_succ];omega
def N9{lb:List B}{n:Nat}{x:Cond}(h:GC lb n x):aJ x+1<=2^ (n+1)/\aA x<=n+1:=by
 have h2:2^1<=2^ (n+1):=Nat.pow_le_pow_right (by decide) (by omega);cases h with
 | any=>have:=ET (x:=⟨1,E0,E0,E0,E0,false, []⟩) rfl;omega
 | top v f h=>have:=ET (x:=⟨2,E0,E0,v,E0,f, []⟩) rfl;omega
 | inner c h=>exact JA h
def EJ{lb:List B}{n m:Nat}{x:Cond}(h:GC lb n x)(hm:n < m):my dA lb m x=true:=by
 obtain⟨m,rfl⟩:∃k,m=k+1:=⟨m -1,by omega⟩
 cases h with
 | any=>exact sG rfl rfl
 | top v f h=>
   refine sG ?_ rfl;have h:=qmg.1 R9 v h;simp only[qmf]at h;rw[EI];cases f
   ·exact h.1
   ·exact h.2
 | inner c h=>exact Ae h hm
def Ts{a:List Attr}{lb:List B}{x:Cond}(h1:aJ x<=60)(h2:aA x<=20)(h3:my a lb 20 x=true):QT a lb x=true:=by
 unfold QT;rw[decide_eq_true ⟨h1,h2⟩,h3];rfl
def Tt{lb:List B}{n:Nat}{x:Cond}(h:GC lb n x)(hn:n<=4):QT dA lb x=true:=by
 obtain⟨h1,h2⟩:=N9 h;have h3:2^ (n+1)<=2^5:=Nat.pow_le_pow_right (by decide) (by omega);exact Ts (by omega) (by omega) (EJ h (by omega))
open Cod (enc dec)
variable {S S0:Nat->Spc}
def ix(c:Int):B:=⟨#[c.toNat.toUInt8]⟩
abbrev s_cpFold1:Spc:=aY (a1 B) (λs=>∃c:Int,0<=c/\c < 128/\s=ix c) (enc (X:=B)) λs y=>∀c:Int,0<=c->c < 128->s=ix c->y=ix (low c)
def JO{c:Int}(h0:0<=c)(h1:c < 128):Utf8.encode c=ix c:=by
 unfold Utf8.encode ix;have e:c.toNat < 128:=by omega
 have h:Utf8.valid c=true:=by
  unfold Utf8.valid;have:c < 55296:=by omega
  simp[h0,this]
 simp[e,h]
def Jm{c:Int}(h0:0<=c)(h1:c < 128):0<=low c/\low c < 128:=by unfold low;split <;> omega
def Ph{c d:Int}(hc:0<=c)(hc':c < 128)(hd:0<=d)(hd':d < 128)(h:ix c=ix d):c=d:=by
 have:c.toNat.toUInt8=d.toNat.toUInt8:=by
  have:=congrArg (λb:B=>b.data.toList.head?) h;simpa [ix]using this
 have:=congrArg UInt8.toNat this;have e1:c.toNat.toUInt8.toNat=c.toNat % 256:=qnC ..;have e2:d.toNat.toUInt8.toNat=d.toNat % 256:=qnC ..;omega
def ZS{c d:Int}(hc:0<=c)(hc':c < 128)(hd:0<=d)(hd':d < 128):(ix c=ix d)=(c=d):=propext ⟨Ph hc hc' hd hd',λh=>by rw[h]⟩
theorem M7(h1:S lJ=s_cpFold1):av kR jQ S (a1 I32) (λc=>0<=c.val/\c.val < 128) (enc (X:=List I32)) λc y=>y=Ni true c:=by
 rintro⟨c⟩ ⟨c0,c1⟩;have c0:0<=c:=c0;have c1:c < 128:=c1;obtain⟨l0,l1⟩:=Jm c0 c1;have hP:∃d:Int,0<=d/\d < 128/\ix c=ix d:=⟨c,c0,c1,rfl⟩
 simp[kR,jQ,h1,JO c0 c1,hP, -Bool.forall_bool, -Bool.exists_bool];intro y hy b;obtain rfl:=hy c c0 c1 rfl;clear hy;obtain⟨r,hr⟩:∃r,r=low c:=⟨_,rfl⟩
 rw[<-hr]at l0 l1 ⊢;have hsz:(ix r).size=1:=rfl;have hdec:Utf8.decode (ix r) 0=(r.toNat,1):=by
  have h0:0 < (ix r).size:=by rw[hsz];omega
  have e1:((ix r)[0]'h0).toNat=r.toNat % 256:=qnC ..;have e2:((ix r)[0]'h0).toNat=r.toNat:=by omega
  rw[Go.decode_ascii (ix r) 0 h0 (by omega),e2]
 refine aP (X:=Nat×Value×List I32) [4,13] [] (λz=>z.1=0/\z.2.1= .slice none 0 0/\z.2.2=[]\/z.1=1/\z.2.2=EY ⟨c⟩) (λz=>[(3, .own 40 z.2.1)]) (λz=>[(13, .iter b (ix r) z.1),(40, .row z.2.1 DT 1 (z.2.2.map enc))]) (λz=>1 -z.1) (0, .slice none 0 0, []) (.inl ⟨rfl,rfl,rfl⟩) (by simp) (by simp[isNilRow]) ?_;rintro⟨pos,v,l⟩ hz;simp only at hz;rcases hz with⟨rfl,rfl,rfl⟩|⟨rfl,rfl⟩
 ·have hrn:((r.toNat:Nat):Int)=r:=by omega
  have i1:InR .i32 (r -32):=by simp only[InR];omega
  have i2:InR .i32 (r -80):=by simp only[InR];omega
  simp[hsz,hdec,hrn,i1,i2, -Bool.forall_bool, -Bool.exists_bool];have hfo:∀l:List I32,l=([⟨r⟩,⟨r -32⟩,⟨r -80⟩]:List I32).filter (λv=>decide (0<=v.val/\low v.val=r))->l=EY ⟨c⟩:=λl hl=>by
   rw[hl,EY];simp only[<-hr]
  refine ak (X:=Value×List I32) [4,13,22] [13] 3 (λk z=>z.2=(([⟨r⟩,⟨r -32⟩,⟨r -80⟩]:List I32).take k).filter (λv=>decide (0<=v.val/\low v.val=r))/\z.2.length<=k) (λz=>[(3, .own 40 z.1)]) (λz=>[(40, .row z.1 DT 1 (z.2.map enc))]) (.slice none 0 0, []) (by simp) (by simp) (by omega) (by simp) (by simp) ⟨rfl,by simp⟩ (by simp) (by simp[isNilRow]) ?_ ?_
  ·rintro k ⟨v,l⟩ hk ⟨hl,hlen⟩;simp only at hl hlen;obtain⟨e,he,hee⟩:∃e:Int,e < 128/\([⟨r⟩,⟨r -32⟩,⟨r -80⟩]:List I32)[k]? =some ⟨e⟩/\([.v (.int .i32 r), .v (.int .i32 (r -32)), .v (.int .i32 (r -80))]:List D)[k]? =some (.v (.int .i32 e)):=by
    rcases(by omega:k=0\/k=1\/k=2)with rfl|rfl|rfl
    ·exact⟨r,by omega,rfl,rfl⟩
    ·exact⟨r -32,by omega,rfl,rfl⟩
    ·exact⟨r -80,by omega,rfl,rfl⟩
   obtain⟨he1,he2⟩:=hee;have he3:∀h,([.v (.int .i32 r), .v (.int .i32 (r -32)), .v (.int .i32 (r -80))]:List D)[k]'h= .v (.int .i32 e):=λh=>by
    obtain⟨_,h2⟩:=qmb.1 he2;exact h2
   have hki:(k:Int) < 3:=by omega
   have hstep:(([⟨r⟩,⟨r -32⟩,⟨r -80⟩]:List I32).take (k+1)).filter (λv=>decide (0<=v.val/\low v.val=r))=l++ ([⟨e⟩]:List I32).filter (λv=>decide (0<=v.val/\low v.val=r)):=by
    rw[qn9,he1,qnA,<-hl];rfl
   by_cases h0:0<=e
   ·obtain⟨q0,q1⟩:=Jm h0 he;have hPe:∃d:Int,0<=d/\d < 128/\ix e=ix d:=⟨e,h0,he,rfl⟩
    simp[hk,hki,he2,he3,h0,h1,JO h0 he,hPe, -Bool.forall_bool, -Bool.exists_bool];intro y hy;obtain rfl:=hy e h0 he rfl;rw[ZS q0 q1 l0 l1];refine⟨λhh=>⟨by omega,by omega,λv=>⟨v,l++ [⟨e⟩],⟨?_,by simp;omega⟩,rfl, .inl ⟨rfl,by simp⟩⟩⟩,λhh=>⟨v,l,⟨?_,by omega⟩,rfl, .inl ⟨rfl,rfl⟩⟩⟩
    ·simpa [h0,hh]using hstep.symm
    ·simpa [h0,hh]using hstep.symm
   ·simp[hk,hki,he2,he3,h0, -Bool.forall_bool, -Bool.exists_bool];refine⟨v,l,⟨?_,by omega⟩,rfl, .inl ⟨rfl,rfl⟩⟩;simpa [h0]using hstep.symm
  ·rintro⟨v,l⟩ ⟨hl,hlen⟩;simp only at hl hlen;have hl:=hfo l hl;simp[-Bool.forall_bool, -Bool.exists_bool];exact⟨1,v,l, .inr ⟨rfl,hl⟩,⟨rfl, .inl rfl, .inl ⟨rfl,rfl⟩⟩,rfl⟩
 ·simp[hsz, -Bool.forall_bool, -Bool.exists_bool];exact cp (EY ⟨c⟩) (iM (l:=EY ⟨c⟩) DT rfl) rfl
def J4(c:Int):Bool:=(decide (65<=c) && decide (c<=90))||(decide (97<=c) && decide (c<=122))||decide (c=95)
def qby(c:Int):Bool:=J4 c||(decide (48<=c) && decide (c<=57))||decide (c=45)
abbrev SP:Spc:=aY (a1 U8) (λ_=>True) (enc (X:=Bool)) λc y=>y=J4 c.val
def Bd:av kZ jY S (a1 U8) (λ_=>True) (enc (X:=Bool)) λc y=>y=J4 c.val:=by
 rintro⟨c⟩ -;by_cases h1:(65:Int)<=c <;> by_cases h2:c<=90 <;> by_cases h3:(97:Int)<=c <;> by_cases h4:c<=122 <;> by_cases h5:c=95 <;>
  simp[kZ,jY,J4,h1,h2,h3,h4,h5, -Bool.forall_bool, -Bool.exists_bool]
abbrev GS:Spc:=aY (a1 U8) (λ_=>True) (enc (X:=Bool)) λc y=>y=qby c.val
def Bc(h0:S eb=SP):av kY jX S (a1 U8) (λ_=>True) (enc (X:=Bool)) λc y=>y=qby c.val:=by
 rintro⟨c⟩ -;cases hb:J4 c <;> by_cases h1:(48:Int)<=c <;> by_cases h2:c<=57 <;> by_cases h3:c=45 <;>
  simp[kY,jX,qby,h0,hb,h1,h2,h3, -Bool.forall_bool, -Bool.exists_bool]
def Va(c:UInt8):P2 c=J4 (c.toNat:Int):=by
 unfold P2 J4;rw[qm8];simp;omega
def qdy(c:UInt8):qiK c=qby (c.toNat:Int):=by
 unfold qiK qby;rw[Va];cases J4 (c.toNat:Int)
 ·rw[qm8];simp;omega
 ·simp
theorem wx(h1:S eb=SP)(h2:S jk=GS):av ig gM S (a1 B) (λs=>BD s=true) (enc (X:=Bool)) λ_ y=>y=true:=by
 rintro s hs;have hs:BD s=true:=hs;unfold BD at hs;simp only[qmf,decide_eq_true_eq]at hs;obtain⟨⟨⟨q1,q2⟩,q3⟩,q4⟩:=hs;simp[ig,gM,h1,h2, -Bool.forall_bool, -Bool.exists_bool];have r1:(1:Int)<=(s.size:Int):=by omega
 have r2:(s.size:Int)<=32:=by omega
 have r3:(s.size:Int)<=9223372036854775807:=by omega
 have hsl:s.data.toList.length=s.size:=qmu;refineλ_=>⟨λ_ _=>⟨λ_=>⟨by omega,λc hc=>?_⟩,r2⟩,r1⟩
 have hc':s.data.toList[0]? =some c:=by rw[qmH];exact hc
 have hb:J4 (c.toNat:Int)=true:=by
  rw[<-Va];cases hl:s.data.toList with
  | nil=>rw[hl]at hc';cases hc'
  | cons d l=>
    rw[hl]at hc' q3;cases hc';exact q3
 refine⟨hb,λ_ _=>?_⟩;refine ak (X:=Unit) [0] [] s.size (λ_ _=>True) (λ_=>[]) (λ_=>[]) () (by simp) (by simp) (by omega) (by simp) (by simp) trivial (by simp) (by simp) ?_ ?_
 ·rintro k -hk -;obtain⟨d,hd⟩:=bL (show k < s.data.toList.length by omega);have hg:qby (d.toNat:Int)=true:=by rw[<-qdy];exact qmg.1 q4 d (qme hd)
  have hd':s.data[k]? =some d:=by rw[<-qmH];exact hd
  obtain⟨_,hgd⟩:=qmh.1 hd';simp[hk,hd',hgd,hg,h2, -Bool.forall_bool, -Bool.exists_bool]
 ·rintro - -;simp[-Bool.forall_bool, -Bool.exists_bool]
theorem ww(h1:S kQ=s_cpVal):av ic gL S (a1 B) (λs=>uW s=true) (enc (X:=Int)) λ_ y=>y=0:=by
 rintro s hs;have hs:uW s=true:=hs;unfold uW at hs;simp only[qmf,decide_eq_true_eq]at hs;obtain⟨q1,q2⟩:=hs;have ha:tE s=true:=by
  unfold tE;refine qmg.2 λc hc=>?_
  have:=qmg.1 q2 c hc;simp at this;simp;omega
 have r1:(s.size:Int)<=120:=by omega
 have r2:(s.size:Int)<=9223372036854775807:=by omega
 have r3:s.size<=1000:=by omega
 have r4:¬ (120:Int) < (s.size:Int):=by omega
 simp[ic,gL,h1,ha,r1,r2,r3,r4, -Bool.forall_bool, -Bool.exists_bool];intro b;refine aP (X:=Nat) [] [] (λp=>p<=s.size) (λp=>[(14, .bptr 14 b 0)]) (λp=>[(14, .iter b s p)]) (λp=>s.size -p) 0 (qmG _) (by simp) (by simp) ?_;rintro p hp;by_cases hlt:p < s.size
 ·obtain⟨c,hc,hc128,hdec⟩:=HD ha hlt;have hcm:=qmg.1 q2 c (qme hc);simp at hcm;have n1:¬ (c.toNat:Int)<=31:=by omega
  have n2:¬ (c.toNat:Int)=127:=by omega
  simp[hlt,hdec,n1,n2, -Bool.forall_bool, -Bool.exists_bool];exact⟨p+1,by omega, .inl rfl,by omega⟩
 ·have hpe:p=s.size:=by omega
  subst hpe;simp[-Bool.forall_bool, -Bool.exists_bool]
def PB(s:B):List B:=if s=⟨#[124,112,124]⟩then[⟨#[112]⟩]else if s=⟨#[124,112,124,113,124]⟩then[⟨#[112]⟩,⟨#[113]⟩]else if s=⟨#[124,113,124]⟩then[⟨#[113]⟩]else[]
abbrev Lt:Spc:=aY (a1 B) (λs=>s∈featS) (rN (Y:=List B) (Z:=Int)) λs y=>y=(PB s,0)
set_option maxHeartbeats 1000000 in
theorem KV(h1:S bP=Bm):vc S bK (nQ bH λr H'=>Fin (rN (Y:=List B) (Z:=Int)) (λy=>y=([⟨#[112]⟩],0)) r H') (cE ((a1 B).view (⟨#[124,112,124]⟩:B))) cw:=by
 have hv:uW ⟨#[124,112,124]⟩=true:=by decide
 have hsz:(⟨#[124,112,124]⟩:B).size=3:=rfl;have x1:((⟨#[124,112,124]⟩:B).extract 1 2)=⟨#[112]⟩:=by decide
 simp[bK,bH,h1,hv,hsz, -Bool.forall_bool, -Bool.exists_bool];refine⟨by simp[InR],?_⟩;refine aP (X:=Int×Int×Value×List B) [0] [] (λz=>z.1=1/\z.2.1=1/\z.2.2.2=([]:List B)\/z.1=1/\z.2.1=2/\z.2.2.2=([]:List B)\/z.1=3/\z.2.1=3/\z.2.2.2=([⟨#[112]⟩]:List B)) (λz=>[(5, .own 51 z.2.2.1),(6,enc z.1),(7,enc z.2.1)]) (λz=>[(51, .row z.2.2.1 ar 1 (z.2.2.2.map enc))]) (λz=>(3 -z.2.1).toNat) (1,1, .slice none 0 0, []) (by simp) (by simp) (by simp[isNilRow]) ?_;rintro⟨f,i,v,l⟩ hz;simp only at hz;rcases hz with⟨rfl,rfl,rfl⟩|⟨rfl,rfl,rfl⟩|⟨rfl,rfl,rfl⟩
 ·simp[hsz,x1, -Bool.forall_bool, -Bool.exists_bool];exact⟨by simp[InR],1,2,v, [],by simp,⟨⟨rfl,rfl,rfl⟩, .inl ⟨rfl,rfl⟩⟩,by omega⟩
 ·simp[hsz,x1, -Bool.forall_bool, -Bool.exists_bool];exactλv=>⟨by simp[InR],3,3,v, [⟨#[112]⟩],by simp,⟨⟨rfl,rfl,rfl⟩, .inl ⟨rfl,rfl⟩⟩,by omega⟩
 ·simp[hsz, -Bool.forall_bool, -Bool.exists_bool];refine aP (X:=Int) [5] [51] (λi=>i=1) (λi=>[(8,enc i)]) (λ_=>[]) (λi=>(3 -i).toNat) 1 (by simp) (by simp) (by simp) ?_;rintro i hi;subst hi;simp[-Bool.forall_bool, -Bool.exists_bool];exact iM (l:=([⟨#[112]⟩]:List B)) ar rfl
set_option maxHeartbeats 1000000 in
theorem FW(h1:S bP=Bm):vc S bK (nQ bH λr H'=>Fin (rN (Y:=List B) (Z:=Int)) (λy=>y=([⟨#[112]⟩,⟨#[113]⟩],0)) r H') (cE ((a1 B).view (⟨#[124,112,124,113,124]⟩:B))) cw:=by
 have hv:uW ⟨#[124,112,124,113,124]⟩=true:=by decide
 have hsz:(⟨#[124,112,124,113,124]⟩:B).size=5:=rfl;have x1:((⟨#[124,112,124,113,124]⟩:B).extract 1 2)=⟨#[112]⟩:=by decide
 have x3:((⟨#[124,112,124,113,124]⟩:B).extract 3 4)=⟨#[113]⟩:=by decide
 simp[bK,bH,h1,hv,hsz, -Bool.forall_bool, -Bool.exists_bool];refine⟨by simp[InR],?_⟩;refine aP (X:=Int×Int×Value×List B) [0] [] (λz=>z.1=1/\z.2.1=1/\z.2.2.2=([]:List B)\/z.1=1/\z.2.1=2/\z.2.2.2=([]:List B)\/z.1=3/\z.2.1=3/\z.2.2.2=([⟨#[112]⟩]:List B)\/z.1=3/\z.2.1=4/\z.2.2.2=([⟨#[112]⟩]:List B)\/z.1=5/\z.2.1=5/\z.2.2.2=([⟨#[112]⟩,⟨#[113]⟩]:List B)) (λz=>[(5, .own 51 z.2.2.1),(6,enc z.1),(7,enc z.2.1)]) (λz=>[(51, .row z.2.2.1 ar 1 (z.2.2.2.map enc))]) (λz=>(5 -z.2.1).toNat) (1,1, .slice none 0 0, []) (by simp) (by simp) (by simp[isNilRow]) ?_;rintro⟨f,i,v,l⟩ hz;simp only at hz;rcases hz with⟨rfl,rfl,rfl⟩|⟨rfl,rfl,rfl⟩|⟨rfl,rfl,rfl⟩|⟨rfl,rfl,rfl⟩|⟨rfl,rfl,rfl⟩
 ·simp[hsz,x1,x3, -Bool.forall_bool, -Bool.exists_bool];exact⟨by simp[InR],1,2,v, [],by simp,⟨⟨rfl,rfl,rfl⟩, .inl ⟨rfl,rfl⟩⟩,by omega⟩
 ·simp[hsz,x1,x3, -Bool.forall_bool, -Bool.exists_bool];exactλv=>⟨by simp[InR],3,3,v, [⟨#[112]⟩],by simp,⟨⟨rfl,rfl,rfl⟩, .inl ⟨rfl,rfl⟩⟩,by omega⟩
 ·simp[hsz,x1,x3, -Bool.forall_bool, -Bool.exists_bool];exact⟨by simp[InR],3,4,v, [⟨#[112]⟩],by simp,⟨⟨rfl,rfl,rfl⟩, .inl ⟨rfl,rfl⟩⟩,by omega⟩
 ·simp[hsz,x1,x3, -Bool.forall_bool, -Bool.exists_bool];exactλv=>⟨by simp[InR],5,5,v, [⟨#[112]⟩,⟨#[113]⟩],by simp,⟨⟨rfl,rfl,rfl⟩, .inl ⟨rfl,rfl⟩⟩,by omega⟩
 ·simp[hsz, -Bool.forall_bool, -Bool.exists_bool];refine aP (X:=Int) [5] [51] (λi=>i=1\/i=2) (λi=>[(8,enc i)]) (λ_=>[]) (λi=>(3 -i).toNat) 1 (by simp) (by simp) (by simp) ?_;rintro i hi;rcases hi with rfl|rfl
  ·simp[-Bool.forall_bool, -Bool.exists_bool];exact⟨by simp[InR],by decide,λ_=>by simp[InR]⟩
  ·simp[-Bool.forall_bool, -Bool.exists_bool];exact iM (l:=([⟨#[112]⟩,⟨#[113]⟩]:List B)) ar rfl
set_option maxHeartbeats 1000000 in
theorem KU(h1:S bP=Bm):vc S bK (nQ bH λr H'=>Fin (rN (Y:=List B) (Z:=Int)) (λy=>y=([⟨#[113]⟩],0)) r H') (cE ((a1 B).view (⟨#[124,113,124]⟩:B))) cw:=by
 have hv:uW ⟨#[124,113,124]⟩=true:=by decide
 have hsz:(⟨#[124,113,124]⟩:B).size=3:=rfl;have x1:((⟨#[124,113,124]⟩:B).extract 1 2)=⟨#[113]⟩:=by decide
 simp[bK,bH,h1,hv,hsz, -Bool.forall_bool, -Bool.exists_bool];refine⟨by simp[InR],?_⟩;refine aP (X:=Int×Int×Value×List B) [0] [] (λz=>z.1=1/\z.2.1=1/\z.2.2.2=([]:List B)\/z.1=1/\z.2.1=2/\z.2.2.2=([]:List B)\/z.1=3/\z.2.1=3/\z.2.2.2=([⟨#[113]⟩]:List B)) (λz=>[(5, .own 51 z.2.2.1),(6,enc z.1),(7,enc z.2.1)]) (λz=>[(51, .row z.2.2.1 ar 1 (z.2.2.2.map enc))]) (λz=>(3 -z.2.1).toNat) (1,1, .slice none 0 0, []) (by simp) (by simp) (by simp[isNilRow]) ?_;rintro⟨f,i,v,l⟩ hz;simp only at hz;rcases hz with⟨rfl,rfl,rfl⟩|⟨rfl,rfl,rfl⟩|⟨rfl,rfl,rfl⟩
 ·simp[hsz,x1, -Bool.forall_bool, -Bool.exists_bool];exact⟨by simp[InR],1,2,v, [],by simp,⟨⟨rfl,rfl,rfl⟩, .inl ⟨rfl,rfl⟩⟩,by omega⟩
 ·simp[hsz,x1, -Bool.forall_bool, -Bool.exists_bool];exactλv=>⟨by simp[InR],3,3,v, [⟨#[113]⟩],by simp,⟨⟨rfl,rfl,rfl⟩, .inl ⟨rfl,rfl⟩⟩,by omega⟩
 ·simp[hsz, -Bool.forall_bool, -Bool.exists_bool];refine aP (X:=Int) [5] [51] (λi=>i=1) (λi=>[(8,enc i)]) (λ_=>[]) (λi=>(3 -i).toNat) 1 (by simp) (by simp) (by simp) ?_;rintro i hi;subst hi;simp[-Bool.forall_bool, -Bool.exists_bool];exact iM (l:=([⟨#[113]⟩]:List B)) ar rfl
def CE(h1:S bP=Bm):av bK bH S (a1 B) (λs=>s∈featS) (rN (Y:=List B) (Z:=Int)) λs y=>y=(PB s,0):=by
 rintro s hs;have hs:s∈featS:=hs;simp only[featS,qmw,qmM,or_false]at hs;rcases hs with rfl|rfl|rfl|rfl
 ·have hv:uW ⟨#[124]⟩=true:=by decide
  have e:PB ⟨#[124]⟩=[]:=by decide
  simp[bK,bH,h1,hv,e, -Bool.forall_bool, -Bool.exists_bool]
 ·exact KV h1
 ·exact FW h1
 ·exact KU h1
abbrev SJ:Spc:=aY (a2 (List B) B) (λ_=>True) (enc (X:=Bool)) λx y=>y=gA x.1 x.2
theorem xu:av iT iF S (a2 (List B) B) (λ_=>True) (enc (X:=Bool)) λx y=>y=gA x.1 x.2:=by
 rintro⟨l,s⟩ -;simp[iT,iF, -Bool.forall_bool, -Bool.exists_bool];intro hl;refine ak (X:=Unit) [1,7] [] l.length (λk _=>∀x∈l.take k,decide (x=s)=false) (λ_=>[]) (λ_=>[]) () (by simp) (by simp) (by omega) (by simp) (by simp) (by simp) (by simp) (by simp) ?_ ?_
 ·intro k _ hk hP;obtain⟨x,hx⟩:=bL hk;obtain⟨_,hgx⟩:=qmb.1 hx;simp[hk,hx,hgx, -Bool.forall_bool, -Bool.exists_bool];refine⟨λh=>?_,λh=>?_⟩
  ·have:gA l s=true:=qmU.2 ⟨x,qme hx,by simp[h]⟩;exact this
  ·rw[aK hx];intro z hz;rcases qml.1 hz with hz|hz
   ·have:=hP z hz;simpa using this
   ·simp at hz;subst hz;exact h
 ·intro _ hP;rw[qmJ]at hP;simp[-Bool.forall_bool, -Bool.exists_bool];have:gA l s=false:=by
   rw[gA,List.any_eq_false];intro x hx;rw[hP x hx];simp
  exact this
def FZ(h1:S nf=Lt)(h2:S jw=SJ):av pB oL S (a2 B B) (λx=>∃b,Gj x.1 x.2=some b) (enc (X:=Bool)) λx y=>Gj x.1 x.2=some y:=by
 rintro⟨s,f⟩ ⟨b,hb⟩;have hb:Gj s f=some b:=hb;have hb0:=hb;unfold Gj at hb;split at hb
 rotate_left
 ·cases hb
 rename_i hc;obtain⟨c1,c2⟩:=hc;obtain⟨z,hz,hze⟩:=qmU.1 c1;obtain rfl:z=s:=of_decide_eq_true hze;have e:gA (PB z) f=b:=by
  have hb:=qmk hb;rw[<-hb];simp only[featS,qmw,qmM,or_false]at hz;rcases hz with rfl|rfl|rfl|rfl <;> rcases c2 with rfl|rfl <;> decide
 simp[pB,oL,h1,h2,hz,e, -Bool.forall_bool, -Bool.exists_bool];exact hb0
end Go.Gv
namespace Go.Gv
variable {dq:Prop}
section
variable {P:Program}{im:List Nat}{E:tP}{S:Nat->Spc}
end
end Go.Gv
