/- A part of the framework and of the walks: V58 W146 W159 W160 T25. -/
import Derived.Test.YtfbleenmepoodaaGreatDoorGa31
set_option linter.unusedSimpArgs false
set_option linter.unusedVariables false
set_option linter.unusedSectionVars false
set_option linter.defProp false
set_option maxRecDepth 100000
namespace Go.Gv
open Go.Proofs
def Tm:∀w∈um,w∈wordsA:=by decide
def Wz:∀w∈DT,w∈wordsA:=by decide
def UO:∀w∈FsetL,w∈wordsA:=by decide
def TF:∀w∈ValsI,w∈valsA:=by decide
def Sb:dF∈wordsA:=by decide
def VB{toks:List (List B)}(h:∀r∈toks,zg r)(i k:Int):ln toks i k∈wordsA:=by
 unfold ln;split
 ·exact Sb
 ·split
  ·rename_i r hr;obtain⟨w,t,f,hw,ht,hf,rfl⟩:=h r (qjD hr);split
   ·rename_i s hs;have hm:=qjD hs;simp only[qjW,qkm,or_false]at hm;rcases hm with rfl|rfl|rfl
    ·exact Tm _ hw
    ·exact Wz _ ht
    ·exact UO _ hf
   ·exact Sb
  ·exact Sb
def Ps:di dC vV=2:=by decide
def PR{toks:List (List B)}(h:∀r∈toks,zg r){i:Int}(h0:0<=i)(h1:i < toks.length):∃f∈FsetL,ln toks i 2=f:=by
 obtain⟨j,rfl⟩:∃j:Nat,i=(j:Int):=⟨i.toNat,by omega⟩
 obtain⟨r,hr⟩:∃r,toks[j]? =some r:=⟨toks[j]'(by omega),qjC _⟩
 obtain⟨w,t,f,hw,ht,hf,rfl⟩:=h r (qjD hr);refine⟨f,hf,?_⟩;unfold ln;rw[if_neg (by omega),show((j:Int)).toNat=j from rfl,hr];rfl
structure K8 (E:Ic):Prop where
 c:OkCorp E.c
 t0:0<=E.tok
 t1:E.tok < E.c.toks.length
 l:E.bd.length=E.lb.length
theorem qba{E:Ic}(hE:K8 E){n:Nat}{x:Cond}(h:GA E.lb x):∃y,kp E (n+1) x=some y:=by
 cases h with
 | val nm v f h1 h2=>
   obtain⟨y,hy⟩:=Db (TF v h2) (VB hE.c.2.2.2 E.tok (kI E.c.attrs nm)) f;refine⟨y,?_⟩;unfold kp;rw[if_neg (show ¬ (2:Int)=1 by decide),if_pos rfl];exact hy
 | feat v h=>
   obtain⟨f,hf,e⟩:=PR hE.c.2.2.2 hE.t0 hE.t1;have hv:v=⟨#[112]⟩\/v=⟨#[113]⟩:=by simpa [FeatL]using h
   have hfs:(featS.any λz=>decide (z=f))=true:=qko.2 ⟨f,hf,decide_eq_true rfl⟩;refine⟨featS.any (λ_=>false)||f.data.toList.any λc=>decide (v.data.toList=[c]),?_⟩;unfold kp;rw[if_neg (show ¬ (3:Int)=1 by decide),if_neg (show ¬ (3:Int)=2 by decide),if_pos rfl];simp only[hE.c.1,Ps,e];unfold EA;rw[if_pos ⟨hfs,hv⟩];simp
 | same nm l a h1 h2 h3=>
   obtain⟨k,hk⟩:∃k:Nat,ko E.lb (λz=>decide (z=l))=(k:Int):=by
    rcases Dl (λz=>decide (z=l)) E.lb with⟨e,h⟩|⟨k,_,e,_⟩
    ·have:=h l h2;simp at this
    ·exact⟨k,e⟩
   have hr:=yx (λz=>decide (z=l)) E.lb;obtain⟨o,ho⟩:∃o,E.bd[k]? =some o:=⟨E.bd[k]'(by have:=hE.l;omega),qjC _⟩
   refine⟨decide (0<=o) && decide (ln E.c.toks E.tok (di E.c.attrs nm)=ln E.c.toks o (di E.c.attrs a)),?_⟩;unfold kp;rw[if_neg (show ¬ (4:Int)=1 by decide),if_neg (show ¬ (4:Int)=2 by decide),if_neg (show ¬ (4:Int)=3 by decide),if_pos rfl];simp only[hk];rw[if_neg (by omega),show((k:Int)).toNat=k from rfl,ho]
 | reg nm h=>exact⟨_,by unfold kp;rw[if_neg (show ¬ (5:Int)=1 by decide),if_neg (show ¬ (5:Int)=2 by decide),if_neg (show ¬ (5:Int)=3 by decide),if_neg (show ¬ (5:Int)=4 by decide),if_pos rfl]⟩
 | regk nm v h1 h2=>exact⟨_,by unfold kp;rw[if_neg (show ¬ (5:Int)=1 by decide),if_neg (show ¬ (5:Int)=2 by decide),if_neg (show ¬ (5:Int)=3 by decide),if_neg (show ¬ (5:Int)=4 by decide),if_pos rfl]⟩
def Xx{E:Ic}{n:Nat}{k:Cond}{y:Bool}(h:kp E n k=some y):kp E (n+1) ⟨6,E0,E0,E0,E0,false, [k]⟩=some (!y):=by
 unfold kp;rw[if_neg (show ¬ (6:Int)=1 by decide),if_neg (show ¬ (6:Int)=2 by decide),if_neg (show ¬ (6:Int)=3 by decide),if_neg (show ¬ (6:Int)=4 by decide),if_neg (show ¬ (6:Int)=5 by decide),if_pos rfl];simp only[h];rfl
def Xy{E:Ic}{n:Nat}{a b:Cond}{p q:Bool}(h1:kp E n a=some p)(h2:kp E n b=some q):kp E (n+1) ⟨7,E0,E0,E0,E0,false, [a,b]⟩=some (p && q):=by
 unfold kp;rw[if_neg (show ¬ (7:Int)=1 by decide),if_neg (show ¬ (7:Int)=2 by decide),if_neg (show ¬ (7:Int)=3 by decide),if_neg (show ¬ (7:Int)=4 by decide),if_neg (show ¬ (7:Int)=5 by decide),if_neg (show ¬ (7:Int)=6 by decide),if_pos (by simp[h1,h2]),if_pos rfl];simp[h1,h2]
def qa9{E:Ic}{n:Nat}{a b:Cond}{p q:Bool}(h1:kp E n a=some p)(h2:kp E n b=some q):kp E (n+1) ⟨8,E0,E0,E0,E0,false, [a,b]⟩=some (p||q):=by
 unfold kp;rw[if_neg (show ¬ (8:Int)=1 by decide),if_neg (show ¬ (8:Int)=2 by decide),if_neg (show ¬ (8:Int)=3 by decide),if_neg (show ¬ (8:Int)=4 by decide),if_neg (show ¬ (8:Int)=5 by decide),if_neg (show ¬ (8:Int)=6 by decide),if_pos (by simp[h1,h2]),if_neg (show ¬ (8:Int)=7 by decide)];simp[h1,h2]
def Nm{E:Ic}(hE:K8 E):∀ {n m:Nat} {x:Cond},GI E.lb n x->n < m->∃y,kp E m x=some y
 | _,m+1,_, .atom n c h,_=>qba hE h
 | _,m+1,_, .not n k h,hm=>by
   obtain⟨y,hy⟩:=Nm (m:=m) hE h (by omega);exact⟨_,Xx hy⟩
 | _,m+1,_, .two n op a b ho h1 h2,hm=>by
   obtain⟨p,hp⟩:=Nm (m:=m) hE h1 (by omega);obtain⟨q,hq⟩:=Nm (m:=m) hE h2 (by omega);rcases ho with rfl|rfl
   ·exact⟨_,Xy hp hq⟩
   ·exact⟨_,qa9 hp hq⟩
def Wb{E:Ic}(hE:K8 E){n m:Nat}{x:Cond}(h:GC E.lb n x)(hm:n < m):∃y,kp E m x=some y:=by
 obtain⟨m,rfl⟩:∃k,m=k+1:=⟨m -1,by omega⟩
 cases h with
 | any=>exact⟨true,by unfold kp;rw[if_pos rfl]⟩
 | top v f h=>
   have hv:v∈valsA:=(by decide:∀w∈ValsT,w∈valsA) v h;obtain⟨y,hy⟩:=Db hv (VB hE.c.2.2.2 E.tok (kI E.c.attrs E0)) f;refine⟨y,?_⟩;unfold kp;rw[if_neg (show ¬ (2:Int)=1 by decide),if_pos rfl];exact hy
 | inner c h=>exact Nm hE h hm
def ZG:Bool:=Attr2.all λnm=>ValsI.all λv=>io dC [] ⟨2,nm,E0,v,E0,false, []⟩ && io dC [] ⟨2,nm,E0,v,E0,true, []⟩
def Wt:ZG=true:=by kernel_rfl
def ZL:Bool:=ValsT.all λv=>io dC [] ⟨2,E0,E0,v,E0,false, []⟩ && io dC [] ⟨2,E0,E0,v,E0,true, []⟩
def PY:ZL=true:=by kernel_rfl
def XD:Bool:=FeatL.all λv=>io dC [] ⟨3,vV,E0,v,E0,false, []⟩
def UY:XD=true:=by kernel_rfl
def Z7:Bool:=Types.all λn=>io dC [] ⟨5,n,E0,E0,E0,false, []⟩ && NumL.all λv=>io dC [] ⟨5,n,VE,v,E0,false, []⟩
def QP:Z7=true:=by kernel_rfl
def qfJ:Bool:=Attr2.all λn=>decide (0<=di dC n)
def VZ:qfJ=true:=by kernel_rfl
def C8{lb:List B}{nm v:B}{f:Bool} :io dC lb ⟨2,nm,E0,v,E0,f, []⟩=io dC [] ⟨2,nm,E0,v,E0,f, []⟩:=rfl
def OH{lb:List B}{v:B} :io dC lb ⟨3,vV,E0,v,E0,false, []⟩=io dC [] ⟨3,vV,E0,v,E0,false, []⟩:=rfl
def JL{lb:List B}{n a v:B} :io dC lb ⟨5,n,a,v,E0,false, []⟩=io dC [] ⟨5,n,a,v,E0,false, []⟩:=rfl
theorem Nb{lb:List B}{x:Cond}(h:GA lb x):io dC lb x=true:=by
 cases h with
 | val nm v f h1 h2=>
   rw[C8];have h:=qjF.1 (qjF.1 Wt nm h1) v h2;simp only[qjE]at h;cases f
   ·exact h.1
   ·exact h.2
 | feat v h=>
   rw[OH];exact qjF.1 UY v h
 | same nm l a h1 h2 h3=>
   have e1:=qjF.1 VZ nm h1;have e2:=qjF.1 VZ a h3;have e3:(lb.any λz=>decide (z=l))=true:=qko.2 ⟨l,h2,decide_eq_true rfl⟩;have s1:MT ⟨4,nm,a,E0,l,false, []⟩=true:=by
    unfold MT;rw[if_neg (show ¬ (4:Int)=1 by decide),if_neg (show ¬ (4:Int)=2 by decide),if_neg (show ¬ (4:Int)=3 by decide),if_pos rfl];rfl
   have s2:Ut dC ⟨4,nm,a,E0,l,false, []⟩=true:=by
    unfold Ut;rw[if_neg (show ¬ (4:Int)=2 by decide),if_neg (show ¬ (4:Int)=3 by decide),if_pos rfl];exact decide_eq_true ⟨of_decide_eq_true e1,of_decide_eq_true e2⟩
   have s3:qbT dC lb ⟨4,nm,a,E0,l,false, []⟩=true:=by
    unfold qbT;rw[if_neg (show ¬ (4:Int)=2 by decide),if_neg (show ¬ (4:Int)=3 by decide),if_pos rfl];exact e3
   unfold io;rw[s1,s2,s3];rfl
 | reg nm h=>
   rw[JL];have h:=qjF.1 QP nm h;simp only[qjE]at h;exact h.1
 | regk nm v h1 h2=>
   rw[JL];have h:=qjF.1 QP nm h1;simp only[qjE]at h;exact qjF.1 h.2 v h2
def ww{a:List Attr}{lb:List B}{m:Nat}{x:Cond}(h:io a lb x=true)(hk:x.kids=[]):mE a lb (m+1) x=true:=by
 show(io a lb x && x.kids.all (mE a lb m))=true;rw[h,hk];rfl
def OJ{lb:List B}{m:Nat}{k:Cond}(h:mE dC lb m k=true):mE dC lb (m+1) ⟨6,E0,E0,E0,E0,false, [k]⟩=true:=by
 have e:io dC lb ⟨6,E0,E0,E0,E0,false, [k]⟩=true:=rfl;show(io dC lb ⟨6,E0,E0,E0,E0,false, [k]⟩ && [k].all (mE dC lb m))=true;rw[e];simp[h]
def OI{lb:List B}{m:Nat}{op:Int}{a b:Cond}(ho:op=7\/op=8)(h1:mE dC lb m a=true)(h2:mE dC lb m b=true):mE dC lb (m+1) ⟨op,E0,E0,E0,E0,false, [a,b]⟩=true:=by
 have e:io dC lb ⟨op,E0,E0,E0,E0,false, [a,b]⟩=true:=by rcases ho with rfl|rfl <;> rfl
 show(io dC lb ⟨op,E0,E0,E0,E0,false, [a,b]⟩ && [a,b].all (mE dC lb m))=true;rw[e];simp[h1,h2]
def yq{lb:List B} :∀ {n m:Nat} {x:Cond},GI lb n x->n < m->mE dC lb m x=true
 | _,m+1,_, .atom n c h,_=>ww (Nb h) (Ht h)
 | _,m+1,_, .not n k h,hm=>OJ (yq h (by omega))
 | _,m+1,_, .two n op a b ho h1 h2,hm=>OI ho (yq h1 (by omega)) (yq h2 (by omega))
def Ur{k:Cond}{op:Int} :cY ⟨op,E0,E0,E0,E0,false, [k]⟩=cY k+1:=by rw[cY,dy,dy]
def Uq{a b:Cond}{op:Int} :cY ⟨op,E0,E0,E0,E0,false, [a,b]⟩=cY a+cY b+1:=by rw[cY,dy,dy,dy];omega
def Va{k:Cond}{op:Int} :bM ⟨op,E0,E0,E0,E0,false, [k]⟩=bM k+1:=by rw[bM,ge,ge];omega
def U9{a b:Cond}{op:Int} :bM ⟨op,E0,E0,E0,E0,false, [a,b]⟩=max (bM a) (bM b) +1:=by rw[bM,ge,ge,ge];omega
def Di{x:Cond}(h:x.kids=[]):cY x=1/\bM x=1:=by
 rw[oW,uE,h];exact⟨rfl,rfl⟩
def Hq{lb:List B} :∀ {n:Nat} {x:Cond},GI lb n x->cY x+1<=2^ (n+1)/\bM x<=n+1
 | _,_, .atom n c h=>by
   have:=Di (Ht h);have h2:2^1<=2^ (n+1):=Nat.pow_le_pow_right (by decide) (by omega);omega
 | _,_, .not n k h=>by
   have:=Hq h;rw[Ur,Va,Nat.pow_succ];omega
 | _,_, .two n op a b ho h1 h2=>by
   have:=Hq h1;have:=Hq h2;rw[Uq,U9,Nat.pow_succ];omega
def RJ{lb:List B}{n:Nat}{x:Cond}(h:GC lb n x):cY x+1<=2^ (n+1)/\bM x<=n+1:=by
 have h2:2^1<=2^ (n+1):=Nat.pow_le_pow_right (by decide) (by omega);cases h with
 | any=>have:=Di (x:=⟨1,E0,E0,E0,E0,false, []⟩) rfl;omega
 | top v f h=>have:=Di (x:=⟨2,E0,E0,v,E0,f, []⟩) rfl;omega
 | inner c h=>exact Hq h
def Q2{lb:List B}{n m:Nat}{x:Cond}(h:GC lb n x)(hm:n < m):mE dC lb m x=true:=by
 obtain⟨m,rfl⟩:∃k,m=k+1:=⟨m -1,by omega⟩
 cases h with
 | any=>exact ww rfl rfl
 | top v f h=>
   refine ww ?_ rfl;have h:=qjF.1 PY v h;simp only[qjE]at h;rw[C8];cases f
   ·exact h.1
   ·exact h.2
 | inner c h=>exact yq h hm
def Xg{a:List Attr}{lb:List B}{x:Cond}(h1:cY x<=60)(h2:bM x<=20)(h3:mE a lb 20 x=true):Pz a lb x=true:=by
 unfold Pz;rw[decide_eq_true ⟨h1,h2⟩,h3];rfl
def Q1{lb:List B}{n:Nat}{x:Cond}(h:GC lb n x)(hn:n<=4):Pz dC lb x=true:=by
 obtain⟨h1,h2⟩:=RJ h;have h3:2^ (n+1)<=2^5:=Nat.pow_le_pow_right (by decide) (by omega);exact Xg (by omega) (by omega) (Q2 h (by omega))
open Cod (enc dec)
variable {S S0:Nat->Spc}
def gW(c:Int):B:=⟨#[c.toNat.toUInt8]⟩
abbrev s_cpFold1:Spc:=aZ (a1 B) (λs=>∃c:Int,0<=c/\c < 128/\s=gW c) (enc (X:=B)) λs y=>∀c:Int,0<=c->c < 128->s=gW c->y=gW (low c)
def HH{c:Int}(h0:0<=c)(h1:c < 128):Utf8.encode c=gW c:=by
 unfold Utf8.encode gW;have e:c.toNat < 128:=by omega
 have h:Utf8.valid c=true:=by
  unfold Utf8.valid;have:c < 55296:=by omega
  simp[h0,this]
 simp[e,h]
def Hd{c:Int}(h0:0<=c)(h1:c < 128):0<=low c/\low c < 128:=by unfold low;split <;> omega
def M9{c d:Int}(hc:0<=c)(hc':c < 128)(hd:0<=d)(hd':d < 128)(h:gW c=gW d):c=d:=by
 have:c.toNat.toUInt8=d.toNat.toUInt8:=by
  have:=congrArg (λb:B=>b.data.toList.head?) h;simpa [gW]using this
 have:=congrArg UInt8.toNat this;have e1:c.toNat.toUInt8.toNat=c.toNat % 256:=qk1 ..;have e2:d.toNat.toUInt8.toNat=d.toNat % 256:=qk1 ..;omega
def Xd{c d:Int}(hc:0<=c)(hc':c < 128)(hd:0<=d)(hd':d < 128):(gW c=gW d)=(c=d):=propext ⟨M9 hc hc' hd hd',λh=>by rw[h]⟩
theorem Lb(h1:S kM=s_cpFold1):ax jR jj S (a1 I32) (λc=>0<=c.val/\c.val < 128) (enc (X:=List I32)) λc y=>y=Ll true c:=by
 rintro⟨c⟩ ⟨c0,c1⟩;have c0:0<=c:=c0;have c1:c < 128:=c1;obtain⟨l0,l1⟩:=Hd c0 c1;have hP:∃d:Int,0<=d/\d < 128/\gW c=gW d:=⟨c,c0,c1,rfl⟩
 simp[jR,jj,h1,HH c0 c1,hP, -Bool.forall_bool, -Bool.exists_bool];intro y hy b;obtain rfl:=hy c c0 c1 rfl;clear hy;obtain⟨r,hr⟩:∃r,r=low c:=⟨_,rfl⟩
 rw[<-hr]at l0 l1 ⊢;have hsz:(gW r).size=1:=rfl;have hdec:Utf8.decode (gW r) 0=(r.toNat,1):=by
  have h0:0 < (gW r).size:=by rw[hsz];omega
  have e1:((gW r)[0]'h0).toNat=r.toNat % 256:=qk1 ..;have e2:((gW r)[0]'h0).toNat=r.toNat:=by omega
  rw[Go.decode_ascii (gW r) 0 h0 (by omega),e2]
 refine aL (X:=Nat×Value×List I32) [4,13] [] (λz=>z.1=0/\z.2.1= .slice none 0 0/\z.2.2=[]\/z.1=1/\z.2.2=Dn ⟨c⟩) (λz=>[(3, .own 40 z.2.1)]) (λz=>[(13, .iter b (gW r) z.1),(40, .row z.2.1 Ck 1 (z.2.2.map enc))]) (λz=>1 -z.1) (0, .slice none 0 0, []) (.inl ⟨rfl,rfl,rfl⟩) (by simp) (by simp[isNilRow]) ?_;rintro⟨pos,v,l⟩ hz;simp only at hz;rcases hz with⟨rfl,rfl,rfl⟩|⟨rfl,rfl⟩
 ·have hrn:((r.toNat:Nat):Int)=r:=by omega
  have i1:InR .i32 (r -32):=by simp only[InR];omega
  have i2:InR .i32 (r -80):=by simp only[InR];omega
  simp[hsz,hdec,hrn,i1,i2, -Bool.forall_bool, -Bool.exists_bool];have hfo:∀l:List I32,l=([⟨r⟩,⟨r -32⟩,⟨r -80⟩]:List I32).filter (λv=>decide (0<=v.val/\low v.val=r))->l=Dn ⟨c⟩:=λl hl=>by
   rw[hl,Dn];simp only[<-hr]
  refine am (X:=Value×List I32) [4,13,22] [13] 3 (λk z=>z.2=(([⟨r⟩,⟨r -32⟩,⟨r -80⟩]:List I32).take k).filter (λv=>decide (0<=v.val/\low v.val=r))/\z.2.length<=k) (λz=>[(3, .own 40 z.1)]) (λz=>[(40, .row z.1 Ck 1 (z.2.map enc))]) (.slice none 0 0, []) (by simp) (by simp) (by omega) (by simp) (by simp) ⟨rfl,by simp⟩ (by simp) (by simp[isNilRow]) ?_ ?_
  ·rintro k ⟨v,l⟩ hk ⟨hl,hlen⟩;simp only at hl hlen;obtain⟨e,he,hee⟩:∃e:Int,e < 128/\([⟨r⟩,⟨r -32⟩,⟨r -80⟩]:List I32)[k]? =some ⟨e⟩/\([.v (.int .i32 r), .v (.int .i32 (r -32)), .v (.int .i32 (r -80))]:List D)[k]? =some (.v (.int .i32 e)):=by
    rcases(by omega:k=0\/k=1\/k=2)with rfl|rfl|rfl
    ·exact⟨r,by omega,rfl,rfl⟩
    ·exact⟨r -32,by omega,rfl,rfl⟩
    ·exact⟨r -80,by omega,rfl,rfl⟩
   obtain⟨he1,he2⟩:=hee;have he3:∀h,([.v (.int .i32 r), .v (.int .i32 (r -32)), .v (.int .i32 (r -80))]:List D)[k]'h= .v (.int .i32 e):=λh=>by
    obtain⟨_,h2⟩:=qjA.1 he2;exact h2
   have hki:(k:Int) < 3:=by omega
   have hstep:(([⟨r⟩,⟨r -32⟩,⟨r -80⟩]:List I32).take (k+1)).filter (λv=>decide (0<=v.val/\low v.val=r))=l++ ([⟨e⟩]:List I32).filter (λv=>decide (0<=v.val/\low v.val=r)):=by
    rw[qlx,he1,qkZ,<-hl];rfl
   by_cases h0:0<=e
   ·obtain⟨q0,q1⟩:=Hd h0 he;have hPe:∃d:Int,0<=d/\d < 128/\gW e=gW d:=⟨e,h0,he,rfl⟩
    simp[hk,hki,he2,he3,h0,h1,HH h0 he,hPe, -Bool.forall_bool, -Bool.exists_bool];intro y hy;obtain rfl:=hy e h0 he rfl;rw[Xd q0 q1 l0 l1];refine⟨λhh=>⟨by omega,by omega,λv=>⟨v,l++ [⟨e⟩],⟨?_,by simp;omega⟩,rfl, .inl ⟨rfl,by simp⟩⟩⟩,λhh=>⟨v,l,⟨?_,by omega⟩,rfl, .inl ⟨rfl,rfl⟩⟩⟩
    ·simpa [h0,hh]using hstep.symm
    ·simpa [h0,hh]using hstep.symm
   ·simp[hk,hki,he2,he3,h0, -Bool.forall_bool, -Bool.exists_bool];refine⟨v,l,⟨?_,by omega⟩,rfl, .inl ⟨rfl,rfl⟩⟩;simpa [h0]using hstep.symm
  ·rintro⟨v,l⟩ ⟨hl,hlen⟩;simp only at hl hlen;have hl:=hfo l hl;simp[-Bool.forall_bool, -Bool.exists_bool];exact⟨1,v,l, .inr ⟨rfl,hl⟩,⟨rfl, .inl rfl, .inl ⟨rfl,rfl⟩⟩,rfl⟩
 ·simp[hsz, -Bool.forall_bool, -Bool.exists_bool];exact dm (Dn ⟨c⟩) (jD (l:=Dn ⟨c⟩) Ck rfl) rfl
def HU(c:Int):Bool:=(decide (65<=c) && decide (c<=90))||(decide (97<=c) && decide (c<=122))||decide (c=95)
def Zc(c:Int):Bool:=HU c||(decide (48<=c) && decide (c<=57))||decide (c=45)
abbrev QC:Spc:=aZ (a1 U8) (λ_=>True) (enc (X:=Bool)) λc y=>y=HU c.val
def zK:ax jZ jr S (a1 U8) (λ_=>True) (enc (X:=Bool)) λc y=>y=HU c.val:=by
 rintro⟨c⟩ -;by_cases h1:(65:Int)<=c <;> by_cases h2:c<=90 <;> by_cases h3:(97:Int)<=c <;> by_cases h4:c<=122 <;> by_cases h5:c=95 <;>
  simp[jZ,jr,HU,h1,h2,h3,h4,h5, -Bool.forall_bool, -Bool.exists_bool]
abbrev E7:Spc:=aZ (a1 U8) (λ_=>True) (enc (X:=Bool)) λc y=>y=Zc c.val
def zJ(h0:S dP=QC):ax jY jq S (a1 U8) (λ_=>True) (enc (X:=Bool)) λc y=>y=Zc c.val:=by
 rintro⟨c⟩ -;cases hb:HU c <;> by_cases h1:(48:Int)<=c <;> by_cases h2:c<=57 <;> by_cases h3:c=45 <;>
  simp[jY,jq,Zc,h0,hb,h1,h2,h3, -Bool.forall_bool, -Bool.exists_bool]
def Sy(c:UInt8):NP c=HU (c.toNat:Int):=by
 unfold NP HU;rw[qkx];simp;omega
def qbe(c:UInt8):qgf c=Zc (c.toNat:Int):=by
 unfold qgf Zc;rw[Sy];cases HU (c.toNat:Int)
 ·rw[qkx];simp;omega
 ·simp
theorem uW(h1:S dP=QC)(h2:S iH=E7):ax gN gu S (a1 B) (λs=>Ae s=true) (enc (X:=Bool)) λ_ y=>y=true:=by
 rintro s hs;have hs:Ae s=true:=hs;unfold Ae at hs;simp only[qjE,decide_eq_true_eq]at hs;obtain⟨⟨⟨q1,q2⟩,q3⟩,q4⟩:=hs;simp[gN,gu,h1,h2, -Bool.forall_bool, -Bool.exists_bool];have r1:(1:Int)<=(s.size:Int):=by omega
 have r2:(s.size:Int)<=32:=by omega
 have r3:(s.size:Int)<=9223372036854775807:=by omega
 have hsl:s.data.toList.length=s.size:=qjT;refineλ_=>⟨λ_ _=>⟨λ_=>⟨by omega,λc hc=>?_⟩,r2⟩,r1⟩
 have hc':s.data.toList[0]? =some c:=by rw[qj6];exact hc
 have hb:HU (c.toNat:Int)=true:=by
  rw[<-Sy];cases hl:s.data.toList with
  | nil=>rw[hl]at hc';cases hc'
  | cons d l=>
    rw[hl]at hc' q3;cases hc';exact q3
 refine⟨hb,λ_ _=>?_⟩;refine am (X:=Unit) [0] [] s.size (λ_ _=>True) (λ_=>[]) (λ_=>[]) () (by simp) (by simp) (by omega) (by simp) (by simp) trivial (by simp) (by simp) ?_ ?_
 ·rintro k -hk -;obtain⟨d,hd⟩:=cX (show k < s.data.toList.length by omega);have hg:Zc (d.toNat:Int)=true:=by rw[<-qbe];exact qjF.1 q4 d (qjD hd)
  have hd':s.data[k]? =some d:=by rw[<-qj6];exact hd
  obtain⟨_,hgd⟩:=qjG.1 hd';simp[hk,hd',hgd,hg,h2, -Bool.forall_bool, -Bool.exists_bool]
 ·rintro - -;simp[-Bool.forall_bool, -Bool.exists_bool]
theorem uV(h1:S jQ=s_cpVal):ax gM gp S (a1 B) (λs=>tH s=true) (enc (X:=Int)) λ_ y=>y=0:=by
 rintro s hs;have hs:tH s=true:=hs;unfold tH at hs;simp only[qjE,decide_eq_true_eq]at hs;obtain⟨q1,q2⟩:=hs;have ha:sd s=true:=by
  unfold sd;refine qjF.2 λc hc=>?_
  have:=qjF.1 q2 c hc;simp at this;simp;omega
 have r1:(s.size:Int)<=120:=by omega
 have r2:(s.size:Int)<=9223372036854775807:=by omega
 have r3:s.size<=1000:=by omega
 have r4:¬ (120:Int) < (s.size:Int):=by omega
 simp[gM,gp,h1,ha,r1,r2,r3,r4, -Bool.forall_bool, -Bool.exists_bool];intro b;refine aL (X:=Nat) [] [] (λp=>p<=s.size) (λp=>[(14, .bptr 14 b 0)]) (λp=>[(14, .iter b s p)]) (λp=>s.size -p) 0 (qj5 _) (by simp) (by simp) ?_;rintro p hp;by_cases hlt:p < s.size
 ·obtain⟨c,hc,hc128,hdec⟩:=FL ha hlt;have hcm:=qjF.1 q2 c (qjD hc);simp at hcm;have n1:¬ (c.toNat:Int)<=31:=by omega
  have n2:¬ (c.toNat:Int)=127:=by omega
  simp[hlt,hdec,n1,n2, -Bool.forall_bool, -Bool.exists_bool];exact⟨p+1,by omega, .inl rfl,by omega⟩
 ·have hpe:p=s.size:=by omega
  subst hpe;simp[-Bool.forall_bool, -Bool.exists_bool]
def Ns(s:B):List B:=if s=⟨#[124,112,124]⟩then[⟨#[112]⟩]else if s=⟨#[124,112,124,113,124]⟩then[⟨#[112]⟩,⟨#[113]⟩]else if s=⟨#[124,113,124]⟩then[⟨#[113]⟩]else[]
abbrev Jp:Spc:=aZ (a1 B) (λs=>s∈featS) (sj (Y:=List B) (Z:=Int)) λs y=>y=(Ns s,0)
set_option maxHeartbeats 1000000 in
theorem IL(h1:S bH=zS):vc S bD (ra bA λr H'=>Fin (sj (Y:=List B) (Z:=Int)) (λy=>y=([⟨#[112]⟩],0)) r H') (cR ((a1 B).view (⟨#[124,112,124]⟩:B))) cv:=by
 have hv:tH ⟨#[124,112,124]⟩=true:=by decide
 have hsz:(⟨#[124,112,124]⟩:B).size=3:=rfl;have x1:((⟨#[124,112,124]⟩:B).extract 1 2)=⟨#[112]⟩:=by decide
 simp[bD,bA,h1,hv,hsz, -Bool.forall_bool, -Bool.exists_bool];refine⟨by simp[InR],?_⟩;refine aL (X:=Int×Int×Value×List B) [0] [] (λz=>z.1=1/\z.2.1=1/\z.2.2.2=([]:List B)\/z.1=1/\z.2.1=2/\z.2.2.2=([]:List B)\/z.1=3/\z.2.1=3/\z.2.2.2=([⟨#[112]⟩]:List B)) (λz=>[(5, .own 51 z.2.2.1),(6,enc z.1),(7,enc z.2.1)]) (λz=>[(51, .row z.2.2.1 aJ 1 (z.2.2.2.map enc))]) (λz=>(3 -z.2.1).toNat) (1,1, .slice none 0 0, []) (by simp) (by simp) (by simp[isNilRow]) ?_;rintro⟨f,i,v,l⟩ hz;simp only at hz;rcases hz with⟨rfl,rfl,rfl⟩|⟨rfl,rfl,rfl⟩|⟨rfl,rfl,rfl⟩
 ·simp[hsz,x1, -Bool.forall_bool, -Bool.exists_bool];exact⟨by simp[InR],1,2,v, [],by simp,⟨⟨rfl,rfl,rfl⟩, .inl ⟨rfl,rfl⟩⟩,by omega⟩
 ·simp[hsz,x1, -Bool.forall_bool, -Bool.exists_bool];exactλv=>⟨by simp[InR],3,3,v, [⟨#[112]⟩],by simp,⟨⟨rfl,rfl,rfl⟩, .inl ⟨rfl,rfl⟩⟩,by omega⟩
 ·simp[hsz, -Bool.forall_bool, -Bool.exists_bool];refine aL (X:=Int) [5] [51] (λi=>i=1) (λi=>[(8,enc i)]) (λ_=>[]) (λi=>(3 -i).toNat) 1 (by simp) (by simp) (by simp) ?_;rintro i hi;subst hi;simp[-Bool.forall_bool, -Bool.exists_bool];exact jD (l:=([⟨#[112]⟩]:List B)) aJ rfl
set_option maxHeartbeats 1000000 in
theorem Ee(h1:S bH=zS):vc S bD (ra bA λr H'=>Fin (sj (Y:=List B) (Z:=Int)) (λy=>y=([⟨#[112]⟩,⟨#[113]⟩],0)) r H') (cR ((a1 B).view (⟨#[124,112,124,113,124]⟩:B))) cv:=by
 have hv:tH ⟨#[124,112,124,113,124]⟩=true:=by decide
 have hsz:(⟨#[124,112,124,113,124]⟩:B).size=5:=rfl;have x1:((⟨#[124,112,124,113,124]⟩:B).extract 1 2)=⟨#[112]⟩:=by decide
 have x3:((⟨#[124,112,124,113,124]⟩:B).extract 3 4)=⟨#[113]⟩:=by decide
 simp[bD,bA,h1,hv,hsz, -Bool.forall_bool, -Bool.exists_bool];refine⟨by simp[InR],?_⟩;refine aL (X:=Int×Int×Value×List B) [0] [] (λz=>z.1=1/\z.2.1=1/\z.2.2.2=([]:List B)\/z.1=1/\z.2.1=2/\z.2.2.2=([]:List B)\/z.1=3/\z.2.1=3/\z.2.2.2=([⟨#[112]⟩]:List B)\/z.1=3/\z.2.1=4/\z.2.2.2=([⟨#[112]⟩]:List B)\/z.1=5/\z.2.1=5/\z.2.2.2=([⟨#[112]⟩,⟨#[113]⟩]:List B)) (λz=>[(5, .own 51 z.2.2.1),(6,enc z.1),(7,enc z.2.1)]) (λz=>[(51, .row z.2.2.1 aJ 1 (z.2.2.2.map enc))]) (λz=>(5 -z.2.1).toNat) (1,1, .slice none 0 0, []) (by simp) (by simp) (by simp[isNilRow]) ?_;rintro⟨f,i,v,l⟩ hz;simp only at hz;rcases hz with⟨rfl,rfl,rfl⟩|⟨rfl,rfl,rfl⟩|⟨rfl,rfl,rfl⟩|⟨rfl,rfl,rfl⟩|⟨rfl,rfl,rfl⟩
 ·simp[hsz,x1,x3, -Bool.forall_bool, -Bool.exists_bool];exact⟨by simp[InR],1,2,v, [],by simp,⟨⟨rfl,rfl,rfl⟩, .inl ⟨rfl,rfl⟩⟩,by omega⟩
 ·simp[hsz,x1,x3, -Bool.forall_bool, -Bool.exists_bool];exactλv=>⟨by simp[InR],3,3,v, [⟨#[112]⟩],by simp,⟨⟨rfl,rfl,rfl⟩, .inl ⟨rfl,rfl⟩⟩,by omega⟩
 ·simp[hsz,x1,x3, -Bool.forall_bool, -Bool.exists_bool];exact⟨by simp[InR],3,4,v, [⟨#[112]⟩],by simp,⟨⟨rfl,rfl,rfl⟩, .inl ⟨rfl,rfl⟩⟩,by omega⟩
 ·simp[hsz,x1,x3, -Bool.forall_bool, -Bool.exists_bool];exactλv=>⟨by simp[InR],5,5,v, [⟨#[112]⟩,⟨#[113]⟩],by simp,⟨⟨rfl,rfl,rfl⟩, .inl ⟨rfl,rfl⟩⟩,by omega⟩
 ·simp[hsz, -Bool.forall_bool, -Bool.exists_bool];refine aL (X:=Int) [5] [51] (λi=>i=1\/i=2) (λi=>[(8,enc i)]) (λ_=>[]) (λi=>(3 -i).toNat) 1 (by simp) (by simp) (by simp) ?_;rintro i hi;rcases hi with rfl|rfl
  ·simp[-Bool.forall_bool, -Bool.exists_bool];exact⟨by simp[InR],by decide,λ_=>by simp[InR]⟩
  ·simp[-Bool.forall_bool, -Bool.exists_bool];exact jD (l:=([⟨#[112]⟩,⟨#[113]⟩]:List B)) aJ rfl
set_option maxHeartbeats 1000000 in
theorem IK(h1:S bH=zS):vc S bD (ra bA λr H'=>Fin (sj (Y:=List B) (Z:=Int)) (λy=>y=([⟨#[113]⟩],0)) r H') (cR ((a1 B).view (⟨#[124,113,124]⟩:B))) cv:=by
 have hv:tH ⟨#[124,113,124]⟩=true:=by decide
 have hsz:(⟨#[124,113,124]⟩:B).size=3:=rfl;have x1:((⟨#[124,113,124]⟩:B).extract 1 2)=⟨#[113]⟩:=by decide
 simp[bD,bA,h1,hv,hsz, -Bool.forall_bool, -Bool.exists_bool];refine⟨by simp[InR],?_⟩;refine aL (X:=Int×Int×Value×List B) [0] [] (λz=>z.1=1/\z.2.1=1/\z.2.2.2=([]:List B)\/z.1=1/\z.2.1=2/\z.2.2.2=([]:List B)\/z.1=3/\z.2.1=3/\z.2.2.2=([⟨#[113]⟩]:List B)) (λz=>[(5, .own 51 z.2.2.1),(6,enc z.1),(7,enc z.2.1)]) (λz=>[(51, .row z.2.2.1 aJ 1 (z.2.2.2.map enc))]) (λz=>(3 -z.2.1).toNat) (1,1, .slice none 0 0, []) (by simp) (by simp) (by simp[isNilRow]) ?_;rintro⟨f,i,v,l⟩ hz;simp only at hz;rcases hz with⟨rfl,rfl,rfl⟩|⟨rfl,rfl,rfl⟩|⟨rfl,rfl,rfl⟩
 ·simp[hsz,x1, -Bool.forall_bool, -Bool.exists_bool];exact⟨by simp[InR],1,2,v, [],by simp,⟨⟨rfl,rfl,rfl⟩, .inl ⟨rfl,rfl⟩⟩,by omega⟩
 ·simp[hsz,x1, -Bool.forall_bool, -Bool.exists_bool];exactλv=>⟨by simp[InR],3,3,v, [⟨#[113]⟩],by simp,⟨⟨rfl,rfl,rfl⟩, .inl ⟨rfl,rfl⟩⟩,by omega⟩
 ·simp[hsz, -Bool.forall_bool, -Bool.exists_bool];refine aL (X:=Int) [5] [51] (λi=>i=1) (λi=>[(8,enc i)]) (λ_=>[]) (λi=>(3 -i).toNat) 1 (by simp) (by simp) (by simp) ?_;rintro i hi;subst hi;simp[-Bool.forall_bool, -Bool.exists_bool];exact jD (l:=([⟨#[113]⟩]:List B)) aJ rfl
def A9(h1:S bH=zS):ax bD bA S (a1 B) (λs=>s∈featS) (sj (Y:=List B) (Z:=Int)) λs y=>y=(Ns s,0):=by
 rintro s hs;have hs:s∈featS:=hs;simp only[featS,qjW,qkm,or_false]at hs;rcases hs with rfl|rfl|rfl|rfl
 ·have hv:tH ⟨#[124]⟩=true:=by decide
  have e:Ns ⟨#[124]⟩=[]:=by decide
  simp[bD,bA,h1,hv,e, -Bool.forall_bool, -Bool.exists_bool]
 ·exact IL h1
 ·exact Ee h1
 ·exact IK h1
abbrev Qx:Spc:=aZ (a2 (List B) B) (λ_=>True) (enc (X:=Bool)) λx y=>y=oY x.1 x.2
theorem vP:ax ix ia S (a2 (List B) B) (λ_=>True) (enc (X:=Bool)) λx y=>y=oY x.1 x.2:=by
 rintro⟨l,s⟩ -;simp[ix,ia, -Bool.forall_bool, -Bool.exists_bool];intro hl;refine am (X:=Unit) [1,7] [] l.length (λk _=>∀x∈l.take k,decide (x=s)=false) (λ_=>[]) (λ_=>[]) () (by simp) (by simp) (by omega) (by simp) (by simp) (by simp) (by simp) (by simp) ?_ ?_
 ·intro k _ hk hP;obtain⟨x,hx⟩:=cX hk;obtain⟨_,hgx⟩:=qjA.1 hx;simp[hk,hx,hgx, -Bool.forall_bool, -Bool.exists_bool];refine⟨λh=>?_,λh=>?_⟩
  ·have:oY l s=true:=qko.2 ⟨x,qjD hx,by simp[h]⟩;exact this
  ·rw[bi hx];intro z hz;rcases qjM.1 hz with hz|hz
   ·have:=hP z hz;simpa using this
   ·simp at hz;subst hz;exact h
 ·intro _ hP;rw[qkl]at hP;simp[-Bool.forall_bool, -Bool.exists_bool];have:oY l s=false:=by
   rw[oY,List.any_eq_false];intro x hx;rw[hP x hx];simp
  exact this
def Eh(h1:S mg=Jp)(h2:S iR=Qx):ax od nz S (a2 B B) (λx=>∃b,EA x.1 x.2=some b) (enc (X:=Bool)) λx y=>EA x.1 x.2=some y:=by
 rintro⟨s,f⟩ ⟨b,hb⟩;have hb:EA s f=some b:=hb;have hb0:=hb;unfold EA at hb;split at hb
 rotate_left
 ·cases hb
 rename_i hc;obtain⟨c1,c2⟩:=hc;obtain⟨z,hz,hze⟩:=qko.1 c1;obtain rfl:z=s:=of_decide_eq_true hze;have e:oY (Ns z) f=b:=by
  have hb:=qjJ hb;rw[<-hb];simp only[featS,qjW,qkm,or_false]at hz;rcases hz with rfl|rfl|rfl|rfl <;> rcases c2 with rfl|rfl <;> decide
 simp[od,nz,h1,h2,hz,e, -Bool.forall_bool, -Bool.exists_bool];exact hb0
end Go.Gv
namespace Go.Gv
variable {dq:Prop}
section
variable {P:Program}{im:List Nat}{E:sw}{S:Nat->Spc}
end
end Go.Gv
