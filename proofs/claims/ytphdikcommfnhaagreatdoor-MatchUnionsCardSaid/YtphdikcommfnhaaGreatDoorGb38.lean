/- A part of the framework and of the walks: V19 V58 T37 T38 V60. -/
import Derived.Test.YtphdikcommfnhaaGreatDoorGb37
import Derived.Test.YtphdikcommfnhaaGreatDoorGb19
import Derived.Test.YtphdikcommfnhaaGreatDoorGb29
set_option linter.unusedSimpArgs false
set_option linter.unusedVariables false
set_option linter.unusedSectionVars false
set_option maxRecDepth 100000

namespace Go.Gv
def XA:B:=⟨#[119,111,114,100]⟩
def XB:B:=⟨#[116,97,103]⟩
def Hl:B:=⟨#[102,101,97,116]⟩
def ValsT:List B:=[⟨#[97]⟩,⟨#[98]⟩,⟨#[97,46,42]⟩,⟨#[91,97,98,93]⟩]
def ValsI:List B:=[⟨#[97]⟩,⟨#[98]⟩,⟨#[97,46,42]⟩,⟨#[91,97,98,93]⟩,⟨#[88]⟩,⟨#[]⟩,⟨#[99,63]⟩,⟨#[97,124,98]⟩,⟨#[89]⟩,⟨#[97,124,88]⟩]
def Attr2:List B:=[XA,XB]
def FeatL:List B:=[⟨#[112]⟩,⟨#[113]⟩]
def NumL:List B:=[⟨#[49]⟩,⟨#[50]⟩]
def qkB:B:=⟨#[110]⟩
inductive GA (lb:List B):Cond->Prop
 | val (n v:B) (f:Bool) (h1:n∈Attr2) (h2:v∈ValsI):GA lb ⟨2,n,E0,v,E0,f, []⟩
 | feat (v:B) (h:v∈FeatL):GA lb ⟨3,Hl,E0,v,E0,false, []⟩
 | same (n l a:B) (h1:n∈Attr2) (h2:l∈lb) (h3:a∈Attr2):GA lb ⟨4,n,a,E0,l,false, []⟩
 | reg (n:B) (h:n∈Types):GA lb ⟨5,n,E0,E0,E0,false, []⟩
 | regk (n v:B) (h1:n∈Types) (h2:v∈NumL):GA lb ⟨5,n,qkB,v,E0,false, []⟩
inductive GI (lb:List B):Nat->Cond->Prop
 | atom (n:Nat) (c:Cond) (h:GA lb c):GI lb n c
 | not (n:Nat) (k:Cond) (h:GI lb n k):GI lb (n+1) ⟨6,E0,E0,E0,E0,false, [k]⟩
 | two (n:Nat) (op:Int) (a b:Cond) (ho:op=7\/op=8) (h1:GI lb n a) (h2:GI lb n b):GI lb (n+1) ⟨op,E0,E0,E0,E0,false, [a,b]⟩
inductive GC (lb:List B) (n:Nat):Cond->Prop
 | any:GC lb n ⟨1,E0,E0,E0,E0,false, []⟩
 | top (v:B) (f:Bool) (h:v∈ValsT):GC lb n ⟨2,E0,E0,v,E0,f, []⟩
 | inner (c:Cond) (h:GI lb n c):GC lb n c
theorem Dk{lb:List B}{c:Cond}(h:GA lb c):c.kids=[]:=by cases h <;> rfl
theorem TT{lb:List B} :∀ {n:Nat} {c:Cond},GI lb n c->CS n c
 | _,_, .atom n c h=>SK (Dk h)
 | _,_, .not n k h=>qgc rfl rfl (TT h)
 | _,_, .two n op a b _ h1 h2=>qgb rfl rfl (TT h1) (TT h2)
theorem qi8{lb:List B}{n:Nat}{c:Cond}(h:GC lb n c):CS n c:=by
 cases h with
 | any=>exact SK rfl
 | top v f h=>exact SK rfl
 | inner c h=>exact TT h
def qfJ(l:List B)(x:B):Bool:=l.any fun z=>decide (z=x)
theorem Pl(l:List B)(x:B):qfJ l x=true↔x∈l:=by
 unfold qfJ
 rw[qt3]
 exact⟨fun⟨z,h1,h2⟩=>by rw[decide_eq_true_eq]at h2;rwa [<-h2],fun h=>⟨x,h,decide_eq_true rfl⟩⟩
instance decMem (l:List B) (x:B):Decidable (x∈l):=if h:qfJ l x=true then .isTrue ((Pl l x).1 h)else .isFalse fun hx=>h ((Pl l x).2 hx)
def qat(out:List B)(x:B):List B:=if x∈out then out else out++ [x]
end Go.Gv

namespace Go.Gv
open Go.Proofs
theorem qa6:∀w∈Qx,w∈wordsA:=by decide
theorem qeK:∀w∈qay,w∈wordsA:=by decide
theorem qcA:∀w∈Ly,w∈wordsA:=by decide
theorem qbp:∀w∈ValsI,w∈valsA:=by decide
theorem ZG:qP∈wordsA:=by decide
theorem qdu{toks:List (List B)}(h:∀r∈toks,DE r)(i k:Int):tn toks i k∈wordsA:=by
 unfold tn
 split
 ·exact ZG
 ·split
  ·rename_i r hr
   obtain⟨w,t,f,hw,ht,hf,rfl⟩:=h r (qsW hr)
   split
   ·rename_i s hs
    have hm:=qsW hs
    simp only[qsY,qtp,or_false]at hm
    rcases hm with rfl|rfl|rfl
    ·exact qa6 _ hw
    ·exact qeK _ ht
    ·exact qcA _ hf
   ·exact ZG
  ·exact ZG
theorem WN:mq iY Hl=2:=by decide
theorem Xn{toks:List (List B)}(h:∀r∈toks,DE r){i:Int}(h0:0<=i)(h1:i < toks.length):∃f∈Ly,tn toks i 2=f:=by
 obtain⟨j,rfl⟩:∃j:Nat,i=(j:Int):=⟨i.toNat,by omega⟩
 obtain⟨r,hr⟩:∃r,toks[j]? =some r:=⟨toks[j]'(by omega),qsU _⟩
 obtain⟨w,t,f,hw,ht,hf,rfl⟩:=h r (qsW hr)
 refine⟨f,hf,?_⟩
 unfold tn
 rw[if_neg (by omega),show((j:Int)).toNat=j from rfl,hr]
 rfl
structure qaU (E:NW):Prop where
 c:OkCorp E.c
 t0:0<=E.tok
 t1:E.tok < E.c.toks.length
 l:E.bd.length=E.lb.length
theorem qi5{E:NW}(hE:qaU E){n:Nat}{x:Cond}(h:GA E.lb x):∃y,wH E (n+1) x=some y:=by
 cases h with
 | val nm v f h1 h2=>
   obtain⟨y,hy⟩:=Iu (qbp v h2) (qdu hE.c.2.2.2 E.tok (wJ E.c.attrs nm)) f
   refine⟨y,?_⟩
   unfold wH
   rw[if_neg (show ¬ (2:Int)=1 by decide),if_pos rfl]
   exact hy
 | feat v h=>
   obtain⟨f,hf,e⟩:=Xn hE.c.2.2.2 hE.t0 hE.t1
   have hv:v=⟨#[112]⟩\/v=⟨#[113]⟩:=by simpa [FeatL]using h
   have hfs:(featS.any fun z=>decide (z=f))=true:=qt3.2 ⟨f,hf,decide_eq_true rfl⟩
   refine⟨featS.any (fun _=>false)||f.data.toList.any fun c=>decide (v.data.toList=[c]),?_⟩
   unfold wH
   rw[if_neg (show ¬ (3:Int)=1 by decide),if_neg (show ¬ (3:Int)=2 by decide),if_pos rfl]
   simp only[hE.c.1,WN,e]
   unfold Na
   rw[if_pos ⟨hfs,hv⟩]
   simp
 | same nm l a h1 h2 h3=>
   obtain⟨k,hk⟩:∃k:Nat,gy E.lb (fun z=>decide (z=l))=(k:Int):=by
    rcases BC (fun z=>decide (z=l)) E.lb with⟨e,h⟩|⟨k,_,e,_⟩
    ·have:=h l h2;simp at this
    ·exact⟨k,e⟩
   have hr:=zj (fun z=>decide (z=l)) E.lb
   obtain⟨o,ho⟩:∃o,E.bd[k]? =some o:=⟨E.bd[k]'(by have:=hE.l;omega),qsU _⟩
   refine⟨decide (0<=o) && decide (tn E.c.toks E.tok (mq E.c.attrs nm)=tn E.c.toks o (mq E.c.attrs a)),?_⟩
   unfold wH
   rw[if_neg (show ¬ (4:Int)=1 by decide),if_neg (show ¬ (4:Int)=2 by decide),if_neg (show ¬ (4:Int)=3 by decide),if_pos rfl]
   simp only[hk]
   rw[if_neg (by omega),show((k:Int)).toNat=k from rfl,ho]
 | reg nm h=>exact⟨_,by unfold wH;rw[if_neg (show ¬ (5:Int)=1 by decide),if_neg (show ¬ (5:Int)=2 by decide),if_neg (show ¬ (5:Int)=3 by decide),if_neg (show ¬ (5:Int)=4 by decide),if_pos rfl]⟩
 | regk nm v h1 h2=>exact⟨_,by unfold wH;rw[if_neg (show ¬ (5:Int)=1 by decide),if_neg (show ¬ (5:Int)=2 by decide),if_neg (show ¬ (5:Int)=3 by decide),if_neg (show ¬ (5:Int)=4 by decide),if_pos rfl]⟩
theorem qfH{E:NW}{n:Nat}{k:Cond}{y:Bool}(h:wH E n k=some y):wH E (n+1) ⟨6,E0,E0,E0,E0,false, [k]⟩=some (!y):=by
 unfold wH
 rw[if_neg (show ¬ (6:Int)=1 by decide),if_neg (show ¬ (6:Int)=2 by decide),if_neg (show ¬ (6:Int)=3 by decide),if_neg (show ¬ (6:Int)=4 by decide),if_neg (show ¬ (6:Int)=5 by decide),if_pos rfl]
 simp only[h]
 rfl
theorem qfI{E:NW}{n:Nat}{a b:Cond}{p q:Bool}(h1:wH E n a=some p)(h2:wH E n b=some q):wH E (n+1) ⟨7,E0,E0,E0,E0,false, [a,b]⟩=some (p && q):=by
 unfold wH
 rw[if_neg (show ¬ (7:Int)=1 by decide),if_neg (show ¬ (7:Int)=2 by decide),if_neg (show ¬ (7:Int)=3 by decide),if_neg (show ¬ (7:Int)=4 by decide),if_neg (show ¬ (7:Int)=5 by decide),if_neg (show ¬ (7:Int)=6 by decide),if_pos (by simp[h1,h2]),if_pos rfl]
 simp[h1,h2]
theorem qi3{E:NW}{n:Nat}{a b:Cond}{p q:Bool}(h1:wH E n a=some p)(h2:wH E n b=some q):wH E (n+1) ⟨8,E0,E0,E0,E0,false, [a,b]⟩=some (p||q):=by
 unfold wH
 rw[if_neg (show ¬ (8:Int)=1 by decide),if_neg (show ¬ (8:Int)=2 by decide),if_neg (show ¬ (8:Int)=3 by decide),if_neg (show ¬ (8:Int)=4 by decide),if_neg (show ¬ (8:Int)=5 by decide),if_neg (show ¬ (8:Int)=6 by decide),if_pos (by simp[h1,h2]),if_neg (show ¬ (8:Int)=7 by decide)]
 simp[h1,h2]
theorem TQ{E:NW}(hE:qaU E):∀ {n m:Nat} {x:Cond},GI E.lb n x->n < m->∃y,wH E m x=some y
 | _,m+1,_, .atom n c h,_=>qi5 hE h
 | _,m+1,_, .not n k h,hm=>by
   obtain⟨y,hy⟩:=TQ (m:=m) hE h (by omega)
   exact⟨_,qfH hy⟩
 | _,m+1,_, .two n op a b ho h1 h2,hm=>by
   obtain⟨p,hp⟩:=TQ (m:=m) hE h1 (by omega)
   obtain⟨q,hq⟩:=TQ (m:=m) hE h2 (by omega)
   rcases ho with rfl|rfl
   ·exact⟨_,qfI hp hq⟩
   ·exact⟨_,qi3 hp hq⟩
theorem qi4{E:NW}(hE:qaU E){n m:Nat}{x:Cond}(h:GC E.lb n x)(hm:n < m):∃y,wH E m x=some y:=by
 obtain⟨m,rfl⟩:∃k,m=k+1:=⟨m -1,by omega⟩
 cases h with
 | any=>exact⟨true,by unfold wH;rw[if_pos rfl]⟩
 | top v f h=>
   have hv:v∈valsA:=(by decide:∀w∈ValsT,w∈valsA) v h
   obtain⟨y,hy⟩:=Iu hv (qdu hE.c.2.2.2 E.tok (wJ E.c.attrs E0)) f
   refine⟨y,?_⟩
   unfold wH
   rw[if_neg (show ¬ (2:Int)=1 by decide),if_pos rfl]
   exact hy
 | inner c h=>exact TQ hE h hm
def qhQ:Bool:=Attr2.all fun nm=>ValsI.all fun v=>nW iY [] ⟨2,nm,E0,v,E0,false, []⟩ && nW iY [] ⟨2,nm,E0,v,E0,true, []⟩
theorem qeC:qhQ=true:=by kernel_rfl
def qhW:Bool:=ValsT.all fun v=>nW iY [] ⟨2,E0,E0,v,E0,false, []⟩ && nW iY [] ⟨2,E0,E0,v,E0,true, []⟩
theorem qeH:qhW=true:=by kernel_rfl
def qfM:Bool:=FeatL.all fun v=>nW iY [] ⟨3,Hl,E0,v,E0,false, []⟩
theorem qcL:qfM=true:=by kernel_rfl
def qij:Bool:=Types.all fun n=>nW iY [] ⟨5,n,E0,E0,E0,false, []⟩ && NumL.all fun v=>nW iY [] ⟨5,n,qkB,v,E0,false, []⟩
theorem X8:qij=true:=by kernel_rfl
def qol:Bool:=Attr2.all fun n=>decide (0<=mq iY n)
theorem qdL:qol=true:=by kernel_rfl
theorem OY{lb:List B}{nm v:B}{f:Bool} :nW iY lb ⟨2,nm,E0,v,E0,f, []⟩=nW iY [] ⟨2,nm,E0,v,E0,f, []⟩:=rfl
theorem Vz{lb:List B}{v:B} :nW iY lb ⟨3,Hl,E0,v,E0,false, []⟩=nW iY [] ⟨3,Hl,E0,v,E0,false, []⟩:=rfl
theorem OZ{lb:List B}{n a v:B} :nW iY lb ⟨5,n,a,v,E0,false, []⟩=nW iY [] ⟨5,n,a,v,E0,false, []⟩:=rfl
theorem qbT{lb:List B}{x:Cond}(h:GA lb x):nW iY lb x=true:=by
 cases h with
 | val nm v f h1 h2=>
   rw[OY]
   have h:=qsX.1 (qsX.1 qeC nm h1) v h2
   simp only[qs1]at h
   cases f
   ·exact h.1
   ·exact h.2
 | feat v h=>
   rw[Vz]
   exact qsX.1 qcL v h
 | same nm l a h1 h2 h3=>
   have e1:=qsX.1 qdL nm h1
   have e2:=qsX.1 qdL a h3
   have e3:(lb.any fun z=>decide (z=l))=true:=qt3.2 ⟨l,h2,decide_eq_true rfl⟩
   have s1:qeU ⟨4,nm,a,E0,l,false, []⟩=true:=by
    unfold qeU
    rw[if_neg (show ¬ (4:Int)=1 by decide),if_neg (show ¬ (4:Int)=2 by decide),if_neg (show ¬ (4:Int)=3 by decide),if_pos rfl]
    rfl
   have s2:qdM iY ⟨4,nm,a,E0,l,false, []⟩=true:=by
    unfold qdM
    rw[if_neg (show ¬ (4:Int)=2 by decide),if_neg (show ¬ (4:Int)=3 by decide),if_pos rfl]
    exact decide_eq_true ⟨of_decide_eq_true e1,of_decide_eq_true e2⟩
   have s3:qmM iY lb ⟨4,nm,a,E0,l,false, []⟩=true:=by
    unfold qmM
    rw[if_neg (show ¬ (4:Int)=2 by decide),if_neg (show ¬ (4:Int)=3 by decide),if_pos rfl]
    exact e3
   unfold nW
   rw[s1,s2,s3]
   rfl
 | reg nm h=>
   rw[OZ]
   have h:=qsX.1 X8 nm h
   simp only[qs1]at h
   exact h.1
 | regk nm v h1 h2=>
   rw[OZ]
   have h:=qsX.1 X8 nm h1
   simp only[qs1]at h
   exact qsX.1 h.2 v h2
theorem Bt{a:List Attr}{lb:List B}{m:Nat}{x:Cond}(h:nW a lb x=true)(hk:x.kids=[]):qR a lb (m+1) x=true:=by
 show(nW a lb x && x.kids.all (qR a lb m))=true
 rw[h,hk];rfl
theorem VB{lb:List B}{m:Nat}{k:Cond}(h:qR iY lb m k=true):qR iY lb (m+1) ⟨6,E0,E0,E0,E0,false, [k]⟩=true:=by
 have e:nW iY lb ⟨6,E0,E0,E0,E0,false, [k]⟩=true:=rfl
 show(nW iY lb ⟨6,E0,E0,E0,E0,false, [k]⟩ && [k].all (qR iY lb m))=true
 rw[e]
 simp[h]
theorem VA{lb:List B}{m:Nat}{op:Int}{a b:Cond}(ho:op=7\/op=8)(h1:qR iY lb m a=true)(h2:qR iY lb m b=true):qR iY lb (m+1) ⟨op,E0,E0,E0,E0,false, [a,b]⟩=true:=by
 have e:nW iY lb ⟨op,E0,E0,E0,E0,false, [a,b]⟩=true:=by rcases ho with rfl|rfl <;> rfl
 show(nW iY lb ⟨op,E0,E0,E0,E0,false, [a,b]⟩ && [a,b].all (qR iY lb m))=true
 rw[e]
 simp[h1,h2]
theorem C7{lb:List B} :∀ {n m:Nat} {x:Cond},GI lb n x->n < m->qR iY lb m x=true
 | _,m+1,_, .atom n c h,_=>Bt (qbT h) (Dk h)
 | _,m+1,_, .not n k h,hm=>VB (C7 h (by omega))
 | _,m+1,_, .two n op a b ho h1 h2,hm=>VA ho (C7 h1 (by omega)) (C7 h2 (by omega))
theorem qb0{k:Cond}{op:Int} :oz ⟨op,E0,E0,E0,E0,false, [k]⟩=oz k+1:=by rw[oz,gg,gg]
theorem qbZ{a b:Cond}{op:Int} :oz ⟨op,E0,E0,E0,E0,false, [a,b]⟩=oz a+oz b+1:=by rw[oz,gg,gg,gg];omega
theorem qcT{k:Cond}{op:Int} :lT ⟨op,E0,E0,E0,E0,false, [k]⟩=lT k+1:=by rw[lT,kq,kq];omega
theorem qcS{a b:Cond}{op:Int} :lT ⟨op,E0,E0,E0,E0,false, [a,b]⟩=max (lT a) (lT b) +1:=by rw[lT,kq,kq,kq];omega
theorem ID{x:Cond}(h:x.kids=[]):oz x=1/\lT x=1:=by
 rw[Gx,NB,h]
 exact⟨rfl,rfl⟩
theorem Nd{lb:List B} :∀ {n:Nat} {x:Cond},GI lb n x->oz x+1<=2^ (n+1)/\lT x<=n+1
 | _,_, .atom n c h=>by
   have:=ID (Dk h)
   have h2:2^1<=2^ (n+1):=Nat.pow_le_pow_right (by decide) (by omega)
   omega
 | _,_, .not n k h=>by
   have:=Nd h
   rw[qb0,qcT,Nat.pow_succ]
   omega
 | _,_, .two n op a b ho h1 h2=>by
   have:=Nd h1
   have:=Nd h2
   rw[qbZ,qcS,Nat.pow_succ]
   omega
theorem qfK{lb:List B}{n:Nat}{x:Cond}(h:GC lb n x):oz x+1<=2^ (n+1)/\lT x<=n+1:=by
 have h2:2^1<=2^ (n+1):=Nat.pow_le_pow_right (by decide) (by omega)
 cases h with
 | any=>have:=ID (x:=⟨1,E0,E0,E0,E0,false, []⟩) rfl;omega
 | top v f h=>have:=ID (x:=⟨2,E0,E0,v,E0,f, []⟩) rfl;omega
 | inner c h=>exact Nd h
theorem Yp{lb:List B}{n m:Nat}{x:Cond}(h:GC lb n x)(hm:n < m):qR iY lb m x=true:=by
 obtain⟨m,rfl⟩:∃k,m=k+1:=⟨m -1,by omega⟩
 cases h with
 | any=>exact Bt rfl rfl
 | top v f h=>
   refine Bt ?_ rfl
   have h:=qsX.1 qeH v h
   simp only[qs1]at h
   rw[OY]
   cases f
   ·exact h.1
   ·exact h.2
 | inner c h=>exact C7 h hm
theorem qfe{a:List Attr}{lb:List B}{x:Cond}(h1:oz x<=60)(h2:lT x<=20)(h3:qR a lb 20 x=true):qfg a lb x=true:=by
 unfold qfg
 rw[decide_eq_true ⟨h1,h2⟩,h3]
 rfl
theorem qff{lb:List B}{n:Nat}{x:Cond}(h:GC lb n x)(hn:n<=4):qfg iY lb x=true:=by
 obtain⟨h1,h2⟩:=qfK h
 have h3:2^ (n+1)<=2^5:=Nat.pow_le_pow_right (by decide) (by omega)
 exact qfe (by omega) (by omega) (Yp h (by omega))
end Go.Gv

namespace Go.Gv
open Cod (enc dec)
section
variable {S:Nat->Spc}{σ:Sg}{H Hr:ab}{K:D->ab->Prop}
def qfn(dst:Option Nat)(H:ab)(K:D->ab->Prop):Prop:=match dst with
 | some t=>∀x,K (.own t x) (ah H t (some (.mrow x [])))
 | none=>False
@[simp] theorem qoz(t:Nat)(H:ab)(K:D->ab->Prop):qfn (some t) H K=∀x,K (.own t x) (ah H t (some (.mrow x []))):=id rfl
def VM(id:Nat)(x:Value)(ka:Bool)(ks:List KK)(k v:D)(r:Option Res)(H:ab)(K:D->ab->Prop):Prop:=match r with
 | some (.mrow x' es)=>x'=x/\Au ka ks k v es fun es'=>K .undef (ah H id (some (.mrow x' es')))
 | _=>False
@[simp] theorem qor(id:Nat)(x x':Value)(ka:Bool)(ks:List KK)(k v:D)(es:List D)(H:ab)(K:D->ab->Prop):VM id x ka ks k v (some (.mrow x' es)) H K=(x'=x/\Au ka ks k v es fun es'=>K .undef (ah H id (some (.mrow x' es')))):=_root_.id rfl
def YC(ka:Bool)(ks:List KK)(d k v:D)(H:ab)(K:D->ab->Prop):Prop:=match d with
 | .own id x=>VM id x ka ks k v (H id) H K
 | _=>False
@[simp] theorem qoq(id:Nat)(x:Value)(ka:Bool)(ks:List KK)(k v:D)(H:ab)(K:D->ab->Prop):YC ka ks (.own id x) k v H K=VM id x ka ks k v (H id) H K:=_root_.id rfl
def YD(dst:Option Nat)(d:D)(H:ab)(K:D->ab->Prop):Prop:=match dst with
 | some t=>(match d with
   | .mp es=>∀b,K (.bptr t b 0) (ah H t (some (.miter b [] es)))
   | .v (.map none)=>∀b,K (.bptr t b 0) (ah H t (some (.miter b [] [])))
   | _=>False)
 | none=>False
@[simp] theorem qow(t:Nat)(es:List D)(H:ab)(K:D->ab->Prop):YD (some t) (.mp es) H K=∀b,K (.bptr t b 0) (ah H t (some (.miter b [] es))):=id rfl
def VN(id b:Nat)(r:Option Res)(H:ab)(K:D->ab->Prop):Prop:=match r with
 | some (.miter b' cur left)=>b'=b/\(left=[]->K (.tup [.v (.bool false)]) H)/\∀l1 e l2,left=l1++e::l2->K (.tup [.v (.bool true), .any, .any]) (ah H id (some (.miter b' [e] (l1++l2))))
 | _=>False
@[simp] theorem qoy(id b b':Nat)(cur left:List D)(H:ab)(K:D->ab->Prop):VN id b (some (.miter b' cur left)) H K=(b'=b/\(left=[]->K (.tup [.v (.bool false)]) H)/\∀l1 e l2,left=l1++e::l2->K (.tup [.v (.bool true), .any, .any]) (ah H id (some (.miter b' [e] (l1++l2))))):=_root_.id rfl
def YF(d:D)(H:ab)(K:D->ab->Prop):Prop:=match d with
 | .bptr id b off=>off=0/\VN id b (H id) H K
 | _=>False
@[simp] theorem qox(i b off:Nat)(H:ab)(K:D->ab->Prop):YF (.bptr i b off) H K=(off=0/\VN i b (H i) H K):=id rfl
def VP(b:Nat)(r:Option Res)(K:D->Prop):Prop:=match r with
 | some (.miter b' [e] _)=>b'=b/\K e
 | _=>False
@[simp] theorem qoI(b b':Nat)(e:D)(l:List D)(K:D->Prop):VP b (some (.miter b' [e] l)) K=(b'=b/\K e):=id rfl
def YK(d:D)(H:ab)(K:D->Prop):Prop:=match d with
 | .bptr id b off=>off=0/\VP b (H id) K
 | _=>False
@[simp] theorem qoH(i b off:Nat)(H:ab)(K:D->Prop):YK (.bptr i b off) H K=(off=0/\VP b (H i) K):=id rfl
def qg3(x:Value)(r:Option Res)(K:List D->Prop):Prop:=match r with
 | some (.mrow x' es)=>x'=x/\K es
 | _=>False
@[simp] theorem qrr(x x':Value)(es:List D)(K:List D->Prop):qg3 x (some (.mrow x' es)) K=(x'=x/\K es):=id rfl
def qb6(d:D)(H:ab)(K:List D->Prop):Prop:=match d with
 | .mp es=>K es
 | .v (.map none)=>K []
 | .own id x=>qg3 x (H id) K
 | _=>False
@[simp] theorem qrq(es:List D)(H:ab)(K:List D->Prop):qb6 (.mp es) H K=K es:=id rfl
@[simp] theorem qrp(i:Nat)(x:Value)(H:ab)(K:List D->Prop):qb6 (.own i x) H K=qg3 x (H i) K:=id rfl
theorem Sf(d:D)(H:ab)(K:List D->Prop):zh d H K=qb6 d H K:=by
 unfold zh qb6 qg3
 cases d <;> rfl
def YJ(len sz:Nat)(x i:D)(K:D->Prop):Prop:=match i with
 | .v (.int _ k)=>0<=k/\k < len/\IU (k.toNat*sz) x K
 | _=>False
@[simp] theorem qoD(len sz:Nat)(x:D)(q:IntKind)(k:Int)(K:D->Prop):YJ len sz x (.v (.int q k)) K=(0<=k/\k < len/\IU (k.toNat*sz) x K):=id rfl
@[simp] theorem ql8(o:Nat)(cs:List D)(p:Nat)(K:D->Prop):IU o (.cptr cs p) K=K (.cptr cs (p+o)):=id rfl
@[simp] theorem ql9(o i b p:Nat)(K:D->Prop):IU o (.bptr i b p) K=K (.bptr i b (p+o)):=id rfl
@[congr] theorem qlk{id:Nat}{x:Value}{ka:Bool}{ks:List KK}{k v k' v':D}{r r':Option Res}{H:ab}{K:D->ab->Prop}(h1:k=k')(h2:v=v')(h3:r=r'):VM id x ka ks k v r H K=VM id x ka ks k' v' r' H K:=by subst h1;subst h2;subst h3;rfl
@[congr] theorem qlj{ka:Bool}{ks:List KK}{d d' k v k' v':D}{H:ab}{K:D->ab->Prop}(h0:d=d')(h1:k=k')(h2:v=v'):YC ka ks d k v H K=YC ka ks d' k' v' H K:=by subst h0;subst h1;subst h2;rfl
@[congr] theorem qhT{ka:Bool}{ks:List KK}{k v k' v':D}{es es':List D}{K:List D->Prop}(h1:k=k')(h2:v=v')(h3:es=es'):Au ka ks k v es K=Au ka ks k' v' es' K:=by subst h1;subst h2;subst h3;rfl
@[congr] theorem qg5{ok agg ka:Bool}{ks:List KK}{z:List Value}{k k':D}{es es':List D}{K:D->Prop}(h1:k=k')(h3:es=es'):wB ok agg ka ks z k es K=wB ok agg ka ks z k' es' K:=by subst h1;subst h3;rfl
@[congr] theorem qll{t:Option Nat}{d d':D}{H:ab}{K:D->ab->Prop}(h:d=d'):YD t d H K=YD t d' H K:=by subst h;rfl
@[congr] theorem qln{id b:Nat}{r r':Option Res}{H:ab}{K:D->ab->Prop}(h:r=r'):VN id b r H K=VN id b r' H K:=by subst h;rfl
@[congr] theorem qlm{d d':D}{H:ab}{K:D->ab->Prop}(h:d=d'):YF d H K=YF d' H K:=by subst h;rfl
@[congr] theorem qlt{b:Nat}{r r':Option Res}{K:D->Prop}(h:r=r'):VP b r K=VP b r' K:=by subst h;rfl
@[congr] theorem qls{d d':D}{H:ab}{K:D->Prop}(h:d=d'):YK d H K=YK d' H K:=by subst h;rfl
@[congr] theorem qop{x:Value}{r r':Option Res}{K:List D->Prop}(h:r=r'):qg3 x r K=qg3 x r' K:=by subst h;rfl
@[congr] theorem qoo{d d':D}{H:ab}{K:List D->Prop}(h:d=d'):qb6 d H K=qb6 d' H K:=by subst h;rfl
@[congr] theorem qlr{len sz:Nat}{x x' i i':D}{K:D->Prop}(h:x=x')(h2:i=i'):YJ len sz x i K=YJ len sz x' i' K:=by subst h;subst h2;rfl
@[simp ↓] theorem qrT(dst:Option Nat):ay S (.m .mk []) dst σ H K=qfn dst H K:=by cases dst <;> rfl
@[simp ↓] theorem qq9(dst:Option Nat):ax S (.m .mk []) dst σ Hr H K=qfn dst H K:=by cases dst <;> rfl
@[simp ↓] theorem qpX(dst:Option Nat)(ka:Bool)(ks:List KK)(x k v:Operand):ay S (.m (.upd ka ks) [x,k,v]) dst σ H K=YC ka ks (ev σ x) (ev σ k) (ev σ v) H K:=by
 show iG (.upd ka ks) [ev σ x,ev σ k,ev σ v] dst H K=_
 unfold YC VM
 cases ev σ x <;> rfl
@[simp ↓] theorem qpY(dst:Option Nat)(x:Operand):ay S (.m .rng [x]) dst σ H K=YD dst (ev σ x) H K:=by
 show iG .rng [ev σ x] dst H K=_
 unfold YD
 cases dst <;> rfl
@[simp ↓] theorem qmU(dst:Option Nat)(x:Operand):ay S (.m .next [x]) dst σ H K=YF (ev σ x) H K:=by
 show iG .next [ev σ x] dst H K=_
 unfold YF VN
 cases ev σ x <;> rfl
@[simp ↓] theorem qjP(dst:Option Nat)(x:Operand):ay S (.m .entry [x]) dst σ H K=YK (ev σ x) H (fun d=>K d H):=by
 show iG .entry [ev σ x] dst H K=_
 unfold YK VP
 cases ev σ x <;> rfl
@[simp ↓] theorem qmV(dst:Option Nat)(ok agg ka:Bool)(ks:List KK)(z:List Value)(x k:Operand):ay S (.m (.look ok agg ka ks z) [x,k]) dst σ H K=qb6 (ev σ x) H fun es=>wB ok agg ka ks z (ev σ k) es fun d=>K d H:=by
 rw[<-Sf];rfl
@[simp ↓] theorem qk1(dst:Option Nat)(ok agg ka:Bool)(ks:List KK)(z:List Value)(x k:Operand):ax S (.m (.look ok agg ka ks z) [x,k]) dst σ Hr H K=qb6 (ev σ x) Hr fun es=>wB ok agg ka ks z (ev σ k) es fun d=>K d H:=by
 rw[<-Sf];rfl
@[simp ↓] theorem qpZ(dst:Option Nat)(x:Operand):ay S (.m .len [x]) dst σ H K=qb6 (ev σ x) H fun es=>K (.v (.int .i64 es.length)) H:=by
 rw[<-Sf];rfl
@[simp ↓] theorem qmW(dst:Option Nat)(len sz:Nat)(x i:Operand):ay S (.m (.aidx len sz) [x,i]) dst σ H K=YJ len sz (ev σ x) (ev σ i) (fun d=>K d H):=by
 show tF (.aidx len sz) [ev σ x,ev σ i] H (fun d=>K d H)=_
 unfold YJ
 cases ev σ i <;> first|rfl|skip
 rename_i v
 cases v <;> rfl
end
end Go.Gv

namespace Go.Gv
open Cod (enc dec)
@[simp] theorem qqE(a:D)(es:List D):Qz a (.mp es)=(a= .mp es):=id rfl
theorem It{a b:D}(ha:DG a=true)(hb:DG b=true)(h:Jv a b):a=b:=by
 obtain⟨tp,I,w,x,h1,h2⟩:=h
 have one:∀d:D,DG d=true->(∃cs,d= .agg cs)\/ ∃v,d= .v v:=fun d hd=>by
  cases d <;> first|exact .inl ⟨_,rfl⟩|exact .inr ⟨_,rfl⟩|(simp[DG,D.cells,qg9]at hd)
 rcases one a ha with⟨cs,rfl⟩|⟨v,rfl⟩ <;> rcases one b hb with⟨cs',rfl⟩|⟨v',rfl⟩
 ·obtain⟨xs,rfl,hl,hc⟩:=h1.inv_agg
  obtain⟨ys,he,hl2,hc2⟩:=h2.inv_agg
  have hxy:xs=ys:=by simpa using he
  subst hxy
  have hce:cs=cs':=by
   refine quV (by omega) fun i h3 h4=>?_
   have hi:i < xs.length:=by omega
   have v1:qg9 cs[i]=true:=qsX.1 ha _ (by simp[D.cells])
   have v2:qg9 cs'[i]=true:=qsX.1 hb _ (by simp[D.cells])
   have r1:=(hc i _ _ (qsU hi) (qsU h3)).2
   have r2:=(hc2 i _ _ (qsU hi) (qsU h4)).2
   generalize cs[i]=p at*
   generalize cs'[i]=q at*
   cases p <;> first|(cases v1;done)|skip
   cases q <;> first|(cases v2;done)|skip
   rw[<-r1.inv_v,<-r2.inv_v]
  rw[hce]
 ·obtain⟨xs,rfl,_,_⟩:=h1.inv_agg
  have:=h2.inv_v
  cases h2 with
  | v _ h _=>simp[Value.oneCell']at h
 ·obtain⟨xs,rfl,_,_⟩:=h2.inv_agg
  cases h1 with
  | v _ h _=>simp[Value.oneCell']at h
 ·rw[<-h1.inv_v,<-h2.inv_v]
structure WR (X:Type) [Cod X] (ka:Bool) (ks:List KK):Prop where
 fit:∀x:X,Ko ka ks (enc x)=true
 pur:∀x:X,DG (enc x)=true
section
variable {X:Type}[Cod X][DecidableEq X]
def bG(l:List X):List D:=l.map fun x=> .tup [enc x, .v (.bool true)]
def wG(x:X)(l:List X):List X:=if x∈l then l else l++ [x]
@[simp] theorem ed{x y:X}{l:List X} :y∈wG x l↔y=x\/y∈l:=by
 unfold wG
 split
 ·rename_i h
  exact⟨.inr,fun h2=>h2.elim (fun e=>e ▸h) id⟩
 ·simp[or_comm]
theorem wF{x:X}{l:List X}(h:l.Nodup):(wG x l).Nodup:=by
 unfold wG
 split
 ·exact h
 ·rename_i hx
  rw[qup]
  exact⟨h,by simp,fun a ha b hb=>by simp at hb;subst hb;exact fun e=>hx (e ▸ha)⟩
theorem zd{x:X}{v:D}{l:List X} :D.tup [enc x,v] ∈bG l↔x∈l/\v= .v (.bool true):=by
 simp only[bG,qs7,D.tup.injEq,qti,and_true]
 exact⟨fun⟨y,h1,h2,h3⟩=>⟨aL h2 ▸h1,h3.symm⟩,fun⟨h1,h2⟩=>⟨x,h1,rfl,h2.symm⟩⟩
theorem OG{d:D}{l:List X}(h:d∈bG l):∃x∈l,d= .tup [enc x, .v (.bool true)]:=by
 obtain⟨x,h1,rfl⟩:=qs7.1 h
 exact⟨x,h1,rfl⟩
theorem gi:∀ {l:List X} {l1 l2:List D} {e:D},bG l=l1++e::l2->∃a x b,l=a++x::b/\l1=bG a/\e= .tup [enc x, .v (.bool true)]/\l2=bG b
 | [],l1,l2,e,h=>by
   have:=congrArg List.length h
   simp[bG]at this
 | y::l, [],l2,e,h=>by
   simp only[bG,qtk,qtO,qti]at h
   exact⟨[],y,l,rfl,rfl,h.1.symm,h.2.symm⟩
 | y::l,d::l1,l2,e,h=>by
   simp only[bG,qtk,qtI,qti]at h
   obtain⟨a,x,b,rfl,rfl,h3,h4⟩:=gi (l:=l) h.2
   exact⟨y::a,x,b,rfl,by simp[bG,h.1],h3,h4⟩
theorem gR(a b:List X):bG (a++b)=bG a++bG b:=by simp[bG]
theorem OH{ka:Bool}{ks:List KK}(hK:WR X ka ks)(l:List X):(bG l).all (Py ka ks)=true:=by
 rw[qsX]
 intro d hd
 obtain⟨x,_,rfl⟩:=OG hd
 exact hK.fit x
theorem qbt{ka:Bool}{ks:List KK}(hK:WR X ka ks){x:X}{l:List X}{k:D}{K:List D->Prop}(hk:k=enc x)(h:K (bG (wG x l))):Au ka ks k (.v (.bool true)) (bG l) K:=by
 subst hk
 refine⟨OH hK l,hK.fit x,fun l1 k' v' l2 e m=>?_,fun hn=>?_⟩
 ·obtain⟨a,y,b,rfl,rfl,h3,rfl⟩:=gi e
  simp only[D.tup.injEq,qti,and_true]at h3
  obtain⟨rfl,rfl⟩:=h3
  have:=aL (It (hK.pur x) (hK.pur y) m)
  subst this
  rw[<-e]
  have:wG x (a++x::b)=a++x::b:=by unfold wG;rw[if_pos (by simp)]
  rw[this]at h
  exact h
 ·have hx:x∉l:=fun hx=>hn (hK.pur x) _ (zd.2 ⟨hx,rfl⟩)
  have:wG x l=l++ [x]:=by unfold wG;rw[if_neg hx]
  rw[this,gR]at h
  exact h
theorem YP{ok:Bool}{ka:Bool}{ks:List KK}(hK:WR X ka ks){x:X}{l:List X}{k:D}{K:D->Prop}(hk:k=enc x)(h:K (qdP ok (.v (.bool (decide (x∈l)))) (decide (x∈l)))):
 wB ok false ka ks [.bool false] k (bG l) K:=by
 subst hk
 refine⟨OH hK l,hK.fit x,fun k' v hm m=>?_,fun hn=>?_⟩
 ·obtain⟨y,hy,e⟩:=OG hm
  simp only[D.tup.injEq,qti,and_true]at e
  obtain⟨rfl,rfl⟩:=e
  have:=aL (It (hK.pur x) (hK.pur y) m)
  subst this
  simpa [hy]using h
 ·have hx:x∉l:=fun hx=>hn (hK.pur x) _ (zd.2 ⟨hx,rfl⟩)
  simpa [hx]using h
theorem Pa{ok:Bool}{ka:Bool}{ks:List KK}(hK:WR X ka ks)(x:X)(hM:Jv (enc x) (enc x))(l:List X)(K:D->Prop):wB ok false ka ks [.bool false] (enc x) (bG l) K=K (qdP ok (.v (.bool (decide (x∈l)))) (decide (x∈l))):=by
 refine propext ⟨fun⟨_,_,h1,h2⟩=>?_,YP hK rfl⟩
 by_cases hx:x∈l
 ·have:=h1 (enc x) (.v (.bool true)) (zd.2 ⟨hx,rfl⟩) hM
  simpa [hx]using this
 ·have:=h2 fun _ v hm=>hx (zd.1 hm).1
  simpa [hx,NY,uA]using this
end
@[simp] theorem qrt(v:D)(b:Bool):qdP false v b=v:=id rfl
end Go.Gv

namespace Go.Gv
open Go.Proofs
open Cod (enc dec)
structure St3 where
 p:Int
 b0:Int
 b1:Int
 b2:Int
deriving DecidableEq
instance:Cod St3 where
 wd:=4
 enc s:= .agg [enc s.p,enc s.b0,enc s.b1,enc s.b2]
 dec| .agg [x0,x1,x2,x3]=>(dec x0).bind fun x0=>(dec x1).bind fun x1=>(dec x2).bind fun x2=>(dec x3).bind fun x3=>some ⟨x0,x1,x2,x3⟩|_=>none
 kn _:=rfl
 wid _:=rfl
 dec_enc s:=by simp
 le d x h:=by
  split at h
  ·simp only[qsR]at h
   obtain⟨x0,h0,x1,h1,x2,h2,x3,h3,h⟩:=h
   cases h
   exact LeL.agg (.cons (Cod.le _ _ h0) (.cons (Cod.le _ _ h1) (.cons (Cod.le _ _ h2) (.cons (Cod.le _ _ h3) .nil))))
  ·cases h
@[simp] theorem qmq(s:St3):enc s= .agg [enc s.p,enc s.b0,enc s.b1,enc s.b2]:=id rfl
@[simp] theorem qmz(x0 x1 x2 x3:D):dec (X:=St3) (.agg [x0,x1,x2,x3])=((dec x0).bind fun x0=>(dec x1).bind fun x1=>(dec x2).bind fun x2=>(dec x3).bind fun x3=>some ⟨x0,x1,x2,x3⟩):=id rfl
theorem TL:WR St3 true [.int .i64, .int .i64, .int .i64, .int .i64]:=⟨fun _=>rfl,fun _=>rfl⟩
structure Rn where
 c:Corpus
 lb:List B
 bg:Int
 en:Int
def St3.get(s:St3)(i:Nat):Int:=match i with|0=>s.b0|1=>s.b1|_=>s.b2
def St3.set(s:St3)(i:Nat)(x:Int):St3:=match i with|0=>⟨s.p,x,s.b1,s.b2⟩|1=>⟨s.p,s.b0,x,s.b2⟩|_=>⟨s.p,s.b0,s.b1,x⟩
def NG(r:Rn)(s:St3):List Int:=(List.range r.lb.length).map fun i=>s.get i -1
def EB(r:Rn)(p:Pat)(s:St3):St3:=
 let s1:St3:=if p.lab=qP then s else s.set (gy r.lb fun z=>decide (z=p.lab)).toNat (s.p+1)
 ⟨s1.p+1,s1.b0,s1.b1,s1.b2⟩
def Af(r:Rn)(p:Pat)(s:St3):Option Bool:=wH ⟨r.c,s.p,r.lb,NG r s⟩ 21 p.cond
def SY(r:Rn)(p:Pat)(at_:Int):Bool:=r.c.regs.any fun x=>decide (x.ty=p.reg) && decide ((if p.op=3 then x.e else x.b)=at_) && decide (r.bg<=x.b) && decide (x.e<=r.en)
section
variable {α:Type}
def Pow(R:α->α->Prop):Nat->α->α->Prop
 | 0=>fun s t=>s=t
 | n+1=>fun s t=>∃u,R s u/\Pow R n u t
def Star(R:α->α->Prop)(s t:α):Prop:=∃n,Pow R n s t
theorem Pow.add{R:α->α->Prop} :∀ {m n:Nat} {s t u:α},Pow R m s t->Pow R n t u->Pow R (m+n) s u
 | 0,n,s,t,u,h,k=>by cases h;rwa [qtH]
 | m+1,n,s,t,u,⟨v,h1,h2⟩,k=>by
   rw[Nat.succ_add]
   exact⟨v,h1,h2.add k⟩
theorem Star.refl(R:α->α->Prop)(s:α):Star R s s:=⟨0,rfl⟩
theorem Star.one{R:α->α->Prop}{s t:α}(h:R s t):Star R s t:=⟨1,t,h,rfl⟩
theorem Star.trans{R:α->α->Prop}{s t u:α}(h:Star R s t)(k:Star R t u):Star R s u:=by
 obtain⟨m,h⟩:=h
 obtain⟨n,k⟩:=k
 exact⟨m+n,h.add k⟩
theorem Star.mono{R Q:α->α->Prop}(hR:∀s t,R s t->Star Q s t){s t:α}(h:Star R s t):Star Q s t:=by
 obtain⟨n,h⟩:=h
 induction n generalizing s with
 | zero=>cases h;exact .refl _ _
 | succ n ih=>
   obtain⟨u,h1,h2⟩:=h
   exact(hR _ _ h1).trans (ih h2)
theorem Pow.mono{R Q:α->α->Prop}(hR:∀s t,R s t->Q s t):∀ {n:Nat} {s t:α},Pow R n s t->Pow Q n s t
 | 0,_,_,h=>h
 | n+1,_,_,⟨u,h1,h2⟩=>⟨u,hR _ _ h1,h2.mono hR⟩
end
def BQ(R:St3->St3->Prop)(s t:St3):Prop:=R s t/\s.p < t.p
def xn(R:St3->St3->Prop)(mn mx:Int)(s t:St3):Prop:=∃u,Pow R mn.toNat s u/\∃n:Nat,(mx < 0\/mn+n<=mx)/\Pow (BQ R) n u t
def xJ(R:St3->St3->Prop):Prop:=∀s t,R s t->s=t\/s.p < t.p
theorem Pj{R:St3->St3->Prop}(hR:xJ R){s t:St3} :Star (BQ R) s t↔Star R s t:=by
 constructor
 ·exact Star.mono fun s t h=> .one h.1
 ·exact Star.mono fun s t h=>by
   rcases hR s t h with rfl|h2
   ·exact .refl _ _
   ·exact .one ⟨h,h2⟩
theorem rF{R:St3->St3->Prop}(hR:xJ R){mn:Int}{s t:St3} :xn R mn (-1) s t↔ ∃u,Pow R mn.toNat s u/\Star R u t:=by
 constructor
 ·rintro⟨u,h1,n,_,h2⟩
  exact⟨u,h1,(Pj hR).1 ⟨n,h2⟩⟩
 ·rintro⟨u,h1,h2⟩
  obtain⟨n,h2⟩:=(Pj hR).2 h2
  exact⟨u,h1,n, .inl (by decide),h2⟩
theorem Pp{R:St3->St3->Prop}(hR:xJ R)(n:Nat):xJ (Pow R n):=by
 induction n with
 | zero=>intro s t h;exact .inl h
 | succ n ih=>
   rintro s t ⟨u,h1,h2⟩
   rcases hR _ _ h1 with rfl|h1
   ·exact ih _ _ h2
   ·rcases ih _ _ h2 with rfl|h2
    ·exact .inr h1
    ·exact .inr (by omega)
theorem Po{R:St3->St3->Prop}(hR:xJ R)(mn mx:Int):xJ (xn R mn mx):=by
 rintro s t ⟨u,h1,n,_,h2⟩
 have g2:xJ (Pow (BQ R) n):=Pp (fun s t h=>hR s t h.1) n
 rcases Pp hR _ _ _ h1 with rfl|h1
 ·exact g2 _ _ h2
 ·rcases g2 _ _ h2 with rfl|h2
  ·exact .inr h1
  ·exact .inr (by omega)
theorem qbM{R:St3->St3->Prop}(hR:xJ R){m1 m2:Int}(h1:0<=m1/\m1<=1)(h2:0<=m2/\m2<=1)(s t:St3):xn (xn R m2 (-1)) m1 (-1) s t↔xn R (m1*m2) (-1) s t:=by
 have hR2:=Po hR m2 (-1)
 rw[rF hR2,rF hR]
 have sub:∀s t,xn R m2 (-1) s t->Star R s t:=fun s t h=>by
  obtain⟨u,h3,h4⟩:=(rF hR).1 h
  exact Star.trans ⟨_,h3⟩ h4
 have sup:∀s t,R s t->xn R m2 (-1) s t:=fun s t h=>by
  rw[rF hR]
  have:m2=0\/m2=1:=by omega
  rcases this with rfl|rfl
  ·exact⟨s,rfl, .one h⟩
  ·exact⟨t,⟨t,h,rfl⟩, .refl _ _⟩
 have eqS:∀s t,Star (xn R m2 (-1)) s t↔Star R s t:=fun s t=>⟨Star.mono sub,Star.mono fun s t h=> .one (sup s t h)⟩
 have c1:m1=0\/m1=1:=by omega
 rcases c1 with rfl|rfl
 ·rw[Int.zero_mul]
  constructor
  ·rintro⟨u,h3,h4⟩
   cases h3
   exact⟨_,rfl,(eqS _ _).1 h4⟩
  ·rintro⟨u,h3,h4⟩
   cases h3
   exact⟨_,rfl,(eqS _ _).2 h4⟩
 ·rw[Int.one_mul]
  constructor
  ·rintro⟨u,⟨v,h3,h5⟩,h4⟩
   cases h5
   obtain⟨u2,h6,h7⟩:=(rF hR).1 h3
   exact⟨u2,h6,h7.trans ((eqS _ _).1 h4)⟩
  ·rintro⟨u,h3,h4⟩
   exact⟨t,⟨t,(rF hR).2 ⟨u,h3,h4⟩,rfl⟩, .refl _ _⟩
mutual
def kU(r:Rn):Pat->St3->St3->Prop
 | .mk op cond lab reg mn mx ks=>fun s t=>
   if op=1 then s.p < r.en/\Af r (.mk op cond lab reg mn mx ks) s=some true/\t=EB r (.mk op cond lab reg mn mx ks) s
   else if op=2\/op=3 then SY r (.mk op cond lab reg mn mx ks) s.p=true/\t=s
   else if op=4 then uT r ks s t
   else if op=5 then uU r ks s t
   else DI r ks mn mx s t
def uT(r:Rn):List Pat->St3->St3->Prop
 | []=>fun s t=>s=t
 | k::ks=>fun s t=>∃u,kU r k s u/\uT r ks u t
def uU(r:Rn):List Pat->St3->St3->Prop
 | []=>fun _ _=>False
 | k::ks=>fun s t=>kU r k s t\/uU r ks s t
def DI(r:Rn):List Pat->Int->Int->St3->St3->Prop
 | []=>fun _ _ _ _=>False
 | k::_=>fun mn mx s t=>xn (kU r k) mn mx s t
end
mutual
theorem Dj(r:Rn):∀p:Pat,xJ (kU r p)
 | .mk op cond lab reg mn mx ks=>by
   intro s t h
   rw[kU]at h
   split at h
   ·obtain⟨_,_,rfl⟩:=h
    right
    unfold EB
    dsimp only
    split
    ·show s.p < s.p+1;omega
    ·generalize (gy r.lb fun z=>decide (z=lab)).toNat=i
     rcases i with _|_|i
     ·show s.p < s.p+1;omega
     ·show s.p < s.p+1;omega
     ·show s.p < s.p+1;omega
   ·split at h
    ·exact .inl h.2.symm
    ·split at h
     ·exact EJ r ks s t h
     ·split at h
      ·exact Lc r ks s t h
      ·exact Wn r ks mn mx s t h
theorem EJ(r:Rn):∀ks:List Pat,xJ (uT r ks)
 | []=>fun s t h=>by rw[uT]at h;exact .inl h
 | k::ks=>fun s t h=>by
   rw[uT]at h
   obtain⟨u,h1,h2⟩:=h
   rcases Dj r k s u h1 with rfl|h1
   ·exact EJ r ks _ _ h2
   ·rcases EJ r ks u t h2 with rfl|h2
    ·exact .inr h1
    ·exact .inr (by omega)
theorem Lc(r:Rn):∀ks:List Pat,xJ (uU r ks)
 | []=>fun s t h=>by rw[uU]at h;exact h.elim
 | k::ks=>fun s t h=>by
   rw[uU]at h
   rcases h with h|h
   ·exact Dj r k s t h
   ·exact Lc r ks s t h
theorem Wn(r:Rn):∀ (ks:List Pat) (mn mx:Int),xJ (DI r ks mn mx)
 | [],_,_=>fun s t h=>by rw[DI]at h;exact h.elim
 | k::_,mn,mx=>fun s t h=>by
   rw[DI]at h
   exact Po (Dj r k) mn mx s t h
end
end Go.Gv
