/- A part of the framework and of the walks: V18 V19 V58 T37 T38. -/
import Derived.Test.YtphdikcommfnhaaGreatDoorGd37
import Derived.Test.YtphdikcommfnhaaGreatDoorGd19
set_option linter.unusedSimpArgs false
set_option linter.unusedVariables false
set_option linter.unusedSectionVars false
set_option maxRecDepth 100000

namespace Go.Gv
section
variable (N:qe0->Option (qe0×Cond))(O:qe0->Option (qe0×Cond))
end
section
variable (A:qe0->Bool->Option (qe0×Pat))(O:qe0->Option (qe0×Cond))
end
def ou:Glob:=⟨0,E0,E0,E0,E0,E0,false,0,0, [], []⟩
end Go.Gv

namespace Go.Gv
def Yt:B:=⟨#[119,111,114,100]⟩
def Yu:B:=⟨#[116,97,103]⟩
def HO:B:=⟨#[102,101,97,116]⟩
def ValsT:List B:=[⟨#[97]⟩,⟨#[98]⟩,⟨#[97,46,42]⟩,⟨#[91,97,98,93]⟩]
def ValsI:List B:=[⟨#[97]⟩,⟨#[98]⟩,⟨#[97,46,42]⟩,⟨#[91,97,98,93]⟩,⟨#[88]⟩,⟨#[]⟩,⟨#[99,63]⟩,⟨#[97,124,98]⟩,⟨#[89]⟩,⟨#[97,124,88]⟩]
def Attr2:List B:=[Yt,Yu]
def FeatL:List B:=[⟨#[112]⟩,⟨#[113]⟩]
def NumL:List B:=[⟨#[49]⟩,⟨#[50]⟩]
def qlB:B:=⟨#[110]⟩
inductive GA (lb:List B):Cond->Prop
 | val (n v:B) (f:Bool) (h1:n∈Attr2) (h2:v∈ValsI):GA lb ⟨2,n,E0,v,E0,f, []⟩
 | feat (v:B) (h:v∈FeatL):GA lb ⟨3,HO,E0,v,E0,false, []⟩
 | same (n l a:B) (h1:n∈Attr2) (h2:l∈lb) (h3:a∈Attr2):GA lb ⟨4,n,a,E0,l,false, []⟩
 | reg (n:B) (h:n∈Types):GA lb ⟨5,n,E0,E0,E0,false, []⟩
 | regk (n v:B) (h1:n∈Types) (h2:v∈NumL):GA lb ⟨5,n,qlB,v,E0,false, []⟩
inductive GI (lb:List B):Nat->Cond->Prop
 | atom (n:Nat) (c:Cond) (h:GA lb c):GI lb n c
 | not (n:Nat) (k:Cond) (h:GI lb n k):GI lb (n+1) ⟨6,E0,E0,E0,E0,false, [k]⟩
 | two (n:Nat) (op:Int) (a b:Cond) (ho:op=7\/op=8) (h1:GI lb n a) (h2:GI lb n b):GI lb (n+1) ⟨op,E0,E0,E0,E0,false, [a,b]⟩
inductive GC (lb:List B) (n:Nat):Cond->Prop
 | any:GC lb n ⟨1,E0,E0,E0,E0,false, []⟩
 | top (v:B) (f:Bool) (h:v∈ValsT):GC lb n ⟨2,E0,E0,v,E0,f, []⟩
 | inner (c:Cond) (h:GI lb n c):GC lb n c
theorem DD{lb:List B}{c:Cond}(h:GA lb c):c.kids=[]:=by cases h <;> rfl
theorem UN{lb:List B} :∀ {n:Nat} {c:Cond},GI lb n c->CS n c
 | _,_, .atom n c h=>TB (DD h)
 | _,_, .not n k h=>qg9 rfl rfl (UN h)
 | _,_, .two n op a b _ h1 h2=>qg8 rfl rfl (UN h1) (UN h2)
theorem qj8{lb:List B}{n:Nat}{c:Cond}(h:GC lb n c):CS n c:=by
 cases h with
 | any=>exact TB rfl
 | top v f h=>exact TB rfl
 | inner c h=>exact UN h
def qgG(l:List B)(x:B):Bool:=l.any fun z=>decide (z=x)
theorem P3(l:List B)(x:B):qgG l x=true↔x∈l:=by
 unfold qgG
 rw[qva]
 exact⟨fun⟨z,h1,h2⟩=>by rw[decide_eq_true_eq]at h2;rwa [<-h2],fun h=>⟨x,h,decide_eq_true rfl⟩⟩
instance decMem (l:List B) (x:B):Decidable (x∈l):=if h:qgG l x=true then .isTrue ((P3 l x).1 h)else .isFalse fun hx=>h ((P3 l x).2 hx)
def qbp(out:List B)(x:B):List B:=if x∈out then out else out++ [x]
end Go.Gv

namespace Go.Gv
open Go.Proofs
theorem qb1:∀w∈Rb,w∈wordsA:=by decide
theorem qfG:∀w∈qbu,w∈wordsA:=by decide
theorem qdy:∀w∈L7,w∈wordsA:=by decide
theorem qcm:∀w∈ValsI,w∈valsA:=by decide
theorem qaz:ri∈wordsA:=by decide
theorem qeu{toks:List (List B)}(h:∀r∈toks,DW r)(i k:Int):tI toks i k∈wordsA:=by
 unfold tI
 split
 ·exact qaz
 ·split
  ·rename_i r hr
   obtain⟨w,t,f,hw,ht,hf,rfl⟩:=h r (qtY hr)
   split
   ·rename_i s hs
    have hm:=qtY hs
    simp only[qt1,qus,or_false]at hm
    rcases hm with rfl|rfl|rfl
    ·exact qb1 _ hw
    ·exact qfG _ ht
    ·exact qdy _ hf
   ·exact qaz
  ·exact qaz
theorem XN:mE jk HO=2:=by decide
theorem Yg{toks:List (List B)}(h:∀r∈toks,DW r){i:Int}(h0:0<=i)(h1:i < toks.length):∃f∈L7,tI toks i 2=f:=by
 obtain⟨j,rfl⟩:∃j:Nat,i=(j:Int):=⟨i.toNat,by omega⟩
 obtain⟨r,hr⟩:∃r,toks[j]? =some r:=⟨toks[j]'(by omega),qtW _⟩
 obtain⟨w,t,f,hw,ht,hf,rfl⟩:=h r (qtY hr)
 refine⟨f,hf,?_⟩
 unfold tI
 rw[if_neg (by omega),show((j:Int)).toNat=j from rfl,hr]
 rfl
structure qbQ (E:OA):Prop where
 c:OkCorp E.c
 t0:0<=E.tok
 t1:E.tok < E.c.toks.length
 l:E.bd.length=E.lb.length
theorem qj5{E:OA}(hE:qbQ E){n:Nat}{x:Cond}(h:GA E.lb x):∃y,xc E (n+1) x=some y:=by
 cases h with
 | val nm v f h1 h2=>
   obtain⟨y,hy⟩:=I1 (qcm v h2) (qeu hE.c.2.2.2 E.tok (xg E.c.attrs nm)) f
   refine⟨y,?_⟩
   unfold xc
   rw[if_neg (show ¬ (2:Int)=1 by decide),if_pos rfl]
   exact hy
 | feat v h=>
   obtain⟨f,hf,e⟩:=Yg hE.c.2.2.2 hE.t0 hE.t1
   have hv:v=⟨#[112]⟩\/v=⟨#[113]⟩:=by simpa [FeatL]using h
   have hfs:(featS.any fun z=>decide (z=f))=true:=qva.2 ⟨f,hf,decide_eq_true rfl⟩
   refine⟨featS.any (fun _=>false)||f.data.toList.any fun c=>decide (v.data.toList=[c]),?_⟩
   unfold xc
   rw[if_neg (show ¬ (3:Int)=1 by decide),if_neg (show ¬ (3:Int)=2 by decide),if_pos rfl]
   simp only[hE.c.1,XN,e]
   unfold NN
   rw[if_pos ⟨hfs,hv⟩]
   simp
 | same nm l a h1 h2 h3=>
   obtain⟨k,hk⟩:∃k:Nat,gi E.lb (fun z=>decide (z=l))=(k:Int):=by
    rcases BU (fun z=>decide (z=l)) E.lb with⟨e,h⟩|⟨k,_,e,_⟩
    ·have:=h l h2;simp at this
    ·exact⟨k,e⟩
   have hr:=zJ (fun z=>decide (z=l)) E.lb
   obtain⟨o,ho⟩:∃o,E.bd[k]? =some o:=⟨E.bd[k]'(by have:=hE.l;omega),qtW _⟩
   refine⟨decide (0<=o) && decide (tI E.c.toks E.tok (mE E.c.attrs nm)=tI E.c.toks o (mE E.c.attrs a)),?_⟩
   unfold xc
   rw[if_neg (show ¬ (4:Int)=1 by decide),if_neg (show ¬ (4:Int)=2 by decide),if_neg (show ¬ (4:Int)=3 by decide),if_pos rfl]
   simp only[hk]
   rw[if_neg (by omega),show((k:Int)).toNat=k from rfl,ho]
 | reg nm h=>exact⟨_,by unfold xc;rw[if_neg (show ¬ (5:Int)=1 by decide),if_neg (show ¬ (5:Int)=2 by decide),if_neg (show ¬ (5:Int)=3 by decide),if_neg (show ¬ (5:Int)=4 by decide),if_pos rfl]⟩
 | regk nm v h1 h2=>exact⟨_,by unfold xc;rw[if_neg (show ¬ (5:Int)=1 by decide),if_neg (show ¬ (5:Int)=2 by decide),if_neg (show ¬ (5:Int)=3 by decide),if_neg (show ¬ (5:Int)=4 by decide),if_pos rfl]⟩
theorem qgE{E:OA}{n:Nat}{k:Cond}{y:Bool}(h:xc E n k=some y):xc E (n+1) ⟨6,E0,E0,E0,E0,false, [k]⟩=some (!y):=by
 unfold xc
 rw[if_neg (show ¬ (6:Int)=1 by decide),if_neg (show ¬ (6:Int)=2 by decide),if_neg (show ¬ (6:Int)=3 by decide),if_neg (show ¬ (6:Int)=4 by decide),if_neg (show ¬ (6:Int)=5 by decide),if_pos rfl]
 simp only[h]
 rfl
theorem qgF{E:OA}{n:Nat}{a b:Cond}{p q:Bool}(h1:xc E n a=some p)(h2:xc E n b=some q):xc E (n+1) ⟨7,E0,E0,E0,E0,false, [a,b]⟩=some (p && q):=by
 unfold xc
 rw[if_neg (show ¬ (7:Int)=1 by decide),if_neg (show ¬ (7:Int)=2 by decide),if_neg (show ¬ (7:Int)=3 by decide),if_neg (show ¬ (7:Int)=4 by decide),if_neg (show ¬ (7:Int)=5 by decide),if_neg (show ¬ (7:Int)=6 by decide),if_pos (by simp[h1,h2]),if_pos rfl]
 simp[h1,h2]
theorem qj3{E:OA}{n:Nat}{a b:Cond}{p q:Bool}(h1:xc E n a=some p)(h2:xc E n b=some q):xc E (n+1) ⟨8,E0,E0,E0,E0,false, [a,b]⟩=some (p||q):=by
 unfold xc
 rw[if_neg (show ¬ (8:Int)=1 by decide),if_neg (show ¬ (8:Int)=2 by decide),if_neg (show ¬ (8:Int)=3 by decide),if_neg (show ¬ (8:Int)=4 by decide),if_neg (show ¬ (8:Int)=5 by decide),if_neg (show ¬ (8:Int)=6 by decide),if_pos (by simp[h1,h2]),if_neg (show ¬ (8:Int)=7 by decide)]
 simp[h1,h2]
theorem UK{E:OA}(hE:qbQ E):∀ {n m:Nat} {x:Cond},GI E.lb n x->n < m->∃y,xc E m x=some y
 | _,m+1,_, .atom n c h,_=>qj5 hE h
 | _,m+1,_, .not n k h,hm=>by
   obtain⟨y,hy⟩:=UK (m:=m) hE h (by omega)
   exact⟨_,qgE hy⟩
 | _,m+1,_, .two n op a b ho h1 h2,hm=>by
   obtain⟨p,hp⟩:=UK (m:=m) hE h1 (by omega)
   obtain⟨q,hq⟩:=UK (m:=m) hE h2 (by omega)
   rcases ho with rfl|rfl
   ·exact⟨_,qgF hp hq⟩
   ·exact⟨_,qj3 hp hq⟩
theorem qj4{E:OA}(hE:qbQ E){n m:Nat}{x:Cond}(h:GC E.lb n x)(hm:n < m):∃y,xc E m x=some y:=by
 obtain⟨m,rfl⟩:∃k,m=k+1:=⟨m -1,by omega⟩
 cases h with
 | any=>exact⟨true,by unfold xc;rw[if_pos rfl]⟩
 | top v f h=>
   have hv:v∈valsA:=(by decide:∀w∈ValsT,w∈valsA) v h
   obtain⟨y,hy⟩:=I1 hv (qeu hE.c.2.2.2 E.tok (xg E.c.attrs E0)) f
   refine⟨y,?_⟩
   unfold xc
   rw[if_neg (show ¬ (2:Int)=1 by decide),if_pos rfl]
   exact hy
 | inner c h=>exact UK hE h hm
def qiR:Bool:=Attr2.all fun nm=>ValsI.all fun v=>ot jk [] ⟨2,nm,E0,v,E0,false, []⟩ && ot jk [] ⟨2,nm,E0,v,E0,true, []⟩
theorem qfy:qiR=true:=by kernel_rfl
def qiX:Bool:=ValsT.all fun v=>ot jk [] ⟨2,E0,E0,v,E0,false, []⟩ && ot jk [] ⟨2,E0,E0,v,E0,true, []⟩
theorem qfD:qiX=true:=by kernel_rfl
def qgJ:Bool:=FeatL.all fun v=>ot jk [] ⟨3,HO,E0,v,E0,false, []⟩
theorem qdJ:qgJ=true:=by kernel_rfl
def qjk:Bool:=Types.all fun n=>ot jk [] ⟨5,n,E0,E0,E0,false, []⟩ && NumL.all fun v=>ot jk [] ⟨5,n,qlB,v,E0,false, []⟩
theorem Y2:qjk=true:=by kernel_rfl
def qpn:Bool:=Attr2.all fun n=>decide (0<=mE jk n)
theorem qeL:qpn=true:=by kernel_rfl
theorem PE{lb:List B}{nm v:B}{f:Bool} :ot jk lb ⟨2,nm,E0,v,E0,f, []⟩=ot jk [] ⟨2,nm,E0,v,E0,f, []⟩:=rfl
theorem Wy{lb:List B}{v:B} :ot jk lb ⟨3,HO,E0,v,E0,false, []⟩=ot jk [] ⟨3,HO,E0,v,E0,false, []⟩:=rfl
theorem PG{lb:List B}{n a v:B} :ot jk lb ⟨5,n,a,v,E0,false, []⟩=ot jk [] ⟨5,n,a,v,E0,false, []⟩:=rfl
theorem qcQ{lb:List B}{x:Cond}(h:GA lb x):ot jk lb x=true:=by
 cases h with
 | val nm v f h1 h2=>
   rw[PE]
   have h:=qt0.1 (qt0.1 qfy nm h1) v h2
   simp only[qt2]at h
   cases f
   ·exact h.1
   ·exact h.2
 | feat v h=>
   rw[Wy]
   exact qt0.1 qdJ v h
 | same nm l a h1 h2 h3=>
   have e1:=qt0.1 qeL nm h1
   have e2:=qt0.1 qeL a h3
   have e3:(lb.any fun z=>decide (z=l))=true:=qva.2 ⟨l,h2,decide_eq_true rfl⟩
   have s1:qfQ ⟨4,nm,a,E0,l,false, []⟩=true:=by
    unfold qfQ
    rw[if_neg (show ¬ (4:Int)=1 by decide),if_neg (show ¬ (4:Int)=2 by decide),if_neg (show ¬ (4:Int)=3 by decide),if_pos rfl]
    rfl
   have s2:qeM jk ⟨4,nm,a,E0,l,false, []⟩=true:=by
    unfold qeM
    rw[if_neg (show ¬ (4:Int)=2 by decide),if_neg (show ¬ (4:Int)=3 by decide),if_pos rfl]
    exact decide_eq_true ⟨of_decide_eq_true e1,of_decide_eq_true e2⟩
   have s3:qnN jk lb ⟨4,nm,a,E0,l,false, []⟩=true:=by
    unfold qnN
    rw[if_neg (show ¬ (4:Int)=2 by decide),if_neg (show ¬ (4:Int)=3 by decide),if_pos rfl]
    exact e3
   unfold ot
   rw[s1,s2,s3]
   rfl
 | reg nm h=>
   rw[PG]
   have h:=qt0.1 Y2 nm h
   simp only[qt2]at h
   exact h.1
 | regk nm v h1 h2=>
   rw[PG]
   have h:=qt0.1 Y2 nm h1
   simp only[qt2]at h
   exact qt0.1 h.2 v h2
theorem BM{a:List Attr}{lb:List B}{m:Nat}{x:Cond}(h:ot a lb x=true)(hk:x.kids=[]):rk a lb (m+1) x=true:=by
 show(ot a lb x && x.kids.all (rk a lb m))=true
 rw[h,hk];rfl
theorem WA{lb:List B}{m:Nat}{k:Cond}(h:rk jk lb m k=true):rk jk lb (m+1) ⟨6,E0,E0,E0,E0,false, [k]⟩=true:=by
 have e:ot jk lb ⟨6,E0,E0,E0,E0,false, [k]⟩=true:=rfl
 show(ot jk lb ⟨6,E0,E0,E0,E0,false, [k]⟩ && [k].all (rk jk lb m))=true
 rw[e]
 simp[h]
theorem Wz{lb:List B}{m:Nat}{op:Int}{a b:Cond}(ho:op=7\/op=8)(h1:rk jk lb m a=true)(h2:rk jk lb m b=true):rk jk lb (m+1) ⟨op,E0,E0,E0,E0,false, [a,b]⟩=true:=by
 have e:ot jk lb ⟨op,E0,E0,E0,E0,false, [a,b]⟩=true:=by rcases ho with rfl|rfl <;> rfl
 show(ot jk lb ⟨op,E0,E0,E0,E0,false, [a,b]⟩ && [a,b].all (rk jk lb m))=true
 rw[e]
 simp[h1,h2]
theorem Dq{lb:List B} :∀ {n m:Nat} {x:Cond},GI lb n x->n < m->rk jk lb m x=true
 | _,m+1,_, .atom n c h,_=>BM (qcQ h) (DD h)
 | _,m+1,_, .not n k h,hm=>WA (Dq h (by omega))
 | _,m+1,_, .two n op a b ho h1 h2,hm=>Wz ho (Dq h1 (by omega)) (Dq h2 (by omega))
theorem qcX{k:Cond}{op:Int} :pd ⟨op,E0,E0,E0,E0,false, [k]⟩=pd k+1:=by rw[pd,gm,gm]
theorem qcW{a b:Cond}{op:Int} :pd ⟨op,E0,E0,E0,E0,false, [a,b]⟩=pd a+pd b+1:=by rw[pd,gm,gm,gm];omega
theorem qdR{k:Cond}{op:Int} :mg ⟨op,E0,E0,E0,E0,false, [k]⟩=mg k+1:=by rw[mg,kE,kE];omega
theorem qdQ{a b:Cond}{op:Int} :mg ⟨op,E0,E0,E0,E0,false, [a,b]⟩=max (mg a) (mg b) +1:=by rw[mg,kE,kE,kE];omega
theorem Jd{x:Cond}(h:x.kids=[]):pd x=1/\mg x=1:=by
 rw[G0,Oc,h]
 exact⟨rfl,rfl⟩
theorem NQ{lb:List B} :∀ {n:Nat} {x:Cond},GI lb n x->pd x+1<=2^ (n+1)/\mg x<=n+1
 | _,_, .atom n c h=>by
   have:=Jd (DD h)
   have h2:2^1<=2^ (n+1):=Nat.pow_le_pow_right (by decide) (by omega)
   omega
 | _,_, .not n k h=>by
   have:=NQ h
   rw[qcX,qdR,Nat.pow_succ]
   omega
 | _,_, .two n op a b ho h1 h2=>by
   have:=NQ h1
   have:=NQ h2
   rw[qcW,qdQ,Nat.pow_succ]
   omega
theorem qgH{lb:List B}{n:Nat}{x:Cond}(h:GC lb n x):pd x+1<=2^ (n+1)/\mg x<=n+1:=by
 have h2:2^1<=2^ (n+1):=Nat.pow_le_pow_right (by decide) (by omega)
 cases h with
 | any=>have:=Jd (x:=⟨1,E0,E0,E0,E0,false, []⟩) rfl;omega
 | top v f h=>have:=Jd (x:=⟨2,E0,E0,v,E0,f, []⟩) rfl;omega
 | inner c h=>exact NQ h
theorem Zj{lb:List B}{n m:Nat}{x:Cond}(h:GC lb n x)(hm:n < m):rk jk lb m x=true:=by
 obtain⟨m,rfl⟩:∃k,m=k+1:=⟨m -1,by omega⟩
 cases h with
 | any=>exact BM rfl rfl
 | top v f h=>
   refine BM ?_ rfl
   have h:=qt0.1 qfD v h
   simp only[qt2]at h
   rw[PE]
   cases f
   ·exact h.1
   ·exact h.2
 | inner c h=>exact Dq h hm
theorem qgb{a:List Attr}{lb:List B}{x:Cond}(h1:pd x<=60)(h2:mg x<=20)(h3:rk a lb 20 x=true):qgd a lb x=true:=by
 unfold qgd
 rw[decide_eq_true ⟨h1,h2⟩,h3]
 rfl
theorem qgc{lb:List B}{n:Nat}{x:Cond}(h:GC lb n x)(hn:n<=4):qgd jk lb x=true:=by
 obtain⟨h1,h2⟩:=qgH h
 have h3:2^ (n+1)<=2^5:=Nat.pow_le_pow_right (by decide) (by omega)
 exact qgb (by omega) (by omega) (Zj h (by omega))
end Go.Gv

namespace Go.Gv
open Cod (enc dec)
section
variable {S:Nat->Spc}{σ:Sg}{H Hr:ab}{K:D->ab->Prop}
def qgk(dst:Option Nat)(H:ab)(K:D->ab->Prop):Prop:=match dst with
 | some t=>∀x,K (.own t x) (ah H t (some (.mrow x [])))
 | none=>False
@[simp] theorem qpB(t:Nat)(H:ab)(K:D->ab->Prop):qgk (some t) H K=∀x,K (.own t x) (ah H t (some (.mrow x []))):=id rfl
def WN(id:Nat)(x:Value)(ka:Bool)(ks:List KK)(k v:D)(r:Option Res)(H:ab)(K:D->ab->Prop):Prop:=match r with
 | some (.mrow x' es)=>x'=x/\yJ ka ks k v es fun es'=>K .undef (ah H id (some (.mrow x' es')))
 | _=>False
@[simp] theorem qpt(id:Nat)(x x':Value)(ka:Bool)(ks:List KK)(k v:D)(es:List D)(H:ab)(K:D->ab->Prop):WN id x ka ks k v (some (.mrow x' es)) H K=(x'=x/\yJ ka ks k v es fun es'=>K .undef (ah H id (some (.mrow x' es')))):=_root_.id rfl
def Zw(ka:Bool)(ks:List KK)(d k v:D)(H:ab)(K:D->ab->Prop):Prop:=match d with
 | .own id x=>WN id x ka ks k v (H id) H K
 | _=>False
@[simp] theorem qps(id:Nat)(x:Value)(ka:Bool)(ks:List KK)(k v:D)(H:ab)(K:D->ab->Prop):Zw ka ks (.own id x) k v H K=WN id x ka ks k v (H id) H K:=_root_.id rfl
def Zx(dst:Option Nat)(d:D)(H:ab)(K:D->ab->Prop):Prop:=match dst with
 | some t=>(match d with
   | .mp es=>∀b,K (.bptr t b 0) (ah H t (some (.miter b [] es)))
   | .v (.map none)=>∀b,K (.bptr t b 0) (ah H t (some (.miter b [] [])))
   | _=>False)
 | none=>False
@[simp] theorem qpy(t:Nat)(es:List D)(H:ab)(K:D->ab->Prop):Zx (some t) (.mp es) H K=∀b,K (.bptr t b 0) (ah H t (some (.miter b [] es))):=id rfl
def WO(id b:Nat)(r:Option Res)(H:ab)(K:D->ab->Prop):Prop:=match r with
 | some (.miter b' cur left)=>b'=b/\(left=[]->K (.tup [.v (.bool false)]) H)/\∀l1 e l2,left=l1++e::l2->K (.tup [.v (.bool true), .any, .any]) (ah H id (some (.miter b' [e] (l1++l2))))
 | _=>False
@[simp] theorem qpA(id b b':Nat)(cur left:List D)(H:ab)(K:D->ab->Prop):WO id b (some (.miter b' cur left)) H K=(b'=b/\(left=[]->K (.tup [.v (.bool false)]) H)/\∀l1 e l2,left=l1++e::l2->K (.tup [.v (.bool true), .any, .any]) (ah H id (some (.miter b' [e] (l1++l2))))):=_root_.id rfl
def Zz(d:D)(H:ab)(K:D->ab->Prop):Prop:=match d with
 | .bptr id b off=>off=0/\WO id b (H id) H K
 | _=>False
@[simp] theorem qpz(i b off:Nat)(H:ab)(K:D->ab->Prop):Zz (.bptr i b off) H K=(off=0/\WO i b (H i) H K):=id rfl
def WR(b:Nat)(r:Option Res)(K:D->Prop):Prop:=match r with
 | some (.miter b' [e] _)=>b'=b/\K e
 | _=>False
@[simp] theorem qpK(b b':Nat)(e:D)(l:List D)(K:D->Prop):WR b (some (.miter b' [e] l)) K=(b'=b/\K e):=id rfl
def ZE(d:D)(H:ab)(K:D->Prop):Prop:=match d with
 | .bptr id b off=>off=0/\WR b (H id) K
 | _=>False
@[simp] theorem qpJ(i b off:Nat)(H:ab)(K:D->Prop):ZE (.bptr i b off) H K=(off=0/\WR b (H i) K):=id rfl
def qh3(x:Value)(r:Option Res)(K:List D->Prop):Prop:=match r with
 | some (.mrow x' es)=>x'=x/\K es
 | _=>False
@[simp] theorem qst(x x':Value)(es:List D)(K:List D->Prop):qh3 x (some (.mrow x' es)) K=(x'=x/\K es):=id rfl
def qc3(d:D)(H:ab)(K:List D->Prop):Prop:=match d with
 | .mp es=>K es
 | .v (.map none)=>K []
 | .own id x=>qh3 x (H id) K
 | _=>False
@[simp] theorem qss(es:List D)(H:ab)(K:List D->Prop):qc3 (.mp es) H K=K es:=id rfl
@[simp] theorem qsr(i:Nat)(x:Value)(H:ab)(K:List D->Prop):qc3 (.own i x) H K=qh3 x (H i) K:=id rfl
theorem SV(d:D)(H:ab)(K:List D->Prop):zH d H K=qc3 d H K:=by
 unfold zH qc3 qh3
 cases d <;> rfl
def ZD(len sz:Nat)(x i:D)(K:D->Prop):Prop:=match i with
 | .v (.int _ k)=>0<=k/\k < len/\Jt (k.toNat*sz) x K
 | _=>False
@[simp] theorem qpF(len sz:Nat)(x:D)(q:IntKind)(k:Int)(K:D->Prop):ZD len sz x (.v (.int q k)) K=(0<=k/\k < len/\Jt (k.toNat*sz) x K):=id rfl
@[simp] theorem qm9(o:Nat)(cs:List D)(p:Nat)(K:D->Prop):Jt o (.cptr cs p) K=K (.cptr cs (p+o)):=id rfl
@[simp] theorem qna(o i b p:Nat)(K:D->Prop):Jt o (.bptr i b p) K=K (.bptr i b (p+o)):=id rfl
@[congr] theorem qmk{id:Nat}{x:Value}{ka:Bool}{ks:List KK}{k v k' v':D}{r r':Option Res}{H:ab}{K:D->ab->Prop}(h1:k=k')(h2:v=v')(h3:r=r'):WN id x ka ks k v r H K=WN id x ka ks k' v' r' H K:=by subst h1;subst h2;subst h3;rfl
@[congr] theorem qmj{ka:Bool}{ks:List KK}{d d' k v k' v':D}{H:ab}{K:D->ab->Prop}(h0:d=d')(h1:k=k')(h2:v=v'):Zw ka ks d k v H K=Zw ka ks d' k' v' H K:=by subst h0;subst h1;subst h2;rfl
@[congr] theorem qiU{ka:Bool}{ks:List KK}{k v k' v':D}{es es':List D}{K:List D->Prop}(h1:k=k')(h2:v=v')(h3:es=es'):yJ ka ks k v es K=yJ ka ks k' v' es' K:=by subst h1;subst h2;subst h3;rfl
@[congr] theorem qh5{ok agg ka:Bool}{ks:List KK}{z:List Value}{k k':D}{es es':List D}{K:D->Prop}(h1:k=k')(h3:es=es'):uW ok agg ka ks z k es K=uW ok agg ka ks z k' es' K:=by subst h1;subst h3;rfl
@[congr] theorem qml{t:Option Nat}{d d':D}{H:ab}{K:D->ab->Prop}(h:d=d'):Zx t d H K=Zx t d' H K:=by subst h;rfl
@[congr] theorem qmn{id b:Nat}{r r':Option Res}{H:ab}{K:D->ab->Prop}(h:r=r'):WO id b r H K=WO id b r' H K:=by subst h;rfl
@[congr] theorem qmm{d d':D}{H:ab}{K:D->ab->Prop}(h:d=d'):Zz d H K=Zz d' H K:=by subst h;rfl
@[congr] theorem qmt{b:Nat}{r r':Option Res}{K:D->Prop}(h:r=r'):WR b r K=WR b r' K:=by subst h;rfl
@[congr] theorem qms{d d':D}{H:ab}{K:D->Prop}(h:d=d'):ZE d H K=ZE d' H K:=by subst h;rfl
@[congr] theorem qpr{x:Value}{r r':Option Res}{K:List D->Prop}(h:r=r'):qh3 x r K=qh3 x r' K:=by subst h;rfl
@[congr] theorem qpq{d d':D}{H:ab}{K:List D->Prop}(h:d=d'):qc3 d H K=qc3 d' H K:=by subst h;rfl
@[congr] theorem qmr{len sz:Nat}{x x' i i':D}{K:D->Prop}(h:x=x')(h2:i=i'):ZD len sz x i K=ZD len sz x' i' K:=by subst h;subst h2;rfl
@[simp ↓] theorem qsV(dst:Option Nat):ay S (.m .mk []) dst σ H K=qgk dst H K:=by cases dst <;> rfl
@[simp ↓] theorem qsb(dst:Option Nat):ax S (.m .mk []) dst σ Hr H K=qgk dst H K:=by cases dst <;> rfl
@[simp ↓] theorem qqZ(dst:Option Nat)(ka:Bool)(ks:List KK)(x k v:Operand):ay S (.m (.upd ka ks) [x,k,v]) dst σ H K=Zw ka ks (ev σ x) (ev σ k) (ev σ v) H K:=by
 show iQ (.upd ka ks) [ev σ x,ev σ k,ev σ v] dst H K=_
 unfold Zw WN
 cases ev σ x <;> rfl
@[simp ↓] theorem qq0(dst:Option Nat)(x:Operand):ay S (.m .rng [x]) dst σ H K=Zx dst (ev σ x) H K:=by
 show iQ .rng [ev σ x] dst H K=_
 unfold Zx
 cases dst <;> rfl
@[simp ↓] theorem qnV(dst:Option Nat)(x:Operand):ay S (.m .next [x]) dst σ H K=Zz (ev σ x) H K:=by
 show iQ .next [ev σ x] dst H K=_
 unfold Zz WO
 cases ev σ x <;> rfl
@[simp ↓] theorem qkO(dst:Option Nat)(x:Operand):ay S (.m .entry [x]) dst σ H K=ZE (ev σ x) H (fun d=>K d H):=by
 show iQ .entry [ev σ x] dst H K=_
 unfold ZE WR
 cases ev σ x <;> rfl
@[simp ↓] theorem qnW(dst:Option Nat)(ok agg ka:Bool)(ks:List KK)(z:List Value)(x k:Operand):ay S (.m (.look ok agg ka ks z) [x,k]) dst σ H K=qc3 (ev σ x) H fun es=>uW ok agg ka ks z (ev σ k) es fun d=>K d H:=by
 rw[<-SV];rfl
@[simp ↓] theorem ql1(dst:Option Nat)(ok agg ka:Bool)(ks:List KK)(z:List Value)(x k:Operand):ax S (.m (.look ok agg ka ks z) [x,k]) dst σ Hr H K=qc3 (ev σ x) Hr fun es=>uW ok agg ka ks z (ev σ k) es fun d=>K d H:=by
 rw[<-SV];rfl
@[simp ↓] theorem qq1(dst:Option Nat)(x:Operand):ay S (.m .len [x]) dst σ H K=qc3 (ev σ x) H fun es=>K (.v (.int .i64 es.length)) H:=by
 rw[<-SV];rfl
@[simp ↓] theorem qnX(dst:Option Nat)(len sz:Nat)(x i:Operand):ay S (.m (.aidx len sz) [x,i]) dst σ H K=ZD len sz (ev σ x) (ev σ i) (fun d=>K d H):=by
 show tX (.aidx len sz) [ev σ x,ev σ i] H (fun d=>K d H)=_
 unfold ZD
 cases ev σ i <;> first|rfl|skip
 rename_i v
 cases v <;> rfl
end
end Go.Gv

namespace Go.Gv
open Cod (enc dec)
@[simp] theorem qrG(a:D)(es:List D):Rd a (.mp es)=(a= .mp es):=id rfl
theorem I0{a b:D}(ha:DX a=true)(hb:DX b=true)(h:F3 a b):a=b:=by
 obtain⟨tp,I,w,x,h1,h2⟩:=h
 have one:∀d:D,DX d=true->(∃cs,d= .agg cs)\/ ∃v,d= .v v:=fun d hd=>by
  cases d <;> first|exact .inl ⟨_,rfl⟩|exact .inr ⟨_,rfl⟩|(simp[DX,D.cells,qh9]at hd)
 rcases one a ha with⟨cs,rfl⟩|⟨v,rfl⟩ <;> rcases one b hb with⟨cs',rfl⟩|⟨v',rfl⟩
 ·obtain⟨xs,rfl,hl,hc⟩:=h1.inv_agg
  obtain⟨ys,he,hl2,hc2⟩:=h2.inv_agg
  have hxy:xs=ys:=by simpa using he
  subst hxy
  have hce:cs=cs':=by
   refine qvZ (by omega) fun i h3 h4=>?_
   have hi:i < xs.length:=by omega
   have v1:qh9 cs[i]=true:=qt0.1 ha _ (by simp[D.cells])
   have v2:qh9 cs'[i]=true:=qt0.1 hb _ (by simp[D.cells])
   have r1:=(hc i _ _ (qtW hi) (qtW h3)).2
   have r2:=(hc2 i _ _ (qtW hi) (qtW h4)).2
   generalize cs[i]=p at*
   generalize cs'[i]=q at*
   cases p <;> first|(cases v1;done)|skip
   cases q <;> first|(cases v2;done)|skip
   rw[<-r1.inv_v,<-r2.inv_v]
  rw[hce]
 ·obtain⟨xs,rfl,_,_⟩:=h1.inv_agg
  have:=h2.inv_v
  cases h2 with
  | v _ h _=>simp[Value.oneCell']at h
 ·obtain⟨xs,rfl,_,_⟩:=h2.inv_agg
  cases h1 with
  | v _ h _=>simp[Value.oneCell']at h
 ·rw[<-h1.inv_v,<-h2.inv_v]
structure TX (X:Type) [Cod X] (ka:Bool) (ks:List KK):Prop where
 fit:∀x:X,K0 ka ks (enc x)=true
 pur:∀x:X,DX (enc x)=true
section
variable {X:Type}[Cod X][DecidableEq X]
def bz(l:List X):List D:=l.map fun x=> .tup [enc x, .v (.bool true)]
def uX(x:X)(l:List X):List X:=if x∈l then l else l++ [x]
@[simp] theorem dL{x y:X}{l:List X} :y∈uX x l↔y=x\/y∈l:=by
 unfold uX
 split
 ·rename_i h
  exact⟨.inr,fun h2=>h2.elim (fun e=>e ▸h) id⟩
 ·simp[or_comm]
theorem sT{x:X}{l:List X}(h:l.Nodup):(uX x l).Nodup:=by
 unfold uX
 split
 ·exact h
 ·rename_i hx
  rw[qvq]
  exact⟨h,by simp,fun a ha b hb=>by simp at hb;subst hb;exact fun e=>hx (e ▸ha)⟩
theorem zF{x:X}{v:D}{l:List X} :D.tup [enc x,v] ∈bz l↔x∈l/\v= .v (.bool true):=by
 simp only[bz,qt9,D.tup.injEq,quk,and_true]
 exact⟨fun⟨y,h1,h2,h3⟩=>⟨aL h2 ▸h1,h3.symm⟩,fun⟨h1,h2⟩=>⟨x,h1,rfl,h2.symm⟩⟩
theorem Pl{d:D}{l:List X}(h:d∈bz l):∃x∈l,d= .tup [enc x, .v (.bool true)]:=by
 obtain⟨x,h1,rfl⟩:=qt9.1 h
 exact⟨x,h1,rfl⟩
theorem gq:∀ {l:List X} {l1 l2:List D} {e:D},bz l=l1++e::l2->∃a x b,l=a++x::b/\l1=bz a/\e= .tup [enc x, .v (.bool true)]/\l2=bz b
 | [],l1,l2,e,h=>by
   have:=congrArg List.length h
   simp[bz]at this
 | y::l, [],l2,e,h=>by
   simp only[bz,qun,quR,quk]at h
   exact⟨[],y,l,rfl,rfl,h.1.symm,h.2.symm⟩
 | y::l,d::l1,l2,e,h=>by
   simp only[bz,qun,quI,quk]at h
   obtain⟨a,x,b,rfl,rfl,h3,h4⟩:=gq (l:=l) h.2
   exact⟨y::a,x,b,rfl,by simp[bz,h.1],h3,h4⟩
theorem gX(a b:List X):bz (a++b)=bz a++bz b:=by simp[bz]
theorem Pm{ka:Bool}{ks:List KK}(hK:TX X ka ks)(l:List X):(bz l).all (Qh ka ks)=true:=by
 rw[qt0]
 intro d hd
 obtain⟨x,_,rfl⟩:=Pl hd
 exact hK.fit x
theorem qcq{ka:Bool}{ks:List KK}(hK:TX X ka ks){x:X}{l:List X}{k:D}{K:List D->Prop}(hk:k=enc x)(h:K (bz (uX x l))):yJ ka ks k (.v (.bool true)) (bz l) K:=by
 subst hk
 refine⟨Pm hK l,hK.fit x,fun l1 k' v' l2 e m=>?_,fun hn=>?_⟩
 ·obtain⟨a,y,b,rfl,rfl,h3,rfl⟩:=gq e
  simp only[D.tup.injEq,quk,and_true]at h3
  obtain⟨rfl,rfl⟩:=h3
  have:=aL (I0 (hK.pur x) (hK.pur y) m)
  subst this
  rw[<-e]
  have:uX x (a++x::b)=a++x::b:=by unfold uX;rw[if_pos (by simp)]
  rw[this]at h
  exact h
 ·have hx:x∉l:=fun hx=>hn (hK.pur x) _ (zF.2 ⟨hx,rfl⟩)
  have:uX x l=l++ [x]:=by unfold uX;rw[if_neg hx]
  rw[this,gX]at h
  exact h
theorem ZJ{ok:Bool}{ka:Bool}{ks:List KK}(hK:TX X ka ks){x:X}{l:List X}{k:D}{K:D->Prop}(hk:k=enc x)(h:K (qdc ok (.v (.bool (decide (x∈l)))) (decide (x∈l)))):
 uW ok false ka ks [.bool false] k (bz l) K:=by
 subst hk
 refine⟨Pm hK l,hK.fit x,fun k' v hm m=>?_,fun hn=>?_⟩
 ·obtain⟨y,hy,e⟩:=Pl hm
  simp only[D.tup.injEq,quk,and_true]at e
  obtain⟨rfl,rfl⟩:=e
  have:=aL (I0 (hK.pur x) (hK.pur y) m)
  subst this
  simpa [hy]using h
 ·have hx:x∉l:=fun hx=>hn (hK.pur x) _ (zF.2 ⟨hx,rfl⟩)
  simpa [hx]using h
theorem FR{ok:Bool}{ka:Bool}{ks:List KK}(hK:TX X ka ks)(x:X)(hM:F3 (enc x) (enc x))(l:List X)(K:D->Prop):uW ok false ka ks [.bool false] (enc x) (bz l) K=K (qdc ok (.v (.bool (decide (x∈l)))) (decide (x∈l))):=by
 refine propext ⟨fun⟨_,_,h1,h2⟩=>?_,ZJ hK rfl⟩
 by_cases hx:x∈l
 ·have:=h1 (enc x) (.v (.bool true)) (zF.2 ⟨hx,rfl⟩) hM
  simpa [hx]using this
 ·have:=h2 fun _ v hm=>hx (zF.1 hm).1
  simpa [hx,OD,uY]using this
end
@[simp] theorem qsv(v:D)(b:Bool):qdc false v b=v:=id rfl
end Go.Gv
