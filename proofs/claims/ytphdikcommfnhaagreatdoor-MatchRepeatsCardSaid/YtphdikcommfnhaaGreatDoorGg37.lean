/- A part of the framework and of the walks: V19 V58 T37 T38. -/
import Derived.Test.YtphdikcommfnhaaGreatDoorGg36
import Derived.Test.YtphdikcommfnhaaGreatDoorGg19
set_option linter.unusedSimpArgs false
set_option linter.unusedVariables false
set_option linter.unusedSectionVars false
set_option maxRecDepth 100000

namespace Go.Gv
def Xx:B:=⟨#[119,111,114,100]⟩
def Xy:B:=⟨#[116,97,103]⟩
def GY:B:=⟨#[102,101,97,116]⟩
def ValsT:List B:=[⟨#[97]⟩,⟨#[98]⟩,⟨#[97,46,42]⟩,⟨#[91,97,98,93]⟩]
def ValsI:List B:=[⟨#[97]⟩,⟨#[98]⟩,⟨#[97,46,42]⟩,⟨#[91,97,98,93]⟩,⟨#[88]⟩,⟨#[]⟩,⟨#[99,63]⟩,⟨#[97,124,98]⟩,⟨#[89]⟩,⟨#[97,124,88]⟩]
def Attr2:List B:=[Xx,Xy]
def FeatL:List B:=[⟨#[112]⟩,⟨#[113]⟩]
def NumL:List B:=[⟨#[49]⟩,⟨#[50]⟩]
def qlo:B:=⟨#[110]⟩
inductive GA (lb:List B):Cond->Prop
 | val (n v:B) (f:Bool) (h1:n∈Attr2) (h2:v∈ValsI):GA lb ⟨2,n,E0,v,E0,f, []⟩
 | feat (v:B) (h:v∈FeatL):GA lb ⟨3,GY,E0,v,E0,false, []⟩
 | same (n l a:B) (h1:n∈Attr2) (h2:l∈lb) (h3:a∈Attr2):GA lb ⟨4,n,a,E0,l,false, []⟩
 | reg (n:B) (h:n∈Types):GA lb ⟨5,n,E0,E0,E0,false, []⟩
 | regk (n v:B) (h1:n∈Types) (h2:v∈NumL):GA lb ⟨5,n,qlo,v,E0,false, []⟩
inductive GI (lb:List B):Nat->Cond->Prop
 | atom (n:Nat) (c:Cond) (h:GA lb c):GI lb n c
 | not (n:Nat) (k:Cond) (h:GI lb n k):GI lb (n+1) ⟨6,E0,E0,E0,E0,false, [k]⟩
 | two (n:Nat) (op:Int) (a b:Cond) (ho:op=7\/op=8) (h1:GI lb n a) (h2:GI lb n b):GI lb (n+1) ⟨op,E0,E0,E0,E0,false, [a,b]⟩
inductive GC (lb:List B) (n:Nat):Cond->Prop
 | any:GC lb n ⟨1,E0,E0,E0,E0,false, []⟩
 | top (v:B) (f:Bool) (h:v∈ValsT):GC lb n ⟨2,E0,E0,v,E0,f, []⟩
 | inner (c:Cond) (h:GI lb n c):GC lb n c
theorem C9{lb:List B}{c:Cond}(h:GA lb c):c.kids=[]:=by cases h <;> rfl
theorem TI{lb:List B} :∀ {n:Nat} {c:Cond},GI lb n c->CS n c
 | _,_, .atom n c h=>Sb (C9 h)
 | _,_, .not n k h=>qgX rfl rfl (TI h)
 | _,_, .two n op a b _ h1 h2=>qgW rfl rfl (TI h1) (TI h2)
theorem qjT{lb:List B}{n:Nat}{c:Cond}(h:GC lb n c):CS n c:=by
 cases h with
 | any=>exact Sb rfl
 | top v f h=>exact Sb rfl
 | inner c h=>exact TI h
def qgu(l:List B)(x:B):Bool:=l.any fun z=>decide (z=x)
theorem Pd(l:List B)(x:B):qgu l x=true↔x∈l:=by
 unfold qgu
 rw[quN]
 exact⟨fun⟨z,h1,h2⟩=>by rw[decide_eq_true_eq]at h2;rwa [<-h2],fun h=>⟨x,h,decide_eq_true rfl⟩⟩
instance decMem (l:List B) (x:B):Decidable (x∈l):=if h:qgu l x=true then .isTrue ((Pd l x).1 h)else .isFalse fun hx=>h ((Pd l x).2 hx)
def EO(out:List B)(x:B):List B:=if x∈out then out else out++ [x]
mutual
def J5:Pat->List B->List B
 | .mk op c l r mn mx ks,out=>if op=1/\l≠E0 then EO out l else Qi ks out
def Qi:List Pat->List B->List B
 | [],out=>out
 | k::ks,out=>Qi ks (J5 k out)
end
theorem IQ:∀ (l:List Pat) (out:List B),Qi l out=l.foldl (fun o k=>J5 k o) out
 | [],out=>by rw[Qi];rfl
 | k::l,out=>by rw[Qi,IQ l];rfl
theorem Ng(p:Pat)(out:List B):J5 p out=if p.op=1/\p.lab≠E0 then EO out p.lab else p.kids.foldl (fun o k=>J5 k o) out:=by
 cases p;rw[J5,IQ]
theorem qaR{out:List B}{x y:B}(h:y∈EO out x):y∈out\/y=x:=by
 unfold EO at h
 split at h
 ·exact .inl h
 ·rcases qtK.1 h with h|h
  ·exact .inl h
  ·exact .inr (by simpa using h)
theorem qdI{lb:List B} :∀n p,WP lb n p->∀out,(∀y∈J5 p out,y∈out\/y∈lb):=by
 refine Gl fun n p hp ih=>fun out y hy=>?_
 rw[Ng]at hy
 split at hy
 ·rename_i h
  rcases qaR hy with h1|rfl
  ·exact .inl h1
  ·rcases xL hp with(⟨h1,h2,_⟩|⟨h1,_⟩)|⟨m,rfl,(⟨h1,_⟩|⟨h1,_⟩)⟩
   ·exact .inr (h2.resolve_left h.2)
   ·omega
   ·omega
   ·omega
 ·have:∀ (ks:List Pat) (o:List B),(∀k∈ks,k∈p.kids)->y∈ks.foldl (fun o k=>J5 k o) o->y∈o\/y∈lb:=by
   intro ks
   induction ks with
   | nil=>intro o _ h;exact .inl h
   | cons k ks ihk=>
     intro o hk h
     rw[quR]at h
     rcases ihk _ (fun z hz=>hk z (by simp[hz])) h with h1|h1
     ·obtain⟨m,_,_,h2⟩:=ih k (hk k (by simp))
      exact h2 o y h1
     ·exact .inr h1
  exact this p.kids out (fun _ h=>h) hy
end Go.Gv

namespace Go.Gv
open Go.Proofs
theorem qbx:∀w∈Qq,w∈wordsA:=by decide
theorem qfs:∀w∈qaY,w∈wordsA:=by decide
theorem qc8:∀w∈Lo,w∈wordsA:=by decide
theorem qbR:∀w∈ValsI,w∈valsA:=by decide
theorem Z4:qz∈wordsA:=by decide
theorem qd5{toks:List (List B)}(h:∀r∈toks,Dp r)(i k:Int):sL toks i k∈wordsA:=by
 unfold sL
 split
 ·exact Z4
 ·split
  ·rename_i r hr
   obtain⟨w,t,f,hw,ht,hf,rfl⟩:=h r (qtJ hr)
   split
   ·rename_i s hs
    have hm:=qtJ hs
    simp only[qtM,quc,or_false]at hm
    rcases hm with rfl|rfl|rfl
    ·exact qbx _ hw
    ·exact qfs _ ht
    ·exact qc8 _ hf
   ·exact Z4
  ·exact Z4
theorem WJ:je iu GY=2:=by decide
theorem Xk{toks:List (List B)}(h:∀r∈toks,Dp r){i:Int}(h0:0<=i)(h1:i < toks.length):∃f∈Lo,sL toks i 2=f:=by
 obtain⟨j,rfl⟩:∃j:Nat,i=(j:Int):=⟨i.toNat,by omega⟩
 obtain⟨r,hr⟩:∃r,toks[j]? =some r:=⟨toks[j]'(by omega),qtH _⟩
 obtain⟨w,t,f,hw,ht,hf,rfl⟩:=h r (qtJ hr)
 refine⟨f,hf,?_⟩
 unfold sL
 rw[if_neg (by omega),show((j:Int)).toNat=j from rfl,hr]
 rfl
structure qbj (E:ND):Prop where
 c:OkCorp E.c
 t0:0<=E.tok
 t1:E.tok < E.c.toks.length
 l:E.bd.length=E.lb.length
theorem qjP{E:ND}(hE:qbj E){n:Nat}{x:Cond}(h:GA E.lb x):∃y,wi E (n+1) x=some y:=by
 cases h with
 | val nm v f h1 h2=>
   obtain⟨y,hy⟩:=HU (qbR v h2) (qd5 hE.c.2.2.2 E.tok (wk E.c.attrs nm)) f
   refine⟨y,?_⟩
   unfold wi
   rw[if_neg (show ¬ (2:Int)=1 by decide),if_pos rfl]
   exact hy
 | feat v h=>
   obtain⟨f,hf,e⟩:=Xk hE.c.2.2.2 hE.t0 hE.t1
   have hv:v=⟨#[112]⟩\/v=⟨#[113]⟩:=by simpa [FeatL]using h
   have hfs:(featS.any fun z=>decide (z=f))=true:=quN.2 ⟨f,hf,decide_eq_true rfl⟩
   refine⟨featS.any (fun _=>false)||f.data.toList.any fun c=>decide (v.data.toList=[c]),?_⟩
   unfold wi
   rw[if_neg (show ¬ (3:Int)=1 by decide),if_neg (show ¬ (3:Int)=2 by decide),if_pos rfl]
   simp only[hE.c.1,WJ,e]
   unfold MN
   rw[if_pos ⟨hfs,hv⟩]
   simp
 | same nm l a h1 h2 h3=>
   obtain⟨k,hk⟩:∃k:Nat,fS E.lb (fun z=>decide (z=l))=(k:Int):=by
    rcases Bo (fun z=>decide (z=l)) E.lb with⟨e,h⟩|⟨k,_,e,_⟩
    ·have:=h l h2;simp at this
    ·exact⟨k,e⟩
   have hr:=uU (fun z=>decide (z=l)) E.lb
   obtain⟨o,ho⟩:∃o,E.bd[k]? =some o:=⟨E.bd[k]'(by have:=hE.l;omega),qtH _⟩
   refine⟨decide (0<=o) && decide (sL E.c.toks E.tok (je E.c.attrs nm)=sL E.c.toks o (je E.c.attrs a)),?_⟩
   unfold wi
   rw[if_neg (show ¬ (4:Int)=1 by decide),if_neg (show ¬ (4:Int)=2 by decide),if_neg (show ¬ (4:Int)=3 by decide),if_pos rfl]
   simp only[hk]
   rw[if_neg (by omega),show((k:Int)).toNat=k from rfl,ho]
 | reg nm h=>exact⟨_,by unfold wi;rw[if_neg (show ¬ (5:Int)=1 by decide),if_neg (show ¬ (5:Int)=2 by decide),if_neg (show ¬ (5:Int)=3 by decide),if_neg (show ¬ (5:Int)=4 by decide),if_pos rfl]⟩
 | regk nm v h1 h2=>exact⟨_,by unfold wi;rw[if_neg (show ¬ (5:Int)=1 by decide),if_neg (show ¬ (5:Int)=2 by decide),if_neg (show ¬ (5:Int)=3 by decide),if_neg (show ¬ (5:Int)=4 by decide),if_pos rfl]⟩
theorem qgs{E:ND}{n:Nat}{k:Cond}{y:Bool}(h:wi E n k=some y):wi E (n+1) ⟨6,E0,E0,E0,E0,false, [k]⟩=some (!y):=by
 unfold wi
 rw[if_neg (show ¬ (6:Int)=1 by decide),if_neg (show ¬ (6:Int)=2 by decide),if_neg (show ¬ (6:Int)=3 by decide),if_neg (show ¬ (6:Int)=4 by decide),if_neg (show ¬ (6:Int)=5 by decide),if_pos rfl]
 simp only[h]
 rfl
theorem qgt{E:ND}{n:Nat}{a b:Cond}{p q:Bool}(h1:wi E n a=some p)(h2:wi E n b=some q):wi E (n+1) ⟨7,E0,E0,E0,E0,false, [a,b]⟩=some (p && q):=by
 unfold wi
 rw[if_neg (show ¬ (7:Int)=1 by decide),if_neg (show ¬ (7:Int)=2 by decide),if_neg (show ¬ (7:Int)=3 by decide),if_neg (show ¬ (7:Int)=4 by decide),if_neg (show ¬ (7:Int)=5 by decide),if_neg (show ¬ (7:Int)=6 by decide),if_pos (by simp[h1,h2]),if_pos rfl]
 simp[h1,h2]
theorem qjN{E:ND}{n:Nat}{a b:Cond}{p q:Bool}(h1:wi E n a=some p)(h2:wi E n b=some q):wi E (n+1) ⟨8,E0,E0,E0,E0,false, [a,b]⟩=some (p||q):=by
 unfold wi
 rw[if_neg (show ¬ (8:Int)=1 by decide),if_neg (show ¬ (8:Int)=2 by decide),if_neg (show ¬ (8:Int)=3 by decide),if_neg (show ¬ (8:Int)=4 by decide),if_neg (show ¬ (8:Int)=5 by decide),if_neg (show ¬ (8:Int)=6 by decide),if_pos (by simp[h1,h2]),if_neg (show ¬ (8:Int)=7 by decide)]
 simp[h1,h2]
theorem TE{E:ND}(hE:qbj E):∀ {n m:Nat} {x:Cond},GI E.lb n x->n < m->∃y,wi E m x=some y
 | _,m+1,_, .atom n c h,_=>qjP hE h
 | _,m+1,_, .not n k h,hm=>by
   obtain⟨y,hy⟩:=TE (m:=m) hE h (by omega)
   exact⟨_,qgs hy⟩
 | _,m+1,_, .two n op a b ho h1 h2,hm=>by
   obtain⟨p,hp⟩:=TE (m:=m) hE h1 (by omega)
   obtain⟨q,hq⟩:=TE (m:=m) hE h2 (by omega)
   rcases ho with rfl|rfl
   ·exact⟨_,qgt hp hq⟩
   ·exact⟨_,qjN hp hq⟩
theorem qjO{E:ND}(hE:qbj E){n m:Nat}{x:Cond}(h:GC E.lb n x)(hm:n < m):∃y,wi E m x=some y:=by
 obtain⟨m,rfl⟩:∃k,m=k+1:=⟨m -1,by omega⟩
 cases h with
 | any=>exact⟨true,by unfold wi;rw[if_pos rfl]⟩
 | top v f h=>
   have hv:v∈valsA:=(by decide:∀w∈ValsT,w∈valsA) v h
   obtain⟨y,hy⟩:=HU hv (qd5 hE.c.2.2.2 E.tok (wk E.c.attrs E0)) f
   refine⟨y,?_⟩
   unfold wi
   rw[if_neg (show ¬ (2:Int)=1 by decide),if_pos rfl]
   exact hy
 | inner c h=>exact TE hE h hm
def qiB:Bool:=Attr2.all fun nm=>ValsI.all fun v=>iH iu [] ⟨2,nm,E0,v,E0,false, []⟩ && iH iu [] ⟨2,nm,E0,v,E0,true, []⟩
theorem qfk:qiB=true:=by kernel_rfl
def qiH:Bool:=ValsT.all fun v=>iH iu [] ⟨2,E0,E0,v,E0,false, []⟩ && iH iu [] ⟨2,E0,E0,v,E0,true, []⟩
theorem qfp:qiH=true:=by kernel_rfl
def qgx:Bool:=FeatL.all fun v=>iH iu [] ⟨3,GY,E0,v,E0,false, []⟩
theorem qdj:qgx=true:=by kernel_rfl
def qi4:Bool:=Types.all fun n=>iH iu [] ⟨5,n,E0,E0,E0,false, []⟩ && NumL.all fun v=>iH iu [] ⟨5,n,qlo,v,E0,false, []⟩
theorem Yw:qi4=true:=by kernel_rfl
def qo9:Bool:=Attr2.all fun n=>decide (0<=je iu n)
theorem qes:qo9=true:=by kernel_rfl
theorem OO{lb:List B}{nm v:B}{f:Bool} :iH iu lb ⟨2,nm,E0,v,E0,f, []⟩=iH iu [] ⟨2,nm,E0,v,E0,f, []⟩:=rfl
theorem Vs{lb:List B}{v:B} :iH iu lb ⟨3,GY,E0,v,E0,false, []⟩=iH iu [] ⟨3,GY,E0,v,E0,false, []⟩:=rfl
theorem OP{lb:List B}{n a v:B} :iH iu lb ⟨5,n,a,v,E0,false, []⟩=iH iu [] ⟨5,n,a,v,E0,false, []⟩:=rfl
theorem qco{lb:List B}{x:Cond}(h:GA lb x):iH iu lb x=true:=by
 cases h with
 | val nm v f h1 h2=>
   rw[OO]
   have h:=qtL.1 (qtL.1 qfk nm h1) v h2
   simp only[qtN]at h
   cases f
   ·exact h.1
   ·exact h.2
 | feat v h=>
   rw[Vs]
   exact qtL.1 qdj v h
 | same nm l a h1 h2 h3=>
   have e1:=qtL.1 qes nm h1
   have e2:=qtL.1 qes a h3
   have e3:(lb.any fun z=>decide (z=l))=true:=quN.2 ⟨l,h2,decide_eq_true rfl⟩
   have s1:qfC ⟨4,nm,a,E0,l,false, []⟩=true:=by
    unfold qfC
    rw[if_neg (show ¬ (4:Int)=1 by decide),if_neg (show ¬ (4:Int)=2 by decide),if_neg (show ¬ (4:Int)=3 by decide),if_pos rfl]
    rfl
   have s2:qcy iu ⟨4,nm,a,E0,l,false, []⟩=true:=by
    unfold qcy
    rw[if_neg (show ¬ (4:Int)=2 by decide),if_neg (show ¬ (4:Int)=3 by decide),if_pos rfl]
    exact decide_eq_true ⟨of_decide_eq_true e1,of_decide_eq_true e2⟩
   have s3:qkv iu lb ⟨4,nm,a,E0,l,false, []⟩=true:=by
    unfold qkv
    rw[if_neg (show ¬ (4:Int)=2 by decide),if_neg (show ¬ (4:Int)=3 by decide),if_pos rfl]
    exact e3
   unfold iH
   rw[s1,s2,s3]
   rfl
 | reg nm h=>
   rw[OP]
   have h:=qtL.1 Yw nm h
   simp only[qtN]at h
   exact h.1
 | regk nm v h1 h2=>
   rw[OP]
   have h:=qtL.1 Yw nm h1
   simp only[qtN]at h
   exact qtL.1 h.2 v h2
theorem Bf{a:List Attr}{lb:List B}{m:Nat}{x:Cond}(h:iH a lb x=true)(hk:x.kids=[]):nA a lb (m+1) x=true:=by
 show(iH a lb x && x.kids.all (nA a lb m))=true
 rw[h,hk];rfl
theorem Vu{lb:List B}{m:Nat}{k:Cond}(h:nA iu lb m k=true):nA iu lb (m+1) ⟨6,E0,E0,E0,E0,false, [k]⟩=true:=by
 have e:iH iu lb ⟨6,E0,E0,E0,E0,false, [k]⟩=true:=rfl
 show(iH iu lb ⟨6,E0,E0,E0,E0,false, [k]⟩ && [k].all (nA iu lb m))=true
 rw[e]
 simp[h]
theorem Vt{lb:List B}{m:Nat}{op:Int}{a b:Cond}(ho:op=7\/op=8)(h1:nA iu lb m a=true)(h2:nA iu lb m b=true):nA iu lb (m+1) ⟨op,E0,E0,E0,E0,false, [a,b]⟩=true:=by
 have e:iH iu lb ⟨op,E0,E0,E0,E0,false, [a,b]⟩=true:=by rcases ho with rfl|rfl <;> rfl
 show(iH iu lb ⟨op,E0,E0,E0,E0,false, [a,b]⟩ && [a,b].all (nA iu lb m))=true
 rw[e]
 simp[h1,h2]
theorem CW{lb:List B} :∀ {n m:Nat} {x:Cond},GI lb n x->n < m->nA iu lb m x=true
 | _,m+1,_, .atom n c h,_=>Bf (qco h) (C9 h)
 | _,m+1,_, .not n k h,hm=>Vu (CW h (by omega))
 | _,m+1,_, .two n op a b ho h1 h2,hm=>Vt ho (CW h1 (by omega)) (CW h2 (by omega))
theorem qcv{k:Cond}{op:Int} :kR ⟨op,E0,E0,E0,E0,false, [k]⟩=kR k+1:=by rw[kR,fG,fG]
theorem qcu{a b:Cond}{op:Int} :kR ⟨op,E0,E0,E0,E0,false, [a,b]⟩=kR a+kR b+1:=by rw[kR,fG,fG,fG];omega
theorem qdr{k:Cond}{op:Int} :jd ⟨op,E0,E0,E0,E0,false, [k]⟩=jd k+1:=by rw[jd,jz,jz];omega
theorem qdq{a b:Cond}{op:Int} :jd ⟨op,E0,E0,E0,E0,false, [a,b]⟩=max (jd a) (jd b) +1:=by rw[jd,jz,jz,jz];omega
theorem H6{x:Cond}(h:x.kids=[]):kR x=1/\jd x=1:=by
 rw[CX,Nf,h]
 exact⟨rfl,rfl⟩
theorem MQ{lb:List B} :∀ {n:Nat} {x:Cond},GI lb n x->kR x+1<=2^ (n+1)/\jd x<=n+1
 | _,_, .atom n c h=>by
   have:=H6 (C9 h)
   have h2:2^1<=2^ (n+1):=Nat.pow_le_pow_right (by decide) (by omega)
   omega
 | _,_, .not n k h=>by
   have:=MQ h
   rw[qcv,qdr,Nat.pow_succ]
   omega
 | _,_, .two n op a b ho h1 h2=>by
   have:=MQ h1
   have:=MQ h2
   rw[qcu,qdq,Nat.pow_succ]
   omega
theorem qgv{lb:List B}{n:Nat}{x:Cond}(h:GC lb n x):kR x+1<=2^ (n+1)/\jd x<=n+1:=by
 have h2:2^1<=2^ (n+1):=Nat.pow_le_pow_right (by decide) (by omega)
 cases h with
 | any=>have:=H6 (x:=⟨1,E0,E0,E0,E0,false, []⟩) rfl;omega
 | top v f h=>have:=H6 (x:=⟨2,E0,E0,v,E0,f, []⟩) rfl;omega
 | inner c h=>exact MQ h
theorem YN{lb:List B}{n m:Nat}{x:Cond}(h:GC lb n x)(hm:n < m):nA iu lb m x=true:=by
 obtain⟨m,rfl⟩:∃k,m=k+1:=⟨m -1,by omega⟩
 cases h with
 | any=>exact Bf rfl rfl
 | top v f h=>
   refine Bf ?_ rfl
   have h:=qtL.1 qfp v h
   simp only[qtN]at h
   rw[OO]
   cases f
   ·exact h.1
   ·exact h.2
 | inner c h=>exact CW h hm
theorem qfZ{a:List Attr}{lb:List B}{x:Cond}(h1:kR x<=60)(h2:jd x<=20)(h3:nA a lb 20 x=true):qbr a lb x=true:=by
 unfold qbr
 rw[decide_eq_true ⟨h1,h2⟩,h3]
 rfl
theorem qf0{lb:List B}{n:Nat}{x:Cond}(h:GC lb n x)(hn:n<=4):qbr iu lb x=true:=by
 obtain⟨h1,h2⟩:=qgv h
 have h3:2^ (n+1)<=2^5:=Nat.pow_le_pow_right (by decide) (by omega)
 exact qfZ (by omega) (by omega) (YN h (by omega))
end Go.Gv

namespace Go.Gv
open Cod (enc dec)
section
variable {S:Nat->Spc}{σ:Sg}{H Hr:ab}{K:D->ab->Prop}
def qf6(dst:Option Nat)(H:ab)(K:D->ab->Prop):Prop:=match dst with
 | some t=>∀x,K (.own t x) (ah H t (some (.mrow x [])))
 | none=>False
@[simp] theorem qpn(t:Nat)(H:ab)(K:D->ab->Prop):qf6 (some t) H K=∀x,K (.own t x) (ah H t (some (.mrow x []))):=id rfl
def VF(id:Nat)(x:Value)(ka:Bool)(ks:List KK)(k v:D)(r:Option Res)(H:ab)(K:D->ab->Prop):Prop:=match r with
 | some (.mrow x' es)=>x'=x/\Ai ka ks k v es fun es'=>K .undef (ah H id (some (.mrow x' es')))
 | _=>False
@[simp] theorem qpf(id:Nat)(x x':Value)(ka:Bool)(ks:List KK)(k v:D)(es:List D)(H:ab)(K:D->ab->Prop):VF id x ka ks k v (some (.mrow x' es)) H K=(x'=x/\Ai ka ks k v es fun es'=>K .undef (ah H id (some (.mrow x' es')))):=_root_.id rfl
def Y0(ka:Bool)(ks:List KK)(d k v:D)(H:ab)(K:D->ab->Prop):Prop:=match d with
 | .own id x=>VF id x ka ks k v (H id) H K
 | _=>False
@[simp] theorem qpe(id:Nat)(x:Value)(ka:Bool)(ks:List KK)(k v:D)(H:ab)(K:D->ab->Prop):Y0 ka ks (.own id x) k v H K=VF id x ka ks k v (H id) H K:=_root_.id rfl
def Y1(dst:Option Nat)(d:D)(H:ab)(K:D->ab->Prop):Prop:=match dst with
 | some t=>(match d with
   | .mp es=>∀b,K (.bptr t b 0) (ah H t (some (.miter b [] es)))
   | .v (.map none)=>∀b,K (.bptr t b 0) (ah H t (some (.miter b [] [])))
   | _=>False)
 | none=>False
@[simp] theorem qpk(t:Nat)(es:List D)(H:ab)(K:D->ab->Prop):Y1 (some t) (.mp es) H K=∀b,K (.bptr t b 0) (ah H t (some (.miter b [] es))):=id rfl
def VG(id b:Nat)(r:Option Res)(H:ab)(K:D->ab->Prop):Prop:=match r with
 | some (.miter b' cur left)=>b'=b/\(left=[]->K (.tup [.v (.bool false)]) H)/\∀l1 e l2,left=l1++e::l2->K (.tup [.v (.bool true), .any, .any]) (ah H id (some (.miter b' [e] (l1++l2))))
 | _=>False
@[simp] theorem qpm(id b b':Nat)(cur left:List D)(H:ab)(K:D->ab->Prop):VG id b (some (.miter b' cur left)) H K=(b'=b/\(left=[]->K (.tup [.v (.bool false)]) H)/\∀l1 e l2,left=l1++e::l2->K (.tup [.v (.bool true), .any, .any]) (ah H id (some (.miter b' [e] (l1++l2))))):=_root_.id rfl
def Y3(d:D)(H:ab)(K:D->ab->Prop):Prop:=match d with
 | .bptr id b off=>off=0/\VG id b (H id) H K
 | _=>False
@[simp] theorem qpl(i b off:Nat)(H:ab)(K:D->ab->Prop):Y3 (.bptr i b off) H K=(off=0/\VG i b (H i) H K):=id rfl
def VI(b:Nat)(r:Option Res)(K:D->Prop):Prop:=match r with
 | some (.miter b' [e] _)=>b'=b/\K e
 | _=>False
@[simp] theorem qpw(b b':Nat)(e:D)(l:List D)(K:D->Prop):VI b (some (.miter b' [e] l)) K=(b'=b/\K e):=id rfl
def Y8(d:D)(H:ab)(K:D->Prop):Prop:=match d with
 | .bptr id b off=>off=0/\VI b (H id) K
 | _=>False
@[simp] theorem qpv(i b off:Nat)(H:ab)(K:D->Prop):Y8 (.bptr i b off) H K=(off=0/\VI b (H i) K):=id rfl
def qhN(x:Value)(r:Option Res)(K:List D->Prop):Prop:=match r with
 | some (.mrow x' es)=>x'=x/\K es
 | _=>False
@[simp] theorem qsc(x x':Value)(es:List D)(K:List D->Prop):qhN x (some (.mrow x' es)) K=(x'=x/\K es):=id rfl
def qcC(d:D)(H:ab)(K:List D->Prop):Prop:=match d with
 | .mp es=>K es
 | .v (.map none)=>K []
 | .own id x=>qhN x (H id) K
 | _=>False
@[simp] theorem qsb(es:List D)(H:ab)(K:List D->Prop):qcC (.mp es) H K=K es:=id rfl
@[simp] theorem qsa(i:Nat)(x:Value)(H:ab)(K:List D->Prop):qcC (.own i x) H K=qhN x (H i) K:=id rfl
theorem RD(d:D)(H:ab)(K:List D->Prop):yG d H K=qcC d H K:=by
 unfold yG qcC qhN
 cases d <;> rfl
def Y7(len sz:Nat)(x i:D)(K:D->Prop):Prop:=match i with
 | .v (.int _ k)=>0<=k/\k < len/\Il (k.toNat*sz) x K
 | _=>False
@[simp] theorem qpr(len sz:Nat)(x:D)(q:IntKind)(k:Int)(K:D->Prop):Y7 len sz x (.v (.int q k)) K=(0<=k/\k < len/\Il (k.toNat*sz) x K):=id rfl
@[simp] theorem qmU(o:Nat)(cs:List D)(p:Nat)(K:D->Prop):Il o (.cptr cs p) K=K (.cptr cs (p+o)):=id rfl
@[simp] theorem qmV(o i b p:Nat)(K:D->Prop):Il o (.bptr i b p) K=K (.bptr i b (p+o)):=id rfl
@[congr] theorem ql6{id:Nat}{x:Value}{ka:Bool}{ks:List KK}{k v k' v':D}{r r':Option Res}{H:ab}{K:D->ab->Prop}(h1:k=k')(h2:v=v')(h3:r=r'):VF id x ka ks k v r H K=VF id x ka ks k' v' r' H K:=by subst h1;subst h2;subst h3;rfl
@[congr] theorem ql5{ka:Bool}{ks:List KK}{d d' k v k' v':D}{H:ab}{K:D->ab->Prop}(h0:d=d')(h1:k=k')(h2:v=v'):Y0 ka ks d k v H K=Y0 ka ks d' k' v' H K:=by subst h0;subst h1;subst h2;rfl
@[congr] theorem qiE{ka:Bool}{ks:List KK}{k v k' v':D}{es es':List D}{K:List D->Prop}(h1:k=k')(h2:v=v')(h3:es=es'):Ai ka ks k v es K=Ai ka ks k' v' es' K:=by subst h1;subst h2;subst h3;rfl
@[congr] theorem qhP{ok agg ka:Bool}{ks:List KK}{z:List Value}{k k':D}{es es':List D}{K:D->Prop}(h1:k=k')(h3:es=es'):vZ ok agg ka ks z k es K=vZ ok agg ka ks z k' es' K:=by subst h1;subst h3;rfl
@[congr] theorem ql7{t:Option Nat}{d d':D}{H:ab}{K:D->ab->Prop}(h:d=d'):Y1 t d H K=Y1 t d' H K:=by subst h;rfl
@[congr] theorem ql9{id b:Nat}{r r':Option Res}{H:ab}{K:D->ab->Prop}(h:r=r'):VG id b r H K=VG id b r' H K:=by subst h;rfl
@[congr] theorem ql8{d d':D}{H:ab}{K:D->ab->Prop}(h:d=d'):Y3 d H K=Y3 d' H K:=by subst h;rfl
@[congr] theorem qmf{b:Nat}{r r':Option Res}{K:D->Prop}(h:r=r'):VI b r K=VI b r' K:=by subst h;rfl
@[congr] theorem qme{d d':D}{H:ab}{K:D->Prop}(h:d=d'):Y8 d H K=Y8 d' H K:=by subst h;rfl
@[congr] theorem qpd{x:Value}{r r':Option Res}{K:List D->Prop}(h:r=r'):qhN x r K=qhN x r' K:=by subst h;rfl
@[congr] theorem qpc{d d':D}{H:ab}{K:List D->Prop}(h:d=d'):qcC d H K=qcC d' H K:=by subst h;rfl
@[congr] theorem qmd{len sz:Nat}{x x' i i':D}{K:D->Prop}(h:x=x')(h2:i=i'):Y7 len sz x i K=Y7 len sz x' i' K:=by subst h;subst h2;rfl
@[simp ↓] theorem qsE(dst:Option Nat):ax S (.m .mk []) dst σ H K=qf6 dst H K:=by cases dst <;> rfl
@[simp ↓] theorem qrU(dst:Option Nat):av S (.m .mk []) dst σ Hr H K=qf6 dst H K:=by cases dst <;> rfl
@[simp ↓] theorem qqM(dst:Option Nat)(ka:Bool)(ks:List KK)(x k v:Operand):ax S (.m (.upd ka ks) [x,k,v]) dst σ H K=Y0 ka ks (ev σ x) (ev σ k) (ev σ v) H K:=by
 show ib (.upd ka ks) [ev σ x,ev σ k,ev σ v] dst H K=_
 unfold Y0 VF
 cases ev σ x <;> rfl
@[simp ↓] theorem qqN(dst:Option Nat)(x:Operand):ax S (.m .rng [x]) dst σ H K=Y1 dst (ev σ x) H K:=by
 show ib .rng [ev σ x] dst H K=_
 unfold Y1
 cases dst <;> rfl
@[simp ↓] theorem qnF(dst:Option Nat)(x:Operand):ax S (.m .next [x]) dst σ H K=Y3 (ev σ x) H K:=by
 show ib .next [ev σ x] dst H K=_
 unfold Y3 VG
 cases ev σ x <;> rfl
@[simp ↓] theorem qkC(dst:Option Nat)(x:Operand):ax S (.m .entry [x]) dst σ H K=Y8 (ev σ x) H (fun d=>K d H):=by
 show ib .entry [ev σ x] dst H K=_
 unfold Y8 VI
 cases ev σ x <;> rfl
@[simp ↓] theorem qnG(dst:Option Nat)(ok agg ka:Bool)(ks:List KK)(z:List Value)(x k:Operand):ax S (.m (.look ok agg ka ks z) [x,k]) dst σ H K=qcC (ev σ x) H fun es=>vZ ok agg ka ks z (ev σ k) es fun d=>K d H:=by
 rw[<-RD];rfl
@[simp ↓] theorem qlO(dst:Option Nat)(ok agg ka:Bool)(ks:List KK)(z:List Value)(x k:Operand):av S (.m (.look ok agg ka ks z) [x,k]) dst σ Hr H K=qcC (ev σ x) Hr fun es=>vZ ok agg ka ks z (ev σ k) es fun d=>K d H:=by
 rw[<-RD];rfl
@[simp ↓] theorem qqO(dst:Option Nat)(x:Operand):ax S (.m .len [x]) dst σ H K=qcC (ev σ x) H fun es=>K (.v (.int .i64 es.length)) H:=by
 rw[<-RD];rfl
@[simp ↓] theorem qnH(dst:Option Nat)(len sz:Nat)(x i:Operand):ax S (.m (.aidx len sz) [x,i]) dst σ H K=Y7 len sz (ev σ x) (ev σ i) (fun d=>K d H):=by
 show ta (.aidx len sz) [ev σ x,ev σ i] H (fun d=>K d H)=_
 unfold Y7
 cases ev σ i <;> first|rfl|skip
 rename_i v
 cases v <;> rfl
end
end Go.Gv

namespace Go.Gv
open Cod (enc dec)
@[simp] theorem qrs(a:D)(es:List D):Qs a (.mp es)=(a= .mp es):=id rfl
theorem HT{a b:D}(ha:Dr a=true)(hb:Dr b=true)(h:IX a b):a=b:=by
 obtain⟨tp,I,w,x,h1,h2⟩:=h
 have one:∀d:D,Dr d=true->(∃cs,d= .agg cs)\/ ∃v,d= .v v:=fun d hd=>by
  cases d <;> first|exact .inl ⟨_,rfl⟩|exact .inr ⟨_,rfl⟩|(simp[Dr,D.cells,qhT]at hd)
 rcases one a ha with⟨cs,rfl⟩|⟨v,rfl⟩ <;> rcases one b hb with⟨cs',rfl⟩|⟨v',rfl⟩
 ·obtain⟨xs,rfl,hl,hc⟩:=h1.inv_agg
  obtain⟨ys,he,hl2,hc2⟩:=h2.inv_agg
  have hxy:xs=ys:=by simpa using he
  subst hxy
  have hce:cs=cs':=by
   refine qvJ (by omega) fun i h3 h4=>?_
   have hi:i < xs.length:=by omega
   have v1:qhT cs[i]=true:=qtL.1 ha _ (by simp[D.cells])
   have v2:qhT cs'[i]=true:=qtL.1 hb _ (by simp[D.cells])
   have r1:=(hc i _ _ (qtH hi) (qtH h3)).2
   have r2:=(hc2 i _ _ (qtH hi) (qtH h4)).2
   generalize cs[i]=p at*
   generalize cs'[i]=q at*
   cases p <;> first|(cases v1;done)|skip
   cases q <;> first|(cases v2;done)|skip
   rw[<-r1.inv_v,<-r2.inv_v]
  rw[hce]
 ·obtain⟨xs,rfl,_,_⟩:=h1.inv_agg
  have:=h2.inv_v
  cases h2 with
  | v _ h _=>simp[Value.oneCell']at h
 ·obtain⟨xs,rfl,_,_⟩:=h2.inv_agg
  cases h1 with
  | v _ h _=>simp[Value.oneCell']at h
 ·rw[<-h1.inv_v,<-h2.inv_v]
structure WO (X:Type) [Cod X] (ka:Bool) (ks:List KK):Prop where
 fit:∀x:X,JT ka ks (enc x)=true
 pur:∀x:X,Dr (enc x)=true
section
variable {X:Type}[Cod X][DecidableEq X]
def bc(l:List X):List D:=l.map fun x=> .tup [enc x, .v (.bool true)]
def wh(x:X)(l:List X):List X:=if x∈l then l else l++ [x]
@[simp] theorem dS{x y:X}{l:List X} :y∈wh x l↔y=x\/y∈l:=by
 unfold wh
 split
 ·rename_i h
  exact⟨.inr,fun h2=>h2.elim (fun e=>e ▸h) id⟩
 ·simp[or_comm]
theorem wg{x:X}{l:List X}(h:l.Nodup):(wh x l).Nodup:=by
 unfold wh
 split
 ·exact h
 ·rename_i hx
  rw[quY]
  exact⟨h,by simp,fun a ha b hb=>by simp at hb;subst hb;exact fun e=>hx (e ▸ha)⟩
theorem yE{x:X}{v:D}{l:List X} :D.tup [enc x,v] ∈bc l↔x∈l/\v= .v (.bool true):=by
 simp only[bc,qtU,D.tup.injEq,qt5,and_true]
 exact⟨fun⟨y,h1,h2,h3⟩=>⟨aL h2 ▸h1,h3.symm⟩,fun⟨h1,h2⟩=>⟨x,h1,rfl,h2.symm⟩⟩
theorem Ok{d:D}{l:List X}(h:d∈bc l):∃x∈l,d= .tup [enc x, .v (.bool true)]:=by
 obtain⟨x,h1,rfl⟩:=qtU.1 h
 exact⟨x,h1,rfl⟩
theorem fI:∀ {l:List X} {l1 l2:List D} {e:D},bc l=l1++e::l2->∃a x b,l=a++x::b/\l1=bc a/\e= .tup [enc x, .v (.bool true)]/\l2=bc b
 | [],l1,l2,e,h=>by
   have:=congrArg List.length h
   simp[bc]at this
 | y::l, [],l2,e,h=>by
   simp only[bc,qt7,quD,qt5]at h
   exact⟨[],y,l,rfl,rfl,h.1.symm,h.2.symm⟩
 | y::l,d::l1,l2,e,h=>by
   simp only[bc,qt7,quv,qt5]at h
   obtain⟨a,x,b,rfl,rfl,h3,h4⟩:=fI (l:=l) h.2
   exact⟨y::a,x,b,rfl,by simp[bc,h.1],h3,h4⟩
theorem gm(a b:List X):bc (a++b)=bc a++bc b:=by simp[bc]
theorem Ol{ka:Bool}{ks:List KK}(hK:WO X ka ks)(l:List X):(bc l).all (Pq ka ks)=true:=by
 rw[qtL]
 intro d hd
 obtain⟨x,_,rfl⟩:=Ok hd
 exact hK.fit x
theorem qbW{ka:Bool}{ks:List KK}(hK:WO X ka ks){x:X}{l:List X}{k:D}{K:List D->Prop}(hk:k=enc x)(h:K (bc (wh x l))):Ai ka ks k (.v (.bool true)) (bc l) K:=by
 subst hk
 refine⟨Ol hK l,hK.fit x,fun l1 k' v' l2 e m=>?_,fun hn=>?_⟩
 ·obtain⟨a,y,b,rfl,rfl,h3,rfl⟩:=fI e
  simp only[D.tup.injEq,qt5,and_true]at h3
  obtain⟨rfl,rfl⟩:=h3
  have:=aL (HT (hK.pur x) (hK.pur y) m)
  subst this
  rw[<-e]
  have:wh x (a++x::b)=a++x::b:=by unfold wh;rw[if_pos (by simp)]
  rw[this]at h
  exact h
 ·have hx:x∉l:=fun hx=>hn (hK.pur x) _ (yE.2 ⟨hx,rfl⟩)
  have:wh x l=l++ [x]:=by unfold wh;rw[if_neg hx]
  rw[this,gm]at h
  exact h
theorem Zd{ok:Bool}{ka:Bool}{ks:List KK}(hK:WO X ka ks){x:X}{l:List X}{k:D}{K:D->Prop}(hk:k=enc x)(h:K (qeu ok (.v (.bool (decide (x∈l)))) (decide (x∈l)))):
 vZ ok false ka ks [.bool false] k (bc l) K:=by
 subst hk
 refine⟨Ol hK l,hK.fit x,fun k' v hm m=>?_,fun hn=>?_⟩
 ·obtain⟨y,hy,e⟩:=Ok hm
  simp only[D.tup.injEq,qt5,and_true]at e
  obtain⟨rfl,rfl⟩:=e
  have:=aL (HT (hK.pur x) (hK.pur y) m)
  subst this
  simpa [hy]using h
 ·have hx:x∉l:=fun hx=>hn (hK.pur x) _ (yE.2 ⟨hx,rfl⟩)
  simpa [hx]using h
theorem O0{ok:Bool}{ka:Bool}{ks:List KK}(hK:WO X ka ks)(x:X)(hM:IX (enc x) (enc x))(l:List X)(K:D->Prop):vZ ok false ka ks [.bool false] (enc x) (bc l) K=K (qeu ok (.v (.bool (decide (x∈l)))) (decide (x∈l))):=by
 refine propext ⟨fun⟨_,_,h1,h2⟩=>?_,Zd hK rfl⟩
 by_cases hx:x∈l
 ·have:=h1 (enc x) (.v (.bool true)) (yE.2 ⟨hx,rfl⟩) hM
  simpa [hx]using this
 ·have:=h2 fun _ v hm=>hx (yE.1 hm).1
  simpa [hx,NE,uf]using this
end
@[simp] theorem qse(v:D)(b:Bool):qeu false v b=v:=id rfl
end Go.Gv
