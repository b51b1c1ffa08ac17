/- V58 -/
import Derived.Test.YtnffegdacbdhmaaGreatDoorGe12
set_option linter.all false
set_option maxRecDepth 100000
set_option maxHeartbeats 0
open Bool renaming forall_bool → fB', exists_bool → eB'
namespace Go.Gv
section
open Go.Proofs
def qmA:∀w∈qaG,w∈wordsA:=by decide
def qqJ:∀w∈qlV,w∈wordsA:=by decide
def qoj:∀w∈TR,w∈wordsA:=by decide
def qm1:∀w∈ValsI,w∈valsA:=by decide
def qkP:mq∈wordsA:=by decide
def qpi{toks:List (List B)}(h:∀r∈toks,JI r)(i k:Int):ya toks i k∈wordsA:=by
 unfold ya;split
 ·exact qkP
 ·split
  ·rename_i r a;obtain⟨w,t,f,b,c,d,rfl⟩:=h r (qFF a);split
   ·rename_i s hs;have hm:=qFF hs;simp only[qFK,qGd,or_false]at hm;rcases hm with rfl|rfl|rfl
    ·exact qmA _ b
    ·exact qqJ _ c
    ·exact qoj _ d
   ·exact qkP
  ·exact qkP
def qg5:mN ij Om=2:=by decide
def qhz{toks:List (List B)}(h:∀r∈toks,JI r){i:Int}(h0:0<=i)(h1:i<toks.length):∃f∈TR,ya toks i 2=f:=by
 obtain⟨j,rfl⟩:∃j:Nat,i=(j:Int):=⟨i.toNat,by omega⟩
 obtain⟨r,a⟩:∃r,toks[j]? =some r:=⟨toks[j]'(by omega),qFC _⟩
 obtain⟨w,t,f,c,d,b,rfl⟩:=h r (qFF a);refine⟨f,b,?_⟩;unfold ya;rw[if_neg (by omega),show((j:Int)).toNat=j from rfl,a];rfl
structure JM (E:R8):Prop where
 c:OkCorp E.c
 t0:0<=E.tok
 t1:E.tok<E.c.toks.length
 l:E.bd.length=E.lb.length
theorem qpN{E:R8}(b:JM E){n:Nat}{x:Cond}(h:GA E.lb x):∃y,nJ E (n+1) x=some y:=by
 cases h with
 | val nm v f h1 h2=>
   obtain⟨y,j⟩:=PE (qm1 v h2) (qpi b.c.2.2.2 E.tok (BN E.c.attrs nm)) f;refine⟨y,?_⟩;unfold nJ;rw[if_neg (show ¬(2:Int)=1 by decide),if_pos rfl];exact j
 | feat v h=>
   obtain⟨f,p,e⟩:=qhz b.c.2.2.2 b.t0 b.t1;have q:v=⟨#[112]⟩\/v=⟨#[113]⟩:=by simpa [FeatL]using h
   have d:(featS.any λz=>decide (z=f))=true:=qGP.2 ⟨f,p,decide_eq_true rfl⟩;refine⟨featS.any (λ_=>false)||f.data.toList.any λc=>decide (v.data.toList=[c]),?_⟩;unfold nJ;rw[if_neg (show ¬(3:Int)=1 by decide),if_neg (show ¬(3:Int)=2 by decide),if_pos rfl];simp only[b.c.1,qg5,e];unfold VS;rw[if_pos ⟨d,q⟩];simp
 | same nm l a h1 h2 h3=>
   obtain⟨k,hk⟩:∃k:Nat,fe E.lb (λz=>decide (z=l))=(k:Int):=by
    rcases G7 (λz=>decide (z=l)) E.lb with⟨e,h⟩|⟨k,_,e,_⟩
    ·have:=h l h2;simp at this
    ·exact⟨k,e⟩
   have r:=D6 (λz=>decide (z=l)) E.lb;obtain⟨o,ho⟩:∃o,E.bd[k]? =some o:=⟨E.bd[k]'(by have:=b.l;omega),qFC _⟩
   refine⟨decide (0<=o) && decide (ya E.c.toks E.tok (mN E.c.attrs nm)=ya E.c.toks o (mN E.c.attrs a)),?_⟩;unfold nJ;rw[if_neg (show ¬(4:Int)=1 by decide),if_neg (show ¬(4:Int)=2 by decide),if_neg (show ¬(4:Int)=3 by decide),if_pos rfl];simp only[hk];rw[if_neg (by omega),show((k:Int)).toNat=k from rfl,ho]
 |reg nm h=>exact⟨_,by unfold nJ;rw[if_neg (show ¬(5:Int)=1 by decide),if_neg (show ¬(5:Int)=2 by decide),if_neg (show ¬(5:Int)=3 by decide),if_neg (show ¬(5:Int)=4 by decide),if_pos rfl]⟩
 |regk nm v h1 h2=>exact⟨_,by unfold nJ;rw[if_neg (show ¬(5:Int)=1 by decide),if_neg (show ¬(5:Int)=2 by decide),if_neg (show ¬(5:Int)=3 by decide),if_neg (show ¬(5:Int)=4 by decide),if_pos rfl]⟩
def zU{X:Type}{p q:X->Bool} :∀{l:List X},(∀x∈l,p x=q x)->l.any p=l.any q
 | [],_=>rfl
 |x::l,h=>by rw[List.any_cons,List.any_cons,h x (by simp),zU λy a=>h y (by simp[a])]
def qj5{E:R8}{n:Nat}{k:Cond}{y:Bool}(h:nJ E n k=some y):nJ E (n+1) ⟨6,E0,E0,E0,E0,false, [k]⟩=some (!y):=by
 unfold nJ;rw[if_neg (show ¬(6:Int)=1 by decide),if_neg (show ¬(6:Int)=2 by decide),if_neg (show ¬(6:Int)=3 by decide),if_neg (show ¬(6:Int)=4 by decide),if_neg (show ¬(6:Int)=5 by decide),if_pos rfl];simp only[h];rfl
def VR{E:R8}{n:Nat}{a b:Cond}{p q:Bool}(h1:nJ E n a=some p)(h2:nJ E n b=some q):nJ E (n+1) ⟨7,E0,E0,E0,E0,false, [a,b]⟩=some (p && q):=by
 unfold nJ;rw[if_neg (show ¬(7:Int)=1 by decide),if_neg (show ¬(7:Int)=2 by decide),if_neg (show ¬(7:Int)=3 by decide),if_neg (show ¬(7:Int)=4 by decide),if_neg (show ¬(7:Int)=5 by decide),if_neg (show ¬(7:Int)=6 by decide),if_pos (by simp[h1,h2]),if_pos rfl];simp[h1,h2]
def qee{E:R8}{n:Nat}{a b:Cond}{p q:Bool}(h1:nJ E n a=some p)(h2:nJ E n b=some q):nJ E (n+1) ⟨8,E0,E0,E0,E0,false, [a,b]⟩=some (p||q):=by
 unfold nJ;rw[if_neg (show ¬(8:Int)=1 by decide),if_neg (show ¬(8:Int)=2 by decide),if_neg (show ¬(8:Int)=3 by decide),if_neg (show ¬(8:Int)=4 by decide),if_neg (show ¬(8:Int)=5 by decide),if_neg (show ¬(8:Int)=6 by decide),if_pos (by simp[h1,h2]),if_neg (show ¬(8:Int)=7 by decide)];simp[h1,h2]
def Tl{E:R8}(d:JM E):∀{n m:Nat} {x:Cond},GI E.lb n x->n<m->∃y,nJ E m x=some y
 | _,m+1,_, .atom n c h,_=>qpN d h
 | _,m+1,_, .not n k h,hm=>by
   obtain⟨y,l⟩:=Tl (m:=m) d h (by omega);exact⟨_,qj5 l⟩
 | _,m+1,_, .two n op a b ho h1 h2,hm=>by
   obtain⟨p,hp⟩:=Tl (m:=m) d h1 (by omega);obtain⟨q,j⟩:=Tl (m:=m) d h2 (by omega);rcases ho with rfl|rfl
   ·exact⟨_,VR hp j⟩
   ·exact⟨_,qee hp j⟩
def qj6{E:R8}(a:JM E){n m:Nat}{x:Cond}(h:GC E.lb n x)(hm:n<m):∃y,nJ E m x=some y:=by
 obtain⟨m,rfl⟩:∃k,m=k+1:=⟨m -1,by omega⟩
 cases h with
 |any=>exact⟨true,by unfold nJ;rw[if_pos rfl]⟩
 | top v f h=>
   have b:v∈valsA:=(by decide:∀w∈ValsT,w∈valsA) v h;obtain⟨y,d⟩:=PE b (qpi a.c.2.2.2 E.tok (BN E.c.attrs E0)) f;refine⟨y,?_⟩;unfold nJ;rw[if_neg (show ¬(2:Int)=1 by decide),if_pos rfl];exact d
 |inner c h=>exact Tl a h hm
def qt1:Bool:=Attr2.all λnm=>ValsI.all λv=>rV ij [] ⟨2,nm,E0,v,E0,false, []⟩ && rV ij [] ⟨2,nm,E0,v,E0,true, []⟩
def qqC:qt1=true:=by kernel_rfl
def qt7:Bool:=ValsT.all λv=>rV ij [] ⟨2,E0,E0,v,E0,false, []⟩ && rV ij [] ⟨2,E0,E0,v,E0,true, []⟩
def qqH:qt7=true:=by kernel_rfl
def qrS:Bool:=FeatL.all λv=>rV ij [] ⟨3,Om,E0,v,E0,false, []⟩
def qos:qrS=true:=by kernel_rfl
def quy:Bool:=Types.all λn=>rV ij [] ⟨5,n,E0,E0,E0,false, []⟩ && NumL.all λv=>rV ij [] ⟨5,n,qwX,v,E0,false, []⟩
def qi2:quy=true:=by kernel_rfl
def qAT:Bool:=Attr2.all λn=>decide (0<=mN ij n)
def qpJ:qAT=true:=by kernel_rfl
def Y6{lb:List B}{nm v:B}{f:Bool} :rV ij lb ⟨2,nm,E0,v,E0,f, []⟩=rV ij [] ⟨2,nm,E0,v,E0,f, []⟩:=rfl
def qf2{lb:List B}{v:B} :rV ij lb ⟨3,Om,E0,v,E0,false, []⟩=rV ij [] ⟨3,Om,E0,v,E0,false, []⟩:=rfl
def Y7{lb:List B}{n a v:B} :rV ij lb ⟨5,n,a,v,E0,false, []⟩=rV ij [] ⟨5,n,a,v,E0,false, []⟩:=rfl
theorem qdV{lb:List B}{x:Cond}(h:GA lb x):rV ij lb x=true:=by
 cases h with
 | val nm v f h1 h2=>
   rw[Y6];have h:=qFI.1 (qFI.1 qqC nm h1) v h2;simp only[qFJ]at h;cases f
   ·exact h.1
   ·exact h.2
 | feat v h=>
   rw[qf2];exact qFI.1 qos v h
 | same nm l a h1 h2 h3=>
   have b:=qFI.1 qpJ nm h1;have c:=qFI.1 qpJ a h3;have d:(lb.any λz=>decide (z=l))=true:=qGP.2 ⟨l,h2,decide_eq_true rfl⟩;have j:qqX ⟨4,nm,a,E0,l,false, []⟩=true:=by
    unfold qqX;rw[if_neg (show ¬(4:Int)=1 by decide),if_neg (show ¬(4:Int)=2 by decide),if_neg (show ¬(4:Int)=3 by decide),if_pos rfl];rfl
   have k:qpK ij ⟨4,nm,a,E0,l,false, []⟩=true:=by
    unfold qpK;rw[if_neg (show ¬(4:Int)=2 by decide),if_neg (show ¬(4:Int)=3 by decide),if_pos rfl];exact decide_eq_true ⟨of_decide_eq_true b,of_decide_eq_true c⟩
   have p:qzg ij lb ⟨4,nm,a,E0,l,false, []⟩=true:=by
    unfold qzg;rw[if_neg (show ¬(4:Int)=2 by decide),if_neg (show ¬(4:Int)=3 by decide),if_pos rfl];exact d
   unfold rV;rw[j,k,p];rfl
 | reg nm h=>
   rw[Y7];have h:=qFI.1 qi2 nm h;simp only[qFJ]at h;exact h.1
 | regk nm v h1 h2=>
   rw[Y7];have h:=qFI.1 qi2 nm h1;simp only[qFJ]at h;exact qFI.1 h.2 v h2
def BB{a:List Attr}{lb:List B}{m:Nat}{x:Cond}(h:rV a lb x=true)(hk:x.kids=[]):tX a lb (m+1) x=true:=by
 show(rV a lb x && x.kids.all (tX a lb m))=true;rw[h,hk];rfl
def SR{lb:List B}{m:Nat}{k:Cond}(h:tX ij lb m k=true):tX ij lb (m+1) ⟨6,E0,E0,E0,E0,false, [k]⟩=true:=by
 have e:rV ij lb ⟨6,E0,E0,E0,E0,false, [k]⟩=true:=rfl;show(rV ij lb ⟨6,E0,E0,E0,E0,false, [k]⟩ && [k].all (tX ij lb m))=true;rw[e];simp[h]
def SQ{lb:List B}{m:Nat}{op:Int}{a b:Cond}(ho:op=7\/op=8)(h1:tX ij lb m a=true)(h2:tX ij lb m b=true):tX ij lb (m+1) ⟨op,E0,E0,E0,E0,false, [a,b]⟩=true:=by
 have e:rV ij lb ⟨op,E0,E0,E0,E0,false, [a,b]⟩=true:=by rcases ho with rfl|rfl<;>rfl
 show(rV ij lb ⟨op,E0,E0,E0,E0,false, [a,b]⟩ && [a,b].all (tX ij lb m))=true;rw[e];simp[h1,h2]
def I4{lb:List B} :∀{n m:Nat} {x:Cond},GI lb n x->n<m->tX ij lb m x=true
 | _,m+1,_, .atom n c h,_=>BB (qdV h) (yt h)
 | _,m+1,_, .not n k h,hm=>SR (I4 h (by omega))
 | _,m+1,_, .two n op a b ho h1 h2,hm=>SQ ho (I4 h1 (by omega)) (I4 h2 (by omega))
def qnJ{k:Cond}{op:Int} :io ⟨op,E0,E0,E0,E0,false, [k]⟩=io k+1:=by rw[io,fE,fE]
def qnI{a b:Cond}{op:Int} :io ⟨op,E0,E0,E0,E0,false, [a,b]⟩=io a+io b+1:=by rw[io,fE,fE,fE];omega
def qoC{k:Cond}{op:Int} :dB ⟨op,E0,E0,E0,E0,false, [k]⟩=dB k+1:=by rw[dB,iV,iV];omega
def qoB{a b:Cond}{op:Int} :dB ⟨op,E0,E0,E0,E0,false, [a,b]⟩=max (dB a) (dB b) +1:=by rw[dB,iV,iV,iV];omega
def PN{x:Cond}(h:x.kids=[]):io x=1/\dB x=1:=by
 rw[BC,JG,h];exact⟨rfl,rfl⟩
def VW{lb:List B} :∀{n:Nat} {x:Cond},GI lb n x->io x+1<=2^ (n+1)/\dB x<=n+1
 | _,_, .atom n c h=>by
   have:=PN (yt h);have h2:2^1<=2^ (n+1):=Nat.pow_le_pow_right (by decide) (by omega);omega
 | _,_, .not n k h=>by
   have:=VW h;rw[qnJ,qoC,Nat.pow_succ];omega
 | _,_, .two n op a b ho h1 h2=>by
   have:=VW h1;have:=VW h2;rw[qnI,qoB,Nat.pow_succ];omega
def qkk{lb:List B}{n:Nat}{x:Cond}(h:GC lb n x):io x+1<=2^ (n+1)/\dB x<=n+1:=by
 have h2:2^1<=2^ (n+1):=Nat.pow_le_pow_right (by decide) (by omega);cases h with
 |any=>have:=PN (x:=⟨1,E0,E0,E0,E0,false, []⟩) rfl;omega
 |top v f h=>have:=PN (x:=⟨2,E0,E0,v,E0,f, []⟩) rfl;omega
 |inner c h=>exact VW h
def Pw{lb:List B}{n m:Nat}{x:Cond}(h:GC lb n x)(hm:n<m):tX ij lb m x=true:=by
 obtain⟨m,rfl⟩:∃k,m=k+1:=⟨m -1,by omega⟩
 cases h with
 |any=>exact BB rfl rfl
 | top v f h=>
   refine BB ?_ rfl;have h:=qFI.1 qqH v h;simp only[qFJ]at h;rw[Y6];cases f
   ·exact h.1
   ·exact h.2
 |inner c h=>exact I4 h hm
def qjj{a:List Attr}{lb:List B}{x:Cond}(h1:io x<=60)(h2:dB x<=20)(h3:tX a lb 20 x=true):qms a lb x=true:=by
 unfold qms;rw[decide_eq_true ⟨h1,h2⟩,h3];rfl
def qrr{lb:List B}{n:Nat}{x:Cond}(h:GC lb n x)(hn:n<=4):qms ij lb x=true:=by
 obtain⟨h1,h2⟩:=qkk h;have h3:2^ (n+1)<=2^5:=Nat.pow_le_pow_right (by decide) (by omega);exact qjj (by omega) (by omega) (Pw h (by omega))
open Cod (enc dec)
section
variable {S:Nat->Spc}{σ:Sg}{H Hr:ab}{K:D->ab->Prop}
def qry(dst:Option Nat)(H:ab)(K:D->ab->Prop):Prop:=match dst with
 |some t=>∀x,K (.own t x) (ai H t (some (.mrow x [])))
 |none=>False
@[simp] theorem qA9(t:Nat)(H:ab)(K:D->ab->Prop):qry (some t) H K=∀x,K (.own t x) (ai H t (some (.mrow x []))):=i' rfl
def qgf(id:Nat)(x:Value)(ka:Bool)(ks:List KK)(k v:D)(r:Option Res)(H:ab)(K:D->ab->Prop):Prop:=match r with
 |some (.mrow a es)=>a=x/\Di ka ks k v es λes'=>K .undef (ai H id (some (.mrow a es')))
 | _=>False
@[simp] theorem qAZ(id:Nat)(x a:Value)(ka:Bool)(ks:List KK)(k v:D)(es:List D)(H:ab)(K:D->ab->Prop):qgf id x ka ks k v (some (.mrow a es)) H K=(a=x/\Di ka ks k v es λes'=>K .undef (ai H id (some (.mrow a es')))):=i' rfl
def qjx(ka:Bool)(ks:List KK)(d k v:D)(H:ab)(K:D->ab->Prop):Prop:=match d with
 | .own id x=>qgf id x ka ks k v (H id) H K
 | _=>False
@[simp] theorem qAY(id:Nat)(x:Value)(ka:Bool)(ks:List KK)(k v:D)(H:ab)(K:D->ab->Prop):qjx ka ks (.own id x) k v H K=qgf id x ka ks k v (H id) H K:=i' rfl
def qgg(dst:Option Nat)(d:D)(H:ab)(K:D->ab->Prop):Prop:=match dst with
 | some t=>(match d with
   | .mp es=>∀b,K (.bptr t b 0) (ai H t (some (.miter b [] es)))
   | .v (.map none)=>∀b,K (.bptr t b 0) (ai H t (some (.miter b [] [])))
   | .own id x=>LP t id x (H id) H K
   | _=>False)
 |none=>False
@[simp] theorem qA4(t:Nat)(es:List D)(H:ab)(K:D->ab->Prop):qgg (some t) (.mp es) H K=∀b,K (.bptr t b 0) (ai H t (some (.miter b [] es))):=i' rfl
@[simp] theorem qA5(t id:Nat)(x:Value)(H:ab)(K:D->ab->Prop):qgg (some t) (.own id x) H K=LP t id x (H id) H K:=i' rfl
@[simp] theorem qxg(t id:Nat)(x a:Value)(es:List D)(H:ab)(K:D->ab->Prop):LP t id x (some (.mrow a es)) H K=(a=x/\∀b st clock,qqa st clock es.length->K (.bptr t b 0) (ai (ai H id (some (.raw (.mrs a es st clock)))) t (some (.raw (.mit b id a clock []))))):=i' rfl
@[congr] theorem quv{t id:Nat}{x:Value}{r r':Option Res}{H:ab}{K:D->ab->Prop}(h:r=r'):LP t id x r H K=LP t id x r' H K:=by subst h;rfl
def qgh(id:Nat)(x:Value)(ka:Bool)(ks:List KK)(k:D)(r:Option Res)(H:ab)(K:D->ab->Prop):Prop:=match r with
 |some (.raw (.mrs b es st clock))=>b=x/\Tz ka ks k es st λes' a=>K (.tup []) (ai H id (some (.raw (.mrs b es' a clock))))
 | _=>False
@[simp] theorem qBm(id:Nat)(x a:Value)(ka:Bool)(ks:List KK)(k:D)(es:List D)(st:List Nat)(c:Nat)(H:ab)(K:D->ab->Prop):qgh id x ka ks k (some (.raw (.mrs a es st c))) H K=(a=x/\Tz ka ks k es st λes' b=>K (.tup []) (ai H id (some (.raw (.mrs a es' b c))))):=i' rfl
def qjG(ka:Bool)(ks:List KK)(d k:D)(H:ab)(K:D->ab->Prop):Prop:=match d with
 | .own id x=>qgh id x ka ks k (H id) H K
 | _=>False
@[simp] theorem qBl(id:Nat)(x:Value)(ka:Bool)(ks:List KK)(k:D)(H:ab)(K:D->ab->Prop):qjG ka ks (.own id x) k H K=qgh id x ka ks k (H id) H K:=i' rfl
@[congr] theorem qxS{id:Nat}{x:Value}{ka:Bool}{ks:List KK}{k a:D}{r r':Option Res}{H:ab}{K:D->ab->Prop}(h1:k=a)(h3:r=r'):qgh id x ka ks k r H K=qgh id x ka ks a r' H K:=by subst h1;subst h3;rfl
@[congr] theorem qxR{ka:Bool}{ks:List KK}{d a k b:D}{H:ab}{K:D->ab->Prop}(h0:d=a)(h1:k=b):qjG ka ks d k H K=qjG ka ks a b H K:=by subst h0;subst h1;rfl
@[simp] theorem qxC(id b m:Nat)(x a:Value)(c c':Nat)(seen st:List Nat)(es:List D)(H:ab)(K:D->ab->Prop):LZ id b m x c seen (some (.raw (.mrs a es st c'))) H K=(a=x/\c'=c/\((∀s∈st,s∈seen)->K (.tup [.v (.bool false)]) (ai H m (some (.mrow a es))))/\
 ∀s,s∈st->s∉seen->K (.tup [.v (.bool true), .any, .any]) (ai H id (some (.raw (.mit b m x c (seen++ [s])))))):=i' rfl
@[congr] theorem quK{id b m:Nat}{x:Value}{c:Nat}{seen:List Nat}{r r':Option Res}{H:ab}{K:D->ab->Prop}(h:r=r'):LZ id b m x c seen r H K=LZ id b m x c seen r' H K:=by subst h;rfl
@[simp] theorem qy8(x a:Value)(c c':Nat)(seen st:List Nat)(s:Nat)(es:List D)(K:D->Prop):FV x c (seen++ [s]) (some (.raw (.mrs a es st c'))) K=(a=x/\c'=c/\s∈st/\∀(i:Nat) (e:D),st[i]? =some s->es[i]? =some e->K e):=by
 unfold FV;simp
@[congr] theorem qvO{x:Value}{c:Nat}{seen:List Nat}{r r':Option Res}{K:D->Prop}(h:r=r'):FV x c seen r K=FV x c seen r' K:=by subst h;rfl
def qcc(id b:Nat)(r:Option Res)(H:ab)(K:D->ab->Prop):Prop:=match r with
 |some (.miter b' cur left)=>b'=b/\(left=[]->K (.tup [.v (.bool false)]) H)/\∀a e c,left=a++e::c->K (.tup [.v (.bool true), .any, .any]) (ai H id (some (.miter b' [e] (a++c))))
 |some (.raw (.mit b' m x clock seen))=>b'=b/\LZ id b' m x clock seen (H m) H K
 | _=>False
@[simp] theorem qA8(id b b' m:Nat)(x:Value)(c:Nat)(seen:List Nat)(H:ab)(K:D->ab->Prop):qcc id b (some (.raw (.mit b' m x c seen))) H K=(b'=b/\LZ id b' m x c seen (H m) H K):=i' rfl
@[simp] theorem qA7(id b b':Nat)(cur left:List D)(H:ab)(K:D->ab->Prop):qcc id b (some (.miter b' cur left)) H K=(b'=b/\(left=[]->K (.tup [.v (.bool false)]) H)/\∀a e c,left=a++e::c->K (.tup [.v (.bool true), .any, .any]) (ai H id (some (.miter b' [e] (a++c))))):=i' rfl
def qjz(d:D)(H:ab)(K:D->ab->Prop):Prop:=match d with
 | .bptr id b off=>off=0/\qcc id b (H id) H K
 | _=>False
@[simp] theorem qA6(i b off:Nat)(H:ab)(K:D->ab->Prop):qjz (.bptr i b off) H K=(off=0/\qcc i b (H i) H K):=i' rfl
def qcd(b:Nat)(r:Option Res)(H:ab)(K:D->Prop):Prop:=match r with
 |some (.miter b' [e] _)=>b'=b/\K e
 |some (.raw (.mit b' m x c seen))=>b'=b/\FV x c seen (H m) K
 | _=>False
@[simp] theorem qBj(b b' m:Nat)(x:Value)(c:Nat)(seen:List Nat)(H:ab)(K:D->Prop):qcd b (some (.raw (.mit b' m x c seen))) H K=(b'=b/\FV x c seen (H m) K):=i' rfl
@[simp] theorem qBi(b b':Nat)(e:D)(l:List D)(H:ab)(K:D->Prop):qcd b (some (.miter b' [e] l)) H K=(b'=b/\K e):=i' rfl
def qjE(d:D)(H:ab)(K:D->Prop):Prop:=match d with
 | .bptr id b off=>off=0/\qcd b (H id) H K
 | _=>False
@[simp] theorem qBh(i b off:Nat)(H:ab)(K:D->Prop):qjE (.bptr i b off) H K=(off=0/\qcd b (H i) H K):=i' rfl
def qtf(x:Value)(r:Option Res)(K:List D->Prop):Prop:=match r with
 |some (.mrow a es)=>a=x/\K es
 | _=>False
@[simp] theorem qEd(x a:Value)(es:List D)(K:List D->Prop):qtf x (some (.mrow a es)) K=(a=x/\K es):=i' rfl
def qnO(d:D)(H:ab)(K:List D->Prop):Prop:=match d with
 | .mp es=>K es
 | .v (.map none)=>K []
 | .own id x=>qtf x (H id) K
 | _=>False
@[simp] theorem qEc(es:List D)(H:ab)(K:List D->Prop):qnO (.mp es) H K=K es:=i' rfl
@[simp] theorem qEb(i:Nat)(x:Value)(H:ab)(K:List D->Prop):qnO (.own i x) H K=qtf x (H i) K:=i' rfl
def qcb(d:D)(H:ab)(K:List D->Prop):D3 d H K=qnO d H K:=by
 unfold D3 qnO qtf;cases d<;>rfl
def qjD(len sz:Nat)(x i:D)(K:D->Prop):Prop:=match i with
 | .v (.int _ k)=>0<=k/\k<len/\P1 (k.toNat*sz) x K
 | _=>False
@[simp] theorem qBd(len sz:Nat)(x:D)(q:IntKind)(k:Int)(K:D->Prop):qjD len sz x (.v (.int q k)) K=(0<=k/\k<len/\P1 (k.toNat*sz) x K):=i' rfl
@[simp] theorem qyB(o:Nat)(cs:List D)(p:Nat)(K:D->Prop):P1 o (.cptr cs p) K=K (.cptr cs (p+o)):=i' rfl
@[simp] theorem qyC(o i b p:Nat)(K:D->Prop):P1 o (.bptr i b p) K=K (.bptr i b (p+o)):=i' rfl
@[congr] theorem qxH{id:Nat}{x:Value}{ka:Bool}{ks:List KK}{k v a v':D}{r r':Option Res}{H:ab}{K:D->ab->Prop}(h1:k=a)(h2:v=v')(h3:r=r'):qgf id x ka ks k v r H K=qgf id x ka ks a v' r' H K:=by subst h1;subst h2;subst h3;rfl
@[congr] theorem qxG{ka:Bool}{ks:List KK}{d a k v b v':D}{H:ab}{K:D->ab->Prop}(h0:d=a)(h1:k=b)(h2:v=v'):qjx ka ks d k v H K=qjx ka ks a b v' H K:=by subst h0;subst h1;subst h2;rfl
@[congr] theorem qt4{ka:Bool}{ks:List KK}{k v a v':D}{es es':List D}{K:List D->Prop}(h1:k=a)(h2:v=v')(h3:es=es'):Di ka ks k v es K=Di ka ks a v' es' K:=by subst h1;subst h2;subst h3;rfl
@[congr] theorem qth{ok agg ka:Bool}{ks:List KK}{z:List Value}{k a:D}{es es':List D}{K:D->Prop}(h1:k=a)(h3:es=es'):zr ok agg ka ks z k es K=zr ok agg ka ks z a es' K:=by subst h1;subst h3;rfl
@[congr] theorem qxI{t:Option Nat}{d a:D}{H:ab}{K:D->ab->Prop}(h:d=a):qgg t d H K=qgg t a H K:=by subst h;rfl
@[congr] theorem qxK{id b:Nat}{r r':Option Res}{H:ab}{K:D->ab->Prop}(h:r=r'):qcc id b r H K=qcc id b r' H K:=by subst h;rfl
@[congr] theorem qxJ{d a:D}{H:ab}{K:D->ab->Prop}(h:d=a):qjz d H K=qjz a H K:=by subst h;rfl
@[congr] theorem qxQ{b:Nat}{r r':Option Res}{H:ab}{K:D->Prop}(h:r=r'):qcd b r H K=qcd b r' H K:=by subst h;rfl
@[congr] theorem qxP{d a:D}{H:ab}{K:D->Prop}(h:d=a):qjE d H K=qjE a H K:=by subst h;rfl
@[congr] theorem qAX{x:Value}{r r':Option Res}{K:List D->Prop}(h:r=r'):qtf x r K=qtf x r' K:=by subst h;rfl
@[congr] theorem qAW{d a:D}{H:ab}{K:List D->Prop}(h:d=a):qnO d H K=qnO a H K:=by subst h;rfl
@[congr] theorem qxO{len sz:Nat}{x a i b:D}{K:D->Prop}(h:x=a)(h2:i=b):qjD len sz x i K=qjD len sz a b K:=by subst h;subst h2;rfl
@[simp ↓] theorem qEF(dst:Option Nat):aA S (.m .mk []) dst σ H K=qry dst H K:=by cases dst<;>rfl
@[simp ↓] theorem qDV(dst:Option Nat):ax S (.m .mk []) dst σ Hr H K=qry dst H K:=by cases dst<;>rfl
@[simp ↓] theorem qCJ(dst:Option Nat)(ka:Bool)(ks:List KK)(x k v:Operand):aA S (.m (.upd ka ks) [x,k,v]) dst σ H K=qjx ka ks (ev σ x) (ev σ k) (ev σ v) H K:=by
 show ip (.upd ka ks) [ev σ x,ev σ k,ev σ v] dst H K=_;unfold qjx qgf;cases ev σ x<;>rfl
@[simp ↓] theorem qCM(dst:Option Nat)(ka:Bool)(ks:List KK)(x k:Operand):aA S (.m (.del ka ks) [x,k]) dst σ H K=qjG ka ks (ev σ x) (ev σ k) H K:=by
 show ip (.del ka ks) [ev σ x,ev σ k] dst H K=_;unfold qjG qgh;cases ev σ x<;>rfl
@[simp ↓] theorem qCK(dst:Option Nat)(x:Operand):aA S (.m .rng [x]) dst σ H K=qgg dst (ev σ x) H K:=by
 show ip .rng [ev σ x] dst H K=_;unfold qgg;cases dst<;>rfl
@[simp ↓] theorem qzo(dst:Option Nat)(x:Operand):aA S (.m .next [x]) dst σ H K=qjz (ev σ x) H K:=by
 show ip .next [ev σ x] dst H K=_;unfold qjz qcc;cases ev σ x<;>rfl
@[simp ↓] theorem qv4(dst:Option Nat)(x:Operand):aA S (.m .entry [x]) dst σ H K=qjE (ev σ x) H (λd=>K d H):=by
 show ip .entry [ev σ x] dst H K=_;unfold qjE qcd;cases ev σ x<;>rfl
@[simp ↓] theorem qzp(dst:Option Nat)(ok agg ka:Bool)(ks:List KK)(z:List Value)(x k:Operand):aA S (.m (.look ok agg ka ks z) [x,k]) dst σ H K=qnO (ev σ x) H λes=>zr ok agg ka ks z (ev σ k) es λd=>K d H:=by
 rw[<-qcb];rfl
@[simp ↓] theorem qxp(dst:Option Nat)(ok agg ka:Bool)(ks:List KK)(z:List Value)(x k:Operand):ax S (.m (.look ok agg ka ks z) [x,k]) dst σ Hr H K=qnO (ev σ x) Hr λes=>zr ok agg ka ks z (ev σ k) es λd=>K d H:=by
 rw[<-qcb];rfl
@[simp ↓] theorem qCL(dst:Option Nat)(x:Operand):aA S (.m .len [x]) dst σ H K=qnO (ev σ x) H λes=>K (.v (.int .i64 es.length)) H:=by
 rw[<-qcb];rfl
@[simp ↓] theorem qzq(dst:Option Nat)(len sz:Nat)(x i:Operand):aA S (.m (.aidx len sz) [x,i]) dst σ H K=qjD len sz (ev σ x) (ev σ i) (λd=>K d H):=by
 show yr (.aidx len sz) [ev σ x,ev σ i] H (λd=>K d H)=_;unfold qjD;cases ev σ i<;>first|rfl|skip
 rename_i v;cases v<;>rfl
end
@[simp] theorem qDr(a:D)(es:List D):WK a (.mp es)=(a= .mp es):=i' rfl
theorem G0{a b:D}(l:F1 a=true)(hb:F1 b=true)(h:Mh a b):a=b:=by
 obtain⟨tp,I,w,x,h1,h2⟩:=h;have one:∀d:D,F1 d=true->(∃cs,d= .agg cs)\/ ∃v,d= .v v:=λd r=>by
  cases d<;>first|exact .inl ⟨_,rfl⟩|exact .inr ⟨_,rfl⟩|(simp[F1,D.cells,qtj]at r)
 rcases one a l with⟨cs,rfl⟩|⟨v,rfl⟩ <;>rcases one b hb with⟨cs',rfl⟩|⟨v',rfl⟩
 ·obtain⟨xs,rfl,hl,hc⟩:=h1.inv_agg;obtain⟨s,he,t,c⟩:=h2.inv_agg;have j:xs=s:=by simpa using he
  subst j;have k:cs=cs':=by
   refine qHG (by omega) λi h3 h4=>?_
   have hi:i<xs.length:=by omega
   have v1:qtj cs[i]=true:=qFI.1 l _ (by simp[D.cells]);have u:qtj cs'[i]=true:=qFI.1 hb _ (by simp[D.cells]);have y:=(hc i _ _ (qFC hi) (qFC h3)).2;have A:=(c i _ _ (qFC hi) (qFC h4)).2;generalize cs[i]=p at*;generalize cs'[i]=q at*;cases p<;>first|(cases v1;done)|skip
   cases q<;>first|(cases u;done)|skip
   rw[<-y.inv_v,<-A.inv_v]
  rw[k]
 ·obtain⟨xs,rfl,_,_⟩:=h1.inv_agg;have:=h2.inv_v;cases h2 with
  |v _ h _=>simp[Value.oneCell']at h
 ·obtain⟨xs,rfl,_,_⟩:=h2.inv_agg;cases h1 with
  |v _ h _=>simp[Value.oneCell']at h
 ·rw[<-h1.inv_v,<-h2.inv_v]
structure qc2 (X:Type) [Cod X] (ka:Bool) (ks:List KK):Prop where
 fit:∀x:X,M6 ka ks (enc x)=true
 pur:∀x:X,F1 (enc x)=true
def Jf:qc2 Int false [.int .i64]:=⟨λ_=>rfl,λ_=>rfl⟩
section
variable {X:Type}[Cod X][DecidableEq X]
def aW(l:List X):List D:=l.map λx=> .tup [enc x, .v (.bool true)]
def ye(x:X)(l:List X):List X:=if x∈l then l else l++ [x]
@[simp] theorem fU{x y:X}{l:List X} :y∈ye x l↔y=x\/y∈l:=by
 unfold ye;split
 ·rename_i h;exact⟨.inr,λh2=>h2.elim (λe=>e ▸h) id⟩
 ·simp[or_comm]
def BJ{x:X}{l:List X}(h:l.Nodup):(ye x l).Nodup:=by
 unfold ye;split
 ·exact h
 ·rename_i c;rw[qHj];exact⟨h,by simp,λa d b hb=>by simp at hb;subst hb;exactλe=>c (e ▸d)⟩
def AF{x:X}{v:D}{l:List X} :D.tup [enc x,v] ∈aW l↔x∈l/\v= .v (.bool true):=by
 simp only[aW,qFL,D.tup.injEq,qF8,and_true];exact⟨λ⟨y,h1,h2,h3⟩=>⟨aP h2 ▸h1,h3.symm⟩,λ⟨h1,h2⟩=>⟨x,h1,rfl,h2.symm⟩⟩
def Yj{d:D}{l:List X}(h:d∈aW l):∃x∈l,d= .tup [enc x, .v (.bool true)]:=by
 obtain⟨x,h1,rfl⟩:=qFL.1 h;exact⟨x,h1,rfl⟩
def iX:∀{l:List X} {j c:List D} {e:D},aW l=j++e::c->∃a x b,l=a++x::b/\j=aW a/\e= .tup [enc x, .v (.bool true)]/\c=aW b
 | [],j,c,e,h=>by
   have:=congrArg List.length h;simp[aW]at this
 | y::l, [],c,e,h=>by
   simp only[aW,qF6,qGz,qF8]at h;exact⟨[],y,l,rfl,rfl,h.1.symm,h.2.symm⟩
 | y::l,d::j,c,e,h=>by
   simp only[aW,qF6,qGk,qF8]at h;obtain⟨a,x,b,rfl,rfl,h3,h4⟩:=iX (l:=l) h.2;exact⟨y::a,x,b,rfl,by simp[aW,h.1],h3,h4⟩
def jG(a b:List X):aW (a++b)=aW a++aW b:=by simp[aW]
def Ox{ka:Bool}{ks:List KK}(a:qc2 X ka ks)(l:List X):(aW l).all (Wb ka ks)=true:=by
 rw[qFI];intro d b;obtain⟨x,_,rfl⟩:=Yj b;exact a.fit x
def Ux{ka:Bool}{ks:List KK}(c:qc2 X ka ks){x:X}{l:List X}{k:D}{K:List D->Prop}(hk:k=enc x)(h:K (aW (ye x l))):Di ka ks k (.v (.bool true)) (aW l) K:=by
 subst hk;refine⟨Ox c l,c.fit x,λj p v' q e m=>?_,λhn=>?_⟩
 ·obtain⟨a,y,b,rfl,rfl,h3,rfl⟩:=iX e;simp only[D.tup.injEq,qF8,and_true]at h3;obtain⟨rfl,rfl⟩:=h3;have:=aP (G0 (c.pur x) (c.pur y) m);subst this;rw[<-e];have:ye x (a++x::b)=a++x::b:=by unfold ye;rw[if_pos (by simp)]
  rw[this]at h;exact h
 ·have d:x∉l:=λd=>hn (c.pur x) _ (AF.2 ⟨d,rfl⟩)
  have:ye x l=l++ [x]:=by unfold ye;rw[if_neg d]
  rw[this,jG]at h;exact h
def qjN{ok:Bool}{ka:Bool}{ks:List KK}(a:qc2 X ka ks){x:X}{l:List X}{k:D}{K:D->Prop}(hk:k=enc x)(h:K (qnX ok (.v (.bool (decide (x∈l)))) (decide (x∈l)))):
 zr ok false ka ks [.bool false] k (aW l) K:=by
 subst hk;refine⟨Ox a l,a.fit x,λd v hm m=>?_,λhn=>?_⟩
 ·obtain⟨y,c,e⟩:=Yj hm;simp only[D.tup.injEq,qF8,and_true]at e;obtain⟨rfl,rfl⟩:=e;have:=aP (G0 (a.pur x) (a.pur y) m);subst this;simpa [c]using h
 ·have b:x∉l:=λb=>hn (a.pur x) _ (AF.2 ⟨b,rfl⟩)
  simpa [b]using h
def L2{ok:Bool}{ka:Bool}{ks:List KK}(b:qc2 X ka ks)(x:X)(c:Mh (enc x) (enc x))(l:List X)(K:D->Prop):zr ok false ka ks [.bool false] (enc x) (aW l) K=K (qnX ok (.v (.bool (decide (x∈l)))) (decide (x∈l))):=by
 refine propext ⟨λ⟨_,_,h1,h2⟩=>?_,qjN b rfl⟩;by_cases a:x∈l
 ·have:=h1 (enc x) (.v (.bool true)) (AF.2 ⟨a,rfl⟩) c;simpa [a]using this
 ·have:=h2 λ_ v hm=>a (AF.1 hm).1
  simpa [a,TT,yy]using this
end
@[simp] theorem quZ(ok:Bool)(k:Int)(l:List Int)(K:D->Prop):zr ok false false [.int .i64] [.bool false] (.v (.int .i64 k)) (aW l) K=K (qnX ok (.v (.bool (decide (k∈l)))) (decide (k∈l))):=L2 Jf k ⟨λ_=>False,λ_=>False,default,_,R.int .i64 k,R.int .i64 k⟩ l K
@[simp] theorem qEf(v:D)(b:Bool):qnX false v b=v:=i' rfl
structure St3 where
 p:Int
 b0:Int
 b1:Int
 b2:Int
deriving DecidableEq
instance:Cod St3 where
 wd:=4
 enc s:= .agg [enc s.p,enc s.b0,enc s.b1,enc s.b2]
 dec| .agg [a,b,c,j]=>(dec a).bind λa=>(dec b).bind λb=>(dec c).bind λc=>(dec j).bind λj=>some ⟨a,b,c,j⟩|_=>none
 kn _:=rfl
 wid _:=rfl
 dec_enc s:=by simp
 le d x h:=by
  split at h
  ·simp only[qFA]at h;obtain⟨a,h0,b,h1,c,h2,j,h3,h⟩:=h;cases h;exact LeL.agg (.cons (Cod.le _ _ h0) (.cons (Cod.le _ _ h1) (.cons (Cod.le _ _ h2) (.cons (Cod.le _ _ h3) .nil))))
  ·cases h
@[simp] theorem qyS(s:St3):enc s= .agg [enc s.p,enc s.b0,enc s.b1,enc s.b2]:=i' rfl
@[simp] theorem qy1(a b c d:D):dec (X:=St3) (.agg [a,b,c,d])=((dec a).bind λa=>(dec b).bind λb=>(dec c).bind λc=>(dec d).bind λd=>some ⟨a,b,c,d⟩):=i' rfl
def qd9:qc2 St3 true [.int .i64, .int .i64, .int .i64, .int .i64]:=⟨λ_=>rfl,λ_=>rfl⟩
structure Rn where
 c:Corpus
 lb:List B
 bg:Int
 en:Int
def St3.get(s:St3)(i:Nat):Int:=match i with|0=>s.b0|1=>s.b1|_=>s.b2
def St3.set(s:St3)(i:Nat)(x:Int):St3:=match i with|0=>⟨s.p,x,s.b1,s.b2⟩|1=>⟨s.p,s.b0,x,s.b2⟩|_=>⟨s.p,s.b0,s.b1,x⟩
def WC(r:Rn)(s:St3):List Int:=(List.range r.lb.length).map λi=>s.get i -1
def KQ(r:Rn)(p:Pat)(s:St3):St3:=
 let a:St3:=if p.lab=mq then s else s.set (fe r.lb λz=>decide (z=p.lab)).toNat (s.p+1)
 ⟨a.p+1,a.b0,a.b1,a.b2⟩
def Kj(r:Rn)(p:Pat)(s:St3):Option Bool:=nJ ⟨r.c,s.p,r.lb,WC r s⟩ 21 p.cond
def qlM(r:Rn)(p:Pat)(at_:Int):Bool:=r.c.regs.any λx=>decide (x.ty=p.reg) && decide ((if p.op=3 then x.e else x.b)=at_) && decide (r.bg<=x.b) && decide (x.e<=r.en)
section
variable {α:Type}
def Pow(R:α->α->Prop):Nat->α->α->Prop
 | 0=>λs t=>s=t
 |n+1=>λs t=>∃u,R s u/\Pow R n u t
def Star(R:α->α->Prop)(s t:α):Prop:=∃n,Pow R n s t
def Pow.add{R:α->α->Prop} :∀{m n:Nat} {s t u:α},Pow R m s t->Pow R n t u->Pow R (m+n) s u
 | 0,n,s,t,u,h,k=>by cases h;rwa [qGn]
 | m+1,n,s,t,u,⟨v,h1,h2⟩,k=>by
   rw[Nat.succ_add];exact⟨v,h1,h2.add k⟩
def Star.refl(R:α->α->Prop)(s:α):Star R s s:=⟨0,rfl⟩
def Star.one{R:α->α->Prop}{s t:α}(h:R s t):Star R s t:=⟨1,t,h,rfl⟩
def Star.trans{R:α->α->Prop}{s t u:α}(h:Star R s t)(k:Star R t u):Star R s u:=by
 obtain⟨m,h⟩:=h;obtain⟨n,k⟩:=k;exact⟨m+n,h.add k⟩
def Star.mono{R Q:α->α->Prop}(a:∀s t,R s t->Star Q s t){s t:α}(h:Star R s t):Star Q s t:=by
 obtain⟨n,h⟩:=h
 induction n generalizing s with
 |zero=>cases h;exact .refl _ _
 | succ n b=>
   obtain⟨u,h1,h2⟩:=h;exact(a _ _ h1).trans (b h2)
def Pow.mono{R Q:α->α->Prop}(a:∀s t,R s t->Q s t):∀{n:Nat} {s t:α},Pow R n s t->Pow Q n s t
 | 0,_,_,h=>h
 |n+1,_,_,⟨u,h1,h2⟩=>⟨u,a _ _ h1,h2.mono a⟩
end
def Nh(R:St3->St3->Prop)(s t:St3):Prop:=R s t/\s.p<t.p
def EP(R:St3->St3->Prop)(mn mx:Int)(s t:St3):Prop:=∃u,Pow R mn.toNat s u/\∃n:Nat,(mx< 0\/mn+n<=mx)/\Pow (Nh R) n u t
def CN(R:St3->St3->Prop):Prop:=∀s t,R s t->s=t\/s.p<t.p
def Zu{R:St3->St3->Prop}(a:CN R){s t:St3} :Star (Nh R) s t↔Star R s t:=by
 constructor
 ·exact Star.mono λs t h=> .one h.1
 ·exact Star.mono λs t h=>by
   rcases a s t h with rfl|h2
   ·exact .refl _ _
   ·exact .one ⟨h,h2⟩
def vV{R:St3->St3->Prop}(a:CN R){mn:Int}{s t:St3} :EP R mn (-1) s t↔ ∃u,Pow R mn.toNat s u/\Star R u t:=by
 constructor
 ·rintro⟨u,h1,n,_,h2⟩;exact⟨u,h1,(Zu a).1 ⟨n,h2⟩⟩
 ·rintro⟨u,h1,h2⟩;obtain⟨n,h2⟩:=(Zu a).2 h2;exact⟨u,h1,n, .inl (by decide),h2⟩
def ZG{R:St3->St3->Prop}(b:CN R)(n:Nat):CN (Pow R n):=by
 induction n with
 |zero=>intro s t h;exact .inl h
 | succ n a=>
   rintro s t ⟨u,h1,h2⟩;rcases b _ _ h1 with rfl|h1
   ·exact a _ _ h2
   ·rcases a _ _ h2 with rfl|h2
    ·exact .inr h1
    ·exact .inr (by omega)
def ZF{R:St3->St3->Prop}(a:CN R)(mn mx:Int):CN (EP R mn mx):=by
 rintro s t ⟨u,h1,n,_,h2⟩;have b:CN (Pow (Nh R) n):=ZG (λs t h=>a s t h.1) n;rcases ZG a _ _ _ h1 with rfl|h1
 ·exact b _ _ h2
 ·rcases b _ _ h2 with rfl|h2
  ·exact .inr h1
  ·exact .inr (by omega)
theorem qnn{R:St3->St3->Prop}(c:CN R){d a:Int}(h1:0<=d/\d<=1)(h2:0<=a/\a<=1)(s t:St3):EP (EP R a (-1)) d (-1) s t↔EP R (d*a) (-1) s t:=by
 have j:=ZF c a (-1);rw[vV j,vV c];have sub:∀s t,EP R a (-1) s t->Star R s t:=λs t h=>by
  obtain⟨u,h3,h4⟩:=(vV c).1 h;exact Star.trans ⟨_,h3⟩ h4
 have k:∀s t,R s t->EP R a (-1) s t:=λs t h=>by
  rw[vV c];have:a=0\/a=1:=by omega
  rcases this with rfl|rfl
  ·exact⟨s,rfl, .one h⟩
  ·exact⟨t,⟨t,h,rfl⟩, .refl _ _⟩
 have b:∀s t,Star (EP R a (-1)) s t↔Star R s t:=λs t=>⟨Star.mono sub,Star.mono λs t h=> .one (k s t h)⟩
 have c1:d=0\/d=1:=by omega
 rcases c1 with rfl|rfl
 ·rw[Int.zero_mul];constructor
  ·rintro⟨u,h3,h4⟩;cases h3;exact⟨_,rfl,(b _ _).1 h4⟩
  ·rintro⟨u,h3,h4⟩;cases h3;exact⟨_,rfl,(b _ _).2 h4⟩
 ·rw[Int.one_mul];constructor
  ·rintro⟨u,⟨v,h3,h5⟩,h4⟩;cases h5;obtain⟨l,h6,p⟩:=(vV c).1 h3;exact⟨l,h6,p.trans ((b _ _).1 h4)⟩
  ·rintro⟨u,h3,h4⟩;exact⟨t,⟨t,(vV c).2 ⟨u,h3,h4⟩,rfl⟩, .refl _ _⟩
mutual
def pM(r:Rn):Pat->St3->St3->Prop
 | .mk op cond lab reg mn mx ks=>λs t=>
   if op=1 then s.p<r.en/\Kj r (.mk op cond lab reg mn mx ks) s=some true/\t=KQ r (.mk op cond lab reg mn mx ks) s
   else if op=2\/op=3 then qlM r (.mk op cond lab reg mn mx ks) s.p=true/\t=s
   else if op=4 then zZ r ks s t
   else if op=5 then Ct r ks s t
   else QR r ks mn mx s t
def zZ(r:Rn):List Pat->St3->St3->Prop
 | []=>λs t=>s=t
 |k::ks=>λs t=>∃u,pM r k s u/\zZ r ks u t
def Ct(r:Rn):List Pat->St3->St3->Prop
 | []=>λ_ _=>False
 |k::ks=>λs t=>pM r k s t\/Ct r ks s t
def QR(r:Rn):List Pat->Int->Int->St3->St3->Prop
 | []=>λ_ _ _ _=>False
 |k::_=>λmn mx s t=>EP (pM r k) mn mx s t
end
mutual
def D8(r:Rn):∀p:Pat,CN (pM r p)
 | .mk op cond lab reg mn mx ks=>by
   intro s t h;rw[pM]at h;split at h
   ·obtain⟨_,_,rfl⟩:=h;right;unfold KQ;dsimp only;split
    ·show s.p<s.p+1;omega
    ·generalize (fe r.lb λz=>decide (z=lab)).toNat=i;rcases i with _|_|i
     ·show s.p<s.p+1;omega
     ·show s.p<s.p+1;omega
     ·show s.p<s.p+1;omega
   ·split at h
    ·exact .inl h.2.symm
    ·split at h
     ·exact E8 r ks s t h
     ·split at h
      ·exact Tn r ks s t h
      ·exact qgF r ks mn mx s t h
def E8(r:Rn):∀ks:List Pat,CN (zZ r ks)
 | []=>λs t h=>by rw[zZ]at h;exact .inl h
 | k::ks=>λs t h=>by
   rw[zZ]at h;obtain⟨u,h1,h2⟩:=h;rcases D8 r k s u h1 with rfl|h1
   ·exact E8 r ks _ _ h2
   ·rcases E8 r ks u t h2 with rfl|h2
    ·exact .inr h1
    ·exact .inr (by omega)
def Tn(r:Rn):∀ks:List Pat,CN (Ct r ks)
 | []=>λs t h=>by rw[Ct]at h;exact h.elim
 | k::ks=>λs t h=>by
   rw[Ct]at h;rcases h with h|h
   ·exact D8 r k s t h
   ·exact Tn r ks s t h
def qgF(r:Rn):∀(ks:List Pat) (mn mx:Int),CN (QR r ks mn mx)
 | [],_,_=>λs t h=>by rw[QR]at h;exact h.elim
 | k::_,mn,mx=>λs t h=>by
   rw[QR]at h;exact ZF (D8 r k) mn mx s t h
end
def qaX(m:Int)(s:St3):Prop:=0<=s.p/\s.p<=m/\∀i,0<=s.get i/\s.get i<=m
def qp6(m:Int)(R:St3->St3->Prop):Prop:=∀s t,R s t->qaX m s->qaX m t
def KY{m:Int}{R:St3->St3->Prop}(h:qp6 m R):∀n:Nat,qp6 m (Pow R n)
 | 0,s,t,e,hs=>by cases e;exact hs
 |n+1,s,t,⟨u,h1,h2⟩,hs=>KY h n _ _ h2 (h _ _ h1 hs)
def qrG{m:Int}{R:St3->St3->Prop}(h:qp6 m R)(mn mx:Int):qp6 m (EP R mn mx):=by
 rintro s t ⟨u,h1,n,_,h2⟩ hs;exact KY (R:=Nh R) (λs t q=>h s t q.1) n _ _ h2 (KY h _ _ _ h1 hs)
def qpE(r:Rn)(p:Pat)(s:St3):(KQ r p s).p=s.p+1:=by
 unfold KQ;dsimp only;split
 ·rfl
 ·generalize (fe r.lb λz=>decide (z=p.lab)).toNat=i;rcases i with _|_|i<;>rfl
def qnH(r:Rn)(p:Pat)(s:St3)(i:Nat):(KQ r p s).get i=s.get i\/(KQ r p s).get i=s.p+1:=by
 unfold KQ;dsimp only;split
 ·rcases i with _|_|i<;>exact .inl rfl
 ·generalize (fe r.lb λz=>decide (z=p.lab)).toNat=j;rcases j with _|_|j<;>rcases i with _|_|i<;>first|exact .inl rfl|exact .inr rfl
mutual
def BI(r:Rn):∀p:Pat,qp6 r.en (pM r p)
 | .mk op cond lab reg mn mx ks=>by
   intro s t h hs;rw[pM]at h;split at h
   ·obtain⟨h1,_,rfl⟩:=h;obtain⟨a,b,c⟩:=hs;refine⟨by rw[qpE];omega,by rw[qpE];omega,λi=>?_⟩;rcases qnH r (.mk op cond lab reg mn mx ks) s i with e|e
    ·rw[e];exact c i
    ·rw[e];omega
   ·split at h
    ·rw[h.2];exact hs
    ·split at h
     ·exact VM r ks s t h hs
     ·split at h
      ·exact qd7 r ks s t h hs
      ·exact qn0 r ks mn mx s t h hs
def VM(r:Rn):∀ks:List Pat,qp6 r.en (zZ r ks)
 | []=>λs t h hs=>by rw[zZ]at h;rw[<-h];exact hs
 | k::ks=>λs t h hs=>by
   rw[zZ]at h;obtain⟨u,h1,h2⟩:=h;exact VM r ks u t h2 (BI r k s u h1 hs)
def qd7(r:Rn):∀ks:List Pat,qp6 r.en (Ct r ks)
 | []=>λs t h=>by rw[Ct]at h;exact h.elim
 | k::ks=>λs t h hs=>by
   rw[Ct]at h;rcases h with h|h
   ·exact BI r k s t h hs
   ·exact qd7 r ks s t h hs
def qn0(r:Rn):∀(ks:List Pat) (mn mx:Int),qp6 r.en (QR r ks mn mx)
 | [],_,_=>λs t h=>by rw[QR]at h;exact h.elim
 | k::_,mn,mx=>λs t h hs=>by
   rw[QR]at h;exact qrG (BI r k) mn mx s t h hs
end
def PR{R:St3->St3->Prop} :∀{n:Nat} {s t:St3},Pow (Nh R) n s t->s.p+n<=t.p
 | 0,s,t,h=>by cases h;omega
 | n+1,s,t,⟨u,h1,h2⟩=>by
   have:=PR h2;have:=h1.2;omega
mutual
def uL:Pat->List Pat
 | .mk op cond lab reg mn mx ks=> .mk op cond lab reg mn mx ks::BE ks
def BE:List Pat->List Pat
 | []=>[]
 |k::ks=>uL k++BE ks
end
def tt(C:Pat->Prop)(p:Pat):Prop:=∀q∈uL p,C q
def L0:∀{ks:List Pat} {k q:Pat},k∈ks->q∈uL k->q∈BE ks
 | a::ks,k,q,h,b=>by
   rw[BE,qFG];rcases qFK.1 h with rfl|h
   ·exact .inl b
   ·exact .inr (L0 h b)
def yq:∀{ks:List Pat} {q:Pat},q∈BE ks->∃k∈ks,q∈uL k
 | [],q,h=>by rw[BE]at h;cases h
 | a::ks,q,h=>by
   rw[BE,qFG]at h;rcases h with h|h
   ·exact⟨a,by simp,h⟩
   ·obtain⟨k,h1,h2⟩:=yq h;exact⟨k,by simp[h1],h2⟩
def Zd(p:Pat):p∈uL p:=by cases p;rw[uL];simp
def py{C:Pat->Prop}{p:Pat}(h:tt C p):C p:=h p (Zd p)
def wM{C:Pat->Prop}{p k:Pat}(h:tt C p)(hk:k∈p.kids):tt C k:=λq a=>h q (by cases p;rw[uL];exact qHn _ (L0 hk a))
def qnA{C:Pat->Prop}{p:Pat}(h:C p)(hk:∀k∈p.kids,tt C k):tt C p:=λq hq=>by
 cases p;rw[uL]at hq;rcases qFK.1 hq with rfl|hq
 ·exact h
 ·obtain⟨k,h1,h2⟩:=yq hq;exact hk k h1 q h2
def vW{C D:Pat->Prop}{p:Pat}(h:tt C p)(a:∀q,C q->D q):tt D p:=λq b=>a q (h q b)
def mG:List Int->List Int->Int
 | [], []=>0
 | [],_::_=> -1
 | _::_, []=>1
 |a::x,b::y=>if ug a b≠0 then ug a b else mG x y
def Le(a b:cb):Int:=mG (a.b::a.e::a.lbs) (b.b::b.e::b.lbs)
def lR(a b:Int):(a<b/\ug a b= -1)\/(a=b/\ug a b=0)\/(b<a/\ug a b=1):=by
 unfold ug;by_cases h:a<b
 ·exact .inl ⟨h,if_pos h⟩
 ·by_cases h2:b<a
  ·exact .inr (.inr ⟨h2,by rw[if_neg h,if_pos h2]⟩)
  ·exact .inr (.inl ⟨by omega,by rw[if_neg h,if_neg h2]⟩)
def qli(a b:Int):ug b a= -ug a b:=by
 rcases lR a b with⟨h,e⟩|⟨h,e⟩|⟨h,e⟩ <;>rcases lR b a with⟨d,c⟩|⟨d,c⟩|⟨d,c⟩ <;>first|(rw[e,c];done)|(rw[e,c];rfl)|omega
def TH{a b:Int} :ug a b=0↔a=b:=by
 rcases lR a b with⟨h,e⟩|⟨h,e⟩|⟨h,e⟩ <;>rw[e] <;>constructor<;>intro c<;>omega
def qak:∀x y:List Int,mG y x= -mG x y
 | [], []=>rfl
 | [],_::_=>rfl
 | _::_, []=>rfl
 | a::x,b::y=>by
   unfold mG;have h:=qli a b;by_cases e:ug a b=0
   ·rw[if_neg (by rw[h,e];simp),if_neg (by simp[e])];exact qak x y
   ·rw[if_pos (by rw[h];omega),if_pos e,h]
def Lf:∀{x y:List Int},mG x y=0↔x=y
 | [], []=>by simp[mG]
 | [],_::_=>by simp[mG]
 | _::_, []=>by simp[mG]
 | a::x,b::y=>by
   unfold mG;by_cases e:ug a b=0
   ·rw[if_neg (by simp[e]),Lf,TH.1 e];simp
   ·rw[if_pos e];constructor
    ·intro h;exact absurd h e
    ·intro h;injection h with h;exact absurd (TH.2 h) e
def qcI(x y:List Int):mG x y= -1\/mG x y=0\/mG x y=1:=by
 induction x generalizing y with
 |nil=>cases y<;>simp[mG]
 | cons a x c=>
   cases y with
   |nil=>simp[mG]
   | cons b y=>
     unfold mG;split
     ·rcases lR a b with⟨_,e⟩|⟨_,e⟩|⟨_,e⟩ <;>rw[e] <;>simp
     ·exact c y
def Qn:∀{x y z:List Int},mG x y< 0->mG y z< 0->mG x z< 0
 | [], [],_,h,_=>by simp[mG]at h
 | [],_::_, [],_,h=>by simp[mG]at h
 | [],_::_,_::_,_,_=>by simp[mG]
 | _::_, [],_,h,_=>by simp[mG]at h
 | _::_,_::_, [],_,h=>by simp[mG]at h
 | a::x,b::y,c::z,h1,h2=>by
   unfold mG at h1 h2 ⊢;rcases lR a b with⟨l,d⟩|⟨l,d⟩|⟨l,d⟩ <;>rcases lR b c with⟨p,j⟩|⟨p,j⟩|⟨p,j⟩ <;>rcases lR a c with⟨q,k⟩|⟨q,k⟩|⟨q,k⟩ <;>simp only[d,j,k]at h1 h2 ⊢ <;>first|omega|(exact Qn (by simpa using h1) (by simpa using h2))|(simp at h1;done)|(simp at h2;done)|skip
def qci(a b:cb):Prop:=Le a b< 0
def E6{a b c:cb}(h1:qci a b)(h2:qci b c):qci a c:=Qn h1 h2
def qd1(a:cb):¬qci a a:=λh=>by
 have:Le a a=0:=Lf.2 rfl;unfold qci at h;omega
def qgW{a b:cb} :Le a b=0↔a=b:=by
 unfold Le;rw[Lf];obtain⟨a1,a2,a3⟩:=a;obtain⟨b1,b2,c⟩:=b;simp
def qlh(a b:cb):Le b a= -Le a b:=qak _ _
def Nx{a b:cb}(h:¬qci a b):a=b\/qci b a:=by
 rcases qcI (a.b::a.e::a.lbs) (b.b::b.e::b.lbs)with e|e|e
 ·exact absurd (show Le a b< 0 by unfold Le;omega) h
 ·exact .inl (qgW.1 e)
 ·right;unfold qci;rw[qlh a b];show -mG _ _< 0;omega
def Fh(l:List cb):Prop:=l.Pairwise qci
def qhH(c:Corpus)(i:Int):Option xX:=c.texts.find? λt=>decide (t.b<=i) && decide (i<t.e)
def Kt(c:Corpus)(lb:List B)(t:xX):Rn:=⟨c,lb,t.b,min t.e c.toks.length⟩
def qfA(i:Int):St3:=⟨i,0,0,0⟩
def qha(c:Corpus)(lb:List B)(p:Pat)(m:cb):Prop:=0<=m.b/\m.b<c.toks.length/\∃t,qhH c m.b=some t/\∃s,pM (Kt c lb t) p (qfA m.b) s/\m.b<s.p/\m.e=s.p/\m.lbs=WC (Kt c lb t) s
def qmk(c:Corpus)(lb:List B)(p:Pat)(i:Int)(l:List cb):Prop:=Fh l/\∀m,m∈l↔m.b=i/\qha c lb p m
def qwx(c:Corpus)(lb:List B)(p:Pat)(l:List cb):Prop:=Fh l/\∀m,m∈l↔qha c lb p m
def quY{a b:cb}(h:a.b<b.b):qci a b:=by
 unfold qci Le mG;rcases lR a.b b.b with⟨_,e⟩|⟨h2,_⟩|⟨h2,_⟩
 ·rw[e];simp
 ·omega
 ·omega
def qhb(c:Corpus)(lb:List B)(p:Pat)(k:Int)(l:List cb):Prop:=Fh l/\∀m,m∈l↔m.b<k/\qha c lb p m
def qgv(c:Corpus)(lb:List B)(p:Pat):qhb c lb p 0 []:=⟨List.Pairwise.nil,λm=>⟨λh=>(by cases h),λh=>(by have:=h.2.1;omega)⟩⟩
def qgw{c:Corpus}{lb:List B}{p:Pat}{k:Int}{l l':List cb}(h:qhb c lb p k l)(d:qmk c lb p k l'):qhb c lb p (k+1) (l++l'):=by
 refine⟨qGs.2 ⟨h.1,d.1,λa j b hb=>quY ?_⟩,λm=>?_⟩
 ·have:=((h.2 a).1 j).1;have:=((d.2 b).1 hb).1;omega
 ·rw[qFG,h.2,d.2];constructor
  ·rintro(⟨h1,h2⟩|⟨h1,h2⟩)
   ·exact⟨by omega,h2⟩
   ·exact⟨by omega,h2⟩
  ·rintro⟨h1,h2⟩;by_cases e:m.b=k
   ·exact .inr ⟨e,h2⟩
   ·exact .inl ⟨by omega,h2⟩
def qjX{c:Corpus}{lb:List B}{p:Pat}{l:List cb}(h:qhb c lb p c.toks.length l):qwx c lb p l:=⟨h.1,λm=>(h.2 m).trans ⟨λh=>h.2,λh=>⟨h.2.1,h⟩⟩⟩
def qeL(r:Rn)(s:St3):(WC r s).length=r.lb.length:=by simp[WC]
def Zc:∀(n:Nat) (l:List Nat),l.Nodup->(∀x∈l,x<n)->l.length<=n
 | 0, [],_,_=>qFH _
 | 0,x::l,_,h=>absurd (h x (by simp)) (Nat.not_lt_zero _)
 | n+1,l,hn,h=>by
   have b:=Zc n (l.erase n) (hn.erase n) λx a=>by
    have h1:=(List.Nodup.mem_erase_iff hn).1 a;have:=h x h1.2;omega
   have h2:l.length<=(l.erase n).length+1:=by
    rw[List.length_erase];split<;>omega
   omega
def SV{c:Type}{l:List c}{f:c->Nat}{n:Nat}(h1:l.Nodup)(h2:∀x∈l,f x<n)(h3:∀x∈l,∀y∈l,f x=f y->x=y):l.length<=n:=by
 have hn:∀{l:List c},l.Nodup->(∀x∈l,∀y∈l,f x=f y->x=y)->(l.map f).Nodup:=λ{l} h1 h3=>by
  induction l with
  |nil=>exact qG2
  | cons a l h=>
    rw[qF6,qGM];have h4:=qGM.1 h1;refine⟨λhm=>?_,h h4.2 λx d y b=>h3 x (by simp[d]) y (by simp[b])⟩;obtain⟨y,b,e⟩:=qFL.1 hm;have:=h3 y (by simp[b]) a (by simp) e;subst this;exact h4.1 b
 have:=Zc n (l.map f) (hn h1 h3) λx d=>by
  obtain⟨y,b,rfl⟩:=qFL.1 d;exact h2 y b
 simpa using this
def qf6(m:Nat)(s:St3):Nat:=((s.p.toNat*m+s.b0.toNat) *m+s.b1.toNat) *m+s.b2.toNat
def tM:CC:=gq Tryz.f39 [4,3,3057036,1060060] { bx:=[41],cu:=[6],ke:=[36,990] } _
def tC:List aj:=[.tmp 6]
def RP:FO BW [4,3,3057036,1060060] tM tC 64:=fo
def th:CC:=gq Tryz.f97 [2,3] {} _
def sy:List aj:=[.tmp 4]
def KH:FO nZ [2,3] th sy 22:=fo
def tg:CC:=gq Tryz.f16 [2,3] {} _
def sx:List aj:=[.tmp 4, .tmp 5]
def KG:FO uO [2,3] tg sx 33:=fo
def kF:CC:=gq Tryz.f160 [] {} _
def ki:List aj:=[.tmp 4]
def CT:FO lI [] kF ki 36:=fo
variable {S S0:Nat->Spc}
def Wt(a b:Int)(x y:List Int):mG (a::x) (b::y)=if ug a b≠0 then ug a b else mG x y:=rfl
abbrev qiF:Spc:=aG (a2 (List Int) (List Int)) (λ_=>True) (enc (X:=Int)) λx y=>y=mG x.1 x.2
theorem qqv(h1:S cW=gA):ak kF ki S (a2 (List Int) (List Int)) (λ_=>True) (enc (X:=Int)) λx y=>y=mG x.1 x.2:=by
 rintro⟨l,m⟩ -;simp[kF,ki,-fB',-eB'];intro hl;refine ah (X:=Unit) [0,1,9] [] l.length (λk _=>mG l m=mG (l.drop k) (m.drop k)/\k<=m.length) (λ_=>[]) (λ_=>[]) () (by simp) ?_ ?_
 ·intro k _ hk ⟨a,q⟩;obtain⟨x,s⟩:∃x,l[k]? =some x:=⟨_,qFC hk⟩
  obtain⟨_,c⟩:=qFB.1 s;have j:l.drop k=x::l.drop (k+1):=by rw[<-c];exact qGh hk
  by_cases hm:k<m.length
  ·obtain⟨y,u⟩:∃y,m[k]? =some y:=⟨_,qFC hm⟩
   obtain⟨_,p⟩:=qFB.1 u;have t:m.drop k=y::m.drop (k+1):=by rw[<-p];exact qGh hm
   rw[j,t,Wt]at a;have d:¬(m.length:Int)<=k:=by omega
   have b:¬m.length<=k:=by omega
   simp[hk,s,c,u,p,hm,d,b,h1,-fB',-eB'];refineλw=>⟨λh=>?_,λh=>?_⟩
   ·rw[if_pos h]at a;exact a.symm
   ·rw[if_neg (by simp[h])]at a;exact⟨a,by omega⟩
  ·have d:(m.length:Int)<=k:=by omega
   have b:m.length<=k:=by omega
   have e:m.drop k=[]:=qGS b;rw[j,e]at a;simp[hk,s,c,d,b,-fB',-eB'];intro _;rw[a];rfl
 ·intro _ ⟨a,q⟩;rw[qGr]at a;simp[-fB',-eB'];intro _ _;constructor
  ·intro h;cases j:m.drop l.length with
   |nil=>have:=congrArg List.length j;simp at this;omega
   |cons y r=>rw[j]at a;rw[a];rfl
  ·intro h;have e:m.drop l.length=[]:=qGS (by omega);rw[e]at a;rw[a];rfl
abbrev s_cmpM:Spc:=aG (a2 cb cb) (λ_=>True) (enc (X:=Int)) λx y=>y=Le x.1 x.2
def qqu(h1:S cW=gA)(h2:S lI=qiF)(h3:S mF=vD):ak th sy S (a2 cb cb) (λ_=>True) (enc (X:=Int)) λx y=>y=Le x.1 x.2:=by
 rintro⟨a,b⟩ -;simp[th,sy,h1,h2,h3,-fB',-eB'];rw[Le,Wt,Wt];generalize mG a.lbs b.lbs=z;by_cases c:ug a.b b.b=0
 ·by_cases d:ug a.e b.e=0
  ·by_cases h:z=0
   ·simp[c,d,h]
   ·simp[c,d,List.find?,h]
  ·simp[c,List.find?,d]
 ·simp[List.find?,c]
def qt6(c:Corpus)(i:Int):Int:=fe c.texts λt=>decide (t.b<=i) && decide (i<t.e)
abbrev SF:Spc:=aG (a2 Corpus Int) (λ_=>True) (enc (X:=Int)) λx y=>y=qt6 x.1 x.2
theorem qfn:ak iO iB S (a2 Corpus Int) (λ_=>True) (enc (X:=Int)) λx y=>y=qt6 x.1 x.2:=by
 rintro⟨c,i⟩ -;simp[iO,iB,-fB',-eB'];intro hl;refine ah (X:=Unit) [1,8] [] c.texts.length (λk _=>∀t∈c.texts.take k,(decide (t.b<=i) && decide (i<t.e))=false) (λ_=>[]) (λ_=>[]) () (by simp) ?_ ?_
 ·intro k _ hk p;obtain⟨x,d⟩:∃x,c.texts[k]? =some x:=⟨_,qFC hk⟩
  obtain⟨_,a⟩:=qFB.1 d;have j:(decide (x.b<=i) && decide (i<x.e))=false->∀t∈c.texts.take (k+1),(decide (t.b<=i) && decide (i<t.e))=false:=λh t ht=>by
   rw[av d]at ht;rcases qFG.1 ht with ht|ht
   ·exact p t ht
   ·simp at ht;subst ht;exact h
  by_cases l:x.b<=i
  ·by_cases q:i<x.e
   ·simp[hk,d,a,l,q,-fB',-eB'];exact(tE d (by simp[l,q]) p).symm
   ·simp[hk,d,a,l,q,-fB',-eB'];have:=j (by simp[q]);simpa using this
  ·simp[hk,d,a,l,-fB',-eB'];have:=j (by simp[l]);simpa using this
 ·intro _ p;simp[-fB',-eB'];exact(jZ (by simpa using p)).symm
def qhI{c:Corpus}{i:Int} :(qt6 c i= -1/\qhH c i=none)\/ ∃k t,qt6 c i=(k:Nat)/\c.texts[k]? =some t/\qhH c i=some t:=by
 unfold qt6 qhH;generalize hp:(λt:xX=>decide (t.b<=i) && decide (i<t.e))=p;generalize c.texts=l;rcases G7 p l with⟨h1,h2⟩|⟨k,x,h1,h2,h3,h4⟩
 ·refine .inl ⟨h1,qH9.2 λx a=>by simp[h2 x a]⟩
 ·refine .inr ⟨k,x,h1,h2,?_⟩;have e:l=l.take k++x::l.drop (k+1):=by
   obtain⟨hk,d⟩:=qFB.1 h2;rw[<-d,<-qGh hk,qGa]
  rw[e,List.find?_append,qH9.2 λx a=>by simp[h4 x a]];simp[h3]


end
section
open Cod (enc dec)
variable {dq:Prop}
section
variable {Y Z:Type}
def qrf:Ni Pst:=Ng nQ
def qAL(A:dP Z)(er:Y->D)(pre:Pst->Z->Prop)(post:Pst->Z->Pst->Y->Prop):Spc:=qsv qrf A er pre post
def qD1(er:Y->D)(pre:Pst->Z->Prop)(post:Pst->Z->Pst->Y->Prop)(id b:Nat)(r:Option Res)(o:Option Z)(H:ab)(K:D->ab->Prop):Prop:=
 ∃x,r=some (.box b (nQ x))/\eL o λz=>pre x z/\∀a y,post x z a y->K (er y) (ai H id (some (.box b (nQ a))))
def qg0{x y:Pst}(h:nQ x=nQ y):x=y:=by
 obtain⟨l,a,d,e,f⟩:=x;obtain⟨l',b,c,j,k⟩:=y;simp only[nQ,qF8]at h;obtain⟨h1,h2,h3,h4,h5,_⟩:=h;have h1:=aP h1;have h2:=aP h2;have h3:=aP h3;have h4:=aP h4;have h5:=aP h5;subst h1;subst h2;subst h3;subst h4;subst h5;rfl
@[simp] theorem qre(A:dP Z)(er:Y->D)(pre:Pst->Z->Prop)(post:Pst->Z->Pst->Y->Prop)(d i b:Nat)(ds:List D)(H:ab)(K:D->ab->Prop):(qAL A er pre post).pt d (.bptr i b 0::ds) H K=qD1 er pre post i b (H i) (A.dec ds) H K:=by
 refine propext ⟨λh=>?_,λh=>?_⟩
 ·obtain⟨id,b',x,z,a,h1,h2,h3,h4,h5,h6,c⟩:=h;cases h1;refine⟨x,h3,?_⟩;rw[h2];exact⟨h6,c⟩
 ·obtain⟨x,h1,h2⟩:=h;cases hz:A.dec ds with
  |none=>rw[hz]at h2;exact h2.elim
  |some z=>rw[hz]at h2;exact⟨i,b,x,z,ds,rfl,hz,h1,λp hp=>by simp[qrf,Ng]at hp,by simp[qrf,Ng],h2.1,h2.2⟩
def QP(er:Y->D)(b:Nat)(post:Pst->Y->Prop)(r:D)(H:ab):Prop:=Mi qrf er b post r H
def Jn{er:Y->D}{b:Nat}{post:Pst->Y->Prop}{r:D}{H:ab}(x:Pst)(y:Y)(a:FrzTo (λi=>if i=0 then none else H i) r (er y))(h0:H 0=some (.box b (nQ x)))(c:post x y):QP er b post r H:=
 ⟨x,y,by simpa [qrf,Ng]using a,h0,λp hp=>by simp[qrf,Ng]at hp,c⟩
def rS(cc:CC)(rs:List aj)(S:Nat->Spc)(A:dP Z)(er:Y->D)(pre:Pst->Z->Prop)(post:Pst->Z->Pst->Y->Prop):Prop:=
 ∀b x z,pre x z->vc S cc (vE rs λr H'=>QP er b (post x z) r H') (dR (.bptr 0 b 0::A.view z)) (ai bS 0 (some (.box b (nQ x))))
variable {P:Program}{S:Nat->Spc}{f:Nat}{im:List Nat}{cc:CC}{rs:List aj}{N:Nat}
def qbv{A:dP Z}{er:Y->D}{pre:Pst->Z->Prop}{post:Pst->Z->Pst->Y->Prop}(a:∀f,Tri dq P f (S f).pt)(h:zY P f im cc rs N)(c:∀z,(A.view z).length+1<=N)(d:rS cc rs S A er pre post):Tri dq P f (qAL A er pre post).pt:=
 wl (by simp[qrf,Ng]) a h c λb x z hp=>d b x z hp
end
section
variable {Y Z:Type}
def qb2(A:dP Z)(er:Y->D)(F:Pst->Z->Option (Pst×Y)):Spc:=qAL A er (λs z=>∃r,F s z=some r) (λs z a y=>F s z=some (a,y))
def qi9(er:Y->D)(F:Pst->Z->Option (Pst×Y))(id b:Nat)(r:Option Res)(o:Option Z)(H:ab)(K:D->ab->Prop):Prop:=
 ∃x,r=some (.box b (nQ x))/\eL o λz=>eL (F x z) λq=>K (er q.2) (ai H id (some (.box b (nQ q.1))))
@[congr] theorem qxx{er:Y->D}{F:Pst->Z->Option (Pst×Y)}{id b:Nat}{r r':Option Res}{o a:Option Z}{H:ab}{K:D->ab->Prop}(h1:r=r')(h2:o=a):qi9 er F id b r o H K=qi9 er F id b r' a H K:=by subst h1;subst h2;rfl
def quH{F:Option (Pst×Y)}{k:Pst->Y->Prop} :((∃r,F=some r)/\∀a y,F=some (a,y)->k a y)=eL F λq=>k q.1 q.2:=by
 cases F with
 | none=>
   refine propext (Iff.intro (λh=>?_) (λh=>?_))
   ·obtain⟨⟨r,h⟩,_⟩:=h;cases h
   ·exact False.elim h
 | some r=>
   refine propext (Iff.intro (λh=>h.2 _ _ rfl) (λh=>⟨⟨_,rfl⟩,λa y e=>?_⟩));cases e;exact h
@[simp] theorem qAJ(A:dP Z)(er:Y->D)(F:Pst->Z->Option (Pst×Y))(d i b:Nat)(ds:List D)(H:ab)(K:D->ab->Prop):(qb2 A er F).pt d (.bptr i b 0::ds) H K=qi9 er F i b (H i) (A.dec ds) H K:=by
 unfold qb2 qi9;rw[qre];unfold qD1;refine propext (exists_congr λx=>and_congr_right λ_=>?_);cases A.dec ds with
 |none=>exact qGZ
 |some z=>exact iff_of_eq quH
@[simp] theorem qAK(er:Y->D)(F:Pst->Z->Option (Pst×Y))(id b:Nat)(l:List Mg)(p a e f:Int)(o:Option Z)(H:ab)(K:D->ab->Prop):
 qi9 er F id b (some (.box b [.list 3 (l.map enc), .v (.int .i64 p), .v (.int .i64 a), .v (.int .i64 e), .v (.int .i64 f)])) o H K=eL o λz=>eL (F ⟨l,p,a,e,f⟩ z) λq=>K (er q.2) (ai H id (some (.box b (nQ q.1)))):=by
 refine propext ⟨λ⟨x,h1,h2⟩=>?_,λh=>⟨⟨l,p,a,e,f⟩,rfl,h⟩⟩;have c:nQ ⟨l,p,a,e,f⟩=nQ x:=by
  have:=qFO h1;exact(Res.box.inj this).2
 have:=qg0 c;subst this;exact h2
variable {P:Program}{S:Nat->Spc}{f:Nat}{im:List Nat}{cc:CC}{rs:List aj}{N:Nat}
def dQ{A:dP Z}{er:Y->D}{F:Pst->Z->Option (Pst×Y)}(a:∀f,Tri dq P f (S f).pt)(h:zY P f im cc rs N)(b:∀z,(A.view z).length+1<=N)
 (c:rS cc rs S A er (λs z=>∃r,F s z=some r) (λs z d y=>F s z=some (d,y))):Tri dq P f (qb2 A er F).pt:=qbv a h b c
end
open Go.Proofs Go.Shelf Go.RowKit
section
variable {X:Type}
def qA1(A:dP X)(pre:X->List D->Prop)(post:X->List D->List D->Prop):PT:=λd ds H K=>∃id v l a x,ds= .own id v::a/\A.dec a=some x/\H id=some (.mrow v l)/\pre x l/\∀l',post x l l'->K (.tup []) (ai H id (some (.mrow v l')))
def qnP(A:dP X)(pre:X->List D->Prop)(post:X->List D->List D->Prop):nC (qA1 A pre post):=λd ds H K b hk ⟨id,v,l,a,x,h1,h2,h3,h4,h5⟩=>⟨id,v,l,a,x,h1,h2,h3,h4,λl' hp=>hk _ _ (h5 l' hp)⟩
def qA3(A:dP X)(pre:X->List D->Prop)(post:X->List D->List D->Prop):Spc:= .gen _ (qnP A pre post)
def quS(A:dP X)(pre:X->List D->Prop)(post:X->List D->List D->Prop)(id:Nat)(v:Value)(ds:List D)(r:Option Res)(H:ab)(K:D->ab->Prop):Prop:=match r with
 |some (.mrow v' l)=>v'=v/\eL (A.dec ds) λx=>pre x l/\∀l',post x l l'->K (.tup []) (ai H id (some (.mrow v l')))
 | _=>False
@[congr] theorem qA0{A:dP X}{pre:X->List D->Prop}{post:X->List D->List D->Prop}{id:Nat}{v:Value}{ds a:List D}{r r':Option Res}{H:ab}{K:D->ab->Prop}(h1:ds=a)(h2:r=r'):quS A pre post id v ds r H K=quS A pre post id v a r' H K:=by subst h1;subst h2;rfl
@[simp] theorem quR(A:dP X)(pre:X->List D->Prop)(post:X->List D->List D->Prop)(id:Nat)(v v':Value)(ds l:List D)(H:ab)(K:D->ab->Prop):quS A pre post id v ds (some (.mrow v' l)) H K=(v'=v/\eL (A.dec ds) λx=>pre x l/\∀l',post x l l'->K (.tup []) (ai H id (some (.mrow v l')))):=i' rfl
@[simp] theorem qA2(A:dP X)(pre:X->List D->Prop)(post:X->List D->List D->Prop)(d i:Nat)(v:Value)(ds:List D)(H:ab)(K:D->ab->Prop):(qA3 A pre post).pt d (.own i v::ds) H K=quS A pre post i v ds (H i) H K:=by
 refine propext ⟨λh=>?_,λh=>?_⟩
 ·obtain⟨id,v,l,b,x,h1,h2,h3,h4,h5⟩:=h;cases h1;rw[h3,quR,h2];exact⟨rfl,h4,h5⟩
 ·unfold quS at h;split at h
  ·rename_i v' l c;obtain⟨rfl,h⟩:=h;cases a:A.dec ds with
   |none=>rw[a]at h;exact h.elim
   |some x=>rw[a]at h;exact⟨i,v',l,ds,x,rfl,a,c,h.1,h.2⟩
  ·exact h.elim
def qwB(v:Value)(q:List D->Prop)(r:D)(H':ab):Prop:=∃l,r= .tup []/\H' 0=some (.mrow v l)/\q l
def qlS(cc:CC)(rs:List aj)(S:Nat->Spc)(A:dP X)(pre:X->List D->Prop)(post:X->List D->List D->Prop):Prop:=
 ∀v l x,pre x l->vc S cc (vE rs λr H'=>qwB v (post x l) r H') (dR (.own 0 v::A.view x)) (ai bS 0 (some (.mrow v l)))
variable {P:Program}{S:Nat->Spc}{f:Nat}{im:List Nat}{cc:CC}{rs:List aj}{N:Nat}{A:dP X}
theorem qbw{pre:X->List D->Prop}{post:X->List D->List D->Prop}(u:∀f,Tri dq P f (S f).pt)(h:zY P f im cc rs N)(w:∀x,(A.view x).length+1<=N)(y:qlS cc rs S A pre post):Tri dq P f (qA3 A pre post).pt:=by
 obtain⟨zq,enter,fn,code,h1,h2,h3,h4,h5⟩:=h;refine pw u zq h1 h2 enter h3 h4 h5 ?_;rintro ds H d K ⟨id,v,l,p,x,rfl,C,hid,hp,E⟩;have hl:=A.le p x C;refine⟨by simp only[qGi];rw[hl.1];exact w x, .own 0 v::A.view x,ai bS 0 (some (.mrow v l)),λ_=>id, .cons (.own _ _ _) hl,λi r h=>?_,λi j r s h F _=>?_,_,y v l x hp,?_⟩
 ·by_cases e:i=0
  ·subst e;simp only[ai,if_true]at h;cases h;exact hid
  ·simp[ai,e]at h
 ·have a:i=0:=by
   by_cases e:i=0
   ·exact e
   ·simp[ai,e]at h
  have b:j=0:=by
   by_cases e:j=0
   ·exact e
   ·simp[ai,e]at F
  exact a.trans b.symm
 ·rintro r H' ⟨l',rfl,I,c⟩;refine⟨.tup [],bS,ai H id (some (.mrow v l')),λi=>if i=id then some 0 else none, .same _,λj q h=>by simp at h,E l' c,λi s hi=>?_,λi t k s q hi J L M=>?_⟩
  ·by_cases e:i=id
   ·subst e;simp only[ai,if_true]at hi;cases hi;simpa using I
   ·simp only[ai,e,if_false]at hi ⊢;exact⟨hi,λk q h he=>e he.symm⟩
  ·have a:i=id:=by
    by_cases e:i=id
    ·exact e
    ·simp[e]at L
   have b:t=id:=by
    by_cases e:t=id
    ·exact e
    ·simp[e]at M
   exact a.trans b.symm
end
def qCA:PT:=λd ds H K=>∃es,ds=[.mp es]/\(es=[]->K (.mp []) H)/\(es≠ []->∀v,K (.own d v) (ai H d (some (.mrow v es))))
def qoN:nC qCA:=λd ds H K a hk ⟨es,h1,h2,h3⟩=>⟨es,h1,λh=>hk _ _ (h2 h),λh v=>hk _ _ (h3 h v)⟩
def clC:Spc:= .gen _ qoN
@[simp] theorem qCB(d:Nat)(es:List D)(H:ab)(K:D->ab->Prop):clC.pt d [.mp es] H K=((es=[]->K (.mp []) H)/\(es≠ []->∀v,K (.own d v) (ai H d (some (.mrow v es))))):=
 propext ⟨λ⟨es',h1,h2,h3⟩=>by cases h1;exact⟨h2,h3⟩,λ⟨h2,h3⟩=>⟨es,rfl,h2,h3⟩⟩
theorem qfy{P:Program}{ρ:Ren}{fc:Nat}(L:SlLaysW.n5 P ρ)(y:ρ.f 5=fc)(C:dc P fc):Tri dq P fc clC.pt:=by
 subst y;intro O tp w vs ds H d K hO q p hlen j E;obtain⟨es,rfl,h0,h1⟩:=E
 match vs,hlen,j with
 | [F],_,j=>
 refine⟨C,?_⟩;have I:=j 0 F _ rfl rfl;have t:StW ⟨O,tp,w,bA H,0, [],dq⟩ tp H w:=⟨hO,λ_ h=>h,λ_ h=> .inl h,⟨q.1,q.2⟩, .refl _ _ _,λ_ h=> .inl h,p⟩
 have fin:∀{H':ab} {w':World} {x:Value} {r:D},StW ⟨O,tp,w,bA H,0, [],dq⟩ tp H' w'->K r H'->R tp (aR O tp H' w') w' x r->qaT dq O tp H w K (.returned x) w':=λ{H' w' x r} h hk u=>
  ⟨x,r,H',tp,rfl,hk,λ_ h=>h,λ_ h=> .inl h,h.tpl.1,h.step,h.loc,h.sat,u⟩
 cases I with
 | nomp=>
   refine(AnyW.maps_Clone_nil L w).mono ?_;rintro e w' ⟨rfl,rfl⟩;exact fin t (h0 rfl) .nomp
 | mp b a clock _ hI hh hl hb h=>
   refine(AnyW.maps_Clone L b a clock w hh).mono ?_;rintro e w' ⟨rfl,rfl⟩;have l:(w.alloc (.map a clock)).heap[w.heap.size]? =some (.map a clock):=(MapKept.heap_alloc w _).1;by_cases he:es=[]
   ·subst he;obtain⟨s,move⟩:=t.grow (GrB.alloc w (.map a clock) none);refine fin s (h0 rfl) (.mp _ a clock [] ⟨?_,λh=>?_,λh=>?_,λh=>?_⟩ l hl hb λk e c _ hc=>by simp at hc)
    ·exact(qFN.1 l).1
    ·exact absurd (hO _ h) (qH2 _)
    ·exact absurd (q.1 _ h) (qH2 _)
    ·obtain⟨i,r,h1,h2⟩:=h;exact absurd ((p.ok i r h1).lt h2) (qH2 _)
   ·obtain⟨s,move⟩:=t.own d (some (.mrow (.map (some w.heap.size)) es)) (GrB.alloc w (.map a clock) none) (λb h=>by cases h)
     (λr b h1 h2=>by cases h1;cases h2;exact .inl (qFH _))
     (λmv r u=>by
       cases u;exact⟨_,a,clock,rfl,l,hb,hl,λk e c he hc=>mv _ _ (h k e c he hc)⟩)
    exact fin s (h1 he _) (.own _ _ rfl)
end
section
open Cod (enc dec)
def CR(tp I:Nat->Prop)(w:World)(f:Nat->Value)(cs:List D):Prop:=∀(k:Nat) (c:D),cs[k]? =some c->R tp I w (f k) c
def qmn{X:Type}[Cod X](x:X):Prop:=∀(tp I:Nat->Prop) (w:World) (f:Nat->Value) (y:X),CR tp I w f (enc x).cells->CR tp I w f (enc y).cells->x=y
def NG{tp I:Nat->Prop}{w:World}{v:Value}{a b:Int}(h1:R tp I w v (enc a))(h2:R tp I w v (enc b)):a=b:=by
 have d:v= .int .i64 a:=R.inv_v h1;have c:v= .int .i64 b:=R.inv_v h2;rw[d]at c;cases c;rfl
def qkS{tp I:Nat->Prop}{w:World}{v:Value}{a b:Bool}(h1:R tp I w v (enc a))(h2:R tp I w v (enc b)):a=b:=by
 have d:v= .bool a:=R.inv_v h1;have c:v= .bool b:=R.inv_v h2;rw[d]at c;cases c;rfl
def Fc{tp I:Nat->Prop}{w:World}{v:Value}{a b:B}(h1:R tp I w v (enc a))(h2:R tp I w v (enc b)):a=b:=by
 have d:v= .string a:=R.inv_v h1;have c:v= .string b:=R.inv_v h2;rw[d]at c;cases c;rfl
def R.inv_list{tp I:Nat->Prop}{w:World}{v:Value}{n:Nat}{es:List D}(h:R tp I w v (.list n es)):(es=[]/\∃a cap,v= .slice a 0 cap)\/
 (∃(b off cap:Nat) (f:Nat->Value),v= .slice (some ⟨b,off,none⟩) es.length cap/\(∀d∈es,d.cells.length=n)/\(∀(k:Nat) (c:D),(bp es)[k]? =some c->w.cell? ⟨b,off+k,none⟩=some (f k))/\∀(k:Nat) (c:D),(bp es)[k]? =some c->R tp I w (f k) c):=by
 generalize j:D.list n es=d at h;cases h<;>first|cases j;done|skip
 ·cases j;exact .inl ⟨rfl,_,_,rfl⟩
 ·rename_i b off cap l es' f hI hc hm hz hn hcell h1 h;cases j;exact .inr ⟨b,off,cap,f,rfl,λd j=>(hn d j).2,hcell,h⟩
theorem Z3{X:Type}[Cod X]{tp I:Nat->Prop}{w:World}{v:Value}{l l':List X}(S:0<Cod.wd X)(hl:∀x∈l,qmn x)(h1:R tp I w v (enc l))(h2:R tp I w v (enc l')):l=l':=by
 have h1:R tp I w v (.list (Cod.wd X) (l.map enc)):=h1;have h2:R tp I w v (.list (Cod.wd X) (l'.map enc)):=h2;have nil:∀{k:List X},k.map (enc (X:=X))=[]->k=[]:=λ{k} h=>by cases k with|nil=>rfl|cons a k=>simp at h
 rcases h1.inv_list with⟨F,a,cap,rfl⟩|⟨b,off,cap,f,rfl,hn,hcell,K⟩
 ·rcases h2.inv_list with⟨t,_⟩|⟨b',r,q,L,e,_⟩
  ·rw[nil F,nil t]
  ·injection e with _ e _;rw[nil F];have:l'.length=0:=by simpa using e.symm
   exact(qGo.1 this).symm
 ·rcases h2.inv_list with⟨t,a,q,e⟩|⟨b',r,q,L,e,u,p,y⟩
  ·injection e with _ e _;rw[nil t];have:l.length=0:=by simpa using e
   exact qGo.1 this
  ·injection e with A M _;injection A with A;injection A with N O _;subst N;subst O;have hlen:l.length=l'.length:=by simpa using M
   refine qHG hlen λi hi C=>?_
   refine hl l[i] (qG1 _) tp I w (λj=>f (i*Cod.wd X+j)) l'[i] (λj c s=>?_) (λj c s=>?_)
   ·have d:j<Cod.wd X:=by rw[<-Cod.wid l[i]];exact(qFB.1 s).1
    refine K _ c ?_;rw[dY hn d,qFP,qFC hi];exact s
   ·have d:j<Cod.wd X:=by rw[<-Cod.wid l'[i]];exact(qFB.1 s).1
    have J:(bp (l'.map (enc (X:=X))))[i*Cod.wd X+j]? =some c:=by
     rw[dY u d,qFP,qFC C];exact s
    have E:j<(enc l[i]).cells.length:=by rw[Cod.wid];exact d
    have Q:(bp (l.map (enc (X:=X))))[i*Cod.wd X+j]? =some (enc l[i]).cells[j]:=by
     rw[dY hn d,qFP,qFC hi];exact qFC E
    have c1:=hcell _ _ Q;have c2:=p _ _ J;rw[c1]at c2;have c3:=qFO c2;show R tp I w (f (i*Cod.wd X+j)) c;rw[c3];exact y _ c J
mutual
def Z4:∀c:Cond,qmn c
 | .mk op n a v l fo ks=>by
   have d:=Tx ks;rintro tp I w f ⟨h,x,y,v',l',j,b⟩ h1 h2;rw[P6]at h1 h2;have k:=NG (h1 0 _ rfl) (h2 0 _ rfl);have p:=Fc (h1 1 _ rfl) (h2 1 _ rfl);have q:=Fc (h1 2 _ rfl) (h2 2 _ rfl);have r:=Fc (h1 3 _ rfl) (h2 3 _ rfl);have s:=Fc (h1 4 _ rfl) (h2 4 _ rfl);have t:=qkS (h1 5 _ rfl) (h2 5 _ rfl);have u:=Z3 (l:=ks) (l':=b) (by decide) d (h1 6 _ rfl) (h2 6 _ rfl);rw[k,p,q,r,s,t,u]
def Tx:∀ks:List Cond,∀c∈ks,qmn c
 | [],c,h=>by cases h
 | k::ks,c,h=>by
   have a:=Z4 k;have b:=Tx ks;rcases qFK.1 h with rfl|h
   ·exact a
   ·exact b c h
end
def qkH(op:Int)(c:Cond)(l r:B)(mn mx:Int)(ks:List Pat):(enc (Pat.mk op c l r mn mx ks)).cells=enc op::((enc c).cells++ [enc l,enc r,enc mn,enc mx,enc ks]):=by
 obtain⟨b,n,a,v,cl,fo,d⟩:=c;simp
def qez{tp I:Nat->Prop}{w:World}{f:Nat->Value}{a b c:List D}(h:CR tp I w f (a++ (b++c))):CR tp I w (λk=>f (a.length+k)) b:=λk d hk=>by
 refine h (a.length+k) d ?_;rw[qF4 (by omega),qHy,qGc (qFB.1 hk).1];exact hk
mutual
theorem qeq:∀p:Pat,qmn p
 | .mk op c l r mn mx ks=>by
   have y:=Z2 ks;rintro tp I w f ⟨q,c',l',r',s,t,h⟩ h1 h2;rw[qkH]at h1 h2;have hc:c=c':=by
    refine Z4 c tp I w (λk=>f (1+k)) c' ?_ ?_
    ·exact qez (a:=[enc op]) h1
    ·exact qez (a:=[enc q]) h2
   subst hc;have x:(enc c).cells.length=7:=Cod.wid c;have b:∀(j:Nat) (d:D), [enc l,enc r,enc mn,enc mx,enc ks][j]? =some d->R tp I w (f (8+j)) d:=λj d u=>by
    refine h1 (8+j) d ?_;rw[show 8+j=(7+j) +1 by omega,qHf,qF4 (by omega),x,qHy];exact u
   have qo2:∀(j:Nat) (d:D), [enc l',enc r',enc s,enc t,enc h][j]? =some d->R tp I w (f (8+j)) d:=λj d u=>by
    refine h2 (8+j) d ?_;rw[show 8+j=(7+j) +1 by omega,qHf,qF4 (by omega),x,qHy];exact u
   have A:=NG (h1 0 _ rfl) (h2 0 _ rfl);have C:=Fc (b 0 _ rfl) (qo2 0 _ rfl);have E:=Fc (b 1 _ rfl) (qo2 1 _ rfl);have F:=NG (b 2 _ rfl) (qo2 2 _ rfl);have J:=NG (b 3 _ rfl) (qo2 3 _ rfl);have K:=Z3 (l:=ks) (l':=h) (by decide) y (b 4 _ rfl) (qo2 4 _ rfl);rw[A,C,E,F,J,K]
def Z2:∀ks:List Pat,∀c∈ks,qmn c
 | [],c,h=>by cases h
 | k::ks,c,h=>by
   have a:=qeq k;have b:=Z2 ks;rcases qFK.1 h with rfl|h
   ·exact a
   ·exact b c h
end
def vQ(d:D)(p:Pat):Prop:=∃cs off,d= .cptr cs off/\off+13<=cs.length/\(cs.drop off).take 13=(enc p).cells
def Bn{cs:List D}{off:Nat}{p:Pat}(h1:off+13<=cs.length)(h2:(cs.drop off).take 13=(enc p).cells){j:Nat}(a:j< 13):cs[off+j]? =(enc p).cells[j]?:=by
 rw[<-h2,qFX,if_pos a,qGx]
def R.inv_cptr{tp I:Nat->Prop}{w:World}{v:Value}{cs:List D}{off:Nat}(h:R tp I w v (.cptr cs off)):∃(b base:Nat) (f:Nat->Value),v= .pointer (some ⟨b,base+off,none⟩)/\
 (∀(k:Nat) (c:D),cs[k]? =some c->w.cell? ⟨b,base+k,none⟩=some (f k))/\∀(k:Nat) (c:D),cs[k]? =some c->R tp I w (f k) c:=by
 generalize a:D.cptr cs off=d at h;cases h<;>first|cases a;done|skip
 rename_i b base cs' j f hI hz hcell h1 h;cases a;exact⟨b,base,f,rfl,hcell,h⟩
theorem qfS{d y:D}{p h:Pat}(h1:vQ d p)(h2:vQ y h){tp I:Nat->Prop}{w:World}{v:Value}(C:R tp I w v d)(E:R tp I w v y):p=h:=by
 obtain⟨cs,off,rfl,hl,hc⟩:=h1;obtain⟨cs',j,rfl,l,q⟩:=h2;obtain⟨b,base,f,rfl,F,J⟩:=C.inv_cptr;obtain⟨b',r,N,e,s,t⟩:=E.inv_cptr;injection e with e;injection e with e;injection e with K L _;subst K;have wp:(enc p).cells.length=13:=Cod.wid p;have u:(enc h).cells.length=13:=Cod.wid h;refine qeq p tp I w (λk=>f (off+k)) h (λk c hk=>?_) (λk c hk=>?_)
 ·have a:k< 13:=by rw[<-wp];exact(qFB.1 hk).1
  exact J _ c (by rw[Bn hl hc a];exact hk)
 ·have a:k< 13:=by rw[<-u];exact(qFB.1 hk).1
  have A:cs'[j+k]? =some c:=by rw[Bn l q a];exact hk
  have x:off+k<cs.length:=by omega
  have M:cs[off+k]? =some cs[off+k]:=qFC x;have c1:=F _ _ M;have c2:=s _ _ A;rw[<-qHR]at c1 c2;rw[L,c2]at c1;have c3:=qFO c1;show R tp I w (f (off+k)) c;rw[<-c3];exact t _ c A
variable {dq:Prop}
section
variable {X Z:Type}
def qC5(A:dP X)(pre:D×X->Prop)(er:Z->D)(post:D×X->Z->Prop):PT:=λd ds H K=>∃id b cells a x,ds= .bptr id b 0::a/\A.dec a=some x/\H id=some (.box b cells)/\pre (.cptr cells 0,x)/\∀z,post (.cptr cells 0,x) z->K (er z) H
def qoZ(A:dP X)(pre:D×X->Prop)(er:Z->D)(post:D×X->Z->Prop):nC (qC5 A pre er post):=λd ds H K c hk ⟨id,b,cells,a,x,h1,h2,h3,h4,h5⟩=>⟨id,b,cells,a,x,h1,h2,h3,h4,λz hz=>hk _ _ (h5 z hz)⟩
def qpU(A:dP X)(pre:D×X->Prop)(er:Z->D)(post:D×X->Z->Prop):Spc:= .gen _ (qoZ A pre er post)
def qpT(A:dP X)(pre:D×X->Prop)(er:Z->D)(post:D×X->Z->Prop)(b:Nat)(ds:List D)(r:Option Res)(H:ab)(K:D->ab->Prop):Prop:=match r with
 |some (.box b' cells)=>b'=b/\eL (A.dec ds) λx=>pre (.cptr cells 0,x)/\∀z,post (.cptr cells 0,x) z->K (er z) H
 | _=>False
@[congr] theorem qC4{A:dP X}{pre:D×X->Prop}{er:Z->D}{post:D×X->Z->Prop}{b:Nat}{ds a:List D}{r r':Option Res}{H:ab}{K:D->ab->Prop}(h1:ds=a)(h2:r=r'):qpT A pre er post b ds r H K=qpT A pre er post b a r' H K:=by subst h1;subst h2;rfl
@[simp] theorem qly(A:dP X)(pre:D×X->Prop)(er:Z->D)(post:D×X->Z->Prop)(b b':Nat)(ds:List D)(cells:List D)(H:ab)(K:D->ab->Prop):qpT A pre er post b ds (some (.box b' cells)) H K=(b'=b/\eL (A.dec ds) λx=>pre (.cptr cells 0,x)/\∀z,post (.cptr cells 0,x) z->K (er z) H):=i' rfl
@[simp] theorem qlz(A:dP X)(pre:D×X->Prop)(er:Z->D)(post:D×X->Z->Prop)(d i b:Nat)(ds:List D)(H:ab)(K:D->ab->Prop):(qpU A pre er post).pt d (.bptr i b 0::ds) H K=qpT A pre er post b ds (H i) H K:=by
 refine propext ⟨λh=>?_,λh=>?_⟩
 ·obtain⟨id,b',cells,c,x,h1,h2,h3,h4,h5⟩:=h;cases h1;rw[h3,qly,h2];exact⟨rfl,h4,h5⟩
 ·unfold qpT at h;split at h
  ·rename_i b' cells j;obtain⟨rfl,h⟩:=h;cases a:A.dec ds with
   |none=>rw[a]at h;exact h.elim
   |some x=>rw[a]at h;exact⟨i,b',cells,ds,x,rfl,a,j,h.1,h.2⟩
  ·exact h.elim
theorem LG{P:Program}{f:Nat}{A:dP X}{pre:D×X->Prop}{er:Z->D}{post:D×X->Z->Prop}(hf:Tri dq P f (aG (aD A) pre er post).pt)(t:∀z,qaU (er z)):Tri dq P f (qpU A pre er post).pt:=by
 intro O tp w vs ds H d K hO N a hlen l hA;obtain⟨id,p,cells,F,x,rfl,hd,hid,hp,hK⟩:=hA;cases vs with
 |nil=>simp at hlen
 | cons v0 vs=>
   have Q:v0= .pointer (some ⟨p,0,none⟩):=by
    have:=l 0 v0 (.bptr id p 0) rfl rfl;cases this;rfl
   subst Q
   let I:Nat->Prop:=λb=>O b\/ ∃i r,i≠id/\H i=some r/\r.blk=some b
   have J:∀b,aR O tp H w b->aR I tp bS w b:=λb hb=>⟨hb.1,λh=>h.elim hb.2.1 λ⟨i,r,_,h1,h2⟩=>hb.2.2.2 ⟨i,r,h1,h2⟩,hb.2.2.1,λ⟨i,r,h1,_⟩=>by simp at h1⟩
   have L:∀y e,R tp (aR O tp H w) w y e->R tp (aR I tp bS w) w y e:=λy e S=>S.mono (λ_ h=>h) (λb hb=>⟨J b hb,rfl⟩) (λb _=> .refl _ _)
   have hl:R tp (aR I tp bS w) w (.pointer (some ⟨p,0,none⟩)) (.cptr cells 0):=by
    have u:(Res.box p cells).blk=some p:=rfl;have h1:=a.out id _ p hid u;have hI:aR I tp bS w p:=⟨(a.ok id _ hid).lt u,λh=>h.elim h1.1 λ⟨i,r,U,h2,h3⟩=>U (a.dis _ _ _ _ p h2 hid h3 u),h1.2,λ⟨i,r,h2,_⟩=>by simp at h2⟩
    obtain⟨xs,el,g1,g2,g3⟩:=(a.ok id _ hid).conv L (λ_ _=>rfl);obtain⟨f,k1,k2,k3⟩:=tq g1 g2 g3;have:=R.cptr (tp:=tp) p 0 cells 0 f hI (λ_=>⟨_,_,g1⟩) k1 k2 k3;simpa using this
   have M:(aD A).dec (.cptr cells 0::F)=some (.cptr cells 0,x):=by simp[hd]
   obtain⟨W,hc⟩:=hf I tp w (.pointer (some ⟨p,0,none⟩)::vs) (.cptr cells 0::F) bS d (λr H'=>∃z,r=er z/\post (.cptr cells 0,x) z/\H'=bS)
    (λb hb=>hb.elim (hO b) λ⟨i,r,_,h1,h2⟩=>(a.ok i r h1).lt h2) (N.mono λb ⟨i,r,h,_⟩=>by simp at h) ⟨λi j r s b h=>by simp at h,λi r b h=>by simp at h,λi r h=>by simp at h⟩ (by simpa using hlen)
    (λk y e h1 h2=>by
      cases k with
      |zero=>simp at h1 h2;subst h1;subst h2;exact hl
      |succ k=>simp at h1 h2;exact L _ _ (l (k+1) y e (by simpa using h1) (by simpa using h2)))
    (by rw[mO,M];exact⟨hp,λz hz=>⟨z,rfl,hz,rfl⟩⟩)
   refine⟨W,hc.mono ?_⟩;rintro e w' ⟨q,r,H',C,rfl,⟨z,rfl,hz,rfl⟩,t1,Y,t3,hs,ho,hsat',hR⟩;have c:∀b,b<w.heap.size->¬tp b->w'.heap[b]? =w.heap[b]?:=λb hb ht=>hs.same b hb (λ⟨i,r,h,_⟩=>by simp at h) ht
   have E:∀y e,R tp (aR O tp H w) w y e->R C (aR O C H w') w' y e:=λy e S=>S.mono t1 (λb hb=>⟨⟨qFS hb.1 hs.size,hb.2.1,λh=>by
    rcases Y b h with h|h
    ·exact hb.2.2.1 h
    ·have:=hb.1;omega,hb.2.2.2⟩,c b hb.1 hb.2.2.1⟩) hs.tapes
   refine⟨q,er z,H,C,rfl,hK z hz,t1,Y,t3,⟨hs.os,hs.tape,hs.output,hs.size,λb hb _ ht=>c b hb ht,hs.tapes,hs.drawn⟩,λb h=> .inl h,⟨a.dis,λi r b h1 h2=>?_,λi r h1=>?_⟩,t z _ _ _ _ _ _ _ hR⟩
   ·have:=a.out i r b h1 h2;refine⟨this.1,λh=>?_⟩;rcases Y b h with h|h
    ·exact this.2 h
    ·have:=(a.ok i r h1).lt h2;omega
   ·exact(a.ok i r h1).conv E λb hb=>c b ((a.ok i r h1).lt hb) (a.out i r b h1 hb).2
end
open Go.Proofs
def nX(r:Rn)(k:D):List D:=[.list 2 (r.c.attrs.map enc), .list 1 (r.c.toks.map enc), .list 4 (r.c.texts.map enc), .list 4 (r.c.regs.map enc), .list 4 (r.c.nodes.map enc), .list 1 (r.c.heads.map enc), .list 1 (r.c.rels.map enc), .list 1 (r.lb.map enc), .v (.int .i64 r.bg), .v (.int .i64 r.en),k]
def OT{r r':Rn}{k d:D}(h:nX r k=nX r' d):r=r'/\k=d:=by
 simp only[nX,qF8,D.list.injEq,D.v.injEq,qH1,true_and,and_true]at h;obtain⟨h1,h2,h3,h4,h5,h6,j,p,q,b,c⟩:=h;obtain⟨⟨a1,a2,a3,a4,u,w,x⟩,lb,bg,en⟩:=r;obtain⟨⟨b1,b2,y,A,C,E,F⟩,lb',s,t⟩:=r';have a:∀{X:Type} [Cod X] {l l':List X},l.map enc=l'.map enc->l=l':=λ{X} _ {l l'} h=>aP (X:=List X) (by show D.list _ _=D.list _ _;rw[h])
 simp only at h1 h2 h3 h4 h5 h6 j p q b;rw[a h1,a h2,a h3,a h4,a h5,a h6,a j,a p,q,b];exact⟨rfl,c⟩
def Iu{r r':Rn}{k a:D}(h:D.cptr (nX r k) 0= .cptr (nX r' a) 0):r=r':=by
 injection h with h _;exact(OT h).1
@[simp] theorem qxi(r:Rn)(k:D):(nX r k).length=11:=i' rfl
@[simp] theorem qDQ(r:Rn)(k:D)(h:3<(nX r k).length):(nX r k)[3]= .list 4 (r.c.regs.map enc):=i' rfl
@[simp] theorem qDP(r:Rn)(k:D)(h:8<(nX r k).length):(nX r k)[8]= .v (.int .i64 r.bg):=i' rfl
@[simp] theorem qDO(r:Rn)(k:D)(h:9<(nX r k).length):(nX r k)[9]= .v (.int .i64 r.en):=i' rfl
@[simp] theorem qAz(r:Rn)(k:D)(h:10<(nX r k).length):(nX r k)[10]=k:=i' rfl
structure qEV where
 r:Rn
 v:Value
 es:List D
def rnB:Ni qEV:=⟨[990],λx=>nX x.r (.own 990 x.v),λx=>[(990, .mrow x.v x.es)],λ_=>rfl⟩
section
variable {Y Z:Type}
def quw(A:dP Z)(er:Y->D)(pre:Rn->List D->Z->Prop)(post:Rn->Z->List D->Y->Prop):Spc:=qsv rnB A er (λx z=>pre x.r x.es z) (λx z a y=>a.r=x.r/\post x.r z a.es y)
def IA(H:ab)(id b:Nat)(r:Rn)(v:Value)(es:List D):ab:=ai (ai H 990 (some (.mrow v es))) id (some (.box b (nX r (.own 990 v))))
def qxh(er:Y->D)(pre:Rn->List D->Z->Prop)(post:Rn->Z->List D->Y->Prop)(id b:Nat)(q a:Option Res)(o:Option Z)(H:ab)(K:D->ab->Prop):Prop:=
 ∃r v es,q=some (.box b (nX r (.own 990 v)))/\a=some (.mrow v es)/\id≠990/\eL o λz=>pre r es z/\∀v' es' y,post r z es' y->K (er y) (IA H id b r v' es')
@[congr] theorem qAA{er:Y->D}{pre:Rn->List D->Z->Prop}{post:Rn->Z->List D->Y->Prop}{id b:Nat}{q c d a:Option Res}{o h:Option Z}{H:ab}{K:D->ab->Prop}(h1:q=c)(h2:d=a)(h3:o=h):qxh er pre post id b q d o H K=qxh er pre post id b c a h H K:=by subst h1;subst h2;subst h3;rfl
def qpz(x:qEV)(H:ab)(id b:Nat):ai (gS (rnB.hp x) H) id (some (.box b (rnB.ce x)))=IA H id b x.r x.v x.es:=rfl
theorem Gp(A:dP Z)(er:Y->D)(pre:Rn->List D->Z->Prop)(post:Rn->Z->List D->Y->Prop)(d i b:Nat)(ds:List D)(H:ab)(K:D->ab->Prop):(quw A er pre post).pt d (.bptr i b 0::ds) H K=qxh er pre post i b (H i) (H 990) (A.dec ds) H K:=by
 refine propext ⟨λh=>?_,λh=>?_⟩
 ·obtain⟨id,b',x,z,c,h1,h2,h3,h4,h5,h6,j⟩:=h;cases h1;simp only[rnB,qFK,qGd,or_false]at h5;refine⟨x.r,x.v,x.es,h3,h4 (990, .mrow x.v x.es) (by simp[rnB]),h5,?_⟩;rw[h2];refine⟨h6,λv' es' y a=>?_⟩;have:=j ⟨x.r,v',es'⟩ y ⟨rfl,a⟩;rwa [qpz]at this
 ·obtain⟨r,v,es,h1,h2,h3,h4⟩:=h;cases hz:A.dec ds with
  |none=>rw[hz]at h4;exact h4.elim
  | some z=>
    rw[hz]at h4;refine⟨i,b,⟨r,v,es⟩,z,ds,rfl,hz,h1,λp hp=>?_,by simp[rnB,h3],h4.1,λk y a=>?_⟩
    ·simp only[rnB,qFK,qGd,or_false]at hp;subst hp;exact h2
    ·obtain⟨r',v',es'⟩:=k;obtain⟨e,a⟩:=a;have e:r'=r:=e;subst e;rw[qpz];exact h4.2 v' es' y a
@[simp] theorem qDR(er:Y->D)(pre:Rn->List D->Z->Prop)(post:Rn->Z->List D->Y->Prop)(id b b':Nat)(r:Rn)(v v':Value)(es:List D)(o:Option Z)(H:ab)(K:D->ab->Prop):
 qxh er pre post id b (some (.box b' (nX r (.own 990 v)))) (some (.mrow v' es)) o H K=(b'=b/\v'=v/\id≠990/\eL o λz=>pre r es z/\∀v' es' y,post r z es' y->K (er y) (IA H id b r v' es')):=by
 refine propext ⟨λ⟨h,v1,c,h1,h2,h3,h4⟩=>?_,λ⟨h1,h2,h3,h4⟩=>⟨r,v,es,by rw[h1],by rw[h2],h3,h4⟩⟩;injection h1 with h1;injection h1 with h1 h5;injection h2 with h2;injection h2 with h2 h6;obtain⟨d,a⟩:=OT h5;injection a with _ a;subst d;subst a;subst h6;exact⟨h1,h2,h3,h4⟩
def qp9(er:Y->D)(b:Nat)(r:Rn)(post:List D->Y->Prop)(d:D)(H:ab):Prop:=Mi rnB er b (λs y=>s.r=r/\post s.es y) d H
def Ts{er:Y->D}{b:Nat}{r:Rn}{post:List D->Y->Prop}{d:D}{H:ab}(v:Value)(es:List D)(y:Y)(a:FrzTo (λi=>if i=0\/i=990 then none else H i) d (er y))(h0:H 0=some (.box b (nX r (.own 990 v))))(h1:H 990=some (.mrow v es))(c:post es y):qp9 er b r post d H:=
 ⟨⟨r,v,es⟩,y,by simpa [rnB]using a,h0,λp hp=>by
  simp only[rnB,qFK,qGd,or_false]at hp;subst hp;exact h1,rfl,c⟩
def WG(cc:CC)(rs:List aj)(S:Nat->Spc)(A:dP Z)(er:Y->D)(pre:Rn->List D->Z->Prop)(post:Rn->Z->List D->Y->Prop):Prop:=
 ∀b r v es z,pre r es z->vc S cc (vE rs λd H'=>qp9 er b r (post r z) d H') (dR (.bptr 0 b 0::A.view z)) (IA bS 0 b r v es)
variable {P:Program}{S:Nat->Spc}{f:Nat}{im:List Nat}{cc:CC}{rs:List aj}{N:Nat}
def Gf{A:dP Z}{er:Y->D}{pre:Rn->List D->Z->Prop}{post:Rn->Z->List D->Y->Prop}(a:∀f,Tri dq P f (S f).pt)(h:zY P f im cc rs N)(c:∀z,(A.view z).length+1<=N)(d:WG cc rs S A er pre post):Tri dq P f (quw A er pre post).pt:=
 wl (by simp[rnB]) a h c λb x z hp=>d b x.r x.v x.es z hp
end
section
variable {X Y Z:Type}
def qAE(H:ab)(r:Nat):uK H (some r) r=H r:=by simp only[uK];exact if_pos rfl
def qaC(H:ab)(w:Option Nat):jX H w []=H:=by
 funext i;simp only[jX,List.lookup];split<;>rfl
theorem qn7(A:dP X)(pre:D×X->Prop)(er:Z->D)(post:D×X->Z->Prop)(r b:Nat)(ds:List D):qml r (qpU A pre er post).pt (.bptr r b 0::ds):=by
 refine⟨λR=>qpT A pre er post b ds (R r) R λ_ _=>True,λR d u=>∃cells x z,R r=some (.box b cells)/\A.dec ds=some x/\post (.cptr cells 0,x) z/\d=er z/\u=[],λt H K=>?_⟩;rw[qlz];show _↔qpT A pre er post b ds (uK H (some r) r) (uK H (some r)) (λ_ _=>True)/\∀d u,(∃cells x z,uK H (some r) r=some (.box b cells)/\A.dec ds=some x/\post (.cptr cells 0,x) z/\d=er z/\u=[])->K d (jX H (some r) u);rw[qAE];cases k:H r with
 |none=>exact⟨λh=>h.elim,λh=>h.1.elim⟩
 | some q=>
   cases q with
   | box b' cells=>
     rw[qly,qly];cases l:A.dec ds with
     |none=>exact⟨λh=>h.2.elim,λh=>h.1.2.elim⟩
     | some x=>
       constructor
       ·rintro⟨rfl,h1,h2⟩;refine⟨⟨rfl,h1,λ_ _=>trivial⟩,?_⟩;rintro d u ⟨a,p,z,c,j,h3,rfl,rfl⟩;cases c;cases j;rw[qaC];exact h2 z h3
       ·rintro⟨⟨rfl,h1,_⟩,h2⟩;refine⟨rfl,h1,λz hz=>?_⟩;have:=h2 (er z) [] ⟨cells,x,z,rfl,rfl,hz,rfl,rfl⟩;rwa [qaC]at this
   | _=>exact⟨λh=>h.elim,λh=>h.1.elim⟩
def YT(A:dP X)(pre:D×X->Prop)(er:Z->D)(post:D×X->Z->Prop)(r b:Nat)(dst:Option Nat)(ds:List D)(H:ab)(K:D->ab->Prop):O1 r dst (qpU A pre er post) (.bptr r b 0::ds) H K=qpT A pre er post b ds (H r) H K:=by
 rw[<-qlz A pre er post (dst.getD 0)];exact propext ⟨λh=>h.2,λh=>⟨qn7 A pre er post r b ds,h⟩⟩
end
end
section
open Cod (enc dec)
@[simp] theorem qyI(s:St3):St3.mk s.p s.b0 s.b1 s.b2=s:=by cases s;rfl
def qbh{X:Type}[Cod X][DecidableEq X]{ka:Bool}{ks:List KK}(d:qc2 X ka ks)(x:X)(h:Mh (enc x) (enc x))(l:List X)(K:List D->Prop):Di ka ks (enc x) (.v (.bool true)) (aW l) K=K (aW (ye x l)):=by
 refine propext ⟨λ⟨_,_,h1,h2⟩=>?_,Ux d rfl⟩;by_cases c:x∈l
 ·obtain⟨a,b,rfl⟩:=qHP c;have e:ye x (a++x::b)=a++x::b:=by unfold ye;rw[if_pos c]
  have:=h1 (aW a) (enc x) (.v (.bool true)) (aW b) (by simp[aW]) h;rw[e];have j:aW (a++x::b)=aW a++ .tup [enc x, .v (.bool true)]::aW b:=by simp[aW]
  rw[j];exact this
 ·have:=h2 λ_ v hm=>c (AF.1 hm).1
  have e:ye x l=l++ [x]:=by unfold ye;rw[if_neg c]
  rw[e,jG];exact this
def Zi(s:St3):Mh (enc s) (enc s):=by
 refine⟨λ_=>False,λ_=>False,default, .agg [Value.int .i64 s.p, .int .i64 s.b0, .int .i64 s.b1, .int .i64 s.b2].toArray,?_,?_⟩ <;>
 ·refine R.agg _ _ rfl (by simp[Value.oneCell']) λk x c h1 h2=>?_
  rcases k with _|_|_|_|k
  ·cases h1;cases h2;exact R.int .i64 _
  ·cases h1;cases h2;exact R.int .i64 _
  ·cases h1;cases h2;exact R.int .i64 _
  ·cases h1;cases h2;exact R.int .i64 _
  ·simp at h1
@[simp] theorem qqD(a b c d:Int)(l:List St3)(K:List D->Prop):Di true [.int .i64, .int .i64, .int .i64, .int .i64] (.agg [.v (.int .i64 a), .v (.int .i64 b), .v (.int .i64 c), .v (.int .i64 d)]) (.v (.bool true)) (aW l) K=K (aW (ye ⟨a,b,c,d⟩ l)):=
 qbh qd9 ⟨a,b,c,d⟩ (Zi _) l K
@[simp] theorem qxY(ok:Bool)(a b c d:Int)(l:List St3)(K:D->Prop):zr ok false true [.int .i64, .int .i64, .int .i64, .int .i64] [.bool false] (.agg [.v (.int .i64 a), .v (.int .i64 b), .v (.int .i64 c), .v (.int .i64 d)]) (aW l) K=K (qnX ok (.v (.bool (decide ((⟨a,b,c,d⟩:St3) ∈l)))) (decide ((⟨a,b,c,d⟩:St3) ∈l))):=
 L2 qd9 ⟨a,b,c,d⟩ (Zi _) l K
@[simp] theorem qwU(a b c d:Int)(K:List D->Prop):Di true [.int .i64, .int .i64, .int .i64, .int .i64] (.agg [.v (.int .i64 a), .v (.int .i64 b), .v (.int .i64 c), .v (.int .i64 d)]) (.v (.bool true)) [] K=K (aW [(⟨a,b,c,d⟩:St3)]):=
 qqD a b c d [] K
def wm{X:Type}[Cod X]:aW ([]:List X)=[]:=rfl
def gz{X:Type}[Cod X]{l:List X}(h:aW l=[]):l=[]:=by
 cases l with
 |nil=>rfl
 |cons a l=>simp[aW]at h
def Ow{X:Type}[Cod X]{l l':List X}(h:aW l=aW l'):l=l':=by
 unfold aW at h
 induction l generalizing l' with
 | nil=>cases l' with
   |nil=>rfl
   |cons a l=>simp at h
 | cons a l c=>cases l' with
   |nil=>simp at h
   | cons b l'=>
     simp only[qF6,qF8,D.tup.injEq,and_true]at h;rw[aP h.1,c h.2]
def AI{Hf:ab}{i:Nat}{x:Value}{es:List D}(h:Hf i=some (.mrow x es)):FrzTo Hf (.own i x) (.mp es):= .mrow h rfl λk c c' h1 h2=>by rw[h1]at h2;cases h2;exact .same _
@[simp] theorem qDy(d:Option Nat)(g:Option (Nat×Bool))(o:MOp)(xs:List Operand):(CI.op d g (.m o xs)).wid=d:=i' rfl
open Go.Proofs
def dA:CC:=gq Tryz.f95 [3] {} _
def du:List aj:=[.tmp 4]
def pz:FO dN [3] dA du 28:=fo
def eI:CC:=gq Tryz.f155 [4,2049005] {} _
def eu:List aj:=[.cell 6 true 4, .tmp 7]
def GJ:FO kS [4,2049005] eI eu 55:=fo
def nq:CC:=gq Tryz.f156 [5,4,3] {} _
def mS:List aj:=[.tmp 6]
def Fu:FO jq [5,4,3] nq mS 14:=fo
def br:CC:=gq Tryz.f217 [4] {} _
def bq:List aj:=[.tmp 5]
def CZ:FO cv [4] br bq 42:=fo
def zR:CC:=gq Tryz.f218 [] {} _
def zd:List aj:=[.tmp 2]
def RO:FO BV [] zR zd 22:=fo
def rO:CC:=gq Tryz.f216 [6,5] {} _
def qu:List aj:=[.tmp 10]
def I0:FO sV [6,5] rO qu 17:=fo
variable {S S0:Nat->Spc}
def qsN(d:D):Prop:=∃r k,d= .cptr (nX r k) 0/\r.lb.length<=3
def qwr(s:St3):Prop:=0<=s.p/\s.p<=1000000/\∀i,0<=s.get i/\s.get i<=1000000
def TO(x:D×St3):Prop:=qsN x.1/\qwr x.2
def qaM(x:D×St3)(y:List Int):Prop:=∀r k,x.1= .cptr (nX r k) 0->y=WC r x.2
abbrev qit:Spc:=aG (aD (a1 St3)) TO (enc (X:=List Int)) qaM
def ZM(s:St3){k:Nat}(hk:k< 3):([.v (.int .i64 s.p), .v (.int .i64 s.b0), .v (.int .i64 s.b1), .v (.int .i64 s.b2)]:List D)[1+k]? =some (.v (.int .i64 (s.get k))):=by
 rcases k with _|_|_|k
 ·rfl
 ·rfl
 ·rfl
 ·omega
theorem qqo:ak dA du S (aD (a1 St3)) TO (enc (X:=List Int)) qaM:=by
 rintro⟨d,s⟩ ⟨⟨r,k,c,hl⟩,hs⟩;have c:d= .cptr (nX r k) 0:=c;subst c;simp[dA,du,nX,-fB',-eB'];intro l;refine⟨by omega,by omega,λv p=>?_⟩;refine ah (X:=List Int) [3,5] [] r.lb.length (λk z=>z.length=r.lb.length/\∀i,i<k->z[i]? =some (s.get i -1)) (λ_=>[]) (λz=>[(12, .row v bj 1 (z.map enc))]) (List.replicate r.lb.length 0) (by simp) ?_ ?_
 ·rintro j z q ⟨b,a⟩;have t:=ZM s (k:=j) (by omega);have hb:0<=s.get j/\s.get j<=1000000:=hs.2.2 j;have h:j<z.length:=by omega
  simp[q,t,h,-fB',-eB'];refine⟨by omega,by omega,by simp only[InR];omega,z.set j (s.get j -1),⟨by simp[b],λi hi=>?_⟩, .inl (by rw[qHv];rfl)⟩;by_cases e:j=i
  ·subst e;rw[qGH (by omega)]
  ·rw[qHK e];exact a i (by omega)
 ·rintro z ⟨b,a⟩;simp[-fB',-eB'];refine aL z (fA bj (by simp[ai])) λr' u e=>?_
  have e:D.cptr (nX r k) 0= .cptr (nX r' u) 0:=e;obtain rfl:=Iu e;refine qGj λi=>?_
  unfold WC;rw[qFP];by_cases hi:i<r.lb.length
  ·rw[a i hi,qHe hi];rfl
  ·rw[qFV (by omega),qFV (by simp;omega)];rfl
def FU(p:Pat):Bool:=decide (p.op=6) && decide (p.mx< 0) && decide (p.mn<=1)
abbrev qdu:Spc:=aG (aD a0) (λx=>∃p,vQ x.1 p) (enc (X:=Bool)) λx y=>∀p,vQ x.1 p->y=FU p
def qeT(x:D×Pat×St3):Prop:=(∃r k,x.1= .cptr (nX r k) 0/\r.lb.length<=3/\qqK r.c/\(x.2.1.lab≠mq->vw r.lb x.2.1.lab=true)/\(x.2.2.p<r.en->∃y,Kj r x.2.1 x.2.2=some y))/\qwr x.2.2
def qaK(x:D×Pat×St3)(y:St3×Bool):Prop:=∀r k,x.1= .cptr (nX r k) 0->(y.2=true↔x.2.2.p<r.en/\Kj r x.2.1 x.2.2=some true)/\(y.2=true->y.1=KQ r x.2.1 x.2.2)
abbrev qdw:Spc:=aG aH (qmw 21) (enc (X:=Bool)) (qsG 21)
def qmO(h1:S fp=It 21):ak rO qu S aH (qmw 21) (enc (X:=Bool)) (qsG 21):=by
 rintro⟨c,x,tok,lb,bd⟩ hp;simp[rO,qu,h1,hp,-fB',-eB']
def xn(p:Pat):enc p= .agg (enc p).cells:=by simp
def vF{d:D}{p q:Pat}(h1:vQ d p)(h2:vQ d q):p=q:=by
 obtain⟨cs,off,rfl,_,b⟩:=h1;obtain⟨cs',a,e,_,c⟩:=h2;cases e;exact aP (by rw[xn p,xn q,<-b,<-c])
theorem qmH:ak zR zd S (aD a0) (λx=>∃p,vQ x.1 p) (enc (X:=Bool)) λx y=>∀p,vQ x.1 p->y=FU p:=by
 rintro⟨d,⟨⟩⟩ ⟨p,cs,off,h,hl,hc⟩;have h:d= .cptr cs off:=h;subst h;have s:cs[off]? =some (.v (.int .i64 p.op)):=by
  have:=Bn hl hc (j:=0) (by decide);rw[qGN]at this;rw[this];simp
 have k:cs[off+10]? =some (.v (.int .i64 p.mn)):=by rw[Bn hl hc (j:=10) (by decide)];simp
 have l:cs[off+11]? =some (.v (.int .i64 p.mx)):=by rw[Bn hl hc (j:=11) (by decide)];simp
 have r:off+1<=cs.length:=by omega
 have a:off+10+1<=cs.length:=by omega
 have b:off+11+1<=cs.length:=by omega
 simp[zR,zd,s,k,l,r,a,b,-fB',-eB'];have hp:vQ (.cptr cs off) p:=⟨cs,off,rfl,hl,hc⟩
 refine⟨λh6=>⟨λhm q c=>?_,λhm q c=>?_⟩,λh6 q c=>?_⟩
 ·obtain rfl:=vF hp c;simp[FU,h6,hm]
 ·obtain rfl:=vF hp c;simp[FU,h6];omega
 ·obtain rfl:=vF hp c;simp[FU,h6]
abbrev qqZ:Spc:=aG (aD (a2 Pat St3)) qeT (kZ (Y:=St3) (Z:=Bool)) qaK
def qod{r:Rn}{b:B}(hl:r.lb.length<=3)(h:vw r.lb b=true):(fe r.lb λz=>decide (z=b))=0\/(fe r.lb λz=>decide (z=b))=1\/(fe r.lb λz=>decide (z=b))=2:=by
 have h1:=vJ (λz=>decide (z=b)) r.lb;have h2:=D6 (λz=>decide (z=b)) r.lb;have h3:decide (0<=fe r.lb λz=>decide (z=b))=true:=h1.trans h;have h4:=of_decide_eq_true h3;omega
theorem qqm(h1:S dN=qit)(h2:S sV=qdw)(h3:S cY=OJ):ak eI eu S (aD (a2 Pat St3)) qeT (kZ (Y:=St3) (Z:=Bool)) qaK:=by
 rintro⟨d,p,s⟩ ⟨⟨r,k,I,hl,hz,F,t⟩,hs⟩;have I:d= .cptr (nX r k) 0:=I;subst I;have hs:qwr s:=hs;have u:TO (.cptr (nX r k) 0,s):=⟨⟨r,k,rfl,hl⟩,hs⟩
 have K:=hs.1;have L:=hs.2.1;have j:∀y:St3,(¬s.p<r.en\/Kj r p s=some false)->qaK (.cptr (nX r k) 0,p,s) (y,false):=λy h r' J e=>by
  have e:D.cptr (nX r k) 0= .cptr (nX r' J) 0:=e;obtain rfl:=Iu e;refine⟨⟨λh=>(by cases h),λh2=>?_⟩,λh=>(by cases h)⟩;rcases h with h|h
  ·exact absurd h2.1 h
  ·have h3:Kj r p s=some true:=h2.2;rw[h]at h3;cases h3
 have c:s.p<r.en->Kj r p s=some true->qaK (.cptr (nX r k) 0,p,s) (KQ r p s,true):=λh4 h5 r' J e=>by
  have e:D.cptr (nX r k) 0= .cptr (nX r' J) 0:=e;obtain rfl:=Iu e;exact⟨⟨λ_=>⟨h4,h5⟩,λ_=>rfl⟩,λ_=>rfl⟩
 simp only[nX]at u j c;have w:∀(y:List Int),qaM (.cptr (nX r k) 0,s) y->y=WC r s:=λy h=>h r k rfl
 simp only[nX]at w;by_cases A:p.lab=mq
 ·have x:p.lab=⟨#[]⟩:=A;have l:KQ r p s=⟨s.p+1,s.b0,s.b1,s.b2⟩:=by unfold KQ;rw[if_pos A]
  rw[l]at c;simp[eI,eu,nX,h1,h2,h3,u,x,-fB',-eB'];refineλb=>⟨λh4 y C=>?_,λh4=>⟨⟨0,0,0,0⟩, .same _,j _ (.inl (by omega))⟩⟩
  obtain rfl:=w y C;obtain⟨z,q⟩:=t h4;refine⟨⟨hz,z,q⟩,λE a=>?_⟩;have a:Kj r p s=some E:=a;refine⟨λe=>⟨⟨0,0,0,0⟩, .same _,j _ (.inr (e ▸a))⟩,λe=>?_⟩;exact⟨by simp only[InR];omega,⟨s.p+1,s.b0,s.b1,s.b2⟩, .same _,c h4 (e ▸a)⟩
 ·have x:¬p.lab=⟨#[]⟩:=A;rcases qod hl (F A)with hq|hq|hq
  ·have l:KQ r p s=⟨s.p+1,s.p+1,s.b1,s.b2⟩:=by unfold KQ;rw[if_neg A,hq];rfl
   rw[l]at c;simp[eI,eu,nX,h1,h2,h3,u,x,hq,-fB',-eB'];refineλb=>⟨λh4 y C=>?_,λh4=>⟨⟨0,0,0,0⟩, .same _,j _ (.inl (by omega))⟩⟩
   obtain rfl:=w y C;obtain⟨z,q⟩:=t h4;refine⟨⟨hz,z,q⟩,λE a=>?_⟩;have a:Kj r p s=some E:=a;refine⟨λe=>⟨⟨0,0,0,0⟩, .same _,j _ (.inr (e ▸a))⟩,λe=>?_⟩;exact⟨by simp only[InR];omega,⟨s.p+1,s.p+1,s.b1,s.b2⟩, .same _,c h4 (e ▸a)⟩
  ·have l:KQ r p s=⟨s.p+1,s.b0,s.p+1,s.b2⟩:=by unfold KQ;rw[if_neg A,hq];rfl
   rw[l]at c;simp[eI,eu,nX,h1,h2,h3,u,x,hq,-fB',-eB'];refineλb=>⟨λh4 y C=>?_,λh4=>⟨⟨0,0,0,0⟩, .same _,j _ (.inl (by omega))⟩⟩
   obtain rfl:=w y C;obtain⟨z,q⟩:=t h4;refine⟨⟨hz,z,q⟩,λE a=>?_⟩;have a:Kj r p s=some E:=a;refine⟨λe=>⟨⟨0,0,0,0⟩, .same _,j _ (.inr (e ▸a))⟩,λe=>?_⟩;exact⟨by simp only[InR];omega,⟨s.p+1,s.b0,s.p+1,s.b2⟩, .same _,c h4 (e ▸a)⟩
  ·have l:KQ r p s=⟨s.p+1,s.b0,s.b1,s.p+1⟩:=by unfold KQ;rw[if_neg A,hq];rfl
   rw[l]at c;simp[eI,eu,nX,h1,h2,h3,u,x,hq,-fB',-eB'];refineλb=>⟨λh4 y C=>?_,λh4=>⟨⟨0,0,0,0⟩, .same _,j _ (.inl (by omega))⟩⟩
   obtain rfl:=w y C;obtain⟨z,q⟩:=t h4;refine⟨⟨hz,z,q⟩,λE a=>?_⟩;have a:Kj r p s=some E:=a;refine⟨λe=>⟨⟨0,0,0,0⟩, .same _,j _ (.inr (e ▸a))⟩,λe=>?_⟩;exact⟨by simp only[InR];omega,⟨s.p+1,s.b0,s.b1,s.p+1⟩, .same _,c h4 (e ▸a)⟩
end
end Go.Gv
