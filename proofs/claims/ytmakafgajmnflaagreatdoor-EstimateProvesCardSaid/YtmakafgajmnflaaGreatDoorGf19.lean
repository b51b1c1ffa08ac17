/- W31 -/
import Derived.Test.YtmakafgajmnflaaGreatDoorGf18
set_option linter.all false
set_option maxRecDepth 100000
set_option maxHeartbeats 0
open Bool renaming forall_bool → fB', exists_bool → eB'
namespace Go.Gv
section
open Cod (enc dec)
variable {S S0:Nat->Spc}
def KV(c:Int):Bool:=decide (65<=c/\c<=90\/97<=c/\c<=122\/c=95)
def Po(c:Int):Bool:=KV c||decide (48<=c/\c<=57\/c=45)
def N7(s:B):Prop:=1<=s.size/\s.size<=32/\(∀c:UInt8,s.data[0]? =some c->KV c.toNat=true)/\∀(k:Nat) (c:UInt8),s.data[k]? =some c->Po c.toNat=true
noncomputable def aK(s:B):Bool:= @decide (N7 s) (Classical.propDecidable _)
def DS(s:B):aK s=true↔N7 s:= @decide_eq_true_iff (N7 s) (Classical.propDecidable _)
def Uw{s:B}(h:N7 s):true=aK s:=((DS s).2 h).symm
def rN{s:B}(h:¬N7 s):false=aK s:=by
 rcases hb:aK s
 ·rfl
 ·exact absurd ((DS s).1 hb) h
abbrev xY:Spc:=aJ (a1 U8) (λ_=>True) (enc (X:=Bool)) λx y=>y=KV x.val
abbrev FX:Spc:=aJ (a1 U8) (λ_=>True) (enc (X:=Bool)) λx y=>y=Po x.val
abbrev um:Spc:=aJ (a1 B) (λ_=>True) (enc (X:=Bool)) λx y=>y=aK x
def Ka:aq rc qt S (a1 U8) (λ_=>True) (enc (X:=Bool)) λx y=>y=KV x.val:=by
 rintro⟨c⟩ -;simp[rc,qt,KV]
 repeat' first|apply And.intro|intro _
 all_goals first|omega|(rw[qCS];simp;omega)
def Re:aq pG nX S (a1 U8) (λ_=>True) (enc (X:=Bool)) λx y=>y=KV x.val:=by
 rintro⟨c⟩ -;simp[pG,nX,KV]
 repeat' first|apply And.intro|intro _
 all_goals first|omega|(rw[qCS];simp;omega)
def J9(h1:S ct=xY):aq rb qs S (a1 U8) (λ_=>True) (enc (X:=Bool)) λx y=>y=Po x.val:=by
 rintro⟨c⟩ -;simp[rb,qs,h1,Po,-fB'];rcases hb:KV c<;>simp[hb]
 repeat' first|apply And.intro|intro _
 all_goals first|omega|(rw[qCS];simp;omega)
def Uk(h1:S kM=xY):aq sj rS S (a1 U8) (λ_=>True) (enc (X:=Bool)) λx y=>y=Po x.val:=by
 rintro⟨c⟩ -;simp[sj,rS,h1,Po,-fB'];rcases hb:KV c<;>simp[hb]
 repeat' first|apply And.intro|intro _
 all_goals first|omega|(rw[qCS];simp;omega)
theorem HG(h1:S kM=xY)(h2:S uV=FX):aq hZ gN S (a1 B) (λ_=>True) (enc (X:=Bool)) λx y=>y=aK x:=by
 rintro s -;simp[hZ,gN,h1,h2];refineλ_=>⟨λl _=>⟨λp=>⟨by omega,λc hc=>⟨λhb=>(rN λh=>by rw[h.2.2.1 c hc]at hb;cases hb).symm,λhb=>?_⟩⟩,λp=>(rN λh=>by have:=h.2.1;omega).symm⟩,λl=>(rN λh=>by have:=h.1;omega).symm⟩
 refine aA (X:=Nat) [0] [] (λk=>1<=k/\k<=s.size/\∀(j:Nat) (c:UInt8),j<k->s.data[j]? =some c->Po c.toNat=true) (λk=>[(3,enc (k:Int))]) (λ_=>[]) (λk=>s.size -k) 1 ⟨by omega,by omega,λj d q a=>?_⟩ ?_
 ·have:j=0:=by omega
  subst this;rw[hc]at a;cases a;simp[Po,hb]
 rintro k ⟨h3,h4,h5⟩;simp[h2];refineλ_=>⟨λhk=>⟨by omega,λd a=>⟨λb=>(rN λh=>by rw[h.2.2.2 k d a]at b;cases b).symm,λr=>⟨by simp only[InR];omega,k+1,⟨by omega,by omega,λj e q he=>?_⟩,by omega,by omega⟩⟩⟩,λhk=>?_⟩
 ·by_cases t:j=k
  ·subst t;rw[a]at he;cases he;exact r
  ·exact h5 j e (by omega) he
 ·refine(Uw ⟨by omega,by omega,λd a=>by rw[hc]at a;cases a;exact hb,λj e he=>h5 j e ?_ he⟩).symm;have:=(qCp.1 he).1;have:j<s.size:=this;omega
theorem DK(h1:S ct=xY)(h2:S eV=FX):aq mf lM S (a1 B) (λ_=>True) (enc (X:=Bool)) λx y=>y=aK x:=by
 rintro s -;simp[mf,lM,h1,h2];refineλ_=>⟨λl _=>⟨λp=>⟨by omega,λc hc=>⟨λhb=>(rN λh=>by rw[h.2.2.1 c hc]at hb;cases hb).symm,λhb _=>?_⟩⟩,λp=>(rN λh=>by have:=h.2.1;omega).symm⟩,λl=>(rN λh=>by have:=h.1;omega).symm⟩
 refine ah (X:=Unit) [0] [] s.size (λk _=>∀(j:Nat) (c:UInt8),j<k->s.data[j]? =some c->Po c.toNat=true) (λ_=>[]) (λ_=>[]) () (by intro j d q;omega) ?_ ?_
 ·rintro k -hk h5;simp[h2];refine⟨hk,λd a=>⟨λb=>(rN λh=>by rw[h.2.2.2 k d a]at b;cases b).symm,λr j e q he=>?_⟩⟩;by_cases t:j=k
  ·subst t;rw[a]at he;cases he;exact r
  ·exact h5 j e (by omega) he
 ·rintro -h5;simp;refine(Uw ⟨by omega,by omega,λd a=>by rw[hc]at a;cases a;exact hb,λj e he=>h5 j e ?_ he⟩).symm;exact(qCp.1 he).1
end
section

open Cod (enc dec)
variable {dq:Prop}
structure qmt where
 txt:B
 vM:Int
 kind:Int
 text:B
 pos:Int
section
variable {Y Z:Type}
variable {P:Program}{S:Nat->Spc}{f:Nat}{im:List Nat}{cc:CC}{rs:List ak}{N:Nat}
end
section
variable {Y Z:Type}
variable {P:Program}{S:Nat->Spc}{f:Nat}{im:List Nat}{cc:CC}{rs:List ak}{N:Nat}
end
end
section
section
variable (N:qmt->Option (qmt×Cond))(O:qmt->Option (qmt×Cond))
end
section
variable (A:qmt->Bool->Option (qmt×Pat))(O:qmt->Option (qmt×Cond))
end
def GlobE:Glob:=⟨0,E0,E0,E0,E0,E0,false,0,0, [], []⟩
def LW:B:=⟨#[119,111,114,100]⟩
def qeF:B:=⟨#[116,97,103]⟩
def L4:B:=⟨#[102,101,97,116]⟩
def ValsT:List B:=[⟨#[97]⟩,⟨#[98]⟩,⟨#[97,46,42]⟩,⟨#[91,97,98,93]⟩]
def ValsI:List B:=[⟨#[97]⟩,⟨#[98]⟩,⟨#[97,46,42]⟩,⟨#[91,97,98,93]⟩,⟨#[88]⟩,⟨#[]⟩,⟨#[99,63]⟩,⟨#[97,124,98]⟩,⟨#[89]⟩,⟨#[97,124,88]⟩]
def Attr2:List B:=[LW,qeF]
def FeatL:List B:=[⟨#[112]⟩,⟨#[113]⟩]
def NumL:List B:=[⟨#[49]⟩,⟨#[50]⟩]
def qtx:B:=⟨#[110]⟩
inductive GA (lb:List B):Cond->Prop
 |val (n v:B) (f:Bool) (h1:n∈Attr2) (h2:v∈ValsI):GA lb ⟨2,n,E0,v,E0,f, []⟩
 |feat (v:B) (h:v∈FeatL):GA lb ⟨3,L4,E0,v,E0,false, []⟩
 |same (n l a:B) (h1:n∈Attr2) (h2:l∈lb) (h3:a∈Attr2):GA lb ⟨4,n,a,E0,l,false, []⟩
 |reg (n:B) (h:n∈Types):GA lb ⟨5,n,E0,E0,E0,false, []⟩
 |regk (n v:B) (h1:n∈Types) (h2:v∈NumL):GA lb ⟨5,n,qtx,v,E0,false, []⟩
inductive GI (lb:List B):Nat->Cond->Prop
 |atom (n:Nat) (c:Cond) (h:GA lb c):GI lb n c
 |not (n:Nat) (k:Cond) (h:GI lb n k):GI lb (n+1) ⟨6,E0,E0,E0,E0,false, [k]⟩
 |two (n:Nat) (op:Int) (a b:Cond) (ho:op=7\/op=8) (h1:GI lb n a) (h2:GI lb n b):GI lb (n+1) ⟨op,E0,E0,E0,E0,false, [a,b]⟩
inductive GC (lb:List B) (n:Nat):Cond->Prop
 |any:GC lb n ⟨1,E0,E0,E0,E0,false, []⟩
 |top (v:B) (f:Bool) (h:v∈ValsT):GC lb n ⟨2,E0,E0,v,E0,f, []⟩
 |inner (c:Cond) (h:GI lb n c):GC lb n c
theorem wa{lb:List B}{c:Cond}(h:GA lb c):c.kids=[]:=by cases h<;>rfl
def qbf{lb:List B} :∀{n:Nat} {c:Cond},GI lb n c->CS n c
 | _,_, .atom n c h=>ZB (wa h)
 | _,_, .not n k h=>qoL rfl rfl (qbf h)
 | _,_, .two n op a b _ h1 h2=>qoK rfl rfl (qbf h1) (qbf h2)
def qrQ{lb:List B}{n:Nat}{c:Cond}(h:GC lb n c):CS n c:=by
 cases h with
 |any=>exact ZB rfl
 |top v f h=>exact ZB rfl
 |inner c h=>exact qbf h
def qoc(l:List B)(x:B):Bool:=l.any λz=>decide (z=x)
def Wt(l:List B)(x:B):qoc l x=true↔x∈l:=by
 unfold qoc;simp
instance decMem (l:List B) (x:B):Decidable (x∈l):=if h:qoc l x=true then .isTrue ((Wt l x).1 h)else .isFalse λa=>h ((Wt l x).2 a)
mutual
def yc(lb:List B):Cond->Cond
 | .mk op n a v l f ks=>if op=4 then(if l∈lb then .mk op n a v l f ks else⟨2,n,E0,⟨#[97,124,88]⟩,E0,false, []⟩)else .mk op n a v l f (qaH lb ks)
def qaH(lb:List B):List Cond->List Cond
 | []=>[]
 |k::ks=>yc lb k::qaH lb ks
end
def P5(lb:List B):∀l:List Cond,qaH lb l=l.map (yc lb)
 | []=>by rfl
 |k::l=>by rw[qaH,P5 lb l];rfl
def mM(lb:List B)(c:Cond):yc lb c=if c.op=4 then(if c.lab∈lb then c else⟨2,c.name,E0,⟨#[97,124,88]⟩,E0,false, []⟩)else⟨c.op,c.name,c.arg,c.val,c.lab,c.fold,c.kids.map (yc lb)⟩:=by
 cases c;rw[yc,P5]
def YW(lb:List B):yc lb qd=qd:=by
 rfl
mutual
def mJ(lb:List B):Pat->Pat
 | .mk op c l r mn mx ks=>⟨op,yc lb c,l,r,mn,mx,TC lb ks⟩
def TC(lb:List B):List Pat->List Pat
 | []=>[]
 |k::ks=>mJ lb k::TC lb ks
end
def NZ(lb:List B):∀l:List Pat,TC lb l=l.map (mJ lb)
 | []=>by rfl
 |k::l=>by rw[TC,NZ lb l];rfl
def sr(lb:List B)(p:Pat):mJ lb p=⟨p.op,yc lb p.cond,p.lab,p.reg,p.mn,p.mx,p.kids.map (mJ lb)⟩:=by
 cases p;rw[mJ,NZ]
def De(out:List B)(x:B):List B:=if x∈out then out else out++ [x]
mutual
def jG:Pat->List B->List B
 | .mk op c l r mn mx ks,out=>if op=1/\l≠E0 then De out l else qbK ks out
def qbK:List Pat->List B->List B
 | [],out=>out
 |k::ks,out=>qbK ks (jG k out)
end
def NY:∀(l:List Pat) (out:List B),qbK l out=l.foldl (λo k=>jG k o) out
 | [],out=>by rfl
 |k::l,out=>by rw[qbK,NY l];rfl
def qa(p:Pat)(out:List B):jG p out=if p.op=1/\p.lab≠E0 then De out p.lab else p.kids.foldl (λo k=>jG k o) out:=by
 cases p;rw[jG,NY]
theorem ST{lb lb':List B} :∀{n:Nat} {c:Cond},GI lb n c->GI lb' n (yc lb' c)
 | _,_, .atom n c h=>by
   cases h with
   |val nm v f h1 h2=>rw[mM,if_neg (by decide:¬(2:Int)=4)];exact .atom _ _ (.val nm v f h1 h2)
   |feat v h=>rw[mM,if_neg (by decide:¬(3:Int)=4)];exact .atom _ _ (.feat v h)
   | same nm l a h1 h2 h3=>
     rw[mM,if_pos rfl];split
     ·rename_i hl;exact .atom _ _ (.same nm l a h1 hl h3)
     ·exact .atom _ _ (.val nm _ false h1 (by simp[ValsI]))
   |reg nm h=>rw[mM,if_neg (by decide:¬(5:Int)=4)];exact .atom _ _ (.reg nm h)
   |regk nm v h1 h2=>rw[mM,if_neg (by decide:¬(5:Int)=4)];exact .atom _ _ (.regk nm v h1 h2)
 | _,_, .not n k h=>by
   rw[mM,if_neg (by decide:¬(6:Int)=4)];exact .not n _ (ST h)
 | _,_, .two n op a b ho h1 h2=>by
   rw[mM,if_neg (show ¬op=4 by omega)];exact .two n op _ _ ho (ST h1) (ST h2)
def qoe{lb lb':List B}{n:Nat}{c:Cond}(h:GC lb n c):GC lb' n (yc lb' c):=by
 cases h with
 |any=>rw[mM,if_neg (by decide:¬(1:Int)=4)];exact .any
 |top v f h=>rw[mM,if_neg (by decide:¬(2:Int)=4)];grind [GC]
 |inner c h=>grind [GC,ST]
theorem qec{lb lb':List B}{p:Pat}(h:qqi lb p):qqi lb (mJ lb' p):=by
 rw[sr];rcases h with⟨h1,h2,h3,h4,h5,h6⟩|⟨h1,h2,h3,h4,h5,h6,a⟩
 ·exact .inl ⟨h1,h2,h3,h4,h5,by grind⟩
 ·exact .inr ⟨h1,by show yc lb' p.cond=_;rw[h2,YW],h3,h4,h5,h6,by grind⟩
def qiY{lb lb':List B} :∀n p,WP lb n p->WP lb n (mJ lb' p):=by
 refine Hw λn p hp d=>?_
 rcases xF hp with hp|⟨m,rfl,(⟨h1,h2,h3,h4,h5,h6,a,b,k,l,hb⟩|⟨h1,h2,h3,h4,h5,a,k,l⟩)⟩;grind [qwx,qec]
 ·obtain⟨h,c,_,a1⟩:=d a (by grind);obtain⟨q,j,_,a2⟩:=d b (by grind);have c:h=m:=by omega
  have j:q=m:=by omega
  subst c;subst j;rw[sr];exact .inr (.inl ⟨h1,by show yc lb' p.cond=_;rw[h2,YW],h3,h4,h5,h6,_,_,by grind,a1,a2⟩)
 ·obtain⟨h,c,_,a1⟩:=d a (by grind);have c:h=m:=by omega
  subst c;rw[sr];exact .inr (.inr ⟨h1,by show yc lb' p.cond=_;rw[h2,YW],h3,h4,h5,_,by grind,a1⟩)
def Wm(lb:List B)(p:Pat):am (mJ lb p)=(am p).map (mJ lb):=by
 induction p using eb with|_ p b=>?_
 rw[aQ,aQ p,sr];simp only;split
 ·rw[List.map_singleton,sr]
 ·rw[List.flatMap_map,List.map_flatMap];have:∀ks:List Pat,(∀k∈ks,am (mJ lb k)=(am k).map (mJ lb))->ks.flatMap (λa=>am (mJ lb a))=ks.flatMap (λa=>(am a).map (mJ lb)):=by
   intro ks
   induction ks<;>grind
  grind
def qhT(lb:List B)(p:Pat):∀out,jG (mJ lb p) out=jG p out:=by
 induction p using eb with|_ p a=>?_
 intro out;rw[qa,qa p,sr];simp only;split
 ·rfl
 ·have:∀(ks:List Pat) (o:List B),(∀k∈ks,∀out,jG (mJ lb k) out=jG k out)->(ks.map (mJ lb)).foldl (λo k=>jG k o) o=ks.foldl (λo k=>jG k o) o:=by
   intro ks
   induction ks<;>grind
  grind
def qif{out:List B}{x y:B}(h:y∈De out x):y∈out\/y=x:=by
 grind [De]
def qlr{lb:List B} :∀n p,WP lb n p->∀out,(∀y∈jG p out,y∈out\/y∈lb):=by
 refine Hw λn p hp c=>λout y a=>?_
 rw[qa]at a;split at a
 ·rename_i h;rcases qif a with h1|rfl;grind
  ·rcases xF hp with(⟨h1,h2,_⟩|⟨h1,_⟩)|⟨m,rfl,(⟨h1,_⟩|⟨h1,_⟩)⟩
   ·exact .inr (h2.resolve_left h.2)
   omega;omega;omega
 ·have:∀(ks:List Pat) (o:List B),(∀k∈ks,k∈p.kids)->y∈ks.foldl (λo k=>jG k o) o->y∈o\/y∈lb:=by
   intro ks
   induction ks with
   |nil=>grind
   | cons k ks b=>
     intro o hk h;rw[qDG]at h;rcases b _ (λz hz=>hk z (by grind)) h with h1|h1
     ·obtain⟨m,_,_,h2⟩:=c k (hk k (by simp));grind
     grind
  grind
def qb5:List B:=[⟨#[97]⟩,⟨#[98,124,99]⟩,⟨#[46]⟩]
def XU:List B:=[⟨#[111,98,106]⟩,⟨#[100,101,116]⟩,⟨#[]⟩]
def qb2:List B:=[⟨#[83]⟩,⟨#[78,80]⟩,⟨#[86,80]⟩]
inductive GG (lb:List B):Nat->Glob->Prop
 |bound (n:Nat) (a:B) (h:a∈lb):GG lb n ⟨1,a,E0,E0,E0,E0,false,0,0, [], []⟩
 |val (n:Nat) (a v:B) (f:Bool) (h1:a∈lb) (h2:v∈qb5):GG lb n ⟨2,a,E0,LW,E0,v,f,0,0, [], []⟩
 |same (n:Nat) (a b g:B) (h1:a∈lb) (h2:b∈lb) (h3:g∈Attr2):GG lb n ⟨3,a,b,LW,g,E0,false,0,0, [], []⟩
 |dist (n:Nat) (a b:B) (mn mx:Int) (h1:a∈lb) (h2:b∈lb) (h3: -2<=mn) (h4:mn<=2) (h5:mn<=mx) (h6:mx<=mn+3):GG lb n ⟨4,a,b,E0,E0,E0,false,mn,mx, [], []⟩
 |reg (n:Nat) (a b t:B) (h1:a∈lb) (h2:b∈lb) (h3:t∈Types):GG lb n ⟨5,a,b,t,E0,E0,false,0,0, [], []⟩
 |head (n:Nat) (op:Int) (a b:B) (ho:op=6\/op=7) (h1:a∈lb) (h2:b∈lb):GG lb n ⟨op,a,b,E0,E0,E0,false,0,0, [], []⟩
 |path (n:Nat) (a b:B) (l:List B) (h1:a∈lb) (h2:b∈lb) (h3:l.length<=2) (h4:∀x∈l,x∈XU):GG lb n ⟨8,a,b,E0,E0,E0,false,0,0,l, []⟩
 |node (n:Nat) (a b t:B) (h1:a∈lb) (h2:b∈lb) (h3:t∈qb2):GG lb n ⟨9,a,b,t,E0,E0,false,0,0, [], []⟩
 |depth (n:Nat) (a:B) (mn mx:Int) (h1:a∈lb) (h3:0<=mn) (h4:mn<=2) (h5:mn<=mx) (h6:mx<=mn+1):GG lb n ⟨10,a,E0,E0,E0,E0,false,mn,mx, [], []⟩
 |not (n:Nat) (k:Glob) (h:GG lb n k):GG lb (n+1) ⟨11,E0,E0,E0,E0,E0,false,0,0, [], [k]⟩
 |two (n:Nat) (op:Int) (a b:Glob) (ho:op=12\/op=13) (h1:GG lb n a) (h2:GG lb n b):GG lb (n+1) ⟨op,E0,E0,E0,E0,E0,false,0,0, [], [a,b]⟩
def GF(f:yB):Prop:=(f.op=1\/f.op=2\/f.op=3)/\f.reg∈Types
structure GQ (n:Nat) (q:Qry):Prop where
 lab:∃lb,qb4 lb/\WP lb n q.pat
 cond:∀y∈am q.pat,GC (jG q.pat []) 1 y.cond
 glob:q.glob=GlobE\/GG (jG q.pat []) 2 q.glob
 filts:q.filts.length<=1/\∀f∈q.filts,GF f
 strat:0<=q.strat/\q.strat< 4
open Go.Proofs
theorem qiZ:∀w∈XR,w∈wordsA:=by decide
theorem qm5:∀w∈qil,w∈wordsA:=by decide
theorem qkP:∀w∈QX,w∈wordsA:=by decide
def qjt:∀w∈ValsI,w∈valsA:=by decide
def qhh:ll∈wordsA:=by decide
def qlN{toks:List (List B)}(h:∀r∈toks,Dw r)(i k:Int):vN toks i k∈wordsA:=by
 unfold vN;split
 ·exact qhh
 ·split
  ·rename_i r a;obtain⟨w,t,f,b,c,d,rfl⟩:=h r (qCg a);split
   ·rename_i s hs;have hm:=qCg hs;simp only[qCm,qCN,or_false]at hm;grind [Dw,qiZ,qm5,qkP]
   ·exact qhh
  ·exact qhh
def qdW:lH iS L4=2:=by decide
def qeq{toks:List (List B)}(h:∀r∈toks,Dw r){i:Int}(h0:0<=i)(h1:i<toks.length):∃f∈QX,vN toks i 2=f:=by
 obtain⟨j,rfl⟩:∃j:Nat,i=(j:Int):=⟨i.toNat,by omega⟩
 obtain⟨r,a⟩:∃r,toks[j]? =some r:=⟨toks[j]'(by omega),qCe _⟩
 obtain⟨w,t,f,c,d,b,rfl⟩:=h r (qCg a);refine⟨f,b,?_⟩;unfold vN;grind
structure Hq (E:Py):Prop where
 c:OkCorp E.c
 t0:0<=E.tok
 t1:E.tok<E.c.toks.length
 l:E.bd.length=E.lb.length
theorem qmf{E:Py}(b:Hq E){n:Nat}{x:Cond}(h:GA E.lb x):∃y,qH E (n+1) x=some y:=by
 cases h with
 | val nm v f h1 h2=>
   obtain⟨y,p⟩:=M5 (qjt v h2) (qlN b.c.2.2.2 E.tok (zF E.c.attrs nm)) f;refine⟨y,?_⟩;unfold qH;grind
 | feat v h=>
   obtain⟨f,d,e⟩:=qeq b.c.2.2.2 b.t0 b.t1;have q:v=⟨#[112]⟩\/v=⟨#[113]⟩:=by grind [FeatL]
   have j:(featS.any λz=>decide (z=f))=true:=qDV.2 ⟨f,d,decide_eq_true rfl⟩;refine⟨featS.any (λ_=>false)||f.data.toList.any λc=>decide (v.data.toList=[c]),?_⟩;unfold qH;rw[if_neg (show ¬(3:Int)=1 by decide),if_neg (show ¬(3:Int)=2 by decide),if_pos rfl];simp only[b.c.1,qdW,e];simp_all [SP]
 | same nm l a h1 h2 h3=>
   obtain⟨k,hk⟩:∃k:Nat,ij E.lb (λz=>decide (z=l))=(k:Int):=by
    rcases EC (λz=>decide (z=l)) E.lb with⟨e,h⟩|⟨k,_,e,_⟩
    grind;grind
   have r:=BJ (λz=>decide (z=l)) E.lb;obtain⟨o,ho⟩:∃o,E.bd[k]? =some o:=⟨E.bd[k]'(by grind [b.l]),qCe _⟩
   refine⟨decide (0<=o) && decide (vN E.c.toks E.tok (lH E.c.attrs nm)=vN E.c.toks o (lH E.c.attrs a)),?_⟩;unfold qH;grind
 |reg nm h=>exact⟨_,by rfl⟩
 |regk nm v h1 h2=>exact⟨_,by rfl⟩
def qgw{E:Py}{n:Nat}{k:Cond}{y:Bool}(h:qH E n k=some y):qH E (n+1) ⟨6,E0,E0,E0,E0,false, [k]⟩=some (!y):=by
 unfold qH;grind
def SO{E:Py}{n:Nat}{a b:Cond}{p q:Bool}(h1:qH E n a=some p)(h2:qH E n b=some q):qH E (n+1) ⟨7,E0,E0,E0,E0,false, [a,b]⟩=some (p && q):=by
 unfold qH;grind
def qbb{E:Py}{n:Nat}{a b:Cond}{p q:Bool}(h1:qH E n a=some p)(h2:qH E n b=some q):qH E (n+1) ⟨8,E0,E0,E0,E0,false, [a,b]⟩=some (p||q):=by
 simp_all [qH]
def Qu{E:Py}(d:Hq E):∀{n m:Nat} {x:Cond},GI E.lb n x->n<m->∃y,qH E m x=some y
 | _,m+1,_, .atom n c h,_=>qmf d h
 | _,m+1,_, .not n k h,hm=>by
   obtain⟨y,j⟩:=Qu (m:=m) d h (by omega);simp_all [qgw]
 | _,m+1,_, .two n op a b ho h1 h2,hm=>by
   obtain⟨p,hp⟩:=Qu (m:=m) d h1 (by omega);obtain⟨q,l⟩:=Qu (m:=m) d h2 (by omega);rcases ho with rfl|rfl;simp_all [SO];simp_all [qbb]
def qgx{E:Py}(a:Hq E){n m:Nat}{x:Cond}(h:GC E.lb n x)(hm:n<m):∃y,qH E m x=some y:=by
 obtain⟨m,rfl⟩:∃k,m=k+1:=⟨m -1,by omega⟩
 cases h with
 |any=>exact⟨true,by rfl⟩
 | top v f h=>
   have b:v∈valsA:=(by decide:∀w∈ValsT,w∈valsA) v h;obtain⟨y,d⟩:=M5 b (qlN a.c.2.2.2 E.tok (zF E.c.attrs E0)) f;refine⟨y,?_⟩;unfold qH;grind
 |inner c h=>exact Qu a h hm
def qqy:Bool:=Attr2.all λnm=>ValsI.all λv=>sI iS [] ⟨2,nm,E0,v,E0,false, []⟩ && sI iS [] ⟨2,nm,E0,v,E0,true, []⟩
def qmY:qqy=true:=by kernel_rfl
def qqE:Bool:=ValsT.all λv=>sI iS [] ⟨2,E0,E0,v,E0,false, []⟩ && sI iS [] ⟨2,E0,E0,v,E0,true, []⟩
def qm3:qqE=true:=by rfl
def qoh:Bool:=FeatL.all λv=>sI iS [] ⟨3,L4,E0,v,E0,false, []⟩
def qkV:qoh=true:=by rfl
def qq4:Bool:=Types.all λn=>sI iS [] ⟨5,n,E0,E0,E0,false, []⟩ && NumL.all λv=>sI iS [] ⟨5,n,qtx,v,E0,false, []⟩
def qfD:qq4=true:=by rfl
def qxs:Bool:=Attr2.all λn=>decide (0<=lH iS n)
def qmc:qxs=true:=by rfl
def VT{lb:List B}{nm v:B}{f:Bool} :sI iS lb ⟨2,nm,E0,v,E0,f, []⟩=sI iS [] ⟨2,nm,E0,v,E0,f, []⟩:=rfl
def qcV{lb:List B}{v:B} :sI iS lb ⟨3,L4,E0,v,E0,false, []⟩=sI iS [] ⟨3,L4,E0,v,E0,false, []⟩:=rfl
def VU{lb:List B}{n a v:B} :sI iS lb ⟨5,n,a,v,E0,false, []⟩=sI iS [] ⟨5,n,a,v,E0,false, []⟩:=rfl
theorem qaS{lb:List B}{x:Cond}(h:GA lb x):sI iS lb x=true:=by
 cases h with
 | val nm v f h1 h2=>
   rw[VT];have h:=qCl.1 (qCl.1 qmY nm h1) v h2;simp only[qCi]at h;cases f<;>grind
 | feat v h=>
   rw[qcV];exact qCl.1 qkV v h
 | same nm l a h1 h2 h3=>
   have b:=qCl.1 qmc nm h1;have c:=qCl.1 qmc a h3;have d:(lb.any λz=>decide (z=l))=true:=qDV.2 ⟨l,h2,decide_eq_true rfl⟩;have j:qpE ⟨4,nm,a,E0,l,false, []⟩=true:=by
    rfl
   have k:qmd iS ⟨4,nm,a,E0,l,false, []⟩=true:=by
    unfold qmd;grind
   have p:qvP iS lb ⟨4,nm,a,E0,l,false, []⟩=true:=by
    unfold qvP;grind
   grind [sI]
 | reg nm h=>
   rw[VU];have h:=qCl.1 qfD nm h;grind
 | regk nm v h1 h2=>
   rw[VU];have h:=qCl.1 qfD nm h1;grind
def Et{a:List Attr}{lb:List B}{m:Nat}{x:Cond}(h:sI a lb x=true)(hk:x.kids=[]):rW a lb (m+1) x=true:=by
 grind [rW]
def Qc{lb:List B}{m:Nat}{k:Cond}(h:rW iS lb m k=true):rW iS lb (m+1) ⟨6,E0,E0,E0,E0,false, [k]⟩=true:=by
 have e:sI iS lb ⟨6,E0,E0,E0,E0,false, [k]⟩=true:=rfl;grind [rW]
def Qb{lb:List B}{m:Nat}{op:Int}{a b:Cond}(ho:op=7\/op=8)(h1:rW iS lb m a=true)(h2:rW iS lb m b=true):rW iS lb (m+1) ⟨op,E0,E0,E0,E0,false, [a,b]⟩=true:=by
 have e:sI iS lb ⟨op,E0,E0,E0,E0,false, [a,b]⟩=true:=by rcases ho with rfl|rfl<;>rfl
 grind [rW]
theorem Gy{lb:List B} :∀{n m:Nat} {x:Cond},GI lb n x->n<m->rW iS lb m x=true
 | _,m+1,_, .atom n c h,_=>Et (qaS h) (wa h)
 | _,m+1,_, .not n k h,hm=>Qc (Gy h (by omega))
 | _,m+1,_, .two n op a b ho h1 h2,hm=>Qb ho (Gy h1 (by omega)) (Gy h2 (by omega))
theorem qkh{k:Cond}{op:Int} :iX ⟨op,E0,E0,E0,E0,false, [k]⟩=iX k+1:=by rfl
theorem qkg{a b:Cond}{op:Int} :iX ⟨op,E0,E0,E0,E0,false, [a,b]⟩=iX a+iX b+1:=by rfl
theorem qk8{k:Cond}{op:Int} :dE ⟨op,E0,E0,E0,E0,false, [k]⟩=dE k+1:=by grind [dE,li]
theorem qk7{a b:Cond}{op:Int} :dE ⟨op,E0,E0,E0,E0,false, [a,b]⟩=max (dE a) (dE b) +1:=by grind [dE,li]
theorem Nd{x:Cond}(h:x.kids=[]):iX x=1/\dE x=1:=by
 rw[zt,Hl,h];exact⟨rfl,rfl⟩
def SU{lb:List B} :∀{n:Nat} {x:Cond},GI lb n x->iX x+1<=2^ (n+1)/\dE x<=n+1
 | _,_, .atom n c h=>by
   grind [Nd,wa]
 | _,_, .not n k h=>by
   have:=SU h;grind [qkh,qk8]
 | _,_, .two n op a b ho h1 h2=>by
   have:=SU h1;have:=SU h2;grind [qkg,qk7]
def qgL{lb:List B}{n:Nat}{x:Cond}(h:GC lb n x):iX x+1<=2^ (n+1)/\dE x<=n+1:=by
 have h2:2^1<=2^ (n+1):=Nat.pow_le_pow_right (by decide) (by omega);cases h with
 |any=>have:=Nd (x:=⟨1,E0,E0,E0,E0,false, []⟩) rfl;omega
 |top v f h=>have:=Nd (x:=⟨2,E0,E0,v,E0,f, []⟩) rfl;omega
 |inner c h=>exact SU h
theorem M0{lb:List B}{n m:Nat}{x:Cond}(h:GC lb n x)(hm:n<m):rW iS lb m x=true:=by
 obtain⟨m,rfl⟩:∃k,m=k+1:=⟨m -1,by omega⟩
 cases h with
 |any=>rfl
 | top v f h=>
   refine Et ?_ rfl;have h:=qCl.1 qm3 v h;simp only[qCi]at h;rw[VT];cases f<;>grind
 |inner c h=>grind [Gy]
theorem qfS{a:List Attr}{lb:List B}{x:Cond}(h1:iX x<=60)(h2:dE x<=20)(h3:rW a lb 20 x=true):qka a lb x=true:=by
 grind [qka]
def qnP{lb:List B}{n:Nat}{x:Cond}(h:GC lb n x)(hn:n<=4):qka iS lb x=true:=by
 obtain⟨h1,h2⟩:=qgL h;have h3:2^ (n+1)<=2^5:=Nat.pow_le_pow_right (by decide) (by omega);grind [qfS,M0]
open Cod (enc dec)
section
variable {S:Nat->Spc}{σ:Sg}{H Hr:ab}{K:D->ab->Prop}
def qnY(dst:Option Nat)(H:ab)(K:D->ab->Prop):Prop:=match dst with
 |some t=>∀x,K (.own t x) (ai H t (some (.mrow x [])))
 |none=>False
@[simp] theorem qxG(t:Nat)(H:ab)(K:D->ab->Prop):qnY (some t) H K=∀x,K (.own t x) (ai H t (some (.mrow x []))):=i' rfl
def qc5(id:Nat)(x:Value)(ka:Bool)(ks:List KK)(k v:D)(r:Option Res)(H:ab)(K:D->ab->Prop):Prop:=match r with
 |some (.mrow a es)=>a=x/\A6 ka ks k v es λes'=>K .undef (ai H id (some (.mrow a es')))
 | _=>False
@[simp] theorem qxy(id:Nat)(x a:Value)(ka:Bool)(ks:List KK)(k v:D)(es:List D)(H:ab)(K:D->ab->Prop):qc5 id x ka ks k v (some (.mrow a es)) H K=(a=x/\A6 ka ks k v es λes'=>K .undef (ai H id (some (.mrow a es')))):=i' rfl
def qf3(ka:Bool)(ks:List KK)(d k v:D)(H:ab)(K:D->ab->Prop):Prop:=match d with
 | .own id x=>qc5 id x ka ks k v (H id) H K
 | _=>False
@[simp] theorem qxx(id:Nat)(x:Value)(ka:Bool)(ks:List KK)(k v:D)(H:ab)(K:D->ab->Prop):qf3 ka ks (.own id x) k v H K=qc5 id x ka ks k v (H id) H K:=i' rfl
def qkp(dst:Option Nat)(d:D)(H:ab)(K:D->ab->Prop):Prop:=match dst with
 | some t=>(match d with
   | .mp es=>∀b,K (.bptr t b 0) (ai H t (some (.miter b [] es)))
   | .v (.map none)=>∀b,K (.bptr t b 0) (ai H t (some (.miter b [] [])))
   | .own id x=>qaF t id x (H id) H K
   | _=>False)
 |none=>False
@[simp] theorem qxD(t:Nat)(es:List D)(H:ab)(K:D->ab->Prop):qkp (some t) (.mp es) H K=∀b,K (.bptr t b 0) (ai H t (some (.miter b [] es))):=i' rfl
def qc6(id b:Nat)(r:Option Res)(H:ab)(K:D->ab->Prop):Prop:=match r with
 |some (.miter b' cur left)=>b'=b/\(left=[]->K (.tup [.v (.bool false)]) H)/\∀a e c,left=a++e::c->K (.tup [.v (.bool true), .any, .any]) (ai H id (some (.miter b' [e] (a++c))))
 |some (.raw (.mit b' m x clock seen))=>b'=b/\qaT id b' m x clock seen (H m) H K
 | _=>False
@[simp] theorem qxF(id b b':Nat)(cur left:List D)(H:ab)(K:D->ab->Prop):qc6 id b (some (.miter b' cur left)) H K=(b'=b/\(left=[]->K (.tup [.v (.bool false)]) H)/\∀a e c,left=a++e::c->K (.tup [.v (.bool true), .any, .any]) (ai H id (some (.miter b' [e] (a++c))))):=i' rfl
def qf5(d:D)(H:ab)(K:D->ab->Prop):Prop:=match d with
 | .bptr id b off=>off=0/\qc6 id b (H id) H K
 | _=>False
@[simp] theorem qxE(i b off:Nat)(H:ab)(K:D->ab->Prop):qf5 (.bptr i b off) H K=(off=0/\qc6 i b (H i) H K):=i' rfl
def qc7(b:Nat)(r:Option Res)(H:ab)(K:D->Prop):Prop:=match r with
 |some (.miter b' [e] _)=>b'=b/\K e
 |some (.raw (.mit b' m x c seen))=>b'=b/\Xs x c seen (H m) K
 | _=>False
@[simp] theorem qxR(b b':Nat)(e:D)(l:List D)(H:ab)(K:D->Prop):qc7 b (some (.miter b' [e] l)) H K=(b'=b/\K e):=i' rfl
def qgb(d:D)(H:ab)(K:D->Prop):Prop:=match d with
 | .bptr id b off=>off=0/\qc7 b (H id) H K
 | _=>False
@[simp] theorem qxQ(i b off:Nat)(H:ab)(K:D->Prop):qgb (.bptr i b off) H K=(off=0/\qc7 b (H i) H K):=i' rfl
def qrk(x:Value)(r:Option Res)(K:List D->Prop):Prop:=match r with
 |some (.mrow a es)=>a=x/\K es
 | _=>False
@[simp] theorem qAI(x a:Value)(es:List D)(K:List D->Prop):qrk x (some (.mrow a es)) K=(a=x/\K es):=i' rfl
def qnW(d:D)(H:ab)(K:List D->Prop):Prop:=match d with
 | .mp es=>K es
 | .v (.map none)=>K []
 | .own id x=>qrk x (H id) K
 | _=>False
@[simp] theorem qAH(es:List D)(H:ab)(K:List D->Prop):qnW (.mp es) H K=K es:=i' rfl
@[simp] theorem qAG(i:Nat)(x:Value)(H:ab)(K:List D->Prop):qnW (.own i x) H K=qrk x (H i) K:=i' rfl
def qga(len sz:Nat)(x i:D)(K:D->Prop):Prop:=match i with
 | .v (.int _ k)=>0<=k/\k<len/\Nr (k.toNat*sz) x K
 | _=>False
@[simp] theorem qxM(len sz:Nat)(x:D)(q:IntKind)(k:Int)(K:D->Prop):qga len sz x (.v (.int q k)) K=(0<=k/\k<len/\Nr (k.toNat*sz) x K):=i' rfl
@[simp] theorem qvb(o:Nat)(cs:List D)(p:Nat)(K:D->Prop):Nr o (.cptr cs p) K=K (.cptr cs (p+o)):=i' rfl
@[simp] theorem qvc(o i b p:Nat)(K:D->Prop):Nr o (.bptr i b p) K=K (.bptr i b (p+o)):=i' rfl
@[congr] theorem quh{id:Nat}{x:Value}{ka:Bool}{ks:List KK}{k v a v':D}{r r':Option Res}{H:ab}{K:D->ab->Prop}(h1:k=a)(h2:v=v')(h3:r=r'):qc5 id x ka ks k v r H K=qc5 id x ka ks a v' r' H K:=by grind
@[congr] theorem qug{ka:Bool}{ks:List KK}{d a k v b v':D}{H:ab}{K:D->ab->Prop}(h0:d=a)(h1:k=b)(h2:v=v'):qf3 ka ks d k v H K=qf3 ka ks a b v' H K:=by grind
@[congr] theorem qqB{ka:Bool}{ks:List KK}{k v a v':D}{es es':List D}{K:List D->Prop}(h1:k=a)(h2:v=v')(h3:es=es'):A6 ka ks k v es K=A6 ka ks a v' es' K:=by grind
@[congr] theorem qpN{ok agg ka:Bool}{ks:List KK}{z:List Value}{k a:D}{es es':List D}{K:D->Prop}(h1:k=a)(h3:es=es'):wQ ok agg ka ks z k es K=wQ ok agg ka ks z a es' K:=by grind
@[congr] theorem qui{t:Option Nat}{d a:D}{H:ab}{K:D->ab->Prop}(h:d=a):qkp t d H K=qkp t a H K:=by grind
@[congr] theorem quk{id b:Nat}{r r':Option Res}{H:ab}{K:D->ab->Prop}(h:r=r'):qc6 id b r H K=qc6 id b r' H K:=by grind
@[congr] theorem quj{d a:D}{H:ab}{K:D->ab->Prop}(h:d=a):qf5 d H K=qf5 a H K:=by grind
@[congr] theorem qur{b:Nat}{r r':Option Res}{H:ab}{K:D->Prop}(h:r=r'):qc7 b r H K=qc7 b r' H K:=by grind
@[congr] theorem quq{d a:D}{H:ab}{K:D->Prop}(h:d=a):qgb d H K=qgb a H K:=by grind
@[congr] theorem qxw{x:Value}{r r':Option Res}{K:List D->Prop}(h:r=r'):qrk x r K=qrk x r' K:=by grind
@[congr] theorem qxv{d a:D}{H:ab}{K:List D->Prop}(h:d=a):qnW d H K=qnW a H K:=by grind
@[congr] theorem qup{len sz:Nat}{x a i b:D}{K:D->Prop}(h:x=a)(h2:i=b):qga len sz x i K=qga len sz a b K:=by grind
@[simp ↓] theorem qBc(dst:Option Nat):ax S (.m .mk []) dst σ H K=qnY dst H K:=by rfl
@[simp ↓] theorem qAq(dst:Option Nat):av S (.m .mk []) dst σ Hr H K=qnY dst H K:=by rfl
@[simp ↓] theorem qzh(dst:Option Nat)(ka:Bool)(ks:List KK)(x k v:Operand):ax S (.m (.upd ka ks) [x,k,v]) dst σ H K=qf3 ka ks (ev σ x) (ev σ k) (ev σ v) H K:=by
 show jQ (.upd ka ks) [ev σ x,ev σ k,ev σ v] dst H K=_;unfold qf3 qc5;cases ev σ x<;>rfl
@[simp ↓] theorem qzi(dst:Option Nat)(x:Operand):ax S (.m .rng [x]) dst σ H K=qkp dst (ev σ x) H K:=by
 rfl
@[simp ↓] theorem qvX(dst:Option Nat)(x:Operand):ax S (.m .next [x]) dst σ H K=qf5 (ev σ x) H K:=by
 show jQ .next [ev σ x] dst H K=_;unfold qf5 qc6;cases ev σ x<;>rfl
@[simp ↓] theorem qsB(dst:Option Nat)(x:Operand):ax S (.m .entry [x]) dst σ H K=qgb (ev σ x) H (λd=>K d H):=by
 show jQ .entry [ev σ x] dst H K=_;unfold qgb qc7;cases ev σ x<;>rfl
@[simp ↓] theorem qvY(dst:Option Nat)(ok agg ka:Bool)(ks:List KK)(z:List Value)(x k:Operand):ax S (.m (.look ok agg ka ks z) [x,k]) dst σ H K=qnW (ev σ x) H λes=>wQ ok agg ka ks z (ev σ k) es λd=>K d H:=by
 rfl
@[simp ↓] theorem qt0(dst:Option Nat)(ok agg ka:Bool)(ks:List KK)(z:List Value)(x k:Operand):av S (.m (.look ok agg ka ks z) [x,k]) dst σ Hr H K=qnW (ev σ x) Hr λes=>wQ ok agg ka ks z (ev σ k) es λd=>K d H:=by
 rfl
@[simp ↓] theorem qzj(dst:Option Nat)(x:Operand):ax S (.m .len [x]) dst σ H K=qnW (ev σ x) H λes=>K (.v (.int .i64 es.length)) H:=by
 rfl
@[simp ↓] theorem qvZ(dst:Option Nat)(len sz:Nat)(x i:Operand):ax S (.m (.aidx len sz) [x,i]) dst σ H K=qga len sz (ev σ x) (ev σ i) (λd=>K d H):=by
 show Au (.aidx len sz) [ev σ x,ev σ i] H (λd=>K d H)=_;unfold qga;cases ev σ i<;>first|rfl|skip
 rename_i v;cases v<;>rfl
end
@[simp] theorem qzY(a:D)(es:List D):TN a (.mp es)=(a= .mp es):=i' rfl
theorem M4{a b:D}(l:Dx a=true)(hb:Dx b=true)(h:JY a b):a=b:=by
 obtain⟨tp,I,w,x,h1,h2⟩:=h;have one:∀d:D,Dx d=true->(∃cs,d= .agg cs)\/ ∃v,d= .v v:=λd r=>by
  cases d<;>first|exact .inl ⟨_,rfl⟩|exact .inr ⟨_,rfl⟩|(simp[Dx,D.cells,qpQ]at r)
 rcases one a l with⟨cs,rfl⟩|⟨v,rfl⟩ <;>rcases one b hb with⟨cs',rfl⟩|⟨v',rfl⟩
 ·obtain⟨xs,rfl,hl,hc⟩:=h1.inv_agg;obtain⟨s,he,t,c⟩:=h2.inv_agg;have j:xs=s:=by simpa using he
  subst j;have k:cs=cs':=by
   refine qEa (by omega) λi h3 h4=>?_
   have hi:i<xs.length:=by omega
   have v1:qpQ cs[i]=true:=qCl.1 l _ (by simp[D.cells]);have u:qpQ cs'[i]=true:=qCl.1 hb _ (by simp[D.cells]);have y:=(hc i _ _ (qCe hi) (qCe h3)).2;have A:=(c i _ _ (qCe hi) (qCe h4)).2;generalize cs[i]=p at*;generalize cs'[i]=q at*;cases p<;>first|(cases v1;done)|skip
   cases q<;>first|(cases u;done)|skip
   rw[<-y.inv_v,<-A.inv_v]
  rw[k]
 ·obtain⟨xs,rfl,_,_⟩:=h1.inv_agg;have:=h2.inv_v;cases h2 with
  |v _ h _=>simp[Value.oneCell']at h
 ·obtain⟨xs,rfl,_,_⟩:=h2.inv_agg;cases h1 with
  |v _ h _=>simp[Value.oneCell']at h
 ·rw[<-h1.inv_v,<-h2.inv_v]
structure ZW (X:Type) [Cod X] (ka:Bool) (ks:List KK):Prop where
 fit:∀x:X,Nm ka ks (enc x)=true
 pur:∀x:X,Dx (enc x)=true
def Wn:ZW Int false [.int .i64]:=⟨λ_=>rfl,λ_=>rfl⟩
section
variable {X:Type}[Cod X][DecidableEq X]
def bB(l:List X):List D:=l.map λx=> .tup [enc x, .v (.bool true)]
def yn(x:X)(l:List X):List X:=if x∈l then l else l++ [x]
@[simp] theorem ft{x y:X}{l:List X} :y∈yn x l↔y=x\/y∈l:=by
 unfold yn;split
 ·rename_i h;exact⟨.inr,λh2=>h2.elim (λe=>e ▸h) id⟩
 ·simp[or_comm]
def zA{x:X}{l:List X}(h:l.Nodup):(yn x l).Nodup:=by
 unfold yn;split
 ·exact h
 ·rename_i c;rw[qDP];exact⟨h,by simp,λa d b hb=>by simp at hb;subst hb;exactλe=>c (e ▸d)⟩
def BG{x:X}{v:D}{l:List X} :D.tup [enc x,v] ∈bB l↔x∈l/\v= .v (.bool true):=by
 simp only[bB,qCo,D.tup.injEq,qCL,and_true];exact⟨λ⟨y,h1,h2,h3⟩=>⟨bi h2 ▸h1,h3.symm⟩,λ⟨h1,h2⟩=>⟨x,h1,rfl,h2.symm⟩⟩
def U4{d:D}{l:List X}(h:d∈bB l):∃x∈l,d= .tup [enc x, .v (.bool true)]:=by
 obtain⟨x,h1,rfl⟩:=qCo.1 h;exact⟨x,h1,rfl⟩
def ip:∀{l:List X} {j c:List D} {e:D},bB l=j++e::c->∃a x b,l=a++x::b/\j=bB a/\e= .tup [enc x, .v (.bool true)]/\c=bB b
 | [],j,c,e,h=>by
   have:=congrArg List.length h;simp[bB]at this
 | y::l, [],c,e,h=>by
   simp only[bB,qCW,qC5,qCL]at h;exact⟨[],y,l,rfl,rfl,h.1.symm,h.2.symm⟩
 | y::l,d::j,c,e,h=>by
   simp only[bB,qCW,qC8,qCL]at h;obtain⟨a,x,b,rfl,rfl,h3,h4⟩:=ip (l:=l) h.2;exact⟨y::a,x,b,rfl,by simp[bB,h.1],h3,h4⟩
def iT(a b:List X):bB (a++b)=bB a++bB b:=by simp[bB]
def U5{ka:Bool}{ks:List KK}(a:ZW X ka ks)(l:List X):(bB l).all (Ta ka ks)=true:=by
 rw[qCl];intro d b;obtain⟨x,_,rfl⟩:=U4 b;exact a.fit x
def qaa{ka:Bool}{ks:List KK}(c:ZW X ka ks){x:X}{l:List X}{k:D}{K:List D->Prop}(hk:k=enc x)(h:K (bB (yn x l))):A6 ka ks k (.v (.bool true)) (bB l) K:=by
 subst hk;refine⟨U5 c l,c.fit x,λj p v' q e m=>?_,λhn=>?_⟩
 ·obtain⟨a,y,b,rfl,rfl,h3,rfl⟩:=ip e;simp only[D.tup.injEq,qCL,and_true]at h3;obtain⟨rfl,rfl⟩:=h3;have:=bi (M4 (c.pur x) (c.pur y) m);subst this;rw[<-e];have:yn x (a++x::b)=a++x::b:=by unfold yn;rw[if_pos (by simp)]
  rw[this]at h;exact h
 ·have d:x∉l:=λd=>hn (c.pur x) _ (BG.2 ⟨d,rfl⟩)
  have:yn x l=l++ [x]:=by unfold yn;rw[if_neg d]
  rw[this,iT]at h;exact h
def qgj{ok:Bool}{ka:Bool}{ks:List KK}(a:ZW X ka ks){x:X}{l:List X}{k:D}{K:D->Prop}(hk:k=enc x)(h:K (qiS ok (.v (.bool (decide (x∈l)))) (decide (x∈l)))):
 wQ ok false ka ks [.bool false] k (bB l) K:=by
 subst hk;refine⟨U5 a l,a.fit x,λd v hm m=>?_,λhn=>?_⟩
 ·obtain⟨y,c,e⟩:=U4 hm;simp only[D.tup.injEq,qCL,and_true]at e;obtain⟨rfl,rfl⟩:=e;have:=bi (M4 (a.pur x) (a.pur y) m);subst this;simpa [c]using h
 ·have b:x∉l:=λb=>hn (a.pur x) _ (BG.2 ⟨b,rfl⟩)
  simpa [b]using h
def JM{ok:Bool}{ka:Bool}{ks:List KK}(b:ZW X ka ks)(x:X)(c:JY (enc x) (enc x))(l:List X)(K:D->Prop):wQ ok false ka ks [.bool false] (enc x) (bB l) K=K (qiS ok (.v (.bool (decide (x∈l)))) (decide (x∈l))):=by
 refine propext ⟨λ⟨_,_,h1,h2⟩=>?_,qgj b rfl⟩;by_cases a:x∈l
 ·have:=h1 (enc x) (.v (.bool true)) (BG.2 ⟨a,rfl⟩) c;simpa [a]using this
 ·have:=h2 λ_ v hm=>a (BG.1 hm).1
  simpa [a,QY,qc]using this
end
@[simp] theorem qru(ok:Bool)(k:Int)(l:List Int)(K:D->Prop):wQ ok false false [.int .i64] [.bool false] (.v (.int .i64 k)) (bB l) K=K (qiS ok (.v (.bool (decide (k∈l)))) (decide (k∈l))):=JM Wn k ⟨λ_=>False,λ_=>False,default,_,R.int .i64 k,R.int .i64 k⟩ l K
@[simp] theorem qAK(v:D)(b:Bool):qiS true v b= .tup [v, .v (.bool b)]:=i' rfl
@[simp] theorem qAL(v:D)(b:Bool):qiS false v b=v:=i' rfl
structure St3 where
 p:Int
 b0:Int
 b1:Int
 b2:Int
deriving DecidableEq
instance:Cod St3 where
 wd:=4
 enc s:= .agg [enc s.p,enc s.b0,enc s.b1,enc s.b2]
 dec| .agg [a,b,c,j]=>(dec a).bind λa=>(dec b).bind λb=>(dec c).bind λc=>(dec j).bind λj=>some ⟨a,b,c,j⟩|_=>none
 kn _:=rfl
 wid _:=rfl
 dec_enc s:=by simp
 le d x h:=by
  split at h
  ·simp only[qCc]at h;obtain⟨a,h0,b,h1,c,h2,j,h3,h⟩:=h;cases h;exact LeL.agg (.cons (Cod.le _ _ h0) (.cons (Cod.le _ _ h1) (.cons (Cod.le _ _ h2) (.cons (Cod.le _ _ h3) .nil))))
  ·cases h
@[simp] theorem qvs(s:St3):enc s= .agg [enc s.p,enc s.b0,enc s.b1,enc s.b2]:=i' rfl
@[simp] theorem qvB(a b c d:D):dec (X:=St3) (.agg [a,b,c,d])=((dec a).bind λa=>(dec b).bind λb=>(dec c).bind λc=>(dec d).bind λd=>some ⟨a,b,c,d⟩):=i' rfl
def qa7:ZW St3 true [.int .i64, .int .i64, .int .i64, .int .i64]:=⟨λ_=>rfl,λ_=>rfl⟩
structure Rn where
 c:Corpus
 lb:List B
 bg:Int
 en:Int
def St3.get(s:St3)(i:Nat):Int:=match i with|0=>s.b0|1=>s.b1|_=>s.b2
def St3.set(s:St3)(i:Nat)(x:Int):St3:=match i with|0=>⟨s.p,x,s.b1,s.b2⟩|1=>⟨s.p,s.b0,x,s.b2⟩|_=>⟨s.p,s.b0,s.b1,x⟩
def TF(r:Rn)(s:St3):List Int:=(List.range r.lb.length).map λi=>s.get i -1
def Iu(r:Rn)(p:Pat)(s:St3):St3:=
 let a:St3:=if p.lab=ll then s else s.set (ij r.lb λz=>decide (z=p.lab)).toNat (s.p+1)
 ⟨a.p+1,a.b0,a.b1,a.b2⟩
def HT(r:Rn)(p:Pat)(s:St3):Option Bool:=qH ⟨r.c,s.p,r.lb,TF r s⟩ 21 p.cond
def qid(r:Rn)(p:Pat)(at_:Int):Bool:=r.c.regs.any λx=>decide (x.ty=p.reg) && decide ((if p.op=3 then x.e else x.b)=at_) && decide (r.bg<=x.b) && decide (x.e<=r.en)
section
variable {α:Type}
def Pow(R:α->α->Prop):Nat->α->α->Prop
 | 0=>λs t=>s=t
 |n+1=>λs t=>∃u,R s u/\Pow R n u t
def Star(R:α->α->Prop)(s t:α):Prop:=∃n,Pow R n s t
def Pow.add{R:α->α->Prop} :∀{m n:Nat} {s t u:α},Pow R m s t->Pow R n t u->Pow R (m+n) s u
 | 0,n,s,t,u,h,k=>by cases h;rwa [qCR]
 | m+1,n,s,t,u,⟨v,h1,h2⟩,k=>by
   rw[Nat.succ_add];exact⟨v,h1,h2.add k⟩
def Star.refl(R:α->α->Prop)(s:α):Star R s s:=⟨0,rfl⟩
theorem Star.one{R:α->α->Prop}{s t:α}(h:R s t):Star R s t:=⟨1,t,h,rfl⟩
def Star.trans{R:α->α->Prop}{s t u:α}(h:Star R s t)(k:Star R t u):Star R s u:=by
 obtain⟨m,h⟩:=h;obtain⟨n,k⟩:=k;exact⟨m+n,h.add k⟩
def Star.mono{R Q:α->α->Prop}(a:∀s t,R s t->Star Q s t){s t:α}(h:Star R s t):Star Q s t:=by
 obtain⟨n,h⟩:=h
 induction n generalizing s with
 |zero=>cases h;exact .refl _ _
 | succ n b=>
   obtain⟨u,h1,h2⟩:=h;exact(a _ _ h1).trans (b h2)
def Pow.mono{R Q:α->α->Prop}(a:∀s t,R s t->Q s t):∀{n:Nat} {s t:α},Pow R n s t->Pow Q n s t
 | 0,_,_,h=>h
 |n+1,_,_,⟨u,h1,h2⟩=>⟨u,a _ _ h1,h2.mono a⟩
end
def Jq(R:St3->St3->Prop)(s t:St3):Prop:=R s t/\s.p<t.p
def Cm(R:St3->St3->Prop)(mn mx:Int)(s t:St3):Prop:=∃u,Pow R mn.toNat s u/\∃n:Nat,(mx< 0\/mn+n<=mx)/\Pow (Jq R) n u t
def AE(R:St3->St3->Prop):Prop:=∀s t,R s t->s=t\/s.p<t.p
def Wo{R:St3->St3->Prop}(a:AE R){s t:St3} :Star (Jq R) s t↔Star R s t:=by
 constructor
 ·exact Star.mono λs t h=> .one h.1
 ·exact Star.mono λs t h=>by
   rcases a s t h with rfl|h2
   ·exact .refl _ _
   ·exact .one ⟨h,h2⟩
def tX{R:St3->St3->Prop}(a:AE R){mn:Int}{s t:St3} :Cm R mn (-1) s t↔ ∃u,Pow R mn.toNat s u/\Star R u t:=by
 constructor
 ·rintro⟨u,h1,n,_,h2⟩;exact⟨u,h1,(Wo a).1 ⟨n,h2⟩⟩
 ·rintro⟨u,h1,h2⟩;obtain⟨n,h2⟩:=(Wo a).2 h2;exact⟨u,h1,n, .inl (by decide),h2⟩
def Wy{R:St3->St3->Prop}(b:AE R)(n:Nat):AE (Pow R n):=by
 induction n with
 |zero=>intro s t h;exact .inl h
 | succ n a=>
   rintro s t ⟨u,h1,h2⟩;rcases b _ _ h1 with rfl|h1
   ·exact a _ _ h2
   ·rcases a _ _ h2 with rfl|h2
    ·exact .inr h1
    ·exact .inr (by omega)
def Wx{R:St3->St3->Prop}(a:AE R)(mn mx:Int):AE (Cm R mn mx):=by
 rintro s t ⟨u,h1,n,_,h2⟩;have b:AE (Pow (Jq R) n):=Wy (λs t h=>a s t h.1) n;rcases Wy a _ _ _ h1 with rfl|h1
 ·exact b _ _ h2
 ·rcases b _ _ h2 with rfl|h2
  ·exact .inr h1
  ·exact .inr (by omega)
theorem qjT{R:St3->St3->Prop}(c:AE R){d a:Int}(h1:0<=d/\d<=1)(h2:0<=a/\a<=1)(s t:St3):Cm (Cm R a (-1)) d (-1) s t↔Cm R (d*a) (-1) s t:=by
 have j:=Wx c a (-1);rw[tX j,tX c];have sub:∀s t,Cm R a (-1) s t->Star R s t:=λs t h=>by
  obtain⟨u,h3,h4⟩:=(tX c).1 h;exact Star.trans ⟨_,h3⟩ h4
 have k:∀s t,R s t->Cm R a (-1) s t:=λs t h=>by
  rw[tX c];have:a=0\/a=1:=by omega
  rcases this with rfl|rfl
  ·exact⟨s,rfl, .one h⟩
  ·exact⟨t,⟨t,h,rfl⟩, .refl _ _⟩
 have b:∀s t,Star (Cm R a (-1)) s t↔Star R s t:=λs t=>⟨Star.mono sub,Star.mono λs t h=> .one (k s t h)⟩
 have c1:d=0\/d=1:=by omega
 rcases c1 with rfl|rfl
 ·rw[Int.zero_mul];constructor
  ·rintro⟨u,h3,h4⟩;cases h3;exact⟨_,rfl,(b _ _).1 h4⟩
  ·rintro⟨u,h3,h4⟩;cases h3;exact⟨_,rfl,(b _ _).2 h4⟩
 ·rw[Int.one_mul];constructor
  ·rintro⟨u,⟨v,h3,h5⟩,h4⟩;cases h5;obtain⟨l,h6,p⟩:=(tX c).1 h3;exact⟨l,h6,p.trans ((b _ _).1 h4)⟩
  ·rintro⟨u,h3,h4⟩;exact⟨t,⟨t,(tX c).2 ⟨u,h3,h4⟩,rfl⟩, .refl _ _⟩
mutual
def nM(r:Rn):Pat->St3->St3->Prop
 | .mk op cond lab reg mn mx ks=>λs t=>
   if op=1 then s.p<r.en/\HT r (.mk op cond lab reg mn mx ks) s=some true/\t=Iu r (.mk op cond lab reg mn mx ks) s
   else if op=2\/op=3 then qid r (.mk op cond lab reg mn mx ks) s.p=true/\t=s
   else if op=4 then xE r ks s t
   else if op=5 then An r ks s t
   else Of r ks mn mx s t
def xE(r:Rn):List Pat->St3->St3->Prop
 | []=>λs t=>s=t
 |k::ks=>λs t=>∃u,nM r k s u/\xE r ks u t
def An(r:Rn):List Pat->St3->St3->Prop
 | []=>λ_ _=>False
 |k::ks=>λs t=>nM r k s t\/An r ks s t
def Of(r:Rn):List Pat->Int->Int->St3->St3->Prop
 | []=>λ_ _ _ _=>False
 |k::_=>λmn mx s t=>Cm (nM r k) mn mx s t
end
mutual
def BL(r:Rn):∀p:Pat,AE (nM r p)
 | .mk op cond lab reg mn mx ks=>by
   intro s t h;rw[nM]at h;split at h
   ·obtain⟨_,_,rfl⟩:=h;right;unfold Iu;dsimp only;split
    ·show s.p<s.p+1;omega
    ·generalize (ij r.lb λz=>decide (z=lab)).toNat=i;rcases i with _|_|i
     ·show s.p<s.p+1;omega
     ·show s.p<s.p+1;omega
     ·show s.p<s.p+1;omega
   ·split at h
    ·exact .inl h.2.symm
    ·split at h
     ·exact CA r ks s t h
     ·split at h
      ·exact Qw r ks s t h
      ·exact qdv r ks mn mx s t h
def CA(r:Rn):∀ks:List Pat,AE (xE r ks)
 | []=>λs t h=>by rw[xE]at h;exact .inl h
 | k::ks=>λs t h=>by
   rw[xE]at h;obtain⟨u,h1,h2⟩:=h;rcases BL r k s u h1 with rfl|h1
   ·exact CA r ks _ _ h2
   ·rcases CA r ks u t h2 with rfl|h2
    ·exact .inr h1
    ·exact .inr (by omega)
def Qw(r:Rn):∀ks:List Pat,AE (An r ks)
 | []=>λs t h=>by rw[An]at h;exact h.elim
 | k::ks=>λs t h=>by
   rw[An]at h;rcases h with h|h
   ·exact BL r k s t h
   ·exact Qw r ks s t h
def qdv(r:Rn):∀(ks:List Pat) (mn mx:Int),AE (Of r ks mn mx)
 | [],_,_=>λs t h=>by rw[Of]at h;exact h.elim
 | k::_,mn,mx=>λs t h=>by
   rw[Of]at h;exact Wx (BL r k) mn mx s t h
end
def X3(m:Int)(s:St3):Prop:=0<=s.p/\s.p<=m/\∀i,0<=s.get i/\s.get i<=m
def qmD(m:Int)(R:St3->St3->Prop):Prop:=∀s t,R s t->X3 m s->X3 m t
def IB{m:Int}{R:St3->St3->Prop}(h:qmD m R):∀n:Nat,qmD m (Pow R n)
 | 0,s,t,e,hs=>by cases e;omega
 |n+1,s,t,⟨u,h1,h2⟩,hs=>IB h n _ _ h2 (h _ _ h1 hs)
def qn5{m:Int}{R:St3->St3->Prop}(h:qmD m R)(mn mx:Int):qmD m (Cm R mn mx):=by
 rintro s t ⟨u,h1,n,_,h2⟩ hs;exact IB (R:=Jq R) (λs t q=>h s t q.1) n _ _ h2 (IB h _ _ _ h1 hs)
theorem qrf(r:Rn)(p:Pat)(s:St3):(Iu r p s).p=s.p+1:=by
 unfold Iu;dsimp only;split
 ·rfl
 ·generalize (ij r.lb λz=>decide (z=p.lab)).toNat=i;rcases i with _|_|i<;>rfl
theorem qkf(r:Rn)(p:Pat)(s:St3)(i:Nat):(Iu r p s).get i=s.get i\/(Iu r p s).get i=s.p+1:=by
 unfold Iu;dsimp only;split
 ·rcases i with _|_|i<;>exact .inl rfl
 ·generalize (ij r.lb λz=>decide (z=p.lab)).toNat=j;rcases j with _|_|j<;>rcases i with _|_|i<;>first|exact .inl rfl|exact .inr rfl
mutual
def zz(r:Rn):∀p:Pat,qmD r.en (nM r p)
 | .mk op cond lab reg mn mx ks=>by
   intro s t h hs;rw[nM]at h;split at h;grind [X3,qrf,qkf]
   ·split at h;grind
    ·split at h
     ·exact SJ r ks s t h hs
     ·split at h
      ·exact qa6 r ks s t h hs
      ·exact qkw r ks mn mx s t h hs
def SJ(r:Rn):∀ks:List Pat,qmD r.en (xE r ks)
 | []=>λs t h hs=>by simp_all [xE]
 | k::ks=>λs t h hs=>by
   rw[xE]at h;obtain⟨u,h1,h2⟩:=h;exact SJ r ks u t h2 (zz r k s u h1 hs)
def qa6(r:Rn):∀ks:List Pat,qmD r.en (An r ks)
 | []=>λs t h=>by rw[An]at h;grind
 | k::ks=>λs t h hs=>by
   rw[An]at h;rcases h with h|h
   ·exact zz r k s t h hs
   ·exact qa6 r ks s t h hs
def qkw(r:Rn):∀(ks:List Pat) (mn mx:Int),qmD r.en (Of r ks mn mx)
 | [],_,_=>λs t h=>by rw[Of]at h;grind
 | k::_,mn,mx=>λs t h hs=>by
   rw[Of]at h;exact qn5 (zz r k) mn mx s t h hs
end
def Ng{R:St3->St3->Prop} :∀{n:Nat} {s t:St3},Pow (Jq R) n s t->s.p+n<=t.p
 | 0,s,t,h=>by cases h;omega
 | n+1,s,t,⟨u,h1,h2⟩=>by
   have:=Ng h2;grind [Jq]
mutual
def sJ:Pat->List Pat
 | .mk op cond lab reg mn mx ks=> .mk op cond lab reg mn mx ks::zu ks
def zu:List Pat->List Pat
 | []=>[]
 |k::ks=>sJ k++zu ks
end
def qb(C:Pat->Prop)(p:Pat):Prop:=∀q∈sJ p,C q
theorem JL:∀{ks:List Pat} {k q:Pat},k∈ks->q∈sJ k->q∈zu ks
 | a::ks,k,q,h,b=>by
   rw[zu,qCk];rcases qCm.1 h with rfl|h;grind
   ·exact .inr (JL h b)
theorem vW:∀{ks:List Pat} {q:Pat},q∈zu ks->∃k∈ks,q∈sJ k
 | [],q,h=>by grind [zu]
 | a::ks,q,h=>by
   rw[zu,qCk]at h;rcases h with h|h;grind
   ·obtain⟨k,h1,h2⟩:=vW h;grind
def VY(p:Pat):p∈sJ p:=by cases p;grind [sJ]
def nA{C:Pat->Prop}{p:Pat}(h:qb C p):C p:=h p (VY p)
def uJ{C:Pat->Prop}{p k:Pat}(h:qb C p)(hk:k∈p.kids):qb C k:=λq a=>h q (by cases p;grind [sJ,JL])
def qj8{C:Pat->Prop}{p:Pat}(h:C p)(hk:∀k∈p.kids,qb C k):qb C p:=λq a=>by
 cases p<;>grind [qb,sJ,vW]
def yf{C D:Pat->Prop}{p:Pat}(h:qb C p)(a:∀q,C q->D q):qb D p:=λq b=>a q (h q b)
def lC:List Int->List Int->Int
 | [], []=>0
 | [],_::_=> -1
 | _::_, []=>1
 |a::x,b::y=>if tQ a b≠0 then tQ a b else lC x y
def I1(a b:bY):Int:=lC (a.b::a.e::a.lbs) (b.b::b.e::b.lbs)
def kR(a b:Int):(a<b/\tQ a b= -1)\/(a=b/\tQ a b=0)\/(b<a/\tQ a b=1):=by
 unfold tQ;by_cases h:a<b
 ·exact .inl ⟨h,if_pos h⟩
 ·by_cases h2:b<a
  ·exact .inr (.inr ⟨h2,by rw[if_neg h,if_pos h2]⟩)
  ·exact .inr (.inl ⟨by omega,by rw[if_neg h,if_neg h2]⟩)
def qhK(a b:Int):tQ b a= -tQ a b:=by
 rcases kR a b with⟨h,e⟩|⟨h,e⟩|⟨h,e⟩ <;>rcases kR b a with⟨d,c⟩|⟨d,c⟩|⟨d,c⟩ <;>first|(rw[e,c];done)|(rw[e,c];rfl)|omega
def QO{a b:Int} :tQ a b=0↔a=b:=by
 rcases kR a b with⟨h,e⟩|⟨h,e⟩|⟨h,e⟩ <;>rw[e] <;>constructor<;>intro c<;>omega
def Xw:∀x y:List Int,lC y x= -lC x y
 | [], []=>rfl
 | [],_::_=>rfl
 | _::_, []=>rfl
 | a::x,b::y=>by
   unfold lC;have h:=qhK a b;by_cases e:tQ a b=0
   ·rw[if_neg (by rw[h,e];simp),if_neg (by simp[e])];exact Xw x y
   ·rw[if_pos (by rw[h];omega),if_pos e,h]
def I2:∀{x y:List Int},lC x y=0↔x=y
 | [], []=>by simp[lC]
 | [],_::_=>by simp[lC]
 | _::_, []=>by simp[lC]
 | a::x,b::y=>by
   unfold lC;by_cases e:tQ a b=0
   ·rw[if_neg (by simp[e]),I2,QO.1 e];simp
   ·rw[if_pos e];constructor
    ·intro h;exact absurd h e
    ·intro h;injection h with h;exact absurd (QO.2 h) e
def ZD(x y:List Int):lC x y= -1\/lC x y=0\/lC x y=1:=by
 induction x generalizing y with
 |nil=>cases y<;>simp[lC]
 | cons a x c=>
   cases y with
   |nil=>simp[lC]
   | cons b y=>
     unfold lC;split
     ·rcases kR a b with⟨_,e⟩|⟨_,e⟩|⟨_,e⟩ <;>rw[e] <;>simp
     ·exact c y
def NM:∀{x y z:List Int},lC x y< 0->lC y z< 0->lC x z< 0
 | [], [],_,h,_=>by simp[lC]at h
 | [],_::_, [],_,h=>by simp[lC]at h
 | [],_::_,_::_,_,_=>by simp[lC]
 | _::_, [],_,h,_=>by simp[lC]at h
 | _::_,_::_, [],_,h=>by simp[lC]at h
 | a::x,b::y,c::z,h1,h2=>by
   unfold lC at h1 h2 ⊢;rcases kR a b with⟨l,d⟩|⟨l,d⟩|⟨l,d⟩ <;>rcases kR b c with⟨p,j⟩|⟨p,j⟩|⟨p,j⟩ <;>rcases kR a c with⟨q,k⟩|⟨q,k⟩|⟨q,k⟩ <;>simp only[d,j,k]at h1 h2 ⊢ <;>first|omega|(exact NM (by simpa using h1) (by simpa using h2))|(simp at h1;done)|(simp at h2;done)|skip
def Za(a b:bY):Prop:=I1 a b< 0
theorem Cy{a b c:bY}(h1:Za a b)(h2:Za b c):Za a c:=NM h1 h2
def qaZ(a:bY):¬Za a a:=λh=>by
 have:I1 a a=0:=I2.2 rfl;unfold Za at h;omega
def qdN{a b:bY} :I1 a b=0↔a=b:=by
 unfold I1;rw[I2];obtain⟨a1,a2,a3⟩:=a;obtain⟨b1,b2,c⟩:=b;simp
def qhJ(a b:bY):I1 b a= -I1 a b:=Xw _ _
theorem Li{a b:bY}(h:¬Za a b):a=b\/Za b a:=by
 rcases ZD (a.b::a.e::a.lbs) (b.b::b.e::b.lbs)with e|e|e
 ·exact absurd (show I1 a b< 0 by unfold I1;omega) h
 ·exact .inl (qdN.1 e)
 ·right;unfold Za;rw[qhJ a b];show -lC _ _< 0;omega
def CL(l:List bY):Prop:=l.Pairwise Za
def Yt(c:Corpus)(i:Int):Option ro:=c.texts.find? λt=>decide (t.b<=i) && decide (i<t.e)
def H8(c:Corpus)(lb:List B)(t:ro):Rn:=⟨c,lb,t.b,min t.e c.toks.length⟩
def qcu(i:Int):St3:=⟨i,0,0,0⟩
def qiH(c:Corpus)(lb:List B)(p:Pat)(m:bY):Prop:=0<=m.b/\m.b<c.toks.length/\∃t,Yt c m.b=some t/\∃s,nM (H8 c lb t) p (qcu m.b) s/\m.b<s.p/\m.e=s.p/\m.lbs=TF (H8 c lb t) s
def qiI(c:Corpus)(lb:List B)(p:Pat)(i:Int)(l:List bY):Prop:=CL l/\∀m,m∈l↔m.b=i/\qiH c lb p m
def qs6(c:Corpus)(lb:List B)(p:Pat)(l:List bY):Prop:=CL l/\∀m,m∈l↔qiH c lb p m
def qrt{a b:bY}(h:a.b<b.b):Za a b:=by
 unfold Za I1 lC;rcases kR a.b b.b with⟨_,e⟩|⟨h2,_⟩|⟨h2,_⟩
 ·rw[e];simp
 ·omega
 ·omega
def qd0(c:Corpus)(lb:List B)(p:Pat)(k:Int)(l:List bY):Prop:=CL l/\∀m,m∈l↔m.b<k/\qiH c lb p m
def qdl(c:Corpus)(lb:List B)(p:Pat):qd0 c lb p 0 []:=⟨List.Pairwise.nil,λm=>⟨λh=>(by cases h),λh=>(by have:=h.2.1;omega)⟩⟩
def qdm{c:Corpus}{lb:List B}{p:Pat}{k:Int}{l l':List bY}(h:qd0 c lb p k l)(d:qiI c lb p k l'):qd0 c lb p (k+1) (l++l'):=by
 refine⟨qDc.2 ⟨h.1,d.1,λa j b hb=>qrt ?_⟩,λm=>?_⟩
 ·have:=((h.2 a).1 j).1;have:=((d.2 b).1 hb).1;omega
 ·rw[qCk,h.2,d.2];constructor
  ·rintro(⟨h1,h2⟩|⟨h1,h2⟩)
   ·exact⟨by omega,h2⟩
   ·exact⟨by omega,h2⟩
  ·rintro⟨h1,h2⟩;by_cases e:m.b=k
   ·exact .inr ⟨e,h2⟩
   ·exact .inl ⟨by omega,h2⟩
def qgr{c:Corpus}{lb:List B}{p:Pat}{l:List bY}(h:qd0 c lb p c.toks.length l):qs6 c lb p l:=⟨h.1,λm=>(h.2 m).trans ⟨λh=>h.2,λh=>⟨h.2.1,h⟩⟩⟩
def qbO(r:Rn)(s:St3):(TF r s).length=r.lb.length:=by simp[TF]
def VX:∀(n:Nat) (l:List Nat),l.Nodup->(∀x∈l,x<n)->l.length<=n
 | 0, [],_,_=>qCj _
 | 0,x::l,_,h=>absurd (h x (by simp)) (Nat.not_lt_zero _)
 | n+1,l,hn,h=>by
   have b:=VX n (l.erase n) (hn.erase n) λx a=>by
    have h1:=(List.Nodup.mem_erase_iff hn).1 a;have:=h x h1.2;omega
   have h2:l.length<=(l.erase n).length+1:=by
    rw[List.length_erase];split<;>omega
   omega
def Qg{α:Type}{l:List α}{f:α->Nat}{n:Nat}(h1:l.Nodup)(h2:∀x∈l,f x<n)(h3:∀x∈l,∀y∈l,f x=f y->x=y):l.length<=n:=by
 have hn:∀{l:List α},l.Nodup->(∀x∈l,∀y∈l,f x=f y->x=y)->(l.map f).Nodup:=λ{l} h1 h3=>by
  induction l with
  |nil=>exact qDS
  | cons a l d=>
    rw[qCW,qEv];have h4:=qEv.1 h1;refine⟨λhm=>?_,d h4.2 λx c y b=>h3 x (by simp[c]) y (by simp[b])⟩;obtain⟨y,b,e⟩:=qCo.1 hm;have:=h3 y (by simp[b]) a (by simp) e;subst this;exact h4.1 b
 have:=VX n (l.map f) (hn h1 h3) λx c=>by
  obtain⟨y,b,rfl⟩:=qCo.1 c;exact h2 y b
 simpa using this
def qcZ(m:Nat)(s:St3):Nat:=((s.p.toNat*m+s.b0.toNat) *m+s.b1.toNat) *m+s.b2.toNat
def rJ:CC:=gq Tryz.f22 [4,3,3057036,1060060] { bx:=[41],cu:=[6],ke:=[36,990] } _
def rz:List ak:=[.tmp 6]
def Pd:FO zP [4,3,3057036,1060060] rJ rz 64:=fo
def ra:CC:=gq Tryz.f63 [2,3] {} _
def qr:List ak:=[.tmp 4]
def Ik:FO mO [2,3] ra qr 22:=fo
def qZ:CC:=gq Tryz.f7 [2,3] {} _
def qq:List ak:=[.tmp 4, .tmp 5]
def Ij:FO sM [2,3] qZ qq 33:=fo
def jx:CC:=gq Tryz.f124 [] {} _
def jl:List ak:=[.tmp 4]
def AH:FO kI [] jx jl 36:=fo
variable {S S0:Nat->Spc}
def Tw(a b:Int)(x y:List Int):lC (a::x) (b::y)=if tQ a b≠0 then tQ a b else lC x y:=rfl
abbrev qfn:Spc:=aJ (a2 (List Int) (List Int)) (λ_=>True) (enc (X:=Int)) λx y=>y=lC x.1 x.2
theorem qmU(h1:S dD=jM):aq jx jl S (a2 (List Int) (List Int)) (λ_=>True) (enc (X:=Int)) λx y=>y=lC x.1 x.2:=by
 rintro⟨l,m⟩ -;simp[jx,jl,-fB',-eB'];intro hl;refine ah (X:=Unit) [0,1,9] [] l.length (λk _=>lC l m=lC (l.drop k) (m.drop k)/\k<=m.length) (λ_=>[]) (λ_=>[]) () (by simp) ?_ ?_
 ·intro k _ hk ⟨a,q⟩;obtain⟨x,s⟩:∃x,l[k]? =some x:=⟨_,qCe hk⟩
  obtain⟨_,c⟩:=qCd.1 s;have j:l.drop k=x::l.drop (k+1):=by rw[<-c];exact qCO hk
  by_cases hm:k<m.length
  ·obtain⟨y,u⟩:∃y,m[k]? =some y:=⟨_,qCe hm⟩
   obtain⟨_,p⟩:=qCd.1 u;have t:m.drop k=y::m.drop (k+1):=by rw[<-p];exact qCO hm
   rw[j,t,Tw]at a;have d:¬(m.length:Int)<=k:=by omega
   have b:¬m.length<=k:=by omega
   simp[hk,s,c,u,p,hm,d,b,h1,-fB',-eB'];refineλw=>⟨λh=>?_,λh=>?_⟩
   ·rw[if_pos h]at a;exact a.symm
   ·rw[if_neg (by simp[h])]at a;exact⟨a,by omega⟩
  ·have d:(m.length:Int)<=k:=by omega
   have b:m.length<=k:=by omega
   have e:m.drop k=[]:=qDl b;rw[j,e]at a;simp[hk,s,c,d,b,-fB',-eB'];intro _;rw[a];rfl
 ·intro _ ⟨a,q⟩;rw[qC2]at a;simp[-fB',-eB'];intro _ _;constructor
  ·intro h;cases j:m.drop l.length with
   |nil=>have:=congrArg List.length j;simp at this;omega
   |cons y r=>rw[j]at a;rw[a];rfl
  ·intro h;have e:m.drop l.length=[]:=qDl (by omega);rw[e]at a;rw[a];rfl
abbrev s_cmpM:Spc:=aJ (a2 bY bY) (λ_=>True) (enc (X:=Int)) λx y=>y=I1 x.1 x.2
def qmT(h1:S dD=jM)(h2:S kI=qfn)(h3:S pv=yL):aq ra qr S (a2 bY bY) (λ_=>True) (enc (X:=Int)) λx y=>y=I1 x.1 x.2:=by
 rintro⟨a,b⟩ -;simp[ra,qr,h1,h2,h3,-fB',-eB'];rw[I1,Tw,Tw];generalize lC a.lbs b.lbs=z;by_cases c:tQ a.b b.b=0
 ·by_cases d:tQ a.e b.e=0
  ·by_cases h:z=0
   ·simp[c,d,h]
   ·simp[c,d,List.find?,h]
  ·simp[c,List.find?,d]
 ·simp[List.find?,c]
def qqD(c:Corpus)(i:Int):Int:=ij c.texts λt=>decide (t.b<=i) && decide (i<t.e)
abbrev P0:Spc:=aJ (a2 Corpus Int) (λ_=>True) (enc (X:=Int)) λx y=>y=qqD x.1 x.2
theorem qck:aq rh qw S (a2 Corpus Int) (λ_=>True) (enc (X:=Int)) λx y=>y=qqD x.1 x.2:=by
 rintro⟨c,i⟩ -;simp[rh,qw,-fB',-eB'];intro hl;refine ah (X:=Unit) [1,8] [] c.texts.length (λk _=>∀t∈c.texts.take k,(decide (t.b<=i) && decide (i<t.e))=false) (λ_=>[]) (λ_=>[]) () (by simp) ?_ ?_
 ·intro k _ hk p;obtain⟨x,d⟩:∃x,c.texts[k]? =some x:=⟨_,qCe hk⟩
  obtain⟨_,a⟩:=qCd.1 d;have j:(decide (x.b<=i) && decide (i<x.e))=false->∀t∈c.texts.take (k+1),(decide (t.b<=i) && decide (i<t.e))=false:=λh t ht=>by
   rw[aB d]at ht;rcases qCk.1 ht with ht|ht
   ·exact p t ht
   ·simp at ht;subst ht;exact h
  by_cases l:x.b<=i
  ·by_cases q:i<x.e
   ·simp[hk,d,a,l,q,-fB',-eB'];exact(vZ d (by simp[l,q]) p).symm
   ·simp[hk,d,a,l,q,-fB',-eB'];have:=j (by simp[q]);simpa using this
  ·simp[hk,d,a,l,-fB',-eB'];have:=j (by simp[l]);simpa using this
 ·intro _ p;simp[-fB',-eB'];exact(nE (by simpa using p)).symm
def qex{c:Corpus}{i:Int} :(qqD c i= -1/\Yt c i=none)\/ ∃k t,qqD c i=(k:Nat)/\c.texts[k]? =some t/\Yt c i=some t:=by
 unfold qqD Yt;generalize hp:(λt:ro=>decide (t.b<=i) && decide (i<t.e))=p;generalize c.texts=l;rcases EC p l with⟨h1,h2⟩|⟨k,x,h1,h2,h3,h4⟩
 ·refine .inl ⟨h1,qEl.2 λx a=>by simp[h2 x a]⟩
 ·refine .inr ⟨k,x,h1,h2,?_⟩;have e:l=l.take k++x::l.drop (k+1):=by
   obtain⟨hk,d⟩:=qCd.1 h2;rw[<-d,<-qCO hk,qCM]
  rw[e,List.find?_append,qEl.2 λx a=>by simp[h4 x a]];simp[h3]


end
section
open Cod (enc dec)
variable {dq:Prop}
section
variable {Y Z:Type}
variable {P:Program}{S:Nat->Spc}{f:Nat}{im:List Nat}{cc:CC}{rs:List ak}{N:Nat}
end
section
variable {Y Z:Type}
variable {P:Program}{S:Nat->Spc}{f:Nat}{im:List Nat}{cc:CC}{rs:List ak}{N:Nat}
end
end
end Go.Gv
