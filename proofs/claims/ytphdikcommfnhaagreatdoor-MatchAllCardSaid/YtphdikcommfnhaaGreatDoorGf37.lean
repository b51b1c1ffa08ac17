/- A part of the framework and of the walks: V19 V58 T37 T38. -/
import Derived.Test.YtphdikcommfnhaaGreatDoorGf36
import Derived.Test.YtphdikcommfnhaaGreatDoorGf19
set_option linter.unusedSimpArgs false
set_option linter.unusedVariables false
set_option linter.unusedSectionVars false
set_option maxRecDepth 100000

namespace Go.Gv
def II:B:=⟨#[119,111,114,100]⟩
def ZX:B:=⟨#[116,97,103]⟩
def IQ:B:=⟨#[102,101,97,116]⟩
def ValsT:List B:=[⟨#[97]⟩,⟨#[98]⟩,⟨#[97,46,42]⟩,⟨#[91,97,98,93]⟩]
def ValsI:List B:=[⟨#[97]⟩,⟨#[98]⟩,⟨#[97,46,42]⟩,⟨#[91,97,98,93]⟩,⟨#[88]⟩,⟨#[]⟩,⟨#[99,63]⟩,⟨#[97,124,98]⟩,⟨#[89]⟩,⟨#[97,124,88]⟩]
def Attr2:List B:=[II,ZX]
def FeatL:List B:=[⟨#[112]⟩,⟨#[113]⟩]
def NumL:List B:=[⟨#[49]⟩,⟨#[50]⟩]
def qos:B:=⟨#[110]⟩
inductive GA (lb:List B):Cond->Prop
 | val (n v:B) (f:Bool) (h1:n∈Attr2) (h2:v∈ValsI):GA lb ⟨2,n,E0,v,E0,f, []⟩
 | feat (v:B) (h:v∈FeatL):GA lb ⟨3,IQ,E0,v,E0,false, []⟩
 | same (n l a:B) (h1:n∈Attr2) (h2:l∈lb) (h3:a∈Attr2):GA lb ⟨4,n,a,E0,l,false, []⟩
 | reg (n:B) (h:n∈Types):GA lb ⟨5,n,E0,E0,E0,false, []⟩
 | regk (n v:B) (h1:n∈Types) (h2:v∈NumL):GA lb ⟨5,n,qos,v,E0,false, []⟩
inductive GI (lb:List B):Nat->Cond->Prop
 | atom (n:Nat) (c:Cond) (h:GA lb c):GI lb n c
 | not (n:Nat) (k:Cond) (h:GI lb n k):GI lb (n+1) ⟨6,E0,E0,E0,E0,false, [k]⟩
 | two (n:Nat) (op:Int) (a b:Cond) (ho:op=7\/op=8) (h1:GI lb n a) (h2:GI lb n b):GI lb (n+1) ⟨op,E0,E0,E0,E0,false, [a,b]⟩
inductive GC (lb:List B) (n:Nat):Cond->Prop
 | any:GC lb n ⟨1,E0,E0,E0,E0,false, []⟩
 | top (v:B) (f:Bool) (h:v∈ValsT):GC lb n ⟨2,E0,E0,v,E0,f, []⟩
 | inner (c:Cond) (h:GI lb n c):GC lb n c
theorem Eu{lb:List B}{c:Cond}(h:GA lb c):c.kids=[]:=by cases h <;> rfl
theorem Wo{lb:List B} :∀ {n:Nat} {c:Cond},GI lb n c->CS n c
 | _,_, .atom n c h=>UM (Eu h)
 | _,_, .not n k h=>qjS rfl rfl (Wo h)
 | _,_, .two n op a b _ h1 h2=>qjR rfl rfl (Wo h1) (Wo h2)
theorem qmT{lb:List B}{n:Nat}{c:Cond}(h:GC lb n c):CS n c:=by
 cases h with
 | any=>exact UM rfl
 | top v f h=>exact UM rfl
 | inner c h=>exact Wo h
def qjn(l:List B)(x:B):Bool:=l.any fun z=>decide (z=x)
theorem RA(l:List B)(x:B):qjn l x=true↔x∈l:=by
 unfold qjn
 rw[qx3]
 exact⟨fun⟨z,h1,h2⟩=>by rw[decide_eq_true_eq]at h2;rwa [<-h2],fun h=>⟨x,h,decide_eq_true rfl⟩⟩
instance decMem (l:List B) (x:B):Decidable (x∈l):=if h:qjn l x=true then .isTrue ((RA l x).1 h)else .isFalse fun hx=>h ((RA l x).2 hx)
mutual
def wi(lb:List B):Cond->Cond
 | .mk op n a v l f ks=>if op=4 then(if l∈lb then .mk op n a v l f ks else⟨2,n,E0,⟨#[97,124,88]⟩,E0,false, []⟩)else .mk op n a v l f (QT lb ks)
def QT(lb:List B):List Cond->List Cond
 | []=>[]
 | k::ks=>wi lb k::QT lb ks
end
theorem MB(lb:List B):∀l:List Cond,QT lb l=l.map (wi lb)
 | []=>by rw[QT];rfl
 | k::l=>by rw[QT,MB lb l];rfl
theorem jS(lb:List B)(c:Cond):wi lb c=if c.op=4 then(if c.lab∈lb then c else⟨2,c.name,E0,⟨#[97,124,88]⟩,E0,false, []⟩)else⟨c.op,c.name,c.arg,c.val,c.lab,c.fold,c.kids.map (wi lb)⟩:=by
 cases c;rw[wi,MB]
theorem T0(lb:List B):wi lb Cond0=Cond0:=by
 rw[jS,if_neg (show ¬Cond0.op=4 from by decide)]
 rfl
mutual
def ln(lb:List B):Pat->Pat
 | .mk op c l r mn mx ks=>⟨op,wi lb c,l,r,mn,mx,KP lb ks⟩
def KP(lb:List B):List Pat->List Pat
 | []=>[]
 | k::ks=>ln lb k::KP lb ks
end
theorem KO(lb:List B):∀l:List Pat,KP lb l=l.map (ln lb)
 | []=>by rw[KP];rfl
 | k::l=>by rw[KP,KO lb l];rfl
theorem qP(lb:List B)(p:Pat):ln lb p=⟨p.op,wi lb p.cond,p.lab,p.reg,p.mn,p.mx,p.kids.map (ln lb)⟩:=by
 cases p;rw[ln,KO]
def BC(out:List B)(x:B):List B:=if x∈out then out else out++ [x]
mutual
def ip:Pat->List B->List B
 | .mk op c l r mn mx ks,out=>if op=1/\l≠E0 then BC out l else SE ks out
def SE:List Pat->List B->List B
 | [],out=>out
 | k::ks,out=>SE ks (ip k out)
end
theorem KN:∀ (l:List Pat) (out:List B),SE l out=l.foldl (fun o k=>ip k o) out
 | [],out=>by rw[SE];rfl
 | k::l,out=>by rw[SE,KN l];rfl
theorem ox(p:Pat)(out:List B):ip p out=if p.op=1/\p.lab≠E0 then BC out p.lab else p.kids.foldl (fun o k=>ip k o) out:=by
 cases p;rw[ip,KN]
theorem OS{lb lb':List B} :∀ {n:Nat} {c:Cond},GI lb n c->GI lb' n (wi lb' c)
 | _,_, .atom n c h=>by
   cases h with
   | val nm v f h1 h2=>rw[jS,if_neg (by decide:¬ (2:Int)=4)];exact .atom _ _ (.val nm v f h1 h2)
   | feat v h=>rw[jS,if_neg (by decide:¬ (3:Int)=4)];exact .atom _ _ (.feat v h)
   | same nm l a h1 h2 h3=>
     rw[jS,if_pos rfl]
     split
     ·rename_i hl;exact .atom _ _ (.same nm l a h1 hl h3)
     ·exact .atom _ _ (.val nm _ false h1 (by simp[ValsI]))
   | reg nm h=>rw[jS,if_neg (by decide:¬ (5:Int)=4)];exact .atom _ _ (.reg nm h)
   | regk nm v h1 h2=>rw[jS,if_neg (by decide:¬ (5:Int)=4)];exact .atom _ _ (.regk nm v h1 h2)
 | _,_, .not n k h=>by
   rw[jS,if_neg (by decide:¬ (6:Int)=4)]
   exact .not n _ (OS h)
 | _,_, .two n op a b ho h1 h2=>by
   rw[jS,if_neg (show ¬op=4 by omega)]
   exact .two n op _ _ ho (OS h1) (OS h2)
theorem qjp{lb lb':List B}{n:Nat}{c:Cond}(h:GC lb n c):GC lb' n (wi lb' c):=by
 cases h with
 | any=>rw[jS,if_neg (by decide:¬ (1:Int)=4)];exact .any
 | top v f h=>rw[jS,if_neg (by decide:¬ (2:Int)=4)];exact .top v f h
 | inner c h=>exact .inner _ (OS h)
theorem Zw{lb lb':List B}{p:Pat}(h:qlm lb p):qlm lb (ln lb' p):=by
 rw[qP]
 rcases h with⟨h1,h2,h3,h4,h5,h6⟩|⟨h1,h2,h3,h4,h5,h6,h7⟩
 ·exact .inl ⟨h1,h2,h3,h4,h5,by show p.kids.map _=[];rw[h6];rfl⟩
 ·exact .inr ⟨h1,by show wi lb' p.cond=_;rw[h2,T0],h3,h4,h5,h6,by show p.kids.map _=[];rw[h7];rfl⟩
theorem qd2{lb lb':List B} :∀n p,WP lb n p->WP lb n (ln lb' p):=by
 refine If fun n p hp ih=>?_
 rcases zd hp with hp|⟨m,rfl,(⟨h1,h2,h3,h4,h5,h6,a,b,h7,ha,hb⟩|⟨h1,h2,h3,h4,h5,a,h7,ha⟩)⟩
 ·exact qrl (Zw hp)
 ·obtain⟨m1,e1,_,a1⟩:=ih a (by rw[h7];simp)
  obtain⟨m2,e2,_,a2⟩:=ih b (by rw[h7];simp)
  have e1:m1=m:=by omega
  have e2:m2=m:=by omega
  subst e1;subst e2
  rw[qP]
  exact .inr (.inl ⟨h1,by show wi lb' p.cond=_;rw[h2,T0],h3,h4,h5,h6,_,_,by show p.kids.map _=_;rw[h7];rfl,a1,a2⟩)
 ·obtain⟨m1,e1,_,a1⟩:=ih a (by rw[h7];simp)
  have e1:m1=m:=by omega
  subst e1
  rw[qP]
  exact .inr (.inr ⟨h1,by show wi lb' p.cond=_;rw[h2,T0],h3,h4,h5,_,by show p.kids.map _=_;rw[h7];rfl,a1⟩)
theorem Rs(lb:List B)(p:Pat):aM (ln lb p)=(aM p).map (ln lb):=by
 induction p using iR with|_ p ih=>?_
 rw[cU,cU p,qP]
 simp only
 split
 ·rw[List.map_singleton,qP]
 ·rw[List.flatMap_map,List.map_flatMap]
  have:∀ks:List Pat,(∀k∈ks,aM (ln lb k)=(aM k).map (ln lb))->ks.flatMap (fun a=>aM (ln lb a))=ks.flatMap (fun a=>(aM a).map (ln lb)):=by
   intro ks
   induction ks with
   | nil=>intro _;rfl
   | cons k ks ihk=>
     intro h
     rw[qxt,qxt,h k (by simp),ihk fun z hz=>h z (by simp[hz])]
  exact this p.kids ih
theorem qc3(lb:List B)(p:Pat):∀out,ip (ln lb p) out=ip p out:=by
 induction p using iR with|_ p ih=>?_
 intro out
 rw[ox,ox p,qP]
 simp only
 split
 ·rfl
 ·have:∀ (ks:List Pat) (o:List B),(∀k∈ks,∀out,ip (ln lb k) out=ip k out)->(ks.map (ln lb)).foldl (fun o k=>ip k o) o=ks.foldl (fun o k=>ip k o) o:=by
   intro ks
   induction ks with
   | nil=>intro o _;rfl
   | cons k ks ihk=>
     intro o h
     rw[qxf,qxK,qxK,h k (by simp),ihk _ fun z hz=>h z (by simp[hz])]
  exact this p.kids out ih
theorem qdp{out:List B}{x y:B}(h:y∈BC out x):y∈out\/y=x:=by
 unfold BC at h
 split at h
 ·exact .inl h
 ·rcases qwU.1 h with h|h
  ·exact .inl h
  ·exact .inr (by simpa using h)
theorem qgo{lb:List B} :∀n p,WP lb n p->∀out,(∀y∈ip p out,y∈out\/y∈lb):=by
 refine If fun n p hp ih=>fun out y hy=>?_
 rw[ox]at hy
 split at hy
 ·rename_i h
  rcases qdp hy with h1|rfl
  ·exact .inl h1
  ·rcases zd hp with(⟨h1,h2,_⟩|⟨h1,_⟩)|⟨m,rfl,(⟨h1,_⟩|⟨h1,_⟩)⟩
   ·exact .inr (h2.resolve_left h.2)
   ·omega
   ·omega
   ·omega
 ·have:∀ (ks:List Pat) (o:List B),(∀k∈ks,k∈p.kids)->y∈ks.foldl (fun o k=>ip k o) o->y∈o\/y∈lb:=by
   intro ks
   induction ks with
   | nil=>intro o _ h;exact .inl h
   | cons k ks ihk=>
     intro o hk h
     rw[qxK]at h
     rcases ihk _ (fun z hz=>hk z (by simp[hz])) h with h1|h1
     ·obtain⟨m,_,_,h2⟩:=ih k (hk k (by simp))
      exact h2 o y h1
     ·exact .inr h1
  exact this p.kids out (fun _ h=>h) hy
def Xj:List B:=[⟨#[97]⟩,⟨#[98,124,99]⟩,⟨#[46]⟩]
def SO:List B:=[⟨#[111,98,106]⟩,⟨#[100,101,116]⟩,⟨#[]⟩]
def Xh:List B:=[⟨#[83]⟩,⟨#[78,80]⟩,⟨#[86,80]⟩]
inductive GG (lb:List B):Nat->Glob->Prop
 | bound (n:Nat) (a:B) (h:a∈lb):GG lb n ⟨1,a,E0,E0,E0,E0,false,0,0, [], []⟩
 | val (n:Nat) (a v:B) (f:Bool) (h1:a∈lb) (h2:v∈Xj):GG lb n ⟨2,a,E0,II,E0,v,f,0,0, [], []⟩
 | same (n:Nat) (a b g:B) (h1:a∈lb) (h2:b∈lb) (h3:g∈Attr2):GG lb n ⟨3,a,b,II,g,E0,false,0,0, [], []⟩
 | dist (n:Nat) (a b:B) (mn mx:Int) (h1:a∈lb) (h2:b∈lb) (h3: -2<=mn) (h4:mn<=2) (h5:mn<=mx) (h6:mx<=mn+3):GG lb n ⟨4,a,b,E0,E0,E0,false,mn,mx, [], []⟩
 | reg (n:Nat) (a b t:B) (h1:a∈lb) (h2:b∈lb) (h3:t∈Types):GG lb n ⟨5,a,b,t,E0,E0,false,0,0, [], []⟩
 | head (n:Nat) (op:Int) (a b:B) (ho:op=6\/op=7) (h1:a∈lb) (h2:b∈lb):GG lb n ⟨op,a,b,E0,E0,E0,false,0,0, [], []⟩
 | path (n:Nat) (a b:B) (l:List B) (h1:a∈lb) (h2:b∈lb) (h3:l.length<=2) (h4:∀x∈l,x∈SO):GG lb n ⟨8,a,b,E0,E0,E0,false,0,0,l, []⟩
 | node (n:Nat) (a b t:B) (h1:a∈lb) (h2:b∈lb) (h3:t∈Xh):GG lb n ⟨9,a,b,t,E0,E0,false,0,0, [], []⟩
 | depth (n:Nat) (a:B) (mn mx:Int) (h1:a∈lb) (h3:0<=mn) (h4:mn<=2) (h5:mn<=mx) (h6:mx<=mn+1):GG lb n ⟨10,a,E0,E0,E0,E0,false,mn,mx, [], []⟩
 | not (n:Nat) (k:Glob) (h:GG lb n k):GG lb (n+1) ⟨11,E0,E0,E0,E0,E0,false,0,0, [], [k]⟩
 | two (n:Nat) (op:Int) (a b:Glob) (ho:op=12\/op=13) (h1:GG lb n a) (h2:GG lb n b):GG lb (n+1) ⟨op,E0,E0,E0,E0,E0,false,0,0, [], [a,b]⟩
def GF(f:sk):Prop:=(f.op=1\/f.op=2\/f.op=3)/\f.reg∈Types
structure GQ (n:Nat) (q:Qry):Prop where
 lab:∃lb,qdP lb/\WP lb n q.pat
 cond:∀y∈aM q.pat,GC (ip q.pat []) 1 y.cond
 glob:q.glob=GlobE\/GG (ip q.pat []) 2 q.glob
 filts:q.filts.length<=1/\∀f∈q.filts,GF f
 strat:0<=q.strat/\q.strat < 4
end Go.Gv

namespace Go.Gv
open Go.Proofs
theorem qd3:∀w∈SL,w∈wordsA:=by decide
theorem qie:∀w∈qdu,w∈wordsA:=by decide
theorem qfN:∀w∈Nm,w∈wordsA:=by decide
theorem qeu:∀w∈ValsI,w∈valsA:=by decide
theorem qcC:rO∈wordsA:=by decide
theorem qgN{toks:List (List B)}(h:∀r∈toks,EN r)(i k:Int):ue toks i k∈wordsA:=by
 unfold ue
 split
 ·exact qcC
 ·split
  ·rename_i r hr
   obtain⟨w,t,f,hw,ht,hf,rfl⟩:=h r (qwS hr)
   split
   ·rename_i s hs
    have hm:=qwS hs
    simp only[qwT,qxe,or_false]at hm
    rcases hm with rfl|rfl|rfl
    ·exact qd3 _ hw
    ·exact qie _ ht
    ·exact qfN _ hf
   ·exact qcC
  ·exact qcC
theorem Zi:kA ge IQ=2:=by decide
theorem ZJ{toks:List (List B)}(h:∀r∈toks,EN r){i:Int}(h0:0<=i)(h1:i < toks.length):∃f∈Nm,ue toks i 2=f:=by
 obtain⟨j,rfl⟩:∃j:Nat,i=(j:Int):=⟨i.toNat,by omega⟩
 obtain⟨r,hr⟩:∃r,toks[j]? =some r:=⟨toks[j]'(by omega),qwQ _⟩
 obtain⟨w,t,f,hw,ht,hf,rfl⟩:=h r (qwS hr)
 refine⟨f,hf,?_⟩
 unfold ue
 rw[if_neg (by omega),show((j:Int)).toNat=j from rfl,hr]
 rfl
structure qdR (E:PH):Prop where
 c:OkCorp E.c
 t0:0<=E.tok
 t1:E.tok < E.c.toks.length
 l:E.bd.length=E.lb.length
theorem qmQ{E:PH}(hE:qdR E){n:Nat}{x:Cond}(h:GA E.lb x):∃y,xH E (n+1) x=some y:=by
 cases h with
 | val nm v f h1 h2=>
   obtain⟨y,hy⟩:=JQ (qeu v h2) (qgN hE.c.2.2.2 E.tok (xJ E.c.attrs nm)) f
   refine⟨y,?_⟩
   unfold xH
   rw[if_neg (show ¬ (2:Int)=1 by decide),if_pos rfl]
   exact hy
 | feat v h=>
   obtain⟨f,hf,e⟩:=ZJ hE.c.2.2.2 hE.t0 hE.t1
   have hv:v=⟨#[112]⟩\/v=⟨#[113]⟩:=by simpa [FeatL]using h
   have hfs:(featS.any fun z=>decide (z=f))=true:=qx3.2 ⟨f,hf,decide_eq_true rfl⟩
   refine⟨featS.any (fun _=>false)||f.data.toList.any fun c=>decide (v.data.toList=[c]),?_⟩
   unfold xH
   rw[if_neg (show ¬ (3:Int)=1 by decide),if_neg (show ¬ (3:Int)=2 by decide),if_pos rfl]
   simp only[hE.c.1,Zi,e]
   unfold OP
   rw[if_pos ⟨hfs,hv⟩]
   simp
 | same nm l a h1 h2 h3=>
   obtain⟨k,hk⟩:∃k:Nat,gF E.lb (fun z=>decide (z=l))=(k:Int):=by
    rcases CK (fun z=>decide (z=l)) E.lb with⟨e,h⟩|⟨k,_,e,_⟩
    ·have:=h l h2;simp at this
    ·exact⟨k,e⟩
   have hr:=Ai (fun z=>decide (z=l)) E.lb
   obtain⟨o,ho⟩:∃o,E.bd[k]? =some o:=⟨E.bd[k]'(by have:=hE.l;omega),qwQ _⟩
   refine⟨decide (0<=o) && decide (ue E.c.toks E.tok (kA E.c.attrs nm)=ue E.c.toks o (kA E.c.attrs a)),?_⟩
   unfold xH
   rw[if_neg (show ¬ (4:Int)=1 by decide),if_neg (show ¬ (4:Int)=2 by decide),if_neg (show ¬ (4:Int)=3 by decide),if_pos rfl]
   simp only[hk]
   rw[if_neg (by omega),show((k:Int)).toNat=k from rfl,ho]
 | reg nm h=>exact⟨_,by unfold xH;rw[if_neg (show ¬ (5:Int)=1 by decide),if_neg (show ¬ (5:Int)=2 by decide),if_neg (show ¬ (5:Int)=3 by decide),if_neg (show ¬ (5:Int)=4 by decide),if_pos rfl]⟩
 | regk nm v h1 h2=>exact⟨_,by unfold xH;rw[if_neg (show ¬ (5:Int)=1 by decide),if_neg (show ¬ (5:Int)=2 by decide),if_neg (show ¬ (5:Int)=3 by decide),if_neg (show ¬ (5:Int)=4 by decide),if_pos rfl]⟩
theorem qjl{E:PH}{n:Nat}{k:Cond}{y:Bool}(h:xH E n k=some y):xH E (n+1) ⟨6,E0,E0,E0,E0,false, [k]⟩=some (!y):=by
 unfold xH
 rw[if_neg (show ¬ (6:Int)=1 by decide),if_neg (show ¬ (6:Int)=2 by decide),if_neg (show ¬ (6:Int)=3 by decide),if_neg (show ¬ (6:Int)=4 by decide),if_neg (show ¬ (6:Int)=5 by decide),if_pos rfl]
 simp only[h]
 rfl
theorem qjm{E:PH}{n:Nat}{a b:Cond}{p q:Bool}(h1:xH E n a=some p)(h2:xH E n b=some q):xH E (n+1) ⟨7,E0,E0,E0,E0,false, [a,b]⟩=some (p && q):=by
 unfold xH
 rw[if_neg (show ¬ (7:Int)=1 by decide),if_neg (show ¬ (7:Int)=2 by decide),if_neg (show ¬ (7:Int)=3 by decide),if_neg (show ¬ (7:Int)=4 by decide),if_neg (show ¬ (7:Int)=5 by decide),if_neg (show ¬ (7:Int)=6 by decide),if_pos (by simp[h1,h2]),if_pos rfl]
 simp[h1,h2]
theorem qmO{E:PH}{n:Nat}{a b:Cond}{p q:Bool}(h1:xH E n a=some p)(h2:xH E n b=some q):xH E (n+1) ⟨8,E0,E0,E0,E0,false, [a,b]⟩=some (p||q):=by
 unfold xH
 rw[if_neg (show ¬ (8:Int)=1 by decide),if_neg (show ¬ (8:Int)=2 by decide),if_neg (show ¬ (8:Int)=3 by decide),if_neg (show ¬ (8:Int)=4 by decide),if_neg (show ¬ (8:Int)=5 by decide),if_neg (show ¬ (8:Int)=6 by decide),if_pos (by simp[h1,h2]),if_neg (show ¬ (8:Int)=7 by decide)]
 simp[h1,h2]
theorem Wj{E:PH}(hE:qdR E):∀ {n m:Nat} {x:Cond},GI E.lb n x->n < m->∃y,xH E m x=some y
 | _,m+1,_, .atom n c h,_=>qmQ hE h
 | _,m+1,_, .not n k h,hm=>by
   obtain⟨y,hy⟩:=Wj (m:=m) hE h (by omega)
   exact⟨_,qjl hy⟩
 | _,m+1,_, .two n op a b ho h1 h2,hm=>by
   obtain⟨p,hp⟩:=Wj (m:=m) hE h1 (by omega)
   obtain⟨q,hq⟩:=Wj (m:=m) hE h2 (by omega)
   rcases ho with rfl|rfl
   ·exact⟨_,qjm hp hq⟩
   ·exact⟨_,qmO hp hq⟩
theorem qmP{E:PH}(hE:qdR E){n m:Nat}{x:Cond}(h:GC E.lb n x)(hm:n < m):∃y,xH E m x=some y:=by
 obtain⟨m,rfl⟩:∃k,m=k+1:=⟨m -1,by omega⟩
 cases h with
 | any=>exact⟨true,by unfold xH;rw[if_pos rfl]⟩
 | top v f h=>
   have hv:v∈valsA:=(by decide:∀w∈ValsT,w∈valsA) v h
   obtain⟨y,hy⟩:=JQ hv (qgN hE.c.2.2.2 E.tok (xJ E.c.attrs E0)) f
   refine⟨y,?_⟩
   unfold xH
   rw[if_neg (show ¬ (2:Int)=1 by decide),if_pos rfl]
   exact hy
 | inner c h=>exact Wj hE h hm
def qlD:Bool:=Attr2.all fun nm=>ValsI.all fun v=>oP ge [] ⟨2,nm,E0,v,E0,false, []⟩ && oP ge [] ⟨2,nm,E0,v,E0,true, []⟩
theorem qh6:qlD=true:=by kernel_rfl
def qlJ:Bool:=ValsT.all fun v=>oP ge [] ⟨2,E0,E0,v,E0,false, []⟩ && oP ge [] ⟨2,E0,E0,v,E0,true, []⟩
theorem qib:qlJ=true:=by kernel_rfl
def qjs:Bool:=FeatL.all fun v=>oP ge [] ⟨3,IQ,E0,v,E0,false, []⟩
theorem qfZ:qjs=true:=by kernel_rfl
def ql7:Bool:=Types.all fun n=>oP ge [] ⟨5,n,E0,E0,E0,false, []⟩ && NumL.all fun v=>oP ge [] ⟨5,n,qos,v,E0,false, []⟩
theorem qaZ:ql7=true:=by kernel_rfl
def qsd:Bool:=Attr2.all fun n=>decide (0<=kA ge n)
theorem qhc:qsd=true:=by kernel_rfl
theorem Q7{lb:List B}{nm v:B}{f:Bool} :oP ge lb ⟨2,nm,E0,v,E0,f, []⟩=oP ge [] ⟨2,nm,E0,v,E0,f, []⟩:=rfl
theorem Yf{lb:List B}{v:B} :oP ge lb ⟨3,IQ,E0,v,E0,false, []⟩=oP ge [] ⟨3,IQ,E0,v,E0,false, []⟩:=rfl
theorem Q8{lb:List B}{n a v:B} :oP ge lb ⟨5,n,a,v,E0,false, []⟩=oP ge [] ⟨5,n,a,v,E0,false, []⟩:=rfl
theorem qe6{lb:List B}{x:Cond}(h:GA lb x):oP ge lb x=true:=by
 cases h with
 | val nm v f h1 h2=>
   rw[Q7]
   have h:=qwV.1 (qwV.1 qh6 nm h1) v h2
   simp only[qwX]at h
   cases f
   ·exact h.1
   ·exact h.2
 | feat v h=>
   rw[Yf]
   exact qwV.1 qfZ v h
 | same nm l a h1 h2 h3=>
   have e1:=qwV.1 qhc nm h1
   have e2:=qwV.1 qhc a h3
   have e3:(lb.any fun z=>decide (z=l))=true:=qx3.2 ⟨l,h2,decide_eq_true rfl⟩
   have s1:qio ⟨4,nm,a,E0,l,false, []⟩=true:=by
    unfold qio
    rw[if_neg (show ¬ (4:Int)=1 by decide),if_neg (show ¬ (4:Int)=2 by decide),if_neg (show ¬ (4:Int)=3 by decide),if_pos rfl]
    rfl
   have s2:qhd ge ⟨4,nm,a,E0,l,false, []⟩=true:=by
    unfold qhd
    rw[if_neg (show ¬ (4:Int)=2 by decide),if_neg (show ¬ (4:Int)=3 by decide),if_pos rfl]
    exact decide_eq_true ⟨of_decide_eq_true e1,of_decide_eq_true e2⟩
   have s3:qqC ge lb ⟨4,nm,a,E0,l,false, []⟩=true:=by
    unfold qqC
    rw[if_neg (show ¬ (4:Int)=2 by decide),if_neg (show ¬ (4:Int)=3 by decide),if_pos rfl]
    exact e3
   unfold oP
   rw[s1,s2,s3]
   rfl
 | reg nm h=>
   rw[Q8]
   have h:=qwV.1 qaZ nm h
   simp only[qwX]at h
   exact h.1
 | regk nm v h1 h2=>
   rw[Q8]
   have h:=qwV.1 qaZ nm h1
   simp only[qwX]at h
   exact qwV.1 h.2 v h2
theorem Cz{a:List Attr}{lb:List B}{m:Nat}{x:Cond}(h:oP a lb x=true)(hk:x.kids=[]):rR a lb (m+1) x=true:=by
 show(oP a lb x && x.kids.all (rR a lb m))=true
 rw[h,hk];rfl
theorem Yh{lb:List B}{m:Nat}{k:Cond}(h:rR ge lb m k=true):rR ge lb (m+1) ⟨6,E0,E0,E0,E0,false, [k]⟩=true:=by
 have e:oP ge lb ⟨6,E0,E0,E0,E0,false, [k]⟩=true:=rfl
 show(oP ge lb ⟨6,E0,E0,E0,E0,false, [k]⟩ && [k].all (rR ge lb m))=true
 rw[e]
 simp[h]
theorem Yg{lb:List B}{m:Nat}{op:Int}{a b:Cond}(ho:op=7\/op=8)(h1:rR ge lb m a=true)(h2:rR ge lb m b=true):rR ge lb (m+1) ⟨op,E0,E0,E0,E0,false, [a,b]⟩=true:=by
 have e:oP ge lb ⟨op,E0,E0,E0,E0,false, [a,b]⟩=true:=by rcases ho with rfl|rfl <;> rfl
 show(oP ge lb ⟨op,E0,E0,E0,E0,false, [a,b]⟩ && [a,b].all (rR ge lb m))=true
 rw[e]
 simp[h1,h2]
theorem Eh{lb:List B} :∀ {n m:Nat} {x:Cond},GI lb n x->n < m->rR ge lb m x=true
 | _,m+1,_, .atom n c h,_=>Cz (qe6 h) (Eu h)
 | _,m+1,_, .not n k h,hm=>Yh (Eh h (by omega))
 | _,m+1,_, .two n op a b ho h1 h2,hm=>Yg ho (Eh h1 (by omega)) (Eh h2 (by omega))
theorem qfd{k:Cond}{op:Int} :pw ⟨op,E0,E0,E0,E0,false, [k]⟩=pw k+1:=by rw[pw,gm,gm]
theorem qfc{a b:Cond}{op:Int} :pw ⟨op,E0,E0,E0,E0,false, [a,b]⟩=pw a+pw b+1:=by rw[pw,gm,gm,gm];omega
theorem qf7{k:Cond}{op:Int} :mi ⟨op,E0,E0,E0,E0,false, [k]⟩=mi k+1:=by rw[mi,kw,kw];omega
theorem qf6{a b:Cond}{op:Int} :mi ⟨op,E0,E0,E0,E0,false, [a,b]⟩=max (mi a) (mi b) +1:=by rw[mi,kw,kw,kw];omega
theorem JY{x:Cond}(h:x.kids=[]):pw x=1/\mi x=1:=by
 rw[H6,Pj,h]
 exact⟨rfl,rfl⟩
theorem OT{lb:List B} :∀ {n:Nat} {x:Cond},GI lb n x->pw x+1<=2^ (n+1)/\mi x<=n+1
 | _,_, .atom n c h=>by
   have:=JY (Eu h)
   have h2:2^1<=2^ (n+1):=Nat.pow_le_pow_right (by decide) (by omega)
   omega
 | _,_, .not n k h=>by
   have:=OT h
   rw[qfd,qf7,Nat.pow_succ]
   omega
 | _,_, .two n op a b ho h1 h2=>by
   have:=OT h1
   have:=OT h2
   rw[qfc,qf6,Nat.pow_succ]
   omega
theorem qjq{lb:List B}{n:Nat}{x:Cond}(h:GC lb n x):pw x+1<=2^ (n+1)/\mi x<=n+1:=by
 have h2:2^1<=2^ (n+1):=Nat.pow_le_pow_right (by decide) (by omega)
 cases h with
 | any=>have:=JY (x:=⟨1,E0,E0,E0,E0,false, []⟩) rfl;omega
 | top v f h=>have:=JY (x:=⟨2,E0,E0,v,E0,f, []⟩) rfl;omega
 | inner c h=>exact OT h
theorem qbh{lb:List B}{n m:Nat}{x:Cond}(h:GC lb n x)(hm:n < m):rR ge lb m x=true:=by
 obtain⟨m,rfl⟩:∃k,m=k+1:=⟨m -1,by omega⟩
 cases h with
 | any=>exact Cz rfl rfl
 | top v f h=>
   refine Cz ?_ rfl
   have h:=qwV.1 qib v h
   simp only[qwX]at h
   rw[Q7]
   cases f
   ·exact h.1
   ·exact h.2
 | inner c h=>exact Eh h hm
theorem qiU{a:List Attr}{lb:List B}{x:Cond}(h1:pw x<=60)(h2:mi x<=20)(h3:rR a lb 20 x=true):qg6 a lb x=true:=by
 unfold qg6
 rw[decide_eq_true ⟨h1,h2⟩,h3]
 rfl
theorem qiV{lb:List B}{n:Nat}{x:Cond}(h:GC lb n x)(hn:n<=4):qg6 ge lb x=true:=by
 obtain⟨h1,h2⟩:=qjq h
 have h3:2^ (n+1)<=2^5:=Nat.pow_le_pow_right (by decide) (by omega)
 exact qiU (by omega) (by omega) (qbh h (by omega))
end Go.Gv

namespace Go.Gv
open Cod (enc dec)
section
variable {S:Nat->Spc}{σ:Sg}{H Hr:ab}{K:D->ab->Prop}
def qi1(dst:Option Nat)(H:ab)(K:D->ab->Prop):Prop:=match dst with
 | some t=>∀x,K (.own t x) (ah H t (some (.mrow x [])))
 | none=>False
@[simp] theorem qsr(t:Nat)(H:ab)(K:D->ab->Prop):qi1 (some t) H K=∀x,K (.own t x) (ah H t (some (.mrow x []))):=id rfl
def Yt(id:Nat)(x:Value)(ka:Bool)(ks:List KK)(k v:D)(r:Option Res)(H:ab)(K:D->ab->Prop):Prop:=match r with
 | some (.mrow x' es)=>x'=x/\BD ka ks k v es fun es'=>K .undef (ah H id (some (.mrow x' es')))
 | _=>False
@[simp] theorem qsj(id:Nat)(x x':Value)(ka:Bool)(ks:List KK)(k v:D)(es:List D)(H:ab)(K:D->ab->Prop):Yt id x ka ks k v (some (.mrow x' es)) H K=(x'=x/\BD ka ks k v es fun es'=>K .undef (ah H id (some (.mrow x' es')))):=_root_.id rfl
def qbu(ka:Bool)(ks:List KK)(d k v:D)(H:ab)(K:D->ab->Prop):Prop:=match d with
 | .own id x=>Yt id x ka ks k v (H id) H K
 | _=>False
@[simp] theorem qsi(id:Nat)(x:Value)(ka:Bool)(ks:List KK)(k v:D)(H:ab)(K:D->ab->Prop):qbu ka ks (.own id x) k v H K=Yt id x ka ks k v (H id) H K:=_root_.id rfl
def qbv(dst:Option Nat)(d:D)(H:ab)(K:D->ab->Prop):Prop:=match dst with
 | some t=>(match d with
   | .mp es=>∀b,K (.bptr t b 0) (ah H t (some (.miter b [] es)))
   | .v (.map none)=>∀b,K (.bptr t b 0) (ah H t (some (.miter b [] [])))
   | _=>False)
 | none=>False
@[simp] theorem qso(t:Nat)(es:List D)(H:ab)(K:D->ab->Prop):qbv (some t) (.mp es) H K=∀b,K (.bptr t b 0) (ah H t (some (.miter b [] es))):=id rfl
def Yu(id b:Nat)(r:Option Res)(H:ab)(K:D->ab->Prop):Prop:=match r with
 | some (.miter b' cur left)=>b'=b/\(left=[]->K (.tup [.v (.bool false)]) H)/\∀l1 e l2,left=l1++e::l2->K (.tup [.v (.bool true), .any, .any]) (ah H id (some (.miter b' [e] (l1++l2))))
 | _=>False
@[simp] theorem qsq(id b b':Nat)(cur left:List D)(H:ab)(K:D->ab->Prop):Yu id b (some (.miter b' cur left)) H K=(b'=b/\(left=[]->K (.tup [.v (.bool false)]) H)/\∀l1 e l2,left=l1++e::l2->K (.tup [.v (.bool true), .any, .any]) (ah H id (some (.miter b' [e] (l1++l2))))):=_root_.id rfl
def qbx(d:D)(H:ab)(K:D->ab->Prop):Prop:=match d with
 | .bptr id b off=>off=0/\Yu id b (H id) H K
 | _=>False
@[simp] theorem qsp(i b off:Nat)(H:ab)(K:D->ab->Prop):qbx (.bptr i b off) H K=(off=0/\Yu i b (H i) H K):=id rfl
def Yw(b:Nat)(r:Option Res)(K:D->Prop):Prop:=match r with
 | some (.miter b' [e] _)=>b'=b/\K e
 | _=>False
@[simp] theorem qsA(b b':Nat)(e:D)(l:List D)(K:D->Prop):Yw b (some (.miter b' [e] l)) K=(b'=b/\K e):=id rfl
def qbC(d:D)(H:ab)(K:D->Prop):Prop:=match d with
 | .bptr id b off=>off=0/\Yw b (H id) K
 | _=>False
@[simp] theorem qsz(i b off:Nat)(H:ab)(K:D->Prop):qbC (.bptr i b off) H K=(off=0/\Yw b (H i) K):=id rfl
def qkP(x:Value)(r:Option Res)(K:List D->Prop):Prop:=match r with
 | some (.mrow x' es)=>x'=x/\K es
 | _=>False
@[simp] theorem qvm(x x':Value)(es:List D)(K:List D->Prop):qkP x (some (.mrow x' es)) K=(x'=x/\K es):=id rfl
def qfj(d:D)(H:ab)(K:List D->Prop):Prop:=match d with
 | .mp es=>K es
 | .v (.map none)=>K []
 | .own id x=>qkP x (H id) K
 | _=>False
@[simp] theorem qvl(es:List D)(H:ab)(K:List D->Prop):qfj (.mp es) H K=K es:=id rfl
@[simp] theorem qvk(i:Nat)(x:Value)(H:ab)(K:List D->Prop):qfj (.own i x) H K=qkP x (H i) K:=id rfl
theorem Uk(d:D)(H:ab)(K:List D->Prop):Ag d H K=qfj d H K:=by
 unfold Ag qfj qkP
 cases d <;> rfl
def qbB(len sz:Nat)(x i:D)(K:D->Prop):Prop:=match i with
 | .v (.int _ k)=>0<=k/\k < len/\Kg (k.toNat*sz) x K
 | _=>False
@[simp] theorem qsv(len sz:Nat)(x:D)(q:IntKind)(k:Int)(K:D->Prop):qbB len sz x (.v (.int q k)) K=(0<=k/\k < len/\Kg (k.toNat*sz) x K):=id rfl
@[simp] theorem qpY(o:Nat)(cs:List D)(p:Nat)(K:D->Prop):Kg o (.cptr cs p) K=K (.cptr cs (p+o)):=id rfl
@[simp] theorem qpZ(o i b p:Nat)(K:D->Prop):Kg o (.bptr i b p) K=K (.bptr i b (p+o)):=id rfl
@[congr] theorem qpa{id:Nat}{x:Value}{ka:Bool}{ks:List KK}{k v k' v':D}{r r':Option Res}{H:ab}{K:D->ab->Prop}(h1:k=k')(h2:v=v')(h3:r=r'):Yt id x ka ks k v r H K=Yt id x ka ks k' v' r' H K:=by subst h1;subst h2;subst h3;rfl
@[congr] theorem qo9{ka:Bool}{ks:List KK}{d d' k v k' v':D}{H:ab}{K:D->ab->Prop}(h0:d=d')(h1:k=k')(h2:v=v'):qbu ka ks d k v H K=qbu ka ks d' k' v' H K:=by subst h0;subst h1;subst h2;rfl
@[congr] theorem qlG{ka:Bool}{ks:List KK}{k v k' v':D}{es es':List D}{K:List D->Prop}(h1:k=k')(h2:v=v')(h3:es=es'):BD ka ks k v es K=BD ka ks k' v' es' K:=by subst h1;subst h2;subst h3;rfl
@[congr] theorem qkR{ok agg ka:Bool}{ks:List KK}{z:List Value}{k k':D}{es es':List D}{K:D->Prop}(h1:k=k')(h3:es=es'):xy ok agg ka ks z k es K=xy ok agg ka ks z k' es' K:=by subst h1;subst h3;rfl
@[congr] theorem qpb{t:Option Nat}{d d':D}{H:ab}{K:D->ab->Prop}(h:d=d'):qbv t d H K=qbv t d' H K:=by subst h;rfl
@[congr] theorem qpd{id b:Nat}{r r':Option Res}{H:ab}{K:D->ab->Prop}(h:r=r'):Yu id b r H K=Yu id b r' H K:=by subst h;rfl
@[congr] theorem qpc{d d':D}{H:ab}{K:D->ab->Prop}(h:d=d'):qbx d H K=qbx d' H K:=by subst h;rfl
@[congr] theorem qpj{b:Nat}{r r':Option Res}{K:D->Prop}(h:r=r'):Yw b r K=Yw b r' K:=by subst h;rfl
@[congr] theorem qpi{d d':D}{H:ab}{K:D->Prop}(h:d=d'):qbC d H K=qbC d' H K:=by subst h;rfl
@[congr] theorem qsh{x:Value}{r r':Option Res}{K:List D->Prop}(h:r=r'):qkP x r K=qkP x r' K:=by subst h;rfl
@[congr] theorem qsg{d d':D}{H:ab}{K:List D->Prop}(h:d=d'):qfj d H K=qfj d' H K:=by subst h;rfl
@[congr] theorem qph{len sz:Nat}{x x' i i':D}{K:D->Prop}(h:x=x')(h2:i=i'):qbB len sz x i K=qbB len sz x' i' K:=by subst h;subst h2;rfl
@[simp ↓] theorem qvO(dst:Option Nat):az S (.m .mk []) dst σ H K=qi1 dst H K:=by cases dst <;> rfl
@[simp ↓] theorem qu4(dst:Option Nat):ay S (.m .mk []) dst σ Hr H K=qi1 dst H K:=by cases dst <;> rfl
@[simp ↓] theorem qtS(dst:Option Nat)(ka:Bool)(ks:List KK)(x k v:Operand):az S (.m (.upd ka ks) [x,k,v]) dst σ H K=qbu ka ks (ev σ x) (ev σ k) (ev σ v) H K:=by
 show iS (.upd ka ks) [ev σ x,ev σ k,ev σ v] dst H K=_
 unfold qbu Yt
 cases ev σ x <;> rfl
@[simp ↓] theorem qtT(dst:Option Nat)(x:Operand):az S (.m .rng [x]) dst σ H K=qbv dst (ev σ x) H K:=by
 show iS .rng [ev σ x] dst H K=_
 unfold qbv
 cases dst <;> rfl
@[simp ↓] theorem qqK(dst:Option Nat)(x:Operand):az S (.m .next [x]) dst σ H K=qbx (ev σ x) H K:=by
 show iS .next [ev σ x] dst H K=_
 unfold qbx Yu
 cases ev σ x <;> rfl
@[simp ↓] theorem qnC(dst:Option Nat)(x:Operand):az S (.m .entry [x]) dst σ H K=qbC (ev σ x) H (fun d=>K d H):=by
 show iS .entry [ev σ x] dst H K=_
 unfold qbC Yw
 cases ev σ x <;> rfl
@[simp ↓] theorem qqL(dst:Option Nat)(ok agg ka:Bool)(ks:List KK)(z:List Value)(x k:Operand):az S (.m (.look ok agg ka ks z) [x,k]) dst σ H K=qfj (ev σ x) H fun es=>xy ok agg ka ks z (ev σ k) es fun d=>K d H:=by
 rw[<-Uk];rfl
@[simp ↓] theorem qoS(dst:Option Nat)(ok agg ka:Bool)(ks:List KK)(z:List Value)(x k:Operand):ay S (.m (.look ok agg ka ks z) [x,k]) dst σ Hr H K=qfj (ev σ x) Hr fun es=>xy ok agg ka ks z (ev σ k) es fun d=>K d H:=by
 rw[<-Uk];rfl
@[simp ↓] theorem qtU(dst:Option Nat)(x:Operand):az S (.m .len [x]) dst σ H K=qfj (ev σ x) H fun es=>K (.v (.int .i64 es.length)) H:=by
 rw[<-Uk];rfl
@[simp ↓] theorem qqM(dst:Option Nat)(len sz:Nat)(x i:Operand):az S (.m (.aidx len sz) [x,i]) dst σ H K=qbB len sz (ev σ x) (ev σ i) (fun d=>K d H):=by
 show uv (.aidx len sz) [ev σ x,ev σ i] H (fun d=>K d H)=_
 unfold qbB
 cases ev σ i <;> first|rfl|skip
 rename_i v
 cases v <;> rfl
end
end Go.Gv

namespace Go.Gv
open Cod (enc dec)
@[simp] theorem quB(a:D)(es:List D):PI a (.mp es)=(a= .mp es):=id rfl
theorem JP{a b:D}(ha:EP a=true)(hb:EP b=true)(h:K1 a b):a=b:=by
 obtain⟨tp,I,w,x,h1,h2⟩:=h
 have one:∀d:D,EP d=true->(∃cs,d= .agg cs)\/ ∃v,d= .v v:=fun d hd=>by
  cases d <;> first|exact .inl ⟨_,rfl⟩|exact .inr ⟨_,rfl⟩|(simp[EP,D.cells,qkV]at hd)
 rcases one a ha with⟨cs,rfl⟩|⟨v,rfl⟩ <;> rcases one b hb with⟨cs',rfl⟩|⟨v',rfl⟩
 ·obtain⟨xs,rfl,hl,hc⟩:=h1.inv_agg
  obtain⟨ys,he,hl2,hc2⟩:=h2.inv_agg
  have hxy:xs=ys:=by simpa using he
  subst hxy
  have hce:cs=cs':=by
   refine qyR (by omega) fun i h3 h4=>?_
   have hi:i < xs.length:=by omega
   have v1:qkV cs[i]=true:=qwV.1 ha _ (by simp[D.cells])
   have v2:qkV cs'[i]=true:=qwV.1 hb _ (by simp[D.cells])
   have r1:=(hc i _ _ (qwQ hi) (qwQ h3)).2
   have r2:=(hc2 i _ _ (qwQ hi) (qwQ h4)).2
   generalize cs[i]=p at*
   generalize cs'[i]=q at*
   cases p <;> first|(cases v1;done)|skip
   cases q <;> first|(cases v2;done)|skip
   rw[<-r1.inv_v,<-r2.inv_v]
  rw[hce]
 ·obtain⟨xs,rfl,_,_⟩:=h1.inv_agg
  have:=h2.inv_v
  cases h2 with
  | v _ h _=>simp[Value.oneCell']at h
 ·obtain⟨xs,rfl,_,_⟩:=h2.inv_agg
  cases h1 with
  | v _ h _=>simp[Value.oneCell']at h
 ·rw[<-h1.inv_v,<-h2.inv_v]
structure Zn (X:Type) [Cod X] (ka:Bool) (ks:List KK):Prop where
 fit:∀x:X,LW ka ks (enc x)=true
 pur:∀x:X,EP (enc x)=true
section
variable {X:Type}[Cod X][DecidableEq X]
def be(l:List X):List D:=l.map fun x=> .tup [enc x, .v (.bool true)]
def xG(x:X)(l:List X):List X:=if x∈l then l else l++ [x]
@[simp] theorem eq{x y:X}{l:List X} :y∈xG x l↔y=x\/y∈l:=by
 unfold xG
 split
 ·rename_i h
  exact⟨.inr,fun h2=>h2.elim (fun e=>e ▸h) id⟩
 ·simp[or_comm]
theorem xF{x:X}{l:List X}(h:l.Nodup):(xG x l).Nodup:=by
 unfold xG
 split
 ·exact h
 ·rename_i hx
  rw[qx7]
  exact⟨h,by simp,fun a ha b hb=>by simp at hb;subst hb;exact fun e=>hx (e ▸ha)⟩
theorem Ae{x:X}{v:D}{l:List X} :D.tup [enc x,v] ∈be l↔x∈l/\v= .v (.bool true):=by
 simp only[be,qw3,D.tup.injEq,qxg,and_true]
 exact⟨fun⟨y,h1,h2,h3⟩=>⟨aK h2 ▸h1,h3.symm⟩,fun⟨h1,h2⟩=>⟨x,h1,rfl,h2.symm⟩⟩
theorem Qv{d:D}{l:List X}(h:d∈be l):∃x∈l,d= .tup [enc x, .v (.bool true)]:=by
 obtain⟨x,h1,rfl⟩:=qw3.1 h
 exact⟨x,h1,rfl⟩
theorem gu:∀ {l:List X} {l1 l2:List D} {e:D},be l=l1++e::l2->∃a x b,l=a++x::b/\l1=be a/\e= .tup [enc x, .v (.bool true)]/\l2=be b
 | [],l1,l2,e,h=>by
   have:=congrArg List.length h
   simp[be]at this
 | y::l, [],l2,e,h=>by
   simp only[be,qxf,qxG,qxg]at h
   exact⟨[],y,l,rfl,rfl,h.1.symm,h.2.symm⟩
 | y::l,d::l1,l2,e,h=>by
   simp only[be,qxf,qxA,qxg]at h
   obtain⟨a,x,b,rfl,rfl,h3,h4⟩:=gu (l:=l) h.2
   exact⟨y::a,x,b,rfl,by simp[be,h.1],h3,h4⟩
theorem gX(a b:List X):be (a++b)=be a++be b:=by simp[be]
theorem Qw{ka:Bool}{ks:List KK}(hK:Zn X ka ks)(l:List X):(be l).all (RP ka ks)=true:=by
 rw[qwV]
 intro d hd
 obtain⟨x,_,rfl⟩:=Qv hd
 exact hK.fit x
theorem qey{ka:Bool}{ks:List KK}(hK:Zn X ka ks){x:X}{l:List X}{k:D}{K:List D->Prop}(hk:k=enc x)(h:K (be (xG x l))):BD ka ks k (.v (.bool true)) (be l) K:=by
 subst hk
 refine⟨Qw hK l,hK.fit x,fun l1 k' v' l2 e m=>?_,fun hn=>?_⟩
 ·obtain⟨a,y,b,rfl,rfl,h3,rfl⟩:=gu e
  simp only[D.tup.injEq,qxg,and_true]at h3
  obtain⟨rfl,rfl⟩:=h3
  have:=aK (JP (hK.pur x) (hK.pur y) m)
  subst this
  rw[<-e]
  have:xG x (a++x::b)=a++x::b:=by unfold xG;rw[if_pos (by simp)]
  rw[this]at h
  exact h
 ·have hx:x∉l:=fun hx=>hn (hK.pur x) _ (Ae.2 ⟨hx,rfl⟩)
  have:xG x l=l++ [x]:=by unfold xG;rw[if_neg hx]
  rw[this,gX]at h
  exact h
theorem qbI{ok:Bool}{ka:Bool}{ks:List KK}(hK:Zn X ka ks){x:X}{l:List X}{k:D}{K:D->Prop}(hk:k=enc x)(h:K (qhf ok (.v (.bool (decide (x∈l)))) (decide (x∈l)))):
 xy ok false ka ks [.bool false] k (be l) K:=by
 subst hk
 refine⟨Qw hK l,hK.fit x,fun k' v hm m=>?_,fun hn=>?_⟩
 ·obtain⟨y,hy,e⟩:=Qv hm
  simp only[D.tup.injEq,qxg,and_true]at e
  obtain⟨rfl,rfl⟩:=e
  have:=aK (JP (hK.pur x) (hK.pur y) m)
  subst this
  simpa [hy]using h
 ·have hx:x∉l:=fun hx=>hn (hK.pur x) _ (Ae.2 ⟨hx,rfl⟩)
  simpa [hx]using h
theorem Ri{ok:Bool}{ka:Bool}{ks:List KK}(hK:Zn X ka ks)(x:X)(hM:K1 (enc x) (enc x))(l:List X)(K:D->Prop):xy ok false ka ks [.bool false] (enc x) (be l) K=K (qhf ok (.v (.bool (decide (x∈l)))) (decide (x∈l))):=by
 refine propext ⟨fun⟨_,_,h1,h2⟩=>?_,qbI hK rfl⟩
 by_cases hx:x∈l
 ·have:=h1 (enc x) (.v (.bool true)) (Ae.2 ⟨hx,rfl⟩) hM
  simpa [hx]using this
 ·have:=h2 fun _ v hm=>hx (Ae.1 hm).1
  simpa [hx,PJ,vy]using this
end
@[simp] theorem qvo(v:D)(b:Bool):qhf false v b=v:=id rfl
end Go.Gv
