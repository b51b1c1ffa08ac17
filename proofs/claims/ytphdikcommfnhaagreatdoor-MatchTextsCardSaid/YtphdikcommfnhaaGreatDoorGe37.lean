/- A part of the framework and of the walks: V19 V58 T37 T38. -/
import Derived.Test.YtphdikcommfnhaaGreatDoorGe36
import Derived.Test.YtphdikcommfnhaaGreatDoorGe19
set_option linter.unusedSimpArgs false
set_option linter.unusedVariables false
set_option linter.unusedSectionVars false
set_option maxRecDepth 100000

namespace Go.Gv
def I1:B:=⟨#[119,111,114,100]⟩
def qaw:B:=⟨#[116,97,103]⟩
def Jc:B:=⟨#[102,101,97,116]⟩
def ValsT:List B:=[⟨#[97]⟩,⟨#[98]⟩,⟨#[97,46,42]⟩,⟨#[91,97,98,93]⟩]
def ValsI:List B:=[⟨#[97]⟩,⟨#[98]⟩,⟨#[97,46,42]⟩,⟨#[91,97,98,93]⟩,⟨#[88]⟩,⟨#[]⟩,⟨#[99,63]⟩,⟨#[97,124,98]⟩,⟨#[89]⟩,⟨#[97,124,88]⟩]
def Attr2:List B:=[I1,qaw]
def FeatL:List B:=[⟨#[112]⟩,⟨#[113]⟩]
def NumL:List B:=[⟨#[49]⟩,⟨#[50]⟩]
def qpa:B:=⟨#[110]⟩
inductive GA (lb:List B):Cond->Prop
 | val (n v:B) (f:Bool) (h1:n∈Attr2) (h2:v∈ValsI):GA lb ⟨2,n,E0,v,E0,f, []⟩
 | feat (v:B) (h:v∈FeatL):GA lb ⟨3,Jc,E0,v,E0,false, []⟩
 | same (n l a:B) (h1:n∈Attr2) (h2:l∈lb) (h3:a∈Attr2):GA lb ⟨4,n,a,E0,l,false, []⟩
 | reg (n:B) (h:n∈Types):GA lb ⟨5,n,E0,E0,E0,false, []⟩
 | regk (n v:B) (h1:n∈Types) (h2:v∈NumL):GA lb ⟨5,n,qpa,v,E0,false, []⟩
inductive GI (lb:List B):Nat->Cond->Prop
 | atom (n:Nat) (c:Cond) (h:GA lb c):GI lb n c
 | not (n:Nat) (k:Cond) (h:GI lb n k):GI lb (n+1) ⟨6,E0,E0,E0,E0,false, [k]⟩
 | two (n:Nat) (op:Int) (a b:Cond) (ho:op=7\/op=8) (h1:GI lb n a) (h2:GI lb n b):GI lb (n+1) ⟨op,E0,E0,E0,E0,false, [a,b]⟩
inductive GC (lb:List B) (n:Nat):Cond->Prop
 | any:GC lb n ⟨1,E0,E0,E0,E0,false, []⟩
 | top (v:B) (f:Bool) (h:v∈ValsT):GC lb n ⟨2,E0,E0,v,E0,f, []⟩
 | inner (c:Cond) (h:GI lb n c):GC lb n c
theorem EL{lb:List B}{c:Cond}(h:GA lb c):c.kids=[]:=by cases h <;> rfl
theorem WS{lb:List B} :∀ {n:Nat} {c:Cond},GI lb n c->CS n c
 | _,_, .atom n c h=>U4 (EL h)
 | _,_, .not n k h=>qkz rfl rfl (WS h)
 | _,_, .two n op a b _ h1 h2=>qky rfl rfl (WS h1) (WS h2)
theorem qnB{lb:List B}{n:Nat}{c:Cond}(h:GC lb n c):CS n c:=by
 cases h with
 | any=>exact U4 rfl
 | top v f h=>exact U4 rfl
 | inner c h=>exact WS h
def qj4(l:List B)(x:B):Bool:=l.any fun z=>decide (z=x)
theorem RS(l:List B)(x:B):qj4 l x=true↔x∈l:=by
 unfold qj4
 rw[qyN]
 exact⟨fun⟨z,h1,h2⟩=>by rw[decide_eq_true_eq]at h2;rwa [<-h2],fun h=>⟨x,h,decide_eq_true rfl⟩⟩
instance decMem (l:List B) (x:B):Decidable (x∈l):=if h:qj4 l x=true then .isTrue ((RS l x).1 h)else .isFalse fun hx=>h ((RS l x).2 hx)
mutual
def wF(lb:List B):Cond->Cond
 | .mk op n a v l f ks=>if op=4 then(if l∈lb then .mk op n a v l f ks else⟨2,n,E0,⟨#[97,124,88]⟩,E0,false, []⟩)else .mk op n a v l f (Rc lb ks)
def Rc(lb:List B):List Cond->List Cond
 | []=>[]
 | k::ks=>wF lb k::Rc lb ks
end
theorem MV(lb:List B):∀l:List Cond,Rc lb l=l.map (wF lb)
 | []=>by rw[Rc];rfl
 | k::l=>by rw[Rc,MV lb l];rfl
theorem jX(lb:List B)(c:Cond):wF lb c=if c.op=4 then(if c.lab∈lb then c else⟨2,c.name,E0,⟨#[97,124,88]⟩,E0,false, []⟩)else⟨c.op,c.name,c.arg,c.val,c.lab,c.fold,c.kids.map (wF lb)⟩:=by
 cases c;rw[wF,MV]
theorem Uq(lb:List B):wF lb Cond0=Cond0:=by
 rw[jX,if_neg (show ¬Cond0.op=4 from by decide)]
 rfl
mutual
def lE(lb:List B):Pat->Pat
 | .mk op c l r mn mx ks=>⟨op,wF lb c,l,r,mn,mx,K8 lb ks⟩
def K8(lb:List B):List Pat->List Pat
 | []=>[]
 | k::ks=>lE lb k::K8 lb ks
end
theorem K7(lb:List B):∀l:List Pat,K8 lb l=l.map (lE lb)
 | []=>by rw[K8];rfl
 | k::l=>by rw[K8,K7 lb l];rfl
theorem ra(lb:List B)(p:Pat):lE lb p=⟨p.op,wF lb p.cond,p.lab,p.reg,p.mn,p.mx,p.kids.map (lE lb)⟩:=by
 cases p;rw[lE,K7]
def BP(out:List B)(x:B):List B:=if x∈out then out else out++ [x]
mutual
def iw:Pat->List B->List B
 | .mk op c l r mn mx ks,out=>if op=1/\l≠E0 then BP out l else SX ks out
def SX:List Pat->List B->List B
 | [],out=>out
 | k::ks,out=>SX ks (iw k out)
end
theorem K6:∀ (l:List Pat) (out:List B),SX l out=l.foldl (fun o k=>iw k o) out
 | [],out=>by rw[SX];rfl
 | k::l,out=>by rw[SX,K6 l];rfl
theorem oR(p:Pat)(out:List B):iw p out=if p.op=1/\p.lab≠E0 then BP out p.lab else p.kids.foldl (fun o k=>iw k o) out:=by
 cases p;rw[iw,K6]
theorem Pc{lb lb':List B} :∀ {n:Nat} {c:Cond},GI lb n c->GI lb' n (wF lb' c)
 | _,_, .atom n c h=>by
   cases h with
   | val nm v f h1 h2=>rw[jX,if_neg (by decide:¬ (2:Int)=4)];exact .atom _ _ (.val nm v f h1 h2)
   | feat v h=>rw[jX,if_neg (by decide:¬ (3:Int)=4)];exact .atom _ _ (.feat v h)
   | same nm l a h1 h2 h3=>
     rw[jX,if_pos rfl]
     split
     ·rename_i hl;exact .atom _ _ (.same nm l a h1 hl h3)
     ·exact .atom _ _ (.val nm _ false h1 (by simp[ValsI]))
   | reg nm h=>rw[jX,if_neg (by decide:¬ (5:Int)=4)];exact .atom _ _ (.reg nm h)
   | regk nm v h1 h2=>rw[jX,if_neg (by decide:¬ (5:Int)=4)];exact .atom _ _ (.regk nm v h1 h2)
 | _,_, .not n k h=>by
   rw[jX,if_neg (by decide:¬ (6:Int)=4)]
   exact .not n _ (Pc h)
 | _,_, .two n op a b ho h1 h2=>by
   rw[jX,if_neg (show ¬op=4 by omega)]
   exact .two n op _ _ ho (Pc h1) (Pc h2)
theorem qj6{lb lb':List B}{n:Nat}{c:Cond}(h:GC lb n c):GC lb' n (wF lb' c):=by
 cases h with
 | any=>rw[jX,if_neg (by decide:¬ (1:Int)=4)];exact .any
 | top v f h=>rw[jX,if_neg (by decide:¬ (2:Int)=4)];exact .top v f h
 | inner c h=>exact .inner _ (Pc h)
theorem Z1{lb lb':List B}{p:Pat}(h:ql3 lb p):ql3 lb (lE lb' p):=by
 rw[ra]
 rcases h with⟨h1,h2,h3,h4,h5,h6⟩|⟨h1,h2,h3,h4,h5,h6,h7⟩
 ·exact .inl ⟨h1,h2,h3,h4,h5,by show p.kids.map _=[];rw[h6];rfl⟩
 ·exact .inr ⟨h1,by show wF lb' p.cond=_;rw[h2,Uq],h3,h4,h5,h6,by show p.kids.map _=[];rw[h7];rfl⟩
theorem qeH{lb lb':List B} :∀n p,WP lb n p->WP lb n (lE lb' p):=by
 refine Iw fun n p hp ih=>?_
 rcases zA hp with hp|⟨m,rfl,(⟨h1,h2,h3,h4,h5,h6,a,b,h7,ha,hb⟩|⟨h1,h2,h3,h4,h5,a,h7,ha⟩)⟩
 ·exact qr3 (Z1 hp)
 ·obtain⟨m1,e1,_,a1⟩:=ih a (by rw[h7];simp)
  obtain⟨m2,e2,_,a2⟩:=ih b (by rw[h7];simp)
  have e1:m1=m:=by omega
  have e2:m2=m:=by omega
  subst e1;subst e2
  rw[ra]
  exact .inr (.inl ⟨h1,by show wF lb' p.cond=_;rw[h2,Uq],h3,h4,h5,h6,_,_,by show p.kids.map _=_;rw[h7];rfl,a1,a2⟩)
 ·obtain⟨m1,e1,_,a1⟩:=ih a (by rw[h7];simp)
  have e1:m1=m:=by omega
  subst e1
  rw[ra]
  exact .inr (.inr ⟨h1,by show wF lb' p.cond=_;rw[h2,Uq],h3,h4,h5,_,by show p.kids.map _=_;rw[h7];rfl,a1⟩)
theorem RM(lb:List B)(p:Pat):aM (lE lb p)=(aM p).map (lE lb):=by
 induction p using fL with|_ p ih=>?_
 rw[cW,cW p,ra]
 simp only
 split
 ·rw[List.map_singleton,ra]
 ·rw[List.flatMap_map,List.map_flatMap]
  have:∀ks:List Pat,(∀k∈ks,aM (lE lb k)=(aM k).map (lE lb))->ks.flatMap (fun a=>aM (lE lb a))=ks.flatMap (fun a=>(aM a).map (lE lb)):=by
   intro ks
   induction ks with
   | nil=>intro _;rfl
   | cons k ks ihk=>
     intro h
     rw[qyd,qyd,h k (by simp),ihk fun z hz=>h z (by simp[hz])]
  exact this p.kids ih
theorem qdG(lb:List B)(p:Pat):∀out,iw (lE lb p) out=iw p out:=by
 induction p using fL with|_ p ih=>?_
 intro out
 rw[oR,oR p,ra]
 simp only
 split
 ·rfl
 ·have:∀ (ks:List Pat) (o:List B),(∀k∈ks,∀out,iw (lE lb k) out=iw k out)->(ks.map (lE lb)).foldl (fun o k=>iw k o) o=ks.foldl (fun o k=>iw k o) o:=by
   intro ks
   induction ks with
   | nil=>intro o _;rfl
   | cons k ks ihk=>
     intro o h
     rw[qxZ,qyu,qyu,h k (by simp),ihk _ fun z hz=>h z (by simp[hz])]
  exact this p.kids out ih
theorem qd2{out:List B}{x y:B}(h:y∈BP out x):y∈out\/y=x:=by
 unfold BP at h
 split at h
 ·exact .inl h
 ·rcases qxE.1 h with h|h
  ·exact .inl h
  ·exact .inr (by simpa using h)
theorem qg5{lb:List B} :∀n p,WP lb n p->∀out,(∀y∈iw p out,y∈out\/y∈lb):=by
 refine Iw fun n p hp ih=>fun out y hy=>?_
 rw[oR]at hy
 split at hy
 ·rename_i h
  rcases qd2 hy with h1|rfl
  ·exact .inl h1
  ·rcases zA hp with(⟨h1,h2,_⟩|⟨h1,_⟩)|⟨m,rfl,(⟨h1,_⟩|⟨h1,_⟩)⟩
   ·exact .inr (h2.resolve_left h.2)
   ·omega
   ·omega
   ·omega
 ·have:∀ (ks:List Pat) (o:List B),(∀k∈ks,k∈p.kids)->y∈ks.foldl (fun o k=>iw k o) o->y∈o\/y∈lb:=by
   intro ks
   induction ks with
   | nil=>intro o _ h;exact .inl h
   | cons k ks ihk=>
     intro o hk h
     rw[qyu]at h
     rcases ihk _ (fun z hz=>hk z (by simp[hz])) h with h1|h1
     ·obtain⟨m,_,_,h2⟩:=ih k (hk k (by simp))
      exact h2 o y h1
     ·exact .inr h1
  exact this p.kids out (fun _ h=>h) hy
def XK:List B:=[⟨#[97]⟩,⟨#[98,124,99]⟩,⟨#[46]⟩]
def Th:List B:=[⟨#[111,98,106]⟩,⟨#[100,101,116]⟩,⟨#[]⟩]
def XI:List B:=[⟨#[83]⟩,⟨#[78,80]⟩,⟨#[86,80]⟩]
inductive GG (lb:List B):Nat->Glob->Prop
 | bound (n:Nat) (a:B) (h:a∈lb):GG lb n ⟨1,a,E0,E0,E0,E0,false,0,0, [], []⟩
 | val (n:Nat) (a v:B) (f:Bool) (h1:a∈lb) (h2:v∈XK):GG lb n ⟨2,a,E0,I1,E0,v,f,0,0, [], []⟩
 | same (n:Nat) (a b g:B) (h1:a∈lb) (h2:b∈lb) (h3:g∈Attr2):GG lb n ⟨3,a,b,I1,g,E0,false,0,0, [], []⟩
 | dist (n:Nat) (a b:B) (mn mx:Int) (h1:a∈lb) (h2:b∈lb) (h3: -2<=mn) (h4:mn<=2) (h5:mn<=mx) (h6:mx<=mn+3):GG lb n ⟨4,a,b,E0,E0,E0,false,mn,mx, [], []⟩
 | reg (n:Nat) (a b t:B) (h1:a∈lb) (h2:b∈lb) (h3:t∈Types):GG lb n ⟨5,a,b,t,E0,E0,false,0,0, [], []⟩
 | head (n:Nat) (op:Int) (a b:B) (ho:op=6\/op=7) (h1:a∈lb) (h2:b∈lb):GG lb n ⟨op,a,b,E0,E0,E0,false,0,0, [], []⟩
 | path (n:Nat) (a b:B) (l:List B) (h1:a∈lb) (h2:b∈lb) (h3:l.length<=2) (h4:∀x∈l,x∈Th):GG lb n ⟨8,a,b,E0,E0,E0,false,0,0,l, []⟩
 | node (n:Nat) (a b t:B) (h1:a∈lb) (h2:b∈lb) (h3:t∈XI):GG lb n ⟨9,a,b,t,E0,E0,false,0,0, [], []⟩
 | depth (n:Nat) (a:B) (mn mx:Int) (h1:a∈lb) (h3:0<=mn) (h4:mn<=2) (h5:mn<=mx) (h6:mx<=mn+1):GG lb n ⟨10,a,E0,E0,E0,E0,false,mn,mx, [], []⟩
 | not (n:Nat) (k:Glob) (h:GG lb n k):GG lb (n+1) ⟨11,E0,E0,E0,E0,E0,false,0,0, [], [k]⟩
 | two (n:Nat) (op:Int) (a b:Glob) (ho:op=12\/op=13) (h1:GG lb n a) (h2:GG lb n b):GG lb (n+1) ⟨op,E0,E0,E0,E0,E0,false,0,0, [], [a,b]⟩
def GF(f:sD):Prop:=(f.op=1\/f.op=2\/f.op=3)/\f.reg∈Types
structure GQ (n:Nat) (q:Qry):Prop where
 lab:∃lb,qet lb/\WP lb n q.pat
 cond:∀y∈aM q.pat,GC (iw q.pat []) 1 y.cond
 glob:q.glob=GlobE\/GG (iw q.pat []) 2 q.glob
 filts:q.filts.length<=1/\∀f∈q.filts,GF f
 strat:0<=q.strat/\q.strat < 4
end Go.Gv

namespace Go.Gv
open Go.Proofs
theorem qeI:∀w∈Tf,w∈wordsA:=by decide
theorem qiV:∀w∈qd7,w∈wordsA:=by decide
theorem qgu:∀w∈NF,w∈wordsA:=by decide
theorem qfa:∀w∈ValsI,w∈valsA:=by decide
theorem qdd:se∈wordsA:=by decide
theorem qhu{toks:List (List B)}(h:∀r∈toks,E9 r)(i k:Int):uz toks i k∈wordsA:=by
 unfold uz
 split
 ·exact qdd
 ·split
  ·rename_i r hr
   obtain⟨w,t,f,hw,ht,hf,rfl⟩:=h r (qxC hr)
   split
   ·rename_i s hs
    have hm:=qxC hs
    simp only[qxD,qxY,or_false]at hm
    rcases hm with rfl|rfl|rfl
    ·exact qeI _ hw
    ·exact qiV _ ht
    ·exact qgu _ hf
   ·exact qdd
  ·exact qdd
theorem ZN:kG gj Jc=2:=by decide
theorem qai{toks:List (List B)}(h:∀r∈toks,E9 r){i:Int}(h0:0<=i)(h1:i < toks.length):∃f∈NF,uz toks i 2=f:=by
 obtain⟨j,rfl⟩:∃j:Nat,i=(j:Int):=⟨i.toNat,by omega⟩
 obtain⟨r,hr⟩:∃r,toks[j]? =some r:=⟨toks[j]'(by omega),qxA _⟩
 obtain⟨w,t,f,hw,ht,hf,rfl⟩:=h r (qxC hr)
 refine⟨f,hf,?_⟩
 unfold uz
 rw[if_neg (by omega),show((j:Int)).toNat=j from rfl,hr]
 rfl
structure qew (E:P0):Prop where
 c:OkCorp E.c
 t0:0<=E.tok
 t1:E.tok < E.c.toks.length
 l:E.bd.length=E.lb.length
theorem qny{E:P0}(hE:qew E){n:Nat}{x:Cond}(h:GA E.lb x):∃y,xX E (n+1) x=some y:=by
 cases h with
 | val nm v f h1 h2=>
   obtain⟨y,hy⟩:=Ka (qfa v h2) (qhu hE.c.2.2.2 E.tok (xZ E.c.attrs nm)) f
   refine⟨y,?_⟩
   unfold xX
   rw[if_neg (show ¬ (2:Int)=1 by decide),if_pos rfl]
   exact hy
 | feat v h=>
   obtain⟨f,hf,e⟩:=qai hE.c.2.2.2 hE.t0 hE.t1
   have hv:v=⟨#[112]⟩\/v=⟨#[113]⟩:=by simpa [FeatL]using h
   have hfs:(featS.any fun z=>decide (z=f))=true:=qyN.2 ⟨f,hf,decide_eq_true rfl⟩
   refine⟨featS.any (fun _=>false)||f.data.toList.any fun c=>decide (v.data.toList=[c]),?_⟩
   unfold xX
   rw[if_neg (show ¬ (3:Int)=1 by decide),if_neg (show ¬ (3:Int)=2 by decide),if_pos rfl]
   simp only[hE.c.1,ZN,e]
   unfold O9
   rw[if_pos ⟨hfs,hv⟩]
   simp
 | same nm l a h1 h2 h3=>
   obtain⟨k,hk⟩:∃k:Nat,fW E.lb (fun z=>decide (z=l))=(k:Int):=by
    rcases C1 (fun z=>decide (z=l)) E.lb with⟨e,h⟩|⟨k,_,e,_⟩
    ·have:=h l h2;simp at this
    ·exact⟨k,e⟩
   have hr:=Ay (fun z=>decide (z=l)) E.lb
   obtain⟨o,ho⟩:∃o,E.bd[k]? =some o:=⟨E.bd[k]'(by have:=hE.l;omega),qxA _⟩
   refine⟨decide (0<=o) && decide (uz E.c.toks E.tok (kG E.c.attrs nm)=uz E.c.toks o (kG E.c.attrs a)),?_⟩
   unfold xX
   rw[if_neg (show ¬ (4:Int)=1 by decide),if_neg (show ¬ (4:Int)=2 by decide),if_neg (show ¬ (4:Int)=3 by decide),if_pos rfl]
   simp only[hk]
   rw[if_neg (by omega),show((k:Int)).toNat=k from rfl,ho]
 | reg nm h=>exact⟨_,by unfold xX;rw[if_neg (show ¬ (5:Int)=1 by decide),if_neg (show ¬ (5:Int)=2 by decide),if_neg (show ¬ (5:Int)=3 by decide),if_neg (show ¬ (5:Int)=4 by decide),if_pos rfl]⟩
 | regk nm v h1 h2=>exact⟨_,by unfold xX;rw[if_neg (show ¬ (5:Int)=1 by decide),if_neg (show ¬ (5:Int)=2 by decide),if_neg (show ¬ (5:Int)=3 by decide),if_neg (show ¬ (5:Int)=4 by decide),if_pos rfl]⟩
theorem qj2{E:P0}{n:Nat}{k:Cond}{y:Bool}(h:xX E n k=some y):xX E (n+1) ⟨6,E0,E0,E0,E0,false, [k]⟩=some (!y):=by
 unfold xX
 rw[if_neg (show ¬ (6:Int)=1 by decide),if_neg (show ¬ (6:Int)=2 by decide),if_neg (show ¬ (6:Int)=3 by decide),if_neg (show ¬ (6:Int)=4 by decide),if_neg (show ¬ (6:Int)=5 by decide),if_pos rfl]
 simp only[h]
 rfl
theorem qj3{E:P0}{n:Nat}{a b:Cond}{p q:Bool}(h1:xX E n a=some p)(h2:xX E n b=some q):xX E (n+1) ⟨7,E0,E0,E0,E0,false, [a,b]⟩=some (p && q):=by
 unfold xX
 rw[if_neg (show ¬ (7:Int)=1 by decide),if_neg (show ¬ (7:Int)=2 by decide),if_neg (show ¬ (7:Int)=3 by decide),if_neg (show ¬ (7:Int)=4 by decide),if_neg (show ¬ (7:Int)=5 by decide),if_neg (show ¬ (7:Int)=6 by decide),if_pos (by simp[h1,h2]),if_pos rfl]
 simp[h1,h2]
theorem qnw{E:P0}{n:Nat}{a b:Cond}{p q:Bool}(h1:xX E n a=some p)(h2:xX E n b=some q):xX E (n+1) ⟨8,E0,E0,E0,E0,false, [a,b]⟩=some (p||q):=by
 unfold xX
 rw[if_neg (show ¬ (8:Int)=1 by decide),if_neg (show ¬ (8:Int)=2 by decide),if_neg (show ¬ (8:Int)=3 by decide),if_neg (show ¬ (8:Int)=4 by decide),if_neg (show ¬ (8:Int)=5 by decide),if_neg (show ¬ (8:Int)=6 by decide),if_pos (by simp[h1,h2]),if_neg (show ¬ (8:Int)=7 by decide)]
 simp[h1,h2]
theorem WN{E:P0}(hE:qew E):∀ {n m:Nat} {x:Cond},GI E.lb n x->n < m->∃y,xX E m x=some y
 | _,m+1,_, .atom n c h,_=>qny hE h
 | _,m+1,_, .not n k h,hm=>by
   obtain⟨y,hy⟩:=WN (m:=m) hE h (by omega)
   exact⟨_,qj2 hy⟩
 | _,m+1,_, .two n op a b ho h1 h2,hm=>by
   obtain⟨p,hp⟩:=WN (m:=m) hE h1 (by omega)
   obtain⟨q,hq⟩:=WN (m:=m) hE h2 (by omega)
   rcases ho with rfl|rfl
   ·exact⟨_,qj3 hp hq⟩
   ·exact⟨_,qnw hp hq⟩
theorem qnx{E:P0}(hE:qew E){n m:Nat}{x:Cond}(h:GC E.lb n x)(hm:n < m):∃y,xX E m x=some y:=by
 obtain⟨m,rfl⟩:∃k,m=k+1:=⟨m -1,by omega⟩
 cases h with
 | any=>exact⟨true,by unfold xX;rw[if_pos rfl]⟩
 | top v f h=>
   have hv:v∈valsA:=(by decide:∀w∈ValsT,w∈valsA) v h
   obtain⟨y,hy⟩:=Ka hv (qhu hE.c.2.2.2 E.tok (xZ E.c.attrs E0)) f
   refine⟨y,?_⟩
   unfold xX
   rw[if_neg (show ¬ (2:Int)=1 by decide),if_pos rfl]
   exact hy
 | inner c h=>exact WN hE h hm
def qml:Bool:=Attr2.all fun nm=>ValsI.all fun v=>pb gj [] ⟨2,nm,E0,v,E0,false, []⟩ && pb gj [] ⟨2,nm,E0,v,E0,true, []⟩
theorem qiN:qml=true:=by kernel_rfl
def qmr:Bool:=ValsT.all fun v=>pb gj [] ⟨2,E0,E0,v,E0,false, []⟩ && pb gj [] ⟨2,E0,E0,v,E0,true, []⟩
theorem qiS:qmr=true:=by kernel_rfl
def qj9:Bool:=FeatL.all fun v=>pb gj [] ⟨3,Jc,E0,v,E0,false, []⟩
theorem qgF:qj9=true:=by kernel_rfl
def qmQ:Bool:=Types.all fun n=>pb gj [] ⟨5,n,E0,E0,E0,false, []⟩ && NumL.all fun v=>pb gj [] ⟨5,n,qpa,v,E0,false, []⟩
theorem qby:qmQ=true:=by kernel_rfl
def qsV:Bool:=Attr2.all fun n=>decide (0<=kG gj n)
theorem qhT:qsV=true:=by kernel_rfl
theorem Rr{lb:List B}{nm v:B}{f:Bool} :pb gj lb ⟨2,nm,E0,v,E0,f, []⟩=pb gj [] ⟨2,nm,E0,v,E0,f, []⟩:=rfl
theorem YI{lb:List B}{v:B} :pb gj lb ⟨3,Jc,E0,v,E0,false, []⟩=pb gj [] ⟨3,Jc,E0,v,E0,false, []⟩:=rfl
theorem Rs{lb:List B}{n a v:B} :pb gj lb ⟨5,n,a,v,E0,false, []⟩=pb gj [] ⟨5,n,a,v,E0,false, []⟩:=rfl
theorem qfN{lb:List B}{x:Cond}(h:GA lb x):pb gj lb x=true:=by
 cases h with
 | val nm v f h1 h2=>
   rw[Rr]
   have h:=qxF.1 (qxF.1 qiN nm h1) v h2
   simp only[qxH]at h
   cases f
   ·exact h.1
   ·exact h.2
 | feat v h=>
   rw[YI]
   exact qxF.1 qgF v h
 | same nm l a h1 h2 h3=>
   have e1:=qxF.1 qhT nm h1
   have e2:=qxF.1 qhT a h3
   have e3:(lb.any fun z=>decide (z=l))=true:=qyN.2 ⟨l,h2,decide_eq_true rfl⟩
   have s1:qi5 ⟨4,nm,a,E0,l,false, []⟩=true:=by
    unfold qi5
    rw[if_neg (show ¬ (4:Int)=1 by decide),if_neg (show ¬ (4:Int)=2 by decide),if_neg (show ¬ (4:Int)=3 by decide),if_pos rfl]
    rfl
   have s2:qhU gj ⟨4,nm,a,E0,l,false, []⟩=true:=by
    unfold qhU
    rw[if_neg (show ¬ (4:Int)=2 by decide),if_neg (show ¬ (4:Int)=3 by decide),if_pos rfl]
    exact decide_eq_true ⟨of_decide_eq_true e1,of_decide_eq_true e2⟩
   have s3:qrk gj lb ⟨4,nm,a,E0,l,false, []⟩=true:=by
    unfold qrk
    rw[if_neg (show ¬ (4:Int)=2 by decide),if_neg (show ¬ (4:Int)=3 by decide),if_pos rfl]
    exact e3
   unfold pb
   rw[s1,s2,s3]
   rfl
 | reg nm h=>
   rw[Rs]
   have h:=qxF.1 qby nm h
   simp only[qxH]at h
   exact h.1
 | regk nm v h1 h2=>
   rw[Rs]
   have h:=qxF.1 qby nm h1
   simp only[qxH]at h
   exact qxF.1 h.2 v h2
theorem CQ{a:List Attr}{lb:List B}{m:Nat}{x:Cond}(h:pb a lb x=true)(hk:x.kids=[]):sk a lb (m+1) x=true:=by
 show(pb a lb x && x.kids.all (sk a lb m))=true
 rw[h,hk];rfl
theorem YK{lb:List B}{m:Nat}{k:Cond}(h:sk gj lb m k=true):sk gj lb (m+1) ⟨6,E0,E0,E0,E0,false, [k]⟩=true:=by
 have e:pb gj lb ⟨6,E0,E0,E0,E0,false, [k]⟩=true:=rfl
 show(pb gj lb ⟨6,E0,E0,E0,E0,false, [k]⟩ && [k].all (sk gj lb m))=true
 rw[e]
 simp[h]
theorem YJ{lb:List B}{m:Nat}{op:Int}{a b:Cond}(ho:op=7\/op=8)(h1:sk gj lb m a=true)(h2:sk gj lb m b=true):sk gj lb (m+1) ⟨op,E0,E0,E0,E0,false, [a,b]⟩=true:=by
 have e:pb gj lb ⟨op,E0,E0,E0,E0,false, [a,b]⟩=true:=by rcases ho with rfl|rfl <;> rfl
 show(pb gj lb ⟨op,E0,E0,E0,E0,false, [a,b]⟩ && [a,b].all (sk gj lb m))=true
 rw[e]
 simp[h1,h2]
theorem Ey{lb:List B} :∀ {n m:Nat} {x:Cond},GI lb n x->n < m->sk gj lb m x=true
 | _,m+1,_, .atom n c h,_=>CQ (qfN h) (EL h)
 | _,m+1,_, .not n k h,hm=>YK (Ey h (by omega))
 | _,m+1,_, .two n op a b ho h1 h2,hm=>YJ ho (Ey h1 (by omega)) (Ey h2 (by omega))
theorem qfU{k:Cond}{op:Int} :pF ⟨op,E0,E0,E0,E0,false, [k]⟩=pF k+1:=by rw[pF,gw,gw]
theorem qfT{a b:Cond}{op:Int} :pF ⟨op,E0,E0,E0,E0,false, [a,b]⟩=pF a+pF b+1:=by rw[pF,gw,gw,gw];omega
theorem qgN{k:Cond}{op:Int} :mC ⟨op,E0,E0,E0,E0,false, [k]⟩=mC k+1:=by rw[mC,kF,kF];omega
theorem qgM{a b:Cond}{op:Int} :mC ⟨op,E0,E0,E0,E0,false, [a,b]⟩=max (mC a) (mC b) +1:=by rw[mC,kF,kF,kF];omega
theorem Kk{x:Cond}(h:x.kids=[]):pF x=1/\mC x=1:=by
 rw[In,PB,h]
 exact⟨rfl,rfl⟩
theorem Pd{lb:List B} :∀ {n:Nat} {x:Cond},GI lb n x->pF x+1<=2^ (n+1)/\mC x<=n+1
 | _,_, .atom n c h=>by
   have:=Kk (EL h)
   have h2:2^1<=2^ (n+1):=Nat.pow_le_pow_right (by decide) (by omega)
   omega
 | _,_, .not n k h=>by
   have:=Pd h
   rw[qfU,qgN,Nat.pow_succ]
   omega
 | _,_, .two n op a b ho h1 h2=>by
   have:=Pd h1
   have:=Pd h2
   rw[qfT,qgM,Nat.pow_succ]
   omega
theorem qj7{lb:List B}{n:Nat}{x:Cond}(h:GC lb n x):pF x+1<=2^ (n+1)/\mC x<=n+1:=by
 have h2:2^1<=2^ (n+1):=Nat.pow_le_pow_right (by decide) (by omega)
 cases h with
 | any=>have:=Kk (x:=⟨1,E0,E0,E0,E0,false, []⟩) rfl;omega
 | top v f h=>have:=Kk (x:=⟨2,E0,E0,v,E0,f, []⟩) rfl;omega
 | inner c h=>exact Pd h
theorem qbQ{lb:List B}{n m:Nat}{x:Cond}(h:GC lb n x)(hm:n < m):sk gj lb m x=true:=by
 obtain⟨m,rfl⟩:∃k,m=k+1:=⟨m -1,by omega⟩
 cases h with
 | any=>exact CQ rfl rfl
 | top v f h=>
   refine CQ ?_ rfl
   have h:=qxF.1 qiS v h
   simp only[qxH]at h
   rw[Rr]
   cases f
   ·exact h.1
   ·exact h.2
 | inner c h=>exact Ey h hm
theorem qjA{a:List Attr}{lb:List B}{x:Cond}(h1:pF x<=60)(h2:mC x<=20)(h3:sk a lb 20 x=true):qhN a lb x=true:=by
 unfold qhN
 rw[decide_eq_true ⟨h1,h2⟩,h3]
 rfl
theorem qjB{lb:List B}{n:Nat}{x:Cond}(h:GC lb n x)(hn:n<=4):qhN gj lb x=true:=by
 obtain⟨h1,h2⟩:=qj7 h
 have h3:2^ (n+1)<=2^5:=Nat.pow_le_pow_right (by decide) (by omega)
 exact qjA (by omega) (by omega) (qbQ h (by omega))
end Go.Gv

namespace Go.Gv
open Cod (enc dec)
section
variable {S:Nat->Spc}{σ:Sg}{H Hr:ab}{K:D->ab->Prop}
def qjH(dst:Option Nat)(H:ab)(K:D->ab->Prop):Prop:=match dst with
 | some t=>∀x,K (.own t x) (ah H t (some (.mrow x [])))
 | none=>False
@[simp] theorem qs9(t:Nat)(H:ab)(K:D->ab->Prop):qjH (some t) H K=∀x,K (.own t x) (ah H t (some (.mrow x []))):=id rfl
def YW(id:Nat)(x:Value)(ka:Bool)(ks:List KK)(k v:D)(r:Option Res)(H:ab)(K:D->ab->Prop):Prop:=match r with
 | some (.mrow x' es)=>x'=x/\BQ ka ks k v es fun es'=>K .undef (ah H id (some (.mrow x' es')))
 | _=>False
@[simp] theorem qs1(id:Nat)(x x':Value)(ka:Bool)(ks:List KK)(k v:D)(es:List D)(H:ab)(K:D->ab->Prop):YW id x ka ks k v (some (.mrow x' es)) H K=(x'=x/\BQ ka ks k v es fun es'=>K .undef (ah H id (some (.mrow x' es')))):=_root_.id rfl
def qb4(ka:Bool)(ks:List KK)(d k v:D)(H:ab)(K:D->ab->Prop):Prop:=match d with
 | .own id x=>YW id x ka ks k v (H id) H K
 | _=>False
@[simp] theorem qs0(id:Nat)(x:Value)(ka:Bool)(ks:List KK)(k v:D)(H:ab)(K:D->ab->Prop):qb4 ka ks (.own id x) k v H K=YW id x ka ks k v (H id) H K:=_root_.id rfl
def qb5(dst:Option Nat)(d:D)(H:ab)(K:D->ab->Prop):Prop:=match dst with
 | some t=>(match d with
   | .mp es=>∀b,K (.bptr t b 0) (ah H t (some (.miter b [] es)))
   | .v (.map none)=>∀b,K (.bptr t b 0) (ah H t (some (.miter b [] [])))
   | _=>False)
 | none=>False
@[simp] theorem qs6(t:Nat)(es:List D)(H:ab)(K:D->ab->Prop):qb5 (some t) (.mp es) H K=∀b,K (.bptr t b 0) (ah H t (some (.miter b [] es))):=id rfl
def YX(id b:Nat)(r:Option Res)(H:ab)(K:D->ab->Prop):Prop:=match r with
 | some (.miter b' cur left)=>b'=b/\(left=[]->K (.tup [.v (.bool false)]) H)/\∀l1 e l2,left=l1++e::l2->K (.tup [.v (.bool true), .any, .any]) (ah H id (some (.miter b' [e] (l1++l2))))
 | _=>False
@[simp] theorem qs8(id b b':Nat)(cur left:List D)(H:ab)(K:D->ab->Prop):YX id b (some (.miter b' cur left)) H K=(b'=b/\(left=[]->K (.tup [.v (.bool false)]) H)/\∀l1 e l2,left=l1++e::l2->K (.tup [.v (.bool true), .any, .any]) (ah H id (some (.miter b' [e] (l1++l2))))):=_root_.id rfl
def qb7(d:D)(H:ab)(K:D->ab->Prop):Prop:=match d with
 | .bptr id b off=>off=0/\YX id b (H id) H K
 | _=>False
@[simp] theorem qs7(i b off:Nat)(H:ab)(K:D->ab->Prop):qb7 (.bptr i b off) H K=(off=0/\YX i b (H i) H K):=id rfl
def YZ(b:Nat)(r:Option Res)(K:D->Prop):Prop:=match r with
 | some (.miter b' [e] _)=>b'=b/\K e
 | _=>False
@[simp] theorem qti(b b':Nat)(e:D)(l:List D)(K:D->Prop):YZ b (some (.miter b' [e] l)) K=(b'=b/\K e):=id rfl
def qcc(d:D)(H:ab)(K:D->Prop):Prop:=match d with
 | .bptr id b off=>off=0/\YZ b (H id) K
 | _=>False
@[simp] theorem qth(i b off:Nat)(H:ab)(K:D->Prop):qcc (.bptr i b off) H K=(off=0/\YZ b (H i) K):=id rfl
def qlw(x:Value)(r:Option Res)(K:List D->Prop):Prop:=match r with
 | some (.mrow x' es)=>x'=x/\K es
 | _=>False
@[simp] theorem qv5(x x':Value)(es:List D)(K:List D->Prop):qlw x (some (.mrow x' es)) K=(x'=x/\K es):=id rfl
def qfZ(d:D)(H:ab)(K:List D->Prop):Prop:=match d with
 | .mp es=>K es
 | .v (.map none)=>K []
 | .own id x=>qlw x (H id) K
 | _=>False
@[simp] theorem qv4(es:List D)(H:ab)(K:List D->Prop):qfZ (.mp es) H K=K es:=id rfl
@[simp] theorem qv3(i:Nat)(x:Value)(H:ab)(K:List D->Prop):qfZ (.own i x) H K=qlw x (H i) K:=id rfl
theorem UC(d:D)(H:ab)(K:List D->Prop):Av d H K=qfZ d H K:=by
 unfold Av qfZ qlw
 cases d <;> rfl
def qcb(len sz:Nat)(x i:D)(K:D->Prop):Prop:=match i with
 | .v (.int _ k)=>0<=k/\k < len/\KB (k.toNat*sz) x K
 | _=>False
@[simp] theorem qtd(len sz:Nat)(x:D)(q:IntKind)(k:Int)(K:D->Prop):qcb len sz x (.v (.int q k)) K=(0<=k/\k < len/\KB (k.toNat*sz) x K):=id rfl
@[simp] theorem qqG(o:Nat)(cs:List D)(p:Nat)(K:D->Prop):KB o (.cptr cs p) K=K (.cptr cs (p+o)):=id rfl
@[simp] theorem qqH(o i b p:Nat)(K:D->Prop):KB o (.bptr i b p) K=K (.bptr i b (p+o)):=id rfl
@[congr] theorem qpS{id:Nat}{x:Value}{ka:Bool}{ks:List KK}{k v k' v':D}{r r':Option Res}{H:ab}{K:D->ab->Prop}(h1:k=k')(h2:v=v')(h3:r=r'):YW id x ka ks k v r H K=YW id x ka ks k' v' r' H K:=by subst h1;subst h2;subst h3;rfl
@[congr] theorem qpR{ka:Bool}{ks:List KK}{d d' k v k' v':D}{H:ab}{K:D->ab->Prop}(h0:d=d')(h1:k=k')(h2:v=v'):qb4 ka ks d k v H K=qb4 ka ks d' k' v' H K:=by subst h0;subst h1;subst h2;rfl
@[congr] theorem qmo{ka:Bool}{ks:List KK}{k v k' v':D}{es es':List D}{K:List D->Prop}(h1:k=k')(h2:v=v')(h3:es=es'):BQ ka ks k v es K=BQ ka ks k' v' es' K:=by subst h1;subst h2;subst h3;rfl
@[congr] theorem qly{ok agg ka:Bool}{ks:List KK}{z:List Value}{k k':D}{es es':List D}{K:D->Prop}(h1:k=k')(h3:es=es'):xR ok agg ka ks z k es K=xR ok agg ka ks z k' es' K:=by subst h1;subst h3;rfl
@[congr] theorem qpT{t:Option Nat}{d d':D}{H:ab}{K:D->ab->Prop}(h:d=d'):qb5 t d H K=qb5 t d' H K:=by subst h;rfl
@[congr] theorem qpV{id b:Nat}{r r':Option Res}{H:ab}{K:D->ab->Prop}(h:r=r'):YX id b r H K=YX id b r' H K:=by subst h;rfl
@[congr] theorem qpU{d d':D}{H:ab}{K:D->ab->Prop}(h:d=d'):qb7 d H K=qb7 d' H K:=by subst h;rfl
@[congr] theorem qp1{b:Nat}{r r':Option Res}{K:D->Prop}(h:r=r'):YZ b r K=YZ b r' K:=by subst h;rfl
@[congr] theorem qp0{d d':D}{H:ab}{K:D->Prop}(h:d=d'):qcc d H K=qcc d' H K:=by subst h;rfl
@[congr] theorem qsZ{x:Value}{r r':Option Res}{K:List D->Prop}(h:r=r'):qlw x r K=qlw x r' K:=by subst h;rfl
@[congr] theorem qsY{d d':D}{H:ab}{K:List D->Prop}(h:d=d'):qfZ d H K=qfZ d' H K:=by subst h;rfl
@[congr] theorem qpZ{len sz:Nat}{x x' i i':D}{K:D->Prop}(h:x=x')(h2:i=i'):qcb len sz x i K=qcb len sz x' i' K:=by subst h;subst h2;rfl
@[simp ↓] theorem qwx(dst:Option Nat):az S (.m .mk []) dst σ H K=qjH dst H K:=by cases dst <;> rfl
@[simp ↓] theorem qvN(dst:Option Nat):aw S (.m .mk []) dst σ Hr H K=qjH dst H K:=by cases dst <;> rfl
@[simp ↓] theorem quB(dst:Option Nat)(ka:Bool)(ks:List KK)(x k v:Operand):az S (.m (.upd ka ks) [x,k,v]) dst σ H K=qb4 ka ks (ev σ x) (ev σ k) (ev σ v) H K:=by
 show iX (.upd ka ks) [ev σ x,ev σ k,ev σ v] dst H K=_
 unfold qb4 YW
 cases ev σ x <;> rfl
@[simp ↓] theorem quC(dst:Option Nat)(x:Operand):az S (.m .rng [x]) dst σ H K=qb5 dst (ev σ x) H K:=by
 show iX .rng [ev σ x] dst H K=_
 unfold qb5
 cases dst <;> rfl
@[simp ↓] theorem qrs(dst:Option Nat)(x:Operand):az S (.m .next [x]) dst σ H K=qb7 (ev σ x) H K:=by
 show iX .next [ev σ x] dst H K=_
 unfold qb7 YX
 cases ev σ x <;> rfl
@[simp ↓] theorem qoi(dst:Option Nat)(x:Operand):az S (.m .entry [x]) dst σ H K=qcc (ev σ x) H (fun d=>K d H):=by
 show iX .entry [ev σ x] dst H K=_
 unfold qcc YZ
 cases ev σ x <;> rfl
@[simp ↓] theorem qrt(dst:Option Nat)(ok agg ka:Bool)(ks:List KK)(z:List Value)(x k:Operand):az S (.m (.look ok agg ka ks z) [x,k]) dst σ H K=qfZ (ev σ x) H fun es=>xR ok agg ka ks z (ev σ k) es fun d=>K d H:=by
 rw[<-UC];rfl
@[simp ↓] theorem qpA(dst:Option Nat)(ok agg ka:Bool)(ks:List KK)(z:List Value)(x k:Operand):aw S (.m (.look ok agg ka ks z) [x,k]) dst σ Hr H K=qfZ (ev σ x) Hr fun es=>xR ok agg ka ks z (ev σ k) es fun d=>K d H:=by
 rw[<-UC];rfl
@[simp ↓] theorem quD(dst:Option Nat)(x:Operand):az S (.m .len [x]) dst σ H K=qfZ (ev σ x) H fun es=>K (.v (.int .i64 es.length)) H:=by
 rw[<-UC];rfl
@[simp ↓] theorem qru(dst:Option Nat)(len sz:Nat)(x i:Operand):az S (.m (.aidx len sz) [x,i]) dst σ H K=qcb len sz (ev σ x) (ev σ i) (fun d=>K d H):=by
 show uP (.aidx len sz) [ev σ x,ev σ i] H (fun d=>K d H)=_
 unfold qcb
 cases ev σ i <;> first|rfl|skip
 rename_i v
 cases v <;> rfl
end
end Go.Gv

namespace Go.Gv
open Cod (enc dec)
@[simp] theorem qvj(a:D)(es:List D):P1 a (.mp es)=(a= .mp es):=id rfl
theorem J9{a b:D}(ha:Fb a=true)(hb:Fb b=true)(h:Lk a b):a=b:=by
 obtain⟨tp,I,w,x,h1,h2⟩:=h
 have one:∀d:D,Fb d=true->(∃cs,d= .agg cs)\/ ∃v,d= .v v:=fun d hd=>by
  cases d <;> first|exact .inl ⟨_,rfl⟩|exact .inr ⟨_,rfl⟩|(simp[Fb,D.cells,qlC]at hd)
 rcases one a ha with⟨cs,rfl⟩|⟨v,rfl⟩ <;> rcases one b hb with⟨cs',rfl⟩|⟨v',rfl⟩
 ·obtain⟨xs,rfl,hl,hc⟩:=h1.inv_agg
  obtain⟨ys,he,hl2,hc2⟩:=h2.inv_agg
  have hxy:xs=ys:=by simpa using he
  subst hxy
  have hce:cs=cs':=by
   refine qzE (by omega) fun i h3 h4=>?_
   have hi:i < xs.length:=by omega
   have v1:qlC cs[i]=true:=qxF.1 ha _ (by simp[D.cells])
   have v2:qlC cs'[i]=true:=qxF.1 hb _ (by simp[D.cells])
   have r1:=(hc i _ _ (qxA hi) (qxA h3)).2
   have r2:=(hc2 i _ _ (qxA hi) (qxA h4)).2
   generalize cs[i]=p at*
   generalize cs'[i]=q at*
   cases p <;> first|(cases v1;done)|skip
   cases q <;> first|(cases v2;done)|skip
   rw[<-r1.inv_v,<-r2.inv_v]
  rw[hce]
 ·obtain⟨xs,rfl,_,_⟩:=h1.inv_agg
  have:=h2.inv_v
  cases h2 with
  | v _ h _=>simp[Value.oneCell']at h
 ·obtain⟨xs,rfl,_,_⟩:=h2.inv_agg
  cases h1 with
  | v _ h _=>simp[Value.oneCell']at h
 ·rw[<-h1.inv_v,<-h2.inv_v]
structure ZS (X:Type) [Cod X] (ka:Bool) (ks:List KK):Prop where
 fit:∀x:X,Mj ka ks (enc x)=true
 pur:∀x:X,Fb (enc x)=true
section
variable {X:Type}[Cod X][DecidableEq X]
def bp(l:List X):List D:=l.map fun x=> .tup [enc x, .v (.bool true)]
def xW(x:X)(l:List X):List X:=if x∈l then l else l++ [x]
@[simp] theorem eu{x y:X}{l:List X} :y∈xW x l↔y=x\/y∈l:=by
 unfold xW
 split
 ·rename_i h
  exact⟨.inr,fun h2=>h2.elim (fun e=>e ▸h) id⟩
 ·simp[or_comm]
theorem xV{x:X}{l:List X}(h:l.Nodup):(xW x l).Nodup:=by
 unfold xW
 split
 ·exact h
 ·rename_i hx
  rw[qyQ]
  exact⟨h,by simp,fun a ha b hb=>by simp at hb;subst hb;exact fun e=>hx (e ▸ha)⟩
theorem At{x:X}{v:D}{l:List X} :D.tup [enc x,v] ∈bp l↔x∈l/\v= .v (.bool true):=by
 simp only[bp,qxL,D.tup.injEq,qx0,and_true]
 exact⟨fun⟨y,h1,h2,h3⟩=>⟨aK h2 ▸h1,h3.symm⟩,fun⟨h1,h2⟩=>⟨x,h1,rfl,h2.symm⟩⟩
theorem QO{d:D}{l:List X}(h:d∈bp l):∃x∈l,d= .tup [enc x, .v (.bool true)]:=by
 obtain⟨x,h1,rfl⟩:=qxL.1 h
 exact⟨x,h1,rfl⟩
theorem gA:∀ {l:List X} {l1 l2:List D} {e:D},bp l=l1++e::l2->∃a x b,l=a++x::b/\l1=bp a/\e= .tup [enc x, .v (.bool true)]/\l2=bp b
 | [],l1,l2,e,h=>by
   have:=congrArg List.length h
   simp[bp]at this
 | y::l, [],l2,e,h=>by
   simp only[bp,qxZ,qyq,qx0]at h
   exact⟨[],y,l,rfl,rfl,h.1.symm,h.2.symm⟩
 | y::l,d::l1,l2,e,h=>by
   simp only[bp,qxZ,qyf,qx0]at h
   obtain⟨a,x,b,rfl,rfl,h3,h4⟩:=gA (l:=l) h.2
   exact⟨y::a,x,b,rfl,by simp[bp,h.1],h3,h4⟩
theorem hZ(a b:List X):bp (a++b)=bp a++bp b:=by simp[bp]
theorem QP{ka:Bool}{ks:List KK}(hK:ZS X ka ks)(l:List X):(bp l).all (R8 ka ks)=true:=by
 rw[qxF]
 intro d hd
 obtain⟨x,_,rfl⟩:=QO hd
 exact hK.fit x
theorem qfe{ka:Bool}{ks:List KK}(hK:ZS X ka ks){x:X}{l:List X}{k:D}{K:List D->Prop}(hk:k=enc x)(h:K (bp (xW x l))):BQ ka ks k (.v (.bool true)) (bp l) K:=by
 subst hk
 refine⟨QP hK l,hK.fit x,fun l1 k' v' l2 e m=>?_,fun hn=>?_⟩
 ·obtain⟨a,y,b,rfl,rfl,h3,rfl⟩:=gA e
  simp only[D.tup.injEq,qx0,and_true]at h3
  obtain⟨rfl,rfl⟩:=h3
  have:=aK (J9 (hK.pur x) (hK.pur y) m)
  subst this
  rw[<-e]
  have:xW x (a++x::b)=a++x::b:=by unfold xW;rw[if_pos (by simp)]
  rw[this]at h
  exact h
 ·have hx:x∉l:=fun hx=>hn (hK.pur x) _ (At.2 ⟨hx,rfl⟩)
  have:xW x l=l++ [x]:=by unfold xW;rw[if_neg hx]
  rw[this,hZ]at h
  exact h
theorem qci{ok:Bool}{ka:Bool}{ks:List KK}(hK:ZS X ka ks){x:X}{l:List X}{k:D}{K:D->Prop}(hk:k=enc x)(h:K (qhW ok (.v (.bool (decide (x∈l)))) (decide (x∈l)))):
 xR ok false ka ks [.bool false] k (bp l) K:=by
 subst hk
 refine⟨QP hK l,hK.fit x,fun k' v hm m=>?_,fun hn=>?_⟩
 ·obtain⟨y,hy,e⟩:=QO hm
  simp only[D.tup.injEq,qx0,and_true]at e
  obtain⟨rfl,rfl⟩:=e
  have:=aK (J9 (hK.pur x) (hK.pur y) m)
  subst this
  simpa [hy]using h
 ·have hx:x∉l:=fun hx=>hn (hK.pur x) _ (At.2 ⟨hx,rfl⟩)
  simpa [hx]using h
theorem RD{ok:Bool}{ka:Bool}{ks:List KK}(hK:ZS X ka ks)(x:X)(hM:Lk (enc x) (enc x))(l:List X)(K:D->Prop):xR ok false ka ks [.bool false] (enc x) (bp l) K=K (qhW ok (.v (.bool (decide (x∈l)))) (decide (x∈l))):=by
 refine propext ⟨fun⟨_,_,h1,h2⟩=>?_,qci hK rfl⟩
 by_cases hx:x∈l
 ·have:=h1 (enc x) (.v (.bool true)) (At.2 ⟨hx,rfl⟩) hM
  simpa [hx]using this
 ·have:=h2 fun _ v hm=>hx (At.1 hm).1
  simpa [hx,P3,vS]using this
end
@[simp] theorem qv7(v:D)(b:Bool):qhW false v b=v:=id rfl
end Go.Gv
