/- A part of the framework and of the walks: V19 W80 W81. -/
import Derived.Test.YtaiffcbkmgfklaaGreatDoorGs19
import Derived.Test.YtaiffcbkmgfklaaGreatDoorGs22
import Derived.Test.YtaiffcbkmgfklaaGreatDoorGs21
set_option linter.unusedSimpArgs false
set_option linter.unusedVariables false
set_option maxRecDepth 100000

namespace Go.Gv
def t_word:B:=⟨#[119,111,114,100]⟩
def S9:B:=⟨#[116,97,103]⟩
def t_feat:B:=⟨#[102,101,97,116]⟩
def Yo:List B:= [⟨#[97]⟩,⟨#[98]⟩,⟨#[97,46,42]⟩,⟨#[91,97,98,93]⟩]
def Nv:List B:= [⟨#[97]⟩,⟨#[98]⟩,⟨#[97,46,42]⟩,⟨#[91,97,98,93]⟩,⟨#[88]⟩,⟨#[]⟩,⟨#[99,63]⟩,⟨#[97,124,98]⟩,⟨#[89]⟩,⟨#[97,124,88]⟩]
def yt:List B:= [t_word,S9]
def Yx:List B:= [⟨#[112]⟩,⟨#[113]⟩]
def Z3:List B:= [⟨#[49]⟩,⟨#[50]⟩]
def t_n:B:=⟨#[110]⟩
inductive GA (lb:List B):Cond→Prop
 | val (n v:B) (f:Bool) (h1:n∈yt) (h2:v∈Nv):GA lb ⟨2,n,E0,v,E0,f, []⟩
 | feat (v:B) (h:v∈Yx):GA lb ⟨3,t_feat,E0,v,E0,false, []⟩
 | same (n l a:B) (h1:n∈yt) (h2:l∈lb) (h3:a∈yt):GA lb ⟨4,n,a,E0,l,false, []⟩
 | reg (n:B) (h:n∈pQ):GA lb ⟨5,n,E0,E0,E0,false, []⟩
 | regk (n v:B) (h1:n∈pQ) (h2:v∈Z3):GA lb ⟨5,n,t_n,v,E0,false, []⟩
inductive GI (lb:List B):Nat→Cond→Prop
 | atom (n:Nat) (c:Cond) (h:GA lb c):GI lb n c
 | not (n:Nat) (k:Cond) (h:GI lb n k):GI lb (n+1) ⟨6,E0,E0,E0,E0,false, [k]⟩
 | two (n:Nat) (op:Int) (a b:Cond) (ho:op=7∨op=8) (h1:GI lb n a) (h2:GI lb n b):GI lb (n+1) ⟨op,E0,E0,E0,E0,false, [a,b]⟩
inductive GC (lb:List B) (n:Nat):Cond→Prop
 | any:GC lb n ⟨1,E0,E0,E0,E0,false, []⟩
 | top (v:B) (f:Bool) (h:v∈Yo):GC lb n ⟨2,E0,E0,v,E0,f, []⟩
 | inner (c:Cond) (h:GI lb n c):GC lb n c
theorem KX {lb:List B} {c:Cond} (h:GA lb c):c.kids= []:=by cases h <;> rfl
theorem P4 {lb:List B} : ∀ {n:Nat} {c:Cond},GI lb n c→CS n c
 | _,_, .atom n c h=> Pb (KX h)
 | _,_, .not n k h=> ZM rfl rfl (P4 h)
 | _,_, .two n op a b _ h1 h2=> ZL rfl rfl (P4 h1) (P4 h2)
theorem Yb {lb:List B} {n:Nat} {c:Cond} (h:GC lb n c):CS n c:=by
 cases h with
 | any=> exact Pb rfl
 | top v f h=> exact Pb rfl
 | inner c h=> exact P4 h
def Zm (l:List B) (x:B):Bool:=l.any fun z=> decide (z=x)
theorem My (l:List B) (x:B):Zm l x=true↔x∈l:=by
 unfold Zm
 rw[List.any_eq_true]
 exact⟨fun⟨z,h1,h2⟩=> by rw[decide_eq_true_eq] at h2;rwa [←h2],fun h=> ⟨x,h,decide_eq_true rfl⟩⟩
instance decMem (l:List B) (x:B):Decidable (x∈l):=if h:Zm l x=true then .isTrue ((My l x).1 h) else .isFalse fun hx=> h ((My l x).2 hx)
mutual
def sP (lb:List B):Cond→Cond
 | .mk op n a v l f ks=> if op=4 then(if l∈lb then .mk op n a v l f ks else⟨2,n,E0,⟨#[97,124,88]⟩,E0,false, []⟩) else .mk op n a v l f (L0 lb ks)
def L0 (lb:List B):List Cond→List Cond
 | []=> []
 | k::ks=> sP lb k::L0 lb ks
end
theorem IG (lb:List B): ∀l:List Cond,L0 lb l=l.map (sP lb)
 | []=> by rw[L0];rfl
 | k::l=> by rw[L0,IG lb l];rfl
theorem kL (lb:List B) (c:Cond):sP lb c=if c.op=4 then(if c.lab∈lb then c else⟨2,c.name,E0,⟨#[97,124,88]⟩,E0,false, []⟩) else⟨c.op,c.name,c.arg,c.val,c.lab,c.fold,c.kids.map (sP lb)⟩:=by
 cases c;rw[sP,IG]
theorem Oo (lb:List B):sP lb Cond0=Cond0:=by
 rw[kL,if_neg (show ¬Cond0.op=4 from by decide)]
 rfl
mutual
def lN (lb:List B):Pat→Pat
 | .mk op c l r mn mx ks=> ⟨op,sP lb c,l,r,mn,mx,G9 lb ks⟩
def G9 (lb:List B):List Pat→List Pat
 | []=> []
 | k::ks=> lN lb k::G9 lb ks
end
theorem G8 (lb:List B): ∀l:List Pat,G9 lb l=l.map (lN lb)
 | []=> by rw[G9];rfl
 | k::l=> by rw[G9,G8 lb l];rfl
theorem pd (lb:List B) (p:Pat):lN lb p=⟨p.op,sP lb p.cond,p.lab,p.reg,p.mn,p.mx,p.kids.map (lN lb)⟩:=by
 cases p;rw[lN,G8]
def Ns (out:List B) (x:B):List B:=if x∈out then out else out++ [x]
mutual
def jE:Pat→List B→List B
 | .mk op c l r mn mx ks,out=> if op=1∧l≠E0 then Ns out l else Nq ks out
def Nq:List Pat→List B→List B
 | [],out=> out
 | k::ks,out=> Nq ks (jE k out)
end
theorem G7: ∀ (l:List Pat) (out:List B),Nq l out=l.foldl (fun o k=> jE k o) out
 | [],out=> by rw[Nq];rfl
 | k::l,out=> by rw[Nq,G7 l];rfl
theorem pY (p:Pat) (out:List B):jE p out=if p.op=1∧p.lab≠E0 then Ns out p.lab else p.kids.foldl (fun o k=> jE k o) out:=by
 cases p;rw[jE,G7]
theorem KV {lb lb':List B} : ∀ {n:Nat} {c:Cond},GI lb n c→GI lb' n (sP lb' c)
 | _,_, .atom n c h=> by
   cases h with
   | val nm v f h1 h2=> rw[kL,if_neg (by decide: ¬ (2:Int)=4)];exact .atom _ _ (.val nm v f h1 h2)
   | feat v h=> rw[kL,if_neg (by decide: ¬ (3:Int)=4)];exact .atom _ _ (.feat v h)
   | same nm l a h1 h2 h3=>
     rw[kL,if_pos rfl]
     split
     ·rename_i hl;exact .atom _ _ (.same nm l a h1 hl h3)
     ·exact .atom _ _ (.val nm _ false h1 (by simp[Nv]))
   | reg nm h=> rw[kL,if_neg (by decide: ¬ (5:Int)=4)];exact .atom _ _ (.reg nm h)
   | regk nm v h1 h2=> rw[kL,if_neg (by decide: ¬ (5:Int)=4)];exact .atom _ _ (.regk nm v h1 h2)
 | _,_, .not n k h=> by
   rw[kL,if_neg (by decide: ¬ (6:Int)=4)]
   exact .not n _ (KV h)
 | _,_, .two n op a b ho h1 h2=> by
   rw[kL,if_neg (show ¬op=4 by omega)]
   exact .two n op _ _ ho (KV h1) (KV h2)
theorem Zq {lb lb':List B} {n:Nat} {c:Cond} (h:GC lb n c):GC lb' n (sP lb' c):=by
 cases h with
 | any=> rw[kL,if_neg (by decide: ¬ (1:Int)=4)];exact .any
 | top v f h=> rw[kL,if_neg (by decide: ¬ (2:Int)=4)];exact .top v f h
 | inner c h=> exact .inner _ (KV h)
theorem Sy {lb lb':List B} {p:Pat} (h:ZZ lb p):ZZ lb (lN lb' p):=by
 rw[pd]
 rcases h with⟨h1,h2,h3,h4,h5,h6⟩ | ⟨h1,h2,h3,h4,h5,h6,h7⟩
 ·exact .inl ⟨h1,h2,h3,h4,h5,by show p.kids.map _= [];rw[h6];rfl⟩
 ·exact .inr ⟨h1,by show sP lb' p.cond=_;rw[h2,Oo],h3,h4,h5,h6,by show p.kids.map _= [];rw[h7];rfl⟩
theorem Wl {lb lb':List B} : ∀n p,WP lb n p→WP lb n (lN lb' p):=by
 refine yu fun n p hp ih=> ?_
 rcases qa hp with hp | ⟨m,rfl,(⟨h1,h2,h3,h4,h5,h6,a,b,h7,ha,hb⟩ | ⟨h1,h2,h3,h4,h5,a,h7,ha⟩)⟩
 ·exact qaL (Sy hp)
 ·obtain⟨m1,e1,_,a1⟩:=ih a (by rw[h7];simp)
  obtain⟨m2,e2,_,a2⟩:=ih b (by rw[h7];simp)
  have e1:m1=m:=by omega
  have e2:m2=m:=by omega
  subst e1;subst e2
  rw[pd]
  exact .inr (.inl ⟨h1,by show sP lb' p.cond=_;rw[h2,Oo],h3,h4,h5,h6,_,_,by show p.kids.map _=_;rw[h7];rfl,a1,a2⟩)
 ·obtain⟨m1,e1,_,a1⟩:=ih a (by rw[h7];simp)
  have e1:m1=m:=by omega
  subst e1
  rw[pd]
  exact .inr (.inr ⟨h1,by show sP lb' p.cond=_;rw[h2,Oo],h3,h4,h5,_,by show p.kids.map _=_;rw[h7];rfl,a1⟩)
theorem Mq (lb:List B) (p:Pat):aW (lN lb p)=(aW p).map (lN lb):=by
 induction p using xg with | _ p ih=> ?_
 rw[bJ,bJ p,pd]
 simp only
 split
 ·rw[List.map_singleton,pd]
 ·rw[List.flatMap_map,List.map_flatMap]
  have: ∀ks:List Pat,(∀k∈ks,aW (lN lb k)=(aW k).map (lN lb))→ks.flatMap (fun a=> aW (lN lb a))=ks.flatMap (fun a=> (aW a).map (lN lb)):=by
   intro ks
   induction ks with
   | nil=> intro _;rfl
   | cons k ks ihk=>
     intro h
     rw[List.flatMap_cons,List.flatMap_cons,h k (by simp),ihk fun z hz=> h z (by simp[hz])]
  exact this p.kids ih
theorem Vs (lb:List B) (p:Pat): ∀out,jE (lN lb p) out=jE p out:=by
 induction p using xg with | _ p ih=> ?_
 intro out
 rw[pY,pY p,pd]
 simp only
 split
 ·rfl
 ·have: ∀ (ks:List Pat) (o:List B),(∀k∈ks,∀out,jE (lN lb k) out=jE k out)→(ks.map (lN lb)).foldl (fun o k=> jE k o) o=ks.foldl (fun o k=> jE k o) o:=by
   intro ks
   induction ks with
   | nil=> intro o _;rfl
   | cons k ks ihk=>
     intro o h
     rw[List.map_cons,List.foldl_cons,List.foldl_cons,h k (by simp),ihk _ fun z hz=> h z (by simp[hz])]
  exact this p.kids out ih
theorem VB {out:List B} {x y:B} (h:y∈Ns out x):y∈out∨y=x:=by
 unfold Ns at h
 split at h
 ·exact .inl h
 ·rcases List.mem_append.1 h with h | h
  ·exact .inl h
  ·exact .inr (by simpa using h)
theorem Qp {lb:List B} : ∀n p,WP lb n p→ ∀out,(∀y∈jE p out,y∈out∨y∈lb):=by
 refine yu fun n p hp ih=> fun out y hy=> ?_
 rw[pY] at hy
 split at hy
 ·rename_i h
  rcases VB hy with h1 | rfl
  ·exact .inl h1
  ·rcases qa hp with(⟨h1,h2,_⟩ | ⟨h1,_⟩) | ⟨m,rfl,(⟨h1,_⟩ | ⟨h1,_⟩)⟩
   ·exact .inr (h2.resolve_left h.2)
   ·omega
   ·omega
   ·omega
 ·have: ∀ (ks:List Pat) (o:List B),(∀k∈ks,k∈p.kids)→y∈ks.foldl (fun o k=> jE k o) o→y∈o∨y∈lb:=by
   intro ks
   induction ks with
   | nil=> intro o _ h;exact .inl h
   | cons k ks ihk=>
     intro o hk h
     rw[List.foldl_cons] at h
     rcases ihk _ (fun z hz=> hk z (by simp[hz])) h with h1 | h1
     ·obtain⟨m,_,_,h2⟩:=ih k (hk k (by simp))
      exact h2 o y h1
     ·exact .inr h1
  exact this p.kids out (fun _ h=> h) hy
def Yv:List B:= [⟨#[97]⟩,⟨#[98,124,99]⟩,⟨#[46]⟩]
def Sk:List B:= [⟨#[111,98,106]⟩,⟨#[100,101,116]⟩,⟨#[]⟩]
def Ny:List B:= [⟨#[83]⟩,⟨#[78,80]⟩,⟨#[86,80]⟩]
inductive GG (lb:List B):Nat→Glob→Prop
 | bound (n:Nat) (a:B) (h:a∈lb):GG lb n ⟨1,a,E0,E0,E0,E0,false,0,0, [], []⟩
 | val (n:Nat) (a v:B) (f:Bool) (h1:a∈lb) (h2:v∈Yv):GG lb n ⟨2,a,E0,t_word,E0,v,f,0,0, [], []⟩
 | same (n:Nat) (a b g:B) (h1:a∈lb) (h2:b∈lb) (h3:g∈yt):GG lb n ⟨3,a,b,t_word,g,E0,false,0,0, [], []⟩
 | dist (n:Nat) (a b:B) (mn mx:Int) (h1:a∈lb) (h2:b∈lb) (h3: -2≤mn) (h4:mn≤2) (h5:mn≤mx) (h6:mx≤mn+3):GG lb n ⟨4,a,b,E0,E0,E0,false,mn,mx, [], []⟩
 | reg (n:Nat) (a b t:B) (h1:a∈lb) (h2:b∈lb) (h3:t∈pQ):GG lb n ⟨5,a,b,t,E0,E0,false,0,0, [], []⟩
 | head (n:Nat) (op:Int) (a b:B) (ho:op=6∨op=7) (h1:a∈lb) (h2:b∈lb):GG lb n ⟨op,a,b,E0,E0,E0,false,0,0, [], []⟩
 | path (n:Nat) (a b:B) (l:List B) (h1:a∈lb) (h2:b∈lb) (h3:l.length≤2) (h4: ∀x∈l,x∈Sk):GG lb n ⟨8,a,b,E0,E0,E0,false,0,0,l, []⟩
 | node (n:Nat) (a b t:B) (h1:a∈lb) (h2:b∈lb) (h3:t∈Ny):GG lb n ⟨9,a,b,t,E0,E0,false,0,0, [], []⟩
 | depth (n:Nat) (a:B) (mn mx:Int) (h1:a∈lb) (h3:0≤mn) (h4:mn≤2) (h5:mn≤mx) (h6:mx≤mn+1):GG lb n ⟨10,a,E0,E0,E0,E0,false,mn,mx, [], []⟩
 | not (n:Nat) (k:Glob) (h:GG lb n k):GG lb (n+1) ⟨11,E0,E0,E0,E0,E0,false,0,0, [], [k]⟩
 | two (n:Nat) (op:Int) (a b:Glob) (ho:op=12∨op=13) (h1:GG lb n a) (h2:GG lb n b):GG lb (n+1) ⟨op,E0,E0,E0,E0,E0,false,0,0, [], [a,b]⟩
def GF (f:Filt):Prop:=(f.op=1∨f.op=2∨f.op=3)∧f.reg∈pQ
structure GQ (n:Nat) (q:Qry):Prop where
 lab: ∃lb,Jm lb∧WP lb n q.pat
 cond: ∀y∈aW q.pat,GC (jE q.pat []) 1 y.cond
 glob:q.glob=GlobE∨GG (jE q.pat []) 2 q.glob
 filts:q.filts.length≤1∧ ∀f∈q.filts,GF f
 strat:0≤q.strat∧q.strat < 4
end Go.Gv

namespace Go.Gv
open Cod (enc dec)
variable {S S0:Nat→Spc}
def Pk (x:List Int×Int×List B) (y:Cond):Prop:=GI x.2.2 x.2.1.toNat y
abbrev yM (n:Nat):Spc:=cY (aT (a2 Int (List B))) (Jl n) (enc (X:=Cond)) Pk
theorem qkZ {i:Nat} {a:B} (h: [(⟨#[119,111,114,100]⟩:B),⟨#[119,111,114,100]⟩,⟨#[116,97,103]⟩][i]?=some a):a∈yt:=by
 have:=cn h
 simpa [yt,t_word,S9] using this
theorem qhF {i:Nat} {a:B} (h: [(⟨#[119,111,114,100]⟩:B),⟨#[116,97,103]⟩][i]?=some a):a∈yt:=cn h
theorem qhE {i:Nat} {a:B} (h: [(⟨#[112]⟩:B),⟨#[113]⟩][i]?=some a):a∈Yx:=cn h
theorem qhD {i:Nat} {a:B} (h: [(⟨#[49]⟩:B),⟨#[50]⟩][i]?=some a):a∈Z3:=cn h
theorem qkl {i:Nat} {a:B} (h: [(⟨#[97]⟩:B),⟨#[98]⟩,⟨#[97,46,42]⟩,⟨#[91,97,98,93]⟩][i]?=some a):a∈Yo:=cn h
theorem qkY {i:Nat} {a:B} (h: [(⟨#[97]⟩:B),⟨#[98]⟩,⟨#[97,46,42]⟩,⟨#[91,97,98,93]⟩,⟨#[88]⟩,⟨#[]⟩,⟨#[99,63]⟩,⟨#[97,124,98]⟩][i]?=some a):a∈Nv:=by
 have:=cn h
 simp only[Nv,List.mem_cons,List.not_mem_nil,or_false] at this ⊢
 rcases this with h | h | h | h | h | h | h | h <;> simp[h]
theorem NR (n:Nat) (h1:S am=s_m_Next) (h2:S gW=kJ) (h3:S dh=yM n):Walk pH pw S (aT (a2 Int (List B))) (Jl (n+1)) (enc (X:=Cond)) Pk:=by
 rintro⟨L,deep,lb⟩ ⟨hn,hd0,hd1,hlb⟩
 simp only at hn hd0 hd1 hlb
 simp[pH,pw,h1]
 intro b6 k0 hk0 hk1
 refine jr (X:=Int) [0,1,2,6] [6] (fun k=> 0≤k∧k < 12∧(deep < 1→k < 8)) (fun k=> [(7,enc k)]) (fun _=> []) ?_ ?_
 ·simp
  have:k0.tmod 8=k0 % 8:=Int.tmod_eq_emod_of_nonneg hk0
  rw[this]
  omega
 rintro k ⟨q0,q1,q2⟩
 refine jr (X:=Unit) [0,1,2,6,7] [6] (fun _=> 10≤k) (fun _=> []) (fun _=> []) ?_ ?_
 ·simp
  refine jr (X:=Bool) [0,1,2,6,7,15] [6] (fun b=> b=decide (k < 4)) (fun b=> [(16,enc b)]) (fun _=> []) ?_ ?_
  ·simp
   repeat' first | apply And.intro | intro _
   all_goals first | omega | (rw[Bool.eq_iff_iff];simp;omega)
  rintro b hb
  simp[h1,Td,Tc,qaV,X0,vB,zO, -Bool.forall_bool]
  refine⟨fun _ y hy0 hy1=> ⟨hy0,hy1,fun a ha y hy0 hy1=> ⟨hy0,hy1,fun a' ha' y hy0 hy1=> gR [] (.nil _) (.atom _ _ (.val a a' _ (qkZ ha) (qkY ha')))⟩⟩,fun hb0=> ?_⟩
  rw[hb0] at hb
  have hb:4≤k:=by simpa using hb.symm
  refine⟨fun _ y hy0 hy1=> ⟨hy0,hy1,fun a ha=> gR [] (.nil _) (.atom _ _ (.feat a (qhE ha)))⟩,fun k4=> ⟨fun _ _=> ⟨fun hl y hy0 hy1=> ⟨hy0,hy1,fun a ha _=> ⟨by omega,fun y hy=> ⟨by omega,by omega,fun a' ha' y hy0 hy1=> ⟨hy0,hy1,fun a'' ha''=> gR [] (.nil _) (.atom _ _ (.same a a' a'' (qhF ha) (cn ha') (qhF ha'')))⟩⟩⟩⟩,fun _=> gR [] (.nil _) (.atom _ _ (.val S9 _ false (by simp[yt]) (by simp[Nv])))⟩,fun k5=> ?_⟩⟩
  refine jr (X:=Bool) [0,1,2,6,7,15] [6] (fun b=> b=decide (k=6∨k=7)) (fun b=> [(67,enc b)]) (fun _=> []) ?_ ?_
  ·simp
   repeat' first | apply And.intro | intro _
   all_goals first | omega | (rw[Bool.eq_iff_iff];simp;omega)
  rintro b hb2
  simp[h1,h2, -Bool.forall_bool]
  refine⟨fun _ y hy0 hy1=> ⟨trivial,fun t ht b8=> ?_⟩,fun hb0=> ?_⟩
  ·refine jr (X:=B×B) [6,8] [6] (fun x=> (x.1=E0∧x.2=E0)∨(x.1=t_n∧x.2∈Z3)) (fun _=> []) (fun x=> [(8, .box b8 [.v (.int .i64 5), .v (.string t), .v (.string x.1), .v (.string x.2), .v (.string ⟨#[]⟩), .v (.bool false), .v (.slice none 0 0)])]) ?_ ?_
   ·simp[h1,Td,vB,zO]
    refine fun y hy0 hy1=> ⟨fun _ z hz0 hz1=> ⟨hz0,hz1,fun a ha=> ⟨t_n,a, .inr ⟨rfl,qhD ha⟩, .inl ⟨rfl,rfl⟩⟩⟩,fun _=> ⟨E0,E0, .inl ⟨rfl,rfl⟩, .inl ⟨rfl,rfl⟩⟩⟩
   ·rintro⟨a,v⟩ hav
    simp
    refine gR [] (.nil _) (.atom _ _ ?_)
    rcases hav with⟨rfl,rfl⟩ | ⟨rfl,hv⟩
    ·exact .reg t ht
    ·exact .regk t v ht hv
  rw[hb0] at hb2
  have hb2: ¬ (k=6∨k=7):=by simpa using hb2.symm
  refine jr (X:=Bool) [0,1,2,6,7,15] [6] (fun b=> b=decide (k=8∨k=9)) (fun b=> [(85,enc b)]) (fun _=> []) ?_ ?_
  ·simp
   repeat' first | apply And.intro | intro _
   all_goals first | omega | (rw[Bool.eq_iff_iff];simp;omega)
  rintro b hb3
  simp[h3, -Bool.forall_bool]
  have hrec:1≤deep→Jl n (L,deep -1,lb):=fun h=> ⟨by show(deep -1).toNat < n;omega,by show -10≤deep -1;omega,by show deep -1≤100;omega,hlb⟩
  refine⟨fun hb1=> ?_,fun hb0=> ?_⟩
  ·rw[hb1] at hb3
   have hb3:k=8∨k=9:=by simpa using hb3.symm
   have hdn:deep.toNat=(deep -1).toNat+1:=by omega
   refine⟨by simp only[InR];omega,hrec (by omega),fun y hy=> gR [y] (by simp) (by show GI lb deep.toNat _;rw[hdn];exact .not _ _ hy)⟩
  rw[hb0] at hb3
  have hb3: ¬ (k=8∨k=9):=by simpa using hb3.symm
  omega
 ·rintro -hk
  have hrec:Jl n (L,deep -1,lb):=⟨by show(deep -1).toNat < n;omega,by show -10≤deep -1;omega,by show deep -1≤100;omega,hlb⟩
  have hdn:deep.toNat=(deep -1).toNat+1:=by omega
  simp[h3]
  refine⟨by simp only[InR];omega,by simp only[InR];omega,by simp only[InR];omega,hrec,fun y hy=> ⟨by simp only[InR];omega,hrec,fun y' hy'=> gR [y,y'] (by simp) (by show GI lb deep.toNat _;rw[hdn];exact .two _ _ _ _ (by omega) hy hy')⟩⟩
def Yq (x:List Int×Int×List B) (y:Cond):Prop:=GC x.2.2 x.2.1.toNat y
abbrev Bg:Spc:=cY (aT (a2 Int (List B))) (fun x=> -10≤x.2.1∧x.2.1≤100∧x.2.2.length≤1000) (enc (X:=Cond)) Yq
abbrev vF:Spc:=cY (aT (a2 Int (List B))) (fun x=> ∃n,Jl n x) (enc (X:=Cond)) Pk
theorem QS (h1:S am=s_m_Next) (h3:S dh=vF):Walk qZ qA S (aT (a2 Int (List B))) (fun x=> -10≤x.2.1∧x.2.1≤100∧x.2.2.length≤1000) (enc (X:=Cond)) Yq:=by
 rintro⟨L,deep,lb⟩ ⟨hd0,hd1,hlb⟩
 simp only at hd0 hd1 hlb
 simp[qZ,qA,h1]
 intro b6
 refine jr (X:=Unit) [0,1,2,6] [6] (fun _=> True) (fun _=> []) (fun _=> []) ?_ ?_
 ·simp[h1,X0,vB,zO, -Bool.forall_bool]
  exact fun y _ _=> ⟨fun _=> gR [] (.nil _) .any,fun _=> ⟨fun _ z z0 z1=> ⟨z0,z1,fun a ha u _ _=> gR [] (.nil _) (.top a _ (qkl ha))⟩,fun _ _ z z0 z1=> ⟨z0,z1,fun a ha u _ _=> gR [] (.nil _) (.top a _ (qkl ha))⟩⟩⟩
 ·rintro - -
  have hrec: ∃n,Jl n (L,deep,lb):=⟨deep.toNat+1,Nat.lt_succ_self _,hd0,hd1,hlb⟩
  simp[h3,hrec]
  exact fun y hy=> gR y.kids (.same _) (by show GC lb deep.toNat _;rw[AE y];exact .inner _ hy)
theorem Zh {p:Pat} {C:Pat→Prop} (h1: ¬p.op=1) (h2:p.kids= []): ∀y∈aW p,C y:=by
 rw[bJ,if_neg h1,h2]
 simp
theorem Zf {p:Pat} {C:Pat→Prop} (h1:p.op=1) (h:C p): ∀y∈aW p,C y:=by
 rw[bJ,if_pos h1]
 simpa using h
theorem Zg {p a:Pat} {C:Pat→Prop} (h1: ¬p.op=1) (h2:p.kids= [a]) (ha: ∀y∈aW a,C y): ∀y∈aW p,C y:=by
 rw[bJ,if_neg h1,h2]
 simpa using ha
theorem TV {p a b:Pat} {C:Pat→Prop} (h1: ¬p.op=1) (h2:p.kids= [a,b]) (ha: ∀y∈aW a,C y) (hb: ∀y∈aW b,C y): ∀y∈aW p,C y:=by
 rw[bJ,if_neg h1,h2]
 simp only[List.flatMap_cons,List.flatMap_nil,List.append_nil]
 intro y hy
 rcases List.mem_append.1 hy with hy | hy
 ·exact ha y hy
 ·exact hb y hy
def Hh (x:List Int×Int×List B) (p:Pat):Prop:=qci x p∧ ∀y∈aW p,GC x.2.2 1 y.cond
abbrev tu (n:Nat):Spc:=cY (aT (a2 Int (List B))) (Qs n) (enc (X:=Pat)) Hh
theorem JE (n:Nat) (h1:S am=s_m_Next) (h2:S gW=kJ) (h3:S lL=Bg) (h4:S bS=tu n):Walk ng mT S (aT (a2 Int (List B))) (Qs (n+1)) (enc (X:=Pat)) Hh:=by
 rintro⟨L,deep,lb⟩ ⟨hn,hd0,hd1,hlb⟩
 simp only at hn hd0 hd1 hlb
 simp[ng,mT,h1]
 intro b6 k0 hk0 hk1
 refine jr (X:=Int) [0,1,2,6] [6] (fun k=> 0≤k∧k < 14∧(deep < 1→k < 7)) (fun k=> [(7,enc k)]) (fun _=> []) ?_ ?_
 ·simp
  have:k0.tmod 7=k0 % 7:=Int.tmod_eq_emod_of_nonneg hk0
  rw[this]
  omega
 rintro k ⟨q0,q1,q2⟩
 refine jr (X:=Unit) [0,1,2,6] [6] (fun _=> 12≤k) (fun _=> []) (fun _=> []) ?_ ?_
 ·have hrec:1≤deep→Qs n (L,deep -1,lb):=fun h=> ⟨by show(deep -1).toNat < n;omega,by show -10≤deep -1;omega,by show deep -1≤100;omega,hlb⟩
  have hdn:1≤deep→deep.toNat=(deep -1).toNat+1:=fun h=> by omega
  simp[h1,h2,h3,h4, -Bool.forall_bool]
  refine⟨fun hk=> ⟨hlb,fun c hc b8=> ?_⟩,fun hk=> ⟨fun hk7=> ⟨by simp only[InR];omega,by simp only[InR];omega,fun y _ _=> ⟨trivial,fun t ht=> xk [] [] (.nil _) (.nil _) ⟨⟨qaL (.inr ⟨by show(2+k -5=2∨2+k -5=3);omega,rfl,rfl,ht,rfl,rfl,rfl⟩),Tz Qk rfl⟩,Zh (by show ¬2+k -5=1;omega) rfl⟩⟩⟩,fun hk7=> ⟨fun hk10=> ⟨by simp only[InR];omega,hrec (by omega),fun y hy=> ⟨by simp only[InR];omega,hrec (by omega),fun y' hy'=> ?_⟩⟩,fun hk10 hk12=> ⟨by simp only[InR];omega,hrec (by omega),fun y hy=> ⟨by simp only[InR];omega,hrec (by omega),fun y' hy'=> ?_⟩⟩⟩⟩⟩
  ·refine jr (X:=B) [6,8] [6] (fun x=> x=⟨#[]⟩∨x∈lb) (fun _=> []) (fun x=> [(8, .box b8 [.v (.int .i64 1), .v (.int .i64 c.op), .v (.string c.name), .v (.string c.arg), .v (.string c.val), .v (.string c.lab), .v (.bool c.fold),enc c.kids, .v (.string x), .v (.string ⟨#[]⟩), .v (.int .i64 0), .v (.int .i64 0), .v (.slice none 0 0)])]) ?_ ?_
   ·simp[h1]
    exact fun _ h0 y _ _ _ _=> ⟨by omega,fun z hz=> ⟨by omega,by omega,fun a ha=> .inr ⟨a,cn ha, .inl rfl⟩⟩⟩
   ·rintro x hx
    simp
    exact xk c.kids [] (.same _) (.nil _) ⟨⟨qaL (.inl ⟨rfl,hx,rfl,rfl,rfl,rfl⟩),Tz ⟨_,XD (d:=c) rfl (Yb hc)⟩ rfl⟩,Zf rfl (by show GC lb 1 _;rw[AE c];exact hc)⟩
  ·refine xk [] [y,y'] (.nil _) (by simp) ?_
   refine⟨⟨?_,Ty (hdn (by omega)) Qk rfl hy.1.2 hy'.1.2⟩,TV (by show ¬ (4:Int)=1;decide) rfl hy.2 hy'.2⟩
   show WP lb deep.toNat _
   rw[hdn (by omega)]
   exact .inr (.inl ⟨.inl rfl,rfl,rfl,rfl,rfl,rfl,y,y',rfl,hy.1.1,hy'.1.1⟩)
  ·refine xk [] [y,y'] (.nil _) (by simp) ?_
   refine⟨⟨?_,Ty (hdn (by omega)) Qk rfl hy.1.2 hy'.1.2⟩,TV (by show ¬ (5:Int)=1;decide) rfl hy.2 hy'.2⟩
   show WP lb deep.toNat _
   rw[hdn (by omega)]
   exact .inr (.inl ⟨.inr rfl,rfl,rfl,rfl,rfl,rfl,y,y',rfl,hy.1.1,hy'.1.1⟩)
 ·rintro -hk
  have hrec:Qs n (L,deep -1,lb):=⟨by show(deep -1).toNat < n;omega,by show -10≤deep -1;omega,by show deep -1≤100;omega,hlb⟩
  have hdn:deep.toNat=(deep -1).toNat+1:=by omega
  have fin: ∀ (mn mx:Int) (y:Pat) (H:ae),(mn,mx) ∈Reps→Hh (L,deep -1,lb) y→Fin enc (Hh (L,deep,lb)) (.agg [.v (.int .i64 6), .v (.int .i64 0), .v (.string ⟨#[]⟩), .v (.string ⟨#[]⟩), .v (.string ⟨#[]⟩), .v (.string ⟨#[]⟩), .v (.bool false), .v (.slice none 0 0), .v (.string ⟨#[]⟩), .v (.string ⟨#[]⟩), .v (.int .i64 mn), .v (.int .i64 mx), .list 13 [enc y]]) H:=by
   intro mn mx y H hm hy
   refine xk [] [y] (.nil _) (by simp) ?_
   refine⟨⟨?_,Y2 hdn Qk rfl hy.1.2⟩,Zg (by show ¬ (6:Int)=1;decide) rfl hy.2⟩
   show WP lb deep.toNat _
   rw[hdn]
   exact .inr (.inr ⟨rfl,rfl,rfl,rfl,hm,y,rfl,hy.1.1⟩)
  simp only[K2] at fin
  simp[h1,h4]
  intro y hy0 hy1
  refine⟨hy0,hy1,fun d hd=> ?_⟩
  have:y=0∨y=1∨y=2∨y=3∨y=4∨y=5∨y=6:=by omega
  rcases this with rfl | rfl | rfl | rfl | rfl | rfl | rfl
  all_goals (simp at hd;subst hd;simp[h4])
  all_goals exact⟨by simp only[InR];omega,hrec,fun y hy=> fin _ _ y _ (by simp[Reps]) hy⟩
end Go.Gv

namespace Go.Gv
open Cod (enc dec)
variable {S S0:Nat→Spc}
theorem Np (p:Pat): ∀out,(jE p out).length≤out.length+xI p:=by
 induction p using xg with | _ p ih=> ?_
 intro out
 rw[pY,rI]
 split
 ·unfold Ns
  split
  ·omega
  ·simp
 ·have: ∀ (ks:List Pat) (o:List B),(∀k∈ks,k∈p.kids)→(ks.foldl (fun o k=> jE k o) o).length≤o.length+gP ks:=by
   intro ks
   induction ks with
   | nil=> intro o _;simp[gP]
   | cons k ks ihk=>
     intro o hk
     rw[List.foldl_cons,gP]
     have h1:=ihk (jE k o) fun z hz=> hk z (by simp[hz])
     have:=ih k (hk k (by simp)) o
     omega
  have:=this p.kids out fun _ h=> h
  omega
theorem AK (ks:List Pat) (k:Nat) (lb:List B): ((ks.take k).foldl (fun o k=> jE k o) lb).length≤lb.length+gP (ks.take k):=by
 generalize ks.take k=l
 induction l generalizing lb with
 | nil=> simp[gP]
 | cons a l ih=>
   rw[List.foldl_cons,gP]
   have h1:=ih (jE a lb)
   have h2:=Np a lb
   omega
def Pj (x:Cond×List B) (y:Cond):Prop:=y=sP x.2 x.1
abbrev tt (n:Nat):Spc:=cY (a2 Cond (List B)) (VK n) (enc (X:=Cond)) Pj
theorem JD (n:Nat) (h1:S gV=tt n):Walk uA tL S (a2 Cond (List B)) (VK (n+1)) (enc (X:=Cond)) Pj:=by
 rintro⟨c,lb⟩ ⟨_,hc⟩
 simp only at hc
 have hc:CS n c:=hc
 simp[uA,tL]
 intro b2 b4
 refine⟨fun ho _=> ?_,fun ho hl=> ?_⟩
 ·refine aw (X:=Unit) [2,4,13] [2,4] lb.length (fun k _=> ∀z∈lb.take k,z≠c.lab) (fun _=> []) (fun _=> []) () (by simp) (by simp) (by omega) (by simp) (by simp) (by simp) (by simp) (by simp) ?_ ?_
  ·rintro k -hk hz
   obtain⟨x,hx⟩:=cz hk
   obtain⟨_,hgx⟩:=List.getElem?_eq_some_iff.1 hx
   simp[hk,hx,hgx]
   refine⟨fun hxl=> gR c.kids (.same _) ?_,fun hxl z hz'=> ?_⟩
   ·show Cond.mk _ _ _ _ _ _ _=sP lb c
    rw[AE,kL,if_pos ho,if_pos (hxl ▸cn hx)]
   ·rw[dq hx] at hz'
    rcases List.mem_append.1 hz' with h | h
    ·exact hz z h
    ·simp at h;subst h;exact hxl
  ·rintro -hz
   rw[List.take_length] at hz
   simp
   refine gR [] (.nil _) ?_
   show _=sP lb c
   rw[kL,if_pos ho,if_neg (fun h=> hz _ h rfl)]
   rfl
 ·refine aw (X:=Value×List Cond) [1,2,4,29] [2,4] c.kids.length (fun k x=> x.2=(c.kids.take k).map (sP lb)) (fun x=> [(7, .own 40 x.1)]) (fun x=> [(40, .row x.1 aR 7 (x.2.map enc))]) (.slice none 0 0, []) (by simp) (by simp) (by omega) (by simp) (by simp) (by simp) (by simp) (by simp[isNilRow]) ?_ ?_
  ·rintro k ⟨v,ks⟩ hk hkl
   simp only at hkl
   obtain⟨x,hx⟩:=cz hk
   obtain⟨_,hgx⟩:=List.getElem?_eq_some_iff.1 hx
   obtain⟨m,hm,hx1⟩:=ZO hc (cn hx)
   have hp:VK n (x,lb):=⟨by omega,by rw[hm];exact hx1⟩
   simp[hk,hx,hgx,h1,hp]
   have:=ZN hc
   have hkl2:ks.length=k:=by rw[hkl,List.length_map,List.length_take];omega
   refine fun y hy=> ⟨by omega,by omega,fun v=> .inl ?_⟩
   obtain rfl:y=sP lb x:=hy
   rw[hkl,List.map_map,List.map_take,List.take_add_one]
   simp[hx]
  ·rintro⟨v,ks⟩ hkl
   simp only at hkl
   simp
   rw[List.take_length] at hkl
   refine gR ks (OY aR (by simp)) ?_
   show _=sP lb c
   rw[kL,if_neg ho,hkl]
abbrev rV:Spc:=cY (a2 Cond (List B)) (fun x=> ∃n,CS n x.1) (enc (X:=Cond)) Pj
def Le (x:Pat×List B) (y:Pat):Prop:=y=lN x.2 x.1
abbrev Bf (n:Nat):Spc:=cY (a2 Pat (List B)) (Pm n) (enc (X:=Pat)) Le
theorem QQ (n:Nat) (h1:S gV=rV) (h2:S m9=Bf n):Walk Cp Bq S (a2 Pat (List B)) (Pm (n+1)) (enc (X:=Pat)) Le:=by
 rintro⟨p,lb⟩ ⟨_,hp⟩
 simp only at hp
 have hp:PD n p:=hp
 have hcd:=WM hp
 have hpl:=Y3 hp
 simp[Cp,Bq,h1]
 intro b2 b4
 refine⟨hcd,fun c hc _=> ?_⟩
 refine aw (X:=Value×List Pat) [1,2,4,14] [2,4] p.kids.length (fun k x=> x.2=(p.kids.take k).map (lN lb)) (fun x=> [(5, .own 25 x.1)]) (fun x=> [(25, .row x.1 aj 13 (x.2.map enc))]) (.slice none 0 0, []) (by simp) (by simp) (by omega) (by simp) (by simp) (by simp) (by simp) (by simp[isNilRow]) ?_ ?_
 ·rintro k ⟨v,ks⟩ hk hkl
  simp only at hkl
  obtain⟨x,hx⟩:=cz hk
  obtain⟨_,hgx⟩:=List.getElem?_eq_some_iff.1 hx
  obtain⟨m,hm,hx1⟩:=Y4 hp (cn hx)
  have hq:Pm n (x,lb):=⟨by omega,by rw[hm];exact hx1⟩
  have hkl2:ks.length=k:=by rw[hkl,List.length_map,List.length_take];omega
  simp[hk,hx,hgx,h2,hq]
  refine fun y hy=> ⟨by omega,by omega,fun v=> .inl ?_⟩
  obtain rfl:y=lN lb x:=hy
  rw[hkl,List.map_map,List.map_take,List.take_add_one]
  simp[hx]
 ·rintro⟨v,ks⟩ hkl
  simp only at hkl
  rw[List.take_length] at hkl
  simp
  refine xk c.kids ks (.same _) (OY aj (by simp)) ?_
  show _=lN lb p
  rw[pd,←show c=sP lb p.cond from hc,hkl,AE]
abbrev yN:Spc:=cY (a2 Pat (List B)) (fun x=> ∃n,PD n x.1) (enc (X:=Pat)) Le
abbrev rW:Spc:=cY (aT (a2 Int (List B))) (fun x=> -10≤x.2.1∧x.2.1≤100∧x.2.2.length≤1000) (enc (X:=Pat)) Hh
def VJ (x:Pat) (l r:List B):Prop:=r=jE x l
abbrev Gz (n:Nat):Spc:=Ya (X:=Pat) (Y:=B) (fun x l=> fP x≤n∧Yu x l) VJ az 1
abbrev i_BoundA2:Spc:=Ya (X:=Pat) (Y:=B) Yu VJ az 1
theorem LB (n:Nat) (h1:S gH=Gz n):Ld (X:=Pat) (Y:=B) ra qB S (fun x l=> fP x≤n+1∧Yu x l) VJ az 1:=by
 rintro v lb p ⟨hd,hl⟩
 have hk: ∀k∈p.kids,fP k≤n:=fun k h=> by have:=mV h;have:fP p≤n+1:=hd;omega
 have hl:lb.length+xI p≤1000000:=hl
 have hpn:=rI p
 simp[ra,qB]
 refine jr (X:=Unit) [1,2] [1] (fun _=> p.op=1→p.lab=E0) (fun _=> []) (fun _=> []) ?_ ?_
 ·simp
  refine⟨fun ho=> ⟨fun hn _=> ?_,fun h _=> h⟩,fun ho h=> absurd h ho⟩
  refine aw (X:=Unit) [1,2,17] [1] lb.length (fun k _=> ∀z∈lb.take k,z≠p.lab) (fun _=> []) (fun _=> []) () (by simp) (by simp) (by omega) (by simp) (by simp) (by simp) (by simp) (by simp) ?_ ?_
  ·rintro k -hkk hz
   obtain⟨x,hx⟩:=cz hkk
   obtain⟨_,hgx⟩:=List.getElem?_eq_some_iff.1 hx
   simp[hkk,hx,hgx]
   refine⟨fun hxl=> kM lb (by simp) ?_,fun hxl z hz'=> ?_⟩
   ·show lb=jE p lb
    rw[pY,if_pos ⟨ho,hn⟩,Ns,if_pos (hxl ▸cn hx)]
   ·rw[dq hx] at hz'
    rcases List.mem_append.1 hz' with h | h
    ·exact hz z h
    ·simp at h;subst h;exact hxl
  ·rintro -hz
   rw[List.take_length] at hz
   simp
   refine⟨by omega,by omega,fun v=> kM (lb++ [p.lab]) (by simp) ?_⟩
   show _=jE p lb
   rw[pY,if_pos ⟨ho,hn⟩,Ns,if_neg fun h=> hz _ h rfl]
 ·rintro -hno
  simp
  intro hkl
  refine aw (X:=Value×List B) [35] [] p.kids.length (fun k x=> x.2=(p.kids.take k).foldl (fun o k=> jE k o) lb) (fun x=> [(1, .own 1 x.1)]) (fun x=> [(1, .row x.1 az 1 (x.2.map enc))]) (v,lb) (by simp) (by simp) (by omega) (by simp) (by simp) (by simp) (by simp) (by simp) ?_ ?_
  ·rintro k ⟨v,ls⟩ hkk hls
   simp only at hls
   obtain⟨x,hx⟩:=cz hkk
   obtain⟨_,hgx⟩:=List.getElem?_eq_some_iff.1 hx
   have hq:Yu x ls:=by
    have h2:=AK p.kids k lb
    have h3:=AK (p.kids.drop k) 1 ls
    rw[←hls] at h2
    have h4:gP (p.kids.take k) +gP (p.kids.drop k)=gP p.kids:=by rw[←IP,List.take_append_drop]
    rw[ek hx,gP] at h4
    show ls.length+xI x≤_
    omega
   have hq2:=hk x (cn hx)
   simp[hkk,hx,hgx,h1,hq,hq2]
   intro v' l' hy
   obtain rfl:l'=jE x ls:=hy
   refine .inl ?_
   rw[dq hx,List.foldl_append,←hls]
   rfl
  ·rintro⟨v,ls⟩ hls
   simp only at hls
   rw[List.take_length] at hls
   simp
   refine kM ls (by simp) ?_
   show ls=jE p lb
   rw[pY,if_neg fun h=> h.2 (hno h.1),hls]
abbrev U1:Spc:=qbI (Y:=B) (aE Pat (aD a0)) (fun x=> x.2.1= .v (.slice none 0 0)∧Yu x.1 []) (fun x r=> VJ x.1 [] r) az 1
theorem LD (h1:S gH=i_BoundA2):Qq (Y:=B) ra qB S (aE Pat (aD a0)) (fun x=> x.2.1= .v (.slice none 0 0)∧Yu x.1 []) (fun x r=> VJ x.1 [] r) az 1:=by
 rintro⟨p,d,⟨⟩⟩ ⟨hd,hl⟩
 have hd:d= .v (.slice none 0 0):=hd
 subst hd
 have hl:0+xI p≤1000000:=hl
 have hpn:=rI p
 simp[ra,qB]
 refine jr (X:=Unit) [1,2] [] (fun _=> p.op=1→p.lab=E0) (fun _=> []) (fun _=> []) ?_ ?_
 ·simp
  refine⟨fun ho=> ⟨fun hn=> ?_,fun h _=> h⟩,fun ho h=> absurd h ho⟩
  refine aw (X:=Unit) [1,2] [] 0 (fun _ _=> True) (fun _=> []) (fun _=> []) () (by simp) (by simp) (by omega) (by simp) (by simp) trivial (by simp) (by simp) ?_ ?_
  ·rintro k -hkk -
   exact absurd hkk (Nat.not_lt_zero _)
  ·rintro - -
   simp
   refine fun v=> kM [p.lab] (by simp) ?_
   show _=jE p []
   rw[pY,if_pos ⟨ho,hn⟩,Ns,if_neg (by simp)]
   rfl
 ·rintro -hno
  simp
  intro hkl
  refine aw (X:=Value×List B) [35] [] p.kids.length (fun k x=> x.2=(p.kids.take k).foldl (fun o k=> jE k o) []) (fun x=> [(1, .own 1 x.1)]) (fun x=> [(1, .row x.1 az 1 (x.2.map enc))]) (.slice none 0 0, []) (by simp) (by simp) (by omega) (by simp) (by simp) (by simp) (by simp) (by simp[isNilRow]) ?_ ?_
  ·rintro k ⟨v,ls⟩ hkk hls
   simp only at hls
   obtain⟨x,hx⟩:=cz hkk
   obtain⟨_,hgx⟩:=List.getElem?_eq_some_iff.1 hx
   have hq:Yu x ls:=by
    have h2:=AK p.kids k []
    have h3:=AK (p.kids.drop k) 1 ls
    rw[←hls,List.length_nil] at h2
    have h4:gP (p.kids.take k) +gP (p.kids.drop k)=gP p.kids:=by rw[←IP,List.take_append_drop]
    rw[ek hx,gP] at h4
    show ls.length+xI x≤_
    omega
   simp[hkk,hx,hgx,h1,hq]
   intro v' l' hy
   obtain rfl:l'=jE x ls:=hy
   refine .inl ?_
   rw[dq hx,List.foldl_append,←hls]
   rfl
  ·rintro⟨v,ls⟩ hls
   simp only at hls
   rw[List.take_length] at hls
   simp
   refine kM ls (by simp) ?_
   show ls=jE p []
   rw[pY,if_neg fun h=> h.2 (hno h.1),hls]
abbrev s_Bound2:Spc:=qbd U1 i_BoundA2
end Go.Gv
