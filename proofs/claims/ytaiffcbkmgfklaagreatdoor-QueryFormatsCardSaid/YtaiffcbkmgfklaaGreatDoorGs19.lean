/- A part of the framework and of the walks: L1 V3 V4 V5 V11 Cc W1 T14 T15 T16 T17 W10. -/
import Derived.Test.YtaiffcbkmgfklaaGreatDoorGs17
import Derived.Test.YtaiffcbkmgfklaaGreatDoorGs18
set_option linter.unusedSimpArgs false
set_option linter.unusedVariables false
set_option maxRecDepth 100000

namespace Go.Gv
theorem dq {α:Type} {l:List α} {k:Nat} {a:α} (h:l[k]?=some a):l.take (k+1)=l.take k++ [a]:=by
 rw[List.take_add_one,h];rfl
theorem ek {α:Type} {l:List α} {k:Nat} {a:α} (h:l[k]?=some a):l.drop k=a::l.drop (k+1):=by
 obtain⟨hk,rfl⟩:=List.getElem?_eq_some_iff.1 h
 exact List.drop_eq_getElem_cons hk
theorem cn {α:Type} {l:List α} {k:Nat} {a:α} (h:l[k]?=some a):a∈l:=List.mem_of_getElem? h
theorem cz {α:Type} {l:List α} {k:Nat} (h:k < l.length): ∃a,l[k]?=some a:=⟨l[k],List.getElem?_eq_getElem h⟩
def qbt (a b:Span):Prop:=a.b < b.b∨a.b=b.b∧a.e < b.e
instance (a b:Span):Decidable (qbt a b):=by unfold qbt;infer_instance
theorem Xd (a:Span): ¬qbt a a:=by unfold qbt;omega
theorem Span.ext' {a b:Span} (h:a.b=b.b) (k:a.e=b.e):a=b:=by cases a;cases b;simp at h k;simp[h,k]
def SS (l:List Span):Prop:=l.Pairwise qbt
theorem SS.nil:SS []:=List.Pairwise.nil
def IsNorm (l r:List Span):Prop:=SS r∧ ∀x,x∈r↔x∈l
theorem IsNorm.nil:IsNorm [] []:=⟨SS.nil,fun _=> Iff.rfl⟩
theorem IsNorm.congr {l l' r:List Span} (h:IsNorm l r) (hl: ∀x,x∈l↔x∈l'):IsNorm l' r:=⟨h.1,fun x=> (h.2 x).trans (hl x)⟩
theorem Tf: ∀ {r l:List Span},SS r→(∀x∈r,x∈l)→r.length≤l.length
 | [],l,_,_=> Nat.zero_le _
 | x::r,l,h,hl=> by
   have h':=List.pairwise_cons.1 h
   have hx:=hl x (by simp)
   have:=Tf (l:=l.erase x) h'.2 fun y hy=> (List.mem_erase_of_ne (fun(e:y=x)=> Xd x (by have:=h'.1 y hy;rwa [e] at this))).2 (hl y (by simp[hy]))
   rw[List.length_erase_of_mem hx] at this
   have:=List.length_pos_of_mem hx
   simp;omega
theorem IsNorm.len {l r:List Span} (h:IsNorm l r):r.length≤l.length:=Tf h.1 fun x hx=> (h.2 x).1 hx
theorem IsNorm.same {l l' r:List Span} (h:IsNorm l r) (hl: ∀x,x∈l'↔x∈l):IsNorm l' r:=⟨h.1,fun x=> (h.2 x).trans (hl x).symm⟩
def wP {X:Type} :List X→(X→Bool)→Int
 | [],_=> -1
 | x::l,p=> if p x then 0 else if wP l p < 0 then -1 else wP l p+1
theorem B7 {X:Type} {p:X→Bool} : ∀ {l:List X},(∀y∈l,p y=false)→wP l p= -1
 | [],_=> rfl
 | x::l,h=> by
   have:=B7 (l:=l) (fun y hy=> h y (by simp[hy]))
   simp[wP,h x (by simp),this]
theorem KR {X:Type} {p:X→Bool} : ∀ {l:List X} {k:Nat} {x:X},l[k]?=some x→p x=true→(∀y∈l.take k,p y=false)→wP l p=k
 | [],k,x,hx,_,_=> by simp at hx
 | z::l,0,x,hx,hp,_=> by
   simp at hx
   subst hx
   simp[wP,hp]
 | z::l,k+1,x,hx,hp,hb=> by
   have hz:=hb z (by simp)
   have ih:=KR (l:=l) (k:=k) (by simpa using hx) hp (fun y hy=> hb y (by simp[hy]))
   simp[wP,hz,ih]
   omega
theorem OM {X:Type} (p:X→Bool) (l:List X): (wP l p= -1∧ ∀y∈l,p y=false)∨ ∃k x,wP l p=(k:Nat)∧l[k]?=some x∧p x=true∧ ∀y∈l.take k,p y=false:=by
 induction l with
 | nil=> exact .inl ⟨rfl,by simp⟩
 | cons z l ih=>
   by_cases hz:p z=true
   ·exact .inr ⟨0,z,by simp[wP,hz],by simp,hz,by simp⟩
   ·have hz:p z=false:=by simpa using hz
    rcases ih with⟨h1,h2⟩ | ⟨k,x,h1,h2,h3,h4⟩
    ·refine .inl ⟨by simp[wP,hz,h1],fun y hy=> ?_⟩
     rcases List.mem_cons.1 hy with rfl | hy
     ·exact hz
     ·exact h2 y hy
    ·refine .inr ⟨k+1,x,?_,by simpa using h2,h3,fun y hy=> ?_⟩
     ·simp[wP,hz,h1];omega
     ·rw[List.take_succ_cons] at hy
      rcases List.mem_cons.1 hy with rfl | hy
      ·exact hz
      ·exact h4 y hy
theorem PU {X:Type} (p:X→Bool) (l:List X):decide (0≤wP l p)=l.any p:=by
 rcases OM p l with⟨h1,h2⟩ | ⟨k,x,h1,h2,h3,h4⟩
 ·have:l.any p=false:=by simpa using h2
  rw[h1,this];rfl
 ·have:l.any p=true:=List.any_eq_true.2 ⟨x,cn h2,h3⟩
  rw[h1,this];simp
theorem SS.filter {l:List Span} (h:SS l) (p:Span→Bool):SS (l.filter p):=List.Pairwise.filter p h
theorem IsNorm.filter {l r:List Span} (h:IsNorm l r) (p:Span→Bool):IsNorm (l.filter p) (r.filter p):=⟨h.1.filter p,fun x=> by simp[h.2 x]⟩
end Go.Gv

namespace Go.Gv
instance:Inhabited Cond:=⟨⟨0,⟨#[]⟩,⟨#[]⟩,⟨#[]⟩,⟨#[]⟩,false, []⟩⟩
instance:Inhabited Pat:=⟨⟨0,default,⟨#[]⟩,⟨#[]⟩,0,0, []⟩⟩
def Cond0:Cond:=⟨0,⟨#[]⟩,⟨#[]⟩,⟨#[]⟩,⟨#[]⟩,false, []⟩
mutual
def fP:Pat→Nat | .mk _ _ _ _ _ _ ks=> Md ks+1
def Md:List Pat→Nat | []=> 0 | k::ks=> max (fP k) (Md ks)
end
mutual
def fk:Cond→Nat | .mk _ _ _ _ _ _ ks=> jH ks+1
def jH:List Cond→Nat | []=> 0 | k::ks=> max (fk k) (jH ks)
end
mutual
def xI:Pat→Nat | .mk _ _ _ _ _ _ ks=> gP ks+1
def gP:List Pat→Nat | []=> 0 | k::ks=> xI k+gP ks
end
theorem PK (p:Pat):fP p=Md p.kids+1:=by cases p;rw[fP]
theorem uC (p:Cond):fk p=jH p.kids+1:=by cases p;rw[fk]
theorem rI (p:Pat):xI p=gP p.kids+1:=by cases p;rw[xI]
theorem IQ {k:Pat} : ∀ {ks:List Pat},k∈ks→fP k≤Md ks
 | a::ks,h=> by
   rw[Md]
   rcases List.mem_cons.1 h with rfl | h
   ·omega
   ·have:=IQ h;omega
theorem xn {k:Cond} : ∀ {ks:List Cond},k∈ks→fk k≤jH ks
 | a::ks,h=> by
   rw[jH]
   rcases List.mem_cons.1 h with rfl | h
   ·omega
   ·have:=xn h;omega
theorem mV {p k:Pat} (h:k∈p.kids):fP k < fP p:=by have:=IQ h;rw[PK p];omega
theorem G6 {p k:Cond} (h:k∈p.kids):fk k < fk p:=by have:=xn h;rw[uC p];omega
theorem xg {C:Pat→Prop} (h: ∀p,(∀k∈p.kids,C k)→C p) (p:Pat):C p:=by
 generalize hn:fP p=n
 induction n using Nat.strongRecOn generalizing p with
 | _ n ih=> exact h p fun k hk=> ih (fP k) (by rw[←hn];exact mV hk) k rfl
mutual
def fT (f:Pat→Bool):Pat→Bool | .mk op c l r mn mx ks=> f ⟨op,c,l,r,mn,mx,ks⟩ && AD f ks
def AD (f:Pat→Bool):List Pat→Bool | []=> true | k::ks=> fT f k && AD f ks
end
theorem GN (f:Pat→Bool): ∀ks:List Pat,AD f ks=ks.all (fT f)
 | []=> by rw[AD];rfl
 | k::ks=> by rw[AD,GN f ks,List.all_cons]
theorem gI (f:Pat→Bool) (p:Pat):fT f p=(f p && p.kids.all (fT f)):=by cases p;rw[fT,GN]
mutual
def dc:Pat→Int→Bool | .mk _ _ _ _ _ _ ks,d=> decide (d≤100) && sJ ks (d+1)
def sJ:List Pat→Int→Bool | [],_=> true | k::ks,d=> dc k d && sJ ks d
end
theorem zQ (d:Int): ∀ks:List Pat,sJ ks d=ks.all (dc · d)
 | []=> by rw[sJ];rfl
 | k::ks=> by rw[sJ,zQ d ks,List.all_cons]
theorem mj (p:Pat) (d:Int):dc p d=(decide (d≤100) && p.kids.all (dc · (d+1))):=by cases p;rw[dc,zQ]
theorem JQ (p:Pat): ∀d d':Int,d'≤d→dc p d=true→dc p d'=true:=by
 induction p using xg with | _ p ih=> ?_
 intro d d' h
 rw[mj,mj]
 simp only[Bool.and_eq_true,decide_eq_true_eq,List.all_eq_true]
 exact fun⟨h1,h2⟩=> ⟨by omega,fun k hk=> ih k hk (d+1) (d'+1) (by omega) (h2 k hk)⟩
def Cs (p:Pat):Prop:=(p.op=1∧p.reg=⟨#[]⟩∧p.mn=0∧p.mx=0∧p.kids= [])∨
 ((p.op=2∨p.op=3)∧p.cond=Cond0∧p.lab=⟨#[]⟩∧p.mn=0∧p.mx=0∧p.kids= [])∨
 ((p.op=4∨p.op=5)∧p.cond=Cond0∧p.lab=⟨#[]⟩∧p.reg=⟨#[]⟩∧p.mn=0∧p.mx=0∧2≤p.kids.length)∨
 (p.op=6∧p.cond=Cond0∧p.lab=⟨#[]⟩∧p.reg=⟨#[]⟩∧p.kids.length=1)
noncomputable def nq (p:Pat):Bool:= @decide (Cs p) (Classical.propDecidable _)
theorem BR (p:Pat):nq p=true↔Cs p:= @decide_eq_true_iff (Cs p) (Classical.propDecidable _)
def BQ (p:Pat):Bool:=decide (p.op=6→0≤p.mn∧p.mn≤16∧(p.mx= -1∨p.mn≤p.mx∧p.mx≤16))
def Al (v:B→Bool) (p:Pat):Bool:=decide (((p.op=2∨p.op=3)→v p.reg=true)∧(p.lab≠ ⟨#[]⟩→v p.lab=true))
noncomputable def sa (v:B→Bool) (p:Pat):Bool:=dc p 1 && fT nq p && fT (Al v) p && fT BQ p
theorem L9 {v:B→Bool} {p k:Pat} (h:sa v p=true) (hk:k∈p.kids):sa v k=true:=by
 unfold sa at*
 rw[gI,gI,gI BQ,mj] at h
 simp only[Bool.and_eq_true,List.all_eq_true] at h
 obtain⟨⟨⟨⟨_,h1⟩,_,h2⟩,_,h3⟩,_,h4⟩:=h
 rw[h2 k hk,h3 k hk,h4 k hk,JQ k _ 1 (by omega) (h1 k hk)]
 rfl
theorem IN {v:B→Bool} {p:Pat} (h:sa v p=true):nq p=true∧Al v p=true∧BQ p=true:=by
 unfold sa at*
 rw[gI,gI,gI BQ] at h
 simp only[Bool.and_eq_true] at h
 exact⟨h.1.1.2.1,h.1.2.1,h.2.1⟩
def Cz (p:Pat) (n:Int):Int:=if p.kids= [] then 1 else if p.op=6 then(if p.mx= -1 then min (n* (p.mn+1)) 1000 else if p.mx=0 then n else min (n*p.mx) 1000) else n
mutual
def mL:Pat→Int | .mk op c l r mn mx ks=> Cz ⟨op,c,l,r,mn,mx,ks⟩ (js ks 0)
def js:List Pat→Int→Int | [],n=> n | k::ks,n=> js ks (min (n+mL k) 1000)
end
theorem sI (p:Pat):mL p=Cz p (js p.kids 0):=by cases p;rw[mL]
theorem N7 (a b:List Pat) (n:Int):js (a++b) n=js b (js a n):=by
 induction a generalizing n with
 | nil=> rfl
 | cons k a ih=> simp only[List.cons_append,js];exact ih _
mutual
def aW:Pat→List Pat | .mk op c l r mn mx ks=> if op=1 then[⟨op,c,l,r,mn,mx,ks⟩] else wq ks
def wq:List Pat→List Pat | []=> [] | k::ks=> aW k++wq ks
end
theorem CF: ∀ks:List Pat,wq ks=ks.flatMap aW
 | []=> by rw[wq];rfl
 | k::ks=> by rw[wq,CF ks,List.flatMap_cons]
theorem bJ (p:Pat):aW p=if p.op=1 then[p] else p.kids.flatMap aW:=by cases p;rw[aW,CF]
theorem F7 (p:Pat): (aW p).length≤xI p:=by
 induction p using xg with | _ p ih=> ?_
 rw[bJ,rI]
 split
 ·simp
 ·have: ∀ks:List Pat,(∀k∈ks,(aW k).length≤xI k)→(ks.flatMap aW).length≤gP ks:=by
   intro ks
   induction ks with
   | nil=> intro _;simp[gP]
   | cons k ks ih=>
     intro h
     rw[List.flatMap_cons,List.length_append,gP]
     have h1:=h k (by simp)
     have h2:=ih fun x hx=> h x (by simp[hx])
     omega
  have:=this p.kids ih
  omega
theorem tm: ∀ (ks:List Pat) (n:Int),0≤n→n≤1000→(∀k∈ks,0≤mL k)→0≤js ks n∧js ks n≤1000
 | [],n,h0,h1,_=> by rw[js];exact⟨h0,h1⟩
 | k::ks,n,h0,h1,h=> by
   rw[js]
   have:=h k (by simp)
   exact tm ks _ (by omega) (by omega) fun x hx=> h x (by simp[hx])
theorem Q4 {v:B→Bool} (p:Pat):sa v p=true→0≤mL p∧mL p≤1000:=by
 induction p using xg with | _ p ih=> ?_
 intro h
 have hk:=tm p.kids 0 (by omega) (by omega) fun k hk=> (ih k hk (L9 h hk)).1
 have hn:=(IN h).2.2
 unfold BQ at hn
 rw[decide_eq_true_eq] at hn
 rw[sI]
 generalize js p.kids 0=n at hk
 unfold Cz
 split
 ·omega
 ·split
  ·rename_i h6
   have hn:=hn h6
   split
   ·have:0≤n* (p.mn+1):=Int.mul_nonneg hk.1 (by omega)
    omega
   ·split
    ·exact hk
    ·have:0≤n*p.mx:=Int.mul_nonneg hk.1 (by omega)
     omega
  ·exact hk
end Go.Gv

namespace Go.Gv
def qcg:B:=⟨#[115]⟩
def XR:B:=⟨#[110,112]⟩
def qeb:B:=⟨#[116]⟩
def qaz:B:=⟨#[120]⟩
def qay:B:=⟨#[121]⟩
def pQ:List B:= [qcg,XR,qeb]
def Reps:List (Int×Int):= [(0,1),(0, -1),(1, -1),(2,2),(0,2),(1,3),(0,0)]
def ZZ (lb:List B) (p:Pat):Prop:=(p.op=1∧(p.lab=⟨#[]⟩∨p.lab∈lb)∧p.reg=⟨#[]⟩∧p.mn=0∧p.mx=0∧p.kids= [])∨((p.op=2∨p.op=3)∧p.cond=Cond0∧p.lab=⟨#[]⟩∧p.reg∈pQ∧p.mn=0∧p.mx=0∧p.kids= [])
def WP (lb:List B):Nat→Pat→Prop
 | 0,p=> ZZ lb p
 | n+1,p=> ZZ lb p∨((p.op=4∨p.op=5)∧p.cond=Cond0∧p.lab=⟨#[]⟩∧p.reg=⟨#[]⟩∧p.mn=0∧p.mx=0∧ ∃a b,p.kids= [a,b]∧WP lb n a∧WP lb n b)∨
   (p.op=6∧p.cond=Cond0∧p.lab=⟨#[]⟩∧p.reg=⟨#[]⟩∧(p.mn,p.mx) ∈Reps∧ ∃a,p.kids= [a]∧WP lb n a)
theorem qaL {lb:List B} {n:Nat} {p:Pat} (h:ZZ lb p):WP lb n p:=by
 cases n
 ·exact h
 ·exact .inl h
def Jm (lb:List B):Prop:= ∀l∈lb,l=qaz∨l=qay
theorem qa {lb:List B} {n:Nat} {p:Pat} (h:WP lb n p):ZZ lb p∨ ∃m,n=m+1∧(((p.op=4∨p.op=5)∧p.cond=Cond0∧p.lab=⟨#[]⟩∧p.reg=⟨#[]⟩∧p.mn=0∧p.mx=0∧ ∃a b,p.kids= [a,b]∧WP lb m a∧WP lb m b)∨
 (p.op=6∧p.cond=Cond0∧p.lab=⟨#[]⟩∧p.reg=⟨#[]⟩∧(p.mn,p.mx) ∈Reps∧ ∃a,p.kids= [a]∧WP lb m a)):=by
 cases n with
 | zero=> exact .inl h
 | succ m=> exact h.elim .inl fun h=> .inr ⟨m,rfl,h⟩
theorem yu {lb:List B} {C:Nat→Pat→Prop} (h: ∀n p,WP lb n p→(∀k∈p.kids,∃m,n=m+1∧WP lb m k∧C m k)→C n p): ∀n p,WP lb n p→C n p:=by
 intro n
 induction n with
 | zero=>
   intro p hp
   refine h 0 p hp fun k hk=> ?_
   rcases hp with hp | hp
   ·rw[hp.2.2.2.2.2] at hk;simp at hk
   ·rw[hp.2.2.2.2.2.2] at hk;simp at hk
 | succ m ih=>
   intro p hp
   refine h (m+1) p hp fun k hk=> ⟨m,rfl,?_⟩
   have:WP lb m k:=by
    rcases hp with(hp | hp) | hp | hp
    ·rw[hp.2.2.2.2.2] at hk;simp at hk
    ·rw[hp.2.2.2.2.2.2] at hk;simp at hk
    ·obtain⟨a,b,e,ha,hb⟩:=hp.2.2.2.2.2.2
     rw[e] at hk
     simp at hk
     rcases hk with rfl | rfl
     ·exact ha
     ·exact hb
    ·obtain⟨a,e,ha⟩:=hp.2.2.2.2.2
     rw[e] at hk
     simp at hk
     subst hk
     exact ha
   exact⟨this,ih k this⟩
theorem Pu {v:B→Bool} {lb:List B} (hl:Jm lb) (hv:v qcg=true∧v XR=true∧v qeb=true∧v qaz=true∧v qay=true): ∀n p,WP lb n p→n≤90→sa v p=true:=by
 have key: ∀n p,WP lb n p→(n≤90→ ∀d:Int,d+n≤100→dc p d=true)∧fT nq p=true∧fT (Al v) p=true∧fT BQ p=true:=by
  refine yu fun n p hp ih=> ?_
  have hnode:nq p=true∧Al v p=true∧BQ p=true:=by
   rw[BR]
   unfold Cs Al BQ
   rw[decide_eq_true_eq,decide_eq_true_eq]
   have hr: (p.mn,p.mx) ∈Reps→0≤p.mn∧p.mn≤16∧(p.mx= -1∨p.mn≤p.mx∧p.mx≤16):=by
    intro h
    simp[Reps] at h
    omega
   have ht:p.reg∈pQ→v p.reg=true:=by
    intro h
    simp[pQ] at h
    rcases h with h | h | h <;> rw[h]
    ·exact hv.1
    ·exact hv.2.1
    ·exact hv.2.2.1
   rcases qa hp with(⟨h1,h2,h3,h4,h5,h6⟩ | ⟨h1,h2,h3,h4,h5,h6,h7⟩) | ⟨m,_,(⟨h1,h2,h3,h4,h5,h6,a,b,h7,_⟩ | ⟨h1,h2,h3,h4,h5,a,h7,_⟩)⟩
   ·refine⟨.inl ⟨h1,h3,h4,h5,h6⟩,⟨fun h=> by omega,fun hne=> ?_⟩,fun h=> by omega⟩
    rcases h2 with h2 | h2
    ·exact absurd h2 hne
    ·rcases hl _ h2 with h | h <;> rw[h]
     ·exact hv.2.2.2.1
     ·exact hv.2.2.2.2
   ·exact⟨.inr (.inl ⟨h1,h2,h3,h5,h6,h7⟩),⟨fun _=> ht h4,fun h=> absurd h3 h⟩,fun h=> by omega⟩
   ·exact⟨.inr (.inr (.inl ⟨h1,h2,h3,h4,h5,h6,by rw[h7];simp⟩)),⟨fun h=> by omega,fun h=> absurd h3 h⟩,fun h=> by omega⟩
   ·exact⟨.inr (.inr (.inr ⟨h1,h2,h3,h4,by rw[h7];simp⟩)),⟨fun h=> by omega,fun h=> absurd h3 h⟩,fun _=> hr h5⟩
  refine⟨fun hn d hd=> ?_,?_,?_,?_⟩
  ·rw[mj,Bool.and_eq_true,decide_eq_true_eq,List.all_eq_true]
   refine⟨by omega,fun k hk=> ?_⟩
   obtain⟨m,e,_,h,_⟩:=ih k hk
   exact h (by omega) _ (by omega)
  ·rw[gI,Bool.and_eq_true,List.all_eq_true]
   exact⟨hnode.1,fun k hk=> by obtain⟨m,e,_,h⟩:=ih k hk;exact h.2.1⟩
  ·rw[gI,Bool.and_eq_true,List.all_eq_true]
   exact⟨hnode.2.1,fun k hk=> by obtain⟨m,e,_,h⟩:=ih k hk;exact h.2.2.1⟩
  ·rw[gI,Bool.and_eq_true,List.all_eq_true]
   exact⟨hnode.2.2,fun k hk=> by obtain⟨m,e,_,h⟩:=ih k hk;exact h.2.2.2⟩
 intro n p hp hn
 obtain⟨h1,h2,h3,h4⟩:=key n p hp
 unfold sa
 rw[h1 hn 1 (by omega),h2,h3,h4]
 rfl
theorem Pt {lb:List B} : ∀n p,WP lb n p→n≤5→1≤mL p∧mL p≤3^n∧xI p+1≤2^ (n+1):=by
 refine yu fun n p hp ih hn=> ?_
 have hb: (1:Int)≤3^n∧1≤2^n:=⟨Int.pow_pos (by omega),Nat.one_le_two_pow⟩
 rcases qa hp with(⟨h1,h2,h3,h4,h5,h6⟩ | ⟨h1,h2,h3,h4,h5,h6,h7⟩) | ⟨m,rfl,(⟨h1,h2,h3,h4,h5,h6,a,b,h7,_⟩ | ⟨h1,h2,h3,h4,h5,a,h7,_⟩)⟩
 ·rw[sI,Cz,if_pos h6,rI,h6,gP,Nat.pow_succ];omega
 ·rw[sI,Cz,if_pos h7,rI,h7,gP,Nat.pow_succ];omega
 ·obtain⟨m1,e1,_,a1⟩:=ih a (by rw[h7];simp)
  obtain⟨m2,e2,_,a2⟩:=ih b (by rw[h7];simp)
  have e1:m1=m:=by omega
  have e2:m2=m:=by omega
  subst e1;subst e2
  have a1:=a1 (by omega)
  have a2:=a2 (by omega)
  rw[sI,Cz,if_neg (by rw[h7];simp),if_neg (by omega),rI,h7]
  simp only[js,gP]
  rw[Int.pow_succ,Nat.pow_succ]
  rw[Nat.pow_succ] at a1 a2 ⊢
  have h2: (0:Int)≤3^m2:=by omega
  have: (3:Int) ^m2≤243:=by
   have:m2=0∨m2=1∨m2=2∨m2=3∨m2=4:=by omega
   rcases this with rfl | rfl | rfl | rfl | rfl <;> decide
  omega
 ·obtain⟨m1,e1,_,a1⟩:=ih a (by rw[h7];simp)
  have e1:m1=m:=by omega
  subst e1
  have a1:=a1 (by omega)
  rw[sI,Cz,if_neg (by rw[h7];simp),if_pos h1,rI,h7]
  simp only[js,gP]
  rw[Int.pow_succ,Nat.pow_succ]
  rw[Nat.pow_succ] at a1 ⊢
  have: (3:Int) ^m1≤243:=by
   have:m1=0∨m1=1∨m1=2∨m1=3∨m1=4:=by omega
   rcases this with rfl | rfl | rfl | rfl | rfl <;> decide
  simp only[Reps,List.mem_cons,Prod.mk.injEq,List.not_mem_nil,or_false] at h5
  rw[show min (0+mL a) 1000=mL a by omega]
  rcases h5 with⟨e1,e2⟩ | ⟨e1,e2⟩ | ⟨e1,e2⟩ | ⟨e1,e2⟩ | ⟨e1,e2⟩ | ⟨e1,e2⟩ | ⟨e1,e2⟩ <;> rw[e1,e2] <;> simp <;> omega
end Go.Gv

namespace Go.Gv
theorem IP (a b:List Pat):gP (a++b)=gP a+gP b:=by
 induction a with
 | nil=> simp[gP]
 | cons k a ih=> simp only[List.cons_append,gP];omega
end Go.Gv

namespace Go.Gv
def CS:Nat→Cond→Prop
 | 0,c=> c.kids= []
 | n+1,c=> c.kids.length≤2∧ ∀k∈c.kids,CS n k
theorem Pb {n:Nat} {c:Cond} (h:c.kids= []):CS n c:=by
 cases n
 ·exact h
 ·exact⟨by rw[h];exact Nat.zero_le _,fun k hk=> by rw[h] at hk;simp at hk⟩
theorem ZM {n m:Nat} {c a:Cond} (hm:n=m+1) (h:c.kids= [a]) (ha:CS m a):CS n c:=by
 subst hm
 refine⟨by rw[h];exact Nat.le_succ _,fun k hk=> ?_⟩
 rw[h] at hk
 have:k=a:=by simpa using hk
 subst this
 exact ha
theorem ZL {n m:Nat} {c a b:Cond} (hm:n=m+1) (h:c.kids= [a,b]) (ha:CS m a) (hb:CS m b):CS n c:=by
 subst hm
 refine⟨by rw[h];exact Nat.le_refl _,fun k hk=> ?_⟩
 rw[h] at hk
 have:k=a∨k=b:=by simpa using hk
 rcases this with rfl | rfl
 ·exact ha
 ·exact hb
theorem XD {n:Nat} {c d:Cond} (h:c.kids=d.kids) (hd:CS n d):CS n c:=by
 cases n
 ·exact h.trans hd
 ·exact⟨by rw[h];exact hd.1,fun k hk=> hd.2 k (by rw[←h];exact hk)⟩
theorem ZN {n:Nat} {c:Cond} (h:CS n c):c.kids.length≤2:=by
 cases n
 ·have:c.kids= []:=h
  rw[this];exact Nat.zero_le _
 ·exact h.1
def PD:Nat→Pat→Prop
 | 0,p=> (∃m,CS m p.cond)∧p.kids= []
 | n+1,p=> (∃m,CS m p.cond)∧p.kids.length≤2∧ ∀k∈p.kids,PD n k
theorem Tz {n:Nat} {p:Pat} (hc: ∃m,CS m p.cond) (h:p.kids= []):PD n p:=by
 cases n
 ·exact⟨hc,h⟩
 ·exact⟨hc,by rw[h];exact Nat.zero_le _,fun k hk=> by rw[h] at hk;simp at hk⟩
theorem Y2 {n m:Nat} {p a:Pat} (hm:n=m+1) (hc: ∃m,CS m p.cond) (h:p.kids= [a]) (ha:PD m a):PD n p:=by
 subst hm
 refine⟨hc,by rw[h];exact Nat.le_succ _,fun k hk=> ?_⟩
 rw[h] at hk
 have:k=a:=by simpa using hk
 subst this
 exact ha
theorem Ty {n m:Nat} {p a b:Pat} (hm:n=m+1) (hc: ∃m,CS m p.cond) (h:p.kids= [a,b]) (ha:PD m a) (hb:PD m b):PD n p:=by
 subst hm
 refine⟨hc,by rw[h];exact Nat.le_refl _,fun k hk=> ?_⟩
 rw[h] at hk
 have:k=a∨k=b:=by simpa using hk
 rcases this with rfl | rfl
 ·exact ha
 ·exact hb
theorem Qk: ∃m,CS m Cond0:=⟨0,rfl⟩
theorem WM {n:Nat} {p:Pat} (h:PD n p): ∃m,CS m p.cond:=by cases n <;> exact h.1
theorem Y3 {n:Nat} {p:Pat} (h:PD n p):p.kids.length≤2:=by
 cases n
 ·rw[h.2];exact Nat.zero_le _
 ·exact h.2.1
theorem Y4 {n:Nat} {p k:Pat} (h:PD n p) (hk:k∈p.kids): ∃m,n=m+1∧PD m k:=by
 cases n
 ·rw[h.2] at hk;simp at hk
 ·exact⟨_,rfl,h.2.2 k hk⟩
theorem ZO {n:Nat} {p k:Cond} (h:CS n p) (hk:k∈p.kids): ∃m,n=m+1∧CS m k:=by
 cases n
 ·have h:p.kids= []:=h
  rw[h] at hk;simp at hk
 ·exact⟨_,rfl,h.2 k hk⟩
end Go.Gv

namespace Go.Gv
open Go.Proofs
def G5:CC:=oX [oB 4 (.mv (oN 0))] [0,1] [] (.seq (oX [oA 5 1,oB 6 (.cmp .lss (oT 5) (oN 1))] [0,1,6] [] (.ite (oT 6) (oX [oB 4 (.mv (oN 0))] [4] [] (.ret)) (.skip))) (.keep [0,1] [] (oX [oA 7 0,oA 8 1,oB 9 (.arith .rem (oT 7) (oT 8)),oA 0 9] [0,1] [] (.seq (oX [oA 10 0,oB 11 (.cmp .lss (oT 10) (oN 0))] [0,1,11] [] (.ite (oT 11) (.reg [oA 12 0,oA 13 1,
 oB 14 (.arith .add (oT 12) (oT 13)),oA 0 14]) (.skip))) (.keep [0] [] (oX [oA 15 0,oA 4 15] [4] [] (.ret)))))))
def Fq:List aK:= [.tmp 4]
def Uq:List Nat:= []
theorem TJ:aS Tryz.prog oo Uq G5 Fq 16:=aA ay (by kernel_rfl)
-- r04_ValidName while id=0: live [0:s, 3:i] changed [3] res []
def Cq:CC:=oX [oB 2 (.mv (oS ⟨#[]⟩))] [0] [] (oX [oB 3 (.bslice az 1 [oS ⟨#[115]⟩,oS ⟨#[110,112]⟩,oS ⟨#[116]⟩]),oA 4 0,oZ 5 oo [oT 4,oN 3],oB 6 (.iaddr 1 (oT 3) (oT 5)),oC 7 1 6,oA 2 7] [2] [] (.ret))
def Br:List aK:= [.tmp 2]
def Rx:List Nat:= []
theorem Ri:aS Tryz.prog gW Rx Cq Br 8:=aA ay (by kernel_rfl)
def qY:CC:=oX [oB 4 (.mv (oN 0))] [0,1] [] (.seq (.seq (.regd [oA 5 0,oG 6 5,oE 7 1 6,oC 8 1 7,oA 9 0,oG 10 9,oE 11 0 10,oC 12 1 11,oB 13 (.len (oT 12))] [oB 14 (.cmp .geq (oT 8) (oT 13))]) (.keep [0,1,14] [] (.ite (oT 14) (oX [oB 4 (.mv (oN 0))] [4] [] (.ret)) (.skip)))) (.keep [0,1] [] (oX [oA 15 0,oG 16 15,oE 17 1 16,oC 18 1 17,
 oB 19 (.arith .add (oT 18) (oN 1)),oG 20 15,oE 21 1 20,oF 1 21 19] [0,1] [] (.seq (.regd [oA 22 0,oG 23 22,oE 24 0 23,oC 25 1 24,oA 26 0,oG 27 26,oE 28 1 27,oC 29 1 28,oB 30 (.arith .sub (oT 29) (oN 1)),oB 31 (.iaddr 1 (oT 25) (oT 30)),oC 32 1 31,oA 33 1] [oZ 34 oo [oT 32,oT 33],oA 4 34]) (.keep [4] [] (.ret))))))
def vN:List aK:= [.tmp 4]
def Gt:List Nat:= []
theorem FW:aS Tryz.prog am Gt qY vN 35:=aA ay (by kernel_rfl)
def G4:CC:=oX [oB 2 (.mv (.const (.pointer none)))] [0] [] (.seq (oX [oA 3 0,oB 4 (.len (oT 3)),oB 5 (.cmp .gtr (oT 4) (oN 120))] [0,5] [] (.ite (oT 5) (.reg [oA 6 0,oB 7 (.slice 1 (oT 6) none (some (oN 120))),oA 0 7]) (.skip))) (.keep [0] [] (oX [oA 8 0,oB 9 (.build [on,oi] [(0,1,oT 8)]),oB 10 (.box xG false (oT 9)),oA 2 10] [2] [10] (.ret))))
def Fp:List aK:= [.tmp 2]
def Up:List Nat:= [999]
theorem TI:aS Tryz.prog AB Up G4 Fp 11:=aA ay (by kernel_rfl)
end Go.Gv

namespace Go.Gv
open Cod (enc dec)
variable {S:Nat→Spc}
def If (x n:Int):Int:=if n < 1 then 0 else if x.tmod n < 0 then x.tmod n+n else x.tmod n
abbrev xe:Spc:=cY (a2 Int Int) (fun x=> x.2≤1000000000) enc fun x y=> y=If x.1 x.2
theorem Wn:Walk G5 Fq S (a2 Int Int) (fun x=> x.2≤1000000000) enc fun x y=> y=If x.1 x.2:=by
 rintro⟨a,b⟩ hl
 simp at hl
 simp[G5,Fq,If]
 refine⟨fun h1 h2=> by omega,fun h1=> ⟨by omega,fun h2=> ⟨?_,?_⟩,fun h2=> ?_⟩⟩
 ·have:=Int.lt_tmod_of_pos a (b:=b) (by omega)
  simp[InR];omega
 ·rw[if_neg (by omega),if_pos h2]
 ·rw[if_neg (by omega),if_neg (by omega)]
end Go.Gv

namespace Go.Gv
open Cod (enc dec)
def qbd (s t:Spc):Spc:= .gen (fun d ds H K=> s.pt d ds H K∨t.pt d ds H K) fun d ds H K K' hk h=> h.elim (fun h=> .inl (s.mono d ds H K K' hk h)) (fun h=> .inr (t.mono d ds H K K' hk h))
@[simp] theorem qeR (s t:Spc) (d:Nat) (ds:List D) (H:ae) (K:D→ae→Prop): (qbd s t).pt d ds H K=(s.pt d ds H K∨t.pt d ds H K):=id rfl
theorem N3 {P:Program} {f:Nat} {s t:Spc} (h1:Tri P f s.pt) (h2:Tri P f t.pt):Tri P f (qbd s t).pt:=fun O tp w vs ds H d K a b c e g h=> h.elim (fun h=> h1 O tp w vs ds H d K a b c e g h) (fun h=> h2 O tp w vs ds H d K a b c e g h)
section
variable {X Y:Type} [Cod Y]
def qgZ (A:lB X) (pre:X→Prop) (post:X→List Y→Prop) (el n:Nat):PT:=fun d ds H K=> mW (A.dec ds) fun x=> pre x∧ ∀v l,post x l→K (.own d v) (aq H d (some (.row v el n (l.map enc))))
theorem Re {o:Option X} {k k':X→Prop} (h: ∀x,k x→k' x) (ho:mW o k):mW o k':=by
 cases o with
 | none=> exact ho
 | some x=> exact h x ho
theorem Xs (A:lB X) (pre:X→Prop) (post:X→List Y→Prop) (el n:Nat):uD (qgZ A pre post el n):=fun d ds H K K' hk h=> Re (fun x h=> ⟨h.1,fun v l hp=> hk _ _ (h.2 v l hp)⟩) h
def qbI (A:lB X) (pre:X→Prop) (post:X→List Y→Prop) (el n:Nat):Spc:= .gen _ (Xs A pre post el n)
@[simp] theorem Zr (A:lB X) (pre:X→Prop) (post:X→List Y→Prop) (el n:Nat) (d:Nat) (ds:List D) (H:ae) (K:D→ae→Prop): (qbI A pre post el n).pt d ds H K=mW (A.dec ds) fun x=> pre x∧ ∀v l,post x l→K (.own d v) (aq H d (some (.row v el n (l.map enc)))):=id rfl
def Z9 (el n:Nat) (q:List Y→Prop) (r:D) (H':ae):Prop:= ∃j v l,r= .own j v∧H' j=some (.row v el n (l.map enc))∧q l
theorem kM {el n:Nat} {q:List Y→Prop} {j:Nat} {v:Value} {H':ae} (l:List Y) (h:H' j=some (.row v el n (l.map enc))) (hq:q l):Z9 el n q (.own j v) H':=⟨j,v,l,rfl,h,hq⟩
def Qq (cc:CC) (rs:List aK) (S:Nat→Spc) (A:lB X) (pre:X→Prop) (post:X→List Y→Prop) (el n:Nat):Prop:=
 ∀x,pre x→vc S cc (vO rs fun r H'=> Z9 el n (post x) r H') (eS (A.view x)) cZ
variable {P:Program} {S:Nat→Spc} {f:Nat} {im:List Nat} {cc:CC} {rs:List aK} {N:Nat} {A:lB X} {el n:Nat}
theorem A3 {pre:X→Prop} {post:X→List Y→Prop} (hS: ∀f,Tri P f (S f).pt) (h:aS P f im cc rs N) (hN: ∀x,(A.view x).length≤N) (hw:Qq cc rs S A pre post el n):Tri P f (qbI A pre post el n).pt:=by
 obtain⟨Ea,enter,fn,code,h1,h2,h3,h4,h5⟩:=h
 refine nt hS Ea h1 h2 enter h3 h4 h5 ?_
 intro ds H d K hA
 rw[Zr] at hA
 cases hd:A.dec ds with
 | none=> rw[hd] at hA;exact hA.elim
 | some x=>
   rw[hd] at hA
   obtain⟨hp,hK⟩:=hA
   have hl:=A.le ds x hd
   refine⟨by rw[hl.1];exact hN x,A.view x,cZ,id,hl,fun i r h=> by simp at h,fun i j r s h=> by simp at h,_,hw x hp,?_⟩
   rintro r H' ⟨j,v,l,rfl,hj,hpost⟩
   refine⟨.own d v,cZ,aq H d (some (.row v el n (l.map enc))),fun i=> if i=d then some j else none, .own _ _ _,fun j q h=> by simp at h,hK v l hpost,fun i s hi=> ?_,fun i j' k s q hi hj' e1 e2=> ?_⟩
   ·by_cases e:i=d
    ·subst e
     simp only[aq,if_true] at hi
     cases hi
     simpa using hj
    ·simp only[aq,e,if_false] at hi ⊢
     exact⟨hi,fun k q h=> by simp at h⟩
   ·have a:i=d:=by
     by_cases e:i=d
     ·exact e
     ·simp[e] at e1
    have b:j'=d:=by
     by_cases e:j'=d
     ·exact e
     ·simp[e] at e2
    exact a.trans b.symm
end
def aD {X:Type} (A:lB X):lB (D×X):=⟨fun ds=> match ds with | d::r=> (A.dec r).map fun x=> (d,x) | _=> none,fun x=> x.1::A.view x.2,fun ds x h=> by
 split at h
 ·simp only[Option.map_eq_some_iff] at h
  obtain⟨y,hy,rfl⟩:=h
  exact .cons (.same _) (A.le _ _ hy)
 ·cases h⟩
def aE (X:Type) [Cod X] {Y:Type} (A:lB Y):lB (X×Y):=⟨fun ds=> match ds with | d::r=> (dec d).bind fun x=> (A.dec r).map fun y=> (x,y) | _=> none,fun x=> enc x.1::A.view x.2,fun ds x h=> by
 split at h
 ·simp only[Option.bind_eq_some_iff,Option.map_eq_some_iff] at h
  obtain⟨x,hx,y,hy,rfl⟩:=h
  exact .cons (Cod.le _ _ hx) (A.le _ _ hy)
 ·cases h⟩
@[simp] theorem qhP {X:Type} (A:lB X) (d:D) (r:List D): (aD A).dec (d::r)=(A.dec r).map fun x=> (d,x):=id rfl
@[simp] theorem qej {X:Type} (A:lB X) (d:D) (x:X): (aD A).view (d,x)=d::A.view x:=id rfl
@[simp] theorem qhO {X Y:Type} [Cod X] (A:lB Y) (d:D) (r:List D): (aE X A).dec (d::r)=(dec d).bind fun x=> (A.dec r).map fun y=> (x,y):=id rfl
@[simp] theorem qei {X Y:Type} [Cod X] (A:lB Y) (x:X) (y:Y): (aE X A).view (x,y)=enc x::A.view y:=id rfl
def FunIs {X Y:Type} [Cod X] [Cod Y] (S:Nat→Spc) (d:D) (p:X→Y):Prop:=
 ∃g caps pc,d= .clo g caps∧S g= .pure pc∧ ∀x:X,pc.pre (enc x::caps)∧ ∀r,pc.post (enc x::caps) r→r=enc (p x)
theorem FunIs.use' {X Y:Type} [Cod X] [Cod Y] {S:Nat→Spc} {d:D} {p:X→Y} (h:FunIs S d p) (x:X) (d':Nat) (H:ae) (K:D→ae→Prop) (hk: ∀y:Y,(∀q,FunIs S d q→y=q x)→K (enc y) H):AI S d d' [enc x] H K:=by
 obtain⟨g,caps,pc,rfl,h1,h2⟩:=h
 simp only[AI,h1,Spc.pt]
 refine⟨(h2 x).1,fun r hr=> ?_⟩
 have e:=(h2 x).2 r hr
 rw[e]
 refine hk (p x) fun q hq=> ?_
 obtain⟨g',caps',pc',e',k1,k2⟩:=hq
 cases e'
 rw[h1] at k1
 cases k1
 exact rO (e.symm.trans ((k2 x).2 r hr))
theorem FunIs.useB {X:Type} [Cod X] {S:Nat→Spc} {d:D} {p:X→Bool} (h:FunIs S d p) (x:X) {d':Nat} {H:ae} {K:D→ae→Prop} (hk: ∀y:Bool,(∀q,FunIs S d q→y=q x)→K (.v (.bool y)) H):AI S d d' [enc x] H K:=h.use' x d' H K hk
section
variable {X Y Z:Type} [Cod Y]
end
end Go.Gv

namespace Go.Gv
def RSub (r r':Res):Prop:=r=r'∨ ∃b cs cs',r= .box b cs∧r'= .box b cs'∧cs.length=cs'.length∧ ∀ (m:Nat) (c c':D),cs[m]?=some c→cs'[m]?=some c'→Ph c c'
theorem RSub.blk {r r':Res} (h:RSub r r'):r'.blk=r.blk:=by
 rcases h with rfl | ⟨b,cs,cs',rfl,rfl,_⟩ <;> rfl
theorem RSub.ok {tp I:Nat→Prop} {w w':World} {r r':Res} (h:RSub r r') (hr:ResOk (R tp I w) w' r):ResOk (R tp I w) w' r':=by
 rcases h with rfl | ⟨b,cs,cs',rfl,rfl,hl,hc⟩
 ·exact hr
 ·obtain⟨xs,el,h1,h2,h3⟩:=hr
  refine⟨xs,el,h1,h2.trans hl,fun k y c hy hc'=> ?_⟩
  have hk:k < cs.length:=by rw[hl];exact(List.getElem?_eq_some_iff.1 hc').1
  have h4:=h3 k y cs[k] hy (List.getElem?_eq_getElem hk)
  exact⟨h4.1,Yp (hc k _ _ (List.getElem?_eq_getElem hk) hc') h4.2⟩
section
variable {S:Nat→Spc} {σ σ1:Sg} {H H1:ae} {K:Ex→Sg→ae→Prop}
theorem SP {k:Nat} {b:CC} (hw:Wk σ H σ1 H1) (h:vc S (.loop k b) K σ1 H1):vc S (.loop k b) K σ H:=by
 rw[K3] at h ⊢
 obtain⟨I,⟨x,h1,h2⟩,h3⟩:=h
 exact⟨I,⟨x,h1,fun E a w hs=> h2 E a w (hw E a w hs)⟩,h3⟩
theorem QZ {id i n c id2 i2:Nat} {body:CC} (hw:Wk σ H σ1 H1) (h:vc S (bn id i n c id2 body i2) K σ1 H1):vc S (bn id i n c id2 body i2) K σ H:=by
 unfold bn at h ⊢
 rw[K4] at h ⊢
 exact SP hw h
end
end Go.Gv

namespace Go.Gv
section
variable {X Y:Type}
variable {P:Program} {S:Nat→Spc} {f:Nat} {im:List Nat} {cc:CC} {rs:List aK} {N:Nat}
end
end Go.Gv

namespace Go.Gv
def HWk (H H2:ae):Prop:= ∀ (E:pR) (tp:Nat→Prop) (w:World),StW E tp H w→StW E tp H2 w∧ ∀x d,R tp (cL E.O tp H w) w x d→R tp (cL E.O tp H2 w) w x d
theorem HWk.refl (H:ae):HWk H H:=fun _ _ _ h=> ⟨h,fun _ _ h=> h⟩
theorem Wk.trans {σ σ1 σ2:Sg} {H H1 H2:ae} (h:Wk σ H σ1 H1) (k:Wk σ1 H1 σ2 H2):Wk σ H σ2 H2:=fun E a w hs=> k E a w (h E a w hs)
def left (k b:Nat) (cs:List D) (ks:List Nat) (H:ae):ae:=fun i=> if i=k then some (.box b cs) else if i∈ks then H i else none
section
variable {S:Nat→Spc} {σ:Sg} {H:ae} {K:Ex→Sg→ae→Prop}
theorem Wx {X:Type} (P:X→Prop) (s:X→Sg) (h:X→ae) {k:Nat} {a b:CC}
 (ha:vc S a (TU (fun σ' H'=> ∃x,P x∧Wk σ' H' (s x) (h x)) K) σ H)
 (hb: ∀x,P x→vc S b K (s x) (h x)):vc S (mu k a b) K σ H:=by
 unfold mu
 rw[M4]
 refine rD a _ _ (fun e σ' H' h=> ?_) ha
 cases e with
 | norm=>
   obtain⟨x,h1,h2⟩:=h
   rw[GU,Qe]
   exact⟨_,_,h2,hb x h1⟩
 | ex i=> exact h
 | ret=> exact h
end
section
variable {P:Program} {im:List Nat} {E:pR} {S:Nat→Spc}
end
end Go.Gv

namespace Go.Gv
open Cod (enc dec)
variable {S S0:Nat→Spc}
theorem Mk (x n:Int) (h:1≤n):0≤If x n∧If x n < n:=by
 unfold If
 rw[if_neg (by omega)]
 have h1:=Int.tmod_lt_of_pos x (show 0 < n by omega)
 have h2: -n < x.tmod n:=by
  have h3:=Int.natAbs_tmod x n
  have h4:x.natAbs % n.natAbs < n.natAbs:=Nat.mod_lt _ (by omega)
  omega
 split <;> omega
def qan:CC:= .reg [
 .op (some 4) none (.mv (.const (.int .i64 0)))]
def Zc:CC:= .seq (.regd [
 .op (some 5) none (.mv (.tmp 0)),
 .op (some 6) none (.nilck (.tmp 5)),
 .op (some 7) none (.faddr 1 (.tmp 6)),
 .op (some 8) none (.load false 1 (.tmp 7)),
 .op (some 9) none (.mv (.tmp 0)),
 .op (some 10) none (.nilck (.tmp 9)),
 .op (some 11) none (.faddr 0 (.tmp 10)),
 .op (some 12) none (.load false 1 (.tmp 11)),
 .op (some 13) none (.len (.tmp 12))] [
 .op (some 14) none (.cmp .geq (.tmp 8) (.tmp 13))]) (.ite (.tmp 14) (.seq (.reg [
  .op (some 4) none (.mv (.const (.int .i64 0)))]) .ret) .skip)
def X6:CC:= .reg [
 .op (some 15) none (.mv (.tmp 0)),
 .op (some 16) none (.nilck (.tmp 15)),
 .op (some 17) none (.faddr 1 (.tmp 16)),
 .op (some 18) none (.load false 1 (.tmp 17)),
 .op (some 19) none (.arith .add (.tmp 18) (.const (.int .i64 1))),
 .op (some 20) none (.nilck (.tmp 15)),
 .op (some 21) none (.faddr 1 (.tmp 20)),
 .op none none (.store none 1 (.tmp 21) (.tmp 19))]
def qam:CC:= .seq (.regd [
 .op (some 22) none (.mv (.tmp 0)),
 .op (some 23) none (.nilck (.tmp 22)),
 .op (some 24) none (.faddr 0 (.tmp 23)),
 .op (some 25) none (.load false 1 (.tmp 24)),
 .op (some 26) none (.mv (.tmp 0)),
 .op (some 27) none (.nilck (.tmp 26)),
 .op (some 28) none (.faddr 1 (.tmp 27)),
 .op (some 29) none (.load false 1 (.tmp 28)),
 .op (some 30) none (.arith .sub (.tmp 29) (.const (.int .i64 1))),
 .op (some 31) none (.iaddr 1 (.tmp 25) (.tmp 30)),
 .op (some 32) none (.load false 1 (.tmp 31)),
 .op (some 33) none (.mv (.tmp 1))] [
 .op (some 34) none (.call oo [(.tmp 32),(.tmp 33)]),
 .op (some 4) none (.mv (.tmp 34))]) .ret
theorem TR:eB qY= .seq qan (.seq Zc (.seq X6 qam)):=rfl
theorem qbl:eB qan=qan:=rfl
theorem qbk:eB Zc=Zc:=rfl
theorem qbj:eB X6=X6:=rfl
theorem qbi:eB qam=qam:=rfl
def X5 (b:Nat) (s:Value) (i n:Int):Ex→Sg→ae→Prop:=fun e σ H=> match e with
 | .norm=> σ 0= .bptr 0 b 0∧σ 1= .v (.int .i64 n)∧H 0=some (.box b [.v s, .v (.int .i64 (i+1))])∧i < slen s
 | .ret=> σ 4= .v (.int .i64 0)∧H 0=some (.box b [.v s, .v (.int .i64 i)])
 | .ex _=> False
@[simp ↓] theorem qiq (b:Nat) (s:Value) (i n:Int) (σ:Sg) (H:ae):X5 b s i n .norm σ H=(σ 0= .bptr 0 b 0∧σ 1= .v (.int .i64 n)∧H 0=some (.box b [.v s, .v (.int .i64 (i+1))])∧i < slen s):=id rfl
@[simp ↓] theorem qip (b:Nat) (s:Value) (i n:Int) (σ:Sg) (H:ae):X5 b s i n .ret σ H=(σ 4= .v (.int .i64 0)∧H 0=some (.box b [.v s, .v (.int .i64 i)])):=id rfl
theorem WV (b:Nat) (a:Option Addr) (len cap:Nat) (i n:Int) (h0:0≤i) (hl: (len:Int)≤9223372036854775807):vc S (.seq qan (.seq Zc X6)) (X5 b (.slice a len cap) i n) (eS [.bptr 0 b 0, .v (.int .i64 n)]) (aq cZ 0 (some (.box b [.v (.slice a len cap), .v (.int .i64 i)]))):=by
 simp[qan,Zc,X6,slen]
 intro h
 exact⟨by simp only[InR];omega,h⟩
def qio (n:Int):Ex→Sg→ae→Prop:=fun e σ H=> match e with
 | .ret=> ∃y,σ 4= .v (.int .i64 y)∧(n < 1∧y=0∨1≤n∧0≤y∧y < n)
 | _=> False
@[simp ↓] theorem qin (n:Int) (σ:Sg) (H:ae):qio n .ret σ H=(∃y,σ 4= .v (.int .i64 y)∧(n < 1∧y=0∨1≤n∧0≤y∧y < n)):=id rfl
theorem WU (hm:S oo=xe) (L:List Int) (i n:Int) (h0:0≤i) (hi:i < L.length) (hn:n≤1000000000) (hl: (L.length:Int)≤9223372036854775807):vc S qam (qio n) (eS [.cptr [.list 1 (L.map enc), .v (.int .i64 (i+1))] 0, .v (.int .i64 n)]) cZ:=by
 obtain⟨x,hx⟩:=cz (l:=L) (k:=i.toNat) (by omega)
 simp[qam,hm]
 refine⟨by simp only[InR];omega,h0,hi,fun a _=> ⟨hn,?_⟩⟩
 rcases Int.lt_or_le n 1 with h | h
 ·exact .inl ⟨h,by simp[If,h]⟩
 ·exact .inr ⟨h,Mk a n h⟩
end Go.Gv
