/- A part of the framework and of the walks: T13 V1 Cd. -/
import Derived.Test.YtaiffcbkmgfklaaGreatDoorProg
import Derived.Test.YtaiffcbkmgfklaaGreatDoorGt16
set_option linter.unusedSimpArgs false
set_option linter.unusedVariables false

namespace Go.Gv
open Cod (enc dec)
theorem pE {X:Type} [Cod X] {x y:X} (h:enc x=enc y):x=y:=by
 have:=congrArg (dec (X:=X)) h
 simpa using this
@[simp] theorem qeS {X:Type} [Cod X] (l l':List X): (l.map enc=l'.map enc)=(l=l'):=by
 refine propext ⟨fun h=> ?_,fun h=> h ▸rfl⟩
 induction l generalizing l' with
 | nil=> cases l' with
   | nil=> rfl
   | cons y l'=> simp at h
 | cons x l ih=> cases l' with
   | nil=> simp at h
   | cons y l'=>
     simp only[List.map_cons,List.cons.injEq] at h
     rw[pE h.1,ih _ h.2]
theorem MF {X:Type} [Cod X] {H:aa} {id n:Nat} {v:Value} {l:List X} (el:Nat) (h:H id=some (.row v el n (l.map enc))) (hn:n=Cod.wd X:=by rfl):FrzTo H (.own id v) (.list n (l.map enc)):=by
 subst hn;exact Py h
inductive Ky where
 | e
 | o (k:Ky)
 | i (k:Ky)
deriving DecidableEq
inductive Tr where
 | nil
 | nd (d:D) (l r:Tr)
def Tr.get:Tr→Ky→D
 | .nil,_=> .any
 | .nd d _ _, .e=> d
 | .nd _ l _, .o k=> l.get k
 | .nd _ _ r, .i k=> r.get k
def Tr.set:Tr→Ky→D→Tr
 | .nil, .e,x=> .nd x .nil .nil
 | .nil, .o k,x=> .nd .any (Tr.set .nil k x) .nil
 | .nil, .i k,x=> .nd .any .nil (Tr.set .nil k x)
 | .nd _ l r, .e,x=> .nd x l r
 | .nd d l r, .o k,x=> .nd d (l.set k x) r
 | .nd d l r, .i k,x=> .nd d l (r.set k x)
noncomputable def Tr.frz (id:Nat) (x:Value) (L:D):Tr→Tr
 | .nil=> .nil
 | .nd d l r=> .nd (Ew id x L d) (l.frz id x L) (r.frz id x L)
def Zj:Nat→Nat→Ky
 | 0,_=> .e
 | f+1,n=> if n=0 then .e else if(n -1) % 2=0 then .o (Zj f ((n -1) /2)) else .i (Zj f ((n -1) /2))
def ky (n:Nat):Ky:=Zj n n
def Ky.val:Ky→Nat
 | .e=> 0
 | .o k=> 2*k.val+1
 | .i k=> 2*k.val+2
theorem BV: ∀ (f n:Nat),n≤f→(Zj f n).val=n
 | 0,n,h=> by
   have:n=0:=by omega
   subst this;rfl
 | f+1,n,h=> by
   unfold Zj
   split
   ·rename_i e;subst e;rfl
   ·split
    ·simp only[Ky.val]
     rw[BV f _ (by omega)]
     omega
    ·simp only[Ky.val]
     rw[BV f _ (by omega)]
     omega
theorem RT {m n:Nat} (h:ky m=ky n):m=n:=by
 have h1:=BV m m (Nat.le_refl _)
 have h2:=BV n n (Nat.le_refl _)
 unfold ky at h
 rw[h] at h1
 exact h1.symm.trans h2
theorem vh: ∀ (T:Tr) (k j:Ky) (x:D),(T.set k x).get j=if j=k then x else T.get j
 | .nil, .e,j,x=> by cases j <;> simp[Tr.set,Tr.get]
 | .nil, .o k,j,x=> by
   have ih:=fun j=> vh .nil k j x
   cases j <;> simp[Tr.set,Tr.get,ih]
 | .nil, .i k,j,x=> by
   have ih:=fun j=> vh .nil k j x
   cases j <;> simp[Tr.set,Tr.get,ih]
 | .nd d l r, .e,j,x=> by cases j <;> simp[Tr.set,Tr.get]
 | .nd d l r, .o k,j,x=> by
   have ih:=fun j=> vh l k j x
   cases j <;> simp[Tr.set,Tr.get,ih]
 | .nd d l r, .i k,j,x=> by
   have ih:=fun j=> vh r k j x
   cases j <;> simp[Tr.set,Tr.get,ih]
def BG (T:Tr):Sg:=fun t=> T.get (ky t)
@[simp] theorem qbn (T:Tr) (t:Nat):BG T t=T.get (ky t):=id rfl
@[simp] theorem qfN (T:Tr) (t:Nat) (d:D):kI (BG T) t d=BG (T.set (ky t) d):=by
 funext s
 simp only[kI,BG,vh]
 by_cases h:s=t
 ·simp[h]
 ·have: ¬ky s=ky t:=fun e=> h (RT e)
  simp[h,this]
theorem Sb:BG .nil=fun _=> .any:=by
 funext t
 simp[BG,Tr.get]
@[simp] theorem qes (σ:Sg):jl [] σ=BG .nil:=by rw[Sb];rfl
@[simp] theorem qbj (t:Nat) (l:List Nat) (σ:Sg):jl (t::l) σ=kI (jl l σ) t (σ t):=id rfl
@[simp] theorem qfw (σ:Sg):o7 [] σ=σ:=id rfl
@[simp] theorem qb6 (t:Nat) (d:D) (l:List (Nat×D)) (σ:Sg):o7 ((t,d)::l) σ=kI (o7 l σ) t d:=id rfl
def AR:Nat→List D→Tr
 | _, []=> .nil
 | n,d::l=> (AR (n+1) l).set (ky n) d
@[simp] theorem Yc (n:Nat):AR n []= .nil:=id rfl
@[simp] theorem WW (n:Nat) (d:D) (l:List D):AR n (d::l)=(AR (n+1) l).set (ky n) d:=id rfl
theorem GW: ∀ (l:List D) (n t:Nat),(AR n l).get (ky t)=if n≤t then(l[t -n]?).getD .any else .any
 | [],n,t=> by simp[AR,Tr.get]
 | d::l,n,t=> by
   rw[AR,vh,GW l (n+1) t]
   by_cases h:t=n
   ·subst h;simp
   ·have: ¬ky t=ky n:=fun e=> h (RT e)
    rw[if_neg this]
    by_cases h2:n+1≤t
    ·have h3:n≤t:=by omega
     rw[if_pos h2,if_pos h3]
     have:t -n=(t - (n+1)) +1:=by omega
     rw[this];simp
    ·have h3: ¬n≤t:=by omega
     rw[if_neg h2,if_neg h3]
@[simp] theorem qeu (l:List D):d4 l=BG (AR 0 l):=by
 funext t
 simp[d4,BG,GW]
@[simp] theorem qhG (id:Nat) (x:Value) (L:D) (T:Tr):Pz id x L (BG T)=BG (T.frz id x L):=by
 funext t
 simp only[Pz,BG]
 generalize ky t=k
 induction T generalizing k with
 | nil=> simp[Tr.frz,Tr.get,Ew]
 | nd d l r ihl ihr=>
   cases k with
   | e=> rfl
   | o k=> exact ihl k
   | i k=> exact ihr k
@[simp] theorem Zt (id:Nat) (x:Value) (L:D):Tr.nil.frz id x L= .nil:=_root_.id rfl
@[simp] theorem qbq (id:Nat) (x:Value) (L d:D) (l r:Tr): (Tr.nd d l r).frz id x L= .nd (Ew id x L d) (l.frz id x L) (r.frz id x L):=_root_.id rfl
@[simp] theorem qia (d:D) (l r:Tr): (Tr.nd d l r).get .e=d:=id rfl
@[simp] theorem qh8 (d:D) (l r:Tr) (k:Ky): (Tr.nd d l r).get (.o k)=l.get k:=id rfl
@[simp] theorem qh9 (d:D) (l r:Tr) (k:Ky): (Tr.nd d l r).get (.i k)=r.get k:=id rfl
@[simp] theorem qfQ (x:D):Tr.nil.set .e x= .nd x .nil .nil:=id rfl
@[simp] theorem qfO (k:Ky) (x:D):Tr.nil.set (.o k) x= .nd .any (Tr.set .nil k x) .nil:=id rfl
@[simp] theorem qfP (k:Ky) (x:D):Tr.nil.set (.i k) x= .nd .any .nil (Tr.set .nil k x):=id rfl
@[simp] theorem qh7 (d:D) (l r:Tr) (x:D): (Tr.nd d l r).set .e x= .nd x l r:=id rfl
@[simp] theorem qh5 (d:D) (l r:Tr) (k:Ky) (x:D): (Tr.nd d l r).set (.o k) x= .nd d (l.set k x) r:=id rfl
@[simp] theorem qh6 (d:D) (l r:Tr) (k:Ky) (x:D): (Tr.nd d l r).set (.i k) x= .nd d l (r.set k x):=id rfl
@[simp] theorem qiw:ky 0=Ky.e:=id rfl
@[simp] theorem qiv:ky 1=Ky.o (Ky.e):=id rfl
@[simp] theorem qiu:ky 2=Ky.i (Ky.e):=id rfl
@[simp] theorem qit:ky 3=Ky.o (Ky.o (Ky.e)):=id rfl
@[simp] theorem qis:ky 4=Ky.i (Ky.o (Ky.e)):=id rfl
@[simp] theorem qir:ky 5=Ky.o (Ky.i (Ky.e)):=id rfl
@[simp] theorem qiq:ky 6=Ky.i (Ky.i (Ky.e)):=id rfl
@[simp] theorem qip:ky 7=Ky.o (Ky.o (Ky.o (Ky.e))):=id rfl
@[simp] theorem qio:ky 8=Ky.i (Ky.o (Ky.o (Ky.e))):=id rfl
@[simp] theorem qin:ky 9=Ky.o (Ky.i (Ky.o (Ky.e))):=id rfl
@[simp] theorem qhB:ky 10=Ky.i (Ky.i (Ky.o (Ky.e))):=id rfl
@[simp] theorem qhA:ky 11=Ky.o (Ky.o (Ky.i (Ky.e))):=id rfl
@[simp] theorem qhz:ky 12=Ky.i (Ky.o (Ky.i (Ky.e))):=id rfl
@[simp] theorem qhy:ky 13=Ky.o (Ky.i (Ky.i (Ky.e))):=id rfl
@[simp] theorem qhx:ky 14=Ky.i (Ky.i (Ky.i (Ky.e))):=id rfl
@[simp] theorem qhw:ky 15=Ky.o (Ky.o (Ky.o (Ky.o (Ky.e)))):=id rfl
@[simp] theorem qhv:ky 16=Ky.i (Ky.o (Ky.o (Ky.o (Ky.e)))):=id rfl
@[simp] theorem qhu:ky 17=Ky.o (Ky.i (Ky.o (Ky.o (Ky.e)))):=id rfl
@[simp] theorem qht:ky 18=Ky.i (Ky.i (Ky.o (Ky.o (Ky.e)))):=id rfl
@[simp] theorem qhs:ky 19=Ky.o (Ky.o (Ky.i (Ky.o (Ky.e)))):=id rfl
@[simp] theorem qhr:ky 20=Ky.i (Ky.o (Ky.i (Ky.o (Ky.e)))):=id rfl
@[simp] theorem qhq:ky 21=Ky.o (Ky.i (Ky.i (Ky.o (Ky.e)))):=id rfl
@[simp] theorem qhp:ky 22=Ky.i (Ky.i (Ky.i (Ky.o (Ky.e)))):=id rfl
@[simp] theorem qho:ky 23=Ky.o (Ky.o (Ky.o (Ky.i (Ky.e)))):=id rfl
@[simp] theorem qhn:ky 24=Ky.i (Ky.o (Ky.o (Ky.i (Ky.e)))):=id rfl
@[simp] theorem qhm:ky 25=Ky.o (Ky.i (Ky.o (Ky.i (Ky.e)))):=id rfl
@[simp] theorem qhl:ky 26=Ky.i (Ky.i (Ky.o (Ky.i (Ky.e)))):=id rfl
@[simp] theorem qhk:ky 27=Ky.o (Ky.o (Ky.i (Ky.i (Ky.e)))):=id rfl
@[simp] theorem qhj:ky 28=Ky.i (Ky.o (Ky.i (Ky.i (Ky.e)))):=id rfl
@[simp] theorem qhi:ky 29=Ky.o (Ky.i (Ky.i (Ky.i (Ky.e)))):=id rfl
@[simp] theorem qhh:ky 30=Ky.i (Ky.i (Ky.i (Ky.i (Ky.e)))):=id rfl
@[simp] theorem qhg:ky 31=Ky.o (Ky.o (Ky.o (Ky.o (Ky.o (Ky.e))))):=id rfl
@[simp] theorem qhf:ky 32=Ky.i (Ky.o (Ky.o (Ky.o (Ky.o (Ky.e))))):=id rfl
@[simp] theorem qhe:ky 33=Ky.o (Ky.i (Ky.o (Ky.o (Ky.o (Ky.e))))):=id rfl
@[simp] theorem qhd:ky 34=Ky.i (Ky.i (Ky.o (Ky.o (Ky.o (Ky.e))))):=id rfl
@[simp] theorem qhc:ky 35=Ky.o (Ky.o (Ky.i (Ky.o (Ky.o (Ky.e))))):=id rfl
@[simp] theorem qhb:ky 36=Ky.i (Ky.o (Ky.i (Ky.o (Ky.o (Ky.e))))):=id rfl
@[simp] theorem qha:ky 37=Ky.o (Ky.i (Ky.i (Ky.o (Ky.o (Ky.e))))):=id rfl
@[simp] theorem qg9:ky 38=Ky.i (Ky.i (Ky.i (Ky.o (Ky.o (Ky.e))))):=id rfl
@[simp] theorem qg8:ky 39=Ky.o (Ky.o (Ky.o (Ky.i (Ky.o (Ky.e))))):=id rfl
@[simp] theorem qg7:ky 40=Ky.i (Ky.o (Ky.o (Ky.i (Ky.o (Ky.e))))):=id rfl
@[simp] theorem qg6:ky 41=Ky.o (Ky.i (Ky.o (Ky.i (Ky.o (Ky.e))))):=id rfl
@[simp] theorem qg5:ky 42=Ky.i (Ky.i (Ky.o (Ky.i (Ky.o (Ky.e))))):=id rfl
@[simp] theorem qg4:ky 43=Ky.o (Ky.o (Ky.i (Ky.i (Ky.o (Ky.e))))):=id rfl
@[simp] theorem qg3:ky 44=Ky.i (Ky.o (Ky.i (Ky.i (Ky.o (Ky.e))))):=id rfl
@[simp] theorem qg2:ky 45=Ky.o (Ky.i (Ky.i (Ky.i (Ky.o (Ky.e))))):=id rfl
@[simp] theorem qg1:ky 46=Ky.i (Ky.i (Ky.i (Ky.i (Ky.o (Ky.e))))):=id rfl
@[simp] theorem qg0:ky 47=Ky.o (Ky.o (Ky.o (Ky.o (Ky.i (Ky.e))))):=id rfl
@[simp] theorem qgZ:ky 48=Ky.i (Ky.o (Ky.o (Ky.o (Ky.i (Ky.e))))):=id rfl
@[simp] theorem qgY:ky 49=Ky.o (Ky.i (Ky.o (Ky.o (Ky.i (Ky.e))))):=id rfl
@[simp] theorem qgX:ky 50=Ky.i (Ky.i (Ky.o (Ky.o (Ky.i (Ky.e))))):=id rfl
@[simp] theorem qgW:ky 51=Ky.o (Ky.o (Ky.i (Ky.o (Ky.i (Ky.e))))):=id rfl
@[simp] theorem qgV:ky 52=Ky.i (Ky.o (Ky.i (Ky.o (Ky.i (Ky.e))))):=id rfl
@[simp] theorem qgU:ky 53=Ky.o (Ky.i (Ky.i (Ky.o (Ky.i (Ky.e))))):=id rfl
@[simp] theorem qgT:ky 54=Ky.i (Ky.i (Ky.i (Ky.o (Ky.i (Ky.e))))):=id rfl
@[simp] theorem qgS:ky 55=Ky.o (Ky.o (Ky.o (Ky.i (Ky.i (Ky.e))))):=id rfl
@[simp] theorem qgR:ky 56=Ky.i (Ky.o (Ky.o (Ky.i (Ky.i (Ky.e))))):=id rfl
@[simp] theorem qgQ:ky 57=Ky.o (Ky.i (Ky.o (Ky.i (Ky.i (Ky.e))))):=id rfl
@[simp] theorem qgP:ky 58=Ky.i (Ky.i (Ky.o (Ky.i (Ky.i (Ky.e))))):=id rfl
@[simp] theorem qgO:ky 59=Ky.o (Ky.o (Ky.i (Ky.i (Ky.i (Ky.e))))):=id rfl
@[simp] theorem qgN:ky 60=Ky.i (Ky.o (Ky.i (Ky.i (Ky.i (Ky.e))))):=id rfl
@[simp] theorem qgM:ky 61=Ky.o (Ky.i (Ky.i (Ky.i (Ky.i (Ky.e))))):=id rfl
@[simp] theorem qgL:ky 62=Ky.i (Ky.i (Ky.i (Ky.i (Ky.i (Ky.e))))):=id rfl
@[simp] theorem qgK:ky 63=Ky.o (Ky.o (Ky.o (Ky.o (Ky.o (Ky.o (Ky.e)))))):=id rfl
@[simp] theorem qgJ:ky 64=Ky.i (Ky.o (Ky.o (Ky.o (Ky.o (Ky.o (Ky.e)))))):=id rfl
@[simp] theorem qgI:ky 65=Ky.o (Ky.i (Ky.o (Ky.o (Ky.o (Ky.o (Ky.e)))))):=id rfl
@[simp] theorem qgH:ky 66=Ky.i (Ky.i (Ky.o (Ky.o (Ky.o (Ky.o (Ky.e)))))):=id rfl
@[simp] theorem qgG:ky 67=Ky.o (Ky.o (Ky.i (Ky.o (Ky.o (Ky.o (Ky.e)))))):=id rfl
@[simp] theorem qgF:ky 68=Ky.i (Ky.o (Ky.i (Ky.o (Ky.o (Ky.o (Ky.e)))))):=id rfl
@[simp] theorem qgE:ky 69=Ky.o (Ky.i (Ky.i (Ky.o (Ky.o (Ky.o (Ky.e)))))):=id rfl
@[simp] theorem qgD:ky 70=Ky.i (Ky.i (Ky.i (Ky.o (Ky.o (Ky.o (Ky.e)))))):=id rfl
@[simp] theorem qgC:ky 71=Ky.o (Ky.o (Ky.o (Ky.i (Ky.o (Ky.o (Ky.e)))))):=id rfl
@[simp] theorem qgB:ky 72=Ky.i (Ky.o (Ky.o (Ky.i (Ky.o (Ky.o (Ky.e)))))):=id rfl
@[simp] theorem qgA:ky 73=Ky.o (Ky.i (Ky.o (Ky.i (Ky.o (Ky.o (Ky.e)))))):=id rfl
@[simp] theorem qgz:ky 74=Ky.i (Ky.i (Ky.o (Ky.i (Ky.o (Ky.o (Ky.e)))))):=id rfl
@[simp] theorem qgy:ky 75=Ky.o (Ky.o (Ky.i (Ky.i (Ky.o (Ky.o (Ky.e)))))):=id rfl
@[simp] theorem qgx:ky 76=Ky.i (Ky.o (Ky.i (Ky.i (Ky.o (Ky.o (Ky.e)))))):=id rfl
@[simp] theorem qgw:ky 77=Ky.o (Ky.i (Ky.i (Ky.i (Ky.o (Ky.o (Ky.e)))))):=id rfl
@[simp] theorem qgv:ky 78=Ky.i (Ky.i (Ky.i (Ky.i (Ky.o (Ky.o (Ky.e)))))):=id rfl
@[simp] theorem qgu:ky 79=Ky.o (Ky.o (Ky.o (Ky.o (Ky.i (Ky.o (Ky.e)))))):=id rfl
@[simp] theorem qgt:ky 80=Ky.i (Ky.o (Ky.o (Ky.o (Ky.i (Ky.o (Ky.e)))))):=id rfl
@[simp] theorem qgs:ky 81=Ky.o (Ky.i (Ky.o (Ky.o (Ky.i (Ky.o (Ky.e)))))):=id rfl
@[simp] theorem qgr:ky 82=Ky.i (Ky.i (Ky.o (Ky.o (Ky.i (Ky.o (Ky.e)))))):=id rfl
@[simp] theorem qgq:ky 83=Ky.o (Ky.o (Ky.i (Ky.o (Ky.i (Ky.o (Ky.e)))))):=id rfl
@[simp] theorem qgp:ky 84=Ky.i (Ky.o (Ky.i (Ky.o (Ky.i (Ky.o (Ky.e)))))):=id rfl
@[simp] theorem qgo:ky 85=Ky.o (Ky.i (Ky.i (Ky.o (Ky.i (Ky.o (Ky.e)))))):=id rfl
@[simp] theorem qgn:ky 86=Ky.i (Ky.i (Ky.i (Ky.o (Ky.i (Ky.o (Ky.e)))))):=id rfl
@[simp] theorem qgm:ky 87=Ky.o (Ky.o (Ky.o (Ky.i (Ky.i (Ky.o (Ky.e)))))):=id rfl
@[simp] theorem qgl:ky 88=Ky.i (Ky.o (Ky.o (Ky.i (Ky.i (Ky.o (Ky.e)))))):=id rfl
@[simp] theorem qgk:ky 89=Ky.o (Ky.i (Ky.o (Ky.i (Ky.i (Ky.o (Ky.e)))))):=id rfl
@[simp] theorem qgj:ky 90=Ky.i (Ky.i (Ky.o (Ky.i (Ky.i (Ky.o (Ky.e)))))):=id rfl
@[simp] theorem qgi:ky 91=Ky.o (Ky.o (Ky.i (Ky.i (Ky.i (Ky.o (Ky.e)))))):=id rfl
@[simp] theorem qgh:ky 92=Ky.i (Ky.o (Ky.i (Ky.i (Ky.i (Ky.o (Ky.e)))))):=id rfl
@[simp] theorem qgg:ky 93=Ky.o (Ky.i (Ky.i (Ky.i (Ky.i (Ky.o (Ky.e)))))):=id rfl
@[simp] theorem qgf:ky 94=Ky.i (Ky.i (Ky.i (Ky.i (Ky.i (Ky.o (Ky.e)))))):=id rfl
@[simp] theorem qge:ky 95=Ky.o (Ky.o (Ky.o (Ky.o (Ky.o (Ky.i (Ky.e)))))):=id rfl
@[simp] theorem qgd:ky 96=Ky.i (Ky.o (Ky.o (Ky.o (Ky.o (Ky.i (Ky.e)))))):=id rfl
@[simp] theorem qgc:ky 97=Ky.o (Ky.i (Ky.o (Ky.o (Ky.o (Ky.i (Ky.e)))))):=id rfl
@[simp] theorem qgb:ky 98=Ky.i (Ky.i (Ky.o (Ky.o (Ky.o (Ky.i (Ky.e)))))):=id rfl
@[simp] theorem qga:ky 99=Ky.o (Ky.o (Ky.i (Ky.o (Ky.o (Ky.i (Ky.e)))))):=id rfl
@[simp] theorem qem:ky 100=Ky.i (Ky.o (Ky.i (Ky.o (Ky.o (Ky.i (Ky.e)))))):=id rfl
@[simp] theorem qel:ky 101=Ky.o (Ky.i (Ky.i (Ky.o (Ky.o (Ky.i (Ky.e)))))):=id rfl
@[simp] theorem qek:ky 102=Ky.i (Ky.i (Ky.i (Ky.o (Ky.o (Ky.i (Ky.e)))))):=id rfl
@[simp] theorem qej:ky 103=Ky.o (Ky.o (Ky.o (Ky.i (Ky.o (Ky.i (Ky.e)))))):=id rfl
@[simp] theorem qei:ky 104=Ky.i (Ky.o (Ky.o (Ky.i (Ky.o (Ky.i (Ky.e)))))):=id rfl
@[simp] theorem qeh:ky 105=Ky.o (Ky.i (Ky.o (Ky.i (Ky.o (Ky.i (Ky.e)))))):=id rfl
@[simp] theorem qeg:ky 106=Ky.i (Ky.i (Ky.o (Ky.i (Ky.o (Ky.i (Ky.e)))))):=id rfl
@[simp] theorem qef:ky 107=Ky.o (Ky.o (Ky.i (Ky.i (Ky.o (Ky.i (Ky.e)))))):=id rfl
@[simp] theorem qee:ky 108=Ky.i (Ky.o (Ky.i (Ky.i (Ky.o (Ky.i (Ky.e)))))):=id rfl
@[simp] theorem qed:ky 109=Ky.o (Ky.i (Ky.i (Ky.i (Ky.o (Ky.i (Ky.e)))))):=id rfl
@[simp] theorem qec:ky 110=Ky.i (Ky.i (Ky.i (Ky.i (Ky.o (Ky.i (Ky.e)))))):=id rfl
@[simp] theorem qeb:ky 111=Ky.o (Ky.o (Ky.o (Ky.o (Ky.i (Ky.i (Ky.e)))))):=id rfl
@[simp] theorem qea:ky 112=Ky.i (Ky.o (Ky.o (Ky.o (Ky.i (Ky.i (Ky.e)))))):=id rfl
@[simp] theorem qd9:ky 113=Ky.o (Ky.i (Ky.o (Ky.o (Ky.i (Ky.i (Ky.e)))))):=id rfl
@[simp] theorem qd8:ky 114=Ky.i (Ky.i (Ky.o (Ky.o (Ky.i (Ky.i (Ky.e)))))):=id rfl
@[simp] theorem qd7:ky 115=Ky.o (Ky.o (Ky.i (Ky.o (Ky.i (Ky.i (Ky.e)))))):=id rfl
@[simp] theorem qd6:ky 116=Ky.i (Ky.o (Ky.i (Ky.o (Ky.i (Ky.i (Ky.e)))))):=id rfl
@[simp] theorem qd5:ky 117=Ky.o (Ky.i (Ky.i (Ky.o (Ky.i (Ky.i (Ky.e)))))):=id rfl
@[simp] theorem qd4:ky 118=Ky.i (Ky.i (Ky.i (Ky.o (Ky.i (Ky.i (Ky.e)))))):=id rfl
@[simp] theorem qd3:ky 119=Ky.o (Ky.o (Ky.o (Ky.i (Ky.i (Ky.i (Ky.e)))))):=id rfl
@[simp] theorem qd2:ky 120=Ky.i (Ky.o (Ky.o (Ky.i (Ky.i (Ky.i (Ky.e)))))):=id rfl
@[simp] theorem qd1:ky 121=Ky.o (Ky.i (Ky.o (Ky.i (Ky.i (Ky.i (Ky.e)))))):=id rfl
@[simp] theorem qd0:ky 122=Ky.i (Ky.i (Ky.o (Ky.i (Ky.i (Ky.i (Ky.e)))))):=id rfl
@[simp] theorem qdZ:ky 123=Ky.o (Ky.o (Ky.i (Ky.i (Ky.i (Ky.i (Ky.e)))))):=id rfl
@[simp] theorem qdY:ky 124=Ky.i (Ky.o (Ky.i (Ky.i (Ky.i (Ky.i (Ky.e)))))):=id rfl
@[simp] theorem qdX:ky 125=Ky.o (Ky.i (Ky.i (Ky.i (Ky.i (Ky.i (Ky.e)))))):=id rfl
@[simp] theorem qdW:ky 126=Ky.i (Ky.i (Ky.i (Ky.i (Ky.i (Ky.i (Ky.e)))))):=id rfl
@[simp] theorem qdV:ky 127=Ky.o (Ky.o (Ky.o (Ky.o (Ky.o (Ky.o (Ky.o (Ky.e))))))):=id rfl
@[simp] theorem qdU:ky 128=Ky.i (Ky.o (Ky.o (Ky.o (Ky.o (Ky.o (Ky.o (Ky.e))))))):=id rfl
@[simp] theorem qdT:ky 129=Ky.o (Ky.i (Ky.o (Ky.o (Ky.o (Ky.o (Ky.o (Ky.e))))))):=id rfl
@[simp] theorem qdS:ky 130=Ky.i (Ky.i (Ky.o (Ky.o (Ky.o (Ky.o (Ky.o (Ky.e))))))):=id rfl
@[simp] theorem qdR:ky 131=Ky.o (Ky.o (Ky.i (Ky.o (Ky.o (Ky.o (Ky.o (Ky.e))))))):=id rfl
@[simp] theorem qdQ:ky 132=Ky.i (Ky.o (Ky.i (Ky.o (Ky.o (Ky.o (Ky.o (Ky.e))))))):=id rfl
@[simp] theorem qdP:ky 133=Ky.o (Ky.i (Ky.i (Ky.o (Ky.o (Ky.o (Ky.o (Ky.e))))))):=id rfl
@[simp] theorem qdO:ky 134=Ky.i (Ky.i (Ky.i (Ky.o (Ky.o (Ky.o (Ky.o (Ky.e))))))):=id rfl
@[simp] theorem qdN:ky 135=Ky.o (Ky.o (Ky.o (Ky.i (Ky.o (Ky.o (Ky.o (Ky.e))))))):=id rfl
@[simp] theorem qdM:ky 136=Ky.i (Ky.o (Ky.o (Ky.i (Ky.o (Ky.o (Ky.o (Ky.e))))))):=id rfl
@[simp] theorem qdL:ky 137=Ky.o (Ky.i (Ky.o (Ky.i (Ky.o (Ky.o (Ky.o (Ky.e))))))):=id rfl
@[simp] theorem qdK:ky 138=Ky.i (Ky.i (Ky.o (Ky.i (Ky.o (Ky.o (Ky.o (Ky.e))))))):=id rfl
@[simp] theorem qdJ:ky 139=Ky.o (Ky.o (Ky.i (Ky.i (Ky.o (Ky.o (Ky.o (Ky.e))))))):=id rfl
@[simp] theorem qdI:ky 140=Ky.i (Ky.o (Ky.i (Ky.i (Ky.o (Ky.o (Ky.o (Ky.e))))))):=id rfl
@[simp] theorem qdH:ky 141=Ky.o (Ky.i (Ky.i (Ky.i (Ky.o (Ky.o (Ky.o (Ky.e))))))):=id rfl
@[simp] theorem qdG:ky 142=Ky.i (Ky.i (Ky.i (Ky.i (Ky.o (Ky.o (Ky.o (Ky.e))))))):=id rfl
@[simp] theorem qdF:ky 143=Ky.o (Ky.o (Ky.o (Ky.o (Ky.i (Ky.o (Ky.o (Ky.e))))))):=id rfl
@[simp] theorem qdE:ky 144=Ky.i (Ky.o (Ky.o (Ky.o (Ky.i (Ky.o (Ky.o (Ky.e))))))):=id rfl
@[simp] theorem qdD:ky 145=Ky.o (Ky.i (Ky.o (Ky.o (Ky.i (Ky.o (Ky.o (Ky.e))))))):=id rfl
@[simp] theorem qdC:ky 146=Ky.i (Ky.i (Ky.o (Ky.o (Ky.i (Ky.o (Ky.o (Ky.e))))))):=id rfl
@[simp] theorem qdB:ky 147=Ky.o (Ky.o (Ky.i (Ky.o (Ky.i (Ky.o (Ky.o (Ky.e))))))):=id rfl
@[simp] theorem qdA:ky 148=Ky.i (Ky.o (Ky.i (Ky.o (Ky.i (Ky.o (Ky.o (Ky.e))))))):=id rfl
@[simp] theorem qdz:ky 149=Ky.o (Ky.i (Ky.i (Ky.o (Ky.i (Ky.o (Ky.o (Ky.e))))))):=id rfl
@[simp] theorem qdy:ky 150=Ky.i (Ky.i (Ky.i (Ky.o (Ky.i (Ky.o (Ky.o (Ky.e))))))):=id rfl
@[simp] theorem qdx:ky 151=Ky.o (Ky.o (Ky.o (Ky.i (Ky.i (Ky.o (Ky.o (Ky.e))))))):=id rfl
@[simp] theorem qdw:ky 152=Ky.i (Ky.o (Ky.o (Ky.i (Ky.i (Ky.o (Ky.o (Ky.e))))))):=id rfl
@[simp] theorem qdv:ky 153=Ky.o (Ky.i (Ky.o (Ky.i (Ky.i (Ky.o (Ky.o (Ky.e))))))):=id rfl
@[simp] theorem qdu:ky 154=Ky.i (Ky.i (Ky.o (Ky.i (Ky.i (Ky.o (Ky.o (Ky.e))))))):=id rfl
@[simp] theorem qdt:ky 155=Ky.o (Ky.o (Ky.i (Ky.i (Ky.i (Ky.o (Ky.o (Ky.e))))))):=id rfl
@[simp] theorem qds:ky 156=Ky.i (Ky.o (Ky.i (Ky.i (Ky.i (Ky.o (Ky.o (Ky.e))))))):=id rfl
@[simp] theorem qdr:ky 157=Ky.o (Ky.i (Ky.i (Ky.i (Ky.i (Ky.o (Ky.o (Ky.e))))))):=id rfl
@[simp] theorem qdq:ky 158=Ky.i (Ky.i (Ky.i (Ky.i (Ky.i (Ky.o (Ky.o (Ky.e))))))):=id rfl
@[simp] theorem qdp:ky 159=Ky.o (Ky.o (Ky.o (Ky.o (Ky.o (Ky.i (Ky.o (Ky.e))))))):=id rfl
@[simp] theorem qdo:ky 160=Ky.i (Ky.o (Ky.o (Ky.o (Ky.o (Ky.i (Ky.o (Ky.e))))))):=id rfl
@[simp] theorem qdn:ky 161=Ky.o (Ky.i (Ky.o (Ky.o (Ky.o (Ky.i (Ky.o (Ky.e))))))):=id rfl
@[simp] theorem qdm:ky 162=Ky.i (Ky.i (Ky.o (Ky.o (Ky.o (Ky.i (Ky.o (Ky.e))))))):=id rfl
@[simp] theorem qdl:ky 163=Ky.o (Ky.o (Ky.i (Ky.o (Ky.o (Ky.i (Ky.o (Ky.e))))))):=id rfl
@[simp] theorem qdk:ky 164=Ky.i (Ky.o (Ky.i (Ky.o (Ky.o (Ky.i (Ky.o (Ky.e))))))):=id rfl
@[simp] theorem qdj:ky 165=Ky.o (Ky.i (Ky.i (Ky.o (Ky.o (Ky.i (Ky.o (Ky.e))))))):=id rfl
@[simp] theorem qdi:ky 166=Ky.i (Ky.i (Ky.i (Ky.o (Ky.o (Ky.i (Ky.o (Ky.e))))))):=id rfl
@[simp] theorem qdh:ky 167=Ky.o (Ky.o (Ky.o (Ky.i (Ky.o (Ky.i (Ky.o (Ky.e))))))):=id rfl
@[simp] theorem qdg:ky 168=Ky.i (Ky.o (Ky.o (Ky.i (Ky.o (Ky.i (Ky.o (Ky.e))))))):=id rfl
@[simp] theorem qdf:ky 169=Ky.o (Ky.i (Ky.o (Ky.i (Ky.o (Ky.i (Ky.o (Ky.e))))))):=id rfl
@[simp] theorem qde:ky 170=Ky.i (Ky.i (Ky.o (Ky.i (Ky.o (Ky.i (Ky.o (Ky.e))))))):=id rfl
@[simp] theorem qdd:ky 171=Ky.o (Ky.o (Ky.i (Ky.i (Ky.o (Ky.i (Ky.o (Ky.e))))))):=id rfl
@[simp] theorem qdc:ky 172=Ky.i (Ky.o (Ky.i (Ky.i (Ky.o (Ky.i (Ky.o (Ky.e))))))):=id rfl
@[simp] theorem qdb:ky 173=Ky.o (Ky.i (Ky.i (Ky.i (Ky.o (Ky.i (Ky.o (Ky.e))))))):=id rfl
@[simp] theorem qda:ky 174=Ky.i (Ky.i (Ky.i (Ky.i (Ky.o (Ky.i (Ky.o (Ky.e))))))):=id rfl
@[simp] theorem qc9:ky 175=Ky.o (Ky.o (Ky.o (Ky.o (Ky.i (Ky.i (Ky.o (Ky.e))))))):=id rfl
@[simp] theorem qc8:ky 176=Ky.i (Ky.o (Ky.o (Ky.o (Ky.i (Ky.i (Ky.o (Ky.e))))))):=id rfl
@[simp] theorem qc7:ky 177=Ky.o (Ky.i (Ky.o (Ky.o (Ky.i (Ky.i (Ky.o (Ky.e))))))):=id rfl
@[simp] theorem qc6:ky 178=Ky.i (Ky.i (Ky.o (Ky.o (Ky.i (Ky.i (Ky.o (Ky.e))))))):=id rfl
@[simp] theorem qc5:ky 179=Ky.o (Ky.o (Ky.i (Ky.o (Ky.i (Ky.i (Ky.o (Ky.e))))))):=id rfl
@[simp] theorem qc4:ky 180=Ky.i (Ky.o (Ky.i (Ky.o (Ky.i (Ky.i (Ky.o (Ky.e))))))):=id rfl
@[simp] theorem qc3:ky 181=Ky.o (Ky.i (Ky.i (Ky.o (Ky.i (Ky.i (Ky.o (Ky.e))))))):=id rfl
@[simp] theorem qc2:ky 182=Ky.i (Ky.i (Ky.i (Ky.o (Ky.i (Ky.i (Ky.o (Ky.e))))))):=id rfl
@[simp] theorem qc1:ky 183=Ky.o (Ky.o (Ky.o (Ky.i (Ky.i (Ky.i (Ky.o (Ky.e))))))):=id rfl
@[simp] theorem qc0:ky 184=Ky.i (Ky.o (Ky.o (Ky.i (Ky.i (Ky.i (Ky.o (Ky.e))))))):=id rfl
@[simp] theorem qcZ:ky 185=Ky.o (Ky.i (Ky.o (Ky.i (Ky.i (Ky.i (Ky.o (Ky.e))))))):=id rfl
@[simp] theorem qcY:ky 186=Ky.i (Ky.i (Ky.o (Ky.i (Ky.i (Ky.i (Ky.o (Ky.e))))))):=id rfl
@[simp] theorem qcX:ky 187=Ky.o (Ky.o (Ky.i (Ky.i (Ky.i (Ky.i (Ky.o (Ky.e))))))):=id rfl
@[simp] theorem qcW:ky 189=Ky.o (Ky.i (Ky.i (Ky.i (Ky.i (Ky.i (Ky.o (Ky.e))))))):=id rfl
@[simp] theorem qa3 (H:aa) (i:Nat):bU [] H i=H i:=id rfl
@[simp] theorem qa5 (d:Option Nat) (g:Option (Nat×Bool)) (c:COp) (l:List CI) (H:aa) (i:Nat):bU (.op d g c::l) H i=if(CI.op d g c).wid=some i then none else bU l H i:=id rfl
@[simp] theorem qa4 (a b:Nat) (l:List CI) (H:aa) (i:Nat):bU (.frz a b::l) H i=H i:=id rfl
@[simp] theorem qch (dst_:Option Nat) (gd_:Option (Nat×Bool)) (x:Operand): (CI.op dst_ gd_ (.mv x)).wid=dst_:=id rfl
@[simp] theorem Yz (dst_:Option Nat) (gd_:Option (Nat×Bool)) (c:Operand) (x:Operand) (y:Operand): (CI.op dst_ gd_ (.pick c x y)).wid=dst_:=id rfl
@[simp] theorem X4 (dst_:Option Nat) (gd_:Option (Nat×Bool)) (el:Nat) (z:List Value): (CI.op dst_ gd_ (.alloc el z)).wid=dst_:=id rfl
@[simp] theorem X2 (dst_:Option Nat) (gd_:Option (Nat×Bool)) (z:List Value) (parts:List (Nat×Nat×Operand)): (CI.op dst_ gd_ (.build z parts)).wid=dst_:=id rfl
@[simp] theorem Wb (dst_:Option Nat) (gd_:Option (Nat×Bool)) (el:Nat) (n:Nat) (parts:List Operand): (CI.op dst_ gd_ (.bslice el n parts)).wid=dst_:=id rfl
@[simp] theorem YA (dst_:Option Nat) (gd_:Option (Nat×Bool)) (agg:Bool) (sz:Nat) (x:Operand): (CI.op dst_ gd_ (.load agg sz x)).wid=dst_:=id rfl
@[simp] theorem Vs (d:Option Nat) (g:Option (Nat×Bool)) (r sz:Nat) (x y:Operand): (CI.op d g (.store (some r) sz x y)).wid=some r:=id rfl
@[simp] theorem XY (dst_:Option Nat) (gd_:Option (Nat×Bool)) (x:Operand): (CI.op dst_ gd_ (.nilck x)).wid=dst_:=id rfl
@[simp] theorem X3 (dst_:Option Nat) (gd_:Option (Nat×Bool)) (op:BinOp) (x:Operand) (y:Operand): (CI.op dst_ gd_ (.arith op x y)).wid=dst_:=id rfl
@[simp] theorem qal (dst_:Option Nat) (gd_:Option (Nat×Bool)) (neg:Bool) (agg:Bool) (ks:List Lu) (x:Operand) (y:Operand): (CI.op dst_ gd_ (.eql neg agg ks x y)).wid=dst_:=id rfl
@[simp] theorem Yy (dst_:Option Nat) (gd_:Option (Nat×Bool)) (x:Operand) (y:Operand): (CI.op dst_ gd_ (.scat x y)).wid=dst_:=id rfl
@[simp] theorem X0 (dst_:Option Nat) (gd_:Option (Nat×Bool)) (off:Nat) (x:Operand): (CI.op dst_ gd_ (.faddr off x)).wid=dst_:=id rfl
@[simp] theorem XZ (dst_:Option Nat) (gd_:Option (Nat×Bool)) (n:Nat) (x:Operand) (i:Operand): (CI.op dst_ gd_ (.iaddr n x i)).wid=dst_:=id rfl
@[simp] theorem qak (dst_:Option Nat) (gd_:Option (Nat×Bool)) (x:Operand) (i:Nat): (CI.op dst_ gd_ (.ext x i)).wid=dst_:=id rfl
@[simp] theorem qaj (dst_:Option Nat) (gd_:Option (Nat×Bool)) (x:Operand): (CI.op dst_ gd_ (.len x)).wid=dst_:=id rfl
@[simp] theorem YB (dst_:Option Nat) (gd_:Option (Nat×Bool)) (f:Nat) (args:List Operand): (CI.op dst_ gd_ (.call f args)).wid=dst_:=id rfl
@[simp] theorem X1 (dst_:Option Nat) (gd_:Option (Nat×Bool)) (r f:Nat) (args:List Operand): (CI.op dst_ gd_ (.callb r f args)).wid=some r:=id rfl
end Go.Gv

namespace Go.Gv
open Cod (enc dec)
abbrev B:=ByteArray
structure U8 where
 val:Int
deriving DecidableEq
instance:Cod U8 where
 wd:=1
 enc n:= .v (.int .u8 n.val)
 dec | .v (.int .u8 n)=> some ⟨n⟩ | _=> none
 kn _:=rfl
 wid _:=rfl
 dec_enc _:=rfl
 le d x h:=by
  split at h
  ·cases h;exact .same _
  ·cases h
@[simp] theorem qeR (n:U8):enc n= .v (.int .u8 n.val):=id rfl
@[simp] theorem qeZ (n:Int):dec (X:=U8) (.v (.int .u8 n))=some ⟨n⟩:=id rfl
@[simp] theorem qeO (n:U8):U8.mk n.val=n:=id rfl
structure qab where
 nm:B
 vl:B
deriving DecidableEq
instance:Cod qab where
 wd:=2
 enc s:= .agg [enc s.nm,enc s.vl]
 dec | .agg [x0,x1]=> (dec x0).bind fun x0=> (dec x1).bind fun x1=> some ⟨x0,x1⟩ | _=> none
 kn _:=rfl
 wid _:=rfl
 dec_enc s:=by simp
 le d x h:=by
  split at h
  ·simp only[Option.bind_eq_some_iff] at h
   obtain⟨x0,h0,x1,h1,h⟩:=h
   cases h
   exact LeL.agg (.cons (Cod.le _ _ h0) (.cons (Cod.le _ _ h1) .nil))
  ·cases h
structure Span where
 b:Int
 e:Int
deriving DecidableEq
instance:Cod Span where
 wd:=2
 enc s:= .agg [enc s.b,enc s.e]
 dec | .agg [x0,x1]=> (dec x0).bind fun x0=> (dec x1).bind fun x1=> some ⟨x0,x1⟩ | _=> none
 kn _:=rfl
 wid _:=rfl
 dec_enc s:=by simp
 le d x h:=by
  split at h
  ·simp only[Option.bind_eq_some_iff] at h
   obtain⟨x0,h0,x1,h1,h⟩:=h
   cases h
   exact LeL.agg (.cons (Cod.le _ _ h0) (.cons (Cod.le _ _ h1) .nil))
  ·cases h
structure Region where
 ty:B
 b:Int
 e:Int
 kv:List qab
deriving DecidableEq
instance:Cod Region where
 wd:=4
 enc s:= .agg [enc s.ty,enc s.b,enc s.e,enc s.kv]
 dec | .agg [x0,x1,x2,x3]=> (dec x0).bind fun x0=> (dec x1).bind fun x1=> (dec x2).bind fun x2=> (dec x3).bind fun x3=> some ⟨x0,x1,x2,x3⟩ | _=> none
 kn _:=rfl
 wid _:=rfl
 dec_enc s:=by simp
 le d x h:=by
  split at h
  ·simp only[Option.bind_eq_some_iff] at h
   obtain⟨x0,h0,x1,h1,x2,h2,x3,h3,h⟩:=h
   cases h
   exact LeL.agg (.cons (Cod.le _ _ h0) (.cons (Cod.le _ _ h1) (.cons (Cod.le _ _ h2) (.cons (Cod.le _ _ h3) .nil))))
  ·cases h
end Go.Gv

namespace Go.Gv
open Go.Proofs
abbrev oA (d s:Nat):CI:= .op (some d) none (.mv (.tmp s))
abbrev oB (d:Nat) (c:COp):CI:= .op (some d) none c
abbrev oC (d w s:Nat):CI:= .op (some d) none (.load false w (.tmp s))
abbrev oD (d w s:Nat):CI:= .op (some d) none (.load true w (.tmp s))
abbrev oE (d n s:Nat):CI:= .op (some d) none (.faddr n (.tmp s))
abbrev oF (w a b:Nat):CI:= .op none none (.store none w (.tmp a) (.tmp b))
abbrev oG (d s:Nat):CI:= .op (some d) none (.nilck (.tmp s))
abbrev oH (d g:Nat) (c:COp):CI:= .op (some d) (some (g,true)) c
abbrev oI (d g:Nat) (c:COp):CI:= .op (some d) (some (g,false)) c
abbrev oT (n:Nat):Operand:= .tmp n
abbrev oK (v:Value):Operand:= .const v
abbrev oN (n:Int):Operand:= .const (.int .i64 n)
abbrev oS (b:ByteArray):Operand:= .const (.string b)
abbrev oi:Value:= .int .i64 0
abbrev oe:Value:= .string ⟨#[]⟩
abbrev ob:Value:= .bool false
abbrev on:Value:= .slice none 0 0
abbrev oZ (d f:Nat) (l:List Operand):CI:= .op (some d) none (.call f l)
abbrev oX (l:List CI) (a b:List Nat) (x:CC):CC:= .seq (.reg l) (.keep a b x)
def nk:Nat:=6
def yy:Nat:=9
def aj:Nat:=10
def du:Nat:=11
def ol:Nat:=13
def gN:Nat:=14
def li:Nat:=15
def iK:Nat:=16
def mo:Nat:=17
def iJ:Nat:=18
def cj:Nat:=21
def mF:Nat:=22
def bv:Nat:=24
def ll:Nat:=26
def bu:Nat:=28
def jQ:Nat:=34
def f8:Nat:=38
def dA:Nat:=40
def eL:Nat:=41
def jR:Nat:=42
def cX:Nat:=43
def cW:Nat:=44
def cB:Nat:=45
def aR:Nat:=46
def fB:Nat:=47
def lm:Nat:=48
def bp:Nat:=49
def gJ:Nat:=50
def eU:Nat:=51
def bY:Nat:=52
def IP:Nat:=53
def jT:Nat:=54
def aI:Nat:=55
def bZ:Nat:=56
def eX:Nat:=57
def fO:Nat:=58
def bG:Nat:=59
def ab:Nat:=60
def v7:Nat:=61
def cg:Nat:=62
def ch:Nat:=63
def cR:Nat:=64
def jS:Nat:=65
def eq:Nat:=67
def jU:Nat:=69
def fM:Nat:=70
def eM:Nat:=72
def aU:Nat:=73
def cz:Nat:=74
def ac:Nat:=75
def cy:Nat:=76
def aL:Nat:=77
def a9:Nat:=78
def bB:Nat:=79
def aZ:Nat:=80
def aq:Nat:=81
def mE:Nat:=88
def cZ:Nat:=89
def cY:Nat:=90
def mH:Nat:=91
def mG:Nat:=92
def aV:Nat:=93
def bN:Nat:=94
def aO:Nat:=95
def aH:Nat:=96
def bf:Nat:=97
def bd:Nat:=98
def fL:Nat:=99
def db:Nat:=100
def cb:Nat:=101
def gr:Nat:=102
def cH:Nat:=103
def lk:Nat:=104
def BI:Nat:=105
def F7:Nat:=106
def IQ:Nat:=107
def dz:Nat:=108
def fV:Nat:=109
def dI:Nat:=110
def eY:Nat:=111
def cJ:Nat:=112
def fN:Nat:=113
def eb:Nat:=114
def ck:Nat:=115
def pY:Nat:=116
def EC:Nat:=117
def bI:Nat:=118
def ea:Nat:=120
def fT:Nat:=124
def ff:Nat:=125
def cS:Nat:=128
def cA:Nat:=129
def gh:Nat:=130
def dT:Nat:=131
def dj:Nat:=132
def dH:Nat:=133
def eS:Nat:=134
def az:Nat:=135
def fK:Nat:=139
def ek:Nat:=140
def fA:Nat:=141
def lj:Nat:=142
def dB:Nat:=145
def dG:Nat:=146
def df:Nat:=149
def f9:Nat:=150
def dW:Nat:=151
def iH:Nat:=153
def fU:Nat:=154
def eg:Nat:=155
def eR:Nat:=156
def bR:Nat:=157
def iI:Nat:=158
def eC:Nat:=159
def eB:Nat:=160
def dU:Nat:=161
def dO:Nat:=162
def bn:Nat:=163
def ta:Nat:=171
def sZ:Nat:=172
def d9:Nat:=174
def dL:Nat:=175
def gI:Nat:=176
def bH:Nat:=179
def cm:Nat:=180
def eE:Nat:=181
def bC:Nat:=182
def ag:Nat:=183
def eD:Nat:=184
def ee:Nat:=185
def fJ:Nat:=189
def dh:Nat:=191
def fe:Nat:=192
def cT:Nat:=193
def bg:Nat:=194
def j0:Nat:=200
def rZ:Nat:=201
def BH:Nat:=202
def kE:Nat:=203
def cK:Nat:=204
def dy:Nat:=205
def rY:Nat:=206
def qP:Nat:=207
def pn:Nat:=208
def bJ:Nat:=209
def di:Nat:=210
def cN:Nat:=211
def dV:Nat:=223
def eT:Nat:=224
def bA:Nat:=233
def eF:Nat:=236
def Wl:Nat:=3
def tv:Nat:=5
def ax:Nat:=9
def aN:Nat:=29
def ah:Nat:=32
def aC:Nat:=35
def gD:Nat:=38
def vE:Nat:=61
def au:Nat:=63
def jY:Nat:=67
def fy:Nat:=83
def tz:Nat:=99
def pr:Nat:=103
def ww:Nat:=106
def su:Nat:=108
def Gk:Nat:=119
def vD:Nat:=189
theorem ay:Tryz.prog.follows .mixedOrders=true:=by kernel_rfl
end Go.Gv
