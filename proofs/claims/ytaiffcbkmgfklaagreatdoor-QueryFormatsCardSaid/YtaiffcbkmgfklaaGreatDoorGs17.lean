/- A part of the framework and of the walks: T13 V1 Cd. -/
import Derived.Test.YtaiffcbkmgfklaaGreatDoorProg
import Derived.Test.YtaiffcbkmgfklaaGreatDoorGs16
set_option linter.unusedSimpArgs false
set_option linter.unusedVariables false

namespace Go.Gv
open Cod (enc dec)
theorem rO {X:Type} [Cod X] {x y:X} (h:enc x=enc y):x=y:=by
 have:=congrArg (dec (X:=X)) h
 simpa using this
@[simp] theorem qg7 {X:Type} [Cod X] (l l':List X): (l.map enc=l'.map enc)=(l=l'):=by
 refine propext ⟨fun h=> ?_,fun h=> h ▸rfl⟩
 induction l generalizing l' with
 | nil=> cases l' with
   | nil=> rfl
   | cons y l'=> simp at h
 | cons x l ih=> cases l' with
   | nil=> simp at h
   | cons y l'=>
     simp only[List.map_cons,List.cons.injEq] at h
     rw[rO h.1,ih _ h.2]
theorem OY {X:Type} [Cod X] {H:ae} {id n:Nat} {v:Value} {l:List X} (el:Nat) (h:H id=some (.row v el n (l.map enc))) (hn:n=Cod.wd X:=by rfl):FrzTo H (.own id v) (.list n (l.map enc)):=by
 subst hn;exact RN h
inductive Ky where
 | e
 | o (k:Ky)
 | i (k:Ky)
deriving DecidableEq
inductive Tr where
 | nil
 | nd (d:D) (l r:Tr)
def Tr.get:Tr→Ky→D
 | .nil,_=> .any
 | .nd d _ _, .e=> d
 | .nd _ l _, .o k=> l.get k
 | .nd _ _ r, .i k=> r.get k
def Tr.set:Tr→Ky→D→Tr
 | .nil, .e,x=> .nd x .nil .nil
 | .nil, .o k,x=> .nd .any (Tr.set .nil k x) .nil
 | .nil, .i k,x=> .nd .any .nil (Tr.set .nil k x)
 | .nd _ l r, .e,x=> .nd x l r
 | .nd d l r, .o k,x=> .nd d (l.set k x) r
 | .nd d l r, .i k,x=> .nd d l (r.set k x)
noncomputable def Tr.frz (id:Nat) (x:Value) (L:D):Tr→Tr
 | .nil=> .nil
 | .nd d l r=> .nd (GK id x L d) (l.frz id x L) (r.frz id x L)
def qby:Nat→Nat→Ky
 | 0,_=> .e
 | f+1,n=> if n=0 then .e else if(n -1) % 2=0 then .o (qby f ((n -1) /2)) else .i (qby f ((n -1) /2))
def ky (n:Nat):Ky:=qby n n
def Ky.val:Ky→Nat
 | .e=> 0
 | .o k=> 2*k.val+1
 | .i k=> 2*k.val+2
theorem Ec: ∀ (f n:Nat),n≤f→(qby f n).val=n
 | 0,n,h=> by
   have:n=0:=by omega
   subst this;rfl
 | f+1,n,h=> by
   unfold qby
   split
   ·rename_i e;subst e;rfl
   ·split
    ·simp only[Ky.val]
     rw[Ec f _ (by omega)]
     omega
    ·simp only[Ky.val]
     rw[Ec f _ (by omega)]
     omega
theorem Ui {m n:Nat} (h:ky m=ky n):m=n:=by
 have h1:=Ec m m (Nat.le_refl _)
 have h2:=Ec n n (Nat.le_refl _)
 unfold ky at h
 rw[h] at h1
 exact h1.symm.trans h2
theorem xh: ∀ (T:Tr) (k j:Ky) (x:D),(T.set k x).get j=if j=k then x else T.get j
 | .nil, .e,j,x=> by cases j <;> simp[Tr.set,Tr.get]
 | .nil, .o k,j,x=> by
   have ih:=fun j=> xh .nil k j x
   cases j <;> simp[Tr.set,Tr.get,ih]
 | .nil, .i k,j,x=> by
   have ih:=fun j=> xh .nil k j x
   cases j <;> simp[Tr.set,Tr.get,ih]
 | .nd d l r, .e,j,x=> by cases j <;> simp[Tr.set,Tr.get]
 | .nd d l r, .o k,j,x=> by
   have ih:=fun j=> xh l k j x
   cases j <;> simp[Tr.set,Tr.get,ih]
 | .nd d l r, .i k,j,x=> by
   have ih:=fun j=> xh r k j x
   cases j <;> simp[Tr.set,Tr.get,ih]
def DV (T:Tr):Sg:=fun t=> T.get (ky t)
@[simp] theorem qdy (T:Tr) (t:Nat):DV T t=T.get (ky t):=id rfl
@[simp] theorem qh5 (T:Tr) (t:Nat) (d:D):mG (DV T) t d=DV (T.set (ky t) d):=by
 funext s
 simp only[mG,DV,xh]
 by_cases h:s=t
 ·simp[h]
 ·have: ¬ky s=ky t:=fun e=> h (Ui e)
  simp[h,this]
theorem UL:DV .nil=fun _=> .any:=by
 funext t
 simp[DV,Tr.get]
@[simp] theorem qgG (σ:Sg):kS [] σ=DV .nil:=by rw[UL];rfl
@[simp] theorem qdu (t:Nat) (l:List Nat) (σ:Sg):kS (t::l) σ=mG (kS l σ) t (σ t):=id rfl
@[simp] theorem qhM (σ:Sg):rc [] σ=σ:=id rfl
@[simp] theorem qeh (t:Nat) (d:D) (l:List (Nat×D)) (σ:Sg):rc ((t,d)::l) σ=mG (rc l σ) t d:=id rfl
def CH:Nat→List D→Tr
 | _, []=> .nil
 | n,d::l=> (CH (n+1) l).set (ky n) d
@[simp] theorem qap (n:Nat):CH n []= .nil:=id rfl
@[simp] theorem Zl (n:Nat) (d:D) (l:List D):CH n (d::l)=(CH (n+1) l).set (ky n) d:=id rfl
theorem I4: ∀ (l:List D) (n t:Nat),(CH n l).get (ky t)=if n≤t then(l[t -n]?).getD .any else .any
 | [],n,t=> by simp[CH,Tr.get]
 | d::l,n,t=> by
   rw[CH,xh,I4 l (n+1) t]
   by_cases h:t=n
   ·subst h;simp
   ·have: ¬ky t=ky n:=fun e=> h (Ui e)
    rw[if_neg this]
    by_cases h2:n+1≤t
    ·have h3:n≤t:=by omega
     rw[if_pos h2,if_pos h3]
     have:t -n=(t - (n+1)) +1:=by omega
     rw[this];simp
    ·have h3: ¬n≤t:=by omega
     rw[if_neg h2,if_neg h3]
@[simp] theorem qgI (l:List D):eS l=DV (CH 0 l):=by
 funext t
 simp[eS,DV,I4]
@[simp] theorem qj0 (id:Nat) (x:Value) (L:D) (T:Tr):RO id x L (DV T)=DV (T.frz id x L):=by
 funext t
 simp only[RO,DV]
 generalize ky t=k
 induction T generalizing k with
 | nil=> simp[Tr.frz,Tr.get,GK]
 | nd d l r ihl ihr=>
   cases k with
   | e=> rfl
   | o k=> exact ihl k
   | i k=> exact ihr k
@[simp] theorem qbH (id:Nat) (x:Value) (L:D):Tr.nil.frz id x L= .nil:=_root_.id rfl
@[simp] theorem qdB (id:Nat) (x:Value) (L d:D) (l r:Tr): (Tr.nd d l r).frz id x L= .nd (GK id x L d) (l.frz id x L) (r.frz id x L):=_root_.id rfl
@[simp] theorem qkt (d:D) (l r:Tr): (Tr.nd d l r).get .e=d:=id rfl
@[simp] theorem qkr (d:D) (l r:Tr) (k:Ky): (Tr.nd d l r).get (.o k)=l.get k:=id rfl
@[simp] theorem qks (d:D) (l r:Tr) (k:Ky): (Tr.nd d l r).get (.i k)=r.get k:=id rfl
@[simp] theorem qh8 (x:D):Tr.nil.set .e x= .nd x .nil .nil:=id rfl
@[simp] theorem qh6 (k:Ky) (x:D):Tr.nil.set (.o k) x= .nd .any (Tr.set .nil k x) .nil:=id rfl
@[simp] theorem qh7 (k:Ky) (x:D):Tr.nil.set (.i k) x= .nd .any .nil (Tr.set .nil k x):=id rfl
@[simp] theorem qkq (d:D) (l r:Tr) (x:D): (Tr.nd d l r).set .e x= .nd x l r:=id rfl
@[simp] theorem qko (d:D) (l r:Tr) (k:Ky) (x:D): (Tr.nd d l r).set (.o k) x= .nd d (l.set k x) r:=id rfl
@[simp] theorem qkp (d:D) (l r:Tr) (k:Ky) (x:D): (Tr.nd d l r).set (.i k) x= .nd d l (r.set k x):=id rfl
@[simp] theorem qkP:ky 0=Ky.e:=id rfl
@[simp] theorem qkO:ky 1=Ky.o (Ky.e):=id rfl
@[simp] theorem qkN:ky 2=Ky.i (Ky.e):=id rfl
@[simp] theorem qkM:ky 3=Ky.o (Ky.o (Ky.e)):=id rfl
@[simp] theorem qkL:ky 4=Ky.i (Ky.o (Ky.e)):=id rfl
@[simp] theorem qkK:ky 5=Ky.o (Ky.i (Ky.e)):=id rfl
@[simp] theorem qkJ:ky 6=Ky.i (Ky.i (Ky.e)):=id rfl
@[simp] theorem qkI:ky 7=Ky.o (Ky.o (Ky.o (Ky.e))):=id rfl
@[simp] theorem qkH:ky 8=Ky.i (Ky.o (Ky.o (Ky.e))):=id rfl
@[simp] theorem qkG:ky 9=Ky.o (Ky.i (Ky.o (Ky.e))):=id rfl
@[simp] theorem qjU:ky 10=Ky.i (Ky.i (Ky.o (Ky.e))):=id rfl
@[simp] theorem qjT:ky 11=Ky.o (Ky.o (Ky.i (Ky.e))):=id rfl
@[simp] theorem qjS:ky 12=Ky.i (Ky.o (Ky.i (Ky.e))):=id rfl
@[simp] theorem qjR:ky 13=Ky.o (Ky.i (Ky.i (Ky.e))):=id rfl
@[simp] theorem qjQ:ky 14=Ky.i (Ky.i (Ky.i (Ky.e))):=id rfl
@[simp] theorem qjP:ky 15=Ky.o (Ky.o (Ky.o (Ky.o (Ky.e)))):=id rfl
@[simp] theorem qjO:ky 16=Ky.i (Ky.o (Ky.o (Ky.o (Ky.e)))):=id rfl
@[simp] theorem qjN:ky 17=Ky.o (Ky.i (Ky.o (Ky.o (Ky.e)))):=id rfl
@[simp] theorem qjM:ky 18=Ky.i (Ky.i (Ky.o (Ky.o (Ky.e)))):=id rfl
@[simp] theorem qjL:ky 19=Ky.o (Ky.o (Ky.i (Ky.o (Ky.e)))):=id rfl
@[simp] theorem qjK:ky 20=Ky.i (Ky.o (Ky.i (Ky.o (Ky.e)))):=id rfl
@[simp] theorem qjJ:ky 21=Ky.o (Ky.i (Ky.i (Ky.o (Ky.e)))):=id rfl
@[simp] theorem qjI:ky 22=Ky.i (Ky.i (Ky.i (Ky.o (Ky.e)))):=id rfl
@[simp] theorem qjH:ky 23=Ky.o (Ky.o (Ky.o (Ky.i (Ky.e)))):=id rfl
@[simp] theorem qjG:ky 24=Ky.i (Ky.o (Ky.o (Ky.i (Ky.e)))):=id rfl
@[simp] theorem qjF:ky 25=Ky.o (Ky.i (Ky.o (Ky.i (Ky.e)))):=id rfl
@[simp] theorem qjE:ky 26=Ky.i (Ky.i (Ky.o (Ky.i (Ky.e)))):=id rfl
@[simp] theorem qjD:ky 27=Ky.o (Ky.o (Ky.i (Ky.i (Ky.e)))):=id rfl
@[simp] theorem qjC:ky 28=Ky.i (Ky.o (Ky.i (Ky.i (Ky.e)))):=id rfl
@[simp] theorem qjB:ky 29=Ky.o (Ky.i (Ky.i (Ky.i (Ky.e)))):=id rfl
@[simp] theorem qjA:ky 30=Ky.i (Ky.i (Ky.i (Ky.i (Ky.e)))):=id rfl
@[simp] theorem qjz:ky 31=Ky.o (Ky.o (Ky.o (Ky.o (Ky.o (Ky.e))))):=id rfl
@[simp] theorem qjy:ky 32=Ky.i (Ky.o (Ky.o (Ky.o (Ky.o (Ky.e))))):=id rfl
@[simp] theorem qjx:ky 33=Ky.o (Ky.i (Ky.o (Ky.o (Ky.o (Ky.e))))):=id rfl
@[simp] theorem qjw:ky 34=Ky.i (Ky.i (Ky.o (Ky.o (Ky.o (Ky.e))))):=id rfl
@[simp] theorem qjv:ky 35=Ky.o (Ky.o (Ky.i (Ky.o (Ky.o (Ky.e))))):=id rfl
@[simp] theorem qju:ky 36=Ky.i (Ky.o (Ky.i (Ky.o (Ky.o (Ky.e))))):=id rfl
@[simp] theorem qjt:ky 37=Ky.o (Ky.i (Ky.i (Ky.o (Ky.o (Ky.e))))):=id rfl
@[simp] theorem qjs:ky 38=Ky.i (Ky.i (Ky.i (Ky.o (Ky.o (Ky.e))))):=id rfl
@[simp] theorem qjr:ky 39=Ky.o (Ky.o (Ky.o (Ky.i (Ky.o (Ky.e))))):=id rfl
@[simp] theorem qjq:ky 40=Ky.i (Ky.o (Ky.o (Ky.i (Ky.o (Ky.e))))):=id rfl
@[simp] theorem qjp:ky 41=Ky.o (Ky.i (Ky.o (Ky.i (Ky.o (Ky.e))))):=id rfl
@[simp] theorem qjo:ky 42=Ky.i (Ky.i (Ky.o (Ky.i (Ky.o (Ky.e))))):=id rfl
@[simp] theorem qjn:ky 43=Ky.o (Ky.o (Ky.i (Ky.i (Ky.o (Ky.e))))):=id rfl
@[simp] theorem qjm:ky 44=Ky.i (Ky.o (Ky.i (Ky.i (Ky.o (Ky.e))))):=id rfl
@[simp] theorem qjl:ky 45=Ky.o (Ky.i (Ky.i (Ky.i (Ky.o (Ky.e))))):=id rfl
@[simp] theorem qjk:ky 46=Ky.i (Ky.i (Ky.i (Ky.i (Ky.o (Ky.e))))):=id rfl
@[simp] theorem qjj:ky 47=Ky.o (Ky.o (Ky.o (Ky.o (Ky.i (Ky.e))))):=id rfl
@[simp] theorem qji:ky 48=Ky.i (Ky.o (Ky.o (Ky.o (Ky.i (Ky.e))))):=id rfl
@[simp] theorem qjh:ky 49=Ky.o (Ky.i (Ky.o (Ky.o (Ky.i (Ky.e))))):=id rfl
@[simp] theorem qjg:ky 50=Ky.i (Ky.i (Ky.o (Ky.o (Ky.i (Ky.e))))):=id rfl
@[simp] theorem qjf:ky 51=Ky.o (Ky.o (Ky.i (Ky.o (Ky.i (Ky.e))))):=id rfl
@[simp] theorem qje:ky 52=Ky.i (Ky.o (Ky.i (Ky.o (Ky.i (Ky.e))))):=id rfl
@[simp] theorem qjd:ky 53=Ky.o (Ky.i (Ky.i (Ky.o (Ky.i (Ky.e))))):=id rfl
@[simp] theorem qjc:ky 54=Ky.i (Ky.i (Ky.i (Ky.o (Ky.i (Ky.e))))):=id rfl
@[simp] theorem qjb:ky 55=Ky.o (Ky.o (Ky.o (Ky.i (Ky.i (Ky.e))))):=id rfl
@[simp] theorem qja:ky 56=Ky.i (Ky.o (Ky.o (Ky.i (Ky.i (Ky.e))))):=id rfl
@[simp] theorem qi9:ky 57=Ky.o (Ky.i (Ky.o (Ky.i (Ky.i (Ky.e))))):=id rfl
@[simp] theorem qi8:ky 58=Ky.i (Ky.i (Ky.o (Ky.i (Ky.i (Ky.e))))):=id rfl
@[simp] theorem qi7:ky 59=Ky.o (Ky.o (Ky.i (Ky.i (Ky.i (Ky.e))))):=id rfl
@[simp] theorem qi6:ky 60=Ky.i (Ky.o (Ky.i (Ky.i (Ky.i (Ky.e))))):=id rfl
@[simp] theorem qi5:ky 61=Ky.o (Ky.i (Ky.i (Ky.i (Ky.i (Ky.e))))):=id rfl
@[simp] theorem qi4:ky 62=Ky.i (Ky.i (Ky.i (Ky.i (Ky.i (Ky.e))))):=id rfl
@[simp] theorem qi3:ky 63=Ky.o (Ky.o (Ky.o (Ky.o (Ky.o (Ky.o (Ky.e)))))):=id rfl
@[simp] theorem qi2:ky 64=Ky.i (Ky.o (Ky.o (Ky.o (Ky.o (Ky.o (Ky.e)))))):=id rfl
@[simp] theorem qi1:ky 65=Ky.o (Ky.i (Ky.o (Ky.o (Ky.o (Ky.o (Ky.e)))))):=id rfl
@[simp] theorem qi0:ky 66=Ky.i (Ky.i (Ky.o (Ky.o (Ky.o (Ky.o (Ky.e)))))):=id rfl
@[simp] theorem qiZ:ky 67=Ky.o (Ky.o (Ky.i (Ky.o (Ky.o (Ky.o (Ky.e)))))):=id rfl
@[simp] theorem qiY:ky 68=Ky.i (Ky.o (Ky.i (Ky.o (Ky.o (Ky.o (Ky.e)))))):=id rfl
@[simp] theorem qiX:ky 69=Ky.o (Ky.i (Ky.i (Ky.o (Ky.o (Ky.o (Ky.e)))))):=id rfl
@[simp] theorem qiW:ky 70=Ky.i (Ky.i (Ky.i (Ky.o (Ky.o (Ky.o (Ky.e)))))):=id rfl
@[simp] theorem qiV:ky 71=Ky.o (Ky.o (Ky.o (Ky.i (Ky.o (Ky.o (Ky.e)))))):=id rfl
@[simp] theorem qiU:ky 72=Ky.i (Ky.o (Ky.o (Ky.i (Ky.o (Ky.o (Ky.e)))))):=id rfl
@[simp] theorem qiT:ky 73=Ky.o (Ky.i (Ky.o (Ky.i (Ky.o (Ky.o (Ky.e)))))):=id rfl
@[simp] theorem qiS:ky 74=Ky.i (Ky.i (Ky.o (Ky.i (Ky.o (Ky.o (Ky.e)))))):=id rfl
@[simp] theorem qiR:ky 75=Ky.o (Ky.o (Ky.i (Ky.i (Ky.o (Ky.o (Ky.e)))))):=id rfl
@[simp] theorem qiQ:ky 76=Ky.i (Ky.o (Ky.i (Ky.i (Ky.o (Ky.o (Ky.e)))))):=id rfl
@[simp] theorem qiP:ky 77=Ky.o (Ky.i (Ky.i (Ky.i (Ky.o (Ky.o (Ky.e)))))):=id rfl
@[simp] theorem qiO:ky 78=Ky.i (Ky.i (Ky.i (Ky.i (Ky.o (Ky.o (Ky.e)))))):=id rfl
@[simp] theorem qiN:ky 79=Ky.o (Ky.o (Ky.o (Ky.o (Ky.i (Ky.o (Ky.e)))))):=id rfl
@[simp] theorem qiM:ky 80=Ky.i (Ky.o (Ky.o (Ky.o (Ky.i (Ky.o (Ky.e)))))):=id rfl
@[simp] theorem qiL:ky 81=Ky.o (Ky.i (Ky.o (Ky.o (Ky.i (Ky.o (Ky.e)))))):=id rfl
@[simp] theorem qiK:ky 82=Ky.i (Ky.i (Ky.o (Ky.o (Ky.i (Ky.o (Ky.e)))))):=id rfl
@[simp] theorem qiJ:ky 83=Ky.o (Ky.o (Ky.i (Ky.o (Ky.i (Ky.o (Ky.e)))))):=id rfl
@[simp] theorem qiI:ky 84=Ky.i (Ky.o (Ky.i (Ky.o (Ky.i (Ky.o (Ky.e)))))):=id rfl
@[simp] theorem qiH:ky 85=Ky.o (Ky.i (Ky.i (Ky.o (Ky.i (Ky.o (Ky.e)))))):=id rfl
@[simp] theorem qiG:ky 86=Ky.i (Ky.i (Ky.i (Ky.o (Ky.i (Ky.o (Ky.e)))))):=id rfl
@[simp] theorem qiF:ky 87=Ky.o (Ky.o (Ky.o (Ky.i (Ky.i (Ky.o (Ky.e)))))):=id rfl
@[simp] theorem qiE:ky 88=Ky.i (Ky.o (Ky.o (Ky.i (Ky.i (Ky.o (Ky.e)))))):=id rfl
@[simp] theorem qiD:ky 89=Ky.o (Ky.i (Ky.o (Ky.i (Ky.i (Ky.o (Ky.e)))))):=id rfl
@[simp] theorem qiC:ky 90=Ky.i (Ky.i (Ky.o (Ky.i (Ky.i (Ky.o (Ky.e)))))):=id rfl
@[simp] theorem qiB:ky 91=Ky.o (Ky.o (Ky.i (Ky.i (Ky.i (Ky.o (Ky.e)))))):=id rfl
@[simp] theorem qiA:ky 92=Ky.i (Ky.o (Ky.i (Ky.i (Ky.i (Ky.o (Ky.e)))))):=id rfl
@[simp] theorem qiz:ky 93=Ky.o (Ky.i (Ky.i (Ky.i (Ky.i (Ky.o (Ky.e)))))):=id rfl
@[simp] theorem qiy:ky 94=Ky.i (Ky.i (Ky.i (Ky.i (Ky.i (Ky.o (Ky.e)))))):=id rfl
@[simp] theorem qix:ky 95=Ky.o (Ky.o (Ky.o (Ky.o (Ky.o (Ky.i (Ky.e)))))):=id rfl
@[simp] theorem qiw:ky 96=Ky.i (Ky.o (Ky.o (Ky.o (Ky.o (Ky.i (Ky.e)))))):=id rfl
@[simp] theorem qiv:ky 97=Ky.o (Ky.i (Ky.o (Ky.o (Ky.o (Ky.i (Ky.e)))))):=id rfl
@[simp] theorem qiu:ky 98=Ky.i (Ky.i (Ky.o (Ky.o (Ky.o (Ky.i (Ky.e)))))):=id rfl
@[simp] theorem qit:ky 99=Ky.o (Ky.o (Ky.i (Ky.o (Ky.o (Ky.i (Ky.e)))))):=id rfl
@[simp] theorem qgz:ky 100=Ky.i (Ky.o (Ky.i (Ky.o (Ky.o (Ky.i (Ky.e)))))):=id rfl
@[simp] theorem qgy:ky 101=Ky.o (Ky.i (Ky.i (Ky.o (Ky.o (Ky.i (Ky.e)))))):=id rfl
@[simp] theorem qgx:ky 102=Ky.i (Ky.i (Ky.i (Ky.o (Ky.o (Ky.i (Ky.e)))))):=id rfl
@[simp] theorem qgw:ky 103=Ky.o (Ky.o (Ky.o (Ky.i (Ky.o (Ky.i (Ky.e)))))):=id rfl
@[simp] theorem qgv:ky 104=Ky.i (Ky.o (Ky.o (Ky.i (Ky.o (Ky.i (Ky.e)))))):=id rfl
@[simp] theorem qgu:ky 105=Ky.o (Ky.i (Ky.o (Ky.i (Ky.o (Ky.i (Ky.e)))))):=id rfl
@[simp] theorem qgt:ky 106=Ky.i (Ky.i (Ky.o (Ky.i (Ky.o (Ky.i (Ky.e)))))):=id rfl
@[simp] theorem qgs:ky 107=Ky.o (Ky.o (Ky.i (Ky.i (Ky.o (Ky.i (Ky.e)))))):=id rfl
@[simp] theorem qgr:ky 108=Ky.i (Ky.o (Ky.i (Ky.i (Ky.o (Ky.i (Ky.e)))))):=id rfl
@[simp] theorem qgq:ky 109=Ky.o (Ky.i (Ky.i (Ky.i (Ky.o (Ky.i (Ky.e)))))):=id rfl
@[simp] theorem qgp:ky 110=Ky.i (Ky.i (Ky.i (Ky.i (Ky.o (Ky.i (Ky.e)))))):=id rfl
@[simp] theorem qgo:ky 111=Ky.o (Ky.o (Ky.o (Ky.o (Ky.i (Ky.i (Ky.e)))))):=id rfl
@[simp] theorem qgn:ky 112=Ky.i (Ky.o (Ky.o (Ky.o (Ky.i (Ky.i (Ky.e)))))):=id rfl
@[simp] theorem qgm:ky 113=Ky.o (Ky.i (Ky.o (Ky.o (Ky.i (Ky.i (Ky.e)))))):=id rfl
@[simp] theorem qgl:ky 114=Ky.i (Ky.i (Ky.o (Ky.o (Ky.i (Ky.i (Ky.e)))))):=id rfl
@[simp] theorem qgk:ky 115=Ky.o (Ky.o (Ky.i (Ky.o (Ky.i (Ky.i (Ky.e)))))):=id rfl
@[simp] theorem qgj:ky 116=Ky.i (Ky.o (Ky.i (Ky.o (Ky.i (Ky.i (Ky.e)))))):=id rfl
@[simp] theorem qgi:ky 117=Ky.o (Ky.i (Ky.i (Ky.o (Ky.i (Ky.i (Ky.e)))))):=id rfl
@[simp] theorem qgh:ky 118=Ky.i (Ky.i (Ky.i (Ky.o (Ky.i (Ky.i (Ky.e)))))):=id rfl
@[simp] theorem qgg:ky 119=Ky.o (Ky.o (Ky.o (Ky.i (Ky.i (Ky.i (Ky.e)))))):=id rfl
@[simp] theorem qgf:ky 120=Ky.i (Ky.o (Ky.o (Ky.i (Ky.i (Ky.i (Ky.e)))))):=id rfl
@[simp] theorem qge:ky 121=Ky.o (Ky.i (Ky.o (Ky.i (Ky.i (Ky.i (Ky.e)))))):=id rfl
@[simp] theorem qgd:ky 122=Ky.i (Ky.i (Ky.o (Ky.i (Ky.i (Ky.i (Ky.e)))))):=id rfl
@[simp] theorem qgc:ky 123=Ky.o (Ky.o (Ky.i (Ky.i (Ky.i (Ky.i (Ky.e)))))):=id rfl
@[simp] theorem qgb:ky 124=Ky.i (Ky.o (Ky.i (Ky.i (Ky.i (Ky.i (Ky.e)))))):=id rfl
@[simp] theorem qga:ky 125=Ky.o (Ky.i (Ky.i (Ky.i (Ky.i (Ky.i (Ky.e)))))):=id rfl
@[simp] theorem qf9:ky 126=Ky.i (Ky.i (Ky.i (Ky.i (Ky.i (Ky.i (Ky.e)))))):=id rfl
@[simp] theorem qf8:ky 127=Ky.o (Ky.o (Ky.o (Ky.o (Ky.o (Ky.o (Ky.o (Ky.e))))))):=id rfl
@[simp] theorem qf7:ky 128=Ky.i (Ky.o (Ky.o (Ky.o (Ky.o (Ky.o (Ky.o (Ky.e))))))):=id rfl
@[simp] theorem qf6:ky 129=Ky.o (Ky.i (Ky.o (Ky.o (Ky.o (Ky.o (Ky.o (Ky.e))))))):=id rfl
@[simp] theorem qf5:ky 130=Ky.i (Ky.i (Ky.o (Ky.o (Ky.o (Ky.o (Ky.o (Ky.e))))))):=id rfl
@[simp] theorem qf4:ky 131=Ky.o (Ky.o (Ky.i (Ky.o (Ky.o (Ky.o (Ky.o (Ky.e))))))):=id rfl
@[simp] theorem qf3:ky 132=Ky.i (Ky.o (Ky.i (Ky.o (Ky.o (Ky.o (Ky.o (Ky.e))))))):=id rfl
@[simp] theorem qf2:ky 133=Ky.o (Ky.i (Ky.i (Ky.o (Ky.o (Ky.o (Ky.o (Ky.e))))))):=id rfl
@[simp] theorem qf1:ky 134=Ky.i (Ky.i (Ky.i (Ky.o (Ky.o (Ky.o (Ky.o (Ky.e))))))):=id rfl
@[simp] theorem qf0:ky 135=Ky.o (Ky.o (Ky.o (Ky.i (Ky.o (Ky.o (Ky.o (Ky.e))))))):=id rfl
@[simp] theorem qfZ:ky 136=Ky.i (Ky.o (Ky.o (Ky.i (Ky.o (Ky.o (Ky.o (Ky.e))))))):=id rfl
@[simp] theorem qfY:ky 137=Ky.o (Ky.i (Ky.o (Ky.i (Ky.o (Ky.o (Ky.o (Ky.e))))))):=id rfl
@[simp] theorem qfX:ky 138=Ky.i (Ky.i (Ky.o (Ky.i (Ky.o (Ky.o (Ky.o (Ky.e))))))):=id rfl
@[simp] theorem qfW:ky 139=Ky.o (Ky.o (Ky.i (Ky.i (Ky.o (Ky.o (Ky.o (Ky.e))))))):=id rfl
@[simp] theorem qfV:ky 140=Ky.i (Ky.o (Ky.i (Ky.i (Ky.o (Ky.o (Ky.o (Ky.e))))))):=id rfl
@[simp] theorem qfU:ky 141=Ky.o (Ky.i (Ky.i (Ky.i (Ky.o (Ky.o (Ky.o (Ky.e))))))):=id rfl
@[simp] theorem qfT:ky 142=Ky.i (Ky.i (Ky.i (Ky.i (Ky.o (Ky.o (Ky.o (Ky.e))))))):=id rfl
@[simp] theorem qfS:ky 143=Ky.o (Ky.o (Ky.o (Ky.o (Ky.i (Ky.o (Ky.o (Ky.e))))))):=id rfl
@[simp] theorem qfR:ky 144=Ky.i (Ky.o (Ky.o (Ky.o (Ky.i (Ky.o (Ky.o (Ky.e))))))):=id rfl
@[simp] theorem qfQ:ky 145=Ky.o (Ky.i (Ky.o (Ky.o (Ky.i (Ky.o (Ky.o (Ky.e))))))):=id rfl
@[simp] theorem qfP:ky 146=Ky.i (Ky.i (Ky.o (Ky.o (Ky.i (Ky.o (Ky.o (Ky.e))))))):=id rfl
@[simp] theorem qfO:ky 147=Ky.o (Ky.o (Ky.i (Ky.o (Ky.i (Ky.o (Ky.o (Ky.e))))))):=id rfl
@[simp] theorem qfN:ky 148=Ky.i (Ky.o (Ky.i (Ky.o (Ky.i (Ky.o (Ky.o (Ky.e))))))):=id rfl
@[simp] theorem qfM:ky 149=Ky.o (Ky.i (Ky.i (Ky.o (Ky.i (Ky.o (Ky.o (Ky.e))))))):=id rfl
@[simp] theorem qfL:ky 150=Ky.i (Ky.i (Ky.i (Ky.o (Ky.i (Ky.o (Ky.o (Ky.e))))))):=id rfl
@[simp] theorem qfK:ky 151=Ky.o (Ky.o (Ky.o (Ky.i (Ky.i (Ky.o (Ky.o (Ky.e))))))):=id rfl
@[simp] theorem qfJ:ky 152=Ky.i (Ky.o (Ky.o (Ky.i (Ky.i (Ky.o (Ky.o (Ky.e))))))):=id rfl
@[simp] theorem qfI:ky 153=Ky.o (Ky.i (Ky.o (Ky.i (Ky.i (Ky.o (Ky.o (Ky.e))))))):=id rfl
@[simp] theorem qfH:ky 154=Ky.i (Ky.i (Ky.o (Ky.i (Ky.i (Ky.o (Ky.o (Ky.e))))))):=id rfl
@[simp] theorem qfG:ky 155=Ky.o (Ky.o (Ky.i (Ky.i (Ky.i (Ky.o (Ky.o (Ky.e))))))):=id rfl
@[simp] theorem qfF:ky 156=Ky.i (Ky.o (Ky.i (Ky.i (Ky.i (Ky.o (Ky.o (Ky.e))))))):=id rfl
@[simp] theorem qfE:ky 157=Ky.o (Ky.i (Ky.i (Ky.i (Ky.i (Ky.o (Ky.o (Ky.e))))))):=id rfl
@[simp] theorem qfD:ky 158=Ky.i (Ky.i (Ky.i (Ky.i (Ky.i (Ky.o (Ky.o (Ky.e))))))):=id rfl
@[simp] theorem qfC:ky 159=Ky.o (Ky.o (Ky.o (Ky.o (Ky.o (Ky.i (Ky.o (Ky.e))))))):=id rfl
@[simp] theorem qfB:ky 160=Ky.i (Ky.o (Ky.o (Ky.o (Ky.o (Ky.i (Ky.o (Ky.e))))))):=id rfl
@[simp] theorem qfA:ky 161=Ky.o (Ky.i (Ky.o (Ky.o (Ky.o (Ky.i (Ky.o (Ky.e))))))):=id rfl
@[simp] theorem qfz:ky 162=Ky.i (Ky.i (Ky.o (Ky.o (Ky.o (Ky.i (Ky.o (Ky.e))))))):=id rfl
@[simp] theorem qfy:ky 163=Ky.o (Ky.o (Ky.i (Ky.o (Ky.o (Ky.i (Ky.o (Ky.e))))))):=id rfl
@[simp] theorem qfx:ky 164=Ky.i (Ky.o (Ky.i (Ky.o (Ky.o (Ky.i (Ky.o (Ky.e))))))):=id rfl
@[simp] theorem qfw:ky 165=Ky.o (Ky.i (Ky.i (Ky.o (Ky.o (Ky.i (Ky.o (Ky.e))))))):=id rfl
@[simp] theorem qfv:ky 166=Ky.i (Ky.i (Ky.i (Ky.o (Ky.o (Ky.i (Ky.o (Ky.e))))))):=id rfl
@[simp] theorem qfu:ky 167=Ky.o (Ky.o (Ky.o (Ky.i (Ky.o (Ky.i (Ky.o (Ky.e))))))):=id rfl
@[simp] theorem qft:ky 168=Ky.i (Ky.o (Ky.o (Ky.i (Ky.o (Ky.i (Ky.o (Ky.e))))))):=id rfl
@[simp] theorem qfs:ky 169=Ky.o (Ky.i (Ky.o (Ky.i (Ky.o (Ky.i (Ky.o (Ky.e))))))):=id rfl
@[simp] theorem qfr:ky 170=Ky.i (Ky.i (Ky.o (Ky.i (Ky.o (Ky.i (Ky.o (Ky.e))))))):=id rfl
@[simp] theorem qfq:ky 171=Ky.o (Ky.o (Ky.i (Ky.i (Ky.o (Ky.i (Ky.o (Ky.e))))))):=id rfl
@[simp] theorem qfp:ky 172=Ky.i (Ky.o (Ky.i (Ky.i (Ky.o (Ky.i (Ky.o (Ky.e))))))):=id rfl
@[simp] theorem qfo:ky 173=Ky.o (Ky.i (Ky.i (Ky.i (Ky.o (Ky.i (Ky.o (Ky.e))))))):=id rfl
@[simp] theorem qfn:ky 174=Ky.i (Ky.i (Ky.i (Ky.i (Ky.o (Ky.i (Ky.o (Ky.e))))))):=id rfl
@[simp] theorem qfm:ky 175=Ky.o (Ky.o (Ky.o (Ky.o (Ky.i (Ky.i (Ky.o (Ky.e))))))):=id rfl
@[simp] theorem qfl:ky 176=Ky.i (Ky.o (Ky.o (Ky.o (Ky.i (Ky.i (Ky.o (Ky.e))))))):=id rfl
@[simp] theorem qfk:ky 177=Ky.o (Ky.i (Ky.o (Ky.o (Ky.i (Ky.i (Ky.o (Ky.e))))))):=id rfl
@[simp] theorem qfj:ky 178=Ky.i (Ky.i (Ky.o (Ky.o (Ky.i (Ky.i (Ky.o (Ky.e))))))):=id rfl
@[simp] theorem qfi:ky 179=Ky.o (Ky.o (Ky.i (Ky.o (Ky.i (Ky.i (Ky.o (Ky.e))))))):=id rfl
@[simp] theorem qfh:ky 180=Ky.i (Ky.o (Ky.i (Ky.o (Ky.i (Ky.i (Ky.o (Ky.e))))))):=id rfl
@[simp] theorem qfg:ky 181=Ky.o (Ky.i (Ky.i (Ky.o (Ky.i (Ky.i (Ky.o (Ky.e))))))):=id rfl
@[simp] theorem qff:ky 182=Ky.i (Ky.i (Ky.i (Ky.o (Ky.i (Ky.i (Ky.o (Ky.e))))))):=id rfl
@[simp] theorem qfe:ky 183=Ky.o (Ky.o (Ky.o (Ky.i (Ky.i (Ky.i (Ky.o (Ky.e))))))):=id rfl
@[simp] theorem qfd:ky 184=Ky.i (Ky.o (Ky.o (Ky.i (Ky.i (Ky.i (Ky.o (Ky.e))))))):=id rfl
@[simp] theorem qfc:ky 185=Ky.o (Ky.i (Ky.o (Ky.i (Ky.i (Ky.i (Ky.o (Ky.e))))))):=id rfl
@[simp] theorem qfb:ky 186=Ky.i (Ky.i (Ky.o (Ky.i (Ky.i (Ky.i (Ky.o (Ky.e))))))):=id rfl
@[simp] theorem qfa:ky 187=Ky.o (Ky.o (Ky.i (Ky.i (Ky.i (Ky.i (Ky.o (Ky.e))))))):=id rfl
@[simp] theorem qe9:ky 189=Ky.o (Ky.i (Ky.i (Ky.i (Ky.i (Ky.i (Ky.o (Ky.e))))))):=id rfl
@[simp] theorem qde (H:ae) (i:Nat):cK [] H i=H i:=id rfl
@[simp] theorem qdg (d:Option Nat) (g:Option (Nat×Bool)) (c:COp) (l:List CI) (H:ae) (i:Nat):cK (.op d g c::l) H i=if(CI.op d g c).wid=some i then none else cK l H i:=id rfl
@[simp] theorem qdf (a b:Nat) (l:List CI) (H:ae) (i:Nat):cK (.frz a b::l) H i=H i:=id rfl
@[simp] theorem qeu (dst_:Option Nat) (gd_:Option (Nat×Bool)) (x:Operand): (CI.op dst_ gd_ (.mv x)).wid=dst_:=id rfl
@[simp] theorem qaN (dst_:Option Nat) (gd_:Option (Nat×Bool)) (c:Operand) (x:Operand) (y:Operand): (CI.op dst_ gd_ (.pick c x y)).wid=dst_:=id rfl
@[simp] theorem qah (dst_:Option Nat) (gd_:Option (Nat×Bool)) (el:Nat) (z:List Value): (CI.op dst_ gd_ (.alloc el z)).wid=dst_:=id rfl
@[simp] theorem qaf (dst_:Option Nat) (gd_:Option (Nat×Bool)) (z:List Value) (parts:List (Nat×Nat×Operand)): (CI.op dst_ gd_ (.build z parts)).wid=dst_:=id rfl
@[simp] theorem YI (dst_:Option Nat) (gd_:Option (Nat×Bool)) (el:Nat) (n:Nat) (parts:List Operand): (CI.op dst_ gd_ (.bslice el n parts)).wid=dst_:=id rfl
@[simp] theorem qaO (dst_:Option Nat) (gd_:Option (Nat×Bool)) (agg:Bool) (sz:Nat) (x:Operand): (CI.op dst_ gd_ (.load agg sz x)).wid=dst_:=id rfl
@[simp] theorem XY (d:Option Nat) (g:Option (Nat×Bool)) (r sz:Nat) (x y:Operand): (CI.op d g (.store (some r) sz x y)).wid=some r:=id rfl
@[simp] theorem qab (dst_:Option Nat) (gd_:Option (Nat×Bool)) (x:Operand): (CI.op dst_ gd_ (.nilck x)).wid=dst_:=id rfl
@[simp] theorem qag (dst_:Option Nat) (gd_:Option (Nat×Bool)) (op:BinOp) (x:Operand) (y:Operand): (CI.op dst_ gd_ (.arith op x y)).wid=dst_:=id rfl
@[simp] theorem qcy (dst_:Option Nat) (gd_:Option (Nat×Bool)) (neg:Bool) (agg:Bool) (ks:List NE) (x:Operand) (y:Operand): (CI.op dst_ gd_ (.eql neg agg ks x y)).wid=dst_:=id rfl
@[simp] theorem qaM (dst_:Option Nat) (gd_:Option (Nat×Bool)) (x:Operand) (y:Operand): (CI.op dst_ gd_ (.scat x y)).wid=dst_:=id rfl
@[simp] theorem qad (dst_:Option Nat) (gd_:Option (Nat×Bool)) (off:Nat) (x:Operand): (CI.op dst_ gd_ (.faddr off x)).wid=dst_:=id rfl
@[simp] theorem qac (dst_:Option Nat) (gd_:Option (Nat×Bool)) (n:Nat) (x:Operand) (i:Operand): (CI.op dst_ gd_ (.iaddr n x i)).wid=dst_:=id rfl
@[simp] theorem qcx (dst_:Option Nat) (gd_:Option (Nat×Bool)) (x:Operand) (i:Nat): (CI.op dst_ gd_ (.ext x i)).wid=dst_:=id rfl
@[simp] theorem qcw (dst_:Option Nat) (gd_:Option (Nat×Bool)) (x:Operand): (CI.op dst_ gd_ (.len x)).wid=dst_:=id rfl
@[simp] theorem qaP (dst_:Option Nat) (gd_:Option (Nat×Bool)) (f:Nat) (args:List Operand): (CI.op dst_ gd_ (.call f args)).wid=dst_:=id rfl
@[simp] theorem qae (dst_:Option Nat) (gd_:Option (Nat×Bool)) (r f:Nat) (args:List Operand): (CI.op dst_ gd_ (.callb r f args)).wid=some r:=id rfl
end Go.Gv

namespace Go.Gv
open Cod (enc dec)
abbrev B:=ByteArray
structure U8 where
 val:Int
deriving DecidableEq
instance:Cod U8 where
 wd:=1
 enc n:= .v (.int .u8 n.val)
 dec | .v (.int .u8 n)=> some ⟨n⟩ | _=> none
 kn _:=rfl
 wid _:=rfl
 dec_enc _:=rfl
 le d x h:=by
  split at h
  ·cases h;exact .same _
  ·cases h
@[simp] theorem qg6 (n:U8):enc n= .v (.int .u8 n.val):=id rfl
@[simp] theorem qhe (n:Int):dec (X:=U8) (.v (.int .u8 n))=some ⟨n⟩:=id rfl
@[simp] theorem qg3 (n:U8):U8.mk n.val=n:=id rfl
structure qck where
 nm:B
 vl:B
deriving DecidableEq
instance:Cod qck where
 wd:=2
 enc s:= .agg [enc s.nm,enc s.vl]
 dec | .agg [x0,x1]=> (dec x0).bind fun x0=> (dec x1).bind fun x1=> some ⟨x0,x1⟩ | _=> none
 kn _:=rfl
 wid _:=rfl
 dec_enc s:=by simp
 le d x h:=by
  split at h
  ·simp only[Option.bind_eq_some_iff] at h
   obtain⟨x0,h0,x1,h1,h⟩:=h
   cases h
   exact LeL.agg (.cons (Cod.le _ _ h0) (.cons (Cod.le _ _ h1) .nil))
  ·cases h
structure Span where
 b:Int
 e:Int
deriving DecidableEq
instance:Cod Span where
 wd:=2
 enc s:= .agg [enc s.b,enc s.e]
 dec | .agg [x0,x1]=> (dec x0).bind fun x0=> (dec x1).bind fun x1=> some ⟨x0,x1⟩ | _=> none
 kn _:=rfl
 wid _:=rfl
 dec_enc s:=by simp
 le d x h:=by
  split at h
  ·simp only[Option.bind_eq_some_iff] at h
   obtain⟨x0,h0,x1,h1,h⟩:=h
   cases h
   exact LeL.agg (.cons (Cod.le _ _ h0) (.cons (Cod.le _ _ h1) .nil))
  ·cases h
structure Region where
 ty:B
 b:Int
 e:Int
 kv:List qck
deriving DecidableEq
instance:Cod Region where
 wd:=4
 enc s:= .agg [enc s.ty,enc s.b,enc s.e,enc s.kv]
 dec | .agg [x0,x1,x2,x3]=> (dec x0).bind fun x0=> (dec x1).bind fun x1=> (dec x2).bind fun x2=> (dec x3).bind fun x3=> some ⟨x0,x1,x2,x3⟩ | _=> none
 kn _:=rfl
 wid _:=rfl
 dec_enc s:=by simp
 le d x h:=by
  split at h
  ·simp only[Option.bind_eq_some_iff] at h
   obtain⟨x0,h0,x1,h1,x2,h2,x3,h3,h⟩:=h
   cases h
   exact LeL.agg (.cons (Cod.le _ _ h0) (.cons (Cod.le _ _ h1) (.cons (Cod.le _ _ h2) (.cons (Cod.le _ _ h3) .nil))))
  ·cases h
end Go.Gv

namespace Go.Gv
open Go.Proofs
abbrev oA (d s:Nat):CI:= .op (some d) none (.mv (.tmp s))
abbrev oB (d:Nat) (c:COp):CI:= .op (some d) none c
abbrev oC (d w s:Nat):CI:= .op (some d) none (.load false w (.tmp s))
abbrev oD (d w s:Nat):CI:= .op (some d) none (.load true w (.tmp s))
abbrev oE (d n s:Nat):CI:= .op (some d) none (.faddr n (.tmp s))
abbrev oF (w a b:Nat):CI:= .op none none (.store none w (.tmp a) (.tmp b))
abbrev oG (d s:Nat):CI:= .op (some d) none (.nilck (.tmp s))
abbrev oH (d g:Nat) (c:COp):CI:= .op (some d) (some (g,true)) c
abbrev oI (d g:Nat) (c:COp):CI:= .op (some d) (some (g,false)) c
abbrev oT (n:Nat):Operand:= .tmp n
abbrev oK (v:Value):Operand:= .const v
abbrev oN (n:Int):Operand:= .const (.int .i64 n)
abbrev oS (b:ByteArray):Operand:= .const (.string b)
abbrev oi:Value:= .int .i64 0
abbrev oe:Value:= .string ⟨#[]⟩
abbrev ob:Value:= .bool false
abbrev on:Value:= .slice none 0 0
abbrev oZ (d f:Nat) (l:List Operand):CI:= .op (some d) none (.call f l)
abbrev oX (l:List CI) (a b:List Nat) (x:CC):CC:= .seq (.reg l) (.keep a b x)
def o7:Nat:=5
def AB:Nat:=9
def am:Nat:=10
def eW:Nat:=11
def qI:Nat:=13
def jp:Nat:=14
def m6:Nat:=15
def kj:Nat:=16
def oo:Nat:=17
def dM:Nat:=18
def cW:Nat:=21
def o4:Nat:=22
def bS:Nat:=24
def m8:Nat:=26
def bR:Nat:=28
def lI:Nat:=34
def iv:Nat:=38
def ei:Nat:=40
def fR:Nat:=41
def lJ:Nat:=42
def dP:Nat:=43
def dO:Nat:=44
def dj:Nat:=45
def a7:Nat:=46
def gH:Nat:=47
def m9:Nat:=48
def bO:Nat:=49
def ji:Nat:=50
def d9:Nat:=51
def bw:Nat:=52
def iR:Nat:=53
def f7:Nat:=54
def aC:Nat:=55
def cg:Nat:=56
def cT:Nat:=57
def dC:Nat:=58
def aU:Nat:=59
def aa:Nat:=60
def bM:Nat:=61
def b5:Nat:=62
def bY:Nat:=63
def cp:Nat:=64
def lK:Nat:=65
def fA:Nat:=67
def lL:Nat:=69
def gW:Nat:=70
def fS:Nat:=72
def a8:Nat:=73
def dg:Nat:=74
def af:Nat:=75
def df:Nat:=76
def aM:Nat:=77
def br:Nat:=78
def bX:Nat:=79
def bk:Nat:=80
def av:Nat:=81
def o3:Nat:=88
def dR:Nat:=89
def dQ:Nat:=90
def o6:Nat:=91
def o5:Nat:=92
def bf:Nat:=93
def cw:Nat:=94
def aV:Nat:=95
def aL:Nat:=96
def bC:Nat:=97
def bz:Nat:=98
def gV:Nat:=99
def dS:Nat:=100
def cS:Nat:=101
def iQ:Nat:=102
def b9:Nat:=103
def gU:Nat:=104
def dT:Nat:=105
def eV:Nat:=106
def dU:Nat:=107
def eh:Nat:=108
def hZ:Nat:=109
def bF:Nat:=110
def ca:Nat:=111
def bu:Nat:=112
def dB:Nat:=113
def cE:Nat:=114
def aH:Nat:=115
def cR:Nat:=116
def ke:Nat:=117
def bh:Nat:=118
def bQ:Nat:=120
def dF:Nat:=121
def dE:Nat:=122
def fH:Nat:=123
def hU:Nat:=124
def gl:Nat:=125
def dK:Nat:=128
def dh:Nat:=129
def iD:Nat:=130
def eJ:Nat:=131
def dZ:Nat:=132
def ez:Nat:=133
def fZ:Nat:=134
def aF:Nat:=135
def gT:Nat:=139
def fl:Nat:=140
def gG:Nat:=141
def m7:Nat:=142
def cf:Nat:=143
def fB:Nat:=144
def ej:Nat:=145
def be:Nat:=146
def bp:Nat:=147
def aP:Nat:=149
def bt:Nat:=150
def eM:Nat:=151
def kf:Nat:=153
def hY:Nat:=154
def fe:Nat:=155
def fY:Nat:=156
def cA:Nat:=157
def kg:Nat:=158
def fG:Nat:=159
def fF:Nat:=160
def eK:Nat:=161
def eE:Nat:=162
def bN:Nat:=163
def dz:Nat:=170
def dH:Nat:=171
def dG:Nat:=172
def fb:Nat:=174
def eC:Nat:=175
def jh:Nat:=176
def ch:Nat:=179
def cX:Nat:=180
def fJ:Nat:=181
def bZ:Nat:=182
def ai:Nat:=183
def fI:Nat:=184
def fc:Nat:=185
def gS:Nat:=189
def dX:Nat:=191
def gk:Nat:=192
def dL:Nat:=193
def bE:Nat:=194
def lU:Nat:=200
def un:Nat:=201
def DW:Nat:=202
def mB:Nat:=203
def dA:Nat:=204
def eg:Nat:=205
def um:Nat:=206
def sW:Nat:=207
def rA:Nat:=208
def cq:Nat:=209
def dY:Nat:=210
def dI:Nat:=211
def eL:Nat:=223
def f0:Nat:=224
def bW:Nat:=233
def fL:Nat:=236
def YO:Nat:=3
def vy:Nat:=5
def az:Nat:=9
def aR:Nat:=29
def aj:Nat:=32
def au:Nat:=35
def jO:Nat:=38
def xG:Nat:=61
def ax:Nat:=63
def lR:Nat:=67
def gc:Nat:=83
def sG:Nat:=90
def vz:Nat:=99
def mI:Nat:=103
def yF:Nat:=106
def pg:Nat:=108
def IC:Nat:=119
def xF:Nat:=189
theorem ay:Tryz.prog.follows .mixedOrders=true:=by kernel_rfl
end Go.Gv
