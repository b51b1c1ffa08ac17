/- A part of the framework and of the walks: T13. -/
import Derived.Test.YticbieanhfdnoaaGreatDoorGb16
set_option linter.unusedSimpArgs false
set_option linter.unusedVariables false

namespace Go.Gv
open Cod (enc dec)
theorem cm {X:Type} [Cod X] {x y:X} (h:enc x=enc y):x=y:=by
 have:=congrArg (dec (X:=X)) h
 simpa using this
@[simp] theorem Z1 {X:Type} [Cod X] (l l':List X): (l.map enc=l'.map enc)=(l=l'):=by
 refine propext ⟨fun h=> ?_,fun h=> h ▸rfl⟩
 induction l generalizing l' with
 | nil=> cases l' with
   | nil=> rfl
   | cons y l'=> simp at h
 | cons x l ih=> cases l' with
   | nil=> simp at h
   | cons y l'=>
     simp only[List.map_cons,List.cons.injEq] at h
     rw[cm h.1,ih _ h.2]
theorem gk {X:Type} [Cod X] (l:List X) (i:Nat) (x:X): (l.map enc).set i (enc x)=(l.set i x).map enc:=by
 rw[List.map_set]
theorem DE {X:Type} [Cod X] (l:List X) (x:X):l.map enc++ [enc x]=(l++ [x]).map enc:=by simp
theorem jH {X:Type} [Cod X] {H:aa} {id n:Nat} {v:Value} {l:List X} (el:Nat) (h:H id=some (.row v el n (l.map enc))) (hn:n=Cod.wd X:=by rfl):FrzTo H (.own id v) (.list n (l.map enc)):=by
 subst hn;exact Js h
inductive Ky where
 | e
 | o (k:Ky)
 | i (k:Ky)
deriving DecidableEq
inductive Tr where
 | nil
 | nd (d:D) (l r:Tr)
def Tr.get:Tr→Ky→D
 | .nil,_=> .any
 | .nd d _ _, .e=> d
 | .nd _ l _, .o k=> l.get k
 | .nd _ _ r, .i k=> r.get k
def Tr.set:Tr→Ky→D→Tr
 | .nil, .e,x=> .nd x .nil .nil
 | .nil, .o k,x=> .nd .any (Tr.set .nil k x) .nil
 | .nil, .i k,x=> .nd .any .nil (Tr.set .nil k x)
 | .nd _ l r, .e,x=> .nd x l r
 | .nd d l r, .o k,x=> .nd d (l.set k x) r
 | .nd d l r, .i k,x=> .nd d l (r.set k x)
noncomputable def Tr.frz (id:Nat) (x:Value) (L:D):Tr→Tr
 | .nil=> .nil
 | .nd d l r=> .nd (Pf id x L d) (l.frz id x L) (r.frz id x L)
def RG:Nat→Nat→Ky
 | 0,_=> .e
 | f+1,n=> if n=0 then .e else if(n -1) % 2=0 then .o (RG f ((n -1) /2)) else .i (RG f ((n -1) /2))
def ky (n:Nat):Ky:=RG n n
def Ky.val:Ky→Nat
 | .e=> 0
 | .o k=> 2*k.val+1
 | .i k=> 2*k.val+2
theorem xZ: ∀ (f n:Nat),n≤f→(RG f n).val=n
 | 0,n,h=> by
   have:n=0:=by omega
   subst this;rfl
 | f+1,n,h=> by
   unfold RG
   split
   ·rename_i e;subst e;rfl
   ·split
    ·simp only[Ky.val]
     rw[xZ f _ (by omega)]
     omega
    ·simp only[Ky.val]
     rw[xZ f _ (by omega)]
     omega
theorem K7 {m n:Nat} (h:ky m=ky n):m=n:=by
 have h1:=xZ m m (Nat.le_refl _)
 have h2:=xZ n n (Nat.le_refl _)
 unfold ky at h
 rw[h] at h1
 exact h1.symm.trans h2
theorem rZ: ∀ (T:Tr) (k j:Ky) (x:D),(T.set k x).get j=if j=k then x else T.get j
 | .nil, .e,j,x=> by cases j <;> simp[Tr.set,Tr.get]
 | .nil, .o k,j,x=> by
   have ih:=fun j=> rZ .nil k j x
   cases j <;> simp[Tr.set,Tr.get,ih]
 | .nil, .i k,j,x=> by
   have ih:=fun j=> rZ .nil k j x
   cases j <;> simp[Tr.set,Tr.get,ih]
 | .nd d l r, .e,j,x=> by cases j <;> simp[Tr.set,Tr.get]
 | .nd d l r, .o k,j,x=> by
   have ih:=fun j=> rZ l k j x
   cases j <;> simp[Tr.set,Tr.get,ih]
 | .nd d l r, .i k,j,x=> by
   have ih:=fun j=> rZ r k j x
   cases j <;> simp[Tr.set,Tr.get,ih]
def Dn (T:Tr):Sg:=fun t=> T.get (ky t)
@[simp] theorem Us (T:Tr) (t:Nat):Dn T t=T.get (ky t):=id rfl
@[simp] theorem QT (T:Tr) (t:Nat) (d:D):lQ (Dn T) t d=Dn (T.set (ky t) d):=by
 funext s
 simp only[lQ,Dn,rZ]
 by_cases h:s=t
 ·simp[h]
 ·have: ¬ky s=ky t:=fun e=> h (K7 e)
  simp[h,this]
theorem Lo:Dn .nil=fun _=> .any:=by
 funext t
 simp[Dn,Tr.get]
@[simp] theorem Pb (σ:Sg):gE [] σ=Dn .nil:=by rw[Lo];rfl
@[simp] theorem Ne (t:Nat) (l:List Nat) (σ:Sg):gE (t::l) σ=lQ (gE l σ) t (σ t):=id rfl
@[simp] theorem qaR (σ:Sg):mS [] σ=σ:=id rfl
@[simp] theorem Vr (t:Nat) (d:D) (l:List (Nat×D)) (σ:Sg):mS ((t,d)::l) σ=lQ (mS l σ) t d:=id rfl
def w5:Nat→List D→Tr
 | _, []=> .nil
 | n,d::l=> (w5 (n+1) l).set (ky n) d
@[simp] theorem Qo (n:Nat):w5 n []= .nil:=id rfl
@[simp] theorem Pd (n:Nat) (d:D) (l:List D):w5 n (d::l)=(w5 (n+1) l).set (ky n) d:=id rfl
theorem BJ: ∀ (l:List D) (n t:Nat),(w5 n l).get (ky t)=if n≤t then(l[t -n]?).getD .any else .any
 | [],n,t=> by simp[w5,Tr.get]
 | d::l,n,t=> by
   rw[w5,rZ,BJ l (n+1) t]
   by_cases h:t=n
   ·subst h;simp
   ·have: ¬ky t=ky n:=fun e=> h (K7 e)
    rw[if_neg this]
    by_cases h2:n+1≤t
    ·have h3:n≤t:=by omega
     rw[if_pos h2,if_pos h3]
     have:t -n=(t - (n+1)) +1:=by omega
     rw[this];simp
    ·have h3: ¬n≤t:=by omega
     rw[if_neg h2,if_neg h3]
@[simp] theorem ZP (l:List D):dN l=Dn (w5 0 l):=by
 funext t
 simp[dN,Dn,BJ]
@[simp] theorem qdA (d:D) (l r:Tr): (Tr.nd d l r).get .e=d:=id rfl
@[simp] theorem qdy (d:D) (l r:Tr) (k:Ky): (Tr.nd d l r).get (.o k)=l.get k:=id rfl
@[simp] theorem qdz (d:D) (l r:Tr) (k:Ky): (Tr.nd d l r).get (.i k)=r.get k:=id rfl
@[simp] theorem qa5 (x:D):Tr.nil.set .e x= .nd x .nil .nil:=id rfl
@[simp] theorem qa3 (k:Ky) (x:D):Tr.nil.set (.o k) x= .nd .any (Tr.set .nil k x) .nil:=id rfl
@[simp] theorem qa4 (k:Ky) (x:D):Tr.nil.set (.i k) x= .nd .any .nil (Tr.set .nil k x):=id rfl
@[simp] theorem qdx (d:D) (l r:Tr) (x:D): (Tr.nd d l r).set .e x= .nd x l r:=id rfl
@[simp] theorem qdv (d:D) (l r:Tr) (k:Ky) (x:D): (Tr.nd d l r).set (.o k) x= .nd d (l.set k x) r:=id rfl
@[simp] theorem qdw (d:D) (l r:Tr) (k:Ky) (x:D): (Tr.nd d l r).set (.i k) x= .nd d l (r.set k x):=id rfl
@[simp] theorem qdY:ky 0=Ky.e:=id rfl
@[simp] theorem qdX:ky 1=Ky.o (Ky.e):=id rfl
@[simp] theorem qdW:ky 2=Ky.i (Ky.e):=id rfl
@[simp] theorem qdV:ky 3=Ky.o (Ky.o (Ky.e)):=id rfl
@[simp] theorem qdU:ky 4=Ky.i (Ky.o (Ky.e)):=id rfl
@[simp] theorem qdT:ky 5=Ky.o (Ky.i (Ky.e)):=id rfl
@[simp] theorem qdS:ky 6=Ky.i (Ky.i (Ky.e)):=id rfl
@[simp] theorem qdR:ky 7=Ky.o (Ky.o (Ky.o (Ky.e))):=id rfl
@[simp] theorem qdQ:ky 8=Ky.i (Ky.o (Ky.o (Ky.e))):=id rfl
@[simp] theorem qdP:ky 9=Ky.o (Ky.i (Ky.o (Ky.e))):=id rfl
@[simp] theorem qcU:ky 10=Ky.i (Ky.i (Ky.o (Ky.e))):=id rfl
@[simp] theorem qcT:ky 11=Ky.o (Ky.o (Ky.i (Ky.e))):=id rfl
@[simp] theorem qcS:ky 12=Ky.i (Ky.o (Ky.i (Ky.e))):=id rfl
@[simp] theorem qcR:ky 13=Ky.o (Ky.i (Ky.i (Ky.e))):=id rfl
@[simp] theorem qcQ:ky 14=Ky.i (Ky.i (Ky.i (Ky.e))):=id rfl
@[simp] theorem qcP:ky 15=Ky.o (Ky.o (Ky.o (Ky.o (Ky.e)))):=id rfl
@[simp] theorem qcO:ky 16=Ky.i (Ky.o (Ky.o (Ky.o (Ky.e)))):=id rfl
@[simp] theorem qcN:ky 17=Ky.o (Ky.i (Ky.o (Ky.o (Ky.e)))):=id rfl
@[simp] theorem qcM:ky 18=Ky.i (Ky.i (Ky.o (Ky.o (Ky.e)))):=id rfl
@[simp] theorem qcL:ky 19=Ky.o (Ky.o (Ky.i (Ky.o (Ky.e)))):=id rfl
@[simp] theorem qcK:ky 20=Ky.i (Ky.o (Ky.i (Ky.o (Ky.e)))):=id rfl
@[simp] theorem qcJ:ky 21=Ky.o (Ky.i (Ky.i (Ky.o (Ky.e)))):=id rfl
@[simp] theorem qcI:ky 22=Ky.i (Ky.i (Ky.i (Ky.o (Ky.e)))):=id rfl
@[simp] theorem qcH:ky 23=Ky.o (Ky.o (Ky.o (Ky.i (Ky.e)))):=id rfl
@[simp] theorem qcG:ky 24=Ky.i (Ky.o (Ky.o (Ky.i (Ky.e)))):=id rfl
@[simp] theorem qcF:ky 25=Ky.o (Ky.i (Ky.o (Ky.i (Ky.e)))):=id rfl
@[simp] theorem qcE:ky 26=Ky.i (Ky.i (Ky.o (Ky.i (Ky.e)))):=id rfl
@[simp] theorem qcD:ky 27=Ky.o (Ky.o (Ky.i (Ky.i (Ky.e)))):=id rfl
@[simp] theorem qcC:ky 28=Ky.i (Ky.o (Ky.i (Ky.i (Ky.e)))):=id rfl
@[simp] theorem qcB:ky 29=Ky.o (Ky.i (Ky.i (Ky.i (Ky.e)))):=id rfl
@[simp] theorem qcA:ky 30=Ky.i (Ky.i (Ky.i (Ky.i (Ky.e)))):=id rfl
@[simp] theorem qcz:ky 31=Ky.o (Ky.o (Ky.o (Ky.o (Ky.o (Ky.e))))):=id rfl
@[simp] theorem qcy:ky 32=Ky.i (Ky.o (Ky.o (Ky.o (Ky.o (Ky.e))))):=id rfl
@[simp] theorem qcx:ky 33=Ky.o (Ky.i (Ky.o (Ky.o (Ky.o (Ky.e))))):=id rfl
@[simp] theorem qcw:ky 34=Ky.i (Ky.i (Ky.o (Ky.o (Ky.o (Ky.e))))):=id rfl
@[simp] theorem qcv:ky 35=Ky.o (Ky.o (Ky.i (Ky.o (Ky.o (Ky.e))))):=id rfl
@[simp] theorem qcu:ky 36=Ky.i (Ky.o (Ky.i (Ky.o (Ky.o (Ky.e))))):=id rfl
@[simp] theorem qct:ky 37=Ky.o (Ky.i (Ky.i (Ky.o (Ky.o (Ky.e))))):=id rfl
@[simp] theorem qcs:ky 38=Ky.i (Ky.i (Ky.i (Ky.o (Ky.o (Ky.e))))):=id rfl
@[simp] theorem qcr:ky 39=Ky.o (Ky.o (Ky.o (Ky.i (Ky.o (Ky.e))))):=id rfl
@[simp] theorem qcq:ky 40=Ky.i (Ky.o (Ky.o (Ky.i (Ky.o (Ky.e))))):=id rfl
@[simp] theorem qcp:ky 41=Ky.o (Ky.i (Ky.o (Ky.i (Ky.o (Ky.e))))):=id rfl
@[simp] theorem qco:ky 42=Ky.i (Ky.i (Ky.o (Ky.i (Ky.o (Ky.e))))):=id rfl
@[simp] theorem qcn:ky 43=Ky.o (Ky.o (Ky.i (Ky.i (Ky.o (Ky.e))))):=id rfl
@[simp] theorem qcm:ky 44=Ky.i (Ky.o (Ky.i (Ky.i (Ky.o (Ky.e))))):=id rfl
@[simp] theorem qcl:ky 45=Ky.o (Ky.i (Ky.i (Ky.i (Ky.o (Ky.e))))):=id rfl
@[simp] theorem qck:ky 46=Ky.i (Ky.i (Ky.i (Ky.i (Ky.o (Ky.e))))):=id rfl
@[simp] theorem qcj:ky 47=Ky.o (Ky.o (Ky.o (Ky.o (Ky.i (Ky.e))))):=id rfl
@[simp] theorem qci:ky 48=Ky.i (Ky.o (Ky.o (Ky.o (Ky.i (Ky.e))))):=id rfl
@[simp] theorem qch:ky 49=Ky.o (Ky.i (Ky.o (Ky.o (Ky.i (Ky.e))))):=id rfl
@[simp] theorem qcg:ky 50=Ky.i (Ky.i (Ky.o (Ky.o (Ky.i (Ky.e))))):=id rfl
@[simp] theorem qcf:ky 51=Ky.o (Ky.o (Ky.i (Ky.o (Ky.i (Ky.e))))):=id rfl
@[simp] theorem qce:ky 52=Ky.i (Ky.o (Ky.i (Ky.o (Ky.i (Ky.e))))):=id rfl
@[simp] theorem qcd:ky 53=Ky.o (Ky.i (Ky.i (Ky.o (Ky.i (Ky.e))))):=id rfl
@[simp] theorem qcc:ky 54=Ky.i (Ky.i (Ky.i (Ky.o (Ky.i (Ky.e))))):=id rfl
@[simp] theorem qcb:ky 55=Ky.o (Ky.o (Ky.o (Ky.i (Ky.i (Ky.e))))):=id rfl
@[simp] theorem qca:ky 56=Ky.i (Ky.o (Ky.o (Ky.i (Ky.i (Ky.e))))):=id rfl
@[simp] theorem qb9:ky 57=Ky.o (Ky.i (Ky.o (Ky.i (Ky.i (Ky.e))))):=id rfl
@[simp] theorem qb8:ky 58=Ky.i (Ky.i (Ky.o (Ky.i (Ky.i (Ky.e))))):=id rfl
@[simp] theorem qb7:ky 59=Ky.o (Ky.o (Ky.i (Ky.i (Ky.i (Ky.e))))):=id rfl
@[simp] theorem qb6:ky 60=Ky.i (Ky.o (Ky.i (Ky.i (Ky.i (Ky.e))))):=id rfl
@[simp] theorem qb5:ky 61=Ky.o (Ky.i (Ky.i (Ky.i (Ky.i (Ky.e))))):=id rfl
@[simp] theorem qb4:ky 62=Ky.i (Ky.i (Ky.i (Ky.i (Ky.i (Ky.e))))):=id rfl
@[simp] theorem qb3:ky 63=Ky.o (Ky.o (Ky.o (Ky.o (Ky.o (Ky.o (Ky.e)))))):=id rfl
@[simp] theorem qb2:ky 64=Ky.i (Ky.o (Ky.o (Ky.o (Ky.o (Ky.o (Ky.e)))))):=id rfl
@[simp] theorem qb1:ky 65=Ky.o (Ky.i (Ky.o (Ky.o (Ky.o (Ky.o (Ky.e)))))):=id rfl
@[simp] theorem qb0:ky 66=Ky.i (Ky.i (Ky.o (Ky.o (Ky.o (Ky.o (Ky.e)))))):=id rfl
@[simp] theorem qbZ:ky 67=Ky.o (Ky.o (Ky.i (Ky.o (Ky.o (Ky.o (Ky.e)))))):=id rfl
@[simp] theorem qbY:ky 68=Ky.i (Ky.o (Ky.i (Ky.o (Ky.o (Ky.o (Ky.e)))))):=id rfl
@[simp] theorem qbX:ky 69=Ky.o (Ky.i (Ky.i (Ky.o (Ky.o (Ky.o (Ky.e)))))):=id rfl
@[simp] theorem qbW:ky 70=Ky.i (Ky.i (Ky.i (Ky.o (Ky.o (Ky.o (Ky.e)))))):=id rfl
@[simp] theorem qbV:ky 71=Ky.o (Ky.o (Ky.o (Ky.i (Ky.o (Ky.o (Ky.e)))))):=id rfl
@[simp] theorem qbU:ky 72=Ky.i (Ky.o (Ky.o (Ky.i (Ky.o (Ky.o (Ky.e)))))):=id rfl
@[simp] theorem qbT:ky 73=Ky.o (Ky.i (Ky.o (Ky.i (Ky.o (Ky.o (Ky.e)))))):=id rfl
@[simp] theorem qbS:ky 74=Ky.i (Ky.i (Ky.o (Ky.i (Ky.o (Ky.o (Ky.e)))))):=id rfl
@[simp] theorem qbR:ky 75=Ky.o (Ky.o (Ky.i (Ky.i (Ky.o (Ky.o (Ky.e)))))):=id rfl
@[simp] theorem qbQ:ky 76=Ky.i (Ky.o (Ky.i (Ky.i (Ky.o (Ky.o (Ky.e)))))):=id rfl
@[simp] theorem qbP:ky 77=Ky.o (Ky.i (Ky.i (Ky.i (Ky.o (Ky.o (Ky.e)))))):=id rfl
@[simp] theorem qbO:ky 78=Ky.i (Ky.i (Ky.i (Ky.i (Ky.o (Ky.o (Ky.e)))))):=id rfl
@[simp] theorem qbN:ky 79=Ky.o (Ky.o (Ky.o (Ky.o (Ky.i (Ky.o (Ky.e)))))):=id rfl
@[simp] theorem qbM:ky 80=Ky.i (Ky.o (Ky.o (Ky.o (Ky.i (Ky.o (Ky.e)))))):=id rfl
@[simp] theorem qbL:ky 81=Ky.o (Ky.i (Ky.o (Ky.o (Ky.i (Ky.o (Ky.e)))))):=id rfl
@[simp] theorem qbK:ky 82=Ky.i (Ky.i (Ky.o (Ky.o (Ky.i (Ky.o (Ky.e)))))):=id rfl
@[simp] theorem qbJ:ky 83=Ky.o (Ky.o (Ky.i (Ky.o (Ky.i (Ky.o (Ky.e)))))):=id rfl
@[simp] theorem qbI:ky 84=Ky.i (Ky.o (Ky.i (Ky.o (Ky.i (Ky.o (Ky.e)))))):=id rfl
@[simp] theorem qbH:ky 85=Ky.o (Ky.i (Ky.i (Ky.o (Ky.i (Ky.o (Ky.e)))))):=id rfl
@[simp] theorem qbG:ky 86=Ky.i (Ky.i (Ky.i (Ky.o (Ky.i (Ky.o (Ky.e)))))):=id rfl
@[simp] theorem qbF:ky 87=Ky.o (Ky.o (Ky.o (Ky.i (Ky.i (Ky.o (Ky.e)))))):=id rfl
@[simp] theorem qbE:ky 88=Ky.i (Ky.o (Ky.o (Ky.i (Ky.i (Ky.o (Ky.e)))))):=id rfl
@[simp] theorem qbD:ky 89=Ky.o (Ky.i (Ky.o (Ky.i (Ky.i (Ky.o (Ky.e)))))):=id rfl
@[simp] theorem qbC:ky 90=Ky.i (Ky.i (Ky.o (Ky.i (Ky.i (Ky.o (Ky.e)))))):=id rfl
@[simp] theorem qbB:ky 91=Ky.o (Ky.o (Ky.i (Ky.i (Ky.i (Ky.o (Ky.e)))))):=id rfl
@[simp] theorem qbA:ky 92=Ky.i (Ky.o (Ky.i (Ky.i (Ky.i (Ky.o (Ky.e)))))):=id rfl
@[simp] theorem qbz:ky 93=Ky.o (Ky.i (Ky.i (Ky.i (Ky.i (Ky.o (Ky.e)))))):=id rfl
@[simp] theorem qby:ky 94=Ky.i (Ky.i (Ky.i (Ky.i (Ky.i (Ky.o (Ky.e)))))):=id rfl
@[simp] theorem qbx:ky 95=Ky.o (Ky.o (Ky.o (Ky.o (Ky.o (Ky.i (Ky.e)))))):=id rfl
@[simp] theorem qbw:ky 96=Ky.i (Ky.o (Ky.o (Ky.o (Ky.o (Ky.i (Ky.e)))))):=id rfl
@[simp] theorem qbv:ky 97=Ky.o (Ky.i (Ky.o (Ky.o (Ky.o (Ky.i (Ky.e)))))):=id rfl
@[simp] theorem qbu:ky 98=Ky.i (Ky.i (Ky.o (Ky.o (Ky.o (Ky.i (Ky.e)))))):=id rfl
@[simp] theorem qbt:ky 99=Ky.o (Ky.o (Ky.i (Ky.o (Ky.o (Ky.i (Ky.e)))))):=id rfl
@[simp] theorem ZC:ky 100=Ky.i (Ky.o (Ky.i (Ky.o (Ky.o (Ky.i (Ky.e)))))):=id rfl
@[simp] theorem ZB:ky 101=Ky.o (Ky.i (Ky.i (Ky.o (Ky.o (Ky.i (Ky.e)))))):=id rfl
@[simp] theorem ZA:ky 102=Ky.i (Ky.i (Ky.i (Ky.o (Ky.o (Ky.i (Ky.e)))))):=id rfl
@[simp] theorem Zz:ky 103=Ky.o (Ky.o (Ky.o (Ky.i (Ky.o (Ky.i (Ky.e)))))):=id rfl
@[simp] theorem Zy:ky 104=Ky.i (Ky.o (Ky.o (Ky.i (Ky.o (Ky.i (Ky.e)))))):=id rfl
@[simp] theorem Zx:ky 105=Ky.o (Ky.i (Ky.o (Ky.i (Ky.o (Ky.i (Ky.e)))))):=id rfl
@[simp] theorem Zw:ky 106=Ky.i (Ky.i (Ky.o (Ky.i (Ky.o (Ky.i (Ky.e)))))):=id rfl
@[simp] theorem Zv:ky 107=Ky.o (Ky.o (Ky.i (Ky.i (Ky.o (Ky.i (Ky.e)))))):=id rfl
@[simp] theorem Zu:ky 108=Ky.i (Ky.o (Ky.i (Ky.i (Ky.o (Ky.i (Ky.e)))))):=id rfl
@[simp] theorem Zt:ky 109=Ky.o (Ky.i (Ky.i (Ky.i (Ky.o (Ky.i (Ky.e)))))):=id rfl
@[simp] theorem Zs:ky 110=Ky.i (Ky.i (Ky.i (Ky.i (Ky.o (Ky.i (Ky.e)))))):=id rfl
@[simp] theorem Zr:ky 111=Ky.o (Ky.o (Ky.o (Ky.o (Ky.i (Ky.i (Ky.e)))))):=id rfl
@[simp] theorem Zq:ky 112=Ky.i (Ky.o (Ky.o (Ky.o (Ky.i (Ky.i (Ky.e)))))):=id rfl
@[simp] theorem Zp:ky 113=Ky.o (Ky.i (Ky.o (Ky.o (Ky.i (Ky.i (Ky.e)))))):=id rfl
@[simp] theorem Zo:ky 114=Ky.i (Ky.i (Ky.o (Ky.o (Ky.i (Ky.i (Ky.e)))))):=id rfl
@[simp] theorem Zn:ky 115=Ky.o (Ky.o (Ky.i (Ky.o (Ky.i (Ky.i (Ky.e)))))):=id rfl
@[simp] theorem Zm:ky 116=Ky.i (Ky.o (Ky.i (Ky.o (Ky.i (Ky.i (Ky.e)))))):=id rfl
@[simp] theorem Zl:ky 117=Ky.o (Ky.i (Ky.i (Ky.o (Ky.i (Ky.i (Ky.e)))))):=id rfl
@[simp] theorem Zk:ky 118=Ky.i (Ky.i (Ky.i (Ky.o (Ky.i (Ky.i (Ky.e)))))):=id rfl
@[simp] theorem Zj:ky 119=Ky.o (Ky.o (Ky.o (Ky.i (Ky.i (Ky.i (Ky.e)))))):=id rfl
@[simp] theorem Zi:ky 120=Ky.i (Ky.o (Ky.o (Ky.i (Ky.i (Ky.i (Ky.e)))))):=id rfl
@[simp] theorem Zh:ky 121=Ky.o (Ky.i (Ky.o (Ky.i (Ky.i (Ky.i (Ky.e)))))):=id rfl
@[simp] theorem Zg:ky 122=Ky.i (Ky.i (Ky.o (Ky.i (Ky.i (Ky.i (Ky.e)))))):=id rfl
@[simp] theorem Zf:ky 123=Ky.o (Ky.o (Ky.i (Ky.i (Ky.i (Ky.i (Ky.e)))))):=id rfl
@[simp] theorem Ze:ky 124=Ky.i (Ky.o (Ky.i (Ky.i (Ky.i (Ky.i (Ky.e)))))):=id rfl
@[simp] theorem Zd:ky 125=Ky.o (Ky.i (Ky.i (Ky.i (Ky.i (Ky.i (Ky.e)))))):=id rfl
@[simp] theorem Zc:ky 126=Ky.i (Ky.i (Ky.i (Ky.i (Ky.i (Ky.i (Ky.e)))))):=id rfl
@[simp] theorem Zb:ky 127=Ky.o (Ky.o (Ky.o (Ky.o (Ky.o (Ky.o (Ky.o (Ky.e))))))):=id rfl
@[simp] theorem Za:ky 128=Ky.i (Ky.o (Ky.o (Ky.o (Ky.o (Ky.o (Ky.o (Ky.e))))))):=id rfl
@[simp] theorem Y9:ky 129=Ky.o (Ky.i (Ky.o (Ky.o (Ky.o (Ky.o (Ky.o (Ky.e))))))):=id rfl
@[simp] theorem Y8:ky 130=Ky.i (Ky.i (Ky.o (Ky.o (Ky.o (Ky.o (Ky.o (Ky.e))))))):=id rfl
@[simp] theorem Y7:ky 131=Ky.o (Ky.o (Ky.i (Ky.o (Ky.o (Ky.o (Ky.o (Ky.e))))))):=id rfl
@[simp] theorem Y6:ky 132=Ky.i (Ky.o (Ky.i (Ky.o (Ky.o (Ky.o (Ky.o (Ky.e))))))):=id rfl
@[simp] theorem Y5:ky 133=Ky.o (Ky.i (Ky.i (Ky.o (Ky.o (Ky.o (Ky.o (Ky.e))))))):=id rfl
@[simp] theorem Y4:ky 134=Ky.i (Ky.i (Ky.i (Ky.o (Ky.o (Ky.o (Ky.o (Ky.e))))))):=id rfl
@[simp] theorem Y3:ky 135=Ky.o (Ky.o (Ky.o (Ky.i (Ky.o (Ky.o (Ky.o (Ky.e))))))):=id rfl
@[simp] theorem Y2:ky 136=Ky.i (Ky.o (Ky.o (Ky.i (Ky.o (Ky.o (Ky.o (Ky.e))))))):=id rfl
@[simp] theorem Y1:ky 137=Ky.o (Ky.i (Ky.o (Ky.i (Ky.o (Ky.o (Ky.o (Ky.e))))))):=id rfl
@[simp] theorem Y0:ky 138=Ky.i (Ky.i (Ky.o (Ky.i (Ky.o (Ky.o (Ky.o (Ky.e))))))):=id rfl
@[simp] theorem YZ:ky 139=Ky.o (Ky.o (Ky.i (Ky.i (Ky.o (Ky.o (Ky.o (Ky.e))))))):=id rfl
@[simp] theorem YY:ky 140=Ky.i (Ky.o (Ky.i (Ky.i (Ky.o (Ky.o (Ky.o (Ky.e))))))):=id rfl
@[simp] theorem YX:ky 141=Ky.o (Ky.i (Ky.i (Ky.i (Ky.o (Ky.o (Ky.o (Ky.e))))))):=id rfl
@[simp] theorem YW:ky 142=Ky.i (Ky.i (Ky.i (Ky.i (Ky.o (Ky.o (Ky.o (Ky.e))))))):=id rfl
@[simp] theorem YV:ky 143=Ky.o (Ky.o (Ky.o (Ky.o (Ky.i (Ky.o (Ky.o (Ky.e))))))):=id rfl
@[simp] theorem YU:ky 144=Ky.i (Ky.o (Ky.o (Ky.o (Ky.i (Ky.o (Ky.o (Ky.e))))))):=id rfl
@[simp] theorem YT:ky 145=Ky.o (Ky.i (Ky.o (Ky.o (Ky.i (Ky.o (Ky.o (Ky.e))))))):=id rfl
@[simp] theorem YS:ky 146=Ky.i (Ky.i (Ky.o (Ky.o (Ky.i (Ky.o (Ky.o (Ky.e))))))):=id rfl
@[simp] theorem YR:ky 147=Ky.o (Ky.o (Ky.i (Ky.o (Ky.i (Ky.o (Ky.o (Ky.e))))))):=id rfl
@[simp] theorem YQ:ky 148=Ky.i (Ky.o (Ky.i (Ky.o (Ky.i (Ky.o (Ky.o (Ky.e))))))):=id rfl
@[simp] theorem YP:ky 149=Ky.o (Ky.i (Ky.i (Ky.o (Ky.i (Ky.o (Ky.o (Ky.e))))))):=id rfl
@[simp] theorem YO:ky 150=Ky.i (Ky.i (Ky.i (Ky.o (Ky.i (Ky.o (Ky.o (Ky.e))))))):=id rfl
@[simp] theorem YN:ky 151=Ky.o (Ky.o (Ky.o (Ky.i (Ky.i (Ky.o (Ky.o (Ky.e))))))):=id rfl
@[simp] theorem YM:ky 152=Ky.i (Ky.o (Ky.o (Ky.i (Ky.i (Ky.o (Ky.o (Ky.e))))))):=id rfl
@[simp] theorem YL:ky 153=Ky.o (Ky.i (Ky.o (Ky.i (Ky.i (Ky.o (Ky.o (Ky.e))))))):=id rfl
@[simp] theorem YK:ky 154=Ky.i (Ky.i (Ky.o (Ky.i (Ky.i (Ky.o (Ky.o (Ky.e))))))):=id rfl
@[simp] theorem YJ:ky 155=Ky.o (Ky.o (Ky.i (Ky.i (Ky.i (Ky.o (Ky.o (Ky.e))))))):=id rfl
@[simp] theorem YI:ky 156=Ky.i (Ky.o (Ky.i (Ky.i (Ky.i (Ky.o (Ky.o (Ky.e))))))):=id rfl
@[simp] theorem YH:ky 157=Ky.o (Ky.i (Ky.i (Ky.i (Ky.i (Ky.o (Ky.o (Ky.e))))))):=id rfl
@[simp] theorem YG:ky 158=Ky.i (Ky.i (Ky.i (Ky.i (Ky.i (Ky.o (Ky.o (Ky.e))))))):=id rfl
@[simp] theorem YF:ky 159=Ky.o (Ky.o (Ky.o (Ky.o (Ky.o (Ky.i (Ky.o (Ky.e))))))):=id rfl
@[simp] theorem YE:ky 160=Ky.i (Ky.o (Ky.o (Ky.o (Ky.o (Ky.i (Ky.o (Ky.e))))))):=id rfl
@[simp] theorem YD:ky 161=Ky.o (Ky.i (Ky.o (Ky.o (Ky.o (Ky.i (Ky.o (Ky.e))))))):=id rfl
@[simp] theorem YC:ky 162=Ky.i (Ky.i (Ky.o (Ky.o (Ky.o (Ky.i (Ky.o (Ky.e))))))):=id rfl
@[simp] theorem YB:ky 163=Ky.o (Ky.o (Ky.i (Ky.o (Ky.o (Ky.i (Ky.o (Ky.e))))))):=id rfl
@[simp] theorem YA:ky 164=Ky.i (Ky.o (Ky.i (Ky.o (Ky.o (Ky.i (Ky.o (Ky.e))))))):=id rfl
@[simp] theorem Yz:ky 165=Ky.o (Ky.i (Ky.i (Ky.o (Ky.o (Ky.i (Ky.o (Ky.e))))))):=id rfl
@[simp] theorem Yy:ky 166=Ky.i (Ky.i (Ky.i (Ky.o (Ky.o (Ky.i (Ky.o (Ky.e))))))):=id rfl
@[simp] theorem Yx:ky 167=Ky.o (Ky.o (Ky.o (Ky.i (Ky.o (Ky.i (Ky.o (Ky.e))))))):=id rfl
@[simp] theorem Yw:ky 168=Ky.i (Ky.o (Ky.o (Ky.i (Ky.o (Ky.i (Ky.o (Ky.e))))))):=id rfl
@[simp] theorem Yv:ky 169=Ky.o (Ky.i (Ky.o (Ky.i (Ky.o (Ky.i (Ky.o (Ky.e))))))):=id rfl
@[simp] theorem Yu:ky 170=Ky.i (Ky.i (Ky.o (Ky.i (Ky.o (Ky.i (Ky.o (Ky.e))))))):=id rfl
@[simp] theorem Yt:ky 171=Ky.o (Ky.o (Ky.i (Ky.i (Ky.o (Ky.i (Ky.o (Ky.e))))))):=id rfl
@[simp] theorem Ys:ky 172=Ky.i (Ky.o (Ky.i (Ky.i (Ky.o (Ky.i (Ky.o (Ky.e))))))):=id rfl
@[simp] theorem Yr:ky 173=Ky.o (Ky.i (Ky.i (Ky.i (Ky.o (Ky.i (Ky.o (Ky.e))))))):=id rfl
@[simp] theorem Yq:ky 174=Ky.i (Ky.i (Ky.i (Ky.i (Ky.o (Ky.i (Ky.o (Ky.e))))))):=id rfl
@[simp] theorem Yp:ky 175=Ky.o (Ky.o (Ky.o (Ky.o (Ky.i (Ky.i (Ky.o (Ky.e))))))):=id rfl
@[simp] theorem Yo:ky 176=Ky.i (Ky.o (Ky.o (Ky.o (Ky.i (Ky.i (Ky.o (Ky.e))))))):=id rfl
@[simp] theorem Yn:ky 177=Ky.o (Ky.i (Ky.o (Ky.o (Ky.i (Ky.i (Ky.o (Ky.e))))))):=id rfl
@[simp] theorem Ym:ky 178=Ky.i (Ky.i (Ky.o (Ky.o (Ky.i (Ky.i (Ky.o (Ky.e))))))):=id rfl
@[simp] theorem Yl:ky 179=Ky.o (Ky.o (Ky.i (Ky.o (Ky.i (Ky.i (Ky.o (Ky.e))))))):=id rfl
@[simp] theorem Yk:ky 180=Ky.i (Ky.o (Ky.i (Ky.o (Ky.i (Ky.i (Ky.o (Ky.e))))))):=id rfl
@[simp] theorem Yj:ky 181=Ky.o (Ky.i (Ky.i (Ky.o (Ky.i (Ky.i (Ky.o (Ky.e))))))):=id rfl
@[simp] theorem Yi:ky 182=Ky.i (Ky.i (Ky.i (Ky.o (Ky.i (Ky.i (Ky.o (Ky.e))))))):=id rfl
@[simp] theorem Yh:ky 183=Ky.o (Ky.o (Ky.o (Ky.i (Ky.i (Ky.i (Ky.o (Ky.e))))))):=id rfl
@[simp] theorem Yg:ky 184=Ky.i (Ky.o (Ky.o (Ky.i (Ky.i (Ky.i (Ky.o (Ky.e))))))):=id rfl
@[simp] theorem Yf:ky 185=Ky.o (Ky.i (Ky.o (Ky.i (Ky.i (Ky.i (Ky.o (Ky.e))))))):=id rfl
@[simp] theorem Ye:ky 186=Ky.i (Ky.i (Ky.o (Ky.i (Ky.i (Ky.i (Ky.o (Ky.e))))))):=id rfl
@[simp] theorem Yd:ky 187=Ky.o (Ky.o (Ky.i (Ky.i (Ky.i (Ky.i (Ky.o (Ky.e))))))):=id rfl
@[simp] theorem Yc:ky 188=Ky.i (Ky.o (Ky.i (Ky.i (Ky.i (Ky.i (Ky.o (Ky.e))))))):=id rfl
@[simp] theorem Yb:ky 189=Ky.o (Ky.i (Ky.i (Ky.i (Ky.i (Ky.i (Ky.o (Ky.e))))))):=id rfl
@[simp] theorem Ya:ky 190=Ky.i (Ky.i (Ky.i (Ky.i (Ky.i (Ky.i (Ky.o (Ky.e))))))):=id rfl
@[simp] theorem X9:ky 191=Ky.o (Ky.o (Ky.o (Ky.o (Ky.o (Ky.o (Ky.i (Ky.e))))))):=id rfl
@[simp] theorem X8:ky 192=Ky.i (Ky.o (Ky.o (Ky.o (Ky.o (Ky.o (Ky.i (Ky.e))))))):=id rfl
@[simp] theorem X7:ky 193=Ky.o (Ky.i (Ky.o (Ky.o (Ky.o (Ky.o (Ky.i (Ky.e))))))):=id rfl
@[simp] theorem X6:ky 194=Ky.i (Ky.i (Ky.o (Ky.o (Ky.o (Ky.o (Ky.i (Ky.e))))))):=id rfl
@[simp] theorem X5:ky 195=Ky.o (Ky.o (Ky.i (Ky.o (Ky.o (Ky.o (Ky.i (Ky.e))))))):=id rfl
@[simp] theorem X4:ky 196=Ky.i (Ky.o (Ky.i (Ky.o (Ky.o (Ky.o (Ky.i (Ky.e))))))):=id rfl
@[simp] theorem X3:ky 197=Ky.o (Ky.i (Ky.i (Ky.o (Ky.o (Ky.o (Ky.i (Ky.e))))))):=id rfl
@[simp] theorem X2:ky 198=Ky.i (Ky.i (Ky.i (Ky.o (Ky.o (Ky.o (Ky.i (Ky.e))))))):=id rfl
@[simp] theorem X1:ky 199=Ky.o (Ky.o (Ky.o (Ky.i (Ky.o (Ky.o (Ky.i (Ky.e))))))):=id rfl
@[simp] theorem X0:ky 200=Ky.i (Ky.o (Ky.o (Ky.i (Ky.o (Ky.o (Ky.i (Ky.e))))))):=id rfl
@[simp] theorem XZ:ky 201=Ky.o (Ky.i (Ky.o (Ky.i (Ky.o (Ky.o (Ky.i (Ky.e))))))):=id rfl
@[simp] theorem XY:ky 202=Ky.i (Ky.i (Ky.o (Ky.i (Ky.o (Ky.o (Ky.i (Ky.e))))))):=id rfl
@[simp] theorem XX:ky 203=Ky.o (Ky.o (Ky.i (Ky.i (Ky.o (Ky.o (Ky.i (Ky.e))))))):=id rfl
@[simp] theorem XW:ky 204=Ky.i (Ky.o (Ky.i (Ky.i (Ky.o (Ky.o (Ky.i (Ky.e))))))):=id rfl
@[simp] theorem XV:ky 205=Ky.o (Ky.i (Ky.i (Ky.i (Ky.o (Ky.o (Ky.i (Ky.e))))))):=id rfl
@[simp] theorem XU:ky 206=Ky.i (Ky.i (Ky.i (Ky.i (Ky.o (Ky.o (Ky.i (Ky.e))))))):=id rfl
@[simp] theorem XT:ky 207=Ky.o (Ky.o (Ky.o (Ky.o (Ky.i (Ky.o (Ky.i (Ky.e))))))):=id rfl
@[simp] theorem XS:ky 208=Ky.i (Ky.o (Ky.o (Ky.o (Ky.i (Ky.o (Ky.i (Ky.e))))))):=id rfl
@[simp] theorem XR:ky 209=Ky.o (Ky.i (Ky.o (Ky.o (Ky.i (Ky.o (Ky.i (Ky.e))))))):=id rfl
@[simp] theorem XQ:ky 210=Ky.i (Ky.i (Ky.o (Ky.o (Ky.i (Ky.o (Ky.i (Ky.e))))))):=id rfl
@[simp] theorem XP:ky 211=Ky.o (Ky.o (Ky.i (Ky.o (Ky.i (Ky.o (Ky.i (Ky.e))))))):=id rfl
@[simp] theorem XO:ky 212=Ky.i (Ky.o (Ky.i (Ky.o (Ky.i (Ky.o (Ky.i (Ky.e))))))):=id rfl
@[simp] theorem XN:ky 213=Ky.o (Ky.i (Ky.i (Ky.o (Ky.i (Ky.o (Ky.i (Ky.e))))))):=id rfl
@[simp] theorem XM:ky 214=Ky.i (Ky.i (Ky.i (Ky.o (Ky.i (Ky.o (Ky.i (Ky.e))))))):=id rfl
@[simp] theorem XL:ky 215=Ky.o (Ky.o (Ky.o (Ky.i (Ky.i (Ky.o (Ky.i (Ky.e))))))):=id rfl
@[simp] theorem XK:ky 216=Ky.i (Ky.o (Ky.o (Ky.i (Ky.i (Ky.o (Ky.i (Ky.e))))))):=id rfl
@[simp] theorem XJ:ky 217=Ky.o (Ky.i (Ky.o (Ky.i (Ky.i (Ky.o (Ky.i (Ky.e))))))):=id rfl
@[simp] theorem XI:ky 218=Ky.i (Ky.i (Ky.o (Ky.i (Ky.i (Ky.o (Ky.i (Ky.e))))))):=id rfl
@[simp] theorem XH:ky 219=Ky.o (Ky.o (Ky.i (Ky.i (Ky.i (Ky.o (Ky.i (Ky.e))))))):=id rfl
@[simp] theorem XG:ky 220=Ky.i (Ky.o (Ky.i (Ky.i (Ky.i (Ky.o (Ky.i (Ky.e))))))):=id rfl
@[simp] theorem XF:ky 221=Ky.o (Ky.i (Ky.i (Ky.i (Ky.i (Ky.o (Ky.i (Ky.e))))))):=id rfl
@[simp] theorem XE:ky 222=Ky.i (Ky.i (Ky.i (Ky.i (Ky.i (Ky.o (Ky.i (Ky.e))))))):=id rfl
@[simp] theorem XD:ky 223=Ky.o (Ky.o (Ky.o (Ky.o (Ky.o (Ky.i (Ky.i (Ky.e))))))):=id rfl
@[simp] theorem XC:ky 224=Ky.i (Ky.o (Ky.o (Ky.o (Ky.o (Ky.i (Ky.i (Ky.e))))))):=id rfl
@[simp] theorem XB:ky 225=Ky.o (Ky.i (Ky.o (Ky.o (Ky.o (Ky.i (Ky.i (Ky.e))))))):=id rfl
@[simp] theorem XA:ky 226=Ky.i (Ky.i (Ky.o (Ky.o (Ky.o (Ky.i (Ky.i (Ky.e))))))):=id rfl
@[simp] theorem Xz:ky 227=Ky.o (Ky.o (Ky.i (Ky.o (Ky.o (Ky.i (Ky.i (Ky.e))))))):=id rfl
@[simp] theorem Xy:ky 228=Ky.i (Ky.o (Ky.i (Ky.o (Ky.o (Ky.i (Ky.i (Ky.e))))))):=id rfl
@[simp] theorem Xx:ky 229=Ky.o (Ky.i (Ky.i (Ky.o (Ky.o (Ky.i (Ky.i (Ky.e))))))):=id rfl
@[simp] theorem Xw:ky 230=Ky.i (Ky.i (Ky.i (Ky.o (Ky.o (Ky.i (Ky.i (Ky.e))))))):=id rfl
@[simp] theorem Xv:ky 231=Ky.o (Ky.o (Ky.o (Ky.i (Ky.o (Ky.i (Ky.i (Ky.e))))))):=id rfl
@[simp] theorem Xu:ky 232=Ky.i (Ky.o (Ky.o (Ky.i (Ky.o (Ky.i (Ky.i (Ky.e))))))):=id rfl
@[simp] theorem Xt:ky 233=Ky.o (Ky.i (Ky.o (Ky.i (Ky.o (Ky.i (Ky.i (Ky.e))))))):=id rfl
@[simp] theorem Xs:ky 234=Ky.i (Ky.i (Ky.o (Ky.i (Ky.o (Ky.i (Ky.i (Ky.e))))))):=id rfl
@[simp] theorem Xr:ky 235=Ky.o (Ky.o (Ky.i (Ky.i (Ky.o (Ky.i (Ky.i (Ky.e))))))):=id rfl
@[simp] theorem Xq:ky 236=Ky.i (Ky.o (Ky.i (Ky.i (Ky.o (Ky.i (Ky.i (Ky.e))))))):=id rfl
@[simp] theorem Xp:ky 237=Ky.o (Ky.i (Ky.i (Ky.i (Ky.o (Ky.i (Ky.i (Ky.e))))))):=id rfl
@[simp] theorem Xo:ky 238=Ky.i (Ky.i (Ky.i (Ky.i (Ky.o (Ky.i (Ky.i (Ky.e))))))):=id rfl
@[simp] theorem Xn:ky 239=Ky.o (Ky.o (Ky.o (Ky.o (Ky.i (Ky.i (Ky.i (Ky.e))))))):=id rfl
@[simp] theorem Xm:ky 240=Ky.i (Ky.o (Ky.o (Ky.o (Ky.i (Ky.i (Ky.i (Ky.e))))))):=id rfl
@[simp] theorem Xl:ky 241=Ky.o (Ky.i (Ky.o (Ky.o (Ky.i (Ky.i (Ky.i (Ky.e))))))):=id rfl
@[simp] theorem Xk:ky 242=Ky.i (Ky.i (Ky.o (Ky.o (Ky.i (Ky.i (Ky.i (Ky.e))))))):=id rfl
@[simp] theorem Xj:ky 243=Ky.o (Ky.o (Ky.i (Ky.o (Ky.i (Ky.i (Ky.i (Ky.e))))))):=id rfl
@[simp] theorem Xi:ky 244=Ky.i (Ky.o (Ky.i (Ky.o (Ky.i (Ky.i (Ky.i (Ky.e))))))):=id rfl
@[simp] theorem Xh:ky 245=Ky.o (Ky.i (Ky.i (Ky.o (Ky.i (Ky.i (Ky.i (Ky.e))))))):=id rfl
@[simp] theorem Xg:ky 246=Ky.i (Ky.i (Ky.i (Ky.o (Ky.i (Ky.i (Ky.i (Ky.e))))))):=id rfl
@[simp] theorem Xf:ky 247=Ky.o (Ky.o (Ky.o (Ky.i (Ky.i (Ky.i (Ky.i (Ky.e))))))):=id rfl
@[simp] theorem Xe:ky 248=Ky.i (Ky.o (Ky.o (Ky.i (Ky.i (Ky.i (Ky.i (Ky.e))))))):=id rfl
@[simp] theorem Xd:ky 249=Ky.o (Ky.i (Ky.o (Ky.i (Ky.i (Ky.i (Ky.i (Ky.e))))))):=id rfl
@[simp] theorem Xc:ky 250=Ky.i (Ky.i (Ky.o (Ky.i (Ky.i (Ky.i (Ky.i (Ky.e))))))):=id rfl
@[simp] theorem Xb:ky 251=Ky.o (Ky.o (Ky.i (Ky.i (Ky.i (Ky.i (Ky.i (Ky.e))))))):=id rfl
@[simp] theorem Xa:ky 252=Ky.i (Ky.o (Ky.i (Ky.i (Ky.i (Ky.i (Ky.i (Ky.e))))))):=id rfl
@[simp] theorem WZ:ky 253=Ky.o (Ky.i (Ky.i (Ky.i (Ky.i (Ky.i (Ky.i (Ky.e))))))):=id rfl
@[simp] theorem WY:ky 254=Ky.i (Ky.i (Ky.i (Ky.i (Ky.i (Ky.i (Ky.i (Ky.e))))))):=id rfl
@[simp] theorem WX:ky 255=Ky.o (Ky.o (Ky.o (Ky.o (Ky.o (Ky.o (Ky.o (Ky.o (Ky.e)))))))):=id rfl
@[simp] theorem WW:ky 256=Ky.i (Ky.o (Ky.o (Ky.o (Ky.o (Ky.o (Ky.o (Ky.o (Ky.e)))))))):=id rfl
@[simp] theorem WV:ky 257=Ky.o (Ky.i (Ky.o (Ky.o (Ky.o (Ky.o (Ky.o (Ky.o (Ky.e)))))))):=id rfl
@[simp] theorem WU:ky 258=Ky.i (Ky.i (Ky.o (Ky.o (Ky.o (Ky.o (Ky.o (Ky.o (Ky.e)))))))):=id rfl
@[simp] theorem WT:ky 259=Ky.o (Ky.o (Ky.i (Ky.o (Ky.o (Ky.o (Ky.o (Ky.o (Ky.e)))))))):=id rfl
@[simp] theorem WS:ky 260=Ky.i (Ky.o (Ky.i (Ky.o (Ky.o (Ky.o (Ky.o (Ky.o (Ky.e)))))))):=id rfl
@[simp] theorem WR:ky 261=Ky.o (Ky.i (Ky.i (Ky.o (Ky.o (Ky.o (Ky.o (Ky.o (Ky.e)))))))):=id rfl
@[simp] theorem WQ:ky 262=Ky.i (Ky.i (Ky.i (Ky.o (Ky.o (Ky.o (Ky.o (Ky.o (Ky.e)))))))):=id rfl
@[simp] theorem WP:ky 263=Ky.o (Ky.o (Ky.o (Ky.i (Ky.o (Ky.o (Ky.o (Ky.o (Ky.e)))))))):=id rfl
@[simp] theorem WO:ky 264=Ky.i (Ky.o (Ky.o (Ky.i (Ky.o (Ky.o (Ky.o (Ky.o (Ky.e)))))))):=id rfl
@[simp] theorem WN:ky 265=Ky.o (Ky.i (Ky.o (Ky.i (Ky.o (Ky.o (Ky.o (Ky.o (Ky.e)))))))):=id rfl
@[simp] theorem WM:ky 266=Ky.i (Ky.i (Ky.o (Ky.i (Ky.o (Ky.o (Ky.o (Ky.o (Ky.e)))))))):=id rfl
@[simp] theorem WL:ky 267=Ky.o (Ky.o (Ky.i (Ky.i (Ky.o (Ky.o (Ky.o (Ky.o (Ky.e)))))))):=id rfl
@[simp] theorem WK:ky 268=Ky.i (Ky.o (Ky.i (Ky.i (Ky.o (Ky.o (Ky.o (Ky.o (Ky.e)))))))):=id rfl
@[simp] theorem WJ:ky 269=Ky.o (Ky.i (Ky.i (Ky.i (Ky.o (Ky.o (Ky.o (Ky.o (Ky.e)))))))):=id rfl
@[simp] theorem WI:ky 270=Ky.i (Ky.i (Ky.i (Ky.i (Ky.o (Ky.o (Ky.o (Ky.o (Ky.e)))))))):=id rfl
@[simp] theorem WH:ky 272=Ky.i (Ky.o (Ky.o (Ky.o (Ky.i (Ky.o (Ky.o (Ky.o (Ky.e)))))))):=id rfl
@[simp] theorem TV (H:aa) (i:Nat):bD [] H i=H i:=id rfl
@[simp] theorem RK (t i:Nat):vI (some t) i=(HT i=HT t):=id rfl
@[simp] theorem ZQ {i:Nat} (h:i < 990):HT i=i:=by unfold HT;rw[if_neg (by omega)]
@[simp] theorem TX (d:Option Nat) (g:Option (Nat×Bool)) (c:COp) (l:List CI) (H:aa) (i:Nat):bD (.op d g c::l) H i=if vI (CI.op d g c).wid i then none else bD l H i:=id rfl
@[simp] theorem TW (a b:Nat) (l:List CI) (H:aa) (i:Nat):bD (.frz a b::l) H i=H i:=id rfl
@[simp] theorem VA (dst_:Option Nat) (gd_:Option (Nat×Bool)) (x:Operand): (CI.op dst_ gd_ (.mv x)).wid=dst_:=id rfl
@[simp] theorem QO (dst_:Option Nat) (gd_:Option (Nat×Bool)) (c:Operand) (x:Operand) (y:Operand): (CI.op dst_ gd_ (.pick c x y)).wid=dst_:=id rfl
@[simp] theorem P6 (dst_:Option Nat) (gd_:Option (Nat×Bool)) (el:Nat) (z:List Value): (CI.op dst_ gd_ (.alloc el z)).wid=dst_:=id rfl
@[simp] theorem P4 (dst_:Option Nat) (gd_:Option (Nat×Bool)) (z:List Value) (parts:List (Nat×Nat×Operand)): (CI.op dst_ gd_ (.build z parts)).wid=dst_:=id rfl
@[simp] theorem Oy (dst_:Option Nat) (gd_:Option (Nat×Bool)) (el:Nat) (n:Nat) (parts:List Operand): (CI.op dst_ gd_ (.bslice el n parts)).wid=dst_:=id rfl
@[simp] theorem QP (dst_:Option Nat) (gd_:Option (Nat×Bool)) (agg:Bool) (sz:Nat) (x:Operand): (CI.op dst_ gd_ (.load agg sz x)).wid=dst_:=id rfl
@[simp] theorem NZ (d:Option Nat) (g:Option (Nat×Bool)) (r sz:Nat) (x y:Operand): (CI.op d g (.store (some r) sz x y)).wid=some r:=id rfl
@[simp] theorem P0 (dst_:Option Nat) (gd_:Option (Nat×Bool)) (x:Operand): (CI.op dst_ gd_ (.nilck x)).wid=dst_:=id rfl
@[simp] theorem P5 (dst_:Option Nat) (gd_:Option (Nat×Bool)) (op:BinOp) (x:Operand) (y:Operand): (CI.op dst_ gd_ (.arith op x y)).wid=dst_:=id rfl
@[simp] theorem SV (dst_:Option Nat) (gd_:Option (Nat×Bool)) (op:BinOp) (x:Operand) (y:Operand): (CI.op dst_ gd_ (.cmp op x y)).wid=dst_:=id rfl
@[simp] theorem PZ (dst_:Option Nat) (gd_:Option (Nat×Bool)) (n:Nat) (x:Operand) (lo:Option Operand) (hi:Option Operand): (CI.op dst_ gd_ (.slice n x lo hi)).wid=dst_:=id rfl
@[simp] theorem Ox (dst_:Option Nat) (gd_:Option (Nat×Bool)) (x:Operand) (lo:Option Operand) (hi:Option Operand): (CI.op dst_ gd_ (.sslice x lo hi)).wid=dst_:=id rfl
@[simp] theorem P2 (dst_:Option Nat) (gd_:Option (Nat×Bool)) (off:Nat) (x:Operand): (CI.op dst_ gd_ (.faddr off x)).wid=dst_:=id rfl
@[simp] theorem P1 (dst_:Option Nat) (gd_:Option (Nat×Bool)) (n:Nat) (x:Operand) (i:Operand): (CI.op dst_ gd_ (.iaddr n x i)).wid=dst_:=id rfl
@[simp] theorem SU (dst_:Option Nat) (gd_:Option (Nat×Bool)) (x:Operand) (i:Nat): (CI.op dst_ gd_ (.ext x i)).wid=dst_:=id rfl
@[simp] theorem ST (dst_:Option Nat) (gd_:Option (Nat×Bool)) (x:Operand): (CI.op dst_ gd_ (.len x)).wid=dst_:=id rfl
@[simp] theorem QN (dst_:Option Nat) (gd_:Option (Nat×Bool)) (x:Operand): (CI.op dst_ gd_ (.slen x)).wid=dst_:=id rfl
@[simp] theorem VB (dst_:Option Nat) (gd_:Option (Nat×Bool)) (mx:Bool) (xs:List Operand): (CI.op dst_ gd_ (.mm mx xs)).wid=dst_:=id rfl
@[simp] theorem Mx (d:Option Nat) (g:Option (Nat×Bool)) (r el n b:Nat) (x y:Operand): (CI.op d g (.append (some r) el n b x y)).wid=some r:=id rfl
@[simp] theorem QQ (dst_:Option Nat) (gd_:Option (Nat×Bool)) (f:Nat) (args:List Operand): (CI.op dst_ gd_ (.call f args)).wid=dst_:=id rfl
@[simp] theorem P3 (dst_:Option Nat) (gd_:Option (Nat×Bool)) (r f:Nat) (args:List Operand): (CI.op dst_ gd_ (.callb r f args)).wid=some r:=id rfl
end Go.Gv
