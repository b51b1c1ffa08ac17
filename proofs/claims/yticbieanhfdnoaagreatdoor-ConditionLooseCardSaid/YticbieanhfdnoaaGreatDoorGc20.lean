/- A part of the framework and of the walks: T13. -/
import Derived.Test.YticbieanhfdnoaaGreatDoorGc19
set_option linter.unusedSimpArgs false
set_option linter.unusedVariables false

namespace Go.Gv
open Cod (enc dec)
theorem bU {X:Type} [Cod X] {x y:X} (h:enc x=enc y):x=y:=by
 have:=congrArg (dec (X:=X)) h
 simpa using this
@[simp] theorem qdj {X:Type} [Cod X] (l l':List X): (l.map enc=l'.map enc)=(l=l'):=by
 refine propext ⟨fun h=> ?_,fun h=> h ▸rfl⟩
 induction l generalizing l' with
 | nil=> cases l' with
   | nil=> rfl
   | cons y l'=> simp at h
 | cons x l ih=> cases l' with
   | nil=> simp at h
   | cons y l'=>
     simp only[List.map_cons,List.cons.injEq] at h
     rw[bU h.1,ih _ h.2]
theorem gF {X:Type} [Cod X] (l:List X) (i:Nat) (x:X): (l.map enc).set i (enc x)=(l.set i x).map enc:=by
 rw[List.map_set]
theorem Fl {X:Type} [Cod X] (l:List X) (x:X):l.map enc++ [enc x]=(l++ [x]).map enc:=by simp
theorem jQ {X:Type} [Cod X] {H:aa} {id n:Nat} {v:Value} {l:List X} (el:Nat) (h:H id=some (.row v el n (l.map enc))) (hn:n=Cod.wd X:=by rfl):FrzTo H (.own id v) (.list n (l.map enc)):=by
 subst hn;exact LG h
inductive Ky where
 | e
 | o (k:Ky)
 | i (k:Ky)
deriving DecidableEq
inductive Tr where
 | nil
 | nd (d:D) (l r:Tr)
def Tr.get:Tr→Ky→D
 | .nil,_=> .any
 | .nd d _ _, .e=> d
 | .nd _ l _, .o k=> l.get k
 | .nd _ _ r, .i k=> r.get k
def Tr.set:Tr→Ky→D→Tr
 | .nil, .e,x=> .nd x .nil .nil
 | .nil, .o k,x=> .nd .any (Tr.set .nil k x) .nil
 | .nil, .i k,x=> .nd .any .nil (Tr.set .nil k x)
 | .nd _ l r, .e,x=> .nd x l r
 | .nd d l r, .o k,x=> .nd d (l.set k x) r
 | .nd d l r, .i k,x=> .nd d l (r.set k x)
noncomputable def Tr.frz (id:Nat) (x:Value) (L:D):Tr→Tr
 | .nil=> .nil
 | .nd d l r=> .nd (Si id x L d) (l.frz id x L) (r.frz id x L)
def U9:Nat→Nat→Ky
 | 0,_=> .e
 | f+1,n=> if n=0 then .e else if(n -1) % 2=0 then .o (U9 f ((n -1) /2)) else .i (U9 f ((n -1) /2))
def ky (n:Nat):Ky:=U9 n n
def Ky.val:Ky→Nat
 | .e=> 0
 | .o k=> 2*k.val+1
 | .i k=> 2*k.val+2
theorem zs: ∀ (f n:Nat),n≤f→(U9 f n).val=n
 | 0,n,h=> by
   have:n=0:=by omega
   subst this;rfl
 | f+1,n,h=> by
   unfold U9
   split
   ·rename_i e;subst e;rfl
   ·split
    ·simp only[Ky.val]
     rw[zs f _ (by omega)]
     omega
    ·simp only[Ky.val]
     rw[zs f _ (by omega)]
     omega
theorem Nu {m n:Nat} (h:ky m=ky n):m=n:=by
 have h1:=zs m m (Nat.le_refl _)
 have h2:=zs n n (Nat.le_refl _)
 unfold ky at h
 rw[h] at h1
 exact h1.symm.trans h2
theorem te: ∀ (T:Tr) (k j:Ky) (x:D),(T.set k x).get j=if j=k then x else T.get j
 | .nil, .e,j,x=> by cases j <;> simp[Tr.set,Tr.get]
 | .nil, .o k,j,x=> by
   have ih:=fun j=> te .nil k j x
   cases j <;> simp[Tr.set,Tr.get,ih]
 | .nil, .i k,j,x=> by
   have ih:=fun j=> te .nil k j x
   cases j <;> simp[Tr.set,Tr.get,ih]
 | .nd d l r, .e,j,x=> by cases j <;> simp[Tr.set,Tr.get]
 | .nd d l r, .o k,j,x=> by
   have ih:=fun j=> te l k j x
   cases j <;> simp[Tr.set,Tr.get,ih]
 | .nd d l r, .i k,j,x=> by
   have ih:=fun j=> te r k j x
   cases j <;> simp[Tr.set,Tr.get,ih]
def E6 (T:Tr):Sg:=fun t=> T.get (ky t)
@[simp] theorem XW (T:Tr) (t:Nat):E6 T t=T.get (ky t):=id rfl
@[simp] theorem Ul (T:Tr) (t:Nat) (d:D):upd (E6 T) t d=E6 (T.set (ky t) d):=by
 funext s
 simp only[upd,E6,te]
 by_cases h:s=t
 ·simp[h]
 ·have: ¬ky s=ky t:=fun e=> h (Nu e)
  simp[h,this]
theorem NM:E6 .nil=fun _=> .any:=by
 funext t
 simp[E6,Tr.get]
@[simp] theorem Sc (σ:Sg):gY [] σ=E6 .nil:=by rw[NM];rfl
@[simp] theorem P0 (t:Nat) (l:List Nat) (σ:Sg):gY (t::l) σ=upd (gY l σ) t (σ t):=id rfl
@[simp] theorem qeb (σ:Sg):nK [] σ=σ:=id rfl
@[simp] theorem YX (t:Nat) (d:D) (l:List (Nat×D)) (σ:Sg):nK ((t,d)::l) σ=upd (nK l σ) t d:=id rfl
def yq:Nat→List D→Tr
 | _, []=> .nil
 | n,d::l=> (yq (n+1) l).set (ky n) d
@[simp] theorem TH (n:Nat):yq n []= .nil:=id rfl
@[simp] theorem Se (n:Nat) (d:D) (l:List D):yq n (d::l)=(yq (n+1) l).set (ky n) d:=id rfl
theorem Dm: ∀ (l:List D) (n t:Nat),(yq n l).get (ky t)=if n≤t then(l[t -n]?).getD .any else .any
 | [],n,t=> by simp[yq,Tr.get]
 | d::l,n,t=> by
   rw[yq,te,Dm l (n+1) t]
   by_cases h:t=n
   ·subst h;simp
   ·have: ¬ky t=ky n:=fun e=> h (Nu e)
    rw[if_neg this]
    by_cases h2:n+1≤t
    ·have h3:n≤t:=by omega
     rw[if_pos h2,if_pos h3]
     have:t -n=(t - (n+1)) +1:=by omega
     rw[this];simp
    ·have h3: ¬n≤t:=by omega
     rw[if_neg h2,if_neg h3]
@[simp] theorem qc6 (l:List D):dC l=E6 (yq 0 l):=by
 funext t
 simp[dC,E6,Dm]
@[simp] theorem qg2 (d:D) (l r:Tr): (Tr.nd d l r).get .e=d:=id rfl
@[simp] theorem qg0 (d:D) (l r:Tr) (k:Ky): (Tr.nd d l r).get (.o k)=l.get k:=id rfl
@[simp] theorem qg1 (d:D) (l r:Tr) (k:Ky): (Tr.nd d l r).get (.i k)=r.get k:=id rfl
@[simp] theorem qes (x:D):Tr.nil.set .e x= .nd x .nil .nil:=id rfl
@[simp] theorem qeq (k:Ky) (x:D):Tr.nil.set (.o k) x= .nd .any (Tr.set .nil k x) .nil:=id rfl
@[simp] theorem qer (k:Ky) (x:D):Tr.nil.set (.i k) x= .nd .any .nil (Tr.set .nil k x):=id rfl
@[simp] theorem qgZ (d:D) (l r:Tr) (x:D): (Tr.nd d l r).set .e x= .nd x l r:=id rfl
@[simp] theorem qgX (d:D) (l r:Tr) (k:Ky) (x:D): (Tr.nd d l r).set (.o k) x= .nd d (l.set k x) r:=id rfl
@[simp] theorem qgY (d:D) (l r:Tr) (k:Ky) (x:D): (Tr.nd d l r).set (.i k) x= .nd d l (r.set k x):=id rfl
@[simp] theorem qhq:ky 0=Ky.e:=id rfl
@[simp] theorem qhp:ky 1=Ky.o (Ky.e):=id rfl
@[simp] theorem qho:ky 2=Ky.i (Ky.e):=id rfl
@[simp] theorem qhn:ky 3=Ky.o (Ky.o (Ky.e)):=id rfl
@[simp] theorem qhm:ky 4=Ky.i (Ky.o (Ky.e)):=id rfl
@[simp] theorem qhl:ky 5=Ky.o (Ky.i (Ky.e)):=id rfl
@[simp] theorem qhk:ky 6=Ky.i (Ky.i (Ky.e)):=id rfl
@[simp] theorem qhj:ky 7=Ky.o (Ky.o (Ky.o (Ky.e))):=id rfl
@[simp] theorem qhi:ky 8=Ky.i (Ky.o (Ky.o (Ky.e))):=id rfl
@[simp] theorem qhh:ky 9=Ky.o (Ky.i (Ky.o (Ky.e))):=id rfl
@[simp] theorem qgl:ky 10=Ky.i (Ky.i (Ky.o (Ky.e))):=id rfl
@[simp] theorem qgk:ky 11=Ky.o (Ky.o (Ky.i (Ky.e))):=id rfl
@[simp] theorem qgj:ky 12=Ky.i (Ky.o (Ky.i (Ky.e))):=id rfl
@[simp] theorem qgi:ky 13=Ky.o (Ky.i (Ky.i (Ky.e))):=id rfl
@[simp] theorem qgh:ky 14=Ky.i (Ky.i (Ky.i (Ky.e))):=id rfl
@[simp] theorem qgg:ky 15=Ky.o (Ky.o (Ky.o (Ky.o (Ky.e)))):=id rfl
@[simp] theorem qgf:ky 16=Ky.i (Ky.o (Ky.o (Ky.o (Ky.e)))):=id rfl
@[simp] theorem qge:ky 17=Ky.o (Ky.i (Ky.o (Ky.o (Ky.e)))):=id rfl
@[simp] theorem qgd:ky 18=Ky.i (Ky.i (Ky.o (Ky.o (Ky.e)))):=id rfl
@[simp] theorem qgc:ky 19=Ky.o (Ky.o (Ky.i (Ky.o (Ky.e)))):=id rfl
@[simp] theorem qgb:ky 20=Ky.i (Ky.o (Ky.i (Ky.o (Ky.e)))):=id rfl
@[simp] theorem qga:ky 21=Ky.o (Ky.i (Ky.i (Ky.o (Ky.e)))):=id rfl
@[simp] theorem qf9:ky 22=Ky.i (Ky.i (Ky.i (Ky.o (Ky.e)))):=id rfl
@[simp] theorem qf8:ky 23=Ky.o (Ky.o (Ky.o (Ky.i (Ky.e)))):=id rfl
@[simp] theorem qf7:ky 24=Ky.i (Ky.o (Ky.o (Ky.i (Ky.e)))):=id rfl
@[simp] theorem qf6:ky 25=Ky.o (Ky.i (Ky.o (Ky.i (Ky.e)))):=id rfl
@[simp] theorem qf5:ky 26=Ky.i (Ky.i (Ky.o (Ky.i (Ky.e)))):=id rfl
@[simp] theorem qf4:ky 27=Ky.o (Ky.o (Ky.i (Ky.i (Ky.e)))):=id rfl
@[simp] theorem qf3:ky 28=Ky.i (Ky.o (Ky.i (Ky.i (Ky.e)))):=id rfl
@[simp] theorem qf2:ky 29=Ky.o (Ky.i (Ky.i (Ky.i (Ky.e)))):=id rfl
@[simp] theorem qf1:ky 30=Ky.i (Ky.i (Ky.i (Ky.i (Ky.e)))):=id rfl
@[simp] theorem qf0:ky 31=Ky.o (Ky.o (Ky.o (Ky.o (Ky.o (Ky.e))))):=id rfl
@[simp] theorem qfZ:ky 32=Ky.i (Ky.o (Ky.o (Ky.o (Ky.o (Ky.e))))):=id rfl
@[simp] theorem qfY:ky 33=Ky.o (Ky.i (Ky.o (Ky.o (Ky.o (Ky.e))))):=id rfl
@[simp] theorem qfX:ky 34=Ky.i (Ky.i (Ky.o (Ky.o (Ky.o (Ky.e))))):=id rfl
@[simp] theorem qfW:ky 35=Ky.o (Ky.o (Ky.i (Ky.o (Ky.o (Ky.e))))):=id rfl
@[simp] theorem qfV:ky 36=Ky.i (Ky.o (Ky.i (Ky.o (Ky.o (Ky.e))))):=id rfl
@[simp] theorem qfU:ky 37=Ky.o (Ky.i (Ky.i (Ky.o (Ky.o (Ky.e))))):=id rfl
@[simp] theorem qfT:ky 38=Ky.i (Ky.i (Ky.i (Ky.o (Ky.o (Ky.e))))):=id rfl
@[simp] theorem qfS:ky 39=Ky.o (Ky.o (Ky.o (Ky.i (Ky.o (Ky.e))))):=id rfl
@[simp] theorem qfR:ky 40=Ky.i (Ky.o (Ky.o (Ky.i (Ky.o (Ky.e))))):=id rfl
@[simp] theorem qfQ:ky 41=Ky.o (Ky.i (Ky.o (Ky.i (Ky.o (Ky.e))))):=id rfl
@[simp] theorem qfP:ky 42=Ky.i (Ky.i (Ky.o (Ky.i (Ky.o (Ky.e))))):=id rfl
@[simp] theorem qfO:ky 43=Ky.o (Ky.o (Ky.i (Ky.i (Ky.o (Ky.e))))):=id rfl
@[simp] theorem qfN:ky 44=Ky.i (Ky.o (Ky.i (Ky.i (Ky.o (Ky.e))))):=id rfl
@[simp] theorem qfM:ky 45=Ky.o (Ky.i (Ky.i (Ky.i (Ky.o (Ky.e))))):=id rfl
@[simp] theorem qfL:ky 46=Ky.i (Ky.i (Ky.i (Ky.i (Ky.o (Ky.e))))):=id rfl
@[simp] theorem qfK:ky 47=Ky.o (Ky.o (Ky.o (Ky.o (Ky.i (Ky.e))))):=id rfl
@[simp] theorem qfJ:ky 48=Ky.i (Ky.o (Ky.o (Ky.o (Ky.i (Ky.e))))):=id rfl
@[simp] theorem qfI:ky 49=Ky.o (Ky.i (Ky.o (Ky.o (Ky.i (Ky.e))))):=id rfl
@[simp] theorem qfH:ky 50=Ky.i (Ky.i (Ky.o (Ky.o (Ky.i (Ky.e))))):=id rfl
@[simp] theorem qfG:ky 51=Ky.o (Ky.o (Ky.i (Ky.o (Ky.i (Ky.e))))):=id rfl
@[simp] theorem qfF:ky 52=Ky.i (Ky.o (Ky.i (Ky.o (Ky.i (Ky.e))))):=id rfl
@[simp] theorem qfE:ky 53=Ky.o (Ky.i (Ky.i (Ky.o (Ky.i (Ky.e))))):=id rfl
@[simp] theorem qfD:ky 54=Ky.i (Ky.i (Ky.i (Ky.o (Ky.i (Ky.e))))):=id rfl
@[simp] theorem qfC:ky 55=Ky.o (Ky.o (Ky.o (Ky.i (Ky.i (Ky.e))))):=id rfl
@[simp] theorem qfB:ky 56=Ky.i (Ky.o (Ky.o (Ky.i (Ky.i (Ky.e))))):=id rfl
@[simp] theorem qfA:ky 57=Ky.o (Ky.i (Ky.o (Ky.i (Ky.i (Ky.e))))):=id rfl
@[simp] theorem qfz:ky 58=Ky.i (Ky.i (Ky.o (Ky.i (Ky.i (Ky.e))))):=id rfl
@[simp] theorem qfy:ky 59=Ky.o (Ky.o (Ky.i (Ky.i (Ky.i (Ky.e))))):=id rfl
@[simp] theorem qfx:ky 60=Ky.i (Ky.o (Ky.i (Ky.i (Ky.i (Ky.e))))):=id rfl
@[simp] theorem qfw:ky 61=Ky.o (Ky.i (Ky.i (Ky.i (Ky.i (Ky.e))))):=id rfl
@[simp] theorem qfv:ky 62=Ky.i (Ky.i (Ky.i (Ky.i (Ky.i (Ky.e))))):=id rfl
@[simp] theorem qfu:ky 63=Ky.o (Ky.o (Ky.o (Ky.o (Ky.o (Ky.o (Ky.e)))))):=id rfl
@[simp] theorem qft:ky 64=Ky.i (Ky.o (Ky.o (Ky.o (Ky.o (Ky.o (Ky.e)))))):=id rfl
@[simp] theorem qfs:ky 65=Ky.o (Ky.i (Ky.o (Ky.o (Ky.o (Ky.o (Ky.e)))))):=id rfl
@[simp] theorem qfr:ky 66=Ky.i (Ky.i (Ky.o (Ky.o (Ky.o (Ky.o (Ky.e)))))):=id rfl
@[simp] theorem qfq:ky 67=Ky.o (Ky.o (Ky.i (Ky.o (Ky.o (Ky.o (Ky.e)))))):=id rfl
@[simp] theorem qfp:ky 68=Ky.i (Ky.o (Ky.i (Ky.o (Ky.o (Ky.o (Ky.e)))))):=id rfl
@[simp] theorem qfo:ky 69=Ky.o (Ky.i (Ky.i (Ky.o (Ky.o (Ky.o (Ky.e)))))):=id rfl
@[simp] theorem qfn:ky 70=Ky.i (Ky.i (Ky.i (Ky.o (Ky.o (Ky.o (Ky.e)))))):=id rfl
@[simp] theorem qfm:ky 71=Ky.o (Ky.o (Ky.o (Ky.i (Ky.o (Ky.o (Ky.e)))))):=id rfl
@[simp] theorem qfl:ky 72=Ky.i (Ky.o (Ky.o (Ky.i (Ky.o (Ky.o (Ky.e)))))):=id rfl
@[simp] theorem qfk:ky 73=Ky.o (Ky.i (Ky.o (Ky.i (Ky.o (Ky.o (Ky.e)))))):=id rfl
@[simp] theorem qfj:ky 74=Ky.i (Ky.i (Ky.o (Ky.i (Ky.o (Ky.o (Ky.e)))))):=id rfl
@[simp] theorem qfi:ky 75=Ky.o (Ky.o (Ky.i (Ky.i (Ky.o (Ky.o (Ky.e)))))):=id rfl
@[simp] theorem qfh:ky 76=Ky.i (Ky.o (Ky.i (Ky.i (Ky.o (Ky.o (Ky.e)))))):=id rfl
@[simp] theorem qfg:ky 77=Ky.o (Ky.i (Ky.i (Ky.i (Ky.o (Ky.o (Ky.e)))))):=id rfl
@[simp] theorem qff:ky 78=Ky.i (Ky.i (Ky.i (Ky.i (Ky.o (Ky.o (Ky.e)))))):=id rfl
@[simp] theorem qfe:ky 79=Ky.o (Ky.o (Ky.o (Ky.o (Ky.i (Ky.o (Ky.e)))))):=id rfl
@[simp] theorem qfd:ky 80=Ky.i (Ky.o (Ky.o (Ky.o (Ky.i (Ky.o (Ky.e)))))):=id rfl
@[simp] theorem qfc:ky 81=Ky.o (Ky.i (Ky.o (Ky.o (Ky.i (Ky.o (Ky.e)))))):=id rfl
@[simp] theorem qfb:ky 82=Ky.i (Ky.i (Ky.o (Ky.o (Ky.i (Ky.o (Ky.e)))))):=id rfl
@[simp] theorem qfa:ky 83=Ky.o (Ky.o (Ky.i (Ky.o (Ky.i (Ky.o (Ky.e)))))):=id rfl
@[simp] theorem qe9:ky 84=Ky.i (Ky.o (Ky.i (Ky.o (Ky.i (Ky.o (Ky.e)))))):=id rfl
@[simp] theorem qe8:ky 85=Ky.o (Ky.i (Ky.i (Ky.o (Ky.i (Ky.o (Ky.e)))))):=id rfl
@[simp] theorem qe7:ky 86=Ky.i (Ky.i (Ky.i (Ky.o (Ky.i (Ky.o (Ky.e)))))):=id rfl
@[simp] theorem qe6:ky 87=Ky.o (Ky.o (Ky.o (Ky.i (Ky.i (Ky.o (Ky.e)))))):=id rfl
@[simp] theorem qe5:ky 88=Ky.i (Ky.o (Ky.o (Ky.i (Ky.i (Ky.o (Ky.e)))))):=id rfl
@[simp] theorem qe4:ky 89=Ky.o (Ky.i (Ky.o (Ky.i (Ky.i (Ky.o (Ky.e)))))):=id rfl
@[simp] theorem qe3:ky 90=Ky.i (Ky.i (Ky.o (Ky.i (Ky.i (Ky.o (Ky.e)))))):=id rfl
@[simp] theorem qe2:ky 91=Ky.o (Ky.o (Ky.i (Ky.i (Ky.i (Ky.o (Ky.e)))))):=id rfl
@[simp] theorem qe1:ky 92=Ky.i (Ky.o (Ky.i (Ky.i (Ky.i (Ky.o (Ky.e)))))):=id rfl
@[simp] theorem qe0:ky 93=Ky.o (Ky.i (Ky.i (Ky.i (Ky.i (Ky.o (Ky.e)))))):=id rfl
@[simp] theorem qeZ:ky 94=Ky.i (Ky.i (Ky.i (Ky.i (Ky.i (Ky.o (Ky.e)))))):=id rfl
@[simp] theorem qeY:ky 95=Ky.o (Ky.o (Ky.o (Ky.o (Ky.o (Ky.i (Ky.e)))))):=id rfl
@[simp] theorem qeX:ky 96=Ky.i (Ky.o (Ky.o (Ky.o (Ky.o (Ky.i (Ky.e)))))):=id rfl
@[simp] theorem qeW:ky 97=Ky.o (Ky.i (Ky.o (Ky.o (Ky.o (Ky.i (Ky.e)))))):=id rfl
@[simp] theorem qeV:ky 98=Ky.i (Ky.i (Ky.o (Ky.o (Ky.o (Ky.i (Ky.e)))))):=id rfl
@[simp] theorem qeU:ky 99=Ky.o (Ky.o (Ky.i (Ky.o (Ky.o (Ky.i (Ky.e)))))):=id rfl
@[simp] theorem qcT:ky 100=Ky.i (Ky.o (Ky.i (Ky.o (Ky.o (Ky.i (Ky.e)))))):=id rfl
@[simp] theorem qcS:ky 101=Ky.o (Ky.i (Ky.i (Ky.o (Ky.o (Ky.i (Ky.e)))))):=id rfl
@[simp] theorem qcR:ky 102=Ky.i (Ky.i (Ky.i (Ky.o (Ky.o (Ky.i (Ky.e)))))):=id rfl
@[simp] theorem qcQ:ky 103=Ky.o (Ky.o (Ky.o (Ky.i (Ky.o (Ky.i (Ky.e)))))):=id rfl
@[simp] theorem qcP:ky 104=Ky.i (Ky.o (Ky.o (Ky.i (Ky.o (Ky.i (Ky.e)))))):=id rfl
@[simp] theorem qcO:ky 105=Ky.o (Ky.i (Ky.o (Ky.i (Ky.o (Ky.i (Ky.e)))))):=id rfl
@[simp] theorem qcN:ky 106=Ky.i (Ky.i (Ky.o (Ky.i (Ky.o (Ky.i (Ky.e)))))):=id rfl
@[simp] theorem qcM:ky 107=Ky.o (Ky.o (Ky.i (Ky.i (Ky.o (Ky.i (Ky.e)))))):=id rfl
@[simp] theorem qcL:ky 108=Ky.i (Ky.o (Ky.i (Ky.i (Ky.o (Ky.i (Ky.e)))))):=id rfl
@[simp] theorem qcK:ky 109=Ky.o (Ky.i (Ky.i (Ky.i (Ky.o (Ky.i (Ky.e)))))):=id rfl
@[simp] theorem qcJ:ky 110=Ky.i (Ky.i (Ky.i (Ky.i (Ky.o (Ky.i (Ky.e)))))):=id rfl
@[simp] theorem qcI:ky 111=Ky.o (Ky.o (Ky.o (Ky.o (Ky.i (Ky.i (Ky.e)))))):=id rfl
@[simp] theorem qcH:ky 112=Ky.i (Ky.o (Ky.o (Ky.o (Ky.i (Ky.i (Ky.e)))))):=id rfl
@[simp] theorem qcG:ky 113=Ky.o (Ky.i (Ky.o (Ky.o (Ky.i (Ky.i (Ky.e)))))):=id rfl
@[simp] theorem qcF:ky 114=Ky.i (Ky.i (Ky.o (Ky.o (Ky.i (Ky.i (Ky.e)))))):=id rfl
@[simp] theorem qcE:ky 115=Ky.o (Ky.o (Ky.i (Ky.o (Ky.i (Ky.i (Ky.e)))))):=id rfl
@[simp] theorem qcD:ky 116=Ky.i (Ky.o (Ky.i (Ky.o (Ky.i (Ky.i (Ky.e)))))):=id rfl
@[simp] theorem qcC:ky 117=Ky.o (Ky.i (Ky.i (Ky.o (Ky.i (Ky.i (Ky.e)))))):=id rfl
@[simp] theorem qcB:ky 118=Ky.i (Ky.i (Ky.i (Ky.o (Ky.i (Ky.i (Ky.e)))))):=id rfl
@[simp] theorem qcA:ky 119=Ky.o (Ky.o (Ky.o (Ky.i (Ky.i (Ky.i (Ky.e)))))):=id rfl
@[simp] theorem qcz:ky 120=Ky.i (Ky.o (Ky.o (Ky.i (Ky.i (Ky.i (Ky.e)))))):=id rfl
@[simp] theorem qcy:ky 121=Ky.o (Ky.i (Ky.o (Ky.i (Ky.i (Ky.i (Ky.e)))))):=id rfl
@[simp] theorem qcx:ky 122=Ky.i (Ky.i (Ky.o (Ky.i (Ky.i (Ky.i (Ky.e)))))):=id rfl
@[simp] theorem qcw:ky 123=Ky.o (Ky.o (Ky.i (Ky.i (Ky.i (Ky.i (Ky.e)))))):=id rfl
@[simp] theorem qcv:ky 124=Ky.i (Ky.o (Ky.i (Ky.i (Ky.i (Ky.i (Ky.e)))))):=id rfl
@[simp] theorem qcu:ky 125=Ky.o (Ky.i (Ky.i (Ky.i (Ky.i (Ky.i (Ky.e)))))):=id rfl
@[simp] theorem qct:ky 126=Ky.i (Ky.i (Ky.i (Ky.i (Ky.i (Ky.i (Ky.e)))))):=id rfl
@[simp] theorem qcs:ky 127=Ky.o (Ky.o (Ky.o (Ky.o (Ky.o (Ky.o (Ky.o (Ky.e))))))):=id rfl
@[simp] theorem qcr:ky 128=Ky.i (Ky.o (Ky.o (Ky.o (Ky.o (Ky.o (Ky.o (Ky.e))))))):=id rfl
@[simp] theorem qcq:ky 129=Ky.o (Ky.i (Ky.o (Ky.o (Ky.o (Ky.o (Ky.o (Ky.e))))))):=id rfl
@[simp] theorem qcp:ky 130=Ky.i (Ky.i (Ky.o (Ky.o (Ky.o (Ky.o (Ky.o (Ky.e))))))):=id rfl
@[simp] theorem qco:ky 131=Ky.o (Ky.o (Ky.i (Ky.o (Ky.o (Ky.o (Ky.o (Ky.e))))))):=id rfl
@[simp] theorem qcn:ky 132=Ky.i (Ky.o (Ky.i (Ky.o (Ky.o (Ky.o (Ky.o (Ky.e))))))):=id rfl
@[simp] theorem qcm:ky 133=Ky.o (Ky.i (Ky.i (Ky.o (Ky.o (Ky.o (Ky.o (Ky.e))))))):=id rfl
@[simp] theorem qcl:ky 134=Ky.i (Ky.i (Ky.i (Ky.o (Ky.o (Ky.o (Ky.o (Ky.e))))))):=id rfl
@[simp] theorem qck:ky 135=Ky.o (Ky.o (Ky.o (Ky.i (Ky.o (Ky.o (Ky.o (Ky.e))))))):=id rfl
@[simp] theorem qcj:ky 136=Ky.i (Ky.o (Ky.o (Ky.i (Ky.o (Ky.o (Ky.o (Ky.e))))))):=id rfl
@[simp] theorem qci:ky 137=Ky.o (Ky.i (Ky.o (Ky.i (Ky.o (Ky.o (Ky.o (Ky.e))))))):=id rfl
@[simp] theorem qch:ky 138=Ky.i (Ky.i (Ky.o (Ky.i (Ky.o (Ky.o (Ky.o (Ky.e))))))):=id rfl
@[simp] theorem qcg:ky 139=Ky.o (Ky.o (Ky.i (Ky.i (Ky.o (Ky.o (Ky.o (Ky.e))))))):=id rfl
@[simp] theorem qcf:ky 140=Ky.i (Ky.o (Ky.i (Ky.i (Ky.o (Ky.o (Ky.o (Ky.e))))))):=id rfl
@[simp] theorem qce:ky 141=Ky.o (Ky.i (Ky.i (Ky.i (Ky.o (Ky.o (Ky.o (Ky.e))))))):=id rfl
@[simp] theorem qcd:ky 142=Ky.i (Ky.i (Ky.i (Ky.i (Ky.o (Ky.o (Ky.o (Ky.e))))))):=id rfl
@[simp] theorem qcc:ky 143=Ky.o (Ky.o (Ky.o (Ky.o (Ky.i (Ky.o (Ky.o (Ky.e))))))):=id rfl
@[simp] theorem qcb:ky 144=Ky.i (Ky.o (Ky.o (Ky.o (Ky.i (Ky.o (Ky.o (Ky.e))))))):=id rfl
@[simp] theorem qca:ky 145=Ky.o (Ky.i (Ky.o (Ky.o (Ky.i (Ky.o (Ky.o (Ky.e))))))):=id rfl
@[simp] theorem qb9:ky 146=Ky.i (Ky.i (Ky.o (Ky.o (Ky.i (Ky.o (Ky.o (Ky.e))))))):=id rfl
@[simp] theorem qb8:ky 147=Ky.o (Ky.o (Ky.i (Ky.o (Ky.i (Ky.o (Ky.o (Ky.e))))))):=id rfl
@[simp] theorem qb7:ky 148=Ky.i (Ky.o (Ky.i (Ky.o (Ky.i (Ky.o (Ky.o (Ky.e))))))):=id rfl
@[simp] theorem qb6:ky 149=Ky.o (Ky.i (Ky.i (Ky.o (Ky.i (Ky.o (Ky.o (Ky.e))))))):=id rfl
@[simp] theorem qb5:ky 150=Ky.i (Ky.i (Ky.i (Ky.o (Ky.i (Ky.o (Ky.o (Ky.e))))))):=id rfl
@[simp] theorem qb4:ky 151=Ky.o (Ky.o (Ky.o (Ky.i (Ky.i (Ky.o (Ky.o (Ky.e))))))):=id rfl
@[simp] theorem qb3:ky 152=Ky.i (Ky.o (Ky.o (Ky.i (Ky.i (Ky.o (Ky.o (Ky.e))))))):=id rfl
@[simp] theorem qb2:ky 153=Ky.o (Ky.i (Ky.o (Ky.i (Ky.i (Ky.o (Ky.o (Ky.e))))))):=id rfl
@[simp] theorem qb1:ky 154=Ky.i (Ky.i (Ky.o (Ky.i (Ky.i (Ky.o (Ky.o (Ky.e))))))):=id rfl
@[simp] theorem qb0:ky 155=Ky.o (Ky.o (Ky.i (Ky.i (Ky.i (Ky.o (Ky.o (Ky.e))))))):=id rfl
@[simp] theorem qbZ:ky 156=Ky.i (Ky.o (Ky.i (Ky.i (Ky.i (Ky.o (Ky.o (Ky.e))))))):=id rfl
@[simp] theorem qbY:ky 157=Ky.o (Ky.i (Ky.i (Ky.i (Ky.i (Ky.o (Ky.o (Ky.e))))))):=id rfl
@[simp] theorem qbX:ky 158=Ky.i (Ky.i (Ky.i (Ky.i (Ky.i (Ky.o (Ky.o (Ky.e))))))):=id rfl
@[simp] theorem qbW:ky 159=Ky.o (Ky.o (Ky.o (Ky.o (Ky.o (Ky.i (Ky.o (Ky.e))))))):=id rfl
@[simp] theorem qbV:ky 160=Ky.i (Ky.o (Ky.o (Ky.o (Ky.o (Ky.i (Ky.o (Ky.e))))))):=id rfl
@[simp] theorem qbU:ky 161=Ky.o (Ky.i (Ky.o (Ky.o (Ky.o (Ky.i (Ky.o (Ky.e))))))):=id rfl
@[simp] theorem qbT:ky 162=Ky.i (Ky.i (Ky.o (Ky.o (Ky.o (Ky.i (Ky.o (Ky.e))))))):=id rfl
@[simp] theorem qbS:ky 163=Ky.o (Ky.o (Ky.i (Ky.o (Ky.o (Ky.i (Ky.o (Ky.e))))))):=id rfl
@[simp] theorem qbR:ky 164=Ky.i (Ky.o (Ky.i (Ky.o (Ky.o (Ky.i (Ky.o (Ky.e))))))):=id rfl
@[simp] theorem qbQ:ky 165=Ky.o (Ky.i (Ky.i (Ky.o (Ky.o (Ky.i (Ky.o (Ky.e))))))):=id rfl
@[simp] theorem qbP:ky 166=Ky.i (Ky.i (Ky.i (Ky.o (Ky.o (Ky.i (Ky.o (Ky.e))))))):=id rfl
@[simp] theorem qbO:ky 167=Ky.o (Ky.o (Ky.o (Ky.i (Ky.o (Ky.i (Ky.o (Ky.e))))))):=id rfl
@[simp] theorem qbN:ky 168=Ky.i (Ky.o (Ky.o (Ky.i (Ky.o (Ky.i (Ky.o (Ky.e))))))):=id rfl
@[simp] theorem qbM:ky 169=Ky.o (Ky.i (Ky.o (Ky.i (Ky.o (Ky.i (Ky.o (Ky.e))))))):=id rfl
@[simp] theorem qbL:ky 170=Ky.i (Ky.i (Ky.o (Ky.i (Ky.o (Ky.i (Ky.o (Ky.e))))))):=id rfl
@[simp] theorem qbK:ky 171=Ky.o (Ky.o (Ky.i (Ky.i (Ky.o (Ky.i (Ky.o (Ky.e))))))):=id rfl
@[simp] theorem qbJ:ky 172=Ky.i (Ky.o (Ky.i (Ky.i (Ky.o (Ky.i (Ky.o (Ky.e))))))):=id rfl
@[simp] theorem qbI:ky 173=Ky.o (Ky.i (Ky.i (Ky.i (Ky.o (Ky.i (Ky.o (Ky.e))))))):=id rfl
@[simp] theorem qbH:ky 174=Ky.i (Ky.i (Ky.i (Ky.i (Ky.o (Ky.i (Ky.o (Ky.e))))))):=id rfl
@[simp] theorem qbG:ky 175=Ky.o (Ky.o (Ky.o (Ky.o (Ky.i (Ky.i (Ky.o (Ky.e))))))):=id rfl
@[simp] theorem qbF:ky 176=Ky.i (Ky.o (Ky.o (Ky.o (Ky.i (Ky.i (Ky.o (Ky.e))))))):=id rfl
@[simp] theorem qbE:ky 177=Ky.o (Ky.i (Ky.o (Ky.o (Ky.i (Ky.i (Ky.o (Ky.e))))))):=id rfl
@[simp] theorem qbD:ky 178=Ky.i (Ky.i (Ky.o (Ky.o (Ky.i (Ky.i (Ky.o (Ky.e))))))):=id rfl
@[simp] theorem qbC:ky 179=Ky.o (Ky.o (Ky.i (Ky.o (Ky.i (Ky.i (Ky.o (Ky.e))))))):=id rfl
@[simp] theorem qbB:ky 180=Ky.i (Ky.o (Ky.i (Ky.o (Ky.i (Ky.i (Ky.o (Ky.e))))))):=id rfl
@[simp] theorem qbA:ky 181=Ky.o (Ky.i (Ky.i (Ky.o (Ky.i (Ky.i (Ky.o (Ky.e))))))):=id rfl
@[simp] theorem qbz:ky 182=Ky.i (Ky.i (Ky.i (Ky.o (Ky.i (Ky.i (Ky.o (Ky.e))))))):=id rfl
@[simp] theorem qby:ky 183=Ky.o (Ky.o (Ky.o (Ky.i (Ky.i (Ky.i (Ky.o (Ky.e))))))):=id rfl
@[simp] theorem qbx:ky 184=Ky.i (Ky.o (Ky.o (Ky.i (Ky.i (Ky.i (Ky.o (Ky.e))))))):=id rfl
@[simp] theorem qbw:ky 185=Ky.o (Ky.i (Ky.o (Ky.i (Ky.i (Ky.i (Ky.o (Ky.e))))))):=id rfl
@[simp] theorem qbv:ky 186=Ky.i (Ky.i (Ky.o (Ky.i (Ky.i (Ky.i (Ky.o (Ky.e))))))):=id rfl
@[simp] theorem qbu:ky 187=Ky.o (Ky.o (Ky.i (Ky.i (Ky.i (Ky.i (Ky.o (Ky.e))))))):=id rfl
@[simp] theorem qbt:ky 188=Ky.i (Ky.o (Ky.i (Ky.i (Ky.i (Ky.i (Ky.o (Ky.e))))))):=id rfl
@[simp] theorem qbs:ky 189=Ky.o (Ky.i (Ky.i (Ky.i (Ky.i (Ky.i (Ky.o (Ky.e))))))):=id rfl
@[simp] theorem qbr:ky 190=Ky.i (Ky.i (Ky.i (Ky.i (Ky.i (Ky.i (Ky.o (Ky.e))))))):=id rfl
@[simp] theorem qbq:ky 191=Ky.o (Ky.o (Ky.o (Ky.o (Ky.o (Ky.o (Ky.i (Ky.e))))))):=id rfl
@[simp] theorem qbp:ky 192=Ky.i (Ky.o (Ky.o (Ky.o (Ky.o (Ky.o (Ky.i (Ky.e))))))):=id rfl
@[simp] theorem qbo:ky 193=Ky.o (Ky.i (Ky.o (Ky.o (Ky.o (Ky.o (Ky.i (Ky.e))))))):=id rfl
@[simp] theorem qbn:ky 194=Ky.i (Ky.i (Ky.o (Ky.o (Ky.o (Ky.o (Ky.i (Ky.e))))))):=id rfl
@[simp] theorem qbm:ky 195=Ky.o (Ky.o (Ky.i (Ky.o (Ky.o (Ky.o (Ky.i (Ky.e))))))):=id rfl
@[simp] theorem qbl:ky 196=Ky.i (Ky.o (Ky.i (Ky.o (Ky.o (Ky.o (Ky.i (Ky.e))))))):=id rfl
@[simp] theorem qbk:ky 197=Ky.o (Ky.i (Ky.i (Ky.o (Ky.o (Ky.o (Ky.i (Ky.e))))))):=id rfl
@[simp] theorem qbj:ky 198=Ky.i (Ky.i (Ky.i (Ky.o (Ky.o (Ky.o (Ky.i (Ky.e))))))):=id rfl
@[simp] theorem qbi:ky 199=Ky.o (Ky.o (Ky.o (Ky.i (Ky.o (Ky.o (Ky.i (Ky.e))))))):=id rfl
@[simp] theorem qbh:ky 200=Ky.i (Ky.o (Ky.o (Ky.i (Ky.o (Ky.o (Ky.i (Ky.e))))))):=id rfl
@[simp] theorem qbg:ky 201=Ky.o (Ky.i (Ky.o (Ky.i (Ky.o (Ky.o (Ky.i (Ky.e))))))):=id rfl
@[simp] theorem qbf:ky 202=Ky.i (Ky.i (Ky.o (Ky.i (Ky.o (Ky.o (Ky.i (Ky.e))))))):=id rfl
@[simp] theorem qbe:ky 203=Ky.o (Ky.o (Ky.i (Ky.i (Ky.o (Ky.o (Ky.i (Ky.e))))))):=id rfl
@[simp] theorem qbd:ky 204=Ky.i (Ky.o (Ky.i (Ky.i (Ky.o (Ky.o (Ky.i (Ky.e))))))):=id rfl
@[simp] theorem qbc:ky 205=Ky.o (Ky.i (Ky.i (Ky.i (Ky.o (Ky.o (Ky.i (Ky.e))))))):=id rfl
@[simp] theorem qbb:ky 206=Ky.i (Ky.i (Ky.i (Ky.i (Ky.o (Ky.o (Ky.i (Ky.e))))))):=id rfl
@[simp] theorem qba:ky 207=Ky.o (Ky.o (Ky.o (Ky.o (Ky.i (Ky.o (Ky.i (Ky.e))))))):=id rfl
@[simp] theorem qa9:ky 208=Ky.i (Ky.o (Ky.o (Ky.o (Ky.i (Ky.o (Ky.i (Ky.e))))))):=id rfl
@[simp] theorem qa8:ky 209=Ky.o (Ky.i (Ky.o (Ky.o (Ky.i (Ky.o (Ky.i (Ky.e))))))):=id rfl
@[simp] theorem qa7:ky 210=Ky.i (Ky.i (Ky.o (Ky.o (Ky.i (Ky.o (Ky.i (Ky.e))))))):=id rfl
@[simp] theorem qa6:ky 211=Ky.o (Ky.o (Ky.i (Ky.o (Ky.i (Ky.o (Ky.i (Ky.e))))))):=id rfl
@[simp] theorem qa5:ky 212=Ky.i (Ky.o (Ky.i (Ky.o (Ky.i (Ky.o (Ky.i (Ky.e))))))):=id rfl
@[simp] theorem qa4:ky 213=Ky.o (Ky.i (Ky.i (Ky.o (Ky.i (Ky.o (Ky.i (Ky.e))))))):=id rfl
@[simp] theorem qa3:ky 214=Ky.i (Ky.i (Ky.i (Ky.o (Ky.i (Ky.o (Ky.i (Ky.e))))))):=id rfl
@[simp] theorem qa2:ky 215=Ky.o (Ky.o (Ky.o (Ky.i (Ky.i (Ky.o (Ky.i (Ky.e))))))):=id rfl
@[simp] theorem qa1:ky 216=Ky.i (Ky.o (Ky.o (Ky.i (Ky.i (Ky.o (Ky.i (Ky.e))))))):=id rfl
@[simp] theorem qa0:ky 217=Ky.o (Ky.i (Ky.o (Ky.i (Ky.i (Ky.o (Ky.i (Ky.e))))))):=id rfl
@[simp] theorem qaZ:ky 218=Ky.i (Ky.i (Ky.o (Ky.i (Ky.i (Ky.o (Ky.i (Ky.e))))))):=id rfl
@[simp] theorem qaY:ky 219=Ky.o (Ky.o (Ky.i (Ky.i (Ky.i (Ky.o (Ky.i (Ky.e))))))):=id rfl
@[simp] theorem qaX:ky 220=Ky.i (Ky.o (Ky.i (Ky.i (Ky.i (Ky.o (Ky.i (Ky.e))))))):=id rfl
@[simp] theorem qaW:ky 221=Ky.o (Ky.i (Ky.i (Ky.i (Ky.i (Ky.o (Ky.i (Ky.e))))))):=id rfl
@[simp] theorem qaV:ky 222=Ky.i (Ky.i (Ky.i (Ky.i (Ky.i (Ky.o (Ky.i (Ky.e))))))):=id rfl
@[simp] theorem qaU:ky 223=Ky.o (Ky.o (Ky.o (Ky.o (Ky.o (Ky.i (Ky.i (Ky.e))))))):=id rfl
@[simp] theorem qaT:ky 224=Ky.i (Ky.o (Ky.o (Ky.o (Ky.o (Ky.i (Ky.i (Ky.e))))))):=id rfl
@[simp] theorem qaS:ky 225=Ky.o (Ky.i (Ky.o (Ky.o (Ky.o (Ky.i (Ky.i (Ky.e))))))):=id rfl
@[simp] theorem qaR:ky 226=Ky.i (Ky.i (Ky.o (Ky.o (Ky.o (Ky.i (Ky.i (Ky.e))))))):=id rfl
@[simp] theorem qaQ:ky 227=Ky.o (Ky.o (Ky.i (Ky.o (Ky.o (Ky.i (Ky.i (Ky.e))))))):=id rfl
@[simp] theorem qaP:ky 228=Ky.i (Ky.o (Ky.i (Ky.o (Ky.o (Ky.i (Ky.i (Ky.e))))))):=id rfl
@[simp] theorem qaO:ky 229=Ky.o (Ky.i (Ky.i (Ky.o (Ky.o (Ky.i (Ky.i (Ky.e))))))):=id rfl
@[simp] theorem qaN:ky 230=Ky.i (Ky.i (Ky.i (Ky.o (Ky.o (Ky.i (Ky.i (Ky.e))))))):=id rfl
@[simp] theorem qaM:ky 231=Ky.o (Ky.o (Ky.o (Ky.i (Ky.o (Ky.i (Ky.i (Ky.e))))))):=id rfl
@[simp] theorem qaL:ky 232=Ky.i (Ky.o (Ky.o (Ky.i (Ky.o (Ky.i (Ky.i (Ky.e))))))):=id rfl
@[simp] theorem qaK:ky 233=Ky.o (Ky.i (Ky.o (Ky.i (Ky.o (Ky.i (Ky.i (Ky.e))))))):=id rfl
@[simp] theorem qaJ:ky 234=Ky.i (Ky.i (Ky.o (Ky.i (Ky.o (Ky.i (Ky.i (Ky.e))))))):=id rfl
@[simp] theorem qaI:ky 235=Ky.o (Ky.o (Ky.i (Ky.i (Ky.o (Ky.i (Ky.i (Ky.e))))))):=id rfl
@[simp] theorem qaH:ky 236=Ky.i (Ky.o (Ky.i (Ky.i (Ky.o (Ky.i (Ky.i (Ky.e))))))):=id rfl
@[simp] theorem qaG:ky 237=Ky.o (Ky.i (Ky.i (Ky.i (Ky.o (Ky.i (Ky.i (Ky.e))))))):=id rfl
@[simp] theorem qaF:ky 238=Ky.i (Ky.i (Ky.i (Ky.i (Ky.o (Ky.i (Ky.i (Ky.e))))))):=id rfl
@[simp] theorem qaE:ky 239=Ky.o (Ky.o (Ky.o (Ky.o (Ky.i (Ky.i (Ky.i (Ky.e))))))):=id rfl
@[simp] theorem qaD:ky 240=Ky.i (Ky.o (Ky.o (Ky.o (Ky.i (Ky.i (Ky.i (Ky.e))))))):=id rfl
@[simp] theorem qaC:ky 241=Ky.o (Ky.i (Ky.o (Ky.o (Ky.i (Ky.i (Ky.i (Ky.e))))))):=id rfl
@[simp] theorem qaB:ky 242=Ky.i (Ky.i (Ky.o (Ky.o (Ky.i (Ky.i (Ky.i (Ky.e))))))):=id rfl
@[simp] theorem qaA:ky 243=Ky.o (Ky.o (Ky.i (Ky.o (Ky.i (Ky.i (Ky.i (Ky.e))))))):=id rfl
@[simp] theorem qaz:ky 244=Ky.i (Ky.o (Ky.i (Ky.o (Ky.i (Ky.i (Ky.i (Ky.e))))))):=id rfl
@[simp] theorem qay:ky 245=Ky.o (Ky.i (Ky.i (Ky.o (Ky.i (Ky.i (Ky.i (Ky.e))))))):=id rfl
@[simp] theorem qax:ky 246=Ky.i (Ky.i (Ky.i (Ky.o (Ky.i (Ky.i (Ky.i (Ky.e))))))):=id rfl
@[simp] theorem qaw:ky 247=Ky.o (Ky.o (Ky.o (Ky.i (Ky.i (Ky.i (Ky.i (Ky.e))))))):=id rfl
@[simp] theorem qav:ky 248=Ky.i (Ky.o (Ky.o (Ky.i (Ky.i (Ky.i (Ky.i (Ky.e))))))):=id rfl
@[simp] theorem qau:ky 249=Ky.o (Ky.i (Ky.o (Ky.i (Ky.i (Ky.i (Ky.i (Ky.e))))))):=id rfl
@[simp] theorem qat:ky 250=Ky.i (Ky.i (Ky.o (Ky.i (Ky.i (Ky.i (Ky.i (Ky.e))))))):=id rfl
@[simp] theorem qas:ky 251=Ky.o (Ky.o (Ky.i (Ky.i (Ky.i (Ky.i (Ky.i (Ky.e))))))):=id rfl
@[simp] theorem qar:ky 252=Ky.i (Ky.o (Ky.i (Ky.i (Ky.i (Ky.i (Ky.i (Ky.e))))))):=id rfl
@[simp] theorem qaq:ky 253=Ky.o (Ky.i (Ky.i (Ky.i (Ky.i (Ky.i (Ky.i (Ky.e))))))):=id rfl
@[simp] theorem qap:ky 254=Ky.i (Ky.i (Ky.i (Ky.i (Ky.i (Ky.i (Ky.i (Ky.e))))))):=id rfl
@[simp] theorem qao:ky 255=Ky.o (Ky.o (Ky.o (Ky.o (Ky.o (Ky.o (Ky.o (Ky.o (Ky.e)))))))):=id rfl
@[simp] theorem qan:ky 256=Ky.i (Ky.o (Ky.o (Ky.o (Ky.o (Ky.o (Ky.o (Ky.o (Ky.e)))))))):=id rfl
@[simp] theorem qam:ky 257=Ky.o (Ky.i (Ky.o (Ky.o (Ky.o (Ky.o (Ky.o (Ky.o (Ky.e)))))))):=id rfl
@[simp] theorem qal:ky 258=Ky.i (Ky.i (Ky.o (Ky.o (Ky.o (Ky.o (Ky.o (Ky.o (Ky.e)))))))):=id rfl
@[simp] theorem qak:ky 259=Ky.o (Ky.o (Ky.i (Ky.o (Ky.o (Ky.o (Ky.o (Ky.o (Ky.e)))))))):=id rfl
@[simp] theorem qaj:ky 260=Ky.i (Ky.o (Ky.i (Ky.o (Ky.o (Ky.o (Ky.o (Ky.o (Ky.e)))))))):=id rfl
@[simp] theorem qai:ky 261=Ky.o (Ky.i (Ky.i (Ky.o (Ky.o (Ky.o (Ky.o (Ky.o (Ky.e)))))))):=id rfl
@[simp] theorem qah:ky 262=Ky.i (Ky.i (Ky.i (Ky.o (Ky.o (Ky.o (Ky.o (Ky.o (Ky.e)))))))):=id rfl
@[simp] theorem qag:ky 263=Ky.o (Ky.o (Ky.o (Ky.i (Ky.o (Ky.o (Ky.o (Ky.o (Ky.e)))))))):=id rfl
@[simp] theorem qaf:ky 264=Ky.i (Ky.o (Ky.o (Ky.i (Ky.o (Ky.o (Ky.o (Ky.o (Ky.e)))))))):=id rfl
@[simp] theorem qae:ky 265=Ky.o (Ky.i (Ky.o (Ky.i (Ky.o (Ky.o (Ky.o (Ky.o (Ky.e)))))))):=id rfl
@[simp] theorem qad:ky 266=Ky.i (Ky.i (Ky.o (Ky.i (Ky.o (Ky.o (Ky.o (Ky.o (Ky.e)))))))):=id rfl
@[simp] theorem qac:ky 267=Ky.o (Ky.o (Ky.i (Ky.i (Ky.o (Ky.o (Ky.o (Ky.o (Ky.e)))))))):=id rfl
@[simp] theorem qab:ky 268=Ky.i (Ky.o (Ky.i (Ky.i (Ky.o (Ky.o (Ky.o (Ky.o (Ky.e)))))))):=id rfl
@[simp] theorem qaa:ky 269=Ky.o (Ky.i (Ky.i (Ky.i (Ky.o (Ky.o (Ky.o (Ky.o (Ky.e)))))))):=id rfl
@[simp] theorem Z9:ky 270=Ky.i (Ky.i (Ky.i (Ky.i (Ky.o (Ky.o (Ky.o (Ky.o (Ky.e)))))))):=id rfl
@[simp] theorem Z8:ky 272=Ky.i (Ky.o (Ky.o (Ky.o (Ky.i (Ky.o (Ky.o (Ky.o (Ky.e)))))))):=id rfl
@[simp] theorem Xy (H:aa) (i:Nat):bK [] H i=H i:=id rfl
@[simp] theorem Vd (t i:Nat):wV (some t) i=(J3 i=J3 t):=id rfl
@[simp] theorem qc7 {i:Nat} (h:i < 990):J3 i=i:=by unfold J3;rw[if_neg (by omega)]
@[simp] theorem XA (d:Option Nat) (g:Option (Nat×Bool)) (c:COp) (l:List CI) (H:aa) (i:Nat):bK (.op d g c::l) H i=if wV (CI.op d g c).wid i then none else bK l H i:=id rfl
@[simp] theorem Xz (a b:Nat) (l:List CI) (H:aa) (i:Nat):bK (.frz a b::l) H i=H i:=id rfl
@[simp] theorem Y7 (dst_:Option Nat) (gd_:Option (Nat×Bool)) (x:Operand): (CI.op dst_ gd_ (.mv x)).wid=dst_:=id rfl
@[simp] theorem Ug (dst_:Option Nat) (gd_:Option (Nat×Bool)) (c:Operand) (x:Operand) (y:Operand): (CI.op dst_ gd_ (.pick c x y)).wid=dst_:=id rfl
@[simp] theorem Tl (dst_:Option Nat) (gd_:Option (Nat×Bool)) (el:Nat) (z:List Value): (CI.op dst_ gd_ (.alloc el z)).wid=dst_:=id rfl
@[simp] theorem Tj (dst_:Option Nat) (gd_:Option (Nat×Bool)) (z:List Value) (parts:List (Nat×Nat×Operand)): (CI.op dst_ gd_ (.build z parts)).wid=dst_:=id rfl
@[simp] theorem Rs (dst_:Option Nat) (gd_:Option (Nat×Bool)) (el:Nat) (n:Nat) (parts:List Operand): (CI.op dst_ gd_ (.bslice el n parts)).wid=dst_:=id rfl
@[simp] theorem Uh (dst_:Option Nat) (gd_:Option (Nat×Bool)) (agg:Bool) (sz:Nat) (x:Operand): (CI.op dst_ gd_ (.load agg sz x)).wid=dst_:=id rfl
@[simp] theorem QS (d:Option Nat) (g:Option (Nat×Bool)) (r sz:Nat) (x y:Operand): (CI.op d g (.store (some r) sz x y)).wid=some r:=id rfl
@[simp] theorem Tf (dst_:Option Nat) (gd_:Option (Nat×Bool)) (x:Operand): (CI.op dst_ gd_ (.nilck x)).wid=dst_:=id rfl
@[simp] theorem Tk (dst_:Option Nat) (gd_:Option (Nat×Bool)) (op:BinOp) (x:Operand) (y:Operand): (CI.op dst_ gd_ (.arith op x y)).wid=dst_:=id rfl
@[simp] theorem Ww (dst_:Option Nat) (gd_:Option (Nat×Bool)) (op:BinOp) (x:Operand) (y:Operand): (CI.op dst_ gd_ (.cmp op x y)).wid=dst_:=id rfl
@[simp] theorem Te (dst_:Option Nat) (gd_:Option (Nat×Bool)) (n:Nat) (x:Operand) (lo:Option Operand) (hi:Option Operand): (CI.op dst_ gd_ (.slice n x lo hi)).wid=dst_:=id rfl
@[simp] theorem Rr (dst_:Option Nat) (gd_:Option (Nat×Bool)) (x:Operand) (lo:Option Operand) (hi:Option Operand): (CI.op dst_ gd_ (.sslice x lo hi)).wid=dst_:=id rfl
@[simp] theorem Th (dst_:Option Nat) (gd_:Option (Nat×Bool)) (off:Nat) (x:Operand): (CI.op dst_ gd_ (.faddr off x)).wid=dst_:=id rfl
@[simp] theorem Tg (dst_:Option Nat) (gd_:Option (Nat×Bool)) (n:Nat) (x:Operand) (i:Operand): (CI.op dst_ gd_ (.iaddr n x i)).wid=dst_:=id rfl
@[simp] theorem Wv (dst_:Option Nat) (gd_:Option (Nat×Bool)) (x:Operand) (i:Nat): (CI.op dst_ gd_ (.ext x i)).wid=dst_:=id rfl
@[simp] theorem Wu (dst_:Option Nat) (gd_:Option (Nat×Bool)) (x:Operand): (CI.op dst_ gd_ (.len x)).wid=dst_:=id rfl
@[simp] theorem Uf (dst_:Option Nat) (gd_:Option (Nat×Bool)) (x:Operand): (CI.op dst_ gd_ (.slen x)).wid=dst_:=id rfl
@[simp] theorem Y8 (dst_:Option Nat) (gd_:Option (Nat×Bool)) (mx:Bool) (xs:List Operand): (CI.op dst_ gd_ (.mm mx xs)).wid=dst_:=id rfl
@[simp] theorem O8 (d:Option Nat) (g:Option (Nat×Bool)) (r el n b:Nat) (x y:Operand): (CI.op d g (.append (some r) el n b x y)).wid=some r:=id rfl
@[simp] theorem Ui (dst_:Option Nat) (gd_:Option (Nat×Bool)) (f:Nat) (args:List Operand): (CI.op dst_ gd_ (.call f args)).wid=dst_:=id rfl
@[simp] theorem Ti (dst_:Option Nat) (gd_:Option (Nat×Bool)) (r f:Nat) (args:List Operand): (CI.op dst_ gd_ (.callb r f args)).wid=some r:=id rfl
end Go.Gv
