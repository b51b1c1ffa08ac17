/- A part of the framework and of the walks: T13. -/
import Derived.Test.YticbieanhfdnoaaGreatDoorGa16
set_option linter.unusedSimpArgs false
set_option linter.unusedVariables false

namespace Go.Gv
open Cod (enc dec)
theorem ci {X:Type} [Cod X] {x y:X} (h:enc x=enc y):x=y:=by
 have:=congrArg (dec (X:=X)) h
 simpa using this
@[simp] theorem YC {X:Type} [Cod X] (l l':List X): (l.map enc=l'.map enc)=(l=l'):=by
 refine propext ⟨fun h=> ?_,fun h=> h ▸rfl⟩
 induction l generalizing l' with
 | nil=> cases l' with
   | nil=> rfl
   | cons y l'=> simp at h
 | cons x l ih=> cases l' with
   | nil=> simp at h
   | cons y l'=>
     simp only[List.map_cons,List.cons.injEq] at h
     rw[ci h.1,ih _ h.2]
theorem gb {X:Type} [Cod X] (l:List X) (i:Nat) (x:X): (l.map enc).set i (enc x)=(l.set i x).map enc:=by
 rw[List.map_set]
theorem CP {X:Type} [Cod X] (l:List X) (x:X):l.map enc++ [enc x]=(l++ [x]).map enc:=by simp
theorem jw {X:Type} [Cod X] {H:aa} {id n:Nat} {v:Value} {l:List X} (el:Nat) (h:H id=some (.row v el n (l.map enc))) (hn:n=Cod.wd X:=by rfl):FrzTo H (.own id v) (.list n (l.map enc)):=by
 subst hn;exact In h
inductive Ky where
 | e
 | o (k:Ky)
 | i (k:Ky)
deriving DecidableEq
inductive Tr where
 | nil
 | nd (d:D) (l r:Tr)
def Tr.get:Tr→Ky→D
 | .nil,_=> .any
 | .nd d _ _, .e=> d
 | .nd _ l _, .o k=> l.get k
 | .nd _ _ r, .i k=> r.get k
def Tr.set:Tr→Ky→D→Tr
 | .nil, .e,x=> .nd x .nil .nil
 | .nil, .o k,x=> .nd .any (Tr.set .nil k x) .nil
 | .nil, .i k,x=> .nd .any .nil (Tr.set .nil k x)
 | .nd _ l r, .e,x=> .nd x l r
 | .nd d l r, .o k,x=> .nd d (l.set k x) r
 | .nd d l r, .i k,x=> .nd d l (r.set k x)
noncomputable def Tr.frz (id:Nat) (x:Value) (L:D):Tr→Tr
 | .nil=> .nil
 | .nd d l r=> .nd (NT id x L d) (l.frz id x L) (r.frz id x L)
def Qg:Nat→Nat→Ky
 | 0,_=> .e
 | f+1,n=> if n=0 then .e else if(n -1) % 2=0 then .o (Qg f ((n -1) /2)) else .i (Qg f ((n -1) /2))
def ky (n:Nat):Ky:=Qg n n
def Ky.val:Ky→Nat
 | .e=> 0
 | .o k=> 2*k.val+1
 | .i k=> 2*k.val+2
theorem xw: ∀ (f n:Nat),n≤f→(Qg f n).val=n
 | 0,n,h=> by
   have:n=0:=by omega
   subst this;rfl
 | f+1,n,h=> by
   unfold Qg
   split
   ·rename_i e;subst e;rfl
   ·split
    ·simp only[Ky.val]
     rw[xw f _ (by omega)]
     omega
    ·simp only[Ky.val]
     rw[xw f _ (by omega)]
     omega
theorem JZ {m n:Nat} (h:ky m=ky n):m=n:=by
 have h1:=xw m m (Nat.le_refl _)
 have h2:=xw n n (Nat.le_refl _)
 unfold ky at h
 rw[h] at h1
 exact h1.symm.trans h2
theorem rD: ∀ (T:Tr) (k j:Ky) (x:D),(T.set k x).get j=if j=k then x else T.get j
 | .nil, .e,j,x=> by cases j <;> simp[Tr.set,Tr.get]
 | .nil, .o k,j,x=> by
   have ih:=fun j=> rD .nil k j x
   cases j <;> simp[Tr.set,Tr.get,ih]
 | .nil, .i k,j,x=> by
   have ih:=fun j=> rD .nil k j x
   cases j <;> simp[Tr.set,Tr.get,ih]
 | .nd d l r, .e,j,x=> by cases j <;> simp[Tr.set,Tr.get]
 | .nd d l r, .o k,j,x=> by
   have ih:=fun j=> rD l k j x
   cases j <;> simp[Tr.set,Tr.get,ih]
 | .nd d l r, .i k,j,x=> by
   have ih:=fun j=> rD r k j x
   cases j <;> simp[Tr.set,Tr.get,ih]
def Cx (T:Tr):Sg:=fun t=> T.get (ky t)
@[simp] theorem SL (T:Tr) (t:Nat):Cx T t=T.get (ky t):=id rfl
@[simp] theorem Pw (T:Tr) (t:Nat) (d:D):lD (Cx T) t d=Cx (T.set (ky t) d):=by
 funext s
 simp only[lD,Cx,rD]
 by_cases h:s=t
 ·simp[h]
 ·have: ¬ky s=ky t:=fun e=> h (JZ e)
  simp[h,this]
theorem Kh:Cx .nil=fun _=> .any:=by
 funext t
 simp[Cx,Tr.get]
@[simp] theorem NP (σ:Sg):gy [] σ=Cx .nil:=by rw[Kh];rfl
@[simp] theorem L2 (t:Nat) (l:List Nat) (σ:Sg):gy (t::l) σ=lD (gy l σ) t (σ t):=id rfl
@[simp] theorem Zq (σ:Sg):mC [] σ=σ:=id rfl
@[simp] theorem TT (t:Nat) (d:D) (l:List (Nat×D)) (σ:Sg):mC ((t,d)::l) σ=lD (mC l σ) t d:=id rfl
def wD:Nat→List D→Tr
 | _, []=> .nil
 | n,d::l=> (wD (n+1) l).set (ky n) d
@[simp] theorem O1 (n:Nat):wD n []= .nil:=id rfl
@[simp] theorem NR (n:Nat) (d:D) (l:List D):wD n (d::l)=(wD (n+1) l).set (ky n) d:=id rfl
theorem AW: ∀ (l:List D) (n t:Nat),(wD n l).get (ky t)=if n≤t then(l[t -n]?).getD .any else .any
 | [],n,t=> by simp[wD,Tr.get]
 | d::l,n,t=> by
   rw[wD,rD,AW l (n+1) t]
   by_cases h:t=n
   ·subst h;simp
   ·have: ¬ky t=ky n:=fun e=> h (JZ e)
    rw[if_neg this]
    by_cases h2:n+1≤t
    ·have h3:n≤t:=by omega
     rw[if_pos h2,if_pos h3]
     have:t -n=(t - (n+1)) +1:=by omega
     rw[this];simp
    ·have h3: ¬n≤t:=by omega
     rw[if_neg h2,if_neg h3]
@[simp] theorem Yq (l:List D):dI l=Cx (wD 0 l):=by
 funext t
 simp[dI,Cx,AW]
@[simp] theorem qb7 (d:D) (l r:Tr): (Tr.nd d l r).get .e=d:=id rfl
@[simp] theorem qb5 (d:D) (l r:Tr) (k:Ky): (Tr.nd d l r).get (.o k)=l.get k:=id rfl
@[simp] theorem qb6 (d:D) (l r:Tr) (k:Ky): (Tr.nd d l r).get (.i k)=r.get k:=id rfl
@[simp] theorem ZE (x:D):Tr.nil.set .e x= .nd x .nil .nil:=id rfl
@[simp] theorem ZC (k:Ky) (x:D):Tr.nil.set (.o k) x= .nd .any (Tr.set .nil k x) .nil:=id rfl
@[simp] theorem ZD (k:Ky) (x:D):Tr.nil.set (.i k) x= .nd .any .nil (Tr.set .nil k x):=id rfl
@[simp] theorem qb4 (d:D) (l r:Tr) (x:D): (Tr.nd d l r).set .e x= .nd x l r:=id rfl
@[simp] theorem qb2 (d:D) (l r:Tr) (k:Ky) (x:D): (Tr.nd d l r).set (.o k) x= .nd d (l.set k x) r:=id rfl
@[simp] theorem qb3 (d:D) (l r:Tr) (k:Ky) (x:D): (Tr.nd d l r).set (.i k) x= .nd d l (r.set k x):=id rfl
@[simp] theorem qcv:ky 0=Ky.e:=id rfl
@[simp] theorem qcu:ky 1=Ky.o (Ky.e):=id rfl
@[simp] theorem qct:ky 2=Ky.i (Ky.e):=id rfl
@[simp] theorem qcs:ky 3=Ky.o (Ky.o (Ky.e)):=id rfl
@[simp] theorem qcr:ky 4=Ky.i (Ky.o (Ky.e)):=id rfl
@[simp] theorem qcq:ky 5=Ky.o (Ky.i (Ky.e)):=id rfl
@[simp] theorem qcp:ky 6=Ky.i (Ky.i (Ky.e)):=id rfl
@[simp] theorem qco:ky 7=Ky.o (Ky.o (Ky.o (Ky.e))):=id rfl
@[simp] theorem qcn:ky 8=Ky.i (Ky.o (Ky.o (Ky.e))):=id rfl
@[simp] theorem qcm:ky 9=Ky.o (Ky.i (Ky.o (Ky.e))):=id rfl
@[simp] theorem qbu:ky 10=Ky.i (Ky.i (Ky.o (Ky.e))):=id rfl
@[simp] theorem qbt:ky 11=Ky.o (Ky.o (Ky.i (Ky.e))):=id rfl
@[simp] theorem qbs:ky 12=Ky.i (Ky.o (Ky.i (Ky.e))):=id rfl
@[simp] theorem qbr:ky 13=Ky.o (Ky.i (Ky.i (Ky.e))):=id rfl
@[simp] theorem qbq:ky 14=Ky.i (Ky.i (Ky.i (Ky.e))):=id rfl
@[simp] theorem qbp:ky 15=Ky.o (Ky.o (Ky.o (Ky.o (Ky.e)))):=id rfl
@[simp] theorem qbo:ky 16=Ky.i (Ky.o (Ky.o (Ky.o (Ky.e)))):=id rfl
@[simp] theorem qbn:ky 17=Ky.o (Ky.i (Ky.o (Ky.o (Ky.e)))):=id rfl
@[simp] theorem qbm:ky 18=Ky.i (Ky.i (Ky.o (Ky.o (Ky.e)))):=id rfl
@[simp] theorem qbl:ky 19=Ky.o (Ky.o (Ky.i (Ky.o (Ky.e)))):=id rfl
@[simp] theorem qbk:ky 20=Ky.i (Ky.o (Ky.i (Ky.o (Ky.e)))):=id rfl
@[simp] theorem qbj:ky 21=Ky.o (Ky.i (Ky.i (Ky.o (Ky.e)))):=id rfl
@[simp] theorem qbi:ky 22=Ky.i (Ky.i (Ky.i (Ky.o (Ky.e)))):=id rfl
@[simp] theorem qbh:ky 23=Ky.o (Ky.o (Ky.o (Ky.i (Ky.e)))):=id rfl
@[simp] theorem qbg:ky 24=Ky.i (Ky.o (Ky.o (Ky.i (Ky.e)))):=id rfl
@[simp] theorem qbf:ky 25=Ky.o (Ky.i (Ky.o (Ky.i (Ky.e)))):=id rfl
@[simp] theorem qbe:ky 26=Ky.i (Ky.i (Ky.o (Ky.i (Ky.e)))):=id rfl
@[simp] theorem qbd:ky 27=Ky.o (Ky.o (Ky.i (Ky.i (Ky.e)))):=id rfl
@[simp] theorem qbc:ky 28=Ky.i (Ky.o (Ky.i (Ky.i (Ky.e)))):=id rfl
@[simp] theorem qbb:ky 29=Ky.o (Ky.i (Ky.i (Ky.i (Ky.e)))):=id rfl
@[simp] theorem qba:ky 30=Ky.i (Ky.i (Ky.i (Ky.i (Ky.e)))):=id rfl
@[simp] theorem qa9:ky 31=Ky.o (Ky.o (Ky.o (Ky.o (Ky.o (Ky.e))))):=id rfl
@[simp] theorem qa8:ky 32=Ky.i (Ky.o (Ky.o (Ky.o (Ky.o (Ky.e))))):=id rfl
@[simp] theorem qa7:ky 33=Ky.o (Ky.i (Ky.o (Ky.o (Ky.o (Ky.e))))):=id rfl
@[simp] theorem qa6:ky 34=Ky.i (Ky.i (Ky.o (Ky.o (Ky.o (Ky.e))))):=id rfl
@[simp] theorem qa5:ky 35=Ky.o (Ky.o (Ky.i (Ky.o (Ky.o (Ky.e))))):=id rfl
@[simp] theorem qa4:ky 36=Ky.i (Ky.o (Ky.i (Ky.o (Ky.o (Ky.e))))):=id rfl
@[simp] theorem qa3:ky 37=Ky.o (Ky.i (Ky.i (Ky.o (Ky.o (Ky.e))))):=id rfl
@[simp] theorem qa2:ky 38=Ky.i (Ky.i (Ky.i (Ky.o (Ky.o (Ky.e))))):=id rfl
@[simp] theorem qa1:ky 39=Ky.o (Ky.o (Ky.o (Ky.i (Ky.o (Ky.e))))):=id rfl
@[simp] theorem qa0:ky 40=Ky.i (Ky.o (Ky.o (Ky.i (Ky.o (Ky.e))))):=id rfl
@[simp] theorem qaZ:ky 41=Ky.o (Ky.i (Ky.o (Ky.i (Ky.o (Ky.e))))):=id rfl
@[simp] theorem qaY:ky 42=Ky.i (Ky.i (Ky.o (Ky.i (Ky.o (Ky.e))))):=id rfl
@[simp] theorem qaX:ky 43=Ky.o (Ky.o (Ky.i (Ky.i (Ky.o (Ky.e))))):=id rfl
@[simp] theorem qaW:ky 44=Ky.i (Ky.o (Ky.i (Ky.i (Ky.o (Ky.e))))):=id rfl
@[simp] theorem qaV:ky 45=Ky.o (Ky.i (Ky.i (Ky.i (Ky.o (Ky.e))))):=id rfl
@[simp] theorem qaU:ky 46=Ky.i (Ky.i (Ky.i (Ky.i (Ky.o (Ky.e))))):=id rfl
@[simp] theorem qaT:ky 47=Ky.o (Ky.o (Ky.o (Ky.o (Ky.i (Ky.e))))):=id rfl
@[simp] theorem qaS:ky 48=Ky.i (Ky.o (Ky.o (Ky.o (Ky.i (Ky.e))))):=id rfl
@[simp] theorem qaR:ky 49=Ky.o (Ky.i (Ky.o (Ky.o (Ky.i (Ky.e))))):=id rfl
@[simp] theorem qaQ:ky 50=Ky.i (Ky.i (Ky.o (Ky.o (Ky.i (Ky.e))))):=id rfl
@[simp] theorem qaP:ky 51=Ky.o (Ky.o (Ky.i (Ky.o (Ky.i (Ky.e))))):=id rfl
@[simp] theorem qaO:ky 52=Ky.i (Ky.o (Ky.i (Ky.o (Ky.i (Ky.e))))):=id rfl
@[simp] theorem qaN:ky 53=Ky.o (Ky.i (Ky.i (Ky.o (Ky.i (Ky.e))))):=id rfl
@[simp] theorem qaM:ky 54=Ky.i (Ky.i (Ky.i (Ky.o (Ky.i (Ky.e))))):=id rfl
@[simp] theorem qaL:ky 55=Ky.o (Ky.o (Ky.o (Ky.i (Ky.i (Ky.e))))):=id rfl
@[simp] theorem qaK:ky 56=Ky.i (Ky.o (Ky.o (Ky.i (Ky.i (Ky.e))))):=id rfl
@[simp] theorem qaJ:ky 57=Ky.o (Ky.i (Ky.o (Ky.i (Ky.i (Ky.e))))):=id rfl
@[simp] theorem qaI:ky 58=Ky.i (Ky.i (Ky.o (Ky.i (Ky.i (Ky.e))))):=id rfl
@[simp] theorem qaH:ky 59=Ky.o (Ky.o (Ky.i (Ky.i (Ky.i (Ky.e))))):=id rfl
@[simp] theorem qaG:ky 60=Ky.i (Ky.o (Ky.i (Ky.i (Ky.i (Ky.e))))):=id rfl
@[simp] theorem qaF:ky 61=Ky.o (Ky.i (Ky.i (Ky.i (Ky.i (Ky.e))))):=id rfl
@[simp] theorem qaE:ky 62=Ky.i (Ky.i (Ky.i (Ky.i (Ky.i (Ky.e))))):=id rfl
@[simp] theorem qaD:ky 63=Ky.o (Ky.o (Ky.o (Ky.o (Ky.o (Ky.o (Ky.e)))))):=id rfl
@[simp] theorem qaC:ky 64=Ky.i (Ky.o (Ky.o (Ky.o (Ky.o (Ky.o (Ky.e)))))):=id rfl
@[simp] theorem qaB:ky 65=Ky.o (Ky.i (Ky.o (Ky.o (Ky.o (Ky.o (Ky.e)))))):=id rfl
@[simp] theorem qaA:ky 66=Ky.i (Ky.i (Ky.o (Ky.o (Ky.o (Ky.o (Ky.e)))))):=id rfl
@[simp] theorem qaz:ky 67=Ky.o (Ky.o (Ky.i (Ky.o (Ky.o (Ky.o (Ky.e)))))):=id rfl
@[simp] theorem qay:ky 68=Ky.i (Ky.o (Ky.i (Ky.o (Ky.o (Ky.o (Ky.e)))))):=id rfl
@[simp] theorem qax:ky 69=Ky.o (Ky.i (Ky.i (Ky.o (Ky.o (Ky.o (Ky.e)))))):=id rfl
@[simp] theorem qaw:ky 70=Ky.i (Ky.i (Ky.i (Ky.o (Ky.o (Ky.o (Ky.e)))))):=id rfl
@[simp] theorem qav:ky 71=Ky.o (Ky.o (Ky.o (Ky.i (Ky.o (Ky.o (Ky.e)))))):=id rfl
@[simp] theorem qau:ky 72=Ky.i (Ky.o (Ky.o (Ky.i (Ky.o (Ky.o (Ky.e)))))):=id rfl
@[simp] theorem qat:ky 73=Ky.o (Ky.i (Ky.o (Ky.i (Ky.o (Ky.o (Ky.e)))))):=id rfl
@[simp] theorem qas:ky 74=Ky.i (Ky.i (Ky.o (Ky.i (Ky.o (Ky.o (Ky.e)))))):=id rfl
@[simp] theorem qar:ky 75=Ky.o (Ky.o (Ky.i (Ky.i (Ky.o (Ky.o (Ky.e)))))):=id rfl
@[simp] theorem qaq:ky 76=Ky.i (Ky.o (Ky.i (Ky.i (Ky.o (Ky.o (Ky.e)))))):=id rfl
@[simp] theorem qap:ky 77=Ky.o (Ky.i (Ky.i (Ky.i (Ky.o (Ky.o (Ky.e)))))):=id rfl
@[simp] theorem qao:ky 78=Ky.i (Ky.i (Ky.i (Ky.i (Ky.o (Ky.o (Ky.e)))))):=id rfl
@[simp] theorem qan:ky 79=Ky.o (Ky.o (Ky.o (Ky.o (Ky.i (Ky.o (Ky.e)))))):=id rfl
@[simp] theorem qam:ky 80=Ky.i (Ky.o (Ky.o (Ky.o (Ky.i (Ky.o (Ky.e)))))):=id rfl
@[simp] theorem qal:ky 81=Ky.o (Ky.i (Ky.o (Ky.o (Ky.i (Ky.o (Ky.e)))))):=id rfl
@[simp] theorem qak:ky 82=Ky.i (Ky.i (Ky.o (Ky.o (Ky.i (Ky.o (Ky.e)))))):=id rfl
@[simp] theorem qaj:ky 83=Ky.o (Ky.o (Ky.i (Ky.o (Ky.i (Ky.o (Ky.e)))))):=id rfl
@[simp] theorem qai:ky 84=Ky.i (Ky.o (Ky.i (Ky.o (Ky.i (Ky.o (Ky.e)))))):=id rfl
@[simp] theorem qah:ky 85=Ky.o (Ky.i (Ky.i (Ky.o (Ky.i (Ky.o (Ky.e)))))):=id rfl
@[simp] theorem qag:ky 86=Ky.i (Ky.i (Ky.i (Ky.o (Ky.i (Ky.o (Ky.e)))))):=id rfl
@[simp] theorem qaf:ky 87=Ky.o (Ky.o (Ky.o (Ky.i (Ky.i (Ky.o (Ky.e)))))):=id rfl
@[simp] theorem qae:ky 88=Ky.i (Ky.o (Ky.o (Ky.i (Ky.i (Ky.o (Ky.e)))))):=id rfl
@[simp] theorem qad:ky 89=Ky.o (Ky.i (Ky.o (Ky.i (Ky.i (Ky.o (Ky.e)))))):=id rfl
@[simp] theorem qac:ky 90=Ky.i (Ky.i (Ky.o (Ky.i (Ky.i (Ky.o (Ky.e)))))):=id rfl
@[simp] theorem qab:ky 91=Ky.o (Ky.o (Ky.i (Ky.i (Ky.i (Ky.o (Ky.e)))))):=id rfl
@[simp] theorem qaa:ky 92=Ky.i (Ky.o (Ky.i (Ky.i (Ky.i (Ky.o (Ky.e)))))):=id rfl
@[simp] theorem Z9:ky 93=Ky.o (Ky.i (Ky.i (Ky.i (Ky.i (Ky.o (Ky.e)))))):=id rfl
@[simp] theorem Z8:ky 94=Ky.i (Ky.i (Ky.i (Ky.i (Ky.i (Ky.o (Ky.e)))))):=id rfl
@[simp] theorem Z7:ky 95=Ky.o (Ky.o (Ky.o (Ky.o (Ky.o (Ky.i (Ky.e)))))):=id rfl
@[simp] theorem Z6:ky 96=Ky.i (Ky.o (Ky.o (Ky.o (Ky.o (Ky.i (Ky.e)))))):=id rfl
@[simp] theorem Z5:ky 97=Ky.o (Ky.i (Ky.o (Ky.o (Ky.o (Ky.i (Ky.e)))))):=id rfl
@[simp] theorem Z4:ky 98=Ky.i (Ky.i (Ky.o (Ky.o (Ky.o (Ky.i (Ky.e)))))):=id rfl
@[simp] theorem Z3:ky 99=Ky.o (Ky.o (Ky.i (Ky.o (Ky.o (Ky.i (Ky.e)))))):=id rfl
@[simp] theorem Yd:ky 100=Ky.i (Ky.o (Ky.i (Ky.o (Ky.o (Ky.i (Ky.e)))))):=id rfl
@[simp] theorem Yc:ky 101=Ky.o (Ky.i (Ky.i (Ky.o (Ky.o (Ky.i (Ky.e)))))):=id rfl
@[simp] theorem Yb:ky 102=Ky.i (Ky.i (Ky.i (Ky.o (Ky.o (Ky.i (Ky.e)))))):=id rfl
@[simp] theorem Ya:ky 103=Ky.o (Ky.o (Ky.o (Ky.i (Ky.o (Ky.i (Ky.e)))))):=id rfl
@[simp] theorem X9:ky 104=Ky.i (Ky.o (Ky.o (Ky.i (Ky.o (Ky.i (Ky.e)))))):=id rfl
@[simp] theorem X8:ky 105=Ky.o (Ky.i (Ky.o (Ky.i (Ky.o (Ky.i (Ky.e)))))):=id rfl
@[simp] theorem X7:ky 106=Ky.i (Ky.i (Ky.o (Ky.i (Ky.o (Ky.i (Ky.e)))))):=id rfl
@[simp] theorem X6:ky 107=Ky.o (Ky.o (Ky.i (Ky.i (Ky.o (Ky.i (Ky.e)))))):=id rfl
@[simp] theorem X5:ky 108=Ky.i (Ky.o (Ky.i (Ky.i (Ky.o (Ky.i (Ky.e)))))):=id rfl
@[simp] theorem X4:ky 109=Ky.o (Ky.i (Ky.i (Ky.i (Ky.o (Ky.i (Ky.e)))))):=id rfl
@[simp] theorem X3:ky 110=Ky.i (Ky.i (Ky.i (Ky.i (Ky.o (Ky.i (Ky.e)))))):=id rfl
@[simp] theorem X2:ky 111=Ky.o (Ky.o (Ky.o (Ky.o (Ky.i (Ky.i (Ky.e)))))):=id rfl
@[simp] theorem X1:ky 112=Ky.i (Ky.o (Ky.o (Ky.o (Ky.i (Ky.i (Ky.e)))))):=id rfl
@[simp] theorem X0:ky 113=Ky.o (Ky.i (Ky.o (Ky.o (Ky.i (Ky.i (Ky.e)))))):=id rfl
@[simp] theorem XZ:ky 114=Ky.i (Ky.i (Ky.o (Ky.o (Ky.i (Ky.i (Ky.e)))))):=id rfl
@[simp] theorem XY:ky 115=Ky.o (Ky.o (Ky.i (Ky.o (Ky.i (Ky.i (Ky.e)))))):=id rfl
@[simp] theorem XX:ky 116=Ky.i (Ky.o (Ky.i (Ky.o (Ky.i (Ky.i (Ky.e)))))):=id rfl
@[simp] theorem XW:ky 117=Ky.o (Ky.i (Ky.i (Ky.o (Ky.i (Ky.i (Ky.e)))))):=id rfl
@[simp] theorem XV:ky 118=Ky.i (Ky.i (Ky.i (Ky.o (Ky.i (Ky.i (Ky.e)))))):=id rfl
@[simp] theorem XU:ky 119=Ky.o (Ky.o (Ky.o (Ky.i (Ky.i (Ky.i (Ky.e)))))):=id rfl
@[simp] theorem XT:ky 120=Ky.i (Ky.o (Ky.o (Ky.i (Ky.i (Ky.i (Ky.e)))))):=id rfl
@[simp] theorem XS:ky 121=Ky.o (Ky.i (Ky.o (Ky.i (Ky.i (Ky.i (Ky.e)))))):=id rfl
@[simp] theorem XR:ky 122=Ky.i (Ky.i (Ky.o (Ky.i (Ky.i (Ky.i (Ky.e)))))):=id rfl
@[simp] theorem XQ:ky 123=Ky.o (Ky.o (Ky.i (Ky.i (Ky.i (Ky.i (Ky.e)))))):=id rfl
@[simp] theorem XP:ky 124=Ky.i (Ky.o (Ky.i (Ky.i (Ky.i (Ky.i (Ky.e)))))):=id rfl
@[simp] theorem XO:ky 125=Ky.o (Ky.i (Ky.i (Ky.i (Ky.i (Ky.i (Ky.e)))))):=id rfl
@[simp] theorem XN:ky 126=Ky.i (Ky.i (Ky.i (Ky.i (Ky.i (Ky.i (Ky.e)))))):=id rfl
@[simp] theorem XM:ky 127=Ky.o (Ky.o (Ky.o (Ky.o (Ky.o (Ky.o (Ky.o (Ky.e))))))):=id rfl
@[simp] theorem XL:ky 128=Ky.i (Ky.o (Ky.o (Ky.o (Ky.o (Ky.o (Ky.o (Ky.e))))))):=id rfl
@[simp] theorem XK:ky 129=Ky.o (Ky.i (Ky.o (Ky.o (Ky.o (Ky.o (Ky.o (Ky.e))))))):=id rfl
@[simp] theorem XJ:ky 130=Ky.i (Ky.i (Ky.o (Ky.o (Ky.o (Ky.o (Ky.o (Ky.e))))))):=id rfl
@[simp] theorem XI:ky 131=Ky.o (Ky.o (Ky.i (Ky.o (Ky.o (Ky.o (Ky.o (Ky.e))))))):=id rfl
@[simp] theorem XH:ky 132=Ky.i (Ky.o (Ky.i (Ky.o (Ky.o (Ky.o (Ky.o (Ky.e))))))):=id rfl
@[simp] theorem XG:ky 133=Ky.o (Ky.i (Ky.i (Ky.o (Ky.o (Ky.o (Ky.o (Ky.e))))))):=id rfl
@[simp] theorem XF:ky 134=Ky.i (Ky.i (Ky.i (Ky.o (Ky.o (Ky.o (Ky.o (Ky.e))))))):=id rfl
@[simp] theorem XE:ky 135=Ky.o (Ky.o (Ky.o (Ky.i (Ky.o (Ky.o (Ky.o (Ky.e))))))):=id rfl
@[simp] theorem XD:ky 136=Ky.i (Ky.o (Ky.o (Ky.i (Ky.o (Ky.o (Ky.o (Ky.e))))))):=id rfl
@[simp] theorem XC:ky 137=Ky.o (Ky.i (Ky.o (Ky.i (Ky.o (Ky.o (Ky.o (Ky.e))))))):=id rfl
@[simp] theorem XB:ky 138=Ky.i (Ky.i (Ky.o (Ky.i (Ky.o (Ky.o (Ky.o (Ky.e))))))):=id rfl
@[simp] theorem XA:ky 139=Ky.o (Ky.o (Ky.i (Ky.i (Ky.o (Ky.o (Ky.o (Ky.e))))))):=id rfl
@[simp] theorem Xz:ky 140=Ky.i (Ky.o (Ky.i (Ky.i (Ky.o (Ky.o (Ky.o (Ky.e))))))):=id rfl
@[simp] theorem Xy:ky 141=Ky.o (Ky.i (Ky.i (Ky.i (Ky.o (Ky.o (Ky.o (Ky.e))))))):=id rfl
@[simp] theorem Xx:ky 142=Ky.i (Ky.i (Ky.i (Ky.i (Ky.o (Ky.o (Ky.o (Ky.e))))))):=id rfl
@[simp] theorem Xw:ky 143=Ky.o (Ky.o (Ky.o (Ky.o (Ky.i (Ky.o (Ky.o (Ky.e))))))):=id rfl
@[simp] theorem Xv:ky 144=Ky.i (Ky.o (Ky.o (Ky.o (Ky.i (Ky.o (Ky.o (Ky.e))))))):=id rfl
@[simp] theorem Xu:ky 145=Ky.o (Ky.i (Ky.o (Ky.o (Ky.i (Ky.o (Ky.o (Ky.e))))))):=id rfl
@[simp] theorem Xt:ky 146=Ky.i (Ky.i (Ky.o (Ky.o (Ky.i (Ky.o (Ky.o (Ky.e))))))):=id rfl
@[simp] theorem Xs:ky 147=Ky.o (Ky.o (Ky.i (Ky.o (Ky.i (Ky.o (Ky.o (Ky.e))))))):=id rfl
@[simp] theorem Xr:ky 148=Ky.i (Ky.o (Ky.i (Ky.o (Ky.i (Ky.o (Ky.o (Ky.e))))))):=id rfl
@[simp] theorem Xq:ky 149=Ky.o (Ky.i (Ky.i (Ky.o (Ky.i (Ky.o (Ky.o (Ky.e))))))):=id rfl
@[simp] theorem Xp:ky 150=Ky.i (Ky.i (Ky.i (Ky.o (Ky.i (Ky.o (Ky.o (Ky.e))))))):=id rfl
@[simp] theorem Xo:ky 151=Ky.o (Ky.o (Ky.o (Ky.i (Ky.i (Ky.o (Ky.o (Ky.e))))))):=id rfl
@[simp] theorem Xn:ky 152=Ky.i (Ky.o (Ky.o (Ky.i (Ky.i (Ky.o (Ky.o (Ky.e))))))):=id rfl
@[simp] theorem Xm:ky 153=Ky.o (Ky.i (Ky.o (Ky.i (Ky.i (Ky.o (Ky.o (Ky.e))))))):=id rfl
@[simp] theorem Xl:ky 154=Ky.i (Ky.i (Ky.o (Ky.i (Ky.i (Ky.o (Ky.o (Ky.e))))))):=id rfl
@[simp] theorem Xk:ky 155=Ky.o (Ky.o (Ky.i (Ky.i (Ky.i (Ky.o (Ky.o (Ky.e))))))):=id rfl
@[simp] theorem Xj:ky 156=Ky.i (Ky.o (Ky.i (Ky.i (Ky.i (Ky.o (Ky.o (Ky.e))))))):=id rfl
@[simp] theorem Xi:ky 157=Ky.o (Ky.i (Ky.i (Ky.i (Ky.i (Ky.o (Ky.o (Ky.e))))))):=id rfl
@[simp] theorem Xh:ky 158=Ky.i (Ky.i (Ky.i (Ky.i (Ky.i (Ky.o (Ky.o (Ky.e))))))):=id rfl
@[simp] theorem Xg:ky 159=Ky.o (Ky.o (Ky.o (Ky.o (Ky.o (Ky.i (Ky.o (Ky.e))))))):=id rfl
@[simp] theorem Xf:ky 160=Ky.i (Ky.o (Ky.o (Ky.o (Ky.o (Ky.i (Ky.o (Ky.e))))))):=id rfl
@[simp] theorem Xe:ky 161=Ky.o (Ky.i (Ky.o (Ky.o (Ky.o (Ky.i (Ky.o (Ky.e))))))):=id rfl
@[simp] theorem Xd:ky 162=Ky.i (Ky.i (Ky.o (Ky.o (Ky.o (Ky.i (Ky.o (Ky.e))))))):=id rfl
@[simp] theorem Xc:ky 163=Ky.o (Ky.o (Ky.i (Ky.o (Ky.o (Ky.i (Ky.o (Ky.e))))))):=id rfl
@[simp] theorem Xb:ky 164=Ky.i (Ky.o (Ky.i (Ky.o (Ky.o (Ky.i (Ky.o (Ky.e))))))):=id rfl
@[simp] theorem Xa:ky 165=Ky.o (Ky.i (Ky.i (Ky.o (Ky.o (Ky.i (Ky.o (Ky.e))))))):=id rfl
@[simp] theorem WZ:ky 166=Ky.i (Ky.i (Ky.i (Ky.o (Ky.o (Ky.i (Ky.o (Ky.e))))))):=id rfl
@[simp] theorem WY:ky 167=Ky.o (Ky.o (Ky.o (Ky.i (Ky.o (Ky.i (Ky.o (Ky.e))))))):=id rfl
@[simp] theorem WX:ky 168=Ky.i (Ky.o (Ky.o (Ky.i (Ky.o (Ky.i (Ky.o (Ky.e))))))):=id rfl
@[simp] theorem WW:ky 169=Ky.o (Ky.i (Ky.o (Ky.i (Ky.o (Ky.i (Ky.o (Ky.e))))))):=id rfl
@[simp] theorem WV:ky 170=Ky.i (Ky.i (Ky.o (Ky.i (Ky.o (Ky.i (Ky.o (Ky.e))))))):=id rfl
@[simp] theorem WU:ky 171=Ky.o (Ky.o (Ky.i (Ky.i (Ky.o (Ky.i (Ky.o (Ky.e))))))):=id rfl
@[simp] theorem WT:ky 172=Ky.i (Ky.o (Ky.i (Ky.i (Ky.o (Ky.i (Ky.o (Ky.e))))))):=id rfl
@[simp] theorem WS:ky 173=Ky.o (Ky.i (Ky.i (Ky.i (Ky.o (Ky.i (Ky.o (Ky.e))))))):=id rfl
@[simp] theorem WR:ky 174=Ky.i (Ky.i (Ky.i (Ky.i (Ky.o (Ky.i (Ky.o (Ky.e))))))):=id rfl
@[simp] theorem WQ:ky 175=Ky.o (Ky.o (Ky.o (Ky.o (Ky.i (Ky.i (Ky.o (Ky.e))))))):=id rfl
@[simp] theorem WP:ky 176=Ky.i (Ky.o (Ky.o (Ky.o (Ky.i (Ky.i (Ky.o (Ky.e))))))):=id rfl
@[simp] theorem WO:ky 177=Ky.o (Ky.i (Ky.o (Ky.o (Ky.i (Ky.i (Ky.o (Ky.e))))))):=id rfl
@[simp] theorem WN:ky 178=Ky.i (Ky.i (Ky.o (Ky.o (Ky.i (Ky.i (Ky.o (Ky.e))))))):=id rfl
@[simp] theorem WM:ky 179=Ky.o (Ky.o (Ky.i (Ky.o (Ky.i (Ky.i (Ky.o (Ky.e))))))):=id rfl
@[simp] theorem WL:ky 180=Ky.i (Ky.o (Ky.i (Ky.o (Ky.i (Ky.i (Ky.o (Ky.e))))))):=id rfl
@[simp] theorem WK:ky 181=Ky.o (Ky.i (Ky.i (Ky.o (Ky.i (Ky.i (Ky.o (Ky.e))))))):=id rfl
@[simp] theorem WJ:ky 182=Ky.i (Ky.i (Ky.i (Ky.o (Ky.i (Ky.i (Ky.o (Ky.e))))))):=id rfl
@[simp] theorem WI:ky 183=Ky.o (Ky.o (Ky.o (Ky.i (Ky.i (Ky.i (Ky.o (Ky.e))))))):=id rfl
@[simp] theorem WH:ky 184=Ky.i (Ky.o (Ky.o (Ky.i (Ky.i (Ky.i (Ky.o (Ky.e))))))):=id rfl
@[simp] theorem WG:ky 185=Ky.o (Ky.i (Ky.o (Ky.i (Ky.i (Ky.i (Ky.o (Ky.e))))))):=id rfl
@[simp] theorem WF:ky 186=Ky.i (Ky.i (Ky.o (Ky.i (Ky.i (Ky.i (Ky.o (Ky.e))))))):=id rfl
@[simp] theorem WE:ky 187=Ky.o (Ky.o (Ky.i (Ky.i (Ky.i (Ky.i (Ky.o (Ky.e))))))):=id rfl
@[simp] theorem WD:ky 188=Ky.i (Ky.o (Ky.i (Ky.i (Ky.i (Ky.i (Ky.o (Ky.e))))))):=id rfl
@[simp] theorem WC:ky 189=Ky.o (Ky.i (Ky.i (Ky.i (Ky.i (Ky.i (Ky.o (Ky.e))))))):=id rfl
@[simp] theorem WB:ky 190=Ky.i (Ky.i (Ky.i (Ky.i (Ky.i (Ky.i (Ky.o (Ky.e))))))):=id rfl
@[simp] theorem WA:ky 191=Ky.o (Ky.o (Ky.o (Ky.o (Ky.o (Ky.o (Ky.i (Ky.e))))))):=id rfl
@[simp] theorem Wz:ky 192=Ky.i (Ky.o (Ky.o (Ky.o (Ky.o (Ky.o (Ky.i (Ky.e))))))):=id rfl
@[simp] theorem Wy:ky 193=Ky.o (Ky.i (Ky.o (Ky.o (Ky.o (Ky.o (Ky.i (Ky.e))))))):=id rfl
@[simp] theorem Wx:ky 194=Ky.i (Ky.i (Ky.o (Ky.o (Ky.o (Ky.o (Ky.i (Ky.e))))))):=id rfl
@[simp] theorem Ww:ky 195=Ky.o (Ky.o (Ky.i (Ky.o (Ky.o (Ky.o (Ky.i (Ky.e))))))):=id rfl
@[simp] theorem Wv:ky 196=Ky.i (Ky.o (Ky.i (Ky.o (Ky.o (Ky.o (Ky.i (Ky.e))))))):=id rfl
@[simp] theorem Wu:ky 197=Ky.o (Ky.i (Ky.i (Ky.o (Ky.o (Ky.o (Ky.i (Ky.e))))))):=id rfl
@[simp] theorem Wt:ky 198=Ky.i (Ky.i (Ky.i (Ky.o (Ky.o (Ky.o (Ky.i (Ky.e))))))):=id rfl
@[simp] theorem Ws:ky 199=Ky.o (Ky.o (Ky.o (Ky.i (Ky.o (Ky.o (Ky.i (Ky.e))))))):=id rfl
@[simp] theorem Wr:ky 200=Ky.i (Ky.o (Ky.o (Ky.i (Ky.o (Ky.o (Ky.i (Ky.e))))))):=id rfl
@[simp] theorem Wq:ky 201=Ky.o (Ky.i (Ky.o (Ky.i (Ky.o (Ky.o (Ky.i (Ky.e))))))):=id rfl
@[simp] theorem Wp:ky 202=Ky.i (Ky.i (Ky.o (Ky.i (Ky.o (Ky.o (Ky.i (Ky.e))))))):=id rfl
@[simp] theorem Wo:ky 203=Ky.o (Ky.o (Ky.i (Ky.i (Ky.o (Ky.o (Ky.i (Ky.e))))))):=id rfl
@[simp] theorem Wn:ky 204=Ky.i (Ky.o (Ky.i (Ky.i (Ky.o (Ky.o (Ky.i (Ky.e))))))):=id rfl
@[simp] theorem Wm:ky 205=Ky.o (Ky.i (Ky.i (Ky.i (Ky.o (Ky.o (Ky.i (Ky.e))))))):=id rfl
@[simp] theorem Wl:ky 206=Ky.i (Ky.i (Ky.i (Ky.i (Ky.o (Ky.o (Ky.i (Ky.e))))))):=id rfl
@[simp] theorem Wj:ky 207=Ky.o (Ky.o (Ky.o (Ky.o (Ky.i (Ky.o (Ky.i (Ky.e))))))):=id rfl
@[simp] theorem Wi:ky 208=Ky.i (Ky.o (Ky.o (Ky.o (Ky.i (Ky.o (Ky.i (Ky.e))))))):=id rfl
@[simp] theorem Wh:ky 209=Ky.o (Ky.i (Ky.o (Ky.o (Ky.i (Ky.o (Ky.i (Ky.e))))))):=id rfl
@[simp] theorem Wg:ky 210=Ky.i (Ky.i (Ky.o (Ky.o (Ky.i (Ky.o (Ky.i (Ky.e))))))):=id rfl
@[simp] theorem Wf:ky 211=Ky.o (Ky.o (Ky.i (Ky.o (Ky.i (Ky.o (Ky.i (Ky.e))))))):=id rfl
@[simp] theorem We:ky 212=Ky.i (Ky.o (Ky.i (Ky.o (Ky.i (Ky.o (Ky.i (Ky.e))))))):=id rfl
@[simp] theorem Wd:ky 213=Ky.o (Ky.i (Ky.i (Ky.o (Ky.i (Ky.o (Ky.i (Ky.e))))))):=id rfl
@[simp] theorem Wc:ky 214=Ky.i (Ky.i (Ky.i (Ky.o (Ky.i (Ky.o (Ky.i (Ky.e))))))):=id rfl
@[simp] theorem Wb:ky 215=Ky.o (Ky.o (Ky.o (Ky.i (Ky.i (Ky.o (Ky.i (Ky.e))))))):=id rfl
@[simp] theorem V9:ky 216=Ky.i (Ky.o (Ky.o (Ky.i (Ky.i (Ky.o (Ky.i (Ky.e))))))):=id rfl
@[simp] theorem VZ:ky 217=Ky.o (Ky.i (Ky.o (Ky.i (Ky.i (Ky.o (Ky.i (Ky.e))))))):=id rfl
@[simp] theorem VY:ky 218=Ky.i (Ky.i (Ky.o (Ky.i (Ky.i (Ky.o (Ky.i (Ky.e))))))):=id rfl
@[simp] theorem VX:ky 219=Ky.o (Ky.o (Ky.i (Ky.i (Ky.i (Ky.o (Ky.i (Ky.e))))))):=id rfl
@[simp] theorem VW:ky 220=Ky.i (Ky.o (Ky.i (Ky.i (Ky.i (Ky.o (Ky.i (Ky.e))))))):=id rfl
@[simp] theorem VV:ky 221=Ky.o (Ky.i (Ky.i (Ky.i (Ky.i (Ky.o (Ky.i (Ky.e))))))):=id rfl
@[simp] theorem VU:ky 222=Ky.i (Ky.i (Ky.i (Ky.i (Ky.i (Ky.o (Ky.i (Ky.e))))))):=id rfl
@[simp] theorem VT:ky 223=Ky.o (Ky.o (Ky.o (Ky.o (Ky.o (Ky.i (Ky.i (Ky.e))))))):=id rfl
@[simp] theorem VS:ky 224=Ky.i (Ky.o (Ky.o (Ky.o (Ky.o (Ky.i (Ky.i (Ky.e))))))):=id rfl
@[simp] theorem VR:ky 225=Ky.o (Ky.i (Ky.o (Ky.o (Ky.o (Ky.i (Ky.i (Ky.e))))))):=id rfl
@[simp] theorem VP:ky 226=Ky.i (Ky.i (Ky.o (Ky.o (Ky.o (Ky.i (Ky.i (Ky.e))))))):=id rfl
@[simp] theorem VO:ky 227=Ky.o (Ky.o (Ky.i (Ky.o (Ky.o (Ky.i (Ky.i (Ky.e))))))):=id rfl
@[simp] theorem VN:ky 228=Ky.i (Ky.o (Ky.i (Ky.o (Ky.o (Ky.i (Ky.i (Ky.e))))))):=id rfl
@[simp] theorem VM:ky 229=Ky.o (Ky.i (Ky.i (Ky.o (Ky.o (Ky.i (Ky.i (Ky.e))))))):=id rfl
@[simp] theorem VL:ky 230=Ky.i (Ky.i (Ky.i (Ky.o (Ky.o (Ky.i (Ky.i (Ky.e))))))):=id rfl
@[simp] theorem VK:ky 231=Ky.o (Ky.o (Ky.o (Ky.i (Ky.o (Ky.i (Ky.i (Ky.e))))))):=id rfl
@[simp] theorem VJ:ky 232=Ky.i (Ky.o (Ky.o (Ky.i (Ky.o (Ky.i (Ky.i (Ky.e))))))):=id rfl
@[simp] theorem VI:ky 233=Ky.o (Ky.i (Ky.o (Ky.i (Ky.o (Ky.i (Ky.i (Ky.e))))))):=id rfl
@[simp] theorem VH:ky 234=Ky.i (Ky.i (Ky.o (Ky.i (Ky.o (Ky.i (Ky.i (Ky.e))))))):=id rfl
@[simp] theorem VG:ky 235=Ky.o (Ky.o (Ky.i (Ky.i (Ky.o (Ky.i (Ky.i (Ky.e))))))):=id rfl
@[simp] theorem VF:ky 236=Ky.i (Ky.o (Ky.i (Ky.i (Ky.o (Ky.i (Ky.i (Ky.e))))))):=id rfl
@[simp] theorem VE:ky 237=Ky.o (Ky.i (Ky.i (Ky.i (Ky.o (Ky.i (Ky.i (Ky.e))))))):=id rfl
@[simp] theorem VD:ky 238=Ky.i (Ky.i (Ky.i (Ky.i (Ky.o (Ky.i (Ky.i (Ky.e))))))):=id rfl
@[simp] theorem VC:ky 239=Ky.o (Ky.o (Ky.o (Ky.o (Ky.i (Ky.i (Ky.i (Ky.e))))))):=id rfl
@[simp] theorem VB:ky 240=Ky.i (Ky.o (Ky.o (Ky.o (Ky.i (Ky.i (Ky.i (Ky.e))))))):=id rfl
@[simp] theorem VA:ky 241=Ky.o (Ky.i (Ky.o (Ky.o (Ky.i (Ky.i (Ky.i (Ky.e))))))):=id rfl
@[simp] theorem Vz:ky 242=Ky.i (Ky.i (Ky.o (Ky.o (Ky.i (Ky.i (Ky.i (Ky.e))))))):=id rfl
@[simp] theorem Vy:ky 243=Ky.o (Ky.o (Ky.i (Ky.o (Ky.i (Ky.i (Ky.i (Ky.e))))))):=id rfl
@[simp] theorem Vx:ky 244=Ky.i (Ky.o (Ky.i (Ky.o (Ky.i (Ky.i (Ky.i (Ky.e))))))):=id rfl
@[simp] theorem Vw:ky 245=Ky.o (Ky.i (Ky.i (Ky.o (Ky.i (Ky.i (Ky.i (Ky.e))))))):=id rfl
@[simp] theorem Vv:ky 246=Ky.i (Ky.i (Ky.i (Ky.o (Ky.i (Ky.i (Ky.i (Ky.e))))))):=id rfl
@[simp] theorem Vu:ky 247=Ky.o (Ky.o (Ky.o (Ky.i (Ky.i (Ky.i (Ky.i (Ky.e))))))):=id rfl
@[simp] theorem Vt:ky 248=Ky.i (Ky.o (Ky.o (Ky.i (Ky.i (Ky.i (Ky.i (Ky.e))))))):=id rfl
@[simp] theorem Vs:ky 249=Ky.o (Ky.i (Ky.o (Ky.i (Ky.i (Ky.i (Ky.i (Ky.e))))))):=id rfl
@[simp] theorem Vr:ky 250=Ky.i (Ky.i (Ky.o (Ky.i (Ky.i (Ky.i (Ky.i (Ky.e))))))):=id rfl
@[simp] theorem Vq:ky 251=Ky.o (Ky.o (Ky.i (Ky.i (Ky.i (Ky.i (Ky.i (Ky.e))))))):=id rfl
@[simp] theorem Vp:ky 252=Ky.i (Ky.o (Ky.i (Ky.i (Ky.i (Ky.i (Ky.i (Ky.e))))))):=id rfl
@[simp] theorem Vo:ky 253=Ky.o (Ky.i (Ky.i (Ky.i (Ky.i (Ky.i (Ky.i (Ky.e))))))):=id rfl
@[simp] theorem Vn:ky 254=Ky.i (Ky.i (Ky.i (Ky.i (Ky.i (Ky.i (Ky.i (Ky.e))))))):=id rfl
@[simp] theorem Vm:ky 255=Ky.o (Ky.o (Ky.o (Ky.o (Ky.o (Ky.o (Ky.o (Ky.o (Ky.e)))))))):=id rfl
@[simp] theorem Vl:ky 256=Ky.i (Ky.o (Ky.o (Ky.o (Ky.o (Ky.o (Ky.o (Ky.o (Ky.e)))))))):=id rfl
@[simp] theorem Vk:ky 257=Ky.o (Ky.i (Ky.o (Ky.o (Ky.o (Ky.o (Ky.o (Ky.o (Ky.e)))))))):=id rfl
@[simp] theorem Vj:ky 258=Ky.i (Ky.i (Ky.o (Ky.o (Ky.o (Ky.o (Ky.o (Ky.o (Ky.e)))))))):=id rfl
@[simp] theorem Vi:ky 259=Ky.o (Ky.o (Ky.i (Ky.o (Ky.o (Ky.o (Ky.o (Ky.o (Ky.e)))))))):=id rfl
@[simp] theorem Vh:ky 260=Ky.i (Ky.o (Ky.i (Ky.o (Ky.o (Ky.o (Ky.o (Ky.o (Ky.e)))))))):=id rfl
@[simp] theorem Vg:ky 261=Ky.o (Ky.i (Ky.i (Ky.o (Ky.o (Ky.o (Ky.o (Ky.o (Ky.e)))))))):=id rfl
@[simp] theorem Vf:ky 262=Ky.i (Ky.i (Ky.i (Ky.o (Ky.o (Ky.o (Ky.o (Ky.o (Ky.e)))))))):=id rfl
@[simp] theorem Ve:ky 263=Ky.o (Ky.o (Ky.o (Ky.i (Ky.o (Ky.o (Ky.o (Ky.o (Ky.e)))))))):=id rfl
@[simp] theorem Vd:ky 264=Ky.i (Ky.o (Ky.o (Ky.i (Ky.o (Ky.o (Ky.o (Ky.o (Ky.e)))))))):=id rfl
@[simp] theorem Vc:ky 265=Ky.o (Ky.i (Ky.o (Ky.i (Ky.o (Ky.o (Ky.o (Ky.o (Ky.e)))))))):=id rfl
@[simp] theorem Vb:ky 266=Ky.i (Ky.i (Ky.o (Ky.i (Ky.o (Ky.o (Ky.o (Ky.o (Ky.e)))))))):=id rfl
@[simp] theorem Va:ky 267=Ky.o (Ky.o (Ky.i (Ky.i (Ky.o (Ky.o (Ky.o (Ky.o (Ky.e)))))))):=id rfl
@[simp] theorem U9:ky 268=Ky.i (Ky.o (Ky.i (Ky.i (Ky.o (Ky.o (Ky.o (Ky.o (Ky.e)))))))):=id rfl
@[simp] theorem U7:ky 269=Ky.o (Ky.i (Ky.i (Ky.i (Ky.o (Ky.o (Ky.o (Ky.o (Ky.e)))))))):=id rfl
@[simp] theorem U6:ky 270=Ky.i (Ky.i (Ky.i (Ky.i (Ky.o (Ky.o (Ky.o (Ky.o (Ky.e)))))))):=id rfl
@[simp] theorem U5:ky 272=Ky.i (Ky.o (Ky.o (Ky.o (Ky.i (Ky.o (Ky.o (Ky.o (Ky.e)))))))):=id rfl
@[simp] theorem Sm (H:aa) (i:Nat):bC [] H i=H i:=id rfl
@[simp] theorem Qk (t i:Nat):vj (some t) i=(GT i=GT t):=id rfl
@[simp] theorem Yr {i:Nat} (h:i < 990):GT i=i:=by unfold GT;rw[if_neg (by omega)]
@[simp] theorem So (d:Option Nat) (g:Option (Nat×Bool)) (c:COp) (l:List CI) (H:aa) (i:Nat):bC (.op d g c::l) H i=if vj (CI.op d g c).wid i then none else bC l H i:=id rfl
@[simp] theorem Sn (a b:Nat) (l:List CI) (H:aa) (i:Nat):bC (.frz a b::l) H i=H i:=id rfl
@[simp] theorem Ub (dst_:Option Nat) (gd_:Option (Nat×Bool)) (x:Operand): (CI.op dst_ gd_ (.mv x)).wid=dst_:=id rfl
@[simp] theorem Ps (dst_:Option Nat) (gd_:Option (Nat×Bool)) (c:Operand) (x:Operand) (y:Operand): (CI.op dst_ gd_ (.pick c x y)).wid=dst_:=id rfl
@[simp] theorem OJ (dst_:Option Nat) (gd_:Option (Nat×Bool)) (el:Nat) (z:List Value): (CI.op dst_ gd_ (.alloc el z)).wid=dst_:=id rfl
@[simp] theorem OH (dst_:Option Nat) (gd_:Option (Nat×Bool)) (z:List Value) (parts:List (Nat×Nat×Operand)): (CI.op dst_ gd_ (.build z parts)).wid=dst_:=id rfl
@[simp] theorem Nd (dst_:Option Nat) (gd_:Option (Nat×Bool)) (el:Nat) (n:Nat) (parts:List Operand): (CI.op dst_ gd_ (.bslice el n parts)).wid=dst_:=id rfl
@[simp] theorem Pt (dst_:Option Nat) (gd_:Option (Nat×Bool)) (agg:Bool) (sz:Nat) (x:Operand): (CI.op dst_ gd_ (.load agg sz x)).wid=dst_:=id rfl
@[simp] theorem ML (d:Option Nat) (g:Option (Nat×Bool)) (r sz:Nat) (x y:Operand): (CI.op d g (.store (some r) sz x y)).wid=some r:=id rfl
@[simp] theorem OD (dst_:Option Nat) (gd_:Option (Nat×Bool)) (x:Operand): (CI.op dst_ gd_ (.nilck x)).wid=dst_:=id rfl
@[simp] theorem OI (dst_:Option Nat) (gd_:Option (Nat×Bool)) (op:BinOp) (x:Operand) (y:Operand): (CI.op dst_ gd_ (.arith op x y)).wid=dst_:=id rfl
@[simp] theorem Rs (dst_:Option Nat) (gd_:Option (Nat×Bool)) (op:BinOp) (x:Operand) (y:Operand): (CI.op dst_ gd_ (.cmp op x y)).wid=dst_:=id rfl
@[simp] theorem Ro (dst_:Option Nat) (gd_:Option (Nat×Bool)) (x:Operand): (CI.op dst_ gd_ (.not x)).wid=dst_:=id rfl
@[simp] theorem OC (dst_:Option Nat) (gd_:Option (Nat×Bool)) (n:Nat) (x:Operand) (lo:Option Operand) (hi:Option Operand): (CI.op dst_ gd_ (.slice n x lo hi)).wid=dst_:=id rfl
@[simp] theorem Nc (dst_:Option Nat) (gd_:Option (Nat×Bool)) (x:Operand) (lo:Option Operand) (hi:Option Operand): (CI.op dst_ gd_ (.sslice x lo hi)).wid=dst_:=id rfl
@[simp] theorem OF (dst_:Option Nat) (gd_:Option (Nat×Bool)) (off:Nat) (x:Operand): (CI.op dst_ gd_ (.faddr off x)).wid=dst_:=id rfl
@[simp] theorem OE (dst_:Option Nat) (gd_:Option (Nat×Bool)) (n:Nat) (x:Operand) (i:Operand): (CI.op dst_ gd_ (.iaddr n x i)).wid=dst_:=id rfl
@[simp] theorem Rr (dst_:Option Nat) (gd_:Option (Nat×Bool)) (x:Operand) (i:Nat): (CI.op dst_ gd_ (.ext x i)).wid=dst_:=id rfl
@[simp] theorem Rq (dst_:Option Nat) (gd_:Option (Nat×Bool)) (x:Operand): (CI.op dst_ gd_ (.len x)).wid=dst_:=id rfl
@[simp] theorem Pr (dst_:Option Nat) (gd_:Option (Nat×Bool)) (x:Operand): (CI.op dst_ gd_ (.slen x)).wid=dst_:=id rfl
@[simp] theorem Uc (dst_:Option Nat) (gd_:Option (Nat×Bool)) (mx:Bool) (xs:List Operand): (CI.op dst_ gd_ (.mm mx xs)).wid=dst_:=id rfl
@[simp] theorem Ll (d:Option Nat) (g:Option (Nat×Bool)) (r el n b:Nat) (x y:Operand): (CI.op d g (.append (some r) el n b x y)).wid=some r:=id rfl
@[simp] theorem Pu (dst_:Option Nat) (gd_:Option (Nat×Bool)) (f:Nat) (args:List Operand): (CI.op dst_ gd_ (.call f args)).wid=dst_:=id rfl
@[simp] theorem OG (dst_:Option Nat) (gd_:Option (Nat×Bool)) (r f:Nat) (args:List Operand): (CI.op dst_ gd_ (.callb r f args)).wid=some r:=id rfl
end Go.Gv
