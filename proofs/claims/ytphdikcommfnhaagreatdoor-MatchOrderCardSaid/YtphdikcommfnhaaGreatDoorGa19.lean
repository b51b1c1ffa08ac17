/- A part of the framework and of the walks: T13 V1. -/
import Derived.Test.YtphdikcommfnhaaGreatDoorGa18
set_option linter.unusedSimpArgs false
set_option linter.unusedVariables false

namespace Go.Gv
open Cod (enc dec)
theorem bj {X:Type} [Cod X] {x y:X} (h:enc x=enc y):x=y:=by
 have:=congrArg (dec (X:=X)) h
 simpa using this
@[simp] theorem qi0 {X:Type} [Cod X] (l l':List X): (l.map enc=l'.map enc)=(l=l'):=by
 refine propext ⟨fun h=> ?_,fun h=> h ▸rfl⟩
 induction l generalizing l' with
 | nil=> cases l' with
   | nil=> rfl
   | cons y l'=> simp at h
 | cons x l ih=> cases l' with
   | nil=> simp at h
   | cons y l'=>
     simp only[List.map_cons,List.cons.injEq] at h
     rw[bj h.1,ih _ h.2]
theorem xI {X:Type} [Cod X] {H:aa} {id n:Nat} {v:Value} {l:List X} (el:Nat) (h:H id=some (.row v el n (l.map enc))) (hn:n=Cod.wd X:=by rfl):FrzTo H (.own id v) (.list n (l.map enc)):=by
 subst hn;exact QS h
inductive Ky where
 | e
 | o (k:Ky)
 | i (k:Ky)
deriving DecidableEq
inductive Tr where
 | nil
 | nd (d:D) (l r:Tr)
def Tr.get:Tr->Ky->D
 | .nil,_=> .any
 | .nd d _ _, .e=> d
 | .nd _ l _, .o k=> l.get k
 | .nd _ _ r, .i k=> r.get k
def Tr.set:Tr->Ky->D->Tr
 | .nil, .e,x=> .nd x .nil .nil
 | .nil, .o k,x=> .nd .any (Tr.set .nil k x) .nil
 | .nil, .i k,x=> .nd .any .nil (Tr.set .nil k x)
 | .nd _ l r, .e,x=> .nd x l r
 | .nd d l r, .o k,x=> .nd d (l.set k x) r
 | .nd d l r, .i k,x=> .nd d l (r.set k x)
noncomputable def Tr.frz (id:Nat) (x:Value) (L:D):Tr->Tr
 | .nil=> .nil
 | .nd d l r=> .nd (GR id x L d) (l.frz id x L) (r.frz id x L)
def qbA:Nat->Nat->Ky
 | 0,_=> .e
 | f+1,n=> if n=0 then .e else if(n -1) % 2=0 then .o (qbA f ((n -1) /2)) else .i (qbA f ((n -1) /2))
def ky (n:Nat):Ky:=qbA n n
def Ky.val:Ky->Nat
 | .e=> 0
 | .o k=> 2*k.val+1
 | .i k=> 2*k.val+2
theorem Dk: ∀ (f n:Nat),n<=f->(qbA f n).val=n
 | 0,n,h=> by
   have:n=0:=by omega
   subst this;rfl
 | f+1,n,h=> by
   unfold qbA
   split
   ·rename_i e;subst e;rfl
   ·split
    ·simp only[Ky.val]
     rw[Dk f _ (by omega)]
     omega
    ·simp only[Ky.val]
     rw[Dk f _ (by omega)]
     omega
theorem SV {m n:Nat} (h:ky m=ky n):m=n:=by
 have h1:=Dk m m (Nat.le_refl _)
 have h2:=Dk n n (Nat.le_refl _)
 unfold ky at h
 rw[h] at h1
 exact h1.symm.trans h2
theorem vr: ∀ (T:Tr) (k j:Ky) (x:D),(T.set k x).get j=if j=k then x else T.get j
 | .nil, .e,j,x=> by cases j <;> simp[Tr.set,Tr.get]
 | .nil, .o k,j,x=> by
   have ih:=fun j=> vr .nil k j x
   cases j <;> simp[Tr.set,Tr.get,ih]
 | .nil, .i k,j,x=> by
   have ih:=fun j=> vr .nil k j x
   cases j <;> simp[Tr.set,Tr.get,ih]
 | .nd d l r, .e,j,x=> by cases j <;> simp[Tr.set,Tr.get]
 | .nd d l r, .o k,j,x=> by
   have ih:=fun j=> vr l k j x
   cases j <;> simp[Tr.set,Tr.get,ih]
 | .nd d l r, .i k,j,x=> by
   have ih:=fun j=> vr r k j x
   cases j <;> simp[Tr.set,Tr.get,ih]
def CY (T:Tr):Sg:=fun t=> T.get (ky t)
@[simp] theorem qep (T:Tr) (t:Nat):CY T t=T.get (ky t):=id rfl
@[simp] theorem qj5 (T:Tr) (t:Nat) (d:D):upd (CY T) t d=CY (T.set (ky t) d):=by
 funext s
 simp only[upd,CY,vr]
 by_cases h:s=t
 ·simp[h]
 ·have: ¬ky s=ky t:=fun e=> h (SV e)
  simp[h,this]
theorem To:CY .nil=fun _=> .any:=by
 funext t
 simp[CY,Tr.get]
@[simp] theorem qiq (σ:Sg):iM [] σ=CY .nil:=by rw[To];rfl
@[simp] theorem qee (t:Nat) (l:List Nat) (σ:Sg):iM (t::l) σ=upd (iM l σ) t (σ t):=id rfl
@[simp] theorem qjM (σ:Sg):qg [] σ=σ:=id rfl
@[simp] theorem qfB (t:Nat) (d:D) (l:List (Nat×D)) (σ:Sg):qg ((t,d)::l) σ=upd (qg l σ) t d:=id rfl
def Ci:Nat->List D->Tr
 | _, []=> .nil
 | n,d::l=> (Ci (n+1) l).set (ky n) d
@[simp] theorem qab (n:Nat):Ci n []= .nil:=id rfl
@[simp] theorem YX (n:Nat) (d:D) (l:List D):Ci n (d::l)=(Ci (n+1) l).set (ky n) d:=id rfl
theorem HF: ∀ (l:List D) (n t:Nat),(Ci n l).get (ky t)=if n<=t then(l[t -n]?).getD .any else .any
 | [],n,t=> by simp[Ci,Tr.get]
 | d::l,n,t=> by
   rw[Ci,vr,HF l (n+1) t]
   by_cases h:t=n
   ·subst h;simp
   ·have: ¬ky t=ky n:=fun e=> h (SV e)
    rw[if_neg this]
    by_cases h2:n+1<=t
    ·have h3:n<=t:=by omega
     rw[if_pos h2,if_pos h3]
     have:t -n=(t - (n+1)) +1:=by omega
     rw[this];simp
    ·have h3: ¬n<=t:=by omega
     rw[if_neg h2,if_neg h3]
@[simp] theorem qiz (l:List D):fY l=CY (Ci 0 l):=by
 funext t
 simp[fY,CY,HF]
@[simp] theorem qmc (id:Nat) (x:Value) (L:D) (T:Tr):QT id x L (CY T)=CY (T.frz id x L):=by
 funext t
 simp only[QT,CY]
 generalize ky t=k
 induction T generalizing k with
 | nil=> simp[Tr.frz,Tr.get,GR]
 | nd d l r ihl ihr=>
   cases k with
   | e=> rfl
   | o k=> exact ihl k
   | i k=> exact ihr k
@[simp] theorem qbN (id:Nat) (x:Value) (L:D):Tr.nil.frz id x L= .nil:=_root_.id rfl
@[simp] theorem qes (id:Nat) (x:Value) (L d:D) (l r:Tr): (Tr.nd d l r).frz id x L= .nd (GR id x L d) (l.frz id x L) (r.frz id x L):=_root_.id rfl
@[simp] theorem qmP (d:D) (l r:Tr): (Tr.nd d l r).get .e=d:=id rfl
@[simp] theorem qmN (d:D) (l r:Tr) (k:Ky): (Tr.nd d l r).get (.o k)=l.get k:=id rfl
@[simp] theorem qmO (d:D) (l r:Tr) (k:Ky): (Tr.nd d l r).get (.i k)=r.get k:=id rfl
@[simp] theorem qj9 (x:D):Tr.nil.set .e x= .nd x .nil .nil:=id rfl
@[simp] theorem qj7 (k:Ky) (x:D):Tr.nil.set (.o k) x= .nd .any (Tr.set .nil k x) .nil:=id rfl
@[simp] theorem qj8 (k:Ky) (x:D):Tr.nil.set (.i k) x= .nd .any .nil (Tr.set .nil k x):=id rfl
@[simp] theorem qmM (d:D) (l r:Tr) (x:D): (Tr.nd d l r).set .e x= .nd x l r:=id rfl
@[simp] theorem qmK (d:D) (l r:Tr) (k:Ky) (x:D): (Tr.nd d l r).set (.o k) x= .nd d (l.set k x) r:=id rfl
@[simp] theorem qmL (d:D) (l r:Tr) (k:Ky) (x:D): (Tr.nd d l r).set (.i k) x= .nd d l (r.set k x):=id rfl
@[simp] theorem qnc:ky 0=Ky.e:=id rfl
@[simp] theorem qnb:ky 1=Ky.o (Ky.e):=id rfl
@[simp] theorem qna:ky 2=Ky.i (Ky.e):=id rfl
@[simp] theorem qm9:ky 3=Ky.o (Ky.o (Ky.e)):=id rfl
@[simp] theorem qm8:ky 4=Ky.i (Ky.o (Ky.e)):=id rfl
@[simp] theorem qm7:ky 5=Ky.o (Ky.i (Ky.e)):=id rfl
@[simp] theorem qm6:ky 6=Ky.i (Ky.i (Ky.e)):=id rfl
@[simp] theorem qm5:ky 7=Ky.o (Ky.o (Ky.o (Ky.e))):=id rfl
@[simp] theorem qm4:ky 8=Ky.i (Ky.o (Ky.o (Ky.e))):=id rfl
@[simp] theorem qm3:ky 9=Ky.o (Ky.i (Ky.o (Ky.e))):=id rfl
@[simp] theorem ql5:ky 10=Ky.i (Ky.i (Ky.o (Ky.e))):=id rfl
@[simp] theorem ql4:ky 11=Ky.o (Ky.o (Ky.i (Ky.e))):=id rfl
@[simp] theorem ql3:ky 12=Ky.i (Ky.o (Ky.i (Ky.e))):=id rfl
@[simp] theorem ql2:ky 13=Ky.o (Ky.i (Ky.i (Ky.e))):=id rfl
@[simp] theorem ql1:ky 14=Ky.i (Ky.i (Ky.i (Ky.e))):=id rfl
@[simp] theorem ql0:ky 15=Ky.o (Ky.o (Ky.o (Ky.o (Ky.e)))):=id rfl
@[simp] theorem qlZ:ky 16=Ky.i (Ky.o (Ky.o (Ky.o (Ky.e)))):=id rfl
@[simp] theorem qlY:ky 17=Ky.o (Ky.i (Ky.o (Ky.o (Ky.e)))):=id rfl
@[simp] theorem qlX:ky 18=Ky.i (Ky.i (Ky.o (Ky.o (Ky.e)))):=id rfl
@[simp] theorem qlW:ky 19=Ky.o (Ky.o (Ky.i (Ky.o (Ky.e)))):=id rfl
@[simp] theorem qlV:ky 20=Ky.i (Ky.o (Ky.i (Ky.o (Ky.e)))):=id rfl
@[simp] theorem qlU:ky 21=Ky.o (Ky.i (Ky.i (Ky.o (Ky.e)))):=id rfl
@[simp] theorem qlT:ky 22=Ky.i (Ky.i (Ky.i (Ky.o (Ky.e)))):=id rfl
@[simp] theorem qlS:ky 23=Ky.o (Ky.o (Ky.o (Ky.i (Ky.e)))):=id rfl
@[simp] theorem qlR:ky 24=Ky.i (Ky.o (Ky.o (Ky.i (Ky.e)))):=id rfl
@[simp] theorem qlQ:ky 25=Ky.o (Ky.i (Ky.o (Ky.i (Ky.e)))):=id rfl
@[simp] theorem qlP:ky 26=Ky.i (Ky.i (Ky.o (Ky.i (Ky.e)))):=id rfl
@[simp] theorem qlO:ky 27=Ky.o (Ky.o (Ky.i (Ky.i (Ky.e)))):=id rfl
@[simp] theorem qlN:ky 28=Ky.i (Ky.o (Ky.i (Ky.i (Ky.e)))):=id rfl
@[simp] theorem qlM:ky 29=Ky.o (Ky.i (Ky.i (Ky.i (Ky.e)))):=id rfl
@[simp] theorem qlL:ky 30=Ky.i (Ky.i (Ky.i (Ky.i (Ky.e)))):=id rfl
@[simp] theorem qlK:ky 31=Ky.o (Ky.o (Ky.o (Ky.o (Ky.o (Ky.e))))):=id rfl
@[simp] theorem qlJ:ky 32=Ky.i (Ky.o (Ky.o (Ky.o (Ky.o (Ky.e))))):=id rfl
@[simp] theorem qlI:ky 33=Ky.o (Ky.i (Ky.o (Ky.o (Ky.o (Ky.e))))):=id rfl
@[simp] theorem qlH:ky 34=Ky.i (Ky.i (Ky.o (Ky.o (Ky.o (Ky.e))))):=id rfl
@[simp] theorem qlG:ky 35=Ky.o (Ky.o (Ky.i (Ky.o (Ky.o (Ky.e))))):=id rfl
@[simp] theorem qlF:ky 36=Ky.i (Ky.o (Ky.i (Ky.o (Ky.o (Ky.e))))):=id rfl
@[simp] theorem qlE:ky 37=Ky.o (Ky.i (Ky.i (Ky.o (Ky.o (Ky.e))))):=id rfl
@[simp] theorem qlD:ky 38=Ky.i (Ky.i (Ky.i (Ky.o (Ky.o (Ky.e))))):=id rfl
@[simp] theorem qlC:ky 39=Ky.o (Ky.o (Ky.o (Ky.i (Ky.o (Ky.e))))):=id rfl
@[simp] theorem qlB:ky 40=Ky.i (Ky.o (Ky.o (Ky.i (Ky.o (Ky.e))))):=id rfl
@[simp] theorem qlA:ky 41=Ky.o (Ky.i (Ky.o (Ky.i (Ky.o (Ky.e))))):=id rfl
@[simp] theorem qlz:ky 42=Ky.i (Ky.i (Ky.o (Ky.i (Ky.o (Ky.e))))):=id rfl
@[simp] theorem qly:ky 43=Ky.o (Ky.o (Ky.i (Ky.i (Ky.o (Ky.e))))):=id rfl
@[simp] theorem qlx:ky 44=Ky.i (Ky.o (Ky.i (Ky.i (Ky.o (Ky.e))))):=id rfl
@[simp] theorem qlw:ky 45=Ky.o (Ky.i (Ky.i (Ky.i (Ky.o (Ky.e))))):=id rfl
@[simp] theorem qlv:ky 46=Ky.i (Ky.i (Ky.i (Ky.i (Ky.o (Ky.e))))):=id rfl
@[simp] theorem qlu:ky 47=Ky.o (Ky.o (Ky.o (Ky.o (Ky.i (Ky.e))))):=id rfl
@[simp] theorem qlt:ky 48=Ky.i (Ky.o (Ky.o (Ky.o (Ky.i (Ky.e))))):=id rfl
@[simp] theorem qls:ky 49=Ky.o (Ky.i (Ky.o (Ky.o (Ky.i (Ky.e))))):=id rfl
@[simp] theorem qlr:ky 50=Ky.i (Ky.i (Ky.o (Ky.o (Ky.i (Ky.e))))):=id rfl
@[simp] theorem qlq:ky 51=Ky.o (Ky.o (Ky.i (Ky.o (Ky.i (Ky.e))))):=id rfl
@[simp] theorem qlp:ky 52=Ky.i (Ky.o (Ky.i (Ky.o (Ky.i (Ky.e))))):=id rfl
@[simp] theorem qlo:ky 53=Ky.o (Ky.i (Ky.i (Ky.o (Ky.i (Ky.e))))):=id rfl
@[simp] theorem qln:ky 54=Ky.i (Ky.i (Ky.i (Ky.o (Ky.i (Ky.e))))):=id rfl
@[simp] theorem qlm:ky 55=Ky.o (Ky.o (Ky.o (Ky.i (Ky.i (Ky.e))))):=id rfl
@[simp] theorem qll:ky 56=Ky.i (Ky.o (Ky.o (Ky.i (Ky.i (Ky.e))))):=id rfl
@[simp] theorem qlk:ky 57=Ky.o (Ky.i (Ky.o (Ky.i (Ky.i (Ky.e))))):=id rfl
@[simp] theorem qlj:ky 58=Ky.i (Ky.i (Ky.o (Ky.i (Ky.i (Ky.e))))):=id rfl
@[simp] theorem qli:ky 59=Ky.o (Ky.o (Ky.i (Ky.i (Ky.i (Ky.e))))):=id rfl
@[simp] theorem qlh:ky 60=Ky.i (Ky.o (Ky.i (Ky.i (Ky.i (Ky.e))))):=id rfl
@[simp] theorem qlg:ky 61=Ky.o (Ky.i (Ky.i (Ky.i (Ky.i (Ky.e))))):=id rfl
@[simp] theorem qlf:ky 62=Ky.i (Ky.i (Ky.i (Ky.i (Ky.i (Ky.e))))):=id rfl
@[simp] theorem qle:ky 63=Ky.o (Ky.o (Ky.o (Ky.o (Ky.o (Ky.o (Ky.e)))))):=id rfl
@[simp] theorem qld:ky 64=Ky.i (Ky.o (Ky.o (Ky.o (Ky.o (Ky.o (Ky.e)))))):=id rfl
@[simp] theorem qlc:ky 65=Ky.o (Ky.i (Ky.o (Ky.o (Ky.o (Ky.o (Ky.e)))))):=id rfl
@[simp] theorem qlb:ky 66=Ky.i (Ky.i (Ky.o (Ky.o (Ky.o (Ky.o (Ky.e)))))):=id rfl
@[simp] theorem qla:ky 67=Ky.o (Ky.o (Ky.i (Ky.o (Ky.o (Ky.o (Ky.e)))))):=id rfl
@[simp] theorem qk9:ky 68=Ky.i (Ky.o (Ky.i (Ky.o (Ky.o (Ky.o (Ky.e)))))):=id rfl
@[simp] theorem qk8:ky 69=Ky.o (Ky.i (Ky.i (Ky.o (Ky.o (Ky.o (Ky.e)))))):=id rfl
@[simp] theorem qk7:ky 70=Ky.i (Ky.i (Ky.i (Ky.o (Ky.o (Ky.o (Ky.e)))))):=id rfl
@[simp] theorem qk6:ky 71=Ky.o (Ky.o (Ky.o (Ky.i (Ky.o (Ky.o (Ky.e)))))):=id rfl
@[simp] theorem qk5:ky 72=Ky.i (Ky.o (Ky.o (Ky.i (Ky.o (Ky.o (Ky.e)))))):=id rfl
@[simp] theorem qk4:ky 73=Ky.o (Ky.i (Ky.o (Ky.i (Ky.o (Ky.o (Ky.e)))))):=id rfl
@[simp] theorem qk3:ky 74=Ky.i (Ky.i (Ky.o (Ky.i (Ky.o (Ky.o (Ky.e)))))):=id rfl
@[simp] theorem qk2:ky 75=Ky.o (Ky.o (Ky.i (Ky.i (Ky.o (Ky.o (Ky.e)))))):=id rfl
@[simp] theorem qk1:ky 76=Ky.i (Ky.o (Ky.i (Ky.i (Ky.o (Ky.o (Ky.e)))))):=id rfl
@[simp] theorem qk0:ky 77=Ky.o (Ky.i (Ky.i (Ky.i (Ky.o (Ky.o (Ky.e)))))):=id rfl
@[simp] theorem qkZ:ky 78=Ky.i (Ky.i (Ky.i (Ky.i (Ky.o (Ky.o (Ky.e)))))):=id rfl
@[simp] theorem qkY:ky 79=Ky.o (Ky.o (Ky.o (Ky.o (Ky.i (Ky.o (Ky.e)))))):=id rfl
@[simp] theorem qkX:ky 80=Ky.i (Ky.o (Ky.o (Ky.o (Ky.i (Ky.o (Ky.e)))))):=id rfl
@[simp] theorem qkW:ky 81=Ky.o (Ky.i (Ky.o (Ky.o (Ky.i (Ky.o (Ky.e)))))):=id rfl
@[simp] theorem qkV:ky 82=Ky.i (Ky.i (Ky.o (Ky.o (Ky.i (Ky.o (Ky.e)))))):=id rfl
@[simp] theorem qkU:ky 83=Ky.o (Ky.o (Ky.i (Ky.o (Ky.i (Ky.o (Ky.e)))))):=id rfl
@[simp] theorem qkT:ky 84=Ky.i (Ky.o (Ky.i (Ky.o (Ky.i (Ky.o (Ky.e)))))):=id rfl
@[simp] theorem qkS:ky 85=Ky.o (Ky.i (Ky.i (Ky.o (Ky.i (Ky.o (Ky.e)))))):=id rfl
@[simp] theorem qkR:ky 86=Ky.i (Ky.i (Ky.i (Ky.o (Ky.i (Ky.o (Ky.e)))))):=id rfl
@[simp] theorem qkQ:ky 87=Ky.o (Ky.o (Ky.o (Ky.i (Ky.i (Ky.o (Ky.e)))))):=id rfl
@[simp] theorem qkP:ky 88=Ky.i (Ky.o (Ky.o (Ky.i (Ky.i (Ky.o (Ky.e)))))):=id rfl
@[simp] theorem qkO:ky 89=Ky.o (Ky.i (Ky.o (Ky.i (Ky.i (Ky.o (Ky.e)))))):=id rfl
@[simp] theorem qkN:ky 90=Ky.i (Ky.i (Ky.o (Ky.i (Ky.i (Ky.o (Ky.e)))))):=id rfl
@[simp] theorem qkM:ky 91=Ky.o (Ky.o (Ky.i (Ky.i (Ky.i (Ky.o (Ky.e)))))):=id rfl
@[simp] theorem qkL:ky 92=Ky.i (Ky.o (Ky.i (Ky.i (Ky.i (Ky.o (Ky.e)))))):=id rfl
@[simp] theorem qkK:ky 93=Ky.o (Ky.i (Ky.i (Ky.i (Ky.i (Ky.o (Ky.e)))))):=id rfl
@[simp] theorem qkJ:ky 94=Ky.i (Ky.i (Ky.i (Ky.i (Ky.i (Ky.o (Ky.e)))))):=id rfl
@[simp] theorem qkI:ky 95=Ky.o (Ky.o (Ky.o (Ky.o (Ky.o (Ky.i (Ky.e)))))):=id rfl
@[simp] theorem qkH:ky 96=Ky.i (Ky.o (Ky.o (Ky.o (Ky.o (Ky.i (Ky.e)))))):=id rfl
@[simp] theorem qkG:ky 97=Ky.o (Ky.i (Ky.o (Ky.o (Ky.o (Ky.i (Ky.e)))))):=id rfl
@[simp] theorem qkF:ky 98=Ky.i (Ky.i (Ky.o (Ky.o (Ky.o (Ky.i (Ky.e)))))):=id rfl
@[simp] theorem qkE:ky 99=Ky.o (Ky.o (Ky.i (Ky.o (Ky.o (Ky.i (Ky.e)))))):=id rfl
@[simp] theorem qij:ky 100=Ky.i (Ky.o (Ky.i (Ky.o (Ky.o (Ky.i (Ky.e)))))):=id rfl
@[simp] theorem qii:ky 101=Ky.o (Ky.i (Ky.i (Ky.o (Ky.o (Ky.i (Ky.e)))))):=id rfl
@[simp] theorem qih:ky 102=Ky.i (Ky.i (Ky.i (Ky.o (Ky.o (Ky.i (Ky.e)))))):=id rfl
@[simp] theorem qig:ky 103=Ky.o (Ky.o (Ky.o (Ky.i (Ky.o (Ky.i (Ky.e)))))):=id rfl
@[simp] theorem qif:ky 104=Ky.i (Ky.o (Ky.o (Ky.i (Ky.o (Ky.i (Ky.e)))))):=id rfl
@[simp] theorem qie:ky 105=Ky.o (Ky.i (Ky.o (Ky.i (Ky.o (Ky.i (Ky.e)))))):=id rfl
@[simp] theorem qid:ky 106=Ky.i (Ky.i (Ky.o (Ky.i (Ky.o (Ky.i (Ky.e)))))):=id rfl
@[simp] theorem qic:ky 107=Ky.o (Ky.o (Ky.i (Ky.i (Ky.o (Ky.i (Ky.e)))))):=id rfl
@[simp] theorem qib:ky 108=Ky.i (Ky.o (Ky.i (Ky.i (Ky.o (Ky.i (Ky.e)))))):=id rfl
@[simp] theorem qia:ky 109=Ky.o (Ky.i (Ky.i (Ky.i (Ky.o (Ky.i (Ky.e)))))):=id rfl
@[simp] theorem qh9:ky 110=Ky.i (Ky.i (Ky.i (Ky.i (Ky.o (Ky.i (Ky.e)))))):=id rfl
@[simp] theorem qh8:ky 111=Ky.o (Ky.o (Ky.o (Ky.o (Ky.i (Ky.i (Ky.e)))))):=id rfl
@[simp] theorem qh7:ky 112=Ky.i (Ky.o (Ky.o (Ky.o (Ky.i (Ky.i (Ky.e)))))):=id rfl
@[simp] theorem qh6:ky 113=Ky.o (Ky.i (Ky.o (Ky.o (Ky.i (Ky.i (Ky.e)))))):=id rfl
@[simp] theorem qh5:ky 114=Ky.i (Ky.i (Ky.o (Ky.o (Ky.i (Ky.i (Ky.e)))))):=id rfl
@[simp] theorem qh4:ky 115=Ky.o (Ky.o (Ky.i (Ky.o (Ky.i (Ky.i (Ky.e)))))):=id rfl
@[simp] theorem qh3:ky 116=Ky.i (Ky.o (Ky.i (Ky.o (Ky.i (Ky.i (Ky.e)))))):=id rfl
@[simp] theorem qh2:ky 117=Ky.o (Ky.i (Ky.i (Ky.o (Ky.i (Ky.i (Ky.e)))))):=id rfl
@[simp] theorem qh1:ky 118=Ky.i (Ky.i (Ky.i (Ky.o (Ky.i (Ky.i (Ky.e)))))):=id rfl
@[simp] theorem qh0:ky 119=Ky.o (Ky.o (Ky.o (Ky.i (Ky.i (Ky.i (Ky.e)))))):=id rfl
@[simp] theorem qhZ:ky 120=Ky.i (Ky.o (Ky.o (Ky.i (Ky.i (Ky.i (Ky.e)))))):=id rfl
@[simp] theorem qhY:ky 121=Ky.o (Ky.i (Ky.o (Ky.i (Ky.i (Ky.i (Ky.e)))))):=id rfl
@[simp] theorem qhX:ky 122=Ky.i (Ky.i (Ky.o (Ky.i (Ky.i (Ky.i (Ky.e)))))):=id rfl
@[simp] theorem qhW:ky 123=Ky.o (Ky.o (Ky.i (Ky.i (Ky.i (Ky.i (Ky.e)))))):=id rfl
@[simp] theorem qhV:ky 124=Ky.i (Ky.o (Ky.i (Ky.i (Ky.i (Ky.i (Ky.e)))))):=id rfl
@[simp] theorem qhU:ky 125=Ky.o (Ky.i (Ky.i (Ky.i (Ky.i (Ky.i (Ky.e)))))):=id rfl
@[simp] theorem qhT:ky 126=Ky.i (Ky.i (Ky.i (Ky.i (Ky.i (Ky.i (Ky.e)))))):=id rfl
@[simp] theorem qhS:ky 148=Ky.i (Ky.o (Ky.i (Ky.o (Ky.i (Ky.o (Ky.o (Ky.e))))))):=id rfl
@[simp] theorem qhR:ky 149=Ky.o (Ky.i (Ky.i (Ky.o (Ky.i (Ky.o (Ky.o (Ky.e))))))):=id rfl
@[simp] theorem qhQ:ky 150=Ky.i (Ky.i (Ky.i (Ky.o (Ky.i (Ky.o (Ky.o (Ky.e))))))):=id rfl
@[simp] theorem qhP:ky 151=Ky.o (Ky.o (Ky.o (Ky.i (Ky.i (Ky.o (Ky.o (Ky.e))))))):=id rfl
@[simp] theorem qhO:ky 152=Ky.i (Ky.o (Ky.o (Ky.i (Ky.i (Ky.o (Ky.o (Ky.e))))))):=id rfl
@[simp] theorem qhN:ky 153=Ky.o (Ky.i (Ky.o (Ky.i (Ky.i (Ky.o (Ky.o (Ky.e))))))):=id rfl
@[simp] theorem qhM:ky 154=Ky.i (Ky.i (Ky.o (Ky.i (Ky.i (Ky.o (Ky.o (Ky.e))))))):=id rfl
@[simp] theorem qhL:ky 155=Ky.o (Ky.o (Ky.i (Ky.i (Ky.i (Ky.o (Ky.o (Ky.e))))))):=id rfl
@[simp] theorem qhK:ky 156=Ky.i (Ky.o (Ky.i (Ky.i (Ky.i (Ky.o (Ky.o (Ky.e))))))):=id rfl
@[simp] theorem qhJ:ky 157=Ky.o (Ky.i (Ky.i (Ky.i (Ky.i (Ky.o (Ky.o (Ky.e))))))):=id rfl
@[simp] theorem qhI:ky 158=Ky.i (Ky.i (Ky.i (Ky.i (Ky.i (Ky.o (Ky.o (Ky.e))))))):=id rfl
@[simp] theorem qhH:ky 159=Ky.o (Ky.o (Ky.o (Ky.o (Ky.o (Ky.i (Ky.o (Ky.e))))))):=id rfl
@[simp] theorem qhG:ky 160=Ky.i (Ky.o (Ky.o (Ky.o (Ky.o (Ky.i (Ky.o (Ky.e))))))):=id rfl
@[simp] theorem qhF:ky 161=Ky.o (Ky.i (Ky.o (Ky.o (Ky.o (Ky.i (Ky.o (Ky.e))))))):=id rfl
@[simp] theorem qhE:ky 162=Ky.i (Ky.i (Ky.o (Ky.o (Ky.o (Ky.i (Ky.o (Ky.e))))))):=id rfl
@[simp] theorem qhD:ky 163=Ky.o (Ky.o (Ky.i (Ky.o (Ky.o (Ky.i (Ky.o (Ky.e))))))):=id rfl
@[simp] theorem qhC:ky 164=Ky.i (Ky.o (Ky.i (Ky.o (Ky.o (Ky.i (Ky.o (Ky.e))))))):=id rfl
@[simp] theorem qhB:ky 165=Ky.o (Ky.i (Ky.i (Ky.o (Ky.o (Ky.i (Ky.o (Ky.e))))))):=id rfl
@[simp] theorem qhA:ky 166=Ky.i (Ky.i (Ky.i (Ky.o (Ky.o (Ky.i (Ky.o (Ky.e))))))):=id rfl
@[simp] theorem qhz:ky 167=Ky.o (Ky.o (Ky.o (Ky.i (Ky.o (Ky.i (Ky.o (Ky.e))))))):=id rfl
@[simp] theorem qhy:ky 168=Ky.i (Ky.o (Ky.o (Ky.i (Ky.o (Ky.i (Ky.o (Ky.e))))))):=id rfl
@[simp] theorem qhx:ky 169=Ky.o (Ky.i (Ky.o (Ky.i (Ky.o (Ky.i (Ky.o (Ky.e))))))):=id rfl
@[simp] theorem qhw:ky 170=Ky.i (Ky.i (Ky.o (Ky.i (Ky.o (Ky.i (Ky.o (Ky.e))))))):=id rfl
@[simp] theorem qhv:ky 171=Ky.o (Ky.o (Ky.i (Ky.i (Ky.o (Ky.i (Ky.o (Ky.e))))))):=id rfl
@[simp] theorem qhu:ky 172=Ky.i (Ky.o (Ky.i (Ky.i (Ky.o (Ky.i (Ky.o (Ky.e))))))):=id rfl
@[simp] theorem qht:ky 173=Ky.o (Ky.i (Ky.i (Ky.i (Ky.o (Ky.i (Ky.o (Ky.e))))))):=id rfl
@[simp] theorem qhs:ky 174=Ky.i (Ky.i (Ky.i (Ky.i (Ky.o (Ky.i (Ky.o (Ky.e))))))):=id rfl
@[simp] theorem qhr:ky 175=Ky.o (Ky.o (Ky.o (Ky.o (Ky.i (Ky.i (Ky.o (Ky.e))))))):=id rfl
@[simp] theorem qhq:ky 176=Ky.i (Ky.o (Ky.o (Ky.o (Ky.i (Ky.i (Ky.o (Ky.e))))))):=id rfl
@[simp] theorem qhp:ky 177=Ky.o (Ky.i (Ky.o (Ky.o (Ky.i (Ky.i (Ky.o (Ky.e))))))):=id rfl
@[simp] theorem qho:ky 178=Ky.i (Ky.i (Ky.o (Ky.o (Ky.i (Ky.i (Ky.o (Ky.e))))))):=id rfl
@[simp] theorem qhn:ky 179=Ky.o (Ky.o (Ky.i (Ky.o (Ky.i (Ky.i (Ky.o (Ky.e))))))):=id rfl
@[simp] theorem qhm:ky 180=Ky.i (Ky.o (Ky.i (Ky.o (Ky.i (Ky.i (Ky.o (Ky.e))))))):=id rfl
@[simp] theorem qhl:ky 181=Ky.o (Ky.i (Ky.i (Ky.o (Ky.i (Ky.i (Ky.o (Ky.e))))))):=id rfl
@[simp] theorem qhk:ky 182=Ky.i (Ky.i (Ky.i (Ky.o (Ky.i (Ky.i (Ky.o (Ky.e))))))):=id rfl
@[simp] theorem qhj:ky 183=Ky.o (Ky.o (Ky.o (Ky.i (Ky.i (Ky.i (Ky.o (Ky.e))))))):=id rfl
@[simp] theorem qhi:ky 184=Ky.i (Ky.o (Ky.o (Ky.i (Ky.i (Ky.i (Ky.o (Ky.e))))))):=id rfl
@[simp] theorem qhh:ky 185=Ky.o (Ky.i (Ky.o (Ky.i (Ky.i (Ky.i (Ky.o (Ky.e))))))):=id rfl
@[simp] theorem qhg:ky 186=Ky.i (Ky.i (Ky.o (Ky.i (Ky.i (Ky.i (Ky.o (Ky.e))))))):=id rfl
@[simp] theorem qhf:ky 187=Ky.o (Ky.o (Ky.i (Ky.i (Ky.i (Ky.i (Ky.o (Ky.e))))))):=id rfl
@[simp] theorem qhe:ky 188=Ky.i (Ky.o (Ky.i (Ky.i (Ky.i (Ky.i (Ky.o (Ky.e))))))):=id rfl
@[simp] theorem qhd:ky 189=Ky.o (Ky.i (Ky.i (Ky.i (Ky.i (Ky.i (Ky.o (Ky.e))))))):=id rfl
@[simp] theorem qhc:ky 190=Ky.i (Ky.i (Ky.i (Ky.i (Ky.i (Ky.i (Ky.o (Ky.e))))))):=id rfl
@[simp] theorem qhb:ky 191=Ky.o (Ky.o (Ky.o (Ky.o (Ky.o (Ky.o (Ky.i (Ky.e))))))):=id rfl
@[simp] theorem qha:ky 192=Ky.i (Ky.o (Ky.o (Ky.o (Ky.o (Ky.o (Ky.i (Ky.e))))))):=id rfl
@[simp] theorem qg9:ky 193=Ky.o (Ky.i (Ky.o (Ky.o (Ky.o (Ky.o (Ky.i (Ky.e))))))):=id rfl
@[simp] theorem qg8:ky 194=Ky.i (Ky.i (Ky.o (Ky.o (Ky.o (Ky.o (Ky.i (Ky.e))))))):=id rfl
@[simp] theorem qg7:ky 195=Ky.o (Ky.o (Ky.i (Ky.o (Ky.o (Ky.o (Ky.i (Ky.e))))))):=id rfl
@[simp] theorem qg6:ky 196=Ky.i (Ky.o (Ky.i (Ky.o (Ky.o (Ky.o (Ky.i (Ky.e))))))):=id rfl
@[simp] theorem qg5:ky 197=Ky.o (Ky.i (Ky.i (Ky.o (Ky.o (Ky.o (Ky.i (Ky.e))))))):=id rfl
@[simp] theorem qg4:ky 198=Ky.i (Ky.i (Ky.i (Ky.o (Ky.o (Ky.o (Ky.i (Ky.e))))))):=id rfl
@[simp] theorem qg3:ky 199=Ky.o (Ky.o (Ky.o (Ky.i (Ky.o (Ky.o (Ky.i (Ky.e))))))):=id rfl
@[simp] theorem qg2:ky 200=Ky.i (Ky.o (Ky.o (Ky.i (Ky.o (Ky.o (Ky.i (Ky.e))))))):=id rfl
@[simp] theorem qg1:ky 201=Ky.o (Ky.i (Ky.o (Ky.i (Ky.o (Ky.o (Ky.i (Ky.e))))))):=id rfl
@[simp] theorem qdY (H:aa) (i:Nat):bS [] H i=H i:=id rfl
@[simp] theorem qbH (t i:Nat):Al (some t) i=(Mg i=Mg t):=id rfl
@[simp] theorem qiD {i:Nat} (h:i < 990):Mg i=i:=by unfold Mg;rw[if_neg (by omega)]
@[simp] theorem qeo {i:Nat} (h:990<=i) (h':i < 1000):Mg i=0:=by unfold Mg;rw[if_pos ⟨h,h'⟩]
@[simp] theorem qd0 (d:Option Nat) (g:Option (Nat×Bool)) (c:COp) (l:List CI) (H:aa) (i:Nat):bS (.op d g c::l) H i=if Al (CI.op d g c).wid i then none else bS l H i:=id rfl
@[simp] theorem qdZ (a b:Nat) (l:List CI) (H:aa) (i:Nat):bS (.frz a b::l) H i=H i:=id rfl
@[simp] theorem qfL (dst_:Option Nat) (gd_:Option (Nat×Bool)) (x:Operand): (CI.op dst_ gd_ (.mv x)).wid=dst_:=id rfl
@[simp] theorem qaD (dst_:Option Nat) (gd_:Option (Nat×Bool)) (c:Operand) (x:Operand) (y:Operand): (CI.op dst_ gd_ (.pick c x y)).wid=dst_:=id rfl
@[simp] theorem ZU (dst_:Option Nat) (gd_:Option (Nat×Bool)) (el:Nat) (z:List Value): (CI.op dst_ gd_ (.alloc el z)).wid=dst_:=id rfl
@[simp] theorem ZS (dst_:Option Nat) (gd_:Option (Nat×Bool)) (z:List Value) (parts:List (Nat×Nat×Operand)): (CI.op dst_ gd_ (.build z parts)).wid=dst_:=id rfl
@[simp] theorem XU (dst_:Option Nat) (gd_:Option (Nat×Bool)) (el:Nat) (n:Nat) (parts:List Operand): (CI.op dst_ gd_ (.bslice el n parts)).wid=dst_:=id rfl
@[simp] theorem qaE (dst_:Option Nat) (gd_:Option (Nat×Bool)) (agg:Bool) (sz:Nat) (x:Operand): (CI.op dst_ gd_ (.load agg sz x)).wid=dst_:=id rfl
@[simp] theorem Xn (d:Option Nat) (g:Option (Nat×Bool)) (r sz:Nat) (x y:Operand): (CI.op d g (.store (some r) sz x y)).wid=some r:=id rfl
@[simp] theorem ZO (dst_:Option Nat) (gd_:Option (Nat×Bool)) (x:Operand): (CI.op dst_ gd_ (.nilck x)).wid=dst_:=id rfl
@[simp] theorem ZT (dst_:Option Nat) (gd_:Option (Nat×Bool)) (op:BinOp) (x:Operand) (y:Operand): (CI.op dst_ gd_ (.arith op x y)).wid=dst_:=id rfl
@[simp] theorem qcW (dst_:Option Nat) (gd_:Option (Nat×Bool)) (op:BinOp) (x:Operand) (y:Operand): (CI.op dst_ gd_ (.cmp op x y)).wid=dst_:=id rfl
@[simp] theorem XT (dst_:Option Nat) (gd_:Option (Nat×Bool)) (x:Operand) (lo:Option Operand) (hi:Option Operand): (CI.op dst_ gd_ (.sslice x lo hi)).wid=dst_:=id rfl
@[simp] theorem ZQ (dst_:Option Nat) (gd_:Option (Nat×Bool)) (off:Nat) (x:Operand): (CI.op dst_ gd_ (.faddr off x)).wid=dst_:=id rfl
@[simp] theorem ZP (dst_:Option Nat) (gd_:Option (Nat×Bool)) (n:Nat) (x:Operand) (i:Operand): (CI.op dst_ gd_ (.iaddr n x i)).wid=dst_:=id rfl
@[simp] theorem qcV (dst_:Option Nat) (gd_:Option (Nat×Bool)) (x:Operand) (i:Nat): (CI.op dst_ gd_ (.ext x i)).wid=dst_:=id rfl
@[simp] theorem qcU (dst_:Option Nat) (gd_:Option (Nat×Bool)) (x:Operand): (CI.op dst_ gd_ (.len x)).wid=dst_:=id rfl
@[simp] theorem qaC (dst_:Option Nat) (gd_:Option (Nat×Bool)) (x:Operand): (CI.op dst_ gd_ (.slen x)).wid=dst_:=id rfl
@[simp] theorem qfM (dst_:Option Nat) (gd_:Option (Nat×Bool)) (mx:Bool) (xs:List Operand): (CI.op dst_ gd_ (.mm mx xs)).wid=dst_:=id rfl
@[simp] theorem qaF (dst_:Option Nat) (gd_:Option (Nat×Bool)) (f:Nat) (args:List Operand): (CI.op dst_ gd_ (.call f args)).wid=dst_:=id rfl
@[simp] theorem ZR (dst_:Option Nat) (gd_:Option (Nat×Bool)) (r f:Nat) (args:List Operand): (CI.op dst_ gd_ (.callb r f args)).wid=some r:=id rfl
end Go.Gv

namespace Go.Gv
open Cod (enc dec)
abbrev B:=ByteArray
structure I32 where
 val:Int
deriving DecidableEq
instance:Cod I32 where
 wd:=1
 enc n:= .v (.int .i32 n.val)
 dec | .v (.int .i32 n)=> some ⟨n⟩ | _=> none
 kn _:=rfl
 wid _:=rfl
 dec_enc _:=rfl
 le d x h:=by
  split at h
  ·cases h;exact .same _
  ·cases h
@[simp] theorem qeP (n:I32):enc n= .v (.int .i32 n.val):=id rfl
@[simp] theorem qfT:Cod.wd I32=1:=id rfl
@[simp] theorem qeZ (n:Int):dec (X:=I32) (.v (.int .i32 n))=some ⟨n⟩:=id rfl
@[simp] theorem qeE (n:I32):I32.mk n.val=n:=id rfl
structure U8 where
 val:Int
deriving DecidableEq
instance:Cod U8 where
 wd:=1
 enc n:= .v (.int .u8 n.val)
 dec | .v (.int .u8 n)=> some ⟨n⟩ | _=> none
 kn _:=rfl
 wid _:=rfl
 dec_enc _:=rfl
 le d x h:=by
  split at h
  ·cases h;exact .same _
  ·cases h
@[simp] theorem qiZ (n:U8):enc n= .v (.int .u8 n.val):=id rfl
@[simp] theorem qi8 (n:Int):dec (X:=U8) (.v (.int .u8 n))=some ⟨n⟩:=id rfl
structure Pair where
 nm:B
 vl:B
deriving DecidableEq
instance:Cod Pair where
 wd:=2
 enc s:= .agg [enc s.nm,enc s.vl]
 dec | .agg [x0,x1]=> (dec x0).bind fun x0=> (dec x1).bind fun x1=> some ⟨x0,x1⟩ | _=> none
 kn _:=rfl
 wid _:=rfl
 dec_enc s:=by simp
 le d x h:=by
  split at h
  ·simp only[Option.bind_eq_some_iff] at h
   obtain⟨x0,h0,x1,h1,h⟩:=h
   cases h
   exact LeL.agg (.cons (Cod.le _ _ h0) (.cons (Cod.le _ _ h1) .nil))
  ·cases h
@[simp] theorem qbX (s:Pair): (Pair.mk s.nm s.vl)=s:=id rfl
@[simp] theorem qb2 (s:Pair):enc s= .agg [enc s.nm,enc s.vl]:=id rfl
@[simp] theorem qc0:Cod.wd Pair=2:=id rfl
@[simp] theorem qb9 (x0 x1:D):dec (X:=Pair) (.agg [x0,x1])=((dec x0).bind fun x0=> (dec x1).bind fun x1=> some ⟨x0,x1⟩):=id rfl
structure fJ where
 nm:B
 st:Bool
deriving DecidableEq
instance:Cod fJ where
 wd:=2
 enc s:= .agg [enc s.nm,enc s.st]
 dec | .agg [x0,x1]=> (dec x0).bind fun x0=> (dec x1).bind fun x1=> some ⟨x0,x1⟩ | _=> none
 kn _:=rfl
 wid _:=rfl
 dec_enc s:=by simp
 le d x h:=by
  split at h
  ·simp only[Option.bind_eq_some_iff] at h
   obtain⟨x0,h0,x1,h1,h⟩:=h
   cases h
   exact LeL.agg (.cons (Cod.le _ _ h0) (.cons (Cod.le _ _ h1) .nil))
  ·cases h
@[simp] theorem qb4 (s:fJ):enc s= .agg [enc s.nm,enc s.st]:=id rfl
@[simp] theorem qc5:Cod.wd fJ=2:=id rfl
structure Ag where
 b:Int
 e:Int
deriving DecidableEq
instance:Cod Ag where
 wd:=2
 enc s:= .agg [enc s.b,enc s.e]
 dec | .agg [x0,x1]=> (dec x0).bind fun x0=> (dec x1).bind fun x1=> some ⟨x0,x1⟩ | _=> none
 kn _:=rfl
 wid _:=rfl
 dec_enc s:=by simp
 le d x h:=by
  split at h
  ·simp only[Option.bind_eq_some_iff] at h
   obtain⟨x0,h0,x1,h1,h⟩:=h
   cases h
   exact LeL.agg (.cons (Cod.le _ _ h0) (.cons (Cod.le _ _ h1) .nil))
  ·cases h
structure F0 where
 nm:B
 b:Int
 e:Int
 kv:List Pair
deriving DecidableEq
instance:Cod F0 where
 wd:=4
 enc s:= .agg [enc s.nm,enc s.b,enc s.e,enc s.kv]
 dec | .agg [x0,x1,x2,x3]=> (dec x0).bind fun x0=> (dec x1).bind fun x1=> (dec x2).bind fun x2=> (dec x3).bind fun x3=> some ⟨x0,x1,x2,x3⟩ | _=> none
 kn _:=rfl
 wid _:=rfl
 dec_enc s:=by simp
 le d x h:=by
  split at h
  ·simp only[Option.bind_eq_some_iff] at h
   obtain⟨x0,h0,x1,h1,x2,h2,x3,h3,h⟩:=h
   cases h
   exact LeL.agg (.cons (Cod.le _ _ h0) (.cons (Cod.le _ _ h1) (.cons (Cod.le _ _ h2) (.cons (Cod.le _ _ h3) .nil))))
  ·cases h
@[simp] theorem qb1 (s:F0):enc s= .agg [enc s.nm,enc s.b,enc s.e,enc s.kv]:=id rfl
@[simp] theorem qcZ:Cod.wd F0=4:=id rfl
@[simp] theorem qb8 (x0 x1 x2 x3:D):dec (X:=F0) (.agg [x0,x1,x2,x3])=((dec x0).bind fun x0=> (dec x1).bind fun x1=> (dec x2).bind fun x2=> (dec x3).bind fun x3=> some ⟨x0,x1,x2,x3⟩):=id rfl
structure Region where
 ty:B
 b:Int
 e:Int
 kv:List Pair
deriving DecidableEq
instance:Cod Region where
 wd:=4
 enc s:= .agg [enc s.ty,enc s.b,enc s.e,enc s.kv]
 dec | .agg [x0,x1,x2,x3]=> (dec x0).bind fun x0=> (dec x1).bind fun x1=> (dec x2).bind fun x2=> (dec x3).bind fun x3=> some ⟨x0,x1,x2,x3⟩ | _=> none
 kn _:=rfl
 wid _:=rfl
 dec_enc s:=by simp
 le d x h:=by
  split at h
  ·simp only[Option.bind_eq_some_iff] at h
   obtain⟨x0,h0,x1,h1,x2,h2,x3,h3,h⟩:=h
   cases h
   exact LeL.agg (.cons (Cod.le _ _ h0) (.cons (Cod.le _ _ h1) (.cons (Cod.le _ _ h2) (.cons (Cod.le _ _ h3) .nil))))
  ·cases h
@[simp] theorem Y4 (s:Region):enc s= .agg [enc s.ty,enc s.b,enc s.e,enc s.kv]:=id rfl
@[simp] theorem ZV:Cod.wd Region=4:=id rfl
structure ZK where
 lb:B
 b:Int
 e:Int
 par:Int
deriving DecidableEq
instance:Cod ZK where
 wd:=4
 enc s:= .agg [enc s.lb,enc s.b,enc s.e,enc s.par]
 dec | .agg [x0,x1,x2,x3]=> (dec x0).bind fun x0=> (dec x1).bind fun x1=> (dec x2).bind fun x2=> (dec x3).bind fun x3=> some ⟨x0,x1,x2,x3⟩ | _=> none
 kn _:=rfl
 wid _:=rfl
 dec_enc s:=by simp
 le d x h:=by
  split at h
  ·simp only[Option.bind_eq_some_iff] at h
   obtain⟨x0,h0,x1,h1,x2,h2,x3,h3,h⟩:=h
   cases h
   exact LeL.agg (.cons (Cod.le _ _ h0) (.cons (Cod.le _ _ h1) (.cons (Cod.le _ _ h2) (.cons (Cod.le _ _ h3) .nil))))
  ·cases h
@[simp] theorem qc1:Cod.wd ZK=4:=id rfl
structure Corpus where
 attrs:List fJ
 toks:List (List B)
 texts:List F0
 regs:List Region
 nodes:List ZK
 heads:List Int
 rels:List B
deriving DecidableEq
instance:Cod Corpus where
 wd:=7
 enc s:= .agg [enc s.attrs,enc s.toks,enc s.texts,enc s.regs,enc s.nodes,enc s.heads,enc s.rels]
 dec | .agg [x0,x1,x2,x3,x4,x5,x6]=> (dec x0).bind fun x0=> (dec x1).bind fun x1=> (dec x2).bind fun x2=> (dec x3).bind fun x3=> (dec x4).bind fun x4=> (dec x5).bind fun x5=> (dec x6).bind fun x6=> some ⟨x0,x1,x2,x3,x4,x5,x6⟩ | _=> none
 kn _:=rfl
 wid _:=rfl
 dec_enc s:=by simp
 le d x h:=by
  split at h
  ·simp only[Option.bind_eq_some_iff] at h
   obtain⟨x0,h0,x1,h1,x2,h2,x3,h3,x4,h4,x5,h5,x6,h6,h⟩:=h
   cases h
   exact LeL.agg (.cons (Cod.le _ _ h0) (.cons (Cod.le _ _ h1) (.cons (Cod.le _ _ h2) (.cons (Cod.le _ _ h3) (.cons (Cod.le _ _ h4) (.cons (Cod.le _ _ h5) (.cons (Cod.le _ _ h6) .nil)))))))
  ·cases h
@[simp] theorem Y1 (s:Corpus): (Corpus.mk s.attrs s.toks s.texts s.regs s.nodes s.heads s.rels)=s:=id rfl
@[simp] theorem Y5 (s:Corpus):enc s= .agg [enc s.attrs,enc s.toks,enc s.texts,enc s.regs,enc s.nodes,enc s.heads,enc s.rels]:=id rfl
@[simp] theorem Zf (x0 x1 x2 x3 x4 x5 x6:D):dec (X:=Corpus) (.agg [x0,x1,x2,x3,x4,x5,x6])=((dec x0).bind fun x0=> (dec x1).bind fun x1=> (dec x2).bind fun x2=> (dec x3).bind fun x3=> (dec x4).bind fun x4=> (dec x5).bind fun x5=> (dec x6).bind fun x6=> some ⟨x0,x1,x2,x3,x4,x5,x6⟩):=id rfl
structure Match where
 b:Int
 e:Int
 lbs:List Int
deriving DecidableEq
instance:Cod Match where
 wd:=3
 enc s:= .agg [enc s.b,enc s.e,enc s.lbs]
 dec | .agg [x0,x1,x2]=> (dec x0).bind fun x0=> (dec x1).bind fun x1=> (dec x2).bind fun x2=> some ⟨x0,x1,x2⟩ | _=> none
 kn _:=rfl
 wid _:=rfl
 dec_enc s:=by simp
 le d x h:=by
  split at h
  ·simp only[Option.bind_eq_some_iff] at h
   obtain⟨x0,h0,x1,h1,x2,h2,h⟩:=h
   cases h
   exact LeL.agg (.cons (Cod.le _ _ h0) (.cons (Cod.le _ _ h1) (.cons (Cod.le _ _ h2) .nil)))
  ·cases h
@[simp] theorem qai (s:Match): (Match.mk s.b s.e s.lbs)=s:=id rfl
@[simp] theorem qak (s:Match):enc s= .agg [enc s.b,enc s.e,enc s.lbs]:=id rfl
@[simp] theorem qaG:Cod.wd Match=3:=id rfl
@[simp] theorem qal (x0 x1 x2:D):dec (X:=Match) (.agg [x0,x1,x2])=((dec x0).bind fun x0=> (dec x1).bind fun x1=> (dec x2).bind fun x2=> some ⟨x0,x1,x2⟩):=id rfl
end Go.Gv
