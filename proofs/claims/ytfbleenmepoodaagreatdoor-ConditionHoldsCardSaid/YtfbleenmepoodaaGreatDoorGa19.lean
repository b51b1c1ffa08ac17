/- A part of the framework and of the walks: T13 V1 L1. -/
import Derived.Test.YtfbleenmepoodaaGreatDoorGa18
set_option linter.unusedSimpArgs false
set_option linter.unusedVariables false
set_option linter.unusedSectionVars false
set_option linter.defProp false
namespace Go.Gv
open Cod (enc dec)
def bC{X:Type}[Cod X]{x y:X}(h:enc x=enc y):x=y:=by
 have:=congrArg (dec (X:=X)) h;simpa using this
@[simp] theorem qgv{X:Type}[Cod X](l l':List X):(l.map enc=l'.map enc)=(l=l'):=by
 refine propext ⟨λh=>?_,λh=>h ▸rfl⟩
 induction l generalizing l' with
 | nil=>cases l' with
   | nil=>rfl
   | cons y l'=>simp at h
 | cons x l ih=>cases l' with
   | nil=>simp at h
   | cons y l'=>
     simp only[qj2,qke]at h;rw[bC h.1,ih _ h.2]
def fU{X:Type}[Cod X](l:List X)(i:Nat)(x:X):(l.map enc).set i (enc x)=(l.set i x).map enc:=by
 rw[List.map_set]
def HX{X:Type}[Cod X](l:List X)(x:X):l.map enc++ [enc x]=(l++ [x]).map enc:=by simp
def jD{X:Type}[Cod X]{H:aa}{id n:Nat}{v:Value}{l:List X}(el:Nat)(h:H id=some (.row v el n (l.map enc)))(hn:n=Cod.wd X:=by rfl):FrzTo H (.own id v) (.list n (l.map enc)):=by
 subst hn;exact Pb h
inductive Ky where
 | e
 | o (k:Ky)
 | i (k:Ky)
deriving DecidableEq
inductive Tr where
 | nil
 | nd (d:D) (l r:Tr)
def Tr.get:Tr->Ky->D
 | .nil,_=> .any
 | .nd d _ _, .e=>d
 | .nd _ l _, .o k=>l.get k
 | .nd _ _ r, .i k=>r.get k
def Tr.set:Tr->Ky->D->Tr
 | .nil, .e,x=> .nd x .nil .nil
 | .nil, .o k,x=> .nd .any (Tr.set .nil k x) .nil
 | .nil, .i k,x=> .nd .any .nil (Tr.set .nil k x)
 | .nd _ l r, .e,x=> .nd x l r
 | .nd d l r, .o k,x=> .nd d (l.set k x) r
 | .nd d l r, .i k,x=> .nd d l (r.set k x)
noncomputable def Tr.frz(id:Nat)(x:Value)(L:D):Tr->Tr
 | .nil=> .nil
 | .nd d l r=> .nd (XC id x L d) (l.frz id x L) (r.frz id x L)
def qay:Nat->Nat->Ky
 | 0,_=> .e
 | f+1,n=>if n=0 then .e else if(n -1) % 2=0 then .o (qay f ((n -1) /2))else .i (qay f ((n -1) /2))
def ky(n:Nat):Ky:=qay n n
def Ky.val:Ky->Nat
 | .e=>0
 | .o k=>2*k.val+1
 | .i k=>2*k.val+2
def BV:∀ (f n:Nat),n<=f->(qay f n).val=n
 | 0,n,h=>by
   have:n=0:=by omega
   subst this;rfl
 | f+1,n,h=>by
   unfold qay;split
   ·rename_i e;subst e;rfl
   ·split
    ·simp only[Ky.val];rw[BV f _ (by omega)];omega
    ·simp only[Ky.val];rw[BV f _ (by omega)];omega
def Rq{m n:Nat}(h:ky m=ky n):m=n:=by
 have h1:=BV m m (qjL _);have h2:=BV n n (qjL _);unfold ky at h;rw[h]at h1;exact h1.symm.trans h2
def get_set:∀ (T:Tr) (k j:Ky) (x:D),(T.set k x).get j=if j=k then x else T.get j
 | .nil, .e,j,x=>by cases j <;> simp[Tr.set,Tr.get]
 | .nil, .o k,j,x=>by
   have ih:=λj=>get_set .nil k j x
   cases j <;> simp[Tr.set,Tr.get,ih]
 | .nil, .i k,j,x=>by
   have ih:=λj=>get_set .nil k j x
   cases j <;> simp[Tr.set,Tr.get,ih]
 | .nd d l r, .e,j,x=>by cases j <;> simp[Tr.set,Tr.get]
 | .nd d l r, .o k,j,x=>by
   have ih:=λj=>get_set l k j x
   cases j <;> simp[Tr.set,Tr.get,ih]
 | .nd d l r, .i k,j,x=>by
   have ih:=λj=>get_set r k j x
   cases j <;> simp[Tr.set,Tr.get,ih]
def Hs(T:Tr):Sg:=λt=>T.get (ky t)
@[simp] theorem qdO(T:Tr)(t:Nat):Hs T t=T.get (ky t):=id rfl
@[simp] theorem ZI(T:Tr)(t:Nat)(d:D):upd (Hs T) t d=Hs (T.set (ky t) d):=by
 funext s;simp only[upd,Hs,get_set];by_cases h:s=t
 ·simp[h]
 ·have:¬ky s=ky t:=λe=>h (Rq e)
  simp[h,this]
def RH:Hs .nil=λ_=> .any:=by
 funext t;simp[Hs,Tr.get]
@[simp] theorem Xq(σ:Sg):gC [] σ=Hs .nil:=by rw[RH];rfl
@[simp] theorem UC(t:Nat)(l:List Nat)(σ:Sg):gC (t::l) σ=upd (gC l σ) t (σ t):=id rfl
@[simp] theorem qhn(σ:Sg):om [] σ=σ:=id rfl
@[simp] theorem qeM(t:Nat)(d:D)(l:List (Nat×D))(σ:Sg):om ((t,d)::l) σ=upd (om l σ) t d:=id rfl
def AQ:Nat->List D->Tr
 | _, []=> .nil
 | n,d::l=>(AQ (n+1) l).set (ky n) d
@[simp] theorem Y7(n:Nat):AQ n []= .nil:=id rfl
@[simp] theorem Xv(n:Nat)(d:D)(l:List D):AQ n (d::l)=(AQ (n+1) l).set (ky n) d:=id rfl
def Fp:∀ (l:List D) (n t:Nat),(AQ n l).get (ky t)=if n<=t then(l[t -n]?).getD .any else .any
 | [],n,t=>by simp[AQ,Tr.get]
 | d::l,n,t=>by
   rw[AQ,get_set,Fp l (n+1) t];by_cases h:t=n
   ·subst h;simp
   ·have:¬ky t=ky n:=λe=>h (Rq e)
    rw[if_neg this];by_cases h2:n+1<=t
    ·have h3:n<=t:=by omega
     rw[if_pos h2,if_pos h3];have:t -n=(t - (n+1)) +1:=by omega
     rw[this];simp
    ·have h3:¬n<=t:=by omega
     rw[if_neg h2,if_neg h3]
@[simp] theorem qgd(l:List D):cR l=Hs (AQ 0 l):=by
 funext t;simp[cR,Hs,Fp]
@[simp] theorem qiM(d:D)(l r:Tr):(Tr.nd d l r).get .e=d:=id rfl
@[simp] theorem qiK(d:D)(l r:Tr)(k:Ky):(Tr.nd d l r).get (.o k)=l.get k:=id rfl
@[simp] theorem qiL(d:D)(l r:Tr)(k:Ky):(Tr.nd d l r).get (.i k)=r.get k:=id rfl
@[simp] theorem qhC(x:D):Tr.nil.set .e x= .nd x .nil .nil:=id rfl
@[simp] theorem qhA(k:Ky)(x:D):Tr.nil.set (.o k) x= .nd .any (Tr.set .nil k x) .nil:=id rfl
@[simp] theorem qhB(k:Ky)(x:D):Tr.nil.set (.i k) x= .nd .any .nil (Tr.set .nil k x):=id rfl
@[simp] theorem qiJ(d:D)(l r:Tr)(x:D):(Tr.nd d l r).set .e x= .nd x l r:=id rfl
@[simp] theorem qiH(d:D)(l r:Tr)(k:Ky)(x:D):(Tr.nd d l r).set (.o k) x= .nd d (l.set k x) r:=id rfl
@[simp] theorem qiI(d:D)(l r:Tr)(k:Ky)(x:D):(Tr.nd d l r).set (.i k) x= .nd d l (r.set k x):=id rfl
@[simp] theorem qi8:ky 0= .e/\ky 1= .o .e/\ky 2= .i .e/\ky 3= .o (.o .e)/\ky 4= .i (.o .e)/\ky 5= .o (.i .e)/\ky 6= .i (.i .e)/\ky 7= .o (.o (.o .e))/\ky 8= .i (.o (.o .e))/\ky 9= .o (.i (.o .e))/\ky 10= .i (.i (.o .e))/\ky 11= .o (.o (.i .e))/\ky 12= .i (.o (.i .e))/\ky 13= .o (.i (.i .e))/\ky 14= .i (.i (.i .e))/\ky 15= .o (.o (.o (.o .e)))/\ky 16= .i (.o (.o (.o .e)))/\ky 17= .o (.i (.o (.o .e)))/\ky 18= .i (.i (.o (.o .e)))/\ky 19= .o (.o (.i (.o .e)))/\ky 20= .i (.o (.i (.o .e)))/\ky 21= .o (.i (.i (.o .e)))/\ky 22= .i (.i (.i (.o .e)))/\ky 23= .o (.o (.o (.i .e)))/\ky 24= .i (.o (.o (.i .e)))/\ky 25= .o (.i (.o (.i .e)))/\ky 26= .i (.i (.o (.i .e)))/\ky 27= .o (.o (.i (.i .e)))/\ky 28= .i (.o (.i (.i .e)))/\ky 29= .o (.i (.i (.i .e)))/\ky 30= .i (.i (.i (.i .e)))/\ky 31= .o (.o (.o (.o (.o .e))))/\ky 32= .i (.o (.o (.o (.o .e))))/\ky 33= .o (.i (.o (.o (.o .e))))/\ky 34= .i (.i (.o (.o (.o .e))))/\ky 35= .o (.o (.i (.o (.o .e))))/\ky 36= .i (.o (.i (.o (.o .e))))/\ky 37= .o (.i (.i (.o (.o .e))))/\ky 38= .i (.i (.i (.o (.o .e))))/\ky 39= .o (.o (.o (.i (.o .e))))/\ky 40= .i (.o (.o (.i (.o .e))))/\ky 41= .o (.i (.o (.i (.o .e))))/\ky 42= .i (.i (.o (.i (.o .e))))/\ky 43= .o (.o (.i (.i (.o .e))))/\ky 44= .i (.o (.i (.i (.o .e))))/\ky 45= .o (.i (.i (.i (.o .e))))/\ky 46= .i (.i (.i (.i (.o .e))))/\ky 47= .o (.o (.o (.o (.i .e))))/\ky 48= .i (.o (.o (.o (.i .e))))/\ky 49= .o (.i (.o (.o (.i .e))))/\ky 50= .i (.i (.o (.o (.i .e))))/\ky 51= .o (.o (.i (.o (.i .e))))/\ky 52= .i (.o (.i (.o (.i .e))))/\ky 53= .o (.i (.i (.o (.i .e))))/\ky 54= .i (.i (.i (.o (.i .e))))/\ky 55= .o (.o (.o (.i (.i .e))))/\ky 56= .i (.o (.o (.i (.i .e))))/\ky 57= .o (.i (.o (.i (.i .e))))/\ky 58= .i (.i (.o (.i (.i .e))))/\ky 59= .o (.o (.i (.i (.i .e)))):=by and_intros <;> exact id rfl
@[simp] theorem qi7:ky 60= .i (.o (.i (.i (.i .e))))/\ky 61= .o (.i (.i (.i (.i .e))))/\ky 62= .i (.i (.i (.i (.i .e))))/\ky 63= .o (.o (.o (.o (.o (.o .e)))))/\ky 64= .i (.o (.o (.o (.o (.o .e)))))/\ky 65= .o (.i (.o (.o (.o (.o .e)))))/\ky 66= .i (.i (.o (.o (.o (.o .e)))))/\ky 67= .o (.o (.i (.o (.o (.o .e)))))/\ky 68= .i (.o (.i (.o (.o (.o .e)))))/\ky 69= .o (.i (.i (.o (.o (.o .e)))))/\ky 70= .i (.i (.i (.o (.o (.o .e)))))/\ky 71= .o (.o (.o (.i (.o (.o .e)))))/\ky 72= .i (.o (.o (.i (.o (.o .e)))))/\ky 73= .o (.i (.o (.i (.o (.o .e)))))/\ky 74= .i (.i (.o (.i (.o (.o .e)))))/\ky 75= .o (.o (.i (.i (.o (.o .e)))))/\ky 76= .i (.o (.i (.i (.o (.o .e)))))/\ky 77= .o (.i (.i (.i (.o (.o .e)))))/\ky 78= .i (.i (.i (.i (.o (.o .e)))))/\ky 79= .o (.o (.o (.o (.i (.o .e)))))/\ky 80= .i (.o (.o (.o (.i (.o .e)))))/\ky 81= .o (.i (.o (.o (.i (.o .e)))))/\ky 82= .i (.i (.o (.o (.i (.o .e)))))/\ky 83= .o (.o (.i (.o (.i (.o .e)))))/\ky 84= .i (.o (.i (.o (.i (.o .e)))))/\ky 85= .o (.i (.i (.o (.i (.o .e)))))/\ky 86= .i (.i (.i (.o (.i (.o .e)))))/\ky 87= .o (.o (.o (.i (.i (.o .e)))))/\ky 88= .i (.o (.o (.i (.i (.o .e)))))/\ky 89= .o (.i (.o (.i (.i (.o .e)))))/\ky 90= .i (.i (.o (.i (.i (.o .e)))))/\ky 91= .o (.o (.i (.i (.i (.o .e)))))/\ky 92= .i (.o (.i (.i (.i (.o .e)))))/\ky 93= .o (.i (.i (.i (.i (.o .e)))))/\ky 94= .i (.i (.i (.i (.i (.o .e)))))/\ky 95= .o (.o (.o (.o (.o (.i .e)))))/\ky 96= .i (.o (.o (.o (.o (.i .e)))))/\ky 97= .o (.i (.o (.o (.o (.i .e)))))/\ky 98= .i (.i (.o (.o (.o (.i .e)))))/\ky 99= .o (.o (.i (.o (.o (.i .e)))))/\ky 100= .i (.o (.i (.o (.o (.i .e)))))/\ky 101= .o (.i (.i (.o (.o (.i .e)))))/\ky 102= .i (.i (.i (.o (.o (.i .e)))))/\ky 103= .o (.o (.o (.i (.o (.i .e)))))/\ky 104= .i (.o (.o (.i (.o (.i .e)))))/\ky 105= .o (.i (.o (.i (.o (.i .e)))))/\ky 106= .i (.i (.o (.i (.o (.i .e)))))/\ky 107= .o (.o (.i (.i (.o (.i .e)))))/\ky 108= .i (.o (.i (.i (.o (.i .e)))))/\ky 109= .o (.i (.i (.i (.o (.i .e)))))/\ky 110= .i (.i (.i (.i (.o (.i .e)))))/\ky 111= .o (.o (.o (.o (.i (.i .e)))))/\ky 112= .i (.o (.o (.o (.i (.i .e)))))/\ky 113= .o (.i (.o (.o (.i (.i .e)))))/\ky 114= .i (.i (.o (.o (.i (.i .e)))))/\ky 115= .o (.o (.i (.o (.i (.i .e)))))/\ky 116= .i (.o (.i (.o (.i (.i .e)))))/\ky 117= .o (.i (.i (.o (.i (.i .e)))))/\ky 118= .i (.i (.i (.o (.i (.i .e)))))/\ky 119= .o (.o (.o (.i (.i (.i .e))))):=by and_intros <;> exact id rfl
@[simp] theorem qi6:ky 120= .i (.o (.o (.i (.i (.i .e)))))/\ky 121= .o (.i (.o (.i (.i (.i .e)))))/\ky 122= .i (.i (.o (.i (.i (.i .e)))))/\ky 123= .o (.o (.i (.i (.i (.i .e)))))/\ky 124= .i (.o (.i (.i (.i (.i .e)))))/\ky 125= .o (.i (.i (.i (.i (.i .e)))))/\ky 126= .i (.i (.i (.i (.i (.i .e)))))/\ky 127= .o (.o (.o (.o (.o (.o (.o .e))))))/\ky 128= .i (.o (.o (.o (.o (.o (.o .e))))))/\ky 129= .o (.i (.o (.o (.o (.o (.o .e))))))/\ky 130= .i (.i (.o (.o (.o (.o (.o .e))))))/\ky 131= .o (.o (.i (.o (.o (.o (.o .e))))))/\ky 132= .i (.o (.i (.o (.o (.o (.o .e))))))/\ky 133= .o (.i (.i (.o (.o (.o (.o .e))))))/\ky 134= .i (.i (.i (.o (.o (.o (.o .e))))))/\ky 135= .o (.o (.o (.i (.o (.o (.o .e))))))/\ky 136= .i (.o (.o (.i (.o (.o (.o .e))))))/\ky 137= .o (.i (.o (.i (.o (.o (.o .e))))))/\ky 138= .i (.i (.o (.i (.o (.o (.o .e))))))/\ky 139= .o (.o (.i (.i (.o (.o (.o .e))))))/\ky 140= .i (.o (.i (.i (.o (.o (.o .e))))))/\ky 141= .o (.i (.i (.i (.o (.o (.o .e))))))/\ky 142= .i (.i (.i (.i (.o (.o (.o .e))))))/\ky 143= .o (.o (.o (.o (.i (.o (.o .e))))))/\ky 144= .i (.o (.o (.o (.i (.o (.o .e))))))/\ky 145= .o (.i (.o (.o (.i (.o (.o .e))))))/\ky 146= .i (.i (.o (.o (.i (.o (.o .e))))))/\ky 147= .o (.o (.i (.o (.i (.o (.o .e))))))/\ky 148= .i (.o (.i (.o (.i (.o (.o .e))))))/\ky 149= .o (.i (.i (.o (.i (.o (.o .e))))))/\ky 150= .i (.i (.i (.o (.i (.o (.o .e))))))/\ky 151= .o (.o (.o (.i (.i (.o (.o .e))))))/\ky 152= .i (.o (.o (.i (.i (.o (.o .e))))))/\ky 153= .o (.i (.o (.i (.i (.o (.o .e))))))/\ky 154= .i (.i (.o (.i (.i (.o (.o .e))))))/\ky 155= .o (.o (.i (.i (.i (.o (.o .e))))))/\ky 156= .i (.o (.i (.i (.i (.o (.o .e))))))/\ky 157= .o (.i (.i (.i (.i (.o (.o .e))))))/\ky 158= .i (.i (.i (.i (.i (.o (.o .e))))))/\ky 159= .o (.o (.o (.o (.o (.i (.o .e))))))/\ky 160= .i (.o (.o (.o (.o (.i (.o .e))))))/\ky 161= .o (.i (.o (.o (.o (.i (.o .e))))))/\ky 162= .i (.i (.o (.o (.o (.i (.o .e))))))/\ky 163= .o (.o (.i (.o (.o (.i (.o .e))))))/\ky 164= .i (.o (.i (.o (.o (.i (.o .e))))))/\ky 165= .o (.i (.i (.o (.o (.i (.o .e))))))/\ky 166= .i (.i (.i (.o (.o (.i (.o .e))))))/\ky 167= .o (.o (.o (.i (.o (.i (.o .e))))))/\ky 168= .i (.o (.o (.i (.o (.i (.o .e))))))/\ky 169= .o (.i (.o (.i (.o (.i (.o .e))))))/\ky 170= .i (.i (.o (.i (.o (.i (.o .e))))))/\ky 171= .o (.o (.i (.i (.o (.i (.o .e))))))/\ky 172= .i (.o (.i (.i (.o (.i (.o .e))))))/\ky 173= .o (.i (.i (.i (.o (.i (.o .e))))))/\ky 174= .i (.i (.i (.i (.o (.i (.o .e))))))/\ky 175= .o (.o (.o (.o (.i (.i (.o .e))))))/\ky 176= .i (.o (.o (.o (.i (.i (.o .e))))))/\ky 177= .o (.i (.o (.o (.i (.i (.o .e))))))/\ky 178= .i (.i (.o (.o (.i (.i (.o .e))))))/\ky 179= .o (.o (.i (.o (.i (.i (.o .e)))))):=by and_intros <;> exact id rfl
@[simp] theorem qi5:ky 180= .i (.o (.i (.o (.i (.i (.o .e))))))/\ky 181= .o (.i (.i (.o (.i (.i (.o .e))))))/\ky 182= .i (.i (.i (.o (.i (.i (.o .e))))))/\ky 183= .o (.o (.o (.i (.i (.i (.o .e))))))/\ky 184= .i (.o (.o (.i (.i (.i (.o .e))))))/\ky 185= .o (.i (.o (.i (.i (.i (.o .e))))))/\ky 186= .i (.i (.o (.i (.i (.i (.o .e))))))/\ky 187= .o (.o (.i (.i (.i (.i (.o .e))))))/\ky 188= .i (.o (.i (.i (.i (.i (.o .e))))))/\ky 189= .o (.i (.i (.i (.i (.i (.o .e))))))/\ky 190= .i (.i (.i (.i (.i (.i (.o .e))))))/\ky 191= .o (.o (.o (.o (.o (.o (.i .e))))))/\ky 192= .i (.o (.o (.o (.o (.o (.i .e))))))/\ky 193= .o (.i (.o (.o (.o (.o (.i .e))))))/\ky 194= .i (.i (.o (.o (.o (.o (.i .e))))))/\ky 195= .o (.o (.i (.o (.o (.o (.i .e))))))/\ky 196= .i (.o (.i (.o (.o (.o (.i .e))))))/\ky 197= .o (.i (.i (.o (.o (.o (.i .e))))))/\ky 198= .i (.i (.i (.o (.o (.o (.i .e))))))/\ky 199= .o (.o (.o (.i (.o (.o (.i .e))))))/\ky 200= .i (.o (.o (.i (.o (.o (.i .e))))))/\ky 201= .o (.i (.o (.i (.o (.o (.i .e))))))/\ky 202= .i (.i (.o (.i (.o (.o (.i .e))))))/\ky 203= .o (.o (.i (.i (.o (.o (.i .e))))))/\ky 204= .i (.o (.i (.i (.o (.o (.i .e))))))/\ky 205= .o (.i (.i (.i (.o (.o (.i .e))))))/\ky 206= .i (.i (.i (.i (.o (.o (.i .e))))))/\ky 207= .o (.o (.o (.o (.i (.o (.i .e))))))/\ky 208= .i (.o (.o (.o (.i (.o (.i .e))))))/\ky 209= .o (.i (.o (.o (.i (.o (.i .e))))))/\ky 210= .i (.i (.o (.o (.i (.o (.i .e))))))/\ky 211= .o (.o (.i (.o (.i (.o (.i .e))))))/\ky 212= .i (.o (.i (.o (.i (.o (.i .e))))))/\ky 213= .o (.i (.i (.o (.i (.o (.i .e))))))/\ky 214= .i (.i (.i (.o (.i (.o (.i .e))))))/\ky 215= .o (.o (.o (.i (.i (.o (.i .e))))))/\ky 216= .i (.o (.o (.i (.i (.o (.i .e))))))/\ky 217= .o (.i (.o (.i (.i (.o (.i .e))))))/\ky 218= .i (.i (.o (.i (.i (.o (.i .e))))))/\ky 219= .o (.o (.i (.i (.i (.o (.i .e))))))/\ky 220= .i (.o (.i (.i (.i (.o (.i .e))))))/\ky 221= .o (.i (.i (.i (.i (.o (.i .e))))))/\ky 222= .i (.i (.i (.i (.i (.o (.i .e))))))/\ky 223= .o (.o (.o (.o (.o (.i (.i .e))))))/\ky 224= .i (.o (.o (.o (.o (.i (.i .e))))))/\ky 225= .o (.i (.o (.o (.o (.i (.i .e))))))/\ky 226= .i (.i (.o (.o (.o (.i (.i .e))))))/\ky 227= .o (.o (.i (.o (.o (.i (.i .e))))))/\ky 228= .i (.o (.i (.o (.o (.i (.i .e))))))/\ky 229= .o (.i (.i (.o (.o (.i (.i .e))))))/\ky 230= .i (.i (.i (.o (.o (.i (.i .e))))))/\ky 231= .o (.o (.o (.i (.o (.i (.i .e))))))/\ky 232= .i (.o (.o (.i (.o (.i (.i .e))))))/\ky 233= .o (.i (.o (.i (.o (.i (.i .e))))))/\ky 234= .i (.i (.o (.i (.o (.i (.i .e))))))/\ky 235= .o (.o (.i (.i (.o (.i (.i .e))))))/\ky 236= .i (.o (.i (.i (.o (.i (.i .e))))))/\ky 237= .o (.i (.i (.i (.o (.i (.i .e))))))/\ky 238= .i (.i (.i (.i (.o (.i (.i .e))))))/\ky 239= .o (.o (.o (.o (.i (.i (.i .e)))))):=by and_intros <;> exact id rfl
@[simp] theorem qi4:ky 240= .i (.o (.o (.o (.i (.i (.i .e))))))/\ky 241= .o (.i (.o (.o (.i (.i (.i .e))))))/\ky 242= .i (.i (.o (.o (.i (.i (.i .e))))))/\ky 243= .o (.o (.i (.o (.i (.i (.i .e))))))/\ky 244= .i (.o (.i (.o (.i (.i (.i .e))))))/\ky 245= .o (.i (.i (.o (.i (.i (.i .e))))))/\ky 246= .i (.i (.i (.o (.i (.i (.i .e))))))/\ky 247= .o (.o (.o (.i (.i (.i (.i .e))))))/\ky 248= .i (.o (.o (.i (.i (.i (.i .e))))))/\ky 249= .o (.i (.o (.i (.i (.i (.i .e))))))/\ky 250= .i (.i (.o (.i (.i (.i (.i .e))))))/\ky 251= .o (.o (.i (.i (.i (.i (.i .e))))))/\ky 252= .i (.o (.i (.i (.i (.i (.i .e))))))/\ky 253= .o (.i (.i (.i (.i (.i (.i .e))))))/\ky 254= .i (.i (.i (.i (.i (.i (.i .e))))))/\ky 255= .o (.o (.o (.o (.o (.o (.o (.o .e)))))))/\ky 256= .i (.o (.o (.o (.o (.o (.o (.o .e)))))))/\ky 257= .o (.i (.o (.o (.o (.o (.o (.o .e)))))))/\ky 258= .i (.i (.o (.o (.o (.o (.o (.o .e)))))))/\ky 259= .o (.o (.i (.o (.o (.o (.o (.o .e)))))))/\ky 260= .i (.o (.i (.o (.o (.o (.o (.o .e)))))))/\ky 261= .o (.i (.i (.o (.o (.o (.o (.o .e)))))))/\ky 262= .i (.i (.i (.o (.o (.o (.o (.o .e)))))))/\ky 263= .o (.o (.o (.i (.o (.o (.o (.o .e)))))))/\ky 264= .i (.o (.o (.i (.o (.o (.o (.o .e)))))))/\ky 265= .o (.i (.o (.i (.o (.o (.o (.o .e)))))))/\ky 266= .i (.i (.o (.i (.o (.o (.o (.o .e)))))))/\ky 267= .o (.o (.i (.i (.o (.o (.o (.o .e)))))))/\ky 268= .i (.o (.i (.i (.o (.o (.o (.o .e)))))))/\ky 269= .o (.i (.i (.i (.o (.o (.o (.o .e)))))))/\ky 270= .i (.i (.i (.i (.o (.o (.o (.o .e)))))))/\ky 271= .o (.o (.o (.o (.i (.o (.o (.o .e)))))))/\ky 272= .i (.o (.o (.o (.i (.o (.o (.o .e)))))))/\ky 273= .o (.i (.o (.o (.i (.o (.o (.o .e)))))))/\ky 274= .i (.i (.o (.o (.i (.o (.o (.o .e)))))))/\ky 275= .o (.o (.i (.o (.i (.o (.o (.o .e)))))))/\ky 276= .i (.o (.i (.o (.i (.o (.o (.o .e)))))))/\ky 277= .o (.i (.i (.o (.i (.o (.o (.o .e)))))))/\ky 278= .i (.i (.i (.o (.i (.o (.o (.o .e)))))))/\ky 279= .o (.o (.o (.i (.i (.o (.o (.o .e)))))))/\ky 280= .i (.o (.o (.i (.i (.o (.o (.o .e)))))))/\ky 281= .o (.i (.o (.i (.i (.o (.o (.o .e)))))))/\ky 282= .i (.i (.o (.i (.i (.o (.o (.o .e)))))))/\ky 283= .o (.o (.i (.i (.i (.o (.o (.o .e)))))))/\ky 284= .i (.o (.i (.i (.i (.o (.o (.o .e)))))))/\ky 285= .o (.i (.i (.i (.i (.o (.o (.o .e)))))))/\ky 286= .i (.i (.i (.i (.i (.o (.o (.o .e)))))))/\ky 287= .o (.o (.o (.o (.o (.i (.o (.o .e)))))))/\ky 288= .i (.o (.o (.o (.o (.i (.o (.o .e)))))))/\ky 289= .o (.i (.o (.o (.o (.i (.o (.o .e)))))))/\ky 290= .i (.i (.o (.o (.o (.i (.o (.o .e)))))))/\ky 291= .o (.o (.i (.o (.o (.i (.o (.o .e)))))))/\ky 292= .i (.o (.i (.o (.o (.i (.o (.o .e)))))))/\ky 293= .o (.i (.i (.o (.o (.i (.o (.o .e)))))))/\ky 294= .i (.i (.i (.o (.o (.i (.o (.o .e)))))))/\ky 295= .o (.o (.o (.i (.o (.i (.o (.o .e)))))))/\ky 296= .i (.o (.o (.i (.o (.i (.o (.o .e)))))))/\ky 297= .o (.i (.o (.i (.o (.i (.o (.o .e)))))))/\ky 298= .i (.i (.o (.i (.o (.i (.o (.o .e)))))))/\ky 299= .o (.o (.i (.i (.o (.i (.o (.o .e))))))):=by and_intros <;> exact id rfl
@[simp] theorem qdl(H:aa)(i:Nat):aU [] H i=H i:=id rfl
@[simp] theorem qaG(t i:Nat):vt (some t) i=(Hn i=Hn t):=id rfl
@[simp] theorem qge{i:Nat}(h:i < 990):Hn i=i:=by unfold Hn;rw[if_neg (by omega)]
@[simp] theorem qdn(d:Option Nat)(g:Option (Nat×Bool))(c:COp)(l:List CI)(H:aa)(i:Nat):aU (.op d g c::l) H i=if vt (CI.op d g c).wid i then none else aU l H i:=id rfl
@[simp] theorem qdm(a b:Nat)(l:List CI)(H:aa)(i:Nat):aU (.frz a b::l) H i=H i:=id rfl
@[simp] theorem qeX(dst_:Option Nat)(gd_:Option (Nat×Bool))(x:Operand):(CI.op dst_ gd_ (.mv x)).wid=dst_:=id rfl
@[simp] theorem ZC(dst_:Option Nat)(gd_:Option (Nat×Bool))(c:Operand)(x:Operand)(y:Operand):(CI.op dst_ gd_ (.pick c x y)).wid=dst_:=id rfl
@[simp] theorem YN(dst_:Option Nat)(gd_:Option (Nat×Bool))(el:Nat)(z:List Value):(CI.op dst_ gd_ (.alloc el z)).wid=dst_:=id rfl
@[simp] theorem YL(dst_:Option Nat)(gd_:Option (Nat×Bool))(z:List Value)(parts:List (Nat×Nat×Operand)):(CI.op dst_ gd_ (.build z parts)).wid=dst_:=id rfl
@[simp] theorem Wr(dst_:Option Nat)(gd_:Option (Nat×Bool))(el:Nat)(n:Nat)(parts:List Operand):(CI.op dst_ gd_ (.bslice el n parts)).wid=dst_:=id rfl
@[simp] theorem ZD(dst_:Option Nat)(gd_:Option (Nat×Bool))(agg:Bool)(sz:Nat)(x:Operand):(CI.op dst_ gd_ (.load agg sz x)).wid=dst_:=id rfl
@[simp] theorem VA(d:Option Nat)(g:Option (Nat×Bool))(r sz:Nat)(x y:Operand):(CI.op d g (.store (some r) sz x y)).wid=some r:=id rfl
@[simp] theorem YH(dst_:Option Nat)(gd_:Option (Nat×Bool))(x:Operand):(CI.op dst_ gd_ (.nilck x)).wid=dst_:=id rfl
@[simp] theorem YM(dst_:Option Nat)(gd_:Option (Nat×Bool))(op:BinOp)(x:Operand)(y:Operand):(CI.op dst_ gd_ (.arith op x y)).wid=dst_:=id rfl
@[simp] theorem qct(dst_:Option Nat)(gd_:Option (Nat×Bool))(op:BinOp)(x:Operand)(y:Operand):(CI.op dst_ gd_ (.cmp op x y)).wid=dst_:=id rfl
@[simp] theorem qcs(dst_:Option Nat)(gd_:Option (Nat×Bool))(neg:Bool)(agg:Bool)(ks:List K7)(x:Operand)(y:Operand):(CI.op dst_ gd_ (.eql neg agg ks x y)).wid=dst_:=id rfl
@[simp] theorem YG(dst_:Option Nat)(gd_:Option (Nat×Bool))(n:Nat)(x:Operand)(lo:Option Operand)(hi:Option Operand):(CI.op dst_ gd_ (.slice n x lo hi)).wid=dst_:=id rfl
@[simp] theorem Wq(dst_:Option Nat)(gd_:Option (Nat×Bool))(x:Operand)(lo:Option Operand)(hi:Option Operand):(CI.op dst_ gd_ (.sslice x lo hi)).wid=dst_:=id rfl
@[simp] theorem YJ(dst_:Option Nat)(gd_:Option (Nat×Bool))(off:Nat)(x:Operand):(CI.op dst_ gd_ (.faddr off x)).wid=dst_:=id rfl
@[simp] theorem YI(dst_:Option Nat)(gd_:Option (Nat×Bool))(n:Nat)(x:Operand)(i:Operand):(CI.op dst_ gd_ (.iaddr n x i)).wid=dst_:=id rfl
@[simp] theorem qcr(dst_:Option Nat)(gd_:Option (Nat×Bool))(x:Operand)(i:Nat):(CI.op dst_ gd_ (.ext x i)).wid=dst_:=id rfl
@[simp] theorem qcq(dst_:Option Nat)(gd_:Option (Nat×Bool))(x:Operand):(CI.op dst_ gd_ (.len x)).wid=dst_:=id rfl
@[simp] theorem ZB(dst_:Option Nat)(gd_:Option (Nat×Bool))(x:Operand):(CI.op dst_ gd_ (.slen x)).wid=dst_:=id rfl
@[simp] theorem qeY(dst_:Option Nat)(gd_:Option (Nat×Bool))(mx:Bool)(xs:List Operand):(CI.op dst_ gd_ (.mm mx xs)).wid=dst_:=id rfl
@[simp] theorem Tn(d:Option Nat)(g:Option (Nat×Bool))(r el n b:Nat)(x y:Operand):(CI.op d g (.append (some r) el n b x y)).wid=some r:=id rfl
@[simp] theorem ZE(dst_:Option Nat)(gd_:Option (Nat×Bool))(f:Nat)(args:List Operand):(CI.op dst_ gd_ (.call f args)).wid=dst_:=id rfl
@[simp] theorem YK(dst_:Option Nat)(gd_:Option (Nat×Bool))(r f:Nat)(args:List Operand):(CI.op dst_ gd_ (.callb r f args)).wid=some r:=id rfl
abbrev B:=ByteArray
structure I32 where
 val:Int
deriving DecidableEq
instance:Cod I32 where
 wd:=1
 enc n:= .v (.int .i32 n.val)
 dec| .v (.int .i32 n)=>some ⟨n⟩|_=>none
 kn _:=rfl
 wid _:=rfl
 dec_enc _:=rfl
 le d x h:=by
  split at h
  ·cases h;exact .same _
  ·cases h
@[simp] theorem qd7(n:I32):enc n= .v (.int .i32 n.val):=id rfl
@[simp] theorem qe5:Cod.wd I32=1:=id rfl
@[simp] theorem qee(n:Int):dec (X:=I32) (.v (.int .i32 n))=some ⟨n⟩:=id rfl
@[simp] theorem qd0(n:I32):I32.mk n.val=n:=id rfl
structure U8 where
 val:Int
deriving DecidableEq
instance:Cod U8 where
 wd:=1
 enc n:= .v (.int .u8 n.val)
 dec| .v (.int .u8 n)=>some ⟨n⟩|_=>none
 kn _:=rfl
 wid _:=rfl
 dec_enc _:=rfl
 le d x h:=by
  split at h
  ·cases h;exact .same _
  ·cases h
@[simp] theorem qgu(n:U8):enc n= .v (.int .u8 n.val):=id rfl
@[simp] theorem qgD(n:Int):dec (X:=U8) (.v (.int .u8 n))=some ⟨n⟩:=id rfl
@[simp] theorem qgo(n:U8):U8.mk n.val=n:=id rfl
structure Pair where
 nm:B
 vl:B
deriving DecidableEq
instance:Cod Pair where
 wd:=2
 enc s:= .agg [enc s.nm,enc s.vl]
 dec| .agg [x0,x1]=>(dec x0).bind λx0=>(dec x1).bind λx1=>some ⟨x0,x1⟩|_=>none
 kn _:=rfl
 wid _:=rfl
 dec_enc s:=by simp
 le d x h:=by
  split at h
  ·simp only[qjy]at h;obtain⟨x0,h0,x1,h1,h⟩:=h;cases h;exact LeL.agg (.cons (Cod.le _ _ h0) (.cons (Cod.le _ _ h1) .nil))
  ·cases h
@[simp] theorem qbu(s:Pair):(Pair.mk s.nm s.vl)=s:=id rfl
@[simp] theorem qbx(s:Pair):enc s= .agg [enc s.nm,enc s.vl]:=id rfl
@[simp] theorem qcx:Cod.wd Pair=2:=id rfl
@[simp] theorem qbG(x0 x1:D):dec (X:=Pair) (.agg [x0,x1])=((dec x0).bind λx0=>(dec x1).bind λx1=>some ⟨x0,x1⟩):=id rfl
structure Attr where
 nm:B
 st:Bool
deriving DecidableEq
instance:Cod Attr where
 wd:=2
 enc s:= .agg [enc s.nm,enc s.st]
 dec| .agg [x0,x1]=>(dec x0).bind λx0=>(dec x1).bind λx1=>some ⟨x0,x1⟩|_=>none
 kn _:=rfl
 wid _:=rfl
 dec_enc s:=by simp
 le d x h:=by
  split at h
  ·simp only[qjy]at h;obtain⟨x0,h0,x1,h1,h⟩:=h;cases h;exact LeL.agg (.cons (Cod.le _ _ h0) (.cons (Cod.le _ _ h1) .nil))
  ·cases h
@[simp] theorem qbv(s:Attr):(Attr.mk s.nm s.st)=s:=id rfl
@[simp] theorem qbz(s:Attr):enc s= .agg [enc s.nm,enc s.st]:=id rfl
@[simp] theorem qcA:Cod.wd Attr=2:=id rfl
@[simp] theorem qbI(x0 x1:D):dec (X:=Attr) (.agg [x0,x1])=((dec x0).bind λx0=>(dec x1).bind λx1=>some ⟨x0,x1⟩):=id rfl
structure zh where
 b:Int
 e:Int
deriving DecidableEq
instance:Cod zh where
 wd:=2
 enc s:= .agg [enc s.b,enc s.e]
 dec| .agg [x0,x1]=>(dec x0).bind λx0=>(dec x1).bind λx1=>some ⟨x0,x1⟩|_=>none
 kn _:=rfl
 wid _:=rfl
 dec_enc s:=by simp
 le d x h:=by
  split at h
  ·simp only[qjy]at h;obtain⟨x0,h0,x1,h1,h⟩:=h;cases h;exact LeL.agg (.cons (Cod.le _ _ h0) (.cons (Cod.le _ _ h1) .nil))
  ·cases h
structure un where
 nm:B
 b:Int
 e:Int
 kv:List Pair
deriving DecidableEq
instance:Cod un where
 wd:=4
 enc s:= .agg [enc s.nm,enc s.b,enc s.e,enc s.kv]
 dec| .agg [x0,x1,x2,x3]=>(dec x0).bind λx0=>(dec x1).bind λx1=>(dec x2).bind λx2=>(dec x3).bind λx3=>some ⟨x0,x1,x2,x3⟩|_=>none
 kn _:=rfl
 wid _:=rfl
 dec_enc s:=by simp
 le d x h:=by
  split at h
  ·simp only[qjy]at h;obtain⟨x0,h0,x1,h1,x2,h2,x3,h3,h⟩:=h;cases h;exact LeL.agg (.cons (Cod.le _ _ h0) (.cons (Cod.le _ _ h1) (.cons (Cod.le _ _ h2) (.cons (Cod.le _ _ h3) .nil))))
  ·cases h
@[simp] theorem qbw(s:un):enc s= .agg [enc s.nm,enc s.b,enc s.e,enc s.kv]:=id rfl
@[simp] theorem qcw:Cod.wd un=4:=id rfl
@[simp] theorem qbF(x0 x1 x2 x3:D):dec (X:=un) (.agg [x0,x1,x2,x3])=((dec x0).bind λx0=>(dec x1).bind λx1=>(dec x2).bind λx2=>(dec x3).bind λx3=>some ⟨x0,x1,x2,x3⟩):=id rfl
structure Region where
 ty:B
 b:Int
 e:Int
 kv:List Pair
deriving DecidableEq
instance:Cod Region where
 wd:=4
 enc s:= .agg [enc s.ty,enc s.b,enc s.e,enc s.kv]
 dec| .agg [x0,x1,x2,x3]=>(dec x0).bind λx0=>(dec x1).bind λx1=>(dec x2).bind λx2=>(dec x3).bind λx3=>some ⟨x0,x1,x2,x3⟩|_=>none
 kn _:=rfl
 wid _:=rfl
 dec_enc s:=by simp
 le d x h:=by
  split at h
  ·simp only[qjy]at h;obtain⟨x0,h0,x1,h1,x2,h2,x3,h3,h⟩:=h;cases h;exact LeL.agg (.cons (Cod.le _ _ h0) (.cons (Cod.le _ _ h1) (.cons (Cod.le _ _ h2) (.cons (Cod.le _ _ h3) .nil))))
  ·cases h
@[simp] theorem XG(s:Region):(Region.mk s.ty s.b s.e s.kv)=s:=id rfl
@[simp] theorem XK(s:Region):enc s= .agg [enc s.ty,enc s.b,enc s.e,enc s.kv]:=id rfl
@[simp] theorem YP:Cod.wd Region=4:=id rfl
@[simp] theorem XW(x0 x1 x2 x3:D):dec (X:=Region) (.agg [x0,x1,x2,x3])=((dec x0).bind λx0=>(dec x1).bind λx1=>(dec x2).bind λx2=>(dec x3).bind λx3=>some ⟨x0,x1,x2,x3⟩):=id rfl
structure qB where
 lb:B
 b:Int
 e:Int
 par:Int
deriving DecidableEq
instance:Cod qB where
 wd:=4
 enc s:= .agg [enc s.lb,enc s.b,enc s.e,enc s.par]
 dec| .agg [x0,x1,x2,x3]=>(dec x0).bind λx0=>(dec x1).bind λx1=>(dec x2).bind λx2=>(dec x3).bind λx3=>some ⟨x0,x1,x2,x3⟩|_=>none
 kn _:=rfl
 wid _:=rfl
 dec_enc s:=by simp
 le d x h:=by
  split at h
  ·simp only[qjy]at h;obtain⟨x0,h0,x1,h1,x2,h2,x3,h3,h⟩:=h;cases h;exact LeL.agg (.cons (Cod.le _ _ h0) (.cons (Cod.le _ _ h1) (.cons (Cod.le _ _ h2) (.cons (Cod.le _ _ h3) .nil))))
  ·cases h
@[simp] theorem qby(s:qB):enc s= .agg [enc s.lb,enc s.b,enc s.e,enc s.par]:=id rfl
@[simp] theorem qcy:Cod.wd qB=4:=id rfl
structure Corpus where
 attrs:List Attr
 toks:List (List B)
 texts:List un
 regs:List Region
 nodes:List qB
 heads:List Int
 rels:List B
deriving DecidableEq
instance:Cod Corpus where
 wd:=7
 enc s:= .agg [enc s.attrs,enc s.toks,enc s.texts,enc s.regs,enc s.nodes,enc s.heads,enc s.rels]
 dec| .agg [x0,x1,x2,x3,x4,x5,x6]=>(dec x0).bind λx0=>(dec x1).bind λx1=>(dec x2).bind λx2=>(dec x3).bind λx3=>(dec x4).bind λx4=>(dec x5).bind λx5=>(dec x6).bind λx6=>some ⟨x0,x1,x2,x3,x4,x5,x6⟩|_=>none
 kn _:=rfl
 wid _:=rfl
 dec_enc s:=by simp
 le d x h:=by
  split at h
  ·simp only[qjy]at h;obtain⟨x0,h0,x1,h1,x2,h2,x3,h3,x4,h4,x5,h5,x6,h6,h⟩:=h;cases h;exact LeL.agg (.cons (Cod.le _ _ h0) (.cons (Cod.le _ _ h1) (.cons (Cod.le _ _ h2) (.cons (Cod.le _ _ h3) (.cons (Cod.le _ _ h4) (.cons (Cod.le _ _ h5) (.cons (Cod.le _ _ h6) .nil)))))))
  ·cases h
@[simp] theorem XI(s:Corpus):(Corpus.mk s.attrs s.toks s.texts s.regs s.nodes s.heads s.rels)=s:=id rfl
@[simp] theorem XL(s:Corpus):enc s= .agg [enc s.attrs,enc s.toks,enc s.texts,enc s.regs,enc s.nodes,enc s.heads,enc s.rels]:=id rfl
@[simp] theorem XX(x0 x1 x2 x3 x4 x5 x6:D):dec (X:=Corpus) (.agg [x0,x1,x2,x3,x4,x5,x6])=((dec x0).bind λx0=>(dec x1).bind λx1=>(dec x2).bind λx2=>(dec x3).bind λx3=>(dec x4).bind λx4=>(dec x5).bind λx5=>(dec x6).bind λx6=>some ⟨x0,x1,x2,x3,x4,x5,x6⟩):=id rfl
structure pY where
 r:I32
 pos:Int
 sz:Int
 ok:Bool
deriving DecidableEq
instance:Cod pY where
 wd:=4
 enc s:= .agg [enc s.r,enc s.pos,enc s.sz,enc s.ok]
 dec| .agg [x0,x1,x2,x3]=>(dec x0).bind λx0=>(dec x1).bind λx1=>(dec x2).bind λx2=>(dec x3).bind λx3=>some ⟨x0,x1,x2,x3⟩|_=>none
 kn _:=rfl
 wid _:=rfl
 dec_enc s:=by simp
 le d x h:=by
  split at h
  ·simp only[qjy]at h;obtain⟨x0,h0,x1,h1,x2,h2,x3,h3,h⟩:=h;cases h;exact LeL.agg (.cons (Cod.le _ _ h0) (.cons (Cod.le _ _ h1) (.cons (Cod.le _ _ h2) (.cons (Cod.le _ _ h3) .nil))))
  ·cases h
@[simp] theorem XJ(s:pY):enc s= .agg [enc s.r,enc s.pos,enc s.sz,enc s.ok]:=id rfl
@[simp] theorem YO:Cod.wd pY=4:=id rfl
def bi{α:Type}{l:List α}{k:Nat}{a:α}(h:l[k]? =some a):l.take (k+1)=l.take k++ [a]:=by
 rw[qlx,h];rfl
def fF{α:Type}{l:List α}{k:Nat}{a:α}(h:l[k]? =some a):a∈l:=qjD h
def eM{α:Type}{l:List α}{k:Nat}(h:k < l.length):∃a,l[k]? =some a:=⟨l[k],qjC h⟩
def qau(a b:zh):Prop:=a.b < b.b\/a.b=b.b/\a.e < b.e
instance (a b:zh):Decidable (qau a b):=by unfold qau;infer_instance
def UA(a:zh):¬qau a a:=by unfold qau;omega
def SS(l:List zh):Prop:=l.Pairwise qau
def SS.nil:SS []:=List.Pairwise.nil
def IsNorm(l r:List zh):Prop:=SS r/\∀x,x∈r↔x∈l
def IsNorm.nil:IsNorm [] []:=⟨SS.nil,λ_=>qkt⟩
def IsNorm.congr{l l' r:List zh}(h:IsNorm l r)(hl:∀x,x∈l↔x∈l'):IsNorm l' r:=⟨h.1,λx=>(h.2 x).trans (hl x)⟩
def P9:∀ {r l:List zh},SS r->(∀x∈r,x∈l)->r.length<=l.length
 | [],l,_,_=>qj5 _
 | x::r,l,h,hl=>by
   have h':=qlQ.1 h;have hx:=hl x (by simp);have:=P9 (l:=l.erase x) h'.2 λy hy=>(List.mem_erase_of_ne (λ(e:y=x)=>UA x (by have:=h'.1 y hy;rwa [e]at this))).2 (hl y (by simp[hy]))
   rw[List.length_erase_of_mem hx]at this;have:=List.length_pos_of_mem hx;simp;omega
def IsNorm.len{l r:List zh}(h:IsNorm l r):r.length<=l.length:=P9 h.1 λx hx=>(h.2 x).1 hx
def IsNorm.same{l l' r:List zh}(h:IsNorm l r)(hl:∀x,x∈l'↔x∈l):IsNorm l' r:=⟨h.1,λx=>(h.2 x).trans (hl x).symm⟩
def ko{X:Type} :List X->(X->Bool)->Int
 | [],_=> -1
 | x::l,p=>if p x then 0 else if ko l p < 0 then -1 else ko l p+1
def gX{X:Type}{p:X->Bool} :∀ {l:List X},(∀y∈l,p y=false)->ko l p= -1
 | [],_=>rfl
 | x::l,h=>by
   have:=gX (l:=l) (λy hy=>h y (by simp[hy]));simp[ko,h x (by simp),this]
def mV{X:Type}{p:X->Bool} :∀ {l:List X} {k:Nat} {x:X},l[k]? =some x->p x=true->(∀y∈l.take k,p y=false)->ko l p=k
 | [],k,x,hx,_,_=>by simp at hx
 | z::l,0,x,hx,hp,_=>by
   simp at hx;subst hx;simp[ko,hp]
 | z::l,k+1,x,hx,hp,hb=>by
   have hz:=hb z (by simp);have ih:=mV (l:=l) (k:=k) (by simpa using hx) hp (λy hy=>hb y (by simp[hy]));simp[ko,hz,ih];omega
def Dl{X:Type}(p:X->Bool)(l:List X):(ko l p= -1/\∀y∈l,p y=false)\/ ∃k x,ko l p=(k:Nat)/\l[k]? =some x/\p x=true/\∀y∈l.take k,p y=false:=by
 induction l with
 | nil=>exact .inl ⟨rfl,by simp⟩
 | cons z l ih=>
   by_cases hz:p z=true
   ·exact .inr ⟨0,z,by simp[ko,hz],by simp,hz,by simp⟩
   ·have hz:p z=false:=by simpa using hz
    rcases ih with⟨h1,h2⟩|⟨k,x,h1,h2,h3,h4⟩
    ·refine .inl ⟨by simp[ko,hz,h1],λy hy=>?_⟩;rcases qjW.1 hy with rfl|hy
     ·exact hz
     ·exact h2 y hy
    ·refine .inr ⟨k+1,x,?_,by simpa using h2,h3,λy hy=>?_⟩
     ·simp[ko,hz,h1];omega
     ·rw[qlN]at hy;rcases qjW.1 hy with rfl|hy
      ·exact hz
      ·exact h4 y hy
def yy{X:Type}(p:X->Bool)(l:List X):decide (0<=ko l p)=l.any p:=by
 rcases Dl p l with⟨h1,h2⟩|⟨k,x,h1,h2,h3,h4⟩
 ·have:l.any p=false:=by simpa using h2
  rw[h1,this];rfl
 ·have:l.any p=true:=qko.2 ⟨x,fF h2,h3⟩;rw[h1,this];simp
def SS.filter{l:List zh}(h:SS l)(p:zh->Bool):SS (l.filter p):=List.Pairwise.filter p h
def IsNorm.filter{l r:List zh}(h:IsNorm l r)(p:zh->Bool):IsNorm (l.filter p) (r.filter p):=⟨h.1.filter p,λx=>by simp[h.2 x]⟩
def Pi(s:ByteArray)(p:Nat)(h:p < s.size):1<=(Utf8.decode s p).2/\p+ (Utf8.decode s p).2<=s.size:=by
 unfold Utf8.decode;simp only[qjE,decide_eq_true_eq]
 repeat' split
 all_goals (try simp only[])
 all_goals omega
end Go.Gv
