/- A part of the framework and of the walks: T13 V1 L1. -/
import Derived.Test.YtfbleenmepoodaaGreatDoorGb18
set_option linter.unusedSimpArgs false
set_option linter.unusedVariables false
set_option linter.unusedSectionVars false
set_option linter.defProp false
namespace Go.Gv
open Cod (enc dec)
def bJ{X:Type}[Cod X]{x y:X}(h:enc x=enc y):x=y:=by
 have:=congrArg (dec (X:=X)) h;simpa using this
@[simp] theorem qi2{X:Type}[Cod X](l l':List X):(l.map enc=l'.map enc)=(l=l'):=by
 refine propext ⟨λh=>?_,λh=>h ▸rfl⟩
 induction l generalizing l' with
 | nil=>cases l' with
   | nil=>rfl
   | cons y l'=>simp at h
 | cons x l ih=>cases l' with
   | nil=>simp at h
   | cons y l'=>
     simp only[qmD,qmR]at h;rw[bJ h.1,ih _ h.2]
def gp{X:Type}[Cod X](l:List X)(i:Nat)(x:X):(l.map enc).set i (enc x)=(l.set i x).map enc:=by
 rw[List.map_set]
def J7{X:Type}[Cod X](l:List X)(x:X):l.map enc++ [enc x]=(l++ [x]).map enc:=by simp
def iM{X:Type}[Cod X]{H:ab}{id n:Nat}{v:Value}{l:List X}(el:Nat)(h:H id=some (.row v el n (l.map enc)))(hn:n=Cod.wd X:=by rfl):FrzTo H (.own id v) (.list n (l.map enc)):=by
 subst hn;exact Rm h
inductive Ky where
 | e
 | o (k:Ky)
 | i (k:Ky)
deriving DecidableEq
inductive Tr where
 | nil
 | nd (d:D) (l r:Tr)
def Tr.get:Tr->Ky->D
 | .nil,_=> .any
 | .nd d _ _, .e=>d
 | .nd _ l _, .o k=>l.get k
 | .nd _ _ r, .i k=>r.get k
def Tr.set:Tr->Ky->D->Tr
 | .nil, .e,x=> .nd x .nil .nil
 | .nil, .o k,x=> .nd .any (Tr.set .nil k x) .nil
 | .nil, .i k,x=> .nd .any .nil (Tr.set .nil k x)
 | .nd _ l r, .e,x=> .nd x l r
 | .nd d l r, .o k,x=> .nd d (l.set k x) r
 | .nd d l r, .i k,x=> .nd d l (r.set k x)
noncomputable def Tr.frz(id:Nat)(x:Value)(L:D):Tr->Tr
 | .nil=> .nil
 | .nd d l r=> .nd (qab id x L d) (l.frz id x L) (r.frz id x L)
def qcU:Nat->Nat->Ky
 | 0,_=> .e
 | f+1,n=>if n=0 then .e else if(n -1) % 2=0 then .o (qcU f ((n -1) /2))else .i (qcU f ((n -1) /2))
def ky(n:Nat):Ky:=qcU n n
def Ky.val:Ky->Nat
 | .e=>0
 | .o k=>2*k.val+1
 | .i k=>2*k.val+2
def Du:∀ (f n:Nat),n<=f->(qcU f n).val=n
 | 0,n,h=>by
   have:n=0:=by omega
   subst this;rfl
 | f+1,n,h=>by
   unfold qcU;split
   ·rename_i e;subst e;rfl
   ·split
    ·simp only[Ky.val];rw[Du f _ (by omega)];omega
    ·simp only[Ky.val];rw[Du f _ (by omega)];omega
def TS{m n:Nat}(h:ky m=ky n):m=n:=by
 have h1:=Du m m (qmm _);have h2:=Du n n (qmm _);unfold ky at h;rw[h]at h1;exact h1.symm.trans h2
def get_set:∀ (T:Tr) (k j:Ky) (x:D),(T.set k x).get j=if j=k then x else T.get j
 | .nil, .e,j,x=>by cases j <;> simp[Tr.set,Tr.get]
 | .nil, .o k,j,x=>by
   have ih:=λj=>get_set .nil k j x
   cases j <;> simp[Tr.set,Tr.get,ih]
 | .nil, .i k,j,x=>by
   have ih:=λj=>get_set .nil k j x
   cases j <;> simp[Tr.set,Tr.get,ih]
 | .nd d l r, .e,j,x=>by cases j <;> simp[Tr.set,Tr.get]
 | .nd d l r, .o k,j,x=>by
   have ih:=λj=>get_set l k j x
   cases j <;> simp[Tr.set,Tr.get,ih]
 | .nd d l r, .i k,j,x=>by
   have ih:=λj=>get_set r k j x
   cases j <;> simp[Tr.set,Tr.get,ih]
def JB(T:Tr):Sg:=λt=>T.get (ky t)
@[simp] theorem qgc(T:Tr)(t:Nat):JB T t=T.get (ky t):=id rfl
@[simp] theorem qb4(T:Tr)(t:Nat)(d:D):upd (JB T) t d=JB (T.set (ky t) d):=by
 funext s;simp only[upd,JB,get_set];by_cases h:s=t
 ·simp[h]
 ·have:¬ky s=ky t:=λe=>h (TS e)
  simp[h,this]
def Uj:JB .nil=λ_=> .any:=by
 funext t;simp[JB,Tr.get]
@[simp] theorem Z2(σ:Sg):gV [] σ=JB .nil:=by rw[Uj];rfl
@[simp] theorem Xm(t:Nat)(l:List Nat)(σ:Sg):gV (t::l) σ=upd (gV l σ) t (σ t):=id rfl
@[simp] theorem qjV(σ:Sg):pH [] σ=σ:=id rfl
@[simp] theorem qha(t:Nat)(d:D)(l:List (Nat×D))(σ:Sg):pH ((t,d)::l) σ=upd (pH l σ) t d:=id rfl
def Cg:Nat->List D->Tr
 | _, []=> .nil
 | n,d::l=>(Cg (n+1) l).set (ky n) d
@[simp] theorem qbt(n:Nat):Cg n []= .nil:=id rfl
@[simp] theorem Z6(n:Nat)(d:D)(l:List D):Cg n (d::l)=(Cg (n+1) l).set (ky n) d:=id rfl
def Hd:∀ (l:List D) (n t:Nat),(Cg n l).get (ky t)=if n<=t then(l[t -n]?).getD .any else .any
 | [],n,t=>by simp[Cg,Tr.get]
 | d::l,n,t=>by
   rw[Cg,get_set,Hd l (n+1) t];by_cases h:t=n
   ·subst h;simp
   ·have:¬ky t=ky n:=λe=>h (TS e)
    rw[if_neg this];by_cases h2:n+1<=t
    ·have h3:n<=t:=by omega
     rw[if_pos h2,if_pos h3];have:t -n=(t - (n+1)) +1:=by omega
     rw[this];simp
    ·have h3:¬n<=t:=by omega
     rw[if_neg h2,if_neg h3]
@[simp] theorem qiE(l:List D):cE l=JB (Cg 0 l):=by
 funext t;simp[cE,JB,Hd]
@[simp] theorem qln(d:D)(l r:Tr):(Tr.nd d l r).get .e=d:=id rfl
@[simp] theorem qll(d:D)(l r:Tr)(k:Ky):(Tr.nd d l r).get (.o k)=l.get k:=id rfl
@[simp] theorem qlm(d:D)(l r:Tr)(k:Ky):(Tr.nd d l r).get (.i k)=r.get k:=id rfl
@[simp] theorem qkc(x:D):Tr.nil.set .e x= .nd x .nil .nil:=id rfl
@[simp] theorem qka(k:Ky)(x:D):Tr.nil.set (.o k) x= .nd .any (Tr.set .nil k x) .nil:=id rfl
@[simp] theorem qkb(k:Ky)(x:D):Tr.nil.set (.i k) x= .nd .any .nil (Tr.set .nil k x):=id rfl
@[simp] theorem qlk(d:D)(l r:Tr)(x:D):(Tr.nd d l r).set .e x= .nd x l r:=id rfl
@[simp] theorem qli(d:D)(l r:Tr)(k:Ky)(x:D):(Tr.nd d l r).set (.o k) x= .nd d (l.set k x) r:=id rfl
@[simp] theorem qlj(d:D)(l r:Tr)(k:Ky)(x:D):(Tr.nd d l r).set (.i k) x= .nd d l (r.set k x):=id rfl
@[simp] theorem qlJ:ky 0= .e/\ky 1= .o .e/\ky 2= .i .e/\ky 3= .o (.o .e)/\ky 4= .i (.o .e)/\ky 5= .o (.i .e)/\ky 6= .i (.i .e)/\ky 7= .o (.o (.o .e))/\ky 8= .i (.o (.o .e))/\ky 9= .o (.i (.o .e))/\ky 10= .i (.i (.o .e))/\ky 11= .o (.o (.i .e))/\ky 12= .i (.o (.i .e))/\ky 13= .o (.i (.i .e))/\ky 14= .i (.i (.i .e))/\ky 15= .o (.o (.o (.o .e)))/\ky 16= .i (.o (.o (.o .e)))/\ky 17= .o (.i (.o (.o .e)))/\ky 18= .i (.i (.o (.o .e)))/\ky 19= .o (.o (.i (.o .e)))/\ky 20= .i (.o (.i (.o .e)))/\ky 21= .o (.i (.i (.o .e)))/\ky 22= .i (.i (.i (.o .e)))/\ky 23= .o (.o (.o (.i .e)))/\ky 24= .i (.o (.o (.i .e)))/\ky 25= .o (.i (.o (.i .e)))/\ky 26= .i (.i (.o (.i .e)))/\ky 27= .o (.o (.i (.i .e)))/\ky 28= .i (.o (.i (.i .e)))/\ky 29= .o (.i (.i (.i .e)))/\ky 30= .i (.i (.i (.i .e)))/\ky 31= .o (.o (.o (.o (.o .e))))/\ky 32= .i (.o (.o (.o (.o .e))))/\ky 33= .o (.i (.o (.o (.o .e))))/\ky 34= .i (.i (.o (.o (.o .e))))/\ky 35= .o (.o (.i (.o (.o .e))))/\ky 36= .i (.o (.i (.o (.o .e))))/\ky 37= .o (.i (.i (.o (.o .e))))/\ky 38= .i (.i (.i (.o (.o .e))))/\ky 39= .o (.o (.o (.i (.o .e))))/\ky 40= .i (.o (.o (.i (.o .e))))/\ky 41= .o (.i (.o (.i (.o .e))))/\ky 42= .i (.i (.o (.i (.o .e))))/\ky 43= .o (.o (.i (.i (.o .e))))/\ky 44= .i (.o (.i (.i (.o .e))))/\ky 45= .o (.i (.i (.i (.o .e))))/\ky 46= .i (.i (.i (.i (.o .e))))/\ky 47= .o (.o (.o (.o (.i .e))))/\ky 48= .i (.o (.o (.o (.i .e))))/\ky 49= .o (.i (.o (.o (.i .e))))/\ky 50= .i (.i (.o (.o (.i .e))))/\ky 51= .o (.o (.i (.o (.i .e))))/\ky 52= .i (.o (.i (.o (.i .e))))/\ky 53= .o (.i (.i (.o (.i .e))))/\ky 54= .i (.i (.i (.o (.i .e))))/\ky 55= .o (.o (.o (.i (.i .e))))/\ky 56= .i (.o (.o (.i (.i .e))))/\ky 57= .o (.i (.o (.i (.i .e))))/\ky 58= .i (.i (.o (.i (.i .e))))/\ky 59= .o (.o (.i (.i (.i .e)))):=by and_intros <;> exact id rfl
@[simp] theorem qlI:ky 60= .i (.o (.i (.i (.i .e))))/\ky 61= .o (.i (.i (.i (.i .e))))/\ky 62= .i (.i (.i (.i (.i .e))))/\ky 63= .o (.o (.o (.o (.o (.o .e)))))/\ky 64= .i (.o (.o (.o (.o (.o .e)))))/\ky 65= .o (.i (.o (.o (.o (.o .e)))))/\ky 66= .i (.i (.o (.o (.o (.o .e)))))/\ky 67= .o (.o (.i (.o (.o (.o .e)))))/\ky 68= .i (.o (.i (.o (.o (.o .e)))))/\ky 69= .o (.i (.i (.o (.o (.o .e)))))/\ky 70= .i (.i (.i (.o (.o (.o .e)))))/\ky 71= .o (.o (.o (.i (.o (.o .e)))))/\ky 72= .i (.o (.o (.i (.o (.o .e)))))/\ky 73= .o (.i (.o (.i (.o (.o .e)))))/\ky 74= .i (.i (.o (.i (.o (.o .e)))))/\ky 75= .o (.o (.i (.i (.o (.o .e)))))/\ky 76= .i (.o (.i (.i (.o (.o .e)))))/\ky 77= .o (.i (.i (.i (.o (.o .e)))))/\ky 78= .i (.i (.i (.i (.o (.o .e)))))/\ky 79= .o (.o (.o (.o (.i (.o .e)))))/\ky 80= .i (.o (.o (.o (.i (.o .e)))))/\ky 81= .o (.i (.o (.o (.i (.o .e)))))/\ky 82= .i (.i (.o (.o (.i (.o .e)))))/\ky 83= .o (.o (.i (.o (.i (.o .e)))))/\ky 84= .i (.o (.i (.o (.i (.o .e)))))/\ky 85= .o (.i (.i (.o (.i (.o .e)))))/\ky 86= .i (.i (.i (.o (.i (.o .e)))))/\ky 87= .o (.o (.o (.i (.i (.o .e)))))/\ky 88= .i (.o (.o (.i (.i (.o .e)))))/\ky 89= .o (.i (.o (.i (.i (.o .e)))))/\ky 90= .i (.i (.o (.i (.i (.o .e)))))/\ky 91= .o (.o (.i (.i (.i (.o .e)))))/\ky 92= .i (.o (.i (.i (.i (.o .e)))))/\ky 93= .o (.i (.i (.i (.i (.o .e)))))/\ky 94= .i (.i (.i (.i (.i (.o .e)))))/\ky 95= .o (.o (.o (.o (.o (.i .e)))))/\ky 96= .i (.o (.o (.o (.o (.i .e)))))/\ky 97= .o (.i (.o (.o (.o (.i .e)))))/\ky 98= .i (.i (.o (.o (.o (.i .e)))))/\ky 99= .o (.o (.i (.o (.o (.i .e)))))/\ky 100= .i (.o (.i (.o (.o (.i .e)))))/\ky 101= .o (.i (.i (.o (.o (.i .e)))))/\ky 102= .i (.i (.i (.o (.o (.i .e)))))/\ky 103= .o (.o (.o (.i (.o (.i .e)))))/\ky 104= .i (.o (.o (.i (.o (.i .e)))))/\ky 105= .o (.i (.o (.i (.o (.i .e)))))/\ky 106= .i (.i (.o (.i (.o (.i .e)))))/\ky 107= .o (.o (.i (.i (.o (.i .e)))))/\ky 108= .i (.o (.i (.i (.o (.i .e)))))/\ky 109= .o (.i (.i (.i (.o (.i .e)))))/\ky 110= .i (.i (.i (.i (.o (.i .e)))))/\ky 111= .o (.o (.o (.o (.i (.i .e)))))/\ky 112= .i (.o (.o (.o (.i (.i .e)))))/\ky 113= .o (.i (.o (.o (.i (.i .e)))))/\ky 114= .i (.i (.o (.o (.i (.i .e)))))/\ky 115= .o (.o (.i (.o (.i (.i .e)))))/\ky 116= .i (.o (.i (.o (.i (.i .e)))))/\ky 117= .o (.i (.i (.o (.i (.i .e)))))/\ky 118= .i (.i (.i (.o (.i (.i .e)))))/\ky 119= .o (.o (.o (.i (.i (.i .e))))):=by and_intros <;> exact id rfl
@[simp] theorem qlH:ky 120= .i (.o (.o (.i (.i (.i .e)))))/\ky 121= .o (.i (.o (.i (.i (.i .e)))))/\ky 122= .i (.i (.o (.i (.i (.i .e)))))/\ky 123= .o (.o (.i (.i (.i (.i .e)))))/\ky 124= .i (.o (.i (.i (.i (.i .e)))))/\ky 125= .o (.i (.i (.i (.i (.i .e)))))/\ky 126= .i (.i (.i (.i (.i (.i .e)))))/\ky 127= .o (.o (.o (.o (.o (.o (.o .e))))))/\ky 128= .i (.o (.o (.o (.o (.o (.o .e))))))/\ky 129= .o (.i (.o (.o (.o (.o (.o .e))))))/\ky 130= .i (.i (.o (.o (.o (.o (.o .e))))))/\ky 131= .o (.o (.i (.o (.o (.o (.o .e))))))/\ky 132= .i (.o (.i (.o (.o (.o (.o .e))))))/\ky 133= .o (.i (.i (.o (.o (.o (.o .e))))))/\ky 134= .i (.i (.i (.o (.o (.o (.o .e))))))/\ky 135= .o (.o (.o (.i (.o (.o (.o .e))))))/\ky 136= .i (.o (.o (.i (.o (.o (.o .e))))))/\ky 137= .o (.i (.o (.i (.o (.o (.o .e))))))/\ky 138= .i (.i (.o (.i (.o (.o (.o .e))))))/\ky 139= .o (.o (.i (.i (.o (.o (.o .e))))))/\ky 140= .i (.o (.i (.i (.o (.o (.o .e))))))/\ky 141= .o (.i (.i (.i (.o (.o (.o .e))))))/\ky 142= .i (.i (.i (.i (.o (.o (.o .e))))))/\ky 143= .o (.o (.o (.o (.i (.o (.o .e))))))/\ky 144= .i (.o (.o (.o (.i (.o (.o .e))))))/\ky 145= .o (.i (.o (.o (.i (.o (.o .e))))))/\ky 146= .i (.i (.o (.o (.i (.o (.o .e))))))/\ky 147= .o (.o (.i (.o (.i (.o (.o .e))))))/\ky 148= .i (.o (.i (.o (.i (.o (.o .e))))))/\ky 149= .o (.i (.i (.o (.i (.o (.o .e))))))/\ky 150= .i (.i (.i (.o (.i (.o (.o .e))))))/\ky 151= .o (.o (.o (.i (.i (.o (.o .e))))))/\ky 152= .i (.o (.o (.i (.i (.o (.o .e))))))/\ky 153= .o (.i (.o (.i (.i (.o (.o .e))))))/\ky 154= .i (.i (.o (.i (.i (.o (.o .e))))))/\ky 155= .o (.o (.i (.i (.i (.o (.o .e))))))/\ky 156= .i (.o (.i (.i (.i (.o (.o .e))))))/\ky 157= .o (.i (.i (.i (.i (.o (.o .e))))))/\ky 158= .i (.i (.i (.i (.i (.o (.o .e))))))/\ky 159= .o (.o (.o (.o (.o (.i (.o .e))))))/\ky 160= .i (.o (.o (.o (.o (.i (.o .e))))))/\ky 161= .o (.i (.o (.o (.o (.i (.o .e))))))/\ky 162= .i (.i (.o (.o (.o (.i (.o .e))))))/\ky 163= .o (.o (.i (.o (.o (.i (.o .e))))))/\ky 164= .i (.o (.i (.o (.o (.i (.o .e))))))/\ky 165= .o (.i (.i (.o (.o (.i (.o .e))))))/\ky 166= .i (.i (.i (.o (.o (.i (.o .e))))))/\ky 167= .o (.o (.o (.i (.o (.i (.o .e))))))/\ky 168= .i (.o (.o (.i (.o (.i (.o .e))))))/\ky 169= .o (.i (.o (.i (.o (.i (.o .e))))))/\ky 170= .i (.i (.o (.i (.o (.i (.o .e))))))/\ky 171= .o (.o (.i (.i (.o (.i (.o .e))))))/\ky 172= .i (.o (.i (.i (.o (.i (.o .e))))))/\ky 173= .o (.i (.i (.i (.o (.i (.o .e))))))/\ky 174= .i (.i (.i (.i (.o (.i (.o .e))))))/\ky 175= .o (.o (.o (.o (.i (.i (.o .e))))))/\ky 176= .i (.o (.o (.o (.i (.i (.o .e))))))/\ky 177= .o (.i (.o (.o (.i (.i (.o .e))))))/\ky 178= .i (.i (.o (.o (.i (.i (.o .e))))))/\ky 179= .o (.o (.i (.o (.i (.i (.o .e)))))):=by and_intros <;> exact id rfl
@[simp] theorem qlG:ky 180= .i (.o (.i (.o (.i (.i (.o .e))))))/\ky 181= .o (.i (.i (.o (.i (.i (.o .e))))))/\ky 182= .i (.i (.i (.o (.i (.i (.o .e))))))/\ky 183= .o (.o (.o (.i (.i (.i (.o .e))))))/\ky 184= .i (.o (.o (.i (.i (.i (.o .e))))))/\ky 185= .o (.i (.o (.i (.i (.i (.o .e))))))/\ky 186= .i (.i (.o (.i (.i (.i (.o .e))))))/\ky 187= .o (.o (.i (.i (.i (.i (.o .e))))))/\ky 188= .i (.o (.i (.i (.i (.i (.o .e))))))/\ky 189= .o (.i (.i (.i (.i (.i (.o .e))))))/\ky 190= .i (.i (.i (.i (.i (.i (.o .e))))))/\ky 191= .o (.o (.o (.o (.o (.o (.i .e))))))/\ky 192= .i (.o (.o (.o (.o (.o (.i .e))))))/\ky 193= .o (.i (.o (.o (.o (.o (.i .e))))))/\ky 194= .i (.i (.o (.o (.o (.o (.i .e))))))/\ky 195= .o (.o (.i (.o (.o (.o (.i .e))))))/\ky 196= .i (.o (.i (.o (.o (.o (.i .e))))))/\ky 197= .o (.i (.i (.o (.o (.o (.i .e))))))/\ky 198= .i (.i (.i (.o (.o (.o (.i .e))))))/\ky 199= .o (.o (.o (.i (.o (.o (.i .e))))))/\ky 200= .i (.o (.o (.i (.o (.o (.i .e))))))/\ky 201= .o (.i (.o (.i (.o (.o (.i .e))))))/\ky 202= .i (.i (.o (.i (.o (.o (.i .e))))))/\ky 203= .o (.o (.i (.i (.o (.o (.i .e))))))/\ky 204= .i (.o (.i (.i (.o (.o (.i .e))))))/\ky 205= .o (.i (.i (.i (.o (.o (.i .e))))))/\ky 206= .i (.i (.i (.i (.o (.o (.i .e))))))/\ky 207= .o (.o (.o (.o (.i (.o (.i .e))))))/\ky 208= .i (.o (.o (.o (.i (.o (.i .e))))))/\ky 209= .o (.i (.o (.o (.i (.o (.i .e))))))/\ky 210= .i (.i (.o (.o (.i (.o (.i .e))))))/\ky 211= .o (.o (.i (.o (.i (.o (.i .e))))))/\ky 212= .i (.o (.i (.o (.i (.o (.i .e))))))/\ky 213= .o (.i (.i (.o (.i (.o (.i .e))))))/\ky 214= .i (.i (.i (.o (.i (.o (.i .e))))))/\ky 215= .o (.o (.o (.i (.i (.o (.i .e))))))/\ky 216= .i (.o (.o (.i (.i (.o (.i .e))))))/\ky 217= .o (.i (.o (.i (.i (.o (.i .e))))))/\ky 218= .i (.i (.o (.i (.i (.o (.i .e))))))/\ky 219= .o (.o (.i (.i (.i (.o (.i .e))))))/\ky 220= .i (.o (.i (.i (.i (.o (.i .e))))))/\ky 221= .o (.i (.i (.i (.i (.o (.i .e))))))/\ky 222= .i (.i (.i (.i (.i (.o (.i .e))))))/\ky 223= .o (.o (.o (.o (.o (.i (.i .e))))))/\ky 224= .i (.o (.o (.o (.o (.i (.i .e))))))/\ky 225= .o (.i (.o (.o (.o (.i (.i .e))))))/\ky 226= .i (.i (.o (.o (.o (.i (.i .e))))))/\ky 227= .o (.o (.i (.o (.o (.i (.i .e))))))/\ky 228= .i (.o (.i (.o (.o (.i (.i .e))))))/\ky 229= .o (.i (.i (.o (.o (.i (.i .e))))))/\ky 230= .i (.i (.i (.o (.o (.i (.i .e))))))/\ky 231= .o (.o (.o (.i (.o (.i (.i .e))))))/\ky 232= .i (.o (.o (.i (.o (.i (.i .e))))))/\ky 233= .o (.i (.o (.i (.o (.i (.i .e))))))/\ky 234= .i (.i (.o (.i (.o (.i (.i .e))))))/\ky 235= .o (.o (.i (.i (.o (.i (.i .e))))))/\ky 236= .i (.o (.i (.i (.o (.i (.i .e))))))/\ky 237= .o (.i (.i (.i (.o (.i (.i .e))))))/\ky 238= .i (.i (.i (.i (.o (.i (.i .e))))))/\ky 239= .o (.o (.o (.o (.i (.i (.i .e)))))):=by and_intros <;> exact id rfl
@[simp] theorem qlF:ky 240= .i (.o (.o (.o (.i (.i (.i .e))))))/\ky 241= .o (.i (.o (.o (.i (.i (.i .e))))))/\ky 242= .i (.i (.o (.o (.i (.i (.i .e))))))/\ky 243= .o (.o (.i (.o (.i (.i (.i .e))))))/\ky 244= .i (.o (.i (.o (.i (.i (.i .e))))))/\ky 245= .o (.i (.i (.o (.i (.i (.i .e))))))/\ky 246= .i (.i (.i (.o (.i (.i (.i .e))))))/\ky 247= .o (.o (.o (.i (.i (.i (.i .e))))))/\ky 248= .i (.o (.o (.i (.i (.i (.i .e))))))/\ky 249= .o (.i (.o (.i (.i (.i (.i .e))))))/\ky 250= .i (.i (.o (.i (.i (.i (.i .e))))))/\ky 251= .o (.o (.i (.i (.i (.i (.i .e))))))/\ky 252= .i (.o (.i (.i (.i (.i (.i .e))))))/\ky 253= .o (.i (.i (.i (.i (.i (.i .e))))))/\ky 254= .i (.i (.i (.i (.i (.i (.i .e))))))/\ky 255= .o (.o (.o (.o (.o (.o (.o (.o .e)))))))/\ky 256= .i (.o (.o (.o (.o (.o (.o (.o .e)))))))/\ky 257= .o (.i (.o (.o (.o (.o (.o (.o .e)))))))/\ky 258= .i (.i (.o (.o (.o (.o (.o (.o .e)))))))/\ky 259= .o (.o (.i (.o (.o (.o (.o (.o .e)))))))/\ky 260= .i (.o (.i (.o (.o (.o (.o (.o .e)))))))/\ky 261= .o (.i (.i (.o (.o (.o (.o (.o .e)))))))/\ky 262= .i (.i (.i (.o (.o (.o (.o (.o .e)))))))/\ky 263= .o (.o (.o (.i (.o (.o (.o (.o .e)))))))/\ky 264= .i (.o (.o (.i (.o (.o (.o (.o .e)))))))/\ky 265= .o (.i (.o (.i (.o (.o (.o (.o .e)))))))/\ky 266= .i (.i (.o (.i (.o (.o (.o (.o .e)))))))/\ky 267= .o (.o (.i (.i (.o (.o (.o (.o .e)))))))/\ky 268= .i (.o (.i (.i (.o (.o (.o (.o .e)))))))/\ky 269= .o (.i (.i (.i (.o (.o (.o (.o .e)))))))/\ky 270= .i (.i (.i (.i (.o (.o (.o (.o .e)))))))/\ky 271= .o (.o (.o (.o (.i (.o (.o (.o .e)))))))/\ky 272= .i (.o (.o (.o (.i (.o (.o (.o .e)))))))/\ky 273= .o (.i (.o (.o (.i (.o (.o (.o .e)))))))/\ky 274= .i (.i (.o (.o (.i (.o (.o (.o .e)))))))/\ky 275= .o (.o (.i (.o (.i (.o (.o (.o .e)))))))/\ky 276= .i (.o (.i (.o (.i (.o (.o (.o .e)))))))/\ky 277= .o (.i (.i (.o (.i (.o (.o (.o .e)))))))/\ky 278= .i (.i (.i (.o (.i (.o (.o (.o .e)))))))/\ky 279= .o (.o (.o (.i (.i (.o (.o (.o .e)))))))/\ky 280= .i (.o (.o (.i (.i (.o (.o (.o .e)))))))/\ky 281= .o (.i (.o (.i (.i (.o (.o (.o .e)))))))/\ky 282= .i (.i (.o (.i (.i (.o (.o (.o .e)))))))/\ky 283= .o (.o (.i (.i (.i (.o (.o (.o .e)))))))/\ky 284= .i (.o (.i (.i (.i (.o (.o (.o .e)))))))/\ky 285= .o (.i (.i (.i (.i (.o (.o (.o .e)))))))/\ky 286= .i (.i (.i (.i (.i (.o (.o (.o .e)))))))/\ky 287= .o (.o (.o (.o (.o (.i (.o (.o .e)))))))/\ky 288= .i (.o (.o (.o (.o (.i (.o (.o .e)))))))/\ky 289= .o (.i (.o (.o (.o (.i (.o (.o .e)))))))/\ky 290= .i (.i (.o (.o (.o (.i (.o (.o .e)))))))/\ky 291= .o (.o (.i (.o (.o (.i (.o (.o .e)))))))/\ky 292= .i (.o (.i (.o (.o (.i (.o (.o .e)))))))/\ky 293= .o (.i (.i (.o (.o (.i (.o (.o .e)))))))/\ky 294= .i (.i (.i (.o (.o (.i (.o (.o .e)))))))/\ky 295= .o (.o (.o (.i (.o (.i (.o (.o .e)))))))/\ky 296= .i (.o (.o (.i (.o (.i (.o (.o .e)))))))/\ky 297= .o (.i (.o (.i (.o (.i (.o (.o .e)))))))/\ky 298= .i (.i (.o (.i (.o (.i (.o (.o .e)))))))/\ky 299= .o (.o (.i (.i (.o (.i (.o (.o .e))))))):=by and_intros <;> exact id rfl
@[simp] theorem qfI(H:ab)(i:Nat):bc [] H i=H i:=id rfl
@[simp] theorem qc2(t i:Nat):wQ (some t) i=(Jw i=Jw t):=id rfl
@[simp] theorem qiJ{i:Nat}(h:i < 990):Jw i=i:=by unfold Jw;rw[if_neg (by omega)]
@[simp] theorem qfK(d:Option Nat)(g:Option (Nat×Bool))(c:COp)(l:List CI)(H:ab)(i:Nat):bc (.op d g c::l) H i=if wQ (CI.op d g c).wid i then none else bc l H i:=id rfl
@[simp] theorem qfJ(a b:Nat)(l:List CI)(H:ab)(i:Nat):bc (.frz a b::l) H i=H i:=id rfl
@[simp] theorem qhl(dst_:Option Nat)(gd_:Option (Nat×Bool))(x:Operand):(CI.op dst_ gd_ (.mv x)).wid=dst_:=id rfl
@[simp] theorem qbY(dst_:Option Nat)(gd_:Option (Nat×Bool))(c:Operand)(x:Operand)(y:Operand):(CI.op dst_ gd_ (.pick c x y)).wid=dst_:=id rfl
@[simp] theorem qba(dst_:Option Nat)(gd_:Option (Nat×Bool))(el:Nat)(z:List Value):(CI.op dst_ gd_ (.alloc el z)).wid=dst_:=id rfl
@[simp] theorem qa8(dst_:Option Nat)(gd_:Option (Nat×Bool))(z:List Value)(parts:List (Nat×Nat×Operand)):(CI.op dst_ gd_ (.build z parts)).wid=dst_:=id rfl
@[simp] theorem Zh(dst_:Option Nat)(gd_:Option (Nat×Bool))(el:Nat)(n:Nat)(parts:List Operand):(CI.op dst_ gd_ (.bslice el n parts)).wid=dst_:=id rfl
@[simp] theorem qbZ(dst_:Option Nat)(gd_:Option (Nat×Bool))(agg:Bool)(sz:Nat)(x:Operand):(CI.op dst_ gd_ (.load agg sz x)).wid=dst_:=id rfl
@[simp] theorem YB(d:Option Nat)(g:Option (Nat×Bool))(r sz:Nat)(x y:Operand):(CI.op d g (.store (some r) sz x y)).wid=some r:=id rfl
@[simp] theorem qa4(dst_:Option Nat)(gd_:Option (Nat×Bool))(x:Operand):(CI.op dst_ gd_ (.nilck x)).wid=dst_:=id rfl
@[simp] theorem qa9(dst_:Option Nat)(gd_:Option (Nat×Bool))(op:BinOp)(x:Operand)(y:Operand):(CI.op dst_ gd_ (.arith op x y)).wid=dst_:=id rfl
@[simp] theorem qeQ(dst_:Option Nat)(gd_:Option (Nat×Bool))(op:BinOp)(x:Operand)(y:Operand):(CI.op dst_ gd_ (.cmp op x y)).wid=dst_:=id rfl
@[simp] theorem qeP(dst_:Option Nat)(gd_:Option (Nat×Bool))(neg:Bool)(agg:Bool)(ks:List M4)(x:Operand)(y:Operand):(CI.op dst_ gd_ (.eql neg agg ks x y)).wid=dst_:=id rfl
@[simp] theorem qa3(dst_:Option Nat)(gd_:Option (Nat×Bool))(n:Nat)(x:Operand)(lo:Option Operand)(hi:Option Operand):(CI.op dst_ gd_ (.slice n x lo hi)).wid=dst_:=id rfl
@[simp] theorem Zg(dst_:Option Nat)(gd_:Option (Nat×Bool))(x:Operand)(lo:Option Operand)(hi:Option Operand):(CI.op dst_ gd_ (.sslice x lo hi)).wid=dst_:=id rfl
@[simp] theorem qa6(dst_:Option Nat)(gd_:Option (Nat×Bool))(off:Nat)(x:Operand):(CI.op dst_ gd_ (.faddr off x)).wid=dst_:=id rfl
@[simp] theorem qa5(dst_:Option Nat)(gd_:Option (Nat×Bool))(n:Nat)(x:Operand)(i:Operand):(CI.op dst_ gd_ (.iaddr n x i)).wid=dst_:=id rfl
@[simp] theorem qeO(dst_:Option Nat)(gd_:Option (Nat×Bool))(x:Operand)(i:Nat):(CI.op dst_ gd_ (.ext x i)).wid=dst_:=id rfl
@[simp] theorem qeN(dst_:Option Nat)(gd_:Option (Nat×Bool))(x:Operand):(CI.op dst_ gd_ (.len x)).wid=dst_:=id rfl
@[simp] theorem qbX(dst_:Option Nat)(gd_:Option (Nat×Bool))(x:Operand):(CI.op dst_ gd_ (.slen x)).wid=dst_:=id rfl
@[simp] theorem qhm(dst_:Option Nat)(gd_:Option (Nat×Bool))(mx:Bool)(xs:List Operand):(CI.op dst_ gd_ (.mm mx xs)).wid=dst_:=id rfl
@[simp] theorem VS(d:Option Nat)(g:Option (Nat×Bool))(r el n b:Nat)(x y:Operand):(CI.op d g (.append (some r) el n b x y)).wid=some r:=id rfl
@[simp] theorem qb0(dst_:Option Nat)(gd_:Option (Nat×Bool))(f:Nat)(args:List Operand):(CI.op dst_ gd_ (.call f args)).wid=dst_:=id rfl
@[simp] theorem qa7(dst_:Option Nat)(gd_:Option (Nat×Bool))(r f:Nat)(args:List Operand):(CI.op dst_ gd_ (.callb r f args)).wid=some r:=id rfl
abbrev B:=ByteArray
structure I32 where
 val:Int
deriving DecidableEq
instance:Cod I32 where
 wd:=1
 enc n:= .v (.int .i32 n.val)
 dec| .v (.int .i32 n)=>some ⟨n⟩|_=>none
 kn _:=rfl
 wid _:=rfl
 dec_enc _:=rfl
 le d x h:=by
  split at h
  ·cases h;exact .same _
  ·cases h
@[simp] theorem qgv(n:I32):enc n= .v (.int .i32 n.val):=id rfl
@[simp] theorem qht:Cod.wd I32=1:=id rfl
@[simp] theorem qgC(n:Int):dec (X:=I32) (.v (.int .i32 n))=some ⟨n⟩:=id rfl
@[simp] theorem qgo(n:I32):I32.mk n.val=n:=id rfl
structure U8 where
 val:Int
deriving DecidableEq
instance:Cod U8 where
 wd:=1
 enc n:= .v (.int .u8 n.val)
 dec| .v (.int .u8 n)=>some ⟨n⟩|_=>none
 kn _:=rfl
 wid _:=rfl
 dec_enc _:=rfl
 le d x h:=by
  split at h
  ·cases h;exact .same _
  ·cases h
@[simp] theorem qi1(n:U8):enc n= .v (.int .u8 n.val):=id rfl
@[simp] theorem qja(n:Int):dec (X:=U8) (.v (.int .u8 n))=some ⟨n⟩:=id rfl
@[simp] theorem qiV(n:U8):U8.mk n.val=n:=id rfl
structure Pair where
 nm:B
 vl:B
deriving DecidableEq
instance:Cod Pair where
 wd:=2
 enc s:= .agg [enc s.nm,enc s.vl]
 dec| .agg [x0,x1]=>(dec x0).bind λx0=>(dec x1).bind λx1=>some ⟨x0,x1⟩|_=>none
 kn _:=rfl
 wid _:=rfl
 dec_enc s:=by simp
 le d x h:=by
  split at h
  ·simp only[ql9]at h;obtain⟨x0,h0,x1,h1,h⟩:=h;cases h;exact LeL.agg (.cons (Cod.le _ _ h0) (.cons (Cod.le _ _ h1) .nil))
  ·cases h
@[simp] theorem qdP(s:Pair):(Pair.mk s.nm s.vl)=s:=id rfl
@[simp] theorem qdS(s:Pair):enc s= .agg [enc s.nm,enc s.vl]:=id rfl
@[simp] theorem qeU:Cod.wd Pair=2:=id rfl
@[simp] theorem qd1(x0 x1:D):dec (X:=Pair) (.agg [x0,x1])=((dec x0).bind λx0=>(dec x1).bind λx1=>some ⟨x0,x1⟩):=id rfl
structure Attr where
 nm:B
 st:Bool
deriving DecidableEq
instance:Cod Attr where
 wd:=2
 enc s:= .agg [enc s.nm,enc s.st]
 dec| .agg [x0,x1]=>(dec x0).bind λx0=>(dec x1).bind λx1=>some ⟨x0,x1⟩|_=>none
 kn _:=rfl
 wid _:=rfl
 dec_enc s:=by simp
 le d x h:=by
  split at h
  ·simp only[ql9]at h;obtain⟨x0,h0,x1,h1,h⟩:=h;cases h;exact LeL.agg (.cons (Cod.le _ _ h0) (.cons (Cod.le _ _ h1) .nil))
  ·cases h
@[simp] theorem qdQ(s:Attr):(Attr.mk s.nm s.st)=s:=id rfl
@[simp] theorem qdU(s:Attr):enc s= .agg [enc s.nm,enc s.st]:=id rfl
@[simp] theorem qeX:Cod.wd Attr=2:=id rfl
@[simp] theorem qd3(x0 x1:D):dec (X:=Attr) (.agg [x0,x1])=((dec x0).bind λx0=>(dec x1).bind λx1=>some ⟨x0,x1⟩):=id rfl
structure AP where
 b:Int
 e:Int
deriving DecidableEq
instance:Cod AP where
 wd:=2
 enc s:= .agg [enc s.b,enc s.e]
 dec| .agg [x0,x1]=>(dec x0).bind λx0=>(dec x1).bind λx1=>some ⟨x0,x1⟩|_=>none
 kn _:=rfl
 wid _:=rfl
 dec_enc s:=by simp
 le d x h:=by
  split at h
  ·simp only[ql9]at h;obtain⟨x0,h0,x1,h1,h⟩:=h;cases h;exact LeL.agg (.cons (Cod.le _ _ h0) (.cons (Cod.le _ _ h1) .nil))
  ·cases h
structure vN where
 nm:B
 b:Int
 e:Int
 kv:List Pair
deriving DecidableEq
instance:Cod vN where
 wd:=4
 enc s:= .agg [enc s.nm,enc s.b,enc s.e,enc s.kv]
 dec| .agg [x0,x1,x2,x3]=>(dec x0).bind λx0=>(dec x1).bind λx1=>(dec x2).bind λx2=>(dec x3).bind λx3=>some ⟨x0,x1,x2,x3⟩|_=>none
 kn _:=rfl
 wid _:=rfl
 dec_enc s:=by simp
 le d x h:=by
  split at h
  ·simp only[ql9]at h;obtain⟨x0,h0,x1,h1,x2,h2,x3,h3,h⟩:=h;cases h;exact LeL.agg (.cons (Cod.le _ _ h0) (.cons (Cod.le _ _ h1) (.cons (Cod.le _ _ h2) (.cons (Cod.le _ _ h3) .nil))))
  ·cases h
@[simp] theorem qdR(s:vN):enc s= .agg [enc s.nm,enc s.b,enc s.e,enc s.kv]:=id rfl
@[simp] theorem qeT:Cod.wd vN=4:=id rfl
@[simp] theorem qd0(x0 x1 x2 x3:D):dec (X:=vN) (.agg [x0,x1,x2,x3])=((dec x0).bind λx0=>(dec x1).bind λx1=>(dec x2).bind λx2=>(dec x3).bind λx3=>some ⟨x0,x1,x2,x3⟩):=id rfl
structure Region where
 ty:B
 b:Int
 e:Int
 kv:List Pair
deriving DecidableEq
instance:Cod Region where
 wd:=4
 enc s:= .agg [enc s.ty,enc s.b,enc s.e,enc s.kv]
 dec| .agg [x0,x1,x2,x3]=>(dec x0).bind λx0=>(dec x1).bind λx1=>(dec x2).bind λx2=>(dec x3).bind λx3=>some ⟨x0,x1,x2,x3⟩|_=>none
 kn _:=rfl
 wid _:=rfl
 dec_enc s:=by simp
 le d x h:=by
  split at h
  ·simp only[ql9]at h;obtain⟨x0,h0,x1,h1,x2,h2,x3,h3,h⟩:=h;cases h;exact LeL.agg (.cons (Cod.le _ _ h0) (.cons (Cod.le _ _ h1) (.cons (Cod.le _ _ h2) (.cons (Cod.le _ _ h3) .nil))))
  ·cases h
@[simp] theorem qag(s:Region):(Region.mk s.ty s.b s.e s.kv)=s:=id rfl
@[simp] theorem qaj(s:Region):enc s= .agg [enc s.ty,enc s.b,enc s.e,enc s.kv]:=id rfl
@[simp] theorem qbc:Cod.wd Region=4:=id rfl
@[simp] theorem qau(x0 x1 x2 x3:D):dec (X:=Region) (.agg [x0,x1,x2,x3])=((dec x0).bind λx0=>(dec x1).bind λx1=>(dec x2).bind λx2=>(dec x3).bind λx3=>some ⟨x0,x1,x2,x3⟩):=id rfl
structure rK where
 lb:B
 b:Int
 e:Int
 par:Int
deriving DecidableEq
instance:Cod rK where
 wd:=4
 enc s:= .agg [enc s.lb,enc s.b,enc s.e,enc s.par]
 dec| .agg [x0,x1,x2,x3]=>(dec x0).bind λx0=>(dec x1).bind λx1=>(dec x2).bind λx2=>(dec x3).bind λx3=>some ⟨x0,x1,x2,x3⟩|_=>none
 kn _:=rfl
 wid _:=rfl
 dec_enc s:=by simp
 le d x h:=by
  split at h
  ·simp only[ql9]at h;obtain⟨x0,h0,x1,h1,x2,h2,x3,h3,h⟩:=h;cases h;exact LeL.agg (.cons (Cod.le _ _ h0) (.cons (Cod.le _ _ h1) (.cons (Cod.le _ _ h2) (.cons (Cod.le _ _ h3) .nil))))
  ·cases h
@[simp] theorem qdT(s:rK):enc s= .agg [enc s.lb,enc s.b,enc s.e,enc s.par]:=id rfl
@[simp] theorem qeV:Cod.wd rK=4:=id rfl
structure Corpus where
 attrs:List Attr
 toks:List (List B)
 texts:List vN
 regs:List Region
 nodes:List rK
 heads:List Int
 rels:List B
deriving DecidableEq
instance:Cod Corpus where
 wd:=7
 enc s:= .agg [enc s.attrs,enc s.toks,enc s.texts,enc s.regs,enc s.nodes,enc s.heads,enc s.rels]
 dec| .agg [x0,x1,x2,x3,x4,x5,x6]=>(dec x0).bind λx0=>(dec x1).bind λx1=>(dec x2).bind λx2=>(dec x3).bind λx3=>(dec x4).bind λx4=>(dec x5).bind λx5=>(dec x6).bind λx6=>some ⟨x0,x1,x2,x3,x4,x5,x6⟩|_=>none
 kn _:=rfl
 wid _:=rfl
 dec_enc s:=by simp
 le d x h:=by
  split at h
  ·simp only[ql9]at h;obtain⟨x0,h0,x1,h1,x2,h2,x3,h3,x4,h4,x5,h5,x6,h6,h⟩:=h;cases h;exact LeL.agg (.cons (Cod.le _ _ h0) (.cons (Cod.le _ _ h1) (.cons (Cod.le _ _ h2) (.cons (Cod.le _ _ h3) (.cons (Cod.le _ _ h4) (.cons (Cod.le _ _ h5) (.cons (Cod.le _ _ h6) .nil)))))))
  ·cases h
@[simp] theorem qah(s:Corpus):(Corpus.mk s.attrs s.toks s.texts s.regs s.nodes s.heads s.rels)=s:=id rfl
@[simp] theorem qak(s:Corpus):enc s= .agg [enc s.attrs,enc s.toks,enc s.texts,enc s.regs,enc s.nodes,enc s.heads,enc s.rels]:=id rfl
@[simp] theorem qav(x0 x1 x2 x3 x4 x5 x6:D):dec (X:=Corpus) (.agg [x0,x1,x2,x3,x4,x5,x6])=((dec x0).bind λx0=>(dec x1).bind λx1=>(dec x2).bind λx2=>(dec x3).bind λx3=>(dec x4).bind λx4=>(dec x5).bind λx5=>(dec x6).bind λx6=>some ⟨x0,x1,x2,x3,x4,x5,x6⟩):=id rfl
structure qU where
 r:I32
 pos:Int
 sz:Int
 ok:Bool
deriving DecidableEq
instance:Cod qU where
 wd:=4
 enc s:= .agg [enc s.r,enc s.pos,enc s.sz,enc s.ok]
 dec| .agg [x0,x1,x2,x3]=>(dec x0).bind λx0=>(dec x1).bind λx1=>(dec x2).bind λx2=>(dec x3).bind λx3=>some ⟨x0,x1,x2,x3⟩|_=>none
 kn _:=rfl
 wid _:=rfl
 dec_enc s:=by simp
 le d x h:=by
  split at h
  ·simp only[ql9]at h;obtain⟨x0,h0,x1,h1,x2,h2,x3,h3,h⟩:=h;cases h;exact LeL.agg (.cons (Cod.le _ _ h0) (.cons (Cod.le _ _ h1) (.cons (Cod.le _ _ h2) (.cons (Cod.le _ _ h3) .nil))))
  ·cases h
@[simp] theorem qai(s:qU):enc s= .agg [enc s.r,enc s.pos,enc s.sz,enc s.ok]:=id rfl
@[simp] theorem qbb:Cod.wd qU=4:=id rfl
def aK{α:Type}{l:List α}{k:Nat}{a:α}(h:l[k]? =some a):l.take (k+1)=l.take k++ [a]:=by
 rw[qn9,h];rfl
def fV{α:Type}{l:List α}{k:Nat}{a:α}(h:l[k]? =some a):a∈l:=qme h
def eX{α:Type}{l:List α}{k:Nat}(h:k < l.length):∃a,l[k]? =some a:=⟨l[k],qmd h⟩
def qcQ(a b:AP):Prop:=a.b < b.b\/a.b=b.b/\a.e < b.e
instance (a b:AP):Decidable (qcQ a b):=by unfold qcQ;infer_instance
def Xj(a:AP):¬qcQ a a:=by unfold qcQ;omega
def SS(l:List AP):Prop:=l.Pairwise qcQ
def SS.nil:SS []:=List.Pairwise.nil
def IsNorm(l r:List AP):Prop:=SS r/\∀x,x∈r↔x∈l
def IsNorm.nil:IsNorm [] []:=⟨SS.nil,λ_=>qm4⟩
def IsNorm.congr{l l' r:List AP}(h:IsNorm l r)(hl:∀x,x∈l↔x∈l'):IsNorm l' r:=⟨h.1,λx=>(h.2 x).trans (hl x)⟩
def Sl:∀ {r l:List AP},SS r->(∀x∈r,x∈l)->r.length<=l.length
 | [],l,_,_=>qmG _
 | x::r,l,h,hl=>by
   have h':=qor.1 h;have hx:=hl x (by simp);have:=Sl (l:=l.erase x) h'.2 λy hy=>(List.mem_erase_of_ne (λ(e:y=x)=>Xj x (by have:=h'.1 y hy;rwa [e]at this))).2 (hl y (by simp[hy]))
   rw[List.length_erase_of_mem hx]at this;have:=List.length_pos_of_mem hx;simp;omega
def IsNorm.len{l r:List AP}(h:IsNorm l r):r.length<=l.length:=Sl h.1 λx hx=>(h.2 x).1 hx
def IsNorm.same{l l' r:List AP}(h:IsNorm l r)(hl:∀x,x∈l'↔x∈l):IsNorm l' r:=⟨h.1,λx=>(h.2 x).trans (hl x).symm⟩
def ln{X:Type} :List X->(X->Bool)->Int
 | [],_=> -1
 | x::l,p=>if p x then 0 else if ln l p < 0 then -1 else ln l p+1
def iy{X:Type}{p:X->Bool} :∀ {l:List X},(∀y∈l,p y=false)->ln l p= -1
 | [],_=>rfl
 | x::l,h=>by
   have:=iy (l:=l) (λy hy=>h y (by simp[hy]));simp[ln,h x (by simp),this]
def nU{X:Type}{p:X->Bool} :∀ {l:List X} {k:Nat} {x:X},l[k]? =some x->p x=true->(∀y∈l.take k,p y=false)->ln l p=k
 | [],k,x,hx,_,_=>by simp at hx
 | z::l,0,x,hx,hp,_=>by
   simp at hx;subst hx;simp[ln,hp]
 | z::l,k+1,x,hx,hp,hb=>by
   have hz:=hb z (by simp);have ih:=nU (l:=l) (k:=k) (by simpa using hx) hp (λy hy=>hb y (by simp[hy]));simp[ln,hz,ih];omega
def EW{X:Type}(p:X->Bool)(l:List X):(ln l p= -1/\∀y∈l,p y=false)\/ ∃k x,ln l p=(k:Nat)/\l[k]? =some x/\p x=true/\∀y∈l.take k,p y=false:=by
 induction l with
 | nil=>exact .inl ⟨rfl,by simp⟩
 | cons z l ih=>
   by_cases hz:p z=true
   ·exact .inr ⟨0,z,by simp[ln,hz],by simp,hz,by simp⟩
   ·have hz:p z=false:=by simpa using hz
    rcases ih with⟨h1,h2⟩|⟨k,x,h1,h2,h3,h4⟩
    ·refine .inl ⟨by simp[ln,hz,h1],λy hy=>?_⟩;rcases qmw.1 hy with rfl|hy
     ·exact hz
     ·exact h2 y hy
    ·refine .inr ⟨k+1,x,?_,by simpa using h2,h3,λy hy=>?_⟩
     ·simp[ln,hz,h1];omega
     ·rw[qoo]at hy;rcases qmw.1 hy with rfl|hy
      ·exact hz
      ·exact h4 y hy
def Al{X:Type}(p:X->Bool)(l:List X):decide (0<=ln l p)=l.any p:=by
 rcases EW p l with⟨h1,h2⟩|⟨k,x,h1,h2,h3,h4⟩
 ·have:l.any p=false:=by simpa using h2
  rw[h1,this];rfl
 ·have:l.any p=true:=qmU.2 ⟨x,fV h2,h3⟩;rw[h1,this];simp
def SS.filter{l:List AP}(h:SS l)(p:AP->Bool):SS (l.filter p):=List.Pairwise.filter p h
def IsNorm.filter{l r:List AP}(h:IsNorm l r)(p:AP->Bool):IsNorm (l.filter p) (r.filter p):=⟨h.1.filter p,λx=>by simp[h.2 x]⟩
def Ru(s:ByteArray)(p:Nat)(h:p < s.size):1<=(Utf8.decode s p).2/\p+ (Utf8.decode s p).2<=s.size:=by
 unfold Utf8.decode;simp only[qmf,decide_eq_true_eq]
 repeat' split
 all_goals (try simp only[])
 all_goals omega
end Go.Gv
