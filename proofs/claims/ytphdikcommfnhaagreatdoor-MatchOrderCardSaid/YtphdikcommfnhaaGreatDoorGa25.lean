/- A part of the framework and of the walks: V3 V55 W151 W152 W153 C59 W159. -/
import Derived.Test.YtphdikcommfnhaaGreatDoorGa20
import Derived.Test.YtphdikcommfnhaaGreatDoorGa24
import Derived.Test.YtphdikcommfnhaaGreatDoorGa23
import Derived.Test.YtphdikcommfnhaaGreatDoorGa22
set_option linter.unusedSimpArgs false
set_option linter.unusedVariables false
set_option maxRecDepth 100000

namespace Go.Gv
instance:Inhabited Cond:=⟨⟨0,⟨#[]⟩,⟨#[]⟩,⟨#[]⟩,⟨#[]⟩,false, []⟩⟩
instance:Inhabited Pat:=⟨⟨0,default,⟨#[]⟩,⟨#[]⟩,0,0, []⟩⟩
def qN:Cond:=⟨0,⟨#[]⟩,⟨#[]⟩,⟨#[]⟩,⟨#[]⟩,false, []⟩
mutual
def fN:Pat->Nat | .mk _ _ _ _ _ _ ks=> B8 ks+1
def B8:List Pat->Nat | []=> 0 | k::ks=> max (fN k) (B8 ks)
end
mutual
def rZ:Cond->Nat | .mk _ _ _ _ _ _ ks=> nC ks+1
def nC:List Cond->Nat | []=> 0 | k::ks=> max (rZ k) (nC ks)
end
mutual
def rJ:Pat->Nat | .mk _ _ _ _ _ _ ks=> gS ks+1
def gS:List Pat->Nat | []=> 0 | k::ks=> rJ k+gS ks
end
theorem Di (p:Pat):fN p=B8 p.kids+1:=by cases p;rw[fN]
theorem Pb (p:Cond):rZ p=nC p.kids+1:=by cases p;rw[rZ]
theorem Dh (p:Pat):rJ p=gS p.kids+1:=by cases p;rw[rJ]
theorem Ht {k:Pat} : ∀ {ks:List Pat},k∈ks->fN k<=B8 ks
 | a::ks,h=> by
   rw[B8]
   rcases List.mem_cons.1 h with rfl | h
   ·omega
   ·have:=Ht h;omega
theorem HY {k:Cond} : ∀ {ks:List Cond},k∈ks->rZ k<=nC ks
 | a::ks,h=> by
   rw[nC]
   rcases List.mem_cons.1 h with rfl | h
   ·omega
   ·have:=HY h;omega
theorem jM {p k:Pat} (h:k∈p.kids):fN k < fN p:=by have:=Ht h;rw[Di p];omega
theorem vo {C:Pat->Prop} (h: ∀p,(∀k∈p.kids,C k)->C p) (p:Pat):C p:=by
 generalize hn:fN p=n
 induction n using Nat.strongRecOn generalizing p with
 | _ n ih=> exact h p fun k hk=> ih (fN k) (by rw[<-hn];exact jM hk) k rfl
mutual
def jB (f:Pat->Bool):Pat->Bool | .mk op c l r mn mx ks=> f ⟨op,c,l,r,mn,mx,ks⟩ && zW f ks
def zW (f:Pat->Bool):List Pat->Bool | []=> true | k::ks=> jB f k && zW f ks
end
theorem Fu (f:Pat->Bool): ∀ks:List Pat,zW f ks=ks.all (jB f)
 | []=> by rw[zW];rfl
 | k::ks=> by rw[zW,Fu f ks,List.all_cons]
theorem ji (f:Pat->Bool) (p:Pat):jB f p=(f p && p.kids.all (jB f)):=by cases p;rw[jB,Fu]
mutual
def dJ:Pat->Int->Bool | .mk _ _ _ _ _ _ ks,d=> decide (d<=100) && rC ks (d+1)
def rC:List Pat->Int->Bool | [],_=> true | k::ks,d=> dJ k d && rC ks d
end
theorem yG (d:Int): ∀ks:List Pat,rC ks d=ks.all (dJ · d)
 | []=> by rw[rC];rfl
 | k::ks=> by rw[rC,yG d ks,List.all_cons]
theorem nh (p:Pat) (d:Int):dJ p d=(decide (d<=100) && p.kids.all (dJ · (d+1))):=by cases p;rw[dJ,yG]
theorem Is (p:Pat): ∀d d':Int,d'<=d->dJ p d=true->dJ p d'=true:=by
 induction p using vo with | _ p ih=> ?_
 intro d d' h
 rw[nh,nh]
 simp only[Bool.and_eq_true,decide_eq_true_eq,List.all_eq_true]
 exact fun⟨h1,h2⟩=> ⟨by omega,fun k hk=> ih k hk (d+1) (d'+1) (by omega) (h2 k hk)⟩
def xX (p:Pat):Prop:=(p.op=1/\p.reg=⟨#[]⟩/\p.mn=0/\p.mx=0/\p.kids= [])\/
 ((p.op=2\/p.op=3)/\p.cond=qN/\p.lab=⟨#[]⟩/\p.mn=0/\p.mx=0/\p.kids= [])\/
 ((p.op=4\/p.op=5)/\p.cond=qN/\p.lab=⟨#[]⟩/\p.reg=⟨#[]⟩/\p.mn=0/\p.mx=0/\2<=p.kids.length)\/
 (p.op=6/\p.cond=qN/\p.lab=⟨#[]⟩/\p.reg=⟨#[]⟩/\p.kids.length=1)
noncomputable def Ce (p:Pat):Bool:= @decide (xX p) (Classical.propDecidable _)
theorem Hw (p:Pat):Ce p=true↔xX p:= @decide_eq_true_iff (xX p) (Classical.propDecidable _)
def zl (p:Pat):Bool:=decide (p.op=6->0<=p.mn/\p.mn<=16/\(p.mx= -1\/p.mn<=p.mx/\p.mx<=16))
def wm (v:B->Bool) (p:Pat):Bool:=decide (((p.op=2\/p.op=3)->v p.reg=true)/\(p.lab≠ ⟨#[]⟩->v p.lab=true))
noncomputable def rH (v:B->Bool) (p:Pat):Bool:=dJ p 1 && jB Ce p && jB (wm v) p && jB zl p
theorem KB {v:B->Bool} {p k:Pat} (h:rH v p=true) (hk:k∈p.kids):rH v k=true:=by
 unfold rH at*
 rw[ji,ji,ji zl,nh] at h
 simp only[Bool.and_eq_true,List.all_eq_true] at h
 obtain⟨⟨⟨⟨_,h1⟩,_,h2⟩,_,h3⟩,_,h4⟩:=h
 rw[h2 k hk,h3 k hk,h4 k hk,Is k _ 1 (by omega) (h1 k hk)]
 rfl
theorem Hq {v:B->Bool} {p:Pat} (h:rH v p=true):Ce p=true/\wm v p=true/\zl p=true:=by
 unfold rH at*
 rw[ji,ji,ji zl] at h
 simp only[Bool.and_eq_true] at h
 exact⟨h.1.1.2.1,h.1.2.1,h.2.1⟩
def Ok (p:Pat) (n:Int):Int:=if p.kids= [] then 1 else if p.op=6 then(if p.mx= -1 then min (n* (p.mn+1)) 1000 else if p.mx=0 then n else min (n*p.mx) 1000) else n
mutual
def o8:Pat->Int | .mk op c l r mn mx ks=> Ok ⟨op,c,l,r,mn,mx,ks⟩ (jp ks 0)
def jp:List Pat->Int->Int | [],n=> n | k::ks,n=> jp ks (min (n+o8 k) 1000)
end
theorem Kp (p:Pat):o8 p=Ok p (jp p.kids 0):=by cases p;rw[o8]
theorem MG (a b:List Pat) (n:Int):jp (a++b) n=jp b (jp a n):=by
 induction a generalizing n with
 | nil=> rfl
 | cons k a ih=> simp only[List.cons_append,jp];exact ih _
mutual
def dH:Pat->List Pat | .mk op c l r mn mx ks=> if op=1 then[⟨op,c,l,r,mn,mx,ks⟩] else uJ ks
def uJ:List Pat->List Pat | []=> [] | k::ks=> dH k++uJ ks
end
theorem Cg: ∀ks:List Pat,uJ ks=ks.flatMap dH
 | []=> by rw[uJ];rfl
 | k::ks=> by rw[uJ,Cg ks,List.flatMap_cons]
theorem kH (p:Pat):dH p=if p.op=1 then[p] else p.kids.flatMap dH:=by cases p;rw[dH,Cg]
theorem Nx (p:Pat): (dH p).length<=rJ p:=by
 induction p using vo with | _ p ih=> ?_
 rw[kH,Dh]
 split
 ·simp
 ·have: ∀ks:List Pat,(∀k∈ks,(dH k).length<=rJ k)->(ks.flatMap dH).length<=gS ks:=by
   intro ks
   induction ks with
   | nil=> intro _;simp[gS]
   | cons k ks ih=>
     intro h
     rw[List.flatMap_cons,List.length_append,gS]
     have h1:=h k (by simp)
     have h2:=ih fun x hx=> h x (by simp[hx])
     omega
  have:=this p.kids ih
  omega
theorem sm: ∀ (ks:List Pat) (n:Int),0<=n->n<=1000->(∀k∈ks,0<=o8 k)->0<=jp ks n/\jp ks n<=1000
 | [],n,h0,h1,_=> by rw[jp];exact⟨h0,h1⟩
 | k::ks,n,h0,h1,h=> by
   rw[jp]
   have:=h k (by simp)
   exact sm ks _ (by omega) (by omega) fun x hx=> h x (by simp[hx])
theorem PU {v:B->Bool} (p:Pat):rH v p=true->0<=o8 p/\o8 p<=1000:=by
 induction p using vo with | _ p ih=> ?_
 intro h
 have hk:=sm p.kids 0 (by omega) (by omega) fun k hk=> (ih k hk (KB h hk)).1
 have hn:=(Hq h).2.2
 unfold zl at hn
 rw[decide_eq_true_eq] at hn
 rw[Kp]
 generalize jp p.kids 0=n at hk
 unfold Ok
 split
 ·omega
 ·split
  ·rename_i h6
   have hn:=hn h6
   split
   ·have:0<=n* (p.mn+1):=Int.mul_nonneg hk.1 (by omega)
    omega
   ·split
    ·exact hk
    ·have:0<=n*p.mx:=Int.mul_nonneg hk.1 (by omega)
     omega
  ·exact hk
end Go.Gv

namespace Go.Gv
open Cod (enc dec)
mutual
def vN:Cond->Nat | .mk _ _ _ _ _ _ ks=> jO ks+1
def jO:List Cond->Nat | []=> 0 | k::ks=> vN k+jO ks
end
theorem Jb (x:Cond):vN x=jO x.kids+1:=by cases x;rw[vN]
theorem vp: ∀ (a b:List Cond),jO (a++b)=jO a+jO b
 | [],b=> by rw[List.nil_append,jO];omega
 | k::a,b=> by rw[List.cons_append,jO,jO,vp a b];omega
theorem H3: ∀ (a b:List Cond),nC (a++b)=max (nC a) (nC b)
 | [],b=> by rw[List.nil_append,nC];omega
 | k::a,b=> by rw[List.cons_append,nC,nC,H3 a b];omega
theorem Hv: ∀ {ks:List Cond} {k:Cond},k∈ks->vN k<=jO ks
 | x::ks,k,h=> by
   rw[jO]
   rcases List.mem_cons.1 h with rfl | h
   ·omega
   ·have:=Hv h;omega
theorem Qh {ks:List Cond} {k:Nat} {x:Cond} (h:ks[k]?=some x):jO (ks.take (k+1))=jO (ks.take k) +vN x/\nC (ks.take (k+1))=max (nC (ks.take k)) (rZ x)/\jO (ks.take k) +vN x<=jO ks:=by
 have e:=cU h
 refine⟨by rw[e,vp,jO,jO];omega,by rw[e,H3,nC,nC];omega,?_⟩
 conv=> rhs;rw[<-List.take_append_drop (k+1) ks,vp]
 rw[e,vp,jO,jO]
 omega
def oj:B:=⟨#[]⟩
def oh (a:List fJ) (n:B):Int:=gT a fun x=> decide (x.nm=n)
def xJ (a:List fJ) (n:B):Int:=if n=oj then min 0 ((a.length:Int) -1) else oh a n
def Pe (c:UInt8):Bool:=(decide (65<=c.toNat) && decide (c.toNat<=90)) || (decide (97<=c.toNat) && decide (c.toNat<=122)) || decide (c.toNat=95)
def qiE (c:UInt8):Bool:=Pe c || (decide (48<=c.toNat) && decide (c.toNat<=57)) || decide (c.toNat=45)
def A5 (s:B):Bool:=decide (1<=s.size/\s.size<=32) && (match s.data.toList with | c::_=> Pe c | []=> false) && s.data.toList.all qiE
def uE (s:B):Bool:=decide (s.size<=120) && s.data.toList.all fun c=> decide (32<=c.toNat/\c.toNat < 127)
def qa5 (x:Cond):Bool:=
 if x.op=1 then decide (x.name=oj/\x.arg=oj/\x.val=oj/\x.lab=oj/\x.fold=false) && x.kids.isEmpty else
 if x.op=2 then decide (x.arg=oj/\x.lab=oj) && x.kids.isEmpty else
 if x.op=3 then decide (x.arg=oj/\x.lab=oj/\x.fold=false) && x.kids.isEmpty else
 if x.op=4 then decide (x.val=oj/\x.fold=false) && x.kids.isEmpty else
 if x.op=5 then decide (x.lab=oj/\x.fold=false/\(x.arg=oj->x.val=oj)) && x.kids.isEmpty else
 if x.op=6 then decide (x.name=oj/\x.arg=oj/\x.val=oj/\x.lab=oj/\x.fold=false) && decide (x.kids.length=1) else
 if x.op=7\/x.op=8 then decide (x.name=oj/\x.arg=oj/\x.val=oj/\x.lab=oj/\x.fold=false) && decide (2<=x.kids.length/\x.kids.length<=60) else false
def Z3 (a:List fJ) (x:Cond):Bool:=
 if x.op=2 then decide (0<=xJ a x.name) else
 if x.op=3 then decide (0<=oh a x.name) else
 if x.op=4 then decide (0<=oh a x.name/\0<=oh a x.arg) else
 if x.op=5 then A5 x.name && (decide (x.arg=oj) || A5 x.arg) else true
def WX (s:B):Bool:=s.data.toList.any fun c=> decide (c.toNat=124)
def qmr (a:List fJ) (lb:List B) (x:Cond):Bool:=
 if x.op=2 then(nP x.val).isSome else
 if x.op=3 then(match a[(oh a x.name).toNat]? with | some b=> b.st | none=> false) && decide (x.val≠oj) && !WX x.val && uE x.val else
 if x.op=4 then lb.any fun l=> decide (l=x.lab) else
 if x.op=5 then uE x.val else true
def Nr (a:List fJ) (lb:List B) (x:Cond):Bool:=qa5 x && Z3 a x && qmr a lb x
def Ov (a:List fJ) (lb:List B):Nat->Cond->Bool
 | 0=> fun _=> false
 | n+1=> fun x=> Nr a lb x && x.kids.all (Ov a lb n)
def qdI (a:List fJ) (lb:List B) (x:Cond):Bool:=decide (vN x<=60/\rZ x<=20) && Ov a lb 20 x
end Go.Gv

namespace Go.Gv
open Cod (enc dec)
variable {S S0:Nat->Spc}
theorem te {X:Type} {l:List X} {k:Nat} (h:k < l.length): ∃x,l[k]?=some x:=⟨_,List.getElem?_eq_getElem h⟩
def qcI (n:Nat) (x:Cond×Int×Int):Prop:=rZ x.1<=n/\0<=x.2.1/\x.2.1+vN x.1<=60/\0<=x.2.2/\x.2.2+rZ x.1<=1000/\rZ x.1<=60
abbrev Ea (n:Nat):Spc:=cC (a3 Cond Int Int) (qcI n) (J4 (Y:=Int) (Z:=Int)) fun x y=> y=(x.2.1+vN x.1,x.2.2+rZ x.1 -1)
abbrev Eb:Spc:=cC (a3 Cond Int Int) (fun x=> ∃n,qcI n x) (J4 (Y:=Int) (Z:=Int)) fun x y=> y=(x.2.1+vN x.1,x.2.2+rZ x.1 -1)
theorem tZ (n:Nat) (h1:S bN=Ea n):aV iY iG S (a3 Cond Int Int) (qcI (n+1)) (J4 (Y:=Int) (Z:=Int)) fun x y=> y=(x.2.1+vN x.1,x.2.2+rZ x.1 -1):=by
 rintro⟨x,nodes,deep⟩ ⟨hn,h0,h2,h3,h4,h5⟩
 simp only at hn h0 h2 h3 h4 h5
 have hd1:=Pb x
 have hn1:=Jb x
 simp[iY,iG]
 refine⟨by simp only[InR];omega,fun hkl=> ?_⟩
 refine aA (X:=Int×Int) [2,17] [] x.kids.length (fun k z=> z.1=nodes+1+ (jO (x.kids.take k):Int)/\z.2=deep+ (nC (x.kids.take k):Int)) (fun z=> [(1,enc z.1),(8,enc z.2)]) (fun _=> []) (nodes+1,deep) (by simp) (by simp) (by omega) (by simp) (by simp) (by simp[jO,nC]) (by simp) (by simp) ?_ ?_
 ·rintro k ⟨m,d⟩ hk ⟨e1,e2⟩
  simp only at e1 e2
  obtain⟨y,hy⟩:=te hk
  obtain⟨_,hgy⟩:=List.getElem?_eq_some_iff.1 hy
  have hm:=Qh hy
  have hd:=HY (List.mem_of_getElem? hy)
  have hp:qcI n (y,m,deep+1):=⟨by show rZ y<=n;omega,by show 0<=m;omega,by show m+vN y<=60;omega,by show 0<=deep+1;omega,by show deep+1+rZ y<=1000;omega,by show rZ y<=60;omega⟩
  have hm60: ¬60 < m:=by have:=Jb y;omega
  simp[h1,hk,hy,hgy,hp,hm60]
  exact⟨by simp only[InR];omega,by omega,by rw[hm.2.1,e2];omega⟩
 ·rintro⟨m,d⟩ ⟨e1,e2⟩
  simp only at e1 e2
  rw[List.take_length] at e1 e2
  simp
  exact⟨by omega,by omega⟩
abbrev AN:Spc:=cC (a1 Cond) (fun x=> qa5 x=true) (enc (X:=Bool)) fun _ y=> y=true
set_option maxHeartbeats 1000000 in
theorem wA:aV bJ bI S (a1 Cond) (fun x=> qa5 x=true) (enc (X:=Bool)) fun _ y=> y=true:=by
 rintro⟨op,name,arg,val,lab,fold,ks⟩ hx
 have hx:qa5 ⟨op,name,arg,val,lab,fold,ks⟩=true:=hx
 unfold qa5 at hx
 simp only at hx
 split at hx
 ·rename_i e;subst e;simp at hx
  obtain⟨⟨rfl,rfl,rfl,rfl,rfl⟩,rfl⟩:=hx
  simp[bJ,bI,oj, -Bool.forall_bool, -Bool.exists_bool]
 split at hx
 ·rename_i e;subst e;simp at hx
  obtain⟨⟨rfl,rfl⟩,rfl⟩:=hx
  simp[bJ,bI,oj, -Bool.forall_bool, -Bool.exists_bool]
 split at hx
 ·rename_i e;subst e;simp at hx
  obtain⟨⟨rfl,rfl,rfl⟩,rfl⟩:=hx
  simp[bJ,bI,oj, -Bool.forall_bool, -Bool.exists_bool]
 split at hx
 ·rename_i e;subst e;simp at hx
  obtain⟨⟨rfl,rfl⟩,rfl⟩:=hx
  simp[bJ,bI,oj, -Bool.forall_bool, -Bool.exists_bool]
 split at hx
 ·rename_i e;subst e;simp at hx
  obtain⟨⟨rfl,rfl,hav⟩,rfl⟩:=hx
  by_cases ha:arg=oj
  ·have hv:=hav.resolve_left fun h=> h ha
   subst ha;subst hv
   simp[bJ,bI,oj, -Bool.forall_bool, -Bool.exists_bool]
  ·have ha': ¬arg=⟨#[]⟩:=ha
   simp[bJ,bI,oj,ha', -Bool.forall_bool, -Bool.exists_bool]
 split at hx
 ·rename_i e;subst e;simp at hx
  obtain⟨⟨rfl,rfl,rfl,rfl,rfl⟩,hk⟩:=hx
  simp[bJ,bI,oj,hk, -Bool.forall_bool, -Bool.exists_bool]
 split at hx
 ·rename_i e
  simp at hx
  obtain⟨⟨rfl,rfl,rfl,rfl,rfl⟩,hk1,hk2⟩:=hx
  have q1: (2:Int)<=(ks.length:Int):=by omega
  have q2: (ks.length:Int)<=60:=by omega
  have q3: (ks.length:Int)<=9223372036854775807:=by omega
  rcases e with rfl | rfl <;> simp[bJ,bI,oj,q1,q2,q3, -Bool.forall_bool, -Bool.exists_bool]
 ·cases hx
end Go.Gv

namespace Go.Gv
open Cod (enc dec)
variable {S S0:Nat->Spc}
theorem zO {X:Type} (p:X->Bool): ∀l:List X, -1<=gT l p/\gT l p < l.length
 | []=> ⟨Int.le_refl _,by simp[gT]⟩
 | x::l=> by
   have:=zO p l
   rw[gT,List.length_cons]
   split
   ·omega
   ·split <;> omega
open Classical in
noncomputable def aX {Z:Type} (v:Z->List D) (hi: ∀z z',v z=v z'->z=z'):du Z:=⟨fun ds=> if h: ∃z,ds=v z then some h.choose else none,v,fun ds z h=> by
 split at h
 ·rename_i h'
  have e:h'.choose=z:=Option.some.inj h
  rw[<-e,<-h'.choose_spec]
  exact⟨rfl,fun k d d' h1 h2=> by rw[h1] at h2;cases h2;exact .same _⟩
 ·cases h⟩
open Classical in
theorem xW {Z:Type} (v:Z->List D) (hi: ∀z z',v z=v z'->z=z') (z:Z): (aX v hi).dec (v z)=some z:=by
 have h: ∃z',v z=v z':=⟨z,rfl⟩
 show(if h: ∃z',v z=v z' then some h.choose else none)=some z
 rw[dif_pos h]
 exact congrArg some (hi _ _ h.choose_spec).symm
theorem vy {Z:Type} (v:Z->List D) (hi: ∀z z',v z=v z'->z=z') (z:Z): (aX v hi).view z=v z:=rfl
def PI (x:fJ×B):List D:= [enc x.1, .cptr [enc x.2] 0]
theorem Kb (z z':fJ×B) (h:PI z=PI z'):z=z':=by
 obtain⟨a,s⟩:=z
 obtain⟨a',s'⟩:=z'
 unfold PI at h
 simp only[List.cons.injEq,D.cptr.injEq,and_true] at h
 rw[bj h.1,bj h.2]
noncomputable abbrev qcB:du (fJ×B):=aX PI Kb
noncomputable abbrev AQ:Spc:=cC qcB (fun _=> True) (enc (X:=Bool)) fun x y=> y=decide (x.1.nm=x.2)
theorem ru:aV fS fM S qcB (fun _=> True) (enc (X:=Bool)) fun x y=> y=decide (x.1.nm=x.2):=by
 rintro⟨a,s⟩ -
 rw[vy]
 simp[PI,fS,fM, -Bool.forall_bool, -Bool.exists_bool]
abbrev ol:Spc:=cC (a2 (List fJ) B) (fun _=> True) (enc (X:=Int)) fun x y=> y=oh x.1 x.2
theorem tC (h0:S0 bi=AQ) (h1:S bU=Ef fJ S0):aV gO gz S (a2 (List fJ) B) (fun _=> True) (enc (X:=Int)) fun x y=> y=oh x.1 x.2:=by
 rintro⟨a,s⟩ -
 have hf:FunOn S0 (.clo bi [.cptr [enc s] 0]) a fun x=> decide (x.nm=s):=
  rS (f:=fun x=> (x,s)) h0 (fun x _=> xW PI Kb (x,s)) (fun _ _=> trivial) (fun x _ y hy=> hy)
 simp[gO,gz,h1, -Bool.forall_bool, -Bool.exists_bool]
 exact⟨⟨_,hf⟩,fun y hy=> hy _ hf⟩
abbrev uj:Spc:=cC (a2 (List fJ) B) (fun x=> x.1.length<=1000) (enc (X:=Int)) fun x y=> y=xJ x.1 x.2
theorem yj (h1:S ap=ol):aV gN gy S (a2 (List fJ) B) (fun x=> x.1.length<=1000) (enc (X:=Int)) fun x y=> y=xJ x.1 x.2:=by
 rintro⟨a,s⟩ hl
 have hl:a.length<=1000:=hl
 have hin:InR .i64 ((a.length:Int) -1):=by simp only[InR];omega
 have hl': (a.length:Int)<=9223372036854775807:=by omega
 by_cases hs:s=oj
 ·subst hs
  simp[gN,gy,oj,xJ,hin,hl', -Bool.forall_bool, -Bool.exists_bool]
 ·have hs': ¬s=⟨#[]⟩:=hs
  simp[gN,gy,oj,xJ,h1,hs', -Bool.forall_bool, -Bool.exists_bool]
def vC (t:List (List B)) (i k:Int):B:=if i < 0\/k < 0 then oj else match t[i.toNat]? with
 | some r=> (match r[k.toNat]? with | some s=> s | none=> oj)
 | none=> oj
abbrev Ed:Spc:=cC (a3 Corpus Int Int) (fun x=> x.1.toks.length<=100000/\ ∀r∈x.1.toks,r.length<=100000) (enc (X:=B)) fun x y=> y=vC x.1.toks x.2.1 x.2.2
theorem yl:aV cp ck S (a3 Corpus Int Int) (fun x=> x.1.toks.length<=100000/\ ∀r∈x.1.toks,r.length<=100000) (enc (X:=B)) fun x y=> y=vC x.1.toks x.2.1 x.2.2:=by
 rintro⟨c,i,k⟩ ⟨hl,hr⟩
 simp only at hl hr
 have hl': (c.toks.length:Int)<=9223372036854775807:=by omega
 by_cases h0:i < 0
 ·simp[cp,ck,h0,vC, -Bool.forall_bool, -Bool.exists_bool]
  rfl
 by_cases h1: (c.toks.length:Int)<=i
 ·have hn:c.toks[i.toNat]?=none:=List.getElem?_eq_none (by omega)
  by_cases h2:k < 0
  ·simp[cp,ck,h0,h1,h2,hl',vC, -Bool.forall_bool, -Bool.exists_bool]
   rfl
  ·simp[cp,ck,h0,h1,h2,hl',hn,vC, -Bool.forall_bool, -Bool.exists_bool]
   rfl
 by_cases h2:k < 0
 ·simp[cp,ck,h0,h1,h2,hl',vC, -Bool.forall_bool, -Bool.exists_bool]
  rfl
 obtain⟨r,hri⟩:=te (show i.toNat < c.toks.length by omega)
 obtain⟨_,hgr⟩:=List.getElem?_eq_some_iff.1 hri
 have hrl:=hr r (List.mem_of_getElem? hri)
 have hrl': (r.length:Int)<=9223372036854775807:=by omega
 have i0:0<=i:=by omega
 have i1:i < (c.toks.length:Int):=by omega
 have k0:0<=k:=by omega
 by_cases h3: (r.length:Int)<=k
 ·have hn:r[k.toNat]?=none:=List.getElem?_eq_none (by omega)
  simp[cp,ck,h0,h1,h2,h3,hl',hrl',hn,hri,hgr,i0,i1,vC, -Bool.forall_bool, -Bool.exists_bool]
  rfl
 obtain⟨s,hsk⟩:=te (show k.toNat < r.length by omega)
 obtain⟨_,hgs⟩:=List.getElem?_eq_some_iff.1 hsk
 have k1:k < (r.length:Int):=by omega
 simp[cp,ck,h0,h1,h2,h3,hl',hrl',hri,hgr,hsk,hgs,i0,i1,k0,k1,vC, -Bool.forall_bool, -Bool.exists_bool]
end Go.Gv

namespace Go.Gv
open Cod (enc dec)
variable {S S0:Nat->Spc}
abbrev Iv:Spc:=cC (a1 B) (fun s=> A5 s=true) (enc (X:=Bool)) fun _ y=> y=true
abbrev uf:Spc:=cC (a1 B) (fun s=> uE s=true) (enc (X:=Int)) fun _ y=> y=0
abbrev s_sConB:Spc:=cC (a2 B B) (fun x=> x.2=⟨#[124]⟩/\uE x.1=true) (enc (X:=Bool)) fun x y=> y=WX x.1
abbrev Kx:Spc:=cC (a1 B) (fun s=> ∃r,nP s=some r) (enc (X:=Int)) fun _ y=> y=0
def pH (l:List B) (s:B):Bool:=l.any fun z=> decide (z=s)
abbrev M9:Spc:=cC (a2 (List B) B) (fun _=> True) (enc (X:=Bool)) fun x y=> y=pH x.1 x.2
abbrev sr:Spc:=cC (a2 (List B) B) (fun _=> True) (enc (X:=Int)) fun x y=> y=gT x.1 fun z=> decide (z=x.2)
theorem DB:aV gG gp S (a2 (List B) B) (fun _=> True) (enc (X:=Int)) fun x y=> y=gT x.1 fun z=> decide (z=x.2):=by
 rintro⟨l,s⟩ -
 simp[gG,gp, -Bool.forall_bool, -Bool.exists_bool]
 intro _
 refine aA (X:=Unit) [0,1] [] l.length (fun k _=> ∀x∈l.take k,decide (x=s)=false) (fun _=> []) (fun _=> []) () (by simp) (by simp) (by omega) (by simp) (by simp) (by simp) (by simp) (by simp) ?_ ?_
 ·intro k _ hk hP
  obtain⟨x,hx⟩:=te hk
  obtain⟨_,hgx⟩:=List.getElem?_eq_some_iff.1 hx
  simp[hk,hx,hgx, -Bool.forall_bool, -Bool.exists_bool]
  refine⟨fun h=> ?_,fun h=> ?_⟩
  ·exact(qE hx (by simp[h]) hP).symm
  ·rw[cU hx]
   intro z hz
   rcases List.mem_append.1 hz with hz | hz
   ·have:=hP z hz
    simpa using this
   ·simp at hz;subst hz
    exact fun e=> h e.symm
 ·intro _ hP
  simp[-Bool.forall_bool, -Bool.exists_bool]
  exact(kZ (by simpa using hP)).symm
theorem yo (h1:S aF=sr):aV cB cy S (a2 (List B) B) (fun _=> True) (enc (X:=Bool)) fun x y=> y=pH x.1 x.2:=by
 rintro⟨l,s⟩ -
 simp[cB,cy,h1, -Bool.forall_bool, -Bool.exists_bool]
 exact qD _ l
abbrev D9:Spc:=cC (a2 Cond (List fJ)) (fun x=> Z3 x.2 x.1=true/\x.2.length<=1000) (enc (X:=Bool)) fun _ y=> y=true
theorem yi (h1:S cI=uj) (h2:S ap=ol) (h3:S aW=Iv):aV cn cj S (a2 Cond (List fJ)) (fun x=> Z3 x.2 x.1=true/\x.2.length<=1000) (enc (X:=Bool)) fun _ y=> y=true:=by
 rintro⟨⟨op,name,arg,val,lab,fold,ks⟩,a⟩ ⟨hx,hl⟩
 have hx:Z3 a ⟨op,name,arg,val,lab,fold,ks⟩=true:=hx
 have hl:a.length<=1000:=hl
 unfold Z3 at hx
 simp only at hx
 split at hx
 ·rename_i e;subst e;simp at hx
  simp[cn,cj,h1,hl,hx, -Bool.forall_bool, -Bool.exists_bool]
 rename_i e2
 split at hx
 ·rename_i e;subst e;simp at hx
  simp[cn,cj,h2,hx, -Bool.forall_bool, -Bool.exists_bool]
 rename_i e3
 split at hx
 ·rename_i e;subst e;simp at hx
  simp[cn,cj,h2,hx.1,hx.2, -Bool.forall_bool, -Bool.exists_bool]
 rename_i e4
 split at hx
 ·rename_i e;subst e;simp at hx
  obtain⟨hn,ha⟩:=hx
  by_cases hae:arg=oj
  ·subst hae
   simp[cn,cj,h3,hn,oj, -Bool.forall_bool, -Bool.exists_bool]
  ·have ha':=ha.resolve_left hae
   have hae': ¬arg=⟨#[]⟩:=hae
   simp[cn,cj,h3,hn,ha',hae', -Bool.forall_bool, -Bool.exists_bool]
 rename_i e5
 simp[cn,cj,e2,e3,e4,e5, -Bool.forall_bool, -Bool.exists_bool]
abbrev Ec:Spc:=cC (a3 Cond (List fJ) (List B)) (fun x=> Nr x.2.1 x.2.2 x.1=true/\x.2.1.length<=1000) (enc (X:=Int)) fun _ y=> y=0
theorem yk (h1:S fD=AN) (h2:S fE=D9) (h3:S ia=Kx) (h4:S ap=ol) (h5:S gB=s_sConB) (h6:S ba=uf) (h7:S aw=M9):
 aV cT cS S (a3 Cond (List fJ) (List B)) (fun x=> Nr x.2.1 x.2.2 x.1=true/\x.2.1.length<=1000) (enc (X:=Int)) fun _ y=> y=0:=by
 rintro⟨x,a,lb⟩ ⟨hx,hl⟩
 have hx:Nr a lb x=true:=hx
 have hl:a.length<=1000:=hl
 unfold Nr at hx
 simp only[Bool.and_eq_true] at hx
 obtain⟨⟨hs,hn⟩,hc⟩:=hx
 obtain⟨op,name,arg,val,lab,fold,ks⟩:=x
 unfold qmr at hc
 simp only at hc
 have e: (Cond.mk op name arg val lab fold ks)=⟨op,name,arg,val,lab,fold,ks⟩:=rfl
 split at hc
 ·rename_i e;subst e
  obtain⟨r,hr⟩:=Option.isSome_iff_exists.1 hc
  simp[cT,cS,h1,h2,h3,hs,hn,hl,hr, -Bool.forall_bool, -Bool.exists_bool]
 rename_i e2
 split at hc
 ·rename_i e;subst e
  simp only[Bool.and_eq_true] at hc
  obtain⟨⟨⟨c1,c2⟩,c3⟩,c4⟩:=hc
  have hn':0<=oh a name:=by simpa [Z3] using hn
  have hrg:=(zO (fun x:fJ=> decide (x.nm=name)) a).2
  have hlt:oh a name < a.length:=hrg
  obtain⟨b,hb⟩:=te (show(oh a name).toNat < a.length by omega)
  obtain⟨_,hgb⟩:=List.getElem?_eq_some_iff.1 hb
  rw[hb] at c1
  have c1:b.st=true:=c1
  have c2: ¬val=⟨#[]⟩:=of_decide_eq_true c2
  have c3:WX val=false:=by simpa using c3
  simp[cT,cS,h1,h2,h4,h5,h6,hs,hn,hl,hn',hlt,hb,hgb,c1,c2,c3,c4, -Bool.forall_bool, -Bool.exists_bool]
 rename_i e3
 split at hc
 ·rename_i e;subst e
  have hc:pH lb lab=true:=hc
  simp[cT,cS,h1,h2,h7,hs,hn,hl,hc, -Bool.forall_bool, -Bool.exists_bool]
 rename_i e4
 split at hc
 ·rename_i e;subst e
  simp[cT,cS,h1,h2,h6,hs,hn,hl,hc, -Bool.forall_bool, -Bool.exists_bool]
 rename_i e5
 simp[cT,cS,h1,h2,hs,hn,hl,e2,e3,e4,e5, -Bool.forall_bool, -Bool.exists_bool]
end Go.Gv

namespace Go.Gv
open Go.Proofs
def mj:CC:=oX [oB 2 (.mv (.const ob))] [0] [] (oX [oA 3 0,oB 4 (.cmp .geq (oT 3) (.const (.int .u8 65))),oA 5 4,oH 6 5 (.mv (oT 0)),oH 7 5 (.cmp .leq (oT 6) (.const (.int .u8 90))),oB 8 (.pick (oT 5) (oT 7) (.const ob)),oA 9 8,oI 10 9 (.mv (oT 0)),oI 11 9 (.cmp .geq (oT 10) (.const (.int .u8 97))),oI 12 9 (.mv (oT 11)),oH 13 12 (.mv (oT 0)),
 oH 14 12 (.cmp .leq (oT 13) (.const (.int .u8 122))),oI 15 9 (.pick (oT 12) (oT 14) (.const ob)),oB 16 (.pick (oT 9) (.const (.bool true)) (oT 15)),oA 17 16,oI 18 17 (.mv (oT 0)),oI 19 17 (.eql false false [.int] (oT 18) (.const (.int .u8 95))),oB 20 (.pick (oT 17) (.const (.bool true)) (oT 19)),oA 2 20] [2] [] (.ret))
def lF:List ar:= [.tmp 2]
def zI:List Nat:= []
def mi:CC:=oX [oB 2 (.mv (.const ob))] [0] [] (oX [oA 3 0,oZ 4 a8 [oT 3],oA 5 4,oI 6 5 (.mv (oT 0)),oI 7 5 (.cmp .geq (oT 6) (.const (.int .u8 48))),oI 8 5 (.mv (oT 7)),oH 9 8 (.mv (oT 0)),oH 10 8 (.cmp .leq (oT 9) (.const (.int .u8 57))),oI 11 5 (.pick (oT 8) (oT 10) (.const ob)),oB 12 (.pick (oT 5) (.const (.bool true)) (oT 11)),oA 13 12,
 oI 14 13 (.mv (oT 0)),oI 15 13 (.eql false false [.int] (oT 14) (.const (.int .u8 45))),oB 16 (.pick (oT 13) (.const (.bool true)) (oT 15)),oA 2 16] [2] [] (.ret))
def lE:List ar:= [.tmp 2]
def zH:List Nat:= []
def iW:CC:=oX [oB 2 (.mv (.const ob))] [0] [] (.seq (oX [oA 4 0,oB 5 (.slen (oT 4)),oB 6 (.cmp .lss (oT 5) (oN 1)),oA 7 6,oI 8 7 (.mv (oT 0)),oI 9 7 (.slen (oT 8)),oI 10 7 (.cmp .gtr (oT 9) (oN 32)),oB 11 (.pick (oT 7) (.const (.bool true)) (oT 10)),oA 12 11,oI 13 12 (.mv (oT 0)),oI 14 12 (.sidx (oT 13) (oN 0)),oI 15 12 (.call a8 [oT 14]),
 oI 16 12 (.not (oT 15)),oB 17 (.pick (oT 12) (.const (.bool true)) (oT 16))] [0,17] [] (.ite (oT 17) (oX [oB 2 (.mv (.const ob))] [2] [] (.ret)) (.skip))) (.keep [0] [] (.seq (oX [oA 18 0,oB 19 (.slen (oT 18)),oB 20 (.mv (oN 0))] [0,19,20] [] (aP 0 20 19 21 1 (oX [oA 22 20,oA 3 22] [0,3,19,20] [] (oX [oA 23 0,oA 24 3,oB 25 (.sidx (oT 23) (oT 24)),oZ 26 ct [oT 25],
 oB 27 (.not (oT 26))] [0,19,20,27] [] (.ite (oT 27) (oX [oB 2 (.mv (.const ob))] [2] [] (.ret)) (.skip)))) 28)) (.keep [] [] (oX [oB 2 (.mv (.const (.bool true)))] [2] [] (.ret))))))
def iE:List ar:= [.tmp 2]
def uQ:List Nat:= []
def iV:CC:=oX [oB 2 (.mv (oN 0))] [0] [] (.seq (.block 0 (oX [oA 6 0,oB 7 (.slen (oT 6)),oB 8 (.cmp .gtr (oT 7) (oN 120)),oA 5 8] [0,5] [] (.ite (oT 5) (oX [oB 2 (.mv (oN 2))] [2] [] (.ret)) (oX [oA 10 0,oZ 11 df [oT 10],oB 12 (.not (oT 11)),oA 9 12] [0,9] [] (.ite (oT 9) (oX [oB 2 (.mv (oN 7))] [2] [] (.ret)) (.skip)))))) (.keep [0] [] (.seq (oX [
 oA 13 0,oB 14 (.srange (oT 13))] [14] [14] (.block 1 (.loop 1 (oX [oB 15 (.snext (oT 14)),oB 16 (.ext (oT 15) 0)] [14,15,16] [14] (.seq (.ite (oT 16) (.skip) (.exit 1)) (.keep [14,15] [14] (.block 2 (oX [oB 17 (.ext (oT 15) 2),oA 4 17] [4,14] [14] (oX [oA 18 4,oB 19 (.cmp .leq (oT 18) (.const (.int .i32 31))),oA 20 19,oI 21 20 (.mv (oT 4)),
 oI 22 20 (.eql false false [.int] (oT 21) (.const (.int .i32 127))),oB 23 (.pick (oT 20) (.const (.bool true)) (oT 22))] [14,23] [14] (.ite (oT 23) (oX [oB 2 (.mv (oN 14))] [2] [] (.ret)) (.skip))))))))))) (.keep [] [] (oX [oB 2 (.mv (oN 0))] [2] [] (.ret))))))
def iD:List ar:= [.tmp 2]
def uP:List Nat:= []
theorem ux:ay Tryz.prog ba uP iV iD 24:=ak mixed (by kernel_rfl)
def jH:CC:=oX [oB 4 (.mv (.const ob))] [0,1] [] (.seq (oX [oA 7 0,oB 8 (.len (oT 7)),oB 9 (.mv (oN 0))] [1,7,8,9] [] (aP 0 9 8 10 1 (oX [oB 11 (.iaddr 1 (oT 7) (oT 9)),oC 12 1 11,oA 6 12] [1,6,7,8,9] [] (oX [oA 13 6,oA 14 1,oB 15 (.eql false false [.str] (oT 13) (oT 14))] [1,7,8,9,15] [] (.ite (oT 15) (oX [oB 4 (.mv (.const (.bool true)))] [4] [] (.ret))
 (.skip)))) 16)) (.keep [] [] (oX [oB 4 (.mv (.const ob))] [4] [] (.ret))))
def jv:List ar:= [.tmp 4]
def vT:List Nat:= []
theorem vK:ay Tryz.prog eT vT jH jv 17:=ak mixed (by kernel_rfl)
def qc:CC:=oX [oB 4 (.mv (.const ob))] [0,1] [] (oX [oA 8 0,oZ 9 gW [oT 8],oA 7 9,oB 10 (.ext (oT 7) 0),oB 11 (.ext (oT 7) 1),oA 5 10,oA 6 11] [1,5,6] [] (oX [oA 12 6,oB 13 (.eql false false [.int] (oT 12) (oN 0)),oA 14 13,oH 15 14 (.mv (oT 5)),oH 16 14 (.mv (oT 1)),oH 17 14 (.call eT [oT 15,oT 16]),
 oB 18 (.pick (oT 14) (oT 17) (.const ob)),oA 4 18] [4] [] (.ret)))
def pA:List ar:= [.tmp 4]
def Fc:List Nat:= []
theorem EI:ay Tryz.prog jX Fc qc pA 19:=ak mixed (by kernel_rfl)
def cx:CC:=oX [oB 2 (.mv (.const on)),oB 3 (.mv (oN 0))] [0] [] (.seq (oX [oA 9 0,oZ 10 ba [oT 9],oA 4 10] [0,4] [] (oX [oA 11 4,oB 12 (.eql true false [.int] (oT 11) (oN 0))] [0,4,12] [] (.ite (oT 12) (oX [oA 13 4,oB 2 (.mv (.const on)),oA 3 13] [2,3] [51] (.ret)) (.skip)))) (.keep [0] [] (.seq (oX [oA 14 0,
 oB 15 (.eql false false [.str] (oT 14) (oS ⟨#[124]⟩))] [0,15] [] (.ite (oT 15) (oX [oB 2 (.mv (.const on)),oB 3 (.mv (oN 0))] [2,3] [51] (.ret)) (.skip))) (.keep [0] [] (.seq (oX [oA 16 0,oB 17 (.slen (oT 16)),oB 18 (.cmp .lss (oT 17) (oN 2)),oA 19 18,oI 20 19 (.mv (oT 0)),oI 21 19 (.sidx (oT 20) (oN 0)),oI 22 19 (.eql true false [.int] (oT 21) (.const (.int .u8 124))),
 oB 23 (.pick (oT 19) (.const (.bool true)) (oT 22)),oA 24 23,oI 25 24 (.mv (oT 0)),oI 26 24 (.mv (oT 0)),oI 27 24 (.slen (oT 26)),oI 28 24 (.arith .sub (oT 27) (oN 1)),oI 29 24 (.sidx (oT 25) (oT 28)),oI 30 24 (.eql true false [.int] (oT 29) (.const (.int .u8 124))),oB 31 (.pick (oT 24) (.const (.bool true)) (oT 30))] [0,31] [] (.ite (oT 31) (oX [oB 2 (.mv (.const on)),
 oB 3 (.mv (oN 3))] [2,3] [51] (.ret)) (.skip))) (.keep [0] [] (oX [oB 5 (.mv (.const on))] [0,5] [51] (.seq (oX [oB 6 (.mv (oN 1)),oB 7 (.mv (oN 1))] [0,5,6,7] [51] (.block 0 (.loop 1 (.seq (oX [oA 32 7,oA 33 0,oB 34 (.slen (oT 33)),oB 35 (.cmp .lss (oT 32) (oT 34))] [0,5,6,7,35] [51] (.ite (oT 35) (.skip) (.exit 0))) (.keep [0,5,6,7] [51] (.seq (.block 1 (.seq (oX [oA 38 0,oA 39 7,
 oB 40 (.sidx (oT 38) (oT 39)),oB 41 (.eql true false [.int] (oT 40) (.const (.int .u8 124)))] [0,5,6,7,41] [51] (.ite (oT 41) (.exit 1) (.skip))) (.keep [0,5,6,7] [51] (.seq (oX [oA 42 7,oA 43 6,oB 44 (.eql false false [.int] (oT 42) (oT 43))] [0,5,6,7,44] [51] (.ite (oT 44) (oX [oB 2 (.mv (.const on)),oB 3 (.mv (oN 3))] [2,3] [51] (.ret)) (.skip))) (.keep [0,5,6,7] [51] (oX [oA 45 5,
 oA 46 0,oA 47 6,oA 48 7,oB 49 (.sslice (oT 46) (some (oT 47)) (some (oT 48))),oB 50 (.bslice aL 1 [oT 49]),oB 51 (.append none aL 1 16 (oT 45) (oT 50)),oA 5 51] [0,5,7] [51] (.reg [oA 52 7,oB 53 (.arith .add (oT 52) (oN 1)),oA 6 53]))))))) (.keep [0,5,6,7] [51] (.reg [oA 36 7,oB 37 (.arith .add (oT 36) (oN 1)),oA 7 37])))))))) (.keep [5] [51] (.seq (oX [
 oB 8 (.mv (oN 1))] [5,8] [51] (.block 2 (.loop 2 (.seq (oX [oA 54 8,oA 55 5,oB 56 (.len (oT 55)),oB 57 (.cmp .lss (oT 54) (oT 56))] [5,8,57] [51] (.ite (oT 57) (.skip) (.exit 2))) (.keep [5,8] [51] (.seq (.block 3 (.seq (.regd [oA 60 5,oA 61 8,oB 62 (.arith .sub (oT 61) (oN 1)),oB 63 (.iaddr 1 (oT 60) (oT 62)),oC 64 1 63,oA 65 5,oA 66 8,oB 67 (.iaddr 1 (oT 65) (oT 66)),oC 68 1 67] [
 oB 69 (.cmp .geq (oT 64) (oT 68))]) (.keep [5,8,69] [51] (.ite (oT 69) (oX [oB 2 (.mv (.const on)),oB 3 (.mv (oN 6))] [2,3] [51] (.ret)) (.skip))))) (.keep [5,8] [51] (.reg [oA 58 8,oB 59 (.arith .add (oT 58) (oN 1)),oA 8 59])))))))) (.keep [5] [51] (oX [oA 70 5,oA 2 70,oB 3 (.mv (oN 0))] [2,3] [51] (.ret)))))))))))))
def cv:List ar:= [.tmp 2, .tmp 3]
def Bm:List Nat:= []
theorem A2:ay Tryz.prog gW Bm cx cv 71:=ak mixed (by kernel_rfl)
end Go.Gv

namespace Go.Gv
open Cod (enc dec)
variable {S S0:Nat->Spc}
def JQ (c:Int):Bool:=(decide (65<=c) && decide (c<=90)) || (decide (97<=c) && decide (c<=122)) || decide (c=95)
def qag (c:Int):Bool:=JQ c || (decide (48<=c) && decide (c<=57)) || decide (c=45)
abbrev Kz:Spc:=cC (a1 U8) (fun _=> True) (enc (X:=Bool)) fun c y=> y=JQ c.val
theorem At:aV mj lF S (a1 U8) (fun _=> True) (enc (X:=Bool)) fun c y=> y=JQ c.val:=by
 rintro⟨c⟩ -
 by_cases h1: (65:Int)<=c <;> by_cases h2:c<=90 <;> by_cases h3: (97:Int)<=c <;> by_cases h4:c<=122 <;> by_cases h5:c=95 <;>
  simp[mj,lF,JQ,h1,h2,h3,h4,h5, -Bool.forall_bool, -Bool.exists_bool]
abbrev AM:Spc:=cC (a1 U8) (fun _=> True) (enc (X:=Bool)) fun c y=> y=qag c.val
theorem As (h0:S a8=Kz):aV mi lE S (a1 U8) (fun _=> True) (enc (X:=Bool)) fun c y=> y=qag c.val:=by
 rintro⟨c⟩ -
 cases hb:JQ c <;> by_cases h1: (48:Int)<=c <;> by_cases h2:c<=57 <;> by_cases h3:c=45 <;>
  simp[mi,lE,qag,h0,hb,h1,h2,h3, -Bool.forall_bool, -Bool.exists_bool]
theorem Uo (c:UInt8):Pe c=JQ (c.toNat:Int):=by
 unfold Pe JQ
 rw[Bool.eq_iff_iff]
 simp
 omega
theorem qbL (c:UInt8):qiE c=qag (c.toNat:Int):=by
 unfold qiE qag
 rw[Uo]
 cases JQ (c.toNat:Int)
 ·rw[Bool.eq_iff_iff]
  simp
  omega
 ·simp
theorem vB (h1:S a8=Kz) (h2:S ct=AM):aV iW iE S (a1 B) (fun s=> A5 s=true) (enc (X:=Bool)) fun _ y=> y=true:=by
 rintro s hs
 have hs:A5 s=true:=hs
 unfold A5 at hs
 simp only[Bool.and_eq_true,decide_eq_true_eq] at hs
 obtain⟨⟨⟨q1,q2⟩,q3⟩,q4⟩:=hs
 simp[iW,iE,h1,h2, -Bool.forall_bool, -Bool.exists_bool]
 have r1: (1:Int)<=(s.size:Int):=by omega
 have r2: (s.size:Int)<=32:=by omega
 have r3: (s.size:Int)<=9223372036854775807:=by omega
 have hsl:s.data.toList.length=s.size:=Array.length_toList
 refine fun _=> ⟨fun _ _=> ⟨fun _=> ⟨by omega,fun c hc=> ?_⟩,r2⟩,r1⟩
 have hc':s.data.toList[0]?=some c:=by rw[Array.getElem?_toList];exact hc
 have hb:JQ (c.toNat:Int)=true:=by
  rw[<-Uo]
  cases hl:s.data.toList with
  | nil=> rw[hl] at hc';cases hc'
  | cons d l=>
    rw[hl] at hc' q3
    cases hc'
    exact q3
 refine⟨hb,fun _ _=> ?_⟩
 refine aA (X:=Unit) [0] [] s.size (fun _ _=> True) (fun _=> []) (fun _=> []) () (by simp) (by simp) (by omega) (by simp) (by simp) trivial (by simp) (by simp) ?_ ?_
 ·rintro k -hk -
  obtain⟨d,hd⟩:=te (show k < s.data.toList.length by omega)
  have hg:qag (d.toNat:Int)=true:=by rw[<-qbL];exact List.all_eq_true.1 q4 d (List.mem_of_getElem? hd)
  have hd':s.data[k]?=some d:=by rw[<-Array.getElem?_toList];exact hd
  obtain⟨_,hgd⟩:=Array.getElem?_eq_some_iff.1 hd'
  simp[hk,hd',hgd,hg,h2, -Bool.forall_bool, -Bool.exists_bool]
 ·rintro - -
  simp[-Bool.forall_bool, -Bool.exists_bool]
theorem vA (h1:S df=s_cpVal):aV iV iD S (a1 B) (fun s=> uE s=true) (enc (X:=Int)) fun _ y=> y=0:=by
 rintro s hs
 have hs:uE s=true:=hs
 unfold uE at hs
 simp only[Bool.and_eq_true,decide_eq_true_eq] at hs
 obtain⟨q1,q2⟩:=hs
 have ha:rm s=true:=by
  unfold rm
  refine List.all_eq_true.2 fun c hc=> ?_
  have:=List.all_eq_true.1 q2 c hc
  simp at this
  simp
  omega
 have r1: (s.size:Int)<=120:=by omega
 have r2: (s.size:Int)<=9223372036854775807:=by omega
 have r3:s.size<=1000:=by omega
 have r4: ¬ (120:Int) < (s.size:Int):=by omega
 simp[iV,iD,h1,ha,r1,r2,r3,r4, -Bool.forall_bool, -Bool.exists_bool]
 intro b
 refine aY (X:=Nat) [] [] (fun p=> p<=s.size) (fun p=> [(14, .bptr 14 b 0)]) (fun p=> [(14, .iter b s p)]) (fun p=> s.size -p) 0 (Nat.zero_le _) (by simp) (by simp) ?_
 rintro p hp
 by_cases hlt:p < s.size
 ·obtain⟨c,hc,hc128,hdec⟩:=BV ha hlt
  have hcm:=List.all_eq_true.1 q2 c (List.mem_of_getElem? hc)
  simp at hcm
  have n1: ¬ (c.toNat:Int)<=31:=by omega
  have n2: ¬ (c.toNat:Int)=127:=by omega
  simp[hlt,hdec,n1,n2, -Bool.forall_bool, -Bool.exists_bool]
  exact⟨p+1,by omega, .inl rfl,by omega⟩
 ·have hpe:p=s.size:=by omega
  subst hpe
  simp[-Bool.forall_bool, -Bool.exists_bool]
end Go.Gv
