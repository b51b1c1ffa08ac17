/- A part of the framework and of the walks: V3 V55 W151 W152 W153 C59 W159 W154. -/
import Derived.Test.YtphdikcommfnhaaGreatDoorGf26
import Derived.Test.YtphdikcommfnhaaGreatDoorGf20
import Derived.Test.YtphdikcommfnhaaGreatDoorGf28
set_option linter.unusedSimpArgs false
set_option linter.unusedVariables false
set_option linter.unusedSectionVars false
set_option maxRecDepth 100000
set_option maxHeartbeats 0

namespace Go.Gv
instance:Inhabited Cond:=⟨⟨0,⟨#[]⟩,⟨#[]⟩,⟨#[]⟩,⟨#[]⟩,false, []⟩⟩
instance:Inhabited Pat:=⟨⟨0,default,⟨#[]⟩,⟨#[]⟩,0,0, []⟩⟩
def Cond0:Cond:=⟨0,⟨#[]⟩,⟨#[]⟩,⟨#[]⟩,⟨#[]⟩,false, []⟩
mutual
def eG:Pat->Nat| .mk _ _ _ _ _ _ ks=>GL ks+1
def GL:List Pat->Nat|[]=>0|k::ks=>max (eG k) (GL ks)
end
mutual
def mi:Cond->Nat| .mk _ _ _ _ _ _ ks=>kw ks+1
def kw:List Cond->Nat|[]=>0|k::ks=>max (mi k) (kw ks)
end
mutual
def iZ:Pat->Nat| .mk _ _ _ _ _ _ ks=>cA ks+1
def cA:List Pat->Nat|[]=>0|k::ks=>iZ k+cA ks
end
theorem H5(p:Pat):eG p=GL p.kids+1:=by cases p;rw[eG]
theorem Pj(p:Cond):mi p=kw p.kids+1:=by cases p;rw[mi]
theorem nn(p:Pat):iZ p=cA p.kids+1:=by cases p;rw[iZ]
theorem MH{k:Pat} :∀ {ks:List Pat},k∈ks->eG k<=GL ks
 | a::ks,h=>by
   rw[GL]
   rcases qwT.1 h with rfl|h
   ·omega
   ·have:=MH h;omega
theorem Ni{k:Cond} :∀ {ks:List Cond},k∈ks->mi k<=kw ks
 | a::ks,h=>by
   rw[kw]
   rcases qwT.1 h with rfl|h
   ·omega
   ·have:=Ni h;omega
theorem jq{p k:Pat}(h:k∈p.kids):eG k < eG p:=by have:=MH h;rw[H5 p];omega
theorem iR{C:Pat->Prop}(h:∀p,(∀k∈p.kids,C k)->C p)(p:Pat):C p:=by
 generalize hn:eG p=n
 induction n using Nat.strongRecOn generalizing p with
 | _ n ih=>exact h p fun k hk=>ih (eG k) (by rw[<-hn];exact jq hk) k rfl
mutual
def eV(f:Pat->Bool):Pat->Bool| .mk op c l r mn mx ks=>f ⟨op,c,l,r,mn,mx,ks⟩ && Ey f ks
def Ey(f:Pat->Bool):List Pat->Bool|[]=>true|k::ks=>eV f k && Ey f ks
end
theorem Kj(f:Pat->Bool):∀ks:List Pat,Ey f ks=ks.all (eV f)
 | []=>by rw[Ey];rfl
 | k::ks=>by rw[Ey,Kj f ks,qyB]
theorem eH(f:Pat->Bool)(p:Pat):eV f p=(f p && p.kids.all (eV f)):=by cases p;rw[eV,Kj]
mutual
def di:Pat->Int->Bool| .mk _ _ _ _ _ _ ks,d=>decide (d<=100) && wa ks (d+1)
def wa:List Pat->Int->Bool|[],_=>true|k::ks,d=>di k d && wa ks d
end
theorem DL(d:Int):∀ks:List Pat,wa ks d=ks.all (di · d)
 | []=>by rw[wa];rfl
 | k::ks=>by rw[wa,DL d ks,qyB]
theorem mw(p:Pat)(d:Int):di p d=(decide (d<=100) && p.kids.all (di · (d+1))):=by cases p;rw[di,DL]
theorem NX(p:Pat):∀d d':Int,d'<=d->di p d=true->di p d'=true:=by
 induction p using iR with|_ p ih=>?_
 intro d d' h
 rw[mw,mw]
 simp only[qwX,decide_eq_true_eq,qwV]
 exact fun⟨h1,h2⟩=>⟨by omega,fun k hk=>ih k hk (d+1) (d'+1) (by omega) (h2 k hk)⟩
def vP(p:Pat):Prop:=(p.op=1/\p.reg=⟨#[]⟩/\p.mn=0/\p.mx=0/\p.kids=[])\/
 ((p.op=2\/p.op=3)/\p.cond=Cond0/\p.lab=⟨#[]⟩/\p.mn=0/\p.mx=0/\p.kids=[])\/
 ((p.op=4\/p.op=5)/\p.cond=Cond0/\p.lab=⟨#[]⟩/\p.reg=⟨#[]⟩/\p.mn=0/\p.mx=0/\2<=p.kids.length)\/
 (p.op=6/\p.cond=Cond0/\p.lab=⟨#[]⟩/\p.reg=⟨#[]⟩/\p.kids.length=1)
noncomputable def Ac(p:Pat):Bool:= @decide (vP p) (Classical.propDecidable _)
theorem A5(p:Pat):Ac p=true↔vP p:= @decide_eq_true_iff (vP p) (Classical.propDecidable _)
def xt(p:Pat):Bool:=decide (p.op=6->0<=p.mn/\p.mn<=16/\(p.mx= -1\/p.mn<=p.mx/\p.mx<=16))
def uu(v:B->Bool)(p:Pat):Bool:=decide (((p.op=2\/p.op=3)->v p.reg=true)/\(p.lab≠ ⟨#[]⟩->v p.lab=true))
noncomputable def pq(v:B->Bool)(p:Pat):Bool:=di p 1 && eV Ac p && eV (uu v) p && eV xt p
theorem QY{v:B->Bool}{p k:Pat}(h:pq v p=true)(hk:k∈p.kids):pq v k=true:=by
 unfold pq at*
 rw[eH,eH,eH xt,mw]at h
 simp only[qwX,qwV]at h
 obtain⟨⟨⟨⟨_,h1⟩,_,h2⟩,_,h3⟩,_,h4⟩:=h
 rw[h2 k hk,h3 k hk,h4 k hk,NX k _ 1 (by omega) (h1 k hk)]
 rfl
theorem MG{v:B->Bool}{p:Pat}(h:pq v p=true):Ac p=true/\uu v p=true/\xt p=true:=by
 unfold pq at*
 rw[eH,eH,eH xt]at h
 simp only[qwX]at h
 exact⟨h.1.1.2.1,h.1.2.1,h.2.1⟩
def Gy(p:Pat)(n:Int):Int:=if p.kids=[]then 1 else if p.op=6 then(if p.mx= -1 then min (n* (p.mn+1)) 1000 else if p.mx=0 then n else min (n*p.mx) 1000)else n
mutual
def km:Pat->Int| .mk op c l r mn mx ks=>Gy ⟨op,c,l,r,mn,mx,ks⟩ (iy ks 0)
def iy:List Pat->Int->Int|[],n=>n|k::ks,n=>iy ks (min (n+km k) 1000)
end
theorem vZ(p:Pat):km p=Gy p (iy p.kids 0):=by cases p;rw[km]
theorem TK(a b:List Pat)(n:Int):iy (a++b) n=iy b (iy a n):=by
 induction a generalizing n with
 | nil=>rfl
 | cons k a ih=>simp only[qxA,iy];exact ih _
mutual
def aM:Pat->List Pat| .mk op c l r mn mx ks=>if op=1 then[⟨op,c,l,r,mn,mx,ks⟩]else Ah ks
def Ah:List Pat->List Pat|[]=>[]|k::ks=>aM k++Ah ks
end
theorem GR:∀ks:List Pat,Ah ks=ks.flatMap aM
 | []=>by rw[Ah];rfl
 | k::ks=>by rw[Ah,GR ks,qxt]
theorem cU(p:Pat):aM p=if p.op=1 then[p]else p.kids.flatMap aM:=by cases p;rw[aM,GR]
theorem JX(p:Pat):(aM p).length<=iZ p:=by
 induction p using iR with|_ p ih=>?_
 rw[cU,nn]
 split
 ·simp
 ·have:∀ks:List Pat,(∀k∈ks,(aM k).length<=iZ k)->(ks.flatMap aM).length<=cA ks:=by
   intro ks
   induction ks with
   | nil=>intro _;simp[cA]
   | cons k ks ih=>
     intro h
     rw[qxt,qxd,cA]
     have h1:=h k (by simp)
     have h2:=ih fun x hx=>h x (by simp[hx])
     omega
  have:=this p.kids ih
  omega
theorem wP:∀ (ks:List Pat) (n:Int),0<=n->n<=1000->(∀k∈ks,0<=km k)->0<=iy ks n/\iy ks n<=1000
 | [],n,h0,h1,_=>by rw[iy];exact⟨h0,h1⟩
 | k::ks,n,h0,h1,h=>by
   rw[iy]
   have:=h k (by simp)
   exact wP ks _ (by omega) (by omega) fun x hx=>h x (by simp[hx])
theorem XS{v:B->Bool}(p:Pat):pq v p=true->0<=km p/\km p<=1000:=by
 induction p using iR with|_ p ih=>?_
 intro h
 have hk:=wP p.kids 0 (by omega) (by omega) fun k hk=>(ih k hk (QY h hk)).1
 have hn:=(MG h).2.2
 unfold xt at hn
 rw[decide_eq_true_eq]at hn
 rw[vZ]
 generalize iy p.kids 0=n at hk
 unfold Gy
 split
 ·omega
 ·split
  ·rename_i h6
   have hn:=hn h6
   split
   ·have:0<=n* (p.mn+1):=qzb hk.1 (by omega)
    omega
   ·split
    ·exact hk
    ·have:0<=n*p.mx:=qzb hk.1 (by omega)
     omega
  ·exact hk
end Go.Gv

namespace Go.Gv
open Cod (enc dec)
mutual
def pw:Cond->Nat| .mk _ _ _ _ _ _ ks=>gm ks+1
def gm:List Cond->Nat|[]=>0|k::ks=>pw k+gm ks
end
theorem H6(x:Cond):pw x=gm x.kids+1:=by cases x;rw[pw]
theorem A4:∀ (a b:List Cond),gm (a++b)=gm a+gm b
 | [],b=>by rw[qxG,gm];omega
 | k::a,b=>by rw[qxA,gm,gm,A4 a b];omega
theorem Nj:∀ (a b:List Cond),kw (a++b)=max (kw a) (kw b)
 | [],b=>by rw[qxG,kw];omega
 | k::a,b=>by rw[qxA,kw,kw,Nj a b];omega
theorem MK:∀ {ks:List Cond} {k:Cond},k∈ks->pw k<=gm ks
 | x::ks,k,h=>by
   rw[gm]
   rcases qwT.1 h with rfl|h
   ·omega
   ·have:=MK h;omega
theorem Yn{ks:List Cond}{k:Nat}{x:Cond}(h:ks[k]? =some x):gm (ks.take (k+1))=gm (ks.take k) +pw x/\kw (ks.take (k+1))=max (kw (ks.take k)) (mi x)/\gm (ks.take k) +pw x<=gm ks:=by
 have e:=br h
 refine⟨by rw[e,A4,gm,gm];omega,by rw[e,Nj,kw,kw];omega,?_⟩
 conv=>rhs;rw[<-qxs (k+1) ks,A4]
 rw[e,A4,gm,gm]
 omega
def rO:B:=⟨#[]⟩
def kA(a:List Attr)(n:B):Int:=gF a fun x=>decide (x.nm=n)
def xJ(a:List Attr)(n:B):Int:=if n=rO then min 0 ((a.length:Int) -1)else kA a n
def WQ(c:UInt8):Bool:=(decide (65<=c.toNat) && decide (c.toNat<=90))||(decide (97<=c.toNat) && decide (c.toNat<=122))||decide (c.toNat=95)
def qs2(c:UInt8):Bool:=WQ c||(decide (48<=c.toNat) && decide (c.toNat<=57))||decide (c.toNat=45)
def FH(s:B):Bool:=decide (1<=s.size/\s.size<=32) && (match s.data.toList with|c::_=>WQ c|[]=>false) && s.data.toList.all qs2
def Ab(s:B):Bool:=decide (s.size<=120) && s.data.toList.all fun c=>decide (32<=c.toNat/\c.toNat < 127)
def qio(x:Cond):Bool:=
 if x.op=1 then decide (x.name=rO/\x.arg=rO/\x.val=rO/\x.lab=rO/\x.fold=false) && x.kids.isEmpty else
 if x.op=2 then decide (x.arg=rO/\x.lab=rO) && x.kids.isEmpty else
 if x.op=3 then decide (x.arg=rO/\x.lab=rO/\x.fold=false) && x.kids.isEmpty else
 if x.op=4 then decide (x.val=rO/\x.fold=false) && x.kids.isEmpty else
 if x.op=5 then decide (x.lab=rO/\x.fold=false/\(x.arg=rO->x.val=rO)) && x.kids.isEmpty else
 if x.op=6 then decide (x.name=rO/\x.arg=rO/\x.val=rO/\x.lab=rO/\x.fold=false) && decide (x.kids.length=1)else
 if x.op=7\/x.op=8 then decide (x.name=rO/\x.arg=rO/\x.val=rO/\x.lab=rO/\x.fold=false) && decide (2<=x.kids.length/\x.kids.length<=60)else false
def qhd(a:List Attr)(x:Cond):Bool:=
 if x.op=2 then decide (0<=xJ a x.name)else
 if x.op=3 then decide (0<=kA a x.name)else
 if x.op=4 then decide (0<=kA a x.name/\0<=kA a x.arg)else
 if x.op=5 then FH x.name && (decide (x.arg=rO)||FH x.arg)else true
def qgq(s:B):Bool:=s.data.toList.any fun c=>decide (c.toNat=124)
def qqC(a:List Attr)(lb:List B)(x:Cond):Bool:=
 if x.op=2 then(nl x.val).isSome else
 if x.op=3 then(match a[(kA a x.name).toNat]? with|some b=>b.st|none=>false) && decide (x.val≠rO) && !qgq x.val && Ab x.val else
 if x.op=4 then lb.any fun l=>decide (l=x.lab)else
 if x.op=5 then Ab x.val else true
def oP(a:List Attr)(lb:List B)(x:Cond):Bool:=qio x && qhd a x && qqC a lb x
def rR(a:List Attr)(lb:List B):Nat->Cond->Bool
 | 0=>fun _=>false
 | n+1=>fun x=>oP a lb x && x.kids.all (rR a lb n)
def qg6(a:List Attr)(lb:List B)(x:Cond):Bool:=decide (pw x<=60/\mi x<=20) && rR a lb 20 x
end Go.Gv

namespace Go.Gv
open Cod (enc dec)
variable {S S0:Nat->Spc}
theorem yp{X:Type}{l:List X}{k:Nat}(h:k < l.length):∃x,l[k]? =some x:=⟨_,qwQ h⟩
def qnY(n:Nat)(x:Cond×Int×Int):Prop:=mi x.1<=n/\0<=x.2.1/\x.2.1+pw x.1<=60/\0<=x.2.2/\x.2.2+mi x.1<=1000/\mi x.1<=60
abbrev QJ(n:Nat):Spc:=aJ (a3 Cond Int Int) (qnY n) (ww (Y:=Int) (Z:=Int)) fun x y=>y=(x.2.1+pw x.1,x.2.2+mi x.1 -1)
abbrev QK:Spc:=aJ (a3 Cond Int Int) (fun x=>∃n,qnY n x) (ww (Y:=Int) (Z:=Int)) fun x y=>y=(x.2.1+pw x.1,x.2.2+mi x.1 -1)
theorem zj(n:Nat)(h1:S ez=QJ n):aq jM jm S (a3 Cond Int Int) (qnY (n+1)) (ww (Y:=Int) (Z:=Int)) fun x y=>y=(x.2.1+pw x.1,x.2.2+mi x.1 -1):=by
 rintro⟨x,nodes,deep⟩ ⟨hn,h0,h2,h3,h4,h5⟩
 simp only at hn h0 h2 h3 h4 h5
 have hd1:=Pj x
 have hn1:=H6 x
 simp[jM,jm]
 refine⟨by simp only[InR];omega,fun hkl=>?_⟩
 refine ai (X:=Int×Int) [2,17] [] x.kids.length (fun k z=>z.1=nodes+1+ (gm (x.kids.take k):Int)/\z.2=deep+ (kw (x.kids.take k):Int)) (fun z=>[(1,enc z.1),(8,enc z.2)]) (fun _=>[]) (nodes+1,deep) (by simp) (by simp) (by omega) (by simp) (by simp) (by simp[gm,kw]) (by simp) (by simp) ?_ ?_
 ·rintro k ⟨m,d⟩ hk ⟨e1,e2⟩
  simp only at e1 e2
  obtain⟨y,hy⟩:=yp hk
  obtain⟨_,hgy⟩:=qwP.1 hy
  have hm:=Yn hy
  have hd:=Ni (qwS hy)
  have hp:qnY n (y,m,deep+1):=⟨by show mi y<=n;omega,by show 0<=m;omega,by show m+pw y<=60;omega,by show 0<=deep+1;omega,by show deep+1+mi y<=1000;omega,by show mi y<=60;omega⟩
  have hm60:¬60 < m:=by have:=H6 y;omega
  simp[h1,hk,hy,hgy,hp,hm60]
  exact⟨by simp only[InR];omega,by omega,by rw[hm.2.1,e2];omega⟩
 ·rintro⟨m,d⟩ ⟨e1,e2⟩
  simp only at e1 e2
  rw[qxn]at e1 e2
  simp
  exact⟨by omega,by omega⟩
abbrev Mw:Spc:=aJ (a1 Cond) (fun x=>qio x=true) (enc (X:=Bool)) fun _ y=>y=true
set_option maxHeartbeats 1000000 in
theorem BW:aq ba aZ S (a1 Cond) (fun x=>qio x=true) (enc (X:=Bool)) fun _ y=>y=true:=by
 rintro⟨op,name,arg,val,lab,fold,ks⟩ hx
 have hx:qio ⟨op,name,arg,val,lab,fold,ks⟩=true:=hx
 unfold qio at hx
 simp only at hx
 split at hx
 ·rename_i e;subst e;simp at hx
  obtain⟨⟨rfl,rfl,rfl,rfl,rfl⟩,rfl⟩:=hx
  simp[ba,aZ,rO, -Bool.forall_bool, -Bool.exists_bool]
 split at hx
 ·rename_i e;subst e;simp at hx
  obtain⟨⟨rfl,rfl⟩,rfl⟩:=hx
  simp[ba,aZ,rO, -Bool.forall_bool, -Bool.exists_bool]
 split at hx
 ·rename_i e;subst e;simp at hx
  obtain⟨⟨rfl,rfl,rfl⟩,rfl⟩:=hx
  simp[ba,aZ,rO, -Bool.forall_bool, -Bool.exists_bool]
 split at hx
 ·rename_i e;subst e;simp at hx
  obtain⟨⟨rfl,rfl⟩,rfl⟩:=hx
  simp[ba,aZ,rO, -Bool.forall_bool, -Bool.exists_bool]
 split at hx
 ·rename_i e;subst e;simp at hx
  obtain⟨⟨rfl,rfl,hav⟩,rfl⟩:=hx
  by_cases ha:arg=rO
  ·have hv:=hav.resolve_left fun h=>h ha
   subst ha;subst hv
   simp[ba,aZ,rO, -Bool.forall_bool, -Bool.exists_bool]
  ·have ha':¬arg=⟨#[]⟩:=ha
   simp[ba,aZ,rO,ha', -Bool.forall_bool, -Bool.exists_bool]
 split at hx
 ·rename_i e;subst e;simp at hx
  obtain⟨⟨rfl,rfl,rfl,rfl,rfl⟩,hk⟩:=hx
  simp[ba,aZ,rO,hk, -Bool.forall_bool, -Bool.exists_bool]
 split at hx
 ·rename_i e
  simp at hx
  obtain⟨⟨rfl,rfl,rfl,rfl,rfl⟩,hk1,hk2⟩:=hx
  have q1:(2:Int)<=(ks.length:Int):=by omega
  have q2:(ks.length:Int)<=60:=by omega
  have q3:(ks.length:Int)<=9223372036854775807:=by omega
  rcases e with rfl|rfl <;> simp[ba,aZ,rO,q1,q2,q3, -Bool.forall_bool, -Bool.exists_bool]
 ·cases hx
end Go.Gv

namespace Go.Gv
open Cod (enc dec)
variable {S S0:Nat->Spc}
theorem Ai{X:Type}(p:X->Bool):∀l:List X, -1<=gF l p/\gF l p < l.length
 | []=>⟨qyD _,by simp[gF]⟩
 | x::l=>by
   have:=Ai p l
   rw[gF,qxH]
   split
   ·omega
   ·split <;> omega
open Classical in
noncomputable def aX{Z:Type}(v:Z->List D)(hi:∀z z',v z=v z'->z=z'):de Z:=⟨fun ds=>if h:∃z,ds=v z then some h.choose else none,v,fun ds z h=>by
 split at h
 ·rename_i h'
  have e:h'.choose=z:=qw4 h
  rw[<-e,<-h'.choose_spec]
  exact⟨rfl,fun k d d' h1 h2=>by rw[h1]at h2;cases h2;exact .same _⟩
 ·cases h⟩
open Classical in
theorem C3{Z:Type}(v:Z->List D)(hi:∀z z',v z=v z'->z=z')(z:Z):(aX v hi).dec (v z)=some z:=by
 have h:∃z',v z=v z':=⟨z,rfl⟩
 show(if h:∃z',v z=v z' then some h.choose else none)=some z
 rw[dif_pos h]
 exact congrArg some (hi _ _ h.choose_spec).symm
theorem Be{Z:Type}(v:Z->List D)(hi:∀z z',v z=v z'->z=z')(z:Z):(aX v hi).view z=v z:=rfl
def XG(x:Attr×B):List D:=[enc x.1, .cptr [enc x.2] 0]
theorem P3(z z':Attr×B)(h:XG z=XG z'):z=z':=by
 obtain⟨a,s⟩:=z
 obtain⟨a',s'⟩:=z'
 unfold XG at h
 simp only[qxg,D.cptr.injEq,and_true]at h
 rw[aK h.1,aK h.2]
noncomputable abbrev qnR:de (Attr×B):=aX XG P3
noncomputable abbrev N8:Spc:=aJ qnR (fun _=>True) (enc (X:=Bool)) fun x y=>y=decide (x.1.nm=x.2)
theorem vT:aq fJ fF S qnR (fun _=>True) (enc (X:=Bool)) fun x y=>y=decide (x.1.nm=x.2):=by
 rintro⟨a,s⟩ -
 rw[Be]
 simp[XG,fJ,fF, -Bool.forall_bool, -Bool.exists_bool]
abbrev A2:Spc:=aJ (a2 (List Attr) B) (fun _=>True) (enc (X:=Int)) fun x y=>y=kA x.1 x.2
theorem yM(h0:S0 bK=N8)(h1:S ek=TV Attr S0):aq gV gE S (a2 (List Attr) B) (fun _=>True) (enc (X:=Int)) fun x y=>y=kA x.1 x.2:=by
 rintro⟨a,s⟩ -
 have hf:FunOn S0 (.clo bK [.cptr [enc s] 0]) a fun x=>decide (x.nm=s):=
  wt (f:=fun x=>(x,s)) h0 (fun x _=>C3 XG P3 (x,s)) (fun _ _=>trivial) (fun x _ y hy=>hy)
 simp[gV,gE,h1, -Bool.forall_bool, -Bool.exists_bool]
 exact⟨⟨_,hf⟩,fun y hy=>hy _ hf⟩
abbrev I5:Spc:=aJ (a2 (List Attr) B) (fun x=>x.1.length<=1000) (enc (X:=Int)) fun x y=>y=xJ x.1 x.2
theorem Di(h1:S bE=A2):aq gU gD S (a2 (List Attr) B) (fun x=>x.1.length<=1000) (enc (X:=Int)) fun x y=>y=xJ x.1 x.2:=by
 rintro⟨a,s⟩ hl
 have hl:a.length<=1000:=hl
 have hin:InR .i64 ((a.length:Int) -1):=by simp only[InR];omega
 have hl':(a.length:Int)<=9223372036854775807:=by omega
 by_cases hs:s=rO
 ·subst hs
  simp[gU,gD,rO,xJ,hin,hl', -Bool.forall_bool, -Bool.exists_bool]
 ·have hs':¬s=⟨#[]⟩:=hs
  simp[gU,gD,rO,xJ,h1,hs', -Bool.forall_bool, -Bool.exists_bool]
def ue(t:List (List B))(i k:Int):B:=if i < 0\/k < 0 then rO else match t[i.toNat]? with
 | some r=>(match r[k.toNat]? with|some s=>s|none=>rO)
 | none=>rO
abbrev QO:Spc:=aJ (a3 Corpus Int Int) (fun x=>x.1.toks.length<=100000/\∀r∈x.1.toks,r.length<=100000) (enc (X:=B)) fun x y=>y=ue x.1.toks x.2.1 x.2.2
theorem Dk:aq bV bN S (a3 Corpus Int Int) (fun x=>x.1.toks.length<=100000/\∀r∈x.1.toks,r.length<=100000) (enc (X:=B)) fun x y=>y=ue x.1.toks x.2.1 x.2.2:=by
 rintro⟨c,i,k⟩ ⟨hl,hr⟩
 simp only at hl hr
 have hl':(c.toks.length:Int)<=9223372036854775807:=by omega
 by_cases h0:i < 0
 ·simp[bV,bN,h0,ue, -Bool.forall_bool, -Bool.exists_bool]
  rfl
 by_cases h1:(c.toks.length:Int)<=i
 ·have hn:c.toks[i.toNat]? =none:=qxm (by omega)
  by_cases h2:k < 0
  ·simp[bV,bN,h0,h1,h2,hl',ue, -Bool.forall_bool, -Bool.exists_bool]
   rfl
  ·simp[bV,bN,h0,h1,h2,hl',hn,ue, -Bool.forall_bool, -Bool.exists_bool]
   rfl
 by_cases h2:k < 0
 ·simp[bV,bN,h0,h1,h2,hl',ue, -Bool.forall_bool, -Bool.exists_bool]
  rfl
 obtain⟨r,hri⟩:=yp (show i.toNat < c.toks.length by omega)
 obtain⟨_,hgr⟩:=qwP.1 hri
 have hrl:=hr r (qwS hri)
 have hrl':(r.length:Int)<=9223372036854775807:=by omega
 have i0:0<=i:=by omega
 have i1:i < (c.toks.length:Int):=by omega
 have k0:0<=k:=by omega
 by_cases h3:(r.length:Int)<=k
 ·have hn:r[k.toNat]? =none:=qxm (by omega)
  simp[bV,bN,h0,h1,h2,h3,hl',hrl',hn,hri,hgr,i0,i1,ue, -Bool.forall_bool, -Bool.exists_bool]
  rfl
 obtain⟨s,hsk⟩:=yp (show k.toNat < r.length by omega)
 obtain⟨_,hgs⟩:=qwP.1 hsk
 have k1:k < (r.length:Int):=by omega
 simp[bV,bN,h0,h1,h2,h3,hl',hrl',hri,hgr,hsk,hgs,i0,i1,k0,k1,ue, -Bool.forall_bool, -Bool.exists_bool]
end Go.Gv

namespace Go.Gv
open Cod (enc dec)
variable {S S0:Nat->Spc}
abbrev Vn:Spc:=aJ (a1 B) (fun s=>FH s=true) (enc (X:=Bool)) fun _ y=>y=true
abbrev Fj:Spc:=aJ (a1 B) (fun s=>Ab s=true) (enc (X:=Int)) fun _ y=>y=0
abbrev s_sConB:Spc:=aJ (a2 B B) (fun x=>x.2=⟨#[124]⟩/\Ab x.1=true) (enc (X:=Bool)) fun x y=>y=qgq x.1
abbrev qaE:Spc:=aJ (a1 B) (fun s=>∃r,nl s=some r) (enc (X:=Int)) fun _ y=>y=0
def qH(l:List B)(s:B):Bool:=l.any fun z=>decide (z=s)
abbrev TS:Spc:=aJ (a2 (List B) B) (fun _=>True) (enc (X:=Bool)) fun x y=>y=qH x.1 x.2
abbrev I3:Spc:=aJ (a2 (List B) B) (fun _=>True) (enc (X:=Int)) fun x y=>y=gF x.1 fun z=>decide (z=x.2)
theorem Iu:aq gN gw S (a2 (List B) B) (fun _=>True) (enc (X:=Int)) fun x y=>y=gF x.1 fun z=>decide (z=x.2):=by
 rintro⟨l,s⟩ -
 simp[gN,gw, -Bool.forall_bool, -Bool.exists_bool]
 intro _
 refine ai (X:=Unit) [0,1] [] l.length (fun k _=>∀x∈l.take k,decide (x=s)=false) (fun _=>[]) (fun _=>[]) () (by simp) (by simp) (by omega) (by simp) (by simp) (by simp) (by simp) (by simp) ?_ ?_
 ·intro k _ hk hP
  obtain⟨x,hx⟩:=yp hk
  obtain⟨_,hgx⟩:=qwP.1 hx
  simp[hk,hx,hgx, -Bool.forall_bool, -Bool.exists_bool]
  refine⟨fun h=>?_,fun h=>?_⟩
  ·exact(ux hx (by simp[h]) hP).symm
  ·rw[br hx]
   intro z hz
   rcases qwU.1 hz with hz|hz
   ·have:=hP z hz
    simpa using this
   ·simp at hz;subst hz
    exact fun e=>h e.symm
 ·intro _ hP
  simp[-Bool.forall_bool, -Bool.exists_bool]
  exact(mB (by simpa using hP)).symm
theorem Dn(h1:S cw=I3):aq ci cb S (a2 (List B) B) (fun _=>True) (enc (X:=Bool)) fun x y=>y=qH x.1 x.2:=by
 rintro⟨l,s⟩ -
 simp[ci,cb,h1, -Bool.forall_bool, -Bool.exists_bool]
 exact uw _ l
abbrev QI:Spc:=aJ (a2 Cond (List Attr)) (fun x=>qhd x.2 x.1=true/\x.2.length<=1000) (enc (X:=Bool)) fun _ y=>y=true
theorem Dh(h1:S iW=I5)(h2:S bE=A2)(h3:S bu=Vn):aq bU bM S (a2 Cond (List Attr)) (fun x=>qhd x.2 x.1=true/\x.2.length<=1000) (enc (X:=Bool)) fun _ y=>y=true:=by
 rintro⟨⟨op,name,arg,val,lab,fold,ks⟩,a⟩ ⟨hx,hl⟩
 have hx:qhd a ⟨op,name,arg,val,lab,fold,ks⟩=true:=hx
 have hl:a.length<=1000:=hl
 unfold qhd at hx
 simp only at hx
 split at hx
 ·rename_i e;subst e;simp at hx
  simp[bU,bM,h1,hl,hx, -Bool.forall_bool, -Bool.exists_bool]
 rename_i e2
 split at hx
 ·rename_i e;subst e;simp at hx
  simp[bU,bM,h2,hx, -Bool.forall_bool, -Bool.exists_bool]
 rename_i e3
 split at hx
 ·rename_i e;subst e;simp at hx
  simp[bU,bM,h2,hx.1,hx.2, -Bool.forall_bool, -Bool.exists_bool]
 rename_i e4
 split at hx
 ·rename_i e;subst e;simp at hx
  obtain⟨hn,ha⟩:=hx
  by_cases hae:arg=rO
  ·subst hae
   simp[bU,bM,h3,hn,rO, -Bool.forall_bool, -Bool.exists_bool]
  ·have ha':=ha.resolve_left hae
   have hae':¬arg=⟨#[]⟩:=hae
   simp[bU,bM,h3,hn,ha',hae', -Bool.forall_bool, -Bool.exists_bool]
 rename_i e5
 simp[bU,bM,e2,e3,e4,e5, -Bool.forall_bool, -Bool.exists_bool]
abbrev QN:Spc:=aJ (a3 Cond (List Attr) (List B)) (fun x=>oP x.2.1 x.2.2 x.1=true/\x.2.1.length<=1000) (enc (X:=Int)) fun _ y=>y=0
theorem Dj(h1:S nL=Mw)(h2:S nM=QI)(h3:S qt=qaE)(h4:S bE=A2)(h5:S ti=s_sConB)(h6:S cn=Fj)(h7:S aR=TS):
 aq cG cF S (a3 Cond (List Attr) (List B)) (fun x=>oP x.2.1 x.2.2 x.1=true/\x.2.1.length<=1000) (enc (X:=Int)) fun _ y=>y=0:=by
 rintro⟨x,a,lb⟩ ⟨hx,hl⟩
 have hx:oP a lb x=true:=hx
 have hl:a.length<=1000:=hl
 unfold oP at hx
 simp only[qwX]at hx
 obtain⟨⟨hs,hn⟩,hc⟩:=hx
 obtain⟨op,name,arg,val,lab,fold,ks⟩:=x
 unfold qqC at hc
 simp only at hc
 have e:(Cond.mk op name arg val lab fold ks)=⟨op,name,arg,val,lab,fold,ks⟩:=rfl
 split at hc
 ·rename_i e;subst e
  obtain⟨r,hr⟩:=qxL.1 hc
  simp[cG,cF,h1,h2,h3,hs,hn,hl,hr, -Bool.forall_bool, -Bool.exists_bool]
 rename_i e2
 split at hc
 ·rename_i e;subst e
  simp only[qwX]at hc
  obtain⟨⟨⟨c1,c2⟩,c3⟩,c4⟩:=hc
  have hn':0<=kA a name:=by simpa [qhd]using hn
  have hrg:=(Ai (fun x:Attr=>decide (x.nm=name)) a).2
  have hlt:kA a name < a.length:=hrg
  obtain⟨b,hb⟩:=yp (show(kA a name).toNat < a.length by omega)
  obtain⟨_,hgb⟩:=qwP.1 hb
  rw[hb]at c1
  have c1:b.st=true:=c1
  have c2:¬val=⟨#[]⟩:=of_decide_eq_true c2
  have c3:qgq val=false:=by simpa using c3
  simp[cG,cF,h1,h2,h4,h5,h6,hs,hn,hl,hn',hlt,hb,hgb,c1,c2,c3,c4, -Bool.forall_bool, -Bool.exists_bool]
 rename_i e3
 split at hc
 ·rename_i e;subst e
  have hc:qH lb lab=true:=hc
  simp[cG,cF,h1,h2,h7,hs,hn,hl,hc, -Bool.forall_bool, -Bool.exists_bool]
 rename_i e4
 split at hc
 ·rename_i e;subst e
  simp[cG,cF,h1,h2,h6,hs,hn,hl,hc, -Bool.forall_bool, -Bool.exists_bool]
 rename_i e5
 simp[cG,cF,h1,h2,hs,hn,hl,e2,e3,e4,e5, -Bool.forall_bool, -Bool.exists_bool]
end Go.Gv

namespace Go.Gv
open Go.Proofs
def oj:CC:=oX [oB 2 (.mv (.const ob))] [0] [] (oX [oA 3 0,oB 4 (.cmp .geq (oT 3) (.const (.int .u8 65))),oA 5 4,oH 6 5 (.mv (oT 0)),oH 7 5 (.cmp .leq (oT 6) (.const (.int .u8 90))),oB 8 (.pick (oT 5) (oT 7) (.const ob)),oA 9 8,oI 10 9 (.mv (oT 0)),oI 11 9 (.cmp .geq (oT 10) (.const (.int .u8 97))),oI 12 9 (.mv (oT 11)),oH 13 12 (.mv (oT 0)),
 oH 14 12 (.cmp .leq (oT 13) (.const (.int .u8 122))),oI 15 9 (.pick (oT 12) (oT 14) (.const ob)),oB 16 (.pick (oT 9) (.const (.bool true)) (oT 15)),oA 17 16,oI 18 17 (.mv (oT 0)),oI 19 17 (.eql false false [.int] (oT 18) (.const (.int .u8 95))),oB 20 (.pick (oT 17) (.const (.bool true)) (oT 19)),oA 2 20] [2] [] (.ret))
def nb:List aj:=[.tmp 2]
def oh:CC:=oX [oB 2 (.mv (.const ob))] [0] [] (oX [oA 3 0,oZ 4 bW [oT 3],oA 5 4,oI 6 5 (.mv (oT 0)),oI 7 5 (.cmp .geq (oT 6) (.const (.int .u8 48))),oI 8 5 (.mv (oT 7)),oH 9 8 (.mv (oT 0)),oH 10 8 (.cmp .leq (oT 9) (.const (.int .u8 57))),oI 11 5 (.pick (oT 8) (oT 10) (.const ob)),oB 12 (.pick (oT 5) (.const (.bool true)) (oT 11)),oA 13 12,
 oI 14 13 (.mv (oT 0)),oI 15 13 (.eql false false [.int] (oT 14) (.const (.int .u8 45))),oB 16 (.pick (oT 13) (.const (.bool true)) (oT 15)),oA 2 16] [2] [] (.ret))
def na:List aj:=[.tmp 2]
def jJ:CC:=oX [oB 2 (.mv (.const ob))] [0] [] (.seq (oX [oA 4 0,oB 5 (.slen (oT 4)),oB 6 (.cmp .lss (oT 5) (oN 1)),oA 7 6,oI 8 7 (.mv (oT 0)),oI 9 7 (.slen (oT 8)),oI 10 7 (.cmp .gtr (oT 9) (oN 32)),oB 11 (.pick (oT 7) (.const (.bool true)) (oT 10)),oA 12 11,oI 13 12 (.mv (oT 0)),oI 14 12 (.sidx (oT 13) (oN 0)),oI 15 12 (.call bW [oT 14]),
 oI 16 12 (.not (oT 15)),oB 17 (.pick (oT 12) (.const (.bool true)) (oT 16))] [0,17] [] (.ite (oT 17) (oX [oB 2 (.mv (.const ob))] [2] [] (.ret)) (.skip))) (.keep [0] [] (.seq (oX [oA 18 0,oB 19 (.slen (oT 18)),oB 20 (.mv (oN 0))] [0,19,20] [] (xh 0 20 19 21 1 (oX [oA 22 20,oA 3 22] [0,3,19,20] [] (oX [oA 23 0,oA 24 3,oB 25 (.sidx (oT 23) (oT 24)),oZ 26 ep [oT 25],
 oB 27 (.not (oT 26))] [0,19,20,27] [] (.ite (oT 27) (oX [oB 2 (.mv (.const ob))] [2] [] (.ret)) (.skip)))) 28)) (.keep [] [] (oX [oB 2 (.mv (.const (.bool true)))] [2] [] (.ret))))))
def jj:List aj:=[.tmp 2]
def jI:CC:=gq Tryz.f175 [] {} _
def ji:List aj:=[.tmp 2]
theorem zT:ak Tryz.prog cn [] jI ji 24:=fo
def kT:CC:=gq Tryz.f288 [] {} _
def kF:List aj:=[.tmp 4]
theorem Bt:ak Tryz.prog lO [] kT kF 17:=fo
def tU:CC:=gq Tryz.f264 [] {} _
def ta:List aj:=[.tmp 4]
theorem JK:ak Tryz.prog vw [] tU ta 19:=fo
def ca:CC:=gq Tryz.f287 [] {} _
def bY:List aj:=[.tmp 2, .tmp 3]
theorem FE:ak Tryz.prog rp [] ca bY 71:=fo
end Go.Gv

namespace Go.Gv
open Cod (enc dec)
variable {S S0:Nat->Spc}
def Pl(c:Int):Bool:=(decide (65<=c) && decide (c<=90))||(decide (97<=c) && decide (c<=122))||decide (c=95)
def qk1(c:Int):Bool:=Pl c||(decide (48<=c) && decide (c<=57))||decide (c=45)
abbrev qaL:Spc:=aJ (a1 U8) (fun _=>True) (enc (X:=Bool)) fun c y=>y=Pl c.val
theorem E7:aq oj nb S (a1 U8) (fun _=>True) (enc (X:=Bool)) fun c y=>y=Pl c.val:=by
 rintro⟨c⟩ -
 by_cases h1:(65:Int)<=c <;> by_cases h2:c<=90 <;> by_cases h3:(97:Int)<=c <;> by_cases h4:c<=122 <;> by_cases h5:c=95 <;>
  simp[oj,nb,Pl,h1,h2,h3,h4,h5, -Bool.forall_bool, -Bool.exists_bool]
abbrev Mu:Spc:=aJ (a1 U8) (fun _=>True) (enc (X:=Bool)) fun c y=>y=qk1 c.val
theorem E6(h0:S bW=qaL):aq oh na S (a1 U8) (fun _=>True) (enc (X:=Bool)) fun c y=>y=qk1 c.val:=by
 rintro⟨c⟩ -
 cases hb:Pl c <;> by_cases h1:(48:Int)<=c <;> by_cases h2:c<=57 <;> by_cases h3:c=45 <;>
  simp[oh,na,qk1,h0,hb,h1,h2,h3, -Bool.forall_bool, -Bool.exists_bool]
theorem qc8(c:UInt8):WQ c=Pl (c.toNat:Int):=by
 unfold WQ Pl
 rw[qxx]
 simp
 omega
theorem qmS(c:UInt8):qs2 c=qk1 (c.toNat:Int):=by
 unfold qs2 qk1
 rw[qc8]
 cases Pl (c.toNat:Int)
 ·rw[qxx]
  simp
  omega
 ·simp
theorem Bj(h1:S bW=qaL)(h2:S ep=Mu):aq jJ jj S (a1 B) (fun s=>FH s=true) (enc (X:=Bool)) fun _ y=>y=true:=by
 rintro s hs
 have hs:FH s=true:=hs
 unfold FH at hs
 simp only[qwX,decide_eq_true_eq]at hs
 obtain⟨⟨⟨q1,q2⟩,q3⟩,q4⟩:=hs
 simp[jJ,jj,h1,h2, -Bool.forall_bool, -Bool.exists_bool]
 have r1:(1:Int)<=(s.size:Int):=by omega
 have r2:(s.size:Int)<=32:=by omega
 have r3:(s.size:Int)<=9223372036854775807:=by omega
 have hsl:s.data.toList.length=s.size:=qxh
 refine fun _=>⟨fun _ _=>⟨fun _=>⟨by omega,fun c hc=>?_⟩,r2⟩,r1⟩
 have hc':s.data.toList[0]? =some c:=by rw[qxl];exact hc
 have hb:Pl (c.toNat:Int)=true:=by
  rw[<-qc8]
  cases hl:s.data.toList with
  | nil=>rw[hl]at hc';cases hc'
  | cons d l=>
    rw[hl]at hc' q3
    cases hc'
    exact q3
 refine⟨hb,fun _ _=>?_⟩
 refine ai (X:=Unit) [0] [] s.size (fun _ _=>True) (fun _=>[]) (fun _=>[]) () (by simp) (by simp) (by omega) (by simp) (by simp) trivial (by simp) (by simp) ?_ ?_
 ·rintro k -hk -
  obtain⟨d,hd⟩:=yp (show k < s.data.toList.length by omega)
  have hg:qk1 (d.toNat:Int)=true:=by rw[<-qmS];exact qwV.1 q4 d (qwS hd)
  have hd':s.data[k]? =some d:=by rw[<-qxl];exact hd
  obtain⟨_,hgd⟩:=qwW.1 hd'
  simp[hk,hd',hgd,hg,h2, -Bool.forall_bool, -Bool.exists_bool]
 ·rintro - -
  simp[-Bool.forall_bool, -Bool.exists_bool]
theorem Bh(h1:S nP=s_cpVal):aq jI ji S (a1 B) (fun s=>Ab s=true) (enc (X:=Int)) fun _ y=>y=0:=by
 rintro s hs
 have hs:Ab s=true:=hs
 unfold Ab at hs
 simp only[qwX,decide_eq_true_eq]at hs
 obtain⟨q1,q2⟩:=hs
 have ha:vM s=true:=by
  unfold vM
  refine qwV.2 fun c hc=>?_
  have:=qwV.1 q2 c hc
  simp at this
  simp
  omega
 have r1:(s.size:Int)<=120:=by omega
 have r2:(s.size:Int)<=9223372036854775807:=by omega
 have r3:s.size<=1000:=by omega
 have r4:¬ (120:Int) < (s.size:Int):=by omega
 simp[jI,ji,h1,ha,r1,r2,r3,r4, -Bool.forall_bool, -Bool.exists_bool]
 intro b
 refine av (X:=Nat) [] [] (fun p=>p<=s.size) (fun p=>[(14, .bptr 14 b 0)]) (fun p=>[(14, .iter b s p)]) (fun p=>s.size -p) 0 (qxi _) (by simp) (by simp) ?_
 rintro p hp
 by_cases hlt:p < s.size
 ·obtain⟨c,hc,hc128,hdec⟩:=Gj ha hlt
  have hcm:=qwV.1 q2 c (qwS hc)
  simp at hcm
  have n1:¬ (c.toNat:Int)<=31:=by omega
  have n2:¬ (c.toNat:Int)=127:=by omega
  simp[hlt,hdec,n1,n2, -Bool.forall_bool, -Bool.exists_bool]
  exact⟨p+1,by omega, .inl rfl,by omega⟩
 ·have hpe:p=s.size:=by omega
  subst hpe
  simp[-Bool.forall_bool, -Bool.exists_bool]
end Go.Gv

namespace Go.Gv
open Cod (enc dec)
variable {S S0:Nat->Spc}
def qgO(x:Cond×List Attr×List B):List D:=[enc x.1, .cptr [enc x.2.1] 0, .cptr [enc x.2.2] 0]
theorem Ve(z z':Cond×List Attr×List B)(h:qgO z=qgO z'):z=z':=by
 obtain⟨a,s,l⟩:=z
 obtain⟨a',s',l'⟩:=z'
 unfold qgO at h
 simp only[qxg,D.cptr.injEq,and_true]at h
 rw[aK h.1,aK h.2.1,aK h.2.2]
noncomputable abbrev aVd:de (Cond×List Attr×List B):=aX qgO Ve
@[simp] theorem qoo(x:Cond)(a:List Attr)(lb:List B):aVd.dec [.agg [.v (.int .i64 x.op), .v (.string x.name), .v (.string x.arg), .v (.string x.val), .v (.string x.lab), .v (.bool x.fold), .list 7 (x.kids.map enc)], .cptr [.list 2 (a.map enc)] 0, .cptr [.list 1 (lb.map enc)] 0]=some (x,a,lb):=by
 have h:=C3 qgO Ve (x,a,lb)
 have e:qgO (x,a,lb)=[.agg [.v (.int .i64 x.op), .v (.string x.name), .v (.string x.arg), .v (.string x.val), .v (.string x.lab), .v (.bool x.fold), .list 7 (x.kids.map enc)], .cptr [.list 2 (a.map enc)] 0, .cptr [.list 1 (lb.map enc)] 0]:=by simp[qgO]
 rw[<-e]
 exact h
noncomputable abbrev VC:Spc:=aJ aVd (fun x=>oP x.2.1 x.2.2 x.1=true/\x.2.1.length<=1000) (enc (X:=Int)) fun _ y=>y=0
theorem wI(h1:S nN=QN):aq gd fR S aVd (fun x=>oP x.2.1 x.2.2 x.1=true/\x.2.1.length<=1000) (enc (X:=Int)) fun _ y=>y=0:=by
 rintro⟨x,a,lb⟩ ⟨hx,hl⟩
 simp only at hx hl
 rw[Be]
 simp[qgO,gd,fR,h1,hx,hl, -Bool.forall_bool, -Bool.exists_bool]
def qnX(n:Nat)(x:Cond×D×Unit):Prop:=∃ (a:List Attr) (lb:List B),x.2.1= .clo bZ [.cptr [enc a] 0, .cptr [enc lb] 0]/\rR a lb n x.1=true/\a.length<=1000/\pw x.1<=60
noncomputable abbrev QG(n:Nat):Spc:=aJ (aE Cond (aD a0)) (qnX n) (enc (X:=Int)) fun x y=>y=0
noncomputable abbrev QF:Spc:=aJ (aE Cond (aD a0)) (fun x=>∃n,qnX n x) (enc (X:=Int)) fun x y=>y=0
theorem Dg(n:Nat)(h1:S bZ=VC)(h2:S fX=QG n):aq ou ni S (aE Cond (aD a0)) (qnX (n+1)) (enc (X:=Int)) fun x y=>y=0:=by
 rintro⟨x,d,⟨⟩⟩ ⟨a,lb,hd,hx,hl,hn⟩
 simp only at hd hx hn
 subst hd
 simp only[rR,qwX]at hx
 obtain⟨hx1,hx2⟩:=hx
 simp[ou,ni,h1,hx1,hl, -Bool.forall_bool, -Bool.exists_bool]
 intro hkl
 refine ai (X:=Unit) [1,16] [] x.kids.length (fun k _=>True) (fun _=>[]) (fun _=>[]) () (by simp) (by simp) (by omega) (by simp) (by simp) (by simp) (by simp) (by simp) ?_ ?_
 ·rintro k -hk -
  obtain⟨y,hy⟩:=yp hk
  obtain⟨_,hgy⟩:=qwP.1 hy
  have hm:=qwS hy
  have hny:=MK hm
  have hnx:=H6 x
  have hp:qnX n (y, .clo bZ [.cptr [.list 2 (a.map enc)] 0, .cptr [.list 1 (lb.map enc)] 0],()):=⟨a,lb,rfl,qwV.1 hx2 y hm,hl,by show pw y<=60;omega⟩
  simp[h2,hk,hy,hgy,hp, -Bool.forall_bool, -Bool.exists_bool]
 ·rintro - -
  simp[-Bool.forall_bool, -Bool.exists_bool]
abbrev Pv(x:Cond×List Attr×List B):Prop:=qg6 x.2.1 x.2.2 x.1=true/\x.2.1.length<=1000
abbrev TU:Spc:=aJ (a3 Cond (List Attr) (List B)) Pv (enc (X:=Int)) fun _ y=>y=0
theorem zl(h1:S ez=QK)(h2:S fX=QF):aq iO iE S (a3 Cond (List Attr) (List B)) Pv (enc (X:=Int)) fun _ y=>y=0:=by
 rintro⟨x,a,lb⟩ ⟨hx,hl⟩
 simp only at hx hl
 unfold qg6 at hx
 simp at hx
 obtain⟨⟨hn,hd⟩,ha⟩:=hx
 have hp:∃n,qnY n (x,0,1):=⟨mi x,qwY _,qyD _,by show(0:Int) +pw x<=60;omega,by show(0:Int)<=1;omega,by show(1:Int) +mi x<=1000;omega,by show mi x<=60;omega⟩
 have hw:∃n,qnX n (x, .clo bZ [.cptr [.list 2 (a.map enc)] 0, .cptr [.list 1 (lb.map enc)] 0],()):=⟨20,a,lb,rfl,ha,hl,hn⟩
 have q1:¬ (60:Int) < (pw x:Int):=by omega
 have q2:¬ (20:Int) < 1+ (mi x:Int) -1:=by omega
 simp[iO,iE,h1,h2,hp,hw,q1,q2, -Bool.forall_bool, -Bool.exists_bool]
end Go.Gv
