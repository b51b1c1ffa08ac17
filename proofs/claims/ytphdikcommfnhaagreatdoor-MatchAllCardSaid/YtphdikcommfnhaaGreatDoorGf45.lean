/- A part of the framework and of the walks: W191 V66 C70 W194 W195. -/
import Derived.Test.YtphdikcommfnhaaGreatDoorGf44
import Derived.Test.YtphdikcommfnhaaGreatDoorGf29
import Derived.Test.YtphdikcommfnhaaGreatDoorGf36
import Derived.Test.YtphdikcommfnhaaGreatDoorGf20
import Derived.Test.YtphdikcommfnhaaGreatDoorGf39
set_option linter.unusedSimpArgs false
set_option linter.unusedVariables false
set_option linter.unusedSectionVars false
set_option maxRecDepth 100000
set_option maxHeartbeats 0

namespace Go.Gv
open Go.Proofs
open Cod (enc dec)
variable {S S0:Nat->Spc}
abbrev qas:Spc:=aJ (a1 Glob) (fun g=>g=GlobE) (enc (X:=Bool)) fun x y=>y=true
theorem NB:aq iu iq S (a1 Glob) (fun g=>g=GlobE) (enc (X:=Bool)) fun x y=>y=true:=by
 rintro x rfl
 simp[iu,iq,GlobE,E0, -Bool.forall_bool]
abbrev VF:Spc:=aJ (a1 Glob) (fun g=>g=GlobE) (enc (X:=Bool)) fun x y=>y=true
theorem Lo(h1:S nH=qas):aq gc fQ S (a1 Glob) (fun g=>g=GlobE) (enc (X:=Bool)) fun x y=>y=true:=by
 rintro x rfl
 simp[gc,fQ,h1, -Bool.forall_bool]
abbrev qaO:Spc:=aJ (aE (List sk) (aD a0)) (fun x=>x.1=[]) (enc (X:=Int)) fun x y=>y= -1
theorem ud:aq bT bL S (aE (List sk) (aD a0)) (fun x=>x.1=[]) (enc (X:=Int)) fun x y=>y= -1:=by
 rintro⟨l,d,⟨⟩⟩ h
 have h:l=[]:=h
 subst h
 simp[bT,bL, -Bool.forall_bool]
 refine ai (X:=Unit) [] [] 0 (fun _ _=>True) (fun _=>[]) (fun _=>[]) () (by simp) (by simp) (by omega) (by simp) (by simp) trivial (by simp) (by simp) (fun k x hk=>absurd hk (by omega)) (fun _ _=>?_)
 simp
abbrev TW:Spc:=aJ (aE (List sk) (aD a0)) (fun x=>x.1=[]) (enc (X:=Bool)) fun x y=>y=false
theorem qR(h1:S cg=qaO):aq bq bj S (aE (List sk) (aD a0)) (fun x=>x.1=[]) (enc (X:=Bool)) fun x y=>y=false:=by
 rintro⟨l,d,⟨⟩⟩ h
 have h:l=[]:=h
 subst h
 simp[bq,bj,h1, -Bool.forall_bool]
abbrev qaK:Spc:=aJ (a3 Glob (List Attr) (List B)) (fun x=>x.1=GlobE) (enc (X:=Int)) fun _ y=>y=0
abbrev VA:Spc:=aJ (a3 Glob (List Attr) (List B)) (fun x=>x.1=GlobE) (enc (X:=Int)) fun _ y=>y=0
structure quG (q:Qry):Prop where
 filts:q.filts=[]
 strat:q.strat=0
 pat:pq bw q.pat=true
 size:km q.pat<=256
 l3:(aN q.pat []).length<=3
 num:iZ q.pat<=1000000
abbrev qaJ:Spc:=aJ (a1 Qry) quG (enc (X:=Int)) fun _ y=>y=0
theorem qh0{N:Nat->Spc}(h0:N cT=A1)(h0':N cD=wb)(h1:S lg=H4)(h2:S eE=zA N)(h3:S jY=N0)(h4:S bP=s_qlabels)(h5:S aL=TW):
 aq dr dj S (a1 Qry) quG (enc (X:=Int)) fun _ y=>y=0:=by
 rintro q hq
 have f1:FunIs N (.clo cT []) (uu bw):=th h0 fun _=>trivial
 have f2:FunIs N (.clo cD []) xt:=th h0' fun _=>trivial
 have hp:=hq.pat
 unfold pq at hp
 simp only[qwX]at hp
 obtain⟨⟨⟨p1,p2⟩,p3⟩,p4⟩:=hp
 have hsz:=hq.size
 have hsz2:¬256 < km q.pat:=by omega
 have hl3:=hq.l3
 have hPb:Xg q.pat []:=by show 0+iZ q.pat<=1000000;have:=hq.num;omega
 simp[dr,dj,h1,p1,p2,h2,hq.filts,hq.strat,h3,hq.pat,hsz,hsz2,h5, -Bool.forall_bool, -Bool.exists_bool]
 refine⟨⟨_,f1⟩,fun y hy=>⟨fun _=>⟨⟨_,f2⟩,fun z hz=>⟨by rw[hz _ f2,p4],fun _=>?_⟩⟩,by rw[hy _ f1,p3]⟩⟩
 simp[h4, -Bool.forall_bool, -Bool.exists_bool]
 refine .inl ⟨hPb,fun l hl _=>?_⟩
 have hl:l=aN q.pat []:=hl
 subst hl
 omega
theorem qem:aq ax aw S (a3 Glob (List Attr) (List B)) (fun x=>x.1=GlobE) (enc (X:=Int)) fun _ y=>y=0:=by
 rintro⟨g,a,lb⟩ h
 have h:g=GlobE:=h
 subst h
 simp[ax,aw,GlobE, -Bool.forall_bool, -Bool.exists_bool]
theorem qh1(h1:S ft=VA):aq fA fj S (a3 Glob (List Attr) (List B)) (fun x=>x.1=GlobE) (enc (X:=Int)) fun _ y=>y=0:=by
 rintro⟨g,a,lb⟩ h
 have h:g=GlobE:=h
 subst h
 simp[fA,fj,h1, -Bool.forall_bool, -Bool.exists_bool]
 simp[GlobE, -Bool.forall_bool, -Bool.exists_bool]
 refine ai (X:=Unit) [] [] 0 (fun _ _=>True) (fun _=>[]) (fun _=>[]) () (by simp) (by simp) (by omega) (by simp) (by simp) trivial (by simp) (by simp) (fun k x hk=>absurd hk (by omega)) (fun _ _=>?_)
 simp
theorem qhN(h1:S dW=qaJ)(h2:S bP=s_qlabels)(h3:S dV=s_leavesQ)(h4:S fu=TU)(h5:S aL=TW)(h6:S ld=VF)(h7:S dC=qaK):
 aq fB fk S (a2 Qry (List Attr)) (fun x=>qln x.2 x.1) (enc (X:=Int)) fun _ y=>y=0:=by
 rintro⟨q,a⟩ hq
 have hq:qln a q:=hq
 have hC:quG q:=⟨hq.filts,hq.strat,hq.pat,hq.size,hq.l3,hq.num⟩
 have hPb:Xg q.pat []:=by show 0+iZ q.pat<=1000000;have:=hq.num;omega
 have hlv:(aM q.pat).length<=iZ q.pat:=JX q.pat
 have hPq:qhA q.pat []:=⟨by have:=hq.num;simp;omega,fun y hy=>(hq.lv y hy).2⟩
 simp[fB,fk,h1,hC,h2, -Bool.forall_bool, -Bool.exists_bool]
 refine .inl ⟨hPb,fun l hl=>?_⟩
 have hl:l=aN q.pat []:=hl
 subst hl
 simp[h3, -Bool.forall_bool, -Bool.exists_bool]
 refine .inl ⟨hPq,?_⟩
 intro hll
 refine ai (X:=Unit) [1,2,6,20] [] (df q.pat).length (fun _ _=>True) (fun _=>[]) (fun _=>[]) () (by simp) (by simp) (by omega) (by simp) (by simp) trivial (by simp) (by simp) ?_ ?_
 ·rintro k ⟨⟩ hk -
  obtain⟨x,hx⟩:∃x,(df q.pat)[k]? =some x:=⟨_,qwQ hk⟩
  obtain⟨_,hgx⟩:=qwP.1 hx
  have hxm:=qwS hx
  obtain⟨y,hy,rfl⟩:=qw3.1 hxm
  have hP:Pv ((AD y).cond,a,aN q.pat []):=⟨(hq.lv y hy).1,hq.att⟩
  simp[hk,hx,hgx,h4,hP, -Bool.forall_bool, -Bool.exists_bool]
  exact hP
 ·rintro⟨⟩ -
  simp[h5,h6,h7,hq.glob,hq.filts, -Bool.forall_bool, -Bool.exists_bool]
end Go.Gv

namespace Go.Gv
def qlK(s:B)(i:Nat):Option (Nat×G1):=match s.data[i]? with
 | none=>none
 | some c=>
   if qbN c.toNat then some (FK s i,⟨110,s.extract i (FK s i),i⟩)
   else if 48<=c.toNat/\c.toNat<=57 then none
   else if c.toNat=34 then(Uc s (i+1) ⟨#[]⟩).map fun r=>(r.1+1,⟨115,r.2,i⟩)
   else match signsL.find? (qiK s i)with
    | none=>none
    | some x=>some (i+x.size,⟨111,s.extract i (i+x.size),i⟩)
def IW:Nat->B->Nat->List G1->Option (List G1)
 | 0,_,_,_=>none
 | k+1,s,i,out=>if ul s i=s.size then some (out++ [⟨101,⟨#[]⟩,s.size⟩])else(qlK s (ul s i)).bind fun r=>if r.1<=s.size/\ul s i < r.1 then IW k s r.1 (out++ [r.2])else none
def Gz(s:B):Option (List G1):=if s.size<=100000 then IW 100000 s 0 []else none
theorem qbt{s:B}{i:Nat}(h:s.size<=i):FK s i=i:=by
 unfold FK
 rw[show s.size -i=0 by omega,qfh]
theorem MM{s:B}{i:Nat}(h:i < s.size):FK s i=if qbT s i then FK s (i+1)else i:=by
 unfold FK
 rw[show s.size -i=(s.size - (i+1)) +1 by omega,qfh]
def VT(s:Pst):Option G1:=if 0<=s.pos/\s.pos+1 < s.l.length/\s.l.length<=1000000 then s.l[(s.pos+1).toNat]? else none
def Pk(s:Pst):Option Bool:=(xu s).bind fun x=>if s.e≠0 then none else if x.kind=110 then(VT s).bind fun n=>if n.kind=111/\n.text=⟨#[58]⟩then some true else none
 else some (decide (x.kind=115\/x.kind=111/\(x.text=⟨#[91]⟩\/x.text=⟨#[60]⟩\/x.text=⟨#[60,47]⟩\/x.text=⟨#[40]⟩)))
def NO(s:Pst)(lb:B):Option (Pst×Pat):=if s.e≠0 then none else(xu s).bind fun x=>
 if x.kind=115 then(ru s.step ⟨#[37,99]⟩).map fun w=>(w.1,⟨1,⟨2,E0,E0,x.text,E0,w.2, []⟩,lb,E0,0,0, []⟩)
 else(C9 s 111 ⟨#[91]⟩).bind fun u=>(ru u.1 ⟨#[93]⟩).bind fun w=>if w.2 then some (w.1,⟨1,⟨1,E0,E0,E0,E0,false, []⟩,lb,E0,0,0, []⟩)else none
def qbS(s:Pst):Option (Pst×Pat):=if s.e≠0 then none else(xu s).bind fun x=>if x.kind=111/\x.text≠ ⟨#[91]⟩then none else
 if x.kind=110 then(C9 s.step 111 ⟨#[58]⟩).bind fun u=>NO u.1 x.text else NO s E0
def zI:Nat->Pst->Pat->Option (Pst×Pat)
 | 0,_,_=>none
 | k+1,s,x=>if s.e≠0 then none else(xu s).bind fun t=>if t.kind=111/\(t.text=⟨#[63]⟩\/t.text=⟨#[43]⟩\/t.text=⟨#[123]⟩)then none else
    if t.kind=111/\t.text=⟨#[42]⟩then zI k s.step ⟨6,Cond0,E0,E0,0, -1, [x]⟩else some (s,x)
def qeS(s:Pst):Option (Pst×Pat):=(qbS s).bind fun r=>zI 9 r.1 r.2
def zx:Nat->Pst->List Pat->Option (Pst×List Pat)
 | 0,_,_=>none
 | k+1,s,acc=>(Pk s).bind fun b=>if b then(qeS s).bind fun r=>zx k r.1 (acc++ [r.2])else some (s,acc)
def Z9(s:Pst):Option (Pst×Pat):=(qeS s).bind fun r=>(zx 9 r.1 [r.2]).map fun q=>(q.1,qg5 4 q.2)
def qdn(s:Pst):Option (Pst×Pat):=(Z9 s).bind fun r=>(ru r.1 ⟨#[124]⟩).bind fun w=>if w.2 then none else some (w.1,r.2)
def Fn(s:B):Option Pat:=if s.size<=400 then(Gz s).bind fun l=>(qdn ⟨l,0,0,0,0⟩).bind fun r=>if r.1.e≠0 then none else(xu r.1).bind fun t=>if t.kind=101 then some r.2 else none else none
def qww:B:=⟨#[97,58,34,97,34,32,91,93,42,32,98,58,34,98,34]⟩
def En:Pat:=⟨4,Cond0,E0,E0,0,0, [⟨1,⟨2,E0,E0,⟨#[97]⟩,E0,false, []⟩,⟨#[97]⟩,E0,0,0, []⟩,⟨6,Cond0,E0,E0,0, -1, [⟨1,⟨1,E0,E0,E0,E0,false, []⟩,E0,E0,0,0, []⟩]⟩,⟨1,⟨2,E0,E0,⟨#[98]⟩,E0,false, []⟩,⟨#[98]⟩,E0,0,0, []⟩]⟩
theorem MS:Fn qww=some En:=by kernel_rfl
end Go.Gv

namespace Go.Gv
open Go.Proofs
def rA:CC:=gq Tryz.f148 [] {} _
def qU:List aj:=[.tmp 2]
theorem Hp:ak Tryz.prog tk [] rA qU 21:=fo
def tF:CC:=gq Tryz.f149 [] {} _
def sL:List aj:=[.tmp 2]
theorem Ju:ak Tryz.prog vn [] tF sL 9:=fo
def xY:CC:=gq Tryz.f150 [] {} _
def wS:List aj:=[.tmp 0]
theorem Ol:ak Tryz.prog Al [] xY wS 2:=fo
def AF:CC:=gq Tryz.f95 [1036200,1074200,1083200,1121200,1147200,1192200,1200200] { cu:=[3,10] } _
def zC:List aj:=[.tmp 2]
theorem Q3:ak Tryz.prog CP [1036200,1074200,1083200,1121200,1147200,1192200,1200200] AF zC 202:=fo
def nX:CC:=gq Tryz.f105 [2002002] { ke:=[0] } _
def mU:List aj:=[.cell 2 true 3]
theorem D3:ak Tryz.prog cL [2002002] nX mU 13:=fo
def lU:CC:=gq Tryz.f248 [2002002] { ke:=[0] } _
def lD:List aj:=[.cell 2 true 3]
theorem Ci:ak Tryz.prog nD [2002002] lU lD 21:=fo
def kg:CC:=gq Tryz.f103 [] { bx:=[0] } _
def jR:List aj:=[.tmp 6]
theorem Fq:ak Tryz.prog hZ [] kg jR 26:=fo
def nY:CC:=gq Tryz.f97 [] { ke:=[0] } _
def mV:List aj:=[.tmp 4]
theorem D4:ak Tryz.prog dB [] nY mV 15:=fo
def lT:CC:=gq Tryz.f102 [] { ke:=[0] } _
def lC:List aj:=[.tmp 6]
theorem Ch:ak Tryz.prog nC [] lT lC 40:=fo
def lV:CC:=gq Tryz.f252 [] { bx:=[0] } _
def lE:List aj:=[.tmp 2]
theorem Ck:ak Tryz.prog nF [] lV lE 5:=fo
def fy:CC:=gq Tryz.f208 [] { bx:=[0] } _
def fh:List aj:=[.tmp 2]
theorem zQ:ak Tryz.prog kM [] fy fh 63:=fo
def dH:CC:=gq Tryz.f246 [] { bx:=[0] } _
def dz:List aj:=[.cell 2 true 13]
theorem Cj:ak Tryz.prog nE [] dH dz 97:=fo
def nW:CC:=gq Tryz.f207 [] { bx:=[0] } _
def mT:List aj:=[.cell 2 true 13]
theorem D2:ak Tryz.prog pD [] nW mT 64:=fo
def nV:CC:=gq Tryz.f151 [100006,1013006] { ke:=[0] } _
def mS:List aj:=[.cell 2 true 13]
theorem D1:ak Tryz.prog pB [100006,1013006] nV mS 22:=fo
def nZ:CC:=gq Tryz.f96 [100006,1013006] { ke:=[0] } _
def mW:List aj:=[.cell 2 true 13]
theorem D5:ak Tryz.prog pE [100006,1013006] nZ mW 22:=fo
def lS:CC:=gq Tryz.f99 [] { ke:=[0] } _
def lB:List aj:=[.tmp 6]
theorem Cg:ak Tryz.prog nB [] lS lB 22:=fo
def tG:CC:=gq Tryz.f100 [] {} _
def sM:List aj:=[.tmp 0]
theorem Jv:ak Tryz.prog vo [] tG sM 2:=fo
def xZ:CC:=gq Tryz.f44 [2056006,2002002] { cu:=[8,18,23] } _
def wT:List aj:=[.cell 2 true 26, .tmp 3, .tmp 4]
theorem Om:ak Tryz.prog Am [2056006,2002002] xZ wT 110:=fo
end Go.Gv

namespace Go.Gv
open Cod (enc dec)
variable {S S0:Nat->Spc}
@[simp] abbrev Xn(s:Pst)(_:Unit):Option (Pst×G1):=(xu s).map fun x=>(s,x)
abbrev IZ:Spc:=Ue a0 (enc (X:=G1)) Xn
theorem qlA:oJ nX mU S a0 (enc (X:=G1)) (fun s z=>∃r,Xn s z=some r) (fun s z s' y=>Xn s z=some (s',y)):=by
 rintro b s ⟨⟩ ⟨r,hr⟩
 simp only[Xn,xu,qw0]at hr
 obtain⟨x,hx,rfl⟩:=hr
 split at hx
 ·rename_i h0
  obtain⟨h0,hb⟩:=h0
  have hl:=qhe hx
  obtain⟨_,hgx⟩:=qwP.1 hx
  simp[nX,mU,hx]
  exact fun _=>⟨h0,by omega,Ew s x (.same _) (by simp) ⟨by rw[xu,if_pos ⟨h0,hb⟩,hx],rfl⟩⟩
 ·cases hx
theorem EA{s:Pst}(h:s.e=0):Pst.mk s.l s.pos s.deep 0 s.fail=s:=by rw[<-h]
theorem RQ{b:Nat}{post:Pst->Bool->Prop}{v:Bool}{H:ab}(s:Pst)(h0:H 0=some (.box b (li s)))(hq:post s v):K2 enc b post (.v (.bool v)) H:=Ew s v (.same _) h0 hq
theorem qth{b:Nat}{post:Pst->Int->Prop}{v:Int}{H:ab}(s:Pst)(h0:H 0=some (.box b (li s)))(hq:post s v):K2 enc b post (.v (.int .i64 v)) H:=Ew s v (.same _) h0 hq
theorem qjr{b:Nat}{post:Pst->B->Prop}{v:B}{H:ab}(s:Pst)(h0:H 0=some (.box b (li s)))(hq:post s v):K2 enc b post (.v (.string v)) H:=Ew s v (.same _) h0 hq
@[simp] abbrev qgJ(s:Pst)(z:U8×B):Option (Pst×Bool):=(Wg s z.1.val z.2).map fun x=>(s,x)
abbrev qeO:Spc:=Ue (a2 U8 B) (enc (X:=Bool)) qgJ
theorem qry(h1:S cL=IZ):oJ kg jR S (a2 U8 B) (enc (X:=Bool)) (fun s z=>∃r,qgJ s z=some r) (fun s z s' y=>qgJ s z=some (s',y)):=by
 rintro b s ⟨⟨k⟩,t⟩ ⟨r,hr⟩
 simp only[qgJ,Wg,qw0]at hr
 obtain⟨v,hr,rfl⟩:=hr
 split at hr
 ·rename_i he
  simp[kg,jR,h1,he]
  exact RQ s (by simp) ⟨by rw[Wg,if_pos he],rfl⟩
 ·rename_i he
  have he:s.e=0:=by simpa using he
  obtain⟨x,hx,rfl⟩:=qw0.1 hr
  have hF:Wg s k t=some (decide (x.kind=k/\x.text=t)):=by rw[Wg,if_neg (by simp[he]),hx];rfl
  simp[kg,jR,h1,he,EA he,hx]
  refine⟨fun hk=>RQ s (by simp[he]) ⟨by rw[hF];simp[hk],rfl⟩,fun hk=>RQ s (by simp[he]) ⟨by rw[hF];simp[hk],rfl⟩⟩
@[simp] abbrev Np(s:Pst)(t:B):Option (Pst×Bool):=ru s t
abbrev Mv:Spc:=Ue (a1 B) (enc (X:=Bool)) Np
theorem qbU{s:Pst}{k:Int}{t:B}(h:Wg s k t=some true):s.e=0/\∃x,xu s=some x/\x.kind=k/\x.text=t:=by
 unfold Wg at h
 split at h
 ·cases h
 ·rename_i he
  obtain⟨x,hx,h2⟩:=qw0.1 h
  simp at h2
  exact⟨by simpa using he,x,hx,h2⟩
theorem Ra{s:Pst}{x:G1}(h:xu s=some x):0<=s.pos/\s.pos < s.l.length/\s.l.length<=1000000:=by
 unfold xu at h
 split at h
 ·have:=qhe h
  omega
 ·cases h
theorem qlB(h1:S hZ=qeO):oJ nY mV S (a1 B) (enc (X:=Bool)) (fun s z=>∃r,Np s z=some r) (fun s z s' y=>Np s z=some (s',y)):=by
 rintro b s t ⟨r,hr⟩
 have hr0:=hr
 simp only[Np,ru,qw0]at hr
 obtain⟨v,hr,rfl⟩:=hr
 simp[nY,mV,h1,hr]
 cases v
 ·simp
  exact RQ s (by simp) (by simp[Np,ru,hr])
 ·obtain⟨_,x,hx,_⟩:=qbU hr
  have:=Ra hx
  simp
  exact⟨by simp only[InR];omega,RQ s.step (by simp[Pst.step]) (by simp[Np,ru,hr])⟩
theorem H9{s:Pst}{k:Int}{t:B}{x:G1}(he:s.e=0)(hx:xu s=some x):Wg s k t=some (decide (x.kind=k/\x.text=t)):=by
 rw[Wg,if_neg (by simp[he]),hx];rfl
@[simp] abbrev PB(s:Pst)(z:U8×B):Option (Pst×B):=C9 s z.1.val z.2
abbrev qai:Spc:=Ue (a2 U8 B) (enc (X:=B)) PB
theorem qhK(h1:S cL=IZ):oJ lT lC S (a2 U8 B) (enc (X:=B)) (fun s z=>∃r,PB s z=some r) (fun s z s' y=>PB s z=some (s',y)):=by
 rintro b s ⟨⟨k⟩,t⟩ ⟨r,hr⟩
 have hr0:=hr
 simp only[PB,C9]at hr
 split at hr
 ·cases hr
 rename_i he
 have he:s.e=0:=by simpa using he
 obtain⟨x,hx,hr⟩:=qwN.1 hr
 split at hr
 ·cases hr
 rename_i hk
 cases hr
 have hk1:x.kind=k:=by by_cases h:x.kind=k;exact h;exact absurd (.inl h) hk
 have hk2:k=111->x.text=t:=fun h=>by by_cases h':x.text=t;exact h';exact absurd (.inr ⟨h,h'⟩) hk
 have hrg:=Ra hx
 simp[lT,lC,h1,he,EA he,hx,hk1]
 clear h1
 have fin:∀H:ab,H 0=some (.box b (li s.step))->K2 enc b (fun s' y=>C9 s k t=some (s',y)) (.v (.string x.text)) H:=fun H h=>qjr s.step h hr0
 intro b7
 exact⟨fun h=>⟨fun h'=>absurd (hk2 h) h',fun _=>⟨by simp only[InR];omega,qjr s.step (by simp[Pst.step,he]) hr0⟩⟩,fun _=>⟨by simp only[InR];omega,qjr s.step (by simp[Pst.step,he]) hr0⟩⟩
@[simp] abbrev PG(s:Pst)(_:Unit):Option (Pst×Bool):=ru s ⟨#[37,99]⟩
abbrev qaB:Spc:=Ue a0 (enc (X:=Bool)) PG
theorem qhX(h1:S dB=Mv):oJ lV lE S a0 (enc (X:=Bool)) (fun s z=>∃r,PG s z=some r) (fun s z s' y=>PG s z=some (s',y)):=by
 rintro b s ⟨⟩ ⟨⟨s',v⟩,hr⟩
 simp only[PG]at hr
 simp[lV,lE,h1,hr, -Bool.forall_bool, -Bool.exists_bool]
 refine RQ s' ?_ ?_
 ·simp
 ·exact⟨rfl,rfl⟩
theorem Ys{s:Pst}{x:G1}(h:VT s=some x):0<=s.pos/\s.pos+1 < s.l.length/\s.l.length<=1000000/\s.l[(s.pos+1).toNat]? =some x:=by
 unfold VT at h
 split at h
 ·rename_i h0
  exact⟨h0.1,h0.2.1,h0.2.2,h⟩
 ·cases h
@[simp] abbrev Va(s:Pst)(_:Unit):Option (Pst×G1):=(VT s).map fun x=>(s,x)
abbrev qat:Spc:=Ue a0 (enc (X:=G1)) Va
theorem qhO:oJ lU lD S a0 (enc (X:=G1)) (fun s z=>∃r,Va s z=some r) (fun s z s' y=>Va s z=some (s',y)):=by
 rintro b s ⟨⟩ ⟨r,hr⟩
 obtain⟨x,hx,rfl⟩:=qw0.1 hr
 obtain⟨g1,g2,g3,g4⟩:=Ys hx
 have hm:min (s.pos+1) (s.l.length -1)=s.pos+1:=by omega
 simp[lU,lD,InR,hm]
 refine fun _=>⟨by omega,fun _=>⟨by omega,by omega,by omega,fun a ha=>Ew s a (.same _) (by simp) ⟨?_,rfl⟩⟩⟩
 rw[g4]at ha
 rw[<-ha,hx]
@[simp] abbrev K3(s:Pst)(_:Unit):Option (Pst×Bool):=(Pk s).map fun v=>(s,v)
abbrev Ja:Spc:=Ue a0 (enc (X:=Bool)) K3
theorem ZG(h1:S cL=IZ)(h2:S nD=qat):oJ fy fh S a0 (enc (X:=Bool)) (fun s z=>∃r,K3 s z=some r) (fun s z s' y=>K3 s z=some (s',y)):=by
 rintro b s ⟨⟩ ⟨r,hr⟩
 obtain⟨v,hv,rfl⟩:=qw0.1 hr
 have hv0:=hv
 simp only[Pk]at hv
 obtain⟨x,hx,hv⟩:=qwN.1 hv
 split at hv
 ·cases hv
 rename_i he
 have he:s.e=0:=by simpa using he
 split at hv
 ·rename_i hk
  obtain⟨n,hn,hv⟩:=qwN.1 hv
  split at hv
  ·rename_i hc
   cases hv
   simp[fy,fh,h1,h2,hx,he,EA he,hk,hn,hc.1,hc.2]
   exact RQ s (by simp[he]) ⟨hv0,rfl⟩
  ·cases hv
 rename_i hk
 cases hv
 simp[fy,fh,h1,hx,he,EA he,hk]
 clear h1 hr
 repeat' first|apply And.intro|intro _
 all_goals refine RQ s (by simp[he]) ⟨?_,rfl⟩
 all_goals (rw[hv0];simp[*])
end Go.Gv

namespace Go.Gv
open Cod (enc dec)
variable {S S0:Nat->Spc}
theorem qfP{H:ab}{op o:Int}{n a v l lb rg:B}{f:Bool}{cd d:D}{mn mx:Int}(cks:List Cond)(ks:List Pat)(hc:FrzTo H cd (enc cks))(hd:FrzTo H d (enc ks)):
 FrzTo H (.agg [.v (.int .i64 op), .v (.int .i64 o), .v (.string n), .v (.string a), .v (.string v), .v (.string l), .v (.bool f),cd, .v (.string lb), .v (.string rg), .v (.int .i64 mn), .v (.int .i64 mx),d]) (enc (⟨op,⟨o,n,a,v,l,f,cks⟩,lb,rg,mn,mx,ks⟩:Pat)):=by
 rw[O5]
 refine .agg rfl fun k x y hx hy=>?_
 rcases k with _|_|_|_|_|_|_|_|_|_|_|_|_|k
 ·cases hx;cases hy;exact .same _
 ·cases hx;cases hy;exact .same _
 ·cases hx;cases hy;exact .same _
 ·cases hx;cases hy;exact .same _
 ·cases hx;cases hy;exact .same _
 ·cases hx;cases hy;exact .same _
 ·cases hx;cases hy;exact .same _
 ·cases hx;cases hy;exact hc
 ·cases hx;cases hy;exact .same _
 ·cases hx;cases hy;exact .same _
 ·cases hx;cases hy;exact .same _
 ·cases hx;cases hy;exact .same _
 ·cases hx;cases hy;exact hd
 ·simp at hx
theorem qcn{b:Nat}{post:Pst->Pat->Prop}{H:ab}{op o:Int}{n a v l lb rg:B}{f:Bool}{cd d:D}{mn mx:Int}(s:Pst)(cks:List Cond)(ks:List Pat)(hc:FrzTo (fun i=>if i=0 then none else H i) cd (enc cks))(hd:FrzTo (fun i=>if i=0 then none else H i) d (enc ks))
 (h0:H 0=some (.box b (li s))) (hq:post s ⟨op,⟨o,n,a,v,l,f,cks⟩,lb,rg,mn,mx,ks⟩):
 K2 enc b post (.agg [.v (.int .i64 op), .v (.int .i64 o), .v (.string n), .v (.string a), .v (.string v), .v (.string l), .v (.bool f),cd, .v (.string lb), .v (.string rg), .v (.int .i64 mn), .v (.int .i64 mx),d]) H:=
 Ew s _ (qfP cks ks hc hd) h0 hq
theorem UI{s:Pst}{t:B}{r:Pst×Bool}(h:ru s t=some r):(r=(s,false)/\Wg s 111 t=some false)\/(r=(s.step,true)/\Wg s 111 t=some true):=by
 unfold ru at h
 obtain⟨v,hv,rfl⟩:=qw0.1 h
 cases v
 ·exact .inl ⟨rfl,hv⟩
 ·exact .inr ⟨rfl,hv⟩
theorem xV{s:Pst}{x:G1}{t:B}(he:s.e=0)(hx:xu s=some x)(h:¬ (x.kind=111/\x.text=t)):ru s t=some (s,false):=by
 rw[ru,H9 he hx,decide_eq_false h];rfl
theorem qf5{s:Pst}{x:G1}{t:B}(he:s.e=0)(hx:xu s=some x)(h1:x.kind=111)(h2:x.text=t):ru s t=some (s.step,true):=by
 rw[ru,H9 he hx,decide_eq_true ⟨h1,h2⟩];rfl
@[simp] abbrev PE(s:Pst)(_:Unit):Option (Pst×Pat):=qbS s
abbrev qay:Spc:=Ue a0 (enc (X:=Pat)) PE
@[simp] abbrev Xm(s:Pst)(_:Unit):Option (Pst×Pat):=qeS s
abbrev qgX:Spc:=Ue a0 (enc (X:=Pat)) Xm
@[simp] abbrev Xl(s:Pst)(_:Unit):Option (Pst×Pat):=Z9 s
abbrev qgV:Spc:=Ue a0 (enc (X:=Pat)) Xl
@[simp] abbrev Xo(s:Pst)(_:Unit):Option (Pst×Pat):=qdn s
abbrev qg0:Spc:=Ue a0 (enc (X:=Pat)) Xo
theorem ZA{s:Pst}{x:G1}{k:Int}{t:B}(he:s.e=0)(hx:xu s=some x)(h1:x.kind=k)(h2:k=111->x.text=t):C9 s k t=some (s.step,x.text):=by
 rw[C9,if_neg (by simp[he]),hx,qw7,if_neg (by rintro(h|h);exact h h1;exact h.2 (h2 h.1))]
theorem IE{s s':Pst}{lb:B}{y:Pat}(h:NO s lb=some (s',y)):s.e=0/\∃x,xu s=some x/\((x.kind=115/\C9 s 115 ⟨#[]⟩=some (s.step,x.text)/\∃w,ru s.step ⟨#[37,99]⟩=some (s',w)/\y=⟨1,⟨2,E0,E0,x.text,E0,w, []⟩,lb,E0,0,0, []⟩)\/
 (x.kind≠115/\∃u t,C9 s 111 ⟨#[91]⟩=some (u,t)/\ru u ⟨#[93]⟩=some (s',true)/\y=⟨1,⟨1,E0,E0,E0,E0,false, []⟩,lb,E0,0,0, []⟩)):=by
 unfold NO at h
 split at h
 ·cases h
 rename_i he
 have he:s.e=0:=by simpa using he
 obtain⟨x,hx,h⟩:=qwN.1 h
 refine⟨he,x,hx,?_⟩
 split at h
 ·rename_i hk
  obtain⟨⟨s2,w⟩,hf,h⟩:=qw0.1 h
  cases h
  exact .inl ⟨hk,ZA he hx hk (fun h=>absurd h (by decide)),w,hf,rfl⟩
 ·rename_i hk
  obtain⟨⟨u,t⟩,hu,h⟩:=qwN.1 h
  obtain⟨⟨s2,w⟩,hf,h⟩:=qwN.1 h
  cases w with
  | false=>simp at h
  | true=>
    simp at h
    obtain⟨rfl,rfl⟩:=h
    exact .inr ⟨hk,u,t,hu,hf,rfl⟩
set_option maxHeartbeats 1000000 in
theorem qhW(h1:S cL=IZ)(h2:S dB=Mv)(h3:S nC=qai)(h4:S nF=qaB):
 oJ dH dz S a0 (enc (X:=Pat)) (fun s z=>∃r,PE s z=some r) (fun s z s' y=>PE s z=some (s',y)):=by
 rintro b s ⟨⟩ ⟨⟨s',y⟩,hr⟩
 have hr0:=hr
 simp only[PE,qbS]at hr
 split at hr
 ·cases hr
 rename_i he
 have he:s.e=0:=by simpa using he
 obtain⟨x,hx,hr⟩:=qwN.1 hr
 split at hr
 ·cases hr
 rename_i hx1
 have n1:ru s ⟨#[40]⟩=some (s,false):=xV he hx fun h=>hx1 ⟨h.1,by rw[h.2];decide⟩
 have n2:ru s ⟨#[60]⟩=some (s,false):=xV he hx fun h=>hx1 ⟨h.1,by rw[h.2];decide⟩
 have n3:ru s ⟨#[60,47]⟩=some (s,false):=xV he hx fun h=>hx1 ⟨h.1,by rw[h.2];decide⟩
 split at hr
 ·rename_i hk
  obtain⟨⟨s1,t1⟩,hc,hr⟩:=qwN.1 hr
  simp only at hr
  have hw:=ZA (k:=110) (t:=⟨#[]⟩) he hx hk (fun h=>absurd h (by decide))
  obtain⟨he1,x1,hx1,(⟨k1,w1,w,hf,rfl⟩|⟨k1,u,t,hu,hf,rfl⟩)⟩:=IE hr
  ·simp[dH,dz,h1,h2,h3,h4,n1,n2,n3,he,EA he,hx,hk,hw,hc,he1,EA he1,hx1,k1,w1,hf, -Bool.forall_bool, -Bool.exists_bool]
   exact fun b1=>qcn s' [] [] (.nil _) (.nil _) (by simp) hr0
  ·simp[dH,dz,h1,h2,h3,h4,n1,n2,n3,he,EA he,hx,hk,hw,hc,he1,EA he1,hx1,k1,hu,hf, -Bool.forall_bool, -Bool.exists_bool]
   exact fun b1=>qcn s' [] [] (.nil _) (.nil _) (by simp) hr0
 ·rename_i hk
  obtain⟨_,x1,hx1,h⟩:=IE hr
  rw[hx]at hx1
  cases hx1
  obtain(⟨k1,w1,w,hf,rfl⟩|⟨k1,u,t,hu,hf,rfl⟩):=h
  ·simp[dH,dz,h1,h2,h3,h4,n1,n2,n3,he,EA he,hx,k1,w1,hf, -Bool.forall_bool, -Bool.exists_bool]
   exact fun b1=>qcn s' [] [] (.nil _) (.nil _) (by simp) hr0
  ·simp[dH,dz,h1,h2,h3,h4,n1,n2,n3,he,EA he,hx,hk,k1,hu,hf, -Bool.forall_bool, -Bool.exists_bool]
   exact fun b1=>qcn s' [] [] (.nil _) (.nil _) (by simp) hr0
set_option maxHeartbeats 1000000 in
theorem qlz(h1:S cL=IZ)(h2:S dB=Mv)(h5:S nE=qay):
 oJ nW mT S a0 (enc (X:=Pat)) (fun s z=>∃r,Xm s z=some r) (fun s z s' y=>Xm s z=some (s',y)):=by
 rintro b s ⟨⟩ ⟨⟨s',y⟩,hr⟩
 have hr0:=hr
 simp only[Xm,qeS]at hr
 obtain⟨⟨s1,x1⟩,hi,hr⟩:=qwN.1 hr
 simp only at hr
 simp[nW,mT,h5,hi]
 intro b2 b3
 refine mj (X:=Nat×Pst×Pat) [0,2,3] [2] [] [] [] [] (fun z=>zI z.1 z.2.1 z.2.2=some (s',y)) (fun _=>[]) (fun z=>[(0, .box b (li z.2.1)),(3, .box b3 (enc z.2.2).cells)]) (fun z=>z.1) (9,s1,x1) [0,3] (fun _=>rfl) (by decide) (by decide) hr (by simp) (by simp) ?_
 clear hr hi
 rintro⟨k,s,x⟩ hk
 simp only at hk
 obtain _|k:=k
 ·rw[zI]at hk;cases hk
 rw[zI]at hk
 split at hk
 ·cases hk
 rename_i he
 have he:s.e=0:=by simpa using he
 obtain⟨t,ht,hk⟩:=qwN.1 hk
 split at hk
 ·cases hk
 rename_i hno
 have n1:ru s ⟨#[63]⟩=some (s,false):=xV he ht fun h=>hno ⟨h.1, .inl h.2⟩
 have n3:ru s ⟨#[43]⟩=some (s,false):=xV he ht fun h=>hno ⟨h.1, .inr (.inl h.2)⟩
 have n4:ru s ⟨#[123]⟩=some (s,false):=xV he ht fun h=>hno ⟨h.1, .inr (.inr h.2)⟩
 split at hk
 ·rename_i hb
  have y2:=qf5 he ht hb.1 hb.2
  simp[h1,h2,he,EA he,ht,n1,y2, -Bool.forall_bool, -Bool.exists_bool]
  exact⟨k,s.step,⟨6,Cond0,E0,E0,0, -1, [x]⟩,hk,⟨.inl (.inl ⟨rfl,rfl,rfl,rfl,rfl⟩), .inl (by simp[Cond0,E0])⟩,by omega⟩
 ·rename_i hb
  have n2:ru s ⟨#[42]⟩=some (s,false):=xV he ht hb
  cases hk
  simp[h1,h2,he,EA he,ht,n1,n2,n3,n4, -Bool.forall_bool, -Bool.exists_bool]
  exact Ew s' y (by simp) (by simp[he]) hr0
theorem qe5{op:Int}{l:List Pat}(h:l.length≠1):qg5 op l=⟨op,Cond0,E0,E0,0,0,l⟩:=by
 match l,h with
 | [],_=>rfl
 | [x],h=>exact absurd rfl h
 | x::y::l,_=>rfl
theorem qlx(h1:S kM=Ja)(h2:S pD=qgX):
 oJ nV mS S a0 (enc (X:=Pat)) (fun s z=>∃r,Xl s z=some r) (fun s z s' y=>Xl s z=some (s',y)):=by
 rintro b s ⟨⟩ ⟨⟨s',y⟩,hr⟩
 have hr0:=hr
 simp only[Xl,Z9]at hr
 obtain⟨⟨s1,x1⟩,hi,hr⟩:=qwN.1 hr
 obtain⟨⟨s2,l2⟩,hl,hr⟩:=qw0.1 hr
 simp only at hl hr
 cases hr
 simp[nV,mS,h2,hi]
 intro b2 v0
 refine av (X:=Nat×Pst×Value×List Pat) [0,2] [2] (fun z=>zx z.1 z.2.1 z.2.2.2=some (s',l2)/\z.2.2.2.length+z.1<=10) (fun z=>[(3, .own 6 z.2.2.1)]) (fun z=>[(0, .box b (li z.2.1)),(6, .row z.2.2.1 eK 13 (z.2.2.2.map enc))]) (fun z=>z.1) (9,s1,v0, [x1]) ⟨hl,by simp⟩ (by simp) (by simp) ?_
 clear hr hl hi
 rintro⟨k,s,v,l⟩ ⟨hk,hlen⟩
 simp only at hk hlen
 obtain _|k:=k
 ·rw[zx]at hk;cases hk
 rw[zx]at hk
 obtain⟨v1,hb,hk⟩:=qwN.1 hk
 cases v1
 ·simp only[qxw,if_false]at hk
  cases hk
  simp[h1,hb, -Bool.forall_bool, -Bool.exists_bool]
  clear h1 h2
  refine fun _=>⟨fun h1=>⟨by omega,fun a ha=>?_⟩,fun hne=>?_⟩
  ·have e:l2=[a]:=by
    match l2,h1,ha with
    | [x],_,ha=>simp at ha;rw[ha]
   rw[e]at hr0
   exact Ew s' a (by simp) (by simp) hr0
  ·rw[qe5 (by omega)]at hr0
   exact qcn s' [] l2 (.nil _) (gh eK (by simp)) (by simp) hr0
 ·simp only[if_true]at hk
  obtain⟨⟨s3,x3⟩,hx,hk⟩:=qwN.1 hk
  simp only at hk
  simp[h1,hb,h2,hx, -Bool.forall_bool, -Bool.exists_bool]
  exact⟨by omega,by omega,fun v'=>⟨k,s3,v',l++ [x3],⟨hk,by simp;omega⟩,⟨rfl, .inl ⟨rfl,rfl,rfl,rfl,rfl⟩, .inl ⟨rfl,by simp⟩⟩,by omega⟩⟩
theorem qlC(h1:S dB=Mv)(h2:S pB=qgV):
 oJ nZ mW S a0 (enc (X:=Pat)) (fun s z=>∃r,Xo s z=some r) (fun s z s' y=>Xo s z=some (s',y)):=by
 rintro b s ⟨⟩ ⟨⟨s',y⟩,hr⟩
 have hr0:=hr
 simp only[Xo,qdn]at hr
 obtain⟨⟨s1,x1⟩,hi,hr⟩:=qwN.1 hr
 simp only at hr
 obtain⟨⟨s2,w⟩,hw,hr⟩:=qwN.1 hr
 cases w with
 | true=>simp at hr
 | false=>
   simp at hr
   obtain⟨rfl,rfl⟩:=hr
   obtain⟨e,_⟩|⟨e,_⟩:=UI hw
   ·cases e
    simp[nZ,mW,h2,hi]
    intro b2 v0
    refine av (X:=Unit) [0,2,3] [0,2,6] (fun _=>True) (fun _=>[]) (fun _=>[]) (fun _=>0) () trivial (by simp) (by simp) ?_
    rintro - -
    simp[h1,hw, -Bool.forall_bool, -Bool.exists_bool]
    exact Ew s1 x1 (by simp) (by simp) hr0
   ·cases e
end Go.Gv
