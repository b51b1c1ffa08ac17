/- A part of the framework and of the walks: W191 V66 C70 W194 W195. -/
import Derived.Test.YtphdikcommfnhaaGreatDoorGg44
import Derived.Test.YtphdikcommfnhaaGreatDoorGg29
import Derived.Test.YtphdikcommfnhaaGreatDoorGg36
import Derived.Test.YtphdikcommfnhaaGreatDoorGg20
import Derived.Test.YtphdikcommfnhaaGreatDoorGg39
set_option linter.unusedSimpArgs false
set_option linter.unusedVariables false
set_option linter.unusedSectionVars false
set_option maxRecDepth 100000
set_option maxHeartbeats 0

namespace Go.Gv
open Go.Proofs
open Cod (enc dec)
variable {S S0:Nat->Spc}
abbrev X4:Spc:=aS (a1 Glob) (fun g=>g=nt) (enc (X:=Bool)) fun x y=>y=true
theorem LC:aq uq tJ S (a1 Glob) (fun g=>g=nt) (enc (X:=Bool)) fun x y=>y=true:=by
 rintro x rfl
 simp[uq,tJ,nt,E0, -Bool.forall_bool]
abbrev L7:Spc:=aS (a1 Glob) (fun g=>g=nt) (enc (X:=Bool)) fun x y=>y=true
theorem Jl(h1:S wt=X4):aq ss rz S (a1 Glob) (fun g=>g=nt) (enc (X:=Bool)) fun x y=>y=true:=by
 rintro x rfl
 simp[ss,rz,h1, -Bool.forall_bool]
abbrev Yn:Spc:=aS (aE (List Sz) (aD a0)) (fun x=>x.1=[]) (enc (X:=Int)) fun x y=>y= -1
theorem sK:aq eq ej S (aE (List Sz) (aD a0)) (fun x=>x.1=[]) (enc (X:=Int)) fun x y=>y= -1:=by
 rintro⟨l,d,⟨⟩⟩ h
 have h:l=[]:=h
 subst h
 simp[eq,ej, -Bool.forall_bool]
 refine ai (X:=Unit) [] [] 0 (fun _ _=>True) (fun _=>[]) (fun _=>[]) () (by simp) (by simp) (by omega) (by simp) (by simp) trivial (by simp) (by simp) (fun k x hk=>absurd hk (by omega)) (fun _ _=>?_)
 simp
abbrev Ma:Spc:=aS (aE (List Sz) (aD a0)) (fun x=>x.1=[]) (enc (X:=Bool)) fun x y=>y=false
theorem pG(h1:S eB=Yn):aq dE dv S (aE (List Sz) (aD a0)) (fun x=>x.1=[]) (enc (X:=Bool)) fun x y=>y=false:=by
 rintro⟨l,d,⟨⟩⟩ h
 have h:l=[]:=h
 subst h
 simp[dE,dv,h1, -Bool.forall_bool]
abbrev Rl:Spc:=aS (a3 Glob (List Attr) (List B)) (fun x=>x.1=nt) (enc (X:=Int)) fun _ y=>y=0
abbrev Ta:Spc:=aS (a3 Glob (List Attr) (List B)) (fun x=>x.1=nt) (enc (X:=Int)) fun _ y=>y=0
structure qof (q:Qry):Prop where
 filts:q.filts=[]
 strat:q.strat=0
 pat:pW bT q.pat=true
 size:jX q.pat<=256
 l3:(aw q.pat []).length<=3
 num:pY q.pat<=1000000
abbrev Rk:Spc:=aS (a1 Qry) qof (enc (X:=Int)) fun _ y=>y=0
theorem qfh{N:Nat->Spc}(h0:N dX=Co)(h0':N dz=ya)(h1:S pb=L8)(h2:S ff=Cq N)(h3:S mK=SO)(h4:S cj=s_qlabels)(h5:S bp=Ma):
 aq gZ gM S (a1 Qry) qof (enc (X:=Int)) fun _ y=>y=0:=by
 rintro q hq
 have f1:FunIs N (.clo dX []) (uS bT):=yK h0 fun _=>trivial
 have f2:FunIs N (.clo dz []) xG:=yK h0' fun _=>trivial
 have hp:=hq.pat
 unfold pW at hp
 simp only[qtN]at hp
 obtain⟨⟨⟨p1,p2⟩,p3⟩,p4⟩:=hp
 have hsz:=hq.size
 have hsz2:¬256 < jX q.pat:=by omega
 have hl3:=hq.l3
 have hPb:WN q.pat []:=by show 0+pY q.pat<=1000000;have:=hq.num;omega
 simp[gZ,gM,h1,p1,p2,h2,hq.filts,hq.strat,h3,hq.pat,hsz,hsz2,h5, -Bool.forall_bool, -Bool.exists_bool]
 refine⟨⟨_,f1⟩,fun y hy=>⟨fun _=>⟨⟨_,f2⟩,fun z hz=>⟨by rw[hz _ f2,p4],fun _=>?_⟩⟩,by rw[hy _ f1,p3]⟩⟩
 simp[h4, -Bool.forall_bool, -Bool.exists_bool]
 refine .inl ⟨hPb,fun l hl _=>?_⟩
 have hl:l=aw q.pat []:=hl
 subst hl
 omega
theorem qbM:aq lj kL S (a3 Glob (List Attr) (List B)) (fun x=>x.1=nt) (enc (X:=Int)) fun _ y=>y=0:=by
 rintro⟨g,a,lb⟩ h
 have h:g=nt:=h
 subst h
 simp[lj,kL,nt, -Bool.forall_bool, -Bool.exists_bool]
theorem qfi(h1:S mL=Ta):aq nf mc S (a3 Glob (List Attr) (List B)) (fun x=>x.1=nt) (enc (X:=Int)) fun _ y=>y=0:=by
 rintro⟨g,a,lb⟩ h
 have h:g=nt:=h
 subst h
 simp[nf,mc,h1, -Bool.forall_bool, -Bool.exists_bool]
 simp[nt, -Bool.forall_bool, -Bool.exists_bool]
 refine ai (X:=Unit) [] [] 0 (fun _ _=>True) (fun _=>[]) (fun _=>[]) () (by simp) (by simp) (by omega) (by simp) (by simp) trivial (by simp) (by simp) (fun k x hk=>absurd hk (by omega)) (fun _ _=>?_)
 simp
theorem qe3(h1:S eS=Rk)(h2:S cj=s_qlabels)(h3:S dA=s_leavesQ)(h4:S dB=Yl)(h5:S bp=Ma)(h6:S pa=L7)(h7:S jq=Rl):
 aq eW eN S (a2 Qry (List Attr)) (fun x=>qij x.2 x.1) (enc (X:=Int)) fun _ y=>y=0:=by
 rintro⟨q,a⟩ hq
 have hq:qij a q:=hq
 have hC:qof q:=⟨hq.filts,hq.strat,hq.pat,hq.size,hq.l3,hq.num⟩
 have hPb:WN q.pat []:=by show 0+pY q.pat<=1000000;have:=hq.num;omega
 have hlv:(aC q.pat).length<=pY q.pat:=H5 q.pat
 have hPq:qeQ q.pat []:=⟨by have:=hq.num;simp;omega,fun y hy=>(hq.lv y hy).2⟩
 simp[eW,eN,h1,hC,h2, -Bool.forall_bool, -Bool.exists_bool]
 refine .inl ⟨hPb,fun l hl=>?_⟩
 have hl:l=aw q.pat []:=hl
 subst hl
 simp[h3, -Bool.forall_bool, -Bool.exists_bool]
 refine .inl ⟨hPq,?_⟩
 intro hll
 refine ai (X:=Unit) [1,2,6,20] [] (cE q.pat).length (fun _ _=>True) (fun _=>[]) (fun _=>[]) () (by simp) (by simp) (by omega) (by simp) (by simp) trivial (by simp) (by simp) ?_ ?_
 ·rintro k ⟨⟩ hk -
  obtain⟨x,hx⟩:∃x,(cE q.pat)[k]? =some x:=⟨_,qtH hk⟩
  obtain⟨_,hgx⟩:=qtG.1 hx
  have hxm:=qtJ hx
  obtain⟨y,hy,rfl⟩:=qtU.1 hxm
  have hP:Sv ((ug y).cond,a,aw q.pat []):=⟨(hq.lv y hy).1,hq.att⟩
  simp[hk,hx,hgx,h4,hP, -Bool.forall_bool, -Bool.exists_bool]
  exact hP
 ·rintro⟨⟩ -
  simp[h5,h6,h7,hq.glob,hq.filts, -Bool.forall_bool, -Bool.exists_bool]
end Go.Gv

namespace Go.Gv
def qiI(s:B)(i:Nat):Option (Nat×Fl):=match s.data[i]? with
 | none=>none
 | some c=>
   if Zi c.toNat then some (Ef s i,⟨110,s.extract i (Ef s i),i⟩)
   else if 48<=c.toNat/\c.toNat<=57 then none
   else if c.toNat=34 then(Ru s (i+1) ⟨#[]⟩).map fun r=>(r.1+1,⟨115,r.2,i⟩)
   else match signsL.find? (qfR s i)with
    | none=>none
    | some x=>some (i+x.size,⟨111,s.extract i (i+x.size),i⟩)
def G4:Nat->B->Nat->List Fl->Option (List Fl)
 | 0,_,_,_=>none
 | k+1,s,i,out=>if sT s i=s.size then some (out++ [⟨101,⟨#[]⟩,s.size⟩])else(qiI s (sT s i)).bind fun r=>if r.1<=s.size/\sT s i < r.1 then G4 k s r.1 (out++ [r.2])else none
def EZ(s:B):Option (List Fl):=if s.size<=100000 then G4 100000 s 0 []else none
theorem YZ{s:B}{i:Nat}(h:s.size<=i):Ef s i=i:=by
 unfold Ef
 rw[show s.size -i=0 by omega,qcA]
theorem KI{s:B}{i:Nat}(h:i < s.size):Ef s i=if Zo s i then Ef s (i+1)else i:=by
 unfold Ef
 rw[show s.size -i=(s.size - (i+1)) +1 by omega,qcA]
def Tn(s:Pst):Option Fl:=if 0<=s.pos/\s.pos+1 < s.l.length/\s.l.length<=1000000 then s.l[(s.pos+1).toNat]? else none
def Nh(s:Pst):Option Bool:=(vW s).bind fun x=>if s.e≠0 then none else if x.kind=110 then(Tn s).bind fun n=>if n.kind=111/\n.text=⟨#[58]⟩then some true else none
 else some (decide (x.kind=115\/x.kind=111/\(x.text=⟨#[91]⟩\/x.text=⟨#[60]⟩\/x.text=⟨#[60,47]⟩\/x.text=⟨#[40]⟩)))
def LP(s:Pst)(lb:B):Option (Pst×Pat):=if s.e≠0 then none else(vW s).bind fun x=>
 if x.kind=115 then(qf s.step ⟨#[37,99]⟩).map fun w=>(w.1,⟨1,⟨2,E0,E0,x.text,E0,w.2, []⟩,lb,E0,0,0, []⟩)
 else(BL s 111 ⟨#[91]⟩).bind fun u=>(qf u.1 ⟨#[93]⟩).bind fun w=>if w.2 then some (w.1,⟨1,⟨1,E0,E0,E0,E0,false, []⟩,lb,E0,0,0, []⟩)else none
def Zn(s:Pst):Option (Pst×Pat):=if s.e≠0 then none else(vW s).bind fun x=>if x.kind=111/\x.text≠ ⟨#[91]⟩then none else
 if x.kind=110 then(BL s.step 111 ⟨#[58]⟩).bind fun u=>LP u.1 x.text else LP s E0
def yi:Nat->Pst->Pat->Option (Pst×Pat)
 | 0,_,_=>none
 | k+1,s,x=>if s.e≠0 then none else(vW s).bind fun t=>if t.kind=111/\(t.text=⟨#[63]⟩\/t.text=⟨#[43]⟩\/t.text=⟨#[123]⟩)then none else
    if t.kind=111/\t.text=⟨#[42]⟩then yi k s.step ⟨6,jh,E0,E0,0, -1, [x]⟩else some (s,x)
def qch(s:Pst):Option (Pst×Pat):=(Zn s).bind fun r=>yi 9 r.1 r.2
def xZ:Nat->Pst->List Pat->Option (Pst×List Pat)
 | 0,_,_=>none
 | k+1,s,acc=>(Nh s).bind fun b=>if b then(qch s).bind fun r=>xZ k r.1 (acc++ [r.2])else some (s,acc)
def XL(s:Pst):Option (Pst×Pat):=(qch s).bind fun r=>(xZ 9 r.1 [r.2]).map fun q=>(q.1,qem 4 q.2)
def qaP(s:Pst):Option (Pst×Pat):=(XL s).bind fun r=>(qf r.1 ⟨#[124]⟩).bind fun w=>if w.2 then none else some (w.1,r.2)
def DX(s:B):Option Pat:=if s.size<=400 then(EZ s).bind fun l=>(qaP ⟨l,0,0,0,0⟩).bind fun r=>if r.1.e≠0 then none else(vW r.1).bind fun t=>if t.kind=101 then some r.2 else none else none
def qtm:B:=⟨#[97,58,34,97,34,32,91,93,42,32,98,58,34,98,34]⟩
def C5:Pat:=⟨4,jh,E0,E0,0,0, [⟨1,⟨2,E0,E0,⟨#[97]⟩,E0,false, []⟩,⟨#[97]⟩,E0,0,0, []⟩,⟨6,jh,E0,E0,0, -1, [⟨1,⟨1,E0,E0,E0,E0,false, []⟩,E0,E0,0,0, []⟩]⟩,⟨1,⟨2,E0,E0,⟨#[98]⟩,E0,false, []⟩,⟨#[98]⟩,E0,0,0, []⟩]⟩
theorem KS:DX qtm=some C5:=by kernel_rfl
end Go.Gv

namespace Go.Gv
open Go.Proofs
def qi:CC:=gq Tryz.f148 [] {} _
def pJ:List aj:=[.tmp 2]
theorem FF:am Tryz.prog rM [] qi pJ 21:=fo
def sd:CC:=gq Tryz.f149 [] {} _
def rj:List aj:=[.tmp 2]
theorem HA:am Tryz.prog tV [] sd rj 9:=fo
def wB:CC:=gq Tryz.f150 [] {} _
def vz:List aj:=[.tmp 0]
theorem Ml:am Tryz.prog yM [] wB vz 2:=fo
def zh:CC:=gq Tryz.f95 [1036200,1074200,1083200,1121200,1147200,1192200,1200200] { cu:=[3,10] } _
def yd:List aj:=[.tmp 2]
theorem OK:am Tryz.prog Bv [1036200,1074200,1083200,1121200,1147200,1192200,1200200] zh yd 202:=fo
def mY:CC:=gq Tryz.f105 [2002002] { ke:=[0] } _
def lW:List aj:=[.cell 2 true 3]
theorem CG:am Tryz.prog cw [2002002] mY lW 13:=fo
def lc:CC:=gq Tryz.f248 [2002002] { ke:=[0] } _
def kH:List aj:=[.cell 2 true 3]
theorem AY:am Tryz.prog mG [2002002] lc kH 21:=fo
def jt:CC:=gq Tryz.f103 [] { bx:=[0] } _
def jk:List aj:=[.tmp 6]
theorem D0:am Tryz.prog gw [] jt jk 26:=fo
def mZ:CC:=gq Tryz.f97 [] { ke:=[0] } _
def lX:List aj:=[.tmp 4]
theorem CH:am Tryz.prog dc [] mZ lX 15:=fo
def kZ:CC:=gq Tryz.f102 [] { ke:=[0] } _
def kG:List aj:=[.tmp 6]
theorem AX:am Tryz.prog mF [] kZ kG 40:=fo
def ld:CC:=gq Tryz.f252 [] { bx:=[0] } _
def kI:List aj:=[.tmp 2]
theorem A0:am Tryz.prog mI [] ld kI 5:=fo
def eV:CC:=gq Tryz.f208 [] { bx:=[0] } _
def eM:List aj:=[.tmp 2]
theorem yq:am Tryz.prog jL [] eV eM 63:=fo
def di:CC:=gq Tryz.f246 [] { bx:=[0] } _
def da:List aj:=[.cell 2 true 13]
theorem AZ:am Tryz.prog mH [] di da 97:=fo
def mX:CC:=gq Tryz.f207 [] { bx:=[0] } _
def lV:List aj:=[.cell 2 true 13]
theorem CF:am Tryz.prog nU [] mX lV 64:=fo
def mW:CC:=gq Tryz.f151 [100006,1013006] { ke:=[0] } _
def lU:List aj:=[.cell 2 true 13]
theorem CE:am Tryz.prog nT [100006,1013006] mW lU 22:=fo
def na:CC:=gq Tryz.f96 [100006,1013006] { ke:=[0] } _
def lY:List aj:=[.cell 2 true 13]
theorem CJ:am Tryz.prog nV [100006,1013006] na lY 22:=fo
def kY:CC:=gq Tryz.f99 [] { ke:=[0] } _
def kF:List aj:=[.tmp 6]
theorem AW:am Tryz.prog mE [] kY kF 22:=fo
def se:CC:=gq Tryz.f100 [] {} _
def rk:List aj:=[.tmp 0]
theorem HB:am Tryz.prog tW [] se rk 2:=fo
def wC:CC:=gq Tryz.f44 [2056006,2002002] { cu:=[8,18,23] } _
def vA:List aj:=[.cell 2 true 26, .tmp 3, .tmp 4]
theorem Mm:am Tryz.prog yN [2056006,2002002] wC vA 110:=fo
end Go.Gv

namespace Go.Gv
open Cod (enc dec)
variable {S S0:Nat->Spc}
@[simp] abbrev UD(s:Pst)(_:Unit):Option (Pst×Fl):=(vW s).map fun x=>(s,x)
abbrev G7:Spc:=Rw a0 (enc (X:=Fl)) UD
theorem qix:nr mY lW S a0 (enc (X:=Fl)) (fun s z=>∃r,UD s z=some r) (fun s z s' y=>UD s z=some (s',y)):=by
 rintro b s ⟨⟩ ⟨r,hr⟩
 simp only[UD,vW,qtR]at hr
 obtain⟨x,hx,rfl⟩:=hr
 split at hx
 ·rename_i h0
  obtain⟨h0,hb⟩:=h0
  have hl:=qet hx
  obtain⟨_,hgx⟩:=qtG.1 hx
  simp[mY,lW,hx]
  exact fun _=>⟨h0,by omega,Dc s x (.same _) (by simp) ⟨by rw[vW,if_pos ⟨h0,hb⟩,hx],rfl⟩⟩
 ·cases hx
theorem De{s:Pst}(h:s.e=0):Pst.mk s.l s.pos s.deep 0 s.fail=s:=by rw[<-h]
theorem Pr{b:Nat}{post:Pst->Bool->Prop}{v:Bool}{H:ab}(s:Pst)(h0:H 0=some (.box b (kj s)))(hq:post s v):IY enc b post (.v (.bool v)) H:=Dc s v (.same _) h0 hq
theorem qqb{b:Nat}{post:Pst->Int->Prop}{v:Int}{H:ab}(s:Pst)(h0:H 0=some (.box b (kj s)))(hq:post s v):IY enc b post (.v (.int .i64 v)) H:=Dc s v (.same _) h0 hq
theorem qgw{b:Nat}{post:Pst->B->Prop}{v:B}{H:ab}(s:Pst)(h0:H 0=some (.box b (kj s)))(hq:post s v):IY enc b post (.v (.string v)) H:=Dc s v (.same _) h0 hq
@[simp] abbrev qd1(s:Pst)(z:U8×B):Option (Pst×Bool):=(TB s z.1.val z.2).map fun x=>(s,x)
abbrev qcc:Spc:=Rw (a2 U8 B) (enc (X:=Bool)) qd1
theorem qot(h1:S cw=G7):nr jt jk S (a2 U8 B) (enc (X:=Bool)) (fun s z=>∃r,qd1 s z=some r) (fun s z s' y=>qd1 s z=some (s',y)):=by
 rintro b s ⟨⟨k⟩,t⟩ ⟨r,hr⟩
 simp only[qd1,TB,qtR]at hr
 obtain⟨v,hr,rfl⟩:=hr
 split at hr
 ·rename_i he
  simp[jt,jk,h1,he]
  exact Pr s (by simp) ⟨by rw[TB,if_pos he],rfl⟩
 ·rename_i he
  have he:s.e=0:=by simpa using he
  obtain⟨x,hx,rfl⟩:=qtR.1 hr
  have hF:TB s k t=some (decide (x.kind=k/\x.text=t)):=by rw[TB,if_neg (by simp[he]),hx];rfl
  simp[jt,jk,h1,he,De he,hx]
  refine⟨fun hk=>Pr s (by simp[he]) ⟨by rw[hF];simp[hk],rfl⟩,fun hk=>Pr s (by simp[he]) ⟨by rw[hF];simp[hk],rfl⟩⟩
@[simp] abbrev Lq(s:Pst)(t:B):Option (Pst×Bool):=qf s t
abbrev Kq:Spc:=Rw (a1 B) (enc (X:=Bool)) Lq
theorem Zp{s:Pst}{k:Int}{t:B}(h:TB s k t=some true):s.e=0/\∃x,vW s=some x/\x.kind=k/\x.text=t:=by
 unfold TB at h
 split at h
 ·cases h
 ·rename_i he
  obtain⟨x,hx,h2⟩:=qtR.1 h
  simp at h2
  exact⟨by simpa using he,x,hx,h2⟩
theorem OR{s:Pst}{x:Fl}(h:vW s=some x):0<=s.pos/\s.pos < s.l.length/\s.l.length<=1000000:=by
 unfold vW at h
 split at h
 ·have:=qet h
  omega
 ·cases h
theorem qiz(h1:S gw=qcc):nr mZ lX S (a1 B) (enc (X:=Bool)) (fun s z=>∃r,Lq s z=some r) (fun s z s' y=>Lq s z=some (s',y)):=by
 rintro b s t ⟨r,hr⟩
 have hr0:=hr
 simp only[Lq,qf,qtR]at hr
 obtain⟨v,hr,rfl⟩:=hr
 simp[mZ,lX,h1,hr]
 cases v
 ·simp
  exact Pr s (by simp) (by simp[Lq,qf,hr])
 ·obtain⟨_,x,hx,_⟩:=Zp hr
  have:=OR hx
  simp
  exact⟨by simp only[InR];omega,Pr s.step (by simp[Pst.step]) (by simp[Lq,qf,hr])⟩
theorem Gf{s:Pst}{k:Int}{t:B}{x:Fl}(he:s.e=0)(hx:vW s=some x):TB s k t=some (decide (x.kind=k/\x.text=t)):=by
 rw[TB,if_neg (by simp[he]),hx];rfl
@[simp] abbrev NA(s:Pst)(z:U8×B):Option (Pst×B):=BL s z.1.val z.2
abbrev XU:Spc:=Rw (a2 U8 B) (enc (X:=B)) NA
theorem qe0(h1:S cw=G7):nr kZ kG S (a2 U8 B) (enc (X:=B)) (fun s z=>∃r,NA s z=some r) (fun s z s' y=>NA s z=some (s',y)):=by
 rintro b s ⟨⟨k⟩,t⟩ ⟨r,hr⟩
 have hr0:=hr
 simp only[NA,BL]at hr
 split at hr
 ·cases hr
 rename_i he
 have he:s.e=0:=by simpa using he
 obtain⟨x,hx,hr⟩:=qtE.1 hr
 split at hr
 ·cases hr
 rename_i hk
 cases hr
 have hk1:x.kind=k:=by by_cases h:x.kind=k;exact h;exact absurd (.inl h) hk
 have hk2:k=111->x.text=t:=fun h=>by by_cases h':x.text=t;exact h';exact absurd (.inr ⟨h,h'⟩) hk
 have hrg:=OR hx
 simp[kZ,kG,h1,he,De he,hx,hk1]
 clear h1
 have fin:∀H:ab,H 0=some (.box b (kj s.step))->IY enc b (fun s' y=>BL s k t=some (s',y)) (.v (.string x.text)) H:=fun H h=>qgw s.step h hr0
 intro b7
 exact⟨fun h=>⟨fun h'=>absurd (hk2 h) h',fun _=>⟨by simp only[InR];omega,qgw s.step (by simp[Pst.step,he]) hr0⟩⟩,fun _=>⟨by simp only[InR];omega,qgw s.step (by simp[Pst.step,he]) hr0⟩⟩
@[simp] abbrev NC(s:Pst)(_:Unit):Option (Pst×Bool):=qf s ⟨#[37,99]⟩
abbrev Ye:Spc:=Rw a0 (enc (X:=Bool)) NC
theorem qfe(h1:S dc=Kq):nr ld kI S a0 (enc (X:=Bool)) (fun s z=>∃r,NC s z=some r) (fun s z s' y=>NC s z=some (s',y)):=by
 rintro b s ⟨⟩ ⟨⟨s',v⟩,hr⟩
 simp only[NC]at hr
 simp[ld,kI,h1,hr, -Bool.forall_bool, -Bool.exists_bool]
 refine Pr s' ?_ ?_
 ·simp
 ·exact⟨rfl,rfl⟩
theorem VE{s:Pst}{x:Fl}(h:Tn s=some x):0<=s.pos/\s.pos+1 < s.l.length/\s.l.length<=1000000/\s.l[(s.pos+1).toNat]? =some x:=by
 unfold Tn at h
 split at h
 ·rename_i h0
  exact⟨h0.1,h0.2.1,h0.2.2,h⟩
 ·cases h
@[simp] abbrev SA(s:Pst)(_:Unit):Option (Pst×Fl):=(Tn s).map fun x=>(s,x)
abbrev X5:Spc:=Rw a0 (enc (X:=Fl)) SA
theorem qe4:nr lc kH S a0 (enc (X:=Fl)) (fun s z=>∃r,SA s z=some r) (fun s z s' y=>SA s z=some (s',y)):=by
 rintro b s ⟨⟩ ⟨r,hr⟩
 obtain⟨x,hx,rfl⟩:=qtR.1 hr
 obtain⟨g1,g2,g3,g4⟩:=VE hx
 have hm:min (s.pos+1) (s.l.length -1)=s.pos+1:=by omega
 simp[lc,kH,InR,hm]
 refine fun _=>⟨by omega,fun _=>⟨by omega,by omega,by omega,fun a ha=>Dc s a (.same _) (by simp) ⟨?_,rfl⟩⟩⟩
 rw[g4]at ha
 rw[<-ha,hx]
@[simp] abbrev IZ(s:Pst)(_:Unit):Option (Pst×Bool):=(Nh s).map fun v=>(s,v)
abbrev Hg:Spc:=Rw a0 (enc (X:=Bool)) IZ
theorem Xh(h1:S cw=G7)(h2:S mG=X5):nr eV eM S a0 (enc (X:=Bool)) (fun s z=>∃r,IZ s z=some r) (fun s z s' y=>IZ s z=some (s',y)):=by
 rintro b s ⟨⟩ ⟨r,hr⟩
 obtain⟨v,hv,rfl⟩:=qtR.1 hr
 have hv0:=hv
 simp only[Nh]at hv
 obtain⟨x,hx,hv⟩:=qtE.1 hv
 split at hv
 ·cases hv
 rename_i he
 have he:s.e=0:=by simpa using he
 split at hv
 ·rename_i hk
  obtain⟨n,hn,hv⟩:=qtE.1 hv
  split at hv
  ·rename_i hc
   cases hv
   simp[eV,eM,h1,h2,hx,he,De he,hk,hn,hc.1,hc.2]
   exact Pr s (by simp[he]) ⟨hv0,rfl⟩
  ·cases hv
 rename_i hk
 cases hv
 simp[eV,eM,h1,hx,he,De he,hk]
 clear h1 hr
 repeat' first|apply And.intro|intro _
 all_goals refine Pr s (by simp[he]) ⟨?_,rfl⟩
 all_goals (rw[hv0];simp[*])
end Go.Gv

namespace Go.Gv
open Cod (enc dec)
variable {S S0:Nat->Spc}
theorem qda{H:ab}{op o:Int}{n a v l lb rg:B}{f:Bool}{cd d:D}{mn mx:Int}(cks:List Cond)(ks:List Pat)(hc:FrzTo H cd (enc cks))(hd:FrzTo H d (enc ks)):
 FrzTo H (.agg [.v (.int .i64 op), .v (.int .i64 o), .v (.string n), .v (.string a), .v (.string v), .v (.string l), .v (.bool f),cd, .v (.string lb), .v (.string rg), .v (.int .i64 mn), .v (.int .i64 mx),d]) (enc (⟨op,⟨o,n,a,v,l,f,cks⟩,lb,rg,mn,mx,ks⟩:Pat)):=by
 rw[M1]
 refine .agg rfl fun k x y hx hy=>?_
 rcases k with _|_|_|_|_|_|_|_|_|_|_|_|_|k
 ·cases hx;cases hy;exact .same _
 ·cases hx;cases hy;exact .same _
 ·cases hx;cases hy;exact .same _
 ·cases hx;cases hy;exact .same _
 ·cases hx;cases hy;exact .same _
 ·cases hx;cases hy;exact .same _
 ·cases hx;cases hy;exact .same _
 ·cases hx;cases hy;exact hc
 ·cases hx;cases hy;exact .same _
 ·cases hx;cases hy;exact .same _
 ·cases hx;cases hy;exact .same _
 ·cases hx;cases hy;exact .same _
 ·cases hx;cases hy;exact hd
 ·simp at hx
theorem ZR{b:Nat}{post:Pst->Pat->Prop}{H:ab}{op o:Int}{n a v l lb rg:B}{f:Bool}{cd d:D}{mn mx:Int}(s:Pst)(cks:List Cond)(ks:List Pat)(hc:FrzTo (fun i=>if i=0 then none else H i) cd (enc cks))(hd:FrzTo (fun i=>if i=0 then none else H i) d (enc ks))
 (h0:H 0=some (.box b (kj s))) (hq:post s ⟨op,⟨o,n,a,v,l,f,cks⟩,lb,rg,mn,mx,ks⟩):
 IY enc b post (.agg [.v (.int .i64 op), .v (.int .i64 o), .v (.string n), .v (.string a), .v (.string v), .v (.string l), .v (.bool f),cd, .v (.string lb), .v (.string rg), .v (.int .i64 mn), .v (.int .i64 mx),d]) H:=
 Dc s _ (qda cks ks hc hd) h0 hq
theorem R7{s:Pst}{t:B}{r:Pst×Bool}(h:qf s t=some r):(r=(s,false)/\TB s 111 t=some false)\/(r=(s.step,true)/\TB s 111 t=some true):=by
 unfold qf at h
 obtain⟨v,hv,rfl⟩:=qtR.1 h
 cases v
 ·exact .inl ⟨rfl,hv⟩
 ·exact .inr ⟨rfl,hv⟩
theorem wy{s:Pst}{x:Fl}{t:B}(he:s.e=0)(hx:vW s=some x)(h:¬ (x.kind=111/\x.text=t)):qf s t=some (s,false):=by
 rw[qf,Gf he hx,decide_eq_false h];rfl
theorem qdp{s:Pst}{x:Fl}{t:B}(he:s.e=0)(hx:vW s=some x)(h1:x.kind=111)(h2:x.text=t):qf s t=some (s.step,true):=by
 rw[qf,Gf he hx,decide_eq_true ⟨h1,h2⟩];rfl
@[simp] abbrev NB(s:Pst)(_:Unit):Option (Pst×Pat):=Zn s
abbrev Yb:Spc:=Rw a0 (enc (X:=Pat)) NB
@[simp] abbrev UC(s:Pst)(_:Unit):Option (Pst×Pat):=qch s
abbrev qee:Spc:=Rw a0 (enc (X:=Pat)) UC
@[simp] abbrev UB(s:Pst)(_:Unit):Option (Pst×Pat):=XL s
abbrev qec:Spc:=Rw a0 (enc (X:=Pat)) UB
@[simp] abbrev UE(s:Pst)(_:Unit):Option (Pst×Pat):=qaP s
abbrev qeh:Spc:=Rw a0 (enc (X:=Pat)) UE
theorem Xc{s:Pst}{x:Fl}{k:Int}{t:B}(he:s.e=0)(hx:vW s=some x)(h1:x.kind=k)(h2:k=111->x.text=t):BL s k t=some (s.step,x.text):=by
 rw[BL,if_neg (by simp[he]),hx,qtY,if_neg (by rintro(h|h);exact h h1;exact h.2 (h2 h.1))]
theorem GO{s s':Pst}{lb:B}{y:Pat}(h:LP s lb=some (s',y)):s.e=0/\∃x,vW s=some x/\((x.kind=115/\BL s 115 ⟨#[]⟩=some (s.step,x.text)/\∃w,qf s.step ⟨#[37,99]⟩=some (s',w)/\y=⟨1,⟨2,E0,E0,x.text,E0,w, []⟩,lb,E0,0,0, []⟩)\/
 (x.kind≠115/\∃u t,BL s 111 ⟨#[91]⟩=some (u,t)/\qf u ⟨#[93]⟩=some (s',true)/\y=⟨1,⟨1,E0,E0,E0,E0,false, []⟩,lb,E0,0,0, []⟩)):=by
 unfold LP at h
 split at h
 ·cases h
 rename_i he
 have he:s.e=0:=by simpa using he
 obtain⟨x,hx,h⟩:=qtE.1 h
 refine⟨he,x,hx,?_⟩
 split at h
 ·rename_i hk
  obtain⟨⟨s2,w⟩,hf,h⟩:=qtR.1 h
  cases h
  exact .inl ⟨hk,Xc he hx hk (fun h=>absurd h (by decide)),w,hf,rfl⟩
 ·rename_i hk
  obtain⟨⟨u,t⟩,hu,h⟩:=qtE.1 h
  obtain⟨⟨s2,w⟩,hf,h⟩:=qtE.1 h
  cases w with
  | false=>simp at h
  | true=>
    simp at h
    obtain⟨rfl,rfl⟩:=h
    exact .inr ⟨hk,u,t,hu,hf,rfl⟩
set_option maxHeartbeats 1000000 in
theorem qfd(h1:S cw=G7)(h2:S dc=Kq)(h3:S mF=XU)(h4:S mI=Ye):
 nr di da S a0 (enc (X:=Pat)) (fun s z=>∃r,NB s z=some r) (fun s z s' y=>NB s z=some (s',y)):=by
 rintro b s ⟨⟩ ⟨⟨s',y⟩,hr⟩
 have hr0:=hr
 simp only[NB,Zn]at hr
 split at hr
 ·cases hr
 rename_i he
 have he:s.e=0:=by simpa using he
 obtain⟨x,hx,hr⟩:=qtE.1 hr
 split at hr
 ·cases hr
 rename_i hx1
 have n1:qf s ⟨#[40]⟩=some (s,false):=wy he hx fun h=>hx1 ⟨h.1,by rw[h.2];decide⟩
 have n2:qf s ⟨#[60]⟩=some (s,false):=wy he hx fun h=>hx1 ⟨h.1,by rw[h.2];decide⟩
 have n3:qf s ⟨#[60,47]⟩=some (s,false):=wy he hx fun h=>hx1 ⟨h.1,by rw[h.2];decide⟩
 split at hr
 ·rename_i hk
  obtain⟨⟨s1,t1⟩,hc,hr⟩:=qtE.1 hr
  simp only at hr
  have hw:=Xc (k:=110) (t:=⟨#[]⟩) he hx hk (fun h=>absurd h (by decide))
  obtain⟨he1,x1,hx1,(⟨k1,w1,w,hf,rfl⟩|⟨k1,u,t,hu,hf,rfl⟩)⟩:=GO hr
  ·simp[di,da,h1,h2,h3,h4,n1,n2,n3,he,De he,hx,hk,hw,hc,he1,De he1,hx1,k1,w1,hf, -Bool.forall_bool, -Bool.exists_bool]
   exact fun b1=>ZR s' [] [] (.nil _) (.nil _) (by simp) hr0
  ·simp[di,da,h1,h2,h3,h4,n1,n2,n3,he,De he,hx,hk,hw,hc,he1,De he1,hx1,k1,hu,hf, -Bool.forall_bool, -Bool.exists_bool]
   exact fun b1=>ZR s' [] [] (.nil _) (.nil _) (by simp) hr0
 ·rename_i hk
  obtain⟨_,x1,hx1,h⟩:=GO hr
  rw[hx]at hx1
  cases hx1
  obtain(⟨k1,w1,w,hf,rfl⟩|⟨k1,u,t,hu,hf,rfl⟩):=h
  ·simp[di,da,h1,h2,h3,h4,n1,n2,n3,he,De he,hx,k1,w1,hf, -Bool.forall_bool, -Bool.exists_bool]
   exact fun b1=>ZR s' [] [] (.nil _) (.nil _) (by simp) hr0
  ·simp[di,da,h1,h2,h3,h4,n1,n2,n3,he,De he,hx,hk,k1,hu,hf, -Bool.forall_bool, -Bool.exists_bool]
   exact fun b1=>ZR s' [] [] (.nil _) (.nil _) (by simp) hr0
set_option maxHeartbeats 1000000 in
theorem qiw(h1:S cw=G7)(h2:S dc=Kq)(h5:S mH=Yb):
 nr mX lV S a0 (enc (X:=Pat)) (fun s z=>∃r,UC s z=some r) (fun s z s' y=>UC s z=some (s',y)):=by
 rintro b s ⟨⟩ ⟨⟨s',y⟩,hr⟩
 have hr0:=hr
 simp only[UC,qch]at hr
 obtain⟨⟨s1,x1⟩,hi,hr⟩:=qtE.1 hr
 simp only at hr
 simp[mX,lV,h5,hi]
 intro b2 b3
 refine qO (X:=Nat×Pst×Pat) [0,2,3] [2] [] [] [] [] (fun z=>yi z.1 z.2.1 z.2.2=some (s',y)) (fun _=>[]) (fun z=>[(0, .box b (kj z.2.1)),(3, .box b3 (enc z.2.2).cells)]) (fun z=>z.1) (9,s1,x1) [0,3] (fun _=>rfl) (by decide) (by decide) hr (by simp) (by simp) ?_
 clear hr hi
 rintro⟨k,s,x⟩ hk
 simp only at hk
 obtain _|k:=k
 ·rw[yi]at hk;cases hk
 rw[yi]at hk
 split at hk
 ·cases hk
 rename_i he
 have he:s.e=0:=by simpa using he
 obtain⟨t,ht,hk⟩:=qtE.1 hk
 split at hk
 ·cases hk
 rename_i hno
 have n1:qf s ⟨#[63]⟩=some (s,false):=wy he ht fun h=>hno ⟨h.1, .inl h.2⟩
 have n3:qf s ⟨#[43]⟩=some (s,false):=wy he ht fun h=>hno ⟨h.1, .inr (.inl h.2)⟩
 have n4:qf s ⟨#[123]⟩=some (s,false):=wy he ht fun h=>hno ⟨h.1, .inr (.inr h.2)⟩
 split at hk
 ·rename_i hb
  have y2:=qdp he ht hb.1 hb.2
  simp[h1,h2,he,De he,ht,n1,y2, -Bool.forall_bool, -Bool.exists_bool]
  exact⟨k,s.step,⟨6,jh,E0,E0,0, -1, [x]⟩,hk,⟨.inl (.inl ⟨rfl,rfl,rfl,rfl,rfl⟩), .inl (by simp[jh,E0])⟩,by omega⟩
 ·rename_i hb
  have n2:qf s ⟨#[42]⟩=some (s,false):=wy he ht hb
  cases hk
  simp[h1,h2,he,De he,ht,n1,n2,n3,n4, -Bool.forall_bool, -Bool.exists_bool]
  exact Dc s' y (by simp) (by simp[he]) hr0
theorem qcn{op:Int}{l:List Pat}(h:l.length≠1):qem op l=⟨op,jh,E0,E0,0,0,l⟩:=by
 match l,h with
 | [],_=>rfl
 | [x],h=>exact absurd rfl h
 | x::y::l,_=>rfl
theorem qiu(h1:S jL=Hg)(h2:S nU=qee):
 nr mW lU S a0 (enc (X:=Pat)) (fun s z=>∃r,UB s z=some r) (fun s z s' y=>UB s z=some (s',y)):=by
 rintro b s ⟨⟩ ⟨⟨s',y⟩,hr⟩
 have hr0:=hr
 simp only[UB,XL]at hr
 obtain⟨⟨s1,x1⟩,hi,hr⟩:=qtE.1 hr
 obtain⟨⟨s2,l2⟩,hl,hr⟩:=qtR.1 hr
 simp only at hl hr
 cases hr
 simp[mW,lU,h2,hi]
 intro b2 v0
 refine ar (X:=Nat×Pst×Value×List Pat) [0,2] [2] (fun z=>xZ z.1 z.2.1 z.2.2.2=some (s',l2)/\z.2.2.2.length+z.1<=10) (fun z=>[(3, .own 6 z.2.2.1)]) (fun z=>[(0, .box b (kj z.2.1)),(6, .row z.2.2.1 fH 13 (z.2.2.2.map enc))]) (fun z=>z.1) (9,s1,v0, [x1]) ⟨hl,by simp⟩ (by simp) (by simp) ?_
 clear hr hl hi
 rintro⟨k,s,v,l⟩ ⟨hk,hlen⟩
 simp only at hk hlen
 obtain _|k:=k
 ·rw[xZ]at hk;cases hk
 rw[xZ]at hk
 obtain⟨v1,hb,hk⟩:=qtE.1 hk
 cases v1
 ·simp only[qul,if_false]at hk
  cases hk
  simp[h1,hb, -Bool.forall_bool, -Bool.exists_bool]
  clear h1 h2
  refine fun _=>⟨fun h1=>⟨by omega,fun a ha=>?_⟩,fun hne=>?_⟩
  ·have e:l2=[a]:=by
    match l2,h1,ha with
    | [x],_,ha=>simp at ha;rw[ha]
   rw[e]at hr0
   exact Dc s' a (by simp) (by simp) hr0
  ·rw[qcn (by omega)]at hr0
   exact ZR s' [] l2 (.nil _) (gP fH (by simp)) (by simp) hr0
 ·simp only[if_true]at hk
  obtain⟨⟨s3,x3⟩,hx,hk⟩:=qtE.1 hk
  simp only at hk
  simp[h1,hb,h2,hx, -Bool.forall_bool, -Bool.exists_bool]
  exact⟨by omega,by omega,fun v'=>⟨k,s3,v',l++ [x3],⟨hk,by simp;omega⟩,⟨rfl, .inl ⟨rfl,rfl,rfl,rfl,rfl⟩, .inl ⟨rfl,by simp⟩⟩,by omega⟩⟩
theorem qiA(h1:S dc=Kq)(h2:S nT=qec):
 nr na lY S a0 (enc (X:=Pat)) (fun s z=>∃r,UE s z=some r) (fun s z s' y=>UE s z=some (s',y)):=by
 rintro b s ⟨⟩ ⟨⟨s',y⟩,hr⟩
 have hr0:=hr
 simp only[UE,qaP]at hr
 obtain⟨⟨s1,x1⟩,hi,hr⟩:=qtE.1 hr
 simp only at hr
 obtain⟨⟨s2,w⟩,hw,hr⟩:=qtE.1 hr
 cases w with
 | true=>simp at hr
 | false=>
   simp at hr
   obtain⟨rfl,rfl⟩:=hr
   obtain⟨e,_⟩|⟨e,_⟩:=R7 hw
   ·cases e
    simp[na,lY,h2,hi]
    intro b2 v0
    refine ar (X:=Unit) [0,2,3] [0,2,6] (fun _=>True) (fun _=>[]) (fun _=>[]) (fun _=>0) () trivial (by simp) (by simp) ?_
    rintro - -
    simp[h1,hw, -Bool.forall_bool, -Bool.exists_bool]
    exact Dc s1 x1 (by simp) (by simp) hr0
   ·cases e
end Go.Gv
