/- A part of the framework and of the walks: W191 V66 C70 W194 W195. -/
import Derived.Test.YtphdikcommfnhaaGreatDoorGb44
import Derived.Test.YtphdikcommfnhaaGreatDoorGb30
import Derived.Test.YtphdikcommfnhaaGreatDoorGb37
import Derived.Test.YtphdikcommfnhaaGreatDoorGb20
import Derived.Test.YtphdikcommfnhaaGreatDoorGb40
set_option linter.unusedSimpArgs false
set_option linter.unusedVariables false
set_option linter.unusedSectionVars false
set_option maxRecDepth 100000
set_option maxHeartbeats 0

namespace Go.Gv
open Go.Proofs
open Cod (enc dec)
variable {S S0:Nat->Spc}
abbrev RG:Spc:=bp (a1 Glob) (fun g=>g=nX) (enc (X:=Bool)) fun x y=>y=true
theorem LN:ar uI un S (a1 Glob) (fun g=>g=nX) (enc (X:=Bool)) fun x y=>y=true:=by
 rintro x rfl
 simp[uI,un,nX,E0, -Bool.forall_bool]
abbrev Mw:Spc:=bp (a1 Glob) (fun g=>g=nX) (enc (X:=Bool)) fun x y=>y=true
theorem JQ(h1:S rk=RG):ar sW sq S (a1 Glob) (fun g=>g=nX) (enc (X:=Bool)) fun x y=>y=true:=by
 rintro x rfl
 simp[sW,sq,h1, -Bool.forall_bool]
abbrev RZ:Spc:=bp (aE (List Ti) (aD a0)) (fun x=>x.1=[]) (enc (X:=Int)) fun x y=>y= -1
theorem tm:ar eK eD S (aE (List Ti) (aD a0)) (fun x=>x.1=[]) (enc (X:=Int)) fun x y=>y= -1:=by
 rintro⟨l,d,⟨⟩⟩ h
 have h:l=[]:=h
 subst h
 simp[eK,eD, -Bool.forall_bool]
 refine ak (X:=Unit) [] [] 0 (fun _ _=>True) (fun _=>[]) (fun _=>[]) () (by simp) (by simp) (by omega) (by simp) (by simp) trivial (by simp) (by simp) (fun k x hk=>absurd hk (by omega)) (fun _ _=>?_)
 simp
abbrev HN:Spc:=bp (aE (List Ti) (aD a0)) (fun x=>x.1=[]) (enc (X:=Bool)) fun x y=>y=false
theorem qc(h1:S de=RZ):ar dM dG S (aE (List Ti) (aD a0)) (fun x=>x.1=[]) (enc (X:=Bool)) fun x y=>y=false:=by
 rintro⟨l,d,⟨⟩⟩ h
 have h:l=[]:=h
 subst h
 simp[dM,dG,h1, -Bool.forall_bool]
abbrev RX:Spc:=bp (a3 Glob (List Attr) (List B)) (fun x=>x.1=nX) (enc (X:=Int)) fun _ y=>y=0
abbrev Mt:Spc:=bp (a3 Glob (List Attr) (List B)) (fun x=>x.1=nX) (enc (X:=Int)) fun _ y=>y=0
structure qqK (q:Qry):Prop where
 filts:q.filts=[]
 strat:q.strat=0
 pat:qY cD q.pat=true
 size:lY q.pat<=256
 l3:(bV q.pat []).length<=3
 num:tq q.pat<=1000000
abbrev RW:Spc:=bp (a1 Qry) qqK (enc (X:=Int)) fun _ y=>y=0
theorem qez{N:Nat->Spc}(h0:N eo=Cx)(h0':N dJ=yv)(h1:S ib=Cz)(h2:S cG=rU N)(h3:S gA=Mh)(h4:S br=s_qlabels)(h5:S bi=HN):
 ar iC iv S (a1 Qry) qqK (enc (X:=Int)) fun _ y=>y=0:=by
 rintro q hq
 have f1:FunIs N (.clo eo []) (vr cD):=zn h0 fun _=>trivial
 have f2:FunIs N (.clo dJ []) xX:=zn h0' fun _=>trivial
 have hp:=hq.pat
 unfold qY at hp
 simp only[qs1]at hp
 obtain⟨⟨⟨p1,p2⟩,p3⟩,p4⟩:=hp
 have hsz:=hq.size
 have hsz2:¬256 < lY q.pat:=by omega
 have hl3:=hq.l3
 have hPb:WZ q.pat []:=by show 0+tq q.pat<=1000000;have:=hq.num;omega
 simp[iC,iv,h1,p1,p2,h2,hq.filts,hq.strat,h3,hq.pat,hsz,hsz2,h5, -Bool.forall_bool, -Bool.exists_bool]
 refine⟨⟨_,f1⟩,fun y hy=>⟨fun _=>⟨⟨_,f2⟩,fun z hz=>⟨by rw[hz _ f2,p4],fun _=>?_⟩⟩,by rw[hy _ f1,p3]⟩⟩
 simp[h4, -Bool.forall_bool, -Bool.exists_bool]
 refine .inl ⟨hPb,fun l hl _=>?_⟩
 have hl:l=bV q.pat []:=hl
 subst hl
 omega
theorem qbk:ar lN lz S (a3 Glob (List Attr) (List B)) (fun x=>x.1=nX) (enc (X:=Int)) fun _ y=>y=0:=by
 rintro⟨g,a,lb⟩ h
 have h:g=nX:=h
 subst h
 simp[lN,lz,nX, -Bool.forall_bool, -Bool.exists_bool]
theorem qeA(h1:S iP=Mt):ar nH mK S (a3 Glob (List Attr) (List B)) (fun x=>x.1=nX) (enc (X:=Int)) fun _ y=>y=0:=by
 rintro⟨g,a,lb⟩ h
 have h:g=nX:=h
 subst h
 simp[nH,mK,h1, -Bool.forall_bool, -Bool.exists_bool]
 simp[nX, -Bool.forall_bool, -Bool.exists_bool]
 refine ak (X:=Unit) [] [] 0 (fun _ _=>True) (fun _=>[]) (fun _=>[]) () (by simp) (by simp) (by omega) (by simp) (by simp) trivial (by simp) (by simp) (fun k x hk=>absurd hk (by omega)) (fun _ _=>?_)
 simp
theorem qem(h1:S ft=RW)(h2:S br=s_qlabels)(h3:S cF=s_leavesQ)(h4:S fw=RY)(h5:S bi=HN)(h6:S pA=Mw)(h7:S jS=RX):
 ar nI mL S (a2 Qry (List Attr)) (fun x=>qhz x.2 x.1) (enc (X:=Int)) fun _ y=>y=0:=by
 rintro⟨q,a⟩ hq
 have hq:qhz a q:=hq
 have hC:qqK q:=⟨hq.filts,hq.strat,hq.pat,hq.size,hq.l3,hq.num⟩
 have hPb:WZ q.pat []:=by show 0+tq q.pat<=1000000;have:=hq.num;omega
 have hlv:(bD q.pat).length<=tq q.pat:=Sk q.pat
 have hPq:qgB q.pat []:=⟨by have:=hq.num;simp;omega,fun y hy=>(hq.lv y hy).2⟩
 simp[nI,mL,h1,hC,h2, -Bool.forall_bool, -Bool.exists_bool]
 refine .inl ⟨hPb,fun l hl=>?_⟩
 have hl:l=bV q.pat []:=hl
 subst hl
 simp[h3, -Bool.forall_bool, -Bool.exists_bool]
 refine .inl ⟨hPq,?_⟩
 intro hll
 refine ak (X:=Unit) [1,2,6,20] [] (dP q.pat).length (fun _ _=>True) (fun _=>[]) (fun _=>[]) () (by simp) (by simp) (by omega) (by simp) (by simp) trivial (by simp) (by simp) ?_ ?_
 ·rintro k ⟨⟩ hk -
  obtain⟨x,hx⟩:∃x,(dP q.pat)[k]? =some x:=⟨_,qsU hk⟩
  obtain⟨_,hgx⟩:=qsT.1 hx
  have hxm:=qsW hx
  obtain⟨y,hy,rfl⟩:=qs7.1 hxm
  have hP:Tf ((BI y).cond,a,bV q.pat []):=⟨(hq.lv y hy).1,hq.att⟩
  simp[hk,hx,hgx,h4,hP, -Bool.forall_bool, -Bool.exists_bool]
  exact hP
 ·rintro⟨⟩ -
  simp[h5,h6,h7,hq.glob,hq.filts, -Bool.forall_bool, -Bool.exists_bool]
end Go.Gv

namespace Go.Gv
def qhX(s:B)(i:Nat):Option (Nat×FH):=match s.data[i]? with
 | none=>none
 | some c=>
   if YU c.toNat then some (EC s i,⟨110,s.extract i (EC s i),i⟩)
   else if 48<=c.toNat/\c.toNat<=57 then none
   else if c.toNat=34 then(R7 s (i+1) ⟨#[]⟩).map fun r=>(r.1+1,⟨115,r.2,i⟩)
   else match signsL.find? (qe6 s i)with
    | none=>none
    | some x=>some (i+x.size,⟨111,s.extract i (i+x.size),i⟩)
def Hs:Nat->B->Nat->List FH->Option (List FH)
 | 0,_,_,_=>none
 | k+1,s,i,out=>if tz s i=s.size then some (out++ [⟨101,⟨#[]⟩,s.size⟩])else(qhX s (tz s i)).bind fun r=>if r.1<=s.size/\tz s i < r.1 then Hs k s r.1 (out++ [r.2])else none
def Fn(s:B):Option (List FH):=if s.size<=100000 then Hs 100000 s 0 []else none
theorem YB{s:B}{i:Nat}(h:s.size<=i):EC s i=i:=by
 unfold EC
 rw[show s.size -i=0 by omega,qb4]
theorem K2{s:B}{i:Nat}(h:i < s.size):EC s i=if Y1 s i then EC s (i+1)else i:=by
 unfold EC
 rw[show s.size -i=(s.size - (i+1)) +1 by omega,qb4]
def TB(s:Pst):Option FH:=if 0<=s.pos/\s.pos+1 < s.l.length/\s.l.length<=1000000 then s.l[(s.pos+1).toNat]? else none
def NC(s:Pst):Option Bool:=(wy s).bind fun x=>if s.e≠0 then none else if x.kind=110 then(TB s).bind fun n=>if n.kind=111/\n.text=⟨#[58]⟩then some true else none
 else some (decide (x.kind=115\/x.kind=111/\(x.text=⟨#[91]⟩\/x.text=⟨#[60]⟩\/x.text=⟨#[60,47]⟩\/x.text=⟨#[40]⟩)))
def L2(s:Pst)(lb:B):Option (Pst×Pat):=if s.e≠0 then none else(wy s).bind fun x=>
 if x.kind=115 then(qz s.step ⟨#[37,99]⟩).map fun w=>(w.1,⟨1,⟨2,E0,E0,x.text,E0,w.2, []⟩,lb,E0,0,0, []⟩)
 else(BT s 111 ⟨#[91]⟩).bind fun u=>(qz u.1 ⟨#[93]⟩).bind fun w=>if w.2 then some (w.1,⟨1,⟨1,E0,E0,E0,E0,false, []⟩,lb,E0,0,0, []⟩)else none
def YZ(s:Pst):Option (Pst×Pat):=if s.e≠0 then none else(wy s).bind fun x=>if x.kind=111/\x.text≠ ⟨#[91]⟩then none else
 if x.kind=110 then(BT s.step 111 ⟨#[58]⟩).bind fun u=>L2 u.1 x.text else L2 s E0
def yG:Nat->Pst->Pat->Option (Pst×Pat)
 | 0,_,_=>none
 | k+1,s,x=>if s.e≠0 then none else(wy s).bind fun t=>if t.kind=111/\(t.text=⟨#[63]⟩\/t.text=⟨#[43]⟩\/t.text=⟨#[123]⟩)then none else
    if t.kind=111/\t.text=⟨#[42]⟩then yG k s.step ⟨6,kV,E0,E0,0, -1, [x]⟩else some (s,x)
def qbN(s:Pst):Option (Pst×Pat):=(YZ s).bind fun r=>yG 9 r.1 r.2
def yt:Nat->Pst->List Pat->Option (Pst×List Pat)
 | 0,_,_=>none
 | k+1,s,acc=>(NC s).bind fun b=>if b then(qbN s).bind fun r=>yt k r.1 (acc++ [r.2])else some (s,acc)
def XP(s:Pst):Option (Pst×Pat):=(qbN s).bind fun r=>(yt 9 r.1 [r.2]).map fun q=>(q.1,qdF 4 q.2)
def qar(s:Pst):Option (Pst×Pat):=(XP s).bind fun r=>(qz r.1 ⟨#[124]⟩).bind fun w=>if w.2 then none else some (w.1,r.2)
def Ei(s:B):Option Pat:=if s.size<=400 then(Fn s).bind fun l=>(qar ⟨l,0,0,0,0⟩).bind fun r=>if r.1.e≠0 then none else(wy r.1).bind fun t=>if t.kind=101 then some r.2 else none else none
def qsB:B:=⟨#[97,58,34,97,34,32,91,93,42,32,98,58,34,98,34]⟩
def De:Pat:=⟨4,kV,E0,E0,0,0, [⟨1,⟨2,E0,E0,⟨#[97]⟩,E0,false, []⟩,⟨#[97]⟩,E0,0,0, []⟩,⟨6,kV,E0,E0,0, -1, [⟨1,⟨1,E0,E0,E0,E0,false, []⟩,E0,E0,0,0, []⟩]⟩,⟨1,⟨2,E0,E0,⟨#[98]⟩,E0,false, []⟩,⟨#[98]⟩,E0,0,0, []⟩]⟩
theorem K8:Ei qsB=some De:=by kernel_rfl
end Go.Gv

namespace Go.Gv
open Go.Proofs
def qC:CC:=by refine(fun(_:G.ap (G.gn Tryz.prog Tryz.f148 [] {})=?c)=>?c) ?h;case h=>conv=>lhs; (conv=>arg 1;reduce);dsimp only[G.ap]
def qi:List aj:=[.tmp 2]
theorem F0:aq Tryz.prog nc [] qC qi 21:=ai mixed (by kernel_rfl)
def sO:CC:=by refine(fun(_:G.ap (G.gn Tryz.prog Tryz.f149 [] {})=?c)=>?c) ?h;case h=>conv=>lhs; (conv=>arg 1;reduce);dsimp only[G.ap]
def rZ:List aj:=[.tmp 2]
theorem H9:aq Tryz.prog pu [] sO rZ 9:=ai mixed (by kernel_rfl)
def wS:CC:=by refine(fun(_:G.ap (G.gn Tryz.prog Tryz.f150 [] {})=?c)=>?c) ?h;case h=>conv=>lhs; (conv=>arg 1;reduce);dsimp only[G.ap]
def vW:List aj:=[.tmp 0]
theorem MJ:aq Tryz.prog tL [] wS vW 2:=ai mixed (by kernel_rfl)
def zw:CC:=by refine(fun(_:G.ap (G.gn Tryz.prog Tryz.f95 [1036200,1074200,1083200,1121200,1147200,1192200,1200200] { cu:=[3,10] })=?c)=>?c) ?h;case h=>conv=>lhs; (conv=>arg 1;reduce);dsimp only[G.ap]
def yB:List aj:=[.tmp 2]
theorem OU:aq Tryz.prog wL [1036200,1074200,1083200,1121200,1147200,1192200,1200200] zw yB 202:=ai mixed (by kernel_rfl)
def nC:CC:=by refine(fun(_:G.ap (G.gn Tryz.prog Tryz.f105 [2002002] { ke:=[0] })=?c)=>?c) ?h;case h=>conv=>lhs; (conv=>arg 1;reduce);dsimp only[G.ap]
def mF:List aj:=[.cell 2 true 3]
theorem CO:aq Tryz.prog aK [2002002] nC mF 13:=ai mixed (by kernel_rfl)
def lJ:CC:=by refine(fun(_:G.ap (G.gn Tryz.prog Tryz.f248 [2002002] { ke:=[0] })=?c)=>?c) ?h;case h=>conv=>lhs; (conv=>arg 1;reduce);dsimp only[G.ap]
def lp:List aj:=[.cell 2 true 3]
theorem A8:aq Tryz.prog iL [2002002] lJ lp 21:=ai mixed (by kernel_rfl)
def jZ:CC:=by refine(fun(_:G.ap (G.gn Tryz.prog Tryz.f103 [] { bx:=[0] })=?c)=>?c) ?h;case h=>conv=>lhs; (conv=>arg 1;reduce);dsimp only[G.ap]
def jG:List aj:=[.tmp 6]
theorem El:aq Tryz.prog db [] jZ jG 26:=ai mixed (by kernel_rfl)
def nD:CC:=by refine(fun(_:G.ap (G.gn Tryz.prog Tryz.f97 [] { ke:=[0] })=?c)=>?c) ?h;case h=>conv=>lhs; (conv=>arg 1;reduce);dsimp only[G.ap]
def mG:List aj:=[.tmp 4]
theorem CP:aq Tryz.prog bj [] nD mG 15:=ai mixed (by kernel_rfl)
def lI:CC:=by refine(fun(_:G.ap (G.gn Tryz.prog Tryz.f102 [] { ke:=[0] })=?c)=>?c) ?h;case h=>conv=>lhs; (conv=>arg 1;reduce);dsimp only[G.ap]
def ln:List aj:=[.tmp 6]
theorem A7:aq Tryz.prog iK [] lI ln 40:=ai mixed (by kernel_rfl)
def lK:CC:=by refine(fun(_:G.ap (G.gn Tryz.prog Tryz.f252 [] { bx:=[0] })=?c)=>?c) ?h;case h=>conv=>lhs; (conv=>arg 1;reduce);dsimp only[G.ap]
def lr:List aj:=[.tmp 2]
theorem Ba:aq Tryz.prog iN [] lK lr 5:=ai mixed (by kernel_rfl)
def fB:CC:=by refine(fun(_:G.ap (G.gn Tryz.prog Tryz.f208 [] { bx:=[0] })=?c)=>?c) ?h;case h=>conv=>lhs; (conv=>arg 1;reduce);dsimp only[G.ap]
def fg:List aj:=[.tmp 2]
theorem yO:aq Tryz.prog fO [] fB fg 63:=ai mixed (by kernel_rfl)
def dA:CC:=by refine(fun(_:G.ap (G.gn Tryz.prog Tryz.f246 [] { bx:=[0] })=?c)=>?c) ?h;case h=>conv=>lhs; (conv=>arg 1;reduce);dsimp only[G.ap]
def dr:List aj:=[.cell 2 true 13]
theorem A9:aq Tryz.prog iM [] dA dr 97:=ai mixed (by kernel_rfl)
def nB:CC:=by refine(fun(_:G.ap (G.gn Tryz.prog Tryz.f207 [] { bx:=[0] })=?c)=>?c) ?h;case h=>conv=>lhs; (conv=>arg 1;reduce);dsimp only[G.ap]
def mE:List aj:=[.cell 2 true 13]
theorem CN:aq Tryz.prog jN [] nB mE 64:=ai mixed (by kernel_rfl)
def nA:CC:=by refine(fun(_:G.ap (G.gn Tryz.prog Tryz.f151 [100006,1013006] { ke:=[0] })=?c)=>?c) ?h;case h=>conv=>lhs; (conv=>arg 1;reduce);dsimp only[G.ap]
def mD:List aj:=[.cell 2 true 13]
theorem CM:aq Tryz.prog jM [100006,1013006] nA mD 22:=ai mixed (by kernel_rfl)
def nE:CC:=by refine(fun(_:G.ap (G.gn Tryz.prog Tryz.f96 [100006,1013006] { ke:=[0] })=?c)=>?c) ?h;case h=>conv=>lhs; (conv=>arg 1;reduce);dsimp only[G.ap]
def mH:List aj:=[.cell 2 true 13]
theorem CQ:aq Tryz.prog jO [100006,1013006] nE mH 22:=ai mixed (by kernel_rfl)
def lH:CC:=by refine(fun(_:G.ap (G.gn Tryz.prog Tryz.f99 [] { ke:=[0] })=?c)=>?c) ?h;case h=>conv=>lhs; (conv=>arg 1;reduce);dsimp only[G.ap]
def lm:List aj:=[.tmp 6]
theorem A6:aq Tryz.prog iJ [] lH lm 22:=ai mixed (by kernel_rfl)
def sP:CC:=by refine(fun(_:G.ap (G.gn Tryz.prog Tryz.f100 [] {})=?c)=>?c) ?h;case h=>conv=>lhs; (conv=>arg 1;reduce);dsimp only[G.ap]
def sa:List aj:=[.tmp 0]
theorem Ia:aq Tryz.prog pv [] sP sa 2:=ai mixed (by kernel_rfl)
def wT:CC:=by refine(fun(_:G.ap (G.gn Tryz.prog Tryz.f44 [2056006,2002002] { cu:=[8,18,23] })=?c)=>?c) ?h;case h=>conv=>lhs; (conv=>arg 1;reduce);dsimp only[G.ap]
def vX:List aj:=[.cell 2 true 26, .tmp 3, .tmp 4]
theorem MK:aq Tryz.prog tM [2056006,2002002] wT vX 110:=ai mixed (by kernel_rfl)
end Go.Gv

namespace Go.Gv
open Cod (enc dec)
variable {S S0:Nat->Spc}
@[simp] abbrev UM(s:Pst)(_:Unit):Option (Pst×FH):=(wy s).map fun x=>(s,x)
abbrev vj:Spc:=R9 a0 (enc (X:=FH)) UM
theorem qhM:nT nC mF S a0 (enc (X:=FH)) (fun s z=>∃r,UM s z=some r) (fun s z s' y=>UM s z=some (s',y)):=by
 rintro b s ⟨⟩ ⟨r,hr⟩
 simp only[UM,wy,qs4]at hr
 obtain⟨x,hx,rfl⟩:=hr
 split at hx
 ·rename_i h0
  obtain⟨h0,hb⟩:=h0
  have hl:=qdO hx
  obtain⟨_,hgx⟩:=qsT.1 hx
  simp[nC,mF,hx]
  exact fun _=>⟨h0,by omega,Do s x (.same _) (by simp) ⟨by rw[wy,if_pos ⟨h0,hb⟩,hx],rfl⟩⟩
 ·cases hx
theorem Dr{s:Pst}(h:s.e=0):Pst.mk s.l s.pos s.deep 0 s.fail=s:=by rw[<-h]
theorem Pz{b:Nat}{post:Pst->Bool->Prop}{v:Bool}{H:ab}(s:Pst)(h0:H 0=some (.box b (kR s)))(hq:post s v):Jw enc b post (.v (.bool v)) H:=Do s v (.same _) h0 hq
theorem qpm{b:Nat}{post:Pst->Int->Prop}{v:Int}{H:ab}(s:Pst)(h0:H 0=some (.box b (kR s)))(hq:post s v):Jw enc b post (.v (.int .i64 v)) H:=Do s v (.same _) h0 hq
theorem qfL{b:Nat}{post:Pst->B->Prop}{v:B}{H:ab}(s:Pst)(h0:H 0=some (.box b (kR s)))(hq:post s v):Jw enc b post (.v (.string v)) H:=Do s v (.same _) h0 hq
@[simp] abbrev qdr(s:Pst)(z:U8×B):Option (Pst×Bool):=(TN s z.1.val z.2).map fun x=>(s,x)
abbrev RN:Spc:=R9 (a2 U8 B) (enc (X:=Bool)) qdr
theorem qnG(h1:S aK=vj):nT jZ jG S (a2 U8 B) (enc (X:=Bool)) (fun s z=>∃r,qdr s z=some r) (fun s z s' y=>qdr s z=some (s',y)):=by
 rintro b s ⟨⟨k⟩,t⟩ ⟨r,hr⟩
 simp only[qdr,TN,qs4]at hr
 obtain⟨v,hr,rfl⟩:=hr
 split at hr
 ·rename_i he
  simp[jZ,jG,h1,he]
  exact Pz s (by simp) ⟨by rw[TN,if_pos he],rfl⟩
 ·rename_i he
  have he:s.e=0:=by simpa using he
  obtain⟨x,hx,rfl⟩:=qs4.1 hr
  have hF:TN s k t=some (decide (x.kind=k/\x.text=t)):=by rw[TN,if_neg (by simp[he]),hx];rfl
  simp[jZ,jG,h1,he,Dr he,hx]
  refine⟨fun hk=>Pz s (by simp[he]) ⟨by rw[hF];simp[hk],rfl⟩,fun hk=>Pz s (by simp[he]) ⟨by rw[hF];simp[hk],rfl⟩⟩
@[simp] abbrev LA(s:Pst)(t:B):Option (Pst×Bool):=qz s t
abbrev yx:Spc:=R9 (a1 B) (enc (X:=Bool)) LA
theorem Y2{s:Pst}{k:Int}{t:B}(h:TN s k t=some true):s.e=0/\∃x,wy s=some x/\x.kind=k/\x.text=t:=by
 unfold TN at h
 split at h
 ·cases h
 ·rename_i he
  obtain⟨x,hx,h2⟩:=qs4.1 h
  simp at h2
  exact⟨by simpa using he,x,hx,h2⟩
theorem O1{s:Pst}{x:FH}(h:wy s=some x):0<=s.pos/\s.pos < s.l.length/\s.l.length<=1000000:=by
 unfold wy at h
 split at h
 ·have:=qdO h
  omega
 ·cases h
theorem qhO(h1:S db=RN):nT nD mG S (a1 B) (enc (X:=Bool)) (fun s z=>∃r,LA s z=some r) (fun s z s' y=>LA s z=some (s',y)):=by
 rintro b s t ⟨r,hr⟩
 have hr0:=hr
 simp only[LA,qz,qs4]at hr
 obtain⟨v,hr,rfl⟩:=hr
 simp[nD,mG,h1,hr]
 cases v
 ·simp
  exact Pz s (by simp) (by simp[LA,qz,hr])
 ·obtain⟨_,x,hx,_⟩:=Y2 hr
  have:=O1 hx
  simp
  exact⟨by simp only[InR];omega,Pz s.step (by simp[Pst.step]) (by simp[LA,qz,hr])⟩
theorem GB{s:Pst}{k:Int}{t:B}{x:FH}(he:s.e=0)(hx:wy s=some x):TN s k t=some (decide (x.kind=k/\x.text=t)):=by
 rw[TN,if_neg (by simp[he]),hx];rfl
@[simp] abbrev NT(s:Pst)(z:U8×B):Option (Pst×B):=BT s z.1.val z.2
abbrev Rw:Spc:=R9 (a2 U8 B) (enc (X:=B)) NT
theorem qej(h1:S aK=vj):nT lI ln S (a2 U8 B) (enc (X:=B)) (fun s z=>∃r,NT s z=some r) (fun s z s' y=>NT s z=some (s',y)):=by
 rintro b s ⟨⟨k⟩,t⟩ ⟨r,hr⟩
 have hr0:=hr
 simp only[NT,BT]at hr
 split at hr
 ·cases hr
 rename_i he
 have he:s.e=0:=by simpa using he
 obtain⟨x,hx,hr⟩:=qsR.1 hr
 split at hr
 ·cases hr
 rename_i hk
 cases hr
 have hk1:x.kind=k:=by by_cases h:x.kind=k;exact h;exact absurd (.inl h) hk
 have hk2:k=111->x.text=t:=fun h=>by by_cases h':x.text=t;exact h';exact absurd (.inr ⟨h,h'⟩) hk
 have hrg:=O1 hx
 simp[lI,ln,h1,he,Dr he,hx,hk1]
 clear h1
 have fin:∀H:ab,H 0=some (.box b (kR s.step))->Jw enc b (fun s' y=>BT s k t=some (s',y)) (.v (.string x.text)) H:=fun H h=>qfL s.step h hr0
 intro b7
 exact⟨fun h=>⟨fun h'=>absurd (hk2 h) h',fun _=>⟨by simp only[InR];omega,qfL s.step (by simp[Pst.step,he]) hr0⟩⟩,fun _=>⟨by simp only[InR];omega,qfL s.step (by simp[Pst.step,he]) hr0⟩⟩
@[simp] abbrev NV(s:Pst)(_:Unit):Option (Pst×Bool):=qz s ⟨#[37,99]⟩
abbrev RP:Spc:=R9 a0 (enc (X:=Bool)) NV
theorem qew(h1:S bj=yx):nT lK lr S a0 (enc (X:=Bool)) (fun s z=>∃r,NV s z=some r) (fun s z s' y=>NV s z=some (s',y)):=by
 rintro b s ⟨⟩ ⟨⟨s',v⟩,hr⟩
 simp only[NV]at hr
 simp[lK,lr,h1,hr, -Bool.forall_bool, -Bool.exists_bool]
 refine Pz s' ?_ ?_
 ·simp
 ·exact⟨rfl,rfl⟩
theorem VL{s:Pst}{x:FH}(h:TB s=some x):0<=s.pos/\s.pos+1 < s.l.length/\s.l.length<=1000000/\s.l[(s.pos+1).toNat]? =some x:=by
 unfold TB at h
 split at h
 ·rename_i h0
  exact⟨h0.1,h0.2.1,h0.2.2,h⟩
 ·cases h
@[simp] abbrev Tj(s:Pst)(_:Unit):Option (Pst×FH):=(TB s).map fun x=>(s,x)
abbrev RH:Spc:=R9 a0 (enc (X:=FH)) Tj
theorem qen:nT lJ lp S a0 (enc (X:=FH)) (fun s z=>∃r,Tj s z=some r) (fun s z s' y=>Tj s z=some (s',y)):=by
 rintro b s ⟨⟩ ⟨r,hr⟩
 obtain⟨x,hx,rfl⟩:=qs4.1 hr
 obtain⟨g1,g2,g3,g4⟩:=VL hx
 have hm:min (s.pos+1) (s.l.length -1)=s.pos+1:=by omega
 simp[lJ,lp,InR,hm]
 refine fun _=>⟨by omega,fun _=>⟨by omega,by omega,by omega,fun a ha=>Do s a (.same _) (by simp) ⟨?_,rfl⟩⟩⟩
 rw[g4]at ha
 rw[<-ha,hx]
@[simp] abbrev Jy(s:Pst)(_:Unit):Option (Pst×Bool):=(NC s).map fun v=>(s,v)
abbrev AY:Spc:=R9 a0 (enc (X:=Bool)) Jy
theorem Xk(h1:S aK=vj)(h2:S iL=RH):nT fB fg S a0 (enc (X:=Bool)) (fun s z=>∃r,Jy s z=some r) (fun s z s' y=>Jy s z=some (s',y)):=by
 rintro b s ⟨⟩ ⟨r,hr⟩
 obtain⟨v,hv,rfl⟩:=qs4.1 hr
 have hv0:=hv
 simp only[NC]at hv
 obtain⟨x,hx,hv⟩:=qsR.1 hv
 split at hv
 ·cases hv
 rename_i he
 have he:s.e=0:=by simpa using he
 split at hv
 ·rename_i hk
  obtain⟨n,hn,hv⟩:=qsR.1 hv
  split at hv
  ·rename_i hc
   cases hv
   simp[fB,fg,h1,h2,hx,he,Dr he,hk,hn,hc.1,hc.2]
   exact Pz s (by simp[he]) ⟨hv0,rfl⟩
  ·cases hv
 rename_i hk
 cases hv
 simp[fB,fg,h1,hx,he,Dr he,hk]
 clear h1 hr
 repeat' first|apply And.intro|intro _
 all_goals refine Pz s (by simp[he]) ⟨?_,rfl⟩
 all_goals (rw[hv0];simp[*])
end Go.Gv

namespace Go.Gv
open Cod (enc dec)
variable {S S0:Nat->Spc}
theorem qcC{H:ab}{op o:Int}{n a v l lb rg:B}{f:Bool}{cd d:D}{mn mx:Int}(cks:List Cond)(ks:List Pat)(hc:FrzTo H cd (enc cks))(hd:FrzTo H d (enc ks)):
 FrzTo H (.agg [.v (.int .i64 op), .v (.int .i64 o), .v (.string n), .v (.string a), .v (.string v), .v (.string l), .v (.bool f),cd, .v (.string lb), .v (.string rg), .v (.int .i64 mn), .v (.int .i64 mx),d]) (enc (⟨op,⟨o,n,a,v,l,f,cks⟩,lb,rg,mn,mx,ks⟩:Pat)):=by
 rw[Nm]
 refine .agg rfl fun k x y hx hy=>?_
 rcases k with _|_|_|_|_|_|_|_|_|_|_|_|_|k
 ·cases hx;cases hy;exact .same _
 ·cases hx;cases hy;exact .same _
 ·cases hx;cases hy;exact .same _
 ·cases hx;cases hy;exact .same _
 ·cases hx;cases hy;exact .same _
 ·cases hx;cases hy;exact .same _
 ·cases hx;cases hy;exact .same _
 ·cases hx;cases hy;exact hc
 ·cases hx;cases hy;exact .same _
 ·cases hx;cases hy;exact .same _
 ·cases hx;cases hy;exact .same _
 ·cases hx;cases hy;exact .same _
 ·cases hx;cases hy;exact hd
 ·simp at hx
theorem Zt{b:Nat}{post:Pst->Pat->Prop}{H:ab}{op o:Int}{n a v l lb rg:B}{f:Bool}{cd d:D}{mn mx:Int}(s:Pst)(cks:List Cond)(ks:List Pat)(hc:FrzTo (fun i=>if i=0 then none else H i) cd (enc cks))(hd:FrzTo (fun i=>if i=0 then none else H i) d (enc ks))
 (h0:H 0=some (.box b (kR s))) (hq:post s ⟨op,⟨o,n,a,v,l,f,cks⟩,lb,rg,mn,mx,ks⟩):
 Jw enc b post (.agg [.v (.int .i64 op), .v (.int .i64 o), .v (.string n), .v (.string a), .v (.string v), .v (.string l), .v (.bool f),cd, .v (.string lb), .v (.string rg), .v (.int .i64 mn), .v (.int .i64 mx),d]) H:=
 Do s _ (qcC cks ks hc hd) h0 hq
theorem SG{s:Pst}{t:B}{r:Pst×Bool}(h:qz s t=some r):(r=(s,false)/\TN s 111 t=some false)\/(r=(s.step,true)/\TN s 111 t=some true):=by
 unfold qz at h
 obtain⟨v,hv,rfl⟩:=qs4.1 h
 cases v
 ·exact .inl ⟨rfl,hv⟩
 ·exact .inr ⟨rfl,hv⟩
theorem wQ{s:Pst}{x:FH}{t:B}(he:s.e=0)(hx:wy s=some x)(h:¬ (x.kind=111/\x.text=t)):qz s t=some (s,false):=by
 rw[qz,GB he hx,decide_eq_false h];rfl
theorem qcR{s:Pst}{x:FH}{t:B}(he:s.e=0)(hx:wy s=some x)(h1:x.kind=111)(h2:x.text=t):qz s t=some (s.step,true):=by
 rw[qz,GB he hx,decide_eq_true ⟨h1,h2⟩];rfl
@[simp] abbrev NU(s:Pst)(_:Unit):Option (Pst×Pat):=YZ s
abbrev RM:Spc:=R9 a0 (enc (X:=Pat)) NU
@[simp] abbrev UL(s:Pst)(_:Unit):Option (Pst×Pat):=qbN s
abbrev XV:Spc:=R9 a0 (enc (X:=Pat)) UL
@[simp] abbrev UK(s:Pst)(_:Unit):Option (Pst×Pat):=XP s
abbrev XT:Spc:=R9 a0 (enc (X:=Pat)) UK
@[simp] abbrev UN(s:Pst)(_:Unit):Option (Pst×Pat):=qar s
abbrev XY:Spc:=R9 a0 (enc (X:=Pat)) UN
theorem Xf{s:Pst}{x:FH}{k:Int}{t:B}(he:s.e=0)(hx:wy s=some x)(h1:x.kind=k)(h2:k=111->x.text=t):BT s k t=some (s.step,x.text):=by
 rw[BT,if_neg (by simp[he]),hx,qtb,if_neg (by rintro(h|h);exact h h1;exact h.2 (h2 h.1))]
theorem G8{s s':Pst}{lb:B}{y:Pat}(h:L2 s lb=some (s',y)):s.e=0/\∃x,wy s=some x/\((x.kind=115/\BT s 115 ⟨#[]⟩=some (s.step,x.text)/\∃w,qz s.step ⟨#[37,99]⟩=some (s',w)/\y=⟨1,⟨2,E0,E0,x.text,E0,w, []⟩,lb,E0,0,0, []⟩)\/
 (x.kind≠115/\∃u t,BT s 111 ⟨#[91]⟩=some (u,t)/\qz u ⟨#[93]⟩=some (s',true)/\y=⟨1,⟨1,E0,E0,E0,E0,false, []⟩,lb,E0,0,0, []⟩)):=by
 unfold L2 at h
 split at h
 ·cases h
 rename_i he
 have he:s.e=0:=by simpa using he
 obtain⟨x,hx,h⟩:=qsR.1 h
 refine⟨he,x,hx,?_⟩
 split at h
 ·rename_i hk
  obtain⟨⟨s2,w⟩,hf,h⟩:=qs4.1 h
  cases h
  exact .inl ⟨hk,Xf he hx hk (fun h=>absurd h (by decide)),w,hf,rfl⟩
 ·rename_i hk
  obtain⟨⟨u,t⟩,hu,h⟩:=qsR.1 h
  obtain⟨⟨s2,w⟩,hf,h⟩:=qsR.1 h
  cases w with
  | false=>simp at h
  | true=>
    simp at h
    obtain⟨rfl,rfl⟩:=h
    exact .inr ⟨hk,u,t,hu,hf,rfl⟩
set_option maxHeartbeats 1000000 in
theorem qev(h1:S aK=vj)(h2:S bj=yx)(h3:S iK=Rw)(h4:S iN=RP):
 nT dA dr S a0 (enc (X:=Pat)) (fun s z=>∃r,NU s z=some r) (fun s z s' y=>NU s z=some (s',y)):=by
 rintro b s ⟨⟩ ⟨⟨s',y⟩,hr⟩
 have hr0:=hr
 simp only[NU,YZ]at hr
 split at hr
 ·cases hr
 rename_i he
 have he:s.e=0:=by simpa using he
 obtain⟨x,hx,hr⟩:=qsR.1 hr
 split at hr
 ·cases hr
 rename_i hx1
 have n1:qz s ⟨#[40]⟩=some (s,false):=wQ he hx fun h=>hx1 ⟨h.1,by rw[h.2];decide⟩
 have n2:qz s ⟨#[60]⟩=some (s,false):=wQ he hx fun h=>hx1 ⟨h.1,by rw[h.2];decide⟩
 have n3:qz s ⟨#[60,47]⟩=some (s,false):=wQ he hx fun h=>hx1 ⟨h.1,by rw[h.2];decide⟩
 split at hr
 ·rename_i hk
  obtain⟨⟨s1,t1⟩,hc,hr⟩:=qsR.1 hr
  simp only at hr
  have hw:=Xf (k:=110) (t:=⟨#[]⟩) he hx hk (fun h=>absurd h (by decide))
  obtain⟨he1,x1,hx1,(⟨k1,w1,w,hf,rfl⟩|⟨k1,u,t,hu,hf,rfl⟩)⟩:=G8 hr
  ·simp[dA,dr,h1,h2,h3,h4,n1,n2,n3,he,Dr he,hx,hk,hw,hc,he1,Dr he1,hx1,k1,w1,hf, -Bool.forall_bool, -Bool.exists_bool]
   exact fun b1=>Zt s' [] [] (.nil _) (.nil _) (by simp) hr0
  ·simp[dA,dr,h1,h2,h3,h4,n1,n2,n3,he,Dr he,hx,hk,hw,hc,he1,Dr he1,hx1,k1,hu,hf, -Bool.forall_bool, -Bool.exists_bool]
   exact fun b1=>Zt s' [] [] (.nil _) (.nil _) (by simp) hr0
 ·rename_i hk
  obtain⟨_,x1,hx1,h⟩:=G8 hr
  rw[hx]at hx1
  cases hx1
  obtain(⟨k1,w1,w,hf,rfl⟩|⟨k1,u,t,hu,hf,rfl⟩):=h
  ·simp[dA,dr,h1,h2,h3,h4,n1,n2,n3,he,Dr he,hx,k1,w1,hf, -Bool.forall_bool, -Bool.exists_bool]
   exact fun b1=>Zt s' [] [] (.nil _) (.nil _) (by simp) hr0
  ·simp[dA,dr,h1,h2,h3,h4,n1,n2,n3,he,Dr he,hx,hk,k1,hu,hf, -Bool.forall_bool, -Bool.exists_bool]
   exact fun b1=>Zt s' [] [] (.nil _) (.nil _) (by simp) hr0
set_option maxHeartbeats 1000000 in
theorem qhL(h1:S aK=vj)(h2:S bj=yx)(h5:S iM=RM):
 nT nB mE S a0 (enc (X:=Pat)) (fun s z=>∃r,UL s z=some r) (fun s z s' y=>UL s z=some (s',y)):=by
 rintro b s ⟨⟩ ⟨⟨s',y⟩,hr⟩
 have hr0:=hr
 simp only[UL,qbN]at hr
 obtain⟨⟨s1,x1⟩,hi,hr⟩:=qsR.1 hr
 simp only at hr
 simp[nB,mE,h5,hi]
 intro b2 b3
 refine rA (X:=Nat×Pst×Pat) [0,2,3] [2] [] [] [] [] (fun z=>yG z.1 z.2.1 z.2.2=some (s',y)) (fun _=>[]) (fun z=>[(0, .box b (kR z.2.1)),(3, .box b3 (enc z.2.2).cells)]) (fun z=>z.1) (9,s1,x1) [0,3] (fun _=>rfl) (by decide) (by decide) hr (by simp) (by simp) ?_
 clear hr hi
 rintro⟨k,s,x⟩ hk
 simp only at hk
 obtain _|k:=k
 ·rw[yG]at hk;cases hk
 rw[yG]at hk
 split at hk
 ·cases hk
 rename_i he
 have he:s.e=0:=by simpa using he
 obtain⟨t,ht,hk⟩:=qsR.1 hk
 split at hk
 ·cases hk
 rename_i hno
 have n1:qz s ⟨#[63]⟩=some (s,false):=wQ he ht fun h=>hno ⟨h.1, .inl h.2⟩
 have n3:qz s ⟨#[43]⟩=some (s,false):=wQ he ht fun h=>hno ⟨h.1, .inr (.inl h.2)⟩
 have n4:qz s ⟨#[123]⟩=some (s,false):=wQ he ht fun h=>hno ⟨h.1, .inr (.inr h.2)⟩
 split at hk
 ·rename_i hb
  have y2:=qcR he ht hb.1 hb.2
  simp[h1,h2,he,Dr he,ht,n1,y2, -Bool.forall_bool, -Bool.exists_bool]
  exact⟨k,s.step,⟨6,kV,E0,E0,0, -1, [x]⟩,hk,⟨.inl (.inl ⟨rfl,rfl,rfl,rfl,rfl⟩), .inl (by simp[kV,E0])⟩,by omega⟩
 ·rename_i hb
  have n2:qz s ⟨#[42]⟩=some (s,false):=wQ he ht hb
  cases hk
  simp[h1,h2,he,Dr he,ht,n1,n2,n3,n4, -Bool.forall_bool, -Bool.exists_bool]
  exact Do s' y (by simp) (by simp[he]) hr0
theorem qbS{op:Int}{l:List Pat}(h:l.length≠1):qdF op l=⟨op,kV,E0,E0,0,0,l⟩:=by
 match l,h with
 | [],_=>rfl
 | [x],h=>exact absurd rfl h
 | x::y::l,_=>rfl
theorem qhJ(h1:S fO=AY)(h2:S jN=XV):
 nT nA mD S a0 (enc (X:=Pat)) (fun s z=>∃r,UK s z=some r) (fun s z s' y=>UK s z=some (s',y)):=by
 rintro b s ⟨⟩ ⟨⟨s',y⟩,hr⟩
 have hr0:=hr
 simp only[UK,XP]at hr
 obtain⟨⟨s1,x1⟩,hi,hr⟩:=qsR.1 hr
 obtain⟨⟨s2,l2⟩,hl,hr⟩:=qs4.1 hr
 simp only at hl hr
 cases hr
 simp[nA,mD,h2,hi]
 intro b2 v0
 refine av (X:=Nat×Pst×Value×List Pat) [0,2] [2] (fun z=>yt z.1 z.2.1 z.2.2.2=some (s',l2)/\z.2.2.2.length+z.1<=10) (fun z=>[(3, .own 6 z.2.2.1)]) (fun z=>[(0, .box b (kR z.2.1)),(6, .row z.2.2.1 gh 13 (z.2.2.2.map enc))]) (fun z=>z.1) (9,s1,v0, [x1]) ⟨hl,by simp⟩ (by simp) (by simp) ?_
 clear hr hl hi
 rintro⟨k,s,v,l⟩ ⟨hk,hlen⟩
 simp only at hk hlen
 obtain _|k:=k
 ·rw[yt]at hk;cases hk
 rw[yt]at hk
 obtain⟨v1,hb,hk⟩:=qsR.1 hk
 cases v1
 ·simp only[qtz,if_false]at hk
  cases hk
  simp[h1,hb, -Bool.forall_bool, -Bool.exists_bool]
  clear h1 h2
  refine fun _=>⟨fun h1=>⟨by omega,fun a ha=>?_⟩,fun hne=>?_⟩
  ·have e:l2=[a]:=by
    match l2,h1,ha with
    | [x],_,ha=>simp at ha;rw[ha]
   rw[e]at hr0
   exact Do s' a (by simp) (by simp) hr0
  ·rw[qbS (by omega)]at hr0
   exact Zt s' [] l2 (.nil _) (iX gh (by simp)) (by simp) hr0
 ·simp only[if_true]at hk
  obtain⟨⟨s3,x3⟩,hx,hk⟩:=qsR.1 hk
  simp only at hk
  simp[h1,hb,h2,hx, -Bool.forall_bool, -Bool.exists_bool]
  exact⟨by omega,by omega,fun v'=>⟨k,s3,v',l++ [x3],⟨hk,by simp;omega⟩,⟨rfl, .inl ⟨rfl,rfl,rfl,rfl,rfl⟩, .inl ⟨rfl,by simp⟩⟩,by omega⟩⟩
theorem qhP(h1:S bj=yx)(h2:S jM=XT):
 nT nE mH S a0 (enc (X:=Pat)) (fun s z=>∃r,UN s z=some r) (fun s z s' y=>UN s z=some (s',y)):=by
 rintro b s ⟨⟩ ⟨⟨s',y⟩,hr⟩
 have hr0:=hr
 simp only[UN,qar]at hr
 obtain⟨⟨s1,x1⟩,hi,hr⟩:=qsR.1 hr
 simp only at hr
 obtain⟨⟨s2,w⟩,hw,hr⟩:=qsR.1 hr
 cases w with
 | true=>simp at hr
 | false=>
   simp at hr
   obtain⟨rfl,rfl⟩:=hr
   obtain⟨e,_⟩|⟨e,_⟩:=SG hw
   ·cases e
    simp[nE,mH,h2,hi]
    intro b2 v0
    refine av (X:=Unit) [0,2,3] [0,2,6] (fun _=>True) (fun _=>[]) (fun _=>[]) (fun _=>0) () trivial (by simp) (by simp) ?_
    rintro - -
    simp[h1,hw, -Bool.forall_bool, -Bool.exists_bool]
    exact Do s1 x1 (by simp) (by simp) hr0
   ·cases e
end Go.Gv
