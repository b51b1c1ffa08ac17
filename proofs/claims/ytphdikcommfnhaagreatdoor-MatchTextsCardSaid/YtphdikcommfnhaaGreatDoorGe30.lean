/- A part of the framework and of the walks: W154 W155 T31 C51 W130 W131 W132 C52. -/
import Derived.Test.YtphdikcommfnhaaGreatDoorGe29
import Derived.Test.YtphdikcommfnhaaGreatDoorGe26
import Derived.Test.YtphdikcommfnhaaGreatDoorGe27
import Derived.Test.YtphdikcommfnhaaGreatDoorGe20
set_option linter.unusedSimpArgs false
set_option linter.unusedVariables false
set_option linter.unusedSectionVars false
set_option maxRecDepth 100000
set_option maxHeartbeats 0

namespace Go.Gv
open Cod (enc dec)
variable {S S0:Nat->Spc}
def qhv(x:Cond×List Attr×List B):List D:=[enc x.1, .cptr [enc x.2.1] 0, .cptr [enc x.2.2] 0]
theorem VD(z z':Cond×List Attr×List B)(h:qhv z=qhv z'):z=z':=by
 obtain⟨a,s,l⟩:=z
 obtain⟨a',s',l'⟩:=z'
 unfold qhv at h
 simp only[qx0,D.cptr.injEq,and_true]at h
 rw[aK h.1,aK h.2.1,aK h.2.2]
noncomputable abbrev aVd:df (Cond×List Attr×List B):=aX qhv VD
@[simp] theorem qo6(x:Cond)(a:List Attr)(lb:List B):aVd.dec [.agg [.v (.int .i64 x.op), .v (.string x.name), .v (.string x.arg), .v (.string x.val), .v (.string x.lab), .v (.bool x.fold), .list 7 (x.kids.map enc)], .cptr [.list 2 (a.map enc)] 0, .cptr [.list 1 (lb.map enc)] 0]=some (x,a,lb):=by
 have h:=Dj qhv VD (x,a,lb)
 have e:qhv (x,a,lb)=[.agg [.v (.int .i64 x.op), .v (.string x.name), .v (.string x.arg), .v (.string x.val), .v (.string x.lab), .v (.bool x.fold), .list 7 (x.kids.map enc)], .cptr [.list 2 (a.map enc)] 0, .cptr [.list 1 (lb.map enc)] 0]:=by simp[qhv]
 rw[<-e]
 exact h
noncomputable abbrev Wf:Spc:=aI aVd (fun x=>pb x.2.1 x.2.2 x.1=true/\x.2.1.length<=1000) (enc (X:=Int)) fun _ y=>y=0
theorem xa(h1:S nV=Q6):aq gi fU S aVd (fun x=>pb x.2.1 x.2.2 x.1=true/\x.2.1.length<=1000) (enc (X:=Int)) fun _ y=>y=0:=by
 rintro⟨x,a,lb⟩ ⟨hx,hl⟩
 simp only at hx hl
 rw[Bt]
 simp[qhv,gi,fU,h1,hx,hl, -Bool.forall_bool, -Bool.exists_bool]
def qoC(n:Nat)(x:Cond×D×Unit):Prop:=∃ (a:List Attr) (lb:List B),x.2.1= .clo cg [.cptr [enc a] 0, .cptr [enc lb] 0]/\sk a lb n x.1=true/\a.length<=1000/\pF x.1<=60
noncomputable abbrev QZ(n:Nat):Spc:=aI (aE Cond (aD a0)) (qoC n) (enc (X:=Int)) fun x y=>y=0
noncomputable abbrev QY:Spc:=aI (aE Cond (aD a0)) (fun x=>∃n,qoC n x) (enc (X:=Int)) fun x y=>y=0
theorem Dv(n:Nat)(h1:S cg=Wf)(h2:S ga=QZ n):aq oO nt S (aE Cond (aD a0)) (qoC (n+1)) (enc (X:=Int)) fun x y=>y=0:=by
 rintro⟨x,d,⟨⟩⟩ ⟨a,lb,hd,hx,hl,hn⟩
 simp only at hd hx hn
 subst hd
 simp only[sk,qxH]at hx
 obtain⟨hx1,hx2⟩:=hx
 simp[oO,nt,h1,hx1,hl, -Bool.forall_bool, -Bool.exists_bool]
 intro hkl
 refine ai (X:=Unit) [1,16] [] x.kids.length (fun k _=>True) (fun _=>[]) (fun _=>[]) () (by simp) (by simp) (by omega) (by simp) (by simp) (by simp) (by simp) (by simp) ?_ ?_
 ·rintro k -hk -
  obtain⟨y,hy⟩:=yG hk
  obtain⟨_,hgy⟩:=qxz.1 hy
  have hm:=qxC hy
  have hny:=M3 hm
  have hnx:=In x
  have hp:qoC n (y, .clo cg [.cptr [.list 2 (a.map enc)] 0, .cptr [.list 1 (lb.map enc)] 0],()):=⟨a,lb,rfl,qxF.1 hx2 y hm,hl,by show pF y<=60;omega⟩
  simp[h2,hk,hy,hgy,hp, -Bool.forall_bool, -Bool.exists_bool]
 ·rintro - -
  simp[-Bool.forall_bool, -Bool.exists_bool]
abbrev PP(x:Cond×List Attr×List B):Prop:=qhN x.2.1 x.2.2 x.1=true/\x.2.1.length<=1000
abbrev Uk:Spc:=aI (a3 Cond (List Attr) (List B)) PP (enc (X:=Int)) fun _ y=>y=0
theorem zG(h1:S eA=Q3)(h2:S ga=QY):aq iU iK S (a3 Cond (List Attr) (List B)) PP (enc (X:=Int)) fun _ y=>y=0:=by
 rintro⟨x,a,lb⟩ ⟨hx,hl⟩
 simp only at hx hl
 unfold qhN at hx
 simp at hx
 obtain⟨⟨hn,hd⟩,ha⟩:=hx
 have hp:∃n,qoD n (x,0,1):=⟨mC x,qxI _,qy8 _,by show(0:Int) +pF x<=60;omega,by show(0:Int)<=1;omega,by show(1:Int) +mC x<=1000;omega,by show mC x<=60;omega⟩
 have hw:∃n,qoC n (x, .clo cg [.cptr [.list 2 (a.map enc)] 0, .cptr [.list 1 (lb.map enc)] 0],()):=⟨20,a,lb,rfl,ha,hl,hn⟩
 have q1:¬ (60:Int) < (pF x:Int):=by omega
 have q2:¬ (20:Int) < 1+ (mC x:Int) -1:=by omega
 simp[iU,iK,h1,h2,hp,hw,q1,q2, -Bool.forall_bool, -Bool.exists_bool]
end Go.Gv

namespace Go.Gv
open Cod (enc dec)
variable {S S0:Nat->Spc}
def qcA(l:List Pair)(s:Pair):Bool:=l.any fun z=>decide (z=s)
abbrev VX:Spc:=aI (a2 (List Pair) Pair) (fun _=>True) (enc (X:=Int)) fun x y=>y=fW x.1 fun z=>decide (z=x.2)
abbrev Wb:Spc:=aI (a2 (List Pair) Pair) (fun _=>True) (enc (X:=Bool)) fun x y=>y=qcA x.1 x.2
theorem N4:aq jJ jj S (a2 (List Pair) Pair) (fun _=>True) (enc (X:=Int)) fun x y=>y=fW x.1 fun z=>decide (z=x.2):=by
 rintro⟨l,s⟩ -
 simp[jJ,jj, -Bool.forall_bool, -Bool.exists_bool]
 intro _
 refine ai (X:=Unit) [0,3] [] l.length (fun k _=>∀x∈l.take k,decide (x=s)=false) (fun _=>[]) (fun _=>[]) () (by simp) (by simp) (by omega) (by simp) (by simp) (by simp) (by simp) (by simp) ?_ ?_
 ·intro k _ hk hP
  obtain⟨x,hx⟩:=yG hk
  obtain⟨_,hgx⟩:=qxz.1 hx
  simp[hk,hx,hgx, -Bool.forall_bool, -Bool.exists_bool]
  have hpe:s.nm=x.nm->s.vl=x.vl->x=s:=fun h1 h2=>by
   obtain⟨a,b⟩:=x
   obtain⟨a',b'⟩:=s
   simp only at h1 h2
   rw[h1,h2]
  refine⟨fun h1 h2=>(uR hx (by simp[hpe h1 h2]) hP).symm,fun h=>?_⟩
  rw[bc hx]
  intro z hz
  rcases qxE.1 hz with hz|hz
  ·have:=hP z hz
   simpa using this
  ·simp at hz;subst hz
   intro e
   subst e
   exact h rfl rfl
 ·intro _ hP
  simp[-Bool.forall_bool, -Bool.exists_bool]
  exact(mM (by simpa using hP)).symm
theorem HB(h1:S kR=VX):aq gd fQ S (a2 (List Pair) Pair) (fun _=>True) (enc (X:=Bool)) fun x y=>y=qcA x.1 x.2:=by
 rintro⟨l,s⟩ -
 simp[gd,fQ,h1, -Bool.forall_bool, -Bool.exists_bool]
 exact uQ _ l
def JC(x:Cond)(tok:Int)(r:Region):Bool:=decide (r.ty=x.name) && decide (r.b<=tok) && decide (tok < r.e) && (decide (x.arg=se)||qcA r.kv ⟨x.arg,x.val⟩)
def ZY(x:Cond):List D:=[.v (.int .i64 x.op), .v (.string x.name), .v (.string x.arg), .v (.string x.val), .v (.string x.lab), .v (.bool x.fold), .list 7 (x.kids.map enc)]
theorem Xp(x:Cond): .agg (ZY x)=enc x:=by simp[ZY]
theorem qgX{x y:Cond}(h:ZY x=ZY y):x=y:=aK (by rw[<-Xp,<-Xp,h])
def qeB(x:Region×Cond×Int):List D:=[enc x.1, .cptr (ZY x.2.1) 0, .cptr [enc x.2.2] 0]
theorem VE(z z':Region×Cond×Int)(h:qeB z=qeB z'):z=z':=by
 obtain⟨a,s,l⟩:=z
 obtain⟨a',s',l'⟩:=z'
 unfold qeB at h
 simp only[qx0,D.cptr.injEq,and_true]at h
 rw[aK h.1,qgX h.2.1,aK h.2.2]
noncomputable abbrev qwI:df (Region×Cond×Int):=aX qeB VE
noncomputable abbrev D5:Spc:=aI qwI (fun _=>True) (enc (X:=Bool)) fun x y=>y=JC x.2.1 x.2.2 x.1
theorem zD(h1:S gM=Wb):aq bI bF S qwI (fun _=>True) (enc (X:=Bool)) fun x y=>y=JC x.2.1 x.2.2 x.1:=by
 rintro⟨r,x,tok⟩ -
 rw[Bt]
 by_cases e1:r.ty=x.name
 rotate_left
 ·simp[qeB,ZY,bI,bF,JC,e1, -Bool.forall_bool, -Bool.exists_bool]
 by_cases e2:r.b<=tok
 rotate_left
 ·simp[qeB,ZY,bI,bF,JC,e1,e2, -Bool.forall_bool, -Bool.exists_bool]
 by_cases e3:tok < r.e
 rotate_left
 ·simp[qeB,ZY,bI,bF,JC,e1,e2,e3, -Bool.forall_bool, -Bool.exists_bool]
 by_cases e4:x.arg=se
 ·have e4':x.arg=⟨#[]⟩:=e4
  simp[qeB,ZY,bI,bF,JC,e1,e2,e3,e4,e4',se, -Bool.forall_bool, -Bool.exists_bool]
 ·have e4':¬x.arg=⟨#[]⟩:=e4
  simp[qeB,ZY,bI,bF,JC,h1,e1,e2,e3,e4,e4', -Bool.forall_bool, -Bool.exists_bool]
abbrev qbf:Spc:=aI (a3 Corpus Cond Int) (fun _=>True) (enc (X:=Bool)) fun x y=>y=x.1.regs.any (JC x.2.1 x.2.2)
theorem Cf(h0:S0 bV=D5)(h1:S bA=Yp Region S0):aq li kN S (a3 Corpus Cond Int) (fun _=>True) (enc (X:=Bool)) fun x y=>y=x.1.regs.any (JC x.2.1 x.2.2):=by
 rintro⟨c,x,tok⟩ -
 have hf:FunOn S0 (.clo bV [.cptr (ZY x) 0, .cptr [enc tok] 0]) c.regs (JC x tok):=
  wP (f:=fun r=>(r,x,tok)) h0 (fun r _=>Dj qeB VE (r,x,tok)) (fun _ _=>trivial) (fun r _ y hy=>hy)
 unfold ZY at hf
 simp[li,kN,h1, -Bool.forall_bool, -Bool.exists_bool]
 exact⟨⟨_,hf⟩,fun y hy=>hy _ hf⟩
end Go.Gv

namespace Go.Gv
open Cod (enc dec)
@[simp] theorem qt4(s:Rp):Rp.mk s.s s.pos s.fault s.e=s:=by cases s;rfl
def rM(s:Rp):List D:=[enc s.s,enc s.pos,enc s.fault,enc s.e]
@[simp] theorem qrm(s:Rp):rM s=[enc s.s,enc s.pos,enc s.fault,enc s.e]:=id rfl
section
variable {Y Z:Type}
def qjb:Lo Rp:=Id rM
def qsx(A:df Z)(er:Y->D)(pre:Rp->Z->Prop)(post:Rp->Z->Rp->Y->Prop):Spc:=qom qjb A er pre post
def qvD(er:Y->D)(pre:Rp->Z->Prop)(post:Rp->Z->Rp->Y->Prop)(id b:Nat)(r:Option Res)(o:Option Z)(H:ab)(K:D->ab->Prop):Prop:=
 ∃x,r=some (.box b (rM x))/\dT o fun z=>pre x z/\∀x' y,post x z x' y->K (er y) (ah H id (some (.box b (rM x'))))
theorem qdD{x y:Rp}(h:rM x=rM y):x=y:=by
 obtain⟨l,a,d,e⟩:=x
 obtain⟨l',a',d',e'⟩:=y
 simp only[rM,qx0]at h
 obtain⟨h1,h2,h3,h4,_⟩:=h
 have h1:=aK h1
 have h2:=aK h2
 have h3:=aK h3
 have h4:=aK h4
 subst h1;subst h2;subst h3;subst h4
 rfl
@[simp] theorem qja(A:df Z)(er:Y->D)(pre:Rp->Z->Prop)(post:Rp->Z->Rp->Y->Prop)(d i b:Nat)(ds:List D)(H:ab)(K:D->ab->Prop):(qsx A er pre post).pt d (.bptr i b 0::ds) H K=qvD er pre post i b (H i) (A.dec ds) H K:=by
 refine propext ⟨fun h=>?_,fun h=>?_⟩
 ·obtain⟨id,b',x,z,ds',h1,h2,h3,h4,h5,h6,h7⟩:=h
  cases h1
  refine⟨x,h3,?_⟩
  rw[h2]
  exact⟨h6,h7⟩
 ·obtain⟨x,h1,h2⟩:=h
  cases hz:A.dec ds with
  | none=>rw[hz]at h2;exact h2.elim
  | some z=>rw[hz]at h2;exact⟨i,b,x,z,ds,rfl,hz,h1,fun p hp=>by simp[qjb,Id]at hp,by simp[qjb,Id],h2.1,h2.2⟩
def Fc(er:Y->D)(b:Nat)(post:Rp->Y->Prop)(r:D)(H:ab):Prop:=NG qjb er b post r H
theorem EN{er:Y->D}{b:Nat}{post:Rp->Y->Prop}{r:D}{H:ab}(x:Rp)(y:Y)(hr:FrzTo (fun i=>if i=0 then none else H i) r (er y))(h0:H 0=some (.box b (rM x)))(hq:post x y):Fc er b post r H:=
 ⟨x,y,by simpa [qjb,Id]using hr,h0,fun p hp=>by simp[qjb,Id]at hp,hq⟩
def uu(cc:CC)(rs:List aj)(S:Nat->Spc)(A:df Z)(er:Y->D)(pre:Rp->Z->Prop)(post:Rp->Z->Rp->Y->Prop):Prop:=
 ∀b x z,pre x z->vc S cc (tu rs fun r H'=>Fc er b (post x z) r H') (dq (.bptr 0 b 0::A.view z)) (ah bM 0 (some (.box b (rM x))))
variable {P:Program}{S:Nat->Spc}{f:Nat}{im:List Nat}{cc:CC}{rs:List aj}{N:Nat}
theorem TL{A:df Z}{er:Y->D}{pre:Rp->Z->Prop}{post:Rp->Z->Rp->Y->Prop}(hS:∀f,Tri P f (S f).pt)(h:ak P f im cc rs N)(hN:∀z,(A.view z).length+1<=N)(hw:uu cc rs S A er pre post):Tri P f (qsx A er pre post).pt:=
 xf (by simp[qjb,Id]) hS h hN fun b x z hp=>hw b x z hp
end
section
variable {Y Z:Type}
def ZV(A:df Z)(er:Y->D)(F:Rp->Z->Option (Rp×Y)):Spc:=qsx A er (fun s z=>∃r,F s z=some r) (fun s z s' y=>F s z=some (s',y))
def qbq(er:Y->D)(F:Rp->Z->Option (Rp×Y))(id b:Nat)(r:Option Res)(o:Option Z)(H:ab)(K:D->ab->Prop):Prop:=
 ∃x,r=some (.box b (rM x))/\dT o fun z=>dT (F x z) fun q=>K (er q.2) (ah H id (some (.box b (rM q.1))))
@[congr] theorem qpq{er:Y->D}{F:Rp->Z->Option (Rp×Y)}{id b:Nat}{r r':Option Res}{o o':Option Z}{H:ab}{K:D->ab->Prop}(h1:r=r')(h2:o=o'):qbq er F id b r o H K=qbq er F id b r' o' H K:=by subst h1;subst h2;rfl
theorem qjw{F:Option (Rp×Y)}{k:Rp->Y->Prop} :((∃r,F=some r)/\∀x' y,F=some (x',y)->k x' y)=dT F fun q=>k q.1 q.2:=by
 cases F with
 | none=>
   refine propext (Iff.intro (fun h=>?_) (fun h=>?_))
   ·obtain⟨⟨r,h⟩,_⟩:=h
    cases h
   ·exact False.elim h
 | some r=>
   refine propext (Iff.intro (fun h=>h.2 _ _ rfl) (fun h=>⟨⟨_,rfl⟩,fun x' y e=>?_⟩))
   cases e
   exact h
@[simp] theorem qsv(A:df Z)(er:Y->D)(F:Rp->Z->Option (Rp×Y))(d i b:Nat)(ds:List D)(H:ab)(K:D->ab->Prop):(ZV A er F).pt d (.bptr i b 0::ds) H K=qbq er F i b (H i) (A.dec ds) H K:=by
 unfold ZV qbq
 rw[qja]
 unfold qvD
 refine propext (exists_congr fun x=>and_congr_right fun _=>?_)
 cases A.dec ds with
 | none=>exact qyB
 | some z=>exact iff_of_eq qjw
@[simp] theorem qsw(er:Y->D)(F:Rp->Z->Option (Rp×Y))(id b:Nat)(l:B)(p dp e:Int)(o:Option Z)(H:ab)(K:D->ab->Prop):
 qbq er F id b (some (.box b [.v (.string l), .v (.int .i64 p), .v (.int .i64 dp), .v (.int .i64 e)])) o H K=dT o fun z=>dT (F ⟨l,p,dp,e⟩ z) fun q=>K (er q.2) (ah H id (some (.box b (rM q.1)))):=by
 refine propext ⟨fun⟨x,h1,h2⟩=>?_,fun h=>⟨⟨l,p,dp,e⟩,rfl,h⟩⟩
 have e1:rM ⟨l,p,dp,e⟩=rM x:=by
  have:=qxO h1
  exact(Res.box.inj this).2
 have:=qdD e1
 subst this
 exact h2
variable {P:Program}{S:Nat->Spc}{f:Nat}{im:List Nat}{cc:CC}{rs:List aj}{N:Nat}
theorem ff{A:df Z}{er:Y->D}{F:Rp->Z->Option (Rp×Y)}(hS:∀f,Tri P f (S f).pt)(h:ak P f im cc rs N)(hN:∀z,(A.view z).length+1<=N)
 (hw:uu cc rs S A er (fun s z=>∃r,F s z=some r) (fun s z s' y=>F s z=some (s',y))):Tri P f (ZV A er F).pt:=TL hS h hN hw
end
end Go.Gv

namespace Go.Gv
open Go.Proofs
def fy:CC:=gq Tryz.f276 [] { ke:=[0] } _
def fh:List aj:=[.tmp 2]
theorem Ae:ak Tryz.prog bi [] fy fh 29:=fo
def jL:CC:=gq Tryz.f339 [] { bx:=[0] } _
def jl:List aj:=[]
theorem Ad:ak Tryz.prog kS [] jL jl 25:=fo
def eY:CC:=gq Tryz.f329 [] { bx:=[0] } _
def eU:List aj:=[.tmp 4, .tmp 5]
theorem uA:ak Tryz.prog dM [] eY eU 37:=fo
def gU:CC:=gq Tryz.f335 [] { bx:=[0] } _
def gE:List aj:=[.tmp 2, .tmp 3]
theorem xJ:ak Tryz.prog iM [] gU gE 27:=fo
def ym:CC:=gq Tryz.f326 [] {} _
def xj:List aj:=[.cell 4 true 5]
theorem OG:ak Tryz.prog AA [] ym xj 10:=fo
def ed:CC:=gq Tryz.f313 [2002002] { bx:=[0] } _
def dS:List aj:=[.cell 2 true 5, .tmp 3]
theorem Af:ak Tryz.prog kT [2002002] ed dS 72:=fo
def iR:CC:=gq Tryz.f327 [] { ke:=[0] } _
def iH:List aj:=[.cell 2 true 5, .tmp 3]
theorem zl:ak Tryz.prog jE [] iR iH 108:=fo
def gT:CC:=gq Tryz.f298 [] { bx:=[0] } _
def gD:List aj:=[.cell 2 true 5, .tmp 3]
theorem xI:ak Tryz.prog iL [] gT gD 54:=fo
def gV:CC:=gq Tryz.f275 [] { ke:=[0] } _
def gF:List aj:=[.cell 2 true 5, .tmp 3]
theorem xK:ak Tryz.prog iN [] gV gF 49:=fo
def iQ:CC:=gq Tryz.f255 [] { ke:=[0] } _
def iG:List aj:=[.cell 2 true 5, .tmp 3]
theorem zj:ak Tryz.prog jD [] iQ iG 44:=fo
end Go.Gv

namespace Go.Gv
open Cod (enc dec)
variable {S S0:Nat->Spc}
abbrev s_decR:Spc:=aI (a1 B) (fun s=>∃c,s.data[0]? =some c/\c.toNat < 128) (qW (Y:=I32) (Z:=Int)) fun s y=>∀c,s.data[0]? =some c->y=(⟨c.toNat⟩,1)
abbrev s_crune:Spc:=aI (a2 B I32) (fun x=>0<=x.2.val/\x.2.val < 128) (enc (X:=Bool)) fun x y=>y=qgn x.1 x.2.val
theorem A5{p:Rp}{c:Int}(h:K5 p=some c):p.s.size<=200/\((p.pos=p.s.size/\c= -1)\/(0<=p.pos/\p.pos < p.s.size/\p.pos≠p.s.size/\∃x:UInt8,p.s.data[p.pos.toNat]? =some x/\x.toNat < 128/\c=x.toNat)):=by
 unfold K5 at h
 split at h
 ·cases h
 rename_i hsz
 refine⟨by omega,?_⟩
 split at h
 ·exact .inl ⟨by assumption,(qxO h).symm⟩
 ·rename_i hne
  split at h
  ·rename_i h0
   split at h
   ·rename_i x hx
    split at h
    ·rename_i hlt
     have hx2:=(qxG.1 hx).1
     refine .inr ⟨h0,?_,hne,x,hx,hlt,(qxO h).symm⟩
     show p.pos < (p.s.data.size:Int)
     omega
    ·cases h
   ·cases h
  ·cases h
theorem qwh{s:B}{k:Nat}{x:UInt8}(h:s.data[k]? =some x):(s.extract k s.size).data[0]? =some x:=by
 obtain⟨h1,h2⟩:=qxG.1 h
 rw[ByteArray.data_extract,qzV]
 have:0 < min s.size s.data.size -k:=by
  have:s.size=s.data.size:=rfl
  omega
 rw[if_pos this,qyJ]
 exact h
abbrev uJ:Spc:=ZV a0 (enc (X:=I32)) kD
theorem NM(h1:S cS=s_decR):uu fy fh S a0 (enc (X:=I32)) (fun s z=>∃r,kD s z=some r) (fun s z s' y=>kD s z=some (s',y)):=by
 rintro b s ⟨⟩ ⟨r,hr⟩
 obtain⟨c,hc,_⟩:=qxK.1 hr
 have fin:∀ {H:ab},H 0=some (.box b (rM s))->Fc (enc (X:=I32)) b (fun s' y=>kD s ()=some (s',y)) (.v (.int .i32 c)) H:=fun h0=>EN s ⟨c⟩ (.same _) h0 (by simp[kD,hc])
 obtain⟨hsz,hc2⟩:=A5 hc
 rcases hc2 with⟨e1,rfl⟩|⟨h0,h2,h3,x,hx,hlt,rfl⟩
 ·simp[fy,fh,e1, -Bool.forall_bool, -Bool.exists_bool]
  exact fun _=>fin (by simp[e1])
 ·have hd:(s.s.data.extract s.pos.toNat s.s.size)[0]? =some x:=by rw[<-ByteArray.data_extract];exact qwh hx
  simp[fy,fh,h1,h0,h2,h3, -Bool.forall_bool, -Bool.exists_bool]
  refine fun _=>⟨by omega,⟨x,hd,hlt⟩,fun a b1 h=>?_⟩
  obtain⟨rfl,rfl⟩:=h x hd
  exact fin (by simp)
abbrev VK:Spc:=ZV a0 WX ME
theorem NL(h1:S cS=s_decR):uu jL jl S a0 WX (fun s z=>∃r,ME s z=some r) (fun s z s' y=>ME s z=some (s',y)):=by
 rintro b s ⟨⟩ ⟨r,hr⟩
 obtain⟨c,hc,h⟩:=qxx.1 hr
 split at h
 ·rename_i hc0
  have fin:∀ {H:ab},H 0=some (.box b (rM s.bump))->Fc WX b (fun s' y=>ME s ()=some (s',y)) (.tup []) H:=fun h0=>EN s.bump () (.same _) h0 (by simp[ME,hc,hc0])
  obtain⟨hsz,hc2⟩:=A5 hc
  rcases hc2 with⟨e1,rfl⟩|⟨h0,h2,h3,x,hx,hlt,rfl⟩
  ·omega
  ·have hd:(s.s.data.extract s.pos.toNat s.s.size)[0]? =some x:=by rw[<-ByteArray.data_extract];exact qwh hx
   simp[jL,jl,h1,h0,h2,h3, -Bool.forall_bool, -Bool.exists_bool]
   refine⟨by omega,⟨x,hd,hlt⟩,fun a b1 h=>?_⟩
   obtain⟨rfl,rfl⟩:=h x hd
   exact⟨by simp only[InR];omega,fin (by simp[Rp.bump])⟩
 ·cases h
abbrev qgG:(I32×Bool)->D:=qW (Y:=I32) (Z:=Bool)
abbrev Oj:Spc:=ZV (a1 B) qgG B1
theorem Dr(h1:S bi=uJ)(h2:S kS=VK):uu eY eU S (a1 B) qgG (fun s z=>∃r,B1 s z=some r) (fun s z s' y=>B1 s z=some (s',y)):=by
 rintro b s sp ⟨r,hr⟩
 obtain⟨c,hc,h⟩:=qxx.1 hr
 split at h
 ·cases h
 ·rename_i hn
  have n1:0<=c:=by omega
  have n2:c≠92:=fun e=>hn (.inr e)
  simp[eY,eU,h1,h2,kD,ME,hc,n1,n2, -Bool.forall_bool, -Bool.exists_bool]
  exact EN s.bump (⟨c⟩,true) (.same _) (by simp) (by simp[B1,hc,hn])
abbrev qaN:Spc:=ZV a0 qgG Rz
theorem IB(h1:S bi=uJ)(h2:S gL=s_crune)(h3:S dM=Oj):uu gU gE S a0 qgG (fun s z=>∃r,Rz s z=some r) (fun s z s' y=>Rz s z=some (s',y)):=by
 rintro b s ⟨⟩ ⟨r,hr⟩
 obtain⟨c,hc,h⟩:=qxx.1 hr
 split at h
 ·cases h
 ·rename_i hn
  have n1:¬c < 0:=fun e=>hn (.inl e)
  have n2:qgn Xo c=false:=by
   cases e:qgn Xo c with
   | false=>rfl
   | true=>exact absurd (.inr e) hn
  have hsz:=A5 hc
  have h128:c < 128:=by
   rcases hsz.2 with⟨_,rfl⟩|⟨_,_,_,x,_,hlt,rfl⟩ <;> omega
  have n3:qgn ⟨#[92,91,93,94,45]⟩ c=false:=n2
  have h4:B1 s ⟨#[92,91,93,94,45]⟩=some r:=h
  simp[gU,gE,h1,h2,h3,kD,hc,n1,n3,h4,h128, -Bool.forall_bool, -Bool.exists_bool]
  obtain⟨s',⟨c'⟩,t'⟩:=r
  intro n0
  refine⟨fun _=>⟨n0,EN s' (⟨c'⟩,t') (.same _) (by simp) (by simp[Rz,hc,hn,h])⟩,fun _=>EN s' (⟨c'⟩,t') (.same _) (by simp) (by simp[Rz,hc,hn,h])⟩
theorem Pe{H:ab}{op mn mx:Int}{d3 d4:D}(rs:List Rng)(ks:List Rx)(h3:FrzTo H d3 (enc rs))(h4:FrzTo H d4 (enc ks)):FrzTo H (.agg [.v (.int .i64 op), .v (.int .i64 mn), .v (.int .i64 mx),d3,d4]) (enc (Rx.mk op mn mx rs ks)):=by
 rw[qc4]
 refine .agg rfl fun k c c' hc hc'=>?_
 match k with
 | 0=>cases hc;cases hc';exact .same _
 | 1=>cases hc;cases hc';exact .same _
 | 2=>cases hc;cases hc';exact .same _
 | 3=>cases hc;cases hc';exact h3
 | 4=>cases hc;cases hc';exact h4
 | k+5=>simp at hc
abbrev qaM:Spc:=aI (a2 I32 I32) (fun _=>True) (enc (X:=Rx)) fun x y=>y=qaH x.1.val x.2.val
theorem P5:aq ym xj S (a2 I32 I32) (fun _=>True) (enc (X:=Rx)) fun x y=>y=qaH x.1.val x.2.val:=by
 rintro⟨x,y⟩ -
 simp[ym,xj,qaH]
 exact fun b=>cp (Y:=Rx) ⟨1,0,0, [⟨x,y⟩], []⟩ (Pe [⟨x,y⟩] [] (.same _) (.nil _)) rfl
end Go.Gv

namespace Go.Gv
open Cod (enc dec)
variable {S S0:Nat->Spc}
abbrev Dc:(Rx×Bool)->D:=qW (Y:=Rx) (Z:=Bool)
abbrev qaO:Spc:=ZV a0 Dc qgU
abbrev VL:Spc:=ZV a0 Dc Xv
theorem qnK{b:Nat}{post:Rp->(Rx×Bool)->Prop}{x:Rx}{v:Bool}{H:ab}(s:Rp)(h0:H 0=some (.box b (rM s)))(hq:post s (x,v)):Fc Dc b post (.tup [enc x, .v (.bool v)]) H:=EN s (x,v) (.same _) h0 hq
theorem C5{b:Nat}{post:Rp->(Rx×Bool)->Prop}{x:Rx}{v:Bool}{H:ab}(s:Rp)(h0:H 0=some (.box b (rM s)))(hq:post s (x,v)):Fc Dc b post (.tup [.agg [.v (.int .i64 x.op), .v (.int .i64 x.mn), .v (.int .i64 x.mx), .list 2 (x.rs.map enc), .list 5 (x.kids.map enc)], .v (.bool v)]) H:=by
 have e:(D.agg [.v (.int .i64 x.op), .v (.int .i64 x.mn), .v (.int .i64 x.mx), .list 2 (x.rs.map enc), .list 5 (x.kids.map enc)])=enc x:=by simp
 rw[e]
 exact qnK s h0 hq
set_option maxHeartbeats 1000000 in
theorem NN(h1:S bi=uJ)(h2:S AA=qaM)(h3:S jE=qaO)(h4:S gL=s_crune)(h5:S dM=Oj):uu ed dS S a0 Dc (fun s z=>∃r,Xv s z=some r) (fun s z s' y=>Xv s z=some (s',y)):=by
 rintro b s ⟨⟩ ⟨r,hr⟩
 have hr0:=hr
 obtain⟨c,hc,h⟩:=qxx.1 hr
 have hsz:=A5 hc
 have h128:c < 128:=by
  rcases hsz.2 with⟨_,rfl⟩|⟨_,_,_,x,_,hlt,rfl⟩ <;> omega
 split at h
 ·cases h
 rename_i e40
 split at h
 ·rename_i e46
  subst e46
  have hp:InR .i64 (s.pos+1):=by
   rcases hsz.2 with⟨_,e⟩|⟨_,_,_,x,_,hlt,e⟩
   ·cases e
   ·simp only[InR];omega
  cases h
  simp[ed,dS,h1,h2,kD,hc,hp, -Bool.forall_bool, -Bool.exists_bool]
  exact fun _=>C5 s.bump (by simp[Rp.bump]) hr0
 rename_i e46
 split at h
 ·rename_i e91
  subst e91
  obtain⟨s',x',t'⟩:=r
  simp[ed,dS,h1,h3,kD,hc,h, -Bool.forall_bool, -Bool.exists_bool]
  exact fun _=>C5 s' (by simp) hr0
 rename_i e91
 split at h
 ·cases h
 ·rename_i hn
  obtain⟨q,hq,rfl⟩:=qxK.1 h
  obtain⟨s',⟨c'⟩,t'⟩:=q
  have hq':=hq
  obtain⟨c2,hc2,h'⟩:=qxx.1 hq'
  rw[hc]at hc2
  obtain rfl:=qxO hc2
  split at h'
  ·cases h'
  rename_i hn2
  have n0:0<=c:=by omega
  have n92:c≠92:=fun e=>hn2 (.inr e)
  have nin:qgn ⟨#[92,46,91,93,40,41,123,125,124,42,43,63]⟩ c=false:=by
   cases e:qgn ⟨#[92,46,91,93,40,41,123,125,124,42,43,63]⟩ c with
   | false=>rfl
   | true=>exact absurd ⟨n92,e⟩ hn
  have hq2:B1 s ⟨#[92,46,91,93,40,41,123,125,124,42,43,63]⟩=some (s',⟨c'⟩,t'):=hq
  simp[ed,dS,h1,h2,h4,h5,kD,hc,e40,e46,e91,n0,n92,h128,nin,hq2, -Bool.forall_bool, -Bool.exists_bool]
  exact fun _=>C5 s' (by simp) hr0
abbrev qaL:Spc:=ZV a0 Dc qbv
theorem Xr{p:Rp}{c:Int}(h:K5 p=some c):c < 128/\ -1<=c/\(0<=c->InR .i64 (p.pos+1)):=by
 obtain⟨h1,h2⟩:=A5 h
 rcases h2 with⟨_,rfl⟩|⟨_,_,_,x,_,hlt,rfl⟩
 ·exact⟨by omega,by omega,fun h=>absurd h (by omega)⟩
 ·exact⟨by omega,by omega,fun _=>by simp only[InR];omega⟩
theorem Ys{c:Int}{m:Int×Int}(h:LZ c=some m):c=42/\m=(0, -1)\/c=43/\m=(1, -1)\/c=63/\m=(0,1):=by
 unfold LZ at h
 split at h
 ·exact .inl ⟨by assumption,(qxO h).symm⟩
 split at h
 ·exact .inr (.inl ⟨by assumption,(qxO h).symm⟩)
 split at h
 ·exact .inr (.inr ⟨by assumption,(qxO h).symm⟩)
 cases h
theorem MU{c:Int}(h:LZ c=none):c≠42/\c≠43/\c≠63:=by
 unfold LZ at h
 refine⟨fun e=>?_,fun e=>?_,fun e=>?_⟩ <;> (subst e;simp at h)
def xi(o:Option (Int×Int))(x:Rx):List D:=match o with
 | none=>[.v (.int .i64 x.op), .v (.int .i64 x.mn), .v (.int .i64 x.mx), .list 2 (x.rs.map enc), .list 5 (x.kids.map enc)]
 | some m=>[.v (.int .i64 4), .v (.int .i64 m.1), .v (.int .i64 m.2), .v (.slice none 0 0), .list 5 [enc x]]
theorem qnJ{b:Nat}{post:Rp->(Rx×Bool)->Prop}{m:Int×Int}{e:Rx}{H:ab}(s:Rp)(h0:H 0=some (.box b (rM s)))(hq:post s (⟨4,m.1,m.2, [], [e]⟩,true)):Fc Dc b post (.tup [.agg (xi (some m) e), .v (.bool true)]) H:=by
 refine EN s (⟨4,m.1,m.2, [], [e]⟩,true) (.tup rfl fun k c c' hc hc'=>?_) h0 hq
 match k with
 | 0=>cases hc;cases hc';exact Pe [] [e] (.nil _) (.same _)
 | 1=>cases hc;cases hc';exact .same _
 | k+2=>simp at hc
set_option maxHeartbeats 2000000 in
theorem Iz(h1:S bi=uJ)(h2:S kT=VL):uu gT gD S a0 Dc (fun s z=>∃r,qbv s z=some r) (fun s z s' y=>qbv s z=some (s',y)):=by
 rintro b s ⟨⟩ ⟨r,hr⟩
 have hr0:=hr
 obtain⟨⟨s1,e,ok⟩,ha,h⟩:=qxx.1 hr
 simp only at h
 split at h
 rotate_left
 ·cases h
 rename_i hok
 subst hok
 obtain⟨c,hc,h⟩:=qxx.1 h
 split at h
 ·cases h
 rename_i e123
 have hcc:=Xr hc
 simp[gT,gD,h2,ha, -Bool.forall_bool, -Bool.exists_bool]
 intro b2 b4
 refine av (X:=Option (Int×Int)) [0,2,4,5] [2] (fun o=>∀m,o=some m->LZ c=some m) (fun _=>[]) (fun o=>[(0, .box b (rM (match o with|none=>s1|some _=>s1.bump))),(4, .box b4 (xi o e))]) (fun o=>match o with|none=>1|some _=>0) none (fun m h=>by cases h) (by simp) (by simp[xi]) ?_
 rintro(_|m) hP
 ·cases hm:LZ c with
  | none=>
    rw[hm]at h
    cases h
    obtain⟨n1,n2,n3⟩:=MU hm
    simp[xi,h1,kD,hc,n1,n2,n3,e123, -Bool.forall_bool, -Bool.exists_bool]
    exact C5 s1 (by simp) hr0
  | some m=>
    rcases Ys hm with⟨rfl,rfl⟩|⟨rfl,rfl⟩|⟨rfl,rfl⟩
    all_goals
     have hin:=hcc.2.2 (by omega)
     simp[xi,h1,kD,hc,hin, -Bool.forall_bool, -Bool.exists_bool]
     first
      | exact⟨some (0, -1),by simp,⟨.inl ⟨rfl,rfl,rfl,rfl⟩, .inl rfl⟩,rfl⟩
      | exact⟨some (1, -1),by simp,⟨.inl ⟨rfl,rfl,rfl,rfl⟩, .inl rfl⟩,rfl⟩
      | exact⟨some (0,1),by simp,⟨.inl ⟨rfl,rfl,rfl,rfl⟩, .inl rfl⟩,rfl⟩
 ·have hm:=hP m rfl
  rw[hm]at h
  simp only at h
  obtain⟨d,hd,h⟩:=qxx.1 h
  split at h
  ·cases h
  rename_i hn
  cases h
  have hd':d≠123/\LZ d=none:=⟨fun e=>hn (.inl e),by
   cases q:LZ d with
   | none=>rfl
   | some q'=>exact absurd (.inr (by rw[q];rfl)) hn⟩
  obtain⟨n1,n2,n3⟩:=MU hd'.2
  have n4:=hd'.1
  simp[xi,h1,kD,hd,n1,n2,n3,n4, -Bool.forall_bool, -Bool.exists_bool]
  simpa [xi, -Bool.forall_bool, -Bool.exists_bool]using qnJ (e:=e) (m:=m) s1.bump (by simp) hr0
end Go.Gv

namespace Go.Gv
open Cod (enc dec)
variable {S S0:Nat->Spc}
theorem qjf{p:Rp}{q:Rp× (Rx×Bool)}(h:qbv p ()=some q):q.2.2=true:=by
 obtain⟨a,_,h⟩:=qxx.1 h
 split at h
 ·obtain⟨c,_,h⟩:=qxx.1 h
  split at h
  ·cases h
  ·split at h
   ·obtain⟨d,_,h⟩:=qxx.1 h
    split at h
    ·cases h
    ·cases h;rfl
   ·cases h;rfl
 ·cases h
theorem Rj{op:Int}{l:List Rx}(h:l.length≠1):Uz op l=⟨op,0,0, [],l⟩:=by
 match l,h with
 | [],_=>rfl
 | [e],h=>exact absurd rfl h
 | _::_::_,_=>rfl
theorem qcX{b:Nat}{post:Rp->(Rx×Bool)->Prop}{op:Int}{l:List Rx}{id el:Nat}{v:Value}{H:ab}(s:Rp)(h0:H 0=some (.box b (rM s)))(hi:id≠0)(h1:H id=some (.row v el 5 (l.map enc)))(hq:post s (⟨op,0,0, [],l⟩,true)):
 Fc Dc b post (.tup [.agg [.v (.int .i64 op), .v (.int .i64 0), .v (.int .i64 0), .v (.slice none 0 0), .own id v], .v (.bool true)]) H:=by
 refine EN s (⟨op,0,0, [],l⟩,true) (.tup rfl fun k c c' hc hc'=>?_) h0 hq
 match k with
 | 0=>
   cases hc;cases hc'
   refine Pe [] l (.nil _) (.row (el:=el) (by simp[hi];exact h1) rfl (fun d hd=>?_) (fun k c c' hc hc'=>?_))
   ·obtain⟨x,_,rfl⟩:=qxL.1 hd
    exact⟨Cod.kn x,Cod.wid x⟩
   ·rw[hc]at hc';cases hc';exact .same _
 | 1=>cases hc;cases hc';exact .same _
 | k+2=>simp at hc
abbrev qaP:Spc:=ZV a0 Dc qdE
set_option maxHeartbeats 2000000 in
theorem IC(h1:S bi=uJ)(h2:S iL=qaL):uu gV gF S a0 Dc (fun s z=>∃r,qdE s z=some r) (fun s z s' y=>qdE s z=some (s',y)):=by
 rintro b s ⟨⟩ ⟨r,hr⟩
 have hr0:=hr
 obtain⟨⟨s',l'⟩,hl,hr⟩:=qxK.1 hr
 simp only at hr
 subst hr
 obtain⟨c0,hc0⟩:∃c,K5 s=some c:=by
  rw[SK]at hl
  obtain⟨c,hc,_⟩:=qxx.1 hl
  exact⟨c,hc⟩
 simp[gV,gF,h1,kD,hc0, -Bool.forall_bool, -Bool.exists_bool]
 intro b2
 refine av (X:=Nat×Rp×Value×List Rx×Int) [0,2] [2] (fun z=>SK z.1 z.2.1 z.2.2.2.1=some (s',l')/\z.2.2.2.1.length+z.1<=100/\K5 z.2.1=some z.2.2.2.2) (fun z=>[(4, .own 36 z.2.2.1),(5, .v (.int .i32 z.2.2.2.2))]) (fun z=>[(0, .box b (rM z.2.1)),(36, .row z.2.2.1 zL 5 (z.2.2.2.1.map enc))]) (fun z=>z.1) (100,s, .slice none 0 0, [],c0) ⟨hl,by simp,hc0⟩ (by simp) (by simp[isNilRow]) ?_
 clear hl
 rintro⟨k,p,v,l,c⟩ ⟨hk,hlen,hc⟩
 simp only at hk hlen hc
 obtain _|k:=k
 ·rw[SK]at hk;cases hk
 rw[SK,hc]at hk
 simp only[qxR]at hk
 split at hk
 ·rename_i hend
  cases hk
  have hlt:(l'.length:Int)<=9223372036854775807:=by omega
  by_cases hl1:l'.length=1
  ·obtain⟨e,rfl⟩:∃e,l'=[e]:=qyY.1 hl1
   rcases hend with h|rfl|rfl
   ·have h':¬0<=c:=by omega
    simp[h', -Bool.forall_bool, -Bool.exists_bool]
    exact C5 s' (by simp) hr0
   all_goals
    simp[-Bool.forall_bool, -Bool.exists_bool]
    exact C5 s' (by simp) hr0
  ·rw[Rj hl1]at hr0
   have hl1':¬ (l'.length:Int)=1:=by omega
   rcases hend with h|rfl|rfl
   ·have h':¬0<=c:=by omega
    simp[h',hl1,hl1',hlt, -Bool.forall_bool, -Bool.exists_bool]
    exact qcX (el:=zL) s' (by simp) (by decide) (by simp) hr0
   all_goals
    simp[hl1,hl1',hlt, -Bool.forall_bool, -Bool.exists_bool]
    exact qcX (el:=zL) s' (by simp) (by decide) (by simp) hr0
 ·rename_i hgo
  obtain⟨q,hq,hk⟩:=qxx.1 hk
  split at hk
  ·cases hk
  rename_i hop
  have hok:=qjf hq
  obtain⟨p',e,ok⟩:=q
  simp only at hk hok hop
  subst hok
  have n1:0<=c:=by omega
  have n2:c≠124:=by omega
  have n3:c≠41:=by omega
  obtain⟨c1,hc1⟩:∃c,K5 p'=some c:=by
   obtain _|k:=k
   ·rw[SK]at hk;cases hk
   rw[SK]at hk
   obtain⟨c,hc,_⟩:=qxx.1 hk
   exact⟨c,hc⟩
  simp[h1,h2,kD,hc1,hq,n1,n2,n3,hop, -Bool.forall_bool, -Bool.exists_bool]
  exact⟨by omega,by omega,fun v=>⟨k,p',v,l++ [e],c1,⟨hk,by simp;omega,hc1⟩,⟨⟨rfl,rfl⟩, .inl ⟨rfl,rfl,rfl,rfl⟩, .inl ⟨rfl,by simp⟩⟩,by omega⟩⟩
theorem qkG{p:Rp}{q:Rp× (Rx×Bool)}(h:qdE p ()=some q):q.2.2=true:=by
 obtain⟨a,_,rfl⟩:=qxK.1 h
 rfl
abbrev qaK:Spc:=ZV a0 Dc qff
set_option maxHeartbeats 2000000 in
theorem Ls(h1:S bi=uJ)(h2:S iN=qaP):uu iQ iG S a0 Dc (fun s z=>∃r,qff s z=some r) (fun s z s' y=>qff s z=some (s',y)):=by
 rintro b s ⟨⟩ ⟨r,hr⟩
 have hr0:=hr
 obtain⟨⟨s',l'⟩,hl,hr⟩:=qxK.1 hr
 simp only at hr
 subst hr
 simp[iQ,iG, -Bool.forall_bool, -Bool.exists_bool]
 intro b2
 refine av (X:=Nat×Rp×Value×List Rx) [0,2] [2] (fun z=>qam z.1 z.2.1 z.2.2.2=some (s',l')/\z.2.2.2.length+z.1<=100) (fun z=>[(4, .own 25 z.2.2.1)]) (fun z=>[(0, .box b (rM z.2.1)),(25, .row z.2.2.1 zL 5 (z.2.2.2.map enc))]) (fun z=>z.1) (100,s, .slice none 0 0, []) ⟨hl,by simp⟩ (by simp) (by simp[isNilRow]) ?_
 clear hl
 rintro⟨k,p,v,l⟩ ⟨hk,hlen⟩
 simp only at hk hlen
 obtain _|k:=k
 ·rw[qam]at hk;cases hk
 rw[qam]at hk
 obtain⟨⟨p',e,ok⟩,hq,hk2⟩:=qxx.1 hk
 clear hk
 obtain⟨c,hc,hk3⟩:=qxx.1 hk2
 clear hk2
 have hok:=qkG hq
 simp only at hok hc hk3
 subst hok
 have hop:¬e.op=3:=fun h=>by rw[if_pos h]at hk3;cases hk3
 rw[if_neg hop]at hk3
 have hcc:=Xr hc
 by_cases hc124:c=124
 ·rw[if_pos hc124]at hk3
  have hk:=hk3
  subst hc124
  have hin:=hcc.2.2 (by omega)
  simp[h1,h2,kD,hc,hq,hop,hin, -Bool.forall_bool, -Bool.exists_bool]
  exact⟨by omega,by omega,fun v=>⟨k,p'.bump,v,l++ [e],⟨hk,by simp;omega⟩,⟨rfl, .inl ⟨rfl,rfl,rfl,rfl⟩, .inl ⟨rfl,by simp⟩⟩,by omega⟩⟩
 ·rw[if_neg hc124]at hk3
  cases hk3
  have hlt:((l++ [e]).length:Int)<=9223372036854775807:=by simp;omega
  have hcc':¬c=124:=hc124
  cases l with
  | nil=>
    simp[h1,h2,kD,hc,hq,hop,hcc', -Bool.forall_bool, -Bool.exists_bool]
    exact fun v=>C5 s' (by simp) hr0
  | cons x l=>
    simp[h1,h2,kD,hc,hq,hop,hcc', -Bool.forall_bool, -Bool.exists_bool]
    have hr1:=hr0
    rw[Rj (by simp)]at hr1
    exact⟨by simp at hlen;omega,by simp at hlen;omega,fun v _=>⟨fun h=>absurd h (by omega),fun _=>qcX (el:=zL) (l:=x::l++ [e]) s' (by simp) (by decide) (by simp) hr1⟩⟩
end Go.Gv

namespace Go.Gv
open Go.Proofs
def fI:CC:=gq Tryz.f350 [] {} _
def fE:List aj:=[]
theorem vB:ak Tryz.prog ee [] fI fE 14:=fo
def dF:CC:=gq Tryz.f358 [] {} _
def dx:List aj:=[]
theorem pB:ak Tryz.prog dU [] dF dx 148:=fo
def cv:CC:=gq Tryz.f360 [] {} _
def cn:List aj:=[]
theorem kQ:ak Tryz.prog cE [] cv cn 53:=fo
def qc:CC:=gq Tryz.f136 [] {} _
def pp:List aj:=[.tmp 2]
theorem FT:ak Tryz.prog rF [] qc pp 8:=fo
def mw:CC:=gq Tryz.f195 [] {} _
def lS:List aj:=[.tmp 2]
theorem CD:ak Tryz.prog nR [] mw lS 25:=fo
def lj:CC:=gq Tryz.f352 [] {} _
def kO:List aj:=[.tmp 4]
theorem BJ:ak Tryz.prog mg [] lj kO 20:=fo
def oQ:CC:=gq Tryz.f359 [] {} _
def ny:List aj:=[.tmp 2]
theorem Ew:ak Tryz.prog pT [] oQ ny 6:=fo
def oa:CC:=gq Tryz.f351 [2,3] {} _
def mY:List aj:=[.tmp 4]
theorem Ee:ak Tryz.prog cM [2,3] oa mY 10:=fo
def rN:CC:=gq Tryz.f336 [2044048] { bx:=[0] } _
def ri:List aj:=[.tmp 2]
theorem HI:ak Tryz.prog tC [2044048] rN ri 51:=fo
end Go.Gv
