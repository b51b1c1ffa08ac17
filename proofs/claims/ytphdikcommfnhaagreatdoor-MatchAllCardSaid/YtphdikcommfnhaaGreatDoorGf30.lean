/- A part of the framework and of the walks: W155 T31 C51 W130 W131 W132 C52. -/
import Derived.Test.YtphdikcommfnhaaGreatDoorGf29
import Derived.Test.YtphdikcommfnhaaGreatDoorGf26
import Derived.Test.YtphdikcommfnhaaGreatDoorGf27
import Derived.Test.YtphdikcommfnhaaGreatDoorGf20
set_option linter.unusedSimpArgs false
set_option linter.unusedVariables false
set_option linter.unusedSectionVars false
set_option maxRecDepth 100000
set_option maxHeartbeats 0

namespace Go.Gv
open Cod (enc dec)
variable {S S0:Nat->Spc}
def qbZ(l:List Pair)(s:Pair):Bool:=l.any fun z=>decide (z=s)
abbrev Vu:Spc:=aJ (a2 (List Pair) Pair) (fun _=>True) (enc (X:=Int)) fun x y=>y=gF x.1 fun z=>decide (z=x.2)
abbrev Vy:Spc:=aJ (a2 (List Pair) Pair) (fun _=>True) (enc (X:=Bool)) fun x y=>y=qbZ x.1 x.2
theorem NJ:aq jE jd S (a2 (List Pair) Pair) (fun _=>True) (enc (X:=Int)) fun x y=>y=gF x.1 fun z=>decide (z=x.2):=by
 rintro⟨l,s⟩ -
 simp[jE,jd, -Bool.forall_bool, -Bool.exists_bool]
 intro _
 refine ai (X:=Unit) [0,3] [] l.length (fun k _=>∀x∈l.take k,decide (x=s)=false) (fun _=>[]) (fun _=>[]) () (by simp) (by simp) (by omega) (by simp) (by simp) (by simp) (by simp) (by simp) ?_ ?_
 ·intro k _ hk hP
  obtain⟨x,hx⟩:=yp hk
  obtain⟨_,hgx⟩:=qwP.1 hx
  simp[hk,hx,hgx, -Bool.forall_bool, -Bool.exists_bool]
  have hpe:s.nm=x.nm->s.vl=x.vl->x=s:=fun h1 h2=>by
   obtain⟨a,b⟩:=x
   obtain⟨a',b'⟩:=s
   simp only at h1 h2
   rw[h1,h2]
  refine⟨fun h1 h2=>(ux hx (by simp[hpe h1 h2]) hP).symm,fun h=>?_⟩
  rw[br hx]
  intro z hz
  rcases qwU.1 hz with hz|hz
  ·have:=hP z hz
   simpa using this
  ·simp at hz;subst hz
   intro e
   subst e
   exact h rfl rfl
 ·intro _ hP
  simp[-Bool.forall_bool, -Bool.exists_bool]
  exact(mB (by simpa using hP)).symm
theorem Hh(h1:S kJ=Vu):aq fZ fO S (a2 (List Pair) Pair) (fun _=>True) (enc (X:=Bool)) fun x y=>y=qbZ x.1 x.2:=by
 rintro⟨l,s⟩ -
 simp[fZ,fO,h1, -Bool.forall_bool, -Bool.exists_bool]
 exact uw _ l
def Ji(x:Cond)(tok:Int)(r:Region):Bool:=decide (r.ty=x.name) && decide (r.b<=tok) && decide (tok < r.e) && (decide (x.arg=rO)||qbZ r.kv ⟨x.arg,x.val⟩)
def Zu(x:Cond):List D:=[.v (.int .i64 x.op), .v (.string x.name), .v (.string x.arg), .v (.string x.val), .v (.string x.lab), .v (.bool x.fold), .list 7 (x.kids.map enc)]
theorem WL(x:Cond): .agg (Zu x)=enc x:=by simp[Zu]
theorem qgg{x y:Cond}(h:Zu x=Zu y):x=y:=aK (by rw[<-WL,<-WL,h])
def qdW(x:Region×Cond×Int):List D:=[enc x.1, .cptr (Zu x.2.1) 0, .cptr [enc x.2.2] 0]
theorem Vf(z z':Region×Cond×Int)(h:qdW z=qdW z'):z=z':=by
 obtain⟨a,s,l⟩:=z
 obtain⟨a',s',l'⟩:=z'
 unfold qdW at h
 simp only[qxg,D.cptr.injEq,and_true]at h
 rw[aK h.1,qgg h.2.1,aK h.2.2]
noncomputable abbrev qvZ:de (Region×Cond×Int):=aX qdW Vf
noncomputable abbrev DP:Spc:=aJ qvZ (fun _=>True) (enc (X:=Bool)) fun x y=>y=Ji x.2.1 x.2.2 x.1
theorem zi(h1:S gI=Vy):aq bG bD S qvZ (fun _=>True) (enc (X:=Bool)) fun x y=>y=Ji x.2.1 x.2.2 x.1:=by
 rintro⟨r,x,tok⟩ -
 rw[Be]
 by_cases e1:r.ty=x.name
 rotate_left
 ·simp[qdW,Zu,bG,bD,Ji,e1, -Bool.forall_bool, -Bool.exists_bool]
 by_cases e2:r.b<=tok
 rotate_left
 ·simp[qdW,Zu,bG,bD,Ji,e1,e2, -Bool.forall_bool, -Bool.exists_bool]
 by_cases e3:tok < r.e
 rotate_left
 ·simp[qdW,Zu,bG,bD,Ji,e1,e2,e3, -Bool.forall_bool, -Bool.exists_bool]
 by_cases e4:x.arg=rO
 ·have e4':x.arg=⟨#[]⟩:=e4
  simp[qdW,Zu,bG,bD,Ji,e1,e2,e3,e4,e4',rO, -Bool.forall_bool, -Bool.exists_bool]
 ·have e4':¬x.arg=⟨#[]⟩:=e4
  simp[qdW,Zu,bG,bD,Ji,h1,e1,e2,e3,e4,e4', -Bool.forall_bool, -Bool.exists_bool]
abbrev qaG:Spc:=aJ (a3 Corpus Cond Int) (fun _=>True) (enc (X:=Bool)) fun x y=>y=x.1.regs.any (Ji x.2.1 x.2.2)
theorem BX(h0:S0 bS=DP)(h1:S bz=XW Region S0):aq kU kG S (a3 Corpus Cond Int) (fun _=>True) (enc (X:=Bool)) fun x y=>y=x.1.regs.any (Ji x.2.1 x.2.2):=by
 rintro⟨c,x,tok⟩ -
 have hf:FunOn S0 (.clo bS [.cptr (Zu x) 0, .cptr [enc tok] 0]) c.regs (Ji x tok):=
  wt (f:=fun r=>(r,x,tok)) h0 (fun r _=>C3 qdW Vf (r,x,tok)) (fun _ _=>trivial) (fun r _ y hy=>hy)
 unfold Zu at hf
 simp[kU,kG,h1, -Bool.forall_bool, -Bool.exists_bool]
 exact⟨⟨_,hf⟩,fun y hy=>hy _ hf⟩
end Go.Gv

namespace Go.Gv
open Cod (enc dec)
@[simp] theorem qtm(s:Rp):Rp.mk s.s s.pos s.fault s.e=s:=by cases s;rfl
def rv(s:Rp):List D:=[enc s.s,enc s.pos,enc s.fault,enc s.e]
@[simp] theorem qqE(s:Rp):rv s=[enc s.s,enc s.pos,enc s.fault,enc s.e]:=id rfl
section
variable {Y Z:Type}
def qiv:K5 Rp:=HR rv
def qrP(A:de Z)(er:Y->D)(pre:Rp->Z->Prop)(post:Rp->Z->Rp->Y->Prop):Spc:=qnG qiv A er pre post
def quV(er:Y->D)(pre:Rp->Z->Prop)(post:Rp->Z->Rp->Y->Prop)(id b:Nat)(r:Option Res)(o:Option Z)(H:ab)(K:D->ab->Prop):Prop:=
 ∃x,r=some (.box b (rv x))/\dS o fun z=>pre x z/\∀x' y,post x z x' y->K (er y) (ah H id (some (.box b (rv x'))))
theorem qc0{x y:Rp}(h:rv x=rv y):x=y:=by
 obtain⟨l,a,d,e⟩:=x
 obtain⟨l',a',d',e'⟩:=y
 simp only[rv,qxg]at h
 obtain⟨h1,h2,h3,h4,_⟩:=h
 have h1:=aK h1
 have h2:=aK h2
 have h3:=aK h3
 have h4:=aK h4
 subst h1;subst h2;subst h3;subst h4
 rfl
@[simp] theorem qiu(A:de Z)(er:Y->D)(pre:Rp->Z->Prop)(post:Rp->Z->Rp->Y->Prop)(d i b:Nat)(ds:List D)(H:ab)(K:D->ab->Prop):(qrP A er pre post).pt d (.bptr i b 0::ds) H K=quV er pre post i b (H i) (A.dec ds) H K:=by
 refine propext ⟨fun h=>?_,fun h=>?_⟩
 ·obtain⟨id,b',x,z,ds',h1,h2,h3,h4,h5,h6,h7⟩:=h
  cases h1
  refine⟨x,h3,?_⟩
  rw[h2]
  exact⟨h6,h7⟩
 ·obtain⟨x,h1,h2⟩:=h
  cases hz:A.dec ds with
  | none=>rw[hz]at h2;exact h2.elim
  | some z=>rw[hz]at h2;exact⟨i,b,x,z,ds,rfl,hz,h1,fun p hp=>by simp[qiv,HR]at hp,by simp[qiv,HR],h2.1,h2.2⟩
def EQ(er:Y->D)(b:Nat)(post:Rp->Y->Prop)(r:D)(H:ab):Prop:=Nn qiv er b post r H
theorem Ev{er:Y->D}{b:Nat}{post:Rp->Y->Prop}{r:D}{H:ab}(x:Rp)(y:Y)(hr:FrzTo (fun i=>if i=0 then none else H i) r (er y))(h0:H 0=some (.box b (rv x)))(hq:post x y):EQ er b post r H:=
 ⟨x,y,by simpa [qiv,HR]using hr,h0,fun p hp=>by simp[qiv,HR]at hp,hq⟩
def tZ(cc:CC)(rs:List aj)(S:Nat->Spc)(A:de Z)(er:Y->D)(pre:Rp->Z->Prop)(post:Rp->Z->Rp->Y->Prop):Prop:=
 ∀b x z,pre x z->vc S cc (tc rs fun r H'=>EQ er b (post x z) r H') (dm (.bptr 0 b 0::A.view z)) (ah bJ 0 (some (.box b (rv x))))
variable {P:Program}{S:Nat->Spc}{f:Nat}{im:List Nat}{cc:CC}{rs:List aj}{N:Nat}
theorem Tv{A:de Z}{er:Y->D}{pre:Rp->Z->Prop}{post:Rp->Z->Rp->Y->Prop}(hS:∀f,Tri P f (S f).pt)(h:ak P f im cc rs N)(hN:∀z,(A.view z).length+1<=N)(hw:tZ cc rs S A er pre post):Tri P f (qrP A er pre post).pt:=
 wN (by simp[qiv,HR]) hS h hN fun b x z hp=>hw b x z hp
end
section
variable {Y Z:Type}
def Zr(A:de Z)(er:Y->D)(F:Rp->Z->Option (Rp×Y)):Spc:=qrP A er (fun s z=>∃r,F s z=some r) (fun s z s' y=>F s z=some (s',y))
def qaR(er:Y->D)(F:Rp->Z->Option (Rp×Y))(id b:Nat)(r:Option Res)(o:Option Z)(H:ab)(K:D->ab->Prop):Prop:=
 ∃x,r=some (.box b (rv x))/\dS o fun z=>dS (F x z) fun q=>K (er q.2) (ah H id (some (.box b (rv q.1))))
@[congr] theorem qoI{er:Y->D}{F:Rp->Z->Option (Rp×Y)}{id b:Nat}{r r':Option Res}{o o':Option Z}{H:ab}{K:D->ab->Prop}(h1:r=r')(h2:o=o'):qaR er F id b r o H K=qaR er F id b r' o' H K:=by subst h1;subst h2;rfl
theorem qiQ{F:Option (Rp×Y)}{k:Rp->Y->Prop} :((∃r,F=some r)/\∀x' y,F=some (x',y)->k x' y)=dS F fun q=>k q.1 q.2:=by
 cases F with
 | none=>
   refine propext (Iff.intro (fun h=>?_) (fun h=>?_))
   ·obtain⟨⟨r,h⟩,_⟩:=h
    cases h
   ·exact False.elim h
 | some r=>
   refine propext (Iff.intro (fun h=>h.2 _ _ rfl) (fun h=>⟨⟨_,rfl⟩,fun x' y e=>?_⟩))
   cases e
   exact h
@[simp] theorem qrN(A:de Z)(er:Y->D)(F:Rp->Z->Option (Rp×Y))(d i b:Nat)(ds:List D)(H:ab)(K:D->ab->Prop):(Zr A er F).pt d (.bptr i b 0::ds) H K=qaR er F i b (H i) (A.dec ds) H K:=by
 unfold Zr qaR
 rw[qiu]
 unfold quV
 refine propext (exists_congr fun x=>and_congr_right fun _=>?_)
 cases A.dec ds with
 | none=>exact qxR
 | some z=>exact iff_of_eq qiQ
@[simp] theorem qrO(er:Y->D)(F:Rp->Z->Option (Rp×Y))(id b:Nat)(l:B)(p dp e:Int)(o:Option Z)(H:ab)(K:D->ab->Prop):
 qaR er F id b (some (.box b [.v (.string l), .v (.int .i64 p), .v (.int .i64 dp), .v (.int .i64 e)])) o H K=dS o fun z=>dS (F ⟨l,p,dp,e⟩ z) fun q=>K (er q.2) (ah H id (some (.box b (rv q.1)))):=by
 refine propext ⟨fun⟨x,h1,h2⟩=>?_,fun h=>⟨⟨l,p,dp,e⟩,rfl,h⟩⟩
 have e1:rv ⟨l,p,dp,e⟩=rv x:=by
  have:=qw4 h1
  exact(Res.box.inj this).2
 have:=qc0 e1
 subst this
 exact h2
variable {P:Program}{S:Nat->Spc}{f:Nat}{im:List Nat}{cc:CC}{rs:List aj}{N:Nat}
theorem fe{A:de Z}{er:Y->D}{F:Rp->Z->Option (Rp×Y)}(hS:∀f,Tri P f (S f).pt)(h:ak P f im cc rs N)(hN:∀z,(A.view z).length+1<=N)
 (hw:tZ cc rs S A er (fun s z=>∃r,F s z=some r) (fun s z s' y=>F s z=some (s',y))):Tri P f (Zr A er F).pt:=Tv hS h hN hw
end
end Go.Gv

namespace Go.Gv
open Go.Proofs
def fw:CC:=gq Tryz.f276 [] { ke:=[0] } _
def fg:List aj:=[.tmp 2]
theorem zO:ak Tryz.prog bc [] fw fg 29:=fo
def jG:CC:=gq Tryz.f339 [] { bx:=[0] } _
def jg:List aj:=[]
theorem zN:ak Tryz.prog kK [] jG jg 25:=fo
def eX:CC:=gq Tryz.f329 [] { bx:=[0] } _
def eT:List aj:=[.tmp 4, .tmp 5]
theorem uf:ak Tryz.prog dK [] eX eT 37:=fo
def gQ:CC:=gq Tryz.f335 [] { bx:=[0] } _
def gz:List aj:=[.tmp 2, .tmp 3]
theorem xn:ak Tryz.prog iG [] gQ gz 27:=fo
def xX:CC:=gq Tryz.f326 [] {} _
def wR:List aj:=[.cell 4 true 5]
theorem Ok:ak Tryz.prog Ak [] xX wR 10:=fo
def eb:CC:=gq Tryz.f313 [2002002] { bx:=[0] } _
def dR:List aj:=[.cell 2 true 5, .tmp 3]
theorem zP:ak Tryz.prog kL [2002002] eb dR 72:=fo
def iL:CC:=gq Tryz.f327 [] { ke:=[0] } _
def iB:List aj:=[.cell 2 true 5, .tmp 3]
theorem yQ:ak Tryz.prog jz [] iL iB 108:=fo
def gP:CC:=gq Tryz.f298 [] { bx:=[0] } _
def gy:List aj:=[.cell 2 true 5, .tmp 3]
theorem xm:ak Tryz.prog iF [] gP gy 54:=fo
def gR:CC:=gq Tryz.f275 [] { ke:=[0] } _
def gA:List aj:=[.cell 2 true 5, .tmp 3]
theorem xo:ak Tryz.prog iH [] gR gA 49:=fo
def iK:CC:=gq Tryz.f255 [] { ke:=[0] } _
def iA:List aj:=[.cell 2 true 5, .tmp 3]
theorem yP:ak Tryz.prog jy [] iK iA 44:=fo
end Go.Gv

namespace Go.Gv
open Cod (enc dec)
variable {S S0:Nat->Spc}
abbrev s_decR:Spc:=aJ (a1 B) (fun s=>∃c,s.data[0]? =some c/\c.toNat < 128) (ww (Y:=I32) (Z:=Int)) fun s y=>∀c,s.data[0]? =some c->y=(⟨c.toNat⟩,1)
abbrev s_crune:Spc:=aJ (a2 B I32) (fun x=>0<=x.2.val/\x.2.val < 128) (enc (X:=Bool)) fun x y=>y=qfG x.1 x.2.val
theorem AQ{p:Rp}{c:Int}(h:KM p=some c):p.s.size<=200/\((p.pos=p.s.size/\c= -1)\/(0<=p.pos/\p.pos < p.s.size/\p.pos≠p.s.size/\∃x:UInt8,p.s.data[p.pos.toNat]? =some x/\x.toNat < 128/\c=x.toNat)):=by
 unfold KM at h
 split at h
 ·cases h
 rename_i hsz
 refine⟨by omega,?_⟩
 split at h
 ·exact .inl ⟨by assumption,(qw4 h).symm⟩
 ·rename_i hne
  split at h
  ·rename_i h0
   split at h
   ·rename_i x hx
    split at h
    ·rename_i hlt
     have hx2:=(qwW.1 hx).1
     refine .inr ⟨h0,?_,hne,x,hx,hlt,(qw4 h).symm⟩
     show p.pos < (p.s.data.size:Int)
     omega
    ·cases h
   ·cases h
  ·cases h
theorem qvy{s:B}{k:Nat}{x:UInt8}(h:s.data[k]? =some x):(s.extract k s.size).data[0]? =some x:=by
 obtain⟨h1,h2⟩:=qwW.1 h
 rw[ByteArray.data_extract,qy9]
 have:0 < min s.size s.data.size -k:=by
  have:s.size=s.data.size:=rfl
  omega
 rw[if_pos this,qxZ]
 exact h
abbrev um:Spc:=Zr a0 (enc (X:=I32)) kq
theorem Ns(h1:S cQ=s_decR):tZ fw fg S a0 (enc (X:=I32)) (fun s z=>∃r,kq s z=some r) (fun s z s' y=>kq s z=some (s',y)):=by
 rintro b s ⟨⟩ ⟨r,hr⟩
 obtain⟨c,hc,_⟩:=qw0.1 hr
 have fin:∀ {H:ab},H 0=some (.box b (rv s))->EQ (enc (X:=I32)) b (fun s' y=>kq s ()=some (s',y)) (.v (.int .i32 c)) H:=fun h0=>Ev s ⟨c⟩ (.same _) h0 (by simp[kq,hc])
 obtain⟨hsz,hc2⟩:=AQ hc
 rcases hc2 with⟨e1,rfl⟩|⟨h0,h2,h3,x,hx,hlt,rfl⟩
 ·simp[fw,fg,e1, -Bool.forall_bool, -Bool.exists_bool]
  exact fun _=>fin (by simp[e1])
 ·have hd:(s.s.data.extract s.pos.toNat s.s.size)[0]? =some x:=by rw[<-ByteArray.data_extract];exact qvy hx
  simp[fw,fg,h1,h0,h2,h3, -Bool.forall_bool, -Bool.exists_bool]
  refine fun _=>⟨by omega,⟨x,hd,hlt⟩,fun a b1 h=>?_⟩
  obtain⟨rfl,rfl⟩:=h x hd
  exact fin (by simp)
abbrev Vl:Spc:=Zr a0 Wt Mk
theorem Nr(h1:S cQ=s_decR):tZ jG jg S a0 Wt (fun s z=>∃r,Mk s z=some r) (fun s z s' y=>Mk s z=some (s',y)):=by
 rintro b s ⟨⟩ ⟨r,hr⟩
 obtain⟨c,hc,h⟩:=qwN.1 hr
 split at h
 ·rename_i hc0
  have fin:∀ {H:ab},H 0=some (.box b (rv s.bump))->EQ Wt b (fun s' y=>Mk s ()=some (s',y)) (.tup []) H:=fun h0=>Ev s.bump () (.same _) h0 (by simp[Mk,hc,hc0])
  obtain⟨hsz,hc2⟩:=AQ hc
  rcases hc2 with⟨e1,rfl⟩|⟨h0,h2,h3,x,hx,hlt,rfl⟩
  ·omega
  ·have hd:(s.s.data.extract s.pos.toNat s.s.size)[0]? =some x:=by rw[<-ByteArray.data_extract];exact qvy hx
   simp[jG,jg,h1,h0,h2,h3, -Bool.forall_bool, -Bool.exists_bool]
   refine⟨by omega,⟨x,hd,hlt⟩,fun a b1 h=>?_⟩
   obtain⟨rfl,rfl⟩:=h x hd
   exact⟨by simp only[InR];omega,fin (by simp[Rp.bump])⟩
 ·cases h
abbrev qf0:(I32×Bool)->D:=ww (Y:=I32) (Z:=Bool)
abbrev NY:Spc:=Zr (a1 B) qf0 BL
theorem Dc(h1:S bc=um)(h2:S kK=Vl):tZ eX eT S (a1 B) qf0 (fun s z=>∃r,BL s z=some r) (fun s z s' y=>BL s z=some (s',y)):=by
 rintro b s sp ⟨r,hr⟩
 obtain⟨c,hc,h⟩:=qwN.1 hr
 split at h
 ·cases h
 ·rename_i hn
  have n1:0<=c:=by omega
  have n2:c≠92:=fun e=>hn (.inr e)
  simp[eX,eT,h1,h2,kq,Mk,hc,n1,n2, -Bool.forall_bool, -Bool.exists_bool]
  exact Ev s.bump (⟨c⟩,true) (.same _) (by simp) (by simp[BL,hc,hn])
abbrev qae:Spc:=Zr a0 qf0 Re
theorem Ii(h1:S bc=um)(h2:S gH=s_crune)(h3:S dK=NY):tZ gQ gz S a0 qf0 (fun s z=>∃r,Re s z=some r) (fun s z s' y=>Re s z=some (s',y)):=by
 rintro b s ⟨⟩ ⟨r,hr⟩
 obtain⟨c,hc,h⟩:=qwN.1 hr
 split at h
 ·cases h
 ·rename_i hn
  have n1:¬c < 0:=fun e=>hn (.inl e)
  have n2:qfG WK c=false:=by
   cases e:qfG WK c with
   | false=>rfl
   | true=>exact absurd (.inr e) hn
  have hsz:=AQ hc
  have h128:c < 128:=by
   rcases hsz.2 with⟨_,rfl⟩|⟨_,_,_,x,_,hlt,rfl⟩ <;> omega
  have n3:qfG ⟨#[92,91,93,94,45]⟩ c=false:=n2
  have h4:BL s ⟨#[92,91,93,94,45]⟩=some r:=h
  simp[gQ,gz,h1,h2,h3,kq,hc,n1,n3,h4,h128, -Bool.forall_bool, -Bool.exists_bool]
  obtain⟨s',⟨c'⟩,t'⟩:=r
  intro n0
  refine⟨fun _=>⟨n0,Ev s' (⟨c'⟩,t') (.same _) (by simp) (by simp[Re,hc,hn,h])⟩,fun _=>Ev s' (⟨c'⟩,t') (.same _) (by simp) (by simp[Re,hc,hn,h])⟩
theorem OU{H:ab}{op mn mx:Int}{d3 d4:D}(rs:List Rng)(ks:List Rx)(h3:FrzTo H d3 (enc rs))(h4:FrzTo H d4 (enc ks)):FrzTo H (.agg [.v (.int .i64 op), .v (.int .i64 mn), .v (.int .i64 mx),d3,d4]) (enc (Rx.mk op mn mx rs ks)):=by
 rw[qct]
 refine .agg rfl fun k c c' hc hc'=>?_
 match k with
 | 0=>cases hc;cases hc';exact .same _
 | 1=>cases hc;cases hc';exact .same _
 | 2=>cases hc;cases hc';exact .same _
 | 3=>cases hc;cases hc';exact h3
 | 4=>cases hc;cases hc';exact h4
 | k+5=>simp at hc
abbrev qad:Spc:=aJ (a2 I32 I32) (fun _=>True) (enc (X:=Rx)) fun x y=>y=Z8 x.1.val x.2.val
theorem PK:aq xX wR S (a2 I32 I32) (fun _=>True) (enc (X:=Rx)) fun x y=>y=Z8 x.1.val x.2.val:=by
 rintro⟨x,y⟩ -
 simp[xX,wR,Z8]
 exact fun b=>cm (Y:=Rx) ⟨1,0,0, [⟨x,y⟩], []⟩ (OU [⟨x,y⟩] [] (.same _) (.nil _)) rfl
end Go.Gv

namespace Go.Gv
open Cod (enc dec)
variable {S S0:Nat->Spc}
abbrev CV:(Rx×Bool)->D:=ww (Y:=Rx) (Z:=Bool)
abbrev qaf:Spc:=Zr a0 CV qgd
abbrev Vm:Spc:=Zr a0 CV WS
theorem qm2{b:Nat}{post:Rp->(Rx×Bool)->Prop}{x:Rx}{v:Bool}{H:ab}(s:Rp)(h0:H 0=some (.box b (rv s)))(hq:post s (x,v)):EQ CV b post (.tup [enc x, .v (.bool v)]) H:=Ev s (x,v) (.same _) h0 hq
theorem CN{b:Nat}{post:Rp->(Rx×Bool)->Prop}{x:Rx}{v:Bool}{H:ab}(s:Rp)(h0:H 0=some (.box b (rv s)))(hq:post s (x,v)):EQ CV b post (.tup [.agg [.v (.int .i64 x.op), .v (.int .i64 x.mn), .v (.int .i64 x.mx), .list 2 (x.rs.map enc), .list 5 (x.kids.map enc)], .v (.bool v)]) H:=by
 have e:(D.agg [.v (.int .i64 x.op), .v (.int .i64 x.mn), .v (.int .i64 x.mx), .list 2 (x.rs.map enc), .list 5 (x.kids.map enc)])=enc x:=by simp
 rw[e]
 exact qm2 s h0 hq
set_option maxHeartbeats 1000000 in
theorem Nt(h1:S bc=um)(h2:S Ak=qad)(h3:S jz=qaf)(h4:S gH=s_crune)(h5:S dK=NY):tZ eb dR S a0 CV (fun s z=>∃r,WS s z=some r) (fun s z s' y=>WS s z=some (s',y)):=by
 rintro b s ⟨⟩ ⟨r,hr⟩
 have hr0:=hr
 obtain⟨c,hc,h⟩:=qwN.1 hr
 have hsz:=AQ hc
 have h128:c < 128:=by
  rcases hsz.2 with⟨_,rfl⟩|⟨_,_,_,x,_,hlt,rfl⟩ <;> omega
 split at h
 ·cases h
 rename_i e40
 split at h
 ·rename_i e46
  subst e46
  have hp:InR .i64 (s.pos+1):=by
   rcases hsz.2 with⟨_,e⟩|⟨_,_,_,x,_,hlt,e⟩
   ·cases e
   ·simp only[InR];omega
  cases h
  simp[eb,dR,h1,h2,kq,hc,hp, -Bool.forall_bool, -Bool.exists_bool]
  exact fun _=>CN s.bump (by simp[Rp.bump]) hr0
 rename_i e46
 split at h
 ·rename_i e91
  subst e91
  obtain⟨s',x',t'⟩:=r
  simp[eb,dR,h1,h3,kq,hc,h, -Bool.forall_bool, -Bool.exists_bool]
  exact fun _=>CN s' (by simp) hr0
 rename_i e91
 split at h
 ·cases h
 ·rename_i hn
  obtain⟨q,hq,rfl⟩:=qw0.1 h
  obtain⟨s',⟨c'⟩,t'⟩:=q
  have hq':=hq
  obtain⟨c2,hc2,h'⟩:=qwN.1 hq'
  rw[hc]at hc2
  obtain rfl:=qw4 hc2
  split at h'
  ·cases h'
  rename_i hn2
  have n0:0<=c:=by omega
  have n92:c≠92:=fun e=>hn2 (.inr e)
  have nin:qfG ⟨#[92,46,91,93,40,41,123,125,124,42,43,63]⟩ c=false:=by
   cases e:qfG ⟨#[92,46,91,93,40,41,123,125,124,42,43,63]⟩ c with
   | false=>rfl
   | true=>exact absurd ⟨n92,e⟩ hn
  have hq2:BL s ⟨#[92,46,91,93,40,41,123,125,124,42,43,63]⟩=some (s',⟨c'⟩,t'):=hq
  simp[eb,dR,h1,h2,h4,h5,kq,hc,e40,e46,e91,n0,n92,h128,nin,hq2, -Bool.forall_bool, -Bool.exists_bool]
  exact fun _=>CN s' (by simp) hr0
abbrev qac:Spc:=Zr a0 CV qaW
theorem WN{p:Rp}{c:Int}(h:KM p=some c):c < 128/\ -1<=c/\(0<=c->InR .i64 (p.pos+1)):=by
 obtain⟨h1,h2⟩:=AQ h
 rcases h2 with⟨_,rfl⟩|⟨_,_,_,x,_,hlt,rfl⟩
 ·exact⟨by omega,by omega,fun h=>absurd h (by omega)⟩
 ·exact⟨by omega,by omega,fun _=>by simp only[InR];omega⟩
theorem XZ{c:Int}{m:Int×Int}(h:LD c=some m):c=42/\m=(0, -1)\/c=43/\m=(1, -1)\/c=63/\m=(0,1):=by
 unfold LD at h
 split at h
 ·exact .inl ⟨by assumption,(qw4 h).symm⟩
 split at h
 ·exact .inr (.inl ⟨by assumption,(qw4 h).symm⟩)
 split at h
 ·exact .inr (.inr ⟨by assumption,(qw4 h).symm⟩)
 cases h
theorem MA{c:Int}(h:LD c=none):c≠42/\c≠43/\c≠63:=by
 unfold LD at h
 refine⟨fun e=>?_,fun e=>?_,fun e=>?_⟩ <;> (subst e;simp at h)
def wQ(o:Option (Int×Int))(x:Rx):List D:=match o with
 | none=>[.v (.int .i64 x.op), .v (.int .i64 x.mn), .v (.int .i64 x.mx), .list 2 (x.rs.map enc), .list 5 (x.kids.map enc)]
 | some m=>[.v (.int .i64 4), .v (.int .i64 m.1), .v (.int .i64 m.2), .v (.slice none 0 0), .list 5 [enc x]]
theorem qm1{b:Nat}{post:Rp->(Rx×Bool)->Prop}{m:Int×Int}{e:Rx}{H:ab}(s:Rp)(h0:H 0=some (.box b (rv s)))(hq:post s (⟨4,m.1,m.2, [], [e]⟩,true)):EQ CV b post (.tup [.agg (wQ (some m) e), .v (.bool true)]) H:=by
 refine Ev s (⟨4,m.1,m.2, [], [e]⟩,true) (.tup rfl fun k c c' hc hc'=>?_) h0 hq
 match k with
 | 0=>cases hc;cases hc';exact OU [] [e] (.nil _) (.same _)
 | 1=>cases hc;cases hc';exact .same _
 | k+2=>simp at hc
set_option maxHeartbeats 2000000 in
theorem Ig(h1:S bc=um)(h2:S kL=Vm):tZ gP gy S a0 CV (fun s z=>∃r,qaW s z=some r) (fun s z s' y=>qaW s z=some (s',y)):=by
 rintro b s ⟨⟩ ⟨r,hr⟩
 have hr0:=hr
 obtain⟨⟨s1,e,ok⟩,ha,h⟩:=qwN.1 hr
 simp only at h
 split at h
 rotate_left
 ·cases h
 rename_i hok
 subst hok
 obtain⟨c,hc,h⟩:=qwN.1 h
 split at h
 ·cases h
 rename_i e123
 have hcc:=WN hc
 simp[gP,gy,h2,ha, -Bool.forall_bool, -Bool.exists_bool]
 intro b2 b4
 refine av (X:=Option (Int×Int)) [0,2,4,5] [2] (fun o=>∀m,o=some m->LD c=some m) (fun _=>[]) (fun o=>[(0, .box b (rv (match o with|none=>s1|some _=>s1.bump))),(4, .box b4 (wQ o e))]) (fun o=>match o with|none=>1|some _=>0) none (fun m h=>by cases h) (by simp) (by simp[wQ]) ?_
 rintro(_|m) hP
 ·cases hm:LD c with
  | none=>
    rw[hm]at h
    cases h
    obtain⟨n1,n2,n3⟩:=MA hm
    simp[wQ,h1,kq,hc,n1,n2,n3,e123, -Bool.forall_bool, -Bool.exists_bool]
    exact CN s1 (by simp) hr0
  | some m=>
    rcases XZ hm with⟨rfl,rfl⟩|⟨rfl,rfl⟩|⟨rfl,rfl⟩
    all_goals
     have hin:=hcc.2.2 (by omega)
     simp[wQ,h1,kq,hc,hin, -Bool.forall_bool, -Bool.exists_bool]
     first
      | exact⟨some (0, -1),by simp,⟨.inl ⟨rfl,rfl,rfl,rfl⟩, .inl rfl⟩,rfl⟩
      | exact⟨some (1, -1),by simp,⟨.inl ⟨rfl,rfl,rfl,rfl⟩, .inl rfl⟩,rfl⟩
      | exact⟨some (0,1),by simp,⟨.inl ⟨rfl,rfl,rfl,rfl⟩, .inl rfl⟩,rfl⟩
 ·have hm:=hP m rfl
  rw[hm]at h
  simp only at h
  obtain⟨d,hd,h⟩:=qwN.1 h
  split at h
  ·cases h
  rename_i hn
  cases h
  have hd':d≠123/\LD d=none:=⟨fun e=>hn (.inl e),by
   cases q:LD d with
   | none=>rfl
   | some q'=>exact absurd (.inr (by rw[q];rfl)) hn⟩
  obtain⟨n1,n2,n3⟩:=MA hd'.2
  have n4:=hd'.1
  simp[wQ,h1,kq,hd,n1,n2,n3,n4, -Bool.forall_bool, -Bool.exists_bool]
  simpa [wQ, -Bool.forall_bool, -Bool.exists_bool]using qm1 (e:=e) (m:=m) s1.bump (by simp) hr0
end Go.Gv

namespace Go.Gv
open Cod (enc dec)
variable {S S0:Nat->Spc}
theorem qiz{p:Rp}{q:Rp× (Rx×Bool)}(h:qaW p ()=some q):q.2.2=true:=by
 obtain⟨a,_,h⟩:=qwN.1 h
 split at h
 ·obtain⟨c,_,h⟩:=qwN.1 h
  split at h
  ·cases h
  ·split at h
   ·obtain⟨d,_,h⟩:=qwN.1 h
    split at h
    ·cases h
    ·cases h;rfl
   ·cases h;rfl
 ·cases h
theorem Q1{op:Int}{l:List Rx}(h:l.length≠1):Uh op l=⟨op,0,0, [],l⟩:=by
 match l,h with
 | [],_=>rfl
 | [e],h=>exact absurd rfl h
 | _::_::_,_=>rfl
theorem qcm{b:Nat}{post:Rp->(Rx×Bool)->Prop}{op:Int}{l:List Rx}{id el:Nat}{v:Value}{H:ab}(s:Rp)(h0:H 0=some (.box b (rv s)))(hi:id≠0)(h1:H id=some (.row v el 5 (l.map enc)))(hq:post s (⟨op,0,0, [],l⟩,true)):
 EQ CV b post (.tup [.agg [.v (.int .i64 op), .v (.int .i64 0), .v (.int .i64 0), .v (.slice none 0 0), .own id v], .v (.bool true)]) H:=by
 refine Ev s (⟨op,0,0, [],l⟩,true) (.tup rfl fun k c c' hc hc'=>?_) h0 hq
 match k with
 | 0=>
   cases hc;cases hc'
   refine OU [] l (.nil _) (.row (el:=el) (by simp[hi];exact h1) rfl (fun d hd=>?_) (fun k c c' hc hc'=>?_))
   ·obtain⟨x,_,rfl⟩:=qw3.1 hd
    exact⟨Cod.kn x,Cod.wid x⟩
   ·rw[hc]at hc';cases hc';exact .same _
 | 1=>cases hc;cases hc';exact .same _
 | k+2=>simp at hc
abbrev qag:Spc:=Zr a0 CV qc1
set_option maxHeartbeats 2000000 in
theorem Ij(h1:S bc=um)(h2:S iF=qac):tZ gR gA S a0 CV (fun s z=>∃r,qc1 s z=some r) (fun s z s' y=>qc1 s z=some (s',y)):=by
 rintro b s ⟨⟩ ⟨r,hr⟩
 have hr0:=hr
 obtain⟨⟨s',l'⟩,hl,hr⟩:=qw0.1 hr
 simp only at hr
 subst hr
 obtain⟨c0,hc0⟩:∃c,KM s=some c:=by
  rw[Sr]at hl
  obtain⟨c,hc,_⟩:=qwN.1 hl
  exact⟨c,hc⟩
 simp[gR,gA,h1,kq,hc0, -Bool.forall_bool, -Bool.exists_bool]
 intro b2
 refine av (X:=Nat×Rp×Value×List Rx×Int) [0,2] [2] (fun z=>Sr z.1 z.2.1 z.2.2.2.1=some (s',l')/\z.2.2.2.1.length+z.1<=100/\KM z.2.1=some z.2.2.2.2) (fun z=>[(4, .own 36 z.2.2.1),(5, .v (.int .i32 z.2.2.2.2))]) (fun z=>[(0, .box b (rv z.2.1)),(36, .row z.2.2.1 zt 5 (z.2.2.2.1.map enc))]) (fun z=>z.1) (100,s, .slice none 0 0, [],c0) ⟨hl,by simp,hc0⟩ (by simp) (by simp[isNilRow]) ?_
 clear hl
 rintro⟨k,p,v,l,c⟩ ⟨hk,hlen,hc⟩
 simp only at hk hlen hc
 obtain _|k:=k
 ·rw[Sr]at hk;cases hk
 rw[Sr,hc]at hk
 simp only[qw7]at hk
 split at hk
 ·rename_i hend
  cases hk
  have hlt:(l'.length:Int)<=9223372036854775807:=by omega
  by_cases hl1:l'.length=1
  ·obtain⟨e,rfl⟩:∃e,l'=[e]:=qye.1 hl1
   rcases hend with h|rfl|rfl
   ·have h':¬0<=c:=by omega
    simp[h', -Bool.forall_bool, -Bool.exists_bool]
    exact CN s' (by simp) hr0
   all_goals
    simp[-Bool.forall_bool, -Bool.exists_bool]
    exact CN s' (by simp) hr0
  ·rw[Q1 hl1]at hr0
   have hl1':¬ (l'.length:Int)=1:=by omega
   rcases hend with h|rfl|rfl
   ·have h':¬0<=c:=by omega
    simp[h',hl1,hl1',hlt, -Bool.forall_bool, -Bool.exists_bool]
    exact qcm (el:=zt) s' (by simp) (by decide) (by simp) hr0
   all_goals
    simp[hl1,hl1',hlt, -Bool.forall_bool, -Bool.exists_bool]
    exact qcm (el:=zt) s' (by simp) (by decide) (by simp) hr0
 ·rename_i hgo
  obtain⟨q,hq,hk⟩:=qwN.1 hk
  split at hk
  ·cases hk
  rename_i hop
  have hok:=qiz hq
  obtain⟨p',e,ok⟩:=q
  simp only at hk hok hop
  subst hok
  have n1:0<=c:=by omega
  have n2:c≠124:=by omega
  have n3:c≠41:=by omega
  obtain⟨c1,hc1⟩:∃c,KM p'=some c:=by
   obtain _|k:=k
   ·rw[Sr]at hk;cases hk
   rw[Sr]at hk
   obtain⟨c,hc,_⟩:=qwN.1 hk
   exact⟨c,hc⟩
  simp[h1,h2,kq,hc1,hq,n1,n2,n3,hop, -Bool.forall_bool, -Bool.exists_bool]
  exact⟨by omega,by omega,fun v=>⟨k,p',v,l++ [e],c1,⟨hk,by simp;omega,hc1⟩,⟨⟨rfl,rfl⟩, .inl ⟨rfl,rfl,rfl,rfl⟩, .inl ⟨rfl,by simp⟩⟩,by omega⟩⟩
theorem qjZ{p:Rp}{q:Rp× (Rx×Bool)}(h:qc1 p ()=some q):q.2.2=true:=by
 obtain⟨a,_,rfl⟩:=qw0.1 h
 rfl
abbrev qab:Spc:=Zr a0 CV qez
set_option maxHeartbeats 2000000 in
theorem K9(h1:S bc=um)(h2:S iH=qag):tZ iK iA S a0 CV (fun s z=>∃r,qez s z=some r) (fun s z s' y=>qez s z=some (s',y)):=by
 rintro b s ⟨⟩ ⟨r,hr⟩
 have hr0:=hr
 obtain⟨⟨s',l'⟩,hl,hr⟩:=qw0.1 hr
 simp only at hr
 subst hr
 simp[iK,iA, -Bool.forall_bool, -Bool.exists_bool]
 intro b2
 refine av (X:=Nat×Rp×Value×List Rx) [0,2] [2] (fun z=>ZN z.1 z.2.1 z.2.2.2=some (s',l')/\z.2.2.2.length+z.1<=100) (fun z=>[(4, .own 25 z.2.2.1)]) (fun z=>[(0, .box b (rv z.2.1)),(25, .row z.2.2.1 zt 5 (z.2.2.2.map enc))]) (fun z=>z.1) (100,s, .slice none 0 0, []) ⟨hl,by simp⟩ (by simp) (by simp[isNilRow]) ?_
 clear hl
 rintro⟨k,p,v,l⟩ ⟨hk,hlen⟩
 simp only at hk hlen
 obtain _|k:=k
 ·rw[ZN]at hk;cases hk
 rw[ZN]at hk
 obtain⟨⟨p',e,ok⟩,hq,hk2⟩:=qwN.1 hk
 clear hk
 obtain⟨c,hc,hk3⟩:=qwN.1 hk2
 clear hk2
 have hok:=qjZ hq
 simp only at hok hc hk3
 subst hok
 have hop:¬e.op=3:=fun h=>by rw[if_pos h]at hk3;cases hk3
 rw[if_neg hop]at hk3
 have hcc:=WN hc
 by_cases hc124:c=124
 ·rw[if_pos hc124]at hk3
  have hk:=hk3
  subst hc124
  have hin:=hcc.2.2 (by omega)
  simp[h1,h2,kq,hc,hq,hop,hin, -Bool.forall_bool, -Bool.exists_bool]
  exact⟨by omega,by omega,fun v=>⟨k,p'.bump,v,l++ [e],⟨hk,by simp;omega⟩,⟨rfl, .inl ⟨rfl,rfl,rfl,rfl⟩, .inl ⟨rfl,by simp⟩⟩,by omega⟩⟩
 ·rw[if_neg hc124]at hk3
  cases hk3
  have hlt:((l++ [e]).length:Int)<=9223372036854775807:=by simp;omega
  have hcc':¬c=124:=hc124
  cases l with
  | nil=>
    simp[h1,h2,kq,hc,hq,hop,hcc', -Bool.forall_bool, -Bool.exists_bool]
    exact fun v=>CN s' (by simp) hr0
  | cons x l=>
    simp[h1,h2,kq,hc,hq,hop,hcc', -Bool.forall_bool, -Bool.exists_bool]
    have hr1:=hr0
    rw[Q1 (by simp)]at hr1
    exact⟨by simp at hlen;omega,by simp at hlen;omega,fun v _=>⟨fun h=>absurd h (by omega),fun _=>qcm (el:=zt) (l:=x::l++ [e]) s' (by simp) (by decide) (by simp) hr1⟩⟩
end Go.Gv

namespace Go.Gv
open Go.Proofs
def fH:CC:=gq Tryz.f350 [] {} _
def fD:List aj:=[]
theorem ve:ak Tryz.prog ed [] fH fD 14:=fo
def dD:CC:=gq Tryz.f358 [] {} _
def dv:List aj:=[]
theorem pr:ak Tryz.prog dT [] dD dv 148:=fo
def cq:CC:=gq Tryz.f360 [] {} _
def ck:List aj:=[]
theorem kI:ak Tryz.prog cB [] cq ck 53:=fo
def pT:CC:=gq Tryz.f136 [] {} _
def pd:List aj:=[.tmp 2]
theorem Fy:ak Tryz.prog rj [] pT pd 8:=fo
def lY:CC:=gq Tryz.f195 [] {} _
def lH:List aj:=[.tmp 2]
theorem Cn:ak Tryz.prog nJ [] lY lH 25:=fo
def kV:CC:=gq Tryz.f352 [] {} _
def kH:List aj:=[.tmp 4]
theorem Bv:ak Tryz.prog lQ [] kV kH 20:=fo
def ow:CC:=gq Tryz.f359 [] {} _
def nk:List aj:=[.tmp 2]
theorem Eg:ak Tryz.prog pK [] ow nk 6:=fo
def nS:CC:=gq Tryz.f351 [2,3] {} _
def mP:List aj:=[.tmp 4]
theorem DY:ak Tryz.prog cK [2,3] nS mP 10:=fo
def rz:CC:=gq Tryz.f336 [2044048] { bx:=[0] } _
def qT:List aj:=[.tmp 2]
theorem Ho:ak Tryz.prog tj [2044048] rz qT 51:=fo
end Go.Gv
