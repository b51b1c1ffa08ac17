/- A part of the framework and of the walks: W155 T31 C51 W130 W131 W132 C52. -/
import Derived.Test.YtphdikcommfnhaaGreatDoorGg29
import Derived.Test.YtphdikcommfnhaaGreatDoorGg26
import Derived.Test.YtphdikcommfnhaaGreatDoorGg27
import Derived.Test.YtphdikcommfnhaaGreatDoorGg20
set_option linter.unusedSimpArgs false
set_option linter.unusedVariables false
set_option linter.unusedSectionVars false
set_option maxRecDepth 100000
set_option maxHeartbeats 0

namespace Go.Gv
open Cod (enc dec)
variable {S S0:Nat->Spc}
def Zu(l:List Pair)(s:Pair):Bool:=l.any fun z=>decide (z=s)
abbrev SW:Spc:=aS (a2 (List Pair) Pair) (fun _=>True) (enc (X:=Int)) fun x y=>y=fS x.1 fun z=>decide (z=x.2)
abbrev SZ:Spc:=aS (a2 (List Pair) Pair) (fun _=>True) (enc (X:=Bool)) fun x y=>y=Zu x.1 x.2
theorem LJ:aq iT iv S (a2 (List Pair) Pair) (fun _=>True) (enc (X:=Int)) fun x y=>y=fS x.1 fun z=>decide (z=x.2):=by
 rintro⟨l,s⟩ -
 simp[iT,iv, -Bool.forall_bool, -Bool.exists_bool]
 intro _
 refine ai (X:=Unit) [0,3] [] l.length (fun k _=>∀x∈l.take k,decide (x=s)=false) (fun _=>[]) (fun _=>[]) () (by simp) (by simp) (by omega) (by simp) (by simp) (by simp) (by simp) (by simp) ?_ ?_
 ·intro k _ hk hP
  obtain⟨x,hx⟩:=sE hk
  obtain⟨_,hgx⟩:=qtG.1 hx
  simp[hk,hx,hgx, -Bool.forall_bool, -Bool.exists_bool]
  have hpe:s.nm=x.nm->s.vl=x.vl->x=s:=fun h1 h2=>by
   obtain⟨a,b⟩:=x
   obtain⟨a',b'⟩:=s
   simp only at h1 h2
   rw[h1,h2]
  refine⟨fun h1 h2=>(tc hx (by simp[hpe h1 h2]) hP).symm,fun h=>?_⟩
  rw[bM hx]
  intro z hz
  rcases qtK.1 hz with hz|hz
  ·have:=hP z hz
   simpa using this
  ·simp at hz;subst hz
   intro e
   subst e
   exact h rfl rfl
 ·intro _ hP
  simp[-Bool.forall_bool, -Bool.exists_bool]
  exact(lG (by simpa using hP)).symm
theorem Fy(h1:S jI=SW):aq fB fq S (a2 (List Pair) Pair) (fun _=>True) (enc (X:=Bool)) fun x y=>y=Zu x.1 x.2:=by
 rintro⟨l,s⟩ -
 simp[fB,fq,h1, -Bool.forall_bool, -Bool.exists_bool]
 exact tb _ l
def Ho(x:Cond)(tok:Int)(r:Region):Bool:=decide (r.ty=x.name) && decide (r.b<=tok) && decide (tok < r.e) && (decide (x.arg=qz)||Zu r.kv ⟨x.arg,x.val⟩)
def WW(x:Cond):List D:=[.v (.int .i64 x.op), .v (.string x.name), .v (.string x.arg), .v (.string x.val), .v (.string x.lab), .v (.bool x.fold), .list 7 (x.kids.map enc)]
theorem Ue(x:Cond): .agg (WW x)=enc x:=by simp[WW]
theorem qdA{x y:Cond}(h:WW x=WW y):x=y:=aL (by rw[<-Ue,<-Ue,h])
def qbo(x:Region×Cond×Int):List D:=[enc x.1, .cptr (WW x.2.1) 0, .cptr [enc x.2.2] 0]
theorem SE(z z':Region×Cond×Int)(h:qbo z=qbo z'):z=z':=by
 obtain⟨a,s,l⟩:=z
 obtain⟨a',s',l'⟩:=z'
 unfold qbo at h
 simp only[qt5,D.cptr.injEq,and_true]at h
 rw[aL h.1,qdA h.2.1,aL h.2.2]
noncomputable abbrev qsP:cM (Region×Cond×Int):=aX qbo SE
noncomputable abbrev Cr:Spc:=aS qsP (fun _=>True) (enc (X:=Bool)) fun x y=>y=Ho x.2.1 x.2.2 x.1
theorem xO(h1:S fV=SZ):aq bz bu S qsP (fun _=>True) (enc (X:=Bool)) fun x y=>y=Ho x.2.1 x.2.2 x.1:=by
 rintro⟨r,x,tok⟩ -
 rw[wR]
 by_cases e1:r.ty=x.name
 rotate_left
 ·simp[qbo,WW,bz,bu,Ho,e1, -Bool.forall_bool, -Bool.exists_bool]
 by_cases e2:r.b<=tok
 rotate_left
 ·simp[qbo,WW,bz,bu,Ho,e1,e2, -Bool.forall_bool, -Bool.exists_bool]
 by_cases e3:tok < r.e
 rotate_left
 ·simp[qbo,WW,bz,bu,Ho,e1,e2,e3, -Bool.forall_bool, -Bool.exists_bool]
 by_cases e4:x.arg=qz
 ·have e4':x.arg=⟨#[]⟩:=e4
  simp[qbo,WW,bz,bu,Ho,e1,e2,e3,e4,e4',qz, -Bool.forall_bool, -Bool.exists_bool]
 ·have e4':¬x.arg=⟨#[]⟩:=e4
  simp[qbo,WW,bz,bu,Ho,h1,e1,e2,e3,e4,e4', -Bool.forall_bool, -Bool.exists_bool]
abbrev Yi:Spc:=aS (a3 Corpus Cond Int) (fun _=>True) (enc (X:=Bool)) fun x y=>y=x.1.regs.any (Ho x.2.1 x.2.2)
theorem AE(h0:S0 bI=Cr)(h1:S bj=Vb Region S0):aq jT jF S (a3 Corpus Cond Int) (fun _=>True) (enc (X:=Bool)) fun x y=>y=x.1.regs.any (Ho x.2.1 x.2.2):=by
 rintro⟨c,x,tok⟩ -
 have hf:FunOn S0 (.clo bI [.cptr (WW x) 0, .cptr [enc tok] 0]) c.regs (Ho x tok):=
  uW (f:=fun r=>(r,x,tok)) h0 (fun r _=>BH qbo SE (r,x,tok)) (fun _ _=>trivial) (fun r _ y hy=>hy)
 unfold WW at hf
 simp[jT,jF,h1, -Bool.forall_bool, -Bool.exists_bool]
 exact⟨⟨_,hf⟩,fun y hy=>hy _ hf⟩
end Go.Gv

namespace Go.Gv
open Cod (enc dec)
@[simp] theorem qqg(s:Rp):Rp.mk s.s s.pos s.fault s.e=s:=by cases s;rfl
def qg(s:Rp):List D:=[enc s.s,enc s.pos,enc s.fault,enc s.e]
@[simp] theorem qnz(s:Rp):qg s=[enc s.s,enc s.pos,enc s.fault,enc s.e]:=id rfl
section
variable {Y Z:Type}
def qfK:I1 Rp:=F5 qg
def qoK(A:cM Z)(er:Y->D)(pre:Rp->Z->Prop)(post:Rp->Z->Rp->Y->Prop):Spc:=qkG qfK A er pre post
def qrL(er:Y->D)(pre:Rp->Z->Prop)(post:Rp->Z->Rp->Y->Prop)(id b:Nat)(r:Option Res)(o:Option Z)(H:ab)(K:D->ab->Prop):Prop:=
 ∃x,r=some (.box b (qg x))/\dx o fun z=>pre x z/\∀x' y,post x z x' y->K (er y) (ah H id (some (.box b (qg x'))))
theorem qat{x y:Rp}(h:qg x=qg y):x=y:=by
 obtain⟨l,a,d,e⟩:=x
 obtain⟨l',a',d',e'⟩:=y
 simp only[qg,qt5]at h
 obtain⟨h1,h2,h3,h4,_⟩:=h
 have h1:=aL h1
 have h2:=aL h2
 have h3:=aL h3
 have h4:=aL h4
 subst h1;subst h2;subst h3;subst h4
 rfl
@[simp] theorem qfJ(A:cM Z)(er:Y->D)(pre:Rp->Z->Prop)(post:Rp->Z->Rp->Y->Prop)(d i b:Nat)(ds:List D)(H:ab)(K:D->ab->Prop):(qoK A er pre post).pt d (.bptr i b 0::ds) H K=qrL er pre post i b (H i) (A.dec ds) H K:=by
 refine propext ⟨fun h=>?_,fun h=>?_⟩
 ·obtain⟨id,b',x,z,ds',h1,h2,h3,h4,h5,h6,h7⟩:=h
  cases h1
  refine⟨x,h3,?_⟩
  rw[h2]
  exact⟨h6,h7⟩
 ·obtain⟨x,h1,h2⟩:=h
  cases hz:A.dec ds with
  | none=>rw[hz]at h2;exact h2.elim
  | some z=>rw[hz]at h2;exact⟨i,b,x,z,ds,rfl,hz,h1,fun p hp=>by simp[qfK,F5]at hp,by simp[qfK,F5],h2.1,h2.2⟩
def Ds(er:Y->D)(b:Nat)(post:Rp->Y->Prop)(r:D)(H:ab):Prop:=Lp qfK er b post r H
theorem Db{er:Y->D}{b:Nat}{post:Rp->Y->Prop}{r:D}{H:ab}(x:Rp)(y:Y)(hr:FrzTo (fun i=>if i=0 then none else H i) r (er y))(h0:H 0=some (.box b (qg x)))(hq:post x y):Ds er b post r H:=
 ⟨x,y,by simpa [qfK,F5]using hr,h0,fun p hp=>by simp[qfK,F5]at hp,hq⟩
def sG(cc:CC)(rs:List aj)(S:Nat->Spc)(A:cM Z)(er:Y->D)(pre:Rp->Z->Prop)(post:Rp->Z->Rp->Y->Prop):Prop:=
 ∀b x z,pre x z->vc S cc (rG rs fun r H'=>Ds er b (post x z) r H') (cR (.bptr 0 b 0::A.view z)) (ah bB 0 (some (.box b (qg x))))
variable {P:Program}{S:Nat->Spc}{f:Nat}{im:List Nat}{cc:CC}{rs:List aj}{N:Nat}
theorem QW{A:cM Z}{er:Y->D}{pre:Rp->Z->Prop}{post:Rp->Z->Rp->Y->Prop}(hS:∀f,Tri P f (S f).pt)(h:am P f im cc rs N)(hN:∀z,(A.view z).length+1<=N)(hw:sG cc rs S A er pre post):Tri P f (qoK A er pre post).pt:=
 vt (by simp[qfK,F5]) hS h hN fun b x z hp=>hw b x z hp
end
section
variable {Y Z:Type}
def WT(A:cM Z)(er:Y->D)(F:Rp->Z->Option (Rp×Y)):Spc:=qoK A er (fun s z=>∃r,F s z=some r) (fun s z s' y=>F s z=some (s',y))
def Yo(er:Y->D)(F:Rp->Z->Option (Rp×Y))(id b:Nat)(r:Option Res)(o:Option Z)(H:ab)(K:D->ab->Prop):Prop:=
 ∃x,r=some (.box b (qg x))/\dx o fun z=>dx (F x z) fun q=>K (er q.2) (ah H id (some (.box b (qg q.1))))
@[congr] theorem qlE{er:Y->D}{F:Rp->Z->Option (Rp×Y)}{id b:Nat}{r r':Option Res}{o o':Option Z}{H:ab}{K:D->ab->Prop}(h1:r=r')(h2:o=o'):Yo er F id b r o H K=Yo er F id b r' o' H K:=by subst h1;subst h2;rfl
theorem qfV{F:Option (Rp×Y)}{k:Rp->Y->Prop} :((∃r,F=some r)/\∀x' y,F=some (x',y)->k x' y)=dx F fun q=>k q.1 q.2:=by
 cases F with
 | none=>
   refine propext (Iff.intro (fun h=>?_) (fun h=>?_))
   ·obtain⟨⟨r,h⟩,_⟩:=h
    cases h
   ·exact False.elim h
 | some r=>
   refine propext (Iff.intro (fun h=>h.2 _ _ rfl) (fun h=>⟨⟨_,rfl⟩,fun x' y e=>?_⟩))
   cases e
   exact h
@[simp] theorem qoI(A:cM Z)(er:Y->D)(F:Rp->Z->Option (Rp×Y))(d i b:Nat)(ds:List D)(H:ab)(K:D->ab->Prop):(WT A er F).pt d (.bptr i b 0::ds) H K=Yo er F i b (H i) (A.dec ds) H K:=by
 unfold WT Yo
 rw[qfJ]
 unfold qrL
 refine propext (exists_congr fun x=>and_congr_right fun _=>?_)
 cases A.dec ds with
 | none=>exact quJ
 | some z=>exact iff_of_eq qfV
@[simp] theorem qoJ(er:Y->D)(F:Rp->Z->Option (Rp×Y))(id b:Nat)(l:B)(p dp e:Int)(o:Option Z)(H:ab)(K:D->ab->Prop):
 Yo er F id b (some (.box b [.v (.string l), .v (.int .i64 p), .v (.int .i64 dp), .v (.int .i64 e)])) o H K=dx o fun z=>dx (F ⟨l,p,dp,e⟩ z) fun q=>K (er q.2) (ah H id (some (.box b (qg q.1)))):=by
 refine propext ⟨fun⟨x,h1,h2⟩=>?_,fun h=>⟨⟨l,p,dp,e⟩,rfl,h⟩⟩
 have e1:qg ⟨l,p,dp,e⟩=qg x:=by
  have:=qtV h1
  exact(Res.box.inj this).2
 have:=qat e1
 subst this
 exact h2
variable {P:Program}{S:Nat->Spc}{f:Nat}{im:List Nat}{cc:CC}{rs:List aj}{N:Nat}
theorem eI{A:cM Z}{er:Y->D}{F:Rp->Z->Option (Rp×Y)}(hS:∀f,Tri P f (S f).pt)(h:am P f im cc rs N)(hN:∀z,(A.view z).length+1<=N)
 (hw:sG cc rs S A er (fun s z=>∃r,F s z=some r) (fun s z s' y=>F s z=some (s',y))):Tri P f (WT A er F).pt:=QW hS h hN hw
end
end Go.Gv

namespace Go.Gv
open Go.Proofs
def eU:CC:=gq Tryz.f276 [] { ke:=[0] } _
def eK:List aj:=[.tmp 2]
theorem yo:am Tryz.prog bb [] eU eK 29:=fo
def iV:CC:=gq Tryz.f339 [] { bx:=[0] } _
def ix:List aj:=[]
theorem yn:am Tryz.prog jJ [] iV ix 25:=fo
def eE:CC:=gq Tryz.f329 [] { bx:=[0] } _
def eA:List aj:=[.tmp 4, .tmp 5]
theorem sM:am Tryz.prog dn [] eE eA 37:=fo
def gd:CC:=gq Tryz.f335 [] { bx:=[0] } _
def fM:List aj:=[.tmp 2, .tmp 3]
theorem vR:am Tryz.prog gR [] gd fM 27:=fo
def wA:CC:=gq Tryz.f326 [] {} _
def vy:List aj:=[.cell 4 true 5]
theorem Mk:am Tryz.prog yL [] wA vy 10:=fo
def dF:CC:=gq Tryz.f313 [2002002] { bx:=[0] } _
def dw:List aj:=[.cell 2 true 5, .tmp 3]
theorem yp:am Tryz.prog jK [2002002] dF dw 72:=fo
def gW:CC:=gq Tryz.f327 [] { ke:=[0] } _
def gJ:List aj:=[.cell 2 true 5, .tmp 3]
theorem xu:am Tryz.prog iO [] gW gJ 108:=fo
def gc:CC:=gq Tryz.f298 [] { bx:=[0] } _
def fL:List aj:=[.cell 2 true 5, .tmp 3]
theorem vQ:am Tryz.prog gQ [] gc fL 54:=fo
def ge:CC:=gq Tryz.f275 [] { ke:=[0] } _
def fN:List aj:=[.cell 2 true 5, .tmp 3]
theorem vS:am Tryz.prog gS [] ge fN 49:=fo
def gV:CC:=gq Tryz.f255 [] { ke:=[0] } _
def gI:List aj:=[.cell 2 true 5, .tmp 3]
theorem xt:am Tryz.prog iN [] gV gI 44:=fo
end Go.Gv

namespace Go.Gv
open Cod (enc dec)
variable {S S0:Nat->Spc}
abbrev s_decR:Spc:=aS (a1 B) (fun s=>∃c,s.data[0]? =some c/\c.toNat < 128) (xb (Y:=I32) (Z:=Int)) fun s y=>∀c,s.data[0]? =some c->y=(⟨c.toNat⟩,1)
abbrev s_crune:Spc:=aS (a2 B I32) (fun x=>0<=x.2.val/\x.2.val < 128) (enc (X:=Bool)) fun x y=>y=qc1 x.1 x.2.val
theorem zy{p:Rp}{c:Int}(h:IP p=some c):p.s.size<=200/\((p.pos=p.s.size/\c= -1)\/(0<=p.pos/\p.pos < p.s.size/\p.pos≠p.s.size/\∃x:UInt8,p.s.data[p.pos.toNat]? =some x/\x.toNat < 128/\c=x.toNat)):=by
 unfold IP at h
 split at h
 ·cases h
 rename_i hsz
 refine⟨by omega,?_⟩
 split at h
 ·exact .inl ⟨by assumption,(qtV h).symm⟩
 ·rename_i hne
  split at h
  ·rename_i h0
   split at h
   ·rename_i x hx
    split at h
    ·rename_i hlt
     have hx2:=(qtO.1 hx).1
     refine .inr ⟨h0,?_,hne,x,hx,hlt,(qtV h).symm⟩
     show p.pos < (p.s.data.size:Int)
     omega
    ·cases h
   ·cases h
  ·cases h
theorem qso{s:B}{k:Nat}{x:UInt8}(h:s.data[k]? =some x):(s.extract k s.size).data[0]? =some x:=by
 obtain⟨h1,h2⟩:=qtO.1 h
 rw[ByteArray.data_extract,qv0]
 have:0 < min s.size s.data.size -k:=by
  have:s.size=s.data.size:=rfl
  omega
 rw[if_pos this,quS]
 exact h
abbrev sU:Spc:=WT a0 (enc (X:=I32)) jx
theorem Lt(h1:S cD=s_decR):sG eU eK S a0 (enc (X:=I32)) (fun s z=>∃r,jx s z=some r) (fun s z s' y=>jx s z=some (s',y)):=by
 rintro b s ⟨⟩ ⟨r,hr⟩
 obtain⟨c,hc,_⟩:=qtR.1 hr
 have fin:∀ {H:ab},H 0=some (.box b (qg s))->Ds (enc (X:=I32)) b (fun s' y=>jx s ()=some (s',y)) (.v (.int .i32 c)) H:=fun h0=>Db s ⟨c⟩ (.same _) h0 (by simp[jx,hc])
 obtain⟨hsz,hc2⟩:=zy hc
 rcases hc2 with⟨e1,rfl⟩|⟨h0,h2,h3,x,hx,hlt,rfl⟩
 ·simp[eU,eK,e1, -Bool.forall_bool, -Bool.exists_bool]
  exact fun _=>fin (by simp[e1])
 ·have hd:(s.s.data.extract s.pos.toNat s.s.size)[0]? =some x:=by rw[<-ByteArray.data_extract];exact qso hx
  simp[eU,eK,h1,h0,h2,h3, -Bool.forall_bool, -Bool.exists_bool]
  refine fun _=>⟨by omega,⟨x,hd,hlt⟩,fun a b1 h=>?_⟩
  obtain⟨rfl,rfl⟩:=h x hd
  exact fin (by simp)
abbrev SK:Spc:=WT a0 TN Kg
theorem Ls(h1:S cD=s_decR):sG iV ix S a0 TN (fun s z=>∃r,Kg s z=some r) (fun s z s' y=>Kg s z=some (s',y)):=by
 rintro b s ⟨⟩ ⟨r,hr⟩
 obtain⟨c,hc,h⟩:=qtE.1 hr
 split at h
 ·rename_i hc0
  have fin:∀ {H:ab},H 0=some (.box b (qg s.bump))->Ds TN b (fun s' y=>Kg s ()=some (s',y)) (.tup []) H:=fun h0=>Db s.bump () (.same _) h0 (by simp[Kg,hc,hc0])
  obtain⟨hsz,hc2⟩:=zy hc
  rcases hc2 with⟨e1,rfl⟩|⟨h0,h2,h3,x,hx,hlt,rfl⟩
  ·omega
  ·have hd:(s.s.data.extract s.pos.toNat s.s.size)[0]? =some x:=by rw[<-ByteArray.data_extract];exact qso hx
   simp[iV,ix,h1,h0,h2,h3, -Bool.forall_bool, -Bool.exists_bool]
   refine⟨by omega,⟨x,hd,hlt⟩,fun a b1 h=>?_⟩
   obtain⟨rfl,rfl⟩:=h x hd
   exact⟨by simp only[InR];omega,fin (by simp[Rp.bump])⟩
 ·cases h
abbrev qdk:(I32×Bool)->D:=xb (Y:=I32) (Z:=Bool)
abbrev LZ:Spc:=WT (a1 B) qdk Ap
theorem BO(h1:S bb=sU)(h2:S jJ=SK):sG eE eA S (a1 B) qdk (fun s z=>∃r,Ap s z=some r) (fun s z s' y=>Ap s z=some (s',y)):=by
 rintro b s sp ⟨r,hr⟩
 obtain⟨c,hc,h⟩:=qtE.1 hr
 split at h
 ·cases h
 ·rename_i hn
  have n1:0<=c:=by omega
  have n2:c≠92:=fun e=>hn (.inr e)
  simp[eE,eA,h1,h2,jx,Kg,hc,n1,n2, -Bool.forall_bool, -Bool.exists_bool]
  exact Db s.bump (⟨c⟩,true) (.same _) (by simp) (by simp[Ap,hc,hn])
abbrev XQ:Spc:=WT a0 qdk OV
theorem Gp(h1:S bb=sU)(h2:S fU=s_crune)(h3:S dn=LZ):sG gd fM S a0 qdk (fun s z=>∃r,OV s z=some r) (fun s z s' y=>OV s z=some (s',y)):=by
 rintro b s ⟨⟩ ⟨r,hr⟩
 obtain⟨c,hc,h⟩:=qtE.1 hr
 split at h
 ·cases h
 ·rename_i hn
  have n1:¬c < 0:=fun e=>hn (.inl e)
  have n2:qc1 Ud c=false:=by
   cases e:qc1 Ud c with
   | false=>rfl
   | true=>exact absurd (.inr e) hn
  have hsz:=zy hc
  have h128:c < 128:=by
   rcases hsz.2 with⟨_,rfl⟩|⟨_,_,_,x,_,hlt,rfl⟩ <;> omega
  have n3:qc1 ⟨#[92,91,93,94,45]⟩ c=false:=n2
  have h4:Ap s ⟨#[92,91,93,94,45]⟩=some r:=h
  simp[gd,fM,h1,h2,h3,jx,hc,n1,n3,h4,h128, -Bool.forall_bool, -Bool.exists_bool]
  obtain⟨s',⟨c'⟩,t'⟩:=r
  intro n0
  refine⟨fun _=>⟨n0,Db s' (⟨c'⟩,t') (.same _) (by simp) (by simp[OV,hc,hn,h])⟩,fun _=>Db s' (⟨c'⟩,t') (.same _) (by simp) (by simp[OV,hc,hn,h])⟩
theorem MR{H:ab}{op mn mx:Int}{d3 d4:D}(rs:List Rng)(ks:List Rx)(h3:FrzTo H d3 (enc rs))(h4:FrzTo H d4 (enc ks)):FrzTo H (.agg [.v (.int .i64 op), .v (.int .i64 mn), .v (.int .i64 mx),d3,d4]) (enc (Rx.mk op mn mx rs ks)):=by
 rw[ZV]
 refine .agg rfl fun k c c' hc hc'=>?_
 match k with
 | 0=>cases hc;cases hc';exact .same _
 | 1=>cases hc;cases hc';exact .same _
 | 2=>cases hc;cases hc';exact .same _
 | 3=>cases hc;cases hc';exact h3
 | 4=>cases hc;cases hc';exact h4
 | k+5=>simp at hc
abbrev XP:Spc:=aS (a2 I32 I32) (fun _=>True) (enc (X:=Rx)) fun x y=>y=XK x.1.val x.2.val
theorem NF:aq wA vy S (a2 I32 I32) (fun _=>True) (enc (X:=Rx)) fun x y=>y=XK x.1.val x.2.val:=by
 rintro⟨x,y⟩ -
 simp[wA,vy,XK]
 exact fun b=>cB (Y:=Rx) ⟨1,0,0, [⟨x,y⟩], []⟩ (MR [⟨x,y⟩] [] (.same _) (.nil _)) rfl
end Go.Gv

namespace Go.Gv
open Cod (enc dec)
variable {S S0:Nat->Spc}
abbrev BA:(Rx×Bool)->D:=xb (Y:=Rx) (Z:=Bool)
abbrev XR:Spc:=WT a0 BA qdx
abbrev SL:Spc:=WT a0 BA Uk
theorem qj4{b:Nat}{post:Rp->(Rx×Bool)->Prop}{x:Rx}{v:Bool}{H:ab}(s:Rp)(h0:H 0=some (.box b (qg s)))(hq:post s (x,v)):Ds BA b post (.tup [enc x, .v (.bool v)]) H:=Db s (x,v) (.same _) h0 hq
theorem Bt{b:Nat}{post:Rp->(Rx×Bool)->Prop}{x:Rx}{v:Bool}{H:ab}(s:Rp)(h0:H 0=some (.box b (qg s)))(hq:post s (x,v)):Ds BA b post (.tup [.agg [.v (.int .i64 x.op), .v (.int .i64 x.mn), .v (.int .i64 x.mx), .list 2 (x.rs.map enc), .list 5 (x.kids.map enc)], .v (.bool v)]) H:=by
 have e:(D.agg [.v (.int .i64 x.op), .v (.int .i64 x.mn), .v (.int .i64 x.mx), .list 2 (x.rs.map enc), .list 5 (x.kids.map enc)])=enc x:=by simp
 rw[e]
 exact qj4 s h0 hq
set_option maxHeartbeats 1000000 in
theorem Lu(h1:S bb=sU)(h2:S yL=XP)(h3:S iO=XR)(h4:S fU=s_crune)(h5:S dn=LZ):sG dF dw S a0 BA (fun s z=>∃r,Uk s z=some r) (fun s z s' y=>Uk s z=some (s',y)):=by
 rintro b s ⟨⟩ ⟨r,hr⟩
 have hr0:=hr
 obtain⟨c,hc,h⟩:=qtE.1 hr
 have hsz:=zy hc
 have h128:c < 128:=by
  rcases hsz.2 with⟨_,rfl⟩|⟨_,_,_,x,_,hlt,rfl⟩ <;> omega
 split at h
 ·cases h
 rename_i e40
 split at h
 ·rename_i e46
  subst e46
  have hp:InR .i64 (s.pos+1):=by
   rcases hsz.2 with⟨_,e⟩|⟨_,_,_,x,_,hlt,e⟩
   ·cases e
   ·simp only[InR];omega
  cases h
  simp[dF,dw,h1,h2,jx,hc,hp, -Bool.forall_bool, -Bool.exists_bool]
  exact fun _=>Bt s.bump (by simp[Rp.bump]) hr0
 rename_i e46
 split at h
 ·rename_i e91
  subst e91
  obtain⟨s',x',t'⟩:=r
  simp[dF,dw,h1,h3,jx,hc,h, -Bool.forall_bool, -Bool.exists_bool]
  exact fun _=>Bt s' (by simp) hr0
 rename_i e91
 split at h
 ·cases h
 ·rename_i hn
  obtain⟨q,hq,rfl⟩:=qtR.1 h
  obtain⟨s',⟨c'⟩,t'⟩:=q
  have hq':=hq
  obtain⟨c2,hc2,h'⟩:=qtE.1 hq'
  rw[hc]at hc2
  obtain rfl:=qtV hc2
  split at h'
  ·cases h'
  rename_i hn2
  have n0:0<=c:=by omega
  have n92:c≠92:=fun e=>hn2 (.inr e)
  have nin:qc1 ⟨#[92,46,91,93,40,41,123,125,124,42,43,63]⟩ c=false:=by
   cases e:qc1 ⟨#[92,46,91,93,40,41,123,125,124,42,43,63]⟩ c with
   | false=>rfl
   | true=>exact absurd ⟨n92,e⟩ hn
  have hq2:Ap s ⟨#[92,46,91,93,40,41,123,125,124,42,43,63]⟩=some (s',⟨c'⟩,t'):=hq
  simp[dF,dw,h1,h2,h4,h5,jx,hc,e40,e46,e91,n0,n92,h128,nin,hq2, -Bool.forall_bool, -Bool.exists_bool]
  exact fun _=>Bt s' (by simp) hr0
abbrev XO:Spc:=WT a0 BA Yt
theorem Ug{p:Rp}{c:Int}(h:IP p=some c):c < 128/\ -1<=c/\(0<=c->InR .i64 (p.pos+1)):=by
 obtain⟨h1,h2⟩:=zy h
 rcases h2 with⟨_,rfl⟩|⟨_,_,_,x,_,hlt,rfl⟩
 ·exact⟨by omega,by omega,fun h=>absurd h (by omega)⟩
 ·exact⟨by omega,by omega,fun _=>by simp only[InR];omega⟩
theorem Ve{c:Int}{m:Int×Int}(h:JB c=some m):c=42/\m=(0, -1)\/c=43/\m=(1, -1)\/c=63/\m=(0,1):=by
 unfold JB at h
 split at h
 ·exact .inl ⟨by assumption,(qtV h).symm⟩
 split at h
 ·exact .inr (.inl ⟨by assumption,(qtV h).symm⟩)
 split at h
 ·exact .inr (.inr ⟨by assumption,(qtV h).symm⟩)
 cases h
theorem Kx{c:Int}(h:JB c=none):c≠42/\c≠43/\c≠63:=by
 unfold JB at h
 refine⟨fun e=>?_,fun e=>?_,fun e=>?_⟩ <;> (subst e;simp at h)
def vx(o:Option (Int×Int))(x:Rx):List D:=match o with
 | none=>[.v (.int .i64 x.op), .v (.int .i64 x.mn), .v (.int .i64 x.mx), .list 2 (x.rs.map enc), .list 5 (x.kids.map enc)]
 | some m=>[.v (.int .i64 4), .v (.int .i64 m.1), .v (.int .i64 m.2), .v (.slice none 0 0), .list 5 [enc x]]
theorem qj3{b:Nat}{post:Rp->(Rx×Bool)->Prop}{m:Int×Int}{e:Rx}{H:ab}(s:Rp)(h0:H 0=some (.box b (qg s)))(hq:post s (⟨4,m.1,m.2, [], [e]⟩,true)):Ds BA b post (.tup [.agg (vx (some m) e), .v (.bool true)]) H:=by
 refine Db s (⟨4,m.1,m.2, [], [e]⟩,true) (.tup rfl fun k c c' hc hc'=>?_) h0 hq
 match k with
 | 0=>cases hc;cases hc';exact MR [] [e] (.nil _) (.same _)
 | 1=>cases hc;cases hc';exact .same _
 | k+2=>simp at hc
set_option maxHeartbeats 2000000 in
theorem Gm(h1:S bb=sU)(h2:S jK=SL):sG gc fL S a0 BA (fun s z=>∃r,Yt s z=some r) (fun s z s' y=>Yt s z=some (s',y)):=by
 rintro b s ⟨⟩ ⟨r,hr⟩
 have hr0:=hr
 obtain⟨⟨s1,e,ok⟩,ha,h⟩:=qtE.1 hr
 simp only at h
 split at h
 rotate_left
 ·cases h
 rename_i hok
 subst hok
 obtain⟨c,hc,h⟩:=qtE.1 h
 split at h
 ·cases h
 rename_i e123
 have hcc:=Ug hc
 simp[gc,fL,h2,ha, -Bool.forall_bool, -Bool.exists_bool]
 intro b2 b4
 refine ar (X:=Option (Int×Int)) [0,2,4,5] [2] (fun o=>∀m,o=some m->JB c=some m) (fun _=>[]) (fun o=>[(0, .box b (qg (match o with|none=>s1|some _=>s1.bump))),(4, .box b4 (vx o e))]) (fun o=>match o with|none=>1|some _=>0) none (fun m h=>by cases h) (by simp) (by simp[vx]) ?_
 rintro(_|m) hP
 ·cases hm:JB c with
  | none=>
    rw[hm]at h
    cases h
    obtain⟨n1,n2,n3⟩:=Kx hm
    simp[vx,h1,jx,hc,n1,n2,n3,e123, -Bool.forall_bool, -Bool.exists_bool]
    exact Bt s1 (by simp) hr0
  | some m=>
    rcases Ve hm with⟨rfl,rfl⟩|⟨rfl,rfl⟩|⟨rfl,rfl⟩
    all_goals
     have hin:=hcc.2.2 (by omega)
     simp[vx,h1,jx,hc,hin, -Bool.forall_bool, -Bool.exists_bool]
     first
      | exact⟨some (0, -1),by simp,⟨.inl ⟨rfl,rfl,rfl,rfl⟩, .inl rfl⟩,rfl⟩
      | exact⟨some (1, -1),by simp,⟨.inl ⟨rfl,rfl,rfl,rfl⟩, .inl rfl⟩,rfl⟩
      | exact⟨some (0,1),by simp,⟨.inl ⟨rfl,rfl,rfl,rfl⟩, .inl rfl⟩,rfl⟩
 ·have hm:=hP m rfl
  rw[hm]at h
  simp only at h
  obtain⟨d,hd,h⟩:=qtE.1 h
  split at h
  ·cases h
  rename_i hn
  cases h
  have hd':d≠123/\JB d=none:=⟨fun e=>hn (.inl e),by
   cases q:JB d with
   | none=>rfl
   | some q'=>exact absurd (.inr (by rw[q];rfl)) hn⟩
  obtain⟨n1,n2,n3⟩:=Kx hd'.2
  have n4:=hd'.1
  simp[vx,h1,jx,hd,n1,n2,n3,n4, -Bool.forall_bool, -Bool.exists_bool]
  simpa [vx, -Bool.forall_bool, -Bool.exists_bool]using qj3 (e:=e) (m:=m) s1.bump (by simp) hr0
end Go.Gv

namespace Go.Gv
open Cod (enc dec)
variable {S S0:Nat->Spc}
theorem qfO{p:Rp}{q:Rp× (Rx×Bool)}(h:Yt p ()=some q):q.2.2=true:=by
 obtain⟨a,_,h⟩:=qtE.1 h
 split at h
 ·obtain⟨c,_,h⟩:=qtE.1 h
  split at h
  ·cases h
  ·split at h
   ·obtain⟨d,_,h⟩:=qtE.1 h
    split at h
    ·cases h
    ·cases h;rfl
   ·cases h;rfl
 ·cases h
theorem OI{op:Int}{l:List Rx}(h:l.length≠1):RA op l=⟨op,0,0, [],l⟩:=by
 match l,h with
 | [],_=>rfl
 | [e],h=>exact absurd rfl h
 | _::_::_,_=>rfl
theorem ZQ{b:Nat}{post:Rp->(Rx×Bool)->Prop}{op:Int}{l:List Rx}{id el:Nat}{v:Value}{H:ab}(s:Rp)(h0:H 0=some (.box b (qg s)))(hi:id≠0)(h1:H id=some (.row v el 5 (l.map enc)))(hq:post s (⟨op,0,0, [],l⟩,true)):
 Ds BA b post (.tup [.agg [.v (.int .i64 op), .v (.int .i64 0), .v (.int .i64 0), .v (.slice none 0 0), .own id v], .v (.bool true)]) H:=by
 refine Db s (⟨op,0,0, [],l⟩,true) (.tup rfl fun k c c' hc hc'=>?_) h0 hq
 match k with
 | 0=>
   cases hc;cases hc'
   refine MR [] l (.nil _) (.row (el:=el) (by simp[hi];exact h1) rfl (fun d hd=>?_) (fun k c c' hc hc'=>?_))
   ·obtain⟨x,_,rfl⟩:=qtU.1 hd
    exact⟨Cod.kn x,Cod.wid x⟩
   ·rw[hc]at hc';cases hc';exact .same _
 | 1=>cases hc;cases hc';exact .same _
 | k+2=>simp at hc
abbrev XS:Spc:=WT a0 BA qau
set_option maxHeartbeats 2000000 in
theorem Gq(h1:S bb=sU)(h2:S gQ=XO):sG ge fN S a0 BA (fun s z=>∃r,qau s z=some r) (fun s z s' y=>qau s z=some (s',y)):=by
 rintro b s ⟨⟩ ⟨r,hr⟩
 have hr0:=hr
 obtain⟨⟨s',l'⟩,hl,hr⟩:=qtR.1 hr
 simp only at hr
 subst hr
 obtain⟨c0,hc0⟩:∃c,IP s=some c:=by
  rw[P5]at hl
  obtain⟨c,hc,_⟩:=qtE.1 hl
  exact⟨c,hc⟩
 simp[ge,fN,h1,jx,hc0, -Bool.forall_bool, -Bool.exists_bool]
 intro b2
 refine ar (X:=Nat×Rp×Value×List Rx×Int) [0,2] [2] (fun z=>P5 z.1 z.2.1 z.2.2.2.1=some (s',l')/\z.2.2.2.1.length+z.1<=100/\IP z.2.1=some z.2.2.2.2) (fun z=>[(4, .own 36 z.2.2.1),(5, .v (.int .i32 z.2.2.2.2))]) (fun z=>[(0, .box b (qg z.2.1)),(36, .row z.2.2.1 xV 5 (z.2.2.2.1.map enc))]) (fun z=>z.1) (100,s, .slice none 0 0, [],c0) ⟨hl,by simp,hc0⟩ (by simp) (by simp[isNilRow]) ?_
 clear hl
 rintro⟨k,p,v,l,c⟩ ⟨hk,hlen,hc⟩
 simp only at hk hlen hc
 obtain _|k:=k
 ·rw[P5]at hk;cases hk
 rw[P5,hc]at hk
 simp only[qtY]at hk
 split at hk
 ·rename_i hend
  cases hk
  have hlt:(l'.length:Int)<=9223372036854775807:=by omega
  by_cases hl1:l'.length=1
  ·obtain⟨e,rfl⟩:∃e,l'=[e]:=qu5.1 hl1
   rcases hend with h|rfl|rfl
   ·have h':¬0<=c:=by omega
    simp[h', -Bool.forall_bool, -Bool.exists_bool]
    exact Bt s' (by simp) hr0
   all_goals
    simp[-Bool.forall_bool, -Bool.exists_bool]
    exact Bt s' (by simp) hr0
  ·rw[OI hl1]at hr0
   have hl1':¬ (l'.length:Int)=1:=by omega
   rcases hend with h|rfl|rfl
   ·have h':¬0<=c:=by omega
    simp[h',hl1,hl1',hlt, -Bool.forall_bool, -Bool.exists_bool]
    exact ZQ (el:=xV) s' (by simp) (by decide) (by simp) hr0
   all_goals
    simp[hl1,hl1',hlt, -Bool.forall_bool, -Bool.exists_bool]
    exact ZQ (el:=xV) s' (by simp) (by decide) (by simp) hr0
 ·rename_i hgo
  obtain⟨q,hq,hk⟩:=qtE.1 hk
  split at hk
  ·cases hk
  rename_i hop
  have hok:=qfO hq
  obtain⟨p',e,ok⟩:=q
  simp only at hk hok hop
  subst hok
  have n1:0<=c:=by omega
  have n2:c≠124:=by omega
  have n3:c≠41:=by omega
  obtain⟨c1,hc1⟩:∃c,IP p'=some c:=by
   obtain _|k:=k
   ·rw[P5]at hk;cases hk
   rw[P5]at hk
   obtain⟨c,hc,_⟩:=qtE.1 hk
   exact⟨c,hc⟩
  simp[h1,h2,jx,hc1,hq,n1,n2,n3,hop, -Bool.forall_bool, -Bool.exists_bool]
  exact⟨by omega,by omega,fun v=>⟨k,p',v,l++ [e],c1,⟨hk,by simp;omega,hc1⟩,⟨⟨rfl,rfl⟩, .inl ⟨rfl,rfl,rfl,rfl⟩, .inl ⟨rfl,by simp⟩⟩,by omega⟩⟩
theorem qg2{p:Rp}{q:Rp× (Rx×Bool)}(h:qau p ()=some q):q.2.2=true:=by
 obtain⟨a,_,rfl⟩:=qtR.1 h
 rfl
abbrev XN:Spc:=WT a0 BA qbX
set_option maxHeartbeats 2000000 in
theorem I5(h1:S bb=sU)(h2:S gS=XS):sG gV gI S a0 BA (fun s z=>∃r,qbX s z=some r) (fun s z s' y=>qbX s z=some (s',y)):=by
 rintro b s ⟨⟩ ⟨r,hr⟩
 have hr0:=hr
 obtain⟨⟨s',l'⟩,hl,hr⟩:=qtR.1 hr
 simp only at hr
 subst hr
 simp[gV,gI, -Bool.forall_bool, -Bool.exists_bool]
 intro b2
 refine ar (X:=Nat×Rp×Value×List Rx) [0,2] [2] (fun z=>Xo z.1 z.2.1 z.2.2.2=some (s',l')/\z.2.2.2.length+z.1<=100) (fun z=>[(4, .own 25 z.2.2.1)]) (fun z=>[(0, .box b (qg z.2.1)),(25, .row z.2.2.1 xV 5 (z.2.2.2.map enc))]) (fun z=>z.1) (100,s, .slice none 0 0, []) ⟨hl,by simp⟩ (by simp) (by simp[isNilRow]) ?_
 clear hl
 rintro⟨k,p,v,l⟩ ⟨hk,hlen⟩
 simp only at hk hlen
 obtain _|k:=k
 ·rw[Xo]at hk;cases hk
 rw[Xo]at hk
 obtain⟨⟨p',e,ok⟩,hq,hk2⟩:=qtE.1 hk
 clear hk
 obtain⟨c,hc,hk3⟩:=qtE.1 hk2
 clear hk2
 have hok:=qg2 hq
 simp only at hok hc hk3
 subst hok
 have hop:¬e.op=3:=fun h=>by rw[if_pos h]at hk3;cases hk3
 rw[if_neg hop]at hk3
 have hcc:=Ug hc
 by_cases hc124:c=124
 ·rw[if_pos hc124]at hk3
  have hk:=hk3
  subst hc124
  have hin:=hcc.2.2 (by omega)
  simp[h1,h2,jx,hc,hq,hop,hin, -Bool.forall_bool, -Bool.exists_bool]
  exact⟨by omega,by omega,fun v=>⟨k,p'.bump,v,l++ [e],⟨hk,by simp;omega⟩,⟨rfl, .inl ⟨rfl,rfl,rfl,rfl⟩, .inl ⟨rfl,by simp⟩⟩,by omega⟩⟩
 ·rw[if_neg hc124]at hk3
  cases hk3
  have hlt:((l++ [e]).length:Int)<=9223372036854775807:=by simp;omega
  have hcc':¬c=124:=hc124
  cases l with
  | nil=>
    simp[h1,h2,jx,hc,hq,hop,hcc', -Bool.forall_bool, -Bool.exists_bool]
    exact fun v=>Bt s' (by simp) hr0
  | cons x l=>
    simp[h1,h2,jx,hc,hq,hop,hcc', -Bool.forall_bool, -Bool.exists_bool]
    have hr1:=hr0
    rw[OI (by simp)]at hr1
    exact⟨by simp at hlen;omega,by simp at hlen;omega,fun v _=>⟨fun h=>absurd h (by omega),fun _=>ZQ (el:=xV) (l:=x::l++ [e]) s' (by simp) (by decide) (by simp) hr1⟩⟩
end Go.Gv

namespace Go.Gv
open Go.Proofs
def fh:CC:=gq Tryz.f350 [] {} _
def eZ:List aj:=[]
theorem tO:am Tryz.prog dH [] fh eZ 14:=fo
def df:CC:=gq Tryz.f358 [] {} _
def cX:List aj:=[]
theorem nO:am Tryz.prog dy [] df cX 148:=fo
def bW:CC:=gq Tryz.f360 [] {} _
def bU:List aj:=[]
theorem jH:am Tryz.prog ci [] bW bU 53:=fo
def ol:CC:=gq Tryz.f136 [] {} _
def nG:List aj:=[.tmp 2]
theorem D4:am Tryz.prog qa [] ol nG 8:=fo
def ll:CC:=gq Tryz.f195 [] {} _
def kM:List aj:=[.tmp 2]
theorem A4:am Tryz.prog mM [] ll kM 25:=fo
def jU:CC:=gq Tryz.f352 [] {} _
def jG:List aj:=[.tmp 4]
theorem Ac:am Tryz.prog kW [] jU jG 20:=fo
def np:CC:=gq Tryz.f359 [] {} _
def ms:List aj:=[.tmp 2]
theorem CV:am Tryz.prog oa [] np ms 6:=fo
def mT:CC:=gq Tryz.f351 [2,3] {} _
def lR:List aj:=[.tmp 4]
theorem CA:am Tryz.prog cv [2,3] mT lR 10:=fo
def qh:CC:=gq Tryz.f336 [2044048] { bx:=[0] } _
def pI:List aj:=[.tmp 2]
theorem FE:am Tryz.prog rL [2044048] qh pI 51:=fo
end Go.Gv
