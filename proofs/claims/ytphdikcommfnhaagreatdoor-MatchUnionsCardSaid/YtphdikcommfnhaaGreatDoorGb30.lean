/- A part of the framework and of the walks: W159 W154 W155 T31 C51 W130 W131. -/
import Derived.Test.YtphdikcommfnhaaGreatDoorGb29
import Derived.Test.YtphdikcommfnhaaGreatDoorGb28
import Derived.Test.YtphdikcommfnhaaGreatDoorGb26
import Derived.Test.YtphdikcommfnhaaGreatDoorGb27
import Derived.Test.YtphdikcommfnhaaGreatDoorGb20
set_option linter.unusedSimpArgs false
set_option linter.unusedVariables false
set_option maxRecDepth 100000
set_option linter.unusedSectionVars false
set_option maxHeartbeats 0

namespace Go.Gv
open Cod (enc dec)
variable {S S0:Nat->Spc}
def ND(c:Int):Bool:=(decide (65<=c) && decide (c<=90))||(decide (97<=c) && decide (c<=122))||decide (c=95)
def qhg(c:Int):Bool:=ND c||(decide (48<=c) && decide (c<=57))||decide (c=45)
abbrev ON:Spc:=bp (a1 U8) (fun _=>True) (enc (X:=Bool)) fun c y=>y=ND c.val
theorem DU:ar nL mO S (a1 U8) (fun _=>True) (enc (X:=Bool)) fun c y=>y=ND c.val:=by
 rintro⟨c⟩ -
 by_cases h1:(65:Int)<=c <;> by_cases h2:c<=90 <;> by_cases h3:(97:Int)<=c <;> by_cases h4:c<=122 <;> by_cases h5:c=95 <;>
  simp[nL,mO,ND,h1,h2,h3,h4,h5, -Bool.forall_bool, -Bool.exists_bool]
abbrev Ec:Spc:=bp (a1 U8) (fun _=>True) (enc (X:=Bool)) fun c y=>y=qhg c.val
theorem DT(h0:S aY=ON):ar nK mN S (a1 U8) (fun _=>True) (enc (X:=Bool)) fun c y=>y=qhg c.val:=by
 rintro⟨c⟩ -
 cases hb:ND c <;> by_cases h1:(48:Int)<=c <;> by_cases h2:c<=57 <;> by_cases h3:c=45 <;>
  simp[nK,mN,qhg,h0,hb,h1,h2,h3, -Bool.forall_bool, -Bool.exists_bool]
theorem qac(c:UInt8):Uu c=ND (c.toNat:Int):=by
 unfold Uu ND
 rw[qtA]
 simp
 omega
theorem qi7(c:UInt8):qo9 c=qhg (c.toNat:Int):=by
 unfold qo9 qhg
 rw[qac]
 cases ND (c.toNat:Int)
 ·rw[qtA]
  simp
  omega
 ·simp
theorem Ad(h1:S aY=ON)(h2:S cK=Ec):ar jx jg S (a1 B) (fun s=>EA s=true) (enc (X:=Bool)) fun _ y=>y=true:=by
 rintro s hs
 have hs:EA s=true:=hs
 unfold EA at hs
 simp only[qs1,decide_eq_true_eq]at hs
 obtain⟨⟨⟨q1,q2⟩,q3⟩,q4⟩:=hs
 simp[jx,jg,h1,h2, -Bool.forall_bool, -Bool.exists_bool]
 have r1:(1:Int)<=(s.size:Int):=by omega
 have r2:(s.size:Int)<=32:=by omega
 have r3:(s.size:Int)<=9223372036854775807:=by omega
 have hsl:s.data.toList.length=s.size:=qtj
 refine fun _=>⟨fun _ _=>⟨fun _=>⟨by omega,fun c hc=>?_⟩,r2⟩,r1⟩
 have hc':s.data.toList[0]? =some c:=by rw[qtn];exact hc
 have hb:ND (c.toNat:Int)=true:=by
  rw[<-qac]
  cases hl:s.data.toList with
  | nil=>rw[hl]at hc';cases hc'
  | cons d l=>
    rw[hl]at hc' q3
    cases hc'
    exact q3
 refine⟨hb,fun _ _=>?_⟩
 refine ak (X:=Unit) [0] [] s.size (fun _ _=>True) (fun _=>[]) (fun _=>[]) () (by simp) (by simp) (by omega) (by simp) (by simp) trivial (by simp) (by simp) ?_ ?_
 ·rintro k -hk -
  obtain⟨d,hd⟩:=xm (show k < s.data.toList.length by omega)
  have hg:qhg (d.toNat:Int)=true:=by rw[<-qi7];exact qsX.1 q4 d (qsW hd)
  have hd':s.data[k]? =some d:=by rw[<-qtn];exact hd
  obtain⟨_,hgd⟩:=qs0.1 hd'
  simp[hk,hd',hgd,hg,h2, -Bool.forall_bool, -Bool.exists_bool]
 ·rintro - -
  simp[-Bool.forall_bool, -Bool.exists_bool]
theorem Ac(h1:S fy=s_cpVal):ar jw je S (a1 B) (fun s=>yX s=true) (enc (X:=Int)) fun _ y=>y=0:=by
 rintro s hs
 have hs:yX s=true:=hs
 unfold yX at hs
 simp only[qs1,decide_eq_true_eq]at hs
 obtain⟨q1,q2⟩:=hs
 have ha:uO s=true:=by
  unfold uO
  refine qsX.2 fun c hc=>?_
  have:=qsX.1 q2 c hc
  simp at this
  simp
  omega
 have r1:(s.size:Int)<=120:=by omega
 have r2:(s.size:Int)<=9223372036854775807:=by omega
 have r3:s.size<=1000:=by omega
 have r4:¬ (120:Int) < (s.size:Int):=by omega
 simp[jw,je,h1,ha,r1,r2,r3,r4, -Bool.forall_bool, -Bool.exists_bool]
 intro b
 refine av (X:=Nat) [] [] (fun p=>p<=s.size) (fun p=>[(14, .bptr 14 b 0)]) (fun p=>[(14, .iter b s p)]) (fun p=>s.size -p) 0 (qtl _) (by simp) (by simp) ?_
 rintro p hp
 by_cases hlt:p < s.size
 ·obtain⟨c,hc,hc128,hdec⟩:=Fb ha hlt
  have hcm:=qsX.1 q2 c (qsW hc)
  simp at hcm
  have n1:¬ (c.toNat:Int)<=31:=by omega
  have n2:¬ (c.toNat:Int)=127:=by omega
  simp[hlt,hdec,n1,n2, -Bool.forall_bool, -Bool.exists_bool]
  exact⟨p+1,by omega, .inl rfl,by omega⟩
 ·have hpe:p=s.size:=by omega
  subst hpe
  simp[-Bool.forall_bool, -Bool.exists_bool]
end Go.Gv

namespace Go.Gv
open Cod (enc dec)
variable {S S0:Nat->Spc}
def qdv(x:Cond×List Attr×List B):List D:=[enc x.1, .cptr [enc x.2.1] 0, .cptr [enc x.2.2] 0]
theorem Tm(z z':Cond×List Attr×List B)(h:qdv z=qdv z'):z=z':=by
 obtain⟨a,s,l⟩:=z
 obtain⟨a',s',l'⟩:=z'
 unfold qdv at h
 simp only[qti,D.cptr.injEq,and_true]at h
 rw[aL h.1,aL h.2.1,aL h.2.2]
noncomputable abbrev aVd:dc (Cond×List Attr×List B):=aX qdv Tm
@[simp] theorem qkx(x:Cond)(a:List Attr)(lb:List B):aVd.dec [.agg [.v (.int .i64 x.op), .v (.string x.name), .v (.string x.arg), .v (.string x.val), .v (.string x.lab), .v (.bool x.fold), .list 7 (x.kids.map enc)], .cptr [.list 2 (a.map enc)] 0, .cptr [.list 1 (lb.map enc)] 0]=some (x,a,lb):=by
 have h:=BO qdv Tm (x,a,lb)
 have e:qdv (x,a,lb)=[.agg [.v (.int .i64 x.op), .v (.string x.name), .v (.string x.arg), .v (.string x.val), .v (.string x.lab), .v (.bool x.fold), .list 7 (x.kids.map enc)], .cptr [.list 2 (a.map enc)] 0, .cptr [.list 1 (lb.map enc)] 0]:=by simp[qdv]
 rw[<-e]
 exact h
noncomputable abbrev Mu:Spc:=bp aVd (fun x=>nW x.2.1 x.2.2 x.1=true/\x.2.1.length<=1000) (enc (X:=Int)) fun _ y=>y=0
theorem vI(h1:S iU=HI):ar fZ fU S aVd (fun x=>nW x.2.1 x.2.2 x.1=true/\x.2.1.length<=1000) (enc (X:=Int)) fun _ y=>y=0:=by
 rintro⟨x,a,lb⟩ ⟨hx,hl⟩
 simp only at hx hl
 rw[Aa]
 simp[qdv,fZ,fU,h1,hx,hl, -Bool.forall_bool, -Bool.exists_bool]
def qj8(n:Nat)(x:Cond×D×Unit):Prop:=∃ (a:List Attr) (lb:List B),x.2.1= .clo bK [.cptr [enc a] 0, .cptr [enc lb] 0]/\qR a lb n x.1=true/\a.length<=1000/\oz x.1<=60
noncomputable abbrev HD(n:Nat):Spc:=bp (aE Cond (aD a0)) (qj8 n) (enc (X:=Int)) fun x y=>y=0
noncomputable abbrev HC:Spc:=bp (aE Cond (aD a0)) (fun x=>∃n,qj8 n x) (enc (X:=Int)) fun x y=>y=0
theorem B1(n:Nat)(h1:S bK=Mu)(h2:S dw=HD n):ar nP mS S (aE Cond (aD a0)) (qj8 (n+1)) (enc (X:=Int)) fun x y=>y=0:=by
 rintro⟨x,d,⟨⟩⟩ ⟨a,lb,hd,hx,hl,hn⟩
 simp only at hd hx hn
 subst hd
 simp only[qR,qs1]at hx
 obtain⟨hx1,hx2⟩:=hx
 simp[nP,mS,h1,hx1,hl, -Bool.forall_bool, -Bool.exists_bool]
 intro hkl
 refine ak (X:=Unit) [1,16] [] x.kids.length (fun k _=>True) (fun _=>[]) (fun _=>[]) () (by simp) (by simp) (by omega) (by simp) (by simp) (by simp) (by simp) (by simp) ?_ ?_
 ·rintro k -hk -
  obtain⟨y,hy⟩:=xm hk
  obtain⟨_,hgy⟩:=qsT.1 hy
  have hm:=qsW hy
  have hny:=K0 hm
  have hnx:=Gx x
  have hp:qj8 n (y, .clo bK [.cptr [.list 2 (a.map enc)] 0, .cptr [.list 1 (lb.map enc)] 0],()):=⟨a,lb,rfl,qsX.1 hx2 y hm,hl,by show oz y<=60;omega⟩
  simp[h2,hk,hy,hgy,hp, -Bool.forall_bool, -Bool.exists_bool]
 ·rintro - -
  simp[-Bool.forall_bool, -Bool.exists_bool]
abbrev Tf(x:Cond×List Attr×List B):Prop:=qfg x.2.1 x.2.2 x.1=true/\x.2.1.length<=1000
abbrev RY:Spc:=bp (a3 Cond (List Attr) (List B)) Tf (enc (X:=Int)) fun _ y=>y=0
theorem yj(h1:S cv=HH)(h2:S dw=HC):ar iD iw S (a3 Cond (List Attr) (List B)) Tf (enc (X:=Int)) fun _ y=>y=0:=by
 rintro⟨x,a,lb⟩ ⟨hx,hl⟩
 simp only at hx hl
 unfold qfg at hx
 simp at hx
 obtain⟨⟨hn,hd⟩,ha⟩:=hx
 have hp:∃n,qj9 n (x,0,1):=⟨lT x,qs2 _,quI _,by show(0:Int) +oz x<=60;omega,by show(0:Int)<=1;omega,by show(1:Int) +lT x<=1000;omega,by show lT x<=60;omega⟩
 have hw:∃n,qj8 n (x, .clo bK [.cptr [.list 2 (a.map enc)] 0, .cptr [.list 1 (lb.map enc)] 0],()):=⟨20,a,lb,rfl,ha,hl,hn⟩
 have q1:¬ (60:Int) < (oz x:Int):=by omega
 have q2:¬ (20:Int) < 1+ (lT x:Int) -1:=by omega
 simp[iD,iw,h1,h2,hp,hw,q1,q2, -Bool.forall_bool, -Bool.exists_bool]
end Go.Gv

namespace Go.Gv
open Cod (enc dec)
variable {S S0:Nat->Spc}
def Y7(l:List Pair)(s:Pair):Bool:=l.any fun z=>decide (z=s)
abbrev Mp:Spc:=bp (a2 (List Pair) Pair) (fun _=>True) (enc (X:=Int)) fun x y=>y=gy x.1 fun z=>decide (z=x.2)
abbrev Ms:Spc:=bp (a2 (List Pair) Pair) (fun _=>True) (enc (X:=Bool)) fun x y=>y=Y7 x.1 x.2
theorem LU:ar jt ja S (a2 (List Pair) Pair) (fun _=>True) (enc (X:=Int)) fun x y=>y=gy x.1 fun z=>decide (z=x.2):=by
 rintro⟨l,s⟩ -
 simp[jt,ja, -Bool.forall_bool, -Bool.exists_bool]
 intro _
 refine ak (X:=Unit) [0,3] [] l.length (fun k _=>∀x∈l.take k,decide (x=s)=false) (fun _=>[]) (fun _=>[]) () (by simp) (by simp) (by omega) (by simp) (by simp) (by simp) (by simp) (by simp) ?_ ?_
 ·intro k _ hk hP
  obtain⟨x,hx⟩:=xm hk
  obtain⟨_,hgx⟩:=qsT.1 hx
  simp[hk,hx,hgx, -Bool.forall_bool, -Bool.exists_bool]
  have hpe:s.nm=x.nm->s.vl=x.vl->x=s:=fun h1 h2=>by
   obtain⟨a,b⟩:=x
   obtain⟨a',b'⟩:=s
   simp only at h1 h2
   rw[h1,h2]
  refine⟨fun h1 h2=>(tH hx (by simp[hpe h1 h2]) hP).symm,fun h=>?_⟩
  rw[cO hx]
  intro z hz
  rcases qsZ.1 hz with hz|hz
  ·have:=hP z hz
   simpa using this
  ·simp at hz;subst hz
   intro e
   subst e
   exact h rfl rfl
 ·intro _ hP
  simp[-Bool.forall_bool, -Bool.exists_bool]
  exact(mf (by simpa using hP)).symm
theorem FS(h1:S fL=Mp):ar fY fT S (a2 (List Pair) Pair) (fun _=>True) (enc (X:=Bool)) fun x y=>y=Y7 x.1 x.2:=by
 rintro⟨l,s⟩ -
 simp[fY,fT,h1, -Bool.forall_bool, -Bool.exists_bool]
 exact tG _ l
def HU(x:Cond)(tok:Int)(r:Region):Bool:=decide (r.ty=x.name) && decide (r.b<=tok) && decide (tok < r.e) && (decide (x.arg=qP)||Y7 r.kv ⟨x.arg,x.val⟩)
def WY(x:Cond):List D:=[.v (.int .i64 x.op), .v (.string x.name), .v (.string x.arg), .v (.string x.val), .v (.string x.lab), .v (.bool x.fold), .list 7 (x.kids.map enc)]
theorem Uq(x:Cond): .agg (WY x)=enc x:=by simp[WY]
theorem qc2{x y:Cond}(h:WY x=WY y):x=y:=aL (by rw[<-Uq,<-Uq,h])
def qaZ(x:Region×Cond×Int):List D:=[enc x.1, .cptr (WY x.2.1) 0, .cptr [enc x.2.2] 0]
theorem Tn(z z':Region×Cond×Int)(h:qaZ z=qaZ z'):z=z':=by
 obtain⟨a,s,l⟩:=z
 obtain⟨a',s',l'⟩:=z'
 unfold qaZ at h
 simp only[qti,D.cptr.injEq,and_true]at h
 rw[aL h.1,qc2 h.2.1,aL h.2.2]
noncomputable abbrev qr4:dc (Region×Cond×Int):=aX qaZ Tn
noncomputable abbrev tB:Spc:=bp qr4 (fun _=>True) (enc (X:=Bool)) fun x y=>y=HU x.2.1 x.2.2 x.1
theorem yh(h1:S ei=Ms):ar bS bP S qr4 (fun _=>True) (enc (X:=Bool)) fun x y=>y=HU x.2.1 x.2.2 x.1:=by
 rintro⟨r,x,tok⟩ -
 rw[Aa]
 by_cases e1:r.ty=x.name
 rotate_left
 ·simp[qaZ,WY,bS,bP,HU,e1, -Bool.forall_bool, -Bool.exists_bool]
 by_cases e2:r.b<=tok
 rotate_left
 ·simp[qaZ,WY,bS,bP,HU,e1,e2, -Bool.forall_bool, -Bool.exists_bool]
 by_cases e3:tok < r.e
 rotate_left
 ·simp[qaZ,WY,bS,bP,HU,e1,e2,e3, -Bool.forall_bool, -Bool.exists_bool]
 by_cases e4:x.arg=qP
 ·have e4':x.arg=⟨#[]⟩:=e4
  simp[qaZ,WY,bS,bP,HU,e1,e2,e3,e4,e4',qP, -Bool.forall_bool, -Bool.exists_bool]
 ·have e4':¬x.arg=⟨#[]⟩:=e4
  simp[qaZ,WY,bS,bP,HU,h1,e1,e2,e3,e4,e4', -Bool.forall_bool, -Bool.exists_bool]
abbrev RS:Spc:=bp (a3 Corpus Cond Int) (fun _=>True) (enc (X:=Bool)) fun x y=>y=x.1.regs.any (HU x.2.1 x.2.2)
theorem AN(h0:S0 aV=tB)(h1:S aO=My Region S0):ar kM kD S (a3 Corpus Cond Int) (fun _=>True) (enc (X:=Bool)) fun x y=>y=x.1.regs.any (HU x.2.1 x.2.2):=by
 rintro⟨c,x,tok⟩ -
 have hf:FunOn S0 (.clo aV [.cptr (WY x) 0, .cptr [enc tok] 0]) c.regs (HU x tok):=
  vv (f:=fun r=>(r,x,tok)) h0 (fun r _=>BO qaZ Tn (r,x,tok)) (fun _ _=>trivial) (fun r _ y hy=>hy)
 unfold WY at hf
 simp[kM,kD,h1, -Bool.forall_bool, -Bool.exists_bool]
 exact⟨⟨_,hf⟩,fun y hy=>hy _ hf⟩
end Go.Gv

namespace Go.Gv
open Cod (enc dec)
@[simp] theorem qpr(s:Rp):Rp.mk s.s s.pos s.fault s.e=s:=by cases s;rfl
def qA(s:Rp):List D:=[enc s.s,enc s.pos,enc s.fault,enc s.e]
@[simp] theorem qmO(s:Rp):qA s=[enc s.s,enc s.pos,enc s.fault,enc s.e]:=id rfl
section
variable {Y Z:Type}
def qeZ:JA Rp:=Gp qA
def qnX(A:dc Z)(er:Y->D)(pre:Rp->Z->Prop)(post:Rp->Z->Rp->Y->Prop):Spc:=qjT qeZ A er pre post
def qq0(er:Y->D)(pre:Rp->Z->Prop)(post:Rp->Z->Rp->Y->Prop)(id b:Nat)(r:Option Res)(o:Option Z)(H:ab)(K:D->ab->Prop):Prop:=
 ∃x,r=some (.box b (qA x))/\dI o fun z=>pre x z/\∀x' y,post x z x' y->K (er y) (ah H id (some (.box b (qA x'))))
theorem Z5{x y:Rp}(h:qA x=qA y):x=y:=by
 obtain⟨l,a,d,e⟩:=x
 obtain⟨l',a',d',e'⟩:=y
 simp only[qA,qti]at h
 obtain⟨h1,h2,h3,h4,_⟩:=h
 have h1:=aL h1
 have h2:=aL h2
 have h3:=aL h3
 have h4:=aL h4
 subst h1;subst h2;subst h3;subst h4
 rfl
@[simp] theorem qeY(A:dc Z)(er:Y->D)(pre:Rp->Z->Prop)(post:Rp->Z->Rp->Y->Prop)(d i b:Nat)(ds:List D)(H:ab)(K:D->ab->Prop):(qnX A er pre post).pt d (.bptr i b 0::ds) H K=qq0 er pre post i b (H i) (A.dec ds) H K:=by
 refine propext ⟨fun h=>?_,fun h=>?_⟩
 ·obtain⟨id,b',x,z,ds',h1,h2,h3,h4,h5,h6,h7⟩:=h
  cases h1
  refine⟨x,h3,?_⟩
  rw[h2]
  exact⟨h6,h7⟩
 ·obtain⟨x,h1,h2⟩:=h
  cases hz:A.dec ds with
  | none=>rw[hz]at h2;exact h2.elim
  | some z=>rw[hz]at h2;exact⟨i,b,x,z,ds,rfl,hz,h1,fun p hp=>by simp[qeZ,Gp]at hp,by simp[qeZ,Gp],h2.1,h2.2⟩
def DH(er:Y->D)(b:Nat)(post:Rp->Y->Prop)(r:D)(H:ab):Prop:=Lz qeZ er b post r H
theorem Dn{er:Y->D}{b:Nat}{post:Rp->Y->Prop}{r:D}{H:ab}(x:Rp)(y:Y)(hr:FrzTo (fun i=>if i=0 then none else H i) r (er y))(h0:H 0=some (.box b (qA x)))(hq:post x y):DH er b post r H:=
 ⟨x,y,by simpa [qeZ,Gp]using hr,h0,fun p hp=>by simp[qeZ,Gp]at hp,hq⟩
def th(cc:CC)(rs:List aj)(S:Nat->Spc)(A:dc Z)(er:Y->D)(pre:Rp->Z->Prop)(post:Rp->Z->Rp->Y->Prop):Prop:=
 ∀b x z,pre x z->vc S cc (sy rs fun r H'=>DH er b (post x z) r H') (dh (.bptr 0 b 0::A.view z)) (ah bU 0 (some (.box b (qA x))))
variable {P:Program}{S:Nat->Spc}{f:Nat}{im:List Nat}{cc:CC}{rs:List aj}{N:Nat}
theorem Q4{A:dc Z}{er:Y->D}{pre:Rp->Z->Prop}{post:Rp->Z->Rp->Y->Prop}(hS:∀f,Tri P f (S f).pt)(h:aq P f im cc rs N)(hN:∀z,(A.view z).length+1<=N)(hw:th cc rs S A er pre post):Tri P f (qnX A er pre post).pt:=
 vM (by simp[qeZ,Gp]) hS h hN fun b x z hp=>hw b x z hp
end
section
variable {Y Z:Type}
def WV(A:dc Z)(er:Y->D)(F:Rp->Z->Option (Rp×Y)):Spc:=qnX A er (fun s z=>∃r,F s z=some r) (fun s z s' y=>F s z=some (s',y))
def X0(er:Y->D)(F:Rp->Z->Option (Rp×Y))(id b:Nat)(r:Option Res)(o:Option Z)(H:ab)(K:D->ab->Prop):Prop:=
 ∃x,r=some (.box b (qA x))/\dI o fun z=>dI (F x z) fun q=>K (er q.2) (ah H id (some (.box b (qA q.1))))
@[congr] theorem qkR{er:Y->D}{F:Rp->Z->Option (Rp×Y)}{id b:Nat}{r r':Option Res}{o o':Option Z}{H:ab}{K:D->ab->Prop}(h1:r=r')(h2:o=o'):X0 er F id b r o H K=X0 er F id b r' o' H K:=by subst h1;subst h2;rfl
theorem qfa{F:Option (Rp×Y)}{k:Rp->Y->Prop} :((∃r,F=some r)/\∀x' y,F=some (x',y)->k x' y)=dI F fun q=>k q.1 q.2:=by
 cases F with
 | none=>
   refine propext (Iff.intro (fun h=>?_) (fun h=>?_))
   ·obtain⟨⟨r,h⟩,_⟩:=h
    cases h
   ·exact False.elim h
 | some r=>
   refine propext (Iff.intro (fun h=>h.2 _ _ rfl) (fun h=>⟨⟨_,rfl⟩,fun x' y e=>?_⟩))
   cases e
   exact h
@[simp] theorem qnV(A:dc Z)(er:Y->D)(F:Rp->Z->Option (Rp×Y))(d i b:Nat)(ds:List D)(H:ab)(K:D->ab->Prop):(WV A er F).pt d (.bptr i b 0::ds) H K=X0 er F i b (H i) (A.dec ds) H K:=by
 unfold WV X0
 rw[qeY]
 unfold qq0
 refine propext (exists_congr fun x=>and_congr_right fun _=>?_)
 cases A.dec ds with
 | none=>exact qtT
 | some z=>exact iff_of_eq qfa
@[simp] theorem qnW(er:Y->D)(F:Rp->Z->Option (Rp×Y))(id b:Nat)(l:B)(p dp e:Int)(o:Option Z)(H:ab)(K:D->ab->Prop):
 X0 er F id b (some (.box b [.v (.string l), .v (.int .i64 p), .v (.int .i64 dp), .v (.int .i64 e)])) o H K=dI o fun z=>dI (F ⟨l,p,dp,e⟩ z) fun q=>K (er q.2) (ah H id (some (.box b (qA q.1)))):=by
 refine propext ⟨fun⟨x,h1,h2⟩=>?_,fun h=>⟨⟨l,p,dp,e⟩,rfl,h⟩⟩
 have e1:qA ⟨l,p,dp,e⟩=qA x:=by
  have:=qs8 h1
  exact(Res.box.inj this).2
 have:=Z5 e1
 subst this
 exact h2
variable {P:Program}{S:Nat->Spc}{f:Nat}{im:List Nat}{cc:CC}{rs:List aj}{N:Nat}
theorem fa{A:dc Z}{er:Y->D}{F:Rp->Z->Option (Rp×Y)}(hS:∀f,Tri P f (S f).pt)(h:aq P f im cc rs N)(hN:∀z,(A.view z).length+1<=N)
 (hw:th cc rs S A er (fun s z=>∃r,F s z=some r) (fun s z s' y=>F s z=some (s',y))):Tri P f (WV A er F).pt:=Q4 hS h hN hw
end
end Go.Gv

namespace Go.Gv
open Go.Proofs
def fA:CC:=by refine(fun(_:G.ap (G.gn Tryz.prog Tryz.f276 [] { ke:=[0] })=?c)=>?c) ?h;case h=>conv=>lhs; (conv=>arg 1;reduce);dsimp only[G.ap]
def ff:List aj:=[.tmp 2]
theorem yM:aq Tryz.prog aw [] fA ff 29:=ai mixed (by kernel_rfl)
def jv:CC:=by refine(fun(_:G.ap (G.gn Tryz.prog Tryz.f339 [] { bx:=[0] })=?c)=>?c) ?h;case h=>conv=>lhs; (conv=>arg 1;reduce);dsimp only[G.ap]
def jd:List aj:=[]
theorem yL:aq Tryz.prog fM [] jv jd 25:=ai mixed (by kernel_rfl)
def eV:CC:=by refine(fun(_:G.ap (G.gn Tryz.prog Tryz.f329 [] { bx:=[0] })=?c)=>?c) ?h;case h=>conv=>lhs; (conv=>arg 1;reduce);dsimp only[G.ap]
def eS:List aj:=[.tmp 4, .tmp 5]
theorem tr:aq Tryz.prog bO [] eV eS 37:=ai mixed (by kernel_rfl)
def gK:CC:=by refine(fun(_:G.ap (G.gn Tryz.prog Tryz.f335 [] { bx:=[0] })=?c)=>?c) ?h;case h=>conv=>lhs; (conv=>arg 1;reduce);dsimp only[G.ap]
def gp:List aj:=[.tmp 2, .tmp 3]
theorem wt:aq Tryz.prog eN [] gK gp 27:=ai mixed (by kernel_rfl)
def wR:CC:=by refine(fun(_:G.ap (G.gn Tryz.prog Tryz.f326 [] {})=?c)=>?c) ?h;case h=>conv=>lhs; (conv=>arg 1;reduce);dsimp only[G.ap]
def vV:List aj:=[.cell 4 true 5]
theorem MI:aq Tryz.prog tK [] wR vV 10:=ai mixed (by kernel_rfl)
def dN:CC:=by refine(fun(_:G.ap (G.gn Tryz.prog Tryz.f313 [2002002] { bx:=[0] })=?c)=>?c) ?h;case h=>conv=>lhs; (conv=>arg 1;reduce);dsimp only[G.ap]
def dH:List aj:=[.cell 2 true 5, .tmp 3]
theorem yN:aq Tryz.prog fN [2002002] dN dH 72:=ai mixed (by kernel_rfl)
def iz:CC:=by refine(fun(_:G.ap (G.gn Tryz.prog Tryz.f327 [] { ke:=[0] })=?c)=>?c) ?h;case h=>conv=>lhs; (conv=>arg 1;reduce);dsimp only[G.ap]
def iq:List aj:=[.cell 2 true 5, .tmp 3]
theorem xP:aq Tryz.prog fm [] iz iq 108:=ai mixed (by kernel_rfl)
def gJ:CC:=by refine(fun(_:G.ap (G.gn Tryz.prog Tryz.f298 [] { bx:=[0] })=?c)=>?c) ?h;case h=>conv=>lhs; (conv=>arg 1;reduce);dsimp only[G.ap]
def gm:List aj:=[.cell 2 true 5, .tmp 3]
theorem ws:aq Tryz.prog eM [] gJ gm 54:=ai mixed (by kernel_rfl)
def gL:CC:=by refine(fun(_:G.ap (G.gn Tryz.prog Tryz.f275 [] { ke:=[0] })=?c)=>?c) ?h;case h=>conv=>lhs; (conv=>arg 1;reduce);dsimp only[G.ap]
def gq:List aj:=[.cell 2 true 5, .tmp 3]
theorem wu:aq Tryz.prog eO [] gL gq 49:=ai mixed (by kernel_rfl)
def iy:CC:=by refine(fun(_:G.ap (G.gn Tryz.prog Tryz.f255 [] { ke:=[0] })=?c)=>?c) ?h;case h=>conv=>lhs; (conv=>arg 1;reduce);dsimp only[G.ap]
def ip:List aj:=[.cell 2 true 5, .tmp 3]
theorem xO:aq Tryz.prog fl [] iy ip 44:=ai mixed (by kernel_rfl)
end Go.Gv

namespace Go.Gv
open Cod (enc dec)
variable {S S0:Nat->Spc}
abbrev s_decR:Spc:=bp (a1 B) (fun s=>∃c,s.data[0]? =some c/\c.toNat < 128) (yd (Y:=I32) (Z:=Int)) fun s y=>∀c,s.data[0]? =some c->y=(⟨c.toNat⟩,1)
abbrev s_crune:Spc:=bp (a2 B I32) (fun x=>0<=x.2.val/\x.2.val < 128) (enc (X:=Bool)) fun x y=>y=qct x.1 x.2.val
theorem zJ{p:Rp}{c:Int}(h:Jo p=some c):p.s.size<=200/\((p.pos=p.s.size/\c= -1)\/(0<=p.pos/\p.pos < p.s.size/\p.pos≠p.s.size/\∃x:UInt8,p.s.data[p.pos.toNat]? =some x/\x.toNat < 128/\c=x.toNat)):=by
 unfold Jo at h
 split at h
 ·cases h
 rename_i hsz
 refine⟨by omega,?_⟩
 split at h
 ·exact .inl ⟨by assumption,(qs8 h).symm⟩
 ·rename_i hne
  split at h
  ·rename_i h0
   split at h
   ·rename_i x hx
    split at h
    ·rename_i hlt
     have hx2:=(qs0.1 hx).1
     refine .inr ⟨h0,?_,hne,x,hx,hlt,(qs8 h).symm⟩
     show p.pos < (p.s.data.size:Int)
     omega
    ·cases h
   ·cases h
  ·cases h
theorem qrD{s:B}{k:Nat}{x:UInt8}(h:s.data[k]? =some x):(s.extract k s.size).data[0]? =some x:=by
 obtain⟨h1,h2⟩:=qs0.1 h
 rw[ByteArray.data_extract,qvd]
 have:0 < min s.size s.data.size -k:=by
  have:s.size=s.data.size:=rfl
  omega
 rw[if_pos this,qt4]
 exact h
abbrev gj:Spc:=WV a0 (enc (X:=I32)) km
theorem LE(h1:S bh=s_decR):th fA ff S a0 (enc (X:=I32)) (fun s z=>∃r,km s z=some r) (fun s z s' y=>km s z=some (s',y)):=by
 rintro b s ⟨⟩ ⟨r,hr⟩
 obtain⟨c,hc,_⟩:=qs4.1 hr
 have fin:∀ {H:ab},H 0=some (.box b (qA s))->DH (enc (X:=I32)) b (fun s' y=>km s ()=some (s',y)) (.v (.int .i32 c)) H:=fun h0=>Dn s ⟨c⟩ (.same _) h0 (by simp[km,hc])
 obtain⟨hsz,hc2⟩:=zJ hc
 rcases hc2 with⟨e1,rfl⟩|⟨h0,h2,h3,x,hx,hlt,rfl⟩
 ·simp[fA,ff,e1, -Bool.forall_bool, -Bool.exists_bool]
  exact fun _=>fin (by simp[e1])
 ·have hd:(s.s.data.extract s.pos.toNat s.s.size)[0]? =some x:=by rw[<-ByteArray.data_extract];exact qrD hx
  simp[fA,ff,h1,h0,h2,h3, -Bool.forall_bool, -Bool.exists_bool]
  refine fun _=>⟨by omega,⟨x,hd,hlt⟩,fun a b1 h=>?_⟩
  obtain⟨rfl,rfl⟩:=h x hd
  exact fin (by simp)
abbrev Mc:Spc:=WV a0 TY KL
theorem LD(h1:S bh=s_decR):th jv jd S a0 TY (fun s z=>∃r,KL s z=some r) (fun s z s' y=>KL s z=some (s',y)):=by
 rintro b s ⟨⟩ ⟨r,hr⟩
 obtain⟨c,hc,h⟩:=qsR.1 hr
 split at h
 ·rename_i hc0
  have fin:∀ {H:ab},H 0=some (.box b (qA s.bump))->DH TY b (fun s' y=>KL s ()=some (s',y)) (.tup []) H:=fun h0=>Dn s.bump () (.same _) h0 (by simp[KL,hc,hc0])
  obtain⟨hsz,hc2⟩:=zJ hc
  rcases hc2 with⟨e1,rfl⟩|⟨h0,h2,h3,x,hx,hlt,rfl⟩
  ·omega
  ·have hd:(s.s.data.extract s.pos.toNat s.s.size)[0]? =some x:=by rw[<-ByteArray.data_extract];exact qrD hx
   simp[jv,jd,h1,h0,h2,h3, -Bool.forall_bool, -Bool.exists_bool]
   refine⟨by omega,⟨x,hd,hlt⟩,fun a b1 h=>?_⟩
   obtain⟨rfl,rfl⟩:=h x hd
   exact⟨by simp only[InR];omega,fin (by simp[Rp.bump])⟩
 ·cases h
abbrev qcM:(I32×Bool)->D:=yd (Y:=I32) (Z:=Bool)
abbrev Cv:Spc:=WV (a1 B) qcM AC
theorem BW(h1:S aw=gj)(h2:S fM=Mc):th eV eS S (a1 B) qcM (fun s z=>∃r,AC s z=some r) (fun s z s' y=>AC s z=some (s',y)):=by
 rintro b s sp ⟨r,hr⟩
 obtain⟨c,hc,h⟩:=qsR.1 hr
 split at h
 ·cases h
 ·rename_i hn
  have n1:0<=c:=by omega
  have n2:c≠92:=fun e=>hn (.inr e)
  simp[eV,eS,h1,h2,km,KL,hc,n1,n2, -Bool.forall_bool, -Bool.exists_bool]
  exact Dn s.bump (⟨c⟩,true) (.same _) (by simp) (by simp[AC,hc,hn])
abbrev Rs:Spc:=WV a0 qcM O6
theorem GN(h1:S aw=gj)(h2:S cW=s_crune)(h3:S bO=Cv):th gK gp S a0 qcM (fun s z=>∃r,O6 s z=some r) (fun s z s' y=>O6 s z=some (s',y)):=by
 rintro b s ⟨⟩ ⟨r,hr⟩
 obtain⟨c,hc,h⟩:=qsR.1 hr
 split at h
 ·cases h
 ·rename_i hn
  have n1:¬c < 0:=fun e=>hn (.inl e)
  have n2:qct Up c=false:=by
   cases e:qct Up c with
   | false=>rfl
   | true=>exact absurd (.inr e) hn
  have hsz:=zJ hc
  have h128:c < 128:=by
   rcases hsz.2 with⟨_,rfl⟩|⟨_,_,_,x,_,hlt,rfl⟩ <;> omega
  have n3:qct ⟨#[92,91,93,94,45]⟩ c=false:=n2
  have h4:AC s ⟨#[92,91,93,94,45]⟩=some r:=h
  simp[gK,gp,h1,h2,h3,km,hc,n1,n3,h4,h128, -Bool.forall_bool, -Bool.exists_bool]
  obtain⟨s',⟨c'⟩,t'⟩:=r
  intro n0
  refine⟨fun _=>⟨n0,Dn s' (⟨c'⟩,t') (.same _) (by simp) (by simp[O6,hc,hn,h])⟩,fun _=>Dn s' (⟨c'⟩,t') (.same _) (by simp) (by simp[O6,hc,hn,h])⟩
theorem Ne{H:ab}{op mn mx:Int}{d3 d4:D}(rs:List Rng)(ks:List Rx)(h3:FrzTo H d3 (enc rs))(h4:FrzTo H d4 (enc ks)):FrzTo H (.agg [.v (.int .i64 op), .v (.int .i64 mn), .v (.int .i64 mx),d3,d4]) (enc (Rx.mk op mn mx rs ks)):=by
 rw[Zx]
 refine .agg rfl fun k c c' hc hc'=>?_
 match k with
 | 0=>cases hc;cases hc';exact .same _
 | 1=>cases hc;cases hc';exact .same _
 | 2=>cases hc;cases hc';exact .same _
 | 3=>cases hc;cases hc';exact h3
 | 4=>cases hc;cases hc';exact h4
 | k+5=>simp at hc
abbrev Rr:Spc:=bp (a2 I32 I32) (fun _=>True) (enc (X:=Rx)) fun x y=>y=XO x.1.val x.2.val
theorem NZ:ar wR vV S (a2 I32 I32) (fun _=>True) (enc (X:=Rx)) fun x y=>y=XO x.1.val x.2.val:=by
 rintro⟨x,y⟩ -
 simp[wR,vV,XO]
 exact fun b=>cV (Y:=Rx) ⟨1,0,0, [⟨x,y⟩], []⟩ (Ne [⟨x,y⟩] [] (.same _) (.nil _)) rfl
end Go.Gv

namespace Go.Gv
open Cod (enc dec)
variable {S S0:Nat->Spc}
abbrev BG:(Rx×Bool)->D:=yd (Y:=Rx) (Z:=Bool)
abbrev Rt:Spc:=WV a0 BG qcZ
abbrev Md:Spc:=WV a0 BG Uv
theorem qjh{b:Nat}{post:Rp->(Rx×Bool)->Prop}{x:Rx}{v:Bool}{H:ab}(s:Rp)(h0:H 0=some (.box b (qA s)))(hq:post s (x,v)):DH BG b post (.tup [enc x, .v (.bool v)]) H:=Dn s (x,v) (.same _) h0 hq
theorem BE{b:Nat}{post:Rp->(Rx×Bool)->Prop}{x:Rx}{v:Bool}{H:ab}(s:Rp)(h0:H 0=some (.box b (qA s)))(hq:post s (x,v)):DH BG b post (.tup [.agg [.v (.int .i64 x.op), .v (.int .i64 x.mn), .v (.int .i64 x.mx), .list 2 (x.rs.map enc), .list 5 (x.kids.map enc)], .v (.bool v)]) H:=by
 have e:(D.agg [.v (.int .i64 x.op), .v (.int .i64 x.mn), .v (.int .i64 x.mx), .list 2 (x.rs.map enc), .list 5 (x.kids.map enc)])=enc x:=by simp
 rw[e]
 exact qjh s h0 hq
set_option maxHeartbeats 1000000 in
theorem LF(h1:S aw=gj)(h2:S tK=Rr)(h3:S fm=Rt)(h4:S cW=s_crune)(h5:S bO=Cv):th dN dH S a0 BG (fun s z=>∃r,Uv s z=some r) (fun s z s' y=>Uv s z=some (s',y)):=by
 rintro b s ⟨⟩ ⟨r,hr⟩
 have hr0:=hr
 obtain⟨c,hc,h⟩:=qsR.1 hr
 have hsz:=zJ hc
 have h128:c < 128:=by
  rcases hsz.2 with⟨_,rfl⟩|⟨_,_,_,x,_,hlt,rfl⟩ <;> omega
 split at h
 ·cases h
 rename_i e40
 split at h
 ·rename_i e46
  subst e46
  have hp:InR .i64 (s.pos+1):=by
   rcases hsz.2 with⟨_,e⟩|⟨_,_,_,x,_,hlt,e⟩
   ·cases e
   ·simp only[InR];omega
  cases h
  simp[dN,dH,h1,h2,km,hc,hp, -Bool.forall_bool, -Bool.exists_bool]
  exact fun _=>BE s.bump (by simp[Rp.bump]) hr0
 rename_i e46
 split at h
 ·rename_i e91
  subst e91
  obtain⟨s',x',t'⟩:=r
  simp[dN,dH,h1,h3,km,hc,h, -Bool.forall_bool, -Bool.exists_bool]
  exact fun _=>BE s' (by simp) hr0
 rename_i e91
 split at h
 ·cases h
 ·rename_i hn
  obtain⟨q,hq,rfl⟩:=qs4.1 h
  obtain⟨s',⟨c'⟩,t'⟩:=q
  have hq':=hq
  obtain⟨c2,hc2,h'⟩:=qsR.1 hq'
  rw[hc]at hc2
  obtain rfl:=qs8 hc2
  split at h'
  ·cases h'
  rename_i hn2
  have n0:0<=c:=by omega
  have n92:c≠92:=fun e=>hn2 (.inr e)
  have nin:qct ⟨#[92,46,91,93,40,41,123,125,124,42,43,63]⟩ c=false:=by
   cases e:qct ⟨#[92,46,91,93,40,41,123,125,124,42,43,63]⟩ c with
   | false=>rfl
   | true=>exact absurd ⟨n92,e⟩ hn
  have hq2:AC s ⟨#[92,46,91,93,40,41,123,125,124,42,43,63]⟩=some (s',⟨c'⟩,t'):=hq
  simp[dN,dH,h1,h2,h4,h5,km,hc,e40,e46,e91,n0,n92,h128,nin,hq2, -Bool.forall_bool, -Bool.exists_bool]
  exact fun _=>BE s' (by simp) hr0
abbrev Rq:Spc:=WV a0 BG X5
theorem Us{p:Rp}{c:Int}(h:Jo p=some c):c < 128/\ -1<=c/\(0<=c->InR .i64 (p.pos+1)):=by
 obtain⟨h1,h2⟩:=zJ h
 rcases h2 with⟨_,rfl⟩|⟨_,_,_,x,_,hlt,rfl⟩
 ·exact⟨by omega,by omega,fun h=>absurd h (by omega)⟩
 ·exact⟨by omega,by omega,fun _=>by simp only[InR];omega⟩
theorem Vl{c:Int}{m:Int×Int}(h:J4 c=some m):c=42/\m=(0, -1)\/c=43/\m=(1, -1)\/c=63/\m=(0,1):=by
 unfold J4 at h
 split at h
 ·exact .inl ⟨by assumption,(qs8 h).symm⟩
 split at h
 ·exact .inr (.inl ⟨by assumption,(qs8 h).symm⟩)
 split at h
 ·exact .inr (.inr ⟨by assumption,(qs8 h).symm⟩)
 cases h
theorem KR{c:Int}(h:J4 c=none):c≠42/\c≠43/\c≠63:=by
 unfold J4 at h
 refine⟨fun e=>?_,fun e=>?_,fun e=>?_⟩ <;> (subst e;simp at h)
def vU(o:Option (Int×Int))(x:Rx):List D:=match o with
 | none=>[.v (.int .i64 x.op), .v (.int .i64 x.mn), .v (.int .i64 x.mx), .list 2 (x.rs.map enc), .list 5 (x.kids.map enc)]
 | some m=>[.v (.int .i64 4), .v (.int .i64 m.1), .v (.int .i64 m.2), .v (.slice none 0 0), .list 5 [enc x]]
theorem qjg{b:Nat}{post:Rp->(Rx×Bool)->Prop}{m:Int×Int}{e:Rx}{H:ab}(s:Rp)(h0:H 0=some (.box b (qA s)))(hq:post s (⟨4,m.1,m.2, [], [e]⟩,true)):DH BG b post (.tup [.agg (vU (some m) e), .v (.bool true)]) H:=by
 refine Dn s (⟨4,m.1,m.2, [], [e]⟩,true) (.tup rfl fun k c c' hc hc'=>?_) h0 hq
 match k with
 | 0=>cases hc;cases hc';exact Ne [] [e] (.nil _) (.same _)
 | 1=>cases hc;cases hc';exact .same _
 | k+2=>simp at hc
set_option maxHeartbeats 2000000 in
theorem GL(h1:S aw=gj)(h2:S fN=Md):th gJ gm S a0 BG (fun s z=>∃r,X5 s z=some r) (fun s z s' y=>X5 s z=some (s',y)):=by
 rintro b s ⟨⟩ ⟨r,hr⟩
 have hr0:=hr
 obtain⟨⟨s1,e,ok⟩,ha,h⟩:=qsR.1 hr
 simp only at h
 split at h
 rotate_left
 ·cases h
 rename_i hok
 subst hok
 obtain⟨c,hc,h⟩:=qsR.1 h
 split at h
 ·cases h
 rename_i e123
 have hcc:=Us hc
 simp[gJ,gm,h2,ha, -Bool.forall_bool, -Bool.exists_bool]
 intro b2 b4
 refine av (X:=Option (Int×Int)) [0,2,4,5] [2] (fun o=>∀m,o=some m->J4 c=some m) (fun _=>[]) (fun o=>[(0, .box b (qA (match o with|none=>s1|some _=>s1.bump))),(4, .box b4 (vU o e))]) (fun o=>match o with|none=>1|some _=>0) none (fun m h=>by cases h) (by simp) (by simp[vU]) ?_
 rintro(_|m) hP
 ·cases hm:J4 c with
  | none=>
    rw[hm]at h
    cases h
    obtain⟨n1,n2,n3⟩:=KR hm
    simp[vU,h1,km,hc,n1,n2,n3,e123, -Bool.forall_bool, -Bool.exists_bool]
    exact BE s1 (by simp) hr0
  | some m=>
    rcases Vl hm with⟨rfl,rfl⟩|⟨rfl,rfl⟩|⟨rfl,rfl⟩
    all_goals
     have hin:=hcc.2.2 (by omega)
     simp[vU,h1,km,hc,hin, -Bool.forall_bool, -Bool.exists_bool]
     first
      | exact⟨some (0, -1),by simp,⟨.inl ⟨rfl,rfl,rfl,rfl⟩, .inl rfl⟩,rfl⟩
      | exact⟨some (1, -1),by simp,⟨.inl ⟨rfl,rfl,rfl,rfl⟩, .inl rfl⟩,rfl⟩
      | exact⟨some (0,1),by simp,⟨.inl ⟨rfl,rfl,rfl,rfl⟩, .inl rfl⟩,rfl⟩
 ·have hm:=hP m rfl
  rw[hm]at h
  simp only at h
  obtain⟨d,hd,h⟩:=qsR.1 h
  split at h
  ·cases h
  rename_i hn
  cases h
  have hd':d≠123/\J4 d=none:=⟨fun e=>hn (.inl e),by
   cases q:J4 d with
   | none=>rfl
   | some q'=>exact absurd (.inr (by rw[q];rfl)) hn⟩
  obtain⟨n1,n2,n3⟩:=KR hd'.2
  have n4:=hd'.1
  simp[vU,h1,km,hd,n1,n2,n3,n4, -Bool.forall_bool, -Bool.exists_bool]
  simpa [vU, -Bool.forall_bool, -Bool.exists_bool]using qjg (e:=e) (m:=m) s1.bump (by simp) hr0
end Go.Gv
