/- A part of the framework and of the walks: C59 W159 W154 W155 T31 C51 W130 W131. -/
import Derived.Test.YtphdikcommfnhaaGreatDoorGd20
import Derived.Test.YtphdikcommfnhaaGreatDoorGd29
import Derived.Test.YtphdikcommfnhaaGreatDoorGd28
import Derived.Test.YtphdikcommfnhaaGreatDoorGd26
import Derived.Test.YtphdikcommfnhaaGreatDoorGd27
set_option linter.unusedSimpArgs false
set_option linter.unusedVariables false
set_option linter.unusedSectionVars false
set_option maxRecDepth 100000
set_option maxHeartbeats 0

namespace Go.Gv
open Go.Proofs
def nX:CC:=oX [oB 2 (.mv (.const ob))] [0] [] (oX [oA 3 0,oB 4 (.cmp .geq (oT 3) (.const (.int .u8 65))),oA 5 4,oH 6 5 (.mv (oT 0)),oH 7 5 (.cmp .leq (oT 6) (.const (.int .u8 90))),oB 8 (.pick (oT 5) (oT 7) (.const ob)),oA 9 8,oI 10 9 (.mv (oT 0)),oI 11 9 (.cmp .geq (oT 10) (.const (.int .u8 97))),oI 12 9 (.mv (oT 11)),oH 13 12 (.mv (oT 0)),
 oH 14 12 (.cmp .leq (oT 13) (.const (.int .u8 122))),oI 15 9 (.pick (oT 12) (oT 14) (.const ob)),oB 16 (.pick (oT 9) (.const (.bool true)) (oT 15)),oA 17 16,oI 18 17 (.mv (oT 0)),oI 19 17 (.eql false false [.int] (oT 18) (.const (.int .u8 95))),oB 20 (.pick (oT 17) (.const (.bool true)) (oT 19)),oA 2 20] [2] [] (.ret))
def mY:List ak:=[.tmp 2]
def nW:CC:=oX [oB 2 (.mv (.const ob))] [0] [] (oX [oA 3 0,oZ 4 aY [oT 3],oA 5 4,oI 6 5 (.mv (oT 0)),oI 7 5 (.cmp .geq (oT 6) (.const (.int .u8 48))),oI 8 5 (.mv (oT 7)),oH 9 8 (.mv (oT 0)),oH 10 8 (.cmp .leq (oT 9) (.const (.int .u8 57))),oI 11 5 (.pick (oT 8) (oT 10) (.const ob)),oB 12 (.pick (oT 5) (.const (.bool true)) (oT 11)),oA 13 12,
 oI 14 13 (.mv (oT 0)),oI 15 13 (.eql false false [.int] (oT 14) (.const (.int .u8 45))),oB 16 (.pick (oT 13) (.const (.bool true)) (oT 15)),oA 2 16] [2] [] (.ret))
def mX:List ak:=[.tmp 2]
def jG:CC:=oX [oB 2 (.mv (.const ob))] [0] [] (.seq (oX [oA 4 0,oB 5 (.slen (oT 4)),oB 6 (.cmp .lss (oT 5) (oN 1)),oA 7 6,oI 8 7 (.mv (oT 0)),oI 9 7 (.slen (oT 8)),oI 10 7 (.cmp .gtr (oT 9) (oN 32)),oB 11 (.pick (oT 7) (.const (.bool true)) (oT 10)),oA 12 11,oI 13 12 (.mv (oT 0)),oI 14 12 (.sidx (oT 13) (oN 0)),oI 15 12 (.call aY [oT 14]),
 oI 16 12 (.not (oT 15)),oB 17 (.pick (oT 12) (.const (.bool true)) (oT 16))] [0,17] [] (.ite (oT 17) (oX [oB 2 (.mv (.const ob))] [2] [] (.ret)) (.skip))) (.keep [0] [] (.seq (oX [oA 18 0,oB 19 (.slen (oT 18)),oB 20 (.mv (oN 0))] [0,19,20] [] (wL 0 20 19 21 1 (oX [oA 22 20,oA 3 22] [0,3,19,20] [] (oX [oA 23 0,oA 24 3,oB 25 (.sidx (oT 23) (oT 24)),oZ 26 cN [oT 25],
 oB 27 (.not (oT 26))] [0,19,20,27] [] (.ite (oT 27) (oX [oB 2 (.mv (.const ob))] [2] [] (.ret)) (.skip)))) 28)) (.keep [] [] (oX [oB 2 (.mv (.const (.bool true)))] [2] [] (.ret))))))
def jq:List ak:=[.tmp 2]
def jF:CC:=by refine(fun(_:G.ap (G.gn Tryz.prog Tryz.f175 [] {})=?c)=>?c) ?h;case h=>conv=>lhs; (conv=>arg 1;reduce);dsimp only[G.ap]
def jp:List ak:=[.tmp 2]
theorem zt:aq Tryz.prog bG [] jF jp 24:=ai mixed (by kernel_rfl)
def kU:CC:=by refine(fun(_:G.ap (G.gn Tryz.prog Tryz.f288 [] {})=?c)=>?c) ?h;case h=>conv=>lhs; (conv=>arg 1;reduce);dsimp only[G.ap]
def kJ:List ak:=[.tmp 4]
theorem AF:aq Tryz.prog gH [] kU kJ 17:=ai mixed (by kernel_rfl)
def tw:CC:=by refine(fun(_:G.ap (G.gn Tryz.prog Tryz.f264 [] {})=?c)=>?c) ?h;case h=>conv=>lhs; (conv=>arg 1;reduce);dsimp only[G.ap]
def sP:List ak:=[.tmp 4]
theorem IU:aq Tryz.prog pX [] tw sP 19:=ai mixed (by kernel_rfl)
def cv:CC:=by refine(fun(_:G.ap (G.gn Tryz.prog Tryz.f287 [] {})=?c)=>?c) ?h;case h=>conv=>lhs; (conv=>arg 1;reduce);dsimp only[G.ap]
def cp:List ak:=[.tmp 2, .tmp 3]
theorem EQ:aq Tryz.prog lu [] cv cp 71:=ai mixed (by kernel_rfl)
end Go.Gv

namespace Go.Gv
open Cod (enc dec)
variable {S S0:Nat->Spc}
def Oe(c:Int):Bool:=(decide (65<=c) && decide (c<=90))||(decide (97<=c) && decide (c<=122))||decide (c=95)
def qig(c:Int):Bool:=Oe c||(decide (48<=c) && decide (c<=57))||decide (c=45)
abbrev Ps:Spc:=bj (a1 U8) (fun _=>True) (enc (X:=Bool)) fun c y=>y=Oe c.val
theorem Ec:ar nX mY S (a1 U8) (fun _=>True) (enc (X:=Bool)) fun c y=>y=Oe c.val:=by
 rintro⟨c⟩ -
 by_cases h1:(65:Int)<=c <;> by_cases h2:c<=90 <;> by_cases h3:(97:Int)<=c <;> by_cases h4:c<=122 <;> by_cases h5:c=95 <;>
  simp[nX,mY,Oe,h1,h2,h3,h4,h5, -Bool.forall_bool, -Bool.exists_bool]
abbrev Ew:Spc:=bj (a1 U8) (fun _=>True) (enc (X:=Bool)) fun c y=>y=qig c.val
theorem Eb(h0:S aY=Ps):ar nW mX S (a1 U8) (fun _=>True) (enc (X:=Bool)) fun c y=>y=qig c.val:=by
 rintro⟨c⟩ -
 cases hb:Oe c <;> by_cases h1:(48:Int)<=c <;> by_cases h2:c<=57 <;> by_cases h3:c=45 <;>
  simp[nW,mX,qig,h0,hb,h1,h2,h3, -Bool.forall_bool, -Bool.exists_bool]
theorem qa9(c:UInt8):Vg c=Oe (c.toNat:Int):=by
 unfold Vg Oe
 rw[quD]
 simp
 omega
theorem qj7(c:UInt8):qqb c=qig (c.toNat:Int):=by
 unfold qqb qig
 rw[qa9]
 cases Oe (c.toNat:Int)
 ·rw[quD]
  simp
  omega
 ·simp
theorem Ay(h1:S aY=Ps)(h2:S cN=Ew):ar jG jq S (a1 B) (fun s=>ET s=true) (enc (X:=Bool)) fun _ y=>y=true:=by
 rintro s hs
 have hs:ET s=true:=hs
 unfold ET at hs
 simp only[qt2,decide_eq_true_eq]at hs
 obtain⟨⟨⟨q1,q2⟩,q3⟩,q4⟩:=hs
 simp[jG,jq,h1,h2, -Bool.forall_bool, -Bool.exists_bool]
 have r1:(1:Int)<=(s.size:Int):=by omega
 have r2:(s.size:Int)<=32:=by omega
 have r3:(s.size:Int)<=9223372036854775807:=by omega
 have hsl:s.data.toList.length=s.size:=qum
 refine fun _=>⟨fun _ _=>⟨fun _=>⟨by omega,fun c hc=>?_⟩,r2⟩,r1⟩
 have hc':s.data.toList[0]? =some c:=by rw[quq];exact hc
 have hb:Oe (c.toNat:Int)=true:=by
  rw[<-qa9]
  cases hl:s.data.toList with
  | nil=>rw[hl]at hc';cases hc'
  | cons d l=>
    rw[hl]at hc' q3
    cases hc'
    exact q3
 refine⟨hb,fun _ _=>?_⟩
 refine aj (X:=Unit) [0] [] s.size (fun _ _=>True) (fun _=>[]) (fun _=>[]) () (by simp) (by simp) (by omega) (by simp) (by simp) trivial (by simp) (by simp) ?_ ?_
 ·rintro k -hk -
  obtain⟨d,hd⟩:=xM (show k < s.data.toList.length by omega)
  have hg:qig (d.toNat:Int)=true:=by rw[<-qj7];exact qt0.1 q4 d (qtY hd)
  have hd':s.data[k]? =some d:=by rw[<-quq];exact hd
  obtain⟨_,hgd⟩:=qt3.1 hd'
  simp[hk,hd',hgd,hg,h2, -Bool.forall_bool, -Bool.exists_bool]
 ·rintro - -
  simp[-Bool.forall_bool, -Bool.exists_bool]
theorem Aw(h1:S fA=s_cpVal):ar jF jp S (a1 B) (fun s=>zB s=true) (enc (X:=Int)) fun _ y=>y=0:=by
 rintro s hs
 have hs:zB s=true:=hs
 unfold zB at hs
 simp only[qt2,decide_eq_true_eq]at hs
 obtain⟨q1,q2⟩:=hs
 have ha:vt s=true:=by
  unfold vt
  refine qt0.2 fun c hc=>?_
  have:=qt0.1 q2 c hc
  simp at this
  simp
  omega
 have r1:(s.size:Int)<=120:=by omega
 have r2:(s.size:Int)<=9223372036854775807:=by omega
 have r3:s.size<=1000:=by omega
 have r4:¬ (120:Int) < (s.size:Int):=by omega
 simp[jF,jp,h1,ha,r1,r2,r3,r4, -Bool.forall_bool, -Bool.exists_bool]
 intro b
 refine av (X:=Nat) [] [] (fun p=>p<=s.size) (fun p=>[(14, .bptr 14 b 0)]) (fun p=>[(14, .iter b s p)]) (fun p=>s.size -p) 0 (qul _) (by simp) (by simp) ?_
 rintro p hp
 by_cases hlt:p < s.size
 ·obtain⟨c,hc,hc128,hdec⟩:=Fw ha hlt
  have hcm:=qt0.1 q2 c (qtY hc)
  simp at hcm
  have n1:¬ (c.toNat:Int)<=31:=by omega
  have n2:¬ (c.toNat:Int)=127:=by omega
  simp[hlt,hdec,n1,n2, -Bool.forall_bool, -Bool.exists_bool]
  exact⟨p+1,by omega, .inl rfl,by omega⟩
 ·have hpe:p=s.size:=by omega
  subst hpe
  simp[-Bool.forall_bool, -Bool.exists_bool]
end Go.Gv

namespace Go.Gv
open Cod (enc dec)
variable {S S0:Nat->Spc}
def qev(x:Cond×List Attr×List B):List D:=[enc x.1, .cptr [enc x.2.1] 0, .cptr [enc x.2.2] 0]
theorem Ue(z z':Cond×List Attr×List B)(h:qev z=qev z'):z=z':=by
 obtain⟨a,s,l⟩:=z
 obtain⟨a',s',l'⟩:=z'
 unfold qev at h
 simp only[quk,D.cptr.injEq,and_true]at h
 rw[aL h.1,aL h.2.1,aL h.2.2]
noncomputable abbrev aVd:df (Cond×List Attr×List B):=aX qev Ue
@[simp] theorem qlx(x:Cond)(a:List Attr)(lb:List B):aVd.dec [.agg [.v (.int .i64 x.op), .v (.string x.name), .v (.string x.arg), .v (.string x.val), .v (.string x.lab), .v (.bool x.fold), .list 7 (x.kids.map enc)], .cptr [.list 2 (a.map enc)] 0, .cptr [.list 1 (lb.map enc)] 0]=some (x,a,lb):=by
 have h:=B8 qev Ue (x,a,lb)
 have e:qev (x,a,lb)=[.agg [.v (.int .i64 x.op), .v (.string x.name), .v (.string x.arg), .v (.string x.val), .v (.string x.lab), .v (.bool x.fold), .list 7 (x.kids.map enc)], .cptr [.list 2 (a.map enc)] 0, .cptr [.list 1 (lb.map enc)] 0]:=by simp[qev]
 rw[<-e]
 exact h
noncomputable abbrev M5:Spc:=bj aVd (fun x=>ot x.2.1 x.2.2 x.1=true/\x.2.1.length<=1000) (enc (X:=Int)) fun _ y=>y=0
theorem wj(h1:S jg=If):ar ge fW S aVd (fun x=>ot x.2.1 x.2.2 x.1=true/\x.2.1.length<=1000) (enc (X:=Int)) fun _ y=>y=0:=by
 rintro⟨x,a,lb⟩ ⟨hx,hl⟩
 simp only at hx hl
 rw[Au]
 simp[qev,ge,fW,h1,hx,hl, -Bool.forall_bool, -Bool.exists_bool]
def qk7(n:Nat)(x:Cond×D×Unit):Prop:=∃ (a:List Attr) (lb:List B),x.2.1= .clo bM [.cptr [enc a] 0, .cptr [enc lb] 0]/\rk a lb n x.1=true/\a.length<=1000/\pd x.1<=60
noncomputable abbrev Ia(n:Nat):Spc:=bj (aE Cond (aD a0)) (qk7 n) (enc (X:=Int)) fun x y=>y=0
noncomputable abbrev H9:Spc:=bj (aE Cond (aD a0)) (fun x=>∃n,qk7 n x) (enc (X:=Int)) fun x y=>y=0
theorem Cl(n:Nat)(h1:S bM=M5)(h2:S dy=Ia n):ar oc nc S (aE Cond (aD a0)) (qk7 (n+1)) (enc (X:=Int)) fun x y=>y=0:=by
 rintro⟨x,d,⟨⟩⟩ ⟨a,lb,hd,hx,hl,hn⟩
 simp only at hd hx hn
 subst hd
 simp only[rk,qt2]at hx
 obtain⟨hx1,hx2⟩:=hx
 simp[oc,nc,h1,hx1,hl, -Bool.forall_bool, -Bool.exists_bool]
 intro hkl
 refine aj (X:=Unit) [1,16] [] x.kids.length (fun k _=>True) (fun _=>[]) (fun _=>[]) () (by simp) (by simp) (by omega) (by simp) (by simp) (by simp) (by simp) (by simp) ?_ ?_
 ·rintro k -hk -
  obtain⟨y,hy⟩:=xM hk
  obtain⟨_,hgy⟩:=qtV.1 hy
  have hm:=qtY hy
  have hny:=Lz hm
  have hnx:=G0 x
  have hp:qk7 n (y, .clo bM [.cptr [.list 2 (a.map enc)] 0, .cptr [.list 1 (lb.map enc)] 0],()):=⟨a,lb,rfl,qt0.1 hx2 y hm,hl,by show pd y<=60;omega⟩
  simp[h2,hk,hy,hgy,hp, -Bool.forall_bool, -Bool.exists_bool]
 ·rintro - -
  simp[-Bool.forall_bool, -Bool.exists_bool]
abbrev TU(x:Cond×List Attr×List B):Prop:=qgd x.2.1 x.2.2 x.1=true/\x.2.1.length<=1000
abbrev SF:Spc:=bj (a3 Cond (List Attr) (List B)) TU (enc (X:=Int)) fun _ y=>y=0
theorem yG(h1:S cz=Ie)(h2:S dy=H9):ar iN iG S (a3 Cond (List Attr) (List B)) TU (enc (X:=Int)) fun _ y=>y=0:=by
 rintro⟨x,a,lb⟩ ⟨hx,hl⟩
 simp only at hx hl
 unfold qgd at hx
 simp at hx
 obtain⟨⟨hn,hd⟩,ha⟩:=hx
 have hp:∃n,qk8 n (x,0,1):=⟨mg x,qt4 _,qvA _,by show(0:Int) +pd x<=60;omega,by show(0:Int)<=1;omega,by show(1:Int) +mg x<=1000;omega,by show mg x<=60;omega⟩
 have hw:∃n,qk7 n (x, .clo bM [.cptr [.list 2 (a.map enc)] 0, .cptr [.list 1 (lb.map enc)] 0],()):=⟨20,a,lb,rfl,ha,hl,hn⟩
 have q1:¬ (60:Int) < (pd x:Int):=by omega
 have q2:¬ (20:Int) < 1+ (mg x:Int) -1:=by omega
 simp[iN,iG,h1,h2,hp,hw,q1,q2, -Bool.forall_bool, -Bool.exists_bool]
end Go.Gv

namespace Go.Gv
open Cod (enc dec)
variable {S S0:Nat->Spc}
def Z1(l:List Pair)(s:Pair):Bool:=l.any fun z=>decide (z=s)
abbrev M0:Spc:=bj (a2 (List Pair) Pair) (fun _=>True) (enc (X:=Int)) fun x y=>y=gi x.1 fun z=>decide (z=x.2)
abbrev M3:Spc:=bj (a2 (List Pair) Pair) (fun _=>True) (enc (X:=Bool)) fun x y=>y=Z1 x.1 x.2
theorem Mu:ar jC jm S (a2 (List Pair) Pair) (fun _=>True) (enc (X:=Int)) fun x y=>y=gi x.1 fun z=>decide (z=x.2):=by
 rintro⟨l,s⟩ -
 simp[jC,jm, -Bool.forall_bool, -Bool.exists_bool]
 intro _
 refine aj (X:=Unit) [0,3] [] l.length (fun k _=>∀x∈l.take k,decide (x=s)=false) (fun _=>[]) (fun _=>[]) () (by simp) (by simp) (by omega) (by simp) (by simp) (by simp) (by simp) (by simp) ?_ ?_
 ·intro k _ hk hP
  obtain⟨x,hx⟩:=xM hk
  obtain⟨_,hgx⟩:=qtV.1 hx
  simp[hk,hx,hgx, -Bool.forall_bool, -Bool.exists_bool]
  have hpe:s.nm=x.nm->s.vl=x.vl->x=s:=fun h1 h2=>by
   obtain⟨a,b⟩:=x
   obtain⟨a',b'⟩:=s
   simp only at h1 h2
   rw[h1,h2]
  refine⟨fun h1 h2=>(tZ hx (by simp[hpe h1 h2]) hP).symm,fun h=>?_⟩
  rw[bJ hx]
  intro z hz
  rcases qtZ.1 hz with hz|hz
  ·have:=hP z hz
   simpa using this
  ·simp at hz;subst hz
   intro e
   subst e
   exact h rfl rfl
 ·intro _ hP
  simp[-Bool.forall_bool, -Bool.exists_bool]
  exact(mz (by simpa using hP)).symm
theorem Ge(h1:S fM=M0):ar ga fT S (a2 (List Pair) Pair) (fun _=>True) (enc (X:=Bool)) fun x y=>y=Z1 x.1 x.2:=by
 rintro⟨l,s⟩ -
 simp[ga,fT,h1, -Bool.forall_bool, -Bool.exists_bool]
 exact tY _ l
def Ir(x:Cond)(tok:Int)(r:Region):Bool:=decide (r.ty=x.name) && decide (r.b<=tok) && decide (tok < r.e) && (decide (x.arg=ri)||Z1 r.kv ⟨x.arg,x.val⟩)
def XW(x:Cond):List D:=[.v (.int .i64 x.op), .v (.string x.name), .v (.string x.arg), .v (.string x.val), .v (.string x.lab), .v (.bool x.fold), .list 7 (x.kids.map enc)]
theorem Vc(x:Cond): .agg (XW x)=enc x:=by simp[XW]
theorem qd2{x y:Cond}(h:XW x=XW y):x=y:=aL (by rw[<-Vc,<-Vc,h])
def qbV(x:Region×Cond×Int):List D:=[enc x.1, .cptr (XW x.2.1) 0, .cptr [enc x.2.2] 0]
theorem Uf(z z':Region×Cond×Int)(h:qbV z=qbV z'):z=z':=by
 obtain⟨a,s,l⟩:=z
 obtain⟨a',s',l'⟩:=z'
 unfold qbV at h
 simp only[quk,D.cptr.injEq,and_true]at h
 rw[aL h.1,qd2 h.2.1,aL h.2.2]
noncomputable abbrev qs6:df (Region×Cond×Int):=aX qbV Uf
noncomputable abbrev tU:Spc:=bj qs6 (fun _=>True) (enc (X:=Bool)) fun x y=>y=Ir x.2.1 x.2.2 x.1
theorem yE(h1:S ei=M3):ar bW bU S qs6 (fun _=>True) (enc (X:=Bool)) fun x y=>y=Ir x.2.1 x.2.2 x.1:=by
 rintro⟨r,x,tok⟩ -
 rw[Au]
 by_cases e1:r.ty=x.name
 rotate_left
 ·simp[qbV,XW,bW,bU,Ir,e1, -Bool.forall_bool, -Bool.exists_bool]
 by_cases e2:r.b<=tok
 rotate_left
 ·simp[qbV,XW,bW,bU,Ir,e1,e2, -Bool.forall_bool, -Bool.exists_bool]
 by_cases e3:tok < r.e
 rotate_left
 ·simp[qbV,XW,bW,bU,Ir,e1,e2,e3, -Bool.forall_bool, -Bool.exists_bool]
 by_cases e4:x.arg=ri
 ·have e4':x.arg=⟨#[]⟩:=e4
  simp[qbV,XW,bW,bU,Ir,e1,e2,e3,e4,e4',ri, -Bool.forall_bool, -Bool.exists_bool]
 ·have e4':¬x.arg=⟨#[]⟩:=e4
  simp[qbV,XW,bW,bU,Ir,h1,e1,e2,e3,e4,e4', -Bool.forall_bool, -Bool.exists_bool]
abbrev Sz:Spc:=bj (a3 Corpus Cond Int) (fun _=>True) (enc (X:=Bool)) fun x y=>y=x.1.regs.any (Ir x.2.1 x.2.2)
theorem A6(h0:S0 aV=tU)(h1:S aO=Na Region S0):ar kV kK S (a3 Corpus Cond Int) (fun _=>True) (enc (X:=Bool)) fun x y=>y=x.1.regs.any (Ir x.2.1 x.2.2):=by
 rintro⟨c,x,tok⟩ -
 have hf:FunOn S0 (.clo aV [.cptr (XW x) 0, .cptr [enc tok] 0]) c.regs (Ir x tok):=
  vV (f:=fun r=>(r,x,tok)) h0 (fun r _=>B8 qbV Uf (r,x,tok)) (fun _ _=>trivial) (fun r _ y hy=>hy)
 unfold XW at hf
 simp[kV,kK,h1, -Bool.forall_bool, -Bool.exists_bool]
 exact⟨⟨_,hf⟩,fun y hy=>hy _ hf⟩
end Go.Gv

namespace Go.Gv
open Cod (enc dec)
@[simp] theorem qqt(s:Rp):Rp.mk s.s s.pos s.fault s.e=s:=by cases s;rfl
def qR(s:Rp):List D:=[enc s.s,enc s.pos,enc s.fault,enc s.e]
@[simp] theorem qnP(s:Rp):qR s=[enc s.s,enc s.pos,enc s.fault,enc s.e]:=id rfl
section
variable {Y Z:Type}
def qfW:J6 Rp:=GR qR
def qoZ(A:df Z)(er:Y->D)(pre:Rp->Z->Prop)(post:Rp->Z->Rp->Y->Prop):Spc:=qkS qfW A er pre post
def qr2(er:Y->D)(pre:Rp->Z->Prop)(post:Rp->Z->Rp->Y->Prop)(id b:Nat)(r:Option Res)(o:Option Z)(H:ab)(K:D->ab->Prop):Prop:=
 ∃x,r=some (.box b (qR x))/\dK o fun z=>pre x z/\∀x' y,post x z x' y->K (er y) (ah H id (some (.box b (qR x'))))
theorem qa2{x y:Rp}(h:qR x=qR y):x=y:=by
 obtain⟨l,a,d,e⟩:=x
 obtain⟨l',a',d',e'⟩:=y
 simp only[qR,quk]at h
 obtain⟨h1,h2,h3,h4,_⟩:=h
 have h1:=aL h1
 have h2:=aL h2
 have h3:=aL h3
 have h4:=aL h4
 subst h1;subst h2;subst h3;subst h4
 rfl
@[simp] theorem qfV(A:df Z)(er:Y->D)(pre:Rp->Z->Prop)(post:Rp->Z->Rp->Y->Prop)(d i b:Nat)(ds:List D)(H:ab)(K:D->ab->Prop):(qoZ A er pre post).pt d (.bptr i b 0::ds) H K=qr2 er pre post i b (H i) (A.dec ds) H K:=by
 refine propext ⟨fun h=>?_,fun h=>?_⟩
 ·obtain⟨id,b',x,z,ds',h1,h2,h3,h4,h5,h6,h7⟩:=h
  cases h1
  refine⟨x,h3,?_⟩
  rw[h2]
  exact⟨h6,h7⟩
 ·obtain⟨x,h1,h2⟩:=h
  cases hz:A.dec ds with
  | none=>rw[hz]at h2;exact h2.elim
  | some z=>rw[hz]at h2;exact⟨i,b,x,z,ds,rfl,hz,h1,fun p hp=>by simp[qfW,GR]at hp,by simp[qfW,GR],h2.1,h2.2⟩
def DY(er:Y->D)(b:Nat)(post:Rp->Y->Prop)(r:D)(H:ab):Prop:=L8 qfW er b post r H
theorem DG{er:Y->D}{b:Nat}{post:Rp->Y->Prop}{r:D}{H:ab}(x:Rp)(y:Y)(hr:FrzTo (fun i=>if i=0 then none else H i) r (er y))(h0:H 0=some (.box b (qR x)))(hq:post x y):DY er b post r H:=
 ⟨x,y,by simpa [qfW,GR]using hr,h0,fun p hp=>by simp[qfW,GR]at hp,hq⟩
def tD(cc:CC)(rs:List ak)(S:Nat->Spc)(A:df Z)(er:Y->D)(pre:Rp->Z->Prop)(post:Rp->Z->Rp->Y->Prop):Prop:=
 ∀b x z,pre x z->vc S cc (sR rs fun r H'=>DY er b (post x z) r H') (dj (.bptr 0 b 0::A.view z)) (ah bY 0 (some (.box b (qR x))))
variable {P:Program}{S:Nat->Spc}{f:Nat}{im:List Nat}{cc:CC}{rs:List ak}{N:Nat}
theorem RL{A:df Z}{er:Y->D}{pre:Rp->Z->Prop}{post:Rp->Z->Rp->Y->Prop}(hS:∀f,Tri P f (S f).pt)(h:aq P f im cc rs N)(hN:∀z,(A.view z).length+1<=N)(hw:tD cc rs S A er pre post):Tri P f (qoZ A er pre post).pt:=
 wn (by simp[qfW,GR]) hS h hN fun b x z hp=>hw b x z hp
end
section
variable {Y Z:Type}
def XT(A:df Z)(er:Y->D)(F:Rp->Z->Option (Rp×Y)):Spc:=qoZ A er (fun s z=>∃r,F s z=some r) (fun s z s' y=>F s z=some (s',y))
def YU(er:Y->D)(F:Rp->Z->Option (Rp×Y))(id b:Nat)(r:Option Res)(o:Option Z)(H:ab)(K:D->ab->Prop):Prop:=
 ∃x,r=some (.box b (qR x))/\dK o fun z=>dK (F x z) fun q=>K (er q.2) (ah H id (some (.box b (qR q.1))))
@[congr] theorem qlR{er:Y->D}{F:Rp->Z->Option (Rp×Y)}{id b:Nat}{r r':Option Res}{o o':Option Z}{H:ab}{K:D->ab->Prop}(h1:r=r')(h2:o=o'):YU er F id b r o H K=YU er F id b r' o' H K:=by subst h1;subst h2;rfl
theorem qf7{F:Option (Rp×Y)}{k:Rp->Y->Prop} :((∃r,F=some r)/\∀x' y,F=some (x',y)->k x' y)=dK F fun q=>k q.1 q.2:=by
 cases F with
 | none=>
   refine propext (Iff.intro (fun h=>?_) (fun h=>?_))
   ·obtain⟨⟨r,h⟩,_⟩:=h
    cases h
   ·exact False.elim h
 | some r=>
   refine propext (Iff.intro (fun h=>h.2 _ _ rfl) (fun h=>⟨⟨_,rfl⟩,fun x' y e=>?_⟩))
   cases e
   exact h
@[simp] theorem qoX(A:df Z)(er:Y->D)(F:Rp->Z->Option (Rp×Y))(d i b:Nat)(ds:List D)(H:ab)(K:D->ab->Prop):(XT A er F).pt d (.bptr i b 0::ds) H K=YU er F i b (H i) (A.dec ds) H K:=by
 unfold XT YU
 rw[qfV]
 unfold qr2
 refine propext (exists_congr fun x=>and_congr_right fun _=>?_)
 cases A.dec ds with
 | none=>exact quW
 | some z=>exact iff_of_eq qf7
@[simp] theorem qoY(er:Y->D)(F:Rp->Z->Option (Rp×Y))(id b:Nat)(l:B)(p dp e:Int)(o:Option Z)(H:ab)(K:D->ab->Prop):
 YU er F id b (some (.box b [.v (.string l), .v (.int .i64 p), .v (.int .i64 dp), .v (.int .i64 e)])) o H K=dK o fun z=>dK (F ⟨l,p,dp,e⟩ z) fun q=>K (er q.2) (ah H id (some (.box b (qR q.1)))):=by
 refine propext ⟨fun⟨x,h1,h2⟩=>?_,fun h=>⟨⟨l,p,dp,e⟩,rfl,h⟩⟩
 have e1:qR ⟨l,p,dp,e⟩=qR x:=by
  have:=qua h1
  exact(Res.box.inj this).2
 have:=qa2 e1
 subst this
 exact h2
variable {P:Program}{S:Nat->Spc}{f:Nat}{im:List Nat}{cc:CC}{rs:List ak}{N:Nat}
theorem fa{A:df Z}{er:Y->D}{F:Rp->Z->Option (Rp×Y)}(hS:∀f,Tri P f (S f).pt)(h:aq P f im cc rs N)(hN:∀z,(A.view z).length+1<=N)
 (hw:tD cc rs S A er (fun s z=>∃r,F s z=some r) (fun s z s' y=>F s z=some (s',y))):Tri P f (XT A er F).pt:=RL hS h hN hw
end
end Go.Gv

namespace Go.Gv
open Go.Proofs
def fB:CC:=by refine(fun(_:G.ap (G.gn Tryz.prog Tryz.f276 [] { ke:=[0] })=?c)=>?c) ?h;case h=>conv=>lhs; (conv=>arg 1;reduce);dsimp only[G.ap]
def ff:List ak:=[.tmp 2]
theorem zo:aq Tryz.prog aw [] fB ff 29:=ai mixed (by kernel_rfl)
def jE:CC:=by refine(fun(_:G.ap (G.gn Tryz.prog Tryz.f339 [] { bx:=[0] })=?c)=>?c) ?h;case h=>conv=>lhs; (conv=>arg 1;reduce);dsimp only[G.ap]
def jo:List ak:=[]
theorem zn:aq Tryz.prog fN [] jE jo 25:=ai mixed (by kernel_rfl)
def eV:CC:=by refine(fun(_:G.ap (G.gn Tryz.prog Tryz.f329 [] { bx:=[0] })=?c)=>?c) ?h;case h=>conv=>lhs; (conv=>arg 1;reduce);dsimp only[G.ap]
def eS:List ak:=[.tmp 4, .tmp 5]
theorem tK:aq Tryz.prog bS [] eV eS 37:=ai mixed (by kernel_rfl)
def gP:CC:=by refine(fun(_:G.ap (G.gn Tryz.prog Tryz.f335 [] { bx:=[0] })=?c)=>?c) ?h;case h=>conv=>lhs; (conv=>arg 1;reduce);dsimp only[G.ap]
def gy:List ak:=[.tmp 2, .tmp 3]
theorem wQ:aq Tryz.prog eN [] gP gy 27:=ai mixed (by kernel_rfl)
def xq:CC:=by refine(fun(_:G.ap (G.gn Tryz.prog Tryz.f326 [] {})=?c)=>?c) ?h;case h=>conv=>lhs; (conv=>arg 1;reduce);dsimp only[G.ap]
def wx:List ak:=[.cell 4 true 5]
theorem Nk:aq Tryz.prog uc [] xq wx 10:=ai mixed (by kernel_rfl)
def dR:CC:=by refine(fun(_:G.ap (G.gn Tryz.prog Tryz.f313 [2002002] { bx:=[0] })=?c)=>?c) ?h;case h=>conv=>lhs; (conv=>arg 1;reduce);dsimp only[G.ap]
def dJ:List ak:=[.cell 2 true 5, .tmp 3]
theorem zq:aq Tryz.prog fO [2002002] dR dJ 72:=ai mixed (by kernel_rfl)
def iJ:CC:=by refine(fun(_:G.ap (G.gn Tryz.prog Tryz.f327 [] { ke:=[0] })=?c)=>?c) ?h;case h=>conv=>lhs; (conv=>arg 1;reduce);dsimp only[G.ap]
def iC:List ak:=[.cell 2 true 5, .tmp 3]
theorem yo:aq Tryz.prog fp [] iJ iC 108:=ai mixed (by kernel_rfl)
def gO:CC:=by refine(fun(_:G.ap (G.gn Tryz.prog Tryz.f298 [] { bx:=[0] })=?c)=>?c) ?h;case h=>conv=>lhs; (conv=>arg 1;reduce);dsimp only[G.ap]
def gx:List ak:=[.cell 2 true 5, .tmp 3]
theorem wP:aq Tryz.prog eM [] gO gx 54:=ai mixed (by kernel_rfl)
def gQ:CC:=by refine(fun(_:G.ap (G.gn Tryz.prog Tryz.f275 [] { ke:=[0] })=?c)=>?c) ?h;case h=>conv=>lhs; (conv=>arg 1;reduce);dsimp only[G.ap]
def gz:List ak:=[.cell 2 true 5, .tmp 3]
theorem wR:aq Tryz.prog eO [] gQ gz 49:=ai mixed (by kernel_rfl)
def iI:CC:=by refine(fun(_:G.ap (G.gn Tryz.prog Tryz.f255 [] { ke:=[0] })=?c)=>?c) ?h;case h=>conv=>lhs; (conv=>arg 1;reduce);dsimp only[G.ap]
def iB:List ak:=[.cell 2 true 5, .tmp 3]
theorem yn:aq Tryz.prog fm [] iI iB 44:=ai mixed (by kernel_rfl)
end Go.Gv

namespace Go.Gv
open Cod (enc dec)
variable {S S0:Nat->Spc}
abbrev s_decR:Spc:=bj (a1 B) (fun s=>∃c,s.data[0]? =some c/\c.toNat < 128) (ro (Y:=I32) (Z:=Int)) fun s y=>∀c,s.data[0]? =some c->y=(⟨c.toNat⟩,1)
abbrev s_crune:Spc:=bj (a2 B I32) (fun x=>0<=x.2.val/\x.2.val < 128) (enc (X:=Bool)) fun x y=>y=qdr x.1 x.2.val
theorem Ad{p:Rp}{c:Int}(h:JV p=some c):p.s.size<=200/\((p.pos=p.s.size/\c= -1)\/(0<=p.pos/\p.pos < p.s.size/\p.pos≠p.s.size/\∃x:UInt8,p.s.data[p.pos.toNat]? =some x/\x.toNat < 128/\c=x.toNat)):=by
 unfold JV at h
 split at h
 ·cases h
 rename_i hsz
 refine⟨by omega,?_⟩
 split at h
 ·exact .inl ⟨by assumption,(qua h).symm⟩
 ·rename_i hne
  split at h
  ·rename_i h0
   split at h
   ·rename_i x hx
    split at h
    ·rename_i hlt
     have hx2:=(qt3.1 hx).1
     refine .inr ⟨h0,?_,hne,x,hx,hlt,(qua h).symm⟩
     show p.pos < (p.s.data.size:Int)
     omega
    ·cases h
   ·cases h
  ·cases h
theorem qsF{s:B}{k:Nat}{x:UInt8}(h:s.data[k]? =some x):(s.extract k s.size).data[0]? =some x:=by
 obtain⟨h1,h2⟩:=qt3.1 h
 rw[ByteArray.data_extract,qwi]
 have:0 < min s.size s.data.size -k:=by
  have:s.size=s.data.size:=rfl
  omega
 rw[if_pos this,qu6]
 exact h
abbrev gr:Spc:=XT a0 (enc (X:=I32)) kC
theorem Me(h1:S bi=s_decR):tD fB ff S a0 (enc (X:=I32)) (fun s z=>∃r,kC s z=some r) (fun s z s' y=>kC s z=some (s',y)):=by
 rintro b s ⟨⟩ ⟨r,hr⟩
 obtain⟨c,hc,_⟩:=qt6.1 hr
 have fin:∀ {H:ab},H 0=some (.box b (qR s))->DY (enc (X:=I32)) b (fun s' y=>kC s ()=some (s',y)) (.v (.int .i32 c)) H:=fun h0=>DG s ⟨c⟩ (.same _) h0 (by simp[kC,hc])
 obtain⟨hsz,hc2⟩:=Ad hc
 rcases hc2 with⟨e1,rfl⟩|⟨h0,h2,h3,x,hx,hlt,rfl⟩
 ·simp[fB,ff,e1, -Bool.forall_bool, -Bool.exists_bool]
  exact fun _=>fin (by simp[e1])
 ·have hd:(s.s.data.extract s.pos.toNat s.s.size)[0]? =some x:=by rw[<-ByteArray.data_extract];exact qsF hx
  simp[fB,ff,h1,h0,h2,h3, -Bool.forall_bool, -Bool.exists_bool]
  refine fun _=>⟨by omega,⟨x,hd,hlt⟩,fun a b1 h=>?_⟩
  obtain⟨rfl,rfl⟩:=h x hd
  exact fin (by simp)
abbrev MM:Spc:=XT a0 US Ll
theorem Md(h1:S bi=s_decR):tD jE jo S a0 US (fun s z=>∃r,Ll s z=some r) (fun s z s' y=>Ll s z=some (s',y)):=by
 rintro b s ⟨⟩ ⟨r,hr⟩
 obtain⟨c,hc,h⟩:=qtT.1 hr
 split at h
 ·rename_i hc0
  have fin:∀ {H:ab},H 0=some (.box b (qR s.bump))->DY US b (fun s' y=>Ll s ()=some (s',y)) (.tup []) H:=fun h0=>DG s.bump () (.same _) h0 (by simp[Ll,hc,hc0])
  obtain⟨hsz,hc2⟩:=Ad hc
  rcases hc2 with⟨e1,rfl⟩|⟨h0,h2,h3,x,hx,hlt,rfl⟩
  ·omega
  ·have hd:(s.s.data.extract s.pos.toNat s.s.size)[0]? =some x:=by rw[<-ByteArray.data_extract];exact qsF hx
   simp[jE,jo,h1,h0,h2,h3, -Bool.forall_bool, -Bool.exists_bool]
   refine⟨by omega,⟨x,hd,hlt⟩,fun a b1 h=>?_⟩
   obtain⟨rfl,rfl⟩:=h x hd
   exact⟨by simp only[InR];omega,fin (by simp[Rp.bump])⟩
 ·cases h
abbrev qdK:(I32×Bool)->D:=ro (Y:=I32) (Z:=Bool)
abbrev CQ:Spc:=XT (a1 B) qdK AW
theorem Ch(h1:S aw=gr)(h2:S fN=MM):tD eV eS S (a1 B) qdK (fun s z=>∃r,AW s z=some r) (fun s z s' y=>AW s z=some (s',y)):=by
 rintro b s sp ⟨r,hr⟩
 obtain⟨c,hc,h⟩:=qtT.1 hr
 split at h
 ·cases h
 ·rename_i hn
  have n1:0<=c:=by omega
  have n2:c≠92:=fun e=>hn (.inr e)
  simp[eV,eS,h1,h2,kC,Ll,hc,n1,n2, -Bool.forall_bool, -Bool.exists_bool]
  exact DG s.bump (⟨c⟩,true) (.same _) (by simp) (by simp[AW,hc,hn])
abbrev Sa:Spc:=XT a0 qdK PM
theorem Hh(h1:S aw=gr)(h2:S cY=s_crune)(h3:S bS=CQ):tD gP gy S a0 qdK (fun s z=>∃r,PM s z=some r) (fun s z s' y=>PM s z=some (s',y)):=by
 rintro b s ⟨⟩ ⟨r,hr⟩
 obtain⟨c,hc,h⟩:=qtT.1 hr
 split at h
 ·cases h
 ·rename_i hn
  have n1:¬c < 0:=fun e=>hn (.inl e)
  have n2:qdr Vb c=false:=by
   cases e:qdr Vb c with
   | false=>rfl
   | true=>exact absurd (.inr e) hn
  have hsz:=Ad hc
  have h128:c < 128:=by
   rcases hsz.2 with⟨_,rfl⟩|⟨_,_,_,x,_,hlt,rfl⟩ <;> omega
  have n3:qdr ⟨#[92,91,93,94,45]⟩ c=false:=n2
  have h4:AW s ⟨#[92,91,93,94,45]⟩=some r:=h
  simp[gP,gy,h1,h2,h3,kC,hc,n1,n3,h4,h128, -Bool.forall_bool, -Bool.exists_bool]
  obtain⟨s',⟨c'⟩,t'⟩:=r
  intro n0
  refine⟨fun _=>⟨n0,DG s' (⟨c'⟩,t') (.same _) (by simp) (by simp[PM,hc,hn,h])⟩,fun _=>DG s' (⟨c'⟩,t') (.same _) (by simp) (by simp[PM,hc,hn,h])⟩
theorem NR{H:ab}{op mn mx:Int}{d3 d4:D}(rs:List Rng)(ks:List Rx)(h3:FrzTo H d3 (enc rs))(h4:FrzTo H d4 (enc ks)):FrzTo H (.agg [.v (.int .i64 op), .v (.int .i64 mn), .v (.int .i64 mx),d3,d4]) (enc (Rx.mk op mn mx rs ks)):=by
 rw[qaq]
 refine .agg rfl fun k c c' hc hc'=>?_
 match k with
 | 0=>cases hc;cases hc';exact .same _
 | 1=>cases hc;cases hc';exact .same _
 | 2=>cases hc;cases hc';exact .same _
 | 3=>cases hc;cases hc';exact h3
 | 4=>cases hc;cases hc';exact h4
 | k+5=>simp at hc
abbrev R9:Spc:=bj (a2 I32 I32) (fun _=>True) (enc (X:=Rx)) fun x y=>y=YF x.1.val x.2.val
theorem OF:ar xq wx S (a2 I32 I32) (fun _=>True) (enc (X:=Rx)) fun x y=>y=YF x.1.val x.2.val:=by
 rintro⟨x,y⟩ -
 simp[xq,wx,YF]
 exact fun b=>cX (Y:=Rx) ⟨1,0,0, [⟨x,y⟩], []⟩ (NR [⟨x,y⟩] [] (.same _) (.nil _)) rfl
end Go.Gv

namespace Go.Gv
open Cod (enc dec)
variable {S S0:Nat->Spc}
abbrev BY:(Rx×Bool)->D:=ro (Y:=Rx) (Z:=Bool)
abbrev Sb:Spc:=XT a0 BY qdZ
abbrev MN:Spc:=XT a0 BY Vh
theorem qkh{b:Nat}{post:Rp->(Rx×Bool)->Prop}{x:Rx}{v:Bool}{H:ab}(s:Rp)(h0:H 0=some (.box b (qR s)))(hq:post s (x,v)):DY BY b post (.tup [enc x, .v (.bool v)]) H:=DG s (x,v) (.same _) h0 hq
theorem BW{b:Nat}{post:Rp->(Rx×Bool)->Prop}{x:Rx}{v:Bool}{H:ab}(s:Rp)(h0:H 0=some (.box b (qR s)))(hq:post s (x,v)):DY BY b post (.tup [.agg [.v (.int .i64 x.op), .v (.int .i64 x.mn), .v (.int .i64 x.mx), .list 2 (x.rs.map enc), .list 5 (x.kids.map enc)], .v (.bool v)]) H:=by
 have e:(D.agg [.v (.int .i64 x.op), .v (.int .i64 x.mn), .v (.int .i64 x.mx), .list 2 (x.rs.map enc), .list 5 (x.kids.map enc)])=enc x:=by simp
 rw[e]
 exact qkh s h0 hq
set_option maxHeartbeats 1000000 in
theorem Mf(h1:S aw=gr)(h2:S uc=R9)(h3:S fp=Sb)(h4:S cY=s_crune)(h5:S bS=CQ):tD dR dJ S a0 BY (fun s z=>∃r,Vh s z=some r) (fun s z s' y=>Vh s z=some (s',y)):=by
 rintro b s ⟨⟩ ⟨r,hr⟩
 have hr0:=hr
 obtain⟨c,hc,h⟩:=qtT.1 hr
 have hsz:=Ad hc
 have h128:c < 128:=by
  rcases hsz.2 with⟨_,rfl⟩|⟨_,_,_,x,_,hlt,rfl⟩ <;> omega
 split at h
 ·cases h
 rename_i e40
 split at h
 ·rename_i e46
  subst e46
  have hp:InR .i64 (s.pos+1):=by
   rcases hsz.2 with⟨_,e⟩|⟨_,_,_,x,_,hlt,e⟩
   ·cases e
   ·simp only[InR];omega
  cases h
  simp[dR,dJ,h1,h2,kC,hc,hp, -Bool.forall_bool, -Bool.exists_bool]
  exact fun _=>BW s.bump (by simp[Rp.bump]) hr0
 rename_i e46
 split at h
 ·rename_i e91
  subst e91
  obtain⟨s',x',t'⟩:=r
  simp[dR,dJ,h1,h3,kC,hc,h, -Bool.forall_bool, -Bool.exists_bool]
  exact fun _=>BW s' (by simp) hr0
 rename_i e91
 split at h
 ·cases h
 ·rename_i hn
  obtain⟨q,hq,rfl⟩:=qt6.1 h
  obtain⟨s',⟨c'⟩,t'⟩:=q
  have hq':=hq
  obtain⟨c2,hc2,h'⟩:=qtT.1 hq'
  rw[hc]at hc2
  obtain rfl:=qua hc2
  split at h'
  ·cases h'
  rename_i hn2
  have n0:0<=c:=by omega
  have n92:c≠92:=fun e=>hn2 (.inr e)
  have nin:qdr ⟨#[92,46,91,93,40,41,123,125,124,42,43,63]⟩ c=false:=by
   cases e:qdr ⟨#[92,46,91,93,40,41,123,125,124,42,43,63]⟩ c with
   | false=>rfl
   | true=>exact absurd ⟨n92,e⟩ hn
  have hq2:AW s ⟨#[92,46,91,93,40,41,123,125,124,42,43,63]⟩=some (s',⟨c'⟩,t'):=hq
  simp[dR,dJ,h1,h2,h4,h5,kC,hc,e40,e46,e91,n0,n92,h128,nin,hq2, -Bool.forall_bool, -Bool.exists_bool]
  exact fun _=>BW s' (by simp) hr0
abbrev R8:Spc:=XT a0 BY YZ
theorem Ve{p:Rp}{c:Int}(h:JV p=some c):c < 128/\ -1<=c/\(0<=c->InR .i64 (p.pos+1)):=by
 obtain⟨h1,h2⟩:=Ad h
 rcases h2 with⟨_,rfl⟩|⟨_,_,_,x,_,hlt,rfl⟩
 ·exact⟨by omega,by omega,fun h=>absurd h (by omega)⟩
 ·exact⟨by omega,by omega,fun _=>by simp only[InR];omega⟩
theorem Wj{c:Int}{m:Int×Int}(h:KG c=some m):c=42/\m=(0, -1)\/c=43/\m=(1, -1)\/c=63/\m=(0,1):=by
 unfold KG at h
 split at h
 ·exact .inl ⟨by assumption,(qua h).symm⟩
 split at h
 ·exact .inr (.inl ⟨by assumption,(qua h).symm⟩)
 split at h
 ·exact .inr (.inr ⟨by assumption,(qua h).symm⟩)
 cases h
theorem Lr{c:Int}(h:KG c=none):c≠42/\c≠43/\c≠63:=by
 unfold KG at h
 refine⟨fun e=>?_,fun e=>?_,fun e=>?_⟩ <;> (subst e;simp at h)
def ww(o:Option (Int×Int))(x:Rx):List D:=match o with
 | none=>[.v (.int .i64 x.op), .v (.int .i64 x.mn), .v (.int .i64 x.mx), .list 2 (x.rs.map enc), .list 5 (x.kids.map enc)]
 | some m=>[.v (.int .i64 4), .v (.int .i64 m.1), .v (.int .i64 m.2), .v (.slice none 0 0), .list 5 [enc x]]
theorem qkg{b:Nat}{post:Rp->(Rx×Bool)->Prop}{m:Int×Int}{e:Rx}{H:ab}(s:Rp)(h0:H 0=some (.box b (qR s)))(hq:post s (⟨4,m.1,m.2, [], [e]⟩,true)):DY BY b post (.tup [.agg (ww (some m) e), .v (.bool true)]) H:=by
 refine DG s (⟨4,m.1,m.2, [], [e]⟩,true) (.tup rfl fun k c c' hc hc'=>?_) h0 hq
 match k with
 | 0=>cases hc;cases hc';exact NR [] [e] (.nil _) (.same _)
 | 1=>cases hc;cases hc';exact .same _
 | k+2=>simp at hc
set_option maxHeartbeats 2000000 in
theorem He(h1:S aw=gr)(h2:S fO=MN):tD gO gx S a0 BY (fun s z=>∃r,YZ s z=some r) (fun s z s' y=>YZ s z=some (s',y)):=by
 rintro b s ⟨⟩ ⟨r,hr⟩
 have hr0:=hr
 obtain⟨⟨s1,e,ok⟩,ha,h⟩:=qtT.1 hr
 simp only at h
 split at h
 rotate_left
 ·cases h
 rename_i hok
 subst hok
 obtain⟨c,hc,h⟩:=qtT.1 h
 split at h
 ·cases h
 rename_i e123
 have hcc:=Ve hc
 simp[gO,gx,h2,ha, -Bool.forall_bool, -Bool.exists_bool]
 intro b2 b4
 refine av (X:=Option (Int×Int)) [0,2,4,5] [2] (fun o=>∀m,o=some m->KG c=some m) (fun _=>[]) (fun o=>[(0, .box b (qR (match o with|none=>s1|some _=>s1.bump))),(4, .box b4 (ww o e))]) (fun o=>match o with|none=>1|some _=>0) none (fun m h=>by cases h) (by simp) (by simp[ww]) ?_
 rintro(_|m) hP
 ·cases hm:KG c with
  | none=>
    rw[hm]at h
    cases h
    obtain⟨n1,n2,n3⟩:=Lr hm
    simp[ww,h1,kC,hc,n1,n2,n3,e123, -Bool.forall_bool, -Bool.exists_bool]
    exact BW s1 (by simp) hr0
  | some m=>
    rcases Wj hm with⟨rfl,rfl⟩|⟨rfl,rfl⟩|⟨rfl,rfl⟩
    all_goals
     have hin:=hcc.2.2 (by omega)
     simp[ww,h1,kC,hc,hin, -Bool.forall_bool, -Bool.exists_bool]
     first
      | exact⟨some (0, -1),by simp,⟨.inl ⟨rfl,rfl,rfl,rfl⟩, .inl rfl⟩,rfl⟩
      | exact⟨some (1, -1),by simp,⟨.inl ⟨rfl,rfl,rfl,rfl⟩, .inl rfl⟩,rfl⟩
      | exact⟨some (0,1),by simp,⟨.inl ⟨rfl,rfl,rfl,rfl⟩, .inl rfl⟩,rfl⟩
 ·have hm:=hP m rfl
  rw[hm]at h
  simp only at h
  obtain⟨d,hd,h⟩:=qtT.1 h
  split at h
  ·cases h
  rename_i hn
  cases h
  have hd':d≠123/\KG d=none:=⟨fun e=>hn (.inl e),by
   cases q:KG d with
   | none=>rfl
   | some q'=>exact absurd (.inr (by rw[q];rfl)) hn⟩
  obtain⟨n1,n2,n3⟩:=Lr hd'.2
  have n4:=hd'.1
  simp[ww,h1,kC,hd,n1,n2,n3,n4, -Bool.forall_bool, -Bool.exists_bool]
  simpa [ww, -Bool.forall_bool, -Bool.exists_bool]using qkg (e:=e) (m:=m) s1.bump (by simp) hr0
end Go.Gv
