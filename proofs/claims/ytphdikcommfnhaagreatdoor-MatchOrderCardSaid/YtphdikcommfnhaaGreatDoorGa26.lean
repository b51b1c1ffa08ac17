/- A part of the framework and of the walks: W154 W155 T31 C51 W130. -/
import Derived.Test.YtphdikcommfnhaaGreatDoorGa25
import Derived.Test.YtphdikcommfnhaaGreatDoorGa20
import Derived.Test.YtphdikcommfnhaaGreatDoorGa22
set_option linter.unusedSimpArgs false
set_option linter.unusedVariables false
set_option maxRecDepth 100000
set_option linter.unusedSectionVars false

namespace Go.Gv
open Cod (enc dec)
variable {S S0:Nat->Spc}
def Xo (x:Cond×List fJ×List B):List D:= [enc x.1, .cptr [enc x.2.1] 0, .cptr [enc x.2.2] 0]
theorem Od (z z':Cond×List fJ×List B) (h:Xo z=Xo z'):z=z':=by
 obtain⟨a,s,l⟩:=z
 obtain⟨a',s',l'⟩:=z'
 unfold Xo at h
 simp only[List.cons.injEq,D.cptr.injEq,and_true] at h
 rw[bj h.1,bj h.2.1,bj h.2.2]
noncomputable abbrev aVd:du (Cond×List fJ×List B):=aX Xo Od
@[simp] theorem qc7 (x:Cond) (a:List fJ) (lb:List B):aVd.dec [.agg [.v (.int .i64 x.op), .v (.string x.name), .v (.string x.arg), .v (.string x.val), .v (.string x.lab), .v (.bool x.fold), .list 7 (x.kids.map enc)], .cptr [.list 2 (a.map enc)] 0, .cptr [.list 1 (lb.map enc)] 0]=some (x,a,lb):=by
 have h:=xW Xo Od (x,a,lb)
 have e:Xo (x,a,lb)= [.agg [.v (.int .i64 x.op), .v (.string x.name), .v (.string x.arg), .v (.string x.val), .v (.string x.lab), .v (.bool x.fold), .list 7 (x.kids.map enc)], .cptr [.list 2 (a.map enc)] 0, .cptr [.list 1 (lb.map enc)] 0]:=by simp[Xo]
 rw[<-e]
 exact h
noncomputable abbrev IL:Spc:=cC aVd (fun x=> Nr x.2.1 x.2.2 x.1=true/\x.2.1.length<=1000) (enc (X:=Int)) fun _ y=> y=0
theorem r9 (h1:S fF=Ec):aV gh fX S aVd (fun x=> Nr x.2.1 x.2.2 x.1=true/\x.2.1.length<=1000) (enc (X:=Int)) fun _ y=> y=0:=by
 rintro⟨x,a,lb⟩ ⟨hx,hl⟩
 simp only at hx hl
 rw[vy]
 simp[Xo,gh,fX,h1,hx,hl, -Bool.forall_bool, -Bool.exists_bool]
def qcH (n:Nat) (x:Cond×D×Unit):Prop:= ∃ (a:List fJ) (lb:List B),x.2.1= .clo bE [.cptr [enc a] 0, .cptr [enc lb] 0]/\Ov a lb n x.1=true/\a.length<=1000/\vN x.1<=60
noncomputable abbrev D7 (n:Nat):Spc:=cC (aE Cond (aD a0)) (qcH n) (enc (X:=Int)) fun x y=> y=0
noncomputable abbrev D6:Spc:=cC (aE Cond (aD a0)) (fun x=> ∃n,qcH n x) (enc (X:=Int)) fun x y=> y=0
theorem yh (n:Nat) (h1:S bE=IL) (h2:S cw=D7 n):aV ms lI S (aE Cond (aD a0)) (qcH (n+1)) (enc (X:=Int)) fun x y=> y=0:=by
 rintro⟨x,d,⟨⟩⟩ ⟨a,lb,hd,hx,hl,hn⟩
 simp only at hd hx hn
 subst hd
 simp only[Ov,Bool.and_eq_true] at hx
 obtain⟨hx1,hx2⟩:=hx
 simp[ms,lI,h1,hx1,hl, -Bool.forall_bool, -Bool.exists_bool]
 intro hkl
 refine aA (X:=Unit) [1,16] [] x.kids.length (fun k _=> True) (fun _=> []) (fun _=> []) () (by simp) (by simp) (by omega) (by simp) (by simp) (by simp) (by simp) (by simp) ?_ ?_
 ·rintro k -hk -
  obtain⟨y,hy⟩:=te hk
  obtain⟨_,hgy⟩:=List.getElem?_eq_some_iff.1 hy
  have hm:=List.mem_of_getElem? hy
  have hny:=Hv hm
  have hnx:=Jb x
  have hp:qcH n (y, .clo bE [.cptr [.list 2 (a.map enc)] 0, .cptr [.list 1 (lb.map enc)] 0],()):=⟨a,lb,rfl,List.all_eq_true.1 hx2 y hm,hl,by show vN y<=60;omega⟩
  simp[h2,hk,hy,hgy,hp, -Bool.forall_bool, -Bool.exists_bool]
 ·rintro - -
  simp[-Bool.forall_bool, -Bool.exists_bool]
abbrev N8 (x:Cond×List fJ×List B):Prop:=qdI x.2.1 x.2.2 x.1=true/\x.2.1.length<=1000
abbrev Ne:Spc:=cC (a3 Cond (List fJ) (List B)) N8 (enc (X:=Int)) fun _ y=> y=0
theorem t7 (h1:S bN=Eb) (h2:S cw=D6):aV iv io S (a3 Cond (List fJ) (List B)) N8 (enc (X:=Int)) fun _ y=> y=0:=by
 rintro⟨x,a,lb⟩ ⟨hx,hl⟩
 simp only at hx hl
 unfold qdI at hx
 simp at hx
 obtain⟨⟨hn,hd⟩,ha⟩:=hx
 have hp: ∃n,qcI n (x,0,1):=⟨rZ x,Nat.le_refl _,Int.le_refl _,by show(0:Int) +vN x<=60;omega,by show(0:Int)<=1;omega,by show(1:Int) +rZ x<=1000;omega,by show rZ x<=60;omega⟩
 have hw: ∃n,qcH n (x, .clo bE [.cptr [.list 2 (a.map enc)] 0, .cptr [.list 1 (lb.map enc)] 0],()):=⟨20,a,lb,rfl,ha,hl,hn⟩
 have q1: ¬ (60:Int) < (vN x:Int):=by omega
 have q2: ¬ (20:Int) < 1+ (rZ x:Int) -1:=by omega
 simp[iv,io,h1,h2,hp,hw,q1,q2, -Bool.forall_bool, -Bool.exists_bool]
end Go.Gv

namespace Go.Gv
open Cod (enc dec)
variable {S S0:Nat->Spc}
def Tf (l:List Pair) (s:Pair):Bool:=l.any fun z=> decide (z=s)
abbrev IG:Spc:=cC (a2 (List Pair) Pair) (fun _=> True) (enc (X:=Int)) fun x y=> y=gT x.1 fun z=> decide (z=x.2)
abbrev IJ:Spc:=cC (a2 (List Pair) Pair) (fun _=> True) (enc (X:=Bool)) fun x y=> y=Tf x.1 x.2
theorem Ih:aV iS iA S (a2 (List Pair) Pair) (fun _=> True) (enc (X:=Int)) fun x y=> y=gT x.1 fun z=> decide (z=x.2):=by
 rintro⟨l,s⟩ -
 simp[iS,iA, -Bool.forall_bool, -Bool.exists_bool]
 intro _
 refine aA (X:=Unit) [0,3] [] l.length (fun k _=> ∀x∈l.take k,decide (x=s)=false) (fun _=> []) (fun _=> []) () (by simp) (by simp) (by omega) (by simp) (by simp) (by simp) (by simp) (by simp) ?_ ?_
 ·intro k _ hk hP
  obtain⟨x,hx⟩:=te hk
  obtain⟨_,hgx⟩:=List.getElem?_eq_some_iff.1 hx
  simp[hk,hx,hgx, -Bool.forall_bool, -Bool.exists_bool]
  have hpe:s.nm=x.nm->s.vl=x.vl->x=s:=fun h1 h2=> by
   obtain⟨a,b⟩:=x
   obtain⟨a',b'⟩:=s
   simp only at h1 h2
   rw[h1,h2]
  refine⟨fun h1 h2=> (qE hx (by simp[hpe h1 h2]) hP).symm,fun h=> ?_⟩
  rw[cU hx]
  intro z hz
  rcases List.mem_append.1 hz with hz | hz
  ·have:=hP z hz
   simpa using this
  ·simp at hz;subst hz
   intro e
   subst e
   exact h rfl rfl
 ·intro _ hP
  simp[-Bool.forall_bool, -Bool.exists_bool]
  exact(kZ (by simpa using hP)).symm
theorem Cz (h1:S ei=IG):aV gg fW S (a2 (List Pair) Pair) (fun _=> True) (enc (X:=Bool)) fun x y=> y=Tf x.1 x.2:=by
 rintro⟨l,s⟩ -
 simp[gg,fW,h1, -Bool.forall_bool, -Bool.exists_bool]
 exact qD _ l
def El (x:Cond) (tok:Int) (r:Region):Bool:=decide (r.ty=x.name) && decide (r.b<=tok) && decide (tok < r.e) && (decide (x.arg=oj) || Tf r.kv ⟨x.arg,x.val⟩)
def Rh (x:Cond):List D:= [.v (.int .i64 x.op), .v (.string x.name), .v (.string x.arg), .v (.string x.val), .v (.string x.lab), .v (.bool x.fold), .list 7 (x.kids.map enc)]
theorem O9 (x:Cond): .agg (Rh x)=enc x:=by simp[Rh]
theorem WP {x y:Cond} (h:Rh x=Rh y):x=y:=bj (by rw[<-O9,<-O9,h])
def U5 (x:Region×Cond×Int):List D:= [enc x.1, .cptr (Rh x.2.1) 0, .cptr [enc x.2.2] 0]
theorem Oe (z z':Region×Cond×Int) (h:U5 z=U5 z'):z=z':=by
 obtain⟨a,s,l⟩:=z
 obtain⟨a',s',l'⟩:=z'
 unfold U5 at h
 simp only[List.cons.injEq,D.cptr.injEq,and_true] at h
 rw[bj h.1,WP h.2.1,bj h.2.2]
noncomputable abbrev qmE:du (Region×Cond×Int):=aX U5 Oe
noncomputable abbrev qA:Spc:=cC qmE (fun _=> True) (enc (X:=Bool)) fun x y=> y=El x.2.1 x.2.2 x.1
theorem tY (h1:S dc=IJ):aV cf ca S qmE (fun _=> True) (enc (X:=Bool)) fun x y=> y=El x.2.1 x.2.2 x.1:=by
 rintro⟨r,x,tok⟩ -
 rw[vy]
 by_cases e1:r.ty=x.name
 rotate_left
 ·simp[U5,Rh,cf,ca,El,e1, -Bool.forall_bool, -Bool.exists_bool]
 by_cases e2:r.b<=tok
 rotate_left
 ·simp[U5,Rh,cf,ca,El,e1,e2, -Bool.forall_bool, -Bool.exists_bool]
 by_cases e3:tok < r.e
 rotate_left
 ·simp[U5,Rh,cf,ca,El,e1,e2,e3, -Bool.forall_bool, -Bool.exists_bool]
 by_cases e4:x.arg=oj
 ·have e4':x.arg=⟨#[]⟩:=e4
  simp[U5,Rh,cf,ca,El,e1,e2,e3,e4,e4',oj, -Bool.forall_bool, -Bool.exists_bool]
 ·have e4': ¬x.arg=⟨#[]⟩:=e4
  simp[U5,Rh,cf,ca,El,h1,e1,e2,e3,e4,e4', -Bool.forall_bool, -Bool.exists_bool]
abbrev M8:Spc:=cC (a3 Corpus Cond Int) (fun _=> True) (enc (X:=Bool)) fun x y=> y=x.1.regs.any (El x.2.1 x.2.2)
theorem wB (h0:S0 bh=qA) (h1:S aG=IQ Region S0):aV jI jw S (a3 Corpus Cond Int) (fun _=> True) (enc (X:=Bool)) fun x y=> y=x.1.regs.any (El x.2.1 x.2.2):=by
 rintro⟨c,x,tok⟩ -
 have hf:FunOn S0 (.clo bh [.cptr (Rh x) 0, .cptr [enc tok] 0]) c.regs (El x tok):=
  rS (f:=fun r=> (r,x,tok)) h0 (fun r _=> xW U5 Oe (r,x,tok)) (fun _ _=> trivial) (fun r _ y hy=> hy)
 unfold Rh at hf
 simp[jI,jw,h1, -Bool.forall_bool, -Bool.exists_bool]
 exact⟨⟨_,hf⟩,fun y hy=> hy _ hf⟩
end Go.Gv

namespace Go.Gv
open Cod (enc dec)
@[simp] theorem qiV (s:Rp):Rp.mk s.s s.pos s.fault s.e=s:=by cases s;rfl
def nS (s:Rp):List D:= [enc s.s,enc s.pos,enc s.fault,enc s.e]
@[simp] theorem qfc (s:Rp):nS s= [enc s.s,enc s.pos,enc s.fault,enc s.e]:=id rfl
section
variable {Y Z:Type}
def Yv:F5 Rp:=Db nS
def qgc (A:du Z) (er:Y->D) (pre:Rp->Z->Prop) (post:Rp->Z->Rp->Y->Prop):Spc:=qcq Yv A er pre post
def qkd (er:Y->D) (pre:Rp->Z->Prop) (post:Rp->Z->Rp->Y->Prop) (id b:Nat) (r:Option Res) (o:Option Z) (H:aa) (K:D->aa->Prop):Prop:=
 ∃x,r=some (.box b (nS x))/\dP o fun z=> pre x z/\ ∀x' y,post x z x' y->K (er y) (ah H id (some (.box b (nS x'))))
theorem Ui {x y:Rp} (h:nS x=nS y):x=y:=by
 obtain⟨l,a,d,e⟩:=x
 obtain⟨l',a',d',e'⟩:=y
 simp only[nS,List.cons.injEq] at h
 obtain⟨h1,h2,h3,h4,_⟩:=h
 have h1:=bj h1
 have h2:=bj h2
 have h3:=bj h3
 have h4:=bj h4
 subst h1;subst h2;subst h3;subst h4
 rfl
@[simp] theorem Yu (A:du Z) (er:Y->D) (pre:Rp->Z->Prop) (post:Rp->Z->Rp->Y->Prop) (d i b:Nat) (ds:List D) (H:aa) (K:D->aa->Prop): (qgc A er pre post).pt d (.bptr i b 0::ds) H K=qkd er pre post i b (H i) (A.dec ds) H K:=by
 refine propext ⟨fun h=> ?_,fun h=> ?_⟩
 ·obtain⟨id,b',x,z,ds',h1,h2,h3,h4,h5,h6,h7⟩:=h
  cases h1
  refine⟨x,h3,?_⟩
  rw[h2]
  exact⟨h6,h7⟩
 ·obtain⟨x,h1,h2⟩:=h
  cases hz:A.dec ds with
  | none=> rw[hz] at h2;exact h2.elim
  | some z=> rw[hz] at h2;exact⟨i,b,x,z,ds,rfl,hz,h1,fun p hp=> by simp[Yv,Db] at hp,by simp[Yv,Db],h2.1,h2.2⟩
def Ai (er:Y->D) (b:Nat) (post:Rp->Y->Prop) (r:D) (H:aa):Prop:=H5 Yv er b post r H
theorem zS {er:Y->D} {b:Nat} {post:Rp->Y->Prop} {r:D} {H:aa} (x:Rp) (y:Y) (hr:FrzTo (fun i=> if i=0 then none else H i) r (er y)) (h0:H 0=some (.box b (nS x))) (hq:post x y):Ai er b post r H:=
 ⟨x,y,by simpa [Yv,Db] using hr,h0,fun p hp=> by simp[Yv,Db] at hp,hq⟩
def qh (cc:CC) (rs:List ar) (S:Nat->Spc) (A:du Z) (er:Y->D) (pre:Rp->Z->Prop) (post:Rp->Z->Rp->Y->Prop):Prop:=
 ∀b x z,pre x z->vc S cc (rF rs fun r H'=> Ai er b (post x z) r H') (fY (.bptr 0 b 0::A.view z)) (ah ed 0 (some (.box b (nS x))))
variable {P:Program} {S:Nat->Spc} {f:Nat} {im:List Nat} {cc:CC} {rs:List ar} {N:Nat}
theorem Mw {A:du Z} {er:Y->D} {pre:Rp->Z->Prop} {post:Rp->Z->Rp->Y->Prop} (hS: ∀f,Tri P f (S f).pt) (h:ay P f im cc rs N) (hN: ∀z,(A.view z).length+1<=N) (hw:qh cc rs S A er pre post):Tri P f (qgc A er pre post).pt:=
 sf (by simp[Yv,Db]) hS h hN fun b x z hp=> hw b x z hp
end
section
variable {Y Z:Type}
def Rf (A:du Z) (er:Y->D) (F:Rp->Z->Option (Rp×Y)):Spc:=qgc A er (fun s z=> ∃r,F s z=some r) (fun s z s' y=> F s z=some (s',y))
def R6 (er:Y->D) (F:Rp->Z->Option (Rp×Y)) (id b:Nat) (r:Option Res) (o:Option Z) (H:aa) (K:D->aa->Prop):Prop:=
 ∃x,r=some (.box b (nS x))/\dP o fun z=> dP (F x z) fun q=> K (er q.2) (ah H id (some (.box b (nS q.1))))
@[congr] theorem qdm {er:Y->D} {F:Rp->Z->Option (Rp×Y)} {id b:Nat} {r r':Option Res} {o o':Option Z} {H:aa} {K:D->aa->Prop} (h1:r=r') (h2:o=o'):R6 er F id b r o H K=R6 er F id b r' o' H K:=by subst h1;subst h2;rfl
theorem YE {F:Option (Rp×Y)} {k:Rp->Y->Prop} : ((∃r,F=some r)/\ ∀x' y,F=some (x',y)->k x' y)=dP F fun q=> k q.1 q.2:=by
 cases F with
 | none=>
   refine propext (Iff.intro (fun h=> ?_) (fun h=> ?_))
   ·obtain⟨⟨r,h⟩,_⟩:=h
    cases h
   ·exact False.elim h
 | some r=>
   refine propext (Iff.intro (fun h=> h.2 _ _ rfl) (fun h=> ⟨⟨_,rfl⟩,fun x' y e=> ?_⟩))
   cases e
   exact h
@[simp] theorem qga (A:du Z) (er:Y->D) (F:Rp->Z->Option (Rp×Y)) (d i b:Nat) (ds:List D) (H:aa) (K:D->aa->Prop): (Rf A er F).pt d (.bptr i b 0::ds) H K=R6 er F i b (H i) (A.dec ds) H K:=by
 unfold Rf R6
 rw[Yu]
 unfold qkd
 refine propext (exists_congr fun x=> and_congr_right fun _=> ?_)
 cases A.dec ds with
 | none=> exact Iff.rfl
 | some z=> exact iff_of_eq YE
@[simp] theorem qgb (er:Y->D) (F:Rp->Z->Option (Rp×Y)) (id b:Nat) (l:B) (p dp e:Int) (o:Option Z) (H:aa) (K:D->aa->Prop):
 R6 er F id b (some (.box b [.v (.string l), .v (.int .i64 p), .v (.int .i64 dp), .v (.int .i64 e)])) o H K=dP o fun z=> dP (F ⟨l,p,dp,e⟩ z) fun q=> K (er q.2) (ah H id (some (.box b (nS q.1)))):=by
 refine propext ⟨fun⟨x,h1,h2⟩=> ?_,fun h=> ⟨⟨l,p,dp,e⟩,rfl,h⟩⟩
 have e1:nS ⟨l,p,dp,e⟩=nS x:=by
  have:=Option.some.inj h1
  exact(Res.box.inj this).2
 have:=Ui e1
 subst this
 exact h2
variable {P:Program} {S:Nat->Spc} {f:Nat} {im:List Nat} {cc:CC} {rs:List ar} {N:Nat}
theorem fj {A:du Z} {er:Y->D} {F:Rp->Z->Option (Rp×Y)} (hS: ∀f,Tri P f (S f).pt) (h:ay P f im cc rs N) (hN: ∀z,(A.view z).length+1<=N)
 (hw:qh cc rs S A er (fun s z=> ∃r,F s z=some r) (fun s z s' y=> F s z=some (s',y))):Tri P f (Rf A er F).pt:=Mw hS h hN hw
end
end Go.Gv

namespace Go.Gv
open Go.Proofs
def fG:CC:=oX [oB 2 (.mv (.const (.int .i32 0)))] [0] [0] (.seq (.seq (.regd [oA 5 0,oG 6 5,oE 7 1 6,oC 8 1 7,oA 9 0,oG 10 9,oE 11 0 10,oC 12 1 11,oB 13 (.slen (oT 12))] [oB 14 (.eql false false [.int] (oT 8) (oT 13))]) (.keep [0,14] [0] (.ite (oT 14) (oX [oB 2 (.mv (.const (.int .i32 (-1))))] [2] [0] (.ret)) (.skip)))) (.keep [0] [0] (.seq (.regd [oA 16 0,
 oG 17 16,oE 18 0 17,oC 19 1 18,oA 20 0,oG 21 20,oE 22 1 21,oC 23 1 22,oB 24 (.sslice (oT 19) (some (oT 23)) none),oZ 25 aN [oT 24],oA 15 25,oB 26 (.ext (oT 15) 0),oB 27 (.ext (oT 15) 1),oA 3 26] [oA 4 27]) (.keep [3] [0] (oX [oA 28 3,oA 2 28] [2] [0] (.ret))))))
def fm:List ar:= [.tmp 2]
def uM:List Nat:= []
theorem uu:ay Tryz.prog ai uM fG fm 29:=ak mixed (by kernel_rfl)
def iU:CC:= .seq (.regd [oA 5 0,oG 6 5,oE 7 0 6,oC 8 1 7,oA 9 0,oG 10 9,oE 11 1 10,oC 12 1 11,oB 13 (.sslice (oT 8) (some (oT 12)) none),oZ 14 aN [oT 13],oA 4 14,oB 15 (.ext (oT 4) 0),oB 16 (.ext (oT 4) 1),oA 2 15] [oA 3 16]) (.keep [0,3] [0] (.reg [oA 17 0,oG 18 17,oE 19 1 18,oC 20 1 19,oA 21 3,
 oB 22 (.arith .add (oT 20) (oT 21)),oG 23 17,oE 24 1 23,oF 1 24 22]))
def iC:List ar:= []
def uL:List Nat:= []
theorem ut:ay Tryz.prog ej uL iU iC 25:=ak mixed (by kernel_rfl)
def fb:CC:=oX [oB 4 (.mv (.const (.int .i32 0))),oB 5 (.mv (.const ob))] [0,1] [0] (oX [oA 7 0,oZ 8 ai [oT 7],oA 6 8] [0,1,6] [0] (.seq (oX [oA 9 6,oB 10 (.eql false false [.int] (oT 9) (.const (.int .i32 92)))] [0,1,6,10] [0] (.ite (oT 10) (oX [oA 11 0,oG 12 11,oE 13 1 12,oC 14 1 13,oB 15 (.arith .add (oT 14) (oN 1)),oG 16 11,oE 17 1 16,
 oF 1 17 15] [0,1] [0] (oX [oA 18 0,oZ 19 ai [oT 18],oA 6 19] [0,1,6] [0] (oX [oA 20 6,oB 21 (.cmp .lss (oT 20) (.const (.int .i32 0))),oA 22 21,oI 23 22 (.mv (oT 1)),oI 24 22 (.mv (oT 6)),oI 25 22 (.call bD [oT 23,oT 24]),oI 26 22 (.not (oT 25)),oB 27 (.pick (oT 22) (.const (.bool true)) (oT 26))] [0,6,27] [0] (.ite (oT 27) (oX [oA 28 0,oA 29 0,
 oG 30 29,oE 31 1 30,oC 32 1 31,oZ 33 dg [oT 28,oT 32,oN 3],oB 4 (.mv (.const (.int .i32 0))),oA 5 33] [4,5] [0] (.ret)) (.skip))))) (.skip))) (.keep [0,6] [0] (oX [oA 34 0,oZ 35 ej [oT 34]] [6] [0] (oX [oA 36 6,oA 4 36,oB 5 (.mv (.const (.bool true)))] [4,5] [0] (.ret))))))
def fa:List ar:= [.tmp 4, .tmp 5]
def qp:List Nat:= []
theorem ql:ay Tryz.prog bv qp fb fa 37:=ak mixed (by kernel_rfl)
def gJ:CC:=oX [oB 2 (.mv (.const (.int .i32 0))),oB 3 (.mv (.const ob))] [0] [0] (oX [oA 5 0,oZ 6 ai [oT 5],oA 4 6] [0,4] [0] (.seq (oX [oA 7 4,oB 8 (.cmp .lss (oT 7) (.const (.int .i32 0))),oA 9 8,oI 10 9 (.mv (oT 4)),oI 11 9 (.eql true false [.int] (oT 10) (.const (.int .i32 92))),oI 12 9 (.mv (oT 11)),oH 13 12 (.mv (oT 4)),
 oH 14 12 (.call bD [oS ⟨#[92,91,93,94,45]⟩,oT 13]),oI 15 9 (.pick (oT 12) (oT 14) (.const ob)),oB 16 (.pick (oT 9) (.const (.bool true)) (oT 15))] [0,16] [0] (.ite (oT 16) (oX [oA 17 0,oA 18 0,oG 19 18,oE 20 1 19,oC 21 1 20,oZ 22 dg [oT 17,oT 21,oN 3],oB 2 (.mv (.const (.int .i32 0))),oA 3 22] [2,3] [0] (.ret)) (.skip))) (.keep [0] [0] (oX [oA 23 0,
 oZ 24 bv [oT 23,oS ⟨#[92,91,93,94,45]⟩],oB 25 (.ext (oT 24) 0),oB 26 (.ext (oT 24) 1),oA 2 25,oA 3 26] [2,3] [0] (.ret)))))
def gt:List ar:= [.tmp 2, .tmp 3]
def sU:List Nat:= []
theorem sE:ay Tryz.prog cL sU gJ gt 27:=ak mixed (by kernel_rfl)
def s7:CC:=oX [oB 4 (.alloc aC [oi,oi,oi,on,on])] [0,1,4] [4] (oX [oA 5 0,oA 6 1,oB 7 (.build [.int .i32 0,.int .i32 0] [(0,1,oT 5),(1,1,oT 6)]),oB 8 (.bslice ee 2 [oT 7]),oB 9 (.build [oi,oi,oi,on,on] [(0,1,oN 1),(3,1,oT 8)]),oF 5 4 9] [4] [4] (.ret))
def sv:List ar:= [.cell 4 true 5]
def Jl:List Nat:= []
theorem I0:ay Tryz.prog k8 Jl s7 sv 10:=ak mixed (by kernel_rfl)
def dX:CC:=oX [oB 2 (.alloc aC [oi,oi,oi,on,on]),oB 3 (.mv (.const ob))] [0,2] [0,2] (oX [oA 8 0,oZ 9 ai [oT 8],oA 4 9] [0,2,4] [0,2] (.seq (.block 0 (oX [oA 11 4,oB 12 (.eql false false [.int] (oT 11) (.const (.int .i32 40))),oA 10 12] [0,2,4,10] [0,2] (.ite (oT 10) (oX [oA 13 0,oG 14 13,oE 15 1 14,oC 16 1 15,
 oB 17 (.arith .add (oT 16) (oN 1)),oG 18 13,oE 19 1 18,oF 1 19 17] [0,2] [0,2] (oX [oA 21 0,oZ 22 cX [oT 21],oA 20 22,oB 23 (.ext (oT 20) 0),oB 24 (.ext (oT 20) 1),oB 5 (.alloc aC [oi,oi,oi,on,on]),oF 5 5 23,oA 6 24] [0,2,5,6] [0,2,5] (.seq (.regd [oD 25 5 5,oA 26 6,oA 27 26,oH 28 27 (.mv (oT 0)),
 oH 29 27 (.call xM [oT 28,.const (.int .i32 41)]),oB 30 (.pick (oT 27) (oT 29) (.const ob)),.op none none (.store (some 2) 5 (oT 2) (oT 25))] [oA 3 30]) (.keep [2,3] [0,2] (.ret))))) (oX [oA 32 4,oB 33 (.eql false false [.int] (oT 32) (.const (.int .i32 46))),oA 31 33] [0,2,4,31] [0,2] (.ite (oT 31) (oX [oA 34 0,oG 35 34,oE 36 1 35,oC 37 1 36,
 oB 38 (.arith .add (oT 37) (oN 1)),oG 39 34,oE 40 1 39,oF 1 40 38] [2] [0,2] (oX [oZ 41 k8 [.const (.int .i32 0),.const (.int .i32 1114111)],.op none none (.store (some 2) 5 (oT 2) (oT 41)),oB 3 (.mv (.const (.bool true)))] [2,3] [0,2] (.ret))) (oX [oA 43 4,oB 44 (.eql false false [.int] (oT 43) (.const (.int .i32 91))),oA 42 44] [0,2,4,42] [0,2] (.ite (oT 42) (oX [oA 45 0,
 oZ 46 dR [oT 45],oB 47 (.ext (oT 46) 0),oB 48 (.ext (oT 46) 1),.op none none (.store (some 2) 5 (oT 2) (oT 47)),oA 3 48] [2,3] [0,2] (.ret)) (oX [oA 50 4,oB 51 (.eql true false [.int] (oT 50) (.const (.int .i32 92))),oA 52 51,oH 53 52 (.mv (oT 4)),oH 54 52 (.call bD [oS ⟨#[92,46,91,93,40,41,123,125,124,42,43,63]⟩,oT 53]),
 oB 55 (.pick (oT 52) (oT 54) (.const ob)),oA 49 55] [0,2,49] [0,2] (.ite (oT 49) (oX [oB 56 (.build [oi,oi,oi,on,on] []),oA 57 0,oA 58 0,oG 59 58,oE 60 1 59,oC 61 1 60,oZ 62 dg [oT 57,oT 61,oN 3],.op none none (.store (some 2) 5 (oT 2) (oT 56)),oA 3 62] [2,3] [0,2] (.ret)) (.skip)))))))))) (.keep [0,2] [0,2] (oX [oA 64 0,
 oZ 65 bv [oT 64,oS ⟨#[92,46,91,93,40,41,123,125,124,42,43,63]⟩],oA 63 65,oB 66 (.ext (oT 63) 0),oB 67 (.ext (oT 63) 1),oA 4 66,oA 7 67] [2,4,7] [0,2] (oX [oA 68 4,oA 69 4,oZ 70 k8 [oT 68,oT 69],oA 71 7,.op none none (.store (some 2) 5 (oT 2) (oT 70)),oA 3 71] [2,3] [0,2] (.ret))))))
def dN:List ar:= [.cell 2 true 5, .tmp 3]
def uN:List Nat:= [2002002]
theorem uv:ay Tryz.prog ek uN dX dN 72:=ak mixed (by kernel_rfl)
def ir:CC:=oX [oB 2 (.alloc aC [oi,oi,oi,on,on]),oB 3 (.mv (.const ob))] [0,2] [0,2,86] (oX [oA 11 0,oG 12 11,oE 13 1 12,oC 14 1 13,oA 4 14] [0,2,4] [0,2,86] (oX [oA 15 0,oG 16 15,oE 17 1 16,oC 18 1 17,oB 19 (.arith .add (oT 18) (oN 1)),oG 20 15,oE 21 1 20,oF 1 21 19] [0,2,4] [0,2,86] (oX [oA 22 0,oZ 23 ai [oT 22],
 oB 24 (.eql false false [.int] (oT 23) (.const (.int .i32 94))),oA 5 24] [0,2,4,5] [0,2,86] (.seq (oX [oA 25 5] [0,2,4,5,25] [0,2,86] (.ite (oT 25) (.reg [oA 26 0,oG 27 26,oE 28 1 27,oC 29 1 28,oB 30 (.arith .add (oT 29) (oN 1)),oG 31 26,oE 32 1 31,oF 1 32 30]) (.skip))) (.keep [0,2,4,5] [0,2,86] (oX [oB 6 (.mv (.const on))] [0,2,4,5,6] [0,2,86] (.seq (.block 0 (.loop 1 (.seq (oX [
 oA 33 6,oB 34 (.len (oT 33)),oB 35 (.eql false false [.int] (oT 34) (oN 0)),oA 36 35,oI 37 36 (.mv (oT 0)),oI 38 36 (.call ai [oT 37]),oI 39 36 (.eql true false [.int] (oT 38) (.const (.int .i32 93))),oB 40 (.pick (oT 36) (.const (.bool true)) (oT 39))] [0,2,4,5,6,40] [0,2,86] (.ite (oT 40) (.skip) (.exit 0))) (.keep [0,2,4,5,6] [0,2,86] (.block 1 (oX [oA 41 0,oG 42 41,
 oE 43 1 42,oC 44 1 43,oA 7 44] [0,2,4,5,6,7] [0,2,86] (oX [oA 46 0,oZ 47 cL [oT 46],oA 45 47,oB 48 (.ext (oT 45) 0),oB 49 (.ext (oT 45) 1),oA 8 48,oA 9 49] [0,2,4,5,6,7,8,9] [0,2,86] (oX [oA 50 8,oA 10 50] [0,2,4,5,6,7,8,9,10] [0,2,86] (.seq (oX [oA 51 9,oA 52 51,oH 53 52 (.mv (oT 0)),oH 54 52 (.call ai [oT 53]),
 oH 55 52 (.eql false false [.int] (oT 54) (.const (.int .i32 45))),oB 56 (.pick (oT 52) (oT 55) (.const ob))] [0,2,4,5,6,7,8,9,10,56] [0,2,86] (.ite (oT 56) (oX [oA 57 0,oG 58 57,oE 59 1 58,oC 60 1 59,oB 61 (.arith .add (oT 60) (oN 1)),oG 62 57,oE 63 1 62,oF 1 63 61] [0,2,4,5,6,7,8] [0,2,86] (.reg [oA 65 0,oZ 66 cL [oT 65],oA 64 66,oB 67 (.ext (oT 64) 0),
 oB 68 (.ext (oT 64) 1),oA 10 67,oA 9 68])) (.skip))) (.keep [0,2,4,5,6,7,8,9,10] [0,2,86] (.seq (oX [oA 69 9,oA 70 69,oH 71 70 (.mv (oT 10)),oH 72 70 (.mv (oT 8)),oH 73 70 (.cmp .lss (oT 71) (oT 72)),oB 74 (.pick (oT 70) (oT 73) (.const ob))] [0,2,4,5,6,7,8,9,10,74] [0,2,86] (.ite (oT 74) (.reg [oA 75 0,oA 76 7,oZ 77 dg [oT 75,oT 76,oN 8],oA 9 77]) (.skip)))
 (.keep [0,2,4,5,6,8,9,10] [0,2,86] (.seq (oX [oA 78 9,oB 79 (.not (oT 78))] [0,2,4,5,6,8,10,79] [0,2,86] (.ite (oT 79) (oX [oB 80 (.build [oi,oi,oi,on,on] []),oF 5 2 80,oB 3 (.mv (.const ob))] [2,3] [0,2,86] (.ret)) (.skip))) (.keep [0,2,4,5,6,8,10] [0,2,86] (.reg [oA 81 6,oA 82 8,oA 83 10,oB 84 (.build [.int .i32 0,.int .i32 0] [(0,1,oT 82),(1,1,oT 83)]),
 oB 85 (.bslice ee 2 [oT 84]),oB 86 (.append none ee 2 8 (oT 81) (oT 85)),oA 6 86]))))))))))))))) (.keep [0,2,4,5,6] [0,2,86] (oX [oA 87 0,oG 88 87,oE 89 1 88,oC 90 1 89,oB 91 (.arith .add (oT 90) (oN 1)),oG 92 87,oE 93 1 92,oF 1 93 91] [0,2,4,5,6] [0,2,86] (oX [oA 94 6,oZ 95 iN [oT 94],oA 6 95] [0,2,4,5,6] [0,2,86] (.seq (oX [
 oA 96 5] [0,2,4,6,96] [0,2,86] (.ite (oT 96) (oX [oA 97 6,oZ 98 Ft [oT 97],oA 6 98] [0,2,4,6] [0,2,86] (oX [oA 99 6,oB 100 (.len (oT 99)),oB 101 (.eql false false [.int] (oT 100) (oN 0))] [0,2,4,6,101] [0,2,86] (.ite (oT 101) (oX [oB 102 (.build [oi,oi,oi,on,on] []),oA 103 0,oA 104 4,oZ 105 dg [oT 103,oT 104,oN 1],oF 5 2 102,
 oA 3 105] [2,3] [0,2,86] (.ret)) (.skip)))) (.skip))) (.keep [2,6] [0,2,86] (oX [oA 106 6,oB 107 (.build [oi,oi,oi,on,on] [(0,1,oN 1),(3,1,oT 106)]),oF 5 2 107,oB 3 (.mv (.const (.bool true)))] [2,3] [0,2,86] (.ret))))))))))))))
def ij:List ar:= [.cell 2 true 5, .tmp 3]
def tN:List Nat:= []
theorem tF:ay Tryz.prog dR tN ir ij 108:=ak mixed (by kernel_rfl)
def gI:CC:=oX [oB 2 (.alloc aC [oi,oi,oi,on,on]),oB 3 (.mv (.const ob))] [0,2] [0,2] (oX [oA 9 0,oZ 10 ek [oT 9],oA 8 10,oB 11 (.ext (oT 8) 0),oB 12 (.ext (oT 8) 1),oB 4 (.alloc aC [oi,oi,oi,on,on]),oF 5 4 11,oA 5 12] [0,2,4,5] [0,2,4] (.seq (.block 0 (.loop 1 (.seq (oX [oA 13 5] [0,2,4,5,13] [0,2,4] (.ite (oT 13) (.skip) (.exit 0)))
 (.keep [0,2,4,5] [0,2,4] (.block 1 (oX [oB 6 (.mv (oN 0)),oB 7 (.mv (oN (-1)))] [0,2,4,5,6,7] [0,2,4] (.seq (oX [oA 14 0,oZ 15 ai [oT 14]] [0,2,4,5,6,7,15] [0,2,4] (.block 2 (oX [oB 18 (.eql false false [.int] (oT 15) (.const (.int .i32 42))),oA 17 18] [0,2,4,5,6,7,15,17] [0,2,4] (.ite (oT 17) (.skip) (oX [oB 20 (.eql false false [.int] (oT 15) (.const (.int .i32 43))),
 oA 19 20] [0,2,4,5,6,7,15,19] [0,2,4] (.ite (oT 19) (.reg [oB 6 (.mv (oN 1))]) (oX [oB 22 (.eql false false [.int] (oT 15) (.const (.int .i32 63))),oA 21 22] [0,2,4,5,6,15,21] [0,2,4] (.ite (oT 21) (.reg [oB 7 (.mv (oN 1))]) (oX [oB 24 (.eql false false [.int] (oT 15) (.const (.int .i32 123))),oA 23 24] [0,2,4,23] [0,2,4] (.ite (oT 23) (oX [oA 25 0,oG 26 25,oE 27 1 26,oC 28 1 27,
 oB 29 (.arith .add (oT 28) (oN 1)),oG 30 25,oE 31 1 30,oF 1 31 29] [0,2,4] [0,2,4] (oX [oA 33 0,oZ 34 tT [oT 33],oA 32 34,oB 35 (.ext (oT 32) 0),oB 36 (.ext (oT 32) 1),oB 37 (.ext (oT 32) 2),oA 6 35,oA 7 36,oA 5 37] [0,2,4,5,6,7] [0,2,4] (oX [oA 38 5,oB 39 (.not (oT 38))] [0,2,4,5,6,7,39] [0,2,4] (.ite (oT 39) (oX [oB 40 (.build [oi,oi,oi,on,on] []),oF 5 2 40,
 oB 3 (.mv (.const ob))] [2,3] [0,2] (.ret)) (.skip))))) (oX [oD 16 5 4,oF 5 2 16,oB 3 (.mv (.const (.bool true)))] [2,3] [0,2] (.ret)))))))))))) (.keep [0,2,4,5,6,7] [0,2,4] (oX [oA 41 0,oG 42 41,oE 43 1 42,oC 44 1 43,oB 45 (.arith .add (oT 44) (oN 1)),oG 46 41,oE 47 1 46,oF 1 47 45] [0,2,4,5,6,7] [0,2,4] (.reg [oA 48 6,oA 49 7,oD 50 5 4,oB 51 (.bslice aC 5 [oT 50]),
 oB 52 (.build [oi,oi,oi,on,on] [(0,1,oN 4),(1,1,oT 48),(2,1,oT 49),(4,1,oT 51)]),oF 5 4 52])))))))))) (.keep [2] [0,2] (oX [oB 53 (.build [oi,oi,oi,on,on] []),oF 5 2 53,oB 3 (.mv (.const ob))] [2,3] [0,2] (.ret)))))
def gr:List ar:= [.cell 2 true 5, .tmp 3]
def sT:List Nat:= []
theorem sD:ay Tryz.prog dn sT gI gr 54:=ak mixed (by kernel_rfl)
def gK:CC:=oX [oB 2 (.alloc aC [oi,oi,oi,on,on]),oB 3 (.mv (.const ob))] [0,2] [0,2,36,40] (oX [oB 4 (.mv (.const on))] [0,2,4] [0,2,36,40] (.seq (oX [oA 8 0,oZ 9 ai [oT 8],oA 5 9] [0,2,4,5] [0,2,36,40] (.block 0 (.loop 1 (.seq (oX [oA 10 5,oB 11 (.cmp .geq (oT 10) (.const (.int .i32 0))),oA 12 11,oH 13 12 (.mv (oT 5)),
 oH 14 12 (.eql true false [.int] (oT 13) (.const (.int .i32 124))),oB 15 (.pick (oT 12) (oT 14) (.const ob)),oA 16 15,oH 17 16 (.mv (oT 5)),oH 18 16 (.eql true false [.int] (oT 17) (.const (.int .i32 41))),oB 19 (.pick (oT 16) (oT 18) (.const ob))] [0,2,4,19] [0,2,36,40] (.ite (oT 19) (.skip) (.exit 0))) (.keep [0,2,4] [0,2,36,40] (.seq (.block 1 (oX [oA 23 0,
 oZ 24 dn [oT 23],oA 22 24,oB 25 (.ext (oT 22) 0),oB 26 (.ext (oT 22) 1),oB 6 (.alloc aC [oi,oi,oi,on,on]),oF 5 6 25,oA 7 26] [0,2,4,6,7] [0,2,6,36,40] (.seq (oX [oA 27 7,oB 28 (.not (oT 27))] [0,2,4,6,28] [0,2,6,36,40] (.ite (oT 28) (oX [oB 29 (.build [oi,oi,oi,on,on] []),oF 5 2 29,oB 3 (.mv (.const ob))] [2,3] [0,2,36,40] (.ret)) (.skip)))
 (.keep [0,2,4,6] [0,2,6,36,40] (oX [oE 30 0 6,oC 31 1 30,oB 32 (.eql false false [.int] (oT 31) (oN 2))] [0,2,4,6,32] [0,2,6,36,40] (.ite (oT 32) (.reg [oA 33 4,oE 34 4 6,oC 35 1 34,oB 36 (.append none aC 5 72 (oT 33) (oT 35)),oA 4 36]) (.reg [oA 37 4,oD 38 5 6,oB 39 (.bslice aC 5 [oT 38]),oB 40 (.append none aC 5 72 (oT 37) (oT 39)),oA 4 40])))))))
 (.keep [0,2,4] [0,2,36,40] (.reg [oA 20 0,oZ 21 ai [oT 20],oA 5 21])))))))) (.keep [2,4] [0,2,36,40] (.seq (oX [oA 41 4,oB 42 (.len (oT 41)),oB 43 (.eql false false [.int] (oT 42) (oN 1))] [2,4,43] [0,2,36,40] (.ite (oT 43) (oX [oA 44 4,oB 45 (.iaddr 5 (oT 44) (oN 0)),oD 46 5 45,oF 5 2 46,oB 3 (.mv (.const (.bool true)))] [2,3] [0,2,36,40] (.ret)) (.skip)))
 (.keep [2,4] [0,2,36,40] (oX [oA 47 4,oB 48 (.build [oi,oi,oi,on,on] [(0,1,oN 2),(4,1,oT 47)]),oF 5 2 48,oB 3 (.mv (.const (.bool true)))] [2,3] [0,2,36,40] (.ret)))))))
def gu:List ar:= [.cell 2 true 5, .tmp 3]
def sV:List Nat:= []
theorem sF:ay Tryz.prog dq sV gK gu 49:=ak mixed (by kernel_rfl)
def iq:CC:=oX [oB 2 (.alloc aC [oi,oi,oi,on,on]),oB 3 (.mv (.const ob))] [0,2] [0,2,21,25] (oX [oB 4 (.mv (.const on))] [0,2,4] [0,2,21,25] (.seq (.block 0 (.loop 1 (.block 1 (oX [oA 8 0,oZ 9 dq [oT 8],oA 7 9,oB 10 (.ext (oT 7) 0),oB 11 (.ext (oT 7) 1),oB 5 (.alloc aC [oi,oi,oi,on,on]),oF 5 5 10,
 oA 6 11] [0,2,4,5,6] [0,2,5,21,25] (.seq (oX [oA 12 6,oB 13 (.not (oT 12))] [0,2,4,5,13] [0,2,5,21,25] (.ite (oT 13) (oX [oB 14 (.build [oi,oi,oi,on,on] []),oF 5 2 14,oB 3 (.mv (.const ob))] [2,3] [0,2,21,25] (.ret)) (.skip))) (.keep [0,2,4,5] [0,2,5,21,25] (.seq (oX [oE 15 0 5,oC 16 1 15,oB 17 (.eql false false [.int] (oT 16) (oN 3))] [0,2,4,5,17] [0,2,5,21,25] (.ite (oT 17) (.reg [
 oA 18 4,oE 19 4 5,oC 20 1 19,oB 21 (.append none aC 5 72 (oT 18) (oT 20)),oA 4 21]) (.reg [oA 22 4,oD 23 5 5,oB 24 (.bslice aC 5 [oT 23]),oB 25 (.append none aC 5 72 (oT 22) (oT 24)),oA 4 25]))) (.keep [0,2,4] [0,2,21,25] (.seq (oX [oA 26 0,oZ 27 ai [oT 26],
 oB 28 (.eql true false [.int] (oT 27) (.const (.int .i32 124)))] [0,2,4,28] [0,2,21,25] (.ite (oT 28) (.exit 0) (.skip))) (.keep [0,2,4] [0,2,21,25] (.reg [oA 29 0,oG 30 29,oE 31 1 30,oC 32 1 31,oB 33 (.arith .add (oT 32) (oN 1)),oG 34 29,oE 35 1 34,oF 1 35 33]))))))))))) (.keep [2,4] [0,2,21,25] (.seq (oX [oA 36 4,oB 37 (.len (oT 36)),
 oB 38 (.eql false false [.int] (oT 37) (oN 1))] [2,4,38] [0,2,21,25] (.ite (oT 38) (oX [oA 39 4,oB 40 (.iaddr 5 (oT 39) (oN 0)),oD 41 5 40,oF 5 2 41,oB 3 (.mv (.const (.bool true)))] [2,3] [0,2,21,25] (.ret)) (.skip))) (.keep [2,4] [0,2,21,25] (oX [oA 42 4,oB 43 (.build [oi,oi,oi,on,on] [(0,1,oN 3),(4,1,oT 42)]),oF 5 2 43,oB 3 (.mv (.const (.bool true)))] [2,3] [0,2,21,25] (.ret)))))))
def ig:List ar:= [.cell 2 true 5, .tmp 3]
def tM:List Nat:= []
theorem tE:ay Tryz.prog cX tM iq ig 44:=ak mixed (by kernel_rfl)
end Go.Gv

namespace Go.Gv
open Cod (enc dec)
variable {S S0:Nat->Spc}
abbrev s_decR:Spc:=cC (a1 B) (fun s=> ∃c,s.data[0]?=some c/\c.toNat < 128) (J4 (Y:=I32) (Z:=Int)) fun s y=> ∀c,s.data[0]?=some c->y=(⟨c.toNat⟩,1)
abbrev s_crune:Spc:=cC (a2 B I32) (fun x=> 0<=x.2.val/\x.2.val < 128) (enc (X:=Bool)) fun x y=> y=Wo x.1 x.2.val
theorem vg {p:Rp} {c:Int} (h:FT p=some c):p.s.size<=200/\((p.pos=p.s.size/\c= -1)\/(0<=p.pos/\p.pos < p.s.size/\p.pos≠p.s.size/\ ∃x:UInt8,p.s.data[p.pos.toNat]?=some x/\x.toNat < 128/\c=x.toNat)):=by
 unfold FT at h
 split at h
 ·cases h
 rename_i hsz
 refine⟨by omega,?_⟩
 split at h
 ·exact .inl ⟨by assumption,(Option.some.inj h).symm⟩
 ·rename_i hne
  split at h
  ·rename_i h0
   split at h
   ·rename_i x hx
    split at h
    ·rename_i hlt
     have hx2:=(Array.getElem?_eq_some_iff.1 hx).1
     refine .inr ⟨h0,?_,hne,x,hx,hlt,(Option.some.inj h).symm⟩
     show p.pos < (p.s.data.size:Int)
     omega
    ·cases h
   ·cases h
  ·cases h
theorem qmd {s:B} {k:Nat} {x:UInt8} (h:s.data[k]?=some x): (s.extract k s.size).data[0]?=some x:=by
 obtain⟨h1,h2⟩:=Array.getElem?_eq_some_iff.1 h
 rw[ByteArray.data_extract,Array.getElem?_extract]
 have:0 < min s.size s.data.size -k:=by
  have:s.size=s.data.size:=rfl
  omega
 rw[if_pos this,Nat.add_zero]
 exact h
abbrev gn:Spc:=Rf a0 (enc (X:=I32)) jn
theorem H9 (h1:S aN=s_decR):qh fG fm S a0 (enc (X:=I32)) (fun s z=> ∃r,jn s z=some r) (fun s z s' y=> jn s z=some (s',y)):=by
 rintro b s ⟨⟩ ⟨r,hr⟩
 obtain⟨c,hc,_⟩:=Option.map_eq_some_iff.1 hr
 have fin: ∀ {H:aa},H 0=some (.box b (nS s))->Ai (enc (X:=I32)) b (fun s' y=> jn s ()=some (s',y)) (.v (.int .i32 c)) H:=fun h0=> zS s ⟨c⟩ (.same _) h0 (by simp[jn,hc])
 obtain⟨hsz,hc2⟩:=vg hc
 rcases hc2 with⟨e1,rfl⟩ | ⟨h0,h2,h3,x,hx,hlt,rfl⟩
 ·simp[fG,fm,e1, -Bool.forall_bool, -Bool.exists_bool]
  exact fun _=> fin (by simp[e1])
 ·have hd: (s.s.data.extract s.pos.toNat s.s.size)[0]?=some x:=by rw[<-ByteArray.data_extract];exact qmd hx
  simp[fG,fm,h1,h0,h2,h3, -Bool.forall_bool, -Bool.exists_bool]
  refine fun _=> ⟨by omega,⟨x,hd,hlt⟩,fun a b1 h=> ?_⟩
  obtain⟨rfl,rfl⟩:=h x hd
  exact fin (by simp)
abbrev It:Spc:=Rf a0 OS Hg
theorem H8 (h1:S aN=s_decR):qh iU iC S a0 OS (fun s z=> ∃r,Hg s z=some r) (fun s z s' y=> Hg s z=some (s',y)):=by
 rintro b s ⟨⟩ ⟨r,hr⟩
 obtain⟨c,hc,h⟩:=Option.bind_eq_some_iff.1 hr
 split at h
 ·rename_i hc0
  have fin: ∀ {H:aa},H 0=some (.box b (nS s.bump))->Ai OS b (fun s' y=> Hg s ()=some (s',y)) (.tup []) H:=fun h0=> zS s.bump () (.same _) h0 (by simp[Hg,hc,hc0])
  obtain⟨hsz,hc2⟩:=vg hc
  rcases hc2 with⟨e1,rfl⟩ | ⟨h0,h2,h3,x,hx,hlt,rfl⟩
  ·omega
  ·have hd: (s.s.data.extract s.pos.toNat s.s.size)[0]?=some x:=by rw[<-ByteArray.data_extract];exact qmd hx
   simp[iU,iC,h1,h0,h2,h3, -Bool.forall_bool, -Bool.exists_bool]
   refine⟨by omega,⟨x,hd,hlt⟩,fun a b1 h=> ?_⟩
   obtain⟨rfl,rfl⟩:=h x hd
   exact⟨by simp only[InR];omega,fin (by simp[Rp.bump])⟩
 ·cases h
abbrev WD: (I32×Bool)->D:=J4 (Y:=I32) (Z:=Bool)
abbrev yH:Spc:=Rf (a1 B) WD wo
theorem ye (h1:S ai=gn) (h2:S ej=It):qh fb fa S (a1 B) WD (fun s z=> ∃r,wo s z=some r) (fun s z s' y=> wo s z=some (s',y)):=by
 rintro b s sp ⟨r,hr⟩
 obtain⟨c,hc,h⟩:=Option.bind_eq_some_iff.1 hr
 split at h
 ·cases h
 ·rename_i hn
  have n1:0<=c:=by omega
  have n2:c≠92:=fun e=> hn (.inr e)
  simp[fb,fa,h1,h2,jn,Hg,hc,n1,n2, -Bool.forall_bool, -Bool.exists_bool]
  exact zS s.bump (⟨c⟩,true) (.same _) (by simp) (by simp[wo,hc,hn])
abbrev ML:Spc:=Rf a0 WD KO
theorem Du (h1:S ai=gn) (h2:S bD=s_crune) (h3:S bv=yH):qh gJ gt S a0 WD (fun s z=> ∃r,KO s z=some r) (fun s z s' y=> KO s z=some (s',y)):=by
 rintro b s ⟨⟩ ⟨r,hr⟩
 obtain⟨c,hc,h⟩:=Option.bind_eq_some_iff.1 hr
 split at h
 ·cases h
 ·rename_i hn
  have n1: ¬c < 0:=fun e=> hn (.inl e)
  have n2:Wo O8 c=false:=by
   cases e:Wo O8 c with
   | false=> rfl
   | true=> exact absurd (.inr e) hn
  have hsz:=vg hc
  have h128:c < 128:=by
   rcases hsz.2 with⟨_,rfl⟩ | ⟨_,_,_,x,_,hlt,rfl⟩ <;> omega
  have n3:Wo ⟨#[92,91,93,94,45]⟩ c=false:=n2
  have h4:wo s ⟨#[92,91,93,94,45]⟩=some r:=h
  simp[gJ,gt,h1,h2,h3,jn,hc,n1,n3,h4,h128, -Bool.forall_bool, -Bool.exists_bool]
  obtain⟨s',⟨c'⟩,t'⟩:=r
  intro n0
  refine⟨fun _=> ⟨n0,zS s' (⟨c'⟩,t') (.same _) (by simp) (by simp[KO,hc,hn,h])⟩,fun _=> zS s' (⟨c'⟩,t') (.same _) (by simp) (by simp[KO,hc,hn,h])⟩
theorem Js {H:aa} {op mn mx:Int} {d3 d4:D} (rs:List Rng) (ks:List Rx) (h3:FrzTo H d3 (enc rs)) (h4:FrzTo H d4 (enc ks)):FrzTo H (.agg [.v (.int .i64 op), .v (.int .i64 mn), .v (.int .i64 mx),d3,d4]) (enc (Rx.mk op mn mx rs ks)):=by
 rw[TE]
 refine .agg rfl fun k c c' hc hc'=> ?_
 match k with
 | 0=> cases hc;cases hc';exact .same _
 | 1=> cases hc;cases hc';exact .same _
 | 2=> cases hc;cases hc';exact .same _
 | 3=> cases hc;cases hc';exact h3
 | 4=> cases hc;cases hc';exact h4
 | k+5=> simp at hc
abbrev MK:Spc:=cC (a2 I32 I32) (fun _=> True) (enc (X:=Rx)) fun x y=> y=RQ x.1.val x.2.val
theorem J6:aV s7 sv S (a2 I32 I32) (fun _=> True) (enc (X:=Rx)) fun x y=> y=RQ x.1.val x.2.val:=by
 rintro⟨x,y⟩ -
 simp[s7,sv,RQ]
 exact fun b=> eR (Y:=Rx) ⟨1,0,0, [⟨x,y⟩], []⟩ (Js [⟨x,y⟩] [] (.same _) (.nil _)) rfl
end Go.Gv
