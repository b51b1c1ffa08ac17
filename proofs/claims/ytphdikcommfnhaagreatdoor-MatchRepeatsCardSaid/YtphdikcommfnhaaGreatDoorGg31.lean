/- A part of the framework and of the walks: W133 W134 T32 C53 W135 C54 W136 C58 W156. -/
import Derived.Test.YtphdikcommfnhaaGreatDoorGg30
import Derived.Test.YtphdikcommfnhaaGreatDoorGg20
import Derived.Test.YtphdikcommfnhaaGreatDoorGg26
import Derived.Test.YtphdikcommfnhaaGreatDoorGg28
set_option linter.unusedSimpArgs false
set_option linter.unusedVariables false
set_option linter.unusedSectionVars false
set_option maxRecDepth 100000
set_option maxHeartbeats 0

namespace Go.Gv
open Cod (enc dec)
variable {S S0:Nat->Spc}
abbrev X6:Spc:=aS (a1 I32) (fun _=>True) (enc (X:=Bool)) fun _ y=>y=false
theorem DH:aq np ms S (a1 I32) (fun _=>True) (enc (X:=Bool)) fun _ y=>y=false:=by
 rintro x -
 simp[np,ms, -Bool.forall_bool]
def M8(a b:Int):Int:=if a < b then -1 else if b < a then 1 else 0
abbrev Yj:Spc:=aS (a2 I32 I32) (fun _=>True) (enc (X:=Int)) fun x y=>y=M8 x.1.val x.2.val
theorem AG(h1:S oa=X6):aq jU jG S (a2 I32 I32) (fun _=>True) (enc (X:=Int)) fun x y=>y=M8 x.1.val x.2.val:=by
 rintro⟨⟨x⟩,⟨y⟩⟩ -
 simp[jU,jG,h1, -Bool.forall_bool, -Bool.exists_bool]
 refine⟨fun h=>by simp[M8,h],fun h=>⟨fun h2=>?_,fun h2=>?_⟩⟩
 ·have h3:¬x < y:=by omega
  simp[M8,h2,h3]
 ·have h3:¬x < y:=by omega
  have h4:¬y < x:=by omega
  simp[M8,h3,h4]
abbrev X7:Spc:=aS (a2 Rng Rng) (fun _=>True) (enc (X:=Int)) fun x y=>y=M8 x.1.fr.val x.2.fr.val
theorem Dz(h1:S kW=Yj):aq mT lR S (a2 Rng Rng) (fun _=>True) (enc (X:=Int)) fun x y=>y=M8 x.1.fr.val x.2.fr.val:=by
 rintro⟨x,y⟩ -
 simp[mT,lR,h1, -Bool.forall_bool, -Bool.exists_bool]
abbrev Te:Spc:=aS (a1 U64) (fun x=>0<=x.val/\x.val<=200) (enc (X:=Int)) fun _ _=>True
def qbe(x:List Rng×Int×Int×D×Unit):Prop:=DQ x.1=true/\x.2.1=0/\x.2.2.1=x.1.length/\x.2.2.2.1= .clo cv []
abbrev Yc:Spc:=aS (aE (List Rng) (aE Int (aE Int (aD a0)))) qbe TN fun _ _=>True
theorem Cm{l:List Rng}(h:DQ l=true):1<=l.length/\l.length<=2:=by
 match l,h with
 | [x],_=>exact⟨qtP 1,qvd 1⟩
 | [x,y],_=>exact⟨qvd 1,qtP 2⟩
theorem Od:∀ {l:List Rng},DQ l=true->1 < l.length->∃x y,l=[x,y]
 | [x,y],_,_=>⟨x,y,rfl⟩
 | [x],_,h=>by simp at h
theorem Xw:∀ {l:List Rng} {x:Rng},l[0]? =some x->(l.take 1).foldl qI []=[x]
 | y::l,x,h=>by cases h;rfl
theorem I4(h1:S cv=X7):aq bW bU S (aE (List Rng) (aE Int (aE Int (aD a0)))) qbe TN fun _ _=>True:=by
 rintro⟨l,a,b,d,⟨⟩⟩ ⟨hs,ha,hb,hd⟩
 simp only at hs ha hb hd
 subst ha;subst hb;subst hd
 simp[bW,bU, -Bool.forall_bool, -Bool.exists_bool]
 have hl2:=Cm hs
 refine⟨by simp only[InR];omega,?_⟩
 refine ar (X:=Nat) [0,1,2,3] [] (fun i=>1<=i/\i<=l.length) (fun i=>[(8,enc (i:Int))]) (fun _=>[]) (fun i=>l.length -i) 1 ⟨qtP 1,hl2.1⟩ (by simp) (by simp) ?_
 rintro i ⟨hi1,hi2⟩
 by_cases hlt:i < l.length
 ·obtain rfl:i=1:=by omega
  obtain⟨x,y,rfl⟩:=Od hs hlt
  simp[-Bool.forall_bool, -Bool.exists_bool]
  refine ar (X:=Unit) [0,1,2,3,8] [] (fun _=>True) (fun _=>[(9,enc (1:Int))]) (fun _=>[]) (fun _=>0) () trivial (by simp) (by simp) ?_
  rintro - -
  have hc:¬M8 y.fr.val x.fr.val < 0:=by
   simp[DQ]at hs
   unfold M8
   rw[if_neg (by omega)]
   split <;> omega
  simp[h1,hc, -Bool.forall_bool, -Bool.exists_bool]
  exact⟨by simp only[InR];omega,fun _=>⟨by simp only[InR];omega,2,⟨by omega,by omega⟩,rfl,rfl⟩⟩
 ·obtain rfl:i=l.length:=by omega
  simp[-Bool.forall_bool, -Bool.exists_bool]
  exact cB (Y:=Unit) () (.same _) trivial
abbrev X3:Spc:=aS (aE (List Rng) (aE Int (aE Int (aE Int (aD a0))))) (fun x=>qbe (x.1,x.2.1,x.2.2.1,x.2.2.2.2)) TN fun _ _=>True
theorem I3(h1:S ci=Yc):aq df cX S (aE (List Rng) (aE Int (aE Int (aE Int (aD a0))))) (fun x=>qbe (x.1,x.2.1,x.2.2.1,x.2.2.2.2)) TN fun _ _=>True:=by
 rintro⟨l,a,b,lim,d,⟨⟩⟩ hp
 have hp':=hp
 obtain⟨hs,ha,hb,hd⟩:=hp
 simp only at hs ha hb hd hp'
 subst ha;subst hb;subst hd
 have hl2:=Cm hs
 simp[df,cX, -Bool.forall_bool, -Bool.exists_bool]
 refine ar (X:=Unit) [0,1,2,3,4,10,11] [] (fun _=>True) (fun _=>[]) (fun _=>[]) (fun _=>0) () trivial (by simp) (by simp) ?_
 rintro - -
 have h12:(l.length:Int)<=12:=by omega
 have hin:InR .i64 (l.length:Int):=by simp only[InR];omega
 simp[h1,h12,hin,hp', -Bool.forall_bool, -Bool.exists_bool]
 exact cB (Y:=Unit) () (.same _) trivial
abbrev qca:Spc:=aS (aE (List Rng) (aD a0)) (fun x=>DQ x.1=true/\x.2.1= .clo cv []) TN fun _ _=>True
theorem uD(h1:S qa=Te)(h2:S dy=X3):aq fh eZ S (aE (List Rng) (aD a0)) (fun x=>DQ x.1=true/\x.2.1= .clo cv []) TN fun _ _=>True:=by
 rintro⟨l,d,⟨⟩⟩ ⟨hs,hd⟩
 simp only at hs hd
 subst hd
 have hl2:=Cm hs
 have hp:qbe (l,0,(l.length:Int), .clo cv [],()):=⟨hs,rfl,rfl,rfl⟩
 have hw:IntKind.u64.wrap (l.length:Int)=l.length:=by rw[IntKind.wrap_u64];omega
 have h200:(l.length:Int)<=200:=by omega
 simp[fh,eZ,h1,h2,hp,hw,h200, -Bool.forall_bool, -Bool.exists_bool]
 exact fun _=>cB (Y:=Unit) () (.same _) trivial
abbrev OD:Spc:=aS (a1 U64) (fun x=>0<=x.val/\x.val<=200) (enc (X:=Int)) fun _ _=>True
theorem QP(h1:S mM=OD):aq ol nG S (a1 U64) (fun x=>0<=x.val/\x.val<=200) (enc (X:=Int)) fun _ _=>True:=by
 rintro⟨x⟩ ⟨h0,h2⟩
 simp only at h0 h2
 simp[ol,nG,h1,h0,h2, -Bool.forall_bool, -Bool.exists_bool]
theorem LI:aq ll kM S (a1 U64) (fun x=>0<=x.val/\x.val<=200) (enc (X:=Int)) fun _ _=>True:=by
 rintro⟨x⟩ ⟨h0,h2⟩
 simp only at h0 h2
 have c1:¬4294967296<=x:=by omega
 have c2:¬65536<=x:=by omega
 have c3:¬256<=x:=by omega
 have hw:IntKind.u8.wrap x=x:=by rw[IntKind.wrap_u8];omega
 simp[ll,kM,c1,c2,c3,hw,h0, -Bool.forall_bool, -Bool.exists_bool]
 refine⟨Int.lt_of_le_of_lt h2 (by decide),fun c _=>?_⟩
 have:=c.toNat_lt
 have hw2:IntKind.i64.wrap (c.toNat:Int)=c.toNat:=by rw[IntKind.wrap_i64];omega
 rw[hw2]
 simp only[InR]
 omega
abbrev Uj:Spc:=qnP (Y:=Rng) (aD a0) (fun x=>DQ x.1=true/\x.2.1= .clo cv []) TN (fun _ _=>True) uJ 2
abbrev Oq:Spc:=qpS (Y:=Rng) a0 (fun _ l=>DQ l=true) (fun _ l r=>r=CY l) uJ 2
set_option maxHeartbeats 1000000 in
theorem Gn(h1:S dH=Uj):qaV (Y:=Rng) qh pI S a0 (fun _ l=>DQ l=true) (fun _ l r=>r=CY l) uJ 2:=by
 rintro v l ⟨⟩ hs
 have hs:DQ l=true:=hs
 have hl2:=Cm hs
 simp[qh,pI,h1,hs, -Bool.forall_bool, -Bool.exists_bool]
 intro _
 refine ai (X:=Value×List Rng) [9] [0] l.length (fun k x=>x.2=(l.take k).foldl qI []) (fun x=>[(3, .own 48 x.1)]) (fun x=>[(48, .row x.1 uJ 2 (x.2.map enc))]) (.slice none 0 0, []) (by simp) (by simp) (by omega) (by simp) (by simp) rfl (by simp) (by simp[isNilRow]) ?_ ?_
 ·rintro k ⟨v',out⟩ hk hP
  simp only at hP
  have hk2:k=0\/k=1:=by omega
  rcases hk2 with rfl|rfl
  ·obtain⟨x,hx⟩:∃x,l[0]? =some x:=⟨_,qtH hk⟩
   obtain⟨_,hgx⟩:=qtG.1 hx
   have ho:out=[]:=by rw[hP];rfl
   subst ho
   have h1:=Xw hx
   simp[hk,hx,hgx,h1, -Bool.forall_bool, -Bool.exists_bool]
  ·obtain⟨x,y,rfl⟩:=Od hs hk
   have ho:out=[x]:=by rw[hP];rfl
   subst ho
   simp[DQ]at hs
   by_cases hle:y.fr.val<=x.to.val+1
   ·have hst:qI (qI [] x) y=[⟨x.fr,⟨max x.to.val y.to.val⟩⟩]:=by simp[qI,hle]
    have hr:InR .i32 (x.to.val+1):=by simp only[InR];omega
    simp[hle,hst,hr, -Bool.forall_bool, -Bool.exists_bool]
    simp only[InR];omega
   ·have hst:qI (qI [] x) y=[x,y]:=by simp[qI,hle]
    have hr:InR .i32 (x.to.val+1):=by simp only[InR];omega
    simp[hle,hst,hr, -Bool.forall_bool, -Bool.exists_bool]
    simp only[InR];omega
 ·rintro⟨v',out⟩ hP
  simp only at hP
  rw[quj]at hP
  subst hP
  simp[-Bool.forall_bool, -Bool.exists_bool]
  exact te (CY l) (by simp[CY]) rfl
end Go.Gv

namespace Go.Gv
open Cod (enc dec)
variable {S S0:Nat->Spc}
theorem qar{p:Rp}{sp:B}{q:Rp× (I32×Bool)}{c:Int}(hc:IP p=some c)(h:Ap p sp=some q):q=(p.bump,⟨c⟩,true):=by
 unfold Ap at h
 rw[hc,qtY]at h
 split at h
 ·cases h
 ·exact(qtV h).symm
theorem qcI{p:Rp}{q:Rp× (I32×Bool)}{c:Int}(hc:IP p=some c)(h:OV p ()=some q):q=(p.bump,⟨c⟩,true):=by
 unfold OV at h
 rw[hc,qtY]at h
 split at h
 ·cases h
 ·exact qar hc h
theorem qj2{b:Nat}{post:Rp->(Rx×Bool)->Prop}{l:List Rng}{id el:Nat}{v:Value}{H:ab}(s:Rp)(h0:H 0=some (.box b (qg s)))(hi:id≠0)(h1:H id=some (.row v el 2 (l.map enc)))(hq:post s (⟨1,0,0,l, []⟩,true)):
 Ds BA b post (.tup [.agg [.v (.int .i64 1), .v (.int .i64 0), .v (.int .i64 0), .own id v, .v (.slice none 0 0)], .v (.bool true)]) H:=by
 refine Db s (⟨1,0,0,l, []⟩,true) (.tup rfl fun k c c' hc hc'=>?_) h0 hq
 match k with
 | 0=>
   cases hc;cases hc'
   refine MR l [] (.row (el:=el) (by simp[hi];exact h1) rfl (fun d hd=>?_) (fun k c c' hc hc'=>?_)) (.nil _)
   ·obtain⟨x,_,rfl⟩:=qtU.1 hd
    exact⟨Cod.kn x,Cod.wid x⟩
   ·rw[hc]at hc';cases hc';exact .same _
 | 1=>cases hc;cases hc';exact .same _
 | k+2=>simp at hc
set_option maxHeartbeats 2000000 in
theorem Jc(h1:S bb=sU)(h2:S gR=XQ)(h3:S rL=Oq):sG gW gJ S a0 BA (fun s z=>∃r,qdx s z=some r) (fun s z s' y=>qdx s z=some (s',y)):=by
 rintro b s ⟨⟩ ⟨r,hr⟩
 have hr0:=hr
 obtain⟨a0,ha0,h⟩:=qtE.1 hr
 have e91:¬a0≠91:=fun e=>by rw[if_pos e]at h;cases h
 rw[if_neg e91]at h
 have hin:=(Ug ha0).2.2 (by omega)
 obtain⟨c0,hc0,h⟩:=qtE.1 h
 have n94:¬c0=94:=fun e=>by rw[if_pos e]at h;cases h
 rw[if_neg n94]at h
 obtain⟨⟨s',l'⟩,hl,h⟩:=qtE.1 h
 simp only at h
 have hsrt:DQ l'=true:=by
  split at h
  ·assumption
  ·cases h
 rw[if_pos hsrt]at h
 cases h
 have hc1:IP ⟨s.s,s.pos+1,s.fault,s.e⟩=some c0:=hc0
 simp[gW,gJ,h1,jx,hin,hc1,n94, -Bool.forall_bool, -Bool.exists_bool]
 intro b2
 refine ar (X:=Nat×Rp×Value×List Rng) [0,2,4,5] [2] (fun z=>qaq z.1 z.2.1 z.2.2.2=some (s',l')/\z.2.2.2.length+z.1<=100) (fun z=>[(6, .own 86 z.2.2.1)]) (fun z=>[(0, .box b (qg z.2.1)),(86, .row z.2.2.1 uJ 2 (z.2.2.2.map enc))]) (fun z=>z.1) (100,s.bump, .slice none 0 0, []) ⟨hl,by simp⟩ (by simp) (by simp[isNilRow,Rp.bump]) ?_
 clear hl
 rintro⟨k,p,v,l⟩ ⟨hk,hlen⟩
 simp only at hk hlen
 obtain _|k:=k
 ·rw[qaq]at hk;cases hk
 rw[qaq]at hk
 obtain⟨c,hc,hk2⟩:=qtE.1 hk
 clear hk
 have hlt:(l.length:Int)<=9223372036854775807:=by omega
 by_cases hend:l≠ []/\c=93
 ·rw[if_pos hend]at hk2
  cases hk2
  obtain⟨hne,rfl⟩:=hend
  have hin2:=(Ug hc).2.2 (by omega)
  have hl0:¬l'.length=0:=fun e=>hne (qur.1 e)
  simp(config:={ maxSteps:=2000000 }) [h1,h3,jx,hc,hlt,hne,hl0,hin2,hsrt, -Bool.forall_bool, -Bool.exists_bool]
  exact fun v'=>qj2 (el:=uJ) s'.bump (by simp[Rp.bump]) (by decide) (by simp) hr0
 ·rw[if_neg hend]at hk2
  obtain⟨q,hq,hk3⟩:=qtE.1 hk2
  clear hk2
  obtain⟨d,hd,hk4⟩:=qtE.1 hk3
  clear hk3
  have hqv:=qcI hc hq
  subst hqv
  simp only at hd hk4
  have n45:¬d=45:=fun e=>by rw[if_pos e]at hk4;cases hk4
  rw[if_neg n45]at hk4
  have hd':IP ⟨p.s,p.pos+1,p.fault,p.e⟩=some d:=hd
  cases l with
  | nil=>
    simp(config:={ maxSteps:=2000000 }) [h1,h2,jx,hq,hd',n45,Rp.bump, -Bool.forall_bool, -Bool.exists_bool]
    exact fun v=>⟨k,p.bump,v, [⟨⟨c⟩,⟨c⟩⟩],⟨hk4,by simp at hlen ⊢;omega⟩,⟨rfl, .inl ⟨rfl,rfl,rfl,rfl⟩, .inl ⟨rfl,by simp⟩⟩,by omega⟩
  | cons x l=>
    have n93:¬c=93:=fun e=>hend ⟨by simp,e⟩
    simp(config:={ maxSteps:=2000000 }) [h1,h2,jx,hc,hq,hd',n45,n93,Rp.bump, -Bool.forall_bool, -Bool.exists_bool]
    have hlen2:l.length+1+ (k+1)<=100:=by simpa using hlen
    first
     | exact fun _ _=>⟨by omega,by omega,fun v=>⟨k,p.bump,v,x::l++ [⟨⟨c⟩,⟨c⟩⟩],⟨hk4,by simp;omega⟩,⟨rfl, .inl ⟨rfl,rfl,rfl,rfl⟩, .inl ⟨rfl,by simp⟩⟩,by omega⟩⟩
     | exact⟨by omega,by omega,by omega,fun v=>⟨k,p.bump,v,x::l++ [⟨⟨c⟩,⟨c⟩⟩],⟨hk4,by simp;omega⟩,⟨rfl, .inl ⟨rfl,rfl,rfl,rfl⟩, .inl ⟨rfl,by simp⟩⟩,by omega⟩⟩
     | exact⟨by omega,by omega,fun v=>⟨k,p.bump,v,x::l++ [⟨⟨c⟩,⟨c⟩⟩],⟨hk4,by simp;omega⟩,⟨rfl, .inl ⟨rfl,rfl,rfl,rfl⟩, .inl ⟨rfl,by simp⟩⟩,by omega⟩⟩
     | (refine fun _=>⟨fun _=>?_,fun _=>?_⟩ <;> exact⟨by omega,by omega,fun v=>⟨k,p.bump,v,x::l++ [⟨⟨c⟩,⟨c⟩⟩],⟨hk4,by simp;omega⟩,⟨rfl, .inl ⟨rfl,rfl,rfl,rfl⟩, .inl ⟨rfl,by simp⟩⟩,by omega⟩⟩)
end Go.Gv

namespace Go.Gv
open Cod (enc dec)
def qoF(F:Rx->Int->Int->Option (Bool×Int)):PT:=fun d ds H K=>∃id b x n k r d0,ds=[d0, .v (.int .i64 n), .bptr id b 0]/\dec d0=some x/\H id=some (.box b [.v (.int .i64 k)])/\F x n k=some r/\K (.v (.bool r.1)) (ah H id (some (.box b [.v (.int .i64 r.2)])))
theorem qb7(F:Rx->Int->Int->Option (Bool×Int)):oL (qoF F):=fun d ds H K K' hk ⟨id,b,x,n,k,r,d0,h1,h2,h3,h4,h5⟩=>⟨id,b,x,n,k,r,d0,h1,h2,h3,h4,hk _ _ h5⟩
def qhE(F:Rx->Int->Int->Option (Bool×Int)):Spc:= .gen _ (qb7 F)
def qlz(F:Rx->Int->Int->Option (Bool×Int))(o:Option Rx)(n:Int)(id b:Nat)(q:Option Res)(H:ab)(K:D->ab->Prop):Prop:=
 ∃k,q=some (.box b [.v (.int .i64 k)])/\dx o fun x=>dx (F x n k) fun r=>K (.v (.bool r.1)) (ah H id (some (.box b [.v (.int .i64 r.2)])))
@[congr] theorem qoE{F:Rx->Int->Int->Option (Bool×Int)}{o o':Option Rx}{n n':Int}{id b:Nat}{q q':Option Res}{H:ab}{K:D->ab->Prop}(h1:o=o')(h2:n=n')(h3:q=q'):qlz F o n id b q H K=qlz F o' n' id b q' H K:=by subst h1;subst h2;subst h3;rfl
@[simp] theorem qoG(F:Rx->Int->Int->Option (Bool×Int))(d id b:Nat)(d0:D)(n:Int)(H:ab)(K:D->ab->Prop):(qhE F).pt d [d0, .v (.int .i64 n), .bptr id b 0] H K=qlz F (dec d0) n id b (H id) H K:=by
 refine propext ⟨fun h=>?_,fun h=>?_⟩
 ·obtain⟨id',b',x,n',k,r,d0',h1,h2,h3,h4,h5⟩:=h
  cases h1
  refine⟨k,h3,?_⟩
  rw[h2]
  show dx (F x n k) _
  rw[h4]
  exact h5
 ·obtain⟨k,h1,h2⟩:=h
  cases hx:dec (X:=Rx) d0 with
  | none=>rw[hx]at h2;exact h2.elim
  | some x=>
    rw[hx]at h2
    have h2:dx (F x n k) _:=h2
    cases hr:F x n k with
    | none=>rw[hr]at h2;exact h2.elim
    | some r=>rw[hr]at h2;exact⟨id,b,x,n,k,r,d0,rfl,hx,h1,hr,h2⟩
@[simp] theorem qrJ(F:Rx->Int->Int->Option (Bool×Int))(o:Option Rx)(n:Int)(id b:Nat)(k:Int)(H:ab)(K:D->ab->Prop):
 qlz F o n id b (some (.box b [.v (.int .i64 k)])) H K=dx o fun x=>dx (F x n k) fun r=>K (.v (.bool r.1)) (ah H id (some (.box b [.v (.int .i64 r.2)]))):=by
 refine propext ⟨fun⟨k',h1,h2⟩=>?_,fun h=>⟨k,rfl,h⟩⟩
 cases h1
 exact h2
def qk4(b:Nat)(q:Bool×Int)(r:D)(H:ab):Prop:=r= .v (.bool q.1)/\H 2=some (.box b [.v (.int .i64 q.2)])
def qaT(cc:CC)(rs:List aj)(S:Nat->Spc)(F:Rx->Int->Int->Option (Bool×Int)):Prop:=
 ∀b x n k q,F x n k=some q->vc S cc (rG rs fun r H'=>qk4 b q r H') (cR [enc x, .v (.int .i64 n), .bptr 2 b 0]) (ah bB 2 (some (.box b [.v (.int .i64 k)])))
variable {P:Program}{S:Nat->Spc}{f:Nat}{im:List Nat}{cc:CC}{rs:List aj}{N:Nat}
theorem QV{F:Rx->Int->Int->Option (Bool×Int)}(hS:∀f,Tri P f (S f).pt)(h:am P f im cc rs N)(hN:3<=N)(hw:qaT cc rs S F):Tri P f (qhE F).pt:=by
 obtain⟨tS,enter,fn,code,h1,h2,h3,h4,h5⟩:=h
 refine lB hS tS h1 h2 enter h3 h4 h5 ?_
 rintro ds H d K ⟨id,b,x,n,k,r,d0,rfl,hd,hid,hF,hK⟩
 have h0:∀i q,ah bB 2 (some (.box b [.v (.int .i64 k)])) i=some q->i=2/\q= .box b [.v (.int .i64 k)]:=by
  intro i q h
  by_cases e:i=2
  ·subst e
   simp only[ah,if_true]at h
   cases h
   exact⟨rfl,rfl⟩
  ·simp[ah,e,bB]at h
 refine⟨hN, [enc x, .v (.int .i64 n), .bptr 2 b 0],ah bB 2 (some (.box b [.v (.int .i64 k)])),fun i=>if i=2 then id else i, .cons (Cod.le _ _ hd) (.cons (.same _) (.cons (.bptr _ _ _ _) .nil)),fun i q h=>?_,fun i j q q' h h' e=>?_,_,hw b x n k r hF,?_⟩
 ·obtain⟨rfl,rfl⟩:=h0 i q h
  exact hid
 ·exact(h0 i q h).1.trans (h0 j q' h').1.symm
 ·rintro r' H' ⟨rfl,k2⟩
  refine⟨.v (.bool r.1),bB,ah H id (some (.box b [.v (.int .i64 r.2)])),fun i=>if i=id then some 2 else none, .same _,fun j q h=>by simp[bB]at h,hK,fun i s hi=>?_,fun i j k' s q hi hj e1 e2=>?_⟩
  ·by_cases e:i=id
   ·subst e
    simp only[ah,if_true]at hi ⊢
    cases hi
    exact k2
   ·simp only[ah,e,if_false]at hi ⊢
    refine⟨hi,fun k'' q h he=>?_⟩
    obtain⟨rfl,rfl⟩:=h0 k'' q h
    exact e he.symm
  ·by_cases c1:i=id
   ·by_cases c2:j=id
    ·exact c1.trans c2.symm
    ·simp[c2]at e2
   ·simp[c1]at e1
end Go.Gv

namespace Go.Gv
open Go.Proofs
def iU:CC:=gq Tryz.f277 [3] { bx:=[2],ke:=[2] } _
def iw:List aj:=[.tmp 6]
theorem Hv:am Tryz.prog oU [3] iU iw 36:=fo
def mS:CC:=gq Tryz.f316 [] {} _
def lQ:List aj:=[.tmp 2]
theorem Cz:am Tryz.prog nR [] mS lQ 47:=fo
def dh:CC:=gq Tryz.f300 [1] {} _
def cZ:List aj:=[.tmp 2]
theorem AT:am Tryz.prog mC [1] dh cZ 101:=fo
def jO:CC:=gq Tryz.f278 [1] {} _
def jA:List aj:=[.tmp 2]
theorem zW:am Tryz.prog fW [1] jO jA 19:=fo
def ga:CC:=gq Tryz.f279 [1] {} _
def fK:List aj:=[.tmp 2]
theorem AU:am Tryz.prog ic [1] ga fK 42:=fo
def mV:CC:=gq Tryz.f257 [1] {} _
def lT:List aj:=[.tmp 2]
theorem CD:am Tryz.prog jo [1] mV lT 16:=fo
end Go.Gv

namespace Go.Gv
open Cod (enc dec)
variable {S S0:Nat->Spc}
theorem EL{X:Type}{l:List X}{k:Nat}(h:k < l.length):∃x,l[k]? =some x:=⟨_,qtH h⟩
theorem Iw{X:Type}{l:List X}{k:Nat}{x:X}(h:l[k]? =some x):l.drop k=x::l.drop (k+1):=by
 obtain⟨h1,h2⟩:=qtG.1 h
 rw[quh h1,h2]
theorem Ja(n:Nat)(h1:S oU=qhE (tB n)):qaT iU iw S (tB (n+1)):=by
 rintro b x d k ⟨ok,m⟩ hF
 have hF0:=hF
 simp only[tB]at hF
 split at hF
 ·cases hF
 rename_i hrng
 have hin:InR .i64 (k+1):=by simp only[InR];omega
 split at hF
 ·rename_i hbig
  cases hF
  by_cases h40:40 < d
  ·simp[iU,iw,hin,h40, -Bool.forall_bool, -Bool.exists_bool]
   exact⟨rfl,by simp⟩
  ·have h200:200 < k+1:=by omega
   simp[iU,iw,hin,h40,h200, -Bool.forall_bool, -Bool.exists_bool]
   exact⟨rfl,by simp⟩
 ·rename_i hbig
  have h40:¬40 < d:=by omega
  have h200:¬200 < k+1:=by omega
  simp[iU,iw,hin,h40,h200, -Bool.forall_bool, -Bool.exists_bool]
  intro hkl
  refine ai (X:=Int) [1,2,23] [] x.kids.length (fun i z=>qiU (tB n) d (x.kids.drop i) z=some (ok,m)) (fun z=>[]) (fun z=>[(2, .box b [.v (.int .i64 z)])]) (k+1) (by simp) (by simp) (by omega) (by simp) (by simp) hF (by simp) (by simp) ?_ ?_
  ·rintro i z hi hz
   obtain⟨y,hy⟩:=EL hi
   obtain⟨_,hgy⟩:=qtG.1 hy
   rw[Iw hy,qiU]at hz
   obtain⟨⟨t,m'⟩,hs,hz⟩:=qtE.1 hz
   simp only at hz
   have hin2:InR .i64 (d+1):=by simp only[InR];omega
   cases t with
   | true=>
     simp only[if_true]at hz
     simp[h1,hi,hy,hgy,hs,hin2, -Bool.forall_bool, -Bool.exists_bool]
     exact⟨m',hz, .inl rfl⟩
   | false=>
     simp only[qul,if_false]at hz
     cases hz
     simp[h1,hi,hy,hgy,hs,hin2, -Bool.forall_bool, -Bool.exists_bool]
     exact⟨rfl,by simp⟩
  ·rintro z hz
   rw[quH,qiU]at hz
   cases hz
   simp[-Bool.forall_bool, -Bool.exists_bool]
   exact⟨rfl,by simp⟩
abbrev On:Spc:=aS (a1 (List Rng)) (fun l=>Tm l=true) (enc (X:=Bool)) fun _ y=>y=true
theorem Dy:aq mS lQ S (a1 (List Rng)) (fun l=>Tm l=true) (enc (X:=Bool)) fun _ y=>y=true:=by
 rintro l hl
 obtain⟨r,rfl⟩:∃r,l=[r]:=by
  match l,hl with
  | [r],_=>exact⟨r,rfl⟩
 simp[Tm]at hl
 simp[mS,lQ, -Bool.forall_bool, -Bool.exists_bool]
 refine ai (X:=Unit) [0,5] [] 1 (fun _ _=>True) (fun _=>[]) (fun _=>[]) () (by simp) (by simp) (by omega) (by simp) (by simp) trivial (by simp) (by simp) ?_ ?_
 ·rintro k -hk -
  obtain rfl:k=0:=by omega
  have n1:¬r.fr.val < 0:=by omega
  have n2:¬r.to.val < r.fr.val:=by omega
  have n3:¬1114111 < r.to.val:=by omega
  simp[n1,n2,n3, -Bool.forall_bool, -Bool.exists_bool]
 ·rintro - -
  simp[-Bool.forall_bool, -Bool.exists_bool]
abbrev Kj:Spc:=aS (a1 Rx) (fun x=>qjg x=true) (enc (X:=Bool)) fun _ y=>y=true
set_option maxHeartbeats 2000000 in
theorem BM(h1:S nR=On):aq dh cZ S (a1 Rx) (fun x=>qjg x=true) (enc (X:=Bool)) fun _ y=>y=true:=by
 rintro⟨op,mn,mx,rs,ks⟩ hx
 have hx:qjg ⟨op,mn,mx,rs,ks⟩=true:=hx
 unfold qjg at hx
 simp only at hx
 split at hx
 ·rename_i e
  subst e
  simp at hx
  obtain⟨⟨⟨rfl,rfl⟩,rfl⟩,hs⟩:=hx
  simp[dh,cZ,h1,hs, -Bool.forall_bool, -Bool.exists_bool]
  refine ai (X:=Unit) [1,3] [] 0 (fun _ _=>True) (fun _=>[]) (fun _=>[]) () (by simp) (by simp) (by omega) (by simp) (by simp) trivial (by simp) (by simp) (fun k x hk=>absurd hk (by omega)) (fun _ _=>?_)
  simp[h1,hs, -Bool.forall_bool, -Bool.exists_bool]
 split at hx
 ·rename_i e1 e
  subst e
  simp at hx
  obtain⟨⟨⟨⟨rfl,rfl⟩,rfl⟩,hl1,hl3⟩,hk2⟩:=hx
  have hlt:(ks.length:Int)<=9223372036854775807:=by omega
  simp[dh,cZ,hlt, -Bool.forall_bool, -Bool.exists_bool]
  refine ai (X:=Unit) [1,3,34] [] ks.length (fun _ _=>True) (fun _=>[]) (fun _=>[]) () (by simp) (by simp) (by omega) (by simp) (by simp) trivial (by simp) (by simp) ?_ ?_
  ·rintro k -hk -
   obtain⟨y,hy⟩:=EL hk
   obtain⟨_,hgy⟩:=qtG.1 hy
   have hop:=hk2 y (qtJ hy)
   simp[hk,hy,hgy,hop, -Bool.forall_bool, -Bool.exists_bool]
  ·rintro - -
   have hl1':¬ (ks.length:Int)=1:=by omega
   simp[hl1,hl1', -Bool.forall_bool, -Bool.exists_bool]
 split at hx
 ·rename_i e1 e2 e
  subst e
  simp at hx
  obtain⟨⟨⟨⟨rfl,rfl⟩,rfl⟩,hl1,hl3⟩,hk2⟩:=hx
  have hlt:(ks.length:Int)<=9223372036854775807:=by omega
  simp[dh,cZ,hlt, -Bool.forall_bool, -Bool.exists_bool]
  refine ai (X:=Unit) [1,3,34] [] ks.length (fun _ _=>True) (fun _=>[]) (fun _=>[]) () (by simp) (by simp) (by omega) (by simp) (by simp) trivial (by simp) (by simp) ?_ ?_
  ·rintro k -hk -
   obtain⟨y,hy⟩:=EL hk
   obtain⟨_,hgy⟩:=qtG.1 hy
   have hop:=hk2 y (qtJ hy)
   simp[hk,hy,hgy,hop, -Bool.forall_bool, -Bool.exists_bool]
  ·rintro - -
   have hl1':(1:Int) < ks.length:=by omega
   simp[hl1,hl1', -Bool.forall_bool, -Bool.exists_bool]
 split at hx
 ·rename_i e1 e2 e3 e
  subst e
  simp at hx
  obtain⟨⟨⟨g0,g1,g2⟩,rfl⟩,hl1⟩:=hx
  obtain⟨k0,rfl⟩:∃k,ks=[k]:=qu5.1 hl1
  simp[dh,cZ, -Bool.forall_bool, -Bool.exists_bool]
  refine ai (X:=Unit) [1,3,34] [] 1 (fun _ _=>True) (fun _=>[]) (fun _=>[]) () (by simp) (by simp) (by omega) (by simp) (by simp) trivial (by simp) (by simp) ?_ ?_
  ·rintro k -hk -
   obtain rfl:k=0:=by omega
   simp[-Bool.forall_bool, -Bool.exists_bool]
  ·rintro - -
   simp[g0,g1, -Bool.forall_bool, -Bool.exists_bool]
   exact fun h=>⟨fun _=>by omega,by omega⟩
 ·cases hx
abbrev AN(n:Nat):Spc:=aS (a1 Rx) (fun x=>Vr n x=true) (enc (X:=Bool)) fun _ y=>y=true
theorem Az(n:Nat)(h1:S mC=Kj)(h2:S fW=AN n):aq jO jA S (a1 Rx) (fun x=>Vr (n+1) x=true) (enc (X:=Bool)) fun _ y=>y=true:=by
 rintro x hx
 have hx:Vr (n+1) x=true:=hx
 simp only[Vr,qtN,qtL]at hx
 obtain⟨hx1,hx2⟩:=hx
 simp[jO,jA,h1,hx1, -Bool.forall_bool, -Bool.exists_bool]
 intro hkl
 refine ai (X:=Unit) [9] [] x.kids.length (fun _ _=>True) (fun _=>[]) (fun _=>[]) () (by simp) (by simp) (by omega) (by simp) (by simp) trivial (by simp) (by simp) ?_ ?_
 ·rintro k -hk -
  obtain⟨y,hy⟩:=EL hk
  obtain⟨_,hgy⟩:=qtG.1 hy
  have hp:=hx2 y (qtJ hy)
  simp[h2,hk,hy,hgy,hp, -Bool.forall_bool, -Bool.exists_bool]
 ·rintro - -
  simp[-Bool.forall_bool, -Bool.exists_bool]
abbrev Rg(n:Nat):Spc:=aS (a1 Rx) (fun x=>∃m,Hu n x=some m) (enc (X:=Int)) fun x y=>Hu n x=some y
set_option maxHeartbeats 1000000 in
theorem BN(n:Nat)(h1:S ic=Rg n):aq ga fK S (a1 Rx) (fun x=>∃m,Hu (n+1) x=some m) (enc (X:=Int)) fun x y=>Hu (n+1) x=some y:=by
 rintro x ⟨m,hm⟩
 have hm0:=hm
 simp only[Hu]at hm
 split at hm
 ·rename_i e
  cases hm
  simp[ga,fK,e,hm0, -Bool.forall_bool, -Bool.exists_bool]
 rename_i e1
 obtain⟨k,hk,hm⟩:=qtE.1 hm
 simp[ga,fK,e1, -Bool.forall_bool, -Bool.exists_bool]
 intro hkl
 refine ai (X:=Int) [1,10] [] x.kids.length (fun i z=>qi8 (Hu n) (x.kids.drop i) z=some k) (fun z=>[(3,enc z)]) (fun _=>[]) 0 (by simp) (by simp) (by omega) (by simp) (by simp) hk (by simp) (by simp) ?_ ?_
 ·rintro i z hi hz
  obtain⟨y,hy⟩:=EL hi
  obtain⟨_,hgy⟩:=qtG.1 hy
  rw[Iw hy,qi8]at hz
  obtain⟨v,hv,hz⟩:=qtE.1 hz
  split at hz
  ·cases hz
  rename_i hr
  have hin:InR .i64 (z+v):=by simp only[InR];omega
  have hp:∃m,Hu n y=some m:=⟨v,hv⟩
  simp[h1,hi,hy,hgy,hv, -Bool.forall_bool, -Bool.exists_bool]
  exact⟨hin,hz⟩
 ·rintro z hz
  rw[quH,qi8]at hz
  cases hz
  split at hm
  ·rename_i e4
   cases hm
   simp[e4,hm0, -Bool.forall_bool, -Bool.exists_bool]
  ·rename_i e4
   have e4:x.op=4:=by omega
   unfold qja at hm
   split at hm
   ·rename_i emx
    split at hm
    ·rename_i hb
     cases hm
     have hin:InR .i64 (k*max x.mn 1):=by simp only[InR];omega
     simp[e4,emx,hin,hm0, -Bool.forall_bool, -Bool.exists_bool]
    ·cases hm
   ·rename_i emx
    split at hm
    ·rename_i hb
     cases hm
     have hin:InR .i64 (k*x.mx):=by simp only[InR];omega
     simp[e4,emx,hin,hm0, -Bool.forall_bool, -Bool.exists_bool]
    ·cases hm
abbrev Oo:Spc:=aS (a1 Rx) (fun x=>AH 50 x=true) (enc (X:=Int)) fun x y=>y=0
theorem DB(h1:S oU=qhE (tB 50))(h2:S fW=AN 50)(h3:S ic=Rg 50):aq mV lT S (a1 Rx) (fun x=>AH 50 x=true) (enc (X:=Int)) fun x y=>y=0:=by
 rintro x hx
 have hx:AH 50 x=true:=hx
 simp only[AH,qtN]at hx
 obtain⟨⟨g1,g2⟩,g3⟩:=hx
 obtain⟨⟨t,k⟩,hs,rfl⟩:∃r,tB 50 x 1 0=some r/\r.1=true:=by
  cases h:tB 50 x 1 0 with
  | none=>rw[h]at g1;cases g1
  | some r=>rw[h]at g1;exact⟨r,rfl,g1⟩
 obtain⟨m,hm,hm64⟩:∃m,Hu 50 x=some m/\m<=64:=by
  cases h:Hu 50 x with
  | none=>rw[h]at g3;cases g3
  | some r=>rw[h]at g3;exact⟨r,rfl,of_decide_eq_true g3⟩
 have n64:¬64 < m:=by omega
 simp[mV,lT,h1,h2,h3,hs,g2,hm,n64, -Bool.forall_bool, -Bool.exists_bool]
 exact hm64
end Go.Gv

namespace Go.Gv
open Go.Proofs
def rY:CC:=gq Tryz.f220 [2002002] {} _
def rf:List aj:=[.cell 2 true 5, .tmp 3, .tmp 4]
theorem Hx:am Tryz.prog oW [2002002] rY rf 66:=fo
def sB:CC:=gq Tryz.f172 [] {} _
def rF:List aj:=[.tmp 2]
theorem HQ:am Tryz.prog pd [] sB rF 13:=fo
def mU:CC:=gq Tryz.f319 [] {} _
def lS:List aj:=[.tmp 4]
theorem CB:am Tryz.prog nS [] mU lS 24:=fo
end Go.Gv

namespace Go.Gv
open Cod (enc dec)
variable {S S0:Nat->Spc}
def qsr{Y Z W V:Type}[Cod Y][Cod Z][Cod W][Cod V](x:Y×Z×W×V):D:= .tup [enc x.1,enc x.2.1,enc x.2.2.1,enc x.2.2.2]
@[simp] theorem qsq{Y Z W V:Type}[Cod Y][Cod Z][Cod W][Cod V](y:Y)(z:Z)(w:W)(v:V):qsr (y,z,w,v)= .tup [enc y,enc z,enc w,enc v]:=id rfl
def qbt(s:B)(i:Int):I32×Int×Int×Bool:=match s.data[i.toNat]? with
 | some c=>(⟨c.toNat⟩,i,1,true)
 | none=>(⟨0⟩,0,0,false)
abbrev s_cpAt:Spc:=aS (a2 B Int) (fun x=>x.1.size<=1000/\ux x.1=true/\0<=x.2/\x.2<=x.1.size) (qsr (Y:=I32) (Z:=Int) (W:=Int) (V:=Bool)) fun x y=>y=qbt x.1 x.2
theorem qaF{s:B}(h:ux s=true){k:Nat}{c:UInt8}(hc:s.data[k]? =some c):c.toNat < 128:=by
 have:=qtL.1 h c (by rw[<-qt9]at hc;exact qtJ hc)
 exact of_decide_eq_true this
abbrev DT:Spc:=aS (a1 B) (fun s=>∃r,pX s=some r) (qex (Y:=Rx) (Z:=Int) (W:=Int)) fun s y=>pX s=some y.1/\y.2=(0,0)
set_option maxHeartbeats 2000000 in
theorem Jd(h1:S yX=s_cpAt)(h2:S iN=XN)(h3:S jo=Oo):aq rY rf S (a1 B) (fun s=>∃r,pX s=some r) (qex (Y:=Rx) (Z:=Int) (W:=Int)) fun s y=>pX s=some y.1/\y.2=(0,0):=by
 rintro s ⟨r,hr⟩
 have hr0:=hr
 unfold pX at hr
 split at hr
 rotate_left
 ·cases hr
 rename_i hs
 obtain⟨hsz,hasc⟩:=hs
 obtain⟨⟨p,x,ok⟩,hu,hr⟩:=qtE.1 hr
 split at hr
 rotate_left
 ·cases hr
 rename_i hv
 obtain⟨rfl,hpos,hval⟩:=hv
 cases hr
 have n200:¬ (200:Int) < s.size:=by omega
 have hs10:s.size<=1000:=by omega
 simp[rY,rf,n200, -Bool.forall_bool, -Bool.exists_bool]
 intro b2 hsz2
 refine ar (X:=Nat) [0,2] [2] (fun i=>i<=s.size) (fun i=>[(5,enc (i:Int))]) (fun _=>[]) (fun i=>s.size -i) 0 (qub _) (by simp) (by simp) ?_
 rintro i hi
 by_cases hlt:i < s.size
 ·obtain⟨c,hc⟩:∃c,s.data[i]? =some c:=⟨s.data[i]'hlt,quK hlt⟩
  have h128:=qaF hasc hc
  have hat:qbt s (i:Int)=((⟨(c.toNat:Int)⟩:I32),(i:Int),(1:Int),true):=by simp[qbt,hc]
  have hff:¬ ((c.toNat:Int)=65533):=by omega
  simp[h1,hs10,hasc,hat,hff,hi, -Bool.forall_bool, -Bool.exists_bool]
  exact⟨by simp only[InR];omega,i+1,by omega,by omega,by omega⟩
 ·obtain rfl:i=s.size:=by omega
  have hat:qbt s (s.size:Int)=(⟨0⟩,0,0,false):=by
   have:s.data[s.size]? =none:=qu6 (qtP _)
   simp[qbt,this]
  simp only at hpos hval
  have npos:¬p.pos < s.size:=by omega
  simp[h1,h2,h3,hs10,hasc,hat,hu,hpos,hval,npos, -Bool.forall_bool, -Bool.exists_bool]
  exact fun b _=>⟨x, .same _,hr0⟩
abbrev qcd:Spc:=aS (a1 B) (fun s=>∃r,pX s=some r) (enc (X:=Int)) fun _ y=>y=0
theorem Jr(h1:S oW=DT):aq sB rF S (a1 B) (fun s=>∃r,pX s=some r) (enc (X:=Int)) fun _ y=>y=0:=by
 rintro s ⟨r,hr⟩
 simp[sB,rF,h1,hr, -Bool.forall_bool, -Bool.exists_bool]
abbrev qcb:Spc:=aS (a2 (List Rng) I32) (fun _=>True) (enc (X:=Bool)) fun x y=>y=M5 x.1 x.2.val
theorem DA:aq mU lS S (a2 (List Rng) I32) (fun _=>True) (enc (X:=Bool)) fun x y=>y=M5 x.1 x.2.val:=by
 rintro⟨l,⟨c⟩⟩ -
 simp[mU,lS, -Bool.forall_bool, -Bool.exists_bool]
 intro hkl
 refine ai (X:=Unit) [1,7] [] l.length (fun k _=>M5 (l.take k) c=false) (fun _=>[]) (fun _=>[]) () (by simp) (by simp) (by omega) (by simp) (by simp) rfl (by simp) (by simp) ?_ ?_
 ·rintro k -hk hP
  obtain⟨y,hy⟩:=EL hk
  obtain⟨_,hgy⟩:=qtG.1 hy
  have hstep:M5 (l.take (k+1)) c=(decide (y.fr.val<=c) && decide (c<=y.to.val)):=by
   have:l.take (k+1)=l.take k++ [y]:=by rw[qvF,hy];rfl
   unfold M5 at hP ⊢
   rw[this,List.any_append,hP]
   simp
  by_cases h1:y.fr.val<=c/\c<=y.to.val
  ·obtain⟨h1,h2⟩:=h1
   have hres:M5 l c=true:=by
    refine quN.2 ⟨y,qtJ hy,by simp[h1,h2]⟩
   simp[hk,hy,hgy,h1,h2,hres, -Bool.forall_bool, -Bool.exists_bool]
  ·have hres:M5 (l.take (k+1)) c=false:=by
    rw[hstep]
    simp
    omega
   by_cases h2:y.fr.val<=c
   ·have h3:¬c<=y.to.val:=fun e=>h1 ⟨h2,e⟩
    simp[hk,hy,hgy,h2,h3,hres, -Bool.forall_bool, -Bool.exists_bool]
   ·simp[hk,hy,hgy,h2,hres, -Bool.forall_bool, -Bool.exists_bool]
 ·rintro -hP
  rw[quj]at hP
  simp[hP, -Bool.forall_bool, -Bool.exists_bool]
end Go.Gv

namespace Go.Gv
open Go.Proofs
def nl:CC:=gq Tryz.f262 [] {} _
def mq:List aj:=[.tmp 6]
theorem HP:am Tryz.prog ue [] nl mq 25:=fo
def lp:CC:=gq Tryz.f227 [9,8,7,6,5] { cu:=[1] } _
def kP:List aj:=[.tmp 10]
theorem Ba:am Tryz.prog io [9,8,7,6,5] lp kP 102:=fo
def jc:CC:=gq Tryz.f261 [5] {} _
def iD:List aj:=[.tmp 6]
theorem yy:am Tryz.prog aJ [5] jc iD 13:=fo
def ja:CC:=gq Tryz.f267 [2] {} _
def iC:List aj:=[.tmp 3]
theorem yx:am Tryz.prog bV [2] ja iC 8:=fo
end Go.Gv

namespace Go.Gv
open Cod (enc dec)
variable {S S0:Nat->Spc}
def Bk(v s:B)(f:Bool):Option Bool:=(pX v).bind fun x=>Bh x s f
def qba(x:B×B×Bool):Prop:=∃y,Bk x.1 x.2.1 x.2.2=some y
def qeL(x:B×B×Bool)(y:Bool):Prop:=Bk x.1 x.2.1 x.2.2=some y
abbrev SX:Spc:=aS (a3 B B Bool) qba (enc (X:=Bool)) qeL
theorem Jq(h1:S oW=DT)(h2:S tT=Tg false)(h3:S mD=Tg true):aq nl mq S (a3 B B Bool) qba (enc (X:=Bool)) qeL:=by
 rintro⟨v,s,f⟩ ⟨y,hy⟩
 have hy:Bk v s f=some y:=hy
 obtain⟨x,hx,hm⟩:=qtE.1 hy
 cases f
 ·have hp:Qy false (x,s):=⟨y,hm⟩
  simp[nl,mq,h1,h2,hx,hp, -Bool.forall_bool, -Bool.exists_bool]
  exact fun z hz=>by show(pX v).bind _=_;rw[hx];exact hz
 ·have hp:Qy true (x,s):=⟨y,hm⟩
  simp[nl,mq,h1,h3,hx,hp, -Bool.forall_bool, -Bool.exists_bool]
  exact fun z hz=>by show(pX v).bind _=_;rw[hx];exact hz
end Go.Gv
