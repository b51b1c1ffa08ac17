/- A part of the framework and of the walks: W133 W134 T32 C53 W135 C54 W136 C58 W156. -/
import Derived.Test.YtphdikcommfnhaaGreatDoorGe30
import Derived.Test.YtphdikcommfnhaaGreatDoorGe20
import Derived.Test.YtphdikcommfnhaaGreatDoorGe26
import Derived.Test.YtphdikcommfnhaaGreatDoorGe28
set_option linter.unusedSimpArgs false
set_option linter.unusedVariables false
set_option linter.unusedSectionVars false
set_option maxRecDepth 100000
set_option maxHeartbeats 0

namespace Go.Gv
open Cod (enc dec)
variable {S S0:Nat->Spc}
abbrev qa3:Spc:=aI (a1 I32) (fun _=>True) (enc (X:=Bool)) fun _ y=>y=false
theorem Fs:aq oQ ny S (a1 I32) (fun _=>True) (enc (X:=Bool)) fun _ y=>y=false:=by
 rintro x -
 simp[oQ,ny, -Bool.forall_bool]
def Pu(a b:Int):Int:=if a < b then -1 else if b < a then 1 else 0
abbrev qbg:Spc:=aI (a2 I32 I32) (fun _=>True) (enc (X:=Int)) fun x y=>y=Pu x.1.val x.2.val
theorem Cg(h1:S pT=qa3):aq lj kO S (a2 I32 I32) (fun _=>True) (enc (X:=Int)) fun x y=>y=Pu x.1.val x.2.val:=by
 rintro⟨⟨x⟩,⟨y⟩⟩ -
 simp[lj,kO,h1, -Bool.forall_bool, -Bool.exists_bool]
 refine⟨fun h=>by simp[Pu,h],fun h=>⟨fun h2=>?_,fun h2=>?_⟩⟩
 ·have h3:¬x < y:=by omega
  simp[Pu,h2,h3]
 ·have h3:¬x < y:=by omega
  have h4:¬y < x:=by omega
  simp[Pu,h3,h4]
abbrev qa4:Spc:=aI (a2 Rng Rng) (fun _=>True) (enc (X:=Int)) fun x y=>y=Pu x.1.fr.val x.2.fr.val
theorem Fj(h1:S mg=qbg):aq oa mY S (a2 Rng Rng) (fun _=>True) (enc (X:=Int)) fun x y=>y=Pu x.1.fr.val x.2.fr.val:=by
 rintro⟨x,y⟩ -
 simp[oa,mY,h1, -Bool.forall_bool, -Bool.exists_bool]
abbrev Wg:Spc:=aI (a1 U64) (fun x=>0<=x.val/\x.val<=200) (enc (X:=Int)) fun _ _=>True
def qep(x:List Rng×Int×Int×D×Unit):Prop:=FB x.1=true/\x.2.1=0/\x.2.2.1=x.1.length/\x.2.2.2.1= .clo cM []
abbrev qa8:Spc:=aI (aE (List Rng) (aE Int (aE Int (aD a0)))) qep WX fun _ _=>True
theorem D0{l:List Rng}(h:FB l=true):1<=l.length/\l.length<=2:=by
 match l,h with
 | [x],_=>exact⟨qxI 1,qy7 1⟩
 | [x,y],_=>exact⟨qy7 1,qxI 2⟩
theorem QH:∀ {l:List Rng},FB l=true->1 < l.length->∃x y,l=[x,y]
 | [x,y],_,_=>⟨x,y,rfl⟩
 | [x],_,h=>by simp at h
theorem qav:∀ {l:List Rng} {x:Rng},l[0]? =some x->(l.take 1).foldl sx []=[x]
 | y::l,x,h=>by cases h;rfl
theorem Lr(h1:S cM=qa4):aq cv cn S (aE (List Rng) (aE Int (aE Int (aD a0)))) qep WX fun _ _=>True:=by
 rintro⟨l,a,b,d,⟨⟩⟩ ⟨hs,ha,hb,hd⟩
 simp only at hs ha hb hd
 subst ha;subst hb;subst hd
 simp[cv,cn, -Bool.forall_bool, -Bool.exists_bool]
 have hl2:=D0 hs
 refine⟨by simp only[InR];omega,?_⟩
 refine av (X:=Nat) [0,1,2,3] [] (fun i=>1<=i/\i<=l.length) (fun i=>[(8,enc (i:Int))]) (fun _=>[]) (fun i=>l.length -i) 1 ⟨qxI 1,hl2.1⟩ (by simp) (by simp) ?_
 rintro i ⟨hi1,hi2⟩
 by_cases hlt:i < l.length
 ·obtain rfl:i=1:=by omega
  obtain⟨x,y,rfl⟩:=QH hs hlt
  simp[-Bool.forall_bool, -Bool.exists_bool]
  refine av (X:=Unit) [0,1,2,3,8] [] (fun _=>True) (fun _=>[(9,enc (1:Int))]) (fun _=>[]) (fun _=>0) () trivial (by simp) (by simp) ?_
  rintro - -
  have hc:¬Pu y.fr.val x.fr.val < 0:=by
   simp[FB]at hs
   unfold Pu
   rw[if_neg (by omega)]
   split <;> omega
  simp[h1,hc, -Bool.forall_bool, -Bool.exists_bool]
  exact⟨by simp only[InR];omega,fun _=>⟨by simp only[InR];omega,2,⟨by omega,by omega⟩,rfl,rfl⟩⟩
 ·obtain rfl:i=l.length:=by omega
  simp[-Bool.forall_bool, -Bool.exists_bool]
  exact cp (Y:=Unit) () (.same _) trivial
abbrev qa0:Spc:=aI (aE (List Rng) (aE Int (aE Int (aE Int (aD a0))))) (fun x=>qep (x.1,x.2.1,x.2.2.1,x.2.2.2.2)) WX fun _ _=>True
theorem Lq(h1:S cE=qa8):aq dF dx S (aE (List Rng) (aE Int (aE Int (aE Int (aD a0))))) (fun x=>qep (x.1,x.2.1,x.2.2.1,x.2.2.2.2)) WX fun _ _=>True:=by
 rintro⟨l,a,b,lim,d,⟨⟩⟩ hp
 have hp':=hp
 obtain⟨hs,ha,hb,hd⟩:=hp
 simp only at hs ha hb hd hp'
 subst ha;subst hb;subst hd
 have hl2:=D0 hs
 simp[dF,dx, -Bool.forall_bool, -Bool.exists_bool]
 refine av (X:=Unit) [0,1,2,3,4,10,11] [] (fun _=>True) (fun _=>[]) (fun _=>[]) (fun _=>0) () trivial (by simp) (by simp) ?_
 rintro - -
 have h12:(l.length:Int)<=12:=by omega
 have hin:InR .i64 (l.length:Int):=by simp only[InR];omega
 simp[h1,h12,hin,hp', -Bool.forall_bool, -Bool.exists_bool]
 exact cp (Y:=Unit) () (.same _) trivial
abbrev qfs:Spc:=aI (aE (List Rng) (aD a0)) (fun x=>FB x.1=true/\x.2.1= .clo cM []) WX fun _ _=>True
theorem wq(h1:S rF=Wg)(h2:S dU=qa0):aq fI fE S (aE (List Rng) (aD a0)) (fun x=>FB x.1=true/\x.2.1= .clo cM []) WX fun _ _=>True:=by
 rintro⟨l,d,⟨⟩⟩ ⟨hs,hd⟩
 simp only at hs hd
 subst hd
 have hl2:=D0 hs
 have hp:qep (l,0,(l.length:Int), .clo cM [],()):=⟨hs,rfl,rfl,rfl⟩
 have hw:IntKind.u64.wrap (l.length:Int)=l.length:=by rw[IntKind.wrap_u64];omega
 have h200:(l.length:Int)<=200:=by omega
 simp[fI,fE,h1,h2,hp,hw,h200, -Bool.forall_bool, -Bool.exists_bool]
 exact fun _=>cp (Y:=Unit) () (.same _) trivial
abbrev Q8:Spc:=aI (a1 U64) (fun x=>0<=x.val/\x.val<=200) (enc (X:=Int)) fun _ _=>True
theorem TD(h1:S nR=Q8):aq qc pp S (a1 U64) (fun x=>0<=x.val/\x.val<=200) (enc (X:=Int)) fun _ _=>True:=by
 rintro⟨x⟩ ⟨h0,h2⟩
 simp only at h0 h2
 simp[qc,pp,h1,h0,h2, -Bool.forall_bool, -Bool.exists_bool]
theorem N3:aq mw lS S (a1 U64) (fun x=>0<=x.val/\x.val<=200) (enc (X:=Int)) fun _ _=>True:=by
 rintro⟨x⟩ ⟨h0,h2⟩
 simp only at h0 h2
 have c1:¬4294967296<=x:=by omega
 have c2:¬65536<=x:=by omega
 have c3:¬256<=x:=by omega
 have hw:IntKind.u8.wrap x=x:=by rw[IntKind.wrap_u8];omega
 simp[mw,lS,c1,c2,c3,hw,h0, -Bool.forall_bool, -Bool.exists_bool]
 refine⟨Int.lt_of_le_of_lt h2 (by decide),fun c _=>?_⟩
 have:=c.toNat_lt
 have hw2:IntKind.i64.wrap (c.toNat:Int)=c.toNat:=by rw[IntKind.wrap_i64];omega
 rw[hw2]
 simp only[InR]
 omega
abbrev Xu:Spc:=qrC (Y:=Rng) (aD a0) (fun x=>FB x.1=true/\x.2.1= .clo cM []) WX (fun _ _=>True) wx 2
abbrev QT:Spc:=qtE (Y:=Rng) a0 (fun _ l=>FB l=true) (fun _ l r=>r=EA l) wx 2
set_option maxHeartbeats 1000000 in
theorem IA(h1:S ee=Xu):qd5 (Y:=Rng) rN ri S a0 (fun _ l=>FB l=true) (fun _ l r=>r=EA l) wx 2:=by
 rintro v l ⟨⟩ hs
 have hs:FB l=true:=hs
 have hl2:=D0 hs
 simp[rN,ri,h1,hs, -Bool.forall_bool, -Bool.exists_bool]
 intro _
 refine ai (X:=Value×List Rng) [9] [0] l.length (fun k x=>x.2=(l.take k).foldl sx []) (fun x=>[(3, .own 48 x.1)]) (fun x=>[(48, .row x.1 wx 2 (x.2.map enc))]) (.slice none 0 0, []) (by simp) (by simp) (by omega) (by simp) (by simp) rfl (by simp) (by simp[isNilRow]) ?_ ?_
 ·rintro k ⟨v',out⟩ hk hP
  simp only at hP
  have hk2:k=0\/k=1:=by omega
  rcases hk2 with rfl|rfl
  ·obtain⟨x,hx⟩:∃x,l[0]? =some x:=⟨_,qxA hk⟩
   obtain⟨_,hgx⟩:=qxz.1 hx
   have ho:out=[]:=by rw[hP];rfl
   subst ho
   have h1:=qav hx
   simp[hk,hx,hgx,h1, -Bool.forall_bool, -Bool.exists_bool]
  ·obtain⟨x,y,rfl⟩:=QH hs hk
   have ho:out=[x]:=by rw[hP];rfl
   subst ho
   simp[FB]at hs
   by_cases hle:y.fr.val<=x.to.val+1
   ·have hst:sx (sx [] x) y=[⟨x.fr,⟨max x.to.val y.to.val⟩⟩]:=by simp[sx,hle]
    have hr:InR .i32 (x.to.val+1):=by simp only[InR];omega
    simp[hle,hst,hr, -Bool.forall_bool, -Bool.exists_bool]
    simp only[InR];omega
   ·have hst:sx (sx [] x) y=[x,y]:=by simp[sx,hle]
    have hr:InR .i32 (x.to.val+1):=by simp only[InR];omega
    simp[hle,hst,hr, -Bool.forall_bool, -Bool.exists_bool]
    simp only[InR];omega
 ·rintro⟨v',out⟩ hP
  simp only at hP
  rw[qx1]at hP
  subst hP
  simp[-Bool.forall_bool, -Bool.exists_bool]
  exact kg (EA l) (by simp[EA]) rfl
end Go.Gv

namespace Go.Gv
open Cod (enc dec)
variable {S S0:Nat->Spc}
theorem qdB{p:Rp}{sp:B}{q:Rp× (I32×Bool)}{c:Int}(hc:K5 p=some c)(h:B1 p sp=some q):q=(p.bump,⟨c⟩,true):=by
 unfold B1 at h
 rw[hc,qxR]at h
 split at h
 ·cases h
 ·exact(qxO h).symm
theorem qf5{p:Rp}{q:Rp× (I32×Bool)}{c:Int}(hc:K5 p=some c)(h:Rz p ()=some q):q=(p.bump,⟨c⟩,true):=by
 unfold Rz at h
 rw[hc,qxR]at h
 split at h
 ·cases h
 ·exact qdB hc h
theorem qnI{b:Nat}{post:Rp->(Rx×Bool)->Prop}{l:List Rng}{id el:Nat}{v:Value}{H:ab}(s:Rp)(h0:H 0=some (.box b (rM s)))(hi:id≠0)(h1:H id=some (.row v el 2 (l.map enc)))(hq:post s (⟨1,0,0,l, []⟩,true)):
 Fc Dc b post (.tup [.agg [.v (.int .i64 1), .v (.int .i64 0), .v (.int .i64 0), .own id v, .v (.slice none 0 0)], .v (.bool true)]) H:=by
 refine EN s (⟨1,0,0,l, []⟩,true) (.tup rfl fun k c c' hc hc'=>?_) h0 hq
 match k with
 | 0=>
   cases hc;cases hc'
   refine Pe l [] (.row (el:=el) (by simp[hi];exact h1) rfl (fun d hd=>?_) (fun k c c' hc hc'=>?_)) (.nil _)
   ·obtain⟨x,_,rfl⟩:=qxL.1 hd
    exact⟨Cod.kn x,Cod.wid x⟩
   ·rw[hc]at hc';cases hc';exact .same _
 | 1=>cases hc;cases hc';exact .same _
 | k+2=>simp at hc
set_option maxHeartbeats 2000000 in
theorem Lv(h1:S bi=uJ)(h2:S iM=qaN)(h3:S tC=QT):uu iR iH S a0 Dc (fun s z=>∃r,qgU s z=some r) (fun s z s' y=>qgU s z=some (s',y)):=by
 rintro b s ⟨⟩ ⟨r,hr⟩
 have hr0:=hr
 obtain⟨a0,ha0,h⟩:=qxx.1 hr
 have e91:¬a0≠91:=fun e=>by rw[if_pos e]at h;cases h
 rw[if_neg e91]at h
 have hin:=(Xr ha0).2.2 (by omega)
 obtain⟨c0,hc0,h⟩:=qxx.1 h
 have n94:¬c0=94:=fun e=>by rw[if_pos e]at h;cases h
 rw[if_neg n94]at h
 obtain⟨⟨s',l'⟩,hl,h⟩:=qxx.1 h
 simp only at h
 have hsrt:FB l'=true:=by
  split at h
  ·assumption
  ·cases h
 rw[if_pos hsrt]at h
 cases h
 have hc1:K5 ⟨s.s,s.pos+1,s.fault,s.e⟩=some c0:=hc0
 simp[iR,iH,h1,kD,hin,hc1,n94, -Bool.forall_bool, -Bool.exists_bool]
 intro b2
 refine av (X:=Nat×Rp×Value×List Rng) [0,2,4,5] [2] (fun z=>qdA z.1 z.2.1 z.2.2.2=some (s',l')/\z.2.2.2.length+z.1<=100) (fun z=>[(6, .own 86 z.2.2.1)]) (fun z=>[(0, .box b (rM z.2.1)),(86, .row z.2.2.1 wx 2 (z.2.2.2.map enc))]) (fun z=>z.1) (100,s.bump, .slice none 0 0, []) ⟨hl,by simp⟩ (by simp) (by simp[isNilRow,Rp.bump]) ?_
 clear hl
 rintro⟨k,p,v,l⟩ ⟨hk,hlen⟩
 simp only at hk hlen
 obtain _|k:=k
 ·rw[qdA]at hk;cases hk
 rw[qdA]at hk
 obtain⟨c,hc,hk2⟩:=qxx.1 hk
 clear hk
 have hlt:(l.length:Int)<=9223372036854775807:=by omega
 by_cases hend:l≠ []/\c=93
 ·rw[if_pos hend]at hk2
  cases hk2
  obtain⟨hne,rfl⟩:=hend
  have hin2:=(Xr hc).2.2 (by omega)
  have hl0:¬l'.length=0:=fun e=>hne (qyl.1 e)
  simp(config:={ maxSteps:=2000000 }) [h1,h3,kD,hc,hlt,hne,hl0,hin2,hsrt, -Bool.forall_bool, -Bool.exists_bool]
  exact fun v'=>qnI (el:=wx) s'.bump (by simp[Rp.bump]) (by decide) (by simp) hr0
 ·rw[if_neg hend]at hk2
  obtain⟨q,hq,hk3⟩:=qxx.1 hk2
  clear hk2
  obtain⟨d,hd,hk4⟩:=qxx.1 hk3
  clear hk3
  have hqv:=qf5 hc hq
  subst hqv
  simp only at hd hk4
  have n45:¬d=45:=fun e=>by rw[if_pos e]at hk4;cases hk4
  rw[if_neg n45]at hk4
  have hd':K5 ⟨p.s,p.pos+1,p.fault,p.e⟩=some d:=hd
  cases l with
  | nil=>
    simp(config:={ maxSteps:=2000000 }) [h1,h2,kD,hq,hd',n45,Rp.bump, -Bool.forall_bool, -Bool.exists_bool]
    exact fun v=>⟨k,p.bump,v, [⟨⟨c⟩,⟨c⟩⟩],⟨hk4,by simp at hlen ⊢;omega⟩,⟨rfl, .inl ⟨rfl,rfl,rfl,rfl⟩, .inl ⟨rfl,by simp⟩⟩,by omega⟩
  | cons x l=>
    have n93:¬c=93:=fun e=>hend ⟨by simp,e⟩
    simp(config:={ maxSteps:=2000000 }) [h1,h2,kD,hc,hq,hd',n45,n93,Rp.bump, -Bool.forall_bool, -Bool.exists_bool]
    have hlen2:l.length+1+ (k+1)<=100:=by simpa using hlen
    first
     | exact fun _ _=>⟨by omega,by omega,fun v=>⟨k,p.bump,v,x::l++ [⟨⟨c⟩,⟨c⟩⟩],⟨hk4,by simp;omega⟩,⟨rfl, .inl ⟨rfl,rfl,rfl,rfl⟩, .inl ⟨rfl,by simp⟩⟩,by omega⟩⟩
     | exact⟨by omega,by omega,by omega,fun v=>⟨k,p.bump,v,x::l++ [⟨⟨c⟩,⟨c⟩⟩],⟨hk4,by simp;omega⟩,⟨rfl, .inl ⟨rfl,rfl,rfl,rfl⟩, .inl ⟨rfl,by simp⟩⟩,by omega⟩⟩
     | exact⟨by omega,by omega,fun v=>⟨k,p.bump,v,x::l++ [⟨⟨c⟩,⟨c⟩⟩],⟨hk4,by simp;omega⟩,⟨rfl, .inl ⟨rfl,rfl,rfl,rfl⟩, .inl ⟨rfl,by simp⟩⟩,by omega⟩⟩
     | (refine fun _=>⟨fun _=>?_,fun _=>?_⟩ <;> exact⟨by omega,by omega,fun v=>⟨k,p.bump,v,x::l++ [⟨⟨c⟩,⟨c⟩⟩],⟨hk4,by simp;omega⟩,⟨rfl, .inl ⟨rfl,rfl,rfl,rfl⟩, .inl ⟨rfl,by simp⟩⟩,by omega⟩⟩)
end Go.Gv

namespace Go.Gv
open Cod (enc dec)
def qss(F:Rx->Int->Int->Option (Bool×Int)):PT:=fun d ds H K=>∃id b x n k r d0,ds=[d0, .v (.int .i64 n), .bptr id b 0]/\dec d0=some x/\H id=some (.box b [.v (.int .i64 k)])/\F x n k=some r/\K (.v (.bool r.1)) (ah H id (some (.box b [.v (.int .i64 r.2)])))
theorem qfp(F:Rx->Int->Int->Option (Bool×Int)):qq (qss F):=fun d ds H K K' hk ⟨id,b,x,n,k,r,d0,h1,h2,h3,h4,h5⟩=>⟨id,b,x,n,k,r,d0,h1,h2,h3,h4,hk _ _ h5⟩
def qlm(F:Rx->Int->Int->Option (Bool×Int)):Spc:= .gen _ (qfp F)
def qpl(F:Rx->Int->Int->Option (Bool×Int))(o:Option Rx)(n:Int)(id b:Nat)(q:Option Res)(H:ab)(K:D->ab->Prop):Prop:=
 ∃k,q=some (.box b [.v (.int .i64 k)])/\dT o fun x=>dT (F x n k) fun r=>K (.v (.bool r.1)) (ah H id (some (.box b [.v (.int .i64 r.2)])))
@[congr] theorem qsr{F:Rx->Int->Int->Option (Bool×Int)}{o o':Option Rx}{n n':Int}{id b:Nat}{q q':Option Res}{H:ab}{K:D->ab->Prop}(h1:o=o')(h2:n=n')(h3:q=q'):qpl F o n id b q H K=qpl F o' n' id b q' H K:=by subst h1;subst h2;subst h3;rfl
@[simp] theorem qst(F:Rx->Int->Int->Option (Bool×Int))(d id b:Nat)(d0:D)(n:Int)(H:ab)(K:D->ab->Prop):(qlm F).pt d [d0, .v (.int .i64 n), .bptr id b 0] H K=qpl F (dec d0) n id b (H id) H K:=by
 refine propext ⟨fun h=>?_,fun h=>?_⟩
 ·obtain⟨id',b',x,n',k,r,d0',h1,h2,h3,h4,h5⟩:=h
  cases h1
  refine⟨k,h3,?_⟩
  rw[h2]
  show dT (F x n k) _
  rw[h4]
  exact h5
 ·obtain⟨k,h1,h2⟩:=h
  cases hx:dec (X:=Rx) d0 with
  | none=>rw[hx]at h2;exact h2.elim
  | some x=>
    rw[hx]at h2
    have h2:dT (F x n k) _:=h2
    cases hr:F x n k with
    | none=>rw[hr]at h2;exact h2.elim
    | some r=>rw[hr]at h2;exact⟨id,b,x,n,k,r,d0,rfl,hx,h1,hr,h2⟩
@[simp] theorem qvB(F:Rx->Int->Int->Option (Bool×Int))(o:Option Rx)(n:Int)(id b:Nat)(k:Int)(H:ab)(K:D->ab->Prop):
 qpl F o n id b (some (.box b [.v (.int .i64 k)])) H K=dT o fun x=>dT (F x n k) fun r=>K (.v (.bool r.1)) (ah H id (some (.box b [.v (.int .i64 r.2)]))):=by
 refine propext ⟨fun⟨k',h1,h2⟩=>?_,fun h=>⟨k,rfl,h⟩⟩
 cases h1
 exact h2
def qoO(b:Nat)(q:Bool×Int)(r:D)(H:ab):Prop:=r= .v (.bool q.1)/\H 2=some (.box b [.v (.int .i64 q.2)])
def qd3(cc:CC)(rs:List aj)(S:Nat->Spc)(F:Rx->Int->Int->Option (Bool×Int)):Prop:=
 ∀b x n k q,F x n k=some q->vc S cc (tu rs fun r H'=>qoO b q r H') (dq [enc x, .v (.int .i64 n), .bptr 2 b 0]) (ah bM 2 (some (.box b [.v (.int .i64 k)])))
variable {P:Program}{S:Nat->Spc}{f:Nat}{im:List Nat}{cc:CC}{rs:List aj}{N:Nat}
theorem TK{F:Rx->Int->Int->Option (Bool×Int)}(hS:∀f,Tri P f (S f).pt)(h:ak P f im cc rs N)(hN:3<=N)(hw:qd3 cc rs S F):Tri P f (qlm F).pt:=by
 obtain⟨vF,enter,fn,code,h1,h2,h3,h4,h5⟩:=h
 refine mH hS vF h1 h2 enter h3 h4 h5 ?_
 rintro ds H d K ⟨id,b,x,n,k,r,d0,rfl,hd,hid,hF,hK⟩
 have h0:∀i q,ah bM 2 (some (.box b [.v (.int .i64 k)])) i=some q->i=2/\q= .box b [.v (.int .i64 k)]:=by
  intro i q h
  by_cases e:i=2
  ·subst e
   simp only[ah,if_true]at h
   cases h
   exact⟨rfl,rfl⟩
  ·simp[ah,e,bM]at h
 refine⟨hN, [enc x, .v (.int .i64 n), .bptr 2 b 0],ah bM 2 (some (.box b [.v (.int .i64 k)])),fun i=>if i=2 then id else i, .cons (Cod.le _ _ hd) (.cons (.same _) (.cons (.bptr _ _ _ _) .nil)),fun i q h=>?_,fun i j q q' h h' e=>?_,_,hw b x n k r hF,?_⟩
 ·obtain⟨rfl,rfl⟩:=h0 i q h
  exact hid
 ·exact(h0 i q h).1.trans (h0 j q' h').1.symm
 ·rintro r' H' ⟨rfl,k2⟩
  refine⟨.v (.bool r.1),bM,ah H id (some (.box b [.v (.int .i64 r.2)])),fun i=>if i=id then some 2 else none, .same _,fun j q h=>by simp[bM]at h,hK,fun i s hi=>?_,fun i j k' s q hi hj e1 e2=>?_⟩
  ·by_cases e:i=id
   ·subst e
    simp only[ah,if_true]at hi ⊢
    cases hi
    exact k2
   ·simp only[ah,e,if_false]at hi ⊢
    refine⟨hi,fun k'' q h he=>?_⟩
    obtain⟨rfl,rfl⟩:=h0 k'' q h
    exact e he.symm
  ·by_cases c1:i=id
   ·by_cases c2:j=id
    ·exact c1.trans c2.symm
    ·simp[c2]at e2
   ·simp[c1]at e1
end Go.Gv

namespace Go.Gv
open Go.Proofs
def jK:CC:=gq Tryz.f277 [3] { bx:=[2],ke:=[2] } _
def jk:List aj:=[.tmp 6]
theorem JI:ak Tryz.prog qz [3] jK jk 36:=fo
def nZ:CC:=gq Tryz.f316 [] {} _
def mX:List aj:=[.tmp 2]
theorem Ed:ak Tryz.prog pH [] nZ mX 47:=fo
def dI:CC:=gq Tryz.f300 [1] {} _
def dA:List aj:=[.tmp 2]
theorem Cs:ak Tryz.prog nH [1] dI dA 101:=fo
def kX:CC:=gq Tryz.f278 [1] {} _
def kH:List aj:=[.tmp 2]
theorem BC:ak Tryz.prog gN [1] kX kH 19:=fo
def gS:CC:=gq Tryz.f279 [1] {} _
def gC:List aj:=[.tmp 2]
theorem Ct:ak Tryz.prog iY [1] gS gC 42:=fo
def od:CC:=gq Tryz.f257 [1] {} _
def na:List aj:=[.tmp 2]
theorem Eg:ak Tryz.prog kj [1] od na 16:=fo
end Go.Gv

namespace Go.Gv
open Cod (enc dec)
variable {S S0:Nat->Spc}
theorem GK{X:Type}{l:List X}{k:Nat}(h:k < l.length):∃x,l[k]? =some x:=⟨_,qxA h⟩
theorem KO{X:Type}{l:List X}{k:Nat}{x:X}(h:l[k]? =some x):l.drop k=x::l.drop (k+1):=by
 obtain⟨h1,h2⟩:=qxz.1 h
 rw[qyb h1,h2]
theorem Lt(n:Nat)(h1:S qz=qlm (vm n)):qd3 jK jk S (vm (n+1)):=by
 rintro b x d k ⟨ok,m⟩ hF
 have hF0:=hF
 simp only[vm]at hF
 split at hF
 ·cases hF
 rename_i hrng
 have hin:InR .i64 (k+1):=by simp only[InR];omega
 split at hF
 ·rename_i hbig
  cases hF
  by_cases h40:40 < d
  ·simp[jK,jk,hin,h40, -Bool.forall_bool, -Bool.exists_bool]
   exact⟨rfl,by simp⟩
  ·have h200:200 < k+1:=by omega
   simp[jK,jk,hin,h40,h200, -Bool.forall_bool, -Bool.exists_bool]
   exact⟨rfl,by simp⟩
 ·rename_i hbig
  have h40:¬40 < d:=by omega
  have h200:¬200 < k+1:=by omega
  simp[jK,jk,hin,h40,h200, -Bool.forall_bool, -Bool.exists_bool]
  intro hkl
  refine ai (X:=Int) [1,2,23] [] x.kids.length (fun i z=>qmF (vm n) d (x.kids.drop i) z=some (ok,m)) (fun z=>[]) (fun z=>[(2, .box b [.v (.int .i64 z)])]) (k+1) (by simp) (by simp) (by omega) (by simp) (by simp) hF (by simp) (by simp) ?_ ?_
  ·rintro i z hi hz
   obtain⟨y,hy⟩:=GK hi
   obtain⟨_,hgy⟩:=qxz.1 hy
   rw[KO hy,qmF]at hz
   obtain⟨⟨t,m'⟩,hs,hz⟩:=qxx.1 hz
   simp only at hz
   have hin2:InR .i64 (d+1):=by simp only[InR];omega
   cases t with
   | true=>
     simp only[if_true]at hz
     simp[h1,hi,hy,hgy,hs,hin2, -Bool.forall_bool, -Bool.exists_bool]
     exact⟨m',hz, .inl rfl⟩
   | false=>
     simp only[qyh,if_false]at hz
     cases hz
     simp[h1,hi,hy,hgy,hs,hin2, -Bool.forall_bool, -Bool.exists_bool]
     exact⟨rfl,by simp⟩
  ·rintro z hz
   rw[qyz,qmF]at hz
   cases hz
   simp[-Bool.forall_bool, -Bool.exists_bool]
   exact⟨rfl,by simp⟩
abbrev QR:Spc:=aI (a1 (List Rng)) (fun l=>Wv l=true) (enc (X:=Bool)) fun _ y=>y=true
theorem Fi:aq nZ mX S (a1 (List Rng)) (fun l=>Wv l=true) (enc (X:=Bool)) fun _ y=>y=true:=by
 rintro l hl
 obtain⟨r,rfl⟩:∃r,l=[r]:=by
  match l,hl with
  | [r],_=>exact⟨r,rfl⟩
 simp[Wv]at hl
 simp[nZ,mX, -Bool.forall_bool, -Bool.exists_bool]
 refine ai (X:=Unit) [0,5] [] 1 (fun _ _=>True) (fun _=>[]) (fun _=>[]) () (by simp) (by simp) (by omega) (by simp) (by simp) trivial (by simp) (by simp) ?_ ?_
 ·rintro k -hk -
  obtain rfl:k=0:=by omega
  have n1:¬r.fr.val < 0:=by omega
  have n2:¬r.to.val < r.fr.val:=by omega
  have n3:¬1114111 < r.to.val:=by omega
  simp[n1,n2,n3, -Bool.forall_bool, -Bool.exists_bool]
 ·rintro - -
  simp[-Bool.forall_bool, -Bool.exists_bool]
abbrev MH:Spc:=aI (a1 Rx) (fun x=>qm0 x=true) (enc (X:=Bool)) fun _ y=>y=true
set_option maxHeartbeats 2000000 in
theorem Dp(h1:S pH=QR):aq dI dA S (a1 Rx) (fun x=>qm0 x=true) (enc (X:=Bool)) fun _ y=>y=true:=by
 rintro⟨op,mn,mx,rs,ks⟩ hx
 have hx:qm0 ⟨op,mn,mx,rs,ks⟩=true:=hx
 unfold qm0 at hx
 simp only at hx
 split at hx
 ·rename_i e
  subst e
  simp at hx
  obtain⟨⟨⟨rfl,rfl⟩,rfl⟩,hs⟩:=hx
  simp[dI,dA,h1,hs, -Bool.forall_bool, -Bool.exists_bool]
  refine ai (X:=Unit) [1,3] [] 0 (fun _ _=>True) (fun _=>[]) (fun _=>[]) () (by simp) (by simp) (by omega) (by simp) (by simp) trivial (by simp) (by simp) (fun k x hk=>absurd hk (by omega)) (fun _ _=>?_)
  simp[h1,hs, -Bool.forall_bool, -Bool.exists_bool]
 split at hx
 ·rename_i e1 e
  subst e
  simp at hx
  obtain⟨⟨⟨⟨rfl,rfl⟩,rfl⟩,hl1,hl3⟩,hk2⟩:=hx
  have hlt:(ks.length:Int)<=9223372036854775807:=by omega
  simp[dI,dA,hlt, -Bool.forall_bool, -Bool.exists_bool]
  refine ai (X:=Unit) [1,3,34] [] ks.length (fun _ _=>True) (fun _=>[]) (fun _=>[]) () (by simp) (by simp) (by omega) (by simp) (by simp) trivial (by simp) (by simp) ?_ ?_
  ·rintro k -hk -
   obtain⟨y,hy⟩:=GK hk
   obtain⟨_,hgy⟩:=qxz.1 hy
   have hop:=hk2 y (qxC hy)
   simp[hk,hy,hgy,hop, -Bool.forall_bool, -Bool.exists_bool]
  ·rintro - -
   have hl1':¬ (ks.length:Int)=1:=by omega
   simp[hl1,hl1', -Bool.forall_bool, -Bool.exists_bool]
 split at hx
 ·rename_i e1 e2 e
  subst e
  simp at hx
  obtain⟨⟨⟨⟨rfl,rfl⟩,rfl⟩,hl1,hl3⟩,hk2⟩:=hx
  have hlt:(ks.length:Int)<=9223372036854775807:=by omega
  simp[dI,dA,hlt, -Bool.forall_bool, -Bool.exists_bool]
  refine ai (X:=Unit) [1,3,34] [] ks.length (fun _ _=>True) (fun _=>[]) (fun _=>[]) () (by simp) (by simp) (by omega) (by simp) (by simp) trivial (by simp) (by simp) ?_ ?_
  ·rintro k -hk -
   obtain⟨y,hy⟩:=GK hk
   obtain⟨_,hgy⟩:=qxz.1 hy
   have hop:=hk2 y (qxC hy)
   simp[hk,hy,hgy,hop, -Bool.forall_bool, -Bool.exists_bool]
  ·rintro - -
   have hl1':(1:Int) < ks.length:=by omega
   simp[hl1,hl1', -Bool.forall_bool, -Bool.exists_bool]
 split at hx
 ·rename_i e1 e2 e3 e
  subst e
  simp at hx
  obtain⟨⟨⟨g0,g1,g2⟩,rfl⟩,hl1⟩:=hx
  obtain⟨k0,rfl⟩:∃k,ks=[k]:=qyY.1 hl1
  simp[dI,dA, -Bool.forall_bool, -Bool.exists_bool]
  refine ai (X:=Unit) [1,3,34] [] 1 (fun _ _=>True) (fun _=>[]) (fun _=>[]) () (by simp) (by simp) (by omega) (by simp) (by simp) trivial (by simp) (by simp) ?_ ?_
  ·rintro k -hk -
   obtain rfl:k=0:=by omega
   simp[-Bool.forall_bool, -Bool.exists_bool]
  ·rintro - -
   simp[g0,g1, -Bool.forall_bool, -Bool.exists_bool]
   exact fun h=>⟨fun _=>by omega,by omega⟩
 ·cases hx
abbrev Cn(n:Nat):Spc:=aI (a1 Rx) (fun x=>YH n x=true) (enc (X:=Bool)) fun _ y=>y=true
theorem B9(n:Nat)(h1:S nH=MH)(h2:S gN=Cn n):aq kX kH S (a1 Rx) (fun x=>YH (n+1) x=true) (enc (X:=Bool)) fun _ y=>y=true:=by
 rintro x hx
 have hx:YH (n+1) x=true:=hx
 simp only[YH,qxH,qxF]at hx
 obtain⟨hx1,hx2⟩:=hx
 simp[kX,kH,h1,hx1, -Bool.forall_bool, -Bool.exists_bool]
 intro hkl
 refine ai (X:=Unit) [9] [] x.kids.length (fun _ _=>True) (fun _=>[]) (fun _=>[]) () (by simp) (by simp) (by omega) (by simp) (by simp) trivial (by simp) (by simp) ?_ ?_
 ·rintro k -hk -
  obtain⟨y,hy⟩:=GK hk
  obtain⟨_,hgy⟩:=qxz.1 hy
  have hp:=hx2 y (qxC hy)
  simp[h2,hk,hy,hgy,hp, -Bool.forall_bool, -Bool.exists_bool]
 ·rintro - -
  simp[-Bool.forall_bool, -Bool.exists_bool]
abbrev Ue(n:Nat):Spc:=aI (a1 Rx) (fun x=>∃m,JH n x=some m) (enc (X:=Int)) fun x y=>JH n x=some y
set_option maxHeartbeats 1000000 in
theorem Dq(n:Nat)(h1:S iY=Ue n):aq gS gC S (a1 Rx) (fun x=>∃m,JH (n+1) x=some m) (enc (X:=Int)) fun x y=>JH (n+1) x=some y:=by
 rintro x ⟨m,hm⟩
 have hm0:=hm
 simp only[JH]at hm
 split at hm
 ·rename_i e
  cases hm
  simp[gS,gC,e,hm0, -Bool.forall_bool, -Bool.exists_bool]
 rename_i e1
 obtain⟨k,hk,hm⟩:=qxx.1 hm
 simp[gS,gC,e1, -Bool.forall_bool, -Bool.exists_bool]
 intro hkl
 refine ai (X:=Int) [1,10] [] x.kids.length (fun i z=>qmU (JH n) (x.kids.drop i) z=some k) (fun z=>[(3,enc z)]) (fun _=>[]) 0 (by simp) (by simp) (by omega) (by simp) (by simp) hk (by simp) (by simp) ?_ ?_
 ·rintro i z hi hz
  obtain⟨y,hy⟩:=GK hi
  obtain⟨_,hgy⟩:=qxz.1 hy
  rw[KO hy,qmU]at hz
  obtain⟨v,hv,hz⟩:=qxx.1 hz
  split at hz
  ·cases hz
  rename_i hr
  have hin:InR .i64 (z+v):=by simp only[InR];omega
  have hp:∃m,JH n y=some m:=⟨v,hv⟩
  simp[h1,hi,hy,hgy,hv, -Bool.forall_bool, -Bool.exists_bool]
  exact⟨hin,hz⟩
 ·rintro z hz
  rw[qyz,qmU]at hz
  cases hz
  split at hm
  ·rename_i e4
   cases hm
   simp[e4,hm0, -Bool.forall_bool, -Bool.exists_bool]
  ·rename_i e4
   have e4:x.op=4:=by omega
   unfold qmW at hm
   split at hm
   ·rename_i emx
    split at hm
    ·rename_i hb
     cases hm
     have hin:InR .i64 (k*max x.mn 1):=by simp only[InR];omega
     simp[e4,emx,hin,hm0, -Bool.forall_bool, -Bool.exists_bool]
    ·cases hm
   ·rename_i emx
    split at hm
    ·rename_i hb
     cases hm
     have hin:InR .i64 (k*x.mx):=by simp only[InR];omega
     simp[e4,emx,hin,hm0, -Bool.forall_bool, -Bool.exists_bool]
    ·cases hm
abbrev QS:Spc:=aI (a1 Rx) (fun x=>Ch 50 x=true) (enc (X:=Int)) fun x y=>y=0
theorem Fl(h1:S qz=qlm (vm 50))(h2:S gN=Cn 50)(h3:S iY=Ue 50):aq od na S (a1 Rx) (fun x=>Ch 50 x=true) (enc (X:=Int)) fun x y=>y=0:=by
 rintro x hx
 have hx:Ch 50 x=true:=hx
 simp only[Ch,qxH]at hx
 obtain⟨⟨g1,g2⟩,g3⟩:=hx
 obtain⟨⟨t,k⟩,hs,rfl⟩:∃r,vm 50 x 1 0=some r/\r.1=true:=by
  cases h:vm 50 x 1 0 with
  | none=>rw[h]at g1;cases g1
  | some r=>rw[h]at g1;exact⟨r,rfl,g1⟩
 obtain⟨m,hm,hm64⟩:∃m,JH 50 x=some m/\m<=64:=by
  cases h:JH 50 x with
  | none=>rw[h]at g3;cases g3
  | some r=>rw[h]at g3;exact⟨r,rfl,of_decide_eq_true g3⟩
 have n64:¬64 < m:=by omega
 simp[od,na,h1,h2,h3,hs,g2,hm,n64, -Bool.forall_bool, -Bool.exists_bool]
 exact hm64
end Go.Gv

namespace Go.Gv
open Go.Proofs
def tS:CC:=gq Tryz.f220 [2002002] {} _
def sX:List aj:=[.cell 2 true 5, .tmp 3, .tmp 4]
theorem JK:ak Tryz.prog qB [2002002] tS sX 66:=fo
def un:CC:=gq Tryz.f172 [] {} _
def tt:List aj:=[.tmp 2]
theorem J6:ak Tryz.prog qE [] un tt 13:=fo
def oc:CC:=gq Tryz.f319 [] {} _
def mZ:List aj:=[.tmp 4]
theorem Ef:ak Tryz.prog pI [] oc mZ 24:=fo
end Go.Gv

namespace Go.Gv
open Cod (enc dec)
variable {S S0:Nat->Spc}
def qwk{Y Z W V:Type}[Cod Y][Cod Z][Cod W][Cod V](x:Y×Z×W×V):D:= .tup [enc x.1,enc x.2.1,enc x.2.2.1,enc x.2.2.2]
@[simp] theorem qwj{Y Z W V:Type}[Cod Y][Cod Z][Cod W][Cod V](y:Y)(z:Z)(w:W)(v:V):qwk (y,z,w,v)= .tup [enc y,enc z,enc w,enc v]:=id rfl
def qeF(s:B)(i:Int):I32×Int×Int×Bool:=match s.data[i.toNat]? with
 | some c=>(⟨c.toNat⟩,i,1,true)
 | none=>(⟨0⟩,0,0,false)
abbrev s_cpAt:Spc:=aI (a2 B Int) (fun x=>x.1.size<=1000/\wm x.1=true/\0<=x.2/\x.2<=x.1.size) (qwk (Y:=I32) (Z:=Int) (W:=Int) (V:=Bool)) fun x y=>y=qeF x.1 x.2
theorem qdQ{s:B}(h:wm s=true){k:Nat}{c:UInt8}(hc:s.data[k]? =some c):c.toNat < 128:=by
 have:=qxF.1 h c (by rw[<-qx6]at hc;exact qxC hc)
 exact of_decide_eq_true this
abbrev FG:Spc:=aI (a1 B) (fun s=>∃r,nz s=some r) (qh0 (Y:=Rx) (Z:=Int) (W:=Int)) fun s y=>nz s=some y.1/\y.2=(0,0)
set_option maxHeartbeats 2000000 in
theorem Lw(h1:S AN=s_cpAt)(h2:S jD=qaK)(h3:S kj=QS):aq tS sX S (a1 B) (fun s=>∃r,nz s=some r) (qh0 (Y:=Rx) (Z:=Int) (W:=Int)) fun s y=>nz s=some y.1/\y.2=(0,0):=by
 rintro s ⟨r,hr⟩
 have hr0:=hr
 unfold nz at hr
 split at hr
 rotate_left
 ·cases hr
 rename_i hs
 obtain⟨hsz,hasc⟩:=hs
 obtain⟨⟨p,x,ok⟩,hu,hr⟩:=qxx.1 hr
 split at hr
 rotate_left
 ·cases hr
 rename_i hv
 obtain⟨rfl,hpos,hval⟩:=hv
 cases hr
 have n200:¬ (200:Int) < s.size:=by omega
 have hs10:s.size<=1000:=by omega
 simp[tS,sX,n200, -Bool.forall_bool, -Bool.exists_bool]
 intro b2 hsz2
 refine av (X:=Nat) [0,2] [2] (fun i=>i<=s.size) (fun i=>[(5,enc (i:Int))]) (fun _=>[]) (fun i=>s.size -i) 0 (qx3 _) (by simp) (by simp) ?_
 rintro i hi
 by_cases hlt:i < s.size
 ·obtain⟨c,hc⟩:∃c,s.data[i]? =some c:=⟨s.data[i]'hlt,qyC hlt⟩
  have h128:=qdQ hasc hc
  have hat:qeF s (i:Int)=((⟨(c.toNat:Int)⟩:I32),(i:Int),(1:Int),true):=by simp[qeF,hc]
  have hff:¬ ((c.toNat:Int)=65533):=by omega
  simp[h1,hs10,hasc,hat,hff,hi, -Bool.forall_bool, -Bool.exists_bool]
  exact⟨by simp only[InR];omega,i+1,by omega,by omega,by omega⟩
 ·obtain rfl:i=s.size:=by omega
  have hat:qeF s (s.size:Int)=(⟨0⟩,0,0,false):=by
   have:s.data[s.size]? =none:=qyZ (qxI _)
   simp[qeF,this]
  simp only at hpos hval
  have npos:¬p.pos < s.size:=by omega
  simp[h1,h2,h3,hs10,hasc,hat,hu,hpos,hval,npos, -Bool.forall_bool, -Bool.exists_bool]
  exact fun b _=>⟨x, .same _,hr0⟩
abbrev VZ:Spc:=aI (a1 B) (fun s=>∃r,nz s=some r) (enc (X:=Int)) fun _ y=>y=0
theorem LP(h1:S qB=FG):aq un tt S (a1 B) (fun s=>∃r,nz s=some r) (enc (X:=Int)) fun _ y=>y=0:=by
 rintro s ⟨r,hr⟩
 simp[un,tt,h1,hr, -Bool.forall_bool, -Bool.exists_bool]
abbrev qft:Spc:=aI (a2 (List Rng) I32) (fun _=>True) (enc (X:=Bool)) fun x y=>y=Pr x.1 x.2.val
theorem Fk:aq oc mZ S (a2 (List Rng) I32) (fun _=>True) (enc (X:=Bool)) fun x y=>y=Pr x.1 x.2.val:=by
 rintro⟨l,⟨c⟩⟩ -
 simp[oc,mZ, -Bool.forall_bool, -Bool.exists_bool]
 intro hkl
 refine ai (X:=Unit) [1,7] [] l.length (fun k _=>Pr (l.take k) c=false) (fun _=>[]) (fun _=>[]) () (by simp) (by simp) (by omega) (by simp) (by simp) rfl (by simp) (by simp) ?_ ?_
 ·rintro k -hk hP
  obtain⟨y,hy⟩:=GK hk
  obtain⟨_,hgy⟩:=qxz.1 hy
  have hstep:Pr (l.take (k+1)) c=(decide (y.fr.val<=c) && decide (c<=y.to.val)):=by
   have:l.take (k+1)=l.take k++ [y]:=by rw[qy5,hy];rfl
   unfold Pr at hP ⊢
   rw[this,List.any_append,hP]
   simp
  by_cases h1:y.fr.val<=c/\c<=y.to.val
  ·obtain⟨h1,h2⟩:=h1
   have hres:Pr l c=true:=by
    refine qyN.2 ⟨y,qxC hy,by simp[h1,h2]⟩
   simp[hk,hy,hgy,h1,h2,hres, -Bool.forall_bool, -Bool.exists_bool]
  ·have hres:Pr (l.take (k+1)) c=false:=by
    rw[hstep]
    simp
    omega
   by_cases h2:y.fr.val<=c
   ·have h3:¬c<=y.to.val:=fun e=>h1 ⟨h2,e⟩
    simp[hk,hy,hgy,h2,h3,hres, -Bool.forall_bool, -Bool.exists_bool]
   ·simp[hk,hy,hgy,h2,hres, -Bool.forall_bool, -Bool.exists_bool]
 ·rintro -hP
  rw[qx1]at hP
  simp[hP, -Bool.forall_bool, -Bool.exists_bool]
end Go.Gv

namespace Go.Gv
open Go.Proofs
def oL:CC:=gq Tryz.f262 [] {} _
def nr:List aj:=[.tmp 6]
theorem J5:ak Tryz.prog vR [] oL nr 25:=fo
def mA:CC:=gq Tryz.f227 [9,8,7,6,5] { cu:=[1] } _
def lV:List aj:=[.tmp 10]
theorem CK:ak Tryz.prog ja [9,8,7,6,5] mA lV 102:=fo
def jT:CC:=gq Tryz.f261 [5] {} _
def jt:List aj:=[.tmp 6]
theorem Aq:ak Tryz.prog aG [5] jT jt 13:=fo
def jS:CC:=gq Tryz.f267 [2] {} _
def js:List aj:=[.tmp 3]
theorem Ap:ak Tryz.prog ct [2] jS js 8:=fo
end Go.Gv

namespace Go.Gv
open Cod (enc dec)
variable {S S0:Nat->Spc}
def CX(v s:B)(f:Bool):Option Bool:=(nz v).bind fun x=>CV x s f
def qem(x:B×B×Bool):Prop:=∃y,CX x.1 x.2.1 x.2.2=some y
def qic(x:B×B×Bool)(y:Bool):Prop:=CX x.1 x.2.1 x.2.2=some y
abbrev VY:Spc:=aI (a3 B B Bool) qem (enc (X:=Bool)) qic
theorem LO(h1:S qB=FG)(h2:S vG=Wm false)(h3:S nI=Wm true):aq oL nr S (a3 B B Bool) qem (enc (X:=Bool)) qic:=by
 rintro⟨v,s,f⟩ ⟨y,hy⟩
 have hy:CX v s f=some y:=hy
 obtain⟨x,hx,hm⟩:=qxx.1 hy
 cases f
 ·have hp:Tl false (x,s):=⟨y,hm⟩
  simp[oL,nr,h1,h2,hx,hp, -Bool.forall_bool, -Bool.exists_bool]
  exact fun z hz=>by show(nz v).bind _=_;rw[hx];exact hz
 ·have hp:Tl true (x,s):=⟨y,hm⟩
  simp[oL,nr,h1,h3,hx,hp, -Bool.forall_bool, -Bool.exists_bool]
  exact fun z hz=>by show(nz v).bind _=_;rw[hx];exact hz
end Go.Gv
