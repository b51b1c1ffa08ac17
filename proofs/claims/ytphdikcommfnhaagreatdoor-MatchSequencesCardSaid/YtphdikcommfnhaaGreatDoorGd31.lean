/- A part of the framework and of the walks: W132 C52 W133 W134 T32 C53. -/
import Derived.Test.YtphdikcommfnhaaGreatDoorGd30
import Derived.Test.YtphdikcommfnhaaGreatDoorGd20
set_option linter.unusedSimpArgs false
set_option linter.unusedVariables false
set_option linter.unusedSectionVars false
set_option maxRecDepth 100000
set_option maxHeartbeats 0

namespace Go.Gv
open Cod (enc dec)
variable {S S0:Nat->Spc}
theorem qf0{p:Rp}{q:Rp× (Rx×Bool)}(h:YZ p ()=some q):q.2.2=true:=by
 obtain⟨a,_,h⟩:=qtT.1 h
 split at h
 ·obtain⟨c,_,h⟩:=qtT.1 h
  split at h
  ·cases h
  ·split at h
   ·obtain⟨d,_,h⟩:=qtT.1 h
    split at h
    ·cases h
    ·cases h;rfl
   ·cases h;rfl
 ·cases h
theorem Pw{op:Int}{l:List Rx}(h:l.length≠1):SR op l=⟨op,0,0, [],l⟩:=by
 match l,h with
 | [],_=>rfl
 | [e],h=>exact absurd rfl h
 | _::_::_,_=>rfl
theorem qal{b:Nat}{post:Rp->(Rx×Bool)->Prop}{op:Int}{l:List Rx}{id el:Nat}{v:Value}{H:ab}(s:Rp)(h0:H 0=some (.box b (qR s)))(hi:id≠0)(h1:H id=some (.row v el 5 (l.map enc)))(hq:post s (⟨op,0,0, [],l⟩,true)):
 DY BY b post (.tup [.agg [.v (.int .i64 op), .v (.int .i64 0), .v (.int .i64 0), .v (.slice none 0 0), .own id v], .v (.bool true)]) H:=by
 refine DG s (⟨op,0,0, [],l⟩,true) (.tup rfl fun k c c' hc hc'=>?_) h0 hq
 match k with
 | 0=>
   cases hc;cases hc'
   refine NR [] l (.nil _) (.row (el:=el) (by simp[hi];exact h1) rfl (fun d hd=>?_) (fun k c c' hc hc'=>?_))
   ·obtain⟨x,_,rfl⟩:=qt9.1 hd
    exact⟨Cod.kn x,Cod.wid x⟩
   ·rw[hc]at hc';cases hc';exact .same _
 | 1=>cases hc;cases hc';exact .same _
 | k+2=>simp at hc
abbrev Sc:Spc:=XT a0 BY qa3
set_option maxHeartbeats 2000000 in
theorem Hi(h1:S aw=gr)(h2:S eM=R8):tD gQ gz S a0 BY (fun s z=>∃r,qa3 s z=some r) (fun s z s' y=>qa3 s z=some (s',y)):=by
 rintro b s ⟨⟩ ⟨r,hr⟩
 have hr0:=hr
 obtain⟨⟨s',l'⟩,hl,hr⟩:=qt6.1 hr
 simp only at hr
 subst hr
 obtain⟨c0,hc0⟩:∃c,JV s=some c:=by
  rw[QT]at hl
  obtain⟨c,hc,_⟩:=qtT.1 hl
  exact⟨c,hc⟩
 simp[gQ,gz,h1,kC,hc0, -Bool.forall_bool, -Bool.exists_bool]
 intro b2
 refine av (X:=Nat×Rp×Value×List Rx×Int) [0,2] [2] (fun z=>QT z.1 z.2.1 z.2.2.2.1=some (s',l')/\z.2.2.2.1.length+z.1<=100/\JV z.2.1=some z.2.2.2.2) (fun z=>[(4, .own 36 z.2.2.1),(5, .v (.int .i32 z.2.2.2.2))]) (fun z=>[(0, .box b (qR z.2.1)),(36, .row z.2.2.1 yM 5 (z.2.2.2.1.map enc))]) (fun z=>z.1) (100,s, .slice none 0 0, [],c0) ⟨hl,by simp,hc0⟩ (by simp) (by simp[isNilRow]) ?_
 clear hl
 rintro⟨k,p,v,l,c⟩ ⟨hk,hlen,hc⟩
 simp only at hk hlen hc
 obtain _|k:=k
 ·rw[QT]at hk;cases hk
 rw[QT,hc]at hk
 simp only[qud]at hk
 split at hk
 ·rename_i hend
  cases hk
  have hlt:(l'.length:Int)<=9223372036854775807:=by omega
  by_cases hl1:l'.length=1
  ·obtain⟨e,rfl⟩:∃e,l'=[e]:=qvj.1 hl1
   rcases hend with h|rfl|rfl
   ·have h':¬0<=c:=by omega
    simp[h', -Bool.forall_bool, -Bool.exists_bool]
    exact BW s' (by simp) hr0
   all_goals
    simp[-Bool.forall_bool, -Bool.exists_bool]
    exact BW s' (by simp) hr0
  ·rw[Pw hl1]at hr0
   have hl1':¬ (l'.length:Int)=1:=by omega
   rcases hend with h|rfl|rfl
   ·have h':¬0<=c:=by omega
    simp[h',hl1,hl1',hlt, -Bool.forall_bool, -Bool.exists_bool]
    exact qal (el:=yM) s' (by simp) (by decide) (by simp) hr0
   all_goals
    simp[hl1,hl1',hlt, -Bool.forall_bool, -Bool.exists_bool]
    exact qal (el:=yM) s' (by simp) (by decide) (by simp) hr0
 ·rename_i hgo
  obtain⟨q,hq,hk⟩:=qtT.1 hk
  split at hk
  ·cases hk
  rename_i hop
  have hok:=qf0 hq
  obtain⟨p',e,ok⟩:=q
  simp only at hk hok hop
  subst hok
  have n1:0<=c:=by omega
  have n2:c≠124:=by omega
  have n3:c≠41:=by omega
  obtain⟨c1,hc1⟩:∃c,JV p'=some c:=by
   obtain _|k:=k
   ·rw[QT]at hk;cases hk
   rw[QT]at hk
   obtain⟨c,hc,_⟩:=qtT.1 hk
   exact⟨c,hc⟩
  simp[h1,h2,kC,hc1,hq,n1,n2,n3,hop, -Bool.forall_bool, -Bool.exists_bool]
  exact⟨by omega,by omega,fun v=>⟨k,p',v,l++ [e],c1,⟨hk,by simp;omega,hc1⟩,⟨⟨rfl,rfl⟩, .inl ⟨rfl,rfl,rfl,rfl⟩, .inl ⟨rfl,by simp⟩⟩,by omega⟩⟩
theorem qhe{p:Rp}{q:Rp× (Rx×Bool)}(h:qa3 p ()=some q):q.2.2=true:=by
 obtain⟨a,_,rfl⟩:=qt6.1 h
 rfl
abbrev R7:Spc:=XT a0 BY qcr
set_option maxHeartbeats 2000000 in
theorem Ka(h1:S aw=gr)(h2:S eO=Sc):tD iI iB S a0 BY (fun s z=>∃r,qcr s z=some r) (fun s z s' y=>qcr s z=some (s',y)):=by
 rintro b s ⟨⟩ ⟨r,hr⟩
 have hr0:=hr
 obtain⟨⟨s',l'⟩,hl,hr⟩:=qt6.1 hr
 simp only at hr
 subst hr
 simp[iI,iB, -Bool.forall_bool, -Bool.exists_bool]
 intro b2
 refine av (X:=Nat×Rp×Value×List Rx) [0,2] [2] (fun z=>Yk z.1 z.2.1 z.2.2.2=some (s',l')/\z.2.2.2.length+z.1<=100) (fun z=>[(4, .own 25 z.2.2.1)]) (fun z=>[(0, .box b (qR z.2.1)),(25, .row z.2.2.1 yM 5 (z.2.2.2.map enc))]) (fun z=>z.1) (100,s, .slice none 0 0, []) ⟨hl,by simp⟩ (by simp) (by simp[isNilRow]) ?_
 clear hl
 rintro⟨k,p,v,l⟩ ⟨hk,hlen⟩
 simp only at hk hlen
 obtain _|k:=k
 ·rw[Yk]at hk;cases hk
 rw[Yk]at hk
 obtain⟨⟨p',e,ok⟩,hq,hk2⟩:=qtT.1 hk
 clear hk
 obtain⟨c,hc,hk3⟩:=qtT.1 hk2
 clear hk2
 have hok:=qhe hq
 simp only at hok hc hk3
 subst hok
 have hop:¬e.op=3:=fun h=>by rw[if_pos h]at hk3;cases hk3
 rw[if_neg hop]at hk3
 have hcc:=Ve hc
 by_cases hc124:c=124
 ·rw[if_pos hc124]at hk3
  have hk:=hk3
  subst hc124
  have hin:=hcc.2.2 (by omega)
  simp[h1,h2,kC,hc,hq,hop,hin, -Bool.forall_bool, -Bool.exists_bool]
  exact⟨by omega,by omega,fun v=>⟨k,p'.bump,v,l++ [e],⟨hk,by simp;omega⟩,⟨rfl, .inl ⟨rfl,rfl,rfl,rfl⟩, .inl ⟨rfl,by simp⟩⟩,by omega⟩⟩
 ·rw[if_neg hc124]at hk3
  cases hk3
  have hlt:((l++ [e]).length:Int)<=9223372036854775807:=by simp;omega
  have hcc':¬c=124:=hc124
  cases l with
  | nil=>
    simp[h1,h2,kC,hc,hq,hop,hcc', -Bool.forall_bool, -Bool.exists_bool]
    exact fun v=>BW s' (by simp) hr0
  | cons x l=>
    simp[h1,h2,kC,hc,hq,hop,hcc', -Bool.forall_bool, -Bool.exists_bool]
    have hr1:=hr0
    rw[Pw (by simp)]at hr1
    exact⟨by simp at hlen;omega,by simp at hlen;omega,fun v _=>⟨fun h=>absurd h (by omega),fun _=>qal (el:=yM) (l:=x::l++ [e]) s' (by simp) (by decide) (by simp) hr1⟩⟩
end Go.Gv

namespace Go.Gv
open Go.Proofs
def fJ:CC:=by refine(fun(_:G.ap (G.gn Tryz.prog Tryz.f350 [] {})=?c)=>?c) ?h;case h=>conv=>lhs; (conv=>arg 1;reduce);dsimp only[G.ap]
def fF:List ak:=[]
theorem uP:aq Tryz.prog cS [] fJ fF 14:=ai mixed (by kernel_rfl)
def dz:CC:=by refine(fun(_:G.ap (G.gn Tryz.prog Tryz.f358 [] {})=?c)=>?c) ?h;case h=>conv=>lhs; (conv=>arg 1;reduce);dsimp only[G.ap]
def dq:List ak:=[]
theorem pa:aq Tryz.prog cD [] dz dq 148:=ai mixed (by kernel_rfl)
def cA:CC:=by refine(fun(_:G.ap (G.gn Tryz.prog Tryz.f360 [] {})=?c)=>?c) ?h;case h=>conv=>lhs; (conv=>arg 1;reduce);dsimp only[G.ap]
def cy:List ak:=[]
theorem kM:aq Tryz.prog bH [] cA cy 53:=ai mixed (by kernel_rfl)
def pn:CC:=by refine(fun(_:G.ap (G.gn Tryz.prog Tryz.f136 [] {})=?c)=>?c) ?h;case h=>conv=>lhs; (conv=>arg 1;reduce);dsimp only[G.ap]
def oL:List ak:=[.tmp 2]
theorem EK:aq Tryz.prog lp [] pn oL 8:=ai mixed (by kernel_rfl)
def lY:CC:=by refine(fun(_:G.ap (G.gn Tryz.prog Tryz.f195 [] {})=?c)=>?c) ?h;case h=>conv=>lhs; (conv=>arg 1;reduce);dsimp only[G.ap]
def lJ:List ak:=[.tmp 2]
theorem BA:aq Tryz.prog ja [] lY lJ 25:=ai mixed (by kernel_rfl)
def kW:CC:=by refine(fun(_:G.ap (G.gn Tryz.prog Tryz.f352 [] {})=?c)=>?c) ?h;case h=>conv=>lhs; (conv=>arg 1;reduce);dsimp only[G.ap]
def kL:List ak:=[.tmp 4]
theorem AH:aq Tryz.prog gJ [] kW kL 20:=ai mixed (by kernel_rfl)
def oh:CC:=by refine(fun(_:G.ap (G.gn Tryz.prog Tryz.f359 [] {})=?c)=>?c) ?h;case h=>conv=>lhs; (conv=>arg 1;reduce);dsimp only[G.ap]
def ng:List ak:=[.tmp 2]
theorem Dp:aq Tryz.prog kq [] oh ng 6:=ai mixed (by kernel_rfl)
def nJ:CC:=by refine(fun(_:G.ap (G.gn Tryz.prog Tryz.f351 [2,3] {})=?c)=>?c) ?h;case h=>conv=>lhs; (conv=>arg 1;reduce);dsimp only[G.ap]
def mK:List ak:=[.tmp 4]
theorem C6:aq Tryz.prog ct [2,3] nJ mK 10:=ai mixed (by kernel_rfl)
def qS:CC:=by refine(fun(_:G.ap (G.gn Tryz.prog Tryz.f336 [2044048] { bx:=[0] })=?c)=>?c) ?h;case h=>conv=>lhs; (conv=>arg 1;reduce);dsimp only[G.ap]
def qD:List ak:=[.tmp 2]
theorem Gm:aq Tryz.prog np [2044048] qS qD 51:=ai mixed (by kernel_rfl)
end Go.Gv

namespace Go.Gv
open Cod (enc dec)
variable {S S0:Nat->Spc}
abbrev So:Spc:=bj (a1 I32) (fun _=>True) (enc (X:=Bool)) fun _ y=>y=false
theorem Ed:ar oh ng S (a1 I32) (fun _=>True) (enc (X:=Bool)) fun _ y=>y=false:=by
 rintro x -
 simp[oh,ng, -Bool.forall_bool]
def N5(a b:Int):Int:=if a < b then -1 else if b < a then 1 else 0
abbrev SB:Spc:=bj (a2 I32 I32) (fun _=>True) (enc (X:=Int)) fun x y=>y=N5 x.1.val x.2.val
theorem A7(h1:S kq=So):ar kW kL S (a2 I32 I32) (fun _=>True) (enc (X:=Int)) fun x y=>y=N5 x.1.val x.2.val:=by
 rintro⟨⟨x⟩,⟨y⟩⟩ -
 simp[kW,kL,h1, -Bool.forall_bool, -Bool.exists_bool]
 refine⟨fun h=>by simp[N5,h],fun h=>⟨fun h2=>?_,fun h2=>?_⟩⟩
 ·have h3:¬x < y:=by omega
  simp[N5,h2,h3]
 ·have h3:¬x < y:=by omega
  have h4:¬y < x:=by omega
  simp[N5,h3,h4]
abbrev Sp:Spc:=bj (a2 Rng Rng) (fun _=>True) (enc (X:=Int)) fun x y=>y=N5 x.1.fr.val x.2.fr.val
theorem D6(h1:S gJ=SB):ar nJ mK S (a2 Rng Rng) (fun _=>True) (enc (X:=Int)) fun x y=>y=N5 x.1.fr.val x.2.fr.val:=by
 rintro⟨x,y⟩ -
 simp[nJ,mK,h1, -Bool.forall_bool, -Bool.exists_bool]
abbrev M6:Spc:=bj (a1 U64) (fun x=>0<=x.val/\x.val<=200) (enc (X:=Int)) fun _ _=>True
def qbK(x:List Rng×Int×Int×D×Unit):Prop:=Em x.1=true/\x.2.1=0/\x.2.2.1=x.1.length/\x.2.2.2.1= .clo ct []
abbrev Sv:Spc:=bj (aE (List Rng) (aE Int (aE Int (aD a0)))) qbK US fun _ _=>True
theorem CN{l:List Rng}(h:Em l=true):1<=l.length/\l.length<=2:=by
 match l,h with
 | [x],_=>exact⟨qt4 1,qvs 1⟩
 | [x,y],_=>exact⟨qvs 1,qt4 2⟩
theorem Pe:∀ {l:List Rng},Em l=true->1 < l.length->∃x y,l=[x,y]
 | [x,y],_,_=>⟨x,y,rfl⟩
 | [x],_,h=>by simp at h
theorem Ys:∀ {l:List Rng} {x:Rng},l[0]? =some x->(l.take 1).foldl rC []=[x]
 | y::l,x,h=>by cases h;rfl
theorem J9(h1:S ct=Sp):ar cA cy S (aE (List Rng) (aE Int (aE Int (aD a0)))) qbK US fun _ _=>True:=by
 rintro⟨l,a,b,d,⟨⟩⟩ ⟨hs,ha,hb,hd⟩
 simp only at hs ha hb hd
 subst ha;subst hb;subst hd
 simp[cA,cy, -Bool.forall_bool, -Bool.exists_bool]
 have hl2:=CN hs
 refine⟨by simp only[InR];omega,?_⟩
 refine av (X:=Nat) [0,1,2,3] [] (fun i=>1<=i/\i<=l.length) (fun i=>[(8,enc (i:Int))]) (fun _=>[]) (fun i=>l.length -i) 1 ⟨qt4 1,hl2.1⟩ (by simp) (by simp) ?_
 rintro i ⟨hi1,hi2⟩
 by_cases hlt:i < l.length
 ·obtain rfl:i=1:=by omega
  obtain⟨x,y,rfl⟩:=Pe hs hlt
  simp[-Bool.forall_bool, -Bool.exists_bool]
  refine av (X:=Unit) [0,1,2,3,8] [] (fun _=>True) (fun _=>[(9,enc (1:Int))]) (fun _=>[]) (fun _=>0) () trivial (by simp) (by simp) ?_
  rintro - -
  have hc:¬N5 y.fr.val x.fr.val < 0:=by
   simp[Em]at hs
   unfold N5
   rw[if_neg (by omega)]
   split <;> omega
  simp[h1,hc, -Bool.forall_bool, -Bool.exists_bool]
  exact⟨by simp only[InR];omega,fun _=>⟨by simp only[InR];omega,2,⟨by omega,by omega⟩,rfl,rfl⟩⟩
 ·obtain rfl:i=l.length:=by omega
  simp[-Bool.forall_bool, -Bool.exists_bool]
  exact cX (Y:=Unit) () (.same _) trivial
abbrev Sl:Spc:=bj (aE (List Rng) (aE Int (aE Int (aE Int (aD a0))))) (fun x=>qbK (x.1,x.2.1,x.2.2.1,x.2.2.2.2)) US fun _ _=>True
theorem J8(h1:S bH=Sv):ar dz dq S (aE (List Rng) (aE Int (aE Int (aE Int (aD a0))))) (fun x=>qbK (x.1,x.2.1,x.2.2.1,x.2.2.2.2)) US fun _ _=>True:=by
 rintro⟨l,a,b,lim,d,⟨⟩⟩ hp
 have hp':=hp
 obtain⟨hs,ha,hb,hd⟩:=hp
 simp only at hs ha hb hd hp'
 subst ha;subst hb;subst hd
 have hl2:=CN hs
 simp[dz,dq, -Bool.forall_bool, -Bool.exists_bool]
 refine av (X:=Unit) [0,1,2,3,4,10,11] [] (fun _=>True) (fun _=>[]) (fun _=>[]) (fun _=>0) () trivial (by simp) (by simp) ?_
 rintro - -
 have h12:(l.length:Int)<=12:=by omega
 have hin:InR .i64 (l.length:Int):=by simp only[InR];omega
 simp[h1,h12,hin,hp', -Bool.forall_bool, -Bool.exists_bool]
 exact cX (Y:=Unit) () (.same _) trivial
abbrev qcE:Spc:=bj (aE (List Rng) (aD a0)) (fun x=>Em x.1=true/\x.2.1= .clo ct []) US fun _ _=>True
theorem vx(h1:S lp=M6)(h2:S cD=Sl):ar fJ fF S (aE (List Rng) (aD a0)) (fun x=>Em x.1=true/\x.2.1= .clo ct []) US fun _ _=>True:=by
 rintro⟨l,d,⟨⟩⟩ ⟨hs,hd⟩
 simp only at hs hd
 subst hd
 have hl2:=CN hs
 have hp:qbK (l,0,(l.length:Int), .clo ct [],()):=⟨hs,rfl,rfl,rfl⟩
 have hw:IntKind.u64.wrap (l.length:Int)=l.length:=by rw[IntKind.wrap_u64];omega
 have h200:(l.length:Int)<=200:=by omega
 simp[fJ,fF,h1,h2,hp,hw,h200, -Bool.forall_bool, -Bool.exists_bool]
 exact fun _=>cX (Y:=Unit) () (.same _) trivial
abbrev Ih:Spc:=bj (a1 U64) (fun x=>0<=x.val/\x.val<=200) (enc (X:=Int)) fun _ _=>True
theorem RD(h1:S ja=Ih):ar pn oL S (a1 U64) (fun x=>0<=x.val/\x.val<=200) (enc (X:=Int)) fun _ _=>True:=by
 rintro⟨x⟩ ⟨h0,h2⟩
 simp only at h0 h2
 simp[pn,oL,h1,h0,h2, -Bool.forall_bool, -Bool.exists_bool]
theorem Mt:ar lY lJ S (a1 U64) (fun x=>0<=x.val/\x.val<=200) (enc (X:=Int)) fun _ _=>True:=by
 rintro⟨x⟩ ⟨h0,h2⟩
 simp only at h0 h2
 have c1:¬4294967296<=x:=by omega
 have c2:¬65536<=x:=by omega
 have c3:¬256<=x:=by omega
 have hw:IntKind.u8.wrap x=x:=by rw[IntKind.wrap_u8];omega
 simp[lY,lJ,c1,c2,c3,hw,h0, -Bool.forall_bool, -Bool.exists_bool]
 refine⟨Int.lt_of_le_of_lt h2 (by decide),fun c _=>?_⟩
 have:=c.toNat_lt
 have hw2:IntKind.i64.wrap (c.toNat:Int)=c.toNat:=by rw[IntKind.wrap_i64];omega
 rw[hw2]
 simp only[InR]
 omega
abbrev Of:Spc:=qn5 (Y:=Rng) (aD a0) (fun x=>Em x.1=true/\x.2.1= .clo ct []) US (fun _ _=>True) vC 2
abbrev H5:Spc:=qp5 (Y:=Rng) a0 (fun _ l=>Em l=true) (fun _ l r=>r=Dr l) vC 2
set_option maxHeartbeats 1000000 in
theorem Hg(h1:S cS=Of):qbs (Y:=Rng) qS qD S a0 (fun _ l=>Em l=true) (fun _ l r=>r=Dr l) vC 2:=by
 rintro v l ⟨⟩ hs
 have hs:Em l=true:=hs
 have hl2:=CN hs
 simp[qS,qD,h1,hs, -Bool.forall_bool, -Bool.exists_bool]
 intro _
 refine aj (X:=Value×List Rng) [9] [0] l.length (fun k x=>x.2=(l.take k).foldl rC []) (fun x=>[(3, .own 48 x.1)]) (fun x=>[(48, .row x.1 vC 2 (x.2.map enc))]) (.slice none 0 0, []) (by simp) (by simp) (by omega) (by simp) (by simp) rfl (by simp) (by simp[isNilRow]) ?_ ?_
 ·rintro k ⟨v',out⟩ hk hP
  simp only at hP
  have hk2:k=0\/k=1:=by omega
  rcases hk2 with rfl|rfl
  ·obtain⟨x,hx⟩:∃x,l[0]? =some x:=⟨_,qtW hk⟩
   obtain⟨_,hgx⟩:=qtV.1 hx
   have ho:out=[]:=by rw[hP];rfl
   subst ho
   have h1:=Ys hx
   simp[hk,hx,hgx,h1, -Bool.forall_bool, -Bool.exists_bool]
  ·obtain⟨x,y,rfl⟩:=Pe hs hk
   have ho:out=[x]:=by rw[hP];rfl
   subst ho
   simp[Em]at hs
   by_cases hle:y.fr.val<=x.to.val+1
   ·have hst:rC (rC [] x) y=[⟨x.fr,⟨max x.to.val y.to.val⟩⟩]:=by simp[rC,hle]
    have hr:InR .i32 (x.to.val+1):=by simp only[InR];omega
    simp[hle,hst,hr, -Bool.forall_bool, -Bool.exists_bool]
    simp only[InR];omega
   ·have hst:rC (rC [] x) y=[x,y]:=by simp[rC,hle]
    have hr:InR .i32 (x.to.val+1):=by simp only[InR];omega
    simp[hle,hst,hr, -Bool.forall_bool, -Bool.exists_bool]
    simp only[InR];omega
 ·rintro⟨v',out⟩ hP
  simp only at hP
  rw[quy]at hP
  subst hP
  simp[-Bool.forall_bool, -Bool.exists_bool]
  exact ub (Dr l) (by simp[Dr]) rfl
end Go.Gv

namespace Go.Gv
open Cod (enc dec)
variable {S S0:Nat->Spc}
theorem qa0{p:Rp}{sp:B}{q:Rp× (I32×Bool)}{c:Int}(hc:JV p=some c)(h:AW p sp=some q):q=(p.bump,⟨c⟩,true):=by
 unfold AW at h
 rw[hc,qud]at h
 split at h
 ·cases h
 ·exact(qua h).symm
theorem qc9{p:Rp}{q:Rp× (I32×Bool)}{c:Int}(hc:JV p=some c)(h:PM p ()=some q):q=(p.bump,⟨c⟩,true):=by
 unfold PM at h
 rw[hc,qud]at h
 split at h
 ·cases h
 ·exact qa0 hc h
theorem qkf{b:Nat}{post:Rp->(Rx×Bool)->Prop}{l:List Rng}{id el:Nat}{v:Value}{H:ab}(s:Rp)(h0:H 0=some (.box b (qR s)))(hi:id≠0)(h1:H id=some (.row v el 2 (l.map enc)))(hq:post s (⟨1,0,0,l, []⟩,true)):
 DY BY b post (.tup [.agg [.v (.int .i64 1), .v (.int .i64 0), .v (.int .i64 0), .own id v, .v (.slice none 0 0)], .v (.bool true)]) H:=by
 refine DG s (⟨1,0,0,l, []⟩,true) (.tup rfl fun k c c' hc hc'=>?_) h0 hq
 match k with
 | 0=>
   cases hc;cases hc'
   refine NR l [] (.row (el:=el) (by simp[hi];exact h1) rfl (fun d hd=>?_) (fun k c c' hc hc'=>?_)) (.nil _)
   ·obtain⟨x,_,rfl⟩:=qt9.1 hd
    exact⟨Cod.kn x,Cod.wid x⟩
   ·rw[hc]at hc';cases hc';exact .same _
 | 1=>cases hc;cases hc';exact .same _
 | k+2=>simp at hc
set_option maxHeartbeats 2000000 in
theorem Kf(h1:S aw=gr)(h2:S eN=Sa)(h3:S np=H5):tD iJ iC S a0 BY (fun s z=>∃r,qdZ s z=some r) (fun s z s' y=>qdZ s z=some (s',y)):=by
 rintro b s ⟨⟩ ⟨r,hr⟩
 have hr0:=hr
 obtain⟨a0,ha0,h⟩:=qtT.1 hr
 have e91:¬a0≠91:=fun e=>by rw[if_pos e]at h;cases h
 rw[if_neg e91]at h
 have hin:=(Ve ha0).2.2 (by omega)
 obtain⟨c0,hc0,h⟩:=qtT.1 h
 have n94:¬c0=94:=fun e=>by rw[if_pos e]at h;cases h
 rw[if_neg n94]at h
 obtain⟨⟨s',l'⟩,hl,h⟩:=qtT.1 h
 simp only at h
 have hsrt:Em l'=true:=by
  split at h
  ·assumption
  ·cases h
 rw[if_pos hsrt]at h
 cases h
 have hc1:JV ⟨s.s,s.pos+1,s.fault,s.e⟩=some c0:=hc0
 simp[iJ,iC,h1,kC,hin,hc1,n94, -Bool.forall_bool, -Bool.exists_bool]
 intro b2
 refine av (X:=Nat×Rp×Value×List Rng) [0,2,4,5] [2] (fun z=>qaZ z.1 z.2.1 z.2.2.2=some (s',l')/\z.2.2.2.length+z.1<=100) (fun z=>[(6, .own 86 z.2.2.1)]) (fun z=>[(0, .box b (qR z.2.1)),(86, .row z.2.2.1 vC 2 (z.2.2.2.map enc))]) (fun z=>z.1) (100,s.bump, .slice none 0 0, []) ⟨hl,by simp⟩ (by simp) (by simp[isNilRow,Rp.bump]) ?_
 clear hl
 rintro⟨k,p,v,l⟩ ⟨hk,hlen⟩
 simp only at hk hlen
 obtain _|k:=k
 ·rw[qaZ]at hk;cases hk
 rw[qaZ]at hk
 obtain⟨c,hc,hk2⟩:=qtT.1 hk
 clear hk
 have hlt:(l.length:Int)<=9223372036854775807:=by omega
 by_cases hend:l≠ []/\c=93
 ·rw[if_pos hend]at hk2
  cases hk2
  obtain⟨hne,rfl⟩:=hend
  have hin2:=(Ve hc).2.2 (by omega)
  have hl0:¬l'.length=0:=fun e=>hne (quA.1 e)
  simp(config:={ maxSteps:=2000000 }) [h1,h3,kC,hc,hlt,hne,hl0,hin2,hsrt, -Bool.forall_bool, -Bool.exists_bool]
  exact fun v'=>qkf (el:=vC) s'.bump (by simp[Rp.bump]) (by decide) (by simp) hr0
 ·rw[if_neg hend]at hk2
  obtain⟨q,hq,hk3⟩:=qtT.1 hk2
  clear hk2
  obtain⟨d,hd,hk4⟩:=qtT.1 hk3
  clear hk3
  have hqv:=qc9 hc hq
  subst hqv
  simp only at hd hk4
  have n45:¬d=45:=fun e=>by rw[if_pos e]at hk4;cases hk4
  rw[if_neg n45]at hk4
  have hd':JV ⟨p.s,p.pos+1,p.fault,p.e⟩=some d:=hd
  cases l with
  | nil=>
    simp(config:={ maxSteps:=2000000 }) [h1,h2,kC,hq,hd',n45,Rp.bump, -Bool.forall_bool, -Bool.exists_bool]
    exact fun v=>⟨k,p.bump,v, [⟨⟨c⟩,⟨c⟩⟩],⟨hk4,by simp at hlen ⊢;omega⟩,⟨rfl, .inl ⟨rfl,rfl,rfl,rfl⟩, .inl ⟨rfl,by simp⟩⟩,by omega⟩
  | cons x l=>
    have n93:¬c=93:=fun e=>hend ⟨by simp,e⟩
    simp(config:={ maxSteps:=2000000 }) [h1,h2,kC,hc,hq,hd',n45,n93,Rp.bump, -Bool.forall_bool, -Bool.exists_bool]
    have hlen2:l.length+1+ (k+1)<=100:=by simpa using hlen
    first
     | exact fun _ _=>⟨by omega,by omega,fun v=>⟨k,p.bump,v,x::l++ [⟨⟨c⟩,⟨c⟩⟩],⟨hk4,by simp;omega⟩,⟨rfl, .inl ⟨rfl,rfl,rfl,rfl⟩, .inl ⟨rfl,by simp⟩⟩,by omega⟩⟩
     | exact⟨by omega,by omega,by omega,fun v=>⟨k,p.bump,v,x::l++ [⟨⟨c⟩,⟨c⟩⟩],⟨hk4,by simp;omega⟩,⟨rfl, .inl ⟨rfl,rfl,rfl,rfl⟩, .inl ⟨rfl,by simp⟩⟩,by omega⟩⟩
     | exact⟨by omega,by omega,fun v=>⟨k,p.bump,v,x::l++ [⟨⟨c⟩,⟨c⟩⟩],⟨hk4,by simp;omega⟩,⟨rfl, .inl ⟨rfl,rfl,rfl,rfl⟩, .inl ⟨rfl,by simp⟩⟩,by omega⟩⟩
     | (refine fun _=>⟨fun _=>?_,fun _=>?_⟩ <;> exact⟨by omega,by omega,fun v=>⟨k,p.bump,v,x::l++ [⟨⟨c⟩,⟨c⟩⟩],⟨hk4,by simp;omega⟩,⟨rfl, .inl ⟨rfl,rfl,rfl,rfl⟩, .inl ⟨rfl,by simp⟩⟩,by omega⟩⟩)
end Go.Gv

namespace Go.Gv
open Cod (enc dec)
def qoU(F:Rx->Int->Int->Option (Bool×Int)):PT:=fun d ds H K=>∃id b x n k r d0,ds=[d0, .v (.int .i64 n), .bptr id b 0]/\dec d0=some x/\H id=some (.box b [.v (.int .i64 k)])/\F x n k=some r/\K (.v (.bool r.1)) (ah H id (some (.box b [.v (.int .i64 r.2)])))
theorem qcB(F:Rx->Int->Int->Option (Bool×Int)):pD (qoU F):=fun d ds H K K' hk ⟨id,b,x,n,k,r,d0,h1,h2,h3,h4,h5⟩=>⟨id,b,x,n,k,r,d0,h1,h2,h3,h4,hk _ _ h5⟩
def qey(F:Rx->Int->Int->Option (Bool×Int)):Spc:= .gen _ (qcB F)
def qlM(F:Rx->Int->Int->Option (Bool×Int))(o:Option Rx)(n:Int)(id b:Nat)(q:Option Res)(H:ab)(K:D->ab->Prop):Prop:=
 ∃k,q=some (.box b [.v (.int .i64 k)])/\dK o fun x=>dK (F x n k) fun r=>K (.v (.bool r.1)) (ah H id (some (.box b [.v (.int .i64 r.2)])))
@[congr] theorem qoT{F:Rx->Int->Int->Option (Bool×Int)}{o o':Option Rx}{n n':Int}{id b:Nat}{q q':Option Res}{H:ab}{K:D->ab->Prop}(h1:o=o')(h2:n=n')(h3:q=q'):qlM F o n id b q H K=qlM F o' n' id b q' H K:=by subst h1;subst h2;subst h3;rfl
@[simp] theorem qoV(F:Rx->Int->Int->Option (Bool×Int))(d id b:Nat)(d0:D)(n:Int)(H:ab)(K:D->ab->Prop):(qey F).pt d [d0, .v (.int .i64 n), .bptr id b 0] H K=qlM F (dec d0) n id b (H id) H K:=by
 refine propext ⟨fun h=>?_,fun h=>?_⟩
 ·obtain⟨id',b',x,n',k,r,d0',h1,h2,h3,h4,h5⟩:=h
  cases h1
  refine⟨k,h3,?_⟩
  rw[h2]
  show dK (F x n k) _
  rw[h4]
  exact h5
 ·obtain⟨k,h1,h2⟩:=h
  cases hx:dec (X:=Rx) d0 with
  | none=>rw[hx]at h2;exact h2.elim
  | some x=>
    rw[hx]at h2
    have h2:dK (F x n k) _:=h2
    cases hr:F x n k with
    | none=>rw[hr]at h2;exact h2.elim
    | some r=>rw[hr]at h2;exact⟨id,b,x,n,k,r,d0,rfl,hx,h1,hr,h2⟩
@[simp] theorem qr0(F:Rx->Int->Int->Option (Bool×Int))(o:Option Rx)(n:Int)(id b:Nat)(k:Int)(H:ab)(K:D->ab->Prop):
 qlM F o n id b (some (.box b [.v (.int .i64 k)])) H K=dK o fun x=>dK (F x n k) fun r=>K (.v (.bool r.1)) (ah H id (some (.box b [.v (.int .i64 r.2)]))):=by
 refine propext ⟨fun⟨k',h1,h2⟩=>?_,fun h=>⟨k,rfl,h⟩⟩
 cases h1
 exact h2
def qlg(b:Nat)(q:Bool×Int)(r:D)(H:ab):Prop:=r= .v (.bool q.1)/\H 2=some (.box b [.v (.int .i64 q.2)])
def qbq(cc:CC)(rs:List ak)(S:Nat->Spc)(F:Rx->Int->Int->Option (Bool×Int)):Prop:=
 ∀b x n k q,F x n k=some q->vc S cc (sR rs fun r H'=>qlg b q r H') (dj [enc x, .v (.int .i64 n), .bptr 2 b 0]) (ah bY 2 (some (.box b [.v (.int .i64 k)])))
variable {P:Program}{S:Nat->Spc}{f:Nat}{im:List Nat}{cc:CC}{rs:List ak}{N:Nat}
theorem RK{F:Rx->Int->Int->Option (Bool×Int)}(hS:∀f,Tri P f (S f).pt)(h:aq P f im cc rs N)(hN:3<=N)(hw:qbq cc rs S F):Tri P f (qey F).pt:=by
 obtain⟨uV,enter,fn,code,h1,h2,h3,h4,h5⟩:=h
 refine mr hS uV h1 h2 enter h3 h4 h5 ?_
 rintro ds H d K ⟨id,b,x,n,k,r,d0,rfl,hd,hid,hF,hK⟩
 have h0:∀i q,ah bY 2 (some (.box b [.v (.int .i64 k)])) i=some q->i=2/\q= .box b [.v (.int .i64 k)]:=by
  intro i q h
  by_cases e:i=2
  ·subst e
   simp only[ah,if_true]at h
   cases h
   exact⟨rfl,rfl⟩
  ·simp[ah,e,bY]at h
 refine⟨hN, [enc x, .v (.int .i64 n), .bptr 2 b 0],ah bY 2 (some (.box b [.v (.int .i64 k)])),fun i=>if i=2 then id else i, .cons (Cod.le _ _ hd) (.cons (.same _) (.cons (.bptr _ _ _ _) .nil)),fun i q h=>?_,fun i j q q' h h' e=>?_,_,hw b x n k r hF,?_⟩
 ·obtain⟨rfl,rfl⟩:=h0 i q h
  exact hid
 ·exact(h0 i q h).1.trans (h0 j q' h').1.symm
 ·rintro r' H' ⟨rfl,k2⟩
  refine⟨.v (.bool r.1),bY,ah H id (some (.box b [.v (.int .i64 r.2)])),fun i=>if i=id then some 2 else none, .same _,fun j q h=>by simp[bY]at h,hK,fun i s hi=>?_,fun i j k' s q hi hj e1 e2=>?_⟩
  ·by_cases e:i=id
   ·subst e
    simp only[ah,if_true]at hi ⊢
    cases hi
    exact k2
   ·simp only[ah,e,if_false]at hi ⊢
    refine⟨hi,fun k'' q h he=>?_⟩
    obtain⟨rfl,rfl⟩:=h0 k'' q h
    exact e he.symm
  ·by_cases c1:i=id
   ·by_cases c2:j=id
    ·exact c1.trans c2.symm
    ·simp[c2]at e2
   ·simp[c1]at e1
end Go.Gv

namespace Go.Gv
open Go.Proofs
def jD:CC:=by refine(fun(_:G.ap (G.gn Tryz.prog Tryz.f277 [3] { bx:=[2],ke:=[2] })=?c)=>?c) ?h;case h=>conv=>lhs; (conv=>arg 1;reduce);dsimp only[G.ap]
def jn:List ak:=[.tmp 6]
theorem Iy:aq Tryz.prog il [3] jD jn 36:=ai mixed (by kernel_rfl)
def nI:CC:=by refine(fun(_:G.ap (G.gn Tryz.prog Tryz.f316 [] {})=?c)=>?c) ?h;case h=>conv=>lhs; (conv=>arg 1;reduce);dsimp only[G.ap]
def mJ:List ak:=[.tmp 2]
theorem C5:aq Tryz.prog jS [] nI mJ 47:=ai mixed (by kernel_rfl)
def dB:CC:=by refine(fun(_:G.ap (G.gn Tryz.prog Tryz.f300 [1] {})=?c)=>?c) ?h;case h=>conv=>lhs; (conv=>arg 1;reduce);dsimp only[G.ap]
def dt:List ak:=[.tmp 2]
theorem Bm:aq Tryz.prog iR [1] dB dt 101:=ai mixed (by kernel_rfl)
def kO:CC:=by refine(fun(_:G.ap (G.gn Tryz.prog Tryz.f278 [1] {})=?c)=>?c) ?h;case h=>conv=>lhs; (conv=>arg 1;reduce);dsimp only[G.ap]
def kF:List ak:=[.tmp 2]
theorem AB:aq Tryz.prog dx [1] kO kF 19:=ai mixed (by kernel_rfl)
def gN:CC:=by refine(fun(_:G.ap (G.gn Tryz.prog Tryz.f279 [1] {})=?c)=>?c) ?h;case h=>conv=>lhs; (conv=>arg 1;reduce);dsimp only[G.ap]
def gw:List ak:=[.tmp 2]
theorem Bn:aq Tryz.prog dU [1] gN gw 42:=ai mixed (by kernel_rfl)
def nL:CC:=by refine(fun(_:G.ap (G.gn Tryz.prog Tryz.f257 [1] {})=?c)=>?c) ?h;case h=>conv=>lhs; (conv=>arg 1;reduce);dsimp only[G.ap]
def mM:List ak:=[.tmp 2]
theorem C8:aq Tryz.prog eq [1] nL mM 16:=ai mixed (by kernel_rfl)
end Go.Gv
