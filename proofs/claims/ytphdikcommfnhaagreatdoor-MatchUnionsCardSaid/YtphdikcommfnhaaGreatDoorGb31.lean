/- A part of the framework and of the walks: W132 C52 W133 W134 T32 C53. -/
import Derived.Test.YtphdikcommfnhaaGreatDoorGb30
import Derived.Test.YtphdikcommfnhaaGreatDoorGb20
set_option linter.unusedSimpArgs false
set_option linter.unusedVariables false
set_option maxRecDepth 100000
set_option maxHeartbeats 0
set_option linter.unusedSectionVars false

namespace Go.Gv
open Cod (enc dec)
variable {S S0:Nat->Spc}
theorem qe3{p:Rp}{q:Rp× (Rx×Bool)}(h:X5 p ()=some q):q.2.2=true:=by
 obtain⟨a,_,h⟩:=qsR.1 h
 split at h
 ·obtain⟨c,_,h⟩:=qsR.1 h
  split at h
  ·cases h
  ·split at h
   ·obtain⟨d,_,h⟩:=qsR.1 h
    split at h
    ·cases h
    ·cases h;rfl
   ·cases h;rfl
 ·cases h
theorem OS{op:Int}{l:List Rx}(h:l.length≠1):Sc op l=⟨op,0,0, [],l⟩:=by
 match l,h with
 | [],_=>rfl
 | [e],h=>exact absurd rfl h
 | _::_::_,_=>rfl
theorem Zs{b:Nat}{post:Rp->(Rx×Bool)->Prop}{op:Int}{l:List Rx}{id el:Nat}{v:Value}{H:ab}(s:Rp)(h0:H 0=some (.box b (qA s)))(hi:id≠0)(h1:H id=some (.row v el 5 (l.map enc)))(hq:post s (⟨op,0,0, [],l⟩,true)):
 DH BG b post (.tup [.agg [.v (.int .i64 op), .v (.int .i64 0), .v (.int .i64 0), .v (.slice none 0 0), .own id v], .v (.bool true)]) H:=by
 refine Dn s (⟨op,0,0, [],l⟩,true) (.tup rfl fun k c c' hc hc'=>?_) h0 hq
 match k with
 | 0=>
   cases hc;cases hc'
   refine Ne [] l (.nil _) (.row (el:=el) (by simp[hi];exact h1) rfl (fun d hd=>?_) (fun k c c' hc hc'=>?_))
   ·obtain⟨x,_,rfl⟩:=qs7.1 hd
    exact⟨Cod.kn x,Cod.wid x⟩
   ·rw[hc]at hc';cases hc';exact .same _
 | 1=>cases hc;cases hc';exact .same _
 | k+2=>simp at hc
abbrev Ru:Spc:=WV a0 BG Z6
set_option maxHeartbeats 2000000 in
theorem GO(h1:S aw=gj)(h2:S eM=Rq):th gL gq S a0 BG (fun s z=>∃r,Z6 s z=some r) (fun s z s' y=>Z6 s z=some (s',y)):=by
 rintro b s ⟨⟩ ⟨r,hr⟩
 have hr0:=hr
 obtain⟨⟨s',l'⟩,hl,hr⟩:=qs4.1 hr
 simp only at hr
 subst hr
 obtain⟨c0,hc0⟩:∃c,Jo s=some c:=by
  rw[Qf]at hl
  obtain⟨c,hc,_⟩:=qsR.1 hl
  exact⟨c,hc⟩
 simp[gL,gq,h1,km,hc0, -Bool.forall_bool, -Bool.exists_bool]
 intro b2
 refine av (X:=Nat×Rp×Value×List Rx×Int) [0,2] [2] (fun z=>Qf z.1 z.2.1 z.2.2.2.1=some (s',l')/\z.2.2.2.1.length+z.1<=100/\Jo z.2.1=some z.2.2.2.2) (fun z=>[(4, .own 36 z.2.2.1),(5, .v (.int .i32 z.2.2.2.2))]) (fun z=>[(0, .box b (qA z.2.1)),(36, .row z.2.2.1 yp 5 (z.2.2.2.1.map enc))]) (fun z=>z.1) (100,s, .slice none 0 0, [],c0) ⟨hl,by simp,hc0⟩ (by simp) (by simp[isNilRow]) ?_
 clear hl
 rintro⟨k,p,v,l,c⟩ ⟨hk,hlen,hc⟩
 simp only at hk hlen hc
 obtain _|k:=k
 ·rw[Qf]at hk;cases hk
 rw[Qf,hc]at hk
 simp only[qtb]at hk
 split at hk
 ·rename_i hend
  cases hk
  have hlt:(l'.length:Int)<=9223372036854775807:=by omega
  by_cases hl1:l'.length=1
  ·obtain⟨e,rfl⟩:∃e,l'=[e]:=qug.1 hl1
   rcases hend with h|rfl|rfl
   ·have h':¬0<=c:=by omega
    simp[h', -Bool.forall_bool, -Bool.exists_bool]
    exact BE s' (by simp) hr0
   all_goals
    simp[-Bool.forall_bool, -Bool.exists_bool]
    exact BE s' (by simp) hr0
  ·rw[OS hl1]at hr0
   have hl1':¬ (l'.length:Int)=1:=by omega
   rcases hend with h|rfl|rfl
   ·have h':¬0<=c:=by omega
    simp[h',hl1,hl1',hlt, -Bool.forall_bool, -Bool.exists_bool]
    exact Zs (el:=yp) s' (by simp) (by decide) (by simp) hr0
   all_goals
    simp[hl1,hl1',hlt, -Bool.forall_bool, -Bool.exists_bool]
    exact Zs (el:=yp) s' (by simp) (by decide) (by simp) hr0
 ·rename_i hgo
  obtain⟨q,hq,hk⟩:=qsR.1 hk
  split at hk
  ·cases hk
  rename_i hop
  have hok:=qe3 hq
  obtain⟨p',e,ok⟩:=q
  simp only at hk hok hop
  subst hok
  have n1:0<=c:=by omega
  have n2:c≠124:=by omega
  have n3:c≠41:=by omega
  obtain⟨c1,hc1⟩:∃c,Jo p'=some c:=by
   obtain _|k:=k
   ·rw[Qf]at hk;cases hk
   rw[Qf]at hk
   obtain⟨c,hc,_⟩:=qsR.1 hk
   exact⟨c,hc⟩
  simp[h1,h2,km,hc1,hq,n1,n2,n3,hop, -Bool.forall_bool, -Bool.exists_bool]
  exact⟨by omega,by omega,fun v=>⟨k,p',v,l++ [e],c1,⟨hk,by simp;omega,hc1⟩,⟨⟨rfl,rfl⟩, .inl ⟨rfl,rfl,rfl,rfl⟩, .inl ⟨rfl,by simp⟩⟩,by omega⟩⟩
theorem qgh{p:Rp}{q:Rp× (Rx×Bool)}(h:Z6 p ()=some q):q.2.2=true:=by
 obtain⟨a,_,rfl⟩:=qs4.1 h
 rfl
abbrev Ro:Spc:=WV a0 BG qbu
set_option maxHeartbeats 2000000 in
theorem JE(h1:S aw=gj)(h2:S eO=Ru):th iy ip S a0 BG (fun s z=>∃r,qbu s z=some r) (fun s z s' y=>qbu s z=some (s',y)):=by
 rintro b s ⟨⟩ ⟨r,hr⟩
 have hr0:=hr
 obtain⟨⟨s',l'⟩,hl,hr⟩:=qs4.1 hr
 simp only at hr
 subst hr
 simp[iy,ip, -Bool.forall_bool, -Bool.exists_bool]
 intro b2
 refine av (X:=Nat×Rp×Value×List Rx) [0,2] [2] (fun z=>Xr z.1 z.2.1 z.2.2.2=some (s',l')/\z.2.2.2.length+z.1<=100) (fun z=>[(4, .own 25 z.2.2.1)]) (fun z=>[(0, .box b (qA z.2.1)),(25, .row z.2.2.1 yp 5 (z.2.2.2.map enc))]) (fun z=>z.1) (100,s, .slice none 0 0, []) ⟨hl,by simp⟩ (by simp) (by simp[isNilRow]) ?_
 clear hl
 rintro⟨k,p,v,l⟩ ⟨hk,hlen⟩
 simp only at hk hlen
 obtain _|k:=k
 ·rw[Xr]at hk;cases hk
 rw[Xr]at hk
 obtain⟨⟨p',e,ok⟩,hq,hk2⟩:=qsR.1 hk
 clear hk
 obtain⟨c,hc,hk3⟩:=qsR.1 hk2
 clear hk2
 have hok:=qgh hq
 simp only at hok hc hk3
 subst hok
 have hop:¬e.op=3:=fun h=>by rw[if_pos h]at hk3;cases hk3
 rw[if_neg hop]at hk3
 have hcc:=Us hc
 by_cases hc124:c=124
 ·rw[if_pos hc124]at hk3
  have hk:=hk3
  subst hc124
  have hin:=hcc.2.2 (by omega)
  simp[h1,h2,km,hc,hq,hop,hin, -Bool.forall_bool, -Bool.exists_bool]
  exact⟨by omega,by omega,fun v=>⟨k,p'.bump,v,l++ [e],⟨hk,by simp;omega⟩,⟨rfl, .inl ⟨rfl,rfl,rfl,rfl⟩, .inl ⟨rfl,by simp⟩⟩,by omega⟩⟩
 ·rw[if_neg hc124]at hk3
  cases hk3
  have hlt:((l++ [e]).length:Int)<=9223372036854775807:=by simp;omega
  have hcc':¬c=124:=hc124
  cases l with
  | nil=>
    simp[h1,h2,km,hc,hq,hop,hcc', -Bool.forall_bool, -Bool.exists_bool]
    exact fun v=>BE s' (by simp) hr0
  | cons x l=>
    simp[h1,h2,km,hc,hq,hop,hcc', -Bool.forall_bool, -Bool.exists_bool]
    have hr1:=hr0
    rw[OS (by simp)]at hr1
    exact⟨by simp at hlen;omega,by simp at hlen;omega,fun v _=>⟨fun h=>absurd h (by omega),fun _=>Zs (el:=yp) (l:=x::l++ [e]) s' (by simp) (by decide) (by simp) hr1⟩⟩
end Go.Gv

namespace Go.Gv
open Go.Proofs
def fI:CC:=by refine(fun(_:G.ap (G.gn Tryz.prog Tryz.f350 [] {})=?c)=>?c) ?h;case h=>conv=>lhs; (conv=>arg 1;reduce);dsimp only[G.ap]
def fE:List aj:=[]
theorem uu:aq Tryz.prog cQ [] fI fE 14:=ai mixed (by kernel_rfl)
def dx:CC:=by refine(fun(_:G.ap (G.gn Tryz.prog Tryz.f358 [] {})=?c)=>?c) ?h;case h=>conv=>lhs; (conv=>arg 1;reduce);dsimp only[G.ap]
def dm:List aj:=[]
theorem ow:aq Tryz.prog cy [] dx dm 148:=ai mixed (by kernel_rfl)
def cw:CC:=by refine(fun(_:G.ap (G.gn Tryz.prog Tryz.f360 [] {})=?c)=>?c) ?h;case h=>conv=>lhs; (conv=>arg 1;reduce);dsimp only[G.ap]
def ct:List aj:=[]
theorem kF:aq Tryz.prog bF [] cw ct 53:=ai mixed (by kernel_rfl)
def oR:CC:=by refine(fun(_:G.ap (G.gn Tryz.prog Tryz.f136 [] {})=?c)=>?c) ?h;case h=>conv=>lhs; (conv=>arg 1;reduce);dsimp only[G.ap]
def oh:List aj:=[.tmp 2]
theorem Ep:aq Tryz.prog kZ [] oR oh 8:=ai mixed (by kernel_rfl)
def lO:CC:=by refine(fun(_:G.ap (G.gn Tryz.prog Tryz.f195 [] {})=?c)=>?c) ?h;case h=>conv=>lhs; (conv=>arg 1;reduce);dsimp only[G.ap]
def lA:List aj:=[.tmp 2]
theorem Be:aq Tryz.prog iQ [] lO lA 25:=ai mixed (by kernel_rfl)
def kN:CC:=by refine(fun(_:G.ap (G.gn Tryz.prog Tryz.f352 [] {})=?c)=>?c) ?h;case h=>conv=>lhs; (conv=>arg 1;reduce);dsimp only[G.ap]
def kE:List aj:=[.tmp 4]
theorem An:aq Tryz.prog gE [] kN kE 20:=ai mixed (by kernel_rfl)
def nR:CC:=by refine(fun(_:G.ap (G.gn Tryz.prog Tryz.f359 [] {})=?c)=>?c) ?h;case h=>conv=>lhs; (conv=>arg 1;reduce);dsimp only[G.ap]
def mU:List aj:=[.tmp 2]
theorem C6:aq Tryz.prog jX [] nR mU 6:=ai mixed (by kernel_rfl)
def nw:CC:=by refine(fun(_:G.ap (G.gn Tryz.prog Tryz.f351 [2,3] {})=?c)=>?c) ?h;case h=>conv=>lhs; (conv=>arg 1;reduce);dsimp only[G.ap]
def mA:List aj:=[.tmp 4]
theorem CJ:aq Tryz.prog cm [2,3] nw mA 10:=ai mixed (by kernel_rfl)
def qB:CC:=by refine(fun(_:G.ap (G.gn Tryz.prog Tryz.f336 [2044048] { bx:=[0] })=?c)=>?c) ?h;case h=>conv=>lhs; (conv=>arg 1;reduce);dsimp only[G.ap]
def qh:List aj:=[.tmp 2]
theorem FZ:aq Tryz.prog nb [2044048] qB qh 51:=ai mixed (by kernel_rfl)
end Go.Gv

namespace Go.Gv
open Cod (enc dec)
variable {S S0:Nat->Spc}
abbrev RI:Spc:=bp (a1 I32) (fun _=>True) (enc (X:=Bool)) fun _ y=>y=false
theorem DV:ar nR mU S (a1 I32) (fun _=>True) (enc (X:=Bool)) fun _ y=>y=false:=by
 rintro x -
 simp[nR,mU, -Bool.forall_bool]
def Nu(a b:Int):Int:=if a < b then -1 else if b < a then 1 else 0
abbrev RU:Spc:=bp (a2 I32 I32) (fun _=>True) (enc (X:=Int)) fun x y=>y=Nu x.1.val x.2.val
theorem AO(h1:S jX=RI):ar kN kE S (a2 I32 I32) (fun _=>True) (enc (X:=Int)) fun x y=>y=Nu x.1.val x.2.val:=by
 rintro⟨⟨x⟩,⟨y⟩⟩ -
 simp[kN,kE,h1, -Bool.forall_bool, -Bool.exists_bool]
 refine⟨fun h=>by simp[Nu,h],fun h=>⟨fun h2=>?_,fun h2=>?_⟩⟩
 ·have h3:¬x < y:=by omega
  simp[Nu,h2,h3]
 ·have h3:¬x < y:=by omega
  have h4:¬y < x:=by omega
  simp[Nu,h3,h4]
abbrev RJ:Spc:=bp (a2 Rng Rng) (fun _=>True) (enc (X:=Int)) fun x y=>y=Nu x.1.fr.val x.2.fr.val
theorem DO(h1:S gE=RU):ar nw mA S (a2 Rng Rng) (fun _=>True) (enc (X:=Int)) fun x y=>y=Nu x.1.fr.val x.2.fr.val:=by
 rintro⟨x,y⟩ -
 simp[nw,mA,h1, -Bool.forall_bool, -Bool.exists_bool]
abbrev Mv:Spc:=bp (a1 U64) (fun x=>0<=x.val/\x.val<=200) (enc (X:=Int)) fun _ _=>True
def qaO(x:List Rng×Int×Int×D×Unit):Prop:=D4 x.1=true/\x.2.1=0/\x.2.2.1=x.1.length/\x.2.2.2.1= .clo cm []
abbrev RO:Spc:=bp (aE (List Rng) (aE Int (aE Int (aD a0)))) qaO TY fun _ _=>True
theorem Ct{l:List Rng}(h:D4 l=true):1<=l.length/\l.length<=2:=by
 match l,h with
 | [x],_=>exact⟨qs2 1,qur 1⟩
 | [x,y],_=>exact⟨qur 1,qs2 2⟩
theorem Oz:∀ {l:List Rng},D4 l=true->1 < l.length->∃x y,l=[x,y]
 | [x,y],_,_=>⟨x,y,rfl⟩
 | [x],_,h=>by simp at h
theorem Xz:∀ {l:List Rng} {x:Rng},l[0]? =some x->(l.take 1).foldl rc []=[x]
 | y::l,x,h=>by cases h;rfl
theorem JD(h1:S cm=RJ):ar cw ct S (aE (List Rng) (aE Int (aE Int (aD a0)))) qaO TY fun _ _=>True:=by
 rintro⟨l,a,b,d,⟨⟩⟩ ⟨hs,ha,hb,hd⟩
 simp only at hs ha hb hd
 subst ha;subst hb;subst hd
 simp[cw,ct, -Bool.forall_bool, -Bool.exists_bool]
 have hl2:=Ct hs
 refine⟨by simp only[InR];omega,?_⟩
 refine av (X:=Nat) [0,1,2,3] [] (fun i=>1<=i/\i<=l.length) (fun i=>[(8,enc (i:Int))]) (fun _=>[]) (fun i=>l.length -i) 1 ⟨qs2 1,hl2.1⟩ (by simp) (by simp) ?_
 rintro i ⟨hi1,hi2⟩
 by_cases hlt:i < l.length
 ·obtain rfl:i=1:=by omega
  obtain⟨x,y,rfl⟩:=Oz hs hlt
  simp[-Bool.forall_bool, -Bool.exists_bool]
  refine av (X:=Unit) [0,1,2,3,8] [] (fun _=>True) (fun _=>[(9,enc (1:Int))]) (fun _=>[]) (fun _=>0) () trivial (by simp) (by simp) ?_
  rintro - -
  have hc:¬Nu y.fr.val x.fr.val < 0:=by
   simp[D4]at hs
   unfold Nu
   rw[if_neg (by omega)]
   split <;> omega
  simp[h1,hc, -Bool.forall_bool, -Bool.exists_bool]
  exact⟨by simp only[InR];omega,fun _=>⟨by simp only[InR];omega,2,⟨by omega,by omega⟩,rfl,rfl⟩⟩
 ·obtain rfl:i=l.length:=by omega
  simp[-Bool.forall_bool, -Bool.exists_bool]
  exact cV (Y:=Unit) () (.same _) trivial
abbrev RE:Spc:=bp (aE (List Rng) (aE Int (aE Int (aE Int (aD a0))))) (fun x=>qaO (x.1,x.2.1,x.2.2.1,x.2.2.2.2)) TY fun _ _=>True
theorem JC(h1:S bF=RO):ar dx dm S (aE (List Rng) (aE Int (aE Int (aE Int (aD a0))))) (fun x=>qaO (x.1,x.2.1,x.2.2.1,x.2.2.2.2)) TY fun _ _=>True:=by
 rintro⟨l,a,b,lim,d,⟨⟩⟩ hp
 have hp':=hp
 obtain⟨hs,ha,hb,hd⟩:=hp
 simp only at hs ha hb hd hp'
 subst ha;subst hb;subst hd
 have hl2:=Ct hs
 simp[dx,dm, -Bool.forall_bool, -Bool.exists_bool]
 refine av (X:=Unit) [0,1,2,3,4,10,11] [] (fun _=>True) (fun _=>[]) (fun _=>[]) (fun _=>0) () trivial (by simp) (by simp) ?_
 rintro - -
 have h12:(l.length:Int)<=12:=by omega
 have hin:InR .i64 (l.length:Int):=by simp only[InR];omega
 simp[h1,h12,hin,hp', -Bool.forall_bool, -Bool.exists_bool]
 exact cV (Y:=Unit) () (.same _) trivial
abbrev qbH:Spc:=bp (aE (List Rng) (aD a0)) (fun x=>D4 x.1=true/\x.2.1= .clo cm []) TY fun _ _=>True
theorem uV(h1:S kZ=Mv)(h2:S cy=RE):ar fI fE S (aE (List Rng) (aD a0)) (fun x=>D4 x.1=true/\x.2.1= .clo cm []) TY fun _ _=>True:=by
 rintro⟨l,d,⟨⟩⟩ ⟨hs,hd⟩
 simp only at hs hd
 subst hd
 have hl2:=Ct hs
 have hp:qaO (l,0,(l.length:Int), .clo cm [],()):=⟨hs,rfl,rfl,rfl⟩
 have hw:IntKind.u64.wrap (l.length:Int)=l.length:=by rw[IntKind.wrap_u64];omega
 have h200:(l.length:Int)<=200:=by omega
 simp[fI,fE,h1,h2,hp,hw,h200, -Bool.forall_bool, -Bool.exists_bool]
 exact fun _=>cV (Y:=Unit) () (.same _) trivial
abbrev HK:Spc:=bp (a1 U64) (fun x=>0<=x.val/\x.val<=200) (enc (X:=Int)) fun _ _=>True
theorem QW(h1:S iQ=HK):ar oR oh S (a1 U64) (fun x=>0<=x.val/\x.val<=200) (enc (X:=Int)) fun _ _=>True:=by
 rintro⟨x⟩ ⟨h0,h2⟩
 simp only at h0 h2
 simp[oR,oh,h1,h0,h2, -Bool.forall_bool, -Bool.exists_bool]
theorem LT:ar lO lA S (a1 U64) (fun x=>0<=x.val/\x.val<=200) (enc (X:=Int)) fun _ _=>True:=by
 rintro⟨x⟩ ⟨h0,h2⟩
 simp only at h0 h2
 have c1:¬4294967296<=x:=by omega
 have c2:¬65536<=x:=by omega
 have c3:¬256<=x:=by omega
 have hw:IntKind.u8.wrap x=x:=by rw[IntKind.wrap_u8];omega
 simp[lO,lA,c1,c2,c3,hw,h0, -Bool.forall_bool, -Bool.exists_bool]
 refine⟨Int.lt_of_le_of_lt h2 (by decide),fun c _=>?_⟩
 have:=c.toNat_lt
 have hw2:IntKind.i64.wrap (c.toNat:Int)=c.toNat:=by rw[IntKind.wrap_i64];omega
 rw[hw2]
 simp only[InR]
 omega
abbrev NE:Spc:=qm4 (Y:=Rng) (aD a0) (fun x=>D4 x.1=true/\x.2.1= .clo cm []) TY (fun _ _=>True) vd 2
abbrev Hy:Spc:=qo3 (Y:=Rng) a0 (fun _ l=>D4 l=true) (fun _ l r=>r=C8 l) vd 2
set_option maxHeartbeats 1000000 in
theorem GM(h1:S cQ=NE):qaw (Y:=Rng) qB qh S a0 (fun _ l=>D4 l=true) (fun _ l r=>r=C8 l) vd 2:=by
 rintro v l ⟨⟩ hs
 have hs:D4 l=true:=hs
 have hl2:=Ct hs
 simp[qB,qh,h1,hs, -Bool.forall_bool, -Bool.exists_bool]
 intro _
 refine ak (X:=Value×List Rng) [9] [0] l.length (fun k x=>x.2=(l.take k).foldl rc []) (fun x=>[(3, .own 48 x.1)]) (fun x=>[(48, .row x.1 vd 2 (x.2.map enc))]) (.slice none 0 0, []) (by simp) (by simp) (by omega) (by simp) (by simp) rfl (by simp) (by simp[isNilRow]) ?_ ?_
 ·rintro k ⟨v',out⟩ hk hP
  simp only at hP
  have hk2:k=0\/k=1:=by omega
  rcases hk2 with rfl|rfl
  ·obtain⟨x,hx⟩:∃x,l[0]? =some x:=⟨_,qsU hk⟩
   obtain⟨_,hgx⟩:=qsT.1 hx
   have ho:out=[]:=by rw[hP];rfl
   subst ho
   have h1:=Xz hx
   simp[hk,hx,hgx,h1, -Bool.forall_bool, -Bool.exists_bool]
  ·obtain⟨x,y,rfl⟩:=Oz hs hk
   have ho:out=[x]:=by rw[hP];rfl
   subst ho
   simp[D4]at hs
   by_cases hle:y.fr.val<=x.to.val+1
   ·have hst:rc (rc [] x) y=[⟨x.fr,⟨max x.to.val y.to.val⟩⟩]:=by simp[rc,hle]
    have hr:InR .i32 (x.to.val+1):=by simp only[InR];omega
    simp[hle,hst,hr, -Bool.forall_bool, -Bool.exists_bool]
    simp only[InR];omega
   ·have hst:rc (rc [] x) y=[x,y]:=by simp[rc,hle]
    have hr:InR .i32 (x.to.val+1):=by simp only[InR];omega
    simp[hle,hst,hr, -Bool.forall_bool, -Bool.exists_bool]
    simp only[InR];omega
 ·rintro⟨v',out⟩ hP
  simp only at hP
  rw[qtD]at hP
  subst hP
  simp[-Bool.forall_bool, -Bool.exists_bool]
  exact tJ (C8 l) (by simp[C8]) rfl
end Go.Gv

namespace Go.Gv
open Cod (enc dec)
variable {S S0:Nat->Spc}
theorem Z3{p:Rp}{sp:B}{q:Rp× (I32×Bool)}{c:Int}(hc:Jo p=some c)(h:AC p sp=some q):q=(p.bump,⟨c⟩,true):=by
 unfold AC at h
 rw[hc,qtb]at h
 split at h
 ·cases h
 ·exact(qs8 h).symm
theorem qcc{p:Rp}{q:Rp× (I32×Bool)}{c:Int}(hc:Jo p=some c)(h:O6 p ()=some q):q=(p.bump,⟨c⟩,true):=by
 unfold O6 at h
 rw[hc,qtb]at h
 split at h
 ·cases h
 ·exact Z3 hc h
theorem qjf{b:Nat}{post:Rp->(Rx×Bool)->Prop}{l:List Rng}{id el:Nat}{v:Value}{H:ab}(s:Rp)(h0:H 0=some (.box b (qA s)))(hi:id≠0)(h1:H id=some (.row v el 2 (l.map enc)))(hq:post s (⟨1,0,0,l, []⟩,true)):
 DH BG b post (.tup [.agg [.v (.int .i64 1), .v (.int .i64 0), .v (.int .i64 0), .own id v, .v (.slice none 0 0)], .v (.bool true)]) H:=by
 refine Dn s (⟨1,0,0,l, []⟩,true) (.tup rfl fun k c c' hc hc'=>?_) h0 hq
 match k with
 | 0=>
   cases hc;cases hc'
   refine Ne l [] (.row (el:=el) (by simp[hi];exact h1) rfl (fun d hd=>?_) (fun k c c' hc hc'=>?_)) (.nil _)
   ·obtain⟨x,_,rfl⟩:=qs7.1 hd
    exact⟨Cod.kn x,Cod.wid x⟩
   ·rw[hc]at hc';cases hc';exact .same _
 | 1=>cases hc;cases hc';exact .same _
 | k+2=>simp at hc
set_option maxHeartbeats 2000000 in
theorem JH(h1:S aw=gj)(h2:S eN=Rs)(h3:S nb=Hy):th iz iq S a0 BG (fun s z=>∃r,qcZ s z=some r) (fun s z s' y=>qcZ s z=some (s',y)):=by
 rintro b s ⟨⟩ ⟨r,hr⟩
 have hr0:=hr
 obtain⟨a0,ha0,h⟩:=qsR.1 hr
 have e91:¬a0≠91:=fun e=>by rw[if_pos e]at h;cases h
 rw[if_neg e91]at h
 have hin:=(Us ha0).2.2 (by omega)
 obtain⟨c0,hc0,h⟩:=qsR.1 h
 have n94:¬c0=94:=fun e=>by rw[if_pos e]at h;cases h
 rw[if_neg n94]at h
 obtain⟨⟨s',l'⟩,hl,h⟩:=qsR.1 h
 simp only at h
 have hsrt:D4 l'=true:=by
  split at h
  ·assumption
  ·cases h
 rw[if_pos hsrt]at h
 cases h
 have hc1:Jo ⟨s.s,s.pos+1,s.fault,s.e⟩=some c0:=hc0
 simp[iz,iq,h1,km,hin,hc1,n94, -Bool.forall_bool, -Bool.exists_bool]
 intro b2
 refine av (X:=Nat×Rp×Value×List Rng) [0,2,4,5] [2] (fun z=>Z2 z.1 z.2.1 z.2.2.2=some (s',l')/\z.2.2.2.length+z.1<=100) (fun z=>[(6, .own 86 z.2.2.1)]) (fun z=>[(0, .box b (qA z.2.1)),(86, .row z.2.2.1 vd 2 (z.2.2.2.map enc))]) (fun z=>z.1) (100,s.bump, .slice none 0 0, []) ⟨hl,by simp⟩ (by simp) (by simp[isNilRow,Rp.bump]) ?_
 clear hl
 rintro⟨k,p,v,l⟩ ⟨hk,hlen⟩
 simp only at hk hlen
 obtain _|k:=k
 ·rw[Z2]at hk;cases hk
 rw[Z2]at hk
 obtain⟨c,hc,hk2⟩:=qsR.1 hk
 clear hk
 have hlt:(l.length:Int)<=9223372036854775807:=by omega
 by_cases hend:l≠ []/\c=93
 ·rw[if_pos hend]at hk2
  cases hk2
  obtain⟨hne,rfl⟩:=hend
  have hin2:=(Us hc).2.2 (by omega)
  have hl0:¬l'.length=0:=fun e=>hne (qtw.1 e)
  simp(config:={ maxSteps:=2000000 }) [h1,h3,km,hc,hlt,hne,hl0,hin2,hsrt, -Bool.forall_bool, -Bool.exists_bool]
  exact fun v'=>qjf (el:=vd) s'.bump (by simp[Rp.bump]) (by decide) (by simp) hr0
 ·rw[if_neg hend]at hk2
  obtain⟨q,hq,hk3⟩:=qsR.1 hk2
  clear hk2
  obtain⟨d,hd,hk4⟩:=qsR.1 hk3
  clear hk3
  have hqv:=qcc hc hq
  subst hqv
  simp only at hd hk4
  have n45:¬d=45:=fun e=>by rw[if_pos e]at hk4;cases hk4
  rw[if_neg n45]at hk4
  have hd':Jo ⟨p.s,p.pos+1,p.fault,p.e⟩=some d:=hd
  cases l with
  | nil=>
    simp(config:={ maxSteps:=2000000 }) [h1,h2,km,hq,hd',n45,Rp.bump, -Bool.forall_bool, -Bool.exists_bool]
    exact fun v=>⟨k,p.bump,v, [⟨⟨c⟩,⟨c⟩⟩],⟨hk4,by simp at hlen ⊢;omega⟩,⟨rfl, .inl ⟨rfl,rfl,rfl,rfl⟩, .inl ⟨rfl,by simp⟩⟩,by omega⟩
  | cons x l=>
    have n93:¬c=93:=fun e=>hend ⟨by simp,e⟩
    simp(config:={ maxSteps:=2000000 }) [h1,h2,km,hc,hq,hd',n45,n93,Rp.bump, -Bool.forall_bool, -Bool.exists_bool]
    have hlen2:l.length+1+ (k+1)<=100:=by simpa using hlen
    first
     | exact fun _ _=>⟨by omega,by omega,fun v=>⟨k,p.bump,v,x::l++ [⟨⟨c⟩,⟨c⟩⟩],⟨hk4,by simp;omega⟩,⟨rfl, .inl ⟨rfl,rfl,rfl,rfl⟩, .inl ⟨rfl,by simp⟩⟩,by omega⟩⟩
     | exact⟨by omega,by omega,by omega,fun v=>⟨k,p.bump,v,x::l++ [⟨⟨c⟩,⟨c⟩⟩],⟨hk4,by simp;omega⟩,⟨rfl, .inl ⟨rfl,rfl,rfl,rfl⟩, .inl ⟨rfl,by simp⟩⟩,by omega⟩⟩
     | exact⟨by omega,by omega,fun v=>⟨k,p.bump,v,x::l++ [⟨⟨c⟩,⟨c⟩⟩],⟨hk4,by simp;omega⟩,⟨rfl, .inl ⟨rfl,rfl,rfl,rfl⟩, .inl ⟨rfl,by simp⟩⟩,by omega⟩⟩
     | (refine fun _=>⟨fun _=>?_,fun _=>?_⟩ <;> exact⟨by omega,by omega,fun v=>⟨k,p.bump,v,x::l++ [⟨⟨c⟩,⟨c⟩⟩],⟨hk4,by simp;omega⟩,⟨rfl, .inl ⟨rfl,rfl,rfl,rfl⟩, .inl ⟨rfl,by simp⟩⟩,by omega⟩⟩)
end Go.Gv

namespace Go.Gv
open Cod (enc dec)
def qnS(F:Rx->Int->Int->Option (Bool×Int)):PT:=fun d ds H K=>∃id b x n k r d0,ds=[d0, .v (.int .i64 n), .bptr id b 0]/\dec d0=some x/\H id=some (.box b [.v (.int .i64 k)])/\F x n k=some r/\K (.v (.bool r.1)) (ah H id (some (.box b [.v (.int .i64 r.2)])))
theorem qbE(F:Rx->Int->Int->Option (Bool×Int)):ph (qnS F):=fun d ds H K K' hk ⟨id,b,x,n,k,r,d0,h1,h2,h3,h4,h5⟩=>⟨id,b,x,n,k,r,d0,h1,h2,h3,h4,hk _ _ h5⟩
def qdy(F:Rx->Int->Int->Option (Bool×Int)):Spc:= .gen _ (qbE F)
def qkM(F:Rx->Int->Int->Option (Bool×Int))(o:Option Rx)(n:Int)(id b:Nat)(q:Option Res)(H:ab)(K:D->ab->Prop):Prop:=
 ∃k,q=some (.box b [.v (.int .i64 k)])/\dI o fun x=>dI (F x n k) fun r=>K (.v (.bool r.1)) (ah H id (some (.box b [.v (.int .i64 r.2)])))
@[congr] theorem qnR{F:Rx->Int->Int->Option (Bool×Int)}{o o':Option Rx}{n n':Int}{id b:Nat}{q q':Option Res}{H:ab}{K:D->ab->Prop}(h1:o=o')(h2:n=n')(h3:q=q'):qkM F o n id b q H K=qkM F o' n' id b q' H K:=by subst h1;subst h2;subst h3;rfl
@[simp] theorem qnT(F:Rx->Int->Int->Option (Bool×Int))(d id b:Nat)(d0:D)(n:Int)(H:ab)(K:D->ab->Prop):(qdy F).pt d [d0, .v (.int .i64 n), .bptr id b 0] H K=qkM F (dec d0) n id b (H id) H K:=by
 refine propext ⟨fun h=>?_,fun h=>?_⟩
 ·obtain⟨id',b',x,n',k,r,d0',h1,h2,h3,h4,h5⟩:=h
  cases h1
  refine⟨k,h3,?_⟩
  rw[h2]
  show dI (F x n k) _
  rw[h4]
  exact h5
 ·obtain⟨k,h1,h2⟩:=h
  cases hx:dec (X:=Rx) d0 with
  | none=>rw[hx]at h2;exact h2.elim
  | some x=>
    rw[hx]at h2
    have h2:dI (F x n k) _:=h2
    cases hr:F x n k with
    | none=>rw[hr]at h2;exact h2.elim
    | some r=>rw[hr]at h2;exact⟨id,b,x,n,k,r,d0,rfl,hx,h1,hr,h2⟩
@[simp] theorem qqY(F:Rx->Int->Int->Option (Bool×Int))(o:Option Rx)(n:Int)(id b:Nat)(k:Int)(H:ab)(K:D->ab->Prop):
 qkM F o n id b (some (.box b [.v (.int .i64 k)])) H K=dI o fun x=>dI (F x n k) fun r=>K (.v (.bool r.1)) (ah H id (some (.box b [.v (.int .i64 r.2)]))):=by
 refine propext ⟨fun⟨k',h1,h2⟩=>?_,fun h=>⟨k,rfl,h⟩⟩
 cases h1
 exact h2
def qkh(b:Nat)(q:Bool×Int)(r:D)(H:ab):Prop:=r= .v (.bool q.1)/\H 2=some (.box b [.v (.int .i64 q.2)])
def qau(cc:CC)(rs:List aj)(S:Nat->Spc)(F:Rx->Int->Int->Option (Bool×Int)):Prop:=
 ∀b x n k q,F x n k=some q->vc S cc (sy rs fun r H'=>qkh b q r H') (dh [enc x, .v (.int .i64 n), .bptr 2 b 0]) (ah bU 2 (some (.box b [.v (.int .i64 k)])))
variable {P:Program}{S:Nat->Spc}{f:Nat}{im:List Nat}{cc:CC}{rs:List aj}{N:Nat}
theorem Q3{F:Rx->Int->Int->Option (Bool×Int)}(hS:∀f,Tri P f (S f).pt)(h:aq P f im cc rs N)(hN:3<=N)(hw:qau cc rs S F):Tri P f (qdy F).pt:=by
 obtain⟨uz,enter,fn,code,h1,h2,h3,h4,h5⟩:=h
 refine lX hS uz h1 h2 enter h3 h4 h5 ?_
 rintro ds H d K ⟨id,b,x,n,k,r,d0,rfl,hd,hid,hF,hK⟩
 have h0:∀i q,ah bU 2 (some (.box b [.v (.int .i64 k)])) i=some q->i=2/\q= .box b [.v (.int .i64 k)]:=by
  intro i q h
  by_cases e:i=2
  ·subst e
   simp only[ah,if_true]at h
   cases h
   exact⟨rfl,rfl⟩
  ·simp[ah,e,bU]at h
 refine⟨hN, [enc x, .v (.int .i64 n), .bptr 2 b 0],ah bU 2 (some (.box b [.v (.int .i64 k)])),fun i=>if i=2 then id else i, .cons (Cod.le _ _ hd) (.cons (.same _) (.cons (.bptr _ _ _ _) .nil)),fun i q h=>?_,fun i j q q' h h' e=>?_,_,hw b x n k r hF,?_⟩
 ·obtain⟨rfl,rfl⟩:=h0 i q h
  exact hid
 ·exact(h0 i q h).1.trans (h0 j q' h').1.symm
 ·rintro r' H' ⟨rfl,k2⟩
  refine⟨.v (.bool r.1),bU,ah H id (some (.box b [.v (.int .i64 r.2)])),fun i=>if i=id then some 2 else none, .same _,fun j q h=>by simp[bU]at h,hK,fun i s hi=>?_,fun i j k' s q hi hj e1 e2=>?_⟩
  ·by_cases e:i=id
   ·subst e
    simp only[ah,if_true]at hi ⊢
    cases hi
    exact k2
   ·simp only[ah,e,if_false]at hi ⊢
    refine⟨hi,fun k'' q h he=>?_⟩
    obtain⟨rfl,rfl⟩:=h0 k'' q h
    exact e he.symm
  ·by_cases c1:i=id
   ·by_cases c2:j=id
    ·exact c1.trans c2.symm
    ·simp[c2]at e2
   ·simp[c1]at e1
end Go.Gv

namespace Go.Gv
open Go.Proofs
def ju:CC:=by refine(fun(_:G.ap (G.gn Tryz.prog Tryz.f277 [3] { bx:=[2],ke:=[2] })=?c)=>?c) ?h;case h=>conv=>lhs; (conv=>arg 1;reduce);dsimp only[G.ap]
def jc:List aj:=[.tmp 6]
theorem H4:aq Tryz.prog gZ [3] ju jc 36:=ai mixed (by kernel_rfl)
def nt:CC:=by refine(fun(_:G.ap (G.gn Tryz.prog Tryz.f316 [] {})=?c)=>?c) ?h;case h=>conv=>lhs; (conv=>arg 1;reduce);dsimp only[G.ap]
def mz:List aj:=[.tmp 2]
theorem CH:aq Tryz.prog jK [] nt mz 47:=ai mixed (by kernel_rfl)
def dz:CC:=by refine(fun(_:G.ap (G.gn Tryz.prog Tryz.f300 [1] {})=?c)=>?c) ?h;case h=>conv=>lhs; (conv=>arg 1;reduce);dsimp only[G.ap]
def dq:List aj:=[.tmp 2]
theorem A3:aq Tryz.prog iH [1] dz dq 101:=ai mixed (by kernel_rfl)
def kH:CC:=by refine(fun(_:G.ap (G.gn Tryz.prog Tryz.f278 [1] {})=?c)=>?c) ?h;case h=>conv=>lhs; (conv=>arg 1;reduce);dsimp only[G.ap]
def ku:List aj:=[.tmp 2]
theorem Ah:aq Tryz.prog dv [1] kH ku 19:=ai mixed (by kernel_rfl)
def gI:CC:=by refine(fun(_:G.ap (G.gn Tryz.prog Tryz.f279 [1] {})=?c)=>?c) ?h;case h=>conv=>lhs; (conv=>arg 1;reduce);dsimp only[G.ap]
def gl:List aj:=[.tmp 2]
theorem A4:aq Tryz.prog dR [1] gI gl 42:=ai mixed (by kernel_rfl)
def nz:CC:=by refine(fun(_:G.ap (G.gn Tryz.prog Tryz.f257 [1] {})=?c)=>?c) ?h;case h=>conv=>lhs; (conv=>arg 1;reduce);dsimp only[G.ap]
def mC:List aj:=[.tmp 2]
theorem CL:aq Tryz.prog eq [1] nz mC 16:=ai mixed (by kernel_rfl)
end Go.Gv
