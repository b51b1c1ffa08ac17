/- W132 -/
import Derived.Test.YtnffegdacbdhmaaGreatDoorGe15
set_option linter.all false
set_option maxRecDepth 100000
set_option maxHeartbeats 0
open Bool renaming forall_bool → fB', exists_bool → eB'
namespace Go.Gv
section
open Cod (enc dec)
variable {S S0:Nat->Spc}
def qq7{p:Rp}{q:Rp× (Rx×Bool)}(h:qi0 p ()=some q):q.2.2=true:=by
 obtain⟨a,_,h⟩:=qFF.1 h;split at h
 ·obtain⟨c,_,h⟩:=qFF.1 h;split at h
  ·cases h
  ·split at h
   ·obtain⟨d,_,h⟩:=qFF.1 h;split at h
    ·cases h
    ·cases h;rfl
   ·cases h;rfl
 ·cases h
def YX{op:Int}{l:List Rx}(h:l.length≠1):qb8 op l=⟨op,0,0, [],l⟩:=by
 match l,h with
 | [],_=>rfl
 | [e],h=>exact absurd rfl h
 | _::_::_,_=>rfl
theorem qkz{b:Nat}{post:Rp->(Rx×Bool)->Prop}{op:Int}{l:List Rx}{id el:Nat}{v:Value}{H:ab}(s:Rp)(h0:H 0=some (.box b (uT s)))(hi:id≠0)(h1:H id=some (.row v el 5 (l.map enc)))(h:post s (⟨op,0,0, [],l⟩,true)):
 JL Hi b post (.tup [.agg [.v (.int .i64 op), .v (.int .i64 0), .v (.int .i64 0), .v (.slice none 0 0), .own id v], .v (.bool true)]) H:=by
 refine Jm s (⟨op,0,0, [],l⟩,true) (.tup rfl λk c c' hc a=>?_) h0 h
 match k with
 | 0=>
   cases hc;cases a;refine VY [] l (.nil _) (.row (el:=el) (by simp[hi];exact h1) rfl (λd j=>?_) (λk c c' hc a=>?_))
   ·obtain⟨x,_,rfl⟩:=qFQ.1 j;exact⟨Cod.kn x,Cod.wid x⟩
   ·rw[hc]at a;cases a;exact .same _
 | 1=>cases hc;cases a;exact .same _
 |k+2=>simp at hc
abbrev qie:Spc:=qhf a0 Hi qlq
set_option maxHeartbeats 2000000 in
theorem NM(h1:S bG=ym)(h2:S kB=qia):xW jy je S a0 Hi (λs z=>∃r,qlq s z=some r) (λs z s' y=>qlq s z=some (s',y)):=by
 rintro b s ⟨⟩ ⟨r,hr⟩;have hr0:=hr;obtain⟨⟨s',l'⟩,hl,hr⟩:=qFR.1 hr;simp only at hr;subst hr;obtain⟨c0,hc0⟩:∃c,Qy s=some c:=by
  rw[qao]at hl;obtain⟨c,hc,_⟩:=qFF.1 hl;exact⟨c,hc⟩
 simp[jy,je,h1,mM,hc0,-fB',-eB'];intro b2;refine au (X:=Nat×Rp×Value×List Rx×Int) [0,2] [2] (λz=>qao z.1 z.2.1 z.2.2.2.1=some (s',l')/\z.2.2.2.1.length+z.1<=100/\Qy z.2.1=some z.2.2.2.2) (λz=>[(4, .own 36 z.2.2.1),(5, .v (.int .i32 z.2.2.2.2))]) (λz=>[(0, .box b (uT z.2.1)),(36, .row z.2.2.1 Do 5 (z.2.2.2.1.map enc))]) (λz=>z.1) (100,s, .slice none 0 0, [],c0) ⟨hl,by simp,hc0⟩ ?_ (hh:=by simp[isNilRow]);clear hl;rintro⟨k,p,v,l,c⟩ ⟨hk,hlen,hc⟩;simp only at hk hlen hc;obtain _|k:=k
 ·rw[qao]at hk;cases hk
 rw[qao,hc]at hk;simp only[qF1]at hk;split at hk
 ·rename_i hend;cases hk;have hlt:(l'.length:Int)<=9223372036854775807:=by omega
  by_cases hl1:l'.length=1
  ·obtain⟨e,rfl⟩:∃e,l'=[e]:=qG9.1 hl1;rcases hend with h|rfl|rfl
   ·have h':¬0<=c:=by omega
    simp[h',-fB',-eB'];exact G9 s' (by simp) hr0
   all_goals
    simp[-fB',-eB'];exact G9 s' (by simp) hr0
  ·rw[YX hl1]at hr0;have hl1':¬(l'.length:Int)=1:=by omega
   rcases hend with h|rfl|rfl
   ·have h':¬0<=c:=by omega
    simp[h',hl1,hl1',hlt,-fB',-eB'];exact qkz (el:=Do) s' (by simp) (by decide) (by simp) hr0
   all_goals
    simp[hl1,hl1',hlt,-fB',-eB'];exact qkz (el:=Do) s' (by simp) (by decide) (by simp) hr0
 ·rename_i hgo;obtain⟨q,hq,hk⟩:=qFF.1 hk;split at hk
  ·cases hk
  rename_i hop;have hok:=qq7 hq;obtain⟨p',e,ok⟩:=q;simp only at hk hok hop;subst hok;have n1:0<=c:=by omega
  have n2:c≠124:=by omega
  have n3:c≠41:=by omega
  obtain⟨c1,hc1⟩:∃c,Qy p'=some c:=by
   obtain _|k:=k
   ·rw[qao]at hk;cases hk
   rw[qao]at hk;obtain⟨c,hc,_⟩:=qFF.1 hk;exact⟨c,hc⟩
  simp[h1,h2,mM,hc1,hq,n1,n2,n3,hop,-fB',-eB'];exact⟨by omega,by omega,λv=>⟨k,p',v,l++ [e],c1,⟨hk,by simp;omega,hc1⟩,⟨⟨rfl,rfl⟩, .inl ⟨rfl,rfl,rfl,rfl⟩, .inl ⟨rfl,by simp⟩⟩,by omega⟩⟩
def qss{p:Rp}{q:Rp× (Rx×Bool)}(h:qlq p ()=some q):q.2.2=true:=by
 obtain⟨a,_,rfl⟩:=qFR.1 h;rfl
abbrev qh9:Spc:=qhf a0 Hi qm6
set_option maxHeartbeats 2000000 in
theorem QY(h1:S bG=ym)(h2:S kD=qie):xW kH km S a0 Hi (λs z=>∃r,qm6 s z=some r) (λs z s' y=>qm6 s z=some (s',y)):=by
 rintro b s ⟨⟩ ⟨r,hr⟩;have hr0:=hr;obtain⟨⟨s',l'⟩,hl,hr⟩:=qFR.1 hr;simp only at hr;subst hr;simp[kH,km,-fB',-eB'];intro b2;refine au (X:=Nat×Rp×Value×List Rx) [0,2] [2] (λz=>qhF z.1 z.2.1 z.2.2.2=some (s',l')/\z.2.2.2.length+z.1<=100) (λz=>[(4, .own 25 z.2.2.1)]) (λz=>[(0, .box b (uT z.2.1)),(25, .row z.2.2.1 Do 5 (z.2.2.2.map enc))]) (λz=>z.1) (100,s, .slice none 0 0, []) ⟨hl,by simp⟩ ?_ (hh:=by simp[isNilRow]);clear hl;rintro⟨k,p,v,l⟩ ⟨hk,hlen⟩;simp only at hk hlen;obtain _|k:=k
 ·rw[qhF]at hk;cases hk
 rw[qhF]at hk;obtain⟨⟨p',e,ok⟩,hq,hk2⟩:=qFF.1 hk;clear hk;obtain⟨c,hc,hk3⟩:=qFF.1 hk2;clear hk2;have hok:=qss hq;simp only at hok hc hk3;subst hok;have hop:¬e.op=3:=λh=>by rw[if_pos h]at hk3;cases hk3
 rw[if_neg hop]at hk3;have hcc:=qeH hc;by_cases hc124:c=124
 ·rw[if_pos hc124]at hk3;have hk:=hk3;subst hc124;have hin:=hcc.2.2 (by omega);simp[h1,h2,mM,hc,hq,hop,hin,-fB',-eB'];exact⟨by omega,by omega,λv=>⟨k,p'.bump,v,l++ [e],⟨hk,by simp;omega⟩,⟨rfl, .inl ⟨rfl,rfl,rfl,rfl⟩, .inl ⟨rfl,by simp⟩⟩,by omega⟩⟩
 ·rw[if_neg hc124]at hk3;cases hk3;have hlt:((l++ [e]).length:Int)<=9223372036854775807:=by simp;omega
  have hcc':¬c=124:=hc124;cases l with
  | nil=>
    simp[h1,h2,mM,hc,hq,hop,hcc',-fB',-eB'];exactλv=>G9 s' (by simp) hr0
  | cons x l=>
    simp[h1,h2,mM,hc,hq,hop,hcc',-fB',-eB'];have hr1:=hr0;rw[YX (by simp)]at hr1;exact⟨by simp at hlen;omega,by simp at hlen;omega,λv _=>⟨λh=>absurd h (by omega),λ_=>qkz (el:=Do) (l:=x::l++ [e]) s' (by simp) (by decide) (by simp) hr1⟩⟩
end
section
open Go.Proofs
def ia:CC:=gq Tryz.f335 [] {} _
def gT:List aj:=[]
def zi:FO fh [] ia gT 14:=fo
def eD:CC:=gq Tryz.f340 [] {} _
def ei:List aj:=[]
def sF:FO eV [] eD ei 148:=fo
def cU:CC:=gq Tryz.f342 [] {} _
def cP:List aj:=[]
def nc:FO dg [] cU cP 53:=fo
def tf:CC:=gq Tryz.f147 [] {} _
def sw:List aj:=[.tmp 2]
def KF:FO uN [] tf sw 8:=fo
def pg:CC:=gq Tryz.f212 [] {} _
def ou:List aj:=[.tmp 2]
def GH:FO qX [] pg ou 25:=fo
def nB:CC:=gq Tryz.f337 [] {} _
def mZ:List aj:=[.tmp 4]
def FB:FO oU [] nB mZ 20:=fo
def rP:CC:=gq Tryz.f341 [] {} _
def qv:List aj:=[.tmp 2]
def I1:FO sX [] rP qv 6:=fo
def rk:CC:=gq Tryz.f336 [2,3] {} _
def pV:List aj:=[.tmp 4]
def ID:FO dw [2,3] rk pV 10:=fo
def uU:CC:=gq Tryz.f330 [2044048] { bx:=[0] } _
def ur:List aj:=[.tmp 2]
def ML:FO wT [2044048] uU ur 51:=fo
open Cod (enc dec)
variable {S S0:Nat->Spc}
abbrev qir:Spc:=aG (a1 I32) (λ_=>True) (enc (X:=Bool)) λ_ y=>y=false
def J8:ak rP qv S (a1 I32) (λ_=>True) (enc (X:=Bool)) λ_ y=>y=false:=by
 rintro x -;simp[rP,qv,-fB']
def Wt(a b:Int):Int:=if a<b then -1 else if b<a then 1 else 0
abbrev qiF:Spc:=aG (a2 I32 I32) (λ_=>True) (enc (X:=Int)) λx y=>y=Wt x.1.val x.2.val
def F9(h1:S sX=qir):ak nB mZ S (a2 I32 I32) (λ_=>True) (enc (X:=Int)) λx y=>y=Wt x.1.val x.2.val:=by
 rintro⟨⟨x⟩,⟨y⟩⟩ -;simp[nB,mZ,h1,-fB',-eB'];refine⟨λh=>by simp[Wt,h],λh=>⟨λh2=>?_,λh2=>?_⟩⟩
 ·have h3:¬x<y:=by omega
  simp[Wt,h2,h3]
 ·have h3:¬x<y:=by omega
  have h4:¬y<x:=by omega
  simp[Wt,h3,h4]
abbrev qis:Spc:=aG (a2 Rng Rng) (λ_=>True) (enc (X:=Int)) λx y=>y=Wt x.1.fr.val x.2.fr.val
def JT(h1:S oU=qiF):ak rk pV S (a2 Rng Rng) (λ_=>True) (enc (X:=Int)) λx y=>y=Wt x.1.fr.val x.2.fr.val:=by
 rintro⟨x,y⟩ -;simp[rk,pV,h1,-fB',-eB']
abbrev qdK:Spc:=aG (a1 U64) (λx=>0<=x.val/\x.val<=200) (enc (X:=Int)) λ_ _=>True
def qmi(x:List Rng×Int×Int×D×Unit):Prop:=Km x.1=true/\x.2.1=0/\x.2.2.1=x.1.length/\x.2.2.2.1= .clo dw []
abbrev qix:Spc:=aG (aE (List Rng) (aE Int (aE Int (aD a0)))) qmi Wh λ_ _=>True
def Id{l:List Rng}(h:Km l=true):1<=l.length/\l.length<=2:=by
 match l,h with
 | [x],_=>exact⟨qFM 1,qG0 1⟩
 | [x,y],_=>exact⟨qG0 1,qFM 2⟩
def Yb:∀{l:List Rng},Km l=true->1<l.length->∃x y,l=[x,y]
 | [x,y],_,_=>⟨x,y,rfl⟩
 | [x],_,h=>by simp at h
def qhQ:∀{l:List Rng} {x:Rng},l[0]? =some x->(l.take 1).foldl vH []=[x]
 |y::l,x,h=>by cases h;rfl
theorem QX(h1:S dw=qis):ak cU cP S (aE (List Rng) (aE Int (aE Int (aD a0)))) qmi Wh λ_ _=>True:=by
 rintro⟨l,a,b,d,⟨⟩⟩ ⟨hs,j,hb,k⟩;simp only at hs j hb k;subst j;subst hb;subst k;simp[cU,cP,-fB',-eB'];have c:=Id hs;refine⟨by simp only[InR];omega,?_⟩;refine au (X:=Nat) [0,1,2,3] [] (λi=>1<=i/\i<=l.length) (λi=>[(8,enc (i:Int))]) (λ_=>[]) (λi=>l.length -i) 1 ⟨qFM 1,c.1⟩ ?_;rintro i ⟨p,q⟩;by_cases h:i<l.length
 ·obtain rfl:i=1:=by omega
  obtain⟨x,y,rfl⟩:=Yb hs h;simp[-fB',-eB'];refine au (X:=Unit) [0,1,2,3,8] [] (λ_=>True) (λ_=>[(9,enc (1:Int))]) (λ_=>[]) (λ_=>0) () trivial ?_;rintro - -;have hc:¬Wt y.fr.val x.fr.val< 0:=by
   simp[Km]at hs;unfold Wt;rw[if_neg (by omega)];split<;>omega
  simp[h1,hc,-fB',-eB'];exact⟨by simp only[InR];omega,λ_=>⟨by simp only[InR];omega,2,⟨by omega,by omega⟩,rfl,rfl⟩⟩
 ·obtain rfl:i=l.length:=by omega
  simp[-fB',-eB'];exact aL (Y:=Unit) () (.same _) trivial
abbrev qio:Spc:=aG (aE (List Rng) (aE Int (aE Int (aE Int (aD a0))))) (λx=>qmi (x.1,x.2.1,x.2.2.1,x.2.2.2.2)) Wh λ_ _=>True
def QW(h1:S dg=qix):ak eD ei S (aE (List Rng) (aE Int (aE Int (aE Int (aD a0))))) (λx=>qmi (x.1,x.2.1,x.2.2.1,x.2.2.2.2)) Wh λ_ _=>True:=by
 rintro⟨l,a,b,q,d,⟨⟩⟩ hp;have c:=hp;obtain⟨hs,k,hb,p⟩:=hp;simp only at hs k hb p c;subst k;subst hb;subst p;have r:=Id hs;simp[eD,ei,-fB',-eB'];refine au (X:=Unit) [0,1,2,3,4,10,11] [] (λ_=>True) (λ_=>[]) (λ_=>[]) (λ_=>0) () trivial ?_;rintro - -;have h:(l.length:Int)<=12:=by omega
 have j:InR .i64 (l.length:Int):=by simp only[InR];omega
 simp[h1,h,j,c,-fB',-eB'];exact aL (Y:=Unit) () (.same _) trivial
abbrev qnk:Spc:=aG (aE (List Rng) (aD a0)) (λx=>Km x.1=true/\x.2.1= .clo dw []) Wh λ_ _=>True
def Ab(h1:S uN=qdK)(h2:S eV=qio):ak ia gT S (aE (List Rng) (aD a0)) (λx=>Km x.1=true/\x.2.1= .clo dw []) Wh λ_ _=>True:=by
 rintro⟨l,d,⟨⟩⟩ ⟨hs,b⟩;simp only at hs b;subst b;have c:=Id hs;have hp:qmi (l,0,(l.length:Int), .clo dw [],()):=⟨hs,rfl,rfl,rfl⟩
 have h:IntKind.u64.wrap (l.length:Int)=l.length:=by rw[IntKind.wrap_u64];omega
 have a:(l.length:Int)<=200:=by omega
 simp[ia,gT,h1,h2,hp,h,a,-fB',-eB'];exactλ_=>aL (Y:=Unit) () (.same _) trivial
abbrev YK:Spc:=aG (a1 U64) (λx=>0<=x.val/\x.val<=200) (enc (X:=Int)) λ_ _=>True
def qbf(h1:S qX=YK):ak tf sw S (a1 U64) (λx=>0<=x.val/\x.val<=200) (enc (X:=Int)) λ_ _=>True:=by
 rintro⟨x⟩ ⟨h0,h2⟩;simp only at h0 h2;simp[tf,sw,h1,h0,h2,-fB',-eB']
def Uv:ak pg ou S (a1 U64) (λx=>0<=x.val/\x.val<=200) (enc (X:=Int)) λ_ _=>True:=by
 rintro⟨x⟩ ⟨h0,h2⟩;simp only at h0 h2;have c1:¬4294967296<=x:=by omega
 have c2:¬65536<=x:=by omega
 have c3:¬256<=x:=by omega
 have b:IntKind.u8.wrap x=x:=by rw[IntKind.wrap_u8];omega
 simp[pg,ou,c1,c2,c3,b,h0,-fB',-eB'];refine⟨Int.lt_of_le_of_lt h2 (by decide),λc _=>?_⟩;have:=c.toNat_lt;have a:IntKind.i64.wrap (c.toNat:Int)=c.toNat:=by rw[IntKind.wrap_i64];omega
 rw[a];simp only[InR];omega
abbrev qeK:Spc:=qzB (Y:=Rng) (aD a0) (λx=>Km x.1=true/\x.2.1= .clo dw []) Wh (λ_ _=>True) Am 2
abbrev Ys:Spc:=qu9 (Y:=Rng) a0 (λ_ l=>Km l=true) (λ_ l r=>r=Jb l) Am 2
set_option maxHeartbeats 1000000 in
theorem NK(h1:S fh=qeK):WI (Y:=Rng) uU ur S a0 (λ_ l=>Km l=true) (λ_ l r=>r=Jb l) Am 2:=by
 rintro v l ⟨⟩ hs;have hs:Km l=true:=hs;have hl2:=Id hs;simp[uU,ur,h1,hs,-fB',-eB'];intro _;refine ah (X:=Value×List Rng) [9] [0] l.length (λk x=>x.2=(l.take k).foldl vH []) (λx=>[(3, .own 48 x.1)]) (λx=>[(48, .row x.1 Am 2 (x.2.map enc))]) (.slice none 0 0, []) rfl ?_ ?_ (hh:=by simp[isNilRow])
 ·rintro k ⟨v',out⟩ hk hP;simp only at hP;have hk2:k=0\/k=1:=by omega
  rcases hk2 with rfl|rfl
  ·obtain⟨x,hx⟩:∃x,l[0]? =some x:=⟨_,qFH hk⟩
   obtain⟨_,hgx⟩:=qFG.1 hx;have ho:out=[]:=by rw[hP];rfl
   subst ho;have h1:=qhQ hx;simp[hk,hx,hgx,h1,-fB',-eB']
  ·obtain⟨x,y,rfl⟩:=Yb hs hk;have ho:out=[x]:=by rw[hP];rfl
   subst ho;simp[Km]at hs;by_cases hle:y.fr.val<=x.to.val+1
   ·have hst:vH (vH [] x) y=[⟨x.fr,⟨max x.to.val y.to.val⟩⟩]:=by simp[vH,hle]
    have hr:InR .i32 (x.to.val+1):=by simp only[InR];omega
    simp[hle,hst,hr,-fB',-eB'];simp only[InR];omega
   ·have hst:vH (vH [] x) y=[x,y]:=by simp[vH,hle]
    have hr:InR .i32 (x.to.val+1):=by simp only[InR];omega
    simp[hle,hst,hr,-fB',-eB'];simp only[InR];omega
 ·rintro⟨v',out⟩ hP;simp only at hP;rw[qFY]at hP;subst hP;simp[-fB',-eB'];exact dI (Jb l) (by simp[Jb]) rfl
def qln{p:Rp}{a:B}{q:Rp× (I32×Bool)}{c:Int}(hc:Qy p=some c)(h:FW p a=some q):q=(p.bump,⟨c⟩,true):=by
 unfold FW at h;rw[hc,qF1]at h;split at h
 ·cases h
 ·exact(qFT h).symm
def qnV{p:Rp}{q:Rp× (I32×Bool)}{c:Int}(hc:Qy p=some c)(h:Zi p ()=some q):q=(p.bump,⟨c⟩,true):=by
 unfold Zi at h;rw[hc,qF1]at h;split at h
 ·cases h
 ·exact qln hc h
theorem qvq{b:Nat}{post:Rp->(Rx×Bool)->Prop}{l:List Rng}{id el:Nat}{v:Value}{H:ab}(s:Rp)(h0:H 0=some (.box b (uT s)))(hi:id≠0)(h1:H id=some (.row v el 2 (l.map enc)))(h:post s (⟨1,0,0,l, []⟩,true)):
 JL Hi b post (.tup [.agg [.v (.int .i64 1), .v (.int .i64 0), .v (.int .i64 0), .own id v, .v (.slice none 0 0)], .v (.bool true)]) H:=by
 refine Jm s (⟨1,0,0,l, []⟩,true) (.tup rfl λk c c' hc a=>?_) h0 h
 match k with
 | 0=>
   cases hc;cases a;refine VY l [] (.row (el:=el) (by simp[hi];exact h1) rfl (λd j=>?_) (λk c c' hc a=>?_)) (.nil _)
   ·obtain⟨x,_,rfl⟩:=qFQ.1 j;exact⟨Cod.kn x,Cod.wid x⟩
   ·rw[hc]at a;cases a;exact .same _
 | 1=>cases hc;cases a;exact .same _
 |k+2=>simp at hc
set_option maxHeartbeats 2000000 in
theorem Q1(h1:S bG=ym)(h2:S kC=qic)(h3:S wT=Ys):xW kI ko S a0 Hi (λs z=>∃r,qoM s z=some r) (λs z s' y=>qoM s z=some (s',y)):=by
 rintro b s ⟨⟩ ⟨r,hr⟩;have hr0:=hr;obtain⟨a0,ha0,h⟩:=qFF.1 hr;have e91:¬a0≠91:=λe=>by rw[if_pos e]at h;cases h
 rw[if_neg e91]at h;have hin:=(qeH ha0).2.2 (by omega);obtain⟨c0,hc0,h⟩:=qFF.1 h;have n94:¬c0=94:=λe=>by rw[if_pos e]at h;cases h
 rw[if_neg n94]at h;obtain⟨⟨s',l'⟩,hl,h⟩:=qFF.1 h;simp only at h;have hsrt:Km l'=true:=by
  split at h
  ·assumption
  ·cases h
 rw[if_pos hsrt]at h;cases h;have hc1:Qy ⟨s.s,s.pos+1,s.fault,s.e⟩=some c0:=hc0;simp[kI,ko,h1,mM,hin,hc1,n94,-fB',-eB'];intro b2;refine au (X:=Nat×Rp×Value×List Rng) [0,2,4,5] [2] (λz=>qll z.1 z.2.1 z.2.2.2=some (s',l')/\z.2.2.2.length+z.1<=100) (λz=>[(6, .own 86 z.2.2.1)]) (λz=>[(0, .box b (uT z.2.1)),(86, .row z.2.2.1 Am 2 (z.2.2.2.map enc))]) (λz=>z.1) (100,s.bump, .slice none 0 0, []) ⟨hl,by simp⟩ ?_ (hh:=by simp[isNilRow,Rp.bump]);clear hl;rintro⟨k,p,v,l⟩ ⟨hk,hlen⟩;simp only at hk hlen;obtain _|k:=k
 ·rw[qll]at hk;cases hk
 rw[qll]at hk;obtain⟨c,hc,hk2⟩:=qFF.1 hk;clear hk;have hlt:(l.length:Int)<=9223372036854775807:=by omega
 by_cases hend:l≠ []/\c=93
 ·rw[if_pos hend]at hk2;cases hk2;obtain⟨hne,rfl⟩:=hend;have hin2:=(qeH hc).2.2 (by omega);have hl0:¬l'.length=0:=λe=>hne (qGt.1 e)
  simp(config:={ maxSteps:=2000000 }) [h1,h3,mM,hc,hlt,hne,hl0,hin2,hsrt,-fB',-eB'];exactλv'=>qvq (el:=Am) s'.bump (by simp[Rp.bump]) (by decide) (by simp) hr0
 ·rw[if_neg hend]at hk2;obtain⟨q,hq,hk3⟩:=qFF.1 hk2;clear hk2;obtain⟨d,hd,hk4⟩:=qFF.1 hk3;clear hk3;have hqv:=qnV hc hq;subst hqv;simp only at hd hk4;have n45:¬d=45:=λe=>by rw[if_pos e]at hk4;cases hk4
  rw[if_neg n45]at hk4;have hd':Qy ⟨p.s,p.pos+1,p.fault,p.e⟩=some d:=hd;cases l with
  | nil=>
    simp(config:={ maxSteps:=2000000 }) [h1,h2,mM,hq,hd',n45,Rp.bump,-fB',-eB'];exactλv=>⟨k,p.bump,v, [⟨⟨c⟩,⟨c⟩⟩],⟨hk4,by simp at hlen ⊢;omega⟩,⟨rfl, .inl ⟨rfl,rfl,rfl,rfl⟩, .inl ⟨rfl,by simp⟩⟩,by omega⟩
  | cons x l=>
    have n93:¬c=93:=λe=>hend ⟨by simp,e⟩
    simp(config:={ maxSteps:=2000000 }) [h1,h2,mM,hc,hq,hd',n45,n93,Rp.bump,-fB',-eB'];have hlen2:l.length+1+ (k+1)<=100:=by simpa using hlen
    first
     |exactλ_ _=>⟨by omega,by omega,λv=>⟨k,p.bump,v,x::l++ [⟨⟨c⟩,⟨c⟩⟩],⟨hk4,by simp;omega⟩,⟨rfl, .inl ⟨rfl,rfl,rfl,rfl⟩, .inl ⟨rfl,by simp⟩⟩,by omega⟩⟩
     |exact⟨by omega,by omega,by omega,λv=>⟨k,p.bump,v,x::l++ [⟨⟨c⟩,⟨c⟩⟩],⟨hk4,by simp;omega⟩,⟨rfl, .inl ⟨rfl,rfl,rfl,rfl⟩, .inl ⟨rfl,by simp⟩⟩,by omega⟩⟩
     |exact⟨by omega,by omega,λv=>⟨k,p.bump,v,x::l++ [⟨⟨c⟩,⟨c⟩⟩],⟨hk4,by simp;omega⟩,⟨rfl, .inl ⟨rfl,rfl,rfl,rfl⟩, .inl ⟨rfl,by simp⟩⟩,by omega⟩⟩
     |(refineλ_=>⟨λ_=>?_,λ_=>?_⟩ <;>exact⟨by omega,by omega,λv=>⟨k,p.bump,v,x::l++ [⟨⟨c⟩,⟨c⟩⟩],⟨hk4,by simp;omega⟩,⟨rfl, .inl ⟨rfl,rfl,rfl,rfl⟩, .inl ⟨rfl,by simp⟩⟩,by omega⟩⟩)
end
section
open Cod (enc dec)
variable {dq:Prop}
def qAr(F:Rx->Int->Int->Option (Bool×Int)):PT:=λd ds H K=>∃id b x n k r a,ds=[a, .v (.int .i64 n), .bptr id b 0]/\dec a=some x/\H id=some (.box b [.v (.int .i64 k)])/\F x n k=some r/\K (.v (.bool r.1)) (ai H id (some (.box b [.v (.int .i64 r.2)])))
def qnh(F:Rx->Int->Int->Option (Bool×Int)):nC (qAr F):=λd ds H K c hk ⟨id,b,x,n,k,r,a,h1,h2,h3,h4,h5⟩=>⟨id,b,x,n,k,r,a,h1,h2,h3,h4,hk _ _ h5⟩
def qs7(F:Rx->Int->Int->Option (Bool×Int)):Spc:= .gen _ (qnh F)
def qxa(F:Rx->Int->Int->Option (Bool×Int))(o:Option Rx)(n:Int)(id b:Nat)(q:Option Res)(H:ab)(K:D->ab->Prop):Prop:=
 ∃k,q=some (.box b [.v (.int .i64 k)])/\eL o λx=>eL (F x n k) λr=>K (.v (.bool r.1)) (ai H id (some (.box b [.v (.int .i64 r.2)])))
@[congr] theorem qAq{F:Rx->Int->Int->Option (Bool×Int)}{o a:Option Rx}{n c:Int}{id b:Nat}{q d:Option Res}{H:ab}{K:D->ab->Prop}(h1:o=a)(h2:n=c)(h3:q=d):qxa F o n id b q H K=qxa F a c id b d H K:=by subst h1;subst h2;subst h3;rfl
@[simp] theorem qAs(F:Rx->Int->Int->Option (Bool×Int))(d id b:Nat)(a:D)(n:Int)(H:ab)(K:D->ab->Prop):(qs7 F).pt d [a, .v (.int .i64 n), .bptr id b 0] H K=qxa F (dec a) n id b (H id) H K:=by
 refine propext ⟨λh=>?_,λh=>?_⟩
 ·obtain⟨l,b',x,q,k,r,p,h1,h2,h3,h4,h5⟩:=h;cases h1;refine⟨k,h3,?_⟩;rw[h2];show eL (F x n k) _;rw[h4];exact h5
 ·obtain⟨k,h1,h2⟩:=h;cases c:dec (X:=Rx) a with
  |none=>rw[c]at h2;exact h2.elim
  | some x=>
    rw[c]at h2;have h2:eL (F x n k) _:=h2;cases j:F x n k with
    |none=>rw[j]at h2;exact h2.elim
    |some r=>rw[j]at h2;exact⟨id,b,x,n,k,r,a,rfl,c,h1,j,h2⟩
@[simp] theorem qDN(F:Rx->Int->Int->Option (Bool×Int))(o:Option Rx)(n:Int)(id b:Nat)(k:Int)(H:ab)(K:D->ab->Prop):
 qxa F o n id b (some (.box b [.v (.int .i64 k)])) H K=eL o λx=>eL (F x n k) λr=>K (.v (.bool r.1)) (ai H id (some (.box b [.v (.int .i64 r.2)]))):=by
 refine propext ⟨λ⟨a,h1,h2⟩=>?_,λh=>⟨k,rfl,h⟩⟩;cases h1;exact h2
def qwB(b:Nat)(q:Bool×Int)(r:D)(H:ab):Prop:=r= .v (.bool q.1)/\H 2=some (.box b [.v (.int .i64 q.2)])
def qlS(cc:CC)(rs:List aj)(S:Nat->Spc)(F:Rx->Int->Int->Option (Bool×Int)):Prop:=
 ∀b x n k q,F x n k=some q->vc S cc (vE rs λr H'=>qwB b q r H') (dR [enc x, .v (.int .i64 n), .bptr 2 b 0]) (ai bS 2 (some (.box b [.v (.int .i64 k)])))
variable {P:Program}{S:Nat->Spc}{f:Nat}{im:List Nat}{cc:CC}{rs:List aj}{N:Nat}
theorem qbu{F:Rx->Int->Int->Option (Bool×Int)}(c:∀f,Tri dq P f (S f).pt)(h:zY P f im cc rs N)(l:3<=N)(p:qlS cc rs S F):Tri dq P f (qs7 F).pt:=by
 obtain⟨zq,enter,fn,code,h1,h2,h3,h4,h5⟩:=h;refine pw c zq h1 h2 enter h3 h4 h5 ?_;rintro ds H d K ⟨id,b,x,n,k,r,J,rfl,t,hid,u,w⟩;have h0:∀i q,ai bS 2 (some (.box b [.v (.int .i64 k)])) i=some q->i=2/\q= .box b [.v (.int .i64 k)]:=by
  intro i q h;by_cases e:i=2
  ·subst e;simp only[ai,if_true]at h;cases h;exact⟨rfl,rfl⟩
  ·simp[ai,e,bS]at h
 refine⟨l, [enc x, .v (.int .i64 n), .bptr 2 b 0],ai bS 2 (some (.box b [.v (.int .i64 k)])),λi=>if i=2 then id else i, .cons (Cod.le _ _ t) (.cons (.same _) (.cons (.bptr _ _ _ _) .nil)),λi q h=>?_,λi j q y h A e=>?_,_,p b x n k r u,?_⟩
 ·obtain⟨rfl,rfl⟩:=h0 i q h;exact hid
 ·exact(h0 i q h).1.trans (h0 j y A).1.symm
 ·rintro r' H' ⟨rfl,C⟩;refine⟨.v (.bool r.1),bS,ai H id (some (.box b [.v (.int .i64 r.2)])),λi=>if i=id then some 2 else none, .same _,λj q h=>by simp[bS]at h,w,λi s hi=>?_,λi j L s q hi M E I=>?_⟩
  ·by_cases e:i=id
   ·subst e;simp only[ai,if_true]at hi ⊢;cases hi;exact C
   ·simp only[ai,e,if_false]at hi ⊢;refine⟨hi,λa q h he=>?_⟩;obtain⟨rfl,rfl⟩:=h0 a q h;exact e he.symm
  ·by_cases c1:i=id
   ·by_cases c2:j=id
    ·exact c1.trans c2.symm
    ·simp[c2]at I
   ·simp[c1]at E
end
section
open Go.Proofs
def lT:CC:=gq Tryz.f287 [3] { bx:=[2],ke:=[2] } _
def lj:List aj:=[.tmp 6]
def O8:FO tG [3] lT lj 36:=fo
def rj:CC:=gq Tryz.f317 [] {} _
def pU:List aj:=[.tmp 2]
def IC:FO sK [] rj pU 47:=fo
def eG:CC:=gq Tryz.f307 [1] {} _
def eo:List aj:=[.tmp 2]
def Gs:FO qL [1] eG eo 101:=fo
def nn:CC:=gq Tryz.f288 [1] {} _
def mQ:List aj:=[.tmp 2]
def Fs:FO jo [1] nn mQ 19:=fo
def jv:CC:=gq Tryz.f289 [1] {} _
def ja:List aj:=[.tmp 2]
def Gt:FO kR [1] jv ja 42:=fo
def rp:CC:=gq Tryz.f255 [1] {} _
def pX:List aj:=[.tmp 2]
def IF:FO mB [1] rp pX 16:=fo
open Cod (enc dec)
variable {S S0:Nat->Spc}
def Ly{X:Type}{l:List X}{k:Nat}(h:k<l.length):∃x,l[k]? =some x:=⟨_,qFH h⟩
def Qc{X:Type}{l:List X}{k:Nat}{x:X}(h:l[k]? =some x):l.drop k=x::l.drop (k+1):=by
 obtain⟨h1,h2⟩:=qFG.1 h;rw[qGm h1,h2]
theorem QZ(n:Nat)(h1:S tG=qs7 (yN n)):qlS lT lj S (yN (n+1)):=by
 rintro b x d k ⟨ok,m⟩ j;have u:=j;simp only[yN]at j;split at j
 ·cases j
 rename_i s;have l:InR .i64 (k+1):=by simp only[InR];omega
 split at j
 ·rename_i p;cases j;by_cases c:40<d
  ·simp[lT,lj,l,c,-fB',-eB'];exact⟨rfl,by simp⟩
  ·have a:200<k+1:=by omega
   simp[lT,lj,l,c,a,-fB',-eB'];exact⟨rfl,by simp⟩
 ·rename_i p;have c:¬40<d:=by omega
  have a:¬200<k+1:=by omega
  simp[lT,lj,l,c,a,-fB',-eB'];intro w;refine ah (X:=Int) [1,2,23] [] x.kids.length (λi z=>qun (yN n) d (x.kids.drop i) z=some (ok,m)) (λz=>[]) (λz=>[(2, .box b [.v (.int .i64 z)])]) (k+1) j ?_ ?_
  ·rintro i z hi hz;obtain⟨y,r⟩:=Ly hi;obtain⟨_,q⟩:=qFG.1 r;rw[Qc r,qun]at hz;obtain⟨⟨t,A⟩,hs,hz⟩:=qFF.1 hz;simp only at hz;have h:InR .i64 (d+1):=by simp only[InR];omega
   cases t with
   | true=>
     simp only[if_true]at hz;simp[h1,hi,r,q,hs,h,-fB',-eB'];exact⟨A,hz, .inl rfl⟩
   | false=>
     simp only[qGy,if_false]at hz;cases hz;simp[h1,hi,r,q,hs,h,-fB',-eB'];exact⟨rfl,by simp⟩
  ·rintro z hz;rw[qGw,qun]at hz;cases hz;simp[-fB',-eB'];exact⟨rfl,by simp⟩
abbrev Yo:Spc:=aG (a1 (List Rng)) (λl=>qdV l=true) (enc (X:=Bool)) λ_ y=>y=true
def JS:ak rj pU S (a1 (List Rng)) (λl=>qdV l=true) (enc (X:=Bool)) λ_ y=>y=true:=by
 rintro l hl;obtain⟨r,rfl⟩:∃r,l=[r]:=by
  match l,hl with
  | [r],_=>exact⟨r,rfl⟩
 simp[qdV]at hl;simp[rj,pU,-fB',-eB'];refine ah (X:=Unit) [0,5] [] 1 (λ_ _=>True) (λ_=>[]) (λ_=>[]) () trivial ?_ ?_
 ·rintro k -hk -;obtain rfl:k=0:=by omega
  have a:¬r.fr.val< 0:=by omega
  have b:¬r.to.val<r.fr.val:=by omega
  have c:¬1114111<r.to.val:=by omega
  simp[a,b,c,-fB',-eB']
 ·rintro - -;simp[-fB',-eB']
abbrev Sq:Spc:=aG (a1 Rx) (λx=>quK x=true) (enc (X:=Bool)) λ_ y=>y=true
set_option maxHeartbeats 2000000 in
theorem Hx(h1:S sK=Yo):ak eG eo S (a1 Rx) (λx=>quK x=true) (enc (X:=Bool)) λ_ y=>y=true:=by
 rintro⟨op,mn,mx,rs,ks⟩ hx;have hx:quK ⟨op,mn,mx,rs,ks⟩=true:=hx;unfold quK at hx;simp only at hx;split at hx
 ·rename_i e;subst e;simp at hx;obtain⟨⟨⟨rfl,rfl⟩,rfl⟩,hs⟩:=hx;simp[eG,eo,h1,hs,-fB',-eB'];refine ah (X:=Unit) [1,3] [] 0 (λ_ _=>True) (λ_=>[]) (λ_=>[]) () trivial (λk x hk=>absurd hk (by omega)) (λ_ _=>?_);simp[h1,hs,-fB',-eB']
 split at hx
 ·rename_i e1 e;subst e;simp at hx;obtain⟨⟨⟨⟨rfl,rfl⟩,rfl⟩,hl1,hl3⟩,hk2⟩:=hx;have hlt:(ks.length:Int)<=9223372036854775807:=by omega
  simp[eG,eo,hlt,-fB',-eB'];refine ah (X:=Unit) [1,3,34] [] ks.length (λ_ _=>True) (λ_=>[]) (λ_=>[]) () trivial ?_ ?_
  ·rintro k -hk -;obtain⟨y,hy⟩:=Ly hk;obtain⟨_,hgy⟩:=qFG.1 hy;have hop:=hk2 y (qFK hy);simp[hk,hy,hgy,hop,-fB',-eB']
  ·rintro - -;have hl1':¬(ks.length:Int)=1:=by omega
   simp[hl1,hl1',-fB',-eB']
 split at hx
 ·rename_i e1 e2 e;subst e;simp at hx;obtain⟨⟨⟨⟨rfl,rfl⟩,rfl⟩,hl1,hl3⟩,hk2⟩:=hx;have hlt:(ks.length:Int)<=9223372036854775807:=by omega
  simp[eG,eo,hlt,-fB',-eB'];refine ah (X:=Unit) [1,3,34] [] ks.length (λ_ _=>True) (λ_=>[]) (λ_=>[]) () trivial ?_ ?_
  ·rintro k -hk -;obtain⟨y,hy⟩:=Ly hk;obtain⟨_,hgy⟩:=qFG.1 hy;have hop:=hk2 y (qFK hy);simp[hk,hy,hgy,hop,-fB',-eB']
  ·rintro - -;have hl1':(1:Int)<ks.length:=by omega
   simp[hl1,hl1',-fB',-eB']
 split at hx
 ·rename_i e1 e2 e3 e;subst e;simp at hx;obtain⟨⟨⟨g0,g1,g2⟩,rfl⟩,hl1⟩:=hx;obtain⟨k0,rfl⟩:∃k,ks=[k]:=qG9.1 hl1;simp[eG,eo,-fB',-eB'];refine ah (X:=Unit) [1,3,34] [] 1 (λ_ _=>True) (λ_=>[]) (λ_=>[]) () trivial ?_ ?_
  ·rintro k -hk -;obtain rfl:k=0:=by omega
   simp[-fB',-eB']
  ·rintro - -;simp[g0,g1,-fB',-eB'];exactλh=>⟨λ_=>by omega,by omega⟩
 ·cases hx
abbrev Gm(n:Nat):Spc:=aG (a1 Rx) (λx=>qf2 n x=true) (enc (X:=Bool)) λ_ y=>y=true
def F3(n:Nat)(h1:S qL=Sq)(h2:S jo=Gm n):ak nn mQ S (a1 Rx) (λx=>qf2 (n+1) x=true) (enc (X:=Bool)) λ_ y=>y=true:=by
 rintro x a;have a:qf2 (n+1) x=true:=a;simp only[qf2,qFO,qFN]at a;obtain⟨b,c⟩:=a;simp[nn,mQ,h1,b,-fB',-eB'];intro j;refine ah (X:=Unit) [9] [] x.kids.length (λ_ _=>True) (λ_=>[]) (λ_=>[]) () trivial ?_ ?_
 ·rintro k -hk -;obtain⟨y,d⟩:=Ly hk;obtain⟨_,h⟩:=qFG.1 d;have hp:=c y (qFK d);simp[h2,hk,d,h,hp,-fB',-eB']
 ·rintro - -;simp[-fB',-eB']
abbrev qbP(n:Nat):Spc:=aG (a1 Rx) (λx=>∃m,O5 n x=some m) (enc (X:=Int)) λx y=>O5 n x=some y
set_option maxHeartbeats 1000000 in
theorem Hy(n:Nat)(h1:S kR=qbP n):ak jv ja S (a1 Rx) (λx=>∃m,O5 (n+1) x=some m) (enc (X:=Int)) λx y=>O5 (n+1) x=some y:=by
 rintro x ⟨m,hm⟩;have hm0:=hm;simp only[O5]at hm;split at hm
 ·rename_i e;cases hm;simp[jv,ja,e,hm0,-fB',-eB']
 rename_i e1;obtain⟨k,hk,hm⟩:=qFF.1 hm;simp[jv,ja,e1,-fB',-eB'];intro hkl;refine ah (X:=Int) [1,10] [] x.kids.length (λi z=>quE (O5 n) (x.kids.drop i) z=some k) (λz=>[(3,enc z)]) (λ_=>[]) 0 hk ?_ ?_
 ·rintro i z hi hz;obtain⟨y,hy⟩:=Ly hi;obtain⟨_,hgy⟩:=qFG.1 hy;rw[Qc hy,quE]at hz;obtain⟨v,hv,hz⟩:=qFF.1 hz;split at hz
  ·cases hz
  rename_i hr;have hin:InR .i64 (z+v):=by simp only[InR];omega
  have hp:∃m,O5 n y=some m:=⟨v,hv⟩
  simp[h1,hi,hy,hgy,hv,-fB',-eB'];exact⟨hin,hz⟩
 ·rintro z hz;rw[qGw,quE]at hz;cases hz;split at hm
  ·rename_i e4;cases hm;simp[e4,hm0,-fB',-eB']
  ·rename_i e4;have e4:x.op=4:=by omega
   unfold quG at hm;split at hm
   ·rename_i emx;split at hm
    ·rename_i hb;cases hm;have hin:InR .i64 (k*max x.mn 1):=by simp only[InR];omega
     simp[e4,emx,hin,hm0,-fB',-eB']
    ·cases hm
   ·rename_i emx;split at hm
    ·rename_i hb;cases hm;have hin:InR .i64 (k*x.mx):=by simp only[InR];omega
     simp[e4,emx,hin,hm0,-fB',-eB']
    ·cases hm
abbrev Yq:Spc:=aG (a1 Rx) (λx=>Ga 50 x=true) (enc (X:=Int)) λx y=>y=0
def JV(h1:S tG=qs7 (yN 50))(h2:S jo=Gm 50)(h3:S kR=qbP 50):ak rp pX S (a1 Rx) (λx=>Ga 50 x=true) (enc (X:=Int)) λx y=>y=0:=by
 rintro x b;have b:Ga 50 x=true:=b;simp only[Ga,qFO]at b;obtain⟨⟨c,j⟩,d⟩:=b;obtain⟨⟨t,k⟩,hs,rfl⟩:∃r,yN 50 x 1 0=some r/\r.1=true:=by
  cases h:yN 50 x 1 0 with
  |none=>rw[h]at c;cases c
  |some r=>rw[h]at c;exact⟨r,rfl,c⟩
 obtain⟨m,hm,a⟩:∃m,O5 50 x=some m/\m<=64:=by
  cases h:O5 50 x with
  |none=>rw[h]at d;cases d
  |some r=>rw[h]at d;exact⟨r,rfl,of_decide_eq_true d⟩
 have n64:¬64<m:=by omega
 simp[rp,pX,h1,h2,h3,hs,j,hm,n64,-fB',-eB'];exact a
end
section
open Go.Proofs
def xw:CC:=gq Tryz.f192 [2002002] {} _
def ws:List aj:=[.cell 2 true 5, .tmp 3, .tmp 4]
def Pa:FO tI [2002002] xw ws 66:=fo
def xT:CC:=gq Tryz.f181 [] {} _
def wL:List aj:=[.tmp 2]
def Pw:FO tL [] xT wL 13:=fo
def ro:CC:=gq Tryz.f292 [] {} _
def pW:List aj:=[.tmp 4]
def IE:FO sL [] ro pW 24:=fo
open Cod (enc dec)
variable {S S0:Nat->Spc}
def qEw{Y Z W V:Type}[Cod Y][Cod Z][Cod W][Cod V](x:Y×Z×W×V):D:= .tup [enc x.1,enc x.2.1,enc x.2.2.1,enc x.2.2.2]
@[simp] theorem qEv{Y Z W V:Type}[Cod Y][Cod Z][Cod W][Cod V](y:Y)(z:Z)(w:W)(v:V):qEw (y,z,w,v)= .tup [enc y,enc z,enc w,enc v]:=i' rfl
def qmw(s:B)(i:Int):I32×Int×Int×Bool:=match s.data[i.toNat]? with
 |some c=>(⟨c.toNat⟩,i,1,true)
 |none=>(⟨0⟩,0,0,false)
abbrev s_cpAt:Spc:=aG (a2 B Int) (λx=>x.1.size<=1000/\Cq x.1=true/\0<=x.2/\x.2<=x.1.size) (qEw (Y:=I32) (Z:=Int) (W:=Int) (V:=Bool)) λx y=>y=qmw x.1 x.2
def qlD{s:B}(h:Cq s=true){k:Nat}{c:UInt8}(hc:s.data[k]? =some c):c.toNat< 128:=by
 have:=qFN.1 h c (by rw[<-qF4]at hc;exact qFK hc);exact of_decide_eq_true this
abbrev Kq:Spc:=aG (a1 B) (λs=>∃r,qw s=some r) (qow (Y:=Rx) (Z:=Int) (W:=Int)) λs y=>qw s=some y.1/\y.2=(0,0)
set_option maxHeartbeats 2000000 in
theorem Q2(h1:S Eo=s_cpAt)(h2:S lJ=qh9)(h3:S mB=Yq):ak xw ws S (a1 B) (λs=>∃r,qw s=some r) (qow (Y:=Rx) (Z:=Int) (W:=Int)) λs y=>qw s=some y.1/\y.2=(0,0):=by
 rintro s ⟨r,hr⟩;have hr0:=hr;unfold qw at hr;split at hr
 rotate_left
 ·cases hr
 rename_i hs;obtain⟨hsz,hasc⟩:=hs;obtain⟨⟨p,x,ok⟩,hu,hr⟩:=qFF.1 hr;split at hr
 rotate_left
 ·cases hr
 rename_i hv;obtain⟨rfl,hpos,hval⟩:=hv;cases hr;have n200:¬(200:Int)<s.size:=by omega
 have hs10:s.size<=1000:=by omega
 simp[xw,ws,n200,-fB',-eB'];intro b2 hsz2;refine au (X:=Nat) [0,2] [2] (λi=>i<=s.size) (λi=>[(5,enc (i:Int))]) (λ_=>[]) (λi=>s.size -i) 0 (qF3 _) ?_;rintro i hi;by_cases hlt:i<s.size
 ·obtain⟨c,hc⟩:∃c,s.data[i]? =some c:=⟨s.data[i]'hlt,qGj hlt⟩
  have h128:=qlD hasc hc;have hat:qmw s (i:Int)=((⟨(c.toNat:Int)⟩:I32),(i:Int),(1:Int),true):=by simp[qmw,hc]
  have hff:¬((c.toNat:Int)=65533):=by omega
  simp[h1,hs10,hasc,hat,hff,hi,-fB',-eB'];exact⟨by simp only[InR];omega,i+1,by omega,by omega,by omega⟩
 ·obtain rfl:i=s.size:=by omega
  have hat:qmw s (s.size:Int)=(⟨0⟩,0,0,false):=by
   have:s.data[s.size]? =none:=qGN (qFM _);simp[qmw,this]
  simp only at hpos hval;have npos:¬p.pos<s.size:=by omega
  simp[h1,h2,h3,hs10,hasc,hat,hu,hpos,hval,npos,-fB',-eB'];exactλb _=>⟨x, .same _,hr0⟩
abbrev qdB:Spc:=aG (a1 B) (λs=>∃r,qw s=some r) (enc (X:=Int)) λ_ y=>y=0
def Ro(h1:S tI=Kq):ak xT wL S (a1 B) (λs=>∃r,qw s=some r) (enc (X:=Int)) λ_ y=>y=0:=by
 rintro s ⟨r,a⟩;simp[xT,wL,h1,a,-fB',-eB']
abbrev qnl:Spc:=aG (a2 (List Rng) I32) (λ_=>True) (enc (X:=Bool)) λx y=>y=Wr x.1 x.2.val
theorem JU:ak ro pW S (a2 (List Rng) I32) (λ_=>True) (enc (X:=Bool)) λx y=>y=Wr x.1 x.2.val:=by
 rintro⟨l,⟨c⟩⟩ -;simp[ro,pW,-fB',-eB'];intro p;refine ah (X:=Unit) [1,7] [] l.length (λk _=>Wr (l.take k) c=false) (λ_=>[]) (λ_=>[]) () rfl ?_ ?_
 ·rintro k -hk j;obtain⟨y,h⟩:=Ly hk;obtain⟨_,b⟩:=qFG.1 h;have d:Wr (l.take (k+1)) c=(decide (y.fr.val<=c) && decide (c<=y.to.val)):=by
   have:l.take (k+1)=l.take k++ [y]:=by rw[qGP,h];rfl
   unfold Wr at j ⊢;rw[this,List.any_append,j];simp
  by_cases h1:y.fr.val<=c/\c<=y.to.val
  ·obtain⟨h1,h2⟩:=h1;have a:Wr l c=true:=by
    refine qGU.2 ⟨y,qFK h,by simp[h1,h2]⟩
   simp[hk,h,b,h1,h2,a,-fB',-eB']
  ·have a:Wr (l.take (k+1)) c=false:=by
    rw[d];simp;omega
   by_cases h2:y.fr.val<=c
   ·have h3:¬c<=y.to.val:=λe=>h1 ⟨h2,e⟩
    simp[hk,h,b,h2,h3,a,-fB',-eB']
   ·simp[hk,h,b,h2,a,-fB',-eB']
 ·rintro -j;rw[qFY]at j;simp[j,-fB',-eB']
end
section
open Go.Proofs
def rI:CC:=gq Tryz.f135 [] {} _
def qn:List aj:=[.tmp 6]
def Pv:FO zC [] rI qn 25:=fo
def pn:CC:=gq Tryz.f75 [9,8,7,6,5] { cu:=[1] } _
def oJ:List aj:=[.tmp 10]
def GT:FO fp [9,8,7,6,5] pn oJ 102:=fo
def mh:CC:=gq Tryz.f134 [5] {} _
def lA:List aj:=[.tmp 6]
def DY:FO aN [5] mh lA 13:=fo
def mg:CC:=gq Tryz.f143 [2] {} _
def lz:List aj:=[.tmp 3]
def DX:FO cT [2] mg lz 8:=fo
def nA:CC:=oX [oB 2 (.box qfw true (oT 0)),oB 3 (.box ff false (oT 1)),oB 4 (.mv (.const on)),oB 5 (.mv (oN 0))] [2,3] [3] (.seq (oX [oD 9 7 3,oZ 10 kT [oT 9]] [2,3,10] [3] (.ite (oT 10) (oX [oB 4 (.mv (.const on)),oB 5 (.mv (oN 2))] [4,5] [33] (.ret)) (.skip))) (.keep [2,3] [3] (oX [oD 11 7 3,oZ 12 dO [oT 11],
 oF 7 3 12] [2,3] [3] (.seq (oX [oD 13 7 3,oE 14 0 2,oC 15 1 14,oZ 16 dz [oT 13,oT 15,.const on],oA 6 16] [2,3,6] [3] (oX [oA 17 6,oB 18 (.eql true false [.int] (oT 17) (oN 0))] [2,3,6,18] [3] (.ite (oT 18) (oX [oA 19 6,oB 4 (.mv (.const on)),oA 5 19] [4,5] [33] (.ret)) (.skip)))) (.keep [2,3] [3] (oX [oB 7 (.mv (.const on))] [2,3,7] [3,33] (.seq (oX [oE 20 1 2,
 oC 21 1 20,oB 22 (.len (oT 21)),oB 23 (.mv (oN 0))] [2,3,7,22,23] [3,33] (gd 0 23 22 24 1 (oX [oA 25 23,oA 8 25] [2,3,7,8,22,23] [3,33] (oX [oD 26 7 2,oD 27 7 3,oA 28 8,oZ 29 fp [oT 26,oT 27,oT 28,.const on,.const on]] [2,3,7,8,22,23,29] [3,33] (.ite (oT 29) (.reg [oA 30 7,oA 31 8,oB 32 (.bslice bj 1 [oT 31]),oB 33 (.append none bj 1 8 (oT 30) (oT 32)),
 oA 7 33]) (.skip)))) 34)) (.keep [7] [33] (oX [oA 35 7,oA 4 35,oB 5 (.mv (oN 0))] [4,5] [33] (.ret))))))))))
def mY:List aj:=[.tmp 4, .tmp 5]
def FA:FO js [2] nA mY 36:=fo
open Cod (enc dec)
variable {S S0:Nat->Spc}
def G3(v s:B)(f:Bool):Option Bool:=(qw v).bind λx=>G1 x s f
def qmd(x:B×B×Bool):Prop:=∃y,G3 x.1 x.2.1 x.2.2=some y
def qp0(x:B×B×Bool)(y:Bool):Prop:=G3 x.1 x.2.1 x.2.2=some y
abbrev qdA:Spc:=aG (a3 B B Bool) qmd (enc (X:=Bool)) qp0
def Rm(h1:S tI=Kq)(h2:S zt=qdN false)(h3:S qM=qdN true):ak rI qn S (a3 B B Bool) qmd (enc (X:=Bool)) qp0:=by
 rintro⟨v,s,f⟩ ⟨y,b⟩;have b:G3 v s f=some y:=b;obtain⟨x,a,hm⟩:=qFF.1 b;cases f
 ·have hp:qaR false (x,s):=⟨y,hm⟩
  simp[rI,qn,h1,h2,a,hp,-fB',-eB'];exactλz hz=>by show(qw v).bind _=_;rw[a];exact hz
 ·have hp:qaR true (x,s):=⟨y,hm⟩
  simp[rI,qn,h1,h3,a,hp,-fB',-eB'];exactλz hz=>by show(qw v).bind _=_;rw[a];exact hz
mutual
def iQ:Cond->Cond| .mk op n a v l f ks=>if op=4\/op=6/\sa (.mk op n a v l f ks)=true then⟨1,mq,mq,mq,mq,false, []⟩else⟨op,n,a,v,l,f,D4 ks⟩
def D4:List Cond->List Cond|[]=>[]|k::ks=>iQ k::D4 ks
end
def Te:∀l:List Cond,D4 l=l.map iQ
 | []=>by rw[D4];rfl
 |k::l=>by rw[D4,Te l];rfl
def NA(x:Cond):iQ x=if x.op=4\/x.op=6/\sa x=true then⟨1,mq,mq,mq,mq,false, []⟩else⟨x.op,x.name,x.arg,x.val,x.lab,x.fold,x.kids.map iQ⟩:=by cases x;rw[iQ,Te]
abbrev Yz:Spc:=aG (a1 Cond) (λx=>∃n,dB x<=n) (enc (X:=Bool)) λx y=>y=sa x
abbrev YD(n:Nat):Spc:=aG (a1 Cond) (λx=>dB x<=n/\io x<=60) (enc (X:=Cond)) λx y=>y=iQ x
abbrev qdF:Spc:=aG (a1 Cond) (λx=>∃n,dB x<=n/\io x<=60) (enc (X:=Cond)) λx y=>y=iQ x
def ZP{H:ab}{op:Int}{name arg val lab:B}{fold:Bool}{l:List Cond}{v:Value}(h:H 33=some (.row v ff 7 (l.map enc))):FrzTo H (.agg [.v (.int .i64 op), .v (.string name), .v (.string arg), .v (.string val), .v (.string lab), .v (.bool fold), .own 33 v]) (enc (Cond.mk op name arg val lab fold l)):=by
 simp;refine .agg rfl λk c c' h1 h2=>?_
 match k,h1,h2 with
 | 0,h1,h2|1,h1,h2|2,h1,h2|3,h1,h2|4,h1,h2|5,h1,h2=>cases h1;cases h2;exact .same _
 | 6,h1,h2=>cases h1;cases h2;exact fA ff h
 |k+7,h1,_=>simp at h1
def SV:∀l:List Cond,l.length<=fE l
 | []=>by simp[fE]
 | k::l=>by
   have:=SV l;have:=BC k;rw[fE,qGn];omega
set_option maxHeartbeats 1000000 in
theorem HG(n:Nat)(h1:S bJ=Yz)(h2:S dO=YD n):ak eJ ew S (a1 Cond) (λx=>dB x<=n+1/\io x<=60) (enc (X:=Cond)) λx y=>y=iQ x:=by
 rintro x ⟨hd,hn⟩;have hsm:∃n,dB x<=n:=⟨_,qFM _⟩
 have hany:∀H:ab,Fin (enc (X:=Cond)) (λy=>y=⟨1,mq,mq,mq,mq,false, []⟩) (D.agg [.v (.int .i64 1), .v (.string ⟨#[]⟩), .v (.string ⟨#[]⟩), .v (.string ⟨#[]⟩), .v (.string ⟨#[]⟩), .v (.bool false), .v (.slice none 0 0)]) H:=λH=>by
  refine aL ⟨1,mq,mq,mq,mq,false, []⟩ ?_ rfl;simp[mq];refine .agg rfl λk c c' h1 h2=>?_
  match k,h1,h2 with
  | 0,h1,h2|1,h1,h2|2,h1,h2|3,h1,h2|4,h1,h2|5,h1,h2=>cases h1;cases h2;exact .same _
  | 6,h1,h2=>cases h1;cases h2;exact .nil 7
  |k+7,h1,_=>simp at h1
 by_cases hc:x.op=4\/x.op=6/\sa x=true
 ·have hl:iQ x=⟨1,mq,mq,mq,mq,false, []⟩:=by rw[NA,if_pos hc]
  rcases hc with e|⟨e,e'⟩
  ·simp[eJ,ew,h1,hsm,e,hl,-fB',-eB'];exactλb=>hany _
  ·obtain⟨op,name,arg,val,lab,fold,ks⟩:=x;simp only at e;subst e;simp[eJ,ew,h1,hsm,e',hl,-fB',-eB'];exactλb=>hany _
 ·have hl:iQ x=⟨x.op,x.name,x.arg,x.val,x.lab,x.fold,x.kids.map iQ⟩:=by rw[NA,if_neg hc]
  have e4:¬x.op=4:=λh=>hc (.inl h)
  obtain⟨op,name,arg,val,lab,fold,ks⟩:=x;simp only at hl e4;have hs:op=6->sa ⟨op,name,arg,val,lab,fold,ks⟩=false:=λh=>by
   cases hb:sa ⟨op,name,arg,val,lab,fold,ks⟩with
   |false=>rfl
   |true=>exact absurd (.inr ⟨h,hb⟩) hc
  have hkn:∀y∈ks,dB y<=n/\io y<=60:=λy hy=>by
   have h1:=Qx (p:=⟨op,name,arg,val,lab,fold,ks⟩) hy;have h2:=KT hy;have h3:=BC ⟨op,name,arg,val,lab,fold,ks⟩;simp only at h3;exact⟨by omega,by omega⟩
  have hks:ks.length<=60:=by
   have h3:=BC ⟨op,name,arg,val,lab,fold,ks⟩;simp only at h3;have:=SV ks;omega
  by_cases e6:op=6
  ·subst e6;have hs':=hs rfl;simp[eJ,ew,h1,hsm,hs',hl,-fB',-eB'];intro b2 b3;refine gc (X:=Unit) [1,2] [2] [] [] (λ_=>True) (λ_=>[(3, .bptr 3 b3 0)]) (λ_=>[(3, .box b3 [.v (.int .i64 6), .v (.string name), .v (.string arg), .v (.string val), .v (.string lab), .v (.bool fold), .own 33 (.slice none 0 0)]),(33, .row (.slice none 0 0) ff 7 [])]) [3,33] (λ_=>rfl) (by decide) ?_ ?_
   ·simp;refine⟨.inl (.nilown 33),by simp[isNilRow]⟩
   rintro - -;simp[-fB',-eB'];intro hkl;refine ah (X:=Value×List Cond) [2,3,22] [2] ks.length (λk z=>z.2=(ks.take k).map iQ/\z.2.length=k) (λz=>[]) (λz=>[(3, .box b3 [.v (.int .i64 6), .v (.string name), .v (.string arg), .v (.string val), .v (.string lab), .v (.bool fold), .own 33 z.1]),(33, .row z.1 ff 7 (z.2.map enc))]) (.slice none 0 0, []) ⟨rfl,rfl⟩ ?_ ?_
   ·rintro k ⟨v,l⟩ hk ⟨hl1,hl2⟩;simp only at hl1 hl2;obtain⟨y,hy⟩:=eK hk;obtain⟨_,hgy⟩:=qFG.1 hy;obtain⟨q1,q2⟩:=hkn y (qFK hy);have hk60:ks.length<=60:=hks;simp[h2,hk,hy,hgy,q1,q2,-fB',-eB'];refine⟨by omega,by omega,λv=>⟨v,l++ [iQ y],⟨?_,by simp;omega⟩, .inl rfl, .inl ⟨rfl,by simp⟩⟩⟩;rw[hl1,<-List.map_take,av hy];simp
   ·rintro⟨v,l⟩ ⟨hl1,hl2⟩;simp only at hl1 hl2;rw[qFY]at hl1;simp[-fB',-eB'];exact aL _ (ZP rfl) (by rw[hl1])
  ·simp[eJ,ew,h1,hsm,e4,e6,hl,-fB',-eB'];intro b2 b3;refine gc (X:=Unit) [1,2] [2] [] [] (λ_=>True) (λ_=>[(3, .bptr 3 b3 0)]) (λ_=>[(3, .box b3 [.v (.int .i64 op), .v (.string name), .v (.string arg), .v (.string val), .v (.string lab), .v (.bool fold), .own 33 (.slice none 0 0)]),(33, .row (.slice none 0 0) ff 7 [])]) [3,33] (λ_=>rfl) (by decide) ?_ ?_
   ·simp;refine⟨.inl (.nilown 33),by simp[isNilRow]⟩
   rintro - -;simp[-fB',-eB'];intro hkl;refine ah (X:=Value×List Cond) [2,3,22] [2] ks.length (λk z=>z.2=(ks.take k).map iQ/\z.2.length=k) (λz=>[]) (λz=>[(3, .box b3 [.v (.int .i64 op), .v (.string name), .v (.string arg), .v (.string val), .v (.string lab), .v (.bool fold), .own 33 z.1]),(33, .row z.1 ff 7 (z.2.map enc))]) (.slice none 0 0, []) ⟨rfl,rfl⟩ ?_ ?_
   ·rintro k ⟨v,l⟩ hk ⟨hl1,hl2⟩;simp only at hl1 hl2;obtain⟨y,hy⟩:=eK hk;obtain⟨_,hgy⟩:=qFG.1 hy;obtain⟨q1,q2⟩:=hkn y (qFK hy);have hk60:ks.length<=60:=hks;simp[h2,hk,hy,hgy,q1,q2,-fB',-eB'];refine⟨by omega,by omega,λv=>⟨v,l++ [iQ y],⟨?_,by simp;omega⟩, .inl rfl, .inl ⟨rfl,by simp⟩⟩⟩;rw[hl1,<-List.map_take,av hy];simp
   ·rintro⟨v,l⟩ ⟨hl1,hl2⟩;simp only at hl1 hl2;rw[qFY]at hl1;simp[-fB',-eB'];exact aL _ (ZP rfl) (by rw[hl1])
def featS:List B:=[⟨#[124]⟩,⟨#[124,112,124]⟩,⟨#[124,112,124,113,124]⟩,⟨#[124,113,124]⟩]
def VT(s v:B):Option Bool:=if(featS.any λz=>decide (z=s))=true/\(v=⟨#[112]⟩\/v=⟨#[113]⟩)then some (s.data.toList.any λc=>decide (v.data.toList=[c]))else none
structure R9 where
 c:Corpus
 tok:Int
 lb:List B
 bd:List Int
def nJ(E:R9):Nat->Cond->Option Bool
 | 0=>λ_=>none
 | n+1=>λx=>
   if x.op=1 then some true else
   if x.op=2 then G3 x.val (ya E.c.toks E.tok (BN E.c.attrs x.name)) x.fold else
   if x.op=3 then VT (ya E.c.toks E.tok (mN E.c.attrs x.name)) x.val else
   if x.op=4 then(if fe E.lb (λz=>decide (z=x.lab))< 0 then none else match E.bd[(fe E.lb λz=>decide (z=x.lab)).toNat]? with
    |some o=>some (decide (0<=o) && decide (ya E.c.toks E.tok (mN E.c.attrs x.name)=ya E.c.toks o (mN E.c.attrs x.arg)))
    |none=>none)else
   if x.op=5 then some (E.c.regs.any (OV x E.tok))else
   if x.op=6 then(match x.kids with|k::_=>(nJ E n k).map not|[]=>none)else
   if(x.kids.all λk=>(nJ E n k).isSome)=true then
    (if x.op=7 then some (!(x.kids.any λk=>!((nJ E n k).getD false)))else some (x.kids.any λk=>(nJ E n k).getD false))
   else none
def qqL(c:Corpus):Prop:=c.toks.length<=100000/\(∀r∈c.toks,r.length<=100000)/\c.attrs.length<=1000
abbrev HZ:=Corpus×Cond×Int×List B×List Int
def qoy(z:HZ):R9:=⟨z.1,z.2.2.1,z.2.2.2.1,z.2.2.2.2⟩
def qmx(n:Nat)(z:HZ):Prop:=qqL z.1/\∃y,nJ (qoy z) n z.2.1=some y
def qsH(n:Nat)(z:HZ)(y:Bool):Prop:=nJ (qoy z) n z.2.1=some y
abbrev aH:dP HZ:=aE Corpus (a4 Cond Int (List B) (List Int))
abbrev It(n:Nat):Spc:=aG aH (qmx n) (enc (X:=Bool)) (qsH n)
def qmv(c:Corpus):List D:=[.list 2 (c.attrs.map enc), .list 1 (c.toks.map enc), .list 4 (c.texts.map enc), .list 4 (c.regs.map enc), .list 4 (c.nodes.map enc), .list 1 (c.heads.map enc), .list 1 (c.rels.map enc)]
def qeB(c:Corpus): .agg (qmv c)=enc c:=by simp[qmv]
def qoI{x y:Corpus}(h:qmv x=qmv y):x=y:=aP (by rw[<-qeB,<-qeB,h])
def qld(z:HZ):List D:=[.cptr (qmv z.1) 0, .cptr [enc z.2.2.1] 0, .cptr [enc z.2.2.2.1] 0, .cptr [enc z.2.2.2.2] 0]
def qmr(z:HZ):List D:=enc z.2.1::qld z
def qs3(z:HZ):List D:=[enc z.2.1, .cptr [.clo aN (qld z)] 0]
def Nl(z j:HZ)(h:qmr z=qmr j):z=j:=by
 obtain⟨a,b,c,d,e⟩:=z;obtain⟨k,b',c',l,p⟩:=j;unfold qmr qld at h;simp only[qGd,D.cptr.injEq,and_true]at h;rw[aP h.1,qoI h.2.1,aP h.2.2.1,aP h.2.2.2.1,aP h.2.2.2.2]
def qdg(z a:HZ)(h:qs3 z=qs3 a):z=a:=by
 unfold qs3 at h;simp only[qGd,D.cptr.injEq,D.clo.injEq,and_true,true_and]at h;refine Nl z a ?_;unfold qmr;rw[h.1,h.2]
noncomputable abbrev aH1:dP HZ:=aX qmr Nl
noncomputable abbrev qEV:dP HZ:=aX qs3 qdg
noncomputable abbrev qbR(n:Nat):Spc:=aG aH1 (qmx n) (enc (X:=Bool)) (qsH n)
noncomputable abbrev qiy(n:Nat):Spc:=aG qEV (qmx n) (enc (X:=Bool)) λz y=>∃b,nJ (qoy z) n z.2.1=some b/\y=!b
def qfm(n:Nat)(h1:S fp=It n):ak mh lA S aH1 (qmx n) (enc (X:=Bool)) (qsH n):=by
 rintro z hz;rw[Fg];obtain⟨c,x,tok,lb,bd⟩:=z;simp[qmr,qld,qmv,mh,lA,h1,hz,-fB',-eB']
@[simp] theorem qzR(c:Corpus)(x:Cond)(tok:Int)(lb:List B)(bd:List Int):aH1.dec [.agg [.v (.int .i64 x.op), .v (.string x.name), .v (.string x.arg), .v (.string x.val), .v (.string x.lab), .v (.bool x.fold), .list 7 (x.kids.map enc)], .cptr [.list 2 (c.attrs.map enc), .list 1 (c.toks.map enc), .list 4 (c.texts.map enc), .list 4 (c.regs.map enc), .list 4 (c.nodes.map enc), .list 1 (c.heads.map enc), .list 1 (c.rels.map enc)] 0, .cptr [.v (.int .i64 tok)] 0, .cptr [.list 1 (lb.map enc)] 0, .cptr [.list 1 (bd.map enc)] 0]=some (c,x,tok,lb,bd):=by
 have h:=Hs qmr Nl (c,x,tok,lb,bd);have e:qmr (c,x,tok,lb,bd)=[.agg [.v (.int .i64 x.op), .v (.string x.name), .v (.string x.arg), .v (.string x.val), .v (.string x.lab), .v (.bool x.fold), .list 7 (x.kids.map enc)], .cptr [.list 2 (c.attrs.map enc), .list 1 (c.toks.map enc), .list 4 (c.texts.map enc), .list 4 (c.regs.map enc), .list 4 (c.nodes.map enc), .list 1 (c.heads.map enc), .list 1 (c.rels.map enc)] 0, .cptr [.v (.int .i64 tok)] 0, .cptr [.list 1 (lb.map enc)] 0, .cptr [.list 1 (bd.map enc)] 0]:=by simp[qmr,qld,qmv]
 rw[<-e];exact h
def qfl(n:Nat)(h1:S aN=qbR n):ak mg lz S qEV (qmx n) (enc (X:=Bool)) λz y=>∃b,nJ (qoy z) n z.2.1=some b/\y=!b:=by
 rintro z hz;rw[Fg];obtain⟨c,x,tok,lb,bd⟩:=z;simp[qs3,qld,qmv,mg,lz,h1,hz,-fB',-eB'];exactλy a=>a
abbrev qiA:Spc:=aG (a2 B B) (λx=>∃b,VT x.1 x.2=some b) (enc (X:=Bool)) λx y=>VT x.1 x.2=some y
set_option maxHeartbeats 4000000 in
theorem qmR(n:Nat)(h0:S0 aN=qbR n)(h0':S0 cT=qiy n)(h1:S aN=qbR n)(h2:S bI=YP Cond S0)(h3:S kU=OM)(h4:S re=YJ)(h5:S zC=qdA)(h6:S bX=EX)(h7:S zB=qiA)(h8:S cY=OK)(h9:S oR=qiE):
 ak pn oJ S aH (qmx (n+1)) (enc (X:=Bool)) (qsH (n+1)):=by
 rintro⟨c,x,tok,lb,bd⟩ ⟨⟨z1,z2,z3⟩,y,hy⟩;simp only at z1 z2 z3;have hy0:nJ ⟨c,tok,lb,bd⟩ (n+1) x=some y:=hy;have hQ:∀w,w=y->qsH (n+1) (c,x,tok,lb,bd) w:=λw e=>by subst e;exact hy
 clear hy;obtain⟨op,name,arg,val,lab,fold,ks⟩:=x;unfold nJ at hy0;simp only at hy0;have hval:∀i k:Int,qqL c:=λ_ _=>⟨z1,z2,z3⟩
 simp[pn,oJ,-fB',-eB'];refine gc (X:=Unit) [5,6,7,8,9] [] [11] [] (λ_=>True) (λ_=>[(11, .cptr [.clo aN (qld (c,⟨op,name,arg,val,lab,fold,ks⟩,tok,lb,bd))] 0)]) (λ_=>[]) [] (λ_=>rfl) (by decide) ?_ ?_
 ·simp[qld,qmv];exactλb=> .box rfl
 rintro - -;simp only[qld,qmv];split at hy0
 ·rename_i e;subst e;obtain rfl:=qFT hy0;simp[-fB',-eB'];exact hQ _ rfl
 rename_i e1;split at hy0
 ·rename_i e;subst e;have hM:qmd (val,ya c.toks tok (BN c.attrs name),fold):=⟨y,hy0⟩
  simp[h3,h4,h5,z1,z2,z3,hM,-fB',-eB'];refine⟨z2,λw hw=>hQ _ (qFT (hw.symm.trans hy0))⟩
 rename_i e2;split at hy0
 ·rename_i e;subst e;have hM:∃b,VT (ya c.toks tok (mN c.attrs name)) val=some b:=⟨y,hy0⟩
  simp[h6,h4,h7,z1,z2,z3,hM,-fB',-eB'];refine⟨z2,λw hw=>hQ _ (qFT (hw.symm.trans hy0))⟩
 rename_i e3;split at hy0
 ·rename_i e;subst e;split at hy0
  ·cases hy0
  rename_i hj;obtain⟨j,hjj⟩:∃j,j=fe lb λz=>decide (z=lab):=⟨_,rfl⟩
  rw[<-hjj]at hj hy0;cases ho:bd[j.toNat]? with
  |none=>rw[ho]at hy0;cases hy0
  |some o=>
  rw[ho]at hy0;have hy1:(decide (0<=o) && decide (ya c.toks tok (mN c.attrs name)=ya c.toks o (mN c.attrs arg)))=y:=qFT hy0;have j0:0<=j:=by omega
  obtain⟨hjl,hgo⟩:=qFG.1 ho;have j1:j<(bd.length:Int):=by omega
  by_cases h0o:0<=o
  ·simp[h8,<-hjj,j0,j1,ho,hgo,h0o,h6,h4,z1,z2,z3,-fB',-eB'];exact⟨⟨z2,hQ _ (by rw[<-hy1];simp[h0o])⟩,λh=>by omega⟩
  ·simp[h8,<-hjj,j0,j1,ho,hgo,h0o,-fB',-eB'];exactλ_=>hQ _ (by rw[<-hy1];simp[h0o])
 rename_i e4;split at hy0
 ·rename_i e;subst e;have hy1:=qFT hy0;simp[h9,-fB',-eB'];exact hQ _ hy1
 rename_i e5;split at hy0
 ·rename_i e;subst e;split at hy0
  ·rename_i k ks';obtain⟨b,hb,rfl⟩:=qFR.1 hy0;have hp:qmx n (c,k,tok,lb,bd):=⟨⟨z1,z2,z3⟩,b,hb⟩
   simp[h1,hp,-fB',-eB'];intro w hw;have hw:nJ ⟨c,tok,lb,bd⟩ n k=some w:=hw;rw[hb]at hw;cases hw;exact hQ _ rfl
  ·cases hy0
 rename_i e6;split at hy0
 rotate_left
 ·cases hy0
 rename_i hall;have hal:∀k∈ks,∃b,nJ ⟨c,tok,lb,bd⟩ n k=some b:=λk hk=>qGG.1 (qFN.1 hall k hk)
 have hf2:FunOn S0 (.clo cT [.cptr [.clo aN (qld (c,⟨op,name,arg,val,lab,fold,ks⟩,tok,lb,bd))] 0]) ks λk=>!((nJ ⟨c,tok,lb,bd⟩ n k).getD false):=
  wb (f:=λk=>(c,k,tok,lb,bd)) h0' (λk _=>Hs qs3 qdg (c,k,tok,lb,bd)) (λk hk=>⟨⟨z1,z2,z3⟩,hal k hk⟩) (λk hk y hy=>by
   obtain⟨b,h1,h2⟩:=hy;have h1:nJ ⟨c,tok,lb,bd⟩ n k=some b:=h1;rw[h2,h1];rfl)
 have hf1:FunOn S0 (.clo aN (qld (c,⟨op,name,arg,val,lab,fold,ks⟩,tok,lb,bd))) ks λk=>(nJ ⟨c,tok,lb,bd⟩ n k).getD false:=
  wb (f:=λk=>(c,k,tok,lb,bd)) h0 (λk _=>Hs qmr Nl (c,k,tok,lb,bd)) (λk hk=>⟨⟨z1,z2,z3⟩,hal k hk⟩) (λk hk y hy=>by
   have h1:nJ ⟨c,tok,lb,bd⟩ n k=some y:=hy;rw[h1];rfl)
 split at hy0
 ·rename_i e;subst e;have hy1:=qFT hy0;simp[h2,-fB',-eB'];exact⟨⟨_,hf2⟩,λw hw=>hQ _ (by rw[hw _ hf2];exact hy1)⟩
 ·rename_i e7;have hy1:=qFT hy0;simp[h2,e1,e2,e3,e4,e5,e6,e7,-fB',-eB'];exact⟨⟨_,hf1⟩,λw hw=>hQ _ (by rw[hw _ hf1];exact hy1)⟩
def qel(s:B):List B:=if s=⟨#[124,112,124]⟩then[⟨#[112]⟩]else if s=⟨#[124,112,124,113,124]⟩then[⟨#[112]⟩,⟨#[113]⟩]else if s=⟨#[124,113,124]⟩then[⟨#[113]⟩]else[]
abbrev Yv:Spc:=aG (a1 B) (λs=>s∈featS) (kZ (Y:=List B) (Z:=Int)) λs y=>y=(qel s,0)
set_option maxHeartbeats 1000000 in
theorem Xz(h1:S cQ=Kp):vc S cK (vE cG λr H'=>Fin (kZ (Y:=List B) (Z:=Int)) (λy=>y=([⟨#[112]⟩],0)) r H') (dR ((a1 B).view (⟨#[124,112,124]⟩:B))) bS:=by
 have hv:DZ ⟨#[124,112,124]⟩=true:=by decide
 have hsz:(⟨#[124,112,124]⟩:B).size=3:=rfl;have x1:((⟨#[124,112,124]⟩:B).extract 1 2)=⟨#[112]⟩:=by decide
 simp[cK,cG,h1,hv,hsz,-fB',-eB'];refine⟨by simp[InR],?_⟩;refine au (X:=Int×Int×Value×List B) [0] [] (λz=>z.1=1/\z.2.1=1/\z.2.2.2=([]:List B)\/z.1=1/\z.2.1=2/\z.2.2.2=([]:List B)\/z.1=3/\z.2.1=3/\z.2.2.2=([⟨#[112]⟩]:List B)) (λz=>[(5, .own 51 z.2.2.1),(6,enc z.1),(7,enc z.2.1)]) (λz=>[(51, .row z.2.2.1 aw 1 (z.2.2.2.map enc))]) (λz=>(3 -z.2.1).toNat) (1,1, .slice none 0 0, []) (by simp) ?_ (hh:=by simp[isNilRow]);rintro⟨f,i,v,l⟩ hz;simp only at hz;rcases hz with⟨rfl,rfl,rfl⟩|⟨rfl,rfl,rfl⟩|⟨rfl,rfl,rfl⟩
 ·simp[hsz,x1,-fB',-eB'];exact⟨by simp[InR],1,2,v, [],by simp,⟨⟨rfl,rfl,rfl⟩, .inl ⟨rfl,rfl⟩⟩,by omega⟩
 ·simp[hsz,x1,-fB',-eB'];exactλv=>⟨by simp[InR],3,3,v, [⟨#[112]⟩],by simp,⟨⟨rfl,rfl,rfl⟩, .inl ⟨rfl,rfl⟩⟩,by omega⟩
 ·simp[hsz,-fB',-eB'];refine au (X:=Int) [5] [51] (λi=>i=1) (λi=>[(8,enc i)]) (λ_=>[]) (λi=>(3 -i).toNat) 1 (by simp) ?_;rintro i hi;subst hi;simp[-fB',-eB'];exact fA (l:=([⟨#[112]⟩]:List B)) aw rfl
set_option maxHeartbeats 1000000 in
theorem Rk(h1:S cQ=Kp):vc S cK (vE cG λr H'=>Fin (kZ (Y:=List B) (Z:=Int)) (λy=>y=([⟨#[112]⟩,⟨#[113]⟩],0)) r H') (dR ((a1 B).view (⟨#[124,112,124,113,124]⟩:B))) bS:=by
 have hv:DZ ⟨#[124,112,124,113,124]⟩=true:=by decide
 have hsz:(⟨#[124,112,124,113,124]⟩:B).size=5:=rfl;have x1:((⟨#[124,112,124,113,124]⟩:B).extract 1 2)=⟨#[112]⟩:=by decide
 have x3:((⟨#[124,112,124,113,124]⟩:B).extract 3 4)=⟨#[113]⟩:=by decide
 simp[cK,cG,h1,hv,hsz,-fB',-eB'];refine⟨by simp[InR],?_⟩;refine au (X:=Int×Int×Value×List B) [0] [] (λz=>z.1=1/\z.2.1=1/\z.2.2.2=([]:List B)\/z.1=1/\z.2.1=2/\z.2.2.2=([]:List B)\/z.1=3/\z.2.1=3/\z.2.2.2=([⟨#[112]⟩]:List B)\/z.1=3/\z.2.1=4/\z.2.2.2=([⟨#[112]⟩]:List B)\/z.1=5/\z.2.1=5/\z.2.2.2=([⟨#[112]⟩,⟨#[113]⟩]:List B)) (λz=>[(5, .own 51 z.2.2.1),(6,enc z.1),(7,enc z.2.1)]) (λz=>[(51, .row z.2.2.1 aw 1 (z.2.2.2.map enc))]) (λz=>(5 -z.2.1).toNat) (1,1, .slice none 0 0, []) (by simp) ?_ (hh:=by simp[isNilRow]);rintro⟨f,i,v,l⟩ hz;simp only at hz;rcases hz with⟨rfl,rfl,rfl⟩|⟨rfl,rfl,rfl⟩|⟨rfl,rfl,rfl⟩|⟨rfl,rfl,rfl⟩|⟨rfl,rfl,rfl⟩
 ·simp[hsz,x1,x3,-fB',-eB'];exact⟨by simp[InR],1,2,v, [],by simp,⟨⟨rfl,rfl,rfl⟩, .inl ⟨rfl,rfl⟩⟩,by omega⟩
 ·simp[hsz,x1,x3,-fB',-eB'];exactλv=>⟨by simp[InR],3,3,v, [⟨#[112]⟩],by simp,⟨⟨rfl,rfl,rfl⟩, .inl ⟨rfl,rfl⟩⟩,by omega⟩
 ·simp[hsz,x1,x3,-fB',-eB'];exact⟨by simp[InR],3,4,v, [⟨#[112]⟩],by simp,⟨⟨rfl,rfl,rfl⟩, .inl ⟨rfl,rfl⟩⟩,by omega⟩
 ·simp[hsz,x1,x3,-fB',-eB'];exactλv=>⟨by simp[InR],5,5,v, [⟨#[112]⟩,⟨#[113]⟩],by simp,⟨⟨rfl,rfl,rfl⟩, .inl ⟨rfl,rfl⟩⟩,by omega⟩
 ·simp[hsz,-fB',-eB'];refine au (X:=Int) [5] [51] (λi=>i=1\/i=2) (λi=>[(8,enc i)]) (λ_=>[]) (λi=>(3 -i).toNat) 1 (by simp) ?_;rintro i hi;rcases hi with rfl|rfl
  ·simp[-fB',-eB'];exact⟨by simp[InR],by decide,λ_=>by simp[InR]⟩
  ·simp[-fB',-eB'];exact fA (l:=([⟨#[112]⟩,⟨#[113]⟩]:List B)) aw rfl
set_option maxHeartbeats 1000000 in
theorem Xy(h1:S cQ=Kp):vc S cK (vE cG λr H'=>Fin (kZ (Y:=List B) (Z:=Int)) (λy=>y=([⟨#[113]⟩],0)) r H') (dR ((a1 B).view (⟨#[124,113,124]⟩:B))) bS:=by
 have hv:DZ ⟨#[124,113,124]⟩=true:=by decide
 have hsz:(⟨#[124,113,124]⟩:B).size=3:=rfl;have x1:((⟨#[124,113,124]⟩:B).extract 1 2)=⟨#[113]⟩:=by decide
 simp[cK,cG,h1,hv,hsz,-fB',-eB'];refine⟨by simp[InR],?_⟩;refine au (X:=Int×Int×Value×List B) [0] [] (λz=>z.1=1/\z.2.1=1/\z.2.2.2=([]:List B)\/z.1=1/\z.2.1=2/\z.2.2.2=([]:List B)\/z.1=3/\z.2.1=3/\z.2.2.2=([⟨#[113]⟩]:List B)) (λz=>[(5, .own 51 z.2.2.1),(6,enc z.1),(7,enc z.2.1)]) (λz=>[(51, .row z.2.2.1 aw 1 (z.2.2.2.map enc))]) (λz=>(3 -z.2.1).toNat) (1,1, .slice none 0 0, []) (by simp) ?_ (hh:=by simp[isNilRow]);rintro⟨f,i,v,l⟩ hz;simp only at hz;rcases hz with⟨rfl,rfl,rfl⟩|⟨rfl,rfl,rfl⟩|⟨rfl,rfl,rfl⟩
 ·simp[hsz,x1,-fB',-eB'];exact⟨by simp[InR],1,2,v, [],by simp,⟨⟨rfl,rfl,rfl⟩, .inl ⟨rfl,rfl⟩⟩,by omega⟩
 ·simp[hsz,x1,-fB',-eB'];exactλv=>⟨by simp[InR],3,3,v, [⟨#[113]⟩],by simp,⟨⟨rfl,rfl,rfl⟩, .inl ⟨rfl,rfl⟩⟩,by omega⟩
 ·simp[hsz,-fB',-eB'];refine au (X:=Int) [5] [51] (λi=>i=1) (λi=>[(8,enc i)]) (λ_=>[]) (λi=>(3 -i).toNat) 1 (by simp) ?_;rintro i hi;subst hi;simp[-fB',-eB'];exact fA (l:=([⟨#[113]⟩]:List B)) aw rfl
def Mx(h1:S cQ=Kp):ak cK cG S (a1 B) (λs=>s∈featS) (kZ (Y:=List B) (Z:=Int)) λs y=>y=(qel s,0):=by
 rintro s hs;have hs:s∈featS:=hs;simp only[featS,qFP,qGi,or_false]at hs;rcases hs with rfl|rfl|rfl|rfl
 ·have a:DZ ⟨#[124]⟩=true:=by decide
  have e:qel ⟨#[124]⟩=[]:=by decide
  simp[cK,cG,h1,a,e,-fB',-eB']
 ·exact Xz h1
 ·exact Rk h1
 ·exact Xy h1
abbrev qiB:Spc:=aG (a2 (List B) B) (λ_=>True) (enc (X:=Bool)) λx y=>y=vw x.1 x.2
theorem F5:ak nw mV S (a2 (List B) B) (λ_=>True) (enc (X:=Bool)) λx y=>y=vw x.1 x.2:=by
 rintro⟨l,s⟩ -;simp[nw,mV,-fB',-eB'];intro hl;refine ah (X:=Unit) [1,7] [] l.length (λk _=>∀x∈l.take k,decide (x=s)=false) (λ_=>[]) (λ_=>[]) () (by simp) ?_ ?_
 ·intro k _ hk b;obtain⟨x,a⟩:=eK hk;obtain⟨_,c⟩:=qFG.1 a;simp[hk,a,c,-fB',-eB'];refine⟨λh=>?_,λh=>?_⟩
  ·have:vw l s=true:=qGU.2 ⟨x,qFK a,by simp[h]⟩;exact this
  ·rw[av a];intro z hz;rcases qFL.1 hz with hz|hz
   ·have:=b z hz;simpa using this
   ·simp at hz;subst hz;exact h
 ·intro _ b;rw[qFY]at b;simp[-fB',-eB'];have:vw l s=false:=by
   rw[vw,List.any_eq_false];intro x a;rw[b x a];simp
  exact this
def Rl(h1:S uR=Yv)(h2:S oQ=qiB):ak xS wK S (a2 B B) (λx=>∃b,VT x.1 x.2=some b) (enc (X:=Bool)) λx y=>VT x.1 x.2=some y:=by
 rintro⟨s,f⟩ ⟨b,hb⟩;have hb:VT s f=some b:=hb;have a:=hb;unfold VT at hb;split at hb
 rotate_left
 ·cases hb
 rename_i hc;obtain⟨c1,c2⟩:=hc;obtain⟨z,hz,c⟩:=qGU.1 c1;obtain rfl:z=s:=of_decide_eq_true c;have e:vw (qel z) f=b:=by
  have hb:=qFT hb;rw[<-hb];simp only[featS,qFP,qGi,or_false]at hz;rcases hz with rfl|rfl|rfl|rfl<;>rcases c2 with rfl|rfl<;>decide
 simp[xS,wK,h1,h2,hz,e,-fB',-eB'];exact a
end
section
variable {dq:Prop}
section
variable {P:Program}{im:List Nat}{E:CO}{S:Nat->Spc}
end
end
end Go.Gv
