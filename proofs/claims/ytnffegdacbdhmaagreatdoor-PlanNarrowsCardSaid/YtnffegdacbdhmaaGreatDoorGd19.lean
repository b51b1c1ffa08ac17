/- W131 -/
import Derived.Test.YtnffegdacbdhmaaGreatDoorGd18
set_option linter.all false
set_option maxRecDepth 100000
set_option maxHeartbeats 0
open Bool renaming forall_bool → fB', exists_bool → eB'
namespace Go.Gv
open Cod (enc dec)
variable {S S0:Nat->Spc}
abbrev EN:(Rx×Bool)->D:=mj (Y:=Rx) (Z:=Bool)
abbrev qeh:Spc:=qdj a0 EN qj7
abbrev ZW:Spc:=qdj a0 EN qbf
def qqh{b:Nat}{post:Rp->(Rx×Bool)->Prop}{x:Rx}{v:Bool}{H:ab}(s:Rp)(h0:H 0=some (.box b (sJ s)))(hq:post s (x,v)):Hi EN b post (.tup [enc x, .v (.bool v)]) H:=GJ s (x,v) (.same _) h0 hq
def EF{b:Nat}{post:Rp->(Rx×Bool)->Prop}{x:Rx}{v:Bool}{H:ab}(s:Rp)(h0:H 0=some (.box b (sJ s)))(hq:post s (x,v)):Hi EN b post (.tup [.agg [.v (.int .i64 x.op), .v (.int .i64 x.mn), .v (.int .i64 x.mx), .list 2 (x.rs.map enc), .list 5 (x.kids.map enc)], .v (.bool v)]) H:=by
 have e:(D.agg [.v (.int .i64 x.op), .v (.int .i64 x.mn), .v (.int .i64 x.mx), .list 2 (x.rs.map enc), .list 5 (x.kids.map enc)])=enc x:=by simp
 rw[e];exact qqh s h0 hq
set_option maxHeartbeats 1000000 in
theorem QK(h1:S bA=vW)(h2:S BN=qef)(h3:S kW=qeh)(h4:S iQ=s_crune)(h5:S ei=Rv):vF eI eA S a0 EN (λs z=>∃r,qbf s z=some r) (λs z s' y=>qbf s z=some (s',y)):=by
 rintro b s ⟨⟩ ⟨r,hr⟩;have hr0:=hr;obtain⟨c,hc,h⟩:=qzU.1 hr;have hsz:=Co hc;have h128:c< 128:=by
  rcases hsz.2 with⟨_,rfl⟩|⟨_,_,_,x,_,hlt,rfl⟩ <;>omega
 split at h
 ·cases h
 rename_i e40;split at h
 ·rename_i e46;subst e46;have hp:InR .i64 (s.pos+1):=by
   rcases hsz.2 with⟨_,e⟩|⟨_,_,_,x,_,hlt,e⟩
   ·cases e
   ·simp only[InR];omega
  cases h;simp[eI,eA,h1,h2,lQ,hc,hp,-fB',-eB'];exactλ_=>EF s.bump (by simp[Rp.bump]) hr0
 rename_i e46;split at h
 ·rename_i e91;subst e91;obtain⟨s',x',t'⟩:=r;simp[eI,eA,h1,h3,lQ,hc,h,-fB',-eB'];exactλ_=>EF s' (by simp) hr0
 rename_i e91;split at h
 ·cases h
 ·rename_i hn;obtain⟨q,hq,rfl⟩:=qz6.1 h;obtain⟨s',⟨c'⟩,t'⟩:=q;have hq':=hq;obtain⟨c2,hc2,h'⟩:=qzU.1 hq';rw[hc]at hc2;obtain rfl:=qAg hc2;split at h'
  ·cases h'
  rename_i hn2;have n0:0<=c:=by omega
  have n92:c≠92:=λe=>hn2 (.inr e)
  have nin:qjy ⟨#[92,46,91,93,40,41,123,125,124,42,43,63]⟩ c=false:=by
   cases e:qjy ⟨#[92,46,91,93,40,41,123,125,124,42,43,63]⟩ c with
   |false=>rfl
   |true=>exact absurd ⟨n92,e⟩ hn
  have hq2:Dv s ⟨#[92,46,91,93,40,41,123,125,124,42,43,63]⟩=some (s',⟨c'⟩,t'):=hq;simp[eI,eA,h1,h2,h4,h5,lQ,hc,e40,e46,e91,n0,n92,h128,nin,hq2,-fB',-eB'];exactλ_=>EF s' (by simp) hr0
abbrev qee:Spc:=qdj a0 EN qeV
def qbb{p:Rp}{c:Int}(h:NL p=some c):c< 128/\ -1<=c/\(0<=c->InR .i64 (p.pos+1)):=by
 obtain⟨h1,h2⟩:=Co h;rcases h2 with⟨_,rfl⟩|⟨_,_,_,x,_,hlt,rfl⟩
 ·exact⟨by omega,by omega,λh=>absurd h (by omega)⟩
 ·exact⟨by omega,by omega,λ_=>by simp only[InR];omega⟩
def qb2{c:Int}{m:Int×Int}(h:OK c=some m):c=42/\m=(0, -1)\/c=43/\m=(1, -1)\/c=63/\m=(0,1):=by
 unfold OK at h;split at h
 ·exact .inl ⟨by assumption,(qAg h).symm⟩
 split at h
 ·exact .inr (.inl ⟨by assumption,(qAg h).symm⟩)
 split at h
 ·exact .inr (.inr ⟨by assumption,(qAg h).symm⟩)
 cases h
def PP{c:Int}(h:OK c=none):c≠42/\c≠43/\c≠63:=by
 unfold OK at h;refine⟨λe=>?_,λe=>?_,λe=>?_⟩ <;>(subst e;simp at h)
def yE(o:Option (Int×Int))(x:Rx):List D:=match o with
 |none=>[.v (.int .i64 x.op), .v (.int .i64 x.mn), .v (.int .i64 x.mx), .list 2 (x.rs.map enc), .list 5 (x.kids.map enc)]
 |some m=>[.v (.int .i64 4), .v (.int .i64 m.1), .v (.int .i64 m.2), .v (.slice none 0 0), .list 5 [enc x]]
def qqg{b:Nat}{post:Rp->(Rx×Bool)->Prop}{m:Int×Int}{e:Rx}{H:ab}(s:Rp)(h0:H 0=some (.box b (sJ s)))(hq:post s (⟨4,m.1,m.2, [], [e]⟩,true)):Hi EN b post (.tup [.agg (yE (some m) e), .v (.bool true)]) H:=by
 refine GJ s (⟨4,m.1,m.2, [], [e]⟩,true) (.tup rfl λk c c' hc hc'=>?_) h0 hq
 match k with
 | 0=>cases hc;cases hc';exact SG [] [e] (.nil _) (.same _)
 | 1=>cases hc;cases hc';exact .same _
 |k+2=>simp at hc
set_option maxHeartbeats 2000000 in
theorem Lf(h1:S bA=vW)(h2:S mh=ZW):vF iZ iG S a0 EN (λs z=>∃r,qeV s z=some r) (λs z s' y=>qeV s z=some (s',y)):=by
 rintro b s ⟨⟩ ⟨r,hr⟩;have hr0:=hr;obtain⟨⟨s1,e,ok⟩,ha,h⟩:=qzU.1 hr;simp only at h;split at h
 rotate_left
 ·cases h
 rename_i hok;subst hok;obtain⟨c,hc,h⟩:=qzU.1 h;split at h
 ·cases h
 rename_i e123;have hcc:=qbb hc;simp[iZ,iG,h2,ha,-fB',-eB'];intro b2 b4;refine ay (X:=Option (Int×Int)) [0,2,4,5] [2] (λo=>∀m,o=some m->OK c=some m) (λ_=>[]) (λo=>[(0, .box b (sJ (match o with|none=>s1|some _=>s1.bump))),(4, .box b4 (yE o e))]) (λo=>match o with|none=>1|some _=>0) none (λm h=>by cases h) ?_ (hh:=by simp[yE]);rintro(_|m) hP
 ·cases hm:OK c with
  | none=>
    rw[hm]at h;cases h;obtain⟨n1,n2,n3⟩:=PP hm;simp[yE,h1,lQ,hc,n1,n2,n3,e123,-fB',-eB'];exact EF s1 (by simp) hr0
  | some m=>
    rcases qb2 hm with⟨rfl,rfl⟩|⟨rfl,rfl⟩|⟨rfl,rfl⟩
    all_goals
     have hin:=hcc.2.2 (by omega);simp[yE,h1,lQ,hc,hin,-fB',-eB']
     first
      |exact⟨some (0, -1),by simp,⟨.inl ⟨rfl,rfl,rfl,rfl⟩, .inl rfl⟩,rfl⟩
      |exact⟨some (1, -1),by simp,⟨.inl ⟨rfl,rfl,rfl,rfl⟩, .inl rfl⟩,rfl⟩
      |exact⟨some (0,1),by simp,⟨.inl ⟨rfl,rfl,rfl,rfl⟩, .inl rfl⟩,rfl⟩
 ·have hm:=hP m rfl;rw[hm]at h;simp only at h;obtain⟨d,hd,h⟩:=qzU.1 h;split at h
  ·cases h
  rename_i hn;cases h;have hd':d≠123/\OK d=none:=⟨λe=>hn (.inl e),by
   cases q:OK d with
   |none=>rfl
   |some q'=>exact absurd (.inr (by rw[q];rfl)) hn⟩
  obtain⟨n1,n2,n3⟩:=PP hd'.2;have n4:=hd'.1;simp[yE,h1,lQ,hd,n1,n2,n3,n4,-fB',-eB'];simpa [yE,-fB',-eB']using qqg (e:=e) (m:=m) s1.bump (by simp) hr0
def ql4{p:Rp}{q:Rp× (Rx×Bool)}(h:qeV p ()=some q):q.2.2=true:=by
 obtain⟨a,_,h⟩:=qzU.1 h;split at h
 ·obtain⟨c,_,h⟩:=qzU.1 h;split at h
  ·cases h
  ·split at h
   ·obtain⟨d,_,h⟩:=qzU.1 h;split at h
    ·cases h
    ·cases h;rfl
   ·cases h;rfl
 ·cases h
def Vv{op:Int}{l:List Rx}(h:l.length≠1):YS op l=⟨op,0,0, [],l⟩:=by
 match l,h with
 | [],_=>rfl
 | [e],h=>exact absurd rfl h
 | _::_::_,_=>rfl
theorem qgl{b:Nat}{post:Rp->(Rx×Bool)->Prop}{op:Int}{l:List Rx}{id el:Nat}{v:Value}{H:ab}(s:Rp)(h0:H 0=some (.box b (sJ s)))(hi:id≠0)(h1:H id=some (.row v el 5 (l.map enc)))(hq:post s (⟨op,0,0, [],l⟩,true)):
 Hi EN b post (.tup [.agg [.v (.int .i64 op), .v (.int .i64 0), .v (.int .i64 0), .v (.slice none 0 0), .own id v], .v (.bool true)]) H:=by
 refine GJ s (⟨op,0,0, [],l⟩,true) (.tup rfl λk c c' hc hc'=>?_) h0 hq
 match k with
 | 0=>
   cases hc;cases hc';refine SG [] l (.nil _) (.row (el:=el) (by simp[hi];exact h1) rfl (λd hd=>?_) (λk c c' hc hc'=>?_))
   ·obtain⟨x,_,rfl⟩:=qz1.1 hd;exact⟨Cod.kn x,Cod.wid x⟩
   ·rw[hc]at hc';cases hc';exact .same _
 | 1=>cases hc;cases hc';exact .same _
 |k+2=>simp at hc
abbrev qei:Spc:=qdj a0 EN qg9
set_option maxHeartbeats 2000000 in
theorem Li(h1:S bA=vW)(h2:S jH=qee):vF jc iI S a0 EN (λs z=>∃r,qg9 s z=some r) (λs z s' y=>qg9 s z=some (s',y)):=by
 rintro b s ⟨⟩ ⟨r,hr⟩;have hr0:=hr;obtain⟨⟨s',l'⟩,hl,hr⟩:=qz6.1 hr;simp only at hr;subst hr;obtain⟨c0,hc0⟩:∃c,NL s=some c:=by
  rw[Xd]at hl;obtain⟨c,hc,_⟩:=qzU.1 hl;exact⟨c,hc⟩
 simp[jc,iI,h1,lQ,hc0,-fB',-eB'];intro b2;refine ay (X:=Nat×Rp×Value×List Rx×Int) [0,2] [2] (λz=>Xd z.1 z.2.1 z.2.2.2.1=some (s',l')/\z.2.2.2.1.length+z.1<=100/\NL z.2.1=some z.2.2.2.2) (λz=>[(4, .own 36 z.2.2.1),(5, .v (.int .i32 z.2.2.2.2))]) (λz=>[(0, .box b (sJ z.2.1)),(36, .row z.2.2.1 A8 5 (z.2.2.2.1.map enc))]) (λz=>z.1) (100,s, .slice none 0 0, [],c0) ⟨hl,by simp,hc0⟩ ?_ (hh:=by simp[isNilRow]);clear hl;rintro⟨k,p,v,l,c⟩ ⟨hk,hlen,hc⟩;simp only at hk hlen hc;obtain _|k:=k
 ·rw[Xd]at hk;cases hk
 rw[Xd,hc]at hk;simp only[qAh]at hk;split at hk
 ·rename_i hend;cases hk;have hlt:(l'.length:Int)<=9223372036854775807:=by omega
  by_cases hl1:l'.length=1
  ·obtain⟨e,rfl⟩:∃e,l'=[e]:=qBl.1 hl1;rcases hend with h|rfl|rfl
   ·have h':¬0<=c:=by omega
    simp[h',-fB',-eB'];exact EF s' (by simp) hr0
   all_goals
    simp[-fB',-eB'];exact EF s' (by simp) hr0
  ·rw[Vv hl1]at hr0;have hl1':¬(l'.length:Int)=1:=by omega
   rcases hend with h|rfl|rfl
   ·have h':¬0<=c:=by omega
    simp[h',hl1,hl1',hlt,-fB',-eB'];exact qgl (el:=A8) s' (by simp) (by decide) (by simp) hr0
   all_goals
    simp[hl1,hl1',hlt,-fB',-eB'];exact qgl (el:=A8) s' (by simp) (by decide) (by simp) hr0
 ·rename_i hgo;obtain⟨q,hq,hk⟩:=qzU.1 hk;split at hk
  ·cases hk
  rename_i hop;have hok:=ql4 hq;obtain⟨p',e,ok⟩:=q;simp only at hk hok hop;subst hok;have n1:0<=c:=by omega
  have n2:c≠124:=by omega
  have n3:c≠41:=by omega
  obtain⟨c1,hc1⟩:∃c,NL p'=some c:=by
   obtain _|k:=k
   ·rw[Xd]at hk;cases hk
   rw[Xd]at hk;obtain⟨c,hc,_⟩:=qzU.1 hk;exact⟨c,hc⟩
  simp[h1,h2,lQ,hc1,hq,n1,n2,n3,hop,-fB',-eB'];exact⟨by omega,by omega,λv=>⟨k,p',v,l++ [e],c1,⟨hk,by simp;omega,hc1⟩,⟨⟨rfl,rfl⟩, .inl ⟨rfl,rfl,rfl,rfl⟩, .inl ⟨rfl,by simp⟩⟩,by omega⟩⟩
def qnq{p:Rp}{q:Rp× (Rx×Bool)}(h:qg9 p ()=some q):q.2.2=true:=by
 obtain⟨a,_,rfl⟩:=qz6.1 h;rfl
abbrev qed:Spc:=qdj a0 EN qiw
set_option maxHeartbeats 2000000 in
theorem Ob(h1:S bA=vW)(h2:S jJ=qei):vF jN jz S a0 EN (λs z=>∃r,qiw s z=some r) (λs z s' y=>qiw s z=some (s',y)):=by
 rintro b s ⟨⟩ ⟨r,hr⟩;have hr0:=hr;obtain⟨⟨s',l'⟩,hl,hr⟩:=qz6.1 hr;simp only at hr;subst hr;simp[jN,jz,-fB',-eB'];intro b2;refine ay (X:=Nat×Rp×Value×List Rx) [0,2] [2] (λz=>qdI z.1 z.2.1 z.2.2.2=some (s',l')/\z.2.2.2.length+z.1<=100) (λz=>[(4, .own 25 z.2.2.1)]) (λz=>[(0, .box b (sJ z.2.1)),(25, .row z.2.2.1 A8 5 (z.2.2.2.map enc))]) (λz=>z.1) (100,s, .slice none 0 0, []) ⟨hl,by simp⟩ ?_ (hh:=by simp[isNilRow]);clear hl;rintro⟨k,p,v,l⟩ ⟨hk,hlen⟩;simp only at hk hlen;obtain _|k:=k
 ·rw[qdI]at hk;cases hk
 rw[qdI]at hk;obtain⟨⟨p',e,ok⟩,hq,hk2⟩:=qzU.1 hk;clear hk;obtain⟨c,hc,hk3⟩:=qzU.1 hk2;clear hk2;have hok:=qnq hq;simp only at hok hc hk3;subst hok;have hop:¬e.op=3:=λh=>by rw[if_pos h]at hk3;cases hk3
 rw[if_neg hop]at hk3;have hcc:=qbb hc;by_cases hc124:c=124
 ·rw[if_pos hc124]at hk3;have hk:=hk3;subst hc124;have hin:=hcc.2.2 (by omega);simp[h1,h2,lQ,hc,hq,hop,hin,-fB',-eB'];exact⟨by omega,by omega,λv=>⟨k,p'.bump,v,l++ [e],⟨hk,by simp;omega⟩,⟨rfl, .inl ⟨rfl,rfl,rfl,rfl⟩, .inl ⟨rfl,by simp⟩⟩,by omega⟩⟩
 ·rw[if_neg hc124]at hk3;cases hk3;have hlt:((l++ [e]).length:Int)<=9223372036854775807:=by simp;omega
  have hcc':¬c=124:=hc124;cases l with
  | nil=>
    simp[h1,h2,lQ,hc,hq,hop,hcc',-fB',-eB'];exactλv=>EF s' (by simp) hr0
  | cons x l=>
    simp[h1,h2,lQ,hc,hq,hop,hcc',-fB',-eB'];have hr1:=hr0;rw[Vv (by simp)]at hr1;exact⟨by simp at hlen;omega,by simp at hlen;omega,λv _=>⟨λh=>absurd h (by omega),λ_=>qgl (el:=A8) (l:=x::l++ [e]) s' (by simp) (by decide) (by simp) hr1⟩⟩
end Go.Gv
namespace Go.Gv
open Go.Proofs
def gF:CC:=gq Tryz.f335 [] {} _
def gy:List ak:=[]
def wL:FO eK [] gF gy 14:=fo
def dV:CC:=gq Tryz.f340 [] {} _
def dO:List ak:=[]
def qs:FO eC [] dV dO 148:=fo
def cJ:CC:=gq Tryz.f342 [] {} _
def cF:List ak:=[]
def me:FO cR [] cJ cF 53:=fo
def qP:CC:=gq Tryz.f147 [] {} _
def ql:List ak:=[.tmp 2]
def Ic:FO sE [] qP ql 8:=fo
def nz:CC:=gq Tryz.f212 [] {} _
def nc:List ak:=[.tmp 2]
def Eh:FO pj [] nz nc 25:=fo
def mB:CC:=gq Tryz.f337 [] {} _
def lZ:List ak:=[.tmp 4]
def C6:FO nq [] mB lZ 20:=fo
def pQ:CC:=gq Tryz.f341 [] {} _
def ow:List ak:=[.tmp 2]
def Gl:FO qG [] pQ ow 6:=fo
def py:CC:=gq Tryz.f336 [2,3] {} _
def nW:List ak:=[.tmp 4]
def F6:FO dh [2,3] py nW 10:=fo
def sK:CC:=gq Tryz.f330 [2044048] { bx:=[0] } _
def rZ:List ak:=[.tmp 2]
def Kg:FO uK [2044048] sK rZ 51:=fo
open Cod (enc dec)
variable {S S0:Nat->Spc}
abbrev qer:Spc:=aL (a1 I32) (λ_=>True) (enc (X:=Bool)) λ_ y=>y=false
def HI:am pQ ow S (a1 I32) (λ_=>True) (enc (X:=Bool)) λ_ y=>y=false:=by
 rintro x -;simp[pQ,ow,-fB']
def Ta(a b:Int):Int:=if a<b then -1 else if b<a then 1 else 0
abbrev qeA:Spc:=aL (a2 I32 I32) (λ_=>True) (enc (X:=Int)) λx y=>y=Ta x.1.val x.2.val
def DT(h1:S qG=qer):am mB lZ S (a2 I32 I32) (λ_=>True) (enc (X:=Int)) λx y=>y=Ta x.1.val x.2.val:=by
 rintro⟨⟨x⟩,⟨y⟩⟩ -;simp[mB,lZ,h1,-fB',-eB'];refine⟨λh=>by simp[Ta,h],λh=>⟨λh2=>?_,λh2=>?_⟩⟩
 ·have h3:¬x<y:=by omega
  simp[Ta,h2,h3]
 ·have h3:¬x<y:=by omega
  have h4:¬y<x:=by omega
  simp[Ta,h3,h4]
abbrev qes:Spc:=aL (a2 Rng Rng) (λ_=>True) (enc (X:=Int)) λx y=>y=Ta x.1.fr.val x.2.fr.val
def Hs(h1:S nq=qeA):am py nW S (a2 Rng Rng) (λ_=>True) (enc (X:=Int)) λx y=>y=Ta x.1.fr.val x.2.fr.val:=by
 rintro⟨x,y⟩ -;simp[py,nW,h1,-fB',-eB']
abbrev qaf:Spc:=aL (a1 U64) (λx=>0<=x.val/\x.val<=200) (enc (X:=Int)) λ_ _=>True
def qhL(x:List Rng×Int×Int×D×Unit):Prop:=HP x.1=true/\x.2.1=0/\x.2.2.1=x.1.length/\x.2.2.2.1= .clo dh []
abbrev qet:Spc:=aL (aE (List Rng) (aE Int (aE Int (aD a0)))) qhL SQ λ_ _=>True
def FK{l:List Rng}(h:HP l=true):1<=l.length/\l.length<=2:=by
 match l,h with
 | [x],_=>exact⟨qz2 1,qBe 1⟩
 | [x,y],_=>exact⟨qBe 1,qz2 2⟩
def UK:∀{l:List Rng},HP l=true->1<l.length->∃x y,l=[x,y]
 | [x,y],_,_=>⟨x,y,rfl⟩
 | [x],_,h=>by simp at h
def qdS:∀{l:List Rng} {x:Rng},l[0]? =some x->(l.take 1).foldl tD []=[x]
 |y::l,x,h=>by cases h;rfl
theorem Oa(h1:S dh=qes):am cJ cF S (aE (List Rng) (aE Int (aE Int (aD a0)))) qhL SQ λ_ _=>True:=by
 rintro⟨l,a,b,d,⟨⟩⟩ ⟨hs,ha,hb,hd⟩;simp only at hs ha hb hd;subst ha;subst hb;subst hd;simp[cJ,cF,-fB',-eB'];have hl2:=FK hs;refine⟨by simp only[InR];omega,?_⟩;refine ay (X:=Nat) [0,1,2,3] [] (λi=>1<=i/\i<=l.length) (λi=>[(8,enc (i:Int))]) (λ_=>[]) (λi=>l.length -i) 1 ⟨qz2 1,hl2.1⟩ ?_;rintro i ⟨hi1,hi2⟩;by_cases hlt:i<l.length
 ·obtain rfl:i=1:=by omega
  obtain⟨x,y,rfl⟩:=UK hs hlt;simp[-fB',-eB'];refine ay (X:=Unit) [0,1,2,3,8] [] (λ_=>True) (λ_=>[(9,enc (1:Int))]) (λ_=>[]) (λ_=>0) () trivial ?_;rintro - -;have hc:¬Ta y.fr.val x.fr.val< 0:=by
   simp[HP]at hs;unfold Ta;rw[if_neg (by omega)];split<;>omega
  simp[h1,hc,-fB',-eB'];exact⟨by simp only[InR];omega,λ_=>⟨by simp only[InR];omega,2,⟨by omega,by omega⟩,rfl,rfl⟩⟩
 ·obtain rfl:i=l.length:=by omega
  simp[-fB',-eB'];exact ba (Y:=Unit) () (.same _) trivial
abbrev qep:Spc:=aL (aE (List Rng) (aE Int (aE Int (aE Int (aD a0))))) (λx=>qhL (x.1,x.2.1,x.2.2.1,x.2.2.2.2)) SQ λ_ _=>True
def N9(h1:S cR=qet):am dV dO S (aE (List Rng) (aE Int (aE Int (aE Int (aD a0))))) (λx=>qhL (x.1,x.2.1,x.2.2.1,x.2.2.2.2)) SQ λ_ _=>True:=by
 rintro⟨l,a,b,lim,d,⟨⟩⟩ hp;have hp':=hp;obtain⟨hs,ha,hb,hd⟩:=hp;simp only at hs ha hb hd hp';subst ha;subst hb;subst hd;have hl2:=FK hs;simp[dV,dO,-fB',-eB'];refine ay (X:=Unit) [0,1,2,3,4,10,11] [] (λ_=>True) (λ_=>[]) (λ_=>[]) (λ_=>0) () trivial ?_;rintro - -;have h12:(l.length:Int)<=12:=by omega
 have hin:InR .i64 (l.length:Int):=by simp only[InR];omega
 simp[h1,h12,hin,hp',-fB',-eB'];exact ba (Y:=Unit) () (.same _) trivial
abbrev qiJ:Spc:=aL (aE (List Rng) (aD a0)) (λx=>HP x.1=true/\x.2.1= .clo dh []) SQ λ_ _=>True
def xx(h1:S sE=qaf)(h2:S eC=qep):am gF gy S (aE (List Rng) (aD a0)) (λx=>HP x.1=true/\x.2.1= .clo dh []) SQ λ_ _=>True:=by
 rintro⟨l,d,⟨⟩⟩ ⟨hs,hd⟩;simp only at hs hd;subst hd;have hl2:=FK hs;have hp:qhL (l,0,(l.length:Int), .clo dh [],()):=⟨hs,rfl,rfl,rfl⟩
 have hw:IntKind.u64.wrap (l.length:Int)=l.length:=by rw[IntKind.wrap_u64];omega
 have h200:(l.length:Int)<=200:=by omega
 simp[gF,gy,h1,h2,hp,hw,h200,-fB',-eB'];exactλ_=>ba (Y:=Unit) () (.same _) trivial
abbrev Vg:Spc:=aL (a1 U64) (λx=>0<=x.val/\x.val<=200) (enc (X:=Int)) λ_ _=>True
def X4(h1:S pj=Vg):am qP ql S (a1 U64) (λx=>0<=x.val/\x.val<=200) (enc (X:=Int)) λ_ _=>True:=by
 rintro⟨x⟩ ⟨h0,h2⟩;simp only at h0 h2;simp[qP,ql,h1,h0,h2,-fB',-eB']
def Q6:am nz nc S (a1 U64) (λx=>0<=x.val/\x.val<=200) (enc (X:=Int)) λ_ _=>True:=by
 rintro⟨x⟩ ⟨h0,h2⟩;simp only at h0 h2;have c1:¬4294967296<=x:=by omega
 have c2:¬65536<=x:=by omega
 have c3:¬256<=x:=by omega
 have hw:IntKind.u8.wrap x=x:=by rw[IntKind.wrap_u8];omega
 simp[nz,nc,c1,c2,c3,hw,h0,-fB',-eB'];refine⟨Int.lt_of_le_of_lt h2 (by decide),λc _=>?_⟩;have:=c.toNat_lt;have hw2:IntKind.i64.wrap (c.toNat:Int)=c.toNat:=by rw[IntKind.wrap_i64];omega
 rw[hw2];simp only[InR];omega
abbrev qbe:Spc:=quc (Y:=Rng) (aD a0) (λx=>HP x.1=true/\x.2.1= .clo dh []) SQ (λ_ _=>True) xM 2
abbrev UY:Spc:=qpW (Y:=Rng) a0 (λ_ l=>HP l=true) (λ_ l r=>r=Gr l) xM 2
set_option maxHeartbeats 1000000 in
theorem Lg(h1:S eK=qbe):Tl (Y:=Rng) sK rZ S a0 (λ_ l=>HP l=true) (λ_ l r=>r=Gr l) xM 2:=by
 rintro v l ⟨⟩ hs;have hs:HP l=true:=hs;have hl2:=FK hs;simp[sK,rZ,h1,hs,-fB',-eB'];intro _;refine ah (X:=Value×List Rng) [9] [0] l.length (λk x=>x.2=(l.take k).foldl tD []) (λx=>[(3, .own 48 x.1)]) (λx=>[(48, .row x.1 xM 2 (x.2.map enc))]) (.slice none 0 0, []) rfl ?_ ?_ (hh:=by simp[isNilRow])
 ·rintro k ⟨v',out⟩ hk hP;simp only at hP;have hk2:k=0\/k=1:=by omega
  rcases hk2 with rfl|rfl
  ·obtain⟨x,hx⟩:∃x,l[0]? =some x:=⟨_,qzX hk⟩
   obtain⟨_,hgx⟩:=qzV.1 hx;have ho:out=[]:=by rw[hP];rfl
   subst ho;have h1:=qdS hx;simp[hk,hx,hgx,h1,-fB',-eB']
  ·obtain⟨x,y,rfl⟩:=UK hs hk;have ho:out=[x]:=by rw[hP];rfl
   subst ho;simp[HP]at hs;by_cases hle:y.fr.val<=x.to.val+1
   ·have hst:tD (tD [] x) y=[⟨x.fr,⟨max x.to.val y.to.val⟩⟩]:=by simp[tD,hle]
    have hr:InR .i32 (x.to.val+1):=by simp only[InR];omega
    simp[hle,hst,hr,-fB',-eB'];simp only[InR];omega
   ·have hst:tD (tD [] x) y=[x,y]:=by simp[tD,hle]
    have hr:InR .i32 (x.to.val+1):=by simp only[InR];omega
    simp[hle,hst,hr,-fB',-eB'];simp only[InR];omega
 ·rintro⟨v',out⟩ hP;simp only at hP;rw[qAb]at hP;subst hP;simp[-fB',-eB'];exact dF (Gr l) (by simp[Gr]) rfl
def qg7{p:Rp}{sp:B}{q:Rp× (I32×Bool)}{c:Int}(hc:NL p=some c)(h:Dv p sp=some q):q=(p.bump,⟨c⟩,true):=by
 unfold Dv at h;rw[hc,qAh]at h;split at h
 ·cases h
 ·exact(qAg h).symm
def qji{p:Rp}{q:Rp× (I32×Bool)}{c:Int}(hc:NL p=some c)(h:VP p ()=some q):q=(p.bump,⟨c⟩,true):=by
 unfold VP at h;rw[hc,qAh]at h;split at h
 ·cases h
 ·exact qg7 hc h
theorem qqf{b:Nat}{post:Rp->(Rx×Bool)->Prop}{l:List Rng}{id el:Nat}{v:Value}{H:ab}(s:Rp)(h0:H 0=some (.box b (sJ s)))(hi:id≠0)(h1:H id=some (.row v el 2 (l.map enc)))(hq:post s (⟨1,0,0,l, []⟩,true)):
 Hi EN b post (.tup [.agg [.v (.int .i64 1), .v (.int .i64 0), .v (.int .i64 0), .own id v, .v (.slice none 0 0)], .v (.bool true)]) H:=by
 refine GJ s (⟨1,0,0,l, []⟩,true) (.tup rfl λk c c' hc hc'=>?_) h0 hq
 match k with
 | 0=>
   cases hc;cases hc';refine SG l [] (.row (el:=el) (by simp[hi];exact h1) rfl (λd hd=>?_) (λk c c' hc hc'=>?_)) (.nil _)
   ·obtain⟨x,_,rfl⟩:=qz1.1 hd;exact⟨Cod.kn x,Cod.wid x⟩
   ·rw[hc]at hc';cases hc';exact .same _
 | 1=>cases hc;cases hc';exact .same _
 |k+2=>simp at hc
set_option maxHeartbeats 2000000 in
theorem Oe(h1:S bA=vW)(h2:S jI=qeg)(h3:S uK=UY):vF jO jA S a0 EN (λs z=>∃r,qj7 s z=some r) (λs z s' y=>qj7 s z=some (s',y)):=by
 rintro b s ⟨⟩ ⟨r,hr⟩;have hr0:=hr;obtain⟨a0,ha0,h⟩:=qzU.1 hr;have e91:¬a0≠91:=λe=>by rw[if_pos e]at h;cases h
 rw[if_neg e91]at h;have hin:=(qbb ha0).2.2 (by omega);obtain⟨c0,hc0,h⟩:=qzU.1 h;have n94:¬c0=94:=λe=>by rw[if_pos e]at h;cases h
 rw[if_neg n94]at h;obtain⟨⟨s',l'⟩,hl,h⟩:=qzU.1 h;simp only at h;have hsrt:HP l'=true:=by
  split at h
  ·assumption
  ·cases h
 rw[if_pos hsrt]at h;cases h;have hc1:NL ⟨s.s,s.pos+1,s.fault,s.e⟩=some c0:=hc0;simp[jO,jA,h1,lQ,hin,hc1,n94,-fB',-eB'];intro b2;refine ay (X:=Nat×Rp×Value×List Rng) [0,2,4,5] [2] (λz=>qg5 z.1 z.2.1 z.2.2.2=some (s',l')/\z.2.2.2.length+z.1<=100) (λz=>[(6, .own 86 z.2.2.1)]) (λz=>[(0, .box b (sJ z.2.1)),(86, .row z.2.2.1 xM 2 (z.2.2.2.map enc))]) (λz=>z.1) (100,s.bump, .slice none 0 0, []) ⟨hl,by simp⟩ ?_ (hh:=by simp[isNilRow,Rp.bump]);clear hl;rintro⟨k,p,v,l⟩ ⟨hk,hlen⟩;simp only at hk hlen;obtain _|k:=k
 ·rw[qg5]at hk;cases hk
 rw[qg5]at hk;obtain⟨c,hc,hk2⟩:=qzU.1 hk;clear hk;have hlt:(l.length:Int)<=9223372036854775807:=by omega
 by_cases hend:l≠ []/\c=93
 ·rw[if_pos hend]at hk2;cases hk2;obtain⟨hne,rfl⟩:=hend;have hin2:=(qbb hc).2.2 (by omega);have hl0:¬l'.length=0:=λe=>hne (qAN.1 e)
  simp(config:={ maxSteps:=2000000 }) [h1,h3,lQ,hc,hlt,hne,hl0,hin2,hsrt,-fB',-eB'];exactλv'=>qqf (el:=xM) s'.bump (by simp[Rp.bump]) (by decide) (by simp) hr0
 ·rw[if_neg hend]at hk2;obtain⟨q,hq,hk3⟩:=qzU.1 hk2;clear hk2;obtain⟨d,hd,hk4⟩:=qzU.1 hk3;clear hk3;have hqv:=qji hc hq;subst hqv;simp only at hd hk4;have n45:¬d=45:=λe=>by rw[if_pos e]at hk4;cases hk4
  rw[if_neg n45]at hk4;have hd':NL ⟨p.s,p.pos+1,p.fault,p.e⟩=some d:=hd;cases l with
  | nil=>
    simp(config:={ maxSteps:=2000000 }) [h1,h2,lQ,hq,hd',n45,Rp.bump,-fB',-eB'];exactλv=>⟨k,p.bump,v, [⟨⟨c⟩,⟨c⟩⟩],⟨hk4,by simp at hlen ⊢;omega⟩,⟨rfl, .inl ⟨rfl,rfl,rfl,rfl⟩, .inl ⟨rfl,by simp⟩⟩,by omega⟩
  | cons x l=>
    have n93:¬c=93:=λe=>hend ⟨by simp,e⟩
    simp(config:={ maxSteps:=2000000 }) [h1,h2,lQ,hc,hq,hd',n45,n93,Rp.bump,-fB',-eB'];have hlen2:l.length+1+ (k+1)<=100:=by simpa using hlen
    first
     |exactλ_ _=>⟨by omega,by omega,λv=>⟨k,p.bump,v,x::l++ [⟨⟨c⟩,⟨c⟩⟩],⟨hk4,by simp;omega⟩,⟨rfl, .inl ⟨rfl,rfl,rfl,rfl⟩, .inl ⟨rfl,by simp⟩⟩,by omega⟩⟩
     |exact⟨by omega,by omega,by omega,λv=>⟨k,p.bump,v,x::l++ [⟨⟨c⟩,⟨c⟩⟩],⟨hk4,by simp;omega⟩,⟨rfl, .inl ⟨rfl,rfl,rfl,rfl⟩, .inl ⟨rfl,by simp⟩⟩,by omega⟩⟩
     |exact⟨by omega,by omega,λv=>⟨k,p.bump,v,x::l++ [⟨⟨c⟩,⟨c⟩⟩],⟨hk4,by simp;omega⟩,⟨rfl, .inl ⟨rfl,rfl,rfl,rfl⟩, .inl ⟨rfl,by simp⟩⟩,by omega⟩⟩
     |(refineλ_=>⟨λ_=>?_,λ_=>?_⟩ <;>exact⟨by omega,by omega,λv=>⟨k,p.bump,v,x::l++ [⟨⟨c⟩,⟨c⟩⟩],⟨hk4,by simp;omega⟩,⟨rfl, .inl ⟨rfl,rfl,rfl,rfl⟩, .inl ⟨rfl,by simp⟩⟩,by omega⟩⟩)
end Go.Gv
namespace Go.Gv
open Cod (enc dec)
variable {dq:Prop}
def qu4(F:Rx->Int->Int->Option (Bool×Int)):PT:=λd ds H K=>∃id b x n k r d0,ds=[d0, .v (.int .i64 n), .bptr id b 0]/\dec d0=some x/\H id=some (.box b [.v (.int .i64 k)])/\F x n k=some r/\K (.v (.bool r.1)) (ai H id (some (.box b [.v (.int .i64 r.2)])))
def qiG(F:Rx->Int->Int->Option (Bool×Int)):qZ (qu4 F):=λd ds H K K' hk ⟨id,b,x,n,k,r,d0,h1,h2,h3,h4,h5⟩=>⟨id,b,x,n,k,r,d0,h1,h2,h3,h4,hk _ _ h5⟩
def qn5(F:Rx->Int->Int->Option (Bool×Int)):Spc:= .gen _ (qiG F)
def qrX(F:Rx->Int->Int->Option (Bool×Int))(o:Option Rx)(n:Int)(id b:Nat)(q:Option Res)(H:ab)(K:D->ab->Prop):Prop:=
 ∃k,q=some (.box b [.v (.int .i64 k)])/\gY o λx=>gY (F x n k) λr=>K (.v (.bool r.1)) (ai H id (some (.box b [.v (.int .i64 r.2)])))
@[congr] theorem qu3{F:Rx->Int->Int->Option (Bool×Int)}{o o':Option Rx}{n n':Int}{id b:Nat}{q q':Option Res}{H:ab}{K:D->ab->Prop}(h1:o=o')(h2:n=n')(h3:q=q'):qrX F o n id b q H K=qrX F o' n' id b q' H K:=by subst h1;subst h2;subst h3;rfl
@[simp] theorem qu5(F:Rx->Int->Int->Option (Bool×Int))(d id b:Nat)(d0:D)(n:Int)(H:ab)(K:D->ab->Prop):(qn5 F).pt d [d0, .v (.int .i64 n), .bptr id b 0] H K=qrX F (dec d0) n id b (H id) H K:=by
 refine propext ⟨λh=>?_,λh=>?_⟩
 ·obtain⟨id',b',x,n',k,r,d0',h1,h2,h3,h4,h5⟩:=h;cases h1;refine⟨k,h3,?_⟩;rw[h2];show gY (F x n k) _;rw[h4];exact h5
 ·obtain⟨k,h1,h2⟩:=h;cases hx:dec (X:=Rx) d0 with
  |none=>rw[hx]at h2;exact h2.elim
  | some x=>
    rw[hx]at h2;have h2:gY (F x n k) _:=h2;cases hr:F x n k with
    |none=>rw[hr]at h2;exact h2.elim
    |some r=>rw[hr]at h2;exact⟨id,b,x,n,k,r,d0,rfl,hx,h1,hr,h2⟩
@[simp] theorem qx5(F:Rx->Int->Int->Option (Bool×Int))(o:Option Rx)(n:Int)(id b:Nat)(k:Int)(H:ab)(K:D->ab->Prop):
 qrX F o n id b (some (.box b [.v (.int .i64 k)])) H K=gY o λx=>gY (F x n k) λr=>K (.v (.bool r.1)) (ai H id (some (.box b [.v (.int .i64 r.2)]))):=by
 refine propext ⟨λ⟨k',h1,h2⟩=>?_,λh=>⟨k,rfl,h⟩⟩;cases h1;exact h2
def qrr(b:Nat)(q:Bool×Int)(r:D)(H:ab):Prop:=r= .v (.bool q.1)/\H 2=some (.box b [.v (.int .i64 q.2)])
def qht(cc:CC)(rs:List ak)(S:Nat->Spc)(F:Rx->Int->Int->Option (Bool×Int)):Prop:=
 ∀b x n k q,F x n k=some q->vc S cc (vN rs λr H'=>qrr b q r H') (dC [enc x, .v (.int .i64 n), .bptr 2 b 0]) (ai cY 2 (some (.box b [.v (.int .i64 k)])))
variable {P:Program}{S:Nat->Spc}{f:Nat}{im:List Nat}{cc:CC}{rs:List ak}{N:Nat}
theorem Yg{F:Rx->Int->Int->Option (Bool×Int)}(hS:∀f,Tri dq P f (S f).pt)(h:Ak P f im cc rs N)(hN:3<=N)(hw:qht cc rs S F):Tri dq P f (qn5 F).pt:=by
 obtain⟨wQ,enter,fn,code,h1,h2,h3,h4,h5⟩:=h;refine nG hS wQ h1 h2 enter h3 h4 h5 ?_;rintro ds H d K ⟨id,b,x,n,k,r,d0,rfl,hd,hid,hF,hK⟩;have h0:∀i q,ai cY 2 (some (.box b [.v (.int .i64 k)])) i=some q->i=2/\q= .box b [.v (.int .i64 k)]:=by
  intro i q h;by_cases e:i=2
  ·subst e;simp only[ai,if_true]at h;cases h;exact⟨rfl,rfl⟩
  ·simp[ai,e,cY]at h
 refine⟨hN, [enc x, .v (.int .i64 n), .bptr 2 b 0],ai cY 2 (some (.box b [.v (.int .i64 k)])),λi=>if i=2 then id else i, .cons (Cod.le _ _ hd) (.cons (.same _) (.cons (.bptr _ _ _ _) .nil)),λi q h=>?_,λi j q q' h h' e=>?_,_,hw b x n k r hF,?_⟩
 ·obtain⟨rfl,rfl⟩:=h0 i q h;exact hid
 ·exact(h0 i q h).1.trans (h0 j q' h').1.symm
 ·rintro r' H' ⟨rfl,k2⟩;refine⟨.v (.bool r.1),cY,ai H id (some (.box b [.v (.int .i64 r.2)])),λi=>if i=id then some 2 else none, .same _,λj q h=>by simp[cY]at h,hK,λi s hi=>?_,λi j k' s q hi hj e1 e2=>?_⟩
  ·by_cases e:i=id
   ·subst e;simp only[ai,if_true]at hi ⊢;cases hi;exact k2
   ·simp only[ai,e,if_false]at hi ⊢;refine⟨hi,λk'' q h he=>?_⟩;obtain⟨rfl,rfl⟩:=h0 k'' q h;exact e he.symm
  ·by_cases c1:i=id
   ·by_cases c2:j=id
    ·exact c1.trans c2.symm
    ·simp[c2]at e2
   ·simp[c1]at e1
end Go.Gv
namespace Go.Gv
open Go.Proofs
def lj:CC:=gq Tryz.f287 [3] { bx:=[2],ke:=[2] } _
def kF:List ak:=[.tmp 6]
def Mq:FO ri [3] lj kF 36:=fo
def px:CC:=gq Tryz.f317 [] {} _
def nV:List ak:=[.tmp 2]
def F5:FO qz [] px nV 47:=fo
def dY:CC:=gq Tryz.f307 [1] {} _
def dR:List ak:=[.tmp 2]
def Ec:FO oY [1] dY dR 101:=fo
def ms:CC:=gq Tryz.f288 [1] {} _
def lT:List ak:=[.tmp 2]
def CY:FO iS [1] ms lT 19:=fo
def iY:CC:=gq Tryz.f289 [1] {} _
def iF:List ak:=[.tmp 2]
def Ed:FO km [1] iY iF 42:=fo
def pA:CC:=gq Tryz.f255 [1] {} _
def nY:List ak:=[.tmp 2]
def F8:FO lL [1] pA nY 16:=fo
open Cod (enc dec)
variable {S S0:Nat->Spc}
def I5{X:Type}{l:List X}{k:Nat}(h:k<l.length):∃x,l[k]? =some x:=⟨_,qzX h⟩
def Np{X:Type}{l:List X}{k:Nat}{x:X}(h:l[k]? =some x):l.drop k=x::l.drop (k+1):=by
 obtain⟨h1,h2⟩:=qzV.1 h;rw[qAQ h1,h2]
theorem Oc(n:Nat)(h1:S ri=qn5 (wv n)):qht lj kF S (wv (n+1)):=by
 rintro b x d k ⟨ok,m⟩ hF;have hF0:=hF;simp only[wv]at hF;split at hF
 ·cases hF
 rename_i hrng;have hin:InR .i64 (k+1):=by simp only[InR];omega
 split at hF
 ·rename_i hbig;cases hF;by_cases h40:40<d
  ·simp[lj,kF,hin,h40,-fB',-eB'];exact⟨rfl,by simp⟩
  ·have h200:200<k+1:=by omega
   simp[lj,kF,hin,h40,h200,-fB',-eB'];exact⟨rfl,by simp⟩
 ·rename_i hbig;have h40:¬40<d:=by omega
  have h200:¬200<k+1:=by omega
  simp[lj,kF,hin,h40,h200,-fB',-eB'];intro hkl;refine ah (X:=Int) [1,2,23] [] x.kids.length (λi z=>qpe (wv n) d (x.kids.drop i) z=some (ok,m)) (λz=>[]) (λz=>[(2, .box b [.v (.int .i64 z)])]) (k+1) hF ?_ ?_
  ·rintro i z hi hz;obtain⟨y,hy⟩:=I5 hi;obtain⟨_,hgy⟩:=qzV.1 hy;rw[Np hy,qpe]at hz;obtain⟨⟨t,m'⟩,hs,hz⟩:=qzU.1 hz;simp only at hz;have hin2:InR .i64 (d+1):=by simp only[InR];omega
   cases t with
   | true=>
     simp only[if_true]at hz;simp[h1,hi,hy,hgy,hs,hin2,-fB',-eB'];exact⟨m',hz, .inl rfl⟩
   | false=>
     simp only[qAJ,if_false]at hz;cases hz;simp[h1,hi,hy,hgy,hs,hin2,-fB',-eB'];exact⟨rfl,by simp⟩
  ·rintro z hz;rw[qAX,qpe]at hz;cases hz;simp[-fB',-eB'];exact⟨rfl,by simp⟩
abbrev UU:Spc:=aL (a1 (List Rng)) (λl=>qav l=true) (enc (X:=Bool)) λ_ y=>y=true
def Hq:am px nV S (a1 (List Rng)) (λl=>qav l=true) (enc (X:=Bool)) λ_ y=>y=true:=by
 rintro l hl;obtain⟨r,rfl⟩:∃r,l=[r]:=by
  match l,hl with
  | [r],_=>exact⟨r,rfl⟩
 simp[qav]at hl;simp[px,nV,-fB',-eB'];refine ah (X:=Unit) [0,5] [] 1 (λ_ _=>True) (λ_=>[]) (λ_=>[]) () trivial ?_ ?_
 ·rintro k -hk -;obtain rfl:k=0:=by omega
  have n1:¬r.fr.val< 0:=by omega
  have n2:¬r.to.val<r.fr.val:=by omega
  have n3:¬1114111<r.to.val:=by omega
  simp[n1,n2,n3,-fB',-eB']
 ·rintro - -;simp[-fB',-eB']
abbrev Py:Spc:=aL (a1 Rx) (λx=>qpx x=true) (enc (X:=Bool)) λ_ y=>y=true
set_option maxHeartbeats 2000000 in
theorem E9(h1:S qz=UU):am dY dR S (a1 Rx) (λx=>qpx x=true) (enc (X:=Bool)) λ_ y=>y=true:=by
 rintro⟨op,mn,mx,rs,ks⟩ hx;have hx:qpx ⟨op,mn,mx,rs,ks⟩=true:=hx;unfold qpx at hx;simp only at hx;split at hx
 ·rename_i e;subst e;simp at hx;obtain⟨⟨⟨rfl,rfl⟩,rfl⟩,hs⟩:=hx;simp[dY,dR,h1,hs,-fB',-eB'];refine ah (X:=Unit) [1,3] [] 0 (λ_ _=>True) (λ_=>[]) (λ_=>[]) () trivial (λk x hk=>absurd hk (by omega)) (λ_ _=>?_);simp[h1,hs,-fB',-eB']
 split at hx
 ·rename_i e1 e;subst e;simp at hx;obtain⟨⟨⟨⟨rfl,rfl⟩,rfl⟩,hl1,hl3⟩,hk2⟩:=hx;have hlt:(ks.length:Int)<=9223372036854775807:=by omega
  simp[dY,dR,hlt,-fB',-eB'];refine ah (X:=Unit) [1,3,34] [] ks.length (λ_ _=>True) (λ_=>[]) (λ_=>[]) () trivial ?_ ?_
  ·rintro k -hk -;obtain⟨y,hy⟩:=I5 hk;obtain⟨_,hgy⟩:=qzV.1 hy;have hop:=hk2 y (qzY hy);simp[hk,hy,hgy,hop,-fB',-eB']
  ·rintro - -;have hl1':¬(ks.length:Int)=1:=by omega
   simp[hl1,hl1',-fB',-eB']
 split at hx
 ·rename_i e1 e2 e;subst e;simp at hx;obtain⟨⟨⟨⟨rfl,rfl⟩,rfl⟩,hl1,hl3⟩,hk2⟩:=hx;have hlt:(ks.length:Int)<=9223372036854775807:=by omega
  simp[dY,dR,hlt,-fB',-eB'];refine ah (X:=Unit) [1,3,34] [] ks.length (λ_ _=>True) (λ_=>[]) (λ_=>[]) () trivial ?_ ?_
  ·rintro k -hk -;obtain⟨y,hy⟩:=I5 hk;obtain⟨_,hgy⟩:=qzV.1 hy;have hop:=hk2 y (qzY hy);simp[hk,hy,hgy,hop,-fB',-eB']
  ·rintro - -;have hl1':(1:Int)<ks.length:=by omega
   simp[hl1,hl1',-fB',-eB']
 split at hx
 ·rename_i e1 e2 e3 e;subst e;simp at hx;obtain⟨⟨⟨g0,g1,g2⟩,rfl⟩,hl1⟩:=hx;obtain⟨k0,rfl⟩:∃k,ks=[k]:=qBl.1 hl1;simp[dY,dR,-fB',-eB'];refine ah (X:=Unit) [1,3,34] [] 1 (λ_ _=>True) (λ_=>[]) (λ_=>[]) () trivial ?_ ?_
  ·rintro k -hk -;obtain rfl:k=0:=by omega
   simp[-fB',-eB']
  ·rintro - -;simp[g0,g1,-fB',-eB'];exactλh=>⟨λ_=>by omega,by omega⟩
 ·cases hx
abbrev D6(n:Nat):Spc:=aL (a1 Rx) (λx=>qcb n x=true) (enc (X:=Bool)) λ_ y=>y=true
def DN(n:Nat)(h1:S oY=Py)(h2:S iS=D6 n):am ms lT S (a1 Rx) (λx=>qcb (n+1) x=true) (enc (X:=Bool)) λ_ y=>y=true:=by
 rintro x hx;have hx:qcb (n+1) x=true:=hx;simp only[qcb,qzZ,qz4]at hx;obtain⟨hx1,hx2⟩:=hx;simp[ms,lT,h1,hx1,-fB',-eB'];intro hkl;refine ah (X:=Unit) [9] [] x.kids.length (λ_ _=>True) (λ_=>[]) (λ_=>[]) () trivial ?_ ?_
 ·rintro k -hk -;obtain⟨y,hy⟩:=I5 hk;obtain⟨_,hgy⟩:=qzV.1 hy;have hp:=hx2 y (qzY hy);simp[h2,hk,hy,hgy,hp,-fB',-eB']
 ·rintro - -;simp[-fB',-eB']
abbrev Yy(n:Nat):Spc:=aL (a1 Rx) (λx=>∃m,Mo n x=some m) (enc (X:=Int)) λx y=>Mo n x=some y
set_option maxHeartbeats 1000000 in
theorem Fa(n:Nat)(h1:S km=Yy n):am iY iF S (a1 Rx) (λx=>∃m,Mo (n+1) x=some m) (enc (X:=Int)) λx y=>Mo (n+1) x=some y:=by
 rintro x ⟨m,hm⟩;have hm0:=hm;simp only[Mo]at hm;split at hm
 ·rename_i e;cases hm;simp[iY,iF,e,hm0,-fB',-eB']
 rename_i e1;obtain⟨k,hk,hm⟩:=qzU.1 hm;simp[iY,iF,e1,-fB',-eB'];intro hkl;refine ah (X:=Int) [1,10] [] x.kids.length (λi z=>qpt (Mo n) (x.kids.drop i) z=some k) (λz=>[(3,enc z)]) (λ_=>[]) 0 hk ?_ ?_
 ·rintro i z hi hz;obtain⟨y,hy⟩:=I5 hi;obtain⟨_,hgy⟩:=qzV.1 hy;rw[Np hy,qpt]at hz;obtain⟨v,hv,hz⟩:=qzU.1 hz;split at hz
  ·cases hz
  rename_i hr;have hin:InR .i64 (z+v):=by simp only[InR];omega
  have hp:∃m,Mo n y=some m:=⟨v,hv⟩
  simp[h1,hi,hy,hgy,hv,-fB',-eB'];exact⟨hin,hz⟩
 ·rintro z hz;rw[qAX,qpt]at hz;cases hz;split at hm
  ·rename_i e4;cases hm;simp[e4,hm0,-fB',-eB']
  ·rename_i e4;have e4:x.op=4:=by omega
   unfold qpv at hm;split at hm
   ·rename_i emx;split at hm
    ·rename_i hb;cases hm;have hin:InR .i64 (k*max x.mn 1):=by simp only[InR];omega
     simp[e4,emx,hin,hm0,-fB',-eB']
    ·cases hm
   ·rename_i emx;split at hm
    ·rename_i hb;cases hm;have hin:InR .i64 (k*x.mx):=by simp only[InR];omega
     simp[e4,emx,hin,hm0,-fB',-eB']
    ·cases hm
abbrev UW:Spc:=aL (a1 Rx) (λx=>DV 50 x=true) (enc (X:=Int)) λx y=>y=0
def Hu(h1:S ri=qn5 (wv 50))(h2:S iS=D6 50)(h3:S km=Yy 50):am pA nY S (a1 Rx) (λx=>DV 50 x=true) (enc (X:=Int)) λx y=>y=0:=by
 rintro x hx;have hx:DV 50 x=true:=hx;simp only[DV,qzZ]at hx;obtain⟨⟨g1,g2⟩,g3⟩:=hx;obtain⟨⟨t,k⟩,hs,rfl⟩:∃r,wv 50 x 1 0=some r/\r.1=true:=by
  cases h:wv 50 x 1 0 with
  |none=>rw[h]at g1;cases g1
  |some r=>rw[h]at g1;exact⟨r,rfl,g1⟩
 obtain⟨m,hm,hm64⟩:∃m,Mo 50 x=some m/\m<=64:=by
  cases h:Mo 50 x with
  |none=>rw[h]at g3;cases g3
  |some r=>rw[h]at g3;exact⟨r,rfl,of_decide_eq_true g3⟩
 have n64:¬64<m:=by omega
 simp[pA,nY,h1,h2,h3,hs,g2,hm,n64,-fB',-eB'];exact hm64
end Go.Gv
namespace Go.Gv
open Go.Proofs
def vg:CC:=gq Tryz.f192 [2002002] {} _
def uf:List ak:=[.cell 2 true 5, .tmp 3, .tmp 4]
def Ms:FO rk [2002002] vg uf 66:=fo
def vB:CC:=gq Tryz.f181 [] {} _
def uA:List ak:=[.tmp 2]
def MM:FO rq [] vB uA 13:=fo
def pz:CC:=gq Tryz.f292 [] {} _
def nX:List ak:=[.tmp 4]
def F7:FO qA [] pz nX 24:=fo
open Cod (enc dec)
variable {S S0:Nat->Spc}
def qyF{Y Z W V:Type}[Cod Y][Cod Z][Cod W][Cod V](x:Y×Z×W×V):D:= .tup [enc x.1,enc x.2.1,enc x.2.2.1,enc x.2.2.2]
@[simp] theorem qyE{Y Z W V:Type}[Cod Y][Cod Z][Cod W][Cod V](y:Y)(z:Z)(w:W)(v:V):qyF (y,z,w,v)= .tup [enc y,enc z,enc w,enc v]:=i' rfl
def qhZ(s:B)(i:Int):I32×Int×Int×Bool:=match s.data[i.toNat]? with
 |some c=>(⟨c.toNat⟩,i,1,true)
 |none=>(⟨0⟩,0,0,false)
abbrev s_cpAt:Spc:=aL (a2 B Int) (λx=>x.1.size<=1000/\Ah x.1=true/\0<=x.2/\x.2<=x.1.size) (qyF (Y:=I32) (Z:=Int) (W:=Int) (V:=Bool)) λx y=>y=qhZ x.1 x.2
def qhg{s:B}(h:Ah s=true){k:Nat}{c:UInt8}(hc:s.data[k]? =some c):c.toNat< 128:=by
 have:=qz4.1 h c (by rw[<-qAn]at hc;exact qzY hc);exact of_decide_eq_true this
abbrev HV:Spc:=aL (a1 B) (λs=>∃r,ox s=some r) (qk5 (Y:=Rx) (Z:=Int) (W:=Int)) λs y=>ox s=some y.1/\y.2=(0,0)
set_option maxHeartbeats 2000000 in
theorem Of(h1:S B2=s_cpAt)(h2:S kV=qed)(h3:S lL=UW):am vg uf S (a1 B) (λs=>∃r,ox s=some r) (qk5 (Y:=Rx) (Z:=Int) (W:=Int)) λs y=>ox s=some y.1/\y.2=(0,0):=by
 rintro s ⟨r,hr⟩;have hr0:=hr;unfold ox at hr;split at hr
 rotate_left
 ·cases hr
 rename_i hs;obtain⟨hsz,hasc⟩:=hs;obtain⟨⟨p,x,ok⟩,hu,hr⟩:=qzU.1 hr;split at hr
 rotate_left
 ·cases hr
 rename_i hv;obtain⟨rfl,hpos,hval⟩:=hv;cases hr;have n200:¬(200:Int)<s.size:=by omega
 have hs10:s.size<=1000:=by omega
 simp[vg,uf,n200,-fB',-eB'];intro b2 hsz2;refine ay (X:=Nat) [0,2] [2] (λi=>i<=s.size) (λi=>[(5,enc (i:Int))]) (λ_=>[]) (λi=>s.size -i) 0 (qAr _) ?_;rintro i hi;by_cases hlt:i<s.size
 ·obtain⟨c,hc⟩:∃c,s.data[i]? =some c:=⟨s.data[i]'hlt,qAS hlt⟩
  have h128:=qhg hasc hc;have hat:qhZ s (i:Int)=((⟨(c.toNat:Int)⟩:I32),(i:Int),(1:Int),true):=by simp[qhZ,hc]
  have hff:¬((c.toNat:Int)=65533):=by omega
  simp[h1,hs10,hasc,hat,hff,hi,-fB',-eB'];exact⟨by simp only[InR];omega,i+1,by omega,by omega,by omega⟩
 ·obtain rfl:i=s.size:=by omega
  have hat:qhZ s (s.size:Int)=(⟨0⟩,0,0,false):=by
   have:s.data[s.size]? =none:=qBn (qz2 _);simp[qhZ,this]
  simp only at hpos hval;have npos:¬p.pos<s.size:=by omega
  simp[h1,h2,h3,hs10,hasc,hat,hu,hpos,hval,npos,-fB',-eB'];exactλb _=>⟨x, .same _,hr0⟩
abbrev Z6:Spc:=aL (a1 B) (λs=>∃r,ox s=some r) (enc (X:=Int)) λ_ y=>y=0
def OD(h1:S rk=HV):am vB uA S (a1 B) (λs=>∃r,ox s=some r) (enc (X:=Int)) λ_ y=>y=0:=by
 rintro s ⟨r,hr⟩;simp[vB,uA,h1,hr,-fB',-eB']
abbrev qiK:Spc:=aL (a2 (List Rng) I32) (λ_=>True) (enc (X:=Bool)) λx y=>y=SY x.1 x.2.val
theorem Ht:am pz nX S (a2 (List Rng) I32) (λ_=>True) (enc (X:=Bool)) λx y=>y=SY x.1 x.2.val:=by
 rintro⟨l,⟨c⟩⟩ -;simp[pz,nX,-fB',-eB'];intro hkl;refine ah (X:=Unit) [1,7] [] l.length (λk _=>SY (l.take k) c=false) (λ_=>[]) (λ_=>[]) () rfl ?_ ?_
 ·rintro k -hk hP;obtain⟨y,hy⟩:=I5 hk;obtain⟨_,hgy⟩:=qzV.1 hy;have hstep:SY (l.take (k+1)) c=(decide (y.fr.val<=c) && decide (c<=y.to.val)):=by
   have:l.take (k+1)=l.take k++ [y]:=by rw[qA6,hy];rfl
   unfold SY at hP ⊢;rw[this,List.any_append,hP];simp
  by_cases h1:y.fr.val<=c/\c<=y.to.val
  ·obtain⟨h1,h2⟩:=h1;have hres:SY l c=true:=by
    refine qBa.2 ⟨y,qzY hy,by simp[h1,h2]⟩
   simp[hk,hy,hgy,h1,h2,hres,-fB',-eB']
  ·have hres:SY (l.take (k+1)) c=false:=by
    rw[hstep];simp;omega
   by_cases h2:y.fr.val<=c
   ·have h3:¬c<=y.to.val:=λe=>h1 ⟨h2,e⟩
    simp[hk,hy,hgy,h2,h3,hres,-fB',-eB']
   ·simp[hk,hy,hgy,h2,hres,-fB',-eB']
 ·rintro -hP;rw[qAb]at hP;simp[hP,-fB',-eB']
end Go.Gv
namespace Go.Gv
open Go.Proofs
def pI:CC:=gq Tryz.f135 [] {} _
def ol:List ak:=[.tmp 6]
def ML:FO wX [] pI ol 25:=fo
def nD:CC:=gq Tryz.f75 [9,8,7,6,5] { cu:=[1] } _
def ni:List ak:=[.tmp 10]
def Eo:FO gj [9,8,7,6,5] nD ni 102:=fo
def lB:CC:=gq Tryz.f134 [5] {} _
def kO:List ak:=[.tmp 6]
def BF:FO aO [5] lB kO 13:=fo
def lA:CC:=gq Tryz.f143 [2] {} _
def kN:List ak:=[.tmp 3]
def BE:FO cI [2] lA kN 8:=fo
def mA:CC:=oX [oB 2 (.box qbN true (oT 0)),oB 3 (.box eJ false (oT 1)),oB 4 (.mv (.const on)),oB 5 (.mv (oN 0))] [2,3] [3] (.seq (oX [oD 9 7 3,oZ 10 ko [oT 9]] [2,3,10] [3] (.ite (oT 10) (oX [oB 4 (.mv (.const on)),oB 5 (.mv (oN 2))] [4,5] [33] (.ret)) (.skip))) (.keep [2,3] [3] (oX [oD 11 7 3,oZ 12 dA [oT 11],
 oF 7 3 12] [2,3] [3] (.seq (oX [oD 13 7 3,oE 14 0 2,oC 15 1 14,oZ 16 dj [oT 13,oT 15,.const on],oA 6 16] [2,3,6] [3] (oX [oA 17 6,oB 18 (.eql true false [.int] (oT 17) (oN 0))] [2,3,6,18] [3] (.ite (oT 18) (oX [oA 19 6,oB 4 (.mv (.const on)),oA 5 19] [4,5] [33] (.ret)) (.skip)))) (.keep [2,3] [3] (oX [oB 7 (.mv (.const on))] [2,3,7] [3,33] (.seq (oX [oE 20 1 2,
 oC 21 1 20,oB 22 (.len (oT 21)),oB 23 (.mv (oN 0))] [2,3,7,22,23] [3,33] (fF 0 23 22 24 1 (oX [oA 25 23,oA 8 25] [2,3,7,8,22,23] [3,33] (oX [oD 26 7 2,oD 27 7 3,oA 28 8,oZ 29 gj [oT 26,oT 27,oT 28,.const on,.const on]] [2,3,7,8,22,23,29] [3,33] (.ite (oT 29) (.reg [oA 30 7,oA 31 8,oB 32 (.bslice bb 1 [oT 31]),oB 33 (.append none bb 1 8 (oT 30) (oT 32)),
 oA 7 33]) (.skip)))) 34)) (.keep [7] [33] (oX [oA 35 7,oA 4 35,oB 5 (.mv (oN 0))] [4,5] [33] (.ret))))))))))
def lY:List ak:=[.tmp 4, .tmp 5]
def C5:FO iV [2] mA lY 36:=fo
open Cod (enc dec)
variable {S S0:Nat->Spc}
def EA(v s:B)(f:Bool):Option Bool:=(ox v).bind λx=>Ey x s f
def qhH(x:B×B×Bool):Prop:=∃y,EA x.1 x.2.1 x.2.2=some y
def qld(x:B×B×Bool)(y:Bool):Prop:=EA x.1 x.2.1 x.2.2=some y
abbrev Z5:Spc:=aL (a3 B B Bool) qhH (enc (X:=Bool)) qld
def OC(h1:S rk=HV)(h2:S wR=qai false)(h3:S pa=qai true):am pI ol S (a3 B B Bool) qhH (enc (X:=Bool)) qld:=by
 rintro⟨v,s,f⟩ ⟨y,hy⟩;have hy:EA v s f=some y:=hy;obtain⟨x,hx,hm⟩:=qzU.1 hy;cases f
 ·have hp:XE false (x,s):=⟨y,hm⟩
  simp[pI,ol,h1,h2,hx,hp,-fB',-eB'];exactλz hz=>by show(ox v).bind _=_;rw[hx];exact hz
 ·have hp:XE true (x,s):=⟨y,hm⟩
  simp[pI,ol,h1,h3,hx,hp,-fB',-eB'];exactλz hz=>by show(ox v).bind _=_;rw[hx];exact hz
mutual
def jF:Cond->Cond| .mk op n a v l f ks=>if op=4\/op=6/\tB (.mk op n a v l f ks)=true then⟨1,mD,mD,mD,mD,false, []⟩else⟨op,n,a,v,l,f,BK ks⟩
def BK:List Cond->List Cond|[]=>[]|k::ks=>jF k::BK ks
end
def P9:∀l:List Cond,BK l=l.map jF
 | []=>by rw[BK];rfl
 |k::l=>by rw[BK,P9 l];rfl
def K7(x:Cond):jF x=if x.op=4\/x.op=6/\tB x=true then⟨1,mD,mD,mD,mD,false, []⟩else⟨x.op,x.name,x.arg,x.val,x.lab,x.fold,x.kids.map jF⟩:=by cases x;rw[jF,P9]
abbrev U5:Spc:=aL (a1 Cond) (λx=>∃n,dm x<=n) (enc (X:=Bool)) λx y=>y=tB x
abbrev Va(n:Nat):Spc:=aL (a1 Cond) (λx=>dm x<=n/\gL x<=60) (enc (X:=Cond)) λx y=>y=jF x
abbrev qaa:Spc:=aL (a1 Cond) (λx=>∃n,dm x<=n/\gL x<=60) (enc (X:=Cond)) λx y=>y=jF x
def Ws{H:ab}{op:Int}{name arg val lab:B}{fold:Bool}{l:List Cond}{v:Value}(h:H 33=some (.row v eJ 7 (l.map enc))):FrzTo H (.agg [.v (.int .i64 op), .v (.string name), .v (.string arg), .v (.string val), .v (.string lab), .v (.bool fold), .own 33 v]) (enc (Cond.mk op name arg val lab fold l)):=by
 simp;refine .agg rfl λk c c' h1 h2=>?_
 match k,h1,h2 with
 | 0,h1,h2|1,h1,h2|2,h1,h2|3,h1,h2|4,h1,h2|5,h1,h2=>cases h1;cases h2;exact .same _
 | 6,h1,h2=>cases h1;cases h2;exact fG eJ h
 |k+7,h1,_=>simp at h1
def P3:∀l:List Cond,l.length<=eX l
 | []=>by simp[eX]
 | k::l=>by
   have:=P3 l;have:=zr k;rw[eX,qAD];omega
set_option maxHeartbeats 1000000 in
theorem Fi(n:Nat)(h1:S bF=U5)(h2:S dA=Va n):am dZ dS S (a1 Cond) (λx=>dm x<=n+1/\gL x<=60) (enc (X:=Cond)) λx y=>y=jF x:=by
 rintro x ⟨hd,hn⟩;have hsm:∃n,dm x<=n:=⟨_,qz2 _⟩
 have hany:∀H:ab,Fin (enc (X:=Cond)) (λy=>y=⟨1,mD,mD,mD,mD,false, []⟩) (D.agg [.v (.int .i64 1), .v (.string ⟨#[]⟩), .v (.string ⟨#[]⟩), .v (.string ⟨#[]⟩), .v (.string ⟨#[]⟩), .v (.bool false), .v (.slice none 0 0)]) H:=λH=>by
  refine ba ⟨1,mD,mD,mD,mD,false, []⟩ ?_ rfl;simp[mD];refine .agg rfl λk c c' h1 h2=>?_
  match k,h1,h2 with
  | 0,h1,h2|1,h1,h2|2,h1,h2|3,h1,h2|4,h1,h2|5,h1,h2=>cases h1;cases h2;exact .same _
  | 6,h1,h2=>cases h1;cases h2;exact .nil 7
  |k+7,h1,_=>simp at h1
 by_cases hc:x.op=4\/x.op=6/\tB x=true
 ·have hl:jF x=⟨1,mD,mD,mD,mD,false, []⟩:=by rw[K7,if_pos hc]
  rcases hc with e|⟨e,e'⟩
  ·simp[dZ,dS,h1,hsm,e,hl,-fB',-eB'];exactλb=>hany _
  ·obtain⟨op,name,arg,val,lab,fold,ks⟩:=x;simp only at e;subst e;simp[dZ,dS,h1,hsm,e',hl,-fB',-eB'];exactλb=>hany _
 ·have hl:jF x=⟨x.op,x.name,x.arg,x.val,x.lab,x.fold,x.kids.map jF⟩:=by rw[K7,if_neg hc]
  have e4:¬x.op=4:=λh=>hc (.inl h)
  obtain⟨op,name,arg,val,lab,fold,ks⟩:=x;simp only at hl e4;have hs:op=6->tB ⟨op,name,arg,val,lab,fold,ks⟩=false:=λh=>by
   cases hb:tB ⟨op,name,arg,val,lab,fold,ks⟩with
   |false=>rfl
   |true=>exact absurd (.inr ⟨h,hb⟩) hc
  have hkn:∀y∈ks,dm y<=n/\gL y<=60:=λy hy=>by
   have h1:=NK (p:=⟨op,name,arg,val,lab,fold,ks⟩) hy;have h2:=Im hy;have h3:=zr ⟨op,name,arg,val,lab,fold,ks⟩;simp only at h3;exact⟨by omega,by omega⟩
  have hks:ks.length<=60:=by
   have h3:=zr ⟨op,name,arg,val,lab,fold,ks⟩;simp only at h3;have:=P3 ks;omega
  by_cases e6:op=6
  ·subst e6;have hs':=hs rfl;simp[dZ,dS,h1,hsm,hs',hl,-fB',-eB'];intro b2 b3;refine iB (X:=Unit) [1,2] [2] [] [] (λ_=>True) (λ_=>[(3, .bptr 3 b3 0)]) (λ_=>[(3, .box b3 [.v (.int .i64 6), .v (.string name), .v (.string arg), .v (.string val), .v (.string lab), .v (.bool fold), .own 33 (.slice none 0 0)]),(33, .row (.slice none 0 0) eJ 7 [])]) [3,33] (λ_=>rfl) (by decide) ?_ ?_
   ·simp;refine⟨.inl (.nilown 33),by simp[isNilRow]⟩
   rintro - -;simp[-fB',-eB'];intro hkl;refine ah (X:=Value×List Cond) [2,3,22] [2] ks.length (λk z=>z.2=(ks.take k).map jF/\z.2.length=k) (λz=>[]) (λz=>[(3, .box b3 [.v (.int .i64 6), .v (.string name), .v (.string arg), .v (.string val), .v (.string lab), .v (.bool fold), .own 33 z.1]),(33, .row z.1 eJ 7 (z.2.map enc))]) (.slice none 0 0, []) ⟨rfl,rfl⟩ ?_ ?_
   ·rintro k ⟨v,l⟩ hk ⟨hl1,hl2⟩;simp only at hl1 hl2;obtain⟨y,hy⟩:=ed hk;obtain⟨_,hgy⟩:=qzV.1 hy;obtain⟨q1,q2⟩:=hkn y (qzY hy);have hk60:ks.length<=60:=hks;simp[h2,hk,hy,hgy,q1,q2,-fB',-eB'];refine⟨by omega,by omega,λv=>⟨v,l++ [jF y],⟨?_,by simp;omega⟩, .inl rfl, .inl ⟨rfl,by simp⟩⟩⟩;rw[hl1,<-List.map_take,au hy];simp
   ·rintro⟨v,l⟩ ⟨hl1,hl2⟩;simp only at hl1 hl2;rw[qAb]at hl1;simp[-fB',-eB'];exact ba _ (Ws rfl) (by rw[hl1])
  ·simp[dZ,dS,h1,hsm,e4,e6,hl,-fB',-eB'];intro b2 b3;refine iB (X:=Unit) [1,2] [2] [] [] (λ_=>True) (λ_=>[(3, .bptr 3 b3 0)]) (λ_=>[(3, .box b3 [.v (.int .i64 op), .v (.string name), .v (.string arg), .v (.string val), .v (.string lab), .v (.bool fold), .own 33 (.slice none 0 0)]),(33, .row (.slice none 0 0) eJ 7 [])]) [3,33] (λ_=>rfl) (by decide) ?_ ?_
   ·simp;refine⟨.inl (.nilown 33),by simp[isNilRow]⟩
   rintro - -;simp[-fB',-eB'];intro hkl;refine ah (X:=Value×List Cond) [2,3,22] [2] ks.length (λk z=>z.2=(ks.take k).map jF/\z.2.length=k) (λz=>[]) (λz=>[(3, .box b3 [.v (.int .i64 op), .v (.string name), .v (.string arg), .v (.string val), .v (.string lab), .v (.bool fold), .own 33 z.1]),(33, .row z.1 eJ 7 (z.2.map enc))]) (.slice none 0 0, []) ⟨rfl,rfl⟩ ?_ ?_
   ·rintro k ⟨v,l⟩ hk ⟨hl1,hl2⟩;simp only at hl1 hl2;obtain⟨y,hy⟩:=ed hk;obtain⟨_,hgy⟩:=qzV.1 hy;obtain⟨q1,q2⟩:=hkn y (qzY hy);have hk60:ks.length<=60:=hks;simp[h2,hk,hy,hgy,q1,q2,-fB',-eB'];refine⟨by omega,by omega,λv=>⟨v,l++ [jF y],⟨?_,by simp;omega⟩, .inl rfl, .inl ⟨rfl,by simp⟩⟩⟩;rw[hl1,<-List.map_take,au hy];simp
   ·rintro⟨v,l⟩ ⟨hl1,hl2⟩;simp only at hl1 hl2;rw[qAb]at hl1;simp[-fB',-eB'];exact ba _ (Ws rfl) (by rw[hl1])
def featS:List B:=[⟨#[124]⟩,⟨#[124,112,124]⟩,⟨#[124,112,124,113,124]⟩,⟨#[124,113,124]⟩]
def Sz(s v:B):Option Bool:=if(featS.any λz=>decide (z=s))=true/\(v=⟨#[112]⟩\/v=⟨#[113]⟩)then some (s.data.toList.any λc=>decide (v.data.toList=[c]))else none
structure Pj where
 c:Corpus
 tok:Int
 lb:List B
 bd:List Int
def vI(E:Pj):Nat->Cond->Option Bool
 | 0=>λ_=>none
 | n+1=>λx=>
   if x.op=1 then some true else
   if x.op=2 then EA x.val (vK E.c.toks E.tok (zB E.c.attrs x.name)) x.fold else
   if x.op=3 then Sz (vK E.c.toks E.tok (lR E.c.attrs x.name)) x.val else
   if x.op=4 then(if kB E.lb (λz=>decide (z=x.lab))< 0 then none else match E.bd[(kB E.lb λz=>decide (z=x.lab)).toNat]? with
    |some o=>some (decide (0<=o) && decide (vK E.c.toks E.tok (lR E.c.attrs x.name)=vK E.c.toks o (lR E.c.attrs x.arg)))
    |none=>none)else
   if x.op=5 then some (E.c.regs.any (Mk x E.tok))else
   if x.op=6 then(match x.kids with|k::_=>(vI E n k).map not|[]=>none)else
   if(x.kids.all λk=>(vI E n k).isSome)=true then
    (if x.op=7 then some (!(x.kids.any λk=>!((vI E n k).getD false)))else some (x.kids.any λk=>(vI E n k).getD false))
   else none
def qo2(c:Corpus):Prop:=c.toks.length<=100000/\(∀r∈c.toks,r.length<=100000)/\c.attrs.length<=1000
abbrev HZ:=Corpus×Cond×Int×List B×List Int
def qjU(z:HZ):Pj:=⟨z.1,z.2.2.1,z.2.2.2.1,z.2.2.2.2⟩
def qlf(n:Nat)(z:HZ):Prop:=qo2 z.1/\∃y,vI (qjU z) n z.2.1=some y
def qrc(n:Nat)(z:HZ)(y:Bool):Prop:=vI (qjU z) n z.2.1=some y
abbrev aH:fT HZ:=aE Corpus (a4 Cond Int (List B) (List Int))
abbrev L9(n:Nat):Spc:=aL aH (qlf n) (enc (X:=Bool)) (qrc n)
def qhY(c:Corpus):List D:=[.list 2 (c.attrs.map enc), .list 1 (c.toks.map enc), .list 4 (c.texts.map enc), .list 4 (c.regs.map enc), .list 4 (c.nodes.map enc), .list 1 (c.heads.map enc), .list 1 (c.rels.map enc)]
def qa7(c:Corpus): .agg (qhY c)=enc c:=by simp[qhY]
def qj3{x y:Corpus}(h:qhY x=qhY y):x=y:=bK (by rw[<-qa7,<-qa7,h])
def qg0(z:HZ):List D:=[.cptr (qhY z.1) 0, .cptr [enc z.2.2.1] 0, .cptr [enc z.2.2.2.1] 0, .cptr [enc z.2.2.2.2] 0]
def qhT(z:HZ):List D:=enc z.2.1::qg0 z
def qn1(z:HZ):List D:=[enc z.2.1, .cptr [.clo aO (qg0 z)] 0]
def KX(z z':HZ)(h:qhT z=qhT z'):z=z':=by
 obtain⟨a,b,c,d,e⟩:=z;obtain⟨a',b',c',d',e'⟩:=z';unfold qhT qg0 at h;simp only[qAA,D.cptr.injEq,and_true]at h;rw[bK h.1,qj3 h.2.1,bK h.2.2.1,bK h.2.2.2.1,bK h.2.2.2.2]
def ZQ(z z':HZ)(h:qn1 z=qn1 z'):z=z':=by
 unfold qn1 at h;simp only[qAA,D.cptr.injEq,D.clo.injEq,and_true,true_and]at h;refine KX z z' ?_;unfold qhT;rw[h.1,h.2]
noncomputable abbrev aH1:fT HZ:=aX qhT KX
noncomputable abbrev qy4:fT HZ:=aX qn1 ZQ
noncomputable abbrev Yz(n:Nat):Spc:=aL aH1 (qlf n) (enc (X:=Bool)) (qrc n)
noncomputable abbrev qeu(n:Nat):Spc:=aL qy4 (qlf n) (enc (X:=Bool)) λz y=>∃b,vI (qjU z) n z.2.1=some b/\y=!b
def qbF(n:Nat)(h1:S gj=L9 n):am lB kO S aH1 (qlf n) (enc (X:=Bool)) (qrc n):=by
 rintro z hz;rw[Hd];obtain⟨c,x,tok,lb,bd⟩:=z;simp[qhT,qg0,qhY,lB,kO,h1,hz,-fB',-eB']
@[simp] theorem qus(c:Corpus)(x:Cond)(tok:Int)(lb:List B)(bd:List Int):aH1.dec [.agg [.v (.int .i64 x.op), .v (.string x.name), .v (.string x.arg), .v (.string x.val), .v (.string x.lab), .v (.bool x.fold), .list 7 (x.kids.map enc)], .cptr [.list 2 (c.attrs.map enc), .list 1 (c.toks.map enc), .list 4 (c.texts.map enc), .list 4 (c.regs.map enc), .list 4 (c.nodes.map enc), .list 1 (c.heads.map enc), .list 1 (c.rels.map enc)] 0, .cptr [.v (.int .i64 tok)] 0, .cptr [.list 1 (lb.map enc)] 0, .cptr [.list 1 (bd.map enc)] 0]=some (c,x,tok,lb,bd):=by
 have h:=Jb qhT KX (c,x,tok,lb,bd);have e:qhT (c,x,tok,lb,bd)=[.agg [.v (.int .i64 x.op), .v (.string x.name), .v (.string x.arg), .v (.string x.val), .v (.string x.lab), .v (.bool x.fold), .list 7 (x.kids.map enc)], .cptr [.list 2 (c.attrs.map enc), .list 1 (c.toks.map enc), .list 4 (c.texts.map enc), .list 4 (c.regs.map enc), .list 4 (c.nodes.map enc), .list 1 (c.heads.map enc), .list 1 (c.rels.map enc)] 0, .cptr [.v (.int .i64 tok)] 0, .cptr [.list 1 (lb.map enc)] 0, .cptr [.list 1 (bd.map enc)] 0]:=by simp[qhT,qg0,qhY]
 rw[<-e];exact h
def qbE(n:Nat)(h1:S aO=Yz n):am lA kN S qy4 (qlf n) (enc (X:=Bool)) λz y=>∃b,vI (qjU z) n z.2.1=some b/\y=!b:=by
 rintro z hz;rw[Hd];obtain⟨c,x,tok,lb,bd⟩:=z;simp[qn1,qg0,qhY,lA,kN,h1,hz,-fB',-eB'];exactλy hy=>hy
abbrev qev:Spc:=aL (a2 B B) (λx=>∃b,Sz x.1 x.2=some b) (enc (X:=Bool)) λx y=>Sz x.1 x.2=some y
set_option maxHeartbeats 4000000 in
theorem qib(n:Nat)(h0:S0 aO=Yz n)(h0':S0 cI=qeu n)(h1:S aO=Yz n)(h2:S bE=qbX Cond S0)(h3:S kp=Ma)(h4:S pr=Vf)(h5:S wX=Z5)(h6:S bT=Cy)(h7:S wW=qev)(h8:S dJ=RC)(h9:S np=qez):
 am nD ni S aH (qlf (n+1)) (enc (X:=Bool)) (qrc (n+1)):=by
 rintro⟨c,x,tok,lb,bd⟩ ⟨⟨z1,z2,z3⟩,y,hy⟩;simp only at z1 z2 z3;have hy0:vI ⟨c,tok,lb,bd⟩ (n+1) x=some y:=hy;have hQ:∀w,w=y->qrc (n+1) (c,x,tok,lb,bd) w:=λw e=>by subst e;exact hy
 clear hy;obtain⟨op,name,arg,val,lab,fold,ks⟩:=x;unfold vI at hy0;simp only at hy0;have hval:∀i k:Int,qo2 c:=λ_ _=>⟨z1,z2,z3⟩
 simp[nD,ni,-fB',-eB'];refine iB (X:=Unit) [5,6,7,8,9] [] [11] [] (λ_=>True) (λ_=>[(11, .cptr [.clo aO (qg0 (c,⟨op,name,arg,val,lab,fold,ks⟩,tok,lb,bd))] 0)]) (λ_=>[]) [] (λ_=>rfl) (by decide) ?_ ?_
 ·simp[qg0,qhY];exactλb=> .box rfl
 rintro - -;simp only[qg0,qhY];split at hy0
 ·rename_i e;subst e;obtain rfl:=qAg hy0;simp[-fB',-eB'];exact hQ _ rfl
 rename_i e1;split at hy0
 ·rename_i e;subst e;have hM:qhH (val,vK c.toks tok (zB c.attrs name),fold):=⟨y,hy0⟩
  simp[h3,h4,h5,z1,z2,z3,hM,-fB',-eB'];refine⟨z2,λw hw=>hQ _ (qAg (hw.symm.trans hy0))⟩
 rename_i e2;split at hy0
 ·rename_i e;subst e;have hM:∃b,Sz (vK c.toks tok (lR c.attrs name)) val=some b:=⟨y,hy0⟩
  simp[h6,h4,h7,z1,z2,z3,hM,-fB',-eB'];refine⟨z2,λw hw=>hQ _ (qAg (hw.symm.trans hy0))⟩
 rename_i e3;split at hy0
 ·rename_i e;subst e;split at hy0
  ·cases hy0
  rename_i hj;obtain⟨j,hjj⟩:∃j,j=kB lb λz=>decide (z=lab):=⟨_,rfl⟩
  rw[<-hjj]at hj hy0;cases ho:bd[j.toNat]? with
  |none=>rw[ho]at hy0;cases hy0
  |some o=>
  rw[ho]at hy0;have hy1:(decide (0<=o) && decide (vK c.toks tok (lR c.attrs name)=vK c.toks o (lR c.attrs arg)))=y:=qAg hy0;have j0:0<=j:=by omega
  obtain⟨hjl,hgo⟩:=qzV.1 ho;have j1:j<(bd.length:Int):=by omega
  by_cases h0o:0<=o
  ·simp[h8,<-hjj,j0,j1,ho,hgo,h0o,h6,h4,z1,z2,z3,-fB',-eB'];exact⟨⟨z2,hQ _ (by rw[<-hy1];simp[h0o])⟩,λh=>by omega⟩
  ·simp[h8,<-hjj,j0,j1,ho,hgo,h0o,-fB',-eB'];exactλ_=>hQ _ (by rw[<-hy1];simp[h0o])
 rename_i e4;split at hy0
 ·rename_i e;subst e;have hy1:=qAg hy0;simp[h9,-fB',-eB'];exact hQ _ hy1
 rename_i e5;split at hy0
 ·rename_i e;subst e;split at hy0
  ·rename_i k ks';obtain⟨b,hb,rfl⟩:=qz6.1 hy0;have hp:qlf n (c,k,tok,lb,bd):=⟨⟨z1,z2,z3⟩,b,hb⟩
   simp[h1,hp,-fB',-eB'];intro w hw;have hw:vI ⟨c,tok,lb,bd⟩ n k=some w:=hw;rw[hb]at hw;cases hw;exact hQ _ rfl
  ·cases hy0
 rename_i e6;split at hy0
 rotate_left
 ·cases hy0
 rename_i hall;have hal:∀k∈ks,∃b,vI ⟨c,tok,lb,bd⟩ n k=some b:=λk hk=>qAW.1 (qz4.1 hall k hk)
 have hf2:FunOn S0 (.clo cI [.cptr [.clo aO (qg0 (c,⟨op,name,arg,val,lab,fold,ks⟩,tok,lb,bd))] 0]) ks λk=>!((vI ⟨c,tok,lb,bd⟩ n k).getD false):=
  yg (f:=λk=>(c,k,tok,lb,bd)) h0' (λk _=>Jb qn1 ZQ (c,k,tok,lb,bd)) (λk hk=>⟨⟨z1,z2,z3⟩,hal k hk⟩) (λk hk y hy=>by
   obtain⟨b,h1,h2⟩:=hy;have h1:vI ⟨c,tok,lb,bd⟩ n k=some b:=h1;rw[h2,h1];rfl)
 have hf1:FunOn S0 (.clo aO (qg0 (c,⟨op,name,arg,val,lab,fold,ks⟩,tok,lb,bd))) ks λk=>(vI ⟨c,tok,lb,bd⟩ n k).getD false:=
  yg (f:=λk=>(c,k,tok,lb,bd)) h0 (λk _=>Jb qhT KX (c,k,tok,lb,bd)) (λk hk=>⟨⟨z1,z2,z3⟩,hal k hk⟩) (λk hk y hy=>by
   have h1:vI ⟨c,tok,lb,bd⟩ n k=some y:=hy;rw[h1];rfl)
 split at hy0
 ·rename_i e;subst e;have hy1:=qAg hy0;simp[h2,-fB',-eB'];exact⟨⟨_,hf2⟩,λw hw=>hQ _ (by rw[hw _ hf2];exact hy1)⟩
 ·rename_i e7;have hy1:=qAg hy0;simp[h2,e1,e2,e3,e4,e5,e6,e7,-fB',-eB'];exact⟨⟨_,hf1⟩,λw hw=>hQ _ (by rw[hw _ hf1];exact hy1)⟩
end Go.Gv
