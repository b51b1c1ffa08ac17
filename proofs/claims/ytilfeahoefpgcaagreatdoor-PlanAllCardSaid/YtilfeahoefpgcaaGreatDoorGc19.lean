/- W131 -/
import Derived.Test.YtilfeahoefpgcaaGreatDoorGc18
set_option linter.all false
set_option maxRecDepth 100000
set_option maxHeartbeats 0
open Bool renaming forall_bool → fB', exists_bool → eB'
namespace Go.Gv
open Cod (enc dec)
variable {S S0:Nat->Spc}
abbrev EK:(Rx×Bool)->D:=lL (Y:=Rx) (Z:=Bool)
abbrev qeh:Spc:=qdj a0 EK qka
abbrev ZT:Spc:=qdj a0 EK qbd
def qqh{b:Nat}{post:Rp->(Rx×Bool)->Prop}{x:Rx}{v:Bool}{H:ab}(s:Rp)(h0:H 0=some (.box b (sJ s)))(hq:post s (x,v)):Hh EK b post (.tup [enc x, .v (.bool v)]) H:=GE s (x,v) (.same _) h0 hq
def EB{b:Nat}{post:Rp->(Rx×Bool)->Prop}{x:Rx}{v:Bool}{H:ab}(s:Rp)(h0:H 0=some (.box b (sJ s)))(hq:post s (x,v)):Hh EK b post (.tup [.agg [.v (.int .i64 x.op), .v (.int .i64 x.mn), .v (.int .i64 x.mx), .list 2 (x.rs.map enc), .list 5 (x.kids.map enc)], .v (.bool v)]) H:=by
 have e:(D.agg [.v (.int .i64 x.op), .v (.int .i64 x.mn), .v (.int .i64 x.mx), .list 2 (x.rs.map enc), .list 5 (x.kids.map enc)])=enc x:=by simp
 rw[e];exact qqh s h0 hq
set_option maxHeartbeats 1000000 in
theorem QI(h1:S bA=vZ)(h2:S BL=qef)(h3:S kS=qeh)(h4:S iO=s_crune)(h5:S ei=Rw):vH eH eA S a0 EK (λs z=>∃r,qbd s z=some r) (λs z s' y=>qbd s z=some (s',y)):=by
 rintro b s ⟨⟩ ⟨r,hr⟩;have hr0:=hr;obtain⟨c,hc,h⟩:=qzO.1 hr;have hsz:=Cm hc;have h128:c< 128:=by
  rcases hsz.2 with⟨_,rfl⟩|⟨_,_,_,x,_,hlt,rfl⟩ <;>omega
 split at h
 ·cases h
 rename_i e40;split at h
 ·rename_i e46;subst e46;have hp:InR .i64 (s.pos+1):=by
   rcases hsz.2 with⟨_,e⟩|⟨_,_,_,x,_,hlt,e⟩
   ·cases e
   ·simp only[InR];omega
  cases h;simp[eH,eA,h1,h2,lO,hc,hp,-fB',-eB'];exactλ_=>EB s.bump (by simp[Rp.bump]) hr0
 rename_i e46;split at h
 ·rename_i e91;subst e91;obtain⟨s',x',t'⟩:=r;simp[eH,eA,h1,h3,lO,hc,h,-fB',-eB'];exactλ_=>EB s' (by simp) hr0
 rename_i e91;split at h
 ·cases h
 ·rename_i hn;obtain⟨q,hq,rfl⟩:=qz0.1 h;obtain⟨s',⟨c'⟩,t'⟩:=q;have hq':=hq;obtain⟨c2,hc2,h'⟩:=qzO.1 hq';rw[hc]at hc2;obtain rfl:=qAa hc2;split at h'
  ·cases h'
  rename_i hn2;have n0:0<=c:=by omega
  have n92:c≠92:=λe=>hn2 (.inr e)
  have nin:qjC ⟨#[92,46,91,93,40,41,123,125,124,42,43,63]⟩ c=false:=by
   cases e:qjC ⟨#[92,46,91,93,40,41,123,125,124,42,43,63]⟩ c with
   |false=>rfl
   |true=>exact absurd ⟨n92,e⟩ hn
  have hq2:Dt s ⟨#[92,46,91,93,40,41,123,125,124,42,43,63]⟩=some (s',⟨c'⟩,t'):=hq;simp[eH,eA,h1,h2,h4,h5,lO,hc,e40,e46,e91,n0,n92,h128,nin,hq2,-fB',-eB'];exactλ_=>EB s' (by simp) hr0
abbrev qee:Spc:=qdj a0 EK qeW
def qa9{p:Rp}{c:Int}(h:NM p=some c):c< 128/\ -1<=c/\(0<=c->InR .i64 (p.pos+1)):=by
 obtain⟨h1,h2⟩:=Cm h;rcases h2 with⟨_,rfl⟩|⟨_,_,_,x,_,hlt,rfl⟩
 ·exact⟨by omega,by omega,λh=>absurd h (by omega)⟩
 ·exact⟨by omega,by omega,λ_=>by simp only[InR];omega⟩
def qb1{c:Int}{m:Int×Int}(h:OJ c=some m):c=42/\m=(0, -1)\/c=43/\m=(1, -1)\/c=63/\m=(0,1):=by
 unfold OJ at h;split at h
 ·exact .inl ⟨by assumption,(qAa h).symm⟩
 split at h
 ·exact .inr (.inl ⟨by assumption,(qAa h).symm⟩)
 split at h
 ·exact .inr (.inr ⟨by assumption,(qAa h).symm⟩)
 cases h
def PP{c:Int}(h:OJ c=none):c≠42/\c≠43/\c≠63:=by
 unfold OJ at h;refine⟨λe=>?_,λe=>?_,λe=>?_⟩ <;>(subst e;simp at h)
def yE(o:Option (Int×Int))(x:Rx):List D:=match o with
 |none=>[.v (.int .i64 x.op), .v (.int .i64 x.mn), .v (.int .i64 x.mx), .list 2 (x.rs.map enc), .list 5 (x.kids.map enc)]
 |some m=>[.v (.int .i64 4), .v (.int .i64 m.1), .v (.int .i64 m.2), .v (.slice none 0 0), .list 5 [enc x]]
def qqg{b:Nat}{post:Rp->(Rx×Bool)->Prop}{m:Int×Int}{e:Rx}{H:ab}(s:Rp)(h0:H 0=some (.box b (sJ s)))(hq:post s (⟨4,m.1,m.2, [], [e]⟩,true)):Hh EK b post (.tup [.agg (yE (some m) e), .v (.bool true)]) H:=by
 refine GE s (⟨4,m.1,m.2, [], [e]⟩,true) (.tup rfl λk c c' hc hc'=>?_) h0 hq
 match k with
 | 0=>cases hc;cases hc';exact SG [] [e] (.nil _) (.same _)
 | 1=>cases hc;cases hc';exact .same _
 |k+2=>simp at hc
set_option maxHeartbeats 2000000 in
theorem Lg(h1:S bA=vZ)(h2:S mf=ZT):vH iX iE S a0 EK (λs z=>∃r,qeW s z=some r) (λs z s' y=>qeW s z=some (s',y)):=by
 rintro b s ⟨⟩ ⟨r,hr⟩;have hr0:=hr;obtain⟨⟨s1,e,ok⟩,ha,h⟩:=qzO.1 hr;simp only at h;split at h
 rotate_left
 ·cases h
 rename_i hok;subst hok;obtain⟨c,hc,h⟩:=qzO.1 h;split at h
 ·cases h
 rename_i e123;have hcc:=qa9 hc;simp[iX,iE,h2,ha,-fB',-eB'];intro b2 b4;refine ay (X:=Option (Int×Int)) [0,2,4,5] [2] (λo=>∀m,o=some m->OJ c=some m) (λ_=>[]) (λo=>[(0, .box b (sJ (match o with|none=>s1|some _=>s1.bump))),(4, .box b4 (yE o e))]) (λo=>match o with|none=>1|some _=>0) none (λm h=>by cases h) ?_ (hh:=by simp[yE]);rintro(_|m) hP
 ·cases hm:OJ c with
  | none=>
    rw[hm]at h;cases h;obtain⟨n1,n2,n3⟩:=PP hm;simp[yE,h1,lO,hc,n1,n2,n3,e123,-fB',-eB'];exact EB s1 (by simp) hr0
  | some m=>
    rcases qb1 hm with⟨rfl,rfl⟩|⟨rfl,rfl⟩|⟨rfl,rfl⟩
    all_goals
     have hin:=hcc.2.2 (by omega);simp[yE,h1,lO,hc,hin,-fB',-eB']
     first
      |exact⟨some (0, -1),by simp,⟨.inl ⟨rfl,rfl,rfl,rfl⟩, .inl rfl⟩,rfl⟩
      |exact⟨some (1, -1),by simp,⟨.inl ⟨rfl,rfl,rfl,rfl⟩, .inl rfl⟩,rfl⟩
      |exact⟨some (0,1),by simp,⟨.inl ⟨rfl,rfl,rfl,rfl⟩, .inl rfl⟩,rfl⟩
 ·have hm:=hP m rfl;rw[hm]at h;simp only at h;obtain⟨d,hd,h⟩:=qzO.1 h;split at h
  ·cases h
  rename_i hn;cases h;have hd':d≠123/\OJ d=none:=⟨λe=>hn (.inl e),by
   cases q:OJ d with
   |none=>rfl
   |some q'=>exact absurd (.inr (by rw[q];rfl)) hn⟩
  obtain⟨n1,n2,n3⟩:=PP hd'.2;have n4:=hd'.1;simp[yE,h1,lO,hd,n1,n2,n3,n4,-fB',-eB'];simpa [yE,-fB',-eB']using qqg (e:=e) (m:=m) s1.bump (by simp) hr0
def ql6{p:Rp}{q:Rp× (Rx×Bool)}(h:qeW p ()=some q):q.2.2=true:=by
 obtain⟨a,_,h⟩:=qzO.1 h;split at h
 ·obtain⟨c,_,h⟩:=qzO.1 h;split at h
  ·cases h
  ·split at h
   ·obtain⟨d,_,h⟩:=qzO.1 h;split at h
    ·cases h
    ·cases h;rfl
   ·cases h;rfl
 ·cases h
def Vt{op:Int}{l:List Rx}(h:l.length≠1):YR op l=⟨op,0,0, [],l⟩:=by
 match l,h with
 | [],_=>rfl
 | [e],h=>exact absurd rfl h
 | _::_::_,_=>rfl
theorem qgn{b:Nat}{post:Rp->(Rx×Bool)->Prop}{op:Int}{l:List Rx}{id el:Nat}{v:Value}{H:ab}(s:Rp)(h0:H 0=some (.box b (sJ s)))(hi:id≠0)(h1:H id=some (.row v el 5 (l.map enc)))(hq:post s (⟨op,0,0, [],l⟩,true)):
 Hh EK b post (.tup [.agg [.v (.int .i64 op), .v (.int .i64 0), .v (.int .i64 0), .v (.slice none 0 0), .own id v], .v (.bool true)]) H:=by
 refine GE s (⟨op,0,0, [],l⟩,true) (.tup rfl λk c c' hc hc'=>?_) h0 hq
 match k with
 | 0=>
   cases hc;cases hc';refine SG [] l (.nil _) (.row (el:=el) (by simp[hi];exact h1) rfl (λd hd=>?_) (λk c c' hc hc'=>?_))
   ·obtain⟨x,_,rfl⟩:=qzV.1 hd;exact⟨Cod.kn x,Cod.wid x⟩
   ·rw[hc]at hc';cases hc';exact .same _
 | 1=>cases hc;cases hc';exact .same _
 |k+2=>simp at hc
abbrev qei:Spc:=qdj a0 EK qhb
set_option maxHeartbeats 2000000 in
theorem Lj(h1:S bA=vZ)(h2:S jG=qee):vH iZ iG S a0 EK (λs z=>∃r,qhb s z=some r) (λs z s' y=>qhb s z=some (s',y)):=by
 rintro b s ⟨⟩ ⟨r,hr⟩;have hr0:=hr;obtain⟨⟨s',l'⟩,hl,hr⟩:=qz0.1 hr;simp only at hr;subst hr;obtain⟨c0,hc0⟩:∃c,NM s=some c:=by
  rw[WZ]at hl;obtain⟨c,hc,_⟩:=qzO.1 hl;exact⟨c,hc⟩
 simp[iZ,iG,h1,lO,hc0,-fB',-eB'];intro b2;refine ay (X:=Nat×Rp×Value×List Rx×Int) [0,2] [2] (λz=>WZ z.1 z.2.1 z.2.2.2.1=some (s',l')/\z.2.2.2.1.length+z.1<=100/\NM z.2.1=some z.2.2.2.2) (λz=>[(4, .own 36 z.2.2.1),(5, .v (.int .i32 z.2.2.2.2))]) (λz=>[(0, .box b (sJ z.2.1)),(36, .row z.2.2.1 A5 5 (z.2.2.2.1.map enc))]) (λz=>z.1) (100,s, .slice none 0 0, [],c0) ⟨hl,by simp,hc0⟩ ?_ (hh:=by simp[isNilRow]);clear hl;rintro⟨k,p,v,l,c⟩ ⟨hk,hlen,hc⟩;simp only at hk hlen hc;obtain _|k:=k
 ·rw[WZ]at hk;cases hk
 rw[WZ,hc]at hk;simp only[qAb]at hk;split at hk
 ·rename_i hend;cases hk;have hlt:(l'.length:Int)<=9223372036854775807:=by omega
  by_cases hl1:l'.length=1
  ·obtain⟨e,rfl⟩:∃e,l'=[e]:=qBg.1 hl1;rcases hend with h|rfl|rfl
   ·have h':¬0<=c:=by omega
    simp[h',-fB',-eB'];exact EB s' (by simp) hr0
   all_goals
    simp[-fB',-eB'];exact EB s' (by simp) hr0
  ·rw[Vt hl1]at hr0;have hl1':¬(l'.length:Int)=1:=by omega
   rcases hend with h|rfl|rfl
   ·have h':¬0<=c:=by omega
    simp[h',hl1,hl1',hlt,-fB',-eB'];exact qgn (el:=A5) s' (by simp) (by decide) (by simp) hr0
   all_goals
    simp[hl1,hl1',hlt,-fB',-eB'];exact qgn (el:=A5) s' (by simp) (by decide) (by simp) hr0
 ·rename_i hgo;obtain⟨q,hq,hk⟩:=qzO.1 hk;split at hk
  ·cases hk
  rename_i hop;have hok:=ql6 hq;obtain⟨p',e,ok⟩:=q;simp only at hk hok hop;subst hok;have n1:0<=c:=by omega
  have n2:c≠124:=by omega
  have n3:c≠41:=by omega
  obtain⟨c1,hc1⟩:∃c,NM p'=some c:=by
   obtain _|k:=k
   ·rw[WZ]at hk;cases hk
   rw[WZ]at hk;obtain⟨c,hc,_⟩:=qzO.1 hk;exact⟨c,hc⟩
  simp[h1,h2,lO,hc1,hq,n1,n2,n3,hop,-fB',-eB'];exact⟨by omega,by omega,λv=>⟨k,p',v,l++ [e],c1,⟨hk,by simp;omega,hc1⟩,⟨⟨rfl,rfl⟩, .inl ⟨rfl,rfl,rfl,rfl⟩, .inl ⟨rfl,by simp⟩⟩,by omega⟩⟩
def qnr{p:Rp}{q:Rp× (Rx×Bool)}(h:qhb p ()=some q):q.2.2=true:=by
 obtain⟨a,_,rfl⟩:=qz0.1 h;rfl
abbrev qed:Spc:=qdj a0 EK qiA
set_option maxHeartbeats 2000000 in
theorem Ob(h1:S bA=vZ)(h2:S jI=qei):vH jL jz S a0 EK (λs z=>∃r,qiA s z=some r) (λs z s' y=>qiA s z=some (s',y)):=by
 rintro b s ⟨⟩ ⟨r,hr⟩;have hr0:=hr;obtain⟨⟨s',l'⟩,hl,hr⟩:=qz0.1 hr;simp only at hr;subst hr;simp[jL,jz,-fB',-eB'];intro b2;refine ay (X:=Nat×Rp×Value×List Rx) [0,2] [2] (λz=>qdI z.1 z.2.1 z.2.2.2=some (s',l')/\z.2.2.2.length+z.1<=100) (λz=>[(4, .own 25 z.2.2.1)]) (λz=>[(0, .box b (sJ z.2.1)),(25, .row z.2.2.1 A5 5 (z.2.2.2.map enc))]) (λz=>z.1) (100,s, .slice none 0 0, []) ⟨hl,by simp⟩ ?_ (hh:=by simp[isNilRow]);clear hl;rintro⟨k,p,v,l⟩ ⟨hk,hlen⟩;simp only at hk hlen;obtain _|k:=k
 ·rw[qdI]at hk;cases hk
 rw[qdI]at hk;obtain⟨⟨p',e,ok⟩,hq,hk2⟩:=qzO.1 hk;clear hk;obtain⟨c,hc,hk3⟩:=qzO.1 hk2;clear hk2;have hok:=qnr hq;simp only at hok hc hk3;subst hok;have hop:¬e.op=3:=λh=>by rw[if_pos h]at hk3;cases hk3
 rw[if_neg hop]at hk3;have hcc:=qa9 hc;by_cases hc124:c=124
 ·rw[if_pos hc124]at hk3;have hk:=hk3;subst hc124;have hin:=hcc.2.2 (by omega);simp[h1,h2,lO,hc,hq,hop,hin,-fB',-eB'];exact⟨by omega,by omega,λv=>⟨k,p'.bump,v,l++ [e],⟨hk,by simp;omega⟩,⟨rfl, .inl ⟨rfl,rfl,rfl,rfl⟩, .inl ⟨rfl,by simp⟩⟩,by omega⟩⟩
 ·rw[if_neg hc124]at hk3;cases hk3;have hlt:((l++ [e]).length:Int)<=9223372036854775807:=by simp;omega
  have hcc':¬c=124:=hc124;cases l with
  | nil=>
    simp[h1,h2,lO,hc,hq,hop,hcc',-fB',-eB'];exactλv=>EB s' (by simp) hr0
  | cons x l=>
    simp[h1,h2,lO,hc,hq,hop,hcc',-fB',-eB'];have hr1:=hr0;rw[Vt (by simp)]at hr1;exact⟨by simp at hlen;omega,by simp at hlen;omega,λv _=>⟨λh=>absurd h (by omega),λ_=>qgn (el:=A5) (l:=x::l++ [e]) s' (by simp) (by decide) (by simp) hr1⟩⟩
end Go.Gv
namespace Go.Gv
open Go.Proofs
def gE:CC:=gq Tryz.f335 [] {} _
def gw:List ak:=[]
def wO:FO eJ [] gE gw 14:=fo
def dV:CC:=gq Tryz.f340 [] {} _
def dO:List ak:=[]
def qr:FO eB [] dV dO 148:=fo
def cK:CC:=gq Tryz.f342 [] {} _
def cG:List ak:=[]
def lY:FO cT [] cK cG 53:=fo
def qO:CC:=gq Tryz.f142 [] {} _
def qj:List ak:=[.tmp 2]
def Id:FO sE [] qO qj 8:=fo
def nt:CC:=gq Tryz.f209 [] {} _
def na:List ak:=[.tmp 2]
def Ed:FO ph [] nt na 25:=fo
def my:CC:=gq Tryz.f337 [] {} _
def lX:List ak:=[.tmp 4]
def C6:FO nn [] my lX 20:=fo
def pN:CC:=gq Tryz.f341 [] {} _
def ou:List ak:=[.tmp 2]
def Gk:FO qF [] pN ou 6:=fo
def pw:CC:=gq Tryz.f336 [2,3] {} _
def nU:List ak:=[.tmp 4]
def F5:FO di [2,3] pw nU 10:=fo
def sK:CC:=gq Tryz.f330 [2044048] { bx:=[0] } _
def rY:List ak:=[.tmp 2]
def Kg:FO uL [2044048] sK rY 51:=fo
open Cod (enc dec)
variable {S S0:Nat->Spc}
abbrev qer:Spc:=aL (a1 I32) (λ_=>True) (enc (X:=Bool)) λ_ y=>y=false
def HH:am pN ou S (a1 I32) (λ_=>True) (enc (X:=Bool)) λ_ y=>y=false:=by
 rintro x -;simp[pN,ou,-fB']
def Ta(a b:Int):Int:=if a<b then -1 else if b<a then 1 else 0
abbrev qeA:Spc:=aL (a2 I32 I32) (λ_=>True) (enc (X:=Int)) λx y=>y=Ta x.1.val x.2.val
def DQ(h1:S qF=qer):am my lX S (a2 I32 I32) (λ_=>True) (enc (X:=Int)) λx y=>y=Ta x.1.val x.2.val:=by
 rintro⟨⟨x⟩,⟨y⟩⟩ -;simp[my,lX,h1,-fB',-eB'];refine⟨λh=>by simp[Ta,h],λh=>⟨λh2=>?_,λh2=>?_⟩⟩
 ·have h3:¬x<y:=by omega
  simp[Ta,h2,h3]
 ·have h3:¬x<y:=by omega
  have h4:¬y<x:=by omega
  simp[Ta,h3,h4]
abbrev qes:Spc:=aL (a2 Rng Rng) (λ_=>True) (enc (X:=Int)) λx y=>y=Ta x.1.fr.val x.2.fr.val
def Hq(h1:S nn=qeA):am pw nU S (a2 Rng Rng) (λ_=>True) (enc (X:=Int)) λx y=>y=Ta x.1.fr.val x.2.fr.val:=by
 rintro⟨x,y⟩ -;simp[pw,nU,h1,-fB',-eB']
abbrev qac:Spc:=aL (a1 U64) (λx=>0<=x.val/\x.val<=200) (enc (X:=Int)) λ_ _=>True
def qhO(x:List Rng×Int×Int×D×Unit):Prop:=HP x.1=true/\x.2.1=0/\x.2.2.1=x.1.length/\x.2.2.2.1= .clo di []
abbrev qet:Spc:=aL (aE (List Rng) (aE Int (aE Int (aD a0)))) qhO SQ λ_ _=>True
def FH{l:List Rng}(h:HP l=true):1<=l.length/\l.length<=2:=by
 match l,h with
 | [x],_=>exact⟨qzX 1,qA8 1⟩
 | [x,y],_=>exact⟨qA8 1,qzX 2⟩
def UK:∀{l:List Rng},HP l=true->1<l.length->∃x y,l=[x,y]
 | [x,y],_,_=>⟨x,y,rfl⟩
 | [x],_,h=>by simp at h
def qdS:∀{l:List Rng} {x:Rng},l[0]? =some x->(l.take 1).foldl tE []=[x]
 |y::l,x,h=>by cases h;rfl
theorem Oa(h1:S di=qes):am cK cG S (aE (List Rng) (aE Int (aE Int (aD a0)))) qhO SQ λ_ _=>True:=by
 rintro⟨l,a,b,d,⟨⟩⟩ ⟨hs,ha,hb,hd⟩;simp only at hs ha hb hd;subst ha;subst hb;subst hd;simp[cK,cG,-fB',-eB'];have hl2:=FH hs;refine⟨by simp only[InR];omega,?_⟩;refine ay (X:=Nat) [0,1,2,3] [] (λi=>1<=i/\i<=l.length) (λi=>[(8,enc (i:Int))]) (λ_=>[]) (λi=>l.length -i) 1 ⟨qzX 1,hl2.1⟩ ?_;rintro i ⟨hi1,hi2⟩;by_cases hlt:i<l.length
 ·obtain rfl:i=1:=by omega
  obtain⟨x,y,rfl⟩:=UK hs hlt;simp[-fB',-eB'];refine ay (X:=Unit) [0,1,2,3,8] [] (λ_=>True) (λ_=>[(9,enc (1:Int))]) (λ_=>[]) (λ_=>0) () trivial ?_;rintro - -;have hc:¬Ta y.fr.val x.fr.val< 0:=by
   simp[HP]at hs;unfold Ta;rw[if_neg (by omega)];split<;>omega
  simp[h1,hc,-fB',-eB'];exact⟨by simp only[InR];omega,λ_=>⟨by simp only[InR];omega,2,⟨by omega,by omega⟩,rfl,rfl⟩⟩
 ·obtain rfl:i=l.length:=by omega
  simp[-fB',-eB'];exact aV (Y:=Unit) () (.same _) trivial
abbrev qep:Spc:=aL (aE (List Rng) (aE Int (aE Int (aE Int (aD a0))))) (λx=>qhO (x.1,x.2.1,x.2.2.1,x.2.2.2.2)) SQ λ_ _=>True
def N9(h1:S cT=qet):am dV dO S (aE (List Rng) (aE Int (aE Int (aE Int (aD a0))))) (λx=>qhO (x.1,x.2.1,x.2.2.1,x.2.2.2.2)) SQ λ_ _=>True:=by
 rintro⟨l,a,b,lim,d,⟨⟩⟩ hp;have hp':=hp;obtain⟨hs,ha,hb,hd⟩:=hp;simp only at hs ha hb hd hp';subst ha;subst hb;subst hd;have hl2:=FH hs;simp[dV,dO,-fB',-eB'];refine ay (X:=Unit) [0,1,2,3,4,10,11] [] (λ_=>True) (λ_=>[]) (λ_=>[]) (λ_=>0) () trivial ?_;rintro - -;have h12:(l.length:Int)<=12:=by omega
 have hin:InR .i64 (l.length:Int):=by simp only[InR];omega
 simp[h1,h12,hin,hp',-fB',-eB'];exact aV (Y:=Unit) () (.same _) trivial
abbrev qiO:Spc:=aL (aE (List Rng) (aD a0)) (λx=>HP x.1=true/\x.2.1= .clo di []) SQ λ_ _=>True
def xz(h1:S sE=qac)(h2:S eB=qep):am gE gw S (aE (List Rng) (aD a0)) (λx=>HP x.1=true/\x.2.1= .clo di []) SQ λ_ _=>True:=by
 rintro⟨l,d,⟨⟩⟩ ⟨hs,hd⟩;simp only at hs hd;subst hd;have hl2:=FH hs;have hp:qhO (l,0,(l.length:Int), .clo di [],()):=⟨hs,rfl,rfl,rfl⟩
 have hw:IntKind.u64.wrap (l.length:Int)=l.length:=by rw[IntKind.wrap_u64];omega
 have h200:(l.length:Int)<=200:=by omega
 simp[gE,gw,h1,h2,hp,hw,h200,-fB',-eB'];exactλ_=>aV (Y:=Unit) () (.same _) trivial
abbrev Vg:Spc:=aL (a1 U64) (λx=>0<=x.val/\x.val<=200) (enc (X:=Int)) λ_ _=>True
def X3(h1:S ph=Vg):am qO qj S (a1 U64) (λx=>0<=x.val/\x.val<=200) (enc (X:=Int)) λ_ _=>True:=by
 rintro⟨x⟩ ⟨h0,h2⟩;simp only at h0 h2;simp[qO,qj,h1,h0,h2,-fB',-eB']
def Q5:am nt na S (a1 U64) (λx=>0<=x.val/\x.val<=200) (enc (X:=Int)) λ_ _=>True:=by
 rintro⟨x⟩ ⟨h0,h2⟩;simp only at h0 h2;have c1:¬4294967296<=x:=by omega
 have c2:¬65536<=x:=by omega
 have c3:¬256<=x:=by omega
 have hw:IntKind.u8.wrap x=x:=by rw[IntKind.wrap_u8];omega
 simp[nt,na,c1,c2,c3,hw,h0,-fB',-eB'];refine⟨Int.lt_of_le_of_lt h2 (by decide),λc _=>?_⟩;have:=c.toNat_lt;have hw2:IntKind.i64.wrap (c.toNat:Int)=c.toNat:=by rw[IntKind.wrap_i64];omega
 rw[hw2];simp only[InR];omega
abbrev qbc:Spc:=qt9 (Y:=Rng) (aD a0) (λx=>HP x.1=true/\x.2.1= .clo di []) SQ (λ_ _=>True) xN 2
abbrev UX:Spc:=qpW (Y:=Rng) a0 (λ_ l=>HP l=true) (λ_ l r=>r=Gp l) xN 2
set_option maxHeartbeats 1000000 in
theorem Lh(h1:S eJ=qbc):Tl (Y:=Rng) sK rY S a0 (λ_ l=>HP l=true) (λ_ l r=>r=Gp l) xN 2:=by
 rintro v l ⟨⟩ hs;have hs:HP l=true:=hs;have hl2:=FH hs;simp[sK,rY,h1,hs,-fB',-eB'];intro _;refine ah (X:=Value×List Rng) [9] [0] l.length (λk x=>x.2=(l.take k).foldl tE []) (λx=>[(3, .own 48 x.1)]) (λx=>[(48, .row x.1 xN 2 (x.2.map enc))]) (.slice none 0 0, []) rfl ?_ ?_ (hh:=by simp[isNilRow])
 ·rintro k ⟨v',out⟩ hk hP;simp only at hP;have hk2:k=0\/k=1:=by omega
  rcases hk2 with rfl|rfl
  ·obtain⟨x,hx⟩:∃x,l[0]? =some x:=⟨_,qzR hk⟩
   obtain⟨_,hgx⟩:=qzP.1 hx;have ho:out=[]:=by rw[hP];rfl
   subst ho;have h1:=qdS hx;simp[hk,hx,hgx,h1,-fB',-eB']
  ·obtain⟨x,y,rfl⟩:=UK hs hk;have ho:out=[x]:=by rw[hP];rfl
   subst ho;simp[HP]at hs;by_cases hle:y.fr.val<=x.to.val+1
   ·have hst:tE (tE [] x) y=[⟨x.fr,⟨max x.to.val y.to.val⟩⟩]:=by simp[tE,hle]
    have hr:InR .i32 (x.to.val+1):=by simp only[InR];omega
    simp[hle,hst,hr,-fB',-eB'];simp only[InR];omega
   ·have hst:tE (tE [] x) y=[x,y]:=by simp[tE,hle]
    have hr:InR .i32 (x.to.val+1):=by simp only[InR];omega
    simp[hle,hst,hr,-fB',-eB'];simp only[InR];omega
 ·rintro⟨v',out⟩ hP;simp only at hP;rw[qz8]at hP;subst hP;simp[-fB',-eB'];exact dF (Gp l) (by simp[Gp]) rfl
def qg9{p:Rp}{sp:B}{q:Rp× (I32×Bool)}{c:Int}(hc:NM p=some c)(h:Dt p sp=some q):q=(p.bump,⟨c⟩,true):=by
 unfold Dt at h;rw[hc,qAb]at h;split at h
 ·cases h
 ·exact(qAa h).symm
def qjn{p:Rp}{q:Rp× (I32×Bool)}{c:Int}(hc:NM p=some c)(h:VM p ()=some q):q=(p.bump,⟨c⟩,true):=by
 unfold VM at h;rw[hc,qAb]at h;split at h
 ·cases h
 ·exact qg9 hc h
theorem qqf{b:Nat}{post:Rp->(Rx×Bool)->Prop}{l:List Rng}{id el:Nat}{v:Value}{H:ab}(s:Rp)(h0:H 0=some (.box b (sJ s)))(hi:id≠0)(h1:H id=some (.row v el 2 (l.map enc)))(hq:post s (⟨1,0,0,l, []⟩,true)):
 Hh EK b post (.tup [.agg [.v (.int .i64 1), .v (.int .i64 0), .v (.int .i64 0), .own id v, .v (.slice none 0 0)], .v (.bool true)]) H:=by
 refine GE s (⟨1,0,0,l, []⟩,true) (.tup rfl λk c c' hc hc'=>?_) h0 hq
 match k with
 | 0=>
   cases hc;cases hc';refine SG l [] (.row (el:=el) (by simp[hi];exact h1) rfl (λd hd=>?_) (λk c c' hc hc'=>?_)) (.nil _)
   ·obtain⟨x,_,rfl⟩:=qzV.1 hd;exact⟨Cod.kn x,Cod.wid x⟩
   ·rw[hc]at hc';cases hc';exact .same _
 | 1=>cases hc;cases hc';exact .same _
 |k+2=>simp at hc
set_option maxHeartbeats 2000000 in
theorem Oe(h1:S bA=vZ)(h2:S jH=qeg)(h3:S uL=UX):vH jM jA S a0 EK (λs z=>∃r,qka s z=some r) (λs z s' y=>qka s z=some (s',y)):=by
 rintro b s ⟨⟩ ⟨r,hr⟩;have hr0:=hr;obtain⟨a0,ha0,h⟩:=qzO.1 hr;have e91:¬a0≠91:=λe=>by rw[if_pos e]at h;cases h
 rw[if_neg e91]at h;have hin:=(qa9 ha0).2.2 (by omega);obtain⟨c0,hc0,h⟩:=qzO.1 h;have n94:¬c0=94:=λe=>by rw[if_pos e]at h;cases h
 rw[if_neg n94]at h;obtain⟨⟨s',l'⟩,hl,h⟩:=qzO.1 h;simp only at h;have hsrt:HP l'=true:=by
  split at h
  ·assumption
  ·cases h
 rw[if_pos hsrt]at h;cases h;have hc1:NM ⟨s.s,s.pos+1,s.fault,s.e⟩=some c0:=hc0;simp[jM,jA,h1,lO,hin,hc1,n94,-fB',-eB'];intro b2;refine ay (X:=Nat×Rp×Value×List Rng) [0,2,4,5] [2] (λz=>qg7 z.1 z.2.1 z.2.2.2=some (s',l')/\z.2.2.2.length+z.1<=100) (λz=>[(6, .own 86 z.2.2.1)]) (λz=>[(0, .box b (sJ z.2.1)),(86, .row z.2.2.1 xN 2 (z.2.2.2.map enc))]) (λz=>z.1) (100,s.bump, .slice none 0 0, []) ⟨hl,by simp⟩ ?_ (hh:=by simp[isNilRow,Rp.bump]);clear hl;rintro⟨k,p,v,l⟩ ⟨hk,hlen⟩;simp only at hk hlen;obtain _|k:=k
 ·rw[qg7]at hk;cases hk
 rw[qg7]at hk;obtain⟨c,hc,hk2⟩:=qzO.1 hk;clear hk;have hlt:(l.length:Int)<=9223372036854775807:=by omega
 by_cases hend:l≠ []/\c=93
 ·rw[if_pos hend]at hk2;cases hk2;obtain⟨hne,rfl⟩:=hend;have hin2:=(qa9 hc).2.2 (by omega);have hl0:¬l'.length=0:=λe=>hne (qAH.1 e)
  simp(config:={ maxSteps:=2000000 }) [h1,h3,lO,hc,hlt,hne,hl0,hin2,hsrt,-fB',-eB'];exactλv'=>qqf (el:=xN) s'.bump (by simp[Rp.bump]) (by decide) (by simp) hr0
 ·rw[if_neg hend]at hk2;obtain⟨q,hq,hk3⟩:=qzO.1 hk2;clear hk2;obtain⟨d,hd,hk4⟩:=qzO.1 hk3;clear hk3;have hqv:=qjn hc hq;subst hqv;simp only at hd hk4;have n45:¬d=45:=λe=>by rw[if_pos e]at hk4;cases hk4
  rw[if_neg n45]at hk4;have hd':NM ⟨p.s,p.pos+1,p.fault,p.e⟩=some d:=hd;cases l with
  | nil=>
    simp(config:={ maxSteps:=2000000 }) [h1,h2,lO,hq,hd',n45,Rp.bump,-fB',-eB'];exactλv=>⟨k,p.bump,v, [⟨⟨c⟩,⟨c⟩⟩],⟨hk4,by simp at hlen ⊢;omega⟩,⟨rfl, .inl ⟨rfl,rfl,rfl,rfl⟩, .inl ⟨rfl,by simp⟩⟩,by omega⟩
  | cons x l=>
    have n93:¬c=93:=λe=>hend ⟨by simp,e⟩
    simp(config:={ maxSteps:=2000000 }) [h1,h2,lO,hc,hq,hd',n45,n93,Rp.bump,-fB',-eB'];have hlen2:l.length+1+ (k+1)<=100:=by simpa using hlen
    first
     |exactλ_ _=>⟨by omega,by omega,λv=>⟨k,p.bump,v,x::l++ [⟨⟨c⟩,⟨c⟩⟩],⟨hk4,by simp;omega⟩,⟨rfl, .inl ⟨rfl,rfl,rfl,rfl⟩, .inl ⟨rfl,by simp⟩⟩,by omega⟩⟩
     |exact⟨by omega,by omega,by omega,λv=>⟨k,p.bump,v,x::l++ [⟨⟨c⟩,⟨c⟩⟩],⟨hk4,by simp;omega⟩,⟨rfl, .inl ⟨rfl,rfl,rfl,rfl⟩, .inl ⟨rfl,by simp⟩⟩,by omega⟩⟩
     |exact⟨by omega,by omega,λv=>⟨k,p.bump,v,x::l++ [⟨⟨c⟩,⟨c⟩⟩],⟨hk4,by simp;omega⟩,⟨rfl, .inl ⟨rfl,rfl,rfl,rfl⟩, .inl ⟨rfl,by simp⟩⟩,by omega⟩⟩
     |(refineλ_=>⟨λ_=>?_,λ_=>?_⟩ <;>exact⟨by omega,by omega,λv=>⟨k,p.bump,v,x::l++ [⟨⟨c⟩,⟨c⟩⟩],⟨hk4,by simp;omega⟩,⟨rfl, .inl ⟨rfl,rfl,rfl,rfl⟩, .inl ⟨rfl,by simp⟩⟩,by omega⟩⟩)
end Go.Gv
namespace Go.Gv
open Cod (enc dec)
variable {dq:Prop}
def qu1(F:Rx->Int->Int->Option (Bool×Int)):PT:=λd ds H K=>∃id b x n k r d0,ds=[d0, .v (.int .i64 n), .bptr id b 0]/\dec d0=some x/\H id=some (.box b [.v (.int .i64 k)])/\F x n k=some r/\K (.v (.bool r.1)) (ai H id (some (.box b [.v (.int .i64 r.2)])))
def qiL(F:Rx->Int->Int->Option (Bool×Int)):qZ (qu1 F):=λd ds H K K' hk ⟨id,b,x,n,k,r,d0,h1,h2,h3,h4,h5⟩=>⟨id,b,x,n,k,r,d0,h1,h2,h3,h4,hk _ _ h5⟩
def qn5(F:Rx->Int->Int->Option (Bool×Int)):Spc:= .gen _ (qiL F)
def qrW(F:Rx->Int->Int->Option (Bool×Int))(o:Option Rx)(n:Int)(id b:Nat)(q:Option Res)(H:ab)(K:D->ab->Prop):Prop:=
 ∃k,q=some (.box b [.v (.int .i64 k)])/\gX o λx=>gX (F x n k) λr=>K (.v (.bool r.1)) (ai H id (some (.box b [.v (.int .i64 r.2)])))
@[congr] theorem qu0{F:Rx->Int->Int->Option (Bool×Int)}{o o':Option Rx}{n n':Int}{id b:Nat}{q q':Option Res}{H:ab}{K:D->ab->Prop}(h1:o=o')(h2:n=n')(h3:q=q'):qrW F o n id b q H K=qrW F o' n' id b q' H K:=by subst h1;subst h2;subst h3;rfl
@[simp] theorem qu2(F:Rx->Int->Int->Option (Bool×Int))(d id b:Nat)(d0:D)(n:Int)(H:ab)(K:D->ab->Prop):(qn5 F).pt d [d0, .v (.int .i64 n), .bptr id b 0] H K=qrW F (dec d0) n id b (H id) H K:=by
 refine propext ⟨λh=>?_,λh=>?_⟩
 ·obtain⟨id',b',x,n',k,r,d0',h1,h2,h3,h4,h5⟩:=h;cases h1;refine⟨k,h3,?_⟩;rw[h2];show gX (F x n k) _;rw[h4];exact h5
 ·obtain⟨k,h1,h2⟩:=h;cases hx:dec (X:=Rx) d0 with
  |none=>rw[hx]at h2;exact h2.elim
  | some x=>
    rw[hx]at h2;have h2:gX (F x n k) _:=h2;cases hr:F x n k with
    |none=>rw[hr]at h2;exact h2.elim
    |some r=>rw[hr]at h2;exact⟨id,b,x,n,k,r,d0,rfl,hx,h1,hr,h2⟩
@[simp] theorem qxY(F:Rx->Int->Int->Option (Bool×Int))(o:Option Rx)(n:Int)(id b:Nat)(k:Int)(H:ab)(K:D->ab->Prop):
 qrW F o n id b (some (.box b [.v (.int .i64 k)])) H K=gX o λx=>gX (F x n k) λr=>K (.v (.bool r.1)) (ai H id (some (.box b [.v (.int .i64 r.2)]))):=by
 refine propext ⟨λ⟨k',h1,h2⟩=>?_,λh=>⟨k,rfl,h⟩⟩;cases h1;exact h2
def qrq(b:Nat)(q:Bool×Int)(r:D)(H:ab):Prop:=r= .v (.bool q.1)/\H 2=some (.box b [.v (.int .i64 q.2)])
def qhv(cc:CC)(rs:List ak)(S:Nat->Spc)(F:Rx->Int->Int->Option (Bool×Int)):Prop:=
 ∀b x n k q,F x n k=some q->vc S cc (vQ rs λr H'=>qrq b q r H') (dC [enc x, .v (.int .i64 n), .bptr 2 b 0]) (ai da 2 (some (.box b [.v (.int .i64 k)])))
variable {P:Program}{S:Nat->Spc}{f:Nat}{im:List Nat}{cc:CC}{rs:List ak}{N:Nat}
theorem Yg{F:Rx->Int->Int->Option (Bool×Int)}(hS:∀f,Tri dq P f (S f).pt)(h:Ah P f im cc rs N)(hN:3<=N)(hw:qhv cc rs S F):Tri dq P f (qn5 F).pt:=by
 obtain⟨wT,enter,fn,code,h1,h2,h3,h4,h5⟩:=h;refine nE hS wT h1 h2 enter h3 h4 h5 ?_;rintro ds H d K ⟨id,b,x,n,k,r,d0,rfl,hd,hid,hF,hK⟩;have h0:∀i q,ai da 2 (some (.box b [.v (.int .i64 k)])) i=some q->i=2/\q= .box b [.v (.int .i64 k)]:=by
  intro i q h;by_cases e:i=2
  ·subst e;simp only[ai,if_true]at h;cases h;exact⟨rfl,rfl⟩
  ·simp[ai,e,da]at h
 refine⟨hN, [enc x, .v (.int .i64 n), .bptr 2 b 0],ai da 2 (some (.box b [.v (.int .i64 k)])),λi=>if i=2 then id else i, .cons (Cod.le _ _ hd) (.cons (.same _) (.cons (.bptr _ _ _ _) .nil)),λi q h=>?_,λi j q q' h h' e=>?_,_,hw b x n k r hF,?_⟩
 ·obtain⟨rfl,rfl⟩:=h0 i q h;exact hid
 ·exact(h0 i q h).1.trans (h0 j q' h').1.symm
 ·rintro r' H' ⟨rfl,k2⟩;refine⟨.v (.bool r.1),da,ai H id (some (.box b [.v (.int .i64 r.2)])),λi=>if i=id then some 2 else none, .same _,λj q h=>by simp[da]at h,hK,λi s hi=>?_,λi j k' s q hi hj e1 e2=>?_⟩
  ·by_cases e:i=id
   ·subst e;simp only[ai,if_true]at hi ⊢;cases hi;exact k2
   ·simp only[ai,e,if_false]at hi ⊢;refine⟨hi,λk'' q h he=>?_⟩;obtain⟨rfl,rfl⟩:=h0 k'' q h;exact e he.symm
  ·by_cases c1:i=id
   ·by_cases c2:j=id
    ·exact c1.trans c2.symm
    ·simp[c2]at e2
   ·simp[c1]at e1
end Go.Gv
namespace Go.Gv
open Go.Proofs
def lc:CC:=gq Tryz.f287 [3] { bx:=[2],ke:=[2] } _
def kB:List ak:=[.tmp 6]
def Mq:FO ri [3] lc kB 36:=fo
def pv:CC:=gq Tryz.f317 [] {} _
def nT:List ak:=[.tmp 2]
def F4:FO qx [] pv nT 47:=fo
def dY:CC:=gq Tryz.f307 [1] {} _
def dR:List ak:=[.tmp 2]
def D8:FO oV [1] dY dR 101:=fo
def ml:CC:=gq Tryz.f288 [1] {} _
def lR:List ak:=[.tmp 2]
def CY:FO iQ [1] ml lR 19:=fo
def iW:CC:=gq Tryz.f289 [1] {} _
def iD:List ak:=[.tmp 2]
def D9:FO kg [1] iW iD 42:=fo
def py:CC:=gq Tryz.f255 [1] {} _
def nW:List ak:=[.tmp 2]
def F7:FO lI [1] py nW 16:=fo
open Cod (enc dec)
variable {S S0:Nat->Spc}
def Ja{X:Type}{l:List X}{k:Nat}(h:k<l.length):∃x,l[k]? =some x:=⟨_,qzR h⟩
def Nq{X:Type}{l:List X}{k:Nat}{x:X}(h:l[k]? =some x):l.drop k=x::l.drop (k+1):=by
 obtain⟨h1,h2⟩:=qzP.1 h;rw[qAK h1,h2]
theorem Oc(n:Nat)(h1:S ri=qn5 (wx n)):qhv lc kB S (wx (n+1)):=by
 rintro b x d k ⟨ok,m⟩ hF;have hF0:=hF;simp only[wx]at hF;split at hF
 ·cases hF
 rename_i hrng;have hin:InR .i64 (k+1):=by simp only[InR];omega
 split at hF
 ·rename_i hbig;cases hF;by_cases h40:40<d
  ·simp[lc,kB,hin,h40,-fB',-eB'];exact⟨rfl,by simp⟩
  ·have h200:200<k+1:=by omega
   simp[lc,kB,hin,h40,h200,-fB',-eB'];exact⟨rfl,by simp⟩
 ·rename_i hbig;have h40:¬40<d:=by omega
  have h200:¬200<k+1:=by omega
  simp[lc,kB,hin,h40,h200,-fB',-eB'];intro hkl;refine ah (X:=Int) [1,2,23] [] x.kids.length (λi z=>qpf (wx n) d (x.kids.drop i) z=some (ok,m)) (λz=>[]) (λz=>[(2, .box b [.v (.int .i64 z)])]) (k+1) hF ?_ ?_
  ·rintro i z hi hz;obtain⟨y,hy⟩:=Ja hi;obtain⟨_,hgy⟩:=qzP.1 hy;rw[Nq hy,qpf]at hz;obtain⟨⟨t,m'⟩,hs,hz⟩:=qzO.1 hz;simp only at hz;have hin2:InR .i64 (d+1):=by simp only[InR];omega
   cases t with
   | true=>
     simp only[if_true]at hz;simp[h1,hi,hy,hgy,hs,hin2,-fB',-eB'];exact⟨m',hz, .inl rfl⟩
   | false=>
     simp only[qAD,if_false]at hz;cases hz;simp[h1,hi,hy,hgy,hs,hin2,-fB',-eB'];exact⟨rfl,by simp⟩
  ·rintro z hz;rw[qAR,qpf]at hz;cases hz;simp[-fB',-eB'];exact⟨rfl,by simp⟩
abbrev UT:Spc:=aL (a1 (List Rng)) (λl=>qar l=true) (enc (X:=Bool)) λ_ y=>y=true
def Hp:am pv nT S (a1 (List Rng)) (λl=>qar l=true) (enc (X:=Bool)) λ_ y=>y=true:=by
 rintro l hl;obtain⟨r,rfl⟩:∃r,l=[r]:=by
  match l,hl with
  | [r],_=>exact⟨r,rfl⟩
 simp[qar]at hl;simp[pv,nT,-fB',-eB'];refine ah (X:=Unit) [0,5] [] 1 (λ_ _=>True) (λ_=>[]) (λ_=>[]) () trivial ?_ ?_
 ·rintro k -hk -;obtain rfl:k=0:=by omega
  have n1:¬r.fr.val< 0:=by omega
  have n2:¬r.to.val<r.fr.val:=by omega
  have n3:¬1114111<r.to.val:=by omega
  simp[n1,n2,n3,-fB',-eB']
 ·rintro - -;simp[-fB',-eB']
abbrev Py:Spc:=aL (a1 Rx) (λx=>qpx x=true) (enc (X:=Bool)) λ_ y=>y=true
set_option maxHeartbeats 2000000 in
theorem E6(h1:S qx=UT):am dY dR S (a1 Rx) (λx=>qpx x=true) (enc (X:=Bool)) λ_ y=>y=true:=by
 rintro⟨op,mn,mx,rs,ks⟩ hx;have hx:qpx ⟨op,mn,mx,rs,ks⟩=true:=hx;unfold qpx at hx;simp only at hx;split at hx
 ·rename_i e;subst e;simp at hx;obtain⟨⟨⟨rfl,rfl⟩,rfl⟩,hs⟩:=hx;simp[dY,dR,h1,hs,-fB',-eB'];refine ah (X:=Unit) [1,3] [] 0 (λ_ _=>True) (λ_=>[]) (λ_=>[]) () trivial (λk x hk=>absurd hk (by omega)) (λ_ _=>?_);simp[h1,hs,-fB',-eB']
 split at hx
 ·rename_i e1 e;subst e;simp at hx;obtain⟨⟨⟨⟨rfl,rfl⟩,rfl⟩,hl1,hl3⟩,hk2⟩:=hx;have hlt:(ks.length:Int)<=9223372036854775807:=by omega
  simp[dY,dR,hlt,-fB',-eB'];refine ah (X:=Unit) [1,3,34] [] ks.length (λ_ _=>True) (λ_=>[]) (λ_=>[]) () trivial ?_ ?_
  ·rintro k -hk -;obtain⟨y,hy⟩:=Ja hk;obtain⟨_,hgy⟩:=qzP.1 hy;have hop:=hk2 y (qzS hy);simp[hk,hy,hgy,hop,-fB',-eB']
  ·rintro - -;have hl1':¬(ks.length:Int)=1:=by omega
   simp[hl1,hl1',-fB',-eB']
 split at hx
 ·rename_i e1 e2 e;subst e;simp at hx;obtain⟨⟨⟨⟨rfl,rfl⟩,rfl⟩,hl1,hl3⟩,hk2⟩:=hx;have hlt:(ks.length:Int)<=9223372036854775807:=by omega
  simp[dY,dR,hlt,-fB',-eB'];refine ah (X:=Unit) [1,3,34] [] ks.length (λ_ _=>True) (λ_=>[]) (λ_=>[]) () trivial ?_ ?_
  ·rintro k -hk -;obtain⟨y,hy⟩:=Ja hk;obtain⟨_,hgy⟩:=qzP.1 hy;have hop:=hk2 y (qzS hy);simp[hk,hy,hgy,hop,-fB',-eB']
  ·rintro - -;have hl1':(1:Int)<ks.length:=by omega
   simp[hl1,hl1',-fB',-eB']
 split at hx
 ·rename_i e1 e2 e3 e;subst e;simp at hx;obtain⟨⟨⟨g0,g1,g2⟩,rfl⟩,hl1⟩:=hx;obtain⟨k0,rfl⟩:∃k,ks=[k]:=qBg.1 hl1;simp[dY,dR,-fB',-eB'];refine ah (X:=Unit) [1,3,34] [] 1 (λ_ _=>True) (λ_=>[]) (λ_=>[]) () trivial ?_ ?_
  ·rintro k -hk -;obtain rfl:k=0:=by omega
   simp[-fB',-eB']
  ·rintro - -;simp[g0,g1,-fB',-eB'];exactλh=>⟨λ_=>by omega,by omega⟩
 ·cases hx
abbrev D3(n:Nat):Spc:=aL (a1 Rx) (λx=>qcb n x=true) (enc (X:=Bool)) λ_ y=>y=true
def DK(n:Nat)(h1:S oV=Py)(h2:S iQ=D3 n):am ml lR S (a1 Rx) (λx=>qcb (n+1) x=true) (enc (X:=Bool)) λ_ y=>y=true:=by
 rintro x hx;have hx:qcb (n+1) x=true:=hx;simp only[qcb,qzT,qzY]at hx;obtain⟨hx1,hx2⟩:=hx;simp[ml,lR,h1,hx1,-fB',-eB'];intro hkl;refine ah (X:=Unit) [9] [] x.kids.length (λ_ _=>True) (λ_=>[]) (λ_=>[]) () trivial ?_ ?_
 ·rintro k -hk -;obtain⟨y,hy⟩:=Ja hk;obtain⟨_,hgy⟩:=qzP.1 hy;have hp:=hx2 y (qzS hy);simp[h2,hk,hy,hgy,hp,-fB',-eB']
 ·rintro - -;simp[-fB',-eB']
abbrev Yy(n:Nat):Spc:=aL (a1 Rx) (λx=>∃m,Mo n x=some m) (enc (X:=Int)) λx y=>Mo n x=some y
set_option maxHeartbeats 1000000 in
theorem E7(n:Nat)(h1:S kg=Yy n):am iW iD S (a1 Rx) (λx=>∃m,Mo (n+1) x=some m) (enc (X:=Int)) λx y=>Mo (n+1) x=some y:=by
 rintro x ⟨m,hm⟩;have hm0:=hm;simp only[Mo]at hm;split at hm
 ·rename_i e;cases hm;simp[iW,iD,e,hm0,-fB',-eB']
 rename_i e1;obtain⟨k,hk,hm⟩:=qzO.1 hm;simp[iW,iD,e1,-fB',-eB'];intro hkl;refine ah (X:=Int) [1,10] [] x.kids.length (λi z=>qpt (Mo n) (x.kids.drop i) z=some k) (λz=>[(3,enc z)]) (λ_=>[]) 0 hk ?_ ?_
 ·rintro i z hi hz;obtain⟨y,hy⟩:=Ja hi;obtain⟨_,hgy⟩:=qzP.1 hy;rw[Nq hy,qpt]at hz;obtain⟨v,hv,hz⟩:=qzO.1 hz;split at hz
  ·cases hz
  rename_i hr;have hin:InR .i64 (z+v):=by simp only[InR];omega
  have hp:∃m,Mo n y=some m:=⟨v,hv⟩
  simp[h1,hi,hy,hgy,hv,-fB',-eB'];exact⟨hin,hz⟩
 ·rintro z hz;rw[qAR,qpt]at hz;cases hz;split at hm
  ·rename_i e4;cases hm;simp[e4,hm0,-fB',-eB']
  ·rename_i e4;have e4:x.op=4:=by omega
   unfold qpv at hm;split at hm
   ·rename_i emx;split at hm
    ·rename_i hb;cases hm;have hin:InR .i64 (k*max x.mn 1):=by simp only[InR];omega
     simp[e4,emx,hin,hm0,-fB',-eB']
    ·cases hm
   ·rename_i emx;split at hm
    ·rename_i hb;cases hm;have hin:InR .i64 (k*x.mx):=by simp only[InR];omega
     simp[e4,emx,hin,hm0,-fB',-eB']
    ·cases hm
abbrev UV:Spc:=aL (a1 Rx) (λx=>DS 50 x=true) (enc (X:=Int)) λx y=>y=0
def Ht(h1:S ri=qn5 (wx 50))(h2:S iQ=D3 50)(h3:S kg=Yy 50):am py nW S (a1 Rx) (λx=>DS 50 x=true) (enc (X:=Int)) λx y=>y=0:=by
 rintro x hx;have hx:DS 50 x=true:=hx;simp only[DS,qzT]at hx;obtain⟨⟨g1,g2⟩,g3⟩:=hx;obtain⟨⟨t,k⟩,hs,rfl⟩:∃r,wx 50 x 1 0=some r/\r.1=true:=by
  cases h:wx 50 x 1 0 with
  |none=>rw[h]at g1;cases g1
  |some r=>rw[h]at g1;exact⟨r,rfl,g1⟩
 obtain⟨m,hm,hm64⟩:∃m,Mo 50 x=some m/\m<=64:=by
  cases h:Mo 50 x with
  |none=>rw[h]at g3;cases g3
  |some r=>rw[h]at g3;exact⟨r,rfl,of_decide_eq_true g3⟩
 have n64:¬64<m:=by omega
 simp[py,nW,h1,h2,h3,hs,g2,hm,n64,-fB',-eB'];exact hm64
end Go.Gv
namespace Go.Gv
open Go.Proofs
def vi:CC:=gq Tryz.f189 [2002002] {} _
def ug:List ak:=[.cell 2 true 5, .tmp 3, .tmp 4]
def Ms:FO rk [2002002] vi ug 66:=fo
def vD:CC:=gq Tryz.f178 [] {} _
def uB:List ak:=[.tmp 2]
def MM:FO rq [] vD uB 13:=fo
def px:CC:=gq Tryz.f292 [] {} _
def nV:List ak:=[.tmp 4]
def F6:FO qz [] px nV 24:=fo
open Cod (enc dec)
variable {S S0:Nat->Spc}
def qyz{Y Z W V:Type}[Cod Y][Cod Z][Cod W][Cod V](x:Y×Z×W×V):D:= .tup [enc x.1,enc x.2.1,enc x.2.2.1,enc x.2.2.2]
@[simp] theorem qyy{Y Z W V:Type}[Cod Y][Cod Z][Cod W][Cod V](y:Y)(z:Z)(w:W)(v:V):qyz (y,z,w,v)= .tup [enc y,enc z,enc w,enc v]:=i' rfl
def qh2(s:B)(i:Int):I32×Int×Int×Bool:=match s.data[i.toNat]? with
 |some c=>(⟨c.toNat⟩,i,1,true)
 |none=>(⟨0⟩,0,0,false)
abbrev s_cpAt:Spc:=aL (a2 B Int) (λx=>x.1.size<=1000/\Af x.1=true/\0<=x.2/\x.2<=x.1.size) (qyz (Y:=I32) (Z:=Int) (W:=Int) (V:=Bool)) λx y=>y=qh2 x.1 x.2
def qhi{s:B}(h:Af s=true){k:Nat}{c:UInt8}(hc:s.data[k]? =some c):c.toNat< 128:=by
 have:=qzY.1 h c (by rw[<-qAg]at hc;exact qzS hc);exact of_decide_eq_true this
abbrev HV:Spc:=aL (a1 B) (λs=>∃r,ov s=some r) (qk8 (Y:=Rx) (Z:=Int) (W:=Int)) λs y=>ov s=some y.1/\y.2=(0,0)
set_option maxHeartbeats 2000000 in
theorem Of(h1:S BZ=s_cpAt)(h2:S kR=qed)(h3:S lI=UV):am vi ug S (a1 B) (λs=>∃r,ov s=some r) (qk8 (Y:=Rx) (Z:=Int) (W:=Int)) λs y=>ov s=some y.1/\y.2=(0,0):=by
 rintro s ⟨r,hr⟩;have hr0:=hr;unfold ov at hr;split at hr
 rotate_left
 ·cases hr
 rename_i hs;obtain⟨hsz,hasc⟩:=hs;obtain⟨⟨p,x,ok⟩,hu,hr⟩:=qzO.1 hr;split at hr
 rotate_left
 ·cases hr
 rename_i hv;obtain⟨rfl,hpos,hval⟩:=hv;cases hr;have n200:¬(200:Int)<s.size:=by omega
 have hs10:s.size<=1000:=by omega
 simp[vi,ug,n200,-fB',-eB'];intro b2 hsz2;refine ay (X:=Nat) [0,2] [2] (λi=>i<=s.size) (λi=>[(5,enc (i:Int))]) (λ_=>[]) (λi=>s.size -i) 0 (qAk _) ?_;rintro i hi;by_cases hlt:i<s.size
 ·obtain⟨c,hc⟩:∃c,s.data[i]? =some c:=⟨s.data[i]'hlt,qAM hlt⟩
  have h128:=qhi hasc hc;have hat:qh2 s (i:Int)=((⟨(c.toNat:Int)⟩:I32),(i:Int),(1:Int),true):=by simp[qh2,hc]
  have hff:¬((c.toNat:Int)=65533):=by omega
  simp[h1,hs10,hasc,hat,hff,hi,-fB',-eB'];exact⟨by simp only[InR];omega,i+1,by omega,by omega,by omega⟩
 ·obtain rfl:i=s.size:=by omega
  have hat:qh2 s (s.size:Int)=(⟨0⟩,0,0,false):=by
   have:s.data[s.size]? =none:=qBi (qzX _);simp[qh2,this]
  simp only at hpos hval;have npos:¬p.pos<s.size:=by omega
  simp[h1,h2,h3,hs10,hasc,hat,hu,hpos,hval,npos,-fB',-eB'];exactλb _=>⟨x, .same _,hr0⟩
abbrev Z3:Spc:=aL (a1 B) (λs=>∃r,ov s=some r) (enc (X:=Int)) λ_ y=>y=0
def OD(h1:S rk=HV):am vD uB S (a1 B) (λs=>∃r,ov s=some r) (enc (X:=Int)) λ_ y=>y=0:=by
 rintro s ⟨r,hr⟩;simp[vD,uB,h1,hr,-fB',-eB']
abbrev qiP:Spc:=aL (a2 (List Rng) I32) (λ_=>True) (enc (X:=Bool)) λx y=>y=SY x.1 x.2.val
theorem Hs:am px nV S (a2 (List Rng) I32) (λ_=>True) (enc (X:=Bool)) λx y=>y=SY x.1 x.2.val:=by
 rintro⟨l,⟨c⟩⟩ -;simp[px,nV,-fB',-eB'];intro hkl;refine ah (X:=Unit) [1,7] [] l.length (λk _=>SY (l.take k) c=false) (λ_=>[]) (λ_=>[]) () rfl ?_ ?_
 ·rintro k -hk hP;obtain⟨y,hy⟩:=Ja hk;obtain⟨_,hgy⟩:=qzP.1 hy;have hstep:SY (l.take (k+1)) c=(decide (y.fr.val<=c) && decide (c<=y.to.val)):=by
   have:l.take (k+1)=l.take k++ [y]:=by rw[qAZ,hy];rfl
   unfold SY at hP ⊢;rw[this,List.any_append,hP];simp
  by_cases h1:y.fr.val<=c/\c<=y.to.val
  ·obtain⟨h1,h2⟩:=h1;have hres:SY l c=true:=by
    refine qA4.2 ⟨y,qzS hy,by simp[h1,h2]⟩
   simp[hk,hy,hgy,h1,h2,hres,-fB',-eB']
  ·have hres:SY (l.take (k+1)) c=false:=by
    rw[hstep];simp;omega
   by_cases h2:y.fr.val<=c
   ·have h3:¬c<=y.to.val:=λe=>h1 ⟨h2,e⟩
    simp[hk,hy,hgy,h2,h3,hres,-fB',-eB']
   ·simp[hk,hy,hgy,h2,hres,-fB',-eB']
 ·rintro -hP;rw[qz8]at hP;simp[hP,-fB',-eB']
end Go.Gv
namespace Go.Gv
open Go.Proofs
def pG:CC:=gq Tryz.f130 [] {} _
def oh:List ak:=[.tmp 6]
def ML:FO xa [] pG oh 25:=fo
def nB:CC:=gq Tryz.f68 [9,8,7,6,5] { cu:=[1] } _
def ng:List ak:=[.tmp 10]
def Ek:FO gj [9,8,7,6,5] nB ng 102:=fo
def lu:CC:=gq Tryz.f129 [5] {} _
def kK:List ak:=[.tmp 6]
def BD:FO aP [5] lu kK 13:=fo
def lr:CC:=gq Tryz.f138 [2] {} _
def kJ:List ak:=[.tmp 3]
def BC:FO cJ [2] lr kJ 8:=fo
def mw:CC:=oX [oB 2 (.box qbL true (oT 0)),oB 3 (.box eI false (oT 1)),oB 4 (.mv (.const on)),oB 5 (.mv (oN 0))] [2,3] [3] (.seq (oX [oD 9 7 3,oZ 10 ki [oT 9]] [2,3,10] [3] (.ite (oT 10) (oX [oB 4 (.mv (.const on)),oB 5 (.mv (oN 2))] [4,5] [33] (.ret)) (.skip))) (.keep [2,3] [3] (oX [oD 11 7 3,oZ 12 dA [oT 11],
 oF 7 3 12] [2,3] [3] (.seq (oX [oD 13 7 3,oE 14 0 2,oC 15 1 14,oZ 16 dm [oT 13,oT 15,.const on],oA 6 16] [2,3,6] [3] (oX [oA 17 6,oB 18 (.eql true false [.int] (oT 17) (oN 0))] [2,3,6,18] [3] (.ite (oT 18) (oX [oA 19 6,oB 4 (.mv (.const on)),oA 5 19] [4,5] [33] (.ret)) (.skip)))) (.keep [2,3] [3] (oX [oB 7 (.mv (.const on))] [2,3,7] [3,33] (.seq (oX [oE 20 1 2,
 oC 21 1 20,oB 22 (.len (oT 21)),oB 23 (.mv (oN 0))] [2,3,7,22,23] [3,33] (fF 0 23 22 24 1 (oX [oA 25 23,oA 8 25] [2,3,7,8,22,23] [3,33] (oX [oD 26 7 2,oD 27 7 3,oA 28 8,oZ 29 gj [oT 26,oT 27,oT 28,.const on,.const on]] [2,3,7,8,22,23,29] [3,33] (.ite (oT 29) (.reg [oA 30 7,oA 31 8,oB 32 (.bslice bj 1 [oT 31]),oB 33 (.append none bj 1 8 (oT 30) (oT 32)),
 oA 7 33]) (.skip)))) 34)) (.keep [7] [33] (oX [oA 35 7,oA 4 35,oB 5 (.mv (oN 0))] [4,5] [33] (.ret))))))))))
def lW:List ak:=[.tmp 4, .tmp 5]
def C5:FO iT [2] mw lW 36:=fo
open Cod (enc dec)
variable {S S0:Nat->Spc}
def Ev(v s:B)(f:Bool):Option Bool:=(ov v).bind λx=>Et x s f
def qhJ(x:B×B×Bool):Prop:=∃y,Ev x.1 x.2.1 x.2.2=some y
def qlg(x:B×B×Bool)(y:Bool):Prop:=Ev x.1 x.2.1 x.2.2=some y
abbrev Z2:Spc:=aL (a3 B B Bool) qhJ (enc (X:=Bool)) qlg
def OC(h1:S rk=HV)(h2:S wU=qaf false)(h3:S oW=qaf true):am pG oh S (a3 B B Bool) qhJ (enc (X:=Bool)) qlg:=by
 rintro⟨v,s,f⟩ ⟨y,hy⟩;have hy:Ev v s f=some y:=hy;obtain⟨x,hx,hm⟩:=qzO.1 hy;cases f
 ·have hp:XC false (x,s):=⟨y,hm⟩
  simp[pG,oh,h1,h2,hx,hp,-fB',-eB'];exactλz hz=>by show(ov v).bind _=_;rw[hx];exact hz
 ·have hp:XC true (x,s):=⟨y,hm⟩
  simp[pG,oh,h1,h3,hx,hp,-fB',-eB'];exactλz hz=>by show(ov v).bind _=_;rw[hx];exact hz
mutual
def jE:Cond->Cond| .mk op n a v l f ks=>if op=4\/op=6/\tC (.mk op n a v l f ks)=true then⟨1,mA,mA,mA,mA,false, []⟩else⟨op,n,a,v,l,f,BI ks⟩
def BI:List Cond->List Cond|[]=>[]|k::ks=>jE k::BI ks
end
def P9:∀l:List Cond,BI l=l.map jE
 | []=>by rw[BI];rfl
 |k::l=>by rw[BI,P9 l];rfl
def K8(x:Cond):jE x=if x.op=4\/x.op=6/\tC x=true then⟨1,mA,mA,mA,mA,false, []⟩else⟨x.op,x.name,x.arg,x.val,x.lab,x.fold,x.kids.map jE⟩:=by cases x;rw[jE,P9]
abbrev U4:Spc:=aL (a1 Cond) (λx=>∃n,dn x<=n) (enc (X:=Bool)) λx y=>y=tC x
abbrev U9(n:Nat):Spc:=aL (a1 Cond) (λx=>dn x<=n/\gK x<=60) (enc (X:=Cond)) λx y=>y=jE x
abbrev Z7:Spc:=aL (a1 Cond) (λx=>∃n,dn x<=n/\gK x<=60) (enc (X:=Cond)) λx y=>y=jE x
def Wp{H:ab}{op:Int}{name arg val lab:B}{fold:Bool}{l:List Cond}{v:Value}(h:H 33=some (.row v eI 7 (l.map enc))):FrzTo H (.agg [.v (.int .i64 op), .v (.string name), .v (.string arg), .v (.string val), .v (.string lab), .v (.bool fold), .own 33 v]) (enc (Cond.mk op name arg val lab fold l)):=by
 simp;refine .agg rfl λk c c' h1 h2=>?_
 match k,h1,h2 with
 | 0,h1,h2|1,h1,h2|2,h1,h2|3,h1,h2|4,h1,h2|5,h1,h2=>cases h1;cases h2;exact .same _
 | 6,h1,h2=>cases h1;cases h2;exact ga eI h
 |k+7,h1,_=>simp at h1
def P3:∀l:List Cond,l.length<=eW l
 | []=>by simp[eW]
 | k::l=>by
   have:=P3 l;have:=zo k;rw[eW,qAw];omega
set_option maxHeartbeats 1000000 in
theorem Ff(n:Nat)(h1:S bF=U4)(h2:S dA=U9 n):am dZ dS S (a1 Cond) (λx=>dn x<=n+1/\gK x<=60) (enc (X:=Cond)) λx y=>y=jE x:=by
 rintro x ⟨hd,hn⟩;have hsm:∃n,dn x<=n:=⟨_,qzX _⟩
 have hany:∀H:ab,Fin (enc (X:=Cond)) (λy=>y=⟨1,mA,mA,mA,mA,false, []⟩) (D.agg [.v (.int .i64 1), .v (.string ⟨#[]⟩), .v (.string ⟨#[]⟩), .v (.string ⟨#[]⟩), .v (.string ⟨#[]⟩), .v (.bool false), .v (.slice none 0 0)]) H:=λH=>by
  refine aV ⟨1,mA,mA,mA,mA,false, []⟩ ?_ rfl;simp[mA];refine .agg rfl λk c c' h1 h2=>?_
  match k,h1,h2 with
  | 0,h1,h2|1,h1,h2|2,h1,h2|3,h1,h2|4,h1,h2|5,h1,h2=>cases h1;cases h2;exact .same _
  | 6,h1,h2=>cases h1;cases h2;exact .nil 7
  |k+7,h1,_=>simp at h1
 by_cases hc:x.op=4\/x.op=6/\tC x=true
 ·have hl:jE x=⟨1,mA,mA,mA,mA,false, []⟩:=by rw[K8,if_pos hc]
  rcases hc with e|⟨e,e'⟩
  ·simp[dZ,dS,h1,hsm,e,hl,-fB',-eB'];exactλb=>hany _
  ·obtain⟨op,name,arg,val,lab,fold,ks⟩:=x;simp only at e;subst e;simp[dZ,dS,h1,hsm,e',hl,-fB',-eB'];exactλb=>hany _
 ·have hl:jE x=⟨x.op,x.name,x.arg,x.val,x.lab,x.fold,x.kids.map jE⟩:=by rw[K8,if_neg hc]
  have e4:¬x.op=4:=λh=>hc (.inl h)
  obtain⟨op,name,arg,val,lab,fold,ks⟩:=x;simp only at hl e4;have hs:op=6->tC ⟨op,name,arg,val,lab,fold,ks⟩=false:=λh=>by
   cases hb:tC ⟨op,name,arg,val,lab,fold,ks⟩with
   |false=>rfl
   |true=>exact absurd (.inr ⟨h,hb⟩) hc
  have hkn:∀y∈ks,dn y<=n/\gK y<=60:=λy hy=>by
   have h1:=NL (p:=⟨op,name,arg,val,lab,fold,ks⟩) hy;have h2:=Io hy;have h3:=zo ⟨op,name,arg,val,lab,fold,ks⟩;simp only at h3;exact⟨by omega,by omega⟩
  have hks:ks.length<=60:=by
   have h3:=zo ⟨op,name,arg,val,lab,fold,ks⟩;simp only at h3;have:=P3 ks;omega
  by_cases e6:op=6
  ·subst e6;have hs':=hs rfl;simp[dZ,dS,h1,hsm,hs',hl,-fB',-eB'];intro b2 b3;refine lB (X:=Unit) [1,2] [2] [] [] (λ_=>True) (λ_=>[(3, .bptr 3 b3 0)]) (λ_=>[(3, .box b3 [.v (.int .i64 6), .v (.string name), .v (.string arg), .v (.string val), .v (.string lab), .v (.bool fold), .own 33 (.slice none 0 0)]),(33, .row (.slice none 0 0) eI 7 [])]) [3,33] (λ_=>rfl) (by decide) ?_ ?_
   ·simp;refine⟨.inl (.nilown 33),by simp[isNilRow]⟩
   rintro - -;simp[-fB',-eB'];intro hkl;refine ah (X:=Value×List Cond) [2,3,22] [2] ks.length (λk z=>z.2=(ks.take k).map jE/\z.2.length=k) (λz=>[]) (λz=>[(3, .box b3 [.v (.int .i64 6), .v (.string name), .v (.string arg), .v (.string val), .v (.string lab), .v (.bool fold), .own 33 z.1]),(33, .row z.1 eI 7 (z.2.map enc))]) (.slice none 0 0, []) ⟨rfl,rfl⟩ ?_ ?_
   ·rintro k ⟨v,l⟩ hk ⟨hl1,hl2⟩;simp only at hl1 hl2;obtain⟨y,hy⟩:=ed hk;obtain⟨_,hgy⟩:=qzP.1 hy;obtain⟨q1,q2⟩:=hkn y (qzS hy);have hk60:ks.length<=60:=hks;simp[h2,hk,hy,hgy,q1,q2,-fB',-eB'];refine⟨by omega,by omega,λv=>⟨v,l++ [jE y],⟨?_,by simp;omega⟩, .inl rfl, .inl ⟨rfl,by simp⟩⟩⟩;rw[hl1,<-List.map_take,av hy];simp
   ·rintro⟨v,l⟩ ⟨hl1,hl2⟩;simp only at hl1 hl2;rw[qz8]at hl1;simp[-fB',-eB'];exact aV _ (Wp rfl) (by rw[hl1])
  ·simp[dZ,dS,h1,hsm,e4,e6,hl,-fB',-eB'];intro b2 b3;refine lB (X:=Unit) [1,2] [2] [] [] (λ_=>True) (λ_=>[(3, .bptr 3 b3 0)]) (λ_=>[(3, .box b3 [.v (.int .i64 op), .v (.string name), .v (.string arg), .v (.string val), .v (.string lab), .v (.bool fold), .own 33 (.slice none 0 0)]),(33, .row (.slice none 0 0) eI 7 [])]) [3,33] (λ_=>rfl) (by decide) ?_ ?_
   ·simp;refine⟨.inl (.nilown 33),by simp[isNilRow]⟩
   rintro - -;simp[-fB',-eB'];intro hkl;refine ah (X:=Value×List Cond) [2,3,22] [2] ks.length (λk z=>z.2=(ks.take k).map jE/\z.2.length=k) (λz=>[]) (λz=>[(3, .box b3 [.v (.int .i64 op), .v (.string name), .v (.string arg), .v (.string val), .v (.string lab), .v (.bool fold), .own 33 z.1]),(33, .row z.1 eI 7 (z.2.map enc))]) (.slice none 0 0, []) ⟨rfl,rfl⟩ ?_ ?_
   ·rintro k ⟨v,l⟩ hk ⟨hl1,hl2⟩;simp only at hl1 hl2;obtain⟨y,hy⟩:=ed hk;obtain⟨_,hgy⟩:=qzP.1 hy;obtain⟨q1,q2⟩:=hkn y (qzS hy);have hk60:ks.length<=60:=hks;simp[h2,hk,hy,hgy,q1,q2,-fB',-eB'];refine⟨by omega,by omega,λv=>⟨v,l++ [jE y],⟨?_,by simp;omega⟩, .inl rfl, .inl ⟨rfl,by simp⟩⟩⟩;rw[hl1,<-List.map_take,av hy];simp
   ·rintro⟨v,l⟩ ⟨hl1,hl2⟩;simp only at hl1 hl2;rw[qz8]at hl1;simp[-fB',-eB'];exact aV _ (Wp rfl) (by rw[hl1])
def featS:List B:=[⟨#[124]⟩,⟨#[124,112,124]⟩,⟨#[124,112,124,113,124]⟩,⟨#[124,113,124]⟩]
def Sz(s v:B):Option Bool:=if(featS.any λz=>decide (z=s))=true/\(v=⟨#[112]⟩\/v=⟨#[113]⟩)then some (s.data.toList.any λc=>decide (v.data.toList=[c]))else none
structure Pj where
 c:Corpus
 tok:Int
 lb:List B
 bd:List Int
def vK(E:Pj):Nat->Cond->Option Bool
 | 0=>λ_=>none
 | n+1=>λx=>
   if x.op=1 then some true else
   if x.op=2 then Ev x.val (vM E.c.toks E.tok (zz E.c.attrs x.name)) x.fold else
   if x.op=3 then Sz (vM E.c.toks E.tok (lP E.c.attrs x.name)) x.val else
   if x.op=4 then(if eX E.lb (λz=>decide (z=x.lab))< 0 then none else match E.bd[(eX E.lb λz=>decide (z=x.lab)).toNat]? with
    |some o=>some (decide (0<=o) && decide (vM E.c.toks E.tok (lP E.c.attrs x.name)=vM E.c.toks o (lP E.c.attrs x.arg)))
    |none=>none)else
   if x.op=5 then some (E.c.regs.any (Mk x E.tok))else
   if x.op=6 then(match x.kids with|k::_=>(vK E n k).map not|[]=>none)else
   if(x.kids.all λk=>(vK E n k).isSome)=true then
    (if x.op=7 then some (!(x.kids.any λk=>!((vK E n k).getD false)))else some (x.kids.any λk=>(vK E n k).getD false))
   else none
def qo2(c:Corpus):Prop:=c.toks.length<=100000/\(∀r∈c.toks,r.length<=100000)/\c.attrs.length<=1000
abbrev HZ:=Corpus×Cond×Int×List B×List Int
def qjY(z:HZ):Pj:=⟨z.1,z.2.2.1,z.2.2.2.1,z.2.2.2.2⟩
def qli(n:Nat)(z:HZ):Prop:=qo2 z.1/\∃y,vK (qjY z) n z.2.1=some y
def qrc(n:Nat)(z:HZ)(y:Bool):Prop:=vK (qjY z) n z.2.1=some y
abbrev aH:fS HZ:=aE Corpus (a4 Cond Int (List B) (List Int))
abbrev L9(n:Nat):Spc:=aL aH (qli n) (enc (X:=Bool)) (qrc n)
def qh1(c:Corpus):List D:=[.list 2 (c.attrs.map enc), .list 1 (c.toks.map enc), .list 4 (c.texts.map enc), .list 4 (c.regs.map enc), .list 4 (c.nodes.map enc), .list 1 (c.heads.map enc), .list 1 (c.rels.map enc)]
def qa5(c:Corpus): .agg (qh1 c)=enc c:=by simp[qh1]
def qj6{x y:Corpus}(h:qh1 x=qh1 y):x=y:=bK (by rw[<-qa5,<-qa5,h])
def qg1(z:HZ):List D:=[.cptr (qh1 z.1) 0, .cptr [enc z.2.2.1] 0, .cptr [enc z.2.2.2.1] 0, .cptr [enc z.2.2.2.2] 0]
def qhW(z:HZ):List D:=enc z.2.1::qg1 z
def qn1(z:HZ):List D:=[enc z.2.1, .cptr [.clo aP (qg1 z)] 0]
def KY(z z':HZ)(h:qhW z=qhW z'):z=z':=by
 obtain⟨a,b,c,d,e⟩:=z;obtain⟨a',b',c',d',e'⟩:=z';unfold qhW qg1 at h;simp only[qAu,D.cptr.injEq,and_true]at h;rw[bK h.1,qj6 h.2.1,bK h.2.2.1,bK h.2.2.2.1,bK h.2.2.2.2]
def ZP(z z':HZ)(h:qn1 z=qn1 z'):z=z':=by
 unfold qn1 at h;simp only[qAu,D.cptr.injEq,D.clo.injEq,and_true,true_and]at h;refine KY z z' ?_;unfold qhW;rw[h.1,h.2]
noncomputable abbrev aH1:fS HZ:=aX qhW KY
noncomputable abbrev qyY:fS HZ:=aX qn1 ZP
noncomputable abbrev Yz(n:Nat):Spc:=aL aH1 (qli n) (enc (X:=Bool)) (qrc n)
noncomputable abbrev qeu(n:Nat):Spc:=aL qyY (qli n) (enc (X:=Bool)) λz y=>∃b,vK (qjY z) n z.2.1=some b/\y=!b
def qbC(n:Nat)(h1:S gj=L9 n):am lu kK S aH1 (qli n) (enc (X:=Bool)) (qrc n):=by
 rintro z hz;rw[Ha];obtain⟨c,x,tok,lb,bd⟩:=z;simp[qhW,qg1,qh1,lu,kK,h1,hz,-fB',-eB']
@[simp] theorem qup(c:Corpus)(x:Cond)(tok:Int)(lb:List B)(bd:List Int):aH1.dec [.agg [.v (.int .i64 x.op), .v (.string x.name), .v (.string x.arg), .v (.string x.val), .v (.string x.lab), .v (.bool x.fold), .list 7 (x.kids.map enc)], .cptr [.list 2 (c.attrs.map enc), .list 1 (c.toks.map enc), .list 4 (c.texts.map enc), .list 4 (c.regs.map enc), .list 4 (c.nodes.map enc), .list 1 (c.heads.map enc), .list 1 (c.rels.map enc)] 0, .cptr [.v (.int .i64 tok)] 0, .cptr [.list 1 (lb.map enc)] 0, .cptr [.list 1 (bd.map enc)] 0]=some (c,x,tok,lb,bd):=by
 have h:=Jc qhW KY (c,x,tok,lb,bd);have e:qhW (c,x,tok,lb,bd)=[.agg [.v (.int .i64 x.op), .v (.string x.name), .v (.string x.arg), .v (.string x.val), .v (.string x.lab), .v (.bool x.fold), .list 7 (x.kids.map enc)], .cptr [.list 2 (c.attrs.map enc), .list 1 (c.toks.map enc), .list 4 (c.texts.map enc), .list 4 (c.regs.map enc), .list 4 (c.nodes.map enc), .list 1 (c.heads.map enc), .list 1 (c.rels.map enc)] 0, .cptr [.v (.int .i64 tok)] 0, .cptr [.list 1 (lb.map enc)] 0, .cptr [.list 1 (bd.map enc)] 0]:=by simp[qhW,qg1,qh1]
 rw[<-e];exact h
def qbB(n:Nat)(h1:S aP=Yz n):am lr kJ S qyY (qli n) (enc (X:=Bool)) λz y=>∃b,vK (qjY z) n z.2.1=some b/\y=!b:=by
 rintro z hz;rw[Ha];obtain⟨c,x,tok,lb,bd⟩:=z;simp[qn1,qg1,qh1,lr,kJ,h1,hz,-fB',-eB'];exactλy hy=>hy
abbrev qev:Spc:=aL (a2 B B) (λx=>∃b,Sz x.1 x.2=some b) (enc (X:=Bool)) λx y=>Sz x.1 x.2=some y
set_option maxHeartbeats 4000000 in
theorem qie(n:Nat)(h0:S0 aP=Yz n)(h0':S0 cJ=qeu n)(h1:S aP=Yz n)(h2:S bE=qbW Cond S0)(h3:S kj=Ma)(h4:S pp=Vf)(h5:S xa=Z2)(h6:S bT=Cx)(h7:S wZ=qev)(h8:S dJ=RD)(h9:S nl=qez):
 am nB ng S aH (qli (n+1)) (enc (X:=Bool)) (qrc (n+1)):=by
 rintro⟨c,x,tok,lb,bd⟩ ⟨⟨z1,z2,z3⟩,y,hy⟩;simp only at z1 z2 z3;have hy0:vK ⟨c,tok,lb,bd⟩ (n+1) x=some y:=hy;have hQ:∀w,w=y->qrc (n+1) (c,x,tok,lb,bd) w:=λw e=>by subst e;exact hy
 clear hy;obtain⟨op,name,arg,val,lab,fold,ks⟩:=x;unfold vK at hy0;simp only at hy0;have hval:∀i k:Int,qo2 c:=λ_ _=>⟨z1,z2,z3⟩
 simp[nB,ng,-fB',-eB'];refine lB (X:=Unit) [5,6,7,8,9] [] [11] [] (λ_=>True) (λ_=>[(11, .cptr [.clo aP (qg1 (c,⟨op,name,arg,val,lab,fold,ks⟩,tok,lb,bd))] 0)]) (λ_=>[]) [] (λ_=>rfl) (by decide) ?_ ?_
 ·simp[qg1,qh1];exactλb=> .box rfl
 rintro - -;simp only[qg1,qh1];split at hy0
 ·rename_i e;subst e;obtain rfl:=qAa hy0;simp[-fB',-eB'];exact hQ _ rfl
 rename_i e1;split at hy0
 ·rename_i e;subst e;have hM:qhJ (val,vM c.toks tok (zz c.attrs name),fold):=⟨y,hy0⟩
  simp[h3,h4,h5,z1,z2,z3,hM,-fB',-eB'];refine⟨z2,λw hw=>hQ _ (qAa (hw.symm.trans hy0))⟩
 rename_i e2;split at hy0
 ·rename_i e;subst e;have hM:∃b,Sz (vM c.toks tok (lP c.attrs name)) val=some b:=⟨y,hy0⟩
  simp[h6,h4,h7,z1,z2,z3,hM,-fB',-eB'];refine⟨z2,λw hw=>hQ _ (qAa (hw.symm.trans hy0))⟩
 rename_i e3;split at hy0
 ·rename_i e;subst e;split at hy0
  ·cases hy0
  rename_i hj;obtain⟨j,hjj⟩:∃j,j=eX lb λz=>decide (z=lab):=⟨_,rfl⟩
  rw[<-hjj]at hj hy0;cases ho:bd[j.toNat]? with
  |none=>rw[ho]at hy0;cases hy0
  |some o=>
  rw[ho]at hy0;have hy1:(decide (0<=o) && decide (vM c.toks tok (lP c.attrs name)=vM c.toks o (lP c.attrs arg)))=y:=qAa hy0;have j0:0<=j:=by omega
  obtain⟨hjl,hgo⟩:=qzP.1 ho;have j1:j<(bd.length:Int):=by omega
  by_cases h0o:0<=o
  ·simp[h8,<-hjj,j0,j1,ho,hgo,h0o,h6,h4,z1,z2,z3,-fB',-eB'];exact⟨⟨z2,hQ _ (by rw[<-hy1];simp[h0o])⟩,λh=>by omega⟩
  ·simp[h8,<-hjj,j0,j1,ho,hgo,h0o,-fB',-eB'];exactλ_=>hQ _ (by rw[<-hy1];simp[h0o])
 rename_i e4;split at hy0
 ·rename_i e;subst e;have hy1:=qAa hy0;simp[h9,-fB',-eB'];exact hQ _ hy1
 rename_i e5;split at hy0
 ·rename_i e;subst e;split at hy0
  ·rename_i k ks';obtain⟨b,hb,rfl⟩:=qz0.1 hy0;have hp:qli n (c,k,tok,lb,bd):=⟨⟨z1,z2,z3⟩,b,hb⟩
   simp[h1,hp,-fB',-eB'];intro w hw;have hw:vK ⟨c,tok,lb,bd⟩ n k=some w:=hw;rw[hb]at hw;cases hw;exact hQ _ rfl
  ·cases hy0
 rename_i e6;split at hy0
 rotate_left
 ·cases hy0
 rename_i hall;have hal:∀k∈ks,∃b,vK ⟨c,tok,lb,bd⟩ n k=some b:=λk hk=>qAQ.1 (qzY.1 hall k hk)
 have hf2:FunOn S0 (.clo cJ [.cptr [.clo aP (qg1 (c,⟨op,name,arg,val,lab,fold,ks⟩,tok,lb,bd))] 0]) ks λk=>!((vK ⟨c,tok,lb,bd⟩ n k).getD false):=
  yh (f:=λk=>(c,k,tok,lb,bd)) h0' (λk _=>Jc qn1 ZP (c,k,tok,lb,bd)) (λk hk=>⟨⟨z1,z2,z3⟩,hal k hk⟩) (λk hk y hy=>by
   obtain⟨b,h1,h2⟩:=hy;have h1:vK ⟨c,tok,lb,bd⟩ n k=some b:=h1;rw[h2,h1];rfl)
 have hf1:FunOn S0 (.clo aP (qg1 (c,⟨op,name,arg,val,lab,fold,ks⟩,tok,lb,bd))) ks λk=>(vK ⟨c,tok,lb,bd⟩ n k).getD false:=
  yh (f:=λk=>(c,k,tok,lb,bd)) h0 (λk _=>Jc qhW KY (c,k,tok,lb,bd)) (λk hk=>⟨⟨z1,z2,z3⟩,hal k hk⟩) (λk hk y hy=>by
   have h1:vK ⟨c,tok,lb,bd⟩ n k=some y:=hy;rw[h1];rfl)
 split at hy0
 ·rename_i e;subst e;have hy1:=qAa hy0;simp[h2,-fB',-eB'];exact⟨⟨_,hf2⟩,λw hw=>hQ _ (by rw[hw _ hf2];exact hy1)⟩
 ·rename_i e7;have hy1:=qAa hy0;simp[h2,e1,e2,e3,e4,e5,e6,e7,-fB',-eB'];exact⟨⟨_,hf1⟩,λw hw=>hQ _ (by rw[hw _ hf1];exact hy1)⟩
end Go.Gv
