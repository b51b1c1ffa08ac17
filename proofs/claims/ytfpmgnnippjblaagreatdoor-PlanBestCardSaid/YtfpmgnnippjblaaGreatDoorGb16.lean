/- C51 -/
import Derived.Test.YtfpmgnnippjblaaGreatDoorGb15
set_option linter.all false
set_option maxRecDepth 100000
set_option maxHeartbeats 0
open Bool renaming forall_bool → fB', exists_bool → eB'
namespace Go.Gv
section
open Go.Proofs
def gA:CC:=gq Tryz.f302 [] { ke:=[0] } _
def gd:List ai:=[.tmp 2]
def CD:FO bD [] gA gd 29:=fo
def lj:CC:=gq Tryz.f365 [] { bx:=[0] } _
def kI:List ai:=[]
def CB:FO my [] lj kI 25:=fo
def fU:CC:=gq Tryz.f357 [] { bx:=[0] } _
def fP:List ai:=[.tmp 4, .tmp 5]
def wt:FO ep [] fU fP 37:=fo
def je:CC:=gq Tryz.f361 [] { bx:=[0] } _
def iI:List ai:=[.tmp 2, .tmp 3]
def Ar:FO jP [] je iI 27:=fo
def AS:CC:=gq Tryz.f354 [] {} _
def zP:List ai:=[.cell 4 true 5]
def Vd:FO C0 [] AS zP 10:=fo
def eN:CC:=gq Tryz.f342 [2002002] { bx:=[0] } _
def eF:List ai:=[.cell 2 true 5, .tmp 3]
def CE:FO mz [2002002] eN eF 72:=fo
def jU:CC:=gq Tryz.f355 [] { ke:=[0] } _
def jI:List ai:=[.cell 2 true 5, .tmp 3]
def BK:FO kX [] jU jI 108:=fo
def jd:CC:=gq Tryz.f324 [] { bx:=[0] } _
def iH:List ai:=[.cell 2 true 5, .tmp 3]
def Aq:FO jO [] jd iH 54:=fo
def jg:CC:=gq Tryz.f301 [] { ke:=[0] } _
def iJ:List ai:=[.cell 2 true 5, .tmp 3]
def As:FO jQ [] jg iJ 49:=fo
def jT:CC:=gq Tryz.f270 [] { ke:=[0] } _
def jH:List ai:=[.cell 2 true 5, .tmp 3]
def BJ:FO kW [] jT jH 44:=fo
open Cod (enc dec)
variable {S S0:Nat->Spc}
abbrev s_decR:Spc:=ay (a1 B) (λs=>∃c,s.data[0]? =some c/\c.toNat< 128) (io (Y:=I32) (Z:=Int)) λs y=>∀c,s.data[0]? =some c->y=(⟨c.toNat⟩,1)
abbrev s_crune:Spc:=ay (a2 B I32) (λx=>0<=x.2.val/\x.2.val< 128) (enc (X:=Bool)) λx y=>y=qnZ x.1 x.2.val
def DG{p:Rp}{c:Int}(h:Qj p=some c):p.s.size<=200/\((p.pos=p.s.size/\c= -1)\/(0<=p.pos/\p.pos<p.s.size/\p.pos≠p.s.size/\∃x:UInt8,p.s.data[p.pos.toNat]? =some x/\x.toNat< 128/\c=x.toNat)):=by
 unfold Qj at h;split at h
 ·cases h
 rename_i j;refine⟨by omega,?_⟩;split at h
 ·exact .inl ⟨by assumption,(qFY h).symm⟩
 ·rename_i a;split at h
  ·rename_i h0;split at h
   ·rename_i x d;split at h
    ·rename_i b;have k:=(qFZ.1 d).1;refine .inr ⟨h0,?_,a,x,d,b,(qFY h).symm⟩;show p.pos<(p.s.data.size:Int);omega
    ·cases h
   ·cases h
  ·cases h
def qEl{s:B}{k:Nat}{x:UInt8}(h:s.data[k]? =some x):(s.extract k s.size).data[0]? =some x:=by
 obtain⟨h1,h2⟩:=qFZ.1 h;rw[ByteArray.data_extract,Array.getElem?_extract];have:0<min s.size s.data.size -k:=by
  have:s.size=s.data.size:=rfl;omega
 rw[if_pos this,qG9];exact h
abbrev wA:Spc:=qhf a0 (enc (X:=I32)) lW
theorem TN(h1:S dx=s_decR):wm gA gd S a0 (enc (X:=I32)) (λs z=>∃r,lW s z=some r) (λs z d y=>lW s z=some (d,y)):=by
 rintro b s ⟨⟩ ⟨r,q⟩;obtain⟨c,hc,_⟩:=qFW.1 q;have tz:∀{H:ab},H 0=some (.box b (tF s))->JA (enc (X:=I32)) b (λd y=>lW s ()=some (d,y)) (.v (.int .i32 c)) H:=λh0=>IP s ⟨c⟩ (.same _) h0 (by simp[lW,hc])
 obtain⟨t,j⟩:=DG hc;rcases j with⟨l,rfl⟩|⟨h0,h2,h3,x,u,k,rfl⟩
 ·simp[gA,gd,l,-fB',-eB'];exactλ_=>tz (by simp[l])
 ·have p:(s.s.data.extract s.pos.toNat s.s.size)[0]? =some x:=by rw[<-ByteArray.data_extract];exact qEl u
  simp[gA,gd,h1,h0,h2,h3,-fB',-eB'];refineλ_=>⟨by omega,⟨x,p,k⟩,λa b1 h=>?_⟩
  obtain⟨rfl,rfl⟩:=h x p;exact tz (by simp)
abbrev qdL:Spc:=qhf a0 Ws Si
theorem TM(h1:S dx=s_decR):wm lj kI S a0 Ws (λs z=>∃r,Si s z=some r) (λs z d y=>Si s z=some (d,y)):=by
 rintro b s ⟨⟩ ⟨r,q⟩;obtain⟨c,hc,h⟩:=qFM.1 q;split at h
 ·rename_i j;have tz:∀{H:ab},H 0=some (.box b (tF s.bump))->JA Ws b (λd y=>Si s ()=some (d,y)) (.tup []) H:=λh0=>IP s.bump () (.same _) h0 (by simp[Si,hc,j])
  obtain⟨t,k⟩:=DG hc;rcases k with⟨w,rfl⟩|⟨h0,h2,h3,x,u,l,rfl⟩
  ·omega
  ·have p:(s.s.data.extract s.pos.toNat s.s.size)[0]? =some x:=by rw[<-ByteArray.data_extract];exact qEl u
   simp[lj,kI,h1,h0,h2,h3,-fB',-eB'];refine⟨by omega,⟨x,p,l⟩,λa b1 h=>?_⟩;obtain⟨rfl,rfl⟩:=h x p;exact⟨by simp only[InR];omega,tz (by simp[Rp.bump])⟩
 ·cases h
abbrev qoj:(I32×Bool)->D:=io (Y:=I32) (Z:=Bool)
abbrev UJ:Spc:=qhf (a1 B) qoj ET
def G8(h1:S bD=wA)(h2:S my=qdL):wm fU fP S (a1 B) qoj (λs z=>∃r,ET s z=some r) (λs z a y=>ET s z=some (a,y)):=by
 rintro b s l ⟨r,d⟩;obtain⟨c,hc,h⟩:=qFM.1 d;split at h
 ·cases h
 ·rename_i hn;have j:0<=c:=by omega
  have k:c≠92:=λe=>hn (.inr e)
  simp[fU,fP,h1,h2,lW,Si,hc,j,k,-fB',-eB'];exact IP s.bump (⟨c⟩,true) (.same _) (by simp) (by simp[ET,hc,hn])
abbrev qii:Spc:=qhf a0 qoj ZQ
theorem NF(h1:S bD=wA)(h2:S iT=s_crune)(h3:S ep=UJ):wm je iI S a0 qoj (λs z=>∃r,ZQ s z=some r) (λs z d y=>ZQ s z=some (d,y)):=by
 rintro b s ⟨⟩ ⟨r,k⟩;obtain⟨c,hc,h⟩:=qFM.1 k;split at h
 ·cases h
 ·rename_i hn;have l:¬c< 0:=λe=>hn (.inl e)
  have p:qnZ qe2 c=false:=by
   cases e:qnZ qe2 c with
   |false=>rfl
   |true=>exact absurd (.inr e) hn
  have j:=DG hc;have a:c< 128:=by
   rcases j.2 with⟨_,rfl⟩|⟨_,_,_,x,_,q,rfl⟩ <;>omega
  have t:qnZ ⟨#[92,91,93,94,45]⟩ c=false:=p;have h4:ET s ⟨#[92,91,93,94,45]⟩=some r:=h;simp[je,iI,h1,h2,h3,lW,hc,l,t,h4,a,-fB',-eB'];obtain⟨d,⟨c'⟩,t'⟩:=r;intro u;refine⟨λ_=>⟨u,IP d (⟨c'⟩,t') (.same _) (by simp) (by simp[ZQ,hc,hn,h])⟩,λ_=>IP d (⟨c'⟩,t') (.same _) (by simp) (by simp[ZQ,hc,hn,h])⟩
def Wg{H:ab}{op mn mx:Int}{b d:D}(rs:List Rng)(ks:List Rx)(h3:FrzTo H b (enc rs))(h4:FrzTo H d (enc ks)):FrzTo H (.agg [.v (.int .i64 op), .v (.int .i64 mn), .v (.int .i64 mx),b,d]) (enc (Rx.mk op mn mx rs ks)):=by
 rw[qkH];refine .agg rfl λk c c' hc a=>?_
 match k with
 | 0=>cases hc;cases a;exact .same _
 | 1=>cases hc;cases a;exact .same _
 | 2=>cases hc;cases a;exact .same _
 | 3=>cases hc;cases a;exact h3
 | 4=>cases hc;cases a;exact h4
 |k+5=>simp at hc
abbrev qih:Spc:=ay (a2 I32 I32) (λ_=>True) (enc (X:=Rx)) λx y=>y=qia x.1.val x.2.val
def Xr:aq AS zP S (a2 I32 I32) (λ_=>True) (enc (X:=Rx)) λx y=>y=qia x.1.val x.2.val:=by
 rintro⟨x,y⟩ -;simp[AS,zP,qia];exactλb=>aM (Y:=Rx) ⟨1,0,0, [⟨x,y⟩], []⟩ (Wg [⟨x,y⟩] [] (.same _) (.nil _)) rfl
abbrev Gz:(Rx×Bool)->D:=io (Y:=Rx) (Z:=Bool)
abbrev qij:Spc:=qhf a0 Gz qoz
abbrev qdM:Spc:=qhf a0 Gz qe9
def qvr{b:Nat}{post:Rp->(Rx×Bool)->Prop}{x:Rx}{v:Bool}{H:ab}(s:Rp)(h0:H 0=some (.box b (tF s)))(a:post s (x,v)):JA Gz b post (.tup [enc x, .v (.bool v)]) H:=IP s (x,v) (.same _) h0 a
def Gg{b:Nat}{post:Rp->(Rx×Bool)->Prop}{x:Rx}{v:Bool}{H:ab}(s:Rp)(h0:H 0=some (.box b (tF s)))(a:post s (x,v)):JA Gz b post (.tup [.agg [.v (.int .i64 x.op), .v (.int .i64 x.mn), .v (.int .i64 x.mx), .list 2 (x.rs.map enc), .list 5 (x.kids.map enc)], .v (.bool v)]) H:=by
 have e:(D.agg [.v (.int .i64 x.op), .v (.int .i64 x.mn), .v (.int .i64 x.mx), .list 2 (x.rs.map enc), .list 5 (x.kids.map enc)])=enc x:=by simp
 rw[e];exact qvr s h0 a
set_option maxHeartbeats 1000000 in
theorem TO(h1:S bD=wA)(h2:S C0=qih)(h3:S kX=qij)(h4:S iT=s_crune)(h5:S ep=UJ):wm eN eF S a0 Gz (λs z=>∃r,qe9 s z=some r) (λs z s' y=>qe9 s z=some (s',y)):=by
 rintro b s ⟨⟩ ⟨r,hr⟩;have hr0:=hr;obtain⟨c,hc,h⟩:=qFM.1 hr;have hsz:=DG hc;have h128:c< 128:=by
  rcases hsz.2 with⟨_,rfl⟩|⟨_,_,_,x,_,hlt,rfl⟩ <;>omega
 split at h
 ·cases h
 rename_i e40;split at h
 ·rename_i e46;subst e46;have hp:InR .i64 (s.pos+1):=by
   rcases hsz.2 with⟨_,e⟩|⟨_,_,_,x,_,hlt,e⟩
   ·cases e
   ·simp only[InR];omega
  cases h;simp[eN,eF,h1,h2,lW,hc,hp,-fB',-eB'];exactλ_=>Gg s.bump (by simp[Rp.bump]) hr0
 rename_i e46;split at h
 ·rename_i e91;subst e91;obtain⟨s',x',t'⟩:=r;simp[eN,eF,h1,h3,lW,hc,h,-fB',-eB'];exactλ_=>Gg s' (by simp) hr0
 rename_i e91;split at h
 ·cases h
 ·rename_i hn;obtain⟨q,hq,rfl⟩:=qFW.1 h;obtain⟨s',⟨c'⟩,t'⟩:=q;have hq':=hq;obtain⟨c2,hc2,h'⟩:=qFM.1 hq';rw[hc]at hc2;obtain rfl:=qFY hc2;split at h'
  ·cases h'
  rename_i hn2;have n0:0<=c:=by omega
  have n92:c≠92:=λe=>hn2 (.inr e)
  have nin:qnZ ⟨#[92,46,91,93,40,41,123,125,124,42,43,63]⟩ c=false:=by
   cases e:qnZ ⟨#[92,46,91,93,40,41,123,125,124,42,43,63]⟩ c with
   |false=>rfl
   |true=>exact absurd ⟨n92,e⟩ hn
  have hq2:ET s ⟨#[92,46,91,93,40,41,123,125,124,42,43,63]⟩=some (s',⟨c'⟩,t'):=hq;simp[eN,eF,h1,h2,h4,h5,lW,hc,e40,e46,e91,n0,n92,h128,nin,hq2,-fB',-eB'];exactλ_=>Gg s' (by simp) hr0
abbrev qig:Spc:=qhf a0 Gz qi1
def qe4{p:Rp}{c:Int}(h:Qj p=some c):c< 128/\ -1<=c/\(0<=c->InR .i64 (p.pos+1)):=by
 obtain⟨h1,h2⟩:=DG h;rcases h2 with⟨_,rfl⟩|⟨_,_,_,x,_,a,rfl⟩
 ·exact⟨by omega,by omega,λh=>absurd h (by omega)⟩
 ·exact⟨by omega,by omega,λ_=>by simp only[InR];omega⟩
def qfT{c:Int}{m:Int×Int}(h:Rj c=some m):c=42/\m=(0, -1)\/c=43/\m=(1, -1)\/c=63/\m=(0,1):=by
 unfold Rj at h;split at h
 ·exact .inl ⟨by assumption,(qFY h).symm⟩
 split at h
 ·exact .inr (.inl ⟨by assumption,(qFY h).symm⟩)
 split at h
 ·exact .inr (.inr ⟨by assumption,(qFY h).symm⟩)
 cases h
def SD{c:Int}(h:Rj c=none):c≠42/\c≠43/\c≠63:=by
 unfold Rj at h;refine⟨λe=>?_,λe=>?_,λe=>?_⟩ <;>(subst e;simp at h)
def zO(o:Option (Int×Int))(x:Rx):List D:=match o with
 |none=>[.v (.int .i64 x.op), .v (.int .i64 x.mn), .v (.int .i64 x.mx), .list 2 (x.rs.map enc), .list 5 (x.kids.map enc)]
 |some m=>[.v (.int .i64 4), .v (.int .i64 m.1), .v (.int .i64 m.2), .v (.slice none 0 0), .list 5 [enc x]]
def qvq{b:Nat}{post:Rp->(Rx×Bool)->Prop}{m:Int×Int}{e:Rx}{H:ab}(s:Rp)(h0:H 0=some (.box b (tF s)))(d:post s (⟨4,m.1,m.2, [], [e]⟩,true)):JA Gz b post (.tup [.agg (zO (some m) e), .v (.bool true)]) H:=by
 refine IP s (⟨4,m.1,m.2, [], [e]⟩,true) (.tup rfl λk c c' hc a=>?_) h0 d
 match k with
 | 0=>cases hc;cases a;exact Wg [] [e] (.nil _) (.same _)
 | 1=>cases hc;cases a;exact .same _
 |k+2=>simp at hc
set_option maxHeartbeats 2000000 in
theorem ND(h1:S bD=wA)(h2:S mz=qdM):wm jd iH S a0 Gz (λs z=>∃r,qi1 s z=some r) (λs z s' y=>qi1 s z=some (s',y)):=by
 rintro b s ⟨⟩ ⟨r,hr⟩;have hr0:=hr;obtain⟨⟨s1,e,ok⟩,ha,h⟩:=qFM.1 hr;simp only at h;split at h
 rotate_left
 ·cases h
 rename_i hok;subst hok;obtain⟨c,hc,h⟩:=qFM.1 h;split at h
 ·cases h
 rename_i e123;have hcc:=qe4 hc;simp[jd,iH,h2,ha,-fB',-eB'];intro b2 b4;refine aA (X:=Option (Int×Int)) [0,2,4,5] [2] (λo=>∀m,o=some m->Rj c=some m) (λ_=>[]) (λo=>[(0, .box b (tF (match o with|none=>s1|some _=>s1.bump))),(4, .box b4 (zO o e))]) (λo=>match o with|none=>1|some _=>0) none (λm h=>by cases h) ?_ (hh:=by simp[zO]);rintro(_|m) hP
 ·cases hm:Rj c with
  | none=>
    rw[hm]at h;cases h;obtain⟨n1,n2,n3⟩:=SD hm;simp[zO,h1,lW,hc,n1,n2,n3,e123,-fB',-eB'];exact Gg s1 (by simp) hr0
  | some m=>
    rcases qfT hm with⟨rfl,rfl⟩|⟨rfl,rfl⟩|⟨rfl,rfl⟩
    all_goals
     have hin:=hcc.2.2 (by omega);simp[zO,h1,lW,hc,hin,-fB',-eB']
     first
      |exact⟨some (0, -1),by simp,⟨.inl ⟨rfl,rfl,rfl,rfl⟩, .inl rfl⟩,rfl⟩
      |exact⟨some (1, -1),by simp,⟨.inl ⟨rfl,rfl,rfl,rfl⟩, .inl rfl⟩,rfl⟩
      |exact⟨some (0,1),by simp,⟨.inl ⟨rfl,rfl,rfl,rfl⟩, .inl rfl⟩,rfl⟩
 ·have hm:=hP m rfl;rw[hm]at h;simp only at h;obtain⟨d,hd,h⟩:=qFM.1 h;split at h
  ·cases h
  rename_i hn;cases h;have hd':d≠123/\Rj d=none:=⟨λe=>hn (.inl e),by
   cases q:Rj d with
   |none=>rfl
   |some q'=>exact absurd (.inr (by rw[q];rfl)) hn⟩
  obtain⟨n1,n2,n3⟩:=SD hd'.2;have n4:=hd'.1;simp[zO,h1,lW,hd,n1,n2,n3,n4,-fB',-eB'];simpa [zO,-fB',-eB']using qvq (e:=e) (m:=m) s1.bump (by simp) hr0
def qqB{p:Rp}{q:Rp× (Rx×Bool)}(h:qi1 p ()=some q):q.2.2=true:=by
 obtain⟨a,_,h⟩:=qFM.1 h;split at h
 ·obtain⟨c,_,h⟩:=qFM.1 h;split at h
  ·cases h
  ·split at h
   ·obtain⟨d,_,h⟩:=qFM.1 h;split at h
    ·cases h
    ·cases h;rfl
   ·cases h;rfl
 ·cases h
def Zv{op:Int}{l:List Rx}(h:l.length≠1):qcz op l=⟨op,0,0, [],l⟩:=by
 match l,h with
 | [],_=>rfl
 | [e],h=>exact absurd rfl h
 | _::_::_,_=>rfl
theorem qkt{b:Nat}{post:Rp->(Rx×Bool)->Prop}{op:Int}{l:List Rx}{id el:Nat}{v:Value}{H:ab}(s:Rp)(h0:H 0=some (.box b (tF s)))(hi:id≠0)(h1:H id=some (.row v el 5 (l.map enc)))(h:post s (⟨op,0,0, [],l⟩,true)):
 JA Gz b post (.tup [.agg [.v (.int .i64 op), .v (.int .i64 0), .v (.int .i64 0), .v (.slice none 0 0), .own id v], .v (.bool true)]) H:=by
 refine IP s (⟨op,0,0, [],l⟩,true) (.tup rfl λk c c' hc a=>?_) h0 h
 match k with
 | 0=>
   cases hc;cases a;refine Wg [] l (.nil _) (.row (el:=el) (by simp[hi];exact h1) rfl (λd j=>?_) (λk c c' hc a=>?_))
   ·obtain⟨x,_,rfl⟩:=qFV.1 j;exact⟨Cod.kn x,Cod.wid x⟩
   ·rw[hc]at a;cases a;exact .same _
 | 1=>cases hc;cases a;exact .same _
 |k+2=>simp at hc
abbrev qik:Spc:=qhf a0 Gz qlk
set_option maxHeartbeats 2000000 in
theorem NG(h1:S bD=wA)(h2:S jO=qig):wm jg iJ S a0 Gz (λs z=>∃r,qlk s z=some r) (λs z s' y=>qlk s z=some (s',y)):=by
 rintro b s ⟨⟩ ⟨r,hr⟩;have hr0:=hr;obtain⟨⟨s',l'⟩,hl,hr⟩:=qFW.1 hr;simp only at hr;subst hr;obtain⟨c0,hc0⟩:∃c,Qj s=some c:=by
  rw[qaO]at hl;obtain⟨c,hc,_⟩:=qFM.1 hl;exact⟨c,hc⟩
 simp[jg,iJ,h1,lW,hc0,-fB',-eB'];intro b2;refine aA (X:=Nat×Rp×Value×List Rx×Int) [0,2] [2] (λz=>qaO z.1 z.2.1 z.2.2.2.1=some (s',l')/\z.2.2.2.1.length+z.1<=100/\Qj z.2.1=some z.2.2.2.2) (λz=>[(4, .own 36 z.2.2.1),(5, .v (.int .i32 z.2.2.2.2))]) (λz=>[(0, .box b (tF z.2.1)),(36, .row z.2.2.1 Ch 5 (z.2.2.2.1.map enc))]) (λz=>z.1) (100,s, .slice none 0 0, [],c0) ⟨hl,by simp,hc0⟩ ?_ (hh:=by simp[isNilRow]);clear hl;rintro⟨k,p,v,l,c⟩ ⟨hk,hlen,hc⟩;simp only at hk hlen hc;obtain _|k:=k
 ·rw[qaO]at hk;cases hk
 rw[qaO,hc]at hk;simp only[qGc]at hk;split at hk
 ·rename_i hend;cases hk;have hlt:(l'.length:Int)<=9223372036854775807:=by omega
  by_cases hl1:l'.length=1
  ·obtain⟨e,rfl⟩:∃e,l'=[e]:=qG0.1 hl1;rcases hend with h|rfl|rfl
   ·have h':¬0<=c:=by omega
    simp[h',-fB',-eB'];exact Gg s' (by simp) hr0
   all_goals
    simp[-fB',-eB'];exact Gg s' (by simp) hr0
  ·rw[Zv hl1]at hr0;have hl1':¬(l'.length:Int)=1:=by omega
   rcases hend with h|rfl|rfl
   ·have h':¬0<=c:=by omega
    simp[h',hl1,hl1',hlt,-fB',-eB'];exact qkt (el:=Ch) s' (by simp) (by decide) (by simp) hr0
   all_goals
    simp[hl1,hl1',hlt,-fB',-eB'];exact qkt (el:=Ch) s' (by simp) (by decide) (by simp) hr0
 ·rename_i hgo;obtain⟨q,hq,hk⟩:=qFM.1 hk;split at hk
  ·cases hk
  rename_i hop;have hok:=qqB hq;obtain⟨p',e,ok⟩:=q;simp only at hk hok hop;subst hok;have n1:0<=c:=by omega
  have n2:c≠124:=by omega
  have n3:c≠41:=by omega
  obtain⟨c1,hc1⟩:∃c,Qj p'=some c:=by
   obtain _|k:=k
   ·rw[qaO]at hk;cases hk
   rw[qaO]at hk;obtain⟨c,hc,_⟩:=qFM.1 hk;exact⟨c,hc⟩
  simp[h1,h2,lW,hc1,hq,n1,n2,n3,hop,-fB',-eB'];exact⟨by omega,by omega,λv=>⟨k,p',v,l++ [e],c1,⟨hk,by simp;omega,hc1⟩,⟨⟨rfl,rfl⟩, .inl ⟨rfl,rfl,rfl,rfl⟩, .inl ⟨rfl,by simp⟩⟩,by omega⟩⟩
def qr2{p:Rp}{q:Rp× (Rx×Bool)}(h:qlk p ()=some q):q.2.2=true:=by
 obtain⟨a,_,rfl⟩:=qFW.1 h;rfl
abbrev qif:Spc:=qhf a0 Gz qmQ
set_option maxHeartbeats 2000000 in
theorem QM(h1:S bD=wA)(h2:S jQ=qik):wm jT jH S a0 Gz (λs z=>∃r,qmQ s z=some r) (λs z s' y=>qmQ s z=some (s',y)):=by
 rintro b s ⟨⟩ ⟨r,hr⟩;have hr0:=hr;obtain⟨⟨s',l'⟩,hl,hr⟩:=qFW.1 hr;simp only at hr;subst hr;simp[jT,jH,-fB',-eB'];intro b2;refine aA (X:=Nat×Rp×Value×List Rx) [0,2] [2] (λz=>qhJ z.1 z.2.1 z.2.2.2=some (s',l')/\z.2.2.2.length+z.1<=100) (λz=>[(4, .own 25 z.2.2.1)]) (λz=>[(0, .box b (tF z.2.1)),(25, .row z.2.2.1 Ch 5 (z.2.2.2.map enc))]) (λz=>z.1) (100,s, .slice none 0 0, []) ⟨hl,by simp⟩ ?_ (hh:=by simp[isNilRow]);clear hl;rintro⟨k,p,v,l⟩ ⟨hk,hlen⟩;simp only at hk hlen;obtain _|k:=k
 ·rw[qhJ]at hk;cases hk
 rw[qhJ]at hk;obtain⟨⟨p',e,ok⟩,hq,hk2⟩:=qFM.1 hk;clear hk;obtain⟨c,hc,hk3⟩:=qFM.1 hk2;clear hk2;have hok:=qr2 hq;simp only at hok hc hk3;subst hok;have hop:¬e.op=3:=λh=>by rw[if_pos h]at hk3;cases hk3
 rw[if_neg hop]at hk3;have hcc:=qe4 hc;by_cases hc124:c=124
 ·rw[if_pos hc124]at hk3;have hk:=hk3;subst hc124;have hin:=hcc.2.2 (by omega);simp[h1,h2,lW,hc,hq,hop,hin,-fB',-eB'];exact⟨by omega,by omega,λv=>⟨k,p'.bump,v,l++ [e],⟨hk,by simp;omega⟩,⟨rfl, .inl ⟨rfl,rfl,rfl,rfl⟩, .inl ⟨rfl,by simp⟩⟩,by omega⟩⟩
 ·rw[if_neg hc124]at hk3;cases hk3;have hlt:((l++ [e]).length:Int)<=9223372036854775807:=by simp;omega
  have hcc':¬c=124:=hc124;cases l with
  | nil=>
    simp[h1,h2,lW,hc,hq,hop,hcc',-fB',-eB'];exactλv=>Gg s' (by simp) hr0
  | cons x l=>
    simp[h1,h2,lW,hc,hq,hop,hcc',-fB',-eB'];have hr1:=hr0;rw[Zv (by simp)]at hr1;exact⟨by simp at hlen;omega,by simp at hlen;omega,λv _=>⟨λh=>absurd h (by omega),λ_=>qkt (el:=Ch) (l:=x::l++ [e]) s' (by simp) (by decide) (by simp) hr1⟩⟩
end
section
open Go.Proofs
def gM:CC:=gq Tryz.f367 [] {} _
def gF:List ai:=[]
def xz:FO eQ [] gM gF 14:=fo
def ed:CC:=gq Tryz.f372 [] {} _
def dV:List ai:=[]
def qQ:FO eG [] ed dV 148:=fo
def cM:CC:=gq Tryz.f374 [] {} _
def cJ:List ai:=[]
def mu:FO cY [] cM cJ 53:=fo
def rC:CC:=gq Tryz.f168 [] {} _
def qH:List ai:=[.tmp 2]
def Kx:FO tA [] rC qH 8:=fo
def nM:CC:=gq Tryz.f233 [] {} _
def nz:List ai:=[.tmp 2]
def FT:FO pK [] nM nz 25:=fo
def mK:CC:=gq Tryz.f369 [] {} _
def mr:List ai:=[.tmp 4]
def Er:FO nI [] mK mr 20:=fo
def qo:CC:=gq Tryz.f373 [] {} _
def pg:List ai:=[.tmp 2]
def It:FO rj [] qo pg 6:=fo
def pX:CC:=gq Tryz.f368 [2,3] {} _
def ow:List ai:=[.tmp 4]
def Id:FO dt [2,3] pX ow 10:=fo
def tG:CC:=gq Tryz.f362 [2044048] { bx:=[0] } _
def ta:List ai:=[.tmp 2]
def MG:FO vr [2044048] tG ta 51:=fo
open Cod (enc dec)
variable {S S0:Nat->Spc}
abbrev qiv:Spc:=ay (a1 I32) (λ_=>True) (enc (X:=Bool)) λ_ y=>y=false
def JZ:aq qo pg S (a1 I32) (λ_=>True) (enc (X:=Bool)) λ_ y=>y=false:=by
 rintro x -;simp[qo,pg,-fB']
def qdc(a b:Int):Int:=if a<b then -1 else if b<a then 1 else 0
abbrev qiE:Spc:=ay (a2 I32 I32) (λ_=>True) (enc (X:=Int)) λx y=>y=qdc x.1.val x.2.val
def Fq(h1:S rj=qiv):aq mK mr S (a2 I32 I32) (λ_=>True) (enc (X:=Int)) λx y=>y=qdc x.1.val x.2.val:=by
 rintro⟨⟨x⟩,⟨y⟩⟩ -;simp[mK,mr,h1,-fB',-eB'];grind [Spc,qdc]
abbrev qiw:Spc:=ay (a2 Rng Rng) (λ_=>True) (enc (X:=Int)) λx y=>y=qdc x.1.fr.val x.2.fr.val
def JK(h1:S nI=qiE):aq pX ow S (a2 Rng Rng) (λ_=>True) (enc (X:=Int)) λx y=>y=qdc x.1.fr.val x.2.fr.val:=by
 rintro⟨x,y⟩ -;simp[pX,ow,h1,-fB',-eB']
abbrev qd8:Spc:=ay (a1 U64) (λx=>0<=x.val/\x.val<=200) (enc (X:=Int)) λ_ _=>True
def qlX(x:List Rng×Int×Int×D×Unit):Prop:=J7 x.1=true/\x.2.1=0/\x.2.2.1=x.1.length/\x.2.2.2.1= .clo dt []
abbrev qix:Spc:=ay (aE (List Rng) (aE Int (aE Int (aD a0)))) qlX Ws λ_ _=>True
def HL{l:List Rng}(h:J7 l=true):1<=l.length/\l.length<=2:=by
 match l,h with
 | [x],_=>simp
 | [x,y],_=>simp
def YI:∀{l:List Rng},J7 l=true->1<l.length->∃x y,l=[x,y]
 | [x,y],_,_=>⟨x,y,rfl⟩
 | [x],_,h=>by grind
def qhU:∀{l:List Rng} {x:Rng},l[0]? =some x->(l.take 1).foldl uj []=[x]
 |y::l,x,h=>by cases h;rfl
theorem QL(h1:S dt=qiw):aq cM cJ S (aE (List Rng) (aE Int (aE Int (aD a0)))) qlX Ws λ_ _=>True:=by
 rintro⟨l,a,b,d,⟨⟩⟩ ⟨hs,j,hb,k⟩;simp only at hs j hb k;subst j;subst hb;subst k;simp[cM,cJ,-fB',-eB'];have c:=HL hs;refine⟨by grind [Spc,InR],?_⟩;refine aA (X:=Nat) [0,1,2,3] [] (λi=>1<=i/\i<=l.length) (λi=>[(8,enc (i:Int))]) (λ_=>[]) (λi=>l.length -i) 1 ⟨qFU 1,c.1⟩ ?_;rintro i ⟨p,q⟩;by_cases h:i<l.length
 ·obtain rfl:i=1:=by omega
  obtain⟨x,y,rfl⟩:=YI hs h;simp[-fB',-eB'];refine aA (X:=Unit) [0,1,2,3,8] [] (λ_=>True) (λ_=>[(9,enc (1:Int))]) (λ_=>[]) (λ_=>0) () trivial ?_;rintro - -;have hc:¬qdc y.fr.val x.fr.val< 0:=by
   simp[J7]at hs;unfold qdc;omega
  simp[h1,hc,-fB',-eB'];exact⟨by grind [Spc,InR],λ_=>⟨by grind [Spc,InR],2,⟨by omega,by omega⟩,rfl,rfl⟩⟩
 ·obtain rfl:i=l.length:=by omega
  simp[-fB',-eB'];exact aM (Y:=Unit) () (.same _) trivial
abbrev qit:Spc:=ay (aE (List Rng) (aE Int (aE Int (aE Int (aD a0))))) (λx=>qlX (x.1,x.2.1,x.2.2.1,x.2.2.2.2)) Ws λ_ _=>True
def QK(h1:S cY=qix):aq ed dV S (aE (List Rng) (aE Int (aE Int (aE Int (aD a0))))) (λx=>qlX (x.1,x.2.1,x.2.2.1,x.2.2.2.2)) Ws λ_ _=>True:=by
 rintro⟨l,a,b,q,d,⟨⟩⟩ hp;have c:=hp;obtain⟨hs,k,hb,p⟩:=hp;simp only at hs k hb p c;subst k;subst hb;subst p;have r:=HL hs;simp[ed,dV,-fB',-eB'];refine aA (X:=Unit) [0,1,2,3,4,10,11] [] (λ_=>True) (λ_=>[]) (λ_=>[]) (λ_=>0) () trivial ?_;rintro - -;have h:(l.length:Int)<=12:=by omega
 have j:InR .i64 (l.length:Int):=by grind [Spc,InR]
 simp[h1,h,j,c,-fB',-eB'];exact aM (Y:=Unit) () (.same _) trivial
abbrev qm6:Spc:=ay (aE (List Rng) (aD a0)) (λx=>J7 x.1=true/\x.2.1= .clo dt []) Ws λ_ _=>True
def yy(h1:S tA=qd8)(h2:S eG=qit):aq gM gF S (aE (List Rng) (aD a0)) (λx=>J7 x.1=true/\x.2.1= .clo dt []) Ws λ_ _=>True:=by
 rintro⟨l,d,⟨⟩⟩ ⟨hs,b⟩;simp only at hs b;subst b;have c:=HL hs;have hp:qlX (l,0,(l.length:Int), .clo dt [],()):=⟨hs,rfl,rfl,rfl⟩
 have h:IntKind.u64.wrap (l.length:Int)=l.length:=by grind [IntKind.wrap_u64]
 have a:(l.length:Int)<=200:=by omega
 simp[gM,gF,h1,h2,hp,h,a,-fB',-eB'];exactλ_=>aM (Y:=Unit) () (.same _) trivial
abbrev Zg:Spc:=ay (a1 U64) (λx=>0<=x.val/\x.val<=200) (enc (X:=Int)) λ_ _=>True
def qbL(h1:S pK=Zg):aq rC qH S (a1 U64) (λx=>0<=x.val/\x.val<=200) (enc (X:=Int)) λ_ _=>True:=by
 rintro⟨x⟩ ⟨h0,h2⟩;simp_all [rC,qH]
def Uo:aq nM nz S (a1 U64) (λx=>0<=x.val/\x.val<=200) (enc (X:=Int)) λ_ _=>True:=by
 rintro⟨x⟩ ⟨h0,h2⟩;simp only at h0 h2;have c1:¬4294967296<=x:=by omega
 have c2:¬65536<=x:=by omega
 have c3:¬256<=x:=by omega
 have a:IntKind.u8.wrap x=x:=by grind [IntKind.wrap_u8]
 simp[nM,nz,c1,c2,c3,a,h0,-fB',-eB'];refine⟨Int.lt_of_le_of_lt h2 (by decide),λc _=>?_⟩;have:=c.toNat_lt;have b:IntKind.i64.wrap (c.toNat:Int)=c.toNat:=by grind [IntKind.wrap_i64]
 grind [InR]
abbrev qe8:Spc:=qzE (Y:=Rng) (aD a0) (λx=>J7 x.1=true/\x.2.1= .clo dt []) Ws (λ_ _=>True) yK 2
abbrev Y1:Spc:=quG (Y:=Rng) a0 (λ_ l=>J7 l=true) (λ_ l r=>r=Iz l) yK 2
set_option maxHeartbeats 1000000 in
theorem NE(h1:S eQ=qe8):WU (Y:=Rng) tG ta S a0 (λ_ l=>J7 l=true) (λ_ l r=>r=Iz l) yK 2:=by
 rintro v l ⟨⟩ hs;have hs:J7 l=true:=hs;have hl2:=HL hs;simp[tG,ta,h1,hs,-fB',-eB'];intro _;refine ah (X:=Value×List Rng) [9] [0] l.length (λk x=>x.2=(l.take k).foldl uj []) (λx=>[(3, .own 48 x.1)]) (λx=>[(48, .row x.1 yK 2 (x.2.map enc))]) (.slice none 0 0, []) rfl ?_ ?_ (hh:=by simp[isNilRow])
 ·rintro k ⟨v',out⟩ hk hP;simp only at hP;have hk2:k=0\/k=1:=by omega
  rcases hk2 with rfl|rfl
  ·obtain⟨x,hx⟩:∃x,l[0]? =some x:=⟨_,qFQ hk⟩
   obtain⟨_,hgx⟩:=qFN.1 hx;have ho:out=[]:=by rw[hP];rfl
   subst ho;have h1:=qhU hx;simp[hk,hx,hgx,h1,-fB',-eB']
  ·obtain⟨x,y,rfl⟩:=YI hs hk;have ho:out=[x]:=by rw[hP];rfl
   subst ho;simp[J7]at hs;by_cases hle:y.fr.val<=x.to.val+1
   ·have hst:uj (uj [] x) y=[⟨x.fr,⟨max x.to.val y.to.val⟩⟩]:=by simp[uj,hle]
    have hr:InR .i32 (x.to.val+1):=by simp only[InR];omega
    simp[hle,hst,hr,-fB',-eB'];simp only[InR];omega
   ·have hst:uj (uj [] x) y=[x,y]:=by simp[uj,hle]
    have hr:InR .i32 (x.to.val+1):=by simp only[InR];omega
    simp[hle,hst,hr,-fB',-eB'];simp only[InR];omega
 ·rintro⟨v',out⟩ hP;simp only at hP;rw[qFX]at hP;subst hP;simp[-fB',-eB'];exact dL (Iz l) (by simp[Iz]) rfl
def qlh{p:Rp}{a:B}{q:Rp× (I32×Bool)}{c:Int}(hc:Qj p=some c)(h:ET p a=some q):q=(p.bump,⟨c⟩,true):=by
 unfold ET at h;rw[hc,qGc]at h;split at h
 ·cases h
 ·exact(qFY h).symm
def qnG{p:Rp}{q:Rp× (I32×Bool)}{c:Int}(hc:Qj p=some c)(h:ZQ p ()=some q):q=(p.bump,⟨c⟩,true):=by
 unfold ZQ at h;rw[hc,qGc]at h;split at h
 ·cases h
 ·exact qlh hc h
theorem qvp{b:Nat}{post:Rp->(Rx×Bool)->Prop}{l:List Rng}{id el:Nat}{v:Value}{H:ab}(s:Rp)(h0:H 0=some (.box b (tF s)))(hi:id≠0)(h1:H id=some (.row v el 2 (l.map enc)))(h:post s (⟨1,0,0,l, []⟩,true)):
 JA Gz b post (.tup [.agg [.v (.int .i64 1), .v (.int .i64 0), .v (.int .i64 0), .own id v, .v (.slice none 0 0)], .v (.bool true)]) H:=by
 refine IP s (⟨1,0,0,l, []⟩,true) (.tup rfl λk c c' hc a=>?_) h0 h
 match k with
 | 0=>
   cases hc;cases a;refine Wg l [] (.row (el:=el) (by simp[hi];exact h1) rfl (λd j=>?_) (λk c c' hc a=>?_)) (.nil _)
   ·obtain⟨x,_,rfl⟩:=qFV.1 j;exact⟨Cod.kn x,Cod.wid x⟩
   ·rw[hc]at a;cases a;exact .same _
 | 1=>cases hc;cases a;exact .same _
 |k+2=>simp at hc
set_option maxHeartbeats 2000000 in
theorem QP(h1:S bD=wA)(h2:S jP=qii)(h3:S vr=Y1):wm jU jI S a0 Gz (λs z=>∃r,qoz s z=some r) (λs z s' y=>qoz s z=some (s',y)):=by
 rintro b s ⟨⟩ ⟨r,hr⟩;have hr0:=hr;obtain⟨a0,ha0,h⟩:=qFM.1 hr;have e91:¬a0≠91:=λe=>by rw[if_pos e]at h;cases h
 rw[if_neg e91]at h;have hin:=(qe4 ha0).2.2 (by omega);obtain⟨c0,hc0,h⟩:=qFM.1 h;have n94:¬c0=94:=λe=>by rw[if_pos e]at h;cases h
 rw[if_neg n94]at h;obtain⟨⟨s',l'⟩,hl,h⟩:=qFM.1 h;simp only at h;have hsrt:J7 l'=true:=by
  split at h
  ·assumption
  ·cases h
 rw[if_pos hsrt]at h;cases h;have hc1:Qj ⟨s.s,s.pos+1,s.fault,s.e⟩=some c0:=hc0;simp[jU,jI,h1,lW,hin,hc1,n94,-fB',-eB'];intro b2;refine aA (X:=Nat×Rp×Value×List Rng) [0,2,4,5] [2] (λz=>qlf z.1 z.2.1 z.2.2.2=some (s',l')/\z.2.2.2.length+z.1<=100) (λz=>[(6, .own 86 z.2.2.1)]) (λz=>[(0, .box b (tF z.2.1)),(86, .row z.2.2.1 yK 2 (z.2.2.2.map enc))]) (λz=>z.1) (100,s.bump, .slice none 0 0, []) ⟨hl,by simp⟩ ?_ (hh:=by simp[isNilRow,Rp.bump]);clear hl;rintro⟨k,p,v,l⟩ ⟨hk,hlen⟩;simp only at hk hlen;obtain _|k:=k
 ·rw[qlf]at hk;cases hk
 rw[qlf]at hk;obtain⟨c,hc,hk2⟩:=qFM.1 hk;clear hk;have hlt:(l.length:Int)<=9223372036854775807:=by omega
 by_cases hend:l≠ []/\c=93
 ·rw[if_pos hend]at hk2;cases hk2;obtain⟨hne,rfl⟩:=hend;have hin2:=(qe4 hc).2.2 (by omega);have hl0:¬l'.length=0:=λe=>hne (qGE.1 e)
  simp(config:={ maxSteps:=2000000 }) [h1,h3,lW,hc,hlt,hne,hl0,hin2,hsrt,-fB',-eB'];exactλv'=>qvp (el:=yK) s'.bump (by simp[Rp.bump]) (by decide) (by simp) hr0
 ·rw[if_neg hend]at hk2;obtain⟨q,hq,hk3⟩:=qFM.1 hk2;clear hk2;obtain⟨d,hd,hk4⟩:=qFM.1 hk3;clear hk3;have hqv:=qnG hc hq;subst hqv;simp only at hd hk4;have n45:¬d=45:=λe=>by rw[if_pos e]at hk4;cases hk4
  rw[if_neg n45]at hk4;have hd':Qj ⟨p.s,p.pos+1,p.fault,p.e⟩=some d:=hd;cases l with
  | nil=>
    simp(config:={ maxSteps:=2000000 }) [h1,h2,lW,hq,hd',n45,Rp.bump,-fB',-eB'];exactλv=>⟨k,p.bump,v, [⟨⟨c⟩,⟨c⟩⟩],⟨hk4,by simp at hlen ⊢;omega⟩,⟨rfl, .inl ⟨rfl,rfl,rfl,rfl⟩, .inl ⟨rfl,by simp⟩⟩,by omega⟩
  | cons x l=>
    have n93:¬c=93:=λe=>hend ⟨by simp,e⟩
    simp(config:={ maxSteps:=2000000 }) [h1,h2,lW,hc,hq,hd',n45,n93,Rp.bump,-fB',-eB'];have hlen2:l.length+1+ (k+1)<=100:=by simpa using hlen
    first
     |exactλ_ _=>⟨by omega,by omega,λv=>⟨k,p.bump,v,x::l++ [⟨⟨c⟩,⟨c⟩⟩],⟨hk4,by simp;omega⟩,⟨rfl, .inl ⟨rfl,rfl,rfl,rfl⟩, .inl ⟨rfl,by simp⟩⟩,by omega⟩⟩
     |exact⟨by omega,by omega,by omega,λv=>⟨k,p.bump,v,x::l++ [⟨⟨c⟩,⟨c⟩⟩],⟨hk4,by simp;omega⟩,⟨rfl, .inl ⟨rfl,rfl,rfl,rfl⟩, .inl ⟨rfl,by simp⟩⟩,by omega⟩⟩
     |exact⟨by omega,by omega,λv=>⟨k,p.bump,v,x::l++ [⟨⟨c⟩,⟨c⟩⟩],⟨hk4,by simp;omega⟩,⟨rfl, .inl ⟨rfl,rfl,rfl,rfl⟩, .inl ⟨rfl,by simp⟩⟩,by omega⟩⟩
     |(refineλ_=>⟨λ_=>?_,λ_=>?_⟩ <;>exact⟨by omega,by omega,λv=>⟨k,p.bump,v,x::l++ [⟨⟨c⟩,⟨c⟩⟩],⟨hk4,by simp;omega⟩,⟨rfl, .inl ⟨rfl,rfl,rfl,rfl⟩, .inl ⟨rfl,by simp⟩⟩,by omega⟩⟩)
end
section
open Cod (enc dec)
variable {dq:Prop}
def qAx(F:Rx->Int->Int->Option (Bool×Int)):PT:=λd ds H K=>∃id b x n k r a,ds=[a, .v (.int .i64 n), .bptr id b 0]/\dec a=some x/\H id=some (.box b [.v (.int .i64 k)])/\F x n k=some r/\K (.v (.bool r.1)) (aj H id (some (.box b [.v (.int .i64 r.2)])))
def qm3(F:Rx->Int->Int->Option (Bool×Int)):qq (qAx F):=λd ds H K c hk ⟨id,b,x,n,k,r,a,h1,h2,h3,h4,h5⟩=>⟨id,b,x,n,k,r,a,h1,h2,h3,h4,hk _ _ h5⟩
def qsN(F:Rx->Int->Int->Option (Bool×Int)):Spc:= .gen _ (qm3 F)
def qxn(F:Rx->Int->Int->Option (Bool×Int))(o:Option Rx)(n:Int)(id b:Nat)(q:Option Res)(H:ab)(K:D->ab->Prop):Prop:=
 ∃k,q=some (.box b [.v (.int .i64 k)])/\gJ o λx=>gJ (F x n k) λr=>K (.v (.bool r.1)) (aj H id (some (.box b [.v (.int .i64 r.2)])))
@[congr] theorem qAw{F:Rx->Int->Int->Option (Bool×Int)}{o a:Option Rx}{n c:Int}{id b:Nat}{q d:Option Res}{H:ab}{K:D->ab->Prop}(h1:o=a)(h2:n=c)(h3:q=d):qxn F o n id b q H K=qxn F a c id b d H K:=by subst h1;subst h2;subst h3;rfl
@[simp] theorem qAy(F:Rx->Int->Int->Option (Bool×Int))(d id b:Nat)(a:D)(n:Int)(H:ab)(K:D->ab->Prop):(qsN F).pt d [a, .v (.int .i64 n), .bptr id b 0] H K=qxn F (dec a) n id b (H id) H K:=by
 refine propext ⟨λh=>?_,λh=>?_⟩
 ·obtain⟨l,b',x,q,k,r,p,h1,h2,h3,h4,h5⟩:=h;cases h1;refine⟨k,h3,?_⟩;rw[h2];show gJ (F x n k) _;rw[h4];exact h5
 ·obtain⟨k,h1,h2⟩:=h;cases c:dec (X:=Rx) a with
  |none=>rw[c]at h2;exact h2.elim
  | some x=>
    rw[c]at h2;have h2:gJ (F x n k) _:=h2;cases j:F x n k with
    |none=>rw[j]at h2;exact h2.elim
    |some r=>rw[j]at h2;exact⟨id,b,x,n,k,r,a,rfl,c,h1,j,h2⟩
@[simp] theorem qDN(F:Rx->Int->Int->Option (Bool×Int))(o:Option Rx)(n:Int)(id b:Nat)(k:Int)(H:ab)(K:D->ab->Prop):
 qxn F o n id b (some (.box b [.v (.int .i64 k)])) H K=gJ o λx=>gJ (F x n k) λr=>K (.v (.bool r.1)) (aj H id (some (.box b [.v (.int .i64 r.2)]))):=by
 refine propext ⟨λ⟨a,h1,h2⟩=>?_,λh=>⟨k,rfl,h⟩⟩;cases h1;exact h2
def qwG(b:Nat)(q:Bool×Int)(r:D)(H:ab):Prop:=r= .v (.bool q.1)/\H 2=some (.box b [.v (.int .i64 q.2)])
def qlD(cc:CC)(rs:List ai)(S:Nat->Spc)(F:Rx->Int->Int->Option (Bool×Int)):Prop:=
 ∀b x n k q,F x n k=some q->vc S cc (wq rs λr H'=>qwG b q r H') (dI [enc x, .v (.int .i64 n), .bptr 2 b 0]) (aj dj 2 (some (.box b [.v (.int .i64 k)])))
variable {P:Program}{S:Nat->Spc}{f:Nat}{im:List Nat}{cc:CC}{rs:List ai}{N:Nat}
theorem qbZ{F:Rx->Int->Int->Option (Bool×Int)}(c:∀f,Tri dq P f (S f).pt)(h:Bk P f im cc rs N)(l:3<=N)(p:qlD cc rs S F):Tri dq P f (qsN F).pt:=by
 obtain⟨yt,enter,fn,code,h1,h2,h3,h4,h5⟩:=h;refine nU c yt h1 h2 enter h3 h4 h5 ?_;rintro ds H d K ⟨id,b,x,n,k,r,J,rfl,t,hid,u,w⟩;have h0:∀i q,aj dj 2 (some (.box b [.v (.int .i64 k)])) i=some q->i=2/\q= .box b [.v (.int .i64 k)]:=by
  intro i q h;by_cases e:i=2
  ·subst e;simp only[aj,if_true]at h;cases h;exact⟨rfl,rfl⟩
  ·simp[aj,e,dj]at h
 refine⟨l, [enc x, .v (.int .i64 n), .bptr 2 b 0],aj dj 2 (some (.box b [.v (.int .i64 k)])),λi=>if i=2 then id else i, .cons (Cod.le _ _ t) (.cons (.same _) (.cons (.bptr _ _ _ _) .nil)),λi q h=>?_,λi j q y h A e=>?_,_,p b x n k r u,?_⟩
 ·obtain⟨rfl,rfl⟩:=h0 i q h;exact hid
 ·exact(h0 i q h).1.trans (h0 j y A).1.symm
 ·rintro r' H' ⟨rfl,C⟩;refine⟨.v (.bool r.1),dj,aj H id (some (.box b [.v (.int .i64 r.2)])),λi=>if i=id then some 2 else none, .same _,λj q h=>by simp[dj]at h,w,λi s hi=>?_,λi j L s q hi M E I=>?_⟩
  ·by_cases e:i=id
   ·subst e;simp only[aj,if_true]at hi ⊢;cases hi;exact C
   ·simp only[aj,e,if_false]at hi ⊢;refine⟨hi,λa q h he=>?_⟩;obtain⟨rfl,rfl⟩:=h0 a q h;exact e he.symm
  ·by_cases c1:i=id
   ·by_cases c2:j=id
    ·exact c1.trans c2.symm
    ·simp[c2]at I
   ·simp[c1]at E
end
section
open Go.Proofs
def li:CC:=gq Tryz.f303 [3] { bx:=[2],ke:=[2] } _
def kH:List ai:=[.tmp 6]
def OU:FO rT [3] li kH 36:=fo
def pW:CC:=gq Tryz.f345 [] {} _
def ov:List ai:=[.tmp 2]
def Ic:FO qY [] pW ov 47:=fo
def ei:CC:=gq Tryz.f326 [1] {} _
def dY:List ai:=[.tmp 2]
def FN:FO pA [1] ei dY 101:=fo
def mE:CC:=gq Tryz.f304 [1] {} _
def mg:List ai:=[.tmp 2]
def El:FO iV [1] mE mg 19:=fo
def jc:CC:=gq Tryz.f305 [1] {} _
def iG:List ai:=[.tmp 2]
def FP:FO kp [1] jc iG 42:=fo
def qa:CC:=gq Tryz.f272 [1] {} _
def oz:List ai:=[.tmp 2]
def If:FO lL [1] qa oz 16:=fo
open Cod (enc dec)
variable {S S0:Nat->Spc}
def Qo{X:Type}{l:List X}{k:Nat}(h:k<l.length):∃x,l[k]? =some x:=⟨_,qFQ h⟩
def PY{X:Type}{l:List X}{k:Nat}{x:X}(h:l[k]? =some x):l.drop k=x::l.drop (k+1):=by
 grind [List.drop_eq_getElem_cons]
theorem QN(n:Nat)(h1:S rT=qsN (zK n)):qlD li kH S (zK (n+1)):=by
 rintro b x d k ⟨ok,m⟩ l;have u:=l;simp only[zK]at l;split at l;grind;rename_i s;have j:InR .i64 (k+1):=by grind [InR]
 split at l
 ·rename_i p;cases l;by_cases c:40<d
  ·simp[li,kH,j,c,-fB',-eB'];exact⟨rfl,by simp⟩
  ·have a:200<k+1:=by omega
   simp[li,kH,j,c,a,-fB',-eB'];exact⟨rfl,by simp⟩
 ·rename_i p;have c:¬40<d:=by omega
  have a:¬200<k+1:=by omega
  simp[li,kH,j,c,a,-fB',-eB'];intro w;refine ah (X:=Int) [1,2,23] [] x.kids.length (λi z=>qtX (zK n) d (x.kids.drop i) z=some (ok,m)) (λz=>[]) (λz=>[(2, .box b [.v (.int .i64 z)])]) (k+1) l ?_ ?_
  ·rintro i z hi hz;obtain⟨y,r⟩:=Qo hi;obtain⟨_,q⟩:=qFN.1 r;rw[PY r,qtX]at hz;obtain⟨⟨t,A⟩,hs,hz⟩:=qFM.1 hz;simp only at hz;have h:InR .i64 (d+1):=by grind [InR]
   cases t with
   | true=>
     simp only[if_true]at hz;simp[h1,hi,r,q,hs,h,-fB',-eB'];exact⟨A,hz, .inl rfl⟩
   | false=>
     simp only[qGG,if_false]at hz;cases hz;simp[h1,hi,r,q,hs,h,-fB',-eB'];exact⟨rfl,by simp⟩
  ·rintro z hz;rw[qGC,qtX]at hz;cases hz;simp[-fB',-eB'];exact⟨rfl,by simp⟩
abbrev YR:Spc:=ay (a1 (List Rng)) (λl=>qep l=true) (enc (X:=Bool)) λ_ y=>y=true
def JJ:aq pW ov S (a1 (List Rng)) (λl=>qep l=true) (enc (X:=Bool)) λ_ y=>y=true:=by
 rintro l hl;obtain⟨r,rfl⟩:∃r,l=[r]:=by
  match l,hl with
  | [r],_=>simp
 simp[qep]at hl;simp[pW,ov,-fB',-eB'];refine ah (X:=Unit) [0,5] [] 1 (λ_ _=>True) (λ_=>[]) (λ_=>[]) () trivial ?_ ?_
 ·rintro k -hk -;obtain rfl:k=0:=by omega
  have a:¬r.fr.val< 0:=by omega
  have b:¬r.to.val<r.fr.val:=by omega
  have c:¬1114111<r.to.val:=by omega
  simp[a,b,c,-fB',-eB']
 simp
abbrev Sn:Spc:=ay (a1 Rx) (λx=>quf x=true) (enc (X:=Bool)) λ_ y=>y=true
set_option maxHeartbeats 2000000 in
theorem G6(h1:S qY=YR):aq ei dY S (a1 Rx) (λx=>quf x=true) (enc (X:=Bool)) λ_ y=>y=true:=by
 rintro⟨op,mn,mx,rs,ks⟩ hx;have hx:quf ⟨op,mn,mx,rs,ks⟩=true:=hx;unfold quf at hx;simp only at hx;split at hx
 ·rename_i e;subst e;simp at hx;obtain⟨⟨⟨rfl,rfl⟩,rfl⟩,hs⟩:=hx;simp[ei,dY,h1,hs,-fB',-eB'];refine ah (X:=Unit) [1,3] [] 0 (λ_ _=>True) (λ_=>[]) (λ_=>[]) () trivial (λk x hk=>absurd hk (by omega)) (λ_ _=>?_);simp_all
 split at hx
 ·rename_i e1 e;subst e;simp at hx;obtain⟨⟨⟨⟨rfl,rfl⟩,rfl⟩,hl1,hl3⟩,hk2⟩:=hx;have hlt:(ks.length:Int)<=9223372036854775807:=by omega
  simp[ei,dY,hlt,-fB',-eB'];refine ah (X:=Unit) [1,3,34] [] ks.length (λ_ _=>True) (λ_=>[]) (λ_=>[]) () trivial ?_ ?_
  ·rintro k -hk -;obtain⟨y,hy⟩:=Qo hk;obtain⟨_,hgy⟩:=qFN.1 hy;have hop:=hk2 y (qFP hy);simp[hk,hy,hgy,hop,-fB',-eB']
  simp;omega
 split at hx
 ·rename_i e1 e2 e;subst e;simp at hx;obtain⟨⟨⟨⟨rfl,rfl⟩,rfl⟩,hl1,hl3⟩,hk2⟩:=hx;have hlt:(ks.length:Int)<=9223372036854775807:=by omega
  simp[ei,dY,hlt,-fB',-eB'];refine ah (X:=Unit) [1,3,34] [] ks.length (λ_ _=>True) (λ_=>[]) (λ_=>[]) () trivial ?_ ?_
  ·rintro k -hk -;obtain⟨y,hy⟩:=Qo hk;obtain⟨_,hgy⟩:=qFN.1 hy;have hop:=hk2 y (qFP hy);simp[hk,hy,hgy,hop,-fB',-eB']
  ·rintro - -;have hl1':(1:Int)<ks.length:=by omega
   simp[hl1,hl1',-fB',-eB']
 split at hx
 ·rename_i e1 e2 e3 e;subst e;simp at hx;obtain⟨⟨⟨g0,g1,g2⟩,rfl⟩,hl1⟩:=hx;obtain⟨k0,rfl⟩:∃k,ks=[k]:=qG0.1 hl1;simp[ei,dY,-fB',-eB'];refine ah (X:=Unit) [1,3,34] [] 1 (λ_ _=>True) (λ_=>[]) (λ_=>[]) () trivial ?_ ?_
  ·rintro k -hk -;obtain rfl:k=0:=by omega
   simp[-fB',-eB']
  ·rintro - -;simp[g0,g1,-fB',-eB'];exactλh=>⟨λ_=>by omega,by omega⟩
 grind
abbrev FE(n:Nat):Spc:=ay (a1 Rx) (λx=>qf7 n x=true) (enc (X:=Bool)) λ_ y=>y=true
def Fj(n:Nat)(h1:S pA=Sn)(h2:S iV=FE n):aq mE mg S (a1 Rx) (λx=>qf7 (n+1) x=true) (enc (X:=Bool)) λ_ y=>y=true:=by
 rintro x a;have a:qf7 (n+1) x=true:=a;simp only[qf7,qFS,qFT]at a;obtain⟨b,c⟩:=a;simp[mE,mg,h1,b,-fB',-eB'];intro d;refine ah (X:=Unit) [9] [] x.kids.length (λ_ _=>True) (λ_=>[]) (λ_=>[]) () trivial ?_ ?_;simp_all;simp
abbrev qcj(n:Nat):Spc:=ay (a1 Rx) (λx=>∃m,Vb n x=some m) (enc (X:=Int)) λx y=>Vb n x=some y
set_option maxHeartbeats 1000000 in
theorem G7(n:Nat)(h1:S kp=qcj n):aq jc iG S (a1 Rx) (λx=>∃m,Vb (n+1) x=some m) (enc (X:=Int)) λx y=>Vb (n+1) x=some y:=by
 rintro x ⟨m,hm⟩;have hm0:=hm;simp only[Vb]at hm;split at hm;simp_all [jc,iG];rename_i e1;obtain⟨k,hk,hm⟩:=qFM.1 hm;simp[jc,iG,e1,-fB',-eB'];intro hkl;refine ah (X:=Int) [1,10] [] x.kids.length (λi z=>qub (Vb n) (x.kids.drop i) z=some k) (λz=>[(3,enc z)]) (λ_=>[]) 0 hk ?_ ?_
 ·rintro i z hi hz;obtain⟨y,hy⟩:=Qo hi;obtain⟨_,hgy⟩:=qFN.1 hy;rw[PY hy,qub]at hz;obtain⟨v,hv,hz⟩:=qFM.1 hz;split at hz;grind;rename_i hr;have hin:InR .i64 (z+v):=by simp only[InR];omega
  simp_all
 ·rintro z hz;rw[qGC,qub]at hz;cases hz;split at hm
  ·rename_i e4;cases hm;simp[e4,hm0,-fB',-eB']
  ·rename_i e4;have e4:x.op=4:=by omega
   unfold qud at hm;split at hm
   ·rename_i emx;split at hm
    ·rename_i hb;cases hm;have hin:InR .i64 (k*max x.mn 1):=by simp only[InR];omega
     simp[e4,emx,hin,hm0,-fB',-eB']
    ·cases hm
   ·rename_i emx;split at hm
    ·rename_i hb;cases hm;have hin:InR .i64 (k*x.mx):=by simp only[InR];omega
     simp[e4,emx,hin,hm0,-fB',-eB']
    ·cases hm
abbrev YW:Spc:=ay (a1 Rx) (λx=>Ft 50 x=true) (enc (X:=Int)) λx y=>y=0
def JM(h1:S rT=qsN (zK 50))(h2:S iV=FE 50)(h3:S kp=qcj 50):aq qa oz S (a1 Rx) (λx=>Ft 50 x=true) (enc (X:=Int)) λx y=>y=0:=by
 rintro x a;have a:Ft 50 x=true:=a;simp only[Ft,qFS]at a;obtain⟨⟨c,d⟩,h⟩:=a;obtain⟨⟨t,k⟩,hs,rfl⟩:∃r,zK 50 x 1 0=some r/\r.1=true:=by
  grind
 obtain⟨m,hm,b⟩:∃m,Vb 50 x=some m/\m<=64:=by
  grind
 simp_all [qa,oz,Bool.forall_bool,Bool.exists_bool]
end
section
open Go.Proofs
def vM:CC:=gq Tryz.f208 [2002002] {} _
def uJ:List ai:=[.cell 2 true 5, .tmp 3, .tmp 4]
def OW:FO rV [2002002] vM uJ 66:=fo
def wh:CC:=gq Tryz.f195 [] {} _
def vg:List ai:=[.tmp 2]
def Pi:FO rZ [] wh vg 13:=fo
def pY:CC:=gq Tryz.f308 [] {} _
def ox:List ai:=[.tmp 4]
def Ie:FO qZ [] pY ox 24:=fo
open Cod (enc dec)
variable {S S0:Nat->Spc}
def qEo{Y Z W V:Type}[Cod Y][Cod Z][Cod W][Cod V](x:Y×Z×W×V):D:= .tup [enc x.1,enc x.2.1,enc x.2.2.1,enc x.2.2.2]
@[simp] theorem qEn{Y Z W V:Type}[Cod Y][Cod Z][Cod W][Cod V](y:Y)(z:Z)(w:W)(v:V):qEo (y,z,w,v)= .tup [enc y,enc z,enc w,enc v]:=i' rfl
def ql7(s:B)(i:Int):I32×Int×Int×Bool:=match s.data[i.toNat]? with
 |some c=>(⟨c.toNat⟩,i,1,true)
 |none=>(⟨0⟩,0,0,false)
abbrev s_cpAt:Spc:=ay (a2 B Int) (λx=>x.1.size<=1000/\yn x.1=true/\0<=x.2/\x.2<=x.1.size) (qEo (Y:=I32) (Z:=Int) (W:=Int) (V:=Bool)) λx y=>y=ql7 x.1 x.2
def qlr{s:B}(h:yn s=true){k:Nat}{c:UInt8}(hc:s.data[k]? =some c):c.toNat< 128:=by
 have:=qFT.1 h c (by rw[<-qGf]at hc;exact qFP hc);exact of_decide_eq_true this
abbrev Kf:Spc:=ay (a1 B) (λs=>∃r,ms s=some r) (qpA (Y:=Rx) (Z:=Int) (W:=Int)) λs y=>ms s=some y.1/\y.2=(0,0)
set_option maxHeartbeats 2000000 in
theorem QQ(h1:S Dh=s_cpAt)(h2:S kW=qif)(h3:S lL=YW):aq vM uJ S (a1 B) (λs=>∃r,ms s=some r) (qpA (Y:=Rx) (Z:=Int) (W:=Int)) λs y=>ms s=some y.1/\y.2=(0,0):=by
 rintro s ⟨r,hr⟩;have hr0:=hr;unfold ms at hr;split at hr
 rotate_left
 ·cases hr
 rename_i hs;obtain⟨hsz,hasc⟩:=hs;obtain⟨⟨p,x,ok⟩,hu,hr⟩:=qFM.1 hr;split at hr
 rotate_left
 ·cases hr
 rename_i hv;obtain⟨rfl,hpos,hval⟩:=hv;cases hr;have n200:¬(200:Int)<s.size:=by omega
 have hs10:s.size<=1000:=by omega
 simp[vM,uJ,n200,-fB',-eB'];intro b2 hsz2;refine aA (X:=Nat) [0,2] [2] (λi=>i<=s.size) (λi=>[(5,enc (i:Int))]) (λ_=>[]) (λi=>s.size -i) 0 (qGb _) ?_;rintro i hi;by_cases hlt:i<s.size
 ·obtain⟨c,hc⟩:∃c,s.data[i]? =some c:=⟨s.data[i]'hlt,qGH hlt⟩
  have h128:=qlr hasc hc;have hat:ql7 s (i:Int)=((⟨(c.toNat:Int)⟩:I32),(i:Int),(1:Int),true):=by simp[ql7,hc]
  have hff:¬((c.toNat:Int)=65533):=by omega
  simp[h1,hs10,hasc,hat,hff,hi,-fB',-eB'];exact⟨by simp only[InR];omega,i+1,by omega,by omega,by omega⟩
 ·obtain rfl:i=s.size:=by omega
  have hat:ql7 s (s.size:Int)=(⟨0⟩,0,0,false):=by
   have:s.data[s.size]? =none:=qHB (qFU _);simp[ql7,this]
  simp only at hpos hval;have npos:¬p.pos<s.size:=by omega
  simp[h1,h2,h3,hs10,hasc,hat,hu,hpos,hval,npos,-fB',-eB'];exactλb _=>⟨x, .same _,hr0⟩
abbrev qdZ:Spc:=ay (a1 B) (λs=>∃r,ms s=some r) (enc (X:=Int)) λ_ y=>y=0
def Rc(h1:S rV=Kf):aq wh vg S (a1 B) (λs=>∃r,ms s=some r) (enc (X:=Int)) λ_ y=>y=0:=by
 rintro s ⟨r,a⟩;simp[wh,vg,h1,a,-fB',-eB']
abbrev qm7:Spc:=ay (a2 (List Rng) I32) (λ_=>True) (enc (X:=Bool)) λx y=>y=WB x.1 x.2.val
theorem JL:aq pY ox S (a2 (List Rng) I32) (λ_=>True) (enc (X:=Bool)) λx y=>y=WB x.1 x.2.val:=by
 rintro⟨l,⟨c⟩⟩ -;simp[pY,ox,-fB',-eB'];intro p;refine ah (X:=Unit) [1,7] [] l.length (λk _=>WB (l.take k) c=false) (λ_=>[]) (λ_=>[]) () rfl ?_ ?_
 ·rintro k -hk j;obtain⟨y,h⟩:=Qo hk;obtain⟨_,b⟩:=qFN.1 h;have d:WB (l.take (k+1)) c=(decide (y.fr.val<=c) && decide (c<=y.to.val)):=by
   have:l.take (k+1)=l.take k++ [y]:=by rw[qGP,h];rfl
   unfold WB at j ⊢;rw[this,List.any_append,j];simp
  by_cases h1:y.fr.val<=c/\c<=y.to.val
  ·obtain⟨h1,h2⟩:=h1;have a:WB l c=true:=by
    refine qGS.2 ⟨y,qFP h,by simp[h1,h2]⟩
   simp[hk,h,b,h1,h2,a,-fB',-eB']
  ·have a:WB (l.take (k+1)) c=false:=by
    rw[d];simp;omega
   by_cases h2:y.fr.val<=c
   ·have h3:¬c<=y.to.val:=λe=>h1 ⟨h2,e⟩
    simp[hk,h,b,h2,h3,a,-fB',-eB']
   ·simp[hk,h,b,h2,a,-fB',-eB']
 ·rintro -j;rw[qFX]at j;simp[j,-fB',-eB']
end
section
open Cod (enc dec)
variable {dq:Prop}
structure qER where
 v:Value
 v':Value
 t:Tbk
def vK(v v':Value)(t:Tbk):List D:=[.own 990 v, .v (.int .u64 t.fi.val), .v (.int .u64 t.la.val), .own 991 v', .v (.bool t.nul)]
def qO(v:Value)(l:List (List Rng)):Res:= .row v eW 1 (l.map enc)
def qP(v:Value)(l:List U64):Res:= .row v fV 1 (l.map enc)
def tbB:R5 qER:=⟨[990,991],λx=>vK x.v x.v' x.t,λx=>[(990,qO x.v x.t.lvs),(991,qP x.v' x.t.fol)],λ_=>rfl⟩
section
variable {Y Z:Type}
def ql3(A:fN Z)(er:Y->D)(F:Tbk->Z->Option (Tbk×Y)):Spc:=qwb tbB A er (λs z=>∃r,F s.t z=some r) (λs z a y=>F s.t z=some (a.t,y))
def yV(H:ab)(id b:Nat)(v v':Value)(t:Tbk):ab:=aj (aj (aj H 991 (some (qP v' t.fol))) 990 (some (qO v t.lvs))) id (some (.box b (vK v v' t)))
def Yt(er:Y->D)(F:Tbk->Z->Option (Tbk×Y))(id b:Nat)(r a c:Option Res)(o:Option Z)(H:ab)(K:D->ab->Prop):Prop:=
 ∃v v' t,r=some (.box b (vK v v' t))/\a=some (qO v t.lvs)/\c=some (qP v' t.fol)/\id≠990/\id≠991/\gJ o λz=>gJ (F t z) λq=>∀w w',K (er q.2) (yV H id b w w' q.1)
@[congr] theorem qxb{er:Y->D}{F:Tbk->Z->Option (Tbk×Y)}{id b:Nat}{r r' d a h c:Option Res}{o j:Option Z}{H:ab}{K:D->ab->Prop}(h1:r=r')(h2:d=a)(h3:h=c)(h4:o=j):Yt er F id b r d h o H K=Yt er F id b r' a c j H K:=by grind
theorem Gb{X:Type}[Cod X]:∀{l c:List X},l.map enc=c.map enc->l=c
 | [], [],_=>rfl
 | [],_::_,h=>by grind
 | _::_, [],h=>by grind
 | a::l,b::c,h=>by
   rw[qGp,qGp,qGn]at h;rw[cD h.1,Gb h.2]
def qiT{v v':Value}{l a:List (List Rng)}(h:qO v l=qO v' a):v=v'/\l=a:=by
 grind [qO,Gb]
def qiU{v v':Value}{l a:List U64}(h:qP v l=qP v' a):v=v'/\l=a:=by
 grind [qP,Gb]
def qhS{b b':Nat}{v v' w w':Value}{t t':Tbk}(h:Res.box b (vK v v' t)=Res.box b' (vK w w' t'))(h1:qO v t.lvs=qO w t'.lvs)(h2:qP v' t.fol=qP w' t'.fol):b=b'/\v=w/\v'=w'/\t=t':=by
 obtain⟨a,d⟩:=qiT h1;obtain⟨c,j⟩:=qiU h2;obtain⟨hb,hc⟩:=Res.box.inj h;simp only[vK,qGn,D.own.injEq,D.v.injEq,Value.int.injEq,Value.bool.injEq,true_and,and_true]at hc;obtain⟨_,⟨c1,c2,_,c3⟩⟩:=hc;refine⟨hb,a,c,?_⟩;obtain⟨a1,⟨a2⟩,⟨a3⟩,a4,k⟩:=t;simp_all
theorem qhT(x:qER)(H:ab)(id b:Nat):aj (gS (tbB.hp x) H) id (some (.box b (tbB.ce x)))=yV H id b x.v x.v' x.t:=by
 rfl
theorem qb6(A:fN Z)(er:Y->D)(F:Tbk->Z->Option (Tbk×Y))(d i b:Nat)(ds:List D)(H:ab)(K:D->ab->Prop):(ql3 A er F).pt d (.bptr i b 0::ds) H K=Yt er F i b (H i) (H 990) (H 991) (A.dec ds) H K:=by
 refine propext ⟨λh=>?_,λh=>?_⟩
 ·obtain⟨id,b',x,z,k,h1,h2,h3,h4,h5,h6,l⟩:=h;cases h1;simp only[tbB,qF5,qGi,or_false,not_or]at h5;refine⟨x.v,x.v',x.t,h3,h4 (990,qO x.v x.t.lvs) (by simp[tbB]),h4 (991,qP x.v' x.t.fol) (by simp[tbB]),h5.1,h5.2,?_⟩;rw[h2];obtain⟨⟨t',y⟩,j⟩:=h6;show gJ (F x.t z) _;rw[j];intro w w';have:=l ⟨w,w',t'⟩ y j;grind [qhT]
 ·obtain⟨v,v',t,h1,h2,h3,h4,h5,h6⟩:=h;cases hz:A.dec ds with
  |none=>simp_all
  | some z=>
    rw[hz]at h6;have h6:gJ (F t z) λq=>∀w w',K (er q.2) (yV H i b w w' q.1):=h6
    cases c:F t z with
    |none=>simp_all
    | some q=>
      rw[c]at h6;have h6:∀w w',K (er q.2) (yV H i b w w' q.1):=h6;refine⟨i,b,⟨v,v',t⟩,z,ds,rfl,hz,h1,λp hp=>?_,by grind [gJ,tbB],⟨q,c⟩,λr y a=>?_⟩
      ·simp only[tbB,qF5,qGi,or_false]at hp;grind
      ·have a:F t z=some (r.t,y):=a;rw[c]at a;cases a;rw[qhT];grind
theorem qnU(A:fN Z)(er:Y->D)(F:Tbk->Z->Option (Tbk×Y))(b:Nat)(ds:List D):qoV 0 (ql3 A er F).pt (.bptr 0 b 0::ds):=by
 refine⟨λR=>Yt er F 0 b (R 0) (R 990) (R 991) (A.dec ds) R λ_ _=>True,λR d u=>∃v v' t z q w w',R 0=some (.box b (vK v v' t))/\R 990=some (qO v t.lvs)/\R 991=some (qP v' t.fol)/\A.dec ds=some z/\F t z=some q/\d=er q.2/\u=[(0, .box b (vK w w' q.1)),(990,qO w q.1.lvs),(991,qP w' q.1.fol)],λt H K=>?_⟩;rw[qb6];have l:yT H (some 0) 0=H 0:=by rfl
 have p:yT H (some 0) 990=H 990:=by rfl
 have r:yT H (some 0) 991=H 991:=by rfl
 show _↔Yt er F 0 b (yT H (some 0) 0) (yT H (some 0) 990) (yT H (some 0) 991) (A.dec ds) (yT H (some 0)) (λ_ _=>True)/\∀d u,(∃v v' t z q w w',yT H (some 0) 0=some (.box b (vK v v' t))/\yT H (some 0) 990=some (qO v t.lvs)/\yT H (some 0) 991=some (qP v' t.fol)/\A.dec ds=some z/\F t z=some q/\d=er q.2/\u=[(0, .box b (vK w w' q.1)),(990,qO w q.1.lvs),(991,qP w' q.1.fol)])->K d (lS H (some 0) u);rw[l,p,r];have hp:∀(w w':Value) (q:Tbk),lS H (some 0) [(0, .box b (vK w w' q)),(990,qO w q.lvs),(991,qP w' q.fol)]=yV H 0 b w w' q:=λw w' q=>by
  funext i;simp only[lS,yV,aj];by_cases h0:i=0;simp_all
  ·by_cases h1:i=990
   ·subst h1;rfl
   ·by_cases h2:i=991
    ·subst h2;rfl
    grind
 constructor
 ·rintro⟨v,v',t,h1,h2,h3,h4,h5,h6⟩;cases hz:A.dec ds with
  |none=>simp_all
  | some z=>
    rw[hz]at h6;have h6:gJ (F t z) λq=>∀w w',K (er q.2) (yV H 0 b w w' q.1):=h6
    cases a:F t z with
    |none=>rw[a]at h6;exact h6.elim
    | some q=>
      rw[a]at h6;have h6:∀w w',K (er q.2) (yV H 0 b w w' q.1):=h6;refine⟨⟨v,v',t,h1,h2,h3,h4,h5,?_⟩,?_⟩
      ·show gJ (F t z) _;rw[a];exactλ_ _=>trivial
      ·rintro d u ⟨v1,s,t1,C,E,w,w',c,h,j,x,k,rfl,rfl⟩;rw[h1]at c;rw[h2]at h;rw[h3]at j;obtain⟨_,_,_,rfl⟩:=qhS (qFY c) (qFY h) (qFY j);cases x;rw[a]at k;cases k;rw[hp];exact h6 w w'
 ·rintro⟨⟨v,v',t,h1,h2,h3,h4,h5,h6⟩,y⟩;refine⟨v,v',t,h1,h2,h3,h4,h5,?_⟩;cases hz:A.dec ds with
  |none=>rw[hz]at h6;exact h6.elim
  | some z=>
    rw[hz]at h6;have h6:gJ (F t z) λq=>∀w w':Value,True:=h6
    show gJ (F t z) _;cases a:F t z with
    |none=>rw[a]at h6;exact h6.elim
    | some q=>
      intro w w';have:=y (er q.2) _ ⟨v,v',t,z,q,w,w',h1,h2,h3,hz,a,rfl,rfl⟩;rwa [hp]at this
def qjc(A:fN Z)(er:Y->D)(F:Tbk->Z->Option (Tbk×Y))(b:Nat)(dst:Option Nat)(ds:List D)(H:ab)(K:D->ab->Prop):SH 0 dst (ql3 A er F) (.bptr 0 b 0::ds) H K=Yt er F 0 b (H 0) (H 990) (H 991) (A.dec ds) H K:=by
 rw[<-qb6 A er F (dst.getD 0)];exact propext ⟨λh=>h.2,λh=>⟨qnU A er F b ds,h⟩⟩
def qqb(er:Y->D)(F:Tbk->Z->Option (Tbk×Y))(id b:Nat)(v v':Value)(f l:Int)(n:Bool)(lv:List (List Rng))(fo:List U64)(o:Option Z)(H:ab)(K:D->ab->Prop):
 Yt er F id b (some (.box b [.own 990 v, .v (.int .u64 f), .v (.int .u64 l), .own 991 v', .v (.bool n)])) (some (.row v eW 1 (lv.map enc))) (some (.row v' fV 1 (fo.map enc))) o H K=(id≠990/\id≠991/\gJ o λz=>gJ (F ⟨lv,⟨f⟩,⟨l⟩,fo,n⟩ z) λq=>∀w w',K (er q.2) (yV H id b w w' q.1)):=by
 refine propext ⟨λ⟨w,w',t,h1,h2,h3,h4,h5,h6⟩=>⟨h4,h5,?_⟩,λh=>⟨v,v',⟨lv,⟨f⟩,⟨l⟩,fo,n⟩,rfl,rfl,rfl,h.1,h.2.1,h.2.2⟩⟩;obtain⟨_,_,_,e⟩:=qhS (t:=⟨lv,⟨f⟩,⟨l⟩,fo,n⟩) (t':=t) (b:=b) (b':=b) (qFY h1) (qFY h2) (qFY h3);grind
def qbo(er:Y->D)(b:Nat)(post:Tbk->Y->Prop)(r:D)(H:ab):Prop:=TD tbB er b (λs y=>post s.t y) r H
def qpz{er:Y->D}{b:Nat}{post:Tbk->Y->Prop}{r:D}{H:ab}(v v':Value)(t:Tbk)(y:Y)(c:FrzTo (λi=>if i=0\/i=990\/i=991 then none else H i) r (er y))(h0:H 0=some (.box b (vK v v' t)))(h1:H 990=some (qO v t.lvs))(h2:H 991=some (qP v' t.fol))(a:post t y):qbo er b post r H:=
 ⟨⟨v,v',t⟩,y,by grind [tbB],h0,λp hp=>by
  simp only[tbB,qF5,qGi,or_false]at hp;grind,a⟩
def Ls(cc:CC)(rs:List ai)(S:Nat->Spc)(A:fN Z)(er:Y->D)(F:Tbk->Z->Option (Tbk×Y)):Prop:=
 ∀b v v' t z r,F t z=some r->vc S cc (wq rs λd H'=>qbo er b (λt' y=>r=(t',y)) d H') (dI (.bptr 0 b 0::A.view z)) (yV dj 0 b v v' t)
variable {P:Program}{S:Nat->Spc}{f:Nat}{im:List Nat}{cc:CC}{rs:List ai}{N:Nat}
def uE{A:fN Z}{er:Y->D}{F:Tbk->Z->Option (Tbk×Y)}(a:∀f,Tri dq P f (S f).pt)(h:Bk P f im cc rs N)(c:∀z,(A.view z).length+1<=N)(j:Ls cc rs S A er F):Tri dq P f (ql3 A er F).pt:=
 Fz (by simp[tbB]) a h c λb x z hp=>by
  obtain⟨r,k⟩:=hp;rw[qhT];have:=j b x.v x.v' x.t z r k;have e:(λ(d:D) (H':ab)=>TD tbB er b (λl y=>F x.t z=some (l.t,y)) d H')=λd H'=>qbo er b (λt' y=>r=(t',y)) d H':=by
   funext d H';unfold qbo;grind
  grind
end
@[simp] theorem qzH(m:U64)(i:Nat):decide (qa8 .u64 (qcd .u64 m.val i) 1=1)=qg4 m i:=i' rfl
end
section
open Go.Proofs
def Bd:CC:=gq Tryz.f306 [1,2024006,2022006,2020006] { cu:=[1,4],kz:=[990,991] } _
def Ak:List ai:=[.tmp 2]
def VD:FO Dg [1,2024006,2022006,2020006] Bd Ak 26:=fo
def lr:CC:=gq Tryz.f359 [] { bx:=[0],kz:=[990,991] } _
def kN:List ai:=[]
def CM:FO gT [] lr kN 31:=fo
def jj:CC:=gq Tryz.f346 [4,5] { ke:=[0],kz:=[990,991] } _
def iM:List ai:=[.cell 6 true 3]
def Au:FO dQ [4,5] jj iM 42:=fo
def cV:CC:=gq Tryz.f327 [3,3060000,1031990,2033000,2006006] { bx:=[0],kz:=[990,991] } _
def cR:List ai:=[.cell 4 true 3]
def BN:FO du [3,3060000,1031990,2033000,2006006] cV cR 98:=fo
def ji:CC:=gq Tryz.f347 [3,3095000,2005005] { bx:=[0],kz:=[990,991] } _
def iL:List ai:=[.cell 4 true 3]
def At:FO jR [3,3095000,2005005] ji iL 98:=fo
def db:CC:=gq Tryz.f360 [4,3035000,3036000,2009009] { bx:=[0],kz:=[990,991] } _
def cW:List ai:=[.cell 6 true 3]
def xE:FO eT [4,3035000,3036000,2009009] db cW 39:=fo
def gE:CC:=gq Tryz.f307 [] { ke:=[0],kz:=[990,991] } _
def gi:List ai:=[.tmp 6]
def CN:FO mA [] gE gi 35:=fo
open Cod (enc dec)
variable {S S0:Nat->Spc}
@[simp] theorem qyU(t:Tbk):Tbk.mk t.lvs t.fi t.la t.fol t.nul=t:=i' rfl
abbrev UK:Spc:=ql3 (a2 U64 U64) Ws IC
def qeu(fr to:U64):∀(l:List U64) (i:Nat),(qev fr to i l).length=l.length
 | [],_=>rfl
 |f::l,i=>by rw[qev,qGB,qGB,qeu fr to l (i+1)]
def ZU{fr to f:U64} :∀{l:List U64} {i k:Nat},l[k]? =some f->qev fr to i (l.take k) ++ (if qg4 fr (i+k)=true then qnr f to else f)::l.drop (k+1)=qev fr to i (l.take (k+1)) ++l.drop (k+1)
 | [],i,k,h=>by simp at h
 | g::l,i,0,h=>by
   simp at h;subst h;simp[qev]
 | g::l,i,k+1,h=>by
   simp at h;have:=ZU (fr:=fr) (to:=to) (i:=i+1) h;rw[show i+1+k=i+ (k+1)by omega]at this;simp only[List.take_succ_cons,qev,qGN,List.drop_succ_cons];rw[this]
theorem qpZ:Ls lr kN S (a2 U64 U64) Ws IC:=by
 rintro b v v' ⟨lv,fi,la,fo,w⟩ ⟨fr,to⟩ r h;unfold IC at h;simp only at h;split at h
 ·rename_i hlen;cases h;have hl:(fo.length:Int)<=9223372036854775807:=by omega
  simp[lr,kN,yV,qO,qP,vK,hl,-fB',-eB'];refine ah (X:=List U64) [0,1,2] [] fo.length (λk x=>x=qev fr to 0 (fo.take k) ++fo.drop k) (λx=>[]) (λx=>[(0, .box b [.own 990 v, .v (.int .u64 fi.val), .v (.int .u64 la.val), .own 991 v', .v (.bool w)]),(990, .row v eW 1 (lv.map enc)),(991, .row v' fV 1 (x.map enc))]) fo (by simp[qev]) ?_ ?_
  ·rintro k x hk d;obtain⟨f,A⟩:∃f,fo[k]? =some f:=⟨_,qFQ hk⟩
   have a:(qev fr to 0 (fo.take k)).length=k:=by rw[qeu,qGd];omega
   have q:x.length=fo.length:=by rw[d,qGk,a,qGR];omega
   have j:x[k]? =some f:=by
    rw[d,qGq (by omega),a,qHv,qGQ];simpa using A
   have s:x.drop (k+1)=fo.drop (k+1):=by
    rw[d,List.drop_append,a,List.drop_drop,qHh (by rw[a];omega)];simp
   have t:x.take k=qev fr to 0 (fo.take k):=by
    rw[d,List.take_append,a,qHv,qHL,qGZ,qGt (by rw[a];omega)]
   have l:∀g,x.set k g=qev fr to 0 (fo.take k) ++g::fo.drop (k+1):=λg=>by
    rw[qHA,if_pos (by omega),t,s]
   have c:=ZU (fr:=fr) (to:=to) (i:=0) A;rw[qGA,<-l]at c;have u:k<x.length:=by omega
   obtain⟨_,p⟩:=qFN.1 j;simp[u,j,p,hk,q,-fB',-eB'];refine⟨λhb=>?_,λhb=>?_⟩
   ·rw[if_pos hb]at c;left;rw[<-List.map_drop,<-qHt,<-c,qH3];rfl
   ·rw[if_neg (by simp[hb])]at c;rw[show x.set k f=x from by rw[<-p];exact List.set_getElem_self _]at c;exact .inl c
  ·rintro x d;rw[qFX,qGC,qGZ]at d;subst d;simp[-fB',-eB'];exact qpz (er:=Ws) (y:=()) v v' ⟨lv,fi,la,qev fr to 0 fo,w⟩ (.same _) rfl rfl rfl rfl
 ·cases h
attribute [simp] qb6 qjc
@[simp] theorem qxa{Y Z:Type}(er:Y->D)(F:Tbk->Z->Option (Tbk×Y))(id b:Nat)(v v':Value)(f l:Int)(n:Bool)(lv:List (List Rng))(fo:List U64)(o:Option Z)(H:ab)(K:D->ab->Prop):
 Yt er F id b (some (.box b [.own 990 v, .v (.int .u64 f), .v (.int .u64 l), .own 991 v', .v (.bool n)])) (some (.row v eW 1 (lv.map enc))) (some (.row v' fV 1 (fo.map enc))) o H K=(id≠990/\id≠991/\gJ o λz=>gJ (F ⟨lv,⟨f⟩,⟨l⟩,fo,n⟩ z) λq=>∀w w',K (er q.2) (aj (aj (aj H 991 (some (.row w' fV 1 (q.1.fol.map enc)))) 990 (some (.row w eW 1 (q.1.lvs.map enc)))) id (some (.box b [.own 990 w, .v (.int .u64 q.1.fi.val), .v (.int .u64 q.1.la.val), .own 991 w', .v (.bool q.1.nul)])))):=qqb er F id b v v' f l n lv fo o H K
abbrev Nm:Spc:=ql3 (a2 Prt Prt) (enc (X:=Prt)) BA
def zj{b:Nat}{post:Tbk->Prt->Prop}{d:D}{H:ab}(v v':Value)(t:Tbk)(y:Prt)(a:d=enc y)(h0:H 0=some (.box b (vK v v' t)))(h1:H 990=some (qO v t.lvs))(h2:H 991=some (qP v' t.fol))(c:post t y):qbo enc b post d H:=
 qpz (er:=enc) (y:=y) v v' t (by rw[a];exact .same _) h0 h1 h2 c
def qhz(h1:S gT=UK):Ls jj iM S (a2 Prt Prt) (enc (X:=Prt)) BA:=by
 rintro b v v' ⟨lv,fi,la,fo,d⟩ ⟨⟨h,j,an⟩,⟨k,bl,c⟩⟩ r a;unfold BA at a;simp only at a;obtain⟨q,hl,rfl⟩:=qFW.1 a;cases an<;>cases c<;>simp[jj,iM,yV,qO,qP,vK,h1,hl,-fB',-eB'] <;>intro b1 w w'<;>exact zj w w' q.1 _ rfl rfl rfl rfl ⟨rfl,rfl⟩
def qju{set f:U64}{l:List U64}{k:Nat}(h:l[k]? =some f)(m:U64):qpo set k (l.drop k) m=qpo set (k+1) (l.drop (k+1)) (if qg4 set k=true then qnr m f else m):=by
 obtain⟨h1,h2⟩:=qFN.1 h;rw[qGz h1,h2,qpo]
end
end Go.Gv
