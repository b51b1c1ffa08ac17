/- W130 -/
import Derived.Test.YtfpmgnnippjblaaGreatDoorGa15
set_option linter.all false
set_option maxRecDepth 100000
set_option maxHeartbeats 0
open Bool renaming forall_bool → fB', exists_bool → eB'
namespace Go.Gv
section
open Cod (enc dec)
variable {S S0:Nat->Spc}
abbrev s_decR:Spc:=aA (a1 B) (λs=>∃c,s.data[0]? =some c/\c.toNat< 128) (lH (Y:=I32) (Z:=Int)) λs y=>∀c,s.data[0]? =some c->y=(⟨c.toNat⟩,1)
abbrev s_crune:Spc:=aA (a2 B I32) (λx=>0<=x.2.val/\x.2.val< 128) (enc (X:=Bool)) λx y=>y=qj8 x.1 x.2.val
def BR{p:Rp}{c:Int}(h:NQ p=some c):p.s.size<=200/\((p.pos=p.s.size/\c= -1)\/(0<=p.pos/\p.pos<p.s.size/\p.pos≠p.s.size/\∃x:UInt8,p.s.data[p.pos.toNat]? =some x/\x.toNat< 128/\c=x.toNat)):=by
 unfold NQ at h;split at h
 ·cases h
 rename_i j;refine⟨by omega,?_⟩;split at h
 ·exact .inl ⟨by assumption,(qBl h).symm⟩
 ·rename_i a;split at h
  ·rename_i h0;split at h
   ·rename_i x d;split at h
    ·rename_i b;have k:=(qBn.1 d).1;refine .inr ⟨h0,?_,a,x,d,b,(qBl h).symm⟩;show p.pos<(p.s.data.size:Int);omega
    ·cases h
   ·cases h
  ·cases h
def qzM{s:B}{k:Nat}{x:UInt8}(h:s.data[k]? =some x):(s.extract k s.size).data[0]? =some x:=by
 obtain⟨h1,h2⟩:=qBn.1 h;rw[ByteArray.data_extract,Array.getElem?_extract];have:0<min s.size s.data.size -k:=by
  have:s.size=s.data.size:=rfl;omega
 rw[if_pos this,qCC];exact h
abbrev uU:Spc:=qdZ a0 (enc (X:=I32)) kU
theorem Q5(h1:S de=s_decR):uK fT fH S a0 (enc (X:=I32)) (λs z=>∃r,kU s z=some r) (λs z d y=>kU s z=some (d,y)):=by
 rintro b s ⟨⟩ ⟨r,q⟩;obtain⟨c,hc,_⟩:=qBk.1 q;have wK:∀{H:ab},H 0=some (.box b (sa s))->Hx (enc (X:=I32)) b (λd y=>kU s ()=some (d,y)) (.v (.int .i32 c)) H:=λh0=>GP s ⟨c⟩ (.same _) h0 (by simp[kU,hc])
 obtain⟨t,j⟩:=BR hc;rcases j with⟨l,rfl⟩|⟨h0,h2,h3,x,u,k,rfl⟩
 ·simp[fT,fH,l,-fB',-eB'];exactλ_=>wK (by simp[l])
 ·have p:(s.s.data.extract s.pos.toNat s.s.size)[0]? =some x:=by rw[<-ByteArray.data_extract];exact qzM u
  simp[fT,fH,h1,h0,h2,h3,-fB',-eB'];refineλ_=>⟨by omega,⟨x,p,k⟩,λa b1 h=>?_⟩
  obtain⟨rfl,rfl⟩:=h x p;exact wK (by simp)
abbrev qaF:Spc:=qdZ a0 Tw PN
theorem Q4(h1:S de=s_decR):uK kg jE S a0 Tw (λs z=>∃r,PN s z=some r) (λs z d y=>PN s z=some (d,y)):=by
 rintro b s ⟨⟩ ⟨r,q⟩;obtain⟨c,hc,h⟩:=qBb.1 q;split at h
 ·rename_i j;have wK:∀{H:ab},H 0=some (.box b (sa s.bump))->Hx Tw b (λd y=>PN s ()=some (d,y)) (.tup []) H:=λh0=>GP s.bump () (.same _) h0 (by simp[PN,hc,j])
  obtain⟨t,k⟩:=BR hc;rcases k with⟨w,rfl⟩|⟨h0,h2,h3,x,u,l,rfl⟩
  ·omega
  ·have p:(s.s.data.extract s.pos.toNat s.s.size)[0]? =some x:=by rw[<-ByteArray.data_extract];exact qzM u
   simp[kg,jE,h1,h0,h2,h3,-fB',-eB'];refine⟨by omega,⟨x,p,l⟩,λa b1 h=>?_⟩;obtain⟨rfl,rfl⟩:=h x p;exact⟨by simp only[InR];omega,wK (by simp[Rp.bump])⟩
 ·cases h
abbrev qks:(I32×Bool)->D:=lH (Y:=I32) (Z:=Bool)
abbrev RP:Spc:=qdZ (a1 B) qks Da
def Fa(h1:S bu=uU)(h2:S lp=qaF):uK fw fp S (a1 B) qks (λs z=>∃r,Da s z=some r) (λs z a y=>Da s z=some (a,y)):=by
 rintro b s l ⟨r,d⟩;obtain⟨c,hc,h⟩:=qBb.1 d;split at h
 ·cases h
 ·rename_i hn;have j:0<=c:=by omega
  have k:c≠92:=λe=>hn (.inr e)
  simp[fw,fp,h1,h2,kU,PN,hc,j,k,-fB',-eB'];exact GP s.bump (⟨c⟩,true) (.same _) (by simp) (by simp[Da,hc,hn])
abbrev qeU:Spc:=qdZ a0 qks Wz
theorem Lu(h1:S bu=uU)(h2:S io=s_crune)(h3:S dR=RP):uK iw hU S a0 qks (λs z=>∃r,Wz s z=some r) (λs z d y=>Wz s z=some (d,y)):=by
 rintro b s ⟨⟩ ⟨r,k⟩;obtain⟨c,hc,h⟩:=qBb.1 k;split at h
 ·cases h
 ·rename_i hn;have l:¬c< 0:=λe=>hn (.inl e)
  have p:qj8 qbU c=false:=by
   cases e:qj8 qbU c with
   |false=>rfl
   |true=>exact absurd (.inr e) hn
  have j:=BR hc;have a:c< 128:=by
   rcases j.2 with⟨_,rfl⟩|⟨_,_,_,x,_,q,rfl⟩ <;>omega
  have t:qj8 ⟨#[92,91,93,94,45]⟩ c=false:=p;have h4:Da s ⟨#[92,91,93,94,45]⟩=some r:=h;simp[iw,hU,h1,h2,h3,kU,hc,l,t,h4,a,-fB',-eB'];obtain⟨d,⟨c'⟩,t'⟩:=r;intro u;refine⟨λ_=>⟨u,GP d (⟨c'⟩,t') (.same _) (by simp) (by simp[Wz,hc,hn,h])⟩,λ_=>GP d (⟨c'⟩,t') (.same _) (by simp) (by simp[Wz,hc,hn,h])⟩
def Tk{H:ab}{op mn mx:Int}{b d:D}(rs:List Rng)(ks:List Rx)(h3:FrzTo H b (enc rs))(h4:FrzTo H d (enc ks)):FrzTo H (.agg [.v (.int .i64 op), .v (.int .i64 mn), .v (.int .i64 mx),b,d]) (enc (Rx.mk op mn mx rs ks)):=by
 rw[qg2];refine .agg rfl λk c c' hc a=>?_
 match k with
 | 0=>cases hc;cases a;exact .same _
 | 1=>cases hc;cases a;exact .same _
 | 2=>cases hc;cases a;exact .same _
 | 3=>cases hc;cases a;exact h3
 | 4=>cases hc;cases a;exact h4
 |k+5=>simp at hc
abbrev qeT:Spc:=aA (a2 I32 I32) (λ_=>True) (enc (X:=Rx)) λx y=>y=qeO x.1.val x.2.val
def Uo:aq yY ya S (a2 I32 I32) (λ_=>True) (enc (X:=Rx)) λx y=>y=qeO x.1.val x.2.val:=by
 rintro⟨x,y⟩ -;simp[yY,ya,qeO];exactλb=>br (Y:=Rx) ⟨1,0,0, [⟨x,y⟩], []⟩ (Tk [⟨x,y⟩] [] (.same _) (.nil _)) rfl
abbrev EG:(Rx×Bool)->D:=lH (Y:=Rx) (Z:=Bool)
abbrev qeV:Spc:=qdZ a0 EG qkH
abbrev qaG:Spc:=qdZ a0 EG qb1
def qrm{b:Nat}{post:Rp->(Rx×Bool)->Prop}{x:Rx}{v:Bool}{H:ab}(s:Rp)(h0:H 0=some (.box b (sa s)))(a:post s (x,v)):Hx EG b post (.tup [enc x, .v (.bool v)]) H:=GP s (x,v) (.same _) h0 a
def Ep{b:Nat}{post:Rp->(Rx×Bool)->Prop}{x:Rx}{v:Bool}{H:ab}(s:Rp)(h0:H 0=some (.box b (sa s)))(a:post s (x,v)):Hx EG b post (.tup [.agg [.v (.int .i64 x.op), .v (.int .i64 x.mn), .v (.int .i64 x.mx), .list 2 (x.rs.map enc), .list 5 (x.kids.map enc)], .v (.bool v)]) H:=by
 have e:(D.agg [.v (.int .i64 x.op), .v (.int .i64 x.mn), .v (.int .i64 x.mx), .list 2 (x.rs.map enc), .list 5 (x.kids.map enc)])=enc x:=by simp
 rw[e];exact qrm s h0 a
set_option maxHeartbeats 1000000 in
theorem Q6(h1:S bu=uU)(h2:S Bh=qeT)(h3:S jT=qeV)(h4:S io=s_crune)(h5:S dR=RP):uK ep dZ S a0 EG (λs z=>∃r,qb1 s z=some r) (λs z s' y=>qb1 s z=some (s',y)):=by
 rintro b s ⟨⟩ ⟨r,hr⟩;have hr0:=hr;obtain⟨c,hc,h⟩:=qBb.1 hr;have hsz:=BR hc;have h128:c< 128:=by
  rcases hsz.2 with⟨_,rfl⟩|⟨_,_,_,x,_,hlt,rfl⟩ <;>omega
 split at h
 ·cases h
 rename_i e40;split at h
 ·rename_i e46;subst e46;have hp:InR .i64 (s.pos+1):=by
   rcases hsz.2 with⟨_,e⟩|⟨_,_,_,x,_,hlt,e⟩
   ·cases e
   ·simp only[InR];omega
  cases h;simp[ep,dZ,h1,h2,kU,hc,hp,-fB',-eB'];exactλ_=>Ep s.bump (by simp[Rp.bump]) hr0
 rename_i e46;split at h
 ·rename_i e91;subst e91;obtain⟨s',x',t'⟩:=r;simp[ep,dZ,h1,h3,kU,hc,h,-fB',-eB'];exactλ_=>Ep s' (by simp) hr0
 rename_i e91;split at h
 ·cases h
 ·rename_i hn;obtain⟨q,hq,rfl⟩:=qBk.1 h;obtain⟨s',⟨c'⟩,t'⟩:=q;have hq':=hq;obtain⟨c2,hc2,h'⟩:=qBb.1 hq';rw[hc]at hc2;obtain rfl:=qBl hc2;split at h'
  ·cases h'
  rename_i hn2;have n0:0<=c:=by omega
  have n92:c≠92:=λe=>hn2 (.inr e)
  have nin:qj8 ⟨#[92,46,91,93,40,41,123,125,124,42,43,63]⟩ c=false:=by
   cases e:qj8 ⟨#[92,46,91,93,40,41,123,125,124,42,43,63]⟩ c with
   |false=>rfl
   |true=>exact absurd ⟨n92,e⟩ hn
  have hq2:Da s ⟨#[92,46,91,93,40,41,123,125,124,42,43,63]⟩=some (s',⟨c'⟩,t'):=hq;simp[ep,dZ,h1,h2,h4,h5,kU,hc,e40,e46,e91,n0,n92,h128,nin,hq2,-fB',-eB'];exactλ_=>Ep s' (by simp) hr0
abbrev qeS:Spc:=qdZ a0 EG qfw
def qbW{p:Rp}{c:Int}(h:NQ p=some c):c< 128/\ -1<=c/\(0<=c->InR .i64 (p.pos+1)):=by
 obtain⟨h1,h2⟩:=BR h;rcases h2 with⟨_,rfl⟩|⟨_,_,_,x,_,a,rfl⟩
 ·exact⟨by omega,by omega,λh=>absurd h (by omega)⟩
 ·exact⟨by omega,by omega,λ_=>by simp only[InR];omega⟩
def qcM{c:Int}{m:Int×Int}(h:OT c=some m):c=42/\m=(0, -1)\/c=43/\m=(1, -1)\/c=63/\m=(0,1):=by
 unfold OT at h;split at h
 ·exact .inl ⟨by assumption,(qBl h).symm⟩
 split at h
 ·exact .inr (.inl ⟨by assumption,(qBl h).symm⟩)
 split at h
 ·exact .inr (.inr ⟨by assumption,(qBl h).symm⟩)
 cases h
def P8{c:Int}(h:OT c=none):c≠42/\c≠43/\c≠63:=by
 unfold OT at h;refine⟨λe=>?_,λe=>?_,λe=>?_⟩ <;>(subst e;simp at h)
def xZ(o:Option (Int×Int))(x:Rx):List D:=match o with
 |none=>[.v (.int .i64 x.op), .v (.int .i64 x.mn), .v (.int .i64 x.mx), .list 2 (x.rs.map enc), .list 5 (x.kids.map enc)]
 |some m=>[.v (.int .i64 4), .v (.int .i64 m.1), .v (.int .i64 m.2), .v (.slice none 0 0), .list 5 [enc x]]
def qrl{b:Nat}{post:Rp->(Rx×Bool)->Prop}{m:Int×Int}{e:Rx}{H:ab}(s:Rp)(h0:H 0=some (.box b (sa s)))(d:post s (⟨4,m.1,m.2, [], [e]⟩,true)):Hx EG b post (.tup [.agg (xZ (some m) e), .v (.bool true)]) H:=by
 refine GP s (⟨4,m.1,m.2, [], [e]⟩,true) (.tup rfl λk c c' hc a=>?_) h0 d
 match k with
 | 0=>cases hc;cases a;exact Tk [] [e] (.nil _) (.same _)
 | 1=>cases hc;cases a;exact .same _
 |k+2=>simp at hc
set_option maxHeartbeats 2000000 in
theorem Ls(h1:S bu=uU)(h2:S lq=qaG):uK iv gZ S a0 EG (λs z=>∃r,qfw s z=some r) (λs z s' y=>qfw s z=some (s',y)):=by
 rintro b s ⟨⟩ ⟨r,hr⟩;have hr0:=hr;obtain⟨⟨s1,e,ok⟩,ha,h⟩:=qBb.1 hr;simp only at h;split at h
 rotate_left
 ·cases h
 rename_i hok;subst hok;obtain⟨c,hc,h⟩:=qBb.1 h;split at h
 ·cases h
 rename_i e123;have hcc:=qbW hc;simp[iv,gZ,h2,ha,-fB',-eB'];intro b2 b4;refine aF (X:=Option (Int×Int)) [0,2,4,5] [2] (λo=>∀m,o=some m->OT c=some m) (λ_=>[]) (λo=>[(0, .box b (sa (match o with|none=>s1|some _=>s1.bump))),(4, .box b4 (xZ o e))]) (λo=>match o with|none=>1|some _=>0) none (λm h=>by cases h) ?_ (hh:=by simp[xZ]);rintro(_|m) hP
 ·cases hm:OT c with
  | none=>
    rw[hm]at h;cases h;obtain⟨n1,n2,n3⟩:=P8 hm;simp[xZ,h1,kU,hc,n1,n2,n3,e123,-fB',-eB'];exact Ep s1 (by simp) hr0
  | some m=>
    rcases qcM hm with⟨rfl,rfl⟩|⟨rfl,rfl⟩|⟨rfl,rfl⟩
    all_goals
     have hin:=hcc.2.2 (by omega);simp[xZ,h1,kU,hc,hin,-fB',-eB']
     first
      |exact⟨some (0, -1),by simp,⟨.inl ⟨rfl,rfl,rfl,rfl⟩, .inl rfl⟩,rfl⟩
      |exact⟨some (1, -1),by simp,⟨.inl ⟨rfl,rfl,rfl,rfl⟩, .inl rfl⟩,rfl⟩
      |exact⟨some (0,1),by simp,⟨.inl ⟨rfl,rfl,rfl,rfl⟩, .inl rfl⟩,rfl⟩
 ·have hm:=hP m rfl;rw[hm]at h;simp only at h;obtain⟨d,hd,h⟩:=qBb.1 h;split at h
  ·cases h
  rename_i hn;cases h;have hd':d≠123/\OT d=none:=⟨λe=>hn (.inl e),by
   cases q:OT d with
   |none=>rfl
   |some q'=>exact absurd (.inr (by rw[q];rfl)) hn⟩
  obtain⟨n1,n2,n3⟩:=P8 hd'.2;have n4:=hd'.1;simp[xZ,h1,kU,hd,n1,n2,n3,n4,-fB',-eB'];simpa [xZ,-fB',-eB']using qrl (e:=e) (m:=m) s1.bump (by simp) hr0
def qmH{p:Rp}{q:Rp× (Rx×Bool)}(h:qfw p ()=some q):q.2.2=true:=by
 obtain⟨a,_,h⟩:=qBb.1 h;split at h
 ·obtain⟨c,_,h⟩:=qBb.1 h;split at h
  ·cases h
  ·split at h
   ·obtain⟨d,_,h⟩:=qBb.1 h;split at h
    ·cases h
    ·cases h;rfl
   ·cases h;rfl
 ·cases h
def Wj{op:Int}{l:List Rx}(h:l.length≠1):Zs op l=⟨op,0,0, [],l⟩:=by
 match l,h with
 | [],_=>rfl
 | [e],h=>exact absurd rfl h
 | _::_::_,_=>rfl
theorem qgO{b:Nat}{post:Rp->(Rx×Bool)->Prop}{op:Int}{l:List Rx}{id el:Nat}{v:Value}{H:ab}(s:Rp)(h0:H 0=some (.box b (sa s)))(hi:id≠0)(h1:H id=some (.row v el 5 (l.map enc)))(h:post s (⟨op,0,0, [],l⟩,true)):
 Hx EG b post (.tup [.agg [.v (.int .i64 op), .v (.int .i64 0), .v (.int .i64 0), .v (.slice none 0 0), .own id v], .v (.bool true)]) H:=by
 refine GP s (⟨op,0,0, [],l⟩,true) (.tup rfl λk c c' hc a=>?_) h0 h
 match k with
 | 0=>
   cases hc;cases a;refine Tk [] l (.nil _) (.row (el:=el) (by simp[hi];exact h1) rfl (λd j=>?_) (λk c c' hc a=>?_))
   ·obtain⟨x,_,rfl⟩:=qBr.1 j;exact⟨Cod.kn x,Cod.wid x⟩
   ·rw[hc]at a;cases a;exact .same _
 | 1=>cases hc;cases a;exact .same _
 |k+2=>simp at hc
abbrev qeW:Spc:=qdZ a0 EG qhD
set_option maxHeartbeats 2000000 in
theorem Lv(h1:S bu=uU)(h2:S iZ=qeS):uK ix hZ S a0 EG (λs z=>∃r,qhD s z=some r) (λs z s' y=>qhD s z=some (s',y)):=by
 rintro b s ⟨⟩ ⟨r,hr⟩;have hr0:=hr;obtain⟨⟨s',l'⟩,hl,hr⟩:=qBk.1 hr;simp only at hr;subst hr;obtain⟨c0,hc0⟩:∃c,NQ s=some c:=by
  rw[XL]at hl;obtain⟨c,hc,_⟩:=qBb.1 hl;exact⟨c,hc⟩
 simp[ix,hZ,h1,kU,hc0,-fB',-eB'];intro b2;refine aF (X:=Nat×Rp×Value×List Rx×Int) [0,2] [2] (λz=>XL z.1 z.2.1 z.2.2.2.1=some (s',l')/\z.2.2.2.1.length+z.1<=100/\NQ z.2.1=some z.2.2.2.2) (λz=>[(4, .own 36 z.2.2.1),(5, .v (.int .i32 z.2.2.2.2))]) (λz=>[(0, .box b (sa z.2.1)),(36, .row z.2.2.1 AG 5 (z.2.2.2.1.map enc))]) (λz=>z.1) (100,s, .slice none 0 0, [],c0) ⟨hl,by simp,hc0⟩ ?_ (hh:=by simp[isNilRow]);clear hl;rintro⟨k,p,v,l,c⟩ ⟨hk,hlen,hc⟩;simp only at hk hlen hc;obtain _|k:=k
 ·rw[XL]at hk;cases hk
 rw[XL,hc]at hk;simp only[qBz]at hk;split at hk
 ·rename_i hend;cases hk;have hlt:(l'.length:Int)<=9223372036854775807:=by omega
  by_cases hl1:l'.length=1
  ·obtain⟨e,rfl⟩:∃e,l'=[e]:=qCk.1 hl1;rcases hend with h|rfl|rfl
   ·have h':¬0<=c:=by omega
    simp[h',-fB',-eB'];exact Ep s' (by simp) hr0
   all_goals
    simp[-fB',-eB'];exact Ep s' (by simp) hr0
  ·rw[Wj hl1]at hr0;have hl1':¬(l'.length:Int)=1:=by omega
   rcases hend with h|rfl|rfl
   ·have h':¬0<=c:=by omega
    simp[h',hl1,hl1',hlt,-fB',-eB'];exact qgO (el:=AG) s' (by simp) (by decide) (by simp) hr0
   all_goals
    simp[hl1,hl1',hlt,-fB',-eB'];exact qgO (el:=AG) s' (by simp) (by decide) (by simp) hr0
 ·rename_i hgo;obtain⟨q,hq,hk⟩:=qBb.1 hk;split at hk
  ·cases hk
  rename_i hop;have hok:=qmH hq;obtain⟨p',e,ok⟩:=q;simp only at hk hok hop;subst hok;have n1:0<=c:=by omega
  have n2:c≠124:=by omega
  have n3:c≠41:=by omega
  obtain⟨c1,hc1⟩:∃c,NQ p'=some c:=by
   obtain _|k:=k
   ·rw[XL]at hk;cases hk
   rw[XL]at hk;obtain⟨c,hc,_⟩:=qBb.1 hk;exact⟨c,hc⟩
  simp[h1,h2,kU,hc1,hq,n1,n2,n3,hop,-fB',-eB'];exact⟨by omega,by omega,λv=>⟨k,p',v,l++ [e],c1,⟨hk,by simp;omega,hc1⟩,⟨⟨rfl,rfl⟩, .inl ⟨rfl,rfl,rfl,rfl⟩, .inl ⟨rfl,by simp⟩⟩,by omega⟩⟩
def qn4{p:Rp}{q:Rp× (Rx×Bool)}(h:qhD p ()=some q):q.2.2=true:=by
 obtain⟨a,_,rfl⟩:=qBk.1 h;rfl
abbrev qeR:Spc:=qdZ a0 EG qi2
set_option maxHeartbeats 2000000 in
theorem Oj(h1:S bu=uU)(h2:S jc=qeW):uK jg iT S a0 EG (λs z=>∃r,qi2 s z=some r) (λs z s' y=>qi2 s z=some (s',y)):=by
 rintro b s ⟨⟩ ⟨r,hr⟩;have hr0:=hr;obtain⟨⟨s',l'⟩,hl,hr⟩:=qBk.1 hr;simp only at hr;subst hr;simp[jg,iT,-fB',-eB'];intro b2;refine aF (X:=Nat×Rp×Value×List Rx) [0,2] [2] (λz=>qer z.1 z.2.1 z.2.2.2=some (s',l')/\z.2.2.2.length+z.1<=100) (λz=>[(4, .own 25 z.2.2.1)]) (λz=>[(0, .box b (sa z.2.1)),(25, .row z.2.2.1 AG 5 (z.2.2.2.map enc))]) (λz=>z.1) (100,s, .slice none 0 0, []) ⟨hl,by simp⟩ ?_ (hh:=by simp[isNilRow]);clear hl;rintro⟨k,p,v,l⟩ ⟨hk,hlen⟩;simp only at hk hlen;obtain _|k:=k
 ·rw[qer]at hk;cases hk
 rw[qer]at hk;obtain⟨⟨p',e,ok⟩,hq,hk2⟩:=qBb.1 hk;clear hk;obtain⟨c,hc,hk3⟩:=qBb.1 hk2;clear hk2;have hok:=qn4 hq;simp only at hok hc hk3;subst hok;have hop:¬e.op=3:=λh=>by rw[if_pos h]at hk3;cases hk3
 rw[if_neg hop]at hk3;have hcc:=qbW hc;by_cases hc124:c=124
 ·rw[if_pos hc124]at hk3;have hk:=hk3;subst hc124;have hin:=hcc.2.2 (by omega);simp[h1,h2,kU,hc,hq,hop,hin,-fB',-eB'];exact⟨by omega,by omega,λv=>⟨k,p'.bump,v,l++ [e],⟨hk,by simp;omega⟩,⟨rfl, .inl ⟨rfl,rfl,rfl,rfl⟩, .inl ⟨rfl,by simp⟩⟩,by omega⟩⟩
 ·rw[if_neg hc124]at hk3;cases hk3;have hlt:((l++ [e]).length:Int)<=9223372036854775807:=by simp;omega
  have hcc':¬c=124:=hc124;cases l with
  | nil=>
    simp[h1,h2,kU,hc,hq,hop,hcc',-fB',-eB'];exactλv=>Ep s' (by simp) hr0
  | cons x l=>
    simp[h1,h2,kU,hc,hq,hop,hcc',-fB',-eB'];have hr1:=hr0;rw[Wj (by simp)]at hr1;exact⟨by simp at hlen;omega,by simp at hlen;omega,λv _=>⟨λh=>absurd h (by omega),λ_=>qgO (el:=AG) (l:=x::l++ [e]) s' (by simp) (by decide) (by simp) hr1⟩⟩
end
section
open Go.Proofs
def ge:CC:=gq Tryz.f367 [] {} _
def fW:List ai:=[]
def vS:FO eu [] ge fW 14:=fo
def dK:CC:=gq Tryz.f372 [] {} _
def dD:List ai:=[]
def pM:FO ea [] dK dD 148:=fo
def cB:CC:=gq Tryz.f374 [] {} _
def cx:List ai:=[]
def ll:FO cN [] cB cx 53:=fo
def qm:CC:=gq Tryz.f168 [] {} _
def pD:List ai:=[.tmp 2]
def Iw:FO rV [] qm pD 8:=fo
def mB:CC:=gq Tryz.f233 [] {} _
def mg:List ai:=[.tmp 2]
def D3:FO nX [] mB mg 25:=fo
def lE:CC:=gq Tryz.f369 [] {} _
def li:List ai:=[.tmp 4]
def CE:FO mw [] lE li 20:=fo
def pg:CC:=gq Tryz.f373 [] {} _
def nC:List ai:=[.tmp 2]
def Gq:FO qc [] pg nC 6:=fo
def ou:CC:=gq Tryz.f368 [2,3] {} _
def na:List ai:=[.tmp 4]
def F8:FO da [2,3] ou na 10:=fo
def sd:CC:=gq Tryz.f362 [2044048] { bx:=[0] } _
def rF:List ai:=[.tmp 2]
def Kx:FO tP [2044048] sd rF 51:=fo
open Cod (enc dec)
variable {S S0:Nat->Spc}
abbrev qe5:Spc:=aA (a1 I32) (λ_=>True) (enc (X:=Bool)) λ_ y=>y=false
def HX:aq pg nC S (a1 I32) (λ_=>True) (enc (X:=Bool)) λ_ y=>y=false:=by
 rintro x -;simp[pg,nC,-fB']
def Z4(a b:Int):Int:=if a<b then -1 else if b<a then 1 else 0
abbrev qfe:Spc:=aA (a2 I32 I32) (λ_=>True) (enc (X:=Int)) λx y=>y=Z4 x.1.val x.2.val
def DD(h1:S qc=qe5):aq lE li S (a2 I32 I32) (λ_=>True) (enc (X:=Int)) λx y=>y=Z4 x.1.val x.2.val:=by
 rintro⟨⟨x⟩,⟨y⟩⟩ -;simp[lE,li,h1,-fB',-eB'];grind [Spc,Z4]
abbrev qe6:Spc:=aA (a2 Rng Rng) (λ_=>True) (enc (X:=Int)) λx y=>y=Z4 x.1.fr.val x.2.fr.val
def HI(h1:S mw=qfe):aq ou na S (a2 Rng Rng) (λ_=>True) (enc (X:=Int)) λx y=>y=Z4 x.1.fr.val x.2.fr.val:=by
 rintro⟨x,y⟩ -;simp[ou,na,h1,-fB',-eB']
abbrev qa0:Spc:=aA (a1 U64) (λx=>0<=x.val/\x.val<=200) (enc (X:=Int)) λ_ _=>True
def qid(x:List Rng×Int×Int×D×Unit):Prop:=H9 x.1=true/\x.2.1=0/\x.2.2.1=x.1.length/\x.2.2.2.1= .clo da []
abbrev qe7:Spc:=aA (aE (List Rng) (aE Int (aE Int (aD a0)))) qid Tw λ_ _=>True
def FJ{l:List Rng}(h:H9 l=true):1<=l.length/\l.length<=2:=by
 match l,h with
 | [x],_=>simp
 | [x,y],_=>simp
def Vk:∀{l:List Rng},H9 l=true->1<l.length->∃x y,l=[x,y]
 | [x,y],_,_=>⟨x,y,rfl⟩
 | [x],_,h=>by grind
def qeB:∀{l:List Rng} {x:Rng},l[0]? =some x->(l.take 1).foldl sP []=[x]
 |y::l,x,h=>by cases h;rfl
theorem Oi(h1:S da=qe6):aq cB cx S (aE (List Rng) (aE Int (aE Int (aD a0)))) qid Tw λ_ _=>True:=by
 rintro⟨l,a,b,d,⟨⟩⟩ ⟨hs,j,hb,k⟩;simp only at hs j hb k;subst j;subst hb;subst k;simp[cB,cx,-fB',-eB'];have c:=FJ hs;refine⟨by grind [Spc,InR],?_⟩;refine aF (X:=Nat) [0,1,2,3] [] (λi=>1<=i/\i<=l.length) (λi=>[(8,enc (i:Int))]) (λ_=>[]) (λi=>l.length -i) 1 ⟨qBj 1,c.1⟩ ?_;rintro i ⟨p,q⟩;by_cases h:i<l.length
 ·obtain rfl:i=1:=by omega
  obtain⟨x,y,rfl⟩:=Vk hs h;simp[-fB',-eB'];refine aF (X:=Unit) [0,1,2,3,8] [] (λ_=>True) (λ_=>[(9,enc (1:Int))]) (λ_=>[]) (λ_=>0) () trivial ?_;rintro - -;have hc:¬Z4 y.fr.val x.fr.val< 0:=by
   simp[H9]at hs;unfold Z4;omega
  simp[h1,hc,-fB',-eB'];exact⟨by grind [Spc,InR],λ_=>⟨by grind [Spc,InR],2,⟨by omega,by omega⟩,rfl,rfl⟩⟩
 ·obtain rfl:i=l.length:=by omega
  simp[-fB',-eB'];exact br (Y:=Unit) () (.same _) trivial
abbrev qe4:Spc:=aA (aE (List Rng) (aE Int (aE Int (aE Int (aD a0))))) (λx=>qid (x.1,x.2.1,x.2.2.1,x.2.2.2.2)) Tw λ_ _=>True
def Oh(h1:S cN=qe7):aq dK dD S (aE (List Rng) (aE Int (aE Int (aE Int (aD a0))))) (λx=>qid (x.1,x.2.1,x.2.2.1,x.2.2.2.2)) Tw λ_ _=>True:=by
 rintro⟨l,a,b,q,d,⟨⟩⟩ hp;have c:=hp;obtain⟨hs,k,hb,p⟩:=hp;simp only at hs k hb p c;subst k;subst hb;subst p;have r:=FJ hs;simp[dK,dD,-fB',-eB'];refine aF (X:=Unit) [0,1,2,3,4,10,11] [] (λ_=>True) (λ_=>[]) (λ_=>[]) (λ_=>0) () trivial ?_;rintro - -;have h:(l.length:Int)<=12:=by omega
 have j:InR .i64 (l.length:Int):=by grind [Spc,InR]
 simp[h1,h,j,c,-fB',-eB'];exact br (Y:=Unit) () (.same _) trivial
abbrev qjh:Spc:=aA (aE (List Rng) (aD a0)) (λx=>H9 x.1=true/\x.2.1= .clo da []) Tw λ_ _=>True
def wP(h1:S rV=qa0)(h2:S ea=qe4):aq ge fW S (aE (List Rng) (aD a0)) (λx=>H9 x.1=true/\x.2.1= .clo da []) Tw λ_ _=>True:=by
 rintro⟨l,d,⟨⟩⟩ ⟨hs,b⟩;simp only at hs b;subst b;have c:=FJ hs;have hp:qid (l,0,(l.length:Int), .clo da [],()):=⟨hs,rfl,rfl,rfl⟩
 have h:IntKind.u64.wrap (l.length:Int)=l.length:=by grind [IntKind.wrap_u64]
 have a:(l.length:Int)<=200:=by omega
 simp[ge,fW,h1,h2,hp,h,a,-fB',-eB'];exactλ_=>br (Y:=Unit) () (.same _) trivial
abbrev VU:Spc:=aA (a1 U64) (λx=>0<=x.val/\x.val<=200) (enc (X:=Int)) λ_ _=>True
def YK(h1:S nX=VU):aq qm pD S (a1 U64) (λx=>0<=x.val/\x.val<=200) (enc (X:=Int)) λ_ _=>True:=by
 rintro⟨x⟩ ⟨h0,h2⟩;simp_all [qm,pD]
def Rv:aq mB mg S (a1 U64) (λx=>0<=x.val/\x.val<=200) (enc (X:=Int)) λ_ _=>True:=by
 rintro⟨x⟩ ⟨h0,h2⟩;simp only at h0 h2;have c1:¬4294967296<=x:=by omega
 have c2:¬65536<=x:=by omega
 have c3:¬256<=x:=by omega
 have a:IntKind.u8.wrap x=x:=by grind [IntKind.wrap_u8]
 simp[mB,mg,c1,c2,c3,a,h0,-fB',-eB'];refine⟨Int.lt_of_le_of_lt h2 (by decide),λc _=>?_⟩;have:=c.toNat_lt;have b:IntKind.i64.wrap (c.toNat:Int)=c.toNat:=by grind [IntKind.wrap_i64]
 grind [InR]
abbrev qb0:Spc:=qvj (Y:=Rng) (aD a0) (λx=>H9 x.1=true/\x.2.1= .clo da []) Tw (λ_ _=>True) xa 2
abbrev VE:Spc:=qqB (Y:=Rng) a0 (λ_ l=>H9 l=true) (λ_ l r=>r=Gu l) xa 2
set_option maxHeartbeats 1000000 in
theorem Lt(h1:S eu=qb0):TU (Y:=Rng) sd rF S a0 (λ_ l=>H9 l=true) (λ_ l r=>r=Gu l) xa 2:=by
 rintro v l ⟨⟩ hs;have hs:H9 l=true:=hs;have hl2:=FJ hs;simp[sd,rF,h1,hs,-fB',-eB'];intro _;refine ah (X:=Value×List Rng) [9] [0] l.length (λk x=>x.2=(l.take k).foldl sP []) (λx=>[(3, .own 48 x.1)]) (λx=>[(48, .row x.1 xa 2 (x.2.map enc))]) (.slice none 0 0, []) rfl ?_ ?_ (hh:=by simp[isNilRow])
 ·rintro k ⟨v',out⟩ hk hP;simp only at hP;have hk2:k=0\/k=1:=by omega
  rcases hk2 with rfl|rfl
  ·obtain⟨x,hx⟩:∃x,l[0]? =some x:=⟨_,qBe hk⟩
   obtain⟨_,hgx⟩:=qBc.1 hx;have ho:out=[]:=by rw[hP];rfl
   subst ho;have h1:=qeB hx;simp[hk,hx,hgx,h1,-fB',-eB']
  ·obtain⟨x,y,rfl⟩:=Vk hs hk;have ho:out=[x]:=by rw[hP];rfl
   subst ho;simp[H9]at hs;by_cases hle:y.fr.val<=x.to.val+1
   ·have hst:sP (sP [] x) y=[⟨x.fr,⟨max x.to.val y.to.val⟩⟩]:=by simp[sP,hle]
    have hr:InR .i32 (x.to.val+1):=by simp only[InR];omega
    simp[hle,hst,hr,-fB',-eB'];simp only[InR];omega
   ·have hst:sP (sP [] x) y=[x,y]:=by simp[sP,hle]
    have hr:InR .i32 (x.to.val+1):=by simp only[InR];omega
    simp[hle,hst,hr,-fB',-eB'];simp only[InR];omega
 ·rintro⟨v',out⟩ hP;simp only at hP;rw[qBm]at hP;subst hP;simp[-fB',-eB'];exact du (Gu l) (by simp[Gu]) rfl
def qhA{p:Rp}{a:B}{q:Rp× (I32×Bool)}{c:Int}(hc:NQ p=some c)(h:Da p a=some q):q=(p.bump,⟨c⟩,true):=by
 unfold Da at h;rw[hc,qBz]at h;split at h
 ·cases h
 ·exact(qBl h).symm
def qjR{p:Rp}{q:Rp× (I32×Bool)}{c:Int}(hc:NQ p=some c)(h:Wz p ()=some q):q=(p.bump,⟨c⟩,true):=by
 unfold Wz at h;rw[hc,qBz]at h;split at h
 ·cases h
 ·exact qhA hc h
theorem qrk{b:Nat}{post:Rp->(Rx×Bool)->Prop}{l:List Rng}{id el:Nat}{v:Value}{H:ab}(s:Rp)(h0:H 0=some (.box b (sa s)))(hi:id≠0)(h1:H id=some (.row v el 2 (l.map enc)))(h:post s (⟨1,0,0,l, []⟩,true)):
 Hx EG b post (.tup [.agg [.v (.int .i64 1), .v (.int .i64 0), .v (.int .i64 0), .own id v, .v (.slice none 0 0)], .v (.bool true)]) H:=by
 refine GP s (⟨1,0,0,l, []⟩,true) (.tup rfl λk c c' hc a=>?_) h0 h
 match k with
 | 0=>
   cases hc;cases a;refine Tk l [] (.row (el:=el) (by simp[hi];exact h1) rfl (λd j=>?_) (λk c c' hc a=>?_)) (.nil _)
   ·obtain⟨x,_,rfl⟩:=qBr.1 j;exact⟨Cod.kn x,Cod.wid x⟩
   ·rw[hc]at a;cases a;exact .same _
 | 1=>cases hc;cases a;exact .same _
 |k+2=>simp at hc
set_option maxHeartbeats 2000000 in
theorem Om(h1:S bu=uU)(h2:S ja=qeU)(h3:S tP=VE):uK jh iU S a0 EG (λs z=>∃r,qkH s z=some r) (λs z s' y=>qkH s z=some (s',y)):=by
 rintro b s ⟨⟩ ⟨r,hr⟩;have hr0:=hr;obtain⟨a0,ha0,h⟩:=qBb.1 hr;have e91:¬a0≠91:=λe=>by rw[if_pos e]at h;cases h
 rw[if_neg e91]at h;have hin:=(qbW ha0).2.2 (by omega);obtain⟨c0,hc0,h⟩:=qBb.1 h;have n94:¬c0=94:=λe=>by rw[if_pos e]at h;cases h
 rw[if_neg n94]at h;obtain⟨⟨s',l'⟩,hl,h⟩:=qBb.1 h;simp only at h;have hsrt:H9 l'=true:=by
  split at h
  ·assumption
  ·cases h
 rw[if_pos hsrt]at h;cases h;have hc1:NQ ⟨s.s,s.pos+1,s.fault,s.e⟩=some c0:=hc0;simp[jh,iU,h1,kU,hin,hc1,n94,-fB',-eB'];intro b2;refine aF (X:=Nat×Rp×Value×List Rng) [0,2,4,5] [2] (λz=>qhy z.1 z.2.1 z.2.2.2=some (s',l')/\z.2.2.2.length+z.1<=100) (λz=>[(6, .own 86 z.2.2.1)]) (λz=>[(0, .box b (sa z.2.1)),(86, .row z.2.2.1 xa 2 (z.2.2.2.map enc))]) (λz=>z.1) (100,s.bump, .slice none 0 0, []) ⟨hl,by simp⟩ ?_ (hh:=by simp[isNilRow,Rp.bump]);clear hl;rintro⟨k,p,v,l⟩ ⟨hk,hlen⟩;simp only at hk hlen;obtain _|k:=k
 ·rw[qhy]at hk;cases hk
 rw[qhy]at hk;obtain⟨c,hc,hk2⟩:=qBb.1 hk;clear hk;have hlt:(l.length:Int)<=9223372036854775807:=by omega
 by_cases hend:l≠ []/\c=93
 ·rw[if_pos hend]at hk2;cases hk2;obtain⟨hne,rfl⟩:=hend;have hin2:=(qbW hc).2.2 (by omega);have hl0:¬l'.length=0:=λe=>hne (qBY.1 e)
  simp(config:={ maxSteps:=2000000 }) [h1,h3,kU,hc,hlt,hne,hl0,hin2,hsrt,-fB',-eB'];exactλv'=>qrk (el:=xa) s'.bump (by simp[Rp.bump]) (by decide) (by simp) hr0
 ·rw[if_neg hend]at hk2;obtain⟨q,hq,hk3⟩:=qBb.1 hk2;clear hk2;obtain⟨d,hd,hk4⟩:=qBb.1 hk3;clear hk3;have hqv:=qjR hc hq;subst hqv;simp only at hd hk4;have n45:¬d=45:=λe=>by rw[if_pos e]at hk4;cases hk4
  rw[if_neg n45]at hk4;have hd':NQ ⟨p.s,p.pos+1,p.fault,p.e⟩=some d:=hd;cases l with
  | nil=>
    simp(config:={ maxSteps:=2000000 }) [h1,h2,kU,hq,hd',n45,Rp.bump,-fB',-eB'];exactλv=>⟨k,p.bump,v, [⟨⟨c⟩,⟨c⟩⟩],⟨hk4,by simp at hlen ⊢;omega⟩,⟨rfl, .inl ⟨rfl,rfl,rfl,rfl⟩, .inl ⟨rfl,by simp⟩⟩,by omega⟩
  | cons x l=>
    have n93:¬c=93:=λe=>hend ⟨by simp,e⟩
    simp(config:={ maxSteps:=2000000 }) [h1,h2,kU,hc,hq,hd',n45,n93,Rp.bump,-fB',-eB'];have hlen2:l.length+1+ (k+1)<=100:=by simpa using hlen
    first
     |exactλ_ _=>⟨by omega,by omega,λv=>⟨k,p.bump,v,x::l++ [⟨⟨c⟩,⟨c⟩⟩],⟨hk4,by simp;omega⟩,⟨rfl, .inl ⟨rfl,rfl,rfl,rfl⟩, .inl ⟨rfl,by simp⟩⟩,by omega⟩⟩
     |exact⟨by omega,by omega,by omega,λv=>⟨k,p.bump,v,x::l++ [⟨⟨c⟩,⟨c⟩⟩],⟨hk4,by simp;omega⟩,⟨rfl, .inl ⟨rfl,rfl,rfl,rfl⟩, .inl ⟨rfl,by simp⟩⟩,by omega⟩⟩
     |exact⟨by omega,by omega,λv=>⟨k,p.bump,v,x::l++ [⟨⟨c⟩,⟨c⟩⟩],⟨hk4,by simp;omega⟩,⟨rfl, .inl ⟨rfl,rfl,rfl,rfl⟩, .inl ⟨rfl,by simp⟩⟩,by omega⟩⟩
     |(refineλ_=>⟨λ_=>?_,λ_=>?_⟩ <;>exact⟨by omega,by omega,λv=>⟨k,p.bump,v,x::l++ [⟨⟨c⟩,⟨c⟩⟩],⟨hk4,by simp;omega⟩,⟨rfl, .inl ⟨rfl,rfl,rfl,rfl⟩, .inl ⟨rfl,by simp⟩⟩,by omega⟩⟩)
end
section
open Cod (enc dec)
variable {dq:Prop}
def qwe(F:Rx->Int->Int->Option (Bool×Int)):PT:=λd ds H K=>∃id b x n k r a,ds=[a, .v (.int .i64 n), .bptr id b 0]/\dec a=some x/\H id=some (.box b [.v (.int .i64 k)])/\F x n k=some r/\K (.v (.bool r.1)) (ak H id (some (.box b [.v (.int .i64 r.2)])))
def qje(F:Rx->Int->Int->Option (Bool×Int)):sD (qwe F):=λd ds H K c hk ⟨id,b,x,n,k,r,a,h1,h2,h3,h4,h5⟩=>⟨id,b,x,n,k,r,a,h1,h2,h3,h4,hk _ _ h5⟩
def qoM(F:Rx->Int->Int->Option (Bool×Int)):Spc:= .gen _ (qje F)
def qte(F:Rx->Int->Int->Option (Bool×Int))(o:Option Rx)(n:Int)(id b:Nat)(q:Option Res)(H:ab)(K:D->ab->Prop):Prop:=
 ∃k,q=some (.box b [.v (.int .i64 k)])/\ga o λx=>ga (F x n k) λr=>K (.v (.bool r.1)) (ak H id (some (.box b [.v (.int .i64 r.2)])))
@[congr] theorem qwd{F:Rx->Int->Int->Option (Bool×Int)}{o a:Option Rx}{n c:Int}{id b:Nat}{q d:Option Res}{H:ab}{K:D->ab->Prop}(h1:o=a)(h2:n=c)(h3:q=d):qte F o n id b q H K=qte F a c id b d H K:=by subst h1;subst h2;subst h3;rfl
@[simp] theorem qwf(F:Rx->Int->Int->Option (Bool×Int))(d id b:Nat)(a:D)(n:Int)(H:ab)(K:D->ab->Prop):(qoM F).pt d [a, .v (.int .i64 n), .bptr id b 0] H K=qte F (dec a) n id b (H id) H K:=by
 refine propext ⟨λh=>?_,λh=>?_⟩
 ·obtain⟨l,b',x,q,k,r,p,h1,h2,h3,h4,h5⟩:=h;cases h1;refine⟨k,h3,?_⟩;rw[h2];show ga (F x n k) _;rw[h4];exact h5
 ·obtain⟨k,h1,h2⟩:=h;cases c:dec (X:=Rx) a with
  |none=>rw[c]at h2;exact h2.elim
  | some x=>
    rw[c]at h2;have h2:ga (F x n k) _:=h2;cases j:F x n k with
    |none=>rw[j]at h2;exact h2.elim
    |some r=>rw[j]at h2;exact⟨id,b,x,n,k,r,a,rfl,c,h1,j,h2⟩
@[simp] theorem qzg(F:Rx->Int->Int->Option (Bool×Int))(o:Option Rx)(n:Int)(id b:Nat)(k:Int)(H:ab)(K:D->ab->Prop):
 qte F o n id b (some (.box b [.v (.int .i64 k)])) H K=ga o λx=>ga (F x n k) λr=>K (.v (.bool r.1)) (ak H id (some (.box b [.v (.int .i64 r.2)]))):=by
 refine propext ⟨λ⟨a,h1,h2⟩=>?_,λh=>⟨k,rfl,h⟩⟩;cases h1;exact h2
def qsx(b:Nat)(q:Bool×Int)(r:D)(H:ab):Prop:=r= .v (.bool q.1)/\H 2=some (.box b [.v (.int .i64 q.2)])
def qhW(cc:CC)(rs:List ai)(S:Nat->Spc)(F:Rx->Int->Int->Option (Bool×Int)):Prop:=
 ∀b x n k q,F x n k=some q->vc S cc (uL rs λr H'=>qsx b q r H') (dr [enc x, .v (.int .i64 n), .bptr 2 b 0]) (ak cX 2 (some (.box b [.v (.int .i64 k)])))
variable {P:Program}{S:Nat->Spc}{f:Nat}{im:List Nat}{cc:CC}{rs:List ai}{N:Nat}
theorem YW{F:Rx->Int->Int->Option (Bool×Int)}(c:∀f,Tri dq P f (S f).pt)(h:zF P f im cc rs N)(l:3<=N)(p:qhW cc rs S F):Tri dq P f (qoM F).pt:=by
 obtain⟨wJ,enter,fn,code,h1,h2,h3,h4,h5⟩:=h;refine mJ c wJ h1 h2 enter h3 h4 h5 ?_;rintro ds H d K ⟨id,b,x,n,k,r,J,rfl,t,hid,u,w⟩;have h0:∀i q,ak cX 2 (some (.box b [.v (.int .i64 k)])) i=some q->i=2/\q= .box b [.v (.int .i64 k)]:=by
  intro i q h;by_cases e:i=2
  ·subst e;simp only[ak,if_true]at h;cases h;exact⟨rfl,rfl⟩
  ·simp[ak,e,cX]at h
 refine⟨l, [enc x, .v (.int .i64 n), .bptr 2 b 0],ak cX 2 (some (.box b [.v (.int .i64 k)])),λi=>if i=2 then id else i, .cons (Cod.le _ _ t) (.cons (.same _) (.cons (.bptr _ _ _ _) .nil)),λi q h=>?_,λi j q y h A e=>?_,_,p b x n k r u,?_⟩
 ·obtain⟨rfl,rfl⟩:=h0 i q h;exact hid
 ·exact(h0 i q h).1.trans (h0 j y A).1.symm
 ·rintro r' H' ⟨rfl,C⟩;refine⟨.v (.bool r.1),cX,ak H id (some (.box b [.v (.int .i64 r.2)])),λi=>if i=id then some 2 else none, .same _,λj q h=>by simp[cX]at h,w,λi s hi=>?_,λi j L s q hi M E I=>?_⟩
  ·by_cases e:i=id
   ·subst e;simp only[ak,if_true]at hi ⊢;cases hi;exact C
   ·simp only[ak,e,if_false]at hi ⊢;refine⟨hi,λa q h he=>?_⟩;obtain⟨rfl,rfl⟩:=h0 a q h;exact e he.symm
  ·by_cases c1:i=id
   ·by_cases c2:j=id
    ·exact c1.trans c2.symm
    ·simp[c2]at I
   ·simp[c1]at E
end
section
open Go.Proofs
def kb:CC:=gq Tryz.f303 [3] { bx:=[2],ke:=[2] } _
def jD:List ai:=[.tmp 6]
def My:FO qE [3] kb jD 36:=fo
def ot:CC:=gq Tryz.f345 [] {} _
def mZ:List ai:=[.tmp 2]
def F7:FO pT [] ot mZ 47:=fo
def dN:CC:=gq Tryz.f326 [1] {} _
def dG:List ai:=[.tmp 2]
def DX:FO nP [1] dN dG 101:=fo
def lw:CC:=gq Tryz.f304 [1] {} _
def kX:List ai:=[.tmp 2]
def Cy:FO iq [1] lw kX 19:=fo
def iu:CC:=gq Tryz.f305 [1] {} _
def gY:List ai:=[.tmp 2]
def DY:FO ju [1] iu gY 42:=fo
def ow:CC:=gq Tryz.f272 [1] {} _
def nc:List ai:=[.tmp 2]
def Ga:FO kI [1] ow nc 16:=fo
open Cod (enc dec)
variable {S S0:Nat->Spc}
def NV{X:Type}{l:List X}{k:Nat}(h:k<l.length):∃x,l[k]? =some x:=⟨_,qBe h⟩
def Nx{X:Type}{l:List X}{k:Nat}{x:X}(h:l[k]? =some x):l.drop k=x::l.drop (k+1):=by
 grind [List.drop_eq_getElem_cons]
theorem Ok(n:Nat)(h1:S qE=qoM (xY n)):qhW kb jD S (xY (n+1)):=by
 rintro b x d k ⟨ok,m⟩ l;have u:=l;simp only[xY]at l;split at l;grind;rename_i s;have j:InR .i64 (k+1):=by grind [InR]
 split at l
 ·rename_i p;cases l;by_cases c:40<d
  ·simp[kb,jD,j,c,-fB',-eB'];exact⟨rfl,by simp⟩
  ·have a:200<k+1:=by omega
   simp[kb,jD,j,c,a,-fB',-eB'];exact⟨rfl,by simp⟩
 ·rename_i p;have c:¬40<d:=by omega
  have a:¬200<k+1:=by omega
  simp[kb,jD,j,c,a,-fB',-eB'];intro w;refine ah (X:=Int) [1,2,23] [] x.kids.length (λi z=>qpV (xY n) d (x.kids.drop i) z=some (ok,m)) (λz=>[]) (λz=>[(2, .box b [.v (.int .i64 z)])]) (k+1) l ?_ ?_
  ·rintro i z hi hz;obtain⟨y,r⟩:=NV hi;obtain⟨_,q⟩:=qBc.1 r;rw[Nx r,qpV]at hz;obtain⟨⟨t,A⟩,hs,hz⟩:=qBb.1 hz;simp only at hz;have h:InR .i64 (d+1):=by grind [InR]
   cases t with
   | true=>
     simp only[if_true]at hz;simp[h1,hi,r,q,hs,h,-fB',-eB'];exact⟨A,hz, .inl rfl⟩
   | false=>
     simp only[qB1,if_false]at hz;cases hz;simp[h1,hi,r,q,hs,h,-fB',-eB'];exact⟨rfl,by simp⟩
  ·rintro z hz;rw[qB3,qpV]at hz;cases hz;simp[-fB',-eB'];exact⟨rfl,by simp⟩
abbrev Vu:Spc:=aA (a1 (List Rng)) (λl=>qbh l=true) (enc (X:=Bool)) λ_ y=>y=true
def HH:aq ot mZ S (a1 (List Rng)) (λl=>qbh l=true) (enc (X:=Bool)) λ_ y=>y=true:=by
 rintro l hl;obtain⟨r,rfl⟩:∃r,l=[r]:=by
  match l,hl with
  | [r],_=>simp
 simp[qbh]at hl;simp[ot,mZ,-fB',-eB'];refine ah (X:=Unit) [0,5] [] 1 (λ_ _=>True) (λ_=>[]) (λ_=>[]) () trivial ?_ ?_
 ·rintro k -hk -;obtain rfl:k=0:=by omega
  have a:¬r.fr.val< 0:=by omega
  have b:¬r.to.val<r.fr.val:=by omega
  have c:¬1114111<r.to.val:=by omega
  simp[a,b,c,-fB',-eB']
 simp
abbrev PS:Spc:=aA (a1 Rx) (λx=>qqe x=true) (enc (X:=Bool)) λ_ y=>y=true
set_option maxHeartbeats 2000000 in
theorem E8(h1:S pT=Vu):aq dN dG S (a1 Rx) (λx=>qqe x=true) (enc (X:=Bool)) λ_ y=>y=true:=by
 rintro⟨op,mn,mx,rs,ks⟩ hx;have hx:qqe ⟨op,mn,mx,rs,ks⟩=true:=hx;unfold qqe at hx;simp only at hx;split at hx
 ·rename_i e;subst e;simp at hx;obtain⟨⟨⟨rfl,rfl⟩,rfl⟩,hs⟩:=hx;simp[dN,dG,h1,hs,-fB',-eB'];refine ah (X:=Unit) [1,3] [] 0 (λ_ _=>True) (λ_=>[]) (λ_=>[]) () trivial (λk x hk=>absurd hk (by omega)) (λ_ _=>?_);simp_all
 split at hx
 ·rename_i e1 e;subst e;simp at hx;obtain⟨⟨⟨⟨rfl,rfl⟩,rfl⟩,hl1,hl3⟩,hk2⟩:=hx;have hlt:(ks.length:Int)<=9223372036854775807:=by omega
  simp[dN,dG,hlt,-fB',-eB'];refine ah (X:=Unit) [1,3,34] [] ks.length (λ_ _=>True) (λ_=>[]) (λ_=>[]) () trivial ?_ ?_
  ·rintro k -hk -;obtain⟨y,hy⟩:=NV hk;obtain⟨_,hgy⟩:=qBc.1 hy;have hop:=hk2 y (qBf hy);simp[hk,hy,hgy,hop,-fB',-eB']
  simp;omega
 split at hx
 ·rename_i e1 e2 e;subst e;simp at hx;obtain⟨⟨⟨⟨rfl,rfl⟩,rfl⟩,hl1,hl3⟩,hk2⟩:=hx;have hlt:(ks.length:Int)<=9223372036854775807:=by omega
  simp[dN,dG,hlt,-fB',-eB'];refine ah (X:=Unit) [1,3,34] [] ks.length (λ_ _=>True) (λ_=>[]) (λ_=>[]) () trivial ?_ ?_
  ·rintro k -hk -;obtain⟨y,hy⟩:=NV hk;obtain⟨_,hgy⟩:=qBc.1 hy;have hop:=hk2 y (qBf hy);simp[hk,hy,hgy,hop,-fB',-eB']
  ·rintro - -;have hl1':(1:Int)<ks.length:=by omega
   simp[hl1,hl1',-fB',-eB']
 split at hx
 ·rename_i e1 e2 e3 e;subst e;simp at hx;obtain⟨⟨⟨g0,g1,g2⟩,rfl⟩,hl1⟩:=hx;obtain⟨k0,rfl⟩:∃k,ks=[k]:=qCk.1 hl1;simp[dN,dG,-fB',-eB'];refine ah (X:=Unit) [1,3,34] [] 1 (λ_ _=>True) (λ_=>[]) (λ_=>[]) () trivial ?_ ?_
  ·rintro k -hk -;obtain rfl:k=0:=by omega
   simp[-fB',-eB']
  ·rintro - -;simp[g0,g1,-fB',-eB'];exactλh=>⟨λ_=>by omega,by omega⟩
 grind
abbrev DP(n:Nat):Spc:=aA (a1 Rx) (λx=>qc0 n x=true) (enc (X:=Bool)) λ_ y=>y=true
def Dw(n:Nat)(h1:S nP=PS)(h2:S iq=DP n):aq lw kX S (a1 Rx) (λx=>qc0 (n+1) x=true) (enc (X:=Bool)) λ_ y=>y=true:=by
 rintro x a;have a:qc0 (n+1) x=true:=a;simp only[qc0,qBh,qBi]at a;obtain⟨b,c⟩:=a;simp[lw,kX,h1,b,-fB',-eB'];intro d;refine ah (X:=Unit) [9] [] x.kids.length (λ_ _=>True) (λ_=>[]) (λ_=>[]) () trivial ?_ ?_;simp_all;simp
abbrev Zd(n:Nat):Spc:=aA (a1 Rx) (λx=>∃m,Si n x=some m) (enc (X:=Int)) λx y=>Si n x=some y
set_option maxHeartbeats 1000000 in
theorem E9(n:Nat)(h1:S ju=Zd n):aq iu gY S (a1 Rx) (λx=>∃m,Si (n+1) x=some m) (enc (X:=Int)) λx y=>Si (n+1) x=some y:=by
 rintro x ⟨m,hm⟩;have hm0:=hm;simp only[Si]at hm;split at hm;simp_all [iu,gY];rename_i e1;obtain⟨k,hk,hm⟩:=qBb.1 hm;simp[iu,gY,e1,-fB',-eB'];intro hkl;refine ah (X:=Int) [1,10] [] x.kids.length (λi z=>qp9 (Si n) (x.kids.drop i) z=some k) (λz=>[(3,enc z)]) (λ_=>[]) 0 hk ?_ ?_
 ·rintro i z hi hz;obtain⟨y,hy⟩:=NV hi;obtain⟨_,hgy⟩:=qBc.1 hy;rw[Nx hy,qp9]at hz;obtain⟨v,hv,hz⟩:=qBb.1 hz;split at hz;grind;rename_i hr;have hin:InR .i64 (z+v):=by simp only[InR];omega
  simp_all
 ·rintro z hz;rw[qB3,qp9]at hz;cases hz;split at hm
  ·rename_i e4;cases hm;simp[e4,hm0,-fB',-eB']
  ·rename_i e4;have e4:x.op=4:=by omega
   unfold qqb at hm;split at hm
   ·rename_i emx;split at hm
    ·rename_i hb;cases hm;have hin:InR .i64 (k*max x.mn 1):=by simp only[InR];omega
     simp[e4,emx,hin,hm0,-fB',-eB']
    ·cases hm
   ·rename_i emx;split at hm
    ·rename_i hb;cases hm;have hin:InR .i64 (k*x.mx):=by simp only[InR];omega
     simp[e4,emx,hin,hm0,-fB',-eB']
    ·cases hm
abbrev Vz:Spc:=aA (a1 Rx) (λx=>DF 50 x=true) (enc (X:=Int)) λx y=>y=0
def HK(h1:S qE=qoM (xY 50))(h2:S iq=DP 50)(h3:S ju=Zd 50):aq ow nc S (a1 Rx) (λx=>DF 50 x=true) (enc (X:=Int)) λx y=>y=0:=by
 rintro x a;have a:DF 50 x=true:=a;simp only[DF,qBh]at a;obtain⟨⟨c,d⟩,h⟩:=a;obtain⟨⟨t,k⟩,hs,rfl⟩:∃r,xY 50 x 1 0=some r/\r.1=true:=by
  grind
 obtain⟨m,hm,b⟩:∃m,Si 50 x=some m/\m<=64:=by
  grind
 simp_all [ow,nc,Bool.forall_bool,Bool.exists_bool]
end
section
open Go.Proofs
def uj:CC:=gq Tryz.f208 [2002002] {} _
def tm:List ai:=[.cell 2 true 5, .tmp 3, .tmp 4]
def MA:FO qG [2002002] uj tm 66:=fo
def uF:CC:=gq Tryz.f195 [] {} _
def tI:List ai:=[.tmp 2]
def MV:FO qL [] uF tI 13:=fo
def ov:CC:=gq Tryz.f308 [] {} _
def nb:List ai:=[.tmp 4]
def F9:FO pU [] ov nb 24:=fo
open Cod (enc dec)
variable {S S0:Nat->Spc}
def qzP{Y Z W V:Type}[Cod Y][Cod Z][Cod W][Cod V](x:Y×Z×W×V):D:= .tup [enc x.1,enc x.2.1,enc x.2.2.1,enc x.2.2.2]
@[simp] theorem qzO{Y Z W V:Type}[Cod Y][Cod Z][Cod W][Cod V](y:Y)(z:Z)(w:W)(v:V):qzP (y,z,w,v)= .tup [enc y,enc z,enc w,enc v]:=i' rfl
def qin(s:B)(i:Int):I32×Int×Int×Bool:=match s.data[i.toNat]? with
 |some c=>(⟨c.toNat⟩,i,1,true)
 |none=>(⟨0⟩,0,0,false)
abbrev s_cpAt:Spc:=aA (a2 B Int) (λx=>x.1.size<=1000/\wE x.1=true/\0<=x.2/\x.2<=x.1.size) (qzP (Y:=I32) (Z:=Int) (W:=Int) (V:=Bool)) λx y=>y=qin x.1 x.2
def qhK{s:B}(h:wE s=true){k:Nat}{c:UInt8}(hc:s.data[k]? =some c):c.toNat< 128:=by
 have:=qBi.1 h c (by rw[<-qBD]at hc;exact qBf hc);exact of_decide_eq_true this
abbrev If:Spc:=aA (a1 B) (λs=>∃r,lj s=some r) (qlN (Y:=Rx) (Z:=Int) (W:=Int)) λs y=>lj s=some y.1/\y.2=(0,0)
set_option maxHeartbeats 2000000 in
theorem On(h1:S Bw=s_cpAt)(h2:S jS=qeR)(h3:S kI=Vz):aq uj tm S (a1 B) (λs=>∃r,lj s=some r) (qlN (Y:=Rx) (Z:=Int) (W:=Int)) λs y=>lj s=some y.1/\y.2=(0,0):=by
 rintro s ⟨r,hr⟩;have hr0:=hr;unfold lj at hr;split at hr
 rotate_left
 ·cases hr
 rename_i hs;obtain⟨hsz,hasc⟩:=hs;obtain⟨⟨p,x,ok⟩,hu,hr⟩:=qBb.1 hr;split at hr
 rotate_left
 ·cases hr
 rename_i hv;obtain⟨rfl,hpos,hval⟩:=hv;cases hr;have n200:¬(200:Int)<s.size:=by omega
 have hs10:s.size<=1000:=by omega
 simp[uj,tm,n200,-fB',-eB'];intro b2 hsz2;refine aF (X:=Nat) [0,2] [2] (λi=>i<=s.size) (λi=>[(5,enc (i:Int))]) (λ_=>[]) (λi=>s.size -i) 0 (qBB _) ?_;rintro i hi;by_cases hlt:i<s.size
 ·obtain⟨c,hc⟩:∃c,s.data[i]? =some c:=⟨s.data[i]'hlt,qB4 hlt⟩
  have h128:=qhK hasc hc;have hat:qin s (i:Int)=((⟨(c.toNat:Int)⟩:I32),(i:Int),(1:Int),true):=by simp[qin,hc]
  have hff:¬((c.toNat:Int)=65533):=by omega
  simp[h1,hs10,hasc,hat,hff,hi,-fB',-eB'];exact⟨by simp only[InR];omega,i+1,by omega,by omega,by omega⟩
 ·obtain rfl:i=s.size:=by omega
  have hat:qin s (s.size:Int)=(⟨0⟩,0,0,false):=by
   have:s.data[s.size]? =none:=qCX (qBj _);simp[qin,this]
  simp only at hpos hval;have npos:¬p.pos<s.size:=by omega
  simp[h1,h2,h3,hs10,hasc,hat,hu,hpos,hval,npos,-fB',-eB'];exactλb _=>⟨x, .same _,hr0⟩
abbrev qaT:Spc:=aA (a1 B) (λs=>∃r,lj s=some r) (enc (X:=Int)) λ_ y=>y=0
def OK(h1:S qG=If):aq uF tI S (a1 B) (λs=>∃r,lj s=some r) (enc (X:=Int)) λ_ y=>y=0:=by
 rintro s ⟨r,a⟩;simp[uF,tI,h1,a,-fB',-eB']
abbrev qji:Spc:=aA (a2 (List Rng) I32) (λ_=>True) (enc (X:=Bool)) λx y=>y=TE x.1 x.2.val
theorem HJ:aq ov nb S (a2 (List Rng) I32) (λ_=>True) (enc (X:=Bool)) λx y=>y=TE x.1 x.2.val:=by
 rintro⟨l,⟨c⟩⟩ -;simp[ov,nb,-fB',-eB'];intro p;refine ah (X:=Unit) [1,7] [] l.length (λk _=>TE (l.take k) c=false) (λ_=>[]) (λ_=>[]) () rfl ?_ ?_
 ·rintro k -hk j;obtain⟨y,h⟩:=NV hk;obtain⟨_,b⟩:=qBc.1 h;have d:TE (l.take (k+1)) c=(decide (y.fr.val<=c) && decide (c<=y.to.val)):=by
   have:l.take (k+1)=l.take k++ [y]:=by rw[qB8,h];rfl
   unfold TE at j ⊢;rw[this,List.any_append,j];simp
  by_cases h1:y.fr.val<=c/\c<=y.to.val
  ·obtain⟨h1,h2⟩:=h1;have a:TE l c=true:=by
    refine qCe.2 ⟨y,qBf h,by simp[h1,h2]⟩
   simp[hk,h,b,h1,h2,a,-fB',-eB']
  ·have a:TE (l.take (k+1)) c=false:=by
    rw[d];simp;omega
   by_cases h2:y.fr.val<=c
   ·have h3:¬c<=y.to.val:=λe=>h1 ⟨h2,e⟩
    simp[hk,h,b,h2,h3,a,-fB',-eB']
   ·simp[hk,h,b,h2,a,-fB',-eB']
 ·rintro -j;rw[qBm]at j;simp[j,-fB',-eB']
end
section
open Cod (enc dec)
variable {dq:Prop}
structure qAf where
 v:Value
 v':Value
 t:Tbk
def uh(v v':Value)(t:Tbk):List D:=[.own 990 v, .v (.int .u64 t.fi.val), .v (.int .u64 t.la.val), .own 991 v', .v (.bool t.nul)]
def pJ(v:Value)(l:List (List Rng)):Res:= .row v eF 1 (l.map enc)
def pK(v:Value)(l:List U64):Res:= .row v fA 1 (l.map enc)
def tbB:Pz qAf:=⟨[990,991],λx=>uh x.v x.v' x.t,λx=>[(990,pJ x.v x.t.lvs),(991,pK x.v' x.t.fol)],λ_=>rfl⟩
section
variable {Y Z:Type}
def qik(A:fm Z)(er:Y->D)(F:Tbk->Z->Option (Tbk×Y)):Spc:=qr3 tbB A er (λs z=>∃r,F s.t z=some r) (λs z a y=>F s.t z=some (a.t,y))
def xo(H:ab)(id b:Nat)(v v':Value)(t:Tbk):ab:=ak (ak (ak H 991 (some (pK v' t.fol))) 990 (some (pJ v t.lvs))) id (some (.box b (uh v v' t)))
def U4(er:Y->D)(F:Tbk->Z->Option (Tbk×Y))(id b:Nat)(r a c:Option Res)(o:Option Z)(H:ab)(K:D->ab->Prop):Prop:=
 ∃v v' t,r=some (.box b (uh v v' t))/\a=some (pJ v t.lvs)/\c=some (pK v' t.fol)/\id≠990/\id≠991/\ga o λz=>ga (F t z) λq=>∀w w',K (er q.2) (xo H id b w w' q.1)
@[congr] theorem qs2{er:Y->D}{F:Tbk->Z->Option (Tbk×Y)}{id b:Nat}{r r' d a h c:Option Res}{o j:Option Z}{H:ab}{K:D->ab->Prop}(h1:r=r')(h2:d=a)(h3:h=c)(h4:o=j):U4 er F id b r d h o H K=U4 er F id b r' a c j H K:=by grind
theorem El{X:Type}[Cod X]:∀{l c:List X},l.map enc=c.map enc->l=c
 | [], [],_=>rfl
 | [],_::_,h=>by grind
 | _::_, [],h=>by grind
 | a::l,b::c,h=>by
   rw[qBZ,qBZ,qB6]at h;rw[cS h.1,El h.2]
def qfn{v v':Value}{l a:List (List Rng)}(h:pJ v l=pJ v' a):v=v'/\l=a:=by
 grind [pJ,El]
def qfo{v v':Value}{l a:List U64}(h:pK v l=pK v' a):v=v'/\l=a:=by
 grind [pK,El]
def qez{b b':Nat}{v v' w w':Value}{t t':Tbk}(h:Res.box b (uh v v' t)=Res.box b' (uh w w' t'))(h1:pJ v t.lvs=pJ w t'.lvs)(h2:pK v' t.fol=pK w' t'.fol):b=b'/\v=w/\v'=w'/\t=t':=by
 obtain⟨a,d⟩:=qfn h1;obtain⟨c,j⟩:=qfo h2;obtain⟨hb,hc⟩:=Res.box.inj h;simp only[uh,qB6,D.own.injEq,D.v.injEq,Value.int.injEq,Value.bool.injEq,true_and,and_true]at hc;obtain⟨_,⟨c1,c2,_,c3⟩⟩:=hc;refine⟨hb,a,c,?_⟩;obtain⟨a1,⟨a2⟩,⟨a3⟩,a4,k⟩:=t;simp_all
theorem qeA(x:qAf)(H:ab)(id b:Nat):ak (gk (tbB.hp x) H) id (some (.box b (tbB.ce x)))=xo H id b x.v x.v' x.t:=by
 rfl
theorem Y2(A:fm Z)(er:Y->D)(F:Tbk->Z->Option (Tbk×Y))(d i b:Nat)(ds:List D)(H:ab)(K:D->ab->Prop):(qik A er F).pt d (.bptr i b 0::ds) H K=U4 er F i b (H i) (H 990) (H 991) (A.dec ds) H K:=by
 refine propext ⟨λh=>?_,λh=>?_⟩
 ·obtain⟨id,b',x,z,k,h1,h2,h3,h4,h5,h6,l⟩:=h;cases h1;simp only[tbB,qBt,qBF,or_false,not_or]at h5;refine⟨x.v,x.v',x.t,h3,h4 (990,pJ x.v x.t.lvs) (by simp[tbB]),h4 (991,pK x.v' x.t.fol) (by simp[tbB]),h5.1,h5.2,?_⟩;rw[h2];obtain⟨⟨t',y⟩,j⟩:=h6;show ga (F x.t z) _;rw[j];intro w w';have:=l ⟨w,w',t'⟩ y j;grind [qeA]
 ·obtain⟨v,v',t,h1,h2,h3,h4,h5,h6⟩:=h;cases hz:A.dec ds with
  |none=>simp_all
  | some z=>
    rw[hz]at h6;have h6:ga (F t z) λq=>∀w w',K (er q.2) (xo H i b w w' q.1):=h6
    cases c:F t z with
    |none=>simp_all
    | some q=>
      rw[c]at h6;have h6:∀w w',K (er q.2) (xo H i b w w' q.1):=h6;refine⟨i,b,⟨v,v',t⟩,z,ds,rfl,hz,h1,λp hp=>?_,by grind [ga,tbB],⟨q,c⟩,λr y a=>?_⟩
      ·simp only[tbB,qBt,qBF,or_false]at hp;grind
      ·have a:F t z=some (r.t,y):=a;rw[c]at a;cases a;rw[qeA];grind
theorem qj4(A:fm Z)(er:Y->D)(F:Tbk->Z->Option (Tbk×Y))(b:Nat)(ds:List D):qk3 0 (qik A er F).pt (.bptr 0 b 0::ds):=by
 refine⟨λR=>U4 er F 0 b (R 0) (R 990) (R 991) (A.dec ds) R λ_ _=>True,λR d u=>∃v v' t z q w w',R 0=some (.box b (uh v v' t))/\R 990=some (pJ v t.lvs)/\R 991=some (pK v' t.fol)/\A.dec ds=some z/\F t z=some q/\d=er q.2/\u=[(0, .box b (uh w w' q.1)),(990,pJ w q.1.lvs),(991,pK w' q.1.fol)],λt H K=>?_⟩;rw[Y2];have l:xk H (some 0) 0=H 0:=by rfl
 have p:xk H (some 0) 990=H 990:=by rfl
 have r:xk H (some 0) 991=H 991:=by rfl
 show _↔U4 er F 0 b (xk H (some 0) 0) (xk H (some 0) 990) (xk H (some 0) 991) (A.dec ds) (xk H (some 0)) (λ_ _=>True)/\∀d u,(∃v v' t z q w w',xk H (some 0) 0=some (.box b (uh v v' t))/\xk H (some 0) 990=some (pJ v t.lvs)/\xk H (some 0) 991=some (pK v' t.fol)/\A.dec ds=some z/\F t z=some q/\d=er q.2/\u=[(0, .box b (uh w w' q.1)),(990,pJ w q.1.lvs),(991,pK w' q.1.fol)])->K d (kQ H (some 0) u);rw[l,p,r];have hp:∀(w w':Value) (q:Tbk),kQ H (some 0) [(0, .box b (uh w w' q)),(990,pJ w q.lvs),(991,pK w' q.fol)]=xo H 0 b w w' q:=λw w' q=>by
  funext i;simp only[kQ,xo,ak];by_cases h0:i=0;simp_all
  ·by_cases h1:i=990
   ·subst h1;rfl
   ·by_cases h2:i=991
    ·subst h2;rfl
    grind
 constructor
 ·rintro⟨v,v',t,h1,h2,h3,h4,h5,h6⟩;cases hz:A.dec ds with
  |none=>simp_all
  | some z=>
    rw[hz]at h6;have h6:ga (F t z) λq=>∀w w',K (er q.2) (xo H 0 b w w' q.1):=h6
    cases a:F t z with
    |none=>rw[a]at h6;exact h6.elim
    | some q=>
      rw[a]at h6;have h6:∀w w',K (er q.2) (xo H 0 b w w' q.1):=h6;refine⟨⟨v,v',t,h1,h2,h3,h4,h5,?_⟩,?_⟩
      ·show ga (F t z) _;rw[a];exactλ_ _=>trivial
      ·rintro d u ⟨v1,s,t1,C,E,w,w',c,h,j,x,k,rfl,rfl⟩;rw[h1]at c;rw[h2]at h;rw[h3]at j;obtain⟨_,_,_,rfl⟩:=qez (qBl c) (qBl h) (qBl j);cases x;rw[a]at k;cases k;rw[hp];exact h6 w w'
 ·rintro⟨⟨v,v',t,h1,h2,h3,h4,h5,h6⟩,y⟩;refine⟨v,v',t,h1,h2,h3,h4,h5,?_⟩;cases hz:A.dec ds with
  |none=>rw[hz]at h6;exact h6.elim
  | some z=>
    rw[hz]at h6;have h6:ga (F t z) λq=>∀w w':Value,True:=h6
    show ga (F t z) _;cases a:F t z with
    |none=>rw[a]at h6;exact h6.elim
    | some q=>
      intro w w';have:=y (er q.2) _ ⟨v,v',t,z,q,w,w',h1,h2,h3,hz,a,rfl,rfl⟩;rwa [hp]at this
def qfE(A:fm Z)(er:Y->D)(F:Tbk->Z->Option (Tbk×Y))(b:Nat)(dst:Option Nat)(ds:List D)(H:ab)(K:D->ab->Prop):Qc 0 dst (qik A er F) (.bptr 0 b 0::ds) H K=U4 er F 0 b (H 0) (H 990) (H 991) (A.dec ds) H K:=by
 rw[<-Y2 A er F (dst.getD 0)];exact propext ⟨λh=>h.2,λh=>⟨qj4 A er F b ds,h⟩⟩
def qmj(er:Y->D)(F:Tbk->Z->Option (Tbk×Y))(id b:Nat)(v v':Value)(f l:Int)(n:Bool)(lv:List (List Rng))(fo:List U64)(o:Option Z)(H:ab)(K:D->ab->Prop):
 U4 er F id b (some (.box b [.own 990 v, .v (.int .u64 f), .v (.int .u64 l), .own 991 v', .v (.bool n)])) (some (.row v eF 1 (lv.map enc))) (some (.row v' fA 1 (fo.map enc))) o H K=(id≠990/\id≠991/\ga o λz=>ga (F ⟨lv,⟨f⟩,⟨l⟩,fo,n⟩ z) λq=>∀w w',K (er q.2) (xo H id b w w' q.1)):=by
 refine propext ⟨λ⟨w,w',t,h1,h2,h3,h4,h5,h6⟩=>⟨h4,h5,?_⟩,λh=>⟨v,v',⟨lv,⟨f⟩,⟨l⟩,fo,n⟩,rfl,rfl,rfl,h.1,h.2.1,h.2.2⟩⟩;obtain⟨_,_,_,e⟩:=qez (t:=⟨lv,⟨f⟩,⟨l⟩,fo,n⟩) (t':=t) (b:=b) (b':=b) (qBl h1) (qBl h2) (qBl h3);grind
def Ys(er:Y->D)(b:Nat)(post:Tbk->Y->Prop)(r:D)(H:ab):Prop:=QU tbB er b (λs y=>post s.t y) r H
def qlM{er:Y->D}{b:Nat}{post:Tbk->Y->Prop}{r:D}{H:ab}(v v':Value)(t:Tbk)(y:Y)(c:FrzTo (λi=>if i=0\/i=990\/i=991 then none else H i) r (er y))(h0:H 0=some (.box b (uh v v' t)))(h1:H 990=some (pJ v t.lvs))(h2:H 991=some (pK v' t.fol))(a:post t y):Ys er b post r H:=
 ⟨⟨v,v',t⟩,y,by grind [tbB],h0,λp hp=>by
  simp only[tbB,qBt,qBF,or_false]at hp;grind,a⟩
def Jr(cc:CC)(rs:List ai)(S:Nat->Spc)(A:fm Z)(er:Y->D)(F:Tbk->Z->Option (Tbk×Y)):Prop:=
 ∀b v v' t z r,F t z=some r->vc S cc (uL rs λd H'=>Ys er b (λt' y=>r=(t',y)) d H') (dr (.bptr 0 b 0::A.view z)) (xo cX 0 b v v' t)
variable {P:Program}{S:Nat->Spc}{f:Nat}{im:List Nat}{cc:CC}{rs:List ai}{N:Nat}
def tg{A:fm Z}{er:Y->D}{F:Tbk->Z->Option (Tbk×Y)}(a:∀f,Tri dq P f (S f).pt)(h:zF P f im cc rs N)(c:∀z,(A.view z).length+1<=N)(j:Jr cc rs S A er F):Tri dq P f (qik A er F).pt:=
 DL (by simp[tbB]) a h c λb x z hp=>by
  obtain⟨r,k⟩:=hp;rw[qeA];have:=j b x.v x.v' x.t z r k;have e:(λ(d:D) (H':ab)=>QU tbB er b (λl y=>F x.t z=some (l.t,y)) d H')=λd H'=>Ys er b (λt' y=>r=(t',y)) d H':=by
   funext d H';unfold Ys;grind
  grind
end
@[simp] theorem qvm(m:U64)(i:Nat):decide (Yf .u64 (qcE .u64 m.val i) 1=1)=qdR m i:=i' rfl
end
section
open Go.Proofs
def zz:CC:=gq Tryz.f306 [1,2024006,2022006,2020006] { cu:=[1,4],kz:=[990,991] } _
def yt:List ai:=[.tmp 2]
def SF:FO Bv [1,2024006,2022006,2020006] zz yt 26:=fo
def kp:CC:=gq Tryz.f359 [] { bx:=[0],kz:=[990,991] } _
def jJ:List ai:=[]
def A4:FO gm [] kp jJ 31:=fo
def iz:CC:=gq Tryz.f346 [4,5] { ke:=[0],kz:=[990,991] } _
def ib:List ai:=[.cell 6 true 3]
def yC:FO dy [4,5] iz ib 42:=fo
def cJ:CC:=gq Tryz.f327 [3,3060000,1031990,2033000,2006006] { bx:=[0],kz:=[990,991] } _
def cG:List ai:=[.cell 4 true 3]
def Ae:FO db [3,3060000,1031990,2033000,2006006] cJ cG 98:=fo
def iy:CC:=gq Tryz.f347 [3,3095000,2005005] { bx:=[0],kz:=[990,991] } _
def ia:List ai:=[.cell 4 true 3]
def yB:FO jd [3,3095000,2005005] iy ia 98:=fo
def cO:CC:=gq Tryz.f360 [4,3035000,3036000,2009009] { bx:=[0],kz:=[990,991] } _
def cL:List ai:=[.cell 6 true 3]
def vU:FO eB [4,3035000,3036000,2009009] cO cL 39:=fo
def fV:CC:=gq Tryz.f307 [] { ke:=[0],kz:=[990,991] } _
def fJ:List ai:=[.tmp 6]
def A5:FO lr [] fV fJ 35:=fo
open Cod (enc dec)
variable {S S0:Nat->Spc}
@[simp] theorem quB(t:Tbk):Tbk.mk t.lvs t.fi t.la t.fol t.nul=t:=i' rfl
abbrev RQ:Spc:=qik (a2 U64 U64) Tw Gy
def qbm(fr to:U64):∀(l:List U64) (i:Nat),(qbn fr to i l).length=l.length
 | [],_=>rfl
 |f::l,i=>by rw[qbn,qB2,qB2,qbm fr to l (i+1)]
def WD{fr to f:U64} :∀{l:List U64} {i k:Nat},l[k]? =some f->qbn fr to i (l.take k) ++ (if qdR fr (i+k)=true then qjB f to else f)::l.drop (k+1)=qbn fr to i (l.take (k+1)) ++l.drop (k+1)
 | [],i,k,h=>by simp at h
 | g::l,i,0,h=>by
   simp at h;subst h;simp[qbn]
 | g::l,i,k+1,h=>by
   simp at h;have:=WD (fr:=fr) (to:=to) (i:=i+1) h;rw[show i+1+k=i+ (k+1)by omega]at this;simp only[List.take_succ_cons,qbn,qCd,List.drop_succ_cons];rw[this]
theorem qma:Jr kp jJ S (a2 U64 U64) Tw Gy:=by
 rintro b v v' ⟨lv,fi,la,fo,w⟩ ⟨fr,to⟩ r h;unfold Gy at h;simp only at h;split at h
 ·rename_i hlen;cases h;have hl:(fo.length:Int)<=9223372036854775807:=by omega
  simp[kp,jJ,xo,pJ,pK,uh,hl,-fB',-eB'];refine ah (X:=List U64) [0,1,2] [] fo.length (λk x=>x=qbn fr to 0 (fo.take k) ++fo.drop k) (λx=>[]) (λx=>[(0, .box b [.own 990 v, .v (.int .u64 fi.val), .v (.int .u64 la.val), .own 991 v', .v (.bool w)]),(990, .row v eF 1 (lv.map enc)),(991, .row v' fA 1 (x.map enc))]) fo (by simp[qbn]) ?_ ?_
  ·rintro k x hk d;obtain⟨f,A⟩:∃f,fo[k]? =some f:=⟨_,qBe hk⟩
   have a:(qbn fr to 0 (fo.take k)).length=k:=by rw[qbm,qBC];omega
   have q:x.length=fo.length:=by rw[d,qBJ,a,qCc];omega
   have j:x[k]? =some f:=by
    rw[d,qBL (by omega),a,qCR,qCb];simpa using A
   have s:x.drop (k+1)=fo.drop (k+1):=by
    rw[d,List.drop_append,a,List.drop_drop,qCB (by rw[a];omega)];simp
   have t:x.take k=qbn fr to 0 (fo.take k):=by
    rw[d,List.take_append,a,qCR,qC6,qCq,qBQ (by rw[a];omega)]
   have l:∀g,x.set k g=qbn fr to 0 (fo.take k) ++g::fo.drop (k+1):=λg=>by
    rw[qCW,if_pos (by omega),t,s]
   have c:=WD (fr:=fr) (to:=to) (i:=0) A;rw[qBV,<-l]at c;have u:k<x.length:=by omega
   obtain⟨_,p⟩:=qBc.1 j;simp[u,j,p,hk,q,-fB',-eB'];refine⟨λhb=>?_,λhb=>?_⟩
   ·rw[if_pos hb]at c;left;rw[<-List.map_drop,<-qCP,<-c,qDm];rfl
   ·rw[if_neg (by simp[hb])]at c;rw[show x.set k f=x from by rw[<-p];exact List.set_getElem_self _]at c;exact .inl c
  ·rintro x d;rw[qBm,qB3,qCq]at d;subst d;simp[-fB',-eB'];exact qlM (er:=Tw) (y:=()) v v' ⟨lv,fi,la,qbn fr to 0 fo,w⟩ (.same _) rfl rfl rfl rfl
 ·cases h
attribute [simp] Y2 qfE
@[simp] theorem qs1{Y Z:Type}(er:Y->D)(F:Tbk->Z->Option (Tbk×Y))(id b:Nat)(v v':Value)(f l:Int)(n:Bool)(lv:List (List Rng))(fo:List U64)(o:Option Z)(H:ab)(K:D->ab->Prop):
 U4 er F id b (some (.box b [.own 990 v, .v (.int .u64 f), .v (.int .u64 l), .own 991 v', .v (.bool n)])) (some (.row v eF 1 (lv.map enc))) (some (.row v' fA 1 (fo.map enc))) o H K=(id≠990/\id≠991/\ga o λz=>ga (F ⟨lv,⟨f⟩,⟨l⟩,fo,n⟩ z) λq=>∀w w',K (er q.2) (ak (ak (ak H 991 (some (.row w' fA 1 (q.1.fol.map enc)))) 990 (some (.row w eF 1 (q.1.lvs.map enc)))) id (some (.box b [.own 990 w, .v (.int .u64 q.1.fi.val), .v (.int .u64 q.1.la.val), .own 991 w', .v (.bool q.1.nul)])))):=qmj er F id b v v' f l n lv fo o H K
abbrev Le:Spc:=qik (a2 Prt Prt) (enc (X:=Prt)) zR
def xE{b:Nat}{post:Tbk->Prt->Prop}{d:D}{H:ab}(v v':Value)(t:Tbk)(y:Prt)(a:d=enc y)(h0:H 0=some (.box b (uh v v' t)))(h1:H 990=some (pJ v t.lvs))(h2:H 991=some (pK v' t.fol))(c:post t y):Ys enc b post d H:=
 qlM (er:=enc) (y:=y) v v' t (by rw[a];exact .same _) h0 h1 h2 c
def qei(h1:S gm=RQ):Jr iz ib S (a2 Prt Prt) (enc (X:=Prt)) zR:=by
 rintro b v v' ⟨lv,fi,la,fo,d⟩ ⟨⟨h,j,an⟩,⟨k,bl,c⟩⟩ r a;unfold zR at a;simp only at a;obtain⟨q,hl,rfl⟩:=qBk.1 a;cases an<;>cases c<;>simp[iz,ib,xo,pJ,pK,uh,h1,hl,-fB',-eB'] <;>intro b1 w w'<;>exact xE w w' q.1 _ rfl rfl rfl rfl ⟨rfl,rfl⟩
def qfW{set f:U64}{l:List U64}{k:Nat}(h:l[k]? =some f)(m:U64):qlA set k (l.drop k) m=qlA set (k+1) (l.drop (k+1)) (if qdR set k=true then qjB m f else m):=by
 obtain⟨h1,h2⟩:=qBc.1 h;rw[qBU h1,h2,qlA]
end
end Go.Gv
