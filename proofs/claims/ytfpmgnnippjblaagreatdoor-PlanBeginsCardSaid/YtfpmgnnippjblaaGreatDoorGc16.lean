/- C51 -/
import Derived.Test.YtfpmgnnippjblaaGreatDoorGc15
set_option linter.all false
set_option maxRecDepth 100000
set_option maxHeartbeats 0
open Bool renaming forall_bool → fB', exists_bool → eB'
namespace Go.Gv
section
open Go.Proofs
def gB:CC:=gq Tryz.f302 [] { ke:=[0] } _
def ge:List ai:=[.tmp 2]
def CW:FO bD [] gB ge 29:=fo
def ll:CC:=gq Tryz.f365 [] { bx:=[0] } _
def kJ:List ai:=[]
def CV:FO my [] ll kJ 25:=fo
def fV:CC:=gq Tryz.f357 [] { bx:=[0] } _
def fQ:List ai:=[.tmp 4, .tmp 5]
def wE:FO eu [] fV fQ 37:=fo
def jg:CC:=gq Tryz.f361 [] { bx:=[0] } _
def iJ:List ai:=[.tmp 2, .tmp 3]
def AE:FO jQ [] jg iJ 27:=fo
def A6:CC:=gq Tryz.f354 [] {} _
def Ac:List ai:=[.cell 4 true 5]
def Vx:FO Di [] A6 Ac 10:=fo
def eN:CC:=gq Tryz.f342 [2002002] { bx:=[0] } _
def eF:List ai:=[.cell 2 true 5, .tmp 3]
def CX:FO mz [2002002] eN eF 72:=fo
def jV:CC:=gq Tryz.f355 [] { ke:=[0] } _
def jK:List ai:=[.cell 2 true 5, .tmp 3]
def BZ:FO kY [] jV jK 108:=fo
def je:CC:=gq Tryz.f324 [] { bx:=[0] } _
def iI:List ai:=[.cell 2 true 5, .tmp 3]
def AD:FO jP [] je iI 54:=fo
def jh:CC:=gq Tryz.f301 [] { ke:=[0] } _
def iK:List ai:=[.cell 2 true 5, .tmp 3]
def AF:FO jR [] jh iK 49:=fo
def jU:CC:=gq Tryz.f270 [] { ke:=[0] } _
def jJ:List ai:=[.cell 2 true 5, .tmp 3]
def BY:FO kX [] jU jJ 44:=fo
open Cod (enc dec)
variable {S S0:Nat->Spc}
abbrev s_decR:Spc:=ax (a1 B) (λs=>∃c,s.data[0]? =some c/\c.toNat< 128) (iA (Y:=I32) (Z:=Int)) λs y=>∀c,s.data[0]? =some c->y=(⟨c.toNat⟩,1)
abbrev s_crune:Spc:=ax (a2 B I32) (λx=>0<=x.2.val/\x.2.val< 128) (enc (X:=Bool)) λx y=>y=qog x.1 x.2.val
def DT{p:Rp}{c:Int}(h:QA p=some c):p.s.size<=200/\((p.pos=p.s.size/\c= -1)\/(0<=p.pos/\p.pos<p.s.size/\p.pos≠p.s.size/\∃x:UInt8,p.s.data[p.pos.toNat]? =some x/\x.toNat< 128/\c=x.toNat)):=by
 unfold QA at h;split at h
 ·cases h
 rename_i j;refine⟨by omega,?_⟩;split at h
 ·exact .inl ⟨by assumption,(qGf h).symm⟩
 ·rename_i a;split at h
  ·rename_i h0;split at h
   ·rename_i x d;split at h
    ·rename_i b;have k:=(qGg.1 d).1;refine .inr ⟨h0,?_,a,x,d,b,(qGf h).symm⟩;show p.pos<(p.s.data.size:Int);omega
    ·cases h
   ·cases h
  ·cases h
def qEE{s:B}{k:Nat}{x:UInt8}(h:s.data[k]? =some x):(s.extract k s.size).data[0]? =some x:=by
 obtain⟨h1,h2⟩:=qGg.1 h;rw[ByteArray.data_extract,Array.getElem?_extract];have:0<min s.size s.data.size -k:=by
  have:s.size=s.data.size:=rfl;omega
 rw[if_pos this,qHq];exact h
abbrev wL:Spc:=qhz a0 (enc (X:=I32)) lV
theorem Ue(h1:S dy=s_decR):wz gB ge S a0 (enc (X:=I32)) (λs z=>∃r,lV s z=some r) (λs z d y=>lV s z=some (d,y)):=by
 rintro b s ⟨⟩ ⟨r,q⟩;obtain⟨c,hc,_⟩:=qGe.1 q;have tD:∀{H:ab},H 0=some (.box b (tJ s))->JL (enc (X:=I32)) b (λd y=>lV s ()=some (d,y)) (.v (.int .i32 c)) H:=λh0=>I0 s ⟨c⟩ (.same _) h0 (by simp[lV,hc])
 obtain⟨t,j⟩:=DT hc;rcases j with⟨l,rfl⟩|⟨h0,h2,h3,x,u,k,rfl⟩
 ·simp[gB,ge,l,-fB',-eB'];exactλ_=>tD (by simp[l])
 ·have p:(s.s.data.extract s.pos.toNat s.s.size)[0]? =some x:=by rw[<-ByteArray.data_extract];exact qEE u
  simp[gB,ge,h1,h0,h2,h3,-fB',-eB'];refineλ_=>⟨by omega,⟨x,p,k⟩,λa b1 h=>?_⟩
  obtain⟨rfl,rfl⟩:=h x p;exact tD (by simp)
abbrev qd2:Spc:=qhz a0 WM SA
theorem Ud(h1:S dy=s_decR):wz ll kJ S a0 WM (λs z=>∃r,SA s z=some r) (λs z d y=>SA s z=some (d,y)):=by
 rintro b s ⟨⟩ ⟨r,q⟩;obtain⟨c,hc,h⟩:=qF3.1 q;split at h
 ·rename_i j;have tD:∀{H:ab},H 0=some (.box b (tJ s.bump))->JL WM b (λd y=>SA s ()=some (d,y)) (.tup []) H:=λh0=>I0 s.bump () (.same _) h0 (by simp[SA,hc,j])
  obtain⟨t,k⟩:=DT hc;rcases k with⟨w,rfl⟩|⟨h0,h2,h3,x,u,l,rfl⟩
  ·omega
  ·have p:(s.s.data.extract s.pos.toNat s.s.size)[0]? =some x:=by rw[<-ByteArray.data_extract];exact qEE u
   simp[ll,kJ,h1,h0,h2,h3,-fB',-eB'];refine⟨by omega,⟨x,p,l⟩,λa b1 h=>?_⟩;obtain⟨rfl,rfl⟩:=h x p;exact⟨by simp only[InR];omega,tD (by simp[Rp.bump])⟩
 ·cases h
abbrev qoA:(I32×Bool)->D:=iA (Y:=I32) (Z:=Bool)
abbrev U3:Spc:=qhz (a1 B) qoA Fb
def Hm(h1:S bD=wL)(h2:S my=qd2):wz fV fQ S (a1 B) qoA (λs z=>∃r,Fb s z=some r) (λs z a y=>Fb s z=some (a,y)):=by
 rintro b s l ⟨r,d⟩;obtain⟨c,hc,h⟩:=qF3.1 d;split at h
 ·cases h
 ·rename_i hn;have j:0<=c:=by omega
  have k:c≠92:=λe=>hn (.inr e)
  simp[fV,fQ,h1,h2,lV,SA,hc,j,k,-fB',-eB'];exact I0 s.bump (⟨c⟩,true) (.same _) (by simp) (by simp[Fb,hc,hn])
abbrev qiE:Spc:=qhz a0 qoA Z5
theorem NS(h1:S bD=wL)(h2:S iU=s_crune)(h3:S eu=U3):wz jg iJ S a0 qoA (λs z=>∃r,Z5 s z=some r) (λs z d y=>Z5 s z=some (d,y)):=by
 rintro b s ⟨⟩ ⟨r,k⟩;obtain⟨c,hc,h⟩:=qF3.1 k;split at h
 ·cases h
 ·rename_i hn;have l:¬c< 0:=λe=>hn (.inl e)
  have p:qog qfl c=false:=by
   cases e:qog qfl c with
   |false=>rfl
   |true=>exact absurd (.inr e) hn
  have j:=DT hc;have a:c< 128:=by
   rcases j.2 with⟨_,rfl⟩|⟨_,_,_,x,_,q,rfl⟩ <;>omega
  have t:qog ⟨#[92,91,93,94,45]⟩ c=false:=p;have h4:Fb s ⟨#[92,91,93,94,45]⟩=some r:=h;simp[jg,iJ,h1,h2,h3,lV,hc,l,t,h4,a,-fB',-eB'];obtain⟨d,⟨c'⟩,t'⟩:=r;intro u;refine⟨λ_=>⟨u,I0 d (⟨c'⟩,t') (.same _) (by simp) (by simp[Z5,hc,hn,h])⟩,λ_=>I0 d (⟨c'⟩,t') (.same _) (by simp) (by simp[Z5,hc,hn,h])⟩
def WB{H:ab}{op mn mx:Int}{b d:D}(rs:List Rng)(ks:List Rx)(h3:FrzTo H b (enc rs))(h4:FrzTo H d (enc ks)):FrzTo H (.agg [.v (.int .i64 op), .v (.int .i64 mn), .v (.int .i64 mx),b,d]) (enc (Rx.mk op mn mx rs ks)):=by
 rw[qk0];refine .agg rfl λk c c' hc a=>?_
 match k with
 | 0=>cases hc;cases a;exact .same _
 | 1=>cases hc;cases a;exact .same _
 | 2=>cases hc;cases a;exact .same _
 | 3=>cases hc;cases a;exact h3
 | 4=>cases hc;cases a;exact h4
 |k+5=>simp at hc
abbrev qiD:Spc:=ax (a2 I32 I32) (λ_=>True) (enc (X:=Rx)) λx y=>y=qiw x.1.val x.2.val
def XL:aq A6 Ac S (a2 I32 I32) (λ_=>True) (enc (X:=Rx)) λx y=>y=qiw x.1.val x.2.val:=by
 rintro⟨x,y⟩ -;simp[A6,Ac,qiw];exactλb=>aL (Y:=Rx) ⟨1,0,0, [⟨x,y⟩], []⟩ (WB [⟨x,y⟩] [] (.same _) (.nil _)) rfl
abbrev GT:(Rx×Bool)->D:=iA (Y:=Rx) (Z:=Bool)
abbrev qiF:Spc:=qhz a0 GT qoQ
abbrev qd3:Spc:=qhz a0 GT qfs
def qvL{b:Nat}{post:Rp->(Rx×Bool)->Prop}{x:Rx}{v:Bool}{H:ab}(s:Rp)(h0:H 0=some (.box b (tJ s)))(a:post s (x,v)):JL GT b post (.tup [enc x, .v (.bool v)]) H:=I0 s (x,v) (.same _) h0 a
def Gx{b:Nat}{post:Rp->(Rx×Bool)->Prop}{x:Rx}{v:Bool}{H:ab}(s:Rp)(h0:H 0=some (.box b (tJ s)))(a:post s (x,v)):JL GT b post (.tup [.agg [.v (.int .i64 x.op), .v (.int .i64 x.mn), .v (.int .i64 x.mx), .list 2 (x.rs.map enc), .list 5 (x.kids.map enc)], .v (.bool v)]) H:=by
 have e:(D.agg [.v (.int .i64 x.op), .v (.int .i64 x.mn), .v (.int .i64 x.mx), .list 2 (x.rs.map enc), .list 5 (x.kids.map enc)])=enc x:=by simp
 rw[e];exact qvL s h0 a
set_option maxHeartbeats 1000000 in
theorem Uf(h1:S bD=wL)(h2:S Di=qiD)(h3:S kY=qiF)(h4:S iU=s_crune)(h5:S eu=U3):wz eN eF S a0 GT (λs z=>∃r,qfs s z=some r) (λs z s' y=>qfs s z=some (s',y)):=by
 rintro b s ⟨⟩ ⟨r,hr⟩;have hr0:=hr;obtain⟨c,hc,h⟩:=qF3.1 hr;have hsz:=DT hc;have h128:c< 128:=by
  rcases hsz.2 with⟨_,rfl⟩|⟨_,_,_,x,_,hlt,rfl⟩ <;>omega
 split at h
 ·cases h
 rename_i e40;split at h
 ·rename_i e46;subst e46;have hp:InR .i64 (s.pos+1):=by
   rcases hsz.2 with⟨_,e⟩|⟨_,_,_,x,_,hlt,e⟩
   ·cases e
   ·simp only[InR];omega
  cases h;simp[eN,eF,h1,h2,lV,hc,hp,-fB',-eB'];exactλ_=>Gx s.bump (by simp[Rp.bump]) hr0
 rename_i e46;split at h
 ·rename_i e91;subst e91;obtain⟨s',x',t'⟩:=r;simp[eN,eF,h1,h3,lV,hc,h,-fB',-eB'];exactλ_=>Gx s' (by simp) hr0
 rename_i e91;split at h
 ·cases h
 ·rename_i hn;obtain⟨q,hq,rfl⟩:=qGe.1 h;obtain⟨s',⟨c'⟩,t'⟩:=q;have hq':=hq;obtain⟨c2,hc2,h'⟩:=qF3.1 hq';rw[hc]at hc2;obtain rfl:=qGf hc2;split at h'
  ·cases h'
  rename_i hn2;have n0:0<=c:=by omega
  have n92:c≠92:=λe=>hn2 (.inr e)
  have nin:qog ⟨#[92,46,91,93,40,41,123,125,124,42,43,63]⟩ c=false:=by
   cases e:qog ⟨#[92,46,91,93,40,41,123,125,124,42,43,63]⟩ c with
   |false=>rfl
   |true=>exact absurd ⟨n92,e⟩ hn
  have hq2:Fb s ⟨#[92,46,91,93,40,41,123,125,124,42,43,63]⟩=some (s',⟨c'⟩,t'):=hq;simp[eN,eF,h1,h2,h4,h5,lV,hc,e40,e46,e91,n0,n92,h128,nin,hq2,-fB',-eB'];exactλ_=>Gx s' (by simp) hr0
abbrev qiC:Spc:=qhz a0 GT qjn
def qfn{p:Rp}{c:Int}(h:QA p=some c):c< 128/\ -1<=c/\(0<=c->InR .i64 (p.pos+1)):=by
 obtain⟨h1,h2⟩:=DT h;rcases h2 with⟨_,rfl⟩|⟨_,_,_,x,_,a,rfl⟩
 ·exact⟨by omega,by omega,λh=>absurd h (by omega)⟩
 ·exact⟨by omega,by omega,λ_=>by simp only[InR];omega⟩
def qgd{c:Int}{m:Int×Int}(h:RB c=some m):c=42/\m=(0, -1)\/c=43/\m=(1, -1)\/c=63/\m=(0,1):=by
 unfold RB at h;split at h
 ·exact .inl ⟨by assumption,(qGf h).symm⟩
 split at h
 ·exact .inr (.inl ⟨by assumption,(qGf h).symm⟩)
 split at h
 ·exact .inr (.inr ⟨by assumption,(qGf h).symm⟩)
 cases h
def SW{c:Int}(h:RB c=none):c≠42/\c≠43/\c≠63:=by
 unfold RB at h;refine⟨λe=>?_,λe=>?_,λe=>?_⟩ <;>(subst e;simp at h)
def Ab(o:Option (Int×Int))(x:Rx):List D:=match o with
 |none=>[.v (.int .i64 x.op), .v (.int .i64 x.mn), .v (.int .i64 x.mx), .list 2 (x.rs.map enc), .list 5 (x.kids.map enc)]
 |some m=>[.v (.int .i64 4), .v (.int .i64 m.1), .v (.int .i64 m.2), .v (.slice none 0 0), .list 5 [enc x]]
def qvK{b:Nat}{post:Rp->(Rx×Bool)->Prop}{m:Int×Int}{e:Rx}{H:ab}(s:Rp)(h0:H 0=some (.box b (tJ s)))(d:post s (⟨4,m.1,m.2, [], [e]⟩,true)):JL GT b post (.tup [.agg (Ab (some m) e), .v (.bool true)]) H:=by
 refine I0 s (⟨4,m.1,m.2, [], [e]⟩,true) (.tup rfl λk c c' hc a=>?_) h0 d
 match k with
 | 0=>cases hc;cases a;exact WB [] [e] (.nil _) (.same _)
 | 1=>cases hc;cases a;exact .same _
 |k+2=>simp at hc
set_option maxHeartbeats 2000000 in
theorem NQ(h1:S bD=wL)(h2:S mz=qd3):wz je iI S a0 GT (λs z=>∃r,qjn s z=some r) (λs z s' y=>qjn s z=some (s',y)):=by
 rintro b s ⟨⟩ ⟨r,hr⟩;have hr0:=hr;obtain⟨⟨s1,e,ok⟩,ha,h⟩:=qF3.1 hr;simp only at h;split at h
 rotate_left
 ·cases h
 rename_i hok;subst hok;obtain⟨c,hc,h⟩:=qF3.1 h;split at h
 ·cases h
 rename_i e123;have hcc:=qfn hc;simp[je,iI,h2,ha,-fB',-eB'];intro b2 b4;refine aA (X:=Option (Int×Int)) [0,2,4,5] [2] (λo=>∀m,o=some m->RB c=some m) (λ_=>[]) (λo=>[(0, .box b (tJ (match o with|none=>s1|some _=>s1.bump))),(4, .box b4 (Ab o e))]) (λo=>match o with|none=>1|some _=>0) none (λm h=>by cases h) ?_ (hh:=by simp[Ab]);rintro(_|m) hP
 ·cases hm:RB c with
  | none=>
    rw[hm]at h;cases h;obtain⟨n1,n2,n3⟩:=SW hm;simp[Ab,h1,lV,hc,n1,n2,n3,e123,-fB',-eB'];exact Gx s1 (by simp) hr0
  | some m=>
    rcases qgd hm with⟨rfl,rfl⟩|⟨rfl,rfl⟩|⟨rfl,rfl⟩
    all_goals
     have hin:=hcc.2.2 (by omega);simp[Ab,h1,lV,hc,hin,-fB',-eB']
     first
      |exact⟨some (0, -1),by simp,⟨.inl ⟨rfl,rfl,rfl,rfl⟩, .inl rfl⟩,rfl⟩
      |exact⟨some (1, -1),by simp,⟨.inl ⟨rfl,rfl,rfl,rfl⟩, .inl rfl⟩,rfl⟩
      |exact⟨some (0,1),by simp,⟨.inl ⟨rfl,rfl,rfl,rfl⟩, .inl rfl⟩,rfl⟩
 ·have hm:=hP m rfl;rw[hm]at h;simp only at h;obtain⟨d,hd,h⟩:=qF3.1 h;split at h
  ·cases h
  rename_i hn;cases h;have hd':d≠123/\RB d=none:=⟨λe=>hn (.inl e),by
   cases q:RB d with
   |none=>rfl
   |some q'=>exact absurd (.inr (by rw[q];rfl)) hn⟩
  obtain⟨n1,n2,n3⟩:=SW hd'.2;have n4:=hd'.1;simp[Ab,h1,lV,hd,n1,n2,n3,n4,-fB',-eB'];simpa [Ab,-fB',-eB']using qvK (e:=e) (m:=m) s1.bump (by simp) hr0
def qqT{p:Rp}{q:Rp× (Rx×Bool)}(h:qjn p ()=some q):q.2.2=true:=by
 obtain⟨a,_,h⟩:=qF3.1 h;split at h
 ·obtain⟨c,_,h⟩:=qF3.1 h;split at h
  ·cases h
  ·split at h
   ·obtain⟨d,_,h⟩:=qF3.1 h;split at h
    ·cases h
    ·cases h;rfl
   ·cases h;rfl
 ·cases h
def ZL{op:Int}{l:List Rx}(h:l.length≠1):qcL op l=⟨op,0,0, [],l⟩:=by
 match l,h with
 | [],_=>rfl
 | [e],h=>exact absurd rfl h
 | _::_::_,_=>rfl
theorem qkM{b:Nat}{post:Rp->(Rx×Bool)->Prop}{op:Int}{l:List Rx}{id el:Nat}{v:Value}{H:ab}(s:Rp)(h0:H 0=some (.box b (tJ s)))(hi:id≠0)(h1:H id=some (.row v el 5 (l.map enc)))(h:post s (⟨op,0,0, [],l⟩,true)):
 JL GT b post (.tup [.agg [.v (.int .i64 op), .v (.int .i64 0), .v (.int .i64 0), .v (.slice none 0 0), .own id v], .v (.bool true)]) H:=by
 refine I0 s (⟨op,0,0, [],l⟩,true) (.tup rfl λk c c' hc a=>?_) h0 h
 match k with
 | 0=>
   cases hc;cases a;refine WB [] l (.nil _) (.row (el:=el) (by simp[hi];exact h1) rfl (λd j=>?_) (λk c c' hc a=>?_))
   ·obtain⟨x,_,rfl⟩:=qGd.1 j;exact⟨Cod.kn x,Cod.wid x⟩
   ·rw[hc]at a;cases a;exact .same _
 | 1=>cases hc;cases a;exact .same _
 |k+2=>simp at hc
abbrev qiG:Spc:=qhz a0 GT qlD
set_option maxHeartbeats 2000000 in
theorem NT(h1:S bD=wL)(h2:S jP=qiC):wz jh iK S a0 GT (λs z=>∃r,qlD s z=some r) (λs z s' y=>qlD s z=some (s',y)):=by
 rintro b s ⟨⟩ ⟨r,hr⟩;have hr0:=hr;obtain⟨⟨s',l'⟩,hl,hr⟩:=qGe.1 hr;simp only at hr;subst hr;obtain⟨c0,hc0⟩:∃c,QA s=some c:=by
  rw[qa3]at hl;obtain⟨c,hc,_⟩:=qF3.1 hl;exact⟨c,hc⟩
 simp[jh,iK,h1,lV,hc0,-fB',-eB'];intro b2;refine aA (X:=Nat×Rp×Value×List Rx×Int) [0,2] [2] (λz=>qa3 z.1 z.2.1 z.2.2.2.1=some (s',l')/\z.2.2.2.1.length+z.1<=100/\QA z.2.1=some z.2.2.2.2) (λz=>[(4, .own 36 z.2.2.1),(5, .v (.int .i32 z.2.2.2.2))]) (λz=>[(0, .box b (tJ z.2.1)),(36, .row z.2.2.1 Cy 5 (z.2.2.2.1.map enc))]) (λz=>z.1) (100,s, .slice none 0 0, [],c0) ⟨hl,by simp,hc0⟩ ?_ (hh:=by simp[isNilRow]);clear hl;rintro⟨k,p,v,l,c⟩ ⟨hk,hlen,hc⟩;simp only at hk hlen hc;obtain _|k:=k
 ·rw[qa3]at hk;cases hk
 rw[qa3,hc]at hk;simp only[qGt]at hk;split at hk
 ·rename_i hend;cases hk;have hlt:(l'.length:Int)<=9223372036854775807:=by omega
  by_cases hl1:l'.length=1
  ·obtain⟨e,rfl⟩:∃e,l'=[e]:=qHh.1 hl1;rcases hend with h|rfl|rfl
   ·have h':¬0<=c:=by omega
    simp[h',-fB',-eB'];exact Gx s' (by simp) hr0
   all_goals
    simp[-fB',-eB'];exact Gx s' (by simp) hr0
  ·rw[ZL hl1]at hr0;have hl1':¬(l'.length:Int)=1:=by omega
   rcases hend with h|rfl|rfl
   ·have h':¬0<=c:=by omega
    simp[h',hl1,hl1',hlt,-fB',-eB'];exact qkM (el:=Cy) s' (by simp) (by decide) (by simp) hr0
   all_goals
    simp[hl1,hl1',hlt,-fB',-eB'];exact qkM (el:=Cy) s' (by simp) (by decide) (by simp) hr0
 ·rename_i hgo;obtain⟨q,hq,hk⟩:=qF3.1 hk;split at hk
  ·cases hk
  rename_i hop;have hok:=qqT hq;obtain⟨p',e,ok⟩:=q;simp only at hk hok hop;subst hok;have n1:0<=c:=by omega
  have n2:c≠124:=by omega
  have n3:c≠41:=by omega
  obtain⟨c1,hc1⟩:∃c,QA p'=some c:=by
   obtain _|k:=k
   ·rw[qa3]at hk;cases hk
   rw[qa3]at hk;obtain⟨c,hc,_⟩:=qF3.1 hk;exact⟨c,hc⟩
  simp[h1,h2,lV,hc1,hq,n1,n2,n3,hop,-fB',-eB'];exact⟨by omega,by omega,λv=>⟨k,p',v,l++ [e],c1,⟨hk,by simp;omega,hc1⟩,⟨⟨rfl,rfl⟩, .inl ⟨rfl,rfl,rfl,rfl⟩, .inl ⟨rfl,by simp⟩⟩,by omega⟩⟩
def qsl{p:Rp}{q:Rp× (Rx×Bool)}(h:qlD p ()=some q):q.2.2=true:=by
 obtain⟨a,_,rfl⟩:=qGe.1 h;rfl
abbrev qiB:Spc:=qhz a0 GT qm8
set_option maxHeartbeats 2000000 in
theorem Q2(h1:S bD=wL)(h2:S jR=qiG):wz jU jJ S a0 GT (λs z=>∃r,qm8 s z=some r) (λs z s' y=>qm8 s z=some (s',y)):=by
 rintro b s ⟨⟩ ⟨r,hr⟩;have hr0:=hr;obtain⟨⟨s',l'⟩,hl,hr⟩:=qGe.1 hr;simp only at hr;subst hr;simp[jU,jJ,-fB',-eB'];intro b2;refine aA (X:=Nat×Rp×Value×List Rx) [0,2] [2] (λz=>qh4 z.1 z.2.1 z.2.2.2=some (s',l')/\z.2.2.2.length+z.1<=100) (λz=>[(4, .own 25 z.2.2.1)]) (λz=>[(0, .box b (tJ z.2.1)),(25, .row z.2.2.1 Cy 5 (z.2.2.2.map enc))]) (λz=>z.1) (100,s, .slice none 0 0, []) ⟨hl,by simp⟩ ?_ (hh:=by simp[isNilRow]);clear hl;rintro⟨k,p,v,l⟩ ⟨hk,hlen⟩;simp only at hk hlen;obtain _|k:=k
 ·rw[qh4]at hk;cases hk
 rw[qh4]at hk;obtain⟨⟨p',e,ok⟩,hq,hk2⟩:=qF3.1 hk;clear hk;obtain⟨c,hc,hk3⟩:=qF3.1 hk2;clear hk2;have hok:=qsl hq;simp only at hok hc hk3;subst hok;have hop:¬e.op=3:=λh=>by rw[if_pos h]at hk3;cases hk3
 rw[if_neg hop]at hk3;have hcc:=qfn hc;by_cases hc124:c=124
 ·rw[if_pos hc124]at hk3;have hk:=hk3;subst hc124;have hin:=hcc.2.2 (by omega);simp[h1,h2,lV,hc,hq,hop,hin,-fB',-eB'];exact⟨by omega,by omega,λv=>⟨k,p'.bump,v,l++ [e],⟨hk,by simp;omega⟩,⟨rfl, .inl ⟨rfl,rfl,rfl,rfl⟩, .inl ⟨rfl,by simp⟩⟩,by omega⟩⟩
 ·rw[if_neg hc124]at hk3;cases hk3;have hlt:((l++ [e]).length:Int)<=9223372036854775807:=by simp;omega
  have hcc':¬c=124:=hc124;cases l with
  | nil=>
    simp[h1,h2,lV,hc,hq,hop,hcc',-fB',-eB'];exactλv=>Gx s' (by simp) hr0
  | cons x l=>
    simp[h1,h2,lV,hc,hq,hop,hcc',-fB',-eB'];have hr1:=hr0;rw[ZL (by simp)]at hr1;exact⟨by simp at hlen;omega,by simp at hlen;omega,λv _=>⟨λh=>absurd h (by omega),λ_=>qkM (el:=Cy) (l:=x::l++ [e]) s' (by simp) (by decide) (by simp) hr1⟩⟩
end
section
open Go.Proofs
def gN:CC:=gq Tryz.f367 [] {} _
def gG:List ai:=[]
def xQ:FO eP [] gN gG 14:=fo
def ee:CC:=gq Tryz.f372 [] {} _
def dW:List ai:=[]
def qQ:FO eG [] ee dW 148:=fo
def cN:CC:=gq Tryz.f374 [] {} _
def cJ:List ai:=[]
def mu:FO cZ [] cN cJ 53:=fo
def rC:CC:=gq Tryz.f168 [] {} _
def qH:List ai:=[.tmp 2]
def KM:FO tE [] rC qH 8:=fo
def nM:CC:=gq Tryz.f233 [] {} _
def nz:List ai:=[.tmp 2]
def F8:FO pM [] nM nz 25:=fo
def mL:CC:=gq Tryz.f369 [] {} _
def mr:List ai:=[.tmp 4]
def EF:FO nI [] mL mr 20:=fo
def qo:CC:=gq Tryz.f373 [] {} _
def pg:List ai:=[.tmp 2]
def IF:FO rj [] qo pg 6:=fo
def pY:CC:=gq Tryz.f368 [2,3] {} _
def ox:List ai:=[.tmp 4]
def Ip:FO du [2,3] pY ox 10:=fo
def tK:CC:=gq Tryz.f362 [2044048] { bx:=[0] } _
def tc:List ai:=[.tmp 2]
def MR:FO vC [2044048] tK tc 51:=fo
open Cod (enc dec)
variable {S S0:Nat->Spc}
abbrev qiR:Spc:=ax (a1 I32) (λ_=>True) (enc (X:=Bool)) λ_ y=>y=false
def Ka:aq qo pg S (a1 I32) (λ_=>True) (enc (X:=Bool)) λ_ y=>y=false:=by
 rintro x -;simp[qo,pg,-fB']
def qdq(a b:Int):Int:=if a<b then -1 else if b<a then 1 else 0
abbrev qi0:Spc:=ax (a2 I32 I32) (λ_=>True) (enc (X:=Int)) λx y=>y=qdq x.1.val x.2.val
def FG(h1:S rj=qiR):aq mL mr S (a2 I32 I32) (λ_=>True) (enc (X:=Int)) λx y=>y=qdq x.1.val x.2.val:=by
 rintro⟨⟨x⟩,⟨y⟩⟩ -;simp[mL,mr,h1,-fB',-eB'];grind [Spc,qdq]
abbrev qiS:Spc:=ax (a2 Rng Rng) (λ_=>True) (enc (X:=Int)) λx y=>y=qdq x.1.fr.val x.2.fr.val
def JV(h1:S nI=qi0):aq pY ox S (a2 Rng Rng) (λ_=>True) (enc (X:=Int)) λx y=>y=qdq x.1.fr.val x.2.fr.val:=by
 rintro⟨x,y⟩ -;simp[pY,ox,h1,-fB',-eB']
abbrev qep:Spc:=ax (a1 U64) (λx=>0<=x.val/\x.val<=200) (enc (X:=Int)) λ_ _=>True
def qmf(x:List Rng×Int×Int×D×Unit):Prop:=Kl x.1=true/\x.2.1=0/\x.2.2.1=x.1.length/\x.2.2.2.1= .clo du []
abbrev qiT:Spc:=ax (aE (List Rng) (aE Int (aE Int (aD a0)))) qmf WM λ_ _=>True
def HX{l:List Rng}(h:Kl l=true):1<=l.length/\l.length<=2:=by
 match l,h with
 | [x],_=>simp
 | [x,y],_=>simp
def YY:∀{l:List Rng},Kl l=true->1<l.length->∃x y,l=[x,y]
 | [x,y],_,_=>⟨x,y,rfl⟩
 | [x],_,h=>by grind
def qig:∀{l:List Rng} {x:Rng},l[0]? =some x->(l.take 1).foldl uu []=[x]
 |y::l,x,h=>by cases h;rfl
theorem Q1(h1:S du=qiS):aq cN cJ S (aE (List Rng) (aE Int (aE Int (aD a0)))) qmf WM λ_ _=>True:=by
 rintro⟨l,a,b,d,⟨⟩⟩ ⟨hs,j,hb,k⟩;simp only at hs j hb k;subst j;subst hb;subst k;simp[cN,cJ,-fB',-eB'];have c:=HX hs;refine⟨by grind [Spc,InR],?_⟩;refine aA (X:=Nat) [0,1,2,3] [] (λi=>1<=i/\i<=l.length) (λi=>[(8,enc (i:Int))]) (λ_=>[]) (λi=>l.length -i) 1 ⟨qGb 1,c.1⟩ ?_;rintro i ⟨p,q⟩;by_cases h:i<l.length
 ·obtain rfl:i=1:=by omega
  obtain⟨x,y,rfl⟩:=YY hs h;simp[-fB',-eB'];refine aA (X:=Unit) [0,1,2,3,8] [] (λ_=>True) (λ_=>[(9,enc (1:Int))]) (λ_=>[]) (λ_=>0) () trivial ?_;rintro - -;have hc:¬qdq y.fr.val x.fr.val< 0:=by
   simp[Kl]at hs;unfold qdq;omega
  simp[h1,hc,-fB',-eB'];exact⟨by grind [Spc,InR],λ_=>⟨by grind [Spc,InR],2,⟨by omega,by omega⟩,rfl,rfl⟩⟩
 ·obtain rfl:i=l.length:=by omega
  simp[-fB',-eB'];exact aL (Y:=Unit) () (.same _) trivial
abbrev qiP:Spc:=ax (aE (List Rng) (aE Int (aE Int (aE Int (aD a0))))) (λx=>qmf (x.1,x.2.1,x.2.2.1,x.2.2.2.2)) WM λ_ _=>True
def Q0(h1:S cZ=qiT):aq ee dW S (aE (List Rng) (aE Int (aE Int (aE Int (aD a0))))) (λx=>qmf (x.1,x.2.1,x.2.2.1,x.2.2.2.2)) WM λ_ _=>True:=by
 rintro⟨l,a,b,q,d,⟨⟩⟩ hp;have c:=hp;obtain⟨hs,k,hb,p⟩:=hp;simp only at hs k hb p c;subst k;subst hb;subst p;have r:=HX hs;simp[ee,dW,-fB',-eB'];refine aA (X:=Unit) [0,1,2,3,4,10,11] [] (λ_=>True) (λ_=>[]) (λ_=>[]) (λ_=>0) () trivial ?_;rintro - -;have h:(l.length:Int)<=12:=by omega
 have j:InR .i64 (l.length:Int):=by grind [Spc,InR]
 simp[h1,h,j,c,-fB',-eB'];exact aL (Y:=Unit) () (.same _) trivial
abbrev qno:Spc:=ax (aE (List Rng) (aD a0)) (λx=>Kl x.1=true/\x.2.1= .clo du []) WM λ_ _=>True
def yM(h1:S tE=qep)(h2:S eG=qiP):aq gN gG S (aE (List Rng) (aD a0)) (λx=>Kl x.1=true/\x.2.1= .clo du []) WM λ_ _=>True:=by
 rintro⟨l,d,⟨⟩⟩ ⟨hs,b⟩;simp only at hs b;subst b;have c:=HX hs;have hp:qmf (l,0,(l.length:Int), .clo du [],()):=⟨hs,rfl,rfl,rfl⟩
 have h:IntKind.u64.wrap (l.length:Int)=l.length:=by grind [IntKind.wrap_u64]
 have a:(l.length:Int)<=200:=by omega
 simp[gN,gG,h1,h2,hp,h,a,-fB',-eB'];exactλ_=>aL (Y:=Unit) () (.same _) trivial
abbrev Zx:Spc:=ax (a1 U64) (λx=>0<=x.val/\x.val<=200) (enc (X:=Int)) λ_ _=>True
def qbY(h1:S pM=Zx):aq rC qH S (a1 U64) (λx=>0<=x.val/\x.val<=200) (enc (X:=Int)) λ_ _=>True:=by
 rintro⟨x⟩ ⟨h0,h2⟩;simp_all [rC,qH]
def UG:aq nM nz S (a1 U64) (λx=>0<=x.val/\x.val<=200) (enc (X:=Int)) λ_ _=>True:=by
 rintro⟨x⟩ ⟨h0,h2⟩;simp only at h0 h2;have c1:¬4294967296<=x:=by omega
 have c2:¬65536<=x:=by omega
 have c3:¬256<=x:=by omega
 have a:IntKind.u8.wrap x=x:=by grind [IntKind.wrap_u8]
 simp[nM,nz,c1,c2,c3,a,h0,-fB',-eB'];refine⟨Int.lt_of_le_of_lt h2 (by decide),λc _=>?_⟩;have:=c.toNat_lt;have b:IntKind.i64.wrap (c.toNat:Int)=c.toNat:=by grind [IntKind.wrap_i64]
 grind [InR]
abbrev qfr:Spc:=qzX (Y:=Rng) (aD a0) (λx=>Kl x.1=true/\x.2.1= .clo du []) WM (λ_ _=>True) yX 2
abbrev Zh:Spc:=qu0 (Y:=Rng) a0 (λ_ l=>Kl l=true) (λ_ l r=>r=IL l) yX 2
set_option maxHeartbeats 1000000 in
theorem NR(h1:S eP=qfr):Xm (Y:=Rng) tK tc S a0 (λ_ l=>Kl l=true) (λ_ l r=>r=IL l) yX 2:=by
 rintro v l ⟨⟩ hs;have hs:Kl l=true:=hs;have hl2:=HX hs;simp[tK,tc,h1,hs,-fB',-eB'];intro _;refine ah (X:=Value×List Rng) [9] [0] l.length (λk x=>x.2=(l.take k).foldl uu []) (λx=>[(3, .own 48 x.1)]) (λx=>[(48, .row x.1 yX 2 (x.2.map enc))]) (.slice none 0 0, []) rfl ?_ ?_ (hh:=by simp[isNilRow])
 ·rintro k ⟨v',out⟩ hk hP;simp only at hP;have hk2:k=0\/k=1:=by omega
  rcases hk2 with rfl|rfl
  ·obtain⟨x,hx⟩:∃x,l[0]? =some x:=⟨_,qF6 hk⟩
   obtain⟨_,hgx⟩:=qF4.1 hx;have ho:out=[]:=by rw[hP];rfl
   subst ho;have h1:=qig hx;simp[hk,hx,hgx,h1,-fB',-eB']
  ·obtain⟨x,y,rfl⟩:=YY hs hk;have ho:out=[x]:=by rw[hP];rfl
   subst ho;simp[Kl]at hs;by_cases hle:y.fr.val<=x.to.val+1
   ·have hst:uu (uu [] x) y=[⟨x.fr,⟨max x.to.val y.to.val⟩⟩]:=by simp[uu,hle]
    have hr:InR .i32 (x.to.val+1):=by simp only[InR];omega
    simp[hle,hst,hr,-fB',-eB'];simp only[InR];omega
   ·have hst:uu (uu [] x) y=[x,y]:=by simp[uu,hle]
    have hr:InR .i32 (x.to.val+1):=by simp only[InR];omega
    simp[hle,hst,hr,-fB',-eB'];simp only[InR];omega
 ·rintro⟨v',out⟩ hP;simp only at hP;rw[qGc]at hP;subst hP;simp[-fB',-eB'];exact dM (IL l) (by simp[IL]) rfl
def qlA{p:Rp}{a:B}{q:Rp× (I32×Bool)}{c:Int}(hc:QA p=some c)(h:Fb p a=some q):q=(p.bump,⟨c⟩,true):=by
 unfold Fb at h;rw[hc,qGt]at h;split at h
 ·cases h
 ·exact(qGf h).symm
def qnY{p:Rp}{q:Rp× (I32×Bool)}{c:Int}(hc:QA p=some c)(h:Z5 p ()=some q):q=(p.bump,⟨c⟩,true):=by
 unfold Z5 at h;rw[hc,qGt]at h;split at h
 ·cases h
 ·exact qlA hc h
theorem qvJ{b:Nat}{post:Rp->(Rx×Bool)->Prop}{l:List Rng}{id el:Nat}{v:Value}{H:ab}(s:Rp)(h0:H 0=some (.box b (tJ s)))(hi:id≠0)(h1:H id=some (.row v el 2 (l.map enc)))(h:post s (⟨1,0,0,l, []⟩,true)):
 JL GT b post (.tup [.agg [.v (.int .i64 1), .v (.int .i64 0), .v (.int .i64 0), .own id v, .v (.slice none 0 0)], .v (.bool true)]) H:=by
 refine I0 s (⟨1,0,0,l, []⟩,true) (.tup rfl λk c c' hc a=>?_) h0 h
 match k with
 | 0=>
   cases hc;cases a;refine WB l [] (.row (el:=el) (by simp[hi];exact h1) rfl (λd j=>?_) (λk c c' hc a=>?_)) (.nil _)
   ·obtain⟨x,_,rfl⟩:=qGd.1 j;exact⟨Cod.kn x,Cod.wid x⟩
   ·rw[hc]at a;cases a;exact .same _
 | 1=>cases hc;cases a;exact .same _
 |k+2=>simp at hc
set_option maxHeartbeats 2000000 in
theorem Q5(h1:S bD=wL)(h2:S jQ=qiE)(h3:S vC=Zh):wz jV jK S a0 GT (λs z=>∃r,qoQ s z=some r) (λs z s' y=>qoQ s z=some (s',y)):=by
 rintro b s ⟨⟩ ⟨r,hr⟩;have hr0:=hr;obtain⟨a0,ha0,h⟩:=qF3.1 hr;have e91:¬a0≠91:=λe=>by rw[if_pos e]at h;cases h
 rw[if_neg e91]at h;have hin:=(qfn ha0).2.2 (by omega);obtain⟨c0,hc0,h⟩:=qF3.1 h;have n94:¬c0=94:=λe=>by rw[if_pos e]at h;cases h
 rw[if_neg n94]at h;obtain⟨⟨s',l'⟩,hl,h⟩:=qF3.1 h;simp only at h;have hsrt:Kl l'=true:=by
  split at h
  ·assumption
  ·cases h
 rw[if_pos hsrt]at h;cases h;have hc1:QA ⟨s.s,s.pos+1,s.fault,s.e⟩=some c0:=hc0;simp[jV,jK,h1,lV,hin,hc1,n94,-fB',-eB'];intro b2;refine aA (X:=Nat×Rp×Value×List Rng) [0,2,4,5] [2] (λz=>qly z.1 z.2.1 z.2.2.2=some (s',l')/\z.2.2.2.length+z.1<=100) (λz=>[(6, .own 86 z.2.2.1)]) (λz=>[(0, .box b (tJ z.2.1)),(86, .row z.2.2.1 yX 2 (z.2.2.2.map enc))]) (λz=>z.1) (100,s.bump, .slice none 0 0, []) ⟨hl,by simp⟩ ?_ (hh:=by simp[isNilRow,Rp.bump]);clear hl;rintro⟨k,p,v,l⟩ ⟨hk,hlen⟩;simp only at hk hlen;obtain _|k:=k
 ·rw[qly]at hk;cases hk
 rw[qly]at hk;obtain⟨c,hc,hk2⟩:=qF3.1 hk;clear hk;have hlt:(l.length:Int)<=9223372036854775807:=by omega
 by_cases hend:l≠ []/\c=93
 ·rw[if_pos hend]at hk2;cases hk2;obtain⟨hne,rfl⟩:=hend;have hin2:=(qfn hc).2.2 (by omega);have hl0:¬l'.length=0:=λe=>hne (qGW.1 e)
  simp(config:={ maxSteps:=2000000 }) [h1,h3,lV,hc,hlt,hne,hl0,hin2,hsrt,-fB',-eB'];exactλv'=>qvJ (el:=yX) s'.bump (by simp[Rp.bump]) (by decide) (by simp) hr0
 ·rw[if_neg hend]at hk2;obtain⟨q,hq,hk3⟩:=qF3.1 hk2;clear hk2;obtain⟨d,hd,hk4⟩:=qF3.1 hk3;clear hk3;have hqv:=qnY hc hq;subst hqv;simp only at hd hk4;have n45:¬d=45:=λe=>by rw[if_pos e]at hk4;cases hk4
  rw[if_neg n45]at hk4;have hd':QA ⟨p.s,p.pos+1,p.fault,p.e⟩=some d:=hd;cases l with
  | nil=>
    simp(config:={ maxSteps:=2000000 }) [h1,h2,lV,hq,hd',n45,Rp.bump,-fB',-eB'];exactλv=>⟨k,p.bump,v, [⟨⟨c⟩,⟨c⟩⟩],⟨hk4,by simp at hlen ⊢;omega⟩,⟨rfl, .inl ⟨rfl,rfl,rfl,rfl⟩, .inl ⟨rfl,by simp⟩⟩,by omega⟩
  | cons x l=>
    have n93:¬c=93:=λe=>hend ⟨by simp,e⟩
    simp(config:={ maxSteps:=2000000 }) [h1,h2,lV,hc,hq,hd',n45,n93,Rp.bump,-fB',-eB'];have hlen2:l.length+1+ (k+1)<=100:=by simpa using hlen
    first
     |exactλ_ _=>⟨by omega,by omega,λv=>⟨k,p.bump,v,x::l++ [⟨⟨c⟩,⟨c⟩⟩],⟨hk4,by simp;omega⟩,⟨rfl, .inl ⟨rfl,rfl,rfl,rfl⟩, .inl ⟨rfl,by simp⟩⟩,by omega⟩⟩
     |exact⟨by omega,by omega,by omega,λv=>⟨k,p.bump,v,x::l++ [⟨⟨c⟩,⟨c⟩⟩],⟨hk4,by simp;omega⟩,⟨rfl, .inl ⟨rfl,rfl,rfl,rfl⟩, .inl ⟨rfl,by simp⟩⟩,by omega⟩⟩
     |exact⟨by omega,by omega,λv=>⟨k,p.bump,v,x::l++ [⟨⟨c⟩,⟨c⟩⟩],⟨hk4,by simp;omega⟩,⟨rfl, .inl ⟨rfl,rfl,rfl,rfl⟩, .inl ⟨rfl,by simp⟩⟩,by omega⟩⟩
     |(refineλ_=>⟨λ_=>?_,λ_=>?_⟩ <;>exact⟨by omega,by omega,λv=>⟨k,p.bump,v,x::l++ [⟨⟨c⟩,⟨c⟩⟩],⟨hk4,by simp;omega⟩,⟨rfl, .inl ⟨rfl,rfl,rfl,rfl⟩, .inl ⟨rfl,by simp⟩⟩,by omega⟩⟩)
end
section
open Cod (enc dec)
variable {dq:Prop}
def qAQ(F:Rx->Int->Int->Option (Bool×Int)):PT:=λd ds H K=>∃id b x n k r a,ds=[a, .v (.int .i64 n), .bptr id b 0]/\dec a=some x/\H id=some (.box b [.v (.int .i64 k)])/\F x n k=some r/\K (.v (.bool r.1)) (aj H id (some (.box b [.v (.int .i64 r.2)])))
def qnl(F:Rx->Int->Int->Option (Bool×Int)):qq (qAQ F):=λd ds H K c hk ⟨id,b,x,n,k,r,a,h1,h2,h3,h4,h5⟩=>⟨id,b,x,n,k,r,a,h1,h2,h3,h4,hk _ _ h5⟩
def qs5(F:Rx->Int->Int->Option (Bool×Int)):Spc:= .gen _ (qnl F)
def qxH(F:Rx->Int->Int->Option (Bool×Int))(o:Option Rx)(n:Int)(id b:Nat)(q:Option Res)(H:ab)(K:D->ab->Prop):Prop:=
 ∃k,q=some (.box b [.v (.int .i64 k)])/\gK o λx=>gK (F x n k) λr=>K (.v (.bool r.1)) (aj H id (some (.box b [.v (.int .i64 r.2)])))
@[congr] theorem qAP{F:Rx->Int->Int->Option (Bool×Int)}{o a:Option Rx}{n c:Int}{id b:Nat}{q d:Option Res}{H:ab}{K:D->ab->Prop}(h1:o=a)(h2:n=c)(h3:q=d):qxH F o n id b q H K=qxH F a c id b d H K:=by subst h1;subst h2;subst h3;rfl
@[simp] theorem qAR(F:Rx->Int->Int->Option (Bool×Int))(d id b:Nat)(a:D)(n:Int)(H:ab)(K:D->ab->Prop):(qs5 F).pt d [a, .v (.int .i64 n), .bptr id b 0] H K=qxH F (dec a) n id b (H id) H K:=by
 refine propext ⟨λh=>?_,λh=>?_⟩
 ·obtain⟨l,b',x,q,k,r,p,h1,h2,h3,h4,h5⟩:=h;cases h1;refine⟨k,h3,?_⟩;rw[h2];show gK (F x n k) _;rw[h4];exact h5
 ·obtain⟨k,h1,h2⟩:=h;cases c:dec (X:=Rx) a with
  |none=>rw[c]at h2;exact h2.elim
  | some x=>
    rw[c]at h2;have h2:gK (F x n k) _:=h2;cases j:F x n k with
    |none=>rw[j]at h2;exact h2.elim
    |some r=>rw[j]at h2;exact⟨id,b,x,n,k,r,a,rfl,c,h1,j,h2⟩
@[simp] theorem qD6(F:Rx->Int->Int->Option (Bool×Int))(o:Option Rx)(n:Int)(id b:Nat)(k:Int)(H:ab)(K:D->ab->Prop):
 qxH F o n id b (some (.box b [.v (.int .i64 k)])) H K=gK o λx=>gK (F x n k) λr=>K (.v (.bool r.1)) (aj H id (some (.box b [.v (.int .i64 r.2)]))):=by
 refine propext ⟨λ⟨a,h1,h2⟩=>?_,λh=>⟨k,rfl,h⟩⟩;cases h1;exact h2
def qw0(b:Nat)(q:Bool×Int)(r:D)(H:ab):Prop:=r= .v (.bool q.1)/\H 2=some (.box b [.v (.int .i64 q.2)])
def qlW(cc:CC)(rs:List ai)(S:Nat->Spc)(F:Rx->Int->Int->Option (Bool×Int)):Prop:=
 ∀b x n k q,F x n k=some q->vc S cc (wC rs λr H'=>qw0 b q r H') (dI [enc x, .v (.int .i64 n), .bptr 2 b 0]) (aj dm 2 (some (.box b [.v (.int .i64 k)])))
variable {P:Program}{S:Nat->Spc}{f:Nat}{im:List Nat}{cc:CC}{rs:List ai}{N:Nat}
theorem qb9{F:Rx->Int->Int->Option (Bool×Int)}(c:∀f,Tri dq P f (S f).pt)(h:BA P f im cc rs N)(l:3<=N)(p:qlW cc rs S F):Tri dq P f (qs5 F).pt:=by
 obtain⟨yH,enter,fn,code,h1,h2,h3,h4,h5⟩:=h;refine nU c yH h1 h2 enter h3 h4 h5 ?_;rintro ds H d K ⟨id,b,x,n,k,r,J,rfl,t,hid,u,w⟩;have h0:∀i q,aj dm 2 (some (.box b [.v (.int .i64 k)])) i=some q->i=2/\q= .box b [.v (.int .i64 k)]:=by
  intro i q h;by_cases e:i=2
  ·subst e;simp only[aj,if_true]at h;cases h;exact⟨rfl,rfl⟩
  ·simp[aj,e,dm]at h
 refine⟨l, [enc x, .v (.int .i64 n), .bptr 2 b 0],aj dm 2 (some (.box b [.v (.int .i64 k)])),λi=>if i=2 then id else i, .cons (Cod.le _ _ t) (.cons (.same _) (.cons (.bptr _ _ _ _) .nil)),λi q h=>?_,λi j q y h A e=>?_,_,p b x n k r u,?_⟩
 ·obtain⟨rfl,rfl⟩:=h0 i q h;exact hid
 ·exact(h0 i q h).1.trans (h0 j y A).1.symm
 ·rintro r' H' ⟨rfl,C⟩;refine⟨.v (.bool r.1),dm,aj H id (some (.box b [.v (.int .i64 r.2)])),λi=>if i=id then some 2 else none, .same _,λj q h=>by simp[dm]at h,w,λi s hi=>?_,λi j L s q hi M E I=>?_⟩
  ·by_cases e:i=id
   ·subst e;simp only[aj,if_true]at hi ⊢;cases hi;exact C
   ·simp only[aj,e,if_false]at hi ⊢;refine⟨hi,λa q h he=>?_⟩;obtain⟨rfl,rfl⟩:=h0 a q h;exact e he.symm
  ·by_cases c1:i=id
   ·by_cases c2:j=id
    ·exact c1.trans c2.symm
    ·simp[c2]at I
   ·simp[c1]at E
end
section
open Go.Proofs
def lj:CC:=gq Tryz.f303 [3] { bx:=[2],ke:=[2] } _
def kI:List ai:=[.tmp 6]
def Pb:FO rT [3] lj kI 36:=fo
def pX:CC:=gq Tryz.f345 [] {} _
def ow:List ai:=[.tmp 2]
def Io:FO qY [] pX ow 47:=fo
def ej:CC:=gq Tryz.f326 [1] {} _
def dZ:List ai:=[.tmp 2]
def F3:FO pA [1] ej dZ 101:=fo
def mE:CC:=gq Tryz.f304 [1] {} _
def mf:List ai:=[.tmp 2]
def Ez:FO iW [1] mE mf 19:=fo
def jd:CC:=gq Tryz.f305 [1] {} _
def iH:List ai:=[.tmp 2]
def F4:FO kq [1] jd iH 42:=fo
def qb:CC:=gq Tryz.f272 [1] {} _
def oJ:List ai:=[.tmp 2]
def Ir:FO lK [1] qb oJ 16:=fo
open Cod (enc dec)
variable {S S0:Nat->Spc}
def QF{X:Type}{l:List X}{k:Nat}(h:k<l.length):∃x,l[k]? =some x:=⟨_,qF6 h⟩
def Qg{X:Type}{l:List X}{k:Nat}{x:X}(h:l[k]? =some x):l.drop k=x::l.drop (k+1):=by
 grind [List.drop_eq_getElem_cons]
theorem Q3(n:Nat)(h1:S rT=qs5 (zX n)):qlW lj kI S (zX (n+1)):=by
 rintro b x d k ⟨ok,m⟩ l;have u:=l;simp only[zX]at l;split at l;grind;rename_i s;have j:InR .i64 (k+1):=by grind [InR]
 split at l
 ·rename_i p;cases l;by_cases c:40<d
  ·simp[lj,kI,j,c,-fB',-eB'];exact⟨rfl,by simp⟩
  ·have a:200<k+1:=by omega
   simp[lj,kI,j,c,a,-fB',-eB'];exact⟨rfl,by simp⟩
 ·rename_i p;have c:¬40<d:=by omega
  have a:¬200<k+1:=by omega
  simp[lj,kI,j,c,a,-fB',-eB'];intro w;refine ah (X:=Int) [1,2,23] [] x.kids.length (λi z=>quf (zX n) d (x.kids.drop i) z=some (ok,m)) (λz=>[]) (λz=>[(2, .box b [.v (.int .i64 z)])]) (k+1) l ?_ ?_
  ·rintro i z hi hz;obtain⟨y,r⟩:=QF hi;obtain⟨_,q⟩:=qF4.1 r;rw[Qg r,quf]at hz;obtain⟨⟨t,A⟩,hs,hz⟩:=qF3.1 hz;simp only at hz;have h:InR .i64 (d+1):=by grind [InR]
   cases t with
   | true=>
     simp only[if_true]at hz;simp[h1,hi,r,q,hs,h,-fB',-eB'];exact⟨A,hz, .inl rfl⟩
   | false=>
     simp only[qGQ,if_false]at hz;cases hz;simp[h1,hi,r,q,hs,h,-fB',-eB'];exact⟨rfl,by simp⟩
  ·rintro z hz;rw[qGU,quf]at hz;cases hz;simp[-fB',-eB'];exact⟨rfl,by simp⟩
abbrev Y7:Spc:=ax (a1 (List Rng)) (λl=>qeG l=true) (enc (X:=Bool)) λ_ y=>y=true
def JU:aq pX ow S (a1 (List Rng)) (λl=>qeG l=true) (enc (X:=Bool)) λ_ y=>y=true:=by
 rintro l hl;obtain⟨r,rfl⟩:∃r,l=[r]:=by
  match l,hl with
  | [r],_=>simp
 simp[qeG]at hl;simp[pX,ow,-fB',-eB'];refine ah (X:=Unit) [0,5] [] 1 (λ_ _=>True) (λ_=>[]) (λ_=>[]) () trivial ?_ ?_
 ·rintro k -hk -;obtain rfl:k=0:=by omega
  have a:¬r.fr.val< 0:=by omega
  have b:¬r.to.val<r.fr.val:=by omega
  have c:¬1114111<r.to.val:=by omega
  simp[a,b,c,-fB',-eB']
 simp
abbrev SF:Spc:=ax (a1 Rx) (λx=>quz x=true) (enc (X:=Bool)) λ_ y=>y=true
set_option maxHeartbeats 2000000 in
theorem Hk(h1:S qY=Y7):aq ej dZ S (a1 Rx) (λx=>quz x=true) (enc (X:=Bool)) λ_ y=>y=true:=by
 rintro⟨op,mn,mx,rs,ks⟩ hx;have hx:quz ⟨op,mn,mx,rs,ks⟩=true:=hx;unfold quz at hx;simp only at hx;split at hx
 ·rename_i e;subst e;simp at hx;obtain⟨⟨⟨rfl,rfl⟩,rfl⟩,hs⟩:=hx;simp[ej,dZ,h1,hs,-fB',-eB'];refine ah (X:=Unit) [1,3] [] 0 (λ_ _=>True) (λ_=>[]) (λ_=>[]) () trivial (λk x hk=>absurd hk (by omega)) (λ_ _=>?_);simp_all
 split at hx
 ·rename_i e1 e;subst e;simp at hx;obtain⟨⟨⟨⟨rfl,rfl⟩,rfl⟩,hl1,hl3⟩,hk2⟩:=hx;have hlt:(ks.length:Int)<=9223372036854775807:=by omega
  simp[ej,dZ,hlt,-fB',-eB'];refine ah (X:=Unit) [1,3,34] [] ks.length (λ_ _=>True) (λ_=>[]) (λ_=>[]) () trivial ?_ ?_
  ·rintro k -hk -;obtain⟨y,hy⟩:=QF hk;obtain⟨_,hgy⟩:=qF4.1 hy;have hop:=hk2 y (qF7 hy);simp[hk,hy,hgy,hop,-fB',-eB']
  simp;omega
 split at hx
 ·rename_i e1 e2 e;subst e;simp at hx;obtain⟨⟨⟨⟨rfl,rfl⟩,rfl⟩,hl1,hl3⟩,hk2⟩:=hx;have hlt:(ks.length:Int)<=9223372036854775807:=by omega
  simp[ej,dZ,hlt,-fB',-eB'];refine ah (X:=Unit) [1,3,34] [] ks.length (λ_ _=>True) (λ_=>[]) (λ_=>[]) () trivial ?_ ?_
  ·rintro k -hk -;obtain⟨y,hy⟩:=QF hk;obtain⟨_,hgy⟩:=qF4.1 hy;have hop:=hk2 y (qF7 hy);simp[hk,hy,hgy,hop,-fB',-eB']
  ·rintro - -;have hl1':(1:Int)<ks.length:=by omega
   simp[hl1,hl1',-fB',-eB']
 split at hx
 ·rename_i e1 e2 e3 e;subst e;simp at hx;obtain⟨⟨⟨g0,g1,g2⟩,rfl⟩,hl1⟩:=hx;obtain⟨k0,rfl⟩:∃k,ks=[k]:=qHh.1 hl1;simp[ej,dZ,-fB',-eB'];refine ah (X:=Unit) [1,3,34] [] 1 (λ_ _=>True) (λ_=>[]) (λ_=>[]) () trivial ?_ ?_
  ·rintro k -hk -;obtain rfl:k=0:=by omega
   simp[-fB',-eB']
  ·rintro - -;simp[g0,g1,-fB',-eB'];exactλh=>⟨λ_=>by omega,by omega⟩
 grind
abbrev FU(n:Nat):Spc:=ax (a1 Rx) (λx=>qgs n x=true) (enc (X:=Bool)) λ_ y=>y=true
def FA(n:Nat)(h1:S pA=SF)(h2:S iW=FU n):aq mE mf S (a1 Rx) (λx=>qgs (n+1) x=true) (enc (X:=Bool)) λ_ y=>y=true:=by
 rintro x a;have a:qgs (n+1) x=true:=a;simp only[qgs,qF9,qGa]at a;obtain⟨b,c⟩:=a;simp[mE,mf,h1,b,-fB',-eB'];intro d;refine ah (X:=Unit) [9] [] x.kids.length (λ_ _=>True) (λ_=>[]) (λ_=>[]) () trivial ?_ ?_;simp_all;simp
abbrev qct(n:Nat):Spc:=ax (a1 Rx) (λx=>∃m,Vv n x=some m) (enc (X:=Int)) λx y=>Vv n x=some y
set_option maxHeartbeats 1000000 in
theorem Hl(n:Nat)(h1:S kq=qct n):aq jd iH S (a1 Rx) (λx=>∃m,Vv (n+1) x=some m) (enc (X:=Int)) λx y=>Vv (n+1) x=some y:=by
 rintro x ⟨m,hm⟩;have hm0:=hm;simp only[Vv]at hm;split at hm;simp_all [jd,iH];rename_i e1;obtain⟨k,hk,hm⟩:=qF3.1 hm;simp[jd,iH,e1,-fB',-eB'];intro hkl;refine ah (X:=Int) [1,10] [] x.kids.length (λi z=>quv (Vv n) (x.kids.drop i) z=some k) (λz=>[(3,enc z)]) (λ_=>[]) 0 hk ?_ ?_
 ·rintro i z hi hz;obtain⟨y,hy⟩:=QF hi;obtain⟨_,hgy⟩:=qF4.1 hy;rw[Qg hy,quv]at hz;obtain⟨v,hv,hz⟩:=qF3.1 hz;split at hz;grind;rename_i hr;have hin:InR .i64 (z+v):=by simp only[InR];omega
  simp_all
 ·rintro z hz;rw[qGU,quv]at hz;cases hz;split at hm
  ·rename_i e4;cases hm;simp[e4,hm0,-fB',-eB']
  ·rename_i e4;have e4:x.op=4:=by omega
   unfold qux at hm;split at hm
   ·rename_i emx;split at hm
    ·rename_i hb;cases hm;have hin:InR .i64 (k*max x.mn 1):=by simp only[InR];omega
     simp[e4,emx,hin,hm0,-fB',-eB']
    ·cases hm
   ·rename_i emx;split at hm
    ·rename_i hb;cases hm;have hin:InR .i64 (k*x.mx):=by simp only[InR];omega
     simp[e4,emx,hin,hm0,-fB',-eB']
    ·cases hm
abbrev Zc:Spc:=ax (a1 Rx) (λx=>FI 50 x=true) (enc (X:=Int)) λx y=>y=0
def JX(h1:S rT=qs5 (zX 50))(h2:S iW=FU 50)(h3:S kq=qct 50):aq qb oJ S (a1 Rx) (λx=>FI 50 x=true) (enc (X:=Int)) λx y=>y=0:=by
 rintro x a;have a:FI 50 x=true:=a;simp only[FI,qF9]at a;obtain⟨⟨c,d⟩,h⟩:=a;obtain⟨⟨t,k⟩,hs,rfl⟩:∃r,zX 50 x 1 0=some r/\r.1=true:=by
  grind
 obtain⟨m,hm,b⟩:∃m,Vv 50 x=some m/\m<=64:=by
  grind
 simp_all [qb,oJ,Bool.forall_bool,Bool.exists_bool]
end
section
open Go.Proofs
def vX:CC:=gq Tryz.f208 [2002002] {} _
def uU:List ai:=[.cell 2 true 5, .tmp 3, .tmp 4]
def Pd:FO rV [2002002] vX uU 66:=fo
def wu:CC:=gq Tryz.f195 [] {} _
def vt:List ai:=[.tmp 2]
def Py:FO sa [] wu vt 13:=fo
def qa:CC:=gq Tryz.f308 [] {} _
def oz:List ai:=[.tmp 4]
def Iq:FO qZ [] qa oz 24:=fo
open Cod (enc dec)
variable {S S0:Nat->Spc}
def qEH{Y Z W V:Type}[Cod Y][Cod Z][Cod W][Cod V](x:Y×Z×W×V):D:= .tup [enc x.1,enc x.2.1,enc x.2.2.1,enc x.2.2.2]
@[simp] theorem qEG{Y Z W V:Type}[Cod Y][Cod Z][Cod W][Cod V](y:Y)(z:Z)(w:W)(v:V):qEH (y,z,w,v)= .tup [enc y,enc z,enc w,enc v]:=i' rfl
def qmp(s:B)(i:Int):I32×Int×Int×Bool:=match s.data[i.toNat]? with
 |some c=>(⟨c.toNat⟩,i,1,true)
 |none=>(⟨0⟩,0,0,false)
abbrev s_cpAt:Spc:=ax (a2 B Int) (λx=>x.1.size<=1000/\yC x.1=true/\0<=x.2/\x.2<=x.1.size) (qEH (Y:=I32) (Z:=Int) (W:=Int) (V:=Bool)) λx y=>y=qmp x.1 x.2
def qlK{s:B}(h:yC s=true){k:Nat}{c:UInt8}(hc:s.data[k]? =some c):c.toNat< 128:=by
 have:=qGa.1 h c (by rw[<-qGx]at hc;exact qF7 hc);exact of_decide_eq_true this
abbrev Kr:Spc:=ax (a1 B) (λs=>∃r,ms s=some r) (qpT (Y:=Rx) (Z:=Int) (W:=Int)) λs y=>ms s=some y.1/\y.2=(0,0)
set_option maxHeartbeats 2000000 in
theorem Q6(h1:S Dv=s_cpAt)(h2:S kX=qiB)(h3:S lK=Zc):aq vX uU S (a1 B) (λs=>∃r,ms s=some r) (qpT (Y:=Rx) (Z:=Int) (W:=Int)) λs y=>ms s=some y.1/\y.2=(0,0):=by
 rintro s ⟨r,hr⟩;have hr0:=hr;unfold ms at hr;split at hr
 rotate_left
 ·cases hr
 rename_i hs;obtain⟨hsz,hasc⟩:=hs;obtain⟨⟨p,x,ok⟩,hu,hr⟩:=qF3.1 hr;split at hr
 rotate_left
 ·cases hr
 rename_i hv;obtain⟨rfl,hpos,hval⟩:=hv;cases hr;have n200:¬(200:Int)<s.size:=by omega
 have hs10:s.size<=1000:=by omega
 simp[vX,uU,n200,-fB',-eB'];intro b2 hsz2;refine aA (X:=Nat) [0,2] [2] (λi=>i<=s.size) (λi=>[(5,enc (i:Int))]) (λ_=>[]) (λi=>s.size -i) 0 (qGr _) ?_;rintro i hi;by_cases hlt:i<s.size
 ·obtain⟨c,hc⟩:∃c,s.data[i]? =some c:=⟨s.data[i]'hlt,qGY hlt⟩
  have h128:=qlK hasc hc;have hat:qmp s (i:Int)=((⟨(c.toNat:Int)⟩:I32),(i:Int),(1:Int),true):=by simp[qmp,hc]
  have hff:¬((c.toNat:Int)=65533):=by omega
  simp[h1,hs10,hasc,hat,hff,hi,-fB',-eB'];exact⟨by simp only[InR];omega,i+1,by omega,by omega,by omega⟩
 ·obtain rfl:i=s.size:=by omega
  have hat:qmp s (s.size:Int)=(⟨0⟩,0,0,false):=by
   have:s.data[s.size]? =none:=qHS (qGb _);simp[qmp,this]
  simp only at hpos hval;have npos:¬p.pos<s.size:=by omega
  simp[h1,h2,h3,hs10,hasc,hat,hu,hpos,hval,npos,-fB',-eB'];exactλb _=>⟨x, .same _,hr0⟩
abbrev qeg:Spc:=ax (a1 B) (λs=>∃r,ms s=some r) (enc (X:=Int)) λ_ y=>y=0
def Ru(h1:S rV=Kr):aq wu vt S (a1 B) (λs=>∃r,ms s=some r) (enc (X:=Int)) λ_ y=>y=0:=by
 rintro s ⟨r,a⟩;simp[wu,vt,h1,a,-fB',-eB']
abbrev qnp:Spc:=ax (a2 (List Rng) I32) (λ_=>True) (enc (X:=Bool)) λx y=>y=WY x.1 x.2.val
theorem JW:aq qa oz S (a2 (List Rng) I32) (λ_=>True) (enc (X:=Bool)) λx y=>y=WY x.1 x.2.val:=by
 rintro⟨l,⟨c⟩⟩ -;simp[qa,oz,-fB',-eB'];intro p;refine ah (X:=Unit) [1,7] [] l.length (λk _=>WY (l.take k) c=false) (λ_=>[]) (λ_=>[]) () rfl ?_ ?_
 ·rintro k -hk j;obtain⟨y,h⟩:=QF hk;obtain⟨_,b⟩:=qF4.1 h;have d:WY (l.take (k+1)) c=(decide (y.fr.val<=c) && decide (c<=y.to.val)):=by
   have:l.take (k+1)=l.take k++ [y]:=by rw[qG7,h];rfl
   unfold WY at j ⊢;rw[this,List.any_append,j];simp
  by_cases h1:y.fr.val<=c/\c<=y.to.val
  ·obtain⟨h1,h2⟩:=h1;have a:WY l c=true:=by
    refine qG5.2 ⟨y,qF7 h,by simp[h1,h2]⟩
   simp[hk,h,b,h1,h2,a,-fB',-eB']
  ·have a:WY (l.take (k+1)) c=false:=by
    rw[d];simp;omega
   by_cases h2:y.fr.val<=c
   ·have h3:¬c<=y.to.val:=λe=>h1 ⟨h2,e⟩
    simp[hk,h,b,h2,h3,a,-fB',-eB']
   ·simp[hk,h,b,h2,a,-fB',-eB']
 ·rintro -j;rw[qGc]at j;simp[j,-fB',-eB']
end
section
open Cod (enc dec)
variable {dq:Prop}
structure qE8 where
 v:Value
 v':Value
 t:Tbk
def vV(v v':Value)(t:Tbk):List D:=[.own 990 v, .v (.int .u64 t.fi.val), .v (.int .u64 t.la.val), .own 991 v', .v (.bool t.nul)]
def qO(v:Value)(l:List (List Rng)):Res:= .row v eW 1 (l.map enc)
def qP(v:Value)(l:List U64):Res:= .row v fW 1 (l.map enc)
def tbB:Sn qE8:=⟨[990,991],λx=>vV x.v x.v' x.t,λx=>[(990,qO x.v x.t.lvs),(991,qP x.v' x.t.fol)],λ_=>rfl⟩
section
variable {Y Z:Type}
def qml(A:fN Z)(er:Y->D)(F:Tbk->Z->Option (Tbk×Y)):Spc:=qwv tbB A er (λs z=>∃r,F s.t z=some r) (λs z a y=>F s.t z=some (a.t,y))
def zo(H:ab)(id b:Nat)(v v':Value)(t:Tbk):ab:=aj (aj (aj H 991 (some (qP v' t.fol))) 990 (some (qO v t.lvs))) id (some (.box b (vV v v' t)))
def YJ(er:Y->D)(F:Tbk->Z->Option (Tbk×Y))(id b:Nat)(r a c:Option Res)(o:Option Z)(H:ab)(K:D->ab->Prop):Prop:=
 ∃v v' t,r=some (.box b (vV v v' t))/\a=some (qO v t.lvs)/\c=some (qP v' t.fol)/\id≠990/\id≠991/\gK o λz=>gK (F t z) λq=>∀w w',K (er q.2) (zo H id b w w' q.1)
@[congr] theorem qxv{er:Y->D}{F:Tbk->Z->Option (Tbk×Y)}{id b:Nat}{r r' d a h c:Option Res}{o j:Option Z}{H:ab}{K:D->ab->Prop}(h1:r=r')(h2:d=a)(h3:h=c)(h4:o=j):YJ er F id b r d h o H K=YJ er F id b r' a c j H K:=by grind
theorem Gr{X:Type}[Cod X]:∀{l c:List X},l.map enc=c.map enc->l=c
 | [], [],_=>rfl
 | [],_::_,h=>by grind
 | _::_, [],h=>by grind
 | a::l,b::c,h=>by
   rw[qGG,qGG,qGF]at h;rw[cD h.1,Gr h.2]
def qje{v v':Value}{l a:List (List Rng)}(h:qO v l=qO v' a):v=v'/\l=a:=by
 grind [qO,Gr]
def qjf{v v':Value}{l a:List U64}(h:qP v l=qP v' a):v=v'/\l=a:=by
 grind [qP,Gr]
def qie{b b':Nat}{v v' w w':Value}{t t':Tbk}(h:Res.box b (vV v v' t)=Res.box b' (vV w w' t'))(h1:qO v t.lvs=qO w t'.lvs)(h2:qP v' t.fol=qP w' t'.fol):b=b'/\v=w/\v'=w'/\t=t':=by
 obtain⟨a,d⟩:=qje h1;obtain⟨c,j⟩:=qjf h2;obtain⟨hb,hc⟩:=Res.box.inj h;simp only[vV,qGF,D.own.injEq,D.v.injEq,Value.int.injEq,Value.bool.injEq,true_and,and_true]at hc;obtain⟨_,⟨c1,c2,_,c3⟩⟩:=hc;refine⟨hb,a,c,?_⟩;obtain⟨a1,⟨a2⟩,⟨a3⟩,a4,k⟩:=t;simp_all
theorem qif(x:qE8)(H:ab)(id b:Nat):aj (gT (tbB.hp x) H) id (some (.box b (tbB.ce x)))=zo H id b x.v x.v' x.t:=by
 rfl
theorem qcg(A:fN Z)(er:Y->D)(F:Tbk->Z->Option (Tbk×Y))(d i b:Nat)(ds:List D)(H:ab)(K:D->ab->Prop):(qml A er F).pt d (.bptr i b 0::ds) H K=YJ er F i b (H i) (H 990) (H 991) (A.dec ds) H K:=by
 refine propext ⟨λh=>?_,λh=>?_⟩
 ·obtain⟨id,b',x,z,k,h1,h2,h3,h4,h5,h6,l⟩:=h;cases h1;simp only[tbB,qGm,qGz,or_false,not_or]at h5;refine⟨x.v,x.v',x.t,h3,h4 (990,qO x.v x.t.lvs) (by simp[tbB]),h4 (991,qP x.v' x.t.fol) (by simp[tbB]),h5.1,h5.2,?_⟩;rw[h2];obtain⟨⟨t',y⟩,j⟩:=h6;show gK (F x.t z) _;rw[j];intro w w';have:=l ⟨w,w',t'⟩ y j;grind [qif]
 ·obtain⟨v,v',t,h1,h2,h3,h4,h5,h6⟩:=h;cases hz:A.dec ds with
  |none=>simp_all
  | some z=>
    rw[hz]at h6;have h6:gK (F t z) λq=>∀w w',K (er q.2) (zo H i b w w' q.1):=h6
    cases c:F t z with
    |none=>simp_all
    | some q=>
      rw[c]at h6;have h6:∀w w',K (er q.2) (zo H i b w w' q.1):=h6;refine⟨i,b,⟨v,v',t⟩,z,ds,rfl,hz,h1,λp hp=>?_,by grind [gK,tbB],⟨q,c⟩,λr y a=>?_⟩
      ·simp only[tbB,qGm,qGz,or_false]at hp;grind
      ·have a:F t z=some (r.t,y):=a;rw[c]at a;cases a;rw[qif];grind
theorem qoc(A:fN Z)(er:Y->D)(F:Tbk->Z->Option (Tbk×Y))(b:Nat)(ds:List D):qpd 0 (qml A er F).pt (.bptr 0 b 0::ds):=by
 refine⟨λR=>YJ er F 0 b (R 0) (R 990) (R 991) (A.dec ds) R λ_ _=>True,λR d u=>∃v v' t z q w w',R 0=some (.box b (vV v v' t))/\R 990=some (qO v t.lvs)/\R 991=some (qP v' t.fol)/\A.dec ds=some z/\F t z=some q/\d=er q.2/\u=[(0, .box b (vV w w' q.1)),(990,qO w q.1.lvs),(991,qP w' q.1.fol)],λt H K=>?_⟩;rw[qcg];have l:zl H (some 0) 0=H 0:=by rfl
 have p:zl H (some 0) 990=H 990:=by rfl
 have r:zl H (some 0) 991=H 991:=by rfl
 show _↔YJ er F 0 b (zl H (some 0) 0) (zl H (some 0) 990) (zl H (some 0) 991) (A.dec ds) (zl H (some 0)) (λ_ _=>True)/\∀d u,(∃v v' t z q w w',zl H (some 0) 0=some (.box b (vV v v' t))/\zl H (some 0) 990=some (qO v t.lvs)/\zl H (some 0) 991=some (qP v' t.fol)/\A.dec ds=some z/\F t z=some q/\d=er q.2/\u=[(0, .box b (vV w w' q.1)),(990,qO w q.1.lvs),(991,qP w' q.1.fol)])->K d (lR H (some 0) u);rw[l,p,r];have hp:∀(w w':Value) (q:Tbk),lR H (some 0) [(0, .box b (vV w w' q)),(990,qO w q.lvs),(991,qP w' q.fol)]=zo H 0 b w w' q:=λw w' q=>by
  funext i;simp only[lR,zo,aj];by_cases h0:i=0;simp_all
  ·by_cases h1:i=990
   ·subst h1;rfl
   ·by_cases h2:i=991
    ·subst h2;rfl
    grind
 constructor
 ·rintro⟨v,v',t,h1,h2,h3,h4,h5,h6⟩;cases hz:A.dec ds with
  |none=>simp_all
  | some z=>
    rw[hz]at h6;have h6:gK (F t z) λq=>∀w w',K (er q.2) (zo H 0 b w w' q.1):=h6
    cases a:F t z with
    |none=>rw[a]at h6;exact h6.elim
    | some q=>
      rw[a]at h6;have h6:∀w w',K (er q.2) (zo H 0 b w w' q.1):=h6;refine⟨⟨v,v',t,h1,h2,h3,h4,h5,?_⟩,?_⟩
      ·show gK (F t z) _;rw[a];exactλ_ _=>trivial
      ·rintro d u ⟨v1,s,t1,C,E,w,w',c,h,j,x,k,rfl,rfl⟩;rw[h1]at c;rw[h2]at h;rw[h3]at j;obtain⟨_,_,_,rfl⟩:=qie (qGf c) (qGf h) (qGf j);cases x;rw[a]at k;cases k;rw[hp];exact h6 w w'
 ·rintro⟨⟨v,v',t,h1,h2,h3,h4,h5,h6⟩,y⟩;refine⟨v,v',t,h1,h2,h3,h4,h5,?_⟩;cases hz:A.dec ds with
  |none=>rw[hz]at h6;exact h6.elim
  | some z=>
    rw[hz]at h6;have h6:gK (F t z) λq=>∀w w':Value,True:=h6
    show gK (F t z) _;cases a:F t z with
    |none=>rw[a]at h6;exact h6.elim
    | some q=>
      intro w w';have:=y (er q.2) _ ⟨v,v',t,z,q,w,w',h1,h2,h3,hz,a,rfl,rfl⟩;rwa [hp]at this
def qjz(A:fN Z)(er:Y->D)(F:Tbk->Z->Option (Tbk×Y))(b:Nat)(dst:Option Nat)(ds:List D)(H:ab)(K:D->ab->Prop):Ta 0 dst (qml A er F) (.bptr 0 b 0::ds) H K=YJ er F 0 b (H 0) (H 990) (H 991) (A.dec ds) H K:=by
 rw[<-qcg A er F (dst.getD 0)];exact propext ⟨λh=>h.2,λh=>⟨qoc A er F b ds,h⟩⟩
def qqu(er:Y->D)(F:Tbk->Z->Option (Tbk×Y))(id b:Nat)(v v':Value)(f l:Int)(n:Bool)(lv:List (List Rng))(fo:List U64)(o:Option Z)(H:ab)(K:D->ab->Prop):
 YJ er F id b (some (.box b [.own 990 v, .v (.int .u64 f), .v (.int .u64 l), .own 991 v', .v (.bool n)])) (some (.row v eW 1 (lv.map enc))) (some (.row v' fW 1 (fo.map enc))) o H K=(id≠990/\id≠991/\gK o λz=>gK (F ⟨lv,⟨f⟩,⟨l⟩,fo,n⟩ z) λq=>∀w w',K (er q.2) (zo H id b w w' q.1)):=by
 refine propext ⟨λ⟨w,w',t,h1,h2,h3,h4,h5,h6⟩=>⟨h4,h5,?_⟩,λh=>⟨v,v',⟨lv,⟨f⟩,⟨l⟩,fo,n⟩,rfl,rfl,rfl,h.1,h.2.1,h.2.2⟩⟩;obtain⟨_,_,_,e⟩:=qie (t:=⟨lv,⟨f⟩,⟨l⟩,fo,n⟩) (t':=t) (b:=b) (b':=b) (qGf h1) (qGf h2) (qGf h3);grind
def qbD(er:Y->D)(b:Nat)(post:Tbk->Y->Prop)(r:D)(H:ab):Prop:=TV tbB er b (λs y=>post s.t y) r H
def qpS{er:Y->D}{b:Nat}{post:Tbk->Y->Prop}{r:D}{H:ab}(v v':Value)(t:Tbk)(y:Y)(c:FrzTo (λi=>if i=0\/i=990\/i=991 then none else H i) r (er y))(h0:H 0=some (.box b (vV v v' t)))(h1:H 990=some (qO v t.lvs))(h2:H 991=some (qP v' t.fol))(a:post t y):qbD er b post r H:=
 ⟨⟨v,v',t⟩,y,by grind [tbB],h0,λp hp=>by
  simp only[tbB,qGm,qGz,or_false]at hp;grind,a⟩
def LE(cc:CC)(rs:List ai)(S:Nat->Spc)(A:fN Z)(er:Y->D)(F:Tbk->Z->Option (Tbk×Y)):Prop:=
 ∀b v v' t z r,F t z=some r->vc S cc (wC rs λd H'=>qbD er b (λt' y=>r=(t',y)) d H') (dI (.bptr 0 b 0::A.view z)) (zo dm 0 b v v' t)
variable {P:Program}{S:Nat->Spc}{f:Nat}{im:List Nat}{cc:CC}{rs:List ai}{N:Nat}
def uM{A:fN Z}{er:Y->D}{F:Tbk->Z->Option (Tbk×Y)}(a:∀f,Tri dq P f (S f).pt)(h:BA P f im cc rs N)(c:∀z,(A.view z).length+1<=N)(j:LE cc rs S A er F):Tri dq P f (qml A er F).pt:=
 FP (by simp[tbB]) a h c λb x z hp=>by
  obtain⟨r,k⟩:=hp;rw[qif];have:=j b x.v x.v' x.t z r k;have e:(λ(d:D) (H':ab)=>TV tbB er b (λl y=>F x.t z=some (l.t,y)) d H')=λd H'=>qbD er b (λt' y=>r=(t',y)) d H':=by
   funext d H';unfold qbD;grind
  grind
end
@[simp] theorem qz0(m:U64)(i:Nat):decide (qbn .u64 (qcn .u64 m.val i) 1=1)=qhp m i:=i' rfl
end
section
open Go.Proofs
def Bt:CC:=gq Tryz.f306 [1,2024006,2022006,2020006] { cu:=[1,4],kz:=[990,991] } _
def Aw:List ai:=[.tmp 2]
def VY:FO Du [1,2024006,2022006,2020006] Bt Aw 26:=fo
def lu:CC:=gq Tryz.f359 [] { bx:=[0],kz:=[990,991] } _
def kO:List ai:=[]
def C6:FO gU [] lu kO 31:=fo
def jk:CC:=gq Tryz.f346 [4,5] { ke:=[0],kz:=[990,991] } _
def iN:List ai:=[.cell 6 true 3]
def AH:FO dR [4,5] jk iN 42:=fo
def cW:CC:=gq Tryz.f327 [3,3060000,1031990,2033000,2006006] { bx:=[0],kz:=[990,991] } _
def cT:List ai:=[.cell 4 true 3]
def B3:FO dv [3,3060000,1031990,2033000,2006006] cW cT 98:=fo
def jj:CC:=gq Tryz.f347 [3,3095000,2005005] { bx:=[0],kz:=[990,991] } _
def iM:List ai:=[.cell 4 true 3]
def AG:FO jS [3,3095000,2005005] jj iM 98:=fo
def dc:CC:=gq Tryz.f360 [4,3035000,3036000,2009009] { bx:=[0],kz:=[990,991] } _
def cY:List ai:=[.cell 6 true 3]
def xS:FO eS [4,3035000,3036000,2009009] dc cY 39:=fo
def gF:CC:=gq Tryz.f307 [] { ke:=[0],kz:=[990,991] } _
def gj:List ai:=[.tmp 6]
def C7:FO mA [] gF gj 35:=fo
open Cod (enc dec)
variable {S S0:Nat->Spc}
@[simp] theorem qzd(t:Tbk):Tbk.mk t.lvs t.fi t.la t.fol t.nul=t:=i' rfl
abbrev U4:Spc:=qml (a2 U64 U64) WM IP
def qeL(fr to:U64):∀(l:List U64) (i:Nat),(qeM fr to i l).length=l.length
 | [],_=>rfl
 |f::l,i=>by rw[qeM,qGT,qGT,qeL fr to l (i+1)]
def Z9{fr to f:U64} :∀{l:List U64} {i k:Nat},l[k]? =some f->qeM fr to i (l.take k) ++ (if qhp fr (i+k)=true then qnJ f to else f)::l.drop (k+1)=qeM fr to i (l.take (k+1)) ++l.drop (k+1)
 | [],i,k,h=>by simp at h
 | g::l,i,0,h=>by
   simp at h;subst h;simp[qeM]
 | g::l,i,k+1,h=>by
   simp at h;have:=Z9 (fr:=fr) (to:=to) (i:=i+1) h;rw[show i+1+k=i+ (k+1)by omega]at this;simp only[List.take_succ_cons,qeM,qG4,List.drop_succ_cons];rw[this]
theorem qqi:LE lu kO S (a2 U64 U64) WM IP:=by
 rintro b v v' ⟨lv,fi,la,fo,w⟩ ⟨fr,to⟩ r h;unfold IP at h;simp only at h;split at h
 ·rename_i hlen;cases h;have hl:(fo.length:Int)<=9223372036854775807:=by omega
  simp[lu,kO,zo,qO,qP,vV,hl,-fB',-eB'];refine ah (X:=List U64) [0,1,2] [] fo.length (λk x=>x=qeM fr to 0 (fo.take k) ++fo.drop k) (λx=>[]) (λx=>[(0, .box b [.own 990 v, .v (.int .u64 fi.val), .v (.int .u64 la.val), .own 991 v', .v (.bool w)]),(990, .row v eW 1 (lv.map enc)),(991, .row v' fW 1 (x.map enc))]) fo (by simp[qeM]) ?_ ?_
  ·rintro k x hk d;obtain⟨f,A⟩:∃f,fo[k]? =some f:=⟨_,qF6 hk⟩
   have a:(qeM fr to 0 (fo.take k)).length=k:=by rw[qeL,qGv];omega
   have q:x.length=fo.length:=by rw[d,qGC,a,qG9];omega
   have j:x[k]? =some f:=by
    rw[d,qGH (by omega),a,qHN,qG8];simpa using A
   have s:x.drop (k+1)=fo.drop (k+1):=by
    rw[d,List.drop_append,a,List.drop_drop,qHz (by rw[a];omega)];simp
   have t:x.take k=qeM fr to 0 (fo.take k):=by
    rw[d,List.take_append,a,qHN,qH3,qHg,qGR (by rw[a];omega)]
   have l:∀g,x.set k g=qeM fr to 0 (fo.take k) ++g::fo.drop (k+1):=λg=>by
    rw[qHR,if_pos (by omega),t,s]
   have c:=Z9 (fr:=fr) (to:=to) (i:=0) A;rw[qGS,<-l]at c;have u:k<x.length:=by omega
   obtain⟨_,p⟩:=qF4.1 j;simp[u,j,p,hk,q,-fB',-eB'];refine⟨λhb=>?_,λhb=>?_⟩
   ·rw[if_pos hb]at c;left;rw[<-List.map_drop,<-qHL,<-c,qIk];rfl
   ·rw[if_neg (by simp[hb])]at c;rw[show x.set k f=x from by rw[<-p];exact List.set_getElem_self _]at c;exact .inl c
  ·rintro x d;rw[qGc,qGU,qHg]at d;subst d;simp[-fB',-eB'];exact qpS (er:=WM) (y:=()) v v' ⟨lv,fi,la,qeM fr to 0 fo,w⟩ (.same _) rfl rfl rfl rfl
 ·cases h
attribute [simp] qcg qjz
@[simp] theorem qxu{Y Z:Type}(er:Y->D)(F:Tbk->Z->Option (Tbk×Y))(id b:Nat)(v v':Value)(f l:Int)(n:Bool)(lv:List (List Rng))(fo:List U64)(o:Option Z)(H:ab)(K:D->ab->Prop):
 YJ er F id b (some (.box b [.own 990 v, .v (.int .u64 f), .v (.int .u64 l), .own 991 v', .v (.bool n)])) (some (.row v eW 1 (lv.map enc))) (some (.row v' fW 1 (fo.map enc))) o H K=(id≠990/\id≠991/\gK o λz=>gK (F ⟨lv,⟨f⟩,⟨l⟩,fo,n⟩ z) λq=>∀w w',K (er q.2) (aj (aj (aj H 991 (some (.row w' fW 1 (q.1.fol.map enc)))) 990 (some (.row w eW 1 (q.1.lvs.map enc)))) id (some (.box b [.own 990 w, .v (.int .u64 q.1.fi.val), .v (.int .u64 q.1.la.val), .own 991 w', .v (.bool q.1.nul)])))):=qqu er F id b v v' f l n lv fo o H K
abbrev NA:Spc:=qml (a2 Prt Prt) (enc (X:=Prt)) BP
def zC{b:Nat}{post:Tbk->Prt->Prop}{d:D}{H:ab}(v v':Value)(t:Tbk)(y:Prt)(a:d=enc y)(h0:H 0=some (.box b (vV v v' t)))(h1:H 990=some (qO v t.lvs))(h2:H 991=some (qP v' t.fol))(c:post t y):qbD enc b post d H:=
 qpS (er:=enc) (y:=y) v v' t (by rw[a];exact .same _) h0 h1 h2 c
def qhT(h1:S gU=U4):LE jk iN S (a2 Prt Prt) (enc (X:=Prt)) BP:=by
 rintro b v v' ⟨lv,fi,la,fo,d⟩ ⟨⟨h,j,an⟩,⟨k,bl,c⟩⟩ r a;unfold BP at a;simp only at a;obtain⟨q,hl,rfl⟩:=qGe.1 a;cases an<;>cases c<;>simp[jk,iN,zo,qO,qP,vV,h1,hl,-fB',-eB'] <;>intro b1 w w'<;>exact zC w w' q.1 _ rfl rfl rfl rfl ⟨rfl,rfl⟩
def qjP{set f:U64}{l:List U64}{k:Nat}(h:l[k]? =some f)(m:U64):qpH set k (l.drop k) m=qpH set (k+1) (l.drop (k+1)) (if qhp set k=true then qnJ m f else m):=by
 obtain⟨h1,h2⟩:=qF4.1 h;rw[qGP h1,h2,qpH]
end
end Go.Gv
