/- A part of the framework and of the walks: W130 W131 W132 C52 W133 W134 T32. -/
import Derived.Test.YtfbleenmepoodaaGreatDoorGb27
set_option linter.unusedSimpArgs false
set_option linter.unusedVariables false
set_option linter.unusedSectionVars false
set_option linter.defProp false
set_option maxRecDepth 100000
set_option maxHeartbeats 0
namespace Go.Gv
open Cod (enc dec)
variable {S S0:Nat->Spc}
abbrev s_decR:Spc:=aY (a1 B) (λs=>∃c,s.data[0]? =some c/\c.toNat < 128) (rN (Y:=I32) (Z:=Int)) λs y=>∀c,s.data[0]? =some c->y=(⟨c.toNat⟩,1)
abbrev s_crune:Spc:=aY (a2 B I32) (λx=>0<=x.2.val/\x.2.val < 128) (enc (X:=Bool)) λx y=>y=Xv x.1 x.2.val
def vK{p:Rp}{c:Int}(h:Ft p=some c):p.s.size<=200/\((p.pos=p.s.size/\c= -1)\/(0<=p.pos/\p.pos < p.s.size/\p.pos≠p.s.size/\∃x:UInt8,p.s.data[p.pos.toNat]? =some x/\x.toNat < 128/\c=x.toNat)):=by
 unfold Ft at h;split at h
 ·cases h
 rename_i hsz;refine⟨by omega,?_⟩;split at h
 ·exact .inl ⟨by assumption,(qmk h).symm⟩
 ·rename_i hne;split at h
  ·rename_i h0;split at h
   ·rename_i x hx;split at h
    ·rename_i hlt;have hx2:=(qmh.1 hx).1;refine .inr ⟨h0,?_,hne,x,hx,hlt,(qmk h).symm⟩;show p.pos < (p.s.data.size:Int);omega
    ·cases h
   ·cases h
  ·cases h
def qkJ{s:B}{k:Nat}{x:UInt8}(h:s.data[k]? =some x):(s.extract k s.size).data[0]? =some x:=by
 obtain⟨h1,h2⟩:=qmh.1 h;rw[ByteArray.data_extract,Array.getElem?_extract];have:0 < min s.size s.data.size -k:=by
  have:s.size=s.data.size:=rfl;omega
 rw[if_pos this,qnm];exact h
abbrev qb:Spc:=RJ a0 (enc (X:=I32)) iC
theorem H6(h1:S cD=s_decR):pI ep ee S a0 (enc (X:=I32)) (λs z=>∃r,iC s z=some r) (λs z s' y=>iC s z=some (s',y)):=by
 rintro b s ⟨⟩ ⟨r,hr⟩;obtain⟨c,hc,_⟩:=qmi.1 hr;have sK:∀ {H:ab},H 0=some (.box b (ng s))->AQ (enc (X:=I32)) b (λs' y=>iC s ()=some (s',y)) (.v (.int .i32 c)) H:=λh0=>As s ⟨c⟩ (.same _) h0 (by simp[iC,hc])
 obtain⟨hsz,hc2⟩:=vK hc;rcases hc2 with⟨e1,rfl⟩|⟨h0,h2,h3,x,hx,hlt,rfl⟩
 ·simp[ep,ee,e1, -Bool.forall_bool, -Bool.exists_bool];exactλ_=>sK (by simp[e1])
 ·have hd:(s.s.data.extract s.pos.toNat s.s.size)[0]? =some x:=by rw[<-ByteArray.data_extract];exact qkJ hx
  simp[ep,ee,h1,h0,h2,h3, -Bool.forall_bool, -Bool.exists_bool];refineλ_=>⟨by omega,⟨x,hd,hlt⟩,λa b1 h=>?_⟩
  obtain⟨rfl,rfl⟩:=h x hd;exact sK (by simp)
abbrev O1:Spc:=RJ a0 PD GM
theorem H5(h1:S cD=s_decR):pI ib gK S a0 PD (λs z=>∃r,GM s z=some r) (λs z s' y=>GM s z=some (s',y)):=by
 rintro b s ⟨⟩ ⟨r,hr⟩;obtain⟨c,hc,h⟩:=ql9.1 hr;split at h
 ·rename_i hc0;have sK:∀ {H:ab},H 0=some (.box b (ng s.bump))->AQ PD b (λs' y=>GM s ()=some (s',y)) (.tup []) H:=λh0=>As s.bump () (.same _) h0 (by simp[GM,hc,hc0])
  obtain⟨hsz,hc2⟩:=vK hc;rcases hc2 with⟨e1,rfl⟩|⟨h0,h2,h3,x,hx,hlt,rfl⟩
  ·omega
  ·have hd:(s.s.data.extract s.pos.toNat s.s.size)[0]? =some x:=by rw[<-ByteArray.data_extract];exact qkJ hx
   simp[ib,gK,h1,h0,h2,h3, -Bool.forall_bool, -Bool.exists_bool];refine⟨by omega,⟨x,hd,hlt⟩,λa b1 h=>?_⟩;obtain⟨rfl,rfl⟩:=h x hd;exact⟨by simp only[InR];omega,sK (by simp[Rp.bump])⟩
 ·cases h
abbrev XR:(I32×Bool)->D:=rN (Y:=I32) (Z:=Bool)
abbrev Iu:Spc:=RJ (a1 B) XR wR
def yY(h1:S bb=qb)(h2:S iO=O1):pI dV dR S (a1 B) XR (λs z=>∃r,wR s z=some r) (λs z s' y=>wR s z=some (s',y)):=by
 rintro b s sp ⟨r,hr⟩;obtain⟨c,hc,h⟩:=ql9.1 hr;split at h
 ·cases h
 ·rename_i hn;have n1:0<=c:=by omega
  have n2:c≠92:=λe=>hn (.inr e)
  simp[dV,dR,h1,h2,iC,GM,hc,n1,n2, -Bool.forall_bool, -Bool.exists_bool];exact As s.bump (⟨c⟩,true) (.same _) (by simp) (by simp[wR,hc,hn])
abbrev Sv:Spc:=RJ a0 XR LS
theorem DI(h1:S bb=qb)(h2:S fu=s_crune)(h3:S cY=Iu):pI fF ff S a0 XR (λs z=>∃r,LS s z=some r) (λs z s' y=>LS s z=some (s',y)):=by
 rintro b s ⟨⟩ ⟨r,hr⟩;obtain⟨c,hc,h⟩:=ql9.1 hr;split at h
 ·cases h
 ·rename_i hn;have n1:¬c < 0:=λe=>hn (.inl e)
  have n2:Xv PX c=false:=by
   cases e:Xv PX c with
   | false=>rfl
   | true=>exact absurd (.inr e) hn
  have hsz:=vK hc;have h128:c < 128:=by
   rcases hsz.2 with⟨_,rfl⟩|⟨_,_,_,x,_,hlt,rfl⟩ <;> omega
  have n3:Xv ⟨#[92,91,93,94,45]⟩ c=false:=n2;have h4:wR s ⟨#[92,91,93,94,45]⟩=some r:=h;simp[fF,ff,h1,h2,h3,iC,hc,n1,n3,h4,h128, -Bool.forall_bool, -Bool.exists_bool];obtain⟨s',⟨c'⟩,t'⟩:=r;intro n0;refine⟨λ_=>⟨n0,As s' (⟨c'⟩,t') (.same _) (by simp) (by simp[LS,hc,hn,h])⟩,λ_=>As s' (⟨c'⟩,t') (.same _) (by simp) (by simp[LS,hc,hn,h])⟩
def JD{H:ab}{op mn mx:Int}{d3 d4:D}(rs:List Rng)(ks:List Rx)(h3:FrzTo H d3 (enc rs))(h4:FrzTo H d4 (enc ks)):FrzTo H (.agg [.v (.int .i64 op), .v (.int .i64 mn), .v (.int .i64 mx),d3,d4]) (enc (Rx.mk op mn mx rs ks)):=by
 rw[UE];refine .agg rfl λk c c' hc hc'=>?_
 match k with
 | 0=>cases hc;cases hc';exact .same _
 | 1=>cases hc;cases hc';exact .same _
 | 2=>cases hc;cases hc';exact .same _
 | 3=>cases hc;cases hc';exact h3
 | 4=>cases hc;cases hc';exact h4
 | k+5=>simp at hc
abbrev Su:Spc:=aY (a2 I32 I32) (λ_=>True) (enc (X:=Rx)) λx y=>y=Sp x.1.val x.2.val
def Kw:av sZ rU S (a2 I32 I32) (λ_=>True) (enc (X:=Rx)) λx y=>y=Sp x.1.val x.2.val:=by
 rintro⟨x,y⟩ -;simp[sZ,rU,Sp];exactλb=>cp (Y:=Rx) ⟨1,0,0, [⟨x,y⟩], []⟩ (JD [⟨x,y⟩] [] (.same _) (.nil _)) rfl
abbrev yz:(Rx×Bool)->D:=rN (Y:=Rx) (Z:=Bool)
abbrev Sw:Spc:=RJ a0 yz Ya
abbrev O3:Spc:=RJ a0 yz P4
def qdK{b:Nat}{post:Rp->(Rx×Bool)->Prop}{x:Rx}{v:Bool}{H:ab}(s:Rp)(h0:H 0=some (.box b (ng s)))(hq:post s (x,v)):AQ yz b post (.tup [enc x, .v (.bool v)]) H:=As s (x,v) (.same _) h0 hq
def yo{b:Nat}{post:Rp->(Rx×Bool)->Prop}{x:Rx}{v:Bool}{H:ab}(s:Rp)(h0:H 0=some (.box b (ng s)))(hq:post s (x,v)):AQ yz b post (.tup [.agg [.v (.int .i64 x.op), .v (.int .i64 x.mn), .v (.int .i64 x.mx), .list 2 (x.rs.map enc), .list 5 (x.kids.map enc)], .v (.bool v)]) H:=by
 have e:(D.agg [.v (.int .i64 x.op), .v (.int .i64 x.mn), .v (.int .i64 x.mx), .list 2 (x.rs.map enc), .list 5 (x.kids.map enc)])=enc x:=by simp
 rw[e];exact qdK s h0 hq
set_option maxHeartbeats 1000000 in
theorem H7(h1:S bb=qb)(h2:S vg=Su)(h3:S gY=Sw)(h4:S fu=s_crune)(h5:S cY=Iu):pI dk df S a0 yz (λs z=>∃r,P4 s z=some r) (λs z s' y=>P4 s z=some (s',y)):=by
 rintro b s ⟨⟩ ⟨r,hr⟩;have hr0:=hr;obtain⟨c,hc,h⟩:=ql9.1 hr;have hsz:=vK hc;have h128:c < 128:=by
  rcases hsz.2 with⟨_,rfl⟩|⟨_,_,_,x,_,hlt,rfl⟩ <;> omega
 split at h
 ·cases h
 rename_i e40;split at h
 ·rename_i e46;subst e46;have hp:InR .i64 (s.pos+1):=by
   rcases hsz.2 with⟨_,e⟩|⟨_,_,_,x,_,hlt,e⟩
   ·cases e
   ·simp only[InR];omega
  cases h;simp[dk,df,h1,h2,iC,hc,hp, -Bool.forall_bool, -Bool.exists_bool];exactλ_=>yo s.bump (by simp[Rp.bump]) hr0
 rename_i e46;split at h
 ·rename_i e91;subst e91;obtain⟨s',x',t'⟩:=r;simp[dk,df,h1,h3,iC,hc,h, -Bool.forall_bool, -Bool.exists_bool];exactλ_=>yo s' (by simp) hr0
 rename_i e91;split at h
 ·cases h
 ·rename_i hn;obtain⟨q,hq,rfl⟩:=qmi.1 h;obtain⟨s',⟨c'⟩,t'⟩:=q;have hq':=hq;obtain⟨c2,hc2,h'⟩:=ql9.1 hq';rw[hc]at hc2;obtain rfl:=qmk hc2;split at h'
  ·cases h'
  rename_i hn2;have n0:0<=c:=by omega
  have n92:c≠92:=λe=>hn2 (.inr e)
  have nin:Xv ⟨#[92,46,91,93,40,41,123,125,124,42,43,63]⟩ c=false:=by
   cases e:Xv ⟨#[92,46,91,93,40,41,123,125,124,42,43,63]⟩ c with
   | false=>rfl
   | true=>exact absurd ⟨n92,e⟩ hn
  have hq2:wR s ⟨#[92,46,91,93,40,41,123,125,124,42,43,63]⟩=some (s',⟨c'⟩,t'):=hq;simp[dk,df,h1,h2,h4,h5,iC,hc,e40,e46,e91,n0,n92,h128,nin,hq2, -Bool.forall_bool, -Bool.exists_bool];exactλ_=>yo s' (by simp) hr0
abbrev Ss:Spc:=RJ a0 yz Tc
def P0{p:Rp}{c:Int}(h:Ft p=some c):c < 128/\ -1<=c/\(0<=c->InR .i64 (p.pos+1)):=by
 obtain⟨h1,h2⟩:=vK h;rcases h2 with⟨_,rfl⟩|⟨_,_,_,x,_,hlt,rfl⟩
 ·exact⟨by omega,by omega,λh=>absurd h (by omega)⟩
 ·exact⟨by omega,by omega,λ_=>by simp only[InR];omega⟩
def QJ{c:Int}{m:Int×Int}(h:F6 c=some m):c=42/\m=(0, -1)\/c=43/\m=(1, -1)\/c=63/\m=(0,1):=by
 unfold F6 at h;split at h
 ·exact .inl ⟨by assumption,(qmk h).symm⟩
 split at h
 ·exact .inr (.inl ⟨by assumption,(qmk h).symm⟩)
 split at h
 ·exact .inr (.inr ⟨by assumption,(qmk h).symm⟩)
 cases h
def GY{c:Int}(h:F6 c=none):c≠42/\c≠43/\c≠63:=by
 unfold F6 at h;refine⟨λe=>?_,λe=>?_,λe=>?_⟩ <;> (subst e;simp at h)
def rT(o:Option (Int×Int))(x:Rx):List D:=match o with
 | none=>[.v (.int .i64 x.op), .v (.int .i64 x.mn), .v (.int .i64 x.mx), .list 2 (x.rs.map enc), .list 5 (x.kids.map enc)]
 | some m=>[.v (.int .i64 4), .v (.int .i64 m.1), .v (.int .i64 m.2), .v (.slice none 0 0), .list 5 [enc x]]
def qdJ{b:Nat}{post:Rp->(Rx×Bool)->Prop}{m:Int×Int}{e:Rx}{H:ab}(s:Rp)(h0:H 0=some (.box b (ng s)))(hq:post s (⟨4,m.1,m.2, [], [e]⟩,true)):AQ yz b post (.tup [.agg (rT (some m) e), .v (.bool true)]) H:=by
 refine As s (⟨4,m.1,m.2, [], [e]⟩,true) (.tup rfl λk c c' hc hc'=>?_) h0 hq
 match k with
 | 0=>cases hc;cases hc';exact JD [] [e] (.nil _) (.same _)
 | 1=>cases hc;cases hc';exact .same _
 | k+2=>simp at hc
set_option maxHeartbeats 2000000 in
theorem DG(h1:S bb=qb)(h2:S iP=O3):pI fE fe S a0 yz (λs z=>∃r,Tc s z=some r) (λs z s' y=>Tc s z=some (s',y)):=by
 rintro b s ⟨⟩ ⟨r,hr⟩;have hr0:=hr;obtain⟨⟨s1,e,ok⟩,ha,h⟩:=ql9.1 hr;simp only at h;split at h
 rotate_left
 ·cases h
 rename_i hok;subst hok;obtain⟨c,hc,h⟩:=ql9.1 h;split at h
 ·cases h
 rename_i e123;have hcc:=P0 hc;simp[fE,fe,h2,ha, -Bool.forall_bool, -Bool.exists_bool];intro b2 b4;refine aP (X:=Option (Int×Int)) [0,2,4,5] [2] (λo=>∀m,o=some m->F6 c=some m) (λ_=>[]) (λo=>[(0, .box b (ng (match o with|none=>s1|some _=>s1.bump))),(4, .box b4 (rT o e))]) (λo=>match o with|none=>1|some _=>0) none (λm h=>by cases h) (by simp) (by simp[rT]) ?_;rintro(_|m) hP
 ·cases hm:F6 c with
  | none=>
    rw[hm]at h;cases h;obtain⟨n1,n2,n3⟩:=GY hm;simp[rT,h1,iC,hc,n1,n2,n3,e123, -Bool.forall_bool, -Bool.exists_bool];exact yo s1 (by simp) hr0
  | some m=>
    rcases QJ hm with⟨rfl,rfl⟩|⟨rfl,rfl⟩|⟨rfl,rfl⟩
    all_goals
     have hin:=hcc.2.2 (by omega);simp[rT,h1,iC,hc,hin, -Bool.forall_bool, -Bool.exists_bool]
     first
      | exact⟨some (0, -1),by simp,⟨.inl ⟨rfl,rfl,rfl,rfl⟩, .inl rfl⟩,rfl⟩
      | exact⟨some (1, -1),by simp,⟨.inl ⟨rfl,rfl,rfl,rfl⟩, .inl rfl⟩,rfl⟩
      | exact⟨some (0,1),by simp,⟨.inl ⟨rfl,rfl,rfl,rfl⟩, .inl rfl⟩,rfl⟩
 ·have hm:=hP m rfl;rw[hm]at h;simp only at h;obtain⟨d,hd,h⟩:=ql9.1 h;split at h
  ·cases h
  rename_i hn;cases h;have hd':d≠123/\F6 d=none:=⟨λe=>hn (.inl e),by
   cases q:F6 d with
   | none=>rfl
   | some q'=>exact absurd (.inr (by rw[q];rfl)) hn⟩
  obtain⟨n1,n2,n3⟩:=GY hd'.2;have n4:=hd'.1;simp[rT,h1,iC,hd,n1,n2,n3,n4, -Bool.forall_bool, -Bool.exists_bool];simpa [rT, -Bool.forall_bool, -Bool.exists_bool]using qdJ (e:=e) (m:=m) s1.bump (by simp) hr0
def ZK{p:Rp}{q:Rp× (Rx×Bool)}(h:Tc p ()=some q):q.2.2=true:=by
 obtain⟨a,_,h⟩:=ql9.1 h;split at h
 ·obtain⟨c,_,h⟩:=ql9.1 h;split at h
  ·cases h
  ·split at h
   ·obtain⟨d,_,h⟩:=ql9.1 h;split at h
    ·cases h
    ·cases h;rfl
   ·cases h;rfl
 ·cases h
def LH{op:Int}{l:List Rx}(h:l.length≠1):NQ op l=⟨op,0,0, [],l⟩:=by
 match l,h with
 | [],_=>rfl
 | [e],h=>exact absurd rfl h
 | _::_::_,_=>rfl
theorem Ut{b:Nat}{post:Rp->(Rx×Bool)->Prop}{op:Int}{l:List Rx}{id el:Nat}{v:Value}{H:ab}(s:Rp)(h0:H 0=some (.box b (ng s)))(hi:id≠0)(h1:H id=some (.row v el 5 (l.map enc)))(hq:post s (⟨op,0,0, [],l⟩,true)):
 AQ yz b post (.tup [.agg [.v (.int .i64 op), .v (.int .i64 0), .v (.int .i64 0), .v (.slice none 0 0), .own id v], .v (.bool true)]) H:=by
 refine As s (⟨op,0,0, [],l⟩,true) (.tup rfl λk c c' hc hc'=>?_) h0 hq
 match k with
 | 0=>
   cases hc;cases hc';refine JD [] l (.nil _) (.row (el:=el) (by simp[hi];exact h1) rfl (λd hd=>?_) (λk c c' hc hc'=>?_))
   ·obtain⟨x,_,rfl⟩:=qmo.1 hd;exact⟨Cod.kn x,Cod.wid x⟩
   ·rw[hc]at hc';cases hc';exact .same _
 | 1=>cases hc;cases hc';exact .same _
 | k+2=>simp at hc
abbrev Sx:Spc:=RJ a0 yz U2
set_option maxHeartbeats 2000000 in
theorem DJ(h1:S bb=qb)(h2:S fW=Ss):pI fG fg S a0 yz (λs z=>∃r,U2 s z=some r) (λs z s' y=>U2 s z=some (s',y)):=by
 rintro b s ⟨⟩ ⟨r,hr⟩;have hr0:=hr;obtain⟨⟨s',l'⟩,hl,hr⟩:=qmi.1 hr;simp only at hr;subst hr;obtain⟨c0,hc0⟩:∃c,Ft s=some c:=by
  rw[MH]at hl;obtain⟨c,hc,_⟩:=ql9.1 hl;exact⟨c,hc⟩
 simp[fG,fg,h1,iC,hc0, -Bool.forall_bool, -Bool.exists_bool];intro b2;refine aP (X:=Nat×Rp×Value×List Rx×Int) [0,2] [2] (λz=>MH z.1 z.2.1 z.2.2.2.1=some (s',l')/\z.2.2.2.1.length+z.1<=100/\Ft z.2.1=some z.2.2.2.2) (λz=>[(4, .own 36 z.2.2.1),(5, .v (.int .i32 z.2.2.2.2))]) (λz=>[(0, .box b (ng z.2.1)),(36, .row z.2.2.1 uA 5 (z.2.2.2.1.map enc))]) (λz=>z.1) (100,s, .slice none 0 0, [],c0) ⟨hl,by simp,hc0⟩ (by simp) (by simp[isNilRow]) ?_;clear hl;rintro⟨k,p,v,l,c⟩ ⟨hk,hlen,hc⟩;simp only at hk hlen hc;obtain _|k:=k
 ·rw[MH]at hk;cases hk
 rw[MH,hc]at hk;simp only[qmx]at hk;split at hk
 ·rename_i hend;cases hk;have hlt:(l'.length:Int)<=9223372036854775807:=by omega
  by_cases hl1:l'.length=1
  ·obtain⟨e,rfl⟩:∃e,l'=[e]:=qnk.1 hl1;rcases hend with h|rfl|rfl
   ·have h':¬0<=c:=by omega
    simp[h', -Bool.forall_bool, -Bool.exists_bool];exact yo s' (by simp) hr0
   all_goals
    simp[-Bool.forall_bool, -Bool.exists_bool];exact yo s' (by simp) hr0
  ·rw[LH hl1]at hr0;have hl1':¬ (l'.length:Int)=1:=by omega
   rcases hend with h|rfl|rfl
   ·have h':¬0<=c:=by omega
    simp[h',hl1,hl1',hlt, -Bool.forall_bool, -Bool.exists_bool];exact Ut (el:=uA) s' (by simp) (by decide) (by simp) hr0
   all_goals
    simp[hl1,hl1',hlt, -Bool.forall_bool, -Bool.exists_bool];exact Ut (el:=uA) s' (by simp) (by decide) (by simp) hr0
 ·rename_i hgo;obtain⟨q,hq,hk⟩:=ql9.1 hk;split at hk
  ·cases hk
  rename_i hop;have hok:=ZK hq;obtain⟨p',e,ok⟩:=q;simp only at hk hok hop;subst hok;have n1:0<=c:=by omega
  have n2:c≠124:=by omega
  have n3:c≠41:=by omega
  obtain⟨c1,hc1⟩:∃c,Ft p'=some c:=by
   obtain _|k:=k
   ·rw[MH]at hk;cases hk
   rw[MH]at hk;obtain⟨c,hc,_⟩:=ql9.1 hk;exact⟨c,hc⟩
  simp[h1,h2,iC,hc1,hq,n1,n2,n3,hop, -Bool.forall_bool, -Bool.exists_bool];exact⟨by omega,by omega,λv=>⟨k,p',v,l++ [e],c1,⟨hk,by simp;omega,hc1⟩,⟨⟨rfl,rfl⟩, .inl ⟨rfl,rfl,rfl,rfl⟩, .inl ⟨rfl,by simp⟩⟩,by omega⟩⟩
def qaF{p:Rp}{q:Rp× (Rx×Bool)}(h:U2 p ()=some q):q.2.2=true:=by
 obtain⟨a,_,rfl⟩:=qmi.1 h;rfl
abbrev Sr:Spc:=RJ a0 yz Wp
set_option maxHeartbeats 2000000 in
theorem FN(h1:S bb=qb)(h2:S fY=Sx):pI ga fQ S a0 yz (λs z=>∃r,Wp s z=some r) (λs z s' y=>Wp s z=some (s',y)):=by
 rintro b s ⟨⟩ ⟨r,hr⟩;have hr0:=hr;obtain⟨⟨s',l'⟩,hl,hr⟩:=qmi.1 hr;simp only at hr;subst hr;simp[ga,fQ, -Bool.forall_bool, -Bool.exists_bool];intro b2;refine aP (X:=Nat×Rp×Value×List Rx) [0,2] [2] (λz=>R6 z.1 z.2.1 z.2.2.2=some (s',l')/\z.2.2.2.length+z.1<=100) (λz=>[(4, .own 25 z.2.2.1)]) (λz=>[(0, .box b (ng z.2.1)),(25, .row z.2.2.1 uA 5 (z.2.2.2.map enc))]) (λz=>z.1) (100,s, .slice none 0 0, []) ⟨hl,by simp⟩ (by simp) (by simp[isNilRow]) ?_;clear hl;rintro⟨k,p,v,l⟩ ⟨hk,hlen⟩;simp only at hk hlen;obtain _|k:=k
 ·rw[R6]at hk;cases hk
 rw[R6]at hk;obtain⟨⟨p',e,ok⟩,hq,hk2⟩:=ql9.1 hk;clear hk;obtain⟨c,hc,hk3⟩:=ql9.1 hk2;clear hk2;have hok:=qaF hq;simp only at hok hc hk3;subst hok;have hop:¬e.op=3:=λh=>by rw[if_pos h]at hk3;cases hk3
 rw[if_neg hop]at hk3;have hcc:=P0 hc;by_cases hc124:c=124
 ·rw[if_pos hc124]at hk3;have hk:=hk3;subst hc124;have hin:=hcc.2.2 (by omega);simp[h1,h2,iC,hc,hq,hop,hin, -Bool.forall_bool, -Bool.exists_bool];exact⟨by omega,by omega,λv=>⟨k,p'.bump,v,l++ [e],⟨hk,by simp;omega⟩,⟨rfl, .inl ⟨rfl,rfl,rfl,rfl⟩, .inl ⟨rfl,by simp⟩⟩,by omega⟩⟩
 ·rw[if_neg hc124]at hk3;cases hk3;have hlt:((l++ [e]).length:Int)<=9223372036854775807:=by simp;omega
  have hcc':¬c=124:=hc124;cases l with
  | nil=>
    simp[h1,h2,iC,hc,hq,hop,hcc', -Bool.forall_bool, -Bool.exists_bool];exactλv=>yo s' (by simp) hr0
  | cons x l=>
    simp[h1,h2,iC,hc,hq,hop,hcc', -Bool.forall_bool, -Bool.exists_bool];have hr1:=hr0;rw[LH (by simp)]at hr1;exact⟨by simp at hlen;omega,by simp at hlen;omega,λv _=>⟨λh=>absurd h (by omega),λ_=>Ut (el:=uA) (l:=x::l++ [e]) s' (by simp) (by decide) (by simp) hr1⟩⟩
end Go.Gv
namespace Go.Gv
open Go.Proofs
def eG:CC:=gq Tryz.f210 [] {} _
def eD:List aj:=[]
def qA:aq Tryz.prog dn [] eG eD 14:=fo
def cU:CC:=gq Tryz.f215 [] {} _
def cR:List aj:=[]
def lD:aq Tryz.prog dh [] cU cR 148:=fo
def bT:CC:=gq Tryz.f218 [] {} _
def bO:List aj:=[]
def iK:aq Tryz.prog cb [] bT bO 53:=fo
def lO:CC:=gq Tryz.f216 [] {} _
def lB:List aj:=[.tmp 2]
def BA:aq Tryz.prog nc [] lO lB 8:=fo
def jC:CC:=gq Tryz.f227 [] {} _
def jp:List aj:=[.tmp 2]
def xS:aq Tryz.prog kG [] jC jp 25:=fo
def iX:CC:=gq Tryz.f212 [] {} _
def iJ:List aj:=[.tmp 4]
def wD:aq Tryz.prog jz [] iX iJ 20:=fo
def lg:CC:=gq Tryz.f217 [] {} _
def kg:List aj:=[.tmp 2]
def Ac:aq Tryz.prog lK [] lg kg 6:=fo
def kT:CC:=gq Tryz.f211 [2,3] {} _
def jS:List aj:=[.tmp 4]
def zT:aq Tryz.prog cz [2,3] kT jS 10:=fo
def nh:CC:=gq Tryz.f202 [2044048] { bx:=[0] } _
def mQ:List aj:=[.tmp 2]
def CJ:aq Tryz.prog oY [2044048] nh mQ 51:=fo
open Cod (enc dec)
variable {S S0:Nat->Spc}
abbrev SE:Spc:=aY (a1 I32) (λ_=>True) (enc (X:=Bool)) λ_ y=>y=false
def Bf:av lg kg S (a1 I32) (λ_=>True) (enc (X:=Bool)) λ_ y=>y=false:=by
 rintro x -;simp[lg,kg, -Bool.forall_bool]
def JW(a b:Int):Int:=if a < b then -1 else if b < a then 1 else 0
abbrev SO:Spc:=aY (a2 I32 I32) (λ_=>True) (enc (X:=Int)) λx y=>y=JW x.1.val x.2.val
def xy(h1:S lK=SE):av iX iJ S (a2 I32 I32) (λ_=>True) (enc (X:=Int)) λx y=>y=JW x.1.val x.2.val:=by
 rintro⟨⟨x⟩,⟨y⟩⟩ -;simp[iX,iJ,h1, -Bool.forall_bool, -Bool.exists_bool];refine⟨λh=>by simp[JW,h],λh=>⟨λh2=>?_,λh2=>?_⟩⟩
 ·have h3:¬x < y:=by omega
  simp[JW,h2,h3]
 ·have h3:¬x < y:=by omega
  have h4:¬y < x:=by omega
  simp[JW,h3,h4]
abbrev SF:Spc:=aY (a2 Rng Rng) (λ_=>True) (enc (X:=Int)) λx y=>y=JW x.1.fr.val x.2.fr.val
def A7(h1:S jz=SO):av kT jS S (a2 Rng Rng) (λ_=>True) (enc (X:=Int)) λx y=>y=JW x.1.fr.val x.2.fr.val:=by
 rintro⟨x,y⟩ -;simp[kT,jS,h1, -Bool.forall_bool, -Bool.exists_bool]
abbrev O9:Spc:=aY (a1 U64) (λx=>0<=x.val/\x.val<=200) (enc (X:=Int)) λ_ _=>True
def VD(x:List Rng×Int×Int×D×Unit):Prop:=Bh x.1=true/\x.2.1=0/\x.2.2.1=x.1.length/\x.2.2.2.1= .clo cz []
abbrev SG:Spc:=aY (aE (List Rng) (aE Int (aE Int (aD a0)))) VD PD λ_ _=>True
def zG{l:List Rng}(h:Bh l=true):1<=l.length/\l.length<=2:=by
 match l,h with
 | [x],_=>exact⟨qmm 1,qnt 1⟩
 | [x,y],_=>exact⟨qnt 1,qmm 2⟩
def Lg:∀ {l:List Rng},Bh l=true->1 < l.length->∃x y,l=[x,y]
 | [x,y],_,_=>⟨x,y,rfl⟩
 | [x],_,h=>by simp at h
def Sd:∀ {l:List Rng} {x:Rng},l[0]? =some x->(l.take 1).foldl nR []=[x]
 | y::l,x,h=>by cases h;rfl
theorem FM(h1:S cz=SF):av bT bO S (aE (List Rng) (aE Int (aE Int (aD a0)))) VD PD λ_ _=>True:=by
 rintro⟨l,a,b,d,⟨⟩⟩ ⟨hs,ha,hb,hd⟩;simp only at hs ha hb hd;subst ha;subst hb;subst hd;simp[bT,bO, -Bool.forall_bool, -Bool.exists_bool];have hl2:=zG hs;refine⟨by simp only[InR];omega,?_⟩;refine aP (X:=Nat) [0,1,2,3] [] (λi=>1<=i/\i<=l.length) (λi=>[(8,enc (i:Int))]) (λ_=>[]) (λi=>l.length -i) 1 ⟨qmm 1,hl2.1⟩ (by simp) (by simp) ?_;rintro i ⟨hi1,hi2⟩;by_cases hlt:i < l.length
 ·obtain rfl:i=1:=by omega
  obtain⟨x,y,rfl⟩:=Lg hs hlt;simp[-Bool.forall_bool, -Bool.exists_bool];refine aP (X:=Unit) [0,1,2,3,8] [] (λ_=>True) (λ_=>[(9,enc (1:Int))]) (λ_=>[]) (λ_=>0) () trivial (by simp) (by simp) ?_;rintro - -;have hc:¬JW y.fr.val x.fr.val < 0:=by
   simp[Bh]at hs;unfold JW;rw[if_neg (by omega)];split <;> omega
  simp[h1,hc, -Bool.forall_bool, -Bool.exists_bool];exact⟨by simp only[InR];omega,λ_=>⟨by simp only[InR];omega,2,⟨by omega,by omega⟩,rfl,rfl⟩⟩
 ·obtain rfl:i=l.length:=by omega
  simp[-Bool.forall_bool, -Bool.exists_bool];exact cp (Y:=Unit) () (.same _) trivial
abbrev SD:Spc:=aY (aE (List Rng) (aE Int (aE Int (aE Int (aD a0))))) (λx=>VD (x.1,x.2.1,x.2.2.1,x.2.2.2.2)) PD λ_ _=>True
def FL(h1:S cb=SG):av cU cR S (aE (List Rng) (aE Int (aE Int (aE Int (aD a0))))) (λx=>VD (x.1,x.2.1,x.2.2.1,x.2.2.2.2)) PD λ_ _=>True:=by
 rintro⟨l,a,b,lim,d,⟨⟩⟩ hp;have hp':=hp;obtain⟨hs,ha,hb,hd⟩:=hp;simp only at hs ha hb hd hp';subst ha;subst hb;subst hd;have hl2:=zG hs;simp[cU,cR, -Bool.forall_bool, -Bool.exists_bool];refine aP (X:=Unit) [0,1,2,3,4,10,11] [] (λ_=>True) (λ_=>[]) (λ_=>[]) (λ_=>0) () trivial (by simp) (by simp) ?_;rintro - -;have h12:(l.length:Int)<=12:=by omega
 have hin:InR .i64 (l.length:Int):=by simp only[InR];omega
 simp[h1,h12,hin,hp', -Bool.forall_bool, -Bool.exists_bool];exact cp (Y:=Unit) () (.same _) trivial
abbrev WD:Spc:=aY (aE (List Rng) (aD a0)) (λx=>Bh x.1=true/\x.2.1= .clo cz []) PD λ_ _=>True
def ra(h1:S nc=O9)(h2:S dh=SD):av eG eD S (aE (List Rng) (aD a0)) (λx=>Bh x.1=true/\x.2.1= .clo cz []) PD λ_ _=>True:=by
 rintro⟨l,d,⟨⟩⟩ ⟨hs,hd⟩;simp only at hs hd;subst hd;have hl2:=zG hs;have hp:VD (l,0,(l.length:Int), .clo cz [],()):=⟨hs,rfl,rfl,rfl⟩
 have hw:IntKind.u64.wrap (l.length:Int)=l.length:=by rw[IntKind.wrap_u64];omega
 have h200:(l.length:Int)<=200:=by omega
 simp[eG,eD,h1,h2,hp,hw,h200, -Bool.forall_bool, -Bool.exists_bool];exactλ_=>cp (Y:=Unit) () (.same _) trivial
abbrev LC:Spc:=aY (a1 U64) (λx=>0<=x.val/\x.val<=200) (enc (X:=Int)) λ_ _=>True
def Ng(h1:S kG=LC):av lO lB S (a1 U64) (λx=>0<=x.val/\x.val<=200) (enc (X:=Int)) λ_ _=>True:=by
 rintro⟨x⟩ ⟨h0,h2⟩;simp only at h0 h2;simp[lO,lB,h1,h0,h2, -Bool.forall_bool, -Bool.exists_bool]
def Ij:av jC jp S (a1 U64) (λx=>0<=x.val/\x.val<=200) (enc (X:=Int)) λ_ _=>True:=by
 rintro⟨x⟩ ⟨h0,h2⟩;simp only at h0 h2;have c1:¬4294967296<=x:=by omega
 have c2:¬65536<=x:=by omega
 have c3:¬256<=x:=by omega
 have hw:IntKind.u8.wrap x=x:=by rw[IntKind.wrap_u8];omega
 simp[jC,jp,c1,c2,c3,hw,h0, -Bool.forall_bool, -Bool.exists_bool];refine⟨Int.lt_of_le_of_lt h2 (by decide),λc _=>?_⟩;have:=c.toNat_lt;have hw2:IntKind.i64.wrap (c.toNat:Int)=c.toNat:=by rw[IntKind.wrap_i64];omega
 rw[hw2];simp only[InR];omega
abbrev P3:Spc:=qeo (Y:=Rng) (aD a0) (λx=>Bh x.1=true/\x.2.1= .clo cz []) PD (λ_ _=>True) re 2
abbrev Lr:Spc:=qiD (Y:=Rng) a0 (λ_ l=>Bh l=true) (λ_ l r=>r=Af l) re 2
set_option maxHeartbeats 1000000 in
theorem DH(h1:S dn=P3):Vn (Y:=Rng) nh mQ S a0 (λ_ l=>Bh l=true) (λ_ l r=>r=Af l) re 2:=by
 rintro v l ⟨⟩ hs;have hs:Bh l=true:=hs;have hl2:=zG hs;simp[nh,mQ,h1,hs, -Bool.forall_bool, -Bool.exists_bool];intro _;refine ak (X:=Value×List Rng) [9] [0] l.length (λk x=>x.2=(l.take k).foldl nR []) (λx=>[(3, .own 48 x.1)]) (λx=>[(48, .row x.1 re 2 (x.2.map enc))]) (.slice none 0 0, []) (by simp) (by simp) (by omega) (by simp) (by simp) rfl (by simp) (by simp[isNilRow]) ?_ ?_
 ·rintro k ⟨v',out⟩ hk hP;simp only at hP;have hk2:k=0\/k=1:=by omega
  rcases hk2 with rfl|rfl
  ·obtain⟨x,hx⟩:∃x,l[0]? =some x:=⟨_,qmd hk⟩
   obtain⟨_,hgx⟩:=qmb.1 hx;have ho:out=[]:=by rw[hP];rfl
   subst ho;have h1:=Sd hx;simp[hk,hx,hgx,h1, -Bool.forall_bool, -Bool.exists_bool]
  ·obtain⟨x,y,rfl⟩:=Lg hs hk;have ho:out=[x]:=by rw[hP];rfl
   subst ho;simp[Bh]at hs;by_cases hle:y.fr.val<=x.to.val+1
   ·have hst:nR (nR [] x) y=[⟨x.fr,⟨max x.to.val y.to.val⟩⟩]:=by simp[nR,hle]
    have hr:InR .i32 (x.to.val+1):=by simp only[InR];omega
    simp[hle,hst,hr, -Bool.forall_bool, -Bool.exists_bool];simp only[InR];omega
   ·have hst:nR (nR [] x) y=[x,y]:=by simp[nR,hle]
    have hr:InR .i32 (x.to.val+1):=by simp only[InR];omega
    simp[hle,hst,hr, -Bool.forall_bool, -Bool.exists_bool];simp only[InR];omega
 ·rintro⟨v',out⟩ hP;simp only at hP;rw[qmJ]at hP;subst hP;simp[-Bool.forall_bool, -Bool.exists_bool];exact JH (Af l) (by simp[Af]) rfl
def U0{p:Rp}{sp:B}{q:Rp× (I32×Bool)}{c:Int}(hc:Ft p=some c)(h:wR p sp=some q):q=(p.bump,⟨c⟩,true):=by
 unfold wR at h;rw[hc,qmx]at h;split at h
 ·cases h
 ·exact(qmk h).symm
def Xi{p:Rp}{q:Rp× (I32×Bool)}{c:Int}(hc:Ft p=some c)(h:LS p ()=some q):q=(p.bump,⟨c⟩,true):=by
 unfold LS at h;rw[hc,qmx]at h;split at h
 ·cases h
 ·exact U0 hc h
theorem qdI{b:Nat}{post:Rp->(Rx×Bool)->Prop}{l:List Rng}{id el:Nat}{v:Value}{H:ab}(s:Rp)(h0:H 0=some (.box b (ng s)))(hi:id≠0)(h1:H id=some (.row v el 2 (l.map enc)))(hq:post s (⟨1,0,0,l, []⟩,true)):
 AQ yz b post (.tup [.agg [.v (.int .i64 1), .v (.int .i64 0), .v (.int .i64 0), .own id v, .v (.slice none 0 0)], .v (.bool true)]) H:=by
 refine As s (⟨1,0,0,l, []⟩,true) (.tup rfl λk c c' hc hc'=>?_) h0 hq
 match k with
 | 0=>
   cases hc;cases hc';refine JD l [] (.row (el:=el) (by simp[hi];exact h1) rfl (λd hd=>?_) (λk c c' hc hc'=>?_)) (.nil _)
   ·obtain⟨x,_,rfl⟩:=qmo.1 hd;exact⟨Cod.kn x,Cod.wid x⟩
   ·rw[hc]at hc';cases hc';exact .same _
 | 1=>cases hc;cases hc';exact .same _
 | k+2=>simp at hc
set_option maxHeartbeats 2000000 in
theorem FQ(h1:S bb=qb)(h2:S fX=Sv)(h3:S oY=Lr):pI gb fR S a0 yz (λs z=>∃r,Ya s z=some r) (λs z s' y=>Ya s z=some (s',y)):=by
 rintro b s ⟨⟩ ⟨r,hr⟩;have hr0:=hr;obtain⟨a0,ha0,h⟩:=ql9.1 hr;have e91:¬a0≠91:=λe=>by rw[if_pos e]at h;cases h
 rw[if_neg e91]at h;have hin:=(P0 ha0).2.2 (by omega);obtain⟨c0,hc0,h⟩:=ql9.1 h;have n94:¬c0=94:=λe=>by rw[if_pos e]at h;cases h
 rw[if_neg n94]at h;obtain⟨⟨s',l'⟩,hl,h⟩:=ql9.1 h;simp only at h;have hsrt:Bh l'=true:=by
  split at h
  ·assumption
  ·cases h
 rw[if_pos hsrt]at h;cases h;have hc1:Ft ⟨s.s,s.pos+1,s.fault,s.e⟩=some c0:=hc0;simp[gb,fR,h1,iC,hin,hc1,n94, -Bool.forall_bool, -Bool.exists_bool];intro b2;refine aP (X:=Nat×Rp×Value×List Rng) [0,2,4,5] [2] (λz=>UZ z.1 z.2.1 z.2.2.2=some (s',l')/\z.2.2.2.length+z.1<=100) (λz=>[(6, .own 86 z.2.2.1)]) (λz=>[(0, .box b (ng z.2.1)),(86, .row z.2.2.1 re 2 (z.2.2.2.map enc))]) (λz=>z.1) (100,s.bump, .slice none 0 0, []) ⟨hl,by simp⟩ (by simp) (by simp[isNilRow,Rp.bump]) ?_;clear hl;rintro⟨k,p,v,l⟩ ⟨hk,hlen⟩;simp only at hk hlen;obtain _|k:=k
 ·rw[UZ]at hk;cases hk
 rw[UZ]at hk;obtain⟨c,hc,hk2⟩:=ql9.1 hk;clear hk;have hlt:(l.length:Int)<=9223372036854775807:=by omega
 by_cases hend:l≠ []/\c=93
 ·rw[if_pos hend]at hk2;cases hk2;obtain⟨hne,rfl⟩:=hend;have hin2:=(P0 hc).2.2 (by omega);have hl0:¬l'.length=0:=λe=>hne (qmS.1 e)
  simp(config:={ maxSteps:=2000000 }) [h1,h3,iC,hc,hlt,hne,hl0,hin2,hsrt, -Bool.forall_bool, -Bool.exists_bool];exactλv'=>qdI (el:=re) s'.bump (by simp[Rp.bump]) (by decide) (by simp) hr0
 ·rw[if_neg hend]at hk2;obtain⟨q,hq,hk3⟩:=ql9.1 hk2;clear hk2;obtain⟨d,hd,hk4⟩:=ql9.1 hk3;clear hk3;have hqv:=Xi hc hq;subst hqv;simp only at hd hk4;have n45:¬d=45:=λe=>by rw[if_pos e]at hk4;cases hk4
  rw[if_neg n45]at hk4;have hd':Ft ⟨p.s,p.pos+1,p.fault,p.e⟩=some d:=hd;cases l with
  | nil=>
    simp(config:={ maxSteps:=2000000 }) [h1,h2,iC,hq,hd',n45,Rp.bump, -Bool.forall_bool, -Bool.exists_bool];exactλv=>⟨k,p.bump,v, [⟨⟨c⟩,⟨c⟩⟩],⟨hk4,by simp at hlen ⊢;omega⟩,⟨rfl, .inl ⟨rfl,rfl,rfl,rfl⟩, .inl ⟨rfl,by simp⟩⟩,by omega⟩
  | cons x l=>
    have n93:¬c=93:=λe=>hend ⟨by simp,e⟩
    simp(config:={ maxSteps:=2000000 }) [h1,h2,iC,hc,hq,hd',n45,n93,Rp.bump, -Bool.forall_bool, -Bool.exists_bool];have hlen2:l.length+1+ (k+1)<=100:=by simpa using hlen
    first
     | exactλ_ _=>⟨by omega,by omega,λv=>⟨k,p.bump,v,x::l++ [⟨⟨c⟩,⟨c⟩⟩],⟨hk4,by simp;omega⟩,⟨rfl, .inl ⟨rfl,rfl,rfl,rfl⟩, .inl ⟨rfl,by simp⟩⟩,by omega⟩⟩
     | exact⟨by omega,by omega,by omega,λv=>⟨k,p.bump,v,x::l++ [⟨⟨c⟩,⟨c⟩⟩],⟨hk4,by simp;omega⟩,⟨rfl, .inl ⟨rfl,rfl,rfl,rfl⟩, .inl ⟨rfl,by simp⟩⟩,by omega⟩⟩
     | exact⟨by omega,by omega,λv=>⟨k,p.bump,v,x::l++ [⟨⟨c⟩,⟨c⟩⟩],⟨hk4,by simp;omega⟩,⟨rfl, .inl ⟨rfl,rfl,rfl,rfl⟩, .inl ⟨rfl,by simp⟩⟩,by omega⟩⟩
     | (refineλ_=>⟨λ_=>?_,λ_=>?_⟩ <;> exact⟨by omega,by omega,λv=>⟨k,p.bump,v,x::l++ [⟨⟨c⟩,⟨c⟩⟩],⟨hk4,by simp;omega⟩,⟨rfl, .inl ⟨rfl,rfl,rfl,rfl⟩, .inl ⟨rfl,by simp⟩⟩,by omega⟩⟩)
end Go.Gv
namespace Go.Gv
open Cod (enc dec)
variable {dq:Prop}
def qhH(F:Rx->Int->Int->Option (Bool×Int)):PT:=λd ds H K=>∃id b x n k r d0,ds=[d0, .v (.int .i64 n), .bptr id b 0]/\dec d0=some x/\H id=some (.box b [.v (.int .i64 k)])/\F x n k=some r/\K (.v (.bool r.1)) (ai H id (some (.box b [.v (.int .i64 r.2)])))
def WA(F:Rx->Int->Int->Option (Bool×Int)):pJ (qhH F):=λd ds H K K' hk ⟨id,b,x,n,k,r,d0,h1,h2,h3,h4,h5⟩=>⟨id,b,x,n,k,r,d0,h1,h2,h3,h4,hk _ _ h5⟩
def qbh(F:Rx->Int->Int->Option (Bool×Int)):Spc:= .gen _ (WA F)
def qfc(F:Rx->Int->Int->Option (Bool×Int))(o:Option Rx)(n:Int)(id b:Nat)(q:Option Res)(H:ab)(K:D->ab->Prop):Prop:=
 ∃k,q=some (.box b [.v (.int .i64 k)])/\fq o λx=>fq (F x n k) λr=>K (.v (.bool r.1)) (ai H id (some (.box b [.v (.int .i64 r.2)])))
@[congr] theorem qhG{F:Rx->Int->Int->Option (Bool×Int)}{o o':Option Rx}{n n':Int}{id b:Nat}{q q':Option Res}{H:ab}{K:D->ab->Prop}(h1:o=o')(h2:n=n')(h3:q=q'):qfc F o n id b q H K=qfc F o' n' id b q' H K:=by subst h1;subst h2;subst h3;rfl
@[simp] theorem qhI(F:Rx->Int->Int->Option (Bool×Int))(d id b:Nat)(d0:D)(n:Int)(H:ab)(K:D->ab->Prop):(qbh F).pt d [d0, .v (.int .i64 n), .bptr id b 0] H K=qfc F (dec d0) n id b (H id) H K:=by
 refine propext ⟨λh=>?_,λh=>?_⟩
 ·obtain⟨id',b',x,n',k,r,d0',h1,h2,h3,h4,h5⟩:=h;cases h1;refine⟨k,h3,?_⟩;rw[h2];show fq (F x n k) _;rw[h4];exact h5
 ·obtain⟨k,h1,h2⟩:=h;cases hx:dec (X:=Rx) d0 with
  | none=>rw[hx]at h2;exact h2.elim
  | some x=>
    rw[hx]at h2;have h2:fq (F x n k) _:=h2;cases hr:F x n k with
    | none=>rw[hr]at h2;exact h2.elim
    | some r=>rw[hr]at h2;exact⟨id,b,x,n,k,r,d0,rfl,hx,h1,hr,h2⟩
@[simp] theorem qkg(F:Rx->Int->Int->Option (Bool×Int))(o:Option Rx)(n:Int)(id b:Nat)(k:Int)(H:ab)(K:D->ab->Prop):
 qfc F o n id b (some (.box b [.v (.int .i64 k)])) H K=fq o λx=>fq (F x n k) λr=>K (.v (.bool r.1)) (ai H id (some (.box b [.v (.int .i64 r.2)]))):=by
 refine propext ⟨λ⟨k',h1,h2⟩=>?_,λh=>⟨k,rfl,h⟩⟩;cases h1;exact h2
def qeK(b:Nat)(q:Bool×Int)(r:D)(H:ab):Prop:=r= .v (.bool q.1)/\H 2=some (.box b [.v (.int .i64 q.2)])
def Vm(cc:CC)(rs:List aj)(S:Nat->Spc)(F:Rx->Int->Int->Option (Bool×Int)):Prop:=
 ∀b x n k q,F x n k=some q->vc S cc (nQ rs λr H'=>qeK b q r H') (cE [enc x, .v (.int .i64 n), .bptr 2 b 0]) (ai cw 2 (some (.box b [.v (.int .i64 k)])))
variable {P:Program}{S:Nat->Spc}{f:Nat}{im:List Nat}{cc:CC}{rs:List aj}{N:Nat}
theorem Nm{F:Rx->Int->Int->Option (Bool×Int)}(hS:∀f,Tri dq P f (S f).pt)(h:aq P f im cc rs N)(hN:3<=N)(hw:Vm cc rs S F):Tri dq P f (qbh F).pt:=by
 obtain⟨pR,enter,fn,code,h1,h2,h3,h4,h5⟩:=h;refine iv hS pR h1 h2 enter h3 h4 h5 ?_;rintro ds H d K ⟨id,b,x,n,k,r,d0,rfl,hd,hid,hF,hK⟩;have h0:∀i q,ai cw 2 (some (.box b [.v (.int .i64 k)])) i=some q->i=2/\q= .box b [.v (.int .i64 k)]:=by
  intro i q h;by_cases e:i=2
  ·subst e;simp only[ai,if_true]at h;cases h;exact⟨rfl,rfl⟩
  ·simp[ai,e,cw]at h
 refine⟨hN, [enc x, .v (.int .i64 n), .bptr 2 b 0],ai cw 2 (some (.box b [.v (.int .i64 k)])),λi=>if i=2 then id else i, .cons (Cod.le _ _ hd) (.cons (.same _) (.cons (.bptr _ _ _ _) .nil)),λi q h=>?_,λi j q q' h h' e=>?_,_,hw b x n k r hF,?_⟩
 ·obtain⟨rfl,rfl⟩:=h0 i q h;exact hid
 ·exact(h0 i q h).1.trans (h0 j q' h').1.symm
 ·rintro r' H' ⟨rfl,k2⟩;refine⟨.v (.bool r.1),cw,ai H id (some (.box b [.v (.int .i64 r.2)])),λi=>if i=id then some 2 else none, .same _,λj q h=>by simp[cw]at h,hK,λi s hi=>?_,λi j k' s q hi hj e1 e2=>?_⟩
  ·by_cases e:i=id
   ·subst e;simp only[ai,if_true]at hi ⊢;cases hi;exact k2
   ·simp only[ai,e,if_false]at hi ⊢;refine⟨hi,λk'' q h he=>?_⟩;obtain⟨rfl,rfl⟩:=h0 k'' q h;exact e he.symm
  ·by_cases c1:i=id
   ·by_cases c2:j=id
    ·exact c1.trans c2.symm
    ·simp[c2]at e2
   ·simp[c1]at e1
end Go.Gv
