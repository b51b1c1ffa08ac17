/- A part of the framework and of the walks: W130 W131 W132 C52 W133 W134 T32. -/
import Derived.Test.YtfbleenmepoodaaGreatDoorGa27
set_option linter.unusedSimpArgs false
set_option linter.unusedVariables false
set_option linter.unusedSectionVars false
set_option linter.defProp false
set_option maxRecDepth 100000
set_option maxHeartbeats 0
namespace Go.Gv
open Cod (enc dec)
variable {S S0:Nat->Spc}
abbrev s_decR:Spc:=aZ (a1 B) (λs=>∃c,s.data[0]? =some c/\c.toNat < 128) (sj (Y:=I32) (Z:=Int)) λs y=>∀c,s.data[0]? =some c->y=(⟨c.toNat⟩,1)
abbrev s_crune:Spc:=aZ (a2 B I32) (λx=>0<=x.2.val/\x.2.val < 128) (enc (X:=Bool)) λx y=>y=UK x.1 x.2.val
def uj{p:Rp}{c:Int}(h:DP p=some c):p.s.size<=200/\((p.pos=p.s.size/\c= -1)\/(0<=p.pos/\p.pos < p.s.size/\p.pos≠p.s.size/\∃x:UInt8,p.s.data[p.pos.toNat]? =some x/\x.toNat < 128/\c=x.toNat)):=by
 unfold DP at h;split at h
 ·cases h
 rename_i hsz;refine⟨by omega,?_⟩;split at h
 ·exact .inl ⟨by assumption,(qjJ h).symm⟩
 ·rename_i hne;split at h
  ·rename_i h0;split at h
   ·rename_i x hx;split at h
    ·rename_i hlt;have hx2:=(qjG.1 hx).1;refine .inr ⟨h0,?_,hne,x,hx,hlt,(qjJ h).symm⟩;show p.pos < (p.s.data.size:Int);omega
    ·cases h
   ·cases h
  ·cases h
def qh8{s:B}{k:Nat}{x:UInt8}(h:s.data[k]? =some x):(s.extract k s.size).data[0]? =some x:=by
 obtain⟨h1,h2⟩:=qjG.1 h;rw[ByteArray.data_extract,Array.getElem?_extract];have:0 < min s.size s.data.size -k:=by
  have:s.size=s.data.size:=rfl;omega
 rw[if_pos this,qkK];exact h
abbrev oU:Spc:=Pw a0 (enc (X:=I32)) gZ
theorem F7(h1:S ck=s_decR):oo dX dR S a0 (enc (X:=I32)) (λs z=>∃r,gZ s z=some r) (λs z s' y=>gZ s z=some (s',y)):=by
 rintro b s ⟨⟩ ⟨r,hr⟩;obtain⟨c,hc,_⟩:=qjH.1 hr;have rv:∀ {H:aa},H 0=some (.box b (mh s))->zi (enc (X:=I32)) b (λs' y=>gZ s ()=some (s',y)) (.v (.int .i32 c)) H:=λh0=>yF s ⟨c⟩ (.same _) h0 (by simp[gZ,hc])
 obtain⟨hsz,hc2⟩:=uj hc;rcases hc2 with⟨e1,rfl⟩|⟨h0,h2,h3,x,hx,hlt,rfl⟩
 ·simp[dX,dR,e1, -Bool.forall_bool, -Bool.exists_bool];exactλ_=>rv (by simp[e1])
 ·have hd:(s.s.data.extract s.pos.toNat s.s.size)[0]? =some x:=by rw[<-ByteArray.data_extract];exact qh8 hx
  simp[dX,dR,h1,h0,h2,h3, -Bool.forall_bool, -Bool.exists_bool];refineλ_=>⟨by omega,⟨x,hd,hlt⟩,λa b1 h=>?_⟩
  obtain⟨rfl,rfl⟩:=h x hd;exact rv (by simp)
abbrev MU:Spc:=Pw a0 Nt EX
theorem F6(h1:S ck=s_decR):oo gL gm S a0 Nt (λs z=>∃r,EX s z=some r) (λs z s' y=>EX s z=some (s',y)):=by
 rintro b s ⟨⟩ ⟨r,hr⟩;obtain⟨c,hc,h⟩:=qjy.1 hr;split at h
 ·rename_i hc0;have rv:∀ {H:aa},H 0=some (.box b (mh s.bump))->zi Nt b (λs' y=>EX s ()=some (s',y)) (.tup []) H:=λh0=>yF s.bump () (.same _) h0 (by simp[EX,hc,hc0])
  obtain⟨hsz,hc2⟩:=uj hc;rcases hc2 with⟨e1,rfl⟩|⟨h0,h2,h3,x,hx,hlt,rfl⟩
  ·omega
  ·have hd:(s.s.data.extract s.pos.toNat s.s.size)[0]? =some x:=by rw[<-ByteArray.data_extract];exact qh8 hx
   simp[gL,gm,h1,h0,h2,h3, -Bool.forall_bool, -Bool.exists_bool];refine⟨by omega,⟨x,hd,hlt⟩,λa b1 h=>?_⟩;obtain⟨rfl,rfl⟩:=h x hd;exact⟨by simp only[InR];omega,rv (by simp[Rp.bump])⟩
 ·cases h
abbrev U4:(I32×Bool)->D:=sj (Y:=I32) (Z:=Bool)
abbrev Gs:Spc:=Pw (a1 B) U4 vu
def xo(h1:S aS=oU)(h2:S iq=MU):oo dL dH S (a1 B) U4 (λs z=>∃r,vu s z=some r) (λs z s' y=>vu s z=some (s',y)):=by
 rintro b s sp ⟨r,hr⟩;obtain⟨c,hc,h⟩:=qjy.1 hr;split at h
 ·cases h
 ·rename_i hn;have n1:0<=c:=by omega
  have n2:c≠92:=λe=>hn (.inr e)
  simp[dL,dH,h1,h2,gZ,EX,hc,n1,n2, -Bool.forall_bool, -Bool.exists_bool];exact yF s.bump (⟨c⟩,true) (.same _) (by simp) (by simp[vu,hc,hn])
abbrev Qk:Spc:=Pw a0 U4 JO
theorem B7(h1:S aS=oU)(h2:S eZ=s_crune)(h3:S cK=Gs):oo fh eR S a0 U4 (λs z=>∃r,JO s z=some r) (λs z s' y=>JO s z=some (s',y)):=by
 rintro b s ⟨⟩ ⟨r,hr⟩;obtain⟨c,hc,h⟩:=qjy.1 hr;split at h
 ·cases h
 ·rename_i hn;have n1:¬c < 0:=λe=>hn (.inl e)
  have n2:UK NL c=false:=by
   cases e:UK NL c with
   | false=>rfl
   | true=>exact absurd (.inr e) hn
  have hsz:=uj hc;have h128:c < 128:=by
   rcases hsz.2 with⟨_,rfl⟩|⟨_,_,_,x,_,hlt,rfl⟩ <;> omega
  have n3:UK ⟨#[92,91,93,94,45]⟩ c=false:=n2;have h4:vu s ⟨#[92,91,93,94,45]⟩=some r:=h;simp[fh,eR,h1,h2,h3,gZ,hc,n1,n3,h4,h128, -Bool.forall_bool, -Bool.exists_bool];obtain⟨s',⟨c'⟩,t'⟩:=r;intro n0;refine⟨λ_=>⟨n0,yF s' (⟨c'⟩,t') (.same _) (by simp) (by simp[JO,hc,hn,h])⟩,λ_=>yF s' (⟨c'⟩,t') (.same _) (by simp) (by simp[JO,hc,hn,h])⟩
def Hv{H:aa}{op mn mx:Int}{d3 d4:D}(rs:List Rng)(ks:List Rx)(h3:FrzTo H d3 (enc rs))(h4:FrzTo H d4 (enc ks)):FrzTo H (.agg [.v (.int .i64 op), .v (.int .i64 mn), .v (.int .i64 mx),d3,d4]) (enc (Rx.mk op mn mx rs ks)):=by
 rw[R2];refine .agg rfl λk c c' hc hc'=>?_
 match k with
 | 0=>cases hc;cases hc';exact .same _
 | 1=>cases hc;cases hc';exact .same _
 | 2=>cases hc;cases hc';exact .same _
 | 3=>cases hc;cases hc';exact h3
 | 4=>cases hc;cases hc';exact h4
 | k+5=>simp at hc
abbrev Qj:Spc:=aZ (a2 I32 I32) (λ_=>True) (enc (X:=Rx)) λx y=>y=Qe x.1.val x.2.val
def Ir:ax rI qK S (a2 I32 I32) (λ_=>True) (enc (X:=Rx)) λx y=>y=Qe x.1.val x.2.val:=by
 rintro⟨x,y⟩ -;simp[rI,qK,Qe];exactλb=>dm (Y:=Rx) ⟨1,0,0, [⟨x,y⟩], []⟩ (Hv [⟨x,y⟩] [] (.same _) (.nil _)) rfl
abbrev wO:(Rx×Bool)->D:=sj (Y:=Rx) (Z:=Bool)
abbrev Ql:Spc:=Pw a0 wO Ve
abbrev MV:Spc:=Pw a0 wO NR
def qbp{b:Nat}{post:Rp->(Rx×Bool)->Prop}{x:Rx}{v:Bool}{H:aa}(s:Rp)(h0:H 0=some (.box b (mh s)))(hq:post s (x,v)):zi wO b post (.tup [enc x, .v (.bool v)]) H:=yF s (x,v) (.same _) h0 hq
def wD{b:Nat}{post:Rp->(Rx×Bool)->Prop}{x:Rx}{v:Bool}{H:aa}(s:Rp)(h0:H 0=some (.box b (mh s)))(hq:post s (x,v)):zi wO b post (.tup [.agg [.v (.int .i64 x.op), .v (.int .i64 x.mn), .v (.int .i64 x.mx), .list 2 (x.rs.map enc), .list 5 (x.kids.map enc)], .v (.bool v)]) H:=by
 have e:(D.agg [.v (.int .i64 x.op), .v (.int .i64 x.mn), .v (.int .i64 x.mx), .list 2 (x.rs.map enc), .list 5 (x.kids.map enc)])=enc x:=by simp
 rw[e];exact qbp s h0 hq
set_option maxHeartbeats 1000000 in
theorem F8(h1:S aS=oU)(h2:S tL=Qj)(h3:S gF=Ql)(h4:S eZ=s_crune)(h5:S cK=Gs):oo cW cQ S a0 wO (λs z=>∃r,NR s z=some r) (λs z s' y=>NR s z=some (s',y)):=by
 rintro b s ⟨⟩ ⟨r,hr⟩;have hr0:=hr;obtain⟨c,hc,h⟩:=qjy.1 hr;have hsz:=uj hc;have h128:c < 128:=by
  rcases hsz.2 with⟨_,rfl⟩|⟨_,_,_,x,_,hlt,rfl⟩ <;> omega
 split at h
 ·cases h
 rename_i e40;split at h
 ·rename_i e46;subst e46;have hp:InR .i64 (s.pos+1):=by
   rcases hsz.2 with⟨_,e⟩|⟨_,_,_,x,_,hlt,e⟩
   ·cases e
   ·simp only[InR];omega
  cases h;simp[cW,cQ,h1,h2,gZ,hc,hp, -Bool.forall_bool, -Bool.exists_bool];exactλ_=>wD s.bump (by simp[Rp.bump]) hr0
 rename_i e46;split at h
 ·rename_i e91;subst e91;obtain⟨s',x',t'⟩:=r;simp[cW,cQ,h1,h3,gZ,hc,h, -Bool.forall_bool, -Bool.exists_bool];exactλ_=>wD s' (by simp) hr0
 rename_i e91;split at h
 ·cases h
 ·rename_i hn;obtain⟨q,hq,rfl⟩:=qjH.1 h;obtain⟨s',⟨c'⟩,t'⟩:=q;have hq':=hq;obtain⟨c2,hc2,h'⟩:=qjy.1 hq';rw[hc]at hc2;obtain rfl:=qjJ hc2;split at h'
  ·cases h'
  rename_i hn2;have n0:0<=c:=by omega
  have n92:c≠92:=λe=>hn2 (.inr e)
  have nin:UK ⟨#[92,46,91,93,40,41,123,125,124,42,43,63]⟩ c=false:=by
   cases e:UK ⟨#[92,46,91,93,40,41,123,125,124,42,43,63]⟩ c with
   | false=>rfl
   | true=>exact absurd ⟨n92,e⟩ hn
  have hq2:vu s ⟨#[92,46,91,93,40,41,123,125,124,42,43,63]⟩=some (s',⟨c'⟩,t'):=hq;simp[cW,cQ,h1,h2,h4,h5,gZ,hc,e40,e46,e91,n0,n92,h128,nin,hq2, -Bool.forall_bool, -Bool.exists_bool];exactλ_=>wD s' (by simp) hr0
abbrev Qi:Spc:=Pw a0 wO QN
def NN{p:Rp}{c:Int}(h:DP p=some c):c < 128/\ -1<=c/\(0<=c->InR .i64 (p.pos+1)):=by
 obtain⟨h1,h2⟩:=uj h;rcases h2 with⟨_,rfl⟩|⟨_,_,_,x,_,hlt,rfl⟩
 ·exact⟨by omega,by omega,λh=>absurd h (by omega)⟩
 ·exact⟨by omega,by omega,λ_=>by simp only[InR];omega⟩
def Oy{c:Int}{m:Int×Int}(h:Eo c=some m):c=42/\m=(0, -1)\/c=43/\m=(1, -1)\/c=63/\m=(0,1):=by
 unfold Eo at h;split at h
 ·exact .inl ⟨by assumption,(qjJ h).symm⟩
 split at h
 ·exact .inr (.inl ⟨by assumption,(qjJ h).symm⟩)
 split at h
 ·exact .inr (.inr ⟨by assumption,(qjJ h).symm⟩)
 cases h
def Fc{c:Int}(h:Eo c=none):c≠42/\c≠43/\c≠63:=by
 unfold Eo at h;refine⟨λe=>?_,λe=>?_,λe=>?_⟩ <;> (subst e;simp at h)
def qJ(o:Option (Int×Int))(x:Rx):List D:=match o with
 | none=>[.v (.int .i64 x.op), .v (.int .i64 x.mn), .v (.int .i64 x.mx), .list 2 (x.rs.map enc), .list 5 (x.kids.map enc)]
 | some m=>[.v (.int .i64 4), .v (.int .i64 m.1), .v (.int .i64 m.2), .v (.slice none 0 0), .list 5 [enc x]]
def qbo{b:Nat}{post:Rp->(Rx×Bool)->Prop}{m:Int×Int}{e:Rx}{H:aa}(s:Rp)(h0:H 0=some (.box b (mh s)))(hq:post s (⟨4,m.1,m.2, [], [e]⟩,true)):zi wO b post (.tup [.agg (qJ (some m) e), .v (.bool true)]) H:=by
 refine yF s (⟨4,m.1,m.2, [], [e]⟩,true) (.tup rfl λk c c' hc hc'=>?_) h0 hq
 match k with
 | 0=>cases hc;cases hc';exact Hv [] [e] (.nil _) (.same _)
 | 1=>cases hc;cases hc';exact .same _
 | k+2=>simp at hc
set_option maxHeartbeats 2000000 in
theorem B5(h1:S aS=oU)(h2:S ir=MV):oo fg eQ S a0 wO (λs z=>∃r,QN s z=some r) (λs z s' y=>QN s z=some (s',y)):=by
 rintro b s ⟨⟩ ⟨r,hr⟩;have hr0:=hr;obtain⟨⟨s1,e,ok⟩,ha,h⟩:=qjy.1 hr;simp only at h;split at h
 rotate_left
 ·cases h
 rename_i hok;subst hok;obtain⟨c,hc,h⟩:=qjy.1 h;split at h
 ·cases h
 rename_i e123;have hcc:=NN hc;simp[fg,eQ,h2,ha, -Bool.forall_bool, -Bool.exists_bool];intro b2 b4;refine aL (X:=Option (Int×Int)) [0,2,4,5] [2] (λo=>∀m,o=some m->Eo c=some m) (λ_=>[]) (λo=>[(0, .box b (mh (match o with|none=>s1|some _=>s1.bump))),(4, .box b4 (qJ o e))]) (λo=>match o with|none=>1|some _=>0) none (λm h=>by cases h) (by simp) (by simp[qJ]) ?_;rintro(_|m) hP
 ·cases hm:Eo c with
  | none=>
    rw[hm]at h;cases h;obtain⟨n1,n2,n3⟩:=Fc hm;simp[qJ,h1,gZ,hc,n1,n2,n3,e123, -Bool.forall_bool, -Bool.exists_bool];exact wD s1 (by simp) hr0
  | some m=>
    rcases Oy hm with⟨rfl,rfl⟩|⟨rfl,rfl⟩|⟨rfl,rfl⟩
    all_goals
     have hin:=hcc.2.2 (by omega);simp[qJ,h1,gZ,hc,hin, -Bool.forall_bool, -Bool.exists_bool]
     first
      | exact⟨some (0, -1),by simp,⟨.inl ⟨rfl,rfl,rfl,rfl⟩, .inl rfl⟩,rfl⟩
      | exact⟨some (1, -1),by simp,⟨.inl ⟨rfl,rfl,rfl,rfl⟩, .inl rfl⟩,rfl⟩
      | exact⟨some (0,1),by simp,⟨.inl ⟨rfl,rfl,rfl,rfl⟩, .inl rfl⟩,rfl⟩
 ·have hm:=hP m rfl;rw[hm]at h;simp only at h;obtain⟨d,hd,h⟩:=qjy.1 h;split at h
  ·cases h
  rename_i hn;cases h;have hd':d≠123/\Eo d=none:=⟨λe=>hn (.inl e),by
   cases q:Eo d with
   | none=>rfl
   | some q'=>exact absurd (.inr (by rw[q];rfl)) hn⟩
  obtain⟨n1,n2,n3⟩:=Fc hd'.2;have n4:=hd'.1;simp[qJ,h1,gZ,hd,n1,n2,n3,n4, -Bool.forall_bool, -Bool.exists_bool];simpa [qJ, -Bool.forall_bool, -Bool.exists_bool]using qbo (e:=e) (m:=m) s1.bump (by simp) hr0
def WV{p:Rp}{q:Rp× (Rx×Bool)}(h:QN p ()=some q):q.2.2=true:=by
 obtain⟨a,_,h⟩:=qjy.1 h;split at h
 ·obtain⟨c,_,h⟩:=qjy.1 h;split at h
  ·cases h
  ·split at h
   ·obtain⟨d,_,h⟩:=qjy.1 h;split at h
    ·cases h
    ·cases h;rfl
   ·cases h;rfl
 ·cases h
def JF{op:Int}{l:List Rx}(h:l.length≠1):LT op l=⟨op,0,0, [],l⟩:=by
 match l,h with
 | [],_=>rfl
 | [e],h=>exact absurd rfl h
 | _::_::_,_=>rfl
theorem RQ{b:Nat}{post:Rp->(Rx×Bool)->Prop}{op:Int}{l:List Rx}{id el:Nat}{v:Value}{H:aa}(s:Rp)(h0:H 0=some (.box b (mh s)))(hi:id≠0)(h1:H id=some (.row v el 5 (l.map enc)))(hq:post s (⟨op,0,0, [],l⟩,true)):
 zi wO b post (.tup [.agg [.v (.int .i64 op), .v (.int .i64 0), .v (.int .i64 0), .v (.slice none 0 0), .own id v], .v (.bool true)]) H:=by
 refine yF s (⟨op,0,0, [],l⟩,true) (.tup rfl λk c c' hc hc'=>?_) h0 hq
 match k with
 | 0=>
   cases hc;cases hc';refine Hv [] l (.nil _) (.row (el:=el) (by simp[hi];exact h1) rfl (λd hd=>?_) (λk c c' hc hc'=>?_))
   ·obtain⟨x,_,rfl⟩:=qjN.1 hd;exact⟨Cod.kn x,Cod.wid x⟩
   ·rw[hc]at hc';cases hc';exact .same _
 | 1=>cases hc;cases hc';exact .same _
 | k+2=>simp at hc
abbrev Qm:Spc:=Pw a0 wO Ss
set_option maxHeartbeats 2000000 in
theorem B8(h1:S aS=oU)(h2:S fG=Qi):oo fj eS S a0 wO (λs z=>∃r,Ss s z=some r) (λs z s' y=>Ss s z=some (s',y)):=by
 rintro b s ⟨⟩ ⟨r,hr⟩;have hr0:=hr;obtain⟨⟨s',l'⟩,hl,hr⟩:=qjH.1 hr;simp only at hr;subst hr;obtain⟨c0,hc0⟩:∃c,DP s=some c:=by
  rw[KE]at hl;obtain⟨c,hc,_⟩:=qjy.1 hl;exact⟨c,hc⟩
 simp[fj,eS,h1,gZ,hc0, -Bool.forall_bool, -Bool.exists_bool];intro b2;refine aL (X:=Nat×Rp×Value×List Rx×Int) [0,2] [2] (λz=>KE z.1 z.2.1 z.2.2.2.1=some (s',l')/\z.2.2.2.1.length+z.1<=100/\DP z.2.1=some z.2.2.2.2) (λz=>[(4, .own 36 z.2.2.1),(5, .v (.int .i32 z.2.2.2.2))]) (λz=>[(0, .box b (mh z.2.1)),(36, .row z.2.2.1 tg 5 (z.2.2.2.1.map enc))]) (λz=>z.1) (100,s, .slice none 0 0, [],c0) ⟨hl,by simp,hc0⟩ (by simp) (by simp[isNilRow]) ?_;clear hl;rintro⟨k,p,v,l,c⟩ ⟨hk,hlen,hc⟩;simp only at hk hlen hc;obtain _|k:=k
 ·rw[KE]at hk;cases hk
 rw[KE,hc]at hk;simp only[qjV]at hk;split at hk
 ·rename_i hend;cases hk;have hlt:(l'.length:Int)<=9223372036854775807:=by omega
  by_cases hl1:l'.length=1
  ·obtain⟨e,rfl⟩:∃e,l'=[e]:=qkI.1 hl1;rcases hend with h|rfl|rfl
   ·have h':¬0<=c:=by omega
    simp[h', -Bool.forall_bool, -Bool.exists_bool];exact wD s' (by simp) hr0
   all_goals
    simp[-Bool.forall_bool, -Bool.exists_bool];exact wD s' (by simp) hr0
  ·rw[JF hl1]at hr0;have hl1':¬ (l'.length:Int)=1:=by omega
   rcases hend with h|rfl|rfl
   ·have h':¬0<=c:=by omega
    simp[h',hl1,hl1',hlt, -Bool.forall_bool, -Bool.exists_bool];exact RQ (el:=tg) s' (by simp) (by decide) (by simp) hr0
   all_goals
    simp[hl1,hl1',hlt, -Bool.forall_bool, -Bool.exists_bool];exact RQ (el:=tg) s' (by simp) (by decide) (by simp) hr0
 ·rename_i hgo;obtain⟨q,hq,hk⟩:=qjy.1 hk;split at hk
  ·cases hk
  rename_i hop;have hok:=WV hq;obtain⟨p',e,ok⟩:=q;simp only at hk hok hop;subst hok;have n1:0<=c:=by omega
  have n2:c≠124:=by omega
  have n3:c≠41:=by omega
  obtain⟨c1,hc1⟩:∃c,DP p'=some c:=by
   obtain _|k:=k
   ·rw[KE]at hk;cases hk
   rw[KE]at hk;obtain⟨c,hc,_⟩:=qjy.1 hk;exact⟨c,hc⟩
  simp[h1,h2,gZ,hc1,hq,n1,n2,n3,hop, -Bool.forall_bool, -Bool.exists_bool];exact⟨by omega,by omega,λv=>⟨k,p',v,l++ [e],c1,⟨hk,by simp;omega,hc1⟩,⟨⟨rfl,rfl⟩, .inl ⟨rfl,rfl,rfl,rfl⟩, .inl ⟨rfl,by simp⟩⟩,by omega⟩⟩
def Yg{p:Rp}{q:Rp× (Rx×Bool)}(h:Ss p ()=some q):q.2.2=true:=by
 obtain⟨a,_,rfl⟩:=qjH.1 h;rfl
abbrev Qh:Spc:=Pw a0 wO TI
set_option maxHeartbeats 2000000 in
theorem D6(h1:S aS=oU)(h2:S fI=Qm):oo fK fA S a0 wO (λs z=>∃r,TI s z=some r) (λs z s' y=>TI s z=some (s',y)):=by
 rintro b s ⟨⟩ ⟨r,hr⟩;have hr0:=hr;obtain⟨⟨s',l'⟩,hl,hr⟩:=qjH.1 hr;simp only at hr;subst hr;simp[fK,fA, -Bool.forall_bool, -Bool.exists_bool];intro b2;refine aL (X:=Nat×Rp×Value×List Rx) [0,2] [2] (λz=>PV z.1 z.2.1 z.2.2.2=some (s',l')/\z.2.2.2.length+z.1<=100) (λz=>[(4, .own 25 z.2.2.1)]) (λz=>[(0, .box b (mh z.2.1)),(25, .row z.2.2.1 tg 5 (z.2.2.2.map enc))]) (λz=>z.1) (100,s, .slice none 0 0, []) ⟨hl,by simp⟩ (by simp) (by simp[isNilRow]) ?_;clear hl;rintro⟨k,p,v,l⟩ ⟨hk,hlen⟩;simp only at hk hlen;obtain _|k:=k
 ·rw[PV]at hk;cases hk
 rw[PV]at hk;obtain⟨⟨p',e,ok⟩,hq,hk2⟩:=qjy.1 hk;clear hk;obtain⟨c,hc,hk3⟩:=qjy.1 hk2;clear hk2;have hok:=Yg hq;simp only at hok hc hk3;subst hok;have hop:¬e.op=3:=λh=>by rw[if_pos h]at hk3;cases hk3
 rw[if_neg hop]at hk3;have hcc:=NN hc;by_cases hc124:c=124
 ·rw[if_pos hc124]at hk3;have hk:=hk3;subst hc124;have hin:=hcc.2.2 (by omega);simp[h1,h2,gZ,hc,hq,hop,hin, -Bool.forall_bool, -Bool.exists_bool];exact⟨by omega,by omega,λv=>⟨k,p'.bump,v,l++ [e],⟨hk,by simp;omega⟩,⟨rfl, .inl ⟨rfl,rfl,rfl,rfl⟩, .inl ⟨rfl,by simp⟩⟩,by omega⟩⟩
 ·rw[if_neg hc124]at hk3;cases hk3;have hlt:((l++ [e]).length:Int)<=9223372036854775807:=by simp;omega
  have hcc':¬c=124:=hc124;cases l with
  | nil=>
    simp[h1,h2,gZ,hc,hq,hop,hcc', -Bool.forall_bool, -Bool.exists_bool];exactλv=>wD s' (by simp) hr0
  | cons x l=>
    simp[h1,h2,gZ,hc,hq,hop,hcc', -Bool.forall_bool, -Bool.exists_bool];have hr1:=hr0;rw[JF (by simp)]at hr1;exact⟨by simp at hlen;omega,by simp at hlen;omega,λv _=>⟨λh=>absurd h (by omega),λ_=>RQ (el:=tg) (l:=x::l++ [e]) s' (by simp) (by decide) (by simp) hr1⟩⟩
end Go.Gv
namespace Go.Gv
open Go.Proofs
def ej:CC:=gq Tryz.f210 [] {} _
def ee:List ai:=[]
def pB:aq Tryz.prog cZ [] ej ee 14:=fo
def cG:CC:=gq Tryz.f215 [] {} _
def cD:List ai:=[]
def kG:aq Tryz.prog cT [] cG cD 148:=fo
def bK:CC:=gq Tryz.f218 [] {} _
def bG:List ai:=[]
def il:aq Tryz.prog bT [] bK bG 53:=fo
def kR:CC:=gq Tryz.f216 [] {} _
def kE:List ai:=[.tmp 2]
def Ab:aq Tryz.prog me [] kR kE 8:=fo
def iX:CC:=gq Tryz.f227 [] {} _
def iL:List ai:=[.tmp 2]
def wi:aq Tryz.prog jI [] iX iL 25:=fo
def iA:CC:=gq Tryz.f212 [] {} _
def ig:List ai:=[.tmp 4]
def ve:aq Tryz.prog iU [] iA ig 20:=fo
def ki:CC:=gq Tryz.f217 [] {} _
def ju:List ai:=[.tmp 2]
def yp:aq Tryz.prog kN [] ki ju 6:=fo
def jT:CC:=gq Tryz.f211 [2,3] {} _
def jl:List ai:=[.tmp 4]
def yg:aq Tryz.prog cd [2,3] jT jl 10:=fo
def mi:CC:=gq Tryz.f202 [2044048] { bx:=[0] } _
def lQ:List ai:=[.tmp 2]
def Bd:aq Tryz.prog nH [2044048] mi lQ 51:=fo
open Cod (enc dec)
variable {S S0:Nat->Spc}
abbrev Qs:Spc:=aZ (a1 I32) (λ_=>True) (enc (X:=Bool)) λ_ y=>y=false
def zM:ax ki ju S (a1 I32) (λ_=>True) (enc (X:=Bool)) λ_ y=>y=false:=by
 rintro x -;simp[ki,ju, -Bool.forall_bool]
def HP(a b:Int):Int:=if a < b then -1 else if b < a then 1 else 0
abbrev QB:Spc:=aZ (a2 I32 I32) (λ_=>True) (enc (X:=Int)) λx y=>y=HP x.1.val x.2.val
def vS(h1:S kN=Qs):ax iA ig S (a2 I32 I32) (λ_=>True) (enc (X:=Int)) λx y=>y=HP x.1.val x.2.val:=by
 rintro⟨⟨x⟩,⟨y⟩⟩ -;simp[iA,ig,h1, -Bool.forall_bool, -Bool.exists_bool];refine⟨λh=>by simp[HP,h],λh=>⟨λh2=>?_,λh2=>?_⟩⟩
 ·have h3:¬x < y:=by omega
  simp[HP,h2,h3]
 ·have h3:¬x < y:=by omega
  have h4:¬y < x:=by omega
  simp[HP,h3,h4]
abbrev Qt:Spc:=aZ (a2 Rng Rng) (λ_=>True) (enc (X:=Int)) λx y=>y=HP x.1.fr.val x.2.fr.val
def zE(h1:S iU=QB):ax jT jl S (a2 Rng Rng) (λ_=>True) (enc (X:=Int)) λx y=>y=HP x.1.fr.val x.2.fr.val:=by
 rintro⟨x,y⟩ -;simp[jT,jl,h1, -Bool.forall_bool, -Bool.exists_bool]
abbrev M2:Spc:=aZ (a1 U64) (λx=>0<=x.val/\x.val<=200) (enc (X:=Int)) λ_ _=>True
def SZ(x:List Rng×Int×Int×D×Unit):Prop:=zO x.1=true/\x.2.1=0/\x.2.2.1=x.1.length/\x.2.2.2.1= .clo cd []
abbrev Qu:Spc:=aZ (aE (List Rng) (aE Int (aE Int (aD a0)))) SZ Nt λ_ _=>True
def xT{l:List Rng}(h:zO l=true):1<=l.length/\l.length<=2:=by
 match l,h with
 | [x],_=>exact⟨qjL 1,qkS 1⟩
 | [x,y],_=>exact⟨qkS 1,qjL 2⟩
def Jb:∀ {l:List Rng},zO l=true->1 < l.length->∃x y,l=[x,y]
 | [x,y],_,_=>⟨x,y,rfl⟩
 | [x],_,h=>by simp at h
def P2:∀ {l:List Rng} {x:Rng},l[0]? =some x->(l.take 1).foldl mT []=[x]
 | y::l,x,h=>by cases h;rfl
theorem D5(h1:S cd=Qt):ax bK bG S (aE (List Rng) (aE Int (aE Int (aD a0)))) SZ Nt λ_ _=>True:=by
 rintro⟨l,a,b,d,⟨⟩⟩ ⟨hs,ha,hb,hd⟩;simp only at hs ha hb hd;subst ha;subst hb;subst hd;simp[bK,bG, -Bool.forall_bool, -Bool.exists_bool];have hl2:=xT hs;refine⟨by simp only[InR];omega,?_⟩;refine aL (X:=Nat) [0,1,2,3] [] (λi=>1<=i/\i<=l.length) (λi=>[(8,enc (i:Int))]) (λ_=>[]) (λi=>l.length -i) 1 ⟨qjL 1,hl2.1⟩ (by simp) (by simp) ?_;rintro i ⟨hi1,hi2⟩;by_cases hlt:i < l.length
 ·obtain rfl:i=1:=by omega
  obtain⟨x,y,rfl⟩:=Jb hs hlt;simp[-Bool.forall_bool, -Bool.exists_bool];refine aL (X:=Unit) [0,1,2,3,8] [] (λ_=>True) (λ_=>[(9,enc (1:Int))]) (λ_=>[]) (λ_=>0) () trivial (by simp) (by simp) ?_;rintro - -;have hc:¬HP y.fr.val x.fr.val < 0:=by
   simp[zO]at hs;unfold HP;rw[if_neg (by omega)];split <;> omega
  simp[h1,hc, -Bool.forall_bool, -Bool.exists_bool];exact⟨by simp only[InR];omega,λ_=>⟨by simp only[InR];omega,2,⟨by omega,by omega⟩,rfl,rfl⟩⟩
 ·obtain rfl:i=l.length:=by omega
  simp[-Bool.forall_bool, -Bool.exists_bool];exact dm (Y:=Unit) () (.same _) trivial
abbrev Qr:Spc:=aZ (aE (List Rng) (aE Int (aE Int (aE Int (aD a0))))) (λx=>SZ (x.1,x.2.1,x.2.2.1,x.2.2.2.2)) Nt λ_ _=>True
def D4(h1:S bT=Qu):ax cG cD S (aE (List Rng) (aE Int (aE Int (aE Int (aD a0))))) (λx=>SZ (x.1,x.2.1,x.2.2.1,x.2.2.2.2)) Nt λ_ _=>True:=by
 rintro⟨l,a,b,lim,d,⟨⟩⟩ hp;have hp':=hp;obtain⟨hs,ha,hb,hd⟩:=hp;simp only at hs ha hb hd hp';subst ha;subst hb;subst hd;have hl2:=xT hs;simp[cG,cD, -Bool.forall_bool, -Bool.exists_bool];refine aL (X:=Unit) [0,1,2,3,4,10,11] [] (λ_=>True) (λ_=>[]) (λ_=>[]) (λ_=>0) () trivial (by simp) (by simp) ?_;rintro - -;have h12:(l.length:Int)<=12:=by omega
 have hin:InR .i64 (l.length:Int):=by simp only[InR];omega
 simp[h1,h12,hin,hp', -Bool.forall_bool, -Bool.exists_bool];exact dm (Y:=Unit) () (.same _) trivial
abbrev TY:Spc:=aZ (aE (List Rng) (aD a0)) (λx=>zO x.1=true/\x.2.1= .clo cd []) Nt λ_ _=>True
def qf(h1:S me=M2)(h2:S cT=Qr):ax ej ee S (aE (List Rng) (aD a0)) (λx=>zO x.1=true/\x.2.1= .clo cd []) Nt λ_ _=>True:=by
 rintro⟨l,d,⟨⟩⟩ ⟨hs,hd⟩;simp only at hs hd;subst hd;have hl2:=xT hs;have hp:SZ (l,0,(l.length:Int), .clo cd [],()):=⟨hs,rfl,rfl,rfl⟩
 have hw:IntKind.u64.wrap (l.length:Int)=l.length:=by rw[IntKind.wrap_u64];omega
 have h200:(l.length:Int)<=200:=by omega
 simp[ej,ee,h1,h2,hp,hw,h200, -Bool.forall_bool, -Bool.exists_bool];exactλ_=>dm (Y:=Unit) () (.same _) trivial
abbrev JA:Spc:=aZ (a1 U64) (λx=>0<=x.val/\x.val<=200) (enc (X:=Int)) λ_ _=>True
def Lk(h1:S jI=JA):ax kR kE S (a1 U64) (λx=>0<=x.val/\x.val<=200) (enc (X:=Int)) λ_ _=>True:=by
 rintro⟨x⟩ ⟨h0,h2⟩;simp only at h0 h2;simp[kR,kE,h1,h0,h2, -Bool.forall_bool, -Bool.exists_bool]
def Gg:ax iX iL S (a1 U64) (λx=>0<=x.val/\x.val<=200) (enc (X:=Int)) λ_ _=>True:=by
 rintro⟨x⟩ ⟨h0,h2⟩;simp only at h0 h2;have c1:¬4294967296<=x:=by omega
 have c2:¬65536<=x:=by omega
 have c3:¬256<=x:=by omega
 have hw:IntKind.u8.wrap x=x:=by rw[IntKind.wrap_u8];omega
 simp[iX,iL,c1,c2,c3,hw,h0, -Bool.forall_bool, -Bool.exists_bool];refine⟨Int.lt_of_le_of_lt h2 (by decide),λc _=>?_⟩;have:=c.toNat_lt;have hw2:IntKind.i64.wrap (c.toNat:Int)=c.toNat:=by rw[IntKind.wrap_i64];omega
 rw[hw2];simp only[InR];omega
abbrev NQ:Spc:=qg6 (Y:=Rng) (aD a0) (λx=>zO x.1=true/\x.2.1= .clo cd []) Nt (λ_ _=>True) qi 2
abbrev Jm:Spc:=qgc (Y:=Rng) a0 (λ_ l=>zO l=true) (λ_ l r=>r=yr l) qi 2
set_option maxHeartbeats 1000000 in
theorem B6(h1:S cZ=NQ):SM (Y:=Rng) mi lQ S a0 (λ_ l=>zO l=true) (λ_ l r=>r=yr l) qi 2:=by
 rintro v l ⟨⟩ hs;have hs:zO l=true:=hs;have hl2:=xT hs;simp[mi,lQ,h1,hs, -Bool.forall_bool, -Bool.exists_bool];intro _;refine am (X:=Value×List Rng) [9] [0] l.length (λk x=>x.2=(l.take k).foldl mT []) (λx=>[(3, .own 48 x.1)]) (λx=>[(48, .row x.1 qi 2 (x.2.map enc))]) (.slice none 0 0, []) (by simp) (by simp) (by omega) (by simp) (by simp) rfl (by simp) (by simp[isNilRow]) ?_ ?_
 ·rintro k ⟨v',out⟩ hk hP;simp only at hP;have hk2:k=0\/k=1:=by omega
  rcases hk2 with rfl|rfl
  ·obtain⟨x,hx⟩:∃x,l[0]? =some x:=⟨_,qjC hk⟩
   obtain⟨_,hgx⟩:=qjA.1 hx;have ho:out=[]:=by rw[hP];rfl
   subst ho;have h1:=P2 hx;simp[hk,hx,hgx,h1, -Bool.forall_bool, -Bool.exists_bool]
  ·obtain⟨x,y,rfl⟩:=Jb hs hk;have ho:out=[x]:=by rw[hP];rfl
   subst ho;simp[zO]at hs;by_cases hle:y.fr.val<=x.to.val+1
   ·have hst:mT (mT [] x) y=[⟨x.fr,⟨max x.to.val y.to.val⟩⟩]:=by simp[mT,hle]
    have hr:InR .i32 (x.to.val+1):=by simp only[InR];omega
    simp[hle,hst,hr, -Bool.forall_bool, -Bool.exists_bool];simp only[InR];omega
   ·have hst:mT (mT [] x) y=[x,y]:=by simp[mT,hle]
    have hr:InR .i32 (x.to.val+1):=by simp only[InR];omega
    simp[hle,hst,hr, -Bool.forall_bool, -Bool.exists_bool];simp only[InR];omega
 ·rintro⟨v',out⟩ hP;simp only at hP;rw[qkl]at hP;subst hP;simp[-Bool.forall_bool, -Bool.exists_bool];exact UX (yr l) (by simp[yr]) rfl
def Sq{p:Rp}{sp:B}{q:Rp× (I32×Bool)}{c:Int}(hc:DP p=some c)(h:vu p sp=some q):q=(p.bump,⟨c⟩,true):=by
 unfold vu at h;rw[hc,qjV]at h;split at h
 ·cases h
 ·exact(qjJ h).symm
def Uz{p:Rp}{q:Rp× (I32×Bool)}{c:Int}(hc:DP p=some c)(h:JO p ()=some q):q=(p.bump,⟨c⟩,true):=by
 unfold JO at h;rw[hc,qjV]at h;split at h
 ·cases h
 ·exact Sq hc h
theorem qbn{b:Nat}{post:Rp->(Rx×Bool)->Prop}{l:List Rng}{id el:Nat}{v:Value}{H:aa}(s:Rp)(h0:H 0=some (.box b (mh s)))(hi:id≠0)(h1:H id=some (.row v el 2 (l.map enc)))(hq:post s (⟨1,0,0,l, []⟩,true)):
 zi wO b post (.tup [.agg [.v (.int .i64 1), .v (.int .i64 0), .v (.int .i64 0), .own id v, .v (.slice none 0 0)], .v (.bool true)]) H:=by
 refine yF s (⟨1,0,0,l, []⟩,true) (.tup rfl λk c c' hc hc'=>?_) h0 hq
 match k with
 | 0=>
   cases hc;cases hc';refine Hv l [] (.row (el:=el) (by simp[hi];exact h1) rfl (λd hd=>?_) (λk c c' hc hc'=>?_)) (.nil _)
   ·obtain⟨x,_,rfl⟩:=qjN.1 hd;exact⟨Cod.kn x,Cod.wid x⟩
   ·rw[hc]at hc';cases hc';exact .same _
 | 1=>cases hc;cases hc';exact .same _
 | k+2=>simp at hc
set_option maxHeartbeats 2000000 in
theorem D9(h1:S aS=oU)(h2:S fH=Qk)(h3:S nH=Jm):oo fL fB S a0 wO (λs z=>∃r,Ve s z=some r) (λs z s' y=>Ve s z=some (s',y)):=by
 rintro b s ⟨⟩ ⟨r,hr⟩;have hr0:=hr;obtain⟨a0,ha0,h⟩:=qjy.1 hr;have e91:¬a0≠91:=λe=>by rw[if_pos e]at h;cases h
 rw[if_neg e91]at h;have hin:=(NN ha0).2.2 (by omega);obtain⟨c0,hc0,h⟩:=qjy.1 h;have n94:¬c0=94:=λe=>by rw[if_pos e]at h;cases h
 rw[if_neg n94]at h;obtain⟨⟨s',l'⟩,hl,h⟩:=qjy.1 h;simp only at h;have hsrt:zO l'=true:=by
  split at h
  ·assumption
  ·cases h
 rw[if_pos hsrt]at h;cases h;have hc1:DP ⟨s.s,s.pos+1,s.fault,s.e⟩=some c0:=hc0;simp[fL,fB,h1,gZ,hin,hc1,n94, -Bool.forall_bool, -Bool.exists_bool];intro b2;refine aL (X:=Nat×Rp×Value×List Rng) [0,2,4,5] [2] (λz=>Sp z.1 z.2.1 z.2.2.2=some (s',l')/\z.2.2.2.length+z.1<=100) (λz=>[(6, .own 86 z.2.2.1)]) (λz=>[(0, .box b (mh z.2.1)),(86, .row z.2.2.1 qi 2 (z.2.2.2.map enc))]) (λz=>z.1) (100,s.bump, .slice none 0 0, []) ⟨hl,by simp⟩ (by simp) (by simp[isNilRow,Rp.bump]) ?_;clear hl;rintro⟨k,p,v,l⟩ ⟨hk,hlen⟩;simp only at hk hlen;obtain _|k:=k
 ·rw[Sp]at hk;cases hk
 rw[Sp]at hk;obtain⟨c,hc,hk2⟩:=qjy.1 hk;clear hk;have hlt:(l.length:Int)<=9223372036854775807:=by omega
 by_cases hend:l≠ []/\c=93
 ·rw[if_pos hend]at hk2;cases hk2;obtain⟨hne,rfl⟩:=hend;have hin2:=(NN hc).2.2 (by omega);have hl0:¬l'.length=0:=λe=>hne (qkf.1 e)
  simp(config:={ maxSteps:=2000000 }) [h1,h3,gZ,hc,hlt,hne,hl0,hin2,hsrt, -Bool.forall_bool, -Bool.exists_bool];exactλv'=>qbn (el:=qi) s'.bump (by simp[Rp.bump]) (by decide) (by simp) hr0
 ·rw[if_neg hend]at hk2;obtain⟨q,hq,hk3⟩:=qjy.1 hk2;clear hk2;obtain⟨d,hd,hk4⟩:=qjy.1 hk3;clear hk3;have hqv:=Uz hc hq;subst hqv;simp only at hd hk4;have n45:¬d=45:=λe=>by rw[if_pos e]at hk4;cases hk4
  rw[if_neg n45]at hk4;have hd':DP ⟨p.s,p.pos+1,p.fault,p.e⟩=some d:=hd;cases l with
  | nil=>
    simp(config:={ maxSteps:=2000000 }) [h1,h2,gZ,hq,hd',n45,Rp.bump, -Bool.forall_bool, -Bool.exists_bool];exactλv=>⟨k,p.bump,v, [⟨⟨c⟩,⟨c⟩⟩],⟨hk4,by simp at hlen ⊢;omega⟩,⟨rfl, .inl ⟨rfl,rfl,rfl,rfl⟩, .inl ⟨rfl,by simp⟩⟩,by omega⟩
  | cons x l=>
    have n93:¬c=93:=λe=>hend ⟨by simp,e⟩
    simp(config:={ maxSteps:=2000000 }) [h1,h2,gZ,hc,hq,hd',n45,n93,Rp.bump, -Bool.forall_bool, -Bool.exists_bool];have hlen2:l.length+1+ (k+1)<=100:=by simpa using hlen
    first
     | exactλ_ _=>⟨by omega,by omega,λv=>⟨k,p.bump,v,x::l++ [⟨⟨c⟩,⟨c⟩⟩],⟨hk4,by simp;omega⟩,⟨rfl, .inl ⟨rfl,rfl,rfl,rfl⟩, .inl ⟨rfl,by simp⟩⟩,by omega⟩⟩
     | exact⟨by omega,by omega,by omega,λv=>⟨k,p.bump,v,x::l++ [⟨⟨c⟩,⟨c⟩⟩],⟨hk4,by simp;omega⟩,⟨rfl, .inl ⟨rfl,rfl,rfl,rfl⟩, .inl ⟨rfl,by simp⟩⟩,by omega⟩⟩
     | exact⟨by omega,by omega,λv=>⟨k,p.bump,v,x::l++ [⟨⟨c⟩,⟨c⟩⟩],⟨hk4,by simp;omega⟩,⟨rfl, .inl ⟨rfl,rfl,rfl,rfl⟩, .inl ⟨rfl,by simp⟩⟩,by omega⟩⟩
     | (refineλ_=>⟨λ_=>?_,λ_=>?_⟩ <;> exact⟨by omega,by omega,λv=>⟨k,p.bump,v,x::l++ [⟨⟨c⟩,⟨c⟩⟩],⟨hk4,by simp;omega⟩,⟨rfl, .inl ⟨rfl,rfl,rfl,rfl⟩, .inl ⟨rfl,by simp⟩⟩,by omega⟩⟩)
end Go.Gv
namespace Go.Gv
open Cod (enc dec)
variable {dq:Prop}
def qfj(F:Rx->Int->Int->Option (Bool×Int)):PT:=λd ds H K=>∃id b x n k r d0,ds=[d0, .v (.int .i64 n), .bptr id b 0]/\dec d0=some x/\H id=some (.box b [.v (.int .i64 k)])/\F x n k=some r/\K (.v (.bool r.1)) (aj H id (some (.box b [.v (.int .i64 r.2)])))
def TU(F:Rx->Int->Int->Option (Bool×Int)):uo (qfj F):=λd ds H K K' hk ⟨id,b,x,n,k,r,d0,h1,h2,h3,h4,h5⟩=>⟨id,b,x,n,k,r,d0,h1,h2,h3,h4,hk _ _ h5⟩
def YU(F:Rx->Int->Int->Option (Bool×Int)):Spc:= .gen _ (TU F)
def qcP(F:Rx->Int->Int->Option (Bool×Int))(o:Option Rx)(n:Int)(id b:Nat)(q:Option Res)(H:aa)(K:D->aa->Prop):Prop:=
 ∃k,q=some (.box b [.v (.int .i64 k)])/\ij o λx=>ij (F x n k) λr=>K (.v (.bool r.1)) (aj H id (some (.box b [.v (.int .i64 r.2)])))
@[congr] theorem qfi{F:Rx->Int->Int->Option (Bool×Int)}{o o':Option Rx}{n n':Int}{id b:Nat}{q q':Option Res}{H:aa}{K:D->aa->Prop}(h1:o=o')(h2:n=n')(h3:q=q'):qcP F o n id b q H K=qcP F o' n' id b q' H K:=by subst h1;subst h2;subst h3;rfl
@[simp] theorem qfk(F:Rx->Int->Int->Option (Bool×Int))(d id b:Nat)(d0:D)(n:Int)(H:aa)(K:D->aa->Prop):(YU F).pt d [d0, .v (.int .i64 n), .bptr id b 0] H K=qcP F (dec d0) n id b (H id) H K:=by
 refine propext ⟨λh=>?_,λh=>?_⟩
 ·obtain⟨id',b',x,n',k,r,d0',h1,h2,h3,h4,h5⟩:=h;cases h1;refine⟨k,h3,?_⟩;rw[h2];show ij (F x n k) _;rw[h4];exact h5
 ·obtain⟨k,h1,h2⟩:=h;cases hx:dec (X:=Rx) d0 with
  | none=>rw[hx]at h2;exact h2.elim
  | some x=>
    rw[hx]at h2;have h2:ij (F x n k) _:=h2;cases hr:F x n k with
    | none=>rw[hr]at h2;exact h2.elim
    | some r=>rw[hr]at h2;exact⟨id,b,x,n,k,r,d0,rfl,hx,h1,hr,h2⟩
@[simp] theorem qhG(F:Rx->Int->Int->Option (Bool×Int))(o:Option Rx)(n:Int)(id b:Nat)(k:Int)(H:aa)(K:D->aa->Prop):
 qcP F o n id b (some (.box b [.v (.int .i64 k)])) H K=ij o λx=>ij (F x n k) λr=>K (.v (.bool r.1)) (aj H id (some (.box b [.v (.int .i64 r.2)]))):=by
 refine propext ⟨λ⟨k',h1,h2⟩=>?_,λh=>⟨k,rfl,h⟩⟩;cases h1;exact h2
def qcm(b:Nat)(q:Bool×Int)(r:D)(H:aa):Prop:=r= .v (.bool q.1)/\H 2=some (.box b [.v (.int .i64 q.2)])
def SK(cc:CC)(rs:List ai)(S:Nat->Spc)(F:Rx->Int->Int->Option (Bool×Int)):Prop:=
 ∀b x n k q,F x n k=some q->vc S cc (ra rs λr H'=>qcm b q r H') (cR [enc x, .v (.int .i64 n), .bptr 2 b 0]) (aj cv 2 (some (.box b [.v (.int .i64 k)])))
variable {P:Program}{S:Nat->Spc}{f:Nat}{im:List Nat}{cc:CC}{rs:List ai}{N:Nat}
theorem Lp{F:Rx->Int->Int->Option (Bool×Int)}(hS:∀f,Tri dq P f (S f).pt)(h:aq P f im cc rs N)(hN:3<=N)(hw:SK cc rs S F):Tri dq P f (YU F).pt:=by
 obtain⟨rp,enter,fn,code,h1,h2,h3,h4,h5⟩:=h;refine mZ hS rp h1 h2 enter h3 h4 h5 ?_;rintro ds H d K ⟨id,b,x,n,k,r,d0,rfl,hd,hid,hF,hK⟩;have h0:∀i q,aj cv 2 (some (.box b [.v (.int .i64 k)])) i=some q->i=2/\q= .box b [.v (.int .i64 k)]:=by
  intro i q h;by_cases e:i=2
  ·subst e;simp only[aj,if_true]at h;cases h;exact⟨rfl,rfl⟩
  ·simp[aj,e,cv]at h
 refine⟨hN, [enc x, .v (.int .i64 n), .bptr 2 b 0],aj cv 2 (some (.box b [.v (.int .i64 k)])),λi=>if i=2 then id else i, .cons (Cod.le _ _ hd) (.cons (.same _) (.cons (.bptr _ _ _ _) .nil)),λi q h=>?_,λi j q q' h h' e=>?_,_,hw b x n k r hF,?_⟩
 ·obtain⟨rfl,rfl⟩:=h0 i q h;exact hid
 ·exact(h0 i q h).1.trans (h0 j q' h').1.symm
 ·rintro r' H' ⟨rfl,k2⟩;refine⟨.v (.bool r.1),cv,aj H id (some (.box b [.v (.int .i64 r.2)])),λi=>if i=id then some 2 else none, .same _,λj q h=>by simp[cv]at h,hK,λi s hi=>?_,λi j k' s q hi hj e1 e2=>?_⟩
  ·by_cases e:i=id
   ·subst e;simp only[aj,if_true]at hi ⊢;cases hi;exact k2
   ·simp only[aj,e,if_false]at hi ⊢;refine⟨hi,λk'' q h he=>?_⟩;obtain⟨rfl,rfl⟩:=h0 k'' q h;exact e he.symm
  ·by_cases c1:i=id
   ·by_cases c2:j=id
    ·exact c1.trans c2.symm
    ·simp[c2]at e2
   ·simp[c1]at e1
end Go.Gv
