/- T37 -/
import Derived.Test.YtnffegdacbdhmaaGreatDoorGe19
set_option linter.all false
set_option maxRecDepth 100000
set_option maxHeartbeats 0
open Bool renaming forall_bool → fB', exists_bool → eB'
namespace Go.Gv
section
open Cod (enc dec)
section
variable {S:Nat->Spc}{σ:Sg}{H Hr:ab}{K:D->ab->Prop}
def qrz(dst:Option Nat)(H:ab)(K:D->ab->Prop):Prop:=match dst with
 |some t=>∀x,K (.own t x) (ai H t (some (.mrow x [])))
 |none=>False
@[simp] theorem qBb(t:Nat)(H:ab)(K:D->ab->Prop):qrz (some t) H K=∀x,K (.own t x) (ai H t (some (.mrow x []))):=i' rfl
def qgg(id:Nat)(x:Value)(ka:Bool)(ks:List KK)(k v:D)(r:Option Res)(H:ab)(K:D->ab->Prop):Prop:=match r with
 |some (.mrow a es)=>a=x/\Di ka ks k v es λes'=>K .undef (ai H id (some (.mrow a es')))
 | _=>False
@[simp] theorem qA1(id:Nat)(x a:Value)(ka:Bool)(ks:List KK)(k v:D)(es:List D)(H:ab)(K:D->ab->Prop):qgg id x ka ks k v (some (.mrow a es)) H K=(a=x/\Di ka ks k v es λes'=>K .undef (ai H id (some (.mrow a es')))):=i' rfl
def qjy(ka:Bool)(ks:List KK)(d k v:D)(H:ab)(K:D->ab->Prop):Prop:=match d with
 | .own id x=>qgg id x ka ks k v (H id) H K
 | _=>False
@[simp] theorem qA0(id:Nat)(x:Value)(ka:Bool)(ks:List KK)(k v:D)(H:ab)(K:D->ab->Prop):qjy ka ks (.own id x) k v H K=qgg id x ka ks k v (H id) H K:=i' rfl
def qgh(dst:Option Nat)(d:D)(H:ab)(K:D->ab->Prop):Prop:=match dst with
 | some t=>(match d with
   | .mp es=>∀b,K (.bptr t b 0) (ai H t (some (.miter b [] es)))
   | .v (.map none)=>∀b,K (.bptr t b 0) (ai H t (some (.miter b [] [])))
   | .own id x=>LQ t id x (H id) H K
   | _=>False)
 |none=>False
@[simp] theorem qA6(t:Nat)(es:List D)(H:ab)(K:D->ab->Prop):qgh (some t) (.mp es) H K=∀b,K (.bptr t b 0) (ai H t (some (.miter b [] es))):=i' rfl
@[simp] theorem qA7(t id:Nat)(x:Value)(H:ab)(K:D->ab->Prop):qgh (some t) (.own id x) H K=LQ t id x (H id) H K:=i' rfl
@[simp] theorem qxh(t id:Nat)(x a:Value)(es:List D)(H:ab)(K:D->ab->Prop):LQ t id x (some (.mrow a es)) H K=(a=x/\∀b st clock,qqb st clock es.length->K (.bptr t b 0) (ai (ai H id (some (.raw (.mrs a es st clock)))) t (some (.raw (.mit b id a clock []))))):=i' rfl
@[congr] theorem qux{t id:Nat}{x:Value}{r r':Option Res}{H:ab}{K:D->ab->Prop}(h:r=r'):LQ t id x r H K=LQ t id x r' H K:=by subst h;rfl
def qgi(id:Nat)(x:Value)(ka:Bool)(ks:List KK)(k:D)(r:Option Res)(H:ab)(K:D->ab->Prop):Prop:=match r with
 |some (.raw (.mrs b es st clock))=>b=x/\TA ka ks k es st λes' a=>K (.tup []) (ai H id (some (.raw (.mrs b es' a clock))))
 | _=>False
@[simp] theorem qBo(id:Nat)(x a:Value)(ka:Bool)(ks:List KK)(k:D)(es:List D)(st:List Nat)(c:Nat)(H:ab)(K:D->ab->Prop):qgi id x ka ks k (some (.raw (.mrs a es st c))) H K=(a=x/\TA ka ks k es st λes' b=>K (.tup []) (ai H id (some (.raw (.mrs a es' b c))))):=i' rfl
def qjH(ka:Bool)(ks:List KK)(d k:D)(H:ab)(K:D->ab->Prop):Prop:=match d with
 | .own id x=>qgi id x ka ks k (H id) H K
 | _=>False
@[simp] theorem qBn(id:Nat)(x:Value)(ka:Bool)(ks:List KK)(k:D)(H:ab)(K:D->ab->Prop):qjH ka ks (.own id x) k H K=qgi id x ka ks k (H id) H K:=i' rfl
@[congr] theorem qxT{id:Nat}{x:Value}{ka:Bool}{ks:List KK}{k a:D}{r r':Option Res}{H:ab}{K:D->ab->Prop}(h1:k=a)(h3:r=r'):qgi id x ka ks k r H K=qgi id x ka ks a r' H K:=by subst h1;subst h3;rfl
@[congr] theorem qxS{ka:Bool}{ks:List KK}{d a k b:D}{H:ab}{K:D->ab->Prop}(h0:d=a)(h1:k=b):qjH ka ks d k H K=qjH ka ks a b H K:=by subst h0;subst h1;rfl
@[simp] theorem qxD(id b m:Nat)(x a:Value)(c c':Nat)(seen st:List Nat)(es:List D)(H:ab)(K:D->ab->Prop):L0 id b m x c seen (some (.raw (.mrs a es st c'))) H K=(a=x/\c'=c/\((∀s∈st,s∈seen)->K (.tup [.v (.bool false)]) (ai H m (some (.mrow a es))))/\
 ∀s,s∈st->s∉seen->K (.tup [.v (.bool true), .any, .any]) (ai H id (some (.raw (.mit b m x c (seen++ [s])))))):=i' rfl
@[congr] theorem quM{id b m:Nat}{x:Value}{c:Nat}{seen:List Nat}{r r':Option Res}{H:ab}{K:D->ab->Prop}(h:r=r'):L0 id b m x c seen r H K=L0 id b m x c seen r' H K:=by subst h;rfl
@[simp] theorem qza(x a:Value)(c c':Nat)(seen st:List Nat)(s:Nat)(es:List D)(K:D->Prop):FV x c (seen++ [s]) (some (.raw (.mrs a es st c'))) K=(a=x/\c'=c/\s∈st/\∀(i:Nat) (e:D),st[i]? =some s->es[i]? =some e->K e):=by
 unfold FV;simp
@[congr] theorem qvP{x:Value}{c:Nat}{seen:List Nat}{r r':Option Res}{K:D->Prop}(h:r=r'):FV x c seen r K=FV x c seen r' K:=by subst h;rfl
def qcd(id b:Nat)(r:Option Res)(H:ab)(K:D->ab->Prop):Prop:=match r with
 |some (.miter b' cur left)=>b'=b/\(left=[]->K (.tup [.v (.bool false)]) H)/\∀a e c,left=a++e::c->K (.tup [.v (.bool true), .any, .any]) (ai H id (some (.miter b' [e] (a++c))))
 |some (.raw (.mit b' m x clock seen))=>b'=b/\L0 id b' m x clock seen (H m) H K
 | _=>False
@[simp] theorem qBa(id b b' m:Nat)(x:Value)(c:Nat)(seen:List Nat)(H:ab)(K:D->ab->Prop):qcd id b (some (.raw (.mit b' m x c seen))) H K=(b'=b/\L0 id b' m x c seen (H m) H K):=i' rfl
@[simp] theorem qA9(id b b':Nat)(cur left:List D)(H:ab)(K:D->ab->Prop):qcd id b (some (.miter b' cur left)) H K=(b'=b/\(left=[]->K (.tup [.v (.bool false)]) H)/\∀a e c,left=a++e::c->K (.tup [.v (.bool true), .any, .any]) (ai H id (some (.miter b' [e] (a++c))))):=i' rfl
def qjA(d:D)(H:ab)(K:D->ab->Prop):Prop:=match d with
 | .bptr id b off=>off=0/\qcd id b (H id) H K
 | _=>False
@[simp] theorem qA8(i b off:Nat)(H:ab)(K:D->ab->Prop):qjA (.bptr i b off) H K=(off=0/\qcd i b (H i) H K):=i' rfl
def qce(b:Nat)(r:Option Res)(H:ab)(K:D->Prop):Prop:=match r with
 |some (.miter b' [e] _)=>b'=b/\K e
 |some (.raw (.mit b' m x c seen))=>b'=b/\FV x c seen (H m) K
 | _=>False
@[simp] theorem qBl(b b' m:Nat)(x:Value)(c:Nat)(seen:List Nat)(H:ab)(K:D->Prop):qce b (some (.raw (.mit b' m x c seen))) H K=(b'=b/\FV x c seen (H m) K):=i' rfl
@[simp] theorem qBk(b b':Nat)(e:D)(l:List D)(H:ab)(K:D->Prop):qce b (some (.miter b' [e] l)) H K=(b'=b/\K e):=i' rfl
def qjF(d:D)(H:ab)(K:D->Prop):Prop:=match d with
 | .bptr id b off=>off=0/\qce b (H id) H K
 | _=>False
@[simp] theorem qBj(i b off:Nat)(H:ab)(K:D->Prop):qjF (.bptr i b off) H K=(off=0/\qce b (H i) H K):=i' rfl
def qtg(x:Value)(r:Option Res)(K:List D->Prop):Prop:=match r with
 |some (.mrow a es)=>a=x/\K es
 | _=>False
@[simp] theorem qEh(x a:Value)(es:List D)(K:List D->Prop):qtg x (some (.mrow a es)) K=(a=x/\K es):=i' rfl
def qnP(d:D)(H:ab)(K:List D->Prop):Prop:=match d with
 | .mp es=>K es
 | .v (.map none)=>K []
 | .own id x=>qtg x (H id) K
 | _=>False
@[simp] theorem qEg(es:List D)(H:ab)(K:List D->Prop):qnP (.mp es) H K=K es:=i' rfl
@[simp] theorem qEf(i:Nat)(x:Value)(H:ab)(K:List D->Prop):qnP (.own i x) H K=qtg x (H i) K:=i' rfl
def qcc(d:D)(H:ab)(K:List D->Prop):D3 d H K=qnP d H K:=by
 unfold D3 qnP qtg;cases d<;>rfl
def qjE(len sz:Nat)(x i:D)(K:D->Prop):Prop:=match i with
 | .v (.int _ k)=>0<=k/\k<len/\P2 (k.toNat*sz) x K
 | _=>False
@[simp] theorem qBf(len sz:Nat)(x:D)(q:IntKind)(k:Int)(K:D->Prop):qjE len sz x (.v (.int q k)) K=(0<=k/\k<len/\P2 (k.toNat*sz) x K):=i' rfl
@[simp] theorem qyD(o:Nat)(cs:List D)(p:Nat)(K:D->Prop):P2 o (.cptr cs p) K=K (.cptr cs (p+o)):=i' rfl
@[simp] theorem qyE(o i b p:Nat)(K:D->Prop):P2 o (.bptr i b p) K=K (.bptr i b (p+o)):=i' rfl
@[congr] theorem qxI{id:Nat}{x:Value}{ka:Bool}{ks:List KK}{k v a v':D}{r r':Option Res}{H:ab}{K:D->ab->Prop}(h1:k=a)(h2:v=v')(h3:r=r'):qgg id x ka ks k v r H K=qgg id x ka ks a v' r' H K:=by subst h1;subst h2;subst h3;rfl
@[congr] theorem qxH{ka:Bool}{ks:List KK}{d a k v b v':D}{H:ab}{K:D->ab->Prop}(h0:d=a)(h1:k=b)(h2:v=v'):qjy ka ks d k v H K=qjy ka ks a b v' H K:=by subst h0;subst h1;subst h2;rfl
@[congr] theorem qt6{ka:Bool}{ks:List KK}{k v a v':D}{es es':List D}{K:List D->Prop}(h1:k=a)(h2:v=v')(h3:es=es'):Di ka ks k v es K=Di ka ks a v' es' K:=by subst h1;subst h2;subst h3;rfl
@[congr] theorem qti{ok agg ka:Bool}{ks:List KK}{z:List Value}{k a:D}{es es':List D}{K:D->Prop}(h1:k=a)(h3:es=es'):zr ok agg ka ks z k es K=zr ok agg ka ks z a es' K:=by subst h1;subst h3;rfl
@[congr] theorem qxJ{t:Option Nat}{d a:D}{H:ab}{K:D->ab->Prop}(h:d=a):qgh t d H K=qgh t a H K:=by subst h;rfl
@[congr] theorem qxL{id b:Nat}{r r':Option Res}{H:ab}{K:D->ab->Prop}(h:r=r'):qcd id b r H K=qcd id b r' H K:=by subst h;rfl
@[congr] theorem qxK{d a:D}{H:ab}{K:D->ab->Prop}(h:d=a):qjA d H K=qjA a H K:=by subst h;rfl
@[congr] theorem qxR{b:Nat}{r r':Option Res}{H:ab}{K:D->Prop}(h:r=r'):qce b r H K=qce b r' H K:=by subst h;rfl
@[congr] theorem qxQ{d a:D}{H:ab}{K:D->Prop}(h:d=a):qjF d H K=qjF a H K:=by subst h;rfl
@[congr] theorem qAZ{x:Value}{r r':Option Res}{K:List D->Prop}(h:r=r'):qtg x r K=qtg x r' K:=by subst h;rfl
@[congr] theorem qAY{d a:D}{H:ab}{K:List D->Prop}(h:d=a):qnP d H K=qnP a H K:=by subst h;rfl
@[congr] theorem qxP{len sz:Nat}{x a i b:D}{K:D->Prop}(h:x=a)(h2:i=b):qjE len sz x i K=qjE len sz a b K:=by subst h;subst h2;rfl
@[simp ↓] theorem qEJ(dst:Option Nat):aA S (.m .mk []) dst σ H K=qrz dst H K:=by cases dst<;>rfl
@[simp ↓] theorem qDZ(dst:Option Nat):ax S (.m .mk []) dst σ Hr H K=qrz dst H K:=by cases dst<;>rfl
@[simp ↓] theorem qCN(dst:Option Nat)(ka:Bool)(ks:List KK)(x k v:Operand):aA S (.m (.upd ka ks) [x,k,v]) dst σ H K=qjy ka ks (ev σ x) (ev σ k) (ev σ v) H K:=by
 show ip (.upd ka ks) [ev σ x,ev σ k,ev σ v] dst H K=_;unfold qjy qgg;cases ev σ x<;>rfl
@[simp ↓] theorem qCQ(dst:Option Nat)(ka:Bool)(ks:List KK)(x k:Operand):aA S (.m (.del ka ks) [x,k]) dst σ H K=qjH ka ks (ev σ x) (ev σ k) H K:=by
 show ip (.del ka ks) [ev σ x,ev σ k] dst H K=_;unfold qjH qgi;cases ev σ x<;>rfl
@[simp ↓] theorem qCO(dst:Option Nat)(x:Operand):aA S (.m .rng [x]) dst σ H K=qgh dst (ev σ x) H K:=by
 show ip .rng [ev σ x] dst H K=_;unfold qgh;cases dst<;>rfl
@[simp ↓] theorem qzq(dst:Option Nat)(x:Operand):aA S (.m .next [x]) dst σ H K=qjA (ev σ x) H K:=by
 show ip .next [ev σ x] dst H K=_;unfold qjA qcd;cases ev σ x<;>rfl
@[simp ↓] theorem qv5(dst:Option Nat)(x:Operand):aA S (.m .entry [x]) dst σ H K=qjF (ev σ x) H (λd=>K d H):=by
 show ip .entry [ev σ x] dst H K=_;unfold qjF qce;cases ev σ x<;>rfl
@[simp ↓] theorem qzr(dst:Option Nat)(ok agg ka:Bool)(ks:List KK)(z:List Value)(x k:Operand):aA S (.m (.look ok agg ka ks z) [x,k]) dst σ H K=qnP (ev σ x) H λes=>zr ok agg ka ks z (ev σ k) es λd=>K d H:=by
 rw[<-qcc];rfl
@[simp ↓] theorem qxq(dst:Option Nat)(ok agg ka:Bool)(ks:List KK)(z:List Value)(x k:Operand):ax S (.m (.look ok agg ka ks z) [x,k]) dst σ Hr H K=qnP (ev σ x) Hr λes=>zr ok agg ka ks z (ev σ k) es λd=>K d H:=by
 rw[<-qcc];rfl
@[simp ↓] theorem qCP(dst:Option Nat)(x:Operand):aA S (.m .len [x]) dst σ H K=qnP (ev σ x) H λes=>K (.v (.int .i64 es.length)) H:=by
 rw[<-qcc];rfl
@[simp ↓] theorem qzs(dst:Option Nat)(len sz:Nat)(x i:Operand):aA S (.m (.aidx len sz) [x,i]) dst σ H K=qjE len sz (ev σ x) (ev σ i) (λd=>K d H):=by
 show yr (.aidx len sz) [ev σ x,ev σ i] H (λd=>K d H)=_;unfold qjE;cases ev σ i<;>first|rfl|skip
 rename_i v;cases v<;>rfl
end
@[simp] theorem qDv(a:D)(es:List D):WL a (.mp es)=(a= .mp es):=i' rfl
theorem G0{a b:D}(l:F1 a=true)(hb:F1 b=true)(h:Mi a b):a=b:=by
 obtain⟨tp,I,w,x,h1,h2⟩:=h;have one:∀d:D,F1 d=true->(∃cs,d= .agg cs)\/ ∃v,d= .v v:=λd r=>by
  cases d<;>first|exact .inl ⟨_,rfl⟩|exact .inr ⟨_,rfl⟩|(simp[F1,D.cells,qtl]at r)
 rcases one a l with⟨cs,rfl⟩|⟨v,rfl⟩ <;>rcases one b hb with⟨cs',rfl⟩|⟨v',rfl⟩
 ·obtain⟨xs,rfl,hl,hc⟩:=h1.inv_agg;obtain⟨s,he,t,c⟩:=h2.inv_agg;have j:xs=s:=by simpa using he
  subst j;have k:cs=cs':=by
   refine qHL (by omega) λi h3 h4=>?_
   have hi:i<xs.length:=by omega
   have v1:qtl cs[i]=true:=qFN.1 l _ (by simp[D.cells]);have u:qtl cs'[i]=true:=qFN.1 hb _ (by simp[D.cells]);have y:=(hc i _ _ (qFH hi) (qFH h3)).2;have A:=(c i _ _ (qFH hi) (qFH h4)).2;generalize cs[i]=p at*;generalize cs'[i]=q at*;cases p<;>first|(cases v1;done)|skip
   cases q<;>first|(cases u;done)|skip
   rw[<-y.inv_v,<-A.inv_v]
  rw[k]
 ·obtain⟨xs,rfl,_,_⟩:=h1.inv_agg;have:=h2.inv_v;cases h2 with
  |v _ h _=>simp[Value.oneCell']at h
 ·obtain⟨xs,rfl,_,_⟩:=h2.inv_agg;cases h1 with
  |v _ h _=>simp[Value.oneCell']at h
 ·rw[<-h1.inv_v,<-h2.inv_v]
structure qc3 (X:Type) [Cod X] (ka:Bool) (ks:List KK):Prop where
 fit:∀x:X,M7 ka ks (enc x)=true
 pur:∀x:X,F1 (enc x)=true
def Jf:qc3 Int false [.int .i64]:=⟨λ_=>rfl,λ_=>rfl⟩
section
variable {X:Type}[Cod X][DecidableEq X]
def aW(l:List X):List D:=l.map λx=> .tup [enc x, .v (.bool true)]
def ye(x:X)(l:List X):List X:=if x∈l then l else l++ [x]
@[simp] theorem fU{x y:X}{l:List X} :y∈ye x l↔y=x\/y∈l:=by
 unfold ye;split
 ·rename_i h;exact⟨.inr,λh2=>h2.elim (λe=>e ▸h) id⟩
 ·simp[or_comm]
def BJ{x:X}{l:List X}(h:l.Nodup):(ye x l).Nodup:=by
 unfold ye;split
 ·exact h
 ·rename_i c;rw[qHo];exact⟨h,by simp,λa d b hb=>by simp at hb;subst hb;exactλe=>c (e ▸d)⟩
def AF{x:X}{v:D}{l:List X} :D.tup [enc x,v] ∈aW l↔x∈l/\v= .v (.bool true):=by
 simp only[aW,qFQ,D.tup.injEq,qGd,and_true];exact⟨λ⟨y,h1,h2,h3⟩=>⟨aP h2 ▸h1,h3.symm⟩,λ⟨h1,h2⟩=>⟨x,h1,rfl,h2.symm⟩⟩
def Yk{d:D}{l:List X}(h:d∈aW l):∃x∈l,d= .tup [enc x, .v (.bool true)]:=by
 obtain⟨x,h1,rfl⟩:=qFQ.1 h;exact⟨x,h1,rfl⟩
def iX:∀{l:List X} {j c:List D} {e:D},aW l=j++e::c->∃a x b,l=a++x::b/\j=aW a/\e= .tup [enc x, .v (.bool true)]/\c=aW b
 | [],j,c,e,h=>by
   have:=congrArg List.length h;simp[aW]at this
 | y::l, [],c,e,h=>by
   simp only[aW,qGb,qGE,qGd]at h;exact⟨[],y,l,rfl,rfl,h.1.symm,h.2.symm⟩
 | y::l,d::j,c,e,h=>by
   simp only[aW,qGb,qGp,qGd]at h;obtain⟨a,x,b,rfl,rfl,h3,h4⟩:=iX (l:=l) h.2;exact⟨y::a,x,b,rfl,by simp[aW,h.1],h3,h4⟩
def jG(a b:List X):aW (a++b)=aW a++aW b:=by simp[aW]
def Oy{ka:Bool}{ks:List KK}(a:qc3 X ka ks)(l:List X):(aW l).all (Wc ka ks)=true:=by
 rw[qFN];intro d b;obtain⟨x,_,rfl⟩:=Yk b;exact a.fit x
def Uy{ka:Bool}{ks:List KK}(c:qc3 X ka ks){x:X}{l:List X}{k:D}{K:List D->Prop}(hk:k=enc x)(h:K (aW (ye x l))):Di ka ks k (.v (.bool true)) (aW l) K:=by
 subst hk;refine⟨Oy c l,c.fit x,λj p v' q e m=>?_,λhn=>?_⟩
 ·obtain⟨a,y,b,rfl,rfl,h3,rfl⟩:=iX e;simp only[D.tup.injEq,qGd,and_true]at h3;obtain⟨rfl,rfl⟩:=h3;have:=aP (G0 (c.pur x) (c.pur y) m);subst this;rw[<-e];have:ye x (a++x::b)=a++x::b:=by unfold ye;rw[if_pos (by simp)]
  rw[this]at h;exact h
 ·have d:x∉l:=λd=>hn (c.pur x) _ (AF.2 ⟨d,rfl⟩)
  have:ye x l=l++ [x]:=by unfold ye;rw[if_neg d]
  rw[this,jG]at h;exact h
def qjO{ok:Bool}{ka:Bool}{ks:List KK}(a:qc3 X ka ks){x:X}{l:List X}{k:D}{K:D->Prop}(hk:k=enc x)(h:K (qnY ok (.v (.bool (decide (x∈l)))) (decide (x∈l)))):
 zr ok false ka ks [.bool false] k (aW l) K:=by
 subst hk;refine⟨Oy a l,a.fit x,λd v hm m=>?_,λhn=>?_⟩
 ·obtain⟨y,c,e⟩:=Yk hm;simp only[D.tup.injEq,qGd,and_true]at e;obtain⟨rfl,rfl⟩:=e;have:=aP (G0 (a.pur x) (a.pur y) m);subst this;simpa [c]using h
 ·have b:x∉l:=λb=>hn (a.pur x) _ (AF.2 ⟨b,rfl⟩)
  simpa [b]using h
def L3{ok:Bool}{ka:Bool}{ks:List KK}(b:qc3 X ka ks)(x:X)(c:Mi (enc x) (enc x))(l:List X)(K:D->Prop):zr ok false ka ks [.bool false] (enc x) (aW l) K=K (qnY ok (.v (.bool (decide (x∈l)))) (decide (x∈l))):=by
 refine propext ⟨λ⟨_,_,h1,h2⟩=>?_,qjO b rfl⟩;by_cases a:x∈l
 ·have:=h1 (enc x) (.v (.bool true)) (AF.2 ⟨a,rfl⟩) c;simpa [a]using this
 ·have:=h2 λ_ v hm=>a (AF.1 hm).1
  simpa [a,TU,yy]using this
end
@[simp] theorem qu1(ok:Bool)(k:Int)(l:List Int)(K:D->Prop):zr ok false false [.int .i64] [.bool false] (.v (.int .i64 k)) (aW l) K=K (qnY ok (.v (.bool (decide (k∈l)))) (decide (k∈l))):=L3 Jf k ⟨λ_=>False,λ_=>False,default,_,R.int .i64 k,R.int .i64 k⟩ l K
@[simp] theorem qEj(v:D)(b:Bool):qnY false v b=v:=i' rfl
open Go.Proofs
structure St3 where
 p:Int
 b0:Int
 b1:Int
 b2:Int
deriving DecidableEq
instance:Cod St3 where
 wd:=4
 enc s:= .agg [enc s.p,enc s.b0,enc s.b1,enc s.b2]
 dec| .agg [a,b,c,j]=>(dec a).bind λa=>(dec b).bind λb=>(dec c).bind λc=>(dec j).bind λj=>some ⟨a,b,c,j⟩|_=>none
 kn _:=rfl
 wid _:=rfl
 dec_enc s:=by simp
 le d x h:=by
  split at h
  ·simp only[qFF]at h;obtain⟨a,h0,b,h1,c,h2,j,h3,h⟩:=h;cases h;exact LeL.agg (.cons (Cod.le _ _ h0) (.cons (Cod.le _ _ h1) (.cons (Cod.le _ _ h2) (.cons (Cod.le _ _ h3) .nil))))
  ·cases h
@[simp] theorem qyU(s:St3):enc s= .agg [enc s.p,enc s.b0,enc s.b1,enc s.b2]:=i' rfl
@[simp] theorem qy3(a b c d:D):dec (X:=St3) (.agg [a,b,c,d])=((dec a).bind λa=>(dec b).bind λb=>(dec c).bind λc=>(dec d).bind λd=>some ⟨a,b,c,d⟩):=i' rfl
def qea:qc3 St3 true [.int .i64, .int .i64, .int .i64, .int .i64]:=⟨λ_=>rfl,λ_=>rfl⟩
structure Rn where
 c:Corpus
 lb:List B
 bg:Int
 en:Int
def St3.get(s:St3)(i:Nat):Int:=match i with|0=>s.b0|1=>s.b1|_=>s.b2
def St3.set(s:St3)(i:Nat)(x:Int):St3:=match i with|0=>⟨s.p,x,s.b1,s.b2⟩|1=>⟨s.p,s.b0,x,s.b2⟩|_=>⟨s.p,s.b0,s.b1,x⟩
def WE(r:Rn)(s:St3):List Int:=(List.range r.lb.length).map λi=>s.get i -1
def KR(r:Rn)(p:Pat)(s:St3):St3:=
 let a:St3:=if p.lab=mq then s else s.set (fe r.lb λz=>decide (z=p.lab)).toNat (s.p+1)
 ⟨a.p+1,a.b0,a.b1,a.b2⟩
def Kj(r:Rn)(p:Pat)(s:St3):Option Bool:=nJ ⟨r.c,s.p,r.lb,WE r s⟩ 21 p.cond
def qlN(r:Rn)(p:Pat)(at_:Int):Bool:=r.c.regs.any λx=>decide (x.ty=p.reg) && decide ((if p.op=3 then x.e else x.b)=at_) && decide (r.bg<=x.b) && decide (x.e<=r.en)
section
variable {α:Type}
def Pow(R:α->α->Prop):Nat->α->α->Prop
 | 0=>λs t=>s=t
 |n+1=>λs t=>∃u,R s u/\Pow R n u t
def Star(R:α->α->Prop)(s t:α):Prop:=∃n,Pow R n s t
def Pow.add{R:α->α->Prop} :∀{m n:Nat} {s t u:α},Pow R m s t->Pow R n t u->Pow R (m+n) s u
 | 0,n,s,t,u,h,k=>by cases h;rwa [qGs]
 | m+1,n,s,t,u,⟨v,h1,h2⟩,k=>by
   rw[Nat.succ_add];exact⟨v,h1,h2.add k⟩
def Star.refl(R:α->α->Prop)(s:α):Star R s s:=⟨0,rfl⟩
theorem Star.one{R:α->α->Prop}{s t:α}(h:R s t):Star R s t:=⟨1,t,h,rfl⟩
def Star.trans{R:α->α->Prop}{s t u:α}(h:Star R s t)(k:Star R t u):Star R s u:=by
 obtain⟨m,h⟩:=h;obtain⟨n,k⟩:=k;exact⟨m+n,h.add k⟩
def Star.mono{R Q:α->α->Prop}(a:∀s t,R s t->Star Q s t){s t:α}(h:Star R s t):Star Q s t:=by
 obtain⟨n,h⟩:=h
 induction n generalizing s with
 |zero=>cases h;exact .refl _ _
 | succ n b=>
   obtain⟨u,h1,h2⟩:=h;exact(a _ _ h1).trans (b h2)
def Pow.mono{R Q:α->α->Prop}(a:∀s t,R s t->Q s t):∀{n:Nat} {s t:α},Pow R n s t->Pow Q n s t
 | 0,_,_,h=>h
 |n+1,_,_,⟨u,h1,h2⟩=>⟨u,a _ _ h1,h2.mono a⟩
end
def Ni(R:St3->St3->Prop)(s t:St3):Prop:=R s t/\s.p<t.p
def EP(R:St3->St3->Prop)(mn mx:Int)(s t:St3):Prop:=∃u,Pow R mn.toNat s u/\∃n:Nat,(mx< 0\/mn+n<=mx)/\Pow (Ni R) n u t
def CN(R:St3->St3->Prop):Prop:=∀s t,R s t->s=t\/s.p<t.p
def Zv{R:St3->St3->Prop}(a:CN R){s t:St3} :Star (Ni R) s t↔Star R s t:=by
 constructor
 ·exact Star.mono λs t h=> .one h.1
 ·exact Star.mono λs t h=>by
   rcases a s t h with rfl|h2
   ·exact .refl _ _
   ·exact .one ⟨h,h2⟩
def vV{R:St3->St3->Prop}(a:CN R){mn:Int}{s t:St3} :EP R mn (-1) s t↔ ∃u,Pow R mn.toNat s u/\Star R u t:=by
 constructor
 ·rintro⟨u,h1,n,_,h2⟩;exact⟨u,h1,(Zv a).1 ⟨n,h2⟩⟩
 ·rintro⟨u,h1,h2⟩;obtain⟨n,h2⟩:=(Zv a).2 h2;exact⟨u,h1,n, .inl (by decide),h2⟩
def ZH{R:St3->St3->Prop}(b:CN R)(n:Nat):CN (Pow R n):=by
 induction n with
 |zero=>intro s t h;exact .inl h
 | succ n a=>
   rintro s t ⟨u,h1,h2⟩;rcases b _ _ h1 with rfl|h1
   ·exact a _ _ h2
   ·rcases a _ _ h2 with rfl|h2
    ·exact .inr h1
    ·exact .inr (by omega)
def ZG{R:St3->St3->Prop}(a:CN R)(mn mx:Int):CN (EP R mn mx):=by
 rintro s t ⟨u,h1,n,_,h2⟩;have b:CN (Pow (Ni R) n):=ZH (λs t h=>a s t h.1) n;rcases ZH a _ _ _ h1 with rfl|h1
 ·exact b _ _ h2
 ·rcases b _ _ h2 with rfl|h2
  ·exact .inr h1
  ·exact .inr (by omega)
theorem qno{R:St3->St3->Prop}(c:CN R){d a:Int}(h1:0<=d/\d<=1)(h2:0<=a/\a<=1)(s t:St3):EP (EP R a (-1)) d (-1) s t↔EP R (d*a) (-1) s t:=by
 have j:=ZG c a (-1);rw[vV j,vV c];have sub:∀s t,EP R a (-1) s t->Star R s t:=λs t h=>by
  obtain⟨u,h3,h4⟩:=(vV c).1 h;exact Star.trans ⟨_,h3⟩ h4
 have k:∀s t,R s t->EP R a (-1) s t:=λs t h=>by
  rw[vV c];have:a=0\/a=1:=by omega
  rcases this with rfl|rfl
  ·exact⟨s,rfl, .one h⟩
  ·exact⟨t,⟨t,h,rfl⟩, .refl _ _⟩
 have b:∀s t,Star (EP R a (-1)) s t↔Star R s t:=λs t=>⟨Star.mono sub,Star.mono λs t h=> .one (k s t h)⟩
 have c1:d=0\/d=1:=by omega
 rcases c1 with rfl|rfl
 ·rw[Int.zero_mul];constructor
  ·rintro⟨u,h3,h4⟩;cases h3;exact⟨_,rfl,(b _ _).1 h4⟩
  ·rintro⟨u,h3,h4⟩;cases h3;exact⟨_,rfl,(b _ _).2 h4⟩
 ·rw[Int.one_mul];constructor
  ·rintro⟨u,⟨v,h3,h5⟩,h4⟩;cases h5;obtain⟨l,h6,p⟩:=(vV c).1 h3;exact⟨l,h6,p.trans ((b _ _).1 h4)⟩
  ·rintro⟨u,h3,h4⟩;exact⟨t,⟨t,(vV c).2 ⟨u,h3,h4⟩,rfl⟩, .refl _ _⟩
mutual
def pM(r:Rn):Pat->St3->St3->Prop
 | .mk op cond lab reg mn mx ks=>λs t=>
   if op=1 then s.p<r.en/\Kj r (.mk op cond lab reg mn mx ks) s=some true/\t=KR r (.mk op cond lab reg mn mx ks) s
   else if op=2\/op=3 then qlN r (.mk op cond lab reg mn mx ks) s.p=true/\t=s
   else if op=4 then zZ r ks s t
   else if op=5 then Ct r ks s t
   else QS r ks mn mx s t
def zZ(r:Rn):List Pat->St3->St3->Prop
 | []=>λs t=>s=t
 |k::ks=>λs t=>∃u,pM r k s u/\zZ r ks u t
def Ct(r:Rn):List Pat->St3->St3->Prop
 | []=>λ_ _=>False
 |k::ks=>λs t=>pM r k s t\/Ct r ks s t
def QS(r:Rn):List Pat->Int->Int->St3->St3->Prop
 | []=>λ_ _ _ _=>False
 |k::_=>λmn mx s t=>EP (pM r k) mn mx s t
end
mutual
def D8(r:Rn):∀p:Pat,CN (pM r p)
 | .mk op cond lab reg mn mx ks=>by
   intro s t h;rw[pM]at h;split at h
   ·obtain⟨_,_,rfl⟩:=h;right;unfold KR;dsimp only;split
    ·show s.p<s.p+1;omega
    ·generalize (fe r.lb λz=>decide (z=lab)).toNat=i;rcases i with _|_|i
     ·show s.p<s.p+1;omega
     ·show s.p<s.p+1;omega
     ·show s.p<s.p+1;omega
   ·split at h
    ·exact .inl h.2.symm
    ·split at h
     ·exact E8 r ks s t h
     ·split at h
      ·exact To r ks s t h
      ·exact qgG r ks mn mx s t h
def E8(r:Rn):∀ks:List Pat,CN (zZ r ks)
 | []=>λs t h=>by rw[zZ]at h;exact .inl h
 | k::ks=>λs t h=>by
   rw[zZ]at h;obtain⟨u,h1,h2⟩:=h;rcases D8 r k s u h1 with rfl|h1
   ·exact E8 r ks _ _ h2
   ·rcases E8 r ks u t h2 with rfl|h2
    ·exact .inr h1
    ·exact .inr (by omega)
def To(r:Rn):∀ks:List Pat,CN (Ct r ks)
 | []=>λs t h=>by rw[Ct]at h;exact h.elim
 | k::ks=>λs t h=>by
   rw[Ct]at h;rcases h with h|h
   ·exact D8 r k s t h
   ·exact To r ks s t h
def qgG(r:Rn):∀(ks:List Pat) (mn mx:Int),CN (QS r ks mn mx)
 | [],_,_=>λs t h=>by rw[QS]at h;exact h.elim
 | k::_,mn,mx=>λs t h=>by
   rw[QS]at h;exact ZG (D8 r k) mn mx s t h
end
def qaY(m:Int)(s:St3):Prop:=0<=s.p/\s.p<=m/\∀i,0<=s.get i/\s.get i<=m
def qp7(m:Int)(R:St3->St3->Prop):Prop:=∀s t,R s t->qaY m s->qaY m t
def KZ{m:Int}{R:St3->St3->Prop}(h:qp7 m R):∀n:Nat,qp7 m (Pow R n)
 | 0,s,t,e,hs=>by cases e;exact hs
 |n+1,s,t,⟨u,h1,h2⟩,hs=>KZ h n _ _ h2 (h _ _ h1 hs)
def qrH{m:Int}{R:St3->St3->Prop}(h:qp7 m R)(mn mx:Int):qp7 m (EP R mn mx):=by
 rintro s t ⟨u,h1,n,_,h2⟩ hs;exact KZ (R:=Ni R) (λs t q=>h s t q.1) n _ _ h2 (KZ h _ _ _ h1 hs)
def qpF(r:Rn)(p:Pat)(s:St3):(KR r p s).p=s.p+1:=by
 unfold KR;dsimp only;split
 ·rfl
 ·generalize (fe r.lb λz=>decide (z=p.lab)).toNat=i;rcases i with _|_|i<;>rfl
def qnI(r:Rn)(p:Pat)(s:St3)(i:Nat):(KR r p s).get i=s.get i\/(KR r p s).get i=s.p+1:=by
 unfold KR;dsimp only;split
 ·rcases i with _|_|i<;>exact .inl rfl
 ·generalize (fe r.lb λz=>decide (z=p.lab)).toNat=j;rcases j with _|_|j<;>rcases i with _|_|i<;>first|exact .inl rfl|exact .inr rfl
mutual
def BI(r:Rn):∀p:Pat,qp7 r.en (pM r p)
 | .mk op cond lab reg mn mx ks=>by
   intro s t h hs;rw[pM]at h;split at h
   ·obtain⟨h1,_,rfl⟩:=h;obtain⟨a,b,c⟩:=hs;refine⟨by rw[qpF];omega,by rw[qpF];omega,λi=>?_⟩;rcases qnI r (.mk op cond lab reg mn mx ks) s i with e|e
    ·rw[e];exact c i
    ·rw[e];omega
   ·split at h
    ·rw[h.2];exact hs
    ·split at h
     ·exact VN r ks s t h hs
     ·split at h
      ·exact qd8 r ks s t h hs
      ·exact qn1 r ks mn mx s t h hs
def VN(r:Rn):∀ks:List Pat,qp7 r.en (zZ r ks)
 | []=>λs t h hs=>by rw[zZ]at h;rw[<-h];exact hs
 | k::ks=>λs t h hs=>by
   rw[zZ]at h;obtain⟨u,h1,h2⟩:=h;exact VN r ks u t h2 (BI r k s u h1 hs)
def qd8(r:Rn):∀ks:List Pat,qp7 r.en (Ct r ks)
 | []=>λs t h=>by rw[Ct]at h;exact h.elim
 | k::ks=>λs t h hs=>by
   rw[Ct]at h;rcases h with h|h
   ·exact BI r k s t h hs
   ·exact qd8 r ks s t h hs
def qn1(r:Rn):∀(ks:List Pat) (mn mx:Int),qp7 r.en (QS r ks mn mx)
 | [],_,_=>λs t h=>by rw[QS]at h;exact h.elim
 | k::_,mn,mx=>λs t h hs=>by
   rw[QS]at h;exact qrH (BI r k) mn mx s t h hs
end
def PS{R:St3->St3->Prop} :∀{n:Nat} {s t:St3},Pow (Ni R) n s t->s.p+n<=t.p
 | 0,s,t,h=>by cases h;omega
 | n+1,s,t,⟨u,h1,h2⟩=>by
   have:=PS h2;have:=h1.2;omega
mutual
def uL:Pat->List Pat
 | .mk op cond lab reg mn mx ks=> .mk op cond lab reg mn mx ks::BE ks
def BE:List Pat->List Pat
 | []=>[]
 |k::ks=>uL k++BE ks
end
def tt(C:Pat->Prop)(p:Pat):Prop:=∀q∈uL p,C q
def L2:∀{ks:List Pat} {k q:Pat},k∈ks->q∈uL k->q∈BE ks
 | a::ks,k,q,h,b=>by
   rw[BE,qFL];rcases qFP.1 h with rfl|h
   ·exact .inl b
   ·exact .inr (L2 h b)
def yq:∀{ks:List Pat} {q:Pat},q∈BE ks->∃k∈ks,q∈uL k
 | [],q,h=>by rw[BE]at h;cases h
 | a::ks,q,h=>by
   rw[BE,qFL]at h;rcases h with h|h
   ·exact⟨a,by simp,h⟩
   ·obtain⟨k,h1,h2⟩:=yq h;exact⟨k,by simp[h1],h2⟩
def Ze(p:Pat):p∈uL p:=by cases p;rw[uL];simp
def py{C:Pat->Prop}{p:Pat}(h:tt C p):C p:=h p (Ze p)
def wM{C:Pat->Prop}{p k:Pat}(h:tt C p)(hk:k∈p.kids):tt C k:=λq a=>h q (by cases p;rw[uL];exact qHs _ (L2 hk a))
def qnB{C:Pat->Prop}{p:Pat}(h:C p)(hk:∀k∈p.kids,tt C k):tt C p:=λq hq=>by
 cases p;rw[uL]at hq;rcases qFP.1 hq with rfl|hq
 ·exact h
 ·obtain⟨k,h1,h2⟩:=yq hq;exact hk k h1 q h2
def vW{C D:Pat->Prop}{p:Pat}(h:tt C p)(a:∀q,C q->D q):tt D p:=λq b=>a q (h q b)
def mG:List Int->List Int->Int
 | [], []=>0
 | [],_::_=> -1
 | _::_, []=>1
 |a::x,b::y=>if ug a b≠0 then ug a b else mG x y
def Lf(a b:cb):Int:=mG (a.b::a.e::a.lbs) (b.b::b.e::b.lbs)
def lR(a b:Int):(a<b/\ug a b= -1)\/(a=b/\ug a b=0)\/(b<a/\ug a b=1):=by
 unfold ug;by_cases h:a<b
 ·exact .inl ⟨h,if_pos h⟩
 ·by_cases h2:b<a
  ·exact .inr (.inr ⟨h2,by rw[if_neg h,if_pos h2]⟩)
  ·exact .inr (.inl ⟨by omega,by rw[if_neg h,if_neg h2]⟩)
def qlj(a b:Int):ug b a= -ug a b:=by
 rcases lR a b with⟨h,e⟩|⟨h,e⟩|⟨h,e⟩ <;>rcases lR b a with⟨d,c⟩|⟨d,c⟩|⟨d,c⟩ <;>first|(rw[e,c];done)|(rw[e,c];rfl)|omega
def TI{a b:Int} :ug a b=0↔a=b:=by
 rcases lR a b with⟨h,e⟩|⟨h,e⟩|⟨h,e⟩ <;>rw[e] <;>constructor<;>intro c<;>omega
def qal:∀x y:List Int,mG y x= -mG x y
 | [], []=>rfl
 | [],_::_=>rfl
 | _::_, []=>rfl
 | a::x,b::y=>by
   unfold mG;have h:=qlj a b;by_cases e:ug a b=0
   ·rw[if_neg (by rw[h,e];simp),if_neg (by simp[e])];exact qal x y
   ·rw[if_pos (by rw[h];omega),if_pos e,h]
def Lg:∀{x y:List Int},mG x y=0↔x=y
 | [], []=>by simp[mG]
 | [],_::_=>by simp[mG]
 | _::_, []=>by simp[mG]
 | a::x,b::y=>by
   unfold mG;by_cases e:ug a b=0
   ·rw[if_neg (by simp[e]),Lg,TI.1 e];simp
   ·rw[if_pos e];constructor
    ·intro h;exact absurd h e
    ·intro h;injection h with h;exact absurd (TI.2 h) e
def qcJ(x y:List Int):mG x y= -1\/mG x y=0\/mG x y=1:=by
 induction x generalizing y with
 |nil=>cases y<;>simp[mG]
 | cons a x c=>
   cases y with
   |nil=>simp[mG]
   | cons b y=>
     unfold mG;split
     ·rcases lR a b with⟨_,e⟩|⟨_,e⟩|⟨_,e⟩ <;>rw[e] <;>simp
     ·exact c y
def Qo:∀{x y z:List Int},mG x y< 0->mG y z< 0->mG x z< 0
 | [], [],_,h,_=>by simp[mG]at h
 | [],_::_, [],_,h=>by simp[mG]at h
 | [],_::_,_::_,_,_=>by simp[mG]
 | _::_, [],_,h,_=>by simp[mG]at h
 | _::_,_::_, [],_,h=>by simp[mG]at h
 | a::x,b::y,c::z,h1,h2=>by
   unfold mG at h1 h2 ⊢;rcases lR a b with⟨l,d⟩|⟨l,d⟩|⟨l,d⟩ <;>rcases lR b c with⟨p,j⟩|⟨p,j⟩|⟨p,j⟩ <;>rcases lR a c with⟨q,k⟩|⟨q,k⟩|⟨q,k⟩ <;>simp only[d,j,k]at h1 h2 ⊢ <;>first|omega|(exact Qo (by simpa using h1) (by simpa using h2))|(simp at h1;done)|(simp at h2;done)|skip
def qcj(a b:cb):Prop:=Lf a b< 0
theorem E6{a b c:cb}(h1:qcj a b)(h2:qcj b c):qcj a c:=Qo h1 h2
def qd2(a:cb):¬qcj a a:=λh=>by
 have:Lf a a=0:=Lg.2 rfl;unfold qcj at h;omega
def qgX{a b:cb} :Lf a b=0↔a=b:=by
 unfold Lf;rw[Lg];obtain⟨a1,a2,a3⟩:=a;obtain⟨b1,b2,c⟩:=b;simp
def qli(a b:cb):Lf b a= -Lf a b:=qal _ _
theorem Ny{a b:cb}(h:¬qcj a b):a=b\/qcj b a:=by
 rcases qcJ (a.b::a.e::a.lbs) (b.b::b.e::b.lbs)with e|e|e
 ·exact absurd (show Lf a b< 0 by unfold Lf;omega) h
 ·exact .inl (qgX.1 e)
 ·right;unfold qcj;rw[qli a b];show -mG _ _< 0;omega
def Fh(l:List cb):Prop:=l.Pairwise qcj
def qhI(c:Corpus)(i:Int):Option xX:=c.texts.find? λt=>decide (t.b<=i) && decide (i<t.e)
def Kt(c:Corpus)(lb:List B)(t:xX):Rn:=⟨c,lb,t.b,min t.e c.toks.length⟩
def qfB(i:Int):St3:=⟨i,0,0,0⟩
def qhb(c:Corpus)(lb:List B)(p:Pat)(m:cb):Prop:=0<=m.b/\m.b<c.toks.length/\∃t,qhI c m.b=some t/\∃s,pM (Kt c lb t) p (qfB m.b) s/\m.b<s.p/\m.e=s.p/\m.lbs=WE (Kt c lb t) s
def qml(c:Corpus)(lb:List B)(p:Pat)(i:Int)(l:List cb):Prop:=Fh l/\∀m,m∈l↔m.b=i/\qhb c lb p m
def qwy(c:Corpus)(lb:List B)(p:Pat)(l:List cb):Prop:=Fh l/\∀m,m∈l↔qhb c lb p m
def qu0{a b:cb}(h:a.b<b.b):qcj a b:=by
 unfold qcj Lf mG;rcases lR a.b b.b with⟨_,e⟩|⟨h2,_⟩|⟨h2,_⟩
 ·rw[e];simp
 ·omega
 ·omega
def qhc(c:Corpus)(lb:List B)(p:Pat)(k:Int)(l:List cb):Prop:=Fh l/\∀m,m∈l↔m.b<k/\qhb c lb p m
def qgw(c:Corpus)(lb:List B)(p:Pat):qhc c lb p 0 []:=⟨List.Pairwise.nil,λm=>⟨λh=>(by cases h),λh=>(by have:=h.2.1;omega)⟩⟩
def qgx{c:Corpus}{lb:List B}{p:Pat}{k:Int}{l l':List cb}(h:qhc c lb p k l)(d:qml c lb p k l'):qhc c lb p (k+1) (l++l'):=by
 refine⟨qGx.2 ⟨h.1,d.1,λa j b hb=>qu0 ?_⟩,λm=>?_⟩
 ·have:=((h.2 a).1 j).1;have:=((d.2 b).1 hb).1;omega
 ·rw[qFL,h.2,d.2];constructor
  ·rintro(⟨h1,h2⟩|⟨h1,h2⟩)
   ·exact⟨by omega,h2⟩
   ·exact⟨by omega,h2⟩
  ·rintro⟨h1,h2⟩;by_cases e:m.b=k
   ·exact .inr ⟨e,h2⟩
   ·exact .inl ⟨by omega,h2⟩
def qjY{c:Corpus}{lb:List B}{p:Pat}{l:List cb}(h:qhc c lb p c.toks.length l):qwy c lb p l:=⟨h.1,λm=>(h.2 m).trans ⟨λh=>h.2,λh=>⟨h.2.1,h⟩⟩⟩
def qeM(r:Rn)(s:St3):(WE r s).length=r.lb.length:=by simp[WE]
def Zd:∀(n:Nat) (l:List Nat),l.Nodup->(∀x∈l,x<n)->l.length<=n
 | 0, [],_,_=>qFM _
 | 0,x::l,_,h=>absurd (h x (by simp)) (Nat.not_lt_zero _)
 | n+1,l,hn,h=>by
   have b:=Zd n (l.erase n) (hn.erase n) λx a=>by
    have h1:=(List.Nodup.mem_erase_iff hn).1 a;have:=h x h1.2;omega
   have h2:l.length<=(l.erase n).length+1:=by
    rw[List.length_erase];split<;>omega
   omega
def SW{c:Type}{l:List c}{f:c->Nat}{n:Nat}(h1:l.Nodup)(h2:∀x∈l,f x<n)(h3:∀x∈l,∀y∈l,f x=f y->x=y):l.length<=n:=by
 have hn:∀{l:List c},l.Nodup->(∀x∈l,∀y∈l,f x=f y->x=y)->(l.map f).Nodup:=λ{l} h1 h3=>by
  induction l with
  |nil=>exact qG7
  | cons a l h=>
    rw[qGb,qGR];have h4:=qGR.1 h1;refine⟨λhm=>?_,h h4.2 λx d y b=>h3 x (by simp[d]) y (by simp[b])⟩;obtain⟨y,b,e⟩:=qFQ.1 hm;have:=h3 y (by simp[b]) a (by simp) e;subst this;exact h4.1 b
 have:=Zd n (l.map f) (hn h1 h3) λx d=>by
  obtain⟨y,b,rfl⟩:=qFQ.1 d;exact h2 y b
 simpa using this
def qf7(m:Nat)(s:St3):Nat:=((s.p.toNat*m+s.b0.toNat) *m+s.b1.toNat) *m+s.b2.toNat
def tM:CC:=gq Tryz.f39 [4,3,3057036,1060060] { bx:=[41],cu:=[6],ke:=[36,990] } _
def tC:List aj:=[.tmp 6]
def RQ:FO BW [4,3,3057036,1060060] tM tC 64:=fo
def th:CC:=gq Tryz.f97 [2,3] {} _
def sy:List aj:=[.tmp 4]
def KH:FO nZ [2,3] th sy 22:=fo
def tg:CC:=gq Tryz.f16 [2,3] {} _
def sx:List aj:=[.tmp 4, .tmp 5]
def KG:FO uO [2,3] tg sx 33:=fo
def kF:CC:=gq Tryz.f160 [] {} _
def ki:List aj:=[.tmp 4]
def CT:FO lI [] kF ki 36:=fo
variable {S S0:Nat->Spc}
def Wu(a b:Int)(x y:List Int):mG (a::x) (b::y)=if ug a b≠0 then ug a b else mG x y:=rfl
abbrev qiG:Spc:=aG (a2 (List Int) (List Int)) (λ_=>True) (enc (X:=Int)) λx y=>y=mG x.1 x.2
theorem qqw(h1:S cW=gA):ak kF ki S (a2 (List Int) (List Int)) (λ_=>True) (enc (X:=Int)) λx y=>y=mG x.1 x.2:=by
 rintro⟨l,m⟩ -;simp[kF,ki,-fB',-eB'];intro hl;refine ah (X:=Unit) [0,1,9] [] l.length (λk _=>mG l m=mG (l.drop k) (m.drop k)/\k<=m.length) (λ_=>[]) (λ_=>[]) () (by simp) ?_ ?_
 ·intro k _ hk ⟨a,q⟩;obtain⟨x,s⟩:∃x,l[k]? =some x:=⟨_,qFH hk⟩
  obtain⟨_,c⟩:=qFG.1 s;have j:l.drop k=x::l.drop (k+1):=by rw[<-c];exact qGm hk
  by_cases hm:k<m.length
  ·obtain⟨y,u⟩:∃y,m[k]? =some y:=⟨_,qFH hm⟩
   obtain⟨_,p⟩:=qFG.1 u;have t:m.drop k=y::m.drop (k+1):=by rw[<-p];exact qGm hm
   rw[j,t,Wu]at a;have d:¬(m.length:Int)<=k:=by omega
   have b:¬m.length<=k:=by omega
   simp[hk,s,c,u,p,hm,d,b,h1,-fB',-eB'];refineλw=>⟨λh=>?_,λh=>?_⟩
   ·rw[if_pos h]at a;exact a.symm
   ·rw[if_neg (by simp[h])]at a;exact⟨a,by omega⟩
  ·have d:(m.length:Int)<=k:=by omega
   have b:m.length<=k:=by omega
   have e:m.drop k=[]:=qGX b;rw[j,e]at a;simp[hk,s,c,d,b,-fB',-eB'];intro _;rw[a];rfl
 ·intro _ ⟨a,q⟩;rw[qGw]at a;simp[-fB',-eB'];intro _ _;constructor
  ·intro h;cases j:m.drop l.length with
   |nil=>have:=congrArg List.length j;simp at this;omega
   |cons y r=>rw[j]at a;rw[a];rfl
  ·intro h;have e:m.drop l.length=[]:=qGX (by omega);rw[e]at a;rw[a];rfl
abbrev s_cmpM:Spc:=aG (a2 cb cb) (λ_=>True) (enc (X:=Int)) λx y=>y=Lf x.1 x.2
def qqv(h1:S cW=gA)(h2:S lI=qiG)(h3:S mF=vD):ak th sy S (a2 cb cb) (λ_=>True) (enc (X:=Int)) λx y=>y=Lf x.1 x.2:=by
 rintro⟨a,b⟩ -;simp[th,sy,h1,h2,h3,-fB',-eB'];rw[Lf,Wu,Wu];generalize mG a.lbs b.lbs=z;by_cases c:ug a.b b.b=0
 ·by_cases d:ug a.e b.e=0
  ·by_cases h:z=0
   ·simp[c,d,h]
   ·simp[c,d,List.find?,h]
  ·simp[c,List.find?,d]
 ·simp[List.find?,c]
def qt8(c:Corpus)(i:Int):Int:=fe c.texts λt=>decide (t.b<=i) && decide (i<t.e)
abbrev SG:Spc:=aG (a2 Corpus Int) (λ_=>True) (enc (X:=Int)) λx y=>y=qt8 x.1 x.2
theorem qfo:ak iO iB S (a2 Corpus Int) (λ_=>True) (enc (X:=Int)) λx y=>y=qt8 x.1 x.2:=by
 rintro⟨c,i⟩ -;simp[iO,iB,-fB',-eB'];intro hl;refine ah (X:=Unit) [1,8] [] c.texts.length (λk _=>∀t∈c.texts.take k,(decide (t.b<=i) && decide (i<t.e))=false) (λ_=>[]) (λ_=>[]) () (by simp) ?_ ?_
 ·intro k _ hk p;obtain⟨x,d⟩:∃x,c.texts[k]? =some x:=⟨_,qFH hk⟩
  obtain⟨_,a⟩:=qFG.1 d;have j:(decide (x.b<=i) && decide (i<x.e))=false->∀t∈c.texts.take (k+1),(decide (t.b<=i) && decide (i<t.e))=false:=λh t ht=>by
   rw[av d]at ht;rcases qFL.1 ht with ht|ht
   ·exact p t ht
   ·simp at ht;subst ht;exact h
  by_cases l:x.b<=i
  ·by_cases q:i<x.e
   ·simp[hk,d,a,l,q,-fB',-eB'];exact(tE d (by simp[l,q]) p).symm
   ·simp[hk,d,a,l,q,-fB',-eB'];have:=j (by simp[q]);simpa using this
  ·simp[hk,d,a,l,-fB',-eB'];have:=j (by simp[l]);simpa using this
 ·intro _ p;simp[-fB',-eB'];exact(jZ (by simpa using p)).symm
def qhJ{c:Corpus}{i:Int} :(qt8 c i= -1/\qhI c i=none)\/ ∃k t,qt8 c i=(k:Nat)/\c.texts[k]? =some t/\qhI c i=some t:=by
 unfold qt8 qhI;generalize hp:(λt:xX=>decide (t.b<=i) && decide (i<t.e))=p;generalize c.texts=l;rcases G7 p l with⟨h1,h2⟩|⟨k,x,h1,h2,h3,h4⟩
 ·refine .inl ⟨h1,qIe.2 λx a=>by simp[h2 x a]⟩
 ·refine .inr ⟨k,x,h1,h2,?_⟩;have e:l=l.take k++x::l.drop (k+1):=by
   obtain⟨hk,d⟩:=qFG.1 h2;rw[<-d,<-qGm hk,qGf]
  rw[e,List.find?_append,qIe.2 λx a=>by simp[h4 x a]];simp[h3]


end
section
open Cod (enc dec)
variable {dq:Prop}
section
variable {Y Z:Type}
def qrg:Nj Pst:=Nh nQ
def qAN(A:dP Z)(er:Y->D)(pre:Pst->Z->Prop)(post:Pst->Z->Pst->Y->Prop):Spc:=qsw qrg A er pre post
def qD5(er:Y->D)(pre:Pst->Z->Prop)(post:Pst->Z->Pst->Y->Prop)(id b:Nat)(r:Option Res)(o:Option Z)(H:ab)(K:D->ab->Prop):Prop:=
 ∃x,r=some (.box b (nQ x))/\eL o λz=>pre x z/\∀a y,post x z a y->K (er y) (ai H id (some (.box b (nQ a))))
def qg1{x y:Pst}(h:nQ x=nQ y):x=y:=by
 obtain⟨l,a,d,e,f⟩:=x;obtain⟨l',b,c,j,k⟩:=y;simp only[nQ,qGd]at h;obtain⟨h1,h2,h3,h4,h5,_⟩:=h;have h1:=aP h1;have h2:=aP h2;have h3:=aP h3;have h4:=aP h4;have h5:=aP h5;subst h1;subst h2;subst h3;subst h4;subst h5;rfl
@[simp] theorem qrf(A:dP Z)(er:Y->D)(pre:Pst->Z->Prop)(post:Pst->Z->Pst->Y->Prop)(d i b:Nat)(ds:List D)(H:ab)(K:D->ab->Prop):(qAN A er pre post).pt d (.bptr i b 0::ds) H K=qD5 er pre post i b (H i) (A.dec ds) H K:=by
 refine propext ⟨λh=>?_,λh=>?_⟩
 ·obtain⟨id,b',x,z,a,h1,h2,h3,h4,h5,h6,c⟩:=h;cases h1;refine⟨x,h3,?_⟩;rw[h2];exact⟨h6,c⟩
 ·obtain⟨x,h1,h2⟩:=h;cases hz:A.dec ds with
  |none=>rw[hz]at h2;exact h2.elim
  |some z=>rw[hz]at h2;exact⟨i,b,x,z,ds,rfl,hz,h1,λp hp=>by simp[qrg,Nh]at hp,by simp[qrg,Nh],h2.1,h2.2⟩
def QQ(er:Y->D)(b:Nat)(post:Pst->Y->Prop)(r:D)(H:ab):Prop:=Mj qrg er b post r H
def Jn{er:Y->D}{b:Nat}{post:Pst->Y->Prop}{r:D}{H:ab}(x:Pst)(y:Y)(a:FrzTo (λi=>if i=0 then none else H i) r (er y))(h0:H 0=some (.box b (nQ x)))(c:post x y):QQ er b post r H:=
 ⟨x,y,by simpa [qrg,Nh]using a,h0,λp hp=>by simp[qrg,Nh]at hp,c⟩
def rS(cc:CC)(rs:List aj)(S:Nat->Spc)(A:dP Z)(er:Y->D)(pre:Pst->Z->Prop)(post:Pst->Z->Pst->Y->Prop):Prop:=
 ∀b x z,pre x z->vc S cc (vE rs λr H'=>QQ er b (post x z) r H') (dR (.bptr 0 b 0::A.view z)) (ai bS 0 (some (.box b (nQ x))))
variable {P:Program}{S:Nat->Spc}{f:Nat}{im:List Nat}{cc:CC}{rs:List aj}{N:Nat}
def qbw{A:dP Z}{er:Y->D}{pre:Pst->Z->Prop}{post:Pst->Z->Pst->Y->Prop}(a:∀f,Tri dq P f (S f).pt)(h:zY P f im cc rs N)(c:∀z,(A.view z).length+1<=N)(d:rS cc rs S A er pre post):Tri dq P f (qAN A er pre post).pt:=
 wl (by simp[qrg,Nh]) a h c λb x z hp=>d b x z hp
end
section
variable {Y Z:Type}
def qb3(A:dP Z)(er:Y->D)(F:Pst->Z->Option (Pst×Y)):Spc:=qAN A er (λs z=>∃r,F s z=some r) (λs z a y=>F s z=some (a,y))
def qja(er:Y->D)(F:Pst->Z->Option (Pst×Y))(id b:Nat)(r:Option Res)(o:Option Z)(H:ab)(K:D->ab->Prop):Prop:=
 ∃x,r=some (.box b (nQ x))/\eL o λz=>eL (F x z) λq=>K (er q.2) (ai H id (some (.box b (nQ q.1))))
@[congr] theorem qxy{er:Y->D}{F:Pst->Z->Option (Pst×Y)}{id b:Nat}{r r':Option Res}{o a:Option Z}{H:ab}{K:D->ab->Prop}(h1:r=r')(h2:o=a):qja er F id b r o H K=qja er F id b r' a H K:=by subst h1;subst h2;rfl
def quJ{F:Option (Pst×Y)}{k:Pst->Y->Prop} :((∃r,F=some r)/\∀a y,F=some (a,y)->k a y)=eL F λq=>k q.1 q.2:=by
 cases F with
 | none=>
   refine propext (Iff.intro (λh=>?_) (λh=>?_))
   ·obtain⟨⟨r,h⟩,_⟩:=h;cases h
   ·exact False.elim h
 | some r=>
   refine propext (Iff.intro (λh=>h.2 _ _ rfl) (λh=>⟨⟨_,rfl⟩,λa y e=>?_⟩));cases e;exact h
@[simp] theorem qAL(A:dP Z)(er:Y->D)(F:Pst->Z->Option (Pst×Y))(d i b:Nat)(ds:List D)(H:ab)(K:D->ab->Prop):(qb3 A er F).pt d (.bptr i b 0::ds) H K=qja er F i b (H i) (A.dec ds) H K:=by
 unfold qb3 qja;rw[qrf];unfold qD5;refine propext (exists_congr λx=>and_congr_right λ_=>?_);cases A.dec ds with
 |none=>exact qG4
 |some z=>exact iff_of_eq quJ
@[simp] theorem qAM(er:Y->D)(F:Pst->Z->Option (Pst×Y))(id b:Nat)(l:List Mh)(p a e f:Int)(o:Option Z)(H:ab)(K:D->ab->Prop):
 qja er F id b (some (.box b [.list 3 (l.map enc), .v (.int .i64 p), .v (.int .i64 a), .v (.int .i64 e), .v (.int .i64 f)])) o H K=eL o λz=>eL (F ⟨l,p,a,e,f⟩ z) λq=>K (er q.2) (ai H id (some (.box b (nQ q.1)))):=by
 refine propext ⟨λ⟨x,h1,h2⟩=>?_,λh=>⟨⟨l,p,a,e,f⟩,rfl,h⟩⟩;have c:nQ ⟨l,p,a,e,f⟩=nQ x:=by
  have:=qFT h1;exact(Res.box.inj this).2
 have:=qg1 c;subst this;exact h2
variable {P:Program}{S:Nat->Spc}{f:Nat}{im:List Nat}{cc:CC}{rs:List aj}{N:Nat}
def dQ{A:dP Z}{er:Y->D}{F:Pst->Z->Option (Pst×Y)}(a:∀f,Tri dq P f (S f).pt)(h:zY P f im cc rs N)(b:∀z,(A.view z).length+1<=N)
 (c:rS cc rs S A er (λs z=>∃r,F s z=some r) (λs z d y=>F s z=some (d,y))):Tri dq P f (qb3 A er F).pt:=qbw a h b c
end
open Go.Proofs Go.Shelf Go.RowKit
section
variable {X:Type}
def qA3(A:dP X)(pre:X->List D->Prop)(post:X->List D->List D->Prop):PT:=λd ds H K=>∃id v l a x,ds= .own id v::a/\A.dec a=some x/\H id=some (.mrow v l)/\pre x l/\∀l',post x l l'->K (.tup []) (ai H id (some (.mrow v l')))
def qnQ(A:dP X)(pre:X->List D->Prop)(post:X->List D->List D->Prop):nC (qA3 A pre post):=λd ds H K b hk ⟨id,v,l,a,x,h1,h2,h3,h4,h5⟩=>⟨id,v,l,a,x,h1,h2,h3,h4,λl' hp=>hk _ _ (h5 l' hp)⟩
def qA5(A:dP X)(pre:X->List D->Prop)(post:X->List D->List D->Prop):Spc:= .gen _ (qnQ A pre post)
def quU(A:dP X)(pre:X->List D->Prop)(post:X->List D->List D->Prop)(id:Nat)(v:Value)(ds:List D)(r:Option Res)(H:ab)(K:D->ab->Prop):Prop:=match r with
 |some (.mrow v' l)=>v'=v/\eL (A.dec ds) λx=>pre x l/\∀l',post x l l'->K (.tup []) (ai H id (some (.mrow v l')))
 | _=>False
@[congr] theorem qA2{A:dP X}{pre:X->List D->Prop}{post:X->List D->List D->Prop}{id:Nat}{v:Value}{ds a:List D}{r r':Option Res}{H:ab}{K:D->ab->Prop}(h1:ds=a)(h2:r=r'):quU A pre post id v ds r H K=quU A pre post id v a r' H K:=by subst h1;subst h2;rfl
@[simp] theorem quT(A:dP X)(pre:X->List D->Prop)(post:X->List D->List D->Prop)(id:Nat)(v v':Value)(ds l:List D)(H:ab)(K:D->ab->Prop):quU A pre post id v ds (some (.mrow v' l)) H K=(v'=v/\eL (A.dec ds) λx=>pre x l/\∀l',post x l l'->K (.tup []) (ai H id (some (.mrow v l')))):=i' rfl
@[simp] theorem qA4(A:dP X)(pre:X->List D->Prop)(post:X->List D->List D->Prop)(d i:Nat)(v:Value)(ds:List D)(H:ab)(K:D->ab->Prop):(qA5 A pre post).pt d (.own i v::ds) H K=quU A pre post i v ds (H i) H K:=by
 refine propext ⟨λh=>?_,λh=>?_⟩
 ·obtain⟨id,v,l,b,x,h1,h2,h3,h4,h5⟩:=h;cases h1;rw[h3,quT,h2];exact⟨rfl,h4,h5⟩
 ·unfold quU at h;split at h
  ·rename_i v' l c;obtain⟨rfl,h⟩:=h;cases a:A.dec ds with
   |none=>rw[a]at h;exact h.elim
   |some x=>rw[a]at h;exact⟨i,v',l,ds,x,rfl,a,c,h.1,h.2⟩
  ·exact h.elim
def qwC(v:Value)(q:List D->Prop)(r:D)(H':ab):Prop:=∃l,r= .tup []/\H' 0=some (.mrow v l)/\q l
def qlT(cc:CC)(rs:List aj)(S:Nat->Spc)(A:dP X)(pre:X->List D->Prop)(post:X->List D->List D->Prop):Prop:=
 ∀v l x,pre x l->vc S cc (vE rs λr H'=>qwC v (post x l) r H') (dR (.own 0 v::A.view x)) (ai bS 0 (some (.mrow v l)))
variable {P:Program}{S:Nat->Spc}{f:Nat}{im:List Nat}{cc:CC}{rs:List aj}{N:Nat}{A:dP X}
theorem qbx{pre:X->List D->Prop}{post:X->List D->List D->Prop}(u:∀f,Tri dq P f (S f).pt)(h:zY P f im cc rs N)(w:∀x,(A.view x).length+1<=N)(y:qlT cc rs S A pre post):Tri dq P f (qA5 A pre post).pt:=by
 obtain⟨zq,enter,fn,code,h1,h2,h3,h4,h5⟩:=h;refine pw u zq h1 h2 enter h3 h4 h5 ?_;rintro ds H d K ⟨id,v,l,p,x,rfl,C,hid,hp,E⟩;have hl:=A.le p x C;refine⟨by simp only[qGn];rw[hl.1];exact w x, .own 0 v::A.view x,ai bS 0 (some (.mrow v l)),λ_=>id, .cons (.own _ _ _) hl,λi r h=>?_,λi j r s h F _=>?_,_,y v l x hp,?_⟩
 ·by_cases e:i=0
  ·subst e;simp only[ai,if_true]at h;cases h;exact hid
  ·simp[ai,e]at h
 ·have a:i=0:=by
   by_cases e:i=0
   ·exact e
   ·simp[ai,e]at h
  have b:j=0:=by
   by_cases e:j=0
   ·exact e
   ·simp[ai,e]at F
  exact a.trans b.symm
 ·rintro r H' ⟨l',rfl,I,c⟩;refine⟨.tup [],bS,ai H id (some (.mrow v l')),λi=>if i=id then some 0 else none, .same _,λj q h=>by simp at h,E l' c,λi s hi=>?_,λi t k s q hi J L M=>?_⟩
  ·by_cases e:i=id
   ·subst e;simp only[ai,if_true]at hi;cases hi;simpa using I
   ·simp only[ai,e,if_false]at hi ⊢;exact⟨hi,λk q h he=>e he.symm⟩
  ·have a:i=id:=by
    by_cases e:i=id
    ·exact e
    ·simp[e]at L
   have b:t=id:=by
    by_cases e:t=id
    ·exact e
    ·simp[e]at M
   exact a.trans b.symm
end
def qCE:PT:=λd ds H K=>∃es,ds=[.mp es]/\(es=[]->K (.mp []) H)/\(es≠ []->∀v,K (.own d v) (ai H d (some (.mrow v es))))
def qoO:nC qCE:=λd ds H K a hk ⟨es,h1,h2,h3⟩=>⟨es,h1,λh=>hk _ _ (h2 h),λh v=>hk _ _ (h3 h v)⟩
def clC:Spc:= .gen _ qoO
@[simp] theorem qCF(d:Nat)(es:List D)(H:ab)(K:D->ab->Prop):clC.pt d [.mp es] H K=((es=[]->K (.mp []) H)/\(es≠ []->∀v,K (.own d v) (ai H d (some (.mrow v es))))):=
 propext ⟨λ⟨es',h1,h2,h3⟩=>by cases h1;exact⟨h2,h3⟩,λ⟨h2,h3⟩=>⟨es,rfl,h2,h3⟩⟩
theorem qfz{P:Program}{ρ:Ren}{fc:Nat}(L:SlLaysW.n5 P ρ)(y:ρ.f 5=fc)(C:dc P fc):Tri dq P fc clC.pt:=by
 subst y;intro O tp w vs ds H d K hO q p hlen j E;obtain⟨es,rfl,h0,h1⟩:=E
 match vs,hlen,j with
 | [F],_,j=>
 refine⟨C,?_⟩;have I:=j 0 F _ rfl rfl;have t:StW ⟨O,tp,w,bA H,0, [],dq⟩ tp H w:=⟨hO,λ_ h=>h,λ_ h=> .inl h,⟨q.1,q.2⟩, .refl _ _ _,λ_ h=> .inl h,p⟩
 have fin:∀{H':ab} {w':World} {x:Value} {r:D},StW ⟨O,tp,w,bA H,0, [],dq⟩ tp H' w'->K r H'->R tp (aR O tp H' w') w' x r->qaU dq O tp H w K (.returned x) w':=λ{H' w' x r} h hk u=>
  ⟨x,r,H',tp,rfl,hk,λ_ h=>h,λ_ h=> .inl h,h.tpl.1,h.step,h.loc,h.sat,u⟩
 cases I with
 | nomp=>
   refine(AnyW.maps_Clone_nil L w).mono ?_;rintro e w' ⟨rfl,rfl⟩;exact fin t (h0 rfl) .nomp
 | mp b a clock _ hI hh hl hb h=>
   refine(AnyW.maps_Clone L b a clock w hh).mono ?_;rintro e w' ⟨rfl,rfl⟩;have l:(w.alloc (.map a clock)).heap[w.heap.size]? =some (.map a clock):=(MapKept.heap_alloc w _).1;by_cases he:es=[]
   ·subst he;obtain⟨s,move⟩:=t.grow (GrB.alloc w (.map a clock) none);refine fin s (h0 rfl) (.mp _ a clock [] ⟨?_,λh=>?_,λh=>?_,λh=>?_⟩ l hl hb λk e c _ hc=>by simp at hc)
    ·exact(qFS.1 l).1
    ·exact absurd (hO _ h) (qH7 _)
    ·exact absurd (q.1 _ h) (qH7 _)
    ·obtain⟨i,r,h1,h2⟩:=h;exact absurd ((p.ok i r h1).lt h2) (qH7 _)
   ·obtain⟨s,move⟩:=t.own d (some (.mrow (.map (some w.heap.size)) es)) (GrB.alloc w (.map a clock) none) (λb h=>by cases h)
     (λr b h1 h2=>by cases h1;cases h2;exact .inl (qFM _))
     (λmv r u=>by
       cases u;exact⟨_,a,clock,rfl,l,hb,hl,λk e c he hc=>mv _ _ (h k e c he hc)⟩)
    exact fin s (h1 he _) (.own _ _ rfl)
end
section
open Cod (enc dec)
def CR(tp I:Nat->Prop)(w:World)(f:Nat->Value)(cs:List D):Prop:=∀(k:Nat) (c:D),cs[k]? =some c->R tp I w (f k) c
def qmo{X:Type}[Cod X](x:X):Prop:=∀(tp I:Nat->Prop) (w:World) (f:Nat->Value) (y:X),CR tp I w f (enc x).cells->CR tp I w f (enc y).cells->x=y
def NH{tp I:Nat->Prop}{w:World}{v:Value}{a b:Int}(h1:R tp I w v (enc a))(h2:R tp I w v (enc b)):a=b:=by
 have d:v= .int .i64 a:=R.inv_v h1;have c:v= .int .i64 b:=R.inv_v h2;rw[d]at c;cases c;rfl
def qkT{tp I:Nat->Prop}{w:World}{v:Value}{a b:Bool}(h1:R tp I w v (enc a))(h2:R tp I w v (enc b)):a=b:=by
 have d:v= .bool a:=R.inv_v h1;have c:v= .bool b:=R.inv_v h2;rw[d]at c;cases c;rfl
def Fc{tp I:Nat->Prop}{w:World}{v:Value}{a b:B}(h1:R tp I w v (enc a))(h2:R tp I w v (enc b)):a=b:=by
 have d:v= .string a:=R.inv_v h1;have c:v= .string b:=R.inv_v h2;rw[d]at c;cases c;rfl
def R.inv_list{tp I:Nat->Prop}{w:World}{v:Value}{n:Nat}{es:List D}(h:R tp I w v (.list n es)):(es=[]/\∃a cap,v= .slice a 0 cap)\/
 (∃(b off cap:Nat) (f:Nat->Value),v= .slice (some ⟨b,off,none⟩) es.length cap/\(∀d∈es,d.cells.length=n)/\(∀(k:Nat) (c:D),(bp es)[k]? =some c->w.cell? ⟨b,off+k,none⟩=some (f k))/\∀(k:Nat) (c:D),(bp es)[k]? =some c->R tp I w (f k) c):=by
 generalize j:D.list n es=d at h;cases h<;>first|cases j;done|skip
 ·cases j;exact .inl ⟨rfl,_,_,rfl⟩
 ·rename_i b off cap l es' f hI hc hm hz hn hcell h1 h;cases j;exact .inr ⟨b,off,cap,f,rfl,λd j=>(hn d j).2,hcell,h⟩
theorem Z4{X:Type}[Cod X]{tp I:Nat->Prop}{w:World}{v:Value}{l l':List X}(S:0<Cod.wd X)(hl:∀x∈l,qmo x)(h1:R tp I w v (enc l))(h2:R tp I w v (enc l')):l=l':=by
 have h1:R tp I w v (.list (Cod.wd X) (l.map enc)):=h1;have h2:R tp I w v (.list (Cod.wd X) (l'.map enc)):=h2;have nil:∀{k:List X},k.map (enc (X:=X))=[]->k=[]:=λ{k} h=>by cases k with|nil=>rfl|cons a k=>simp at h
 rcases h1.inv_list with⟨F,a,cap,rfl⟩|⟨b,off,cap,f,rfl,hn,hcell,K⟩
 ·rcases h2.inv_list with⟨t,_⟩|⟨b',r,q,L,e,_⟩
  ·rw[nil F,nil t]
  ·injection e with _ e _;rw[nil F];have:l'.length=0:=by simpa using e.symm
   exact(qGt.1 this).symm
 ·rcases h2.inv_list with⟨t,a,q,e⟩|⟨b',r,q,L,e,u,p,y⟩
  ·injection e with _ e _;rw[nil t];have:l.length=0:=by simpa using e
   exact qGt.1 this
  ·injection e with A M _;injection A with A;injection A with N O _;subst N;subst O;have hlen:l.length=l'.length:=by simpa using M
   refine qHL hlen λi hi C=>?_
   refine hl l[i] (qG6 _) tp I w (λj=>f (i*Cod.wd X+j)) l'[i] (λj c s=>?_) (λj c s=>?_)
   ·have d:j<Cod.wd X:=by rw[<-Cod.wid l[i]];exact(qFG.1 s).1
    refine K _ c ?_;rw[dY hn d,qFU,qFH hi];exact s
   ·have d:j<Cod.wd X:=by rw[<-Cod.wid l'[i]];exact(qFG.1 s).1
    have J:(bp (l'.map (enc (X:=X))))[i*Cod.wd X+j]? =some c:=by
     rw[dY u d,qFU,qFH C];exact s
    have E:j<(enc l[i]).cells.length:=by rw[Cod.wid];exact d
    have Q:(bp (l.map (enc (X:=X))))[i*Cod.wd X+j]? =some (enc l[i]).cells[j]:=by
     rw[dY hn d,qFU,qFH hi];exact qFH E
    have c1:=hcell _ _ Q;have c2:=p _ _ J;rw[c1]at c2;have c3:=qFT c2;show R tp I w (f (i*Cod.wd X+j)) c;rw[c3];exact y _ c J
mutual
def Z5:∀c:Cond,qmo c
 | .mk op n a v l fo ks=>by
   have d:=Ty ks;rintro tp I w f ⟨h,x,y,v',l',j,b⟩ h1 h2;rw[P7]at h1 h2;have k:=NH (h1 0 _ rfl) (h2 0 _ rfl);have p:=Fc (h1 1 _ rfl) (h2 1 _ rfl);have q:=Fc (h1 2 _ rfl) (h2 2 _ rfl);have r:=Fc (h1 3 _ rfl) (h2 3 _ rfl);have s:=Fc (h1 4 _ rfl) (h2 4 _ rfl);have t:=qkT (h1 5 _ rfl) (h2 5 _ rfl);have u:=Z4 (l:=ks) (l':=b) (by decide) d (h1 6 _ rfl) (h2 6 _ rfl);rw[k,p,q,r,s,t,u]
def Ty:∀ks:List Cond,∀c∈ks,qmo c
 | [],c,h=>by cases h
 | k::ks,c,h=>by
   have a:=Z5 k;have b:=Ty ks;rcases qFP.1 h with rfl|h
   ·exact a
   ·exact b c h
end
def qkI(op:Int)(c:Cond)(l r:B)(mn mx:Int)(ks:List Pat):(enc (Pat.mk op c l r mn mx ks)).cells=enc op::((enc c).cells++ [enc l,enc r,enc mn,enc mx,enc ks]):=by
 obtain⟨b,n,a,v,cl,fo,d⟩:=c;simp
def qeA{tp I:Nat->Prop}{w:World}{f:Nat->Value}{a b c:List D}(h:CR tp I w f (a++ (b++c))):CR tp I w (λk=>f (a.length+k)) b:=λk d hk=>by
 refine h (a.length+k) d ?_;rw[qF9 (by omega),qHD,qGh (qFG.1 hk).1];exact hk
mutual
theorem qer:∀p:Pat,qmo p
 | .mk op c l r mn mx ks=>by
   have y:=Z3 ks;rintro tp I w f ⟨q,c',l',r',s,t,h⟩ h1 h2;rw[qkI]at h1 h2;have hc:c=c':=by
    refine Z5 c tp I w (λk=>f (1+k)) c' ?_ ?_
    ·exact qeA (a:=[enc op]) h1
    ·exact qeA (a:=[enc q]) h2
   subst hc;have x:(enc c).cells.length=7:=Cod.wid c;have b:∀(j:Nat) (d:D), [enc l,enc r,enc mn,enc mx,enc ks][j]? =some d->R tp I w (f (8+j)) d:=λj d u=>by
    refine h1 (8+j) d ?_;rw[show 8+j=(7+j) +1 by omega,qHk,qF9 (by omega),x,qHD];exact u
   have qo3:∀(j:Nat) (d:D), [enc l',enc r',enc s,enc t,enc h][j]? =some d->R tp I w (f (8+j)) d:=λj d u=>by
    refine h2 (8+j) d ?_;rw[show 8+j=(7+j) +1 by omega,qHk,qF9 (by omega),x,qHD];exact u
   have A:=NH (h1 0 _ rfl) (h2 0 _ rfl);have C:=Fc (b 0 _ rfl) (qo3 0 _ rfl);have E:=Fc (b 1 _ rfl) (qo3 1 _ rfl);have F:=NH (b 2 _ rfl) (qo3 2 _ rfl);have J:=NH (b 3 _ rfl) (qo3 3 _ rfl);have K:=Z4 (l:=ks) (l':=h) (by decide) y (b 4 _ rfl) (qo3 4 _ rfl);rw[A,C,E,F,J,K]
theorem Z3:∀ks:List Pat,∀c∈ks,qmo c
 | [],c,h=>by cases h
 | k::ks,c,h=>by
   have a:=qer k;have b:=Z3 ks;rcases qFP.1 h with rfl|h
   ·exact a
   ·exact b c h
end
def vQ(d:D)(p:Pat):Prop:=∃cs off,d= .cptr cs off/\off+13<=cs.length/\(cs.drop off).take 13=(enc p).cells
def Bn{cs:List D}{off:Nat}{p:Pat}(h1:off+13<=cs.length)(h2:(cs.drop off).take 13=(enc p).cells){j:Nat}(a:j< 13):cs[off+j]? =(enc p).cells[j]?:=by
 rw[<-h2,qF2,if_pos a,qGC]
def R.inv_cptr{tp I:Nat->Prop}{w:World}{v:Value}{cs:List D}{off:Nat}(h:R tp I w v (.cptr cs off)):∃(b base:Nat) (f:Nat->Value),v= .pointer (some ⟨b,base+off,none⟩)/\
 (∀(k:Nat) (c:D),cs[k]? =some c->w.cell? ⟨b,base+k,none⟩=some (f k))/\∀(k:Nat) (c:D),cs[k]? =some c->R tp I w (f k) c:=by
 generalize a:D.cptr cs off=d at h;cases h<;>first|cases a;done|skip
 rename_i b base cs' j f hI hz hcell h1 h;cases a;exact⟨b,base,f,rfl,hcell,h⟩
theorem qfT{d y:D}{p h:Pat}(h1:vQ d p)(h2:vQ y h){tp I:Nat->Prop}{w:World}{v:Value}(C:R tp I w v d)(E:R tp I w v y):p=h:=by
 obtain⟨cs,off,rfl,hl,hc⟩:=h1;obtain⟨cs',j,rfl,l,q⟩:=h2;obtain⟨b,base,f,rfl,F,J⟩:=C.inv_cptr;obtain⟨b',r,N,e,s,t⟩:=E.inv_cptr;injection e with e;injection e with e;injection e with K L _;subst K;have wp:(enc p).cells.length=13:=Cod.wid p;have u:(enc h).cells.length=13:=Cod.wid h;refine qer p tp I w (λk=>f (off+k)) h (λk c hk=>?_) (λk c hk=>?_)
 ·have a:k< 13:=by rw[<-wp];exact(qFG.1 hk).1
  exact J _ c (by rw[Bn hl hc a];exact hk)
 ·have a:k< 13:=by rw[<-u];exact(qFG.1 hk).1
  have A:cs'[j+k]? =some c:=by rw[Bn l q a];exact hk
  have x:off+k<cs.length:=by omega
  have M:cs[off+k]? =some cs[off+k]:=qFH x;have c1:=F _ _ M;have c2:=s _ _ A;rw[<-qHW]at c1 c2;rw[L,c2]at c1;have c3:=qFT c1;show R tp I w (f (off+k)) c;rw[<-c3];exact t _ c A
variable {dq:Prop}
section
variable {X Z:Type}
def qC9(A:dP X)(pre:D×X->Prop)(er:Z->D)(post:D×X->Z->Prop):PT:=λd ds H K=>∃id b cells a x,ds= .bptr id b 0::a/\A.dec a=some x/\H id=some (.box b cells)/\pre (.cptr cells 0,x)/\∀z,post (.cptr cells 0,x) z->K (er z) H
def qo0(A:dP X)(pre:D×X->Prop)(er:Z->D)(post:D×X->Z->Prop):nC (qC9 A pre er post):=λd ds H K c hk ⟨id,b,cells,a,x,h1,h2,h3,h4,h5⟩=>⟨id,b,cells,a,x,h1,h2,h3,h4,λz hz=>hk _ _ (h5 z hz)⟩
def qpV(A:dP X)(pre:D×X->Prop)(er:Z->D)(post:D×X->Z->Prop):Spc:= .gen _ (qo0 A pre er post)
def qpU(A:dP X)(pre:D×X->Prop)(er:Z->D)(post:D×X->Z->Prop)(b:Nat)(ds:List D)(r:Option Res)(H:ab)(K:D->ab->Prop):Prop:=match r with
 |some (.box b' cells)=>b'=b/\eL (A.dec ds) λx=>pre (.cptr cells 0,x)/\∀z,post (.cptr cells 0,x) z->K (er z) H
 | _=>False
@[congr] theorem qC8{A:dP X}{pre:D×X->Prop}{er:Z->D}{post:D×X->Z->Prop}{b:Nat}{ds a:List D}{r r':Option Res}{H:ab}{K:D->ab->Prop}(h1:ds=a)(h2:r=r'):qpU A pre er post b ds r H K=qpU A pre er post b a r' H K:=by subst h1;subst h2;rfl
@[simp] theorem qlz(A:dP X)(pre:D×X->Prop)(er:Z->D)(post:D×X->Z->Prop)(b b':Nat)(ds:List D)(cells:List D)(H:ab)(K:D->ab->Prop):qpU A pre er post b ds (some (.box b' cells)) H K=(b'=b/\eL (A.dec ds) λx=>pre (.cptr cells 0,x)/\∀z,post (.cptr cells 0,x) z->K (er z) H):=i' rfl
@[simp] theorem qlA(A:dP X)(pre:D×X->Prop)(er:Z->D)(post:D×X->Z->Prop)(d i b:Nat)(ds:List D)(H:ab)(K:D->ab->Prop):(qpV A pre er post).pt d (.bptr i b 0::ds) H K=qpU A pre er post b ds (H i) H K:=by
 refine propext ⟨λh=>?_,λh=>?_⟩
 ·obtain⟨id,b',cells,c,x,h1,h2,h3,h4,h5⟩:=h;cases h1;rw[h3,qlz,h2];exact⟨rfl,h4,h5⟩
 ·unfold qpU at h;split at h
  ·rename_i b' cells j;obtain⟨rfl,h⟩:=h;cases a:A.dec ds with
   |none=>rw[a]at h;exact h.elim
   |some x=>rw[a]at h;exact⟨i,b',cells,ds,x,rfl,a,j,h.1,h.2⟩
  ·exact h.elim
theorem LH{P:Program}{f:Nat}{A:dP X}{pre:D×X->Prop}{er:Z->D}{post:D×X->Z->Prop}(hf:Tri dq P f (aG (aD A) pre er post).pt)(t:∀z,qaV (er z)):Tri dq P f (qpV A pre er post).pt:=by
 intro O tp w vs ds H d K hO N a hlen l hA;obtain⟨id,p,cells,F,x,rfl,hd,hid,hp,hK⟩:=hA;cases vs with
 |nil=>simp at hlen
 | cons v0 vs=>
   have Q:v0= .pointer (some ⟨p,0,none⟩):=by
    have:=l 0 v0 (.bptr id p 0) rfl rfl;cases this;rfl
   subst Q
   let I:Nat->Prop:=λb=>O b\/ ∃i r,i≠id/\H i=some r/\r.blk=some b
   have J:∀b,aR O tp H w b->aR I tp bS w b:=λb hb=>⟨hb.1,λh=>h.elim hb.2.1 λ⟨i,r,_,h1,h2⟩=>hb.2.2.2 ⟨i,r,h1,h2⟩,hb.2.2.1,λ⟨i,r,h1,_⟩=>by simp at h1⟩
   have L:∀y e,R tp (aR O tp H w) w y e->R tp (aR I tp bS w) w y e:=λy e S=>S.mono (λ_ h=>h) (λb hb=>⟨J b hb,rfl⟩) (λb _=> .refl _ _)
   have hl:R tp (aR I tp bS w) w (.pointer (some ⟨p,0,none⟩)) (.cptr cells 0):=by
    have u:(Res.box p cells).blk=some p:=rfl;have h1:=a.out id _ p hid u;have hI:aR I tp bS w p:=⟨(a.ok id _ hid).lt u,λh=>h.elim h1.1 λ⟨i,r,U,h2,h3⟩=>U (a.dis _ _ _ _ p h2 hid h3 u),h1.2,λ⟨i,r,h2,_⟩=>by simp at h2⟩
    obtain⟨xs,el,g1,g2,g3⟩:=(a.ok id _ hid).conv L (λ_ _=>rfl);obtain⟨f,k1,k2,k3⟩:=tq g1 g2 g3;have:=R.cptr (tp:=tp) p 0 cells 0 f hI (λ_=>⟨_,_,g1⟩) k1 k2 k3;simpa using this
   have M:(aD A).dec (.cptr cells 0::F)=some (.cptr cells 0,x):=by simp[hd]
   obtain⟨W,hc⟩:=hf I tp w (.pointer (some ⟨p,0,none⟩)::vs) (.cptr cells 0::F) bS d (λr H'=>∃z,r=er z/\post (.cptr cells 0,x) z/\H'=bS)
    (λb hb=>hb.elim (hO b) λ⟨i,r,_,h1,h2⟩=>(a.ok i r h1).lt h2) (N.mono λb ⟨i,r,h,_⟩=>by simp at h) ⟨λi j r s b h=>by simp at h,λi r b h=>by simp at h,λi r h=>by simp at h⟩ (by simpa using hlen)
    (λk y e h1 h2=>by
      cases k with
      |zero=>simp at h1 h2;subst h1;subst h2;exact hl
      |succ k=>simp at h1 h2;exact L _ _ (l (k+1) y e (by simpa using h1) (by simpa using h2)))
    (by rw[mO,M];exact⟨hp,λz hz=>⟨z,rfl,hz,rfl⟩⟩)
   refine⟨W,hc.mono ?_⟩;rintro e w' ⟨q,r,H',C,rfl,⟨z,rfl,hz,rfl⟩,t1,Y,t3,hs,ho,hsat',hR⟩;have c:∀b,b<w.heap.size->¬tp b->w'.heap[b]? =w.heap[b]?:=λb hb ht=>hs.same b hb (λ⟨i,r,h,_⟩=>by simp at h) ht
   have E:∀y e,R tp (aR O tp H w) w y e->R C (aR O C H w') w' y e:=λy e S=>S.mono t1 (λb hb=>⟨⟨qFX hb.1 hs.size,hb.2.1,λh=>by
    rcases Y b h with h|h
    ·exact hb.2.2.1 h
    ·have:=hb.1;omega,hb.2.2.2⟩,c b hb.1 hb.2.2.1⟩) hs.tapes
   refine⟨q,er z,H,C,rfl,hK z hz,t1,Y,t3,⟨hs.os,hs.tape,hs.output,hs.size,λb hb _ ht=>c b hb ht,hs.tapes,hs.drawn⟩,λb h=> .inl h,⟨a.dis,λi r b h1 h2=>?_,λi r h1=>?_⟩,t z _ _ _ _ _ _ _ hR⟩
   ·have:=a.out i r b h1 h2;refine⟨this.1,λh=>?_⟩;rcases Y b h with h|h
    ·exact this.2 h
    ·have:=(a.ok i r h1).lt h2;omega
   ·exact(a.ok i r h1).conv E λb hb=>c b ((a.ok i r h1).lt hb) (a.out i r b h1 hb).2
end
end
end Go.Gv
