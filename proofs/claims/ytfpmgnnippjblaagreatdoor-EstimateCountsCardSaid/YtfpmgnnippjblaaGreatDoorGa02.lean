/- S1 -/
import Derived.Laws.BytesString
import Derived.Test.YtfpmgnnippjblaaGreatDoorGa01
set_option linter.all false
namespace Go.Gv
def Good(P:Program)(o:Oper)(a:Act)(tp I:Nat->Prop)(w:World)(K:D->Prop):Prop:=
 ∃x d,(execOp a.eval o).run P w= .ok (.value x) w/\R tp I w x d/\K d
section
variable {P:Program}{o:Oper}{a:Act}{tp I:Nat->Prop}{w:World}{σ:Sg}{K:D->Prop}
theorem R.inv_v{x y:Value}(h:R tp I w x (.v y)):x=y:=by cases h;rfl
def R.inv_agg{x:Value}{cs:List D}(h:R tp I w x (.agg cs)):∃xs:List Value,x= .agg xs.toArray/\xs.length=cs.length/\aN (R tp I w) xs cs:=by
 cases h with
 |agg xs cs hl h1 h=>exact⟨xs,rfl,hl,λk y c b hc=>⟨h1 y (qBf b),h k y c b hc⟩⟩
def R.int(k:IntKind)(n:Int):R tp I w (.int k n) (.v (.int k n)):= .v _ rfl (λs h=>by cases h)
def R.bool(b:Bool):R tp I w (.bool b) (.v (.bool b)):= .v _ rfl (λs h=>by cases h)
def R.str(s:ByteArray)(h:s.size<=maxLen):R tp I w (.string s) (.v (.string s)):= .v _ rfl (λb c=>by grind)
def R.inv_str{x:Value}{s:ByteArray}(h:R tp I w x (.v (.string s))):x= .string s/\s.size<=maxLen:=by
 cases h<;>grind
def qlR(x:Value)(h:∀s,x= .string s->s.size<=maxLen):R tp I w x (qd x):=by
 cases x<;>first|exact .any _|exact .v _ rfl h
theorem ZX(b:∀t,R tp I w (a.tmps.getD t undef) (σ t))(x:Operand)(d:zQ x=true):R tp I w (a.eval x) (ev σ x):=by
 cases x with
 |tmp t=>exact b t
 | const x=>
   refine qlR x (λs hs=>?_);subst hs;have:s.size<=1000000:=by grind [zQ]
   grind [maxLen]
 |global g=>exact .v _ rfl (λs h=>by cases h)
 |func f=>exact .clo f [] [] rfl (λk x c h=>by simp)
def qbx{x:Operand}(ho:o.op= .move x\/o.op= .assign x)(b:R tp I w (a.eval x) (ev σ x))(c:K (ev σ x)):Good P o a tp I w K:=by
 refine⟨a.eval x,ev σ x,?_,b,c⟩;rcases ho with ho|ho<;>simp[execOp,ho]
def qdp{c x y:Operand}(ho:o.op= .pick c x y)(hc:R tp I w (a.eval c) (ev σ c))(d:R tp I w (a.eval x) (ev σ x))(h:R tp I w (a.eval y) (ev σ y)){H:ab}
 (b:aj (.pick c x y) σ H K):Good P o a tp I w K:=by
 simp only[aj]at b;split at b
 ·rename_i t j;rw[j]at hc;have:=hc.inv_v;cases t
  ·exact⟨a.eval y,ev σ y,by simp_all [execOp,asBool],h,b.2 rfl⟩
  ·exact⟨a.eval x,ev σ x,by simp_all [execOp,asBool],d,b.1 rfl⟩
 grind
def ZG{x:Operand}(ho:o.op= .nilCheck x)(b:R tp I w (a.eval x) (ev σ x)){H:ab}(c:aj (.nilck x) σ H K):Good P o a tp I w K:=by
 simp only[aj]at c;generalize d:a.eval x=q at b;split at c<;>first|exact c.elim|skip
 all_goals
  rename_i e;rw[e]at b;refine⟨q,_,?_,b,c⟩;cases b<;>simp[execOp,ho,d]
theorem il{op:BinOp}{t u:TypeId}{x y:Operand}(ho:o.op= .binOp op t x y u)(c:op= .add\/op= .sub\/op= .mul\/op= .quo\/op= .rem\/op= .and\/op= .or\/op= .shl\/op= .shr)
 (h:R tp I w (a.eval x) (ev σ x)) (j:R tp I w (a.eval y) (ev σ y)) {H:ab} (b:aj (.arith op x y) σ H K):Good P o a tp I w K:=by
 simp only[aj]at b;split at b
 ·rename_i k p l q r s;rw[r]at h;rw[s]at j;have h1:=h.inv_v;have h2:=j.inv_v;obtain⟨hk,b⟩:=b;rcases c with rfl|rfl|rfl|rfl|rfl|rfl|rfl|rfl|rfl<;>simp only[gu]at b<;>first|(have d:k=l:=hk;subst d)|skip
  ·exact⟨_,_,by simp[execOp,ho,h1,h2,eqGuard,binOp,Op.intArith,b.1.wrap], .int _ _,b.2⟩
  ·exact⟨_,_,by simp[execOp,ho,h1,h2,eqGuard,binOp,Op.intArith,b.1.wrap], .int _ _,b.2⟩
  ·exact⟨_,_,by simp[execOp,ho,h1,h2,eqGuard,binOp,Op.intArith,b.1.wrap], .int _ _,b.2⟩
  ·exact⟨_,_,by simp[execOp,ho,h1,h2,eqGuard,binOp,Op.intDiv,b.1,b.2.1.wrap], .int _ _,b.2.2⟩
  ·exact⟨_,_,by simp_all [execOp,eqGuard,binOp,Op.intDiv], .int _ _,b.2⟩
  ·exact⟨_,_,by simp_all [execOp,eqGuard,binOp,Op.intBits,Yf], .int _ _,b⟩
  ·exact⟨_,_,by simp_all [execOp,eqGuard,binOp,Op.intBits,qoT], .int _ _,b⟩
  ·exact⟨_,_,by simp[execOp,ho,h1,h2,eqGuard,binOp,Op.shift,RN,show ¬q< 0 by omega], .int _ _,b.2⟩
  ·exact⟨_,_,by simp[execOp,ho,h1,h2,eqGuard,binOp,Op.shift,qcE,show ¬q< 0 by omega], .int _ _,b.2⟩
 grind
theorem WW{op:BinOp}{t u:TypeId}{x y:Operand}(ho:o.op= .binOp op t x y u)
 (c:R tp I w (a.eval x) (ev σ x)) (d:R tp I w (a.eval y) (ev σ y)) {H:ab} (b:aj (.cmp op x y) σ H K):Good P o a tp I w K:=by
 simp only[aj]at b;split at b
 ·rename_i k p l q h j;rw[h]at c;rw[j]at d;have h1:=c.inv_v;have h2:=d.inv_v;obtain⟨rfl,b⟩:=b;cases op<;>simp only[TH]at b<;>first
   |exact b.elim
   |exact⟨_,_,by simp_all [execOp,eqGuard,binOp,Op.intCmp], .bool _,b⟩
 ·rename_i p q h j;rw[h]at c;rw[j]at d;have h1:=c.inv_v;have h2:=d.inv_v;cases op<;>simp only[XJ]at b<;>first
   |exact b.elim
   |exact⟨_,_,by simp_all [execOp,eqGuard,binOp,Op.stringOp], .bool _,b⟩
 grind
def qdn{t u:TypeId}{x y:Operand}(ho:o.op= .binOp .add t x y u)
 (c:R tp I w (a.eval x) (ev σ x)) (d:R tp I w (a.eval y) (ev σ y)) {H:ab} (b:aj (.scat x y) σ H K):Good P o a tp I w K:=by
 simp only[aj]at b;split at b
 ·rename_i p q h j;rw[h]at c;rw[j]at d;have h1:=c.inv_v;have h2:=d.inv_v;obtain⟨hb,b⟩:=b;have hn:¬((p.size:Int) +q.size > 9223372036854775807):=by omega
  refine⟨.string (p++q),_,?_, .str _ (by grind [maxLen]),b⟩;have:¬(9223372036854775807<(p.size:Int) +q.size):=by omega
  simp_all [execOp,eqGuard,binOp,Op.stringOp]
 grind
def qgr{t:TypeId}{x:Operand}(ho:o.op= .unOp .not t x)(d:R tp I w (a.eval x) (ev σ x)){H:ab}(c:aj (.not x) σ H K):Good P o a tp I w K:=by
 simp only[aj]at c;split at c
 ·rename_i b h;rw[h]at d;have h1:=d.inv_v;exact⟨_,_,by simp_all [execOp,Op.unary], .bool _,c⟩
 grind
def qgs{t:TypeId}{x:Operand}(ho:o.op= .unOp .neg t x)(c:R tp I w (a.eval x) (ev σ x)){H:ab}(b:aj (.neg x) σ H K):Good P o a tp I w K:=by
 simp only[aj]at b;split at b
 ·rename_i k n d;rw[d]at c;have h1:=c.inv_v;have h2:=b.1.wrap;exact⟨.int k (0 -n),_,by simp_all [execOp,Op.unary,Op.intArith], .int _ _,b.2⟩
 grind
def qdt{s t:TypeId}{k d:IntKind}{x:Operand}(ho:o.op= .convert s t x)(hs:P.underlying s=some (.int d))(j:P.underlying t=some (.int k))
 (c:R tp I w (a.eval x) (ev σ x)) {H:ab} (b:aj (.conv k x) σ H K):Good P o a tp I w K:=by
 simp only[aj]at b;split at b
 ·rename_i l n h;rw[h]at c;have h1:=c.inv_v;exact⟨.int k (k.wrap n),_,by simp_all [execOp,convert,Conv.intToInt,run_underlying], .int _ _,b⟩
 grind
def qlu:∀{cs:List D} {xs b:List Value},qtz cs=some xs->b.length=cs.length->(∀(k:Nat) (x:Value) (c:D),b[k]? =some x->cs[k]? =some c->R tp I w x c)->b=xs
 | [],xs,b,h,hl,d=>by
   cases h<;>grind
 |c::cs,xs, [],h,hl,d=>by grind
 | c::cs,xs,y::b,h,hl,d=>by
   cases c<;>simp only[qtz]at h<;>try (cases h;done)
   rename_i v;obtain⟨j,h1,rfl⟩:=qBk.1 h;have h0:=(d 0 y (.v v) rfl rfl).inv_v;rw[h0,qlu h1 (by grind) λk x c l hc=>d (k+1) x c l hc]
def qdr{t:TypeId}{x:Operand}{fs:Array Field}(ho:o.op= .makeInterface t x)(l:P.underlying t=some (.struct fs))(c:R tp I w (a.eval x) (ev σ x)){H:ab}(b:aj (.mkif t x) σ H K):Good P o a tp I w K:=by
 simp only[aj]at b;split at b
 ·rename_i cs j;rw[j]at c;split at b
  ·rename_i xs d;generalize p:a.eval x=q at c;cases c with
   | agg k _ hl h1 h=>
     have:=qlu d hl h;subst this;refine⟨.iface t (.agg k.toArray),_,?_, .v _ rfl (λs hs=>by grind),b⟩;simp_all [execOp,Instr.makeInterface,run_underlying]
  grind
 grind
def qgw{f:Nat}{first caps:Array Operand}(ho:o.op= .makeFunc (.func f) first caps)(h:first.isEmpty=true)(c:∀x∈caps.toList,R tp I w (a.eval x) (ev σ x)){H:ab}(b:aj (.clo f caps.toList) σ H K):Good P o a tp I w K:=by
 simp only[aj]at b;have d:first= #[]:=by grind
 obtain⟨caps⟩:=caps;simp only at b c;refine⟨.func (.func f) #[] (caps.map a.eval).toArray,_,by simp_all [execOp,Instr.makeFunc], .clo f _ _ (by simp) ?_,b⟩;grind
def qgv{x:Operand}{i:Nat}(ho:o.op= .extract x i)(c:R tp I w (a.eval x) (ev σ x)){H:ab}(b:aj (.ext x i) σ H K):Good P o a tp I w K:=by
 simp only[aj]at b;split at b
 ·rename_i ds j;split at b
  ·rename_i d k;rw[j]at c;generalize l:a.eval x=q at c;cases c with
   | tup xs ds hl h=>
     have hi:i<xs.length:=by grind
     refine⟨xs[i],d,by simp[execOp,ho,l,Instr.extract,hi],h i _ d (by simp) k,b⟩
  grind
 grind
end
section
variable {P:Program}{o:Oper}{a:Act}{tp I:Nat->Prop}{w:World}{σ:Sg}{K:D->Prop}
def sY{t:TypeId}{b:Bool}(h:gj P t=some b)(w:World):(isAgg t).run P w= .ok b w:=by
 unfold gj at h;cases c:P.underlying t with
 |none=>grind
 | some d=>
   rw[c]at h;unfold isAgg;rw[qBy,run_underlying c w];cases d<;>simp at h<;>subst h<;>simp
def aQ{t:TypeId}{n:Nat}(h:cj P t=some n)(w:World):(sizeOf t).run P w= .ok n w:=by
 unfold cj at h;cases b:P.info? t<;>simp_all [sizeOf,typeInfo]
theorem kA(b o n:Nat):(⟨b,o,none⟩:Addr).add n=⟨b,o+n,none⟩:=Addr.add_lit b o n
theorem qga{t:TypeId}{agg:Bool}{sz:Nat}(r:gj P t=some agg)(hs:cj P t=some sz)(h1:(agg||sz=1)=true){cs:List D}{off b base:Nat}{f:Nat->Value}(hlen:off+sz<=cs.length)
 (hcell:∀(k:Nat) (c:D),cs[k]? =some c->w.cell? ⟨b,base+k,none⟩=some (f k))
 (l:∀(k:Nat) (c:D),cs[k]? =some c->(f k).oneCell'=true)
 (h:∀(k:Nat) (c:D),cs[k]? =some c->R tp I w (f k) c):
 ∃x,(loadVar t ⟨b,base+off,none⟩).run P w= .ok x w/\R tp I w x (KQ agg sz cs off):=by
 have at_:∀j,j<sz->∃c,cs[off+j]? =some c:=λj p=>⟨cs[off+j]'(by omega),qBe (by omega)⟩
 have hl:(loadCells ⟨b,base+off,none⟩ sz).run P w= .ok ((List.range sz).map λj=>f (off+j)).toArray w:=
  run_loadCells w _ sz _ (λj p=>by
   grind [gj,cj,kA])
 cases agg with
 | true=>
   refine⟨.agg ((List.range sz).map λj=>f (off+j)).toArray,by simp_all [loadVar,sY,aQ],?_⟩;simp only[KQ,if_true];refine .agg _ _ (by grind) (λx q=>?_) (λk x c q hc=>?_);grind;grind
 | false=>
   have d:sz=1:=by grind
   subst d;obtain⟨c,hc⟩:=at_ 0 (by omega);simp_all [loadVar,sY,KQ]
def xL{xs:Array Value}{cells:List D}{b el:Nat}(j:w.heap[b]? =some (.cells xs el (0,0)))(hl:xs.size=cells.length)(hc:aN (R tp I w) xs.toList cells):
 ∃f:Nat->Value,(∀(k:Nat) (c:D),cells[k]? =some c->w.cell? ⟨b,0+k,none⟩=some (f k))/\(∀(k:Nat) (c:D),cells[k]? =some c->(f k).oneCell'=true)/\(∀(k:Nat) (c:D),cells[k]? =some c->R tp I w (f k) c):=by
 refine⟨λk=>xs.getD k undef,λk c hk=>?_,λk c hk=>?_,λk c hk=>?_⟩
 all_goals
  have h:k<xs.size:=by grind
  have l:xs[k]? =some xs[k]:=by simp
  have d:xs.getD k undef=xs[k]:=by simp[Array.getD,h]
 ·dsimp only;rw[Nat.zero_add,cell_of_row w b k xs el (0,0) j,l,d]
 grind [aN]
 ·dsimp only;rw[d];exact(hc k _ c (by simp) hk).2
theorem qcJ{xs:List Value}{x:Value}{el n:Nat}{es:List D}(ho:w.ownsRow 0 el n x es.length xs)(hn:∀d∈es,d.kn=true/\d.cells.length=n)(hc:aN (R tp I w) xs (bk es))
 {i:Nat} {d:D} (hi:es[i]? =some d) {b:Nat} (hb:x.ownBlock=some b):
 ∃f:Nat->Value,(∀(k:Nat) (c:D),d.cells[k]? =some c->w.cell? ⟨b,i*n+k,none⟩=some (f k))/\(∀(k:Nat) (c:D),d.cells[k]? =some c->(f k).oneCell'=true)/\(∀(k:Nat) (c:D),d.cells[k]? =some c->R tp I w (f k) c):=by
 have q:d.cells.length=n:=(hn d (qBf hi)).2;have j:=aR (es:=es) (λd r=>(hn d r).2);have s:i<es.length:=(qBc.1 hi).1;have key:∀(k:Nat) (c:D),d.cells[k]? =some c->∃y,xs[i*n+k]? =some y/\(bk es)[i*n+k]? =some c:=by
  intro k c hk;have t:k<n:=by grind
  have l:(bk es)[i*n+k]? =some c:=by grind [gG]
  have u:i*n+k<xs.length:=by
   have:=(qBc.1 l).1;rw[ho.1,<-j];omega
  simp_all
 refine⟨λk=>xs.getD (i*n+k) undef,λk c hk=>?_,λk c hk=>?_,λk c hk=>?_⟩
 all_goals
  obtain⟨y,p,l⟩:=key k c hk;have h:xs.getD (i*n+k) undef=y:=by grind
 ·dsimp only;rw[h];have:=ho.cells hb _ _ p;simp_all [kA]
 grind [aN]
 ·dsimp only;rw[h];exact(hc _ _ c p l).2
theorem Qy{t:TypeId}{agg:Bool}{sz:Nat}{x:Operand}(ho:o.op= .load t x)(O:gj P t=some agg)(hs:cj P t=some sz)(h1:(agg||sz=1)=true)(l:R tp I w (a.eval x) (ev σ x)){H Hr:ab}
 (p:∀i r,Hr i=some r->H i=some r) (d:∀i r,H i=some r->ResOk (R tp I w) w r) (j:aj (.load agg sz x) σ Hr K):Good P o a tp I w K:=by
 simp only[aj]at j;generalize W:a.eval x=q at l;have wK:∀(b base off:Nat) (cs:List D) (f:Nat->Value),q= .pointer (some ⟨b,base+off,none⟩)->off+sz<=cs.length->(∀(k:Nat) (c:D),cs[k]? =some c->w.cell? ⟨b,base+k,none⟩=some (f k))->
  (∀(k:Nat) (c:D),cs[k]? =some c->(f k).oneCell'=true)->(∀(k:Nat) (c:D),cs[k]? =some c->R tp I w (f k) c)->K (KQ agg sz cs off)->Good P o a tp I w K:=by
  intro b base off cs f Q hlen s u A hk;obtain⟨y,Y,S⟩:=qga (P:=P) O hs h1 hlen s u A;exact⟨y,_,by simp_all [execOp,Instr.loadAt,Instr.sureAddr],S,hk⟩
 split at j
 ·rename_i cs off C;rw[C]at l;cases l with
  |cptr b base _ _ f hI hz hcell E h=>exact wK b base off cs f rfl j.1 hcell E h j.2
 ·rename_i id b off C;rw[C]at l;cases l;split at j
  ·rename_i b' cells F;obtain⟨rfl,hlen,hk⟩:=j;obtain⟨xs,el,J,L,M⟩:=d _ _ (p _ _ F);obtain⟨f,s,u,A⟩:=xL J L M;exact wK b' 0 off cells f (by simp) hlen s u A hk
  grind
 ·rename_i id y n i off C;rw[C]at l;cases l with
  | eptr _ b len cap _ _ _=>
    split at j
    ·rename_i Z el U es F;obtain⟨rfl,rfl,hlen,hi,hk⟩:=j;obtain⟨xs,J,L,M⟩:=d _ _ (p _ _ F);have N:es[i]? =some es[i]:=by simp
     obtain⟨f,s,u,A⟩:=qcJ J L M N (b:=b) rfl;exact wK b (i*U) off es[i].cells f rfl (by grind) s u A (hk _ N)
    grind
 grind
theorem qgu{t:TypeId}{fs:Array Field}{fi:Nat}{fd:Field}{agg:Bool}{sz:Nat}{x:Operand}(ho:o.op= .field t x fi)(u:P.underlying t=some (.struct fs))(A:fs[fi]? =some fd)
 (C:gj P fd.type=some agg) (hs:cj P fd.type=some sz) (h1:(agg||sz=1)=true) (r:R tp I w (a.eval x) (ev σ x)) {H:ab} (j:aj (.fld agg sz fd.offset x) σ H K):Good P o a tp I w K:=by
 simp only[aj]at j;split at j
 ·rename_i cs E;rw[E]at r;obtain⟨xs,F,hl,hc⟩:=r.inv_agg;obtain⟨hlen,hk⟩:=j;cases agg with
  | true=>
    refine⟨.agg ((xs.drop fd.offset).take sz).toArray,_,?_,?_,hk⟩
    ·simp only[execOp,ho,F,Instr.field,asAgg,qBy,run_underlying u,qBp,A,part,sY C,aQ hs,qBG,if_true];simp
    ·simp only[KQ,if_true];refine .agg _ _ (by grind) (λy h=>?_) (λk y c h d=>?_)
     ·have l:=qBT (qBx h);obtain⟨k,p⟩:=qBA.1 l;have b:k<cs.length:=by grind
      exact(hc k y _ p (qBe b)).1
     ·rw[qBv]at h d;split at h
      ·rename_i b;rw[if_pos b]at d;rw[qCb]at h d;exact(hc _ y c h d).2
      grind
  | false=>
    have q:sz=1:=by grind
    subst q;have b:fd.offset<cs.length:=by omega
    have s:fd.offset<xs.length:=by omega
    refine⟨xs[fd.offset],_,?_,?_,hk⟩;simp_all [execOp,Instr.field,asAgg,part,run_underlying,sY]
    ·simp only[KQ,qB1,if_false,qBe b,qBP];exact(hc fd.offset _ _ (by simp) (by simp)).2
 grind
theorem tN{d:Nat}{x:Operand}(run:∀b off,a.eval x= .pointer (some ⟨b,off,none⟩)->(execOp a.eval o).run P w= .ok (.value (.pointer (some ⟨b,off+d,none⟩))) w)
 (c:R tp I w (a.eval x) (ev σ x)) {H:ab} (j:aj (.faddr d x) σ H K):Good P o a tp I w K:=by
 simp only[aj]at j;generalize p:a.eval x=q at c run;split at j
 ·rename_i cs off k;rw[k]at c;cases c with
  | cptr b base _ _ f hI hz hcell l h=>
    refine⟨_,_,run _ _ rfl,?_,j⟩;rw[qDf];exact .cptr b base cs _ f hI hz hcell l h
 ·rename_i id b off k;rw[k]at c;cases c;exact⟨_,_,run _ _ rfl, .bptr _ _ _,j⟩
 ·rename_i id y n i off k;rw[k]at c;cases c with
  | eptr _ b len cap _ _ _=>
    refine⟨_,_,run _ _ rfl,?_,j⟩;rw[qDf];exact .eptr id b len cap n i _
 grind
def ZI{t:TypeId}{fs:Array Field}{fi:Nat}{fd:Field}{sz:Nat}{x:Operand}(ho:o.op= .fieldAddr t x fi)(j:P.underlying t=some (.struct fs))(k:fs[fi]? =some fd)
 (hs:cj P fd.type=some sz) (h0:0<sz) (c:R tp I w (a.eval x) (ev σ x)) {H:ab} (d:aj (.faddr fd.offset x) σ H K):Good P o a tp I w K:=by
 have h:sz≠0:=by omega
 refine tN (λb off hb=>?_) c d;simp_all [execOp,Instr.fieldAt,Instr.sureAddr,fieldPlace,kA,run_underlying,aQ]
def ZL{t el:TypeId}{len sz:Nat}{k:Int}{x:Operand}(ho:o.op= .indexAddr t x (.const (.int .i64 k)))(c:P.underlying t=some (.array len el))(hs:cj P el=some sz)(h0:0<=k/\k<len)
 (d:R tp I w (a.eval x) (ev σ x)) {H:ab} (h:aj (.faddr (k.toNat*sz) x) σ H K):Good P o a tp I w K:=by
 refine tN (λb off hb=>?_) d h;have hc:a.eval (.const (.int .i64 k))= .int .i64 k:=rfl;simp[execOp,ho,hc,hb,Instr.indexAt,asIntOf,run_underlying c,Instr.sureAddr,h0.1,h0.2,aQ hs,kA]
theorem ZH{t el:TypeId}{n:Nat}{x i:Operand}(ho:o.op= .indexAddr t x i)(O:P.underlying t=some (.slice el))(hs:cj P el=some n)
 (s:R tp I w (a.eval x) (ev σ x)) (hi:R tp I w (a.eval i) (ev σ i)) {H Hr:ab} (L:∀i r,Hr i=some r->H i=some r) (A:∀i r,H i=some r->ResOk (R tp I w) w r)
 (u:aj (.iaddr n x i) σ Hr K):Good P o a tp I w K:=by
 simp only[aj]at u;generalize Q:a.eval x=q at s;split at u
 ·rename_i kk k S;rw[S]at hi;have M:=hi.inv_v;have run:∀b off len cap,q= .slice (some ⟨b,off,none⟩) len cap->0<=k->k<len->(execOp a.eval o).run P w= .ok (.value (.pointer (some ⟨b,off+k.toNat*n,none⟩))) w:=by
   intro b off len cap hb h0 h1;simp[execOp,ho,Q,M,hb,Instr.indexAt,asIntOf,run_underlying O,h0,h1,aQ hs,kA]
  split at u
  ·rename_i d es C;rw[C]at s;obtain⟨rfl,h0,h1,hk⟩:=u;cases s with
   |nolist=>grind
   | list b off cap _ _ f hI hc hm hz hn hcell l h=>
     have E:k.toNat<es.length:=by omega
     have U:es[k.toNat]? =some es[k.toNat]:=by simp
     refine⟨_,_,run b off _ cap rfl h0 h1,?_,hk _ U⟩;have F:∀(j:Nat) (c:D),es[k.toNat].cells[j]? =some c->(bk es)[k.toNat*d+j]? =some c:=λj c J=>by
      grind [ResOk,gG]
     exact .cptr b (off+k.toNat*d) es[k.toNat].cells 0 (λj=>f (k.toNat*d+j)) hI (by grind) (λj c J=>by grind) (λj c J=>l _ c (F j c J)) (λj c J=>h _ c (F j c J))
  ·rename_i id y C;rw[C]at s;cases s with
   | own _ _ l=>
     split at u
     ·rename_i x' W d es Y;obtain⟨rfl,rfl,h0,h1,hk⟩:=u;obtain⟨xs,⟨Z,N⟩,g3⟩:=A _ _ (L _ _ Y);rcases N with⟨_,h4⟩|⟨g,cap,cur,rfl,_⟩
      omega
      ·refine⟨_,_,run g 0 _ cap rfl h0 h1,?_,hk⟩;rw[qBV,<-qCC (k.toNat*d)];exact .eptr id g _ cap d k.toNat 0
     grind
  ·rename_i id y d lo hi C;rw[C]at s;obtain⟨rfl,h0,h1,hk⟩:=u;cases s with
   |subnil=>omega
   | sub _ b len cap _ _ _ p Z N g3 hm hp=>
     have E:lo<cap:=by omega
     have:=hp (.inl E);subst this;refine⟨_,_,run b (lo*d) _ _ rfl h0 h1,?_,hk⟩;rw[<-qCA,<-qCC ((lo+k.toNat) *d)];exact .eptr id b len cap d (lo+k.toNat) 0
  grind
 grind
theorem qdm{t:TypeId}{x i:Operand}(ho:o.op= .index t x i)(y:P.underlying t=some .string)
 (h:R tp I w (a.eval x) (ev σ x)) (hi:R tp I w (a.eval i) (ev σ i)) {H:ab} (d:aj (.sidx x i) σ H K):Good P o a tp I w K:=by
 simp only[aj]at d;split at d
 ·rename_i A k l;rw[l]at hi;have p:=hi.inv_v;split at d
  ·rename_i s q;rw[q]at h;have r:=h.inv_v;obtain⟨h0,h1,hk⟩:=d;have b:k.toNat<s.size:=by omega
   have j:k.toNat<s.data.size:=b;have c:s.data[k.toNat]? =some s.data[k.toNat]:=by simp
   refine⟨.int .u8 (s.data[k.toNat]).toNat,_,?_, .int _ _,hk _ c⟩;have u:s[k.toNat]? =some (s.data[k.toNat]):=by
    rw[getElem?_pos s k.toNat b];rfl
   simp_all [execOp,Instr.index,asIntOf,run_underlying]
  grind
 grind
theorem qgt{t e:TypeId}{c:Call}{x:Operand}(ho:o.op= .call c)(hc:c.callee= .builtin .len)(s:c.argTypes.toList=[t])(d:c.args.toList=[x])(J:P.underlying t=some (.slice e))
 (j:R tp I w (a.eval x) (ev σ x)) {H Hr:ab} (E:∀i r,Hr i=some r->H i=some r) (u:∀i r,H i=some r->ResOk (R tp I w) w r)
 (k:aj (.len x) σ Hr K):Good P o a tp I w K:=by
 obtain⟨cl,⟨args⟩,⟨L⟩⟩:=c;simp only at s d hc;subst s;subst d;subst hc;simp only[aj]at k;generalize M:a.eval x=q at j;have run:∀b n cap,q= .slice b n cap->(execOp a.eval o).run P w= .ok (.value (.int .i64 n)) w:=by
  intro b n cap hb;simp[execOp,ho,resolve,invoke,builtin,M,hb,Builtin.len_,run_underlying J,goInt]
 split at k
 ·rename_i n es l;rw[l]at j;cases j with
  |nolist b cap _=>exact⟨_,_,run b 0 cap rfl, .int _ _,by grind⟩
  |list b off cap _ _ f hI A hm hz hn hcell C h=>exact⟨_,_,run _ _ _ rfl, .int _ _,k (by grind [ResOk,D,ev,PlainB,maxLen])⟩
 ·rename_i id y l;rw[l]at j;cases j with
  | own _ _ C=>
    split at k
    ·rename_i U el N es O;obtain⟨rfl,hk⟩:=k;obtain⟨xs,⟨Q,F⟩,S⟩:=u _ _ (E _ _ O);rcases F with⟨rfl,h4⟩|⟨g,cap,cur,rfl,_,_,A,hm,_⟩
     ·have:es=[]:=qBs h4;subst this;exact⟨_,_,run _ 0 _ rfl, .int _ _,by grind⟩
     ·exact⟨_,_,run _ _ _ rfl, .int _ _,hk (by grind [maxLen])⟩
    grind
 ·rename_i l;rw[l]at j;have:=j.inv_v;exact⟨_,_,run _ _ _ this, .int _ _,k⟩
 ·rename_i id y N lo hi l;rw[l]at j;cases j with
  |subnil=>exact⟨_,_,run _ 0 _ rfl, .int _ _,by grind⟩
  |sub _ b len cap _ _ _ p Q F S hm hp=>exact⟨_,_,run _ _ _ rfl, .int _ _,k (by grind [maxLen])⟩
 grind
def qgx{t e:TypeId}{c:Call}{x:Operand}(ho:o.op= .call c)(hc:c.callee= .builtin .cap)(d:c.argTypes.toList=[t])(b:c.args.toList=[x])(k:P.underlying t=some (.slice e))
 (j:R tp I w (a.eval x) (ev σ x)) {Hr:ab} (h:aj (.cap x) σ Hr K):Good P o a tp I w K:=by
 obtain⟨cl,⟨args⟩,⟨l⟩⟩:=c;simp only at d b hc;subst d;subst b;subst hc;simp only[aj]at h;split at h
 ·rename_i p;rw[p]at j;have:=j.inv_v;refine⟨.int .i64 0,_,?_, .int _ _,h⟩;simp[execOp,ho,resolve,invoke,builtin,this,Builtin.cap_,run_underlying k,goInt]
 grind
def qdl{t:TypeId}{c:Call}{x:Operand}(ho:o.op= .call c)(hc:c.callee= .builtin .len)(d:c.argTypes.toList=[t])(b:c.args.toList=[x])(k:P.underlying t=some .string)
 (j:R tp I w (a.eval x) (ev σ x)) {H:ab} (h:aj (.slen x) σ H K):Good P o a tp I w K:=by
 obtain⟨cl,⟨args⟩,⟨l⟩⟩:=c;simp only at d b hc;subst d;subst b;subst hc;simp only[aj]at h;split at h
 ·rename_i s p;rw[p]at j;obtain⟨h1,h2⟩:=j.inv_str;refine⟨.int .i64 s.size,_,?_, .int _ _,h (by grind [maxLen])⟩;simp[execOp,ho,resolve,invoke,builtin,h1,Builtin.len_,run_underlying k,goInt]
 grind
theorem qcK{xs:List Value}{es:List D}(hl:xs.length=es.length)(hb:qlS es=true)(h:∀(k:Nat) (y:Value) (c:D),xs[k]? =some y->es[k]? =some c->R tp I w y c):
 ∃b:List Int,xs=b.map (Value.int .u8)/\b.map (λn=>UInt8.ofNat n.toNat)=es.map λd=>(qaa d).getD 0:=by
 induction xs generalizing es with
 | nil=>
   have:es=[]:=qBs (by grind);simp_all
 | cons x xs l=>
   cases es with
   |nil=>grind
   | cons d es=>
     simp only[qlS,qCJ,qBh]at hb;obtain⟨b,h1,h2⟩:=l (es:=es) (by grind) hb.2 (λk y c q hc=>h (k+1) y c (by grind) (by grind));have p:=h 0 x d rfl rfl;cases j:qaa d with
     |none=>grind
     | some c=>
       unfold qaa at j;split at j
       ·rename_i n;cases j;have:=p.inv_v;subst this;refine⟨n::b,by grind,?_⟩;simp only[qBZ,h2];rfl
       grind
def XZ:∀{es:List D},qlS es=true->bk es=es
 | [],_=>rfl
 | d::es,hb=>by
   simp only[qlS,qCJ,qBh]at hb;have b:=hb.1;have:d.cells=[d]:=by
    cases d<;>first|rfl|grind [qaa]
   have c:=XZ (es:=es) hb.2;grind [bk]
def ZQ(l:List Int):∀s:ByteArray,l.foldl (λr n=>r.push (UInt8.ofNat n.toNat)) s=⟨s.data++ (l.map λn=>UInt8.ofNat n.toNat).toArray⟩:=by
 induction l<;>simp_all
def Xk(n:Int):(Utf8.encode n).size<=4:=by
 unfold Utf8.encode;simp only;generalize (if Utf8.valid n=true then n.toNat else Utf8.runeError)=c;split
 ·exact qBg rfl
 ·split
  ·exact qBg rfl
  ·split<;>exact qBg rfl
def qdo{t u:TypeId}{k:IntKind}{x:Operand}(ho:o.op= .convert t u x)(h:P.underlying t=some (.int k))(j:P.underlying u=some .string)
 (c:R tp I w (a.eval x) (ev σ x)) {H:ab} (b:aj (.rstr x) σ H K):Good P o a tp I w K:=by
 simp only[aj]at b;split at b
 ·rename_i l n d;rw[d]at c;have h1:=c.inv_v;refine⟨_,_,?_, .str (Utf8.encode n) (qBM (Xk n) (qBg rfl)),b⟩;simp_all [execOp,convert,Conv.intToString,run_underlying]
 grind
theorem qdu{t u el:TypeId}{x:Operand}(ho:o.op= .convert t u x)(M:P.underlying t=some (.slice el))(N:P.underlying u=some .string)(he:P.underlying el=some (.int .u8))
 (l:R tp I w (a.eval x) (ev σ x)) {H Hr:ab} (C:∀i r,Hr i=some r->H i=some r) (p:∀i r,H i=some r->ResOk (R tp I w) w r)
 (s:aj (.bstr x) σ Hr K):Good P o a tp I w K:=by
 simp only[aj]at s;generalize W:a.eval x=q at l;have nil:q= .slice none 0 0->(execOp a.eval o).run P w= .ok (.value (.string ⟨#[]⟩)) w:=λhb=>by
  have:=run_convert_bytes_string (P:=P) w t u el none 0 0 M he N;simp only[execOp,ho,W,hb,qBy,this,Conv.bytesToString,qBG,qBp];rfl
 split at s
 ·rename_i id y E;rw[E]at l;cases l with
  | own _ _ O=>
    split at s
    ·rename_i x' Y n' es Z;obtain⟨rfl,rfl,hb,hk⟩:=s;obtain⟨xs,h,g3,Q⟩:=p _ _ (C _ _ Z);have b:=λg hg=>h.cells (g:=g) hg
     obtain⟨g1,g2⟩:=h;have hfl:=aR (es:=es) (λd hd=>(g3 d hd).2);have A:xs.length=es.length:=by omega
     have F:bk es=es:=by
      exact XZ hb
     rw[F]at Q;obtain⟨S,h1,h2⟩:=qcK A hb (λk y c hy hc=>(Q k y c hy hc).2);have hs:qn5 es=⟨(S.map λn=>UInt8.ofNat n.toNat).toArray⟩:=by rw[h2];rfl
     have hsz:(qn5 es).size=es.length:=by show((es.map λd=>(qaa d).getD 0).toArray).size=_;simp
     rcases g2 with⟨rfl,h4⟩|⟨g,cap,cur,rfl,_,_,U,hm,_⟩
     ·have J:es=[]:=qBs h4;subst J;exact⟨_,_,nil rfl, .str _ (by grind),hk⟩
     ·refine⟨.string (qn5 es),_,?_, .str _ (by omega),hk⟩;have hc:=run_convert_bytes_string (P:=P) w t u el (some ⟨g,0,none⟩) es.length cap M he N;have hl:=run_loadCells_list (P:=P) w ⟨g,0,none⟩ xs (λj v hj=>b g rfl j v hj);rw[A,h1]at hl;have L:=run_bytesToString (P:=P) w ⟨g,0,none⟩ es.length cap S hl;rw[ZQ,show ByteArray.empty.data= #[]from rfl,Array.empty_append,<-hs]at L;grind [execOp,Sem.run_bind,Sem.run_pure,Result.andThen_ok]
    grind
 ·rename_i E;rw[E]at l;have:=l.inv_v;exact⟨_,_,nil this, .str _ (by simp[ByteArray.size,maxLen]),s⟩
 grind
theorem qby{mx:Bool}{c:Call}(ho:o.op= .call c)(hc:c.callee= .builtin (if mx then .max else .min))
 (j:∀x∈c.args.toList,R tp I w (a.eval x) (ev σ x)) {H:ab} (b:aj (.mm mx c.args.toList) σ H K):Good P o a tp I w K:=by
 obtain⟨cl,⟨args⟩,u⟩:=c;simp only at j hc b;subst hc
 match args,j,b with
 | [],_,b=>exact b.elim
 | [_],_,b=>exact b.elim
 | [x,y],j,b=>
   simp only[aj]at b;split at b
   ·rename_i k p A q s t;obtain⟨rfl,hk⟩:=b;have d:=j x (by simp);rw[s]at d;have h:=j y (by simp);rw[t]at h;have h1:=d.inv_v;have h2:=h.inv_v;refine⟨_,_,?_, .int _ _,hk⟩;cases mx
    ·simp[execOp,ho,resolve,invoke,builtin,h1,h2,Builtin.min_,Builtin.min2];omega
    ·simp[execOp,ho,resolve,invoke,builtin,h1,h2,Builtin.max_,Builtin.max2];omega
   grind
 | [x,y,z],j,b=>
   simp only[aj]at b;split at b
   ·rename_i k p A q C r s t E;obtain⟨rfl,rfl,hk⟩:=b;have d:=j x (by simp);rw[s]at d;have h:=j y (by simp);rw[t]at h;have l:=j z (by simp);rw[E]at l;have h1:=d.inv_v;have h2:=h.inv_v;have h3:=l.inv_v;refine⟨_,_,?_, .int _ _,hk⟩;cases mx
    ·simp[execOp,ho,resolve,invoke,builtin,h1,h2,h3,Builtin.min_,Builtin.min2];omega
    ·simp[execOp,ho,resolve,invoke,builtin,h1,h2,h3,Builtin.max_,Builtin.max2];omega
   grind
 | _::_::_::_::_,_,b=>exact b.elim
end
section
variable {P:Program}{o:Oper}{a:Act}{tp I:Nat->Prop}{w:World}{σ:Sg}{K:D->Prop}
def Nu{t:TypeId}{k:Yt}(h:lu P t=some k):gj P t=some false:=by
 grind [lu,gj]
theorem XY(a b:ByteArray):(a.toList==b.toList)=decide (a=b):=by
 rw[qCK,qCK];have:(a=b) ↔ (a.data.toList=b.data.toList):=by
  constructor;grind
  ·intro h;cases a;simp_all
 grind
def BS{d:D}{p:IntKind×Int}(h:lF d=some p):d= .v (.int p.1 p.2):=by
 unfold lF at h;grind
def qhM{d:D}{s:ByteArray}(h:qr8 d=some s):d= .v (.string s):=by
 unfold qr8 at h;grind
def qhN{d:D}{b:Bool}(h:qr9 d=some b):d= .v (.bool b):=by
 unfold qr9 at h;grind
def JY{d:D}{cs:List D}(h:uJ d=some cs):d= .agg cs:=by
 grind [D,uJ]
theorem QF{k:Yt}{d e:D}{p:Bool}(h:Xj k d e=some p):
 (k= .int/\∃c a b,d= .v (.int c a)/\e= .v (.int c b)/\p=decide (a=b))\/(k= .str/\∃a b,d= .v (.string a)/\e= .v (.string b)/\p=decide (a=b))\/
 (k= .bool/\∃a b,d= .v (.bool a)/\e= .v (.bool b)/\p=decide (a=b))\/(k= .nil/\e= .v (.slice none 0 0)/\(d= .v (.slice none 0 0)/\p=true\/(∃n a l,d= .list n (a::l))/\p=false)):=by
 cases k with
 | int=>
   simp only[Xj,qBb]at h;obtain⟨⟨j,a⟩,h1,⟨q,b⟩,h2,h3⟩:=h;split at h3
   ·rename_i hk;simp only at hk h3;subst hk;cases h3;exact .inl ⟨rfl,j,a,b,BS h1,BS h2,rfl⟩
   grind
 | str=>
   simp only[Xj,qBb]at h;obtain⟨a,h1,b,h2,h3⟩:=h;cases h3;exact .inr (.inl ⟨rfl,a,b,qhM h1,qhM h2,rfl⟩)
 | nil=>
   simp only[Xj]at h;unfold qm7 at h;grind
 | bool=>
   simp only[Xj,qBb]at h;obtain⟨a,h1,b,h2,h3⟩:=h;cases h3;exact .inr (.inr (.inl ⟨rfl,a,b,qhN h1,qhN h2,rfl⟩))
def ZZ{t:TypeId}(h:lu P t=some .nil):∃u,P.underlying t=some (.slice u):=by
 grind [lu]
def R.inv_cons{x:Value}{n:Nat}{d:D}{l:List D}(h:R tp I w x (.list n (d::l))):∃b o c,x= .slice (some ⟨b,o,none⟩) (l.length+1) c:=by
 cases h;exact⟨_,_,_,rfl⟩
def qa4{t:TypeId}{k:Yt}(h:lu P t=some k){x y:Value}{d e:D}(j:R tp I w x d)(s:R tp I w y e){p:Bool}(hp:Xj k d e=some p)(n:Nat)(w':World):
 (Op.equalIn (n+1) t x y).run P w'= .ok p w':=by
 rcases QF hp with⟨rfl,C,q,r,rfl,rfl,rfl⟩|⟨rfl,q,r,rfl,rfl,rfl⟩|⟨rfl,q,r,rfl,rfl,rfl⟩|⟨rfl,rfl,h4⟩
 rotate_right
 ·obtain⟨u,A⟩:=ZZ h;have h2:=s.inv_v;subst h2;rcases h4 with⟨rfl,rfl⟩|⟨⟨n,a,l,rfl⟩,rfl⟩
  ·have h1:=j.inv_v;subst h1;simp[Op.equalIn,run_underlying A]
  ·obtain⟨b,o,c,rfl⟩:=j.inv_cons;simp[Op.equalIn,run_underlying A]
 grind [lu,j.inv_v,s.inv_v,run_equalIn_int];grind [lu,j.inv_v,s.inv_v,run_equalIn_string,XY];grind [lu,j.inv_v,s.inv_v,run_equalIn_bool']
def Ml{t:TypeId}(h:gj P t=some false){xs:List Value}{off:Nat}{x:Value}(b:xs[off]? =some x)(w':World):(part t xs.toArray off).run P w'= .ok x w':=by
 simp[part,sY h,b]
theorem R6(n:Nat)(w':World)(fs:List Field):∀(ks:List Yt) (as bs:List D) (xs ys:List Value) (s:Nat),
 fs.mapM (fun f => lu P f.type) = some ks → fs.map (·.offset) = List.range' s fs.length → fs.all (fun f => decide (f.name ≠ "_")) = true →
 xs.length=s+as.length->ys.length=s+bs.length->(∀(k:Nat) (x:Value) (c:D),xs[s+k]? =some x->as[k]? =some c->R tp I w x c)->(∀(k:Nat) (x:Value) (c:D),ys[s+k]? =some x->bs[k]? =some c->R tp I w x c)->
 ∀p,ZY ks as bs=some p->(Op.eqFields (n+1) xs.toArray ys.toArray fs).run P w'= .ok p w':=by
 induction fs with
 | nil=>
   simp_all [ZY,Op.eqFields]
 | cons f fs ih=>
   intro ks as bs xs ys s hk hof hnm hlx hly hx hy p hp;rw[qBS]at hk;cases hkf:lu P f.type with
   |none=>grind
   | some k0=>
     cases hkr:fs.mapM (λf=>lu P f.type)with
     |none=>grind
     | some kr=>
       simp[hkf,hkr]at hk;subst hk;simp only[qBZ,qB2,qCZ,qB6]at hof;obtain⟨h0,hof⟩:=hof;simp only[qCJ,qBh,decide_eq_true_eq]at hnm;simp only[ZY,qBb]at hp;obtain⟨a0,ha0,b0,hb0,p0,e1,q0,e2,hpq⟩:=hp;cases as with
       |nil=>simp at ha0
       | cons a1 as=>
         cases bs with
         |nil=>simp at hb0
         | cons b1 bs=>
           simp at ha0 hb0;subst ha0;subst hb0;simp only[List.tail_cons]at e2;have lx:s<xs.length:=by rw[hlx];simp
           have ly:s<ys.length:=by rw[hly];simp
           have ex:xs[f.offset]? =some xs[s]:=by rw[h0];simp[lx]
           have ey:ys[f.offset]? =some ys[s]:=by rw[h0];simp[ly]
           have rx:R tp I w xs[s] a1:=hx 0 _ a1 (by simp[lx]) rfl;have ry:R tp I w ys[s] b1:=hy 0 _ b1 (by simp[ly]) rfl;have r1:=qa4 hkf rx ry e1 n w';simp at hpq;simp only[Op.eqFields,hnm.1,ne_eq,not_false_eq_true,if_true,qBy,Ml (Nu hkf) ex,Ml (Nu hkf) ey,qBp,r1];cases p0
           ·simp at hpq ⊢;exact hpq
           ·simp only[qCu]at hpq;simp only[Bool.not_true,qB1,if_false];rw[<-hpq];refine ih kr as bs xs ys (s+1) hkr hof hnm.2 (by rw[hlx];simp;omega) (by rw[hly];simp;omega) ?_ ?_ q0 e2
            ·intro k x c h1 h2;exact hx (k+1) x c (by rw[<-h1];congr 1;omega) h2
            ·intro k x c h1 h2;exact hy (k+1) x c (by rw[<-h1];congr 1;omega) h2
theorem WV{neg:Bool}{t u:TypeId}{x y:Operand}{c:COp}(ho:o.op= .binOp (if neg then .neq else .eql) t x y u)(hc:mQ P neg t x y=some c)
 (C:R tp I w (a.eval x) (ev σ x)) (E:R tp I w (a.eval y) (ev σ y)) {H:ab} (J:aj c σ H K):Good P o a tp I w K:=by
 unfold mQ at hc;split at hc
 ·rename_i k hk;cases hc;simp only[aj]at J;split at J
  ·rename_i p hp;simp only[qg0,qB1,if_false]at hp;have L:∀n w',(Op.equalIn (n+1) t (a.eval x) (a.eval y)).run P w'= .ok p w':=λn w'=>qa4 hk C E hp n w'
   refine⟨.bool (if neg then !p else p),_,?_, .bool _,J⟩;have L:=L 9999 w;generalize h:a.eval x=p1 at*;generalize j:a.eval y=p2 at*;rcases QF hp with⟨rfl,kk,q,r,F,M,rfl⟩|⟨rfl,q,r,F,M,rfl⟩|⟨rfl,q,r,F,M,rfl⟩|⟨rfl,M,h4⟩
   rotate_right
   ·rw[M]at E;have h2:=E.inv_v;subst h2;rcases h4 with⟨F,rfl⟩|⟨⟨n,a,l,F⟩,rfl⟩
    ·rw[F]at C;have h1:=C.inv_v;subst h1;cases neg<;>simp[execOp,ho,h,j,eqGuard,binOp,Op.equal,Op.maxDepth,L]
    ·rw[F]at C;obtain⟨b,o,c,rfl⟩:=C.inv_cons;cases neg<;>simp[execOp,ho,h,j,eqGuard,binOp,Op.equal,Op.maxDepth,L]
   all_goals
    rw[F]at C;rw[M]at E;have h1:=C.inv_v;have h2:=E.inv_v;subst h1;subst h2
   ·cases neg<;>simp[execOp,ho,h,j,eqGuard,binOp,Op.intCmp,BEq.beq,bne]
   ·cases neg<;>simp[execOp,ho,h,j,eqGuard,binOp,Op.stringOp,XY]
   ·cases neg<;>simp[execOp,ho,h,j,eqGuard,binOp,Op.equal,Op.maxDepth,L]
  grind
 ·rename_i hk;cases s:yX P t with
  |none=>grind
  | some ks=>
    simp[s]at hc;subst hc;unfold yX at s;split at s
    ·rename_i fs hu;split at s
     ·rename_i A;simp only[qBh,qC8,decide_eq_true_eq]at A;obtain⟨⟨⟨c1,c2⟩,c3⟩,c4⟩:=A;simp only[aj]at J;split at J
      ·rename_i p hp;simp only[qg0,if_true,qBb]at hp;obtain⟨as,h1,U,h2,hp⟩:=hp;rw[JY h1]at C;rw[JY h2]at E;obtain⟨xs,ex,lx,W⟩:=C.inv_agg;obtain⟨O,Y,ly,ky⟩:=E.inv_agg;have Q:P.fieldsOf t=fs:=by grind [lu,Program.fieldsOf]
       have N:=R6 (P:=P) (tp:=tp) (I:=I) (w:=w) 9998 w fs.toList ks as U xs O 0 s c3 c4 (by omega) (by omega) (λk x c Z S=>(W k x c (by grind) S).2) (λk x c Z S=>(ky k x c (by grind) S).2) p hp;have d:=run_equalIn_struct (P:=P) w 9999 t xs.toArray O.toArray (by grind) c1;rw[Q,N]at d;have d:(Op.equalIn 10000 t (Value.agg xs.toArray) (Value.agg O.toArray)).run P w= .ok p w:=d;refine⟨.bool (if neg then !p else p),_,?_, .bool _,J⟩;cases neg<;>simp only[execOp,ho,ex,Y,if_true,qB1,if_false,qBy,run_eqGuard_agg _ _ _ _ _ _ _ c2,qBp,run_eql_struct,run_neq_struct,d,qBG]
      grind
     grind
    grind
def aO{α b:Type}{f:α->b}{x:Option α}{y:b}(h:x.map f=some y):∃z,x=some z/\f z=y:=by
 simp_all
theorem QC{n:Nat} :∀{es:List D} (i:Nat),(∀d∈es,d.cells.length=n)->∀k,(bk (es.drop i))[k]? =(bk es)[i*n+k]?:=by
 intro es i
 induction i generalizing es with
 |zero=>simp
 | succ i b=>
   intro h k;cases es<;>grind [bk]
theorem lM{es:List D}{h:Nat}{k:Nat}{c:D}(hk:(bk (es.take h))[k]? =some c):(bk es)[k]? =some c:=by
 grind [rf,List.take_append_drop]
theorem M7{b off cap n:Nat}{es:List D}{f:Nat->Value}(hI:I b)(hc:es.length<=cap)(hm:cap<=maxLen)(hz:n≠1->PlainB w b)(hn:∀d∈es,d.kn=true/\d.cells.length=n)
 (hcell:∀(k:Nat) (c:D),(bk es)[k]? =some c->w.cell? ⟨b,off+k,none⟩=some (f k)) (p:∀(k:Nat) (c:D),(bk es)[k]? =some c->(f k).oneCell'=true)
 (s:∀(k:Nat) (c:D),(bk es)[k]? =some c->R tp I w (f k) c) {l h:Nat} (t:l<=h) (hh:h<=es.length):
 R tp I w (.slice (some ⟨b,off+l*n,none⟩) (h -l) (cap -l)) (.list n ((es.take h).drop l)):=by
 have hlen:((es.take h).drop l).length=h -l:=by grind
 have q:∀d∈ (es.take h).drop l,d∈es:=λd r=>qBx (qBT r)
 have j:∀(k:Nat) (c:D),(bk ((es.take h).drop l))[k]? =some c->(bk es)[l*n+k]? =some c:=by
  grind [PlainB,D.kn,QC,lM]
 rw[<-hlen];refine .list b (off+l*n) (cap -l) n _ (λk=>f (l*n+k)) hI (by omega) (by omega) hz (λd r=>hn d (q d r)) (λk c hk=>?_) (λk c hk=>p _ c (j k c hk)) (λk c hk=>s _ c (j k c hk));grind
theorem EH{lo hi:Option Operand}{len:Nat}{s:Nat->Nat->Prop}(j:∀y,lo=some y->R tp I w (a.eval y) (ev σ y))(k:∀y,hi=some y->R tp I w (a.eval y) (ev σ y))
 (d:kW (lo.map λo=>lF (ev σ o)) (hi.map λo=>lF (ev σ o)) len s):∃l h,l<=h/\h<=len/\s l h/\∀cap,len<=cap->(Instr.sliceBounds true len cap (lo.map a.eval) (hi.map a.eval) none).run P w= .ok (l,h,cap) w:=by
 have b:∀(y:Operand) (p:IntKind×Int),R tp I w (a.eval y) (ev σ y)->lF (ev σ y)=some p->a.eval y= .int p.1 p.2:=λy p c hp=>by
  rw[BS hp]at c;exact c.inv_v
 unfold kW at d;split at d
 ·rename_i q r;have hl:lo=none:=by simp_all
  have hh:hi=none:=by simp_all
  subst hl;subst hh;exact⟨0,len,qBB _,qBj _,d,λcap hc=>by rfl⟩
 ·rename_i t l q r;obtain⟨y,rfl,c⟩:=aO q;have hh:hi=none:=by simp_all
  subst hh;obtain⟨h0,h1,hk⟩:=d;have:=b y _ (j y rfl) c;refine⟨l.toNat,len,by omega,qBj _,hk,λcap hc=>?_⟩;simp_all [Instr.sliceBounds,Instr.sliceBound,asIntOf]
 ·rename_i t h q r;obtain⟨y,rfl,c⟩:=aO r;have hl:lo=none:=by simp_all
  subst hl;obtain⟨h0,h1,hk⟩:=d;have:=b y _ (k y rfl) c;refine⟨0,h.toNat,qBB _,by omega,hk,λcap hc=>?_⟩;have h2:h<=(cap:Int):=by omega
  simp_all [Instr.sliceBounds,Instr.sliceBound,asIntOf]
 ·rename_i u l x h q r;obtain⟨y,rfl,c⟩:=aO q;obtain⟨z,rfl,hz⟩:=aO r;obtain⟨h0,h1,h2,hk⟩:=d;have A:=b y _ (j y rfl) c;have C:=b z _ (k z rfl) hz;refine⟨l.toNat,h.toNat,by omega,by omega,hk,λcap hc=>?_⟩;have h3:h<=(cap:Int):=by omega
  have h4:(0:Int)<=h:=by omega
  have h5:l<=((h.toNat:Nat):Int):=by omega
  simp_all [Instr.sliceBounds,Instr.sliceBound,asIntOf]
 grind
theorem ZF{t el:TypeId}{n:Nat}{x:Operand}{lo hi:Option Operand}(ho:o.op= .slice t x lo hi none)(ht:P.underlying t=some (.slice el))(hs:cj P el=some n)
 (E:R tp I w (a.eval x) (ev σ x)) (J:∀y,lo=some y->R tp I w (a.eval y) (ev σ y)) (L:∀y,hi=some y->R tp I w (a.eval y) (ev σ y)) {H Hr:ab} (hle:∀i r,Hr i=some r->H i=some r) (hsat:∀i r,H i=some r->ResOk (R tp I w) w r) (k:aj (.slice n x lo hi) σ Hr K):Good P o a tp I w K:=by
 simp only[aj]at k;split at k
 ·rename_i C es Q;rw[Q]at E;obtain⟨rfl,k⟩:=k;generalize S:a.eval x=q at E;have A:∀(y:Operand) (p:IntKind×Int),R tp I w (a.eval y) (ev σ y)->lF (ev σ y)=some p->a.eval y= .int p.1 p.2:=λy p O hp=>by
   rw[BS hp]at O;exact O.inv_v
  have main:∀(l h:Nat),l<=h->h<=es.length->∃y,(∀(F:Option Addr) (len cap:Nat),q= .slice F len cap->
   y= .slice (if cap=l then F else F.map (·.add (l*C))) (h -l) (cap -l))/\R tp I w y (.list C ((es.take h).drop l)):=by
   intro l h h1 h2;cases E with
   | nolist F cap _=>
     have:h=0:=by grind
     subst this;have:l=0:=by omega
     subst this;refine⟨.slice F 0 cap,λbo' len Y he=>?_,by simpa using .nolist F cap C⟩;cases he;simp[Addr.add_zero']
   | list b off cap _ _ f hI hc hm hz hn hcell M hr=>
     by_cases j:cap=l
     ·subst j;have e0:h -cap=0:=by omega
      have Q:(es.take h).drop cap=[]:=by
       apply qBs;simp;omega
      refine⟨.slice (some ⟨b,off,none⟩) 0 (cap -cap),λbo' len Y he=>?_,by rw[Q];exact .nolist _ _ _⟩;cases he;simp[e0]
     ·refine⟨.slice (some ⟨b,off+l*C,none⟩) (h -l) (cap -l),λbo' len Y he=>?_,M7 hI hc hm hz hn hcell M hr h1 h2⟩;cases he;simp[j,kA]
  have vsl:∃F len cap,q= .slice F len cap/\len=es.length/\len<=cap:=by
   cases E with
   |nolist F cap _=>exact⟨F,0,cap,rfl,rfl,qBB _⟩
   |list b off cap _ _ f hI hc hm hz hn hcell M h=>exact⟨_,_,_,rfl,rfl,hc⟩
  obtain⟨F,len,cap,hqe,hlen,hcap⟩:=vsl;subst hlen;have run:∀(l h:Nat),l<=h->h<=es.length->(Instr.sliceBounds true es.length cap (lo.map a.eval) (hi.map a.eval) none).run P w= .ok (l,h,cap) w->K (.list C ((es.take h).drop l))->Good P o a tp I w K:=by
   intro l h h1 h2 hb hk;obtain⟨y,O,hR⟩:=main l h h1 h2;have hy':=O F es.length cap hqe;refine⟨y,_,?_,hR,hk⟩;rw[hy'];simp only[execOp,ho,S,hqe,Instr.sliceAt,qBy,run_underlying ht,qBp,Instr.slice,qCv,hb,aQ hs,qBG]
  split at k
  ·rename_i U W;have hl:lo=none:=by simpa using U
   have hh:hi=none:=by simpa using W
   subst hl;subst hh;exact run 0 es.length (qBB _) (qBj _) (by simp[Instr.sliceBounds]) (by simpa using k)
  ·rename_i kk l U W;obtain⟨y,rfl,O⟩:=aO U;have hh:hi=none:=by simpa using W
   subst hh;obtain⟨h0,h1,hk⟩:=k;have:=A y _ (J y rfl) O;refine run l.toNat es.length (by omega) (qBj _) ?_ (by simpa using hk);simp[Instr.sliceBounds,this,Instr.sliceBound,asIntOf,h0,h1]
  ·rename_i kk h U W;obtain⟨y,rfl,O⟩:=aO W;have hl:lo=none:=by simpa using U
   subst hl;obtain⟨h0,h1,hk⟩:=k;have:=A y _ (L y rfl) O;have h2:h<=(cap:Int):=by omega
   refine run 0 h.toNat (qBB _) (by omega) ?_ (by simpa using hk);simp[Instr.sliceBounds,this,Instr.sliceBound,asIntOf,h0,h2]
  ·rename_i kl l kh h U W;obtain⟨y,rfl,O⟩:=aO U;obtain⟨z,rfl,hz⟩:=aO W;obtain⟨h0,h1,h2,hk⟩:=k;have e4:=A y _ (J y rfl) O;have e5:=A z _ (L z rfl) hz;have h3:h<=(cap:Int):=by omega
   have h4:(0:Int)<=h:=by omega
   have h5:l<=((h.toNat:Nat):Int):=by omega
   refine run l.toNat h.toNat (by omega) (by omega) ?_ hk;simp[Instr.sliceBounds,e4,e5,Instr.sliceBound,asIntOf,h0,h3,h4,h5];intro hbad;omega
  grind
 ·rename_i id y Q;rw[Q]at E;generalize S:a.eval x=q at E;cases E with
  | own _ _ M=>
    split at k
    ·rename_i x' el' C es hH;obtain⟨hxe,rfl,k⟩:=k;subst hxe;obtain⟨xs,⟨g1,g2⟩,g3⟩:=hsat _ _ (hle _ _ hH);obtain⟨l,h,h1,h2,hk,hb⟩:=EH (P:=P) (w:=w) J L k;rcases g2 with⟨h3,h4⟩|⟨g,cap,cur,h3,_,g5,g6,g7,_⟩
     ·have N:h=0:=by omega
      have u:l=0:=by omega
      subst N;subst u;have d:=hb 0 (by omega);rw[h3]at hk;rw[h4]at d;refine⟨.slice none 0 0,_,?_, .subnil id C,hk⟩;simp only[execOp,ho,S,h3,Instr.sliceAt,qBy,run_underlying ht,qBp,Instr.slice,qCv,d,aQ hs,qBG];simp
     ·have d:=hb cap g6;rw[h3]at hk;refine⟨.slice (if cap=l then some ⟨g,0,none⟩else some ⟨g,l*C,none⟩) (h -l) (cap -l),_,?_, .sub id g es.length cap C l h _ h1 h2 g6 g7 (λh5=>?_),hk⟩
      ·simp only[execOp,ho,S,h3,Instr.sliceAt,qBy,run_underlying ht,qBp,Instr.slice,qCv,d,aQ hs,qBG];by_cases j:cap=l<;>simp[j,kA]
      ·by_cases j:cap=l
       ·have:l=0:=by omega
        simp[j,this]
       ·simp[j]
    ·exact k.elim
 ·rename_i id y C c hi' Q;rw[Q]at E;obtain⟨rfl,k⟩:=k;obtain⟨l,h,h1,h2,hk,hb⟩:=EH (P:=P) (w:=w) J L k;generalize S:a.eval x=q at E;cases E with
  | subnil=>
    have N:h=0:=by omega
    have u:l=0:=by omega
    subst N;subst u;have d:=hb 0 (by omega);refine⟨.slice none 0 0,_,?_, .subnil id C,hk⟩;simp only[execOp,ho,S,Instr.sliceAt,qBy,run_underlying ht,qBp,Instr.slice,qCv,d,aQ hs,qBG];simp
  | sub _ b len cap _ _ _ p g1 g2 g3 hm hp=>
    have d:=hb (cap -c) (by omega);have U:h -l=(c+h) - (c+l):=by omega
    have W:cap -c -l=cap - (c+l):=by omega
    refine⟨.slice (if cap -c=l then p else p.map (·.add (l*C))) (h -l) (cap -c -l),_,?_,?_,hk⟩
    ·simp only[execOp,ho,S,Instr.sliceAt,qBy,run_underlying ht,qBp,Instr.slice,qCv,d,aQ hs,qBG]
    ·rw[U,W];refine .sub id b len cap C (c+l) (c+h) _ (by omega) (by omega) g3 hm (λh5=>?_);by_cases j:cap -c=l
     ·have u:l=0:=by omega
      have Z:c=0:=by omega
      have:=hp (.inr Z);rw[this];subst u;subst Z;simp[Addr.add_zero']
     ·have:=hp (by omega);rw[if_neg j,this];simp[kA,qCA]
 ·rename_i Q;rw[Q]at E;have S:=E.inv_v;obtain⟨l,h,h1,h2,hk,hb⟩:=EH (P:=P) (w:=w) J L k;have N:h=0:=by omega
  have u:l=0:=by omega
  subst N;subst u;have d:=hb 0 (by omega);refine⟨.slice none 0 0,_,?_, .v _ rfl (λs hs=>by cases hs),hk⟩;simp only[execOp,ho,S,Instr.sliceAt,qBy,run_underlying ht,qBp,Instr.slice,qCv,d,aQ hs,qBG];simp
 grind
theorem WO{t:TypeId}{x:Operand}{lo hi:Option Operand}(ho:o.op= .slice t x lo hi none)(M:P.underlying t=some .string)
 (u:R tp I w (a.eval x) (ev σ x)) (k:∀y,lo=some y->R tp I w (a.eval y) (ev σ y)) (q:∀y,hi=some y->R tp I w (a.eval y) (ev σ y)) {H:ab} (d:aj (.sslice x lo hi) σ H K):Good P o a tp I w K:=by
 simp only[aj]at d;split at d
 ·rename_i s C;rw[C]at u;obtain⟨N,E⟩:=u.inv_str;have b:∀(y:Operand) (p:IntKind×Int),R tp I w (a.eval y) (ev σ y)->lF (ev σ y)=some p->a.eval y= .int p.1 p.2:=λy p c hp=>by
   rw[BS hp]at c;exact c.inv_v
  have run:∀(l h:Nat),(Instr.sliceBounds false s.size s.size (lo.map a.eval) (hi.map a.eval) none).run P w= .ok (l,h,s.size) w->K (.v (.string (s.extract l h)))->Good P o a tp I w K:=by
   intro l h hb hk;refine⟨.string (s.extract l h),_,?_, .str _ ?_,hk⟩;simp_all [execOp,Instr.sliceAt,Instr.slice,run_underlying];simp;omega
  split at d
  ·rename_i j r;have hl:lo=none:=by simp_all
   have hh:hi=none:=by simp_all
   subst hl;subst hh;exact run 0 s.size (by rfl) d
  ·rename_i F l j r;obtain⟨y,rfl,c⟩:=aO j;have hh:hi=none:=by simp_all
   subst hh;obtain⟨h0,h1,hk⟩:=d;have:=b y _ (k y rfl) c;refine run l.toNat s.size ?_ hk;simp_all [Instr.sliceBounds,Instr.sliceBound,asIntOf]
  ·rename_i F h j r;obtain⟨y,rfl,c⟩:=aO r;have hl:lo=none:=by simpa using j
   subst hl;obtain⟨h0,h1,hk⟩:=d;have:=b y _ (q y rfl) c;refine run 0 h.toNat ?_ hk;simp_all [Instr.sliceBounds,Instr.sliceBound,asIntOf]
  ·rename_i O l Q h j r;obtain⟨y,rfl,c⟩:=aO j;obtain⟨z,rfl,hz⟩:=aO r;obtain⟨h0,h1,h2,hk⟩:=d;have J:=b y _ (k y rfl) c;have L:=b z _ (q z rfl) hz;have h4:(0:Int)<=h:=by omega
   have h5:l<=((h.toNat:Nat):Int):=by omega
   refine run l.toNat h.toNat ?_ hk;simp[Instr.sliceBounds,J,L,Instr.sliceBound,asIntOf,h0,h2,h4,h5];intro A;omega
  grind
 grind
end
end Go.Gv
