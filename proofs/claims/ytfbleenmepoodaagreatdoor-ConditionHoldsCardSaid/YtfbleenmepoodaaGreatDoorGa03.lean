/- A part of the framework and of the walks: S1 S2. -/
import Derived.Laws.BytesString
import Derived.Test.YtfbleenmepoodaaGreatDoorGa02
set_option linter.unusedSimpArgs false
set_option linter.unusedVariables false
set_option linter.unusedSectionVars false
set_option linter.defProp false
namespace Go.Gv
def Good(P:Program)(o:Oper)(a:Act)(tp I:Nat->Prop)(w:World)(K:D->Prop):Prop:=
 ∃x d,(execOp a.eval o).run P w= .ok (.value x) w/\R tp I w x d/\K d
section
variable {P:Program}{o:Oper}{a:Act}{tp I:Nat->Prop}{w:World}{σ:Sg}{K:D->Prop}
def R.inv_v{x y:Value}(h:R tp I w x (.v y)):x=y:=by cases h;rfl
def R.inv_agg{x:Value}{cs:List D}(h:R tp I w x (.agg cs)):∃xs:List Value,x= .agg xs.toArray/\xs.length=cs.length/\ba (R tp I w) xs cs:=by
 cases h with
 | agg xs cs hl h1 h=>exact⟨xs,rfl,hl,λk y c hy hc=>⟨h1 y (qjD hy),h k y c hy hc⟩⟩
def R.int(k:IntKind)(n:Int):R tp I w (.int k n) (.v (.int k n)):= .v _ rfl (λs h=>by cases h)
def R.bool(b:Bool):R tp I w (.bool b) (.v (.bool b)):= .v _ rfl (λs h=>by cases h)
def R.str(s:ByteArray)(h:s.size<=maxLen):R tp I w (.string s) (.v (.string s)):= .v _ rfl (λs' h'=>by cases h';exact h)
def R.inv_str{x:Value}{s:ByteArray}(h:R tp I w x (.v (.string s))):x= .string s/\s.size<=maxLen:=by
 cases h with
 | v x h hs=>exact⟨rfl,hs s rfl⟩
def Wf(x:Value)(h:∀s,x= .string s->s.size<=maxLen):R tp I w x (lL x):=by
 cases x <;> first|exact .any _|exact .v _ rfl h
def Mj(hr:∀t,R tp I w (a.tmps.getD t undef) (σ t))(x:Operand)(hx:sq x=true):R tp I w (a.eval x) (ev σ x):=by
 cases x with
 | tmp t=>exact hr t
 | const x=>
   refine Wf x (λs hs=>?_);subst hs;have:s.size<=1000000:=by simpa [sq]using hx
   simp only[maxLen];omega
 | global g=>exact .v _ rfl (λs h=>by cases h)
 | func f=>exact .clo f [] [] rfl (λk x c h=>by simp at h)
def Nn{x:Operand}(ho:o.op= .move x\/o.op= .assign x)(hx:R tp I w (a.eval x) (ev σ x))(hv:K (ev σ x)):Good P o a tp I w K:=by
 refine⟨a.eval x,ev σ x,?_,hx,hv⟩;rcases ho with ho|ho <;> simp[execOp,ho]
def O3{c x y:Operand}(ho:o.op= .pick c x y)(hc:R tp I w (a.eval c) (ev σ c))(hx:R tp I w (a.eval x) (ev σ x))(hy:R tp I w (a.eval y) (ev σ y)){H:aa}
 (hv:ah (.pick c x y) σ H K):Good P o a tp I w K:=by
 simp only[ah]at hv;split at hv
 ·rename_i t ht;rw[ht]at hc;have:=hc.inv_v;cases t
  ·exact⟨a.eval y,ev σ y,by simp[execOp,ho,this,asBool],hy,hv.2 rfl⟩
  ·exact⟨a.eval x,ev σ x,by simp[execOp,ho,this,asBool],hx,hv.1 rfl⟩
 ·exact hv.elim
def L5{x:Operand}(ho:o.op= .nilCheck x)(hx:R tp I w (a.eval x) (ev σ x)){H:aa}(hv:ah (.nilck x) σ H K):Good P o a tp I w K:=by
 simp only[ah]at hv;generalize hq:a.eval x=q at hx;split at hv <;> first|exact hv.elim|skip
 all_goals
  rename_i e;rw[e]at hx;refine⟨q,_,?_,hx,hv⟩;cases hx <;> simp[execOp,ho,hq]
theorem eY{op:BinOp}{t u:TypeId}{x y:Operand}(ho:o.op= .binOp op t x y u)(hop:op= .add\/op= .sub\/op= .mul\/op= .quo\/op= .rem\/op= .and\/op= .or\/op= .shl\/op= .shr)
 (hx:R tp I w (a.eval x) (ev σ x)) (hy:R tp I w (a.eval y) (ev σ y)) {H:aa} (hv:ah (.arith op x y) σ H K):Good P o a tp I w K:=by
 simp only[ah]at hv;split at hv
 ·rename_i k p k' q e1 e2;rw[e1]at hx;rw[e2]at hy;have h1:=hx.inv_v;have h2:=hy.inv_v;obtain⟨hk,hv⟩:=hv;rcases hop with rfl|rfl|rfl|rfl|rfl|rfl|rfl|rfl|rfl <;> simp only[ez]at hv <;> first|(have hk2:k=k':=hk;subst hk2)|skip
  ·exact⟨_,_,by simp[execOp,ho,h1,h2,eqGuard,binOp,Op.intArith,hv.1.wrap], .int _ _,hv.2⟩
  ·exact⟨_,_,by simp[execOp,ho,h1,h2,eqGuard,binOp,Op.intArith,hv.1.wrap], .int _ _,hv.2⟩
  ·exact⟨_,_,by simp[execOp,ho,h1,h2,eqGuard,binOp,Op.intArith,hv.1.wrap], .int _ _,hv.2⟩
  ·exact⟨_,_,by simp[execOp,ho,h1,h2,eqGuard,binOp,Op.intDiv,hv.1,hv.2.1.wrap], .int _ _,hv.2.2⟩
  ·exact⟨_,_,by simp[execOp,ho,h1,h2,eqGuard,binOp,Op.intDiv,hv.1], .int _ _,hv.2⟩
  ·exact⟨_,_,by simp[execOp,ho,h1,h2,eqGuard,binOp,Op.intBits,KX], .int _ _,hv⟩
  ·exact⟨_,_,by simp[execOp,ho,h1,h2,eqGuard,binOp,Op.intBits,Y1], .int _ _,hv⟩
  ·exact⟨_,_,by simp[execOp,ho,h1,h2,eqGuard,binOp,Op.shift,Gr,show ¬q < 0 by omega], .int _ _,hv.2⟩
  ·exact⟨_,_,by simp[execOp,ho,h1,h2,eqGuard,binOp,Op.shift,Oo,show ¬q < 0 by omega], .int _ _,hv.2⟩
 ·exact hv.elim
theorem J4{op:BinOp}{t u:TypeId}{x y:Operand}(ho:o.op= .binOp op t x y u)
 (hx:R tp I w (a.eval x) (ev σ x)) (hy:R tp I w (a.eval y) (ev σ y)) {H:aa} (hv:ah (.cmp op x y) σ H K):Good P o a tp I w K:=by
 simp only[ah]at hv;split at hv
 ·rename_i k p k' q e1 e2;rw[e1]at hx;rw[e2]at hy;have h1:=hx.inv_v;have h2:=hy.inv_v;obtain⟨rfl,hv⟩:=hv;cases op <;> simp only[HQ]at hv <;> first
   | exact hv.elim
   | exact⟨_,_,by simp[execOp,ho,h1,h2,eqGuard,binOp,Op.intCmp], .bool _,hv⟩
 ·rename_i p q e1 e2;rw[e1]at hx;rw[e2]at hy;have h1:=hx.inv_v;have h2:=hy.inv_v;cases op <;> simp only[KC]at hv <;> first
   | exact hv.elim
   | exact⟨_,_,by simp[execOp,ho,h1,h2,eqGuard,binOp,Op.stringOp], .bool _,hv⟩
 ·exact hv.elim
def O0{t u:TypeId}{x y:Operand}(ho:o.op= .binOp .add t x y u)
 (hx:R tp I w (a.eval x) (ev σ x)) (hy:R tp I w (a.eval y) (ev σ y)) {H:aa} (hv:ah (.scat x y) σ H K):Good P o a tp I w K:=by
 simp only[ah]at hv;split at hv
 ·rename_i p q e1 e2;rw[e1]at hx;rw[e2]at hy;have h1:=hx.inv_v;have h2:=hy.inv_v;obtain⟨hb,hv⟩:=hv;have hn:¬ ((p.size:Int) +q.size > 9223372036854775807):=by omega
  refine⟨.string (p++q),_,?_, .str _ (by simp[maxLen];omega),hv⟩;have:¬ (9223372036854775807 < (p.size:Int) +q.size):=by omega
  simp[execOp,ho,h1,h2,eqGuard,binOp,Op.stringOp,this]
 ·exact hv.elim
def Ry{t:TypeId}{x:Operand}(ho:o.op= .unOp .not t x)(hx:R tp I w (a.eval x) (ev σ x)){H:aa}(hv:ah (.not x) σ H K):Good P o a tp I w K:=by
 simp only[ah]at hv;split at hv
 ·rename_i b e1;rw[e1]at hx;have h1:=hx.inv_v;exact⟨_,_,by simp[execOp,ho,h1,Op.unary], .bool _,hv⟩
 ·exact hv.elim
def Rz{t:TypeId}{x:Operand}(ho:o.op= .unOp .neg t x)(hx:R tp I w (a.eval x) (ev σ x)){H:aa}(hv:ah (.neg x) σ H K):Good P o a tp I w K:=by
 simp only[ah]at hv;split at hv
 ·rename_i k n e1;rw[e1]at hx;have h1:=hx.inv_v;have h2:=hv.1.wrap;exact⟨.int k (0 -n),_,by simp only[execOp,ho,h1,Op.unary,Op.intArith,h2];rfl, .int _ _,hv.2⟩
 ·exact hv.elim
def O7{s t:TypeId}{k k0:IntKind}{x:Operand}(ho:o.op= .convert s t x)(hs:P.underlying s=some (.int k0))(ht:P.underlying t=some (.int k))
 (hx:R tp I w (a.eval x) (ev σ x)) {H:aa} (hv:ah (.conv k x) σ H K):Good P o a tp I w K:=by
 simp only[ah]at hv;split at hv
 ·rename_i k1 n e1;rw[e1]at hx;have h1:=hx.inv_v;exact⟨.int k (k.wrap n),_,by simp[execOp,ho,h1,convert,run_underlying hs,run_underlying ht,Conv.intToInt], .int _ _,hv⟩
 ·exact hv.elim
def VS:∀ {cs:List D} {xs ys:List Value},qc9 cs=some xs->ys.length=cs.length->(∀ (k:Nat) (x:Value) (c:D),ys[k]? =some x->cs[k]? =some c->R tp I w x c)->ys=xs
 | [],xs,ys,h,hl,hr=>by
   cases h;exact qkf.1 hl
 | c::cs,xs, [],h,hl,hr=>by simp at hl
 | c::cs,xs,y::ys,h,hl,hr=>by
   cases c <;> simp only[qc9]at h <;> try (cases h;done)
   rename_i v;obtain⟨xs',h1,rfl⟩:=qjH.1 h;have h0:=(hr 0 y (.v v) rfl rfl).inv_v;rw[h0,VS h1 (by simpa using hl) λk x c hx hc=>hr (k+1) x c hx hc]
def O5{t:TypeId}{x:Operand}{fs:Array Field}(ho:o.op= .makeInterface t x)(ht:P.underlying t=some (.struct fs))(hx:R tp I w (a.eval x) (ev σ x)){H:aa}(hv:ah (.mkif t x) σ H K):Good P o a tp I w K:=by
 simp only[ah]at hv;split at hv
 ·rename_i cs e1;rw[e1]at hx;split at hv
  ·rename_i xs hxs;generalize hq:a.eval x=q at hx;cases hx with
   | agg ys _ hl h1 h=>
     have:=VS hxs hl h;subst this;refine⟨.iface t (.agg ys.toArray),_,?_, .v _ rfl (λs hs=>by cases hs),hv⟩;simp[execOp,ho,hq,Instr.makeInterface,run_underlying ht]
  ·exact hv.elim
 ·exact hv.elim
def RD{f:Nat}{first caps:Array Operand}(ho:o.op= .makeFunc (.func f) first caps)(hf:first.isEmpty=true)(hx:∀x∈caps.toList,R tp I w (a.eval x) (ev σ x)){H:aa}(hv:ah (.clo f caps.toList) σ H K):Good P o a tp I w K:=by
 simp only[ah]at hv;have hf':first= #[]:=by simpa using hf
 obtain⟨caps⟩:=caps;simp only at hv hx;refine⟨.func (.func f) #[] (caps.map a.eval).toArray,_,by simp[execOp,ho,Instr.makeFunc,hf'], .clo f _ _ (by simp) ?_,hv⟩;intro k x c hk hc;rw[qjU]at hk hc;cases hq:caps[k]? with
 | none=>simp[hq]at hk
 | some q=>
   rw[hq]at hk hc;simp at hk hc;subst hk;subst hc;exact hx q (qjD hq)
def RC{x:Operand}{i:Nat}(ho:o.op= .extract x i)(hx:R tp I w (a.eval x) (ev σ x)){H:aa}(hv:ah (.ext x i) σ H K):Good P o a tp I w K:=by
 simp only[ah]at hv;split at hv
 ·rename_i ds e1;split at hv
  ·rename_i d hd;rw[e1]at hx;generalize hq:a.eval x=q at hx;cases hx with
   | tup xs ds hl h=>
     have hi:i < xs.length:=by rw[hl];exact(qjA.1 hd).1
     refine⟨xs[i],d,by simp[execOp,ho,hq,Instr.extract,hi],h i _ d (by simp[hi]) hd,hv⟩
  ·exact hv.elim
 ·exact hv.elim
end
section
variable {P:Program}{o:Oper}{a:Act}{tp I:Nat->Prop}{w:World}{σ:Sg}{K:D->Prop}
def nc{t:TypeId}{b:Bool}(h:eN P t=some b)(w:World):(isAgg t).run P w= .ok b w:=by
 unfold eN at h;cases hu:P.underlying t with
 | none=>simp[hu]at h
 | some d=>
   rw[hu]at h;unfold isAgg;rw[qjR,run_underlying hu w];cases d <;> simp at h <;> subst h <;> simp
def aC{t:TypeId}{n:Nat}(h:cj P t=some n)(w:World):(sizeOf t).run P w= .ok n w:=by
 unfold cj at h;cases hu:P.info? t with
 | none=>simp[hu]at h
 | some i=>
   rw[hu]at h;simp at h;simp[sizeOf,typeInfo,hu,h]
def gU(b o n:Nat):(⟨b,o,none⟩:Addr).add n=⟨b,o+n,none⟩:=Addr.add_lit b o n
theorem Rk{t:TypeId}{agg:Bool}{sz:Nat}(ha:eN P t=some agg)(hs:cj P t=some sz)(h1:(agg||sz=1)=true){cs:List D}{off b base:Nat}{f:Nat->Value}(hlen:off+sz<=cs.length)
 (hcell:∀ (k:Nat) (c:D),cs[k]? =some c->w.cell? ⟨b,base+k,none⟩=some (f k))
 (hone:∀ (k:Nat) (c:D),cs[k]? =some c->(f k).oneCell'=true)
 (h:∀ (k:Nat) (c:D),cs[k]? =some c->R tp I w (f k) c):
 ∃x,(loadVar t ⟨b,base+off,none⟩).run P w= .ok x w/\R tp I w x (Bq agg sz cs off):=by
 have at_:∀j,j < sz->∃c,cs[off+j]? =some c:=λj hj=>⟨cs[off+j]'(by omega),qjC (by omega)⟩
 have hl:(loadCells ⟨b,base+off,none⟩ sz).run P w= .ok ((List.range sz).map λj=>f (off+j)).toArray w:=
  run_loadCells w _ sz _ (λj hj=>by
   obtain⟨c,hc⟩:=at_ j hj;rw[gU];have:=hcell (off+j) c hc;rwa [<-qkP]at this)
 cases agg with
 | true=>
   refine⟨.agg ((List.range sz).map λj=>f (off+j)).toArray,by simp[loadVar,nc ha,aC hs,hl],?_⟩;simp only[Bq,if_true];refine .agg _ _ (by simp;omega) (λx hx=>?_) (λk x c hx hc=>?_)
   ·obtain⟨j,hj,rfl⟩:=qjN.1 hx;obtain⟨c,hc⟩:=at_ j (by simpa using hj);exact hone _ c hc
   ·rw[qjU]at hx;rw[qjS]at hc;split at hc
    ·rename_i hk;rw[qkb]at hc;rw[qkX hk]at hx;simp at hx;subst hx;exact h _ c hc
    ·cases hc
 | false=>
   have hsz:sz=1:=by simpa using h1
   subst hsz;obtain⟨c,hc⟩:=at_ 0 (by omega);simp only[qkK]at hc;refine⟨f off,?_,?_⟩
   ·simp[loadVar,nc ha,hcell off c hc]
   ·simp only[Bq,hc,qkc,if_false,qj7];exact h off c hc
theorem qz{xs:Array Value}{cells:List D}{b el:Nat}(hg:w.heap[b]? =some (.cells xs el (0,0)))(hl:xs.size=cells.length)(hc:ba (R tp I w) xs.toList cells):
 ∃f:Nat->Value,(∀ (k:Nat) (c:D),cells[k]? =some c->w.cell? ⟨b,0+k,none⟩=some (f k))/\(∀ (k:Nat) (c:D),cells[k]? =some c->(f k).oneCell'=true)/\(∀ (k:Nat) (c:D),cells[k]? =some c->R tp I w (f k) c):=by
 refine⟨λk=>xs.getD k undef,λk c hk=>?_,λk c hk=>?_,λk c hk=>?_⟩
 all_goals
  have hlt:k < xs.size:=by rw[hl];exact(qjA.1 hk).1
  have hx:xs[k]? =some xs[k]:=by simp[hlt]
  have hg':xs.getD k undef=xs[k]:=by simp[Array.getD,hlt]
 ·dsimp only;rw[Nat.zero_add,cell_of_row w b k xs el (0,0) hg,hx,hg']
 ·dsimp only;rw[hg'];exact(hc k _ c (by first|exact hx|simp) hk).1
 ·dsimp only;rw[hg'];exact(hc k _ c (by first|exact hx|simp) hk).2
theorem Ov{xs:List Value}{x:Value}{el n:Nat}{es:List D}(ho:w.ownsRow 0 el n x es.length xs)(hn:∀d∈es,d.kn=true/\d.cells.length=n)(hc:ba (R tp I w) xs (aR es))
 {i:Nat} {d:D} (hi:es[i]? =some d) {b:Nat} (hb:x.ownBlock=some b):
 ∃f:Nat->Value,(∀ (k:Nat) (c:D),d.cells[k]? =some c->w.cell? ⟨b,i*n+k,none⟩=some (f k))/\(∀ (k:Nat) (c:D),d.cells[k]? =some c->(f k).oneCell'=true)/\(∀ (k:Nat) (c:D),d.cells[k]? =some c->R tp I w (f k) c):=by
 have hdn:d.cells.length=n:=(hn d (qjD hi)).2;have hfl:=aF (es:=es) (λd hd=>(hn d hd).2);have hil:i < es.length:=(qjA.1 hi).1;have key:∀ (k:Nat) (c:D),d.cells[k]? =some c->∃y,xs[i*n+k]? =some y/\(aR es)[i*n+k]? =some c:=by
  intro k c hk;have hkn:k < n:=by rw[<-hdn];exact(qjA.1 hk).1
  have hf:(aR es)[i*n+k]? =some c:=by rw[eF (λd hd=>(hn d hd).2) hkn,hi];exact hk
  have hlt:i*n+k < xs.length:=by
   have:=(qjA.1 hf).1;rw[ho.1,<-hfl];exact this
  exact⟨xs[i*n+k],by simp[hlt],hf⟩
 refine⟨λk=>xs.getD (i*n+k) undef,λk c hk=>?_,λk c hk=>?_,λk c hk=>?_⟩
 all_goals
  obtain⟨y,hy,hf⟩:=key k c hk;have hg':xs.getD (i*n+k) undef=y:=by simp[List.getD,hy]
 ·dsimp only;rw[hg'];have:=ho.cells hb _ _ hy;rwa [gU,qki]at this
 ·dsimp only;rw[hg'];exact(hc _ _ c hy hf).1
 ·dsimp only;rw[hg'];exact(hc _ _ c hy hf).2
theorem Fq{t:TypeId}{agg:Bool}{sz:Nat}{x:Operand}(ho:o.op= .load t x)(ha:eN P t=some agg)(hs:cj P t=some sz)(h1:(agg||sz=1)=true)(hx:R tp I w (a.eval x) (ev σ x)){H Hr:aa}
 (hle:∀i r,Hr i=some r->H i=some r) (hsat:∀i r,H i=some r->ResOk (R tp I w) w r) (hv:ah (.load agg sz x) σ Hr K):Good P o a tp I w K:=by
 simp only[ah]at hv;generalize hq:a.eval x=q at hx;have rv:∀ (b base off:Nat) (cs:List D) (f:Nat->Value),q= .pointer (some ⟨b,base+off,none⟩)->off+sz<=cs.length->(∀ (k:Nat) (c:D),cs[k]? =some c->w.cell? ⟨b,base+k,none⟩=some (f k))->
  (∀ (k:Nat) (c:D),cs[k]? =some c->(f k).oneCell'=true)->(∀ (k:Nat) (c:D),cs[k]? =some c->R tp I w (f k) c)->K (Bq agg sz cs off)->Good P o a tp I w K:=by
  intro b base off cs f hq' hlen k1 k2 k3 hk;obtain⟨y,hr,hR⟩:=Rk (P:=P) ha hs h1 hlen k1 k2 k3;exact⟨y,_,by simp[execOp,ho,hq,hq',Instr.loadAt,Instr.sureAddr,hr],hR,hk⟩
 split at hv
 ·rename_i cs off e1;rw[e1]at hx;cases hx with
  | cptr b base _ _ f hI hz hcell hone h=>exact rv b base off cs f rfl hv.1 hcell hone h hv.2
 ·rename_i id b off e1;rw[e1]at hx;cases hx;split at hv
  ·rename_i b' cells hH;obtain⟨rfl,hlen,hk⟩:=hv;obtain⟨xs,el,g1,g2,g3⟩:=hsat _ _ (hle _ _ hH);obtain⟨f,k1,k2,k3⟩:=qz g1 g2 g3;exact rv b' 0 off cells f (by rw[qki]) hlen k1 k2 k3 hk
  ·exact hv.elim
 ·rename_i id y n i off e1;rw[e1]at hx;cases hx with
  | eptr _ b len cap _ _ _=>
    split at hv
    ·rename_i x' el n' es hH;obtain⟨rfl,rfl,hlen,hi,hk⟩:=hv;obtain⟨xs,g1,g2,g3⟩:=hsat _ _ (hle _ _ hH);have hd:es[i]? =some es[i]:=by simp[hi]
     obtain⟨f,k1,k2,k3⟩:=Ov g1 g2 g3 hd (b:=b) rfl;exact rv b (i*n') off es[i].cells f rfl (by rw[(g2 _ (qjD hd)).2];exact hlen) k1 k2 k3 (hk _ hd)
    ·exact hv.elim
 ·exact hv.elim
theorem RB{t:TypeId}{fs:Array Field}{fi:Nat}{fd:Field}{agg:Bool}{sz:Nat}{x:Operand}(ho:o.op= .field t x fi)(ht:P.underlying t=some (.struct fs))(hf:fs[fi]? =some fd)
 (ha:eN P fd.type=some agg) (hs:cj P fd.type=some sz) (h1:(agg||sz=1)=true) (hx:R tp I w (a.eval x) (ev σ x)) {H:aa} (hv:ah (.fld agg sz fd.offset x) σ H K):Good P o a tp I w K:=by
 simp only[ah]at hv;split at hv
 ·rename_i cs e1;rw[e1]at hx;obtain⟨xs,hq,hl,hc⟩:=hx.inv_agg;obtain⟨hlen,hk⟩:=hv;cases agg with
  | true=>
    refine⟨.agg ((xs.drop fd.offset).take sz).toArray,_,?_,?_,hk⟩
    ·simp only[execOp,ho,hq,Instr.field,asAgg,qjR,run_underlying ht,qjI,hf,part,nc ha,aC hs,qj0,if_true];simp[List.take_drop,qlO]
    ·simp only[Bq,if_true];refine .agg _ _ (by simp[hl]) (λy hy=>?_) (λk y c hy hc'=>?_)
     ·have hy':=qkh (qjX hy);obtain⟨k,hk'⟩:=qjY.1 hy';have hlt:k < cs.length:=by rw[<-hl];exact(qjA.1 hk').1
      exact(hc k y _ hk' (qjC hlt)).1
     ·rw[qjS]at hy hc';split at hy
      ·rename_i hlt;rw[if_pos hlt]at hc';rw[qkb]at hy hc';exact(hc _ y c hy hc').2
      ·cases hy
  | false=>
    have hsz:sz=1:=by simpa using h1
    subst hsz;have hlt:fd.offset < cs.length:=by omega
    have hlt':fd.offset < xs.length:=by omega
    refine⟨xs[fd.offset],_,?_,?_,hk⟩
    ·simp only[execOp,ho,hq,Instr.field,asAgg,qjR,run_underlying ht,qjI,hf,part,nc ha,qj0,qkc,if_false];simp[hlt']
    ·simp only[Bq,qkc,if_false,qjC hlt,qj7];exact(hc fd.offset _ _ (by simp[hlt']) (by simp[hlt])).2
 ·exact hv.elim
theorem nF{d:Nat}{x:Operand}(run:∀b off,a.eval x= .pointer (some ⟨b,off,none⟩)->(execOp a.eval o).run P w= .ok (.value (.pointer (some ⟨b,off+d,none⟩))) w)
 (hx:R tp I w (a.eval x) (ev σ x)) {H:aa} (hv:ah (.faddr d x) σ H K):Good P o a tp I w K:=by
 simp only[ah]at hv;generalize hq:a.eval x=q at hx run;split at hv
 ·rename_i cs off e1;rw[e1]at hx;cases hx with
  | cptr b base _ _ f hI hz hcell hone h=>
    refine⟨_,_,run _ _ rfl,?_,hv⟩;rw[qkP];exact .cptr b base cs _ f hI hz hcell hone h
 ·rename_i id b off e1;rw[e1]at hx;cases hx;exact⟨_,_,run _ _ rfl, .bptr _ _ _,hv⟩
 ·rename_i id y n i off e1;rw[e1]at hx;cases hx with
  | eptr _ b len cap _ _ _=>
    refine⟨_,_,run _ _ rfl,?_,hv⟩;rw[qkP];exact .eptr id b len cap n i _
 ·exact hv.elim
def L7{t:TypeId}{fs:Array Field}{fi:Nat}{fd:Field}{sz:Nat}{x:Operand}(ho:o.op= .fieldAddr t x fi)(ht:P.underlying t=some (.struct fs))(hf:fs[fi]? =some fd)
 (hs:cj P fd.type=some sz) (h0:0 < sz) (hx:R tp I w (a.eval x) (ev σ x)) {H:aa} (hv:ah (.faddr fd.offset x) σ H K):Good P o a tp I w K:=by
 have hne:sz≠0:=by omega
 refine nF (λb off hb=>?_) hx hv;simp[execOp,ho,hb,Instr.fieldAt,run_underlying ht,hf,Instr.sureAddr,fieldPlace,aC hs,hne,gU]
def Ma{t el:TypeId}{len sz:Nat}{k:Int}{x:Operand}(ho:o.op= .indexAddr t x (.const (.int .i64 k)))(ht:P.underlying t=some (.array len el))(hs:cj P el=some sz)(h0:0<=k/\k < len)
 (hx:R tp I w (a.eval x) (ev σ x)) {H:aa} (hv:ah (.faddr (k.toNat*sz) x) σ H K):Good P o a tp I w K:=by
 refine nF (λb off hb=>?_) hx hv;have hc:a.eval (.const (.int .i64 k))= .int .i64 k:=rfl;simp[execOp,ho,hc,hb,Instr.indexAt,asIntOf,run_underlying ht,Instr.sureAddr,h0.1,h0.2,aC hs,gU]
theorem L6{t el:TypeId}{n:Nat}{x i:Operand}(ho:o.op= .indexAddr t x i)(ht:P.underlying t=some (.slice el))(hs:cj P el=some n)
 (hx:R tp I w (a.eval x) (ev σ x)) (hi:R tp I w (a.eval i) (ev σ i)) {H Hr:aa} (hle:∀i r,Hr i=some r->H i=some r) (hsat:∀i r,H i=some r->ResOk (R tp I w) w r)
 (hv:ah (.iaddr n x i) σ Hr K):Good P o a tp I w K:=by
 simp only[ah]at hv;generalize hq:a.eval x=q at hx;split at hv
 ·rename_i kk k e1;rw[e1]at hi;have hi':=hi.inv_v;have run:∀b off len cap,q= .slice (some ⟨b,off,none⟩) len cap->0<=k->k < len->(execOp a.eval o).run P w= .ok (.value (.pointer (some ⟨b,off+k.toNat*n,none⟩))) w:=by
   intro b off len cap hb h0 h1;simp[execOp,ho,hq,hi',hb,Instr.indexAt,asIntOf,run_underlying ht,h0,h1,aC hs,gU]
  split at hv
  ·rename_i n' es e2;rw[e2]at hx;obtain⟨rfl,h0,h1,hk⟩:=hv;cases hx with
   | nolist=>simp at h1;omega
   | list b off cap _ _ f hI hc hm hz hn hcell hone h=>
     have hlt:k.toNat < es.length:=by omega
     have hd:es[k.toNat]? =some es[k.toNat]:=by simp[hlt]
     refine⟨_,_,run b off _ cap rfl h0 h1,?_,hk _ hd⟩;have hfl:∀ (j:Nat) (c:D),es[k.toNat].cells[j]? =some c->(aR es)[k.toNat*n'+j]? =some c:=λj c hj=>by
      have hlen:=(hn _ (qjD hd)).2;have hjn:j < n':=by rw[<-hlen];exact(qjA.1 hj).1
      rw[eF (λd hd=>(hn d hd).2) hjn,hd];exact hj
     exact .cptr b (off+k.toNat*n') es[k.toNat].cells 0 (λj=>f (k.toNat*n'+j)) hI (by rw[(hn _ (qjD hd)).2];exact hz) (λj c hj=>by rw[qkP];exact hcell _ c (hfl j c hj)) (λj c hj=>hone _ c (hfl j c hj)) (λj c hj=>h _ c (hfl j c hj))
  ·rename_i id y e2;rw[e2]at hx;cases hx with
   | own _ _ hone=>
     split at hv
     ·rename_i x' el' n' es hH;obtain⟨rfl,rfl,h0,h1,hk⟩:=hv;obtain⟨xs,⟨g1,g2⟩,g3⟩:=hsat _ _ (hle _ _ hH);rcases g2 with⟨_,h4⟩|⟨g,cap,cur,rfl,_⟩
      ·omega
      ·refine⟨_,_,run g 0 _ cap rfl h0 h1,?_,hk⟩;rw[qki,<-qkK (k.toNat*n')];exact .eptr id g _ cap n' k.toNat 0
     ·exact hv.elim
  ·rename_i id y n' lo hi e2;rw[e2]at hx;obtain⟨rfl,h0,h1,hk⟩:=hv;cases hx with
   | subnil=>simp at h1;omega
   | sub _ b len cap _ _ _ p g1 g2 g3 hm hp=>
     have hlt:lo < cap:=by omega
     have:=hp (.inl hlt);subst this;refine⟨_,_,run b (lo*n') _ _ rfl h0 h1,?_,hk⟩;rw[<-qkH,<-qkK ((lo+k.toNat) *n')];exact .eptr id b len cap n' (lo+k.toNat) 0
  ·exact hv.elim
 ·exact hv.elim
theorem OZ{t:TypeId}{x i:Operand}(ho:o.op= .index t x i)(ht:P.underlying t=some .string)
 (hx:R tp I w (a.eval x) (ev σ x)) (hi:R tp I w (a.eval i) (ev σ i)) {H:aa} (hv:ah (.sidx x i) σ H K):Good P o a tp I w K:=by
 simp only[ah]at hv;split at hv
 ·rename_i kk k e1;rw[e1]at hi;have hi':=hi.inv_v;split at hv
  ·rename_i s e2;rw[e2]at hx;have hx':=hx.inv_v;obtain⟨h0,h1,hk⟩:=hv;have hlt:k.toNat < s.size:=by omega
   have hlt':k.toNat < s.data.size:=hlt;have hget:s.data[k.toNat]? =some s.data[k.toNat]:=by simp[hlt']
   refine⟨.int .u8 (s.data[k.toNat]).toNat,_,?_, .int _ _,hk _ hget⟩;have hs?:s[k.toNat]? =some (s.data[k.toNat]):=by
    rw[getElem?_pos s k.toNat hlt];rfl
   simp[execOp,ho,hx',hi',Instr.index,asIntOf,run_underlying ht,h0,hs?]
  ·exact hv.elim
 ·exact hv.elim
theorem RA{t e:TypeId}{c:Call}{x:Operand}(ho:o.op= .call c)(hc:c.callee= .builtin .len)(hat:c.argTypes.toList=[t])(hargs:c.args.toList=[x])(ht:P.underlying t=some (.slice e))
 (hx:R tp I w (a.eval x) (ev σ x)) {H Hr:aa} (hle:∀i r,Hr i=some r->H i=some r) (hsat:∀i r,H i=some r->ResOk (R tp I w) w r)
 (hv:ah (.len x) σ Hr K):Good P o a tp I w K:=by
 obtain⟨cl,⟨args⟩,⟨ats⟩⟩:=c;simp only at hat hargs hc;subst hat;subst hargs;subst hc;simp only[ah]at hv;generalize hq:a.eval x=q at hx;have run:∀b n cap,q= .slice b n cap->(execOp a.eval o).run P w= .ok (.value (.int .i64 n)) w:=by
  intro b n cap hb;simp[execOp,ho,resolve,invoke,builtin,hq,hb,Builtin.len_,run_underlying ht,goInt]
 split at hv
 ·rename_i n es e1;rw[e1]at hx;cases hx with
  | nolist b cap _=>exact⟨_,_,run b 0 cap rfl, .int _ _,by simpa using hv (by simp)⟩
  | list b off cap _ _ f hI hcap hm hz hn hcell hone h=>exact⟨_,_,run _ _ _ rfl, .int _ _,hv (by simp only[maxLen]at hm;omega)⟩
 ·rename_i id y e1;rw[e1]at hx;cases hx with
  | own _ _ hone=>
    split at hv
    ·rename_i x' el n' es hH;obtain⟨rfl,hk⟩:=hv;obtain⟨xs,⟨g1,g2⟩,g3⟩:=hsat _ _ (hle _ _ hH);rcases g2 with⟨rfl,h4⟩|⟨g,cap,cur,rfl,_,_,hcap,hm,_⟩
     ·have:es=[]:=qjP h4;subst this;exact⟨_,_,run _ 0 _ rfl, .int _ _,by simpa using hk (by simp)⟩
     ·exact⟨_,_,run _ _ _ rfl, .int _ _,hk (by simp only[maxLen]at hm;omega)⟩
    ·exact hv.elim
 ·rename_i e1;rw[e1]at hx;have:=hx.inv_v;exact⟨_,_,run _ _ _ this, .int _ _,hv⟩
 ·rename_i id y n' lo hi e1;rw[e1]at hx;cases hx with
  | subnil=>exact⟨_,_,run _ 0 _ rfl, .int _ _,by simpa using hv (by simp)⟩
  | sub _ b len cap _ _ _ p g1 g2 g3 hm hp=>exact⟨_,_,run _ _ _ rfl, .int _ _,hv (by simp only[maxLen]at hm;omega)⟩
 ·exact hv.elim
def RE{t e:TypeId}{c:Call}{x:Operand}(ho:o.op= .call c)(hc:c.callee= .builtin .cap)(hat:c.argTypes.toList=[t])(hargs:c.args.toList=[x])(ht:P.underlying t=some (.slice e))
 (hx:R tp I w (a.eval x) (ev σ x)) {Hr:aa} (hv:ah (.cap x) σ Hr K):Good P o a tp I w K:=by
 obtain⟨cl,⟨args⟩,⟨ats⟩⟩:=c;simp only at hat hargs hc;subst hat;subst hargs;subst hc;simp only[ah]at hv;split at hv
 ·rename_i e1;rw[e1]at hx;have:=hx.inv_v;refine⟨.int .i64 0,_,?_, .int _ _,hv⟩;simp[execOp,ho,resolve,invoke,builtin,this,Builtin.cap_,run_underlying ht,goInt]
 ·exact hv.elim
def OY{t:TypeId}{c:Call}{x:Operand}(ho:o.op= .call c)(hc:c.callee= .builtin .len)(hat:c.argTypes.toList=[t])(hargs:c.args.toList=[x])(ht:P.underlying t=some .string)
 (hx:R tp I w (a.eval x) (ev σ x)) {H:aa} (hv:ah (.slen x) σ H K):Good P o a tp I w K:=by
 obtain⟨cl,⟨args⟩,⟨ats⟩⟩:=c;simp only at hat hargs hc;subst hat;subst hargs;subst hc;simp only[ah]at hv;split at hv
 ·rename_i s e1;rw[e1]at hx;obtain⟨h1,h2⟩:=hx.inv_str;refine⟨.int .i64 s.size,_,?_, .int _ _,hv (by simp only[maxLen]at h2;omega)⟩;simp[execOp,ho,resolve,invoke,builtin,h1,Builtin.len_,run_underlying ht,goInt]
 ·exact hv.elim
theorem Ow{xs:List Value}{es:List D}(hl:xs.length=es.length)(hb:Wg es=true)(h:∀ (k:Nat) (y:Value) (c:D),xs[k]? =some y->es[k]? =some c->R tp I w y c):
 ∃ns:List Int,xs=ns.map (Value.int .u8)/\ns.map (λn=>UInt8.ofNat n.toNat)=es.map λd=>(My d).getD 0:=by
 induction xs generalizing es with
 | nil=>
   have:es=[]:=qjP (by simpa using hl.symm);subst this;exact⟨[],rfl,rfl⟩
 | cons x xs ih=>
   cases es with
   | nil=>simp at hl
   | cons d es=>
     simp only[Wg,qls,qjE]at hb;obtain⟨ns,h1,h2⟩:=ih (es:=es) (by simpa using hl) hb.2 (λk y c hy hc=>h (k+1) y c (by simpa using hy) (by simpa using hc));have hx:=h 0 x d rfl rfl;cases hd:My d with
     | none=>rw[hd]at hb;simp at hb
     | some c=>
       unfold My at hd;split at hd
       ·rename_i n;cases hd;have:=hx.inv_v;subst this;refine⟨n::ns,by rw[h1];rfl,?_⟩;simp only[qj2,h2];rfl
       ·cases hd
def KT:∀ {es:List D},Wg es=true->aR es=es
 | [],_=>rfl
 | d::es,hb=>by
   simp only[Wg,qls,qjE]at hb;have hd:=hb.1;have:d.cells=[d]:=by
    cases d <;> first|rfl|simp[My]at hd
   have ih:=KT (es:=es) hb.2;unfold aR at ih ⊢;rw[qkA,this,ih];rfl
def Me(l:List Int):∀s:ByteArray,l.foldl (λr n=>r.push (UInt8.ofNat n.toNat)) s=⟨s.data++ (l.map λn=>UInt8.ofNat n.toNat).toArray⟩:=by
 induction l with
 | nil=>intro s;simp
 | cons n l ih=>
   intro s;rw[qlC,ih];simp[ByteArray.push]
def Kj(n:Int):(Utf8.encode n).size<=4:=by
 unfold Utf8.encode;simp only;generalize (if Utf8.valid n=true then n.toNat else Utf8.runeError)=c;split
 ·exact qjz rfl
 ·split
  ·exact qjz rfl
  ·split <;> exact qjz rfl
def O1{t u:TypeId}{k:IntKind}{x:Operand}(ho:o.op= .convert t u x)(ht:P.underlying t=some (.int k))(hu:P.underlying u=some .string)
 (hx:R tp I w (a.eval x) (ev σ x)) {H:aa} (hv:ah (.rstr x) σ H K):Good P o a tp I w K:=by
 simp only[ah]at hv;split at hv
 ·rename_i k1 n e1;rw[e1]at hx;have h1:=hx.inv_v;refine⟨_,_,?_, .str (Utf8.encode n) (qj8 (Kj n) (qjz rfl)),hv⟩;simp[execOp,ho,h1,convert,run_underlying ht,run_underlying hu,Conv.intToString]
 ·exact hv.elim
theorem O8{t u el:TypeId}{x:Operand}(ho:o.op= .convert t u x)(ht:P.underlying t=some (.slice el))(hu:P.underlying u=some .string)(he:P.underlying el=some (.int .u8))
 (hx:R tp I w (a.eval x) (ev σ x)) {H Hr:aa} (hle:∀i r,Hr i=some r->H i=some r) (hsat:∀i r,H i=some r->ResOk (R tp I w) w r)
 (hv:ah (.bstr x) σ Hr K):Good P o a tp I w K:=by
 simp only[ah]at hv;generalize hq:a.eval x=q at hx;have nil:q= .slice none 0 0->(execOp a.eval o).run P w= .ok (.value (.string ⟨#[]⟩)) w:=λhb=>by
  have:=run_convert_bytes_string (P:=P) w t u el none 0 0 ht he hu;simp only[execOp,ho,hq,hb,qjR,this,Conv.bytesToString,qj0,qjI];rfl
 split at hv
 ·rename_i id y e1;rw[e1]at hx;cases hx with
  | own _ _ hone=>
    split at hv
    ·rename_i x' el' n' es hH;obtain⟨rfl,rfl,hb,hk⟩:=hv;obtain⟨xs,hown,g3,g4⟩:=hsat _ _ (hle _ _ hH);have hcells:=λg hg=>hown.cells (g:=g) hg
     obtain⟨g1,g2⟩:=hown;have hfl:=aF (es:=es) (λd hd=>(g3 d hd).2);have hxl:xs.length=es.length:=by omega
     have hfe:aR es=es:=by
      exact KT hb
     rw[hfe]at g4;obtain⟨ns,h1,h2⟩:=Ow hxl hb (λk y c hy hc=>(g4 k y c hy hc).2);have hs:Yh es=⟨(ns.map λn=>UInt8.ofNat n.toNat).toArray⟩:=by rw[h2];rfl
     have hsz:(Yh es).size=es.length:=by show((es.map λd=>(My d).getD 0).toArray).size=_;simp
     rcases g2 with⟨rfl,h4⟩|⟨g,cap,cur,rfl,_,_,hcap,hm,_⟩
     ·have hes:es=[]:=qjP h4;subst hes;exact⟨_,_,nil rfl, .str _ (by simp[ByteArray.size,maxLen]),hk⟩
     ·refine⟨.string (Yh es),_,?_, .str _ (by omega),hk⟩;have hc:=run_convert_bytes_string (P:=P) w t u el (some ⟨g,0,none⟩) es.length cap ht he hu;have hl:=run_loadCells_list (P:=P) w ⟨g,0,none⟩ xs (λj v hj=>hcells g rfl j v hj);rw[hxl,h1]at hl;have hb2:=run_bytesToString (P:=P) w ⟨g,0,none⟩ es.length cap ns hl;rw[Me,show ByteArray.empty.data= #[]from rfl,Array.empty_append,<-hs]at hb2;simp only[execOp,ho,hq,qjR,hc,hb2,qj0,qjI]
    ·exact hv.elim
 ·rename_i e1;rw[e1]at hx;have:=hx.inv_v;exact⟨_,_,nil this, .str _ (by simp[ByteArray.size,maxLen]),hv⟩
 ·exact hv.elim
theorem Np{mx:Bool}{c:Call}(ho:o.op= .call c)(hc:c.callee= .builtin (if mx then .max else .min))
 (hx:∀x∈c.args.toList,R tp I w (a.eval x) (ev σ x)) {H:aa} (hv:ah (.mm mx c.args.toList) σ H K):Good P o a tp I w K:=by
 obtain⟨cl,⟨args⟩,ats⟩:=c;simp only at hx hc hv;subst hc
 match args,hx,hv with
 | [],_,hv=>exact hv.elim
 | [_],_,hv=>exact hv.elim
 | [x,y],hx,hv=>
   simp only[ah]at hv;split at hv
   ·rename_i k p k' q e1 e2;obtain⟨rfl,hk⟩:=hv;have hx1:=hx x (by simp);rw[e1]at hx1;have hx2:=hx y (by simp);rw[e2]at hx2;have h1:=hx1.inv_v;have h2:=hx2.inv_v;refine⟨_,_,?_, .int _ _,hk⟩;cases mx
    ·simp[execOp,ho,resolve,invoke,builtin,h1,h2,Builtin.min_,Builtin.min2];split <;> omega
    ·simp[execOp,ho,resolve,invoke,builtin,h1,h2,Builtin.max_,Builtin.max2];split <;> omega
   ·exact hv.elim
 | [x,y,z],hx,hv=>
   simp only[ah]at hv;split at hv
   ·rename_i k p k' q k'' r e1 e2 e3;obtain⟨rfl,rfl,hk⟩:=hv;have hx1:=hx x (by simp);rw[e1]at hx1;have hx2:=hx y (by simp);rw[e2]at hx2;have hx3:=hx z (by simp);rw[e3]at hx3;have h1:=hx1.inv_v;have h2:=hx2.inv_v;have h3:=hx3.inv_v;refine⟨_,_,?_, .int _ _,hk⟩;cases mx
    ·simp[execOp,ho,resolve,invoke,builtin,h1,h2,h3,Builtin.min_,Builtin.min2]
     (repeat' split) <;> omega
    ·simp[execOp,ho,resolve,invoke,builtin,h1,h2,h3,Builtin.max_,Builtin.max2]
     (repeat' split) <;> omega
   ·exact hv.elim
 | _::_::_::_::_,_,hv=>exact hv.elim
end
end Go.Gv
