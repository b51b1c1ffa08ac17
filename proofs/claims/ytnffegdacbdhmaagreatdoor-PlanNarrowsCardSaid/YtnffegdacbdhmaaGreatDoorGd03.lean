/- S2 -/
import Derived.Laws.BytesString
import Derived.Test.YtnffegdacbdhmaaGreatDoorGd02
set_option linter.all false
namespace Go.Gv
section
variable {P:Program}{o:Oper}{a:Act}{tp I:Nat->Prop}{w:World}{σ:Sg}{K:D->Prop}
def tQ{t:TypeId}{b:Bool}(h:iv P t=some b)(w:World):(isAgg t).run P w= .ok b w:=by
 unfold iv at h;cases hu:P.underlying t with
 |none=>simp[hu]at h
 | some d=>
   rw[hu]at h;unfold isAgg;rw[qAk,run_underlying hu w];cases d<;>simp at h<;>subst h<;>simp
def aW{t:TypeId}{n:Nat}(h:dn P t=some n)(w:World):(sizeOf t).run P w= .ok n w:=by
 unfold dn at h;cases hu:P.info? t with
 |none=>simp[hu]at h
 | some i=>
   rw[hu]at h;simp at h;simp[sizeOf,typeInfo,hu,h]
def lD(b o n:Nat):(⟨b,o,none⟩:Addr).add n=⟨b,o+n,none⟩:=Addr.add_lit b o n
theorem qfF{t:TypeId}{agg:Bool}{sz:Nat}(ha:iv P t=some agg)(hs:dn P t=some sz)(h1:(agg||sz=1)=true){cs:List D}{off b base:Nat}{f:Nat->Value}(hlen:off+sz<=cs.length)
 (hcell:∀(k:Nat) (c:D),cs[k]? =some c->w.cell? ⟨b,base+k,none⟩=some (f k))
 (hone:∀(k:Nat) (c:D),cs[k]? =some c->(f k).oneCell'=true)
 (h:∀(k:Nat) (c:D),cs[k]? =some c->R tp I w (f k) c):
 ∃x,(loadVar t ⟨b,base+off,none⟩).run P w= .ok x w/\R tp I w x (Kw agg sz cs off):=by
 have at_:∀j,j<sz->∃c,cs[off+j]? =some c:=λj hj=>⟨cs[off+j]'(by omega),qzX (by omega)⟩
 have hl:(loadCells ⟨b,base+off,none⟩ sz).run P w= .ok ((List.range sz).map λj=>f (off+j)).toArray w:=
  run_loadCells w _ sz _ (λj hj=>by
   obtain⟨c,hc⟩:=at_ j hj;rw[lD];have:=hcell (off+j) c hc;rwa [<-qBu]at this)
 cases agg with
 | true=>
   refine⟨.agg ((List.range sz).map λj=>f (off+j)).toArray,by simp[loadVar,tQ ha,aW hs,hl],?_⟩;simp only[Kw,if_true];refine .agg _ _ (by simp;omega) (λx hx=>?_) (λk x c hx hc=>?_)
   ·obtain⟨j,hj,rfl⟩:=qz1.1 hx;obtain⟨c,hc⟩:=at_ j (by simpa using hj);exact hone _ c hc
   ·rw[qz7]at hx;rw[qAf]at hc;split at hc
    ·rename_i hk;rw[qAF]at hc;rw[qBD hk]at hx;simp at hx;subst hx;exact h _ c hc
    ·cases hc
 | false=>
   have hsz:sz=1:=by simpa using h1
   subst hsz;obtain⟨c,hc⟩:=at_ 0 (by omega);simp only[qA5]at hc;refine⟨f off,?_,?_⟩
   ·simp[loadVar,tQ ha,hcell off c hc]
   ·simp only[Kw,hc,qAJ,if_false,qAE];exact h off c hc
theorem yn{xs:Array Value}{cells:List D}{b el:Nat}(hg:w.heap[b]? =some (.cells xs el (0,0)))(hl:xs.size=cells.length)(hc:bN (R tp I w) xs.toList cells):
 ∃f:Nat->Value,(∀(k:Nat) (c:D),cells[k]? =some c->w.cell? ⟨b,0+k,none⟩=some (f k))/\(∀(k:Nat) (c:D),cells[k]? =some c->(f k).oneCell'=true)/\(∀(k:Nat) (c:D),cells[k]? =some c->R tp I w (f k) c):=by
 refine⟨λk=>xs.getD k undef,λk c hk=>?_,λk c hk=>?_,λk c hk=>?_⟩
 all_goals
  have hlt:k<xs.size:=by rw[hl];exact(qzV.1 hk).1
  have hx:xs[k]? =some xs[k]:=by simp[hlt]
  have hg':xs.getD k undef=xs[k]:=by simp[Array.getD,hlt]
 ·dsimp only;rw[Nat.zero_add,cell_of_row w b k xs el (0,0) hg,hx,hg']
 ·dsimp only;rw[hg'];exact(hc k _ c (by first|exact hx|simp) hk).1
 ·dsimp only;rw[hg'];exact(hc k _ c (by first|exact hx|simp) hk).2
theorem qbY{xs:List Value}{x:Value}{el n:Nat}{es:List D}(ho:w.ownsRow 0 el n x es.length xs)(hn:∀d∈es,d.kn=true/\d.cells.length=n)(hc:bN (R tp I w) xs (be es))
 {i:Nat} {d:D} (hi:es[i]? =some d) {b:Nat} (hb:x.ownBlock=some b):
 ∃f:Nat->Value,(∀(k:Nat) (c:D),d.cells[k]? =some c->w.cell? ⟨b,i*n+k,none⟩=some (f k))/\(∀(k:Nat) (c:D),d.cells[k]? =some c->(f k).oneCell'=true)/\(∀(k:Nat) (c:D),d.cells[k]? =some c->R tp I w (f k) c):=by
 have hdn:d.cells.length=n:=(hn d (qzY hi)).2;have hfl:=aY (es:=es) (λd hd=>(hn d hd).2);have hil:i<es.length:=(qzV.1 hi).1;have key:∀(k:Nat) (c:D),d.cells[k]? =some c->∃y,xs[i*n+k]? =some y/\(be es)[i*n+k]? =some c:=by
  intro k c hk;have hkn:k<n:=by rw[<-hdn];exact(qzV.1 hk).1
  have hf:(be es)[i*n+k]? =some c:=by rw[hU (λd hd=>(hn d hd).2) hkn,hi];exact hk
  have hlt:i*n+k<xs.length:=by
   have:=(qzV.1 hf).1;rw[ho.1,<-hfl];exact this
  exact⟨xs[i*n+k],by simp[hlt],hf⟩
 refine⟨λk=>xs.getD (i*n+k) undef,λk c hk=>?_,λk c hk=>?_,λk c hk=>?_⟩
 all_goals
  obtain⟨y,hy,hf⟩:=key k c hk;have hg':xs.getD (i*n+k) undef=y:=by simp[List.getD,hy]
 ·dsimp only;rw[hg'];have:=ho.cells hb _ _ hy;rwa [lD,qAG]at this
 ·dsimp only;rw[hg'];exact(hc _ _ c hy hf).1
 ·dsimp only;rw[hg'];exact(hc _ _ c hy hf).2
theorem Qh{t:TypeId}{agg:Bool}{sz:Nat}{x:Operand}(ho:o.op= .load t x)(ha:iv P t=some agg)(hs:dn P t=some sz)(h1:(agg||sz=1)=true)(hx:R tp I w (a.eval x) (ev σ x)){H Hr:ab}
 (hle:∀i r,Hr i=some r->H i=some r) (hsat:∀i r,H i=some r->ResOk (R tp I w) w r) (hv:aj (.load agg sz x) σ Hr K):Good P o a tp I w K:=by
 simp only[aj]at hv;generalize hq:a.eval x=q at hx;have sC:∀(b base off:Nat) (cs:List D) (f:Nat->Value),q= .pointer (some ⟨b,base+off,none⟩)->off+sz<=cs.length->(∀(k:Nat) (c:D),cs[k]? =some c->w.cell? ⟨b,base+k,none⟩=some (f k))->
  (∀(k:Nat) (c:D),cs[k]? =some c->(f k).oneCell'=true)->(∀(k:Nat) (c:D),cs[k]? =some c->R tp I w (f k) c)->K (Kw agg sz cs off)->Good P o a tp I w K:=by
  intro b base off cs f hq' hlen k1 k2 k3 hk;obtain⟨y,hr,hR⟩:=qfF (P:=P) ha hs h1 hlen k1 k2 k3;exact⟨y,_,by simp[execOp,ho,hq,hq',Instr.loadAt,Instr.sureAddr,hr],hR,hk⟩
 split at hv
 ·rename_i cs off e1;rw[e1]at hx;cases hx with
  |cptr b base _ _ f hI hz hcell hone h=>exact sC b base off cs f rfl hv.1 hcell hone h hv.2
 ·rename_i id b off e1;rw[e1]at hx;cases hx;split at hv
  ·rename_i b' cells hH;obtain⟨rfl,hlen,hk⟩:=hv;obtain⟨xs,el,g1,g2,g3⟩:=hsat _ _ (hle _ _ hH);obtain⟨f,k1,k2,k3⟩:=yn g1 g2 g3;exact sC b' 0 off cells f (by rw[qAG]) hlen k1 k2 k3 hk
  ·exact hv.elim
 ·rename_i id y n i off e1;rw[e1]at hx;cases hx with
  | eptr _ b len cap _ _ _=>
    split at hv
    ·rename_i x' el n' es hH;obtain⟨rfl,rfl,hlen,hi,hk⟩:=hv;obtain⟨xs,g1,g2,g3⟩:=hsat _ _ (hle _ _ hH);have hd:es[i]? =some es[i]:=by simp[hi]
     obtain⟨f,k1,k2,k3⟩:=qbY g1 g2 g3 hd (b:=b) rfl;exact sC b (i*n') off es[i].cells f rfl (by rw[(g2 _ (qzY hd)).2];exact hlen) k1 k2 k3 (hk _ hd)
    ·exact hv.elim
 ·exact hv.elim
theorem qf0{t:TypeId}{fs:Array Field}{fi:Nat}{fd:Field}{agg:Bool}{sz:Nat}{x:Operand}(ho:o.op= .field t x fi)(ht:P.underlying t=some (.struct fs))(hf:fs[fi]? =some fd)
 (ha:iv P fd.type=some agg) (hs:dn P fd.type=some sz) (h1:(agg||sz=1)=true) (hx:R tp I w (a.eval x) (ev σ x)) {H:ab} (hv:aj (.fld agg sz fd.offset x) σ H K):Good P o a tp I w K:=by
 simp only[aj]at hv;split at hv
 ·rename_i cs e1;rw[e1]at hx;obtain⟨xs,hq,hl,hc⟩:=hx.inv_agg;obtain⟨hlen,hk⟩:=hv;cases agg with
  | true=>
    refine⟨.agg ((xs.drop fd.offset).take sz).toArray,_,?_,?_,hk⟩
    ·simp only[execOp,ho,hq,Instr.field,asAgg,qAk,run_underlying ht,qz8,hf,part,tQ ha,aW hs,qAu,if_true];simp[List.take_drop,qCr]
    ·simp only[Kw,if_true];refine .agg _ _ (by simp[hl]) (λy hy=>?_) (λk y c hy hc'=>?_)
     ·have hy':=qAP (qAl hy);obtain⟨k,hk'⟩:=qAp.1 hy';have hlt:k<cs.length:=by rw[<-hl];exact(qzV.1 hk').1
      exact(hc k y _ hk' (qzX hlt)).1
     ·rw[qAf]at hy hc';split at hy
      ·rename_i hlt;rw[if_pos hlt]at hc';rw[qAF]at hy hc';exact(hc _ y c hy hc').2
      ·cases hy
  | false=>
    have hsz:sz=1:=by simpa using h1
    subst hsz;have hlt:fd.offset<cs.length:=by omega
    have hlt':fd.offset<xs.length:=by omega
    refine⟨xs[fd.offset],_,?_,?_,hk⟩
    ·simp only[execOp,ho,hq,Instr.field,asAgg,qAk,run_underlying ht,qz8,hf,part,tQ ha,qAu,qAJ,if_false];simp[hlt']
    ·simp only[Kw,qAJ,if_false,qzX hlt,qAE];exact(hc fd.offset _ _ (by simp[hlt']) (by simp[hlt])).2
 ·exact hv.elim
theorem uH{d:Nat}{x:Operand}(run:∀b off,a.eval x= .pointer (some ⟨b,off,none⟩)->(execOp a.eval o).run P w= .ok (.value (.pointer (some ⟨b,off+d,none⟩))) w)
 (hx:R tp I w (a.eval x) (ev σ x)) {H:ab} (hv:aj (.faddr d x) σ H K):Good P o a tp I w K:=by
 simp only[aj]at hv;generalize hq:a.eval x=q at hx run;split at hv
 ·rename_i cs off e1;rw[e1]at hx;cases hx with
  | cptr b base _ _ f hI hz hcell hone h=>
    refine⟨_,_,run _ _ rfl,?_,hv⟩;rw[qBu];exact .cptr b base cs _ f hI hz hcell hone h
 ·rename_i id b off e1;rw[e1]at hx;cases hx;exact⟨_,_,run _ _ rfl, .bptr _ _ _,hv⟩
 ·rename_i id y n i off e1;rw[e1]at hx;cases hx with
  | eptr _ b len cap _ _ _=>
    refine⟨_,_,run _ _ rfl,?_,hv⟩;rw[qBu];exact .eptr id b len cap n i _
 ·exact hv.elim
def Y8{t:TypeId}{fs:Array Field}{fi:Nat}{fd:Field}{sz:Nat}{x:Operand}(ho:o.op= .fieldAddr t x fi)(ht:P.underlying t=some (.struct fs))(hf:fs[fi]? =some fd)
 (hs:dn P fd.type=some sz) (h0:0<sz) (hx:R tp I w (a.eval x) (ev σ x)) {H:ab} (hv:aj (.faddr fd.offset x) σ H K):Good P o a tp I w K:=by
 have hne:sz≠0:=by omega
 refine uH (λb off hb=>?_) hx hv;simp[execOp,ho,hb,Instr.fieldAt,run_underlying ht,hf,Instr.sureAddr,fieldPlace,aW hs,hne,lD]
def Zb{t el:TypeId}{len sz:Nat}{k:Int}{x:Operand}(ho:o.op= .indexAddr t x (.const (.int .i64 k)))(ht:P.underlying t=some (.array len el))(hs:dn P el=some sz)(h0:0<=k/\k<len)
 (hx:R tp I w (a.eval x) (ev σ x)) {H:ab} (hv:aj (.faddr (k.toNat*sz) x) σ H K):Good P o a tp I w K:=by
 refine uH (λb off hb=>?_) hx hv;have hc:a.eval (.const (.int .i64 k))= .int .i64 k:=rfl;simp[execOp,ho,hc,hb,Instr.indexAt,asIntOf,run_underlying ht,Instr.sureAddr,h0.1,h0.2,aW hs,lD]
theorem Y7{t el:TypeId}{n:Nat}{x i:Operand}(ho:o.op= .indexAddr t x i)(ht:P.underlying t=some (.slice el))(hs:dn P el=some n)
 (hx:R tp I w (a.eval x) (ev σ x)) (hi:R tp I w (a.eval i) (ev σ i)) {H Hr:ab} (hle:∀i r,Hr i=some r->H i=some r) (hsat:∀i r,H i=some r->ResOk (R tp I w) w r)
 (hv:aj (.iaddr n x i) σ Hr K):Good P o a tp I w K:=by
 simp only[aj]at hv;generalize hq:a.eval x=q at hx;split at hv
 ·rename_i kk k e1;rw[e1]at hi;have hi':=hi.inv_v;have run:∀b off len cap,q= .slice (some ⟨b,off,none⟩) len cap->0<=k->k<len->(execOp a.eval o).run P w= .ok (.value (.pointer (some ⟨b,off+k.toNat*n,none⟩))) w:=by
   intro b off len cap hb h0 h1;simp[execOp,ho,hq,hi',hb,Instr.indexAt,asIntOf,run_underlying ht,h0,h1,aW hs,lD]
  split at hv
  ·rename_i n' es e2;rw[e2]at hx;obtain⟨rfl,h0,h1,hk⟩:=hv;cases hx with
   |nolist=>simp at h1;omega
   | list b off cap _ _ f hI hc hm hz hn hcell hone h=>
     have hlt:k.toNat<es.length:=by omega
     have hd:es[k.toNat]? =some es[k.toNat]:=by simp[hlt]
     refine⟨_,_,run b off _ cap rfl h0 h1,?_,hk _ hd⟩;have hfl:∀(j:Nat) (c:D),es[k.toNat].cells[j]? =some c->(be es)[k.toNat*n'+j]? =some c:=λj c hj=>by
      have hlen:=(hn _ (qzY hd)).2;have hjn:j<n':=by rw[<-hlen];exact(qzV.1 hj).1
      rw[hU (λd hd=>(hn d hd).2) hjn,hd];exact hj
     exact .cptr b (off+k.toNat*n') es[k.toNat].cells 0 (λj=>f (k.toNat*n'+j)) hI (by rw[(hn _ (qzY hd)).2];exact hz) (λj c hj=>by rw[qBu];exact hcell _ c (hfl j c hj)) (λj c hj=>hone _ c (hfl j c hj)) (λj c hj=>h _ c (hfl j c hj))
  ·rename_i id y e2;rw[e2]at hx;cases hx with
   | own _ _ hone=>
     split at hv
     ·rename_i x' el' n' es hH;obtain⟨rfl,rfl,h0,h1,hk⟩:=hv;obtain⟨xs,⟨g1,g2⟩,g3⟩:=hsat _ _ (hle _ _ hH);rcases g2 with⟨_,h4⟩|⟨g,cap,cur,rfl,_⟩
      ·omega
      ·refine⟨_,_,run g 0 _ cap rfl h0 h1,?_,hk⟩;rw[qAG,<-qA5 (k.toNat*n')];exact .eptr id g _ cap n' k.toNat 0
     ·exact hv.elim
  ·rename_i id y n' lo hi e2;rw[e2]at hx;obtain⟨rfl,h0,h1,hk⟩:=hv;cases hx with
   |subnil=>simp at h1;omega
   | sub _ b len cap _ _ _ p g1 g2 g3 hm hp=>
     have hlt:lo<cap:=by omega
     have:=hp (.inl hlt);subst this;refine⟨_,_,run b (lo*n') _ _ rfl h0 h1,?_,hk⟩;rw[<-qBk,<-qA5 ((lo+k.toNat) *n')];exact .eptr id b len cap n' (lo+k.toNat) 0
  ·exact hv.elim
 ·exact hv.elim
theorem qcF{t:TypeId}{x i:Operand}(ho:o.op= .index t x i)(ht:P.underlying t=some .string)
 (hx:R tp I w (a.eval x) (ev σ x)) (hi:R tp I w (a.eval i) (ev σ i)) {H:ab} (hv:aj (.sidx x i) σ H K):Good P o a tp I w K:=by
 simp only[aj]at hv;split at hv
 ·rename_i kk k e1;rw[e1]at hi;have hi':=hi.inv_v;split at hv
  ·rename_i s e2;rw[e2]at hx;have hx':=hx.inv_v;obtain⟨h0,h1,hk⟩:=hv;have hlt:k.toNat<s.size:=by omega
   have hlt':k.toNat<s.data.size:=hlt;have hget:s.data[k.toNat]? =some s.data[k.toNat]:=by simp[hlt']
   refine⟨.int .u8 (s.data[k.toNat]).toNat,_,?_, .int _ _,hk _ hget⟩;have hs?:s[k.toNat]? =some (s.data[k.toNat]):=by
    rw[getElem?_pos s k.toNat hlt];rfl
   simp[execOp,ho,hx',hi',Instr.index,asIntOf,run_underlying ht,h0,hs?]
  ·exact hv.elim
 ·exact hv.elim
theorem qfZ{t e:TypeId}{c:Call}{x:Operand}(ho:o.op= .call c)(hc:c.callee= .builtin .len)(hat:c.argTypes.toList=[t])(hargs:c.args.toList=[x])(ht:P.underlying t=some (.slice e))
 (hx:R tp I w (a.eval x) (ev σ x)) {H Hr:ab} (hle:∀i r,Hr i=some r->H i=some r) (hsat:∀i r,H i=some r->ResOk (R tp I w) w r)
 (hv:aj (.len x) σ Hr K):Good P o a tp I w K:=by
 obtain⟨cl,⟨args⟩,⟨ats⟩⟩:=c;simp only at hat hargs hc;subst hat;subst hargs;subst hc;simp only[aj]at hv;generalize hq:a.eval x=q at hx;have run:∀b n cap,q= .slice b n cap->(execOp a.eval o).run P w= .ok (.value (.int .i64 n)) w:=by
  intro b n cap hb;simp[execOp,ho,resolve,invoke,builtin,hq,hb,Builtin.len_,run_underlying ht,goInt]
 split at hv
 ·rename_i n es e1;rw[e1]at hx;cases hx with
  |nolist b cap _=>exact⟨_,_,run b 0 cap rfl, .int _ _,by simpa using hv (by simp)⟩
  |list b off cap _ _ f hI hcap hm hz hn hcell hone h=>exact⟨_,_,run _ _ _ rfl, .int _ _,hv (by simp only[maxLen]at hm;omega)⟩
 ·rename_i id y e1;rw[e1]at hx;cases hx with
  | own _ _ hone=>
    split at hv
    ·rename_i x' el n' es hH;obtain⟨rfl,hk⟩:=hv;obtain⟨xs,⟨g1,g2⟩,g3⟩:=hsat _ _ (hle _ _ hH);rcases g2 with⟨rfl,h4⟩|⟨g,cap,cur,rfl,_,_,hcap,hm,_⟩
     ·have:es=[]:=qAd h4;subst this;exact⟨_,_,run _ 0 _ rfl, .int _ _,by simpa using hk (by simp)⟩
     ·exact⟨_,_,run _ _ _ rfl, .int _ _,hk (by simp only[maxLen]at hm;omega)⟩
    ·exact hv.elim
 ·rename_i e1;rw[e1]at hx;have:=hx.inv_v;exact⟨_,_,run _ _ _ this, .int _ _,hv⟩
 ·rename_i id y n' lo hi e1;rw[e1]at hx;cases hx with
  |subnil=>exact⟨_,_,run _ 0 _ rfl, .int _ _,by simpa using hv (by simp)⟩
  |sub _ b len cap _ _ _ p g1 g2 g3 hm hp=>exact⟨_,_,run _ _ _ rfl, .int _ _,hv (by simp only[maxLen]at hm;omega)⟩
 ·exact hv.elim
def qf3{t e:TypeId}{c:Call}{x:Operand}(ho:o.op= .call c)(hc:c.callee= .builtin .cap)(hat:c.argTypes.toList=[t])(hargs:c.args.toList=[x])(ht:P.underlying t=some (.slice e))
 (hx:R tp I w (a.eval x) (ev σ x)) {Hr:ab} (hv:aj (.cap x) σ Hr K):Good P o a tp I w K:=by
 obtain⟨cl,⟨args⟩,⟨ats⟩⟩:=c;simp only at hat hargs hc;subst hat;subst hargs;subst hc;simp only[aj]at hv;split at hv
 ·rename_i e1;rw[e1]at hx;have:=hx.inv_v;refine⟨.int .i64 0,_,?_, .int _ _,hv⟩;simp[execOp,ho,resolve,invoke,builtin,this,Builtin.cap_,run_underlying ht,goInt]
 ·exact hv.elim
def qcE{t:TypeId}{c:Call}{x:Operand}(ho:o.op= .call c)(hc:c.callee= .builtin .len)(hat:c.argTypes.toList=[t])(hargs:c.args.toList=[x])(ht:P.underlying t=some .string)
 (hx:R tp I w (a.eval x) (ev σ x)) {H:ab} (hv:aj (.slen x) σ H K):Good P o a tp I w K:=by
 obtain⟨cl,⟨args⟩,⟨ats⟩⟩:=c;simp only at hat hargs hc;subst hat;subst hargs;subst hc;simp only[aj]at hv;split at hv
 ·rename_i s e1;rw[e1]at hx;obtain⟨h1,h2⟩:=hx.inv_str;refine⟨.int .i64 s.size,_,?_, .int _ _,hv (by simp only[maxLen]at h2;omega)⟩;simp[execOp,ho,resolve,invoke,builtin,h1,Builtin.len_,run_underlying ht,goInt]
 ·exact hv.elim
theorem qbZ{xs:List Value}{es:List D}(hl:xs.length=es.length)(hb:qk8 es=true)(h:∀(k:Nat) (y:Value) (c:D),xs[k]? =some y->es[k]? =some c->R tp I w y c):
 ∃ns:List Int,xs=ns.map (Value.int .u8)/\ns.map (λn=>UInt8.ofNat n.toNat)=es.map λd=>(Zv d).getD 0:=by
 induction xs generalizing es with
 | nil=>
   have:es=[]:=qAd (by simpa using hl.symm);subst this;exact⟨[],rfl,rfl⟩
 | cons x xs ih=>
   cases es with
   |nil=>simp at hl
   | cons d es=>
     simp only[qk8,qBN,qzZ]at hb;obtain⟨ns,h1,h2⟩:=ih (es:=es) (by simpa using hl) hb.2 (λk y c hy hc=>h (k+1) y c (by simpa using hy) (by simpa using hc));have hx:=h 0 x d rfl rfl;cases hd:Zv d with
     |none=>rw[hd]at hb;simp at hb
     | some c=>
       unfold Zv at hd;split at hd
       ·rename_i n;cases hd;have:=hx.inv_v;subst this;refine⟨n::ns,by rw[h1];rfl,?_⟩;simp only[qAo,h2];rfl
       ·cases hd
def Xl:∀{es:List D},qk8 es=true->be es=es
 | [],_=>rfl
 | d::es,hb=>by
   simp only[qk8,qBN,qzZ]at hb;have hd:=hb.1;have:d.cells=[d]:=by
    cases d<;>first|rfl|simp[Zv]at hd
   have ih:=Xl (es:=es) hb.2;unfold be at ih ⊢;rw[qAw,this,ih];rfl
def Zf(l:List Int):∀s:ByteArray,l.foldl (λr n=>r.push (UInt8.ofNat n.toNat)) s=⟨s.data++ (l.map λn=>UInt8.ofNat n.toNat).toArray⟩:=by
 induction l with
 |nil=>intro s;simp
 | cons n l ih=>
   intro s;rw[qAU,ih];simp[ByteArray.push]
def WA(n:Int):(Utf8.encode n).size<=4:=by
 unfold Utf8.encode;simp only;generalize (if Utf8.valid n=true then n.toNat else Utf8.runeError)=c;split
 ·exact qz0 rfl
 ·split
  ·exact qz0 rfl
  ·split<;>exact qz0 rfl
def qcH{t u:TypeId}{k:IntKind}{x:Operand}(ho:o.op= .convert t u x)(ht:P.underlying t=some (.int k))(hu:P.underlying u=some .string)
 (hx:R tp I w (a.eval x) (ev σ x)) {H:ab} (hv:aj (.rstr x) σ H K):Good P o a tp I w K:=by
 simp only[aj]at hv;split at hv
 ·rename_i k1 n e1;rw[e1]at hx;have h1:=hx.inv_v;refine⟨_,_,?_, .str (Utf8.encode n) (qAx (WA n) (qz0 rfl)),hv⟩;simp[execOp,ho,h1,convert,run_underlying ht,run_underlying hu,Conv.intToString]
 ·exact hv.elim
theorem qcN{t u el:TypeId}{x:Operand}(ho:o.op= .convert t u x)(ht:P.underlying t=some (.slice el))(hu:P.underlying u=some .string)(he:P.underlying el=some (.int .u8))
 (hx:R tp I w (a.eval x) (ev σ x)) {H Hr:ab} (hle:∀i r,Hr i=some r->H i=some r) (hsat:∀i r,H i=some r->ResOk (R tp I w) w r)
 (hv:aj (.bstr x) σ Hr K):Good P o a tp I w K:=by
 simp only[aj]at hv;generalize hq:a.eval x=q at hx;have nil:q= .slice none 0 0->(execOp a.eval o).run P w= .ok (.value (.string ⟨#[]⟩)) w:=λhb=>by
  have:=run_convert_bytes_string (P:=P) w t u el none 0 0 ht he hu;simp only[execOp,ho,hq,hb,qAk,this,Conv.bytesToString,qAu,qz8];rfl
 split at hv
 ·rename_i id y e1;rw[e1]at hx;cases hx with
  | own _ _ hone=>
    split at hv
    ·rename_i x' el' n' es hH;obtain⟨rfl,rfl,hb,hk⟩:=hv;obtain⟨xs,hown,g3,g4⟩:=hsat _ _ (hle _ _ hH);have hcells:=λg hg=>hown.cells (g:=g) hg
     obtain⟨g1,g2⟩:=hown;have hfl:=aY (es:=es) (λd hd=>(g3 d hd).2);have hxl:xs.length=es.length:=by omega
     have hfe:be es=es:=by
      exact Xl hb
     rw[hfe]at g4;obtain⟨ns,h1,h2⟩:=qbZ hxl hb (λk y c hy hc=>(g4 k y c hy hc).2);have hs:qnr es=⟨(ns.map λn=>UInt8.ofNat n.toNat).toArray⟩:=by rw[h2];rfl
     have hsz:(qnr es).size=es.length:=by show((es.map λd=>(Zv d).getD 0).toArray).size=_;simp
     rcases g2 with⟨rfl,h4⟩|⟨g,cap,cur,rfl,_,_,hcap,hm,_⟩
     ·have hes:es=[]:=qAd h4;subst hes;exact⟨_,_,nil rfl, .str _ (by simp[ByteArray.size,maxLen]),hk⟩
     ·refine⟨.string (qnr es),_,?_, .str _ (by omega),hk⟩;have hc:=run_convert_bytes_string (P:=P) w t u el (some ⟨g,0,none⟩) es.length cap ht he hu;have hl:=run_loadCells_list (P:=P) w ⟨g,0,none⟩ xs (λj v hj=>hcells g rfl j v hj);rw[hxl,h1]at hl;have hb2:=run_bytesToString (P:=P) w ⟨g,0,none⟩ es.length cap ns hl;rw[Zf,show ByteArray.empty.data= #[]from rfl,Array.empty_append,<-hs]at hb2;simp only[execOp,ho,hq,qAk,hc,hb2,qAu,qz8]
    ·exact hv.elim
 ·rename_i e1;rw[e1]at hx;have:=hx.inv_v;exact⟨_,_,nil this, .str _ (by simp[ByteArray.size,maxLen]),hv⟩
 ·exact hv.elim
theorem qaP{mx:Bool}{c:Call}(ho:o.op= .call c)(hc:c.callee= .builtin (if mx then .max else .min))
 (hx:∀x∈c.args.toList,R tp I w (a.eval x) (ev σ x)) {H:ab} (hv:aj (.mm mx c.args.toList) σ H K):Good P o a tp I w K:=by
 obtain⟨cl,⟨args⟩,ats⟩:=c;simp only at hx hc hv;subst hc
 match args,hx,hv with
 | [],_,hv=>exact hv.elim
 | [_],_,hv=>exact hv.elim
 | [x,y],hx,hv=>
   simp only[aj]at hv;split at hv
   ·rename_i k p k' q e1 e2;obtain⟨rfl,hk⟩:=hv;have hx1:=hx x (by simp);rw[e1]at hx1;have hx2:=hx y (by simp);rw[e2]at hx2;have h1:=hx1.inv_v;have h2:=hx2.inv_v;refine⟨_,_,?_, .int _ _,hk⟩;cases mx
    ·simp[execOp,ho,resolve,invoke,builtin,h1,h2,Builtin.min_,Builtin.min2];split<;>omega
    ·simp[execOp,ho,resolve,invoke,builtin,h1,h2,Builtin.max_,Builtin.max2];split<;>omega
   ·exact hv.elim
 | [x,y,z],hx,hv=>
   simp only[aj]at hv;split at hv
   ·rename_i k p k' q k'' r e1 e2 e3;obtain⟨rfl,rfl,hk⟩:=hv;have hx1:=hx x (by simp);rw[e1]at hx1;have hx2:=hx y (by simp);rw[e2]at hx2;have hx3:=hx z (by simp);rw[e3]at hx3;have h1:=hx1.inv_v;have h2:=hx2.inv_v;have h3:=hx3.inv_v;refine⟨_,_,?_, .int _ _,hk⟩;cases mx
    ·simp[execOp,ho,resolve,invoke,builtin,h1,h2,h3,Builtin.min_,Builtin.min2]
     (repeat' split)<;>omega
    ·simp[execOp,ho,resolve,invoke,builtin,h1,h2,h3,Builtin.max_,Builtin.max2]
     (repeat' split)<;>omega
   ·exact hv.elim
 | _::_::_::_::_,_,hv=>exact hv.elim
end
section
variable {P:Program}{o:Oper}{a:Act}{tp I:Nat->Prop}{w:World}{σ:Sg}{K:D->Prop}
def Ni{t:TypeId}{k:XI}(h:ml P t=some k):iv P t=some false:=by
 unfold ml at h;unfold iv;cases hu:P.underlying t with
 |none=>simp[hu]at h
 |some d=>rw[hu]at h;cases d<;>simp at h ⊢
def Xk(a b:ByteArray):(a.toList==b.toList)=decide (a=b):=by
 rw[qBO,qBO];have:(a=b) ↔ (a.data.toList=b.data.toList):=by
  constructor
  ·intro h;rw[h]
  ·intro h;cases a;cases b;simp only at h;congr 1;exact qBy.1 h
 simp only[this];rw[qAB];simp
def Cp{d:D}{p:IntKind×Int}(h:mC d=some p):d= .v (.int p.1 p.2):=by
 unfold mC at h;split at h
 ·cases h;rfl
 ·cases h
def qhi{d:D}{s:ByteArray}(h:qq4 d=some s):d= .v (.string s):=by
 unfold qq4 at h;split at h
 ·cases h;rfl
 ·cases h
def qhj{d:D}{b:Bool}(h:qq5 d=some b):d= .v (.bool b):=by
 unfold qq5 at h;split at h
 ·cases h;rfl
 ·cases h
def JK{d:D}{cs:List D}(h:rV d=some cs):d= .agg cs:=by
 unfold rV at h;split at h
 ·cases h;rfl
 ·cases h
theorem Qn{k:XI}{d e:D}{p:Bool}(h:Zm k d e=some p):
 (k= .int/\∃kk a b,d= .v (.int kk a)/\e= .v (.int kk b)/\p=decide (a=b))\/(k= .str/\∃a b,d= .v (.string a)/\e= .v (.string b)/\p=decide (a=b))\/
 (k= .bool/\∃a b,d= .v (.bool a)/\e= .v (.bool b)/\p=decide (a=b)):=by
 cases k with
 | int=>
   simp only[Zm,qzU]at h;obtain⟨⟨k1,a⟩,h1,⟨k2,b⟩,h2,h3⟩:=h;split at h3
   ·rename_i hk;simp only at hk h3;subst hk;cases h3;exact .inl ⟨rfl,k1,a,b,Cp h1,Cp h2,rfl⟩
   ·cases h3
 | str=>
   simp only[Zm,qzU]at h;obtain⟨a,h1,b,h2,h3⟩:=h;cases h3;exact .inr (.inl ⟨rfl,a,b,qhi h1,qhi h2,rfl⟩)
 | bool=>
   simp only[Zm,qzU]at h;obtain⟨a,h1,b,h2,h3⟩:=h;cases h3;exact .inr (.inr ⟨rfl,a,b,qhj h1,qhj h2,rfl⟩)
def Zl{t:TypeId}(h:ml P t=some .int):∃k,P.underlying t=some (.int k):=by
 unfold ml at h;split at h<;>first|exact⟨_,by assumption⟩|cases h
def Zk{t:TypeId}(h:ml P t=some .str):P.underlying t=some .string:=by
 unfold ml at h;split at h<;>first|assumption|cases h
def Wy{t:TypeId}(h:ml P t=some .bool):P.underlying t=some .bool:=by
 unfold ml at h;split at h<;>first|assumption|cases h
def qak{t:TypeId}{k:XI}(h:ml P t=some k){x y:Value}{d e:D}(hx:R tp I w x d)(hy:R tp I w y e){p:Bool}(hp:Zm k d e=some p)(n:Nat)(w':World):
 (Op.equalIn (n+1) t x y).run P w'= .ok p w':=by
 rcases Qn hp with⟨rfl,kk,q,r,rfl,rfl,rfl⟩|⟨rfl,q,r,rfl,rfl,rfl⟩|⟨rfl,q,r,rfl,rfl,rfl⟩
 ·have h1:=hx.inv_v;have h2:=hy.inv_v;subst h1;subst h2;obtain⟨k0,hu⟩:=Zl h;rw[run_equalIn_int w' n t _ _ _ _ hu];simp[BEq.beq]
 ·have h1:=hx.inv_v;have h2:=hy.inv_v;subst h1;subst h2;rw[run_equalIn_string w' n t _ _ (Zk h),Xk]
 ·have h1:=hx.inv_v;have h2:=hy.inv_v;subst h1;subst h2;rw[run_equalIn_bool' w' n t _ _ (Wy h)];simp[BEq.beq]
def Mc{t:TypeId}(h:iv P t=some false){xs:List Value}{off:Nat}{x:Value}(hx:xs[off]? =some x)(w':World):(part t xs.toArray off).run P w'= .ok x w':=by
 simp[part,tQ h,hx]
theorem RN(n:Nat)(w':World)(fs:List Field):∀(ks:List XI) (as bs:List D) (xs ys:List Value) (s:Nat),
 fs.mapM (fun f => ml P f.type) = some ks → fs.map (·.offset) = List.range' s fs.length → fs.all (fun f => decide (f.name ≠ "_")) = true →
 xs.length=s+as.length->ys.length=s+bs.length->(∀(k:Nat) (x:Value) (c:D),xs[s+k]? =some x->as[k]? =some c->R tp I w x c)->(∀(k:Nat) (x:Value) (c:D),ys[s+k]? =some x->bs[k]? =some c->R tp I w x c)->
 ∀p,Zj ks as bs=some p->(Op.eqFields (n+1) xs.toArray ys.toArray fs).run P w'= .ok p w':=by
 induction fs with
 | nil=>
   intro ks as bs xs ys s hk hof hnm hlx hly hx hy p hp;simp at hk;subst hk;simp[Zj]at hp;simp[Op.eqFields,hp.2]
 | cons f fs ih=>
   intro ks as bs xs ys s hk hof hnm hlx hly hx hy p hp;rw[qAC]at hk;cases hkf:ml P f.type with
   |none=>simp[hkf]at hk
   | some k0=>
     cases hkr:fs.mapM (λf=>ml P f.type)with
     |none=>simp[hkf,hkr]at hk
     | some kr=>
       simp[hkf,hkr]at hk;subst hk;simp only[qAo,qAD,qBY,qAA]at hof;obtain⟨h0,hof⟩:=hof;simp only[qBN,qzZ,decide_eq_true_eq]at hnm;simp only[Zj,qzU]at hp;obtain⟨a0,ha0,b0,hb0,p0,e1,q0,e2,hpq⟩:=hp;cases as with
       |nil=>simp at ha0
       | cons a1 as=>
         cases bs with
         |nil=>simp at hb0
         | cons b1 bs=>
           simp at ha0 hb0;subst ha0;subst hb0;simp only[List.tail_cons]at e2;have lx:s<xs.length:=by rw[hlx];simp
           have ly:s<ys.length:=by rw[hly];simp
           have ex:xs[f.offset]? =some xs[s]:=by rw[h0];simp[lx]
           have ey:ys[f.offset]? =some ys[s]:=by rw[h0];simp[ly]
           have rx:R tp I w xs[s] a1:=hx 0 _ a1 (by simp[lx]) rfl;have ry:R tp I w ys[s] b1:=hy 0 _ b1 (by simp[ly]) rfl;have r1:=qak hkf rx ry e1 n w';simp at hpq;simp only[Op.eqFields,hnm.1,ne_eq,not_false_eq_true,if_true,qAk,Mc (Ni hkf) ex,Mc (Ni hkf) ey,qz8,r1];cases p0
           ·simp at hpq ⊢;exact hpq
           ·simp only[qBF]at hpq;simp only[Bool.not_true,qAJ,if_false];rw[<-hpq];refine ih kr as bs xs ys (s+1) hkr hof hnm.2 (by rw[hlx];simp;omega) (by rw[hly];simp;omega) ?_ ?_ q0 e2
            ·intro k x c h1 h2;exact hx (k+1) x c (by rw[<-h1];congr 1;omega) h2
            ·intro k x c h1 h2;exact hy (k+1) x c (by rw[<-h1];congr 1;omega) h2
theorem Wl{neg:Bool}{t u:TypeId}{x y:Operand}{c:COp}(ho:o.op= .binOp (if neg then .neq else .eql) t x y u)(hc:nL P neg t x y=some c)
 (hx:R tp I w (a.eval x) (ev σ x)) (hy:R tp I w (a.eval y) (ev σ y)) {H:ab} (hv:aj c σ H K):Good P o a tp I w K:=by
 unfold nL at hc;split at hc
 ·rename_i k hk;cases hc;simp only[aj]at hv;split at hv
  ·rename_i p hp;simp only[qgv,qAJ,if_false]at hp;have hr:∀n w',(Op.equalIn (n+1) t (a.eval x) (a.eval y)).run P w'= .ok p w':=λn w'=>qak hk hx hy hp n w'
   refine⟨.bool (if neg then !p else p),_,?_, .bool _,hv⟩;have hr:=hr 9999 w;generalize hq1:a.eval x=p1 at*;generalize hq2:a.eval y=p2 at*;rcases Qn hp with⟨rfl,kk,q,r,e1,e2,rfl⟩|⟨rfl,q,r,e1,e2,rfl⟩|⟨rfl,q,r,e1,e2,rfl⟩
   all_goals
    rw[e1]at hx;rw[e2]at hy;have h1:=hx.inv_v;have h2:=hy.inv_v;subst h1;subst h2
   ·cases neg<;>simp[execOp,ho,hq1,hq2,eqGuard,binOp,Op.intCmp,BEq.beq,bne]
   ·cases neg<;>simp[execOp,ho,hq1,hq2,eqGuard,binOp,Op.stringOp,Xk]
   ·cases neg<;>simp[execOp,ho,hq1,hq2,eqGuard,binOp,Op.equal,Op.maxDepth,hr]
  ·exact hv.elim
 ·rename_i hk;cases hks:zN P t with
  |none=>simp[hks]at hc
  | some ks=>
    simp[hks]at hc;subst hc;unfold zN at hks;split at hks
    ·rename_i fs hu;split at hks
     ·rename_i hcond;simp only[qzZ,qCa,decide_eq_true_eq]at hcond;obtain⟨⟨⟨c1,c2⟩,c3⟩,c4⟩:=hcond;simp only[aj]at hv;split at hv
      ·rename_i p hp;simp only[qgv,if_true,qzU]at hp;obtain⟨as,h1,bs,h2,hp⟩:=hp;rw[JK h1]at hx;rw[JK h2]at hy;obtain⟨xs,ex,lx,kx⟩:=hx.inv_agg;obtain⟨ys,ey,ly,ky⟩:=hy.inv_agg;have hfo:P.fieldsOf t=fs:=by simp[Program.fieldsOf,hu]
       have hrun:=RN (P:=P) (tp:=tp) (I:=I) (w:=w) 9998 w fs.toList ks as bs xs ys 0 hks c3 c4 (by omega) (by omega) (λk x c q1 q2=>(kx k x c (by simpa using q1) q2).2) (λk x c q1 q2=>(ky k x c (by simpa using q1) q2).2) p hp;have hagg:=run_equalIn_struct (P:=P) w 9999 t xs.toArray ys.toArray (by rw[hfo];exact hu) c1;rw[hfo,hrun]at hagg;have hagg:(Op.equalIn 10000 t (Value.agg xs.toArray) (Value.agg ys.toArray)).run P w= .ok p w:=hagg;refine⟨.bool (if neg then !p else p),_,?_, .bool _,hv⟩;cases neg<;>simp only[execOp,ho,ex,ey,if_true,qAJ,if_false,qAk,run_eqGuard_agg _ _ _ _ _ _ _ c2,qz8,run_eql_struct,run_neq_struct,hagg,qAu]
      ·exact hv.elim
     ·cases hks
    ·cases hks
def aN{α β:Type}{f:α->β}{x:Option α}{y:β}(h:x.map f=some y):∃z,x=some z/\f z=y:=by
 cases x with
 |none=>cases h
 |some z=>exact⟨z,rfl,by simpa using h⟩
def Qk{n:Nat} :∀{es:List D} (i:Nat),(∀d∈es,d.cells.length=n)->∀k,(be (es.drop i))[k]? =(be es)[i*n+k]?:=by
 intro es i
 induction i generalizing es with
 |zero=>intro _ k;simp
 | succ i ih=>
   intro h k;cases es with
   |nil=>simp[be]
   | cons d es=>
     have hd:=h d (by simp);have:=ih (es:=es) (λd hd=>h d (by simp[hd])) k;simp only[qCl];rw[this];simp only[be,qAw];rw[qz9 (by rw[hd,qAI];omega),hd];congr 1;rw[qAI];omega
def mJ{es:List D}{h:Nat}{k:Nat}{c:D}(hk:(be (es.take h))[k]? =some c):(be es)[k]? =some c:=by
 have:be es=be (es.take h) ++be (es.drop h):=by rw[<-rK,qAz]
 rw[this,qAe (qzV.1 hk).1];exact hk
theorem MX{b off cap n:Nat}{es:List D}{f:Nat->Value}(hI:I b)(hc:es.length<=cap)(hm:cap<=maxLen)(hz:n≠1->PlainB w b)(hn:∀d∈es,d.kn=true/\d.cells.length=n)
 (hcell:∀(k:Nat) (c:D),(be es)[k]? =some c->w.cell? ⟨b,off+k,none⟩=some (f k)) (hone:∀(k:Nat) (c:D),(be es)[k]? =some c->(f k).oneCell'=true)
 (hr:∀(k:Nat) (c:D),(be es)[k]? =some c->R tp I w (f k) c) {l h:Nat} (hlh:l<=h) (hh:h<=es.length):
 R tp I w (.slice (some ⟨b,off+l*n,none⟩) (h -l) (cap -l)) (.list n ((es.take h).drop l)):=by
 have hlen:((es.take h).drop l).length=h -l:=by simp;omega
 have hmem:∀d∈ (es.take h).drop l,d∈es:=λd hd=>qAl (qAP hd)
 have hget:∀(k:Nat) (c:D),(be ((es.take h).drop l))[k]? =some c->(be es)[l*n+k]? =some c:=by
  intro k c hk;rw[Qk (n:=n) l (λd hd=>(hn d (qAl hd)).2)]at hk;exact mJ hk
 rw[<-hlen];refine .list b (off+l*n) (cap -l) n _ (λk=>f (l*n+k)) hI (by omega) (by omega) hz (λd hd=>hn d (hmem d hd)) (λk c hk=>?_) (λk c hk=>hone _ c (hget k c hk)) (λk c hk=>hr _ c (hget k c hk));rw[qBu];exact hcell _ c (hget k c hk)
theorem EO{lo hi:Option Operand}{len:Nat}{Kc:Nat->Nat->Prop}(hlo:∀y,lo=some y->R tp I w (a.eval y) (ev σ y))(hhi:∀y,hi=some y->R tp I w (a.eval y) (ev σ y))
 (hv:pY (lo.map λo=>mC (ev σ o)) (hi.map λo=>mC (ev σ o)) len Kc):∃l h,l<=h/\h<=len/\Kc l h/\∀cap,len<=cap->(Instr.sliceBounds true len cap (lo.map a.eval) (hi.map a.eval) none).run P w= .ok (l,h,cap) w:=by
 have vint:∀(y:Operand) (p:IntKind×Int),R tp I w (a.eval y) (ev σ y)->mC (ev σ y)=some p->a.eval y= .int p.1 p.2:=λy p hy hp=>by
  rw[Cp hp]at hy;exact hy.inv_v
 unfold pY at hv;split at hv
 ·rename_i e2 e3;have hl:lo=none:=by simpa using e2
  have hh:hi=none:=by simpa using e3
  subst hl;subst hh;exact⟨0,len,qAr _,qz2 _,hv,λcap hc=>by simp[Instr.sliceBounds]⟩
 ·rename_i kk l e2 e3;obtain⟨y,rfl,hy⟩:=aN e2;have hh:hi=none:=by simpa using e3
  subst hh;obtain⟨h0,h1,hk⟩:=hv;have:=vint y _ (hlo y rfl) hy;refine⟨l.toNat,len,by omega,qz2 _,hk,λcap hc=>?_⟩;simp[Instr.sliceBounds,this,Instr.sliceBound,asIntOf,h0,h1]
 ·rename_i kk h e2 e3;obtain⟨y,rfl,hy⟩:=aN e3;have hl:lo=none:=by simpa using e2
  subst hl;obtain⟨h0,h1,hk⟩:=hv;have:=vint y _ (hhi y rfl) hy;refine⟨0,h.toNat,qAr _,by omega,hk,λcap hc=>?_⟩;have h2:h<=(cap:Int):=by omega
  simp[Instr.sliceBounds,this,Instr.sliceBound,asIntOf,h0,h2]
 ·rename_i kl l kh h e2 e3;obtain⟨y,rfl,hy⟩:=aN e2;obtain⟨z,rfl,hz⟩:=aN e3;obtain⟨h0,h1,h2,hk⟩:=hv;have e4:=vint y _ (hlo y rfl) hy;have e5:=vint z _ (hhi z rfl) hz;refine⟨l.toNat,h.toNat,by omega,by omega,hk,λcap hc=>?_⟩;have h3:h<=(cap:Int):=by omega
  have h4:(0:Int)<=h:=by omega
  have h5:l<=((h.toNat:Nat):Int):=by omega
  simp[Instr.sliceBounds,e4,e5,Instr.sliceBound,asIntOf,h0,h3,h4,h5];intro hbad;omega
 ·exact hv.elim
theorem Y5{t el:TypeId}{n:Nat}{x:Operand}{lo hi:Option Operand}(ho:o.op= .slice t x lo hi none)(ht:P.underlying t=some (.slice el))(hs:dn P el=some n)
 (hx:R tp I w (a.eval x) (ev σ x)) (hlo:∀y,lo=some y->R tp I w (a.eval y) (ev σ y)) (hhi:∀y,hi=some y->R tp I w (a.eval y) (ev σ y)) {H Hr:ab} (hle:∀i r,Hr i=some r->H i=some r) (hsat:∀i r,H i=some r->ResOk (R tp I w) w r) (hv:aj (.slice n x lo hi) σ Hr K):Good P o a tp I w K:=by
 simp only[aj]at hv;split at hv
 ·rename_i n' es e1;rw[e1]at hx;obtain⟨rfl,hv⟩:=hv;generalize hq:a.eval x=q at hx;have vint:∀(y:Operand) (p:IntKind×Int),R tp I w (a.eval y) (ev σ y)->mC (ev σ y)=some p->a.eval y= .int p.1 p.2:=λy p hy hp=>by
   rw[Cp hp]at hy;exact hy.inv_v
  have main:∀(l h:Nat),l<=h->h<=es.length->∃y,(∀(bo:Option Addr) (len cap:Nat),q= .slice bo len cap->
   y= .slice (if cap=l then bo else bo.map (·.add (l*n'))) (h -l) (cap -l))/\R tp I w y (.list n' ((es.take h).drop l)):=by
   intro l h h1 h2;cases hx with
   | nolist bo cap _=>
     have:h=0:=by simpa using h2
     subst this;have:l=0:=by omega
     subst this;refine⟨.slice bo 0 cap,λbo' len cap' he=>?_,by simpa using .nolist bo cap n'⟩;cases he;cases bo<;>simp[Addr.add_zero']
   | list b off cap _ _ f hI hc hm hz hn hcell hone hr=>
     by_cases hcl:cap=l
     ·subst hcl;have e0:h -cap=0:=by omega
      have e1:(es.take h).drop cap=[]:=by
       apply qAd;simp;omega
      refine⟨.slice (some ⟨b,off,none⟩) 0 (cap -cap),λbo' len cap' he=>?_,by rw[e1];exact .nolist _ _ _⟩;cases he;simp[e0]
     ·refine⟨.slice (some ⟨b,off+l*n',none⟩) (h -l) (cap -l),λbo' len cap' he=>?_,MX hI hc hm hz hn hcell hone hr h1 h2⟩;cases he;simp[hcl,lD]
  have vsl:∃bo len cap,q= .slice bo len cap/\len=es.length/\len<=cap:=by
   cases hx with
   |nolist bo cap _=>exact⟨bo,0,cap,rfl,rfl,qAr _⟩
   |list b off cap _ _ f hI hc hm hz hn hcell hone h=>exact⟨_,_,_,rfl,rfl,hc⟩
  obtain⟨bo,len,cap,hqe,hlen,hcap⟩:=vsl;subst hlen;have run:∀(l h:Nat),l<=h->h<=es.length->(Instr.sliceBounds true es.length cap (lo.map a.eval) (hi.map a.eval) none).run P w= .ok (l,h,cap) w->K (.list n' ((es.take h).drop l))->Good P o a tp I w K:=by
   intro l h h1 h2 hb hk;obtain⟨y,hy,hR⟩:=main l h h1 h2;have hy':=hy bo es.length cap hqe;refine⟨y,_,?_,hR,hk⟩;rw[hy'];simp only[execOp,ho,hq,hqe,Instr.sliceAt,qAk,run_underlying ht,qz8,Instr.slice,qBg,hb,aW hs,qAu]
  split at hv
  ·rename_i e2 e3;have hl:lo=none:=by simpa using e2
   have hh:hi=none:=by simpa using e3
   subst hl;subst hh;exact run 0 es.length (qAr _) (qz2 _) (by simp[Instr.sliceBounds]) (by simpa using hv)
  ·rename_i kk l e2 e3;obtain⟨y,rfl,hy⟩:=aN e2;have hh:hi=none:=by simpa using e3
   subst hh;obtain⟨h0,h1,hk⟩:=hv;have:=vint y _ (hlo y rfl) hy;refine run l.toNat es.length (by omega) (qz2 _) ?_ (by simpa using hk);simp[Instr.sliceBounds,this,Instr.sliceBound,asIntOf,h0,h1]
  ·rename_i kk h e2 e3;obtain⟨y,rfl,hy⟩:=aN e3;have hl:lo=none:=by simpa using e2
   subst hl;obtain⟨h0,h1,hk⟩:=hv;have:=vint y _ (hhi y rfl) hy;have h2:h<=(cap:Int):=by omega
   refine run 0 h.toNat (qAr _) (by omega) ?_ (by simpa using hk);simp[Instr.sliceBounds,this,Instr.sliceBound,asIntOf,h0,h2]
  ·rename_i kl l kh h e2 e3;obtain⟨y,rfl,hy⟩:=aN e2;obtain⟨z,rfl,hz⟩:=aN e3;obtain⟨h0,h1,h2,hk⟩:=hv;have e4:=vint y _ (hlo y rfl) hy;have e5:=vint z _ (hhi z rfl) hz;have h3:h<=(cap:Int):=by omega
   have h4:(0:Int)<=h:=by omega
   have h5:l<=((h.toNat:Nat):Int):=by omega
   refine run l.toNat h.toNat (by omega) (by omega) ?_ hk;simp[Instr.sliceBounds,e4,e5,Instr.sliceBound,asIntOf,h0,h3,h4,h5];intro hbad;omega
  ·exact hv.elim
 ·rename_i id y e1;rw[e1]at hx;generalize hq:a.eval x=q at hx;cases hx with
  | own _ _ hone=>
    split at hv
    ·rename_i x' el' n' es hH;obtain⟨hxe,rfl,hv⟩:=hv;subst hxe;obtain⟨xs,⟨g1,g2⟩,g3⟩:=hsat _ _ (hle _ _ hH);obtain⟨l,h,h1,h2,hk,hb⟩:=EO (P:=P) (w:=w) hlo hhi hv;rcases g2 with⟨h3,h4⟩|⟨g,cap,cur,h3,_,g5,g6,g7,_⟩
     ·have h40:h=0:=by omega
      have hl0:l=0:=by omega
      subst h40;subst hl0;have hb':=hb 0 (by omega);rw[h3]at hk;rw[h4]at hb';refine⟨.slice none 0 0,_,?_, .subnil id n',hk⟩;simp only[execOp,ho,hq,h3,Instr.sliceAt,qAk,run_underlying ht,qz8,Instr.slice,qBg,hb',aW hs,qAu];simp
     ·have hb':=hb cap g6;rw[h3]at hk;refine⟨.slice (if cap=l then some ⟨g,0,none⟩else some ⟨g,l*n',none⟩) (h -l) (cap -l),_,?_, .sub id g es.length cap n' l h _ h1 h2 g6 g7 (λh5=>?_),hk⟩
      ·simp only[execOp,ho,hq,h3,Instr.sliceAt,qAk,run_underlying ht,qz8,Instr.slice,qBg,hb',aW hs,qAu];by_cases hcl:cap=l<;>simp[hcl,lD]
      ·by_cases hcl:cap=l
       ·have:l=0:=by omega
        simp[hcl,this]
       ·simp[hcl]
    ·exact hv.elim
 ·rename_i id y n' lo' hi' e1;rw[e1]at hx;obtain⟨rfl,hv⟩:=hv;obtain⟨l,h,h1,h2,hk,hb⟩:=EO (P:=P) (w:=w) hlo hhi hv;generalize hq:a.eval x=q at hx;cases hx with
  | subnil=>
    have h40:h=0:=by omega
    have hl0:l=0:=by omega
    subst h40;subst hl0;have hb':=hb 0 (by omega);refine⟨.slice none 0 0,_,?_, .subnil id n',hk⟩;simp only[execOp,ho,hq,Instr.sliceAt,qAk,run_underlying ht,qz8,Instr.slice,qBg,hb',aW hs,qAu];simp
  | sub _ b len cap _ _ _ p g1 g2 g3 hm hp=>
    have hb':=hb (cap -lo') (by omega);have e2:h -l=(lo'+h) - (lo'+l):=by omega
    have e3:cap -lo' -l=cap - (lo'+l):=by omega
    refine⟨.slice (if cap -lo'=l then p else p.map (·.add (l*n'))) (h -l) (cap -lo' -l),_,?_,?_,hk⟩
    ·simp only[execOp,ho,hq,Instr.sliceAt,qAk,run_underlying ht,qz8,Instr.slice,qBg,hb',aW hs,qAu]
    ·rw[e2,e3];refine .sub id b len cap n' (lo'+l) (lo'+h) _ (by omega) (by omega) g3 hm (λh5=>?_);by_cases hcl:cap -lo'=l
     ·have hl0:l=0:=by omega
      have hlo0:lo'=0:=by omega
      have:=hp (.inr hlo0);rw[this];subst hl0;subst hlo0;simp[Addr.add_zero']
     ·have:=hp (by omega);rw[if_neg hcl,this];simp[lD,qBk]
 ·rename_i e1;rw[e1]at hx;have hq:=hx.inv_v;obtain⟨l,h,h1,h2,hk,hb⟩:=EO (P:=P) (w:=w) hlo hhi hv;have h40:h=0:=by omega
  have hl0:l=0:=by omega
  subst h40;subst hl0;have hb':=hb 0 (by omega);refine⟨.slice none 0 0,_,?_, .v _ rfl (λs hs=>by cases hs),hk⟩;simp only[execOp,ho,hq,Instr.sliceAt,qAk,run_underlying ht,qz8,Instr.slice,qBg,hb',aW hs,qAu];simp
 ·exact hv.elim
theorem Wh{t:TypeId}{x:Operand}{lo hi:Option Operand}(ho:o.op= .slice t x lo hi none)(ht:P.underlying t=some .string)
 (hx:R tp I w (a.eval x) (ev σ x)) (hlo:∀y,lo=some y->R tp I w (a.eval y) (ev σ y)) (hhi:∀y,hi=some y->R tp I w (a.eval y) (ev σ y)) {H:ab} (hv:aj (.sslice x lo hi) σ H K):Good P o a tp I w K:=by
 simp only[aj]at hv;split at hv
 ·rename_i s e1;rw[e1]at hx;obtain⟨hq,hsz⟩:=hx.inv_str;have vint:∀(y:Operand) (p:IntKind×Int),R tp I w (a.eval y) (ev σ y)->mC (ev σ y)=some p->a.eval y= .int p.1 p.2:=λy p hy hp=>by
   rw[Cp hp]at hy;exact hy.inv_v
  have run:∀(l h:Nat),(Instr.sliceBounds false s.size s.size (lo.map a.eval) (hi.map a.eval) none).run P w= .ok (l,h,s.size) w->K (.v (.string (s.extract l h)))->Good P o a tp I w K:=by
   intro l h hb hk;refine⟨.string (s.extract l h),_,?_, .str _ ?_,hk⟩
   ·simp only[execOp,ho,hq,Instr.sliceAt,qAk,run_underlying ht,qz8,Instr.slice,qBg,Option.isSome_none,qAJ,if_false,hb,qAu]
   ·have:(s.extract l h).size<=s.size:=by simp[ByteArray.size_extract];omega
    omega
  split at hv
  ·rename_i e2 e3;have hl:lo=none:=by simpa using e2
   have hh:hi=none:=by simpa using e3
   subst hl;subst hh;exact run 0 s.size (by simp[Instr.sliceBounds]) hv
  ·rename_i kk l e2 e3;obtain⟨y,rfl,hy⟩:=aN e2;have hh:hi=none:=by simpa using e3
   subst hh;obtain⟨h0,h1,hk⟩:=hv;have:=vint y _ (hlo y rfl) hy;refine run l.toNat s.size ?_ hk;simp[Instr.sliceBounds,this,Instr.sliceBound,asIntOf,h0,h1]
  ·rename_i kk h e2 e3;obtain⟨y,rfl,hy⟩:=aN e3;have hl:lo=none:=by simpa using e2
   subst hl;obtain⟨h0,h1,hk⟩:=hv;have:=vint y _ (hhi y rfl) hy;refine run 0 h.toNat ?_ hk;simp[Instr.sliceBounds,this,Instr.sliceBound,asIntOf,h0,h1]
  ·rename_i kl l kh h e2 e3;obtain⟨y,rfl,hy⟩:=aN e2;obtain⟨z,rfl,hz⟩:=aN e3;obtain⟨h0,h1,h2,hk⟩:=hv;have e4:=vint y _ (hlo y rfl) hy;have e5:=vint z _ (hhi z rfl) hz;have h4:(0:Int)<=h:=by omega
   have h5:l<=((h.toNat:Nat):Int):=by omega
   refine run l.toNat h.toNat ?_ hk;simp[Instr.sliceBounds,e4,e5,Instr.sliceBound,asIntOf,h0,h2,h4,h5];intro hbad;omega
  ·exact hv.elim
 ·exact hv.elim
end
def oV(off:Nat):∀(l:List (Value×Nat)) (cells:Array Value),(l.foldl (λcs p=>cs.setIfInBounds (off+p.2) p.1) cells).size=cells.size
 | [],_=>rfl
 |p::l,cells=>by rw[qAU,oV off l];simp
theorem wc(off:Nat):∀(l:List Value) (s:Nat) (cells:Array Value) (k:Nat),off+s+l.length<=cells.size->
 ((l.zipIdx s).foldl (λcs p=>cs.setIfInBounds (off+p.2) p.1) cells)[k]? =if off+s<=k/\k<off+s+l.length then l[k - (off+s)]? else cells[k]?
 | [],s,cells,k,h=>by
   simp;intro h1 h2;omega
 | v::l,s,cells,k,h=>by
   simp only[qAD]at h;rw[List.zipIdx_cons,qAU,wc off l (s+1) _ k (by simp;omega)];by_cases h1:off+ (s+1)<=k/\k<off+ (s+1) +l.length
   ·rw[if_pos h1,if_pos (by simp;omega)];have:k - (off+s)=(k - (off+ (s+1))) +1:=by omega
    rw[this,qBi]
   ·rw[if_neg h1];simp only[qBj];by_cases h2:off+s=k
    ·subst h2;have:off+s<cells.size:=by omega
     simp[this]
    ·rw[if_neg h2];rw[if_neg (by simp;omega)]
def Iw{place:Nat->Option (Nat×Nat)}{cells:Array Value}{i off sz:Nat}{v:Value}{rest:List (Nat×Value)}(hp:place i=some (off,sz))(hsz:v.cells.size=sz)(hfit:off+sz<=cells.size):
 Instr.fill place cells ((i,v)::rest)=Instr.fill place ((v.cells.toList.zipIdx 0).foldl (λcs p=>cs.setIfInBounds (off+p.2) p.1) cells) rest:=by
 simp only[Instr.fill,hp];rw[if_neg (by simp;omega)];congr 1;rw[<-Array.foldl_toList,Array.toList_zipIdx]
section
variable {P:Program}{o:Oper}{a:Act}{tp I:Nat->Prop}{w:World}{σ:Sg}{K:D->Prop}
theorem Ct{Q:Value->D->Prop}{cells cells':Array Value}{ds:List D}{new:List D}{nv:List Value}{off:Nat}(hl:cells.size=ds.length)(h:bN Q cells.toList ds)(hn:nv.length=new.length)(hq:bN Q nv new)
 (hfit:off+new.length<=ds.length) (hc:∀k:Nat,cells'[k]? =if off<=k/\k<off+nv.length then nv[k -off]? else cells[k]?):bN Q cells'.toList (setAt ds off new):=by
 intro k y c hy hc2;simp only[qAn]at hy;rw[hc k]at hy;simp only[Gv.setAt]at hc2;split at hy
 ·rename_i hk;rw[qAH,qz9 (by simp;omega)]at hc2;have e:(ds.take off).length=off:=by simp;omega
  rw[e,qAe (by omega)]at hc2;exact hq _ y c hy hc2
 ·rename_i hk;refine h k y c (by simpa using hy) ?_;by_cases h1:k<off
  ·rw[qAH,qAe (by simp;omega),qAf,if_pos h1]at hc2;exact hc2
  ·rw[qz9 (by simp;omega),qAF]at hc2;have e:(ds.take off++new).length=off+new.length:=by simp;omega
   rw[e]at hc2;have e2:off+new.length+ (k - (off+new.length))=k:=by omega
   rw[e2]at hc2;exact hc2
def HR{l new:List D}{off:Nat}(h:off+new.length<=l.length)(k:Nat):(setAt l off new)[k]? =if off<=k/\k<off+new.length then new[k -off]? else l[k]?:=by
 have e1:(l.take off).length=off:=by simp;omega
 have e2:(l.take off++new).length=off+new.length:=by simp;omega
 simp only[setAt];by_cases h1:k<off
 ·rw[qAH,qAe (by omega),qAf,if_pos h1,if_neg (by omega)]
 ·by_cases h2:k<off+new.length
  ·rw[qAH,qz9 (by omega),e1,qAe (by omega),if_pos (by omega)]
  ·rw[qz9 (by omega),qAF,e2,if_neg (by omega)];congr 1;omega
def nS{ds new:List D}{off:Nat}(h:off+new.length<=ds.length):(setAt ds off new).length=ds.length:=by
 simp[setAt];omega
theorem Ww{fs:Array Field}{places:List (Nat×Nat)}(hpl:∀(i:Nat) (f:Field) (sz:Nat),fs[i]? =some f->dn P f.type=some sz->places[i]? =some (f.offset,sz))(N:Nat):
 ∀ (parts:List (Nat×Operand)) (ps:List (Nat×Nat×Operand)),(∀p∈parts,R tp I w (a.eval p.2) (ev σ p.2))->
  parts.mapM (λp=>do
   let f <-fs[p.1]?
   let sz <-dn P f.type
   if f.offset+sz<=N then some (f.offset,sz,p.2)else none)=some ps->
  ∀ (cs:Array Value) (ds:List D) (K':List D->Prop),cs.size=N->ds.length=N->bN (R tp I w) cs.toList ds->kA σ ps ds K'->
   ∃cs' ds',Instr.fill (λi=>places[i]?) cs (parts.map λp=>(p.1,a.eval p.2))=some cs'/\cs'.size=N/\ds'.length=N/\bN (R tp I w) cs'.toList ds'/\K' ds'
 | [],ps,_,hm,cs,ds,K',h1,h2,h3,hv=>by
   simp at hm;subst hm;exact⟨cs,ds,rfl,h1,h2,h3,hv⟩
 | p::parts,ps,hr,hm,cs,ds,K',h1,h2,h3,hv=>by
   rw[qAC]at hm;simp only[qzW,qzU,Option.pure_def]at hm;obtain⟨q,⟨f,hf,sz,hsz,hq⟩,rest,hrest,hps⟩:=hm;split at hq
   ·rename_i hfit;cases hq;cases hps;obtain⟨k1,k2,hv⟩:=hv;have hR:=hr p (by simp);obtain⟨c1,c2⟩:=hR.cells k1;have hsize:(a.eval p.2).cells.size=sz:=by rw[<-k2,<-c1];simp
    have hst:=Iw (place:=λi=>places[i]?) (cells:=cs) (i:=p.1) (v:=a.eval p.2) (rest:=parts.map λp=>(p.1,a.eval p.2)) (hpl p.1 f sz hf hsz) hsize (by omega);have hlen:(a.eval p.2).cells.toList.length=sz:=by simpa using hsize
    have hget:=wc f.offset (a.eval p.2).cells.toList 0 cs;have hcs':bN (R tp I w) (((a.eval p.2).cells.toList.zipIdx 0).foldl (λcs p=>cs.setIfInBounds (f.offset+p.2) p.1) cs).toList (setAt ds f.offset (ev σ p.2).cells):=
     Ct (cells:=cs) (nv:=(a.eval p.2).cells.toList) (by omega) h3 (by omega) c2 (by omega) (λk=>by
      have:=hget k (by omega);simpa using this)
    obtain⟨cs',ds',r1,r2,r3,r4,r5⟩:=Ww hpl N parts rest (λq hq=>hr q (by simp[hq])) hrest _ _ K' (by rw[oV];exact h1) (by rw[nS (by omega)];exact h2) hcs' hv;exact⟨cs',ds',by rw[qAo,hst];exact r1,r2,r3,r4,r5⟩
   ·cases hq
theorem Ql(sz:Nat)(N:Nat):
 ∀ (parts:List (Nat×Operand)) (ps:List (Nat×Nat×Operand)),(∀p∈parts,R tp I w (a.eval p.2) (ev σ p.2))->
  parts.mapM (λp=>if p.1*sz+sz<=N then some (p.1*sz,sz,p.2)else none)=some ps->
  ∀ (cs:Array Value) (ds:List D) (K':List D->Prop),cs.size=N->ds.length=N->bN (R tp I w) cs.toList ds->kA σ ps ds K'->
   ∃cs' ds',Instr.fill (λi=>some (i*sz,sz)) cs (parts.map λp=>(p.1,a.eval p.2))=some cs'/\cs'.size=N/\ds'.length=N/\bN (R tp I w) cs'.toList ds'/\K' ds'
 | [],ps,_,hm,cs,ds,K',h1,h2,h3,hv=>by
   simp at hm;subst hm;exact⟨cs,ds,rfl,h1,h2,h3,hv⟩
 | p::parts,ps,hr,hm,cs,ds,K',h1,h2,h3,hv=>by
   rw[qAC]at hm;simp only[qzW,qzU,Option.pure_def]at hm;obtain⟨q,hq,rest,hrest,hps⟩:=hm;split at hq
   ·rename_i hfit;cases hq;cases hps;obtain⟨k1,k2,hv⟩:=hv;have hR:=hr p (by simp);obtain⟨c1,c2⟩:=hR.cells k1;have hsize:(a.eval p.2).cells.size=sz:=by rw[<-k2,<-c1];simp
    have hst:=Iw (place:=λi=>some (i*sz,sz)) (cells:=cs) (i:=p.1) (v:=a.eval p.2) (rest:=parts.map λp=>(p.1,a.eval p.2)) rfl hsize (by omega);have hlen:(a.eval p.2).cells.toList.length=sz:=by simpa using hsize
    have hget:=wc (p.1*sz) (a.eval p.2).cells.toList 0 cs;have hcs':bN (R tp I w) (((a.eval p.2).cells.toList.zipIdx 0).foldl (λcs q=>cs.setIfInBounds ((p.1*sz) +q.2) q.1) cs).toList (setAt ds (p.1*sz) (ev σ p.2).cells):=
     Ct (cells:=cs) (nv:=(a.eval p.2).cells.toList) (by omega) h3 (by omega) c2 (by omega) (λk=>by
      have:=hget k (by omega);simpa using this)
    obtain⟨cs',ds',r1,r2,r3,r4,r5⟩:=Ql sz N parts rest (λq hq=>hr q (by simp[hq])) hrest _ _ K' (by rw[oV];exact h1) (by rw[nS (by omega)];exact h2) hcs' hv;exact⟨cs',ds',by rw[qAo,hst];exact r1,r2,r3,r4,r5⟩
   ·cases hq
def lE{z:List Value}(h:z.all (λx=>match x with| .string s=>decide (s.size<=1000000)| .bool _| .int _ _| .pointer _| .slice _ _ _| .nilFunc| .map _=>true|_=>false)=true)(h1:z.all (·.oneCell')=true):bN (R tp I w) z (z.map qH):=by
 intro k y c hy hc;rw[qz7,hy]at hc;cases hc;have hm:=qzY hy;refine⟨qz4.1 h1 y hm,qk7 y (λs hs=>?_)⟩;have:=qz4.1 h y hm;subst hs;have:s.size<=1000000:=by simpa using this
 simp only[maxLen];omega
def ek{t:TypeId}{z:List Value}(h:fp P t=some z):∃i zv,P.info? t=some i/\i.zero=some zv/\zv.cells.toList=z/\i.size=z.length/\z.all (·.oneCell')=true/\
 z.all (λx=>match x with| .string s=>decide (s.size<=1000000)| .bool _| .int _ _| .pointer _| .slice _ _ _| .nilFunc| .map _=>true|_=>false)=true:=by
 unfold fp at h;simp only[qzW,qzU]at h;obtain⟨i,hi,zv,hz,h⟩:=h;split at h
 ·rename_i hc;cases h;simp only[qzZ,beq_iff_eq]at hc;exact⟨i,zv,hi,hz,rfl,by rw[qAi];exact hc.1.2.symm,hc.1.1,hc.2⟩
 ·cases h
theorem Za{t:TypeId}{parts:Array (Nat×Operand)}{fs:Array Field}{z:List Value}{ps:List (Nat×Nat×Operand)}(ho:o.op= .build t parts)(hz:fp P t=some z)(ht:P.underlying t=some (.struct fs))
 (hps:parts.toList.mapM (λp=>do
   let f <-fs[p.1]?
   let sz <-dn P f.type
   if f.offset+sz<=z.length then some (f.offset,sz,p.2)else none)=some ps)
 (hall:fs.toList.all (λf=>(dn P f.type).isSome)=true) (hr:∀p∈parts.toList,R tp I w (a.eval p.2) (ev σ p.2)) {H:ab} (hv:aj (.build z ps) σ H K):Good P o a tp I w K:=by
 simp only[aj]at hv;obtain⟨i,zv,hi,hzv,hzc,hsz,hz1,hz2⟩:=ek hz;have places:∀(l:List Field),l.all (λf=>(dn P f.type).isSome)=true->∃pl,l.mapM (λf=>(P.info? f.type).map λi=>(f.offset,i.size))=some pl/\∀(i:Nat) (f:Field) (sz:Nat),l[i]? =some f->dn P f.type=some sz->pl[i]? =some (f.offset,sz):=by
  intro l
  induction l with
  |nil=>intro _;exact⟨[],by simp,λi f sz h=>by simp at h⟩
  | cons f l ih=>
    intro h;simp only[qBN,qzZ]at h;obtain⟨pl,e1,e2⟩:=ih h.2;obtain⟨sz,hs⟩:=qAW.1 h.1;have hs':=hs;unfold dn at hs';obtain⟨ii,hii,hsz'⟩:=aN hs';refine⟨(f.offset,sz)::pl,by simp[qAC,hii,e1,hsz'],λj g sg hj hg=>?_⟩;cases j with
    |zero=>simp at hj;subst hj;rw[hs]at hg;cases hg;rfl
    |succ j=>simp at hj;simpa using e2 j g sg hj hg
 obtain⟨pl,hpl1,hpl2⟩:=places fs.toList hall;obtain⟨cs',ds',r1,r2,r3,r4,r5⟩:=Ww (P:=P) (fs:=fs) (places:=pl) (λi f sz h1 h2=>hpl2 i f sz (by simpa using h1) h2) z.length parts.toList ps hr hps zv.cells (z.map qH) _ (by rw[<-qAi,hzc]) (by simp) (by rw[hzc];exact lE hz2 hz1) hv;have hb:P.built t (parts.map λ(i,x)=>(i,a.eval x)).toList=some cs':=by
  unfold Program.built;simp only[hi,ht,hzv,hpl1];simpa using r1
 refine⟨.agg cs', .agg ds',by simp[execOp,ho,run_build w t _ cs' hb],?_,r5⟩;have:=R.agg (tp:=tp) (I:=I) (w:=w) cs'.toList ds' (by rw[qAi];omega) (λx hx=>?_) (λk x c h1 h2=>(r4 k x c h1 h2).2)
 ·simpa using this
 ·obtain⟨k,hk⟩:=qAp.1 hx;have hlt:k<ds'.length:=by
   have:=(qzV.1 hk).1;rw[qAi]at this;omega
  exact(r4 k x _ hk (qzX hlt)).1
def GoodN(P:Program)(o:Oper)(a:Act)(E:AD)(tp:Nat->Prop)(H:ab)(w:World)(K:D->Prop):Prop:=
 ∃x d w',(execOp a.eval o).run P w= .ok (.value x) w'/\GrB w w' none/\(StW E tp H w'->(∀y e,R tp (bh E.O tp H w) w y e->R tp (bh E.O tp H w') w' y e)->R tp (bh E.O tp H w') w' x d)/\K d
theorem Wn{t el:TypeId}{parts:Array (Nat×Operand)}{len sz:Nat}{z:List Value}{ps:List (Nat×Nat×Operand)}(ho:o.op= .build t parts)(hz:fp P t=some z)(ht:P.underlying t=some (.array len el))(hs:dn P el=some sz)
 (hps:parts.toList.mapM (λp=>if p.1*sz+sz<=z.length then some (p.1*sz,sz,p.2)else none)=some ps)
 (hr:∀p∈parts.toList,R tp I w (a.eval p.2) (ev σ p.2)) {H:ab} (hv:aj (.build z ps) σ H K):Good P o a tp I w K:=by
 simp only[aj]at hv;obtain⟨i,zv,hi,hzv,hzc,hsz,hz1,hz2⟩:=ek hz;have hs':=hs;unfold dn at hs';obtain⟨ie,hie,hse⟩:=aN hs';subst hse;obtain⟨cs',ds',r1,r2,r3,r4,r5⟩:=Ql ie.size z.length parts.toList ps hr hps zv.cells (z.map qH) _ (by rw[<-qAi,hzc]) (by simp) (by rw[hzc];exact lE hz2 hz1) hv;have hb:P.built t (parts.map λ(i,x)=>(i,a.eval x)).toList=some cs':=by
  unfold Program.built;simp only[hi,ht,hzv,hie];simpa using r1
 refine⟨.agg cs', .agg ds',by simp[execOp,ho,run_build w t _ cs' hb],?_,r5⟩;have:=R.agg (tp:=tp) (I:=I) (w:=w) cs'.toList ds' (by rw[qAi];omega) (λx hx=>?_) (λk x c h1 h2=>(r4 k x c h1 h2).2)
 ·simpa using this
 ·obtain⟨k,hk⟩:=qAp.1 hx;have hlt:k<ds'.length:=by
   have:=(qzV.1 hk).1;rw[qAi]at this;omega
  exact(r4 k x _ hk (qzX hlt)).1
def Good.toN{E:AD}{H:ab}(h:Good P o a tp (bh E.O tp H w) w K):GoodN P o a E tp H w K:=by
 obtain⟨x,d,h1,h2,h3⟩:=h;exact⟨x,d,w,h1,ga _ _,λ_ m=>m _ _ h2,h3⟩
def qaK{E:AD}{H:ab}{ob:Obj}(hst:StW E tp H w):bh E.O tp H (w.alloc ob) w.heap.size:=by
 have hw:E.w0.heap.size<=w.heap.size:=hst.step.size;refine⟨by simp,λh=>by have:=hst.hO _ h;omega,λh=>by have:=hst.tpl.1 _ h;omega,λ⟨i,r,h1,h2⟩=>by have:=(hst.sat.ok i r h1).lt h2;omega⟩
theorem qcO{el:TypeId}{x:Operand}{E:AD}{H:ab}(hst:StW E tp H w)(ho:o.op= .box el x)(hx:R tp (bh E.O tp H w) w (a.eval x) (ev σ x))(hv:aj (.box el true x) σ H K):GoodN P o a E tp H w K:=by
 simp only[aj]at hv;obtain⟨hk,hv⟩:=hv;refine⟨.pointer (some ⟨w.heap.size,0,none⟩),_,w.alloc (.cells (a.eval x).cells el),by simp[execOp,ho,Instr.box,newVar,newRow],GrB.alloc _ _ _,λhst' m=>?_,hv⟩;obtain⟨c1,c2⟩:=(m _ _ hx).cells hk;have hg:(w.alloc (.cells (a.eval x).cells el)).heap[w.heap.size]? =some (.cells (a.eval x).cells el (0,0)):=heap_alloc_new _ _;obtain⟨f,k1,k2,k3⟩:=yn hg (by rw[<-c1];simp) c2;have:=R.cptr (tp:=tp) w.heap.size 0 (ev σ x).cells 0 f (qaK hst) (λ_=>⟨_,_,hg⟩) k1 k2 k3;simpa using this
theorem Nd{n:Nat} :∀(vs:List Value) (s:Nat) (cells:Array Value),(∀v∈vs,v.cells.size=n)->(s+vs.length) *n<=cells.size->
 ∃cells',Instr.fill (λi=>some (i*n,n)) cells ((List.range' s vs.length).zip vs)=some cells'/\cells'.size=cells.size/\(∀k,k<s*n->cells'[k]? =cells[k]?)/\
  ∀i j v,vs[i]? =some v->j<n->cells'[(s+i) *n+j]? =v.cells[j]?
 | [],s,cells,_,_=>⟨cells,rfl,rfl,λ_ _=>rfl,λi j v h=>by simp at h⟩
 | v::vs,s,cells,hn,hfit=>by
   have hv:=hn v (by simp);simp only[qAD]at hfit;have hfit':s*n+n<=cells.size:=by
    have:(s+ (vs.length+1)) *n=s*n+n+vs.length*n:=by rw[qBk,qAI];omega
    omega
   have hst:=Iw (place:=λi=>some (i*n,n)) (cells:=cells) (i:=s) (v:=v) (rest:=(List.range' (s+1) vs.length).zip vs) rfl hv hfit';have hget:=wc (s*n) v.cells.toList 0 cells;obtain⟨c',r1,r2,r3,r4⟩:=Nd vs (s+1) ((v.cells.toList.zipIdx 0).foldl (λcs p=>cs.setIfInBounds (s*n+p.2) p.1) cells) (λu hu=>hn u (by simp[hu])) (by
    rw[oV];have:(s+1+vs.length) *n=(s+ (vs.length+1)) *n:=by congr 1;omega
    omega)
   refine⟨c',?_,by rw[r2,oV],λk hk=>?_,λi j u hu hj=>?_⟩
   ·simp only[qAD,qBY,List.zip_cons_cons];rw[hst];exact r1
   ·rw[r3 k (by rw[qAI];omega),hget k (by simp;omega)];rw[if_neg (by omega)]
   ·cases i with
    | zero=>
      simp at hu;subst hu;rw[qA5,r3 _ (by rw[qAI];omega),hget _ (by simp;omega),if_pos (by simp;omega)];simp
    | succ i=>
      simp at hu;have:=r4 i j u hu hj;have e:s+ (i+1)=s+1+i:=by omega
      rw[e];exact this
def yZ{n:Nat} :∀{l:List D},kg n l->∀d∈l,d.kn=true/\d.cells.length=n
 | [],_,d,hd=>by simp at hd
 | e::l,h,d,hd=>by
   rcases qAc.1 hd with rfl|hd
   ·exact⟨h.1,h.2.1⟩
   ·exact yZ h.2.2 d hd
def zA{n:Nat}(hn:0<n){es:List D}(h:∀d∈es,d.cells.length=n){k:Nat}{c:D}(hk:(be es)[k]? =some c):∃d,es[k/n]? =some d/\d.cells[k % n]? =some c/\k % n<n/\k=k/n*n+k % n:=by
 have hmod:k % n<n:=qBG _ hn;have he:k=k/n*n+k % n:=by rw[qBo];exact(qBH k n).symm
 rw[he,hU h hmod]at hk;cases hd:es[k/n]? with
 |none=>simp[hd]at hk
 |some d=>rw[hd]at hk;exact⟨d,rfl,hk,hmod,he⟩
theorem Wo{t el:TypeId}{n len:Nat}{parts:Array (Nat×Operand)}{ps:List Operand}{E:AD}{H:ab}{z0:List Value}(hst:StW E tp H w)(ho:o.op= .buildSlice t len parts)(ht:P.underlying t=some (.slice el))(hs:dn P el=some n)
 (hz:fp P el=some z0) (hps:xt parts len=some ps) (hlim:len*n<=2^24) (hn:0<n) (hlen0:len≠0) (hr:∀x∈ps,R tp (bh E.O tp H w) w (a.eval x) (ev σ x)) (hv:aj (.bslice el n ps) σ H K):GoodN P o a E tp H w K:=by
 simp only[aj]at hv;obtain⟨hpv,hv⟩:=hv;unfold xt at hps;split at hps
 ·rename_i hidx;cases hps;have hlen:parts.toList.length=len:=by
   have:=congrArg List.length hidx;simpa using this
  obtain⟨i,zv,hi,hzv,hzc,hsz,hz1,hz2⟩:=ek hz;have hall:=yZ hpv;have hvs:∀v∈ (parts.toList.map (·.2)).map a.eval,v.cells.size=n:=by
   intro v hv';obtain⟨x,hx,rfl⟩:=qz1.1 hv';have h1:=hall (ev σ x) (qz1.2 ⟨x,hx,rfl⟩);have:=((hr x hx).cells h1.1).1;rw[<-h1.2,<-this];simp
  have hz0:z0.length=n:=by
   unfold dn at hs;rw[hi]at hs;simp at hs;omega
  have hzv0:¬(len*n=0):=by
   intro h;rcases Nat.mul_eq_zero.1 h with h|h<;>omega
  obtain⟨cells',r1,r2,r3,r4⟩:=Nd (n:=n) ((parts.toList.map (·.2)).map a.eval) 0 ((Array.range (len*n)).map (zv.cells[· % zv.cells.size]!)) hvs (by simp[hlen]);have hparts:(List.range' 0 ((parts.toList.map (·.2)).map a.eval).length).zip ((parts.toList.map (·.2)).map a.eval)=parts.toList.map λp=>(p.1,a.eval p.2):=by
   have e1:List.range' 0 ((parts.toList.map (·.2)).map a.eval).length=parts.toList.map (·.1):=by
    rw[hidx,qB0];simp[hlen]
   rw[e1,List.map_map,List.zip_map', ];rfl
  rw[hparts]at r1;have hrun:(Instr.buildSlice t len (parts.map λ(i,x)=>(i,a.eval x))).run P w= .ok (.slice (some ⟨w.heap.size,0,none⟩) len len) (w.alloc (.cells cells' el)):=by
   have hl:¬(16777216<len*n):=by omega
   have r1':Instr.fill (λi=>some (i*n,n)) ((Array.range (len*n)).map (zv.cells[· % zv.cells.size]!)) (parts.toList.map λp=>(p.1,a.eval p.2))=some cells':=r1;simp[Instr.buildSlice,run_underlying ht,aW hs,hl,hzv0,zeroValue,typeInfo,hi,hzv,r1',newRow]
  refine⟨.slice (some ⟨w.heap.size,0,none⟩) len len,_,w.alloc (.cells cells' el),by simp[execOp,ho,hrun],GrB.alloc _ _ _,λhst' m=>?_,hv⟩;have hnn:∀d∈ (parts.toList.map (·.2)).map (ev σ),d.kn=true/\d.cells.length=n:=hall;have hlen2:((parts.toList.map (·.2)).map (ev σ)).length=len:=by simp[hlen]
  have hcell:∀(k:Nat) (c:D),(be ((parts.toList.map (·.2)).map (ev σ)))[k]? =some c->∃y,cells'[k]? =some y/\y.oneCell'=true/\R tp (bh E.O tp H (w.alloc (.cells cells' el))) (w.alloc (.cells cells' el)) y c:=by
   intro k c hk;obtain⟨d,hd,hdc,hmod,he⟩:=zA hn (λd hd=>(hnn d hd).2) hk;rw[qz7]at hd;obtain⟨x,hx,rfl⟩:=aN hd;have hxm:x∈parts.toList.map (·.2):=qzY hx;have hRx:=m _ _ (hr x hxm);have hkx:=hnn (ev σ x) (qz1.2 ⟨x,hxm,rfl⟩);obtain⟨c1,c2⟩:=hRx.cells hkx.1;have hvx:((parts.toList.map (·.2)).map a.eval)[k/n]? =some (a.eval x):=by rw[qz7,hx];rfl
   have:=r4 (k/n) (k % n) _ hvx hmod;rw[qAG,<-he]at this;have hlt:k % n<(a.eval x).cells.toList.length:=by rw[c1,hkx.2];exact hmod
   have hlt':k % n<(a.eval x).cells.size:=by simpa using hlt
   refine⟨(a.eval x).cells[k % n],by rw[this];simp[hlt'],?_⟩;exact c2 (k % n) _ c (by simp[hlt']) hdc
  have hgn:(w.alloc (.cells cells' el)).heap[w.heap.size]? =some (.cells cells' el (0,0)):=heap_alloc_new _ _
  suffices hsuf:R tp (bh E.O tp H (w.alloc (.cells cells' el))) (w.alloc (.cells cells' el)) (.slice (some ⟨w.heap.size,0,none⟩) ((parts.toList.map (·.2)).map (ev σ)).length ((parts.toList.map (·.2)).map (ev σ)).length) (.list n ((parts.toList.map (·.2)).map (ev σ)))by
   rw[hlen2]at hsuf;exact hsuf
  refine .list w.heap.size 0 _ n _ (λk=>cells'.getD k undef) (qaK hst) (qz2 _) (by rw[hlen2];have:len<=len*n:=qBR _ hn;simp only[maxLen];omega) (λ_=>⟨_,_,hgn⟩) hnn (λk c hk=>?_) (λk c hk=>?_) (λk c hk=>?_)
  all_goals
   obtain⟨y,h1,h2,h3⟩:=hcell k c hk;have hgd:cells'.getD k undef=y:=by
    rw[qAv,h1];rfl
   try dsimp only
   rw[hgd]
  ·rw[qAG,cell_of_row _ _ k cells' el (0,0) hgn];exact h1
  ·exact h2
  ·exact h3
 ·cases hps
end
end Go.Gv
