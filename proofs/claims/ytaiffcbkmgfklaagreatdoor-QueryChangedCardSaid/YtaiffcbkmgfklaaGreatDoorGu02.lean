/- A part of the framework and of the walks: S2 S3. -/
import Derived.Laws.BytesString
import Derived.Test.YtaiffcbkmgfklaaGreatDoorGu01
set_option linter.unusedSimpArgs false
set_option linter.unusedVariables false

namespace Go.Gv
section
variable {P:Program} {o:Oper} {a:Act} {tp I:Nat→Prop} {w:World} {σ:Sg} {K:D→Prop}
theorem sR {t:TypeId} {b:Bool} (h:rR P t=some b) (w:World): (isAgg t).run P w= .ok b w:=by
 unfold rR at h
 cases hu:P.underlying t with
 | none=> simp[hu] at h
 | some d=>
   rw[hu] at h
   unfold isAgg
   rw[Sem.run_bind,run_underlying hu w]
   cases d <;> simp at h <;> subst h <;> simp
theorem ci {t:TypeId} {n:Nat} (h:eM P t=some n) (w:World): (sizeOf t).run P w= .ok n w:=by
 unfold eM at h
 cases hu:P.info? t with
 | none=> simp[hu] at h
 | some i=>
   rw[hu] at h
   simp at h
   simp[sizeOf,typeInfo,hu,h]
theorem kU (b o n:Nat): (⟨b,o,none⟩:Addr).add n=⟨b,o+n,none⟩:=Addr.add_lit b o n
theorem Vr {t:TypeId} {agg:Bool} {sz:Nat} (ha:rR P t=some agg) (hs:eM P t=some sz) (h1: (agg || sz=1)=true) {cs:List D} {off b base:Nat} {f:Nat→Value} (hlen:off+sz≤cs.length)
 (hcell: ∀ (k:Nat) (c:D),cs[k]?=some c→w.cell? ⟨b,base+k,none⟩=some (f k))
 (hone: ∀ (k:Nat) (c:D),cs[k]?=some c→(f k).oneCell'=true)
 (h: ∀ (k:Nat) (c:D),cs[k]?=some c→R tp I w (f k) c):
 ∃x,(loadVar t ⟨b,base+off,none⟩).run P w= .ok x w∧R tp I w x (IV agg sz cs off):=by
 have at_: ∀j,j < sz→ ∃c,cs[off+j]?=some c:=fun j hj=> ⟨cs[off+j]'(by omega),List.getElem?_eq_getElem (by omega)⟩
 have hl: (loadCells ⟨b,base+off,none⟩ sz).run P w= .ok ((List.range sz).map fun j=> f (off+j)).toArray w:=
  run_loadCells w _ sz _ (fun j hj=> by
   obtain⟨c,hc⟩:=at_ j hj
   rw[kU]
   have:=hcell (off+j) c hc
   rwa [←Nat.add_assoc] at this)
 cases agg with
 | true=>
   refine⟨.agg ((List.range sz).map fun j=> f (off+j)).toArray,by simp[loadVar,sR ha,ci hs,hl],?_⟩
   simp only[IV,if_true]
   refine .agg _ _ (by simp;omega) (fun x hx=> ?_) (fun k x c hx hc=> ?_)
   ·obtain⟨j,hj,rfl⟩:=List.mem_map.1 hx
    obtain⟨c,hc⟩:=at_ j (by simpa using hj)
    exact hone _ c hc
   ·rw[List.getElem?_map] at hx
    rw[List.getElem?_take] at hc
    split at hc
    ·rename_i hk
     rw[List.getElem?_drop] at hc
     rw[List.getElem?_range hk] at hx
     simp at hx
     subst hx
     exact h _ c hc
    ·cases hc
 | false=>
   have hsz:sz=1:=by simpa using h1
   subst hsz
   obtain⟨c,hc⟩:=at_ 0 (by omega)
   simp only[Nat.add_zero] at hc
   refine⟨f off,?_,?_⟩
   ·simp[loadVar,sR ha,hcell off c hc]
   ·simp only[IV,hc,Bool.false_eq_true,if_false,Option.getD_some]
    exact h off c hc
theorem tq {xs:Array Value} {cells:List D} {b el:Nat} (hg:w.heap[b]?=some (.cells xs el (0,0))) (hl:xs.size=cells.length) (hc:ct (R tp I w) xs.toList cells):
 ∃f:Nat→Value,(∀ (k:Nat) (c:D),cells[k]?=some c→w.cell? ⟨b,0+k,none⟩=some (f k))∧(∀ (k:Nat) (c:D),cells[k]?=some c→(f k).oneCell'=true)∧(∀ (k:Nat) (c:D),cells[k]?=some c→R tp I w (f k) c):=by
 refine⟨fun k=> xs.getD k undef,fun k c hk=> ?_,fun k c hk=> ?_,fun k c hk=> ?_⟩
 all_goals
  have hlt:k < xs.size:=by rw[hl];exact(List.getElem?_eq_some_iff.1 hk).1
  have hx:xs[k]?=some xs[k]:=by simp[hlt]
  have hg':xs.getD k undef=xs[k]:=by simp[Array.getD,hlt]
 ·dsimp only;rw[Nat.zero_add,cell_of_row w b k xs el (0,0) hg,hx,hg']
 ·dsimp only;rw[hg'];exact(hc k _ c (by first | exact hx | simp) hk).1
 ·dsimp only;rw[hg'];exact(hc k _ c (by first | exact hx | simp) hk).2
theorem R4 {xs:List Value} {x:Value} {el n:Nat} {es:List D} (ho:w.ownsRow 0 el n x es.length xs) (hn: ∀d∈es,d.kn=true∧d.cells.length=n) (hc:ct (R tp I w) xs (cj es))
 {i:Nat} {d:D} (hi:es[i]?=some d) {b:Nat} (hb:x.ownBlock=some b):
 ∃f:Nat→Value,(∀ (k:Nat) (c:D),d.cells[k]?=some c→w.cell? ⟨b,i*n+k,none⟩=some (f k))∧(∀ (k:Nat) (c:D),d.cells[k]?=some c→(f k).oneCell'=true)∧(∀ (k:Nat) (c:D),d.cells[k]?=some c→R tp I w (f k) c):=by
 have hdn:d.cells.length=n:=(hn d (List.mem_of_getElem? hi)).2
 have hfl:=bA (es:=es) (fun d hd=> (hn d hd).2)
 have hil:i < es.length:=(List.getElem?_eq_some_iff.1 hi).1
 have key: ∀ (k:Nat) (c:D),d.cells[k]?=some c→ ∃y,xs[i*n+k]?=some y∧(cj es)[i*n+k]?=some c:=by
  intro k c hk
  have hkn:k < n:=by rw[←hdn];exact(List.getElem?_eq_some_iff.1 hk).1
  have hf: (cj es)[i*n+k]?=some c:=by rw[gM (fun d hd=> (hn d hd).2) hkn,hi];exact hk
  have hlt:i*n+k < xs.length:=by
   have:=(List.getElem?_eq_some_iff.1 hf).1
   rw[ho.1,←hfl];exact this
  exact⟨xs[i*n+k],by simp[hlt],hf⟩
 refine⟨fun k=> xs.getD (i*n+k) undef,fun k c hk=> ?_,fun k c hk=> ?_,fun k c hk=> ?_⟩
 all_goals
  obtain⟨y,hy,hf⟩:=key k c hk
  have hg':xs.getD (i*n+k) undef=y:=by simp[List.getD,hy]
 ·dsimp only;rw[hg']
  have:=ho.cells hb _ _ hy
  rwa [kU,Nat.zero_add] at this
 ·dsimp only;rw[hg'];exact(hc _ _ c hy hf).1
 ·dsimp only;rw[hg'];exact(hc _ _ c hy hf).2
theorem JL {t:TypeId} {agg:Bool} {sz:Nat} {x:Operand} (ho:o.op= .load t x) (ha:rR P t=some agg) (hs:eM P t=some sz) (h1: (agg || sz=1)=true) (hx:R tp I w (a.eval x) (ev σ x)) {H Hr:ab}
 (hle: ∀i r,Hr i=some r→H i=some r) (hsat: ∀i r,H i=some r→ResOk (R tp I w) w r) (hv:aM (.load agg sz x) σ Hr K):Good P o a tp I w K:=by
 simp only[aM] at hv
 generalize hq:a.eval x=q at hx
 have fin: ∀ (b base off:Nat) (cs:List D) (f:Nat→Value),q= .pointer (some ⟨b,base+off,none⟩)→off+sz≤cs.length→(∀ (k:Nat) (c:D),cs[k]?=some c→w.cell? ⟨b,base+k,none⟩=some (f k))→
  (∀ (k:Nat) (c:D),cs[k]?=some c→(f k).oneCell'=true)→(∀ (k:Nat) (c:D),cs[k]?=some c→R tp I w (f k) c)→K (IV agg sz cs off)→Good P o a tp I w K:=by
  intro b base off cs f hq' hlen k1 k2 k3 hk
  obtain⟨y,hr,hR⟩:=Vr (P:=P) ha hs h1 hlen k1 k2 k3
  exact⟨y,_,by simp[execOp,ho,hq,hq',Instr.loadAt,Instr.sureAddr,hr],hR,hk⟩
 split at hv
 ·rename_i cs off e1
  rw[e1] at hx
  cases hx with
  | cptr b base _ _ f hI hcell hone h=> exact fin b base off cs f rfl hv.1 hcell hone h hv.2
 ·rename_i id b off e1
  rw[e1] at hx
  cases hx
  split at hv
  ·rename_i b' cells hH
   obtain⟨rfl,hlen,hk⟩:=hv
   obtain⟨xs,el,g1,g2,g3⟩:=hsat _ _ (hle _ _ hH)
   obtain⟨f,k1,k2,k3⟩:=tq g1 g2 g3
   exact fin b' 0 off cells f (by rw[Nat.zero_add]) hlen k1 k2 k3 hk
  ·exact hv.elim
 ·rename_i id y n i off e1
  rw[e1] at hx
  cases hx with
  | eptr _ b len cap _ _ _=>
    split at hv
    ·rename_i x' el n' es hH
     obtain⟨rfl,rfl,hlen,hi,hk⟩:=hv
     obtain⟨xs,g1,g2,g3⟩:=hsat _ _ (hle _ _ hH)
     have hd:es[i]?=some es[i]:=by simp[hi]
     obtain⟨f,k1,k2,k3⟩:=R4 g1 g2 g3 hd (b:=b) rfl
     exact fin b (i*n') off es[i].cells f rfl (by rw[(g2 _ (List.mem_of_getElem? hd)).2];exact hlen) k1 k2 k3 (hk _ hd)
    ·exact hv.elim
 ·exact hv.elim
theorem VN {t:TypeId} {fs:Array Field} {fi:Nat} {fd:Field} {agg:Bool} {sz:Nat} {x:Operand} (ho:o.op= .field t x fi) (ht:P.underlying t=some (.struct fs)) (hf:fs[fi]?=some fd)
 (ha:rR P fd.type=some agg) (hs:eM P fd.type=some sz) (h1: (agg || sz=1)=true) (hx:R tp I w (a.eval x) (ev σ x)) {H:ab} (hv:aM (.fld agg sz fd.offset x) σ H K):Good P o a tp I w K:=by
 simp only[aM] at hv
 split at hv
 ·rename_i cs e1
  rw[e1] at hx
  obtain⟨xs,hq,hl,hc⟩:=hx.inv_agg
  obtain⟨hlen,hk⟩:=hv
  cases agg with
  | true=>
    refine⟨.agg ((xs.drop fd.offset).take sz).toArray,_,?_,?_,hk⟩
    ·simp only[execOp,ho,hq,Instr.field,asAgg,Sem.run_bind,run_underlying ht,Result.andThen_ok,hf,part,sR ha,ci hs,Sem.run_pure,if_true]
     simp[List.take_drop,Nat.add_comm]
    ·simp only[IV,if_true]
     refine .agg _ _ (by simp[hl]) (fun y hy=> ?_) (fun k y c hy hc'=> ?_)
     ·have hy':=List.mem_of_mem_drop (List.mem_of_mem_take hy)
      obtain⟨k,hk'⟩:=List.mem_iff_getElem?.1 hy'
      have hlt:k < cs.length:=by rw[←hl];exact(List.getElem?_eq_some_iff.1 hk').1
      exact(hc k y _ hk' (List.getElem?_eq_getElem hlt)).1
     ·rw[List.getElem?_take] at hy hc'
      split at hy
      ·rename_i hlt
       rw[if_pos hlt] at hc'
       rw[List.getElem?_drop] at hy hc'
       exact(hc _ y c hy hc').2
      ·cases hy
  | false=>
    have hsz:sz=1:=by simpa using h1
    subst hsz
    have hlt:fd.offset < cs.length:=by omega
    have hlt':fd.offset < xs.length:=by omega
    refine⟨xs[fd.offset],_,?_,?_,hk⟩
    ·simp only[execOp,ho,hq,Instr.field,asAgg,Sem.run_bind,run_underlying ht,Result.andThen_ok,hf,part,sR ha,Sem.run_pure,Bool.false_eq_true,if_false]
     simp[hlt']
    ·simp only[IV,Bool.false_eq_true,if_false,List.getElem?_eq_getElem hlt,Option.getD_some]
     exact(hc fd.offset _ _ (by simp[hlt']) (by simp[hlt])).2
 ·exact hv.elim
theorem wX {d:Nat} {x:Operand} (run: ∀b off,a.eval x= .pointer (some ⟨b,off,none⟩)→(execOp a.eval o).run P w= .ok (.value (.pointer (some ⟨b,off+d,none⟩))) w)
 (hx:R tp I w (a.eval x) (ev σ x)) {H:ab} (hv:aM (.faddr d x) σ H K):Good P o a tp I w K:=by
 simp only[aM] at hv
 generalize hq:a.eval x=q at hx run
 split at hv
 ·rename_i cs off e1
  rw[e1] at hx
  cases hx with
  | cptr b base _ _ f hI hcell hone h=>
    refine⟨_,_,run _ _ rfl,?_,hv⟩
    rw[Nat.add_assoc]
    exact .cptr b base cs _ f hI hcell hone h
 ·rename_i id b off e1
  rw[e1] at hx
  cases hx
  exact⟨_,_,run _ _ rfl, .bptr _ _ _,hv⟩
 ·rename_i id y n i off e1
  rw[e1] at hx
  cases hx with
  | eptr _ b len cap _ _ _=>
    refine⟨_,_,run _ _ rfl,?_,hv⟩
    rw[Nat.add_assoc]
    exact .eptr id b len cap n i _
 ·exact hv.elim
theorem PS {t:TypeId} {fs:Array Field} {fi:Nat} {fd:Field} {sz:Nat} {x:Operand} (ho:o.op= .fieldAddr t x fi) (ht:P.underlying t=some (.struct fs)) (hf:fs[fi]?=some fd)
 (hs:eM P fd.type=some sz) (h0:0 < sz) (hx:R tp I w (a.eval x) (ev σ x)) {H:ab} (hv:aM (.faddr fd.offset x) σ H K):Good P o a tp I w K:=by
 have hne:sz≠0:=by omega
 refine wX (fun b off hb=> ?_) hx hv
 simp[execOp,ho,hb,Instr.fieldAt,run_underlying ht,hf,Instr.sureAddr,fieldPlace,ci hs,hne,kU]
theorem PV {t el:TypeId} {len sz:Nat} {k:Int} {x:Operand} (ho:o.op= .indexAddr t x (.const (.int .i64 k))) (ht:P.underlying t=some (.array len el)) (hs:eM P el=some sz) (h0:0≤k∧k < len)
 (hx:R tp I w (a.eval x) (ev σ x)) {H:ab} (hv:aM (.faddr (k.toNat*sz) x) σ H K):Good P o a tp I w K:=by
 refine wX (fun b off hb=> ?_) hx hv
 have hc:a.eval (.const (.int .i64 k))= .int .i64 k:=rfl
 simp[execOp,ho,hc,hb,Instr.indexAt,asIntOf,run_underlying ht,Instr.sureAddr,h0.1,h0.2,ci hs,kU]
theorem PR {t el:TypeId} {n:Nat} {x i:Operand} (ho:o.op= .indexAddr t x i) (ht:P.underlying t=some (.slice el)) (hs:eM P el=some n)
 (hx:R tp I w (a.eval x) (ev σ x)) (hi:R tp I w (a.eval i) (ev σ i)) {H Hr:ab} (hle: ∀i r,Hr i=some r→H i=some r) (hsat: ∀i r,H i=some r→ResOk (R tp I w) w r)
 (hv:aM (.iaddr n x i) σ Hr K):Good P o a tp I w K:=by
 simp only[aM] at hv
 generalize hq:a.eval x=q at hx
 split at hv
 ·rename_i kk k e1
  rw[e1] at hi
  have hi':=hi.inv_v
  have run: ∀b off len cap,q= .slice (some ⟨b,off,none⟩) len cap→0≤k→k < len→(execOp a.eval o).run P w= .ok (.value (.pointer (some ⟨b,off+k.toNat*n,none⟩))) w:=by
   intro b off len cap hb h0 h1
   simp[execOp,ho,hq,hi',hb,Instr.indexAt,asIntOf,run_underlying ht,h0,h1,ci hs,kU]
  split at hv
  ·rename_i n' es e2
   rw[e2] at hx
   obtain⟨rfl,h0,h1,hk⟩:=hv
   cases hx with
   | nolist=> simp at h1;omega
   | list b off cap _ _ f hI hc hm hn hcell hone h=>
     have hlt:k.toNat < es.length:=by omega
     have hd:es[k.toNat]?=some es[k.toNat]:=by simp[hlt]
     refine⟨_,_,run b off _ cap rfl h0 h1,?_,hk _ hd⟩
     have hfl: ∀ (j:Nat) (c:D),es[k.toNat].cells[j]?=some c→(cj es)[k.toNat*n'+j]?=some c:=fun j c hj=> by
      have hlen:=(hn _ (List.mem_of_getElem? hd)).2
      have hjn:j < n':=by rw[←hlen];exact(List.getElem?_eq_some_iff.1 hj).1
      rw[gM (fun d hd=> (hn d hd).2) hjn,hd]
      exact hj
     exact .cptr b (off+k.toNat*n') es[k.toNat].cells 0 (fun j=> f (k.toNat*n'+j)) hI (fun j c hj=> by rw[Nat.add_assoc];exact hcell _ c (hfl j c hj)) (fun j c hj=> hone _ c (hfl j c hj)) (fun j c hj=> h _ c (hfl j c hj))
  ·rename_i id y e2
   rw[e2] at hx
   cases hx with
   | own _ _ hone=>
     split at hv
     ·rename_i x' el' n' es hH
      obtain⟨rfl,rfl,h0,h1,hk⟩:=hv
      obtain⟨xs,⟨g1,g2⟩,g3⟩:=hsat _ _ (hle _ _ hH)
      rcases g2 with⟨_,h4⟩ | ⟨g,cap,cur,rfl,_⟩
      ·omega
      ·refine⟨_,_,run g 0 _ cap rfl h0 h1,?_,hk⟩
       rw[Nat.zero_add,←Nat.add_zero (k.toNat*n')]
       exact .eptr id g _ cap n' k.toNat 0
     ·exact hv.elim
  ·rename_i id y n' lo hi e2
   rw[e2] at hx
   obtain⟨rfl,h0,h1,hk⟩:=hv
   cases hx with
   | subnil=> simp at h1;omega
   | sub _ b len cap _ _ _ p g1 g2 g3 hm hp=>
     have hlt:lo < cap:=by omega
     have:=hp (.inl hlt)
     subst this
     refine⟨_,_,run b (lo*n') _ _ rfl h0 h1,?_,hk⟩
     rw[←Nat.add_mul,←Nat.add_zero ((lo+k.toNat) *n')]
     exact .eptr id b len cap n' (lo+k.toNat) 0
  ·exact hv.elim
 ·exact hv.elim
theorem SF {t:TypeId} {x i:Operand} (ho:o.op= .index t x i) (ht:P.underlying t=some .string)
 (hx:R tp I w (a.eval x) (ev σ x)) (hi:R tp I w (a.eval i) (ev σ i)) {H:ab} (hv:aM (.sidx x i) σ H K):Good P o a tp I w K:=by
 simp only[aM] at hv
 split at hv
 ·rename_i kk k e1
  rw[e1] at hi
  have hi':=hi.inv_v
  split at hv
  ·rename_i s e2
   rw[e2] at hx
   have hx':=hx.inv_v
   obtain⟨h0,h1,hk⟩:=hv
   have hlt:k.toNat < s.size:=by omega
   have hlt':k.toNat < s.data.size:=hlt
   have hget:s.data[k.toNat]?=some s.data[k.toNat]:=by simp[hlt']
   refine⟨.int .u8 (s.data[k.toNat]).toNat,_,?_, .int _ _,hk _ hget⟩
   have hs?:s[k.toNat]?=some (s.data[k.toNat]):=by
    rw[getElem?_pos s k.toNat hlt];rfl
   simp[execOp,ho,hx',hi',Instr.index,asIntOf,run_underlying ht,h0,hs?]
  ·exact hv.elim
 ·exact hv.elim
theorem VM {t e:TypeId} {c:Call} {x:Operand} (ho:o.op= .call c) (hc:c.callee= .builtin .len) (hat:c.argTypes.toList= [t]) (hargs:c.args.toList= [x]) (ht:P.underlying t=some (.slice e))
 (hx:R tp I w (a.eval x) (ev σ x)) {H Hr:ab} (hle: ∀i r,Hr i=some r→H i=some r) (hsat: ∀i r,H i=some r→ResOk (R tp I w) w r)
 (hv:aM (.len x) σ Hr K):Good P o a tp I w K:=by
 obtain⟨cl,⟨args⟩,⟨ats⟩⟩:=c
 simp only at hat hargs hc
 subst hat;subst hargs;subst hc
 simp only[aM] at hv
 generalize hq:a.eval x=q at hx
 have run: ∀b n cap,q= .slice b n cap→(execOp a.eval o).run P w= .ok (.value (.int .i64 n)) w:=by
  intro b n cap hb
  simp[execOp,ho,resolve,invoke,builtin,hq,hb,Builtin.len_,run_underlying ht,goInt]
 split at hv
 ·rename_i n es e1
  rw[e1] at hx
  cases hx with
  | nolist b cap _=> exact⟨_,_,run b 0 cap rfl, .int _ _,by simpa using hv (by simp)⟩
  | list b off cap _ _ f hI hcap hm hn hcell hone h=> exact⟨_,_,run _ _ _ rfl, .int _ _,hv (by simp only[maxLen] at hm;omega)⟩
 ·rename_i id y e1
  rw[e1] at hx
  cases hx with
  | own _ _ hone=>
    split at hv
    ·rename_i x' el n' es hH
     obtain⟨rfl,hk⟩:=hv
     obtain⟨xs,⟨g1,g2⟩,g3⟩:=hsat _ _ (hle _ _ hH)
     rcases g2 with⟨rfl,h4⟩ | ⟨g,cap,cur,rfl,_,_,hcap,hm,_⟩
     ·have:es= []:=List.eq_nil_of_length_eq_zero h4
      subst this
      exact⟨_,_,run _ 0 _ rfl, .int _ _,by simpa using hk (by simp)⟩
     ·exact⟨_,_,run _ _ _ rfl, .int _ _,hk (by simp only[maxLen] at hm;omega)⟩
    ·exact hv.elim
 ·rename_i e1
  rw[e1] at hx
  have:=hx.inv_v
  exact⟨_,_,run _ _ _ this, .int _ _,hv⟩
 ·rename_i id y n' lo hi e1
  rw[e1] at hx
  cases hx with
  | subnil=> exact⟨_,_,run _ 0 _ rfl, .int _ _,by simpa using hv (by simp)⟩
  | sub _ b len cap _ _ _ p g1 g2 g3 hm hp=> exact⟨_,_,run _ _ _ rfl, .int _ _,hv (by simp only[maxLen] at hm;omega)⟩
 ·exact hv.elim
theorem VR {t e:TypeId} {c:Call} {x:Operand} (ho:o.op= .call c) (hc:c.callee= .builtin .cap) (hat:c.argTypes.toList= [t]) (hargs:c.args.toList= [x]) (ht:P.underlying t=some (.slice e))
 (hx:R tp I w (a.eval x) (ev σ x)) {Hr:ab} (hv:aM (.cap x) σ Hr K):Good P o a tp I w K:=by
 obtain⟨cl,⟨args⟩,⟨ats⟩⟩:=c
 simp only at hat hargs hc
 subst hat;subst hargs;subst hc
 simp only[aM] at hv
 split at hv
 ·rename_i e1
  rw[e1] at hx
  have:=hx.inv_v
  refine⟨.int .i64 0,_,?_, .int _ _,hv⟩
  simp[execOp,ho,resolve,invoke,builtin,this,Builtin.cap_,run_underlying ht,goInt]
 ·exact hv.elim
theorem SE {t:TypeId} {c:Call} {x:Operand} (ho:o.op= .call c) (hc:c.callee= .builtin .len) (hat:c.argTypes.toList= [t]) (hargs:c.args.toList= [x]) (ht:P.underlying t=some .string)
 (hx:R tp I w (a.eval x) (ev σ x)) {H:ab} (hv:aM (.slen x) σ H K):Good P o a tp I w K:=by
 obtain⟨cl,⟨args⟩,⟨ats⟩⟩:=c
 simp only at hat hargs hc
 subst hat;subst hargs;subst hc
 simp only[aM] at hv
 split at hv
 ·rename_i s e1
  rw[e1] at hx
  obtain⟨h1,h2⟩:=hx.inv_str
  refine⟨.int .i64 s.size,_,?_, .int _ _,hv (by simp only[maxLen] at h2;omega)⟩
  simp[execOp,ho,resolve,invoke,builtin,h1,Builtin.len_,run_underlying ht,goInt]
 ·exact hv.elim
theorem R5 {xs:List Value} {es:List D} (hl:xs.length=es.length) (hb:Y7 es=true) (h: ∀ (k:Nat) (y:Value) (c:D),xs[k]?=some y→es[k]?=some c→R tp I w y c):
 ∃ns:List Int,xs=ns.map (Value.int .u8)∧ns.map (fun n=> UInt8.ofNat n.toNat)=es.map fun d=> (L5 d).getD 0:=by
 induction xs generalizing es with
 | nil=>
   have:es= []:=List.eq_nil_of_length_eq_zero (by simpa using hl.symm)
   subst this
   exact⟨[],rfl,rfl⟩
 | cons x xs ih=>
   cases es with
   | nil=> simp at hl
   | cons d es=>
     simp only[Y7,List.all_cons,Bool.and_eq_true] at hb
     obtain⟨ns,h1,h2⟩:=ih (es:=es) (by simpa using hl) hb.2 (fun k y c hy hc=> h (k+1) y c (by simpa using hy) (by simpa using hc))
     have hx:=h 0 x d rfl rfl
     cases hd:L5 d with
     | none=> rw[hd] at hb;simp at hb
     | some c=>
       unfold L5 at hd
       split at hd
       ·rename_i n
        cases hd
        have:=hx.inv_v
        subst this
        refine⟨n::ns,by rw[h1];rfl,?_⟩
        simp only[List.map_cons,h2]
        rfl
       ·cases hd
theorem By: ∀ {es:List D},Y7 es=true→cj es=es
 | [],_=> rfl
 | d::es,hb=> by
   simp only[Y7,List.all_cons,Bool.and_eq_true] at hb
   have hd:=hb.1
   have:d.cells= [d]:=by
    cases d <;> first | rfl | simp[L5] at hd
   have ih:=By (es:=es) hb.2
   unfold cj at ih ⊢
   rw[List.flatMap_cons,this,ih]
   rfl
theorem PY (l:List Int): ∀s:ByteArray,l.foldl (fun r n=> r.push (UInt8.ofNat n.toNat)) s=⟨s.data++ (l.map fun n=> UInt8.ofNat n.toNat).toArray⟩:=by
 induction l with
 | nil=> intro s;simp
 | cons n l ih=>
   intro s
   rw[List.foldl_cons,ih]
   simp[ByteArray.push]
theorem SK {t u el:TypeId} {x:Operand} (ho:o.op= .convert t u x) (ht:P.underlying t=some (.slice el)) (hu:P.underlying u=some .string) (he:P.underlying el=some (.int .u8))
 (hx:R tp I w (a.eval x) (ev σ x)) {H Hr:ab} (hle: ∀i r,Hr i=some r→H i=some r) (hsat: ∀i r,H i=some r→ResOk (R tp I w) w r)
 (hv:aM (.bstr x) σ Hr K):Good P o a tp I w K:=by
 simp only[aM] at hv
 generalize hq:a.eval x=q at hx
 have nil:q= .slice none 0 0→(execOp a.eval o).run P w= .ok (.value (.string ⟨#[]⟩)) w:=fun hb=> by
  have:=run_convert_bytes_string (P:=P) w t u el none 0 0 ht he hu
  simp only[execOp,ho,hq,hb,Sem.run_bind,this,Conv.bytesToString,Sem.run_pure,Result.andThen_ok]
  rfl
 split at hv
 ·rename_i id y e1
  rw[e1] at hx
  cases hx with
  | own _ _ hone=>
    split at hv
    ·rename_i x' el' n' es hH
     obtain⟨rfl,rfl,hb,hk⟩:=hv
     obtain⟨xs,hown,g3,g4⟩:=hsat _ _ (hle _ _ hH)
     have hcells:=fun g hg=> hown.cells (g:=g) hg
     obtain⟨g1,g2⟩:=hown
     have hfl:=bA (es:=es) (fun d hd=> (g3 d hd).2)
     have hxl:xs.length=es.length:=by omega
     have hfe:cj es=es:=by
      exact By hb
     rw[hfe] at g4
     obtain⟨ns,h1,h2⟩:=R5 hxl hb (fun k y c hy hc=> (g4 k y c hy hc).2)
     have hs:Y6 es=⟨(ns.map fun n=> UInt8.ofNat n.toNat).toArray⟩:=by rw[h2];rfl
     have hsz: (Y6 es).size=es.length:=by show((es.map fun d=> (L5 d).getD 0).toArray).size=_;simp
     rcases g2 with⟨rfl,h4⟩ | ⟨g,cap,cur,rfl,_,_,hcap,hm,_⟩
     ·have hes:es= []:=List.eq_nil_of_length_eq_zero h4
      subst hes
      exact⟨_,_,nil rfl, .str _ (by simp[ByteArray.size,maxLen]),hk⟩
     ·refine⟨.string (Y6 es),_,?_, .str _ (by omega),hk⟩
      have hc:=run_convert_bytes_string (P:=P) w t u el (some ⟨g,0,none⟩) es.length cap ht he hu
      have hl:=run_loadCells_list (P:=P) w ⟨g,0,none⟩ xs (fun j v hj=> hcells g rfl j v hj)
      rw[hxl,h1] at hl
      have hb2:=run_bytesToString (P:=P) w ⟨g,0,none⟩ es.length cap ns hl
      rw[PY,show ByteArray.empty.data= #[] from rfl,Array.empty_append,←hs] at hb2
      simp only[execOp,ho,hq,Sem.run_bind,hc,hb2,Sem.run_pure,Result.andThen_ok]
    ·exact hv.elim
 ·rename_i e1
  rw[e1] at hx
  have:=hx.inv_v
  exact⟨_,_,nil this, .str _ (by simp[ByteArray.size,maxLen]),hv⟩
 ·exact hv.elim
theorem Q1 {mx:Bool} {c:Call} (ho:o.op= .call c) (hc:c.callee= .builtin (if mx then .max else .min))
 (hx: ∀x∈c.args.toList,R tp I w (a.eval x) (ev σ x)) {H:ab} (hv:aM (.mm mx c.args.toList) σ H K):Good P o a tp I w K:=by
 obtain⟨cl,⟨args⟩,ats⟩:=c
 simp only at hx hc hv
 subst hc
 match args,hx,hv with
 | [],_,hv=> exact hv.elim
 | [_],_,hv=> exact hv.elim
 | [x,y],hx,hv=>
   simp only[aM] at hv
   split at hv
   ·rename_i k p k' q e1 e2
    obtain⟨rfl,hk⟩:=hv
    have hx1:=hx x (by simp);rw[e1] at hx1
    have hx2:=hx y (by simp);rw[e2] at hx2
    have h1:=hx1.inv_v;have h2:=hx2.inv_v
    refine⟨_,_,?_, .int _ _,hk⟩
    cases mx
    ·simp[execOp,ho,resolve,invoke,builtin,h1,h2,Builtin.min_,Builtin.min2]
     split <;> omega
    ·simp[execOp,ho,resolve,invoke,builtin,h1,h2,Builtin.max_,Builtin.max2]
     split <;> omega
   ·exact hv.elim
 | [x,y,z],hx,hv=>
   simp only[aM] at hv
   split at hv
   ·rename_i k p k' q k'' r e1 e2 e3
    obtain⟨rfl,rfl,hk⟩:=hv
    have hx1:=hx x (by simp);rw[e1] at hx1
    have hx2:=hx y (by simp);rw[e2] at hx2
    have hx3:=hx z (by simp);rw[e3] at hx3
    have h1:=hx1.inv_v;have h2:=hx2.inv_v;have h3:=hx3.inv_v
    refine⟨_,_,?_, .int _ _,hk⟩
    cases mx
    ·simp[execOp,ho,resolve,invoke,builtin,h1,h2,h3,Builtin.min_,Builtin.min2]
     (repeat' split) <;> omega
    ·simp[execOp,ho,resolve,invoke,builtin,h1,h2,h3,Builtin.max_,Builtin.max2]
     (repeat' split) <;> omega
   ·exact hv.elim
 | _::_::_::_::_,_,hv=> exact hv.elim
end
end Go.Gv

namespace Go.Gv
section
variable {P:Program} {o:Oper} {a:Act} {tp I:Nat→Prop} {w:World} {σ:Sg} {K:D→Prop}
theorem HE {t:TypeId} {k:Oy} (h:mN P t=some k):rR P t=some false:=by
 unfold mN at h
 unfold rR
 cases hu:P.underlying t with
 | none=> simp[hu] at h
 | some d=> rw[hu] at h;cases d <;> simp at h ⊢
theorem Of (a b:ByteArray): (a.toList==b.toList)=decide (a=b):=by
 rw[ByteArray.toList_eq,ByteArray.toList_eq]
 have: (a=b) ↔ (a.data.toList=b.data.toList):=by
  constructor
  ·intro h;rw[h]
  ·intro h
   cases a;cases b
   simp only at h
   congr 1
   exact Array.toList_inj.1 h
 simp only[this]
 rw[Bool.eq_iff_iff]
 simp
theorem xh {d:D} {p:IntKind×Int} (h:uT d=some p):d= .v (.int p.1 p.2):=by
 unfold uT at h
 split at h
 ·cases h;rfl
 ·cases h
theorem WM {d:D} {s:ByteArray} (h:qfG d=some s):d= .v (.string s):=by
 unfold qfG at h
 split at h
 ·cases h;rfl
 ·cases h
theorem WO {d:D} {b:Bool} (h:qfH d=some b):d= .v (.bool b):=by
 unfold qfH at h
 split at h
 ·cases h;rfl
 ·cases h
theorem D4 {d:D} {cs:List D} (h:BE d=some cs):d= .agg cs:=by
 unfold BE at h
 split at h
 ·cases h;rfl
 ·cases h
theorem JT {k:Oy} {d e:D} {p:Bool} (h:Ty k d e=some p):
 (k= .int∧ ∃kk a b,d= .v (.int kk a)∧e= .v (.int kk b)∧p=decide (a=b))∨(k= .str∧ ∃a b,d= .v (.string a)∧e= .v (.string b)∧p=decide (a=b))∨
 (k= .bool∧ ∃a b,d= .v (.bool a)∧e= .v (.bool b)∧p=decide (a=b)):=by
 cases k with
 | int=>
   simp only[Ty,Option.bind_eq_some_iff] at h
   obtain⟨⟨k1,a⟩,h1,⟨k2,b⟩,h2,h3⟩:=h
   split at h3
   ·rename_i hk
    simp only at hk h3
    subst hk
    cases h3
    exact .inl ⟨rfl,k1,a,b,xh h1,xh h2,rfl⟩
   ·cases h3
 | str=>
   simp only[Ty,Option.bind_eq_some_iff] at h
   obtain⟨a,h1,b,h2,h3⟩:=h
   cases h3
   exact .inr (.inl ⟨rfl,a,b,WM h1,WM h2,rfl⟩)
 | bool=>
   simp only[Ty,Option.bind_eq_some_iff] at h
   obtain⟨a,h1,b,h2,h3⟩:=h
   cases h3
   exact .inr (.inr ⟨rfl,a,b,WO h1,WO h2,rfl⟩)
theorem P0 {t:TypeId} (h:mN P t=some .int): ∃k,P.underlying t=some (.int k):=by
 unfold mN at h
 split at h <;> first | exact⟨_,by assumption⟩ | cases h
theorem PZ {t:TypeId} (h:mN P t=some .str):P.underlying t=some .string:=by
 unfold mN at h
 split at h <;> first | assumption | cases h
theorem NN {t:TypeId} (h:mN P t=some .bool):P.underlying t=some .bool:=by
 unfold mN at h
 split at h <;> first | assumption | cases h
theorem QH {t:TypeId} {k:Oy} (h:mN P t=some k) {x y:Value} {d e:D} (hx:R tp I w x d) (hy:R tp I w y e) {p:Bool} (hp:Ty k d e=some p) (n:Nat) (w':World):
 (Op.equalIn (n+1) t x y).run P w'= .ok p w':=by
 rcases JT hp with⟨rfl,kk,q,r,rfl,rfl,rfl⟩ | ⟨rfl,q,r,rfl,rfl,rfl⟩ | ⟨rfl,q,r,rfl,rfl,rfl⟩
 ·have h1:=hx.inv_v;have h2:=hy.inv_v
  subst h1;subst h2
  obtain⟨k0,hu⟩:=P0 h
  rw[run_equalIn_int w' n t _ _ _ _ hu]
  simp[BEq.beq]
 ·have h1:=hx.inv_v;have h2:=hy.inv_v
  subst h1;subst h2
  rw[run_equalIn_string w' n t _ _ (PZ h),Of]
 ·have h1:=hx.inv_v;have h2:=hy.inv_v
  subst h1;subst h2
  rw[run_equalIn_bool' w' n t _ _ (NN h)]
  simp[BEq.beq]
theorem MU {t:TypeId} (h:rR P t=some false) {xs:List Value} {off:Nat} {x:Value} (hx:xs[off]?=some x) (w':World): (part t xs.toArray off).run P w'= .ok x w':=by
 simp[part,sR h,hx]
theorem K5 (n:Nat) (w':World) (fs:List Field): ∀ (ks:List Oy) (as bs:List D) (xs ys:List Value) (s:Nat),
 fs.mapM (fun f => mN P f.type) = some ks → fs.map (·.offset) = List.range' s fs.length → fs.all (fun f => decide (f.name ≠ "_")) = true →
 xs.length=s+as.length→ys.length=s+bs.length→(∀ (k:Nat) (x:Value) (c:D),xs[s+k]?=some x→as[k]?=some c→R tp I w x c)→(∀ (k:Nat) (x:Value) (c:D),ys[s+k]?=some x→bs[k]?=some c→R tp I w x c)→
 ∀p,YT ks as bs=some p→(Op.eqFields (n+1) xs.toArray ys.toArray fs).run P w'= .ok p w':=by
 induction fs with
 | nil=>
   intro ks as bs xs ys s hk hof hnm hlx hly hx hy p hp
   simp at hk
   subst hk
   simp[YT] at hp
   simp[Op.eqFields,hp.2]
 | cons f fs ih=>
   intro ks as bs xs ys s hk hof hnm hlx hly hx hy p hp
   rw[List.mapM_cons] at hk
   cases hkf:mN P f.type with
   | none=> simp[hkf] at hk
   | some k0=>
     cases hkr:fs.mapM (fun f=> mN P f.type) with
     | none=> simp[hkf,hkr] at hk
     | some kr=>
       simp[hkf,hkr] at hk
       subst hk
       simp only[List.map_cons,List.length_cons,List.range'_succ,List.cons.injEq] at hof
       obtain⟨h0,hof⟩:=hof
       simp only[List.all_cons,Bool.and_eq_true,decide_eq_true_eq] at hnm
       simp only[YT,Option.bind_eq_some_iff] at hp
       obtain⟨a0,ha0,b0,hb0,p0,e1,q0,e2,hpq⟩:=hp
       cases as with
       | nil=> simp at ha0
       | cons a1 as=>
         cases bs with
         | nil=> simp at hb0
         | cons b1 bs=>
           simp at ha0 hb0
           subst ha0;subst hb0
           simp only[List.tail_cons] at e2
           have lx:s < xs.length:=by rw[hlx];simp
           have ly:s < ys.length:=by rw[hly];simp
           have ex:xs[f.offset]?=some xs[s]:=by rw[h0];simp[lx]
           have ey:ys[f.offset]?=some ys[s]:=by rw[h0];simp[ly]
           have rx:R tp I w xs[s] a1:=hx 0 _ a1 (by simp[lx]) rfl
           have ry:R tp I w ys[s] b1:=hy 0 _ b1 (by simp[ly]) rfl
           have r1:=QH hkf rx ry e1 n w'
           simp at hpq
           simp only[Op.eqFields,hnm.1,ne_eq,not_false_eq_true,if_true,Sem.run_bind,MU (HE hkf) ex,MU (HE hkf) ey,Result.andThen_ok,r1]
           cases p0
           ·simp at hpq ⊢;exact hpq
           ·simp only[Bool.true_and] at hpq
            simp only[Bool.not_true,Bool.false_eq_true,if_false]
            rw[←hpq]
            refine ih kr as bs xs ys (s+1) hkr hof hnm.2 (by rw[hlx];simp;omega) (by rw[hly];simp;omega) ?_ ?_ q0 e2
            ·intro k x c h1 h2;exact hx (k+1) x c (by rw[←h1];congr 1;omega) h2
            ·intro k x c h1 h2;exact hy (k+1) x c (by rw[←h1];congr 1;omega) h2
theorem NB {neg:Bool} {t u:TypeId} {x y:Operand} {c:COp} (ho:o.op= .binOp (if neg then .neq else .eql) t x y u) (hc:lS P neg t x y=some c)
 (hx:R tp I w (a.eval x) (ev σ x)) (hy:R tp I w (a.eval y) (ev σ y)) {H:ab} (hv:aM c σ H K):Good P o a tp I w K:=by
 unfold lS at hc
 split at hc
 ·rename_i k hk
  cases hc
  simp only[aM] at hv
  split at hv
  ·rename_i p hp
   simp only[qaS,Bool.false_eq_true,if_false] at hp
   have hr: ∀n w',(Op.equalIn (n+1) t (a.eval x) (a.eval y)).run P w'= .ok p w':=fun n w'=> QH hk hx hy hp n w'
   refine⟨.bool (if neg then !p else p),_,?_, .bool _,hv⟩
   have hr:=hr 9999 w
   generalize hq1:a.eval x=p1 at*
   generalize hq2:a.eval y=p2 at*
   rcases JT hp with⟨rfl,kk,q,r,e1,e2,rfl⟩ | ⟨rfl,q,r,e1,e2,rfl⟩ | ⟨rfl,q,r,e1,e2,rfl⟩
   all_goals
    rw[e1] at hx;rw[e2] at hy
    have h1:=hx.inv_v;have h2:=hy.inv_v
    subst h1;subst h2
   ·cases neg <;> simp[execOp,ho,hq1,hq2,eqGuard,binOp,Op.intCmp,BEq.beq,bne]
   ·cases neg <;> simp[execOp,ho,hq1,hq2,eqGuard,binOp,Op.stringOp,Of]
   ·cases neg <;> simp[execOp,ho,hq1,hq2,eqGuard,binOp,Op.equal,Op.maxDepth,hr]
  ·exact hv.elim
 ·rename_i hk
  cases hks:uq P t with
  | none=> simp[hks] at hc
  | some ks=>
    simp[hks] at hc
    subst hc
    unfold uq at hks
    split at hks
    ·rename_i fs hu
     split at hks
     ·rename_i hcond
      simp only[Bool.and_eq_true,Bool.not_eq_true',decide_eq_true_eq] at hcond
      obtain⟨⟨⟨c1,c2⟩,c3⟩,c4⟩:=hcond
      simp only[aM] at hv
      split at hv
      ·rename_i p hp
       simp only[qaS,if_true,Option.bind_eq_some_iff] at hp
       obtain⟨as,h1,bs,h2,hp⟩:=hp
       rw[D4 h1] at hx
       rw[D4 h2] at hy
       obtain⟨xs,ex,lx,kx⟩:=hx.inv_agg
       obtain⟨ys,ey,ly,ky⟩:=hy.inv_agg
       have hfo:P.fieldsOf t=fs:=by simp[Program.fieldsOf,hu]
       have hrun:=K5 (P:=P) (tp:=tp) (I:=I) (w:=w) 9998 w fs.toList ks as bs xs ys 0 hks c3 c4 (by omega) (by omega) (fun k x c q1 q2=> (kx k x c (by simpa using q1) q2).2) (fun k x c q1 q2=> (ky k x c (by simpa using q1) q2).2) p hp
       have hagg:=run_equalIn_struct (P:=P) w 9999 t xs.toArray ys.toArray (by rw[hfo];exact hu) c1
       rw[hfo,hrun] at hagg
       have hagg: (Op.equalIn 10000 t (Value.agg xs.toArray) (Value.agg ys.toArray)).run P w= .ok p w:=hagg
       refine⟨.bool (if neg then !p else p),_,?_, .bool _,hv⟩
       cases neg <;> simp only[execOp,ho,ex,ey,if_true,Bool.false_eq_true,if_false,Sem.run_bind,run_eqGuard_agg _ _ _ _ _ _ _ c2,Result.andThen_ok,run_eql_struct,run_neq_struct,hagg,Sem.run_pure]
      ·exact hv.elim
     ·cases hks
    ·cases hks
theorem bq {α β:Type} {f:α→β} {x:Option α} {y:β} (h:x.map f=some y): ∃z,x=some z∧f z=y:=by
 cases x with
 | none=> cases h
 | some z=> exact⟨z,rfl,by simpa using h⟩
theorem JQ {n:Nat} : ∀ {es:List D} (i:Nat),(∀d∈es,d.cells.length=n)→ ∀k,(cj (es.drop i))[k]?=(cj es)[i*n+k]?:=by
 intro es i
 induction i generalizing es with
 | zero=> intro _ k;simp
 | succ i ih=>
   intro h k
   cases es with
   | nil=> simp[cj]
   | cons d es=>
     have hd:=h d (by simp)
     have:=ih (es:=es) (fun d hd=> h d (by simp[hd])) k
     simp only[List.drop_succ_cons]
     rw[this]
     simp only[cj,List.flatMap_cons]
     rw[List.getElem?_append_right (by rw[hd,Nat.succ_mul];omega),hd]
     congr 1
     rw[Nat.succ_mul];omega
theorem kL {es:List D} {h:Nat} {k:Nat} {c:D} (hk: (cj (es.take h))[k]?=some c): (cj es)[k]?=some c:=by
 have:cj es=cj (es.take h) ++cj (es.drop h):=by rw[←oz,List.take_append_drop]
 rw[this,List.getElem?_append_left (List.getElem?_eq_some_iff.1 hk).1]
 exact hk
theorem GX {b off cap n:Nat} {es:List D} {f:Nat→Value} (hI:I b) (hc:es.length≤cap) (hm:cap≤maxLen) (hn: ∀d∈es,d.kn=true∧d.cells.length=n)
 (hcell: ∀ (k:Nat) (c:D),(cj es)[k]?=some c→w.cell? ⟨b,off+k,none⟩=some (f k)) (hone: ∀ (k:Nat) (c:D),(cj es)[k]?=some c→(f k).oneCell'=true)
 (hr: ∀ (k:Nat) (c:D),(cj es)[k]?=some c→R tp I w (f k) c) {l h:Nat} (hlh:l≤h) (hh:h≤es.length):
 R tp I w (.slice (some ⟨b,off+l*n,none⟩) (h -l) (cap -l)) (.list n ((es.take h).drop l)):=by
 have hlen: ((es.take h).drop l).length=h -l:=by simp;omega
 have hmem: ∀d∈ (es.take h).drop l,d∈es:=fun d hd=> List.mem_of_mem_take (List.mem_of_mem_drop hd)
 have hget: ∀ (k:Nat) (c:D),(cj ((es.take h).drop l))[k]?=some c→(cj es)[l*n+k]?=some c:=by
  intro k c hk
  rw[JQ (n:=n) l (fun d hd=> (hn d (List.mem_of_mem_take hd)).2)] at hk
  exact kL hk
 rw[←hlen]
 refine .list b (off+l*n) (cap -l) n _ (fun k=> f (l*n+k)) hI (by omega) (by omega) (fun d hd=> hn d (hmem d hd)) (fun k c hk=> ?_) (fun k c hk=> hone _ c (hget k c hk)) (fun k c hk=> hr _ c (hget k c hk))
 rw[Nat.add_assoc]
 exact hcell _ c (hget k c hk)
theorem zX {lo hi:Option Operand} {len:Nat} {Kc:Nat→Nat→Prop} (hlo: ∀y,lo=some y→R tp I w (a.eval y) (ev σ y)) (hhi: ∀y,hi=some y→R tp I w (a.eval y) (ev σ y))
 (hv:yz (lo.map fun o=> uT (ev σ o)) (hi.map fun o=> uT (ev σ o)) len Kc): ∃l h,l≤h∧h≤len∧Kc l h∧ ∀cap,len≤cap→(Instr.sliceBounds true len cap (lo.map a.eval) (hi.map a.eval) none).run P w= .ok (l,h,cap) w:=by
 have vint: ∀ (y:Operand) (p:IntKind×Int),R tp I w (a.eval y) (ev σ y)→uT (ev σ y)=some p→a.eval y= .int p.1 p.2:=fun y p hy hp=> by
  rw[xh hp] at hy;exact hy.inv_v
 unfold yz at hv
 split at hv
 ·rename_i e2 e3
  have hl:lo=none:=by simpa using e2
  have hh:hi=none:=by simpa using e3
  subst hl;subst hh
  exact⟨0,len,Nat.zero_le _,Nat.le_refl _,hv,fun cap hc=> by simp[Instr.sliceBounds]⟩
 ·rename_i kk l e2 e3
  obtain⟨y,rfl,hy⟩:=bq e2
  have hh:hi=none:=by simpa using e3
  subst hh
  obtain⟨h0,h1,hk⟩:=hv
  have:=vint y _ (hlo y rfl) hy
  refine⟨l.toNat,len,by omega,Nat.le_refl _,hk,fun cap hc=> ?_⟩
  simp[Instr.sliceBounds,this,Instr.sliceBound,asIntOf,h0,h1]
 ·rename_i kk h e2 e3
  obtain⟨y,rfl,hy⟩:=bq e3
  have hl:lo=none:=by simpa using e2
  subst hl
  obtain⟨h0,h1,hk⟩:=hv
  have:=vint y _ (hhi y rfl) hy
  refine⟨0,h.toNat,Nat.zero_le _,by omega,hk,fun cap hc=> ?_⟩
  have h2:h≤(cap:Int):=by omega
  simp[Instr.sliceBounds,this,Instr.sliceBound,asIntOf,h0,h2]
 ·rename_i kl l kh h e2 e3
  obtain⟨y,rfl,hy⟩:=bq e2
  obtain⟨z,rfl,hz⟩:=bq e3
  obtain⟨h0,h1,h2,hk⟩:=hv
  have e4:=vint y _ (hlo y rfl) hy
  have e5:=vint z _ (hhi z rfl) hz
  refine⟨l.toNat,h.toNat,by omega,by omega,hk,fun cap hc=> ?_⟩
  have h3:h≤(cap:Int):=by omega
  have h4: (0:Int)≤h:=by omega
  have h5:l≤((h.toNat:Nat):Int):=by omega
  simp[Instr.sliceBounds,e4,e5,Instr.sliceBound,asIntOf,h0,h3,h4,h5]
  intro hbad;omega
 ·exact hv.elim
theorem PP {t el:TypeId} {n:Nat} {x:Operand} {lo hi:Option Operand} (ho:o.op= .slice t x lo hi none) (ht:P.underlying t=some (.slice el)) (hs:eM P el=some n)
 (hx:R tp I w (a.eval x) (ev σ x)) (hlo: ∀y,lo=some y→R tp I w (a.eval y) (ev σ y)) (hhi: ∀y,hi=some y→R tp I w (a.eval y) (ev σ y)) {H Hr:ab} (hle: ∀i r,Hr i=some r→H i=some r) (hsat: ∀i r,H i=some r→ResOk (R tp I w) w r) (hv:aM (.slice n x lo hi) σ Hr K):Good P o a tp I w K:=by
 simp only[aM] at hv
 split at hv
 ·rename_i n' es e1
  rw[e1] at hx
  obtain⟨rfl,hv⟩:=hv
  generalize hq:a.eval x=q at hx
  have vint: ∀ (y:Operand) (p:IntKind×Int),R tp I w (a.eval y) (ev σ y)→uT (ev σ y)=some p→a.eval y= .int p.1 p.2:=fun y p hy hp=> by
   rw[xh hp] at hy;exact hy.inv_v
  -- what the cut makes of the value
  have main: ∀ (l h:Nat),l≤h→h≤es.length→ ∃y,(∀ (bo:Option Addr) (len cap:Nat),q= .slice bo len cap→
   y= .slice (if cap=l then bo else bo.map (·.add (l*n'))) (h -l) (cap -l))∧R tp I w y (.list n' ((es.take h).drop l)):=by
   intro l h h1 h2
   cases hx with
   | nolist bo cap _=>
     have:h=0:=by simpa using h2
     subst this
     have:l=0:=by omega
     subst this
     refine⟨.slice bo 0 cap,fun bo' len cap' he=> ?_,by simpa using .nolist bo cap n'⟩
     cases he
     cases bo <;> simp[Addr.add_zero']
   | list b off cap _ _ f hI hc hm hn hcell hone hr=>
     by_cases hcl:cap=l
     ·subst hcl
      have e0:h -cap=0:=by omega
      have e1: (es.take h).drop cap= []:=by
       apply List.eq_nil_of_length_eq_zero
       simp;omega
      refine⟨.slice (some ⟨b,off,none⟩) 0 (cap -cap),fun bo' len cap' he=> ?_,by rw[e1];exact .nolist _ _ _⟩
      cases he
      simp[e0]
     ·refine⟨.slice (some ⟨b,off+l*n',none⟩) (h -l) (cap -l),fun bo' len cap' he=> ?_,GX hI hc hm hn hcell hone hr h1 h2⟩
      cases he
      simp[hcl,kU]
  have vsl: ∃bo len cap,q= .slice bo len cap∧len=es.length∧len≤cap:=by
   cases hx with
   | nolist bo cap _=> exact⟨bo,0,cap,rfl,rfl,Nat.zero_le _⟩
   | list b off cap _ _ f hI hc hm hn hcell hone h=> exact⟨_,_,_,rfl,rfl,hc⟩
  obtain⟨bo,len,cap,hqe,hlen,hcap⟩:=vsl
  subst hlen
  have run: ∀ (l h:Nat),l≤h→h≤es.length→(Instr.sliceBounds true es.length cap (lo.map a.eval) (hi.map a.eval) none).run P w= .ok (l,h,cap) w→K (.list n' ((es.take h).drop l))→Good P o a tp I w K:=by
   intro l h h1 h2 hb hk
   obtain⟨y,hy,hR⟩:=main l h h1 h2
   have hy':=hy bo es.length cap hqe
   refine⟨y,_,?_,hR,hk⟩
   rw[hy']
   simp only[execOp,ho,hq,hqe,Instr.sliceAt,Sem.run_bind,run_underlying ht,Result.andThen_ok,Instr.slice,Option.map_none,hb,ci hs,Sem.run_pure]
  split at hv
  ·rename_i e2 e3
   have hl:lo=none:=by simpa using e2
   have hh:hi=none:=by simpa using e3
   subst hl;subst hh
   exact run 0 es.length (Nat.zero_le _) (Nat.le_refl _) (by simp[Instr.sliceBounds]) (by simpa using hv)
  ·rename_i kk l e2 e3
   obtain⟨y,rfl,hy⟩:=bq e2
   have hh:hi=none:=by simpa using e3
   subst hh
   obtain⟨h0,h1,hk⟩:=hv
   have:=vint y _ (hlo y rfl) hy
   refine run l.toNat es.length (by omega) (Nat.le_refl _) ?_ (by simpa using hk)
   simp[Instr.sliceBounds,this,Instr.sliceBound,asIntOf,h0,h1]
  ·rename_i kk h e2 e3
   obtain⟨y,rfl,hy⟩:=bq e3
   have hl:lo=none:=by simpa using e2
   subst hl
   obtain⟨h0,h1,hk⟩:=hv
   have:=vint y _ (hhi y rfl) hy
   have h2:h≤(cap:Int):=by omega
   refine run 0 h.toNat (Nat.zero_le _) (by omega) ?_ (by simpa using hk)
   simp[Instr.sliceBounds,this,Instr.sliceBound,asIntOf,h0,h2]
  ·rename_i kl l kh h e2 e3
   obtain⟨y,rfl,hy⟩:=bq e2
   obtain⟨z,rfl,hz⟩:=bq e3
   obtain⟨h0,h1,h2,hk⟩:=hv
   have e4:=vint y _ (hlo y rfl) hy
   have e5:=vint z _ (hhi z rfl) hz
   have h3:h≤(cap:Int):=by omega
   have h4: (0:Int)≤h:=by omega
   have h5:l≤((h.toNat:Nat):Int):=by omega
   refine run l.toNat h.toNat (by omega) (by omega) ?_ hk
   simp[Instr.sliceBounds,e4,e5,Instr.sliceBound,asIntOf,h0,h3,h4,h5]
   intro hbad;omega
  ·exact hv.elim
 ·rename_i id y e1
  rw[e1] at hx
  generalize hq:a.eval x=q at hx
  cases hx with
  | own _ _ hone=>
    split at hv
    ·rename_i x' el' n' es hH
     obtain⟨hxe,rfl,hv⟩:=hv
     subst hxe
     obtain⟨xs,⟨g1,g2⟩,g3⟩:=hsat _ _ (hle _ _ hH)
     obtain⟨l,h,h1,h2,hk,hb⟩:=zX (P:=P) (w:=w) hlo hhi hv
     rcases g2 with⟨h3,h4⟩ | ⟨g,cap,cur,h3,_,g5,g6,g7,_⟩
     ·have h40:h=0:=by omega
      have hl0:l=0:=by omega
      subst h40;subst hl0
      have hb':=hb 0 (by omega)
      rw[h3] at hk
      rw[h4] at hb'
      refine⟨.slice none 0 0,_,?_, .subnil id n',hk⟩
      simp only[execOp,ho,hq,h3,Instr.sliceAt,Sem.run_bind,run_underlying ht,Result.andThen_ok,Instr.slice,Option.map_none,hb',ci hs,Sem.run_pure]
      simp
     ·have hb':=hb cap g6
      rw[h3] at hk
      refine⟨.slice (if cap=l then some ⟨g,0,none⟩ else some ⟨g,l*n',none⟩) (h -l) (cap -l),_,?_, .sub id g es.length cap n' l h _ h1 h2 g6 g7 (fun h5=> ?_),hk⟩
      ·simp only[execOp,ho,hq,h3,Instr.sliceAt,Sem.run_bind,run_underlying ht,Result.andThen_ok,Instr.slice,Option.map_none,hb',ci hs,Sem.run_pure]
       by_cases hcl:cap=l <;> simp[hcl,kU]
      ·by_cases hcl:cap=l
       ·have:l=0:=by omega
        simp[hcl,this]
       ·simp[hcl]
    ·exact hv.elim
 ·rename_i id y n' lo' hi' e1
  rw[e1] at hx
  obtain⟨rfl,hv⟩:=hv
  obtain⟨l,h,h1,h2,hk,hb⟩:=zX (P:=P) (w:=w) hlo hhi hv
  generalize hq:a.eval x=q at hx
  cases hx with
  | subnil=>
    have h40:h=0:=by omega
    have hl0:l=0:=by omega
    subst h40;subst hl0
    have hb':=hb 0 (by omega)
    refine⟨.slice none 0 0,_,?_, .subnil id n',hk⟩
    simp only[execOp,ho,hq,Instr.sliceAt,Sem.run_bind,run_underlying ht,Result.andThen_ok,Instr.slice,Option.map_none,hb',ci hs,Sem.run_pure]
    simp
  | sub _ b len cap _ _ _ p g1 g2 g3 hm hp=>
    have hb':=hb (cap -lo') (by omega)
    have e2:h -l=(lo'+h) - (lo'+l):=by omega
    have e3:cap -lo' -l=cap - (lo'+l):=by omega
    refine⟨.slice (if cap -lo'=l then p else p.map (·.add (l*n'))) (h -l) (cap -lo' -l),_,?_,?_,hk⟩
    ·simp only[execOp,ho,hq,Instr.sliceAt,Sem.run_bind,run_underlying ht,Result.andThen_ok,Instr.slice,Option.map_none,hb',ci hs,Sem.run_pure]
    ·rw[e2,e3]
     refine .sub id b len cap n' (lo'+l) (lo'+h) _ (by omega) (by omega) g3 hm (fun h5=> ?_)
     by_cases hcl:cap -lo'=l
     ·have hl0:l=0:=by omega
      have hlo0:lo'=0:=by omega
      have:=hp (.inr hlo0)
      rw[this]
      subst hl0;subst hlo0
      simp[Addr.add_zero']
     ·have:=hp (by omega)
      rw[if_neg hcl,this]
      simp[kU,Nat.add_mul]
 ·rename_i e1
  rw[e1] at hx
  have hq:=hx.inv_v
  obtain⟨l,h,h1,h2,hk,hb⟩:=zX (P:=P) (w:=w) hlo hhi hv
  have h40:h=0:=by omega
  have hl0:l=0:=by omega
  subst h40;subst hl0
  have hb':=hb 0 (by omega)
  refine⟨.slice none 0 0,_,?_, .v _ rfl (fun s hs=> by cases hs),hk⟩
  simp only[execOp,ho,hq,Instr.sliceAt,Sem.run_bind,run_underlying ht,Result.andThen_ok,Instr.slice,Option.map_none,hb',ci hs,Sem.run_pure]
  simp
 ·exact hv.elim
theorem Nz {t:TypeId} {x:Operand} {lo hi:Option Operand} (ho:o.op= .slice t x lo hi none) (ht:P.underlying t=some .string)
 (hx:R tp I w (a.eval x) (ev σ x)) (hlo: ∀y,lo=some y→R tp I w (a.eval y) (ev σ y)) (hhi: ∀y,hi=some y→R tp I w (a.eval y) (ev σ y)) {H:ab} (hv:aM (.sslice x lo hi) σ H K):Good P o a tp I w K:=by
 simp only[aM] at hv
 split at hv
 ·rename_i s e1
  rw[e1] at hx
  obtain⟨hq,hsz⟩:=hx.inv_str
  have vint: ∀ (y:Operand) (p:IntKind×Int),R tp I w (a.eval y) (ev σ y)→uT (ev σ y)=some p→a.eval y= .int p.1 p.2:=fun y p hy hp=> by
   rw[xh hp] at hy;exact hy.inv_v
  have run: ∀ (l h:Nat),(Instr.sliceBounds false s.size s.size (lo.map a.eval) (hi.map a.eval) none).run P w= .ok (l,h,s.size) w→K (.v (.string (s.extract l h)))→Good P o a tp I w K:=by
   intro l h hb hk
   refine⟨.string (s.extract l h),_,?_, .str _ ?_,hk⟩
   ·simp only[execOp,ho,hq,Instr.sliceAt,Sem.run_bind,run_underlying ht,Result.andThen_ok,Instr.slice,Option.map_none,Option.isSome_none,Bool.false_eq_true,if_false,hb,Sem.run_pure]
   ·have: (s.extract l h).size≤s.size:=by simp[ByteArray.size_extract];omega
    omega
  split at hv
  ·rename_i e2 e3
   have hl:lo=none:=by simpa using e2
   have hh:hi=none:=by simpa using e3
   subst hl;subst hh
   exact run 0 s.size (by simp[Instr.sliceBounds]) hv
  ·rename_i kk l e2 e3
   obtain⟨y,rfl,hy⟩:=bq e2
   have hh:hi=none:=by simpa using e3
   subst hh
   obtain⟨h0,h1,hk⟩:=hv
   have:=vint y _ (hlo y rfl) hy
   refine run l.toNat s.size ?_ hk
   simp[Instr.sliceBounds,this,Instr.sliceBound,asIntOf,h0,h1]
  ·rename_i kk h e2 e3
   obtain⟨y,rfl,hy⟩:=bq e3
   have hl:lo=none:=by simpa using e2
   subst hl
   obtain⟨h0,h1,hk⟩:=hv
   have:=vint y _ (hhi y rfl) hy
   refine run 0 h.toNat ?_ hk
   simp[Instr.sliceBounds,this,Instr.sliceBound,asIntOf,h0,h1]
  ·rename_i kl l kh h e2 e3
   obtain⟨y,rfl,hy⟩:=bq e2
   obtain⟨z,rfl,hz⟩:=bq e3
   obtain⟨h0,h1,h2,hk⟩:=hv
   have e4:=vint y _ (hlo y rfl) hy
   have e5:=vint z _ (hhi z rfl) hz
   have h4: (0:Int)≤h:=by omega
   have h5:l≤((h.toNat:Nat):Int):=by omega
   refine run l.toNat h.toNat ?_ hk
   simp[Instr.sliceBounds,e4,e5,Instr.sliceBound,asIntOf,h0,h2,h4,h5]
   intro hbad;omega
  ·exact hv.elim
 ·exact hv.elim
end
end Go.Gv
