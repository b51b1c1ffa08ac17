/- A part of the framework and of the walks: S3 S4 S5. -/
import Derived.Test.YtaiffcbkmgfklaaGreatDoorGw02
set_option linter.unusedSimpArgs false
set_option linter.unusedVariables false

namespace Go.Gv
section
variable {P : Program} {o : Oper} {a : Act} {tp I : Nat → Prop} {w : World} {σ : Sg} {K : D → Prop}

theorem eqKind_agg {t : TypeId} {k : EqK} (h : eqKind P t = some k) : aggOf P t = some false := by
 unfold eqKind at h
 unfold aggOf
 cases hu : P.underlying t with
 | none => simp [hu] at h
 | some d => rw [hu] at h; cases d <;> simp at h ⊢

theorem bytes_eq (a b : ByteArray) : (a.toList == b.toList) = decide (a = b) := by
 rw [ByteArray.toList_eq, ByteArray.toList_eq]
 have : (a = b) ↔ (a.data.toList = b.data.toList) := by
  constructor
  ·intro h; rw [h]
  ·intro h
   cases a; cases b
   simp only at h
   congr 1
   exact Array.toList_inj.1 h
 simp only [this]
 rw [Bool.eq_iff_iff]
 simp

theorem asI_eq {d : D} {p : IntKind × Int} (h : asI d = some p) : d = .v (.int p.1 p.2) := by
 unfold asI at h
 split at h
 ·cases h; rfl
 ·cases h
theorem asS_eq {d : D} {s : ByteArray} (h : asS d = some s) : d = .v (.string s) := by
 unfold asS at h
 split at h
 ·cases h; rfl
 ·cases h
theorem asB_eq {d : D} {b : Bool} (h : asB d = some b) : d = .v (.bool b) := by
 unfold asB at h
 split at h
 ·cases h; rfl
 ·cases h
theorem aggCells_eq {d : D} {cs : List D} (h : aggCells d = some cs) : d = .agg cs := by
 unfold aggCells at h
 split at h
 ·cases h; rfl
 ·cases h

theorem eqB_cases {k : EqK} {d e : D} {p : Bool} (h : eqB k d e = some p) :
 (k = .int ∧ ∃ kk a b, d = .v (.int kk a) ∧ e = .v (.int kk b) ∧ p = decide (a = b)) ∨ (k = .str ∧ ∃ a b, d = .v (.string a) ∧ e = .v (.string b) ∧ p = decide (a = b)) ∨
 (k = .bool ∧ ∃ a b, d = .v (.bool a) ∧ e = .v (.bool b) ∧ p = decide (a = b)) := by
 cases k with
 | int =>
   simp only [eqB, Option.bind_eq_some_iff] at h
   obtain ⟨⟨k1, a⟩, h1, ⟨k2, b⟩, h2, h3⟩ := h
   split at h3
   ·rename_i hk
    simp only at hk h3
    subst hk
    cases h3
    exact .inl ⟨rfl, k1, a, b, asI_eq h1, asI_eq h2, rfl⟩
   ·cases h3
 | str =>
   simp only [eqB, Option.bind_eq_some_iff] at h
   obtain ⟨a, h1, b, h2, h3⟩ := h
   cases h3
   exact .inr (.inl ⟨rfl, a, b, asS_eq h1, asS_eq h2, rfl⟩)
 | bool =>
   simp only [eqB, Option.bind_eq_some_iff] at h
   obtain ⟨a, h1, b, h2, h3⟩ := h
   cases h3
   exact .inr (.inr ⟨rfl, a, b, asB_eq h1, asB_eq h2, rfl⟩)

theorem eqKind_int {t : TypeId} (h : eqKind P t = some .int) : ∃ k, P.underlying t = some (.int k) := by
 unfold eqKind at h
 split at h <;> first | exact ⟨_, by assumption⟩ | cases h
theorem eqKind_str {t : TypeId} (h : eqKind P t = some .str) : P.underlying t = some .string := by
 unfold eqKind at h
 split at h <;> first | assumption | cases h
theorem eqKind_bool {t : TypeId} (h : eqKind P t = some .bool) : P.underlying t = some .bool := by
 unfold eqKind at h
 split at h <;> first | assumption | cases h

theorem run_eqB {t : TypeId} {k : EqK} (h : eqKind P t = some k) {x y : Value} {d e : D} (hx : R tp I w x d) (hy : R tp I w y e) {p : Bool} (hp : eqB k d e = some p) (n : Nat) (w' : World) :
 (Op.equalIn (n + 1) t x y).run P w' = .ok p w' := by
 rcases eqB_cases hp with ⟨rfl, kk, q, r, rfl, rfl, rfl⟩ | ⟨rfl, q, r, rfl, rfl, rfl⟩ | ⟨rfl, q, r, rfl, rfl, rfl⟩
 ·have h1 := hx.inv_v; have h2 := hy.inv_v
  subst h1; subst h2
  obtain ⟨k0, hu⟩ := eqKind_int h
  rw [run_equalIn_int w' n t _ _ _ _ hu]
  simp [BEq.beq]
 ·have h1 := hx.inv_v; have h2 := hy.inv_v
  subst h1; subst h2
  rw [run_equalIn_string w' n t _ _ (eqKind_str h), bytes_eq]
 ·have h1 := hx.inv_v; have h2 := hy.inv_v
  subst h1; subst h2
  rw [run_equalIn_bool' w' n t _ _ (eqKind_bool h)]
  simp [BEq.beq]

theorem run_part {t : TypeId} (h : aggOf P t = some false) {xs : List Value} {off : Nat} {x : Value} (hx : xs[off]? = some x) (w' : World) : (part t xs.toArray off).run P w' = .ok x w' := by
 simp [part, run_isAgg h, hx]

theorem run_eqFields (n : Nat) (w' : World) (fs : List Field) : ∀ (ks : List EqK) (as bs : List D) (xs ys : List Value) (s : Nat),
 fs.mapM (fun f => eqKind P f.type) = some ks → fs.map (·.offset) = List.range' s fs.length → fs.all (fun f => decide (f.name ≠ "_")) = true →
 xs.length = s + as.length → ys.length = s + bs.length → (∀ (k : Nat) (x : Value) (c : D), xs[s + k]? = some x → as[k]? = some c → R tp I w x c) → (∀ (k : Nat) (x : Value) (c : D), ys[s + k]? = some x → bs[k]? = some c → R tp I w x c) →
 ∀ p, eqL ks as bs = some p → (Op.eqFields (n + 1) xs.toArray ys.toArray fs).run P w' = .ok p w' := by
 induction fs with
 | nil =>
   intro ks as bs xs ys s hk hof hnm hlx hly hx hy p hp
   simp at hk
   subst hk
   simp [eqL] at hp
   simp [Op.eqFields, hp.2]
 | cons f fs ih =>
   intro ks as bs xs ys s hk hof hnm hlx hly hx hy p hp
   rw [List.mapM_cons] at hk
   cases hkf : eqKind P f.type with
   | none => simp [hkf] at hk
   | some k0 =>
     cases hkr : fs.mapM (fun f => eqKind P f.type) with
     | none => simp [hkf, hkr] at hk
     | some kr =>
       simp [hkf, hkr] at hk
       subst hk
       simp only [List.map_cons, List.length_cons, List.range'_succ, List.cons.injEq] at hof
       obtain ⟨h0, hof⟩ := hof
       simp only [List.all_cons, Bool.and_eq_true, decide_eq_true_eq] at hnm
       simp only [eqL, Option.bind_eq_some_iff] at hp
       obtain ⟨a0, ha0, b0, hb0, p0, e1, q0, e2, hpq⟩ := hp
       cases as with
       | nil => simp at ha0
       | cons a1 as =>
         cases bs with
         | nil => simp at hb0
         | cons b1 bs =>
           simp at ha0 hb0
           subst ha0; subst hb0
           simp only [List.tail_cons] at e2
           have lx : s < xs.length := by rw [hlx]; simp
           have ly : s < ys.length := by rw [hly]; simp
           have ex : xs[f.offset]? = some xs[s] := by rw [h0]; simp [lx]
           have ey : ys[f.offset]? = some ys[s] := by rw [h0]; simp [ly]
           have rx : R tp I w xs[s] a1 := hx 0 _ a1 (by simp [lx]) rfl
           have ry : R tp I w ys[s] b1 := hy 0 _ b1 (by simp [ly]) rfl
           have r1 := run_eqB hkf rx ry e1 n w'
           simp at hpq
           simp only [Op.eqFields, hnm.1, ne_eq, not_false_eq_true, if_true, Sem.run_bind, run_part (eqKind_agg hkf) ex, run_part (eqKind_agg hkf) ey, Result.andThen_ok, r1]
           cases p0
           ·simp at hpq ⊢; exact hpq
           ·simp only [Bool.true_and] at hpq
            simp only [Bool.not_true, Bool.false_eq_true, if_false]
            rw [← hpq]
            refine ih kr as bs xs ys (s + 1) hkr hof hnm.2 (by rw [hlx]; simp; omega) (by rw [hly]; simp; omega) ?_ ?_ q0 e2
            ·intro k x c h1 h2; exact hx (k + 1) x c (by rw [← h1]; congr 1; omega) h2
            ·intro k x c h1 h2; exact hy (k + 1) x c (by rw [← h1]; congr 1; omega) h2

theorem good_eql {neg : Bool} {t u : TypeId} {x y : Operand} {c : COp} (ho : o.op = .binOp (if neg then .neq else .eql) t x y u) (hc : compileEq P neg t x y = some c)
 (hx : R tp I w (a.eval x) (ev σ x)) (hy : R tp I w (a.eval y) (ev σ y)) {H : HMap} (hv : readVC c σ H K) : Good P o a tp I w K := by
 unfold compileEq at hc
 split at hc
 ·rename_i k hk
  cases hc
  simp only [readVC] at hv
  split at hv
  ·rename_i p hp
   simp only [eqD, Bool.false_eq_true, if_false] at hp
   have hr : ∀ n w', (Op.equalIn (n + 1) t (a.eval x) (a.eval y)).run P w' = .ok p w' := fun n w' => run_eqB hk hx hy hp n w'
   refine ⟨.bool (if neg then !p else p), _, ?_, .bool _, hv⟩
   have hr := hr 9999 w
   generalize hq1 : a.eval x = p1 at *
   generalize hq2 : a.eval y = p2 at *
   rcases eqB_cases hp with ⟨rfl, kk, q, r, e1, e2, rfl⟩ | ⟨rfl, q, r, e1, e2, rfl⟩ | ⟨rfl, q, r, e1, e2, rfl⟩
   all_goals
    rw [e1] at hx; rw [e2] at hy
    have h1 := hx.inv_v; have h2 := hy.inv_v
    subst h1; subst h2
   ·cases neg <;> simp [execOp, ho, hq1, hq2, eqGuard, binOp, Op.intCmp, BEq.beq, bne]
   ·cases neg <;> simp [execOp, ho, hq1, hq2, eqGuard, binOp, Op.stringOp, bytes_eq]
   ·cases neg <;> simp [execOp, ho, hq1, hq2, eqGuard, binOp, Op.equal, Op.maxDepth, hr]
  ·exact hv.elim
 ·rename_i hk
  cases hks : eqKinds P t with
  | none => simp [hks] at hc
  | some ks =>
    simp [hks] at hc
    subst hc
    unfold eqKinds at hks
    split at hks
    ·rename_i fs hu
     split at hks
     ·rename_i hcond
      simp only [Bool.and_eq_true, Bool.not_eq_true', decide_eq_true_eq] at hcond
      obtain ⟨⟨⟨c1, c2⟩, c3⟩, c4⟩ := hcond
      simp only [readVC] at hv
      split at hv
      ·rename_i p hp
       simp only [eqD, if_true, Option.bind_eq_some_iff] at hp
       obtain ⟨as, h1, bs, h2, hp⟩ := hp
       rw [aggCells_eq h1] at hx
       rw [aggCells_eq h2] at hy
       obtain ⟨xs, ex, lx, kx⟩ := hx.inv_agg
       obtain ⟨ys, ey, ly, ky⟩ := hy.inv_agg
       have hfo : P.fieldsOf t = fs := by simp [Program.fieldsOf, hu]
       have hrun := run_eqFields (P := P) (tp := tp) (I := I) (w := w) 9998 w fs.toList ks as bs xs ys 0 hks c3 c4 (by omega) (by omega) (fun k x c q1 q2 => (kx k x c (by simpa using q1) q2).2) (fun k x c q1 q2 => (ky k x c (by simpa using q1) q2).2) p hp
       have hagg := run_equalIn_struct (P := P) w 9999 t xs.toArray ys.toArray (by rw [hfo]; exact hu) c1
       rw [hfo, hrun] at hagg
       have hagg : (Op.equalIn 10000 t (Value.agg xs.toArray) (Value.agg ys.toArray)).run P w = .ok p w := hagg
       refine ⟨.bool (if neg then !p else p), _, ?_, .bool _, hv⟩
       cases neg <;> simp only [execOp, ho, ex, ey, if_true, Bool.false_eq_true, if_false, Sem.run_bind, run_eqGuard_agg _ _ _ _ _ _ _ c2, Result.andThen_ok, run_eql_struct, run_neq_struct, hagg, Sem.run_pure]
      ·exact hv.elim
     ·cases hks
    ·cases hks

/-! ### cuts -/
theorem opt_map_some {α β : Type} {f : α → β} {x : Option α} {y : β} (h : x.map f = some y) : ∃ z, x = some z ∧ f z = y := by
 cases x with
 | none => cases h
 | some z => exact ⟨z, rfl, by simpa using h⟩

theorem flat_drop {n : Nat} : ∀ {es : List D} (i : Nat), (∀ d ∈ es, d.cells.length = n) → ∀ k, (flat (es.drop i))[k]? = (flat es)[i * n + k]? := by
 intro es i
 induction i generalizing es with
 | zero => intro _ k; simp
 | succ i ih =>
   intro h k
   cases es with
   | nil => simp [flat]
   | cons d es =>
     have hd := h d (by simp)
     have := ih (es := es) (fun d hd => h d (by simp [hd])) k
     simp only [List.drop_succ_cons]
     rw [this]
     simp only [flat, List.flatMap_cons]
     rw [List.getElem?_append_right (by rw [hd, Nat.succ_mul]; omega), hd]
     congr 1
     rw [Nat.succ_mul]; omega

theorem flat_take_get {es : List D} {h : Nat} {k : Nat} {c : D} (hk : (flat (es.take h))[k]? = some c) : (flat es)[k]? = some c := by
 have : flat es = flat (es.take h) ++ flat (es.drop h) := by rw [← flat_append, List.take_append_drop]
 rw [this, List.getElem?_append_left (List.getElem?_eq_some_iff.1 hk).1]
 exact hk

/-- A part of a list, from l on, h elements long. -/
theorem list_cut {b off cap n : Nat} {es : List D} {f : Nat → Value} (hI : I b) (hc : es.length ≤ cap) (hm : cap ≤ maxLen) (hn : ∀ d ∈ es, d.kn = true ∧ d.cells.length = n)
 (hcell : ∀ (k : Nat) (c : D), (flat es)[k]? = some c → w.cell? ⟨b, off + k, none⟩ = some (f k)) (hone : ∀ (k : Nat) (c : D), (flat es)[k]? = some c → (f k).oneCell' = true)
 (hr : ∀ (k : Nat) (c : D), (flat es)[k]? = some c → R tp I w (f k) c) {l h : Nat} (hlh : l ≤ h) (hh : h ≤ es.length) :
 R tp I w (.slice (some ⟨b, off + l * n, none⟩) (h - l) (cap - l)) (.list n ((es.take h).drop l)) := by
 have hlen : ((es.take h).drop l).length = h - l := by simp; omega
 have hmem : ∀ d ∈ (es.take h).drop l, d ∈ es := fun d hd => List.mem_of_mem_take (List.mem_of_mem_drop hd)
 have hget : ∀ (k : Nat) (c : D), (flat ((es.take h).drop l))[k]? = some c → (flat es)[l * n + k]? = some c := by
  intro k c hk
  rw [flat_drop (n := n) l (fun d hd => (hn d (List.mem_of_mem_take hd)).2)] at hk
  exact flat_take_get hk
 rw [← hlen]
 refine .list b (off + l * n) (cap - l) n _ (fun k => f (l * n + k)) hI (by omega) (by omega) (fun d hd => hn d (hmem d hd)) (fun k c hk => ?_) (fun k c hk => hone _ c (hget k c hk)) (fun k c hk => hr _ c (hget k c hk))
 rw [Nat.add_assoc]
 exact hcell _ c (hget k c hk)

theorem cut_bounds {lo hi : Option Operand} {len : Nat} {Kc : Nat → Nat → Prop} (hlo : ∀ y, lo = some y → R tp I w (a.eval y) (ev σ y)) (hhi : ∀ y, hi = some y → R tp I w (a.eval y) (ev σ y))
 (hv : cutVC (lo.map fun o => asI (ev σ o)) (hi.map fun o => asI (ev σ o)) len Kc) : ∃ l h, l ≤ h ∧ h ≤ len ∧ Kc l h ∧ ∀ cap, len ≤ cap → (Instr.sliceBounds true len cap (lo.map a.eval) (hi.map a.eval) none).run P w = .ok (l, h, cap) w := by
 have vint : ∀ (y : Operand) (p : IntKind × Int), R tp I w (a.eval y) (ev σ y) → asI (ev σ y) = some p → a.eval y = .int p.1 p.2 := fun y p hy hp => by
  rw [asI_eq hp] at hy; exact hy.inv_v
 unfold cutVC at hv
 split at hv
 ·rename_i e2 e3
  have hl : lo = none := by simpa using e2
  have hh : hi = none := by simpa using e3
  subst hl; subst hh
  exact ⟨0, len, Nat.zero_le _, Nat.le_refl _, hv, fun cap hc => by simp [Instr.sliceBounds]⟩
 ·rename_i kk l e2 e3
  obtain ⟨y, rfl, hy⟩ := opt_map_some e2
  have hh : hi = none := by simpa using e3
  subst hh
  obtain ⟨h0, h1, hk⟩ := hv
  have := vint y _ (hlo y rfl) hy
  refine ⟨l.toNat, len, by omega, Nat.le_refl _, hk, fun cap hc => ?_⟩
  simp [Instr.sliceBounds, this, Instr.sliceBound, asIntOf, h0, h1]
 ·rename_i kk h e2 e3
  obtain ⟨y, rfl, hy⟩ := opt_map_some e3
  have hl : lo = none := by simpa using e2
  subst hl
  obtain ⟨h0, h1, hk⟩ := hv
  have := vint y _ (hhi y rfl) hy
  refine ⟨0, h.toNat, Nat.zero_le _, by omega, hk, fun cap hc => ?_⟩
  have h2 : h ≤ (cap : Int) := by omega
  simp [Instr.sliceBounds, this, Instr.sliceBound, asIntOf, h0, h2]
 ·rename_i kl l kh h e2 e3
  obtain ⟨y, rfl, hy⟩ := opt_map_some e2
  obtain ⟨z, rfl, hz⟩ := opt_map_some e3
  obtain ⟨h0, h1, h2, hk⟩ := hv
  have e4 := vint y _ (hlo y rfl) hy
  have e5 := vint z _ (hhi z rfl) hz
  refine ⟨l.toNat, h.toNat, by omega, by omega, hk, fun cap hc => ?_⟩
  have h3 : h ≤ (cap : Int) := by omega
  have h4 : (0 : Int) ≤ h := by omega
  have h5 : l ≤ ((h.toNat : Nat) : Int) := by omega
  simp [Instr.sliceBounds, e4, e5, Instr.sliceBound, asIntOf, h0, h3, h4, h5]
  intro hbad; omega
 ·exact hv.elim

theorem good_slice {t el : TypeId} {n : Nat} {x : Operand} {lo hi : Option Operand} (ho : o.op = .slice t x lo hi none) (ht : P.underlying t = some (.slice el)) (hs : szOf P el = some n)
 (hx : R tp I w (a.eval x) (ev σ x)) (hlo : ∀ y, lo = some y → R tp I w (a.eval y) (ev σ y)) (hhi : ∀ y, hi = some y → R tp I w (a.eval y) (ev σ y)) {H Hr : HMap} (hle : ∀ i r, Hr i = some r → H i = some r) (hsat : ∀ i r, H i = some r → ResOk (R tp I w) w r) (hv : readVC (.slice n x lo hi) σ Hr K) : Good P o a tp I w K := by
 simp only [readVC] at hv
 split at hv
 ·rename_i n' es e1
  rw [e1] at hx
  obtain ⟨rfl, hv⟩ := hv
  generalize hq : a.eval x = q at hx
  have vint : ∀ (y : Operand) (p : IntKind × Int), R tp I w (a.eval y) (ev σ y) → asI (ev σ y) = some p → a.eval y = .int p.1 p.2 := fun y p hy hp => by
   rw [asI_eq hp] at hy; exact hy.inv_v
  -- what the cut makes of the value
  have main : ∀ (l h : Nat), l ≤ h → h ≤ es.length → ∃ y, (∀ (bo : Option Addr) (len cap : Nat), q = .slice bo len cap →
   y = .slice (if cap = l then bo else bo.map (·.add (l * n'))) (h - l) (cap - l)) ∧ R tp I w y (.list n' ((es.take h).drop l)) := by
   intro l h h1 h2
   cases hx with
   | nolist bo cap _ =>
     have : h = 0 := by simpa using h2
     subst this
     have : l = 0 := by omega
     subst this
     refine ⟨.slice bo 0 cap, fun bo' len cap' he => ?_, by simpa using .nolist bo cap n'⟩
     cases he
     cases bo <;> simp [Addr.add_zero']
   | list b off cap _ _ f hI hc hm hn hcell hone hr =>
     by_cases hcl : cap = l
     ·subst hcl
      have e0 : h - cap = 0 := by omega
      have e1 : (es.take h).drop cap = [] := by
       apply List.eq_nil_of_length_eq_zero
       simp; omega
      refine ⟨.slice (some ⟨b, off, none⟩) 0 (cap - cap), fun bo' len cap' he => ?_, by rw [e1]; exact .nolist _ _ _⟩
      cases he
      simp [e0]
     ·refine ⟨.slice (some ⟨b, off + l * n', none⟩) (h - l) (cap - l), fun bo' len cap' he => ?_, list_cut hI hc hm hn hcell hone hr h1 h2⟩
      cases he
      simp [hcl, addr_add]
  have vsl : ∃ bo len cap, q = .slice bo len cap ∧ len = es.length ∧ len ≤ cap := by
   cases hx with
   | nolist bo cap _ => exact ⟨bo, 0, cap, rfl, rfl, Nat.zero_le _⟩
   | list b off cap _ _ f hI hc hm hn hcell hone h => exact ⟨_, _, _, rfl, rfl, hc⟩
  obtain ⟨bo, len, cap, hqe, hlen, hcap⟩ := vsl
  subst hlen
  have run : ∀ (l h : Nat), l ≤ h → h ≤ es.length → (Instr.sliceBounds true es.length cap (lo.map a.eval) (hi.map a.eval) none).run P w = .ok (l, h, cap) w → K (.list n' ((es.take h).drop l)) → Good P o a tp I w K := by
   intro l h h1 h2 hb hk
   obtain ⟨y, hy, hR⟩ := main l h h1 h2
   have hy' := hy bo es.length cap hqe
   refine ⟨y, _, ?_, hR, hk⟩
   rw [hy']
   simp only [execOp, ho, hq, hqe, Instr.sliceAt, Sem.run_bind, run_underlying ht, Result.andThen_ok, Instr.slice, Option.map_none, hb, run_sizeOf' hs, Sem.run_pure]
  split at hv
  ·rename_i e2 e3
   have hl : lo = none := by simpa using e2
   have hh : hi = none := by simpa using e3
   subst hl; subst hh
   exact run 0 es.length (Nat.zero_le _) (Nat.le_refl _) (by simp [Instr.sliceBounds]) (by simpa using hv)
  ·rename_i kk l e2 e3
   obtain ⟨y, rfl, hy⟩ := opt_map_some e2
   have hh : hi = none := by simpa using e3
   subst hh
   obtain ⟨h0, h1, hk⟩ := hv
   have := vint y _ (hlo y rfl) hy
   refine run l.toNat es.length (by omega) (Nat.le_refl _) ?_ (by simpa using hk)
   simp [Instr.sliceBounds, this, Instr.sliceBound, asIntOf, h0, h1]
  ·rename_i kk h e2 e3
   obtain ⟨y, rfl, hy⟩ := opt_map_some e3
   have hl : lo = none := by simpa using e2
   subst hl
   obtain ⟨h0, h1, hk⟩ := hv
   have := vint y _ (hhi y rfl) hy
   have h2 : h ≤ (cap : Int) := by omega
   refine run 0 h.toNat (Nat.zero_le _) (by omega) ?_ (by simpa using hk)
   simp [Instr.sliceBounds, this, Instr.sliceBound, asIntOf, h0, h2]
  ·rename_i kl l kh h e2 e3
   obtain ⟨y, rfl, hy⟩ := opt_map_some e2
   obtain ⟨z, rfl, hz⟩ := opt_map_some e3
   obtain ⟨h0, h1, h2, hk⟩ := hv
   have e4 := vint y _ (hlo y rfl) hy
   have e5 := vint z _ (hhi z rfl) hz
   have h3 : h ≤ (cap : Int) := by omega
   have h4 : (0 : Int) ≤ h := by omega
   have h5 : l ≤ ((h.toNat : Nat) : Int) := by omega
   refine run l.toNat h.toNat (by omega) (by omega) ?_ hk
   simp [Instr.sliceBounds, e4, e5, Instr.sliceBound, asIntOf, h0, h3, h4, h5]
   intro hbad; omega
  ·exact hv.elim
 ·rename_i id y e1
  rw [e1] at hx
  generalize hq : a.eval x = q at hx
  cases hx with
  | own _ _ hone =>
    split at hv
    ·rename_i x' el' n' es hH
     obtain ⟨hxe, rfl, hv⟩ := hv
     subst hxe
     obtain ⟨xs, ⟨g1, g2⟩, g3⟩ := hsat _ _ (hle _ _ hH)
     obtain ⟨l, h, h1, h2, hk, hb⟩ := cut_bounds (P := P) (w := w) hlo hhi hv
     rcases g2 with ⟨h3, h4⟩ | ⟨g, cap, cur, h3, _, g5, g6, g7, _⟩
     ·have h40 : h = 0 := by omega
      have hl0 : l = 0 := by omega
      subst h40; subst hl0
      have hb' := hb 0 (by omega)
      rw [h3] at hk
      rw [h4] at hb'
      refine ⟨.slice none 0 0, _, ?_, .subnil id n', hk⟩
      simp only [execOp, ho, hq, h3, Instr.sliceAt, Sem.run_bind, run_underlying ht, Result.andThen_ok, Instr.slice, Option.map_none, hb', run_sizeOf' hs, Sem.run_pure]
      simp
     ·have hb' := hb cap g6
      rw [h3] at hk
      refine ⟨.slice (if cap = l then some ⟨g, 0, none⟩ else some ⟨g, l * n', none⟩) (h - l) (cap - l), _, ?_, .sub id g es.length cap n' l h _ h1 h2 g6 g7 (fun h5 => ?_), hk⟩
      ·simp only [execOp, ho, hq, h3, Instr.sliceAt, Sem.run_bind, run_underlying ht, Result.andThen_ok, Instr.slice, Option.map_none, hb', run_sizeOf' hs, Sem.run_pure]
       by_cases hcl : cap = l <;> simp [hcl, addr_add]
      ·by_cases hcl : cap = l
       ·have : l = 0 := by omega
        simp [hcl, this]
       ·simp [hcl]
    ·exact hv.elim
 ·rename_i id y n' lo' hi' e1
  rw [e1] at hx
  obtain ⟨rfl, hv⟩ := hv
  obtain ⟨l, h, h1, h2, hk, hb⟩ := cut_bounds (P := P) (w := w) hlo hhi hv
  generalize hq : a.eval x = q at hx
  cases hx with
  | subnil =>
    have h40 : h = 0 := by omega
    have hl0 : l = 0 := by omega
    subst h40; subst hl0
    have hb' := hb 0 (by omega)
    refine ⟨.slice none 0 0, _, ?_, .subnil id n', hk⟩
    simp only [execOp, ho, hq, Instr.sliceAt, Sem.run_bind, run_underlying ht, Result.andThen_ok, Instr.slice, Option.map_none, hb', run_sizeOf' hs, Sem.run_pure]
    simp
  | sub _ b len cap _ _ _ p g1 g2 g3 hm hp =>
    have hb' := hb (cap - lo') (by omega)
    have e2 : h - l = (lo' + h) - (lo' + l) := by omega
    have e3 : cap - lo' - l = cap - (lo' + l) := by omega
    refine ⟨.slice (if cap - lo' = l then p else p.map (·.add (l * n'))) (h - l) (cap - lo' - l), _, ?_, ?_, hk⟩
    ·simp only [execOp, ho, hq, Instr.sliceAt, Sem.run_bind, run_underlying ht, Result.andThen_ok, Instr.slice, Option.map_none, hb', run_sizeOf' hs, Sem.run_pure]
    ·rw [e2, e3]
     refine .sub id b len cap n' (lo' + l) (lo' + h) _ (by omega) (by omega) g3 hm (fun h5 => ?_)
     by_cases hcl : cap - lo' = l
     ·have hl0 : l = 0 := by omega
      have hlo0 : lo' = 0 := by omega
      have := hp (.inr hlo0)
      rw [this]
      subst hl0; subst hlo0
      simp [Addr.add_zero']
     ·have := hp (by omega)
      rw [if_neg hcl, this]
      simp [addr_add, Nat.add_mul]
 ·rename_i e1
  rw [e1] at hx
  have hq := hx.inv_v
  obtain ⟨l, h, h1, h2, hk, hb⟩ := cut_bounds (P := P) (w := w) hlo hhi hv
  have h40 : h = 0 := by omega
  have hl0 : l = 0 := by omega
  subst h40; subst hl0
  have hb' := hb 0 (by omega)
  refine ⟨.slice none 0 0, _, ?_, .v _ rfl (fun s hs => by cases hs), hk⟩
  simp only [execOp, ho, hq, Instr.sliceAt, Sem.run_bind, run_underlying ht, Result.andThen_ok, Instr.slice, Option.map_none, hb', run_sizeOf' hs, Sem.run_pure]
  simp
 ·exact hv.elim

theorem good_sslice {t : TypeId} {x : Operand} {lo hi : Option Operand} (ho : o.op = .slice t x lo hi none) (ht : P.underlying t = some .string)
 (hx : R tp I w (a.eval x) (ev σ x)) (hlo : ∀ y, lo = some y → R tp I w (a.eval y) (ev σ y)) (hhi : ∀ y, hi = some y → R tp I w (a.eval y) (ev σ y)) {H : HMap} (hv : readVC (.sslice x lo hi) σ H K) : Good P o a tp I w K := by
 simp only [readVC] at hv
 split at hv
 ·rename_i s e1
  rw [e1] at hx
  obtain ⟨hq, hsz⟩ := hx.inv_str
  have vint : ∀ (y : Operand) (p : IntKind × Int), R tp I w (a.eval y) (ev σ y) → asI (ev σ y) = some p → a.eval y = .int p.1 p.2 := fun y p hy hp => by
   rw [asI_eq hp] at hy; exact hy.inv_v
  have run : ∀ (l h : Nat), (Instr.sliceBounds false s.size s.size (lo.map a.eval) (hi.map a.eval) none).run P w = .ok (l, h, s.size) w → K (.v (.string (s.extract l h))) → Good P o a tp I w K := by
   intro l h hb hk
   refine ⟨.string (s.extract l h), _, ?_, .str _ ?_, hk⟩
   ·simp only [execOp, ho, hq, Instr.sliceAt, Sem.run_bind, run_underlying ht, Result.andThen_ok, Instr.slice, Option.map_none, Option.isSome_none, Bool.false_eq_true, if_false, hb, Sem.run_pure]
   ·have : (s.extract l h).size ≤ s.size := by simp [ByteArray.size_extract]; omega
    omega
  split at hv
  ·rename_i e2 e3
   have hl : lo = none := by simpa using e2
   have hh : hi = none := by simpa using e3
   subst hl; subst hh
   exact run 0 s.size (by simp [Instr.sliceBounds]) hv
  ·rename_i kk l e2 e3
   obtain ⟨y, rfl, hy⟩ := opt_map_some e2
   have hh : hi = none := by simpa using e3
   subst hh
   obtain ⟨h0, h1, hk⟩ := hv
   have := vint y _ (hlo y rfl) hy
   refine run l.toNat s.size ?_ hk
   simp [Instr.sliceBounds, this, Instr.sliceBound, asIntOf, h0, h1]
  ·rename_i kk h e2 e3
   obtain ⟨y, rfl, hy⟩ := opt_map_some e3
   have hl : lo = none := by simpa using e2
   subst hl
   obtain ⟨h0, h1, hk⟩ := hv
   have := vint y _ (hhi y rfl) hy
   refine run 0 h.toNat ?_ hk
   simp [Instr.sliceBounds, this, Instr.sliceBound, asIntOf, h0, h1]
  ·rename_i kl l kh h e2 e3
   obtain ⟨y, rfl, hy⟩ := opt_map_some e2
   obtain ⟨z, rfl, hz⟩ := opt_map_some e3
   obtain ⟨h0, h1, h2, hk⟩ := hv
   have e4 := vint y _ (hlo y rfl) hy
   have e5 := vint z _ (hhi z rfl) hz
   have h4 : (0 : Int) ≤ h := by omega
   have h5 : l ≤ ((h.toNat : Nat) : Int) := by omega
   refine run l.toNat h.toNat ?_ hk
   simp [Instr.sliceBounds, e4, e5, Instr.sliceBound, asIntOf, h0, h2, h4, h5]
   intro hbad; omega
  ·exact hv.elim
 ·exact hv.elim
end
end Go.Gv

namespace Go.Gv

theorem foldSet_size (off : Nat) : ∀ (l : List (Value × Nat)) (cells : Array Value), (l.foldl (fun cs p => cs.setIfInBounds (off + p.2) p.1) cells).size = cells.size
 | [], _ => rfl
 | p :: l, cells => by rw [List.foldl_cons, foldSet_size off l]; simp

theorem foldSet_get (off : Nat) : ∀ (l : List Value) (s : Nat) (cells : Array Value) (k : Nat), off + s + l.length ≤ cells.size →
 ((l.zipIdx s).foldl (fun cs p => cs.setIfInBounds (off + p.2) p.1) cells)[k]? = if off + s ≤ k ∧ k < off + s + l.length then l[k - (off + s)]? else cells[k]?
 | [], s, cells, k, h => by
   simp
   intro h1 h2; omega
 | v :: l, s, cells, k, h => by
   simp only [List.length_cons] at h
   rw [List.zipIdx_cons, List.foldl_cons, foldSet_get off l (s + 1) _ k (by simp; omega)]
   by_cases h1 : off + (s + 1) ≤ k ∧ k < off + (s + 1) + l.length
   ·rw [if_pos h1, if_pos (by simp; omega)]
    have : k - (off + s) = (k - (off + (s + 1))) + 1 := by omega
    rw [this, List.getElem?_cons_succ]
   ·rw [if_neg h1]
    simp only [Array.getElem?_setIfInBounds]
    by_cases h2 : off + s = k
    ·subst h2
     have : off + s < cells.size := by omega
     simp [this]
    ·rw [if_neg h2]
     rw [if_neg (by simp; omega)]

theorem fill_step {place : Nat → Option (Nat × Nat)} {cells : Array Value} {i off sz : Nat} {v : Value} {rest : List (Nat × Value)} (hp : place i = some (off, sz)) (hsz : v.cells.size = sz) (hfit : off + sz ≤ cells.size) :
 Instr.fill place cells ((i, v) :: rest) = Instr.fill place ((v.cells.toList.zipIdx 0).foldl (fun cs p => cs.setIfInBounds (off + p.2) p.1) cells) rest := by
 simp only [Instr.fill, hp]
 rw [if_neg (by simp; omega)]
 congr 1
 rw [← Array.foldl_toList, Array.toList_zipIdx]

section
variable {P : Program} {o : Oper} {a : Act} {tp I : Nat → Prop} {w : World} {σ : Sg} {K : D → Prop}

theorem CellsOk_setArr {Q : Value → D → Prop} {cells cells' : Array Value} {ds : List D} {new : List D} {nv : List Value} {off : Nat} (hl : cells.size = ds.length) (h : CellsOk Q cells.toList ds) (hn : nv.length = new.length) (hq : CellsOk Q nv new)
 (hfit : off + new.length ≤ ds.length) (hc : ∀ k : Nat, cells'[k]? = if off ≤ k ∧ k < off + nv.length then nv[k - off]? else cells[k]?) : CellsOk Q cells'.toList (setAt ds off new) := by
 intro k y c hy hc2
 simp only [Array.getElem?_toList] at hy
 rw [hc k] at hy
 simp only [Gv.setAt] at hc2
 split at hy
 ·rename_i hk
  rw [List.append_assoc, List.getElem?_append_right (by simp; omega)] at hc2
  have e : (ds.take off).length = off := by simp; omega
  rw [e, List.getElem?_append_left (by omega)] at hc2
  exact hq _ y c hy hc2
 ·rename_i hk
  refine h k y c (by simpa using hy) ?_
  by_cases h1 : k < off
  ·rw [List.append_assoc, List.getElem?_append_left (by simp; omega), List.getElem?_take, if_pos h1] at hc2
   exact hc2
  ·rw [List.getElem?_append_right (by simp; omega), List.getElem?_drop] at hc2
   have e : (ds.take off ++ new).length = off + new.length := by simp; omega
   rw [e] at hc2
   have e2 : off + new.length + (k - (off + new.length)) = k := by omega
   rw [e2] at hc2
   exact hc2

theorem setAt_get {l new : List D} {off : Nat} (h : off + new.length ≤ l.length) (k : Nat) : (setAt l off new)[k]? = if off ≤ k ∧ k < off + new.length then new[k - off]? else l[k]? := by
 have e1 : (l.take off).length = off := by simp; omega
 have e2 : (l.take off ++ new).length = off + new.length := by simp; omega
 simp only [setAt]
 by_cases h1 : k < off
 ·rw [List.append_assoc, List.getElem?_append_left (by omega), List.getElem?_take, if_pos h1, if_neg (by omega)]
 ·by_cases h2 : k < off + new.length
  ·rw [List.append_assoc, List.getElem?_append_right (by omega), e1, List.getElem?_append_left (by omega), if_pos (by omega)]
  ·rw [List.getElem?_append_right (by omega), List.getElem?_drop, e2, if_neg (by omega)]
   congr 1; omega

theorem setAt_length {ds new : List D} {off : Nat} (h : off + new.length ≤ ds.length) : (setAt ds off new).length = ds.length := by
 simp [setAt]; omega

theorem fill_rel {fs : Array Field} {places : List (Nat × Nat)} (hpl : ∀ (i : Nat) (f : Field) (sz : Nat), fs[i]? = some f → szOf P f.type = some sz → places[i]? = some (f.offset, sz)) (N : Nat) :
 ∀ (parts : List (Nat × Operand)) (ps : List (Nat × Nat × Operand)), (∀ p ∈ parts, R tp I w (a.eval p.2) (ev σ p.2)) →
  parts.mapM (fun p => do
   let f ← fs[p.1]?
   let sz ← szOf P f.type
   if f.offset + sz ≤ N then some (f.offset, sz, p.2) else none) = some ps →
  ∀ (cs : Array Value) (ds : List D) (K' : List D → Prop), cs.size = N → ds.length = N → CellsOk (R tp I w) cs.toList ds → buildVC σ ps ds K' →
   ∃ cs' ds', Instr.fill (fun i => places[i]?) cs (parts.map fun p => (p.1, a.eval p.2)) = some cs' ∧ cs'.size = N ∧ ds'.length = N ∧ CellsOk (R tp I w) cs'.toList ds' ∧ K' ds'
 | [], ps, _, hm, cs, ds, K', h1, h2, h3, hv => by
   simp at hm
   subst hm
   exact ⟨cs, ds, rfl, h1, h2, h3, hv⟩
 | p :: parts, ps, hr, hm, cs, ds, K', h1, h2, h3, hv => by
   rw [List.mapM_cons] at hm
   simp only [Option.bind_eq_bind, Option.bind_eq_some_iff, Option.pure_def] at hm
   obtain ⟨q, ⟨f, hf, sz, hsz, hq⟩, rest, hrest, hps⟩ := hm
   split at hq
   ·rename_i hfit
    cases hq; cases hps
    obtain ⟨k1, k2, hv⟩ := hv
    have hR := hr p (by simp)
    obtain ⟨c1, c2⟩ := hR.cells k1
    have hsize : (a.eval p.2).cells.size = sz := by rw [← k2, ← c1]; simp
    have hst := fill_step (place := fun i => places[i]?) (cells := cs) (i := p.1) (v := a.eval p.2) (rest := parts.map fun p => (p.1, a.eval p.2)) (hpl p.1 f sz hf hsz) hsize (by omega)
    have hlen : (a.eval p.2).cells.toList.length = sz := by simpa using hsize
    have hget := foldSet_get f.offset (a.eval p.2).cells.toList 0 cs
    have hcs' : CellsOk (R tp I w) (((a.eval p.2).cells.toList.zipIdx 0).foldl (fun cs p => cs.setIfInBounds (f.offset + p.2) p.1) cs).toList (setAt ds f.offset (ev σ p.2).cells) :=
     CellsOk_setArr (cells := cs) (nv := (a.eval p.2).cells.toList) (by omega) h3 (by omega) c2 (by omega) (fun k => by
      have := hget k (by omega)
      simpa using this)
    obtain ⟨cs', ds', r1, r2, r3, r4, r5⟩ := fill_rel hpl N parts rest (fun q hq => hr q (by simp [hq])) hrest _ _ K' (by rw [foldSet_size]; exact h1) (by rw [setAt_length (by omega)]; exact h2) hcs' hv
    exact ⟨cs', ds', by rw [List.map_cons, hst]; exact r1, r2, r3, r4, r5⟩
   ·cases hq

theorem fill_relA (sz : Nat) (N : Nat) :
 ∀ (parts : List (Nat × Operand)) (ps : List (Nat × Nat × Operand)), (∀ p ∈ parts, R tp I w (a.eval p.2) (ev σ p.2)) →
  parts.mapM (fun p => if p.1 * sz + sz ≤ N then some (p.1 * sz, sz, p.2) else none) = some ps →
  ∀ (cs : Array Value) (ds : List D) (K' : List D → Prop), cs.size = N → ds.length = N → CellsOk (R tp I w) cs.toList ds → buildVC σ ps ds K' →
   ∃ cs' ds', Instr.fill (fun i => some (i * sz, sz)) cs (parts.map fun p => (p.1, a.eval p.2)) = some cs' ∧ cs'.size = N ∧ ds'.length = N ∧ CellsOk (R tp I w) cs'.toList ds' ∧ K' ds'
 | [], ps, _, hm, cs, ds, K', h1, h2, h3, hv => by
   simp at hm
   subst hm
   exact ⟨cs, ds, rfl, h1, h2, h3, hv⟩
 | p :: parts, ps, hr, hm, cs, ds, K', h1, h2, h3, hv => by
   rw [List.mapM_cons] at hm
   simp only [Option.bind_eq_bind, Option.bind_eq_some_iff, Option.pure_def] at hm
   obtain ⟨q, hq, rest, hrest, hps⟩ := hm
   split at hq
   ·rename_i hfit
    cases hq; cases hps
    obtain ⟨k1, k2, hv⟩ := hv
    have hR := hr p (by simp)
    obtain ⟨c1, c2⟩ := hR.cells k1
    have hsize : (a.eval p.2).cells.size = sz := by rw [← k2, ← c1]; simp
    have hst := fill_step (place := fun i => some (i * sz, sz)) (cells := cs) (i := p.1) (v := a.eval p.2) (rest := parts.map fun p => (p.1, a.eval p.2)) rfl hsize (by omega)
    have hlen : (a.eval p.2).cells.toList.length = sz := by simpa using hsize
    have hget := foldSet_get (p.1 * sz) (a.eval p.2).cells.toList 0 cs
    have hcs' : CellsOk (R tp I w) (((a.eval p.2).cells.toList.zipIdx 0).foldl (fun cs q => cs.setIfInBounds ((p.1 * sz) + q.2) q.1) cs).toList (setAt ds (p.1 * sz) (ev σ p.2).cells) :=
     CellsOk_setArr (cells := cs) (nv := (a.eval p.2).cells.toList) (by omega) h3 (by omega) c2 (by omega) (fun k => by
      have := hget k (by omega)
      simpa using this)
    obtain ⟨cs', ds', r1, r2, r3, r4, r5⟩ := fill_relA sz N parts rest (fun q hq => hr q (by simp [hq])) hrest _ _ K' (by rw [foldSet_size]; exact h1) (by rw [setAt_length (by omega)]; exact h2) hcs' hv
    exact ⟨cs', ds', by rw [List.map_cons, hst]; exact r1, r2, r3, r4, r5⟩
   ·cases hq

theorem zero_cellsOk {z : List Value} (h : z.all (fun x => match x with | .string s => decide (s.size ≤ 1000000) | .bool _ | .int _ _ | .pointer _ | .slice _ _ _ | .nilFunc => true | _ => false) = true) (h1 : z.all (·.oneCell') = true) : CellsOk (R tp I w) z (z.map cst) := by
 intro k y c hy hc
 rw [List.getElem?_map, hy] at hc
 cases hc
 have hm := List.mem_of_getElem? hy
 refine ⟨List.all_eq_true.1 h1 y hm, cst_R y (fun s hs => ?_)⟩
 have := List.all_eq_true.1 h y hm
 subst hs
 have : s.size ≤ 1000000 := by simpa using this
 simp only [maxLen]; omega

theorem zeroOf_spec {t : TypeId} {z : List Value} (h : zeroOf P t = some z) : ∃ i zv, P.info? t = some i ∧ i.zero = some zv ∧ zv.cells.toList = z ∧ i.size = z.length ∧ z.all (·.oneCell') = true ∧
 z.all (fun x => match x with | .string s => decide (s.size ≤ 1000000) | .bool _ | .int _ _ | .pointer _ | .slice _ _ _ | .nilFunc => true | _ => false) = true := by
 unfold zeroOf at h
 simp only [Option.bind_eq_bind, Option.bind_eq_some_iff] at h
 obtain ⟨i, hi, zv, hz, h⟩ := h
 split at h
 ·rename_i hc
  cases h
  simp only [Bool.and_eq_true, beq_iff_eq] at hc
  exact ⟨i, zv, hi, hz, rfl, by rw [Array.length_toList]; exact hc.1.2.symm, hc.1.1, hc.2⟩
 ·cases h

theorem good_build {t : TypeId} {parts : Array (Nat × Operand)} {fs : Array Field} {z : List Value} {ps : List (Nat × Nat × Operand)} (ho : o.op = .build t parts) (hz : zeroOf P t = some z) (ht : P.underlying t = some (.struct fs))
 (hps : parts.toList.mapM (fun p => do
   let f ← fs[p.1]?
   let sz ← szOf P f.type
   if f.offset + sz ≤ z.length then some (f.offset, sz, p.2) else none) = some ps)
 (hall : fs.toList.all (fun f => (szOf P f.type).isSome) = true) (hr : ∀ p ∈ parts.toList, R tp I w (a.eval p.2) (ev σ p.2)) {H : HMap} (hv : readVC (.build z ps) σ H K) : Good P o a tp I w K := by
 simp only [readVC] at hv
 obtain ⟨i, zv, hi, hzv, hzc, hsz, hz1, hz2⟩ := zeroOf_spec hz
 -- the places
 have places : ∀ (l : List Field), l.all (fun f => (szOf P f.type).isSome) = true → ∃ pl, l.mapM (fun f => (P.info? f.type).map fun i => (f.offset, i.size)) = some pl ∧ ∀ (i : Nat) (f : Field) (sz : Nat), l[i]? = some f → szOf P f.type = some sz → pl[i]? = some (f.offset, sz) := by
  intro l
  induction l with
  | nil => intro _; exact ⟨[], by simp, fun i f sz h => by simp at h⟩
  | cons f l ih =>
    intro h
    simp only [List.all_cons, Bool.and_eq_true] at h
    obtain ⟨pl, e1, e2⟩ := ih h.2
    obtain ⟨sz, hs⟩ := Option.isSome_iff_exists.1 h.1
    have hs' := hs
    unfold szOf at hs'
    obtain ⟨ii, hii, hsz'⟩ := opt_map_some hs'
    refine ⟨(f.offset, sz) :: pl, by simp [List.mapM_cons, hii, e1, hsz'], fun j g sg hj hg => ?_⟩
    cases j with
    | zero => simp at hj; subst hj; rw [hs] at hg; cases hg; rfl
    | succ j => simp at hj; simpa using e2 j g sg hj hg
 obtain ⟨pl, hpl1, hpl2⟩ := places fs.toList hall
 obtain ⟨cs', ds', r1, r2, r3, r4, r5⟩ := fill_rel (P := P) (fs := fs) (places := pl) (fun i f sz h1 h2 => hpl2 i f sz (by simpa using h1) h2) z.length parts.toList ps hr hps zv.cells (z.map cst) _ (by rw [← Array.length_toList, hzc]) (by simp) (by rw [hzc]; exact zero_cellsOk hz2 hz1) hv
 have hb : P.built t (parts.map fun (i, x) => (i, a.eval x)).toList = some cs' := by
  unfold Program.built
  simp only [hi, ht, hzv, hpl1]
  simpa using r1
 refine ⟨.agg cs', .agg ds', by simp [execOp, ho, run_build w t _ cs' hb], ?_, r5⟩
 have := R.agg (tp := tp) (I := I) (w := w) cs'.toList ds' (by rw [Array.length_toList]; omega) (fun x hx => ?_) (fun k x c h1 h2 => (r4 k x c h1 h2).2)
 ·simpa using this
 ·obtain ⟨k, hk⟩ := List.mem_iff_getElem?.1 hx
  have hlt : k < ds'.length := by
   have := (List.getElem?_eq_some_iff.1 hk).1
   rw [Array.length_toList] at this
   omega
  exact (r4 k x _ hk (List.getElem?_eq_getElem hlt)).1

/-- THE VALUE IS MADE IN NEW MEMORY: nothing that was there changes. -/
def GoodN (P : Program) (o : Oper) (a : Act) (E : Env) (tp : Nat → Prop) (H : HMap) (w : World) (K : D → Prop) : Prop :=
 ∃ x d w', (execOp a.eval o).run P w = .ok (.value x) w' ∧ GrB w w' none ∧ (StW E tp H w' → (∀ y e, R tp (Imm E.O tp H w) w y e → R tp (Imm E.O tp H w') w' y e) → R tp (Imm E.O tp H w') w' x d) ∧ K d

theorem good_buildA {t el : TypeId} {parts : Array (Nat × Operand)} {len sz : Nat} {z : List Value} {ps : List (Nat × Nat × Operand)} (ho : o.op = .build t parts) (hz : zeroOf P t = some z) (ht : P.underlying t = some (.array len el)) (hs : szOf P el = some sz)
 (hps : parts.toList.mapM (fun p => if p.1 * sz + sz ≤ z.length then some (p.1 * sz, sz, p.2) else none) = some ps)
 (hr : ∀ p ∈ parts.toList, R tp I w (a.eval p.2) (ev σ p.2)) {H : HMap} (hv : readVC (.build z ps) σ H K) : Good P o a tp I w K := by
 simp only [readVC] at hv
 obtain ⟨i, zv, hi, hzv, hzc, hsz, hz1, hz2⟩ := zeroOf_spec hz
 have hs' := hs
 unfold szOf at hs'
 obtain ⟨ie, hie, hse⟩ := opt_map_some hs'
 subst hse
 obtain ⟨cs', ds', r1, r2, r3, r4, r5⟩ := fill_relA ie.size z.length parts.toList ps hr hps zv.cells (z.map cst) _ (by rw [← Array.length_toList, hzc]) (by simp) (by rw [hzc]; exact zero_cellsOk hz2 hz1) hv
 have hb : P.built t (parts.map fun (i, x) => (i, a.eval x)).toList = some cs' := by
  unfold Program.built
  simp only [hi, ht, hzv, hie]
  simpa using r1
 refine ⟨.agg cs', .agg ds', by simp [execOp, ho, run_build w t _ cs' hb], ?_, r5⟩
 have := R.agg (tp := tp) (I := I) (w := w) cs'.toList ds' (by rw [Array.length_toList]; omega) (fun x hx => ?_) (fun k x c h1 h2 => (r4 k x c h1 h2).2)
 ·simpa using this
 ·obtain ⟨k, hk⟩ := List.mem_iff_getElem?.1 hx
  have hlt : k < ds'.length := by
   have := (List.getElem?_eq_some_iff.1 hk).1
   rw [Array.length_toList] at this
   omega
  exact (r4 k x _ hk (List.getElem?_eq_getElem hlt)).1

theorem Good.toN {E : Env} {H : HMap} (h : Good P o a tp (Imm E.O tp H w) w K) : GoodN P o a E tp H w K := by
 obtain ⟨x, d, h1, h2, h3⟩ := h
 exact ⟨x, d, w, h1, grownBy_refl _ _, fun _ m => m _ _ h2, h3⟩

theorem imm_new {E : Env} {H : HMap} {ob : Obj} (hst : StW E tp H w) : Imm E.O tp H (w.alloc ob) w.heap.size := by
 have hw : E.w0.heap.size ≤ w.heap.size := hst.step.size
 refine ⟨by simp, fun h => by have := hst.hO _ h; omega, fun h => by have := hst.tpl _ h; omega, fun ⟨i, r, h1, h2⟩ => by have := (hst.sat.ok i r h1).lt h2; omega⟩

theorem good_boxI {el : TypeId} {x : Operand} {E : Env} {H : HMap} (hst : StW E tp H w) (ho : o.op = .box el x) (hx : R tp (Imm E.O tp H w) w (a.eval x) (ev σ x)) (hv : readVC (.box el true x) σ H K) : GoodN P o a E tp H w K := by
 simp only [readVC] at hv
 obtain ⟨hk, hv⟩ := hv
 refine ⟨.pointer (some ⟨w.heap.size, 0, none⟩), _, w.alloc (.cells (a.eval x).cells el), by simp [execOp, ho, Instr.box, newVar, newRow], GrB.alloc _ _ _, fun hst' m => ?_, hv⟩
 obtain ⟨c1, c2⟩ := (m _ _ hx).cells hk
 have hg : (w.alloc (.cells (a.eval x).cells el)).heap[w.heap.size]? = some (.cells (a.eval x).cells el (0, 0)) := heap_alloc_new _ _
 obtain ⟨f, k1, k2, k3⟩ := box_cells hg (by rw [← c1]; simp) c2
 have := R.cptr (tp := tp) w.heap.size 0 (ev σ x).cells 0 f (imm_new hst) k1 k2 k3
 simpa using this

theorem fill_seq {n : Nat} : ∀ (vs : List Value) (s : Nat) (cells : Array Value), (∀ v ∈ vs, v.cells.size = n) → (s + vs.length) * n ≤ cells.size →
 ∃ cells', Instr.fill (fun i => some (i * n, n)) cells ((List.range' s vs.length).zip vs) = some cells' ∧ cells'.size = cells.size ∧ (∀ k, k < s * n → cells'[k]? = cells[k]?) ∧
  ∀ i j v, vs[i]? = some v → j < n → cells'[(s + i) * n + j]? = v.cells[j]?
 | [], s, cells, _, _ => ⟨cells, rfl, rfl, fun _ _ => rfl, fun i j v h => by simp at h⟩
 | v :: vs, s, cells, hn, hfit => by
   have hv := hn v (by simp)
   simp only [List.length_cons] at hfit
   have hfit' : s * n + n ≤ cells.size := by
    have : (s + (vs.length + 1)) * n = s * n + n + vs.length * n := by rw [Nat.add_mul, Nat.succ_mul]; omega
    omega
   have hst := fill_step (place := fun i => some (i * n, n)) (cells := cells) (i := s) (v := v) (rest := (List.range' (s + 1) vs.length).zip vs) rfl hv hfit'
   have hget := foldSet_get (s * n) v.cells.toList 0 cells
   obtain ⟨c', r1, r2, r3, r4⟩ := fill_seq vs (s + 1) ((v.cells.toList.zipIdx 0).foldl (fun cs p => cs.setIfInBounds (s * n + p.2) p.1) cells) (fun u hu => hn u (by simp [hu])) (by
    rw [foldSet_size]
    have : (s + 1 + vs.length) * n = (s + (vs.length + 1)) * n := by congr 1; omega
    omega)
   refine ⟨c', ?_, by rw [r2, foldSet_size], fun k hk => ?_, fun i j u hu hj => ?_⟩
   ·simp only [List.length_cons, List.range'_succ, List.zip_cons_cons]
    rw [hst]; exact r1
   ·rw [r3 k (by rw [Nat.succ_mul]; omega), hget k (by simp; omega)]
    rw [if_neg (by omega)]
   ·cases i with
    | zero =>
      simp at hu; subst hu
      rw [Nat.add_zero, r3 _ (by rw [Nat.succ_mul]; omega), hget _ (by simp; omega), if_pos (by simp; omega)]
      simp
    | succ i =>
      simp at hu
      have := r4 i j u hu hj
      have e : s + (i + 1) = s + 1 + i := by omega
      rw [e]; exact this

theorem partsVC_spec {n : Nat} : ∀ {l : List D}, partsVC n l → ∀ d ∈ l, d.kn = true ∧ d.cells.length = n
 | [], _, d, hd => by simp at hd
 | e :: l, h, d, hd => by
   rcases List.mem_cons.1 hd with rfl | hd
   ·exact ⟨h.1, h.2.1⟩
   ·exact partsVC_spec h.2.2 d hd

theorem flat_split {n : Nat} (hn : 0 < n) {es : List D} (h : ∀ d ∈ es, d.cells.length = n) {k : Nat} {c : D} (hk : (flat es)[k]? = some c) : ∃ d, es[k / n]? = some d ∧ d.cells[k % n]? = some c ∧ k % n < n ∧ k = k / n * n + k % n := by
 have hmod : k % n < n := Nat.mod_lt _ hn
 have he : k = k / n * n + k % n := by rw [Nat.mul_comm]; exact (Nat.div_add_mod k n).symm
 rw [he, flat_get h hmod] at hk
 cases hd : es[k / n]? with
 | none => simp [hd] at hk
 | some d => rw [hd] at hk; exact ⟨d, rfl, hk, hmod, he⟩

theorem good_bslice {t el : TypeId} {n len : Nat} {parts : Array (Nat × Operand)} {ps : List Operand} {E : Env} {H : HMap} {z0 : List Value} (hst : StW E tp H w) (ho : o.op = .buildSlice t len parts) (ht : P.underlying t = some (.slice el)) (hs : szOf P el = some n)
 (hz : zeroOf P el = some z0) (hps : allIdx parts len = some ps) (hlim : len * n ≤ 2 ^ 24) (hn : 0 < n) (hlen0 : len ≠ 0) (hr : ∀ x ∈ ps, R tp (Imm E.O tp H w) w (a.eval x) (ev σ x)) (hv : readVC (.bslice el n ps) σ H K) : GoodN P o a E tp H w K := by
 simp only [readVC] at hv
 obtain ⟨hpv, hv⟩ := hv
 unfold allIdx at hps
 split at hps
 ·rename_i hidx
  cases hps
  have hlen : parts.toList.length = len := by
   have := congrArg List.length hidx
   simpa using this
  obtain ⟨i, zv, hi, hzv, hzc, hsz, hz1, hz2⟩ := zeroOf_spec hz
  have hall := partsVC_spec hpv
  have hvs : ∀ v ∈ (parts.toList.map (·.2)).map a.eval, v.cells.size = n := by
   intro v hv'
   obtain ⟨x, hx, rfl⟩ := List.mem_map.1 hv'
   have h1 := hall (ev σ x) (List.mem_map.2 ⟨x, hx, rfl⟩)
   have := ((hr x hx).cells h1.1).1
   rw [← h1.2, ← this]; simp
  have hz0 : z0.length = n := by
   unfold szOf at hs
   rw [hi] at hs
   simp at hs
   omega
  have hzv0 : ¬ (len * n = 0) := by
   intro h
   rcases Nat.mul_eq_zero.1 h with h | h <;> omega
  obtain ⟨cells', r1, r2, r3, r4⟩ := fill_seq (n := n) ((parts.toList.map (·.2)).map a.eval) 0 ((Array.range (len * n)).map (zv.cells[· % zv.cells.size]!)) hvs (by simp [hlen])
  have hparts : (List.range' 0 ((parts.toList.map (·.2)).map a.eval).length).zip ((parts.toList.map (·.2)).map a.eval) = parts.toList.map fun p => (p.1, a.eval p.2) := by
   have e1 : List.range' 0 ((parts.toList.map (·.2)).map a.eval).length = parts.toList.map (·.1) := by
    rw [hidx, List.range_eq_range']
    simp [hlen]
   rw [e1, List.map_map, List.zip_map', ]
   rfl
  rw [hparts] at r1
  have hrun : (Instr.buildSlice t len (parts.map fun (i, x) => (i, a.eval x))).run P w = .ok (.slice (some ⟨w.heap.size, 0, none⟩) len len) (w.alloc (.cells cells' el)) := by
   have hl : ¬ (16777216 < len * n) := by omega
   have r1' : Instr.fill (fun i => some (i * n, n)) ((Array.range (len * n)).map (zv.cells[· % zv.cells.size]!)) (parts.toList.map fun p => (p.1, a.eval p.2)) = some cells' := r1
   simp [Instr.buildSlice, run_underlying ht, run_sizeOf' hs, hl, hzv0, zeroValue, typeInfo, hi, hzv, r1', newRow]
  refine ⟨.slice (some ⟨w.heap.size, 0, none⟩) len len, _, w.alloc (.cells cells' el), by simp [execOp, ho, hrun], GrB.alloc _ _ _, fun hst' m => ?_, hv⟩
  have hnn : ∀ d ∈ (parts.toList.map (·.2)).map (ev σ), d.kn = true ∧ d.cells.length = n := hall
  have hlen2 : ((parts.toList.map (·.2)).map (ev σ)).length = len := by simp [hlen]
  have hcell : ∀ (k : Nat) (c : D), (flat ((parts.toList.map (·.2)).map (ev σ)))[k]? = some c → ∃ y, cells'[k]? = some y ∧ y.oneCell' = true ∧ R tp (Imm E.O tp H (w.alloc (.cells cells' el))) (w.alloc (.cells cells' el)) y c := by
   intro k c hk
   obtain ⟨d, hd, hdc, hmod, he⟩ := flat_split hn (fun d hd => (hnn d hd).2) hk
   rw [List.getElem?_map] at hd
   obtain ⟨x, hx, rfl⟩ := opt_map_some hd
   have hxm : x ∈ parts.toList.map (·.2) := List.mem_of_getElem? hx
   have hRx := m _ _ (hr x hxm)
   have hkx := hnn (ev σ x) (List.mem_map.2 ⟨x, hxm, rfl⟩)
   obtain ⟨c1, c2⟩ := hRx.cells hkx.1
   have hvx : ((parts.toList.map (·.2)).map a.eval)[k / n]? = some (a.eval x) := by rw [List.getElem?_map, hx]; rfl
   have := r4 (k / n) (k % n) _ hvx hmod
   rw [Nat.zero_add, ← he] at this
   have hlt : k % n < (a.eval x).cells.toList.length := by rw [c1, hkx.2]; exact hmod
   have hlt' : k % n < (a.eval x).cells.size := by simpa using hlt
   refine ⟨(a.eval x).cells[k % n], by rw [this]; simp [hlt'], ?_⟩
   exact c2 (k % n) _ c (by simp [hlt']) hdc
  have hgn : (w.alloc (.cells cells' el)).heap[w.heap.size]? = some (.cells cells' el (0, 0)) := heap_alloc_new _ _
  suffices hsuf : R tp (Imm E.O tp H (w.alloc (.cells cells' el))) (w.alloc (.cells cells' el)) (.slice (some ⟨w.heap.size, 0, none⟩) ((parts.toList.map (·.2)).map (ev σ)).length ((parts.toList.map (·.2)).map (ev σ)).length) (.list n ((parts.toList.map (·.2)).map (ev σ))) by
   rw [hlen2] at hsuf; exact hsuf
  refine .list w.heap.size 0 _ n _ (fun k => cells'.getD k undef) (imm_new hst) (Nat.le_refl _) (by rw [hlen2]; have : len ≤ len * n := Nat.le_mul_of_pos_right _ hn; simp only [maxLen]; omega) hnn (fun k c hk => ?_) (fun k c hk => ?_) (fun k c hk => ?_)
  all_goals
   obtain ⟨y, h1, h2, h3⟩ := hcell k c hk
   have hgd : cells'.getD k undef = y := by
    rw [Array.getD_eq_getD_getElem?, h1]; rfl
   try dsimp only
   rw [hgd]
  ·rw [Nat.zero_add, cell_of_row _ _ k cells' el (0, 0) hgn]; exact h1
  ·exact h2
  ·exact h3
 ·cases hps
end
end Go.Gv

namespace Go.Gv

theorem list_setAt_get {l nv : List Value} {off : Nat} (h : off + nv.length ≤ l.length) (k : Nat) : (l.take off ++ nv ++ l.drop (off + nv.length))[k]? = if off ≤ k ∧ k < off + nv.length then nv[k - off]? else l[k]? := by
 have e1 : (l.take off).length = off := by simp; omega
 have e2 : (l.take off ++ nv).length = off + nv.length := by simp; omega
 by_cases h1 : k < off
 ·rw [List.append_assoc, List.getElem?_append_left (by omega), List.getElem?_take, if_pos h1, if_neg (by omega)]
 ·by_cases h2 : k < off + nv.length
  ·rw [List.append_assoc, List.getElem?_append_right (by omega), e1, List.getElem?_append_left (by omega), if_pos (by omega)]
  ·rw [List.getElem?_append_right (by omega), List.getElem?_drop, e2, if_neg (by omega)]
   congr 1; omega

theorem CellsOk_setList {Q : Value → D → Prop} {xs : List Value} {ds new : List D} {nv : List Value} {off : Nat} (hl : xs.length = ds.length) (h : CellsOk Q xs ds) (hn : nv.length = new.length) (hq : CellsOk Q nv new)
 (hfit : off + new.length ≤ ds.length) : CellsOk Q (xs.take off ++ nv ++ xs.drop (off + nv.length)) (setAt ds off new) := by
 intro k y c hy hc
 rw [setAt_get hfit] at hc
 rw [list_setAt_get (by omega), hn] at hy
 split at hc
 ·rename_i hk
  rw [if_pos hk] at hy
  exact hq _ y c hy hc
 ·rename_i hk
  rw [if_neg hk] at hy
  exact h k y c hy hc

theorem grownBy_setRow (w : World) (g : Nat) (cs : Array Value) : GrB w (w.setRow g cs) (some g) :=
 ⟨⟨rfl, rfl, rfl, by simp, fun k _ hk => setRow_other w g k cs (fun e => hk (by rw [e]))⟩, Nat.le_refl _⟩

section
variable {P : Program} {o : Oper} {a : Act} {tp I : Nat → Prop} {w : World} {σ : Sg} {K : D → Prop}

theorem flat_set {n : Nat} (hn : 0 < n) {es : List D} (h : ∀ d ∈ es, d.cells.length = n) {i off : Nat} {d e : D} {new : List D} (hi : es[i]? = some d) (he : e.cells = setAt d.cells off new) (hfit : off + new.length ≤ n) :
 flat (es.set i e) = setAt (flat es) (i * n + off) new := by
 have hil : i < es.length := (List.getElem?_eq_some_iff.1 hi).1
 have hd := h d (List.mem_of_getElem? hi)
 have hen : e.cells.length = n := by rw [he, setAt_length (by omega)]; exact hd
 have h' : ∀ x ∈ es.set i e, x.cells.length = n := fun x hx => by
  rcases List.mem_or_eq_of_mem_set hx with hx | rfl
  ·exact h x hx
  ·exact hen
 have hfl := flat_length h
 have hfl' := flat_length h'
 have hle : (i + 1) * n ≤ es.length * n := Nat.mul_le_mul_right n hil
 rw [Nat.succ_mul] at hle
 apply List.ext_getElem?
 intro k
 have hmod : k % n < n := Nat.mod_lt _ hn
 have hk : k = k / n * n + k % n := by rw [Nat.mul_comm]; exact (Nat.div_add_mod k n).symm
 have hfitF : i * n + off + new.length ≤ (flat es).length := by omega
 rw [hk, flat_get h' hmod, List.getElem?_set, setAt_get hfitF]
 generalize hq : k / n = q
 generalize hr : k % n = r
 rw [hr] at hmod
 by_cases hqi : i = q
 ·subst hqi
  simp only [if_true, hil, Option.bind_some, he]
  rw [setAt_get (by omega), flat_get h hmod, hi]
  by_cases h2 : off ≤ r ∧ r < off + new.length
  ·rw [if_pos h2, if_pos (by omega)]
   congr 1; omega
  ·rw [if_neg h2, if_neg (by omega)]
   rfl
 ·rw [if_neg hqi, flat_get h hmod]
  rcases Nat.lt_or_gt_of_ne hqi with hlt | hgt
  ·have : i * n + n ≤ q * n := by rw [← Nat.succ_mul]; exact Nat.mul_le_mul_right n hlt
   rw [if_neg (by omega)]
  ·have : q * n + n ≤ i * n := by rw [← Nat.succ_mul]; exact Nat.mul_le_mul_right n hgt
   rw [if_neg (by omega)]

theorem storeVar_run {t : TypeId} {sz : Nat} (hs : szOf P t = some sz) {v : Value} (hv : v.cells.size = sz) {b off el : Nat} {cur : Array Value} (hg : w.heap[b]? = some (.cells cur el (0, 0))) (hfit : off + sz ≤ cur.size) (h1 : ∀ x ∈ v.cells.toList, x.oneCell' = true) :
 (storeVar t ⟨b, off, none⟩ v).run P w = .ok () (w.setRow b (cur.toList.take off ++ v.cells.toList ++ cur.toList.drop (off + v.cells.toList.length)).toArray) := by
 have := run_storeCells_at P b off el v.cells.toList 0 cur w hg (by simp; omega) h1
 simp only [Nat.add_zero] at this
 simp [storeVar, run_sizeOf' hs, hv, this]

theorem app_run (t ty e : TypeId) (i : TypeInfo) (z : Value) (ht : P.underlying t = some (.slice e)) (hi : P.info? e = some i) (hz : i.zero = some z) (hzs : z.cells.size = i.size)
 (v : Value) (n : Nat) (xs : List Value) (hown : w.ownsRow 0 e i.size v n xs)
 (ao : Option Addr) (m c : Nat) (news : List Value) (hl : news.length = m * i.size) (hao : ao = none → m = 0) (hnews : ∀ a, ao = some a → ∀ j u, news[j]? = some u → w.cell? (a.add j) = some u) (h1 : ∀ u ∈ news, u.oneCell' = true)
 (h63 : n + m ≤ 140737488355328) (hbytes : (n + m) * i.bytes ≤ 140737488355328) :
 ∃ v' w', (Builtin.append_ #[t, t] ty #[v, .slice ao m c]).run P w = .ok v' w' ∧ w'.ownsRow 0 e i.size v' (n + m) (xs ++ news) ∧ GrB w w' v.ownBlock ∧ (∀ b, v'.ownBlock = some b → w.heap.size ≤ b ∨ v.ownBlock = some b) := by
 have hlen : (xs ++ news).length = (n + m) * i.size := by rw [List.length_append, hown.1, hl, Nat.add_mul]
 by_cases hm : m = 0
 ·subst hm
  have hn : news = [] := List.eq_nil_of_length_eq_zero (by simpa using hl)
  subst hn
  have hown' := hown
  rcases hown.2 with ⟨rfl, rfl⟩ | ⟨g, cap, cur, rfl, hbg, hg, hnc, hcm, hcs, htake⟩
  ·refine ⟨.slice none 0 0, w, ?_, by simpa using hown', grownBy_refl _ _, fun b hb => .inr hb⟩
   cases ao <;> simp [Builtin.append_, run_underlying ht, sizeOf, typeInfo, hi, Builtin.lenOf, Builtin.firstCells, loadCells, loadCellsFrom]
  ·refine ⟨.slice (some ⟨g, 0, none⟩) n cap, w, ?_, by simpa using hown', grownBy_refl _ _, fun b hb => .inr hb⟩
   cases ao <;> simp [Builtin.append_, run_underlying ht, sizeOf, typeInfo, hi, Builtin.lenOf, Builtin.firstCells, loadCells, loadCellsFrom, hnc, storeCells]
 ·obtain ⟨ad, rfl⟩ : ∃ ad, ao = some ad := by
   cases ao with
   | none => exact absurd (hao rfl) hm
   | some ad => exact ⟨ad, rfl⟩
  have hnews := hnews ad rfl
  have hfresh : ∀ (old : Nat), old < n + m → ∀ (row : Option Nat),
   (w.drew.alloc (.cells (xs.toArray ++ news.toArray ++ Builtin.zeroCells z.cells (grownCap w (n + m) old e - (n + m))) e)).ownsRow 0 e i.size
     (.slice (some ⟨w.heap.size, 0, none⟩) (n + m) (grownCap w (n + m) old e)) (n + m) (xs ++ news) ∧
   GrB w (w.drew.alloc (.cells (xs.toArray ++ news.toArray ++ Builtin.zeroCells z.cells (grownCap w (n + m) old e - (n + m))) e)) row := by
   intro old _ row
   have hge := grownCap_ge w (n + m) old e
   have hcm : grownCap w (n + m) old e ≤ maxLen := grownCap_le_maxLen w (n + m) old e (by simp only [maxLen]; omega)
   refine ⟨⟨hlen, .inr ⟨w.heap.size, _, _, rfl, Nat.zero_le _, heap_alloc_new w.drew _, hge, hcm, ?_, ?_⟩⟩, ⟨⟨rfl, rfl, rfl, by simp, fun k hk _ => RowKit.Below.heap_alloc w.drew _ k hk⟩, Nat.le_succ _⟩⟩
   ·simp only [Array.size_append, List.size_toArray, size_zeroCells, hzs, hown.1, hl, ← Nat.add_mul]
    congr 1; omega
   ·simp only [Array.toList_append, List.append_assoc]
    rw [← List.append_assoc, ← hlen]
    exact List.take_left
  rcases hown.2 with ⟨rfl, rfl⟩ | ⟨g, cap, cur, rfl, hbg, hg, hnc, hcm, hcs, htake⟩
  ·have hx : xs = [] := List.eq_nil_of_length_eq_zero (by simpa using hown.1)
   subst hx
   have hr := run_append_nil (P := P) w t ty e i z ht hi hz ad m c news hl hnews (by omega) (by omega) (by have hb := hbytes; simp only [Nat.zero_add] at hb; omega)
   have hgr := hfresh 0 (by omega) (Value.ownBlock (.slice none 0 0))
   simp only [Nat.zero_add, List.nil_append, Array.empty_append] at hgr ⊢
   exact ⟨_, _, hr, hgr.1, hgr.2, fun b hb => .inl (by simp [Value.ownBlock] at hb; omega)⟩
  ·by_cases hroom : n + m ≤ cap
   ·have hfit : n * i.size + news.length ≤ cur.size := by rw [hl, hcs, ← Nat.add_mul]; exact Nat.mul_le_mul_right _ hroom
    have hr := run_append_room (P := P) w t ty e i ht hi g n cap cur hg ad m c news hl hnews h1 hroom hfit
    refine ⟨_, _, hr, ⟨hlen, .inr ⟨g, cap, _, rfl, Nat.zero_le _, setRow_heap w g cur _ e _ hg, hroom, hcm, ?_, ?_⟩⟩, grownBy_setRow _ _ _, fun b hb => .inr hb⟩
    ·simp only [List.size_toArray, List.length_append, List.length_take, List.length_drop, Array.length_toList]; omega
    ·rw [htake, ← hlen]; exact List.take_left
   ·have holds : ∀ j u, xs[j]? = some u → w.cell? ((⟨g, 0, none⟩ : Addr).add j) = some u := hown.cells (g := g) rfl
    have hr := run_append_grow (P := P) w t ty e i z ht hi hz ⟨g, 0, none⟩ n cap xs hown.1 holds ad m c news hl hnews (by omega) (by omega) (growslice_fits (by omega) hbytes)
    have hgr := hfresh cap (by omega) (Value.ownBlock (.slice (some ⟨g, 0, none⟩) n cap))
    exact ⟨_, _, hr, hgr.1, hgr.2, fun b hb => .inl (by simp [Value.ownBlock] at hb; omega)⟩
end
end Go.Gv
