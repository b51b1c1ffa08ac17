/- A part of the framework and of the walks: S7 T1 T2. -/
import Derived.Test.YtblcfloekekefaaGreatGx04

namespace Go.Gv
set_option linter.unusedSimpArgs false
set_option linter.unusedVariables false
section
variable {P : Program} {im : List Nat} {o : Oper} {c : COp} {a : Act} {E : Env} {tp : Nat → Prop} {H : HMap} {w : World} {σ : Sg}

theorem compile_ops (hc : compileOp P im o = some c) : o.op.operands.toList.all cstOk = true := by
  unfold compileOp at hc
  split at hc
  · cases hc
  · rename_i h; simpa using h

theorem read_sound {K : D → Prop} {Hr : HMap} (hc : compileOp P im o = some c) (hro : c.isRead = true) (hst : StW E tp H w) (hr : ∀ t, R tp (Imm E.O tp H w) w (a.tmps.getD t undef) (σ t))
    (hle : ∀ i r, Hr i = some r → H i = some r) (hv : readVC c σ Hr K) : GoodN P o a E tp H w K := by
  have hops := compile_ops hc
  have hsat : ∀ i r, H i = some r → ResOk (R tp (Imm E.O tp H w) w) w r := hst.sat.ok
  unfold compileOp at hc
  rw [if_neg (by simpa using hops)] at hc
  have hev : ∀ x, x ∈ o.op.operands → R tp (Imm E.O tp H w) w (a.eval x) (ev σ x) := fun x hx => ev_R hr x (List.all_eq_true.1 hops x (by simpa using hx))
  cases hop : o.op with
  | move x =>
    simp only [hop] at hc; cases hc
    exact (good_mv (.inl hop) (hev x (by simp [hop, Op.operands])) hv).toN
  | assign x =>
    simp only [hop] at hc; cases hc
    exact (good_mv (.inr hop) (hev x (by simp [hop, Op.operands])) hv).toN
  | pick q x y =>
    simp only [hop] at hc; cases hc
    exact (good_pick hop (hev q (by simp [hop, Op.operands])) (hev x (by simp [hop, Op.operands])) (hev y (by simp [hop, Op.operands])) hv).toN
  | alloc el =>
    simp only [hop, Option.bind_eq_bind, Option.bind_eq_some_iff, Option.some.injEq] at hc
    obtain ⟨z, _, rfl⟩ := hc
    simp [COp.isRead] at hro
  | box el x =>
    simp only [hop] at hc; cases hc
    cases hcon : dstIn im o.dst with
    | false => rw [hcon] at hro; cases hro
    | true =>
      rw [hcon] at hv
      exact good_boxI hst hop (hev x (by simp [hop, Op.operands])) hv
  | build t parts =>
    simp only [hop, Option.bind_eq_bind, Option.bind_eq_some_iff] at hc
    obtain ⟨z, hz, hc⟩ := hc
    split at hc
    · rename_i fs hu
      obtain ⟨ps, hps, hc⟩ := Option.bind_eq_some_iff.1 hc
      split at hc
      · rename_i hall
        cases hc
        exact (good_build hop hz hu (by simpa using hps) hall (fun p hp => hev p.2 (by
          simp only [hop, Op.operands]
          simp only [List.mem_toArray, List.mem_map]
          exact ⟨p, hp, rfl⟩)) hv).toN
      · cases hc
    · rename_i len el hu
      simp only [Option.bind_eq_some_iff] at hc
      obtain ⟨sz, hs, ps, hps, hc⟩ := hc
      cases hc
      exact (good_buildA hop hz hu hs hps (fun p hp => hev p.2 (by
        simp only [hop, Op.operands]
        simp only [List.mem_toArray, List.mem_map]
        exact ⟨p, hp, rfl⟩)) hv).toN
    · cases hc
  | buildSlice t len parts =>
    simp only [hop, Option.bind_eq_bind] at hc
    split at hc
    · rename_i el hu
      simp only [Option.bind_eq_some_iff] at hc
      obtain ⟨n, hn, z, hz, ps, hps, hc⟩ := hc
      split at hc
      · rename_i hcond
        simp only [Bool.and_eq_true, decide_eq_true_eq] at hcond
        split at hc
        · cases hc; simp [COp.isRead] at hro
        · rename_i hl0
          split at hc
          · cases hc; simp [COp.isRead] at hro
          cases hc
          refine good_bslice hst hop hu hn hz hps hcond.1 hcond.2 hl0 (fun x hx => hev x ?_) hv
          unfold allIdx at hps
          split at hps
          · cases hps
            simp only [hop, Op.operands]
            simpa using hx
          · cases hps
      · cases hc
    · cases hc
  | insert t m k v => simp [hop] at hc
  | load t x =>
    simp only [hop, Option.bind_eq_bind, Option.bind_eq_some_iff] at hc
    obtain ⟨agg, ha, sz, hs, hc⟩ := hc
    split at hc
    · rename_i h1
      cases hc
      exact (good_load hop ha hs (by simpa using h1) (hev x (by simp [hop, Op.operands])) hle hsat hv).toN
    · cases hc
  | store t x y =>
    simp only [hop, Option.bind_eq_bind, Option.bind_eq_some_iff, Option.some.injEq] at hc
    obtain ⟨z, _, rfl⟩ := hc
    simp [COp.isRead] at hro
  | ready g => simp [hop] at hc
  | waits g => simp [hop] at hc
  | nilCheck x =>
    simp only [hop] at hc; cases hc
    exact (good_nilck hop (hev x (by simp [hop, Op.operands])) hv).toN
  | binOp op t x y u =>
    simp only [hop] at hc
    have hx := hev x (by simp [hop, Op.operands])
    have hy := hev y (by simp [hop, Op.operands])
    split at hc
    · split at hc
      · cases hc; exact (good_arith hop (.inl rfl) hx hy hv).toN
      · split at hc
        · cases hc; exact (good_scat hop hx hy hv).toN
        · cases hc
    · split at hc
      · cases hc; exact (good_arith hop (by simp) hx hy hv).toN
      · cases hc
    · split at hc
      · cases hc; exact (good_arith hop (by simp) hx hy hv).toN
      · cases hc
    · split at hc
      · cases hc; exact (good_arith hop (by simp) hx hy hv).toN
      · cases hc
    · split at hc
      · cases hc; exact (good_arith hop (by simp) hx hy hv).toN
      · cases hc
    iterate 4
      · split at hc
        · cases hc; exact (good_cmp hop hx hy hv).toN
        · split at hc
          · cases hc; exact (good_cmp hop hx hy hv).toN
          · cases hc
    · exact (good_eql (neg := false) (by simpa using hop) hc hx hy hv).toN
    · exact (good_eql (neg := true) (by simpa using hop) hc hx hy hv).toN
    · cases hc
  | unOp op t x =>
    cases op <;> simp only [hop] at hc <;> cases hc
    · exact (good_neg hop (hev x (by simp [hop, Op.operands])) hv).toN
    · exact (good_not hop (hev x (by simp [hop, Op.operands])) hv).toN
  | convert s t x =>
    simp only [hop] at hc
    split at hc
    · rename_i k0 k h1 h2
      cases hc
      exact (good_conv hop h1 h2 (hev x (by simp [hop, Op.operands])) hv).toN
    · rename_i el h1 h2
      split at hc
      · rename_i h3
        cases hc
        exact good_sbytes hst hop h1 h2 h3 (hev x (by simp [hop, Op.operands])) hv
      · cases hc
    · cases hc
  | sliceToArrayPointer t x => simp [hop] at hc
  | makeInterface t x => simp only [hop] at hc; cases hc; exact False.elim hv
  | makeFunc fn first caps =>
    cases fn <;> simp only [hop] at hc <;> try (cases hc; done)
    split at hc
    · rename_i hf
      cases hc
      exact (good_clo hop hf (fun x hx => hev x (by simp only [hop, Op.operands]; simp; right; simpa using hx)) hv).toN
    · cases hc
  | makeMap t r => simp [hop] at hc
  | makeChan t r => simp [hop] at hc
  | makeSlice t l k =>
    simp only [hop, Option.bind_eq_bind] at hc
    split at hc
    · simp only [Option.bind_eq_some_iff] at hc
      obtain ⟨n, hn, z, hz, agg, ha, hc⟩ := hc
      split at hc
      · cases hc; simp [COp.isRead] at hro
      · cases hc
    · cases hc
  | slice t x lo hi mx =>
    cases mx with
    | some m => simp [hop] at hc
    | none =>
      simp only [hop, Option.bind_eq_bind] at hc
      have hx := hev x (by simp [hop, Op.operands])
      have hlo : ∀ y, lo = some y → R tp (Imm E.O tp H w) w (a.eval y) (ev σ y) := fun y hy => hev y (by subst hy; simp [hop, Op.operands])
      have hhi : ∀ y, hi = some y → R tp (Imm E.O tp H w) w (a.eval y) (ev σ y) := fun y hy => hev y (by subst hy; simp [hop, Op.operands])
      split at hc
      · rename_i el hu
        simp only [Option.bind_eq_some_iff, Option.some.injEq] at hc
        obtain ⟨n, hn, rfl⟩ := hc
        exact (good_slice hop hu hn hx hlo hhi hle hsat hv).toN
      · rename_i hu
        cases hc
        exact (good_sslice hop hu hx hlo hhi hv).toN
      · cases hc
  | fieldAddr t x f =>
    simp only [hop, Option.bind_eq_bind] at hc
    split at hc
    · rename_i fs hu
      simp only [Option.bind_eq_some_iff] at hc
      obtain ⟨fd, hf, sz, hs, hc⟩ := hc
      split at hc
      · rename_i h0
        cases hc
        exact (good_faddr hop hu hf hs h0 (hev x (by simp [hop, Op.operands])) hv).toN
      · cases hc
    · cases hc
  | field t x f =>
    simp only [hop, Option.bind_eq_bind] at hc
    split at hc
    · rename_i fs hu
      simp only [Option.bind_eq_some_iff] at hc
      obtain ⟨fd, hf, agg, ha, sz, hs, hc⟩ := hc
      split at hc
      · rename_i h1
        cases hc
        exact (good_fld hop hu hf ha hs (by simpa using h1) (hev x (by simp [hop, Op.operands])) hv).toN
      · cases hc
    · cases hc
  | indexAddr t x i =>
    simp only [hop, Option.bind_eq_bind] at hc
    split at hc
    · rename_i el hu
      simp only [Option.bind_eq_some_iff, Option.some.injEq] at hc
      obtain ⟨n, hn, rfl⟩ := hc
      exact (good_iaddr hop hu hn (hev x (by simp [hop, Op.operands])) (hev i (by simp [hop, Op.operands])) hle hsat hv).toN
    · rename_i len el hu
      split at hc
      · simp only [Option.bind_eq_some_iff] at hc
        obtain ⟨sz, hs, hc⟩ := hc
        split at hc
        · rename_i h0
          cases hc
          exact (good_aaddr hop hu hs h0 (hev x (by simp [hop, Op.operands])) hv).toN
        · cases hc
      · cases hc
    · cases hc
  | index t x i =>
    simp only [hop] at hc
    split at hc
    · rename_i hu
      cases hc
      exact (good_sidx hop hu (hev x (by simp [hop, Op.operands])) (hev i (by simp [hop, Op.operands])) hv).toN
    · cases hc
  | lookup t x i b => simp [hop] at hc
  | mapUpdate t m k v => simp [hop] at hc
  | mapEntry t m k => simp [hop] at hc
  | entryStore t m k v => simp [hop] at hc
  | range t x =>
    simp only [hop] at hc
    split at hc
    · cases hc; simp [COp.isRead] at hro
    · cases hc
  | next x b =>
    cases b with
    | false => simp [hop] at hc
    | true =>
      simp only [hop] at hc
      cases hc
      simp [COp.isRead] at hro
  | entry x => simp [hop] at hc
  | typeAssert x s t b => simp [hop] at hc
  | extract x i =>
    simp only [hop] at hc; cases hc
    exact (good_ext hop (hev x (by simp [hop, Op.operands])) hv).toN
  | call q =>
    have hargs : ∀ x ∈ q.args.toList, R tp (Imm E.O tp H w) w (a.eval x) (ev σ x) := fun x hx => hev x (by
      simp only [hop, Op.operands, Call.operands]
      simp; right; simpa using hx)
    simp only [hop] at hc
    split at hc
    · cases hc; simp [COp.isRead] at hro
    · cases hc; simp [COp.isRead] at hro
    · rename_i hcal
      split at hc
      · rename_i t x hat har
        split at hc
        · rename_i el hu
          cases hc
          exact (good_len hop hcal hat har hu (hargs x (by rw [har]; simp)) hle hsat hv).toN
        · rename_i hu
          cases hc
          exact (good_slen hop hcal hat har hu (hargs x (by rw [har]; simp)) hv).toN
        · cases hc
      · cases hc
    · rename_i hcal
      cases hc
      exact (good_mm (mx := false) hop (by simpa using hcal) hargs hv).toN
    · rename_i hcal
      cases hc
      exact (good_mm (mx := true) hop (by simpa using hcal) hargs hv).toN
    · split at hc
      · split at hc
        · split at hc
          · simp only [Option.bind_eq_bind, Option.bind_eq_some_iff] at hc
            obtain ⟨n, hn, z, hz, hc⟩ := hc
            split at hc
            · cases hc; simp [COp.isRead] at hro
            · cases hc
          · cases hc
        · split at hc
          · simp only [Option.bind_eq_bind, Option.bind_eq_some_iff] at hc
            obtain ⟨n, hn, z, hz, agg, ha, hc⟩ := hc
            split at hc
            · cases hc; simp [COp.isRead] at hro
            · cases hc
          · cases hc
      · cases hc
    · split at hc
      · split at hc
        · simp only [Option.bind_eq_bind, Option.bind_eq_some_iff] at hc
          obtain ⟨n, hn, z, hz, agg, ha, hc⟩ := hc
          split at hc
          · cases hc; simp [COp.isRead] at hro
          · cases hc
        · cases hc
      · cases hc
    · split at hc
      · split at hc
        · split at hc
          · simp only [Option.bind_eq_bind, Option.bind_eq_some_iff] at hc
            obtain ⟨n, hn, hc⟩ := hc
            split at hc
            · cases hc; simp [COp.isRead] at hro
            · cases hc
          · cases hc
        · cases hc
      · cases hc
    · rename_i hcal
      split at hc
      · rename_i t x hat har
        split at hc
        · rename_i el hu
          cases hc
          exact (good_cap hop hcal hat har hu (hargs x (by rw [har]; simp)) hv).toN
        · cases hc
      · cases hc
    · cases hc
  | go q => simp [hop] at hc
  | defer q => simp [hop] at hc
  | panic x => simp only [hop] at hc; cases hc; exact False.elim hv
  | send x y => simp [hop] at hc
  | recv t x b => simp [hop] at hc
  | select cs b => simp [hop] at hc

theorem opVC_read {K : D → HMap → Prop} (hro : c.isRead = true) (hv : opVC c o.dst σ H K) : readVC c σ H fun d => K d H := by
  cases c <;> first | exact hv | (simp [COp.isRead] at hro; done) | skip
  rename_i el im x
  cases im
  · simp [COp.isRead] at hro
  · exact hv

theorem op_sound {K : D → HMap → Prop} (hc : compileOp P im o = some c) (hnc : c.isCall = false) (hst : StW E tp H w) (hr : ∀ t, R tp (Imm E.O tp H w) w (a.tmps.getD t undef) (σ t))
    (hv : opVC c o.dst σ H K) : OpGood P o a E tp H w K := by
  by_cases hro : c.isRead = true
  · exact GoodN.og hst (read_sound hc hro hst hr (fun _ _ h => h) (opVC_read hro hv)) (fun d h => h)
  · have hops := compile_ops hc
    unfold compileOp at hc
    rw [if_neg (by simpa using hops)] at hc
    have hev : ∀ x, x ∈ o.op.operands → R tp (Imm E.O tp H w) w (a.eval x) (ev σ x) := fun x hx => ev_R hr x (List.all_eq_true.1 hops x (by simpa using hx))
    cases hop : o.op with
    | alloc el =>
      simp only [hop, Option.bind_eq_bind, Option.bind_eq_some_iff, Option.some.injEq] at hc
      obtain ⟨z, hz, rfl⟩ := hc
      simp only [opVC] at hv
      split at hv
      · exact og_alloc hst hop hz hv
      · exact hv.elim
    | box el x =>
      simp only [hop] at hc; cases hc
      cases hcon : dstIn im o.dst with
      | true => rw [hcon] at hro; exact absurd rfl hro
      | false =>
      rw [hcon] at hv
      simp only [opVC] at hv
      split at hv
      · exact og_box hst hop (hev x (by simp [hop, Op.operands])) hv.1 hv.2
      · exact hv.elim
    | buildSlice t len parts =>
      simp only [hop, Option.bind_eq_bind] at hc
      split at hc
      · rename_i el hu
        simp only [Option.bind_eq_some_iff] at hc
        obtain ⟨n, hn, z, hz, ps, hps, hc⟩ := hc
        split at hc
        · rename_i hcond
          split at hc
          · rename_i hl0
            subst hl0
            cases hc
            simp only [opVC] at hv
            have : ps = [] := by
              unfold allIdx at hps
              split at hps
              · rename_i h
                have h' : parts.toList = [] := by simpa using h
                rw [h'] at hps
                simpa using hps.symm
              · cases hps
            subst this
            split at hv
            · exact og_nslice hst hop hu hn hz hps hv
            · exact hv.elim
          · rename_i hl0
            simp only [Bool.and_eq_true, decide_eq_true_eq] at hcond
            split at hc
            · cases hc
              simp only [opVC] at hv
              split at hv
              · refine og_mslice hst hop hu hn hz hps hcond.1 hcond.2 hl0 (fun x hx => hev x ?_) hv.1 hv.2
                unfold allIdx at hps
                split at hps
                · cases hps
                  simp only [hop, Op.operands]
                  simpa using hx
                · cases hps
              · exact hv.elim
            · cases hc; simp [COp.isRead] at hro
        · cases hc
      · cases hc
    | store t x y =>
      simp only [hop, Option.bind_eq_bind, Option.bind_eq_some_iff, Option.some.injEq] at hc
      obtain ⟨sz, hs, rfl⟩ := hc
      exact og_store hst hop hs (hev x (by simp [hop, Op.operands])) (hev y (by simp [hop, Op.operands])) hv
    | makeSlice t l k =>
      simp only [hop, Option.bind_eq_bind] at hc
      split at hc
      · rename_i el hu
        simp only [Option.bind_eq_some_iff] at hc
        obtain ⟨n, hn, z, hz, agg, ha, hc⟩ := hc
        split at hc
        · rename_i hcond
          simp only [Bool.and_eq_true, decide_eq_true_eq] at hcond
          cases hc
          simp only [opVC] at hv
          split at hv
          · split at hv
            · rename_i e1 e2
              have h1 := hev l (by simp [hop, Op.operands])
              have h2 := hev k (by simp [hop, Op.operands])
              rw [asI_eq e1] at h1
              rw [asI_eq e2] at h2
              obtain ⟨h0, hlc, hb, h63, hk⟩ := hv
              exact og_mkslice hst hop hu hn hz hcond.1 (by simpa using hcond.2) h1.inv_v h2.inv_v h0 hlc hb h63 hk
            · exact hv.elim
          · exact hv.elim
        · cases hc
      · cases hc
    | call q =>
      have hargs : ∀ x ∈ q.args.toList, R tp (Imm E.O tp H w) w (a.eval x) (ev σ x) := fun x hx => hev x (by
        simp only [hop, Op.operands, Call.operands]
        simp; right; simpa using hx)
      simp only [hop] at hc
      split at hc
      · cases hc; simp [COp.isCall] at hnc
      · cases hc; simp [COp.isCall] at hnc
      · split at hc
        · split at hc
          · cases hc; simp [COp.isRead] at hro
          · cases hc; simp [COp.isRead] at hro
          · cases hc
        · cases hc
      · cases hc; simp [COp.isRead] at hro
      · cases hc; simp [COp.isRead] at hro
      · rename_i hcal
        split at hc
        · rename_i t u x y hat har
          split at hc
          · rename_i htu
            subst htu
            split at hc
            · rename_i el hu
              simp only [Option.bind_eq_bind, Option.bind_eq_some_iff] at hc
              obtain ⟨n, hn, z, hz, hc⟩ := hc
              split at hc
              · rename_i h0
                cases hc
                exact og_append hst hop hcal hat har hu hn hz rfl h0 (hargs x (by rw [har]; simp)) (hargs y (by rw [har]; simp)) hv
              · cases hc
            · cases hc
          · split at hc
            · rename_i el kn hu hu2
              simp only [Option.bind_eq_bind, Option.bind_eq_some_iff] at hc
              obtain ⟨n, hn, z, hz, agg, ha, hc⟩ := hc
              split at hc
              · rename_i hcond
                simp only [Bool.and_eq_true, decide_eq_true_eq] at hcond
                cases hc
                exact og_appmk hst hop hcal hat har hu hu2 hn hz hcond.1 (by simpa using hcond.2) (hargs x (by rw [har]; simp)) (hargs y (by rw [har]; simp)) hv
              · cases hc
            · cases hc
        · cases hc
      · rename_i hcal
        split at hc
        · rename_i t x hat har
          split at hc
          · rename_i el hu
            simp only [Option.bind_eq_bind, Option.bind_eq_some_iff] at hc
            obtain ⟨n, hn, z, hz, agg, ha, hc⟩ := hc
            split at hc
            · rename_i hcond
              simp only [Bool.and_eq_true, decide_eq_true_eq] at hcond
              cases hc
              exact og_clear hst hop hcal hat har hu hn hz hcond.1 (by simpa using hcond.2) (hargs x (by rw [har]; simp)) hv
            · cases hc
          · cases hc
        · cases hc
      · rename_i hcal
        split at hc
        · rename_i t u x y hat har
          split at hc
          · rename_i htu
            subst htu
            split at hc
            · rename_i el hu
              simp only [Option.bind_eq_bind, Option.bind_eq_some_iff] at hc
              obtain ⟨n, hn, hc⟩ := hc
              split at hc
              · rename_i h0
                cases hc
                exact og_copy hst hop hcal hat har hu hn h0 (hargs x (by rw [har]; simp)) (hargs y (by rw [har]; simp)) hv
              · cases hc
            · cases hc
          · cases hc
        · cases hc
      · split at hc
        · split at hc
          · cases hc; simp [COp.isRead] at hro
          · cases hc
        · cases hc
      · cases hc
    | move x => simp only [hop] at hc; cases hc; simp [COp.isRead] at hro
    | assign x => simp only [hop] at hc; cases hc; simp [COp.isRead] at hro
    | pick q x y => simp only [hop] at hc; cases hc; simp [COp.isRead] at hro
    | build t parts =>
      simp only [hop, Option.bind_eq_bind, Option.bind_eq_some_iff] at hc
      obtain ⟨z, hz, hc⟩ := hc
      split at hc
      · obtain ⟨ps, hps, hc⟩ := Option.bind_eq_some_iff.1 hc
        split at hc
        · cases hc; simp [COp.isRead] at hro
        · cases hc
      · simp only [Option.bind_eq_some_iff] at hc
        obtain ⟨sz, hs, ps, hps, hc⟩ := hc
        cases hc; simp [COp.isRead] at hro
      · cases hc
    | insert t m k v => simp [hop] at hc
    | load t x =>
      simp only [hop, Option.bind_eq_bind, Option.bind_eq_some_iff] at hc
      obtain ⟨agg, ha, sz, hs, hc⟩ := hc
      split at hc
      · cases hc; simp [COp.isRead] at hro
      · cases hc
    | ready g => simp [hop] at hc
    | waits g => simp [hop] at hc
    | nilCheck x => simp only [hop] at hc; cases hc; simp [COp.isRead] at hro
    | binOp op t x y u =>
      exfalso
      simp only [hop] at hc
      unfold compileEq at hc
      (repeat' split at hc) <;> first
        | (cases hc; done)
        | (cases hc; simp [COp.isRead] at hro; done)
        | (cases hks : eqKinds P t with
           | none => simp [hks] at hc
           | some ks => simp [hks] at hc; subst hc; simp [COp.isRead] at hro)
    | unOp op t x =>
      exfalso
      cases op <;> simp only [hop] at hc <;> first | (cases hc; done) | (cases hc; simp [COp.isRead] at hro; done)
    | convert s t x =>
      simp only [hop] at hc
      split at hc
      · cases hc; simp [COp.isRead] at hro
      · split at hc
        · cases hc; simp [COp.isRead] at hro
        · cases hc
      · cases hc
    | sliceToArrayPointer t x => simp [hop] at hc
    | makeInterface t x => simp only [hop] at hc; cases hc; simp [COp.isRead] at hro
    | makeFunc fn first caps =>
      cases fn <;> simp only [hop] at hc <;> try (cases hc; done)
      split at hc
      · cases hc; simp [COp.isRead] at hro
      · cases hc
    | makeMap t r => simp [hop] at hc
    | makeChan t r => simp [hop] at hc
    | slice t x lo hi mx =>
      cases mx with
      | some m => simp [hop] at hc
      | none =>
        simp only [hop, Option.bind_eq_bind] at hc
        split at hc
        · simp only [Option.bind_eq_some_iff, Option.some.injEq] at hc
          obtain ⟨n, hn, rfl⟩ := hc
          simp [COp.isRead] at hro
        · cases hc; simp [COp.isRead] at hro
        · cases hc
    | fieldAddr t x f =>
      simp only [hop, Option.bind_eq_bind] at hc
      split at hc
      · simp only [Option.bind_eq_some_iff] at hc
        obtain ⟨fd, hf, sz, hs, hc⟩ := hc
        split at hc
        · cases hc; simp [COp.isRead] at hro
        · cases hc
      · cases hc
    | field t x f =>
      simp only [hop, Option.bind_eq_bind] at hc
      split at hc
      · simp only [Option.bind_eq_some_iff] at hc
        obtain ⟨fd, hf, agg, ha, sz, hs, hc⟩ := hc
        split at hc
        · cases hc; simp [COp.isRead] at hro
        · cases hc
      · cases hc
    | indexAddr t x i =>
      simp only [hop, Option.bind_eq_bind] at hc
      split at hc
      · simp only [Option.bind_eq_some_iff, Option.some.injEq] at hc
        obtain ⟨n, hn, rfl⟩ := hc
        simp [COp.isRead] at hro
      · split at hc
        · simp only [Option.bind_eq_some_iff] at hc
          obtain ⟨sz, hs, hc⟩ := hc
          split at hc
          · cases hc; simp [COp.isRead] at hro
          · cases hc
        · cases hc
      · cases hc
    | index t x i =>
      simp only [hop] at hc
      split at hc
      · cases hc; simp [COp.isRead] at hro
      · cases hc
    | lookup t x i b => simp [hop] at hc
    | mapUpdate t m k v => simp [hop] at hc
    | mapEntry t m k => simp [hop] at hc
    | entryStore t m k v => simp [hop] at hc
    | range t x =>
      simp only [hop] at hc
      split at hc
      · rename_i h1
        cases hc
        simp only [opVC] at hv
        split at hv
        · rename_i t' s e1 e2
          have hx := hev x (by simp [hop, Op.operands])
          rw [e2] at hx
          exact og_srange hst hop h1 hx.inv_v hv
        · exact hv.elim
      · cases hc
    | next x b =>
      cases b with
      | false => simp [hop] at hc
      | true =>
        simp only [hop] at hc
        cases hc
        exact og_snext hst hop (hev x (by simp [hop, Op.operands])) hv
    | entry x => simp [hop] at hc
    | typeAssert x s t b => simp [hop] at hc
    | extract x i => simp only [hop] at hc; cases hc; simp [COp.isRead] at hro
    | go q => simp [hop] at hc
    | defer q => simp [hop] at hc
    | panic x => simp only [hop] at hc; cases hc; simp [COp.isRead] at hro
    | send x y => simp [hop] at hc
    | recv t x b => simp [hop] at hc
    | select cs b => simp [hop] at hc
end
end Go.Gv

namespace Go.Gv
set_option linter.unusedSimpArgs false
set_option linter.unusedVariables false

/-- A call of f goes into f's own text. -/
def CallEnter (P : Program) (f : Nat) : Prop := ∀ (args : Array Value) (w : World), (callFunc f args).run P w = .ok (.enter f args) w

/-- What a call leaves. -/
def Left (O tp : Nat → Prop) (H : HMap) (w : World) (K : D → HMap → Prop) (e : Ending) (w' : World) : Prop :=
  ∃ x r H' tp', e = .returned x ∧ K r H' ∧ (∀ b, tp b → tp' b) ∧ (∀ b, tp' b → tp b ∨ w.heap.size ≤ b) ∧ (∀ b, tp' b → b < w'.heap.size) ∧
    Step tp (owns H) w w' ∧ (∀ b, owns H' b → owns H b ∨ w.heap.size ≤ b) ∧ Sat O tp' H' w' ∧ R tp' (Imm O tp' H' w') w' x r

/-- THE CONTRACT of function f: A says what it asks and gives. -/
def Tri (P : Program) (f : Nat) (A : PT) : Prop :=
  ∀ (O tp : Nat → Prop) (w : World) (vs : List Value) (ds : List D) (H : HMap) (d : Nat) (K : D → HMap → Prop),
    (∀ b, O b → b < w.heap.size) → (∀ b, tp b → b < w.heap.size) → Sat O tp H w → vs.length = ds.length →
    (∀ (k : Nat) (x : Value) (c : D), vs[k]? = some x → ds[k]? = some c → R tp (Imm O tp H w) w x c) → A d ds H K →
    CallEnter P f ∧ Calls P f vs.toArray w (Left O tp H w K)

def callVC (S : Nat → Spc) (c : COp) (dst : Option Nat) (σ : Sg) (H : HMap) (K : D → HMap → Prop) : Prop :=
  match c with
  | .call f args => (S f).pt (dst.getD 0) (args.map (ev σ)) H K
  | .callv f args => match ev σ f with
    | .clo g caps => (S g).pt (dst.getD 0) (args.map (ev σ) ++ caps) H K
    | _ => False
  | c => opVC c dst σ H K

section
variable {P : Program} {im : List Nat} {o : Oper} {c : COp} {a : Act} {E : Env} {tp : Nat → Prop} {H : HMap} {w : World} {σ : Sg} {S : Nat → Spc}

theorem call_wp {A : PT} {f : Nat} {vs : List Value} {ds : List D} {d : Nat} {K : D → HMap → Prop} (hS : Tri P f A) (hst : StW E tp H w) (hd : a.defers = []) (hN : a.tmps.size = E.N) (hr : ∀ t, R tp (Imm E.O tp H w) w (a.tmps.getD t undef) (σ t))
    (hrun : ∀ (g : Array Value) (w' : World), (CallEnter P f) → (execOp a.eval o).run P w = .ok (.enter f vs.toArray) w) (hlen : vs.length = ds.length)
    (hargs : ∀ (k : Nat) (x : Value) (e : D), vs[k]? = some x → ds[k]? = some e → R tp (Imm E.O tp H w) w x e) (hA : A d ds H K) (hdst : ∀ t, o.dst = some t → t < E.N)
    {next : Act → World → Prop} {Q : Exit → Act → World → Prop} (hnext : ∀ r H' x w', K r H' → St E (updO σ o.dst r) H' (a.put o.dst x) w' → next (a.put o.dst x) w') : o.wp P a w next Q := by
  obtain ⟨hce, hc⟩ := hS E.O tp w vs ds H d K (fun b hb => Nat.lt_of_lt_of_le (hst.hO b hb) hst.step.size) hst.tpl hst.sat hlen hargs hA
  unfold Oper.wp
  rw [hrun #[] w hce]
  simp only [Oper.upon]
  refine hc.mono ?_
  rintro e w' ⟨x, r, H', tp', rfl, hk, h1, h2, h3, h4, h5, h6, h7⟩
  have hm := hst.move h4 h1 h2 h3 h5 h6
  exact hnext r H' x w' hk (St.put hd hN hr hm o.dst hdst h7)

/-- The values that a call is handed. -/
theorem args_R (hr : ∀ t, R tp (Imm E.O tp H w) w (a.tmps.getD t undef) (σ t)) {args : List Operand} (hargs : ∀ x ∈ args, cstOk x = true) :
    ∀ (k : Nat) (x : Value) (e : D), (args.map a.eval)[k]? = some x → (args.map (ev σ))[k]? = some e → R tp (Imm E.O tp H w) w x e := by
  intro k x e h1 h2
  rw [List.getElem?_map] at h1 h2
  obtain ⟨q, hq, rfl⟩ := opt_map_some h1
  rw [hq] at h2
  cases h2
  exact ev_R hr q (hargs q (List.mem_of_getElem? hq))

theorem compile_call {f : Nat} {args : List Operand} (hc : compileOp P im o = some (.call f args)) : ∃ q : Call, o.op = .call q ∧ q.callee = .value (.func f) ∧ q.args.toList = args := by
  have hops := compile_ops hc
  unfold compileOp at hc
  rw [if_neg (by simpa using hops)] at hc
  cases hop : o.op with
  | call q =>
    simp only [hop] at hc
    split at hc
    · rename_i g hcal
      cases hc
      exact ⟨q, rfl, hcal, rfl⟩
    · cases hc
    · (repeat' split at hc) <;> cases hc
    · cases hc
    · cases hc
    all_goals
      exfalso
      (repeat' split at hc) <;> first
        | (cases hc; done)
        | (simp only [Option.bind_eq_bind, Option.bind_eq_some_iff] at hc
           obtain ⟨n, hn, z, hz, agg, ha, hc⟩ := hc
           split at hc <;> cases hc; done)
        | (simp only [Option.bind_eq_bind, Option.bind_eq_some_iff] at hc
           obtain ⟨n, hn, z, hz, hc⟩ := hc
           split at hc <;> cases hc; done)
        | (simp only [Option.bind_eq_bind, Option.bind_eq_some_iff] at hc
           obtain ⟨n, hn, hc⟩ := hc
           split at hc <;> cases hc; done)
  | binOp op t x y u =>
    exfalso
    simp only [hop] at hc
    unfold compileEq at hc
    (repeat' split at hc) <;> first
      | (cases hc; done)
      | (cases hks : eqKinds P t <;> simp [hks] at hc)
  | alloc el => simp only [hop, Option.bind_eq_bind, Option.bind_eq_some_iff] at hc; obtain ⟨z, hz, hc⟩ := hc; cases hc
  | build t parts =>
    simp only [hop, Option.bind_eq_bind, Option.bind_eq_some_iff] at hc
    obtain ⟨z, hz, hc⟩ := hc
    split at hc
    · obtain ⟨ps, hps, hc⟩ := Option.bind_eq_some_iff.1 hc
      split at hc <;> cases hc
    · simp only [Option.bind_eq_some_iff] at hc
      obtain ⟨sz, hs, ps, hps, hc⟩ := hc
      cases hc
    · cases hc
  | buildSlice t len parts =>
    simp only [hop, Option.bind_eq_bind] at hc
    split at hc
    · simp only [Option.bind_eq_some_iff] at hc
      obtain ⟨n, hn, z, hz, ps, hps, hc⟩ := hc
      (repeat' split at hc) <;> cases hc
    · cases hc
  | load t x =>
    simp only [hop, Option.bind_eq_bind, Option.bind_eq_some_iff] at hc
    obtain ⟨agg, ha, sz, hs, hc⟩ := hc
    split at hc <;> cases hc
  | store t x y => simp only [hop, Option.bind_eq_bind, Option.bind_eq_some_iff] at hc; obtain ⟨z, hz, hc⟩ := hc; cases hc
  | unOp op t x => cases op <;> simp only [hop] at hc <;> cases hc
  | convert s t x =>
    simp only [hop] at hc
    split at hc
    · cases hc
    · split at hc <;> cases hc
    · cases hc
  | range t x => simp only [hop] at hc; split at hc <;> cases hc
  | next x b => cases b <;> simp [hop] at hc
  | makeFunc fn first caps => cases fn <;> simp only [hop] at hc <;> first | (cases hc; done) | (split at hc <;> cases hc)
  | makeSlice t l k =>
    simp only [hop, Option.bind_eq_bind] at hc
    split at hc
    · simp only [Option.bind_eq_some_iff] at hc
      obtain ⟨n, hn, z, hz, agg, ha, hc⟩ := hc
      split at hc <;> cases hc
    · cases hc
  | slice t x lo hi mx =>
    cases mx with
    | some m => simp [hop] at hc
    | none =>
      simp only [hop, Option.bind_eq_bind] at hc
      split at hc
      · simp only [Option.bind_eq_some_iff] at hc
        obtain ⟨n, hn, hc⟩ := hc
        cases hc
      · cases hc
      · cases hc
  | fieldAddr t x f =>
    simp only [hop, Option.bind_eq_bind] at hc
    split at hc
    · simp only [Option.bind_eq_some_iff] at hc
      obtain ⟨fd, hf, sz, hs, hc⟩ := hc
      split at hc <;> cases hc
    · cases hc
  | field t x f =>
    simp only [hop, Option.bind_eq_bind] at hc
    split at hc
    · simp only [Option.bind_eq_some_iff] at hc
      obtain ⟨fd, hf, agg, ha, sz, hs, hc⟩ := hc
      split at hc <;> cases hc
    · cases hc
  | indexAddr t x i =>
    simp only [hop, Option.bind_eq_bind] at hc
    split at hc
    · simp only [Option.bind_eq_some_iff] at hc
      obtain ⟨n, hn, hc⟩ := hc
      cases hc
    · split at hc
      · simp only [Option.bind_eq_some_iff] at hc
        obtain ⟨sz, hs, hc⟩ := hc
        split at hc <;> cases hc
      · cases hc
    · cases hc
  | index t x i => simp only [hop] at hc; split at hc <;> cases hc
  | _ => simp [hop] at hc

theorem compile_callv {f : Operand} {args : List Operand} (hc : compileOp P im o = some (.callv f args)) : ∃ q : Call, o.op = .call q ∧ q.callee = .value f ∧ q.args.toList = args := by
  have hops := compile_ops hc
  unfold compileOp at hc
  rw [if_neg (by simpa using hops)] at hc
  cases hop : o.op with
  | call q =>
    simp only [hop] at hc
    split at hc
    · cases hc
    · rename_i g _ hcal
      cases hc
      exact ⟨q, rfl, hcal, rfl⟩
    · (repeat' split at hc) <;> cases hc
    · cases hc
    · cases hc
    all_goals
      exfalso
      (repeat' split at hc) <;> first
        | (cases hc; done)
        | (simp only [Option.bind_eq_bind, Option.bind_eq_some_iff] at hc
           obtain ⟨n, hn, z, hz, agg, ha, hc⟩ := hc
           split at hc <;> cases hc; done)
        | (simp only [Option.bind_eq_bind, Option.bind_eq_some_iff] at hc
           obtain ⟨n, hn, z, hz, hc⟩ := hc
           split at hc <;> cases hc; done)
        | (simp only [Option.bind_eq_bind, Option.bind_eq_some_iff] at hc
           obtain ⟨n, hn, hc⟩ := hc
           split at hc <;> cases hc; done)
  | binOp op t x y u =>
    exfalso
    simp only [hop] at hc
    unfold compileEq at hc
    (repeat' split at hc) <;> first
      | (cases hc; done)
      | (cases hks : eqKinds P t <;> simp [hks] at hc)
  | alloc el => simp only [hop, Option.bind_eq_bind, Option.bind_eq_some_iff] at hc; obtain ⟨z, hz, hc⟩ := hc; cases hc
  | build t parts =>
    simp only [hop, Option.bind_eq_bind, Option.bind_eq_some_iff] at hc
    obtain ⟨z, hz, hc⟩ := hc
    split at hc
    · obtain ⟨ps, hps, hc⟩ := Option.bind_eq_some_iff.1 hc
      split at hc <;> cases hc
    · simp only [Option.bind_eq_some_iff] at hc
      obtain ⟨sz, hs, ps, hps, hc⟩ := hc
      cases hc
    · cases hc
  | buildSlice t len parts =>
    simp only [hop, Option.bind_eq_bind] at hc
    split at hc
    · simp only [Option.bind_eq_some_iff] at hc
      obtain ⟨n, hn, z, hz, ps, hps, hc⟩ := hc
      (repeat' split at hc) <;> cases hc
    · cases hc
  | load t x =>
    simp only [hop, Option.bind_eq_bind, Option.bind_eq_some_iff] at hc
    obtain ⟨agg, ha, sz, hs, hc⟩ := hc
    split at hc <;> cases hc
  | store t x y => simp only [hop, Option.bind_eq_bind, Option.bind_eq_some_iff] at hc; obtain ⟨z, hz, hc⟩ := hc; cases hc
  | unOp op t x => cases op <;> simp only [hop] at hc <;> cases hc
  | convert s t x =>
    simp only [hop] at hc
    split at hc
    · cases hc
    · split at hc <;> cases hc
    · cases hc
  | range t x => simp only [hop] at hc; split at hc <;> cases hc
  | next x b => cases b <;> simp [hop] at hc
  | makeFunc fn first caps => cases fn <;> simp only [hop] at hc <;> first | (cases hc; done) | (split at hc <;> cases hc)
  | makeSlice t l k =>
    simp only [hop, Option.bind_eq_bind] at hc
    split at hc
    · simp only [Option.bind_eq_some_iff] at hc
      obtain ⟨n, hn, z, hz, agg, ha, hc⟩ := hc
      split at hc <;> cases hc
    · cases hc
  | slice t x lo hi mx =>
    cases mx with
    | some m => simp [hop] at hc
    | none =>
      simp only [hop, Option.bind_eq_bind] at hc
      split at hc
      · simp only [Option.bind_eq_some_iff] at hc
        obtain ⟨n, hn, hc⟩ := hc
        cases hc
      · cases hc
      · cases hc
  | fieldAddr t x f =>
    simp only [hop, Option.bind_eq_bind] at hc
    split at hc
    · simp only [Option.bind_eq_some_iff] at hc
      obtain ⟨fd, hf, sz, hs, hc⟩ := hc
      split at hc <;> cases hc
    · cases hc
  | field t x f =>
    simp only [hop, Option.bind_eq_bind] at hc
    split at hc
    · simp only [Option.bind_eq_some_iff] at hc
      obtain ⟨fd, hf, agg, ha, sz, hs, hc⟩ := hc
      split at hc <;> cases hc
    · cases hc
  | indexAddr t x i =>
    simp only [hop, Option.bind_eq_bind] at hc
    split at hc
    · simp only [Option.bind_eq_some_iff] at hc
      obtain ⟨n, hn, hc⟩ := hc
      cases hc
    · split at hc
      · simp only [Option.bind_eq_some_iff] at hc
        obtain ⟨sz, hs, hc⟩ := hc
        split at hc <;> cases hc
      · cases hc
    · cases hc
  | index t x i => simp only [hop] at hc; split at hc <;> cases hc
  | _ => simp [hop] at hc

/-- ONE OPERATION, a call or not. -/
theorem any_sound {K : D → HMap → Prop} (hS : ∀ f, Tri P f (S f).pt) (hc : compileOp P im o = some c) (hst : StW E tp H w) (hd : a.defers = []) (hN : a.tmps.size = E.N) (hr : ∀ t, R tp (Imm E.O tp H w) w (a.tmps.getD t undef) (σ t))
    (hdst : ∀ t, o.dst = some t → t < E.N) (hv : callVC S c o.dst σ H K)
    {next : Act → World → Prop} {Q : Exit → Act → World → Prop} (hnext : ∀ r H' x w', K r H' → St E (updO σ o.dst r) H' (a.put o.dst x) w' → next (a.put o.dst x) w') : o.wp P a w next Q := by
  by_cases hcall : c.isCall = true
  · have hops := compile_ops hc
    cases c <;> simp [COp.isCall] at hcall
    · rename_i f args
      obtain ⟨q, hop, hcal, hargs⟩ := compile_call hc
      have hao : ∀ x ∈ args, cstOk x = true := fun x hx => List.all_eq_true.1 hops x (by
        simp only [hop, Op.operands, Call.operands]
        rw [← hargs] at hx
        simp; right; simpa using hx)
      simp only [callVC] at hv
      refine call_wp (vs := args.map a.eval) (ds := args.map (ev σ)) (hS f) hst hd hN hr (fun _ _ hce => ?_) (by rw [List.length_map, List.length_map]) (args_R hr hao) hv hdst hnext
      have he : q.args.map a.eval = (args.map a.eval).toArray := by rw [← hargs]; exact Array.toList_inj.1 (by rw [Array.toList_map])
      simp [execOp, hop, resolve, hcal, Act.eval, Deferred.ofValue, invoke, he, hce _ w]
    · rename_i f args
      obtain ⟨q, hop, hcal, hargs⟩ := compile_callv hc
      have hao : ∀ x ∈ args, cstOk x = true := fun x hx => List.all_eq_true.1 hops x (by
        simp only [hop, Op.operands, Call.operands]
        rw [← hargs] at hx
        simp; right; simpa using hx)
      have hfo : cstOk f = true := List.all_eq_true.1 hops f (by
        simp only [hop, Op.operands, Call.operands, hcal]
        simp)
      have hfR := ev_R hr f hfo
      simp only [callVC] at hv
      split at hv
      · rename_i g caps e1
        rw [e1] at hfR
        generalize hq : a.eval f = fv at hfR
        cases hfR with
        | clo _ xs _ hl h =>
          refine call_wp (vs := args.map a.eval ++ xs) (ds := args.map (ev σ) ++ caps) (hS g) hst hd hN hr (fun _ _ hce => ?_) (by rw [List.length_append, List.length_append, List.length_map, List.length_map, hl]) ?_ hv hdst hnext
          · have he : q.args.map a.eval = (args.map a.eval).toArray := by rw [← hargs]; exact Array.toList_inj.1 (by rw [Array.toList_map])
            simp [execOp, hop, resolve, hcal, hq, Deferred.ofValue, invoke, he, hce _ w]
          · intro k x e h1 h2
            by_cases hk : k < args.length
            · rw [List.getElem?_append_left (by simpa using hk)] at h1 h2
              exact args_R hr hao k x e h1 h2
            · rw [List.getElem?_append_right (by simp; omega)] at h1 h2
              simp only [List.length_map] at h1 h2
              exact h _ x e h1 h2
      · exact hv.elim
  · have hnc : c.isCall = false := by simpa using hcall
    have hv' : opVC c o.dst σ H K := by
      cases c <;> first | exact hv | (simp [COp.isCall] at hnc)
    obtain ⟨nx, x, d, H', w', hrun, hnx, hm, hR, hk⟩ := op_sound hc hnc hst hr hv'
    have hst' := St.put hd hN hr hm o.dst hdst hR
    unfold Oper.wp
    rw [hrun]
    rcases hnx with rfl | ⟨rfl, rfl⟩
    · exact hnext d H' x w' hk hst'
    · exact hnext d H' Go.undef w' hk hst'
end
end Go.Gv

namespace Go.Gv
set_option linter.unusedSimpArgs false
set_option linter.unusedVariables false

inductive CI where
  | op (dst : Option Nat) (g : Option (Nat × Bool)) (c : COp)
  | frz (t n : Nat)

def CI.real : CI → Bool
  | .op _ _ _ => true
  | .frz _ _ => false

def guardOf (ops : Array Oper) (o : Oper) : Option (Option (Nat × Bool)) :=
  match o.guard with
  | none => some none
  | some (j, b) => ((ops[j]?).bind (·.dst)).map fun d => some (d, b)

def compileCI (P : Program) (im : List Nat) (N : Nat) (ops : Array Oper) (o : Oper) : Option CI := do
  let c ← compileOp P im o
  let g ← guardOf ops o
  if o.dst.all (· < N) then some (.op o.dst g c) else none

def compileOps (P : Program) (im : List Nat) (N : Nat) (ops : Array Oper) : Option (List CI) := ops.toList.mapM (compileCI P im N ops)

def guardVC (g : Option (Nat × Bool)) (σ : Sg) (yes no : Sg → Prop) : Prop :=
  match g with
  | none => yes σ
  | some (s, b) => match σ s with
    | .v (.bool t) => (t = b → yes (upd σ s (.v (.bool b)))) ∧ (t = (!b) → no (upd σ s (.v (.bool (!b)))))
    | .undef => no σ
    | _ => False

def frzL : List D → HMap → (List D → HMap → Prop) → Prop
  | [], H, K => K [] H
  | .own id x :: cs, H, K => match H id with
    | some (.row x' _ n es) => x' = x ∧ frzL cs (updH H id none) fun cs' H' => K (.list n es :: cs') H'
    | _ => False
  | c :: cs, H, K => frzL cs H fun cs' H' => K (c :: cs') H'

open Classical in
/-- The other names of a slice that is given up. -/
noncomputable def frzD (id : Nat) (x : Value) (L : D) : D → D
  | .own i y => if i = id ∧ y = x then L else .own i y
  | d => d
noncomputable def frzG (id : Nat) (x : Value) (L : D) (σ : Sg) : Sg := fun s => frzD id x L (σ s)

def frzVC (t n : Nat) (σ : Sg) (H : HMap) (K : Sg → HMap → Prop) : Prop :=
  match σ t with
  | .own id x => match H id with
    | some (.row x' _ n' es) => x' = x ∧ K (frzG id x (.list n' es) σ) (updH H id none)
    | _ => False
  | .bptr id b off => match H id with
    | some (.box b' cs) => b' = b ∧ K (upd σ t (.cptr cs off)) (updH H id none)
    | _ => False
  | .v (.slice none 0 0) => K (upd σ t (.list n [])) H
  | .sub id x n' lo hi => match H id with
    | some (.row x' el n'' es) => x' = x ∧ n' = n'' ∧ (if n = 0 then lo = 0 ∧ ∀ v, K (upd σ t (.own id v)) (updH H id (some (.row v el n'' (es.take hi)))) else K (upd σ t (.list n'' ((es.take hi).drop lo))) (updH H id none))
    | _ => False
  | .agg cs => frzL cs H fun cs' H' => K (upd σ t (.agg cs')) H'
  | _ => K σ H

def vcL (S : Nat → Spc) : List CI → Sg → HMap → (Sg → HMap → Prop) → Prop
  | [], σ, H, K => K σ H
  | .frz t n :: r, σ, H, K => frzVC t n σ H fun σ' H' => vcL S r σ' H' K
  | .op dst g c :: r, σ, H, K => guardVC g σ (fun σ => callVC S c dst σ H fun d H' => vcL S r (updO σ dst d) H' K) (fun σ => vcL S r (updO σ dst .undef) H K)

section
variable {P : Program} {im : List Nat} {a : Act} {E : Env} {tp I : Nat → Prop} {H : HMap} {w : World} {σ : Sg} {S : Nat → Spc}

/-- A resource is given up: its memory is there for good. -/
theorem StW.drop (h : StW E tp H w) (id : Nat) : StW E tp (updH H id none) w ∧ ∀ x d, R tp (Imm E.O tp H w) w x d → R tp (Imm E.O tp (updH H id none) w) w x d :=
  h.own id none (grownBy_refl w none) (fun b hb => by cases hb) (fun r b h1 => by cases h1) (fun _ r h1 => by cases h1)

theorem imm_dropped (h : StW E tp H w) {id b : Nat} {r : Res} (hr : H id = some r) (hb : r.blk = some b) : Imm E.O tp (updH H id none) w b := by
  have ho := h.sat.out id r b hr hb
  refine ⟨(h.sat.ok id r hr).lt hb, ho.1, ho.2, fun ⟨i, s, h1, h2⟩ => ?_⟩
  by_cases hi : i = id
  · subst hi; simp [updH] at h1
  · simp [updH, hi] at h1
    exact hi (h.sat.dis _ _ _ _ b h1 hr h2 hb)

/-- An exclusive slice that is given up is a list. -/
theorem frz_row (h : StW E tp H w) {id el n : Nat} {x : Value} {es : List D} (hr : H id = some (.row x el n es)) : R tp (Imm E.O tp (updH H id none) w) w x (.list n es) := by
  obtain ⟨xs, ⟨g1, g2⟩, g3, g4⟩ := h.sat.ok id _ hr
  have hm := (h.drop id).2
  have hfl := flat_length (es := es) (fun d hd => (g3 d hd).2)
  rcases g2 with ⟨rfl, h0⟩ | ⟨g, cap, cur, rfl, _, g5, g6, g7, g8, g9⟩
  · have : es = [] := List.eq_nil_of_length_eq_zero h0
    subst this
    exact .nolist _ _ _
  · have hcell : ∀ (k : Nat) (c : D), (flat es)[k]? = some c → ∃ y, xs[k]? = some y ∧ w.cell? ⟨g, 0 + k, none⟩ = some y ∧ y.oneCell' = true ∧ R tp (Imm E.O tp (updH H id none) w) w y c := by
      intro k c hk
      have hlt : k < xs.length := by
        rw [g1, ← hfl]; exact (List.getElem?_eq_some_iff.1 hk).1
      have hy : xs[k]? = some xs[k] := List.getElem?_eq_getElem hlt
      refine ⟨xs[k], hy, ?_, (g4 k _ c hy hk).1, hm _ _ (g4 k _ c hy hk).2⟩
      rw [Nat.zero_add, cell_of_row w g k cur el (0, 0) g5]
      have : (cur.toList.take (es.length * n))[k]? = some xs[k] := by rw [g9]; exact hy
      rw [List.getElem?_take] at this
      split at this
      · simpa using this
      · cases this
    refine .list g 0 cap n es (fun k => xs.getD k undef) (imm_dropped h hr rfl) g6 g7 g3 (fun k c hk => ?_) (fun k c hk => ?_) (fun k c hk => ?_)
    all_goals
      obtain ⟨y, h1, h2, h3, h4⟩ := hcell k c hk
      have hg : xs.getD k undef = y := by simp [List.getD, h1]
      try dsimp only
      rw [hg]
    · exact h2
    · exact h3
    · exact h4

theorem frz_box (h : StW E tp H w) {id b off : Nat} {cs : List D} (hr : H id = some (.box b cs)) : R tp (Imm E.O tp (updH H id none) w) w (.pointer (some ⟨b, off, none⟩)) (.cptr cs off) := by
  obtain ⟨xs, el, g1, g2, g3⟩ := h.sat.ok id _ hr
  have hm := (h.drop id).2
  obtain ⟨f, k1, k2, k3⟩ := box_cells g1 g2 (fun k y c h1 h2 => ⟨(g3 k y c h1 h2).1, hm _ _ (g3 k y c h1 h2).2⟩)
  have := R.cptr (tp := tp) b 0 cs off f (imm_dropped h hr rfl) k1 k2 k3
  simpa using this

theorem frzL_sound : ∀ (cs : List D) (H : HMap) (K : List D → HMap → Prop) (xs : List Value), StW E tp H w → xs.length = cs.length → CellsOk (R tp (Imm E.O tp H w) w) xs cs → frzL cs H K →
    ∃ cs' H', StW E tp H' w ∧ (∀ x d, R tp (Imm E.O tp H w) w x d → R tp (Imm E.O tp H' w) w x d) ∧ xs.length = cs'.length ∧ CellsOk (R tp (Imm E.O tp H' w) w) xs cs' ∧ K cs' H' := by
  intro cs
  induction cs with
  | nil => intro H K xs hst hl hc hv; exact ⟨[], H, hst, fun _ _ h => h, hl, hc, hv⟩
  | cons c cs ih =>
    intro H K xs hst hl hc hv
    cases xs with
    | nil => simp at hl
    | cons x xs =>
      simp at hl
      have hx := hc 0 x c rfl rfl
      have htl : ∀ {H' : HMap}, (∀ x d, R tp (Imm E.O tp H w) w x d → R tp (Imm E.O tp H' w) w x d) → CellsOk (R tp (Imm E.O tp H' w) w) xs cs := fun m k y e h1 h2 =>
        ⟨(hc (k + 1) y e (by simpa using h1) (by simpa using h2)).1, m _ _ (hc (k + 1) y e (by simpa using h1) (by simpa using h2)).2⟩
      have keep : (∃ H1 c', StW E tp H1 w ∧ (∀ x d, R tp (Imm E.O tp H w) w x d → R tp (Imm E.O tp H1 w) w x d) ∧ R tp (Imm E.O tp H1 w) w x c' ∧ frzL cs H1 fun cs' H' => K (c' :: cs') H') := by
        have plain : (∀ id y, c ≠ .own id y) → frzL cs H (fun cs' H' => K (c :: cs') H') := by
          intro hne
          cases c <;> first | exact hv | (exact absurd rfl (hne _ _))
        by_cases hown : ∃ id y, c = .own id y
        · obtain ⟨id, y, rfl⟩ := hown
          simp only [frzL] at hv
          split at hv
          · rename_i x' el n es hH
            obtain ⟨rfl, hv⟩ := hv
            have hd := hst.drop id
            have hxe : x = x' := by cases hx.2; rfl
            subst hxe
            exact ⟨updH H id none, _, hd.1, hd.2, frz_row hst hH, hv⟩
          · exact hv.elim
        · exact ⟨H, c, hst, fun _ _ h => h, hx.2, plain (fun id y h => hown ⟨id, y, h⟩)⟩
      obtain ⟨H1, c', s1, m1, r1, v1⟩ := keep
      obtain ⟨cs', H', s2, m2, l2, c2, k2⟩ := ih H1 _ xs s1 hl (htl m1) v1
      refine ⟨c' :: cs', H', s2, fun y d h => m2 _ _ (m1 _ _ h), by simp [l2], fun k y e h1 h2 => ?_, k2⟩
      cases k with
      | zero => simp at h1 h2; subst h1; subst h2; exact ⟨hx.1, m2 _ _ r1⟩
      | succ k => simp at h1 h2; exact c2 k y e h1 h2

/-- A part of an exclusive slice that is given up. -/
theorem frz_sub (h : StW E tp H w) {id el n lo hi : Nat} {x q : Value} {es : List D} {I : Nat → Prop} (hr : H id = some (.row x el n es)) (hl : R tp (Imm E.O tp (updH H id none) w) w x (.list n es)) (hq : R tp I w q (.sub id x n lo hi)) :
    R tp (Imm E.O tp (updH H id none) w) w q (.list n ((es.take hi).drop lo)) := by
  cases hq with
  | subnil =>
    have : ((es.take 0).drop 0) = [] := by simp
    rw [this]
    exact .nolist _ _ _
  | sub _ b len cap _ _ _ p h1 h2 h3 hm hp =>
    cases hl with
    | nolist _ _ _ =>
      have e0 : hi - lo = 0 := by omega
      rw [e0, List.take_nil, List.drop_nil]
      exact .nolist _ _ _
    | list _ _ _ _ _ f hI hc hm' hn hcell hone hR =>
      by_cases hlc : lo < cap ∨ lo = 0
      · have := list_cut hI hc hm' hn hcell hone hR h1 h2
        rw [hp hlc]
        simpa using this
      · have e0 : hi - lo = 0 := by omega
        have e1 : (es.take hi).drop lo = [] := by
          apply List.eq_nil_of_length_eq_zero
          simp; omega
        rw [e0, e1]
        exact .nolist _ _ _

/-- The beginning of an exclusive slice, as an exclusive slice. -/
theorem reown (h : StW E tp H w) {id el n hi : Nat} {x q : Value} {es : List D} (hr : H id = some (.row x el n es)) (hq : R tp (Imm E.O tp H w) w q (.sub id x n 0 hi)) :
    q.oneCell' = true ∧ StW E tp (updH H id (some (.row q el n (es.take hi)))) w ∧ ∀ y e, R tp (Imm E.O tp H w) w y e → R tp (Imm E.O tp (updH H id (some (.row q el n (es.take hi)))) w) w y e := by
  obtain ⟨xs, ⟨g1, g2⟩, g3, g4⟩ := h.sat.ok id _ hr
  cases hq with
  | subnil =>
    refine ⟨rfl, h.own id _ (grownBy_refl w none) (fun b hb => by cases hb) (fun r b h1 h2 => by cases h1; simp [Res.blk, Value.ownBlock] at h2) (fun m r h1 => ?_)⟩
    cases h1
    rw [List.take_zero]
    exact ⟨[], World.ownsRow_nil _ _ _ _, by simp, fun k y c h => by simp at h⟩
  | sub _ b len cap _ _ _ p h1 h2 h3 hm hp =>
    have := hp (.inr rfl)
    subst this
    rcases g2 with ⟨h, _⟩ | ⟨g, cap', cur, h', g4', g5, g6, g7, g8, g9⟩
    · cases h
    · cases h'
      have hl : (es.take hi).length = hi := by simp; omega
      have hmul2 : hi * n ≤ es.length * n := Nat.mul_le_mul_right n h2
      refine ⟨rfl, h.own id _ (grownBy_refl w none) (fun b hb => by cases hb) (fun r b' h1 h2 => by cases h1; exact .inr ⟨_, hr, by simpa [Res.blk, Value.ownBlock] using h2⟩) (fun m r h1 => ?_)⟩
      cases h1
      refine ⟨xs.take (hi * n), ?_, fun d hd => g3 d (List.mem_of_mem_take hd), fun k y c hy hc => ?_⟩
      · rw [hl]
        refine ⟨by rw [List.length_take, g1]; omega, .inr ⟨b, cap, cur, by simp, Nat.zero_le _, g5, by omega, g7, g8, ?_⟩⟩
        rw [← g9, List.take_take]
        congr 1
        omega
      · rw [List.getElem?_take] at hy
        split at hy
        · have := g4 k y c hy (flat_take_get hc)
          exact ⟨this.1, m _ _ this.2⟩
        · cases hy

theorem frz_sound {t n : Nat} {K : Sg → HMap → Prop} (hst : St E σ H a w) (hv : frzVC t n σ H K) : ∃ σ' H', St E σ' H' a w ∧ K σ' H' := by
  obtain ⟨hd, hN, tp, hw, hr⟩ := hst
  have mk : ∀ (H' : HMap) (d : D), StW E tp H' w → (∀ x e, R tp (Imm E.O tp H w) w x e → R tp (Imm E.O tp H' w) w x e) → R tp (Imm E.O tp H' w) w (a.tmps.getD t undef) d → St E (upd σ t d) H' a w := by
    intro H' d h1 h2 h3
    refine ⟨hd, hN, tp, h1, fun s => ?_⟩
    unfold upd
    split
    · rename_i h; subst h; exact h3
    · exact h2 _ _ (hr s)
  have ht := hr t
  simp only [frzVC] at hv
  split at hv
  · rename_i id x e1
    rw [e1] at ht
    split at hv
    · rename_i x' el n' es hH
      obtain ⟨rfl, hk⟩ := hv
      have hm := hw.drop id
      have hxe : a.tmps.getD t undef = x' := by
        generalize a.tmps.getD t undef = q at ht
        cases ht; rfl
      refine ⟨_, _, ⟨hd, hN, tp, hm.1, fun s => ?_⟩, hk⟩
      have hs := hr s
      unfold frzG
      generalize a.tmps.getD s undef = q at hs ⊢
      cases hσ : σ s with
      | own i y =>
        rw [hσ] at hs
        simp only [frzD]
        split
        · rename_i hiy
          obtain ⟨rfl, rfl⟩ := hiy
          cases hs
          exact frz_row hw hH
        · exact hm.2 _ _ hs
      | _ => rw [hσ] at hs; exact hm.2 _ _ hs
    · exact hv.elim
  · rename_i id b off e1
    rw [e1] at ht
    split at hv
    · rename_i b' cs hH
      obtain ⟨rfl, hk⟩ := hv
      have hm := hw.drop id
      have hxe : a.tmps.getD t undef = .pointer (some ⟨b', off, none⟩) := by
        generalize a.tmps.getD t undef = q at ht
        cases ht; rfl
      exact ⟨_, _, mk _ _ hm.1 hm.2 (by rw [hxe]; exact frz_box hw hH), hk⟩
    · exact hv.elim
  · rename_i e1
    rw [e1] at ht
    exact ⟨_, _, mk _ _ hw (fun _ _ h => h) (by rw [ht.inv_v]; exact .nolist _ _ _), hv⟩
  · rename_i id x n' lo hi e1
    rw [e1] at ht
    split at hv
    · rename_i x' el n'' es hH
      obtain ⟨hxe, rfl, hk⟩ := hv
      subst hxe
      split at hk
      · obtain ⟨rfl, hk⟩ := hk
        obtain ⟨r1, r2, r3⟩ := reown hw hH ht
        exact ⟨_, _, mk _ _ r2 r3 (.own _ _ r1), hk _⟩
      · have hm := hw.drop id
        exact ⟨_, _, mk _ _ hm.1 hm.2 (frz_sub hw hH (frz_row hw hH) ht), hk⟩
    · exact hv.elim
  · rename_i cs e1
    rw [e1] at ht
    obtain ⟨xs, hx, hl, hc⟩ := ht.inv_agg
    obtain ⟨cs', H', s1, m1, l1, c1, k1⟩ := frzL_sound cs H _ xs hw hl hc hv
    refine ⟨_, _, mk _ _ s1 m1 ?_, k1⟩
    rw [hx]
    refine .agg xs cs' l1 (fun x hx' => ?_) (fun k x c h1 h2 => (c1 k x c h1 h2).2)
    obtain ⟨k, hk⟩ := List.mem_iff_getElem?.1 hx'
    have hlt : k < cs'.length := by rw [← l1]; exact (List.getElem?_eq_some_iff.1 hk).1
    exact (c1 k x _ hk (List.getElem?_eq_getElem hlt)).1
  · exact ⟨_, _, ⟨hd, hN, tp, hw, hr⟩, hv⟩

theorem yielded_true {ops : Array Oper} {j s : Nat} {t : Bool} (hr : R tp I w (a.tmps.getD s undef) (.v (.bool t))) (hj : (ops[j]?).bind (·.dst) = some s) : yielded ops a.tmps j = some t := by
  have h := hr.inv_v
  unfold yielded
  rw [hj]
  simp only [Option.bind_some]
  rw [Array.getD_eq_getD_getElem?] at h
  cases hq : a.tmps[s]? with
  | none => rw [hq] at h; simp [undef] at h
  | some q => rw [hq] at h; simp at h; subst h; rfl

theorem yielded_undef {ops : Array Oper} {j s : Nat} (hr : R tp I w (a.tmps.getD s undef) .undef) (hj : (ops[j]?).bind (·.dst) = some s) : yielded ops a.tmps j = none := by
  have h : a.tmps.getD s undef = undef := by
    generalize a.tmps.getD s undef = q at hr
    cases hr; rfl
  unfold yielded
  rw [hj]
  simp only [Option.bind_some]
  rw [Array.getD_eq_getD_getElem?] at h
  cases hq : a.tmps[s]? with
  | none => rfl
  | some q => rw [hq] at h; simp at h; subst h; rfl

theorem upd_self {s : Nat} {d : D} (h : σ s = d) : upd σ s d = σ := by
  funext t
  unfold upd
  split
  · rename_i e; rw [e, h]
  · rfl

/-- THE GUARD: is the operation wanted? -/
theorem guard_sound {ops : Array Oper} {o : Oper} {g : Option (Nat × Bool)} {yes no : Sg → Prop} (hg : guardOf ops o = some g) (hr : ∀ t, R tp I w (a.tmps.getD t undef) (σ t)) (hv : guardVC g σ yes no) :
    (Region.wanted o (yielded ops a.tmps) = true ∧ yes σ) ∨ (Region.wanted o (yielded ops a.tmps) = false ∧ no σ) := by
  unfold guardOf at hg
  cases ho : o.guard with
  | none =>
    rw [ho] at hg
    simp at hg
    subst hg
    exact .inl ⟨by simp [Region.wanted, ho], hv⟩
  | some jb =>
    obtain ⟨j, b⟩ := jb
    rw [ho] at hg
    obtain ⟨s, hs, rfl⟩ := opt_map_some hg
    simp only [guardVC] at hv
    have hrs := hr s
    split at hv
    · rename_i t e1
      rw [e1] at hrs
      have hy := yielded_true hrs hs
      cases hb : (t == b) with
      | true =>
        have : t = b := by simpa using hb
        subst this
        refine .inl ⟨by simp [Region.wanted, ho, hy], ?_⟩
        have := hv.1 rfl
        rwa [upd_self e1] at this
      | false =>
        have hne : t = (!b) := by cases t <;> cases b <;> simp_all
        refine .inr ⟨by simp only [Region.wanted, ho, hy, hne]; cases b <;> rfl, ?_⟩
        have := hv.2 hne
        rw [← hne, upd_self e1] at this
        exact this
    · rename_i e1
      rw [e1] at hrs
      have hy := yielded_undef hrs hs
      exact .inr ⟨by simp [Region.wanted, ho, hy], hv⟩
    · exact hv.elim

theorem St.skip (hst : St E σ H a w) (dst : Option Nat) (hdst : ∀ t, dst = some t → t < E.N) : St E (updO σ dst .undef) H (a.put dst undef) w := by
  obtain ⟨hd, hN, tp, hw, hr⟩ := hst
  exact St.put hd hN hr ⟨hw, fun _ _ h => h⟩ dst hdst .undef

theorem dst_lt {N : Nat} {o : Oper} (h : o.dst.all (· < N) = true) : ∀ t, o.dst = some t → t < N := by
  intro t ht
  rw [ht] at h
  simpa using h

/-- OPERATIONS ONE AFTER THE OTHER. -/
theorem seq_sound {ops : Array Oper} {Q : Exit → Act → World → Prop} {K : Sg → HMap → Prop} (hS : ∀ f, Tri P f (S f).pt) (hQ : ∀ σ H a w, St E σ H a w → K σ H → Q .normal a w) :
    ∀ (cis : List CI) (l : List Oper), l.mapM (compileCI P im E.N ops) = some (cis.filter CI.real) → ∀ (σ : Sg) (H : HMap) (a : Act) (w : World), St E σ H a w → vcL S cis σ H K → wpList P ops Q l a w := by
  intro cis
  induction cis with
  | nil =>
    intro l hl σ H a w hst hv
    cases l with
    | nil => exact hQ σ H a w hst hv
    | cons o l =>
      rw [List.mapM_cons] at hl
      simp only [Option.bind_eq_bind, Option.bind_eq_some_iff, List.filter_nil] at hl
      obtain ⟨x, _, y, _, h⟩ := hl
      cases h
  | cons x cis ih =>
    intro l hl σ H a w hst hv
    cases x with
    | frz t n =>
      simp only [vcL] at hv
      obtain ⟨σ', H', hst', hv'⟩ := frz_sound hst hv
      exact ih l (by simpa [List.filter_cons, CI.real] using hl) σ' H' a w hst' hv'
    | op dst g c =>
      cases l with
      | nil => simp [List.filter_cons, CI.real] at hl
      | cons o l =>
        rw [List.mapM_cons] at hl
        simp only [Option.bind_eq_bind, Option.bind_eq_some_iff, List.filter_cons, CI.real, if_true] at hl
        obtain ⟨x, hx, y, hy, h⟩ := hl
        cases h
        unfold compileCI at hx
        simp only [Option.bind_eq_bind, Option.bind_eq_some_iff] at hx
        obtain ⟨c', hc, g', hg, hx⟩ := hx
        split at hx
        · rename_i hdst
          cases hx
          have hdst := dst_lt hdst
          have hst0 := hst
          obtain ⟨hd, hN, tp, hw, hr⟩ := hst
          simp only [vcL] at hv
          unfold wpList
          rcases guard_sound hg hr hv with ⟨hwant, hyes⟩ | ⟨hwant, hno⟩
          · rw [if_pos hwant]
            exact .inl (any_sound hS hc hw hd hN hr hdst hyes (fun r H' x w' hk hst' => ih l hy _ _ _ _ hst' hk))
          · rw [if_neg (by simp [hwant])]
            exact ih l hy _ _ _ _ (hst0.skip o.dst hdst) hno
        · cases hx
end
end Go.Gv
