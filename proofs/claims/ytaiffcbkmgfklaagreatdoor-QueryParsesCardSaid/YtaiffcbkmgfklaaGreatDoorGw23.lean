/- A part of the framework and of the walks: W91 W92 W93 Asm6 T30. -/
import Derived.Test.YtaiffcbkmgfklaaGreatDoorGw17
import Derived.Test.YtaiffcbkmgfklaaGreatDoorGw20
import Derived.Test.YtaiffcbkmgfklaaGreatDoorGw22
import Derived.Test.YtaiffcbkmgfklaaGreatDoorGw21
import Derived.Test.YtaiffcbkmgfklaaGreatDoorGw19
import Derived.Test.YtaiffcbkmgfklaaGreatDoorGw14
set_option linter.unusedSimpArgs false
set_option linter.unusedVariables false
set_option maxRecDepth 100000
set_option maxHeartbeats 1000000
set_option linter.unusedSectionVars false

namespace Go.Gv
open Cod (enc dec)
open Go.Proofs
/-! ### What the deferred function does where there is a fault: what stands behind the assertion of its type -/
def zeroQ : List Value := [(.int .i64 0), (.int .i64 0), (.string ⟨#[]⟩), (.string ⟨#[]⟩), (.string ⟨#[]⟩), (.string ⟨#[]⟩), (.bool false), (.slice none 0 0), (.string ⟨#[]⟩), (.string ⟨#[]⟩), (.int .i64 0), (.int .i64 0), (.slice none 0 0), (.int .i64 0), (.string ⟨#[]⟩), (.string ⟨#[]⟩), (.string ⟨#[]⟩), (.string ⟨#[]⟩), (.string ⟨#[]⟩), (.bool false), (.int .i64 0), (.int .i64 0), (.slice none 0 0), (.slice none 0 0), (.slice none 0 0), (.int .i64 0)]
def ciF : List CI := [.op (some 4) none (.alloc 63 [(.int .i64 0), (.int .i64 0)]), .op none none (.store none 2 (.tmp 4) (.tmp 12)), .op (some 5) none (.mv (.tmp 13))]
def ccF : CC := .seq (.seq (.reg [
 .op (some 14) none (.mv (.tmp 5)),
 .op (some 15) none (.not (.tmp 14))])
 (.ite (.tmp 15) (.reg [
   .op (some 16) none (.mv (.tmp 3)),
   .op none none (.bad)])
   (.skip)))
 (.regd [
   .op (some 17) none (.build [(.int .i64 0), (.int .i64 0), (.string ⟨#[]⟩), (.string ⟨#[]⟩), (.string ⟨#[]⟩), (.string ⟨#[]⟩), (.bool false), (.slice none 0 0), (.string ⟨#[]⟩), (.string ⟨#[]⟩), (.int .i64 0), (.int .i64 0), (.slice none 0 0), (.int .i64 0), (.string ⟨#[]⟩), (.string ⟨#[]⟩), (.string ⟨#[]⟩), (.string ⟨#[]⟩), (.string ⟨#[]⟩), (.bool false), (.int .i64 0), (.int .i64 0), (.slice none 0 0), (.slice none 0 0), (.slice none 0 0), (.int .i64 0)] []),
   .op (some 18) none (.faddr 0 (.tmp 4)),
   .op (some 19) none (.load false 1 (.tmp 18)),
   .op (some 20) none (.faddr 1 (.tmp 4)),
   .op (some 21) none (.load false 1 (.tmp 20)),
   .op none none (.store (some 100) 26 (.tmp 0) (.tmp 17)),
   .op none none (.store (some 101) 1 (.tmp 1) (.tmp 19))] [
   .op none none (.store (some 102) 1 (.tmp 2) (.tmp 21))])
def imF : List Nat := [2000100, 2001101, 2002102]
def codeF : Code → Option Code
 | .seq _ (.seq _ (.cond _ (.seq _ a) _)) => some a
 | _ => none
theorem ok_F : ((Tryz.f27.body.bind codeF).bind fun c => compileC Tryz.prog imF 22 c) = some (strip ccF) := by kernel_rfl
def sgF (f : Int × Int) (b2 b3 b4 : Nat) : Sg := initS [.bptr 100 b2 0, .bptr 101 b3 0, .bptr 102 b4 0, .any, .any, .any, .any, .any, .any, .any, .any, .any, .agg [.v (.int .i64 f.1), .v (.int .i64 f.2)], .v (.bool true)]
theorem v_F {S : Nat → Spc} (f : Int × Int) (b2 b3 b4 : Nat) (c2 : List D) (c3 c4 : D) (h2 : c2.length = 26) : vcL S ciF (sgF f b2 b3 b4) (updH (updH (updH noH 100 (some (.box b2 c2))) 101 (some (.box b3 [c3]))) 102 (some (.box b4 [c4])))
 fun σ H => vc S ccF (nrm fun _ H => H 100 = some (.box b2 (zeroQ.map cst)) ∧ H 101 = some (.box b3 [.v (.int .i64 f.1)]) ∧ H 102 = some (.box b4 [.v (.int .i64 f.2)])) σ H := by
 simp [ciF, ccF, sgF, nrm, h2, zeroQ]
 skip
def ptr (b : Nat) : Value := .pointer (some ⟨b, 0, none⟩)
def isStr (t : Option TypeDesc) : Bool := match t with | some (.struct _) => true | _ => false
theorem isStr_ex {t : Option TypeDesc} (h : isStr t = true) : ∃ fs, t = some (.struct fs) := by
 unfold isStr at h
 split at h
 ·exact ⟨_, rfl⟩
 ·cases h
theorem und_fault : ∃ fs, Tryz.prog.underlying 63 = some (.struct fs) := isStr_ex (by kernel_rfl)
theorem run_typeAssert {P : Program} {t u : Nat} {fs : Array Field} (h : P.underlying t = some (.struct fs)) (v : Value) (w : World) : (Instr.typeAssert (.iface t v) u t true).run P w = .ok (.tuple #[v, .bool true]) w := by
 simp [Instr.typeAssert, run_underlying h]
theorem run_fault (v : Value) (w : World) : (Instr.typeAssert (.iface 63 v) 20 63 true).run Tryz.prog w = .ok (.tuple #[v, .bool true]) w := und_fault.elim fun _ h => run_typeAssert h v w
theorem stw_ren {E : Env} {H H' : HMap} {w : World} (ρ : Nat → Nat) (h : ∃ tp, StW E tp H w) (h2 : ∀ i r, H' i = some r → H (ρ i) = some r) (h3 : ∀ i j r s, H' i = some r → H' j = some s → ρ i = ρ j → i = j) : ∃ tp, StW E tp H' w := by
 obtain ⟨tp, h⟩ := h
 have hst : St { E with N := 0, ds := [] } (fun _ => .any) H { tmps := #[], defers := [] } w := ⟨rfl, rfl, tp, ⟨h.1, h.2, h.3, h.4, h.5, h.6, h.7⟩, fun t => .any _⟩
 obtain ⟨_, _, tp', h', _⟩ := wk_all (Hf := noH) (σ' := fun _ => .any) ρ (fun t => .same _) (fun i r k => .inl ⟨r, h2 i r k, .inl rfl⟩) (fun i j r s a b e => .inl (h3 i j r s a b e)) (fun i r k => by cases k) _ _ w hst
 exact ⟨tp', ⟨h'.1, h'.2, h'.3, h'.4, h'.5, h'.6, h'.7⟩⟩
def H3 (i j k : Nat) (r s t : Res) : HMap := updH (updH (updH noH i (some r)) j (some s)) k (some t)
/-- The deferred function where a fault came up. -/
theorem fault_Parse (E : Env) (f : Int × Int) (b2 b3 b4 : Nat) (c2 : List D) (c3 c4 : D) (hc2 : c2.length = 26) (w : World) (hst : ∃ tp, StW E tp (H3 100 101 102 (.box b2 c2) (.box b3 [c3]) (.box b4 [c4])) w) : CallsD Tryz.prog 27 #[ptr b2, ptr b3, ptr b4] (.panicking [{ v := faultV 63 f, recovered := false }]) w fun e u' w' => e = .returned (.tuple #[]) ∧ u' = .panicking [{ v := faultV 63 f, recovered := true }] ∧
 ∃ tp H, StW E tp H w' ∧ H 100 = some (.box b2 (zeroQ.map cst)) ∧ H 101 = some (.box b3 [.v (.int .i64 f.1)]) ∧ H 102 = some (.box b4 [.v (.int .i64 f.2)]) := by
 refine callsD_of_wpS Tryz.func27 rfl fun c₀ cs hu => ?_
 apply wpS_seq
 apply wpS_region
 simp [wpOpsS, go_sem, recoverD, hu, Tryz.ntmps27, Exit.thenS]
 apply wpS_seq
 apply wpS_region
 simp [wpOpsS, go_sem, recoverD, hu, Tryz.ntmps27, Exit.thenS, faultV]
 refine wpS_cond (t := true) (by simp [Act.eval, Array.replicate]) ?_
 simp only [if_true]
 refine wpS_of_wp ?_
 refine wp_seq ?_
 refine wp_region_list ?_
 refine wpList_plain rfl fun K hK => ?_
 simp [go_sem]
 refine hK _ _ ?_
 refine wpList_plain rfl fun K hK => ?_
 simp [go_sem, run_fault]
 refine hK _ _ ?_
 refine wpList_plain rfl fun K hK => ?_
 simp [go_sem]
 refine hK _ _ ?_
 refine wpList_plain rfl fun K hK => ?_
 simp [go_sem]
 refine hK _ _ ?_
 refine wpList_plain rfl fun K hK => ?_
 simp [go_sem]
 refine hK _ _ ?_
 clear hK
 obtain ⟨tp, hst⟩ := hst
 refine seq_sound (z := noZ) (E := { E with N := 22, ds := [] }) (im := []) (S := fun _ => .none) (K := fun σ H => vc (fun _ => .none) ccF (nrm fun _ H => H 100 = some (.box b2 (zeroQ.map cst)) ∧ H 101 = some (.box b3 [.v (.int .i64 f.1)]) ∧ H 102 = some (.box b4 [.v (.int .i64 f.2)])) σ H) (fun c a w' _ h => h.1.elim) ?_ ciF (fun x hx => okI_no (fun _ => tri_none _ _) x) _ (by kernel_rfl) (sgF f b2 b3 b4) (H3 100 101 102 (.box b2 c2) (.box b3 [c3]) (.box b4 [c4])) _ _ ?_ (v_F f b2 b3 b4 c2 c3 c4 hc2)
 ·intro σ H a w hs hk
  refine wp_mono (vc_sound (E := { E with N := 22, ds := [] }) (im := imF) (fun _ => tri_none _ _) mixed ccF _ ok_F _ _ _ _ _ hs hk) ?_
  intro e a' w' hP
  cases e with
  | normal =>
    obtain ⟨σ', H', hs', hk'⟩ := hP
    refine ⟨hs'.1, _, rfl, .tuple #[], by simp [results, Tryz.results27], rfl, rfl, ?_⟩
    obtain ⟨_, _, tp', h', _⟩ := hs'
    exact ⟨tp', H', ⟨h'.1, h'.2, h'.3, h'.4, h'.5, h'.6, h'.7⟩, hk'⟩
  | ret => obtain ⟨_, _, _, h⟩ := hP; exact h.elim
  | exit i => obtain ⟨_, _, _, h⟩ := hP; exact h.elim
  | _ => exact hP.elim
 ·refine ⟨rfl, by simp, tp, ⟨hst.1, hst.2, hst.3, hst.4, hst.5, hst.6, hst.7⟩, fun t => ?_⟩
  have any : ∀ {x : Value} {k : Nat}, sgF f b2 b3 b4 k = .any → R tp (Imm E.O tp (H3 100 101 102 (.box b2 c2) (.box b3 [c3]) (.box b4 [c4])) w) w x (sgF f b2 b3 b4 k) := fun h => by rw [h]; exact .any _
  rw [Array.getD_eq_getD_getElem?]
  match t with
  | 0 =>
    simp [Array.getElem?_append]
    exact .bptr 100 b2 0
  | 1 =>
    simp [Array.getElem?_append]
    exact .bptr 101 b3 0
  | 2 =>
    simp [Array.getElem?_append]
    exact .bptr 102 b4 0
  | 3 => exact any rfl
  | 4 => exact any rfl
  | 5 => exact any rfl
  | 6 => exact any rfl
  | 7 => exact any rfl
  | 8 => exact any rfl
  | 9 => exact any rfl
  | 10 => exact any rfl
  | 11 => exact any rfl
  | 12 =>
    simp [Array.getElem?_append, Array.getElem?_setIfInBounds]
    refine .agg [.int .i64 f.1, .int .i64 f.2] _ rfl (by simp [Value.oneCell']) fun k x c hx hc => ?_
    rcases k with _ | _ | k
    ·cases hx; cases hc; exact .v _ rfl (fun s hs => by cases hs)
    ·cases hx; cases hc; exact .v _ rfl (fun s hs => by cases hs)
    ·simp at hx
  | 13 =>
    simp [Array.getElem?_append, Array.getElem?_setIfInBounds]
    exact .v (.bool true) rfl (fun s hs => by cases hs)
  | t + 14 => exact any rfl
end Go.Gv

namespace Go.Gv
open Cod (enc dec)
open Go.Proofs
section
variable {P : Program} {im : List Nat} {E : Env} {S : Nat → Spc}
theorem seq_app {ops : Array Oper} {Q : Exit → Act → World → Prop} {K : Sg → HMap → Prop} {z : List PanicEntry → Prop} (hpan : ∀ c a w', a.defers = E.ds → PanS E z c w' → Q (.panic c) a w') {l2 : List Oper} (hQ : ∀ σ H a w, St E σ H a w → K σ H → wpList P ops Q l2 a w) :
 ∀ (cis : List CI) (hS : ∀ x ∈ cis, CallOkI P z S x) (l : List Oper), l.mapM (compileCI P im E.N ops) = some (cis.filter CI.real) → ∀ (σ : Sg) (H : HMap) (a : Act) (w : World), St E σ H a w → vcL S cis σ H K → wpList P ops Q (l ++ l2) a w := by
 intro cis
 induction cis with
 | nil =>
   intro hS l hl σ H a w hst hv
   cases l with
   | nil => exact hQ σ H a w hst hv
   | cons o l =>
     rw [List.mapM_cons] at hl
     simp only [Option.bind_eq_bind, Option.bind_eq_some_iff, List.filter_nil] at hl
     obtain ⟨x, _, y, _, h⟩ := hl
     cases h
 | cons x cis ih =>
   intro hS l hl σ H a w hst hv
   have ih := ih fun x hx => hS x (by simp [hx])
   have hS0 := hS _ (List.mem_cons_self ..)
   cases x with
   | frz t n =>
     simp only [vcL] at hv
     obtain ⟨σ', H', hst', hv'⟩ := frz_sound hst hv
     exact ih l (by simpa [List.filter_cons, CI.real] using hl) σ' H' a w hst' hv'
   | op dst g c =>
     cases l with
     | nil => simp [List.filter_cons, CI.real] at hl
     | cons o l =>
       rw [List.mapM_cons] at hl
       simp only [Option.bind_eq_bind, Option.bind_eq_some_iff, List.filter_cons, CI.real, if_true] at hl
       obtain ⟨x, hx, y, hy, h⟩ := hl
       cases h
       unfold compileCI at hx
       simp only [Option.bind_eq_bind, Option.bind_eq_some_iff] at hx
       obtain ⟨c', hc, g', hg, hx⟩ := hx
       split at hx
       ·rename_i hdst
        cases hx
        have hdst := dst_lt hdst
        have hst0 := hst
        obtain ⟨hd, hN, tp, hw, hr⟩ := hst
        simp only [vcL] at hv
        rw [List.cons_append]
        unfold wpList
        rcases guard_sound hg hr hv with ⟨hwant, hyes⟩ | ⟨hwant, hno⟩
        ·rw [if_pos hwant]
         exact .inl (any_sound hS0 hc hw hd hN hr hdst hyes (fun c w' => hpan c a w' hd) (fun r H' x w' hk hst' => ih l hy _ _ _ _ hst' hk))
        ·rw [if_neg (by simp [hwant])]
         exact ih l hy _ _ _ _ (hst0.skip o.dst hdst) hno
       ·cases hx
end
/-- Parse: the query, the offset, the error. -/
def parseE (s : B) : Option (Qry × Int × Int) := if 400 < s.size then some (qryZ, 0, 2) else match queryE 500 ⟨s, 0, 0, E0, 0⟩ with
 | .ok r => some (r.2, 0, 0)
 | .err f => some (qryZ, f.1, f.2)
 | .no => none
def ciP : List CI := [.op (some 10) none (.mv (.tmp 0)), .op (some 11) none (.build [(.string ⟨#[]⟩), (.int .i64 0), (.int .i64 0), (.string ⟨#[]⟩), (.int .i64 0)] [(0, 1, (.tmp 10))]), .op (some 12) none (.box 69 false (.tmp 11))]
/-- What is known where the text is read. -/
def KP (s : B) (b2 b3 b4 : Nat) (σ : Sg) (H : HMap) : Prop := σ 2 = .bptr 2 b2 0 ∧ σ 3 = .bptr 3 b3 0 ∧ σ 4 = .bptr 4 b4 0 ∧ H 2 = some (.box b2 (zeroQ.map cst)) ∧ H 3 = some (.box b3 [.v (.int .i64 0)]) ∧ H 4 = some (.box b4 [.v (.int .i64 0)]) ∧ ∃ b12, σ 12 = .bptr 12 b12 0 ∧ H 12 = some (.box b12 (ceRdr ⟨s, 0, 0, E0, 0⟩))
theorem v_err {S : Nat → Spc} (s : B) (hs : ¬ 400 < s.size) : vc S ccPA (nrm fun σ H => vc S ccPB (nrm fun σ H => ∃ b2 b3 b4, (σ 2 = .bptr 2 b2 0 ∧ σ 3 = .bptr 3 b3 0 ∧ σ 4 = .bptr 4 b4 0) ∧ vcL S ciP (upd σ 9 .any) H (KP s b2 b3 b4)) σ H) (initS ((a1 B).view s)) noH := by
 have hsz' : ¬ (400 : Int) < s.size := by omega
 simp [ccPA, ccPB, ciP, nrm, hsz', KP, zeroQ, E0]
 exact fun b b1 b2 _ => ⟨b, b1, b2, ⟨rfl, rfl, rfl⟩, rfl, rfl, rfl, rfl, rfl, rfl⟩
/-- A call that was handed one box alone left the others as they were. -/
theorem left_alone {E : Env} {tp : Nat → Prop} {H : HMap} {w w' : World} {b12 : Nat} {r2 r3 r4 r12 : Res} (h : StW E tp H w) (h2 : H 2 = some r2) (h3 : H 3 = some r3) (h4 : H 4 = some r4) (h12 : H 12 = some r12) (hb : r12.blk = some b12)
 (hs : Step tp (fun b => b = b12) w w') : ∃ tp, StW E tp (H3 100 101 102 r2 r3 r4) w' := by
 refine stw_ren (H := updH (updH (updH noH 2 (some r2)) 3 (some r3)) 4 (some r4)) (fun i => i - 98) ?_ (fun i r hi => ?_) (fun i j r s hi hj e => ?_)
 ·have hsub : ∀ i r, updH (updH (updH noH 2 (some r2)) 3 (some r3)) 4 (some r4) i = some r → H i = some r ∧ i ≠ 12 := by
   intro i r hi
   simp only [updH] at hi
   split at hi
   ·rename_i e; subst e; cases hi; exact ⟨h4, by decide⟩
   ·split at hi
    ·rename_i e; subst e; cases hi; exact ⟨h3, by decide⟩
    ·split at hi
     ·rename_i e; subst e; cases hi; exact ⟨h2, by decide⟩
     ·cases hi
  have hown : ∀ b, owns (updH (updH (updH noH 2 (some r2)) 3 (some r3)) 4 (some r4)) b → owns H b ∧ b ≠ b12 := fun b ⟨i, r, hi, hr⟩ => by
   obtain ⟨a1, a2⟩ := hsub i r hi
   exact ⟨⟨i, r, a1, hr⟩, fun e => a2 (h.sat.dis i 12 r r12 b a1 h12 hr (by rw [hb, e]))⟩
  have hne : ∀ b, ¬ owns H b → b ≠ b12 := fun b ho e => ho ⟨12, r12, h12, by rw [hb, e]⟩
  refine ⟨tp, (h.move (H' := updH (updH (updH noH 2 (some r2)) 3 (some r3)) 4 (some r4)) ⟨hs.os, hs.tape, hs.output, hs.size, fun b hlt ho ht => hs.same b hlt (hne b ho) ht, hs.tapes, hs.drawn⟩ (fun _ h => h) (fun b h => .inl h) (fun b hb' => Nat.lt_of_lt_of_le (h.tpl b hb') hs.size) (fun b hb' => .inl (hown b hb').1) ⟨fun i j r s b k1 k2 k3 k4 => ?_, fun i r b k1 k2 => ?_, fun i r k1 => ?_⟩).1⟩
  ·exact h.sat.dis i j r s b (hsub i r k1).1 (hsub j s k2).1 k3 k4
  ·exact h.sat.out i r b (hsub i r k1).1 k2
  ·refine (h.sat.ok i r (hsub i r k1).1).conv (fun x d hr => hr.mono (fun _ h => h) (fun b hi => ⟨⟨Nat.lt_of_lt_of_le hi.1 hs.size, hi.2.1, hi.2.2.1, fun ho => hi.2.2.2 (hown b ho).1⟩, hs.same b hi.1 (hne b hi.2.2.2) hi.2.2.1⟩) hs.tapes) (fun b hk => ?_)
   exact hs.same b ((h.sat.ok i r (hsub i r k1).1).lt hk) (hown b ⟨i, r, k1, hk⟩).2 (h.sat.out i r b (hsub i r k1).1 hk).2
 ·simp only [H3, updH] at hi
  split at hi
  ·rename_i e; subst e; cases hi; rfl
  ·split at hi
   ·rename_i e; subst e; cases hi; rfl
   ·split at hi
    ·rename_i e; subst e; cases hi; rfl
    ·cases hi
 ·have hk : ∀ i r, H3 100 101 102 r2 r3 r4 i = some r → 100 ≤ i := by
   intro i r hi
   simp only [H3, updH] at hi
   split at hi
   ·omega
   ·split at hi
    ·omega
    ·split at hi
     ·omega
     ·cases hi
  have a := hk i r hi
  have b := hk j s hj
  omega
theorem call_err {f : Int × Int} {s : B} (hq : TriZ (zF ty_query_fault f) Tryz.prog f_query_reader_query (s_equery f 500).pt) (hF : queryE 500 ⟨s, 0, 0, E0, 0⟩ = .err f) {E : Env} {tp : Nat → Prop} {H : HMap} {w : World} {a : Act} {σ : Sg} {b2 b3 b4 : Nat} (h : StW E tp H w)
 (hr : ∀ t, R tp (Imm E.O tp H w) w (a.tmps.getD t undef) (σ t)) (hk : KP s b2 b3 b4 σ H) : ∃ b12, a.tmps.getD 12 undef = ptr b12 ∧ CallEnter Tryz.prog f_query_reader_query ∧ Calls Tryz.prog f_query_reader_query #[ptr b12] w fun e w' => e = .panicked [{ v := faultV ty_query_fault f, recovered := false }] ∧
   ∃ tp, StW E tp (H3 100 101 102 (.box b2 (zeroQ.map cst)) (.box b3 [.v (.int .i64 0)]) (.box b4 [.v (.int .i64 0)])) w' := by
 obtain ⟨k2, k3, k4, h2, h3, h4, b12, k12, h12⟩ := hk
 have r12 := hr 12
 rw [k12] at r12
 have inv : ∀ x, R tp (Imm E.O tp H w) w x (.bptr 12 b12 0) → x = ptr b12 := fun x hx => by cases hx; rfl
 refine ⟨b12, inv _ r12, ?_⟩
 let O' : Nat → Prop := fun b => E.O b ∨ b = b2 ∨ b = b3 ∨ b = b4
 let H' : HMap := updH noH 12 (some (.box b12 (ceRdr ⟨s, 0, 0, E0, 0⟩)))
 have hH : ∀ i r, H' i = some r → i = 12 ∧ r = .box b12 (ceRdr ⟨s, 0, 0, E0, 0⟩) := by
  intro i r hi
  simp only [H', updH] at hi
  split at hi
  ·rename_i e; cases hi; exact ⟨e, rfl⟩
  ·cases hi
 have hown : ∀ b, owns H' b → b = b12 := fun b ⟨i, r, hi, hb⟩ => by
  obtain ⟨_, rfl⟩ := hH i r hi
  cases hb; rfl
 have l2 : b2 < w.heap.size := (h.sat.ok 2 _ h2).lt rfl
 have l3 : b3 < w.heap.size := (h.sat.ok 3 _ h3).lt rfl
 have l4 : b4 < w.heap.size := (h.sat.ok 4 _ h4).lt rfl
 have n2 : b12 ≠ b2 := fun e => by have := h.sat.dis 12 2 _ _ b12 h12 h2 rfl (by rw [e]; rfl); cases this
 have n3 : b12 ≠ b3 := fun e => by have := h.sat.dis 12 3 _ _ b12 h12 h3 rfl (by rw [e]; rfl); cases this
 have n4 : b12 ≠ b4 := fun e => by have := h.sat.dis 12 4 _ _ b12 h12 h4 rfl (by rw [e]; rfl); cases this
 have himm : ∀ b, Imm E.O tp H w b → Imm O' tp H' w b := fun b hb => ⟨hb.1, fun ho => by
  rcases ho with ho | rfl | rfl | rfl
  ·exact hb.2.1 ho
  ·exact hb.2.2.2 ⟨2, _, h2, rfl⟩
  ·exact hb.2.2.2 ⟨3, _, h3, rfl⟩
  ·exact hb.2.2.2 ⟨4, _, h4, rfl⟩, hb.2.2.1, fun ho => hb.2.2.2 ⟨12, _, h12, by rw [hown b ho]; rfl⟩⟩
 have hsat : Sat O' tp H' w := by
  refine ⟨fun i j r s b k1 k2 _ _ => (hH i r k1).1.trans (hH j s k2).1.symm, fun i r b k1 kb => ?_, fun i r k1 => ?_⟩
  ·obtain ⟨_, rfl⟩ := hH i r k1
   cases kb
   have := h.sat.out 12 _ b12 h12 rfl
   refine ⟨fun ho => ?_, this.2⟩
   rcases ho with ho | ho | ho | ho
   ·exact this.1 ho
   ·exact n2 ho
   ·exact n3 ho
   ·exact n4 ho
  ·obtain ⟨_, rfl⟩ := hH i r k1
   exact (h.sat.ok 12 _ h12).conv (fun x d hr => hr.mono (fun _ h => h) (fun b hb => ⟨himm b hb, rfl⟩) (fun b _ => .refl _ _)) (fun _ _ => rfl)
 have hO : ∀ b, O' b → b < w.heap.size := fun b ho => by
  rcases ho with ho | rfl | rfl | rfl
  ·exact Nat.lt_of_lt_of_le (h.hO b ho) h.step.size
  ·exact l2
  ·exact l3
  ·exact l4
 obtain ⟨hce, hc⟩ := hq O' tp w [ptr b12] [.bptr 12 b12 0] H' 13 (fun _ _ => False) hO h.tpl hsat rfl (fun k x c hx hc => by
  rcases k with _ | k
  ·cases hx; cases hc; exact .bptr _ _ _
  ·simp at hx) (by
  rw [reF_pt]
  refine ⟨⟨s, 0, 0, E0, 0⟩, by simp [H', updH], ?_⟩
  show outX f (queryE 500 ⟨s, 0, 0, E0, 0⟩) _
  rw [hF]
  rfl)
 refine ⟨hce, hc.mono ?_⟩
 rintro e w' (⟨x, r, H1, tp1, _, hk, _⟩ | ⟨c, rfl, hz, hs⟩)
 ·exact hk.elim
 ·refine ⟨by rw [hz.1], ?_⟩
  exact left_alone h h2 h3 h4 h12 rfl ⟨hs.os, hs.tape, hs.output, hs.size, fun b hlt ho ht => hs.same b hlt (fun e => ho (hown b e)) ht, hs.tapes, hs.drawn⟩
theorem wpList_split {P : Program} {ops : Array Oper} {Q : Exit → Act → World → Prop} {l : List Oper} {a : Act} {w : World} (n : Nat) (h : wpList P ops Q (l.take n ++ l.drop n) a w) : wpList P ops Q l a w := by rwa [List.take_append_drop] at h
theorem ptr_of {tp I : Nat → Prop} {w : World} {x : Value} {id b : Nat} (h : R tp I w x (.bptr id b 0)) : x = ptr b := by cases h; rfl
/-- The body where the text has a fault. -/
theorem body_err {f : Int × Int} {s : B} (hsz : ¬ 400 < s.size) (hq : TriZ (zF ty_query_fault f) Tryz.prog f_query_reader_query (s_equery f 500).pt) (hF : queryE 500 ⟨s, 0, 0, E0, 0⟩ = .err f) (E : Env) (Q : D → HMap → Prop) (vs : List Value) (w : World) (R : Ending → World → Prop) (hds : E.ds = []) (hN : E.N = 14)
 (hst : St E (initS ((a1 B).view s)) noH { tmps := vs.toArray ++ Array.replicate (Tryz.f11.ntmps - vs.toArray.size) undef, defers := [] } w)
 (hQ : ∀ H r, FrzTo H r (er3 (Y := Qry) (Z := Int) (W := Int) (qryZ, f.1, f.2)) → Q r H)
 (hfin : ∀ (a' : Act) (w' : World) (σ' : Sg) (H' : HMap) (dl : List Deferred), St { E with ds := dl } σ' H' a' w' → (resL rsP σ' H' fun ds => Q (oneOrTup ds) H') → ∃ v, (results Tryz.f11 a'.tmps).run Tryz.prog w' = .ok v w' ∧ R (.returned v) w') : Calls Tryz.prog 11 vs.toArray w R := by
 have hmf : ∀ (fn : Fn) (first cap : Array Value) (w : World), (Instr.makeFunc fn first cap).run Tryz.prog w = .ok (.func fn first cap) w := fun _ _ _ _ => rfl
 have hV := v_err (S := fun _ => .none) s hsz
 refine calls_of_wp_defers Tryz.func11 rfl ?_
 apply wp_seq
 refine wp_mono (vc_sound (E := E) (im := []) (fun _ => tri_none _ _) mixed ccPA _ (by rw [hN]; exact ok_PA) _ _ _ _ _ hst hV) ?_
 intro e a1 w1 hP
 cases e with
 | normal => ?_
 | ret => obtain ⟨_, _, _, h⟩ := hP; exact h.elim
 | exit i => obtain ⟨_, _, _, h⟩ := hP; exact h.elim
 | _ => exact hP.elim
 obtain ⟨σ1, H1, hst1, hV1⟩ := hP
 apply wp_seq
 refine wp_mono (vc_sound (E := E) (im := []) (fun _ => tri_none _ _) mixed ccPB _ (by rw [hN]; exact ok_PB) _ _ _ _ _ hst1 hV1) ?_
 intro e a2 w2 hP
 cases e with
 | normal => ?_
 | ret => obtain ⟨_, _, _, h⟩ := hP; exact h.elim
 | exit i => obtain ⟨_, _, _, h⟩ := hP; exact h.elim
 | _ => exact hP.elim
 obtain ⟨σ2, H2, hst2, b2, b3, b4, ⟨s2, s3, s4⟩, hV2⟩ := hP
 apply wp_seq
 have hsz2 : a2.tmps.size = 14 := by rw [hst2.2.1, hN]
 have hde : a2.defers = [] := by rw [hst2.1, hds]
 refine wp_region_list ?_
 refine wpList_plain rfl fun K hK => ?_
 simp [go_sem, hmf]
 refine hK _ _ ?_
 refine wpList_plain rfl fun K hK => ?_
 simp [go_sem, hsz2]
 refine hK _ _ ?_
 refine wpList_nil ?_
 have hst3 := St.defer hst2 (Value.func (Fn.func 27) #[] #[a2.tmps[2], a2.tmps[3], a2.tmps[4]]) ({ target := Target.fn (Fn.func 27) #[a2.tmps[2], a2.tmps[3], a2.tmps[4]], args := #[] } :: a2.defers) (by rw [hN]; decide)
 apply wp_seq
 refine wp_region_list ?_
 clear hK
 have gt : ∀ (t : Nat) (h : t < a2.tmps.size), a2.tmps.getD t undef = a2.tmps[t] := fun t h => by simp [Array.getD, h]
 obtain ⟨_, _, tp2, hw2, hr2⟩ := hst2
 have p2 : a2.tmps[2] = ptr b2 := by rw [← gt]; exact ptr_of (s2 ▸ hr2 2)
 have p3 : a2.tmps[3] = ptr b3 := by rw [← gt]; exact ptr_of (s3 ▸ hr2 3)
 have p4 : a2.tmps[4] = ptr b4 := by rw [← gt]; exact ptr_of (s4 ▸ hr2 4)
 refine wpList_split 3 ?_
 refine seq_app (z := noZ) (E := { E with ds := { target := Target.fn (Fn.func 27) #[a2.tmps[2], a2.tmps[3], a2.tmps[4]], args := #[] } :: a2.defers }) (im := []) (S := fun _ => .none) (K := KP s b2 b3 b4) (fun c a w' _ h => h.1.elim) ?_ ciP (fun x hx => okI_no (fun _ => tri_none _ _) x) _ (by show List.mapM (compileCI _ _ E.N _) _ = _; rw [hN]; kernel_rfl) _ _ _ _ hst3 hV2
 intro σ H a w' hs hk
 have hs0 := hs
 obtain ⟨hd, hn, tp, hw, hr⟩ := hs
 obtain ⟨b12, hb, hce, hc⟩ := call_err hq hF (E := E) ⟨hw.1, hw.2, hw.3, hw.4, hw.5, hw.6, hw.7⟩ hr hk
 change wpList Tryz.prog _ _ ({ dst := some 13, op := Op.call { callee := Callee.value (Operand.func 28), args := #[Operand.tmp 12], argTypes := #[65] }, type := 38, pos := "text.go:522", after := #[{ on := 2, ground := Ground.data }], guard := none } :: _) a w'
 unfold wpList
 rw [if_pos (show Region.wanted _ _ = true from rfl)]
 refine .inl ?_
 unfold Oper.wp
 have hrun : (execOp a.eval { dst := some 13, op := Op.call { callee := Callee.value (Operand.func 28), args := #[Operand.tmp 12], argTypes := #[65] }, type := 38, pos := "text.go:522", after := #[{ on := 2, ground := Ground.data }], guard := none }).run Tryz.prog w' = .ok (.enter 28 #[ptr b12]) w' := by
  have hce' : (callFunc 28 #[ptr b12]).run Tryz.prog w' = .ok (.enter 28 #[ptr b12]) w' := hce _ w'
  simp [execOp, resolve, Act.eval, Deferred.ofValue, invoke, hb, hce']
 rw [hrun]
 simp only [Oper.upon]
 refine Calls.mono hc ?_
 rintro e w'' ⟨rfl, hst''⟩
 show Leaves Tryz.prog Tryz.f11 a.tmps R a.defers (.panicking [{ v := faultV ty_query_fault f, recovered := false }]) w''
 have hd' : a.defers = { target := Target.fn (Fn.func 27) #[a2.tmps[2], a2.tmps[3], a2.tmps[4]], args := #[] } :: a2.defers := hd
 rw [hd', hde, p2, p3, p4]
 refine leaves_cons (f := 27) (args := #[ptr b2, ptr b3, ptr b4]) (by simp) (by simp [go_sem]) ?_
 refine (fault_Parse E f b2 b3 b4 _ _ _ (by simp [zeroQ]) w'' hst'').mono ?_
 rintro e u' w3 ⟨rfl, rfl, tp3, H3', hw3, k2, k3, k4⟩
 show Leaves Tryz.prog Tryz.f11 a.tmps R [] .returning w3
 have q2 := hr 2
 have q3 := hr 3
 have q4 := hr 4
 rw [hk.1] at q2
 rw [hk.2.1] at q3
 rw [hk.2.2.1] at q4
 obtain ⟨v, h1, h2⟩ := hfin a w3 (fun t => if t = 2 then .bptr 100 b2 0 else if t = 3 then .bptr 101 b3 0 else if t = 4 then .bptr 102 b4 0 else .any) H3' a.defers ⟨rfl, hn, tp3, ⟨hw3.1, hw3.2, hw3.3, hw3.4, hw3.5, hw3.6, hw3.7⟩, fun t => by
  dsimp only
  split
  ·rename_i e; subst e; rw [ptr_of q2]; exact .bptr _ _ _
  ·split
   ·rename_i e; subst e; rw [ptr_of q3]; exact .bptr _ _ _
   ·split
    ·rename_i e; subst e; rw [ptr_of q4]; exact .bptr _ _ _
    ·exact .any _⟩ (by
  simp [rsP, resL, readVC, ev, k2, k3, k4, zeroQ, ldD, oneOrTup]
  refine hQ _ _ (.tup rfl fun k x y hx hy => ?_)
  rcases k with _ | _ | _ | k
  ·cases hx
   cases hy
   rw [enc_Qry]
   exact frz_agg' (by simp [qryZ, Cond0, E0])
  ·cases hx; cases hy; exact .same _
  ·cases hx; cases hy; exact .same _
  ·simp at hx)
 exact ⟨v, h1, h2⟩
end Go.Gv

namespace Go.Gv
open Cod (enc dec)
open Go.Proofs
theorem er3_frz {H : HMap} {r : D} {q : Qry} {a b : Int} (h : FrzTo H r (enc q)) : FrzTo H (.tup [r, .v (.int .i64 a), .v (.int .i64 b)]) (er3 (Y := Qry) (Z := Int) (W := Int) (q, a, b)) := by
 refine .tup rfl fun k x y hx hy => ?_
 rcases k with _ | _ | _ | k
 ·cases hx; cases hy; exact h
 ·cases hx; cases hy; exact .same _
 ·cases hx; cases hy; exact .same _
 ·simp at hx
theorem v_long {S : Nat → Spc} (s : B) (hs : 400 < s.size) (Q : D → HMap → Prop) (hQ : ∀ H r, FrzTo H r (er3 (Y := Qry) (Z := Int) (W := Int) (qryZ, 0, 2)) → Q r H) : vc S ccPA (nrm fun σ H => vc S ccPB (fun e σ H => match e with | .ret => resL rsP σ H fun ds => Q (oneOrTup ds) H | _ => False) σ H) (initS ((a1 B).view s)) noH := by
 have hsz' : (400 : Int) < s.size := by omega
 simp [ccPA, ccPB, rsP, nrm, hsz']
 exact fun b b1 b2 _ => hQ _ _ (er3_frz (by rw [enc_Qry]; exact frz_agg' (by simp [qryZ, Cond0, E0])))
theorem body_long {s : B} (hsz : 400 < s.size) (E : Env) (Q : D → HMap → Prop) (vs : List Value) (w : World) (R : Ending → World → Prop) (hds : E.ds = []) (hN : E.N = 14)
 (hst : St E (initS ((a1 B).view s)) noH { tmps := vs.toArray ++ Array.replicate (Tryz.f11.ntmps - vs.toArray.size) undef, defers := [] } w)
 (hQ : ∀ H r, FrzTo H r (er3 (Y := Qry) (Z := Int) (W := Int) (qryZ, 0, 2)) → Q r H)
 (hfin : ∀ (a' : Act) (w' : World) (σ' : Sg) (H' : HMap) (dl : List Deferred), St { E with ds := dl } σ' H' a' w' → (resL rsP σ' H' fun ds => Q (oneOrTup ds) H') → ∃ v, (results Tryz.f11 a'.tmps).run Tryz.prog w' = .ok v w' ∧ R (.returned v) w') : Calls Tryz.prog 11 vs.toArray w R := by
 have hV := v_long (S := fun _ => .none) s hsz Q hQ
 refine calls_of_wp_defers Tryz.func11 rfl ?_
 apply wp_seq
 refine wp_mono (vc_sound (E := E) (im := []) (fun _ => tri_none _ _) mixed ccPA _ (by rw [hN]; exact ok_PA) _ _ _ _ _ hst hV) ?_
 intro e a1 w1 hP
 cases e with
 | normal => ?_
 | ret => obtain ⟨_, _, _, h⟩ := hP; exact h.elim
 | exit i => obtain ⟨_, _, _, h⟩ := hP; exact h.elim
 | _ => exact hP.elim
 obtain ⟨σ1, H1, hst1, hV1⟩ := hP
 apply wp_seq
 refine wp_mono (vc_sound (E := E) (im := []) (fun _ => tri_none _ _) mixed ccPB _ (by rw [hN]; exact ok_PB) _ _ _ _ _ hst1 hV1) ?_
 intro e a2 w2 hP
 cases e with
 | ret => ?_
 | normal => obtain ⟨_, _, _, h⟩ := hP; exact h.elim
 | exit i => obtain ⟨_, _, _, h⟩ := hP; exact h.elim
 | _ => exact hP.elim
 obtain ⟨σ2, H2, hst2, hV2⟩ := hP
 show Leaves Tryz.prog Tryz.f11 a2.tmps R a2.defers .returning w2
 have hd : a2.defers = [] := by rw [hst2.1, hds]
 rw [hd]
 exact hfin a2 w2 σ2 H2 E.ds hst2 hV2
theorem v_ok {S : Nat → Spc} {g : Int × Int} (h : S f_query_reader_query = s_equery g 500) {s : B} {r : Rdr × Qry} (hsz : ¬ 400 < s.size) (hF : queryE 500 ⟨s, 0, 0, E0, 0⟩ = .ok r) (Q : D → HMap → Prop) (hQ : ∀ H d, FrzTo H d (er3 (Y := Qry) (Z := Int) (W := Int) (r.2, 0, 0)) → Q d H) : VP S Q ((a1 B).view s) noH := by
 have hsz' : ¬ (400 : Int) < s.size := by omega
 have hF' : queryE 500 { txt := s, fin := 0, kind := 0, text := { data := #[] }, pos := 0 } = .ok r := hF
 simp [VP, ccPA, ccPB, ccPD, rsP, nrm, hsz', h, hF']
 exact fun b b1 b2 _ b3 => hQ _ _ (er3_frz (by rw [enc_Qry]; exact frz_agg' (by simp)))
abbrev s_eParse : Spc := spc (a1 B) (fun s => ∃ r, parseE s = some r) (er3 (Y := Qry) (Z := Int) (W := Int)) fun s y => parseE s = some y
theorem t_query_ParseE (hq : ∀ f, TriZ (zF ty_query_fault f) Tryz.prog f_query_reader_query (s_equery f 500).pt) : Tri Tryz.prog f_query_Parse s_eParse.pt := by
 refine tri_run (V := fun Q ds' H0 => ∃ s r, ds' = (a1 B).view s ∧ H0 = noH ∧ parseE s = some r ∧ ∀ H d, FrzTo H d (er3 (Y := Qry) (Z := Int) (W := Int) r) → Q d H) enter_Parse (N := 14) rfl ok_PR (fun x => by simp) ?_ ?_
 ·rintro E ds' H0 Q vs w R hds hN _ hst ⟨s, r, rfl, rfl, hr, hQ⟩ hfin
  rw [parseE] at hr
  split at hr
  ·rename_i hsz
   cases hr
   exact body_long hsz E Q vs w R hds hN hst hQ hfin
  ·rename_i hsz
   split at hr
   ·rename_i q hF
    cases hr
    exact results_pf (S := tab [(f_query_reader_query, s_equery (0, 0) 500)]) (tab_ok (tab_cons (tri_of_zF (hq (0, 0))) tab_nil)) E _ _ Q vs w R hds hN hst (v_ok (g := (0, 0)) rfl hsz hF Q hQ) hfin
   ·rename_i g hF
    cases hr
    exact body_err hsz (hq g) hF E Q vs w R hds hN hst hQ hfin
   ·cases hr
 ·rintro s ⟨r, hr⟩
  exact ⟨s, r, rfl, rfl, hr, fun H d hd => ⟨r, hd, hr⟩⟩
end Go.Gv

namespace Go.Gv
open Go.Proofs Cod
theorem re_void {z : List PanicEntry → Prop} {P : Program} {g : Nat} {Y Z : Type} {A : Arg Z} {er : Y → D} {f : Int × Int} {F : Rdr → Z → Out (Rdr × Y)} (hx : ∀ s z, F s z = .no) : TriZ z P g (reF A er f F).pt := fun O tp w vs ds H d K _ _ _ _ _ ⟨id, b, x, z, ds', h1, h2, h3, h4, h5, hp, h7⟩ => by
 have hp : (F x z).fine f := hp
 rw [hx] at hp
 exact hp.elim
theorem v_strings_trimLeftByte : Tri Tryz.prog f_strings_trimLeftByte s_trimLeftByte.pt := tri_walk (S := tab []) (tab_ok tab_nil) ok_strings_trimLeftByte (fun _ => Nat.le_of_ble_eq_true rfl) w_strings_trimLeftByte
theorem v_strings_TrimLeft : Tri Tryz.prog f_strings_TrimLeft s_trimLeft.pt := tri_walk (S := tab [(f_strings_trimLeftByte, s_trimLeftByte)]) (tab_ok (tab_cons v_strings_trimLeftByte tab_nil)) ok_strings_TrimLeft (fun _ => Nat.le_of_ble_eq_true rfl) (w_strings_TrimLeft rfl)
theorem v_query_globs : Tri Tryz.prog f_query_globs s_globs.pt := tri_walk (S := tab []) (tab_ok tab_nil) ok_query_globs (fun _ => Nat.le_of_ble_eq_true rfl) w_globs
theorem v_query_function : Tri Tryz.prog f_query_function s_function.pt := tri_walk (S := tab []) (tab_ok tab_nil) ok_query_function (fun _ => Nat.le_of_ble_eq_true rfl) w_query_function
theorem v_query_strategyWords : Tri Tryz.prog f_query_strategyWords s_qstrats.pt := tri_walk (S := tab []) (tab_ok tab_nil) ok_query_strategyWords (fun _ => Nat.le_of_ble_eq_true rfl) w_qstrats
theorem e_query_reader_wrong (f : Int × Int) : TriZ (zF ty_query_fault f) Tryz.prog f_query_reader_wrong (s_ewrong f).pt :=
 tri_walkRE (S := tab [(panId, s_qpan f)]) (tz_ok (tz_pan (panOk_C ty_query_fault f) tz_nil)) ok_query_reader_wrong (fun _ => Nat.le_of_ble_eq_true rfl) rfl (by intro g hg; cases hg) (w_e_wrong rfl)
theorem e_query_reader_must (f : Int × Int) : TriZ (zF ty_query_fault f) Tryz.prog f_query_reader_must (s_emust f).pt :=
 tri_walkRE (S := tab [(f_query_reader_take, s_rtake), (f_query_reader_wrong, s_ewrong f)]) (tz_ok (tz_cons (Tri.z u_query_reader_take) rfl (tz_cons (e_query_reader_wrong f) rfl tz_nil))) ok_query_reader_must (fun _ => Nat.le_of_ble_eq_true rfl) rfl (by intro g hg; cases hg) (w_e_must rfl rfl)
theorem e_query_reader_text (f : Int × Int) : TriZ (zF ty_query_fault f) Tryz.prog f_query_reader_text (s_etext f).pt :=
 tri_walkRE (S := tab [(f_query_reader_next, s_rnext), (f_query_reader_wrong, s_ewrong f)]) (tz_ok (tz_cons (Tri.z u_query_reader_next) rfl (tz_cons (e_query_reader_wrong f) rfl tz_nil))) ok_query_reader_text (fun _ => Nat.le_of_ble_eq_true rfl) rfl (by intro g hg; cases hg) (w_e_text rfl rfl)
theorem e_query_reader_name (f : Int × Int) : TriZ (zF ty_query_fault f) Tryz.prog f_query_reader_name (s_ename f).pt :=
 tri_walkRE (S := tab [(f_query_reader_text, s_etext f)]) (tz_ok (tz_cons (e_query_reader_text f) rfl tz_nil)) ok_query_reader_name (fun _ => Nat.le_of_ble_eq_true rfl) rfl (by intro g hg; cases hg) (w_e_name rfl)
theorem e_query_reader_comma (f : Int × Int) : TriZ (zF ty_query_fault f) Tryz.prog f_query_reader_comma (s_ecomma f).pt :=
 tri_walkRE (S := tab [(f_query_reader_must, s_emust f), (f_query_reader_name, s_ename f)]) (tz_ok (tz_cons (e_query_reader_must f) rfl (tz_cons (e_query_reader_name f) rfl tz_nil))) ok_query_reader_comma (fun _ => Nat.le_of_ble_eq_true rfl) rfl (by intro g hg; cases hg) (w_e_comma rfl rfl)
theorem e_query_reader_number (f : Int × Int) : TriZ (zF ty_query_fault f) Tryz.prog f_query_reader_number (s_enumber f).pt :=
 tri_walkRE (S := tab [(panId, s_qpan f), (f_query_reader_text, s_etext f), (f_strings_TrimLeft, s_trimLeft)]) (tz_ok (tz_pan (panOk_C ty_query_fault f) (tz_cons (e_query_reader_text f) rfl (tz_cons (Tri.z v_strings_TrimLeft) rfl tz_nil)))) ok_query_reader_number (fun _ => Nat.le_of_ble_eq_true rfl) rfl (by intro g hg; cases hg) (w_e_number rfl rfl rfl)
theorem e_query_reader_big (f : Int × Int) : TriZ (zF ty_query_fault f) Tryz.prog f_query_reader_big (s_ebig f).pt :=
 tri_walkRE (S := tab [(f_query_reader_number, s_enumber f)]) (tz_ok (tz_cons (e_query_reader_number f) rfl tz_nil)) ok_query_reader_big (fun _ => Nat.le_of_ble_eq_true rfl) rfl (by intro g hg; cases hg) (w_e_big rfl)
theorem e_query_reader_signed (f : Int × Int) : TriZ (zF ty_query_fault f) Tryz.prog f_query_reader_signed (s_esigned f).pt :=
 tri_walkRE (S := tab [(f_query_reader_take, s_rtake), (f_query_reader_big, s_ebig f)]) (tz_ok (tz_cons (Tri.z u_query_reader_take) rfl (tz_cons (e_query_reader_big f) rfl tz_nil))) ok_query_reader_signed (fun _ => Nat.le_of_ble_eq_true rfl) rfl (by intro g hg; cases hg) (w_e_signed rfl rfl)
theorem e_query_reader_atom (f : Int × Int) : TriZ (zF ty_query_fault f) Tryz.prog f_query_reader_atom (s_eatom f).pt :=
 tri_walkRE (S := tab [(f_query_reader_take, s_rtake), (f_query_reader_name, s_ename f), (f_query_reader_must, s_emust f), (f_query_reader_text, s_etext f), (f_query_reader_word, s_rword), (f_query_reader_next, s_rnext), (f_query_reader_fold, s_rfold)]) (tz_ok (tz_cons (Tri.z u_query_reader_take) rfl (tz_cons (e_query_reader_name f) rfl (tz_cons (e_query_reader_must f) rfl (tz_cons (e_query_reader_text f) rfl (tz_cons (Tri.z u_query_reader_word) rfl (tz_cons (Tri.z u_query_reader_next) rfl (tz_cons (Tri.z u_query_reader_fold) rfl tz_nil)))))))) ok_query_reader_atom (fun _ => Nat.le_of_ble_eq_true rfl) rfl (by intro g hg; cases hg) (w_e_atom rfl rfl rfl rfl rfl rfl rfl)
theorem e_and {f : Int × Int} {N : Rdr → Out (Rdr × Cond)} (h : TriZ (zF ty_query_fault f) Tryz.prog f_query_reader_not (s_enot f N).pt) : TriZ (zF ty_query_fault f) Tryz.prog f_query_reader_and (s_eand f N).pt :=
 tri_walkRE (S := tab [(f_query_reader_take, s_rtake), (f_query_reader_not, s_enot f N), (f_query_conds, s_conds)]) (tz_ok (tz_cons (Tri.z u_query_reader_take) rfl (tz_cons h rfl (tz_cons (Tri.z u_query_conds) rfl tz_nil)))) ok_query_reader_and (fun _ => Nat.le_of_ble_eq_true rfl) rfl (by intro g hg; cases hg) (w_e_and N rfl rfl rfl)
theorem e_or {f : Int × Int} {N : Rdr → Out (Rdr × Cond)} (h : TriZ (zF ty_query_fault f) Tryz.prog f_query_reader_not (s_enot f N).pt) : TriZ (zF ty_query_fault f) Tryz.prog f_query_reader_or (s_eor f N).pt :=
 tri_walkRE (S := tab [(f_query_reader_take, s_rtake), (f_query_reader_and, s_eand f N), (f_query_conds, s_conds)]) (tz_ok (tz_cons (Tri.z u_query_reader_take) rfl (tz_cons (e_and h) rfl (tz_cons (Tri.z u_query_conds) rfl tz_nil)))) ok_query_reader_or (fun _ => Nat.le_of_ble_eq_true rfl) rfl (by intro g hg; cases hg) (w_e_or N rfl rfl rfl)
theorem e_not (f : Int × Int) : ∀ n, TriZ (zF ty_query_fault f) Tryz.prog f_query_reader_not (s_enot f (notEN n)).pt
 | 0 => re_void fun _ _ => rfl
 | n + 1 => tri_walkRE (S := tab [(f_query_reader_take, s_rtake), (f_query_reader_not, s_enot f (notEN n)), (f_query_reader_must, s_emust f), (f_query_reader_or, s_eor f (notEN n)), (f_query_reader_atom, s_eatom f)]) (tz_ok (tz_cons (Tri.z u_query_reader_take) rfl (tz_cons (e_not f n) rfl (tz_cons (e_query_reader_must f) rfl (tz_cons (e_or (e_not f n)) rfl (tz_cons (e_query_reader_atom f) rfl tz_nil)))))) ok_query_reader_not (fun _ => Nat.le_of_ble_eq_true rfl) rfl (by intro g hg; cases hg) (w_e_not (notEN n) rfl rfl rfl rfl rfl)
theorem e_alt (f : Int × Int) : ∀ n, TriZ (zF ty_query_fault f) Tryz.prog f_query_reader_alt (s_ealt f (altEN n)).pt
 | 0 => re_void fun _ _ => rfl
 | n + 1 =>
   have h0 : TriZ (zF ty_query_fault f) Tryz.prog f_query_reader_token (s_etoken f (orE (notEN (n + 1)))).pt := tri_walkRE (S := tab [(f_query_reader_take, s_rtake), (f_query_reader_sign, s_rsign), (f_query_reader_must, s_emust f), (f_query_reader_or, s_eor f (notEN (n + 1))), (f_query_reader_text, s_etext f), (f_query_reader_fold, s_rfold)]) (tz_ok (tz_cons (Tri.z u_query_reader_take) rfl (tz_cons (Tri.z u_query_reader_sign) rfl (tz_cons (e_query_reader_must f) rfl (tz_cons (e_or (e_not f (n + 1))) rfl (tz_cons (e_query_reader_text f) rfl (tz_cons (Tri.z u_query_reader_fold) rfl tz_nil))))))) ok_query_reader_token (fun _ => Nat.le_of_ble_eq_true rfl) rfl (by intro g hg; cases hg) (w_e_token _ rfl rfl rfl rfl rfl rfl)
   have h1 : TriZ (zF ty_query_fault f) Tryz.prog f_query_reader_item (s_eitem f (altEN n) (orE (notEN (n + 1)))).pt := tri_walkRE (S := tab [(f_query_reader_take, s_rtake), (f_query_reader_name, s_ename f), (f_query_reader_must, s_emust f), (f_query_reader_token, s_etoken f (orE (notEN (n + 1)))), (f_query_reader_alt, s_ealt f (altEN n))]) (tz_ok (tz_cons (Tri.z u_query_reader_take) rfl (tz_cons (e_query_reader_name f) rfl (tz_cons (e_query_reader_must f) rfl (tz_cons h0 rfl (tz_cons (e_alt f n) rfl tz_nil)))))) ok_query_reader_item (fun _ => Nat.le_of_ble_eq_true rfl) rfl (by intro g hg; cases hg) (w_e_item _ _ rfl rfl rfl rfl rfl)
   have h2 : TriZ (zF ty_query_fault f) Tryz.prog f_query_reader_rep (s_erep f (altEN n) (orE (notEN (n + 1)))).pt := tri_walkRE (S := tab [(panId, s_qpan f), (f_query_reader_take, s_rtake), (f_query_reader_item, s_eitem f (altEN n) (orE (notEN (n + 1)))), (f_query_reader_number, s_enumber f), (f_query_reader_must, s_emust f), (f_query_reader_sign, s_rsign)]) (tz_ok (tz_pan (panOk_C ty_query_fault f) (tz_cons (Tri.z u_query_reader_take) rfl (tz_cons h1 rfl (tz_cons (e_query_reader_number f) rfl (tz_cons (e_query_reader_must f) rfl (tz_cons (Tri.z u_query_reader_sign) rfl tz_nil))))))) ok_query_reader_rep (fun _ => Nat.le_of_ble_eq_true rfl) rfl (by intro g hg; cases hg) (w_e_rep _ _ rfl rfl rfl rfl rfl rfl)
   have h3 : TriZ (zF ty_query_fault f) Tryz.prog f_query_reader_seq (s_eseq f (altEN n) (orE (notEN (n + 1)))).pt := tri_walkRE (S := tab [(f_query_reader_begins, s_rbegins), (f_query_reader_rep, s_erep f (altEN n) (orE (notEN (n + 1)))), (f_query_patterns, s_patterns)]) (tz_ok (tz_cons (Tri.z u_query_reader_begins) rfl (tz_cons h2 rfl (tz_cons (Tri.z u_query_patterns) rfl tz_nil)))) ok_query_reader_seq (fun _ => Nat.le_of_ble_eq_true rfl) rfl (by intro g hg; cases hg) (w_e_seq _ _ rfl rfl rfl)
   tri_walkRE (S := tab [(f_query_reader_take, s_rtake), (f_query_reader_seq, s_eseq f (altEN n) (orE (notEN (n + 1)))), (f_query_patterns, s_patterns)]) (tz_ok (tz_cons (Tri.z u_query_reader_take) rfl (tz_cons h3 rfl (tz_cons (Tri.z u_query_patterns) rfl tz_nil)))) ok_query_reader_alt (fun _ => Nat.le_of_ble_eq_true rfl) rfl (by intro g hg; cases hg) (w_e_alt _ _ rfl rfl rfl)
theorem e_query_reader_arguments (f : Int × Int) : TriZ (zF ty_query_fault f) Tryz.prog f_query_reader_arguments (s_eargs f).pt :=
 tri_walkRE (S := tab [(f_query_reader_take, s_rtake), (f_query_reader_must, s_emust f), (f_query_reader_text, s_etext f), (f_query_reader_comma, s_ecomma f), (f_query_reader_big, s_ebig f), (f_query_reader_signed, s_esigned f)]) (tz_ok (tz_cons (Tri.z u_query_reader_take) rfl (tz_cons (e_query_reader_must f) rfl (tz_cons (e_query_reader_text f) rfl (tz_cons (e_query_reader_comma f) rfl (tz_cons (e_query_reader_big f) rfl (tz_cons (e_query_reader_signed f) rfl tz_nil))))))) ok_query_reader_arguments (fun _ => Nat.le_of_ble_eq_true rfl) rfl (by intro g hg; cases hg) (w_e_arguments rfl rfl rfl rfl rfl rfl)
theorem e_query_reader_gatom (f : Int × Int) : TriZ (zF ty_query_fault f) Tryz.prog f_query_reader_gatom (s_egatom f).pt :=
 tri_walkRE (S := tab [(f_query_reader_take, s_rtake), (f_query_reader_name, s_ename f), (f_query_reader_must, s_emust f), (f_query_reader_text, s_etext f), (f_query_reader_fold, s_rfold), (f_query_function, s_function), (f_query_reader_arguments, s_eargs f)]) (tz_ok (tz_cons (Tri.z u_query_reader_take) rfl (tz_cons (e_query_reader_name f) rfl (tz_cons (e_query_reader_must f) rfl (tz_cons (e_query_reader_text f) rfl (tz_cons (Tri.z u_query_reader_fold) rfl (tz_cons (Tri.z v_query_function) rfl (tz_cons (e_query_reader_arguments f) rfl tz_nil)))))))) ok_query_reader_gatom (fun _ => Nat.le_of_ble_eq_true rfl) rfl (by intro g hg; cases hg) (w_e_gatom rfl rfl rfl rfl rfl rfl rfl)
theorem e_gand {f : Int × Int} {N : Rdr → Out (Rdr × Glob)} (h : TriZ (zF ty_query_fault f) Tryz.prog f_query_reader_gnot (s_egnot f N).pt) : TriZ (zF ty_query_fault f) Tryz.prog f_query_reader_gand (s_egand f N).pt :=
 tri_walkRE (S := tab [(f_query_reader_take, s_rtake), (f_query_reader_gnot, s_egnot f N), (f_query_globs, s_globs)]) (tz_ok (tz_cons (Tri.z u_query_reader_take) rfl (tz_cons h rfl (tz_cons (Tri.z v_query_globs) rfl tz_nil)))) ok_query_reader_gand (fun _ => Nat.le_of_ble_eq_true rfl) rfl (by intro g hg; cases hg) (w_e_gand N rfl rfl rfl)
theorem e_gor {f : Int × Int} {N : Rdr → Out (Rdr × Glob)} (h : TriZ (zF ty_query_fault f) Tryz.prog f_query_reader_gnot (s_egnot f N).pt) : TriZ (zF ty_query_fault f) Tryz.prog f_query_reader_gor (s_egor f N).pt :=
 tri_walkRE (S := tab [(f_query_reader_take, s_rtake), (f_query_reader_gand, s_egand f N), (f_query_globs, s_globs)]) (tz_ok (tz_cons (Tri.z u_query_reader_take) rfl (tz_cons (e_gand h) rfl (tz_cons (Tri.z v_query_globs) rfl tz_nil)))) ok_query_reader_gor (fun _ => Nat.le_of_ble_eq_true rfl) rfl (by intro g hg; cases hg) (w_e_gor N rfl rfl rfl)
theorem e_gnot (f : Int × Int) : ∀ n, TriZ (zF ty_query_fault f) Tryz.prog f_query_reader_gnot (s_egnot f (gnotEN n)).pt
 | 0 => re_void fun _ _ => rfl
 | n + 1 => tri_walkRE (S := tab [(f_query_reader_take, s_rtake), (f_query_reader_gnot, s_egnot f (gnotEN n)), (f_query_reader_must, s_emust f), (f_query_reader_gor, s_egor f (gnotEN n)), (f_query_reader_gatom, s_egatom f)]) (tz_ok (tz_cons (Tri.z u_query_reader_take) rfl (tz_cons (e_gnot f n) rfl (tz_cons (e_query_reader_must f) rfl (tz_cons (e_gor (e_gnot f n)) rfl (tz_cons (e_query_reader_gatom f) rfl tz_nil)))))) ok_query_reader_gnot (fun _ => Nat.le_of_ble_eq_true rfl) rfl (by intro g hg; cases hg) (w_e_gnot (gnotEN n) rfl rfl rfl rfl rfl)
theorem e_query_reader_query (f : Int × Int) : TriZ (zF ty_query_fault f) Tryz.prog f_query_reader_query (s_equery f 500).pt :=
 tri_walkRE (S := tab [(f_query_reader_next, s_rnext), (f_query_reader_alt, s_ealt f (altEN 500)), (f_query_reader_take, s_rtake), (f_query_reader_sign, s_rsign), (f_query_reader_word, s_rword), (f_query_filterWords, s_qfilts), (f_query_reader_gor, s_egor f (gnotEN 500)), (f_slices_Index_string, s_idx_string), (f_query_reader_wrong, s_ewrong f), (f_query_reader_name, s_ename f), (f_query_strategyWords, s_qstrats)]) (tz_ok (tz_cons (Tri.z u_query_reader_next) rfl (tz_cons (e_alt f 500) rfl (tz_cons (Tri.z u_query_reader_take) rfl (tz_cons (Tri.z u_query_reader_sign) rfl (tz_cons (Tri.z u_query_reader_word) rfl (tz_cons (Tri.z u_query_filterWords) rfl (tz_cons (e_gor (e_gnot f 500)) rfl (tz_cons (Tri.z u_slices_Index_string) rfl (tz_cons (e_query_reader_wrong f) rfl (tz_cons (e_query_reader_name f) rfl (tz_cons (Tri.z v_query_strategyWords) rfl tz_nil)))))))))))) ok_query_reader_queryE (fun _ => Nat.le_of_ble_eq_true rfl) rfl (by intro g hg; have hg : g ∈ [f_query_filterWords] := hg; simp at hg; subst hg; exact ⟨by decide, u_query_filterWords⟩) (w_e_query 500 rfl rfl rfl rfl rfl rfl rfl rfl rfl rfl rfl)
theorem u_query_ParseE : Tri Tryz.prog f_query_Parse s_eParse.pt := t_query_ParseE e_query_reader_query
end Go.Gv

namespace Go.Gv
section
variable {α β : Type} {F0 : Option β} {K : α → Prop}
theorem pB {o : Option α} {k : α → Option β} (hf : ∃ r, F0 = some r) (e : F0 = o.bind k) (h : ∀ x, F0 = k x → K x) : optX o K := by
 cases o with
 | some x => exact h x e
 | none => obtain ⟨r, hr⟩ := hf; rw [hr] at e; cases e
theorem pM {o : Option α} {k : α → β} (hf : ∃ r, F0 = some r) (e : F0 = o.map k) (h : ∀ x, F0 = some (k x) → K x) : optX o K := by
 cases o with
 | some x => exact h x e
 | none => obtain ⟨r, hr⟩ := hf; rw [hr] at e; cases e
theorem pE {o : Option β} {K : β → Prop} (hf : ∃ r, F0 = some r) (e : F0 = o) (h : ∀ x, F0 = some x → K x) : optX o K := by
 cases o with
 | some x => exact h x e
 | none => obtain ⟨r, hr⟩ := hf; rw [hr] at e; cases e
theorem pNo {A : Prop} (hf : ∃ r, F0 = some r) (e : F0 = none) : A := by obtain ⟨r, hr⟩ := hf; rw [hr] at e; cases e
end
theorem obind_map {α β γ : Type} (o : Option α) (k : α → Option β) (g : β → γ) : (o.bind k).map g = o.bind fun x => (k x).map g := by cases o <;> rfl
theorem obind_bind {α β γ : Type} (o : Option α) (k : α → Option β) (g : β → Option γ) : (o.bind k).bind g = o.bind fun x => (k x).bind g := by cases o <;> rfl
theorem omap_bind {α β γ : Type} (o : Option α) (k : α → β) (g : β → Option γ) : (o.map k).bind g = o.bind fun x => g (k x) := by cases o <;> rfl
theorem omap_map {α β γ : Type} (o : Option α) (k : α → β) (g : β → γ) : (o.map k).map g = o.map fun x => g (k x) := by cases o <;> rfl
section
variable {Y Z : Type}
/-- What a walk through a method of the parser shows. -/
abbrev WalkPF (cc : CC) (rs : List CRes) (S : Nat → Spc) (A : Arg Z) (er : Y → D) (F : Pst → Z → Option (Pst × Y)) : Prop := WalkPS cc rs S A er (fun s z => ∃ r, F s z = some r) (fun s z s' y => F s z = some (s', y))
end
section
variable {β : Type} {F0 : Option β} {K : Bool → Prop}
theorem isF_rng {s : Pst} {k : Int} {t : B} (h : isF s k t = some true) : InR .i64 (s.pos + 1) := by
 unfold isF at h
 split at h
 ·cases h
 ·obtain ⟨x, hx, _⟩ := Option.map_eq_some_iff.1 h
  unfold nowT at hx
  split at hx
  ·have := lt_at hx
   simp only [InR]
   omega
  ·cases hx
theorem pIs {s : Pst} {k : Int} {t : B} {g : Bool → Option β} (hf : ∃ r, F0 = some r) (e : F0 = (isF s k t).bind g) (h1 : InR .i64 (s.pos + 1) → F0 = g true → K true) (h2 : F0 = g false → K false) : optX (isF s k t) K := by
 cases h : isF s k t with
 | none => rw [h] at e; exact pNo hf e
 | some b =>
   rw [h] at e
   cases b with
   | true => exact h1 (isF_rng h) e
   | false => exact h2 e
end
section
variable {β : Type} {F0 : Option β} {K : Pst × Int → Prop}
theorem foldG_rng : ∀ (l : List UInt8) (n : Int), 0 ≤ n → n ≤ 1000000 → (∀ c ∈ l, 48 ≤ c.toNat ∧ c.toNat ≤ 57) → 0 ≤ l.foldl digitG n ∧ l.foldl digitG n ≤ 1000000
 | [], n, h0, h1, _ => ⟨h0, h1⟩
 | c :: l, n, h0, h1, h => by
   have := h c (by simp)
   exact foldG_rng l _ (by unfold digitG; omega) (by unfold digitG; omega) fun x hx => h x (by simp [hx])
theorem numberG_rng {s : Pst} {l a : Int} {r : Pst × Int} (h : numberG s l a = some r) : 0 ≤ r.2 ∧ r.2 ≤ 1000000 := by
 unfold numberG at h
 obtain ⟨w, _, h⟩ := Option.bind_eq_some_iff.1 h
 split at h
 ·rename_i hd
  cases h
  refine foldG_rng _ 0 (by omega) (by omega) fun c hc => ?_
  unfold digsB at hd
  rw [List.all_eq_true] at hd
  simpa using hd c hc
 ·cases h
theorem pNu {s : Pst} {l a : Int} {k : Pst × Int → Option β} (hf : ∃ r, F0 = some r) (e : F0 = (numberG s l a).bind k) (h : ∀ x, 0 ≤ x.2 ∧ x.2 ≤ 1000000 → F0 = k x → K x) : optX (numberG s l a) K := by
 cases hn : numberG s l a with
 | none => rw [hn] at e; exact pNo hf e
 | some x => rw [hn] at e; exact h x (numberG_rng hn) e
theorem pNuM {s : Pst} {l a : Int} {k : Pst × Int → β} (hf : ∃ r, F0 = some r) (e : F0 = (numberG s l a).map k) (h : ∀ x, 0 ≤ x.2 ∧ x.2 ≤ 1000000 → F0 = some (k x) → K x) : optX (numberG s l a) K := by
 cases hn : numberG s l a with
 | none => rw [hn] at e; exact pNo hf e
 | some x => rw [hn] at e; exact h x (numberG_rng hn) e
end
@[simp] theorem preBx_ps {Y Z : Type} (A : Arg Z) (er : Y → D) (F : Pst → Z → Option (Pst × Y)) (i b : Nat) (dst : Option Nat) (ds : List D) (H : HMap) (K : D → HMap → Prop) : preBx i dst (psF A er F) (.bptr i b 0 :: ds) H K = psFX er F i b (H i) (A.dec ds) H K := by
 rw [← psF_pt A er F (dst.getD 0)]
 exact propext ⟨fun h => h.2, fun h => ⟨isBx_bp fun _ _ e => cePst_inj e, h⟩⟩
end Go.Gv
