/- A part of the framework and of the walks: W11 W12 W4 W5 W6 W7 W8 W13 T18 W14 T19 W15 T20 W16 W9 W42 T21 T22. -/
import Derived.Test.YtaiffcbkmgfklaaGreatDoorGw12
set_option linter.unusedSimpArgs false
set_option linter.unusedVariables false
set_option maxRecDepth 100000
set_option linter.unusedSectionVars false

namespace Go.Gv
open Cod (enc dec)

theorem list_flatR {tp I tp' I' : Nat → Prop} {w w' : World} {s : Value} {es : List D} (hes : ∀ d ∈ es, ∃ n, d = .v (.int .i64 n)) (h : R tp I w s (.list 1 es)) (hI : ∀ c, I c → I' c ∧ w'.heap[c]? = w.heap[c]?) : R tp' I' w' s (.list 1 es) := by
 cases h with
 | nolist a cap _ => exact .nolist _ _ _
 | list b off cap n es f hb hc hm hn hcell h1 h2 =>
   refine .list b off cap _ es f (hI b hb).1 hc hm hn (fun k c hk => by rw [World.cell?_of_block (w := w) (hI b hb).2]; exact hcell k c hk) h1 (fun k c hk => ?_)
   have hc' := List.mem_of_getElem? hk
   simp only [flat, List.mem_flatMap] at hc'
   obtain ⟨d, hd, hcd⟩ := hc'
   obtain ⟨n, rfl⟩ := hes d hd
   simp [D.cells] at hcd
   subst hcd
   have := h2 k _ hk
   generalize f k = y at this ⊢
   cases this with
   | v _ a1 a2 => exact .v _ a1 a2

theorem comp_seq {P : Program} {im : List Nat} {N : Nat} {code : Code} {a b : CC} (h : compileC P im N code = some (.seq a b)) : ∃ x y, code = .seq x y ∧ compileC P im N x = some a ∧ compileC P im N y = some b := by
 rcases compile_inv h with ⟨h, _⟩ | ⟨_, _, _, _, h, _⟩ | ⟨_, _, _, _, _, h⟩ | ⟨a', b', x, y, h1, h2, h3, h4⟩ | ⟨_, _, _, _, _, _, h, _⟩ | ⟨_, _, _, _, h, _⟩ | ⟨_, _, _, h, _⟩ | ⟨_, _, h⟩ | ⟨_, h⟩ <;> try (simp at h; done)
 cases h2
 exact ⟨a', b', h1, h3, h4⟩

abbrev s_m_Next : Spc := spc (aT (a1 Int)) (fun x => x.2 ≤ 1000000000) (enc (X := Int)) (fun x y => x.2 < 1 ∧ y = 0 ∨ 1 ≤ x.2 ∧ 0 ≤ y ∧ y < x.2)

section
variable {P : Program} {S : Nat → Spc} {f : Nat} {im : List Nat} {N : Nat}
theorem tri_next (hS : ∀ f, Tri P f (S f).pt) (hm : S f_m_Mod = s_m_Mod) (h : FnOk P f im cc_m_Tape_Next rs_m_Tape_Next N) (hN : 2 ≤ N) : Tri P f s_m_Next.pt := by
 obtain ⟨mix, enter, fn, code, h1, h2, h3, h4, h5⟩ := h
 subst h3
 rw [nx_strip] at h4
 obtain ⟨x0, y0, rfl, hc0, h4⟩ := comp_seq h4
 obtain ⟨xA, yA, rfl, hcA, h4⟩ := comp_seq h4
 obtain ⟨xB, xC, rfl, hcB, hcC⟩ := comp_seq h4
 intro O tp w vs ds H d K hO htl hsat hlen hargs hA
 refine ⟨enter, calls_of_wp h1 h2 ?_⟩
 simp only [s_m_Next, spc_pt] at hA
 cases hd : (aT (a1 Int)).dec ds with
 | none => rw [hd] at hA; exact hA.elim
 | some x =>
 rw [hd] at hA
 obtain ⟨L, n⟩ := x
 obtain ⟨hp, hK⟩ := hA
 have hl := (aT (a1 Int)).le ds (L, n) hd
 have hl1 : ds.length = 2 := hl.1
 match ds, vs, hl, hl1, hlen, hargs with
 | [d0, d1], [v0, v1], hl, _, _, hargs =>
 have e0 : d0 = .tape L := by
  have := hl.2 0 d0 (.tape L) rfl rfl
  cases this; rfl
 have e1 : d1 = .v (.int .i64 n) := by
  have := hl.2 1 d1 (.v (.int .i64 n)) rfl rfl
  cases this; rfl
 subst e0; subst e1
 have r1 := (hargs 1 v1 _ rfl rfl).inv_v
 subst r1
 have r0 := hargs 0 v0 _ rfl rfl
 cases r0 with
 | tape b _ s i el hb hh g0 g1 gs hR =>
 obtain ⟨a, len, cap, rfl⟩ : ∃ a len cap, s = .slice a len cap := by
  generalize L.map (fun n => D.v (.int .i64 n)) = es at hR
  cases hR <;> exact ⟨_, _, _, rfl⟩
 have hlen : (len : Int) ≤ 9223372036854775807 := by
  generalize L.map (fun n => D.v (.int .i64 n)) = es at hR
  cases hR with
  | nolist => simp
  | list b off cap n es f hI hc hm => simp only [maxLen] at hm; omega
 have hLl : len = L.length := gs
 have hbl := htl b hb
 -- the first piece: the tape's memory is the frame's own
 let O2 : Nat → Prop := fun x => (O x ∨ owns H x) ∧ x ≠ b
 let tp2 : Nat → Prop := fun x => tp x ∧ x ≠ b
 let E2 : Env := { O := O2, tp0 := tp2, w0 := w, own0 := fun x => x = b, N := fn.ntmps }
 let H2 : HMap := updH noH 0 (some (.box b [.v (.slice a len cap), .v (.int .i64 i)]))
 have hownlt : ∀ c, owns H c → c < w.heap.size := fun c ⟨j, r, k1, k2⟩ => (hsat.ok j r k1).lt k2
 have h2 : ∀ j r, H2 j = some r → j = 0 ∧ r = .box b [.v (.slice a len cap), .v (.int .i64 i)] := fun j r hj => by
  by_cases e : j = 0
  ·subst e
   simp only [H2, updH, if_true] at hj
   cases hj
   exact ⟨rfl, rfl⟩
  ·simp [H2, updH, e, noH] at hj
 have hst : St E2 (initS [.bptr 0 b 0, .v (.int .i64 n)]) H2 { tmps := #[.pointer (some ⟨b, 0, none⟩), .int .i64 n] ++ Array.replicate (fn.ntmps - 2) undef, defers := [] } w := by
  refine ⟨rfl, ?_, tp2, ⟨fun c hc => hc.1.elim (hO c) (hownlt c), fun c hc => hc, fun c hc => .inl hc, fun c hc => htl c hc.1, .refl _ _ _, fun c ⟨j, r, k1, k2⟩ => ?_, ⟨fun j k r q c k1 k2 k3 k4 => ?_, fun j r c k1 k2 => ?_, fun j r k1 => ?_⟩⟩, fun t => ?_⟩
  ·show (_ : Array Value).size = fn.ntmps
   simp
   omega
  ·obtain ⟨_, rfl⟩ := h2 j r k1
   cases k2
   exact .inl rfl
  ·rw [(h2 j r k1).1, (h2 k q k2).1]
  ·obtain ⟨_, rfl⟩ := h2 j r k1
   cases k2
   exact ⟨fun h => h.2 rfl, fun h => h.2 rfl⟩
  ·obtain ⟨_, rfl⟩ := h2 j r k1
   refine ⟨_, el, hh, rfl, fun k y c hy hc => ?_⟩
   rcases k with _ | _ | k
   ·simp at hy hc; subst hy; subst hc; exact ⟨rfl, .v _ rfl (fun s hs => by cases hs)⟩
   ·simp at hy hc; subst hy; subst hc; exact ⟨rfl, .v _ rfl (fun s hs => by cases hs)⟩
   ·simp at hy
  ·have q0 : (#[Value.pointer (some ⟨b, 0, none⟩), .int .i64 n] ++ Array.replicate (fn.ntmps - 2) undef).getD 0 undef = Value.pointer (some ⟨b, 0, none⟩) := by
    rw [Array.getD_eq_getD_getElem?, Array.getElem?_append_left (by simp)]; rfl
   have q1 : (#[Value.pointer (some ⟨b, 0, none⟩), .int .i64 n] ++ Array.replicate (fn.ntmps - 2) undef).getD 1 undef = Value.int .i64 n := by
    rw [Array.getD_eq_getD_getElem?, Array.getElem?_append_left (by simp)]; rfl
   rcases t with _ | _ | t
   ·show R _ _ _ (Array.getD _ 0 undef) _
    rw [q0]; exact .bptr _ _ _
   ·show R _ _ _ (Array.getD _ 1 undef) _
    rw [q1]; exact .v _ rfl (fun s hs => by cases hs)
   ·exact .any _
 -- what is known when the frame has left the tape's place at j
 have fin : ∀ (w2 : World) (j y : Int) (el' : Nat), w2.os = w.os → w2.tape = w.tape → w2.output = w.output → w.heap.size ≤ w2.heap.size → (∀ c, c < w.heap.size → ¬ tp c → w2.heap[c]? = w.heap[c]?) →
  (∀ c, tp c → c ≠ b → TapeStep w w2 c) → w2.heap[b]? = some (.cells #[.slice a len cap, .int .i64 j] el' (0, 0)) → 0 ≤ j → j ≤ len → w.drawn ≤ w2.drawn →
  (n < 1 ∧ y = 0 ∨ 1 ≤ n ∧ 0 ≤ y ∧ y < n) → Left O tp H w K (.returned (.int .i64 y)) w2 := by
  intro w2 j y el' s1 s2 s3 s4 s5 s6 s7 s8 s9 s11 s10
  have htapes : ∀ c, tp c → TapeStep w w2 c := fun c hc => by
   by_cases e : c = b
   ·subst e
    intro s' i' el0 hh' _ _
    rw [hh] at hh'
    cases hh'
    exact ⟨j, el', s7, s8, s9⟩
   ·exact s6 c hc e
  refine ⟨_, .v (.int .i64 y), H, tp, rfl, hK y s10, fun c hc => hc, fun c hc => .inl hc, fun c hc => Nat.lt_of_lt_of_le (htl c hc) s4, ⟨s1, s2, s3, s4, fun c hc _ ht => s5 c hc ht, htapes, s11⟩, fun c hc => .inl hc,
   ⟨hsat.dis, hsat.out, fun k r hk => (hsat.ok k r hk).conv (fun x d hr => hr.mono (fun _ h => h) (fun c hc => ⟨⟨Nat.lt_of_lt_of_le hc.1 s4, hc.2.1, hc.2.2.1, hc.2.2.2⟩, s5 c hc.1 hc.2.2.1⟩) htapes) (fun c hc => s5 c ((hsat.ok k r hk).lt hc) (hsat.out k r c hk hc).2)⟩, .v _ rfl (fun s hs => by cases hs)⟩
 have hv := nx_head (S := S) b a len cap i n g0 hlen
 have cells2 : ∀ (tp' : Nat → Prop) (H' : HMap) (w' : World) (j : Int), StW E2 tp' H' w' → H' 0 = some (.box b [.v (.slice a len cap), .v (.int .i64 j)]) → ∃ el', w'.heap[b]? = some (.cells #[.slice a len cap, .int .i64 j] el' (0, 0)) := by
  intro tp' H' w' j hw hH
  obtain ⟨xs, el', k1, k2, k3⟩ := hw.sat.ok 0 _ hH
  refine ⟨el', ?_⟩
  rw [k1]
  obtain ⟨l⟩ := xs
  match l, k2, k3 with
  | [x, y], _, k3 =>
    have a1 := (k3 0 x _ rfl rfl).2.inv_v
    have a2 := (k3 1 y _ rfl rfl).2.inv_v
    rw [a1, a2]
 have hret : ∀ (a' : Act) (w' : World) (σ' : Sg) (H' : HMap), St E2 σ' H' a' w' → nxK b (.slice a len cap) i n .ret σ' H' → a'.defers = [] ∧ ∃ v, (results fn a'.tmps).run P w' = .ok v w' ∧ Left O tp H w K (.returned v) w' := by
  rintro a' w' σ' H' ⟨hd', hN', tp', hw', hr'⟩ ⟨k1, k2⟩
  obtain ⟨v, r0, hrun, hRv, hq⟩ := results_sound (H := H') (K := fun r => r = .v (.int .i64 0)) h5 hr' hw'.sat.ok k1
  subst hq
  have := hRv.inv_v
  subst this
  obtain ⟨el', k3⟩ := cells2 tp' H' w' i hw' k2
  have st := hw'.step
  refine ⟨hd', _, hrun, fin w' i 0 el' st.os st.tape st.output st.size (fun c hc ht => st.same c hc (fun e => ht (e ▸ hb)) (fun h => ht h.1)) (fun c hc hcb => st.tapes c ⟨hc, hcb⟩) k3 g0 g1 st.drawn ?_⟩
  rcases Int.lt_or_le n 1 with h | h
  ·exact .inl ⟨h, rfl⟩
  ·exact .inr ⟨h, by omega, by omega⟩
 have htail : ∀ (a' : Act) (w' : World) (σ' : Sg) (H' : HMap), St E2 σ' H' a' w' → nxK b (.slice a len cap) i n .norm σ' H' → xC.wp P (bodyPost P fn (Left O tp H w K)) a' w' := by
  rintro a1 w1 σ1 H1 ⟨hd1, hN1, tp1, hw1, hr1⟩ ⟨k1, k2, k3, k4⟩
  obtain ⟨el1, k5⟩ := cells2 tp1 H1 w1 (i + 1) hw1 k3
  have st1 := hw1.step
  have hsz1 : w.heap.size ≤ w1.heap.size := st1.size
  have same1 : ∀ c, c < w.heap.size → ¬ tp c → w1.heap[c]? = w.heap[c]? := fun c hc ht => st1.same c hc (fun e => ht (e ▸ hb)) (fun h => ht h.1)
  have tp1o : ∀ c, c < w.heap.size → tp1 c → tp2 c := fun c hc h => (hw1.tpn c h).elim id (fun h => by
   have h : w.heap.size ≤ c := h
   omega)
  have hb1 : ¬ tp1 b := fun h => (tp1o b hbl h).2 rfl
  let E3 : Env := { O := O2, tp0 := tp1, w0 := w1, own0 := fun _ => False, N := fn.ntmps }
  have himm : ∀ c, Imm O tp H w c → Imm O2 tp1 noH w1 c ∧ w1.heap[c]? = w.heap[c]? := fun c hc => ⟨⟨Nat.lt_of_lt_of_le hc.1 hsz1, fun h => h.1.elim hc.2.1 hc.2.2.2, fun h => hc.2.2.1 (tp1o c hc.1 h).1, fun ⟨j, r, h, _⟩ => by simp [noH] at h⟩, same1 c hc.1 hc.2.2.1⟩
  have hbi : Imm O2 tp1 noH w1 b := ⟨Nat.lt_of_lt_of_le hbl hsz1, fun h => h.2 rfl, hb1, fun ⟨j, r, h, _⟩ => by simp [noH] at h⟩
  have hRs : R tp1 (Imm O2 tp1 noH w1) w1 (.slice a len cap) (.list 1 (L.map enc)) := list_flatR (es := L.map fun n => D.v (.int .i64 n)) (fun d hd => by simp at hd; obtain ⟨n, _, rfl⟩ := hd; exact ⟨n, rfl⟩) hR himm
  have st3 : St E3 (initS [.cptr [.list 1 (L.map enc), .v (.int .i64 (i + 1))] 0, .v (.int .i64 n)]) noH a1 w1 := by
   refine ⟨hd1, hN1, tp1, ⟨fun c hc => Nat.lt_of_lt_of_le (hc.1.elim (hO c) (hownlt c)) hsz1, fun c hc => hc, fun c hc => .inl hc, hw1.tpl, .refl _ _ _, fun c ⟨j, r, k1, k2⟩ => by simp [noH] at k1, ⟨fun j k r q c k1 k2 k3 k4 => by simp [noH] at k1, fun j r c k1 k2 => by simp [noH] at k1, fun j r k1 => by simp [noH] at k1⟩⟩, fun t => ?_⟩
   rcases t with _ | _ | t
   ·have r0 := hr1 0
    rw [k1] at r0
    generalize a1.tmps.getD 0 undef = v0 at r0 ⊢
    cases r0
    obtain ⟨f, q1, q2, q3⟩ := box_cells (tp := tp1) (I := Imm O2 tp1 noH w1) (w := w1) (cells := [.list 1 (L.map enc), .v (.int .i64 (i + 1))]) k5 rfl (by
     intro k y c hy hc
     rcases k with _ | _ | k
     ·simp at hy hc; subst hy; subst hc; exact ⟨rfl, by simpa using hRs⟩
     ·simp at hy hc; subst hy; subst hc; exact ⟨rfl, .v _ rfl (fun s hs => by cases hs)⟩
     ·simp at hy)
    have := Gv.R.cptr (tp := tp1) (I := Imm O2 tp1 noH w1) b 0 [.list 1 (L.map enc), .v (.int .i64 (i + 1))] 0 f hbi q1 q2 q3
    simpa [initS] using this
   ·have r0 := hr1 1
    rw [k2] at r0
    have := r0.inv_v
    show R _ _ _ _ (.v (.int .i64 n))
    rw [this]
    exact .v _ rfl (fun s hs => by cases hs)
   ·exact .any _
  have hv3 := nx_tail (S := S) hm L i n g0 (by have : i < (len : Int) := k4; omega) hp (by omega)
  refine Code.wp_mono ?_ (vc_sound (E := E3) hS mix nxC xC (by rw [nxC_s]; exact hcC) _ _ _ _ _ st3 hv3)
  intro e a2 w2 hp2
  cases e with
  | ret =>
    obtain ⟨σ2, H2', ⟨hd2, hN2, tp2', hw2, hr2⟩, y, k6, k7⟩ := hp2
    obtain ⟨v, r0, hrun, hRv, hq⟩ := results_sound (H := H2') (K := fun r => r = .v (.int .i64 y)) h5 hr2 hw2.sat.ok k6
    subst hq
    have := hRv.inv_v
    subst this
    have st2 := hw2.step
    have hsz2 : w1.heap.size ≤ w2.heap.size := st2.size
    have same2 : ∀ c, c < w1.heap.size → ¬ tp1 c → w2.heap[c]? = w1.heap[c]? := fun c hc ht => st2.same c hc (fun h => h) ht
    refine ⟨hd2, _, hrun, fin w2 (i + 1) y el1 (st2.os.trans st1.os) (st2.tape.trans st1.tape) (st2.output.trans st1.output) (Nat.le_trans hsz1 hsz2) (fun c hc ht => ?_) (fun c hc hcb => (st1.tapes c ⟨hc, hcb⟩).trans (st2.tapes c (hw1.tpx c ⟨hc, hcb⟩))) ?_ (by omega) (by have : i < (len : Int) := k4; omega) (Nat.le_trans st1.drawn st2.drawn) k7⟩
    ·rw [same2 c (by omega) (fun h => ht (tp1o c hc h).1), same1 c hc ht]
    ·rw [same2 b (by omega) hb1, k5]
  | normal => obtain ⟨σ2, H2', _, k⟩ := hp2; exact k.elim
  | exit j => obtain ⟨σ2, H2', _, k⟩ := hp2; exact k.elim
  | goto l => exact hp2.elim
  | panic c => exact hp2.elim
  | outgrown => exact hp2.elim
 refine wp_seq (Code.wp_mono ?_ (vc_sound (E := E2) hS mix nx0 x0 (by rw [nx0_s]; exact hc0) (seqK S (.seq nxA nxB) (nxK b (.slice a len cap) i n)) _ _ _ _ hst hv))
 intro e a1 w1 hp1
 cases e with
 | normal =>
   obtain ⟨σ1, H1, st1, k1⟩ := hp1
   refine wp_seq (Code.wp_mono ?_ (vc_sound (E := E2) hS mix nxA xA (by rw [nxA_s]; exact hcA) (seqK S nxB (nxK b (.slice a len cap) i n)) _ _ _ _ st1 k1))
   intro e a1 w1 hp1
   cases e with
   | normal =>
     obtain ⟨σ1, H1, st1, k1⟩ := hp1
     refine wp_seq (Code.wp_mono ?_ (vc_sound (E := E2) hS mix nxB xB (by rw [nxB_s]; exact hcB) (nxK b (.slice a len cap) i n) _ _ _ _ st1 k1))
     intro e a1 w1 hp1
     cases e with
     | normal => obtain ⟨σ1, H1, st1, k1⟩ := hp1; exact htail a1 w1 σ1 H1 st1 k1
     | ret => obtain ⟨σ1, H1, st1, k1⟩ := hp1; exact hret a1 w1 σ1 H1 st1 k1
     | exit j => obtain ⟨σ2, H2', _, k⟩ := hp1; exact k.elim
     | goto l => exact hp1.elim
     | panic c => exact hp1.elim
     | outgrown => exact hp1.elim
   | ret => obtain ⟨σ1, H1, st1, k1⟩ := hp1; exact hret a1 w1 σ1 H1 st1 k1
   | exit j => obtain ⟨σ2, H2', _, k⟩ := hp1; exact k.elim
   | goto l => exact hp1.elim
   | panic c => exact hp1.elim
   | outgrown => exact hp1.elim
 | ret => obtain ⟨σ1, H1, st1, k1⟩ := hp1; exact hret a1 w1 σ1 H1 st1 k1
 | exit j => obtain ⟨σ2, H2', _, k⟩ := hp1; exact k.elim
 | goto l => exact hp1.elim
 | panic c => exact hp1.elim
 | outgrown => exact hp1.elim
end
end Go.Gv

namespace Go.Gv
open Cod (enc dec)
def tpBox (b : Nat) (L : List Int) : Res := .box b [.list 1 (L.map enc), .v (.int .i64 0)]
def fbPT : PT := fun d ds H K => ∃ l, (a1 (List Int)).dec ds = some l ∧ ∀ b L, K (.bptr d b 0) (updH H d (some (tpBox b L)))
def WalkFB (cc : CC) (rs : List CRes) (S : Nat → Spc) : Prop :=
 ∀ l : List Int, vc S cc (retK rs fun r H' => ∃ j b L, r = .bptr j b 0 ∧ H' j = some (tpBox b L)) (initS [enc l]) noH
section
variable {P : Program} {S : Nat → Spc} {f : Nat} {im : List Nat} {cc : CC} {rs : List CRes} {N : Nat}
theorem tri_walkFB (hS : ∀ f, Tri P f (S f).pt) (h : FnOk P f im cc rs N) (hN : 1 ≤ N) (hw : WalkFB cc rs S) : Tri P f fbPT := by
 obtain ⟨mix, enter, fn, code, h1, h2, h3, h4, h5⟩ := h
 refine tri_of_vc hS mix h1 h2 enter h3 h4 h5 ?_
 rintro ds H d K ⟨l, hd, hK⟩
 have hl := (a1 (List Int)).le ds l hd
 refine ⟨by rw [hl.1]; exact hN, _, noH, fun _ => 0, hl, fun i r h => by simp [noH] at h, fun i j r s h => by simp [noH] at h, _, hw l, ?_⟩
 rintro r H' ⟨j, b, L, rfl, hj⟩
 refine ⟨.bptr d b 0, noH, updH H d (some (tpBox b L)), fun i => if i = d then some j else none, .bptr _ _ _ _, fun j q h => by simp [noH] at h, hK b L, fun i s hi => ?_, fun i j' k s q hi hj' e1 e2 => ?_⟩
 ·by_cases e : i = d
  ·subst e
   simp only [updH, if_true] at hi
   cases hi
   simpa using hj
  ·simp only [updH, e, if_false] at hi ⊢
   exact ⟨hi, fun k q h => by simp [noH] at h⟩
 ·have a : i = d := by
   by_cases e : i = d
   ·exact e
   ·simp [e] at e1
  have b : j' = d := by
   by_cases e : j' = d
   ·exact e
   ·simp [e] at e2
  exact a.trans b.symm

abbrev s_m_New : Spc := spc (a1 (List Int)) (fun _ => True) (fun L : List Int => D.tape L) (fun _ _ => True)
theorem tri_new (hf : Tri P f fbPT) : Tri P f s_m_New.pt := by
 intro O tp w vs ds H d K hO htl hsat hlen hargs hA
 simp only [s_m_New, spc_pt] at hA
 cases hd : (a1 (List Int)).dec ds with
 | none => rw [hd] at hA; exact hA.elim
 | some l =>
 rw [hd] at hA
 obtain ⟨_, hK⟩ := hA
 have hownlt : ∀ c, owns H c → c < w.heap.size := fun c ⟨j, r, k1, k2⟩ => (hsat.ok j r k1).lt k2
 have hno : ∀ c, ¬ owns noH c := fun c ⟨j, r, h, _⟩ => by simp [noH] at h
 have himm : ∀ c, Imm O tp H w c → Imm (fun c => O c ∨ owns H c) tp noH w c := fun c hc => ⟨hc.1, fun h => h.elim hc.2.1 hc.2.2.2, hc.2.2.1, hno c⟩
 obtain ⟨c1, c2⟩ := hf (fun c => O c ∨ owns H c) tp w vs ds noH 0 (fun r H' => ∃ b L, r = .bptr 0 b 0 ∧ H' = updH noH 0 (some (tpBox b L))) (fun c hc => hc.elim (hO c) (hownlt c)) htl
  ⟨fun i j r s b h => by simp [noH] at h, fun i r b h => by simp [noH] at h, fun i r h => by simp [noH] at h⟩ hlen
  (fun k x c hx hc => (hargs k x c hx hc).mono (fun _ h => h) (fun c hc => ⟨himm c hc, rfl⟩) (fun b _ => .refl _ _)) ⟨l, hd, fun b L => ⟨b, L, rfl, rfl⟩⟩
 refine ⟨c1, c2.mono ?_⟩
 rintro e w1 ⟨x, r, H', tp', rfl, ⟨b, L, rfl, rfl⟩, tpx, tpn, tpl, st, loc, sat, hR⟩
 cases hR
 have hH : updH noH 0 (some (tpBox b L)) 0 = some (tpBox b L) := rfl
 have hbo : owns (updH noH 0 (some (tpBox b L))) b := ⟨0, _, hH, rfl⟩
 have hbs : w.heap.size ≤ b := (loc b hbo).elim (fun h => (hno b h).elim) id
 have hbl : b < w1.heap.size := (sat.ok 0 _ hH).lt rfl
 have hbtp := sat.out 0 _ b hH rfl
 have hsz : w.heap.size ≤ w1.heap.size := st.size
 have old : ∀ c, c < w.heap.size → ¬ tp c → ¬ (tp' c ∨ c = b) := fun c hc ht h => h.elim (fun h => (tpn c h).elim ht (fun h => by
  have h : w.heap.size ≤ c := h
  omega)) (fun h => by omega)
 have same : ∀ c, c < w.heap.size → ¬ tp c → w1.heap[c]? = w.heap[c]? := fun c hc ht => st.same c hc (hno c) ht
 obtain ⟨xs, el, q1, q2, q3⟩ := sat.ok 0 _ hH
 obtain ⟨xl⟩ := xs
 match xl, q2, q3, q1 with
 | [s, y], _, q3, q1 =>
 have a1' := (q3 0 s _ rfl rfl).2
 have a2 := (q3 1 y _ rfl rfl).2.inv_v
 subst a2
 have hsl : slen s = L.length := by
  generalize hes : L.map enc = es at a1'
  have hl2 : L.length = es.length := by rw [← hes]; simp
  cases a1' with
  | nolist => simp at hl2; simp [slen, hl2]
  | list => rw [hl2]; rfl
 refine ⟨_, .tape L, H, fun c => tp' c ∨ c = b, rfl, hK L trivial, fun c hc => .inl (tpx c hc), fun c hc => hc.elim (tpn c) (fun e => .inr (e ▸ hbs)), fun c hc => hc.elim (tpl c) (fun e => e ▸ hbl),
  ⟨st.os, st.tape, st.output, st.size, fun c hc _ ht => same c hc ht, st.tapes, st.drawn⟩, fun c hc => .inl hc,
  ⟨hsat.dis, fun i r c hi hc => ⟨(hsat.out i r c hi hc).1, old c ((hsat.ok i r hi).lt hc) (hsat.out i r c hi hc).2⟩, fun i r hi => (hsat.ok i r hi).conv (fun x d hr => hr.mono (fun c hc => .inl (tpx c hc)) (fun c hc => ⟨⟨Nat.lt_of_lt_of_le hc.1 hsz, hc.2.1, old c hc.1 hc.2.2.1, hc.2.2.2⟩, same c hc.1 hc.2.2.1⟩) st.tapes) (fun c hc => same c ((hsat.ok i r hi).lt hc) (hsat.out i r c hi hc).2)⟩, ?_⟩
 refine .tape b L s 0 el (.inr rfl) q1 (by omega) (by omega) hsl ?_
 have a3 : R tp' (Imm (fun c => O c ∨ owns H c) tp' (updH noH 0 (some (tpBox b L))) w1) w1 s (.list 1 (L.map fun n => D.v (.int .i64 n))) := a1'
 exact list_flatR (fun d hd => by simp at hd; obtain ⟨n, _, rfl⟩ := hd; exact ⟨n, rfl⟩) a3 (fun c hc => ⟨⟨hc.1, fun h => hc.2.1 (.inl h), fun h => h.elim hc.2.2.1 (fun e => hc.2.2.2 (e ▸ hbo)), fun h => hc.2.1 (.inr h)⟩, rfl⟩)
end
end Go.Gv

namespace Go.Gv
open Cod (enc dec)
variable {S S0 : Nat → Spc}

end Go.Gv

namespace Go.Gv
open Cod (enc dec)
variable {S S0 : Nat → Spc}


theorem take_enc {X : Type} [Cod X] (l : List X) (k : Nat) : List.take k (List.map enc l) = List.map enc (List.take k l) := List.map_take.symm
end Go.Gv

namespace Go.Gv
open Cod (enc dec)
variable {S S0 : Nat → Spc}
end Go.Gv

namespace Go.Gv
open Cod (enc dec)
variable {S S0 : Nat → Spc}

end Go.Gv

namespace Go.Gv
open Cod (enc dec)
variable {S S0 : Nat → Spc}
/-- A list whose rear part is changed step by step. -/
def mix {X : Type} (f : X → X) (a b : List X) (j : Nat) : List X := a ++ ((b.take j).map f ++ b.drop j)
end Go.Gv

namespace Go.Gv
open Cod (enc dec)
variable {S S0 : Nat → Spc}
end Go.Gv

namespace Go.Gv

/-- r is known at least as well as r' (Hf: what is given up). -/
def RFz (Hf : HMap) : Res → Res → Prop
 | .box b cs, .box b' cs' => b = b' ∧ cs.length = cs'.length ∧ ∀ (m : Nat) (c c' : D), cs[m]? = some c → cs'[m]? = some c' → FrzTo Hf c c'
 | .row x el n es, .row x' el' n' es' => x = x' ∧ el = el' ∧ n = n' ∧ es.length = es'.length ∧ (∀ d ∈ es', d.kn = true ∧ d.cells.length = n) ∧ ∀ (m : Nat) (c c' : D), es[m]? = some c → es'[m]? = some c' → ∀ (j : Nat) (e e' : D), c.cells[j]? = some e → c'.cells[j]? = some e' → FrzTo Hf e e'
 | .tbox el b cs, .tbox el' b' cs' => el = el' ∧ b = b' ∧ cs.length = cs'.length ∧ ∀ (m : Nat) (c c' : D), cs[m]? = some c → cs'[m]? = some c' → FrzTo Hf c c'
 | r, r' => r = r'

theorem RFz.blk {Hf : HMap} {r r' : Res} (h : RFz Hf r r') : r'.blk = r.blk := by
 cases r <;> cases r' <;> simp only [RFz] at h
 ·obtain ⟨rfl, _⟩ := h; rfl
 all_goals first
  | (obtain ⟨rfl, rfl, rfl, _⟩ := h; rfl)
  | (obtain ⟨rfl, rfl, _⟩ := h; rfl)
  | (cases h; done)
  | (cases h; rfl)

theorem RFz.ok {tp I I' : Nat → Prop} {w : World} {Hf : HMap} {r r' : Res} (h : RFz Hf r r') (hr : ResOk (R tp I w) w r) (hok : ∀ i q, Hf i = some q → ResOk (R tp I w) w q) (hI : ∀ b, I b → I' b) (hb : ∀ i q b, Hf i = some q → q.blk = some b → I' b) : ResOk (R tp I' w) w r' := by
 have fz : ∀ {c c' : D} {y : Value}, FrzTo Hf c c' → R tp I w y c → R tp I' w y c' := fun h hr => h.R (H := noH) hok hI hb hr
 have same : ResOk (R tp I' w) w r := hr.conv (fun x d hr => hr.mono (fun _ h => h) (fun b hb => ⟨hI b hb, rfl⟩) (fun b _ => .refl _ _)) (fun _ _ => rfl)
 cases r with
 | box b cs =>
   cases r' with
   | box b' cs' =>
     obtain ⟨rfl, hl, hc⟩ := h
     obtain ⟨xs, el, h1, h2, h3⟩ := hr
     refine ⟨xs, el, h1, h2.trans hl, fun k y c hy hc' => ?_⟩
     have hk : k < cs.length := by rw [hl]; exact (List.getElem?_eq_some_iff.1 hc').1
     have h4 := h3 k y cs[k] hy (List.getElem?_eq_getElem hk)
     exact ⟨h4.1, fz (hc k _ _ (List.getElem?_eq_getElem hk) hc') h4.2⟩
   | row x el n es => cases h
   | iter b s p => cases h
   | tbox b s p => cases h
 | iter b s p =>
   cases r' with
   | box b' cs' => cases h
   | row x el n es => cases h
   | iter b' s' p' => cases h; exact same
   | tbox b' s' p' => cases h
 | tbox b s p =>
   cases r' with
   | box b' cs' => cases h
   | row x el n es => cases h
   | iter b' s' p' => cases h
   | tbox b' s' cs' =>
     obtain ⟨rfl, rfl, hl, hc⟩ := h
     obtain ⟨xs, h1, h2, h3⟩ := hr
     refine ⟨xs, h1, h2.trans hl, fun k y c hy hc' => ?_⟩
     have hk : k < p.length := by rw [hl]; exact (List.getElem?_eq_some_iff.1 hc').1
     have h4 := h3 k y p[k] hy (List.getElem?_eq_getElem hk)
     exact ⟨h4.1, fz (hc k _ _ (List.getElem?_eq_getElem hk) hc') h4.2⟩
 | row x el n es =>
   cases r' with
   | box b' cs' => cases h
   | iter b' s' p' => cases h
   | tbox b' s' p' => cases h
   | row x' el' n' es' =>
     obtain ⟨rfl, rfl, rfl, hl, hkn, hc⟩ := h
     obtain ⟨xs, h1, h2, h3⟩ := hr
     refine ⟨xs, hl ▸ h1, hkn, fun k y c hy hc' => ?_⟩
     have hw : ∀ d ∈ es, d.cells.length = n := fun d hd => (h2 d hd).2
     have hw' : ∀ d ∈ es', d.cells.length = n := fun d hd => (hkn d hd).2
     have hfl := flat_length hw
     have hfl' := flat_length hw'
     have hk : k < (flat es).length := by
      have := (List.getElem?_eq_some_iff.1 hc').1
      rw [hfl, hl, ← hfl']; exact this
     have hk2 : k < es.length * n := by rw [← hfl]; exact hk
     have hn : 0 < n := by
      rcases Nat.eq_zero_or_pos n with e | e
      ·subst e; simp at hk2
      ·exact e
     have h4 := h3 k y (flat es)[k] hy (List.getElem?_eq_getElem hk)
     refine ⟨h4.1, fz ?_ h4.2⟩
     have hdm : k = (k / n) * n + k % n := by have := Nat.div_add_mod k n; rw [Nat.mul_comm] at this; omega
     have hmod : k % n < n := Nat.mod_lt _ hn
     have g1 := flat_get hw (i := k / n) (j := k % n) hmod
     have g2 := flat_get hw' (i := k / n) (j := k % n) hmod
     rw [← hdm] at g1 g2
     rw [hc'] at g2
     rw [List.getElem?_eq_getElem hk] at g1
     cases e1 : es[k / n]? with
     | none => rw [e1] at g1; cases g1
     | some c1 =>
       cases e2 : es'[k / n]? with
       | none => rw [e2] at g2; cases g2
       | some c2 =>
         rw [e1] at g1
         rw [e2] at g2
         exact hc _ c1 c2 e1 e2 _ _ _ g1.symm g2.symm
def RFe (Hf : HMap) (r r' : Res) : Prop := r = r' ∨ RFz Hf r r'
theorem RFe.blk {Hf : HMap} {r r' : Res} (h : RFe Hf r r') : r'.blk = r.blk := by
 rcases h with rfl | h
 ·rfl
 ·exact h.blk
theorem RFe.ok {tp I I' : Nat → Prop} {w : World} {Hf : HMap} {r r' : Res} (h : RFe Hf r r') (hr : ResOk (R tp I w) w r) (hok : ∀ i q, Hf i = some q → ResOk (R tp I w) w q) (hI : ∀ b, I b → I' b) (hb : ∀ i q b, Hf i = some q → q.blk = some b → I' b) : ResOk (R tp I' w) w r' := by
 rcases h with rfl | h
 ·exact hr.conv (fun x d hr => hr.mono (fun _ h => h) (fun b hb => ⟨hI b hb, rfl⟩) (fun b _ => .refl _ _)) (fun _ _ => rfl)
 ·exact h.ok hr hok hI hb
theorem isNilRow.blk' {r : Res} (h : isNilRow r) : r.blk = none := by
 cases r with
 | box b c => exact h.elim
 | iter b s p => exact h.elim
 | tbox b s p => exact h.elim
 | row x el n es => obtain ⟨rfl, rfl⟩ := h; rfl

theorem wk_all {σ σ' : Sg} {H H' Hf : HMap} (ρ : Nat → Nat) (h1 : ∀ t, FrzTo Hf (σ t) (σ' t)) (h2 : ∀ i r, H' i = some r → (∃ r0, H (ρ i) = some r0 ∧ RFe Hf r0 r) ∨ isNilRow r)
 (h3 : ∀ i j r s, H' i = some r → H' j = some s → ρ i = ρ j → i = j ∨ isNilRow r ∨ isNilRow s) (h4 : ∀ i r, Hf i = some r → H i = some r ∧ ∀ j r', H' j = some r' → ρ j = i → isNilRow r') : Wk σ H σ' H' := by
 intro E a w ⟨hd, hN, tp, h, hr⟩
 have hblk : ∀ i r c, H' i = some r → r.blk = some c → ∃ r0, H (ρ i) = some r0 ∧ r0.blk = some c ∧ ¬ isNilRow r := fun i r c k1 k2 => by
  have hn : ¬ isNilRow r := fun hn => by rw [hn.blk'] at k2; cases k2
  rcases h2 i r k1 with ⟨r0, k3, k4⟩ | k3
  ·exact ⟨r0, k3, k4.blk ▸ k2, hn⟩
  ·exact absurd k3 hn
 have hown : ∀ c, owns H' c → owns H c := fun c ⟨i, r, k1, k2⟩ => by
  obtain ⟨r0, k3, k4, _⟩ := hblk i r c k1 k2
  exact ⟨ρ i, r0, k3, k4⟩
 have himm : ∀ c, Imm E.O tp H w c → Imm E.O tp H' w c := fun c hb => ⟨hb.1, hb.2.1, hb.2.2.1, fun ho => hb.2.2.2 (hown c ho)⟩
 have hfok : ∀ i q, Hf i = some q → ResOk (R tp (Imm E.O tp H w) w) w q := fun i q hq => h.sat.ok i q (h4 i q hq).1
 have hfb : ∀ i q b, Hf i = some q → q.blk = some b → Imm E.O tp H' w b := fun i q b hq hb => by
  obtain ⟨k1, k2⟩ := h4 i q hq
  have ho := h.sat.out i q b k1 hb
  refine ⟨(h.sat.ok i q k1).lt hb, ho.1, ho.2, fun ⟨j, s, k3, k4⟩ => ?_⟩
  obtain ⟨s0, k5, k6, k7⟩ := hblk j s b k3 k4
  exact k7 (k2 j s k3 (h.sat.dis (ρ j) i s0 q b k5 k1 k6 hb))
 have move : ∀ x d, R tp (Imm E.O tp H w) w x d → R tp (Imm E.O tp H' w) w x d := fun x d hr =>
  hr.mono (fun _ h => h) (fun b hb => ⟨himm b hb, rfl⟩) (fun b _ => .refl _ _)
 refine ⟨hd, hN, tp, ⟨h.hO, h.tpx, h.tpn, h.tpl, h.step, fun b hb => h.loc b (hown b hb), ⟨fun i j r s c k1 k2 k3 k4 => ?_, fun i r c k1 k2 => ?_, fun i r k1 => ?_⟩⟩, fun t => (h1 t).R (H := noH) hfok himm hfb (hr t)⟩
 ·obtain ⟨r0, a1, a2, a3⟩ := hblk i r c k1 k3
  obtain ⟨s0, b1, b2, b3⟩ := hblk j s c k2 k4
  rcases h3 i j r s k1 k2 (h.sat.dis _ _ r0 s0 c a1 b1 a2 b2) with e | e | e
  ·exact e
  ·exact absurd e a3
  ·exact absurd e b3
 ·obtain ⟨r0, a1, a2, _⟩ := hblk i r c k1 k2
  exact h.sat.out _ r0 c a1 a2
 ·rcases h2 i r k1 with ⟨r0, k3, k4⟩ | k3
  ·exact k4.ok (h.sat.ok _ r0 k3) hfok himm hfb
  ·cases r with
   | box b c => exact k3.elim
   | iter b s p => exact k3.elim
   | tbox b s p => exact k3.elim
   | row x el n es =>
     obtain ⟨rfl, rfl⟩ := k3
     exact ⟨[], World.ownsRow_nil _ _ _ _, by simp, fun k y c h => by simp at h⟩
def MatchF (Hf : HMap) : List (Nat × D) → Sg → Prop
 | [], _ => True
 | (t, d) :: l, σ => FrzTo Hf (σ t) d ∧ MatchF Hf l σ
@[simp] theorem matchF_n (Hf : HMap) (σ : Sg) : MatchF Hf [] σ = True := id rfl
@[simp] theorem matchF_c (Hf : HMap) (t : Nat) (d : D) (l : List (Nat × D)) (σ : Sg) : MatchF Hf ((t, d) :: l) σ = (FrzTo Hf (σ t) d ∧ MatchF Hf l σ) := id rfl
/-- Resource i is what was resource j: (i, j) in rn. -/
def rnm (rn : List (Nat × Nat)) (i : Nat) : Nat := (rn.lookup i).getD i
def MatchR (Hf : HMap) (rn : List (Nat × Nat)) : List (Nat × Res) → HMap → Prop
 | [], _ => True
 | (i, r) :: l, H => ((∃ r0, H (rnm rn i) = some r0 ∧ RFe Hf r0 r) ∨ isNilRow r) ∧ MatchR Hf rn l H
@[simp] theorem matchR_n (Hf : HMap) (rn : List (Nat × Nat)) (H : HMap) : MatchR Hf rn [] H = True := id rfl
@[simp] theorem matchR_c (Hf : HMap) (rn : List (Nat × Nat)) (i : Nat) (r : Res) (l : List (Nat × Res)) (H : HMap) : MatchR Hf rn ((i, r) :: l) H = (((∃ r0, H (rnm rn i) = some r0 ∧ RFe Hf r0 r) ∨ isNilRow r) ∧ MatchR Hf rn l H) := id rfl
/-- What is given up. -/
def gvH (gv : List Nat) (H : HMap) : HMap := fun i => if i ∈ gv then H i else none
def Inj (rn : List (Nat × Nat)) (ids gv : List Nat) : Prop := (∀ i ∈ ids, ∀ j ∈ ids, rnm rn i = rnm rn j → i = j) ∧ (∀ i ∈ ids, rnm rn i ∉ gv)
instance (rn : List (Nat × Nat)) (ids gv : List Nat) : Decidable (Inj rn ids gv) := by unfold Inj; infer_instance
theorem addH_mem {l : List (Nat × Res)} {H : HMap} {i : Nat} {r : Res} (h : addH l H i = some r) : (i, r) ∈ l ∨ (i ∉ l.map (·.1) ∧ H i = some r) := by
 induction l with
 | nil => exact .inr ⟨by simp, h⟩
 | cons p l ih =>
   obtain ⟨j, q⟩ := p
   simp only [addH, updH] at h
   split at h
   ·rename_i e; subst e; cases h; exact .inl (by simp)
   ·rename_i e
    rcases ih h with h | ⟨h1, h2⟩
    ·exact .inl (by simp [h])
    ·exact .inr ⟨by simp [e, h1], h2⟩
theorem matchR_mem {Hf : HMap} {rn : List (Nat × Nat)} {l : List (Nat × Res)} {H : HMap} {i : Nat} {r : Res} (h : MatchR Hf rn l H) (hm : (i, r) ∈ l) : (∃ r0, H (rnm rn i) = some r0 ∧ RFe Hf r0 r) ∨ isNilRow r := by
 induction l with
 | nil => simp at hm
 | cons p l ih =>
   obtain ⟨j, q⟩ := p
   rcases List.mem_cons.1 hm with e | hm
   ·cases e; exact h.1
   ·exact ih h.2 hm
theorem wk_matchG {σ0 σ : Sg} {H0 H : HMap} {ks hk gv : List Nat} {rn : List (Nat × Nat)} {sl : List (Nat × D)} {hp : List (Nat × Res)} (hi : Inj rn (hp.map (·.1) ++ hk) gv) (hid : ∀ i ∈ hk, i ∉ hp.map (·.1) → rnm rn i = i)
 (h1 : MatchF (gvH gv H) sl σ) (h2 : KeptS ks σ0 σ) (h3 : MatchR (gvH gv H) rn hp H) (h4 : KeptH hk H0 H) : Wk σ H (addS sl (keepS ks σ0)) (addH hp (keepH hk H0)) := by
 have hmem : ∀ i r, addH hp (keepH hk H0) i = some r → i ∈ hp.map (·.1) ++ hk := fun i r h => by
  rcases addH_mem h with h | ⟨_, h⟩
  ·exact List.mem_append.2 (.inl (List.mem_map.2 ⟨_, h, rfl⟩))
  ·rw [keepH_at] at h
   split at h
   ·rename_i e; exact List.mem_append.2 (.inr e)
   ·cases h
 refine wk_all (Hf := gvH gv H) (rnm rn) (fun t => ?_) (fun i r h => ?_) (fun i j r s k1 k2 e => .inl (hi.1 i (hmem i r k1) j (hmem j s k2) e)) (fun i r h => ?_)
 ·clear hi hid h3 hmem
  induction sl with
  | nil =>
    rw [addS_n, keepS_at]
    split
    ·rename_i h; rw [← h2 t h]; exact .same _
    ·exact .any _
  | cons p sl ih =>
    obtain ⟨s, d⟩ := p
    simp only [addS, upd]
    split
    ·rename_i e; subst e; exact h1.1
    ·exact ih h1.2
 ·rcases addH_mem h with h | ⟨h5, h⟩
  ·exact matchR_mem h3 h
  ·rw [keepH_at] at h
   split at h
   ·rename_i e
    rw [hid i e h5, h4 i e]
    exact .inl ⟨r, h, .inl rfl⟩
   ·cases h
 ·simp only [gvH] at h
  split at h
  ·rename_i e
   exact ⟨h, fun j r' k1 k2 => absurd e (k2 ▸ hi.2 j (hmem j r' k1))⟩
  ·cases h

@[simp] theorem rnm_n (i : Nat) : rnm [] i = i := id rfl
def FzL (Hf : HMap) : List D → List D → Prop
 | [], [] => True
 | a :: l, b :: r => FrzTo Hf a b ∧ FzL Hf l r
 | _, _ => False
@[simp] theorem fzL_n (Hf : HMap) : FzL Hf [] [] = True := id rfl
@[simp] theorem fzL_c (Hf : HMap) (a b : D) (l r : List D) : FzL Hf (a :: l) (b :: r) = (FrzTo Hf a b ∧ FzL Hf l r) := id rfl
theorem FzL.get {Hf : HMap} : ∀ {l r : List D}, FzL Hf l r → l.length = r.length ∧ ∀ (m : Nat) (c c' : D), l[m]? = some c → r[m]? = some c' → FrzTo Hf c c'
 | [], [], _ => ⟨rfl, fun m c c' h => by simp at h⟩
 | a :: l, b :: r, h => by
   obtain ⟨h1, h2⟩ := h
   have ih := FzL.get h2
   refine ⟨by simp [ih.1], fun m c c' e1 e2 => ?_⟩
   cases m with
   | zero => simp at e1 e2; subst e1; subst e2; exact h1
   | succ m => simp at e1 e2; exact ih.2 m c c' e1 e2
@[simp] theorem rfe_box (Hf : HMap) (b : Nat) (cs cs' : List D) : RFe Hf (.box b cs) (.box b cs') = (cs = cs' ∨ FzL Hf cs cs') := by
 refine propext ⟨fun h => ?_, fun h => ?_⟩
 ·rcases h with h | ⟨_, hl, hc⟩
  ·cases h; exact .inl rfl
  ·right
   induction cs generalizing cs' with
   | nil => cases cs' with
     | nil => trivial
     | cons b r => simp at hl
   | cons a l ih => cases cs' with
     | nil => simp at hl
     | cons b r => exact ⟨hc 0 a b rfl rfl, ih r (by simpa using hl) fun m c c' h1 h2 => hc (m + 1) c c' (by simpa using h1) (by simpa using h2)⟩
 ·rcases h with rfl | h
  ·exact .inl rfl
  ·exact .inr ⟨rfl, h.get.1, h.get.2⟩
def BackG (σ0 : Sg) (H0 : HMap) (ks hk gv : List Nat) (rn : List (Nat × Nat)) (sl : List (Nat × D)) (hp : List (Nat × Res)) (σ : Sg) (H : HMap) : Prop := MatchF (gvH gv H) sl σ ∧ KeptS ks σ0 σ ∧ MatchR (gvH gv H) rn hp H ∧ KeptH hk H0 H
@[simp] theorem backG_eq (σ0 : Sg) (H0 : HMap) (ks hk gv : List Nat) (rn : List (Nat × Nat)) (sl : List (Nat × D)) (hp : List (Nat × Res)) (σ : Sg) (H : HMap) : BackG σ0 H0 ks hk gv rn sl hp σ H = (MatchF (gvH gv H) sl σ ∧ KeptS ks σ0 σ ∧ MatchR (gvH gv H) rn hp H ∧ KeptH hk H0 H) := id rfl
section
variable {S : Nat → Spc} {σ : Sg} {H : HMap} {K : Ex → Sg → HMap → Prop}
/-- Two pieces of text; between them memory is given up (gv) and resources are renamed (rn: (new, old)). -/
theorem vc_midG {X : Type} (ks hk gv : List Nat) (rn : List (Nat × Nat)) (P : X → Prop) (sl : X → List (Nat × D)) (hp : X → List (Nat × Res)) {k : Nat} {a b : CC} (ids : List Nat) (hids : ∀ x, (hp x).map (·.1) = ids) (hi : Inj rn (ids ++ hk) gv ∧ ∀ i ∈ hk, i ∉ ids → rnm rn i = i)
 (ha : vc S a (midK (fun σ' H' => ∃ x, P x ∧ BackG σ H ks hk gv rn (sl x) (hp x) σ' H') K) σ H)
 (hb : ∀ x, P x → vc S b K (addS (sl x) (keepS ks σ)) (addH (hp x) (keepH hk H))) : vc S (seqM k a b) K σ H := by
 refine vc_midW P _ _ (vc_mono a _ _ (fun e σ' H' h => ?_) ha) hb
 cases e with
 | norm =>
   obtain ⟨x, h1, h2⟩ := h
   exact ⟨x, h1, wk_matchG (by rw [hids x]; exact hi.1) (by rw [hids x]; exact hi.2) h2.1 h2.2.1 h2.2.2.1 h2.2.2.2⟩
 | ex i => exact h
 | ret => exact h
end
end Go.Gv

namespace Go.Gv
open Cod (enc dec)
variable {S S0 : Nat → Spc}
end Go.Gv

namespace Go.Gv
section
variable {X Y : Type}
variable {P : Program} {S : Nat → Spc} {f : Nat} {im : List Nat} {cc : CC} {rs : List CRes} {N : Nat}
end
end Go.Gv

namespace Go.Gv
open Cod (enc dec)
variable {S S0 : Nat → Spc}
theorem w_m_New : WalkFB cc_m_New rs_m_New S := by
 intro l
 simp [cc_m_New, rs_m_New, -List.map_take, take_enc, tpBox]
 omega
end Go.Gv

namespace Go.Gv
section
variable {S : Nat → Spc} {σ : Sg} {H : HMap} {K : Ex → Sg → HMap → Prop}
theorem vc_whileG {X : Type} (ks hk gv0 gv : List Nat) (rn0 rn : List (Nat × Nat)) (P : X → Prop) (sl : X → List (Nat × D)) (hp : X → List (Nat × Res)) (m : X → Nat) (x0 : X) (ids : List Nat) (hids : ∀ x, (hp x).map (·.1) = ids)
 (hi0 : Inj rn0 (ids ++ hk) gv0 ∧ ∀ i ∈ hk, i ∉ ids → rnm rn0 i = i) (hi : Inj rn (ids ++ hk) gv ∧ ∀ i ∈ hk, i ∉ ids → rnm rn i = i) {k : Nat} {b : CC} (h0 : P x0)
 (hs : MatchF (gvH gv0 H) (sl x0) σ) (hh : MatchR (gvH gv0 H) rn0 (hp x0) H)
 (hr : ∀ x, P x → vc S b (whlK P (fun y => BackG σ H ks hk gv rn (sl y) (hp y)) m x K) (addS (sl x) (keepS ks σ)) (addH (hp x) (keepH hk H))) : vc S (.loop k b) K σ H := by
 rw [e_loop]
 refine ⟨⟨X, P, fun x => addS (sl x) (keepS ks σ), fun x => addH (hp x) (keepH hk H), m⟩, ⟨x0, h0, wk_matchG (by rw [hids x0]; exact hi0.1) (by rw [hids x0]; exact hi0.2) hs (fun _ _ => rfl) hh (fun _ _ => rfl)⟩, fun x hx => vc_mono b _ _ (fun e σ' H' h => ?_) (hr x hx)⟩
 cases e with
 | norm =>
   obtain ⟨y, h1, h2, h3⟩ := h
   exact ⟨y, h1, wk_matchG (by rw [hids y]; exact hi.1) (by rw [hids y]; exact hi.2) h2.1 h2.2.1 h2.2.2.1 h2.2.2.2, h3⟩
 | ex i => exact h
 | ret => exact h
end
end Go.Gv

namespace Go.Gv
open Cod (enc dec)
variable {S S0 : Nat → Spc}
end Go.Gv

namespace Go.Gv
open Cod (enc dec)
variable {S S0 : Nat → Spc}
end Go.Gv

namespace Go.Gv
open Cod (enc dec)
variable {S S0 : Nat → Spc}
end Go.Gv

namespace Go.Gv
end Go.Gv

namespace Go.Gv
open Cod (enc dec)

section
variable {X Y : Type} [Cod X] [Cod Y]
def i2PT (pre : X → List Y → Prop) (post : X → List Y → List Y → Prop) (el n : Nat) : PT := fun d ds H K => ∃ id v l a x, ds = [a, .own id v] ∧ dec a = some x ∧ H id = some (.row v el n (l.map enc)) ∧ pre x l ∧
 ∀ v' l', post x l l' → K (.own id v') (updH H id (some (.row v' el n (l'.map enc))))
theorem i2_mono (pre : X → List Y → Prop) (post : X → List Y → List Y → Prop) (el n : Nat) : MonoPT (i2PT pre post el n) := fun d ds H K K' hk ⟨id, v, l, a, x, h1, h2, h3, h4, h5⟩ => ⟨id, v, l, a, x, h1, h2, h3, h4, fun v' l' hp => hk _ _ (h5 v' l' hp)⟩
/-- A function of x and of a slice of the caller's own, which it gives back changed. -/
def i2C (pre : X → List Y → Prop) (post : X → List Y → List Y → Prop) (el n : Nat) : Spc := .gen _ (i2_mono pre post el n)
def i2X (pre : X → List Y → Prop) (post : X → List Y → List Y → Prop) (el n id : Nat) (v : Value) (o : Option X) (r : Option Res) (H : HMap) (K : D → HMap → Prop) : Prop := ∃ l, r = some (.row v el n (l.map enc)) ∧ optX o fun x => pre x l ∧ ∀ v' l', post x l l' → K (.own id v') (updH H id (some (.row v' el n (l'.map enc))))
@[congr] theorem i2X_cg {pre : X → List Y → Prop} {post : X → List Y → List Y → Prop} {el n id : Nat} {v : Value} {o o' : Option X} {r r' : Option Res} {H : HMap} {K : D → HMap → Prop} (h1 : o = o') (h2 : r = r') : i2X pre post el n id v o r H K = i2X pre post el n id v o' r' H K := by subst h1; subst h2; rfl
@[simp] theorem i2C_pt (pre : X → List Y → Prop) (post : X → List Y → List Y → Prop) (el n : Nat) (d i : Nat) (a : D) (v : Value) (H : HMap) (K : D → HMap → Prop) : (i2C pre post el n).pt d [a, .own i v] H K = i2X pre post el n i v (dec a) (H i) H K := by
 refine propext ⟨fun h => ?_, fun h => ?_⟩
 ·obtain ⟨id, v, l, a, x, h1, h2, h3, h4, h5⟩ := h
  cases h1
  refine ⟨l, h3, ?_⟩
  rw [h2]
  exact ⟨h4, h5⟩
 ·obtain ⟨l, h1, h2⟩ := h
  cases hd : dec (X := X) a with
  | none => rw [hd] at h2; exact h2.elim
  | some x => rw [hd] at h2; exact ⟨i, v, l, a, x, rfl, hd, h1, h2.1, h2.2⟩
@[simp] theorem i2X_r (pre : X → List Y → Prop) (post : X → List Y → List Y → Prop) (el n id : Nat) (v : Value) (o : Option X) (l : List Y) (H : HMap) (K : D → HMap → Prop) : i2X pre post el n id v o (some (.row v el n (l.map enc))) H K = optX o fun x => pre x l ∧ ∀ v' l', post x l l' → K (.own id v') (updH H id (some (.row v' el n (l'.map enc)))) := by
 refine propext ⟨fun ⟨l', h1, h2⟩ => ?_, fun h => ⟨l, rfl, h⟩⟩
 simp at h1
 subst h1
 exact h2
def WalkI2 (cc : CC) (rs : List CRes) (S : Nat → Spc) (pre : X → List Y → Prop) (post : X → List Y → List Y → Prop) (el n : Nat) : Prop :=
 ∀ v l x, pre x l → vc S cc (retK rs fun r H' => FinF el n (post x l) r H') (initS [enc x, .own 1 v]) (updH noH 1 (some (.row v el n (l.map enc))))
variable {P : Program} {S : Nat → Spc} {f : Nat} {im : List Nat} {cc : CC} {rs : List CRes} {N : Nat} {el n : Nat}
theorem tri_walkI2 {pre : X → List Y → Prop} {post : X → List Y → List Y → Prop} (hS : ∀ f, Tri P f (S f).pt) (h : FnOk P f im cc rs N) (hN : 2 ≤ N) (hw : WalkI2 cc rs S pre post el n) : Tri P f (i2C pre post el n).pt := by
 obtain ⟨mix, enter, fn, code, h1, h2, h3, h4, h5⟩ := h
 refine tri_of_vc hS mix h1 h2 enter h3 h4 h5 ?_
 rintro ds H d K ⟨id, v, l, a, x, rfl, hd, hid, hp, hK⟩
 have hl := Cod.le _ _ hd
 refine ⟨hN, [enc x, .own 1 v], updH noH 1 (some (.row v el n (l.map enc))), fun _ => id, .cons hl (.cons (.own _ _ _) .nil), fun i r h => ?_, fun i j r s h h' _ => ?_, _, hw v l x hp, ?_⟩
 ·by_cases e : i = 1
  ·subst e
   simp only [updH, if_true] at h
   cases h
   exact hid
  ·simp [updH, e] at h
 ·have a : i = 1 := by
   by_cases e : i = 1
   ·exact e
   ·simp [updH, e] at h
  have b : j = 1 := by
   by_cases e : j = 1
   ·exact e
   ·simp [updH, e] at h'
  exact a.trans b.symm
 ·rintro r H' ⟨j, v', l', rfl, hj, hpost⟩
  refine ⟨.own id v', noH, updH H id (some (.row v' el n (l'.map enc))), fun i => if i = id then some j else none, .own _ _ _, fun j q h => by simp at h, hK v' l' hpost, fun i s hi => ?_, fun i j' k s q hi hj' e1 e2 => ?_⟩
  ·by_cases e : i = id
   ·subst e
    simp only [updH, if_true] at hi
    cases hi
    simpa using hj
   ·simp only [updH, e, if_false] at hi ⊢
    exact ⟨hi, fun k q h he => e he.symm⟩
  ·have a : i = id := by
    by_cases e : i = id
    ·exact e
    ·simp [e] at e1
   have b : j' = id := by
    by_cases e : j' = id
    ·exact e
    ·simp [e] at e2
   exact a.trans b.symm
end

/-! ### A box, more arguments, a result, resources of fixed names -/
section
variable {X Y Z : Type}
structure BoxF (X : Type) where
 ids : List Nat
 ce : X → List D
 hp : X → List (Nat × Res)
 keys : ∀ x, (hp x).map (·.1) = ids
theorem addN_mem : ∀ {l : List (Nat × Res)} {i : Nat} {s : Res}, addH l noH i = some s → (i, s) ∈ l
 | [], i, s, h => by simp [addH, noH] at h
 | (j, r) :: l, i, s, h => by
  simp only [addH, updH] at h
  by_cases e : i = j
  ·subst e
   simp only [if_true] at h
   cases h
   simp
  ·simp only [e, if_false] at h
   exact List.mem_cons_of_mem _ (addN_mem h)
theorem addN_key : ∀ {l : List (Nat × Res)} {H : HMap} {i : Nat} {s : Res}, i ∈ l.map (·.1) → addH l H i = some s → (i, s) ∈ l
 | (j, r) :: l, H, i, s, hi, h => by
  simp only [addH, updH] at h
  by_cases e : i = j
  ·subst e
   simp only [if_true] at h
   cases h
   simp
  ·simp only [e, if_false] at h
   simp [e] at hi
   refine List.mem_cons_of_mem _ (addN_key (H := H) ?_ h)
   simpa using hi
theorem addN_off : ∀ {l : List (Nat × Res)} {H : HMap} {i : Nat}, i ∉ l.map (·.1) → addH l H i = H i
 | [], H, i, _ => rfl
 | (j, r) :: l, H, i, hi => by
  simp only [List.map_cons, List.mem_cons, not_or] at hi
  simp only [addH, updH, hi.1, if_false]
  exact addN_off hi.2
def bpPT (B : BoxF X) (A : Arg Z) (er : Y → D) (pre : X → Z → Prop) (post : X → Z → X → Y → Prop) : PT := fun d ds H K => ∃ id b x z ds', ds = .bptr id b 0 :: ds' ∧ A.dec ds' = some z ∧ H id = some (.box b (B.ce x)) ∧ (∀ p ∈ B.hp x, H p.1 = some p.2) ∧ id ∉ B.ids ∧ pre x z ∧
 ∀ x' y, post x z x' y → K (er y) (updH (addH (B.hp x') H) id (some (.box b (B.ce x'))))
theorem bp_mono (B : BoxF X) (A : Arg Z) (er : Y → D) (pre : X → Z → Prop) (post : X → Z → X → Y → Prop) : MonoPT (bpPT B A er pre post) := fun d ds H K K' hk ⟨id, b, x, z, ds', h1, h2, h3, h4, h5, h6, h7⟩ => ⟨id, b, x, z, ds', h1, h2, h3, h4, h5, h6, fun x' y hp => hk _ _ (h7 x' y hp)⟩
def bpC (B : BoxF X) (A : Arg Z) (er : Y → D) (pre : X → Z → Prop) (post : X → Z → X → Y → Prop) : Spc := .gen _ (bp_mono B A er pre post)
def FinBP (B : BoxF X) (er : Y → D) (b : Nat) (post : X → Y → Prop) (r : D) (H : HMap) : Prop := ∃ x y, FrzTo (fun i => if i = 0 ∨ i ∈ B.ids then none else H i) r (er y) ∧ H 0 = some (.box b (B.ce x)) ∧ (∀ p ∈ B.hp x, H p.1 = some p.2) ∧ post x y
def WalkBP (cc : CC) (rs : List CRes) (S : Nat → Spc) (B : BoxF X) (A : Arg Z) (er : Y → D) (pre : X → Z → Prop) (post : X → Z → X → Y → Prop) : Prop :=
 ∀ b x z, pre x z → vc S cc (retK rs fun r H' => FinBP B er b (post x z) r H') (initS (.bptr 0 b 0 :: A.view z)) (updH (addH (B.hp x) noH) 0 (some (.box b (B.ce x))))
variable {P : Program} {S : Nat → Spc} {f : Nat} {im : List Nat} {cc : CC} {rs : List CRes} {N : Nat}
theorem tri_walkBP {B : BoxF X} {A : Arg Z} {er : Y → D} {pre : X → Z → Prop} {post : X → Z → X → Y → Prop} (h1i : 0 ∉ B.ids) (hS : ∀ f, Tri P f (S f).pt) (h : FnOk P f im cc rs N) (hN : ∀ z, (A.view z).length + 1 ≤ N) (hw : WalkBP cc rs S B A er pre post) : Tri P f (bpC B A er pre post).pt := by
 obtain ⟨mix, enter, fn, code, h1, h2, h3, h4, h5⟩ := h
 refine tri_of_vc hS mix h1 h2 enter h3 h4 h5 ?_
 rintro ds H d K ⟨id, b, x, z, ds', rfl, hd, hid, hhp, hni, hp, hK⟩
 have hl := A.le ds' z hd
 have h0 : ∀ i r, updH (addH (B.hp x) noH) 0 (some (.box b (B.ce x))) i = some r → i = 0 ∧ r = .box b (B.ce x) ∨ i ≠ 0 ∧ (i, r) ∈ B.hp x := by
  intro i r h
  by_cases e : i = 0
  ·subst e
   simp only [updH, if_true] at h
   cases h
   exact .inl ⟨rfl, rfl⟩
  ·simp only [updH, e, if_false] at h
   exact .inr ⟨e, addN_mem h⟩
 have hk : ∀ {x : X} {i : Nat} {r : Res}, (i, r) ∈ B.hp x → i ∈ B.ids := by
  intro x i r h
  rw [← B.keys x]
  exact List.mem_map.2 ⟨_, h, rfl⟩
 refine ⟨by simp only [List.length_cons]; rw [hl.1]; exact hN z, .bptr 0 b 0 :: A.view z, updH (addH (B.hp x) noH) 0 (some (.box b (B.ce x))), fun i => if i = 0 then id else i, .cons (.bptr _ _ _ _) hl, fun i r h => ?_, fun i j r s h h' e => ?_, _, hw b x z hp, ?_⟩
 ·rcases h0 i r h with ⟨rfl, rfl⟩ | ⟨e, hm⟩
  ·exact hid
  ·simp only [e, if_false]
   exact hhp _ hm
 ·rcases h0 i r h with ⟨rfl, rfl⟩ | ⟨e1, hm⟩
  ·rcases h0 j s h' with ⟨rfl, rfl⟩ | ⟨e2, hm2⟩
   ·rfl
   ·simp only [e2, if_true, if_false] at e
    subst e
    exact absurd (hk hm2) hni
  ·rcases h0 j s h' with ⟨rfl, rfl⟩ | ⟨e2, hm2⟩
   ·simp only [e1, if_true, if_false] at e
    subst e
    exact absurd (hk hm) hni
   ·simpa only [e1, e2, if_false] using e
 ·rintro r H' ⟨x', y, hfr, hj, hhp', hpost⟩
  refine ⟨er y, fun i => if i = 0 ∨ i ∈ B.ids then none else H' i, updH (addH (B.hp x') H) id (some (.box b (B.ce x'))), fun i => if i = id then some 0 else if i ∈ B.ids then some i else none, hfr, fun j q h => ?_, hK x' y hpost, fun i s hi => ?_, fun i j' k s q hi hj' e1 e2 => ?_⟩
  ·by_cases e : j = 0 ∨ j ∈ B.ids
   ·simp [e] at h
   ·simp only [e, if_false] at h
    refine ⟨h, fun i hh => e ?_⟩
    by_cases e1 : i = id
    ·simp only [e1, if_true] at hh
     cases hh
     exact .inl rfl
    ·simp only [e1, if_false] at hh
     by_cases e2 : i ∈ B.ids
     ·simp only [e2, if_true] at hh
      cases hh
      exact .inr e2
     ·simp [e2] at hh
  ·by_cases e : i = id
   ·subst e
    simp only [updH, if_true] at hi
    cases hi
    simpa using hj
   ·simp only [updH, e, if_false] at hi ⊢
    by_cases e2 : i ∈ B.ids
    ·simp only [e2, if_true]
     exact hhp' _ (addN_key (by rw [B.keys]; exact e2) hi)
    ·simp only [e2, if_false]
     rw [addN_off (by rw [B.keys]; exact e2)] at hi
     refine ⟨hi, fun k q h he => ?_⟩
     rcases h0 k q h with ⟨rfl, rfl⟩ | ⟨e3, hm⟩
     ·simp only [if_true] at he
      exact e he.symm
     ·simp only [e3, if_false] at he
      subst he
      exact e2 (hk hm)
  ·by_cases c1 : i = id
   ·by_cases c2 : j' = id
    ·exact c1.trans c2.symm
    ·simp only [c1, if_true] at e1
     cases e1
     simp only [c2, if_false] at e2
     by_cases c3 : j' ∈ B.ids
     ·simp only [c3, if_true] at e2
      cases e2
      exact absurd c3 h1i
     ·simp [c3] at e2
   ·simp only [c1, if_false] at e1
    by_cases c3 : i ∈ B.ids
    ·simp only [c3, if_true] at e1
     cases e1
     by_cases c2 : j' = id
     ·simp only [c2, if_true] at e2
      cases e2
      exact absurd c3 h1i
     ·simp only [c2, if_false] at e2
      by_cases c4 : j' ∈ B.ids
      ·simp only [c4, if_true] at e2
       cases e2
       rfl
      ·simp [c4] at e2
    ·simp [c3] at e1

/-- Where the box holds data only, and what it holds can be read. -/
def boxD {X : Type} (ce : X → List D) : BoxF X := ⟨[], ce, fun _ => [], fun _ => rfl⟩
end
end Go.Gv
