/- A part of the framework and of the walks: I2 I3 I4 W23 W24 Asm3 Fr Fr2. -/
import Derived.WalkKit
import Derived.ProofKit
import Derived.OpenShut
import Derived.ShutString
import Derived.ChangeOld
import Derived.Below
import Derived.Test.YtblcfloekekefaaGe19
import Derived.Test.YtblcfloekekefaaGe18
import Derived.Test.YtblcfloekekefaaGe17
import Derived.Test.YtblcfloekekefaaGe12

namespace Go.Gv
open Go.RowKit Go.Proofs
variable {F : Fence} {n : Nat} {P : Program}

def IOk (B : Nat) (I : Nat → World → Prop) : Prop :=
  ∀ k W W' row, I k W → GrB W W' row → (∀ r, row = some r → B ≤ r ∧ ∃ o : Obj, W.heap[r]? = some o ∧ o.isCells = false) → I k W'
theorem IOk.putObj {B : Nat} {I : Nat → World → Prop} (h : IOk B I) {k : Nat} {W : World} {l : Nat} {o : Obj} (o' : Obj) (hs : I k W) (hB : B ≤ l) (hl : W.heap[l]? = some o) (ho : o.isCells = false) : I k (W.putObj l o') :=
  h k W _ (some l) hs ⟨grownBy_putObj' W l o', Nat.le_refl _⟩ (fun r e => by cases e; exact ⟨hB, o, hl, ho⟩)
theorem IOk.alloc {B : Nat} {I : Nat → World → Prop} (h : IOk B I) {k : Nat} {W : World} (o : Obj) (hs : I k W) : I k (W.alloc o) :=
  h k W _ none hs (GrB.alloc W o none) (fun r e => by cases e)

def postR (S : Nat → Prop) (B : Nat) (I Ix : Nat → World → Prop) (k : Nat) (W : World) : Exit → Act → World → Prop
  | .normal, _, W' => KeepsFrom B W W' ∧ KB S W W' ∧ I (k + 1) W'
  | .ret, _, W' => KeepsFrom B W W' ∧ Ix k W'
  | _, _, _ => False

def ItC (F : Fence) (n : Nat) (P : Program) (gf : Nat) (lb : Array Value) (len : Nat) (encs : Nat → Array Value) (sel S : Nat → Prop) (w : World) : Prop :=
  ∀ (l : Nat) (J Jx : Nat → World → Prop) (W : World), KB S w W → (∀ k W W', GrB W W' none → J k W → J k W') → (∀ k W, k < len → ¬ sel k → J k W → J (k + 1) W) →
    (∀ k W1, J k W1 → k < len → sel k → YieldAt F (n - 1) P l (encs k) W1 fun e W' =>
      (e = .returned (.bool true) ∧ J (k + 1) W' ∧ KB S W1 W') ∨ (e = .returned (.bool false) ∧ Jx k W')) →
    J 0 W → CallsIn F n P gf (#[.func (.yield l) #[] #[]] ++ lb) W fun e W' => (∃ v, e = .returned v) ∧ (J len W' ∨ ∃ k, k < len ∧ Jx k W')

theorem rf_law {g : Operand} {ps : Array Tmp} {assign body : Code} {Q : Exit → Act → World → Prop} {a : Act} {w : World}
    (hro : F.round = none) (h1 : 1 ≤ n) {gf : Nat} {lb : Array Value} (hg : a.eval g = .func (.func gf) #[] lb) (hFg : F.fn gf) (eg : ∀ args w, (callFunc gf args).run P w = .ok (.enter gf args) w)
    {len : Nat} {encs : Nat → Array Value} {sel S : Nat → Prop} (hseq : ItC F (n - 1) P gf lb len encs sel S w) (hS : ∀ k, S k → k < w.heap.size) (hps : ∀ x, (encs x).size = ps.size)
    (I Ix : Nat → World → Prop) (hI : IOk w.heap.size I) (hIx : IOk w.heap.size Ix) (h0 : I 0 w) (hsk : ∀ k W, k < len → ¬ sel k → I k W → I (k + 1) W)
    (Ax : Nat → Act → World → Prop) (hAx : ∀ a', IOk w.heap.size fun k W => Ax k a' W)
    (hassign : ∀ (l k : Nat) (W : World), w.heap.size ≤ l → I k W → k < len → sel k →
      assign.wpIn (F.inRound l) (n - 1 - 1) P (Exit.then (fun a' W' => KeepsFrom w.heap.size W W' ∧ KB S W W' ∧ I k W' ∧ Ax k a' W') (fun _ _ _ => False)) { tmps := (ps.zip (encs k)).foldl (fun t (p, v) => t.setIfInBounds p v) a.tmps, defers := [] } W)
    (hbody : ∀ (l k : Nat) (a' : Act) (W : World), w.heap.size ≤ l → I k W → Ax k a' W → k < len → sel k → body.wpIn (F.inRound l) (n - 1 - 1) P (postR S w.heap.size I Ix k W) a' W)
    (hdone : ∀ (D : Nat) (W : World), w.heap.size ≤ D → I len W → W.heap[D]? = some (.deferred (some [])) → Q .normal { a with defers := { target := .collected D, args := #[] } :: a.defers } W)
    (hstop : ∀ (D k : Nat) (W : World), w.heap.size ≤ D → k < len → Ix k W → W.heap[D]? = some (.deferred (some [])) → Code.ret.wpIn F n P Q { a with defers := { target := .collected D, args := #[] } :: a.defers } W) :
    (Code.rangeFunc g ps assign body).wpIn F n P Q a w := by
  refine wpIn_rangeFunc ?_
  intro fn hfn
  rw [hro]
  obtain ⟨rec, hrec⟩ : ∃ rec : LoopState → Option Code → Loop, rec = fun st pe => { state := st, pending := pe, fn, tmps := a.tmps, params := ps, assign, body, defers := w.heap.size } := ⟨_, rfl⟩
  obtain ⟨W1, hW1⟩ : ∃ W1, (w.alloc (.deferred (some []))).alloc (.loop (rec .ready none)) = W1 := ⟨_, rfl⟩
  have hL1 : W1.heap[w.heap.size + 1]? = some (.loop (rec .ready none)) := by
    rw [← hW1]; have := World.alloc_heap_new (w.alloc (.deferred (some []))) (.loop (rec .ready none)); rwa [World.size_alloc] at this
  have hK1 : W1.heap[w.heap.size]? = some (.deferred (some [])) := by
    rw [← hW1]; exact (Below.heap_alloc _ _ _ (by simp)).trans (World.alloc_heap_new w _)
  have hI1 : I 0 W1 := by rw [← hW1]; exact hI.alloc _ (hI.alloc _ h0)
  have hb1 : KB S w W1 := by
    rw [← hW1]; exact ((KB.refl _ w).alloc hS _).alloc (fun k hk => by have := hS k hk; simp; omega) _
  refine ⟨w.heap.size + 1, [{ target := .collected w.heap.size, args := #[] }], W1, { target := .fn (.func gf) lb, args := #[.func (.yield (w.heap.size + 1)) #[] #[]] }, W1, gf,
    #[.func (.yield (w.heap.size + 1)) #[] #[]] ++ lb, W1, ?_, ?_, ?_, ?_, fun _ => h1, ?_⟩
  · rw [← hW1, hrec]; exact run_enterLoop_outer _ _ _ _ _
  · simp only [resolve, hg]
    simp [go_sem]
  · intro f' hf'; simp [Target.leads] at hf'; subst hf'; exact hFg
  · simp [invoke, go_sem, eg]
  · -- what is kept between two rounds: the caller's invariant; the record; the block of the rounds' deferred calls
    have keep : ∀ {A B : World} {j : Nat} {o : Obj}, GrB A B none → A.heap[j]? = some o → B.heap[j]? = some o := fun hg' hl =>
      (hg'.block _ (Array.getElem?_eq_some_iff.1 hl).1 (by simp)).trans hl
    refine (hseq (w.heap.size + 1)
      (fun k W => I k W ∧ W.heap[w.heap.size + 1]? = some (.loop (rec .ready none)) ∧ W.heap[w.heap.size]? = some (.deferred (some [])))
      (fun k W => Ix k W ∧ W.heap[w.heap.size + 1]? = some (.loop (rec .done (some .ret))) ∧ W.heap[w.heap.size]? = some (.deferred (some [])))
      W1 hb1
      (fun k A B hg' hs => ⟨hI k A B none hs.1 hg' (fun r e => by cases e), keep hg' hs.2.1, keep hg' hs.2.2⟩)
      (fun k W hk hn hs => ⟨hsk k W hk hn hs.1, hs.2⟩)
      ?_ ⟨hI1, hL1, hK1⟩).mono ?_
    · rintro k W ⟨hi, hl, hk⟩ hlen hsel
      have hy := run_yield (P := P) (args := encs k) hl (by rw [hrec]; exact hps k)
      rw [hrec] at hy
      refine ⟨fn, _, assign, body, hy, roundIn_of_wpIn hfn (wpIn_mono (hassign _ k W (by omega) hi hlen hsel) ?_)⟩
      clear hy
      rintro e a' Wa he
      cases e with
      | normal =>
        obtain ⟨hkfa, hba, hia, hax⟩ := he
        have hla := hkfa.same _ _ (by omega) hl rfl
        have hka := hkfa.same _ _ (Nat.le_refl _) hk rfl
        have hlt : w.heap.size + 1 < Wa.heap.size := (Array.getElem?_eq_some_iff.1 hla).1
        refine ⟨_, run_beginRound hla (by rw [hrec]), ?_⟩
        have hl2 : (Wa.putObj (w.heap.size + 1) (.loop { rec .ready none with state := .busy })).heap[w.heap.size + 1]? = some (.loop { rec .ready none with state := .busy }) := World.putObj_heap_same hlt
        have hk2 : (Wa.putObj (w.heap.size + 1) (.loop { rec .ready none with state := .busy })).heap[w.heap.size]? = some (.deferred (some [])) := (World.putObj_heap_other (by omega)).trans hka
        have bput : ∀ (X : World) (o : Obj), KB S X (X.putObj (w.heap.size + 1) o) := fun X o => ⟨by simp, fun j hj => World.putObj_heap_other (by have := hS j hj; omega)⟩
        refine wpIn_mono (hbody _ k a' _ (by omega) (hI.putObj _ hia (by omega) hla rfl) ((hAx a').putObj _ hax (by omega) hla rfl) hlen hsel) ?_
        rintro e a3 W3 hp
        cases e with
        | normal =>
          obtain ⟨hk3, hb3, hi3⟩ := hp
          have hl3 := hk3.same _ _ (by omega) hl2 rfl
          have hd3 := hk3.same _ _ (Nat.le_refl _) hk2 rfl
          have hr := run_endRound (P := P) none hl3
          refine ⟨_, _, hr, .inl ⟨rfl, ⟨hI.putObj _ hi3 (by omega) hl3 rfl, ?_, (World.putObj_heap_other (by omega)).trans hd3⟩, hba.trans ((bput _ _).trans (hb3.trans (bput _ _)))⟩⟩
          rw [World.putObj_heap_same (Array.getElem?_eq_some_iff.1 hl3).1, hrec]
          rfl
        | ret =>
          obtain ⟨hk3, hi3⟩ := hp
          have hl3 := hk3.same _ _ (by omega) hl2 rfl
          have hd3 := hk3.same _ _ (Nat.le_refl _) hk2 rfl
          have hr := run_endRound (P := P) (some .ret) hl3
          refine ⟨_, _, hr, .inr ⟨rfl, hIx.putObj _ hi3 (by omega) hl3 rfl, ?_, (World.putObj_heap_other (by omega)).trans hd3⟩⟩
          rw [World.putObj_heap_same (Array.getElem?_eq_some_iff.1 hl3).1, hrec]
          rfl
        | exit id => exact hp.elim
        | goto t => exact hp.elim
        | panic ch => exact hp.elim
        | outgrown => exact hp.elim
      | ret => exact he.elim
      | exit id => exact he.elim
      | goto t => exact he.elim
      | panic ch => exact he.elim
      | outgrown => exact he.elim
    · rintro e W2 ⟨⟨v, rfl⟩, (⟨hi, hl, hk⟩ | ⟨k, hk0, hi, hl, hk⟩)⟩
      · exact ⟨none, _, by have := run_endLoop (P := P) hl (by rw [hrec]; simp); rw [hrec] at this; exact this, hdone _ _ (Nat.le_refl _) (hI.putObj _ hi (by omega) hl rfl) ((World.putObj_heap_other (by omega)).trans hk)⟩
      · exact ⟨some .ret, _, by have := run_endLoop (P := P) hl (by rw [hrec]; simp); rw [hrec] at this; exact this, hstop _ k _ (Nat.le_refl _) hk0 (hIx.putObj _ hi (by omega) hl rfl) ((World.putObj_heap_other (by omega)).trans hk)⟩
end Go.Gv

namespace Go.Proofs
open Go.RowKit Go.Shelf Go.Gv
attribute [local go_sem] Oper.semAt_some

/-- The fields of a list of regions. -/
structure Rgs where
  len : Nat
  ty : Nat → ByteArray
  bs : Nat → Int
  es : Nat → Int
  sa : Nat → Option Addr
  sn : Nat → Nat
  sc : Nat → Nat

/-- The slice value v holds the regions, in a block below n₀. -/
def RegsAt (g : Rgs) (n₀ : Nat) (w : World) (v : Value) : Prop :=
  (∃ a cap, v = .slice a 0 cap ∧ g.len = 0) ∨ ∃ b off cap, v = .slice (some ⟨b, off, none⟩) g.len cap ∧ b < n₀ ∧ g.len ≤ maxLen ∧ ∀ k, k < g.len →
    w.cell? ⟨b, off + k * 4, none⟩ = some (.string (g.ty k)) ∧ w.cell? ⟨b, off + k * 4 + 1, none⟩ = some (.int .i64 (g.bs k)) ∧ w.cell? ⟨b, off + k * 4 + 2, none⟩ = some (.int .i64 (g.es k)) ∧ w.cell? ⟨b, off + k * 4 + 3, none⟩ = some (.slice (g.sa k) (g.sn k) (g.sc k))
theorem RegsAt.kb {g : Rgs} {n₀ : Nat} {S : Nat → Prop} {A B : World} {v : Value} (h : KB S A B) (hS : ∀ b, b < n₀ → S b) : RegsAt g n₀ A v → RegsAt g n₀ B v
  | .inl e => .inl e
  | .inr ⟨b, off, cap, e, hb, hm, hc⟩ => .inr ⟨b, off, cap, e, hb, hm, fun k hk => by
    obtain ⟨c0, c1, c2, c3⟩ := hc k hk
    have hb := hS b hb
    exact ⟨(h.cell (p := ⟨b, off + k * 4, none⟩) hb).trans c0, (h.cell (p := ⟨b, off + k * 4 + 1, none⟩) hb).trans c1, (h.cell (p := ⟨b, off + k * 4 + 2, none⟩) hb).trans c2, (h.cell (p := ⟨b, off + k * 4 + 3, none⟩) hb).trans c3⟩⟩

def Rgs.enc (g : Rgs) (k : Nat) : Array Value := #[.int .i64 (k : Int), .agg #[.string (g.ty k), .int .i64 (g.bs k), .int .i64 (g.es k), .slice (g.sa k) (g.sn k) (g.sc k)]]

theorem Try.of1_it (F : Fence) (n : Nat) (h66 : F.fn 66) (hro : F.round = none) (hn : 1 ≤ n) (g : Rgs) (S : Nat → Prop) (n₀ Bc Bk : Nat) (kind : ByteArray) (w : World) (hS : ∀ k, S k → k < w.heap.size) (hS0 : ∀ k, k < n₀ → S k) (hBc0 : S Bc) (hBk0 : S Bk)
    (v : Value) (hBc : w.cell? ⟨Bc, 3, none⟩ = some v) (hBk : w.cell? ⟨Bk, 0, none⟩ = some (.string kind)) (hv : RegsAt g n₀ w v) :
    ItC F n Try.prog 66 #[.pointer (some ⟨Bc, 0, none⟩), .pointer (some ⟨Bk, 0, none⟩)] g.len g.enc (fun k => g.ty k = kind) S w := by
  intro l J Jx W hW hJ hsk hY h0
  have hBc' := (hW.cell (p := ⟨Bc, 3, none⟩) hBc0).trans hBc
  have hBk' := (hW.cell (p := ⟨Bk, 0, none⟩) hBk0).trans hBk
  rcases hv.kb hW hS0 with ⟨a, cap, rfl, hl⟩ | ⟨b, off, cap, rfl, hb, hm, hc⟩
  · rw [hl]
    exact (Try.of1_nil_in F n h66 hro l Bc Bk cap a J W hBc' h0).mono fun e W' h => ⟨h.1, .inl h.2⟩
  · exact Try.of1_in F n h66 hro hn S l Bc Bk b off g.len cap g.ty g.bs g.es g.sa g.sn g.sc kind (hS0 b hb) hBk0 hm J Jx hJ hsk hY W (fun k hk => Nat.lt_of_lt_of_le (hS k hk) hW.size) hBc' hBk' hc h0

/-- Block b holds just the cells xs. -/
def Blk (W : World) (b : Nat) (xs : Array Value) (t : TypeId) : Prop := W.heap[b]? = some (.cells xs t (0, 0))
theorem Blk.lt {W : World} {b : Nat} {xs : Array Value} {t : TypeId} (h : Blk W b xs t) : b < W.heap.size := (Array.getElem?_eq_some_iff.1 h).1
theorem Blk.cell {W : World} {b : Nat} {xs : Array Value} {t : TypeId} (h : Blk W b xs t) (k : Nat) {v : Value} (hk : xs[k]? = some v) : W.cell? ⟨b, k, none⟩ = some v := by simp [World.cell?, show W.heap[b]? = _ from h, hk]
theorem Blk.new (W : World) (t : TypeId) (xs : Array Value) : Blk (W.alloc (.cells xs t)) W.heap.size xs t := World.alloc_heap_new W _
theorem Blk.kept {W W' : World} {row : Option Nat} {b : Nat} {xs : Array Value} {t : TypeId} (h : Blk W b xs t) (hg : W.grownBy W' row) (hne : some b ≠ row) : Blk W' b xs t := (hg.block b h.lt hne).trans h
theorem Blk.alloc {W : World} {b : Nat} {xs : Array Value} {t : TypeId} (h : Blk W b xs t) (o : Obj) : Blk (W.alloc o) b xs t := h.kept (World.grownBy_alloc W o none) (by simp)
theorem Blk.set {W : World} {b b' : Nat} {xs : Array Value} {t : TypeId} (h : Blk W b xs t) (hne : b ≠ b') (u : Value) : Blk (W.setCell ⟨b', 0, none⟩ u) b xs t := h.kept (grownBy_setCell' W b' u) (fun e => hne (by cases e; rfl))
theorem Blk.not_row {W : World} {b B : Nat} {xs : Array Value} {t : TypeId} (h : Blk W b xs t) {row : Option Nat} (hr : ∀ r, row = some r → B ≤ r ∧ ∃ o : Obj, W.heap[r]? = some o ∧ o.isCells = false) : some b ≠ row := fun e => by
  obtain ⟨_, o, ho, hc⟩ := hr b e.symm
  rw [show W.heap[b]? = _ from h] at ho
  cases ho
  cases hc
theorem below_grown {n B : Nat} {w W W' : World} {row : Option Nat} (h : Below n w W) (hn : n ≤ w.heap.size) (hB : n ≤ B) (hg : W.grownBy W' row) (hr : ∀ r, row = some r → B ≤ r ∧ ∃ o : Obj, W.heap[r]? = some o ∧ o.isCells = false) : Below n w W' :=
  ⟨hg.os.trans h.os, hg.tape.trans h.tape, hg.output.trans h.output, Nat.le_trans h.size hg.size, fun j hj => (hg.block j (by have := h.size; omega) (fun e => by have := (hr j e.symm).1; omega)).trans (h.block j hj)⟩

def lastU (ok : Nat → Bool) : Nat → Int
  | 0 => -1
  | k + 1 => if ok k = true then k else lastU ok k

def Rgs.ok (g : Rgs) (kind : ByteArray) (sb se : Int) (k : Nat) : Bool := decide (g.ty k = kind) && (decide (g.bs k ≤ sb) && decide (se ≤ g.es k))

set_option maxRecDepth 100000 in
set_option maxHeartbeats 4000000 in
theorem Try.Last_in (F : Fence) (n : Nat) (h33 : F.fn 33) (h57 : F.fn 57) (h58 : F.fn 58) (h66 : F.fn 66) (hro : F.round = none) (hn : 10 ≤ n) (x0 x1 x2 v x4 x5 x6 : Value)
    (g : Rgs) (kind : ByteArray) (sb se : Int) (w : World) (hv : RegsAt g w.heap.size w v) :
    CallsIn F n Try.prog 33 #[.agg #[x0, x1, x2, v, x4, x5, x6], .string kind, .agg #[.int .i64 sb, .int .i64 se]] w fun e W' =>
      e = .returned (.int .i64 (lastU (g.ok kind sb se) g.len)) ∧ Below w.heap.size w W' ∧ w.drawn ≤ W'.drawn := by
  have h1 : 1 ≤ n := by omega
  refine callsIn_of_wp_marks Try.func33 rfl h33 ?_ hro
  simp only [Try.ntmps33, List.size_toArray, List.length_cons, List.length_nil, Nat.reduceAdd, Nat.reduceSub, Array.replicate_succ, Array.replicate_zero, List.push_toArray, List.append_toArray, List.nil_append, List.cons_append]
  gi_wp2_with (gi_at_call 57; refine (Try.of_in F (n - 1) h57 hro _ _ _).mono ?_; rintro e w' ⟨rfl, rfl⟩)
  obtain ⟨W0, hW0⟩ : ∃ W0, (((((w.alloc (.cells #[x0, x1, x2, v, x4, x5, x6] 32)).alloc (.cells #[.int .i64 sb, .int .i64 se] 45)).alloc (.cells #[.int .i64 (-1)] 3)).alloc (.cells #[x0, x1, x2, v, x4, x5, x6] 32)).alloc (.cells #[.string kind] 9)) = W0 := ⟨_, rfl⟩
  rw [hW0]
  have hsz : W0.heap.size = w.heap.size + 5 := by rw [← hW0]; simp
  have hdr : W0.drawn = w.drawn := by rw [← hW0]; rfl
  have hB0 : Below w.heap.size w W0 := by
    rw [← hW0]
    exact ((((((Below.refl _ w).alloc (Nat.le_refl _) _).alloc (by simp) _).alloc (by simp; omega) _).alloc (by simp; omega) _).alloc (by simp; omega) _)
  have b1 : Blk W0 (w.heap.size + 1) #[.int .i64 sb, .int .i64 se] 45 := by
    have h := Blk.new (w.alloc (.cells #[x0, x1, x2, v, x4, x5, x6] 32)) 45 #[.int .i64 sb, .int .i64 se]
    rw [World.size_alloc] at h
    rw [← hW0]; exact ((h.alloc _).alloc _).alloc _
  have b2 : Blk W0 (w.heap.size + 2) #[.int .i64 (-1)] 3 := by
    have h := Blk.new ((w.alloc (.cells #[x0, x1, x2, v, x4, x5, x6] 32)).alloc (.cells #[.int .i64 sb, .int .i64 se] 45)) 3 #[.int .i64 (-1)]
    rw [World.size_alloc, World.size_alloc] at h
    rw [← hW0]; exact (h.alloc _).alloc _
  have b3 : Blk W0 (w.heap.size + 3) #[x0, x1, x2, v, x4, x5, x6] 32 := by
    have h := Blk.new (((w.alloc (.cells #[x0, x1, x2, v, x4, x5, x6] 32)).alloc (.cells #[.int .i64 sb, .int .i64 se] 45)).alloc (.cells #[.int .i64 (-1)] 3)) 32 #[x0, x1, x2, v, x4, x5, x6]
    rw [World.size_alloc, World.size_alloc, World.size_alloc] at h
    rw [← hW0]; exact h.alloc _
  have b4 : Blk W0 (w.heap.size + 4) #[.string kind] 9 := by
    have h := Blk.new ((((w.alloc (.cells #[x0, x1, x2, v, x4, x5, x6] 32)).alloc (.cells #[.int .i64 sb, .int .i64 se] 45)).alloc (.cells #[.int .i64 (-1)] 3)).alloc (.cells #[x0, x1, x2, v, x4, x5, x6] 32)) 9 #[.string kind]
    rw [World.size_alloc, World.size_alloc, World.size_alloc, World.size_alloc] at h
    rw [← hW0]; exact h
  have hv0 : RegsAt g w.heap.size W0 v := hv.kb (KB.of_below (S := fun k => k < w.heap.size) hB0 (fun _ h => h)) (fun _ h => h)
  clear hW0
  refine rf_law hro h1 (gf := 66) (lb := #[.pointer (some ⟨w.heap.size + 1 + 1 + 1, 0, none⟩), .pointer (some ⟨w.heap.size + 1 + 1 + 1 + 1, 0, none⟩)]) rfl h66 (enters_of Try.func66 (by kernel_rfl) rfl)
    (Try.of1_it F (n - 1) h66 hro (by omega) g (fun k => k < W0.heap.size ∧ k ≠ w.heap.size + 2) w.heap.size (w.heap.size + 3) (w.heap.size + 4) kind W0 (fun _ h => h.1) (fun k h => ⟨by omega, by omega⟩) ⟨by omega, by omega⟩ ⟨by omega, by omega⟩ v (b3.cell 3 rfl) (b4.cell 0 rfl) hv0) (fun _ h => h.1) (fun _ => rfl)
    (fun k W => Blk W (w.heap.size + 2) #[.int .i64 (lastU (g.ok kind sb se) k)] 3 ∧ Blk W (w.heap.size + 1) #[.int .i64 sb, .int .i64 se] 45 ∧ Below w.heap.size w W ∧ w.drawn ≤ W.drawn ∧ W0.heap.size ≤ W.heap.size)
    (fun _ _ => False)
    (fun k A B row hs hg hr => ⟨hs.1.kept hg.togrownBy (hs.1.not_row hr), hs.2.1.kept hg.togrownBy (hs.2.1.not_row hr), below_grown hs.2.2.1 (Nat.le_refl _) (by omega) hg.togrownBy hr, Nat.le_trans hs.2.2.2.1 hg.drawn, Nat.le_trans hs.2.2.2.2 hg.size⟩)
    (fun _ _ _ _ hs _ _ => hs)
    ⟨b2, b1, hB0, by omega, Nat.le_refl _⟩ ?skip
    (fun k a' W => ∃ Br, W0.heap.size ≤ Br ∧ Blk W Br #[.string (g.ty k), .int .i64 (g.bs k), .int .i64 (g.es k), .slice (g.sa k) (g.sn k) (g.sc k)] 70 ∧
      a' = { tmps := #[.agg #[x0, x1, x2, v, x4, x5, x6], .string kind, .agg #[.int .i64 sb, .int .i64 se], .pointer (some ⟨w.heap.size, 0, none⟩), undef, .pointer (some ⟨w.heap.size + 1, 0, none⟩), .int .i64 0, .pointer (some ⟨w.heap.size + 1 + 1, 0, none⟩), .int .i64 (k : Int), .pointer (some ⟨Br, 0, none⟩),
        .agg #[x0, x1, x2, v, x4, x5, x6], .string kind, .func (.func 66) #[] #[.pointer (some ⟨w.heap.size + 1 + 1 + 1, 0, none⟩), .pointer (some ⟨w.heap.size + 1 + 1 + 1 + 1, 0, none⟩)], .int .i64 (k : Int),
        .agg #[.string (g.ty k), .int .i64 (g.bs k), .int .i64 (g.es k), .slice (g.sa k) (g.sn k) (g.sc k)], undef, undef, undef, undef, undef], defers := [] })
    (fun a' k A B row hs hg hr => by
      obtain ⟨Br, h1, h2, h3⟩ := hs
      exact ⟨Br, h1, h2.kept hg.togrownBy (h2.not_row hr), h3⟩)
    ?assign ?body ?done ?stop
  case skip =>
    rintro k W hk hne ⟨i1, i2, i3⟩
    refine ⟨?_, i2, i3⟩
    have : lastU (g.ok kind sb se) (k + 1) = lastU (g.ok kind sb se) k := by simp [lastU, Rgs.ok, hne]
    rw [this]
    exact i1
  case assign =>
    rintro l k W hl ⟨i1, i2, i3, i4, i5⟩ hk -
    simp only [Rgs.enc]
    gi_wp2
    exact ⟨(KeepsOthers.alloc _ _).from _, (KB.refl _ W).alloc (fun k hk => Nat.lt_of_lt_of_le hk.1 i5) _, ⟨i1.alloc _, i2.alloc _, i3.alloc i3.size _, i4, by simp; omega⟩, W.heap.size, i5, Blk.new W 70 _, rfl⟩
  case body =>
    rintro l k a' W hl ⟨i1, i2, i3, i4, i5⟩ ⟨Br, hBr, bR, rfl⟩ hk hsel
    have r0 := bR.cell 0 rfl
    have r1 := bR.cell 1 rfl
    have r2 := bR.cell 2 rfl
    have r3 := bR.cell 3 rfl
    have s0 := i2.cell 0 rfl
    have s1 := i2.cell 1 rfl
    have hn2 : 1 ≤ n - 1 - 1 := by omega
    have hok : g.ok kind sb se k = (decide (g.bs k ≤ sb) && decide (se ≤ g.es k)) := by simp [Rgs.ok, hsel]
    have hnew : ∀ (o1 o2 : Obj), Below W0.heap.size W ((W.alloc o1).alloc o2) := fun o1 o2 => ((Below.refl _ W).alloc i5 _).alloc (by simp; omega) _
    have hnew3 : ∀ (o1 o2 : Obj), Below w.heap.size w ((W.alloc o1).alloc o2) := fun o1 o2 => i3.trans ((hnew o1 o2).mono (by omega))
    clear hsel
    obtain ⟨r, hr⟩ : ∃ r, r = (decide (g.bs k ≤ sb) && decide (se ≤ g.es k)) := ⟨_, rfl⟩
    rw [← hr] at hok
    have q0 : ∀ (o1 o2 : Obj), ((W.alloc o1).alloc o2).cell? ⟨w.heap.size + 1 + 1, 0, none⟩ = some (.int .i64 (lastU (g.ok kind sb se) k)) := fun o1 o2 => ((i1.alloc o1).alloc o2).cell 0 rfl
    have q1 : ∀ (o1 o2 : Obj), ((W.alloc o1).alloc o2).frozen? ⟨w.heap.size + 1 + 1, 0, none⟩ = false := fun o1 o2 => Boxed.frozen ((i1.alloc o1).alloc o2)
    have Q0 := q0 (.cells #[.string (g.ty k), .int .i64 (g.bs k), .int .i64 (g.es k), .slice (g.sa k) (g.sn k) (g.sc k)] 70) (.cells #[.int .i64 sb, .int .i64 se] 45)
    have Q1 := q1 (.cells #[.string (g.ty k), .int .i64 (g.bs k), .int .i64 (g.es k), .slice (g.sa k) (g.sn k) (g.sc k)] 70) (.cells #[.int .i64 sb, .int .i64 se] 45)
    have hcall : ∀ (m : Nat) (W' : World), CallsIn F m Try.prog 58 #[.int .i64 1, .agg #[.string (g.ty k), .int .i64 (g.bs k), .int .i64 (g.es k), .slice (g.sa k) (g.sn k) (g.sc k)], .agg #[.int .i64 sb, .int .i64 se]] W' fun e w' =>
        e = .returned (.bool r) ∧ w' = (W'.alloc (.cells #[.string (g.ty k), .int .i64 (g.bs k), .int .i64 (g.es k), .slice (g.sa k) (g.sn k) (g.sc k)] 70)).alloc (.cells #[.int .i64 sb, .int .i64 se] 45) := fun m W' => Try.related_in F m h58 hro _ _ _ _ _ _ _ _ r hr W'
    have i1' := i1.alloc (.cells #[.string (g.ty k), .int .i64 (g.bs k), .int .i64 (g.es k), .slice (g.sa k) (g.sn k) (g.sc k)] 70)
    have i1'' := i1'.alloc (.cells #[.int .i64 sb, .int .i64 se] 45)
    have i2'' := (i2.alloc (.cells #[.string (g.ty k), .int .i64 (g.bs k), .int .i64 (g.es k), .slice (g.sa k) (g.sn k) (g.sc k)] 70)).alloc (.cells #[.int .i64 sb, .int .i64 se] 45)
    have hN := hnew (.cells #[.string (g.ty k), .int .i64 (g.bs k), .int .i64 (g.es k), .slice (g.sa k) (g.sn k) (g.sc k)] 70) (.cells #[.int .i64 sb, .int .i64 se] 45)
    have hN3 := hnew3 (.cells #[.string (g.ty k), .int .i64 (g.bs k), .int .i64 (g.es k), .slice (g.sa k) (g.sn k) (g.sc k)] 70) (.cells #[.int .i64 sb, .int .i64 se] 45)
    have hKF : KeepsFrom W0.heap.size W ((W.alloc (.cells #[.string (g.ty k), .int .i64 (g.bs k), .int .i64 (g.es k), .slice (g.sa k) (g.sn k) (g.sc k)] 70)).alloc (.cells #[.int .i64 sb, .int .i64 se] 45)) := ((KeepsOthers.alloc _ _).trans (KeepsOthers.alloc _ _)).from _
    clear hr hnew hnew3 q0 q1
    have hls : lastU (g.ok kind sb se) (k + 1) = if r = true then (k : Int) else lastU (g.ok kind sb se) k := by simp [lastU, hok]
    clear hok
    obtain ⟨W2, hW2⟩ : ∃ W2, (W.alloc (.cells #[.string (g.ty k), .int .i64 (g.bs k), .int .i64 (g.es k), .slice (g.sa k) (g.sn k) (g.sc k)] 70)).alloc (.cells #[.int .i64 sb, .int .i64 se] 45) = W2 := ⟨_, rfl⟩
    have hd2 : W2.drawn = W.drawn := by rw [← hW2]; rfl
    rw [hW2] at Q0 Q1 i1'' i2'' hN hN3 hKF
    have hcall' : ∀ (m : Nat), CallsIn F m Try.prog 58 #[.int .i64 1, .agg #[.string (g.ty k), .int .i64 (g.bs k), .int .i64 (g.es k), .slice (g.sa k) (g.sn k) (g.sc k)], .agg #[.int .i64 sb, .int .i64 se]] W fun e w' => e = .returned (.bool r) ∧ w' = W2 := fun m => by
      have := hcall m W
      rw [hW2] at this
      exact this
    clear hcall hW2 i1'
    cases r with
    | true =>
      gi_wp2_with (gi_at_call 58; refine (CallsIn.inRound l (hcall' _)).mono ?_; rintro e w' ⟨rfl, rfl⟩)
      refine ⟨hKF.trans ((KeepsOthers.setCell _ _ _).from _), (KB.of_below hN (fun _ h => h.1)).trans ⟨by simp, fun j hj => (grownBy_setCell' _ _ _).block j (by have := hN.size; omega) (fun e => by cases e; exact hj.2 rfl)⟩, ?_, i2''.set (by omega) _, hN3.trans ((Below.refl _ _).setCell (p := ⟨w.heap.size + 1 + 1, 0, none⟩) (by simp; omega) _), by simpa using (by omega : w.drawn ≤ w'.drawn), by have := hN.size; simp; omega⟩
      rw [hls]
      exact Boxed.set _ i1''
    | false =>
      gi_wp2_with (gi_at_call 58; refine (CallsIn.inRound l (hcall' _)).mono ?_; rintro e w' ⟨rfl, rfl⟩)
      refine ⟨hKF, .of_below hN (fun _ h => h.1), ?_, i2'', hN3, by omega, by have := hN.size; omega⟩
      rw [hls]
      exact i1''
  case done =>
    rintro D W hD ⟨i1, i2, i3, i4, i5⟩ hK
    have o0 := i1.cell 0 rfl
    gi_wp2
    refine ⟨by simp, .inl ⟨_, _, rfl, run_takeDeferred hK, ?_⟩⟩
    refine ⟨_, results_tmp rfl _ _ _, rfl, ⟨i3.os, i3.tape, i3.output, by simpa using i3.size, fun j hj => (World.putObj_heap_other (by omega)).trans (i3.block j hj)⟩, i4⟩
  case stop =>
    rintro D k W _ _ h _
    exact h.elim
end Go.Proofs

namespace Go.Gv
open Go.Proofs Go.RowKit
open Cod (enc dec)

/-- A contract of a function that reads what is given, and writes only what is new. -/
theorem tri_calls {P : Program} {f : Nat} {X Y : Type} {A : Arg X} {pre : X → Prop} {er : Y → D} {post : X → Y → Prop} (hce : CallEnter P f)
    (h : ∀ (tp I : Nat → Prop) (w : World) (vs : List Value) (x : X), pre x → (∀ b, I b → b < w.heap.size) → vs.length = (A.view x).length →
      (∀ (k : Nat) (v : Value) (d : D), vs[k]? = some v → (A.view x)[k]? = some d → R tp I w v d) →
      Calls P f vs.toArray w fun e w' => ∃ v y, e = .returned v ∧ post x y ∧ (∀ tp' I', R tp' I' w' v (er y)) ∧ Below w.heap.size w w' ∧ w.drawn ≤ w'.drawn) : Tri P f (spc A pre er post).pt := by
  intro O tp w vs ds H d K hO htl hsat hlen hargs hA
  rw [spc_pt] at hA
  cases hd : A.dec ds with
  | none => rw [hd] at hA; exact hA.elim
  | some x =>
    rw [hd] at hA
    obtain ⟨hp, hK⟩ := hA
    have hle := A.le ds x hd
    refine ⟨hce, (h tp (Imm O tp H w) w vs x hp (fun b hb => hb.1) (by rw [hlen, hle.1]) (fun k v d h1 h2 => ?_)).mono ?_⟩
    · have hlt : k < ds.length := by rw [← hlen]; exact (List.getElem?_eq_some_iff.1 h1).1
      have he := List.getElem?_eq_getElem hlt
      exact (hle.2 k _ d he h2).R (H := noH) (fun i r h => by cases h) (fun _ h => h) (fun i r b h => by cases h) (hargs k _ _ h1 he)
    · rintro e w' ⟨v, y, rfl, hy, hR, hb, hdr⟩
      have hmove : ∀ y e, R tp (Imm O tp H w) w y e → R tp (Imm O tp H w') w' y e := fun y e hr =>
        hr.mono (fun _ h => h) (fun b hb' => ⟨⟨Nat.lt_of_lt_of_le hb'.1 hb.size, hb'.2⟩, hb.block b hb'.1⟩) (fun b hb' => .same (hb.block b (htl b hb')))
      exact ⟨v, er y, H, tp, rfl, hK y hy, fun _ h => h, fun _ h => .inl h, fun b h => Nat.lt_of_lt_of_le (htl b h) hb.size,
        ⟨hb.os, hb.tape, hb.output, hb.size, fun b h1 _ _ => hb.block b h1, fun b h => .same (hb.block b (htl b h)), hdr⟩, fun _ h => .inl h,
        ⟨hsat.dis, hsat.out, fun i r h1 => (hsat.ok i r h1).conv hmove fun b h2 => hb.block b ((hsat.ok i r h1).lt h2)⟩, hR _ _⟩

def sA : Value → Option Addr
  | .slice a _ _ => a
  | _ => none
def sN : Value → Nat
  | .slice _ n _ => n
  | _ => 0
def sC : Value → Nat
  | .slice _ _ c => c
  | _ => 0
theorem v_eq {tp I : Nat → Prop} {w : World} {x y : Value} (h : R tp I w x (.v y)) : x = y := by cases h; rfl
theorem slice_eta {tp I : Nat → Prop} {w : World} {v : Value} {n : Nat} {es : List D} (h : R tp I w v (.list n es)) : v = .slice (sA v) (sN v) (sC v) := by
  cases h <;> rfl

def covers (kind : B) (s : Span) (r : Region) : Bool := decide (r.ty = kind) && (decide (r.b ≤ s.b) && decide (s.e ≤ r.e))
/-- The last region of the type that contains the span. -/
def lastR (kind : B) (s : Span) (l : List Region) : Int := lastU (fun k => (l[k]?).any (covers kind s)) l.length

theorem lastU_congr {p q : Nat → Bool} : ∀ {n : Nat}, (∀ k, k < n → p k = q k) → lastU p n = lastU q n
  | 0, _ => rfl
  | n + 1, h => by simp only [lastU]; rw [h n (by omega), lastU_congr fun k hk => h k (by omega)]

theorem regs_of {tp I : Nat → Prop} {w : World} {v : Value} {l : List Region} (hI : ∀ b, I b → b < w.heap.size) (h : R tp I w v (enc l)) :
    ∃ g : Rgs, RegsAt g w.heap.size w v ∧ g.len = l.length ∧ ∀ k, k < l.length → ∀ r, l[k]? = some r → g.ty k = r.ty ∧ g.bs k = r.b ∧ g.es k = r.e := by
  have he : (enc l : D) = .list 4 (l.map enc) := rfl
  rw [he] at h
  cases hl : l with
  | nil =>
    subst hl
    cases h with
    | nolist a cap n => exact ⟨⟨0, fun _ => ⟨#[]⟩, fun _ => 0, fun _ => 0, fun _ => none, fun _ => 0, fun _ => 0⟩, .inl ⟨a, cap, rfl, rfl⟩, rfl, fun k hk => by simp at hk⟩
    | list b off cap n es f hIb hc hm hn hcell h1 h => exact ⟨⟨0, fun _ => ⟨#[]⟩, fun _ => 0, fun _ => 0, fun _ => none, fun _ => 0, fun _ => 0⟩, .inl ⟨_, cap, rfl, rfl⟩, rfl, fun k hk => by simp at hk⟩
  | cons r0 l0 =>
    rw [← hl]
    generalize hes : l.map (enc : Region → D) = es at h
    cases h with
    | nolist a cap n => rw [hl] at hes; simp at hes
    | list b off cap n es f hIb hc hm hn hcell h1 h =>
      have hlen : es.length = l.length := by rw [← hes]; simp
      have hw : ∀ d ∈ es, d.cells.length = 4 := fun d hd => (hn d hd).2
      have hget : ∀ k r, l[k]? = some r → (flat es)[k * 4]? = some (enc r.ty) ∧ (flat es)[k * 4 + 1]? = some (enc r.b) ∧ (flat es)[k * 4 + 2]? = some (enc r.e) ∧ (flat es)[k * 4 + 3]? = some (enc r.kv) := fun k r hr => by
        have e0 : es[k]? = some (enc r) := by rw [← hes, List.getElem?_map, hr]; rfl
        refine ⟨?_, ?_, ?_, ?_⟩
        · have := flat_get hw (i := k) (j := 0) (by omega); rw [e0] at this; exact this
        · have := flat_get hw (i := k) (j := 1) (by omega); rw [e0] at this; exact this
        · have := flat_get hw (i := k) (j := 2) (by omega); rw [e0] at this; exact this
        · have := flat_get hw (i := k) (j := 3) (by omega); rw [e0] at this; exact this
      let rg : Nat → Region := fun k => (l[k]?).getD r0
      refine ⟨⟨l.length, fun k => (rg k).ty, fun k => (rg k).b, fun k => (rg k).e, fun k => sA (f (k * 4 + 3)), fun k => sN (f (k * 4 + 3)), fun k => sC (f (k * 4 + 3))⟩,
        .inr ⟨b, off, cap, by rw [hlen], hI b hIb, (by show l.length ≤ maxLen; omega), fun k hk => ?_⟩, rfl, fun k hk r hr => ?_⟩
      · have hr : l[k]? = some l[k] := List.getElem?_eq_getElem hk
        have hrg : rg k = l[k] := by show (l[k]?).getD r0 = _; rw [hr]; rfl
        obtain ⟨g0, g1, g2, g3⟩ := hget k _ hr
        have v0 := h _ _ g0
        have v1 := h _ _ g1
        have v2 := h _ _ g2
        have v3 := h _ _ g3
        have f0 : f (k * 4) = .string l[k].ty := v_eq v0
        have f1 : f (k * 4 + 1) = .int .i64 l[k].b := v_eq v1
        have f2 : f (k * 4 + 2) = .int .i64 l[k].e := v_eq v2
        have f3 := slice_eta v3
        dsimp only
        rw [hrg]
        refine ⟨?_, ?_, ?_, ?_⟩
        · rw [← f0]; exact hcell _ _ g0
        · rw [← f1, Nat.add_assoc]; exact hcell _ _ g1
        · rw [← f2, Nat.add_assoc]; exact hcell _ _ g2
        · rw [← f3, Nat.add_assoc]; exact hcell _ _ g3
      · have hrg : rg k = r := by show (l[k]?).getD r0 = _; rw [hr]; rfl
        dsimp only
        rw [hrg]
        exact ⟨rfl, rfl, rfl⟩

abbrev s_inside_Last : Spc := spc (a3 Corpus B Span) (fun _ => True) enc fun x y => y = lastR x.2.1 x.2.2 x.1.regs

theorem t_inside_Last : Tri Try.prog f_inside_Last s_inside_Last.pt := by
  refine tri_calls (callEnter Try.func33 (by decide) rfl) ?_
  rintro tp I w vs ⟨c, kind, s⟩ - hI hlen hargs
  match vs, hlen, hargs with
  | [v0, v1, v2], _, hargs =>
    have h0 := hargs 0 v0 (enc c) rfl rfl
    have h1 := hargs 1 v1 (enc kind) rfl rfl
    have h2 := hargs 2 v2 (enc s) rfl rfl
    have e1 : v1 = .string kind := v_eq h1
    have e2 : v2 = .agg #[.int .i64 s.b, .int .i64 s.e] := by
      cases h2 with
      | agg xs cs hl h1 h =>
        match xs, hl, h with
        | [a, b], _, h =>
          rw [v_eq (h 0 a (enc s.b) rfl rfl), v_eq (h 1 b (enc s.e) rfl rfl)]
    subst e1 e2
    cases h0 with
    | agg xs cs hl h1 h =>
      match xs, hl, h1, h with
      | [x0, x1, x2, x3, x4, x5, x6], _, _, h =>
        have h3 := h 3 x3 (enc c.regs) rfl rfl
        obtain ⟨g, hg, hgl, hgk⟩ := regs_of hI h3
        refine (callsIn_wide (n := 10)).1 ((Try.Last_in Fence.wide 10 trivial trivial trivial trivial rfl (by omega) x0 x1 x2 x3 x4 x5 x6 g kind s.b s.e w hg).mono ?_)
        rintro e w' ⟨rfl, hb, hd⟩
        refine ⟨_, lastR kind s c.regs, rfl, rfl, fun tp' I' => ?_, hb, hd⟩
        have : lastU (g.ok kind s.b s.e) g.len = lastR kind s c.regs := by
          rw [hgl]
          refine lastU_congr fun k hk => ?_
          have hr := List.getElem?_eq_getElem hk
          obtain ⟨k1, k2, k3⟩ := hgk k hk _ hr
          rw [hr]
          simp [Rgs.ok, covers, k1, k2, k3]
        rw [this]
        exact .v _ rfl (fun s h => by cases h)
end Go.Gv

namespace Go.Gv
set_option linter.unusedSimpArgs false
set_option linter.unusedVariables false
set_option maxRecDepth 100000
open Cod (enc dec)
open Go.Proofs (lastU)
variable {S S0 : Nat → Spc}
theorem lastU_spec (p : Nat → Bool) : ∀ n, (lastU p n = -1 ∧ ∀ j, j < n → p j = false) ∨ ∃ k, k < n ∧ lastU p n = (k : Int) ∧ p k = true ∧ ∀ j, k < j → j < n → p j = false
  | 0 => .inl ⟨rfl, fun j h => by omega⟩
  | n + 1 => by
    simp only [lastU]
    cases h : p n with
    | true => exact .inr ⟨n, by omega, by simp, h, fun j h1 h2 => by omega⟩
    | false =>
      simp only [Bool.false_eq_true, if_false]
      rcases lastU_spec p n with ⟨h1, h2⟩ | ⟨k, h1, h2, h3, h4⟩
      · exact .inl ⟨h1, fun j hj => by rcases Nat.lt_succ_iff_lt_or_eq.1 hj with h' | rfl; exact h2 j h'; exact h⟩
      · exact .inr ⟨k, by omega, h2, h3, fun j h5 h6 => by rcases Nat.lt_succ_iff_lt_or_eq.1 h6 with h' | rfl; exact h4 j h5 h'; exact h⟩
theorem lastR_spec (kind : B) (s : Span) (l : List Region) : (lastR kind s l = -1 ∧ ∀ r ∈ l, covers kind s r = false) ∨
    ∃ (k : Nat) (r : Region), lastR kind s l = (k : Int) ∧ l[k]? = some r ∧ covers kind s r = true ∧ ∀ (j : Nat) (r' : Region), k < j → l[j]? = some r' → covers kind s r' = false := by
  rcases lastU_spec (fun k => (l[k]?).any (covers kind s)) l.length with ⟨h1, h2⟩ | ⟨k, h1, h2, h3, h4⟩
  · refine .inl ⟨h1, fun r hr => ?_⟩
    obtain ⟨j, hj⟩ := List.mem_iff_getElem?.1 hr
    have := h2 j (List.getElem?_eq_some_iff.1 hj).1
    simpa [hj] using this
  · have hk := List.getElem?_eq_getElem h1
    refine .inr ⟨k, l[k], h2, hk, by simpa [hk] using h3, fun j r' h5 h6 => ?_⟩
    have := h4 j h5 (List.getElem?_eq_some_iff.1 h6).1
    simpa [h6] using this

abbrev s_r28_Last : Spc := spc (a3 Corpus B Span) (fun x => x.1.regs.length ≤ 100000) enc fun x y => y = lastR x.2.1 x.2.2 x.1.regs
theorem w_r28_Last : Walk cc_r28_Last rs_r28_Last S (a3 Corpus B Span) (fun x => x.1.regs.length ≤ 100000) enc fun x y => y = lastR x.2.1 x.2.2 x.1.regs := by
  rintro ⟨c, kind, s⟩ hl
  simp at hl
  simp [cc_r28_Last, rs_r28_Last]
  refine fun _ => ⟨by simp [InR]; omega, ?_⟩
  refine vc_while (X := Nat) [1, 3, 5] [] (fun k => k ≤ c.regs.length ∧ lastR kind s c.regs = lastU (fun k => (c.regs[k]?).any (covers kind s)) k) (fun k => [(7, enc ((k : Int) - 1))]) (fun _ => []) (fun k => k) c.regs.length ⟨Nat.le_refl _, rfl⟩ (by simp) (by simp) ?_
  rintro k ⟨hk, hP⟩
  rcases Nat.eq_zero_or_pos k with rfl | hk0
  · simp
    exact hP.symm
  · obtain ⟨r, hr⟩ := at_lt (l := c.regs) (k := k - 1) (by omega)
    have e1 : (k : Int) - 1 = ((k - 1 : Nat) : Int) := by omega
    have hst : lastU (fun k => (c.regs[k]?).any (covers kind s)) k = if covers kind s r = true then (k : Int) - 1 else lastU (fun k => (c.regs[k]?).any (covers kind s)) (k - 1) := by
      obtain ⟨j, rfl⟩ : ∃ j, k = j + 1 := ⟨k - 1, by omega⟩
      simp only [Nat.add_sub_cancel] at hr
      simp [lastU, hr]
    rw [hst] at hP
    have hin : covers kind s r = true → (k : Int) - 1 = lastR kind s c.regs := fun h => by rw [hP, if_pos h]
    have hgo : covers kind s r = false → ∃ y, (y ≤ c.regs.length ∧ lastR kind s c.regs = lastU (fun k => (c.regs[k]?).any (covers kind s)) y) ∧ (k : Int) - 1 = ↑y ∧ y < k := fun h =>
      ⟨k - 1, ⟨by omega, by rw [hP, if_neg (by simp [h])]⟩, e1, by omega⟩
    clear hst hP
    simp [hk0, hr, InR]
    refine ⟨fun _ => ⟨by omega, by omega, fun h1 => ⟨fun h2 => ⟨fun h3 => hin (by simp [covers, h1, h2, h3]), fun h3 => ⟨⟨by omega, by omega⟩, hgo ?_⟩⟩, fun h2 => ⟨⟨by omega, by omega⟩, hgo ?_⟩⟩, fun h1 => ⟨⟨by omega, by omega⟩, hgo ?_⟩⟩, fun h => by omega⟩
    · have : ¬ s.e ≤ r.e := by omega
      simp [covers, this]
    · have : ¬ r.b ≤ s.b := by omega
      simp [covers, this]
    · simp [covers, h1]

def expand1 (kind : B) (l : List Region) (s : Span) : Option Span :=
  if lastR kind s l < 0 then none else (l[(lastR kind s l).toNat]?).map fun r => ⟨r.b, r.e⟩
def expS (kind : B) (rs : List Region) (l : List Span) : List Span := l.filterMap (expand1 kind rs)
theorem expS_snoc {kind : B} {rs : List Region} {l : List Span} {k : Nat} {s : Span} (h : l[k]? = some s) : expS kind rs (l.take (k + 1)) = expS kind rs (l.take k) ++ (expand1 kind rs s).toList := by
  unfold expS
  rw [take_snoc h, List.filterMap_append]
  cases h' : expand1 kind rs s <;> simp [h']
theorem expS_len {kind : B} {rs : List Region} {l : List Span} : (expS kind rs l).length ≤ l.length := List.length_filterMap_le _ _
/-- What is asked of Expand's arguments. -/
def P_Expand (x : Corpus × List Span × B) : Prop := x.1.regs.length ≤ 100000 ∧ x.2.1.length ≤ 100000
abbrev s_r30_Expand : Spc := spc (a3 Corpus (List Span) B) P_Expand enc fun x y => IsNorm (expS x.2.2 x.1.regs x.2.1) y
theorem w_r30_Expand (h1 : S f_r27_Insert = s_r27_Insert) (h2 : S f_r28_Last = s_r28_Last) : Walk cc_r30_Expand rs_r30_Expand S (a3 Corpus (List Span) B) P_Expand enc fun x y => IsNorm (expS x.2.2 x.1.regs x.2.1) y := by
  rintro ⟨c, l, kind⟩ ⟨hrl, hl⟩
  simp only at hrl hl
  simp [cc_r30_Expand, rs_r30_Expand]
  intro _
  refine vc_range (X := List Span) [2, 3, 11] [] l.length (fun k r => IsNorm (expS kind c.regs (l.take k)) r) (fun r => [(7, enc r)]) (fun _ => []) [] (by simp) (by simp) (by omega) (by simp) (by simp) (by simp [expS, IsNorm.nil]) (by simp) (by simp) ?_ ?_
  · rintro k r hk hP
    have hr := hP.len
    have hx := List.getElem?_eq_getElem hk
    have hlen : (expS kind c.regs (l.take k)).length ≤ 100000 := Nat.le_trans expS_len (by simp; omega)
    rw [expS_snoc hx]
    rcases lastR_spec kind l[k] c.regs with ⟨e1, _⟩ | ⟨j, g, e1, e2, e3, _⟩
    · simp [h1, h2, hk, e1, expand1]
      exact ⟨hrl, hP⟩
    · have hj : ¬ (j : Int) < 0 := by omega
      simp [h1, h2, hk, e1, e2, expand1, hj]
      refine ⟨hrl, (List.getElem?_eq_some_iff.1 e2).1, ⟨hP.1, by omega⟩, fun y hy => ?_⟩
      exact hP.snoc hy (by simp)
  · rintro r hP
    rw [List.take_length] at hP
    simp
    exact fin_of r (.same _) hP

abbrev s_subcorpus_Expand : Spc := spc (a3 Corpus (List Span) B) P_Expand enc fun x y => IsNorm (expS x.2.2 x.1.regs x.2.1) y
theorem w_subcorpus_Expand (h1 : S f_inside_Last = s_inside_Last) (h2 : S f_subcorpus_sorted = s_subcorpus_sorted) : Walk cc_subcorpus_Expand rs_subcorpus_Expand S (a3 Corpus (List Span) B) P_Expand enc fun x y => IsNorm (expS x.2.2 x.1.regs x.2.1) y := by
  rintro ⟨c, l, kind⟩ ⟨hrl, hl⟩
  simp only at hrl hl
  simp [cc_subcorpus_Expand, rs_subcorpus_Expand]
  intro _
  refine vc_range (X := Value × List Span) [2, 3, 11] [] l.length (fun k x => x.2 = expS kind c.regs (l.take k)) (fun x => [(7, .own 38 x.1)]) (fun x => [(38, .row x.1 ty_Span 2 (x.2.map enc))]) (.slice none 0 0, []) (by simp) (by simp) (by omega) (by simp) (by simp) (by simp [expS]) (by simp) (by simp [isNilRow]) ?_ ?_
  · rintro k ⟨v, r⟩ hk hP
    simp only at hP
    have hx := List.getElem?_eq_getElem hk
    have hlen : (expS kind c.regs (l.take k)).length ≤ 100000 := Nat.le_trans expS_len (by simp; omega)
    have hs := expS_snoc (kind := kind) (rs := c.regs) hx
    rw [← hP] at hs hlen
    rcases lastR_spec kind l[k] c.regs with ⟨e1, _⟩ | ⟨j, g, e1, e2, e3, _⟩
    · rw [hs]
      simp [h1, hk, e1, expand1]
    · have hj : ¬ (j : Int) < 0 := by omega
      rw [hs]
      simp [h1, hk, e1, e2, expand1, hj]
      exact ⟨(List.getElem?_eq_some_iff.1 e2).1, by omega, by omega⟩
  · rintro ⟨v, r⟩ hP
    simp only at hP
    rw [List.take_length] at hP
    subst hP
    have hlen : (expS kind c.regs l).length ≤ 100000 := Nat.le_trans expS_len hl
    simp [h2]
    refine ⟨⟨by simp, by simpa using hlen⟩, fun v r hr => fin_of r (fz_o ty_Span (by simp)) (by simpa [Q_sorted] using hr)⟩
end Go.Gv

namespace Go.Gv
set_option linter.unusedSimpArgs false
set_option linter.unusedVariables false
set_option maxRecDepth 100000
open Cod (enc dec)
variable {S S0 : Nat → Spc}
theorem expand1_some {kind : B} {rs : List Region} {s y : Span} (h : expand1 kind rs s = some y) : expand1 kind rs y = some y ∧ containsS y s = true := by
  unfold expand1 at h
  rcases lastR_spec kind s rs with ⟨e1, _⟩ | ⟨j, g, e1, e2, e3, e4⟩
  · rw [e1] at h; simp at h
  · rw [e1] at h
    have hj : ¬ (j : Int) < 0 := by omega
    simp [hj, e2] at h
    simp only [covers, Bool.and_eq_true, decide_eq_true_eq] at e3
    obtain ⟨c1, c2, c3⟩ := e3
    subst h
    refine ⟨?_, by simp [containsS]; omega⟩
    have hself : covers kind ⟨g.b, g.e⟩ g = true := by simp [covers, c1]
    rcases lastR_spec kind ⟨g.b, g.e⟩ rs with ⟨_, f2⟩ | ⟨k, g', f1, f2, f3, f4⟩
    · have := f2 g (List.mem_of_getElem? e2)
      rw [hself] at this; cases this
    · have hkj : k = j := by
        rcases Nat.lt_trichotomy k j with h | h | h
        · have := f4 j g h e2
          rw [hself] at this; cases this
        · exact h
        · have := e4 k g' h f2
          simp only [covers, Bool.and_eq_true, decide_eq_true_eq] at f3
          obtain ⟨d1, d2, d3⟩ := f3
          have : covers kind s g' = true := by simp [covers, d1]; omega
          simp_all
      subst hkj
      rw [e2] at f2
      cases f2
      simp [expand1, f1, hj, e2]
theorem e_twice (kind : B) (rs : List Region) (l : List Span) : normL (expS kind rs (normL (expS kind rs l))) = normL (expS kind rs l) := normL_eq fun s => by
  simp only [expS, List.mem_filterMap, normL_mem]
  constructor
  · rintro ⟨y, ⟨z, hz, h1⟩, h2⟩
    rw [(expand1_some h1).1] at h2
    cases h2
    exact ⟨z, hz, h1⟩
  · rintro ⟨z, hz, h1⟩
    exact ⟨s, ⟨z, hz, h1⟩, (expand1_some h1).1⟩
theorem w_law30_SubcorpusExpands (k1 : S f_m_New = s_m_New) (k2 : S f_m_Tape_Corpus = s_m_Corpus) (k3 : S f_m_Tape_Spans = s_m_Spans) (k4 : S f_m_Tape_Next = s_m_Next) (k5 : S f_m_Type = s_m_Type)
    (h1 : S f_subcorpus_Expand = s_subcorpus_Expand) (h2 : S f_r27_Same = s_r27_Same) (h3 : S f_r30_Expand = s_r30_Expand) (h4 : S f_r27_Contains = s_r27_Contains) (h7 : S f_law30_known = s_law30_known) :
    Walk cc_law30_SubcorpusExpands rs_law30_SubcorpusExpands S (a1 (List Int)) (fun _ => True) enc fun _ (y : Bool) => y = true := by
  rintro l -
  simp [cc_law30_SubcorpusExpands, rs_law30_SubcorpusExpands, k1, k2]
  intro L c hc b
  refine vc_mid (X := List Span × B) [4] [4] (fun x => x.1.length ≤ 100) (fun x => [(5, enc x.1), (6, enc x.2)]) (fun _ => []) ?_ ?_
  · simp [k3, k4, k5]
    refine ⟨⟨hc, by simp, by simp⟩, fun l hl y _ _ => ⟨trivial, ?_⟩⟩
    have := hl.1
    simp at this
    omega
  · rintro ⟨x, kind⟩ q1
    simp only at q1
    have hl : ∀ l : List Span, (normL l).length ≤ l.length := fun l => (normL_ok l).len
    have a1 : (normL (expS kind c.regs x)).length ≤ 100 := Nat.le_trans (hl _) (Nat.le_trans expS_len q1)
    obtain ⟨c1, c2, c3, c4, c5, c6⟩ := id hc
    have hcov : ∀ y ∈ normL (expS kind c.regs x), ∃ s ∈ x, containsS y s = true := fun y hy => by
      rw [normL_mem] at hy
      simp only [expS, List.mem_filterMap] at hy
      obtain ⟨s, hs, h⟩ := hy
      exact ⟨s, hs, (expand1_some h).2⟩
    simp [h1, h2, h3, ↓all_norm, ↓forall_eq, e_twice]
    generalize normL (expS kind c.regs x) = r at a1 hcov
    refine ⟨⟨by simp only; omega, by simp only; omega⟩, ⟨by simp only; omega, by simp only; omega⟩, fun _ => ?_⟩
    refine vc_range (X := Unit) [5, 43] [] r.length (fun _ _ => True) (fun _ => []) (fun _ => []) () (by simp) (by simp) (by omega) (by simp) (by simp) (by simp) (by simp) (by simp) ?_ ?_
    · rintro k ⟨⟩ hk -
      obtain ⟨y, hy⟩ := at_lt (l := r) hk
      have hgy : r[k] = y := by have := List.getElem?_eq_getElem hk; rw [hy] at this; cases this; rfl
      simp [hk, hgy]
      intro b' _
      refine vc_range (X := Bool) [5, 9, 43, 44, 45, 49] [9] x.length (fun j b => b = (x.take j).any (containsS y)) (fun b => [(10, enc b)]) (fun _ => []) false (by simp) (by simp) (by omega) (by simp) (by simp) (by simp) (by simp) (by simp) ?_ ?_
      · rintro j b hj hb
        obtain ⟨s, hs⟩ := at_lt (l := x) hj
        have hgs : x[j] = s := by have := List.getElem?_eq_getElem hj; rw [hs] at this; cases this; rfl
        have ht : (x.take (j + 1)).any (containsS y) = (b || containsS y s) := by rw [take_snoc hs, List.any_append, ← hb]; simp
        simp [h4, hj, hgs, ht]
        clear hb ht
        cases b <;> cases containsS y s <;> simp
      · rintro b hb
        rw [List.take_length] at hb
        have hbt : b = true := by
          rw [hb, List.any_eq_true]
          exact hcov y (List.mem_of_getElem? hy)
        subst hbt
        simp
    · intro _ _
      simp [h7, isTrue]
end Go.Gv

namespace Go.Gv
open Go.Proofs Cod
set_option maxRecDepth 100000
theorem t_r28_Last : Tri Try.prog f_r28_Last (s_r28_Last).pt :=
  tri_walk (S := tab []) (tab_ok tab_nil) ok_r28_Last (fun _ => Nat.le_of_ble_eq_true rfl) (w_r28_Last)
theorem t_r30_Expand : Tri Try.prog f_r30_Expand (s_r30_Expand).pt :=
  tri_walk (S := tab [(f_r27_Insert, s_r27_Insert), (f_r28_Last, s_r28_Last)]) (tab_ok (tab_cons t_r27_Insert (tab_cons t_r28_Last tab_nil))) ok_r30_Expand (fun _ => Nat.le_of_ble_eq_true rfl) (w_r30_Expand rfl rfl)
theorem t_subcorpus_Expand : Tri Try.prog f_subcorpus_Expand (s_subcorpus_Expand).pt :=
  tri_walk (S := tab [(f_inside_Last, s_inside_Last), (f_subcorpus_sorted, s_subcorpus_sorted)]) (tab_ok (tab_cons t_inside_Last (tab_cons t_subcorpus_sorted tab_nil))) ok_subcorpus_Expand (fun _ => Nat.le_of_ble_eq_true rfl) (w_subcorpus_Expand rfl rfl)
abbrev s_law30_Expands : Spc := spc (a1 (List Int)) (fun _ => True) enc fun _ (y : Bool) => y = true
theorem t_law30_SubcorpusExpands : Tri Try.prog f_law30_SubcorpusExpands (s_law30_Expands).pt :=
  tri_walk (S := tab [(f_m_New, s_m_New), (f_m_Tape_Corpus, s_m_Corpus), (f_m_Tape_Spans, s_m_Spans), (f_m_Tape_Next, s_m_Next), (f_m_Type, s_m_Type), (f_subcorpus_Expand, s_subcorpus_Expand), (f_r27_Same, s_r27_Same), (f_r30_Expand, s_r30_Expand), (f_r27_Contains, s_r27_Contains), (f_law30_known, s_law30_known)]) (tab_ok (tab_cons t_m_New (tab_cons t_m_Tape_Corpus (tab_cons t_m_Tape_Spans (tab_cons t_m_Tape_Next (tab_cons t_m_Type (tab_cons t_subcorpus_Expand (tab_cons t_r27_Same (tab_cons t_r30_Expand (tab_cons t_r27_Contains (tab_cons t_law30_known tab_nil))))))))))) ok_law30_SubcorpusExpands (fun _ => Nat.le_of_ble_eq_true rfl) (w_law30_SubcorpusExpands rfl rfl rfl rfl rfl rfl rfl rfl rfl rfl)
end Go.Gv

namespace Go.Gv
open Go.ChangeShapes Go.WideShapes Go.ChangeAt Go.RowKit
set_option linter.unusedVariables false
section
variable {H : Type} {ec : TypeId × Value → H} {P : Program} {w : World} {base : Nat} {spare : Nat → Bool} {held : Bool} {tp I : Nat → Prop}
/-- Cells that stand for the cells of data. -/
def OpR (tp I : Nat → Prop) (w : World) (cs : List Value) (d : D) : Prop := cs.length = d.cells.length ∧ ∀ (k : Nat) (y : Value) (c : D), cs[k]? = some y → d.cells[k]? = some c → y.oneCell' = true ∧ R tp I w y c
theorem OpR.one {y : Value} {d : D} (h : OpR tp I w [y] d) (hd : d.cells = [d]) : R tp I w y d := (h.2 0 y d rfl (by rw [hd]; rfl)).2
theorem op_int {t : TypeId} {fuel : Nat} {cs : List Value} {x : DataW H × List MemPlace} (ht : P.underlying t = some (.int .i64)) (h : DataW.trod ec P w base spare held fuel t cs = some x) : ∃ n : Int, OpR tp I w cs (Cod.enc n) := by
  obtain ⟨n, rfl, _, _⟩ := DataW.trod_int ht h
  refine ⟨n, rfl, fun k y c h1 h2 => ?_⟩
  cases k with
  | zero => cases h1; cases h2; exact ⟨rfl, .v _ rfl (fun s h => by cases h)⟩
  | succ k => simp at h1
theorem op_slice {Y : Type} [Cod Y] {t e : TypeId} (ht : P.underlying t = some (.slice e)) (hc : P.cellsOf e = Cod.wd Y) (h0 : 0 < Cod.wd Y)
    (hel : ∀ (n : Nat) (cs : List Value) (x : DataW H × List MemPlace), DataW.trod ec P w base spare held n e cs = some x → ∃ y : Y, OpR tp I w cs (Cod.enc y)) (hI : ∀ b, b < w.heap.size → I b)
    {fuel : Nat} {cs : List Value} {x : DataW H × List MemPlace} (h : DataW.trod ec P w base spare held fuel t cs = some x) : ∃ l : List Y, OpR tp I w cs (Cod.enc l) := by
  have one : ∀ (v : Value) (l : List Y), v.oneCell' = true → R tp I w v (.list (Cod.wd Y) (l.map Cod.enc)) → OpR tp I w [v] (Cod.enc l) := fun v l h1 h2 => ⟨rfl, fun k y c e1 e2 => by
    cases k with
    | zero => cases e1; cases e2; exact ⟨h1, h2⟩
    | succ k => simp at e1⟩
  rcases DataW.trod_slice ht h with ⟨rfl, _⟩ | ⟨a, len, cap, elems, rest, n, _, rfl, _, _, hl, hm, hlen, hel', _⟩
  · exact ⟨[], one _ [] rfl (.nolist none 0 _)⟩
  · by_cases hz : len = 0
    · subst hz
      exact ⟨[], one _ [] rfl (.nolist (some a) cap _)⟩
    · have each : ∀ i : _root_.Fin len, ∃ p : List Value × Y, w.cells? base (a.add (i * P.cellsOf e)) (P.cellsOf e) = some p.1 ∧ OpR tp I w p.1 (Cod.enc p.2) := fun i => by
        have h1 := hel' i i.2
        rw [List.getElem?_eq_getElem (by omega)] at h1
        obtain ⟨cs', h2, h3⟩ := Option.bind_eq_some_iff.1 h1
        obtain ⟨y, hy⟩ := hel n cs' _ h3
        exact ⟨(cs', y), h2, hy⟩
      obtain ⟨g, hg⟩ := Classical.axiomOfChoice each
      obtain ⟨b, off, spot⟩ := a
      have cellAt : ∀ (i : _root_.Fin len) (j : Nat), j < Cod.wd Y → ∃ v, (g i).1[j]? = some v ∧ w.cell? ((Addr.add ⟨b, off, spot⟩ (i * Cod.wd Y)).add j) = some v := fun i j hj => by
        have h1 := World.cells?_some (hg i).1
        have h2 := h1.2.2 j (by rw [hc]; exact hj)
        have h3 : j < (g i).1.length := by rw [h1.2.1, hc]; exact hj
        refine ⟨(g i).1[j], List.getElem?_eq_getElem h3, ?_⟩
        rw [hc] at h2
        rw [h2, List.getElem?_eq_getElem h3]
      have hs : spot = none := by
        obtain ⟨v, _, h2⟩ := cellAt ⟨0, by omega⟩ 0 h0
        have := World.cell?_spot h2
        simpa [Addr.add] using this
      subst hs
      have hadd : ∀ (o n : Nat), Addr.add ⟨b, o, none⟩ n = ⟨b, o + n, none⟩ := fun o n => by
        unfold Addr.add
        split
        · rename_i e; subst e; rfl
        · rfl
      have cellAt' : ∀ (i : _root_.Fin len) (j : Nat), j < Cod.wd Y → ∃ v, (g i).1[j]? = some v ∧ w.cell? ⟨b, off + (i * Cod.wd Y + j), none⟩ = some v := fun i j hj => by
        obtain ⟨v, h1, h2⟩ := cellAt i j hj
        refine ⟨v, h1, ?_⟩
        rw [hadd, hadd] at h2
        rw [← Nat.add_assoc]
        exact h2
      have hb : b < w.heap.size := by
        obtain ⟨v, _, h2⟩ := cellAt' ⟨0, by omega⟩ 0 h0
        unfold World.cell? at h2
        by_cases hlt : b < w.heap.size
        · exact hlt
        · simp only [Array.getElem?_eq_none (Nat.le_of_not_lt hlt)] at h2
          cases h2
      let es : List Y := List.ofFn fun i => (g i).2
      have hesl : es.length = len := by simp [es]
      have hesi : ∀ i : _root_.Fin len, (es.map Cod.enc)[(i : Nat)]? = some (Cod.enc (g i).2) := fun i => by
        rw [List.getElem?_map]
        have : es[(i : Nat)]? = some (g i).2 := by simp [es]
        rw [this]; rfl
      have hw : ∀ d ∈ es.map Cod.enc, d.kn = true ∧ d.cells.length = Cod.wd Y := fun d hd => by
        obtain ⟨y, _, rfl⟩ := List.mem_map.1 hd
        exact ⟨Cod.kn y, Cod.wid y⟩
      have flatAt : ∀ (k : Nat) (c : D), (flat (es.map Cod.enc))[k]? = some c → ∃ v, w.cell? ⟨b, off + k, none⟩ = some v ∧ v.oneCell' = true ∧ R tp I w v c := fun k c hk => by
        have hkl := (List.getElem?_eq_some_iff.1 hk).1
        rw [flat_length (fun d hd => (hw d hd).2), List.length_map, hesl] at hkl
        have hdm : k = (k / Cod.wd Y) * Cod.wd Y + k % Cod.wd Y := by have := Nat.div_add_mod k (Cod.wd Y); rw [Nat.mul_comm] at this; omega
        have hmod : k % Cod.wd Y < Cod.wd Y := Nat.mod_lt _ h0
        have hq : k / Cod.wd Y < len := Nat.div_lt_of_lt_mul (by rw [Nat.mul_comm]; exact hkl)
        have g1 := flat_get (es := es.map Cod.enc) (fun d hd => (hw d hd).2) (i := k / Cod.wd Y) hmod
        rw [← hdm, hk, hesi ⟨k / Cod.wd Y, hq⟩] at g1
        simp only [Option.bind_some] at g1
        obtain ⟨v, h1, h2⟩ := cellAt' ⟨k / Cod.wd Y, hq⟩ (k % Cod.wd Y) hmod
        simp only at h2
        rw [← hdm] at h2
        exact ⟨v, h2, (hg ⟨k / Cod.wd Y, hq⟩).2.2 _ v c h1 g1.symm⟩
      have hR : R tp I w (.slice (some ⟨b, off, none⟩) len cap) (.list (Cod.wd Y) (es.map Cod.enc)) := by
        have hll : (es.map (Cod.enc (X := Y))).length = len := by simp [hesl]
        rw [← hll]
        have rd : ∀ (k : Nat) (c : D), (flat (es.map Cod.enc))[k]? = some c → w.cell? ⟨b, off + k, none⟩ = some ((w.cell? ⟨b, off + k, none⟩).getD Go.undef) := fun k c hk => by
          obtain ⟨v, h1, _⟩ := flatAt k c hk
          rw [h1]; rfl
        refine .list b off cap _ (es.map Cod.enc) (fun k => (w.cell? ⟨b, off + k, none⟩).getD Go.undef) (hI b hb) (by rw [hll]; exact hl) hm hw rd (fun k c hk => ?_) (fun k c hk => ?_)
        · obtain ⟨v, h1, h2, _⟩ := flatAt k c hk
          rw [h1]; exact h2
        · obtain ⟨v, h1, _, h2⟩ := flatAt k c hk
          rw [h1]; exact h2
      exact ⟨es, one _ es rfl hR⟩
end
end Go.Gv

namespace Go.Gv
open Go.ChangeShapes Go.WideShapes Go.ChangeAt Go.RowKit
set_option linter.unusedVariables false
section
variable {H : Type} {ec : TypeId × Value → H} {P : Program} {w : World} {base : Nat} {spare : Nat → Bool} {held : Bool} {tp I : Nat → Prop}
theorem op_span {t : TypeId} {f0 f1 : Field} {fuel : Nat} {cs : List Value} {x : DataW H × List MemPlace} (ht : P.underlying t = some (.struct #[f0, f1])) (o0 : f0.offset = 0) (o1 : f1.offset = 1) (c : P.cellsOf t = 2) (c0 : P.cellsOf f0.type = 1) (c1 : P.cellsOf f1.type = 1)
    (i0 : P.underlying f0.type = some (.int .i64)) (i1 : P.underlying f1.type = some (.int .i64)) (h : DataW.trod ec P w base spare held fuel t cs = some x) : ∃ s : Span, OpR tp I w cs (Cod.enc s) := by
  obtain ⟨y0, y1, n, _, hl, h0, h1⟩ := trod_struct2 ht h
  rw [o0, c0] at h0
  rw [o1, c1] at h1
  rw [c] at hl
  match cs, hl with
  | [a, b], _ =>
    simp at h0 h1
    obtain ⟨n0, e0, _⟩ := DataW.trod_int i0 h0
    obtain ⟨n1, e1, _⟩ := DataW.trod_int i1 h1
    simp at e0 e1
    subst e0; subst e1
    refine ⟨⟨n0, n1⟩, rfl, fun k y d k1 k2 => ?_⟩
    rcases k with _ | _ | k
    · cases k1; cases k2; exact ⟨rfl, .v _ rfl (fun s h => by cases h)⟩
    · cases k1; cases k2; exact ⟨rfl, .v _ rfl (fun s h => by cases h)⟩
    · simp at k1
end
abbrev noI (w : World) : Nat → Prop := Imm (fun _ => False) (fun _ => False) noH w
theorem noI_of {w : World} {b : Nat} (h : b < w.heap.size) : noI w b := ⟨h, fun h => h, fun h => h, fun ⟨i, r, h, _⟩ => by simp [noH] at h⟩
/-- A law that holds: it returns true and turns nothing that was there. -/
theorem law_below {P : Program} {f : Nat} {X : Type} {A : Arg X} {q : X → Bool → Prop} (h : Tri P f (spc A (fun _ => True) (Cod.enc (X := Bool)) q).pt) (hq : ∀ x y, q x y → y = true) {w : World} {vs : List Value} {ds : List D} {x : X} (hlen : vs.length = ds.length)
    (hR : ∀ (k : Nat) (y : Value) (c : D), vs[k]? = some y → ds[k]? = some c → R (fun _ => False) (noI w) w y c) (hdec : A.dec ds = some x) :
    Calls P f vs.toArray w fun e w' => e = .returned (.bool true) ∧ Below w.heap.size w w' := by
  obtain ⟨_, hc⟩ := h (fun _ => False) (fun _ => False) w vs ds noH 0 (fun r H' => r = .v (.bool true)) (fun b h => h.elim) (fun b h => h.elim)
    ⟨fun i j r s b h => by simp [noH] at h, fun i r b h => by simp [noH] at h, fun i r h => by simp [noH] at h⟩ hlen hR
    (by rw [spc_pt, hdec]; exact ⟨trivial, fun y hy => by rw [hq x y hy]; rfl⟩)
  refine hc.mono ?_
  rintro e w' ⟨v, r, H', tp', rfl, hr, _, _, _, hs, _, _, hv⟩
  subst hr
  have hv' := hv.inv_v
  subst hv'
  exact ⟨rfl, hs.os, hs.tape, hs.output, hs.size, fun k hk => hs.same k hk (fun ⟨i, r, h, _⟩ => by simp [noH] at h) (fun h => h)⟩
end Go.Gv
