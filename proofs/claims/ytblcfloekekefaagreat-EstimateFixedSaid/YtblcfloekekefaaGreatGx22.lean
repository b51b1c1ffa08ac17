/- A part of the framework and of the walks: V11 W42 W51 W53 W54 W39. -/
import Derived.Test.YtblcfloekekefaaGreatGx17
import Derived.Test.YtblcfloekekefaaGreatGx21
import Derived.Test.YtblcfloekekefaaGreatGx18
import Derived.Test.YtblcfloekekefaaGreatGx14
import Derived.Test.YtblcfloekekefaaGreatGx13
import Derived.Test.YtblcfloekekefaaGreatGx20
import Derived.Test.YtblcfloekekefaaGreatGx19

namespace Go.Gv
set_option linter.unusedSimpArgs false
set_option linter.unusedVariables false
/-- A condition of at most n levels below the top, at most two kids each. -/
def CS : Nat → Cond → Prop
  | 0, c => c.kids = []
  | n + 1, c => c.kids.length ≤ 2 ∧ ∀ k ∈ c.kids, CS n k
theorem cs_nil {n : Nat} {c : Cond} (h : c.kids = []) : CS n c := by
  cases n
  · exact h
  · exact ⟨by rw [h]; exact Nat.zero_le _, fun k hk => by rw [h] at hk; simp at hk⟩
theorem cs_one {n m : Nat} {c a : Cond} (hm : n = m + 1) (h : c.kids = [a]) (ha : CS m a) : CS n c := by
  subst hm
  refine ⟨by rw [h]; exact Nat.le_succ _, fun k hk => ?_⟩
  rw [h] at hk
  have : k = a := by simpa using hk
  subst this
  exact ha
theorem cs_two {n m : Nat} {c a b : Cond} (hm : n = m + 1) (h : c.kids = [a, b]) (ha : CS m a) (hb : CS m b) : CS n c := by
  subst hm
  refine ⟨by rw [h]; exact Nat.le_refl _, fun k hk => ?_⟩
  rw [h] at hk
  have : k = a ∨ k = b := by simpa using hk
  rcases this with rfl | rfl
  · exact ha
  · exact hb
theorem cs_same {n : Nat} {c d : Cond} (h : c.kids = d.kids) (hd : CS n d) : CS n c := by
  cases n
  · exact h.trans hd
  · exact ⟨by rw [h]; exact hd.1, fun k hk => hd.2 k (by rw [← h]; exact hk)⟩
theorem cs_len {n : Nat} {c : Cond} (h : CS n c) : c.kids.length ≤ 2 := by
  cases n
  · have : c.kids = [] := h
    rw [this]; exact Nat.zero_le _
  · exact h.1
/-- A pattern of at most n levels below the top, at most two kids each, with small conditions. -/
def PD : Nat → Pat → Prop
  | 0, p => (∃ m, CS m p.cond) ∧ p.kids = []
  | n + 1, p => (∃ m, CS m p.cond) ∧ p.kids.length ≤ 2 ∧ ∀ k ∈ p.kids, PD n k
theorem pd_nil {n : Nat} {p : Pat} (hc : ∃ m, CS m p.cond) (h : p.kids = []) : PD n p := by
  cases n
  · exact ⟨hc, h⟩
  · exact ⟨hc, by rw [h]; exact Nat.zero_le _, fun k hk => by rw [h] at hk; simp at hk⟩
theorem pd_one {n m : Nat} {p a : Pat} (hm : n = m + 1) (hc : ∃ m, CS m p.cond) (h : p.kids = [a]) (ha : PD m a) : PD n p := by
  subst hm
  refine ⟨hc, by rw [h]; exact Nat.le_succ _, fun k hk => ?_⟩
  rw [h] at hk
  have : k = a := by simpa using hk
  subst this
  exact ha
theorem pd_two {n m : Nat} {p a b : Pat} (hm : n = m + 1) (hc : ∃ m, CS m p.cond) (h : p.kids = [a, b]) (ha : PD m a) (hb : PD m b) : PD n p := by
  subst hm
  refine ⟨hc, by rw [h]; exact Nat.le_refl _, fun k hk => ?_⟩
  rw [h] at hk
  have : k = a ∨ k = b := by simpa using hk
  rcases this with rfl | rfl
  · exact ha
  · exact hb
theorem cs_c0 : ∃ m, CS m Cond0 := ⟨0, rfl⟩
theorem pd_cond {n : Nat} {p : Pat} (h : PD n p) : ∃ m, CS m p.cond := by cases n <;> exact h.1
theorem pd_len {n : Nat} {p : Pat} (h : PD n p) : p.kids.length ≤ 2 := by
  cases n
  · rw [h.2]; exact Nat.zero_le _
  · exact h.2.1
theorem pd_kid {n : Nat} {p k : Pat} (h : PD n p) (hk : k ∈ p.kids) : ∃ m, n = m + 1 ∧ PD m k := by
  cases n
  · rw [h.2] at hk; simp at hk
  · exact ⟨_, rfl, h.2.2 k hk⟩
theorem cs_kid {n : Nat} {p k : Cond} (h : CS n p) (hk : k ∈ p.kids) : ∃ m, n = m + 1 ∧ CS m k := by
  cases n
  · have h : p.kids = [] := h
    rw [h] at hk; simp at hk
  · exact ⟨_, rfl, h.2 k hk⟩
/-- What is known of generated patterns carries over. -/
def Keeps (a b : Pat) : Prop := ∀ lb m, WP lb m a → WP lb m b
theorem keeps_of {p y : Pat} (h1 : y.op = p.op) (h2 : y.lab = p.lab) (h3 : y.reg = p.reg) (h4 : y.mn = p.mn) (h5 : y.mx = p.mx) (h6 : p.cond = Cond0 → y.cond = Cond0) (h7 : y.kids.length = p.kids.length)
    (h8 : ∀ (i : Nat) (a b : Pat), p.kids[i]? = some a → y.kids[i]? = some b → Keeps a b) : Keeps p y := by
  have k0 : p.kids = [] → y.kids = [] := fun h => List.eq_nil_of_length_eq_zero (by rw [h7, h]; rfl)
  have w0 : ∀ lb, WP0 lb p → WP0 lb y := fun lb h => by
    rcases h with ⟨a1, a2, a3, a4, a5, a6⟩ | ⟨a1, a2, a3, a4, a5, a6, a7⟩
    · exact .inl ⟨h1.trans a1, by rw [h2]; exact a2, h3.trans a3, h4.trans a4, h5.trans a5, k0 a6⟩
    · exact .inr ⟨by rw [h1]; exact a1, h6 a2, h2.trans a3, by rw [h3]; exact a4, h4.trans a5, h5.trans a6, k0 a7⟩
  intro lb m hp
  rcases wp_cases hp with hp | ⟨n, rfl, (⟨a1, a2, a3, a4, a5, a6, a, b, a7, ha, hb⟩ | ⟨a1, a2, a3, a4, a5, a, a7, ha⟩)⟩
  · exact wp0 (w0 lb hp)
  · obtain ⟨c, d, e⟩ : ∃ c d, y.kids = [c, d] := by
      rw [a7] at h7
      match hy : y.kids, h7 with
      | [c, d], _ => exact ⟨c, d, rfl⟩
      | [], h => exact absurd h (by simp)
      | [x], h => exact absurd h (by simp)
      | x :: z :: u :: v, h => exact absurd h (by simp)
    rw [a7, e] at h8
    exact .inr (.inl ⟨by rw [h1]; exact a1, h6 a2, h2.trans a3, h3.trans a4, h4.trans a5, h5.trans a6, c, d, e, h8 0 a c rfl rfl lb n ha, h8 1 b d rfl rfl lb n hb⟩)
  · obtain ⟨c, e⟩ : ∃ c, y.kids = [c] := by
      rw [a7] at h7
      match hy : y.kids, h7 with
      | [c], _ => exact ⟨c, rfl⟩
      | [], h => exact absurd h (by simp)
      | x :: z :: v, h => exact absurd h (by simp)
    rw [a7, e] at h8
    exact .inr (.inr ⟨h1.trans a1, h6 a2, h2.trans a3, h3.trans a4, by rw [h4, h5]; exact a5, c, e, h8 0 a c rfl rfl lb n ha⟩)
end Go.Gv

namespace Go.Gv
set_option linter.unusedSimpArgs false
set_option linter.unusedVariables false
set_option maxRecDepth 100000
open Cod (enc dec)
variable {S S0 : Nat → Spc}
abbrev s_m_TypeN : Spc := spc (a1 Int) anyX (enc (X := B)) (fun _ y => y ∈ Types)
theorem w_m_TypeN (h1 : S f_m_Mod = s_m_Mod) : Walk cc_m_Type rs_m_Type S (a1 Int) anyX (enc (X := B)) (fun _ y => y ∈ Types) := by
  rintro n -
  simp [cc_m_Type, rs_m_Type, h1]
  have h3 := modI_rng n 3 (by omega)
  refine ⟨h3.1, h3.2, ?_⟩
  have : modI n 3 = 0 ∨ modI n 3 = 1 ∨ modI n 3 = 2 := by omega
  rcases this with h | h | h <;> simp [h, Types, b_s, b_np, b_t]
def P_gen (n : Nat) (x : List Int × Int × List B) : Prop := x.2.1.toNat < n ∧ -10 ≤ x.2.1 ∧ x.2.1 ≤ 100 ∧ x.2.2.length ≤ 1000
def Q_gen (x : List Int × Int × List B) (y : Cond) : Prop := CS x.2.1.toNat y
abbrev s_m_inner (n : Nat) : Spc := spc (aT (a2 Int (List B))) (P_gen n) (enc (X := Cond)) Q_gen
theorem fin_cond {q : Cond → Prop} {H : HMap} {op : Int} {n a v l : B} {f : Bool} {d : D} (ks : List Cond) (hd : FrzTo H d (enc ks)) (hq : q ⟨op, n, a, v, l, f, ks⟩) : Fin enc q (.agg [.v (.int .i64 op), .v (.string n), .v (.string a), .v (.string v), .v (.string l), .v (.bool f), d]) H := by
  refine fin_of (⟨op, n, a, v, l, f, ks⟩ : Cond) ?_ hq
  rw [enc_Cond]
  refine .agg rfl fun k x y hx hy => ?_
  rcases k with _ | _ | _ | _ | _ | _ | _ | k
  · cases hx; cases hy; exact .same _
  · cases hx; cases hy; exact .same _
  · cases hx; cases hy; exact .same _
  · cases hx; cases hy; exact .same _
  · cases hx; cases hy; exact .same _
  · cases hx; cases hy; exact .same _
  · cases hx; cases hy; exact hd
  · simp at hx
theorem strs8 (a b c d e f g h : B) : D.list 1 [.v (.string a), .v (.string b), .v (.string c), .v (.string d), .v (.string e), .v (.string f), .v (.string g), .v (.string h)] = .list 1 (strs [a, b, c, d, e, f, g, h]) := id rfl
theorem strs4 (a b c d : B) : D.list 1 [.v (.string a), .v (.string b), .v (.string c), .v (.string d)] = .list 1 (strs [a, b, c, d]) := id rfl
theorem w_m_inner (n : Nat) (h1 : S f_m_Tape_Next = s_m_Next) (h2 : S f_m_Type = s_m_TypeN) (h3 : S f_m_Tape_inner = s_m_inner n) : Walk cc_m_Tape_inner rs_m_Tape_inner S (aT (a2 Int (List B))) (P_gen (n + 1)) (enc (X := Cond)) Q_gen := by
  rintro ⟨L, deep, lb⟩ ⟨hn, hd0, hd1, hlb⟩
  simp only at hn hd0 hd1 hlb
  simp [cc_m_Tape_inner, rs_m_Tape_inner, h1]
  intro b6 k0 hk0 hk1
  refine vc_mid (X := Int) [0, 1, 2, 6] [6] (fun k => 0 ≤ k ∧ k < 12 ∧ (deep < 1 → k < 8)) (fun k => [(7, enc k)]) (fun _ => []) ?_ ?_
  · simp
    have : k0.tmod 8 = k0 % 8 := Int.tmod_eq_emod_of_nonneg hk0
    rw [this]
    omega
  rintro k ⟨q0, q1, q2⟩
  refine vc_mid (X := Unit) [0, 1, 2, 6, 7] [6] (fun _ => 10 ≤ k) (fun _ => []) (fun _ => []) ?_ ?_
  · simp
    refine vc_mid (X := Bool) [0, 1, 2, 6, 7, 15] [6] (fun b => b = decide (k < 4)) (fun b => [(16, enc b)]) (fun _ => []) ?_ ?_
    · simp
      repeat' first | apply And.intro | intro _
      all_goals first | omega | (rw [Bool.eq_iff_iff]; simp; omega)
    rintro b hb
    simp [h1, strs2, strs3, strs8, strs4, strs_len, strs_at, -Bool.forall_bool]
    refine ⟨fun _ y hy0 hy1 => ⟨hy0, hy1, fun a ha y hy0 hy1 => ⟨hy0, hy1, fun a' ha' y hy0 hy1 => fin_cond [] (.nil _) (cs_nil rfl)⟩⟩, fun hb0 => ?_⟩
    rw [hb0] at hb
    have hb : 4 ≤ k := by simpa using hb.symm
    refine ⟨fun _ y hy0 hy1 => ⟨hy0, hy1, fun a ha => fin_cond [] (.nil _) (cs_nil rfl)⟩, fun k4 => ⟨fun _ _ => ⟨fun hl y hy0 hy1 => ⟨hy0, hy1, fun a ha _ => ⟨by omega, fun y hy => ⟨by omega, by omega, fun a' ha' y hy0 hy1 => ⟨hy0, hy1, fun a'' ha'' => fin_cond [] (.nil _) (cs_nil rfl)⟩⟩⟩⟩, fun _ => fin_cond [] (.nil _) (cs_nil rfl)⟩, fun k5 => ?_⟩⟩
    refine vc_mid (X := Bool) [0, 1, 2, 6, 7, 15] [6] (fun b => b = decide (k = 6 ∨ k = 7)) (fun b => [(67, enc b)]) (fun _ => []) ?_ ?_
    · simp
      repeat' first | apply And.intro | intro _
      all_goals first | omega | (rw [Bool.eq_iff_iff]; simp; omega)
    rintro b hb2
    simp [h1, h2, -Bool.forall_bool]
    refine ⟨fun _ y hy0 hy1 => ⟨trivial, fun t ht b8 => ?_⟩, fun hb0 => ?_⟩
    · refine vc_mid (X := B × B) [6, 8] [6] (fun _ => True) (fun _ => []) (fun x => [(8, .box b8 [.v (.int .i64 5), .v (.string t), .v (.string x.1), .v (.string x.2), .v (.string ⟨#[]⟩), .v (.bool false), .v (.slice none 0 0)])]) ?_ ?_
      · simp [h1, strs2, strs_len, strs_at]
        refine fun y hy0 hy1 => ⟨fun _ z hz0 hz1 => ⟨hz0, hz1, fun a ha => ⟨_, _, .inl ⟨rfl, rfl⟩⟩⟩, fun _ => ⟨_, _, .inl ⟨rfl, rfl⟩⟩⟩
      · rintro ⟨a, v⟩ -
        simp
        exact fin_cond [] (.nil _) (cs_nil rfl)
    rw [hb0] at hb2
    have hb2 : ¬ (k = 6 ∨ k = 7) := by simpa using hb2.symm
    refine vc_mid (X := Bool) [0, 1, 2, 6, 7, 15] [6] (fun b => b = decide (k = 8 ∨ k = 9)) (fun b => [(85, enc b)]) (fun _ => []) ?_ ?_
    · simp
      repeat' first | apply And.intro | intro _
      all_goals first | omega | (rw [Bool.eq_iff_iff]; simp; omega)
    rintro b hb3
    simp [h3, -Bool.forall_bool]
    have hrec : 1 ≤ deep → P_gen n (L, deep - 1, lb) := fun h => ⟨by show (deep - 1).toNat < n; omega, by show -10 ≤ deep - 1; omega, by show deep - 1 ≤ 100; omega, hlb⟩
    refine ⟨fun hb1 => ?_, fun hb0 => ?_⟩
    · rw [hb1] at hb3
      have hb3 : k = 8 ∨ k = 9 := by simpa using hb3.symm
      have hdn : deep.toNat = (deep - 1).toNat + 1 := by omega
      refine ⟨by simp only [InR]; omega, hrec (by omega), fun y hy => fin_cond [y] (by simp) (cs_one hdn rfl hy)⟩
    rw [hb0] at hb3
    have hb3 : ¬ (k = 8 ∨ k = 9) := by simpa using hb3.symm
    omega
  · rintro - hk
    have hrec : P_gen n (L, deep - 1, lb) := ⟨by show (deep - 1).toNat < n; omega, by show -10 ≤ deep - 1; omega, by show deep - 1 ≤ 100; omega, hlb⟩
    have hdn : deep.toNat = (deep - 1).toNat + 1 := by omega
    simp [h3]
    refine ⟨by simp only [InR]; omega, by simp only [InR]; omega, by simp only [InR]; omega, hrec, fun y hy => ⟨by simp only [InR]; omega, hrec, fun y' hy' => fin_cond [y, y'] (by simp) (cs_two hdn rfl hy hy')⟩⟩
abbrev s_m_Cond : Spc := spc (aT (a2 Int (List B))) (fun x => -10 ≤ x.2.1 ∧ x.2.1 ≤ 100 ∧ x.2.2.length ≤ 1000) (enc (X := Cond)) Q_gen
abbrev s_m_innerA : Spc := spc (aT (a2 Int (List B))) (fun x => ∃ n, P_gen n x) (enc (X := Cond)) Q_gen
theorem w_m_Cond (h1 : S f_m_Tape_Next = s_m_Next) (h3 : S f_m_Tape_inner = s_m_innerA) : Walk cc_m_Tape_Cond rs_m_Tape_Cond S (aT (a2 Int (List B))) (fun x => -10 ≤ x.2.1 ∧ x.2.1 ≤ 100 ∧ x.2.2.length ≤ 1000) (enc (X := Cond)) Q_gen := by
  rintro ⟨L, deep, lb⟩ ⟨hd0, hd1, hlb⟩
  simp only at hd0 hd1 hlb
  simp [cc_m_Tape_Cond, rs_m_Tape_Cond, h1]
  intro b6
  refine vc_mid (X := Unit) [0, 1, 2, 6] [6] (fun _ => True) (fun _ => []) (fun _ => []) ?_ ?_
  · simp [h1, strs4, strs_len, strs_at, -Bool.forall_bool]
    exact fun y _ _ => ⟨fun _ => fin_cond [] (.nil _) (cs_nil rfl), fun _ => ⟨fun _ z z0 z1 => ⟨z0, z1, fun a _ u _ _ => fin_cond [] (.nil _) (cs_nil rfl)⟩, fun _ _ z z0 z1 => ⟨z0, z1, fun a _ u _ _ => fin_cond [] (.nil _) (cs_nil rfl)⟩⟩⟩
  · rintro - -
    have hrec : ∃ n, P_gen n (L, deep, lb) := ⟨deep.toNat + 1, Nat.lt_succ_self _, hd0, hd1, hlb⟩
    simp [h3, hrec]
    exact fun y hy => fin_cond y.kids (.same _) (cs_same (d := y) rfl hy)
theorem fin_pat {q : Pat → Prop} {H : HMap} {op o : Int} {n a v l lb rg : B} {f : Bool} {cd d : D} {mn mx : Int} (cks : List Cond) (ks : List Pat) (hc : FrzTo H cd (enc cks)) (hd : FrzTo H d (enc ks)) (hq : q ⟨op, ⟨o, n, a, v, l, f, cks⟩, lb, rg, mn, mx, ks⟩) :
    Fin enc q (.agg [.v (.int .i64 op), .v (.int .i64 o), .v (.string n), .v (.string a), .v (.string v), .v (.string l), .v (.bool f), cd, .v (.string lb), .v (.string rg), .v (.int .i64 mn), .v (.int .i64 mx), d]) H := by
  refine fin_of (⟨op, ⟨o, n, a, v, l, f, cks⟩, lb, rg, mn, mx, ks⟩ : Pat) ?_ hq
  rw [enc_Pat]
  refine .agg rfl fun k x y hx hy => ?_
  rcases k with _ | _ | _ | _ | _ | _ | _ | _ | _ | _ | _ | _ | _ | k
  · cases hx; cases hy; exact .same _
  · cases hx; cases hy; exact .same _
  · cases hx; cases hy; exact .same _
  · cases hx; cases hy; exact .same _
  · cases hx; cases hy; exact .same _
  · cases hx; cases hy; exact .same _
  · cases hx; cases hy; exact .same _
  · cases hx; cases hy; exact hc
  · cases hx; cases hy; exact .same _
  · cases hx; cases hy; exact .same _
  · cases hx; cases hy; exact .same _
  · cases hx; cases hy; exact .same _
  · cases hx; cases hy; exact hd
  · simp at hx
def P_pat (n : Nat) (x : List Int × Int × List B) : Prop := x.2.1.toNat < n ∧ -10 ≤ x.2.1 ∧ x.2.1 ≤ 100 ∧ x.2.2.length ≤ 1000
def Q_pat (x : List Int × Int × List B) (p : Pat) : Prop := WP x.2.2 x.2.1.toNat p ∧ PD x.2.1.toNat p
abbrev s_m_Pattern (n : Nat) : Spc := spc (aT (a2 Int (List B))) (P_pat n) (enc (X := Pat)) Q_pat
theorem w_m_Pattern (n : Nat) (h1 : S f_m_Tape_Next = s_m_Next) (h2 : S f_m_Type = s_m_TypeN) (h3 : S f_m_Tape_Cond = s_m_Cond) (h4 : S f_m_Tape_Pattern = s_m_Pattern n) : Walk cc_m_Tape_Pattern rs_m_Tape_Pattern S (aT (a2 Int (List B))) (P_pat (n + 1)) (enc (X := Pat)) Q_pat := by
  rintro ⟨L, deep, lb⟩ ⟨hn, hd0, hd1, hlb⟩
  simp only at hn hd0 hd1 hlb
  simp [cc_m_Tape_Pattern, rs_m_Tape_Pattern, h1]
  intro b6 k0 hk0 hk1
  refine vc_mid (X := Int) [0, 1, 2, 6] [6] (fun k => 0 ≤ k ∧ k < 14 ∧ (deep < 1 → k < 7)) (fun k => [(7, enc k)]) (fun _ => []) ?_ ?_
  · simp
    have : k0.tmod 7 = k0 % 7 := Int.tmod_eq_emod_of_nonneg hk0
    rw [this]
    omega
  rintro k ⟨q0, q1, q2⟩
  refine vc_mid (X := Unit) [0, 1, 2, 6] [6] (fun _ => 12 ≤ k) (fun _ => []) (fun _ => []) ?_ ?_
  · have hrec : 1 ≤ deep → P_pat n (L, deep - 1, lb) := fun h => ⟨by show (deep - 1).toNat < n; omega, by show -10 ≤ deep - 1; omega, by show deep - 1 ≤ 100; omega, hlb⟩
    have hdn : 1 ≤ deep → deep.toNat = (deep - 1).toNat + 1 := fun h => by omega
    simp [h1, h2, h3, h4, -Bool.forall_bool]
    refine ⟨fun hk => ⟨hlb, fun c hc b8 => ?_⟩, fun hk => ⟨fun hk7 => ⟨by simp only [InR]; omega, by simp only [InR]; omega, fun y _ _ => ⟨trivial, fun t ht => fin_pat [] [] (.nil _) (.nil _) ⟨wp0 (.inr ⟨by show (2 + k - 5 = 2 ∨ 2 + k - 5 = 3); omega, rfl, rfl, ht, rfl, rfl, rfl⟩), pd_nil cs_c0 rfl⟩⟩⟩, fun hk7 => ⟨fun hk10 => ⟨by simp only [InR]; omega, hrec (by omega), fun y hy => ⟨by simp only [InR]; omega, hrec (by omega), fun y' hy' => ?_⟩⟩, fun hk10 hk12 => ⟨by simp only [InR]; omega, hrec (by omega), fun y hy => ⟨by simp only [InR]; omega, hrec (by omega), fun y' hy' => ?_⟩⟩⟩⟩⟩
    · refine vc_mid (X := B) [6, 8] [6] (fun x => x = ⟨#[]⟩ ∨ x ∈ lb) (fun _ => []) (fun x => [(8, .box b8 [.v (.int .i64 1), .v (.int .i64 c.op), .v (.string c.name), .v (.string c.arg), .v (.string c.val), .v (.string c.lab), .v (.bool c.fold), enc c.kids, .v (.string x), .v (.string ⟨#[]⟩), .v (.int .i64 0), .v (.int .i64 0), .v (.slice none 0 0)])]) ?_ ?_
      · simp [h1]
        exact fun _ h0 y _ _ _ _ => ⟨by omega, fun z hz => ⟨by omega, by omega, fun a ha => .inr ⟨a, mem_at ha, .inl rfl⟩⟩⟩
      · rintro x hx
        simp
        exact fin_pat c.kids [] (.same _) (.nil _) ⟨wp0 (.inl ⟨rfl, hx, rfl, rfl, rfl, rfl⟩), pd_nil ⟨_, cs_same (d := c) rfl hc⟩ rfl⟩
    · refine fin_pat [] [y, y'] (.nil _) (by simp) ?_
      refine ⟨?_, pd_two (hdn (by omega)) cs_c0 rfl hy.2 hy'.2⟩
      show WP lb deep.toNat _
      rw [hdn (by omega)]
      exact .inr (.inl ⟨.inl rfl, rfl, rfl, rfl, rfl, rfl, y, y', rfl, hy.1, hy'.1⟩)
    · refine fin_pat [] [y, y'] (.nil _) (by simp) ?_
      refine ⟨?_, pd_two (hdn (by omega)) cs_c0 rfl hy.2 hy'.2⟩
      show WP lb deep.toNat _
      rw [hdn (by omega)]
      exact .inr (.inl ⟨.inr rfl, rfl, rfl, rfl, rfl, rfl, y, y', rfl, hy.1, hy'.1⟩)
  · rintro - hk
    have hrec : P_pat n (L, deep - 1, lb) := ⟨by show (deep - 1).toNat < n; omega, by show -10 ≤ deep - 1; omega, by show deep - 1 ≤ 100; omega, hlb⟩
    have hdn : deep.toNat = (deep - 1).toNat + 1 := by omega
    have fin : ∀ (mn mx : Int) (y : Pat) (H : HMap), (mn, mx) ∈ Reps → Q_pat (L, deep - 1, lb) y → Fin enc (Q_pat (L, deep, lb)) (.agg [.v (.int .i64 6), .v (.int .i64 0), .v (.string ⟨#[]⟩), .v (.string ⟨#[]⟩), .v (.string ⟨#[]⟩), .v (.string ⟨#[]⟩), .v (.bool false), .v (.slice none 0 0), .v (.string ⟨#[]⟩), .v (.string ⟨#[]⟩), .v (.int .i64 mn), .v (.int .i64 mx), .list 13 [enc y]]) H := by
      intro mn mx y H hm hy
      refine fin_pat [] [y] (.nil _) (by simp) ?_
      refine ⟨?_, pd_one hdn cs_c0 rfl hy.2⟩
      show WP lb deep.toNat _
      rw [hdn]
      exact .inr (.inr ⟨rfl, rfl, rfl, rfl, hm, y, rfl, hy.1⟩)
    simp only [enc_Pat] at fin
    simp [h1, h4]
    intro y hy0 hy1
    refine ⟨hy0, hy1, fun d hd => ?_⟩
    have : y = 0 ∨ y = 1 ∨ y = 2 ∨ y = 3 ∨ y = 4 ∨ y = 5 ∨ y = 6 := by omega
    rcases this with rfl | rfl | rfl | rfl | rfl | rfl | rfl
    all_goals (simp at hd; subst hd; simp [h4])
    all_goals exact ⟨by simp only [InR]; omega, hrec, fun y hy => fin _ _ y _ (by simp [Reps]) hy⟩
end Go.Gv

namespace Go.Gv
set_option linter.unusedSimpArgs false
set_option linter.unusedVariables false
set_option maxRecDepth 100000
open Cod (enc dec)
variable {S S0 : Nat → Spc}
@[simp] abbrev F_alt (n : Nat) (s : Pst) (_ : Unit) : Option (Pst × Pat) := altF n s
abbrev s_alt (n : Nat) : Spc := psF a0 (enc (X := Pat)) (F_alt n)
@[simp] abbrev F_item (A : Pst → Option (Pst × Pat)) (s : Pst) (_ : Unit) : Option (Pst × Pat) := itemF A s
abbrev s_item (A : Pst → Option (Pst × Pat)) : Spc := psF a0 (enc (X := Pat)) (F_item A)
@[simp] abbrev F_rep (A : Pst → Option (Pst × Pat)) (s : Pst) (_ : Unit) : Option (Pst × Pat) := repF A s
abbrev s_rep (A : Pst → Option (Pst × Pat)) : Spc := psF a0 (enc (X := Pat)) (F_rep A)
@[simp] abbrev F_seq (A : Pst → Option (Pst × Pat)) (s : Pst) (_ : Unit) : Option (Pst × Pat) := seqF A s
abbrev s_seq (A : Pst → Option (Pst × Pat)) : Spc := psF a0 (enc (X := Pat)) (F_seq A)
theorem frz_pat {H : HMap} {op o : Int} {n a v l lb rg : B} {f : Bool} {cd d : D} {mn mx : Int} (cks : List Cond) (ks : List Pat) (hc : FrzTo H cd (enc cks)) (hd : FrzTo H d (enc ks)) :
    FrzTo H (.agg [.v (.int .i64 op), .v (.int .i64 o), .v (.string n), .v (.string a), .v (.string v), .v (.string l), .v (.bool f), cd, .v (.string lb), .v (.string rg), .v (.int .i64 mn), .v (.int .i64 mx), d]) (enc (⟨op, ⟨o, n, a, v, l, f, cks⟩, lb, rg, mn, mx, ks⟩ : Pat)) := by
  rw [enc_Pat]
  refine .agg rfl fun k x y hx hy => ?_
  rcases k with _ | _ | _ | _ | _ | _ | _ | _ | _ | _ | _ | _ | _ | k
  · cases hx; cases hy; exact .same _
  · cases hx; cases hy; exact .same _
  · cases hx; cases hy; exact .same _
  · cases hx; cases hy; exact .same _
  · cases hx; cases hy; exact .same _
  · cases hx; cases hy; exact .same _
  · cases hx; cases hy; exact .same _
  · cases hx; cases hy; exact hc
  · cases hx; cases hy; exact .same _
  · cases hx; cases hy; exact .same _
  · cases hx; cases hy; exact .same _
  · cases hx; cases hy; exact .same _
  · cases hx; cases hy; exact hd
  · simp at hx
theorem finP {b : Nat} {post : Pst → Pat → Prop} {H : HMap} {op o : Int} {n a v l lb rg : B} {f : Bool} {cd d : D} {mn mx : Int} (s : Pst) (cks : List Cond) (ks : List Pat) (hc : FrzTo (fun i => if i = 0 then none else H i) cd (enc cks)) (hd : FrzTo (fun i => if i = 0 then none else H i) d (enc ks))
    (h0 : H 0 = some (.box b (cePst s))) (hq : post s ⟨op, ⟨o, n, a, v, l, f, cks⟩, lb, rg, mn, mx, ks⟩) :
    FinPS enc b post (.agg [.v (.int .i64 op), .v (.int .i64 o), .v (.string n), .v (.string a), .v (.string v), .v (.string l), .v (.bool f), cd, .v (.string lb), .v (.string rg), .v (.int .i64 mn), .v (.int .i64 mx), d]) H :=
  finPS s _ (frz_pat cks ks hc hd) h0 hq
theorem eatF_cases {s : Pst} {t : B} {r : Pst × Bool} (h : eatF s t = some r) : (r = (s, false) ∧ isF s 111 t = some false) ∨ (r = (s.step, true) ∧ isF s 111 t = some true) := by
  unfold eatF at h
  obtain ⟨v, hv, rfl⟩ := Option.map_eq_some_iff.1 h
  cases v
  · exact .inl ⟨rfl, hv⟩
  · exact .inr ⟨rfl, hv⟩
theorem eat_no {s : Pst} {x : Tok} {t : B} (he : s.e = 0) (hx : nowT s = some x) (h : ¬ (x.kind = 111 ∧ x.text = t)) : eatF s t = some (s, false) := by
  rw [eatF, kind_eq he hx, decide_eq_false h]; rfl
theorem eat_yes {s : Pst} {x : Tok} {t : B} (he : s.e = 0) (hx : nowT s = some x) (h1 : x.kind = 111) (h2 : x.text = t) : eatF s t = some (s.step, true) := by
  rw [eatF, kind_eq he hx, decide_eq_true ⟨h1, h2⟩]; rfl
theorem w_item (n : Nat) (h1 : S f_r23_parser_now = s_now) (h2 : S f_r23_parser_eat = s_eat) (h3 : S f_r23_parser_want = s_want) (h4 : S f_r23_parser_fold = s_fold) (h5 : S f_r23_parser_alt = s_alt n) :
    WalkPS cc_r23_parser_item rs_r23_parser_item S a0 (enc (X := Pat)) (fun s z => ∃ r, F_item (altF n) s z = some r) (fun s z s' y => F_item (altF n) s z = some (s', y)) := by
  rintro b s ⟨⟩ ⟨⟨s', y⟩, hr⟩
  have hr0 := hr
  simp only [F_item, itemF] at hr
  obtain ⟨⟨s1, v⟩, he1, hr⟩ := Option.bind_eq_some_iff.1 hr
  rcases eatF_cases he1 with ⟨e, hi⟩ | ⟨e, hi⟩
  · cases e
    simp only [Bool.false_eq_true, if_false] at hr
    split at hr
    · cases hr
    rename_i he
    have he : s.e = 0 := by simpa using he
    obtain ⟨x, hx, hr⟩ := Option.bind_eq_some_iff.1 hr
    split at hr
    · cases hr
    rename_i hk
    have hk : x.kind = 115 := by simpa using hk
    obtain ⟨⟨s2, w⟩, hf, hr⟩ := Option.map_eq_some_iff.1 hr
    cases hr
    have n2 : eatF s ⟨#[60]⟩ = some (s, false) := eat_no he hx (by omega)
    have n3 : eatF s ⟨#[60, 47]⟩ = some (s, false) := eat_no he hx (by omega)
    have hw : wantF s 115 ⟨#[]⟩ = some (s.step, x.text) := by
      rw [wantF, if_neg (by simp [he]), hx, Option.bind_some, if_neg (by rw [hk]; simp)]
    simp [cc_r23_parser_item, rs_r23_parser_item, h1, h2, he1, n2, n3, he, eta0 he, hx, hk, h3, h4, hw, hf, -Bool.forall_bool, -Bool.exists_bool]
    exact fun b1 => finP s2 [] [] (.nil _) (.nil _) (by simp) hr0
  · cases e
    simp only [if_true] at hr
    obtain ⟨he, x, hx, _⟩ := isF_true hi
    split at hr
    · rename_i hdp
      obtain ⟨⟨s2, p⟩, ha, hr⟩ := Option.bind_eq_some_iff.1 hr
      simp only at ha hr
      split at hr
      · rename_i hdp2
        obtain ⟨⟨s3, w⟩, hw, hr⟩ := Option.map_eq_some_iff.1 hr
        cases hr
        have hd0 : InR .i64 (s.deep + 1) := by simp only [InR]; omega
        have hd1 : InR .i64 (s2.deep - 1) := by simp only [InR]; omega
        simp [Pst.step] at ha
        simp [cc_r23_parser_item, rs_r23_parser_item, h2, he1, h5, h3, Pst.step, hd0, hd1, ha, hw, -Bool.forall_bool, -Bool.exists_bool]
        exact fun b1 => finPS s3 y (by simp) (by simp) hr0
      · cases hr
    · cases hr
end Go.Gv

namespace Go.Gv
set_option linter.unusedSimpArgs false
set_option linter.unusedVariables false
set_option maxRecDepth 100000
open Cod (enc dec)
variable {S S0 : Nat → Spc}
theorem oneOr_n {op : Int} {l : List Pat} (h : l.length ≠ 1) : oneOr op l = ⟨op, Cond0, E0, E0, 0, 0, l⟩ := by
  match l, h with
  | [], _ => rfl
  | [x], h => exact absurd rfl h
  | x :: y :: l, _ => rfl
@[simp] abbrev F_altS (A : Pst → Option (Pst × Pat)) (s : Pst) (_ : Unit) : Option (Pst × Pat) := altS A s
theorem w_seq (A : Pst → Option (Pst × Pat)) (h1 : S f_r23_parser_begins = s_begins23) (h2 : S f_r23_parser_rep = s_rep A) :
    WalkPS cc_r23_parser_seq rs_r23_parser_seq S a0 (enc (X := Pat)) (fun s z => ∃ r, F_seq A s z = some r) (fun s z s' y => F_seq A s z = some (s', y)) := by
  rintro b s ⟨⟩ ⟨⟨s', y⟩, hr⟩
  have hr0 := hr
  simp only [F_seq, seqF] at hr
  obtain ⟨⟨s1, x1⟩, hi, hr⟩ := Option.bind_eq_some_iff.1 hr
  obtain ⟨⟨s2, l2⟩, hl, hr⟩ := Option.map_eq_some_iff.1 hr
  simp only at hl hr
  cases hr
  simp [cc_r23_parser_seq, rs_r23_parser_seq, h2, hi]
  intro b2 v0
  refine vc_while (X := Nat × Pst × Value × List Pat) [0, 2] [2] (fun z => seqLoop A z.1 z.2.1 z.2.2.2 = some (s', l2) ∧ z.2.2.2.length + z.1 ≤ 101) (fun z => [(3, .own 6 z.2.2.1)]) (fun z => [(0, .box b (cePst z.2.1)), (6, .row z.2.2.1 ty_Pattern 13 (z.2.2.2.map enc))]) (fun z => z.1) (100, s1, v0, [x1]) ⟨hl, by simp⟩ (by simp) (by simp) ?_
  clear hr hl hi
  rintro ⟨k, s, v, l⟩ ⟨hk, hlen⟩
  simp only at hk hlen
  obtain _ | k := k
  · rw [seqLoop] at hk; cases hk
  rw [seqLoop] at hk
  obtain ⟨v1, hb, hk⟩ := Option.bind_eq_some_iff.1 hk
  cases v1
  · simp only [Bool.false_eq_true, if_false] at hk
    cases hk
    simp [h1, hb, -Bool.forall_bool, -Bool.exists_bool]
    clear h1 h2
    refine fun _ => ⟨fun h1 => ⟨by omega, fun a ha => ?_⟩, fun hne => ?_⟩
    · have e : l2 = [a] := by
        match l2, h1, ha with
        | [x], _, ha => simp at ha; rw [ha]
      rw [e] at hr0
      exact finPS s' a (by simp) (by simp) hr0
    · rw [oneOr_n (by omega)] at hr0
      exact finP s' [] l2 (.nil _) (fz_o ty_Pattern (by simp)) (by simp) hr0
  · simp only [if_true] at hk
    obtain ⟨⟨s3, x3⟩, hx, hk⟩ := Option.bind_eq_some_iff.1 hk
    simp only at hk
    simp [h1, hb, h2, hx, -Bool.forall_bool, -Bool.exists_bool]
    exact ⟨by omega, by omega, fun v' => ⟨k, s3, v', l ++ [x3], ⟨hk, by simp; omega⟩, ⟨rfl, .inl ⟨rfl, rfl, rfl, rfl, rfl⟩, .inl ⟨rfl, by simp⟩⟩, by omega⟩⟩
theorem w_alt (A : Pst → Option (Pst × Pat)) (h1 : S f_r23_parser_eat = s_eat) (h2 : S f_r23_parser_seq = s_seq A) :
    WalkPS cc_r23_parser_alt rs_r23_parser_alt S a0 (enc (X := Pat)) (fun s z => ∃ r, F_altS A s z = some r) (fun s z s' y => F_altS A s z = some (s', y)) := by
  rintro b s ⟨⟩ ⟨⟨s', y⟩, hr⟩
  have hr0 := hr
  simp only [F_altS, altS] at hr
  obtain ⟨⟨s1, x1⟩, hi, hr⟩ := Option.bind_eq_some_iff.1 hr
  obtain ⟨⟨s2, l2⟩, hl, hr⟩ := Option.map_eq_some_iff.1 hr
  simp only at hl hr
  cases hr
  simp [cc_r23_parser_alt, rs_r23_parser_alt, h2, hi]
  intro b2 v0
  refine vc_while (X := Nat × Pst × Value × List Pat) [0, 2] [2] (fun z => altLoop A z.1 z.2.1 z.2.2.2 = some (s', l2) ∧ z.2.2.2.length + z.1 ≤ 101) (fun z => [(3, .own 6 z.2.2.1)]) (fun z => [(0, .box b (cePst z.2.1)), (6, .row z.2.2.1 ty_Pattern 13 (z.2.2.2.map enc))]) (fun z => z.1) (100, s1, v0, [x1]) ⟨hl, by simp⟩ (by simp) (by simp) ?_
  clear hr hl hi
  rintro ⟨k, s, v, l⟩ ⟨hk, hlen⟩
  simp only at hk hlen
  obtain _ | k := k
  · rw [altLoop] at hk; cases hk
  rw [altLoop] at hk
  obtain ⟨⟨s4, v1⟩, hb, hk⟩ := Option.bind_eq_some_iff.1 hk
  simp only at hk
  cases v1
  · simp only [Bool.false_eq_true, if_false] at hk
    cases hk
    simp [h1, hb, -Bool.forall_bool, -Bool.exists_bool]
    clear h1 h2
    refine fun _ => ⟨fun h1 => ⟨by omega, fun a ha => ?_⟩, fun hne => ?_⟩
    · have e : l2 = [a] := by
        match l2, h1, ha with
        | [x], _, ha => simp at ha; rw [ha]
      rw [e] at hr0
      exact finPS s' a (by simp) (by simp) hr0
    · rw [oneOr_n (by omega)] at hr0
      exact finP s' [] l2 (.nil _) (fz_o ty_Pattern (by simp)) (by simp) hr0
  · simp only [if_true] at hk
    obtain ⟨⟨s3, x3⟩, hx, hk⟩ := Option.bind_eq_some_iff.1 hk
    simp only at hk
    simp [h1, hb, h2, hx, -Bool.forall_bool, -Bool.exists_bool]
    exact ⟨by omega, by omega, fun v' => ⟨k, s3, v', l ++ [x3], ⟨hk, by simp; omega⟩, ⟨rfl, .inl ⟨rfl, rfl, rfl, rfl, rfl⟩, .inl ⟨rfl, by simp⟩⟩, by omega⟩⟩
end Go.Gv

namespace Go.Gv
set_option linter.unusedSimpArgs false
set_option linter.unusedVariables false
set_option maxRecDepth 100000
open Cod (enc dec)
variable {S S0 : Nat → Spc}
def dgB (c : Int) : Bool := decide (48 ≤ c ∧ c ≤ 57)
abbrev s_isDigit : Spc := spc (a1 U8) (fun _ => True) (enc (X := Bool)) fun x y => y = dgB x.val
theorem w_isLetter : Walk cc_r23_isLetter rs_r23_isLetter S (a1 U8) (fun _ => True) (enc (X := Bool)) fun x y => y = begB x.val := by
  rintro ⟨c⟩ -
  simp [cc_r23_isLetter, rs_r23_isLetter, begB]
  repeat' first | apply And.intro | intro _
  all_goals first | omega | (rw [Bool.eq_iff_iff]; simp; omega)
theorem w_isDigit : Walk cc_r23_isDigit rs_r23_isDigit S (a1 U8) (fun _ => True) (enc (X := Bool)) fun x y => y = dgB x.val := by
  rintro ⟨c⟩ -
  simp [cc_r23_isDigit, rs_r23_isDigit, dgB]
  repeat' first | apply And.intro | intro _
  all_goals first | omega | (rw [Bool.eq_iff_iff]; simp; omega)
abbrev s_signs : Spc := spc a0 (fun _ => True) (enc (X := List B)) fun _ y => y = signsL
theorem w_signs : Walk cc_r23_signs rs_r23_signs S a0 (fun _ => True) (enc (X := List B)) fun _ y => y = signsL := by
  rintro x -
  simp [cc_r23_signs, rs_r23_signs]
  exact fin_of signsL (.same _) rfl
theorem isSp_at {s : B} {i : Nat} {c : UInt8} (h : s.data[i]? = some c) : isSp s i = decide (c.toNat = 32 ∨ c.toNat = 10) := by rw [isSp, h]
theorem isDg_at {s : B} {i : Nat} {c : UInt8} (h : s.data[i]? = some c) : isDg s i = decide (48 ≤ c.toNat ∧ c.toNat ≤ 57) := by rw [isDg, h]
theorem byte_at {s : B} {i : Nat} (h : i < s.size) : ∃ c, s.data[i]? = some c := ⟨s.data[i], Array.getElem?_eq_getElem h⟩
theorem skipF_le (s : B) : ∀ (n i : Nat), s.size - i = n → i ≤ s.size → i ≤ skipF s i ∧ skipF s i ≤ s.size
  | 0, i, h, hi => by rw [skipF_end (by omega)]; omega
  | n + 1, i, h, hi => by
    rw [skipF_step (by omega)]
    split
    · have := skipF_le s n (i + 1) (by omega) (by omega); omega
    · omega
abbrev s_scan : Spc := spc (a1 B) (fun s => ∃ r, scanF s = some r) (enc (X := List Tok)) fun s y => scanF s = some y
theorem w_scan (h1 : S f_r23_isLetter = s_begins) (h2 : S f_r23_isDigit = s_isDigit) (h3 : S f_r23_signs = s_signs) : Walk cc_r23_scan rs_r23_scan S (a1 B) (fun s => ∃ r, scanF s = some r) (enc (X := List Tok)) fun s y => scanF s = some y := by
  rintro s ⟨fin, hfin⟩
  have hsz : s.size ≤ 100000 := by
    by_cases h : s.size ≤ 100000
    · exact h
    · rw [scanF, if_neg h] at hfin; cases hfin
  have hfin0 := hfin
  rw [scanF, if_pos hsz] at hfin
  simp [cc_r23_scan, rs_r23_scan]
  refine vc_while (X := Nat × Nat × Value × List Tok) [0] [] (fun z => scanN z.1 s z.2.1 z.2.2.2 = some fin ∧ z.2.1 ≤ s.size ∧ z.2.2.2.length ≤ z.2.1) (fun z => [(3, .own 200 z.2.2.1), (4, enc (z.2.1 : Int))]) (fun z => [(200, .row z.2.2.1 ty_corporaref23_token 3 (z.2.2.2.map enc))]) (fun z => z.1) (100000, 0, .slice none 0 0, []) ⟨hfin, by simp, by simp⟩ (by simp) (by simp [isNilRow]) ?_
  clear hfin
  rintro ⟨k, i, v, out⟩ ⟨hk, hi, hlen⟩
  simp only at hk hi hlen
  obtain _ | k := k
  · rw [scanN] at hk; cases hk
  rw [scanN] at hk
  simp
  refine vc_mid (X := Unit) [0, 3] [200] (fun _ => True) (fun _ => [(4, enc ((skipF s i : Nat) : Int))]) (fun _ => []) ?_ ?_
  · simp
    refine vc_while (X := Nat) [0, 3] [200] (fun j => i ≤ j ∧ j ≤ s.size ∧ skipF s j = skipF s i) (fun j => [(4, enc (j : Int))]) (fun _ => []) (fun j => s.size - j) i ⟨Nat.le_refl _, hi, rfl⟩ (by simp) (by simp) ?_
    rintro j ⟨j0, j1, j2⟩
    simp
    refine fun _ => ⟨fun hj => ⟨hj, fun c hc => ⟨fun h32 => ⟨hj, fun c' hc' => ?_⟩, fun h32 => ?_⟩⟩, fun hj => ?_⟩
    · rw [hc] at hc'
      cases hc'
      have hst := skipF_step hj
      rw [isSp_at hc] at hst
      refine ⟨fun h10 => ⟨by simp only [InR]; omega, j + 1, ⟨by omega, by omega, ?_⟩, by omega, by omega⟩, fun h10 => ?_⟩
      · rw [← j2, hst, if_pos (by simp; omega)]
      · rw [← j2, hst, if_neg (by simp; omega)]
    · have hst := skipF_step hj
      rw [isSp_at hc] at hst
      refine ⟨by simp only [InR]; omega, j + 1, ⟨by omega, by omega, ?_⟩, by omega, by omega⟩
      rw [← j2, hst, if_pos (by simp; omega)]
    · rw [← j2, skipF_end hj]
  rintro - -
  have hsk := skipF_le s _ i rfl hi
  generalize hi' : skipF s i = i' at hk hsk
  simp
  refine fun _ => ⟨fun he => ⟨by omega, by omega, fun v' => ?_⟩, fun hne => ?_⟩
  · rw [if_pos (by omega)] at hk
    refine fin_of fin (fz_o ty_corporaref23_token ?_) hfin0
    cases hk
    rw [show (i' : Int) = (s.size : Int) by omega]
    simp
  rw [if_neg (by omega)] at hk
  obtain ⟨⟨j, t⟩, ht, hk⟩ := Option.bind_eq_some_iff.1 hk
  simp only at hk
  split at hk
  · rename_i hj
    refine vc_mid (X := Value) [0] [] (fun _ => True) (fun v' => [(5, enc (j : Int)), (3, .own 200 v')]) (fun v' => [(200, .row v' ty_corporaref23_token 3 ((out ++ [t]).map enc))]) ?_ ?_
    · obtain ⟨c, hc⟩ := byte_at (s := s) (i := i') (by omega)
      unfold tokF at ht
      rw [hc] at ht
      simp only at ht
      split at ht
      · cases ht
      rename_i hL
      have hbeg : begB (c.toNat : Int) = false := by unfold begB; rw [decide_eq_false]; omega
      split at ht
      · rename_i hD
        cases ht
        have hdg : dgB (c.toNat : Int) = true := by unfold dgB; rw [decide_eq_true]; omega
        simp [h1, h2, hc, hbeg, hdg]
        refine ⟨by omega, ?_⟩
        refine vc_while (X := Nat) [0, 3, 4] [200] (fun j => i' ≤ j ∧ j ≤ s.size ∧ digF s j = digF s i') (fun j => [(5, enc (j : Int))]) (fun _ => []) (fun j => s.size - j) i' ⟨Nat.le_refl _, by omega, rfl⟩ (by simp) (by simp) ?_
        rintro j ⟨j0, j1, j2⟩
        simp [h2]
        refine fun _ => ⟨fun hj2 => ⟨hj2, fun d hd => ⟨fun hdt => ⟨by simp only [InR]; omega, j + 1, ⟨by omega, by omega, ?_⟩, by omega, by omega⟩, fun hdf => ⟨j0, j1, by omega, by omega, fun v' => ⟨v', ⟨?_, rfl⟩, .inl ⟨rfl, ?_⟩⟩⟩⟩⟩, fun hj2 => ⟨j0, j1, by omega, by omega, fun v' => ⟨v', ⟨?_, rfl⟩, .inl ⟨rfl, ?_⟩⟩⟩⟩
        · have hst := digF_step hj2
          rw [isDg_at hd, decide_eq_true (by unfold dgB at hdt; simp at hdt; omega), if_pos rfl] at hst
          rw [← j2, hst]
        · have hst := digF_step hj2
          rw [isDg_at hd, decide_eq_false (by unfold dgB at hdf; simp at hdf; omega), if_neg (by simp)] at hst
          rw [← j2, hst]
        · have hst := digF_step hj2
          rw [isDg_at hd, decide_eq_false (by unfold dgB at hdf; simp at hdf; omega), if_neg (by simp)] at hst
          rw [← j2, hst]
        · rw [← j2, digF_end hj2]
        · rw [← j2, digF_end hj2]
      · rename_i hD
        have hdg : dgB (c.toNat : Int) = false := by unfold dgB; rw [decide_eq_false]; omega
        split at ht
        · rename_i hQ
          obtain ⟨⟨q, w⟩, hq, ht⟩ := Option.map_eq_some_iff.1 ht
          cases ht
          have hQ' : (c.toNat : Int) = 34 := by omega
          rw [hQ'] at hbeg hdg
          simp [h1, h2, hc, hbeg, hdg, hQ']
          refine ⟨by omega, by simp only [InR]; omega, ?_⟩
          refine vc_while (X := Nat × B) [0, 3, 4] [200] (fun z => quoF s z.1 z.2 = some (q, w) ∧ z.1 ≤ s.size ∧ i' < z.1 ∧ z.2.size ≤ z.1) (fun z => [(5, enc (z.1 : Int)), (6, enc z.2), (7, enc false)]) (fun _ => []) (fun z => s.size - z.1) (i' + 1, ⟨#[]⟩) ⟨hq, by omega, by omega, Nat.zero_le _⟩ (by simp) (by simp) ?_
          rintro ⟨j, u⟩ ⟨j0, j1, j2, j3⟩
          simp only at j0 j1 j2 j3
          simp
          clear h1 h2 h3
          refine fun _ => ⟨fun hjs => ⟨hjs, fun d hd => ?_⟩, fun hjs => ?_⟩
          · rw [quoF_step hd] at j0
            refine ⟨fun h34 => ⟨by simp only [InR]; omega, fun _ => ⟨fun hj1 => ⟨by simp only [InR]; omega, by omega, hj1, fun d' hd' => ⟨fun h34' => ?_, fun h34' => ?_⟩⟩, fun hj1 => ?_⟩⟩, fun h34 => ?_⟩
            · rw [if_pos (by omega), hd'] at j0
              simp only at j0
              rw [if_pos (by omega)] at j0
              cases j0
            · rw [if_pos (by omega), hd'] at j0
              simp only at j0
              rw [if_neg (by omega)] at j0
              cases j0
              exact ⟨by simp only [InR]; omega, by omega, by omega, fun v' => ⟨v', ⟨rfl, rfl⟩, .inl ⟨rfl, rfl⟩⟩⟩
            · have hnone : s.data[j + 1]? = none := Array.getElem?_eq_none (by show s.size ≤ j + 1; omega)
              rw [if_pos (by omega), hnone] at j0
              cases j0
              exact ⟨by simp only [InR]; omega, by omega, by omega, fun v' => ⟨v', ⟨rfl, rfl⟩, .inl ⟨rfl, rfl⟩⟩⟩
            · rw [if_neg (by omega)] at j0
              refine ⟨by simp only [InR]; omega, by omega, by omega, by omega, by simp only [InR]; omega, j + 1, _, ⟨j0, by omega, by omega, ?_⟩, ⟨by omega, rfl⟩, by omega⟩
              rw [ByteArray.size_append, ByteArray.size_extract]
              omega
          · rw [quoF_end hjs] at j0
            cases j0
        · rename_i hQ
          have hQ' : ¬ (c.toNat : Int) = 34 := by omega
          split at ht
          · cases ht
          · rename_i x hx
            cases ht
            simp [h1, h2, h3, hc, hbeg, hdg, hQ']
            refine ⟨by omega, fun _ => ?_⟩
            refine vc_range (X := Unit) [0, 3, 4, 5, 38] [200] signsL.length (fun k _ => (signsL.drop k).find? (preB s i') = some x) (fun _ => []) (fun _ => []) () (by simp) (by simp) (by decide) (by simp) (by simp) (by simpa using hx) (by simp) (by simp) ?_ ?_
            · rintro m - hm hP
              obtain ⟨y, hy⟩ := at_lt hm
              obtain ⟨_, hgy⟩ := List.getElem?_eq_some_iff.1 hy
              rw [drop_cons_of hy, List.find?_cons] at hP
              have hpre : preB s i' y = decide (i' + y.size ≤ s.size ∧ s.extract i' (i' + y.size) = y) := rfl
              have e1 : ((i' : Int) + (y.size : Int)).toNat = i' + y.size := by omega
              simp [hm, hy, hgy, e1]
              clear h1 h2 h3
              refine fun _ => ⟨by simp only [InR]; omega, fun _ => ⟨fun hle _ => ⟨by simp only [InR]; omega, by omega, by omega, fun hex _ => ⟨by simp only [InR]; omega, fun hz => ?_, fun _ => ?_⟩, fun hex => ?_⟩, fun hlt => ?_⟩⟩
              · rw [hpre, decide_eq_true ⟨by omega, hex⟩] at hP
                cases hP
                omega
              · rw [hpre, decide_eq_true ⟨by omega, hex⟩] at hP
                cases hP
                exact ⟨by omega, by omega, by omega, by omega, fun v' => ⟨v', ⟨rfl, rfl⟩, .inl ⟨rfl, rfl⟩⟩⟩
              · rw [hpre, decide_eq_false (fun h => hex h.2)] at hP
                exact hP
              · rw [hpre, decide_eq_false (fun h => by have := h.1; omega)] at hP
                exact hP
            · rintro - hP
              rw [List.drop_length] at hP
              cases hP
    · rintro v' -
      simp
      exact ⟨k, j, v', out ++ [t], ⟨hk, hj.1, by simp; omega⟩, ⟨⟨rfl, rfl⟩, .inl ⟨rfl, by simp⟩⟩, by omega⟩
  · cases hk
end Go.Gv

namespace Go.Gv
set_option linter.unusedSimpArgs false
set_option linter.unusedVariables false
set_option maxRecDepth 100000
open Cod (enc dec)
variable {S S0 : Nat → Spc}
abbrev s_Compact_Source : Spc := ioC (Y := Span) a0 (fun _ l => l.length ≤ 100000) (fun _ l r => r = cptS l) ty_Source 2
theorem w_slices_Compact_Source : WalkIO (Y := Span) cc_slices_Compact_Source rs_slices_Compact_Source S a0 (fun _ l => l.length ≤ 100000) (fun _ l r => r = cptS l) ty_Source 2 := by
  rintro v l ⟨⟩ hl
  simp [cc_slices_Compact_Source, rs_slices_Compact_Source]
  refine fun _ => ⟨fun h => ?_, fun h2 => ?_⟩
  · exact finF_of l (by simp) (cptS_short (by omega)).symm
  · refine vc_while (X := Nat) [0] [0] (fun k => 1 ≤ k ∧ k ≤ l.length ∧ cptS (l.take k) = l.take k) (fun k => [(3, enc (k : Int))]) (fun _ => []) (fun k => l.length - k) 1 ?_ (by simp) (by simp) ?_
    · exact ⟨by omega, by omega, cptS_one (by omega)⟩
    · rintro k ⟨hk1, hk2, hP⟩
      by_cases hkl : k < l.length
      · obtain ⟨x, hx⟩ := at_lt hkl
        obtain ⟨y, hy⟩ := at_lt (l := l) (k := k - 1) (by omega)
        have e1 : ((k : Int) - 1).toNat = k - 1 := by omega
        have e2 : ((k : Int) < l.length) := by omega
        have e3 : ¬ l.length ≤ k := by omega
        simp [hx, hy, InR, e1, e3]
        intro _ _
        have hstep := cptS_step hk1 hx hy
        refine ⟨hkl, by omega, by omega, by omega, by omega, fun q1 q2 => ⟨hk2, ?_⟩, fun hne => ⟨by omega, k + 1, ⟨by omega, by omega, ?_⟩, by omega, by omega⟩⟩
        · -- from here on elements are moved
          have hxy : x = y := Span.ext' q1 q2
          rw [if_pos hxy] at hstep
          refine vc_mid (X := Nat × List Span) [0] [] (fun z => z.2.length = l.length ∧ z.1 ≤ l.length ∧ z.2.take z.1 = cptS l) (fun z => [(3, enc (z.1 : Int))]) (fun z => [(0, .row v ty_Source 2 (z.2.map enc))]) ?_ ?_
          · simp
            refine vc_while (X := Nat × Nat × List Span) [0, 4] [] (fun z => z.2.2.length = l.length ∧ 1 ≤ z.2.1 ∧ k + z.2.1 ≤ l.length ∧ z.1 < k + z.2.1 ∧ z.2.2.take z.1 = cptS (l.take (k + z.2.1)) ∧ z.2.2.drop (k + z.2.1 - 1) = l.drop (k + z.2.1 - 1)) (fun z => [(3, enc (z.1 : Int)), (5, enc (z.2.1 : Int))]) (fun z => [(0, .row v ty_Source 2 (z.2.2.map enc))]) (fun z => l.length - z.2.1) (k, 1, l) ?_ (by simp) (by simp) ?_
            · simp
              refine ⟨by omega, ?_⟩
              rw [hstep, hP]
            · rintro ⟨i, j, cur⟩ ⟨c1, c2, c3, c4, c5, c6⟩
              simp at c1 c2 c3 c4 c5 c6
              by_cases hj : j < l.length - k
              · obtain ⟨a, ha⟩ := at_lt (l := l) (k := k + j) (by omega)
                obtain ⟨b, hb⟩ := at_lt (l := l) (k := k + j - 1) (by omega)
                have ha' : cur[k + j]? = some a := (drop_at c6 (by omega)).trans ha
                have hb' : cur[k + (j - 1)]? = some b := by
                  rw [show k + (j - 1) = k + j - 1 by omega]; exact (drop_at c6 (Nat.le_refl _)).trans hb
                obtain ⟨u, hu⟩ := at_lt (l := cur) (k := i) (by omega)
                have hs := cptS_step (j := k + j) (by omega) ha hb
                have hj' : ¬ l.length - k ≤ j := by omega
                simp [ha', hb', hu, InR, hj']
                intro _ _
                refine ⟨by omega, by omega, by omega, by omega, by omega, by omega, fun hne => ⟨by omega, by omega, by omega, by omega, by omega, i + 1, j + 1, cur.set i a, ⟨by simp; omega, by omega, by omega, by omega, ?_, ?_⟩, ⟨by omega, .inl ?_⟩, by omega⟩, fun q3 q4 => ⟨by omega, i, j + 1, cur, ⟨c1, by omega, by omega, by omega, ?_, ?_⟩, ⟨by omega, .inl rfl⟩, by omega⟩⟩
                · rw [(set_take_drop (m := k + j) (l := l) (by omega) c4 (drop_more c6 (by omega))).1, c5, show k + (j + 1) = k + j + 1 by omega, hs, if_neg]
                  rintro rfl
                  rcases hne with h | h <;> exact h rfl
                · rw [show k + (j + 1) - 1 = k + j by omega]
                  exact (set_take_drop (m := k + j) (l := l) (by omega) c4 (drop_more c6 (by omega))).2
                · exact set_encS cur i a
                · rw [c5, show k + (j + 1) = k + j + 1 by omega, hs, if_pos (Span.ext' q3 q4)]
                · exact drop_more c6 (by omega)
              · have hj' : j = l.length - k := by omega
                subst hj'
                simp
                intro _
                refine ⟨i, cur, ⟨c1, by omega, ?_⟩, rfl, .inl rfl⟩
                rw [c5, show k + (l.length - k) = l.length by omega, List.take_length]
          · rintro ⟨i, cur⟩ ⟨c1, c2, c3⟩
            simp at c1 c2 c3
            simp
            refine ⟨by omega, by omega, fun v => finF_of (cptS l) ?_ rfl⟩
            have e : (cptS l).map enc = (cur.map enc).take i := by rw [← c3, List.map_take]
            rw [e]
            simp [List.take_append, c1, c2]
        · rw [if_neg (fun e => by subst e; exact hne rfl rfl)] at hstep
          rw [hstep, hP, take_snoc hx]
      · have e3 : k = l.length := by omega
        subst e3
        simp
        rw [List.take_length] at hP
        exact fun _ => finF_of l (by simp) hP.symm

section
variable {α : Type} [DecidableEq α]
def ddG (l : List α) (x : α) : List α := if l.getLast? = some x then l else l ++ [x]
def cptG (l : List α) : List α := l.foldl ddG []
theorem cptG_snoc (l : List α) (x : α) : cptG (l ++ [x]) = ddG (cptG l) x := by simp [cptG]
theorem cptG_last (l : List α) : (cptG l).getLast? = l.getLast? := by
  refine list_snoc (P := fun l => (cptG l).getLast? = l.getLast?) rfl (fun l x ih => ?_) l
  rw [cptG_snoc, ddG]
  split
  · rename_i h; rw [h]; simp
  · simp
theorem cptG_len (l : List α) : (cptG l).length ≤ l.length := by
  refine list_snoc (P := fun l => (cptG l).length ≤ l.length) (Nat.le_refl _) (fun l x ih => ?_) l
  rw [cptG_snoc, ddG]
  split <;> simp <;> omega
theorem cptG_mem (l : List α) : ∀ x, x ∈ cptG l ↔ x ∈ l := by
  refine list_snoc (P := fun l => ∀ x, x ∈ cptG l ↔ x ∈ l) (fun x => Iff.rfl) (fun l y ih x => ?_) l
  rw [cptG_snoc, ddG]
  split
  · rename_i h
    rw [cptG_last] at h
    have hy : y ∈ l := List.mem_of_getLast? h
    simp [ih x]
    rintro rfl; exact hy
  · simp [ih x]
theorem cptG_short {l : List α} (h : l.length < 2) : cptG l = l := by
  match l, h with
  | [], _ => rfl
  | [x], _ => rfl
  | x :: y :: l, h => exact absurd h (by simp only [List.length_cons]; omega)
theorem cptG_one {l : List α} (h : 1 ≤ l.length) : cptG (l.take 1) = l.take 1 := cptG_short (by simp; omega)
theorem cptG_step {l : List α} {j : Nat} {x y : α} (hj : 1 ≤ j) (hx : l[j]? = some x) (hy : l[j - 1]? = some y) : cptG (l.take (j + 1)) = if x = y then cptG (l.take j) else cptG (l.take j) ++ [x] := by
  rw [take_snoc hx, cptG_snoc, ddG, cptG_last]
  have : (l.take j).getLast? = some y := by
    have e := take_snoc hy
    rw [Nat.sub_add_cancel hj] at e
    rw [e]; simp
  rw [this]
  by_cases h : x = y
  · subst h; simp
  · have : ¬ y = x := fun e => h e.symm
    simp [h, this]
end
abbrev s_Compact_int : Spc := ioC (Y := Int) a0 (fun _ l => l.length ≤ 100000) (fun _ l r => r = cptG l) ty_int 1
theorem w_slices_Compact_int : WalkIO (Y := Int) cc_slices_Compact_int rs_slices_Compact_int S a0 (fun _ l => l.length ≤ 100000) (fun _ l r => r = cptG l) ty_int 1 := by
  rintro v l ⟨⟩ hl
  simp [cc_slices_Compact_int, rs_slices_Compact_int]
  refine fun _ => ⟨fun h => ?_, fun h2 => ?_⟩
  · exact finF_of l (by simp) (cptG_short (by omega)).symm
  · refine vc_while (X := Nat) [0] [0] (fun k => 1 ≤ k ∧ k ≤ l.length ∧ cptG (l.take k) = l.take k) (fun k => [(3, enc (k : Int))]) (fun _ => []) (fun k => l.length - k) 1 ?_ (by simp) (by simp) ?_
    · exact ⟨by omega, by omega, cptG_one (by omega)⟩
    · rintro k ⟨hk1, hk2, hP⟩
      by_cases hkl : k < l.length
      · obtain ⟨x, hx⟩ := at_lt hkl
        obtain ⟨y, hy⟩ := at_lt (l := l) (k := k - 1) (by omega)
        have e1 : ((k : Int) - 1).toNat = k - 1 := by omega
        have e2 : ((k : Int) < l.length) := by omega
        have e3 : ¬ l.length ≤ k := by omega
        simp [hx, hy, InR, e1, e3]
        intro _ _
        have hstep := cptG_step hk1 hx hy
        refine ⟨hkl, by omega, by omega, by omega, by omega, fun q1 => ⟨hk2, ?_⟩, fun hne => ⟨by omega, k + 1, ⟨by omega, by omega, ?_⟩, by omega, by omega⟩⟩
        · -- from here on elements are moved
          have hxy : x = y := q1
          rw [if_pos hxy] at hstep
          refine vc_mid (X := Nat × List Int) [0] [] (fun z => z.2.length = l.length ∧ z.1 ≤ l.length ∧ z.2.take z.1 = cptG l) (fun z => [(3, enc (z.1 : Int))]) (fun z => [(0, .row v ty_int 1 (z.2.map enc))]) ?_ ?_
          · simp
            refine vc_while (X := Nat × Nat × List Int) [0, 4] [] (fun z => z.2.2.length = l.length ∧ 1 ≤ z.2.1 ∧ k + z.2.1 ≤ l.length ∧ z.1 < k + z.2.1 ∧ z.2.2.take z.1 = cptG (l.take (k + z.2.1)) ∧ z.2.2.drop (k + z.2.1 - 1) = l.drop (k + z.2.1 - 1)) (fun z => [(3, enc (z.1 : Int)), (5, enc (z.2.1 : Int))]) (fun z => [(0, .row v ty_int 1 (z.2.2.map enc))]) (fun z => l.length - z.2.1) (k, 1, l) ?_ (by simp) (by simp) ?_
            · simp
              refine ⟨by omega, ?_⟩
              rw [hstep, hP]
            · rintro ⟨i, j, cur⟩ ⟨c1, c2, c3, c4, c5, c6⟩
              simp at c1 c2 c3 c4 c5 c6
              by_cases hj : j < l.length - k
              · obtain ⟨a, ha⟩ := at_lt (l := l) (k := k + j) (by omega)
                obtain ⟨b, hb⟩ := at_lt (l := l) (k := k + j - 1) (by omega)
                have ha' : cur[k + j]? = some a := (drop_at c6 (by omega)).trans ha
                have hb' : cur[k + (j - 1)]? = some b := by
                  rw [show k + (j - 1) = k + j - 1 by omega]; exact (drop_at c6 (Nat.le_refl _)).trans hb
                obtain ⟨u, hu⟩ := at_lt (l := cur) (k := i) (by omega)
                have hs := cptG_step (j := k + j) (by omega) ha hb
                have hj' : ¬ l.length - k ≤ j := by omega
                simp [ha', hb', hu, InR, hj']
                intro _ _
                refine ⟨by omega, by omega, by omega, by omega, by omega, by omega, fun hne => ⟨by omega, by omega, by omega, by omega, by omega, i + 1, j + 1, cur.set i a, ⟨by simp; omega, by omega, by omega, by omega, ?_, ?_⟩, ⟨by omega, .inl ?_⟩, by omega⟩, fun q3 => ⟨by omega, i, j + 1, cur, ⟨c1, by omega, by omega, by omega, ?_, ?_⟩, ⟨by omega, .inl rfl⟩, by omega⟩⟩
                · rw [(set_take_drop (m := k + j) (l := l) (by omega) c4 (drop_more c6 (by omega))).1, c5, show k + (j + 1) = k + j + 1 by omega, hs, if_neg]
                  rintro rfl
                  exact hne rfl
                · rw [show k + (j + 1) - 1 = k + j by omega]
                  exact (set_take_drop (m := k + j) (l := l) (by omega) c4 (drop_more c6 (by omega))).2
                · exact (List.map_set ..).symm
                · rw [c5, show k + (j + 1) = k + j + 1 by omega, hs, if_pos (q3)]
                · exact drop_more c6 (by omega)
              · have hj' : j = l.length - k := by omega
                subst hj'
                simp
                intro _
                refine ⟨i, cur, ⟨c1, by omega, ?_⟩, rfl, .inl rfl⟩
                rw [c5, show k + (l.length - k) = l.length by omega, List.take_length]
          · rintro ⟨i, cur⟩ ⟨c1, c2, c3⟩
            simp at c1 c2 c3
            simp
            refine ⟨by omega, by omega, fun v => finF_of (cptG l) ?_ rfl⟩
            have e : (cptG l).map enc = (cur.map enc).take i := by rw [← c3, List.map_take]
            rw [e]
            simp [List.take_append, c1, c2]
        · rw [if_neg (fun e => by subst e; exact hne rfl)] at hstep
          rw [hstep, hP, take_snoc hx]
      · have e3 : k = l.length := by omega
        subst e3
        simp
        rw [List.take_length] at hP
        exact fun _ => finF_of l (by simp) hP.symm

def P_shift (x : List Int × Int) : Prop := x.1.length ≤ 100000 ∧ 0 ≤ x.2 ∧ x.2 ≤ 1000000 ∧ ∀ a ∈ x.1, 0 ≤ a ∧ a ≤ 1000000000000000
abbrev s_estimate_shift : Spc := spc (a2 (List Int) Int) P_shift (enc (X := List Int)) (fun x y => y = x.1.map (· + x.2))
theorem w_estimate_shift : Walk cc_estimate_shift rs_estimate_shift S (a2 (List Int) Int) P_shift (enc (X := List Int)) (fun x y => y = x.1.map (· + x.2)) := by
  rintro ⟨l, n⟩ ⟨hl, hn0, hn1, ha⟩
  simp only at hl hn0 hn1 ha
  simp [cc_estimate_shift, rs_estimate_shift]
  intro _
  refine vc_range (X := Value × List Int) [1, 8] [] l.length (fun k x => x.2 = (l.take k).map (· + n)) (fun x => [(5, .own 19 x.1)]) (fun x => [(19, .row x.1 ty_int 1 (x.2.map enc))]) (.slice none 0 0, []) (by simp) (by simp) (by omega) (by simp) (by simp) (by simp) (by simp) (by simp [isNilRow]) ?_ ?_
  · rintro k ⟨v, m⟩ hkl hm
    simp only at hm
    obtain ⟨x, hx⟩ := at_lt hkl
    have hx1 := ha x (mem_at hx)
    obtain ⟨_, hgx⟩ := List.getElem?_eq_some_iff.1 hx
    have hml : m.length = k := by rw [hm]; simp; omega
    simp [hkl, hx, hgx]
    refine ⟨by simp only [InR]; omega, by omega, by omega, fun v => .inl ?_⟩
    rw [List.take_add_one, hm]
    simp [hx]
  · rintro ⟨v, m⟩ hm
    simp only at hm
    rw [List.take_length] at hm
    simp
    exact fin_of m (fz_o ty_int (by simp)) hm
abbrev s_Sort_int : Spc := iuC (Y := Int) a0 (fun _ l => l.length ≤ 100000) (fun _ l r => r.length = l.length ∧ ∀ x, x ∈ r ↔ x ∈ l) ty_int 1
/-- What times is asked for: the pattern is a repetition. -/
def P_times (x : Pat × List Int) : Prop := x.1.op = 6 ∧ patB validN x.1 = true ∧ x.2.length * cntP x.1 ≤ 100000 ∧ ∀ a ∈ x.2, 0 ≤ a ∧ a ≤ 1000000000000000
def Q_times (x : Pat × List Int) (y : List Int) : Prop := y.length ≤ x.2.length * (max 1 x.1.mn).toNat ∧ ∀ k0, x.1.kids = [k0] → ∀ z, z ∈ y ↔ ∃ a ∈ x.2, ∃ i : Int, 0 ≤ i ∧ i < x.1.mn ∧ (i = 0 ∨ (widP k0).1 = (widP k0).2) ∧ z = a + i * (widP k0).1
abbrev s_estimate_times : Spc := spc (a2 Pat (List Int)) P_times (enc (X := List Int)) Q_times
theorem w_estimate_times (h1 : S f_query_Width = s_Width) (h2 : S f_estimate_shift = s_estimate_shift) (h3 : S f_slices_Sort_int = s_Sort_int) (h4 : S f_slices_Compact_int = s_Compact_int) : Walk cc_estimate_times rs_estimate_times S (a2 Pat (List Int)) P_times (enc (X := List Int)) Q_times := by
  rintro ⟨p, l⟩ ⟨ho, hp, hl, ha⟩
  simp only at ho hp hl ha
  rcases node_kids (patB_node hp).1 with ⟨ho', _⟩ | ⟨ho', _⟩ | ⟨ho', _⟩ | ⟨_, k0, hkk⟩
  · omega
  · omega
  · omega
  have q1 := patB_kid hp (show k0 ∈ p.kids by rw [hkk]; simp)
  have q2 : WidOk (widP k0) := widP_ok k0 q1
  have hn := (patB_node hp).2.2
  unfold numB at hn
  rw [decide_eq_true_eq] at hn
  have hn := hn ho
  have hsz : cntP p = (max 1 p.mn).toNat * cntP k0 := by rw [cntP_eq, hkk, if_neg (by simp), if_pos ho, cntPs, cntPs, Nat.add_zero]
  have hc1 := cntP_pos k0
  have hlm : l.length * (max 1 p.mn).toNat ≤ 100000 := by
    have := Nat.mul_le_mul_left (l.length * (max 1 p.mn).toNat) hc1
    rw [hsz, ← Nat.mul_assoc] at hl
    omega
  have hl1 : l.length ≤ 100000 := by
    have := Nat.mul_le_mul_left l.length (show 1 ≤ (max 1 p.mn).toNat by omega)
    omega
  simp [cc_estimate_times, rs_estimate_times, h1, hkk, q1, er2]
  refine ⟨fun he => fin_of [] (by simp) ⟨by simp, fun k hk z => ?_⟩, fun hne => ⟨fun hw => fin_of l (by simp) ⟨?_, fun k hk z => ?_⟩, fun hw => ?_⟩⟩
  · simp only [List.not_mem_nil, false_iff]
    rintro ⟨a, _, i, h0, h1, _⟩
    have h1 : i < p.mn := h1
    omega
  · exact Nat.le_mul_of_pos_right _ (by omega)
  · rw [hkk] at hk
    cases hk
    constructor
    · intro h
      exact ⟨z, h, 0, Int.le_refl _, by show 0 < p.mn; omega, .inl rfl, by simp⟩
    · rintro ⟨a, ha1, i, h0, h1, h2, rfl⟩
      rcases h2 with rfl | h2
      · simpa using ha1
      · exact absurd h2 hw
  · refine vc_range (X := Value × List Int) [1, 5] [] p.mn.toNat (fun k x => x.2.length = l.length * k ∧ ∀ z, z ∈ x.2 ↔ ∃ a ∈ l, ∃ i : Int, 0 ≤ i ∧ i < k ∧ z = a + i * (widP k0).1) (fun x => [(7, .own 35 x.1)]) (fun x => [(35, .row x.1 ty_int 1 (x.2.map enc))]) (.slice none 0 0, []) (by simp) (by simp; omega) (by omega) (by simp) (by simp) (by simp; intro z a _ i h0 h1; omega) (by simp) (by simp [isNilRow]) ?_ ?_
    · rintro k ⟨v, m⟩ hkl ⟨hm, hm2⟩
      simp only at hm hm2
      unfold WidOk at q2
      have hmr := mul_rng (show (0 : Int) ≤ k by omega) (show (k : Int) ≤ 16 by omega) q2.1 q2.2.1
      have q3 : P_shift (l, (k : Int) * (widP k0).1) := ⟨hl1, hmr.1, by show (k : Int) * (widP k0).1 ≤ _; omega, ha⟩
      simp [h2, q3]
      clear h1 h2 h3 h4
      have hb : m.length + l.length ≤ 100000 := by
        have := Nat.mul_le_mul_left l.length (show k + 1 ≤ (max 1 p.mn).toNat by omega)
        rw [Nat.mul_succ] at this
        omega
      refine ⟨by simp only [InR]; omega, by omega, by omega, fun v => ⟨v, m ++ l.map (· + (k : Int) * (widP k0).1), ⟨by rw [List.length_append, List.length_map, Nat.mul_succ, hm], fun z => ?_⟩, rfl, .inl ⟨rfl, by simp⟩⟩⟩
      rw [List.mem_append, hm2 z, List.mem_map]
      constructor
      · rintro (⟨a, ha1, i, h0, h1, h2⟩ | ⟨a, ha1, h2⟩)
        · exact ⟨a, ha1, i, h0, by omega, h2⟩
        · exact ⟨a, ha1, k, by omega, by omega, h2.symm⟩
      · rintro ⟨a, ha1, i, h0, h1, h2⟩
        by_cases e : i < k
        · exact .inl ⟨a, ha1, i, h0, e, h2⟩
        · have : i = k := by omega
          subst this
          exact .inr ⟨a, ha1, h2.symm⟩
    · rintro ⟨v, m⟩ ⟨hm, hm2⟩
      simp only at hm hm2
      have hm1 : m.length ≤ 100000 := by
        have : l.length * p.mn.toNat ≤ l.length * (max 1 p.mn).toNat := Nat.mul_le_mul_left _ (by omega)
        omega
      simp [h3, h4, hm1]
      clear h1 h2 h3 h4
      intro r hr1 hr2
      refine ⟨by omega, fun v' => fin_of (cptG r) (fz_o ty_int (by simp)) ⟨?_, fun k hk z => ?_⟩⟩
      · show (cptG r).length ≤ l.length * (max 1 p.mn).toNat
        have := cptG_len r
        have : l.length * p.mn.toNat ≤ l.length * (max 1 p.mn).toNat := Nat.mul_le_mul_left _ (by omega)
        omega
      · rw [hkk] at hk
        cases hk
        rw [cptG_mem, hr2 z, hm2 z]
        refine exists_congr fun a => and_congr_right fun _ => exists_congr fun i => ⟨fun ⟨h0, h1, h2⟩ => ⟨h0, by show i < p.mn; omega, .inr hw, h2⟩, fun ⟨h0, h1, _, h2⟩ => ⟨h0, ?_, h2⟩⟩
        have h1 : i < p.mn := h1
        omega
end Go.Gv
