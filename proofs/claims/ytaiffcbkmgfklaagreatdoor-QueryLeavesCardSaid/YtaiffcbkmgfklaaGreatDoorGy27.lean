/- A part of the framework and of the walks: W63 T23 C5 W50 W51 W53 W64 W65 W66 W67 W3 W30 C3 W38 V9 V10 V14. -/
import Derived.Recover
import Derived.Tactics2
import Derived.Test.YtaiffcbkmgfklaaGreatDoorGy26
import Derived.Test.YtaiffcbkmgfklaaGreatDoorGy17
import Derived.Test.YtaiffcbkmgfklaaGreatDoorGy13
import Derived.Test.YtaiffcbkmgfklaaGreatDoorGy24
import Derived.Test.YtaiffcbkmgfklaaGreatDoorGy18
import Derived.Test.YtaiffcbkmgfklaaGreatDoorGy15
import Derived.Test.YtaiffcbkmgfklaaGreatDoorGy22

namespace Go.Gv
set_option linter.unusedSimpArgs false
set_option linter.unusedVariables false
set_option maxRecDepth 100000
open Cod (enc dec)
variable {S S0 : Nat → Spc}
abbrev s_conds : Spc := spc (a2 Int (List Cond)) (fun _ => True) (enc (X := Cond)) fun x y => y = cOp x.1 x.2
theorem cOp_n {op : Int} {l : List Cond} (h : l.length ≠ 1) : cOp op l = ⟨op, E0, E0, E0, E0, false, l⟩ := by
  match l, h with
  | [], _ => rfl
  | [x], h => exact absurd rfl h
  | x :: y :: l, _ => rfl
theorem w_conds : Walk cc_query_conds rs_query_conds S (a2 Int (List Cond)) (fun _ => True) (enc (X := Cond)) fun x y => y = cOp x.1 x.2 := by
  rintro ⟨op, l⟩ -
  simp [cc_query_conds, rs_query_conds]
  refine fun b _ => ⟨fun h => ⟨by omega, fun a ha => ?_⟩, fun h => ?_⟩
  · have e : l = [a] := by
      match l, h, ha with
      | [x], _, ha => simp at ha; rw [ha]
    exact fin_of a (by simp) (by rw [e]; rfl)
  · exact fin_of (⟨op, E0, E0, E0, E0, false, l⟩ : Cond) (by simp [E0]) (cOp_n (by omega)).symm
theorem frz_cond {H : HMap} {o : Int} {n a v l : B} {f : Bool} {d : D} (ks : List Cond) (hd : FrzTo H d (enc ks)) :
    FrzTo H (.agg [.v (.int .i64 o), .v (.string n), .v (.string a), .v (.string v), .v (.string l), .v (.bool f), d]) (enc (⟨o, n, a, v, l, f, ks⟩ : Cond)) := by
  rw [enc_Cond]
  refine .agg rfl fun k x y hx hy => ?_
  rcases k with _ | _ | _ | _ | _ | _ | _ | k
  · cases hx; cases hy; exact .same _
  · cases hx; cases hy; exact .same _
  · cases hx; cases hy; exact .same _
  · cases hx; cases hy; exact .same _
  · cases hx; cases hy; exact .same _
  · cases hx; cases hy; exact .same _
  · cases hx; cases hy; exact hd
  · simp at hx
theorem frz_one {X : Type} [Cod X] {H : HMap} {d : D} (y : X) (h : FrzTo H d (enc y)) : FrzTo H (.list (Cod.wd X) [d]) (enc [y]) := by
  show FrzTo H (.list (Cod.wd X) [d]) (.list (Cod.wd X) [enc y])
  refine .list rfl (fun z hz => ?_) fun k c c' hc hc' => ?_
  · simp at hz; subst hz; exact ⟨Cod.kn y, Cod.wid y⟩
  · rcases k with _ | k
    · cases hc; cases hc'; exact h
    · simp at hc
theorem finRC {b : Nat} {post : Rdr → Cond → Prop} {H : HMap} {o : Int} {n a v l : B} {f : Bool} {d : D} (s : Rdr) (ks : List Cond) (hd : FrzTo (fun i => if i = 0 then none else H i) d (enc ks)) (h0 : H 0 = some (.box b (ceRdr s))) (hq : post s ⟨o, n, a, v, l, f, ks⟩) :
    FinRD enc b post (.agg [.v (.int .i64 o), .v (.string n), .v (.string a), .v (.string v), .v (.string l), .v (.bool f), d]) H := finRD s (⟨o, n, a, v, l, f, ks⟩ : Cond) (frz_cond ks hd) h0 hq
@[simp] abbrev F_rnot (N : Rdr → Option (Rdr × Cond)) (s : Rdr) (_ : Unit) : Option (Rdr × Cond) := N s
abbrev s_rnot (N : Rdr → Option (Rdr × Cond)) : Spc := rdF a0 (enc (X := Cond)) (F_rnot N)
@[simp] abbrev F_rand (N : Rdr → Option (Rdr × Cond)) (s : Rdr) (_ : Unit) : Option (Rdr × Cond) := andR N s
abbrev s_rand (N : Rdr → Option (Rdr × Cond)) : Spc := rdF a0 (enc (X := Cond)) (F_rand N)
@[simp] abbrev F_ror (N : Rdr → Option (Rdr × Cond)) (s : Rdr) (_ : Unit) : Option (Rdr × Cond) := orR N s
abbrev s_ror (N : Rdr → Option (Rdr × Cond)) : Spc := rdF a0 (enc (X := Cond)) (F_ror N)
theorem w_reader_and (N : Rdr → Option (Rdr × Cond)) (h1 : S f_query_reader_take = s_rtake) (h2 : S f_query_reader_not = s_rnot N) (h3 : S f_query_conds = s_conds) :
    WalkRD cc_query_reader_and rs_query_reader_and S a0 (enc (X := Cond)) (fun s z => ∃ r, F_rand N s z = some r) (fun s z s' y => F_rand N s z = some (s', y)) := by
  rintro b s ⟨⟩ ⟨⟨s', y⟩, hr⟩
  have hr0 := hr
  simp only [F_rand, andR] at hr
  obtain ⟨⟨s1, x1⟩, hi, hr⟩ := Option.bind_eq_some_iff.1 hr
  obtain ⟨⟨s2, l2⟩, hl, hr⟩ := Option.map_eq_some_iff.1 hr
  simp only at hl hr
  cases hr
  simp [cc_query_reader_and, rs_query_reader_and, h2, hi]
  intro b2 v0
  refine vc_while (X := Nat × Rdr × Value × List Cond) [0, 2] [2] (fun z => andLoopR N z.1 z.2.1 z.2.2.2 = some (s', l2) ∧ z.2.2.2.length + z.1 ≤ 501) (fun z => [(3, .own 6 z.2.2.1)]) (fun z => [(0, .box b (ceRdr z.2.1)), (6, .row z.2.2.1 ty_Cond 7 (z.2.2.2.map enc))]) (fun z => z.1) (500, s1, v0, [x1]) ⟨hl, by simp⟩ (by simp) (by simp) ?_
  clear hl hi
  rintro ⟨k, s, v, l⟩ ⟨hk, hlen⟩
  simp only at hk hlen
  obtain _ | k := k
  · rw [andLoopR] at hk; cases hk
  rw [andLoopR] at hk
  obtain ⟨⟨s4, v1⟩, hb, hk⟩ := Option.bind_eq_some_iff.1 hk
  simp only at hk
  cases v1
  · simp only [Bool.false_eq_true, if_false] at hk
    cases hk
    simp [h1, hb, h3, -Bool.forall_bool, -Bool.exists_bool]
    exact finRD s' (cOp 7 l2) (by simp) (by simp) hr0
  · simp only [if_true] at hk
    obtain ⟨⟨s3, x3⟩, hx, hk⟩ := Option.bind_eq_some_iff.1 hk
    simp only at hk
    simp [h1, hb, h2, hx, -Bool.forall_bool, -Bool.exists_bool]
    exact ⟨by omega, by omega, fun v' => ⟨k, s3, v', l ++ [x3], ⟨hk, by simp; omega⟩, ⟨rfl, .inl ⟨rfl, rfl, rfl, rfl, rfl⟩, .inl ⟨rfl, by simp⟩⟩, by omega⟩⟩
theorem w_reader_or (N : Rdr → Option (Rdr × Cond)) (h1 : S f_query_reader_take = s_rtake) (h2 : S f_query_reader_and = s_rand N) (h3 : S f_query_conds = s_conds) :
    WalkRD cc_query_reader_or rs_query_reader_or S a0 (enc (X := Cond)) (fun s z => ∃ r, F_ror N s z = some r) (fun s z s' y => F_ror N s z = some (s', y)) := by
  rintro b s ⟨⟩ ⟨⟨s', y⟩, hr⟩
  have hr0 := hr
  simp only [F_ror, orR] at hr
  obtain ⟨⟨s1, x1⟩, hi, hr⟩ := Option.bind_eq_some_iff.1 hr
  obtain ⟨⟨s2, l2⟩, hl, hr⟩ := Option.map_eq_some_iff.1 hr
  simp only at hl hr
  cases hr
  simp [cc_query_reader_or, rs_query_reader_or, h2, hi]
  intro b2 v0
  refine vc_while (X := Nat × Rdr × Value × List Cond) [0, 2] [2] (fun z => orLoopR N z.1 z.2.1 z.2.2.2 = some (s', l2) ∧ z.2.2.2.length + z.1 ≤ 501) (fun z => [(3, .own 6 z.2.2.1)]) (fun z => [(0, .box b (ceRdr z.2.1)), (6, .row z.2.2.1 ty_Cond 7 (z.2.2.2.map enc))]) (fun z => z.1) (500, s1, v0, [x1]) ⟨hl, by simp⟩ (by simp) (by simp) ?_
  clear hl hi
  rintro ⟨k, s, v, l⟩ ⟨hk, hlen⟩
  simp only at hk hlen
  obtain _ | k := k
  · rw [orLoopR] at hk; cases hk
  rw [orLoopR] at hk
  obtain ⟨⟨s4, v1⟩, hb, hk⟩ := Option.bind_eq_some_iff.1 hk
  simp only at hk
  cases v1
  · simp only [Bool.false_eq_true, if_false] at hk
    cases hk
    simp [h1, hb, h3, -Bool.forall_bool, -Bool.exists_bool]
    exact finRD s' (cOp 8 l2) (by simp) (by simp) hr0
  · simp only [if_true] at hk
    obtain ⟨⟨s3, x3⟩, hx, hk⟩ := Option.bind_eq_some_iff.1 hk
    simp only at hk
    simp [h1, hb, h2, hx, -Bool.forall_bool, -Bool.exists_bool]
    exact ⟨by omega, by omega, fun v' => ⟨k, s3, v', l ++ [x3], ⟨hk, by simp; omega⟩, ⟨rfl, .inl ⟨rfl, rfl, rfl, rfl, rfl⟩, .inl ⟨rfl, by simp⟩⟩, by omega⟩⟩
@[simp] abbrev F_ratom (s : Rdr) (_ : Unit) : Option (Rdr × Cond) := atomsR s
abbrev s_ratom : Spc := rdF a0 (enc (X := Cond)) F_ratom
theorem takeR_no {s s' : Rdr} {t : B} (h : takeR s t = some (s', false)) : s' = s := by
  unfold takeR at h
  split at h
  · obtain ⟨x, _, h⟩ := Option.map_eq_some_iff.1 h
    cases h
  · cases h; rfl
theorem w_reader_atom (h1 : S f_query_reader_take = s_rtake) (h2 : S f_query_reader_name = s_rname) (h3 : S f_query_reader_must = s_rmust) (h4 : S f_query_reader_text = s_rtext) (h5 : S f_query_reader_word = s_rword) (h6 : S f_query_reader_next = s_rnext) (h7 : S f_query_reader_fold = s_rfold) :
    WalkRD cc_query_reader_atom rs_query_reader_atom S a0 (enc (X := Cond)) (fun s z => ∃ r, F_ratom s z = some r) (fun s z s' y => F_ratom s z = some (s', y)) := by
  rintro b s ⟨⟩ ⟨⟨s', y⟩, hr0⟩
  have q := hr0
  simp only [F_ratom, atomsR] at q
  obtain ⟨⟨s1, n⟩, hn, q1⟩ := Option.bind_eq_some_iff.1 q
  clear q
  simp only at q1
  have hcase : (∃ s2, n = ⟨#[105, 110]⟩ ∧ takeR s1 ⟨#[40]⟩ = some (s2, true) ∧ regionR s2 = some (s', y)) ∨ ((n ≠ ⟨#[105, 110]⟩ ∨ n = ⟨#[105, 110]⟩ ∧ takeR s1 ⟨#[40]⟩ = some (s1, false)) ∧ atomR s1 n = some (s', y)) := by
    split at q1
    · rename_i e
      obtain ⟨⟨s2, v⟩, h8, q2⟩ := Option.bind_eq_some_iff.1 q1
      simp only at q2
      cases v
      · simp only [Bool.false_eq_true, if_false] at q2
        have := takeR_no h8
        rw [this] at q2 h8
        exact .inr ⟨.inr ⟨e, h8⟩, q2⟩
      · simp only [if_true] at q2
        exact .inl ⟨s2, e, h8, q2⟩
    · rename_i e
      exact .inr ⟨.inl e, q1⟩
  clear q1
  rcases hcase with ⟨s2, rfl, h8, q2⟩ | ⟨hin, q2⟩
  · simp only [regionR] at q2
    obtain ⟨⟨s3, m⟩, h9, q3⟩ := Option.bind_eq_some_iff.1 q2
    clear q2
    obtain ⟨⟨s4, v⟩, h10, q4⟩ := Option.bind_eq_some_iff.1 q3
    clear q3
    simp only at h9 h10 q4
    cases v
    · simp only [Bool.false_eq_true, if_false] at q4
      obtain ⟨s5, h11, q5⟩ := Option.map_eq_some_iff.1 q4
      clear q4
      simp only [Prod.mk.injEq] at q5
      obtain ⟨rfl, rfl⟩ := q5
      simp [cc_query_reader_atom, rs_query_reader_atom, h1, h2, h3, h4, hn, h8, h9, h10, h11, -Bool.forall_bool, -Bool.exists_bool]
      exact fun _ => finRC s5 [] (.nil _) (by simp) hr0
    · simp only [if_true] at q4
      obtain ⟨⟨s5, a⟩, h11, q5⟩ := Option.bind_eq_some_iff.1 q4
      clear q4
      obtain ⟨s6, h12, q6⟩ := Option.bind_eq_some_iff.1 q5
      clear q5
      obtain ⟨⟨s7, v⟩, h13, q7⟩ := Option.bind_eq_some_iff.1 q6
      clear q6
      obtain ⟨s8, h14, q8⟩ := Option.map_eq_some_iff.1 q7
      clear q7
      simp only [Prod.mk.injEq] at q8 h11 h12 h13 h14
      obtain ⟨rfl, rfl⟩ := q8
      simp [cc_query_reader_atom, rs_query_reader_atom, h1, h2, h3, h4, hn, h8, h9, h10, h11, h12, h13, h14, -Bool.forall_bool, -Bool.exists_bool]
      exact fun _ => finRC s8 [] (.nil _) (by simp) hr0
  · simp only [atomR] at q2
    split at q2
    · rename_i hw
      obtain ⟨s2, h9, q3⟩ := Option.bind_eq_some_iff.1 q2
      clear q2
      obtain ⟨⟨s3, v⟩, h10, q4⟩ := Option.map_eq_some_iff.1 q3
      clear q3
      simp only [Prod.mk.injEq] at q4
      obtain ⟨rfl, rfl⟩ := q4
      rcases hin with hin | ⟨rfl, h8⟩
      · simp [cc_query_reader_atom, rs_query_reader_atom, h1, h2, h4, h5, h6, hn, hin, hw, h9, h10, -Bool.forall_bool, -Bool.exists_bool]
        exact fun _ => finRC s3 [] (.nil _) (by simp) hr0
      · simp [cc_query_reader_atom, rs_query_reader_atom, h1, h2, h4, h5, h6, hn, h8, hw, h9, h10, -Bool.forall_bool, -Bool.exists_bool]
        exact fun _ => finRC s3 [] (.nil _) (by simp) hr0
    rename_i hw
    obtain ⟨⟨s2, v⟩, h9, q3⟩ := Option.bind_eq_some_iff.1 q2
    clear q2
    simp only at q3
    cases v
    · simp only [Bool.false_eq_true, if_false] at q3
      have e2 := takeR_no h9
      rw [e2] at q3 h9
      clear e2 s2
      obtain ⟨s3, h10, q4⟩ := Option.bind_eq_some_iff.1 q3
      clear q3
      split at q4
      · rename_i hk
        obtain ⟨⟨s4, l⟩, h11, q5⟩ := Option.bind_eq_some_iff.1 q4
        clear q4
        obtain ⟨s5, h12, q6⟩ := Option.bind_eq_some_iff.1 q5
        clear q5
        obtain ⟨⟨s6, a⟩, h13, q7⟩ := Option.map_eq_some_iff.1 q6
        clear q6
        simp only [Prod.mk.injEq] at h12 h13 q7
        obtain ⟨rfl, rfl⟩ := q7
        rcases hin with hin | ⟨rfl, h8⟩
        · simp [cc_query_reader_atom, rs_query_reader_atom, h1, h2, h3, h4, h5, h6, hn, hin, hw, h9, h10, hk, h11, h12, h13, -Bool.forall_bool, -Bool.exists_bool]
          exact fun _ => finRC s6 [] (.nil _) (by simp) hr0
        · simp [cc_query_reader_atom, rs_query_reader_atom, h1, h2, h3, h4, h5, h6, hn, h8, hw, h9, h10, hk, h11, h12, h13, -Bool.forall_bool, -Bool.exists_bool]
          exact fun _ => finRC s6 [] (.nil _) (by simp) hr0
      · rename_i hk
        simp only [valueR] at q4
        obtain ⟨⟨s4, v⟩, h11, q5⟩ := Option.bind_eq_some_iff.1 q4
        clear q4
        obtain ⟨⟨s5, f⟩, h12, q6⟩ := Option.map_eq_some_iff.1 q5
        clear q5
        simp only [Prod.mk.injEq] at h12 q6
        obtain ⟨rfl, rfl⟩ := q6
        rcases hin with hin | ⟨rfl, h8⟩
        · simp [cc_query_reader_atom, rs_query_reader_atom, h1, h2, h3, h4, h5, h6, h7, hn, hin, hw, h9, h10, hk, h11, h12, -Bool.forall_bool, -Bool.exists_bool]
          exact fun _ => finRC s5 [] (.nil _) (by simp) hr0
        · simp [cc_query_reader_atom, rs_query_reader_atom, h1, h2, h3, h4, h5, h6, h7, hn, h8, hw, h9, h10, hk, h11, h12, -Bool.forall_bool, -Bool.exists_bool]
          exact fun _ => finRC s5 [] (.nil _) (by simp) hr0
    · simp only [if_true, valueR] at q3
      obtain ⟨⟨s6, y6⟩, q4, q7⟩ := Option.map_eq_some_iff.1 q3
      clear q3
      obtain ⟨⟨s4, v⟩, h11, q5⟩ := Option.bind_eq_some_iff.1 q4
      clear q4
      obtain ⟨⟨s5, f⟩, h12, q6⟩ := Option.map_eq_some_iff.1 q5
      clear q5
      simp only [Prod.mk.injEq] at h12 q6 q7
      obtain ⟨rfl, rfl⟩ := q6
      obtain ⟨rfl, rfl⟩ := q7
      rcases hin with hin | ⟨rfl, h8⟩
      · simp [cc_query_reader_atom, rs_query_reader_atom, h1, h2, h3, h4, h5, h6, h7, hn, hin, hw, h9, h11, h12, -Bool.forall_bool, -Bool.exists_bool]
        exact fun _ => finRC s5 [⟨2, _, E0, v, E0, f, []⟩] (frz_one _ (frz_cond [] (.nil _))) (by simp) hr0
      · simp [cc_query_reader_atom, rs_query_reader_atom, h1, h2, h3, h4, h5, h6, h7, hn, h8, hw, h9, h11, h12, -Bool.forall_bool, -Bool.exists_bool]
        exact fun _ => finRC s5 [⟨2, _, E0, v, E0, f, []⟩] (frz_one _ (frz_cond [] (.nil _))) (by simp) hr0
theorem w_reader_not (N O : Rdr → Option (Rdr × Cond)) (h1 : S f_query_reader_take = s_rtake) (h2 : S f_query_reader_not = s_rnot N) (h3 : S f_query_reader_must = s_rmust) (h4 : S f_query_reader_or = rdF a0 (enc (X := Cond)) (F_rnot O)) (h5 : S f_query_reader_atom = s_ratom) :
    WalkRD cc_query_reader_not rs_query_reader_not S a0 (enc (X := Cond)) (fun s z => ∃ r, F_rnot (notR N O) s z = some r) (fun s z s' y => F_rnot (notR N O) s z = some (s', y)) := by
  rintro b s ⟨⟩ ⟨⟨s', y⟩, hr0⟩
  have q := hr0
  simp only [F_rnot, notR] at q
  obtain ⟨⟨s1, v⟩, h6, q1⟩ := Option.bind_eq_some_iff.1 q
  clear q
  simp only at q1
  cases v
  · simp only [Bool.false_eq_true, if_false] at q1
    have e := takeR_no h6
    rw [e] at q1 h6
    clear e s1
    obtain ⟨⟨s2, v⟩, h7, q2⟩ := Option.bind_eq_some_iff.1 q1
    clear q1
    simp only at q2
    cases v
    · simp only [Bool.false_eq_true, if_false] at q2
      have e := takeR_no h7
      rw [e] at q2 h7
      clear e s2
      simp [cc_query_reader_not, rs_query_reader_not, h1, h2, h3, h4, h5, h6, h7, q2, -Bool.forall_bool, -Bool.exists_bool]
      exact fun _ => finRD s' y (by simp) (by simp) hr0
    · simp only [if_true] at q2
      obtain ⟨⟨s3, x⟩, h8, q3⟩ := Option.bind_eq_some_iff.1 q2
      clear q2
      obtain ⟨s4, h9, q4⟩ := Option.map_eq_some_iff.1 q3
      clear q3
      simp only [Prod.mk.injEq] at h9 q4
      obtain ⟨rfl, rfl⟩ := q4
      simp [cc_query_reader_not, rs_query_reader_not, h1, h2, h3, h4, h5, h6, h7, h8, h9, -Bool.forall_bool, -Bool.exists_bool]
      intros
      exact finRD s4 x (by simp) (by simp) hr0
  · simp only [if_true] at q1
    obtain ⟨⟨s2, x⟩, h7, q2⟩ := Option.map_eq_some_iff.1 q1
    clear q1
    simp only [Prod.mk.injEq] at q2
    obtain ⟨rfl, rfl⟩ := q2
    simp [cc_query_reader_not, rs_query_reader_not, h1, h2, h6, h7, -Bool.forall_bool, -Bool.exists_bool]
    exact fun _ => finRC s2 [x] (by simp) (by simp) hr0
end Go.Gv

namespace Go.Gv
set_option linter.unusedSimpArgs false
set_option linter.unusedVariables false
set_option linter.unusedSectionVars false
open Cod (enc dec)
section
variable {Y Z : Type}
def psB : BoxF Pst := boxD cePst
/-- A method of the parser: what it asks, how its result is written, what it says. -/
def psC (A : Arg Z) (er : Y → D) (pre : Pst → Z → Prop) (post : Pst → Z → Pst → Y → Prop) : Spc := bpC psB A er pre post
def psX (er : Y → D) (pre : Pst → Z → Prop) (post : Pst → Z → Pst → Y → Prop) (id b : Nat) (r : Option Res) (o : Option Z) (H : HMap) (K : D → HMap → Prop) : Prop :=
  ∃ x, r = some (.box b (cePst x)) ∧ optX o fun z => pre x z ∧ ∀ x' y, post x z x' y → K (er y) (updH H id (some (.box b (cePst x'))))
@[congr] theorem psX_cg {er : Y → D} {pre : Pst → Z → Prop} {post : Pst → Z → Pst → Y → Prop} {id b : Nat} {r r' : Option Res} {o o' : Option Z} {H : HMap} {K : D → HMap → Prop} (h1 : r = r') (h2 : o = o') : psX er pre post id b r o H K = psX er pre post id b r' o' H K := by subst h1; subst h2; rfl
theorem cePst_inj {x y : Pst} (h : cePst x = cePst y) : x = y := by
  obtain ⟨l, a, d, e, f⟩ := x
  obtain ⟨l', a', d', e', f'⟩ := y
  simp only [cePst, List.cons.injEq] at h
  obtain ⟨h1, h2, h3, h4, h5, _⟩ := h
  have h1 := enc_inj h1
  have h2 := enc_inj h2
  have h3 := enc_inj h3
  have h4 := enc_inj h4
  have h5 := enc_inj h5
  subst h1; subst h2; subst h3; subst h4; subst h5
  rfl
@[simp] theorem psC_pt (A : Arg Z) (er : Y → D) (pre : Pst → Z → Prop) (post : Pst → Z → Pst → Y → Prop) (d i b : Nat) (ds : List D) (H : HMap) (K : D → HMap → Prop) : (psC A er pre post).pt d (.bptr i b 0 :: ds) H K = psX er pre post i b (H i) (A.dec ds) H K := by
  refine propext ⟨fun h => ?_, fun h => ?_⟩
  · obtain ⟨id, b', x, z, ds', h1, h2, h3, h4, h5, h6, h7⟩ := h
    cases h1
    refine ⟨x, h3, ?_⟩
    rw [h2]
    exact ⟨h6, h7⟩
  · obtain ⟨x, h1, h2⟩ := h
    cases hz : A.dec ds with
    | none => rw [hz] at h2; exact h2.elim
    | some z => rw [hz] at h2; exact ⟨i, b, x, z, ds, rfl, hz, h1, fun p hp => by simp [psB, boxD] at hp, by simp [psB, boxD], h2.1, h2.2⟩
@[simp] theorem psX_r (er : Y → D) (pre : Pst → Z → Prop) (post : Pst → Z → Pst → Y → Prop) (id b : Nat) (l : List Tok) (p dp e f : Int) (o : Option Z) (H : HMap) (K : D → HMap → Prop) :
    psX er pre post id b (some (.box b [.list 3 (l.map enc), .v (.int .i64 p), .v (.int .i64 dp), .v (.int .i64 e), .v (.int .i64 f)])) o H K = optX o fun z => pre ⟨l, p, dp, e, f⟩ z ∧ ∀ x' y, post ⟨l, p, dp, e, f⟩ z x' y → K (er y) (updH H id (some (.box b (cePst x')))) := by
  refine propext ⟨fun ⟨x, h1, h2⟩ => ?_, fun h => ⟨⟨l, p, dp, e, f⟩, rfl, h⟩⟩
  have e1 : cePst ⟨l, p, dp, e, f⟩ = cePst x := by
    have := Option.some.inj h1
    exact (Res.box.inj this).2
  have := cePst_inj e1
  subst this
  exact h2
variable {P : Program} {S : Nat → Spc} {f : Nat} {im : List Nat} {cc : CC} {rs : List CRes} {N : Nat}
end
section
variable {Y Z : Type}
/-- The contract of a method that computes F. -/
def psF (A : Arg Z) (er : Y → D) (F : Pst → Z → Option (Pst × Y)) : Spc := psC A er (fun s z => ∃ r, F s z = some r) (fun s z s' y => F s z = some (s', y))
def psFX (er : Y → D) (F : Pst → Z → Option (Pst × Y)) (id b : Nat) (r : Option Res) (o : Option Z) (H : HMap) (K : D → HMap → Prop) : Prop :=
  ∃ x, r = some (.box b (cePst x)) ∧ optX o fun z => optX (F x z) fun q => K (er q.2) (updH H id (some (.box b (cePst q.1))))
@[congr] theorem psFX_cg {er : Y → D} {F : Pst → Z → Option (Pst × Y)} {id b : Nat} {r r' : Option Res} {o o' : Option Z} {H : HMap} {K : D → HMap → Prop} (h1 : r = r') (h2 : o = o') : psFX er F id b r o H K = psFX er F id b r' o' H K := by subst h1; subst h2; rfl
theorem optF {F : Option (Pst × Y)} {k : Pst → Y → Prop} : ((∃ r, F = some r) ∧ ∀ x' y, F = some (x', y) → k x' y) = optX F fun q => k q.1 q.2 := by
  cases F with
  | none =>
    refine propext (Iff.intro (fun h => ?_) (fun h => ?_))
    · obtain ⟨⟨r, h⟩, _⟩ := h
      cases h
    · exact False.elim h
  | some r =>
    refine propext (Iff.intro (fun h => h.2 _ _ rfl) (fun h => ⟨⟨_, rfl⟩, fun x' y e => ?_⟩))
    cases e
    exact h
@[simp] theorem psF_pt (A : Arg Z) (er : Y → D) (F : Pst → Z → Option (Pst × Y)) (d i b : Nat) (ds : List D) (H : HMap) (K : D → HMap → Prop) : (psF A er F).pt d (.bptr i b 0 :: ds) H K = psFX er F i b (H i) (A.dec ds) H K := by
  unfold psF psFX
  rw [psC_pt]
  unfold psX
  refine propext (exists_congr fun x => and_congr_right fun _ => ?_)
  cases A.dec ds with
  | none => exact Iff.rfl
  | some z => exact iff_of_eq optF
@[simp] theorem psFX_r (er : Y → D) (F : Pst → Z → Option (Pst × Y)) (id b : Nat) (l : List Tok) (p dp e f : Int) (o : Option Z) (H : HMap) (K : D → HMap → Prop) :
    psFX er F id b (some (.box b [.list 3 (l.map enc), .v (.int .i64 p), .v (.int .i64 dp), .v (.int .i64 e), .v (.int .i64 f)])) o H K = optX o fun z => optX (F ⟨l, p, dp, e, f⟩ z) fun q => K (er q.2) (updH H id (some (.box b (cePst q.1)))) := by
  refine propext ⟨fun ⟨x, h1, h2⟩ => ?_, fun h => ⟨⟨l, p, dp, e, f⟩, rfl, h⟩⟩
  have e1 : cePst ⟨l, p, dp, e, f⟩ = cePst x := by
    have := Option.some.inj h1
    exact (Res.box.inj this).2
  have := cePst_inj e1
  subst this
  exact h2
variable {P : Program} {S : Nat → Spc} {f : Nat} {im : List Nat} {cc : CC} {rs : List CRes} {N : Nat}
end
end Go.Gv

namespace Go.Gv
open Go.Proofs
-- r23_parser_number while id=0: live [0:p, 1:limit, 2:at, 7:s, 8:n, 9:i] changed [8, 9] res [0]
-- r23_parser_alt while id=0: live [0:p, 2:, 3:l] changed [3] res [0, 2, 6, 13]
-- r23_parser_seq while id=0: live [0:p, 2:, 3:l] changed [3] res [0, 2, 6, 13]
-- r23_parser_rep while id=0: live [0:p, 2:, 3:x] changed [] res [0, 2, 3]
end Go.Gv

namespace Go.Gv
set_option linter.unusedSimpArgs false
set_option linter.unusedVariables false
set_option maxRecDepth 100000
open Cod (enc dec)
variable {S S0 : Nat → Spc}
@[simp] abbrev F_now (s : Pst) (_ : Unit) : Option (Pst × Tok) := (nowT s).map fun x => (s, x)
@[simp] abbrev F_is (s : Pst) (z : U8 × B) : Option (Pst × Bool) := (isF s z.1.val z.2).map fun x => (s, x)
@[simp] abbrev F_eat (s : Pst) (t : B) : Option (Pst × Bool) := eatF s t
@[simp] abbrev F_want (s : Pst) (z : U8 × B) : Option (Pst × B) := wantF s z.1.val z.2
@[simp] abbrev F_fold (s : Pst) (_ : Unit) : Option (Pst × Bool) := eatF s ⟨#[37, 99]⟩
@[simp] abbrev F_begins (s : Pst) (_ : Unit) : Option (Pst × Bool) := (beginsF s).map fun v => (s, v)
@[simp] abbrev F_number (s : Pst) (z : Int × Int) : Option (Pst × Int) := numberF s z.1
end Go.Gv

namespace Go.Gv
set_option linter.unusedSimpArgs false
set_option linter.unusedVariables false
set_option maxRecDepth 100000
open Cod (enc dec)
variable {S S0 : Nat → Spc}
@[simp] abbrev F_alt (n : Nat) (s : Pst) (_ : Unit) : Option (Pst × Pat) := altF n s
@[simp] abbrev F_item (A : Pst → Option (Pst × Pat)) (s : Pst) (_ : Unit) : Option (Pst × Pat) := itemF A s
@[simp] abbrev F_rep (A : Pst → Option (Pst × Pat)) (s : Pst) (_ : Unit) : Option (Pst × Pat) := repF A s
@[simp] abbrev F_seq (A : Pst → Option (Pst × Pat)) (s : Pst) (_ : Unit) : Option (Pst × Pat) := seqF A s
theorem frz_pat {H : HMap} {op o : Int} {n a v l lb rg : B} {f : Bool} {cd d : D} {mn mx : Int} (cks : List Cond) (ks : List Pat) (hc : FrzTo H cd (enc cks)) (hd : FrzTo H d (enc ks)) :
    FrzTo H (.agg [.v (.int .i64 op), .v (.int .i64 o), .v (.string n), .v (.string a), .v (.string v), .v (.string l), .v (.bool f), cd, .v (.string lb), .v (.string rg), .v (.int .i64 mn), .v (.int .i64 mx), d]) (enc (⟨op, ⟨o, n, a, v, l, f, cks⟩, lb, rg, mn, mx, ks⟩ : Pat)) := by
  rw [enc_Pat]
  refine .agg rfl fun k x y hx hy => ?_
  rcases k with _ | _ | _ | _ | _ | _ | _ | _ | _ | _ | _ | _ | _ | k
  · cases hx; cases hy; exact .same _
  · cases hx; cases hy; exact .same _
  · cases hx; cases hy; exact .same _
  · cases hx; cases hy; exact .same _
  · cases hx; cases hy; exact .same _
  · cases hx; cases hy; exact .same _
  · cases hx; cases hy; exact .same _
  · cases hx; cases hy; exact hc
  · cases hx; cases hy; exact .same _
  · cases hx; cases hy; exact .same _
  · cases hx; cases hy; exact .same _
  · cases hx; cases hy; exact .same _
  · cases hx; cases hy; exact hd
  · simp at hx
end Go.Gv

namespace Go.Gv
set_option linter.unusedSimpArgs false
set_option linter.unusedVariables false
set_option maxRecDepth 100000
open Cod (enc dec)
variable {S S0 : Nat → Spc}
theorem oneOr_n {op : Int} {l : List Pat} (h : l.length ≠ 1) : oneOr op l = ⟨op, Cond0, E0, E0, 0, 0, l⟩ := by
  match l, h with
  | [], _ => rfl
  | [x], h => exact absurd rfl h
  | x :: y :: l, _ => rfl
@[simp] abbrev F_altS (A : Pst → Option (Pst × Pat)) (s : Pst) (_ : Unit) : Option (Pst × Pat) := altS A s
end Go.Gv

namespace Go.Gv
set_option linter.unusedSimpArgs false
set_option linter.unusedVariables false
set_option maxRecDepth 100000
open Cod (enc dec)
variable {S S0 : Nat → Spc}
abbrev s_patterns : Spc := spc (a2 Int (List Pat)) (fun _ => True) (enc (X := Pat)) fun x y => y = oneOr x.1 x.2
theorem w_patterns : Walk cc_query_patterns rs_query_patterns S (a2 Int (List Pat)) (fun _ => True) (enc (X := Pat)) fun x y => y = oneOr x.1 x.2 := by
  rintro ⟨op, l⟩ -
  simp [cc_query_patterns, rs_query_patterns]
  refine fun b _ => ⟨fun h => ⟨by omega, fun a ha => ?_⟩, fun h => ?_⟩
  · have e : l = [a] := by
      match l, h, ha with
      | [x], _, ha => simp at ha; rw [ha]
    exact fin_of a (by simp) (by rw [e]; rfl)
  · exact fin_of (⟨op, Cond0, E0, E0, 0, 0, l⟩ : Pat) (frz_pat [] l (.nil _) (by simp)) (oneOr_n (by omega)).symm
@[simp] abbrev F_ritem (A : Rdr → Bool → Option (Rdr × Pat)) (O : Rdr → Option (Rdr × Cond)) (s : Rdr) (_ : Unit) : Option (Rdr × Pat) := itemR A O s
abbrev s_ritem (A : Rdr → Bool → Option (Rdr × Pat)) (O : Rdr → Option (Rdr × Cond)) : Spc := rdF a0 (enc (X := Pat)) (F_ritem A O)
@[simp] abbrev F_rrep (A : Rdr → Bool → Option (Rdr × Pat)) (O : Rdr → Option (Rdr × Cond)) (s : Rdr) (_ : Unit) : Option (Rdr × Pat) := repR A O s
abbrev s_rrep (A : Rdr → Bool → Option (Rdr × Pat)) (O : Rdr → Option (Rdr × Cond)) : Spc := rdF a0 (enc (X := Pat)) (F_rrep A O)
@[simp] abbrev F_rseq (A : Rdr → Bool → Option (Rdr × Pat)) (O : Rdr → Option (Rdr × Cond)) (s : Rdr) (i : Bool) : Option (Rdr × Pat) := seqR A O s i
abbrev s_rseq (A : Rdr → Bool → Option (Rdr × Pat)) (O : Rdr → Option (Rdr × Cond)) : Spc := rdF (a1 Bool) (enc (X := Pat)) (F_rseq A O)
@[simp] abbrev F_ralt (A : Rdr → Bool → Option (Rdr × Pat)) (s : Rdr) (i : Bool) : Option (Rdr × Pat) := A s i
abbrev s_ralt (A : Rdr → Bool → Option (Rdr × Pat)) : Spc := rdF (a1 Bool) (enc (X := Pat)) (F_ralt A)
@[simp] abbrev F_rtoken (O : Rdr → Option (Rdr × Cond)) (s : Rdr) (l : B) : Option (Rdr × Pat) := tokenR O s l
abbrev s_rtoken (O : Rdr → Option (Rdr × Cond)) : Spc := rdF (a1 B) (enc (X := Pat)) (F_rtoken O)
@[simp] abbrev F_rbegins (s : Rdr) (i : Bool) : Option (Rdr × Bool) := (beginsR s i).map fun v => (s, v)
abbrev s_rbegins : Spc := rdF (a1 Bool) (enc (X := Bool)) F_rbegins
theorem finRP {b : Nat} {post : Rdr → Pat → Prop} {H : HMap} {op o : Int} {n a v l lb rg : B} {f : Bool} {cd d : D} {mn mx : Int} (s : Rdr) (cks : List Cond) (ks : List Pat) (hc : FrzTo (fun i => if i = 0 then none else H i) cd (enc cks)) (hd : FrzTo (fun i => if i = 0 then none else H i) d (enc ks))
    (h0 : H 0 = some (.box b (ceRdr s))) (hq : post s ⟨op, ⟨o, n, a, v, l, f, cks⟩, lb, rg, mn, mx, ks⟩) :
    FinRD enc b post (.agg [.v (.int .i64 op), .v (.int .i64 o), .v (.string n), .v (.string a), .v (.string v), .v (.string l), .v (.bool f), cd, .v (.string lb), .v (.string rg), .v (.int .i64 mn), .v (.int .i64 mx), d]) H :=
  finRD s _ (frz_pat cks ks hc hd) h0 hq
theorem w_reader_begins (h1 : S f_query_reader_sign = s_rsign) (h2 : S f_query_reader_word = s_rword) (h3 : S f_query_reader_peek = s_rpeek) :
    WalkRD cc_query_reader_begins rs_query_reader_begins S (a1 Bool) (enc (X := Bool)) (fun s z => ∃ r, F_rbegins s z = some r) (fun s z s' y => F_rbegins s z = some (s', y)) := by
  rintro b s i ⟨⟨s', y⟩, hr0⟩
  obtain ⟨v, q, q1⟩ := Option.map_eq_some_iff.1 hr0
  simp only [Prod.mk.injEq] at q1
  obtain ⟨rfl, rfl⟩ := q1
  have q0 := q
  unfold beginsR at q
  split at q
  · rename_i hk
    cases q
    obtain ⟨tx, fi, kd, te, po⟩ := s
    simp only at hk
    subst hk
    simp [cc_query_reader_begins, rs_query_reader_begins]
    exact finRB ⟨tx, fi, 4, te, po⟩ (by simp) ⟨q0, rfl⟩
  rename_i hk4
  split at q
  · rename_i hk
    obtain ⟨n, hn, q2⟩ := Option.map_eq_some_iff.1 q
    clear q hk4
    obtain ⟨tx, fi, kd, te, po⟩ := s
    simp only at hk
    subst hk
    simp [cc_query_reader_begins, rs_query_reader_begins, h1, h2, h3, hn, -Bool.forall_bool, -Bool.exists_bool]
    clear h1 h2 h3
    refine ⟨fun hi => ⟨fun hw => ⟨fun h5 => ?_, fun h5 => ?_⟩, fun hw => ?_⟩, fun hi => ?_⟩
    · exact finRB ⟨tx, fi, 2, te, po⟩ (by simp) ⟨by rw [q0, ← q2]; simp [hi, tailL, hw, h5], rfl⟩
    · exact finRB ⟨tx, fi, 2, te, po⟩ (by simp) ⟨by rw [q0, ← q2]; simp [hi, tailL, hw, h5], rfl⟩
    · exact finRB ⟨tx, fi, 2, te, po⟩ (by simp) ⟨by rw [q0, ← q2]; simp [hi, tailL, hw], rfl⟩
    · exact finRB ⟨tx, fi, 2, te, po⟩ (by simp) ⟨by rw [q0, ← q2]; simp [hi], rfl⟩
  · rename_i hk
    cases q
    simp [cc_query_reader_begins, rs_query_reader_begins, h1, h2, h3, hk4, hk, -Bool.forall_bool, -Bool.exists_bool]
    clear h1 h2 h3
    refine ⟨fun a1 => ⟨fun a2 => ⟨fun a3 => ?_, fun a3 => ?_⟩, fun a2 => ?_⟩, fun a1 => ?_⟩
    · exact finRB s (by simp) ⟨by rw [q0]; simp [a1, a2, a3], rfl⟩
    · exact finRB s (by simp) ⟨by rw [q0]; simp [a1, a2, a3], rfl⟩
    · exact finRB s (by simp) ⟨by rw [q0]; simp [a1, a2], rfl⟩
    · exact finRB s (by simp) ⟨by rw [q0]; simp [a1], rfl⟩
theorem w_reader_token (O : Rdr → Option (Rdr × Cond)) (h1 : S f_query_reader_take = s_rtake) (h2 : S f_query_reader_sign = s_rsign) (h3 : S f_query_reader_must = s_rmust) (h4 : S f_query_reader_or = rdF a0 (enc (X := Cond)) (F_rnot O)) (h5 : S f_query_reader_text = s_rtext) (h6 : S f_query_reader_fold = s_rfold) :
    WalkRD cc_query_reader_token rs_query_reader_token S (a1 B) (enc (X := Pat)) (fun s z => ∃ r, F_rtoken O s z = some r) (fun s z s' y => F_rtoken O s z = some (s', y)) := by
  rintro b s lab ⟨⟨s', y⟩, hr0⟩
  have q := hr0
  simp only [F_rtoken, tokenR] at q
  obtain ⟨⟨s1, v⟩, h7, q1⟩ := Option.bind_eq_some_iff.1 q
  clear q
  simp only at q1
  cases v
  · simp only [Bool.false_eq_true, if_false] at q1
    have e := takeR_no h7
    rw [e] at q1 h7
    clear e s1
    obtain ⟨⟨s2, y2⟩, q2, q3⟩ := Option.map_eq_some_iff.1 q1
    clear q1
    simp only [valueR] at q2
    obtain ⟨⟨s3, v⟩, h8, q4⟩ := Option.bind_eq_some_iff.1 q2
    clear q2
    obtain ⟨⟨s4, f⟩, h9, q5⟩ := Option.map_eq_some_iff.1 q4
    clear q4
    simp only [Prod.mk.injEq] at h9 q5 q3
    obtain ⟨rfl, rfl⟩ := q5
    obtain ⟨rfl, rfl⟩ := q3
    simp [cc_query_reader_token, rs_query_reader_token, h1, h2, h3, h4, h5, h6, h7, h8, h9, -Bool.forall_bool, -Bool.exists_bool]
    intros
    exact finRP s4 [] [] (.nil _) (.nil _) (by simp) hr0
  · simp only [if_true] at q1
    split at q1
    · rename_i hs
      obtain ⟨s2, h8, q2⟩ := Option.map_eq_some_iff.1 q1
      clear q1
      simp only [Prod.mk.injEq] at q2
      obtain ⟨rfl, rfl⟩ := q2
      simp [cc_query_reader_token, rs_query_reader_token, h1, h2, h3, h4, h5, h6, h7, h8, hs, -Bool.forall_bool, -Bool.exists_bool]
      intros
      exact finRP s2 [] [] (.nil _) (.nil _) (by simp) hr0
    · rename_i hs
      obtain ⟨⟨s2, x⟩, h8, q2⟩ := Option.bind_eq_some_iff.1 q1
      clear q1
      obtain ⟨s3, h9, q3⟩ := Option.map_eq_some_iff.1 q2
      clear q2
      simp only [Prod.mk.injEq] at h9 q3
      obtain ⟨rfl, rfl⟩ := q3
      simp [cc_query_reader_token, rs_query_reader_token, h1, h2, h3, h4, h5, h6, h7, h8, h9, hs, -Bool.forall_bool, -Bool.exists_bool]
      intros
      exact finRP s3 x.kids [] (by simp) (.nil _) (by simp) (by cases x; exact hr0)
theorem w_reader_item (A : Rdr → Bool → Option (Rdr × Pat)) (O : Rdr → Option (Rdr × Cond)) (h1 : S f_query_reader_take = s_rtake) (h2 : S f_query_reader_name = s_rname) (h3 : S f_query_reader_must = s_rmust) (h4 : S f_query_reader_token = s_rtoken O) (h5 : S f_query_reader_alt = s_ralt A) :
    WalkRD cc_query_reader_item rs_query_reader_item S a0 (enc (X := Pat)) (fun s z => ∃ r, F_ritem A O s z = some r) (fun s z s' y => F_ritem A O s z = some (s', y)) := by
  rintro b s ⟨⟩ ⟨⟨s', y⟩, hr0⟩
  have q := hr0
  simp only [F_ritem, itemR] at q
  obtain ⟨⟨s1, v⟩, h6, q1⟩ := Option.bind_eq_some_iff.1 q
  clear q
  simp only at q1
  cases v
  · simp only [Bool.false_eq_true, if_false] at q1
    have e := takeR_no h6
    rw [e] at q1 h6
    clear e s1
    obtain ⟨⟨s1, v⟩, h7, q2⟩ := Option.bind_eq_some_iff.1 q1
    clear q1
    simp only at q2
    cases v
    · simp only [Bool.false_eq_true, if_false] at q2
      have e := takeR_no h7
      rw [e] at q2 h7
      clear e s1
      obtain ⟨⟨s1, v⟩, h8, q3⟩ := Option.bind_eq_some_iff.1 q2
      clear q2
      simp only at q3
      cases v
      · simp only [Bool.false_eq_true, if_false] at q3
        have e := takeR_no h8
        rw [e] at q3 h8
        clear e s1
        split at q3
        · rename_i hk
          obtain ⟨⟨s1, n⟩, h9, q4⟩ := Option.bind_eq_some_iff.1 q3
          clear q3
          obtain ⟨s2, h10, q5⟩ := Option.bind_eq_some_iff.1 q4
          clear q4
          simp only at h10 q5
          obtain ⟨tx, fi, kd, te, po⟩ := s
          simp only at hk
          subst hk
          simp [cc_query_reader_item, rs_query_reader_item, h1, h2, h3, h4, h5, h6, h7, h8, h9, h10, q5, -Bool.forall_bool, -Bool.exists_bool]
          intros
          exact finRD s' y (by simp) (by simp) hr0
        · rename_i hk
          have q3 : tokenR O s ⟨#[]⟩ = some (s', y) := q3
          simp [cc_query_reader_item, rs_query_reader_item, h1, h2, h3, h4, h5, h6, h7, h8, q3, hk, -Bool.forall_bool, -Bool.exists_bool]
          intros
          exact finRD s' y (by simp) (by simp) hr0
      · simp only [if_true] at q3
        obtain ⟨⟨s2, x⟩, h9, q4⟩ := Option.bind_eq_some_iff.1 q3
        clear q3
        obtain ⟨s3, h10, q5⟩ := Option.map_eq_some_iff.1 q4
        clear q4
        simp only [Prod.mk.injEq] at h10 q5
        obtain ⟨rfl, rfl⟩ := q5
        simp [cc_query_reader_item, rs_query_reader_item, h1, h2, h3, h4, h5, h6, h7, h8, h9, h10, -Bool.forall_bool, -Bool.exists_bool]
        intros
        exact finRD s3 x (by simp) (by simp) hr0
    · simp only [if_true, anchorR] at q2
      obtain ⟨⟨s2, n⟩, h9, q4⟩ := Option.bind_eq_some_iff.1 q2
      clear q2
      obtain ⟨s3, h10, q5⟩ := Option.map_eq_some_iff.1 q4
      clear q4
      simp only [Prod.mk.injEq] at h10 q5
      obtain ⟨rfl, rfl⟩ := q5
      simp [cc_query_reader_item, rs_query_reader_item, h1, h2, h3, h4, h5, h6, h7, h9, h10, -Bool.forall_bool, -Bool.exists_bool]
      intros
      exact finRP s3 [] [] (.nil _) (.nil _) (by simp) hr0
  · simp only [if_true, anchorR] at q1
    obtain ⟨⟨s2, n⟩, h9, q4⟩ := Option.bind_eq_some_iff.1 q1
    clear q1
    obtain ⟨s3, h10, q5⟩ := Option.map_eq_some_iff.1 q4
    clear q4
    simp only [Prod.mk.injEq] at h10 q5
    obtain ⟨rfl, rfl⟩ := q5
    simp [cc_query_reader_item, rs_query_reader_item, h1, h2, h3, h4, h5, h6, h9, h10, -Bool.forall_bool, -Bool.exists_bool]
    intros
    exact finRP s3 [] [] (.nil _) (.nil _) (by simp) hr0
end Go.Gv

namespace Go.Gv
set_option linter.unusedSimpArgs false
set_option linter.unusedVariables false
set_option maxRecDepth 100000
open Cod (enc dec)
variable {S S0 : Nat → Spc}
variable (A : Rdr → Bool → Option (Rdr × Pat)) (O : Rdr → Option (Rdr × Cond))
theorem w_reader_seq (h1 : S f_query_reader_begins = s_rbegins) (h2 : S f_query_reader_rep = s_rrep A O) (h3 : S f_query_patterns = s_patterns) :
    WalkRD cc_query_reader_seq rs_query_reader_seq S (a1 Bool) (enc (X := Pat)) (fun s z => ∃ r, F_rseq A O s z = some r) (fun s z s' y => F_rseq A O s z = some (s', y)) := by
  rintro b s i ⟨⟨s', y⟩, hr0⟩
  have q := hr0
  simp only [F_rseq, seqR] at q
  obtain ⟨⟨s1, x1⟩, hi, q1⟩ := Option.bind_eq_some_iff.1 q
  clear q
  obtain ⟨⟨s2, l2⟩, hl, q2⟩ := Option.map_eq_some_iff.1 q1
  clear q1
  simp only [Prod.mk.injEq] at hl q2
  obtain ⟨rfl, rfl⟩ := q2
  simp [cc_query_reader_seq, rs_query_reader_seq, h2, hi, -Bool.forall_bool, -Bool.exists_bool]
  intro b2 v0
  refine vc_while (X := Nat × Rdr × Value × List Pat) [0, 1, 4] [4] (fun z => seqLoopR A O i z.1 z.2.1 z.2.2.2 = some (s2, l2) ∧ z.2.2.2.length + z.1 ≤ 501) (fun z => [(5, .own 8 z.2.2.1)]) (fun z => [(0, .box b (ceRdr z.2.1)), (8, .row z.2.2.1 ty_Pattern 13 (z.2.2.2.map enc))]) (fun z => z.1) (500, s1, v0, [x1]) ⟨hl, by simp⟩ (by simp) (by simp) ?_
  clear hl hi
  rintro ⟨k, s, v, l⟩ ⟨hk, hlen⟩
  simp only at hk hlen
  obtain _ | k := k
  · rw [seqLoopR] at hk; cases hk
  rw [seqLoopR] at hk
  obtain ⟨v1, hb, hk1⟩ := Option.bind_eq_some_iff.1 hk
  clear hk
  cases v1
  · simp only [Bool.false_eq_true, if_false, Option.some.injEq, Prod.mk.injEq] at hk1
    obtain ⟨rfl, rfl⟩ := hk1
    simp [h1, hb, h3, -Bool.forall_bool, -Bool.exists_bool]
    exact finRD s (oneOr 4 l) (by simp) (by simp) hr0
  · simp only [if_true] at hk1
    obtain ⟨⟨s3, x3⟩, hx, hk2⟩ := Option.bind_eq_some_iff.1 hk1
    simp only at hk2
    simp [h1, hb, h2, hx, -Bool.forall_bool, -Bool.exists_bool]
    exact ⟨by omega, by omega, fun v' => ⟨k, s3, v', l ++ [x3], ⟨hk2, by simp; omega⟩, ⟨rfl, .inl ⟨rfl, rfl, rfl, rfl, rfl⟩, .inl ⟨rfl, by simp⟩⟩, by omega⟩⟩
theorem w_reader_alt (h1 : S f_query_reader_take = s_rtake) (h2 : S f_query_reader_seq = s_rseq A O) (h3 : S f_query_patterns = s_patterns) :
    WalkRD cc_query_reader_alt rs_query_reader_alt S (a1 Bool) (enc (X := Pat)) (fun s z => ∃ r, F_ralt (altR A O) s z = some r) (fun s z s' y => F_ralt (altR A O) s z = some (s', y)) := by
  rintro b s i ⟨⟨s', y⟩, hr0⟩
  have q := hr0
  simp only [F_ralt, altR] at q
  obtain ⟨⟨s1, x1⟩, hi, q1⟩ := Option.bind_eq_some_iff.1 q
  clear q
  obtain ⟨⟨s2, l2⟩, hl, q2⟩ := Option.map_eq_some_iff.1 q1
  clear q1
  simp only [Prod.mk.injEq] at hl q2
  obtain ⟨rfl, rfl⟩ := q2
  simp [cc_query_reader_alt, rs_query_reader_alt, h2, hi, -Bool.forall_bool, -Bool.exists_bool]
  intro b2 v0
  refine vc_while (X := Nat × Rdr × Value × List Pat) [0, 1, 4] [4] (fun z => altLoopR A O i z.1 z.2.1 z.2.2.2 = some (s2, l2) ∧ z.2.2.2.length + z.1 ≤ 501) (fun z => [(5, .own 9 z.2.2.1)]) (fun z => [(0, .box b (ceRdr z.2.1)), (9, .row z.2.2.1 ty_Pattern 13 (z.2.2.2.map enc))]) (fun z => z.1) (500, s1, v0, [x1]) ⟨hl, by simp⟩ (by simp) (by simp) ?_
  clear hl hi
  rintro ⟨k, s, v, l⟩ ⟨hk, hlen⟩
  simp only at hk hlen
  obtain _ | k := k
  · rw [altLoopR] at hk; cases hk
  rw [altLoopR] at hk
  obtain ⟨⟨s4, v1⟩, hb, hk1⟩ := Option.bind_eq_some_iff.1 hk
  clear hk
  simp only at hk1
  cases v1
  · simp only [Bool.false_eq_true, if_false, Option.some.injEq, Prod.mk.injEq] at hk1
    obtain ⟨rfl, rfl⟩ := hk1
    simp [h1, hb, h3, -Bool.forall_bool, -Bool.exists_bool]
    exact finRD s4 (oneOr 5 l) (by simp) (by simp) hr0
  · simp only [if_true] at hk1
    obtain ⟨⟨s3, x3⟩, hx, hk2⟩ := Option.bind_eq_some_iff.1 hk1
    simp only at hk2
    simp [h1, hb, h2, hx, -Bool.forall_bool, -Bool.exists_bool]
    exact ⟨by omega, by omega, fun v' => ⟨k, s3, v', l ++ [x3], ⟨hk2, by simp; omega⟩, ⟨rfl, .inl ⟨rfl, rfl, rfl, rfl, rfl⟩, .inl ⟨rfl, by simp⟩⟩, by omega⟩⟩
theorem w_reader_rep (h1 : S f_query_reader_take = s_rtake) (h5 : S f_query_reader_item = s_ritem A O) :
    WalkRD cc_query_reader_rep rs_query_reader_rep S a0 (enc (X := Pat)) (fun s z => ∃ r, F_rrep A O s z = some r) (fun s z s' y => F_rrep A O s z = some (s', y)) := by
  rintro b s ⟨⟩ ⟨⟨s', y⟩, hr0⟩
  have q := hr0
  simp only [F_rrep, repR] at q
  obtain ⟨⟨s1, x1⟩, hi, q1⟩ := Option.bind_eq_some_iff.1 q
  clear q
  simp only at q1
  simp [cc_query_reader_rep, rs_query_reader_rep, h5, hi, -Bool.forall_bool, -Bool.exists_bool]
  intro b2 b3
  refine vc_whileG (X := Nat × Rdr × Pat) [0, 2, 3] [2] [] [] [] [] (fun z => repLoopR z.1 z.2.1 z.2.2 = some (s', y)) (fun _ => []) (fun z => [(0, .box b (ceRdr z.2.1)), (3, .box b3 (enc z.2.2).cells)]) (fun z => z.1) (500, s1, x1) [0, 3] (fun _ => rfl) (by decide) (by decide) q1 (by simp) (by simp) ?_
  clear q1 hi
  rintro ⟨k, s, x⟩ hk
  simp only at hk
  obtain _ | k := k
  · rw [repLoopR] at hk; cases hk
  rw [repLoopR, sufR] at hk
  obtain ⟨⟨s2, m⟩, hs, hk1⟩ := Option.bind_eq_some_iff.1 hk
  clear hk
  obtain ⟨⟨s3, v⟩, h6, q1⟩ := Option.bind_eq_some_iff.1 hs
  clear hs
  simp only at q1
  cases v
  · simp only [Bool.false_eq_true, if_false] at q1
    have e := takeR_no h6
    rw [e] at q1 h6
    clear e s3
    obtain ⟨⟨s3, v⟩, h7, q2⟩ := Option.bind_eq_some_iff.1 q1
    clear q1
    simp only at q2
    cases v
    · simp only [Bool.false_eq_true, if_false] at q2
      have e := takeR_no h7
      rw [e] at q2 h7
      clear e s3
      obtain ⟨⟨s3, v⟩, h8, q3⟩ := Option.bind_eq_some_iff.1 q2
      clear q2
      simp only at q3
      cases v
      · simp only [Bool.false_eq_true, if_false] at q3
        have e := takeR_no h8
        rw [e] at q3 h8
        clear e s3
        split at q3
        · cases q3
        · rename_i h9
          have h9 : takeR s ⟨#[123]⟩ = some (s, false) := by rw [takeR, if_neg h9]
          cases q3
          simp only [Option.some.injEq, Prod.mk.injEq] at hk1
          obtain ⟨rfl, rfl⟩ := hk1
          simp [h1, h6, h7, h8, h9, -Bool.forall_bool, -Bool.exists_bool]
          intros
          exact finRD s x (by simp) (by simp) hr0
      · simp only [if_true] at q3
        cases q3
        simp only at hk1
        simp [h1, h6, h7, h8, -Bool.forall_bool, -Bool.exists_bool]
        refine ⟨k, s2, ⟨6, Cond0, E0, E0, 1, -1, [x]⟩, hk1, ⟨.inl ⟨rfl, rfl, rfl, rfl, rfl⟩, ?_⟩, ?_⟩
        · simp [Cond0, E0]
        · omega
    · simp only [if_true] at q2
      cases q2
      simp only at hk1
      simp [h1, h6, h7, -Bool.forall_bool, -Bool.exists_bool]
      refine ⟨k, s2, ⟨6, Cond0, E0, E0, 0, -1, [x]⟩, hk1, ⟨.inl ⟨rfl, rfl, rfl, rfl, rfl⟩, ?_⟩, ?_⟩
      · simp [Cond0, E0]
      · omega
  · simp only [if_true] at q1
    cases q1
    simp only at hk1
    simp [h1, h6, -Bool.forall_bool, -Bool.exists_bool]
    refine ⟨k, s2, ⟨6, Cond0, E0, E0, 0, 1, [x]⟩, hk1, ⟨.inl ⟨rfl, rfl, rfl, rfl, rfl⟩, ?_⟩, ?_⟩
    · simp [Cond0, E0]
    · omega
end Go.Gv

namespace Go.Gv
set_option linter.unusedSimpArgs false
set_option linter.unusedVariables false
set_option maxRecDepth 100000
open Cod (enc dec)
variable {S S0 : Nat → Spc}
abbrev s_qfilts : Spc := spc a0 (fun _ => True) (enc (X := List B)) fun _ y => y = filterL
theorem w_qfilts : Walk cc_query_filterWords rs_query_filterWords S a0 (fun _ => True) (enc (X := List B)) fun _ y => y = filterL := by
  rintro x -
  simp [cc_query_filterWords, rs_query_filterWords]
  exact fin_of (Y := List B) filterL (.same _) rfl
@[simp] abbrev F_rquery (n : Nat) (s : Rdr) (_ : Unit) : Option (Rdr × Qry) := queryR n s
abbrev s_rquery (n : Nat) : Spc := rdF a0 (enc (X := Qry)) (F_rquery n)
theorem frz_agg' {H : HMap} {l l' : List D} (h : FzL H l l') : FrzTo H (.agg l) (.agg l') := .agg h.get.1 h.get.2
theorem w_reader_query (n : Nat) (h1 : S f_query_reader_next = s_rnext) (h2 : S f_query_reader_alt = s_ralt (altRN n)) (h3 : S f_query_reader_take = s_rtake) (h4 : S f_query_reader_sign = s_rsign) (h5 : S f_query_reader_word = s_rword) (h6 : S f_query_filterWords = s_qfilts) :
    WalkRD cc_query_reader_query rs_query_reader_query S a0 (enc (X := Qry)) (fun s z => ∃ r, F_rquery n s z = some r) (fun s z s' y => F_rquery n s z = some (s', y)) := by
  rintro b s ⟨⟩ ⟨⟨s', y⟩, hr0⟩
  have q := hr0
  simp only [F_rquery, queryR] at q
  obtain ⟨s1, hn, q1⟩ := Option.bind_eq_some_iff.1 q
  clear q
  obtain ⟨⟨s2, p⟩, ha, q2⟩ := Option.bind_eq_some_iff.1 q1
  clear q1
  simp only at q2
  split at q2
  · rename_i hk
    simp only [Option.some.injEq, Prod.mk.injEq] at q2
    obtain ⟨rfl, rfl⟩ := q2
    obtain ⟨tx, fi, kd, te, po⟩ := s2
    simp only at hk
    subst hk
    have g1 : ∀ t, signR ⟨tx, fi, 0, te, po⟩ t = false := fun t => rfl
    have g2 : ∀ t, takeR ⟨tx, fi, 0, te, po⟩ t = some (⟨tx, fi, 0, te, po⟩, false) := fun t => rfl
    have g3 : ∀ t, wordR ⟨tx, fi, 0, te, po⟩ t = false := fun t => rfl
    simp [cc_query_reader_query, rs_query_reader_query, h1, hn, h2, ha, h3, g2, -Bool.forall_bool, -Bool.exists_bool]
    intro b2 b3
    refine vc_while (X := Unit) [0, 2, 3] [0, 2, 3, 55] (fun _ => True) (fun _ => []) (fun _ => []) (fun _ => 0) () trivial (by simp) (by simp) ?_
    rintro - -
    simp [h4, h5, h6, g1, g3, -Bool.forall_bool, -Bool.exists_bool]
    exact finRD ⟨tx, fi, 0, te, po⟩ ⟨p, GlobE, [], 0⟩ (by rw [enc_Qry]; exact frz_agg' (by simp [GlobE, E0])) (by simp) hr0
  · cases q2
def knownQ : B := ⟨#[60, 115, 62, 32, 91, 119, 111, 114, 100, 61, 34, 84, 104, 101, 34, 37, 99, 93]⟩
def knownP : Pat := ⟨4, Cond0, E0, E0, 0, 0, [⟨2, Cond0, E0, ⟨#[115]⟩, 0, 0, []⟩, ⟨1, ⟨2, ⟨#[119, 111, 114, 100]⟩, E0, ⟨#[84, 104, 101]⟩, E0, true, []⟩, E0, E0, 0, 0, []⟩]⟩
theorem known_read : queryR 10 ⟨knownQ, 0, 0, E0, 0⟩ = some (⟨knownQ, 18, 0, E0, 18⟩, ⟨knownP, GlobE, [], 0⟩) := by kernel_rfl
end Go.Gv

namespace Go.Gv
set_option linter.unusedSimpArgs false
set_option linter.unusedVariables false
set_option maxRecDepth 100000
open Cod (enc dec)
open Go.Proofs
/-- The deferred function where nothing panicked. -/
theorem idle_Parse (v2 v3 v4 : Value) (w : World) : CallsD Tryz.prog 27 #[v2, v3, v4] .returning w fun e u' w' => e = .returned (.tuple #[]) ∧ u' = .returning ∧ w' = w := by
  refine callsD_of_wpS Tryz.func27 rfl fun c₀ cs hu => ?_
  apply wpS_seq
  apply wpS_region
  simp [wpOpsS, go_sem, recoverD, hu, Tryz.ntmps27, Exit.thenS]
  apply wpS_seq
  apply wpS_region
  simp [wpOpsS, go_sem, recoverD, hu, Tryz.ntmps27, Exit.thenS]
  refine wpS_cond (t := false) (by simp [Act.eval, Array.replicate]) ?_
  simp only [Bool.false_eq_true, if_false]
  refine wpS_of_wp (wp_skip ?_)
  cases c₀
  simp_all [bodyPostS, results, Tryz.results27]

/-! ### The parts of its text -/
def ccPA : CC := .reg [.op (some 2) none (.alloc 38 [(.int .i64 0), (.int .i64 0), (.string ⟨#[]⟩), (.string ⟨#[]⟩), (.string ⟨#[]⟩), (.string ⟨#[]⟩), (.bool false), (.slice none 0 0), (.string ⟨#[]⟩), (.string ⟨#[]⟩), (.int .i64 0), (.int .i64 0), (.slice none 0 0), (.int .i64 0), (.string ⟨#[]⟩), (.string ⟨#[]⟩), (.string ⟨#[]⟩), (.string ⟨#[]⟩), (.string ⟨#[]⟩), (.bool false), (.int .i64 0), (.int .i64 0), (.slice none 0 0), (.slice none 0 0), (.slice none 0 0), (.int .i64 0)]), .op (some 3) none (.alloc 3 [(.int .i64 0)]), .op (some 4) none (.alloc 39 [(.int .i64 0)])]
def ccPB : CC := .seq (.reg [.op (some 5) none (.mv (.tmp 0)), .op (some 6) none (.slen (.tmp 5)), .op (some 7) none (.cmp .gtr (.tmp 6) (.const (.int .i64 400)))])
  (.keep [0, 2, 3, 4, 7] [2, 3, 4] (.ite (.tmp 7) (.seq (.reg [.op (some 8) none (.build [(.int .i64 0), (.int .i64 0), (.string ⟨#[]⟩), (.string ⟨#[]⟩), (.string ⟨#[]⟩), (.string ⟨#[]⟩), (.bool false), (.slice none 0 0), (.string ⟨#[]⟩), (.string ⟨#[]⟩), (.int .i64 0), (.int .i64 0), (.slice none 0 0), (.int .i64 0), (.string ⟨#[]⟩), (.string ⟨#[]⟩), (.string ⟨#[]⟩), (.string ⟨#[]⟩), (.string ⟨#[]⟩), (.bool false), (.int .i64 0), (.int .i64 0), (.slice none 0 0), (.slice none 0 0), (.slice none 0 0), (.int .i64 0)] []), .op none none (.store none 26 (.tmp 2) (.tmp 8)), .op none none (.store none 1 (.tmp 3) (.const (.int .i64 0))), .op none none (.store none 1 (.tmp 4) (.const (.int .i64 2)))]) .ret) .skip))
def ccPD : CC := .keep [0, 2, 3, 4] [2, 3, 4] (.seq (.reg [.op (some 10) none (.mv (.tmp 0)), .op (some 11) none (.build [(.string ⟨#[]⟩), (.int .i64 0), (.int .i64 0), (.string ⟨#[]⟩), (.int .i64 0)] [(0, 1, (.tmp 10))]), .op (some 12) none (.box 69 false (.tmp 11)),
  .op (some 13) none (.call f_query_reader_query [(.tmp 12)]), .op none none (.store none 26 (.tmp 2) (.tmp 13)), .op none none (.store none 1 (.tmp 3) (.const (.int .i64 0))), .op none none (.store none 1 (.tmp 4) (.const (.int .i64 0)))]) .ret)
def rsP : List CRes := [.cell 2 true 26, .cell 3 false 1, .cell 4 false 1]
def codeA : Code → Option Code
  | .seq a _ => some a
  | _ => none
def codeB : Code → Option Code
  | .seq _ (.seq a _) => some a
  | _ => none
def codeD : Code → Option Code
  | .seq _ (.seq _ (.seq _ a)) => some a
  | _ => none
theorem ok_PA : ((Tryz.f11.body.bind codeA).bind fun c => compileC Tryz.prog [] 14 c) = some (strip ccPA) := by kernel_rfl
theorem ok_PB : ((Tryz.f11.body.bind codeB).bind fun c => compileC Tryz.prog [] 14 c) = some (strip ccPB) := by kernel_rfl
theorem ok_PD : ((Tryz.f11.body.bind codeD).bind fun c => compileC Tryz.prog [] 14 c) = some (strip ccPD) := by kernel_rfl
theorem ok_PR : Tryz.f11.results.toList.mapM (compileRes Tryz.prog) = some rsP := by kernel_rfl
def nrm (F : Sg → HMap → Prop) : Ex → Sg → HMap → Prop
  | .norm, σ, H => F σ H
  | _, _, _ => False
def VP (S : Nat → Spc) (Q : D → HMap → Prop) (ds : List D) (H0 : HMap) : Prop :=
  vc S ccPA (nrm fun σ H => vc S ccPB (nrm fun σ H => vc S ccPD (fun e σ H => match e with | .ret => resL rsP σ H fun ds => Q (oneOrTup ds) H | _ => False) (upd σ 9 .any) H) σ H) (initS ds) H0
theorem St.defer {E : Env} {σ : Sg} {H : HMap} {a : Act} {w : World} (h : St E σ H a w) (x : Value) (dl : List Deferred) (h9 : 9 < E.N) : St { E with ds := dl } (upd σ 9 .any) H { (a.put (some 9) x) with defers := dl } w := by
  obtain ⟨h1, h2, tp, h3, h4⟩ := h
  refine ⟨rfl, by rw [← h2]; simp [Act.put], tp, ⟨h3.1, h3.2, h3.3, h3.4, h3.5, h3.6, h3.7⟩, fun t => ?_⟩
  have := rel_put (σ := σ) (Q := R tp (Imm E.O tp H w) w) (a := a) h2 h4 (some 9) (fun t ht => by cases ht; exact h9) (x := x) (d := .any) (.any x) t
  exact this
theorem results_pf {S : Nat → Spc} (hS : ∀ f, Tri Tryz.prog f (S f).pt) (E : Env) (ds' : List D) (H0 : HMap) (Q : D → HMap → Prop) (vs : List Value) (w : World) (R : Ending → World → Prop) (hds : E.ds = []) (hN : E.N = 14)
    (hst : St E (initS ds') H0 { tmps := vs.toArray ++ Array.replicate (Tryz.f11.ntmps - vs.toArray.size) undef, defers := [] } w) (hV : VP S Q ds' H0)
    (hfin : ∀ (a' : Act) (w' : World) (σ' : Sg) (H' : HMap) (dl : List Deferred), St { E with ds := dl } σ' H' a' w' → (resL rsP σ' H' fun ds => Q (oneOrTup ds) H') → ∃ v, (results Tryz.f11 a'.tmps).run Tryz.prog w' = .ok v w' ∧ R (.returned v) w') : Calls Tryz.prog 11 vs.toArray w R := by
  have hmf : ∀ (fn : Fn) (first cap : Array Value) (w : World), (Instr.makeFunc fn first cap).run Tryz.prog w = .ok (.func fn first cap) w := fun _ _ _ _ => rfl
  refine calls_of_wp_defers Tryz.func11 rfl ?_
  apply wp_seq
  refine wp_mono (vc_sound (E := E) (im := []) hS mixed ccPA _ (by rw [hN]; exact ok_PA) _ _ _ _ _ hst hV) ?_
  intro e a1 w1 hP
  cases e with
  | normal => ?_
  | ret => obtain ⟨_, _, _, h⟩ := hP; exact h.elim
  | exit i => obtain ⟨_, _, _, h⟩ := hP; exact h.elim
  | _ => exact hP.elim
  obtain ⟨σ1, H1, hst1, hV1⟩ := hP
  apply wp_seq
  refine wp_mono (vc_sound (E := E) (im := []) hS mixed ccPB _ (by rw [hN]; exact ok_PB) _ _ _ _ _ hst1 hV1) ?_
  intro e a2 w2 hP
  cases e with
  | normal => ?_
  | ret => obtain ⟨_, _, _, h⟩ := hP; exact h.elim
  | exit i => obtain ⟨_, _, _, h⟩ := hP; exact h.elim
  | _ => exact hP.elim
  obtain ⟨σ2, H2, hst2, hV2⟩ := hP
  apply wp_seq
  have hsz : a2.tmps.size = 14 := by rw [hst2.2.1, hN]
  have hde : a2.defers = [] := by rw [hst2.1, hds]
  refine wp_region_list ?_
  refine wpList_plain rfl fun K hK => ?_
  simp [go_sem, hmf]
  refine hK _ _ ?_
  refine wpList_plain rfl fun K hK => ?_
  simp [go_sem, hsz]
  refine hK _ _ ?_
  refine wpList_nil ?_
  have hst3 := St.defer hst2 (Value.func (Fn.func 27) #[] #[a2.tmps[2], a2.tmps[3], a2.tmps[4]]) ({ target := Target.fn (Fn.func 27) #[a2.tmps[2], a2.tmps[3], a2.tmps[4]], args := #[] } :: a2.defers) (by rw [hN]; decide)
  refine wp_mono (vc_sound (E := { E with ds := { target := Target.fn (Fn.func 27) #[a2.tmps[2], a2.tmps[3], a2.tmps[4]], args := #[] } :: a2.defers }) (im := []) hS mixed ccPD _ (by show compileC _ _ E.N _ = _; rw [hN]; exact ok_PD) _ _ _ _ _ hst3 hV2) ?_
  intro e a3 w3 hP
  cases e with
  | ret => ?_
  | normal => obtain ⟨_, _, _, h⟩ := hP; exact h.elim
  | exit i => obtain ⟨_, _, _, h⟩ := hP; exact h.elim
  | _ => exact hP.elim
  obtain ⟨σ3, H3, hst4, hres⟩ := hP
  show Leaves Tryz.prog Tryz.f11 a3.tmps R a3.defers .returning w3
  have hd3 : a3.defers = { target := Target.fn (Fn.func 27) #[a2.tmps[2], a2.tmps[3], a2.tmps[4]], args := #[] } :: a2.defers := hst4.1
  rw [hd3, hde]
  refine leaves_cons (f := 27) (args := #[a2.tmps[2], a2.tmps[3], a2.tmps[4]]) (by simp) (by simp [go_sem]) ?_
  refine (idle_Parse _ _ _ w3).mono ?_
  rintro e u' w'' ⟨rfl, rfl, rfl⟩
  obtain ⟨v, h1, h2⟩ := hfin a3 w'' σ3 H3 _ hst4 hres
  exact ⟨v, h1, h2⟩
/-- What Parse gives (n: how deep). -/
def Q_qParse (n : Nat) (s : B) (y : Qry × Int × Int) : Prop := ∃ s' q, queryR n ⟨s, 0, 0, E0, 0⟩ = some (s', q) ∧ y = (q, 0, 0)
abbrev s_qParse (n : Nat) : Spc := spc (a1 B) (fun s => s.size ≤ 400 ∧ ∃ r, queryR n ⟨s, 0, 0, E0, 0⟩ = some r) (er3 (Y := Qry) (Z := Int) (W := Int)) (Q_qParse n)
theorem v_Parse {S : Nat → Spc} (n : Nat) (h : S f_query_reader_query = s_rquery n) (s : B) (hp : s.size ≤ 400 ∧ ∃ r, queryR n ⟨s, 0, 0, E0, 0⟩ = some r) : VP S (fun r H' => Fin (er3 (Y := Qry) (Z := Int) (W := Int)) (Q_qParse n s) r H') ((a1 B).view s) noH := by
  obtain ⟨hsz, ⟨s', q⟩, hq⟩ := hp
  have hsz' : ¬ (400 : Int) < s.size := by omega
  simp [VP, ccPA, ccPB, ccPD, rsP, nrm, hsz', h, hq]
  intro b b1 b2 _ b3
  have hq' : queryR n { txt := s, fin := 0, kind := 0, text := { data := #[] }, pos := 0 } = some (s', q) := hq
  rw [hq']
  exact ⟨q, .same _, s', q, hq, rfl⟩
theorem enter_Parse : CallEnter Tryz.prog f_query_Parse := callEnter Tryz.func11 (by kernel_rfl) rfl
theorem t_query_Parse {S : Nat → Spc} (hS : ∀ f, Tri Tryz.prog f (S f).pt) (n : Nat) (h : S f_query_reader_query = s_rquery n) : Tri Tryz.prog f_query_Parse (s_qParse n).pt :=
  tri_run (V := VP S) enter_Parse (N := 14) rfl ok_PR (fun x => by simp) (fun E ds' H0 Q vs w R h1 h2 _ h3 h4 h5 => results_pf hS E ds' H0 Q vs w R h1 h2 h3 h4 h5) (v_Parse n h)
end Go.Gv

namespace Go.Gv
set_option linter.unusedSimpArgs false
set_option linter.unusedVariables false
set_option maxRecDepth 100000
open Cod (enc dec)
variable {S S0 : Nat → Spc}

end Go.Gv

namespace Go.Gv
set_option linter.unusedSimpArgs false
set_option linter.unusedVariables false
set_option maxRecDepth 100000
open Cod (enc dec)
variable {S S0 : Nat → Spc}
end Go.Gv

namespace Go.Gv
open Go.Proofs

end Go.Gv

namespace Go.Gv
set_option linter.unusedSimpArgs false
set_option linter.unusedVariables false
set_option maxRecDepth 100000
open Cod (enc dec)
variable {S S0 : Nat → Spc}
end Go.Gv

namespace Go.Gv
set_option linter.unusedSimpArgs false
end Go.Gv

namespace Go.Gv
set_option linter.unusedSimpArgs false
set_option linter.unusedVariables false
theorem validN_small {s : B} {c d : UInt8} (h : s = ⟨#[c]⟩ ∨ s = ⟨#[c, d]⟩) (hc : begB c.toNat = true) (hd : begB d.toNat = true) : validN s = true := by
  refine (validN_iff s).2 ?_
  have hc' : conB c.toNat = true := by unfold conB; rw [hc]; rfl
  have hd' : conB d.toNat = true := by unfold conB; rw [hd]; rfl
  rcases h with rfl | rfl
  · refine ⟨by show 1 ≤ 1; decide, by show 1 ≤ 32; decide, fun x hx => ?_, fun k x hx => ?_⟩
    · cases hx; exact hc
    · rcases k with _ | k
      · cases hx; exact hc'
      · simp at hx
  · refine ⟨by show 1 ≤ 2; decide, by show 2 ≤ 32; decide, fun x hx => ?_, fun k x hx => ?_⟩
    · cases hx; exact hc
    · rcases k with _ | _ | k
      · cases hx; exact hc'
      · cases hx; exact hd'
      · simp at hx
theorem validN_gen : validN b_s = true ∧ validN b_np = true ∧ validN b_t = true ∧ validN b_x = true ∧ validN b_y = true :=
  ⟨validN_small (c := 115) (d := 115) (.inl rfl) (by decide) (by decide), validN_small (c := 110) (d := 112) (.inr rfl) (by decide) (by decide), validN_small (c := 116) (d := 116) (.inl rfl) (by decide) (by decide),
   validN_small (c := 120) (d := 120) (.inl rfl) (by decide) (by decide), validN_small (c := 121) (d := 121) (.inl rfl) (by decide) (by decide)⟩
theorem labOk_nil : LabOk [] := fun l h => by simp at h
end Go.Gv

namespace Go.Gv
set_option linter.unusedSimpArgs false
set_option linter.unusedVariables false
end Go.Gv
