/- A part of the framework and of the walks: W81 W82. -/
import Derived.Test.YtaiffcbkmgfklaaGreatDoorGy17
import Derived.Test.YtaiffcbkmgfklaaGreatDoorGy19

namespace Go.Gv
set_option linter.unusedSimpArgs false
set_option linter.unusedVariables false
set_option maxRecDepth 100000
open Cod (enc dec)
variable {S S0 : Nat → Spc}
theorem bnd_lenP (p : Pat) : ∀ out, (bndP p out).length ≤ out.length + pNum p := by
  induction p using pat_ind with | _ p ih => ?_
  intro out
  rw [bndP_eq, pNum_eq]
  split
  · unfold addL
    split
    · omega
    · simp
  · have : ∀ (ks : List Pat) (o : List B), (∀ k ∈ ks, k ∈ p.kids) → (ks.foldl (fun o k => bndP k o) o).length ≤ o.length + pNums ks := by
      intro ks
      induction ks with
      | nil => intro o _; simp [pNums]
      | cons k ks ihk =>
        intro o hk
        rw [List.foldl_cons, pNums]
        have h1 := ihk (bndP k o) fun z hz => hk z (by simp [hz])
        have := ih k (hk k (by simp)) o
        omega
    have := this p.kids out fun _ h => h
    omega
theorem bnd_fold (ks : List Pat) (k : Nat) (lb : List B) : ((ks.take k).foldl (fun o k => bndP k o) lb).length ≤ lb.length + pNums (ks.take k) := by
  generalize ks.take k = l
  induction l generalizing lb with
  | nil => simp [pNums]
  | cons a l ih =>
    rw [List.foldl_cons, pNums]
    have h1 := ih (bndP a lb)
    have h2 := bnd_lenP a lb
    omega
def Q_rep2 (x : Cond × List B) (y : Cond) : Prop := y = repC x.2 x.1
abbrev s_m_replace2 (n : Nat) : Spc := spc (a2 Cond (List B)) (P_rep n) (enc (X := Cond)) Q_rep2
theorem w_m_replace2 (n : Nat) (h1 : S f_m_replace = s_m_replace2 n) : Walk cc_m_replace rs_m_replace S (a2 Cond (List B)) (P_rep (n + 1)) (enc (X := Cond)) Q_rep2 := by
  rintro ⟨c, lb⟩ ⟨_, hc⟩
  simp only at hc
  have hc : CS n c := hc
  simp [cc_m_replace, rs_m_replace]
  intro b2 b4
  refine ⟨fun ho _ => ?_, fun ho hl => ?_⟩
  · refine vc_range (X := Unit) [2, 4, 13] [2, 4] lb.length (fun k _ => ∀ z ∈ lb.take k, z ≠ c.lab) (fun _ => []) (fun _ => []) () (by simp) (by simp) (by omega) (by simp) (by simp) (by simp) (by simp) (by simp) ?_ ?_
    · rintro k - hk hz
      obtain ⟨x, hx⟩ := at_lt hk
      obtain ⟨_, hgx⟩ := List.getElem?_eq_some_iff.1 hx
      simp [hk, hx, hgx]
      refine ⟨fun hxl => fin_cond c.kids (.same _) ?_, fun hxl z hz' => ?_⟩
      · show Cond.mk _ _ _ _ _ _ _ = repC lb c
        rw [eta_Cond, repC_eq, if_pos ho, if_pos (hxl ▸ mem_at hx)]
      · rw [take_snoc hx] at hz'
        rcases List.mem_append.1 hz' with h | h
        · exact hz z h
        · simp at h; subst h; exact hxl
    · rintro - hz
      rw [List.take_length] at hz
      simp
      refine fin_cond [] (.nil _) ?_
      show _ = repC lb c
      rw [repC_eq, if_pos ho, if_neg (fun h => hz _ h rfl)]
      rfl
  · refine vc_range (X := Value × List Cond) [1, 2, 4, 29] [2, 4] c.kids.length (fun k x => x.2 = (c.kids.take k).map (repC lb)) (fun x => [(7, .own 40 x.1)]) (fun x => [(40, .row x.1 ty_Cond 7 (x.2.map enc))]) (.slice none 0 0, []) (by simp) (by simp) (by omega) (by simp) (by simp) (by simp) (by simp) (by simp [isNilRow]) ?_ ?_
    · rintro k ⟨v, ks⟩ hk hkl
      simp only at hkl
      obtain ⟨x, hx⟩ := at_lt hk
      obtain ⟨_, hgx⟩ := List.getElem?_eq_some_iff.1 hx
      obtain ⟨m, hm, hx1⟩ := cs_kid hc (mem_at hx)
      have hp : P_rep n (x, lb) := ⟨by omega, by rw [hm]; exact hx1⟩
      simp [hk, hx, hgx, h1, hp]
      have := cs_len hc
      have hkl2 : ks.length = k := by rw [hkl, List.length_map, List.length_take]; omega
      refine fun y hy => ⟨by omega, by omega, fun v => .inl ?_⟩
      obtain rfl : y = repC lb x := hy
      rw [hkl, List.map_map, List.map_take, List.take_add_one]
      simp [hx]
    · rintro ⟨v, ks⟩ hkl
      simp only at hkl
      simp
      rw [List.take_length] at hkl
      refine fin_cond ks (fz_o ty_Cond (by simp)) ?_
      show _ = repC lb c
      rw [repC_eq, if_neg ho, hkl]
abbrev s_m_replaceA2 : Spc := spc (a2 Cond (List B)) (fun x => ∃ n, CS n x.1) (enc (X := Cond)) Q_rep2
def Q_bind2 (x : Pat × List B) (y : Pat) : Prop := y = bindP x.2 x.1
abbrev s_m_bind2 (n : Nat) : Spc := spc (a2 Pat (List B)) (P_bind n) (enc (X := Pat)) Q_bind2
theorem w_m_bind2 (n : Nat) (h1 : S f_m_replace = s_m_replaceA2) (h2 : S f_m_bind = s_m_bind2 n) : Walk cc_m_bind rs_m_bind S (a2 Pat (List B)) (P_bind (n + 1)) (enc (X := Pat)) Q_bind2 := by
  rintro ⟨p, lb⟩ ⟨_, hp⟩
  simp only at hp
  have hp : PD n p := hp
  have hcd := pd_cond hp
  have hpl := pd_len hp
  simp [cc_m_bind, rs_m_bind, h1]
  intro b2 b4
  refine ⟨hcd, fun c hc _ => ?_⟩
  refine vc_range (X := Value × List Pat) [1, 2, 4, 14] [2, 4] p.kids.length (fun k x => x.2 = (p.kids.take k).map (bindP lb)) (fun x => [(5, .own 25 x.1)]) (fun x => [(25, .row x.1 ty_Pattern 13 (x.2.map enc))]) (.slice none 0 0, []) (by simp) (by simp) (by omega) (by simp) (by simp) (by simp) (by simp) (by simp [isNilRow]) ?_ ?_
  · rintro k ⟨v, ks⟩ hk hkl
    simp only at hkl
    obtain ⟨x, hx⟩ := at_lt hk
    obtain ⟨_, hgx⟩ := List.getElem?_eq_some_iff.1 hx
    obtain ⟨m, hm, hx1⟩ := pd_kid hp (mem_at hx)
    have hq : P_bind n (x, lb) := ⟨by omega, by rw [hm]; exact hx1⟩
    have hkl2 : ks.length = k := by rw [hkl, List.length_map, List.length_take]; omega
    simp [hk, hx, hgx, h2, hq]
    refine fun y hy => ⟨by omega, by omega, fun v => .inl ?_⟩
    obtain rfl : y = bindP lb x := hy
    rw [hkl, List.map_map, List.map_take, List.take_add_one]
    simp [hx]
  · rintro ⟨v, ks⟩ hkl
    simp only at hkl
    rw [List.take_length] at hkl
    simp
    refine fin_pat c.kids ks (.same _) (fz_o ty_Pattern (by simp)) ?_
    show _ = bindP lb p
    rw [bindP_eq, ← show c = repC lb p.cond from hc, hkl, eta_Cond]
abbrev s_m_bindA2 : Spc := spc (a2 Pat (List B)) (fun x => ∃ n, PD n x.1) (enc (X := Pat)) Q_bind2
abbrev s_m_PatternA2 : Spc := spc (aT (a2 Int (List B))) (fun x => -10 ≤ x.2.1 ∧ x.2.1 ≤ 100 ∧ x.2.2.length ≤ 1000) (enc (X := Pat)) Q_pat2
def QBn2 (x : Pat) (l r : List B) : Prop := r = bndP x l
abbrev i_Bound2 (n : Nat) : Spc := i2C (X := Pat) (Y := B) (fun x l => pDep x ≤ n ∧ PBn x l) QBn2 ty_string 1
abbrev i_BoundA2 : Spc := i2C (X := Pat) (Y := B) PBn QBn2 ty_string 1
theorem w_m_BoundI2 (n : Nat) (h1 : S f_m_Bound = i_Bound2 n) : WalkI2 (X := Pat) (Y := B) cc_m_Bound rs_m_Bound S (fun x l => pDep x ≤ n + 1 ∧ PBn x l) QBn2 ty_string 1 := by
  rintro v lb p ⟨hd, hl⟩
  have hk : ∀ k ∈ p.kids, pDep k ≤ n := fun k h => by have := pDep_kid h; have : pDep p ≤ n + 1 := hd; omega
  have hl : lb.length + pNum p ≤ 1000000 := hl
  have hpn := pNum_eq p
  simp [cc_m_Bound, rs_m_Bound]
  refine vc_mid (X := Unit) [1, 2] [1] (fun _ => p.op = 1 → p.lab = E0) (fun _ => []) (fun _ => []) ?_ ?_
  · simp
    refine ⟨fun ho => ⟨fun hn _ => ?_, fun h _ => h⟩, fun ho h => absurd h ho⟩
    refine vc_range (X := Unit) [1, 2, 17] [1] lb.length (fun k _ => ∀ z ∈ lb.take k, z ≠ p.lab) (fun _ => []) (fun _ => []) () (by simp) (by simp) (by omega) (by simp) (by simp) (by simp) (by simp) (by simp) ?_ ?_
    · rintro k - hkk hz
      obtain ⟨x, hx⟩ := at_lt hkk
      obtain ⟨_, hgx⟩ := List.getElem?_eq_some_iff.1 hx
      simp [hkk, hx, hgx]
      refine ⟨fun hxl => finF_of lb (by simp) ?_, fun hxl z hz' => ?_⟩
      · show lb = bndP p lb
        rw [bndP_eq, if_pos ⟨ho, hn⟩, addL, if_pos (hxl ▸ mem_at hx)]
      · rw [take_snoc hx] at hz'
        rcases List.mem_append.1 hz' with h | h
        · exact hz z h
        · simp at h; subst h; exact hxl
    · rintro - hz
      rw [List.take_length] at hz
      simp
      refine ⟨by omega, by omega, fun v => finF_of (lb ++ [p.lab]) (by simp) ?_⟩
      show _ = bndP p lb
      rw [bndP_eq, if_pos ⟨ho, hn⟩, addL, if_neg fun h => hz _ h rfl]
  · rintro - hno
    simp
    intro hkl
    refine vc_range (X := Value × List B) [35] [] p.kids.length (fun k x => x.2 = (p.kids.take k).foldl (fun o k => bndP k o) lb) (fun x => [(1, .own 1 x.1)]) (fun x => [(1, .row x.1 ty_string 1 (x.2.map enc))]) (v, lb) (by simp) (by simp) (by omega) (by simp) (by simp) (by simp) (by simp) (by simp) ?_ ?_
    · rintro k ⟨v, ls⟩ hkk hls
      simp only at hls
      obtain ⟨x, hx⟩ := at_lt hkk
      obtain ⟨_, hgx⟩ := List.getElem?_eq_some_iff.1 hx
      have hq : PBn x ls := by
        have h2 := bnd_fold p.kids k lb
        have h3 := bnd_fold (p.kids.drop k) 1 ls
        rw [← hls] at h2
        have h4 : pNums (p.kids.take k) + pNums (p.kids.drop k) = pNums p.kids := by rw [← pNums_app, List.take_append_drop]
        rw [drop_cons_of hx, pNums] at h4
        show ls.length + pNum x ≤ _
        omega
      have hq2 := hk x (mem_at hx)
      simp [hkk, hx, hgx, h1, hq, hq2]
      intro v' l' hy
      obtain rfl : l' = bndP x ls := hy
      refine .inl ?_
      rw [take_snoc hx, List.foldl_append, ← hls]
      rfl
    · rintro ⟨v, ls⟩ hls
      simp only at hls
      rw [List.take_length] at hls
      simp
      refine finF_of ls (by simp) ?_
      show ls = bndP p lb
      rw [bndP_eq, if_neg fun h => h.2 (hno h.1), hls]
abbrev f_Bound2 : Spc := frC (Y := B) (aE Pat (aD a0)) (fun x => x.2.1 = .v (.slice none 0 0) ∧ PBn x.1 []) (fun x r => QBn2 x.1 [] r) ty_string 1
theorem w_m_BoundF2 (h1 : S f_m_Bound = i_BoundA2) : WalkF (Y := B) cc_m_Bound rs_m_Bound S (aE Pat (aD a0)) (fun x => x.2.1 = .v (.slice none 0 0) ∧ PBn x.1 []) (fun x r => QBn2 x.1 [] r) ty_string 1 := by
  rintro ⟨p, d, ⟨⟩⟩ ⟨hd, hl⟩
  have hd : d = .v (.slice none 0 0) := hd
  subst hd
  have hl : 0 + pNum p ≤ 1000000 := hl
  have hpn := pNum_eq p
  simp [cc_m_Bound, rs_m_Bound]
  refine vc_mid (X := Unit) [1, 2] [] (fun _ => p.op = 1 → p.lab = E0) (fun _ => []) (fun _ => []) ?_ ?_
  · simp
    refine ⟨fun ho => ⟨fun hn => ?_, fun h _ => h⟩, fun ho h => absurd h ho⟩
    refine vc_range (X := Unit) [1, 2] [] 0 (fun _ _ => True) (fun _ => []) (fun _ => []) () (by simp) (by simp) (by omega) (by simp) (by simp) trivial (by simp) (by simp) ?_ ?_
    · rintro k - hkk -
      exact absurd hkk (Nat.not_lt_zero _)
    · rintro - -
      simp
      refine fun v => finF_of [p.lab] (by simp) ?_
      show _ = bndP p []
      rw [bndP_eq, if_pos ⟨ho, hn⟩, addL, if_neg (by simp)]
      rfl
  · rintro - hno
    simp
    intro hkl
    refine vc_range (X := Value × List B) [35] [] p.kids.length (fun k x => x.2 = (p.kids.take k).foldl (fun o k => bndP k o) []) (fun x => [(1, .own 1 x.1)]) (fun x => [(1, .row x.1 ty_string 1 (x.2.map enc))]) (.slice none 0 0, []) (by simp) (by simp) (by omega) (by simp) (by simp) (by simp) (by simp) (by simp [isNilRow]) ?_ ?_
    · rintro k ⟨v, ls⟩ hkk hls
      simp only at hls
      obtain ⟨x, hx⟩ := at_lt hkk
      obtain ⟨_, hgx⟩ := List.getElem?_eq_some_iff.1 hx
      have hq : PBn x ls := by
        have h2 := bnd_fold p.kids k []
        have h3 := bnd_fold (p.kids.drop k) 1 ls
        rw [← hls, List.length_nil] at h2
        have h4 : pNums (p.kids.take k) + pNums (p.kids.drop k) = pNums p.kids := by rw [← pNums_app, List.take_append_drop]
        rw [drop_cons_of hx, pNums] at h4
        show ls.length + pNum x ≤ _
        omega
      simp [hkk, hx, hgx, h1, hq]
      intro v' l' hy
      obtain rfl : l' = bndP x ls := hy
      refine .inl ?_
      rw [take_snoc hx, List.foldl_append, ← hls]
      rfl
    · rintro ⟨v, ls⟩ hls
      simp only at hls
      rw [List.take_length] at hls
      simp
      refine finF_of ls (by simp) ?_
      show ls = bndP p []
      rw [bndP_eq, if_neg fun h => h.2 (hno h.1), hls]
abbrev s_Bound2 : Spc := orC f_Bound2 i_BoundA2
end Go.Gv

namespace Go.Gv
set_option linter.unusedSimpArgs false
set_option linter.unusedVariables false
set_option maxRecDepth 100000
open Cod (enc dec)
variable {S S0 : Nat → Spc}
def Q_con2 (x : List Int × Int × List B) (y : Glob) : Prop := GG x.2.2 x.2.1.toNat y
def PGl (l : List B) (g : Glob) : Prop := g = GlobE ∨ GG l 2 g
theorem at3g {i : Nat} {a : B} (h : [(⟨#[97]⟩ : B), ⟨#[98, 124, 99]⟩, ⟨#[46]⟩][i]? = some a) : a ∈ GVals := mem_at h
theorem at3n {i : Nat} {a : B} (h : [(⟨#[83]⟩ : B), ⟨#[78, 80]⟩, ⟨#[86, 80]⟩][i]? = some a) : a ∈ NodeL := mem_at h
theorem at3r {i : Nat} {a : B} (h : [(⟨#[111, 98, 106]⟩ : B), ⟨#[100, 101, 116]⟩, ⟨#[]⟩][i]? = some a) : a ∈ RelL := mem_at h
abbrev s_m_Constraint2 (n : Nat) : Spc := spc (aT (a2 Int (List B))) (P_gen' n) (enc (X := Glob)) Q_con2
theorem w_m_Constraint2 (n : Nat) (h1 : S f_m_Tape_Next = s_m_Next) (h2 : S f_m_Type = s_m_TypeN) (h3 : S f_m_Tape_Constraint = s_m_Constraint2 n) : Walk cc_m_Tape_Constraint rs_m_Tape_Constraint S (aT (a2 Int (List B))) (P_gen' (n + 1)) (enc (X := Glob)) Q_con2 := by
  rintro ⟨L, deep, lb⟩ ⟨hn, hd0, hd1, hlb0, hlb⟩
  simp only at hn hd0 hd1 hlb0 hlb
  simp [cc_m_Tape_Constraint, rs_m_Tape_Constraint, h1]
  intro b6 k0 hk0 hk1
  refine vc_mid (X := Int) [0, 1, 2, 6] [6] (fun k => 0 ≤ k ∧ k < 13 ∧ (deep < 1 → k < 10)) (fun k => [(7, enc k)]) (fun _ => []) ?_ ?_
  · simp
    have : k0.tmod 10 = k0 % 10 := Int.tmod_eq_emod_of_nonneg hk0
    rw [this]
    omega
  rintro k ⟨q0, q1, q2⟩
  simp [h1]
  refine fun _ => ⟨by omega, fun i hi => ⟨by omega, by omega, fun a ha _ => ⟨by omega, fun j hj => ⟨by omega, by omega, fun c hc => ?_⟩⟩⟩⟩
  refine vc_mid (X := Unit) [0, 1, 2, 6, 7] [6] (fun _ => 11 ≤ k) (fun _ => []) (fun _ => []) ?_ ?_
  · have hrec : 1 ≤ deep → P_gen' n (L, deep - 1, lb) := fun h => ⟨by show (deep - 1).toNat < n; omega, by show -10 ≤ deep - 1; omega, by show deep - 1 ≤ 100; omega, hlb0, hlb⟩
    have ma : a ∈ lb := mem_at ha
    have mc : c ∈ lb := mem_at hc
    have hdn : 1 ≤ deep → deep.toNat = (deep - 1).toNat + 1 := fun h => by omega
    simp [h1, h2, h3, strs2, strs3, strs_len, strs_at, -Bool.forall_bool]
    refine ⟨fun _ => fin_glob [] [] (.nil _) (.nil _) (.bound _ a ma), fun _ => ⟨fun _ y y0 y1 => ⟨y0, y1, fun v hv z _ _ => fin_glob [] [] (.nil _) (.nil _) (.val _ a v _ ma (at3g hv))⟩, fun _ => ⟨fun _ y y0 y1 => ⟨y0, y1, fun g hg => fin_glob [] [] (.nil _) (.nil _) (.same _ a c g ma mc (at2 hg))⟩, fun _ => ⟨fun _ y y0 y1 => ⟨by simp only [InR]; omega, fun z z0 z1 => ⟨by simp only [InR]; omega, fin_glob [] [] (.nil _) (.nil _) (.dist _ a c _ _ ma mc (by omega) (by omega) (by omega) (by omega))⟩⟩, fun _ => ⟨fun _ y y0 y1 => ⟨trivial, fun t ht => fin_glob [] [] (.nil _) (.nil _) (.reg _ a c t ma mc ht)⟩, fun _ => ⟨fun _ => fin_glob [] [] (.nil _) (.nil _) (.head _ 6 a c (.inl rfl) ma mc), fun _ => ⟨fun _ => fin_glob [] [] (.nil _) (.nil _) (.head _ 7 a c (.inr rfl) ma mc), fun _ => ⟨fun _ b11 y y0 y1 => ?_, fun _ => ⟨fun _ y y0 y1 => ⟨y0, y1, fun t ht => fin_glob [] [] (.nil _) (.nil _) (.node _ a c t ma mc (at3n ht))⟩, fun _ => ⟨fun _ y y0 y1 z z0 z1 => ⟨by simp only [InR]; omega, fin_glob [] [] (.nil _) (.nil _) (.depth _ a _ _ ma (by omega) (by omega) (by omega) (by omega))⟩, fun _ => ⟨fun hk10 => ⟨by simp only [InR]; omega, hrec (by omega), fun g => ?_⟩, fun _ => by omega⟩⟩⟩⟩⟩⟩⟩⟩⟩⟩⟩
    · refine vc_whileG (X := Int × Value × List B) [0, 6, 11] [6] [] [] [] [] (fun x => (0 ≤ x.1 ∧ x.1 + x.2.2.length ≤ 2) ∧ ∀ z ∈ x.2.2, z ∈ RelL) (fun x => [(12, enc x.1)]) (fun x => [(11, .box b11 [.v (.int .i64 8), .v (.string a), .v (.string c), .v (.string ⟨#[]⟩), .v (.string ⟨#[]⟩), .v (.string ⟨#[]⟩), .v (.bool false), .v (.int .i64 0), .v (.int .i64 0), .own 111 x.2.1, .v (.slice none 0 0)]), (111, .row x.2.1 ty_string 1 (x.2.2.map enc))]) (fun x => x.1.toNat) (y, .slice none 0 0, []) [11, 111] (fun _ => rfl) (by decide) (by decide) ?_ ?_ ?_ ?_
      · exact ⟨⟨y0, by simp; omega⟩, by simp⟩
      · simp
      · simp [isNilRow]
        exact .nilown 111
      · rintro ⟨i, v, l⟩ ⟨⟨e1, e2⟩, e3⟩
        simp only at e1 e2 e3
        simp [h1, strs3, strs_len, strs_at]
        exact ⟨fun hi z z0 z1 => ⟨z0, z1, fun w hw => ⟨by omega, by omega, fun v => ⟨by simp only [InR]; omega, i - 1, v, l ++ [w], ⟨⟨by omega, by simp; omega⟩, fun z hz => (List.mem_append.1 hz).elim (e3 z) fun h => by simp at h; subst h; exact at3r hw⟩, ⟨rfl, .inl (.inl rfl), .inl (.inl (by simp))⟩, by omega⟩⟩⟩, fun hi => fin_glob l [] (fz_o ty_string (by simp)) (.nil _) (.path _ a c l ma mc (by omega) e3)⟩
    · exact fun hg => fin_glob [] [g] (.nil _) (by simp) (by show GG lb deep.toNat _; rw [hdn (by omega)]; exact .not _ _ hg)
  · rintro - hk
    have hrec : P_gen' n (L, deep - 1, lb) := ⟨by show (deep - 1).toNat < n; omega, by show -10 ≤ deep - 1; omega, by show deep - 1 ≤ 100; omega, hlb0, hlb⟩
    have hdn : deep.toNat = (deep - 1).toNat + 1 := by omega
    simp [h3, hrec]
    exact ⟨by simp only [InR]; omega, by simp only [InR]; omega, by simp only [InR]; omega, fun y hy => ⟨by simp only [InR]; omega, fun z hz => fin_glob [] [y, z] (.nil _) (by simp) (by show GG lb deep.toNat _; rw [hdn]; exact .two _ _ _ _ (by omega) hy hz)⟩⟩
abbrev s_m_ConstraintA2 : Spc := spc (aT (a2 Int (List B))) (fun x => ∃ n, P_gen' n x) (enc (X := Glob)) Q_con2
abbrev s_m_Filter2 : Spc := spc (aT a0) anyX (enc (X := Filt)) (fun _ y => GF y)
theorem w_m_Filter2 (h1 : S f_m_Tape_Next = s_m_Next) (h2 : S f_m_Type = s_m_TypeN) : Walk cc_m_Tape_Filter rs_m_Tape_Filter S (aT a0) anyX (enc (X := Filt)) (fun _ y => GF y) := by
  rintro ⟨L, ⟨⟩⟩ -
  simp [cc_m_Tape_Filter, rs_m_Tape_Filter, h1, h2]
  refine fun b y y0 y1 => ⟨by simp only [InR]; omega, fun z z0 z1 u u0 u1 => ⟨trivial, fun t ht => ?_⟩⟩
  exact fin_of (⟨1 + y, decide (z = 2), t⟩ : Filt) (by simp) ⟨by show 1 + y = 1 ∨ 1 + y = 2 ∨ 1 + y = 3; omega, ht⟩
def Q_query2 (x : List Int × Int) (q : Qry) : Prop := GQ x.2.toNat q
abbrev s_m_Query2 : Spc := spc (aT (a1 Int)) (fun x => 0 ≤ x.2 ∧ x.2 ≤ 5) (enc (X := Qry)) Q_query2
theorem w_m_Query2 (h1 : S f_m_Tape_Next = s_m_Next) (h2 : S f_m_Tape_Pattern = s_m_PatternA2) (h3 : S f_m_Bound = s_Bound2) (h4 : S f_m_bind = s_m_bindA2) (h5 : S f_m_Tape_Constraint = s_m_ConstraintA2) (h6 : S f_m_Tape_Filter = s_m_Filter2) :
    Walk cc_m_Tape_Query rs_m_Tape_Query S (aT (a1 Int)) (fun x => 0 ≤ x.2 ∧ x.2 ≤ 5) (enc (X := Qry)) Q_query2 := by
  rintro ⟨L, deep⟩ ⟨hd0, hd1⟩
  simp only at hd0 hd1
  simp [cc_m_Tape_Query, rs_m_Tape_Query, h1]
  intro b4
  refine vc_mid (X := List B) [0, 1, 4] [4] (fun l => LabOk l ∧ l.length ≤ 2) (fun l => [(5, enc l)]) (fun _ => []) ?_ ?_
  · simp [h1]
    exact fun _ _ _ => ⟨fun _ => ⟨[b_x, b_y], ⟨fun l hl => by simpa using hl, by simp⟩, by simp [b_x, b_y]⟩, fun _ l hl => by simp at hl⟩
  rintro lb ⟨hlb, hll⟩
  simp [h1, h2]
  refine ⟨⟨by omega, by omega, by omega⟩, fun y hy b => ?_⟩
  have hw : WP lb deep.toNat y := hy.1.1
  have hpd : PD deep.toNat y := hy.1.2
  have hnum : pNum y ≤ 1000000 := by
    have := (wp_size _ y hw (by omega)).2.2
    have h2 : 2 ^ (deep.toNat + 1) ≤ 64 := Nat.pow_le_pow_right (n := 2) (by omega) (show deep.toNat + 1 ≤ 6 by omega)
    omega
  have hB : PBn y [] := by show 0 + pNum y ≤ _; omega
  have hbd : ∃ n, PD n y := ⟨_, hpd⟩
  simp [h3, hB]
  refine .inl fun l hl => ?_
  have hlq : l = bndP y [] := hl
  have hlm : l.length ≤ 0 + pNum y := by rw [hlq]; exact bnd_lenP y []
  simp [h4, hbd]
  intro p hp z z0 z1 b7
  have hp : p = bindP l y := hp
  have hq : ∀ g fs s, (g = GlobE ∨ GG l 2 g) → (fs.length ≤ 1 ∧ ∀ f ∈ fs, GF f) → (0 ≤ s ∧ s < 4) → Q_query2 (L, deep) ⟨p, g, fs, s⟩ := by
    intro g fs s hg hfs hs
    have hbl : bndP p [] = l := by rw [hp, bnd_bind, ← hlq]
    refine ⟨⟨lb, hlb, by show WP lb deep.toNat p; rw [hp]; exact wp_bind _ _ hw⟩, ?_, by show g = GlobE ∨ GG (bndP p []) 2 g; rw [hbl]; exact hg, hfs, hs⟩
    show ∀ y ∈ leavesP p, GC (bndP p []) 1 y.cond
    rw [hbl, hp, leaves_bind]
    intro x hx
    obtain ⟨u, hu, rfl⟩ := List.mem_map.1 hx
    rw [bindP_eq]
    exact gc_rep (hy.2 u hu)
  refine vc_midG (X := Glob) [0, 4] [4] [] [] (PGl l) (fun _ => [(7, .bptr 7 b7 0)]) (fun g => [(7, .box b7 [.v (.int .i64 p.op), .v (.int .i64 p.cond.op), .v (.string p.cond.name), .v (.string p.cond.arg), .v (.string p.cond.val), .v (.string p.cond.lab), .v (.bool p.cond.fold), enc p.cond.kids, .v (.string p.lab), .v (.string p.reg), .v (.int .i64 p.mn), .v (.int .i64 p.mx), enc p.kids, .v (.int .i64 g.op), .v (.string g.a), .v (.string g.b), .v (.string g.name), .v (.string g.arg), .v (.string g.val), .v (.bool g.fold), .v (.int .i64 g.mn), .v (.int .i64 g.mx), enc g.args, enc g.kids, .v (.slice none 0 0), .v (.int .i64 z)])]) [7] (fun _ => rfl) (by decide) ?_ ?_
  · simp [h1, h5, -Bool.forall_bool]
    refine fun _ => ⟨fun hl0 u u0 u1 => ⟨fun _ => ⟨⟨3, by show (2 : Int).toNat < 3; decide, by show -10 ≤ (2 : Int); decide, by show (2 : Int) ≤ 100; decide, hl0, by show l.length ≤ 1000000; omega⟩, fun g hg => ⟨g, .inr hg, .inl (.inl ⟨rfl, rfl, rfl, rfl, rfl, rfl, rfl, rfl, rfl, rfl, rfl⟩)⟩⟩, fun _ => ⟨⟨0, ⟨#[]⟩, ⟨#[]⟩, ⟨#[]⟩, ⟨#[]⟩, ⟨#[]⟩, false, 0, 0, [], []⟩, .inl rfl, .inl ⟨rfl, rfl, rfl, rfl, rfl, rfl, rfl, rfl, rfl, rfl, rfl⟩⟩⟩, fun _ => ⟨⟨0, ⟨#[]⟩, ⟨#[]⟩, ⟨#[]⟩, ⟨#[]⟩, ⟨#[]⟩, false, 0, 0, [], []⟩, .inl rfl, .inl ⟨rfl, rfl, rfl, rfl, rfl, rfl, rfl, rfl, rfl, rfl, rfl⟩⟩⟩
  rintro g hg
  refine vc_midG (X := List Filt) [4] [4] [49] [] (fun fs => fs.length ≤ 1 ∧ ∀ f ∈ fs, GF f) (fun _ => [(7, .bptr 7 b7 0)]) (fun fs => [(7, .box b7 [.v (.int .i64 p.op), .v (.int .i64 p.cond.op), .v (.string p.cond.name), .v (.string p.cond.arg), .v (.string p.cond.val), .v (.string p.cond.lab), .v (.bool p.cond.fold), enc p.cond.kids, .v (.string p.lab), .v (.string p.reg), .v (.int .i64 p.mn), .v (.int .i64 p.mx), enc p.kids, .v (.int .i64 g.op), .v (.string g.a), .v (.string g.b), .v (.string g.name), .v (.string g.arg), .v (.string g.val), .v (.bool g.fold), .v (.int .i64 g.mn), .v (.int .i64 g.mx), enc g.args, enc g.kids, enc fs, .v (.int .i64 z)])]) [7] (fun _ => rfl) (by decide) ?_ ?_
  · simp [h1]
    intro u u0 u1
    have ut : u.tdiv 2 = u / 2 := Int.tdiv_eq_ediv_of_nonneg u0
    rw [ut]
    refine ⟨by simp only [InR]; omega, ?_⟩
    refine vc_whileG (X := Int × Value × List Filt) [0, 4, 7] [4] [] [] [] [] (fun x => (0 ≤ x.1 ∧ x.1 + x.2.2.length ≤ 1) ∧ ∀ f ∈ x.2.2, GF f) (fun x => [(8, enc x.1)]) (fun x => [(7, .box b7 [.v (.int .i64 p.op), .v (.int .i64 p.cond.op), .v (.string p.cond.name), .v (.string p.cond.arg), .v (.string p.cond.val), .v (.string p.cond.lab), .v (.bool p.cond.fold), enc p.cond.kids, .v (.string p.lab), .v (.string p.reg), .v (.int .i64 p.mn), .v (.int .i64 p.mx), enc p.kids, .v (.int .i64 g.op), .v (.string g.a), .v (.string g.b), .v (.string g.name), .v (.string g.arg), .v (.string g.val), .v (.bool g.fold), .v (.int .i64 g.mn), .v (.int .i64 g.mx), enc g.args, enc g.kids, .own 49 x.2.1, .v (.int .i64 z)]), (49, .row x.2.1 ty_Filter 3 (x.2.2.map enc))]) (fun x => x.1.toNat) (u / 2, .slice none 0 0, []) [7, 49] (fun _ => rfl) (by decide) (by decide) ?_ ?_ ?_ ?_
    · exact ⟨⟨by show 0 ≤ u / 2; omega, by simp; omega⟩, by simp⟩
    · simp
    · simp [isNilRow]
      exact .nilown 49
    · rintro ⟨i, v, fs⟩ ⟨⟨e1, e2⟩, e3⟩
      simp only at e1 e2 e3
      simp [h6]
      refine ⟨fun hi => ⟨trivial, fun y hy => ⟨by omega, by omega, fun v => ⟨by simp only [InR]; omega, i - 1, v, fs ++ [y], ⟨⟨by omega, by simp; omega⟩, fun z hz => (List.mem_append.1 hz).elim (e3 z) fun h => by simp at h; subst h; exact hy⟩, ⟨rfl, .inl (.inl rfl), .inl (.inl (by simp))⟩, by omega⟩⟩⟩, fun hi => ⟨fs, ⟨by omega, e3⟩, .inl (fz_o ty_Filter (by simp [gvH]))⟩⟩
  · rintro fs hfs
    simp
    exact fin_of (⟨p, g, fs, z⟩ : Qry) (by simp) (hq _ _ _ hg hfs ⟨z0, z1⟩)
end Go.Gv
