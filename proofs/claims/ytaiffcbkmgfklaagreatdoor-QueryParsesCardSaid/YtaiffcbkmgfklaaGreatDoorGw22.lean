/- A part of the framework and of the walks: W85 W86 W87 W88 W89 C11 W90. -/
import Derived.Test.YtaiffcbkmgfklaaGreatDoorGw19
import Derived.Test.YtaiffcbkmgfklaaGreatDoorGw21
import Derived.Test.YtaiffcbkmgfklaaGreatDoorGw20
import Derived.Test.YtaiffcbkmgfklaaGreatDoorGw12
set_option linter.unusedSimpArgs false
set_option linter.unusedVariables false
set_option maxRecDepth 100000

namespace Go.Gv
open Cod (enc dec)
variable {S S0 : Nat → Spc} {f : Int × Int}
/-! ### TrimLeft -/
abbrev s_trimLeftByte : Spc := spc (a2 B U8) (fun x => x.2.val = 48) (enc (X := B)) fun x y => y = trimZ x.1
theorem w_strings_trimLeftByte : Walk cc_strings_trimLeftByte rs_strings_trimLeftByte S (a2 B U8) (fun x => x.2.val = 48) (enc (X := B)) fun x y => y = trimZ x.1 := by
 rintro ⟨s, ⟨c⟩⟩ hc
 simp only at hc
 subst hc
 simp [cc_strings_trimLeftByte, rs_strings_trimLeftByte]
 refine vc_while (X := Nat) [1] [] (fun k => k ≤ s.size ∧ runP zerP s k = runP zerP s 0) (fun k => [(0, enc (s.extract k s.size))]) (fun _ => []) (fun k => s.size - k) 0 ⟨by omega, rfl⟩ (by simp) (by simp) ?_
 rintro k ⟨hk, hq⟩
 simp
 refine fun _ => ⟨fun hlt => ⟨hlt, fun c hc => ?_⟩, fun hge => ?_⟩
 ·have hc : s.data[k]? = some c := by
   rw [Array.getElem?_extract] at hc
   split at hc
   ·simpa using hc
   ·cases hc
  refine ⟨fun h48 => ⟨by omega, k + 1, ⟨by omega, ?_⟩, ?_, by omega⟩, fun h48 => ?_⟩
  ·rw [← hq, runP_step hc, if_pos (by simp [zerP, h48])]
  ·rw [ByteArray.extract_extract]
   congr 1 <;> omega
  ·have : runP zerP s k = k := by rw [runP_step hc, if_neg (by simp [zerP]; exact h48)]
   rw [trimZ, ← hq, this]
 ·rw [trimZ, ← hq, runP_end (by omega)]
abbrev s_trimLeft : Spc := spc (a2 B B) (fun x => x.2 = ⟨#[48]⟩) (enc (X := B)) fun x y => y = trimZ x.1
theorem w_strings_TrimLeft (h1 : S f_strings_trimLeftByte = s_trimLeftByte) : Walk cc_strings_TrimLeft rs_strings_TrimLeft S (a2 B B) (fun x => x.2 = ⟨#[48]⟩) (enc (X := B)) fun x y => y = trimZ x.1 := by
 rintro ⟨s, t⟩ ht
 simp only at ht
 subst ht
 have e1 : (⟨#[48]⟩ : B).size = 1 := rfl
 simp [cc_strings_TrimLeft, rs_strings_TrimLeft, h1, e1]
 refine fun h => ?_
 subst h
 rfl
/-! ### The reader -/
abbrev s_qpan (f : Int × Int) : Spc := panC ty_query_fault f
abbrev F_ewrong (s : Rdr) (_ : Unit) : Out (Rdr × Unit) := .err (s.pos, 3)
abbrev s_ewrong (f : Int × Int) : Spc := reF a0 er0 f F_ewrong
theorem w_e_wrong (hp : S panId = s_qpan f) : WalkRE cc_query_reader_wrong rs_query_reader_wrong S a0 er0 f F_ewrong := by
 rintro b s ⟨⟩ h
 have h : ((s.pos, 3) : Int × Int) = f := h
 simp [cc_query_reader_wrong, rs_query_reader_wrong, hp]
 exact h
@[simp] abbrev F_emust (s : Rdr) (l : List B) : Out (Rdr × Unit) := (mustE s l).map fun x => (x, ())
abbrev s_emust (f : Int × Int) : Spc := reF (a1 (List B)) er0 f F_emust
theorem w_e_must (h1 : S f_query_reader_take = s_rtake) (h2 : S f_query_reader_wrong = s_ewrong f) : WalkRE cc_query_reader_must rs_query_reader_must S (a1 (List B)) er0 f F_emust := by
 rintro b s l hr
 simp [cc_query_reader_must, rs_query_reader_must]
 intro _
 refine vc_range (X := Rdr) [0, 6] [] l.length (fun k x => mustE s l = mustE x (l.drop k)) (fun _ => []) (fun x => [(0, .box b (ceRdr x))]) s (by simp) (by simp) (by omega) (by simp) (by simp) (by simp) (by simp) (by simp) ?_ ?_
 ·rintro k x hk hP
  obtain ⟨t, ht⟩ := at_lt hk
  obtain ⟨_, hgt⟩ := List.getElem?_eq_some_iff.1 ht
  rw [List.drop_eq_getElem_cons hk, hgt, mustE] at hP
  have hr0 := hr
  rw [F_emust, hP] at hr
  by_cases hsg : signR x t
  ·rw [if_pos hsg] at hr hP
   have hr' : (((nextE x).bind fun x => mustE x (List.drop (k + 1) l)).map fun x => (x, ())).fine f := hr
   cases hn : nextR x with
   | none => rw [nextE, hn] at hr'; exact hr'.elim
   | some x1 =>
     rw [nextE, hn] at hP
     have htk : takeR x t = some (x1, true) := by simp [takeR, hsg, hn]
     simp [h1, h2, hk, ht, hgt, htk]
     exact ⟨x1, hP, .inl ⟨rfl, rfl, rfl, rfl, rfl⟩⟩
  ·rw [if_neg hsg] at hr hP
   have htk : takeR x t = some (x, false) := by simp [takeR, hsg]
   simp [h1, h2, hk, ht, hgt, htk]
   exact hr
 ·rintro x hP
  have hP : mustE s l = .ok x := by simpa [mustE] using hP
  simp
  exact finRD x () (.same _) (by simp) (by show (mustE s l).map _ = _; rw [hP]; rfl)
@[simp] abbrev F_etext (s : Rdr) (k : Int) : Out (Rdr × B) := textE s k
abbrev s_etext (f : Int × Int) : Spc := reF (a1 Int) (enc (X := B)) f F_etext
theorem w_e_text (h1 : S f_query_reader_next = s_rnext) (h2 : S f_query_reader_wrong = s_ewrong f) : WalkRE cc_query_reader_text rs_query_reader_text S (a1 Int) (enc (X := B)) f F_etext := by
 rintro b s k hr
 by_cases hk : s.kind = k
 ·subst hk
  simp only [F_etext, textE, if_true, nextE] at hr
  obtain ⟨x, hx⟩ := Out.fine_ofm hr
  simp [cc_query_reader_text, rs_query_reader_text, h1, hx]
  exact finRS x (by simp) (by simp [textE, nextE, hx])
 ·have hr : ((s.pos, 3) : Int × Int) = f := by simpa only [F_etext, textE, if_neg hk, Out.fine_err] using hr
  simp [cc_query_reader_text, rs_query_reader_text, h1, h2, hk]
  exact hr
@[simp] abbrev F_ename (s : Rdr) (_ : Unit) : Out (Rdr × B) := textE s 2
abbrev s_ename (f : Int × Int) : Spc := reF a0 (enc (X := B)) f F_ename
theorem w_e_name (h1 : S f_query_reader_text = s_etext f) : WalkRE cc_query_reader_name rs_query_reader_name S a0 (enc (X := B)) f F_ename := by
 rintro b s ⟨⟩ hr
 simp only [F_ename] at hr
 cases h : textE s 2 with
 | no => rw [h] at hr; exact hr.elim
 | err e =>
   rw [h] at hr
   simp [cc_query_reader_name, rs_query_reader_name, h1, h]
   exact hr
 | ok q =>
   simp [cc_query_reader_name, rs_query_reader_name, h1, h]
   exact finRS q.1 (by simp) rfl
@[simp] abbrev F_ecomma (s : Rdr) (_ : Unit) : Out (Rdr × B) := commaE s
abbrev s_ecomma (f : Int × Int) : Spc := reF a0 (enc (X := B)) f F_ecomma
theorem w_e_comma (h1 : S f_query_reader_must = s_emust f) (h2 : S f_query_reader_name = s_ename f) : WalkRE cc_query_reader_comma rs_query_reader_comma S a0 (enc (X := B)) f F_ecomma := by
 rintro b s ⟨⟩ hr
 have hr0 := hr
 simp only [F_ecomma, commaE] at hr
 rcases Out.fine_bind hr with ⟨x, hx, hr⟩ | ⟨hx, -⟩
 ·rcases hq : textE x 2 with q | e | _
  ·simp [cc_query_reader_comma, rs_query_reader_comma, h1, h2, hx, hq]
   exact finRS q.1 (by simp) (by simp [commaE, hx, hq])
  ·rw [hq] at hr
   simp [cc_query_reader_comma, rs_query_reader_comma, h1, h2, hx, hq]
   exact hr
  ·rw [hq] at hr; exact hr.elim
 ·simp [cc_query_reader_comma, rs_query_reader_comma, h1, hx]
end Go.Gv

namespace Go.Gv
open Cod (enc dec)
variable {S S0 : Nat → Spc} {f : Int × Int}
@[simp] abbrev F_enot (N : Rdr → Out (Rdr × Cond)) (s : Rdr) (_ : Unit) : Out (Rdr × Cond) := N s
abbrev s_enot (f : Int × Int) (N : Rdr → Out (Rdr × Cond)) : Spc := reF a0 (enc (X := Cond)) f (F_enot N)
@[simp] abbrev F_eand (N : Rdr → Out (Rdr × Cond)) (s : Rdr) (_ : Unit) : Out (Rdr × Cond) := andE N s
abbrev s_eand (f : Int × Int) (N : Rdr → Out (Rdr × Cond)) : Spc := reF a0 (enc (X := Cond)) f (F_eand N)
@[simp] abbrev F_eor (N : Rdr → Out (Rdr × Cond)) (s : Rdr) (_ : Unit) : Out (Rdr × Cond) := orE N s
abbrev s_eor (f : Int × Int) (N : Rdr → Out (Rdr × Cond)) : Spc := reF a0 (enc (X := Cond)) f (F_eor N)
theorem w_e_and (N : Rdr → Out (Rdr × Cond)) (h1 : S f_query_reader_take = s_rtake) (h2 : S f_query_reader_not = s_enot f N) (h3 : S f_query_conds = s_conds) :
 WalkRE cc_query_reader_and rs_query_reader_and S a0 (enc (X := Cond)) f (F_eand N) := by
 rintro b s ⟨⟩ hf
 have hf : (andE N s).fine f := hf
 have e := andE.eq_1 N s
 simp [cc_query_reader_and, rs_query_reader_and, h2]
 intro b2
 refine outB hf e fun r e => ?_
 intro v0
 refine vc_while (X := Nat × Rdr × Value × List Cond) [0, 2] [2] (fun z => andE N s = ((andLoopE N z.1 z.2.1 z.2.2.2).map fun q => (q.1, cOp 7 q.2)) ∧ z.2.2.2.length + z.1 ≤ 501) (fun z => [(3, .own 6 z.2.2.1)]) (fun z => [(0, .box b (ceRdr z.2.1)), (6, .row z.2.2.1 ty_Cond 7 (z.2.2.2.map enc))]) (fun z => z.1) (500, r.1, v0, [r.2]) ⟨e, by simp⟩ (by simp) (by simp) ?_
 clear e
 rintro ⟨k, s1, v, l⟩ ⟨e, hlen⟩
 simp only at e hlen
 obtain _ | k := k
 ·rw [e, andLoopE] at hf; exact hf.elim
 rw [andLoopE, Out.bind_map] at e
 simp [h1]
 refine optB hf e fun w e => ?_
 simp [-Bool.forall_bool, -Bool.exists_bool, h2, h3]
 refine ⟨fun hw => ?_, fun hw => ?_⟩
 ·rw [if_pos hw, Out.bind_map] at e
  exact outB hf e fun r2 e => ⟨by omega, by omega, fun v' => ⟨k, r2.1, v', l ++ [r2.2], ⟨e, by simp; omega⟩, ⟨rfl, .inl ⟨rfl, rfl, rfl, rfl, rfl⟩, .inl ⟨rfl, by simp⟩⟩, by omega⟩⟩
 ·rw [if_neg (by simp [hw]), Out.map_ok] at e
  exact finRD w.1 (cOp 7 l) (by simp) (by simp) e
theorem w_e_or (N : Rdr → Out (Rdr × Cond)) (h1 : S f_query_reader_take = s_rtake) (h2 : S f_query_reader_and = s_eand f N) (h3 : S f_query_conds = s_conds) :
 WalkRE cc_query_reader_or rs_query_reader_or S a0 (enc (X := Cond)) f (F_eor N) := by
 rintro b s ⟨⟩ hf
 have hf : (orE N s).fine f := hf
 have e := orE.eq_1 N s
 simp [cc_query_reader_or, rs_query_reader_or, h2]
 intro b2
 refine outB hf e fun r e => ?_
 intro v0
 refine vc_while (X := Nat × Rdr × Value × List Cond) [0, 2] [2] (fun z => orE N s = ((orLoopE N z.1 z.2.1 z.2.2.2).map fun q => (q.1, cOp 8 q.2)) ∧ z.2.2.2.length + z.1 ≤ 501) (fun z => [(3, .own 6 z.2.2.1)]) (fun z => [(0, .box b (ceRdr z.2.1)), (6, .row z.2.2.1 ty_Cond 7 (z.2.2.2.map enc))]) (fun z => z.1) (500, r.1, v0, [r.2]) ⟨e, by simp⟩ (by simp) (by simp) ?_
 clear e
 rintro ⟨k, s1, v, l⟩ ⟨e, hlen⟩
 simp only at e hlen
 obtain _ | k := k
 ·rw [e, orLoopE] at hf; exact hf.elim
 rw [orLoopE, Out.bind_map] at e
 simp [h1]
 refine optB hf e fun w e => ?_
 simp [-Bool.forall_bool, -Bool.exists_bool, h2, h3]
 refine ⟨fun hw => ?_, fun hw => ?_⟩
 ·rw [if_pos hw, Out.bind_map] at e
  exact outB hf e fun r2 e => ⟨by omega, by omega, fun v' => ⟨k, r2.1, v', l ++ [r2.2], ⟨e, by simp; omega⟩, ⟨rfl, .inl ⟨rfl, rfl, rfl, rfl, rfl⟩, .inl ⟨rfl, by simp⟩⟩, by omega⟩⟩
 ·rw [if_neg (by simp [hw]), Out.map_ok] at e
  exact finRD w.1 (cOp 8 l) (by simp) (by simp) e
@[simp] abbrev F_eatom (s : Rdr) (_ : Unit) : Out (Rdr × Cond) := atomsE s
abbrev s_eatom (f : Int × Int) : Spc := reF a0 (enc (X := Cond)) f F_eatom
theorem w_e_atom (h1 : S f_query_reader_take = s_rtake) (h2 : S f_query_reader_name = s_ename f) (h3 : S f_query_reader_must = s_emust f) (h4 : S f_query_reader_text = s_etext f) (h5 : S f_query_reader_word = s_rword) (h6 : S f_query_reader_next = s_rnext) (h7 : S f_query_reader_fold = s_rfold) :
 WalkRE cc_query_reader_atom rs_query_reader_atom S a0 (enc (X := Cond)) f F_eatom := by
 rintro b s ⟨⟩ hf
 have hf : (atomsE s).fine f := hf
 have e := atomsE.eq_1 s
 simp only [regionE, atomE, valueE, takeE, nextE, Out.bind_map, Out.map_map, Out.bind_bind, Out.map_bind] at e
 simp [cc_query_reader_atom, rs_query_reader_atom, h1, h2, h3, h4, h5, h6, h7, -Bool.forall_bool, -Bool.exists_bool]
 repeat' first
  | refine outB hf e fun q e => ?_
  | refine outM hf e fun q e => ?_
  | refine optB hf e fun q e => ?_
  | refine optM hf e fun q e => ?_
  | refine outE hf e fun q e => ?_
  | (refine ⟨fun hc => ?_, fun hc => ?_⟩ <;> first | rw [if_pos hc] at e | rw [if_neg hc] at e | rw [if_neg (by simp [hc])] at e)
  | exact finRC _ [] (.nil _) (by simp) e
  | exact finRC _ [⟨2, _, E0, _, E0, _, []⟩] (frz_one _ (frz_cond [] (.nil _))) (by simp) e
  | exact finRC _ [_] (by simp) (by simp) e
  | exact finRD _ _ (by simp) (by simp) e
  | intro _
theorem w_e_not (N : Rdr → Out (Rdr × Cond)) (h1 : S f_query_reader_take = s_rtake) (h2 : S f_query_reader_not = s_enot f N) (h3 : S f_query_reader_must = s_emust f) (h4 : S f_query_reader_or = s_eor f N) (h5 : S f_query_reader_atom = s_eatom f) :
 WalkRE cc_query_reader_not rs_query_reader_not S a0 (enc (X := Cond)) f (F_enot (notE N (orE N))) := by
 rintro b s ⟨⟩ hf
 have hf : (notE N (orE N) s).fine f := hf
 have e := notE.eq_1 N (orE N) s
 simp only [ takeE, nextE, Out.bind_map, Out.map_map, Out.bind_bind, Out.map_bind] at e
 simp [cc_query_reader_not, rs_query_reader_not, h1, h2, h3, h4, h5, -Bool.forall_bool, -Bool.exists_bool]
 repeat' first
  | refine outB hf e fun q e => ?_
  | refine outM hf e fun q e => ?_
  | refine optB hf e fun q e => ?_
  | refine optM hf e fun q e => ?_
  | refine outE hf e fun q e => ?_
  | (refine ⟨fun hc => ?_, fun hc => ?_⟩ <;> first | rw [if_pos hc] at e | rw [if_neg hc] at e | rw [if_neg (by simp [hc])] at e)
  | exact finRC _ [] (.nil _) (by simp) e
  | exact finRC _ [⟨2, _, E0, _, E0, _, []⟩] (frz_one _ (frz_cond [] (.nil _))) (by simp) e
  | exact finRC _ [_] (by simp) (by simp) e
  | exact finRD _ _ (by simp) (by simp) e
  | intro _
end Go.Gv

namespace Go.Gv
open Cod (enc dec)
variable {S S0 : Nat → Spc} {f : Int × Int}
@[simp] abbrev F_enumber (s : Rdr) (z : Int × Int) : Out (Rdr × Int) := numberE s z.1 z.2
abbrev s_enumber (f : Int × Int) : Spc := reF (a2 Int Int) (enc (X := Int)) f F_enumber
theorem finRI {b : Nat} {post : Rdr → Int → Prop} {v : Int} {H : HMap} (s : Rdr) (h0 : H 0 = some (.box b (ceRdr s))) (hq : post s v) : FinRD enc b post (.v (.int .i64 v)) H := finRD s v (.same _) h0 hq
theorem digs_at {t : B} (h : digsB t = true) {k : Nat} {c : UInt8} (hc : t.data[k]? = some c) : 48 ≤ c.toNat ∧ c.toNat ≤ 57 := by
 have := List.all_eq_true.1 h c (by rw [← Array.getElem?_toList] at hc; exact List.mem_of_getElem? hc)
 simpa using this
theorem trimZ_at {t : B} {k : Nat} {c : UInt8} (hc : (trimZ t).data[k]? = some c) : ∃ j : Nat, t.data[j]? = some c := by
 rw [trimZ, ByteArray.data_extract, Array.getElem?_extract] at hc
 split at hc
 ·exact ⟨_, hc⟩
 ·cases hc
theorem w_e_number (h1 : S f_query_reader_text = s_etext f) (h2 : S f_strings_TrimLeft = s_trimLeft) (hp : S panId = s_qpan f) : WalkRE cc_query_reader_number rs_query_reader_number S (a2 Int Int) (enc (X := Int)) f F_enumber := by
 rintro b s ⟨most, a⟩ hf
 have hf : (numberE s most a).fine f := hf
 have e := numberE.eq_1 s most a
 simp [cc_query_reader_number, rs_query_reader_number, h1, h2]
 refine outB hf e fun r e => ?_
 have hdm : digsB r.2 = true ∧ most ≤ 1000000 := by
  by_cases h : digsB r.2 = true ∧ most ≤ 1000000
  ·exact h
  ·rw [if_neg h] at e
   rw [e] at hf
   exact hf.elim
 rw [if_pos hdm] at e
 obtain ⟨hd, hm⟩ := hdm
 refine vc_while (X := Nat × Int) [1, 2, 7] [0] (fun z => z.1 ≤ (trimZ r.2).size ∧ 0 ≤ z.2 ∧ z.2 ≤ 100000000 ∧ numL most ((trimZ r.2).data.toList.drop z.1) z.2 = numV most r.2) (fun z => [(8, enc z.2), (9, enc (z.1 : Int))]) (fun _ => []) (fun z => (trimZ r.2).size - z.1) (0, 0) ⟨by simp, by simp, by simp, rfl⟩ (by simp) (by simp) ?_
 rintro ⟨k, n⟩ ⟨hk, h0, hb, hn⟩
 simp only at hk h0 hb hn
 simp [hp]
 have fin : numL most ((trimZ r.2).data.toList.drop k) n = n → (most < n → (a, 8) = f) ∧ (n ≤ most → numberE s most a = .ok (r.1, n)) := by
  intro hx
  rw [hx] at hn
  rw [← hn] at e
  refine ⟨fun h => ?_, fun h => ?_⟩
  ·rw [if_pos h] at e
   rw [e] at hf
   exact hf
  ·rw [if_neg (by omega)] at e
   exact e
 refine fun _ => ⟨fun hlt => ⟨fun hle => ?_, fun hgt => ?_⟩, fun hge => ?_⟩
 ·have iwr : ∀ x : Int, 0 ≤ x → x ≤ 9 → IntKind.i64.wrap x = x := fun x _ _ => InR.wrap (k := .i64) (by simp only [InR]; omega)
  refine ⟨by simp only [InR]; omega, hlt, fun c hc => ?_⟩
  obtain ⟨j, hj⟩ := trimZ_at hc
  have hcd := digs_at hd hj
  rw [iwr _ (by omega) (by omega)]
  refine ⟨by simp only [InR]; omega, by simp only [InR]; omega, by simp only [InR]; omega, k + 1, 10 * n + ((c.toNat : Int) - 48), ⟨by omega, by omega, by omega, ?_⟩, ⟨rfl, by omega⟩, by omega⟩
  rw [← hn]
  have hd2 : (trimZ r.2).data.toList.drop k = c :: (trimZ r.2).data.toList.drop (k + 1) := drop_cons_of (by rw [Array.getElem?_toList]; exact hc)
  rw [hd2, numL, if_pos hle]
 ·have hx := fin (by
   have hc : ∃ c, (trimZ r.2).data[k]? = some c := ⟨_, Array.getElem?_eq_getElem hlt⟩
   obtain ⟨c, hc⟩ := hc
   have hd2 : (trimZ r.2).data.toList.drop k = c :: (trimZ r.2).data.toList.drop (k + 1) := drop_cons_of (by rw [Array.getElem?_toList]; exact hc)
   rw [hd2, numL, if_neg (by omega)])
  exact ⟨hx.1, fun h => finRI r.1 (by simp) (hx.2 h)⟩
 ·have hx := fin (by
   rw [List.drop_eq_nil_of_le (by simpa using hge), numL])
  exact ⟨hx.1, fun h => finRI r.1 (by simp) (hx.2 h)⟩
@[simp] abbrev F_ebig (s : Rdr) (_ : Unit) : Out (Rdr × Int) := bigE s
abbrev s_ebig (f : Int × Int) : Spc := reF a0 (enc (X := Int)) f F_ebig
theorem w_e_big (h1 : S f_query_reader_number = s_enumber f) : WalkRE cc_query_reader_big rs_query_reader_big S a0 (enc (X := Int)) f F_ebig := by
 rintro b s ⟨⟩ hf
 have hf : (bigE s).fine f := hf
 have e := bigE.eq_1 s
 simp [cc_query_reader_big, rs_query_reader_big, h1]
 exact outE hf e fun q e => finRI q.1 (by simp) e
theorem numL_nn (most : Int) : ∀ (l : List UInt8) (n : Int), (∀ c ∈ l, 48 ≤ c.toNat) → 0 ≤ n → 0 ≤ numL most l n
 | [], n, _, h => h
 | c :: l, n, hc, h => by
   rw [numL]
   split
   ·have := hc c (by simp)
    exact numL_nn most l _ (fun x hx => hc x (by simp [hx])) (by omega)
   ·exact h
theorem numV_nn {most : Int} {t : B} (h : digsB t = true) : 0 ≤ numV most t := by
 refine numL_nn _ _ _ (fun c hc => ?_) (Int.le_refl _)
 obtain ⟨k, hk⟩ := List.mem_iff_getElem?.1 hc
 obtain ⟨j, hj⟩ := trimZ_at (by rw [← Array.getElem?_toList]; exact hk)
 exact (digs_at h hj).1
theorem numberE_rng {s : Rdr} {most a : Int} {r : Rdr × Int} (h : numberE s most a = .ok r) : 0 ≤ r.2 ∧ r.2 ≤ most := by
 rw [numberE] at h
 cases ht : textE s 3 with
 | no => rw [ht] at h; cases h
 | err g => rw [ht] at h; cases h
 | ok x =>
   rw [ht, Out.bind_ok] at h
   split at h
   ·rename_i hd
    split at h
    ·cases h
    ·cases h
     exact ⟨numV_nn hd.1, by omega⟩
   ·cases h
@[simp] abbrev F_esigned (s : Rdr) (_ : Unit) : Out (Rdr × Int) := signedE s
abbrev s_esigned (f : Int × Int) : Spc := reF a0 (enc (X := Int)) f F_esigned
theorem w_e_signed (h1 : S f_query_reader_take = s_rtake) (h2 : S f_query_reader_big = s_ebig f) : WalkRE cc_query_reader_signed rs_query_reader_signed S a0 (enc (X := Int)) f F_esigned := by
 rintro b s ⟨⟩ hf
 have hf : (signedE s).fine f := hf
 have e := signedE.eq_1 s
 simp only [takeE] at e
 simp [cc_query_reader_signed, rs_query_reader_signed, h1, h2, -Bool.forall_bool, -Bool.exists_bool]
 refine optB hf e fun q e => ⟨fun hc => ?_, fun hc => ?_⟩
 ·rw [if_pos hc] at e
  have hr : ∀ x, bigE q.1 = .ok x → InR .i64 (-x.2) := fun x hx => by
   have := numberE_rng hx
   simp only [InR]
   omega
  cases hb : bigE q.1 with
  | no => rw [e, hb] at hf; exact hf.elim
  | err g => rw [e, hb] at hf; exact hf
  | ok x =>
    rw [hb] at e
    exact ⟨hr x hb, finRI x.1 (by simp) e⟩
 ·rw [if_neg (by simp [hc])] at e
  exact outE hf e fun q e => finRI q.1 (by simp) e
end Go.Gv

namespace Go.Gv
open Cod (enc dec)
variable {S S0 : Nat → Spc} {f : Int × Int}
@[simp] abbrev F_eitem (A : Rdr → Bool → Out (Rdr × Pat)) (O : Rdr → Out (Rdr × Cond)) (s : Rdr) (_ : Unit) : Out (Rdr × Pat) := itemE A O s
abbrev s_eitem (f : Int × Int) (A : Rdr → Bool → Out (Rdr × Pat)) (O : Rdr → Out (Rdr × Cond)) : Spc := reF a0 (enc (X := Pat)) f (F_eitem A O)
@[simp] abbrev F_erep (A : Rdr → Bool → Out (Rdr × Pat)) (O : Rdr → Out (Rdr × Cond)) (s : Rdr) (_ : Unit) : Out (Rdr × Pat) := repE A O s
abbrev s_erep (f : Int × Int) (A : Rdr → Bool → Out (Rdr × Pat)) (O : Rdr → Out (Rdr × Cond)) : Spc := reF a0 (enc (X := Pat)) f (F_erep A O)
@[simp] abbrev F_eseq (A : Rdr → Bool → Out (Rdr × Pat)) (O : Rdr → Out (Rdr × Cond)) (s : Rdr) (i : Bool) : Out (Rdr × Pat) := seqE A O s i
abbrev s_eseq (f : Int × Int) (A : Rdr → Bool → Out (Rdr × Pat)) (O : Rdr → Out (Rdr × Cond)) : Spc := reF (a1 Bool) (enc (X := Pat)) f (F_eseq A O)
@[simp] abbrev F_ealt (A : Rdr → Bool → Out (Rdr × Pat)) (s : Rdr) (i : Bool) : Out (Rdr × Pat) := A s i
abbrev s_ealt (f : Int × Int) (A : Rdr → Bool → Out (Rdr × Pat)) : Spc := reF (a1 Bool) (enc (X := Pat)) f (F_ealt A)
@[simp] abbrev F_etoken (O : Rdr → Out (Rdr × Cond)) (s : Rdr) (l : B) : Out (Rdr × Pat) := tokenE O s l
abbrev s_etoken (f : Int × Int) (O : Rdr → Out (Rdr × Cond)) : Spc := reF (a1 B) (enc (X := Pat)) f (F_etoken O)
theorem finRPc {b : Nat} {post : Rdr → Pat → Prop} {H : HMap} {op : Int} {lb rg : B} {d : D} {mn mx : Int} (s : Rdr) (x : Cond) (ks : List Pat) (hd : FrzTo (fun i => if i = 0 then none else H i) d (enc ks))
 (h0 : H 0 = some (.box b (ceRdr s))) (hq : post s ⟨op, x, lb, rg, mn, mx, ks⟩) :
 FinRD enc b post (.agg [.v (.int .i64 op), .v (.int .i64 x.op), .v (.string x.name), .v (.string x.arg), .v (.string x.val), .v (.string x.lab), .v (.bool x.fold), .list 7 (x.kids.map enc), .v (.string lb), .v (.string rg), .v (.int .i64 mn), .v (.int .i64 mx), d]) H :=
 by cases x; exact finRP s _ ks (by simp) hd h0 hq
theorem w_e_token (O : Rdr → Out (Rdr × Cond)) (h1 : S f_query_reader_take = s_rtake) (h2 : S f_query_reader_sign = s_rsign) (h3 : S f_query_reader_must = s_emust f) (h4 : S f_query_reader_or = reF a0 (enc (X := Cond)) f (F_enot O)) (h5 : S f_query_reader_text = s_etext f) (h6 : S f_query_reader_fold = s_rfold) :
 WalkRE cc_query_reader_token rs_query_reader_token S (a1 B) (enc (X := Pat)) f (F_etoken O) := by
 rintro b s lab hf
 have hf : (tokenE O s lab).fine f := hf
 have e := tokenE.eq_1 O s lab
 simp only [valueE, takeE, nextE, Out.bind_map, Out.map_map, Out.bind_bind, Out.map_bind] at e
 simp [cc_query_reader_token, rs_query_reader_token, h1, h2, h3, h4, h5, h6, -Bool.forall_bool, -Bool.exists_bool]
 repeat' first
  | refine outB hf e fun q e => ?_
  | refine outM hf e fun q e => ?_
  | refine optB hf e fun q e => ?_
  | refine optM hf e fun q e => ?_
  | refine outE hf e fun q e => ?_
  | ((refine ⟨fun hc => ?_, fun hc => ?_⟩ <;> first | rw [if_pos hc] at e | rw [if_neg hc] at e | rw [if_neg (by simp [hc])] at e) <;> try simp only [Out.bind_ok, Out.bind_err, Out.map_ok, Out.map_err, Out.bind_map, Out.bind_bind, Out.map_bind, Out.map_map] at e)
  | exact finRP _ [] [] (.nil _) (.nil _) (by simp) e
  | exact finRPc _ _ [] (.nil _) (by simp) e
  | exact finRD _ _ (by simp) (by simp) e
  | intro _
theorem w_e_item (A : Rdr → Bool → Out (Rdr × Pat)) (O : Rdr → Out (Rdr × Cond)) (h1 : S f_query_reader_take = s_rtake) (h2 : S f_query_reader_name = s_ename f) (h3 : S f_query_reader_must = s_emust f) (h4 : S f_query_reader_token = s_etoken f O) (h5 : S f_query_reader_alt = s_ealt f A) :
 WalkRE cc_query_reader_item rs_query_reader_item S a0 (enc (X := Pat)) f (F_eitem A O) := by
 rintro b s ⟨⟩ hf
 have hf : (itemE A O s).fine f := hf
 have e := itemE.eq_1 A O s
 simp only [anchorE, takeE, nextE, Out.bind_map, Out.map_map, Out.bind_bind, Out.map_bind] at e
 simp [cc_query_reader_item, rs_query_reader_item, h1, h2, h3, h4, h5, -Bool.forall_bool, -Bool.exists_bool]
 repeat' first
  | refine outB hf e fun q e => ?_
  | refine outM hf e fun q e => ?_
  | refine optB hf e fun q e => ?_
  | refine optM hf e fun q e => ?_
  | refine outE hf e fun q e => ?_
  | ((refine ⟨fun hc => ?_, fun hc => ?_⟩ <;> first | rw [if_pos hc] at e | rw [if_neg hc] at e | rw [if_neg (by simp [hc])] at e) <;> try simp only [Out.bind_ok, Out.bind_err, Out.map_ok, Out.map_err, Out.bind_map, Out.bind_bind, Out.map_bind, Out.map_map] at e)
  | exact finRP _ [] [] (.nil _) (.nil _) (by simp) e
  | exact finRPc _ _ [] (.nil _) (by simp) e
  | exact finRD _ _ (by simp) (by simp) e
  | intro _
theorem w_e_rep (A : Rdr → Bool → Out (Rdr × Pat)) (O : Rdr → Out (Rdr × Cond)) (hp : S panId = s_qpan f) (h1 : S f_query_reader_take = s_rtake) (h2 : S f_query_reader_item = s_eitem f A O) (h3 : S f_query_reader_number = s_enumber f) (h4 : S f_query_reader_must = s_emust f) (h5 : S f_query_reader_sign = s_rsign) :
 WalkRE cc_query_reader_rep rs_query_reader_rep S a0 (enc (X := Pat)) f (F_erep A O) := by
 rintro b s ⟨⟩ hf
 have hf : (repE A O s).fine f := hf
 have e := repE.eq_1 A O s
 simp [cc_query_reader_rep, rs_query_reader_rep, h1, h2, h3, h4, h5, -Bool.forall_bool, -Bool.exists_bool]
 intro b2
 refine outB hf e fun r e => ?_
 intro b3
 refine vc_whileG (X := Nat × Rdr × Pat) [0, 2, 3] [2] [] [] [] [] (fun z => repE A O s = repLoopE z.1 z.2.1 z.2.2) (fun _ => []) (fun z => [(0, .box b (ceRdr z.2.1)), (3, .box b3 (enc z.2.2).cells)]) (fun z => z.1) (500, r.1, r.2) [0, 3] (fun _ => rfl) (by decide) (by decide) e (by simp) (by simp) ?_
 clear e
 rintro ⟨k, s1, x⟩ e
 simp only at e
 obtain _ | k := k
 ·rw [e, repLoopE] at hf; exact hf.elim
 rw [repLoopE, sufE] at e
 simp only [braceE, takeE, nextE, Out.bind_map, Out.map_map, Out.bind_bind, Out.map_bind] at e
 simp [h1, h3, h4, h5, hp, -Bool.forall_bool, -Bool.exists_bool]
 repeat' first
  | refine outB hf e fun q e => ?_
  | refine outM hf e fun q e => ?_
  | refine optB hf e fun q e => ?_
  | refine optM hf e fun q e => ?_
  | refine outE hf e fun q e => ?_
  | ((refine ⟨fun hc => ?_, fun hc => ?_⟩ <;> first | rw [if_pos hc] at e | rw [if_neg hc] at e | rw [if_neg (by simp [hc])] at e) <;> try simp only [Out.bind_ok, Out.bind_err, Out.map_ok, Out.map_err, Out.bind_map, Out.bind_bind, Out.map_bind, Out.map_map] at e)
  | (refine ⟨k, _, _, e, ⟨.inl ⟨rfl, rfl, rfl, rfl, rfl⟩, ?_⟩, Nat.lt_succ_self _⟩; simp [Cond0, E0]; done)
  | exact finRD _ _ (by simp) (by simp) e
  | (rw [e] at hf; exact hf)
  | intro _
theorem w_e_seq (A : Rdr → Bool → Out (Rdr × Pat)) (O : Rdr → Out (Rdr × Cond)) (h1 : S f_query_reader_begins = s_rbegins) (h2 : S f_query_reader_rep = s_erep f A O) (h3 : S f_query_patterns = s_patterns) :
 WalkRE cc_query_reader_seq rs_query_reader_seq S (a1 Bool) (enc (X := Pat)) f (F_eseq A O) := by
 rintro b s i hf
 have hf : (seqE A O s i).fine f := hf
 have e := seqE.eq_1 A O s i
 simp [cc_query_reader_seq, rs_query_reader_seq, h1, h2, h3, -Bool.forall_bool, -Bool.exists_bool]
 intro b2
 refine outB hf e fun r e => ?_
 intro v0
 refine vc_while (X := Nat × Rdr × Value × List Pat) [0, 1, 4] [4] (fun z => seqE A O s i = ((seqLoopE A O i z.1 z.2.1 z.2.2.2).map fun q => (q.1, oneOr 4 q.2)) ∧ z.2.2.2.length + z.1 ≤ 501) (fun z => [(5, .own 8 z.2.2.1)]) (fun z => [(0, .box b (ceRdr z.2.1)), (8, .row z.2.2.1 ty_Pattern 13 (z.2.2.2.map enc))]) (fun z => z.1) (500, r.1, v0, [r.2]) ⟨e, by simp⟩ (by simp) (by simp) ?_
 clear e
 rintro ⟨k, s1, v, l⟩ ⟨e, hlen⟩
 simp only at e hlen
 obtain _ | k := k
 ·rw [e, seqLoopE] at hf; exact hf.elim
 rw [seqLoopE, Out.bind_map] at e
 simp [h1]
 refine optB hf e fun w e => ?_
 simp [-Bool.forall_bool, -Bool.exists_bool, h2, h3]
 refine ⟨fun hw => ?_, fun hw => ?_⟩
 ·rw [if_pos hw, Out.bind_map] at e
  exact outB hf e fun r2 e => ⟨by omega, by omega, fun v' => ⟨k, r2.1, v', l ++ [r2.2], ⟨e, by simp; omega⟩, ⟨rfl, .inl ⟨rfl, rfl, rfl, rfl, rfl⟩, .inl ⟨rfl, by simp⟩⟩, by omega⟩⟩
 ·rw [if_neg (by simp [hw]), Out.map_ok] at e
  exact finRD s1 (oneOr 4 l) (by simp) (by simp) e
theorem w_e_alt (A : Rdr → Bool → Out (Rdr × Pat)) (O : Rdr → Out (Rdr × Cond)) (h1 : S f_query_reader_take = s_rtake) (h2 : S f_query_reader_seq = s_eseq f A O) (h3 : S f_query_patterns = s_patterns) :
 WalkRE cc_query_reader_alt rs_query_reader_alt S (a1 Bool) (enc (X := Pat)) f (F_ealt (altE A O)) := by
 rintro b s i hf
 have hf : (altE A O s i).fine f := hf
 have e := altE.eq_1 A O s i
 simp [cc_query_reader_alt, rs_query_reader_alt, h1, h2, h3, -Bool.forall_bool, -Bool.exists_bool]
 intro b2
 refine outB hf e fun r e => ?_
 intro v0
 refine vc_while (X := Nat × Rdr × Value × List Pat) [0, 1, 4] [4] (fun z => altE A O s i = ((altLoopE A O i z.1 z.2.1 z.2.2.2).map fun q => (q.1, oneOr 5 q.2)) ∧ z.2.2.2.length + z.1 ≤ 501) (fun z => [(5, .own 9 z.2.2.1)]) (fun z => [(0, .box b (ceRdr z.2.1)), (9, .row z.2.2.1 ty_Pattern 13 (z.2.2.2.map enc))]) (fun z => z.1) (500, r.1, v0, [r.2]) ⟨e, by simp⟩ (by simp) (by simp) ?_
 clear e
 rintro ⟨k, s1, v, l⟩ ⟨e, hlen⟩
 simp only at e hlen
 obtain _ | k := k
 ·rw [e, altLoopE] at hf; exact hf.elim
 rw [altLoopE, Out.bind_map] at e
 simp [h1]
 refine optB hf e fun w e => ?_
 simp [-Bool.forall_bool, -Bool.exists_bool, h2, h3]
 refine ⟨fun hw => ?_, fun hw => ?_⟩
 ·rw [if_pos hw, Out.bind_map] at e
  exact outB hf e fun r2 e => ⟨by omega, by omega, fun v' => ⟨k, r2.1, v', l ++ [r2.2], ⟨e, by simp; omega⟩, ⟨rfl, .inl ⟨rfl, rfl, rfl, rfl, rfl⟩, .inl ⟨rfl, by simp⟩⟩, by omega⟩⟩
 ·rw [if_neg (by simp [hw]), Out.map_ok] at e
  exact finRD w.1 (oneOr 5 l) (by simp) (by simp) e
end Go.Gv

namespace Go.Gv
open Cod (enc dec)
variable {S S0 : Nat → Spc} {f : Int × Int}
theorem frz_glob {H : HMap} {o mn mx : Int} {a b n g v : B} {fo : Bool} {da dk : D} (al : List B) (ks : List Glob) (ha : FrzTo H da (enc al)) (hd : FrzTo H dk (enc ks)) :
 FrzTo H (.agg [.v (.int .i64 o), .v (.string a), .v (.string b), .v (.string n), .v (.string g), .v (.string v), .v (.bool fo), .v (.int .i64 mn), .v (.int .i64 mx), da, dk]) (enc (⟨o, a, b, n, g, v, fo, mn, mx, al, ks⟩ : Glob)) := by
 rw [enc_Glob]
 refine .agg rfl fun k x y hx hy => ?_
 rcases k with _ | _ | _ | _ | _ | _ | _ | _ | _ | _ | _ | k
 all_goals first
  | (cases hx; cases hy; exact .same _)
  | (cases hx; cases hy; exact ha)
  | (cases hx; cases hy; exact hd)
  | simp at hx
theorem finRG {b : Nat} {post : Rdr → Glob → Prop} {H : HMap} {o mn mx : Int} {a b' n g v : B} {fo : Bool} {da dk : D} (s : Rdr) (al : List B) (ks : List Glob) (ha : FrzTo (fun i => if i = 0 then none else H i) da (enc al)) (hd : FrzTo (fun i => if i = 0 then none else H i) dk (enc ks))
 (h0 : H 0 = some (.box b (ceRdr s))) (hq : post s ⟨o, a, b', n, g, v, fo, mn, mx, al, ks⟩) :
 FinRD enc b post (.agg [.v (.int .i64 o), .v (.string a), .v (.string b'), .v (.string n), .v (.string g), .v (.string v), .v (.bool fo), .v (.int .i64 mn), .v (.int .i64 mx), da, dk]) H := finRD s _ (frz_glob al ks ha hd) h0 hq
abbrev s_globs : Spc := spc (a2 Int (List Glob)) (fun _ => True) (enc (X := Glob)) fun x y => y = gOp x.1 x.2
theorem gOp_n {op : Int} {l : List Glob} (h : l.length ≠ 1) : gOp op l = ⟨op, E0, E0, E0, E0, E0, false, 0, 0, [], l⟩ := by
 match l, h with
 | [], _ => rfl
 | [x], h => exact absurd rfl h
 | x :: y :: l, _ => rfl
theorem w_globs : Walk cc_query_globs rs_query_globs S (a2 Int (List Glob)) (fun _ => True) (enc (X := Glob)) fun x y => y = gOp x.1 x.2 := by
 rintro ⟨op, l⟩ -
 simp [cc_query_globs, rs_query_globs]
 refine fun b _ => ⟨fun h => ⟨by omega, fun a ha => ?_⟩, fun h => ?_⟩
 ·have e : l = [a] := by
   match l, h, ha with
   | [x], _, ha => simp at ha; rw [ha]
  exact fin_of a (by simp) (by rw [e]; rfl)
 ·exact fin_of (⟨op, E0, E0, E0, E0, E0, false, 0, 0, [], l⟩ : Glob) (frz_glob [] l (.nil _) (by simp)) (gOp_n (by omega)).symm
abbrev s_function : Spc := spc (a1 B) (fun _ => True) (enc (X := Int)) fun x y => y = funcOp x
theorem w_query_function : Walk cc_query_function rs_query_function S (a1 B) (fun _ => True) (enc (X := Int)) fun x y => y = funcOp x := by
 rintro x -
 simp [cc_query_function, rs_query_function]
 refine ⟨fun h => by subst h; rfl, fun n1 => ⟨fun h => by subst h; rfl, fun n2 => ⟨fun h => by subst h; rfl, fun n3 => ⟨fun h => by subst h; rfl, fun n4 => ⟨fun h => by subst h; rfl, fun n5 => ⟨fun h => by subst h; rfl, fun n6 => ⟨fun h => by subst h; rfl, fun n7 => ⟨fun h => by subst h; rfl, fun n8 => ?_⟩⟩⟩⟩⟩⟩⟩⟩
 have g : ∀ {y : B}, ¬ x = y → ¬ y = x := fun h e => h e.symm
 simp [funcOp, funcsL, List.find?, g n1, g n2, g n3, g n4, g n5, g n6, g n7, g n8]
@[simp] abbrev F_egnot (N : Rdr → Out (Rdr × Glob)) (s : Rdr) (_ : Unit) : Out (Rdr × Glob) := N s
abbrev s_egnot (f : Int × Int) (N : Rdr → Out (Rdr × Glob)) : Spc := reF a0 (enc (X := Glob)) f (F_egnot N)
@[simp] abbrev F_egand (N : Rdr → Out (Rdr × Glob)) (s : Rdr) (_ : Unit) : Out (Rdr × Glob) := gandE N s
abbrev s_egand (f : Int × Int) (N : Rdr → Out (Rdr × Glob)) : Spc := reF a0 (enc (X := Glob)) f (F_egand N)
@[simp] abbrev F_egor (N : Rdr → Out (Rdr × Glob)) (s : Rdr) (_ : Unit) : Out (Rdr × Glob) := gorE N s
abbrev s_egor (f : Int × Int) (N : Rdr → Out (Rdr × Glob)) : Spc := reF a0 (enc (X := Glob)) f (F_egor N)
@[simp] abbrev F_egatom (s : Rdr) (_ : Unit) : Out (Rdr × Glob) := gatomsE s
abbrev s_egatom (f : Int × Int) : Spc := reF a0 (enc (X := Glob)) f F_egatom
theorem w_e_gand (N : Rdr → Out (Rdr × Glob)) (h1 : S f_query_reader_take = s_rtake) (h2 : S f_query_reader_gnot = s_egnot f N) (h3 : S f_query_globs = s_globs) :
 WalkRE cc_query_reader_gand rs_query_reader_gand S a0 (enc (X := Glob)) f (F_egand N) := by
 rintro b s ⟨⟩ hf
 have hf : (gandE N s).fine f := hf
 have e := gandE.eq_1 N s
 simp [cc_query_reader_gand, rs_query_reader_gand, h1, h2, h3, -Bool.forall_bool, -Bool.exists_bool]
 intro b2
 refine outB hf e fun r e => ?_
 intro v0
 refine vc_while (X := Nat × Rdr × Value × List Glob) [0, 2] [2] (fun z => gandE N s = ((gandLoopE N z.1 z.2.1 z.2.2.2).map fun q => (q.1, gOp 12 q.2)) ∧ z.2.2.2.length + z.1 ≤ 501) (fun z => [(3, .own 6 z.2.2.1)]) (fun z => [(0, .box b (ceRdr z.2.1)), (6, .row z.2.2.1 ty_Constraint 11 (z.2.2.2.map enc))]) (fun z => z.1) (500, r.1, v0, [r.2]) ⟨e, by simp⟩ (by simp) (by simp) ?_
 clear e
 rintro ⟨k, s1, v, l⟩ ⟨e, hlen⟩
 simp only at e hlen
 obtain _ | k := k
 ·rw [e, gandLoopE] at hf; exact hf.elim
 rw [gandLoopE, Out.bind_map] at e
 simp [h1]
 refine optB hf e fun w e => ?_
 simp [-Bool.forall_bool, -Bool.exists_bool, h2, h3]
 refine ⟨fun hw => ?_, fun hw => ?_⟩
 ·rw [if_pos hw, Out.bind_map] at e
  exact outB hf e fun r2 e => ⟨by omega, by omega, fun v' => ⟨k, r2.1, v', l ++ [r2.2], ⟨e, by simp; omega⟩, ⟨rfl, .inl ⟨rfl, rfl, rfl, rfl, rfl⟩, .inl ⟨rfl, by simp⟩⟩, by omega⟩⟩
 ·rw [if_neg (by simp [hw]), Out.map_ok] at e
  exact finRD w.1 (gOp 12 l) (by simp) (by simp) e
theorem w_e_gor (N : Rdr → Out (Rdr × Glob)) (h1 : S f_query_reader_take = s_rtake) (h2 : S f_query_reader_gand = s_egand f N) (h3 : S f_query_globs = s_globs) :
 WalkRE cc_query_reader_gor rs_query_reader_gor S a0 (enc (X := Glob)) f (F_egor N) := by
 rintro b s ⟨⟩ hf
 have hf : (gorE N s).fine f := hf
 have e := gorE.eq_1 N s
 simp [cc_query_reader_gor, rs_query_reader_gor, h1, h2, h3, -Bool.forall_bool, -Bool.exists_bool]
 intro b2
 refine outB hf e fun r e => ?_
 intro v0
 refine vc_while (X := Nat × Rdr × Value × List Glob) [0, 2] [2] (fun z => gorE N s = ((gorLoopE N z.1 z.2.1 z.2.2.2).map fun q => (q.1, gOp 13 q.2)) ∧ z.2.2.2.length + z.1 ≤ 501) (fun z => [(3, .own 6 z.2.2.1)]) (fun z => [(0, .box b (ceRdr z.2.1)), (6, .row z.2.2.1 ty_Constraint 11 (z.2.2.2.map enc))]) (fun z => z.1) (500, r.1, v0, [r.2]) ⟨e, by simp⟩ (by simp) (by simp) ?_
 clear e
 rintro ⟨k, s1, v, l⟩ ⟨e, hlen⟩
 simp only at e hlen
 obtain _ | k := k
 ·rw [e, gorLoopE] at hf; exact hf.elim
 rw [gorLoopE, Out.bind_map] at e
 simp [h1]
 refine optB hf e fun w e => ?_
 simp [-Bool.forall_bool, -Bool.exists_bool, h2, h3]
 refine ⟨fun hw => ?_, fun hw => ?_⟩
 ·rw [if_pos hw, Out.bind_map] at e
  exact outB hf e fun r2 e => ⟨by omega, by omega, fun v' => ⟨k, r2.1, v', l ++ [r2.2], ⟨e, by simp; omega⟩, ⟨rfl, .inl ⟨rfl, rfl, rfl, rfl, rfl⟩, .inl ⟨rfl, by simp⟩⟩, by omega⟩⟩
 ·rw [if_neg (by simp [hw]), Out.map_ok] at e
  exact finRD w.1 (gOp 13 l) (by simp) (by simp) e
theorem w_e_gnot (N : Rdr → Out (Rdr × Glob)) (h1 : S f_query_reader_take = s_rtake) (h2 : S f_query_reader_gnot = s_egnot f N) (h3 : S f_query_reader_must = s_emust f) (h4 : S f_query_reader_gor = s_egor f N) (h5 : S f_query_reader_gatom = s_egatom f) :
 WalkRE cc_query_reader_gnot rs_query_reader_gnot S a0 (enc (X := Glob)) f (F_egnot (gnotE N (gorE N))) := by
 rintro b s ⟨⟩ hf
 have hf : (gnotE N (gorE N) s).fine f := hf
 have e := gnotE.eq_1 N (gorE N) s
 simp only [takeE, nextE, Out.bind_map, Out.map_map, Out.bind_bind, Out.map_bind] at e
 simp [cc_query_reader_gnot, rs_query_reader_gnot, h1, h2, h3, h4, h5, -Bool.forall_bool, -Bool.exists_bool]
 repeat' first
  | refine outB hf e fun q e => ?_
  | refine outM hf e fun q e => ?_
  | refine optB hf e fun q e => ?_
  | refine optM hf e fun q e => ?_
  | refine outE hf e fun q e => ?_
  | ((refine ⟨fun hc => ?_, fun hc => ?_⟩ <;> first | rw [if_pos hc] at e | rw [if_neg hc] at e | rw [if_neg (by simp [hc])] at e) <;> try simp only [Out.bind_ok, Out.bind_err, Out.map_ok, Out.map_err, Out.bind_map, Out.bind_bind, Out.map_bind, Out.map_map] at e)
  | exact finRG _ [] [] (.nil _) (.nil _) (by simp) e
  | exact finRG _ [] [_] (.nil _) (by simp) (by simp) e
  | exact finRD _ _ (by simp) (by simp) e
  | (rw [e] at hf; exact hf)
  | intro _
/-- What arguments is handed: a function and its first argument; no lists. -/
def aNil : Arg (Int × B) where
 dec
  | [.agg [.v (.int .i64 op), .v (.string a), .v (.string b), .v (.string c), .v (.string d), .v (.string e), .v (.bool g), .v (.int .i64 m), .v (.int .i64 n), .v (.slice none 0 0), .v (.slice none 0 0)]] => if b = E0 ∧ c = E0 ∧ d = E0 ∧ e = E0 ∧ g = false ∧ m = 0 ∧ n = 0 then some (op, a) else none
  | _ => none
 view z := [.agg [.v (.int .i64 z.1), .v (.string z.2), .v (.string E0), .v (.string E0), .v (.string E0), .v (.string E0), .v (.bool false), .v (.int .i64 0), .v (.int .i64 0), .v (.slice none 0 0), .v (.slice none 0 0)]]
 le ds z h := by
  split at h
  ·split at h
   ·rename_i hh
    obtain ⟨rfl, rfl, rfl, rfl, rfl, rfl, rfl⟩ := hh
    cases h
    exact .cons (.same _) .nil
   ·cases h
  ·cases h
@[simp] theorem aNil_dec (op : Int) (a : B) : aNil.dec [.agg [.v (.int .i64 op), .v (.string a), .v (.string ⟨#[]⟩), .v (.string ⟨#[]⟩), .v (.string ⟨#[]⟩), .v (.string ⟨#[]⟩), .v (.bool false), .v (.int .i64 0), .v (.int .i64 0), .v (.slice none 0 0), .v (.slice none 0 0)]] = some (op, a) := id rfl
@[simp] theorem aNil_view (z : Int × B) : aNil.view z = [.agg [.v (.int .i64 z.1), .v (.string z.2), .v (.string ⟨#[]⟩), .v (.string ⟨#[]⟩), .v (.string ⟨#[]⟩), .v (.string ⟨#[]⟩), .v (.bool false), .v (.int .i64 0), .v (.int .i64 0), .v (.slice none 0 0), .v (.slice none 0 0)]] := id rfl
@[simp] abbrev F_eargs (s : Rdr) (z : Int × B) : Out (Rdr × Glob) := argsE s z.1 z.2
abbrev s_eargs (f : Int × Int) : Spc := reF aNil (enc (X := Glob)) f F_eargs
theorem w_e_gatom (h1 : S f_query_reader_take = s_rtake) (h2 : S f_query_reader_name = s_ename f) (h3 : S f_query_reader_must = s_emust f) (h4 : S f_query_reader_text = s_etext f) (h5 : S f_query_reader_fold = s_rfold) (h6 : S f_query_function = s_function) (h7 : S f_query_reader_arguments = s_eargs f) :
 WalkRE cc_query_reader_gatom rs_query_reader_gatom S a0 (enc (X := Glob)) f (F_egatom) := by
 rintro b s ⟨⟩ hf
 have hf : (gatomsE s).fine f := hf
 have e := gatomsE.eq_1 s
 simp only [gatomE, takeE, nextE, Out.bind_map, Out.map_map, Out.bind_bind, Out.map_bind] at e
 simp [cc_query_reader_gatom, rs_query_reader_gatom, h1, h2, h3, h4, h5, h6, h7, -Bool.forall_bool, -Bool.exists_bool]
 repeat' first
  | refine outB hf e fun q e => ?_
  | refine outM hf e fun q e => ?_
  | refine optB hf e fun q e => ?_
  | refine optM hf e fun q e => ?_
  | refine outE hf e fun q e => ?_
  | ((refine ⟨fun hc => ?_, fun hc => ?_⟩ <;> first | rw [if_pos hc] at e | rw [if_neg hc] at e | rw [if_neg (by simp [hc])] at e) <;> try simp only [Out.bind_ok, Out.bind_err, Out.map_ok, Out.map_err, Out.bind_map, Out.bind_bind, Out.map_bind, Out.map_map] at e)
  | exact finRG _ [] [] (.nil _) (.nil _) (by simp) e
  | exact finRG _ [] [_] (.nil _) (by simp) (by simp) e
  | exact finRD _ _ (by simp) (by simp) e
  | (rw [e] at hf; exact hf)
  | intro _
theorem w_e_arguments (h1 : S f_query_reader_take = s_rtake) (h2 : S f_query_reader_must = s_emust f) (h3 : S f_query_reader_text = s_etext f) (h4 : S f_query_reader_comma = s_ecomma f) (h5 : S f_query_reader_big = s_ebig f) (h6 : S f_query_reader_signed = s_esigned f) :
 WalkRE cc_query_reader_arguments rs_query_reader_arguments S aNil (enc (X := Glob)) f F_eargs := by
 rintro b s ⟨op, a⟩ hf
 have hf : (argsE s op a).fine f := hf
 have e := argsE.eq_1 s op a
 simp [cc_query_reader_arguments, rs_query_reader_arguments, h1, h2, h3, h4, h5, h6, -Bool.forall_bool, -Bool.exists_bool]
 intro b3 b4
 refine ⟨fun hc => ?_, fun hc => ?_⟩
 ·rw [if_pos hc] at e
  exact finRG s [] [] (.nil _) (.nil _) (by simp) e
 rw [if_neg hc] at e
 refine ⟨fun hc2 => ?_, fun hc2 => ?_⟩
 ·rw [if_pos hc2] at e
  repeat' first
   | refine outB hf e fun q e => ?_
   | refine outM hf e fun q e => ?_
   | refine optB hf e fun q e => ?_
   | refine optM hf e fun q e => ?_
   | refine outE hf e fun q e => ?_
   | ((refine ⟨fun hc => ?_, fun hc => ?_⟩ <;> first | rw [if_pos hc] at e | rw [if_neg hc] at e | rw [if_neg (by simp [hc])] at e) <;> try simp only [Out.bind_ok, Out.bind_err, Out.map_ok, Out.map_err, Out.bind_map, Out.bind_bind, Out.map_bind, Out.map_map] at e)
   | exact finRG _ [] [] (.nil _) (.nil _) (by simp) e
   | exact finRG _ [] [_] (.nil _) (by simp) (by simp) e
   | exact finRD _ _ (by simp) (by simp) e
   | (rw [e] at hf; exact hf)
   | intro _

 rw [if_neg hc2] at e
 refine outB hf e fun q e => ?_
 refine vc_midG (X := Rdr × Glob) [4] [4] [59] [] (fun z => argsE s op a = .ok (z.1, z.2)) (fun _ => [(3, .bptr 3 b3 0)]) (fun z => [(0, .box b (ceRdr z.1)), (3, .box b3 (enc z.2).cells)]) [0, 3] (fun _ => rfl) (by decide) ?_ ?_
 ·simp [h1, h2, h3, h4, h5, h6, -Bool.forall_bool, -Bool.exists_bool]
  refine ⟨fun g4 => ?_, fun g4 => ?_⟩
  ·rw [if_pos g4] at e
   repeat' first
    | refine outB hf e fun q e => ?_
    | refine outM hf e fun q e => ?_
    | refine optB hf e fun q e => ?_
    | refine optM hf e fun q e => ?_
    | refine outE hf e fun q e => ?_
    | ((refine ⟨fun hc => ?_, fun hc => ?_⟩ <;> first | rw [if_pos hc] at e | rw [if_neg hc] at e | rw [if_neg (by simp [hc])] at e) <;> try simp only [Out.bind_ok, Out.bind_err, Out.map_ok, Out.map_err, Out.bind_map, Out.bind_bind, Out.map_bind, Out.map_map] at e)
    | exact ⟨_, _, e, .inl ⟨rfl, rfl, rfl, rfl, rfl⟩, .inl ⟨rfl, rfl, rfl, rfl, rfl, rfl, rfl, rfl, rfl, rfl, rfl⟩⟩
    | intro _

  rw [if_neg g4] at e
  refine ⟨fun g5 => ?_, fun g5 => ?_⟩
  ·rw [if_pos (.inl g5)] at e
   refine ⟨fun _ => ?_, fun h => absurd g5 h⟩
   repeat' first
    | refine outB hf e fun q e => ?_
    | refine outM hf e fun q e => ?_
    | refine optB hf e fun q e => ?_
    | refine optM hf e fun q e => ?_
    | refine outE hf e fun q e => ?_
    | ((refine ⟨fun hc => ?_, fun hc => ?_⟩ <;> first | rw [if_pos hc] at e | rw [if_neg hc] at e | rw [if_neg (by simp [hc])] at e) <;> try simp only [Out.bind_ok, Out.bind_err, Out.map_ok, Out.map_err, Out.bind_map, Out.bind_bind, Out.map_bind, Out.map_map] at e)
    | exact ⟨_, _, e, .inl ⟨rfl, rfl, rfl, rfl, rfl⟩, .inl ⟨rfl, rfl, rfl, rfl, rfl, rfl, rfl, rfl, rfl, rfl, rfl⟩⟩
    | intro _

  refine ⟨fun g9 => ?_, fun g9 => ?_⟩
  ·rw [if_pos (.inr g9)] at e
   repeat' first
    | refine outB hf e fun q e => ?_
    | refine outM hf e fun q e => ?_
    | refine optB hf e fun q e => ?_
    | refine optM hf e fun q e => ?_
    | refine outE hf e fun q e => ?_
    | ((refine ⟨fun hc => ?_, fun hc => ?_⟩ <;> first | rw [if_pos hc] at e | rw [if_neg hc] at e | rw [if_neg (by simp [hc])] at e) <;> try simp only [Out.bind_ok, Out.bind_err, Out.map_ok, Out.map_err, Out.bind_map, Out.bind_bind, Out.map_bind, Out.map_map] at e)
    | exact ⟨_, _, e, .inl ⟨rfl, rfl, rfl, rfl, rfl⟩, .inl ⟨rfl, rfl, rfl, rfl, rfl, rfl, rfl, rfl, rfl, rfl, rfl⟩⟩
    | intro _

  rw [if_neg (by omega)] at e
  refine ⟨fun g8 => ?_, fun g8 => ?_⟩
  rotate_left
  ·rw [if_neg g8] at e
   exact ⟨_, _, e, .inl ⟨rfl, rfl, rfl, rfl, rfl⟩, .inl ⟨rfl, rfl, rfl, rfl, rfl, rfl, rfl, rfl, rfl, rfl, rfl⟩⟩
  rw [if_pos g8] at e
  refine vc_whileG (X := Nat × Rdr × Value × List B) [0, 3, 4] [4] [] [] [] [] (fun z => argsE s op a = ((argsLoopE z.1 z.2.1 z.2.2.2).map fun l => (l.1, ⟨op, a, q.2, E0, E0, E0, false, 0, 0, l.2, []⟩)) ∧ z.2.2.2.length + z.1 ≤ 500) (fun _ => []) (fun z => [(0, .box b (ceRdr z.2.1)), (3, .box b3 [.v (.int .i64 op), .v (.string a), .v (.string q.2), .v (.string ⟨#[]⟩), .v (.string ⟨#[]⟩), .v (.string ⟨#[]⟩), .v (.bool false), .v (.int .i64 0), .v (.int .i64 0), .own 59 z.2.2.1, .v (.slice none 0 0)]), (59, .row z.2.2.1 ty_string 1 (z.2.2.2.map enc))]) (fun z => z.1) (500, q.1, .slice none 0 0, []) [0, 3, 59] (fun _ => rfl) (by decide) (by decide) ⟨e, by simp⟩ ?_ ?_ ?_
  ·simp
  ·simp [isNilRow]
   exact .nilown 59
  clear e
  rintro ⟨k, s1, v, l⟩ ⟨e, hlen⟩
  simp only at e hlen
  obtain _ | k := k
  ·rw [e, argsLoopE] at hf; exact hf.elim
  rw [argsLoopE, Out.bind_map] at e
  simp [h1, h3, -Bool.forall_bool, -Bool.exists_bool]
  refine optB hf e fun w e => ⟨fun hw => ?_, fun hw => ?_⟩
  ·rw [if_pos hw, Out.bind_map] at e
   refine outB hf e fun r2 e => ?_
   exact ⟨by omega, by omega, fun v' => ⟨k, r2.1, v', l ++ [r2.2], ⟨e, by simp; omega⟩, ⟨.inl ⟨rfl, rfl, rfl, rfl, rfl⟩, .inl (.inl rfl), .inl (.inl (by simp))⟩, by omega⟩⟩
  ·rw [if_neg (by simp [hw]), Out.map_ok] at e
   exact ⟨w.1, ⟨op, a, q.2, E0, E0, E0, false, 0, 0, l, []⟩, e, .inl ⟨rfl, rfl, rfl, rfl, rfl⟩, .inl ⟨rfl, rfl, rfl, rfl, rfl, rfl, rfl, rfl, rfl, fz_o ty_string (by simp [gvH]), rfl⟩⟩
 ·rintro ⟨s9, g⟩ e
  simp only at e
  simp
  exact finRD s9 g (by simp) (by simp) e
end Go.Gv

namespace Go.Gv
open Go.Proofs
-- query_reader_query while id=0: live [0:r, 2:, 3:q] changed [] res [0, 2, 3, 55]
def cc_query_reader_queryE : CC := oX [oB 2 (.alloc ty_Query [oi,oi,oe,oe,oe,oe,ob,on,oe,oe,oi,oi,on,oi,oe,oe,oe,oe,oe,ob,oi,oi,on,on,on,oi])] [0,2] [0,2,55] (oX [oA 5 0,oZ 6 f_query_reader_next [oT 5]] [0,2] [0,2,55] (oX [oA 7 0,oZ 8 f_query_reader_alt [oT 7,.const ob],oB 9 (.build [oi,oi,oe,oe,oe,oe,ob,on,oe,oe,oi,oi,on,oi,oe,oe,oe,oe,oe,ob,oi,oi,on,on,on,oi] [(0,13,oT 8)]),
 oB 3 (.alloc ty_Query [oi,oi,oe,oe,oe,oe,ob,on,oe,oe,oi,oi,on,oi,oe,oe,oe,oe,oe,ob,oi,oi,on,on,on,oi]),oF 26 3 9] [0,2,3] [0,2,3,55] (seqM 3 (oX [oA 10 0,oZ 11 f_query_reader_take [oT 10,oS ⟨#[58,58]⟩]] [0,2,3,11] [0,2,3,55] (.ite (oT 11) (.reg [oA 12 0,oZ 13 f_query_reader_gor [oT 12],oE 14 13 3,oF 11 14 13]) (.skip))) (.keep [0,2,3] [0,2,3,55] (seqM 5 (.block 0 (.loop 1 (.seq (oX [
 oA 15 0,oZ 16 f_query_reader_sign [oT 15,oS ⟨#[33]⟩],oA 17 16,oI 18 17 (.mv (oT 0)),oI 19 17 (.call f_query_filterWords []),oI 20 17 (.call f_query_reader_word [oT 18,oT 19]),oB 21 (.pick (oT 17) (.const (.bool true)) (oT 20))] [0,2,3,21] [0,2,3,55] (.ite (oT 21) (.skip) (.exit 0))) (.keep [0,2,3] [0,2,3,55] (.block 1 (oX [oA 22 0,oZ 23 f_query_reader_take [oT 22,oS ⟨#[33]⟩],
 oB 24 (.build [oi,ob,oe] [(1,1,oT 23)]),oB 4 (.alloc ty_Filter [oi,ob,oe]),oF 3 4 24] [0,2,3,4] [0,2,3,4,55] (.seq (.seq (.regd [oZ 25 f_query_filterWords [],oA 26 0,oG 27 26,oE 28 2 27,oE 29 1 28,oC 30 1 29] [oZ 31 f_slices_Index_string [oT 25,oT 30],oE 32 0 4,.op none none (.store (some 4) 1 (oT 32) (oT 31))]) (.keep [0,2,3,4] [0,2,3,4,55] (oX [oA 33 0,oG 34 33,oE 35 2 34,
 oE 36 0 35,oC 37 1 36,oB 38 (.eql true false [.int] (oT 37) (oN 2)),oA 39 38,oI 40 39 (.faddr 0 (oT 4)),oI 41 39 (.load false 1 (oT 40)),oI 42 39 (.cmp .lss (oT 41) (oN 1)),oB 43 (.pick (oT 39) (.const (.bool true)) (oT 42))] [0,2,3,4,43] [0,2,3,4,55] (.ite (oT 43) (.reg [oA 44 0,oZ 45 f_query_reader_wrong [oT 44]]) (.skip))))) (.keep [0,2,3,4] [0,2,3,4,55] (oX [oA 46 0,
 oZ 47 f_query_reader_next [oT 46]] [0,2,3,4] [0,2,3,4,55] (oX [oA 48 0,oZ 49 f_query_reader_name [oT 48],oE 50 2 4,oF 1 50 49] [0,2,3,4] [0,2,3,4,55] (.reg [oE 51 24 3,oC 52 1 51,oD 53 3 4,oB 54 (.bslice ty_Filter 3 [oT 53]),oB 55 (.append (some 55) ty_Filter 3 32 (oT 52) (oT 54)),oE 56 24 3,oF 1 56 55]))))))))))) (.keep [0,2,3] [0,2,3,55] (.seq (oX [oA 57 0,
 oB 58 (.bslice ty_string 1 [oS ⟨#[115,116,114,97,116,101,103,121]⟩]),oZ 59 f_query_reader_word [oT 57,oT 58]] [0,2,3,59] [0,2,3,55] (.ite (oT 59) (oX [oA 60 0,oZ 61 f_query_reader_next [oT 60]] [0,2,3] [0,2,3,55] (.seq (oX [oA 62 0,oZ 63 f_query_strategyWords [],oZ 64 f_query_reader_word [oT 62,oT 63],oB 65 (.not (oT 64))] [0,2,3,65] [0,2,3,55] (.ite (oT 65) (.reg [oA 66 0,
 oZ 67 f_query_reader_wrong [oT 66]]) (.skip))) (.keep [0,2,3] [0,2,3,55] (.reg [oZ 68 f_query_strategyWords [],oA 69 0,oZ 70 f_query_reader_name [oT 69],oZ 71 f_slices_Index_string [oT 68,oT 70],oE 72 25 3,oF 1 72 71])))) (.skip))) (.keep [0,2,3] [0,2,3,55] (.seq (oX [oA 73 0,oG 74 73,oE 75 2 74,oE 76 0 75,oC 77 1 76,
 oB 78 (.eql true false [.int] (oT 77) (oN 0))] [0,2,3,78] [0,2,3,55] (.ite (oT 78) (.reg [oA 79 0,oZ 80 f_query_reader_wrong [oT 79]]) (.skip))) (.keep [2,3] [0,2,3,55] (oX [oD 81 26 3,oF 26 2 81] [2] [0,2,55] (.ret))))))))))))
def rs_query_reader_queryE : List CRes := [.cell 2 true 26]
def im_query_reader_queryE : List Nat := [1055055, 2032004]
theorem ok_query_reader_queryE : FnOk Tryz.prog f_query_reader_query im_query_reader_queryE cc_query_reader_queryE rs_query_reader_queryE 82 := fnOk1 mixed (by kernel_rfl)

end Go.Gv

namespace Go.Gv
open Cod (enc dec)
variable {S S0 : Nat → Spc} {f : Int × Int}
abbrev s_qstrats : Spc := spc a0 (fun _ => True) (enc (X := List B)) fun _ y => y = strategyL
theorem w_qstrats : Walk cc_query_strategyWords rs_query_strategyWords S a0 (fun _ => True) (enc (X := List B)) fun _ y => y = strategyL := by
 rintro x -
 simp [cc_query_strategyWords, rs_query_strategyWords]
 exact fin_of (Y := List B) strategyL (.same _) rfl
@[simp] abbrev F_equery (n : Nat) (s : Rdr) (_ : Unit) : Out (Rdr × Qry) := queryE n s
abbrev s_equery (f : Int × Int) (n : Nat) : Spc := reF a0 (enc (X := Qry)) f (F_equery n)
theorem w_e_query (n : Nat) (h1 : S f_query_reader_next = s_rnext) (h2 : S f_query_reader_alt = s_ealt f (altEN n)) (h3 : S f_query_reader_take = s_rtake) (h4 : S f_query_reader_sign = s_rsign) (h5 : S f_query_reader_word = s_rword) (h6 : S f_query_filterWords = s_qfilts)
 (h7 : S f_query_reader_gor = s_egor f (gnotEN n)) (h8 : S f_slices_Index_string = s_idx_string) (h9 : S f_query_reader_wrong = s_ewrong f) (h10 : S f_query_reader_name = s_ename f) (h11 : S f_query_strategyWords = s_qstrats) :
 WalkRE cc_query_reader_queryE rs_query_reader_queryE S a0 (enc (X := Qry)) f (F_equery n) := by
 rintro b s ⟨⟩ hf
 have hf : (queryE n s).fine f := hf
 have e := queryE.eq_1 n s
 simp only [takeE, nextE] at e
 simp [cc_query_reader_queryE, rs_query_reader_queryE, h1, h2, -Bool.forall_bool, -Bool.exists_bool]
 intro b2
 refine optB hf e fun q1 e => ?_
 refine outB hf e fun p e => ?_
 intro b3
 refine vc_midG (X := Rdr × Glob) [0, 2] [2] [] [] (fun z => queryE n s = (filtLoopE 500 z.1 []).bind fun f => (stratE f.1).bind fun z' => if z'.1.kind = 0 then .ok (z'.1, ⟨p.2, z.2, f.2, z'.2⟩) else .err (z'.1.pos, 3)) (fun _ => [(3, .bptr 3 b3 0)]) (fun z => [(0, .box b (ceRdr z.1)), (3, .box b3 [.v (.int .i64 p.2.op), .v (.int .i64 p.2.cond.op), .v (.string p.2.cond.name), .v (.string p.2.cond.arg), .v (.string p.2.cond.val), .v (.string p.2.cond.lab), .v (.bool p.2.cond.fold), enc p.2.cond.kids, .v (.string p.2.lab), .v (.string p.2.reg), .v (.int .i64 p.2.mn), .v (.int .i64 p.2.mx), enc p.2.kids, .v (.int .i64 z.2.op), .v (.string z.2.a), .v (.string z.2.b), .v (.string z.2.name), .v (.string z.2.arg), .v (.string z.2.val), .v (.bool z.2.fold), .v (.int .i64 z.2.mn), .v (.int .i64 z.2.mx), enc z.2.args, enc z.2.kids, .v (.slice none 0 0), .v (.int .i64 0)])]) [0, 3] (fun _ => rfl) (by decide) ?_ ?_
 ·simp [h3, h7, -Bool.forall_bool, -Bool.exists_bool]
  refine optB hf e fun w e => ⟨fun hc => ?_, fun hc => ?_⟩
  ·rw [if_pos hc] at e
   refine outB hf e fun g e => ?_
   exact ⟨_, _, e, .inl ⟨rfl, rfl, rfl, rfl, rfl⟩, .inl (.inl ⟨rfl, rfl, rfl, rfl, rfl, rfl, rfl, rfl, rfl, rfl, rfl⟩)⟩
  ·rw [if_neg (by simp [hc]), Out.bind_ok] at e
   exact ⟨_, GlobE, e, .inl ⟨rfl, rfl, rfl, rfl, rfl⟩, .inl ⟨rfl, rfl, rfl, rfl, rfl, rfl, rfl, rfl, rfl, rfl, rfl⟩⟩
 clear e
 rintro ⟨s1, g⟩ e
 simp only at e
 refine vc_midG (X := Rdr × List Filt) [0, 2] [2] [55] [] (fun z => queryE n s = (stratE z.1).bind fun z' => if z'.1.kind = 0 then .ok (z'.1, ⟨p.2, g, z.2, z'.2⟩) else .err (z'.1.pos, 3)) (fun _ => [(3, .bptr 3 b3 0)]) (fun z => [(0, .box b (ceRdr z.1)), (3, .box b3 [.v (.int .i64 p.2.op), .v (.int .i64 p.2.cond.op), .v (.string p.2.cond.name), .v (.string p.2.cond.arg), .v (.string p.2.cond.val), .v (.string p.2.cond.lab), .v (.bool p.2.cond.fold), enc p.2.cond.kids, .v (.string p.2.lab), .v (.string p.2.reg), .v (.int .i64 p.2.mn), .v (.int .i64 p.2.mx), enc p.2.kids, .v (.int .i64 g.op), .v (.string g.a), .v (.string g.b), .v (.string g.name), .v (.string g.arg), .v (.string g.val), .v (.bool g.fold), .v (.int .i64 g.mn), .v (.int .i64 g.mx), enc g.args, enc g.kids, enc z.2, .v (.int .i64 0)])]) [0, 3] (fun _ => rfl) (by decide) ?_ ?_
 ·simp
  refine vc_whileG (X := Nat × Rdr × Value × List Filt) [0, 2, 3] [2] [] [] [] [] (fun z => (queryE n s = (filtLoopE z.1 z.2.1 z.2.2.2).bind fun f => (stratE f.1).bind fun z' => if z'.1.kind = 0 then .ok (z'.1, ⟨p.2, g, f.2, z'.2⟩) else .err (z'.1.pos, 3)) ∧ z.2.2.2.length + z.1 ≤ 500) (fun _ => []) (fun z => [(0, .box b (ceRdr z.2.1)), (3, .box b3 [.v (.int .i64 p.2.op), .v (.int .i64 p.2.cond.op), .v (.string p.2.cond.name), .v (.string p.2.cond.arg), .v (.string p.2.cond.val), .v (.string p.2.cond.lab), .v (.bool p.2.cond.fold), enc p.2.cond.kids, .v (.string p.2.lab), .v (.string p.2.reg), .v (.int .i64 p.2.mn), .v (.int .i64 p.2.mx), enc p.2.kids, .v (.int .i64 g.op), .v (.string g.a), .v (.string g.b), .v (.string g.name), .v (.string g.arg), .v (.string g.val), .v (.bool g.fold), .v (.int .i64 g.mn), .v (.int .i64 g.mx), enc g.args, enc g.kids, .own 55 z.2.2.1, .v (.int .i64 0)]), (55, .row z.2.2.1 ty_Filter 3 (z.2.2.2.map enc))]) (fun z => z.1) (500, s1, .slice none 0 0, []) [0, 3, 55] (fun _ => rfl) (by decide) (by decide) ⟨e, by simp⟩ ?_ ?_ ?_
  ·simp
  ·simp [isNilRow]
   exact .nilown 55
  clear e
  rintro ⟨k, s2, v, fs⟩ ⟨e, hlen⟩
  simp only at e hlen
  obtain _ | k := k
  ·rw [e, filtLoopE] at hf; exact hf.elim
  rw [filtLoopE] at e
  simp [h1, h3, h4, h5, h6, h8, h9, h10, -Bool.forall_bool, -Bool.exists_bool]
  refine ⟨fun g1 => ⟨fun g2 => ?_, fun g2 => ?_⟩, fun g1 => ?_⟩
  ·rw [if_pos (by simp [g2])] at e
   simp only [filtE, takeE, nextE, Out.bind_bind] at e
   refine optB hf e fun w e => ?_
   intro b4
   refine ⟨fun k2 => ⟨fun i1 => ?_, fun i1 => ?_⟩, fun k2 => ?_⟩
   ·rw [if_pos (.inr i1)] at e
    rw [e] at hf; exact hf
   ·rw [if_neg (by simp only [idxL]; omega)] at e
    simp only [Out.bind_bind, Out.map_bind] at e
    refine optB hf e fun x e => ?_
    refine outB hf e fun r e => ?_
    exact ⟨by omega, by omega, fun v' => ⟨k, r.1, v', fs ++ [⟨idxL filterL w.1.text, w.2, r.2⟩], ⟨e, by simp; omega⟩, ⟨.inl ⟨rfl, rfl, rfl, rfl, rfl⟩, .inl (.inl rfl), .inl (.inl (by simp [idxL]))⟩, by omega⟩⟩
   ·rw [if_pos (.inl k2)] at e
    rw [e] at hf; exact hf
  ·rw [if_neg (by simp [g1, g2]), Out.bind_ok] at e
   exact ⟨s2, fs, e, .inl ⟨rfl, rfl, rfl, rfl, rfl⟩, .inl (fz_o ty_Filter (by simp [gvH]))⟩
  ·rw [if_pos (by simp [g1])] at e
   simp only [filtE, takeE, nextE, Out.bind_bind] at e
   refine optB hf e fun w e => ?_
   intro b4
   refine ⟨fun k2 => ⟨fun i1 => ?_, fun i1 => ?_⟩, fun k2 => ?_⟩
   ·rw [if_pos (.inr i1)] at e
    rw [e] at hf; exact hf
   ·rw [if_neg (by simp only [idxL]; omega)] at e
    simp only [Out.bind_bind, Out.map_bind] at e
    refine optB hf e fun x e => ?_
    refine outB hf e fun r e => ?_
    exact ⟨by omega, by omega, fun v' => ⟨k, r.1, v', fs ++ [⟨idxL filterL w.1.text, w.2, r.2⟩], ⟨e, by simp; omega⟩, ⟨.inl ⟨rfl, rfl, rfl, rfl, rfl⟩, .inl (.inl rfl), .inl (.inl (by simp [idxL]))⟩, by omega⟩⟩
   ·rw [if_pos (.inl k2)] at e
    rw [e] at hf; exact hf
 clear e
 rintro ⟨s2, fs⟩ e
 simp only at e
 simp [h1, h5, h8, h9, h10, h11, -Bool.forall_bool, -Bool.exists_bool]
 simp only [stratE, nextE] at e
 have fin : ∀ (s' : Rdr) (st : Int) (b4 : Nat) (H : HMap), H 0 = some (.box b (ceRdr s')) → queryE n s = (if s'.kind = 0 then .ok (s', ⟨p.2, g, fs, st⟩) else .err (s'.pos, 3)) → (¬ s'.kind = 0 → (s'.pos, 3) = f) ∧ (s'.kind = 0 → queryE n s = .ok (s', ⟨p.2, g, fs, st⟩)) := by
  intro s' st _ H _ e
  refine ⟨fun h => ?_, fun h => ?_⟩
  ·rw [if_neg h] at e
   rw [e] at hf; exact hf
  ·rw [if_pos h] at e; exact e
 refine ⟨fun g1 => ?_, fun g1 => ?_⟩
 ·rw [if_pos (show wordR s2 [strategyW] = true from g1), Out.bind_bind] at e
  refine optB hf e fun x e => ⟨fun g2 => ?_, fun g2 => ?_⟩
  ·rw [if_neg (by simp [g2])] at e
   rw [e] at hf; exact hf
  ·rw [if_pos g2, Out.map_bind] at e
   refine outB hf e fun q e => ?_
   have hx := fin q.1 _ 0 (updH noH 0 (some (.box b (ceRdr q.1)))) (by simp) e
   exact ⟨hx.1, fun h0 => finRD q.1 (⟨p.2, g, fs, idxL strategyL q.2⟩ : Qry) (by rw [enc_Qry]; exact frz_agg' (by simp [idxL])) (by simp) (hx.2 h0)⟩
 ·rw [if_neg (by rw [show wordR s2 [strategyW] = false from g1]; simp), Out.bind_ok] at e
  have hx := fin s2 0 0 (updH noH 0 (some (.box b (ceRdr s2)))) (by simp) e
  exact ⟨hx.1, fun h0 => finRD s2 (⟨p.2, g, fs, 0⟩ : Qry) (by rw [enc_Qry]; exact frz_agg' (by simp)) (by simp) (hx.2 h0)⟩
end Go.Gv
