/- A part of the framework and of the walks: W99 W100 W101 Asm7 Fr Fr2 Fr3. -/
import Derived.WalkKit
import Derived.ProofKit
import Derived.OpenShut
import Derived.ShutString
import Derived.ChangeOld
import Derived.Below
import Derived.Test.YtaiffcbkmgfklaaGreatDoorGw25
import Derived.Test.YtaiffcbkmgfklaaGreatDoorGw28
import Derived.Test.YtaiffcbkmgfklaaGreatDoorGw22
import Derived.Test.YtaiffcbkmgfklaaGreatDoorGw23
import Derived.Test.YtaiffcbkmgfklaaGreatDoorGw17
import Derived.Test.YtaiffcbkmgfklaaGreatDoorGw20
import Derived.Test.YtaiffcbkmgfklaaGreatDoorGw19
import Derived.Test.YtaiffcbkmgfklaaGreatDoorGw12
import Derived.Test.YtaiffcbkmgfklaaGreatDoorGw11
set_option linter.unusedSimpArgs false
set_option linter.unusedVariables false
set_option maxRecDepth 100000

namespace Go.Gv
open Cod (enc dec)
variable {S S0 : Nat → Spc}
@[simp] abbrev F_gword (s : Pst) (z : List B × Int) : Option (Pst × Int) := if 0 ≤ z.2 then (wordG s (z.1.drop z.2.toNat) z.2).map fun k => (s, k) else none
abbrev s_gword : Spc := psF (a2 (List B) Int) (enc (X := Int)) F_gword
theorem w_g_word (h1 : S f_r23_parser_is = s_is) : WalkPF cc_r23_parser_word rs_r23_parser_word S (a2 (List B) Int) (enc (X := Int)) F_gword := by
 rintro b s ⟨l, i⟩ ⟨r, hr⟩
 simp only [F_gword] at hr
 split at hr
 ·rename_i hi0
  have hi0 : 0 ≤ i := hi0
  obtain ⟨v, hv, rfl⟩ := Option.map_eq_some_iff.1 hr
  simp [cc_r23_parser_word, rs_r23_parser_word]
  refine vc_while (X := Int) [0, 1] [0] (fun j => 0 ≤ j ∧ wordG s (l.drop j.toNat) j = some v) (fun j => [(7, enc j)]) (fun _ => []) (fun j => (l.length - j).toNat) i ⟨hi0, hv⟩ (by simp) (by simp) ?_
  rintro j ⟨hj, hw⟩
  have fn : ∀ (k : Int) (H : HMap), k = v → H 0 = some (.box b (cePst s)) → FinPS enc b (fun s' y => 0 ≤ i ∧ wordG s (List.drop i.toNat l) i = some y ∧ s = s') (.v (.int .i64 k)) H := fun k H e h => finI s h ⟨hi0, by rw [hv, e], rfl⟩
  by_cases hl : j.toNat < l.length
  ·obtain ⟨a, ha⟩ := at_lt hl
   obtain ⟨_, hga⟩ := List.getElem?_eq_some_iff.1 ha
   rw [drop_cons_of ha, wordG] at hw
   obtain ⟨w, hb, hw⟩ := Option.bind_eq_some_iff.1 hw
   cases w with
   | true =>
     have hjv : j = v := Option.some.inj hw
     simp [h1, ha, hga, hb]
     refine fun _ => ⟨fun _ => ⟨hj, by omega, fn j _ hjv (by simp)⟩, fun h => by omega⟩
   | false =>
     simp only [Bool.false_eq_true, if_false] at hw
     simp [h1, ha, hga, hb]
     refine fun _ => ⟨fun _ => ⟨hj, by omega, by simp only [InR]; omega, j + 1, ⟨by omega, ?_⟩, rfl, by omega⟩, fun h => by omega⟩
     rw [show (j + 1).toNat = j.toNat + 1 by omega]
     exact hw
  ·rw [List.drop_of_length_le (by omega), wordG] at hw
   have hjv : -1 = v := Option.some.inj hw
   simp [h1]
   exact fun _ => ⟨fun h => by omega, fun _ => fn _ _ hjv (by simp)⟩
 ·cases hr
theorem w_g_filters : Walk cc_r23_filters rs_r23_filters S a0 (fun _ => True) (enc (X := List B)) fun _ y => y = filterL := by
 rintro x -
 simp [cc_r23_filters, rs_r23_filters]
 exact fin_of (Y := List B) filterL (.same _) rfl
theorem w_g_strategies : Walk cc_r23_strategies rs_r23_strategies S a0 (fun _ => True) (enc (X := List B)) fun _ y => y = strategyL := by
 rintro x -
 simp [cc_r23_strategies, rs_r23_strategies]
 exact fin_of (Y := List B) strategyL (.same _) rfl
theorem pBo {α β : Type} {F0 : Option β} {K : α → Prop} {o : Option α} {k : α → Option β} (hf : ∃ r, F0 = some r) (e : F0 = o.bind k) (h : ∀ x, o = some x → F0 = k x → K x) : optX o K := by
 cases o with
 | some x => exact h x rfl e
 | none => exact pNo hf e
theorem wordG_rng {s : Pst} : ∀ {l : List B} {i k : Int}, wordG s l i = some k → k ≠ -1 → InR .i64 (s.pos + 1)
 | [], i, k, h, hk => by cases h; exact absurd rfl hk
 | w :: l, i, k, h, hk => by
   rw [wordG] at h
   obtain ⟨b, hb, h⟩ := Option.bind_eq_some_iff.1 h
   cases b with
   | true => exact isF_rng hb
   | false => exact wordG_rng (by simpa using h) hk
abbrev s_gParse : Spc := spc (a1 B) (fun _ => True) (er3 (Y := Qry) (Z := Int) (W := Int)) fun s y => parseG s = some y
theorem w_g_Parse (h1 : S f_r23_scan = s_gscan) (h2 : S f_r23_parser_alt = s_galt (altN 500)) (h3 : S f_r23_parser_eat = s_eat) (h4 : S f_r23_parser_gor = s_hor (gnotN 500)) (h5 : S f_r23_filters = s_qfilts) (h6 : S f_r23_parser_word = s_gword) (h7 : S f_r23_parser_is = s_is)
 (h8 : S f_r23_parser_now = s_now) (h9 : S f_r23_parser_want = s_gwant) (h10 : S f_r23_parser_wrong = s_wrong23) (h11 : S f_r23_strategies = s_qstrats) :
 Walk cc_r23_ParseE rs_r23_ParseE S (a1 B) (fun _ => True) (er3 (Y := Qry) (Z := Int) (W := Int)) fun s y => parseG s = some y := by
 rintro s -
 obtain ⟨y0, hy0, _⟩ := parse_same s
 have hp := hy0
 unfold parseG at hp
 by_cases hsz : 400 < s.size
 ·rw [if_pos hsz] at hp
  cases hp
  have hsz' : (400 : Int) < s.size := by omega
  simp [cc_r23_ParseE, rs_r23_ParseE, hsz']
  intro b2 _
  exact ⟨qryZ, frz_agg' (by simp [qryZ, Cond0, E0]), hy0⟩
 rw [if_neg hsz] at hp
 obtain ⟨l, hl, hp⟩ := Option.bind_eq_some_iff.1 hp
 obtain ⟨⟨sF, qF⟩, hq, hp⟩ := Option.map_eq_some_iff.1 hp
 have hf : ∃ r, queryG l = some r := ⟨_, hq⟩
 have e := queryG.eq_1 l
 have hsz' : ¬ (400 : Int) < s.size := by omega
 have hs5 : s.size ≤ 100000 := by omega
 simp [cc_r23_ParseE, rs_r23_ParseE, h1, h2, hsz', hs5, hl, -Bool.forall_bool, -Bool.exists_bool]
 intro b2 _ b16
 refine pB hf e fun p e => ?_
 intro b6
 have last : ∀ (z : Pst) (q : Qry), queryG l = some (z, q) → parseG s = some (if z.e ≠ 0 then (qryZ, z.fail, z.e) else (q, 0, 0)) := fun z q h => by
  unfold parseG
  rw [if_neg hsz, hl]
  show (queryG l).map _ = _
  rw [h]
  rfl
 refine vc_midG (X := Pst × Glob) [2, 5] [2] [] [] (fun z => queryG l = (filtLoopG 500 z.1 []).bind fun f => (stratG f.1).bind fun y => (kindG y.1 101).bind fun b => if b ∨ y.1.e ≠ 0 then some (y.1, (⟨p.2, z.2, f.2, y.2⟩ : Qry)) else (wrongG y.1).map fun w => (w, ⟨p.2, z.2, f.2, y.2⟩)) (fun _ => [(6, .bptr 6 b6 0)]) (fun z => [(16, .box b16 (cePst z.1)), (6, .box b6 [.v (.int .i64 p.2.op), .v (.int .i64 p.2.cond.op), .v (.string p.2.cond.name), .v (.string p.2.cond.arg), .v (.string p.2.cond.val), .v (.string p.2.cond.lab), .v (.bool p.2.cond.fold), enc p.2.cond.kids, .v (.string p.2.lab), .v (.string p.2.reg), .v (.int .i64 p.2.mn), .v (.int .i64 p.2.mx), enc p.2.kids, .v (.int .i64 z.2.op), .v (.string z.2.a), .v (.string z.2.b), .v (.string z.2.name), .v (.string z.2.arg), .v (.string z.2.val), .v (.bool z.2.fold), .v (.int .i64 z.2.mn), .v (.int .i64 z.2.mx), enc z.2.args, enc z.2.kids, .v (.slice none 0 0), .v (.int .i64 0)])]) [16, 6] (fun _ => rfl) (by decide) ?_ ?_
 ·simp [h3, h4, -Bool.forall_bool, -Bool.exists_bool]
  refine pB hf e fun w e => ⟨fun hc => ?_, fun hc => ?_⟩
  ·rw [if_pos hc] at e
   refine pB hf e fun g e => ?_
   refine ⟨_, _, e, ?_⟩
   simp
  ·rw [if_neg (by simp [hc]), Option.bind_some] at e
   refine ⟨_, _, e, ?_⟩
   simp [E0]
 clear e
 rintro ⟨s1, g⟩ e
 simp only at e
 refine vc_midG (X := Pst × List Filt) [2, 5] [2] [55] [] (fun z => queryG l = (stratG z.1).bind fun y => (kindG y.1 101).bind fun b => if b ∨ y.1.e ≠ 0 then some (y.1, (⟨p.2, g, z.2, y.2⟩ : Qry)) else (wrongG y.1).map fun w => (w, ⟨p.2, g, z.2, y.2⟩)) (fun _ => [(6, .bptr 6 b6 0)]) (fun z => [(16, .box b16 (cePst z.1)), (6, .box b6 [.v (.int .i64 p.2.op), .v (.int .i64 p.2.cond.op), .v (.string p.2.cond.name), .v (.string p.2.cond.arg), .v (.string p.2.cond.val), .v (.string p.2.cond.lab), .v (.bool p.2.cond.fold), enc p.2.cond.kids, .v (.string p.2.lab), .v (.string p.2.reg), .v (.int .i64 p.2.mn), .v (.int .i64 p.2.mx), enc p.2.kids, .v (.int .i64 g.op), .v (.string g.a), .v (.string g.b), .v (.string g.name), .v (.string g.arg), .v (.string g.val), .v (.bool g.fold), .v (.int .i64 g.mn), .v (.int .i64 g.mx), enc g.args, enc g.kids, enc z.2, .v (.int .i64 0)])]) [16, 6] (fun _ => rfl) (by decide) ?_ ?_
 ·simp
  refine vc_whileG (X := Nat × Pst × Value × List Filt) [2, 5, 6] [2] [] [] [] [] (fun z => (queryG l = (filtLoopG z.1 z.2.1 z.2.2.2).bind fun f => (stratG f.1).bind fun y => (kindG y.1 101).bind fun b => if b ∨ y.1.e ≠ 0 then some (y.1, (⟨p.2, g, f.2, y.2⟩ : Qry)) else (wrongG y.1).map fun w => (w, ⟨p.2, g, f.2, y.2⟩)) ∧ z.2.2.2.length + z.1 ≤ 500) (fun _ => []) (fun z => [(16, .box b16 (cePst z.2.1)), (6, .box b6 [.v (.int .i64 p.2.op), .v (.int .i64 p.2.cond.op), .v (.string p.2.cond.name), .v (.string p.2.cond.arg), .v (.string p.2.cond.val), .v (.string p.2.cond.lab), .v (.bool p.2.cond.fold), enc p.2.cond.kids, .v (.string p.2.lab), .v (.string p.2.reg), .v (.int .i64 p.2.mn), .v (.int .i64 p.2.mx), enc p.2.kids, .v (.int .i64 g.op), .v (.string g.a), .v (.string g.b), .v (.string g.name), .v (.string g.arg), .v (.string g.val), .v (.bool g.fold), .v (.int .i64 g.mn), .v (.int .i64 g.mx), enc g.args, enc g.kids, .own 55 z.2.2.1, .v (.int .i64 0)]), (55, .row z.2.2.1 ty_Filter 3 (z.2.2.2.map enc))]) (fun z => z.1) (500, s1, .slice none 0 0, []) [16, 6, 55] (fun _ => rfl) (by decide) (by decide) ⟨e, by simp⟩ ?_ ?_ ?_
  ·simp
  ·simp [isNilRow]
   exact .nilown 55
  clear e
  rintro ⟨k, s2, v, fs⟩ ⟨e, hlen⟩
  simp only at e hlen
  obtain _ | k := k
  ·exact pNo hf (by rw [e, filtLoopG]; rfl)
  rw [filtLoopG] at e
  simp [h3, h5, h6, h9, h10, -Bool.forall_bool, -Bool.exists_bool]
  refine ⟨fun he => ?_, fun he => ?_⟩
  ·rw [if_neg (by simp [he]), obind_bind] at e
   refine pB hf e fun w e => ?_
   rw [obind_bind] at e
   refine pBo hf e fun op hop e => ⟨fun ho => ?_, fun ho => ?_⟩
   ·rw [if_pos ho] at e
    refine ⟨fun hw => ?_, fun hw => ?_⟩
    ·rw [if_pos hw, omap_bind] at e
     exact pB hf e fun z e => ⟨z, fs, e, .inl (.inl ⟨rfl, rfl, rfl, rfl, rfl⟩), .inl (fz_o ty_Filter (by simp [gvH]))⟩
    ·rw [if_neg (by simp [hw]), Option.bind_some] at e
     exact ⟨w.1, fs, e, .inl (.inl ⟨rfl, rfl, rfl, rfl, rfl⟩), .inl (fz_o ty_Filter (by simp [gvH]))⟩
   ·rw [if_neg ho, obind_bind] at e
    refine ⟨wordG_rng hop ho, ?_⟩
    refine pB hf e fun r e => ?_
    exact ⟨by omega, by omega, fun v' => ⟨k, r.1, v', fs ++ [⟨op, w.2, r.2⟩], ⟨e, by simp; omega⟩, ⟨.inl (.inl ⟨rfl, rfl, rfl, rfl, rfl⟩), .inl (.inl rfl), .inl (.inl (by simp))⟩, by omega⟩⟩
  ·rw [if_pos he, Option.bind_some] at e
   exact ⟨s2, fs, e, .inl (.inl ⟨rfl, rfl, rfl, rfl, rfl⟩), .inl (fz_o ty_Filter (by simp [gvH]))⟩
 clear e
 rintro ⟨s2, fs⟩ e
 simp only at e
 refine vc_mid (X := Pst × Int) [2, 5, 6] [2] (fun z => queryG l = (kindG z.1 101).bind fun b => if b ∨ z.1.e ≠ 0 then some (z.1, (⟨p.2, g, fs, z.2⟩ : Qry)) else (wrongG z.1).map fun w => (w, ⟨p.2, g, fs, z.2⟩)) (fun _ => []) (fun z => [(16, .box b16 (cePst z.1)), (6, .box b6 [.v (.int .i64 p.2.op), .v (.int .i64 p.2.cond.op), .v (.string p.2.cond.name), .v (.string p.2.cond.arg), .v (.string p.2.cond.val), .v (.string p.2.cond.lab), .v (.bool p.2.cond.fold), enc p.2.cond.kids, .v (.string p.2.lab), .v (.string p.2.reg), .v (.int .i64 p.2.mn), .v (.int .i64 p.2.mx), enc p.2.kids, .v (.int .i64 g.op), .v (.string g.a), .v (.string g.b), .v (.string g.name), .v (.string g.arg), .v (.string g.val), .v (.bool g.fold), .v (.int .i64 g.mn), .v (.int .i64 g.mx), enc g.args, enc g.kids, enc fs, .v (.int .i64 z.2)])]) ?_ ?_
 ·simp only [stratG, obind_bind] at e
  simp [h6, h7, h10, h11, -Bool.forall_bool, -Bool.exists_bool]
  refine pIs hf e (fun hr e => ?_) (fun e => ?_)
  ·rw [if_pos rfl, obind_bind] at e
   refine ⟨fun _ => ⟨hr, ?_⟩, fun h => by cases h⟩
   refine pBo hf e fun k hk e => ⟨fun hk1 => ?_, fun hk1 => ?_⟩
   ·rw [if_pos hk1, omap_bind] at e
    subst hk1
    refine pB hf e fun z e => ⟨z, -1, e, ?_⟩
    simp
   ·rw [if_neg hk1, Option.bind_some] at e
    refine ⟨wordG_rng hk hk1, _, _, e, ?_⟩
    simp [Pst.step]
  ·rw [if_neg (by simp), Option.bind_some] at e
   refine ⟨fun h => (by cases h), fun _ => ⟨s2, 0, e, ?_⟩⟩
   simp
 clear e
 rintro ⟨s3, st⟩ e
 simp only at e
 refine vc_mid (X := Pst) [2, 5, 6] [2, 6] (fun z => queryG l = some (z, (⟨p.2, g, fs, st⟩ : Qry))) (fun _ => []) (fun z => [(16, .box b16 (cePst z))]) ?_ ?_
 ·simp only [kindG] at e
  simp [h8, h10, -Bool.forall_bool, -Bool.exists_bool]
  refine ⟨fun he => ?_, fun he => ?_⟩
  ·rw [if_neg (by simp [he]), omap_bind] at e
   refine pB hf e fun x e => ⟨fun hk => ?_, fun hk => ?_⟩
   ·rw [if_neg (by simp [hk, he])] at e
    refine pM hf e fun z e => ⟨z, e, ?_⟩
    simp
   ·rw [if_pos (by simp [hk])] at e
    refine ⟨s3, e, ?_⟩
    simp
  ·rw [if_pos he, Option.bind_some, if_pos (.inr he)] at e
   refine ⟨s3, e, ?_⟩
   simp
 clear e
 rintro s4 e
 have hz := last _ _ e
 simp
 refine ⟨fun he => ⟨qryZ, frz_agg' (by simp [qryZ, Cond0, E0]), ?_⟩, fun he => ⟨⟨p.2, g, fs, st⟩, frz_agg' (by simp), ?_⟩⟩
 ·rw [hz, if_pos he]
 ·rw [hz, if_neg (by simp [he])]
end Go.Gv

namespace Go.Gv
open Cod (enc dec)
variable {S S0 : Nat → Spc}
mutual
def gDep : Glob → Nat | .mk _ _ _ _ _ _ _ _ _ _ ks => gDeps ks + 1
def gDeps : List Glob → Nat | [] => 0 | k :: ks => max (gDep k) (gDeps ks)
end
theorem gDeps_mem : ∀ {ks : List Glob} {k : Glob}, k ∈ ks → gDep k ≤ gDeps ks
 | x :: ks, k, h => by
   rw [gDeps]
   rcases List.mem_cons.1 h with rfl | h
   ·omega
   ·have := gDeps_mem h; omega
theorem gDep_kid {p k : Glob} (h : k ∈ p.kids) : gDep k < gDep p := by
 have := gDeps_mem h
 cases p
 rw [gDep]
 simp only at this
 omega
abbrev s_sameG (n : Nat) : Spc := spc (a2 Glob Glob) (fun x => gDep x.1 ≤ n ∧ x.1 = x.2) (enc (X := Bool)) fun _ y => y = true
abbrev s_sameGA : Spc := spc (a2 Glob Glob) (fun x => x.1 = x.2) (enc (X := Bool)) fun _ y => y = true
theorem w_r23_sameGlob (n : Nat) (h0 : S f_r22_Texts = s_texts) (h1 : S f_r23_sameGlob = s_sameG n) : Walk cc_r23_sameGlob rs_r23_sameGlob S (a2 Glob Glob) (fun x => gDep x.1 ≤ n + 1 ∧ x.1 = x.2) (enc (X := Bool)) fun _ y => y = true := by
 rintro ⟨a, b⟩ ⟨hn, e⟩
 have e : a = b := e
 subst e
 have hn : gDep a ≤ n + 1 := hn
 have hpre : ∀ k ∈ a.kids, gDep k ≤ n := fun k hk => by have := gDep_kid hk; omega
 simp [cc_r23_sameGlob, rs_r23_sameGlob, h0, -Bool.forall_bool]
 intro hlen
 refine vc_range (X := Unit) [2, 3] [] a.kids.length (fun k _ => True) (fun _ => []) (fun _ => []) () (by simp) (by simp) (by omega) (by simp) (by simp) (by simp) (by simp) (by simp) ?_ ?_
 ·rintro k - hk -
  obtain ⟨x, hx⟩ := at_lt hk
  have hx1 := mem_at hx
  obtain ⟨_, hgx⟩ := List.getElem?_eq_some_iff.1 hx
  simp [h1, hk, hx, hgx, hpre x hx1, -Bool.forall_bool]
 ·rintro - -
  simp
abbrev s_sameQ : Spc := spc (a2 Qry Qry) (fun x => x.1 = x.2) (enc (X := Bool)) fun _ y => y = true
theorem w_r23_Same (h0 : S f_r23_SamePattern = s_samePA) (h1 : S f_r23_sameGlob = s_sameGA) : Walk cc_r23_Same rs_r23_Same S (a2 Qry Qry) (fun x => x.1 = x.2) (enc (X := Bool)) fun _ y => y = true := by
 rintro ⟨a, b⟩ e
 have e : a = b := e
 subst e
 simp [cc_r23_Same, rs_r23_Same, h0, h1, -Bool.forall_bool]
 intro hlen
 refine vc_range (X := Unit) [2, 3] [] a.filts.length (fun k _ => True) (fun _ => []) (fun _ => []) () (by simp) (by simp) (by omega) (by simp) (by simp) (by simp) (by simp) (by simp) ?_ ?_
 ·rintro k - hk -
  obtain ⟨x, hx⟩ := at_lt hk
  obtain ⟨_, hgx⟩ := List.getElem?_eq_some_iff.1 hx
  simp [hk, hx, hgx, -Bool.forall_bool]
 ·rintro - -
  simp
/-! ### QueryParses -/
theorem parseE_eq (s : B) : parseE s = parseG s := by
 obtain ⟨r, h1, h2⟩ := parse_same s
 rw [h1]
 exact h2
def strOk : D → Bool
 | .v (.string w) => decide (w.size ≤ 19)
 | _ => false
theorem pick_str {l : List D} (h : l.all strOk = true) {k : Nat} {d : D} (hd : l[k]? = some d) : ∃ w : B, d = .v (.string w) ∧ w.size ≤ 19 := by
 have := List.all_eq_true.1 h d (mem_at hd)
 unfold strOk at this
 split at this
 ·rename_i w
  exact ⟨w, rfl, by simpa using this⟩
 ·cases this
abbrev s_lParses : Spc := spc (a2 B (List Int)) (fun _ => True) (enc (X := Bool)) fun _ y => y = true
theorem w_law23_QueryParses (h1 : S f_m_New = s_m_New) (h2 : S f_m_Tape_Next = s_m_Next) (h3 : S f_query_Parse = s_eParse) (h4 : S f_r23_Parse = s_gParse) (h5 : S f_r23_Same = s_sameQ) (h6 : S f_law23_known = s_known23) :
 Walk cc_law23_QueryParses rs_law23_QueryParses S (a2 B (List Int)) (fun _ => True) (enc (X := Bool)) fun _ y => y = true := by
 rintro ⟨s, l⟩ -
 simp [cc_law23_QueryParses, rs_law23_QueryParses, h1, h2, -Bool.forall_bool, -Bool.exists_bool]
 intro _ hs L n0 hn0 hn1
 have hst : (((⟨#[]⟩ : B).size : Nat) : Int) + 20 * n0 ≤ 480 := by
  have : (⟨#[]⟩ : B).size = 0 := rfl
  omega
 refine vc_while (X := B × Int) [0, 5, 7] [] (fun z => (z.1.size : Int) + 20 * z.2 ≤ 480 ∧ 0 ≤ z.2) (fun z => [(6, enc z.1), (8, enc z.2)]) (fun _ => []) (fun z => z.2.toNat) (⟨#[]⟩, n0) ⟨hst, hn0⟩ (by simp) (by simp) ?_
 rintro ⟨t, n⟩ ⟨ht, hn⟩
 simp only at ht hn
 simp [h2, -Bool.forall_bool, -Bool.exists_bool]
 refine ⟨fun hp => ?_, fun hp => ?_⟩
 ·refine fun y y0 y1 => ⟨y0, y1, fun d hd => ?_⟩
  obtain ⟨w, rfl, hw⟩ := pick_str rfl hd
  simp [-Bool.forall_bool, -Bool.exists_bool]
  clear h1 h2 h3 h4 h5 h6
  have h32 : (⟨#[32]⟩ : B).size = 1 := rfl
  refine ⟨by omega, fun y0 _ _ => ⟨fun _ => ⟨by omega, by simp only [InR]; omega, _, _, ⟨?_, by omega⟩, ⟨rfl, rfl⟩, by omega⟩, fun _ => ⟨by simp only [InR]; omega, _, _, ⟨?_, by omega⟩, ⟨rfl, rfl⟩, by omega⟩⟩⟩
  ·rw [ByteArray.size_append, ByteArray.size_append]
   omega
  ·rw [ByteArray.size_append]
   omega
 ·have hn : n = 0 := by omega
  simp only [hn] at ht
  refine vc_range (X := Unit) [45] [] 2 (fun k _ => True) (fun _ => []) (fun _ => []) () (by simp) (by simp) (by decide) (by simp) (by simp) (by simp) (by simp) (by simp) ?_ ?_
  ·rintro k - hk -
   have two : ∀ x : B, ∃ q i e, parseE x = some (q, i, e) ∧ parseG x = some (q, i, e) := fun x => by
    obtain ⟨⟨q, i, e⟩, g1, g2⟩ := parse_same x
    exact ⟨q, i, e, by rw [parseE_eq, g1], g1⟩
   rcases k with _ | _ | k
   ·obtain ⟨q, i, e, hE, g1⟩ := two s
    simp [h3, h4, h5, hE, g1, -Bool.forall_bool, -Bool.exists_bool]
   ·obtain ⟨q, i, e, hE, g1⟩ := two t
    simp [h3, h4, h5, hE, g1, -Bool.forall_bool, -Bool.exists_bool]
   ·omega
  ·rintro - -
   simp [h6]
end Go.Gv

namespace Go.Gv
open Cod (enc dec)
variable {S S0 : Nat → Spc}
theorem known_readE : parseE knownQ = some (knownY, 0, 0) := by kernel_rfl
theorem w_law23_knownE (h1 : S f_query_Parse = s_eParse) (h2 : S f_query_Size = s_r23_Size) (h3 : S f_query_Format = s_Format 10) : Walk cc_law23_known rs_law23_known S a0 (fun _ => True) (enc (X := Bool)) fun _ y => y = true := by
 rintro ⟨⟩ -
 have e1 : (⟨#[60, 115, 62, 32, 91, 119, 111, 114, 100, 61, 34, 84, 104, 101, 34, 37, 99, 93]⟩ : B) = knownQ := rfl
 simp [cc_law23_known, rs_law23_known, h1, h2, h3, -Bool.forall_bool, -Bool.exists_bool]
 rw [e1, known_readE]
 refine ⟨⟨_, _, _, rfl⟩, fun a a1 b hq => ?_⟩
 simp only [Option.some.injEq, Prod.mk.injEq] at hq
 obtain ⟨rfl, rfl, rfl⟩ := hq
 refine ⟨fun _ => ⟨fun _ => ⟨fun _ _ => ⟨fun _ => ⟨by decide, fun p hp => ?_⟩, rfl⟩, rfl⟩, rfl⟩, rfl⟩
 have hp : some (⟨1, ⟨2, ⟨#[119, 111, 114, 100]⟩, E0, ⟨#[84, 104, 101]⟩, E0, true, []⟩, E0, E0, 0, 0, []⟩ : Pat) = some p := hp
 cases hp
 refine ⟨fun _ => ⟨fun _ => ⟨known_fmt, fun y hy => ?_⟩, ?_⟩, rfl⟩
 ·have hy : patT 10 knownP = some y := hy
  rw [known_text] at hy
  cases hy
  rfl
 ·show (if patB validN knownP = true then sizeP knownP else 0) = 2
  rw [if_pos known_pat, known_size]
end Go.Gv

namespace Go.Gv
open Go.Proofs Cod
theorem ps_void {P : Program} {f : Nat} {Y Z : Type} {A : Arg Z} {er : Y → D} {F : Pst → Z → Option (Pst × Y)} (hx : ∀ s z, F s z = none) : Tri P f (psF A er F).pt := tri_void fun d ds H K ⟨id, b, x, z, ds', h1, h2, h3, h4, h5, hp, h7⟩ => by
 obtain ⟨r, hr⟩ := hp
 rw [hx] at hr
 cases hr
theorem p_now : Tri Tryz.prog f_r23_parser_now (s_now).pt :=
 tri_walkPSF (S := tab []) (tab_ok tab_nil) ok_r23_parser_now (fun _ => Nat.le_of_ble_eq_true rfl) (w_now)
theorem p_next : Tri Tryz.prog f_r23_parser_next (s_next).pt :=
 tri_walkPSF (S := tab []) (tab_ok tab_nil) ok_r23_parser_next (fun _ => Nat.le_of_ble_eq_true rfl) (w_g_next)
theorem p_error : Tri Tryz.prog f_r23_parser_error (s_error).pt :=
 tri_walkPSF (S := tab []) (tab_ok tab_nil) ok_r23_parser_error (fun _ => Nat.le_of_ble_eq_true rfl) (w_g_error)
theorem p_wrong : Tri Tryz.prog f_r23_parser_wrong (s_wrong23).pt :=
 tri_walkPSF (S := tab [(f_r23_parser_now, s_now), (f_r23_parser_error, s_error)]) (tab_ok (tab_cons p_now (tab_cons p_error tab_nil))) ok_r23_parser_wrong (fun _ => Nat.le_of_ble_eq_true rfl) (w_g_wrong rfl rfl)
theorem p_is : Tri Tryz.prog f_r23_parser_is (s_is).pt :=
 tri_walkPSF (S := tab [(f_r23_parser_now, s_now)]) (tab_ok (tab_cons p_now tab_nil)) ok_r23_parser_is (fun _ => Nat.le_of_ble_eq_true rfl) (w_is rfl)
theorem p_eat : Tri Tryz.prog f_r23_parser_eat (s_eat).pt :=
 tri_walkPSF (S := tab [(f_r23_parser_is, s_is)]) (tab_ok (tab_cons p_is tab_nil)) ok_r23_parser_eat (fun _ => Nat.le_of_ble_eq_true rfl) (w_eat rfl)
theorem p_want : Tri Tryz.prog f_r23_parser_want (s_gwant).pt :=
 tri_walkPSF (S := tab [(f_r23_parser_now, s_now), (f_r23_parser_wrong, s_wrong23)]) (tab_ok (tab_cons p_now (tab_cons p_wrong tab_nil))) ok_r23_parser_want (fun _ => Nat.le_of_ble_eq_true rfl) (w_g_want rfl rfl)
theorem p_number : Tri Tryz.prog f_r23_parser_number (s_gnumber).pt :=
 tri_walkPSF (S := tab [(f_r23_parser_want, s_gwant), (f_r23_parser_error, s_error)]) (tab_ok (tab_cons p_want (tab_cons p_error tab_nil))) ok_r23_parser_number (fun _ => Nat.le_of_ble_eq_true rfl) (w_g_number rfl rfl)
theorem p_fold : Tri Tryz.prog f_r23_parser_fold (s_fold).pt :=
 tri_walkPSF (S := tab [(f_r23_parser_eat, s_eat)]) (tab_ok (tab_cons p_eat tab_nil)) ok_r23_parser_fold (fun _ => Nat.le_of_ble_eq_true rfl) (w_fold rfl)
theorem p_tail : Tri Tryz.prog f_r23_parser_tail (s_tail).pt :=
 tri_walkPSF (S := tab [(f_r23_parser_now, s_now)]) (tab_ok (tab_cons p_now tab_nil)) ok_r23_parser_tail (fun _ => Nat.le_of_ble_eq_true rfl) (w_g_tail rfl)
theorem p_begins : Tri Tryz.prog f_r23_parser_begins (s_gbegins).pt :=
 tri_walkPSF (S := tab [(f_r23_parser_now, s_now), (f_r23_parser_next, s_next), (f_r23_parser_tail, s_tail)]) (tab_ok (tab_cons p_now (tab_cons p_next (tab_cons p_tail tab_nil)))) ok_r23_parser_begins (fun _ => Nat.le_of_ble_eq_true rfl) (w_g_begins rfl rfl rfl)
theorem p_and {N : Pst → Option (Pst × Cond)} (h : Tri Tryz.prog f_r23_parser_not (s_gnot N).pt) : Tri Tryz.prog f_r23_parser_and (s_gand N).pt :=
 tri_walkPSF (S := tab [(f_r23_parser_eat, s_eat), (f_r23_parser_not, s_gnot N)]) (tab_ok (tab_cons p_eat (tab_cons h tab_nil))) ok_r23_parser_and (fun _ => Nat.le_of_ble_eq_true rfl) (w_g_and N rfl rfl)
theorem p_or {N : Pst → Option (Pst × Cond)} (h : Tri Tryz.prog f_r23_parser_not (s_gnot N).pt) : Tri Tryz.prog f_r23_parser_or (s_gor N).pt :=
 tri_walkPSF (S := tab [(f_r23_parser_eat, s_eat), (f_r23_parser_and, s_gand N)]) (tab_ok (tab_cons p_eat (tab_cons (p_and h) tab_nil))) ok_r23_parser_or (fun _ => Nat.le_of_ble_eq_true rfl) (w_g_or N rfl rfl)
theorem p_not : ∀ n, Tri Tryz.prog f_r23_parser_not (s_gnot (notN n)).pt
 | 0 => ps_void fun _ _ => rfl
 | n + 1 => tri_walkPSF (S := tab [(f_r23_parser_eat, s_eat), (f_r23_parser_not, s_gnot (notN n)), (f_r23_parser_or, s_gor (notN n)), (f_r23_parser_want, s_gwant), (f_r23_parser_fold, s_fold), (f_r23_parser_is, s_is), (f_r23_parser_now, s_now)]) (tab_ok (tab_cons p_eat (tab_cons (p_not n) (tab_cons (p_or (p_not n)) (tab_cons p_want (tab_cons p_fold (tab_cons p_is (tab_cons p_now tab_nil)))))))) ok_r23_parser_not (fun _ => Nat.le_of_ble_eq_true rfl) (w_g_not (notN n) rfl rfl rfl rfl rfl rfl rfl)
theorem p_alt : ∀ n, Tri Tryz.prog f_r23_parser_alt (s_galt (altN n)).pt
 | 0 => ps_void fun _ _ => rfl
 | n + 1 =>
   have h1 : Tri Tryz.prog f_r23_parser_item (s_gitem (altN n) (orG (notN (n + 1)))).pt := tri_walkPSF (S := tab [(f_r23_parser_eat, s_eat), (f_r23_parser_alt, s_galt (altN n)), (f_r23_parser_want, s_gwant), (f_r23_parser_now, s_now), (f_r23_parser_fold, s_fold), (f_r23_parser_or, s_gcond (orG (notN (n + 1))))]) (tab_ok (tab_cons p_eat (tab_cons (p_alt n) (tab_cons p_want (tab_cons p_now (tab_cons p_fold (tab_cons (p_or (p_not (n + 1))) tab_nil))))))) ok_r23_parser_item (fun _ => Nat.le_of_ble_eq_true rfl) (w_g_item _ _ rfl rfl rfl rfl rfl rfl)
   have h2 : Tri Tryz.prog f_r23_parser_rep (s_grep (altN n) (orG (notN (n + 1)))).pt := tri_walkPSF (S := tab [(f_r23_parser_now, s_now), (f_r23_parser_eat, s_eat), (f_r23_parser_want, s_gwant), (f_r23_parser_number, s_gnumber), (f_r23_parser_item, s_gitem (altN n) (orG (notN (n + 1)))), (f_r23_parser_error, s_error)]) (tab_ok (tab_cons p_now (tab_cons p_eat (tab_cons p_want (tab_cons p_number (tab_cons h1 (tab_cons p_error tab_nil))))))) ok_r23_parser_rep (fun _ => Nat.le_of_ble_eq_true rfl) (w_g_rep _ _ rfl rfl rfl rfl rfl rfl)
   have h3 : Tri Tryz.prog f_r23_parser_seq (s_gseq (altN n) (orG (notN (n + 1)))).pt := tri_walkPSF (S := tab [(f_r23_parser_begins, s_gbegins), (f_r23_parser_rep, s_grep (altN n) (orG (notN (n + 1))))]) (tab_ok (tab_cons p_begins (tab_cons h2 tab_nil))) ok_r23_parser_seq (fun _ => Nat.le_of_ble_eq_true rfl) (w_g_seq _ _ rfl rfl)
   tri_walkPSF (S := tab [(f_r23_parser_eat, s_eat), (f_r23_parser_seq, s_gseq (altN n) (orG (notN (n + 1))))]) (tab_ok (tab_cons p_eat (tab_cons h3 tab_nil))) ok_r23_parser_alt (fun _ => Nat.le_of_ble_eq_true rfl) (w_g_alt _ _ rfl rfl)
theorem p_functions : Tri Tryz.prog f_r23_Functions (s_gfunctions).pt :=
 tri_walk (S := tab []) (tab_ok tab_nil) ok_r23_Functions (fun _ => Nat.le_of_ble_eq_true rfl) (w_g_functions)
theorem p_signed : Tri Tryz.prog f_r23_parser_signed (s_gsigned).pt :=
 tri_walkPSF (S := tab [(f_r23_parser_eat, s_eat), (f_r23_parser_now, s_now), (f_r23_parser_number, s_gnumber)]) (tab_ok (tab_cons p_eat (tab_cons p_now (tab_cons p_number tab_nil)))) ok_r23_parser_signed (fun _ => Nat.le_of_ble_eq_true rfl) (w_g_signed rfl rfl rfl)
theorem p_call : Tri Tryz.prog f_r23_parser_call (s_gcall).pt :=
 tri_walkPSF (S := tab [(f_r23_parser_eat, s_eat), (f_r23_parser_want, s_gwant), (f_r23_parser_now, s_now), (f_r23_parser_number, s_gnumber), (f_r23_parser_signed, s_gsigned)]) (tab_ok (tab_cons p_eat (tab_cons p_want (tab_cons p_now (tab_cons p_number (tab_cons p_signed tab_nil)))))) ok_r23_parser_call (fun _ => Nat.le_of_ble_eq_true rfl) (w_g_call rfl rfl rfl rfl rfl)
theorem p_gand {N : Pst → Option (Pst × Glob)} (h : Tri Tryz.prog f_r23_parser_gnot (s_hnot N).pt) : Tri Tryz.prog f_r23_parser_gand (s_hand N).pt :=
 tri_walkPSF (S := tab [(f_r23_parser_eat, s_eat), (f_r23_parser_gnot, s_hnot N)]) (tab_ok (tab_cons p_eat (tab_cons h tab_nil))) ok_r23_parser_gand (fun _ => Nat.le_of_ble_eq_true rfl) (w_g_gand N rfl rfl)
theorem p_gor {N : Pst → Option (Pst × Glob)} (h : Tri Tryz.prog f_r23_parser_gnot (s_hnot N).pt) : Tri Tryz.prog f_r23_parser_gor (s_hor N).pt :=
 tri_walkPSF (S := tab [(f_r23_parser_eat, s_eat), (f_r23_parser_gand, s_hand N)]) (tab_ok (tab_cons p_eat (tab_cons (p_gand h) tab_nil))) ok_r23_parser_gor (fun _ => Nat.le_of_ble_eq_true rfl) (w_g_gor N rfl rfl)
theorem p_gnot : ∀ n, Tri Tryz.prog f_r23_parser_gnot (s_hnot (gnotN n)).pt
 | 0 => ps_void fun _ _ => rfl
 | n + 1 => tri_walkPSF (S := tab [(f_r23_parser_eat, s_eat), (f_r23_parser_gnot, s_hnot (gnotN n)), (f_r23_parser_gor, s_hor (gnotN n)), (f_r23_parser_want, s_gwant), (f_r23_Functions, s_gfunctions), (f_r23_parser_call, s_gcall), (f_r23_parser_now, s_now), (f_r23_parser_fold, s_fold)]) (tab_ok (tab_cons p_eat (tab_cons (p_gnot n) (tab_cons (p_gor (p_gnot n)) (tab_cons p_want (tab_cons p_functions (tab_cons p_call (tab_cons p_now (tab_cons p_fold tab_nil))))))))) ok_r23_parser_gnot (fun _ => Nat.le_of_ble_eq_true rfl) (w_g_gnot (gnotN n) rfl rfl rfl rfl rfl rfl rfl rfl)
theorem p_isLetter : Tri Tryz.prog f_r23_isLetter (s_begins).pt :=
 tri_walk (S := tab []) (tab_ok tab_nil) ok_r23_isLetter (fun _ => Nat.le_of_ble_eq_true rfl) (w_isLetter)
theorem p_isDigit : Tri Tryz.prog f_r23_isDigit (s_isDigit).pt :=
 tri_walk (S := tab []) (tab_ok tab_nil) ok_r23_isDigit (fun _ => Nat.le_of_ble_eq_true rfl) (w_isDigit)
theorem p_signs : Tri Tryz.prog f_r23_signs (s_signs).pt :=
 tri_walk (S := tab []) (tab_ok tab_nil) ok_r23_signs (fun _ => Nat.le_of_ble_eq_true rfl) (w_signs)
theorem p_scan : Tri Tryz.prog f_r23_scan (s_gscan).pt :=
 tri_walk (S := tab [(f_r23_isLetter, s_begins), (f_r23_isDigit, s_isDigit), (f_r23_signs, s_signs)]) (tab_ok (tab_cons p_isLetter (tab_cons p_isDigit (tab_cons p_signs tab_nil)))) ok_r23_scan (fun _ => Nat.le_of_ble_eq_true rfl) (w_g_scan rfl rfl rfl)
theorem p_word : Tri Tryz.prog f_r23_parser_word (s_gword).pt :=
 tri_walkPSF (S := tab [(f_r23_parser_is, s_is)]) (tab_ok (tab_cons p_is tab_nil)) ok_r23_parser_word (fun _ => Nat.le_of_ble_eq_true rfl) (w_g_word rfl)
theorem p_filters : Tri Tryz.prog f_r23_filters (s_qfilts).pt :=
 tri_walk (S := tab []) (tab_ok tab_nil) ok_r23_filters (fun _ => Nat.le_of_ble_eq_true rfl) (w_g_filters)
theorem p_strategies : Tri Tryz.prog f_r23_strategies (s_qstrats).pt :=
 tri_walk (S := tab []) (tab_ok tab_nil) ok_r23_strategies (fun _ => Nat.le_of_ble_eq_true rfl) (w_g_strategies)
theorem p_Parse : Tri Tryz.prog f_r23_Parse (s_gParse).pt :=
 tri_walk (S := tab [(f_r23_scan, s_gscan), (f_r23_parser_alt, s_galt (altN 500)), (f_r23_parser_eat, s_eat), (f_r23_parser_gor, s_hor (gnotN 500)), (f_r23_filters, s_qfilts), (f_r23_parser_word, s_gword), (f_r23_parser_is, s_is), (f_r23_parser_now, s_now), (f_r23_parser_want, s_gwant), (f_r23_parser_wrong, s_wrong23), (f_r23_strategies, s_qstrats)]) (tab_ok (tab_cons p_scan (tab_cons (p_alt 500) (tab_cons p_eat (tab_cons (p_gor (p_gnot 500)) (tab_cons p_filters (tab_cons p_word (tab_cons p_is (tab_cons p_now (tab_cons p_want (tab_cons p_wrong (tab_cons p_strategies tab_nil)))))))))))) ok_r23_ParseE (fun _ => Nat.le_of_ble_eq_true rfl) (w_g_Parse rfl rfl rfl rfl rfl rfl rfl rfl rfl rfl rfl)
theorem p_sameGlob : ∀ n, Tri Tryz.prog f_r23_sameGlob (s_sameG n).pt
 | 0 => spc_void fun x h => by obtain ⟨a, b⟩ := x; have h := h.1; cases a; simp only [gDep] at h; omega
 | n + 1 => tri_walk (S := tab [(f_r22_Texts, s_texts), (f_r23_sameGlob, s_sameG n)]) (tab_ok (tab_cons u_r22_Texts (tab_cons (p_sameGlob n) tab_nil))) ok_r23_sameGlob (fun _ => Nat.le_of_ble_eq_true rfl) (w_r23_sameGlob n rfl rfl)
theorem p_sameGlobA : Tri Tryz.prog f_r23_sameGlob s_sameGA.pt := tri_ex (fun n => p_sameGlob n) (spc_ex (fun x h => ⟨gDep x.1, Nat.le_refl _, h⟩))
theorem p_Same : Tri Tryz.prog f_r23_Same (s_sameQ).pt :=
 tri_walk (S := tab [(f_r23_SamePattern, s_samePA), (f_r23_sameGlob, s_sameGA)]) (tab_ok (tab_cons u_r23_SamePattern (tab_cons p_sameGlobA tab_nil))) ok_r23_Same (fun _ => Nat.le_of_ble_eq_true rfl) (w_r23_Same rfl rfl)
theorem u_law23_knownE : Tri Tryz.prog f_law23_known (s_known23).pt :=
 tri_walk (S := tab [(f_query_Parse, s_eParse), (f_query_Size, s_r23_Size), (f_query_Format, s_Format 10)]) (tab_ok (tab_cons u_query_ParseE (tab_cons u_query_Size (tab_cons u_query_Format tab_nil)))) ok_law23_known (fun _ => Nat.le_of_ble_eq_true rfl) (w_law23_knownE rfl rfl rfl)
theorem t_law23_Parses : Tri Tryz.prog f_law23_QueryParses s_lParses.pt :=
 tri_walk (S := tab [(f_m_New, s_m_New), (f_m_Tape_Next, s_m_Next), (f_query_Parse, s_eParse), (f_r23_Parse, s_gParse), (f_r23_Same, s_sameQ), (f_law23_known, s_known23)]) (tab_ok (tab_cons t_m_New (tab_cons t_m_Tape_Next (tab_cons u_query_ParseE (tab_cons p_Parse (tab_cons p_Same (tab_cons u_law23_knownE tab_nil))))))) ok_law23_QueryParses (fun _ => Nat.le_of_ble_eq_true rfl) (w_law23_QueryParses rfl rfl rfl rfl rfl rfl)
end Go.Gv

namespace Go.Gv
open Go.ChangeShapes Go.WideShapes Go.ChangeAt Go.RowKit
section
variable {H : Type} {ec : TypeId × Value → H} {P : Program} {w : World} {base : Nat} {spare : Nat → Bool} {held : Bool} {tp I : Nat → Prop}
/-- Cells that stand for the cells of data. -/
def OpR (tp I : Nat → Prop) (w : World) (cs : List Value) (d : D) : Prop := cs.length = d.cells.length ∧ ∀ (k : Nat) (y : Value) (c : D), cs[k]? = some y → d.cells[k]? = some c → y.oneCell' = true ∧ R tp I w y c
theorem OpR.one {y : Value} {d : D} (h : OpR tp I w [y] d) (hd : d.cells = [d]) : R tp I w y d := (h.2 0 y d rfl (by rw [hd]; rfl)).2
theorem op_int {t : TypeId} {fuel : Nat} {cs : List Value} {x : DataW H × List MemPlace} (ht : P.underlying t = some (.int .i64)) (h : DataW.trod ec P w base spare held fuel t cs = some x) : ∃ n : Int, OpR tp I w cs (Cod.enc n) := by
 obtain ⟨n, rfl, _, _⟩ := DataW.trod_int ht h
 refine ⟨n, rfl, fun k y c h1 h2 => ?_⟩
 cases k with
 | zero => cases h1; cases h2; exact ⟨rfl, .v _ rfl (fun s h => by cases h)⟩
 | succ k => simp at h1
theorem op_slice {Y : Type} [Cod Y] {t e : TypeId} (ht : P.underlying t = some (.slice e)) (hc : P.cellsOf e = Cod.wd Y) (h0 : 0 < Cod.wd Y)
 (hel : ∀ (n : Nat) (cs : List Value) (x : DataW H × List MemPlace), DataW.trod ec P w base spare held n e cs = some x → ∃ y : Y, OpR tp I w cs (Cod.enc y)) (hI : ∀ b, b < w.heap.size → I b)
 {fuel : Nat} {cs : List Value} {x : DataW H × List MemPlace} (h : DataW.trod ec P w base spare held fuel t cs = some x) : ∃ l : List Y, OpR tp I w cs (Cod.enc l) := by
 have one : ∀ (v : Value) (l : List Y), v.oneCell' = true → R tp I w v (.list (Cod.wd Y) (l.map Cod.enc)) → OpR tp I w [v] (Cod.enc l) := fun v l h1 h2 => ⟨rfl, fun k y c e1 e2 => by
  cases k with
  | zero => cases e1; cases e2; exact ⟨h1, h2⟩
  | succ k => simp at e1⟩
 rcases DataW.trod_slice ht h with ⟨rfl, _⟩ | ⟨a, len, cap, elems, rest, n, _, rfl, _, _, hl, hm, hlen, hel', _⟩
 ·exact ⟨[], one _ [] rfl (.nolist none 0 _)⟩
 ·by_cases hz : len = 0
  ·subst hz
   exact ⟨[], one _ [] rfl (.nolist (some a) cap _)⟩
  ·have each : ∀ i : _root_.Fin len, ∃ p : List Value × Y, w.cells? base (a.add (i * P.cellsOf e)) (P.cellsOf e) = some p.1 ∧ OpR tp I w p.1 (Cod.enc p.2) := fun i => by
    have h1 := hel' i i.2
    rw [List.getElem?_eq_getElem (by omega)] at h1
    obtain ⟨cs', h2, h3⟩ := Option.bind_eq_some_iff.1 h1
    obtain ⟨y, hy⟩ := hel n cs' _ h3
    exact ⟨(cs', y), h2, hy⟩
   obtain ⟨g, hg⟩ := Classical.axiomOfChoice each
   obtain ⟨b, off, spot⟩ := a
   have cellAt : ∀ (i : _root_.Fin len) (j : Nat), j < Cod.wd Y → ∃ v, (g i).1[j]? = some v ∧ w.cell? ((Addr.add ⟨b, off, spot⟩ (i * Cod.wd Y)).add j) = some v := fun i j hj => by
    have h1 := World.cells?_some (hg i).1
    have h2 := h1.2.2 j (by rw [hc]; exact hj)
    have h3 : j < (g i).1.length := by rw [h1.2.1, hc]; exact hj
    refine ⟨(g i).1[j], List.getElem?_eq_getElem h3, ?_⟩
    rw [hc] at h2
    rw [h2, List.getElem?_eq_getElem h3]
   have hs : spot = none := by
    obtain ⟨v, _, h2⟩ := cellAt ⟨0, by omega⟩ 0 h0
    have := World.cell?_spot h2
    simpa [Addr.add] using this
   subst hs
   have hadd : ∀ (o n : Nat), Addr.add ⟨b, o, none⟩ n = ⟨b, o + n, none⟩ := fun o n => by
    unfold Addr.add
    split
    ·rename_i e; subst e; rfl
    ·rfl
   have cellAt' : ∀ (i : _root_.Fin len) (j : Nat), j < Cod.wd Y → ∃ v, (g i).1[j]? = some v ∧ w.cell? ⟨b, off + (i * Cod.wd Y + j), none⟩ = some v := fun i j hj => by
    obtain ⟨v, h1, h2⟩ := cellAt i j hj
    refine ⟨v, h1, ?_⟩
    rw [hadd, hadd] at h2
    rw [← Nat.add_assoc]
    exact h2
   have hb : b < w.heap.size := by
    obtain ⟨v, _, h2⟩ := cellAt' ⟨0, by omega⟩ 0 h0
    unfold World.cell? at h2
    by_cases hlt : b < w.heap.size
    ·exact hlt
    ·simp only [Array.getElem?_eq_none (Nat.le_of_not_lt hlt)] at h2
     cases h2
   let es : List Y := List.ofFn fun i => (g i).2
   have hesl : es.length = len := by simp [es]
   have hesi : ∀ i : _root_.Fin len, (es.map Cod.enc)[(i : Nat)]? = some (Cod.enc (g i).2) := fun i => by
    rw [List.getElem?_map]
    have : es[(i : Nat)]? = some (g i).2 := by simp [es]
    rw [this]; rfl
   have hw : ∀ d ∈ es.map Cod.enc, d.kn = true ∧ d.cells.length = Cod.wd Y := fun d hd => by
    obtain ⟨y, _, rfl⟩ := List.mem_map.1 hd
    exact ⟨Cod.kn y, Cod.wid y⟩
   have flatAt : ∀ (k : Nat) (c : D), (flat (es.map Cod.enc))[k]? = some c → ∃ v, w.cell? ⟨b, off + k, none⟩ = some v ∧ v.oneCell' = true ∧ R tp I w v c := fun k c hk => by
    have hkl := (List.getElem?_eq_some_iff.1 hk).1
    rw [flat_length (fun d hd => (hw d hd).2), List.length_map, hesl] at hkl
    have hdm : k = (k / Cod.wd Y) * Cod.wd Y + k % Cod.wd Y := by have := Nat.div_add_mod k (Cod.wd Y); rw [Nat.mul_comm] at this; omega
    have hmod : k % Cod.wd Y < Cod.wd Y := Nat.mod_lt _ h0
    have hq : k / Cod.wd Y < len := Nat.div_lt_of_lt_mul (by rw [Nat.mul_comm]; exact hkl)
    have g1 := flat_get (es := es.map Cod.enc) (fun d hd => (hw d hd).2) (i := k / Cod.wd Y) hmod
    rw [← hdm, hk, hesi ⟨k / Cod.wd Y, hq⟩] at g1
    simp only [Option.bind_some] at g1
    obtain ⟨v, h1, h2⟩ := cellAt' ⟨k / Cod.wd Y, hq⟩ (k % Cod.wd Y) hmod
    simp only at h2
    rw [← hdm] at h2
    exact ⟨v, h2, (hg ⟨k / Cod.wd Y, hq⟩).2.2 _ v c h1 g1.symm⟩
   have hR : R tp I w (.slice (some ⟨b, off, none⟩) len cap) (.list (Cod.wd Y) (es.map Cod.enc)) := by
    have hll : (es.map (Cod.enc (X := Y))).length = len := by simp [hesl]
    rw [← hll]
    have rd : ∀ (k : Nat) (c : D), (flat (es.map Cod.enc))[k]? = some c → w.cell? ⟨b, off + k, none⟩ = some ((w.cell? ⟨b, off + k, none⟩).getD Go.undef) := fun k c hk => by
     obtain ⟨v, h1, _⟩ := flatAt k c hk
     rw [h1]; rfl
    refine .list b off cap _ (es.map Cod.enc) (fun k => (w.cell? ⟨b, off + k, none⟩).getD Go.undef) (hI b hb) (by rw [hll]; exact hl) hm hw rd (fun k c hk => ?_) (fun k c hk => ?_)
    ·obtain ⟨v, h1, h2, _⟩ := flatAt k c hk
     rw [h1]; exact h2
    ·obtain ⟨v, h1, _, h2⟩ := flatAt k c hk
     rw [h1]; exact h2
   exact ⟨es, one _ es rfl hR⟩
end
end Go.Gv

namespace Go.Gv
open Go.ChangeShapes Go.WideShapes Go.ChangeAt Go.RowKit
section
variable {H : Type} {ec : TypeId × Value → H} {P : Program} {w : World} {base : Nat} {spare : Nat → Bool} {held : Bool} {tp I : Nat → Prop}
end
abbrev noI (w : World) : Nat → Prop := Imm (fun _ => False) (fun _ => False) noH w
theorem noI_of {w : World} {b : Nat} (h : b < w.heap.size) : noI w b := ⟨h, fun h => h, fun h => h, fun ⟨i, r, h, _⟩ => by simp [noH] at h⟩
/-- A law that holds: it returns true and turns nothing that was there. -/
theorem law_below {P : Program} {f : Nat} {X : Type} {A : Arg X} {q : X → Bool → Prop} (h : Tri P f (spc A (fun _ => True) (Cod.enc (X := Bool)) q).pt) (hq : ∀ x y, q x y → y = true) {w : World} {vs : List Value} {ds : List D} {x : X} (hlen : vs.length = ds.length)
 (hR : ∀ (k : Nat) (y : Value) (c : D), vs[k]? = some y → ds[k]? = some c → R (fun _ => False) (noI w) w y c) (hdec : A.dec ds = some x) :
 Calls P f vs.toArray w fun e w' => e = .returned (.bool true) ∧ Below w.heap.size w w' := by
 obtain ⟨_, hc⟩ := h (fun _ => False) (fun _ => False) w vs ds noH 0 (fun r H' => r = .v (.bool true)) (fun b h => h.elim) (fun b h => h.elim)
  ⟨fun i j r s b h => by simp [noH] at h, fun i r b h => by simp [noH] at h, fun i r h => by simp [noH] at h⟩ hlen hR
  (by rw [spc_pt, hdec]; exact ⟨trivial, fun y hy => by rw [hq x y hy]; rfl⟩)
 refine hc.mono ?_
 rintro e w' ⟨v, r, H', tp', rfl, hr, _, _, _, hs, _, _, hv⟩
 subst hr
 have hv' := hv.inv_v
 subst hv'
 exact ⟨rfl, hs.os, hs.tape, hs.output, hs.size, fun k hk => hs.same k hk (fun ⟨i, r, h, _⟩ => by simp [noH] at h) (fun h => h)⟩
end Go.Gv

namespace Go.Gv
open Go.ChangeShapes Go.WideShapes Go.ChangeAt Go.RowKit
section
variable {H : Type} {ec : TypeId × Value → H} {P : Program} {w : World} {base : Nat} {spare : Nat → Bool} {held : Bool} {tp I : Nat → Prop}
theorem op_str {t : TypeId} {fuel : Nat} {cs : List Value} {x : DataW H × List MemPlace} (ht : P.underlying t = some .string) (h : DataW.trod ec P w base spare held fuel t cs = some x) : ∃ n : B, OpR tp I w cs (Cod.enc n) := by
 obtain ⟨n, rfl, _, hs⟩ := DataW.trod_string ht h
 refine ⟨n, rfl, fun k y c h1 h2 => ?_⟩
 cases k with
 | zero => cases h1; cases h2; exact ⟨rfl, .v _ rfl (fun s h => by cases h; exact hs)⟩
 | succ k => simp at h1
end
end Go.Gv
