/- A part of the framework and of the walks: W79 W84 Asm5 Fr. -/
import Derived.WalkKit
import Derived.ProofKit
import Derived.OpenShut
import Derived.ShutString
import Derived.ChangeOld
import Derived.Below
import Derived.Test.YtaiffcbkmgfklaaGreatDoorGy26
import Derived.Test.YtaiffcbkmgfklaaGreatDoorGy27
import Derived.Test.YtaiffcbkmgfklaaGreatDoorGy17
import Derived.Test.YtaiffcbkmgfklaaGreatDoorGy24
import Derived.Test.YtaiffcbkmgfklaaGreatDoorGy25
import Derived.Test.YtaiffcbkmgfklaaGreatDoorGy16
import Derived.Test.YtaiffcbkmgfklaaGreatDoorGy13

namespace Go.Gv
set_option linter.unusedSimpArgs false
set_option linter.unusedVariables false
set_option maxRecDepth 100000
open Cod (enc dec)
variable {S S0 : Nat → Spc}
def knownY : Qry := ⟨knownP, GlobE, [], 0⟩
theorem known_wp : WP [] 1 knownP := .inr (.inl ⟨.inl rfl, rfl, rfl, rfl, rfl, rfl, _, _, rfl, wp0 (.inr ⟨.inl rfl, rfl, rfl, by simp [Types, b_s], rfl, rfl, rfl⟩), wp0 (.inl ⟨rfl, .inl rfl, rfl, rfl, rfl, rfl⟩)⟩)
theorem known_pat : patB validN knownP = true := wp_patB labOk_nil validN_gen 1 _ known_wp (by omega)
theorem known_leaves : leavesP knownP = [⟨1, ⟨2, ⟨#[119, 111, 114, 100]⟩, E0, ⟨#[84, 104, 101]⟩, E0, true, []⟩, E0, E0, 0, 0, []⟩] := by
  rw [leavesP_eq, if_neg (by decide)]
  show [_, _].flatMap leavesP = _
  simp only [List.flatMap_cons, List.flatMap_nil, List.append_nil]
  rw [leavesP_eq, if_neg (by decide), leavesP_eq, if_pos rfl]
  rfl
theorem known_text : patT 10 knownP = some knownQ := by kernel_rfl
theorem known_fmt : FmtP 10 knownY := by
  have h := known_pat
  unfold patB at h
  simp only [Bool.and_eq_true] at h
  refine ⟨by rw [Bool.and_eq_true]; exact h.1.1, rfl, rfl, rfl, ⟨?_, ?_⟩, ?_, knownQ, known_text, by unfold LIMW; decide, by decide⟩
  · show 0 + (leavesP knownP).length ≤ _
    rw [known_leaves]
    decide
  · intro y hy
    have hy : y ∈ leavesP knownP := hy
    rw [known_leaves] at hy
    simp only [List.mem_singleton] at hy
    subst hy
    exact ⟨1, by show 0 ≤ 1000000; decide, fun k hk => by simp at hk⟩
  · intro x hx
    have hx : x ∈ (leavesP knownP).map cloneP := hx
    rw [known_leaves] at hx
    simp only [List.map_cons, List.map_nil, List.mem_singleton] at hx
    subst hx
    exact ⟨rfl, rfl, rfl, rfl⟩
theorem known_size : sizeP knownP = 2 := by kernel_rfl
abbrev s_known23 : Spc := spc a0 (fun _ => True) (enc (X := Bool)) fun _ y => y = true
theorem w_law23_known (h1 : S f_query_Parse = s_qParse 10) (h2 : S f_query_Size = s_r23_Size) (h3 : S f_query_Format = s_Format 10) : Walk cc_law23_known rs_law23_known S a0 (fun _ => True) (enc (X := Bool)) fun _ y => y = true := by
  rintro ⟨⟩ -
  have e1 : (⟨#[60, 115, 62, 32, 91, 119, 111, 114, 100, 61, 34, 84, 104, 101, 34, 37, 99, 93]⟩ : B) = knownQ := rfl
  simp [cc_law23_known, rs_law23_known, h1, h2, h3, -Bool.forall_bool, -Bool.exists_bool]
  rw [e1]
  refine ⟨⟨by decide, _, _, known_read⟩, fun a k e hq => ?_⟩
  obtain ⟨s', q, hq1, hq2⟩ := hq
  have hr := known_read
  rw [show (⟨knownQ, 0, 0, E0, 0⟩ : Rdr) = { txt := knownQ, fin := 0, kind := 0, text := E0, pos := 0 } from rfl] at hr
  rw [hr] at hq1
  simp only [Option.some.injEq, Prod.mk.injEq] at hq1 hq2
  obtain ⟨_, rfl⟩ := hq1
  obtain ⟨rfl, rfl, rfl⟩ := hq2
  refine ⟨fun _ => ⟨fun _ => ⟨fun _ _ => ⟨fun _ => ⟨by decide, fun p hp => ?_⟩, rfl⟩, rfl⟩, rfl⟩, rfl⟩
  have hp : some (⟨1, ⟨2, ⟨#[119, 111, 114, 100]⟩, E0, ⟨#[84, 104, 101]⟩, E0, true, []⟩, E0, E0, 0, 0, []⟩ : Pat) = some p := hp
  cases hp
  refine ⟨fun _ => ⟨fun _ => ⟨known_fmt, fun y hy => ?_⟩, ?_⟩, rfl⟩
  · have hy : patT 10 knownP = some y := hy
    rw [known_text] at hy
    cases hy
    rfl
  · show (if patB validN knownP = true then sizeP knownP else 0) = 2
    rw [if_pos known_pat, known_size]
end Go.Gv

namespace Go.Gv
set_option linter.unusedSimpArgs false
set_option linter.unusedVariables false
set_option maxRecDepth 100000
open Cod (enc dec)
variable {S S0 : Nat → Spc}
theorem wp_leaf {lb : List B} : ∀ n p, WP lb n p → ∀ y ∈ leavesP p, cloneP y = y := by
  refine wp_ind fun n p hp ih => fun y hy => ?_
  rw [leavesP_eq] at hy
  split at hy
  · rename_i h1
    simp only [List.mem_singleton] at hy
    subst hy
    rcases wp_cases hp with (⟨_, _, h3, h4, h5, h6⟩ | ⟨h, _⟩) | ⟨m, rfl, (⟨h, _⟩ | ⟨h, _⟩)⟩
    · obtain ⟨op, c, l, r, mn, mx, ks⟩ := y
      simp only at h3 h4 h5 h6
      subst h3; subst h4; subst h5; subst h6
      rfl
    · omega
    · omega
    · omega
  · obtain ⟨k, hk, hy⟩ := List.mem_flatMap.1 hy
    obtain ⟨m, _, _, h⟩ := ih k hk
    exact h y hy
theorem wp_leavesQ {lb : List B} {n : Nat} {p : Pat} (h : WP lb n p) : leavesQ p = leavesP p := by
  unfold leavesQ
  conv => rhs; rw [← List.map_id (leavesP p)]
  exact List.map_congr_left fun y hy => wp_leaf n p h y hy
theorem wp_labs {lb : List B} : ∀ n p, WP lb n p → ∀ out, labsP p out = ((leavesP p).map (·.lab)).foldl addE out := by
  refine wp_ind fun n p hp ih => fun out => ?_
  rw [labsP_eq, leavesP_eq]
  have hne : ∀ {q : Pat}, q.lab = E0 → addE out q.lab = out := fun h => by rw [addE, if_pos h]
  have hkids : ∀ (ks : List Pat) (o : List B), (∀ k ∈ ks, k ∈ p.kids) → ks.foldl (fun o k => labsP k o) o = ((ks.flatMap leavesP).map (·.lab)).foldl addE o := by
    intro ks
    induction ks with
    | nil => intro o _; rfl
    | cons k ks ihk =>
      intro o hk
      obtain ⟨m, _, _, h⟩ := ih k (hk k (by simp))
      rw [List.foldl_cons, List.flatMap_cons, List.map_append, List.foldl_append, h o, ihk _ fun z hz => hk z (by simp [hz])]
  rcases wp_cases hp with (⟨h1, _, _, _, _, h6⟩ | ⟨h1, _, h3, _, _, _, h7⟩) | ⟨m, rfl, (⟨h1, _, h3, _⟩ | ⟨h1, _, h3, _⟩)⟩
  · rw [if_pos h1, h6]; rfl
  · rw [if_neg (by omega), h7, hne h3]; rfl
  · rw [if_neg (by omega), hne h3]; exact hkids p.kids out fun _ h => h
  · rw [if_neg (by omega), hne h3]; exact hkids p.kids out fun _ h => h
theorem cs_nar : ∀ (n : Nat) (c : Cond), CS n c → narC (n + 1) c
  | 0, c, h => by
    have h : c.kids = [] := h
    exact ⟨by rw [h]; exact Nat.zero_le _, fun k hk => by rw [h] at hk; simp at hk⟩
  | n + 1, c, h => ⟨by have := h.1; omega, fun k hk => cs_nar n k (h.2 k hk)⟩
theorem gq_num {n : Nat} {q : Qry} (h : GQ n q) (hn : n ≤ 5) : pNum q.pat ≤ 64 := by
  obtain ⟨lb, _, hw⟩ := h.lab
  have := (wp_size _ _ hw hn).2.2
  have h2 : 2 ^ (n + 1) ≤ 64 := Nat.pow_le_pow_right (n := 2) (by omega) (show n + 1 ≤ 6 by omega)
  omega
theorem gq_plq {n : Nat} {q : Qry} (h : GQ n q) (hn : n ≤ 5) : PLq q.pat [] := by
  have h1 := gq_num h hn
  have h2 := leavesP_le q.pat
  exact ⟨by simp; omega, fun y hy => ⟨2, cs_nar 1 _ (gc_cs (h.cond y hy))⟩⟩
theorem gq_patB {n : Nat} {q : Qry} (h : GQ n q) (hn : n ≤ 5) : patB validN q.pat = true := by
  obtain ⟨lb, hl, hw⟩ := h.lab
  exact wp_patB hl validN_gen n _ hw (by omega)
def PNm (ls : List Pat) (k : Nat) (x : Value × List B) : Prop := x.2 = ((ls.take k).map (·.lab)).foldl addE [] ∧ x.2.length ≤ k
def PKn (ns : List B) (l : B) (j : Nat) (b : Bool) : Prop := b = true ↔ l = E0 ∨ l ∈ ns.take j
theorem w_law23_QueryLeaves (h1 : S f_m_New = s_m_New) (h2 : S f_m_Tape_Query = s_m_Query2) (h3 : S f_query_Leaves = s_query_Leaves) (h4 : S f_r23_Leaves = s_r23_Leaves) (h5 : S f_r23_SamePattern = s_samePA) (h6 : S f_query_Labels = s_query_Labels) (h7 : S f_r22_Texts = s_texts) (h8 : S f_law23_known = s_known23) :
    Walk cc_law23_QueryLeaves rs_law23_QueryLeaves S (a1 (List Int)) (fun _ => True) (enc (X := Bool)) fun _ y => y = true := by
  rintro l -
  simp [cc_law23_QueryLeaves, rs_law23_QueryLeaves, h1, h2, h3, h4, -Bool.forall_bool, -Bool.exists_bool]
  intro L q hq b
  have hq : GQ 3 q := hq
  obtain ⟨lb, hlb, hw⟩ := hq.lab
  have g1 := gq_plq hq (by omega)
  have g2 := gq_patB hq (by omega)
  have g3 : (leavesP q.pat).length ≤ 100000000 := by have := g1.1; simp at this; omega
  have g4 := wp_leavesQ hw
  have g5 := wp_labs _ _ hw []
  have g6 : PLb q.pat [] := by have := gq_num hq (by omega); show 0 + pNum q.pat ≤ _; omega
  simp only [g1, g2, g3, g4, true_and, if_true]
  intro _ _ _ _
  generalize hls : leavesP q.pat = ls at *
  have hlen : ls.length ≤ 64 := by have := leavesP_le q.pat; have := gq_num hq (by omega); rw [hls] at *; omega
  refine vc_range (X := Value × List B) [3, 4, 5] [3] ls.length (PNm ls) (fun x => [(6, .own 72 x.1)]) (fun x => [(72, .row x.1 ty_string 1 (x.2.map enc))]) (.slice none 0 0, []) (by simp) (by simp) (by omega) (by simp) (by simp) ⟨rfl, Nat.le_refl _⟩ (by simp) (by simp [isNilRow]) ?_ ?_
  · rintro k ⟨v, ns⟩ hk ⟨hns, hnl⟩
    simp only at hns hnl
    obtain ⟨x, hx⟩ := at_lt hk
    obtain ⟨_, hgx⟩ := List.getElem?_eq_some_iff.1 hx
    simp [hk, hx, hgx, h5, -Bool.forall_bool, -Bool.exists_bool]
    intro _
    refine vc_range (X := Bool) [3, 4, 5, 6, 7, 26, 27, 46] [3, 72] ns.length (PKn ns x.lab) (fun b => [(8, .v (.bool b))]) (fun _ => []) (decide (x.lab = E0)) (by simp) (by simp) (by omega) (by simp) (by simp) (by simp [PKn]) (by simp [E0]; rw [Bool.eq_iff_iff]; simp; exact decide_eq_true_iff.symm) (by simp) ?_ ?_
    · rintro j b hj hb
      obtain ⟨z, hz⟩ := at_lt hj
      obtain ⟨_, hgz⟩ := List.getElem?_eq_some_iff.1 hz
      simp [hk, hx, hgx, hj, hz, hgz, -Bool.forall_bool, -Bool.exists_bool]
      have hb : b = true ↔ x.lab = E0 ∨ x.lab ∈ ns.take j := hb
      refine ⟨fun hf => ?_, fun ht => ?_⟩
      · unfold PKn
        rw [take_snoc hz, decide_eq_true_iff, List.mem_append, List.mem_singleton]
        rw [hf] at hb
        have hb : ¬ (x.lab = E0 ∨ x.lab ∈ ns.take j) := fun h => by have := hb.2 h; cases this
        exact ⟨fun h => .inr (.inr h.symm), fun h => h.elim (fun h => absurd (.inl h) hb) fun h => h.elim (fun h => absurd (.inr h) hb) fun h => h.symm⟩
      · unfold PKn
        rw [take_snoc hz, List.mem_append]
        exact ⟨fun _ => (hb.1 ht).elim .inl fun h => .inr (.inl h), fun _ => rfl⟩
    · rintro b hb
      have hb : b = true ↔ x.lab = E0 ∨ x.lab ∈ ns := by have h : b = true ↔ x.lab = E0 ∨ x.lab ∈ ns.take ns.length := hb; rwa [List.take_length] at h
      simp [hk, hx, hgx, -Bool.forall_bool, -Bool.exists_bool]
      have hnew : PNm ls (k + 1) (v, addE ns x.lab) := by
        refine ⟨?_, by have := addE_len ns x.lab; simp only; omega⟩
        show addE ns x.lab = _
        rw [take_snoc hx, List.map_append, List.foldl_append, ← hns]
        rfl
      refine ⟨fun hf => ⟨by omega, by omega, fun v' => ?_⟩, fun ht => ?_⟩
      · have hn : ¬ (x.lab = E0 ∨ x.lab ∈ ns) := fun h => by rw [hb.2 h] at hf; cases hf
        have e : addE ns x.lab = ns ++ [x.lab] := by rw [addE, if_neg fun h => hn (.inl h), addL, if_neg fun h => hn (.inr h)]
        exact ⟨v', ns ++ [x.lab], by rw [← e]; exact hnew, rfl, .inl ⟨rfl, by simp⟩⟩
      · have e : addE ns x.lab = ns := by
          rcases hb.1 ht with h | h
          · rw [addE, if_pos h]
          · unfold addE addL
            rw [if_pos h]
            split <;> rfl
        exact ⟨v, ns, by rw [← e]; exact hnew, rfl, .inl ⟨rfl, rfl⟩⟩
  · rintro ⟨v, ns⟩ ⟨hns, hnl⟩
    simp only at hns hnl
    rw [List.take_length] at hns
    simp [h6, h7, h8, g2, g5, g6, hns, -Bool.forall_bool, -Bool.exists_bool]
end Go.Gv

namespace Go.Gv
open Go.Proofs Cod
set_option maxRecDepth 100000
set_option linter.unusedVariables false
theorem tri_ex {P : Program} {f : Nat} {A : Nat → PT} {A' : PT} (h : ∀ n, Tri P f (A n)) (hs : ∀ d ds H K, A' d ds H K → ∃ n, A n d ds H K) : Tri P f A' :=
  fun O tp w vs ds H d K a b c e g hA => (hs d ds H K hA).elim fun n hn => h n O tp w vs ds H d K a b c e g hn
theorem tri_void {P : Program} {f : Nat} {A : PT} (hs : ∀ d ds H K, ¬ A d ds H K) : Tri P f A := fun O tp w vs ds H d K a b c e g hA => absurd hA (hs d ds H K)
theorem spc_ex {X Y : Type} {A : Arg X} {pre : Nat → X → Prop} {pre' : X → Prop} {er : Y → D} {post : X → Y → Prop} (hx : ∀ x, pre' x → ∃ n, pre n x) : ∀ d ds H K, (spc A pre' er post).pt d ds H K → ∃ n, (spc A (pre n) er post).pt d ds H K := by
  intro d ds H K h
  rw [spc_pt] at h
  cases e : A.dec ds with
  | none => rw [e] at h; exact h.elim
  | some x =>
    rw [e] at h
    obtain ⟨h1, h2⟩ := h
    obtain ⟨n, hn⟩ := hx x h1
    exact ⟨n, by rw [spc_pt, e]; exact ⟨hn, h2⟩⟩
theorem spc_void {P : Program} {f : Nat} {X Y : Type} {A : Arg X} {pre : X → Prop} {er : Y → D} {post : X → Y → Prop} (hx : ∀ x, ¬ pre x) : Tri P f (spc A pre er post).pt := tri_void fun d ds H K h => by
  rw [spc_pt] at h
  cases e : A.dec ds with
  | none => rw [e] at h; exact h.elim
  | some x => rw [e] at h; exact hx x h.1
theorem pd0 {p : Pat} (h : pDep p ≤ 0) : False := by rw [pDep_eq] at h; omega
theorem cd0 {p : Cond} (h : cDep p ≤ 0) : False := by rw [cDep_eq] at h; omega
theorem rd_void {P : Program} {f : Nat} {Y Z : Type} {A : Arg Z} {er : Y → D} {F : Rdr → Z → Option (Rdr × Y)} (hx : ∀ s z, F s z = none) : Tri P f (rdF A er F).pt := tri_void fun d ds H K ⟨id, b, x, z, ds', h1, h2, h3, h4, h5, hp, h7⟩ => by
  obtain ⟨r, hr⟩ := hp
  rw [hx] at hr
  cases hr
theorem wr_void {P : Program} {f : Nat} {Z : Type} {tw el : Nat} {A : Arg Z} {r : D} {T : Z → Option ByteArray} (hx : ∀ z, T z = none) : Tri P f (wrC tw el A r T).pt := tri_void fun d ds H K ⟨id, b, x, z, ds', h1, h2, h3, h4, h5, hp, h7⟩ => by
  obtain ⟨t, ht, _⟩ := hp
  rw [hx] at ht
  cases ht
theorem t_m_Mod : Tri Tryz.prog f_m_Mod (s_m_Mod).pt :=
  tri_walk (S := tab []) (tab_ok tab_nil) ok_m_Mod (fun _ => Nat.le_of_ble_eq_true rfl) (w_m_Mod)
theorem t_m_Tape_Next : Tri Tryz.prog f_m_Tape_Next s_m_Next.pt := tri_next (S := tab [(f_m_Mod, s_m_Mod)]) (tab_ok (tab_cons t_m_Mod tab_nil)) rfl ok_m_Tape_Next (by decide)
theorem t_m_New : Tri Tryz.prog f_m_New s_m_New.pt := tri_new (tri_walkFB (S := tab []) (tab_ok tab_nil) ok_m_New (by decide) w_m_New)
theorem u_m_Type : Tri Tryz.prog f_m_Type (s_m_TypeN).pt :=
  tri_walk (S := tab [(f_m_Mod, s_m_Mod)]) (tab_ok (tab_cons t_m_Mod tab_nil)) ok_m_Type (fun _ => Nat.le_of_ble_eq_true rfl) (w_m_TypeN rfl)
theorem u_markup_begins : Tri Tryz.prog f_markup_begins (s_begins).pt :=
  tri_walk (S := tab []) (tab_ok tab_nil) ok_markup_begins (fun _ => Nat.le_of_ble_eq_true rfl) (w_markup_begins)
theorem u_markup_goesOn : Tri Tryz.prog f_markup_goesOn (s_goesOn).pt :=
  tri_walk (S := tab [(f_markup_begins, s_begins)]) (tab_ok (tab_cons u_markup_begins tab_nil)) ok_markup_goesOn (fun _ => Nat.le_of_ble_eq_true rfl) (w_markup_goesOn rfl)
theorem u_markup_ValidName : Tri Tryz.prog f_markup_ValidName (s_validN).pt :=
  tri_walk (S := tab [(f_markup_begins, s_begins), (f_markup_goesOn, s_goesOn)]) (tab_ok (tab_cons u_markup_begins (tab_cons u_markup_goesOn tab_nil))) ok_markup_ValidName (fun _ => Nat.le_of_ble_eq_true rfl) (w_markup_ValidName rfl rfl)
theorem u_query_zero : Tri Tryz.prog f_query_zero (s_zero).pt :=
  tri_walk (S := tab []) (tab_ok tab_nil) ok_query_zero (fun _ => Nat.le_of_ble_eq_true rfl) (w_query_zero)
theorem u_query_node : Tri Tryz.prog f_query_node (s_node).pt :=
  tri_walk (S := tab [(f_query_zero, s_zero)]) (tab_ok (tab_cons u_query_zero tab_nil)) ok_query_node (fun _ => Nat.le_of_ble_eq_true rfl) (w_query_node rfl)
theorem u_query_named : Tri Tryz.prog f_query_named (s_named).pt :=
  tri_walk (S := tab [(f_markup_ValidName, s_validN)]) (tab_ok (tab_cons u_markup_ValidName tab_nil)) ok_query_named (fun _ => Nat.le_of_ble_eq_true rfl) (w_query_named rfl)
theorem u_query_ranged : Tri Tryz.prog f_query_ranged (s_ranged).pt :=
  tri_walk (S := tab []) (tab_ok tab_nil) ok_query_ranged (fun _ => Nat.le_of_ble_eq_true rfl) (w_query_ranged)
def N31 : Nat → Spc := tab [(f_query_node, s_node), (f_query_named, s_named), (f_query_ranged, s_ranged)]
def Sh1 (n : Nat) : Nat → Spc := tab [(f_query_shallow_1, s_sh1 n)]
theorem con_of {S : Nat → Spc} (h : ∀ f, Tri Tryz.prog f (S f).pt) : Tri Tryz.prog f_slices_ContainsFunc_Pattern (s_ConP S).pt :=
  tri_walk (S := tab [(f_slices_IndexFunc_Pattern, s_IdxP S)]) (tab_ok (tab_cons (tri_walk (S := S) h ok_slices_IndexFunc_Pattern (fun _ => Nat.le_of_ble_eq_true rfl) w_slices_IndexFunc_Pattern) tab_nil)) ok_slices_ContainsFunc_Pattern (fun _ => Nat.le_of_ble_eq_true rfl) (w_slices_ContainsFunc_Pattern rfl)
theorem r_query_shallow : ∀ n, Tri Tryz.prog f_query_shallow (s_shallow n).pt
  | 0 => spc_void fun x h => pd0 h.1
  | n + 1 =>
    have h1 : Tri Tryz.prog f_query_shallow_1 (s_sh1 n).pt := tri_walk (S := tab [(f_query_shallow, s_shallow n)]) (tab_ok (tab_cons (r_query_shallow n) tab_nil)) ok_query_shallow_1 (fun _ => Nat.le_of_ble_eq_true rfl) (w_query_shallow_1 n rfl)
    tri_walk (S := tab [(f_slices_ContainsFunc_Pattern, s_ConP (Sh1 n))]) (tab_ok (tab_cons (con_of (S := Sh1 n) (tab_ok (tab_cons h1 tab_nil))) tab_nil)) ok_query_shallow (fun _ => Nat.le_of_ble_eq_true rfl) (w_query_shallow (S0 := Sh1 n) n rfl rfl)
theorem u_query_shallow : Tri Tryz.prog f_query_shallow (s_shallowA).pt :=
  tri_ex (fun n => r_query_shallow n) (spc_ex (fun x h => ⟨pDep x.1, Nat.le_refl _, h⟩))
def Ev1 (n : Nat) : Nat → Spc := tab [(f_query_every_1, s_ev1 N31 n)]
def Ev2 (n : Nat) : Nat → Spc := tab [(f_slices_ContainsFunc_Pattern, s_ConP (Ev1 n)), (f_query_node, s_node), (f_query_named, s_named), (f_query_ranged, s_ranged)]
theorem n31_ev2 (n : Nat) (d : D) (f : Pat → Bool) (h : FunIs N31 d f) : FunIs (Ev2 n) d f := by
  obtain ⟨g, c, pc, a, b, e⟩ := h
  refine ⟨g, c, pc, a, ?_, e⟩
  by_cases hg : g = f_slices_ContainsFunc_Pattern
  · subst hg
    have : N31 f_slices_ContainsFunc_Pattern = Spc.none := rfl
    rw [this] at b
    cases b
  · rw [← b]
    unfold Ev2 N31
    rw [tab, if_neg hg]
theorem r_query_every : ∀ n, Tri Tryz.prog f_query_every (s_every N31 n).pt
  | 0 => spc_void fun x h => by obtain ⟨f, h1, h2⟩ := h; exact pd0 h2
  | n + 1 =>
    have h1 : Tri Tryz.prog f_query_every_1 (s_ev1 N31 n).pt := tri_walk (S := tab [(f_query_every, s_every N31 n)]) (tab_ok (tab_cons (r_query_every n) tab_nil)) ok_query_every_1 (fun _ => Nat.le_of_ble_eq_true rfl) (w_query_every_1 (S0 := N31) n rfl)
    tri_walk (S := Ev2 n) (tab_ok (tab_cons (con_of (S := Ev1 n) (tab_ok (tab_cons h1 tab_nil))) (tab_cons u_query_node (tab_cons u_query_named (tab_cons u_query_ranged tab_nil))))) ok_query_every (fun _ => Nat.le_of_ble_eq_true rfl) (w_query_every (S0 := Ev1 n) (N := N31) n (n31_ev2 n) rfl rfl)
theorem u_query_every : Tri Tryz.prog f_query_every (s_everyA N31).pt :=
  tri_ex (fun n => r_query_every n) (spc_ex (fun x h => by obtain ⟨f, h⟩ := h; exact ⟨pDep x.1, f, h, Nat.le_refl _⟩))
theorem u_query_Shape : Tri Tryz.prog f_query_Shape (s_Shape).pt :=
  tri_walk (S := tab [(f_query_shallow, s_shallowA), (f_query_every, s_everyA N31)]) (tab_ok (tab_cons u_query_shallow (tab_cons u_query_every tab_nil))) ok_query_Shape (fun _ => Nat.le_of_ble_eq_true rfl) (w_query_Shape (N := N31) rfl rfl rfl)
theorem u_query_right : Tri Tryz.prog f_query_right (s_r23_IsPattern).pt :=
  tri_walk (S := tab [(f_query_Shape, s_Shape), (f_query_every, s_everyA N31)]) (tab_ok (tab_cons u_query_Shape (tab_cons u_query_every tab_nil))) ok_query_right (fun _ => Nat.le_of_ble_eq_true rfl) (w_query_right (N := N31) rfl rfl rfl rfl)
theorem r_query_size : ∀ n, Tri Tryz.prog f_query_size (s_size n).pt
  | 0 => spc_void fun x h => pd0 h.1
  | n + 1 => tri_walk (S := tab [(f_query_size, s_size n)]) (tab_ok (tab_cons (r_query_size n) tab_nil)) ok_query_size (fun _ => Nat.le_of_ble_eq_true rfl) (w_query_size n rfl)
theorem u_query_size : Tri Tryz.prog f_query_size (s_sizeA).pt :=
  tri_ex (fun n => r_query_size n) (spc_ex (fun x h => ⟨pDep x, Nat.le_refl _, h⟩))
theorem u_query_Size : Tri Tryz.prog f_query_Size (s_r23_Size).pt :=
  tri_walk (S := tab [(f_query_right, s_r23_IsPattern), (f_query_size, s_sizeA)]) (tab_ok (tab_cons u_query_right (tab_cons u_query_size tab_nil))) ok_query_Size (fun _ => Nat.le_of_ble_eq_true rfl) (w_query_Size rfl rfl)
theorem u_query_letter : Tri Tryz.prog f_query_letter (s_q_letter).pt :=
  tri_walk (S := tab []) (tab_ok tab_nil) ok_query_letter (fun _ => Nat.le_of_ble_eq_true rfl) (w_query_letter)
theorem u_query_digit : Tri Tryz.prog f_query_digit (s_q_digit).pt :=
  tri_walk (S := tab []) (tab_ok tab_nil) ok_query_digit (fun _ => Nat.le_of_ble_eq_true rfl) (w_query_digit)
theorem u_query_lex_1 : Tri Tryz.prog f_query_lex_1 (s_q_space).pt :=
  tri_walk (S := tab []) (tab_ok tab_nil) ok_query_lex_1 (fun _ => Nat.le_of_ble_eq_true rfl) (w_query_lex_1)
theorem u_query_lex_2 : Tri Tryz.prog f_query_lex_2 (s_q_name).pt :=
  tri_walk (S := tab [(f_query_letter, s_q_letter), (f_query_digit, s_q_digit)]) (tab_ok (tab_cons u_query_letter (tab_cons u_query_digit tab_nil))) ok_query_lex_2 (fun _ => Nat.le_of_ble_eq_true rfl) (w_query_lex_2 rfl rfl)
def Lx : Nat → Spc := tab [(f_query_lex_1, s_q_space), (f_query_lex_2, s_q_name), (f_query_digit, s_q_digit)]
theorem u_query_run : Tri Tryz.prog f_query_run (s_q_run Lx).pt := tri_walk (S := Lx) (tab_ok (tab_cons u_query_lex_1 (tab_cons u_query_lex_2 (tab_cons u_query_digit tab_nil)))) ok_query_run (fun _ => Nat.le_of_ble_eq_true rfl) w_query_run
theorem u_internal_stringslite_HasPrefix : Tri Tryz.prog f_internal_stringslite_HasPrefix (s_hasPrefix).pt :=
  tri_walk (S := tab []) (tab_ok tab_nil) ok_internal_stringslite_HasPrefix (fun _ => Nat.le_of_ble_eq_true rfl) (w_stringslite_HasPrefix)
theorem u_strings_HasPrefix : Tri Tryz.prog f_strings_HasPrefix (s_hasPrefix).pt :=
  tri_walk (S := tab [(f_internal_stringslite_HasPrefix, s_hasPrefix)]) (tab_ok (tab_cons u_internal_stringslite_HasPrefix tab_nil)) ok_strings_HasPrefix (fun _ => Nat.le_of_ble_eq_true rfl) (w_strings_HasPrefix rfl)
theorem u_strings_IndexByte : Tri Tryz.prog f_strings_IndexByte (s_indexByte).pt :=
  tri_walk (S := tab [(f_internal_stringslite_IndexByte, s_indexByte)]) (tab_ok (tab_cons t_stringslite_IndexByte tab_nil)) ok_strings_IndexByte (fun _ => Nat.le_of_ble_eq_true rfl) (w_strings_IndexByte rfl)
theorem u_slices_Index_string : Tri Tryz.prog f_slices_Index_string (s_idx_string).pt :=
  tri_walk (S := tab []) (tab_ok tab_nil) ok_slices_Index_string (fun _ => Nat.le_of_ble_eq_true rfl) (w_slices_Index_string)
theorem u_slices_Contains_string : Tri Tryz.prog f_slices_Contains_string (s_has_string).pt :=
  tri_walk (S := tab [(f_slices_Index_string, s_idx_string)]) (tab_ok (tab_cons u_slices_Index_string tab_nil)) ok_slices_Contains_string (fun _ => Nat.le_of_ble_eq_true rfl) (w_slices_Contains_string rfl)
theorem u_query_quoted : Tri Tryz.prog f_query_quoted (s_q_quoted).pt :=
  tri_walk (S := tab []) (tab_ok tab_nil) ok_query_quoted (fun _ => Nat.le_of_ble_eq_true rfl) (w_query_quoted)
theorem u_query_lex : Tri Tryz.prog f_query_lex (s_q_lex).pt :=
  tri_walk (S := tab [(f_query_run, s_q_run Lx), (f_query_letter, s_q_letter), (f_query_digit, s_q_digit), (f_query_quoted, s_q_quoted), (f_strings_HasPrefix, s_hasPrefix), (f_strings_IndexByte, s_indexByte)]) (tab_ok (tab_cons u_query_run (tab_cons u_query_letter (tab_cons u_query_digit (tab_cons u_query_quoted (tab_cons u_strings_HasPrefix (tab_cons u_strings_IndexByte tab_nil))))))) ok_query_lex (fun _ => Nat.le_of_ble_eq_true rfl) (w_query_lex (S0 := Lx) rfl rfl rfl rfl rfl rfl rfl rfl rfl)
theorem u_query_reader_next : Tri Tryz.prog f_query_reader_next (s_rnext).pt :=
  tri_walkRDF (S := tab [(f_query_lex, s_q_lex)]) (tab_ok (tab_cons u_query_lex tab_nil)) ok_query_reader_next (fun _ => Nat.le_of_ble_eq_true rfl) (w_reader_next rfl)
theorem u_query_reader_peek : Tri Tryz.prog f_query_reader_peek (s_rpeek).pt :=
  tri_walkRDF (S := tab [(f_query_lex, s_q_lex)]) (tab_ok (tab_cons u_query_lex tab_nil)) ok_query_reader_peek (fun _ => Nat.le_of_ble_eq_true rfl) (w_reader_peek rfl)
theorem u_query_reader_sign : Tri Tryz.prog f_query_reader_sign (s_rsign).pt :=
  tri_walkRDF (S := tab []) (tab_ok tab_nil) ok_query_reader_sign (fun _ => Nat.le_of_ble_eq_true rfl) (w_reader_sign)
theorem u_query_reader_take : Tri Tryz.prog f_query_reader_take (s_rtake).pt :=
  tri_walkRDF (S := tab [(f_query_reader_next, s_rnext), (f_query_reader_sign, s_rsign)]) (tab_ok (tab_cons u_query_reader_next (tab_cons u_query_reader_sign tab_nil))) ok_query_reader_take (fun _ => Nat.le_of_ble_eq_true rfl) (w_reader_take rfl rfl)
theorem u_query_reader_word : Tri Tryz.prog f_query_reader_word (s_rword).pt :=
  tri_walkRDF (S := tab [(f_slices_Contains_string, s_has_string)]) (tab_ok (tab_cons u_slices_Contains_string tab_nil)) ok_query_reader_word (fun _ => Nat.le_of_ble_eq_true rfl) (w_reader_word rfl)
theorem u_query_reader_must : Tri Tryz.prog f_query_reader_must (s_rmust).pt :=
  tri_walkRDF (S := tab [(f_query_reader_take, s_rtake)]) (tab_ok (tab_cons u_query_reader_take tab_nil)) ok_query_reader_must (fun _ => Nat.le_of_ble_eq_true rfl) (w_reader_must rfl)
theorem u_query_reader_text : Tri Tryz.prog f_query_reader_text (s_rtext).pt :=
  tri_walkRDF (S := tab [(f_query_reader_next, s_rnext)]) (tab_ok (tab_cons u_query_reader_next tab_nil)) ok_query_reader_text (fun _ => Nat.le_of_ble_eq_true rfl) (w_reader_text rfl)
theorem u_query_reader_name : Tri Tryz.prog f_query_reader_name (s_rname).pt :=
  tri_walkRDF (S := tab [(f_query_reader_text, s_rtext)]) (tab_ok (tab_cons u_query_reader_text tab_nil)) ok_query_reader_name (fun _ => Nat.le_of_ble_eq_true rfl) (w_reader_name rfl)
theorem u_query_reader_fold : Tri Tryz.prog f_query_reader_fold (s_rfold).pt :=
  tri_walkRDF (S := tab [(f_query_reader_take, s_rtake)]) (tab_ok (tab_cons u_query_reader_take tab_nil)) ok_query_reader_fold (fun _ => Nat.le_of_ble_eq_true rfl) (w_reader_fold rfl)
theorem u_query_conds : Tri Tryz.prog f_query_conds (s_conds).pt :=
  tri_walk (S := tab []) (tab_ok tab_nil) ok_query_conds (fun _ => Nat.le_of_ble_eq_true rfl) (w_conds)
theorem u_query_reader_atom : Tri Tryz.prog f_query_reader_atom (s_ratom).pt :=
  tri_walkRDF (S := tab [(f_query_reader_take, s_rtake), (f_query_reader_name, s_rname), (f_query_reader_must, s_rmust), (f_query_reader_text, s_rtext), (f_query_reader_word, s_rword), (f_query_reader_next, s_rnext), (f_query_reader_fold, s_rfold)]) (tab_ok (tab_cons u_query_reader_take (tab_cons u_query_reader_name (tab_cons u_query_reader_must (tab_cons u_query_reader_text (tab_cons u_query_reader_word (tab_cons u_query_reader_next (tab_cons u_query_reader_fold tab_nil)))))))) ok_query_reader_atom (fun _ => Nat.le_of_ble_eq_true rfl) (w_reader_atom rfl rfl rfl rfl rfl rfl rfl)
theorem a_query_reader_and {N : Rdr → Option (Rdr × Cond)} (h : Tri Tryz.prog f_query_reader_not (s_rnot N).pt) : Tri Tryz.prog f_query_reader_and (s_rand N).pt :=
  tri_walkRDF (S := tab [(f_query_reader_take, s_rtake), (f_query_reader_not, s_rnot N), (f_query_conds, s_conds)]) (tab_ok (tab_cons u_query_reader_take (tab_cons h (tab_cons u_query_conds tab_nil)))) ok_query_reader_and (fun _ => Nat.le_of_ble_eq_true rfl) (w_reader_and N rfl rfl rfl)
theorem a_query_reader_or {N : Rdr → Option (Rdr × Cond)} (h : Tri Tryz.prog f_query_reader_not (s_rnot N).pt) : Tri Tryz.prog f_query_reader_or (s_ror N).pt :=
  tri_walkRDF (S := tab [(f_query_reader_take, s_rtake), (f_query_reader_and, s_rand N), (f_query_conds, s_conds)]) (tab_ok (tab_cons u_query_reader_take (tab_cons (a_query_reader_and h) (tab_cons u_query_conds tab_nil)))) ok_query_reader_or (fun _ => Nat.le_of_ble_eq_true rfl) (w_reader_or N rfl rfl rfl)
theorem r_query_reader_not : ∀ n, Tri Tryz.prog f_query_reader_not (s_rnot (notRN n)).pt
  | 0 => rd_void fun s z => rfl
  | n + 1 => tri_walkRDF (S := tab [(f_query_reader_take, s_rtake), (f_query_reader_not, s_rnot (notRN n)), (f_query_reader_must, s_rmust), (f_query_reader_or, s_ror (notRN n)), (f_query_reader_atom, s_ratom)]) (tab_ok (tab_cons u_query_reader_take (tab_cons (r_query_reader_not n) (tab_cons u_query_reader_must (tab_cons (a_query_reader_or (r_query_reader_not n)) (tab_cons u_query_reader_atom tab_nil)))))) ok_query_reader_not (fun _ => Nat.le_of_ble_eq_true rfl) (w_reader_not (notRN n) (orR (notRN n)) rfl rfl rfl rfl rfl)
theorem u_query_patterns : Tri Tryz.prog f_query_patterns (s_patterns).pt :=
  tri_walk (S := tab []) (tab_ok tab_nil) ok_query_patterns (fun _ => Nat.le_of_ble_eq_true rfl) (w_patterns)
theorem u_query_reader_begins : Tri Tryz.prog f_query_reader_begins (s_rbegins).pt :=
  tri_walkRDF (S := tab [(f_query_reader_sign, s_rsign), (f_query_reader_word, s_rword), (f_query_reader_peek, s_rpeek)]) (tab_ok (tab_cons u_query_reader_sign (tab_cons u_query_reader_word (tab_cons u_query_reader_peek tab_nil)))) ok_query_reader_begins (fun _ => Nat.le_of_ble_eq_true rfl) (w_reader_begins rfl rfl rfl)
theorem r_query_reader_alt : ∀ n, Tri Tryz.prog f_query_reader_alt (s_ralt (altRN n)).pt
  | 0 => rd_void fun s z => rfl
  | n + 1 =>
    have h0 : Tri Tryz.prog f_query_reader_token (s_rtoken (orR (notRN (n + 1)))).pt := tri_walkRDF (S := tab [(f_query_reader_take, s_rtake), (f_query_reader_sign, s_rsign), (f_query_reader_must, s_rmust), (f_query_reader_or, s_ror (notRN (n + 1))), (f_query_reader_text, s_rtext), (f_query_reader_fold, s_rfold)]) (tab_ok (tab_cons u_query_reader_take (tab_cons u_query_reader_sign (tab_cons u_query_reader_must (tab_cons (a_query_reader_or (r_query_reader_not (n + 1))) (tab_cons u_query_reader_text (tab_cons u_query_reader_fold tab_nil))))))) ok_query_reader_token (fun _ => Nat.le_of_ble_eq_true rfl) (w_reader_token (orR (notRN (n + 1))) rfl rfl rfl rfl rfl rfl)
    have h1 : Tri Tryz.prog f_query_reader_item (s_ritem (altRN n) (orR (notRN (n + 1)))).pt := tri_walkRDF (S := tab [(f_query_reader_take, s_rtake), (f_query_reader_name, s_rname), (f_query_reader_must, s_rmust), (f_query_reader_token, s_rtoken (orR (notRN (n + 1)))), (f_query_reader_alt, s_ralt (altRN n))]) (tab_ok (tab_cons u_query_reader_take (tab_cons u_query_reader_name (tab_cons u_query_reader_must (tab_cons h0 (tab_cons (r_query_reader_alt n) tab_nil)))))) ok_query_reader_item (fun _ => Nat.le_of_ble_eq_true rfl) (w_reader_item (altRN n) (orR (notRN (n + 1))) rfl rfl rfl rfl rfl)
    have h2 : Tri Tryz.prog f_query_reader_rep (s_rrep (altRN n) (orR (notRN (n + 1)))).pt := tri_walkRDF (S := tab [(f_query_reader_take, s_rtake), (f_query_reader_item, s_ritem (altRN n) (orR (notRN (n + 1))))]) (tab_ok (tab_cons u_query_reader_take (tab_cons h1 tab_nil))) ok_query_reader_rep (fun _ => Nat.le_of_ble_eq_true rfl) (w_reader_rep _ _ rfl rfl)
    have h3 : Tri Tryz.prog f_query_reader_seq (s_rseq (altRN n) (orR (notRN (n + 1)))).pt := tri_walkRDF (S := tab [(f_query_reader_begins, s_rbegins), (f_query_reader_rep, s_rrep (altRN n) (orR (notRN (n + 1)))), (f_query_patterns, s_patterns)]) (tab_ok (tab_cons u_query_reader_begins (tab_cons h2 (tab_cons u_query_patterns tab_nil)))) ok_query_reader_seq (fun _ => Nat.le_of_ble_eq_true rfl) (w_reader_seq _ _ rfl rfl rfl)
    tri_walkRDF (S := tab [(f_query_reader_take, s_rtake), (f_query_reader_seq, s_rseq (altRN n) (orR (notRN (n + 1)))), (f_query_patterns, s_patterns)]) (tab_ok (tab_cons u_query_reader_take (tab_cons h3 (tab_cons u_query_patterns tab_nil)))) ok_query_reader_alt (fun _ => Nat.le_of_ble_eq_true rfl) (w_reader_alt _ _ rfl rfl rfl)
theorem u_query_filterWords : Tri Tryz.prog f_query_filterWords (s_qfilts).pt :=
  tri_walk (S := tab []) (tab_ok tab_nil) ok_query_filterWords (fun _ => Nat.le_of_ble_eq_true rfl) (w_qfilts)
theorem u_query_reader_query : Tri Tryz.prog f_query_reader_query (s_rquery 10).pt :=
  tri_walkRDF (S := tab [(f_query_reader_next, s_rnext), (f_query_reader_alt, s_ralt (altRN 10)), (f_query_reader_take, s_rtake), (f_query_reader_sign, s_rsign), (f_query_reader_word, s_rword), (f_query_filterWords, s_qfilts)]) (tab_ok (tab_cons u_query_reader_next (tab_cons (r_query_reader_alt 10) (tab_cons u_query_reader_take (tab_cons u_query_reader_sign (tab_cons u_query_reader_word (tab_cons u_query_filterWords tab_nil))))))) ok_query_reader_query (fun _ => Nat.le_of_ble_eq_true rfl) (w_reader_query 10 rfl rfl rfl rfl rfl rfl)
theorem u_query_Parse : Tri Tryz.prog f_query_Parse (s_qParse 10).pt := t_query_Parse (S := tab [(f_query_reader_query, s_rquery 10)]) (tab_ok (tab_cons u_query_reader_query tab_nil)) 10 rfl
theorem u_strings_Replace : Tri Tryz.prog f_strings_Replace (s_replace).pt :=
  tri_walk (S := tab [(f_strings_Count, s_count0)]) (tab_ok (tab_cons t_strings_Count tab_nil)) ok_strings_Replace (fun _ => Nat.le_of_ble_eq_true rfl) (w_strings_Replace rfl)
theorem u_strings_ReplaceAll : Tri Tryz.prog f_strings_ReplaceAll (s_replAll).pt :=
  tri_walk (S := tab [(f_strings_Replace, s_replace)]) (tab_ok (tab_cons u_strings_Replace tab_nil)) ok_strings_ReplaceAll (fun _ => Nat.le_of_ble_eq_true rfl) (w_strings_ReplaceAll rfl)
theorem u_query_writer_str : Tri Tryz.prog f_query_writer_str (s_wStr).pt :=
  tri_walkW (S := tab [(f_strings_ReplaceAll, s_replAll), (f_strings_Builder_WriteString, s_wstr)]) (tab_ok (tab_cons u_strings_ReplaceAll (tab_cons t_WriteString tab_nil))) ok_query_writer_str (fun _ => Nat.le_of_ble_eq_true rfl) (w_writer_str rfl rfl)
theorem u_query_writer_value : Tri Tryz.prog f_query_writer_value (s_wValue).pt :=
  tri_walkW (S := tab [(f_query_writer_str, s_wStr), (f_strings_Builder_WriteString, s_wstr)]) (tab_ok (tab_cons u_query_writer_str (tab_cons t_WriteString tab_nil))) ok_query_writer_value (fun _ => Nat.le_of_ble_eq_true rfl) (w_writer_value rfl rfl)
theorem u_query_writer_cond : Tri Tryz.prog f_query_writer_cond (s_wCond).pt :=
  tri_walkW (S := tab [(f_query_writer_value, s_wValue), (f_strings_Builder_WriteString, s_wstr)]) (tab_ok (tab_cons u_query_writer_value (tab_cons t_WriteString tab_nil))) ok_query_writer_cond (fun _ => Nat.le_of_ble_eq_true rfl) (w_writer_cond rfl rfl)
theorem u_query_writer_token : Tri Tryz.prog f_query_writer_token (s_wTok).pt :=
  tri_walkW (S := tab [(f_query_writer_cond, s_wCond), (f_strings_Builder_WriteString, s_wstr)]) (tab_ok (tab_cons u_query_writer_cond (tab_cons t_WriteString tab_nil))) ok_query_writer_token (fun _ => Nat.le_of_ble_eq_true rfl) (w_writer_token rfl rfl)
theorem r_query_writer_pattern : ∀ n, Tri Tryz.prog f_query_writer_pattern (s_wPat (patT n)).pt
  | 0 => wr_void fun z => rfl
  | n + 1 =>
    have h1 : Tri Tryz.prog f_query_writer_pattern_2 (s_wCl (patCT (patT n))).pt := tri_walkI (S := tab [(f_query_writer_pattern, s_wPat (patT n))]) (tab_ok (tab_cons (r_query_writer_pattern n) tab_nil)) ok_query_writer_pattern_2 (fun id b ds t h => by unfold clG at h; split at h <;> first | (exact Nat.le_of_ble_eq_true rfl) | cases h) (w_writer_pattern_2 (patT n) rfl)
    have h2 : Tri Tryz.prog f_query_writer_in (s_wIn (CTp (patT n))).pt := tri_walkI (S := tab [(f_strings_Builder_WriteString, s_wstr), (f_query_writer_pattern_2, s_wCl (patCT (patT n)))]) (tab_ok (tab_cons t_WriteString (tab_cons h1 tab_nil))) ok_query_writer_in (fun id b ds t h => by unfold inG at h; split at h <;> first | (exact Nat.le_of_ble_eq_true rfl) | cases h) (w_writer_in (CTp (patT n)) rfl fun g cs t h => by
      unfold CTp at h
      split at h
      · rename_i e; subst e; rfl
      · cases h)
    tri_walkW (S := tab [(f_query_writer_token, s_wTok), (f_strings_Builder_WriteString, s_wstr), (f_query_writer_in, s_wIn (CTp (patT n)))]) (tab_ok (tab_cons u_query_writer_token (tab_cons t_WriteString (tab_cons h2 tab_nil)))) ok_query_writer_pattern (fun _ => Nat.le_of_ble_eq_true rfl) (w_writer_pattern (patT n) rfl rfl rfl)
theorem r_query_copied : ∀ n, Tri Tryz.prog f_query_copied (s_copied n).pt
  | 0 => spc_void fun x h => h
  | n + 1 => tri_walk (S := tab [(f_query_copied, s_copied n)]) (tab_ok (tab_cons (r_query_copied n) tab_nil)) ok_query_copied (fun _ => Nat.le_of_ble_eq_true rfl) (w_query_copied n rfl)
theorem u_query_copied : Tri Tryz.prog f_query_copied (s_copiedA).pt :=
  tri_ex (fun n => r_query_copied n) (spc_ex (fun x h => h))
theorem u_query_clone : Tri Tryz.prog f_query_clone (s_clone).pt :=
  tri_walk (S := tab [(f_query_copied, s_copiedA)]) (tab_ok (tab_cons u_query_copied tab_nil)) ok_query_clone (fun _ => Nat.le_of_ble_eq_true rfl) (w_query_clone rfl)
theorem r_query_leaves : ∀ n, Tri Tryz.prog f_query_leaves (i_leavesQ n).pt
  | 0 => tri_void fun d ds H K ⟨id, v, l, a, x, h1, h2, h3, h4, h5⟩ => pd0 h4.1
  | n + 1 => tri_walkI2 (S := tab [(f_query_leaves, i_leavesQ n), (f_query_clone, s_clone)]) (tab_ok (tab_cons (r_query_leaves n) (tab_cons u_query_clone tab_nil))) ok_query_leaves (by decide) (w_query_leaves n rfl rfl)
theorem u_query_leaves_i : Tri Tryz.prog f_query_leaves i_leavesQA.pt := tri_ex (fun n => r_query_leaves n) fun d ds H K ⟨id, v, l, a, x, h1, h2, h3, h4, h5⟩ => ⟨pDep x, id, v, l, a, x, h1, h2, h3, ⟨Nat.le_refl _, h4⟩, h5⟩
theorem u_query_leaves : Tri Tryz.prog f_query_leaves s_leavesQ.pt := tri_or (tri_walkF (S := tab [(f_query_leaves, i_leavesQA), (f_query_clone, s_clone)]) (tab_ok (tab_cons u_query_leaves_i (tab_cons u_query_clone tab_nil))) ok_query_leaves (fun _ => Nat.le_of_ble_eq_true rfl) (w_query_leavesF rfl rfl)) u_query_leaves_i
theorem u_condition_shape : Tri Tryz.prog f_condition_shape (s_cshape).pt :=
  tri_walk (S := tab []) (tab_ok tab_nil) ok_condition_shape (fun _ => Nat.le_of_ble_eq_true rfl) (w_condition_shape)
theorem u_condition_Shape_1 : Tri Tryz.prog f_condition_Shape_1 (s_cShape1).pt :=
  tri_walk (S := tab [(f_condition_shape, s_cshape)]) (tab_ok (tab_cons u_condition_shape tab_nil)) ok_condition_Shape_1 (fun _ => Nat.le_of_ble_eq_true rfl) (w_condition_Shape_1 rfl)
theorem u_condition_measure : Tri Tryz.prog f_condition_measure (s_cmeasure).pt :=
  tri_walk (S := tab []) (tab_ok tab_nil) ok_condition_measure (fun _ => Nat.le_of_ble_eq_true rfl) (w_condition_measure)
theorem u_condition_walk : Tri Tryz.prog f_condition_walk (s_cwalk).pt :=
  tri_walk (S := tab [(f_condition_Shape_1, s_cShape1)]) (tab_ok (tab_cons u_condition_Shape_1 tab_nil)) ok_condition_walk (fun _ => Nat.le_of_ble_eq_true rfl) (w_condition_walk rfl)
theorem u_condition_Shape : Tri Tryz.prog f_condition_Shape (s_cShape).pt :=
  tri_walk (S := tab [(f_condition_measure, s_cmeasure), (f_condition_walk, s_cwalk)]) (tab_ok (tab_cons u_condition_measure (tab_cons u_condition_walk tab_nil))) ok_condition_Shape (fun _ => Nat.le_of_ble_eq_true rfl) (w_condition_Shape rfl rfl)
theorem u_query_Format_1 : Tri Tryz.prog f_query_Format_1 (s_Format1).pt :=
  tri_walk (S := tab [(f_condition_Shape, s_cShape)]) (tab_ok (tab_cons u_condition_Shape tab_nil)) ok_query_Format_1 (fun _ => Nat.le_of_ble_eq_true rfl) (w_query_Format_1 rfl)
theorem u_query_none : Tri Tryz.prog f_query_none (s_none).pt :=
  tri_walk (S := tab []) (tab_ok tab_nil) ok_query_none (fun _ => Nat.le_of_ble_eq_true rfl) (w_query_none)
theorem u_query_Sound : Tri Tryz.prog f_query_Sound (s_Sound).pt :=
  tri_walk (S := tab [(f_query_none, s_none)]) (tab_ok (tab_cons u_query_none tab_nil)) ok_query_Sound (fun _ => Nat.le_of_ble_eq_true rfl) (w_query_Sound rfl)
theorem u_slices_IndexFunc_Filter : Tri Tryz.prog f_slices_IndexFunc_Filter (s_IdxF).pt :=
  tri_walk (S := tab []) (tab_ok tab_nil) ok_slices_IndexFunc_Filter (fun _ => Nat.le_of_ble_eq_true rfl) (w_slices_IndexFunc_Filter)
theorem u_slices_ContainsFunc_Filter : Tri Tryz.prog f_slices_ContainsFunc_Filter (s_ConF).pt :=
  tri_walk (S := tab [(f_slices_IndexFunc_Filter, s_IdxF)]) (tab_ok (tab_cons u_slices_IndexFunc_Filter tab_nil)) ok_slices_ContainsFunc_Filter (fun _ => Nat.le_of_ble_eq_true rfl) (w_slices_ContainsFunc_Filter rfl)
def Fm1 : Nat → Spc := tab [(f_query_Format_1, s_Format1)]
theorem u_query_Format : Tri Tryz.prog f_query_Format (s_Format 10).pt :=
  tri_walk (S := tab [(f_query_Shape, s_Shape), (f_slices_ContainsFunc_Filter, s_ConF), (f_query_Sound, s_Sound), (f_query_leaves, s_leavesQ), (f_slices_ContainsFunc_Pattern, s_ConP Fm1), (f_query_writer_pattern, s_wPat (patT 10)), (f_strings_Builder_String, s_string)]) (tab_ok (tab_cons u_query_Shape (tab_cons u_slices_ContainsFunc_Filter (tab_cons u_query_Sound (tab_cons u_query_leaves (tab_cons (con_of (S := Fm1) (tab_ok (tab_cons u_query_Format_1 tab_nil))) (tab_cons (r_query_writer_pattern 10) (tab_cons t_String tab_nil)))))))) ok_query_Format (fun _ => Nat.le_of_ble_eq_true rfl) (w_query_Format (S0 := Fm1) 10 rfl rfl rfl rfl rfl rfl rfl rfl)
theorem u_law23_known : Tri Tryz.prog f_law23_known (s_known23).pt :=
  tri_walk (S := tab [(f_query_Parse, s_qParse 10), (f_query_Size, s_r23_Size), (f_query_Format, s_Format 10)]) (tab_ok (tab_cons u_query_Parse (tab_cons u_query_Size (tab_cons u_query_Format tab_nil)))) ok_law23_known (fun _ => Nat.le_of_ble_eq_true rfl) (w_law23_known rfl rfl rfl)
theorem r2_m_Tape_inner : ∀ n, Tri Tryz.prog f_m_Tape_inner (s_m_inner2 n).pt
  | 0 => spc_void fun x h => absurd h.1 (Nat.not_lt_zero _)
  | n + 1 => tri_walk (S := tab [(f_m_Tape_Next, s_m_Next), (f_m_Type, s_m_TypeN), (f_m_Tape_inner, s_m_inner2 n)]) (tab_ok (tab_cons t_m_Tape_Next (tab_cons u_m_Type (tab_cons (r2_m_Tape_inner n) tab_nil)))) ok_m_Tape_inner (fun _ => Nat.le_of_ble_eq_true rfl) (w_m_inner2 n rfl rfl rfl)
theorem u2_m_Tape_inner : Tri Tryz.prog f_m_Tape_inner (s_m_innerA2).pt :=
  tri_ex (fun n => r2_m_Tape_inner n) (spc_ex (fun x h => h))
theorem u2_m_Tape_Cond : Tri Tryz.prog f_m_Tape_Cond (s_m_Cond2).pt :=
  tri_walk (S := tab [(f_m_Tape_Next, s_m_Next), (f_m_Tape_inner, s_m_innerA2)]) (tab_ok (tab_cons t_m_Tape_Next (tab_cons u2_m_Tape_inner tab_nil))) ok_m_Tape_Cond (fun _ => Nat.le_of_ble_eq_true rfl) (w_m_Cond2 rfl rfl)
theorem r2_m_Tape_Pattern : ∀ n, Tri Tryz.prog f_m_Tape_Pattern (s_m_Pattern2 n).pt
  | 0 => spc_void fun x h => absurd h.1 (Nat.not_lt_zero _)
  | n + 1 => tri_walk (S := tab [(f_m_Tape_Next, s_m_Next), (f_m_Type, s_m_TypeN), (f_m_Tape_Cond, s_m_Cond2), (f_m_Tape_Pattern, s_m_Pattern2 n)]) (tab_ok (tab_cons t_m_Tape_Next (tab_cons u_m_Type (tab_cons u2_m_Tape_Cond (tab_cons (r2_m_Tape_Pattern n) tab_nil))))) ok_m_Tape_Pattern (fun _ => Nat.le_of_ble_eq_true rfl) (w_m_Pattern2 n rfl rfl rfl rfl)
theorem u2_m_Tape_Pattern : Tri Tryz.prog f_m_Tape_Pattern (s_m_PatternA2).pt :=
  tri_ex (fun n => r2_m_Tape_Pattern n) (spc_ex (fun x h => ⟨x.2.1.toNat + 1, Nat.lt_succ_self _, h⟩))
theorem r_m_replace : ∀ n, Tri Tryz.prog f_m_replace (s_m_replace2 n).pt
  | 0 => spc_void fun x h => absurd h.1 (Nat.not_lt_zero _)
  | n + 1 => tri_walk (S := tab [(f_m_replace, s_m_replace2 n)]) (tab_ok (tab_cons (r_m_replace n) tab_nil)) ok_m_replace (fun _ => Nat.le_of_ble_eq_true rfl) (w_m_replace2 n rfl)
theorem u_m_replace : Tri Tryz.prog f_m_replace (s_m_replaceA2).pt :=
  tri_ex (fun n => r_m_replace n) (spc_ex (fun x h => by obtain ⟨n, h⟩ := h; exact ⟨n + 1, Nat.succ_pos _, h⟩))
theorem r_m_bind : ∀ n, Tri Tryz.prog f_m_bind (s_m_bind2 n).pt
  | 0 => spc_void fun x h => absurd h.1 (Nat.not_lt_zero _)
  | n + 1 => tri_walk (S := tab [(f_m_replace, s_m_replaceA2), (f_m_bind, s_m_bind2 n)]) (tab_ok (tab_cons u_m_replace (tab_cons (r_m_bind n) tab_nil))) ok_m_bind (fun _ => Nat.le_of_ble_eq_true rfl) (w_m_bind2 n rfl rfl)
theorem u_m_bind : Tri Tryz.prog f_m_bind (s_m_bindA2).pt :=
  tri_ex (fun n => r_m_bind n) (spc_ex (fun x h => by obtain ⟨n, h⟩ := h; exact ⟨n + 1, Nat.succ_pos _, h⟩))
theorem r_m_Bound : ∀ n, Tri Tryz.prog f_m_Bound (i_Bound2 n).pt
  | 0 => tri_void fun d ds H K ⟨id, v, l, a, x, h1, h2, h3, h4, h5⟩ => pd0 h4.1
  | n + 1 => tri_walkI2 (S := tab [(f_m_Bound, i_Bound2 n)]) (tab_ok (tab_cons (r_m_Bound n) tab_nil)) ok_m_Bound (by decide) (w_m_BoundI2 n rfl)
theorem u_m_Bound_i : Tri Tryz.prog f_m_Bound i_BoundA2.pt := tri_ex (fun n => r_m_Bound n) fun d ds H K ⟨id, v, l, a, x, h1, h2, h3, h4, h5⟩ => ⟨pDep x, id, v, l, a, x, h1, h2, h3, ⟨Nat.le_refl _, h4⟩, h5⟩
theorem u_m_Bound : Tri Tryz.prog f_m_Bound s_Bound2.pt := tri_or (tri_walkF (S := tab [(f_m_Bound, i_BoundA2)]) (tab_ok (tab_cons u_m_Bound_i tab_nil)) ok_m_Bound (fun _ => Nat.le_of_ble_eq_true rfl) (w_m_BoundF2 rfl)) u_m_Bound_i
theorem r_m_Tape_Constraint : ∀ n, Tri Tryz.prog f_m_Tape_Constraint (s_m_Constraint2 n).pt
  | 0 => spc_void fun x h => absurd h.1 (Nat.not_lt_zero _)
  | n + 1 => tri_walk (S := tab [(f_m_Tape_Next, s_m_Next), (f_m_Type, s_m_TypeN), (f_m_Tape_Constraint, s_m_Constraint2 n)]) (tab_ok (tab_cons t_m_Tape_Next (tab_cons u_m_Type (tab_cons (r_m_Tape_Constraint n) tab_nil)))) ok_m_Tape_Constraint (fun _ => Nat.le_of_ble_eq_true rfl) (w_m_Constraint2 n rfl rfl rfl)
theorem u_m_Tape_Constraint : Tri Tryz.prog f_m_Tape_Constraint (s_m_ConstraintA2).pt :=
  tri_ex (fun n => r_m_Tape_Constraint n) (spc_ex (fun x h => h))
theorem u_m_Tape_Filter : Tri Tryz.prog f_m_Tape_Filter (s_m_Filter2).pt :=
  tri_walk (S := tab [(f_m_Tape_Next, s_m_Next), (f_m_Type, s_m_TypeN)]) (tab_ok (tab_cons t_m_Tape_Next (tab_cons u_m_Type tab_nil))) ok_m_Tape_Filter (fun _ => Nat.le_of_ble_eq_true rfl) (w_m_Filter2 rfl rfl)
theorem u_m_Tape_Query : Tri Tryz.prog f_m_Tape_Query (s_m_Query2).pt :=
  tri_walk (S := tab [(f_m_Tape_Next, s_m_Next), (f_m_Tape_Pattern, s_m_PatternA2), (f_m_Bound, s_Bound2), (f_m_bind, s_m_bindA2), (f_m_Tape_Constraint, s_m_ConstraintA2), (f_m_Tape_Filter, s_m_Filter2)]) (tab_ok (tab_cons t_m_Tape_Next (tab_cons u2_m_Tape_Pattern (tab_cons u_m_Bound (tab_cons u_m_bind (tab_cons u_m_Tape_Constraint (tab_cons u_m_Tape_Filter tab_nil))))))) ok_m_Tape_Query (fun _ => Nat.le_of_ble_eq_true rfl) (w_m_Query2 rfl rfl rfl rfl rfl rfl)
theorem u_r04_First : Tri Tryz.prog f_r04_First (s_begins).pt :=
  tri_walk (S := tab []) (tab_ok tab_nil) ok_r04_First (fun _ => Nat.le_of_ble_eq_true rfl) (w_r04_FirstF)
theorem u_r04_Next : Tri Tryz.prog f_r04_Next (s_goesOn).pt :=
  tri_walk (S := tab [(f_r04_First, s_begins)]) (tab_ok (tab_cons u_r04_First tab_nil)) ok_r04_Next (fun _ => Nat.le_of_ble_eq_true rfl) (w_r04_NextF rfl)
theorem u_r04_ValidName : Tri Tryz.prog f_r04_ValidName (s_validN).pt :=
  tri_walk (S := tab [(f_r04_First, s_begins), (f_r04_Next, s_goesOn)]) (tab_ok (tab_cons u_r04_First (tab_cons u_r04_Next tab_nil))) ok_r04_ValidName (fun _ => Nat.le_of_ble_eq_true rfl) (w_r04_ValidNameF rfl rfl)
theorem r_r22_Same : ∀ n, Tri Tryz.prog f_r22_Same (s_sameC n).pt
  | 0 => spc_void fun x h => cd0 h
  | n + 1 => tri_walk (S := tab [(f_r22_Same, s_sameC n)]) (tab_ok (tab_cons (r_r22_Same n) tab_nil)) ok_r22_Same (fun _ => Nat.le_of_ble_eq_true rfl) (w_r22_Same n rfl)
theorem u_r22_Same : Tri Tryz.prog f_r22_Same (s_sameA).pt :=
  tri_ex (fun n => r_r22_Same n) (spc_ex (fun x _ => ⟨cDep x.1, Nat.le_refl _⟩))
theorem u_r23_shape : Tri Tryz.prog f_r23_shape (s_r23_shape).pt :=
  tri_walk (S := tab [(f_r22_Same, s_sameA)]) (tab_ok (tab_cons u_r22_Same tab_nil)) ok_r23_shape (fun _ => Nat.le_of_ble_eq_true rfl) (w_r23_shape rfl)
theorem r_r23_shapes : ∀ n, Tri Tryz.prog f_r23_shapes (s_shapes n).pt
  | 0 => spc_void fun x h => pd0 h.1
  | n + 1 => tri_walk (S := tab [(f_r23_shape, s_r23_shape), (f_r23_shapes, s_shapes n)]) (tab_ok (tab_cons u_r23_shape (tab_cons (r_r23_shapes n) tab_nil))) ok_r23_shapes (fun _ => Nat.le_of_ble_eq_true rfl) (w_r23_shapes n rfl rfl)
theorem u_r23_shapes : Tri Tryz.prog f_r23_shapes (s_shapesA).pt :=
  tri_ex (fun n => r_r23_shapes n) (spc_ex (fun x h => ⟨pDep x.1, Nat.le_refl _, h⟩))
theorem r_r23_names : ∀ n, Tri Tryz.prog f_r23_names (s_names n).pt
  | 0 => spc_void fun x h => pd0 h
  | n + 1 => tri_walk (S := tab [(f_r04_ValidName, s_validN), (f_r23_names, s_names n)]) (tab_ok (tab_cons u_r04_ValidName (tab_cons (r_r23_names n) tab_nil))) ok_r23_names (fun _ => Nat.le_of_ble_eq_true rfl) (w_r23_names n rfl rfl)
theorem u_r23_names : Tri Tryz.prog f_r23_names (s_namesA).pt :=
  tri_ex (fun n => r_r23_names n) (spc_ex (fun x _ => ⟨pDep x, Nat.le_refl _⟩))
theorem r_r23_numbers : ∀ n, Tri Tryz.prog f_r23_numbers (s_numbers n).pt
  | 0 => spc_void fun x h => pd0 h
  | n + 1 => tri_walk (S := tab [(f_r23_numbers, s_numbers n)]) (tab_ok (tab_cons (r_r23_numbers n) tab_nil)) ok_r23_numbers (fun _ => Nat.le_of_ble_eq_true rfl) (w_r23_numbers n rfl)
theorem u_r23_numbers : Tri Tryz.prog f_r23_numbers (s_numbersA).pt :=
  tri_ex (fun n => r_r23_numbers n) (spc_ex (fun x _ => ⟨pDep x, Nat.le_refl _⟩))
theorem u_r23_IsPattern : Tri Tryz.prog f_r23_IsPattern (s_r23_IsPattern).pt :=
  tri_walk (S := tab [(f_r23_shapes, s_shapesA), (f_r23_names, s_namesA), (f_r23_numbers, s_numbersA)]) (tab_ok (tab_cons u_r23_shapes (tab_cons u_r23_names (tab_cons u_r23_numbers tab_nil)))) ok_r23_IsPattern (fun _ => Nat.le_of_ble_eq_true rfl) (w_r23_IsPattern rfl rfl rfl)
theorem r_r23_leaves : ∀ n, Tri Tryz.prog f_r23_leaves (i_leaves n).pt
  | 0 => tri_void fun d ds H K ⟨id, v, l, a, x, h1, h2, h3, h4, h5⟩ => pd0 h4.1
  | n + 1 => tri_walkI2 (S := tab [(f_r23_leaves, i_leaves n)]) (tab_ok (tab_cons (r_r23_leaves n) tab_nil)) ok_r23_leaves (by decide) (w_r23_leaves n rfl)
theorem u_r23_leaves_i : Tri Tryz.prog f_r23_leaves i_leavesA.pt := tri_ex (fun n => r_r23_leaves n) fun d ds H K ⟨id, v, l, a, x, h1, h2, h3, h4, h5⟩ => ⟨pDep x, id, v, l, a, x, h1, h2, h3, ⟨Nat.le_refl _, h4⟩, h5⟩
theorem u_r23_leaves : Tri Tryz.prog f_r23_leaves s_leaves.pt := tri_or (tri_walkF (S := tab [(f_r23_leaves, i_leavesA)]) (tab_ok (tab_cons u_r23_leaves_i tab_nil)) ok_r23_leaves (fun _ => Nat.le_of_ble_eq_true rfl) (w_r23_leavesF rfl)) u_r23_leaves_i
theorem u_r23_Leaves : Tri Tryz.prog f_r23_Leaves (s_r23_Leaves).pt :=
  tri_walk (S := tab [(f_r23_IsPattern, s_r23_IsPattern), (f_r23_leaves, s_leaves)]) (tab_ok (tab_cons u_r23_IsPattern (tab_cons u_r23_leaves tab_nil))) ok_r23_Leaves (fun _ => Nat.le_of_ble_eq_true rfl) (w_r23_Leaves rfl rfl)
theorem r_r23_SamePattern : ∀ n, Tri Tryz.prog f_r23_SamePattern (s_sameP n).pt
  | 0 => spc_void fun x h => pd0 h
  | n + 1 => tri_walk (S := tab [(f_r22_Same, s_sameA), (f_r23_SamePattern, s_sameP n)]) (tab_ok (tab_cons u_r22_Same (tab_cons (r_r23_SamePattern n) tab_nil))) ok_r23_SamePattern (fun _ => Nat.le_of_ble_eq_true rfl) (w_r23_SamePattern n rfl rfl)
theorem u_r23_SamePattern : Tri Tryz.prog f_r23_SamePattern (s_samePA).pt :=
  tri_ex (fun n => r_r23_SamePattern n) (spc_ex (fun x _ => ⟨pDep x.1, Nat.le_refl _⟩))
theorem u_r22_Texts : Tri Tryz.prog f_r22_Texts (s_texts).pt :=
  tri_walk (S := tab []) (tab_ok tab_nil) ok_r22_Texts (fun _ => Nat.le_of_ble_eq_true rfl) (w_r22_Texts)
theorem u_query_Leaves : Tri Tryz.prog f_query_Leaves (s_query_Leaves).pt :=
  tri_walk (S := tab [(f_query_right, s_r23_IsPattern), (f_query_leaves, s_leavesQ)]) (tab_ok (tab_cons u_query_right (tab_cons u_query_leaves tab_nil))) ok_query_Leaves (fun _ => Nat.le_of_ble_eq_true rfl) (w_query_Leaves rfl rfl)
theorem u_has2 : Tri Tryz.prog f_slices_Contains_string s_has2.pt :=
  have h : Tri Tryz.prog f_slices_Contains_string s_hasE.pt := tri_walk (S := tab [(f_slices_Index_string, s_idx_string)]) (tab_ok (tab_cons u_slices_Index_string tab_nil)) ok_slices_Contains_string (fun _ => Nat.le_of_ble_eq_true rfl) (w_slices_ContainsE rfl)
  tri_or h (tri_borrow h rfl fun _ => flat_v _)
theorem r_query_labels : ∀ n, Tri Tryz.prog f_query_labels (i_labels n).pt
  | 0 => tri_void fun d ds H K ⟨id, v, l, a, x, h1, h2, h3, h4, h5⟩ => pd0 h4.1
  | n + 1 => tri_walkI2 (S := tab [(f_slices_Contains_string, s_has2), (f_query_labels, i_labels n)]) (tab_ok (tab_cons u_has2 (tab_cons (r_query_labels n) tab_nil))) ok_query_labels (by decide) (w_query_labels n rfl rfl)
theorem u_query_labels_i : Tri Tryz.prog f_query_labels i_labelsA.pt := tri_ex (fun n => r_query_labels n) fun d ds H K ⟨id, v, l, a, x, h1, h2, h3, h4, h5⟩ => ⟨pDep x, id, v, l, a, x, h1, h2, h3, ⟨Nat.le_refl _, h4⟩, h5⟩
theorem u_query_labels : Tri Tryz.prog f_query_labels s_labels.pt := tri_or (tri_walkF (S := tab [(f_slices_Contains_string, s_has2), (f_query_labels, i_labelsA)]) (tab_ok (tab_cons u_has2 (tab_cons u_query_labels_i tab_nil))) ok_query_labels (fun _ => Nat.le_of_ble_eq_true rfl) (w_query_labelsF rfl rfl)) u_query_labels_i
theorem u_query_Labels : Tri Tryz.prog f_query_Labels (s_query_Labels).pt :=
  tri_walk (S := tab [(f_query_right, s_r23_IsPattern), (f_query_labels, s_labels)]) (tab_ok (tab_cons u_query_right (tab_cons u_query_labels tab_nil))) ok_query_Labels (fun _ => Nat.le_of_ble_eq_true rfl) (w_query_Labels rfl rfl)
theorem t_law23_Leaves : Tri Tryz.prog f_law23_QueryLeaves (spc (a1 (List Int)) (fun _ => True) enc (fun _ (y : Bool) => y = true)).pt :=
  tri_walk (S := tab [(f_m_New, s_m_New), (f_m_Tape_Query, s_m_Query2), (f_query_Leaves, s_query_Leaves), (f_r23_Leaves, s_r23_Leaves), (f_r23_SamePattern, s_samePA), (f_query_Labels, s_query_Labels), (f_r22_Texts, s_texts), (f_law23_known, s_known23)]) (tab_ok (tab_cons t_m_New (tab_cons u_m_Tape_Query (tab_cons u_query_Leaves (tab_cons u_r23_Leaves (tab_cons u_r23_SamePattern (tab_cons u_query_Labels (tab_cons u_r22_Texts (tab_cons u_law23_known tab_nil))))))))) ok_law23_QueryLeaves (fun _ => Nat.le_of_ble_eq_true rfl) (w_law23_QueryLeaves rfl rfl rfl rfl rfl rfl rfl rfl)
end Go.Gv

namespace Go.Gv
open Go.ChangeShapes Go.WideShapes Go.ChangeAt Go.RowKit
set_option linter.unusedVariables false
section
variable {H : Type} {ec : TypeId × Value → H} {P : Program} {w : World} {base : Nat} {spare : Nat → Bool} {held : Bool} {tp I : Nat → Prop}
/-- Cells that stand for the cells of data. -/
def OpR (tp I : Nat → Prop) (w : World) (cs : List Value) (d : D) : Prop := cs.length = d.cells.length ∧ ∀ (k : Nat) (y : Value) (c : D), cs[k]? = some y → d.cells[k]? = some c → y.oneCell' = true ∧ R tp I w y c
theorem OpR.one {y : Value} {d : D} (h : OpR tp I w [y] d) (hd : d.cells = [d]) : R tp I w y d := (h.2 0 y d rfl (by rw [hd]; rfl)).2
theorem op_int {t : TypeId} {fuel : Nat} {cs : List Value} {x : DataW H × List MemPlace} (ht : P.underlying t = some (.int .i64)) (h : DataW.trod ec P w base spare held fuel t cs = some x) : ∃ n : Int, OpR tp I w cs (Cod.enc n) := by
  obtain ⟨n, rfl, _, _⟩ := DataW.trod_int ht h
  refine ⟨n, rfl, fun k y c h1 h2 => ?_⟩
  cases k with
  | zero => cases h1; cases h2; exact ⟨rfl, .v _ rfl (fun s h => by cases h)⟩
  | succ k => simp at h1
theorem op_slice {Y : Type} [Cod Y] {t e : TypeId} (ht : P.underlying t = some (.slice e)) (hc : P.cellsOf e = Cod.wd Y) (h0 : 0 < Cod.wd Y)
    (hel : ∀ (n : Nat) (cs : List Value) (x : DataW H × List MemPlace), DataW.trod ec P w base spare held n e cs = some x → ∃ y : Y, OpR tp I w cs (Cod.enc y)) (hI : ∀ b, b < w.heap.size → I b)
    {fuel : Nat} {cs : List Value} {x : DataW H × List MemPlace} (h : DataW.trod ec P w base spare held fuel t cs = some x) : ∃ l : List Y, OpR tp I w cs (Cod.enc l) := by
  have one : ∀ (v : Value) (l : List Y), v.oneCell' = true → R tp I w v (.list (Cod.wd Y) (l.map Cod.enc)) → OpR tp I w [v] (Cod.enc l) := fun v l h1 h2 => ⟨rfl, fun k y c e1 e2 => by
    cases k with
    | zero => cases e1; cases e2; exact ⟨h1, h2⟩
    | succ k => simp at e1⟩
  rcases DataW.trod_slice ht h with ⟨rfl, _⟩ | ⟨a, len, cap, elems, rest, n, _, rfl, _, _, hl, hm, hlen, hel', _⟩
  · exact ⟨[], one _ [] rfl (.nolist none 0 _)⟩
  · by_cases hz : len = 0
    · subst hz
      exact ⟨[], one _ [] rfl (.nolist (some a) cap _)⟩
    · have each : ∀ i : _root_.Fin len, ∃ p : List Value × Y, w.cells? base (a.add (i * P.cellsOf e)) (P.cellsOf e) = some p.1 ∧ OpR tp I w p.1 (Cod.enc p.2) := fun i => by
        have h1 := hel' i i.2
        rw [List.getElem?_eq_getElem (by omega)] at h1
        obtain ⟨cs', h2, h3⟩ := Option.bind_eq_some_iff.1 h1
        obtain ⟨y, hy⟩ := hel n cs' _ h3
        exact ⟨(cs', y), h2, hy⟩
      obtain ⟨g, hg⟩ := Classical.axiomOfChoice each
      obtain ⟨b, off, spot⟩ := a
      have cellAt : ∀ (i : _root_.Fin len) (j : Nat), j < Cod.wd Y → ∃ v, (g i).1[j]? = some v ∧ w.cell? ((Addr.add ⟨b, off, spot⟩ (i * Cod.wd Y)).add j) = some v := fun i j hj => by
        have h1 := World.cells?_some (hg i).1
        have h2 := h1.2.2 j (by rw [hc]; exact hj)
        have h3 : j < (g i).1.length := by rw [h1.2.1, hc]; exact hj
        refine ⟨(g i).1[j], List.getElem?_eq_getElem h3, ?_⟩
        rw [hc] at h2
        rw [h2, List.getElem?_eq_getElem h3]
      have hs : spot = none := by
        obtain ⟨v, _, h2⟩ := cellAt ⟨0, by omega⟩ 0 h0
        have := World.cell?_spot h2
        simpa [Addr.add] using this
      subst hs
      have hadd : ∀ (o n : Nat), Addr.add ⟨b, o, none⟩ n = ⟨b, o + n, none⟩ := fun o n => by
        unfold Addr.add
        split
        · rename_i e; subst e; rfl
        · rfl
      have cellAt' : ∀ (i : _root_.Fin len) (j : Nat), j < Cod.wd Y → ∃ v, (g i).1[j]? = some v ∧ w.cell? ⟨b, off + (i * Cod.wd Y + j), none⟩ = some v := fun i j hj => by
        obtain ⟨v, h1, h2⟩ := cellAt i j hj
        refine ⟨v, h1, ?_⟩
        rw [hadd, hadd] at h2
        rw [← Nat.add_assoc]
        exact h2
      have hb : b < w.heap.size := by
        obtain ⟨v, _, h2⟩ := cellAt' ⟨0, by omega⟩ 0 h0
        unfold World.cell? at h2
        by_cases hlt : b < w.heap.size
        · exact hlt
        · simp only [Array.getElem?_eq_none (Nat.le_of_not_lt hlt)] at h2
          cases h2
      let es : List Y := List.ofFn fun i => (g i).2
      have hesl : es.length = len := by simp [es]
      have hesi : ∀ i : _root_.Fin len, (es.map Cod.enc)[(i : Nat)]? = some (Cod.enc (g i).2) := fun i => by
        rw [List.getElem?_map]
        have : es[(i : Nat)]? = some (g i).2 := by simp [es]
        rw [this]; rfl
      have hw : ∀ d ∈ es.map Cod.enc, d.kn = true ∧ d.cells.length = Cod.wd Y := fun d hd => by
        obtain ⟨y, _, rfl⟩ := List.mem_map.1 hd
        exact ⟨Cod.kn y, Cod.wid y⟩
      have flatAt : ∀ (k : Nat) (c : D), (flat (es.map Cod.enc))[k]? = some c → ∃ v, w.cell? ⟨b, off + k, none⟩ = some v ∧ v.oneCell' = true ∧ R tp I w v c := fun k c hk => by
        have hkl := (List.getElem?_eq_some_iff.1 hk).1
        rw [flat_length (fun d hd => (hw d hd).2), List.length_map, hesl] at hkl
        have hdm : k = (k / Cod.wd Y) * Cod.wd Y + k % Cod.wd Y := by have := Nat.div_add_mod k (Cod.wd Y); rw [Nat.mul_comm] at this; omega
        have hmod : k % Cod.wd Y < Cod.wd Y := Nat.mod_lt _ h0
        have hq : k / Cod.wd Y < len := Nat.div_lt_of_lt_mul (by rw [Nat.mul_comm]; exact hkl)
        have g1 := flat_get (es := es.map Cod.enc) (fun d hd => (hw d hd).2) (i := k / Cod.wd Y) hmod
        rw [← hdm, hk, hesi ⟨k / Cod.wd Y, hq⟩] at g1
        simp only [Option.bind_some] at g1
        obtain ⟨v, h1, h2⟩ := cellAt' ⟨k / Cod.wd Y, hq⟩ (k % Cod.wd Y) hmod
        simp only at h2
        rw [← hdm] at h2
        exact ⟨v, h2, (hg ⟨k / Cod.wd Y, hq⟩).2.2 _ v c h1 g1.symm⟩
      have hR : R tp I w (.slice (some ⟨b, off, none⟩) len cap) (.list (Cod.wd Y) (es.map Cod.enc)) := by
        have hll : (es.map (Cod.enc (X := Y))).length = len := by simp [hesl]
        rw [← hll]
        have rd : ∀ (k : Nat) (c : D), (flat (es.map Cod.enc))[k]? = some c → w.cell? ⟨b, off + k, none⟩ = some ((w.cell? ⟨b, off + k, none⟩).getD Go.undef) := fun k c hk => by
          obtain ⟨v, h1, _⟩ := flatAt k c hk
          rw [h1]; rfl
        refine .list b off cap _ (es.map Cod.enc) (fun k => (w.cell? ⟨b, off + k, none⟩).getD Go.undef) (hI b hb) (by rw [hll]; exact hl) hm hw rd (fun k c hk => ?_) (fun k c hk => ?_)
        · obtain ⟨v, h1, h2, _⟩ := flatAt k c hk
          rw [h1]; exact h2
        · obtain ⟨v, h1, _, h2⟩ := flatAt k c hk
          rw [h1]; exact h2
      exact ⟨es, one _ es rfl hR⟩
end
end Go.Gv
