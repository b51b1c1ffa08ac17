/- A part of the framework and of the walks: Asm5 C10 T29 V20. -/
import Derived.Test.YtaiffcbkmgfklaaGreatDoorGw20
import Derived.Test.YtaiffcbkmgfklaaGreatDoorGw17
import Derived.Test.YtaiffcbkmgfklaaGreatDoorGw18
import Derived.Test.YtaiffcbkmgfklaaGreatDoorGw12
import Derived.Test.YtaiffcbkmgfklaaGreatDoorGw15
set_option maxRecDepth 100000
set_option linter.unusedVariables false
set_option linter.unusedSimpArgs false
set_option linter.unusedSectionVars false

namespace Go.Gv
open Go.Proofs Cod
theorem tri_ex {P : Program} {f : Nat} {A : Nat → PT} {A' : PT} (h : ∀ n, Tri P f (A n)) (hs : ∀ d ds H K, A' d ds H K → ∃ n, A n d ds H K) : Tri P f A' :=
 fun O tp w vs ds H d K a b c e g hA => (hs d ds H K hA).elim fun n hn => h n O tp w vs ds H d K a b c e g hn
theorem tri_void {P : Program} {f : Nat} {A : PT} (hs : ∀ d ds H K, ¬ A d ds H K) : Tri P f A := fun O tp w vs ds H d K a b c e g hA => absurd hA (hs d ds H K)
theorem spc_ex {X Y : Type} {A : Arg X} {pre : Nat → X → Prop} {pre' : X → Prop} {er : Y → D} {post : X → Y → Prop} (hx : ∀ x, pre' x → ∃ n, pre n x) : ∀ d ds H K, (spc A pre' er post).pt d ds H K → ∃ n, (spc A (pre n) er post).pt d ds H K := by
 intro d ds H K h
 rw [spc_pt] at h
 cases e : A.dec ds with
 | none => rw [e] at h; exact h.elim
 | some x =>
   rw [e] at h
   obtain ⟨h1, h2⟩ := h
   obtain ⟨n, hn⟩ := hx x h1
   exact ⟨n, by rw [spc_pt, e]; exact ⟨hn, h2⟩⟩
theorem spc_void {P : Program} {f : Nat} {X Y : Type} {A : Arg X} {pre : X → Prop} {er : Y → D} {post : X → Y → Prop} (hx : ∀ x, ¬ pre x) : Tri P f (spc A pre er post).pt := tri_void fun d ds H K h => by
 rw [spc_pt] at h
 cases e : A.dec ds with
 | none => rw [e] at h; exact h.elim
 | some x => rw [e] at h; exact hx x h.1
theorem pd0 {p : Pat} (h : pDep p ≤ 0) : False := by rw [pDep_eq] at h; omega
theorem cd0 {p : Cond} (h : cDep p ≤ 0) : False := by rw [cDep_eq] at h; omega
theorem wr_void {P : Program} {f : Nat} {Z : Type} {tw el : Nat} {A : Arg Z} {r : D} {T : Z → Option ByteArray} (hx : ∀ z, T z = none) : Tri P f (wrC tw el A r T).pt := tri_void fun d ds H K ⟨id, b, x, z, ds', h1, h2, h3, h4, h5, hp, h7⟩ => by
 obtain ⟨t, ht, _⟩ := hp
 rw [hx] at ht
 cases ht
theorem t_m_Mod : Tri Tryz.prog f_m_Mod (s_m_Mod).pt :=
 tri_walk (S := tab []) (tab_ok tab_nil) ok_m_Mod (fun _ => Nat.le_of_ble_eq_true rfl) (w_m_Mod)
theorem t_m_Tape_Next : Tri Tryz.prog f_m_Tape_Next s_m_Next.pt := tri_next (S := tab [(f_m_Mod, s_m_Mod)]) (tab_ok (tab_cons t_m_Mod tab_nil)) rfl ok_m_Tape_Next (by decide)
theorem t_m_New : Tri Tryz.prog f_m_New s_m_New.pt := tri_new (tri_walkFB (S := tab []) (tab_ok tab_nil) ok_m_New (by decide) w_m_New)
theorem u_markup_begins : Tri Tryz.prog f_markup_begins (s_begins).pt :=
 tri_walk (S := tab []) (tab_ok tab_nil) ok_markup_begins (fun _ => Nat.le_of_ble_eq_true rfl) (w_markup_begins)
theorem u_markup_goesOn : Tri Tryz.prog f_markup_goesOn (s_goesOn).pt :=
 tri_walk (S := tab [(f_markup_begins, s_begins)]) (tab_ok (tab_cons u_markup_begins tab_nil)) ok_markup_goesOn (fun _ => Nat.le_of_ble_eq_true rfl) (w_markup_goesOn rfl)
theorem u_markup_ValidName : Tri Tryz.prog f_markup_ValidName (s_validN).pt :=
 tri_walk (S := tab [(f_markup_begins, s_begins), (f_markup_goesOn, s_goesOn)]) (tab_ok (tab_cons u_markup_begins (tab_cons u_markup_goesOn tab_nil))) ok_markup_ValidName (fun _ => Nat.le_of_ble_eq_true rfl) (w_markup_ValidName rfl rfl)
theorem u_query_zero : Tri Tryz.prog f_query_zero (s_zero).pt :=
 tri_walk (S := tab []) (tab_ok tab_nil) ok_query_zero (fun _ => Nat.le_of_ble_eq_true rfl) (w_query_zero)
theorem u_query_node : Tri Tryz.prog f_query_node (s_node).pt :=
 tri_walk (S := tab [(f_query_zero, s_zero)]) (tab_ok (tab_cons u_query_zero tab_nil)) ok_query_node (fun _ => Nat.le_of_ble_eq_true rfl) (w_query_node rfl)
theorem u_query_named : Tri Tryz.prog f_query_named (s_named).pt :=
 tri_walk (S := tab [(f_markup_ValidName, s_validN)]) (tab_ok (tab_cons u_markup_ValidName tab_nil)) ok_query_named (fun _ => Nat.le_of_ble_eq_true rfl) (w_query_named rfl)
theorem u_query_ranged : Tri Tryz.prog f_query_ranged (s_ranged).pt :=
 tri_walk (S := tab []) (tab_ok tab_nil) ok_query_ranged (fun _ => Nat.le_of_ble_eq_true rfl) (w_query_ranged)
def N31 : Nat → Spc := tab [(f_query_node, s_node), (f_query_named, s_named), (f_query_ranged, s_ranged)]
def Sh1 (n : Nat) : Nat → Spc := tab [(f_query_shallow_1, s_sh1 n)]
theorem con_of {S : Nat → Spc} (h : ∀ f, Tri Tryz.prog f (S f).pt) : Tri Tryz.prog f_slices_ContainsFunc_Pattern (s_ConP S).pt :=
 tri_walk (S := tab [(f_slices_IndexFunc_Pattern, s_IdxP S)]) (tab_ok (tab_cons (tri_walk (S := S) h ok_slices_IndexFunc_Pattern (fun _ => Nat.le_of_ble_eq_true rfl) w_slices_IndexFunc_Pattern) tab_nil)) ok_slices_ContainsFunc_Pattern (fun _ => Nat.le_of_ble_eq_true rfl) (w_slices_ContainsFunc_Pattern rfl)
theorem r_query_shallow : ∀ n, Tri Tryz.prog f_query_shallow (s_shallow n).pt
 | 0 => spc_void fun x h => pd0 h.1
 | n + 1 =>
   have h1 : Tri Tryz.prog f_query_shallow_1 (s_sh1 n).pt := tri_walk (S := tab [(f_query_shallow, s_shallow n)]) (tab_ok (tab_cons (r_query_shallow n) tab_nil)) ok_query_shallow_1 (fun _ => Nat.le_of_ble_eq_true rfl) (w_query_shallow_1 n rfl)
   tri_walk (S := tab [(f_slices_ContainsFunc_Pattern, s_ConP (Sh1 n))]) (tab_ok (tab_cons (con_of (S := Sh1 n) (tab_ok (tab_cons h1 tab_nil))) tab_nil)) ok_query_shallow (fun _ => Nat.le_of_ble_eq_true rfl) (w_query_shallow (S0 := Sh1 n) n rfl rfl)
theorem u_query_shallow : Tri Tryz.prog f_query_shallow (s_shallowA).pt :=
 tri_ex (fun n => r_query_shallow n) (spc_ex (fun x h => ⟨pDep x.1, Nat.le_refl _, h⟩))
def Ev1 (n : Nat) : Nat → Spc := tab [(f_query_every_1, s_ev1 N31 n)]
def Ev2 (n : Nat) : Nat → Spc := tab [(f_slices_ContainsFunc_Pattern, s_ConP (Ev1 n)), (f_query_node, s_node), (f_query_named, s_named), (f_query_ranged, s_ranged)]
theorem n31_ev2 (n : Nat) (d : D) (f : Pat → Bool) (h : FunIs N31 d f) : FunIs (Ev2 n) d f := by
 obtain ⟨g, c, pc, a, b, e⟩ := h
 refine ⟨g, c, pc, a, ?_, e⟩
 by_cases hg : g = f_slices_ContainsFunc_Pattern
 ·subst hg
  have : N31 f_slices_ContainsFunc_Pattern = Spc.none := rfl
  rw [this] at b
  cases b
 ·rw [← b]
  unfold Ev2 N31
  rw [tab, if_neg hg]
theorem r_query_every : ∀ n, Tri Tryz.prog f_query_every (s_every N31 n).pt
 | 0 => spc_void fun x h => by obtain ⟨f, h1, h2⟩ := h; exact pd0 h2
 | n + 1 =>
   have h1 : Tri Tryz.prog f_query_every_1 (s_ev1 N31 n).pt := tri_walk (S := tab [(f_query_every, s_every N31 n)]) (tab_ok (tab_cons (r_query_every n) tab_nil)) ok_query_every_1 (fun _ => Nat.le_of_ble_eq_true rfl) (w_query_every_1 (S0 := N31) n rfl)
   tri_walk (S := Ev2 n) (tab_ok (tab_cons (con_of (S := Ev1 n) (tab_ok (tab_cons h1 tab_nil))) (tab_cons u_query_node (tab_cons u_query_named (tab_cons u_query_ranged tab_nil))))) ok_query_every (fun _ => Nat.le_of_ble_eq_true rfl) (w_query_every (S0 := Ev1 n) (N := N31) n (n31_ev2 n) rfl rfl)
theorem u_query_every : Tri Tryz.prog f_query_every (s_everyA N31).pt :=
 tri_ex (fun n => r_query_every n) (spc_ex (fun x h => by obtain ⟨f, h⟩ := h; exact ⟨pDep x.1, f, h, Nat.le_refl _⟩))
theorem u_query_Shape : Tri Tryz.prog f_query_Shape (s_Shape).pt :=
 tri_walk (S := tab [(f_query_shallow, s_shallowA), (f_query_every, s_everyA N31)]) (tab_ok (tab_cons u_query_shallow (tab_cons u_query_every tab_nil))) ok_query_Shape (fun _ => Nat.le_of_ble_eq_true rfl) (w_query_Shape (N := N31) rfl rfl rfl)
theorem u_query_right : Tri Tryz.prog f_query_right (s_r23_IsPattern).pt :=
 tri_walk (S := tab [(f_query_Shape, s_Shape), (f_query_every, s_everyA N31)]) (tab_ok (tab_cons u_query_Shape (tab_cons u_query_every tab_nil))) ok_query_right (fun _ => Nat.le_of_ble_eq_true rfl) (w_query_right (N := N31) rfl rfl rfl rfl)
theorem r_query_size : ∀ n, Tri Tryz.prog f_query_size (s_size n).pt
 | 0 => spc_void fun x h => pd0 h.1
 | n + 1 => tri_walk (S := tab [(f_query_size, s_size n)]) (tab_ok (tab_cons (r_query_size n) tab_nil)) ok_query_size (fun _ => Nat.le_of_ble_eq_true rfl) (w_query_size n rfl)
theorem u_query_size : Tri Tryz.prog f_query_size (s_sizeA).pt :=
 tri_ex (fun n => r_query_size n) (spc_ex (fun x h => ⟨pDep x, Nat.le_refl _, h⟩))
theorem u_query_Size : Tri Tryz.prog f_query_Size (s_r23_Size).pt :=
 tri_walk (S := tab [(f_query_right, s_r23_IsPattern), (f_query_size, s_sizeA)]) (tab_ok (tab_cons u_query_right (tab_cons u_query_size tab_nil))) ok_query_Size (fun _ => Nat.le_of_ble_eq_true rfl) (w_query_Size rfl rfl)
theorem u_query_letter : Tri Tryz.prog f_query_letter (s_q_letter).pt :=
 tri_walk (S := tab []) (tab_ok tab_nil) ok_query_letter (fun _ => Nat.le_of_ble_eq_true rfl) (w_query_letter)
theorem u_query_digit : Tri Tryz.prog f_query_digit (s_q_digit).pt :=
 tri_walk (S := tab []) (tab_ok tab_nil) ok_query_digit (fun _ => Nat.le_of_ble_eq_true rfl) (w_query_digit)
theorem u_query_lex_1 : Tri Tryz.prog f_query_lex_1 (s_q_space).pt :=
 tri_walk (S := tab []) (tab_ok tab_nil) ok_query_lex_1 (fun _ => Nat.le_of_ble_eq_true rfl) (w_query_lex_1)
theorem u_query_lex_2 : Tri Tryz.prog f_query_lex_2 (s_q_name).pt :=
 tri_walk (S := tab [(f_query_letter, s_q_letter), (f_query_digit, s_q_digit)]) (tab_ok (tab_cons u_query_letter (tab_cons u_query_digit tab_nil))) ok_query_lex_2 (fun _ => Nat.le_of_ble_eq_true rfl) (w_query_lex_2 rfl rfl)
def Lx : Nat → Spc := tab [(f_query_lex_1, s_q_space), (f_query_lex_2, s_q_name), (f_query_digit, s_q_digit)]
theorem u_query_run : Tri Tryz.prog f_query_run (s_q_run Lx).pt := tri_walk (S := Lx) (tab_ok (tab_cons u_query_lex_1 (tab_cons u_query_lex_2 (tab_cons u_query_digit tab_nil)))) ok_query_run (fun _ => Nat.le_of_ble_eq_true rfl) w_query_run
theorem u_internal_stringslite_HasPrefix : Tri Tryz.prog f_internal_stringslite_HasPrefix (s_hasPrefix).pt :=
 tri_walk (S := tab []) (tab_ok tab_nil) ok_internal_stringslite_HasPrefix (fun _ => Nat.le_of_ble_eq_true rfl) (w_stringslite_HasPrefix)
theorem u_strings_HasPrefix : Tri Tryz.prog f_strings_HasPrefix (s_hasPrefix).pt :=
 tri_walk (S := tab [(f_internal_stringslite_HasPrefix, s_hasPrefix)]) (tab_ok (tab_cons u_internal_stringslite_HasPrefix tab_nil)) ok_strings_HasPrefix (fun _ => Nat.le_of_ble_eq_true rfl) (w_strings_HasPrefix rfl)
theorem u_strings_IndexByte : Tri Tryz.prog f_strings_IndexByte (s_indexByte).pt :=
 tri_walk (S := tab [(f_internal_stringslite_IndexByte, s_indexByte)]) (tab_ok (tab_cons t_stringslite_IndexByte tab_nil)) ok_strings_IndexByte (fun _ => Nat.le_of_ble_eq_true rfl) (w_strings_IndexByte rfl)
theorem u_slices_Index_string : Tri Tryz.prog f_slices_Index_string (s_idx_string).pt :=
 tri_walk (S := tab []) (tab_ok tab_nil) ok_slices_Index_string (fun _ => Nat.le_of_ble_eq_true rfl) (w_slices_Index_string)
theorem u_slices_Contains_string : Tri Tryz.prog f_slices_Contains_string (s_has_string).pt :=
 tri_walk (S := tab [(f_slices_Index_string, s_idx_string)]) (tab_ok (tab_cons u_slices_Index_string tab_nil)) ok_slices_Contains_string (fun _ => Nat.le_of_ble_eq_true rfl) (w_slices_Contains_string rfl)
theorem u_query_quoted : Tri Tryz.prog f_query_quoted (s_q_quoted).pt :=
 tri_walk (S := tab []) (tab_ok tab_nil) ok_query_quoted (fun _ => Nat.le_of_ble_eq_true rfl) (w_query_quoted)
theorem u_query_lex : Tri Tryz.prog f_query_lex (s_q_lex).pt :=
 tri_walk (S := tab [(f_query_run, s_q_run Lx), (f_query_letter, s_q_letter), (f_query_digit, s_q_digit), (f_query_quoted, s_q_quoted), (f_strings_HasPrefix, s_hasPrefix), (f_strings_IndexByte, s_indexByte)]) (tab_ok (tab_cons u_query_run (tab_cons u_query_letter (tab_cons u_query_digit (tab_cons u_query_quoted (tab_cons u_strings_HasPrefix (tab_cons u_strings_IndexByte tab_nil))))))) ok_query_lex (fun _ => Nat.le_of_ble_eq_true rfl) (w_query_lex (S0 := Lx) rfl rfl rfl rfl rfl rfl rfl rfl rfl)
theorem u_query_reader_next : Tri Tryz.prog f_query_reader_next (s_rnext).pt :=
 tri_walkRDF (S := tab [(f_query_lex, s_q_lex)]) (tab_ok (tab_cons u_query_lex tab_nil)) ok_query_reader_next (fun _ => Nat.le_of_ble_eq_true rfl) (w_reader_next rfl)
theorem u_query_reader_peek : Tri Tryz.prog f_query_reader_peek (s_rpeek).pt :=
 tri_walkRDF (S := tab [(f_query_lex, s_q_lex)]) (tab_ok (tab_cons u_query_lex tab_nil)) ok_query_reader_peek (fun _ => Nat.le_of_ble_eq_true rfl) (w_reader_peek rfl)
theorem u_query_reader_sign : Tri Tryz.prog f_query_reader_sign (s_rsign).pt :=
 tri_walkRDF (S := tab []) (tab_ok tab_nil) ok_query_reader_sign (fun _ => Nat.le_of_ble_eq_true rfl) (w_reader_sign)
theorem u_query_reader_take : Tri Tryz.prog f_query_reader_take (s_rtake).pt :=
 tri_walkRDF (S := tab [(f_query_reader_next, s_rnext), (f_query_reader_sign, s_rsign)]) (tab_ok (tab_cons u_query_reader_next (tab_cons u_query_reader_sign tab_nil))) ok_query_reader_take (fun _ => Nat.le_of_ble_eq_true rfl) (w_reader_take rfl rfl)
theorem u_query_reader_word : Tri Tryz.prog f_query_reader_word (s_rword).pt :=
 tri_walkRDF (S := tab [(f_slices_Contains_string, s_has_string)]) (tab_ok (tab_cons u_slices_Contains_string tab_nil)) ok_query_reader_word (fun _ => Nat.le_of_ble_eq_true rfl) (w_reader_word rfl)
theorem u_query_reader_fold : Tri Tryz.prog f_query_reader_fold (s_rfold).pt :=
 tri_walkRDF (S := tab [(f_query_reader_take, s_rtake)]) (tab_ok (tab_cons u_query_reader_take tab_nil)) ok_query_reader_fold (fun _ => Nat.le_of_ble_eq_true rfl) (w_reader_fold rfl)
theorem u_query_conds : Tri Tryz.prog f_query_conds (s_conds).pt :=
 tri_walk (S := tab []) (tab_ok tab_nil) ok_query_conds (fun _ => Nat.le_of_ble_eq_true rfl) (w_conds)
theorem u_query_patterns : Tri Tryz.prog f_query_patterns (s_patterns).pt :=
 tri_walk (S := tab []) (tab_ok tab_nil) ok_query_patterns (fun _ => Nat.le_of_ble_eq_true rfl) (w_patterns)
theorem u_query_reader_begins : Tri Tryz.prog f_query_reader_begins (s_rbegins).pt :=
 tri_walkRDF (S := tab [(f_query_reader_sign, s_rsign), (f_query_reader_word, s_rword), (f_query_reader_peek, s_rpeek)]) (tab_ok (tab_cons u_query_reader_sign (tab_cons u_query_reader_word (tab_cons u_query_reader_peek tab_nil)))) ok_query_reader_begins (fun _ => Nat.le_of_ble_eq_true rfl) (w_reader_begins rfl rfl rfl)
theorem u_query_filterWords : Tri Tryz.prog f_query_filterWords (s_qfilts).pt :=
 tri_walk (S := tab []) (tab_ok tab_nil) ok_query_filterWords (fun _ => Nat.le_of_ble_eq_true rfl) (w_qfilts)
theorem u_strings_Replace : Tri Tryz.prog f_strings_Replace (s_replace).pt :=
 tri_walk (S := tab [(f_strings_Count, s_count0)]) (tab_ok (tab_cons t_strings_Count tab_nil)) ok_strings_Replace (fun _ => Nat.le_of_ble_eq_true rfl) (w_strings_Replace rfl)
theorem u_strings_ReplaceAll : Tri Tryz.prog f_strings_ReplaceAll (s_replAll).pt :=
 tri_walk (S := tab [(f_strings_Replace, s_replace)]) (tab_ok (tab_cons u_strings_Replace tab_nil)) ok_strings_ReplaceAll (fun _ => Nat.le_of_ble_eq_true rfl) (w_strings_ReplaceAll rfl)
theorem u_query_writer_str : Tri Tryz.prog f_query_writer_str (s_wStr).pt :=
 tri_walkW (S := tab [(f_strings_ReplaceAll, s_replAll), (f_strings_Builder_WriteString, s_wstr)]) (tab_ok (tab_cons u_strings_ReplaceAll (tab_cons t_WriteString tab_nil))) ok_query_writer_str (fun _ => Nat.le_of_ble_eq_true rfl) (w_writer_str rfl rfl)
theorem u_query_writer_value : Tri Tryz.prog f_query_writer_value (s_wValue).pt :=
 tri_walkW (S := tab [(f_query_writer_str, s_wStr), (f_strings_Builder_WriteString, s_wstr)]) (tab_ok (tab_cons u_query_writer_str (tab_cons t_WriteString tab_nil))) ok_query_writer_value (fun _ => Nat.le_of_ble_eq_true rfl) (w_writer_value rfl rfl)
theorem u_query_writer_cond : Tri Tryz.prog f_query_writer_cond (s_wCond).pt :=
 tri_walkW (S := tab [(f_query_writer_value, s_wValue), (f_strings_Builder_WriteString, s_wstr)]) (tab_ok (tab_cons u_query_writer_value (tab_cons t_WriteString tab_nil))) ok_query_writer_cond (fun _ => Nat.le_of_ble_eq_true rfl) (w_writer_cond rfl rfl)
theorem u_query_writer_token : Tri Tryz.prog f_query_writer_token (s_wTok).pt :=
 tri_walkW (S := tab [(f_query_writer_cond, s_wCond), (f_strings_Builder_WriteString, s_wstr)]) (tab_ok (tab_cons u_query_writer_cond (tab_cons t_WriteString tab_nil))) ok_query_writer_token (fun _ => Nat.le_of_ble_eq_true rfl) (w_writer_token rfl rfl)
theorem r_query_writer_pattern : ∀ n, Tri Tryz.prog f_query_writer_pattern (s_wPat (patT n)).pt
 | 0 => wr_void fun z => rfl
 | n + 1 =>
   have h1 : Tri Tryz.prog f_query_writer_pattern_2 (s_wCl (patCT (patT n))).pt := tri_walkI (S := tab [(f_query_writer_pattern, s_wPat (patT n))]) (tab_ok (tab_cons (r_query_writer_pattern n) tab_nil)) ok_query_writer_pattern_2 (fun id b ds t h => by unfold clG at h; split at h <;> first | (exact Nat.le_of_ble_eq_true rfl) | cases h) (w_writer_pattern_2 (patT n) rfl)
   have h2 : Tri Tryz.prog f_query_writer_in (s_wIn (CTp (patT n))).pt := tri_walkI (S := tab [(f_strings_Builder_WriteString, s_wstr), (f_query_writer_pattern_2, s_wCl (patCT (patT n)))]) (tab_ok (tab_cons t_WriteString (tab_cons h1 tab_nil))) ok_query_writer_in (fun id b ds t h => by unfold inG at h; split at h <;> first | (exact Nat.le_of_ble_eq_true rfl) | cases h) (w_writer_in (CTp (patT n)) rfl fun g cs t h => by
    unfold CTp at h
    split at h
    ·rename_i e; subst e; rfl
    ·cases h)
   tri_walkW (S := tab [(f_query_writer_token, s_wTok), (f_strings_Builder_WriteString, s_wstr), (f_query_writer_in, s_wIn (CTp (patT n)))]) (tab_ok (tab_cons u_query_writer_token (tab_cons t_WriteString (tab_cons h2 tab_nil)))) ok_query_writer_pattern (fun _ => Nat.le_of_ble_eq_true rfl) (w_writer_pattern (patT n) rfl rfl rfl)
theorem r_query_copied : ∀ n, Tri Tryz.prog f_query_copied (s_copied n).pt
 | 0 => spc_void fun x h => h
 | n + 1 => tri_walk (S := tab [(f_query_copied, s_copied n)]) (tab_ok (tab_cons (r_query_copied n) tab_nil)) ok_query_copied (fun _ => Nat.le_of_ble_eq_true rfl) (w_query_copied n rfl)
theorem u_query_copied : Tri Tryz.prog f_query_copied (s_copiedA).pt :=
 tri_ex (fun n => r_query_copied n) (spc_ex (fun x h => h))
theorem u_query_clone : Tri Tryz.prog f_query_clone (s_clone).pt :=
 tri_walk (S := tab [(f_query_copied, s_copiedA)]) (tab_ok (tab_cons u_query_copied tab_nil)) ok_query_clone (fun _ => Nat.le_of_ble_eq_true rfl) (w_query_clone rfl)
theorem r_query_leaves : ∀ n, Tri Tryz.prog f_query_leaves (i_leavesQ n).pt
 | 0 => tri_void fun d ds H K ⟨id, v, l, a, x, h1, h2, h3, h4, h5⟩ => pd0 h4.1
 | n + 1 => tri_walkI2 (S := tab [(f_query_leaves, i_leavesQ n), (f_query_clone, s_clone)]) (tab_ok (tab_cons (r_query_leaves n) (tab_cons u_query_clone tab_nil))) ok_query_leaves (by decide) (w_query_leaves n rfl rfl)
theorem u_query_leaves_i : Tri Tryz.prog f_query_leaves i_leavesQA.pt := tri_ex (fun n => r_query_leaves n) fun d ds H K ⟨id, v, l, a, x, h1, h2, h3, h4, h5⟩ => ⟨pDep x, id, v, l, a, x, h1, h2, h3, ⟨Nat.le_refl _, h4⟩, h5⟩
theorem u_query_leaves : Tri Tryz.prog f_query_leaves s_leavesQ.pt := tri_or (tri_walkF (S := tab [(f_query_leaves, i_leavesQA), (f_query_clone, s_clone)]) (tab_ok (tab_cons u_query_leaves_i (tab_cons u_query_clone tab_nil))) ok_query_leaves (fun _ => Nat.le_of_ble_eq_true rfl) (w_query_leavesF rfl rfl)) u_query_leaves_i
theorem u_condition_shape : Tri Tryz.prog f_condition_shape (s_cshape).pt :=
 tri_walk (S := tab []) (tab_ok tab_nil) ok_condition_shape (fun _ => Nat.le_of_ble_eq_true rfl) (w_condition_shape)
theorem u_condition_Shape_1 : Tri Tryz.prog f_condition_Shape_1 (s_cShape1).pt :=
 tri_walk (S := tab [(f_condition_shape, s_cshape)]) (tab_ok (tab_cons u_condition_shape tab_nil)) ok_condition_Shape_1 (fun _ => Nat.le_of_ble_eq_true rfl) (w_condition_Shape_1 rfl)
theorem u_condition_measure : Tri Tryz.prog f_condition_measure (s_cmeasure).pt :=
 tri_walk (S := tab []) (tab_ok tab_nil) ok_condition_measure (fun _ => Nat.le_of_ble_eq_true rfl) (w_condition_measure)
theorem u_condition_walk : Tri Tryz.prog f_condition_walk (s_cwalk).pt :=
 tri_walk (S := tab [(f_condition_Shape_1, s_cShape1)]) (tab_ok (tab_cons u_condition_Shape_1 tab_nil)) ok_condition_walk (fun _ => Nat.le_of_ble_eq_true rfl) (w_condition_walk rfl)
theorem u_condition_Shape : Tri Tryz.prog f_condition_Shape (s_cShape).pt :=
 tri_walk (S := tab [(f_condition_measure, s_cmeasure), (f_condition_walk, s_cwalk)]) (tab_ok (tab_cons u_condition_measure (tab_cons u_condition_walk tab_nil))) ok_condition_Shape (fun _ => Nat.le_of_ble_eq_true rfl) (w_condition_Shape rfl rfl)
theorem u_query_Format_1 : Tri Tryz.prog f_query_Format_1 (s_Format1).pt :=
 tri_walk (S := tab [(f_condition_Shape, s_cShape)]) (tab_ok (tab_cons u_condition_Shape tab_nil)) ok_query_Format_1 (fun _ => Nat.le_of_ble_eq_true rfl) (w_query_Format_1 rfl)
theorem u_query_none : Tri Tryz.prog f_query_none (s_none).pt :=
 tri_walk (S := tab []) (tab_ok tab_nil) ok_query_none (fun _ => Nat.le_of_ble_eq_true rfl) (w_query_none)
theorem u_query_Sound : Tri Tryz.prog f_query_Sound (s_Sound).pt :=
 tri_walk (S := tab [(f_query_none, s_none)]) (tab_ok (tab_cons u_query_none tab_nil)) ok_query_Sound (fun _ => Nat.le_of_ble_eq_true rfl) (w_query_Sound rfl)
theorem u_slices_IndexFunc_Filter : Tri Tryz.prog f_slices_IndexFunc_Filter (s_IdxF).pt :=
 tri_walk (S := tab []) (tab_ok tab_nil) ok_slices_IndexFunc_Filter (fun _ => Nat.le_of_ble_eq_true rfl) (w_slices_IndexFunc_Filter)
theorem u_slices_ContainsFunc_Filter : Tri Tryz.prog f_slices_ContainsFunc_Filter (s_ConF).pt :=
 tri_walk (S := tab [(f_slices_IndexFunc_Filter, s_IdxF)]) (tab_ok (tab_cons u_slices_IndexFunc_Filter tab_nil)) ok_slices_ContainsFunc_Filter (fun _ => Nat.le_of_ble_eq_true rfl) (w_slices_ContainsFunc_Filter rfl)
def Fm1 : Nat → Spc := tab [(f_query_Format_1, s_Format1)]
theorem u_query_Format : Tri Tryz.prog f_query_Format (s_Format 10).pt :=
 tri_walk (S := tab [(f_query_Shape, s_Shape), (f_slices_ContainsFunc_Filter, s_ConF), (f_query_Sound, s_Sound), (f_query_leaves, s_leavesQ), (f_slices_ContainsFunc_Pattern, s_ConP Fm1), (f_query_writer_pattern, s_wPat (patT 10)), (f_strings_Builder_String, s_string)]) (tab_ok (tab_cons u_query_Shape (tab_cons u_slices_ContainsFunc_Filter (tab_cons u_query_Sound (tab_cons u_query_leaves (tab_cons (con_of (S := Fm1) (tab_ok (tab_cons u_query_Format_1 tab_nil))) (tab_cons (r_query_writer_pattern 10) (tab_cons t_String tab_nil)))))))) ok_query_Format (fun _ => Nat.le_of_ble_eq_true rfl) (w_query_Format (S0 := Fm1) 10 rfl rfl rfl rfl rfl rfl rfl rfl)
theorem r_r22_Same : ∀ n, Tri Tryz.prog f_r22_Same (s_sameC n).pt
 | 0 => spc_void fun x h => cd0 h
 | n + 1 => tri_walk (S := tab [(f_r22_Same, s_sameC n)]) (tab_ok (tab_cons (r_r22_Same n) tab_nil)) ok_r22_Same (fun _ => Nat.le_of_ble_eq_true rfl) (w_r22_Same n rfl)
theorem u_r22_Same : Tri Tryz.prog f_r22_Same (s_sameA).pt :=
 tri_ex (fun n => r_r22_Same n) (spc_ex (fun x _ => ⟨cDep x.1, Nat.le_refl _⟩))
theorem r_r23_SamePattern : ∀ n, Tri Tryz.prog f_r23_SamePattern (s_sameP n).pt
 | 0 => spc_void fun x h => pd0 h
 | n + 1 => tri_walk (S := tab [(f_r22_Same, s_sameA), (f_r23_SamePattern, s_sameP n)]) (tab_ok (tab_cons u_r22_Same (tab_cons (r_r23_SamePattern n) tab_nil))) ok_r23_SamePattern (fun _ => Nat.le_of_ble_eq_true rfl) (w_r23_SamePattern n rfl rfl)
theorem u_r23_SamePattern : Tri Tryz.prog f_r23_SamePattern (s_samePA).pt :=
 tri_ex (fun n => r_r23_SamePattern n) (spc_ex (fun x _ => ⟨pDep x.1, Nat.le_refl _⟩))
theorem u_r22_Texts : Tri Tryz.prog f_r22_Texts (s_texts).pt :=
 tri_walk (S := tab []) (tab_ok tab_nil) ok_r22_Texts (fun _ => Nat.le_of_ble_eq_true rfl) (w_r22_Texts)
end Go.Gv

namespace Go.Gv
open Go.Proofs
def cc_strings_TrimLeft : CC := oX [oB 4 (.mv (oS ⟨#[]⟩))] [0,1] [] (.seq (oX [oA 7 0,oB 8 (.eql false false [.str] (oT 7) (oS ⟨#[]⟩)),oA 9 8,oI 10 9 (.mv (oT 1)),oI 11 9 (.eql false false [.str] (oT 10) (oS ⟨#[]⟩)),oB 12 (.pick (oT 9) (.const (.bool true)) (oT 11))] [0,1,12] [] (.ite (oT 12) (oX [oA 13 0,oA 4 13] [4] [5] (.ret)) (.skip))) (.keep [0,1] [] (.seq (oX [oA 14 1,
 oB 15 (.slen (oT 14)),oB 16 (.eql false false [.int] (oT 15) (oN 1)),oA 17 16,oH 18 17 (.mv (oT 1)),oH 19 17 (.sidx (oT 18) (oN 0)),oH 20 17 (.cmp .lss (oT 19) (.const (.int .u8 128))),oB 21 (.pick (oT 17) (oT 20) (.const ob))] [0,1,21] [] (.ite (oT 21) (oX [oA 22 0,oA 23 1,oB 24 (.sidx (oT 23) (oN 0)),oZ 25 f_strings_trimLeftByte [oT 22,oT 24],oA 4 25] [4] [5] (.ret)) (.skip)))
 (.keep [0,1] [] (.seq (oX [oA 27 1,oZ 28 f_strings_makeASCIISet [oT 27],oA 26 28,oB 29 (.ext (oT 26) 0),oB 30 (.ext (oT 26) 1),
 oB 5 (.alloc ty_strings_asciiSet [ob,ob,ob,ob,ob,ob,ob,ob,ob,ob,ob,ob,ob,ob,ob,ob,ob,ob,ob,ob,ob,ob,ob,ob,ob,ob,ob,ob,ob,ob,ob,ob,ob,ob,ob,ob,ob,ob,ob,ob,ob,ob,ob,ob,ob,ob,ob,ob,ob,ob,ob,ob,ob,ob,ob,ob,ob,ob,ob,ob,ob,ob,ob,ob,ob,ob,ob,ob,ob,ob,ob,ob,ob,ob,ob,ob,ob,ob,ob,ob,ob,ob,ob,ob,ob,ob,ob,ob,ob,ob,ob,ob,ob,ob,ob,ob,ob,ob,ob,ob,ob,ob,ob,ob,ob,ob,ob,ob,ob,ob,ob,ob,ob,ob,ob,ob,ob,ob,ob,ob,ob,ob,ob,ob,ob,ob,ob,ob,ob,ob,ob,ob,ob,ob,ob,ob,ob,ob,ob,ob,ob,ob,ob,ob,ob,ob,ob,ob,ob,ob,ob,ob,ob,ob,ob,ob,ob,ob,ob,ob,ob,ob,ob,ob,ob,ob,ob,ob,ob,ob,ob,ob,ob,ob,ob,ob,ob,ob,ob,ob,ob,ob,ob,ob,ob,ob,ob,ob,ob,ob,ob,ob,ob,ob,ob,ob,ob,ob,ob,ob,ob,ob,ob,ob,ob,ob,ob,ob,ob,ob,ob,ob,ob,ob,ob,ob,ob,ob,ob,ob,ob,ob,ob,ob,ob,ob,ob,ob,ob,ob,ob,ob,ob,ob,ob,ob,ob,ob,ob,ob,ob,ob,ob,ob,ob,ob,ob,ob,ob,ob,ob,ob,ob,ob,ob,ob]),
 oF 256 5 29,oA 6 30] [0,1,5,6] [5] (oX [oA 31 6] [0,1,5,31] [5] (.ite (oT 31) (oX [oA 32 0,oZ 33 f_strings_trimLeftASCII [oT 32,oT 5],oA 4 33] [4] [5] (.ret)) (.skip)))) (.keep [0,1] [] (oX [oA 34 0,oA 35 1,oZ 36 f_strings_trimLeftUnicode [oT 34,oT 35],oA 4 36] [4] [5] (.ret))))))))
def rs_strings_TrimLeft : List CRes := [.tmp 4]
def im_strings_TrimLeft : List Nat := []
theorem ok_strings_TrimLeft : FnOk Tryz.prog f_strings_TrimLeft im_strings_TrimLeft cc_strings_TrimLeft rs_strings_TrimLeft 37 := fnOk1 mixed (by kernel_rfl)
-- strings_trimLeftByte while id=0: live [0:s, 1:c] changed [0] res []
def cc_strings_trimLeftByte : CC := oX [oB 4 (.mv (oS ⟨#[]⟩))] [0,1] [] (.seq (.block 0 (.loop 1 (.seq (oX [oA 5 0,oB 6 (.slen (oT 5)),oB 7 (.cmp .gtr (oT 6) (oN 0)),oA 8 7,oH 9 8 (.mv (oT 0)),oH 10 8 (.sidx (oT 9) (oN 0)),oH 11 8 (.mv (oT 1)),oH 12 8 (.eql false false [.int] (oT 10) (oT 11)),oB 13 (.pick (oT 8) (oT 12) (.const ob))] [0,1,13] [] (.ite (oT 13) (.skip) (.exit 0)))
 (.keep [0,1] [] (.block 1 (.reg [oA 14 0,oB 15 (.sslice (oT 14) (some (oN 1)) none),oA 0 15])))))) (.keep [0] [] (oX [oA 16 0,oA 4 16] [4] [] (.ret))))
def rs_strings_trimLeftByte : List CRes := [.tmp 4]
def im_strings_trimLeftByte : List Nat := []
theorem ok_strings_trimLeftByte : FnOk Tryz.prog f_strings_trimLeftByte im_strings_trimLeftByte cc_strings_trimLeftByte rs_strings_trimLeftByte 17 := fnOk1 mixed (by kernel_rfl)
-- strings_TrimLeft_1: no such function

end Go.Gv

namespace Go.Gv
open Cod (enc dec)
/-! ### What a text calls -/
def CI.noCv : CI → Bool
 | .op _ _ (.callv _ _) => false
 | .op _ _ (.callb _ f _) => f != panId
 | _ => true
def CI.fn : CI → List Nat
 | .op _ _ (.call f _) => [f]
 | .op _ _ (.callb _ f _) => [f]
 | _ => []
def noCv : CC → Bool
 | .reg l => l.all CI.noCv
 | .regd pre tl => pre.all CI.noCv && tl.all CI.noCv
 | .seq a b => noCv a && noCv b
 | .ite _ a b => noCv a && noCv b
 | .block _ b => noCv b
 | .loop _ b => noCv b
 | .cut _ b => noCv b
 | .keep _ _ b => noCv b
 | _ => true
/-- what is called ahead of something that may come first -/
def quietL : List CI → List Nat
 | [] => []
 | x :: l => (if l.any fun y => apartCI x y then x.fn else []) ++ quietL l
/-- what is called in an open order, and not as the last -/
def quietOf : CC → List Nat
 | .regd pre _ => quietL (pre.filter CI.real)
 | .seq a b => quietOf a ++ quietOf b
 | .ite _ a b => quietOf a ++ quietOf b
 | .block _ b => quietOf b
 | .loop _ b => quietOf b
 | .cut _ b => quietOf b
 | .keep _ _ b => quietOf b
 | _ => []
def TabZ (z : List PanicEntry → Prop) (P : Program) (S : Nat → Spc) : Prop := ∀ f, (f = panId → PanOk z P (S f).pt) ∧ (f ≠ panId → TriZ z P f (S f).pt)
section
variable {z : List PanicEntry → Prop} {P : Program} {S : Nat → Spc}
theorem ci_ok (hS : TabZ z P S) : ∀ x : CI, x.noCv = true → CallOkI P z S x
 | .frz _ _, _ => trivial
 | .op _ _ c, h => by
   cases c <;> try exact trivial
   ·rename_i f args
    show CallOk P z S (.call f args)
    simp only [CallOk]
    split
    ·exact (hS panId).1 rfl
    ·rename_i e; exact (hS f).2 e
   ·cases h
   ·rename_i r f args
    have h : (f != panId) = true := h
    exact (hS f).2 (by simpa using h)
theorem ci_quiet {x : CI} (h : x.noCv = true) (hq : ∀ f ∈ x.fn, f ≠ panId ∧ Tri P f (S f).pt) : CallOkI P noZ S x := by
 cases x with
 | frz _ _ => trivial
 | op d g c =>
   cases c <;> try exact trivial
   ·rename_i f args
    obtain ⟨h1, h2⟩ := hq f (by simp [CI.fn])
    show CallOk P noZ S (.call f args)
    simp only [CallOk, if_neg h1]
    exact h2.z
   ·cases h
   ·rename_i r f args
    exact ((hq f (by simp [CI.fn])).2).z
theorem quietL_ok : ∀ l : List CI, (∀ x ∈ l, x.noCv = true) → (∀ f ∈ quietL l, f ≠ panId ∧ Tri P f (S f).pt) → QuietL P S l
 | [], _, _ => trivial
 | x :: l, h, hq => by
   refine ⟨?_, quietL_ok l (fun y hy => h y (by simp [hy])) fun f hf => hq f (by simp [quietL, hf])⟩
   cases hb : l.any fun y => apartCI x y with
   | false =>
     left
     intro y hy
     have := List.any_eq_false.1 hb y hy
     simpa using this
   | true =>
     right
     exact ci_quiet (h x (by simp)) fun f hf => hq f (by simp [quietL, hb, hf])
theorem okCC_of (hS : TabZ z P S) : ∀ cc : CC, noCv cc = true → (∀ f ∈ quietOf cc, f ≠ panId ∧ Tri P f (S f).pt) → okCC P z S cc
 | .reg l, h, _ => fun x hx => ci_ok hS x (List.all_eq_true.1 h x hx)
 | .regd pre tl, h, hq => by
   simp only [noCv, Bool.and_eq_true] at h
   exact ⟨fun x hx => ci_ok hS x (List.all_eq_true.1 h.1 x hx), fun x hx => ci_ok hS x (List.all_eq_true.1 h.2 x hx), quietL_ok _ (fun x hx => List.all_eq_true.1 h.1 x (List.mem_filter.1 hx).1) hq⟩
 | .seq a b, h, hq => by
   simp only [noCv, Bool.and_eq_true] at h
   exact ⟨okCC_of hS a h.1 fun f hf => hq f (by simp [quietOf, hf]), okCC_of hS b h.2 fun f hf => hq f (by simp [quietOf, hf])⟩
 | .ite _ a b, h, hq => by
   simp only [noCv, Bool.and_eq_true] at h
   exact ⟨okCC_of hS a h.1 fun f hf => hq f (by simp [quietOf, hf]), okCC_of hS b h.2 fun f hf => hq f (by simp [quietOf, hf])⟩
 | .block _ b, h, hq => okCC_of hS b h hq
 | .loop _ b, h, hq => okCC_of hS b h hq
 | .cut _ b, h, hq => okCC_of hS b h hq
 | .keep _ _ b, h, hq => okCC_of hS b h hq
 | .skip, _, _ => trivial
 | .exit _, _, _ => trivial
 | .ret, _, _ => trivial
theorem tz_ok {l : List (Nat × Spc)} (h : ∀ p ∈ l, (p.1 = panId → PanOk z P p.2.pt) ∧ (p.1 ≠ panId → TriZ z P p.1 p.2.pt)) : TabZ z P (tab l) := by
 induction l with
 | nil => exact fun f => ⟨fun _ => fun _ _ _ _ _ _ _ _ _ _ _ _ _ h => h.elim, fun _ => (tri_none P f).z⟩
 | cons p l ih =>
   obtain ⟨g, c⟩ := p
   intro f
   unfold tab
   split
   ·rename_i e
    subst e
    exact h (f, c) (by simp)
   ·exact ih (fun p hp => h p (by simp [hp])) f
theorem tz_nil : ∀ p ∈ ([] : List (Nat × Spc)), (p.1 = panId → PanOk z P p.2.pt) ∧ (p.1 ≠ panId → TriZ z P p.1 p.2.pt) := fun p h => by cases h
theorem tz_cons {f : Nat} {c : Spc} {l : List (Nat × Spc)} (h : TriZ z P f c.pt) (hf : (f == panId) = false) (hl : ∀ p ∈ l, (p.1 = panId → PanOk z P p.2.pt) ∧ (p.1 ≠ panId → TriZ z P p.1 p.2.pt)) :
 ∀ p ∈ (f, c) :: l, (p.1 = panId → PanOk z P p.2.pt) ∧ (p.1 ≠ panId → TriZ z P p.1 p.2.pt) := fun p hp => by
 rcases List.mem_cons.1 hp with rfl | hp
 ·exact ⟨fun e => absurd e (by simpa using hf), fun _ => h⟩
 ·exact hl p hp
theorem tz_pan {c : Spc} {l : List (Nat × Spc)} (h : PanOk z P c.pt) (hl : ∀ p ∈ l, (p.1 = panId → PanOk z P p.2.pt) ∧ (p.1 ≠ panId → TriZ z P p.1 p.2.pt)) :
 ∀ p ∈ (panId, c) :: l, (p.1 = panId → PanOk z P p.2.pt) ∧ (p.1 ≠ panId → TriZ z P p.1 p.2.pt) := fun p hp => by
 rcases List.mem_cons.1 hp with rfl | hp
 ·exact ⟨fun _ => h, fun e => absurd rfl e⟩
 ·exact hl p hp
end
/-! ### Faults -/
/-- The one fault that a reading may end with: where, and which error. -/
def faultV (ty : Nat) (f : Int × Int) : Value := .iface ty (.agg #[.int .i64 f.1, .int .i64 f.2])
def zF (ty : Nat) (f : Int × Int) : List PanicEntry → Prop := fun c => c = [{ v := faultV ty f, recovered := false }] ∧ f.2 ≠ 0
def panPT (ty : Nat) (f : Int × Int) : PT := fun _ ds _ _ => ds = [.v (faultV ty f)] ∧ f.2 ≠ 0
theorem pan_mono (ty : Nat) (f : Int × Int) : MonoPT (panPT ty f) := fun _ _ _ _ _ _ h => h
def panC (ty : Nat) (f : Int × Int) : Spc := .gen _ (pan_mono ty f)
@[simp] theorem panC_pt (ty : Nat) (f : Int × Int) (d : Nat) (a b : Int) (H : HMap) (K : D → HMap → Prop) : (panC ty f).pt d [.v (.iface ty (.agg #[.int .i64 a, .int .i64 b]))] H K = ((a, b) = f ∧ b ≠ 0) := by
 refine propext ⟨fun h => ?_, fun h => ?_⟩
 ·obtain ⟨h, hne⟩ : [D.v (.iface ty (.agg #[.int .i64 a, .int .i64 b]))] = [.v (faultV ty f)] ∧ f.2 ≠ 0 := h
  simp only [faultV, List.cons.injEq, D.v.injEq, Value.iface.injEq, Value.agg.injEq, Array.mk.injEq, Value.int.injEq, and_true, true_and] at h
  exact ⟨Prod.ext h.1 h.2, by rw [h.2]; exact hne⟩
 ·obtain ⟨h, hne⟩ := h
  subst h
  exact ⟨rfl, hne⟩
theorem panOk_C {P : Program} (ty : Nat) (f : Int × Int) : PanOk (zF ty f) P (panC ty f).pt := by
 intro _ O tp w v e H d K _ _ _ hr h
 obtain ⟨h, hne⟩ : [e] = [.v (faultV ty f)] ∧ f.2 ≠ 0 := h
 cases h
 have := hr.inv_v
 exact ⟨⟨_, _, this⟩, by rw [this], hne⟩
/-- Nothing panics with the error that is none. -/
theorem tri_of_zF {P : Program} {g ty : Nat} {A : PT} {a : Int} (h : TriZ (zF ty (a, 0)) P g A) : Tri P g A := fun O tp w vs ds H d K h1 h2 h3 h4 h5 h6 =>
 ⟨(h O tp w vs ds H d K h1 h2 h3 h4 h5 h6).1, (h O tp w vs ds H d K h1 h2 h3 h4 h5 h6).2.mono fun _ _ h => h.elim id fun ⟨_, _, h, _⟩ => absurd rfl h.2⟩
/-! ### What comes of a method -/
inductive Out (α : Type) where
 | ok (x : α)
 | err (f : Int × Int)
 | no
def Out.bind {α β : Type} : Out α → (α → Out β) → Out β
 | .ok x, f => f x
 | .err e, _ => .err e
 | .no, _ => .no
def Out.map {α β : Type} (f : α → β) : Out α → Out β
 | .ok x => .ok (f x)
 | .err e => .err e
 | .no => .no
def Out.of {α : Type} : Option α → Out α
 | some x => .ok x
 | none => .no
@[simp] theorem Out.bind_ok {α β : Type} (x : α) (f : α → Out β) : (Out.ok x).bind f = f x := rfl
@[simp] theorem Out.bind_err {α β : Type} (e : Int × Int) (f : α → Out β) : (Out.err e).bind f = .err e := rfl
@[simp] theorem Out.bind_no {α β : Type} (f : α → Out β) : (Out.no).bind f = .no := rfl
@[simp] theorem Out.map_ok {α β : Type} (x : α) (f : α → β) : (Out.ok x).map f = .ok (f x) := rfl
@[simp] theorem Out.map_err {α β : Type} (e : Int × Int) (f : α → β) : (Out.err e).map f = .err e := rfl
@[simp] theorem Out.map_no {α β : Type} (f : α → β) : (Out.no).map f = .no := rfl
@[simp] theorem Out.of_some {α : Type} (x : α) : Out.of (some x) = .ok x := rfl
@[simp] theorem Out.of_none {α : Type} : Out.of (none : Option α) = .no := rfl
/-- It is not without an answer, and its fault is this one. -/
def Out.fine {α : Type} (f : Int × Int) : Out α → Prop
 | .ok _ => True
 | .err e => e = f
 | .no => False
@[simp] theorem Out.fine_err {α : Type} (f e : Int × Int) : (Out.err e : Out α).fine f = (e = f) := id rfl
theorem Out.fine_ofm {α β : Type} {f : Int × Int} {o : Option α} {k : α → β} (h : ((Out.of o).map k).fine f) : ∃ x, o = some x := by
 cases o with
 | some x => exact ⟨x, rfl⟩
 | none => exact h.elim
theorem Out.fine_bind {α β : Type} {f : Int × Int} {o : Out α} {k : α → Out β} (h : (o.bind k).fine f) : (∃ x, o = .ok x ∧ (k x).fine f) ∨ (o = .err f ∧ o.bind k = .err f) := by
 cases o with
 | ok x => exact .inl ⟨x, rfl, h⟩
 | err e => have h : e = f := h; subst h; exact .inr ⟨rfl, rfl⟩
 | no => exact h.elim
def outX {α : Type} (f : Int × Int) (o : Out α) (K : α → Prop) : Prop := match o with
 | .ok x => K x
 | .err e => e = f
 | .no => False
@[simp] theorem outX_ok {α : Type} (f : Int × Int) (x : α) (K : α → Prop) : outX f (.ok x) K = K x := id rfl
@[simp] theorem outX_err {α : Type} (f e : Int × Int) (K : α → Prop) : outX f (.err e) K = (e = f) := id rfl
@[congr] theorem outX_cg {α : Type} {f : Int × Int} {o o' : Out α} {K : α → Prop} (h : o = o') : outX f o K = outX f o' K := by subst h; rfl
@[simp] theorem outX_map {α β : Type} (f : Int × Int) (o : Out α) (g : α → β) (K : β → Prop) : outX f (o.map g) K = outX f o fun x => K (g x) := by cases o <;> exact id rfl
@[simp] theorem optX_map {α β : Type} (o : Option α) (g : α → β) (K : β → Prop) : optX (o.map g) K = optX o fun x => K (g x) := by cases o <;> exact id rfl
theorem outX_eq {α : Type} {f : Int × Int} {o : Out α} {K : α → Prop} : (o.fine f ∧ ∀ x, o = .ok x → K x) = outX f o K := by
 cases o with
 | ok x => exact propext ⟨fun h => h.2 x rfl, fun h => ⟨trivial, fun y e => by cases e; exact h⟩⟩
 | err e => exact propext ⟨fun h => h.1, fun h => ⟨h, fun y e => by cases e⟩⟩
 | no => exact propext ⟨fun h => h.1, fun h => ⟨h, fun y e => by cases e⟩⟩
theorem Out.bind_map {α β γ : Type} (o : Out α) (k : α → Out β) (g : β → γ) : (o.bind k).map g = o.bind fun x => (k x).map g := by cases o <;> rfl
theorem Out.bind_bind {α β γ : Type} (o : Out α) (k : α → Out β) (g : β → Out γ) : (o.bind k).bind g = o.bind fun x => (k x).bind g := by cases o <;> rfl
theorem Out.map_bind {α β γ : Type} (o : Out α) (k : α → β) (g : β → Out γ) : (o.map k).bind g = o.bind fun x => g (k x) := by cases o <;> rfl
theorem Out.map_map {α β γ : Type} (o : Out α) (k : α → β) (g : β → γ) : (o.map k).map g = o.map fun x => g (k x) := by cases o <;> rfl
/-! Steps: what is left to compute (e) goes along. -/
section
variable {α β : Type} {f : Int × Int} {F0 : Out β} {K : α → Prop}
theorem outB {o : Out α} {k : α → Out β} (hf : F0.fine f) (e : F0 = o.bind k) (h : ∀ x, F0 = k x → K x) : outX f o K := by
 cases o with
 | ok x => exact h x e
 | err g => subst e; exact hf
 | no => subst e; exact hf
theorem outM {o : Out α} {k : α → β} (hf : F0.fine f) (e : F0 = o.map k) (h : ∀ x, F0 = .ok (k x) → K x) : outX f o K := by
 cases o with
 | ok x => exact h x e
 | err g => subst e; exact hf
 | no => subst e; exact hf
theorem outE {o : Out β} {K : β → Prop} (hf : F0.fine f) (e : F0 = o) (h : ∀ x, F0 = .ok x → K x) : outX f o K := by
 cases o with
 | ok x => exact h x e
 | err g => subst e; exact hf
 | no => subst e; exact hf
theorem optB {o : Option α} {k : α → Out β} (hf : F0.fine f) (e : F0 = (Out.of o).bind k) (h : ∀ x, F0 = k x → K x) : optX o K := by
 cases o with
 | some x => exact h x e
 | none => subst e; exact hf
theorem optM {o : Option α} {k : α → β} (hf : F0.fine f) (e : F0 = (Out.of o).map k) (h : ∀ x, F0 = .ok (k x) → K x) : optX o K := by
 cases o with
 | some x => exact h x e
 | none => subst e; exact hf
end
section
variable {X Y Z : Type} {P : Program} {S : Nat → Spc} {f : Nat} {im : List Nat} {cc : CC} {rs : List CRes} {N : Nat}
theorem tri_walkBPZ {z : List PanicEntry → Prop} {B : BoxF X} {A : Arg Z} {er : Y → D} {pre : X → Z → Prop} {post : X → Z → X → Y → Prop} (h1i : 0 ∉ B.ids) (hS : okCC P z S cc) (h : FnOk P f im cc rs N) (hN : ∀ z, (A.view z).length + 1 ≤ N) (hw : WalkBP cc rs S B A er pre post) : TriZ z P f (bpC B A er pre post).pt := by
 obtain ⟨mix, enter, fn, code, h1, h2, h3, h4, h5⟩ := h
 refine tri_of_vcZ hS mix h1 h2 enter h3 h4 h5 ?_
 rintro ds H d K ⟨id, b, x, z, ds', rfl, hd, hid, hhp, hni, hp, hK⟩
 have hl := A.le ds' z hd
 have h0 : ∀ i r, updH (addH (B.hp x) noH) 0 (some (.box b (B.ce x))) i = some r → i = 0 ∧ r = .box b (B.ce x) ∨ i ≠ 0 ∧ (i, r) ∈ B.hp x := by
  intro i r h
  by_cases e : i = 0
  ·subst e
   simp only [updH, if_true] at h
   cases h
   exact .inl ⟨rfl, rfl⟩
  ·simp only [updH, e, if_false] at h
   exact .inr ⟨e, addN_mem h⟩
 have hk : ∀ {x : X} {i : Nat} {r : Res}, (i, r) ∈ B.hp x → i ∈ B.ids := by
  intro x i r h
  rw [← B.keys x]
  exact List.mem_map.2 ⟨_, h, rfl⟩
 refine ⟨by simp only [List.length_cons]; rw [hl.1]; exact hN z, .bptr 0 b 0 :: A.view z, updH (addH (B.hp x) noH) 0 (some (.box b (B.ce x))), fun i => if i = 0 then id else i, .cons (.bptr _ _ _ _) hl, fun i r h => ?_, fun i j r s h h' e => ?_, _, hw b x z hp, ?_⟩
 ·rcases h0 i r h with ⟨rfl, rfl⟩ | ⟨e, hm⟩
  ·exact hid
  ·simp only [e, if_false]
   exact hhp _ hm
 ·rcases h0 i r h with ⟨rfl, rfl⟩ | ⟨e1, hm⟩
  ·rcases h0 j s h' with ⟨rfl, rfl⟩ | ⟨e2, hm2⟩
   ·rfl
   ·simp only [e2, if_true, if_false] at e
    subst e
    exact absurd (hk hm2) hni
  ·rcases h0 j s h' with ⟨rfl, rfl⟩ | ⟨e2, hm2⟩
   ·simp only [e1, if_true, if_false] at e
    subst e
    exact absurd (hk hm) hni
   ·simpa only [e1, e2, if_false] using e
 ·rintro r H' ⟨x', y, hfr, hj, hhp', hpost⟩
  refine ⟨er y, fun i => if i = 0 ∨ i ∈ B.ids then none else H' i, updH (addH (B.hp x') H) id (some (.box b (B.ce x'))), fun i => if i = id then some 0 else if i ∈ B.ids then some i else none, hfr, fun j q h => ?_, hK x' y hpost, fun i s hi => ?_, fun i j' k s q hi hj' e1 e2 => ?_⟩
  ·by_cases e : j = 0 ∨ j ∈ B.ids
   ·simp [e] at h
   ·simp only [e, if_false] at h
    refine ⟨h, fun i hh => e ?_⟩
    by_cases e1 : i = id
    ·simp only [e1, if_true] at hh
     cases hh
     exact .inl rfl
    ·simp only [e1, if_false] at hh
     by_cases e2 : i ∈ B.ids
     ·simp only [e2, if_true] at hh
      cases hh
      exact .inr e2
     ·simp [e2] at hh
  ·by_cases e : i = id
   ·subst e
    simp only [updH, if_true] at hi
    cases hi
    simpa using hj
   ·simp only [updH, e, if_false] at hi ⊢
    by_cases e2 : i ∈ B.ids
    ·simp only [e2, if_true]
     exact hhp' _ (addN_key (by rw [B.keys]; exact e2) hi)
    ·simp only [e2, if_false]
     rw [addN_off (by rw [B.keys]; exact e2)] at hi
     refine ⟨hi, fun k q h he => ?_⟩
     rcases h0 k q h with ⟨rfl, rfl⟩ | ⟨e3, hm⟩
     ·simp only [if_true] at he
      exact e he.symm
     ·simp only [e3, if_false] at he
      subst he
      exact e2 (hk hm)
  ·by_cases c1 : i = id
   ·by_cases c2 : j' = id
    ·exact c1.trans c2.symm
    ·simp only [c1, if_true] at e1
     cases e1
     simp only [c2, if_false] at e2
     by_cases c3 : j' ∈ B.ids
     ·simp only [c3, if_true] at e2
      cases e2
      exact absurd c3 h1i
     ·simp [c3] at e2
   ·simp only [c1, if_false] at e1
    by_cases c3 : i ∈ B.ids
    ·simp only [c3, if_true] at e1
     cases e1
     by_cases c2 : j' = id
     ·simp only [c2, if_true] at e2
      cases e2
      exact absurd c3 h1i
     ·simp only [c2, if_false] at e2
      by_cases c4 : j' ∈ B.ids
      ·simp only [c4, if_true] at e2
       cases e2
       rfl
      ·simp [c4] at e2
    ·simp [c3] at e1

end
section
variable {Y Z : Type}
/-- The contract of a method that computes F, or ends with the fault f. -/
def reF (A : Arg Z) (er : Y → D) (f : Int × Int) (F : Rdr → Z → Out (Rdr × Y)) : Spc := rdC A er (fun s z => (F s z).fine f) (fun s z s' y => F s z = .ok (s', y))
def reFX (er : Y → D) (f : Int × Int) (F : Rdr → Z → Out (Rdr × Y)) (id b : Nat) (r : Option Res) (o : Option Z) (H : HMap) (K : D → HMap → Prop) : Prop :=
 ∃ x, r = some (.box b (ceRdr x)) ∧ optX o fun z => outX f (F x z) fun q => K (er q.2) (updH H id (some (.box b (ceRdr q.1))))
@[congr] theorem reFX_cg {er : Y → D} {f : Int × Int} {F : Rdr → Z → Out (Rdr × Y)} {id b : Nat} {r r' : Option Res} {o o' : Option Z} {H : HMap} {K : D → HMap → Prop} (h1 : r = r') (h2 : o = o') : reFX er f F id b r o H K = reFX er f F id b r' o' H K := by subst h1; subst h2; rfl
@[simp] theorem reF_pt (A : Arg Z) (er : Y → D) (f : Int × Int) (F : Rdr → Z → Out (Rdr × Y)) (d i b : Nat) (ds : List D) (H : HMap) (K : D → HMap → Prop) : (reF A er f F).pt d (.bptr i b 0 :: ds) H K = reFX er f F i b (H i) (A.dec ds) H K := by
 unfold reF reFX
 rw [rdC_pt]
 unfold rdX
 refine propext (exists_congr fun x => and_congr_right fun _ => ?_)
 cases A.dec ds with
 | none => exact Iff.rfl
 | some z =>
   show ((F x z).fine f ∧ ∀ x' y, F x z = .ok (x', y) → _) ↔ outX f (F x z) _
   rw [← outX_eq]
   exact and_congr_right fun _ => ⟨fun h q e => h q.1 q.2 e, fun h x' y e => h (x', y) e⟩
@[simp] theorem reFX_r (er : Y → D) (f : Int × Int) (F : Rdr → Z → Out (Rdr × Y)) (id b : Nat) (l : B) (p dp : Int) (e : B) (g : Int) (o : Option Z) (H : HMap) (K : D → HMap → Prop) :
 reFX er f F id b (some (.box b [.v (.string l), .v (.int .i64 p), .v (.int .i64 dp), .v (.string e), .v (.int .i64 g)])) o H K = optX o fun z => outX f (F ⟨l, p, dp, e, g⟩ z) fun q => K (er q.2) (updH H id (some (.box b (ceRdr q.1)))) := by
 refine propext ⟨fun ⟨x, h1, h2⟩ => ?_, fun h => ⟨⟨l, p, dp, e, g⟩, rfl, h⟩⟩
 have e1 : ceRdr ⟨l, p, dp, e, g⟩ = ceRdr x := by
  have := Option.some.inj h1
  exact (Res.box.inj this).2
 have := ceRdr_inj e1
 subst this
 exact h2
theorem isBx_bp {X : Type} {ce : X → List D} (hce : ∀ x y, ce x = ce y → x = y) {A : Arg Z} {er : Y → D} {pre : X → Z → Prop} {post : X → Z → X → Y → Prop} {id b : Nat} {ds : List D} : IsBx id (bpC (boxD ce) A er pre post).pt (.bptr id b 0 :: ds) := by
 refine ⟨fun r => ∃ x z, A.dec ds = some z ∧ r = some (.box b (ce x)) ∧ pre x z, fun r d u => ∃ x z x' y, A.dec ds = some z ∧ r = some (.box b (ce x)) ∧ post x z x' y ∧ d = er y ∧ u = .box b (ce x'), fun t H K => ⟨?_, ?_⟩⟩
 ·rintro ⟨id', b', x, z, ds', h1, h2, h3, h4, h5, h6, h7⟩
  cases h1
  refine ⟨⟨x, z, h2, h3, h6⟩, fun d u ⟨x2, z2, x', y, e1, e2, e3, e4, e5⟩ => ?_⟩
  rw [h2] at e1
  cases e1
  have h3 : H id = some (.box b (ce x)) := h3
  rw [h3] at e2
  have := hce _ _ (Res.box.inj (Option.some.inj e2)).2
  subst this
  subst e4; subst e5
  exact h7 _ _ e3
 ·rintro ⟨⟨x, z, h2, h3, h6⟩, h7⟩
  exact ⟨id, b, x, z, ds, rfl, h2, h3, fun p hp => by simp [boxD] at hp, by simp [boxD], h6, fun x' y hp => h7 _ _ ⟨x, z, x', y, h2, h3, hp, rfl, rfl⟩⟩
@[simp] theorem preBx_re (A : Arg Z) (er : Y → D) (f : Int × Int) (F : Rdr → Z → Out (Rdr × Y)) (i b : Nat) (dst : Option Nat) (ds : List D) (H : HMap) (K : D → HMap → Prop) : preBx i dst (reF A er f F) (.bptr i b 0 :: ds) H K = reFX er f F i b (H i) (A.dec ds) H K := by
 rw [← reF_pt A er f F (dst.getD 0)]
 exact propext ⟨fun h => h.2, fun h => ⟨isBx_bp fun _ _ e => ceRdr_inj e, h⟩⟩
/-- What a walk through a method shows. -/
abbrev WalkRE (cc : CC) (rs : List CRes) (S : Nat → Spc) (A : Arg Z) (er : Y → D) (f : Int × Int) (F : Rdr → Z → Out (Rdr × Y)) : Prop := WalkRD cc rs S A er (fun s z => (F s z).fine f) (fun s z s' y => F s z = .ok (s', y))
variable {P : Program} {S : Nat → Spc} {g : Nat} {im : List Nat} {cc : CC} {rs : List CRes} {N : Nat}
theorem tri_walkRE {ty : Nat} {A : Arg Z} {er : Y → D} {f : Int × Int} {F : Rdr → Z → Out (Rdr × Y)} (hS : TabZ (zF ty f) P S) (h : FnOk P g im cc rs N) (hN : ∀ z, (A.view z).length + 1 ≤ N) (hcv : noCv cc = true) (hq : ∀ f ∈ quietOf cc, f ≠ panId ∧ Tri P f (S f).pt)
 (hw : WalkRE cc rs S A er f F) : TriZ (zF ty f) P g (reF A er f F).pt := tri_walkBPZ (by simp [rdB, boxD]) (okCC_of hS cc hcv hq) h hN fun b x z hp => hw b x z hp
end
end Go.Gv

namespace Go.Gv
def takeE (s : Rdr) (t : B) : Out (Rdr × Bool) := .of (takeR s t)
def nextE (s : Rdr) : Out Rdr := .of (nextR s)
def mustE : Rdr → List B → Out Rdr
 | s, [] => .ok s
 | s, t :: l => if signR s t then (nextE s).bind fun x => mustE x l else .err (s.pos, 3)
def textE (s : Rdr) (k : Int) : Out (Rdr × B) := if s.kind = k then (nextE s).map fun x => (x, s.text) else .err (s.pos, 3)
def commaE (s : Rdr) : Out (Rdr × B) := (mustE s [⟨#[44]⟩]).bind fun x => textE x 2
/-- the digits as a number, as far as it is not too great -/
def numL (most : Int) : List UInt8 → Int → Int
 | [], n => n
 | c :: l, n => if n ≤ most then numL most l (10 * n + ((c.toNat : Int) - 48)) else n
def zerP (c : U8) : Bool := decide (c.val = 48)
def trimZ (t : B) : B := t.extract (runP zerP t 0) t.size
def numV (most : Int) (t : B) : Int := numL most (trimZ t).data.toList 0
/-- (no: a token of digits is made of digits) -/
def numberE (s : Rdr) (most a : Int) : Out (Rdr × Int) := (textE s 3).bind fun r =>
 if digsB r.2 = true ∧ most ≤ 1000000 then (if most < numV most r.2 then .err (a, 8) else .ok (r.1, numV most r.2)) else .no
def bigE (s : Rdr) : Out (Rdr × Int) := numberE s 100000 s.pos
def signedE (s : Rdr) : Out (Rdr × Int) := (takeE s ⟨#[45]⟩).bind fun w => if w.2 then (bigE w.1).map fun n => (n.1, -n.2) else bigE w.1
section
variable (N : Rdr → Out (Rdr × Cond)) (O : Rdr → Out (Rdr × Cond))
def andLoopE : Nat → Rdr → List Cond → Out (Rdr × List Cond)
 | 0, _, _ => .no
 | k + 1, s, acc => (takeE s ⟨#[38]⟩).bind fun w => if w.2 then (N w.1).bind fun r => andLoopE k r.1 (acc ++ [r.2]) else .ok (w.1, acc)
def andE (s : Rdr) : Out (Rdr × Cond) := (N s).bind fun r => (andLoopE N 500 r.1 [r.2]).map fun q => (q.1, cOp 7 q.2)
def orLoopE : Nat → Rdr → List Cond → Out (Rdr × List Cond)
 | 0, _, _ => .no
 | k + 1, s, acc => (takeE s ⟨#[124]⟩).bind fun w => if w.2 then (andE N w.1).bind fun r => orLoopE k r.1 (acc ++ [r.2]) else .ok (w.1, acc)
def orE (s : Rdr) : Out (Rdr × Cond) := (andE N s).bind fun r => (orLoopE N 500 r.1 [r.2]).map fun q => (q.1, cOp 8 q.2)
def valueE (s : Rdr) (name : B) : Out (Rdr × Cond) := (textE s 4).bind fun v => (takeE v.1 ⟨#[37, 99]⟩).map fun w => (w.1, ⟨2, name, E0, v.2, E0, w.2, []⟩)
def regionE (s : Rdr) : Out (Rdr × Cond) := (textE s 2).bind fun n => (takeE n.1 ⟨#[44]⟩).bind fun c =>
 if c.2 then (textE c.1 2).bind fun a => (mustE a.1 [⟨#[61]⟩]).bind fun u => (textE u 4).bind fun v => (mustE v.1 [⟨#[41]⟩]).map fun z => (z, ⟨5, n.2, a.2, v.2, E0, false, []⟩)
 else (mustE c.1 [⟨#[41]⟩]).map fun z => (z, ⟨5, n.2, E0, E0, E0, false, []⟩)
/-- what follows the name of an atom -/
def atomE (s : Rdr) (name : B) : Out (Rdr × Cond) :=
 if wordR s [⟨#[99, 111, 110, 116, 97, 105, 110, 115]⟩] then (nextE s).bind fun x => (textE x 4).map fun v => (v.1, ⟨3, name, E0, v.2, E0, false, []⟩) else
 (takeE s ⟨#[33, 61]⟩).bind fun w => if w.2 then (valueE w.1 name).map fun v => (v.1, ⟨6, E0, E0, E0, E0, false, [v.2]⟩) else
 (mustE w.1 [⟨#[61]⟩]).bind fun u => if u.kind = 2 then (textE u 2).bind fun l => (mustE l.1 [⟨#[46]⟩]).bind fun d => (textE d 2).map fun a => (a.1, ⟨4, name, a.2, E0, l.2, false, []⟩)
 else valueE u name
def atomsE (s : Rdr) : Out (Rdr × Cond) := (textE s 2).bind fun n => if n.2 = ⟨#[105, 110]⟩ then (takeE n.1 ⟨#[40]⟩).bind fun v => if v.2 then regionE v.1 else atomE v.1 n.2 else atomE n.1 n.2
def notE (s : Rdr) : Out (Rdr × Cond) := (takeE s ⟨#[33]⟩).bind fun w => if w.2 then (N w.1).map fun r => (r.1, ⟨6, E0, E0, E0, E0, false, [r.2]⟩) else
 (takeE w.1 ⟨#[40]⟩).bind fun u => if u.2 then (O u.1).bind fun x => (mustE x.1 [⟨#[41]⟩]).map fun z => (z, x.2) else atomsE u.1
end
/-- the condition without parts, or negated, or in parentheses (n: how deep) -/
def notEN : Nat → Rdr → Out (Rdr × Cond)
 | 0 => fun _ => .no
 | n + 1 => notE (notEN n) (orE (notEN n))
/-! ### Patterns -/
section
variable (A : Rdr → Bool → Out (Rdr × Pat)) (O : Rdr → Out (Rdr × Cond))
/-- a token pattern behind its label -/
def tokenE (s : Rdr) (label : B) : Out (Rdr × Pat) := (takeE s ⟨#[91]⟩).bind fun u => if u.2 then
 (if signR u.1 ⟨#[93]⟩ then (mustE u.1 [⟨#[93]⟩]).map fun z => (z, ⟨1, ⟨1, E0, E0, E0, E0, false, []⟩, label, E0, 0, 0, []⟩)
 else (O u.1).bind fun x => (mustE x.1 [⟨#[93]⟩]).map fun z => (z, ⟨1, x.2, label, E0, 0, 0, []⟩))
 else (valueE u.1 E0).map fun v => (v.1, ⟨1, v.2, label, E0, 0, 0, []⟩)
def anchorE (s : Rdr) (op : Int) : Out (Rdr × Pat) := (textE s 2).bind fun n => (mustE n.1 [⟨#[62]⟩]).map fun z => (z, ⟨op, Cond0, E0, n.2, 0, 0, []⟩)
def itemE (s : Rdr) : Out (Rdr × Pat) :=
 (takeE s ⟨#[60]⟩).bind fun b => if b.2 then anchorE b.1 2 else (takeE b.1 ⟨#[60, 47]⟩).bind fun c => if c.2 then anchorE c.1 3 else
 (takeE c.1 ⟨#[40]⟩).bind fun d => if d.2 then (A d.1 true).bind fun q => (mustE q.1 [⟨#[41]⟩]).map fun w => (w, q.2) else
 if d.1.kind = 2 then (textE d.1 2).bind fun n => (mustE n.1 [⟨#[58]⟩]).bind fun u => tokenE O u n.2 else tokenE O d.1 E0
/-- what stands in braces, behind the first one -/
def braceE (s : Rdr) (a : Int) : Out (Rdr × Option (Int × Int)) := (numberE s 16 a).bind fun lo => (takeE lo.1 ⟨#[44]⟩).bind fun c =>
 if c.2 then (if signR c.1 ⟨#[125]⟩ then (mustE c.1 [⟨#[125]⟩]).map fun z => (z, some (lo.2, -1))
  else (numberE c.1 16 a).bind fun hi => if hi.2 < lo.2 then .err (a, 8) else (mustE hi.1 [⟨#[125]⟩]).map fun z => (z, some (lo.2, hi.2)))
 else (mustE c.1 [⟨#[125]⟩]).map fun z => (z, some (lo.2, lo.2))
/-- a suffix, if there is one -/
def sufE (s : Rdr) : Out (Rdr × Option (Int × Int)) := (takeE s ⟨#[63]⟩).bind fun w => if w.2 then .ok (w.1, some (0, 1)) else
 (takeE w.1 ⟨#[42]⟩).bind fun w => if w.2 then .ok (w.1, some (0, -1)) else
 (takeE w.1 ⟨#[43]⟩).bind fun w => if w.2 then .ok (w.1, some (1, -1)) else
 (takeE w.1 ⟨#[123]⟩).bind fun w => if w.2 then braceE w.1 s.pos else .ok (w.1, none)
def repLoopE : Nat → Rdr → Pat → Out (Rdr × Pat)
 | 0, _, _ => .no
 | k + 1, s, x => (sufE s).bind fun r => match r.2 with
   | none => .ok (r.1, x)
   | some m => repLoopE k r.1 ⟨6, Cond0, E0, E0, m.1, m.2, [x]⟩
def repE (s : Rdr) : Out (Rdr × Pat) := (itemE A O s).bind fun r => repLoopE 500 r.1 r.2
def seqLoopE (i : Bool) : Nat → Rdr → List Pat → Out (Rdr × List Pat)
 | 0, _, _ => .no
 | k + 1, s, acc => (Out.of (beginsR s i)).bind fun b => if b then (repE A O s).bind fun r => seqLoopE i k r.1 (acc ++ [r.2]) else .ok (s, acc)
def seqE (s : Rdr) (i : Bool) : Out (Rdr × Pat) := (repE A O s).bind fun r => (seqLoopE A O i 500 r.1 [r.2]).map fun q => (q.1, oneOr 4 q.2)
def altLoopE (i : Bool) : Nat → Rdr → List Pat → Out (Rdr × List Pat)
 | 0, _, _ => .no
 | k + 1, s, acc => (takeE s ⟨#[124]⟩).bind fun w => if w.2 then (seqE A O w.1 i).bind fun r => altLoopE i k r.1 (acc ++ [r.2]) else .ok (w.1, acc)
def altE (s : Rdr) (i : Bool) : Out (Rdr × Pat) := (seqE A O s i).bind fun r => (altLoopE A O i 500 r.1 [r.2]).map fun q => (q.1, oneOr 5 q.2)
end
/-- alternatives (n: how deep) -/
def altEN : Nat → Rdr → Bool → Out (Rdr × Pat)
 | 0 => fun _ _ => .no
 | n + 1 => altE (altEN n) (orE (notEN (n + 1)))
/-! ### Constraints -/
section
variable (N : Rdr → Out (Rdr × Glob)) (O : Rdr → Out (Rdr × Glob))
def gandLoopE : Nat → Rdr → List Glob → Out (Rdr × List Glob)
 | 0, _, _ => .no
 | k + 1, s, acc => (takeE s ⟨#[38]⟩).bind fun w => if w.2 then (N w.1).bind fun r => gandLoopE k r.1 (acc ++ [r.2]) else .ok (w.1, acc)
def gandE (s : Rdr) : Out (Rdr × Glob) := (N s).bind fun r => (gandLoopE N 500 r.1 [r.2]).map fun q => (q.1, gOp 12 q.2)
def gorLoopE : Nat → Rdr → List Glob → Out (Rdr × List Glob)
 | 0, _, _ => .no
 | k + 1, s, acc => (takeE s ⟨#[124]⟩).bind fun w => if w.2 then (gandE N w.1).bind fun r => gorLoopE k r.1 (acc ++ [r.2]) else .ok (w.1, acc)
def gorE (s : Rdr) : Out (Rdr × Glob) := (gandE N s).bind fun r => (gorLoopE N 500 r.1 [r.2]).map fun q => (q.1, gOp 13 q.2)
def argsLoopE : Nat → Rdr → List B → Out (Rdr × List B)
 | 0, _, _ => .no
 | k + 1, s, acc => (takeE s ⟨#[44]⟩).bind fun w => if w.2 then (textE w.1 4).bind fun r => argsLoopE k r.1 (acc ++ [r.2]) else .ok (w.1, acc)
/-- the arguments of a function (op, its first one), behind the first one -/
def argsE (s : Rdr) (op : Int) (a : B) : Out (Rdr × Glob) :=
 if op = 1 then .ok (s, ⟨op, a, E0, E0, E0, E0, false, 0, 0, [], []⟩)
 else if op = 10 then (mustE s [⟨#[44]⟩]).bind fun u => (bigE u).bind fun lo => (mustE lo.1 [⟨#[44]⟩]).bind fun v => (bigE v).map fun hi => (hi.1, ⟨op, a, E0, E0, E0, E0, false, lo.2, hi.2, [], []⟩)
 else (commaE s).bind fun b =>
  if op = 4 then (mustE b.1 [⟨#[44]⟩]).bind fun u => (signedE u).bind fun lo => (mustE lo.1 [⟨#[44]⟩]).bind fun v => (signedE v).map fun hi => (hi.1, ⟨op, a, b.2, E0, E0, E0, false, lo.2, hi.2, [], []⟩)
  else if op = 5 ∨ op = 9 then (commaE b.1).map fun n => (n.1, ⟨op, a, b.2, n.2, E0, E0, false, 0, 0, [], []⟩)
  else if op = 8 then (argsLoopE 500 b.1 []).map fun l => (l.1, ⟨op, a, b.2, E0, E0, E0, false, 0, 0, l.2, []⟩)
  else .ok (b.1, ⟨op, a, b.2, E0, E0, E0, false, 0, 0, [], []⟩)
def gatomE (s : Rdr) (name : B) : Out (Rdr × Glob) := (mustE s [⟨#[46]⟩]).bind fun d => (textE d 2).bind fun n => (mustE n.1 [⟨#[61]⟩]).bind fun u =>
 if u.kind = 2 then (textE u 2).bind fun b => (mustE b.1 [⟨#[46]⟩]).bind fun v => (textE v 2).map fun g => (g.1, ⟨3, name, b.2, n.2, g.2, E0, false, 0, 0, [], []⟩)
 else (textE u 4).bind fun v => (takeE v.1 ⟨#[37, 99]⟩).map fun f => (f.1, ⟨2, name, E0, n.2, E0, v.2, f.2, 0, 0, [], []⟩)
def gatomsE (s : Rdr) : Out (Rdr × Glob) := (textE s 2).bind fun n => if 0 < funcOp n.2 then (takeE n.1 ⟨#[40]⟩).bind fun v =>
 if v.2 then (textE v.1 2).bind fun a => (argsE a.1 (funcOp n.2) a.2).bind fun g => (mustE g.1 [⟨#[41]⟩]).map fun z => (z, g.2) else gatomE v.1 n.2
 else gatomE n.1 n.2
def gnotE (s : Rdr) : Out (Rdr × Glob) := (takeE s ⟨#[33]⟩).bind fun w => if w.2 then (N w.1).map fun r => (r.1, ⟨11, E0, E0, E0, E0, E0, false, 0, 0, [], [r.2]⟩) else
 (takeE w.1 ⟨#[40]⟩).bind fun u => if u.2 then (O u.1).bind fun x => (mustE x.1 [⟨#[41]⟩]).map fun z => (z, x.2) else gatomsE u.1
end
def gnotEN : Nat → Rdr → Out (Rdr × Glob)
 | 0 => fun _ => .no
 | n + 1 => gnotE (gnotEN n) (gorE (gnotEN n))
/-! ### Queries -/
/-- the place of a word in a list, -1: none -/
def idxL (l : List B) (w : B) : Int := idxI l fun z => decide (w = z)
/-- one filter -/
def filtE (s : Rdr) : Out (Rdr × Filt) := (takeE s ⟨#[33]⟩).bind fun w =>
 if w.1.kind ≠ 2 ∨ idxL filterL w.1.text < 1 then .err (w.1.pos, 3) else (nextE w.1).bind fun x => (textE x 2).map fun n => (n.1, ⟨idxL filterL w.1.text, w.2, n.2⟩)
def filtLoopE : Nat → Rdr → List Filt → Out (Rdr × List Filt)
 | 0, _, _ => .no
 | k + 1, s, acc => if signR s ⟨#[33]⟩ || wordR s filterL then (filtE s).bind fun f => filtLoopE k f.1 (acc ++ [f.2]) else .ok (s, acc)
def strategyW : B := ⟨#[115, 116, 114, 97, 116, 101, 103, 121]⟩
def stratE (s : Rdr) : Out (Rdr × Int) := if wordR s [strategyW] then (nextE s).bind fun x => if wordR x strategyL then (textE x 2).map fun n => (n.1, idxL strategyL n.2) else .err (x.pos, 3) else .ok (s, 0)
/-- the whole text (n: how deep) -/
def queryE (n : Nat) (s : Rdr) : Out (Rdr × Qry) := (nextE s).bind fun s => (altEN n s false).bind fun p => (takeE p.1 ⟨#[58, 58]⟩).bind fun c =>
 (if c.2 then gorE (gnotEN n) c.1 else .ok (c.1, GlobE)).bind fun g => (filtLoopE 500 g.1 []).bind fun f => (stratE f.1).bind fun z =>
 if z.1.kind = 0 then .ok (z.1, ⟨p.2, g.2, f.2, z.2⟩) else .err (z.1.pos, 3)
end Go.Gv
