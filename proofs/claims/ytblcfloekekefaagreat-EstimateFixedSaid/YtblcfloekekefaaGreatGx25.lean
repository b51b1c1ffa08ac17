/- A part of the framework and of the walks: Asm4 Fr Fr2. -/
import Derived.WalkKit
import Derived.ProofKit
import Derived.OpenShut
import Derived.ShutString
import Derived.ChangeOld
import Derived.Below
import Derived.Test.YtblcfloekekefaaGreatGx14
import Derived.Test.YtblcfloekekefaaGreatGx24

namespace Go.Gv
open Go.Proofs Cod
set_option maxRecDepth 100000
set_option linter.unusedVariables false
theorem tri_ex {P : Program} {f : Nat} {A : Nat → PT} {A' : PT} (h : ∀ n, Tri P f (A n)) (hs : ∀ d ds H K, A' d ds H K → ∃ n, A n d ds H K) : Tri P f A' :=
  fun O tp w vs ds H d K a b c e g hA => (hs d ds H K hA).elim fun n hn => h n O tp w vs ds H d K a b c e g hn
theorem tri_void {P : Program} {f : Nat} {A : PT} (hs : ∀ d ds H K, ¬ A d ds H K) : Tri P f A := fun O tp w vs ds H d K a b c e g hA => absurd hA (hs d ds H K)
theorem spc_ex {X Y : Type} {A : Arg X} {pre : Nat → X → Prop} {pre' : X → Prop} {er : Y → D} {post : X → Y → Prop} (hx : ∀ x, pre' x → ∃ n, pre n x) : ∀ d ds H K, (spc A pre' er post).pt d ds H K → ∃ n, (spc A (pre n) er post).pt d ds H K := by
  intro d ds H K h
  rw [spc_pt] at h
  cases e : A.dec ds with
  | none => rw [e] at h; exact h.elim
  | some x =>
    rw [e] at h
    obtain ⟨h1, h2⟩ := h
    obtain ⟨n, hn⟩ := hx x h1
    exact ⟨n, by rw [spc_pt, e]; exact ⟨hn, h2⟩⟩
theorem spc_void {P : Program} {f : Nat} {X Y : Type} {A : Arg X} {pre : X → Prop} {er : Y → D} {post : X → Y → Prop} (hx : ∀ x, ¬ pre x) : Tri P f (spc A pre er post).pt := tri_void fun d ds H K h => by
  rw [spc_pt] at h
  cases e : A.dec ds with
  | none => rw [e] at h; exact h.elim
  | some x => rw [e] at h; exact hx x h.1
theorem pd0 {p : Pat} (h : pDep p ≤ 0) : False := by rw [pDep_eq] at h; omega
theorem cd0 {p : Cond} (h : cDep p ≤ 0) : False := by rw [cDep_eq] at h; omega
theorem u_markup_begins : Tri Tryz.prog f_markup_begins (s_begins).pt :=
  tri_walk (S := tab []) (tab_ok tab_nil) ok_markup_begins (fun _ => Nat.le_of_ble_eq_true rfl) (w_markup_begins)
theorem u_markup_goesOn : Tri Tryz.prog f_markup_goesOn (s_goesOn).pt :=
  tri_walk (S := tab [(f_markup_begins, s_begins)]) (tab_ok (tab_cons u_markup_begins tab_nil)) ok_markup_goesOn (fun _ => Nat.le_of_ble_eq_true rfl) (w_markup_goesOn rfl)
theorem u_markup_ValidName : Tri Tryz.prog f_markup_ValidName (s_validN).pt :=
  tri_walk (S := tab [(f_markup_begins, s_begins), (f_markup_goesOn, s_goesOn)]) (tab_ok (tab_cons u_markup_begins (tab_cons u_markup_goesOn tab_nil))) ok_markup_ValidName (fun _ => Nat.le_of_ble_eq_true rfl) (w_markup_ValidName rfl rfl)
theorem u_r04_First : Tri Tryz.prog f_r04_First (s_begins).pt :=
  tri_walk (S := tab []) (tab_ok tab_nil) ok_r04_First (fun _ => Nat.le_of_ble_eq_true rfl) (w_r04_FirstF)
theorem u_r04_Next : Tri Tryz.prog f_r04_Next (s_goesOn).pt :=
  tri_walk (S := tab [(f_r04_First, s_begins)]) (tab_ok (tab_cons u_r04_First tab_nil)) ok_r04_Next (fun _ => Nat.le_of_ble_eq_true rfl) (w_r04_NextF rfl)
theorem u_r04_ValidName : Tri Tryz.prog f_r04_ValidName (s_validN).pt :=
  tri_walk (S := tab [(f_r04_First, s_begins), (f_r04_Next, s_goesOn)]) (tab_ok (tab_cons u_r04_First (tab_cons u_r04_Next tab_nil))) ok_r04_ValidName (fun _ => Nat.le_of_ble_eq_true rfl) (w_r04_ValidNameF rfl rfl)
theorem u_query_zero : Tri Tryz.prog f_query_zero (s_zero).pt :=
  tri_walk (S := tab []) (tab_ok tab_nil) ok_query_zero (fun _ => Nat.le_of_ble_eq_true rfl) (w_query_zero)
theorem u_query_node : Tri Tryz.prog f_query_node (s_node).pt :=
  tri_walk (S := tab [(f_query_zero, s_zero)]) (tab_ok (tab_cons u_query_zero tab_nil)) ok_query_node (fun _ => Nat.le_of_ble_eq_true rfl) (w_query_node rfl)
theorem u_query_named : Tri Tryz.prog f_query_named (s_named).pt :=
  tri_walk (S := tab [(f_markup_ValidName, s_validN)]) (tab_ok (tab_cons u_markup_ValidName tab_nil)) ok_query_named (fun _ => Nat.le_of_ble_eq_true rfl) (w_query_named rfl)
theorem u_query_ranged : Tri Tryz.prog f_query_ranged (s_ranged).pt :=
  tri_walk (S := tab []) (tab_ok tab_nil) ok_query_ranged (fun _ => Nat.le_of_ble_eq_true rfl) (w_query_ranged)
theorem r_r22_Same : ∀ n, Tri Tryz.prog f_r22_Same (s_sameC n).pt
  | 0 => spc_void fun x h => cd0 h
  | n + 1 => tri_walk (S := tab [(f_r22_Same, s_sameC n)]) (tab_ok (tab_cons (r_r22_Same n) tab_nil)) ok_r22_Same (fun _ => Nat.le_of_ble_eq_true rfl) (w_r22_Same n rfl)
theorem u_r22_Same : Tri Tryz.prog f_r22_Same (s_sameA).pt :=
  tri_ex (fun n => r_r22_Same n) (spc_ex (fun x _ => ⟨cDep x.1, Nat.le_refl _⟩))
theorem u_r23_shape : Tri Tryz.prog f_r23_shape (s_r23_shape).pt :=
  tri_walk (S := tab [(f_r22_Same, s_sameA)]) (tab_ok (tab_cons u_r22_Same tab_nil)) ok_r23_shape (fun _ => Nat.le_of_ble_eq_true rfl) (w_r23_shape rfl)
theorem r_r23_shapes : ∀ n, Tri Tryz.prog f_r23_shapes (s_shapes n).pt
  | 0 => spc_void fun x h => pd0 h.1
  | n + 1 => tri_walk (S := tab [(f_r23_shape, s_r23_shape), (f_r23_shapes, s_shapes n)]) (tab_ok (tab_cons u_r23_shape (tab_cons (r_r23_shapes n) tab_nil))) ok_r23_shapes (fun _ => Nat.le_of_ble_eq_true rfl) (w_r23_shapes n rfl rfl)
theorem u_r23_shapes : Tri Tryz.prog f_r23_shapes (s_shapesA).pt :=
  tri_ex (fun n => r_r23_shapes n) (spc_ex (fun x h => ⟨pDep x.1, Nat.le_refl _, h⟩))
theorem r_r23_names : ∀ n, Tri Tryz.prog f_r23_names (s_names n).pt
  | 0 => spc_void fun x h => pd0 h
  | n + 1 => tri_walk (S := tab [(f_r04_ValidName, s_validN), (f_r23_names, s_names n)]) (tab_ok (tab_cons u_r04_ValidName (tab_cons (r_r23_names n) tab_nil))) ok_r23_names (fun _ => Nat.le_of_ble_eq_true rfl) (w_r23_names n rfl rfl)
theorem u_r23_names : Tri Tryz.prog f_r23_names (s_namesA).pt :=
  tri_ex (fun n => r_r23_names n) (spc_ex (fun x _ => ⟨pDep x, Nat.le_refl _⟩))
theorem r_r23_numbers : ∀ n, Tri Tryz.prog f_r23_numbers (s_numbers n).pt
  | 0 => spc_void fun x h => pd0 h
  | n + 1 => tri_walk (S := tab [(f_r23_numbers, s_numbers n)]) (tab_ok (tab_cons (r_r23_numbers n) tab_nil)) ok_r23_numbers (fun _ => Nat.le_of_ble_eq_true rfl) (w_r23_numbers n rfl)
theorem u_r23_numbers : Tri Tryz.prog f_r23_numbers (s_numbersA).pt :=
  tri_ex (fun n => r_r23_numbers n) (spc_ex (fun x _ => ⟨pDep x, Nat.le_refl _⟩))
theorem u_r23_IsPattern : Tri Tryz.prog f_r23_IsPattern (s_r23_IsPattern).pt :=
  tri_walk (S := tab [(f_r23_shapes, s_shapesA), (f_r23_names, s_namesA), (f_r23_numbers, s_numbersA)]) (tab_ok (tab_cons u_r23_shapes (tab_cons u_r23_names (tab_cons u_r23_numbers tab_nil)))) ok_r23_IsPattern (fun _ => Nat.le_of_ble_eq_true rfl) (w_r23_IsPattern rfl rfl rfl)
theorem r_r23_size : ∀ n, Tri Tryz.prog f_r23_size (s_size n).pt
  | 0 => spc_void fun x h => pd0 h.1
  | n + 1 => tri_walk (S := tab [(f_r23_size, s_size n)]) (tab_ok (tab_cons (r_r23_size n) tab_nil)) ok_r23_size (fun _ => Nat.le_of_ble_eq_true rfl) (w_r23_size n rfl)
theorem u_r23_size : Tri Tryz.prog f_r23_size (s_sizeA).pt :=
  tri_ex (fun n => r_r23_size n) (spc_ex (fun x h => ⟨pDep x, Nat.le_refl _, h⟩))
theorem r_r23_width : ∀ n, Tri Tryz.prog f_r23_width (s_width n).pt
  | 0 => spc_void fun x h => pd0 h.1
  | n + 1 => tri_walk (S := tab [(f_r23_width, s_width n)]) (tab_ok (tab_cons (r_r23_width n) tab_nil)) ok_r23_width (fun _ => Nat.le_of_ble_eq_true rfl) (w_r23_width n rfl)
theorem u_r23_width : Tri Tryz.prog f_r23_width (s_widthA).pt :=
  tri_ex (fun n => r_r23_width n) (spc_ex (fun x h => ⟨pDep x, Nat.le_refl _, h⟩))
theorem r_r23_leaves : ∀ n, Tri Tryz.prog f_r23_leaves (i_leaves n).pt
  | 0 => tri_void fun d ds H K ⟨id, v, l, a, x, h1, h2, h3, h4, h5⟩ => pd0 h4.1
  | n + 1 => tri_walkI2 (S := tab [(f_r23_leaves, i_leaves n)]) (tab_ok (tab_cons (r_r23_leaves n) tab_nil)) ok_r23_leaves (by decide) (w_r23_leaves n rfl)
theorem u_r23_leaves_i : Tri Tryz.prog f_r23_leaves i_leavesA.pt := tri_ex (fun n => r_r23_leaves n) fun d ds H K ⟨id, v, l, a, x, h1, h2, h3, h4, h5⟩ => ⟨pDep x, id, v, l, a, x, h1, h2, h3, ⟨Nat.le_refl _, h4⟩, h5⟩
theorem u_r23_leaves : Tri Tryz.prog f_r23_leaves s_leaves.pt := tri_or (tri_walkF (S := tab [(f_r23_leaves, i_leavesA)]) (tab_ok (tab_cons u_r23_leaves_i tab_nil)) ok_r23_leaves (fun _ => Nat.le_of_ble_eq_true rfl) (w_r23_leavesF rfl)) u_r23_leaves_i
theorem u_r23_Leaves : Tri Tryz.prog f_r23_Leaves (s_r23_Leaves).pt :=
  tri_walk (S := tab [(f_r23_IsPattern, s_r23_IsPattern), (f_r23_leaves, s_leaves)]) (tab_ok (tab_cons u_r23_IsPattern (tab_cons u_r23_leaves tab_nil))) ok_r23_Leaves (fun _ => Nat.le_of_ble_eq_true rfl) (w_r23_Leaves rfl rfl)
theorem u_r23_Size : Tri Tryz.prog f_r23_Size (s_r23_Size).pt :=
  tri_walk (S := tab [(f_r23_IsPattern, s_r23_IsPattern), (f_r23_size, s_sizeA)]) (tab_ok (tab_cons u_r23_IsPattern (tab_cons u_r23_size tab_nil))) ok_r23_Size (fun _ => Nat.le_of_ble_eq_true rfl) (w_r23_Size rfl rfl)
theorem u_r23_Width : Tri Tryz.prog f_r23_Width (s_Width).pt :=
  tri_walk (S := tab [(f_r23_IsPattern, s_r23_IsPattern), (f_r23_width, s_widthA)]) (tab_ok (tab_cons u_r23_IsPattern (tab_cons u_r23_width tab_nil))) ok_r23_Width (fun _ => Nat.le_of_ble_eq_true rfl) (w_r23_Width rfl rfl)
def N31 : Nat → Spc := tab [(f_query_node, s_node), (f_query_named, s_named), (f_query_ranged, s_ranged)]
def Sh1 (n : Nat) : Nat → Spc := tab [(f_query_shallow_1, s_sh1 n)]
theorem con_of {S : Nat → Spc} (h : ∀ f, Tri Tryz.prog f (S f).pt) : Tri Tryz.prog f_slices_ContainsFunc_Pattern (s_ConP S).pt :=
  tri_walk (S := tab [(f_slices_IndexFunc_Pattern, s_IdxP S)]) (tab_ok (tab_cons (tri_walk (S := S) h ok_slices_IndexFunc_Pattern (fun _ => Nat.le_of_ble_eq_true rfl) w_slices_IndexFunc_Pattern) tab_nil)) ok_slices_ContainsFunc_Pattern (fun _ => Nat.le_of_ble_eq_true rfl) (w_slices_ContainsFunc_Pattern rfl)
theorem r_query_shallow : ∀ n, Tri Tryz.prog f_query_shallow (s_shallow n).pt
  | 0 => spc_void fun x h => pd0 h.1
  | n + 1 =>
    have h1 : Tri Tryz.prog f_query_shallow_1 (s_sh1 n).pt := tri_walk (S := tab [(f_query_shallow, s_shallow n)]) (tab_ok (tab_cons (r_query_shallow n) tab_nil)) ok_query_shallow_1 (fun _ => Nat.le_of_ble_eq_true rfl) (w_query_shallow_1 n rfl)
    tri_walk (S := tab [(f_slices_ContainsFunc_Pattern, s_ConP (Sh1 n))]) (tab_ok (tab_cons (con_of (S := Sh1 n) (tab_ok (tab_cons h1 tab_nil))) tab_nil)) ok_query_shallow (fun _ => Nat.le_of_ble_eq_true rfl) (w_query_shallow (S0 := Sh1 n) n rfl rfl)
theorem u_query_shallow : Tri Tryz.prog f_query_shallow (s_shallowA).pt :=
  tri_ex (fun n => r_query_shallow n) (spc_ex (fun x h => ⟨pDep x.1, Nat.le_refl _, h⟩))
def Ev1 (n : Nat) : Nat → Spc := tab [(f_query_every_1, s_ev1 N31 n)]
def Ev2 (n : Nat) : Nat → Spc := tab [(f_slices_ContainsFunc_Pattern, s_ConP (Ev1 n)), (f_query_node, s_node), (f_query_named, s_named), (f_query_ranged, s_ranged)]
theorem n31_ev2 (n : Nat) (d : D) (f : Pat → Bool) (h : FunIs N31 d f) : FunIs (Ev2 n) d f := by
  obtain ⟨g, c, pc, a, b, e⟩ := h
  refine ⟨g, c, pc, a, ?_, e⟩
  by_cases hg : g = f_slices_ContainsFunc_Pattern
  · subst hg
    have : N31 f_slices_ContainsFunc_Pattern = Spc.none := rfl
    rw [this] at b
    cases b
  · rw [← b]
    unfold Ev2 N31
    rw [tab, if_neg hg]
theorem r_query_every : ∀ n, Tri Tryz.prog f_query_every (s_every N31 n).pt
  | 0 => spc_void fun x h => by obtain ⟨f, h1, h2⟩ := h; exact pd0 h2
  | n + 1 =>
    have h1 : Tri Tryz.prog f_query_every_1 (s_ev1 N31 n).pt := tri_walk (S := tab [(f_query_every, s_every N31 n)]) (tab_ok (tab_cons (r_query_every n) tab_nil)) ok_query_every_1 (fun _ => Nat.le_of_ble_eq_true rfl) (w_query_every_1 (S0 := N31) n rfl)
    tri_walk (S := Ev2 n) (tab_ok (tab_cons (con_of (S := Ev1 n) (tab_ok (tab_cons h1 tab_nil))) (tab_cons u_query_node (tab_cons u_query_named (tab_cons u_query_ranged tab_nil))))) ok_query_every (fun _ => Nat.le_of_ble_eq_true rfl) (w_query_every (S0 := Ev1 n) (N := N31) n (n31_ev2 n) rfl rfl)
theorem u_query_every : Tri Tryz.prog f_query_every (s_everyA N31).pt :=
  tri_ex (fun n => r_query_every n) (spc_ex (fun x h => by obtain ⟨f, h⟩ := h; exact ⟨pDep x.1, f, h, Nat.le_refl _⟩))
theorem u_query_Shape : Tri Tryz.prog f_query_Shape (s_Shape).pt :=
  tri_walk (S := tab [(f_query_shallow, s_shallowA), (f_query_every, s_everyA N31)]) (tab_ok (tab_cons u_query_shallow (tab_cons u_query_every tab_nil))) ok_query_Shape (fun _ => Nat.le_of_ble_eq_true rfl) (w_query_Shape (N := N31) rfl rfl rfl)
theorem u_query_right : Tri Tryz.prog f_query_right (s_r23_IsPattern).pt :=
  tri_walk (S := tab [(f_query_Shape, s_Shape), (f_query_every, s_everyA N31)]) (tab_ok (tab_cons u_query_Shape (tab_cons u_query_every tab_nil))) ok_query_right (fun _ => Nat.le_of_ble_eq_true rfl) (w_query_right (N := N31) rfl rfl rfl rfl)
theorem r_query_size : ∀ n, Tri Tryz.prog f_query_size (s_size n).pt
  | 0 => spc_void fun x h => pd0 h.1
  | n + 1 => tri_walk (S := tab [(f_query_size, s_size n)]) (tab_ok (tab_cons (r_query_size n) tab_nil)) ok_query_size (fun _ => Nat.le_of_ble_eq_true rfl) (w_query_size n rfl)
theorem u_query_size : Tri Tryz.prog f_query_size (s_sizeA).pt :=
  tri_ex (fun n => r_query_size n) (spc_ex (fun x h => ⟨pDep x, Nat.le_refl _, h⟩))
theorem r_query_width : ∀ n, Tri Tryz.prog f_query_width (s_width n).pt
  | 0 => spc_void fun x h => pd0 h.1
  | n + 1 => tri_walk (S := tab [(f_query_width, s_width n)]) (tab_ok (tab_cons (r_query_width n) tab_nil)) ok_query_width (fun _ => Nat.le_of_ble_eq_true rfl) (w_query_width n rfl)
theorem u_query_width : Tri Tryz.prog f_query_width (s_widthA).pt :=
  tri_ex (fun n => r_query_width n) (spc_ex (fun x h => ⟨pDep x, Nat.le_refl _, h⟩))
theorem u_query_Size : Tri Tryz.prog f_query_Size (s_query_Size).pt :=
  tri_walk (S := tab [(f_query_right, s_r23_IsPattern), (f_query_size, s_sizeA)]) (tab_ok (tab_cons u_query_right (tab_cons u_query_size tab_nil))) ok_query_Size (fun _ => Nat.le_of_ble_eq_true rfl) (w_query_Size rfl rfl)
theorem u_query_Width : Tri Tryz.prog f_query_Width (s_Width).pt :=
  tri_walk (S := tab [(f_query_right, s_r23_IsPattern), (f_query_width, s_widthA)]) (tab_ok (tab_cons u_query_right (tab_cons u_query_width tab_nil))) ok_query_Width (fun _ => Nat.le_of_ble_eq_true rfl) (w_query_Width rfl rfl)
theorem u_r31_Same : Tri Tryz.prog f_r31_Same (s_r31_Same).pt :=
  tri_walk (S := tab []) (tab_ok tab_nil) ok_r31_Same (fun _ => Nat.le_of_ble_eq_true rfl) (w_r31_Same)
theorem u_r31_Less : Tri Tryz.prog f_r31_Less (s_r31_Less).pt :=
  tri_walk (S := tab []) (tab_ok tab_nil) ok_r31_Less (fun _ => Nat.le_of_ble_eq_true rfl) (w_r31_Less)
theorem u_r31_insert : Tri Tryz.prog f_r31_insert (s_r31_insert).pt :=
  tri_walk (S := tab [(f_r31_Less, s_r31_Less)]) (tab_ok (tab_cons u_r31_Less tab_nil)) ok_r31_insert (fun _ => Nat.le_of_ble_eq_true rfl) (w_r31_insert rfl)
theorem r_r31_fixed : ∀ n, Tri Tryz.prog f_r31_fixed (s_r31_fixed n).pt
  | 0 => spc_void fun x h => pd0 h.1.1
  | n + 1 => tri_walk (S := tab [(f_r31_insert, s_r31_insert), (f_r23_Width, s_Width), (f_r23_Leaves, s_r23_Leaves), (f_r31_fixed, s_r31_fixed n)]) (tab_ok (tab_cons u_r31_insert (tab_cons u_r23_Width (tab_cons u_r23_Leaves (tab_cons (r_r31_fixed n) tab_nil))))) ok_r31_fixed (fun _ => Nat.le_of_ble_eq_true rfl) (w_r31_fixed n rfl rfl rfl rfl)
theorem u_r31_fixed : Tri Tryz.prog f_r31_fixed (s_r31_fixedA).pt :=
  tri_ex (fun n => r_r31_fixed n) (spc_ex (fun x h => h))
theorem u_r31_Fixed : Tri Tryz.prog f_r31_Fixed (s_r31_Fixed).pt :=
  tri_walk (S := tab [(f_r23_IsPattern, s_r23_IsPattern), (f_r23_Size, s_r23_Size), (f_r31_fixed, s_r31_fixedA)]) (tab_ok (tab_cons u_r23_IsPattern (tab_cons u_r23_Size (tab_cons u_r31_fixed tab_nil)))) ok_r31_Fixed (fun _ => Nat.le_of_ble_eq_true rfl) (w_r31_Fixed rfl rfl rfl)
theorem u_estimate_shift : Tri Tryz.prog f_estimate_shift (s_estimate_shift).pt :=
  tri_walk (S := tab []) (tab_ok tab_nil) ok_estimate_shift (fun _ => Nat.le_of_ble_eq_true rfl) (w_estimate_shift)
theorem u_slices_Compact_int : Tri Tryz.prog f_slices_Compact_int (s_Compact_int).pt :=
  tri_walkIO (S := tab []) (tab_ok tab_nil) ok_slices_Compact_int (fun _ => Nat.le_of_ble_eq_true rfl) (w_slices_Compact_int)
theorem u_slices_Compact_Source : Tri Tryz.prog f_slices_Compact_Source (s_Compact_Source).pt :=
  tri_walkIO (S := tab []) (tab_ok tab_nil) ok_slices_Compact_Source (fun _ => Nat.le_of_ble_eq_true rfl) (w_slices_Compact_Source)
theorem u_estimate_compare : Tri Tryz.prog f_estimate_compare (s_estimate_compare).pt :=
  tri_walk (S := tab [(f_cmp_Compare_int, s_cmp_Compare_int), (f_cmp_Or_int, s_cmp_Or_int)]) (tab_ok (tab_cons t_cmp_Compare_int (tab_cons t_cmp_Or_int tab_nil))) ok_estimate_compare (fun _ => Nat.le_of_ble_eq_true rfl) (w_estimate_compare rfl rfl)
theorem u_slices_SortFunc_Source : Tri Tryz.prog f_slices_SortFunc_Source s_SortFunc_Source.pt := by
  have h := tri_sortFunc (cf := cmpSp) (el := ty_Source) Tryz.sortSource rfl evS 2 (fun _ => rfl) (fun _ => rfl) (fun x v hv => by simp [evS] at hv; rcases hv with rfl | rfl <;> exact ⟨rfl, fun s h => by cases h⟩) Tryz.isAgg61 Tryz.sizeOf61
    swo_sp (fun x y h1 h2 => by rw [ltOf_sp] at h1 h2; simp at h1 h2; rcases ltS_tot x y with h | h | h <;> first | exact h | exact absurd h h1 | exact absurd h h2) u_estimate_compare ok_estimate_compare.enter (callEnter Tryz.func53 (by kernel_rfl) rfl)
  refine tri_iu_mono h (fun x l hp => hp) (fun x l r hp hq => ?_)
  have hq : r = l.mergeSort fun x y => !(ltOf cmpSp) y x := hq
  subst hq
  refine ⟨by simp, fun x => by simp [List.mem_mergeSort], ?_⟩
  have := List.pairwise_mergeSort (le := fun x y => !(ltOf cmpSp) y x) (fun a b c h1 h2 => by simp only [ltOf_sp] at *; simp at *; unfold ltS at *; omega) (fun a b => by simp only [ltOf_sp]; simp; unfold ltS; omega) l
  refine List.pairwise_iff_getElem.2 fun i j hi hj hij => ?_
  have h := List.pairwise_iff_getElem.1 this i j hi hj hij
  generalize (l.mergeSort fun x y => !(ltOf cmpSp) y x)[i] = a at h ⊢
  generalize (l.mergeSort fun x y => !(ltOf cmpSp) y x)[j] = b at h ⊢
  rw [ltOf_sp] at h
  simpa using h
theorem u_slices_Sort_int : Tri Tryz.prog f_slices_Sort_int s_Sort_int.pt := tri_sortInt Tryz.sortInt rfl (callEnter Tryz.func121 (by kernel_rfl) rfl)
theorem u_estimate_times : Tri Tryz.prog f_estimate_times (s_estimate_times).pt :=
  tri_walk (S := tab [(f_query_Width, s_Width), (f_estimate_shift, s_estimate_shift), (f_slices_Sort_int, s_Sort_int), (f_slices_Compact_int, s_Compact_int)]) (tab_ok (tab_cons u_query_Width (tab_cons u_estimate_shift (tab_cons u_slices_Sort_int (tab_cons u_slices_Compact_int tab_nil))))) ok_estimate_times (fun _ => Nat.le_of_ble_eq_true rfl) (w_estimate_times rfl rfl rfl rfl)
theorem r_estimate_visit : ∀ n, Tri Tryz.prog f_estimate_finder_visit (s_visit n).pt
  | 0 => tri_void fun d ds H K ⟨id, b, x, z, ds', h1, h2, h3, h4, h5, hp, h7⟩ => pd0 hp.1.1
  | n + 1 => tri_walkBP (by decide) (S := tab [(f_query_Width, s_Width), (f_estimate_shift, s_estimate_shift), (f_estimate_times, s_estimate_times), (f_estimate_finder_visit, s_visit n)]) (tab_ok (tab_cons u_query_Width (tab_cons u_estimate_shift (tab_cons u_estimate_times (tab_cons (r_estimate_visit n) tab_nil))))) ok_estimate_finder_visit (fun _ => Nat.le_of_ble_eq_true rfl) (w_estimate_visit n rfl rfl rfl rfl)
theorem u_estimate_finder_visit : Tri Tryz.prog f_estimate_finder_visit s_visitA.pt := tri_ex (fun n => r_estimate_visit n) fun d ds H K ⟨id, b, x, z, ds', h1, h2, h3, h4, h5, ⟨n, hp⟩, h7⟩ => ⟨n, id, b, x, z, ds', h1, h2, h3, h4, h5, hp, h7⟩
theorem u_estimate_Fixed : Tri Tryz.prog f_estimate_Fixed (s_estimate_Fixed).pt :=
  tri_walk (S := tab [(f_query_Size, s_query_Size), (f_estimate_finder_visit, s_visitA), (f_slices_SortFunc_Source, s_SortFunc_Source), (f_slices_Compact_Source, s_Compact_Source)]) (tab_ok (tab_cons u_query_Size (tab_cons u_estimate_finder_visit (tab_cons u_slices_SortFunc_Source (tab_cons u_slices_Compact_Source tab_nil))))) ok_estimate_Fixed (fun _ => Nat.le_of_ble_eq_true rfl) (w_estimate_Fixed rfl rfl rfl rfl)
theorem u_m_Type : Tri Tryz.prog f_m_Type (s_m_TypeN).pt :=
  tri_walk (S := tab [(f_m_Mod, s_m_Mod)]) (tab_ok (tab_cons t_m_Mod tab_nil)) ok_m_Type (fun _ => Nat.le_of_ble_eq_true rfl) (w_m_TypeN rfl)
theorem r_m_Tape_inner : ∀ n, Tri Tryz.prog f_m_Tape_inner (s_m_inner n).pt
  | 0 => spc_void fun x h => absurd h.1 (Nat.not_lt_zero _)
  | n + 1 => tri_walk (S := tab [(f_m_Tape_Next, s_m_Next), (f_m_Type, s_m_TypeN), (f_m_Tape_inner, s_m_inner n)]) (tab_ok (tab_cons t_m_Tape_Next (tab_cons u_m_Type (tab_cons (r_m_Tape_inner n) tab_nil)))) ok_m_Tape_inner (fun _ => Nat.le_of_ble_eq_true rfl) (w_m_inner n rfl rfl rfl)
theorem u_m_Tape_inner : Tri Tryz.prog f_m_Tape_inner (s_m_innerA).pt :=
  tri_ex (fun n => r_m_Tape_inner n) (spc_ex (fun x h => h))
theorem u_m_Tape_Cond : Tri Tryz.prog f_m_Tape_Cond (s_m_Cond).pt :=
  tri_walk (S := tab [(f_m_Tape_Next, s_m_Next), (f_m_Tape_inner, s_m_innerA)]) (tab_ok (tab_cons t_m_Tape_Next (tab_cons u_m_Tape_inner tab_nil))) ok_m_Tape_Cond (fun _ => Nat.le_of_ble_eq_true rfl) (w_m_Cond rfl rfl)
theorem r_m_Tape_Pattern : ∀ n, Tri Tryz.prog f_m_Tape_Pattern (s_m_Pattern n).pt
  | 0 => spc_void fun x h => absurd h.1 (Nat.not_lt_zero _)
  | n + 1 => tri_walk (S := tab [(f_m_Tape_Next, s_m_Next), (f_m_Type, s_m_TypeN), (f_m_Tape_Cond, s_m_Cond), (f_m_Tape_Pattern, s_m_Pattern n)]) (tab_ok (tab_cons t_m_Tape_Next (tab_cons u_m_Type (tab_cons u_m_Tape_Cond (tab_cons (r_m_Tape_Pattern n) tab_nil))))) ok_m_Tape_Pattern (fun _ => Nat.le_of_ble_eq_true rfl) (w_m_Pattern n rfl rfl rfl rfl)
theorem u_m_Tape_Pattern : Tri Tryz.prog f_m_Tape_Pattern (s_m_PatternA).pt :=
  tri_ex (fun n => r_m_Tape_Pattern n) (spc_ex (fun x h => ⟨x.2.1.toNat + 1, Nat.lt_succ_self _, h⟩))
theorem r_m_replace : ∀ n, Tri Tryz.prog f_m_replace (s_m_replace n).pt
  | 0 => spc_void fun x h => absurd h.1 (Nat.not_lt_zero _)
  | n + 1 => tri_walk (S := tab [(f_m_replace, s_m_replace n)]) (tab_ok (tab_cons (r_m_replace n) tab_nil)) ok_m_replace (fun _ => Nat.le_of_ble_eq_true rfl) (w_m_replace n rfl)
theorem u_m_replace : Tri Tryz.prog f_m_replace (s_m_replaceA).pt :=
  tri_ex (fun n => r_m_replace n) (spc_ex (fun x h => by obtain ⟨n, h⟩ := h; exact ⟨n + 1, Nat.succ_pos _, h⟩))
theorem r_m_bind : ∀ n, Tri Tryz.prog f_m_bind (s_m_bind n).pt
  | 0 => spc_void fun x h => absurd h.1 (Nat.not_lt_zero _)
  | n + 1 => tri_walk (S := tab [(f_m_replace, s_m_replaceA), (f_m_bind, s_m_bind n)]) (tab_ok (tab_cons u_m_replace (tab_cons (r_m_bind n) tab_nil))) ok_m_bind (fun _ => Nat.le_of_ble_eq_true rfl) (w_m_bind n rfl rfl)
theorem u_m_bind : Tri Tryz.prog f_m_bind (s_m_bindA).pt :=
  tri_ex (fun n => r_m_bind n) (spc_ex (fun x h => by obtain ⟨n, h⟩ := h; exact ⟨n + 1, Nat.succ_pos _, h⟩))
theorem r_m_Bound : ∀ n, Tri Tryz.prog f_m_Bound (i_Bound n).pt
  | 0 => tri_void fun d ds H K ⟨id, v, l, a, x, h1, h2, h3, h4, h5⟩ => pd0 h4.1
  | n + 1 => tri_walkI2 (S := tab [(f_m_Bound, i_Bound n)]) (tab_ok (tab_cons (r_m_Bound n) tab_nil)) ok_m_Bound (by decide) (w_m_BoundI n rfl)
theorem u_m_Bound_i : Tri Tryz.prog f_m_Bound i_BoundA.pt := tri_ex (fun n => r_m_Bound n) fun d ds H K ⟨id, v, l, a, x, h1, h2, h3, h4, h5⟩ => ⟨pDep x, id, v, l, a, x, h1, h2, h3, ⟨Nat.le_refl _, h4⟩, h5⟩
theorem u_m_Bound : Tri Tryz.prog f_m_Bound s_Bound.pt := tri_or (tri_walkF (S := tab [(f_m_Bound, i_BoundA)]) (tab_ok (tab_cons u_m_Bound_i tab_nil)) ok_m_Bound (fun _ => Nat.le_of_ble_eq_true rfl) (w_m_BoundF rfl)) u_m_Bound_i
theorem r_m_Tape_Constraint : ∀ n, Tri Tryz.prog f_m_Tape_Constraint (s_m_Constraint n).pt
  | 0 => spc_void fun x h => absurd h.1 (Nat.not_lt_zero _)
  | n + 1 => tri_walk (S := tab [(f_m_Tape_Next, s_m_Next), (f_m_Type, s_m_TypeN), (f_m_Tape_Constraint, s_m_Constraint n)]) (tab_ok (tab_cons t_m_Tape_Next (tab_cons u_m_Type (tab_cons (r_m_Tape_Constraint n) tab_nil)))) ok_m_Tape_Constraint (fun _ => Nat.le_of_ble_eq_true rfl) (w_m_Constraint n rfl rfl rfl)
theorem u_m_Tape_Constraint : Tri Tryz.prog f_m_Tape_Constraint (s_m_ConstraintA).pt :=
  tri_ex (fun n => r_m_Tape_Constraint n) (spc_ex (fun x h => h))
theorem u_m_Tape_Filter : Tri Tryz.prog f_m_Tape_Filter (s_m_Filter).pt :=
  tri_walk (S := tab [(f_m_Tape_Next, s_m_Next), (f_m_Type, s_m_TypeN)]) (tab_ok (tab_cons t_m_Tape_Next (tab_cons u_m_Type tab_nil))) ok_m_Tape_Filter (fun _ => Nat.le_of_ble_eq_true rfl) (w_m_Filter rfl rfl)
theorem u_m_Tape_Query : Tri Tryz.prog f_m_Tape_Query (s_m_Query).pt :=
  tri_walk (S := tab [(f_m_Tape_Next, s_m_Next), (f_m_Tape_Pattern, s_m_PatternA), (f_m_Bound, s_Bound), (f_m_bind, s_m_bindA), (f_m_Tape_Constraint, s_m_ConstraintA), (f_m_Tape_Filter, s_m_Filter)]) (tab_ok (tab_cons t_m_Tape_Next (tab_cons u_m_Tape_Pattern (tab_cons u_m_Bound (tab_cons u_m_bind (tab_cons u_m_Tape_Constraint (tab_cons u_m_Tape_Filter tab_nil))))))) ok_m_Tape_Query (fun _ => Nat.le_of_ble_eq_true rfl) (w_m_Query rfl rfl rfl rfl rfl rfl)
theorem u_r23_parser_now : Tri Tryz.prog f_r23_parser_now (s_now).pt :=
  tri_walkPSF (S := tab []) (tab_ok tab_nil) ok_r23_parser_now (fun _ => Nat.le_of_ble_eq_true rfl) (w_now)
theorem u_r23_parser_is : Tri Tryz.prog f_r23_parser_is (s_is).pt :=
  tri_walkPSF (S := tab [(f_r23_parser_now, s_now)]) (tab_ok (tab_cons u_r23_parser_now tab_nil)) ok_r23_parser_is (fun _ => Nat.le_of_ble_eq_true rfl) (w_is rfl)
theorem u_r23_parser_eat : Tri Tryz.prog f_r23_parser_eat (s_eat).pt :=
  tri_walkPSF (S := tab [(f_r23_parser_is, s_is)]) (tab_ok (tab_cons u_r23_parser_is tab_nil)) ok_r23_parser_eat (fun _ => Nat.le_of_ble_eq_true rfl) (w_eat rfl)
theorem u_r23_parser_want : Tri Tryz.prog f_r23_parser_want (s_want).pt :=
  tri_walkPSF (S := tab [(f_r23_parser_now, s_now)]) (tab_ok (tab_cons u_r23_parser_now tab_nil)) ok_r23_parser_want (fun _ => Nat.le_of_ble_eq_true rfl) (w_want rfl)
theorem u_r23_parser_fold : Tri Tryz.prog f_r23_parser_fold (s_fold).pt :=
  tri_walkPSF (S := tab [(f_r23_parser_eat, s_eat)]) (tab_ok (tab_cons u_r23_parser_eat tab_nil)) ok_r23_parser_fold (fun _ => Nat.le_of_ble_eq_true rfl) (w_fold rfl)
theorem u_r23_parser_begins : Tri Tryz.prog f_r23_parser_begins (s_begins23).pt :=
  tri_walkPSF (S := tab [(f_r23_parser_now, s_now)]) (tab_ok (tab_cons u_r23_parser_now tab_nil)) ok_r23_parser_begins (fun _ => Nat.le_of_ble_eq_true rfl) (w_begins rfl)
theorem u_r23_parser_number : Tri Tryz.prog f_r23_parser_number (s_number).pt :=
  tri_walkPSF (S := tab [(f_r23_parser_want, s_want)]) (tab_ok (tab_cons u_r23_parser_want tab_nil)) ok_r23_parser_number (fun _ => Nat.le_of_ble_eq_true rfl) (w_number rfl)
theorem alt_void : Tri Tryz.prog f_r23_parser_alt (s_alt 0).pt := tri_void fun d ds H K ⟨id, b, x, z, ds', h1, h2, h3, h4, h5, hp, h7⟩ => by obtain ⟨r, hr⟩ := hp; cases hr
theorem r_parser : ∀ n, Tri Tryz.prog f_r23_parser_alt (s_alt n).pt
  | 0 => alt_void
  | n + 1 =>
    have h1 : Tri Tryz.prog f_r23_parser_item (s_item (altF n)).pt := tri_walkPSF (S := tab [(f_r23_parser_now, s_now), (f_r23_parser_eat, s_eat), (f_r23_parser_want, s_want), (f_r23_parser_fold, s_fold), (f_r23_parser_alt, s_alt n)]) (tab_ok (tab_cons u_r23_parser_now (tab_cons u_r23_parser_eat (tab_cons u_r23_parser_want (tab_cons u_r23_parser_fold (tab_cons (r_parser n) tab_nil)))))) ok_r23_parser_item (fun _ => Nat.le_of_ble_eq_true rfl) (w_item n rfl rfl rfl rfl rfl)
    have h2 : Tri Tryz.prog f_r23_parser_rep (s_rep (altF n)).pt := tri_walkPSF (S := tab [(f_r23_parser_now, s_now), (f_r23_parser_eat, s_eat), (f_r23_parser_want, s_want), (f_r23_parser_number, s_number), (f_r23_parser_item, s_item (altF n))]) (tab_ok (tab_cons u_r23_parser_now (tab_cons u_r23_parser_eat (tab_cons u_r23_parser_want (tab_cons u_r23_parser_number (tab_cons h1 tab_nil)))))) ok_r23_parser_rep (fun _ => Nat.le_of_ble_eq_true rfl) (w_rep (altF n) rfl rfl rfl rfl rfl)
    have h3 : Tri Tryz.prog f_r23_parser_seq (s_seq (altF n)).pt := tri_walkPSF (S := tab [(f_r23_parser_begins, s_begins23), (f_r23_parser_rep, s_rep (altF n))]) (tab_ok (tab_cons u_r23_parser_begins (tab_cons h2 tab_nil))) ok_r23_parser_seq (fun _ => Nat.le_of_ble_eq_true rfl) (w_seq (altF n) rfl rfl)
    tri_walkPSF (S := tab [(f_r23_parser_eat, s_eat), (f_r23_parser_seq, s_seq (altF n))]) (tab_ok (tab_cons u_r23_parser_eat (tab_cons h3 tab_nil))) ok_r23_parser_alt (fun _ => Nat.le_of_ble_eq_true rfl) (w_alt (altF n) rfl rfl)
theorem u_r23_isLetter : Tri Tryz.prog f_r23_isLetter (s_begins).pt :=
  tri_walk (S := tab []) (tab_ok tab_nil) ok_r23_isLetter (fun _ => Nat.le_of_ble_eq_true rfl) (w_isLetter)
theorem u_r23_isDigit : Tri Tryz.prog f_r23_isDigit (s_isDigit).pt :=
  tri_walk (S := tab []) (tab_ok tab_nil) ok_r23_isDigit (fun _ => Nat.le_of_ble_eq_true rfl) (w_isDigit)
theorem u_r23_signs : Tri Tryz.prog f_r23_signs (s_signs).pt :=
  tri_walk (S := tab []) (tab_ok tab_nil) ok_r23_signs (fun _ => Nat.le_of_ble_eq_true rfl) (w_signs)
theorem u_r23_scan : Tri Tryz.prog f_r23_scan (s_scan).pt :=
  tri_walk (S := tab [(f_r23_isLetter, s_begins), (f_r23_isDigit, s_isDigit), (f_r23_signs, s_signs)]) (tab_ok (tab_cons u_r23_isLetter (tab_cons u_r23_isDigit (tab_cons u_r23_signs tab_nil)))) ok_r23_scan (fun _ => Nat.le_of_ble_eq_true rfl) (w_scan rfl rfl rfl)
theorem u_r23_parser_word : Tri Tryz.prog f_r23_parser_word (s_word).pt :=
  tri_walkPSF (S := tab [(f_r23_parser_is, s_is)]) (tab_ok (tab_cons u_r23_parser_is tab_nil)) ok_r23_parser_word (fun _ => Nat.le_of_ble_eq_true rfl) (w_word rfl)
theorem u_r23_filters : Tri Tryz.prog f_r23_filters (s_strs4).pt :=
  tri_walk (S := tab []) (tab_ok tab_nil) ok_r23_filters (fun _ => Nat.le_of_ble_eq_true rfl) (w_filters)
theorem u_r23_Parse : Tri Tryz.prog f_r23_Parse (s_Parse).pt :=
  tri_walk (S := tab [(f_r23_scan, s_scan), (f_r23_parser_alt, s_alt 10), (f_r23_parser_eat, s_eat), (f_r23_filters, s_strs4), (f_r23_parser_word, s_word), (f_r23_parser_is, s_is), (f_r23_parser_now, s_now)]) (tab_ok (tab_cons u_r23_scan (tab_cons (r_parser 10) (tab_cons u_r23_parser_eat (tab_cons u_r23_filters (tab_cons u_r23_parser_word (tab_cons u_r23_parser_is (tab_cons u_r23_parser_now tab_nil)))))))) ok_r23_Parse (fun _ => Nat.le_of_ble_eq_true rfl) (w_Parse rfl rfl rfl rfl rfl rfl rfl)
theorem u_law31_known : Tri Tryz.prog f_law31_known (s_law31_known).pt :=
  tri_walk (S := tab [(f_r23_Parse, s_Parse), (f_estimate_Fixed, s_estimate_Fixed), (f_r31_Same, s_r31_Same)]) (tab_ok (tab_cons u_r23_Parse (tab_cons u_estimate_Fixed (tab_cons u_r31_Same tab_nil)))) ok_law31_known (fun _ => Nat.le_of_ble_eq_true rfl) (w_law31_known rfl rfl rfl)
theorem t_law31_Fixed : Tri Tryz.prog f_law31_EstimateFixed (spc (a1 (List Int)) (fun _ => True) enc (fun _ (y : Bool) => y = true)).pt :=
  tri_walk (S := tab [(f_m_New, s_m_New), (f_m_Tape_Query, s_m_Query), (f_estimate_Fixed, s_estimate_Fixed), (f_r31_Fixed, s_r31_Fixed), (f_r31_Same, s_r31_Same), (f_law31_known, s_law31_known)]) (tab_ok (tab_cons t_m_New (tab_cons u_m_Tape_Query (tab_cons u_estimate_Fixed (tab_cons u_r31_Fixed (tab_cons u_r31_Same (tab_cons u_law31_known tab_nil))))))) ok_law31_EstimateFixed (fun _ => Nat.le_of_ble_eq_true rfl) (w_law31_Fixed rfl rfl rfl rfl rfl rfl)
end Go.Gv

namespace Go.Gv
open Go.ChangeShapes Go.WideShapes Go.ChangeAt Go.RowKit
set_option linter.unusedVariables false
section
variable {H : Type} {ec : TypeId × Value → H} {P : Program} {w : World} {base : Nat} {spare : Nat → Bool} {held : Bool} {tp I : Nat → Prop}
/-- Cells that stand for the cells of data. -/
def OpR (tp I : Nat → Prop) (w : World) (cs : List Value) (d : D) : Prop := cs.length = d.cells.length ∧ ∀ (k : Nat) (y : Value) (c : D), cs[k]? = some y → d.cells[k]? = some c → y.oneCell' = true ∧ R tp I w y c
theorem OpR.one {y : Value} {d : D} (h : OpR tp I w [y] d) (hd : d.cells = [d]) : R tp I w y d := (h.2 0 y d rfl (by rw [hd]; rfl)).2
theorem op_int {t : TypeId} {fuel : Nat} {cs : List Value} {x : DataW H × List MemPlace} (ht : P.underlying t = some (.int .i64)) (h : DataW.trod ec P w base spare held fuel t cs = some x) : ∃ n : Int, OpR tp I w cs (Cod.enc n) := by
  obtain ⟨n, rfl, _, _⟩ := DataW.trod_int ht h
  refine ⟨n, rfl, fun k y c h1 h2 => ?_⟩
  cases k with
  | zero => cases h1; cases h2; exact ⟨rfl, .v _ rfl (fun s h => by cases h)⟩
  | succ k => simp at h1
theorem op_slice {Y : Type} [Cod Y] {t e : TypeId} (ht : P.underlying t = some (.slice e)) (hc : P.cellsOf e = Cod.wd Y) (h0 : 0 < Cod.wd Y)
    (hel : ∀ (n : Nat) (cs : List Value) (x : DataW H × List MemPlace), DataW.trod ec P w base spare held n e cs = some x → ∃ y : Y, OpR tp I w cs (Cod.enc y)) (hI : ∀ b, b < w.heap.size → I b)
    {fuel : Nat} {cs : List Value} {x : DataW H × List MemPlace} (h : DataW.trod ec P w base spare held fuel t cs = some x) : ∃ l : List Y, OpR tp I w cs (Cod.enc l) := by
  have one : ∀ (v : Value) (l : List Y), v.oneCell' = true → R tp I w v (.list (Cod.wd Y) (l.map Cod.enc)) → OpR tp I w [v] (Cod.enc l) := fun v l h1 h2 => ⟨rfl, fun k y c e1 e2 => by
    cases k with
    | zero => cases e1; cases e2; exact ⟨h1, h2⟩
    | succ k => simp at e1⟩
  rcases DataW.trod_slice ht h with ⟨rfl, _⟩ | ⟨a, len, cap, elems, rest, n, _, rfl, _, _, hl, hm, hlen, hel', _⟩
  · exact ⟨[], one _ [] rfl (.nolist none 0 _)⟩
  · by_cases hz : len = 0
    · subst hz
      exact ⟨[], one _ [] rfl (.nolist (some a) cap _)⟩
    · have each : ∀ i : _root_.Fin len, ∃ p : List Value × Y, w.cells? base (a.add (i * P.cellsOf e)) (P.cellsOf e) = some p.1 ∧ OpR tp I w p.1 (Cod.enc p.2) := fun i => by
        have h1 := hel' i i.2
        rw [List.getElem?_eq_getElem (by omega)] at h1
        obtain ⟨cs', h2, h3⟩ := Option.bind_eq_some_iff.1 h1
        obtain ⟨y, hy⟩ := hel n cs' _ h3
        exact ⟨(cs', y), h2, hy⟩
      obtain ⟨g, hg⟩ := Classical.axiomOfChoice each
      obtain ⟨b, off, spot⟩ := a
      have cellAt : ∀ (i : _root_.Fin len) (j : Nat), j < Cod.wd Y → ∃ v, (g i).1[j]? = some v ∧ w.cell? ((Addr.add ⟨b, off, spot⟩ (i * Cod.wd Y)).add j) = some v := fun i j hj => by
        have h1 := World.cells?_some (hg i).1
        have h2 := h1.2.2 j (by rw [hc]; exact hj)
        have h3 : j < (g i).1.length := by rw [h1.2.1, hc]; exact hj
        refine ⟨(g i).1[j], List.getElem?_eq_getElem h3, ?_⟩
        rw [hc] at h2
        rw [h2, List.getElem?_eq_getElem h3]
      have hs : spot = none := by
        obtain ⟨v, _, h2⟩ := cellAt ⟨0, by omega⟩ 0 h0
        have := World.cell?_spot h2
        simpa [Addr.add] using this
      subst hs
      have hadd : ∀ (o n : Nat), Addr.add ⟨b, o, none⟩ n = ⟨b, o + n, none⟩ := fun o n => by
        unfold Addr.add
        split
        · rename_i e; subst e; rfl
        · rfl
      have cellAt' : ∀ (i : _root_.Fin len) (j : Nat), j < Cod.wd Y → ∃ v, (g i).1[j]? = some v ∧ w.cell? ⟨b, off + (i * Cod.wd Y + j), none⟩ = some v := fun i j hj => by
        obtain ⟨v, h1, h2⟩ := cellAt i j hj
        refine ⟨v, h1, ?_⟩
        rw [hadd, hadd] at h2
        rw [← Nat.add_assoc]
        exact h2
      have hb : b < w.heap.size := by
        obtain ⟨v, _, h2⟩ := cellAt' ⟨0, by omega⟩ 0 h0
        unfold World.cell? at h2
        by_cases hlt : b < w.heap.size
        · exact hlt
        · simp only [Array.getElem?_eq_none (Nat.le_of_not_lt hlt)] at h2
          cases h2
      let es : List Y := List.ofFn fun i => (g i).2
      have hesl : es.length = len := by simp [es]
      have hesi : ∀ i : _root_.Fin len, (es.map Cod.enc)[(i : Nat)]? = some (Cod.enc (g i).2) := fun i => by
        rw [List.getElem?_map]
        have : es[(i : Nat)]? = some (g i).2 := by simp [es]
        rw [this]; rfl
      have hw : ∀ d ∈ es.map Cod.enc, d.kn = true ∧ d.cells.length = Cod.wd Y := fun d hd => by
        obtain ⟨y, _, rfl⟩ := List.mem_map.1 hd
        exact ⟨Cod.kn y, Cod.wid y⟩
      have flatAt : ∀ (k : Nat) (c : D), (flat (es.map Cod.enc))[k]? = some c → ∃ v, w.cell? ⟨b, off + k, none⟩ = some v ∧ v.oneCell' = true ∧ R tp I w v c := fun k c hk => by
        have hkl := (List.getElem?_eq_some_iff.1 hk).1
        rw [flat_length (fun d hd => (hw d hd).2), List.length_map, hesl] at hkl
        have hdm : k = (k / Cod.wd Y) * Cod.wd Y + k % Cod.wd Y := by have := Nat.div_add_mod k (Cod.wd Y); rw [Nat.mul_comm] at this; omega
        have hmod : k % Cod.wd Y < Cod.wd Y := Nat.mod_lt _ h0
        have hq : k / Cod.wd Y < len := Nat.div_lt_of_lt_mul (by rw [Nat.mul_comm]; exact hkl)
        have g1 := flat_get (es := es.map Cod.enc) (fun d hd => (hw d hd).2) (i := k / Cod.wd Y) hmod
        rw [← hdm, hk, hesi ⟨k / Cod.wd Y, hq⟩] at g1
        simp only [Option.bind_some] at g1
        obtain ⟨v, h1, h2⟩ := cellAt' ⟨k / Cod.wd Y, hq⟩ (k % Cod.wd Y) hmod
        simp only at h2
        rw [← hdm] at h2
        exact ⟨v, h2, (hg ⟨k / Cod.wd Y, hq⟩).2.2 _ v c h1 g1.symm⟩
      have hR : R tp I w (.slice (some ⟨b, off, none⟩) len cap) (.list (Cod.wd Y) (es.map Cod.enc)) := by
        have hll : (es.map (Cod.enc (X := Y))).length = len := by simp [hesl]
        rw [← hll]
        have rd : ∀ (k : Nat) (c : D), (flat (es.map Cod.enc))[k]? = some c → w.cell? ⟨b, off + k, none⟩ = some ((w.cell? ⟨b, off + k, none⟩).getD Go.undef) := fun k c hk => by
          obtain ⟨v, h1, _⟩ := flatAt k c hk
          rw [h1]; rfl
        refine .list b off cap _ (es.map Cod.enc) (fun k => (w.cell? ⟨b, off + k, none⟩).getD Go.undef) (hI b hb) (by rw [hll]; exact hl) hm hw rd (fun k c hk => ?_) (fun k c hk => ?_)
        · obtain ⟨v, h1, h2, _⟩ := flatAt k c hk
          rw [h1]; exact h2
        · obtain ⟨v, h1, _, h2⟩ := flatAt k c hk
          rw [h1]; exact h2
      exact ⟨es, one _ es rfl hR⟩
end
end Go.Gv

namespace Go.Gv
open Go.ChangeShapes Go.WideShapes Go.ChangeAt Go.RowKit
set_option linter.unusedVariables false
section
variable {H : Type} {ec : TypeId × Value → H} {P : Program} {w : World} {base : Nat} {spare : Nat → Bool} {held : Bool} {tp I : Nat → Prop}
end
abbrev noI (w : World) : Nat → Prop := Imm (fun _ => False) (fun _ => False) noH w
theorem noI_of {w : World} {b : Nat} (h : b < w.heap.size) : noI w b := ⟨h, fun h => h, fun h => h, fun ⟨i, r, h, _⟩ => by simp [noH] at h⟩
/-- A law that holds: it returns true and turns nothing that was there. -/
theorem law_below {P : Program} {f : Nat} {X : Type} {A : Arg X} {q : X → Bool → Prop} (h : Tri P f (spc A (fun _ => True) (Cod.enc (X := Bool)) q).pt) (hq : ∀ x y, q x y → y = true) {w : World} {vs : List Value} {ds : List D} {x : X} (hlen : vs.length = ds.length)
    (hR : ∀ (k : Nat) (y : Value) (c : D), vs[k]? = some y → ds[k]? = some c → R (fun _ => False) (noI w) w y c) (hdec : A.dec ds = some x) :
    Calls P f vs.toArray w fun e w' => e = .returned (.bool true) ∧ Below w.heap.size w w' := by
  obtain ⟨_, hc⟩ := h (fun _ => False) (fun _ => False) w vs ds noH 0 (fun r H' => r = .v (.bool true)) (fun b h => h.elim) (fun b h => h.elim)
    ⟨fun i j r s b h => by simp [noH] at h, fun i r b h => by simp [noH] at h, fun i r h => by simp [noH] at h⟩ hlen hR
    (by rw [spc_pt, hdec]; exact ⟨trivial, fun y hy => by rw [hq x y hy]; rfl⟩)
  refine hc.mono ?_
  rintro e w' ⟨v, r, H', tp', rfl, hr, _, _, _, hs, _, _, hv⟩
  subst hr
  have hv' := hv.inv_v
  subst hv'
  exact ⟨rfl, hs.os, hs.tape, hs.output, hs.size, fun k hk => hs.same k hk (fun ⟨i, r, h, _⟩ => by simp [noH] at h) (fun h => h)⟩
end Go.Gv
