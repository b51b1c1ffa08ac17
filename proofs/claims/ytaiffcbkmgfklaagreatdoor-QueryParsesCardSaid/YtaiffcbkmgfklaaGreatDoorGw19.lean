/- A part of the framework and of the walks: W72 W73 W74 W75 W78 W62 W63 T23. -/
import Derived.Test.YtaiffcbkmgfklaaGreatDoorGw18
import Derived.Test.YtaiffcbkmgfklaaGreatDoorGw14
import Derived.Test.YtaiffcbkmgfklaaGreatDoorGw17
import Derived.Test.YtaiffcbkmgfklaaGreatDoorGw15
import Derived.Test.YtaiffcbkmgfklaaGreatDoorGw13
set_option linter.unusedSimpArgs false
set_option linter.unusedVariables false
set_option maxRecDepth 100000
set_option linter.unusedSectionVars false

namespace Go.Gv
open Cod (enc dec)
open Go.Proofs Go.RowKit
variable {S S0 : Nat → Spc}
theorem calls_Count (s : ByteArray) (w : World) : Calls Tryz.prog 200 #[.string s, .string ⟨#[34]⟩] w fun e w' => e = .returned (.int .i64 (Lib.countByte s.data.toList 34)) ∧ w' = w := by
 go_enter Tryz.func200, Tryz.ntmps200
 go_wp2
 rw [run_callFunc_extern Tryz.func219 (by kernel_rfl) (by kernel_rfl) (by kernel_rfl) (e := Extern.BytealgCount.count) (by kernel_rfl), Lib.run_countString]
 simp only [Result.andThen]
 rw [Oper.upon_value]
 go_wp2
 go_ret
 exact ⟨rfl, rfl⟩
abbrev s_count0 : Spc := spc (a2 B B) (fun x => x.2 = ⟨#[34]⟩ ∧ (34 : UInt8) ∉ x.1.data.toList) (enc (X := Int)) fun x y => y = 0
theorem t_strings_Count : Tri Tryz.prog f_strings_Count s_count0.pt := by
 refine tri_calls (callEnter Tryz.func200 (by kernel_rfl) rfl) fun tp I w vs x hp hI hl hv => ?_
 obtain ⟨s, t⟩ := x
 obtain ⟨rfl, c1⟩ := hp
 have hview : (a2 B B).view (s, ⟨#[34]⟩) = [.v (.string s), .v (.string ⟨#[34]⟩)] := rfl
 rw [hview] at hl hv
 obtain ⟨v0, v1, rfl⟩ := two_of hl
 have e0 := v_eqq (hv 0 v0 _ rfl rfl)
 have e1 := v_eqq (hv 1 v1 _ rfl rfl)
 subst e0; subst e1
 refine (calls_Count s w).mono ?_
 rintro e w' ⟨rfl, rfl⟩
 refine ⟨_, 0, rfl, rfl, fun tp' I' => ?_, Below.refl _ _, Nat.le_refl _⟩
 have h0 : Lib.countByte s.data.toList 34 = 0 := List.count_eq_zero.2 c1
 rw [h0]
 exact .int _ _
abbrev s_replace : Spc := spc (a4 B B B Int) (fun x => x.2.1 = ⟨#[34]⟩ ∧ x.2.2.1 = ⟨#[34, 34]⟩ ∧ x.2.2.2 = -1 ∧ (34 : UInt8) ∉ x.1.data.toList) (enc (X := B)) fun x y => y = x.1
theorem w_strings_Replace (h1 : S f_strings_Count = s_count0) : Walk cc_strings_Replace rs_strings_Replace S (a4 B B B Int) (fun x => x.2.1 = ⟨#[34]⟩ ∧ x.2.2.1 = ⟨#[34, 34]⟩ ∧ x.2.2.2 = -1 ∧ (34 : UInt8) ∉ x.1.data.toList) (enc (X := B)) fun x y => y = x.1 := by
 rintro ⟨s, o, n, k⟩ ⟨c1, c2, c3, c4⟩
 simp only at c1 c2 c3 c4
 subst c1; subst c2; subst c3
 have c4' : ¬ (34 : UInt8) ∈ s.data := fun h => c4 (Array.mem_toList_iff.2 h)
 simp [cc_strings_Replace, rs_strings_Replace, h1, c4, c4']
abbrev s_replAll : Spc := spc (a3 B B B) (fun x => x.2.1 = ⟨#[34]⟩ ∧ x.2.2 = ⟨#[34, 34]⟩ ∧ (34 : UInt8) ∉ x.1.data.toList) (enc (X := B)) fun x y => y = x.1
theorem w_strings_ReplaceAll (h1 : S f_strings_Replace = s_replace) : Walk cc_strings_ReplaceAll rs_strings_ReplaceAll S (a3 B B B) (fun x => x.2.1 = ⟨#[34]⟩ ∧ x.2.2 = ⟨#[34, 34]⟩ ∧ (34 : UInt8) ∉ x.1.data.toList) (enc (X := B)) fun x y => y = x.1 := by
 rintro ⟨s, o, n⟩ ⟨c1, c2, c4⟩
 simp only at c1 c2 c4
 subst c1; subst c2
 have c4' : ¬ (34 : UInt8) ∈ s.data := fun h => c4 (Array.mem_toList_iff.2 h)
 simp [cc_strings_ReplaceAll, rs_strings_ReplaceAll, h1, c4, c4']
end Go.Gv

namespace Go.Gv
open Cod (enc dec)
open Go.Proofs
variable {S S0 : Nat → Spc}
/-! ### Texts (none: not said) -/
def strT (s : B) : Option B := if (34 : UInt8) ∈ s.data.toList then none else some (((⟨#[34]⟩ : B) ++ s) ++ ⟨#[34]⟩)
def valueT (z : B × Bool) : Option B := (strT z.1).map fun t => if z.2 then t ++ ⟨#[37, 99]⟩ else t
def condT (x : Cond) : Option B := if x.op = 1 then some ⟨#[91, 93]⟩ else if x.op = 2 then (valueT (x.val, x.fold)).map fun t => if x.name = E0 then t else (x.name ++ ⟨#[61]⟩) ++ t else none
def plainC (x : Cond) : Prop := x.op = 1 ∨ x.op = 2 ∧ x.name = E0
instance (x : Cond) : Decidable (plainC x) := by unfold plainC; infer_instance
def tokBodyT (x : Cond) (t : B) : B := if plainC x then t else (⟨#[91]⟩ ++ t) ++ ⟨#[93]⟩
def tokT (p : Pat) : Option B := (condT p.cond).map fun t => if p.lab = E0 then tokBodyT p.cond t else (p.lab ++ ⟨#[58]⟩) ++ tokBodyT p.cond t
theorem size_mk (a : Array UInt8) : ByteArray.size ⟨a⟩ = a.size := rfl
theorem size_app (a b : B) : (a ++ b).size = a.size + b.size := ByteArray.size_append

theorem hLIM : LIMW = 1000000 := rfl
theorem finW {b : Nat} {s : ByteArray} {H : HMap} (u : Bool) (v : Value) (h0 : H 0 = some (.tbox 108 b [.v (pv b u), .own 900 v])) (h9 : H 900 = some (.row v 5 1 (bD s))) : FinW 108 5 b s (.tup []) (.tup []) H :=
 ⟨u, v, .same _, h0, h9⟩
abbrev s_wStr : Spc := wrC 108 5 (a1 B) (.tup []) strT
theorem w_writer_str (h1 : S f_strings_ReplaceAll = s_replAll) (h2 : S f_strings_Builder_WriteString = s_wstr) : WalkW cc_query_writer_str rs_query_writer_str S 108 5 (a1 B) (.tup []) strT := by
 rintro b u v s z t ht hl
 unfold strT at ht
 split at ht
 ·cases ht
 ·rename_i hn
  cases ht
  have hn' : ¬ (34 : UInt8) ∈ z.data := fun h => hn (Array.mem_toList_iff.2 h)
  simp only [size_app, size_mk] at hl
  simp at hl
  simp [cc_query_writer_str, rs_query_writer_str, h1, h2, hn, hn', size_app, size_mk, -Bool.forall_bool, -Bool.exists_bool]
  have hL := hLIM
  exact ⟨by omega, by omega, by omega, fun u' v' => finW u' v' (by simp) (by simp)⟩
abbrev s_wValue : Spc := wrC 108 5 (a2 B Bool) (.tup []) valueT
theorem w_writer_value (h1 : S f_query_writer_str = s_wStr) (h2 : S f_strings_Builder_WriteString = s_wstr) : WalkW cc_query_writer_value rs_query_writer_value S 108 5 (a2 B Bool) (.tup []) valueT := by
 rintro b u v s ⟨z, fo⟩ t ht hl
 obtain ⟨q, hq, ht⟩ := Option.map_eq_some_iff.1 ht
 simp only at hq ht
 cases fo with
 | false =>
   simp at ht
   subst ht
   simp [cc_query_writer_value, rs_query_writer_value, h1, h2, hq, hl, size_app, size_mk, -Bool.forall_bool, -Bool.exists_bool]
   exact fun u' v' => finW u' v' (by simp) (by simp)
 | true =>
   simp at ht
   subst ht
   simp only [size_app, size_mk] at hl
   simp at hl
   have hl1 : s.size + q.size ≤ LIMW := by omega
   simp [cc_query_writer_value, rs_query_writer_value, h1, h2, hq, hl1, size_app, size_mk, -Bool.forall_bool, -Bool.exists_bool]
   exact fun u' v' => ⟨by omega, fun u' v' => finW u' v' (by simp) (by simp [ByteArray.append_assoc])⟩
abbrev s_wCond : Spc := wrC 108 5 (a1 Cond) (.tup []) condT
theorem w_writer_cond (h1 : S f_query_writer_value = s_wValue) (h2 : S f_strings_Builder_WriteString = s_wstr) : WalkW cc_query_writer_cond rs_query_writer_cond S 108 5 (a1 Cond) (.tup []) condT := by
 rintro b u v s x t ht hl
 unfold condT at ht
 split at ht
 ·rename_i e
  cases ht
  simp only [size_mk] at hl
  simp at hl
  simp [cc_query_writer_cond, rs_query_writer_cond, e, h1, h2, hl, size_app, size_mk, -Bool.forall_bool, -Bool.exists_bool]
  exact fun u' v' => finW u' v' (by simp) (by simp)
 ·rename_i e1
  split at ht
  ·rename_i e
   obtain ⟨q, hq, ht⟩ := Option.map_eq_some_iff.1 ht
   subst ht
   by_cases hn : x.name = E0
   ·rw [if_pos hn] at hl ⊢
    have hn' : x.name = ⟨#[]⟩ := hn
    simp [cc_query_writer_cond, rs_query_writer_cond, e, h1, h2, hl, hn', hq, size_app, size_mk, -Bool.forall_bool, -Bool.exists_bool]
    exact fun u' v' => finW u' v' (by simp) (by simp)
   ·rw [if_neg hn] at hl ⊢
    have hn' : ¬ x.name = ⟨#[]⟩ := hn
    simp only [size_app, size_mk] at hl
    simp at hl
    simp [cc_query_writer_cond, rs_query_writer_cond, e, h1, h2, hn', hq, size_app, size_mk, -Bool.forall_bool, -Bool.exists_bool]
    have hL := hLIM
    exact ⟨by omega, by omega, fun u' v' => ⟨by omega, fun u' v' => finW u' v' (by simp) (by simp [ByteArray.append_assoc])⟩⟩
  ·cases ht
abbrev s_wTok : Spc := wrC 108 5 (a1 Pat) (.tup []) tokT
theorem w_writer_token (h1 : S f_query_writer_cond = s_wCond) (h2 : S f_strings_Builder_WriteString = s_wstr) : WalkW cc_query_writer_token rs_query_writer_token S 108 5 (a1 Pat) (.tup []) tokT := by
 rintro b u v s ⟨op, ⟨cop, cname, carg, cval, clab, cfold, ckids⟩, lab, reg, mn, mx, kids⟩ t ht hl
 obtain ⟨q, hq, ht⟩ := Option.map_eq_some_iff.1 ht
 simp only at hq ht
 have hL := hLIM
 have hop : cop = 1 ∨ cop = 2 ∧ cname = E0 ∨ cop = 2 ∧ ¬ cname = E0 := by
  unfold condT at hq
  split at hq
  ·exact .inl (by assumption)
  ·split at hq
   ·by_cases h : cname = E0
    ·exact .inr (.inl ⟨by assumption, h⟩)
    ·exact .inr (.inr ⟨by assumption, h⟩)
   ·cases hq
 rcases hop with e | e | e
 ·by_cases hn : lab = E0
  ·rw [if_pos hn] at ht
   subst ht
   have hn' : lab = ⟨#[]⟩ := hn
   obtain rfl := e
   unfold tokBodyT at hl ⊢
   rw [if_pos (show plainC _ from .inl rfl)] at hl ⊢
   simp [cc_query_writer_token, rs_query_writer_token, E0, h1, h2, hl, hn', hq, size_app, size_mk, -Bool.forall_bool, -Bool.exists_bool]
   repeat' first | apply And.intro | intro _
   all_goals first | omega | (rename_i u' v'; exact finW u' v' (by simp) (by simp [ByteArray.append_assoc]))
  ·rw [if_neg hn] at ht
   subst ht
   have hn' : ¬ lab = ⟨#[]⟩ := hn
   obtain rfl := e
   unfold tokBodyT at hl ⊢
   rw [if_pos (show plainC _ from .inl rfl)] at hl ⊢
   simp only [size_app, size_mk] at hl
   simp at hl
   simp [cc_query_writer_token, rs_query_writer_token, E0, h1, h2, hl, hn', hq, size_app, size_mk, -Bool.forall_bool, -Bool.exists_bool]
   repeat' first | apply And.intro | intro _
   all_goals first | omega | (rename_i u' v'; exact finW u' v' (by simp) (by simp [ByteArray.append_assoc]))
 ·by_cases hn : lab = E0
  ·rw [if_pos hn] at ht
   subst ht
   have hn' : lab = ⟨#[]⟩ := hn
   obtain ⟨rfl, rfl⟩ := e
   have hq : condT ⟨2, ⟨#[]⟩, carg, cval, clab, cfold, ckids⟩ = some q := hq
   unfold tokBodyT at hl ⊢
   rw [if_pos (show plainC _ from .inr ⟨rfl, rfl⟩)] at hl ⊢
   simp [cc_query_writer_token, rs_query_writer_token, E0, h1, h2, hl, hn', hq, size_app, size_mk, -Bool.forall_bool, -Bool.exists_bool]
   repeat' first | apply And.intro | intro _
   all_goals first | omega | (rename_i u' v'; exact finW u' v' (by simp) (by simp [ByteArray.append_assoc]))
  ·rw [if_neg hn] at ht
   subst ht
   have hn' : ¬ lab = ⟨#[]⟩ := hn
   obtain ⟨rfl, rfl⟩ := e
   have hq : condT ⟨2, ⟨#[]⟩, carg, cval, clab, cfold, ckids⟩ = some q := hq
   unfold tokBodyT at hl ⊢
   rw [if_pos (show plainC _ from .inr ⟨rfl, rfl⟩)] at hl ⊢
   simp only [size_app, size_mk] at hl
   simp at hl
   simp [cc_query_writer_token, rs_query_writer_token, E0, h1, h2, hl, hn', hq, size_app, size_mk, -Bool.forall_bool, -Bool.exists_bool]
   repeat' first | apply And.intro | intro _
   all_goals first | omega | (rename_i u' v'; exact finW u' v' (by simp) (by simp [ByteArray.append_assoc]))
 ·by_cases hn : lab = E0
  ·rw [if_pos hn] at ht
   subst ht
   have hn' : lab = ⟨#[]⟩ := hn
   obtain ⟨rfl, e'⟩ := e
   have e'' : ¬ cname = ⟨#[]⟩ := e'
   unfold tokBodyT at hl ⊢
   rw [if_neg (show ¬ plainC _ from fun h => h.elim (fun h => by simp at h) fun h => e' h.2)] at hl ⊢
   simp only [size_app, size_mk] at hl
   simp at hl
   simp [cc_query_writer_token, rs_query_writer_token, e'', h1, h2, hl, hn', hq, size_app, size_mk, -Bool.forall_bool, -Bool.exists_bool]
   repeat' first | apply And.intro | intro _
   all_goals first | omega | (rename_i u' v'; exact finW u' v' (by simp) (by simp [ByteArray.append_assoc]))
  ·rw [if_neg hn] at ht
   subst ht
   have hn' : ¬ lab = ⟨#[]⟩ := hn
   obtain ⟨rfl, e'⟩ := e
   have e'' : ¬ cname = ⟨#[]⟩ := e'
   unfold tokBodyT at hl ⊢
   rw [if_neg (show ¬ plainC _ from fun h => h.elim (fun h => by simp at h) fun h => e' h.2)] at hl ⊢
   simp only [size_app, size_mk] at hl
   simp at hl
   simp [cc_query_writer_token, rs_query_writer_token, e'', h1, h2, hl, hn', hq, size_app, size_mk, -Bool.forall_bool, -Bool.exists_bool]
   repeat' first | apply And.intro | intro _
   all_goals first | omega | (rename_i u' v'; exact finW u' v' (by simp) (by simp [ByteArray.append_assoc]))
end Go.Gv

namespace Go.Gv
open Cod (enc dec)
open Go.Proofs
variable {S S0 : Nat → Spc}
def inT (p : Bool) (t : B) : B := if p then (⟨#[40]⟩ ++ t) ++ ⟨#[41]⟩ else t
/-- what a closure of the writer writes: its function, the variable that it holds -/
def clG (CT : List D → Option B) (i b : Nat) (ds : List D) : Option B := match ds with
 | [.cptr [.bptr j b' 0] 0, .cptr cs 0] => if j = i ∧ b' = b then CT cs else none
 | _ => none
def inG (CT : Nat → List D → Option B) (i b : Nat) (ds : List D) : Option B := match ds with
 | [.bptr i' b1 0, .v (.bool p), .clo g [.cptr [.bptr j b' 0] 0, .cptr cs 0]] => if i' = i ∧ b1 = b ∧ j = i ∧ b' = b then (CT g cs).map (inT p) else none
 | _ => none
abbrev s_wCl (CT : List D → Option B) : Spc := ivC 108 5 (clG CT) (.tup [])
abbrev s_wIn (CT : Nat → List D → Option B) : Spc := ivC 108 5 (inG CT) (.tup [])
theorem cl_pt (CT : List D → Option B) (d i b : Nat) (cs : List D) (H : HMap) (K : D → HMap → Prop) : wrX 108 5 (.tup []) (fun t : B => some t) i b (H i) (H 900) (CT cs) H K → (s_wCl CT).pt d [.cptr [.bptr i b 0] 0, .cptr cs 0] H K := fun h =>
 ivC_use (i := i) (b := b) (by rw [show clG CT i b [.cptr [.bptr i b 0] 0, .cptr cs 0] = CT cs by simp [clG]]; exact h)
theorem in_pt (CT : Nat → List D → Option B) (d i b g : Nat) (p : Bool) (cs : List D) (H : HMap) (K : D → HMap → Prop) : wrX 108 5 (.tup []) (fun t : B => some t) i b (H i) (H 900) ((CT g cs).map (inT p)) H K → (s_wIn CT).pt d [.bptr i b 0, .v (.bool p), .clo g [.cptr [.bptr i b 0] 0, .cptr cs 0]] H K := fun h =>
 ivC_use (i := i) (b := b) (by rw [show inG CT i b [.bptr i b 0, .v (.bool p), .clo g [.cptr [.bptr i b 0] 0, .cptr cs 0]] = (CT g cs).map (inT p) by simp [inG]]; exact h)
theorem finIW {i b : Nat} {s : ByteArray} {H : HMap} (u : Bool) (v : Value) (h0 : H i = some (.tbox 108 b [.v (pv b u), .own 900 v])) (h9 : H 900 = some (.row v 5 1 (bD s))) : FinI 108 5 i b s (.tup []) (.tup []) H :=
 ⟨u, v, .same _, h0, h9⟩
/-- The method in: CT says what the closures write (S' g: their contracts). -/
theorem w_writer_in (CT : Nat → List D → Option B) (h1 : S f_strings_Builder_WriteString = s_wstr) (h2 : ∀ g cs t, CT g cs = some t → S g = s_wCl (CT g)) : WalkI cc_query_writer_in rs_query_writer_in S 108 5 (inG CT) (.tup []) := by
 intro i b u v s ds t hi hg hl
 have hi' : ¬ 900 = i := fun e => hi e.symm
 unfold inG at hg
 split at hg
 ·rename_i i' b1 p g j b' cs
  split at hg
  ·rename_i he
   obtain ⟨rfl, rfl, rfl, rfl⟩ := he
   obtain ⟨q, hq, rfl⟩ := Option.map_eq_some_iff.1 hg
   have hL := hLIM
   have h3 := h2 _ _ _ hq
   cases p with
   | false =>
     simp only [inT, Bool.false_eq_true, if_false] at hl ⊢
     simp [cc_query_writer_in, rs_query_writer_in]
     rw [h3]
     refine cl_pt _ _ _ _ _ _ _ ?_
     simp [hi, hi', hq, hl, -Bool.forall_bool, -Bool.exists_bool]
     exact fun u' v' => finIW u' v' (by simp) (by simp [hi'])
   | true =>
     simp only [inT, if_true] at hl ⊢
     simp only [size_app, size_mk] at hl
     simp at hl
     simp [cc_query_writer_in, rs_query_writer_in, h1, hi, hi', size_mk, -Bool.forall_bool, -Bool.exists_bool]
     refine ⟨by omega, fun u' v' => ?_⟩
     rw [h3]
     refine cl_pt _ _ _ _ _ _ _ ?_
     simp [hi, hi', hq, size_app, size_mk, -Bool.forall_bool, -Bool.exists_bool]
     repeat' first | apply And.intro | intro _
     all_goals first | omega | (rename_i u' v'; exact finIW u' v' (by simp) (by simp [hi', ByteArray.append_assoc]))
  ·cases hg
 ·cases hg
/-! ### Patterns -/
def sepT (op : Int) (i : Nat) : B := if i = 0 then E0 else if op = 5 then ⟨#[32, 124]⟩ ++ ⟨#[32]⟩ else ⟨#[32]⟩
def parK (op : Int) (k : Pat) : Bool := decide (k.op = 5) || (decide (k.op = 4) && decide (op = 4))
def kidsT (f : Pat → Option B) (op : Int) : Nat → List Pat → Option B
 | _, [] => some E0
 | i, k :: ks => (f k).bind fun t => (kidsT f op (i + 1) ks).map fun r => (sepT op i ++ inT (parK op k) t) ++ r
def patTT (f : Pat → Option B) (p : Pat) : Option B :=
 if p.op = 1 then tokT p else if p.op = 2 then some ((⟨#[60]⟩ ++ p.reg) ++ ⟨#[62]⟩) else if p.op = 3 then some ((⟨#[60, 47]⟩ ++ p.reg) ++ ⟨#[62]⟩) else
 if p.op = 4 ∨ p.op = 5 then kidsT f p.op 0 p.kids else none
def patT : Nat → Pat → Option B
 | 0 => fun _ => none
 | n + 1 => patTT (patT n)
def patCT (T : Pat → Option B) (cs : List D) : Option B := if cs.length = 13 then (dec (X := Pat) (.agg cs)).bind T else none
abbrev s_wPat (T : Pat → Option B) : Spc := wrC 108 5 (a1 Pat) (.tup []) T
theorem w_writer_pattern_2 (T : Pat → Option B) (h1 : S f_query_writer_pattern = s_wPat T) : WalkI cc_query_writer_pattern_2 rs_query_writer_pattern_2 S 108 5 (clG (patCT T)) (.tup []) := by
 intro i b u v s ds t hi hg hl
 have hi' : ¬ 900 = i := fun e => hi e.symm
 unfold clG at hg
 split at hg
 ·rename_i j b' cs
  split at hg
  ·rename_i he
   obtain ⟨rfl, rfl⟩ := he
   unfold patCT at hg
   split at hg
   ·rename_i h13
    obtain ⟨p, hd, ht⟩ := Option.bind_eq_some_iff.1 hg
    have htk : List.take 13 cs = cs := List.take_of_length_le (by omega)
    simp [cc_query_writer_pattern_2, rs_query_writer_pattern_2, h1, h13, htk, hd, ht, hi, hi', hl, -Bool.forall_bool, -Bool.exists_bool]
    exact fun u' v' => finIW u' v' (by simp) (by simp [hi'])
   ·cases hg
  ·cases hg
 ·cases hg
end Go.Gv

namespace Go.Gv
open Cod (enc dec)
open Go.Proofs
variable {S S0 : Nat → Spc}
def CTp (T : Pat → Option B) (g : Nat) : List D → Option B := if g = f_query_writer_pattern_2 then patCT T else fun _ => none
theorem e0_app (t : B) : (⟨#[]⟩ : B) ++ t = t := by
 apply ByteArray.ext
 show ((⟨#[]⟩ : B) ++ t).data = _
 rw [ByteArray.data_append]
 simp
theorem app_e0 (t : B) : t ++ (⟨#[]⟩ : B) = t := by
 apply ByteArray.ext
 show (t ++ (⟨#[]⟩ : B)).data = _
 rw [ByteArray.data_append]
 simp
theorem kidsT_step {f : Pat → Option B} {op : Int} {i : Nat} {ks : List Pat} {k : Pat} (hx : ks[i]? = some k) {r : B} (h : kidsT f op i (ks.drop i) = some r) :
 ∃ t r', f k = some t ∧ kidsT f op (i + 1) (ks.drop (i + 1)) = some r' ∧ r = (sepT op i ++ inT (parK op k) t) ++ r' := by
 have hd : ks.drop i = k :: ks.drop (i + 1) := drop_cons_of hx
 rw [hd, kidsT] at h
 obtain ⟨t, h1, h⟩ := Option.bind_eq_some_iff.1 h
 obtain ⟨r', h2, h⟩ := Option.map_eq_some_iff.1 h
 exact ⟨t, r', h1, h2, h.symm⟩
theorem w_writer_pattern (T : Pat → Option B) (h1 : S f_query_writer_token = s_wTok) (h2 : S f_strings_Builder_WriteString = s_wstr) (h3 : S f_query_writer_in = s_wIn (CTp T)) :
 WalkW cc_query_writer_pattern rs_query_writer_pattern S 108 5 (a1 Pat) (.tup []) (patTT T) := by
 rintro b u v s ⟨op, cond, lab, reg, mn, mx, kids⟩ t ht hl
 have hL := hLIM
 unfold patTT at ht
 simp only at ht
 split at ht
 ·rename_i e
  subst e
  simp [cc_query_writer_pattern, rs_query_writer_pattern, h1, ht, hl, -Bool.forall_bool, -Bool.exists_bool]
  exact fun u' v' => finW u' v' (by simp) (by simp)
 ·rename_i n1
  split at ht
  ·rename_i e
   subst e
   cases ht
   simp only [size_app, size_mk] at hl
   simp at hl
   simp [cc_query_writer_pattern, rs_query_writer_pattern, h2, size_app, size_mk, -Bool.forall_bool, -Bool.exists_bool]
   refine ⟨by omega, by omega, by omega, fun u' v' => finW u' v' (by simp) (by simp)⟩
  ·rename_i n2
   split at ht
   ·rename_i e
    subst e
    cases ht
    simp only [size_app, size_mk] at hl
    simp at hl
    simp [cc_query_writer_pattern, rs_query_writer_pattern, h2, size_app, size_mk, -Bool.forall_bool, -Bool.exists_bool]
    refine ⟨by omega, by omega, by omega, fun u' v' => finW u' v' (by simp) (by simp)⟩
   ·rename_i n3
    split at ht
    ·rename_i h45
     have n6 : ¬ op = 6 := by omega
     simp [cc_query_writer_pattern, rs_query_writer_pattern, n1, n2, n3, n6, -Bool.forall_bool, -Bool.exists_bool]
     intro hkl
     refine vc_range (X := Bool × Value × B × B) [2, 3, 10] [] kids.length (fun k x => kidsT T op k (kids.drop k) = some x.2.2.2 ∧ x.2.2.1 ++ x.2.2.2 = t) (fun x => []) (fun x => [(0, .tbox 108 b [.v (pv b x.1), .own 900 x.2.1]), (900, .row x.2.1 5 1 (bD (s ++ x.2.2.1)))]) (u, v, E0, t) (by simp) (by simp) (by omega) (by simp) (by simp) ?_ (by simp) (by simp [E0, app_e0]) ?_ ?_
     ·refine ⟨ht, ?_⟩
      simp [E0, e0_app]
     ·rintro k ⟨u1, v1, acc, r⟩ hk ⟨q1, q2⟩
      simp only at q1 q2
      obtain ⟨x, hx⟩ := at_lt hk
      obtain ⟨_, hgx⟩ := List.getElem?_eq_some_iff.1 hx
      obtain ⟨tk, r', c1, c2, rfl⟩ := kidsT_step hx q1
      rw [← q2] at hl
      simp only [size_app] at hl
      have inn : ∀ (s0 : B) (pb : Bool) (u2 : Bool) (v2 : Value) (H : HMap) (K : D → HMap → Prop), H 0 = some (.tbox 108 b [.v (pv b u2), .own 900 v2]) → H 900 = some (.row v2 5 1 (bD s0)) → s0 = s ++ (acc ++ sepT op k) → pb = parK op x →
       (∀ u3 v3, K (.tup []) (updH (updH H 900 (some (.row v3 5 1 (bD (s ++ (acc ++ (sepT op k ++ inT (parK op x) tk))))))) 0 (some (.tbox 108 b [.v (pv b u3), .own 900 v3])))) →
       (S f_query_writer_in).pt 49 [.bptr 0 b 0, .v (.bool pb), .clo f_query_writer_pattern_2 [.cptr [.bptr 0 b 0] 0, .cptr [D.v (Value.int IntKind.i64 x.op), D.v (Value.int IntKind.i64 x.cond.op),
         D.v (Value.string x.cond.name), D.v (Value.string x.cond.arg), D.v (Value.string x.cond.val), D.v (Value.string x.cond.lab), D.v (Value.bool x.cond.fold), D.list 7 (List.map enc x.cond.kids),
         D.v (Value.string x.lab), D.v (Value.string x.reg), D.v (Value.int IntKind.i64 x.mn), D.v (Value.int IntKind.i64 x.mx), D.list 13 (List.map enc x.kids)] 0]] H K := by
       intro s0 pb u2 v2 H K g0 g9 hs hp hK
       rw [h3]
       refine in_pt _ _ _ _ _ _ _ _ _ ?_
       have hct : CTp T f_query_writer_pattern_2 [D.v (Value.int IntKind.i64 x.op), D.v (Value.int IntKind.i64 x.cond.op),
        D.v (Value.string x.cond.name), D.v (Value.string x.cond.arg), D.v (Value.string x.cond.val), D.v (Value.string x.cond.lab), D.v (Value.bool x.cond.fold), D.list 7 (List.map enc x.cond.kids),
        D.v (Value.string x.lab), D.v (Value.string x.reg), D.v (Value.int IntKind.i64 x.mn), D.v (Value.int IntKind.i64 x.mx), D.list 13 (List.map enc x.kids)] = some tk := by
        simp [CTp, patCT, c1]
       rw [hct, g0, g9, hp]
       simp [-Bool.forall_bool, -Bool.exists_bool]
       refine ⟨?_, fun u3 v3 => ?_⟩
       ·rw [hs]
        simp only [size_app]
        omega
       ·have := hK u3 v3
        rw [hs]
        simp only [ByteArray.append_assoc] at this ⊢
        exact this
      have eq3 : (acc ++ (sepT op k ++ inT (parK op x) tk)) ++ r' = t := by
       rw [← q2]
       simp [ByteArray.append_assoc]
      by_cases hk0 : k = 0
      ·subst hk0
       have c2' : kidsT T op 1 kids.tail = some r' := by simpa using c2
       have hsep : sepT op 0 = ⟨#[]⟩ := rfl
       simp [hk, hx, hgx, h2, size_mk, -Bool.forall_bool, -Bool.exists_bool]
       refine ⟨fun h5 => ⟨fun h4 => ?_, fun h4 => ?_⟩, fun h5 => ?_⟩
       ·refine inn (s ++ acc) _ u1 v1 _ _ (by simp) (by simp) (by rw [hsep, app_e0]) (by simp [parK, h4, h5]) fun u3 v3 => ⟨u3, v3, _, ⟨r', c2', eq3⟩, .inl (by simp), .inl (by simp)⟩
       ·refine inn (s ++ acc) _ u1 v1 _ _ (by simp) (by simp) (by rw [hsep, app_e0]) (by simp [parK, h4, h5]) fun u3 v3 => ⟨u3, v3, _, ⟨r', c2', eq3⟩, .inl (by simp), .inl (by simp)⟩
       ·refine inn (s ++ acc) _ u1 v1 _ _ (by simp) (by simp) (by rw [hsep, app_e0]) (by simp [parK, h5]) fun u3 v3 => ⟨u3, v3, _, ⟨r', c2', eq3⟩, .inl (by simp), .inl (by simp)⟩
      ·have hk1 : 0 < k := by omega
       rcases h45 with rfl | rfl
       ·have hsep : sepT 4 k = ⟨#[32]⟩ := by simp [sepT, hk0]
        rw [hsep] at hl
        simp only [size_mk] at hl
        simp at hl
        simp [hk, hx, hgx, h2, hk1, size_mk, size_app, -Bool.forall_bool, -Bool.exists_bool]
        refine ⟨by omega, fun u4 v4 => ⟨fun h5 => ⟨fun h4 => ?_, fun h4 => ?_⟩, fun h5 => ?_⟩⟩
        ·refine inn (s ++ acc ++ ⟨#[32]⟩) _ u4 v4 _ _ (by simp) (by simp) (by rw [hsep, ByteArray.append_assoc]) (by simp [parK, h4, h5]) fun u3 v3 => ⟨u3, v3, _, ⟨r', c2, eq3⟩, .inl (by simp), .inl (by simp)⟩
        ·refine inn (s ++ acc ++ ⟨#[32]⟩) _ u4 v4 _ _ (by simp) (by simp) (by rw [hsep, ByteArray.append_assoc]) (by simp [parK, h4, h5]) fun u3 v3 => ⟨u3, v3, _, ⟨r', c2, eq3⟩, .inl (by simp), .inl (by simp)⟩
        ·refine inn (s ++ acc ++ ⟨#[32]⟩) _ u4 v4 _ _ (by simp) (by simp) (by rw [hsep, ByteArray.append_assoc]) (by simp [parK, h5]) fun u3 v3 => ⟨u3, v3, _, ⟨r', c2, eq3⟩, .inl (by simp), .inl (by simp)⟩
       ·have hsep : sepT 5 k = ⟨#[32, 124]⟩ ++ ⟨#[32]⟩ := by simp [sepT, hk0]
        rw [hsep] at hl
        simp only [size_app, size_mk] at hl
        simp at hl
        simp [hk, hx, hgx, h2, hk1, size_mk, size_app, -Bool.forall_bool, -Bool.exists_bool]
        refine ⟨by omega, by omega, fun u4 v4 => ⟨fun h5 => ?_, fun h5 => ?_⟩⟩
        ·refine inn (s ++ acc ++ ⟨#[32, 124]⟩ ++ ⟨#[32]⟩) _ u4 v4 _ _ (by simp) (by simp) (by rw [hsep]; simp only [ByteArray.append_assoc]) (by simp [parK, h5]) fun u3 v3 => ⟨u3, v3, _, ⟨r', c2, eq3⟩, .inl (by simp), .inl (by simp)⟩
        ·refine inn (s ++ acc ++ ⟨#[32, 124]⟩ ++ ⟨#[32]⟩) _ u4 v4 _ _ (by simp) (by simp) (by rw [hsep]; simp only [ByteArray.append_assoc]) (by simp [parK, h5]) fun u3 v3 => ⟨u3, v3, _, ⟨r', c2, eq3⟩, .inl (by simp), .inl (by simp)⟩
     ·rintro ⟨u1, v1, acc, r⟩ ⟨q1, q2⟩
      simp only at q1 q2
      simp
      rw [List.drop_length, kidsT] at q1
      cases q1
      refine finW u1 v1 (by simp) ?_
      rw [← q2]
      simp [E0, app_e0]
    ·cases ht
end Go.Gv

namespace Go.Gv
open Cod (enc dec)
variable {S S0 : Nat → Spc}
/-- a writer's box whose slice is still empty -/
theorem wk_niltbox {σ : Sg} {H : HMap} {k j b tw el n : Nat} {cs cs' : List D} (hkj : j ≠ k) (hk : H k = some (.tbox tw b cs)) (hl : cs.length = cs'.length) (hc : ∀ (m : Nat) (c c' : D), cs[m]? = some c → cs'[m]? = some c' → FrzTo noH c c') :
 Wk σ H σ (updH (updH H k (some (.tbox tw b cs'))) j (some (.row (.slice none 0 0) el n []))) := by
 refine wk_all (Hf := noH) id (fun t => .same _) (fun i r h => ?_) (fun i j r s _ _ e => .inl e) (fun i r h => by simp [noH] at h)
 by_cases e : i = j
 ·subst e
  simp [updH] at h
  subst h
  exact .inr ⟨rfl, rfl⟩
 ·by_cases e2 : i = k
  ·subst e2
   simp [updH, e] at h
   subst h
   exact .inl ⟨_, hk, .inr ⟨rfl, rfl, hl, hc⟩⟩
  ·simp only [updH, e, e2, if_false] at h
   exact .inl ⟨r, h, .inl rfl⟩
theorem wk_niltboxB {σ : Sg} {H : HMap} {k j b tw el : Nat} {cs cs' : List D} (hkj : j ≠ k) (hk : H k = some (.tbox tw b cs)) (hl : cs.length = cs'.length) (hc : ∀ (m : Nat) (c c' : D), cs[m]? = some c → cs'[m]? = some c' → FrzTo noH c c') :
 Wk σ H σ (updH (updH H k (some (.tbox tw b cs'))) j (some (.row (.slice none 0 0) el 1 (bD ⟨#[]⟩)))) := wk_niltbox hkj hk hl hc
theorem vc_nilW {K : Ex → Sg → HMap → Prop} {k : Nat} {b : CC} {σ σ' : Sg} {H H' : HMap} (hw : Wk σ H σ' H') (h : vc S b K σ' H') : vc S (.cut k b) K σ H := by
 rw [e_cut]
 exact ⟨_, _, hw, h⟩
def FmtP (n : Nat) (q : Qry) : Prop := (shallowB q.pat 1 && everyB nodeB q.pat) = true ∧ q.strat = 0 ∧ q.filts = [] ∧ q.glob = GlobE ∧ PLq q.pat [] ∧ (∀ x ∈ leavesQ q.pat, LC x.cond) ∧ ∃ t, patT n q.pat = some t ∧ t.size ≤ LIMW ∧ t.size ≠ 0
abbrev s_Format (n : Nat) : Spc := spc (a1 Qry) (FmtP n) (enc (X := B)) fun q y => patT n q.pat = some y
theorem w_query_Format (n : Nat) (h0 : S0 f_query_Format_1 = s_Format1) (h1 : S f_query_Shape = s_Shape) (h2 : S f_slices_ContainsFunc_Filter = s_ConF) (h3 : S f_query_Sound = s_Sound) (h4 : S f_query_leaves = s_leavesQ) (h5 : S f_slices_ContainsFunc_Pattern = s_ConP S0)
 (h6 : S f_query_writer_pattern = s_wPat (patT n)) (h7 : S f_strings_Builder_String = s_string) : Walk cc_query_Format rs_query_Format S (a1 Qry) (FmtP n) (enc (X := B)) fun q y => patT n q.pat = some y := by
 rintro ⟨p, g, fs, st⟩ ⟨hs, h8, h9, h10, h11, h12, t, h13, h14, h15⟩
 simp only at hs h8 h9 h10 h11 h12 h13
 subst h8; subst h9; subst h10
 have hf : FunOn S0 (.clo f_query_Format_1 []) (leavesQ p) fun _ => false := by
  refine ⟨_, [], _, rfl, h0, fun x hx => ⟨⟨x, by simp, h12 x hx⟩, fun r hr => ?_⟩⟩
  obtain ⟨y, rfl, hy⟩ := hr x (by simp) (h12 x hx)
  rw [hy]
 simp only [Bool.and_eq_true] at hs
 simp [cc_query_Format, rs_query_Format, hs.1, hs.2, h1, h2, h3, h4, h5, ty_query_writer, -Bool.forall_bool, -Bool.exists_bool]
 refine .inl ⟨h11, ⟨_, hf⟩, fun y hy => ?_⟩
 have e : y = false := by
  have hy : y = (leavesQ p).any fun _ => false := hy _ hf
  rw [hy]; simp
 subst e
 refine ⟨fun h => absurd h (by decide), fun _ => ?_⟩
 unfold seqM
 simp [GlobE, E0, -Bool.forall_bool, -Bool.exists_bool]
 intro b
 refine vc_nilW (wk_niltboxB (k := 36) (j := 900) (b := b) (tw := 108) (el := 5) (cs := [.v (.pointer none), .v (.slice none 0 0)]) (cs' := [.v (pv b false), .own 900 (.slice none 0 0)]) (by decide) (by simp) (by simp) ?_) ?_
 ·intro m c c' hc hc'
  match m with
  | 0 => simp at hc hc'; subst hc; subst hc'; exact .same _
  | 1 => simp at hc hc'; subst hc; subst hc'; exact .nilown _
  | m + 2 => simp at hc
 simp [h6, h13, h14, e0_app, size_mk, -Bool.forall_bool, -Bool.exists_bool]
 intro u v
 refine vc_range (X := Unit) [1, 3] [36, 900] 0 (fun _ _ => True) (fun _ => []) (fun _ => []) () (by simp) (by simp) (by omega) (by simp) (by simp) trivial (by simp) (by simp) (fun k x hk => absurd hk (by omega)) (fun _ _ => ?_)
 simp [h7, -Bool.forall_bool, -Bool.exists_bool]
 exact ⟨36, b, u, v, t, rfl, by simp, by simp, by decide, ⟨h15, h14⟩, fin_of (Y := B) t (.same _) rfl⟩
end Go.Gv

namespace Go.Gv
open Cod (enc dec)
variable {S S0 : Nat → Spc}
@[simp] abbrev F_rnext (s : Rdr) (_ : Unit) : Option (Rdr × Unit) := (nextR s).map fun x => (x, ())
abbrev s_rnext : Spc := rdF a0 er0 F_rnext
theorem finRB {b : Nat} {post : Rdr → Bool → Prop} {v : Bool} {H : HMap} (s : Rdr) (h0 : H 0 = some (.box b (ceRdr s))) (hq : post s v) : FinRD enc b post (.v (.bool v)) H := finRD s v (.same _) h0 hq
theorem finRS {b : Nat} {post : Rdr → B → Prop} {v : B} {H : HMap} (s : Rdr) (h0 : H 0 = some (.box b (ceRdr s))) (hq : post s v) : FinRD enc b post (.v (.string v)) H := finRD s v (.same _) h0 hq
theorem w_reader_next (h1 : S f_query_lex = s_q_lex) : WalkRD cc_query_reader_next rs_query_reader_next S a0 er0 (fun s z => ∃ r, F_rnext s z = some r) (fun s z s' y => F_rnext s z = some (s', y)) := by
 rintro b s ⟨⟩ ⟨r, hr⟩
 simp only [F_rnext, nextR] at hr
 split at hr
 ·rename_i h
  simp [cc_query_reader_next, rs_query_reader_next, h1, h.1.1, h.1.2, h.2, er2]
  exact finRD ⟨s.txt, (lexP s.txt s.fin.toNat).2, (lexP s.txt s.fin.toNat).1.kind, (lexP s.txt s.fin.toNat).1.text, (lexP s.txt s.fin.toNat).1.pos⟩ () (.same _) (by simp) (by simp [nextR, h])
 ·cases hr
@[simp] abbrev F_rpeek (s : Rdr) (_ : Unit) : Option (Rdr × Lxm) := (peekR s).map fun x => (s, x)
abbrev s_rpeek : Spc := rdF a0 (enc (X := Lxm)) F_rpeek
theorem w_reader_peek (h1 : S f_query_lex = s_q_lex) : WalkRD cc_query_reader_peek rs_query_reader_peek S a0 (enc (X := Lxm)) (fun s z => ∃ r, F_rpeek s z = some r) (fun s z s' y => F_rpeek s z = some (s', y)) := by
 rintro b s ⟨⟩ ⟨r, hr⟩
 simp only [F_rpeek, peekR] at hr
 split at hr
 ·rename_i h
  simp [cc_query_reader_peek, rs_query_reader_peek, h1, h.1.1, h.1.2, h.2, er2]
  exact fun _ => finRD s (lexP s.txt s.fin.toNat).1 (.same _) (by simp) (by simp [peekR, h])
 ·cases hr
@[simp] abbrev F_rsign (s : Rdr) (t : B) : Option (Rdr × Bool) := some (s, signR s t)
abbrev s_rsign : Spc := rdF (a1 B) (enc (X := Bool)) F_rsign
theorem w_reader_sign : WalkRD cc_query_reader_sign rs_query_reader_sign S (a1 B) (enc (X := Bool)) (fun s z => ∃ r, F_rsign s z = some r) (fun s z s' y => F_rsign s z = some (s', y)) := by
 rintro b s t ⟨r, hr⟩
 simp [cc_query_reader_sign, rs_query_reader_sign]
 refine ⟨fun hk => finRB s (by simp) (by simp [signR, hk]), fun hk => finRB s (by simp) (by simp [signR, hk])⟩
@[simp] abbrev F_rtake (s : Rdr) (t : B) : Option (Rdr × Bool) := takeR s t
abbrev s_rtake : Spc := rdF (a1 B) (enc (X := Bool)) F_rtake
theorem w_reader_take (h1 : S f_query_reader_next = s_rnext) (h2 : S f_query_reader_sign = s_rsign) : WalkRD cc_query_reader_take rs_query_reader_take S (a1 B) (enc (X := Bool)) (fun s z => ∃ r, F_rtake s z = some r) (fun s z s' y => F_rtake s z = some (s', y)) := by
 rintro b s t ⟨r, hr⟩
 have hr0 := hr
 simp only [F_rtake, takeR] at hr
 split at hr
 ·rename_i h
  obtain ⟨x, hx, rfl⟩ := Option.map_eq_some_iff.1 hr
  simp [cc_query_reader_take, rs_query_reader_take, h1, h2, h, hx]
  exact finRB x (by simp) (by simp [takeR, h, hx])
 ·rename_i h
  simp [cc_query_reader_take, rs_query_reader_take, h1, h2, h]
  exact finRB s (by simp) (by simp [takeR, h])
@[simp] abbrev F_rword (s : Rdr) (l : List B) : Option (Rdr × Bool) := some (s, wordR s l)
abbrev s_rword : Spc := rdF (a1 (List B)) (enc (X := Bool)) F_rword
theorem w_reader_word (h1 : S f_slices_Contains_string = s_has_string) : WalkRD cc_query_reader_word rs_query_reader_word S (a1 (List B)) (enc (X := Bool)) (fun s z => ∃ r, F_rword s z = some r) (fun s z s' y => F_rword s z = some (s', y)) := by
 rintro b s t ⟨r, hr⟩
 simp [cc_query_reader_word, rs_query_reader_word, h1]
 refine ⟨fun hk => finRB s (by simp) (by simp [wordR, hk]), fun hk => finRB s (by simp) (by simp [wordR, hk])⟩
@[simp] abbrev F_rfold (s : Rdr) (_ : Unit) : Option (Rdr × Bool) := takeR s ⟨#[37, 99]⟩
abbrev s_rfold : Spc := rdF a0 (enc (X := Bool)) F_rfold
theorem w_reader_fold (h1 : S f_query_reader_take = s_rtake) : WalkRD cc_query_reader_fold rs_query_reader_fold S a0 (enc (X := Bool)) (fun s z => ∃ r, F_rfold s z = some r) (fun s z s' y => F_rfold s z = some (s', y)) := by
 rintro b s ⟨⟩ ⟨⟨s', y⟩, hr⟩
 have hr0 := hr
 simp only [F_rfold] at hr
 simp [cc_query_reader_fold, rs_query_reader_fold, h1, hr, -Bool.forall_bool, -Bool.exists_bool]
 exact finRB s' (by simp) ⟨rfl, rfl⟩
end Go.Gv

namespace Go.Gv
open Cod (enc dec)
variable {S S0 : Nat → Spc}
abbrev s_conds : Spc := spc (a2 Int (List Cond)) (fun _ => True) (enc (X := Cond)) fun x y => y = cOp x.1 x.2
theorem cOp_n {op : Int} {l : List Cond} (h : l.length ≠ 1) : cOp op l = ⟨op, E0, E0, E0, E0, false, l⟩ := by
 match l, h with
 | [], _ => rfl
 | [x], h => exact absurd rfl h
 | x :: y :: l, _ => rfl
theorem w_conds : Walk cc_query_conds rs_query_conds S (a2 Int (List Cond)) (fun _ => True) (enc (X := Cond)) fun x y => y = cOp x.1 x.2 := by
 rintro ⟨op, l⟩ -
 simp [cc_query_conds, rs_query_conds]
 refine fun b _ => ⟨fun h => ⟨by omega, fun a ha => ?_⟩, fun h => ?_⟩
 ·have e : l = [a] := by
   match l, h, ha with
   | [x], _, ha => simp at ha; rw [ha]
  exact fin_of a (by simp) (by rw [e]; rfl)
 ·exact fin_of (⟨op, E0, E0, E0, E0, false, l⟩ : Cond) (by simp [E0]) (cOp_n (by omega)).symm
theorem frz_cond {H : HMap} {o : Int} {n a v l : B} {f : Bool} {d : D} (ks : List Cond) (hd : FrzTo H d (enc ks)) :
 FrzTo H (.agg [.v (.int .i64 o), .v (.string n), .v (.string a), .v (.string v), .v (.string l), .v (.bool f), d]) (enc (⟨o, n, a, v, l, f, ks⟩ : Cond)) := by
 rw [enc_Cond]
 refine .agg rfl fun k x y hx hy => ?_
 rcases k with _ | _ | _ | _ | _ | _ | _ | k
 ·cases hx; cases hy; exact .same _
 ·cases hx; cases hy; exact .same _
 ·cases hx; cases hy; exact .same _
 ·cases hx; cases hy; exact .same _
 ·cases hx; cases hy; exact .same _
 ·cases hx; cases hy; exact .same _
 ·cases hx; cases hy; exact hd
 ·simp at hx
theorem frz_one {X : Type} [Cod X] {H : HMap} {d : D} (y : X) (h : FrzTo H d (enc y)) : FrzTo H (.list (Cod.wd X) [d]) (enc [y]) := by
 show FrzTo H (.list (Cod.wd X) [d]) (.list (Cod.wd X) [enc y])
 refine .list rfl (fun z hz => ?_) fun k c c' hc hc' => ?_
 ·simp at hz; subst hz; exact ⟨Cod.kn y, Cod.wid y⟩
 ·rcases k with _ | k
  ·cases hc; cases hc'; exact h
  ·simp at hc
theorem finRC {b : Nat} {post : Rdr → Cond → Prop} {H : HMap} {o : Int} {n a v l : B} {f : Bool} {d : D} (s : Rdr) (ks : List Cond) (hd : FrzTo (fun i => if i = 0 then none else H i) d (enc ks)) (h0 : H 0 = some (.box b (ceRdr s))) (hq : post s ⟨o, n, a, v, l, f, ks⟩) :
 FinRD enc b post (.agg [.v (.int .i64 o), .v (.string n), .v (.string a), .v (.string v), .v (.string l), .v (.bool f), d]) H := finRD s (⟨o, n, a, v, l, f, ks⟩ : Cond) (frz_cond ks hd) h0 hq
end Go.Gv

namespace Go.Gv
open Cod (enc dec)
section
variable {Y Z : Type}
def psB : BoxF Pst := boxD cePst
/-- A method of the parser: what it asks, how its result is written, what it says. -/
def psC (A : Arg Z) (er : Y → D) (pre : Pst → Z → Prop) (post : Pst → Z → Pst → Y → Prop) : Spc := bpC psB A er pre post
def psX (er : Y → D) (pre : Pst → Z → Prop) (post : Pst → Z → Pst → Y → Prop) (id b : Nat) (r : Option Res) (o : Option Z) (H : HMap) (K : D → HMap → Prop) : Prop :=
 ∃ x, r = some (.box b (cePst x)) ∧ optX o fun z => pre x z ∧ ∀ x' y, post x z x' y → K (er y) (updH H id (some (.box b (cePst x'))))
theorem cePst_inj {x y : Pst} (h : cePst x = cePst y) : x = y := by
 obtain ⟨l, a, d, e, f⟩ := x
 obtain ⟨l', a', d', e', f'⟩ := y
 simp only [cePst, List.cons.injEq] at h
 obtain ⟨h1, h2, h3, h4, h5, _⟩ := h
 have h1 := enc_inj h1
 have h2 := enc_inj h2
 have h3 := enc_inj h3
 have h4 := enc_inj h4
 have h5 := enc_inj h5
 subst h1; subst h2; subst h3; subst h4; subst h5
 rfl
@[simp] theorem psC_pt (A : Arg Z) (er : Y → D) (pre : Pst → Z → Prop) (post : Pst → Z → Pst → Y → Prop) (d i b : Nat) (ds : List D) (H : HMap) (K : D → HMap → Prop) : (psC A er pre post).pt d (.bptr i b 0 :: ds) H K = psX er pre post i b (H i) (A.dec ds) H K := by
 refine propext ⟨fun h => ?_, fun h => ?_⟩
 ·obtain ⟨id, b', x, z, ds', h1, h2, h3, h4, h5, h6, h7⟩ := h
  cases h1
  refine ⟨x, h3, ?_⟩
  rw [h2]
  exact ⟨h6, h7⟩
 ·obtain ⟨x, h1, h2⟩ := h
  cases hz : A.dec ds with
  | none => rw [hz] at h2; exact h2.elim
  | some z => rw [hz] at h2; exact ⟨i, b, x, z, ds, rfl, hz, h1, fun p hp => by simp [psB, boxD] at hp, by simp [psB, boxD], h2.1, h2.2⟩
/-- What is to be shown at a method's end. -/
def FinPS (er : Y → D) (b : Nat) (post : Pst → Y → Prop) (r : D) (H : HMap) : Prop := FinBP psB er b post r H
theorem finPS {er : Y → D} {b : Nat} {post : Pst → Y → Prop} {r : D} {H : HMap} (x : Pst) (y : Y) (hr : FrzTo (fun i => if i = 0 then none else H i) r (er y)) (h0 : H 0 = some (.box b (cePst x))) (hq : post x y) : FinPS er b post r H :=
 ⟨x, y, by simpa [psB, boxD] using hr, h0, fun p hp => by simp [psB, boxD] at hp, hq⟩
def WalkPS (cc : CC) (rs : List CRes) (S : Nat → Spc) (A : Arg Z) (er : Y → D) (pre : Pst → Z → Prop) (post : Pst → Z → Pst → Y → Prop) : Prop :=
 ∀ b x z, pre x z → vc S cc (retK rs fun r H' => FinPS er b (post x z) r H') (initS (.bptr 0 b 0 :: A.view z)) (updH noH 0 (some (.box b (cePst x))))
variable {P : Program} {S : Nat → Spc} {f : Nat} {im : List Nat} {cc : CC} {rs : List CRes} {N : Nat}
theorem tri_walkPS {A : Arg Z} {er : Y → D} {pre : Pst → Z → Prop} {post : Pst → Z → Pst → Y → Prop} (hS : ∀ f, Tri P f (S f).pt) (h : FnOk P f im cc rs N) (hN : ∀ z, (A.view z).length + 1 ≤ N) (hw : WalkPS cc rs S A er pre post) : Tri P f (psC A er pre post).pt :=
 tri_walkBP (by simp [psB, boxD]) hS h hN fun b x z hp => hw b x z hp
end
section
variable {Y Z : Type}
/-- The contract of a method that computes F. -/
def psF (A : Arg Z) (er : Y → D) (F : Pst → Z → Option (Pst × Y)) : Spc := psC A er (fun s z => ∃ r, F s z = some r) (fun s z s' y => F s z = some (s', y))
def psFX (er : Y → D) (F : Pst → Z → Option (Pst × Y)) (id b : Nat) (r : Option Res) (o : Option Z) (H : HMap) (K : D → HMap → Prop) : Prop :=
 ∃ x, r = some (.box b (cePst x)) ∧ optX o fun z => optX (F x z) fun q => K (er q.2) (updH H id (some (.box b (cePst q.1))))
@[congr] theorem psFX_cg {er : Y → D} {F : Pst → Z → Option (Pst × Y)} {id b : Nat} {r r' : Option Res} {o o' : Option Z} {H : HMap} {K : D → HMap → Prop} (h1 : r = r') (h2 : o = o') : psFX er F id b r o H K = psFX er F id b r' o' H K := by subst h1; subst h2; rfl
theorem optF {F : Option (Pst × Y)} {k : Pst → Y → Prop} : ((∃ r, F = some r) ∧ ∀ x' y, F = some (x', y) → k x' y) = optX F fun q => k q.1 q.2 := by
 cases F with
 | none =>
   refine propext (Iff.intro (fun h => ?_) (fun h => ?_))
   ·obtain ⟨⟨r, h⟩, _⟩ := h
    cases h
   ·exact False.elim h
 | some r =>
   refine propext (Iff.intro (fun h => h.2 _ _ rfl) (fun h => ⟨⟨_, rfl⟩, fun x' y e => ?_⟩))
   cases e
   exact h
@[simp] theorem psF_pt (A : Arg Z) (er : Y → D) (F : Pst → Z → Option (Pst × Y)) (d i b : Nat) (ds : List D) (H : HMap) (K : D → HMap → Prop) : (psF A er F).pt d (.bptr i b 0 :: ds) H K = psFX er F i b (H i) (A.dec ds) H K := by
 unfold psF psFX
 rw [psC_pt]
 unfold psX
 refine propext (exists_congr fun x => and_congr_right fun _ => ?_)
 cases A.dec ds with
 | none => exact Iff.rfl
 | some z => exact iff_of_eq optF
@[simp] theorem psFX_r (er : Y → D) (F : Pst → Z → Option (Pst × Y)) (id b : Nat) (l : List Tok) (p dp e f : Int) (o : Option Z) (H : HMap) (K : D → HMap → Prop) :
 psFX er F id b (some (.box b [.list 3 (l.map enc), .v (.int .i64 p), .v (.int .i64 dp), .v (.int .i64 e), .v (.int .i64 f)])) o H K = optX o fun z => optX (F ⟨l, p, dp, e, f⟩ z) fun q => K (er q.2) (updH H id (some (.box b (cePst q.1)))) := by
 refine propext ⟨fun ⟨x, h1, h2⟩ => ?_, fun h => ⟨⟨l, p, dp, e, f⟩, rfl, h⟩⟩
 have e1 : cePst ⟨l, p, dp, e, f⟩ = cePst x := by
  have := Option.some.inj h1
  exact (Res.box.inj this).2
 have := cePst_inj e1
 subst this
 exact h2
variable {P : Program} {S : Nat → Spc} {f : Nat} {im : List Nat} {cc : CC} {rs : List CRes} {N : Nat}
theorem tri_walkPSF {A : Arg Z} {er : Y → D} {F : Pst → Z → Option (Pst × Y)} (hS : ∀ f, Tri P f (S f).pt) (h : FnOk P f im cc rs N) (hN : ∀ z, (A.view z).length + 1 ≤ N)
 (hw : WalkPS cc rs S A er (fun s z => ∃ r, F s z = some r) (fun s z s' y => F s z = some (s', y))) : Tri P f (psF A er F).pt := tri_walkPS hS h hN hw
end
end Go.Gv
