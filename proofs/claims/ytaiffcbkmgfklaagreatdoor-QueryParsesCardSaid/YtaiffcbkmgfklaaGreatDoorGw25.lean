/- A part of the framework and of the walks: W95 W96 W97 V21. -/
import Derived.Test.YtaiffcbkmgfklaaGreatDoorGw24
import Derived.Test.YtaiffcbkmgfklaaGreatDoorGw19
import Derived.Test.YtaiffcbkmgfklaaGreatDoorGw21
import Derived.Test.YtaiffcbkmgfklaaGreatDoorGw20
import Derived.Test.YtaiffcbkmgfklaaGreatDoorGw22
import Derived.Test.YtaiffcbkmgfklaaGreatDoorGw18
set_option linter.unusedSimpArgs false
set_option linter.unusedVariables false
set_option maxRecDepth 100000

namespace Go.Gv
open Cod (enc dec)
variable {S S0 : Nat → Spc}
@[simp] abbrev F_gnot (N : Pst → Option (Pst × Cond)) (s : Pst) (_ : Unit) : Option (Pst × Cond) := N s
abbrev s_gnot (N : Pst → Option (Pst × Cond)) : Spc := psF a0 (enc (X := Cond)) (F_gnot N)
@[simp] abbrev F_gand (N : Pst → Option (Pst × Cond)) (s : Pst) (_ : Unit) : Option (Pst × Cond) := andG N s
abbrev s_gand (N : Pst → Option (Pst × Cond)) : Spc := psF a0 (enc (X := Cond)) (F_gand N)
@[simp] abbrev F_gor (N : Pst → Option (Pst × Cond)) (s : Pst) (_ : Unit) : Option (Pst × Cond) := orG N s
abbrev s_gor (N : Pst → Option (Pst × Cond)) : Spc := psF a0 (enc (X := Cond)) (F_gor N)
theorem finC {b : Nat} {post : Pst → Cond → Prop} {H : HMap} {o : Int} {n a v l : B} {f : Bool} {dk : D} (s : Pst) (ks : List Cond) (hd : FrzTo (fun i => if i = 0 then none else H i) dk (enc ks))
 (h0 : H 0 = some (.box b (cePst s))) (hq : post s ⟨o, n, a, v, l, f, ks⟩) :
 FinPS enc b post (.agg [.v (.int .i64 o), .v (.string n), .v (.string a), .v (.string v), .v (.string l), .v (.bool f), dk]) H := finPS s _ (frz_cond ks hd) h0 hq
theorem sgl_of {α : Type} {l : List α} {a : α} (h1 : l.length = 1) (ha : l[0]? = some a) : l = [a] := by
 match l, h1, ha with
 | [x], _, ha => simp at ha; rw [ha]
theorem w_g_and (N : Pst → Option (Pst × Cond)) (h1 : S f_r23_parser_eat = s_eat) (h2 : S f_r23_parser_not = s_gnot N) :
 WalkPF cc_r23_parser_and rs_r23_parser_and S a0 (enc (X := Cond)) (F_gand N) := by
 rintro b s ⟨⟩ hf
 have hf : ∃ r, andG N s = some r := hf
 have e := andG.eq_1 N s
 simp [cc_r23_parser_and, rs_r23_parser_and, h1, h2, -Bool.forall_bool, -Bool.exists_bool]
 intro b2
 refine pB hf e fun r e => ?_
 intro v0
 refine vc_while (X := Nat × Pst × Value × List Cond) [0, 2] [2] (fun z => andG N s = ((andLoopG N z.1 z.2.1 z.2.2.2).map fun q => (q.1, cOp 7 q.2)) ∧ z.2.2.2.length + z.1 ≤ 501) (fun z => [(3, .own 6 z.2.2.1)]) (fun z => [(0, .box b (cePst z.2.1)), (6, .row z.2.2.1 ty_Cond 7 (z.2.2.2.map enc))]) (fun z => z.1) (500, r.1, v0, [r.2]) ⟨e, by simp⟩ (by simp) (by simp) ?_
 clear e
 rintro ⟨k, s1, v, l⟩ ⟨e, hlen⟩
 simp only at e hlen
 obtain _ | k := k
 ·exact pNo hf (by rw [e, andLoopG]; rfl)
 rw [andLoopG, obind_map] at e
 simp [h1]
 refine pB hf e fun w e => ?_
 simp [-Bool.forall_bool, -Bool.exists_bool, h2]
 refine ⟨fun hw => ?_, fun hw => ?_⟩
 ·rw [if_pos hw, obind_map] at e
  exact pB hf e fun r2 e => ⟨by omega, by omega, fun v' => ⟨k, r2.1, v', l ++ [r2.2], ⟨e, by simp; omega⟩, ⟨rfl, .inl ⟨rfl, rfl, rfl, rfl, rfl⟩, .inl ⟨rfl, by simp⟩⟩, by omega⟩⟩
 ·rw [if_neg (by simp [hw]), Option.map_some] at e
  clear h1 h2
  refine fun _ => ⟨fun hl1 => ⟨by omega, fun a ha => ?_⟩, fun hne => ?_⟩
  ·rw [sgl_of (by omega) ha] at e
   exact finPS w.1 a (by simp) (by simp) e
  ·rw [cOp_n (l := l) (by omega)] at e
   exact finC w.1 l (fz_o ty_Cond (by simp)) (by simp) e
theorem w_g_or (N : Pst → Option (Pst × Cond)) (h1 : S f_r23_parser_eat = s_eat) (h2 : S f_r23_parser_and = s_gand N) :
 WalkPF cc_r23_parser_or rs_r23_parser_or S a0 (enc (X := Cond)) (F_gor N) := by
 rintro b s ⟨⟩ hf
 have hf : ∃ r, orG N s = some r := hf
 have e := orG.eq_1 N s
 simp [cc_r23_parser_or, rs_r23_parser_or, h1, h2, -Bool.forall_bool, -Bool.exists_bool]
 intro b2
 refine pB hf e fun r e => ?_
 intro v0
 refine vc_while (X := Nat × Pst × Value × List Cond) [0, 2] [2] (fun z => orG N s = ((orLoopG N z.1 z.2.1 z.2.2.2).map fun q => (q.1, cOp 8 q.2)) ∧ z.2.2.2.length + z.1 ≤ 501) (fun z => [(3, .own 6 z.2.2.1)]) (fun z => [(0, .box b (cePst z.2.1)), (6, .row z.2.2.1 ty_Cond 7 (z.2.2.2.map enc))]) (fun z => z.1) (500, r.1, v0, [r.2]) ⟨e, by simp⟩ (by simp) (by simp) ?_
 clear e
 rintro ⟨k, s1, v, l⟩ ⟨e, hlen⟩
 simp only at e hlen
 obtain _ | k := k
 ·exact pNo hf (by rw [e, orLoopG]; rfl)
 rw [orLoopG, obind_map] at e
 simp [h1]
 refine pB hf e fun w e => ?_
 simp [-Bool.forall_bool, -Bool.exists_bool, h2]
 refine ⟨fun hw => ?_, fun hw => ?_⟩
 ·rw [if_pos hw, obind_map] at e
  exact pB hf e fun r2 e => ⟨by omega, by omega, fun v' => ⟨k, r2.1, v', l ++ [r2.2], ⟨e, by simp; omega⟩, ⟨rfl, .inl ⟨rfl, rfl, rfl, rfl, rfl⟩, .inl ⟨rfl, by simp⟩⟩, by omega⟩⟩
 ·rw [if_neg (by simp [hw]), Option.map_some] at e
  clear h1 h2
  refine fun _ => ⟨fun hl1 => ⟨by omega, fun a ha => ?_⟩, fun hne => ?_⟩
  ·rw [sgl_of (by omega) ha] at e
   exact finPS w.1 a (by simp) (by simp) e
  ·rw [cOp_n (l := l) (by omega)] at e
   exact finC w.1 l (fz_o ty_Cond (by simp)) (by simp) e
theorem w_g_not (N : Pst → Option (Pst × Cond)) (h1 : S f_r23_parser_eat = s_eat) (h2 : S f_r23_parser_not = s_gnot N) (h3 : S f_r23_parser_or = s_gor N) (h4 : S f_r23_parser_want = s_gwant) (h5 : S f_r23_parser_fold = s_fold) (h6 : S f_r23_parser_is = s_is) (h7 : S f_r23_parser_now = s_now) :
 WalkPF cc_r23_parser_not rs_r23_parser_not S a0 (enc (X := Cond)) (F_gnot (notG N (orG N))) := by
 rintro b s ⟨⟩ hf
 have hf : ∃ r, notG N (orG N) s = some r := hf
 have e := notG.eq_1 N (orG N) s
 simp only [atomG, regionG, valueG, kindG, obind_map, omap_map, obind_bind, omap_bind] at e
 simp [cc_r23_parser_not, rs_r23_parser_not, h1, h2, h3, h4, h5, h6, h7, -Bool.forall_bool, -Bool.exists_bool]
 repeat' first
  | (refine pIs hf e (fun hr e => ?_) (fun e => ?_) <;> (try simp only [↓reduceIte, if_true, Bool.false_eq_true, if_false, forall_const, IsEmpty.forall_iff, reduceCtorEq, and_true, true_and] at e) <;> (try simp only [↓reduceIte, if_true, Bool.false_eq_true, if_false, forall_const, IsEmpty.forall_iff, reduceCtorEq, and_true, true_and]))
  | refine pNu hf e fun q hq e => ?_
  | refine pNuM hf e fun q hq e => ?_
  | refine pB hf e fun q e => ?_
  | refine pM hf e fun q e => ?_
  | refine pE hf e fun q e => ?_
  | (refine ⟨fun hc => ?_, fun hn => absurd (by assumption) hn⟩; (try first | rw [if_pos hc] at e | rw [if_neg hc] at e | rw [if_neg (Int.not_lt.2 hc)] at e | simp only [hc, decide_true, decide_false, ↓reduceIte, if_true, if_false, Bool.false_eq_true, ne_eq, not_true_eq_false, not_false_eq_true] at e); try simp only [Option.bind_some, Option.map_some, obind_map, obind_bind, omap_bind, omap_map, ↓reduceIte, Bool.false_eq_true, if_true, if_false] at e)
  | (refine ⟨fun hn => absurd hn (by assumption), fun hc => ?_⟩; (try first | rw [if_pos hc] at e | rw [if_neg hc] at e | rw [if_neg (Int.not_lt.2 hc)] at e | simp only [hc, decide_true, decide_false, ↓reduceIte, if_true, if_false, Bool.false_eq_true, ne_eq, not_true_eq_false, not_false_eq_true] at e); try simp only [Option.bind_some, Option.map_some, obind_map, obind_bind, omap_bind, omap_map, ↓reduceIte, Bool.false_eq_true, if_true, if_false] at e)
  | ((refine ⟨fun hc => ?_, fun hc => ?_⟩ <;> first | (cases hc; done) | rw [if_pos hc] at e | rw [if_neg hc] at e | rw [if_neg (Int.not_lt.2 hc)] at e | simp only [hc, decide_true, decide_false, ↓reduceIte, if_true, if_false, Bool.false_eq_true, ne_eq, not_true_eq_false, not_false_eq_true] at e) <;> try simp only [Option.bind_some, Option.map_some, obind_map, obind_bind, omap_bind, omap_map, ↓reduceIte, Bool.false_eq_true, if_true, if_false] at e)
  | exact finC _ [] (.nil _) (by simp) e
  | exact finC _ [⟨2, _, E0, _, E0, _, []⟩] (frz_one _ (frz_cond [] (.nil _))) (by simp) e
  | exact finC _ [_] (by simp) (by simp) e
  | exact finPS _ _ (by simp) (by simp) e
  | refine ⟨‹InR _ _›, ?_⟩
  | intro _
end Go.Gv

namespace Go.Gv
open Cod (enc dec)
variable {S S0 : Nat → Spc}
theorem pIf {β : Type} {F0 A : Option β} {c : Prop} [Decidable c] {K : Prop} (hf : ∃ r, F0 = some r) (e : F0 = if c then A else none) (h : c → F0 = A → K) : K := by
 by_cases hc : c
 ·rw [if_pos hc] at e; exact h hc e
 ·rw [if_neg hc] at e; exact pNo hf e
@[simp] abbrev F_gitem (A : Pst → Option (Pst × Pat)) (O : Pst → Option (Pst × Cond)) (s : Pst) (_ : Unit) : Option (Pst × Pat) := itemG A O s
abbrev s_gitem (A : Pst → Option (Pst × Pat)) (O : Pst → Option (Pst × Cond)) : Spc := psF a0 (enc (X := Pat)) (F_gitem A O)
@[simp] abbrev F_grep (A : Pst → Option (Pst × Pat)) (O : Pst → Option (Pst × Cond)) (s : Pst) (_ : Unit) : Option (Pst × Pat) := repG A O s
abbrev s_grep (A : Pst → Option (Pst × Pat)) (O : Pst → Option (Pst × Cond)) : Spc := psF a0 (enc (X := Pat)) (F_grep A O)
@[simp] abbrev F_gseq (A : Pst → Option (Pst × Pat)) (O : Pst → Option (Pst × Cond)) (s : Pst) (_ : Unit) : Option (Pst × Pat) := seqG A O s
abbrev s_gseq (A : Pst → Option (Pst × Pat)) (O : Pst → Option (Pst × Cond)) : Spc := psF a0 (enc (X := Pat)) (F_gseq A O)
@[simp] abbrev F_galt (A : Pst → Option (Pst × Pat)) (s : Pst) (_ : Unit) : Option (Pst × Pat) := A s
abbrev s_galt (A : Pst → Option (Pst × Pat)) : Spc := psF a0 (enc (X := Pat)) (F_galt A)
@[simp] abbrev F_gcond (O : Pst → Option (Pst × Cond)) (s : Pst) (_ : Unit) : Option (Pst × Cond) := O s
abbrev s_gcond (O : Pst → Option (Pst × Cond)) : Spc := psF a0 (enc (X := Cond)) (F_gcond O)
theorem finPc {b : Nat} {post : Pst → Pat → Prop} {H : HMap} {op : Int} {lb rg : B} {d : D} {mn mx : Int} (s : Pst) (x : Cond) (ks : List Pat) (hd : FrzTo (fun i => if i = 0 then none else H i) d (enc ks))
 (h0 : H 0 = some (.box b (cePst s))) (hq : post s ⟨op, x, lb, rg, mn, mx, ks⟩) :
 FinPS enc b post (.agg [.v (.int .i64 op), .v (.int .i64 x.op), .v (.string x.name), .v (.string x.arg), .v (.string x.val), .v (.string x.lab), .v (.bool x.fold), .list 7 (x.kids.map enc), .v (.string lb), .v (.string rg), .v (.int .i64 mn), .v (.int .i64 mx), d]) H :=
 by cases x; exact finP s _ ks (by simp) hd h0 hq
theorem w_g_item (A : Pst → Option (Pst × Pat)) (O : Pst → Option (Pst × Cond)) (h1 : S f_r23_parser_eat = s_eat) (h2 : S f_r23_parser_alt = s_galt A) (h3 : S f_r23_parser_want = s_gwant) (h4 : S f_r23_parser_now = s_now) (h5 : S f_r23_parser_fold = s_fold) (h6 : S f_r23_parser_or = s_gcond O) :
 WalkPF cc_r23_parser_item rs_r23_parser_item S a0 (enc (X := Pat)) (F_gitem A O) := by
 rintro b s ⟨⟩ hf
 have hf : ∃ r, itemG A O s = some r := hf
 have e := itemG.eq_1 A O s
 simp only [anchorG, tokenG, valueG, kindG, obind_map, omap_map, obind_bind, omap_bind] at e
 simp [cc_r23_parser_item, rs_r23_parser_item, h1, h2, h3, h4, h5, h6, -Bool.forall_bool, -Bool.exists_bool]
 repeat' first
  | (refine pIs hf e (fun hr e => ?_) (fun e => ?_) <;> (try simp only [↓reduceIte, if_true, Bool.false_eq_true, if_false, forall_const, IsEmpty.forall_iff, reduceCtorEq, and_true, true_and] at e) <;> (try simp only [↓reduceIte, if_true, Bool.false_eq_true, if_false, forall_const, IsEmpty.forall_iff, reduceCtorEq, and_true, true_and]))
  | refine pNu hf e fun q hq e => ?_
  | refine pNuM hf e fun q hq e => ?_
  | refine pB hf e fun q e => ?_
  | refine pM hf e fun q e => ?_
  | refine pE hf e fun q e => ?_
  | (refine ⟨fun hc => ?_, fun hn => absurd (by assumption) hn⟩; (try first | rw [if_pos hc] at e | rw [if_neg hc] at e | rw [if_neg (Int.not_lt.2 hc)] at e | simp only [hc, decide_true, decide_false, ↓reduceIte, if_true, if_false, Bool.false_eq_true, ne_eq, not_true_eq_false, not_false_eq_true] at e); try simp only [Option.bind_some, Option.map_some, obind_map, obind_bind, omap_bind, omap_map, ↓reduceIte, Bool.false_eq_true, if_true, if_false] at e)
  | (refine ⟨fun hn => absurd hn (by assumption), fun hc => ?_⟩; (try first | rw [if_pos hc] at e | rw [if_neg hc] at e | rw [if_neg (Int.not_lt.2 hc)] at e | simp only [hc, decide_true, decide_false, ↓reduceIte, if_true, if_false, Bool.false_eq_true, ne_eq, not_true_eq_false, not_false_eq_true] at e); try simp only [Option.bind_some, Option.map_some, obind_map, obind_bind, omap_bind, omap_map, ↓reduceIte, Bool.false_eq_true, if_true, if_false] at e)
  | ((refine ⟨fun hc => ?_, fun hc => ?_⟩ <;> first | (cases hc; done) | rw [if_pos hc] at e | rw [if_neg hc] at e | rw [if_neg (Int.not_lt.2 hc)] at e | simp only [hc, decide_true, decide_false, ↓reduceIte, if_true, if_false, Bool.false_eq_true, ne_eq, not_true_eq_false, not_false_eq_true] at e) <;> try simp only [Option.bind_some, Option.map_some, obind_map, obind_bind, omap_bind, omap_map, ↓reduceIte, Bool.false_eq_true, if_true, if_false] at e)
  | (refine pIf hf e fun hb e => ?_)
  | refine ⟨by simp only [InR]; omega, ?_⟩
  | exact finP _ [] [] (.nil _) (.nil _) (by simp) e
  | exact finPc _ _ [] (.nil _) (by simp) e
  | exact finPS _ _ (by simp) (by simp) e
  | refine ⟨‹InR _ _›, ?_⟩
  | intro _
theorem w_g_rep (A : Pst → Option (Pst × Pat)) (O : Pst → Option (Pst × Cond)) (h1 : S f_r23_parser_now = s_now) (h2 : S f_r23_parser_eat = s_eat) (h3 : S f_r23_parser_want = s_gwant) (h4 : S f_r23_parser_number = s_gnumber) (h5 : S f_r23_parser_item = s_gitem A O) (h6 : S f_r23_parser_error = s_error) :
 WalkPF cc_r23_parser_rep rs_r23_parser_rep S a0 (enc (X := Pat)) (F_grep A O) := by
 rintro b s ⟨⟩ hf
 have hf : ∃ r, repG A O s = some r := hf
 have e := repG.eq_1 A O s
 simp [cc_r23_parser_rep, rs_r23_parser_rep, h1, h2, h3, h4, h5, h6, -Bool.forall_bool, -Bool.exists_bool]
 intro b2
 refine pB hf e fun r e => ?_
 intro b3
 refine vc_whileG (X := Nat × Pst × Pat) [0, 2, 3] [2] [] [] [] [] (fun z => repG A O s = repLoopG z.1 z.2.1 z.2.2) (fun _ => []) (fun z => [(0, .box b (cePst z.2.1)), (3, .box b3 (enc z.2.2).cells)]) (fun z => z.1) (500, r.1, r.2) [0, 3] (fun _ => rfl) (by decide) (by decide) e (by simp) (by simp) ?_
 clear e
 rintro ⟨k, s1, x⟩ e
 simp only at e
 obtain _ | k := k
 ·exact pNo hf (by rw [e, repLoopG])
 rw [repLoopG] at e
 simp only [sufG, kindG, obind_map, omap_map, obind_bind, omap_bind] at e
 simp [h1, h2, h3, h4, h6, -Bool.forall_bool, -Bool.exists_bool]
 repeat' first
  | (refine pIs hf e (fun hr e => ?_) (fun e => ?_) <;> (try simp only [↓reduceIte, if_true, Bool.false_eq_true, if_false, forall_const, IsEmpty.forall_iff, reduceCtorEq, and_true, true_and] at e) <;> (try simp only [↓reduceIte, if_true, Bool.false_eq_true, if_false, forall_const, IsEmpty.forall_iff, reduceCtorEq, and_true, true_and]))
  | refine pNu hf e fun q hq e => ?_
  | refine pNuM hf e fun q hq e => ?_
  | refine pB hf e fun q e => ?_
  | refine pM hf e fun q e => ?_
  | refine pE hf e fun q e => ?_
  | (refine ⟨fun hc => ?_, fun hn => absurd (by assumption) hn⟩; (try first | rw [if_pos hc] at e | rw [if_neg hc] at e | rw [if_neg (Int.not_lt.2 hc)] at e | simp only [hc, decide_true, decide_false, ↓reduceIte, if_true, if_false, Bool.false_eq_true, ne_eq, not_true_eq_false, not_false_eq_true] at e); try simp only [Option.bind_some, Option.map_some, obind_map, obind_bind, omap_bind, omap_map, ↓reduceIte, Bool.false_eq_true, if_true, if_false] at e)
  | (refine ⟨fun hn => absurd hn (by assumption), fun hc => ?_⟩; (try first | rw [if_pos hc] at e | rw [if_neg hc] at e | rw [if_neg (Int.not_lt.2 hc)] at e | simp only [hc, decide_true, decide_false, ↓reduceIte, if_true, if_false, Bool.false_eq_true, ne_eq, not_true_eq_false, not_false_eq_true] at e); try simp only [Option.bind_some, Option.map_some, obind_map, obind_bind, omap_bind, omap_map, ↓reduceIte, Bool.false_eq_true, if_true, if_false] at e)
  | ((refine ⟨fun hc => ?_, fun hc => ?_⟩ <;> first | (cases hc; done) | rw [if_pos hc] at e | rw [if_neg hc] at e | rw [if_neg (Int.not_lt.2 hc)] at e | simp only [hc, decide_true, decide_false, ↓reduceIte, if_true, if_false, Bool.false_eq_true, ne_eq, not_true_eq_false, not_false_eq_true] at e) <;> try simp only [Option.bind_some, Option.map_some, obind_map, obind_bind, omap_bind, omap_map, ↓reduceIte, Bool.false_eq_true, if_true, if_false] at e)
  | (refine ⟨k, _, _, e, ⟨.inl (.inl ⟨rfl, rfl, rfl, rfl, rfl⟩), .inl ?_⟩, Nat.lt_succ_self _⟩; simp [Cond0, E0]; done)
  | exact finPS _ _ (by simp) (by simp) e
  | refine ⟨‹InR _ _›, ?_⟩
  | intro _
theorem w_g_seq (A : Pst → Option (Pst × Pat)) (O : Pst → Option (Pst × Cond)) (h1 : S f_r23_parser_begins = s_gbegins) (h2 : S f_r23_parser_rep = s_grep A O) :
 WalkPF cc_r23_parser_seq rs_r23_parser_seq S a0 (enc (X := Pat)) (F_gseq A O) := by
 rintro b s ⟨⟩ hf
 have hf : ∃ r, seqG A O s = some r := hf
 have e := seqG.eq_1 A O s
 simp [cc_r23_parser_seq, rs_r23_parser_seq, h1, h2, -Bool.forall_bool, -Bool.exists_bool]
 intro b2
 refine pB hf e fun r e => ?_
 intro v0
 refine vc_while (X := Nat × Pst × Value × List Pat) [0, 2] [2] (fun z => seqG A O s = ((seqLoopG A O z.1 z.2.1 z.2.2.2).map fun q => (q.1, oneOr 4 q.2)) ∧ z.2.2.2.length + z.1 ≤ 501) (fun z => [(3, .own 6 z.2.2.1)]) (fun z => [(0, .box b (cePst z.2.1)), (6, .row z.2.2.1 ty_Pattern 13 (z.2.2.2.map enc))]) (fun z => z.1) (500, r.1, v0, [r.2]) ⟨e, by simp⟩ (by simp) (by simp) ?_
 clear e
 rintro ⟨k, s1, v, l⟩ ⟨e, hlen⟩
 simp only at e hlen
 obtain _ | k := k
 ·exact pNo hf (by rw [e, seqLoopG]; rfl)
 rw [seqLoopG, obind_map] at e
 simp [h1]
 refine pB hf e fun w e => ?_
 simp [-Bool.forall_bool, -Bool.exists_bool, h2]
 refine ⟨fun hw => ?_, fun hw => ?_⟩
 ·rw [if_pos hw, obind_map] at e
  exact pB hf e fun r2 e => ⟨by omega, by omega, fun v' => ⟨k, r2.1, v', l ++ [r2.2], ⟨e, by simp; omega⟩, ⟨rfl, .inl ⟨rfl, rfl, rfl, rfl, rfl⟩, .inl ⟨rfl, by simp⟩⟩, by omega⟩⟩
 ·rw [if_neg (by simp [hw]), Option.map_some] at e
  clear h1 h2
  refine fun _ => ⟨fun hl1 => ⟨by omega, fun a ha => ?_⟩, fun hne => ?_⟩
  ·rw [sgl_of (by omega) ha] at e
   exact finPS s1 a (by simp) (by simp) e
  ·rw [oneOr_n (l := l) (by omega)] at e
   exact finP s1 [] l (.nil _) (fz_o ty_Pattern (by simp)) (by simp) e
theorem w_g_alt (A : Pst → Option (Pst × Pat)) (O : Pst → Option (Pst × Cond)) (h1 : S f_r23_parser_eat = s_eat) (h2 : S f_r23_parser_seq = s_gseq A O) :
 WalkPF cc_r23_parser_alt rs_r23_parser_alt S a0 (enc (X := Pat)) (F_galt (altG A O)) := by
 rintro b s ⟨⟩ hf
 have hf : ∃ r, altG A O s = some r := hf
 have e := altG.eq_1 A O s
 simp [cc_r23_parser_alt, rs_r23_parser_alt, h1, h2, -Bool.forall_bool, -Bool.exists_bool]
 intro b2
 refine pB hf e fun r e => ?_
 intro v0
 refine vc_while (X := Nat × Pst × Value × List Pat) [0, 2] [2] (fun z => altG A O s = ((altLoopG A O z.1 z.2.1 z.2.2.2).map fun q => (q.1, oneOr 5 q.2)) ∧ z.2.2.2.length + z.1 ≤ 501) (fun z => [(3, .own 6 z.2.2.1)]) (fun z => [(0, .box b (cePst z.2.1)), (6, .row z.2.2.1 ty_Pattern 13 (z.2.2.2.map enc))]) (fun z => z.1) (500, r.1, v0, [r.2]) ⟨e, by simp⟩ (by simp) (by simp) ?_
 clear e
 rintro ⟨k, s1, v, l⟩ ⟨e, hlen⟩
 simp only at e hlen
 obtain _ | k := k
 ·exact pNo hf (by rw [e, altLoopG]; rfl)
 rw [altLoopG, obind_map] at e
 simp [h1]
 refine pB hf e fun w e => ?_
 simp [-Bool.forall_bool, -Bool.exists_bool, h2]
 refine ⟨fun hw => ?_, fun hw => ?_⟩
 ·rw [if_pos hw, obind_map] at e
  exact pB hf e fun r2 e => ⟨by omega, by omega, fun v' => ⟨k, r2.1, v', l ++ [r2.2], ⟨e, by simp; omega⟩, ⟨rfl, .inl ⟨rfl, rfl, rfl, rfl, rfl⟩, .inl ⟨rfl, by simp⟩⟩, by omega⟩⟩
 ·rw [if_neg (by simp [hw]), Option.map_some] at e
  clear h1 h2
  refine fun _ => ⟨fun hl1 => ⟨by omega, fun a ha => ?_⟩, fun hne => ?_⟩
  ·rw [sgl_of (by omega) ha] at e
   exact finPS w.1 a (by simp) (by simp) e
  ·rw [oneOr_n (l := l) (by omega)] at e
   exact finP w.1 [] l (.nil _) (fz_o ty_Pattern (by simp)) (by simp) e
end Go.Gv

namespace Go.Gv
open Cod (enc dec)
variable {S S0 : Nat → Spc}
theorem finG {b : Nat} {post : Pst → Glob → Prop} {H : HMap} {o mn mx : Int} {a b' n g v : B} {fo : Bool} {da dk : D} (s : Pst) (al : List B) (ks : List Glob) (ha : FrzTo (fun i => if i = 0 then none else H i) da (enc al)) (hd : FrzTo (fun i => if i = 0 then none else H i) dk (enc ks))
 (h0 : H 0 = some (.box b (cePst s))) (hq : post s ⟨o, a, b', n, g, v, fo, mn, mx, al, ks⟩) :
 FinPS enc b post (.agg [.v (.int .i64 o), .v (.string a), .v (.string b'), .v (.string n), .v (.string g), .v (.string v), .v (.bool fo), .v (.int .i64 mn), .v (.int .i64 mx), da, dk]) H := finPS s _ (frz_glob al ks ha hd) h0 hq
@[simp] abbrev F_hnot (N : Pst → Option (Pst × Glob)) (s : Pst) (_ : Unit) : Option (Pst × Glob) := N s
abbrev s_hnot (N : Pst → Option (Pst × Glob)) : Spc := psF a0 (enc (X := Glob)) (F_hnot N)
@[simp] abbrev F_hand (N : Pst → Option (Pst × Glob)) (s : Pst) (_ : Unit) : Option (Pst × Glob) := gandG N s
abbrev s_hand (N : Pst → Option (Pst × Glob)) : Spc := psF a0 (enc (X := Glob)) (F_hand N)
@[simp] abbrev F_hor (N : Pst → Option (Pst × Glob)) (s : Pst) (_ : Unit) : Option (Pst × Glob) := gorG N s
abbrev s_hor (N : Pst → Option (Pst × Glob)) : Spc := psF a0 (enc (X := Glob)) (F_hor N)
@[simp] abbrev F_gsigned (s : Pst) (_ : Unit) : Option (Pst × Int) := signedG s
abbrev s_gsigned : Spc := psF a0 (enc (X := Int)) F_gsigned
@[simp] abbrev F_gcall (s : Pst) (op : Int) : Option (Pst × Glob) := callG s op
abbrev s_gcall : Spc := psF (a1 Int) (enc (X := Glob)) F_gcall
def functionsL : List B := [E0, ⟨#[98, 111, 117, 110, 100]⟩, E0, E0, ⟨#[100, 105, 115, 116, 97, 110, 99, 101]⟩, ⟨#[115, 97, 109, 101]⟩, ⟨#[104, 101, 97, 100]⟩, ⟨#[97, 110, 99, 101, 115, 116, 111, 114]⟩, ⟨#[112, 97, 116, 104]⟩, ⟨#[110, 111, 100, 101]⟩, ⟨#[100, 101, 112, 116, 104]⟩]
abbrev s_gfunctions : Spc := spc a0 (fun _ => True) (enc (X := List B)) fun _ y => y = functionsL
theorem w_g_functions : Walk cc_r23_Functions rs_r23_Functions S a0 (fun _ => True) (enc (X := List B)) fun _ y => y = functionsL := by
 rintro x -
 simp [cc_r23_Functions, rs_r23_Functions]
 exact fin_of (Y := List B) functionsL (.same _) rfl
/-- the last of the first k functions that bears a name -/
def opK (name : B) : Nat → Int
 | 0 => 0
 | k + 1 => if name ≠ E0 ∧ functionsL[k]? = some name then k else opK name k
theorem opK_eq (name : B) : opK name 11 = funcOp name := by
 have g : ∀ {x : B}, ¬ name = x → ¬ x = name := fun h e => h e.symm
 by_cases n1 : name = ⟨#[98, 111, 117, 110, 100]⟩
 ·subst n1; rfl
 by_cases n2 : name = ⟨#[100, 105, 115, 116, 97, 110, 99, 101]⟩
 ·subst n2; rfl
 by_cases n3 : name = ⟨#[115, 97, 109, 101]⟩
 ·subst n3; rfl
 by_cases n4 : name = ⟨#[104, 101, 97, 100]⟩
 ·subst n4; rfl
 by_cases n5 : name = ⟨#[97, 110, 99, 101, 115, 116, 111, 114]⟩
 ·subst n5; rfl
 by_cases n6 : name = ⟨#[112, 97, 116, 104]⟩
 ·subst n6; rfl
 by_cases n7 : name = ⟨#[110, 111, 100, 101]⟩
 ·subst n7; rfl
 by_cases n8 : name = ⟨#[100, 101, 112, 116, 104]⟩
 ·subst n8; rfl
 by_cases n0 : name = E0
 ·subst n0; rfl
 simp [funcOp, funcsL, List.find?, opK, functionsL, g n0, n0, g n1, g n2, g n3, g n4, g n5, g n6, g n7, g n8]
theorem w_g_gand (N : Pst → Option (Pst × Glob)) (h1 : S f_r23_parser_eat = s_eat) (h2 : S f_r23_parser_gnot = s_hnot N) :
 WalkPF cc_r23_parser_gand rs_r23_parser_gand S a0 (enc (X := Glob)) (F_hand N) := by
 rintro b s ⟨⟩ hf
 have hf : ∃ r, gandG N s = some r := hf
 have e := gandG.eq_1 N s
 simp [cc_r23_parser_gand, rs_r23_parser_gand, h1, h2, -Bool.forall_bool, -Bool.exists_bool]
 intro b2
 refine pB hf e fun r e => ?_
 intro v0
 refine vc_while (X := Nat × Pst × Value × List Glob) [0, 2] [2] (fun z => gandG N s = ((gandLoopG N z.1 z.2.1 z.2.2.2).map fun q => (q.1, gOp 12 q.2)) ∧ z.2.2.2.length + z.1 ≤ 501) (fun z => [(3, .own 6 z.2.2.1)]) (fun z => [(0, .box b (cePst z.2.1)), (6, .row z.2.2.1 ty_Constraint 11 (z.2.2.2.map enc))]) (fun z => z.1) (500, r.1, v0, [r.2]) ⟨e, by simp⟩ (by simp) (by simp) ?_
 clear e
 rintro ⟨k, s1, v, l⟩ ⟨e, hlen⟩
 simp only at e hlen
 obtain _ | k := k
 ·exact pNo hf (by rw [e, gandLoopG]; rfl)
 rw [gandLoopG, obind_map] at e
 simp [h1]
 refine pB hf e fun w e => ?_
 simp [-Bool.forall_bool, -Bool.exists_bool, h2]
 refine ⟨fun hw => ?_, fun hw => ?_⟩
 ·rw [if_pos hw, obind_map] at e
  exact pB hf e fun r2 e => ⟨by omega, by omega, fun v' => ⟨k, r2.1, v', l ++ [r2.2], ⟨e, by simp; omega⟩, ⟨rfl, .inl ⟨rfl, rfl, rfl, rfl, rfl⟩, .inl ⟨rfl, by simp⟩⟩, by omega⟩⟩
 ·rw [if_neg (by simp [hw]), Option.map_some] at e
  clear h1 h2
  refine fun _ => ⟨fun hl1 => ⟨by omega, fun a ha => ?_⟩, fun hne => ?_⟩
  ·rw [sgl_of (by omega) ha] at e
   exact finPS w.1 a (by simp) (by simp) e
  ·rw [gOp_n (l := l) (by omega)] at e
   exact finG w.1 [] l (.nil _) (fz_o ty_Constraint (by simp)) (by simp) e
theorem w_g_gor (N : Pst → Option (Pst × Glob)) (h1 : S f_r23_parser_eat = s_eat) (h2 : S f_r23_parser_gand = s_hand N) :
 WalkPF cc_r23_parser_gor rs_r23_parser_gor S a0 (enc (X := Glob)) (F_hor N) := by
 rintro b s ⟨⟩ hf
 have hf : ∃ r, gorG N s = some r := hf
 have e := gorG.eq_1 N s
 simp [cc_r23_parser_gor, rs_r23_parser_gor, h1, h2, -Bool.forall_bool, -Bool.exists_bool]
 intro b2
 refine pB hf e fun r e => ?_
 intro v0
 refine vc_while (X := Nat × Pst × Value × List Glob) [0, 2] [2] (fun z => gorG N s = ((gorLoopG N z.1 z.2.1 z.2.2.2).map fun q => (q.1, gOp 13 q.2)) ∧ z.2.2.2.length + z.1 ≤ 501) (fun z => [(3, .own 6 z.2.2.1)]) (fun z => [(0, .box b (cePst z.2.1)), (6, .row z.2.2.1 ty_Constraint 11 (z.2.2.2.map enc))]) (fun z => z.1) (500, r.1, v0, [r.2]) ⟨e, by simp⟩ (by simp) (by simp) ?_
 clear e
 rintro ⟨k, s1, v, l⟩ ⟨e, hlen⟩
 simp only at e hlen
 obtain _ | k := k
 ·exact pNo hf (by rw [e, gorLoopG]; rfl)
 rw [gorLoopG, obind_map] at e
 simp [h1]
 refine pB hf e fun w e => ?_
 simp [-Bool.forall_bool, -Bool.exists_bool, h2]
 refine ⟨fun hw => ?_, fun hw => ?_⟩
 ·rw [if_pos hw, obind_map] at e
  exact pB hf e fun r2 e => ⟨by omega, by omega, fun v' => ⟨k, r2.1, v', l ++ [r2.2], ⟨e, by simp; omega⟩, ⟨rfl, .inl ⟨rfl, rfl, rfl, rfl, rfl⟩, .inl ⟨rfl, by simp⟩⟩, by omega⟩⟩
 ·rw [if_neg (by simp [hw]), Option.map_some] at e
  clear h1 h2
  refine fun _ => ⟨fun hl1 => ⟨by omega, fun a ha => ?_⟩, fun hne => ?_⟩
  ·rw [sgl_of (by omega) ha] at e
   exact finPS w.1 a (by simp) (by simp) e
  ·rw [gOp_n (l := l) (by omega)] at e
   exact finG w.1 [] l (.nil _) (fz_o ty_Constraint (by simp)) (by simp) e
theorem w_g_signed (h1 : S f_r23_parser_eat = s_eat) (h2 : S f_r23_parser_now = s_now) (h3 : S f_r23_parser_number = s_gnumber) :
 WalkPF cc_r23_parser_signed rs_r23_parser_signed S a0 (enc (X := Int)) (F_gsigned) := by
 rintro b s ⟨⟩ hf
 have hf : ∃ r, signedG s = some r := hf
 have e := signedG.eq_1 s
 simp only [bigG, kindG, obind_map, omap_map, obind_bind, omap_bind] at e
 simp [cc_r23_parser_signed, rs_r23_parser_signed, h1, h2, h3, -Bool.forall_bool, -Bool.exists_bool]
 repeat' first
  | (refine pIs hf e (fun hr e => ?_) (fun e => ?_) <;> (try simp only [↓reduceIte, if_true, Bool.false_eq_true, if_false, forall_const, IsEmpty.forall_iff, reduceCtorEq, and_true, true_and] at e) <;> (try simp only [↓reduceIte, if_true, Bool.false_eq_true, if_false, forall_const, IsEmpty.forall_iff, reduceCtorEq, and_true, true_and]))
  | refine pNu hf e fun q hq e => ?_
  | refine pNuM hf e fun q hq e => ?_
  | refine pB hf e fun q e => ?_
  | refine pM hf e fun q e => ?_
  | refine pE hf e fun q e => ?_
  | (refine ⟨fun hc => ?_, fun hn => absurd (by assumption) hn⟩; (try first | rw [if_pos hc] at e | rw [if_neg hc] at e | rw [if_neg (Int.not_lt.2 hc)] at e | simp only [hc, decide_true, decide_false, ↓reduceIte, if_true, if_false, Bool.false_eq_true, ne_eq, not_true_eq_false, not_false_eq_true] at e); try simp only [Option.bind_some, Option.map_some, obind_map, obind_bind, omap_bind, omap_map, ↓reduceIte, Bool.false_eq_true, if_true, if_false] at e)
  | (refine ⟨fun hn => absurd hn (by assumption), fun hc => ?_⟩; (try first | rw [if_pos hc] at e | rw [if_neg hc] at e | rw [if_neg (Int.not_lt.2 hc)] at e | simp only [hc, decide_true, decide_false, ↓reduceIte, if_true, if_false, Bool.false_eq_true, ne_eq, not_true_eq_false, not_false_eq_true] at e); try simp only [Option.bind_some, Option.map_some, obind_map, obind_bind, omap_bind, omap_map, ↓reduceIte, Bool.false_eq_true, if_true, if_false] at e)
  | ((refine ⟨fun hc => ?_, fun hc => ?_⟩ <;> first | (cases hc; done) | rw [if_pos hc] at e | rw [if_neg hc] at e | rw [if_neg (Int.not_lt.2 hc)] at e | simp only [hc, decide_true, decide_false, ↓reduceIte, if_true, if_false, Bool.false_eq_true, ne_eq, not_true_eq_false, not_false_eq_true] at e) <;> try simp only [Option.bind_some, Option.map_some, obind_map, obind_bind, omap_bind, omap_map, ↓reduceIte, Bool.false_eq_true, if_true, if_false] at e)
  | exact finPS _ _ (by simp) (by simp) e
  | refine ⟨by simp only [InR]; omega, ?_⟩
  | refine ⟨‹InR _ _›, ?_⟩
  | intro _
theorem w_g_gnot (N : Pst → Option (Pst × Glob)) (h1 : S f_r23_parser_eat = s_eat) (h2 : S f_r23_parser_gnot = s_hnot N) (h3 : S f_r23_parser_gor = s_hor N) (h4 : S f_r23_parser_want = s_gwant) (h5 : S f_r23_Functions = s_gfunctions) (h6 : S f_r23_parser_call = s_gcall) (h7 : S f_r23_parser_now = s_now) (h8 : S f_r23_parser_fold = s_fold) :
 WalkPF cc_r23_parser_gnot rs_r23_parser_gnot S a0 (enc (X := Glob)) (F_hnot (gnotG N (gorG N))) := by
 rintro b s ⟨⟩ hf
 have hf : ∃ r, gnotG N (gorG N) s = some r := hf
 have e := gnotG.eq_1 N (gorG N) s
 simp [cc_r23_parser_gnot, rs_r23_parser_gnot, h1, h2, h3, h4, h5, h6, h7, h8, -Bool.forall_bool, -Bool.exists_bool]
 intro b2
 refine pB hf e fun w e => ?_
 refine ⟨fun hw => ?_, fun hw => ?_⟩
 ·rw [if_pos hw] at e
  refine pM hf e fun q e => ?_
  exact finG _ [] [_] (.nil _) (by simp) (by simp) e
 rw [if_neg (by simp [hw])] at e
 refine pB hf e fun u e => ?_
 refine ⟨fun hu => ?_, fun hu => ?_⟩
 ·rw [if_pos hu] at e
  refine pB hf e fun x e => ?_
  try intro b3
  refine pM hf e fun z e => ?_
  exact finPS _ _ (by simp) (by simp) e
 rw [if_neg (by simp [hu])] at e
 refine pB hf e fun q e => ?_
 rintro -
 refine vc_range (X := Int) [0, 2, 4, 26] [0, 2] functionsL.length (fun k x => x = opK q.2 k) (fun x => [(5, enc x)]) (fun _ => []) 0 (by simp) (by simp) (by decide) (by simp) (by simp) rfl (by simp) (by simp) ?_ ?_
 ·rintro k x hk hP
  obtain ⟨t, ht⟩ := at_lt hk
  obtain ⟨_, hgt⟩ := List.getElem?_eq_some_iff.1 ht
  simp [hk, ht, hgt]
  have e1 : opK q.2 (k + 1) = if q.2 ≠ E0 ∧ t = q.2 then (k : Int) else opK q.2 k := by rw [opK, ht]; simp
  refine ⟨fun n0 => ⟨fun h1 => by rw [e1, if_pos ⟨h1 ▸ n0, h1⟩], fun h1 => by rw [e1, if_neg (fun h => h1 h.2)]; exact hP⟩, fun n0 => by rw [e1, if_neg (fun h => h.1 (h.2 ▸ n0))]; exact hP⟩
 ·rintro x hP
  have hP : x = funcOp q.2 := hP.trans (opK_eq _)
  subst hP
  simp only [gatomG, kindG, obind_map, omap_map, obind_bind, omap_bind] at e
  simp [h1, h4, h6, h7, h8, -Bool.forall_bool, -Bool.exists_bool]
  repeat' first
   | (refine pIs hf e (fun hr e => ?_) (fun e => ?_) <;> (try simp only [↓reduceIte, if_true, Bool.false_eq_true, if_false, forall_const, IsEmpty.forall_iff, reduceCtorEq, and_true, true_and] at e) <;> (try simp only [↓reduceIte, if_true, Bool.false_eq_true, if_false, forall_const, IsEmpty.forall_iff, reduceCtorEq, and_true, true_and]))
   | refine pNu hf e fun q hq e => ?_
   | refine pNuM hf e fun q hq e => ?_
   | refine pB hf e fun q e => ?_
   | refine pM hf e fun q e => ?_
   | refine pE hf e fun q e => ?_
   | (refine ⟨fun hc => ?_, fun hn => absurd (by assumption) hn⟩; (try first | rw [if_pos hc] at e | rw [if_neg hc] at e | rw [if_neg (Int.not_lt.2 hc)] at e | simp only [hc, decide_true, decide_false, ↓reduceIte, if_true, if_false, Bool.false_eq_true, ne_eq, not_true_eq_false, not_false_eq_true] at e); try simp only [Option.bind_some, Option.map_some, obind_map, obind_bind, omap_bind, omap_map, ↓reduceIte, Bool.false_eq_true, if_true, if_false] at e)
   | (refine ⟨fun hn => absurd hn (by assumption), fun hc => ?_⟩; (try first | rw [if_pos hc] at e | rw [if_neg hc] at e | rw [if_neg (Int.not_lt.2 hc)] at e | simp only [hc, decide_true, decide_false, ↓reduceIte, if_true, if_false, Bool.false_eq_true, ne_eq, not_true_eq_false, not_false_eq_true] at e); try simp only [Option.bind_some, Option.map_some, obind_map, obind_bind, omap_bind, omap_map, ↓reduceIte, Bool.false_eq_true, if_true, if_false] at e)
   | ((refine ⟨fun hc => ?_, fun hc => ?_⟩ <;> first | (cases hc; done) | rw [if_pos hc] at e | rw [if_neg hc] at e | rw [if_neg (Int.not_lt.2 hc)] at e | simp only [hc, decide_true, decide_false, ↓reduceIte, if_true, if_false, Bool.false_eq_true, ne_eq, not_true_eq_false, not_false_eq_true] at e) <;> try simp only [Option.bind_some, Option.map_some, obind_map, obind_bind, omap_bind, omap_map, ↓reduceIte, Bool.false_eq_true, if_true, if_false] at e)
   | exact finG _ [] [] (.nil _) (.nil _) (by simp) e
   | exact finG _ [] [_] (.nil _) (by simp) (by simp) e
   | exact finPS _ _ (by simp) (by simp) e
   | refine ⟨‹InR _ _›, ?_⟩
   | intro _
theorem w_g_call (h1 : S f_r23_parser_eat = s_eat) (h2 : S f_r23_parser_want = s_gwant) (h3 : S f_r23_parser_now = s_now) (h4 : S f_r23_parser_number = s_gnumber) (h5 : S f_r23_parser_signed = s_gsigned) :
 WalkPF cc_r23_parser_call rs_r23_parser_call S (a1 Int) (enc (X := Glob)) (F_gcall) := by
 rintro b s i hf
 have hf : ∃ r, callG s i = some r := hf
 have e := callG.eq_1 s i
 simp [cc_r23_parser_call, rs_r23_parser_call, h1, h2, h3, h4, h5, -Bool.forall_bool, -Bool.exists_bool]
 intro b4
 refine pB hf e fun a e => ?_
 intro b5
 refine vc_mid (X := Pst × B) [0, 1, 4, 5] [4] (fun z => callG s i = (restG z.1 i a.2 z.2).bind fun x => (wantG x.1 111 ⟨#[41]⟩).map fun w => (w.1, x.2)) (fun _ => []) (fun z => [(0, .box b (cePst z.1)), (5, .box b5 [.v (.int .i64 i), .v (.string a.2), .v (.string z.2), .v (.string ⟨#[]⟩), .v (.string ⟨#[]⟩), .v (.string ⟨#[]⟩), .v (.bool false), .v (.int .i64 0), .v (.int .i64 0), .v (.slice none 0 0), .v (.slice none 0 0)])]) ?_ ?_
 ·simp [h1, h2, h3, h4, h5, -Bool.forall_bool, -Bool.exists_bool]
  have hc1 : i = 1 → callG s i = (restG a.1 i a.2 E0).bind fun x => (wantG x.1 111 ⟨#[41]⟩).map fun w => (w.1, x.2) := fun h => by rw [e, if_neg (by omega)]
  have hc2 : i = 10 → callG s i = (restG a.1 i a.2 E0).bind fun x => (wantG x.1 111 ⟨#[41]⟩).map fun w => (w.1, x.2) := fun h => by rw [e, if_neg (by omega)]
  refine ⟨fun n1 => ⟨fun n10 => ?_, fun h10 => ⟨a.1, E0, hc2 h10, .inl ⟨rfl, rfl, rfl, rfl, rfl⟩, .inl rfl⟩⟩, fun h1 => ⟨a.1, E0, hc1 h1, .inl ⟨rfl, rfl, rfl, rfl, rfl⟩, .inl rfl⟩⟩
  rw [if_pos ⟨n1, n10⟩] at e
  refine pB hf e fun u e => pB hf e fun v e => ?_
  exact ⟨v.1, v.2, e, .inl ⟨rfl, rfl, rfl, rfl, rfl⟩, .inl rfl⟩
 rintro ⟨s2, b2⟩ e
 simp only at e
 refine vc_midG (X := Pst × Glob) [0, 4] [4] [69] [] (fun z => callG s i = (wantG z.1 111 ⟨#[41]⟩).map fun w => (w.1, z.2)) (fun _ => [(5, .bptr 5 b5 0)]) (fun z => [(0, .box b (cePst z.1)), (5, .box b5 (enc z.2).cells)]) [0, 5] (fun _ => rfl) (by decide) ?_ ?_
 ·simp [h1, h2, h3, h4, h5, -Bool.forall_bool, -Bool.exists_bool]
  unfold restG at e
  refine ⟨fun g4 => ?_, fun g4 => ?_⟩
  ·rw [if_pos g4] at e
   simp only [obind_bind, obind_map, omap_bind, omap_map] at e
   repeat' first
    | (refine pIs hf e (fun hr e => ?_) (fun e => ?_) <;> (try simp only [↓reduceIte, if_true, Bool.false_eq_true, if_false, forall_const, IsEmpty.forall_iff, reduceCtorEq, and_true, true_and] at e) <;> (try simp only [↓reduceIte, if_true, Bool.false_eq_true, if_false, forall_const, IsEmpty.forall_iff, reduceCtorEq, and_true, true_and]))
    | refine pNu hf e fun q hq e => ?_
    | refine pNuM hf e fun q hq e => ?_
    | refine pB hf e fun q e => ?_
    | refine pM hf e fun q e => ?_
    | refine pE hf e fun q e => ?_
    | (refine ⟨fun hc => ?_, fun hn => absurd (by assumption) hn⟩; (try first | rw [if_pos hc] at e | rw [if_neg hc] at e | rw [if_neg (Int.not_lt.2 hc)] at e | simp only [hc, decide_true, decide_false, ↓reduceIte, if_true, if_false, Bool.false_eq_true, ne_eq, not_true_eq_false, not_false_eq_true] at e); try simp only [Option.bind_some, Option.map_some, obind_map, obind_bind, omap_bind, omap_map, ↓reduceIte, Bool.false_eq_true, if_true, if_false] at e)
    | (refine ⟨fun hn => absurd hn (by assumption), fun hc => ?_⟩; (try first | rw [if_pos hc] at e | rw [if_neg hc] at e | rw [if_neg (Int.not_lt.2 hc)] at e | simp only [hc, decide_true, decide_false, ↓reduceIte, if_true, if_false, Bool.false_eq_true, ne_eq, not_true_eq_false, not_false_eq_true] at e); try simp only [Option.bind_some, Option.map_some, obind_map, obind_bind, omap_bind, omap_map, ↓reduceIte, Bool.false_eq_true, if_true, if_false] at e)
    | ((refine ⟨fun hc => ?_, fun hc => ?_⟩ <;> first | (cases hc; done) | rw [if_pos hc] at e | rw [if_neg hc] at e | rw [if_neg (Int.not_lt.2 hc)] at e | simp only [hc, decide_true, decide_false, ↓reduceIte, if_true, if_false, Bool.false_eq_true, ne_eq, not_true_eq_false, not_false_eq_true] at e) <;> try simp only [Option.bind_some, Option.map_some, obind_map, obind_bind, omap_bind, omap_map, ↓reduceIte, Bool.false_eq_true, if_true, if_false] at e)
    | (refine ⟨_, _, e, .inl (.inl ⟨rfl, rfl, rfl, rfl, rfl⟩), ?_⟩; simp [E0]; done)
    | refine ⟨‹InR _ _›, ?_⟩
    | intro _

  rw [if_neg g4] at e
  refine ⟨fun g4 => ?_, fun g4 => ?_⟩
  ·rw [if_pos g4] at e
   simp only [bigG, obind_bind, obind_map, omap_bind, omap_map] at e
   repeat' first
    | (refine pIs hf e (fun hr e => ?_) (fun e => ?_) <;> (try simp only [↓reduceIte, if_true, Bool.false_eq_true, if_false, forall_const, IsEmpty.forall_iff, reduceCtorEq, and_true, true_and] at e) <;> (try simp only [↓reduceIte, if_true, Bool.false_eq_true, if_false, forall_const, IsEmpty.forall_iff, reduceCtorEq, and_true, true_and]))
    | refine pNu hf e fun q hq e => ?_
    | refine pNuM hf e fun q hq e => ?_
    | refine pB hf e fun q e => ?_
    | refine pM hf e fun q e => ?_
    | refine pE hf e fun q e => ?_
    | (refine ⟨fun hc => ?_, fun hn => absurd (by assumption) hn⟩; (try first | rw [if_pos hc] at e | rw [if_neg hc] at e | rw [if_neg (Int.not_lt.2 hc)] at e | simp only [hc, decide_true, decide_false, ↓reduceIte, if_true, if_false, Bool.false_eq_true, ne_eq, not_true_eq_false, not_false_eq_true] at e); try simp only [Option.bind_some, Option.map_some, obind_map, obind_bind, omap_bind, omap_map, ↓reduceIte, Bool.false_eq_true, if_true, if_false] at e)
    | (refine ⟨fun hn => absurd hn (by assumption), fun hc => ?_⟩; (try first | rw [if_pos hc] at e | rw [if_neg hc] at e | rw [if_neg (Int.not_lt.2 hc)] at e | simp only [hc, decide_true, decide_false, ↓reduceIte, if_true, if_false, Bool.false_eq_true, ne_eq, not_true_eq_false, not_false_eq_true] at e); try simp only [Option.bind_some, Option.map_some, obind_map, obind_bind, omap_bind, omap_map, ↓reduceIte, Bool.false_eq_true, if_true, if_false] at e)
    | ((refine ⟨fun hc => ?_, fun hc => ?_⟩ <;> first | (cases hc; done) | rw [if_pos hc] at e | rw [if_neg hc] at e | rw [if_neg (Int.not_lt.2 hc)] at e | simp only [hc, decide_true, decide_false, ↓reduceIte, if_true, if_false, Bool.false_eq_true, ne_eq, not_true_eq_false, not_false_eq_true] at e) <;> try simp only [Option.bind_some, Option.map_some, obind_map, obind_bind, omap_bind, omap_map, ↓reduceIte, Bool.false_eq_true, if_true, if_false] at e)
    | (refine ⟨_, _, e, .inl (.inl ⟨rfl, rfl, rfl, rfl, rfl⟩), ?_⟩; simp [E0]; done)
    | refine ⟨‹InR _ _›, ?_⟩
    | intro _

  rw [if_neg g4] at e
  refine ⟨fun g5 => ?_, fun g5 => ?_⟩
  ·rw [if_pos (.inl g5)] at e
   simp only [obind_bind, obind_map, omap_bind, omap_map] at e
   refine ⟨fun _ => ?_, fun h => absurd g5 h⟩
   repeat' first
    | (refine pIs hf e (fun hr e => ?_) (fun e => ?_) <;> (try simp only [↓reduceIte, if_true, Bool.false_eq_true, if_false, forall_const, IsEmpty.forall_iff, reduceCtorEq, and_true, true_and] at e) <;> (try simp only [↓reduceIte, if_true, Bool.false_eq_true, if_false, forall_const, IsEmpty.forall_iff, reduceCtorEq, and_true, true_and]))
    | refine pNu hf e fun q hq e => ?_
    | refine pNuM hf e fun q hq e => ?_
    | refine pB hf e fun q e => ?_
    | refine pM hf e fun q e => ?_
    | refine pE hf e fun q e => ?_
    | (refine ⟨fun hc => ?_, fun hn => absurd (by assumption) hn⟩; (try first | rw [if_pos hc] at e | rw [if_neg hc] at e | rw [if_neg (Int.not_lt.2 hc)] at e | simp only [hc, decide_true, decide_false, ↓reduceIte, if_true, if_false, Bool.false_eq_true, ne_eq, not_true_eq_false, not_false_eq_true] at e); try simp only [Option.bind_some, Option.map_some, obind_map, obind_bind, omap_bind, omap_map, ↓reduceIte, Bool.false_eq_true, if_true, if_false] at e)
    | (refine ⟨fun hn => absurd hn (by assumption), fun hc => ?_⟩; (try first | rw [if_pos hc] at e | rw [if_neg hc] at e | rw [if_neg (Int.not_lt.2 hc)] at e | simp only [hc, decide_true, decide_false, ↓reduceIte, if_true, if_false, Bool.false_eq_true, ne_eq, not_true_eq_false, not_false_eq_true] at e); try simp only [Option.bind_some, Option.map_some, obind_map, obind_bind, omap_bind, omap_map, ↓reduceIte, Bool.false_eq_true, if_true, if_false] at e)
    | ((refine ⟨fun hc => ?_, fun hc => ?_⟩ <;> first | (cases hc; done) | rw [if_pos hc] at e | rw [if_neg hc] at e | rw [if_neg (Int.not_lt.2 hc)] at e | simp only [hc, decide_true, decide_false, ↓reduceIte, if_true, if_false, Bool.false_eq_true, ne_eq, not_true_eq_false, not_false_eq_true] at e) <;> try simp only [Option.bind_some, Option.map_some, obind_map, obind_bind, omap_bind, omap_map, ↓reduceIte, Bool.false_eq_true, if_true, if_false] at e)
    | (refine ⟨_, _, e, .inl (.inl ⟨rfl, rfl, rfl, rfl, rfl⟩), ?_⟩; simp [E0]; done)
    | refine ⟨‹InR _ _›, ?_⟩
    | intro _

  refine ⟨fun g9 => ?_, fun g9 => ?_⟩
  ·rw [if_pos (.inr g9)] at e
   simp only [obind_bind, obind_map, omap_bind, omap_map] at e
   repeat' first
    | (refine pIs hf e (fun hr e => ?_) (fun e => ?_) <;> (try simp only [↓reduceIte, if_true, Bool.false_eq_true, if_false, forall_const, IsEmpty.forall_iff, reduceCtorEq, and_true, true_and] at e) <;> (try simp only [↓reduceIte, if_true, Bool.false_eq_true, if_false, forall_const, IsEmpty.forall_iff, reduceCtorEq, and_true, true_and]))
    | refine pNu hf e fun q hq e => ?_
    | refine pNuM hf e fun q hq e => ?_
    | refine pB hf e fun q e => ?_
    | refine pM hf e fun q e => ?_
    | refine pE hf e fun q e => ?_
    | (refine ⟨fun hc => ?_, fun hn => absurd (by assumption) hn⟩; (try first | rw [if_pos hc] at e | rw [if_neg hc] at e | rw [if_neg (Int.not_lt.2 hc)] at e | simp only [hc, decide_true, decide_false, ↓reduceIte, if_true, if_false, Bool.false_eq_true, ne_eq, not_true_eq_false, not_false_eq_true] at e); try simp only [Option.bind_some, Option.map_some, obind_map, obind_bind, omap_bind, omap_map, ↓reduceIte, Bool.false_eq_true, if_true, if_false] at e)
    | (refine ⟨fun hn => absurd hn (by assumption), fun hc => ?_⟩; (try first | rw [if_pos hc] at e | rw [if_neg hc] at e | rw [if_neg (Int.not_lt.2 hc)] at e | simp only [hc, decide_true, decide_false, ↓reduceIte, if_true, if_false, Bool.false_eq_true, ne_eq, not_true_eq_false, not_false_eq_true] at e); try simp only [Option.bind_some, Option.map_some, obind_map, obind_bind, omap_bind, omap_map, ↓reduceIte, Bool.false_eq_true, if_true, if_false] at e)
    | ((refine ⟨fun hc => ?_, fun hc => ?_⟩ <;> first | (cases hc; done) | rw [if_pos hc] at e | rw [if_neg hc] at e | rw [if_neg (Int.not_lt.2 hc)] at e | simp only [hc, decide_true, decide_false, ↓reduceIte, if_true, if_false, Bool.false_eq_true, ne_eq, not_true_eq_false, not_false_eq_true] at e) <;> try simp only [Option.bind_some, Option.map_some, obind_map, obind_bind, omap_bind, omap_map, ↓reduceIte, Bool.false_eq_true, if_true, if_false] at e)
    | (refine ⟨_, _, e, .inl (.inl ⟨rfl, rfl, rfl, rfl, rfl⟩), ?_⟩; simp [E0]; done)
    | refine ⟨‹InR _ _›, ?_⟩
    | intro _

  rw [if_neg (by omega)] at e
  refine ⟨fun g8 => ?_, fun g8 => ?_⟩
  rotate_left
  ·rw [if_neg g8] at e
   refine ⟨_, _, e, .inl (.inl ⟨rfl, rfl, rfl, rfl, rfl⟩), ?_⟩
   simp [E0]
  rw [if_pos g8, omap_bind] at e
  refine vc_whileG (X := Nat × Pst × Value × List B) [0, 4, 5] [4] [] [] [] [] (fun z => (callG s i = (argsLoopG z.1 z.2.1 z.2.2.2).bind fun l => (wantG l.1 111 ⟨#[41]⟩).map fun w => (w.1, (⟨i, a.2, b2, E0, E0, E0, false, 0, 0, l.2, []⟩ : Glob))) ∧ z.2.2.2.length + z.1 ≤ 500) (fun _ => []) (fun z => [(0, .box b (cePst z.2.1)), (5, .box b5 [.v (.int .i64 i), .v (.string a.2), .v (.string b2), .v (.string ⟨#[]⟩), .v (.string ⟨#[]⟩), .v (.string ⟨#[]⟩), .v (.bool false), .v (.int .i64 0), .v (.int .i64 0), .own 69 z.2.2.1, .v (.slice none 0 0)]), (69, .row z.2.2.1 ty_string 1 (z.2.2.2.map enc))]) (fun z => z.1) (500, s2, .slice none 0 0, []) [0, 5, 69] (fun _ => rfl) (by decide) (by decide) ⟨e, by simp⟩ ?_ ?_ ?_
  ·simp
  ·simp [isNilRow]
   exact .nilown 69
  clear e
  rintro ⟨k, s1, v, l⟩ ⟨e, hlen⟩
  simp only at e hlen
  obtain _ | k := k
  ·exact pNo hf (by rw [e, argsLoopG]; rfl)
  rw [argsLoopG, obind_bind] at e
  simp [h1, h2, -Bool.forall_bool, -Bool.exists_bool]
  refine pB hf e fun w e => ⟨fun hw => ?_, fun hw => ?_⟩
  ·rw [if_pos hw, obind_bind] at e
   refine pB hf e fun r2 e => ?_
   exact ⟨by omega, by omega, fun v' => ⟨k, r2.1, v', l ++ [r2.2], ⟨e, by simp; omega⟩, ⟨.inl (.inl ⟨rfl, rfl, rfl, rfl, rfl⟩), .inl (.inl rfl), .inl (.inl (by simp))⟩, by omega⟩⟩
  ·rw [if_neg (by simp [hw]), Option.bind_some] at e
   refine ⟨w.1, ⟨i, a.2, b2, E0, E0, E0, false, 0, 0, l, []⟩, e, .inl (.inl ⟨rfl, rfl, rfl, rfl, rfl⟩), .inl ⟨rfl, rfl, rfl, rfl, rfl, rfl, rfl, rfl, rfl, fz_o ty_string (by simp [gvH]), ?_⟩⟩
   simp
 ·rintro ⟨s9, g⟩ e
  simp only at e
  simp [h2]
  refine pM hf e fun z e => ?_
  exact finPS z.1 g (by simp) (by simp) e
end Go.Gv

namespace Go.Gv
/-- the reference's kinds of tokens, by the program's -/
def kR (k : Int) : Int := if k = 0 then 101 else if k = 1 then 120 else if k = 2 then 110 else if k = 3 then 100 else if k = 4 then 115 else 111
def tkR (x : Lxm) : Tok := ⟨kR x.kind, x.text, x.pos⟩
/-- the tokens from i on -/
def toksN : Nat → B → Nat → List Tok
 | 0, _, _ => []
 | k + 1, s, i => tkR (lexP s i).1 :: if (lexP s i).1.kind < 2 then [] else toksN k s (lexP s i).2.toNat
def toksT (s : B) (i : Nat) : List Tok := toksN (s.size - i + 1) s i
theorem skipF_rng {s : B} {i : Nat} (h : i ≤ s.size) : i ≤ skipF s i ∧ skipF s i ≤ s.size := by
 have := runP_rng spP h
 unfold runP at this
 rw [run_skip] at this
 exact this
theorem digF_rng {s : B} {i : Nat} (h : i ≤ s.size) : i ≤ digF s i ∧ digF s i ≤ s.size := by
 have := runP_rng digP h
 unfold runP at this
 rw [run_dig] at this
 exact this
theorem namF_rng {s : B} {i : Nat} (h : i ≤ s.size) : i ≤ namF s i ∧ namF s i ≤ s.size := by
 have := runP_rng namP h
 unfold runP at this
 rw [run_nam] at this
 exact this
theorem namF_step {s : B} {i : Nat} (h : i < s.size) : namF s i = if isNm s i then namF s (i + 1) else i := by
 unfold namF
 rw [show s.size - i = (s.size - (i + 1)) + 1 by omega, namN]
theorem quoNG_rng : ∀ (n : Nat) (s : B) (j : Nat) (v : B) (r : Nat × B), quoNG n s j v = some r → j ≤ r.1 ∧ r.1 < s.size
 | 0, _, _, _, _, h => by cases h
 | n + 1, s, j, v, r, h => by
   rw [quoNG] at h
   split at h
   ·cases h
   ·rename_i c hc
    have hj : j < s.size := (Array.getElem?_eq_some_iff.1 hc).1
    split at h
    ·split at h
     ·split at h
      ·have := quoNG_rng n s _ _ r h; omega
      ·cases h; exact ⟨Nat.le_refl _, hj⟩
     ·cases h; exact ⟨Nat.le_refl _, hj⟩
    ·have := quoNG_rng n s _ _ r h; omega
theorem signs_size : ∀ x ∈ signsL, 1 ≤ x.size ∧ x.size ≤ 2 := by decide
/-- What lex gives: a token that is read ends behind where it begins. -/
theorem lexP_rng {s : B} {i : Nat} (h : i ≤ s.size) : 0 ≤ (lexP s i).1.kind ∧ (lexP s i).1.kind ≤ 5 ∧ 0 ≤ (lexP s i).2 ∧ (lexP s i).2 ≤ s.size ∧ (2 ≤ (lexP s i).1.kind → (skipF s i : Int) < (lexP s i).2) := by
 have h0 := skipF_rng h
 unfold lexP
 simp only
 split
 ·exact ⟨by simp, by simp, by simp, by simp; omega, by simp⟩
 ·rename_i c hc
  have hj : skipF s i < s.size := (Array.getElem?_eq_some_iff.1 hc).1
  split
  ·rename_i hl
   have h1 := namF_rng (s := s) (i := skipF s i + 1) (by omega)
   rw [namF_step hj]
   have : isNm s (skipF s i) = true := by
    unfold isNm
    rw [hc]
    have h2 : letB c.toNat = true := by
     unfold letP begB at hl
     unfold letB
     simp at hl ⊢
     omega
    simp [h2]
   rw [if_pos this]
   simp only
   omega
  ·split
   ·rename_i hd
    have h1 := digF_rng (s := s) (i := skipF s i + 1) (by omega)
    rw [digF_step hj]
    have : isDg s (skipF s i) = true := by
     unfold isDg
     rw [hc]
     unfold digP at hd
     simp at hd ⊢
     omega
    rw [if_pos this]
    simp only
    omega
   ·split
    ·split
     ·simp only; omega
     ·rename_i hq
      unfold quoP at hq ⊢
      cases hg : quoG s (skipF s i + 1) ⟨#[]⟩ with
      | none => rw [hg] at hq; simp at hq
      | some r =>
        have := quoNG_rng _ _ _ _ _ hg
        simp only
        omega
    ·split
     ·rename_i x hx
      have h1 := List.find?_some hx
      have h2 := List.mem_of_find?_eq_some hx
      have h3 := signs_size x h2
      unfold preB at h1
      simp at h1
      simp only
      omega
     ·simp only; omega
theorem toksN_fuel : ∀ (a b : Nat) (s : B) (i : Nat), i ≤ s.size → s.size - i + 1 ≤ a → s.size - i + 1 ≤ b → toksN a s i = toksN b s i
 | a + 1, b + 1, s, i, h, ha, hb => by
   rw [toksN, toksN]
   split
   ·rfl
   ·rename_i hk
    have hr := lexP_rng h
    have := hr.2.2.2.2 (by omega)
    have h0 := skipF_rng h
    rw [toksN_fuel a b s _ (by omega) (by omega) (by omega)]
 | 0, _, _, _, _, h, _ => by omega
 | _ + 1, 0, _, _, _, _, h => by omega
theorem toksT_eq {s : B} {i : Nat} (h : i ≤ s.size) : toksT s i = tkR (lexP s i).1 :: if (lexP s i).1.kind < 2 then [] else toksT s (lexP s i).2.toNat := by
 unfold toksT
 rw [toksN]
 split
 ·rfl
 ·rename_i hk
  have hr := lexP_rng h
  have := hr.2.2.2.2 (by omega)
  have h0 := skipF_rng h
  rw [toksN_fuel (s.size - i) _ s _ (by omega) (by omega) (Nat.le_refl _)]
theorem toksT_len : ∀ (n : Nat) (s : B) (i : Nat), i ≤ s.size → s.size - i ≤ n → (toksT s i).length ≤ n + 1
 | 0, s, i, h, hn => by
   have h0 := skipF_rng h
   rw [toksT_eq h]
   have hr := lexP_rng h
   split
   ·simp
   ·have := hr.2.2.2.2 (by omega)
    omega
 | n + 1, s, i, h, hn => by
   have h0 := skipF_rng h
   rw [toksT_eq h]
   have hr := lexP_rng h
   split
   ·simp
   ·have := hr.2.2.2.2 (by omega)
    have := toksT_len n s (lexP s i).2.toNat (by omega) (by omega)
    simp
    omega
/-- What the reference's scanner gives at i is what the lexer gives. -/
theorem tokG_lex {s : B} {i : Nat} (h : skipF s i < s.size) : match tokG s (skipF s i) with
 | none => (lexP s i).1 = ⟨1, E0, skipF s i⟩
 | some r => 2 ≤ (lexP s i).1.kind ∧ r.2 = tkR (lexP s i).1 ∧ (r.1 : Int) = (lexP s i).2 := by
 obtain ⟨c, hc⟩ : ∃ c, s.data[skipF s i]? = some c := ⟨_, Array.getElem?_eq_getElem h⟩
 have e1 : letP ⟨c.toNat⟩ = letB c.toNat := by unfold letP begB letB; rw [Bool.eq_iff_iff]; simp; omega
 have e2 : digP ⟨c.toNat⟩ = decide (48 ≤ c.toNat ∧ c.toNat ≤ 57) := by unfold digP; rw [Bool.eq_iff_iff]; simp; omega
 unfold tokG lexP
 simp only [hc, e1, e2]
 by_cases h1 : letB c.toNat = true
 ·simp [h1, tkR, kR]
 ·by_cases h2 : 48 ≤ c.toNat ∧ c.toNat ≤ 57
  ·simp [h1, h2, tkR, kR]
  ·by_cases h3 : c.toNat = 34
   ·simp only [if_neg h1, if_neg h2, if_pos h3, decide_eq_false h2, Bool.false_eq_true, if_false]
    unfold quoP
    cases hq : quoG s (skipF s i + 1) ⟨#[]⟩ with
    | none => simp [hq]
    | some r =>
      simp only [hq]
      have : ¬ ((r.1 : Int) + 1 < 0) := by omega
      simp [tkR, kR, this]
   ·simp only [if_neg h1, if_neg h2, if_neg h3, decide_eq_false h2, Bool.false_eq_true, if_false]
    cases hx : signsL.find? (preB s (skipF s i)) with
    | none => simp [hx]
    | some x =>
      have h1 := List.find?_some hx
      unfold preB at h1
      simp at h1
      simp [hx, tkR, kR, h1.2]
theorem scan_tok : ∀ (k : Nat) (s : B) (i : Nat) (out : List Tok), i ≤ s.size → s.size - i < k → scanNG k s i out = some (out ++ toksT s i)
 | 0, s, i, out, h, hk => by omega
 | k + 1, s, i, out, h, hk => by
   have h0 := skipF_rng h
   rw [scanNG, toksT_eq h]
   split
   ·rename_i he
    have hn : s.data[skipF s i]? = none := Array.getElem?_eq_none (by show s.size ≤ _; omega)
    have : lexP s i = ((⟨0, E0, (skipF s i : Nat)⟩ : Lxm), ((skipF s i : Nat) : Int)) := by unfold lexP; simp only [hn]
    rw [this]
    simp [tkR, kR, he]
   ·rename_i he
    have hg := tokG_lex (s := s) (i := i) (by omega)
    have hr := lexP_rng h
    split
    ·rename_i hn
     rw [hn] at hg
     simp only at hg
     rw [hg]
     simp [tkR, kR]
    ·rename_i r hs
     rw [hs] at hg
     obtain ⟨g1, g2, g3⟩ := hg
     have g4 := hr.2.2.2.2 g1
     have g5 : skipF s i < r.1 := by omega
     rw [if_pos ⟨by omega, g5⟩, scan_tok k s r.1 _ (by omega) (by omega), if_neg (by omega), g2, List.append_assoc, List.singleton_append, show (lexP s i).2.toNat = r.1 by omega]
theorem scanG_eq (s : B) : scanG s = some (toksT s 0) := by
 unfold scanG
 rw [scan_tok _ s 0 [] (Nat.zero_le _) (by omega)]
 rfl
end Go.Gv
