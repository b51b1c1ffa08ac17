/- A part of the framework and of the walks: T13. -/
import Derived.Test.YtaiffcbkmgfklaaGreatDoorGy11

namespace Go.Gv
set_option linter.unusedSimpArgs false
set_option linter.unusedVariables false
open Cod (enc dec)

theorem enc_inj {X : Type} [Cod X] {x y : X} (h : enc x = enc y) : x = y := by
  have := congrArg (dec (X := X)) h
  simpa using this
@[simp] theorem enc_eq {X : Type} [Cod X] (l l' : List X) : (l.map enc = l'.map enc) = (l = l') := by
  refine propext ⟨fun h => ?_, fun h => h ▸ rfl⟩
  induction l generalizing l' with
  | nil => cases l' with
    | nil => rfl
    | cons y l' => simp at h
  | cons x l ih => cases l' with
    | nil => simp at h
    | cons y l' =>
      simp only [List.map_cons, List.cons.injEq] at h
      rw [enc_inj h.1, ih _ h.2]
theorem fz_o {X : Type} [Cod X] {H : HMap} {id n : Nat} {v : Value} {l : List X} (el : Nat) (h : H id = some (.row v el n (l.map enc))) (hn : n = Cod.wd X := by rfl) : FrzTo H (.own id v) (.list n (l.map enc)) := by
  subst hn; exact gives_row h

inductive Ky where
  | e
  | o (k : Ky)
  | i (k : Ky)
deriving DecidableEq
inductive Tr where
  | nil
  | nd (d : D) (l r : Tr)
def Tr.get : Tr → Ky → D
  | .nil, _ => .any
  | .nd d _ _, .e => d
  | .nd _ l _, .o k => l.get k
  | .nd _ _ r, .i k => r.get k
def Tr.set : Tr → Ky → D → Tr
  | .nil, .e, x => .nd x .nil .nil
  | .nil, .o k, x => .nd .any (Tr.set .nil k x) .nil
  | .nil, .i k, x => .nd .any .nil (Tr.set .nil k x)
  | .nd _ l r, .e, x => .nd x l r
  | .nd d l r, .o k, x => .nd d (l.set k x) r
  | .nd d l r, .i k, x => .nd d l (r.set k x)
noncomputable def Tr.frz (id : Nat) (x : Value) (L : D) : Tr → Tr
  | .nil => .nil
  | .nd d l r => .nd (frzD id x L d) (l.frz id x L) (r.frz id x L)
def kyF : Nat → Nat → Ky
  | 0, _ => .e
  | f + 1, n => if n = 0 then .e else if (n - 1) % 2 = 0 then .o (kyF f ((n - 1) / 2)) else .i (kyF f ((n - 1) / 2))
def ky (n : Nat) : Ky := kyF n n
def Ky.val : Ky → Nat
  | .e => 0
  | .o k => 2 * k.val + 1
  | .i k => 2 * k.val + 2

theorem kyF_val : ∀ (f n : Nat), n ≤ f → (kyF f n).val = n
  | 0, n, h => by
    have : n = 0 := by omega
    subst this; rfl
  | f + 1, n, h => by
    unfold kyF
    split
    · rename_i e; subst e; rfl
    · split
      · simp only [Ky.val]
        rw [kyF_val f _ (by omega)]
        omega
      · simp only [Ky.val]
        rw [kyF_val f _ (by omega)]
        omega
theorem ky_inj {m n : Nat} (h : ky m = ky n) : m = n := by
  have h1 := kyF_val m m (Nat.le_refl _)
  have h2 := kyF_val n n (Nat.le_refl _)
  unfold ky at h
  rw [h] at h1
  exact h1.symm.trans h2

theorem get_set : ∀ (T : Tr) (k j : Ky) (x : D), (T.set k x).get j = if j = k then x else T.get j
  | .nil, .e, j, x => by cases j <;> simp [Tr.set, Tr.get]
  | .nil, .o k, j, x => by
    have ih := fun j => get_set .nil k j x
    cases j <;> simp [Tr.set, Tr.get, ih]
  | .nil, .i k, j, x => by
    have ih := fun j => get_set .nil k j x
    cases j <;> simp [Tr.set, Tr.get, ih]
  | .nd d l r, .e, j, x => by cases j <;> simp [Tr.set, Tr.get]
  | .nd d l r, .o k, j, x => by
    have ih := fun j => get_set l k j x
    cases j <;> simp [Tr.set, Tr.get, ih]
  | .nd d l r, .i k, j, x => by
    have ih := fun j => get_set r k j x
    cases j <;> simp [Tr.set, Tr.get, ih]

def getT (T : Tr) : Sg := fun t => T.get (ky t)
@[simp] theorem getT_at (T : Tr) (t : Nat) : getT T t = T.get (ky t) := id rfl
@[simp] theorem upd_T (T : Tr) (t : Nat) (d : D) : upd (getT T) t d = getT (T.set (ky t) d) := by
  funext s
  simp only [upd, getT, get_set]
  by_cases h : s = t
  · simp [h]
  · have : ¬ ky s = ky t := fun e => h (ky_inj e)
    simp [h, this]
theorem getT_nil : getT .nil = fun _ => .any := by
  funext t
  simp [getT, Tr.get]
@[simp] theorem kT_nil (σ : Sg) : keepS [] σ = getT .nil := by rw [getT_nil]; rfl
@[simp] theorem kT_cons (t : Nat) (l : List Nat) (σ : Sg) : keepS (t :: l) σ = upd (keepS l σ) t (σ t) := id rfl
@[simp] theorem aT_nil (σ : Sg) : addS [] σ = σ := id rfl
@[simp] theorem aT_cons (t : Nat) (d : D) (l : List (Nat × D)) (σ : Sg) : addS ((t, d) :: l) σ = upd (addS l σ) t d := id rfl
def initT : Nat → List D → Tr
  | _, [] => .nil
  | n, d :: l => (initT (n + 1) l).set (ky n) d
@[simp] theorem initT_nil (n : Nat) : initT n [] = .nil := id rfl
@[simp] theorem initT_cons (n : Nat) (d : D) (l : List D) : initT n (d :: l) = (initT (n + 1) l).set (ky n) d := id rfl
theorem initT_get : ∀ (l : List D) (n t : Nat), (initT n l).get (ky t) = if n ≤ t then (l[t - n]?).getD .any else .any
  | [], n, t => by simp [initT, Tr.get]
  | d :: l, n, t => by
    rw [initT, get_set, initT_get l (n + 1) t]
    by_cases h : t = n
    · subst h; simp
    · have : ¬ ky t = ky n := fun e => h (ky_inj e)
      rw [if_neg this]
      by_cases h2 : n + 1 ≤ t
      · have h3 : n ≤ t := by omega
        rw [if_pos h2, if_pos h3]
        have : t - n = (t - (n + 1)) + 1 := by omega
        rw [this]; simp
      · have h3 : ¬ n ≤ t := by omega
        rw [if_neg h2, if_neg h3]
@[simp] theorem init_T (l : List D) : initS l = getT (initT 0 l) := by
  funext t
  simp [initS, getT, initT_get]
@[simp] theorem frz_T (id : Nat) (x : Value) (L : D) (T : Tr) : frzG id x L (getT T) = getT (T.frz id x L) := by
  funext t
  simp only [frzG, getT]
  generalize ky t = k
  induction T generalizing k with
  | nil => simp [Tr.frz, Tr.get, frzD]
  | nd d l r ihl ihr =>
    cases k with
    | e => rfl
    | o k => exact ihl k
    | i k => exact ihr k
@[simp] theorem frzT_nil (id : Nat) (x : Value) (L : D) : Tr.nil.frz id x L = .nil := _root_.id rfl
@[simp] theorem frzT_nd (id : Nat) (x : Value) (L d : D) (l r : Tr) : (Tr.nd d l r).frz id x L = .nd (frzD id x L d) (l.frz id x L) (r.frz id x L) := _root_.id rfl
@[simp] theorem tg_n (k : Ky) : Tr.nil.get k = .any := by simp [Tr.get]
@[simp] theorem tg_e (d : D) (l r : Tr) : (Tr.nd d l r).get .e = d := id rfl
@[simp] theorem tg_o (d : D) (l r : Tr) (k : Ky) : (Tr.nd d l r).get (.o k) = l.get k := id rfl
@[simp] theorem tg_i (d : D) (l r : Tr) (k : Ky) : (Tr.nd d l r).get (.i k) = r.get k := id rfl
@[simp] theorem ts_ne (x : D) : Tr.nil.set .e x = .nd x .nil .nil := id rfl
@[simp] theorem ts_no (k : Ky) (x : D) : Tr.nil.set (.o k) x = .nd .any (Tr.set .nil k x) .nil := id rfl
@[simp] theorem ts_ni (k : Ky) (x : D) : Tr.nil.set (.i k) x = .nd .any .nil (Tr.set .nil k x) := id rfl
@[simp] theorem ts_e (d : D) (l r : Tr) (x : D) : (Tr.nd d l r).set .e x = .nd x l r := id rfl
@[simp] theorem ts_o (d : D) (l r : Tr) (k : Ky) (x : D) : (Tr.nd d l r).set (.o k) x = .nd d (l.set k x) r := id rfl
@[simp] theorem ts_i (d : D) (l r : Tr) (k : Ky) (x : D) : (Tr.nd d l r).set (.i k) x = .nd d l (r.set k x) := id rfl
@[simp] theorem ky_0 : ky 0 = Ky.e := id rfl
@[simp] theorem ky_1 : ky 1 = Ky.o (Ky.e) := id rfl
@[simp] theorem ky_2 : ky 2 = Ky.i (Ky.e) := id rfl
@[simp] theorem ky_3 : ky 3 = Ky.o (Ky.o (Ky.e)) := id rfl
@[simp] theorem ky_4 : ky 4 = Ky.i (Ky.o (Ky.e)) := id rfl
@[simp] theorem ky_5 : ky 5 = Ky.o (Ky.i (Ky.e)) := id rfl
@[simp] theorem ky_6 : ky 6 = Ky.i (Ky.i (Ky.e)) := id rfl
@[simp] theorem ky_7 : ky 7 = Ky.o (Ky.o (Ky.o (Ky.e))) := id rfl
@[simp] theorem ky_8 : ky 8 = Ky.i (Ky.o (Ky.o (Ky.e))) := id rfl
@[simp] theorem ky_9 : ky 9 = Ky.o (Ky.i (Ky.o (Ky.e))) := id rfl
@[simp] theorem ky_10 : ky 10 = Ky.i (Ky.i (Ky.o (Ky.e))) := id rfl
@[simp] theorem ky_11 : ky 11 = Ky.o (Ky.o (Ky.i (Ky.e))) := id rfl
@[simp] theorem ky_12 : ky 12 = Ky.i (Ky.o (Ky.i (Ky.e))) := id rfl
@[simp] theorem ky_13 : ky 13 = Ky.o (Ky.i (Ky.i (Ky.e))) := id rfl
@[simp] theorem ky_14 : ky 14 = Ky.i (Ky.i (Ky.i (Ky.e))) := id rfl
@[simp] theorem ky_15 : ky 15 = Ky.o (Ky.o (Ky.o (Ky.o (Ky.e)))) := id rfl
@[simp] theorem ky_16 : ky 16 = Ky.i (Ky.o (Ky.o (Ky.o (Ky.e)))) := id rfl
@[simp] theorem ky_17 : ky 17 = Ky.o (Ky.i (Ky.o (Ky.o (Ky.e)))) := id rfl
@[simp] theorem ky_18 : ky 18 = Ky.i (Ky.i (Ky.o (Ky.o (Ky.e)))) := id rfl
@[simp] theorem ky_19 : ky 19 = Ky.o (Ky.o (Ky.i (Ky.o (Ky.e)))) := id rfl
@[simp] theorem ky_20 : ky 20 = Ky.i (Ky.o (Ky.i (Ky.o (Ky.e)))) := id rfl
@[simp] theorem ky_21 : ky 21 = Ky.o (Ky.i (Ky.i (Ky.o (Ky.e)))) := id rfl
@[simp] theorem ky_22 : ky 22 = Ky.i (Ky.i (Ky.i (Ky.o (Ky.e)))) := id rfl
@[simp] theorem ky_23 : ky 23 = Ky.o (Ky.o (Ky.o (Ky.i (Ky.e)))) := id rfl
@[simp] theorem ky_24 : ky 24 = Ky.i (Ky.o (Ky.o (Ky.i (Ky.e)))) := id rfl
@[simp] theorem ky_25 : ky 25 = Ky.o (Ky.i (Ky.o (Ky.i (Ky.e)))) := id rfl
@[simp] theorem ky_26 : ky 26 = Ky.i (Ky.i (Ky.o (Ky.i (Ky.e)))) := id rfl
@[simp] theorem ky_27 : ky 27 = Ky.o (Ky.o (Ky.i (Ky.i (Ky.e)))) := id rfl
@[simp] theorem ky_28 : ky 28 = Ky.i (Ky.o (Ky.i (Ky.i (Ky.e)))) := id rfl
@[simp] theorem ky_29 : ky 29 = Ky.o (Ky.i (Ky.i (Ky.i (Ky.e)))) := id rfl
@[simp] theorem ky_30 : ky 30 = Ky.i (Ky.i (Ky.i (Ky.i (Ky.e)))) := id rfl
@[simp] theorem ky_31 : ky 31 = Ky.o (Ky.o (Ky.o (Ky.o (Ky.o (Ky.e))))) := id rfl
@[simp] theorem ky_32 : ky 32 = Ky.i (Ky.o (Ky.o (Ky.o (Ky.o (Ky.e))))) := id rfl
@[simp] theorem ky_33 : ky 33 = Ky.o (Ky.i (Ky.o (Ky.o (Ky.o (Ky.e))))) := id rfl
@[simp] theorem ky_34 : ky 34 = Ky.i (Ky.i (Ky.o (Ky.o (Ky.o (Ky.e))))) := id rfl
@[simp] theorem ky_35 : ky 35 = Ky.o (Ky.o (Ky.i (Ky.o (Ky.o (Ky.e))))) := id rfl
@[simp] theorem ky_36 : ky 36 = Ky.i (Ky.o (Ky.i (Ky.o (Ky.o (Ky.e))))) := id rfl
@[simp] theorem ky_37 : ky 37 = Ky.o (Ky.i (Ky.i (Ky.o (Ky.o (Ky.e))))) := id rfl
@[simp] theorem ky_38 : ky 38 = Ky.i (Ky.i (Ky.i (Ky.o (Ky.o (Ky.e))))) := id rfl
@[simp] theorem ky_39 : ky 39 = Ky.o (Ky.o (Ky.o (Ky.i (Ky.o (Ky.e))))) := id rfl
@[simp] theorem ky_40 : ky 40 = Ky.i (Ky.o (Ky.o (Ky.i (Ky.o (Ky.e))))) := id rfl
@[simp] theorem ky_41 : ky 41 = Ky.o (Ky.i (Ky.o (Ky.i (Ky.o (Ky.e))))) := id rfl
@[simp] theorem ky_42 : ky 42 = Ky.i (Ky.i (Ky.o (Ky.i (Ky.o (Ky.e))))) := id rfl
@[simp] theorem ky_43 : ky 43 = Ky.o (Ky.o (Ky.i (Ky.i (Ky.o (Ky.e))))) := id rfl
@[simp] theorem ky_44 : ky 44 = Ky.i (Ky.o (Ky.i (Ky.i (Ky.o (Ky.e))))) := id rfl
@[simp] theorem ky_45 : ky 45 = Ky.o (Ky.i (Ky.i (Ky.i (Ky.o (Ky.e))))) := id rfl
@[simp] theorem ky_46 : ky 46 = Ky.i (Ky.i (Ky.i (Ky.i (Ky.o (Ky.e))))) := id rfl
@[simp] theorem ky_47 : ky 47 = Ky.o (Ky.o (Ky.o (Ky.o (Ky.i (Ky.e))))) := id rfl
@[simp] theorem ky_48 : ky 48 = Ky.i (Ky.o (Ky.o (Ky.o (Ky.i (Ky.e))))) := id rfl
@[simp] theorem ky_49 : ky 49 = Ky.o (Ky.i (Ky.o (Ky.o (Ky.i (Ky.e))))) := id rfl
@[simp] theorem ky_50 : ky 50 = Ky.i (Ky.i (Ky.o (Ky.o (Ky.i (Ky.e))))) := id rfl
@[simp] theorem ky_51 : ky 51 = Ky.o (Ky.o (Ky.i (Ky.o (Ky.i (Ky.e))))) := id rfl
@[simp] theorem ky_52 : ky 52 = Ky.i (Ky.o (Ky.i (Ky.o (Ky.i (Ky.e))))) := id rfl
@[simp] theorem ky_53 : ky 53 = Ky.o (Ky.i (Ky.i (Ky.o (Ky.i (Ky.e))))) := id rfl
@[simp] theorem ky_54 : ky 54 = Ky.i (Ky.i (Ky.i (Ky.o (Ky.i (Ky.e))))) := id rfl
@[simp] theorem ky_55 : ky 55 = Ky.o (Ky.o (Ky.o (Ky.i (Ky.i (Ky.e))))) := id rfl
@[simp] theorem ky_56 : ky 56 = Ky.i (Ky.o (Ky.o (Ky.i (Ky.i (Ky.e))))) := id rfl
@[simp] theorem ky_57 : ky 57 = Ky.o (Ky.i (Ky.o (Ky.i (Ky.i (Ky.e))))) := id rfl
@[simp] theorem ky_58 : ky 58 = Ky.i (Ky.i (Ky.o (Ky.i (Ky.i (Ky.e))))) := id rfl
@[simp] theorem ky_59 : ky 59 = Ky.o (Ky.o (Ky.i (Ky.i (Ky.i (Ky.e))))) := id rfl
@[simp] theorem ky_60 : ky 60 = Ky.i (Ky.o (Ky.i (Ky.i (Ky.i (Ky.e))))) := id rfl
@[simp] theorem ky_61 : ky 61 = Ky.o (Ky.i (Ky.i (Ky.i (Ky.i (Ky.e))))) := id rfl
@[simp] theorem ky_62 : ky 62 = Ky.i (Ky.i (Ky.i (Ky.i (Ky.i (Ky.e))))) := id rfl
@[simp] theorem ky_63 : ky 63 = Ky.o (Ky.o (Ky.o (Ky.o (Ky.o (Ky.o (Ky.e)))))) := id rfl
@[simp] theorem ky_64 : ky 64 = Ky.i (Ky.o (Ky.o (Ky.o (Ky.o (Ky.o (Ky.e)))))) := id rfl
@[simp] theorem ky_65 : ky 65 = Ky.o (Ky.i (Ky.o (Ky.o (Ky.o (Ky.o (Ky.e)))))) := id rfl
@[simp] theorem ky_66 : ky 66 = Ky.i (Ky.i (Ky.o (Ky.o (Ky.o (Ky.o (Ky.e)))))) := id rfl
@[simp] theorem ky_67 : ky 67 = Ky.o (Ky.o (Ky.i (Ky.o (Ky.o (Ky.o (Ky.e)))))) := id rfl
@[simp] theorem ky_68 : ky 68 = Ky.i (Ky.o (Ky.i (Ky.o (Ky.o (Ky.o (Ky.e)))))) := id rfl
@[simp] theorem ky_69 : ky 69 = Ky.o (Ky.i (Ky.i (Ky.o (Ky.o (Ky.o (Ky.e)))))) := id rfl
@[simp] theorem ky_70 : ky 70 = Ky.i (Ky.i (Ky.i (Ky.o (Ky.o (Ky.o (Ky.e)))))) := id rfl
@[simp] theorem ky_71 : ky 71 = Ky.o (Ky.o (Ky.o (Ky.i (Ky.o (Ky.o (Ky.e)))))) := id rfl
@[simp] theorem ky_72 : ky 72 = Ky.i (Ky.o (Ky.o (Ky.i (Ky.o (Ky.o (Ky.e)))))) := id rfl
@[simp] theorem ky_73 : ky 73 = Ky.o (Ky.i (Ky.o (Ky.i (Ky.o (Ky.o (Ky.e)))))) := id rfl
@[simp] theorem ky_74 : ky 74 = Ky.i (Ky.i (Ky.o (Ky.i (Ky.o (Ky.o (Ky.e)))))) := id rfl
@[simp] theorem ky_75 : ky 75 = Ky.o (Ky.o (Ky.i (Ky.i (Ky.o (Ky.o (Ky.e)))))) := id rfl
@[simp] theorem ky_76 : ky 76 = Ky.i (Ky.o (Ky.i (Ky.i (Ky.o (Ky.o (Ky.e)))))) := id rfl
@[simp] theorem ky_77 : ky 77 = Ky.o (Ky.i (Ky.i (Ky.i (Ky.o (Ky.o (Ky.e)))))) := id rfl
@[simp] theorem ky_78 : ky 78 = Ky.i (Ky.i (Ky.i (Ky.i (Ky.o (Ky.o (Ky.e)))))) := id rfl
@[simp] theorem ky_79 : ky 79 = Ky.o (Ky.o (Ky.o (Ky.o (Ky.i (Ky.o (Ky.e)))))) := id rfl
@[simp] theorem ky_80 : ky 80 = Ky.i (Ky.o (Ky.o (Ky.o (Ky.i (Ky.o (Ky.e)))))) := id rfl
@[simp] theorem ky_81 : ky 81 = Ky.o (Ky.i (Ky.o (Ky.o (Ky.i (Ky.o (Ky.e)))))) := id rfl
@[simp] theorem ky_82 : ky 82 = Ky.i (Ky.i (Ky.o (Ky.o (Ky.i (Ky.o (Ky.e)))))) := id rfl
@[simp] theorem ky_83 : ky 83 = Ky.o (Ky.o (Ky.i (Ky.o (Ky.i (Ky.o (Ky.e)))))) := id rfl
@[simp] theorem ky_84 : ky 84 = Ky.i (Ky.o (Ky.i (Ky.o (Ky.i (Ky.o (Ky.e)))))) := id rfl
@[simp] theorem ky_85 : ky 85 = Ky.o (Ky.i (Ky.i (Ky.o (Ky.i (Ky.o (Ky.e)))))) := id rfl
@[simp] theorem ky_86 : ky 86 = Ky.i (Ky.i (Ky.i (Ky.o (Ky.i (Ky.o (Ky.e)))))) := id rfl
@[simp] theorem ky_87 : ky 87 = Ky.o (Ky.o (Ky.o (Ky.i (Ky.i (Ky.o (Ky.e)))))) := id rfl
@[simp] theorem ky_88 : ky 88 = Ky.i (Ky.o (Ky.o (Ky.i (Ky.i (Ky.o (Ky.e)))))) := id rfl
@[simp] theorem ky_89 : ky 89 = Ky.o (Ky.i (Ky.o (Ky.i (Ky.i (Ky.o (Ky.e)))))) := id rfl
@[simp] theorem ky_90 : ky 90 = Ky.i (Ky.i (Ky.o (Ky.i (Ky.i (Ky.o (Ky.e)))))) := id rfl
@[simp] theorem ky_91 : ky 91 = Ky.o (Ky.o (Ky.i (Ky.i (Ky.i (Ky.o (Ky.e)))))) := id rfl
@[simp] theorem ky_92 : ky 92 = Ky.i (Ky.o (Ky.i (Ky.i (Ky.i (Ky.o (Ky.e)))))) := id rfl
@[simp] theorem ky_93 : ky 93 = Ky.o (Ky.i (Ky.i (Ky.i (Ky.i (Ky.o (Ky.e)))))) := id rfl
@[simp] theorem ky_94 : ky 94 = Ky.i (Ky.i (Ky.i (Ky.i (Ky.i (Ky.o (Ky.e)))))) := id rfl
@[simp] theorem ky_95 : ky 95 = Ky.o (Ky.o (Ky.o (Ky.o (Ky.o (Ky.i (Ky.e)))))) := id rfl
@[simp] theorem ky_96 : ky 96 = Ky.i (Ky.o (Ky.o (Ky.o (Ky.o (Ky.i (Ky.e)))))) := id rfl
@[simp] theorem ky_97 : ky 97 = Ky.o (Ky.i (Ky.o (Ky.o (Ky.o (Ky.i (Ky.e)))))) := id rfl
@[simp] theorem ky_98 : ky 98 = Ky.i (Ky.i (Ky.o (Ky.o (Ky.o (Ky.i (Ky.e)))))) := id rfl
@[simp] theorem ky_99 : ky 99 = Ky.o (Ky.o (Ky.i (Ky.o (Ky.o (Ky.i (Ky.e)))))) := id rfl
@[simp] theorem ky_100 : ky 100 = Ky.i (Ky.o (Ky.i (Ky.o (Ky.o (Ky.i (Ky.e)))))) := id rfl
@[simp] theorem ky_101 : ky 101 = Ky.o (Ky.i (Ky.i (Ky.o (Ky.o (Ky.i (Ky.e)))))) := id rfl
@[simp] theorem ky_102 : ky 102 = Ky.i (Ky.i (Ky.i (Ky.o (Ky.o (Ky.i (Ky.e)))))) := id rfl
@[simp] theorem ky_103 : ky 103 = Ky.o (Ky.o (Ky.o (Ky.i (Ky.o (Ky.i (Ky.e)))))) := id rfl
@[simp] theorem ky_104 : ky 104 = Ky.i (Ky.o (Ky.o (Ky.i (Ky.o (Ky.i (Ky.e)))))) := id rfl
@[simp] theorem ky_105 : ky 105 = Ky.o (Ky.i (Ky.o (Ky.i (Ky.o (Ky.i (Ky.e)))))) := id rfl
@[simp] theorem ky_106 : ky 106 = Ky.i (Ky.i (Ky.o (Ky.i (Ky.o (Ky.i (Ky.e)))))) := id rfl
@[simp] theorem ky_107 : ky 107 = Ky.o (Ky.o (Ky.i (Ky.i (Ky.o (Ky.i (Ky.e)))))) := id rfl
@[simp] theorem ky_108 : ky 108 = Ky.i (Ky.o (Ky.i (Ky.i (Ky.o (Ky.i (Ky.e)))))) := id rfl
@[simp] theorem ky_109 : ky 109 = Ky.o (Ky.i (Ky.i (Ky.i (Ky.o (Ky.i (Ky.e)))))) := id rfl
@[simp] theorem ky_110 : ky 110 = Ky.i (Ky.i (Ky.i (Ky.i (Ky.o (Ky.i (Ky.e)))))) := id rfl
@[simp] theorem ky_111 : ky 111 = Ky.o (Ky.o (Ky.o (Ky.o (Ky.i (Ky.i (Ky.e)))))) := id rfl
@[simp] theorem ky_112 : ky 112 = Ky.i (Ky.o (Ky.o (Ky.o (Ky.i (Ky.i (Ky.e)))))) := id rfl
@[simp] theorem ky_113 : ky 113 = Ky.o (Ky.i (Ky.o (Ky.o (Ky.i (Ky.i (Ky.e)))))) := id rfl
@[simp] theorem ky_114 : ky 114 = Ky.i (Ky.i (Ky.o (Ky.o (Ky.i (Ky.i (Ky.e)))))) := id rfl
@[simp] theorem ky_115 : ky 115 = Ky.o (Ky.o (Ky.i (Ky.o (Ky.i (Ky.i (Ky.e)))))) := id rfl
@[simp] theorem ky_116 : ky 116 = Ky.i (Ky.o (Ky.i (Ky.o (Ky.i (Ky.i (Ky.e)))))) := id rfl
@[simp] theorem ky_117 : ky 117 = Ky.o (Ky.i (Ky.i (Ky.o (Ky.i (Ky.i (Ky.e)))))) := id rfl
@[simp] theorem ky_118 : ky 118 = Ky.i (Ky.i (Ky.i (Ky.o (Ky.i (Ky.i (Ky.e)))))) := id rfl
@[simp] theorem ky_119 : ky 119 = Ky.o (Ky.o (Ky.o (Ky.i (Ky.i (Ky.i (Ky.e)))))) := id rfl
@[simp] theorem ky_120 : ky 120 = Ky.i (Ky.o (Ky.o (Ky.i (Ky.i (Ky.i (Ky.e)))))) := id rfl
@[simp] theorem ky_121 : ky 121 = Ky.o (Ky.i (Ky.o (Ky.i (Ky.i (Ky.i (Ky.e)))))) := id rfl
@[simp] theorem ky_122 : ky 122 = Ky.i (Ky.i (Ky.o (Ky.i (Ky.i (Ky.i (Ky.e)))))) := id rfl
@[simp] theorem ky_123 : ky 123 = Ky.o (Ky.o (Ky.i (Ky.i (Ky.i (Ky.i (Ky.e)))))) := id rfl
@[simp] theorem ky_124 : ky 124 = Ky.i (Ky.o (Ky.i (Ky.i (Ky.i (Ky.i (Ky.e)))))) := id rfl
@[simp] theorem ky_125 : ky 125 = Ky.o (Ky.i (Ky.i (Ky.i (Ky.i (Ky.i (Ky.e)))))) := id rfl
@[simp] theorem ky_126 : ky 126 = Ky.i (Ky.i (Ky.i (Ky.i (Ky.i (Ky.i (Ky.e)))))) := id rfl
@[simp] theorem ky_127 : ky 127 = Ky.o (Ky.o (Ky.o (Ky.o (Ky.o (Ky.o (Ky.o (Ky.e))))))) := id rfl
@[simp] theorem ky_128 : ky 128 = Ky.i (Ky.o (Ky.o (Ky.o (Ky.o (Ky.o (Ky.o (Ky.e))))))) := id rfl
@[simp] theorem ky_129 : ky 129 = Ky.o (Ky.i (Ky.o (Ky.o (Ky.o (Ky.o (Ky.o (Ky.e))))))) := id rfl
@[simp] theorem ky_130 : ky 130 = Ky.i (Ky.i (Ky.o (Ky.o (Ky.o (Ky.o (Ky.o (Ky.e))))))) := id rfl
@[simp] theorem ky_131 : ky 131 = Ky.o (Ky.o (Ky.i (Ky.o (Ky.o (Ky.o (Ky.o (Ky.e))))))) := id rfl
@[simp] theorem ky_132 : ky 132 = Ky.i (Ky.o (Ky.i (Ky.o (Ky.o (Ky.o (Ky.o (Ky.e))))))) := id rfl
@[simp] theorem ky_133 : ky 133 = Ky.o (Ky.i (Ky.i (Ky.o (Ky.o (Ky.o (Ky.o (Ky.e))))))) := id rfl
@[simp] theorem ky_134 : ky 134 = Ky.i (Ky.i (Ky.i (Ky.o (Ky.o (Ky.o (Ky.o (Ky.e))))))) := id rfl
@[simp] theorem ky_135 : ky 135 = Ky.o (Ky.o (Ky.o (Ky.i (Ky.o (Ky.o (Ky.o (Ky.e))))))) := id rfl
@[simp] theorem ky_136 : ky 136 = Ky.i (Ky.o (Ky.o (Ky.i (Ky.o (Ky.o (Ky.o (Ky.e))))))) := id rfl
@[simp] theorem ky_137 : ky 137 = Ky.o (Ky.i (Ky.o (Ky.i (Ky.o (Ky.o (Ky.o (Ky.e))))))) := id rfl
@[simp] theorem ky_138 : ky 138 = Ky.i (Ky.i (Ky.o (Ky.i (Ky.o (Ky.o (Ky.o (Ky.e))))))) := id rfl
@[simp] theorem ky_139 : ky 139 = Ky.o (Ky.o (Ky.i (Ky.i (Ky.o (Ky.o (Ky.o (Ky.e))))))) := id rfl
@[simp] theorem ky_140 : ky 140 = Ky.i (Ky.o (Ky.i (Ky.i (Ky.o (Ky.o (Ky.o (Ky.e))))))) := id rfl
@[simp] theorem ky_141 : ky 141 = Ky.o (Ky.i (Ky.i (Ky.i (Ky.o (Ky.o (Ky.o (Ky.e))))))) := id rfl
@[simp] theorem ky_142 : ky 142 = Ky.i (Ky.i (Ky.i (Ky.i (Ky.o (Ky.o (Ky.o (Ky.e))))))) := id rfl
@[simp] theorem ky_143 : ky 143 = Ky.o (Ky.o (Ky.o (Ky.o (Ky.i (Ky.o (Ky.o (Ky.e))))))) := id rfl
@[simp] theorem ky_144 : ky 144 = Ky.i (Ky.o (Ky.o (Ky.o (Ky.i (Ky.o (Ky.o (Ky.e))))))) := id rfl
@[simp] theorem ky_145 : ky 145 = Ky.o (Ky.i (Ky.o (Ky.o (Ky.i (Ky.o (Ky.o (Ky.e))))))) := id rfl
@[simp] theorem ky_146 : ky 146 = Ky.i (Ky.i (Ky.o (Ky.o (Ky.i (Ky.o (Ky.o (Ky.e))))))) := id rfl
@[simp] theorem ky_147 : ky 147 = Ky.o (Ky.o (Ky.i (Ky.o (Ky.i (Ky.o (Ky.o (Ky.e))))))) := id rfl
@[simp] theorem ky_148 : ky 148 = Ky.i (Ky.o (Ky.i (Ky.o (Ky.i (Ky.o (Ky.o (Ky.e))))))) := id rfl
@[simp] theorem ky_149 : ky 149 = Ky.o (Ky.i (Ky.i (Ky.o (Ky.i (Ky.o (Ky.o (Ky.e))))))) := id rfl
@[simp] theorem ky_150 : ky 150 = Ky.i (Ky.i (Ky.i (Ky.o (Ky.i (Ky.o (Ky.o (Ky.e))))))) := id rfl
@[simp] theorem ky_151 : ky 151 = Ky.o (Ky.o (Ky.o (Ky.i (Ky.i (Ky.o (Ky.o (Ky.e))))))) := id rfl
@[simp] theorem ky_152 : ky 152 = Ky.i (Ky.o (Ky.o (Ky.i (Ky.i (Ky.o (Ky.o (Ky.e))))))) := id rfl
@[simp] theorem ky_153 : ky 153 = Ky.o (Ky.i (Ky.o (Ky.i (Ky.i (Ky.o (Ky.o (Ky.e))))))) := id rfl
@[simp] theorem ky_154 : ky 154 = Ky.i (Ky.i (Ky.o (Ky.i (Ky.i (Ky.o (Ky.o (Ky.e))))))) := id rfl
@[simp] theorem ky_155 : ky 155 = Ky.o (Ky.o (Ky.i (Ky.i (Ky.i (Ky.o (Ky.o (Ky.e))))))) := id rfl
@[simp] theorem ky_156 : ky 156 = Ky.i (Ky.o (Ky.i (Ky.i (Ky.i (Ky.o (Ky.o (Ky.e))))))) := id rfl
@[simp] theorem ky_157 : ky 157 = Ky.o (Ky.i (Ky.i (Ky.i (Ky.i (Ky.o (Ky.o (Ky.e))))))) := id rfl
@[simp] theorem ky_158 : ky 158 = Ky.i (Ky.i (Ky.i (Ky.i (Ky.i (Ky.o (Ky.o (Ky.e))))))) := id rfl
@[simp] theorem ky_159 : ky 159 = Ky.o (Ky.o (Ky.o (Ky.o (Ky.o (Ky.i (Ky.o (Ky.e))))))) := id rfl
@[simp] theorem ky_160 : ky 160 = Ky.i (Ky.o (Ky.o (Ky.o (Ky.o (Ky.i (Ky.o (Ky.e))))))) := id rfl
@[simp] theorem ky_161 : ky 161 = Ky.o (Ky.i (Ky.o (Ky.o (Ky.o (Ky.i (Ky.o (Ky.e))))))) := id rfl
@[simp] theorem ky_162 : ky 162 = Ky.i (Ky.i (Ky.o (Ky.o (Ky.o (Ky.i (Ky.o (Ky.e))))))) := id rfl
@[simp] theorem ky_163 : ky 163 = Ky.o (Ky.o (Ky.i (Ky.o (Ky.o (Ky.i (Ky.o (Ky.e))))))) := id rfl
@[simp] theorem ky_164 : ky 164 = Ky.i (Ky.o (Ky.i (Ky.o (Ky.o (Ky.i (Ky.o (Ky.e))))))) := id rfl
@[simp] theorem ky_165 : ky 165 = Ky.o (Ky.i (Ky.i (Ky.o (Ky.o (Ky.i (Ky.o (Ky.e))))))) := id rfl
@[simp] theorem ky_166 : ky 166 = Ky.i (Ky.i (Ky.i (Ky.o (Ky.o (Ky.i (Ky.o (Ky.e))))))) := id rfl
@[simp] theorem ky_167 : ky 167 = Ky.o (Ky.o (Ky.o (Ky.i (Ky.o (Ky.i (Ky.o (Ky.e))))))) := id rfl
@[simp] theorem ky_168 : ky 168 = Ky.i (Ky.o (Ky.o (Ky.i (Ky.o (Ky.i (Ky.o (Ky.e))))))) := id rfl
@[simp] theorem ky_169 : ky 169 = Ky.o (Ky.i (Ky.o (Ky.i (Ky.o (Ky.i (Ky.o (Ky.e))))))) := id rfl
@[simp] theorem ky_170 : ky 170 = Ky.i (Ky.i (Ky.o (Ky.i (Ky.o (Ky.i (Ky.o (Ky.e))))))) := id rfl
@[simp] theorem ky_171 : ky 171 = Ky.o (Ky.o (Ky.i (Ky.i (Ky.o (Ky.i (Ky.o (Ky.e))))))) := id rfl
@[simp] theorem ky_172 : ky 172 = Ky.i (Ky.o (Ky.i (Ky.i (Ky.o (Ky.i (Ky.o (Ky.e))))))) := id rfl
@[simp] theorem ky_173 : ky 173 = Ky.o (Ky.i (Ky.i (Ky.i (Ky.o (Ky.i (Ky.o (Ky.e))))))) := id rfl
@[simp] theorem ky_174 : ky 174 = Ky.i (Ky.i (Ky.i (Ky.i (Ky.o (Ky.i (Ky.o (Ky.e))))))) := id rfl
@[simp] theorem ky_175 : ky 175 = Ky.o (Ky.o (Ky.o (Ky.o (Ky.i (Ky.i (Ky.o (Ky.e))))))) := id rfl
@[simp] theorem ky_176 : ky 176 = Ky.i (Ky.o (Ky.o (Ky.o (Ky.i (Ky.i (Ky.o (Ky.e))))))) := id rfl
@[simp] theorem ky_177 : ky 177 = Ky.o (Ky.i (Ky.o (Ky.o (Ky.i (Ky.i (Ky.o (Ky.e))))))) := id rfl
@[simp] theorem ky_178 : ky 178 = Ky.i (Ky.i (Ky.o (Ky.o (Ky.i (Ky.i (Ky.o (Ky.e))))))) := id rfl
@[simp] theorem ky_179 : ky 179 = Ky.o (Ky.o (Ky.i (Ky.o (Ky.i (Ky.i (Ky.o (Ky.e))))))) := id rfl
@[simp] theorem ky_180 : ky 180 = Ky.i (Ky.o (Ky.i (Ky.o (Ky.i (Ky.i (Ky.o (Ky.e))))))) := id rfl
@[simp] theorem ky_181 : ky 181 = Ky.o (Ky.i (Ky.i (Ky.o (Ky.i (Ky.i (Ky.o (Ky.e))))))) := id rfl
@[simp] theorem ky_182 : ky 182 = Ky.i (Ky.i (Ky.i (Ky.o (Ky.i (Ky.i (Ky.o (Ky.e))))))) := id rfl
@[simp] theorem ky_183 : ky 183 = Ky.o (Ky.o (Ky.o (Ky.i (Ky.i (Ky.i (Ky.o (Ky.e))))))) := id rfl
@[simp] theorem ky_184 : ky 184 = Ky.i (Ky.o (Ky.o (Ky.i (Ky.i (Ky.i (Ky.o (Ky.e))))))) := id rfl
@[simp] theorem ky_185 : ky 185 = Ky.o (Ky.i (Ky.o (Ky.i (Ky.i (Ky.i (Ky.o (Ky.e))))))) := id rfl
@[simp] theorem ky_186 : ky 186 = Ky.i (Ky.i (Ky.o (Ky.i (Ky.i (Ky.i (Ky.o (Ky.e))))))) := id rfl
@[simp] theorem ky_187 : ky 187 = Ky.o (Ky.o (Ky.i (Ky.i (Ky.i (Ky.i (Ky.o (Ky.e))))))) := id rfl
@[simp] theorem ky_188 : ky 188 = Ky.i (Ky.o (Ky.i (Ky.i (Ky.i (Ky.i (Ky.o (Ky.e))))))) := id rfl
@[simp] theorem ky_189 : ky 189 = Ky.o (Ky.i (Ky.i (Ky.i (Ky.i (Ky.i (Ky.o (Ky.e))))))) := id rfl
@[simp] theorem ky_190 : ky 190 = Ky.i (Ky.i (Ky.i (Ky.i (Ky.i (Ky.i (Ky.o (Ky.e))))))) := id rfl
@[simp] theorem ky_191 : ky 191 = Ky.o (Ky.o (Ky.o (Ky.o (Ky.o (Ky.o (Ky.i (Ky.e))))))) := id rfl
@[simp] theorem ky_192 : ky 192 = Ky.i (Ky.o (Ky.o (Ky.o (Ky.o (Ky.o (Ky.i (Ky.e))))))) := id rfl
@[simp] theorem ky_193 : ky 193 = Ky.o (Ky.i (Ky.o (Ky.o (Ky.o (Ky.o (Ky.i (Ky.e))))))) := id rfl
@[simp] theorem ky_194 : ky 194 = Ky.i (Ky.i (Ky.o (Ky.o (Ky.o (Ky.o (Ky.i (Ky.e))))))) := id rfl
@[simp] theorem ky_195 : ky 195 = Ky.o (Ky.o (Ky.i (Ky.o (Ky.o (Ky.o (Ky.i (Ky.e))))))) := id rfl
@[simp] theorem ky_196 : ky 196 = Ky.i (Ky.o (Ky.i (Ky.o (Ky.o (Ky.o (Ky.i (Ky.e))))))) := id rfl
@[simp] theorem ky_197 : ky 197 = Ky.o (Ky.i (Ky.i (Ky.o (Ky.o (Ky.o (Ky.i (Ky.e))))))) := id rfl
@[simp] theorem ky_198 : ky 198 = Ky.i (Ky.i (Ky.i (Ky.o (Ky.o (Ky.o (Ky.i (Ky.e))))))) := id rfl
@[simp] theorem ky_199 : ky 199 = Ky.o (Ky.o (Ky.o (Ky.i (Ky.o (Ky.o (Ky.i (Ky.e))))))) := id rfl
@[simp] theorem ky_200 : ky 200 = Ky.i (Ky.o (Ky.o (Ky.i (Ky.o (Ky.o (Ky.i (Ky.e))))))) := id rfl
@[simp] theorem ky_201 : ky 201 = Ky.o (Ky.i (Ky.o (Ky.i (Ky.o (Ky.o (Ky.i (Ky.e))))))) := id rfl
@[simp] theorem ky_202 : ky 202 = Ky.i (Ky.i (Ky.o (Ky.i (Ky.o (Ky.o (Ky.i (Ky.e))))))) := id rfl
@[simp] theorem ky_203 : ky 203 = Ky.o (Ky.o (Ky.i (Ky.i (Ky.o (Ky.o (Ky.i (Ky.e))))))) := id rfl
@[simp] theorem ky_204 : ky 204 = Ky.i (Ky.o (Ky.i (Ky.i (Ky.o (Ky.o (Ky.i (Ky.e))))))) := id rfl
@[simp] theorem ky_205 : ky 205 = Ky.o (Ky.i (Ky.i (Ky.i (Ky.o (Ky.o (Ky.i (Ky.e))))))) := id rfl
@[simp] theorem ky_206 : ky 206 = Ky.i (Ky.i (Ky.i (Ky.i (Ky.o (Ky.o (Ky.i (Ky.e))))))) := id rfl
@[simp] theorem ky_207 : ky 207 = Ky.o (Ky.o (Ky.o (Ky.o (Ky.i (Ky.o (Ky.i (Ky.e))))))) := id rfl
@[simp] theorem ky_208 : ky 208 = Ky.i (Ky.o (Ky.o (Ky.o (Ky.i (Ky.o (Ky.i (Ky.e))))))) := id rfl
@[simp] theorem ky_209 : ky 209 = Ky.o (Ky.i (Ky.o (Ky.o (Ky.i (Ky.o (Ky.i (Ky.e))))))) := id rfl
@[simp] theorem ky_210 : ky 210 = Ky.i (Ky.i (Ky.o (Ky.o (Ky.i (Ky.o (Ky.i (Ky.e))))))) := id rfl
@[simp] theorem ky_211 : ky 211 = Ky.o (Ky.o (Ky.i (Ky.o (Ky.i (Ky.o (Ky.i (Ky.e))))))) := id rfl
@[simp] theorem ky_212 : ky 212 = Ky.i (Ky.o (Ky.i (Ky.o (Ky.i (Ky.o (Ky.i (Ky.e))))))) := id rfl
@[simp] theorem ky_213 : ky 213 = Ky.o (Ky.i (Ky.i (Ky.o (Ky.i (Ky.o (Ky.i (Ky.e))))))) := id rfl
@[simp] theorem ky_214 : ky 214 = Ky.i (Ky.i (Ky.i (Ky.o (Ky.i (Ky.o (Ky.i (Ky.e))))))) := id rfl
@[simp] theorem ky_215 : ky 215 = Ky.o (Ky.o (Ky.o (Ky.i (Ky.i (Ky.o (Ky.i (Ky.e))))))) := id rfl
@[simp] theorem ky_216 : ky 216 = Ky.i (Ky.o (Ky.o (Ky.i (Ky.i (Ky.o (Ky.i (Ky.e))))))) := id rfl
@[simp] theorem ky_217 : ky 217 = Ky.o (Ky.i (Ky.o (Ky.i (Ky.i (Ky.o (Ky.i (Ky.e))))))) := id rfl
@[simp] theorem ky_218 : ky 218 = Ky.i (Ky.i (Ky.o (Ky.i (Ky.i (Ky.o (Ky.i (Ky.e))))))) := id rfl
@[simp] theorem ky_219 : ky 219 = Ky.o (Ky.o (Ky.i (Ky.i (Ky.i (Ky.o (Ky.i (Ky.e))))))) := id rfl
@[simp] theorem ky_220 : ky 220 = Ky.i (Ky.o (Ky.i (Ky.i (Ky.i (Ky.o (Ky.i (Ky.e))))))) := id rfl
@[simp] theorem ky_221 : ky 221 = Ky.o (Ky.i (Ky.i (Ky.i (Ky.i (Ky.o (Ky.i (Ky.e))))))) := id rfl
@[simp] theorem ky_222 : ky 222 = Ky.i (Ky.i (Ky.i (Ky.i (Ky.i (Ky.o (Ky.i (Ky.e))))))) := id rfl
@[simp] theorem ky_223 : ky 223 = Ky.o (Ky.o (Ky.o (Ky.o (Ky.o (Ky.i (Ky.i (Ky.e))))))) := id rfl
@[simp] theorem ky_224 : ky 224 = Ky.i (Ky.o (Ky.o (Ky.o (Ky.o (Ky.i (Ky.i (Ky.e))))))) := id rfl
@[simp] theorem ky_225 : ky 225 = Ky.o (Ky.i (Ky.o (Ky.o (Ky.o (Ky.i (Ky.i (Ky.e))))))) := id rfl
@[simp] theorem ky_226 : ky 226 = Ky.i (Ky.i (Ky.o (Ky.o (Ky.o (Ky.i (Ky.i (Ky.e))))))) := id rfl
@[simp] theorem ky_227 : ky 227 = Ky.o (Ky.o (Ky.i (Ky.o (Ky.o (Ky.i (Ky.i (Ky.e))))))) := id rfl
@[simp] theorem ky_228 : ky 228 = Ky.i (Ky.o (Ky.i (Ky.o (Ky.o (Ky.i (Ky.i (Ky.e))))))) := id rfl
@[simp] theorem ky_229 : ky 229 = Ky.o (Ky.i (Ky.i (Ky.o (Ky.o (Ky.i (Ky.i (Ky.e))))))) := id rfl
@[simp] theorem ky_230 : ky 230 = Ky.i (Ky.i (Ky.i (Ky.o (Ky.o (Ky.i (Ky.i (Ky.e))))))) := id rfl
@[simp] theorem ky_231 : ky 231 = Ky.o (Ky.o (Ky.o (Ky.i (Ky.o (Ky.i (Ky.i (Ky.e))))))) := id rfl
@[simp] theorem ky_232 : ky 232 = Ky.i (Ky.o (Ky.o (Ky.i (Ky.o (Ky.i (Ky.i (Ky.e))))))) := id rfl
@[simp] theorem ky_233 : ky 233 = Ky.o (Ky.i (Ky.o (Ky.i (Ky.o (Ky.i (Ky.i (Ky.e))))))) := id rfl
@[simp] theorem ky_234 : ky 234 = Ky.i (Ky.i (Ky.o (Ky.i (Ky.o (Ky.i (Ky.i (Ky.e))))))) := id rfl
@[simp] theorem ky_235 : ky 235 = Ky.o (Ky.o (Ky.i (Ky.i (Ky.o (Ky.i (Ky.i (Ky.e))))))) := id rfl
@[simp] theorem ky_236 : ky 236 = Ky.i (Ky.o (Ky.i (Ky.i (Ky.o (Ky.i (Ky.i (Ky.e))))))) := id rfl
@[simp] theorem ky_237 : ky 237 = Ky.o (Ky.i (Ky.i (Ky.i (Ky.o (Ky.i (Ky.i (Ky.e))))))) := id rfl
@[simp] theorem ky_238 : ky 238 = Ky.i (Ky.i (Ky.i (Ky.i (Ky.o (Ky.i (Ky.i (Ky.e))))))) := id rfl
@[simp] theorem ky_239 : ky 239 = Ky.o (Ky.o (Ky.o (Ky.o (Ky.i (Ky.i (Ky.i (Ky.e))))))) := id rfl
@[simp] theorem ky_240 : ky 240 = Ky.i (Ky.o (Ky.o (Ky.o (Ky.i (Ky.i (Ky.i (Ky.e))))))) := id rfl
@[simp] theorem ky_241 : ky 241 = Ky.o (Ky.i (Ky.o (Ky.o (Ky.i (Ky.i (Ky.i (Ky.e))))))) := id rfl
@[simp] theorem ky_242 : ky 242 = Ky.i (Ky.i (Ky.o (Ky.o (Ky.i (Ky.i (Ky.i (Ky.e))))))) := id rfl
@[simp] theorem ky_243 : ky 243 = Ky.o (Ky.o (Ky.i (Ky.o (Ky.i (Ky.i (Ky.i (Ky.e))))))) := id rfl
@[simp] theorem ky_244 : ky 244 = Ky.i (Ky.o (Ky.i (Ky.o (Ky.i (Ky.i (Ky.i (Ky.e))))))) := id rfl
@[simp] theorem ky_245 : ky 245 = Ky.o (Ky.i (Ky.i (Ky.o (Ky.i (Ky.i (Ky.i (Ky.e))))))) := id rfl
@[simp] theorem ky_246 : ky 246 = Ky.i (Ky.i (Ky.i (Ky.o (Ky.i (Ky.i (Ky.i (Ky.e))))))) := id rfl
@[simp] theorem ky_247 : ky 247 = Ky.o (Ky.o (Ky.o (Ky.i (Ky.i (Ky.i (Ky.i (Ky.e))))))) := id rfl
@[simp] theorem ky_248 : ky 248 = Ky.i (Ky.o (Ky.o (Ky.i (Ky.i (Ky.i (Ky.i (Ky.e))))))) := id rfl
@[simp] theorem ky_249 : ky 249 = Ky.o (Ky.i (Ky.o (Ky.i (Ky.i (Ky.i (Ky.i (Ky.e))))))) := id rfl
@[simp] theorem ky_250 : ky 250 = Ky.i (Ky.i (Ky.o (Ky.i (Ky.i (Ky.i (Ky.i (Ky.e))))))) := id rfl
@[simp] theorem ky_251 : ky 251 = Ky.o (Ky.o (Ky.i (Ky.i (Ky.i (Ky.i (Ky.i (Ky.e))))))) := id rfl
@[simp] theorem ky_252 : ky 252 = Ky.i (Ky.o (Ky.i (Ky.i (Ky.i (Ky.i (Ky.i (Ky.e))))))) := id rfl
@[simp] theorem ky_253 : ky 253 = Ky.o (Ky.i (Ky.i (Ky.i (Ky.i (Ky.i (Ky.i (Ky.e))))))) := id rfl
@[simp] theorem ky_254 : ky 254 = Ky.i (Ky.i (Ky.i (Ky.i (Ky.i (Ky.i (Ky.i (Ky.e))))))) := id rfl
@[simp] theorem ky_255 : ky 255 = Ky.o (Ky.o (Ky.o (Ky.o (Ky.o (Ky.o (Ky.o (Ky.o (Ky.e)))))))) := id rfl
@[simp] theorem ky_256 : ky 256 = Ky.i (Ky.o (Ky.o (Ky.o (Ky.o (Ky.o (Ky.o (Ky.o (Ky.e)))))))) := id rfl
@[simp] theorem ky_257 : ky 257 = Ky.o (Ky.i (Ky.o (Ky.o (Ky.o (Ky.o (Ky.o (Ky.o (Ky.e)))))))) := id rfl
@[simp] theorem ky_258 : ky 258 = Ky.i (Ky.i (Ky.o (Ky.o (Ky.o (Ky.o (Ky.o (Ky.o (Ky.e)))))))) := id rfl
@[simp] theorem ky_259 : ky 259 = Ky.o (Ky.o (Ky.i (Ky.o (Ky.o (Ky.o (Ky.o (Ky.o (Ky.e)))))))) := id rfl
@[simp] theorem ky_260 : ky 260 = Ky.i (Ky.o (Ky.i (Ky.o (Ky.o (Ky.o (Ky.o (Ky.o (Ky.e)))))))) := id rfl
@[simp] theorem ky_261 : ky 261 = Ky.o (Ky.i (Ky.i (Ky.o (Ky.o (Ky.o (Ky.o (Ky.o (Ky.e)))))))) := id rfl
@[simp] theorem ky_262 : ky 262 = Ky.i (Ky.i (Ky.i (Ky.o (Ky.o (Ky.o (Ky.o (Ky.o (Ky.e)))))))) := id rfl
@[simp] theorem ky_263 : ky 263 = Ky.o (Ky.o (Ky.o (Ky.i (Ky.o (Ky.o (Ky.o (Ky.o (Ky.e)))))))) := id rfl
@[simp] theorem ky_264 : ky 264 = Ky.i (Ky.o (Ky.o (Ky.i (Ky.o (Ky.o (Ky.o (Ky.o (Ky.e)))))))) := id rfl
@[simp] theorem ky_265 : ky 265 = Ky.o (Ky.i (Ky.o (Ky.i (Ky.o (Ky.o (Ky.o (Ky.o (Ky.e)))))))) := id rfl
@[simp] theorem ky_266 : ky 266 = Ky.i (Ky.i (Ky.o (Ky.i (Ky.o (Ky.o (Ky.o (Ky.o (Ky.e)))))))) := id rfl
@[simp] theorem ky_267 : ky 267 = Ky.o (Ky.o (Ky.i (Ky.i (Ky.o (Ky.o (Ky.o (Ky.o (Ky.e)))))))) := id rfl
@[simp] theorem ky_268 : ky 268 = Ky.i (Ky.o (Ky.i (Ky.i (Ky.o (Ky.o (Ky.o (Ky.o (Ky.e)))))))) := id rfl
@[simp] theorem ky_269 : ky 269 = Ky.o (Ky.i (Ky.i (Ky.i (Ky.o (Ky.o (Ky.o (Ky.o (Ky.e)))))))) := id rfl
@[simp] theorem ky_270 : ky 270 = Ky.i (Ky.i (Ky.i (Ky.i (Ky.o (Ky.o (Ky.o (Ky.o (Ky.e)))))))) := id rfl
@[simp] theorem ky_271 : ky 271 = Ky.o (Ky.o (Ky.o (Ky.o (Ky.i (Ky.o (Ky.o (Ky.o (Ky.e)))))))) := id rfl
@[simp] theorem ky_272 : ky 272 = Ky.i (Ky.o (Ky.o (Ky.o (Ky.i (Ky.o (Ky.o (Ky.o (Ky.e)))))))) := id rfl
@[simp] theorem ky_273 : ky 273 = Ky.o (Ky.i (Ky.o (Ky.o (Ky.i (Ky.o (Ky.o (Ky.o (Ky.e)))))))) := id rfl
@[simp] theorem ky_274 : ky 274 = Ky.i (Ky.i (Ky.o (Ky.o (Ky.i (Ky.o (Ky.o (Ky.o (Ky.e)))))))) := id rfl
@[simp] theorem ky_275 : ky 275 = Ky.o (Ky.o (Ky.i (Ky.o (Ky.i (Ky.o (Ky.o (Ky.o (Ky.e)))))))) := id rfl
@[simp] theorem ky_276 : ky 276 = Ky.i (Ky.o (Ky.i (Ky.o (Ky.i (Ky.o (Ky.o (Ky.o (Ky.e)))))))) := id rfl
@[simp] theorem ky_277 : ky 277 = Ky.o (Ky.i (Ky.i (Ky.o (Ky.i (Ky.o (Ky.o (Ky.o (Ky.e)))))))) := id rfl
@[simp] theorem ky_278 : ky 278 = Ky.i (Ky.i (Ky.i (Ky.o (Ky.i (Ky.o (Ky.o (Ky.o (Ky.e)))))))) := id rfl
@[simp] theorem ky_279 : ky 279 = Ky.o (Ky.o (Ky.o (Ky.i (Ky.i (Ky.o (Ky.o (Ky.o (Ky.e)))))))) := id rfl
@[simp] theorem ky_280 : ky 280 = Ky.i (Ky.o (Ky.o (Ky.i (Ky.i (Ky.o (Ky.o (Ky.o (Ky.e)))))))) := id rfl
@[simp] theorem ky_281 : ky 281 = Ky.o (Ky.i (Ky.o (Ky.i (Ky.i (Ky.o (Ky.o (Ky.o (Ky.e)))))))) := id rfl
@[simp] theorem ky_282 : ky 282 = Ky.i (Ky.i (Ky.o (Ky.i (Ky.i (Ky.o (Ky.o (Ky.o (Ky.e)))))))) := id rfl
@[simp] theorem ky_283 : ky 283 = Ky.o (Ky.o (Ky.i (Ky.i (Ky.i (Ky.o (Ky.o (Ky.o (Ky.e)))))))) := id rfl
@[simp] theorem ky_284 : ky 284 = Ky.i (Ky.o (Ky.i (Ky.i (Ky.i (Ky.o (Ky.o (Ky.o (Ky.e)))))))) := id rfl
@[simp] theorem ky_285 : ky 285 = Ky.o (Ky.i (Ky.i (Ky.i (Ky.i (Ky.o (Ky.o (Ky.o (Ky.e)))))))) := id rfl
@[simp] theorem ky_286 : ky 286 = Ky.i (Ky.i (Ky.i (Ky.i (Ky.i (Ky.o (Ky.o (Ky.o (Ky.e)))))))) := id rfl
@[simp] theorem ky_287 : ky 287 = Ky.o (Ky.o (Ky.o (Ky.o (Ky.o (Ky.i (Ky.o (Ky.o (Ky.e)))))))) := id rfl
@[simp] theorem ky_288 : ky 288 = Ky.i (Ky.o (Ky.o (Ky.o (Ky.o (Ky.i (Ky.o (Ky.o (Ky.e)))))))) := id rfl
@[simp] theorem ky_289 : ky 289 = Ky.o (Ky.i (Ky.o (Ky.o (Ky.o (Ky.i (Ky.o (Ky.o (Ky.e)))))))) := id rfl
@[simp] theorem ky_290 : ky 290 = Ky.i (Ky.i (Ky.o (Ky.o (Ky.o (Ky.i (Ky.o (Ky.o (Ky.e)))))))) := id rfl
@[simp] theorem ky_291 : ky 291 = Ky.o (Ky.o (Ky.i (Ky.o (Ky.o (Ky.i (Ky.o (Ky.o (Ky.e)))))))) := id rfl
@[simp] theorem ky_292 : ky 292 = Ky.i (Ky.o (Ky.i (Ky.o (Ky.o (Ky.i (Ky.o (Ky.o (Ky.e)))))))) := id rfl
@[simp] theorem ky_293 : ky 293 = Ky.o (Ky.i (Ky.i (Ky.o (Ky.o (Ky.i (Ky.o (Ky.o (Ky.e)))))))) := id rfl
@[simp] theorem ky_294 : ky 294 = Ky.i (Ky.i (Ky.i (Ky.o (Ky.o (Ky.i (Ky.o (Ky.o (Ky.e)))))))) := id rfl
@[simp] theorem ky_295 : ky 295 = Ky.o (Ky.o (Ky.o (Ky.i (Ky.o (Ky.i (Ky.o (Ky.o (Ky.e)))))))) := id rfl
@[simp] theorem ky_296 : ky 296 = Ky.i (Ky.o (Ky.o (Ky.i (Ky.o (Ky.i (Ky.o (Ky.o (Ky.e)))))))) := id rfl
@[simp] theorem ky_297 : ky 297 = Ky.o (Ky.i (Ky.o (Ky.i (Ky.o (Ky.i (Ky.o (Ky.o (Ky.e)))))))) := id rfl
@[simp] theorem ky_298 : ky 298 = Ky.i (Ky.i (Ky.o (Ky.i (Ky.o (Ky.i (Ky.o (Ky.o (Ky.e)))))))) := id rfl
@[simp] theorem ky_299 : ky 299 = Ky.o (Ky.o (Ky.i (Ky.i (Ky.o (Ky.i (Ky.o (Ky.o (Ky.e)))))))) := id rfl
@[simp] theorem ky_300 : ky 300 = Ky.i (Ky.o (Ky.i (Ky.i (Ky.o (Ky.i (Ky.o (Ky.o (Ky.e)))))))) := id rfl
@[simp] theorem ky_301 : ky 301 = Ky.o (Ky.i (Ky.i (Ky.i (Ky.o (Ky.i (Ky.o (Ky.o (Ky.e)))))))) := id rfl
@[simp] theorem ky_302 : ky 302 = Ky.i (Ky.i (Ky.i (Ky.i (Ky.o (Ky.i (Ky.o (Ky.o (Ky.e)))))))) := id rfl
@[simp] theorem ky_303 : ky 303 = Ky.o (Ky.o (Ky.o (Ky.o (Ky.i (Ky.i (Ky.o (Ky.o (Ky.e)))))))) := id rfl
@[simp] theorem ky_304 : ky 304 = Ky.i (Ky.o (Ky.o (Ky.o (Ky.i (Ky.i (Ky.o (Ky.o (Ky.e)))))))) := id rfl
@[simp] theorem ky_305 : ky 305 = Ky.o (Ky.i (Ky.o (Ky.o (Ky.i (Ky.i (Ky.o (Ky.o (Ky.e)))))))) := id rfl
@[simp] theorem ky_306 : ky 306 = Ky.i (Ky.i (Ky.o (Ky.o (Ky.i (Ky.i (Ky.o (Ky.o (Ky.e)))))))) := id rfl
@[simp] theorem ky_307 : ky 307 = Ky.o (Ky.o (Ky.i (Ky.o (Ky.i (Ky.i (Ky.o (Ky.o (Ky.e)))))))) := id rfl
@[simp] theorem ky_308 : ky 308 = Ky.i (Ky.o (Ky.i (Ky.o (Ky.i (Ky.i (Ky.o (Ky.o (Ky.e)))))))) := id rfl
@[simp] theorem ky_309 : ky 309 = Ky.o (Ky.i (Ky.i (Ky.o (Ky.i (Ky.i (Ky.o (Ky.o (Ky.e)))))))) := id rfl
@[simp] theorem ky_310 : ky 310 = Ky.i (Ky.i (Ky.i (Ky.o (Ky.i (Ky.i (Ky.o (Ky.o (Ky.e)))))))) := id rfl
@[simp] theorem ky_311 : ky 311 = Ky.o (Ky.o (Ky.o (Ky.i (Ky.i (Ky.i (Ky.o (Ky.o (Ky.e)))))))) := id rfl
@[simp] theorem ky_312 : ky 312 = Ky.i (Ky.o (Ky.o (Ky.i (Ky.i (Ky.i (Ky.o (Ky.o (Ky.e)))))))) := id rfl
@[simp] theorem ky_313 : ky 313 = Ky.o (Ky.i (Ky.o (Ky.i (Ky.i (Ky.i (Ky.o (Ky.o (Ky.e)))))))) := id rfl
@[simp] theorem ky_314 : ky 314 = Ky.i (Ky.i (Ky.o (Ky.i (Ky.i (Ky.i (Ky.o (Ky.o (Ky.e)))))))) := id rfl
@[simp] theorem ky_315 : ky 315 = Ky.o (Ky.o (Ky.i (Ky.i (Ky.i (Ky.i (Ky.o (Ky.o (Ky.e)))))))) := id rfl
@[simp] theorem ky_316 : ky 316 = Ky.i (Ky.o (Ky.i (Ky.i (Ky.i (Ky.i (Ky.o (Ky.o (Ky.e)))))))) := id rfl
@[simp] theorem ky_317 : ky 317 = Ky.o (Ky.i (Ky.i (Ky.i (Ky.i (Ky.i (Ky.o (Ky.o (Ky.e)))))))) := id rfl
@[simp] theorem ky_318 : ky 318 = Ky.i (Ky.i (Ky.i (Ky.i (Ky.i (Ky.i (Ky.o (Ky.o (Ky.e)))))))) := id rfl
@[simp] theorem ky_319 : ky 319 = Ky.o (Ky.o (Ky.o (Ky.o (Ky.o (Ky.o (Ky.i (Ky.o (Ky.e)))))))) := id rfl
@[simp] theorem ky_320 : ky 320 = Ky.i (Ky.o (Ky.o (Ky.o (Ky.o (Ky.o (Ky.i (Ky.o (Ky.e)))))))) := id rfl
@[simp] theorem ky_321 : ky 321 = Ky.o (Ky.i (Ky.o (Ky.o (Ky.o (Ky.o (Ky.i (Ky.o (Ky.e)))))))) := id rfl
@[simp] theorem ky_322 : ky 322 = Ky.i (Ky.i (Ky.o (Ky.o (Ky.o (Ky.o (Ky.i (Ky.o (Ky.e)))))))) := id rfl
@[simp] theorem ky_323 : ky 323 = Ky.o (Ky.o (Ky.i (Ky.o (Ky.o (Ky.o (Ky.i (Ky.o (Ky.e)))))))) := id rfl
@[simp] theorem ky_324 : ky 324 = Ky.i (Ky.o (Ky.i (Ky.o (Ky.o (Ky.o (Ky.i (Ky.o (Ky.e)))))))) := id rfl
@[simp] theorem ky_325 : ky 325 = Ky.o (Ky.i (Ky.i (Ky.o (Ky.o (Ky.o (Ky.i (Ky.o (Ky.e)))))))) := id rfl
@[simp] theorem ky_326 : ky 326 = Ky.i (Ky.i (Ky.i (Ky.o (Ky.o (Ky.o (Ky.i (Ky.o (Ky.e)))))))) := id rfl
@[simp] theorem ky_327 : ky 327 = Ky.o (Ky.o (Ky.o (Ky.i (Ky.o (Ky.o (Ky.i (Ky.o (Ky.e)))))))) := id rfl
@[simp] theorem ky_328 : ky 328 = Ky.i (Ky.o (Ky.o (Ky.i (Ky.o (Ky.o (Ky.i (Ky.o (Ky.e)))))))) := id rfl
@[simp] theorem ky_329 : ky 329 = Ky.o (Ky.i (Ky.o (Ky.i (Ky.o (Ky.o (Ky.i (Ky.o (Ky.e)))))))) := id rfl
@[simp] theorem ky_330 : ky 330 = Ky.i (Ky.i (Ky.o (Ky.i (Ky.o (Ky.o (Ky.i (Ky.o (Ky.e)))))))) := id rfl
@[simp] theorem ky_331 : ky 331 = Ky.o (Ky.o (Ky.i (Ky.i (Ky.o (Ky.o (Ky.i (Ky.o (Ky.e)))))))) := id rfl
@[simp] theorem ky_332 : ky 332 = Ky.i (Ky.o (Ky.i (Ky.i (Ky.o (Ky.o (Ky.i (Ky.o (Ky.e)))))))) := id rfl
@[simp] theorem ky_333 : ky 333 = Ky.o (Ky.i (Ky.i (Ky.i (Ky.o (Ky.o (Ky.i (Ky.o (Ky.e)))))))) := id rfl
@[simp] theorem ky_334 : ky 334 = Ky.i (Ky.i (Ky.i (Ky.i (Ky.o (Ky.o (Ky.i (Ky.o (Ky.e)))))))) := id rfl
@[simp] theorem ky_335 : ky 335 = Ky.o (Ky.o (Ky.o (Ky.o (Ky.i (Ky.o (Ky.i (Ky.o (Ky.e)))))))) := id rfl
@[simp] theorem ky_336 : ky 336 = Ky.i (Ky.o (Ky.o (Ky.o (Ky.i (Ky.o (Ky.i (Ky.o (Ky.e)))))))) := id rfl
@[simp] theorem ky_337 : ky 337 = Ky.o (Ky.i (Ky.o (Ky.o (Ky.i (Ky.o (Ky.i (Ky.o (Ky.e)))))))) := id rfl
@[simp] theorem ky_338 : ky 338 = Ky.i (Ky.i (Ky.o (Ky.o (Ky.i (Ky.o (Ky.i (Ky.o (Ky.e)))))))) := id rfl
@[simp] theorem ky_339 : ky 339 = Ky.o (Ky.o (Ky.i (Ky.o (Ky.i (Ky.o (Ky.i (Ky.o (Ky.e)))))))) := id rfl
@[simp] theorem ky_340 : ky 340 = Ky.i (Ky.o (Ky.i (Ky.o (Ky.i (Ky.o (Ky.i (Ky.o (Ky.e)))))))) := id rfl
@[simp] theorem ky_341 : ky 341 = Ky.o (Ky.i (Ky.i (Ky.o (Ky.i (Ky.o (Ky.i (Ky.o (Ky.e)))))))) := id rfl
@[simp] theorem ky_342 : ky 342 = Ky.i (Ky.i (Ky.i (Ky.o (Ky.i (Ky.o (Ky.i (Ky.o (Ky.e)))))))) := id rfl
@[simp] theorem ky_343 : ky 343 = Ky.o (Ky.o (Ky.o (Ky.i (Ky.i (Ky.o (Ky.i (Ky.o (Ky.e)))))))) := id rfl
@[simp] theorem ky_344 : ky 344 = Ky.i (Ky.o (Ky.o (Ky.i (Ky.i (Ky.o (Ky.i (Ky.o (Ky.e)))))))) := id rfl
@[simp] theorem ky_345 : ky 345 = Ky.o (Ky.i (Ky.o (Ky.i (Ky.i (Ky.o (Ky.i (Ky.o (Ky.e)))))))) := id rfl
@[simp] theorem ky_346 : ky 346 = Ky.i (Ky.i (Ky.o (Ky.i (Ky.i (Ky.o (Ky.i (Ky.o (Ky.e)))))))) := id rfl
@[simp] theorem ky_347 : ky 347 = Ky.o (Ky.o (Ky.i (Ky.i (Ky.i (Ky.o (Ky.i (Ky.o (Ky.e)))))))) := id rfl
@[simp] theorem ky_348 : ky 348 = Ky.i (Ky.o (Ky.i (Ky.i (Ky.i (Ky.o (Ky.i (Ky.o (Ky.e)))))))) := id rfl
@[simp] theorem ky_349 : ky 349 = Ky.o (Ky.i (Ky.i (Ky.i (Ky.i (Ky.o (Ky.i (Ky.o (Ky.e)))))))) := id rfl
@[simp] theorem ky_350 : ky 350 = Ky.i (Ky.i (Ky.i (Ky.i (Ky.i (Ky.o (Ky.i (Ky.o (Ky.e)))))))) := id rfl
@[simp] theorem ky_351 : ky 351 = Ky.o (Ky.o (Ky.o (Ky.o (Ky.o (Ky.i (Ky.i (Ky.o (Ky.e)))))))) := id rfl
@[simp] theorem ky_352 : ky 352 = Ky.i (Ky.o (Ky.o (Ky.o (Ky.o (Ky.i (Ky.i (Ky.o (Ky.e)))))))) := id rfl
@[simp] theorem ky_353 : ky 353 = Ky.o (Ky.i (Ky.o (Ky.o (Ky.o (Ky.i (Ky.i (Ky.o (Ky.e)))))))) := id rfl
@[simp] theorem ky_354 : ky 354 = Ky.i (Ky.i (Ky.o (Ky.o (Ky.o (Ky.i (Ky.i (Ky.o (Ky.e)))))))) := id rfl
@[simp] theorem ky_355 : ky 355 = Ky.o (Ky.o (Ky.i (Ky.o (Ky.o (Ky.i (Ky.i (Ky.o (Ky.e)))))))) := id rfl
@[simp] theorem ky_356 : ky 356 = Ky.i (Ky.o (Ky.i (Ky.o (Ky.o (Ky.i (Ky.i (Ky.o (Ky.e)))))))) := id rfl
@[simp] theorem ky_357 : ky 357 = Ky.o (Ky.i (Ky.i (Ky.o (Ky.o (Ky.i (Ky.i (Ky.o (Ky.e)))))))) := id rfl
@[simp] theorem ky_358 : ky 358 = Ky.i (Ky.i (Ky.i (Ky.o (Ky.o (Ky.i (Ky.i (Ky.o (Ky.e)))))))) := id rfl
@[simp] theorem ky_359 : ky 359 = Ky.o (Ky.o (Ky.o (Ky.i (Ky.o (Ky.i (Ky.i (Ky.o (Ky.e)))))))) := id rfl
@[simp] theorem ky_360 : ky 360 = Ky.i (Ky.o (Ky.o (Ky.i (Ky.o (Ky.i (Ky.i (Ky.o (Ky.e)))))))) := id rfl
@[simp] theorem ky_361 : ky 361 = Ky.o (Ky.i (Ky.o (Ky.i (Ky.o (Ky.i (Ky.i (Ky.o (Ky.e)))))))) := id rfl
@[simp] theorem ky_362 : ky 362 = Ky.i (Ky.i (Ky.o (Ky.i (Ky.o (Ky.i (Ky.i (Ky.o (Ky.e)))))))) := id rfl
@[simp] theorem ky_363 : ky 363 = Ky.o (Ky.o (Ky.i (Ky.i (Ky.o (Ky.i (Ky.i (Ky.o (Ky.e)))))))) := id rfl
@[simp] theorem ky_364 : ky 364 = Ky.i (Ky.o (Ky.i (Ky.i (Ky.o (Ky.i (Ky.i (Ky.o (Ky.e)))))))) := id rfl
@[simp] theorem ky_365 : ky 365 = Ky.o (Ky.i (Ky.i (Ky.i (Ky.o (Ky.i (Ky.i (Ky.o (Ky.e)))))))) := id rfl
@[simp] theorem ky_366 : ky 366 = Ky.i (Ky.i (Ky.i (Ky.i (Ky.o (Ky.i (Ky.i (Ky.o (Ky.e)))))))) := id rfl
@[simp] theorem ky_367 : ky 367 = Ky.o (Ky.o (Ky.o (Ky.o (Ky.i (Ky.i (Ky.i (Ky.o (Ky.e)))))))) := id rfl
@[simp] theorem ky_368 : ky 368 = Ky.i (Ky.o (Ky.o (Ky.o (Ky.i (Ky.i (Ky.i (Ky.o (Ky.e)))))))) := id rfl
@[simp] theorem ky_369 : ky 369 = Ky.o (Ky.i (Ky.o (Ky.o (Ky.i (Ky.i (Ky.i (Ky.o (Ky.e)))))))) := id rfl
@[simp] theorem ky_370 : ky 370 = Ky.i (Ky.i (Ky.o (Ky.o (Ky.i (Ky.i (Ky.i (Ky.o (Ky.e)))))))) := id rfl
@[simp] theorem ky_371 : ky 371 = Ky.o (Ky.o (Ky.i (Ky.o (Ky.i (Ky.i (Ky.i (Ky.o (Ky.e)))))))) := id rfl
@[simp] theorem ky_372 : ky 372 = Ky.i (Ky.o (Ky.i (Ky.o (Ky.i (Ky.i (Ky.i (Ky.o (Ky.e)))))))) := id rfl
@[simp] theorem ky_373 : ky 373 = Ky.o (Ky.i (Ky.i (Ky.o (Ky.i (Ky.i (Ky.i (Ky.o (Ky.e)))))))) := id rfl
@[simp] theorem ky_374 : ky 374 = Ky.i (Ky.i (Ky.i (Ky.o (Ky.i (Ky.i (Ky.i (Ky.o (Ky.e)))))))) := id rfl
@[simp] theorem ky_375 : ky 375 = Ky.o (Ky.o (Ky.o (Ky.i (Ky.i (Ky.i (Ky.i (Ky.o (Ky.e)))))))) := id rfl
@[simp] theorem ky_376 : ky 376 = Ky.i (Ky.o (Ky.o (Ky.i (Ky.i (Ky.i (Ky.i (Ky.o (Ky.e)))))))) := id rfl
@[simp] theorem ky_377 : ky 377 = Ky.o (Ky.i (Ky.o (Ky.i (Ky.i (Ky.i (Ky.i (Ky.o (Ky.e)))))))) := id rfl
@[simp] theorem ky_378 : ky 378 = Ky.i (Ky.i (Ky.o (Ky.i (Ky.i (Ky.i (Ky.i (Ky.o (Ky.e)))))))) := id rfl
@[simp] theorem ky_379 : ky 379 = Ky.o (Ky.o (Ky.i (Ky.i (Ky.i (Ky.i (Ky.i (Ky.o (Ky.e)))))))) := id rfl
@[simp] theorem ky_380 : ky 380 = Ky.i (Ky.o (Ky.i (Ky.i (Ky.i (Ky.i (Ky.i (Ky.o (Ky.e)))))))) := id rfl
@[simp] theorem ky_381 : ky 381 = Ky.o (Ky.i (Ky.i (Ky.i (Ky.i (Ky.i (Ky.i (Ky.o (Ky.e)))))))) := id rfl
@[simp] theorem ky_382 : ky 382 = Ky.i (Ky.i (Ky.i (Ky.i (Ky.i (Ky.i (Ky.i (Ky.o (Ky.e)))))))) := id rfl
@[simp] theorem ky_383 : ky 383 = Ky.o (Ky.o (Ky.o (Ky.o (Ky.o (Ky.o (Ky.o (Ky.i (Ky.e)))))))) := id rfl
@[simp] theorem ky_384 : ky 384 = Ky.i (Ky.o (Ky.o (Ky.o (Ky.o (Ky.o (Ky.o (Ky.i (Ky.e)))))))) := id rfl
@[simp] theorem ky_385 : ky 385 = Ky.o (Ky.i (Ky.o (Ky.o (Ky.o (Ky.o (Ky.o (Ky.i (Ky.e)))))))) := id rfl
@[simp] theorem ky_386 : ky 386 = Ky.i (Ky.i (Ky.o (Ky.o (Ky.o (Ky.o (Ky.o (Ky.i (Ky.e)))))))) := id rfl
@[simp] theorem ky_387 : ky 387 = Ky.o (Ky.o (Ky.i (Ky.o (Ky.o (Ky.o (Ky.o (Ky.i (Ky.e)))))))) := id rfl
@[simp] theorem ky_388 : ky 388 = Ky.i (Ky.o (Ky.i (Ky.o (Ky.o (Ky.o (Ky.o (Ky.i (Ky.e)))))))) := id rfl
@[simp] theorem ky_389 : ky 389 = Ky.o (Ky.i (Ky.i (Ky.o (Ky.o (Ky.o (Ky.o (Ky.i (Ky.e)))))))) := id rfl
@[simp] theorem ky_390 : ky 390 = Ky.i (Ky.i (Ky.i (Ky.o (Ky.o (Ky.o (Ky.o (Ky.i (Ky.e)))))))) := id rfl
@[simp] theorem ky_391 : ky 391 = Ky.o (Ky.o (Ky.o (Ky.i (Ky.o (Ky.o (Ky.o (Ky.i (Ky.e)))))))) := id rfl
@[simp] theorem ky_392 : ky 392 = Ky.i (Ky.o (Ky.o (Ky.i (Ky.o (Ky.o (Ky.o (Ky.i (Ky.e)))))))) := id rfl
@[simp] theorem ky_393 : ky 393 = Ky.o (Ky.i (Ky.o (Ky.i (Ky.o (Ky.o (Ky.o (Ky.i (Ky.e)))))))) := id rfl
@[simp] theorem ky_394 : ky 394 = Ky.i (Ky.i (Ky.o (Ky.i (Ky.o (Ky.o (Ky.o (Ky.i (Ky.e)))))))) := id rfl
@[simp] theorem ky_395 : ky 395 = Ky.o (Ky.o (Ky.i (Ky.i (Ky.o (Ky.o (Ky.o (Ky.i (Ky.e)))))))) := id rfl
@[simp] theorem ky_396 : ky 396 = Ky.i (Ky.o (Ky.i (Ky.i (Ky.o (Ky.o (Ky.o (Ky.i (Ky.e)))))))) := id rfl
@[simp] theorem ky_397 : ky 397 = Ky.o (Ky.i (Ky.i (Ky.i (Ky.o (Ky.o (Ky.o (Ky.i (Ky.e)))))))) := id rfl
@[simp] theorem ky_398 : ky 398 = Ky.i (Ky.i (Ky.i (Ky.i (Ky.o (Ky.o (Ky.o (Ky.i (Ky.e)))))))) := id rfl
@[simp] theorem ky_399 : ky 399 = Ky.o (Ky.o (Ky.o (Ky.o (Ky.i (Ky.o (Ky.o (Ky.i (Ky.e)))))))) := id rfl
@[simp] theorem ky_400 : ky 400 = Ky.i (Ky.o (Ky.o (Ky.o (Ky.i (Ky.o (Ky.o (Ky.i (Ky.e)))))))) := id rfl
@[simp] theorem ky_401 : ky 401 = Ky.o (Ky.i (Ky.o (Ky.o (Ky.i (Ky.o (Ky.o (Ky.i (Ky.e)))))))) := id rfl
@[simp] theorem ky_402 : ky 402 = Ky.i (Ky.i (Ky.o (Ky.o (Ky.i (Ky.o (Ky.o (Ky.i (Ky.e)))))))) := id rfl
@[simp] theorem ky_403 : ky 403 = Ky.o (Ky.o (Ky.i (Ky.o (Ky.i (Ky.o (Ky.o (Ky.i (Ky.e)))))))) := id rfl
@[simp] theorem ky_404 : ky 404 = Ky.i (Ky.o (Ky.i (Ky.o (Ky.i (Ky.o (Ky.o (Ky.i (Ky.e)))))))) := id rfl
@[simp] theorem ky_405 : ky 405 = Ky.o (Ky.i (Ky.i (Ky.o (Ky.i (Ky.o (Ky.o (Ky.i (Ky.e)))))))) := id rfl
@[simp] theorem ky_406 : ky 406 = Ky.i (Ky.i (Ky.i (Ky.o (Ky.i (Ky.o (Ky.o (Ky.i (Ky.e)))))))) := id rfl
@[simp] theorem ky_407 : ky 407 = Ky.o (Ky.o (Ky.o (Ky.i (Ky.i (Ky.o (Ky.o (Ky.i (Ky.e)))))))) := id rfl
@[simp] theorem ky_408 : ky 408 = Ky.i (Ky.o (Ky.o (Ky.i (Ky.i (Ky.o (Ky.o (Ky.i (Ky.e)))))))) := id rfl
@[simp] theorem ky_409 : ky 409 = Ky.o (Ky.i (Ky.o (Ky.i (Ky.i (Ky.o (Ky.o (Ky.i (Ky.e)))))))) := id rfl
@[simp] theorem ky_410 : ky 410 = Ky.i (Ky.i (Ky.o (Ky.i (Ky.i (Ky.o (Ky.o (Ky.i (Ky.e)))))))) := id rfl
@[simp] theorem ky_411 : ky 411 = Ky.o (Ky.o (Ky.i (Ky.i (Ky.i (Ky.o (Ky.o (Ky.i (Ky.e)))))))) := id rfl
@[simp] theorem ky_412 : ky 412 = Ky.i (Ky.o (Ky.i (Ky.i (Ky.i (Ky.o (Ky.o (Ky.i (Ky.e)))))))) := id rfl
@[simp] theorem ky_413 : ky 413 = Ky.o (Ky.i (Ky.i (Ky.i (Ky.i (Ky.o (Ky.o (Ky.i (Ky.e)))))))) := id rfl
@[simp] theorem ky_414 : ky 414 = Ky.i (Ky.i (Ky.i (Ky.i (Ky.i (Ky.o (Ky.o (Ky.i (Ky.e)))))))) := id rfl
@[simp] theorem ky_415 : ky 415 = Ky.o (Ky.o (Ky.o (Ky.o (Ky.o (Ky.i (Ky.o (Ky.i (Ky.e)))))))) := id rfl
@[simp] theorem ky_416 : ky 416 = Ky.i (Ky.o (Ky.o (Ky.o (Ky.o (Ky.i (Ky.o (Ky.i (Ky.e)))))))) := id rfl
@[simp] theorem ky_417 : ky 417 = Ky.o (Ky.i (Ky.o (Ky.o (Ky.o (Ky.i (Ky.o (Ky.i (Ky.e)))))))) := id rfl
@[simp] theorem ky_418 : ky 418 = Ky.i (Ky.i (Ky.o (Ky.o (Ky.o (Ky.i (Ky.o (Ky.i (Ky.e)))))))) := id rfl
@[simp] theorem ky_419 : ky 419 = Ky.o (Ky.o (Ky.i (Ky.o (Ky.o (Ky.i (Ky.o (Ky.i (Ky.e)))))))) := id rfl

@[simp] theorem maskH_n (H : HMap) (i : Nat) : maskH [] H i = H i := id rfl
@[simp] theorem maskH_c (d : Option Nat) (g : Option (Nat × Bool)) (c : COp) (l : List CI) (H : HMap) (i : Nat) : maskH (.op d g c :: l) H i = if (CI.op d g c).wid = some i then none else maskH l H i := id rfl
@[simp] theorem maskH_f (a b : Nat) (l : List CI) (H : HMap) (i : Nat) : maskH (.frz a b :: l) H i = H i := id rfl
@[simp] theorem wid_mv (dst_ : Option Nat) (gd_ : Option (Nat × Bool)) (x : Operand) : (CI.op dst_ gd_ (.mv x)).wid = dst_ := id rfl
@[simp] theorem wid_pick (dst_ : Option Nat) (gd_ : Option (Nat × Bool)) (c : Operand) (x : Operand) (y : Operand) : (CI.op dst_ gd_ (.pick c x y)).wid = dst_ := id rfl
@[simp] theorem wid_alloc (dst_ : Option Nat) (gd_ : Option (Nat × Bool)) (el : Nat) (z : List Value) : (CI.op dst_ gd_ (.alloc el z)).wid = dst_ := id rfl
@[simp] theorem wid_box (dst_ : Option Nat) (gd_ : Option (Nat × Bool)) (el : Nat) (im : Bool) (x : Operand) : (CI.op dst_ gd_ (.box el im x)).wid = dst_ := id rfl
@[simp] theorem wid_tbx (dst_ : Option Nat) (gd_ : Option (Nat × Bool)) (el : Nat) (x : Operand) : (CI.op dst_ gd_ (.tbx el x)).wid = dst_ := id rfl
@[simp] theorem wid_build (dst_ : Option Nat) (gd_ : Option (Nat × Bool)) (z : List Value) (parts : List (Nat × Nat × Operand)) : (CI.op dst_ gd_ (.build z parts)).wid = dst_ := id rfl
@[simp] theorem wid_bslice (dst_ : Option Nat) (gd_ : Option (Nat × Bool)) (el : Nat) (n : Nat) (parts : List Operand) : (CI.op dst_ gd_ (.bslice el n parts)).wid = dst_ := id rfl
@[simp] theorem wid_nslice (dst_ : Option Nat) (gd_ : Option (Nat × Bool)) (el : Nat) (n : Nat) : (CI.op dst_ gd_ (.nslice el n)).wid = dst_ := id rfl
@[simp] theorem wid_mslice (dst_ : Option Nat) (gd_ : Option (Nat × Bool)) (el : Nat) (n : Nat) (parts : List Operand) : (CI.op dst_ gd_ (.mslice el n parts)).wid = dst_ := id rfl
@[simp] theorem wid_load (dst_ : Option Nat) (gd_ : Option (Nat × Bool)) (agg : Bool) (sz : Nat) (x : Operand) : (CI.op dst_ gd_ (.load agg sz x)).wid = dst_ := id rfl
@[simp] theorem wid_store_n (d : Option Nat) (g : Option (Nat × Bool)) (sz : Nat) (x y : Operand) : (CI.op d g (.store none sz x y)).wid = d := id rfl
@[simp] theorem wid_store_s (d : Option Nat) (g : Option (Nat × Bool)) (r sz : Nat) (x y : Operand) : (CI.op d g (.store (some r) sz x y)).wid = some r := id rfl
@[simp] theorem wid_nilck (dst_ : Option Nat) (gd_ : Option (Nat × Bool)) (x : Operand) : (CI.op dst_ gd_ (.nilck x)).wid = dst_ := id rfl
@[simp] theorem wid_arith (dst_ : Option Nat) (gd_ : Option (Nat × Bool)) (op : BinOp) (x : Operand) (y : Operand) : (CI.op dst_ gd_ (.arith op x y)).wid = dst_ := id rfl
@[simp] theorem wid_cmp (dst_ : Option Nat) (gd_ : Option (Nat × Bool)) (op : BinOp) (x : Operand) (y : Operand) : (CI.op dst_ gd_ (.cmp op x y)).wid = dst_ := id rfl
@[simp] theorem wid_eql (dst_ : Option Nat) (gd_ : Option (Nat × Bool)) (neg : Bool) (agg : Bool) (ks : List EqK) (x : Operand) (y : Operand) : (CI.op dst_ gd_ (.eql neg agg ks x y)).wid = dst_ := id rfl
@[simp] theorem wid_scat (dst_ : Option Nat) (gd_ : Option (Nat × Bool)) (x : Operand) (y : Operand) : (CI.op dst_ gd_ (.scat x y)).wid = dst_ := id rfl
@[simp] theorem wid_not (dst_ : Option Nat) (gd_ : Option (Nat × Bool)) (x : Operand) : (CI.op dst_ gd_ (.not x)).wid = dst_ := id rfl
@[simp] theorem wid_neg (dst_ : Option Nat) (gd_ : Option (Nat × Bool)) (x : Operand) : (CI.op dst_ gd_ (.neg x)).wid = dst_ := id rfl
@[simp] theorem wid_conv (dst_ : Option Nat) (gd_ : Option (Nat × Bool)) (k : IntKind) (x : Operand) : (CI.op dst_ gd_ (.conv k x)).wid = dst_ := id rfl
@[simp] theorem wid_clo (dst_ : Option Nat) (gd_ : Option (Nat × Bool)) (f : Nat) (caps : List Operand) : (CI.op dst_ gd_ (.clo f caps)).wid = dst_ := id rfl
@[simp] theorem wid_mkslice (dst_ : Option Nat) (gd_ : Option (Nat × Bool)) (el : Nat) (n : Nat) (bytes : Nat) (agg : Bool) (z : List Value) (l : Operand) (c : Operand) : (CI.op dst_ gd_ (.mkslice el n bytes agg z l c)).wid = dst_ := id rfl
@[simp] theorem wid_slice (dst_ : Option Nat) (gd_ : Option (Nat × Bool)) (n : Nat) (x : Operand) (lo : Option Operand) (hi : Option Operand) : (CI.op dst_ gd_ (.slice n x lo hi)).wid = dst_ := id rfl
@[simp] theorem wid_sslice (dst_ : Option Nat) (gd_ : Option (Nat × Bool)) (x : Operand) (lo : Option Operand) (hi : Option Operand) : (CI.op dst_ gd_ (.sslice x lo hi)).wid = dst_ := id rfl
@[simp] theorem wid_faddr (dst_ : Option Nat) (gd_ : Option (Nat × Bool)) (off : Nat) (x : Operand) : (CI.op dst_ gd_ (.faddr off x)).wid = dst_ := id rfl
@[simp] theorem wid_fld (dst_ : Option Nat) (gd_ : Option (Nat × Bool)) (agg : Bool) (sz : Nat) (off : Nat) (x : Operand) : (CI.op dst_ gd_ (.fld agg sz off x)).wid = dst_ := id rfl
@[simp] theorem wid_iaddr (dst_ : Option Nat) (gd_ : Option (Nat × Bool)) (n : Nat) (x : Operand) (i : Operand) : (CI.op dst_ gd_ (.iaddr n x i)).wid = dst_ := id rfl
@[simp] theorem wid_sidx (dst_ : Option Nat) (gd_ : Option (Nat × Bool)) (x : Operand) (i : Operand) : (CI.op dst_ gd_ (.sidx x i)).wid = dst_ := id rfl
@[simp] theorem wid_ext (dst_ : Option Nat) (gd_ : Option (Nat × Bool)) (x : Operand) (i : Nat) : (CI.op dst_ gd_ (.ext x i)).wid = dst_ := id rfl
@[simp] theorem wid_len (dst_ : Option Nat) (gd_ : Option (Nat × Bool)) (x : Operand) : (CI.op dst_ gd_ (.len x)).wid = dst_ := id rfl
@[simp] theorem wid_slen (dst_ : Option Nat) (gd_ : Option (Nat × Bool)) (x : Operand) : (CI.op dst_ gd_ (.slen x)).wid = dst_ := id rfl
@[simp] theorem wid_mm (dst_ : Option Nat) (gd_ : Option (Nat × Bool)) (mx : Bool) (xs : List Operand) : (CI.op dst_ gd_ (.mm mx xs)).wid = dst_ := id rfl
@[simp] theorem wid_append_n (d : Option Nat) (g : Option (Nat × Bool)) (el n b : Nat) (x y : Operand) : (CI.op d g (.append none el n b x y)).wid = d := id rfl
@[simp] theorem wid_append_s (d : Option Nat) (g : Option (Nat × Bool)) (r el n b : Nat) (x y : Operand) : (CI.op d g (.append (some r) el n b x y)).wid = some r := id rfl
@[simp] theorem wid_appmk (dst_ : Option Nat) (gd_ : Option (Nat × Bool)) (el : Nat) (n : Nat) (bytes : Nat) (agg : Bool) (z : List Value) (x : Operand) (c : Operand) : (CI.op dst_ gd_ (.appmk el n bytes agg z x c)).wid = dst_ := id rfl
@[simp] theorem wid_clear (dst_ : Option Nat) (gd_ : Option (Nat × Bool)) (n : Nat) (agg : Bool) (z : List Value) (x : Operand) : (CI.op dst_ gd_ (.clear n agg z x)).wid = dst_ := id rfl
@[simp] theorem wid_copy (dst_ : Option Nat) (gd_ : Option (Nat × Bool)) (n : Nat) (x : Operand) (y : Operand) : (CI.op dst_ gd_ (.copy n x y)).wid = dst_ := id rfl
@[simp] theorem wid_srange (dst_ : Option Nat) (gd_ : Option (Nat × Bool)) (x : Operand) : (CI.op dst_ gd_ (.srange x)).wid = dst_ := id rfl
@[simp] theorem wid_snext (dst_ : Option Nat) (gd_ : Option (Nat × Bool)) (x : Operand) : (CI.op dst_ gd_ (.snext x)).wid = dst_ := id rfl
@[simp] theorem wid_sbytes (dst_ : Option Nat) (gd_ : Option (Nat × Bool)) (x : Operand) : (CI.op dst_ gd_ (.sbytes x)).wid = dst_ := id rfl
@[simp] theorem wid_bstr (dst_ : Option Nat) (gd_ : Option (Nat × Bool)) (x : Operand) : (CI.op dst_ gd_ (.bstr x)).wid = dst_ := id rfl
@[simp] theorem wid_cap (dst_ : Option Nat) (gd_ : Option (Nat × Bool)) (x : Operand) : (CI.op dst_ gd_ (.cap x)).wid = dst_ := id rfl
@[simp] theorem wid_bad (dst_ : Option Nat) (gd_ : Option (Nat × Bool))  : (CI.op dst_ gd_ (.bad )).wid = dst_ := id rfl
@[simp] theorem wid_call (dst_ : Option Nat) (gd_ : Option (Nat × Bool)) (f : Nat) (args : List Operand) : (CI.op dst_ gd_ (.call f args)).wid = dst_ := id rfl
@[simp] theorem wid_callv (dst_ : Option Nat) (gd_ : Option (Nat × Bool)) (f : Operand) (args : List Operand) : (CI.op dst_ gd_ (.callv f args)).wid = dst_ := id rfl
end Go.Gv
