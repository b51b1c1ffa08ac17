/- A part of the framework and of the walks: T3 T4. -/
import Derived.Test.YtblcfloekekefaaGreatGx05

namespace Go.Gv
set_option linter.unusedSimpArgs false
set_option linter.unusedVariables false

def COp.ops : COp → List Operand
  | .mv x | .box _ _ x | .load _ _ x | .nilck x | .not x | .neg x | .conv _ x | .faddr _ x | .fld _ _ _ x | .ext x _ | .len x | .slen x => [x]
  | .pick c x y => [c, x, y]
  | .alloc _ _ | .nslice _ _ | .bad => []
  | .build _ ps => ps.map (·.2.2)
  | .bslice _ _ ps => ps
  | .mslice _ _ ps => ps
  | .store _ _ x y | .arith _ x y | .cmp _ x y | .eql _ _ _ x y | .scat x y | .iaddr _ x y | .sidx x y | .append _ _ _ _ x y => [x, y]
  | .clo _ xs | .mm _ xs | .call _ xs => xs
  | .appmk _ _ _ _ _ x y | .copy _ x y => [x, y]
  | .clear _ _ _ x | .cap x | .srange x | .snext x | .sbytes x => [x]
  | .mkslice _ _ _ _ _ l c => [l, c]
  | .slice _ x lo hi | .sslice x lo hi => x :: lo.toList ++ hi.toList
  | .callv f xs => f :: xs

/-- A contract that only gives memory of the caller's own: it changes no resource. -/
def IsFr (A : PT) : Prop := ∃ (p : List D → Prop) (o : Nat → List D → D → Res → Prop), ∀ (t : Nat) (ds : List D) (H : HMap) (K : D → HMap → Prop), A t ds H K ↔ (p ds ∧ ∀ d u, o t ds d u → K d (updH H t (some u)))
def preX (dst : Option Nat) (s : Spc) (args : List D) (H : HMap) (K : D → HMap → Prop) : Prop := match s with
  | .pure pc => pc.pre args ∧ ∀ r, pc.post args r → K r H
  | .gen A _ => match dst with
    | some t => IsFr A ∧ A t args H K
    | none => False
  | .none => False

def preVC (S : Nat → Spc) (c : COp) (dst : Option Nat) (σ : Sg) (Hr H : HMap) (K : D → HMap → Prop) : Prop :=
  match c with
  | .call f args => preX dst (S f) (args.map (ev σ)) H K
  | .callv f args => match ev σ f with
    | .clo g caps => match S g with
      | .pure pc => pc.pre (args.map (ev σ) ++ caps) ∧ ∀ r, pc.post (args.map (ev σ) ++ caps) r → K r H
      | _ => False
    | _ => False
  | .alloc el z => opVC (.alloc el z) dst σ H K
  | .box el false x => opVC (.box el false x) dst σ H K
  | .nslice el n => opVC (.nslice el n) dst σ H K
  | .mslice el n ps => opVC (.mslice el n ps) dst σ H K
  | .mkslice el n b agg z l c => opVC (.mkslice el n b agg z l c) dst σ H K
  | .append rt el n b x y => srcVC n (ev σ y) Hr fun es2 => match rt with
    | none => match dst, ev σ x with
      | some t, .v (.slice none 0 0) => es2.length * b ≤ 140737488355328 ∧ es2.length ≤ 140737488355328 ∧ ∀ v, K (.own t v) (updH H t (some (.row v el n es2)))
      | _, _ => False
    | some r => match ev σ x with
      | .own id x => id = r ∧ match H r with
        | some (.row x' el' n' es) => x' = x ∧ el' = el ∧ n' = n ∧ (es.length + es2.length) * b ≤ 140737488355328 ∧ es.length + es2.length ≤ 140737488355328 ∧ ∀ v, K (.own r v) (updH H r (some (.row v el n (es ++ es2))))
        | _ => False
      | _ => False
  | .store rt sz x y => (ev σ y).kn = true ∧ (ev σ y).cells.length = sz ∧ match rt with
    | none => False
    | some r => match ev σ x with
      | .bptr id b off => id = r ∧ match H r with
        | some (.box b' cells) => b' = b ∧ off + sz ≤ cells.length ∧ K .undef (updH H r (some (.box b' (setAt cells off (ev σ y).cells))))
        | _ => False
      | .eptr id x n i off => id = r ∧ match H r with
        | some (.row x' el n' es) => x' = x ∧ n' = n ∧ 0 < n ∧ off + sz ≤ n ∧ i < es.length ∧ ∀ d, es[i]? = some d →
            K .undef (updH H r (some (.row x' el n' (es.set i (if off = 0 ∧ sz = n then ev σ y else .agg (setAt d.cells off (ev σ y).cells))))))
        | _ => False
      | _ => False
  | .clear .. | .copy .. | .srange .. | .snext .. => False
  | .appmk el n b agg z x c => opVC (.appmk el n b agg z x c) dst σ H K
  | c => readVC c σ Hr fun d => K d H

def vcPre (S : Nat → Spc) : List CI → Sg → HMap → HMap → (Sg → HMap → Prop) → Prop
  | [], σ, _, H, K => K σ H
  | .frz _ _ :: _, _, _, _, _ => False
  | .op dst g c :: r, σ, Hr, H, K => guardVC g σ (fun σ => preVC S c dst σ Hr H fun d H' => vcPre S r (updO σ dst d) Hr H' K) (fun σ => vcPre S r (updO σ dst .undef) Hr H K)

/-- The same without the guard's value written in. -/
def pOp (S : Nat → Spc) (x : CI) (σ : Sg) (Hr H : HMap) (K : D → HMap → Prop) : Prop :=
  match x with
  | .frz _ _ => False
  | .op dst g c => match g with
    | none => preVC S c dst σ Hr H K
    | some (s, b) => match σ s with
      | .v (.bool t) => (t = b → preVC S c dst σ Hr H K) ∧ (t = (!b) → K .undef H)
      | .undef => K .undef H
      | _ => False
def CI.dst : CI → Option Nat
  | .op d _ _ => d
  | .frz _ _ => none
/-- The resource that it changes. -/
def COp.wid (c : COp) (dst : Option Nat) : Option Nat :=
  match c with
  | .append (some r) _ _ _ _ _ => some r
  | .store (some r) _ _ _ => some r
  | _ => dst
def CI.wid : CI → Option Nat
  | .op d _ c => c.wid d
  | .frz _ _ => none
def vcP (S : Nat → Spc) : List CI → Sg → HMap → HMap → (Sg → HMap → Prop) → Prop
  | [], σ, _, H, K => K σ H
  | x :: r, σ, Hr, H, K => pOp S x σ Hr H fun d H' => vcP S r (updO σ x.dst d) Hr H' K

/-! ### What such an operation asks, and which outcomes it has, apart from what follows -/
def Lin (F : (D → Prop) → Prop) : Prop := ∃ (pre : Prop) (out : D → Prop), ∀ K, F K ↔ (pre ∧ ∀ d, out d → K d)

theorem lin_eval (d : D) : Lin fun K => K d := ⟨True, fun e => e = d, fun K => ⟨fun h => ⟨trivial, fun e he => he ▸ h⟩, fun h => h.2 d rfl⟩⟩
theorem lin_false : Lin fun _ => False := ⟨False, fun _ => True, fun K => ⟨fun h => h.elim, fun h => h.1⟩⟩
theorem lin_and {A : Prop} {F : (D → Prop) → Prop} (h : Lin F) : Lin fun K => A ∧ F K := by
  obtain ⟨pre, out, h⟩ := h
  exact ⟨A ∧ pre, out, fun K => by dsimp only; rw [h K, and_assoc]⟩
theorem lin_imp {A : Prop} {F : (D → Prop) → Prop} (h : Lin F) : Lin fun K => A → F K := by
  obtain ⟨pre, out, h⟩ := h
  refine ⟨A → pre, fun d => A ∧ out d, fun K => ?_⟩
  constructor
  · intro hf
    exact ⟨fun ha => ((h K).1 (hf ha)).1, fun d hd => ((h K).1 (hf hd.1)).2 d hd.2⟩
  · intro hf ha
    exact (h K).2 ⟨hf.1 ha, fun d hd => hf.2 d ⟨ha, hd⟩⟩
theorem lin_all {α : Type} {F : α → (D → Prop) → Prop} (h : ∀ x, Lin (F x)) : Lin fun K => ∀ x, F x K := by
  have h' : ∀ x, ∃ (p : Prop × (D → Prop)), ∀ K, F x K ↔ (p.1 ∧ ∀ d, p.2 d → K d) := fun x => by
    obtain ⟨pre, out, hx⟩ := h x
    exact ⟨(pre, out), hx⟩
  obtain ⟨p, hp⟩ := Classical.axiomOfChoice h'
  refine ⟨∀ x, (p x).1, fun d => ∃ x, (p x).2 d, fun K => ?_⟩
  constructor
  · intro hf
    exact ⟨fun x => ((hp x K).1 (hf x)).1, fun d ⟨x, hx⟩ => ((hp x K).1 (hf x)).2 d hx⟩
  · intro hf x
    exact (hp x K).2 ⟨hf.1 x, fun d hd => hf.2 d ⟨x, hd⟩⟩
theorem lin_conj {F G : (D → Prop) → Prop} (h1 : Lin F) (h2 : Lin G) : Lin fun K => F K ∧ G K := by
  obtain ⟨p1, o1, h1⟩ := h1
  obtain ⟨p2, o2, h2⟩ := h2
  refine ⟨p1 ∧ p2, fun d => o1 d ∨ o2 d, fun K => ?_⟩
  dsimp only
  rw [h1 K, h2 K]
  constructor
  · rintro ⟨⟨a, b⟩, c, d⟩
    exact ⟨⟨a, c⟩, fun e he => he.elim (b e) (d e)⟩
  · rintro ⟨⟨a, c⟩, b⟩
    exact ⟨⟨a, fun e he => b e (.inl he)⟩, c, fun e he => b e (.inr he)⟩

theorem lin_build (σ : Sg) : ∀ (ps : List (Nat × Nat × Operand)) (cs : List D), Lin fun K => buildVC σ ps cs fun cs => K (.agg cs)
  | [], cs => lin_eval _
  | (off, sz, x) :: r, cs => lin_and (lin_and (lin_build σ r _))

theorem lin_arith (op : BinOp) (k : IntKind) (a b : Int) : Lin fun K => arithVC op k a b K := by
  cases op <;> simp only [arithVC] <;> first
    | exact lin_false
    | exact lin_and (lin_eval _)
    | exact lin_and (lin_and (lin_eval _))

theorem lin_cut (lo hi : Option (Option (IntKind × Int))) (len : Nat) (f : Nat → Nat → D) : Lin fun K => cutVC lo hi len fun l h => K (f l h) := by
  unfold cutVC
  split <;> first
    | exact lin_eval _
    | exact lin_and (lin_and (lin_eval _))
    | exact lin_and (lin_and (lin_and (lin_eval _)))
    | exact lin_false

theorem lin_read (c : COp) (σ : Sg) (Hr : HMap) : Lin fun K => readVC c σ Hr K := by
  unfold readVC
  split <;> first
    | exact lin_eval _
    | exact lin_false
    | exact lin_build σ _ _
    | exact lin_and (lin_eval _)
    | skip
  all_goals
    (repeat' split) <;> first
      | exact lin_eval _
      | exact lin_false
      | exact lin_conj (lin_imp (lin_eval _)) (lin_imp (lin_eval _))
      | exact lin_and (lin_eval _)
      | exact lin_and (lin_and (lin_eval _))
      | exact lin_and (lin_and (lin_and (lin_eval _)))
      | exact lin_and (lin_and (lin_and (lin_and (lin_eval _))))
      | exact lin_and (lin_and (lin_and (lin_and (lin_all fun _ => lin_imp (lin_eval _)))))
      | exact lin_and (lin_and (lin_and (lin_all fun _ => lin_imp (lin_eval _))))
      | exact lin_and (lin_and (lin_all fun _ => lin_imp (lin_eval _)))
      | exact lin_and (lin_arith _ _ _ _)
      | exact lin_imp (lin_eval _)
      | exact lin_and (lin_imp (lin_eval _))
      | exact lin_and lin_false
      | exact lin_and (lin_and (lin_cut _ _ _ _))
      | exact lin_and (lin_cut _ _ _ _)
      | exact lin_cut _ _ _ fun _ _ => _
      | skip

def appU (H : HMap) (dst : Option Nat) (u : Option Res) : HMap :=
  match dst, u with
  | some t, some r => updH H t (some r)
  | _, _ => H

def LinU0 (dst : Option Nat) (F : HMap → (D → HMap → Prop) → Prop) : Prop :=
  ∃ (pre : Prop) (out : D → Option Res → Prop), ∀ H K, F H K ↔ (pre ∧ ∀ d u, out d u → K d (appU H dst u))

def rdH (H : HMap) : Option Nat → Option Res
  | some t => H t
  | none => none
def LinU (wid : Option Nat) (F : HMap → (D → HMap → Prop) → Prop) : Prop :=
  ∀ r0, ∃ (pre : Prop) (out : D → Option Res → Prop), ∀ H, rdH H wid = r0 → ∀ K, F H K ↔ (pre ∧ ∀ d u, out d u → K d (appU H wid u))
theorem LinU0.lin {dst : Option Nat} {F : HMap → (D → HMap → Prop) → Prop} (h : LinU0 dst F) : LinU dst F := fun _ => by
  obtain ⟨pre, out, h⟩ := h
  exact ⟨pre, out, fun H _ K => h H K⟩

theorem appU_none (H : HMap) (dst : Option Nat) : appU H dst none = H := by cases dst <;> rfl

theorem linU_of {dst : Option Nat} {G : (D → Prop) → Prop} (h : Lin G) : LinU0 dst fun H K => G fun d => K d H := by
  obtain ⟨pre, out, h⟩ := h
  refine ⟨pre, fun d u => out d ∧ u = none, fun H K => ?_⟩
  dsimp only
  rw [h]
  constructor
  · rintro ⟨a, b⟩
    exact ⟨a, fun d u ⟨h1, h2⟩ => by subst h2; rw [appU_none]; exact b d h1⟩
  · rintro ⟨a, b⟩
    exact ⟨a, fun d h1 => by have := b d none ⟨h1, rfl⟩; rwa [appU_none] at this⟩

theorem linU_false (dst : Option Nat) : LinU0 dst fun _ _ => False := ⟨False, fun _ _ => True, fun _ _ => ⟨fun h => h.elim, fun h => h.1⟩⟩

theorem linU_new {t : Nat} {α : Type} {A : Prop} (f : α → D) (r : α → Res) : LinU0 (some t) fun H K => A ∧ ∀ b, K (f b) (updH H t (some (r b))) := by
  refine ⟨A, fun d u => ∃ b, d = f b ∧ u = some (r b), fun H K => ?_⟩
  constructor
  · rintro ⟨a, h⟩
    exact ⟨a, fun d u ⟨b, h1, h2⟩ => by subst h1; subst h2; exact h b⟩
  · rintro ⟨a, h⟩
    exact ⟨a, fun b => h _ _ ⟨b, rfl, rfl⟩⟩

theorem LinU0.congr {dst : Option Nat} {F G : HMap → (D → HMap → Prop) → Prop} (h : LinU0 dst F) (hfg : ∀ H K, G H K ↔ F H K) : LinU0 dst G := by
  obtain ⟨pre, out, h⟩ := h
  exact ⟨pre, out, fun H K => (hfg H K).trans (h H K)⟩

theorem preVC_read {S : Nat → Spc} {c : COp} {dst : Option Nat} {σ : Sg} {Hr H : HMap} {K : D → HMap → Prop} (h : c.isRead = true) : preVC S c dst σ Hr H K ↔ readVC c σ Hr fun d => K d H := by
  cases c <;> first | exact Iff.rfl | (simp [COp.isRead] at h; done) | skip
  rename_i el im x
  cases im
  · simp [COp.isRead] at h
  · exact Iff.rfl

theorem linU_src {dst : Option Nat} {n : Nat} {d : D} {Hr : HMap} {F : List D → HMap → (D → HMap → Prop) → Prop} (h : ∀ es, LinU0 dst (F es)) : LinU0 dst fun H K => srcVC n d Hr fun es => F es H K := by
  have conj : ∀ {A : Prop} {G : HMap → (D → HMap → Prop) → Prop}, LinU0 dst G → LinU0 dst fun H K => A ∧ G H K := fun {A G} h => by
    obtain ⟨pre, out, h⟩ := h
    exact ⟨A ∧ pre, out, fun H K => by dsimp only; rw [h H K, and_assoc]⟩
  unfold srcVC
  split
  · exact conj (h _)
  · split
    · exact conj (conj (h _))
    · exact linU_false _
  · exact h _
  · split
    · exact conj (conj (conj (h _)))
    · exact linU_false _
  · exact linU_false _

theorem linR_src {wid : Option Nat} {n : Nat} {d : D} {Hr : HMap} {r0 : Option Res} {F : List D → HMap → (D → HMap → Prop) → Prop}
    (h : ∀ es, ∃ (pre : Prop) (out : D → Option Res → Prop), ∀ H, rdH H wid = r0 → ∀ K, F es H K ↔ (pre ∧ ∀ d u, out d u → K d (appU H wid u))) :
    ∃ (pre : Prop) (out : D → Option Res → Prop), ∀ H, rdH H wid = r0 → ∀ K, (srcVC n d Hr fun es => F es H K) ↔ (pre ∧ ∀ d u, out d u → K d (appU H wid u)) := by
  have conj : ∀ {A : Prop} {G : HMap → (D → HMap → Prop) → Prop}, (∃ (pre : Prop) (out : D → Option Res → Prop), ∀ H, rdH H wid = r0 → ∀ K, G H K ↔ (pre ∧ ∀ d u, out d u → K d (appU H wid u))) →
      ∃ (pre : Prop) (out : D → Option Res → Prop), ∀ H, rdH H wid = r0 → ∀ K, (A ∧ G H K) ↔ (pre ∧ ∀ d u, out d u → K d (appU H wid u)) := fun {A G} h => by
    obtain ⟨pre, out, h⟩ := h
    exact ⟨A ∧ pre, out, fun H hr K => by rw [h H hr K, and_assoc]⟩
  have no : ∃ (pre : Prop) (out : D → Option Res → Prop), ∀ H, rdH H wid = r0 → ∀ K : D → HMap → Prop, False ↔ (pre ∧ ∀ d u, out d u → K d (appU H wid u)) := ⟨False, fun _ _ => True, fun _ _ _ => ⟨fun h => h.elim, fun h => h.1⟩⟩
  unfold srcVC
  split
  · exact conj (h _)
  · split
    · exact conj (conj (h _))
    · exact no
  · exact h _
  · split
    · exact conj (conj (conj (h _)))
    · exact no
  · exact no

theorem linU_pre0 (S : Nat → Spc) (c : COp) (dst : Option Nat) (σ : Sg) (Hr : HMap) (hna : ∀ r el n b x y, c ≠ .append (some r) el n b x y) (hns : ∀ r sz x y, c ≠ .store (some r) sz x y) : LinU0 dst fun H K => preVC S c dst σ Hr H K := by
  by_cases hro : c.isRead = true
  · exact (linU_of (lin_read c σ Hr)).congr fun H K => preVC_read hro
  cases c
  case call f args =>
    simp only [preVC]
    cases S f with
    | pure pc => exact linU_of (G := fun K => pc.pre (args.map (ev σ)) ∧ ∀ r, pc.post (args.map (ev σ)) r → K r) (lin_and (lin_all fun r => lin_imp (lin_eval r)))
    | none => exact linU_false dst
    | gen A hA =>
      cases dst with
      | none => exact linU_false none
      | some t =>
        by_cases hf : IsFr A
        · obtain ⟨p, o, h⟩ := id hf
          refine ⟨p (args.map (ev σ)), fun d u => ∃ u', u = some u' ∧ o t (args.map (ev σ)) d u', fun H K => ?_⟩
          simp only [preX]
          rw [h t]
          constructor
          · rintro ⟨_, a, b⟩
            exact ⟨a, fun d u ⟨u', e, h1⟩ => by subst e; exact b d u' h1⟩
          · rintro ⟨a, b⟩
            exact ⟨hf, a, fun d u h1 => b d (some u) ⟨u, rfl, h1⟩⟩
        · exact (linU_false (some t)).congr fun H K => ⟨fun h => hf h.1, fun h => h.elim⟩
  case callv f args =>
    simp only [preVC]
    split
    · rename_i g caps _
      split
      · rename_i pc _
        exact linU_of (G := fun K => pc.pre (args.map (ev σ) ++ caps) ∧ ∀ r, pc.post (args.map (ev σ) ++ caps) r → K r) (lin_and (lin_all fun r => lin_imp (lin_eval r)))
      · exact linU_false dst
    · exact linU_false dst
  case alloc el z =>
    cases dst with
    | none => simp only [preVC, opVC]; exact linU_false _
    | some t => exact (linU_new (t := t) (A := True) (fun b => D.bptr t b 0) (fun b => Res.box b (z.map cst))).congr (fun H K => by simp only [preVC, opVC, true_and])
  case box el im x =>
    cases im with
    | true => exact absurd rfl hro
    | false =>
      cases dst with
      | none => simp only [preVC, opVC]; exact linU_false _
      | some t => exact (linU_new (t := t) (A := (ev σ x).kn = true) (fun b => D.bptr t b 0) (fun b => Res.box b (ev σ x).cells)).congr (fun H K => by simp only [preVC, opVC])
  case nslice el n =>
    cases dst with
    | none => simp only [preVC, opVC]; exact linU_false _
    | some t => exact (linU_new (t := t) (A := True) (fun x => D.own t x) (fun x => Res.row x el n [])).congr (fun H K => by simp only [preVC, opVC, true_and])
  case mslice el n ps =>
    cases dst with
    | none => simp only [preVC, opVC]; exact linU_false _
    | some t => exact (linU_new (t := t) (A := partsVC n (ps.map (ev σ))) (fun x => D.own t x) (fun x => Res.row x el n (ps.map (ev σ)))).congr (fun H K => by simp only [preVC, opVC])
  case mkslice el n b agg z l cc =>
    cases dst with
    | none => simp only [preVC, opVC]; exact linU_false _
    | some t =>
      simp only [preVC, opVC]
      split
      · rename_i e1 e2
        rename_i k1 l' k2 c'
        exact (linU_new (t := t) (A := 0 ≤ l' ∧ l' ≤ c' ∧ b * c' ≤ 140737488355328 ∧ c' ≤ 140737488355328) (fun x => D.own t x) (fun x => Res.row x el n (List.replicate l'.toNat (if agg then .agg (z.map cst) else cst (z.headD (.bool false)))))).congr (fun H K => by simp only [and_assoc])
      · exact linU_false _
  case store rt sz x y =>
    cases rt with
    | some r => exact absurd rfl (hns r sz x y)
    | none => exact (linU_false dst).congr fun H K => ⟨fun h => h.2.2.elim, fun h => h.elim⟩
  case srange x => exact linU_false dst
  case snext x => exact linU_false dst
  case append rt el n b x y =>
    cases rt with
    | some r => exact absurd rfl (hna r el n b x y)
    | none =>
      simp only [preVC]
      refine linU_src fun es2 => ?_
      split
      · rename_i t _
        exact (linU_new (t := t) (A := es2.length * b ≤ 140737488355328 ∧ es2.length ≤ 140737488355328) (fun v => D.own t v) (fun v => Res.row v el n es2)).congr (fun H K => by simp only [and_assoc])
      · exact linU_false _
  case clear n agg z x => exact linU_false dst
  case copy n x y => exact linU_false dst
  case appmk el n b agg z x c =>
    simp only [preVC, opVC]
    split
    · cases dst with
      | none => exact linU_false _
      | some t =>
        cases hc : asI (ev σ c) with
        | none => exact linU_false _
        | some p =>
          obtain ⟨k, c'⟩ := p
          exact (linU_new (t := t) (A := 0 ≤ c' ∧ c' * b ≤ 140737488355328 ∧ c' ≤ 140737488355328) (fun x => D.own t x) (fun x => Res.row x el n (List.replicate c'.toNat (zEl agg z)))).congr (fun H K => by simp only [and_assoc])
    · exact linU_false _
  all_goals exact absurd rfl hro

theorem linU_pre (S : Nat → Spc) (c : COp) (dst : Option Nat) (σ : Sg) (Hr : HMap) : LinU (c.wid dst) fun H K => preVC S c dst σ Hr H K := by
  by_cases h : ∃ r el n b x y, c = .append (some r) el n b x y
  · obtain ⟨r, el, n, b, x, y, rfl⟩ := h
    intro r0
    simp only [preVC, COp.wid]
    refine linR_src fun es2 => ?_
    cases ev σ x with
    | own id v =>
      cases r0 with
      | none =>
        refine ⟨False, fun _ _ => True, fun H hr K => ?_⟩
        have hr : H r = none := hr
        rw [hr]
        exact ⟨fun h => h.2.elim, fun h => h.1.elim⟩
      | some q =>
        cases q with
        | box b' cs =>
          refine ⟨False, fun _ _ => True, fun H hr K => ?_⟩
          have hr : H r = some (.box b' cs) := hr
          rw [hr]
          exact ⟨fun h => h.2.elim, fun h => h.1.elim⟩
        | iter b' s' p' =>
          refine ⟨False, fun _ _ => True, fun H hr K => ?_⟩
          have hr : H r = some (.iter b' s' p') := hr
          rw [hr]
          exact ⟨fun h => h.2.elim, fun h => h.1.elim⟩
        | row x' el' n' es =>
          refine ⟨id = r ∧ x' = v ∧ el' = el ∧ n' = n ∧ (es.length + es2.length) * b ≤ 140737488355328 ∧ es.length + es2.length ≤ 140737488355328, fun d u => ∃ v, d = .own r v ∧ u = some (.row v el n (es ++ es2)), fun H hr K => ?_⟩
          have hr : H r = some (.row x' el' n' es) := hr
          rw [hr]
          constructor
          · rintro ⟨h1, h2, h3, h4, h5, h6, h7⟩
            exact ⟨⟨h1, h2, h3, h4, h5, h6⟩, fun d u ⟨v, e1, e2⟩ => by subst e1; subst e2; exact h7 v⟩
          · rintro ⟨⟨h1, h2, h3, h4, h5, h6⟩, h7⟩
            exact ⟨h1, h2, h3, h4, h5, h6, fun v => h7 _ _ ⟨v, rfl, rfl⟩⟩
    | _ => exact ⟨False, fun _ _ => True, fun H hr K => ⟨fun h => h.elim, fun h => h.1.elim⟩⟩
  · by_cases hs : ∃ r sz x y, c = .store (some r) sz x y
    · obtain ⟨r, sz, x, y, rfl⟩ := hs
      intro r0
      simp only [preVC, COp.wid]
      have no : ∃ (pre : Prop) (out : D → Option Res → Prop), ∀ H, rdH H (some r) = r0 → ∀ K : D → HMap → Prop, False ↔ (pre ∧ ∀ d u, out d u → K d (appU H (some r) u)) := ⟨False, fun _ _ => True, fun _ _ _ => ⟨fun h => h.elim, fun h => h.1⟩⟩
      have conj : ∀ {A : Prop} {G : HMap → (D → HMap → Prop) → Prop}, (∃ (pre : Prop) (out : D → Option Res → Prop), ∀ H, rdH H (some r) = r0 → ∀ K, G H K ↔ (pre ∧ ∀ d u, out d u → K d (appU H (some r) u))) →
          ∃ (pre : Prop) (out : D → Option Res → Prop), ∀ H, rdH H (some r) = r0 → ∀ K, (A ∧ G H K) ↔ (pre ∧ ∀ d u, out d u → K d (appU H (some r) u)) := fun {A G} h => by
        obtain ⟨pre, out, h⟩ := h
        exact ⟨A ∧ pre, out, fun H hr K => by rw [h H hr K, and_assoc]⟩
      refine conj (conj ?_)
      cases ev σ x with
      | bptr id b off =>
        refine conj ?_
        cases r0 with
        | none =>
          refine ⟨False, fun _ _ => True, fun H hr K => ?_⟩
          have hr : H r = none := hr
          rw [hr]
          exact ⟨fun h => h.elim, fun h => h.1.elim⟩
        | some q =>
          cases q with
          | box b' cs =>
            refine ⟨b' = b ∧ off + sz ≤ cs.length, fun d u => d = .undef ∧ u = some (.box b' (setAt cs off (ev σ y).cells)), fun H hr K => ?_⟩
            have hr : H r = some (.box b' cs) := hr
            rw [hr]
            constructor
            · rintro ⟨h1, h2, h3⟩
              exact ⟨⟨h1, h2⟩, fun d u ⟨e1, e2⟩ => by subst e1; subst e2; exact h3⟩
            · rintro ⟨⟨h1, h2⟩, h3⟩
              exact ⟨h1, h2, h3 _ _ ⟨rfl, rfl⟩⟩
          | row x' el' n' es =>
            refine ⟨False, fun _ _ => True, fun H hr K => ?_⟩
            have hr : H r = some (.row x' el' n' es) := hr
            rw [hr]
            exact ⟨fun h => h.elim, fun h => h.1.elim⟩
          | iter b' s' p' =>
            refine ⟨False, fun _ _ => True, fun H hr K => ?_⟩
            have hr : H r = some (.iter b' s' p') := hr
            rw [hr]
            exact ⟨fun h => h.elim, fun h => h.1.elim⟩
      | eptr id v n i off =>
        refine conj ?_
        cases r0 with
        | none =>
          refine ⟨False, fun _ _ => True, fun H hr K => ?_⟩
          have hr : H r = none := hr
          rw [hr]
          exact ⟨fun h => h.elim, fun h => h.1.elim⟩
        | some q =>
          cases q with
          | row x' el' n' es =>
            refine ⟨x' = v ∧ n' = n ∧ 0 < n ∧ off + sz ≤ n ∧ i < es.length, fun d u => d = .undef ∧ ∃ e, es[i]? = some e ∧ u = some (.row x' el' n' (es.set i (if off = 0 ∧ sz = n then ev σ y else .agg (setAt e.cells off (ev σ y).cells)))), fun H hr K => ?_⟩
            have hr : H r = some (.row x' el' n' es) := hr
            rw [hr]
            constructor
            · rintro ⟨h1, h2, h3, h4, h5, h6⟩
              exact ⟨⟨h1, h2, h3, h4, h5⟩, fun d u ⟨e1, e, e2, e3⟩ => by subst e1; subst e3; exact h6 e e2⟩
            · rintro ⟨⟨h1, h2, h3, h4, h5⟩, h6⟩
              exact ⟨h1, h2, h3, h4, h5, fun e he => h6 _ _ ⟨rfl, e, he, rfl⟩⟩
          | box b' cs =>
            refine ⟨False, fun _ _ => True, fun H hr K => ?_⟩
            have hr : H r = some (.box b' cs) := hr
            rw [hr]
            exact ⟨fun h => h.elim, fun h => h.1.elim⟩
          | iter b' s' p' =>
            refine ⟨False, fun _ _ => True, fun H hr K => ?_⟩
            have hr : H r = some (.iter b' s' p') := hr
            rw [hr]
            exact ⟨fun h => h.elim, fun h => h.1.elim⟩
      | _ => exact no
    have hw : c.wid dst = dst := by
      cases c
      case append rt el n b x y =>
        cases rt with
        | none => rfl
        | some r => exact absurd ⟨r, el, n, b, x, y, rfl⟩ h
      case store rt sz x y =>
        cases rt with
        | none => rfl
        | some r => exact absurd ⟨r, sz, x, y, rfl⟩ hs
      all_goals rfl
    rw [hw]
    exact (linU_pre0 S c dst σ Hr (fun r el n b x y e => h ⟨r, el, n, b, x, y, e⟩) (fun r sz x y e => hs ⟨r, sz, x, y, e⟩)).lin

theorem linU_pOp (S : Nat → Spc) (x : CI) (σ : Sg) (Hr : HMap) : LinU x.wid fun H K => pOp S x σ Hr H K := by
  cases x with
  | frz t n => exact (linU_false _).lin
  | op dst g c =>
    intro r0
    obtain ⟨pre, out, h⟩ := linU_pre S c dst σ Hr r0
    have h' : ∀ H, rdH H (c.wid dst) = r0 → ∀ K, preVC S c dst σ Hr H K ↔ (pre ∧ ∀ d u, out d u → K d (appU H (c.wid dst) u)) := h
    cases g with
    | none => exact ⟨pre, out, h⟩
    | some sb =>
      obtain ⟨s, b⟩ := sb
      simp only [pOp, CI.wid]
      split
      · rename_i t e1
        refine ⟨t = b → pre, fun d u => (t = b ∧ out d u) ∨ (t = (!b) ∧ d = .undef ∧ u = none), fun H hr K => ?_⟩
        rw [h' H hr K]
        constructor
        · rintro ⟨h1, h2⟩
          refine ⟨fun e => (h1 e).1, fun d u hd => ?_⟩
          rcases hd with ⟨e, hd⟩ | ⟨e, rfl, rfl⟩
          · exact (h1 e).2 d u hd
          · rw [appU_none]; exact h2 e
        · rintro ⟨h1, h2⟩
          refine ⟨fun e => ⟨h1 e, fun d u hd => h2 d u (.inl ⟨e, hd⟩)⟩, fun e => ?_⟩
          have := h2 .undef none (.inr ⟨e, rfl, rfl⟩)
          rwa [appU_none] at this
      · exact ⟨True, fun d u => d = .undef ∧ u = none, fun H _ K => ⟨fun h => ⟨trivial, fun d u ⟨h1, h2⟩ => by subst h1; subst h2; rw [appU_none]; exact h⟩, fun h => by have := h.2 .undef none ⟨rfl, rfl⟩; rwa [appU_none] at this⟩⟩
      · exact (linU_false _).lin r0

/-! ### It looks at its operands alone -/
theorem buildVC_congr {σ σ' : Sg} : ∀ (ps : List (Nat × Nat × Operand)) (cs : List D) (K : List D → Prop), (∀ x ∈ ps.map (·.2.2), ev σ x = ev σ' x) → (buildVC σ ps cs K ↔ buildVC σ' ps cs K)
  | [], cs, K, _ => Iff.rfl
  | (off, sz, x) :: r, cs, K, h => by
    have hx := h x (by simp)
    simp only [buildVC, hx]
    rw [buildVC_congr r _ K (fun y hy => h y (by simp at hy ⊢; exact .inr hy))]

theorem read_congr {c : COp} {σ σ' : Sg} {Hr : HMap} {K : D → Prop} (h : ∀ x ∈ c.ops, ev σ x = ev σ' x) : readVC c σ Hr K ↔ readVC c σ' Hr K := by
  cases c
  case build z ps => simp only [readVC]; exact buildVC_congr ps _ _ h
  case box el im x => cases im <;> simp only [readVC]; rw [h x (by simp [COp.ops])]
  case bslice el n ps =>
    have h' : ∀ x ∈ ps, ev σ x = ev σ' x := h
    simp only [readVC]; rw [List.map_congr_left h']
  case clo f caps =>
    have h' : ∀ x ∈ caps, ev σ x = ev σ' x := h
    simp only [readVC]; rw [List.map_congr_left h']
  case slice n x lo hi =>
    simp only [readVC]
    rw [h x (by simp [COp.ops])]
    have h1 : lo.map (fun o => asI (ev σ o)) = lo.map (fun o => asI (ev σ' o)) := by cases lo <;> simp; rw [h _ (by simp [COp.ops])]
    have h2 : hi.map (fun o => asI (ev σ o)) = hi.map (fun o => asI (ev σ' o)) := by cases hi <;> simp; rw [h _ (by simp [COp.ops])]
    rw [h1, h2]
  case sslice x lo hi =>
    simp only [readVC]
    rw [h x (by simp [COp.ops])]
    have h1 : lo.map (fun o => asI (ev σ o)) = lo.map (fun o => asI (ev σ' o)) := by cases lo <;> simp; rw [h _ (by simp [COp.ops])]
    have h2 : hi.map (fun o => asI (ev σ o)) = hi.map (fun o => asI (ev σ' o)) := by cases hi <;> simp; rw [h _ (by simp [COp.ops])]
    rw [h1, h2]
  case mm mx xs =>
    match xs with
    | [] => simp [readVC]
    | [x] => simp [readVC]
    | [x, y] => simp only [readVC]; rw [h x (by simp [COp.ops]), h y (by simp [COp.ops])]
    | [x, y, z] => simp only [readVC]; rw [h x (by simp [COp.ops]), h y (by simp [COp.ops]), h z (by simp [COp.ops])]
    | _ :: _ :: _ :: _ :: _ => simp [readVC]
  case pick q x y => simp only [readVC]; rw [h q (by simp [COp.ops]), h x (by simp [COp.ops]), h y (by simp [COp.ops])]
  all_goals simp only [readVC]
  all_goals first
    | (rename_i x; rw [h x (by simp [COp.ops])]; done)
    | (rename_i x y; rw [h x (by simp [COp.ops]), h y (by simp [COp.ops])]; done)
    | (rename_i x i; rw [h x (by simp [COp.ops])]; done)
    | skip

theorem pre_congr {S : Nat → Spc} {c : COp} {dst : Option Nat} {σ σ' : Sg} {Hr H : HMap} {K : D → HMap → Prop} (h : ∀ x ∈ c.ops, ev σ x = ev σ' x) : preVC S c dst σ Hr H K ↔ preVC S c dst σ' Hr H K := by
  cases c
  case call f args =>
    simp only [preVC]
    rw [List.map_congr_left (fun x hx => h x (by simpa [COp.ops] using hx))]
  case callv f args =>
    simp only [preVC]
    rw [h f (by simp [COp.ops]), List.map_congr_left (fun x hx => h x (by simp [COp.ops, hx]))]
  case alloc el z => exact Iff.rfl
  case box el im x =>
    cases im with
    | true => exact (preVC_read rfl).trans ((read_congr h).trans (preVC_read rfl).symm)
    | false => simp only [preVC, opVC]; rw [h x (by simp [COp.ops])]
  case nslice el n => exact Iff.rfl
  case mslice el n ps =>
    have h' : ∀ x ∈ ps, ev σ x = ev σ' x := h
    simp only [preVC, opVC]; rw [List.map_congr_left h']
  case mkslice el n b agg z l cc => simp only [preVC, opVC]; rw [h l (by simp [COp.ops]), h cc (by simp [COp.ops])]
  case store rt sz x y => simp only [preVC]; rw [h x (by simp [COp.ops]), h y (by simp [COp.ops])]
  case srange x => exact Iff.rfl
  case snext x => exact Iff.rfl
  case append rt el n b x y =>
    simp only [preVC]
    rw [h x (by simp [COp.ops]), h y (by simp [COp.ops])]
  case clear n agg z x => exact Iff.rfl
  case copy n x y => exact Iff.rfl
  case appmk el n b agg z x c => simp only [preVC, opVC]; rw [h x (by simp [COp.ops]), h c (by simp [COp.ops])]
  all_goals exact (preVC_read rfl).trans ((read_congr h).trans (preVC_read rfl).symm)

def tmpOf : Operand → List Nat
  | .tmp t => [t]
  | _ => []
def CI.reads : CI → List Nat
  | .op _ g c => c.ops.flatMap tmpOf ++ (match g with | some (s, _) => [s] | none => [])
  | .frz _ _ => []

theorem pOp_congr {S : Nat → Spc} {x : CI} {σ σ' : Sg} {Hr H : HMap} {K : D → HMap → Prop} (h : ∀ t ∈ x.reads, σ t = σ' t) : pOp S x σ Hr H K ↔ pOp S x σ' Hr H K := by
  cases x with
  | frz t n => exact Iff.rfl
  | op dst g c =>
    have hev : ∀ y ∈ c.ops, ev σ y = ev σ' y := fun y hy => by
      cases y with
      | tmp t => exact h t (by simp only [CI.reads, List.mem_append, List.mem_flatMap]; exact .inl ⟨_, hy, by simp [tmpOf]⟩)
      | _ => rfl
    have hp := pre_congr (S := S) (dst := dst) (Hr := Hr) (H := H) (K := K) hev
    cases g with
    | none => exact hp
    | some sb =>
      obtain ⟨s, b⟩ := sb
      simp only [pOp]
      rw [← h s (by simp [CI.reads])]
      split
      · rw [hp]
      · exact Iff.rfl
      · exact Iff.rfl
end Go.Gv

namespace Go.Gv
set_option linter.unusedSimpArgs false
set_option linter.unusedVariables false

def HLe (Hr H : HMap) : Prop := ∀ i r, Hr i = some r → H i = some r

theorem read_mono {c : COp} {σ : Sg} {Hr H : HMap} {K : D → Prop} (hle : HLe Hr H) (hv : readVC c σ Hr K) : readVC c σ H K := by
  cases c
  case load agg sz x =>
    simp only [readVC] at hv ⊢
    split at hv
    · exact hv
    · split at hv
      · rename_i h; rw [hle _ _ h]; exact hv
      · exact hv.elim
    · split at hv
      · rename_i h; rw [hle _ _ h]; exact hv
      · exact hv.elim
    · exact hv.elim
  case iaddr n x i =>
    simp only [readVC] at hv ⊢
    split at hv
    · split at hv
      · exact hv
      · split at hv
        · rename_i h; rw [hle _ _ h]; exact hv
        · exact hv.elim
      · exact hv
      · exact hv.elim
    · exact hv.elim
  case slice n x lo hi =>
    simp only [readVC] at hv ⊢
    split at hv
    · exact hv
    · split at hv
      · rename_i h; rw [hle _ _ h]; exact hv
      · exact hv.elim
    · exact hv
    · exact hv
    · exact hv.elim
  case len x =>
    simp only [readVC] at hv ⊢
    split at hv
    · exact hv
    · split at hv
      · rename_i h; rw [hle _ _ h]; exact hv
      · exact hv.elim
    · exact hv
    · exact hv
    · exact hv.elim
  case box el im x => cases im <;> exact hv
  case mm mx xs =>
    match xs, hv with
    | [], hv => exact hv
    | [x], hv => exact hv
    | [x, y], hv => exact hv
    | [x, y, z], hv => exact hv
    | _ :: _ :: _ :: _ :: _, hv => exact hv
  all_goals exact hv

theorem src_le {n : Nat} {d : D} {Hr H : HMap} {K K' : List D → Prop} (hle : HLe Hr H) (hk : ∀ l, K l → K' l) (h : srcVC n d Hr K) : srcVC n d H K' := by
  unfold srcVC at h ⊢
  split at h <;> (try simp only at h ⊢)
  · exact ⟨h.1, hk _ h.2⟩
  · split at h
    · rename_i e
      rw [hle _ _ e]
      exact ⟨h.1, h.2.1, hk _ h.2.2⟩
    · exact h.elim
  · exact hk _ h
  · split at h
    · rename_i e
      rw [hle _ _ e]
      exact ⟨h.1, h.2.1, h.2.2.1, hk _ h.2.2.2⟩
    · exact h.elim

theorem pre_call {S : Nat → Spc} {c : COp} {dst : Option Nat} {σ : Sg} {Hr H : HMap} {K : D → HMap → Prop} (hle : HLe Hr H) (hv : preVC S c dst σ Hr H K) : callVC S c dst σ H K := by
  by_cases hro : c.isRead = true
  · have h := read_mono hle ((preVC_read hro).1 hv)
    cases c <;> first | exact h | (simp [COp.isRead] at hro; done) | skip
    rename_i el im x
    cases im
    · simp [COp.isRead] at hro
    · exact h
  · cases c
    case call f args =>
      simp only [preVC] at hv
      simp only [callVC]
      cases h : S f with
      | pure pc => rw [h] at hv; exact hv
      | none => rw [h] at hv; exact hv.elim
      | gen A hA =>
        rw [h] at hv
        cases dst with
        | none => exact hv.elim
        | some t => exact hv.2
    case callv f args =>
      simp only [preVC] at hv
      simp only [callVC]
      split at hv
      · rename_i e1
        rw [e1]
        split at hv
        · rename_i pc h; simp only [h]; exact hv
        · exact hv.elim
      · exact hv.elim
    case box el im x =>
      cases im
      · exact hv
      · exact absurd rfl hro
    case store rt sz x y =>
      obtain ⟨h1, h2, hv⟩ := hv
      simp only [callVC, opVC]
      refine ⟨h1, h2, ?_⟩
      cases rt with
      | none => exact hv.elim
      | some r =>
        simp only at hv
        split at hv
        · rename_i id b off e1
          rw [e1]
          obtain ⟨rfl, hv⟩ := hv
          exact hv
        · rename_i id v n i off e1
          rw [e1]
          obtain ⟨rfl, hv⟩ := hv
          exact hv
        · exact hv.elim
    case srange x => exact hv.elim
    case snext x => exact hv.elim
    case append rt el n b x y =>
      simp only [preVC] at hv
      simp only [callVC, opVC]
      refine src_le hle ?_ hv
      intro es2 h
      cases rt with
      | none =>
        simp only at h
        split at h
        · rename_i t e1 e2
          rw [e2]
          exact h
        · exact h.elim
      | some r =>
        simp only at h
        split at h
        · rename_i id v e1
          rw [e1]
          obtain ⟨rfl, h⟩ := h
          simp only
          split at h
          · rename_i e2
            rw [e2]
            exact h
          · exact h.elim
        · exact h.elim
    case clear n agg z x => exact hv.elim
    case copy n x y => exact hv.elim
    case appmk el n b agg z x c => exact hv
    case alloc el z => exact hv
    case nslice el n => exact hv
    case mslice el n ps => exact hv
    case mkslice el n b agg z l cc => exact hv
    all_goals exact absurd rfl hro

theorem wp_exists {P : Program} {o : Oper} {a : Act} {w : World} {next : Act → World → Prop} (h : o.wp P a w next fun _ _ _ => False) : ∃ a' w', next a' w' := by
  unfold Oper.wp at h
  generalize (execOp a.eval o).run P w = r at h
  cases r with
  | ok nx w' =>
    cases nx <;> simp only [Oper.upon] at h <;> first | exact ⟨_, _, h⟩ | exact h.elim | skip
    case enter f args =>
      obtain ⟨e, w'', fr, hR, _⟩ := h []
      cases e with
      | returned v => exact ⟨_, _, hR⟩
      | panicked c => exact hR.elim
      | outgrown => obtain ⟨_, _, hf⟩ := hR; exact hf.elim
    case row row args =>
      obtain ⟨v, w'', hR, _⟩ := h default []
      exact ⟨_, _, hR⟩
  | halt x w' => cases x <;> simp only [Oper.upon] at h

section
variable {P : Program} {im : List Nat} {E : Env} {S : Nat → Spc} {ops : Array Oper}

theorem compileCI_spec {N : Nat} {o : Oper} {x : CI} (h : compileCI P im N ops o = some x) : ∃ g c, x = .op o.dst g c ∧ compileOp P im o = some c ∧ guardOf ops o = some g ∧ ∀ t, o.dst = some t → t < N := by
  unfold compileCI at h
  simp only [Option.bind_eq_bind, Option.bind_eq_some_iff] at h
  obtain ⟨c, hc, g, hg, h⟩ := h
  split at h
  · rename_i hd
    cases h
    exact ⟨g, c, rfl, hc, hg, dst_lt hd⟩
  · cases h

theorem pop_sound {o : Oper} {x : CI} {σ : Sg} {Hr H : HMap} {a : Act} {w : World} {K : D → HMap → Prop} (hS : ∀ f, Tri P f (S f).pt) (hx : compileCI P im E.N ops o = some x) (hst : St E σ H a w) (hle : HLe Hr H) (hv : pOp S x σ Hr H K)
    {next : Act → World → Prop} {Q : Exit → Act → World → Prop} (hnext : ∀ r H' v w', K r H' → St E (updO σ o.dst r) H' (a.put o.dst v) w' → next (a.put o.dst v) w') :
    if Region.wanted o (yielded ops a.tmps) then o.wp P a w next Q else next (a.put o.dst undef) w := by
  obtain ⟨g, c, rfl, hc, hg, hdst⟩ := compileCI_spec hx
  have hst0 := hst
  obtain ⟨hd, hN, tp, hw, hr⟩ := hst
  have hgv : guardVC g σ (fun σ' => σ' = σ → preVC S c o.dst σ Hr H K) (fun σ' => σ' = σ → K .undef H) := by
    cases g with
    | none => exact fun _ => hv
    | some sb =>
      obtain ⟨s, b⟩ := sb
      simp only [pOp] at hv
      simp only [guardVC]
      split at hv
      · rename_i e1
        rw [e1]
        exact ⟨fun e _ => hv.1 e, fun e _ => hv.2 e⟩
      · rename_i e1
        rw [e1]
        exact fun _ => hv
      · exact hv.elim
  rcases guard_sound hg hr hgv with ⟨hwant, hyes⟩ | ⟨hwant, hno⟩
  · rw [if_pos hwant]
    exact any_sound hS hc hw hd hN hr hdst (pre_call hle (hyes rfl)) hnext
  · rw [if_neg (by simp [hwant])]
    exact hnext _ _ _ _ (hno rfl) (hst0.skip o.dst hdst)

theorem pop_exists {o : Oper} {x : CI} {σ : Sg} {Hr H : HMap} {a : Act} {w : World} {K : D → HMap → Prop} (hS : ∀ f, Tri P f (S f).pt) (hx : compileCI P im E.N ops o = some x) (hst : St E σ H a w) (hle : HLe Hr H) (hv : pOp S x σ Hr H K) :
    ∃ r H' a' w', K r H' ∧ St E (updO σ o.dst r) H' a' w' := by
  have h := pop_sound (Q := fun _ _ _ => False) (next := fun a' w' => ∃ r H', K r H' ∧ St E (updO σ o.dst r) H' a' w') hS hx hst hle hv (fun r H' v w' hk hs => ⟨r, H', hk, hs⟩)
  split at h
  · obtain ⟨a', w', r, H', hk, hs⟩ := wp_exists h
    exact ⟨r, H', a', w', hk, hs⟩
  · obtain ⟨r, H', hk, hs⟩ := h
    exact ⟨r, H', _, _, hk, hs⟩

/-! ### Apart -/
def apartCI (x y : CI) : Bool :=
  (match x.dst with | some d => !y.reads.contains d | none => true) && (match y.dst with | some e => !x.reads.contains e | none => true) &&
  (match x.dst, y.dst with | some d, some e => d != e | _, _ => true) && (match x.wid, y.wid with | some p, some q => p != q | _, _ => true)

theorem apart_spec {x y : CI} (h : apartCI x y = true) : (∀ d, x.dst = some d → d ∉ y.reads) ∧ (∀ e, y.dst = some e → e ∉ x.reads) ∧ (∀ d e, x.dst = some d → y.dst = some e → d ≠ e) ∧ (∀ p q, x.wid = some p → y.wid = some q → p ≠ q) := by
  unfold apartCI at h
  simp only [Bool.and_eq_true] at h
  obtain ⟨⟨⟨h1, h2⟩, h3⟩, h4⟩ := h
  refine ⟨fun d hd => ?_, fun e he => ?_, fun d e hd he => ?_, fun p q hp hq => ?_⟩
  · rw [hd] at h1; simpa using h1
  · rw [he] at h2; simpa using h2
  · rw [hd, he] at h3; simpa using h3
  · rw [hp, hq] at h4; simpa using h4

theorem rd_app {H : HMap} {p q : Nat} (h : p ≠ q) (u : Option Res) : rdH (appU H (some p) u) (some q) = rdH H (some q) := by
  cases u with
  | none => rfl
  | some r =>
    simp only [appU, rdH, updH]
    rw [if_neg (fun e => h e.symm)]

theorem updO_comm {σ : Sg} {t s : Nat} (h : t ≠ s) (d e : D) : updO (updO σ (some t) d) (some s) e = updO (updO σ (some s) e) (some t) d := by
  funext k
  simp only [updO, upd]
  by_cases h1 : k = s
  · by_cases h2 : k = t
    · exact absurd (h2.symm.trans h1) h
    · simp [h1, h2]; intro h3; exact absurd h3.symm h
  · simp [h1]

theorem appU_comm {H : HMap} {t s : Nat} (h : t ≠ s) (u v : Option Res) : appU (appU H (some t) u) (some s) v = appU (appU H (some s) v) (some t) u := by
  cases u <;> cases v <;> simp only [appU]
  funext k
  simp only [updH]
  by_cases h1 : k = s
  · by_cases h2 : k = t
    · exact absurd (h2.symm.trans h1) h
    · simp [h1, h2]; intro h3; exact absurd h3.symm h
  · simp [h1]

theorem updO_comm' {σ : Sg} {t s : Option Nat} (h : ∀ d e, t = some d → s = some e → d ≠ e) (d e : D) : updO (updO σ t d) s e = updO (updO σ s e) t d := by
  cases t with
  | none => rfl
  | some t =>
    cases s with
    | none => rfl
    | some s => exact updO_comm (h t s rfl rfl) d e
theorem appU_comm' {H : HMap} {t s : Option Nat} (h : ∀ d e, t = some d → s = some e → d ≠ e) (u v : Option Res) : appU (appU H t u) s v = appU (appU H s v) t u := by
  cases t with
  | none => rfl
  | some t =>
    cases s with
    | none => rfl
    | some s => exact appU_comm (h t s rfl rfl) u v
theorem rd_app' {H : HMap} {p q : Option Nat} (h : ∀ d e, p = some d → q = some e → d ≠ e) (u : Option Res) : rdH (appU H p u) q = rdH H q := by
  cases p with
  | none => rfl
  | some p =>
    cases q with
    | none => rfl
    | some q => exact rd_app (h p q rfl rfl) u
theorem sg_agree {σ : Sg} {t : Nat} {d : D} {l : List Nat} (h : t ∉ l) : ∀ s ∈ l, updO σ (some t) d s = σ s := by
  intro s hs
  simp only [updO, upd]
  rw [if_neg (fun e => h (by rw [← e]; exact hs))]

theorem sg_agree' {σ : Sg} {t : Option Nat} {d : D} {l : List Nat} (h : ∀ s, t = some s → s ∉ l) : ∀ s ∈ l, updO σ t d s = σ s := by
  cases t with
  | none => exact fun _ _ => rfl
  | some t => exact sg_agree (h t rfl)

/-- Take out of the list an operation that has been carried out with this outcome. -/
theorem vcP_take {x : CI} {Hr : HMap} {K : Sg → HMap → Prop} : ∀ (l1 l2 : List CI) (σ : Sg) (H : HMap), (∀ y ∈ l1, apartCI y x = true) → vcP S (l1 ++ x :: l2) σ Hr H K → ∀ (r0 : Option Res), rdH H x.wid = r0 →
    ∀ (pre : Prop) (out : D → Option Res → Prop), (∀ H, rdH H x.wid = r0 → ∀ K, pOp S x σ Hr H K ↔ (pre ∧ ∀ d u, out d u → K d (appU H x.wid u))) → ∀ d u, out d u → vcP S (l1 ++ l2) (updO σ x.dst d) Hr (appU H x.wid u) K
  | [], l2, σ, H, _, hv, r0, hr0, pre, out, hform, d, u, hout => ((hform H hr0 _).1 hv).2 d u hout
  | y :: l1, l2, σ, H, hap, hv, r0, hr0, pre, out, hform, d, u, hout => by
    obtain ⟨h1, h2, h3, h4⟩ := apart_spec (hap y (by simp))
    obtain ⟨qy, oy, hyf⟩ := linU_pOp S y σ Hr (rdH H y.wid)
    have hyf : ∀ H', rdH H' y.wid = rdH H y.wid → ∀ K, pOp S y σ Hr H' K ↔ (qy ∧ ∀ d u, oy d u → K d (appU H' y.wid u)) := hyf
    have hv' := (hyf H rfl _).1 hv
    have hcong : ∀ H K, pOp S y (updO σ x.dst d) Hr H K ↔ pOp S y σ Hr H K := fun H K => by
      exact pOp_congr (sg_agree' h2)
    have e1 : rdH (appU H x.wid u) y.wid = rdH H y.wid := rd_app' (fun d e hd he q => h4 e d he hd q.symm) u
    refine (hcong _ _).2 ((hyf _ e1 _).2 ⟨hv'.1, fun e v hev => ?_⟩)
    have hk := hv'.2 e v hev
    have hform' : ∀ H, rdH H x.wid = r0 → ∀ K, pOp S x (updO σ y.dst e) Hr H K ↔ (pre ∧ ∀ d u, out d u → K d (appU H x.wid u)) := fun H hr K => by
      rw [← hform H hr K]
      exact pOp_congr (sg_agree' h1)
    have e2 : rdH (appU H y.wid v) x.wid = r0 := by rw [← hr0]; exact rd_app' h4 v
    have := vcP_take l1 l2 (updO σ y.dst e) (appU H y.wid v) (fun z hz => hap z (by simp [hz])) hk r0 e2 pre out hform' d u hout
    rwa [updO_comm' h3 e d, appU_comm' h4 v u] at this

/-- What it asks is met now, though others of the text stand ahead of it. -/
theorem vcP_front {x : CI} {Hr : HMap} {K : Sg → HMap → Prop} (hS : ∀ f, Tri P f (S f).pt) : ∀ (l1 l2 : List CI) (σ : Sg) (H : HMap) (a : Act) (w : World), (∀ y ∈ l1, apartCI y x = true) →
    (∀ y ∈ l1, ∃ o, compileCI P im E.N ops o = some y) → (∀ y ∈ l1, ∀ t, y.wid = some t → Hr t = none) → St E σ H a w → HLe Hr H → vcP S (l1 ++ x :: l2) σ Hr H K → ∀ (r0 : Option Res), rdH H x.wid = r0 →
    ∀ (pre : Prop) (out : D → Option Res → Prop), (∀ H, rdH H x.wid = r0 → ∀ K, pOp S x σ Hr H K ↔ (pre ∧ ∀ d u, out d u → K d (appU H x.wid u))) → pre
  | [], l2, σ, H, a, w, _, _, _, _, _, hv, r0, hr0, pre, out, hform => ((hform H hr0 _).1 hv).1
  | y :: l1, l2, σ, H, a, w, hap, hcomp, hban, hst, hle, hv, r0, hr0, pre, out, hform => by
    obtain ⟨h1, h2, h3, h4⟩ := apart_spec (hap y (by simp))
    obtain ⟨o, ho⟩ := hcomp y (by simp)
    have hdst : y.dst = o.dst := by
      obtain ⟨g, c, rfl, _⟩ := compileCI_spec ho; rfl
    obtain ⟨qy, oy, hyf⟩ := linU_pOp S y σ Hr (rdH H y.wid)
    have hyf : ∀ H', rdH H' y.wid = rdH H y.wid → ∀ K, pOp S y σ Hr H' K ↔ (qy ∧ ∀ d u, oy d u → K d (appU H' y.wid u)) := hyf
    have hv' := (hyf H rfl _).1 hv
    have hv2 : pOp S y σ Hr H fun d H' => vcP S (l1 ++ x :: l2) (updO σ y.dst d) Hr H' K ∧ HLe Hr H' ∧ rdH H' x.wid = r0 := (hyf H rfl _).2 ⟨hv'.1, fun d u hout => ⟨hv'.2 d u hout, fun i r hi => by
      cases u with
      | none => rw [appU_none]; exact hle i r hi
      | some u =>
        cases hyw : y.wid with
        | none => exact hle i r hi
        | some py =>
          simp only [appU, updH]
          have hne : i ≠ py := fun e => by
            have := hban y (by simp) py hyw
            rw [e, this] at hi
            cases hi
          rw [if_neg hne]
          exact hle i r hi, by rw [← hr0]; exact rd_app' h4 u⟩⟩
    obtain ⟨r, H', a', w', ⟨hk, hle', hr'⟩, hst'⟩ := pop_exists hS ho hst hle hv2
    rw [← hdst] at hst'
    have hform' : ∀ H, rdH H x.wid = r0 → ∀ K, pOp S x (updO σ y.dst r) Hr H K ↔ (pre ∧ ∀ d u, out d u → K d (appU H x.wid u)) := fun H hr K => by
      rw [← hform H hr K]
      exact pOp_congr (sg_agree' h1)
    exact vcP_front hS l1 l2 _ H' a' w' (fun z hz => hap z (by simp [hz])) (fun z hz => hcomp z (by simp [hz])) (fun z hz => hban z (by simp [hz])) hst' hle' hk r0 hr' pre out hform'
end
end Go.Gv
