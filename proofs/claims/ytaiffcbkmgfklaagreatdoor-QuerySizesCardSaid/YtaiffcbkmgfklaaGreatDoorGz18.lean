/- A part of the framework and of the walks: W37 V6 V7 V8 V12 V13 V15 V16 T24 V18 W77. -/
import Derived.Test.YtaiffcbkmgfklaaGreatDoorGz17
import Derived.Test.YtaiffcbkmgfklaaGreatDoorGz15
import Derived.Test.YtaiffcbkmgfklaaGreatDoorGz16

namespace Go.Gv
set_option linter.unusedSimpArgs false
set_option linter.unusedVariables false
set_option maxRecDepth 100000
open Cod (enc dec)
variable {S S0 : Nat → Spc}

/-- d is a function that gives p on the members of a list. -/
def FunOn {X Y : Type} [Cod X] [Cod Y] (S : Nat → Spc) (d : D) (l : List X) (p : X → Y) : Prop :=
  ∃ g caps pc, d = .clo g caps ∧ S g = .pure pc ∧ ∀ x ∈ l, pc.pre (enc x :: caps) ∧ ∀ r, pc.post (enc x :: caps) r → r = enc (p x)
theorem FunOn.useB {X : Type} [Cod X] {S : Nat → Spc} {d : D} {l : List X} {p : X → Bool} (h : FunOn S d l p) (x : X) (hx : x ∈ l) {d' : Nat} {H : HMap} {K : D → HMap → Prop} (hk : ∀ y : Bool, (∀ q, FunOn S d l q → y = q x) → K (.v (.bool y)) H) : callX S d d' [enc x] H K := by
  obtain ⟨g, caps, pc, rfl, h1, h2⟩ := h
  simp only [callX, h1, Spc.pt]
  refine ⟨(h2 x hx).1, fun r hr => ?_⟩
  have e := (h2 x hx).2 r hr
  rw [e]
  refine hk (p x) fun q hq => ?_
  obtain ⟨g', caps', pc', e', k1, k2⟩ := hq
  cases e'
  rw [h1] at k1
  cases k1
  exact enc_inj (e.symm.trans ((k2 x hx).2 r hr))
theorem FunIs.on {X Y : Type} [Cod X] [Cod Y] {S : Nat → Spc} {d : D} {p : X → Y} (h : FunIs S d p) (l : List X) : FunOn S d l p := by
  obtain ⟨g, caps, pc, h1, h2, h3⟩ := h
  exact ⟨g, caps, pc, h1, h2, fun x _ => h3 x⟩
theorem funOn_cap {X Y : Type} [Cod X] [Cod Y] {S : Nat → Spc} {g : Nat} {c : D} {l : List X} {pre : X × D × Unit → Prop} {post : X × D × Unit → Y → Prop} {p : X → Y} (h : S g = spc (aE X (aD a0)) pre enc post) (hp : ∀ x ∈ l, pre (x, c, ())) (hq : ∀ x ∈ l, ∀ y, post (x, c, ()) y → y = p x) : FunOn S (.clo g [c]) l p := by
  refine ⟨g, [c], _, rfl, h, fun x hx => ⟨⟨(x, c, ()), by simp, hp x hx⟩, fun r hr => ?_⟩⟩
  obtain ⟨y, rfl, hy⟩ := hr (x, c, ()) (by simp) (hp x hx)
  rw [hq x hx y hy]

theorem pat_agg (x : Pat) : D.agg [D.v (Value.int IntKind.i64 x.op), D.v (Value.int IntKind.i64 x.cond.op), D.v (Value.string x.cond.name), D.v (Value.string x.cond.arg), D.v (Value.string x.cond.val), D.v (Value.string x.cond.lab), D.v (Value.bool x.cond.fold), D.list 7 (List.map enc x.cond.kids), D.v (Value.string x.lab), D.v (Value.string x.reg), D.v (Value.int IntKind.i64 x.mn), D.v (Value.int IntKind.i64 x.mx), D.list 13 (List.map enc x.kids)] = enc x := by simp
def P_IdxP (S0 : Nat → Spc) (x : List Pat × D × Unit) : Prop := ∃ p : Pat → Bool, FunOn S0 x.2.1 x.1 p
def Q_IdxP (S0 : Nat → Spc) (x : List Pat × D × Unit) (y : Int) : Prop := ∀ p : Pat → Bool, FunOn S0 x.2.1 x.1 p → y = idxI x.1 p
abbrev s_IdxP (S0 : Nat → Spc) : Spc := spc (aE (List Pat) (aD a0)) (P_IdxP S0) enc (Q_IdxP S0)
theorem w_slices_IndexFunc_Pattern : Walk cc_slices_IndexFunc_Pattern rs_slices_IndexFunc_Pattern S (aE (List Pat) (aD a0)) (P_IdxP S) enc (Q_IdxP S) := by
  rintro ⟨l, d, ⟨⟩⟩ ⟨p, hp⟩
  simp at hp
  simp [cc_slices_IndexFunc_Pattern, rs_slices_IndexFunc_Pattern]
  intro _
  refine vc_range (X := Unit) [0, 1] [] l.length (fun k _ => ∀ p : Pat → Bool, FunOn S d l p → ∀ x ∈ l.take k, p x = false) (fun _ => []) (fun _ => []) () (by simp) (by simp) (by omega) (by simp) (by simp) (by simp) (by simp) (by simp) ?_ ?_
  · intro k _ hk hP
    simp
    refine ⟨hk, fun x hx => ?_⟩
    rw [pat_agg x]
    refine hp.useB x (mem_at hx) fun y hy => ?_
    simp
    refine ⟨fun h => ?_, fun h p' hp' => ?_⟩
    · intro p' hp'
      exact (idxI_at hx (by rw [← hy p' hp', h]) (hP p' hp')).symm
    · rw [take_snoc hx]
      intro z hz
      rcases List.mem_append.1 hz with hz | hz
      · exact hP p' hp' z hz
      · simp at hz; subst hz; rw [← hy p' hp', h]
  · intro _ hP
    simp
    intro p' hp'
    exact (idxI_none (by simpa using hP p' hp')).symm
def Q_ConP (S0 : Nat → Spc) (x : List Pat × D × Unit) (y : Bool) : Prop := ∀ p : Pat → Bool, FunOn S0 x.2.1 x.1 p → y = x.1.any p
abbrev s_ConP (S0 : Nat → Spc) : Spc := spc (aE (List Pat) (aD a0)) (P_IdxP S0) enc (Q_ConP S0)
theorem w_slices_ContainsFunc_Pattern (h1 : S f_slices_IndexFunc_Pattern = s_IdxP S0) : Walk cc_slices_ContainsFunc_Pattern rs_slices_ContainsFunc_Pattern S (aE (List Pat) (aD a0)) (P_IdxP S0) enc (Q_ConP S0) := by
  rintro ⟨l, d, ⟨⟩⟩ hp
  simp [cc_slices_ContainsFunc_Pattern, rs_slices_ContainsFunc_Pattern, h1, -Bool.forall_bool]
  refine ⟨hp, fun y hy p' hp' => ?_⟩
  rw [hy p' hp']
  exact idxI_ge p' l

abbrev s_shallow (n : Nat) : Spc := spc (a2 Pat Int) (fun x => pDep x.1 ≤ n ∧ 0 ≤ x.2 ∧ x.2 ≤ 101) (enc (X := Bool)) fun x y => y = shallowB x.1 x.2
def P_sh1 (n : Nat) (x : Pat × D × Unit) : Prop := ∃ d : Int, x.2.1 = .cptr [enc d] 0 ∧ pDep x.1 ≤ n ∧ 0 ≤ d ∧ d ≤ 100
def Q_sh1 (x : Pat × D × Unit) (y : Bool) : Prop := ∀ d : Int, x.2.1 = .cptr [enc d] 0 → y = !shallowB x.1 (d + 1)
abbrev s_sh1 (n : Nat) : Spc := spc (aE Pat (aD a0)) (P_sh1 n) enc Q_sh1
theorem w_query_shallow_1 (n : Nat) (h1 : S f_query_shallow = s_shallow n) : Walk cc_query_shallow_1 rs_query_shallow_1 S (aE Pat (aD a0)) (P_sh1 n) enc Q_sh1 := by
  rintro ⟨p, d, ⟨⟩⟩ ⟨e, hd, h2, h3, h4⟩
  simp at hd h2
  subst hd
  simp [cc_query_shallow_1, rs_query_shallow_1, h1, Q_sh1, h2, -Bool.forall_bool]
  exact ⟨by simp only [InR]; omega, by omega⟩
theorem w_query_shallow (n : Nat) (h0 : S0 f_query_shallow_1 = s_sh1 n) (h1 : S f_slices_ContainsFunc_Pattern = s_ConP S0) : Walk cc_query_shallow rs_query_shallow S (a2 Pat Int) (fun x => pDep x.1 ≤ n + 1 ∧ 0 ≤ x.2 ∧ x.2 ≤ 101) (enc (X := Bool)) fun x y => y = shallowB x.1 x.2 := by
  rintro ⟨p, d⟩ ⟨hn, hd0, hd1⟩
  have hk : ∀ k ∈ p.kids, pDep k ≤ n := fun k hk => by have := pDep_kid hk; have : pDep p ≤ n + 1 := hn; omega
  simp only at hd0 hd1
  simp [cc_query_shallow, rs_query_shallow, h1, -Bool.forall_bool]
  rw [shallowB_eq]
  refine ⟨fun h => ?_, fun h => by rw [decide_eq_false (by omega)]; rfl⟩
  have hf : FunOn S0 (.clo f_query_shallow_1 [.cptr [.v (.int .i64 d)] 0]) p.kids fun x => !shallowB x (d + 1) :=
    funOn_cap h0 (fun x hx => ⟨d, rfl, hk x hx, hd0, h⟩) (fun x _ y hy => hy d rfl)
  refine ⟨⟨_, hf⟩, fun y hy => ?_⟩
  rw [hy _ hf, decide_eq_true h, Bool.true_and]
  simp [List.any_eq_not_all_not]
def P_ev1 (S0 : Nat → Spc) (n : Nat) (x : Pat × D × Unit) : Prop := ∃ (d : D) (f : Pat → Bool), x.2.1 = .cptr [d] 0 ∧ FunIs S0 d f ∧ pDep x.1 ≤ n
def Q_ev1 (S0 : Nat → Spc) (x : Pat × D × Unit) (y : Bool) : Prop := ∀ (d : D) (f : Pat → Bool), x.2.1 = .cptr [d] 0 → FunIs S0 d f → y = !everyB f x.1
abbrev s_every (S0 : Nat → Spc) (n : Nat) : Spc := spc (aE Pat (aD a0)) (fun x => ∃ f : Pat → Bool, FunIs S0 x.2.1 f ∧ pDep x.1 ≤ n) enc fun x y => ∀ f : Pat → Bool, FunIs S0 x.2.1 f → y = everyB f x.1
abbrev s_ev1 (S0 : Nat → Spc) (n : Nat) : Spc := spc (aE Pat (aD a0)) (P_ev1 S0 n) enc (Q_ev1 S0)
theorem w_query_every_1 (n : Nat) (h1 : S f_query_every = s_every S0 n) : Walk cc_query_every_1 rs_query_every_1 S (aE Pat (aD a0)) (P_ev1 S0 n) enc (Q_ev1 S0) := by
  rintro ⟨p, d, ⟨⟩⟩ ⟨e, f, hd, h2, h3⟩
  simp at hd h3
  subst hd
  simp [cc_query_every_1, rs_query_every_1, h1, Q_ev1, h3, -Bool.forall_bool]
  exact ⟨⟨f, h2⟩, fun y hy d g e hg => by subst e; exact hy g hg⟩
theorem w_query_every {N : Nat → Spc} (n : Nat) (hN : ∀ (d : D) (f : Pat → Bool), FunIs N d f → FunIs S d f) (h0 : S0 f_query_every_1 = s_ev1 N n) (h1 : S f_slices_ContainsFunc_Pattern = s_ConP S0) : Walk cc_query_every rs_query_every S (aE Pat (aD a0)) (fun x => ∃ f : Pat → Bool, FunIs N x.2.1 f ∧ pDep x.1 ≤ n + 1) enc fun x y => ∀ f : Pat → Bool, FunIs N x.2.1 f → y = everyB f x.1 := by
  rintro ⟨p, d, ⟨⟩⟩ ⟨f, hf, hn⟩
  have hk : ∀ k ∈ p.kids, pDep k ≤ n := fun k hk => by have := pDep_kid hk; have : pDep p ≤ n + 1 := hn; omega
  simp at hf
  have hd1 : d.kn = true ∧ d.cells = [d] := by obtain ⟨g, caps, pc, rfl, _⟩ := hf; exact ⟨rfl, rfl⟩
  simp [cc_query_every, rs_query_every, h1, hd1, -Bool.forall_bool]
  rw [pat_agg p]
  refine ((hN d f hf).on [p]).useB p (by simp) fun y hy => ?_
  have hy : ∀ f, FunIs N d f → y = f p := fun f hf => hy f ((hN d f hf).on [p])
  simp [h1, -Bool.forall_bool]
  refine ⟨fun ht => ?_, fun hff g hg => by rw [everyB_eq, ← hy g hg, hff]; rfl⟩
  have hO : ∀ g, FunIs N d g → FunOn S0 (.clo f_query_every_1 [.cptr [d] 0]) p.kids fun x => !everyB g x := fun g hg =>
    funOn_cap h0 (fun x hx => ⟨d, g, rfl, hg, hk x hx⟩) (fun x _ y hy => hy d g rfl hg)
  refine ⟨⟨_, hO f hf⟩, fun z hz g hg => ?_⟩
  rw [hz _ (hO g hg), everyB_eq, ← hy g hg, ht, Bool.true_and]
  simp [List.any_eq_not_all_not]
abbrev s_shallowA : Spc := spc (a2 Pat Int) (fun x => 0 ≤ x.2 ∧ x.2 ≤ 101) (enc (X := Bool)) fun x y => y = shallowB x.1 x.2
abbrev s_everyA (N : Nat → Spc) : Spc := spc (aE Pat (aD a0)) (fun x => ∃ f : Pat → Bool, FunIs N x.2.1 f) enc fun x y => ∀ f : Pat → Bool, FunIs N x.2.1 f → y = everyB f x.1
abbrev s_Shape : Spc := spc (a1 Pat) (fun _ => True) (enc (X := Bool)) fun x y => y = (shallowB x 1 && everyB nodeB x)
theorem funIs_nm {X : Type} [Cod X] {S : Nat → Spc} {g : Nat} {pre : X → Prop} {p : X → Bool} (h : S g = spc (a1 X) pre enc fun x y => y = p x) (hp : ∀ x, pre x) : FunIs S (.clo g []) p := by
  refine ⟨g, [], _, rfl, h, fun x => ⟨⟨x, by simp, hp x⟩, fun r hr => ?_⟩⟩
  obtain ⟨y, rfl, hy⟩ := hr x (by simp) (hp x)
  rw [hy]
theorem w_query_Shape {N : Nat → Spc} (h0 : N f_query_node = s_node) (h1 : S f_query_shallow = s_shallowA) (h2 : S f_query_every = s_everyA N) : Walk cc_query_Shape rs_query_Shape S (a1 Pat) (fun _ => True) (enc (X := Bool)) fun x y => y = (shallowB x 1 && everyB nodeB x) := by
  rintro p -
  have f1 : FunIs N (.clo f_query_node []) nodeB := funIs_nm h0 fun _ => trivial
  simp [cc_query_Shape, rs_query_Shape, h1, h2, -Bool.forall_bool]
  refine ⟨fun h => ⟨⟨_, f1⟩, fun y hy => by rw [hy _ f1, h]; rfl⟩, fun h h' => absurd (h.symm.trans h') (by simp)⟩
theorem w_query_right {N : Nat → Spc} (h0 : N f_query_named = s_named) (h0' : N f_query_ranged = s_ranged) (h1 : S f_query_Shape = s_Shape) (h2 : S f_query_every = s_everyA N) : Walk cc_query_right rs_query_right S (a1 Pat) (fun _ => True) (enc (X := Bool)) fun x y => y = patB validN x := by
  rintro p -
  have f1 : FunIs N (.clo f_query_named []) (nameB validN) := funIs_nm h0 fun _ => trivial
  have f2 : FunIs N (.clo f_query_ranged []) numB := funIs_nm h0' fun _ => trivial
  simp [cc_query_right, rs_query_right, h1, h2, -Bool.forall_bool]
  unfold patB
  refine ⟨fun h1 h2 => ⟨⟨_, f1⟩, fun y hy => ?_⟩, fun h => ?_⟩
  · have hy := hy _ f1
    refine ⟨fun ht => ⟨⟨_, f2⟩, fun z hz => ?_⟩, fun hf => ?_⟩
    · rw [hz _ f2, h1, h2, ← hy, ht]; rfl
    · rw [← hy, hf]; simp
  · rcases hs : shallowB p 1
    · rfl
    · rw [h hs]; rfl
end Go.Gv

namespace Go.Gv
open Cod (enc dec)
set_option linter.unusedSimpArgs false

structure Glob where
  op : Int
  a : B
  b : B
  name : B
  arg : B
  val : B
  fold : Bool
  mn : Int
  mx : Int
  args : List B
  kids : List Glob

mutual
def encG : Glob → D
  | .mk p0 p1 p2 p3 p4 p5 p6 p7 p8 p9 ks => .agg [enc p0, enc p1, enc p2, enc p3, enc p4, enc p5, enc p6, enc p7, enc p8, enc p9, .list 11 (encGs ks)]
def encGs : List Glob → List D
  | [] => []
  | k :: ks => encG k :: encGs ks
end
mutual
def decG : D → Option Glob
  | .agg [x0, x1, x2, x3, x4, x5, x6, x7, x8, x9, x10] => (dec x0).bind fun p0 => (dec x1).bind fun p1 => (dec x2).bind fun p2 => (dec x3).bind fun p3 => (dec x4).bind fun p4 => (dec x5).bind fun p5 => (dec x6).bind fun p6 => (dec x7).bind fun p7 => (dec x8).bind fun p8 => (dec x9).bind fun p9 => (decGK x10).bind fun ks => some (.mk p0 p1 p2 p3 p4 p5 p6 p7 p8 p9 ks)
  | _ => none
def decGK : D → Option (List Glob)
  | .list n es => if n = 11 then decGs es else none
  | .v (.slice none 0 0) => some []
  | _ => none
def decGs : List D → Option (List Glob)
  | [] => some []
  | d :: ds => (decG d).bind fun x => (decGs ds).bind fun xs => some (x :: xs)
end
theorem encGs_map : ∀ l : List Glob, encGs l = l.map encG
  | [] => rfl
  | _ :: l => by rw [encGs, encGs_map l]; rfl
theorem encG_kn : ∀ c : Glob, (encG c).kn = true
  | .mk .. => rfl
theorem encG_wid : ∀ c : Glob, (encG c).cells.length = 11
  | .mk .. => rfl
mutual
theorem decG_enc : ∀ c : Glob, decG (encG c) = some c
  | .mk p0 p1 p2 p3 p4 p5 p6 p7 p8 p9 ks => by
    have h : decGK (.list 11 (encGs ks)) = some ks := by rw [decGK, if_pos rfl]; exact decGs_enc ks
    simp only [encG, decG, Cod.dec_enc, Option.bind_some, h]
theorem decGs_enc : ∀ l : List Glob, decGs (encGs l) = some l
  | [] => by simp only [encGs, decGs]
  | c :: l => by simp only [encGs, decGs, decG_enc c, decGs_enc l, Option.bind_some]
end
mutual
theorem decG_le : ∀ (d : D) (c : Glob), decG d = some c → FrzTo noH d (encG c)
  | .agg [x0, x1, x2, x3, x4, x5, x6, x7, x8, x9, x10], c, h => by
    simp only [decG, Option.bind_eq_some_iff, Option.some.injEq] at h
    obtain ⟨p0, h0, p1, h1, p2, h2, p3, h3, p4, h4, p5, h5, p6, h6, p7, h7, p8, h8, p9, h9, ks, hk, rfl⟩ := h
    rw [encG]
    exact LeL.agg (.cons (Cod.le _ _ h0) (.cons (Cod.le _ _ h1) (.cons (Cod.le _ _ h2) (.cons (Cod.le _ _ h3) (.cons (Cod.le _ _ h4) (.cons (Cod.le _ _ h5) (.cons (Cod.le _ _ h6) (.cons (Cod.le _ _ h7) (.cons (Cod.le _ _ h8) (.cons (Cod.le _ _ h9) ((.cons (decGK_le x10 ks hk) .nil))))))))))))
theorem decGK_le : ∀ (d : D) (l : List Glob), decGK d = some l → FrzTo noH d (.list 11 (encGs l))
  | .list n es, l, h => by
    simp only [decGK] at h
    split at h
    · rename_i hn
      subst hn
      have hl := decGs_le es l h
      refine .list hl.1 (fun e he => ?_) hl.2
      rw [encGs_map] at he
      obtain ⟨x, hx, rfl⟩ := List.mem_map.1 he
      exact ⟨encG_kn x, encG_wid x⟩
    · cases h
  | .v (.slice none 0 0), l, h => by
    simp only [decGK, Option.some.injEq] at h
    subst h
    exact .nil _
theorem decGs_le : ∀ (es : List D) (l : List Glob), decGs es = some l → LeL es (encGs l)
  | [], l, h => by
    simp only [decGs, Option.some.injEq] at h
    subst h
    exact .nil
  | d :: ds, l, h => by
    simp only [decGs, Option.bind_eq_some_iff, Option.some.injEq] at h
    obtain ⟨x, h1, xs, h2, rfl⟩ := h
    rw [encGs]
    exact .cons (decG_le d x h1) (decGs_le ds xs h2)
end
instance : Cod Glob where
  wd := 11
  enc := encG
  dec := decG
  kn := encG_kn
  wid := encG_wid
  dec_enc := decG_enc
  le := decG_le
theorem encGs_enc (ks : List Glob) : D.list 11 (encGs ks) = enc ks := by rw [encGs_map]; rfl
theorem decGs_mapM : ∀ es : List D, decGs es = es.mapM (dec (X := Glob))
  | [] => by simp [decGs]
  | d :: es => by
    rw [decGs, List.mapM_cons, decGs_mapM es]
    rfl
theorem decGK_eq : ∀ d : D, decGK d = dec (X := List Glob) d := fun d => by
  unfold decGK
  split
  · rename_i n es
    show _ = if n = 11 then es.mapM (dec (X := Glob)) else none
    rw [decGs_mapM]
  · rfl
  · rename_i h1 h2
    show _ = (match d with
      | .list n es => if n = 11 then es.mapM (dec (X := Glob)) else none
      | .v (.slice none 0 0) => some []
      | _ => none)
    split
    · exact absurd rfl (h1 _ _)
    · exact absurd rfl h2
    · rfl
@[simp] theorem eta_Glob (s : Glob) : Glob.mk s.op s.a s.b s.name s.arg s.val s.fold s.mn s.mx s.args s.kids = s := by cases s; rfl
@[simp] theorem enc_Glob (s : Glob) : enc s = .agg [enc s.op, enc s.a, enc s.b, enc s.name, enc s.arg, enc s.val, enc s.fold, enc s.mn, enc s.mx, enc s.args, enc s.kids] := by
  rw [← encGs_enc]
  cases s
  show encG _ = _
  rw [encG]
@[simp] theorem wd_Glob : Cod.wd Glob = 11 := id rfl
@[simp] theorem dec_Glob (x0 x1 x2 x3 x4 x5 x6 x7 x8 x9 x10 : D) : dec (X := Glob) (.agg [x0, x1, x2, x3, x4, x5, x6, x7, x8, x9, x10]) = ((dec x0).bind fun x0 => (dec x1).bind fun x1 => (dec x2).bind fun x2 => (dec x3).bind fun x3 => (dec x4).bind fun x4 => (dec x5).bind fun x5 => (dec x6).bind fun x6 => (dec x7).bind fun x7 => (dec x8).bind fun x8 => (dec x9).bind fun x9 => (dec x10).bind fun x10 => some ⟨x0, x1, x2, x3, x4, x5, x6, x7, x8, x9, x10⟩) := by
  show decG _ = _
  simp only [decG, decGK_eq]

structure Filt where
  op : Int
  neg : Bool
  reg : B
instance : Cod Filt where
  wd := 3
  enc f := .agg [enc f.op, enc f.neg, enc f.reg]
  dec | .agg [x0, x1, x2] => (dec x0).bind fun a => (dec x1).bind fun b => (dec x2).bind fun c => some ⟨a, b, c⟩ | _ => none
  kn _ := rfl
  wid _ := rfl
  dec_enc f := by simp only [Cod.dec_enc, Option.bind_some]
  le d x h := by
    split at h
    · simp only [Option.bind_eq_some_iff, Option.some.injEq] at h
      obtain ⟨a, h0, b, h1, c, h2, rfl⟩ := h
      exact LeL.agg (.cons (Cod.le _ _ h0) (.cons (Cod.le _ _ h1) (.cons (Cod.le _ _ h2) .nil)))
    · cases h
@[simp] theorem eta_Filt (s : Filt) : Filt.mk s.op s.neg s.reg = s := by cases s; rfl
@[simp] theorem enc_Filt (s : Filt) : enc s = .agg [enc s.op, enc s.neg, enc s.reg] := id rfl
@[simp] theorem wd_Filt : Cod.wd Filt = 3 := id rfl
@[simp] theorem dec_Filt (x0 x1 x2 : D) : dec (X := Filt) (.agg [x0, x1, x2]) = ((dec x0).bind fun a => (dec x1).bind fun b => (dec x2).bind fun c => some ⟨a, b, c⟩) := id rfl

structure Qry where
  pat : Pat
  glob : Glob
  filts : List Filt
  strat : Int
def cellsP : Pat → List D | .mk op c l r mn mx ks => enc op :: (cellsC c ++ [enc l, enc r, enc mn, enc mx, enc ks])
theorem cellsP_eq : ∀ p : Pat, D.agg (cellsP p) = enc p
  | .mk .. => (enc_pat ..).symm
theorem cellsP_len : ∀ p : Pat, (cellsP p).length = 13
  | .mk op c l r mn mx ks => by simp [cellsP, cellsC_len]
def cellsG (g : Glob) : List D := [enc g.op, enc g.a, enc g.b, enc g.name, enc g.arg, enc g.val, enc g.fold, enc g.mn, enc g.mx, enc g.args, enc g.kids]
theorem cellsG_eq (g : Glob) : D.agg (cellsG g) = enc g := (enc_Glob g).symm
theorem agg_le {l l' : List D} (h : FrzTo noH (.agg l) (.agg l')) : LeL l l' := by
  cases h with
  | same => exact ⟨rfl, fun k x y hx hy => by rw [hx] at hy; cases hy; exact .same _⟩
  | agg hl h => exact ⟨hl, h⟩
theorem dec_patL {l : List D} {p : Pat} (h : dec (D.agg l) = some p) : LeL l (cellsP p) := agg_le (by rw [cellsP_eq]; exact Cod.le _ _ h)
theorem dec_globL {l : List D} {p : Glob} (h : dec (D.agg l) = some p) : LeL l (cellsG p) := agg_le (by rw [cellsG_eq]; exact Cod.le _ _ h)
def encQ (q : Qry) : D := .agg (cellsP q.pat ++ (cellsG q.glob ++ [enc q.filts, enc q.strat]))
def decQ : D → Option Qry
  | .agg [x0, x1, x2, x3, x4, x5, x6, x7, x8, x9, x10, x11, x12, y0, y1, y2, y3, y4, y5, y6, y7, y8, y9, y10, f, s] => (dec (D.agg [x0, x1, x2, x3, x4, x5, x6, x7, x8, x9, x10, x11, x12])).bind fun p => (dec (D.agg [y0, y1, y2, y3, y4, y5, y6, y7, y8, y9, y10])).bind fun g => (dec f).bind fun fs => (dec s).bind fun st => some ⟨p, g, fs, st⟩
  | _ => none
instance : Cod Qry where
  wd := 26
  enc := encQ
  dec := decQ
  kn _ := rfl
  wid q := by simp [encQ, D.cells, cellsP_len, cellsG]
  dec_enc q := by
    obtain ⟨⟨op, ⟨o, n, a, v, l, f, cks⟩, lb, rg, mn, mx, ks⟩, g, fs, st⟩ := q
    have h1 := Cod.dec_enc (⟨op, ⟨o, n, a, v, l, f, cks⟩, lb, rg, mn, mx, ks⟩ : Pat)
    have h2 := Cod.dec_enc g
    rw [enc_pat] at h1
    rw [enc_Glob] at h2
    simp only [cellsC, List.cons_append, List.nil_append] at h1
    simp only [encQ, cellsP, cellsC, cellsG, List.cons_append, List.nil_append, decQ, h1, h2, Cod.dec_enc, Option.bind_some]
  le d x h := by
    unfold decQ at h
    split at h
    · simp only [Option.bind_eq_some_iff, Option.some.injEq] at h
      obtain ⟨p, h0, g, h1, fs, h2, st, h3, rfl⟩ := h
      exact LeL.agg ((dec_patL h0).append ((dec_globL h1).append (.cons (Cod.le _ _ h2) (.cons (Cod.le _ _ h3) .nil))))
    · cases h
@[simp] theorem eta_Qry (s : Qry) : Qry.mk s.pat s.glob s.filts s.strat = s := by cases s; rfl
@[simp] theorem wd_Qry : Cod.wd Qry = 26 := id rfl
@[simp] theorem enc_Qry (s : Qry) : enc s = .agg [enc s.pat.op, enc s.pat.cond.op, enc s.pat.cond.name, enc s.pat.cond.arg, enc s.pat.cond.val, enc s.pat.cond.lab, enc s.pat.cond.fold, enc s.pat.cond.kids, enc s.pat.lab, enc s.pat.reg, enc s.pat.mn, enc s.pat.mx, enc s.pat.kids, enc s.glob.op, enc s.glob.a, enc s.glob.b, enc s.glob.name, enc s.glob.arg, enc s.glob.val, enc s.glob.fold, enc s.glob.mn, enc s.glob.mx, enc s.glob.args, enc s.glob.kids, enc s.filts, enc s.strat] := by
  obtain ⟨⟨op, ⟨o, n, a, v, l, f, cks⟩, lb, rg, mn, mx, ks⟩, g, fs, st⟩ := s
  rfl
@[simp] theorem dec_Qry (x0 x1 x2 x3 x4 x5 x6 x7 x8 x9 x10 x11 x12 y0 y1 y2 y3 y4 y5 y6 y7 y8 y9 y10 f s : D) : dec (X := Qry) (.agg [x0, x1, x2, x3, x4, x5, x6, x7, x8, x9, x10, x11, x12, y0, y1, y2, y3, y4, y5, y6, y7, y8, y9, y10, f, s]) = ((dec (D.agg [x0, x1, x2, x3, x4, x5, x6, x7, x8, x9, x10, x11, x12])).bind fun p => (dec (D.agg [y0, y1, y2, y3, y4, y5, y6, y7, y8, y9, y10])).bind fun g => (dec f).bind fun fs => (dec s).bind fun st => some ⟨p, g, fs, st⟩) := id rfl
end Go.Gv

namespace Go.Gv
open Cod (enc dec)
set_option linter.unusedSimpArgs false

structure Tok where
  kind : Int
  text : B
  pos : Int
instance : Cod Tok where
  wd := 3
  enc t := .agg [.v (.int .u8 t.kind), enc t.text, enc t.pos]
  dec | .agg [.v (.int .u8 k), x1, x2] => (dec x1).bind fun b => (dec x2).bind fun c => some ⟨k, b, c⟩ | _ => none
  kn _ := rfl
  wid _ := rfl
  dec_enc f := by simp only [Cod.dec_enc, Option.bind_some]
  le d x h := by
    split at h
    · simp only [Option.bind_eq_some_iff, Option.some.injEq] at h
      obtain ⟨b, h1, c, h2, rfl⟩ := h
      exact LeL.agg (.cons (.same _) (.cons (Cod.le _ _ h1) (.cons (Cod.le _ _ h2) .nil)))
    · cases h
@[simp] theorem eta_Tok (s : Tok) : Tok.mk s.kind s.text s.pos = s := by cases s; rfl
@[simp] theorem enc_Tok (s : Tok) : enc s = .agg [.v (.int .u8 s.kind), enc s.text, enc s.pos] := id rfl
@[simp] theorem wd_Tok : Cod.wd Tok = 3 := id rfl
@[simp] theorem dec_Tok (k : Int) (x1 x2 : D) : dec (X := Tok) (.agg [.v (.int .u8 k), x1, x2]) = ((dec x1).bind fun b => (dec x2).bind fun c => some ⟨k, b, c⟩) := id rfl

structure Pst where
  l : List Tok
  pos : Int
  deep : Int
  e : Int
  fail : Int
@[simp] theorem eta_Pst (s : Pst) : Pst.mk s.l s.pos s.deep s.e s.fail = s := by cases s; rfl
def cePst (s : Pst) : List D := [enc s.l, enc s.pos, enc s.deep, enc s.e, enc s.fail]
@[simp] theorem cePst_eq (s : Pst) : cePst s = [enc s.l, enc s.pos, enc s.deep, enc s.e, enc s.fail] := id rfl

/-! ### What the methods compute -/
def Pst.step (s : Pst) : Pst := { s with pos := s.pos + 1 }
def nowT (s : Pst) : Option Tok := if 0 ≤ s.pos ∧ s.l.length ≤ 1000000 then s.l[s.pos.toNat]? else none
def isF (s : Pst) (k : Int) (t : B) : Option Bool := if s.e ≠ 0 then some false else (nowT s).map fun x => decide (x.kind = k ∧ x.text = t)
def eatF (s : Pst) (t : B) : Option (Pst × Bool) := (isF s 111 t).map fun b => if b then (s.step, true) else (s, false)
/-- (no error: where the token is another one, there is no result here.) -/
def wantF (s : Pst) (k : Int) (t : B) : Option (Pst × B) := if s.e ≠ 0 then none else (nowT s).bind fun x => if x.kind ≠ k ∨ k = 111 ∧ x.text ≠ t then none else some (s.step, x.text)
def digit1 (n : Int) (c : UInt8) : Int := min (10 * n + ((c.toNat : Int) - 48)) 1000000
def digitsF (t : B) : Option Int := if t.data.toList.all fun c => decide (48 ≤ c.toNat ∧ c.toNat ≤ 57) then some (t.data.toList.foldl digit1 0) else none
def numberF (s : Pst) (limit : Int) : Option (Pst × Int) := (wantF s 100 ⟨#[]⟩).bind fun r => (digitsF r.2).bind fun n => if n ≤ limit then some (r.1, n) else none
/-- (not at names) -/
def beginsF (s : Pst) : Option Bool := (nowT s).bind fun x => if s.e ≠ 0 then some false else if x.kind = 110 then none else some (decide (x.kind = 115 ∨ x.kind = 111 ∧ (x.text = ⟨#[91]⟩ ∨ x.text = ⟨#[60]⟩ ∨ x.text = ⟨#[60, 47]⟩ ∨ x.text = ⟨#[40]⟩)))
def E0 : B := ⟨#[]⟩
section
variable (A : Pst → Option (Pst × Pat))
/-- (parentheses, and quoted texts) -/
def itemF (s : Pst) : Option (Pst × Pat) :=
  (eatF s ⟨#[40]⟩).bind fun r =>
    if r.2 then (if 0 ≤ s.deep ∧ s.deep ≤ 1000 then (A { r.1 with deep := s.deep + 1 }).bind fun q => if 0 ≤ q.1.deep ∧ q.1.deep ≤ 1000000 then (wantF { q.1 with deep := q.1.deep - 1 } 111 ⟨#[41]⟩).map fun w => (w.1, q.2) else none else none)
    else if s.e ≠ 0 then none else (nowT s).bind fun x => if x.kind ≠ 115 then none else (eatF s.step ⟨#[37, 99]⟩).map fun w => (w.1, ⟨1, ⟨2, E0, E0, x.text, E0, w.2, []⟩, E0, E0, 0, 0, []⟩)
/-- (only counts in braces, with one number) -/
def repLoop : Nat → Pst → Pat → Option (Pst × Pat)
  | 0, _, _ => none
  | k + 1, s, x => if s.e ≠ 0 then none else (nowT s).bind fun t => if t.kind = 111 ∧ (t.text = ⟨#[63]⟩ ∨ t.text = ⟨#[42]⟩ ∨ t.text = ⟨#[43]⟩) then none else
      if t.kind = 111 ∧ t.text = ⟨#[123]⟩ then (numberF s.step 16).bind fun r => (eatF r.1 ⟨#[44]⟩).bind fun w => if w.2 then none else (wantF w.1 111 ⟨#[125]⟩).bind fun u => repLoop k u.1 ⟨6, Cond0, E0, E0, r.2, r.2, [x]⟩
      else some (s, x)
def repF (s : Pst) : Option (Pst × Pat) := (itemF A s).bind fun r => repLoop 100 r.1 r.2
def seqLoop : Nat → Pst → List Pat → Option (Pst × List Pat)
  | 0, _, _ => none
  | k + 1, s, acc => (beginsF s).bind fun b => if b then (repF A s).bind fun r => seqLoop k r.1 (acc ++ [r.2]) else some (s, acc)
def oneOr (op : Int) (l : List Pat) : Pat := match l with
  | [x] => x
  | l => ⟨op, Cond0, E0, E0, 0, 0, l⟩
def seqF (s : Pst) : Option (Pst × Pat) := (repF A s).bind fun r => (seqLoop A 100 r.1 [r.2]).map fun q => (q.1, oneOr 4 q.2)
def altLoop : Nat → Pst → List Pat → Option (Pst × List Pat)
  | 0, _, _ => none
  | k + 1, s, acc => (eatF s ⟨#[124]⟩).bind fun w => if w.2 then (seqF A w.1).bind fun r => altLoop k r.1 (acc ++ [r.2]) else some (w.1, acc)
def altS (s : Pst) : Option (Pst × Pat) := (seqF A s).bind fun r => (altLoop A 100 r.1 [r.2]).map fun q => (q.1, oneOr 5 q.2)
end
def altF : Nat → Pst → Option (Pst × Pat)
  | 0 => fun _ => none
  | n + 1 => altS (altF n)
end Go.Gv

namespace Go.Gv
set_option linter.unusedSimpArgs false
def isSp (s : B) (i : Nat) : Bool := match s.data[i]? with
  | some c => decide (c.toNat = 32 ∨ c.toNat = 10)
  | none => false
def isDg (s : B) (i : Nat) : Bool := match s.data[i]? with
  | some c => decide (48 ≤ c.toNat ∧ c.toNat ≤ 57)
  | none => false
def skipN : Nat → B → Nat → Nat
  | 0, _, i => i
  | n + 1, s, i => if isSp s i then skipN n s (i + 1) else i
def skipF (s : B) (i : Nat) : Nat := skipN (s.size - i) s i
def digN : Nat → B → Nat → Nat
  | 0, _, i => i
  | n + 1, s, i => if isDg s i then digN n s (i + 1) else i
def digF (s : B) (i : Nat) : Nat := digN (s.size - i) s i
def signsL : List B := [⟨#[60, 47]⟩, ⟨#[33, 61]⟩, ⟨#[58, 58]⟩, ⟨#[37, 99]⟩, ⟨#[91]⟩, ⟨#[93]⟩, ⟨#[40]⟩, ⟨#[41]⟩, ⟨#[123]⟩, ⟨#[125]⟩, ⟨#[60]⟩, ⟨#[62]⟩, ⟨#[124]⟩, ⟨#[38]⟩, ⟨#[33]⟩, ⟨#[61]⟩, ⟨#[58]⟩, ⟨#[46]⟩, ⟨#[44]⟩, ⟨#[63]⟩, ⟨#[42]⟩, ⟨#[43]⟩, ⟨#[45]⟩]
def preB (s : B) (i : Nat) (x : B) : Bool := decide (i + x.size ≤ s.size ∧ s.extract i (i + x.size) = x)
end Go.Gv

namespace Go.Gv
open Cod (enc dec)
set_option linter.unusedSimpArgs false
set_option linter.unusedVariables false
def cOp (op : Int) (l : List Cond) : Cond := match l with
  | [x] => x
  | l => ⟨op, E0, E0, E0, E0, false, l⟩
/-! ### Conditions -/
section
variable (N : Pst → Option (Pst × Cond)) (O : Pst → Option (Pst × Cond))
end
/-! ### Patterns -/
section
variable (A : Pst → Option (Pst × Pat)) (O : Pst → Option (Pst × Cond))
end
section
variable (N : Pst → Option (Pst × Glob)) (O : Pst → Option (Pst × Glob))
end
/-! ### Queries -/
def filterL : List B := [E0, ⟨#[119, 105, 116, 104, 105, 110]⟩, ⟨#[99, 111, 110, 116, 97, 105, 110, 105, 110, 103]⟩, ⟨#[111, 118, 101, 114, 108, 97, 112, 112, 105, 110, 103]⟩]
end Go.Gv

namespace Go.Gv
set_option linter.unusedSimpArgs false
def letB (c : Nat) : Bool := decide (65 ≤ c ∧ c ≤ 90 ∨ 97 ≤ c ∧ c ≤ 122 ∨ c = 95)
/-- a letter, a digit or '-' -/
def isNm (s : B) (i : Nat) : Bool := match s.data[i]? with
  | some c => letB c.toNat || decide (48 ≤ c.toNat ∧ c.toNat ≤ 57 ∨ c.toNat = 45)
  | none => false
def namN : Nat → B → Nat → Nat
  | 0, _, i => i
  | n + 1, s, i => if isNm s i then namN n s (i + 1) else i
def namF (s : B) (i : Nat) : Nat := namN (s.size - i) s i
/-- what stands in quotes from j on, and where the closing one stands (none: it is not closed) -/
def quoNG : Nat → B → Nat → B → Option (Nat × B)
  | 0, _, _, _ => none
  | n + 1, s, j, v => match s.data[j]? with
    | none => none
    | some c => if c.toNat = 34 then (match s.data[j + 1]? with
        | some d => if d.toNat = 34 then quoNG n s (j + 2) (v ++ s.extract (j + 1) (j + 2)) else some (j, v)
        | none => some (j, v)) else quoNG n s (j + 1) (v ++ s.extract j (j + 1))
def quoG (s : B) (j : Nat) (v : B) : Option (Nat × B) := quoNG (s.size - j) s j v
end Go.Gv

namespace Go.Gv
set_option linter.unusedSimpArgs false
set_option linter.unusedVariables false
/-- the end of the bytes from i on that satisfy a function -/
def runN (p : U8 → Bool) : Nat → B → Nat → Nat
  | 0, _, i => i
  | n + 1, s, i => match s.data[i]? with
    | some c => if p ⟨c.toNat⟩ then runN p n s (i + 1) else i
    | none => i
def runP (p : U8 → Bool) (s : B) (i : Nat) : Nat := runN p (s.size - i) s i
theorem runP_end {p : U8 → Bool} {s : B} {i : Nat} (h : s.size ≤ i) : runP p s i = i := by
  unfold runP
  rw [show s.size - i = 0 by omega, runN]
theorem runP_step {p : U8 → Bool} {s : B} {i : Nat} {c : UInt8} (h : s.data[i]? = some c) : runP p s i = if p ⟨c.toNat⟩ then runP p s (i + 1) else i := by
  have hi : i < s.size := (Array.getElem?_eq_some_iff.1 h).1
  unfold runP
  rw [show s.size - i = (s.size - (i + 1)) + 1 by omega, runN, h]
theorem runN_rng (p : U8 → Bool) : ∀ (n : Nat) (s : B) (i : Nat), i ≤ runN p n s i ∧ runN p n s i ≤ i + n
  | 0, s, i => by rw [runN]; omega
  | n + 1, s, i => by
    rw [runN]
    split
    · split
      · have := runN_rng p n s (i + 1); omega
      · omega
    · omega
theorem runP_rng (p : U8 → Bool) {s : B} {i : Nat} (h : i ≤ s.size) : i ≤ runP p s i ∧ runP p s i ≤ s.size := by
  have := runN_rng p (s.size - i) s i
  unfold runP
  omega
def spP (c : U8) : Bool := decide (c.val = 32 ∨ c.val = 10)
def letP (c : U8) : Bool := begB c.val
def digP (c : U8) : Bool := decide (48 ≤ c.val ∧ c.val ≤ 57)
def namP (c : U8) : Bool := letP c || digP c || decide (c.val = 45)
theorem run_skip : ∀ (n : Nat) (s : B) (i : Nat), runN spP n s i = skipN n s i
  | 0, s, i => by rw [runN, skipN]
  | n + 1, s, i => by
    rw [runN, skipN, isSp]
    cases h : s.data[i]? with
    | none => rfl
    | some c =>
      simp only
      rw [run_skip n s (i + 1)]
      have : spP ⟨c.toNat⟩ = decide (c.toNat = 32 ∨ c.toNat = 10) := by unfold spP; rw [Bool.eq_iff_iff]; simp; omega
      rw [this]
theorem run_dig : ∀ (n : Nat) (s : B) (i : Nat), runN digP n s i = digN n s i
  | 0, s, i => by rw [runN, digN]
  | n + 1, s, i => by
    rw [runN, digN, isDg]
    cases h : s.data[i]? with
    | none => rfl
    | some c =>
      simp only
      rw [run_dig n s (i + 1)]
      have : digP ⟨c.toNat⟩ = decide (48 ≤ c.toNat ∧ c.toNat ≤ 57) := by unfold digP; rw [Bool.eq_iff_iff]; simp; omega
      rw [this]
theorem run_nam : ∀ (n : Nat) (s : B) (i : Nat), runN namP n s i = namN n s i
  | 0, s, i => by rw [runN, namN]
  | n + 1, s, i => by
    rw [runN, namN, isNm]
    cases h : s.data[i]? with
    | none => rfl
    | some c =>
      simp only
      rw [run_nam n s (i + 1)]
      have : namP ⟨c.toNat⟩ = (letB c.toNat || decide (48 ≤ c.toNat ∧ c.toNat ≤ 57 ∨ c.toNat = 45)) := by
        unfold namP letP digP begB letB; rw [Bool.eq_iff_iff]; simp; omega
      rw [this]
end Go.Gv

namespace Go.Gv
open Cod (enc dec)
set_option linter.unusedSimpArgs false
structure Lxm where
  kind : Int
  text : B
  pos : Int
instance : Cod Lxm where
  wd := 3
  enc t := .agg [enc t.kind, enc t.text, enc t.pos]
  dec | .agg [x0, x1, x2] => (dec x0).bind fun a => (dec x1).bind fun b => (dec x2).bind fun c => some ⟨a, b, c⟩ | _ => none
  kn _ := rfl
  wid _ := rfl
  dec_enc f := by simp only [Cod.dec_enc, Option.bind_some]
  le d x h := by
    split at h
    · simp only [Option.bind_eq_some_iff, Option.some.injEq] at h
      obtain ⟨a, h0, b, h1, c, h2, rfl⟩ := h
      exact LeL.agg (.cons (Cod.le _ _ h0) (.cons (Cod.le _ _ h1) (.cons (Cod.le _ _ h2) .nil)))
    · cases h
@[simp] theorem eta_Lxm (s : Lxm) : Lxm.mk s.kind s.text s.pos = s := by cases s; rfl
@[simp] theorem enc_Lxm (s : Lxm) : enc s = .agg [enc s.kind, enc s.text, enc s.pos] := id rfl
@[simp] theorem wd_Lxm : Cod.wd Lxm = 3 := id rfl
@[simp] theorem dec_Lxm (x0 x1 x2 : D) : dec (X := Lxm) (.agg [x0, x1, x2]) = ((dec x0).bind fun a => (dec x1).bind fun b => (dec x2).bind fun c => some ⟨a, b, c⟩) := id rfl
/-- quoted: the text in quotes, and where it ends (-1: it is not closed) -/
def quoP (s : B) (i : Nat) : B × Int := match quoG s (i + 1) ⟨#[]⟩ with
  | some r => (r.2, r.1 + 1)
  | none => (⟨#[]⟩, -1)
/-- lex: the token from i on, and where it ends -/
def lexP (s : B) (i : Nat) : Lxm × Int :=
  let j := skipF s i
  match s.data[j]? with
  | none => (⟨0, E0, j⟩, j)
  | some c =>
    if letP ⟨c.toNat⟩ then (⟨2, s.extract j (namF s j), j⟩, namF s j)
    else if digP ⟨c.toNat⟩ then (⟨3, s.extract j (digF s j), j⟩, digF s j)
    else if c.toNat = 34 then (if (quoP s j).2 < 0 then (⟨1, E0, j⟩, s.size) else (⟨4, (quoP s j).1, j⟩, (quoP s j).2))
    else match signsL.find? (preB s j) with
      | some x => (⟨5, x, j⟩, j + x.size)
      | none => (⟨1, E0, j⟩, j)
end Go.Gv

namespace Go.Gv
set_option linter.unusedSimpArgs false
set_option linter.unusedVariables false
set_option linter.unusedSectionVars false
open Cod (enc dec)
/-- the program's reader: the text, where the token ends, the token -/
structure Rdr where
  txt : B
  fin : Int
  kind : Int
  text : B
  pos : Int
@[simp] theorem eta_Rdr (s : Rdr) : Rdr.mk s.txt s.fin s.kind s.text s.pos = s := by cases s; rfl
def ceRdr (s : Rdr) : List D := [enc s.txt, enc s.fin, enc s.kind, enc s.text, enc s.pos]
@[simp] theorem ceRdr_eq (s : Rdr) : ceRdr s = [enc s.txt, enc s.fin, enc s.kind, enc s.text, enc s.pos] := id rfl
section
variable {Y Z : Type}
def rdB : BoxF Rdr := boxD ceRdr
/-- A method of the parser: what it asks, how its result is written, what it says. -/
def rdC (A : Arg Z) (er : Y → D) (pre : Rdr → Z → Prop) (post : Rdr → Z → Rdr → Y → Prop) : Spc := bpC rdB A er pre post
def rdX (er : Y → D) (pre : Rdr → Z → Prop) (post : Rdr → Z → Rdr → Y → Prop) (id b : Nat) (r : Option Res) (o : Option Z) (H : HMap) (K : D → HMap → Prop) : Prop :=
  ∃ x, r = some (.box b (ceRdr x)) ∧ optX o fun z => pre x z ∧ ∀ x' y, post x z x' y → K (er y) (updH H id (some (.box b (ceRdr x'))))
@[congr] theorem rdX_cg {er : Y → D} {pre : Rdr → Z → Prop} {post : Rdr → Z → Rdr → Y → Prop} {id b : Nat} {r r' : Option Res} {o o' : Option Z} {H : HMap} {K : D → HMap → Prop} (h1 : r = r') (h2 : o = o') : rdX er pre post id b r o H K = rdX er pre post id b r' o' H K := by subst h1; subst h2; rfl
theorem ceRdr_inj {x y : Rdr} (h : ceRdr x = ceRdr y) : x = y := by
  obtain ⟨l, a, d, e, f⟩ := x
  obtain ⟨l', a', d', e', f'⟩ := y
  simp only [ceRdr, List.cons.injEq] at h
  obtain ⟨h1, h2, h3, h4, h5, _⟩ := h
  have h1 := enc_inj h1
  have h2 := enc_inj h2
  have h3 := enc_inj h3
  have h4 := enc_inj h4
  have h5 := enc_inj h5
  subst h1; subst h2; subst h3; subst h4; subst h5
  rfl
@[simp] theorem rdC_pt (A : Arg Z) (er : Y → D) (pre : Rdr → Z → Prop) (post : Rdr → Z → Rdr → Y → Prop) (d i b : Nat) (ds : List D) (H : HMap) (K : D → HMap → Prop) : (rdC A er pre post).pt d (.bptr i b 0 :: ds) H K = rdX er pre post i b (H i) (A.dec ds) H K := by
  refine propext ⟨fun h => ?_, fun h => ?_⟩
  · obtain ⟨id, b', x, z, ds', h1, h2, h3, h4, h5, h6, h7⟩ := h
    cases h1
    refine ⟨x, h3, ?_⟩
    rw [h2]
    exact ⟨h6, h7⟩
  · obtain ⟨x, h1, h2⟩ := h
    cases hz : A.dec ds with
    | none => rw [hz] at h2; exact h2.elim
    | some z => rw [hz] at h2; exact ⟨i, b, x, z, ds, rfl, hz, h1, fun p hp => by simp [rdB, boxD] at hp, by simp [rdB, boxD], h2.1, h2.2⟩
@[simp] theorem rdX_r (er : Y → D) (pre : Rdr → Z → Prop) (post : Rdr → Z → Rdr → Y → Prop) (id b : Nat) (l : B) (p dp : Int) (e : B) (f : Int) (o : Option Z) (H : HMap) (K : D → HMap → Prop) :
    rdX er pre post id b (some (.box b [.v (.string l), .v (.int .i64 p), .v (.int .i64 dp), .v (.string e), .v (.int .i64 f)])) o H K = optX o fun z => pre ⟨l, p, dp, e, f⟩ z ∧ ∀ x' y, post ⟨l, p, dp, e, f⟩ z x' y → K (er y) (updH H id (some (.box b (ceRdr x')))) := by
  refine propext ⟨fun ⟨x, h1, h2⟩ => ?_, fun h => ⟨⟨l, p, dp, e, f⟩, rfl, h⟩⟩
  have e1 : ceRdr ⟨l, p, dp, e, f⟩ = ceRdr x := by
    have := Option.some.inj h1
    exact (Res.box.inj this).2
  have := ceRdr_inj e1
  subst this
  exact h2
/-- What is to be shown at a method's end. -/
def FinRD (er : Y → D) (b : Nat) (post : Rdr → Y → Prop) (r : D) (H : HMap) : Prop := FinBP rdB er b post r H
theorem finRD {er : Y → D} {b : Nat} {post : Rdr → Y → Prop} {r : D} {H : HMap} (x : Rdr) (y : Y) (hr : FrzTo (fun i => if i = 0 then none else H i) r (er y)) (h0 : H 0 = some (.box b (ceRdr x))) (hq : post x y) : FinRD er b post r H :=
  ⟨x, y, by simpa [rdB, boxD] using hr, h0, fun p hp => by simp [rdB, boxD] at hp, hq⟩
def WalkRD (cc : CC) (rs : List CRes) (S : Nat → Spc) (A : Arg Z) (er : Y → D) (pre : Rdr → Z → Prop) (post : Rdr → Z → Rdr → Y → Prop) : Prop :=
  ∀ b x z, pre x z → vc S cc (retK rs fun r H' => FinRD er b (post x z) r H') (initS (.bptr 0 b 0 :: A.view z)) (updH noH 0 (some (.box b (ceRdr x))))
variable {P : Program} {S : Nat → Spc} {f : Nat} {im : List Nat} {cc : CC} {rs : List CRes} {N : Nat}
theorem tri_walkRD {A : Arg Z} {er : Y → D} {pre : Rdr → Z → Prop} {post : Rdr → Z → Rdr → Y → Prop} (hS : ∀ f, Tri P f (S f).pt) (h : FnOk P f im cc rs N) (hN : ∀ z, (A.view z).length + 1 ≤ N) (hw : WalkRD cc rs S A er pre post) : Tri P f (rdC A er pre post).pt :=
  tri_walkBP (by simp [rdB, boxD]) hS h hN fun b x z hp => hw b x z hp
end
section
variable {Y Z : Type}
/-- The contract of a method that computes F. -/
def rdF (A : Arg Z) (er : Y → D) (F : Rdr → Z → Option (Rdr × Y)) : Spc := rdC A er (fun s z => ∃ r, F s z = some r) (fun s z s' y => F s z = some (s', y))
def rdFX (er : Y → D) (F : Rdr → Z → Option (Rdr × Y)) (id b : Nat) (r : Option Res) (o : Option Z) (H : HMap) (K : D → HMap → Prop) : Prop :=
  ∃ x, r = some (.box b (ceRdr x)) ∧ optX o fun z => optX (F x z) fun q => K (er q.2) (updH H id (some (.box b (ceRdr q.1))))
@[congr] theorem rdFX_cg {er : Y → D} {F : Rdr → Z → Option (Rdr × Y)} {id b : Nat} {r r' : Option Res} {o o' : Option Z} {H : HMap} {K : D → HMap → Prop} (h1 : r = r') (h2 : o = o') : rdFX er F id b r o H K = rdFX er F id b r' o' H K := by subst h1; subst h2; rfl
theorem optFR {F : Option (Rdr × Y)} {k : Rdr → Y → Prop} : ((∃ r, F = some r) ∧ ∀ x' y, F = some (x', y) → k x' y) = optX F fun q => k q.1 q.2 := by
  cases F with
  | none =>
    refine propext (Iff.intro (fun h => ?_) (fun h => ?_))
    · obtain ⟨⟨r, h⟩, _⟩ := h
      cases h
    · exact False.elim h
  | some r =>
    refine propext (Iff.intro (fun h => h.2 _ _ rfl) (fun h => ⟨⟨_, rfl⟩, fun x' y e => ?_⟩))
    cases e
    exact h
@[simp] theorem rdF_pt (A : Arg Z) (er : Y → D) (F : Rdr → Z → Option (Rdr × Y)) (d i b : Nat) (ds : List D) (H : HMap) (K : D → HMap → Prop) : (rdF A er F).pt d (.bptr i b 0 :: ds) H K = rdFX er F i b (H i) (A.dec ds) H K := by
  unfold rdF rdFX
  rw [rdC_pt]
  unfold rdX
  refine propext (exists_congr fun x => and_congr_right fun _ => ?_)
  cases A.dec ds with
  | none => exact Iff.rfl
  | some z => exact iff_of_eq optFR
@[simp] theorem rdFX_r (er : Y → D) (F : Rdr → Z → Option (Rdr × Y)) (id b : Nat) (l : B) (p dp : Int) (e : B) (f : Int) (o : Option Z) (H : HMap) (K : D → HMap → Prop) :
    rdFX er F id b (some (.box b [.v (.string l), .v (.int .i64 p), .v (.int .i64 dp), .v (.string e), .v (.int .i64 f)])) o H K = optX o fun z => optX (F ⟨l, p, dp, e, f⟩ z) fun q => K (er q.2) (updH H id (some (.box b (ceRdr q.1)))) := by
  refine propext ⟨fun ⟨x, h1, h2⟩ => ?_, fun h => ⟨⟨l, p, dp, e, f⟩, rfl, h⟩⟩
  have e1 : ceRdr ⟨l, p, dp, e, f⟩ = ceRdr x := by
    have := Option.some.inj h1
    exact (Res.box.inj this).2
  have := ceRdr_inj e1
  subst this
  exact h2
variable {P : Program} {S : Nat → Spc} {f : Nat} {im : List Nat} {cc : CC} {rs : List CRes} {N : Nat}
theorem tri_walkRDF {A : Arg Z} {er : Y → D} {F : Rdr → Z → Option (Rdr × Y)} (hS : ∀ f, Tri P f (S f).pt) (h : FnOk P f im cc rs N) (hN : ∀ z, (A.view z).length + 1 ≤ N)
    (hw : WalkRD cc rs S A er (fun s z => ∃ r, F s z = some r) (fun s z s' y => F s z = some (s', y))) : Tri P f (rdF A er F).pt := tri_walkRD hS h hN hw
end
end Go.Gv

namespace Go.Gv
set_option linter.unusedSimpArgs false
set_option linter.unusedVariables false
def nextR (s : Rdr) : Option Rdr := if (0 ≤ s.fin ∧ s.fin ≤ s.txt.size) ∧ s.txt.size ≤ 100000 then some ⟨s.txt, (lexP s.txt s.fin.toNat).2, (lexP s.txt s.fin.toNat).1.kind, (lexP s.txt s.fin.toNat).1.text, (lexP s.txt s.fin.toNat).1.pos⟩ else none
def peekR (s : Rdr) : Option Lxm := if (0 ≤ s.fin ∧ s.fin ≤ s.txt.size) ∧ s.txt.size ≤ 100000 then some (lexP s.txt s.fin.toNat).1 else none
def signR (s : Rdr) (t : B) : Bool := decide (s.kind = 5) && decide (s.text = t)
def takeR (s : Rdr) (t : B) : Option (Rdr × Bool) := if signR s t then (nextR s).map fun x => (x, true) else some (s, false)
def wordR (s : Rdr) (l : List B) : Bool := decide (s.kind = 2) && l.any (fun z => decide (s.text = z))
def mustR : Rdr → List B → Option Rdr
  | s, [] => some s
  | s, t :: l => if signR s t then (nextR s).bind fun x => mustR x l else none
def textR (s : Rdr) (k : Int) : Option (Rdr × B) := if s.kind = k then (nextR s).map fun x => (x, s.text) else none
section
variable (N : Rdr → Option (Rdr × Cond)) (O : Rdr → Option (Rdr × Cond))
def andLoopR : Nat → Rdr → List Cond → Option (Rdr × List Cond)
  | 0, _, _ => none
  | k + 1, s, acc => (takeR s ⟨#[38]⟩).bind fun w => if w.2 then (N w.1).bind fun r => andLoopR k r.1 (acc ++ [r.2]) else some (w.1, acc)
def andR (s : Rdr) : Option (Rdr × Cond) := (N s).bind fun r => (andLoopR N 500 r.1 [r.2]).map fun q => (q.1, cOp 7 q.2)
def orLoopR : Nat → Rdr → List Cond → Option (Rdr × List Cond)
  | 0, _, _ => none
  | k + 1, s, acc => (takeR s ⟨#[124]⟩).bind fun w => if w.2 then (andR N w.1).bind fun r => orLoopR k r.1 (acc ++ [r.2]) else some (w.1, acc)
def orR (s : Rdr) : Option (Rdr × Cond) := (andR N s).bind fun r => (orLoopR N 500 r.1 [r.2]).map fun q => (q.1, cOp 8 q.2)
def valueR (s : Rdr) (name : B) : Option (Rdr × Cond) := (textR s 4).bind fun v => (takeR v.1 ⟨#[37, 99]⟩).map fun w => (w.1, ⟨2, name, E0, v.2, E0, w.2, []⟩)
def regionR (s : Rdr) : Option (Rdr × Cond) := (textR s 2).bind fun n => (takeR n.1 ⟨#[44]⟩).bind fun c =>
  if c.2 then (textR c.1 2).bind fun a => (mustR a.1 [⟨#[61]⟩]).bind fun u => (textR u 4).bind fun v => (mustR v.1 [⟨#[41]⟩]).map fun z => (z, ⟨5, n.2, a.2, v.2, E0, false, []⟩)
  else (mustR c.1 [⟨#[41]⟩]).map fun z => (z, ⟨5, n.2, E0, E0, E0, false, []⟩)
/-- what follows the name of an atom -/
def atomR (s : Rdr) (name : B) : Option (Rdr × Cond) :=
  if wordR s [⟨#[99, 111, 110, 116, 97, 105, 110, 115]⟩] then (nextR s).bind fun x => (textR x 4).map fun v => (v.1, ⟨3, name, E0, v.2, E0, false, []⟩) else
  (takeR s ⟨#[33, 61]⟩).bind fun w => if w.2 then (valueR w.1 name).map fun v => (v.1, ⟨6, E0, E0, E0, E0, false, [v.2]⟩) else
  (mustR w.1 [⟨#[61]⟩]).bind fun u => if u.kind = 2 then (textR u 2).bind fun l => (mustR l.1 [⟨#[46]⟩]).bind fun d => (textR d 2).map fun a => (a.1, ⟨4, name, a.2, E0, l.2, false, []⟩)
  else valueR u name
def atomsR (s : Rdr) : Option (Rdr × Cond) := (textR s 2).bind fun n => if n.2 = ⟨#[105, 110]⟩ then (takeR n.1 ⟨#[40]⟩).bind fun v => if v.2 then regionR v.1 else atomR v.1 n.2 else atomR n.1 n.2
def notR (s : Rdr) : Option (Rdr × Cond) := (takeR s ⟨#[33]⟩).bind fun w => if w.2 then (N w.1).map fun r => (r.1, ⟨6, E0, E0, E0, E0, false, [r.2]⟩) else
  (takeR w.1 ⟨#[40]⟩).bind fun u => if u.2 then (O u.1).bind fun x => (mustR x.1 [⟨#[41]⟩]).map fun z => (z, x.2) else atomsR u.1
end
/-- the condition without parts, or negated, or in parentheses (n: how deep) -/
def notRN : Nat → Rdr → Option (Rdr × Cond)
  | 0 => fun _ => none
  | n + 1 => notR (notRN n) (orR (notRN n))
/-! ### Patterns -/
section
variable (A : Rdr → Bool → Option (Rdr × Pat)) (O : Rdr → Option (Rdr × Cond))
/-- a token pattern behind its label -/
def tokenR (s : Rdr) (label : B) : Option (Rdr × Pat) := (takeR s ⟨#[91]⟩).bind fun u => if u.2 then
    (if signR u.1 ⟨#[93]⟩ then (mustR u.1 [⟨#[93]⟩]).map fun z => (z, ⟨1, ⟨1, E0, E0, E0, E0, false, []⟩, label, E0, 0, 0, []⟩)
    else (O u.1).bind fun x => (mustR x.1 [⟨#[93]⟩]).map fun z => (z, ⟨1, x.2, label, E0, 0, 0, []⟩))
  else (valueR u.1 E0).map fun v => (v.1, ⟨1, v.2, label, E0, 0, 0, []⟩)
def anchorR (s : Rdr) (op : Int) : Option (Rdr × Pat) := (textR s 2).bind fun n => (mustR n.1 [⟨#[62]⟩]).map fun z => (z, ⟨op, Cond0, E0, n.2, 0, 0, []⟩)
def itemR (s : Rdr) : Option (Rdr × Pat) :=
  (takeR s ⟨#[60]⟩).bind fun b => if b.2 then anchorR b.1 2 else (takeR b.1 ⟨#[60, 47]⟩).bind fun c => if c.2 then anchorR c.1 3 else
  (takeR c.1 ⟨#[40]⟩).bind fun d => if d.2 then (A d.1 true).bind fun q => (mustR q.1 [⟨#[41]⟩]).map fun w => (w, q.2) else
  if d.1.kind = 2 then (textR d.1 2).bind fun n => (mustR n.1 [⟨#[58]⟩]).bind fun u => tokenR O u n.2 else tokenR O d.1 E0
/-- a suffix, if there is one; numbers in braces: not yet -/
def sufR (s : Rdr) : Option (Rdr × Option (Int × Int)) := (takeR s ⟨#[63]⟩).bind fun w => if w.2 then some (w.1, some (0, 1)) else
  (takeR w.1 ⟨#[42]⟩).bind fun w => if w.2 then some (w.1, some (0, -1)) else
  (takeR w.1 ⟨#[43]⟩).bind fun w => if w.2 then some (w.1, some (1, -1)) else
  if signR w.1 ⟨#[123]⟩ then none else some (w.1, none)
def repLoopR : Nat → Rdr → Pat → Option (Rdr × Pat)
  | 0, _, _ => none
  | k + 1, s, x => (sufR s).bind fun r => match r.2 with
    | none => some (r.1, x)
    | some m => repLoopR k r.1 ⟨6, Cond0, E0, E0, m.1, m.2, [x]⟩
def repR (s : Rdr) : Option (Rdr × Pat) := (itemR A O s).bind fun r => repLoopR 500 r.1 r.2
def tailL : List B := [⟨#[119, 105, 116, 104, 105, 110]⟩, ⟨#[99, 111, 110, 116, 97, 105, 110, 105, 110, 103]⟩, ⟨#[111, 118, 101, 114, 108, 97, 112, 112, 105, 110, 103]⟩, ⟨#[115, 116, 114, 97, 116, 101, 103, 121]⟩]
def beginsR (s : Rdr) (inner : Bool) : Option Bool :=
  if s.kind = 4 then some true else if s.kind = 2 then (peekR s).map fun n => (inner || !wordR s tailL) || (decide (n.kind = 5) && decide (n.text = ⟨#[58]⟩))
  else some (signR s ⟨#[91]⟩ || signR s ⟨#[60]⟩ || signR s ⟨#[60, 47]⟩ || signR s ⟨#[40]⟩)
def seqLoopR (i : Bool) : Nat → Rdr → List Pat → Option (Rdr × List Pat)
  | 0, _, _ => none
  | k + 1, s, acc => (beginsR s i).bind fun b => if b then (repR A O s).bind fun r => seqLoopR i k r.1 (acc ++ [r.2]) else some (s, acc)
def seqR (s : Rdr) (i : Bool) : Option (Rdr × Pat) := (repR A O s).bind fun r => (seqLoopR A O i 500 r.1 [r.2]).map fun q => (q.1, oneOr 4 q.2)
def altLoopR (i : Bool) : Nat → Rdr → List Pat → Option (Rdr × List Pat)
  | 0, _, _ => none
  | k + 1, s, acc => (takeR s ⟨#[124]⟩).bind fun w => if w.2 then (seqR A O w.1 i).bind fun r => altLoopR i k r.1 (acc ++ [r.2]) else some (w.1, acc)
def altR (s : Rdr) (i : Bool) : Option (Rdr × Pat) := (seqR A O s i).bind fun r => (altLoopR A O i 500 r.1 [r.2]).map fun q => (q.1, oneOr 5 q.2)
end
/-- alternatives (n: how deep) -/
def altRN : Nat → Rdr → Bool → Option (Rdr × Pat)
  | 0 => fun _ _ => none
  | n + 1 => altR (altRN n) (orR (notRN (n + 1)))
/-- the whole text; constraints, filters, strategies: not yet -/
def GlobE : Glob := ⟨0, E0, E0, E0, E0, E0, false, 0, 0, [], []⟩
def queryR (n : Nat) (s : Rdr) : Option (Rdr × Qry) := (nextR s).bind fun s => (altRN n s false).bind fun p =>
  if p.1.kind = 0 then some (p.1, ⟨p.2, GlobE, [], 0⟩) else none
end Go.Gv

namespace Go.Gv
set_option linter.unusedSimpArgs false
set_option linter.unusedVariables false
set_option maxRecDepth 100000
open Cod (enc dec)
variable {S S0 : Nat → Spc}
/-- the condition of one value -/
def LC (x : Cond) : Prop := x.op = 2 ∧ x.arg = ⟨#[]⟩ ∧ x.lab = ⟨#[]⟩ ∧ x.kids = []
abbrev s_cshape : Spc := spc (a1 Cond) LC (enc (X := Bool)) fun x y => y = true
theorem w_condition_shape : Walk cc_condition_shape rs_condition_shape S (a1 Cond) LC (enc (X := Bool)) fun x y => y = true := by
  rintro ⟨op, name, arg, val, lab, fold, kids⟩ ⟨h1, h2, h3, h4⟩
  simp only at h1 h2 h3 h4
  subst h1; subst h2; subst h3; subst h4
  simp [cc_condition_shape, rs_condition_shape, -Bool.forall_bool]
abbrev s_cShape1 : Spc := spc (a1 Cond) LC (enc (X := Int)) fun x y => y = 0
theorem w_condition_Shape_1 (h1 : S f_condition_shape = s_cshape) : Walk cc_condition_Shape_1 rs_condition_Shape_1 S (a1 Cond) LC (enc (X := Int)) fun x y => y = 0 := by
  rintro x hx
  simp [cc_condition_Shape_1, rs_condition_Shape_1, h1, hx, -Bool.forall_bool]
abbrev s_cmeasure : Spc := spc (a3 Cond Int Int) (fun x => LC x.1 ∧ x.2 = (0, 1)) (er2 (Y := Int) (Z := Int)) fun x y => y = (1, 1)
theorem w_condition_measure : Walk cc_condition_measure rs_condition_measure S (a3 Cond Int Int) (fun x => LC x.1 ∧ x.2 = (0, 1)) (er2 (Y := Int) (Z := Int)) fun x y => y = (1, 1) := by
  rintro ⟨⟨op, name, arg, val, lab, fold, kids⟩, n, d⟩ ⟨⟨h1, h2, h3, h4⟩, h5⟩
  simp only at h1 h2 h3 h4 h5
  simp only [Prod.mk.injEq] at h5
  obtain ⟨rfl, rfl⟩ := h5
  subst h1; subst h2; subst h3; subst h4
  simp [cc_condition_measure, rs_condition_measure, -Bool.forall_bool]
  refine ⟨by simp only [InR]; omega, ?_⟩
  refine vc_range (X := Unit) [1, 8] [] 0 (fun _ _ => True) (fun _ => []) (fun _ => []) () (by simp) (by simp) (by omega) (by simp) (by simp) trivial (by simp) (by simp) (fun k x hk => absurd hk (by omega)) (fun _ _ => ?_)
  simp
abbrev s_cwalk : Spc := spc (aE Cond (aD a0)) (fun x => LC x.1 ∧ x.2.1 = .clo f_condition_Shape_1 []) (enc (X := Int)) fun x y => y = 0
theorem w_condition_walk (h1 : S f_condition_Shape_1 = s_cShape1) : Walk cc_condition_walk rs_condition_walk S (aE Cond (aD a0)) (fun x => LC x.1 ∧ x.2.1 = .clo f_condition_Shape_1 []) (enc (X := Int)) fun x y => y = 0 := by
  rintro ⟨⟨op, name, arg, val, lab, fold, kids⟩, d, ⟨⟩⟩ ⟨hx, hd⟩
  have hx' := hx
  obtain ⟨h1', h2, h3, h4⟩ := hx'
  simp only at h1' h2 h3 h4 hd
  subst h1'; subst h2; subst h3; subst h4; subst hd
  simp [cc_condition_walk, rs_condition_walk, h1, hx, -Bool.forall_bool]
  refine vc_range (X := Unit) [] [] 0 (fun _ _ => True) (fun _ => []) (fun _ => []) () (by simp) (by simp) (by omega) (by simp) (by simp) trivial (by simp) (by simp) (fun k x hk => absurd hk (by omega)) (fun _ _ => ?_)
  simp
abbrev s_cShape : Spc := spc (a1 Cond) LC (enc (X := Bool)) fun x y => y = true
theorem w_condition_Shape (h1 : S f_condition_measure = s_cmeasure) (h2 : S f_condition_walk = s_cwalk) : Walk cc_condition_Shape rs_condition_Shape S (a1 Cond) LC (enc (X := Bool)) fun x y => y = true := by
  rintro x hx
  simp [cc_condition_Shape, rs_condition_Shape, h1, h2, hx, -Bool.forall_bool]
abbrev s_Format1 : Spc := spc (a1 Pat) (fun p => LC p.cond) (enc (X := Bool)) fun x y => y = false
theorem w_query_Format_1 (h1 : S f_condition_Shape = s_cShape) : Walk cc_query_Format_1 rs_query_Format_1 S (a1 Pat) (fun p => LC p.cond) (enc (X := Bool)) fun x y => y = false := by
  rintro x hx
  simp [cc_query_Format_1, rs_query_Format_1, h1, hx, -Bool.forall_bool]
abbrev s_none : Spc := spc (a1 Glob) (fun g => g = GlobE) (enc (X := Bool)) fun x y => y = true
theorem w_query_none : Walk cc_query_none rs_query_none S (a1 Glob) (fun g => g = GlobE) (enc (X := Bool)) fun x y => y = true := by
  rintro x rfl
  simp [cc_query_none, rs_query_none, GlobE, E0, -Bool.forall_bool]
abbrev s_Sound : Spc := spc (a1 Glob) (fun g => g = GlobE) (enc (X := Bool)) fun x y => y = true
theorem w_query_Sound (h1 : S f_query_none = s_none) : Walk cc_query_Sound rs_query_Sound S (a1 Glob) (fun g => g = GlobE) (enc (X := Bool)) fun x y => y = true := by
  rintro x rfl
  simp [cc_query_Sound, rs_query_Sound, h1, -Bool.forall_bool]
abbrev s_IdxF : Spc := spc (aE (List Filt) (aD a0)) (fun x => x.1 = []) (enc (X := Int)) fun x y => y = -1
theorem w_slices_IndexFunc_Filter : Walk cc_slices_IndexFunc_Filter rs_slices_IndexFunc_Filter S (aE (List Filt) (aD a0)) (fun x => x.1 = []) (enc (X := Int)) fun x y => y = -1 := by
  rintro ⟨l, d, ⟨⟩⟩ h
  have h : l = [] := h
  subst h
  simp [cc_slices_IndexFunc_Filter, rs_slices_IndexFunc_Filter, -Bool.forall_bool]
  refine vc_range (X := Unit) [] [] 0 (fun _ _ => True) (fun _ => []) (fun _ => []) () (by simp) (by simp) (by omega) (by simp) (by simp) trivial (by simp) (by simp) (fun k x hk => absurd hk (by omega)) (fun _ _ => ?_)
  simp
abbrev s_ConF : Spc := spc (aE (List Filt) (aD a0)) (fun x => x.1 = []) (enc (X := Bool)) fun x y => y = false
theorem w_slices_ContainsFunc_Filter (h1 : S f_slices_IndexFunc_Filter = s_IdxF) : Walk cc_slices_ContainsFunc_Filter rs_slices_ContainsFunc_Filter S (aE (List Filt) (aD a0)) (fun x => x.1 = []) (enc (X := Bool)) fun x y => y = false := by
  rintro ⟨l, d, ⟨⟩⟩ h
  have h : l = [] := h
  subst h
  simp [cc_slices_ContainsFunc_Filter, rs_slices_ContainsFunc_Filter, h1, -Bool.forall_bool]
end Go.Gv
