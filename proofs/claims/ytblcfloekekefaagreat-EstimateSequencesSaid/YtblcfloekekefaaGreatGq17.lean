/- A part of the framework and of the walks: W38 V6 V7 V8 V9 V10. -/
import Derived.Test.YtblcfloekekefaaGreatGq15
import Derived.Test.YtblcfloekekefaaGreatGq16

namespace Go.Gv
set_option linter.unusedSimpArgs false
set_option linter.unusedVariables false
set_option maxRecDepth 100000
open Cod (enc dec)
variable {S S0 : Nat → Spc}
/-- What Fixed is asked for. -/
def P_Fixed (p : Pat) : Prop := pNum p ≤ 1000000 ∧ cntP p ≤ 100000
def Q_Fixed (p : Pat) (y : List Span) : Prop := if patB validN p = true ∧ sizeP p ≤ 256 then SrcsOf p y else y = []
end Go.Gv

namespace Go.Gv
open Cod (enc dec)
set_option linter.unusedSimpArgs false

structure Glob where
  op : Int
  a : B
  b : B
  name : B
  arg : B
  val : B
  fold : Bool
  mn : Int
  mx : Int
  args : List B
  kids : List Glob

mutual
def encG : Glob → D
  | .mk p0 p1 p2 p3 p4 p5 p6 p7 p8 p9 ks => .agg [enc p0, enc p1, enc p2, enc p3, enc p4, enc p5, enc p6, enc p7, enc p8, enc p9, .list 11 (encGs ks)]
def encGs : List Glob → List D
  | [] => []
  | k :: ks => encG k :: encGs ks
end
mutual
def decG : D → Option Glob
  | .agg [x0, x1, x2, x3, x4, x5, x6, x7, x8, x9, x10] => (dec x0).bind fun p0 => (dec x1).bind fun p1 => (dec x2).bind fun p2 => (dec x3).bind fun p3 => (dec x4).bind fun p4 => (dec x5).bind fun p5 => (dec x6).bind fun p6 => (dec x7).bind fun p7 => (dec x8).bind fun p8 => (dec x9).bind fun p9 => (decGK x10).bind fun ks => some (.mk p0 p1 p2 p3 p4 p5 p6 p7 p8 p9 ks)
  | _ => none
def decGK : D → Option (List Glob)
  | .list n es => if n = 11 then decGs es else none
  | .v (.slice none 0 0) => some []
  | _ => none
def decGs : List D → Option (List Glob)
  | [] => some []
  | d :: ds => (decG d).bind fun x => (decGs ds).bind fun xs => some (x :: xs)
end
theorem encGs_map : ∀ l : List Glob, encGs l = l.map encG
  | [] => rfl
  | _ :: l => by rw [encGs, encGs_map l]; rfl
theorem encG_kn : ∀ c : Glob, (encG c).kn = true
  | .mk .. => rfl
theorem encG_wid : ∀ c : Glob, (encG c).cells.length = 11
  | .mk .. => rfl
mutual
theorem decG_enc : ∀ c : Glob, decG (encG c) = some c
  | .mk p0 p1 p2 p3 p4 p5 p6 p7 p8 p9 ks => by
    have h : decGK (.list 11 (encGs ks)) = some ks := by rw [decGK, if_pos rfl]; exact decGs_enc ks
    simp only [encG, decG, Cod.dec_enc, Option.bind_some, h]
theorem decGs_enc : ∀ l : List Glob, decGs (encGs l) = some l
  | [] => by simp only [encGs, decGs]
  | c :: l => by simp only [encGs, decGs, decG_enc c, decGs_enc l, Option.bind_some]
end
mutual
theorem decG_le : ∀ (d : D) (c : Glob), decG d = some c → FrzTo noH d (encG c)
  | .agg [x0, x1, x2, x3, x4, x5, x6, x7, x8, x9, x10], c, h => by
    simp only [decG, Option.bind_eq_some_iff, Option.some.injEq] at h
    obtain ⟨p0, h0, p1, h1, p2, h2, p3, h3, p4, h4, p5, h5, p6, h6, p7, h7, p8, h8, p9, h9, ks, hk, rfl⟩ := h
    rw [encG]
    exact LeL.agg (.cons (Cod.le _ _ h0) (.cons (Cod.le _ _ h1) (.cons (Cod.le _ _ h2) (.cons (Cod.le _ _ h3) (.cons (Cod.le _ _ h4) (.cons (Cod.le _ _ h5) (.cons (Cod.le _ _ h6) (.cons (Cod.le _ _ h7) (.cons (Cod.le _ _ h8) (.cons (Cod.le _ _ h9) ((.cons (decGK_le x10 ks hk) .nil))))))))))))
theorem decGK_le : ∀ (d : D) (l : List Glob), decGK d = some l → FrzTo noH d (.list 11 (encGs l))
  | .list n es, l, h => by
    simp only [decGK] at h
    split at h
    · rename_i hn
      subst hn
      have hl := decGs_le es l h
      refine .list hl.1 (fun e he => ?_) hl.2
      rw [encGs_map] at he
      obtain ⟨x, hx, rfl⟩ := List.mem_map.1 he
      exact ⟨encG_kn x, encG_wid x⟩
    · cases h
  | .v (.slice none 0 0), l, h => by
    simp only [decGK, Option.some.injEq] at h
    subst h
    exact .nil _
theorem decGs_le : ∀ (es : List D) (l : List Glob), decGs es = some l → LeL es (encGs l)
  | [], l, h => by
    simp only [decGs, Option.some.injEq] at h
    subst h
    exact .nil
  | d :: ds, l, h => by
    simp only [decGs, Option.bind_eq_some_iff, Option.some.injEq] at h
    obtain ⟨x, h1, xs, h2, rfl⟩ := h
    rw [encGs]
    exact .cons (decG_le d x h1) (decGs_le ds xs h2)
end
instance : Cod Glob where
  wd := 11
  enc := encG
  dec := decG
  kn := encG_kn
  wid := encG_wid
  dec_enc := decG_enc
  le := decG_le
theorem encGs_enc (ks : List Glob) : D.list 11 (encGs ks) = enc ks := by rw [encGs_map]; rfl
theorem decGs_mapM : ∀ es : List D, decGs es = es.mapM (dec (X := Glob))
  | [] => by simp [decGs]
  | d :: es => by
    rw [decGs, List.mapM_cons, decGs_mapM es]
    rfl
theorem decGK_eq : ∀ d : D, decGK d = dec (X := List Glob) d := fun d => by
  unfold decGK
  split
  · rename_i n es
    show _ = if n = 11 then es.mapM (dec (X := Glob)) else none
    rw [decGs_mapM]
  · rfl
  · rename_i h1 h2
    show _ = (match d with
      | .list n es => if n = 11 then es.mapM (dec (X := Glob)) else none
      | .v (.slice none 0 0) => some []
      | _ => none)
    split
    · exact absurd rfl (h1 _ _)
    · exact absurd rfl h2
    · rfl
@[simp] theorem eta_Glob (s : Glob) : Glob.mk s.op s.a s.b s.name s.arg s.val s.fold s.mn s.mx s.args s.kids = s := by cases s; rfl
@[simp] theorem enc_Glob (s : Glob) : enc s = .agg [enc s.op, enc s.a, enc s.b, enc s.name, enc s.arg, enc s.val, enc s.fold, enc s.mn, enc s.mx, enc s.args, enc s.kids] := by
  rw [← encGs_enc]
  cases s
  show encG _ = _
  rw [encG]
@[simp] theorem wd_Glob : Cod.wd Glob = 11 := id rfl
@[simp] theorem dec_Glob (x0 x1 x2 x3 x4 x5 x6 x7 x8 x9 x10 : D) : dec (X := Glob) (.agg [x0, x1, x2, x3, x4, x5, x6, x7, x8, x9, x10]) = ((dec x0).bind fun x0 => (dec x1).bind fun x1 => (dec x2).bind fun x2 => (dec x3).bind fun x3 => (dec x4).bind fun x4 => (dec x5).bind fun x5 => (dec x6).bind fun x6 => (dec x7).bind fun x7 => (dec x8).bind fun x8 => (dec x9).bind fun x9 => (dec x10).bind fun x10 => some ⟨x0, x1, x2, x3, x4, x5, x6, x7, x8, x9, x10⟩) := by
  show decG _ = _
  simp only [decG, decGK_eq]

structure Filt where
  op : Int
  neg : Bool
  reg : B
instance : Cod Filt where
  wd := 3
  enc f := .agg [enc f.op, enc f.neg, enc f.reg]
  dec | .agg [x0, x1, x2] => (dec x0).bind fun a => (dec x1).bind fun b => (dec x2).bind fun c => some ⟨a, b, c⟩ | _ => none
  kn _ := rfl
  wid _ := rfl
  dec_enc f := by simp only [Cod.dec_enc, Option.bind_some]
  le d x h := by
    split at h
    · simp only [Option.bind_eq_some_iff, Option.some.injEq] at h
      obtain ⟨a, h0, b, h1, c, h2, rfl⟩ := h
      exact LeL.agg (.cons (Cod.le _ _ h0) (.cons (Cod.le _ _ h1) (.cons (Cod.le _ _ h2) .nil)))
    · cases h
@[simp] theorem eta_Filt (s : Filt) : Filt.mk s.op s.neg s.reg = s := by cases s; rfl
@[simp] theorem enc_Filt (s : Filt) : enc s = .agg [enc s.op, enc s.neg, enc s.reg] := id rfl
@[simp] theorem wd_Filt : Cod.wd Filt = 3 := id rfl
@[simp] theorem dec_Filt (x0 x1 x2 : D) : dec (X := Filt) (.agg [x0, x1, x2]) = ((dec x0).bind fun a => (dec x1).bind fun b => (dec x2).bind fun c => some ⟨a, b, c⟩) := id rfl

structure Qry where
  pat : Pat
  glob : Glob
  filts : List Filt
  strat : Int
def cellsP : Pat → List D | .mk op c l r mn mx ks => enc op :: (cellsC c ++ [enc l, enc r, enc mn, enc mx, enc ks])
theorem cellsP_eq : ∀ p : Pat, D.agg (cellsP p) = enc p
  | .mk .. => (enc_pat ..).symm
theorem cellsP_len : ∀ p : Pat, (cellsP p).length = 13
  | .mk op c l r mn mx ks => by simp [cellsP, cellsC_len]
def cellsG (g : Glob) : List D := [enc g.op, enc g.a, enc g.b, enc g.name, enc g.arg, enc g.val, enc g.fold, enc g.mn, enc g.mx, enc g.args, enc g.kids]
theorem cellsG_eq (g : Glob) : D.agg (cellsG g) = enc g := (enc_Glob g).symm
theorem agg_le {l l' : List D} (h : FrzTo noH (.agg l) (.agg l')) : LeL l l' := by
  cases h with
  | same => exact ⟨rfl, fun k x y hx hy => by rw [hx] at hy; cases hy; exact .same _⟩
  | agg hl h => exact ⟨hl, h⟩
theorem dec_patL {l : List D} {p : Pat} (h : dec (D.agg l) = some p) : LeL l (cellsP p) := agg_le (by rw [cellsP_eq]; exact Cod.le _ _ h)
theorem dec_globL {l : List D} {p : Glob} (h : dec (D.agg l) = some p) : LeL l (cellsG p) := agg_le (by rw [cellsG_eq]; exact Cod.le _ _ h)
def encQ (q : Qry) : D := .agg (cellsP q.pat ++ (cellsG q.glob ++ [enc q.filts, enc q.strat]))
def decQ : D → Option Qry
  | .agg [x0, x1, x2, x3, x4, x5, x6, x7, x8, x9, x10, x11, x12, y0, y1, y2, y3, y4, y5, y6, y7, y8, y9, y10, f, s] => (dec (D.agg [x0, x1, x2, x3, x4, x5, x6, x7, x8, x9, x10, x11, x12])).bind fun p => (dec (D.agg [y0, y1, y2, y3, y4, y5, y6, y7, y8, y9, y10])).bind fun g => (dec f).bind fun fs => (dec s).bind fun st => some ⟨p, g, fs, st⟩
  | _ => none
instance : Cod Qry where
  wd := 26
  enc := encQ
  dec := decQ
  kn _ := rfl
  wid q := by simp [encQ, D.cells, cellsP_len, cellsG]
  dec_enc q := by
    obtain ⟨⟨op, ⟨o, n, a, v, l, f, cks⟩, lb, rg, mn, mx, ks⟩, g, fs, st⟩ := q
    have h1 := Cod.dec_enc (⟨op, ⟨o, n, a, v, l, f, cks⟩, lb, rg, mn, mx, ks⟩ : Pat)
    have h2 := Cod.dec_enc g
    rw [enc_pat] at h1
    rw [enc_Glob] at h2
    simp only [cellsC, List.cons_append, List.nil_append] at h1
    simp only [encQ, cellsP, cellsC, cellsG, List.cons_append, List.nil_append, decQ, h1, h2, Cod.dec_enc, Option.bind_some]
  le d x h := by
    unfold decQ at h
    split at h
    · simp only [Option.bind_eq_some_iff, Option.some.injEq] at h
      obtain ⟨p, h0, g, h1, fs, h2, st, h3, rfl⟩ := h
      exact LeL.agg ((dec_patL h0).append ((dec_globL h1).append (.cons (Cod.le _ _ h2) (.cons (Cod.le _ _ h3) .nil))))
    · cases h
@[simp] theorem eta_Qry (s : Qry) : Qry.mk s.pat s.glob s.filts s.strat = s := by cases s; rfl
@[simp] theorem wd_Qry : Cod.wd Qry = 26 := id rfl
@[simp] theorem enc_Qry (s : Qry) : enc s = .agg [enc s.pat.op, enc s.pat.cond.op, enc s.pat.cond.name, enc s.pat.cond.arg, enc s.pat.cond.val, enc s.pat.cond.lab, enc s.pat.cond.fold, enc s.pat.cond.kids, enc s.pat.lab, enc s.pat.reg, enc s.pat.mn, enc s.pat.mx, enc s.pat.kids, enc s.glob.op, enc s.glob.a, enc s.glob.b, enc s.glob.name, enc s.glob.arg, enc s.glob.val, enc s.glob.fold, enc s.glob.mn, enc s.glob.mx, enc s.glob.args, enc s.glob.kids, enc s.filts, enc s.strat] := by
  obtain ⟨⟨op, ⟨o, n, a, v, l, f, cks⟩, lb, rg, mn, mx, ks⟩, g, fs, st⟩ := s
  rfl
@[simp] theorem dec_Qry (x0 x1 x2 x3 x4 x5 x6 x7 x8 x9 x10 x11 x12 y0 y1 y2 y3 y4 y5 y6 y7 y8 y9 y10 f s : D) : dec (X := Qry) (.agg [x0, x1, x2, x3, x4, x5, x6, x7, x8, x9, x10, x11, x12, y0, y1, y2, y3, y4, y5, y6, y7, y8, y9, y10, f, s]) = ((dec (D.agg [x0, x1, x2, x3, x4, x5, x6, x7, x8, x9, x10, x11, x12])).bind fun p => (dec (D.agg [y0, y1, y2, y3, y4, y5, y6, y7, y8, y9, y10])).bind fun g => (dec f).bind fun fs => (dec s).bind fun st => some ⟨p, g, fs, st⟩) := id rfl
end Go.Gv

namespace Go.Gv
open Cod (enc dec)
set_option linter.unusedSimpArgs false

structure Tok where
  kind : Int
  text : B
  pos : Int
instance : Cod Tok where
  wd := 3
  enc t := .agg [.v (.int .u8 t.kind), enc t.text, enc t.pos]
  dec | .agg [.v (.int .u8 k), x1, x2] => (dec x1).bind fun b => (dec x2).bind fun c => some ⟨k, b, c⟩ | _ => none
  kn _ := rfl
  wid _ := rfl
  dec_enc f := by simp only [Cod.dec_enc, Option.bind_some]
  le d x h := by
    split at h
    · simp only [Option.bind_eq_some_iff, Option.some.injEq] at h
      obtain ⟨b, h1, c, h2, rfl⟩ := h
      exact LeL.agg (.cons (.same _) (.cons (Cod.le _ _ h1) (.cons (Cod.le _ _ h2) .nil)))
    · cases h
@[simp] theorem eta_Tok (s : Tok) : Tok.mk s.kind s.text s.pos = s := by cases s; rfl
@[simp] theorem enc_Tok (s : Tok) : enc s = .agg [.v (.int .u8 s.kind), enc s.text, enc s.pos] := id rfl
@[simp] theorem wd_Tok : Cod.wd Tok = 3 := id rfl
@[simp] theorem dec_Tok (k : Int) (x1 x2 : D) : dec (X := Tok) (.agg [.v (.int .u8 k), x1, x2]) = ((dec x1).bind fun b => (dec x2).bind fun c => some ⟨k, b, c⟩) := id rfl

structure Pst where
  l : List Tok
  pos : Int
  deep : Int
  e : Int
  fail : Int
@[simp] theorem eta_Pst (s : Pst) : Pst.mk s.l s.pos s.deep s.e s.fail = s := by cases s; rfl
def cePst (s : Pst) : List D := [enc s.l, enc s.pos, enc s.deep, enc s.e, enc s.fail]
@[simp] theorem cePst_eq (s : Pst) : cePst s = [enc s.l, enc s.pos, enc s.deep, enc s.e, enc s.fail] := id rfl

/-! ### What the methods compute -/
def Pst.step (s : Pst) : Pst := { s with pos := s.pos + 1 }
def nowT (s : Pst) : Option Tok := if 0 ≤ s.pos ∧ s.l.length ≤ 1000000 then s.l[s.pos.toNat]? else none
def isF (s : Pst) (k : Int) (t : B) : Option Bool := if s.e ≠ 0 then some false else (nowT s).map fun x => decide (x.kind = k ∧ x.text = t)
def eatF (s : Pst) (t : B) : Option (Pst × Bool) := (isF s 111 t).map fun b => if b then (s.step, true) else (s, false)
/-- (no error: where the token is another one, there is no result here.) -/
def wantF (s : Pst) (k : Int) (t : B) : Option (Pst × B) := if s.e ≠ 0 then none else (nowT s).bind fun x => if x.kind ≠ k ∨ k = 111 ∧ x.text ≠ t then none else some (s.step, x.text)
def digit1 (n : Int) (c : UInt8) : Int := min (10 * n + ((c.toNat : Int) - 48)) 1000000
def digitsF (t : B) : Option Int := if t.data.toList.all fun c => decide (48 ≤ c.toNat ∧ c.toNat ≤ 57) then some (t.data.toList.foldl digit1 0) else none
def numberF (s : Pst) (limit : Int) : Option (Pst × Int) := (wantF s 100 ⟨#[]⟩).bind fun r => (digitsF r.2).bind fun n => if n ≤ limit then some (r.1, n) else none
/-- (not at names) -/
def beginsF (s : Pst) : Option Bool := (nowT s).bind fun x => if s.e ≠ 0 then some false else if x.kind = 110 then none else some (decide (x.kind = 115 ∨ x.kind = 111 ∧ (x.text = ⟨#[91]⟩ ∨ x.text = ⟨#[60]⟩ ∨ x.text = ⟨#[60, 47]⟩ ∨ x.text = ⟨#[40]⟩)))
def E0 : B := ⟨#[]⟩
section
variable (A : Pst → Option (Pst × Pat))
/-- (parentheses, and quoted texts) -/
def itemF (s : Pst) : Option (Pst × Pat) :=
  (eatF s ⟨#[40]⟩).bind fun r =>
    if r.2 then (if 0 ≤ s.deep ∧ s.deep ≤ 1000 then (A { r.1 with deep := s.deep + 1 }).bind fun q => if 0 ≤ q.1.deep ∧ q.1.deep ≤ 1000000 then (wantF { q.1 with deep := q.1.deep - 1 } 111 ⟨#[41]⟩).map fun w => (w.1, q.2) else none else none)
    else if s.e ≠ 0 then none else (nowT s).bind fun x => if x.kind ≠ 115 then none else (eatF s.step ⟨#[37, 99]⟩).map fun w => (w.1, ⟨1, ⟨2, E0, E0, x.text, E0, w.2, []⟩, E0, E0, 0, 0, []⟩)
/-- (only counts in braces, with one number) -/
def repLoop : Nat → Pst → Pat → Option (Pst × Pat)
  | 0, _, _ => none
  | k + 1, s, x => if s.e ≠ 0 then none else (nowT s).bind fun t => if t.kind = 111 ∧ (t.text = ⟨#[63]⟩ ∨ t.text = ⟨#[42]⟩ ∨ t.text = ⟨#[43]⟩) then none else
      if t.kind = 111 ∧ t.text = ⟨#[123]⟩ then (numberF s.step 16).bind fun r => (eatF r.1 ⟨#[44]⟩).bind fun w => if w.2 then none else (wantF w.1 111 ⟨#[125]⟩).bind fun u => repLoop k u.1 ⟨6, Cond0, E0, E0, r.2, r.2, [x]⟩
      else some (s, x)
def repF (s : Pst) : Option (Pst × Pat) := (itemF A s).bind fun r => repLoop 100 r.1 r.2
def seqLoop : Nat → Pst → List Pat → Option (Pst × List Pat)
  | 0, _, _ => none
  | k + 1, s, acc => (beginsF s).bind fun b => if b then (repF A s).bind fun r => seqLoop k r.1 (acc ++ [r.2]) else some (s, acc)
def oneOr (op : Int) (l : List Pat) : Pat := match l with
  | [x] => x
  | l => ⟨op, Cond0, E0, E0, 0, 0, l⟩
def seqF (s : Pst) : Option (Pst × Pat) := (repF A s).bind fun r => (seqLoop A 100 r.1 [r.2]).map fun q => (q.1, oneOr 4 q.2)
def altLoop : Nat → Pst → List Pat → Option (Pst × List Pat)
  | 0, _, _ => none
  | k + 1, s, acc => (eatF s ⟨#[124]⟩).bind fun w => if w.2 then (seqF A w.1).bind fun r => altLoop k r.1 (acc ++ [r.2]) else some (w.1, acc)
def altS (s : Pst) : Option (Pst × Pat) := (seqF A s).bind fun r => (altLoop A 100 r.1 [r.2]).map fun q => (q.1, oneOr 5 q.2)
end
def altF : Nat → Pst → Option (Pst × Pat)
  | 0 => fun _ => none
  | n + 1 => altS (altF n)
end Go.Gv

namespace Go.Gv
set_option linter.unusedSimpArgs false
def isSp (s : B) (i : Nat) : Bool := match s.data[i]? with
  | some c => decide (c.toNat = 32 ∨ c.toNat = 10)
  | none => false
def isDg (s : B) (i : Nat) : Bool := match s.data[i]? with
  | some c => decide (48 ≤ c.toNat ∧ c.toNat ≤ 57)
  | none => false
def skipN : Nat → B → Nat → Nat
  | 0, _, i => i
  | n + 1, s, i => if isSp s i then skipN n s (i + 1) else i
def skipF (s : B) (i : Nat) : Nat := skipN (s.size - i) s i
def digN : Nat → B → Nat → Nat
  | 0, _, i => i
  | n + 1, s, i => if isDg s i then digN n s (i + 1) else i
def digF (s : B) (i : Nat) : Nat := digN (s.size - i) s i
/-- (no quote within) -/
def quoN : Nat → B → Nat → B → Option (Nat × B)
  | 0, _, _, _ => none
  | n + 1, s, j, v => match s.data[j]? with
    | none => none
    | some c => if c.toNat = 34 then (match s.data[j + 1]? with
        | some d => if d.toNat = 34 then none else some (j, v)
        | none => some (j, v)) else quoN n s (j + 1) (v ++ s.extract j (j + 1))
def quoF (s : B) (j : Nat) (v : B) : Option (Nat × B) := quoN (s.size - j) s j v
def signsL : List B := [⟨#[60, 47]⟩, ⟨#[33, 61]⟩, ⟨#[58, 58]⟩, ⟨#[37, 99]⟩, ⟨#[91]⟩, ⟨#[93]⟩, ⟨#[40]⟩, ⟨#[41]⟩, ⟨#[123]⟩, ⟨#[125]⟩, ⟨#[60]⟩, ⟨#[62]⟩, ⟨#[124]⟩, ⟨#[38]⟩, ⟨#[33]⟩, ⟨#[61]⟩, ⟨#[58]⟩, ⟨#[46]⟩, ⟨#[44]⟩, ⟨#[63]⟩, ⟨#[42]⟩, ⟨#[43]⟩, ⟨#[45]⟩]
def preB (s : B) (i : Nat) (x : B) : Bool := decide (i + x.size ≤ s.size ∧ s.extract i (i + x.size) = x)
def tokF (s : B) (i : Nat) : Option (Nat × Tok) := match s.data[i]? with
  | none => none
  | some c =>
    if 65 ≤ c.toNat ∧ c.toNat ≤ 90 ∨ 97 ≤ c.toNat ∧ c.toNat ≤ 122 ∨ c.toNat = 95 then none
    else if 48 ≤ c.toNat ∧ c.toNat ≤ 57 then some (digF s i, ⟨100, s.extract i (digF s i), i⟩)
    else if c.toNat = 34 then (quoF s (i + 1) ⟨#[]⟩).map fun r => (r.1 + 1, ⟨115, r.2, i⟩)
    else match signsL.find? (preB s i) with
      | none => none
      | some x => some (i + x.size, ⟨111, s.extract i (i + x.size), i⟩)
def scanN : Nat → B → Nat → List Tok → Option (List Tok)
  | 0, _, _, _ => none
  | k + 1, s, i, out => if skipF s i = s.size then some (out ++ [⟨101, ⟨#[]⟩, s.size⟩]) else (tokF s (skipF s i)).bind fun r => if r.1 ≤ s.size ∧ skipF s i < r.1 then scanN k s r.1 (out ++ [r.2]) else none
def scanF (s : B) : Option (List Tok) := if s.size ≤ 100000 then scanN 100000 s 0 [] else none
theorem skipF_step {s : B} {i : Nat} (h : i < s.size) : skipF s i = if isSp s i then skipF s (i + 1) else i := by
  unfold skipF
  rw [show s.size - i = (s.size - (i + 1)) + 1 by omega, skipN]
theorem skipF_end {s : B} {i : Nat} (h : s.size ≤ i) : skipF s i = i := by
  unfold skipF
  rw [show s.size - i = 0 by omega, skipN]
theorem digF_step {s : B} {i : Nat} (h : i < s.size) : digF s i = if isDg s i then digF s (i + 1) else i := by
  unfold digF
  rw [show s.size - i = (s.size - (i + 1)) + 1 by omega, digN]
theorem digF_end {s : B} {i : Nat} (h : s.size ≤ i) : digF s i = i := by
  unfold digF
  rw [show s.size - i = 0 by omega, digN]
theorem quoF_step {s : B} {j : Nat} {v : B} {c : UInt8} (h : s.data[j]? = some c) : quoF s j v = if c.toNat = 34 then (match s.data[j + 1]? with
        | some d => if d.toNat = 34 then none else some (j, v)
        | none => some (j, v)) else quoF s (j + 1) (v ++ s.extract j (j + 1)) := by
  have hj : j < s.size := (Array.getElem?_eq_some_iff.1 h).1
  unfold quoF
  rw [show s.size - j = (s.size - (j + 1)) + 1 by omega, quoN, h]
theorem quoF_end {s : B} {j : Nat} {v : B} (h : s.size ≤ j) : quoF s j v = none := by
  unfold quoF
  rw [show s.size - j = 0 by omega, quoN]
end Go.Gv

namespace Go.Gv
set_option linter.unusedSimpArgs false
def Glob0 : Glob := ⟨0, E0, E0, E0, E0, E0, false, 0, 0, [], []⟩
/-- A text that is a pattern and nothing else. -/
def parseF (s : B) : Option Pat := if s.size ≤ 400 then (scanF s).bind fun l => (altF 10 ⟨l, 0, 0, 0, 0⟩).bind fun r => if r.1.e ≠ 0 then none else (nowT r.1).bind fun t => if t.kind = 101 then some r.2 else none else none
def knownText : B := ⟨#[40, 34, 97, 34, 32, 34, 98, 34, 41, 123, 50, 125, 32, 34, 99, 34]⟩
def tokQ (b : B) : Pat := ⟨1, ⟨2, E0, E0, b, E0, false, []⟩, E0, E0, 0, 0, []⟩
def knownPat : Pat := ⟨4, Cond0, E0, E0, 0, 0, [⟨6, Cond0, E0, E0, 2, 2, [⟨4, Cond0, E0, E0, 0, 0, [tokQ ⟨#[97]⟩, tokQ ⟨#[98]⟩]⟩]⟩, tokQ ⟨#[99]⟩]⟩

mutual
def srcL : Pat → Int → Int → List Span
  | .mk op _ _ _ mn _ ks, d, leaf => if op = 1 then [⟨leaf, d⟩] else if op = 4 then srcsL ks d leaf else if op = 6 then (match ks with | [] => [] | k :: _ => (List.range mn.toNat).flatMap fun (i : Nat) => if i = 0 ∨ (widP k).1 = (widP k).2 then srcL k (d + i * (widP k).1) leaf else []) else []
def srcsL : List Pat → Int → Int → List Span
  | [], _, _ => []
  | k :: ks, d, leaf => srcL k d leaf ++ if (widP k).1 = (widP k).2 then srcsL ks (d + (widP k).1) (leaf + (leavesP k).length) else []
end
theorem srcL_mem (p : Pat) : ∀ (d leaf : Int) (s : Span), s ∈ srcL p d leaf ↔ Src p d leaf s := by
  induction p using pat_ind with | _ p ih => ?_
  intro d leaf s
  obtain ⟨op, c, l, r, mn, mx, ks⟩ := p
  simp only at ih
  rw [srcL.eq_def, Src.eq_def]
  simp only
  split
  · simp
  · split
    · have : ∀ ks' : List Pat, (∀ k ∈ ks', k ∈ ks) → ∀ d leaf : Int, s ∈ srcsL ks' d leaf ↔ Srcs ks' d leaf s := by
        intro ks'
        induction ks' with
        | nil => intro _ d leaf; rw [srcsL, Srcs]; simp
        | cons k ks' ihk =>
          intro hk d leaf
          rw [srcsL, Srcs, List.mem_append, ih k (hk k (by simp))]
          refine or_congr_right ?_
          split
          · rename_i h
            rw [ihk (fun z hz => hk z (by simp [hz]))]
            exact ⟨fun h' => ⟨h, h'⟩, fun h' => h'.2⟩
          · rename_i h
            exact ⟨fun h' => by simp at h', fun h' => absurd h'.1 h⟩
      exact this ks (fun _ h => h) d leaf
    · split
      · split
        · simp
        · rename_i k ks'
          rw [List.mem_flatMap]
          constructor
          · rintro ⟨i, hi, hs⟩
            split at hs
            · rename_i hw
              rw [ih k (by simp)] at hs
              rw [List.mem_range] at hi
              exact ⟨i, by omega, by omega, hw.imp (fun h => by omega) id, hs⟩
            · simp at hs
          · rintro ⟨i, h0, h1, h2, h3⟩
            refine ⟨i.toNat, by rw [List.mem_range]; omega, ?_⟩
            rw [if_pos (h2.imp (fun h => by omega) id), ih k (by simp), show ((i.toNat : Nat) : Int) = i by omega]
            exact h3
      · simp
theorem srcsOf_of {p : Pat} {l : List Span} (h : SS l) (h1 : ∀ s, s ∈ l ↔ s ∈ srcL p 0 0) : SrcsOf p l := ⟨h, fun s => (h1 s).trans (srcL_mem p 0 0 s)⟩
end Go.Gv

namespace Go.Gv
set_option linter.unusedSimpArgs false
set_option linter.unusedVariables false
def seqP (ks : List Pat) : Pat := ⟨4, Cond0, ⟨#[]⟩, ⟨#[]⟩, 0, 0, ks⟩
def tokP (c : Cond) : Pat := ⟨1, c, ⟨#[]⟩, ⟨#[]⟩, 0, 0, []⟩
theorem seq_node {ks : List Pat} (h2 : 2 ≤ ks.length) : nodeB (seqP ks) = true ∧ nameB validN (seqP ks) = true ∧ numB (seqP ks) = true :=
  ⟨(nodeB_iff _).2 (.inr (.inr (.inl ⟨.inl rfl, rfl, rfl, rfl, rfl, rfl, h2⟩))), decide_eq_true ⟨fun h => by rcases h with h | h <;> exact absurd h (by show ¬ (4 : Int) = _; decide), fun h => absurd rfl h⟩, decide_eq_true fun h => absurd h (by show ¬ (4 : Int) = 6; decide)⟩
theorem tok_all (c : Cond) : everyB nodeB (tokP c) = true ∧ everyB (nameB validN) (tokP c) = true ∧ everyB numB (tokP c) = true ∧ ∀ d : Int, d ≤ 100 → shallowB (tokP c) d = true := by
  refine ⟨?_, ?_, ?_, fun d hd => ?_⟩
  · rw [everyB_eq, (nodeB_iff (tokP c)).2 (.inl ⟨rfl, rfl, rfl, rfl, rfl⟩)]; rfl
  · rw [everyB_eq, show nameB validN (tokP c) = true from decide_eq_true ⟨fun h => by rcases h with h | h <;> exact absurd h (by show ¬ (1 : Int) = _; decide), fun h => absurd rfl h⟩]; rfl
  · rw [everyB_eq, show numB (tokP c) = true from decide_eq_true fun h => absurd h (by show ¬ (1 : Int) = 6; decide)]; rfl
  · rw [shallowB_eq, decide_eq_true hd]; rfl
/-- Tokens. -/
def Toks (ks : List Pat) : Prop := ∀ k ∈ ks, ∃ c, k = tokP c
theorem toks_patB {ks : List Pat} (h : Toks ks) (h2 : 2 ≤ ks.length) : patB validN (seqP ks) = true := by
  obtain ⟨n1, n2, n3⟩ := seq_node h2
  unfold patB
  rw [shallowB_eq, everyB_eq, everyB_eq (nameB validN), everyB_eq numB, n1, n2, n3]
  have a : ∀ f : Pat → Bool, (∀ c, f (tokP c) = true) → (seqP ks).kids.all f = true := fun f hf => List.all_eq_true.2 fun k hk => by obtain ⟨c, rfl⟩ := h k hk; exact hf c
  rw [a _ fun c => (tok_all c).1, a _ fun c => (tok_all c).2.1, a _ fun c => (tok_all c).2.2.1, a _ fun c => (tok_all c).2.2.2 _ (by decide)]
  rfl
theorem tok_size (c : Cond) : sizeP (tokP c) = 1 := by rw [sizeP_eq, sizeN, if_pos (show (tokP c).kids = [] from rfl)]
theorem toks_size : ∀ (ks : List Pat) (n : Int), Toks ks → n + ks.length ≤ 1000 → sizePs ks n = n + ks.length
  | [], n, _, _ => by rw [sizePs]; simp
  | k :: ks, n, h, hn => by
    obtain ⟨c, rfl⟩ := h k (by simp)
    simp only [List.length_cons] at hn ⊢
    rw [sizePs, tok_size, toks_size ks _ (fun x hx => h x (by simp [hx])) (by omega)]
    omega
theorem toks_num : ∀ (ks : List Pat), Toks ks → pNums ks = ks.length ∧ cntPs ks = ks.length
  | [], _ => by rw [pNums, cntPs]; simp
  | k :: ks, h => by
    obtain ⟨c, rfl⟩ := h k (by simp)
    obtain ⟨h1, h2⟩ := toks_num ks fun x hx => h x (by simp [hx])
    rw [pNums, cntPs, h1, h2, pNum_eq, cntP_eq, if_pos (show (tokP c).kids = [] from rfl), show (tokP c).kids = [] from rfl, pNums]
    simp only [List.length_cons]
    omega
theorem toks_srcs : ∀ (ks : List Pat) (d leaf : Int) (s : Span), Toks ks → (Srcs ks d leaf s ↔ ∃ j : Nat, j < ks.length ∧ s = ⟨leaf + j, d + j⟩)
  | [], d, leaf, s, _ => by rw [Srcs]; simp
  | k :: ks, d, leaf, s, h => by
    obtain ⟨c, rfl⟩ := h k (by simp)
    rw [Srcs, src1 rfl, widP1 (p := tokP c) rfl, leavesP_eq, if_pos (show (tokP c).op = 1 from rfl), toks_srcs ks _ _ _ fun x hx => h x (by simp [hx])]
    simp only [List.length_cons, List.length_nil, true_and]
    constructor
    · rintro (rfl | ⟨j, hj, rfl⟩)
      · exact ⟨0, by omega, by simp⟩
      · refine ⟨j + 1, by omega, Span.ext' ?_ ?_⟩ <;> simp only <;> omega
    · rintro ⟨j, hj, rfl⟩
      rcases j with _ | j
      · left; simp
      · refine .inr ⟨j, by omega, Span.ext' ?_ ?_⟩ <;> simp only <;> omega
def upTo (k : Nat) : List Span := (List.range k).map fun (j : Nat) => ⟨j, j⟩
theorem upTo_succ (k : Nat) : upTo (k + 1) = upTo k ++ [⟨k, k⟩] := by unfold upTo; rw [List.range_succ, List.map_append]; rfl
theorem upTo_mem (k : Nat) (s : Span) : s ∈ upTo k ↔ ∃ j : Nat, j < k ∧ s = ⟨j, j⟩ := by
  unfold upTo
  rw [List.mem_map]
  exact exists_congr fun j => and_congr List.mem_range ⟨fun h => h.symm, fun h => h.symm⟩
theorem upTo_ss (k : Nat) : SS (upTo k) := by
  unfold upTo SS
  rw [List.pairwise_map]
  exact List.pairwise_lt_range.imp fun {a b} h => by unfold ltS; simp only; omega
theorem toks_fixed {ks : List Pat} (h : Toks ks) (h2 : 2 ≤ ks.length) (h5 : ks.length ≤ 5) : P_Fixed (seqP ks) ∧ ∀ y, Q_Fixed (seqP ks) y → y = upTo ks.length := by
  obtain ⟨q1, q2⟩ := toks_num ks h
  refine ⟨⟨?_, ?_⟩, fun y hy => ?_⟩
  · rw [pNum_eq]; show pNums ks + 1 ≤ _; omega
  · rw [cntP_eq, if_neg (show ¬ (seqP ks).kids = [] from fun e => by have : ks = [] := e; rw [this] at h2; simp at h2), if_neg (by show ¬ (4 : Int) = 6; decide)]; show cntPs ks ≤ _; omega
  · have hz : sizeP (seqP ks) ≤ 256 := by
      rw [sizeP_eq, sizeN, if_neg (show ¬ (seqP ks).kids = [] from fun e => by have : ks = [] := e; rw [this] at h2; simp at h2), if_neg (by show ¬ (4 : Int) = 6; decide)]
      show sizePs ks 0 ≤ _
      rw [toks_size ks 0 h (by omega)]
      omega
    unfold Q_Fixed at hy
    rw [if_pos ⟨toks_patB h h2, hz⟩] at hy
    refine ss_ext hy.1 (upTo_ss _) fun s => ?_
    rw [hy.2 s, src4 rfl, upTo_mem]
    show Srcs ks 0 0 s ↔ _
    rw [toks_srcs ks _ _ _ h]
    simp
end Go.Gv
