/- A part of the framework and of the walks: V6 W43 V7 V8 V12 V13 C2 W2 W31 V15 V16. -/
import Derived.Test.YtaiffcbkmgfklaaGreatDoorGw12
import Derived.Test.YtaiffcbkmgfklaaGreatDoorGw13
import Derived.Test.YtaiffcbkmgfklaaGreatDoorGw11
set_option linter.unusedSimpArgs false
set_option linter.unusedVariables false
set_option maxRecDepth 100000

namespace Go.Gv
open Cod (enc dec)

structure Glob where
 op : Int
 a : B
 b : B
 name : B
 arg : B
 val : B
 fold : Bool
 mn : Int
 mx : Int
 args : List B
 kids : List Glob

mutual
def encG : Glob → D
 | .mk p0 p1 p2 p3 p4 p5 p6 p7 p8 p9 ks => .agg [enc p0, enc p1, enc p2, enc p3, enc p4, enc p5, enc p6, enc p7, enc p8, enc p9, .list 11 (encGs ks)]
def encGs : List Glob → List D
 | [] => []
 | k :: ks => encG k :: encGs ks
end
mutual
def decG : D → Option Glob
 | .agg [x0, x1, x2, x3, x4, x5, x6, x7, x8, x9, x10] => (dec x0).bind fun p0 => (dec x1).bind fun p1 => (dec x2).bind fun p2 => (dec x3).bind fun p3 => (dec x4).bind fun p4 => (dec x5).bind fun p5 => (dec x6).bind fun p6 => (dec x7).bind fun p7 => (dec x8).bind fun p8 => (dec x9).bind fun p9 => (decGK x10).bind fun ks => some (.mk p0 p1 p2 p3 p4 p5 p6 p7 p8 p9 ks)
 | _ => none
def decGK : D → Option (List Glob)
 | .list n es => if n = 11 then decGs es else none
 | .v (.slice none 0 0) => some []
 | _ => none
def decGs : List D → Option (List Glob)
 | [] => some []
 | d :: ds => (decG d).bind fun x => (decGs ds).bind fun xs => some (x :: xs)
end
theorem encGs_map : ∀ l : List Glob, encGs l = l.map encG
 | [] => rfl
 | _ :: l => by rw [encGs, encGs_map l]; rfl
theorem encG_kn : ∀ c : Glob, (encG c).kn = true
 | .mk .. => rfl
theorem encG_wid : ∀ c : Glob, (encG c).cells.length = 11
 | .mk .. => rfl
mutual
theorem decG_enc : ∀ c : Glob, decG (encG c) = some c
 | .mk p0 p1 p2 p3 p4 p5 p6 p7 p8 p9 ks => by
   have h : decGK (.list 11 (encGs ks)) = some ks := by rw [decGK, if_pos rfl]; exact decGs_enc ks
   simp only [encG, decG, Cod.dec_enc, Option.bind_some, h]
theorem decGs_enc : ∀ l : List Glob, decGs (encGs l) = some l
 | [] => by simp only [encGs, decGs]
 | c :: l => by simp only [encGs, decGs, decG_enc c, decGs_enc l, Option.bind_some]
end
mutual
theorem decG_le : ∀ (d : D) (c : Glob), decG d = some c → FrzTo noH d (encG c)
 | .agg [x0, x1, x2, x3, x4, x5, x6, x7, x8, x9, x10], c, h => by
   simp only [decG, Option.bind_eq_some_iff, Option.some.injEq] at h
   obtain ⟨p0, h0, p1, h1, p2, h2, p3, h3, p4, h4, p5, h5, p6, h6, p7, h7, p8, h8, p9, h9, ks, hk, rfl⟩ := h
   rw [encG]
   exact LeL.agg (.cons (Cod.le _ _ h0) (.cons (Cod.le _ _ h1) (.cons (Cod.le _ _ h2) (.cons (Cod.le _ _ h3) (.cons (Cod.le _ _ h4) (.cons (Cod.le _ _ h5) (.cons (Cod.le _ _ h6) (.cons (Cod.le _ _ h7) (.cons (Cod.le _ _ h8) (.cons (Cod.le _ _ h9) ((.cons (decGK_le x10 ks hk) .nil))))))))))))
theorem decGK_le : ∀ (d : D) (l : List Glob), decGK d = some l → FrzTo noH d (.list 11 (encGs l))
 | .list n es, l, h => by
   simp only [decGK] at h
   split at h
   ·rename_i hn
    subst hn
    have hl := decGs_le es l h
    refine .list hl.1 (fun e he => ?_) hl.2
    rw [encGs_map] at he
    obtain ⟨x, hx, rfl⟩ := List.mem_map.1 he
    exact ⟨encG_kn x, encG_wid x⟩
   ·cases h
 | .v (.slice none 0 0), l, h => by
   simp only [decGK, Option.some.injEq] at h
   subst h
   exact .nil _
theorem decGs_le : ∀ (es : List D) (l : List Glob), decGs es = some l → LeL es (encGs l)
 | [], l, h => by
   simp only [decGs, Option.some.injEq] at h
   subst h
   exact .nil
 | d :: ds, l, h => by
   simp only [decGs, Option.bind_eq_some_iff, Option.some.injEq] at h
   obtain ⟨x, h1, xs, h2, rfl⟩ := h
   rw [encGs]
   exact .cons (decG_le d x h1) (decGs_le ds xs h2)
end
instance : Cod Glob where
 wd := 11
 enc := encG
 dec := decG
 kn := encG_kn
 wid := encG_wid
 dec_enc := decG_enc
 le := decG_le
theorem encGs_enc (ks : List Glob) : D.list 11 (encGs ks) = enc ks := by rw [encGs_map]; rfl
theorem decGs_mapM : ∀ es : List D, decGs es = es.mapM (dec (X := Glob))
 | [] => by simp [decGs]
 | d :: es => by
   rw [decGs, List.mapM_cons, decGs_mapM es]
   rfl
theorem decGK_eq : ∀ d : D, decGK d = dec (X := List Glob) d := fun d => by
 unfold decGK
 split
 ·rename_i n es
  show _ = if n = 11 then es.mapM (dec (X := Glob)) else none
  rw [decGs_mapM]
 ·rfl
 ·rename_i h1 h2
  show _ = (match d with
   | .list n es => if n = 11 then es.mapM (dec (X := Glob)) else none
   | .v (.slice none 0 0) => some []
   | _ => none)
  split
  ·exact absurd rfl (h1 _ _)
  ·exact absurd rfl h2
  ·rfl
@[simp] theorem eta_Glob (s : Glob) : Glob.mk s.op s.a s.b s.name s.arg s.val s.fold s.mn s.mx s.args s.kids = s := by cases s; rfl
@[simp] theorem enc_Glob (s : Glob) : enc s = .agg [enc s.op, enc s.a, enc s.b, enc s.name, enc s.arg, enc s.val, enc s.fold, enc s.mn, enc s.mx, enc s.args, enc s.kids] := by
 rw [← encGs_enc]
 cases s
 show encG _ = _
 rw [encG]
@[simp] theorem wd_Glob : Cod.wd Glob = 11 := id rfl
@[simp] theorem dec_Glob (x0 x1 x2 x3 x4 x5 x6 x7 x8 x9 x10 : D) : dec (X := Glob) (.agg [x0, x1, x2, x3, x4, x5, x6, x7, x8, x9, x10]) = ((dec x0).bind fun x0 => (dec x1).bind fun x1 => (dec x2).bind fun x2 => (dec x3).bind fun x3 => (dec x4).bind fun x4 => (dec x5).bind fun x5 => (dec x6).bind fun x6 => (dec x7).bind fun x7 => (dec x8).bind fun x8 => (dec x9).bind fun x9 => (dec x10).bind fun x10 => some ⟨x0, x1, x2, x3, x4, x5, x6, x7, x8, x9, x10⟩) := by
 show decG _ = _
 simp only [decG, decGK_eq]

structure Filt where
 op : Int
 neg : Bool
 reg : B
instance : Cod Filt where
 wd := 3
 enc f := .agg [enc f.op, enc f.neg, enc f.reg]
 dec | .agg [x0, x1, x2] => (dec x0).bind fun a => (dec x1).bind fun b => (dec x2).bind fun c => some ⟨a, b, c⟩ | _ => none
 kn _ := rfl
 wid _ := rfl
 dec_enc f := by simp only [Cod.dec_enc, Option.bind_some]
 le d x h := by
  split at h
  ·simp only [Option.bind_eq_some_iff, Option.some.injEq] at h
   obtain ⟨a, h0, b, h1, c, h2, rfl⟩ := h
   exact LeL.agg (.cons (Cod.le _ _ h0) (.cons (Cod.le _ _ h1) (.cons (Cod.le _ _ h2) .nil)))
  ·cases h
@[simp] theorem enc_Filt (s : Filt) : enc s = .agg [enc s.op, enc s.neg, enc s.reg] := id rfl
@[simp] theorem wd_Filt : Cod.wd Filt = 3 := id rfl
structure Qry where
 pat : Pat
 glob : Glob
 filts : List Filt
 strat : Int
def cellsP : Pat → List D | .mk op c l r mn mx ks => enc op :: (cellsC c ++ [enc l, enc r, enc mn, enc mx, enc ks])
theorem cellsP_eq : ∀ p : Pat, D.agg (cellsP p) = enc p
 | .mk .. => (enc_pat ..).symm
theorem cellsP_len : ∀ p : Pat, (cellsP p).length = 13
 | .mk op c l r mn mx ks => by simp [cellsP, cellsC_len]
def cellsG (g : Glob) : List D := [enc g.op, enc g.a, enc g.b, enc g.name, enc g.arg, enc g.val, enc g.fold, enc g.mn, enc g.mx, enc g.args, enc g.kids]
theorem cellsG_eq (g : Glob) : D.agg (cellsG g) = enc g := (enc_Glob g).symm
theorem agg_le {l l' : List D} (h : FrzTo noH (.agg l) (.agg l')) : LeL l l' := by
 cases h with
 | same => exact ⟨rfl, fun k x y hx hy => by rw [hx] at hy; cases hy; exact .same _⟩
 | agg hl h => exact ⟨hl, h⟩
theorem dec_patL {l : List D} {p : Pat} (h : dec (D.agg l) = some p) : LeL l (cellsP p) := agg_le (by rw [cellsP_eq]; exact Cod.le _ _ h)
theorem dec_globL {l : List D} {p : Glob} (h : dec (D.agg l) = some p) : LeL l (cellsG p) := agg_le (by rw [cellsG_eq]; exact Cod.le _ _ h)
def encQ (q : Qry) : D := .agg (cellsP q.pat ++ (cellsG q.glob ++ [enc q.filts, enc q.strat]))
def decQ : D → Option Qry
 | .agg [x0, x1, x2, x3, x4, x5, x6, x7, x8, x9, x10, x11, x12, y0, y1, y2, y3, y4, y5, y6, y7, y8, y9, y10, f, s] => (dec (D.agg [x0, x1, x2, x3, x4, x5, x6, x7, x8, x9, x10, x11, x12])).bind fun p => (dec (D.agg [y0, y1, y2, y3, y4, y5, y6, y7, y8, y9, y10])).bind fun g => (dec f).bind fun fs => (dec s).bind fun st => some ⟨p, g, fs, st⟩
 | _ => none
instance : Cod Qry where
 wd := 26
 enc := encQ
 dec := decQ
 kn _ := rfl
 wid q := by simp [encQ, D.cells, cellsP_len, cellsG]
 dec_enc q := by
  obtain ⟨⟨op, ⟨o, n, a, v, l, f, cks⟩, lb, rg, mn, mx, ks⟩, g, fs, st⟩ := q
  have h1 := Cod.dec_enc (⟨op, ⟨o, n, a, v, l, f, cks⟩, lb, rg, mn, mx, ks⟩ : Pat)
  have h2 := Cod.dec_enc g
  rw [enc_pat] at h1
  rw [enc_Glob] at h2
  simp only [cellsC, List.cons_append, List.nil_append] at h1
  simp only [encQ, cellsP, cellsC, cellsG, List.cons_append, List.nil_append, decQ, h1, h2, Cod.dec_enc, Option.bind_some]
 le d x h := by
  unfold decQ at h
  split at h
  ·simp only [Option.bind_eq_some_iff, Option.some.injEq] at h
   obtain ⟨p, h0, g, h1, fs, h2, st, h3, rfl⟩ := h
   exact LeL.agg ((dec_patL h0).append ((dec_globL h1).append (.cons (Cod.le _ _ h2) (.cons (Cod.le _ _ h3) .nil))))
  ·cases h
@[simp] theorem eta_Qry (s : Qry) : Qry.mk s.pat s.glob s.filts s.strat = s := by cases s; rfl
@[simp] theorem enc_Qry (s : Qry) : enc s = .agg [enc s.pat.op, enc s.pat.cond.op, enc s.pat.cond.name, enc s.pat.cond.arg, enc s.pat.cond.val, enc s.pat.cond.lab, enc s.pat.cond.fold, enc s.pat.cond.kids, enc s.pat.lab, enc s.pat.reg, enc s.pat.mn, enc s.pat.mx, enc s.pat.kids, enc s.glob.op, enc s.glob.a, enc s.glob.b, enc s.glob.name, enc s.glob.arg, enc s.glob.val, enc s.glob.fold, enc s.glob.mn, enc s.glob.mx, enc s.glob.args, enc s.glob.kids, enc s.filts, enc s.strat] := by
 obtain ⟨⟨op, ⟨o, n, a, v, l, f, cks⟩, lb, rg, mn, mx, ks⟩, g, fs, st⟩ := s
 rfl
@[simp] theorem dec_Qry (x0 x1 x2 x3 x4 x5 x6 x7 x8 x9 x10 x11 x12 y0 y1 y2 y3 y4 y5 y6 y7 y8 y9 y10 f s : D) : dec (X := Qry) (.agg [x0, x1, x2, x3, x4, x5, x6, x7, x8, x9, x10, x11, x12, y0, y1, y2, y3, y4, y5, y6, y7, y8, y9, y10, f, s]) = ((dec (D.agg [x0, x1, x2, x3, x4, x5, x6, x7, x8, x9, x10, x11, x12])).bind fun p => (dec (D.agg [y0, y1, y2, y3, y4, y5, y6, y7, y8, y9, y10])).bind fun g => (dec f).bind fun fs => (dec s).bind fun st => some ⟨p, g, fs, st⟩) := id rfl
end Go.Gv

namespace Go.Gv
open Cod (enc dec)
variable {S S0 : Nat → Spc}
end Go.Gv

namespace Go.Gv
open Cod (enc dec)

structure Tok where
 kind : Int
 text : B
 pos : Int
instance : Cod Tok where
 wd := 3
 enc t := .agg [.v (.int .u8 t.kind), enc t.text, enc t.pos]
 dec | .agg [.v (.int .u8 k), x1, x2] => (dec x1).bind fun b => (dec x2).bind fun c => some ⟨k, b, c⟩ | _ => none
 kn _ := rfl
 wid _ := rfl
 dec_enc f := by simp only [Cod.dec_enc, Option.bind_some]
 le d x h := by
  split at h
  ·simp only [Option.bind_eq_some_iff, Option.some.injEq] at h
   obtain ⟨b, h1, c, h2, rfl⟩ := h
   exact LeL.agg (.cons (.same _) (.cons (Cod.le _ _ h1) (.cons (Cod.le _ _ h2) .nil)))
  ·cases h
@[simp] theorem enc_Tok (s : Tok) : enc s = .agg [.v (.int .u8 s.kind), enc s.text, enc s.pos] := id rfl
@[simp] theorem wd_Tok : Cod.wd Tok = 3 := id rfl
structure Pst where
 l : List Tok
 pos : Int
 deep : Int
 e : Int
 fail : Int
@[simp] theorem eta_Pst (s : Pst) : Pst.mk s.l s.pos s.deep s.e s.fail = s := by cases s; rfl
def cePst (s : Pst) : List D := [enc s.l, enc s.pos, enc s.deep, enc s.e, enc s.fail]
@[simp] theorem cePst_eq (s : Pst) : cePst s = [enc s.l, enc s.pos, enc s.deep, enc s.e, enc s.fail] := id rfl

/-! ### What the methods compute -/
def Pst.step (s : Pst) : Pst := { s with pos := s.pos + 1 }
def nowT (s : Pst) : Option Tok := if 0 ≤ s.pos ∧ s.l.length ≤ 1000000 then s.l[s.pos.toNat]? else none
def isF (s : Pst) (k : Int) (t : B) : Option Bool := if s.e ≠ 0 then some false else (nowT s).map fun x => decide (x.kind = k ∧ x.text = t)
def eatF (s : Pst) (t : B) : Option (Pst × Bool) := (isF s 111 t).map fun b => if b then (s.step, true) else (s, false)
def digit1 (n : Int) (c : UInt8) : Int := min (10 * n + ((c.toNat : Int) - 48)) 1000000
def E0 : B := ⟨#[]⟩
section
variable (A : Pst → Option (Pst × Pat))
def oneOr (op : Int) (l : List Pat) : Pat := match l with
 | [x] => x
 | l => ⟨op, Cond0, E0, E0, 0, 0, l⟩
end
end Go.Gv

namespace Go.Gv
def isSp (s : B) (i : Nat) : Bool := match s.data[i]? with
 | some c => decide (c.toNat = 32 ∨ c.toNat = 10)
 | none => false
def isDg (s : B) (i : Nat) : Bool := match s.data[i]? with
 | some c => decide (48 ≤ c.toNat ∧ c.toNat ≤ 57)
 | none => false
def skipN : Nat → B → Nat → Nat
 | 0, _, i => i
 | n + 1, s, i => if isSp s i then skipN n s (i + 1) else i
def skipF (s : B) (i : Nat) : Nat := skipN (s.size - i) s i
def digN : Nat → B → Nat → Nat
 | 0, _, i => i
 | n + 1, s, i => if isDg s i then digN n s (i + 1) else i
def digF (s : B) (i : Nat) : Nat := digN (s.size - i) s i
def signsL : List B := [⟨#[60, 47]⟩, ⟨#[33, 61]⟩, ⟨#[58, 58]⟩, ⟨#[37, 99]⟩, ⟨#[91]⟩, ⟨#[93]⟩, ⟨#[40]⟩, ⟨#[41]⟩, ⟨#[123]⟩, ⟨#[125]⟩, ⟨#[60]⟩, ⟨#[62]⟩, ⟨#[124]⟩, ⟨#[38]⟩, ⟨#[33]⟩, ⟨#[61]⟩, ⟨#[58]⟩, ⟨#[46]⟩, ⟨#[44]⟩, ⟨#[63]⟩, ⟨#[42]⟩, ⟨#[43]⟩, ⟨#[45]⟩]
def preB (s : B) (i : Nat) (x : B) : Bool := decide (i + x.size ≤ s.size ∧ s.extract i (i + x.size) = x)
theorem skipF_step {s : B} {i : Nat} (h : i < s.size) : skipF s i = if isSp s i then skipF s (i + 1) else i := by
 unfold skipF
 rw [show s.size - i = (s.size - (i + 1)) + 1 by omega, skipN]
theorem skipF_end {s : B} {i : Nat} (h : s.size ≤ i) : skipF s i = i := by
 unfold skipF
 rw [show s.size - i = 0 by omega, skipN]
theorem digF_step {s : B} {i : Nat} (h : i < s.size) : digF s i = if isDg s i then digF s (i + 1) else i := by
 unfold digF
 rw [show s.size - i = (s.size - (i + 1)) + 1 by omega, digN]
theorem digF_end {s : B} {i : Nat} (h : s.size ≤ i) : digF s i = i := by
 unfold digF
 rw [show s.size - i = 0 by omega, digN]
end Go.Gv

namespace Go.Gv
open Cod (enc dec)
/-! ### Errors and tokens -/
/-- error: the first one is kept. -/
def errS (s : Pst) (e a : Int) : Pst := if s.e = 0 then { s with e := e, fail := a } else s
def wrongG (s : Pst) : Option Pst := (nowT s).map fun t => errS s 3 t.pos
def nextT (s : Pst) : Option Tok := if 0 ≤ s.pos ∧ s.pos ≤ 1000000 ∧ s.l.length ≤ 1000000 then s.l[(min (s.pos + 1) (s.l.length - 1)).toNat]? else none
def wantG (s : Pst) (k : Int) (t : B) : Option (Pst × B) := (nowT s).bind fun x => if s.e ≠ 0 then some (s, E0) else if x.kind ≠ k ∨ k = 111 ∧ x.text ≠ t then some (errS s 3 x.pos, E0) else some (s.step, x.text)
/-- is the present token of a kind (and no error was met)? -/
def kindG (s : Pst) (k : Int) : Option Bool := if s.e ≠ 0 then some false else (nowT s).map fun x => decide (x.kind = k)
def digitG (n : Int) (c : UInt8) : Int := min (10 * n + ((c.toNat : Int) + 208) % 256) 1000000
def digsB (t : B) : Bool := t.data.toList.all fun c => decide (48 ≤ c.toNat ∧ c.toNat ≤ 57)
/-- (none: what is read as a number is not made of digits) -/
def numberG (s : Pst) (limit a : Int) : Option (Pst × Int) := (wantG s 100 E0).bind fun r =>
 if digsB r.2 = true then some (if limit < r.2.data.toList.foldl digitG 0 then errS r.1 8 a else r.1, r.2.data.toList.foldl digitG 0) else none
def tailG (t : B) : Bool := decide (t = ⟨#[115, 116, 114, 97, 116, 101, 103, 121]⟩ ∨ t = ⟨#[119, 105, 116, 104, 105, 110]⟩ ∨ t = ⟨#[99, 111, 110, 116, 97, 105, 110, 105, 110, 103]⟩ ∨ t = ⟨#[111, 118, 101, 114, 108, 97, 112, 112, 105, 110, 103]⟩)
def beginsG (s : Pst) : Option Bool := (nowT s).bind fun x => if s.e ≠ 0 then some false else
 if x.kind = 110 then (nextT s).map fun n => decide (n.kind = 111 ∧ n.text = ⟨#[58]⟩) || (decide (0 < s.deep) || !tailG x.text)
 else some (decide (x.kind = 115 ∨ x.kind = 111 ∧ (x.text = ⟨#[91]⟩ ∨ x.text = ⟨#[60]⟩ ∨ x.text = ⟨#[60, 47]⟩ ∨ x.text = ⟨#[40]⟩)))
def cOp (op : Int) (l : List Cond) : Cond := match l with
 | [x] => x
 | l => ⟨op, E0, E0, E0, E0, false, l⟩
/-! ### Conditions -/
section
variable (N : Pst → Option (Pst × Cond)) (O : Pst → Option (Pst × Cond))
def andLoopG : Nat → Pst → List Cond → Option (Pst × List Cond)
 | 0, _, _ => none
 | k + 1, s, acc => (eatF s ⟨#[38]⟩).bind fun w => if w.2 then (N w.1).bind fun r => andLoopG k r.1 (acc ++ [r.2]) else some (w.1, acc)
def andG (s : Pst) : Option (Pst × Cond) := (N s).bind fun r => (andLoopG N 500 r.1 [r.2]).map fun q => (q.1, cOp 7 q.2)
def orLoopG : Nat → Pst → List Cond → Option (Pst × List Cond)
 | 0, _, _ => none
 | k + 1, s, acc => (eatF s ⟨#[124]⟩).bind fun w => if w.2 then (andG N w.1).bind fun r => orLoopG k r.1 (acc ++ [r.2]) else some (w.1, acc)
def orG (s : Pst) : Option (Pst × Cond) := (andG N s).bind fun r => (orLoopG N 500 r.1 [r.2]).map fun q => (q.1, cOp 8 q.2)
/-- a value and the sign of folding -/
def valueG (s : Pst) (name : B) : Option (Pst × Cond) := (wantG s 115 E0).bind fun v => (eatF v.1 ⟨#[37, 99]⟩).map fun w => (w.1, ⟨2, name, E0, v.2, E0, w.2, []⟩)
def regionG (s : Pst) : Option (Pst × Cond) := (wantG s 110 E0).bind fun n => (eatF n.1 ⟨#[44]⟩).bind fun c =>
 if c.2 then (wantG c.1 110 E0).bind fun a => (wantG a.1 111 ⟨#[61]⟩).bind fun u => (wantG u.1 115 E0).bind fun v => (wantG v.1 111 ⟨#[41]⟩).map fun z => (z.1, ⟨5, n.2, a.2, v.2, E0, false, []⟩)
 else (wantG c.1 111 ⟨#[41]⟩).map fun z => (z.1, ⟨5, n.2, E0, E0, E0, false, []⟩)
/-- what follows the name of an atom -/
def atomG (s : Pst) (name : B) : Option (Pst × Cond) := (eatF s ⟨#[33, 61]⟩).bind fun w => if w.2 then (valueG w.1 name).map fun v => (v.1, ⟨6, E0, E0, E0, E0, false, [v.2]⟩) else
 (isF w.1 110 ⟨#[99, 111, 110, 116, 97, 105, 110, 115]⟩).bind fun b => if b then (wantG w.1.step 115 E0).map fun v => (v.1, ⟨3, name, E0, v.2, E0, false, []⟩) else
 (wantG w.1 111 ⟨#[61]⟩).bind fun u => (kindG u.1 110).bind fun k => if k then (wantG u.1 110 E0).bind fun l => (wantG l.1 111 ⟨#[46]⟩).bind fun d => (wantG d.1 110 E0).map fun a => (a.1, ⟨4, name, a.2, E0, l.2, false, []⟩)
 else valueG u.1 name
def notG (s : Pst) : Option (Pst × Cond) := (eatF s ⟨#[33]⟩).bind fun w => if w.2 then (N w.1).map fun r => (r.1, ⟨6, E0, E0, E0, E0, false, [r.2]⟩) else
 (eatF w.1 ⟨#[40]⟩).bind fun u => if u.2 then (O u.1).bind fun x => (wantG x.1 111 ⟨#[41]⟩).map fun z => (z.1, x.2) else
 (wantG u.1 110 E0).bind fun n => if n.2 = ⟨#[105, 110]⟩ then (eatF n.1 ⟨#[40]⟩).bind fun v => if v.2 then regionG v.1 else atomG v.1 n.2 else atomG n.1 n.2
end
/-- the condition without parts, or negated, or in parentheses (n: how deep) -/
def notN : Nat → Pst → Option (Pst × Cond)
 | 0 => fun _ => none
 | n + 1 => notG (notN n) (orG (notN n))
/-! ### Patterns -/
section
variable (A : Pst → Option (Pst × Pat)) (O : Pst → Option (Pst × Cond))
/-- a token pattern behind its label -/
def tokenG (s : Pst) (label : B) : Option (Pst × Pat) := (kindG s 115).bind fun k => if k then (valueG s E0).map fun v => (v.1, ⟨1, v.2, label, E0, 0, 0, []⟩) else
 (wantG s 111 ⟨#[91]⟩).bind fun u => (eatF u.1 ⟨#[93]⟩).bind fun w => if w.2 then some (w.1, ⟨1, ⟨1, E0, E0, E0, E0, false, []⟩, label, E0, 0, 0, []⟩) else
 (O w.1).bind fun x => (wantG x.1 111 ⟨#[93]⟩).map fun z => (z.1, ⟨1, x.2, label, E0, 0, 0, []⟩)
def anchorG (s : Pst) (op : Int) : Option (Pst × Pat) := (wantG s 110 E0).bind fun n => (wantG n.1 111 ⟨#[62]⟩).map fun z => (z.1, ⟨op, Cond0, E0, n.2, 0, 0, []⟩)
def itemG (s : Pst) : Option (Pst × Pat) :=
 (eatF s ⟨#[40]⟩).bind fun r =>
   if r.2 then (if 0 ≤ r.1.deep ∧ r.1.deep ≤ 1000 then (A { r.1 with deep := r.1.deep + 1 }).bind fun q => if 0 ≤ q.1.deep ∧ q.1.deep ≤ 1000000 then (wantG { q.1 with deep := q.1.deep - 1 } 111 ⟨#[41]⟩).map fun w => (w.1, q.2) else none else none)
   else (eatF r.1 ⟨#[60]⟩).bind fun b => if b.2 then anchorG b.1 2 else (eatF b.1 ⟨#[60, 47]⟩).bind fun c => if c.2 then anchorG c.1 3 else
   (kindG c.1 110).bind fun k => if k then (wantG c.1 110 E0).bind fun n => (wantG n.1 111 ⟨#[58]⟩).bind fun u => tokenG O u.1 n.2 else tokenG O c.1 E0
/-- a suffix, if there is one -/
def sufG (s : Pst) (a : Int) : Option (Pst × Option (Int × Int)) := (eatF s ⟨#[63]⟩).bind fun w => if w.2 then some (w.1, some (0, 1)) else
 (eatF w.1 ⟨#[42]⟩).bind fun w => if w.2 then some (w.1, some (0, -1)) else
 (eatF w.1 ⟨#[43]⟩).bind fun w => if w.2 then some (w.1, some (1, -1)) else
 (eatF w.1 ⟨#[123]⟩).bind fun w => if w.2 then
   (numberG w.1 16 a).bind fun lo => (eatF lo.1 ⟨#[44]⟩).bind fun c =>
     if c.2 then (kindG c.1 100).bind fun k => if k then (numberG c.1 16 a).bind fun hi => (wantG (if hi.2 < lo.2 then errS hi.1 8 a else hi.1) 111 ⟨#[125]⟩).map fun z => (z.1, some (lo.2, hi.2))
      else (wantG c.1 111 ⟨#[125]⟩).map fun z => (z.1, some (lo.2, -1))
     else (wantG c.1 111 ⟨#[125]⟩).map fun z => (z.1, some (lo.2, lo.2))
 else some (w.1, none)
def repLoopG : Nat → Pst → Pat → Option (Pst × Pat)
 | 0, _, _ => none
 | k + 1, s, x => if s.e ≠ 0 then some (s, x) else (nowT s).bind fun t => (sufG s t.pos).bind fun r => match r.2 with
   | none => some (r.1, x)
   | some m => repLoopG k r.1 ⟨6, Cond0, E0, E0, m.1, m.2, [x]⟩
def repG (s : Pst) : Option (Pst × Pat) := (itemG A O s).bind fun r => repLoopG 500 r.1 r.2
def seqLoopG : Nat → Pst → List Pat → Option (Pst × List Pat)
 | 0, _, _ => none
 | k + 1, s, acc => (beginsG s).bind fun b => if b then (repG A O s).bind fun r => seqLoopG k r.1 (acc ++ [r.2]) else some (s, acc)
def seqG (s : Pst) : Option (Pst × Pat) := (repG A O s).bind fun r => (seqLoopG A O 500 r.1 [r.2]).map fun q => (q.1, oneOr 4 q.2)
def altLoopG : Nat → Pst → List Pat → Option (Pst × List Pat)
 | 0, _, _ => none
 | k + 1, s, acc => (eatF s ⟨#[124]⟩).bind fun w => if w.2 then (seqG A O w.1).bind fun r => altLoopG k r.1 (acc ++ [r.2]) else some (w.1, acc)
def altG (s : Pst) : Option (Pst × Pat) := (seqG A O s).bind fun r => (altLoopG A O 500 r.1 [r.2]).map fun q => (q.1, oneOr 5 q.2)
end
/-- alternatives (n: how deep) -/
def altN : Nat → Pst → Option (Pst × Pat)
 | 0 => fun _ => none
 | n + 1 => altG (altN n) (orG (notN (n + 1)))
/-! ### Constraints -/
def gOp (op : Int) (l : List Glob) : Glob := match l with
 | [x] => x
 | l => ⟨op, E0, E0, E0, E0, E0, false, 0, 0, [], l⟩
section
variable (N : Pst → Option (Pst × Glob)) (O : Pst → Option (Pst × Glob))
def gandLoopG : Nat → Pst → List Glob → Option (Pst × List Glob)
 | 0, _, _ => none
 | k + 1, s, acc => (eatF s ⟨#[38]⟩).bind fun w => if w.2 then (N w.1).bind fun r => gandLoopG k r.1 (acc ++ [r.2]) else some (w.1, acc)
def gandG (s : Pst) : Option (Pst × Glob) := (N s).bind fun r => (gandLoopG N 500 r.1 [r.2]).map fun q => (q.1, gOp 12 q.2)
def gorLoopG : Nat → Pst → List Glob → Option (Pst × List Glob)
 | 0, _, _ => none
 | k + 1, s, acc => (eatF s ⟨#[124]⟩).bind fun w => if w.2 then (gandG N w.1).bind fun r => gorLoopG k r.1 (acc ++ [r.2]) else some (w.1, acc)
def gorG (s : Pst) : Option (Pst × Glob) := (gandG N s).bind fun r => (gorLoopG N 500 r.1 [r.2]).map fun q => (q.1, gOp 13 q.2)
def bigG (s : Pst) : Option (Pst × Int) := (nowT s).bind fun t => numberG s 100000 t.pos
def signedG (s : Pst) : Option (Pst × Int) := (eatF s ⟨#[45]⟩).bind fun w => (bigG w.1).map fun n => (n.1, if w.2 then -n.2 else n.2)
def argsLoopG : Nat → Pst → List B → Option (Pst × List B)
 | 0, _, _ => none
 | k + 1, s, acc => (eatF s ⟨#[44]⟩).bind fun w => if w.2 then (wantG w.1 115 E0).bind fun r => argsLoopG k r.1 (acc ++ [r.2]) else some (w.1, acc)
/-- the arguments of a function, behind the first ones -/
def restG (s : Pst) (op : Int) (a b : B) : Option (Pst × Glob) :=
 if op = 4 then (wantG s 111 ⟨#[44]⟩).bind fun u => (signedG u.1).bind fun lo => (wantG lo.1 111 ⟨#[44]⟩).bind fun v => (signedG v.1).map fun hi => (hi.1, ⟨op, a, b, E0, E0, E0, false, lo.2, hi.2, [], []⟩)
 else if op = 10 then (wantG s 111 ⟨#[44]⟩).bind fun u => (bigG u.1).bind fun lo => (wantG lo.1 111 ⟨#[44]⟩).bind fun v => (bigG v.1).map fun hi => (hi.1, ⟨op, a, b, E0, E0, E0, false, lo.2, hi.2, [], []⟩)
 else if op = 5 ∨ op = 9 then (wantG s 111 ⟨#[44]⟩).bind fun u => (wantG u.1 110 E0).map fun n => (n.1, ⟨op, a, b, n.2, E0, E0, false, 0, 0, [], []⟩)
 else if op = 8 then (argsLoopG 500 s []).map fun l => (l.1, ⟨op, a, b, E0, E0, E0, false, 0, 0, l.2, []⟩)
 else some (s, ⟨op, a, b, E0, E0, E0, false, 0, 0, [], []⟩)
def callG (s : Pst) (op : Int) : Option (Pst × Glob) := (wantG s 110 E0).bind fun a =>
 if op ≠ 1 ∧ op ≠ 10 then (wantG a.1 111 ⟨#[44]⟩).bind fun u => (wantG u.1 110 E0).bind fun b => (restG b.1 op a.2 b.2).bind fun x => (wantG x.1 111 ⟨#[41]⟩).map fun z => (z.1, x.2)
 else (restG a.1 op a.2 E0).bind fun x => (wantG x.1 111 ⟨#[41]⟩).map fun z => (z.1, x.2)
def funcsL : List (B × Int) := [(⟨#[98, 111, 117, 110, 100]⟩, 1), (⟨#[100, 105, 115, 116, 97, 110, 99, 101]⟩, 4), (⟨#[115, 97, 109, 101]⟩, 5), (⟨#[104, 101, 97, 100]⟩, 6), (⟨#[97, 110, 99, 101, 115, 116, 111, 114]⟩, 7), (⟨#[112, 97, 116, 104]⟩, 8), (⟨#[110, 111, 100, 101]⟩, 9), (⟨#[100, 101, 112, 116, 104]⟩, 10)]
def funcOp (name : B) : Int := match funcsL.find? fun p => decide (p.1 = name) with
 | some p => p.2
 | none => 0
/-- what follows the name of an atom -/
def gatomG (s : Pst) (name : B) : Option (Pst × Glob) := (wantG s 111 ⟨#[46]⟩).bind fun d => (wantG d.1 110 E0).bind fun n => (wantG n.1 111 ⟨#[61]⟩).bind fun u => (kindG u.1 110).bind fun k =>
 if k then (wantG u.1 110 E0).bind fun b => (wantG b.1 111 ⟨#[46]⟩).bind fun v => (wantG v.1 110 E0).map fun g => (g.1, ⟨3, name, b.2, n.2, g.2, E0, false, 0, 0, [], []⟩)
 else (wantG u.1 115 E0).bind fun v => (eatF v.1 ⟨#[37, 99]⟩).map fun f => (f.1, ⟨2, name, E0, n.2, E0, v.2, f.2, 0, 0, [], []⟩)
def gnotG (s : Pst) : Option (Pst × Glob) := (eatF s ⟨#[33]⟩).bind fun w => if w.2 then (N w.1).map fun r => (r.1, ⟨11, E0, E0, E0, E0, E0, false, 0, 0, [], [r.2]⟩) else
 (eatF w.1 ⟨#[40]⟩).bind fun u => if u.2 then (O u.1).bind fun x => (wantG x.1 111 ⟨#[41]⟩).map fun z => (z.1, x.2) else
 (wantG u.1 110 E0).bind fun n => if 0 < funcOp n.2 then (eatF n.1 ⟨#[40]⟩).bind fun v => if v.2 then callG v.1 (funcOp n.2) else gatomG v.1 n.2 else gatomG n.1 n.2
end
def gnotN : Nat → Pst → Option (Pst × Glob)
 | 0 => fun _ => none
 | n + 1 => gnotG (gnotN n) (gorG (gnotN n))
/-! ### Queries -/
def filterL : List B := [E0, ⟨#[119, 105, 116, 104, 105, 110]⟩, ⟨#[99, 111, 110, 116, 97, 105, 110, 105, 110, 103]⟩, ⟨#[111, 118, 101, 114, 108, 97, 112, 112, 105, 110, 103]⟩]
def strategyL : List B := [⟨#[101, 97, 99, 104]⟩, ⟨#[115, 104, 111, 114, 116, 101, 115, 116]⟩, ⟨#[108, 111, 110, 103, 101, 115, 116]⟩, ⟨#[116, 114, 97, 100, 105, 116, 105, 111, 110, 97, 108]⟩]
/-- the first of some words that the present name is, from an index on; -1: none -/
def wordG (s : Pst) : List B → Int → Option Int
 | [], _ => some (-1)
 | w :: l, i => (isF s 110 w).bind fun b => if b then some i else wordG s l (i + 1)
def filtLoopG : Nat → Pst → List Filt → Option (Pst × List Filt)
 | 0, _, _ => none
 | k + 1, s, acc => if s.e ≠ 0 then some (s, acc) else (eatF s ⟨#[33]⟩).bind fun w => (wordG w.1 (filterL.drop 1) 1).bind fun op =>
   if op = -1 then (if w.2 then (wrongG w.1).map fun z => (z, acc) else some (w.1, acc))
   else (wantG w.1.step 110 E0).bind fun n => filtLoopG k n.1 (acc ++ [⟨op, w.2, n.2⟩])
def stratG (s : Pst) : Option (Pst × Int) := (isF s 110 ⟨#[115, 116, 114, 97, 116, 101, 103, 121]⟩).bind fun b => if b then (wordG s.step strategyL 0).bind fun k => if k = -1 then (wrongG s.step).map fun z => (z, -1) else some (s.step.step, k) else some (s, 0)
def queryG (l : List Tok) : Option (Pst × Qry) := (altN 500 ⟨l, 0, 0, 0, 0⟩).bind fun p => (eatF p.1 ⟨#[58, 58]⟩).bind fun c =>
 (if c.2 then gorG (gnotN 500) c.1 else some (c.1, ⟨0, E0, E0, E0, E0, E0, false, 0, 0, [], []⟩)).bind fun g => (filtLoopG 500 g.1 []).bind fun f => (stratG f.1).bind fun z =>
 (kindG z.1 101).bind fun b => if b ∨ z.1.e ≠ 0 then some (z.1, ⟨p.2, g.2, f.2, z.2⟩) else (wrongG z.1).map fun w => (w, ⟨p.2, g.2, f.2, z.2⟩)
end Go.Gv

namespace Go.Gv
def letB (c : Nat) : Bool := decide (65 ≤ c ∧ c ≤ 90 ∨ 97 ≤ c ∧ c ≤ 122 ∨ c = 95)
/-- a letter, a digit or '-' -/
def isNm (s : B) (i : Nat) : Bool := match s.data[i]? with
 | some c => letB c.toNat || decide (48 ≤ c.toNat ∧ c.toNat ≤ 57 ∨ c.toNat = 45)
 | none => false
def namN : Nat → B → Nat → Nat
 | 0, _, i => i
 | n + 1, s, i => if isNm s i then namN n s (i + 1) else i
def namF (s : B) (i : Nat) : Nat := namN (s.size - i) s i
/-- what stands in quotes from j on, and where the closing one stands (none: it is not closed) -/
def quoNG : Nat → B → Nat → B → Option (Nat × B)
 | 0, _, _, _ => none
 | n + 1, s, j, v => match s.data[j]? with
   | none => none
   | some c => if c.toNat = 34 then (match s.data[j + 1]? with
      | some d => if d.toNat = 34 then quoNG n s (j + 2) (v ++ s.extract (j + 1) (j + 2)) else some (j, v)
      | none => some (j, v)) else quoNG n s (j + 1) (v ++ s.extract j (j + 1))
def quoG (s : B) (j : Nat) (v : B) : Option (Nat × B) := quoNG (s.size - j) s j v
/-- the token at i (i is within), and where it ends; none: the token is bad -/
def tokG (s : B) (i : Nat) : Option (Nat × Tok) := match s.data[i]? with
 | none => none
 | some c =>
   if letB c.toNat then some (namF s i, ⟨110, s.extract i (namF s i), i⟩)
   else if 48 ≤ c.toNat ∧ c.toNat ≤ 57 then some (digF s i, ⟨100, s.extract i (digF s i), i⟩)
   else if c.toNat = 34 then (quoG s (i + 1) ⟨#[]⟩).map fun r => (r.1 + 1, ⟨115, r.2, i⟩)
   else (signsL.find? (preB s i)).map fun x => (i + x.size, ⟨111, s.extract i (i + x.size), i⟩)
def scanNG : Nat → B → Nat → List Tok → Option (List Tok)
 | 0, _, _, _ => none
 | k + 1, s, i, out => if skipF s i = s.size then some (out ++ [⟨101, E0, s.size⟩]) else match tokG s (skipF s i) with
   | none => some (out ++ [⟨120, E0, skipF s i⟩])
   | some r => if r.1 ≤ s.size ∧ skipF s i < r.1 then scanNG k s r.1 (out ++ [r.2]) else none
def scanG (s : B) : Option (List Tok) := scanNG (s.size + 1) s 0 []
def qryZ : Qry := ⟨⟨0, Cond0, E0, E0, 0, 0, []⟩, ⟨0, E0, E0, E0, E0, E0, false, 0, 0, [], []⟩, [], 0⟩
/-- Parse: the query, the offset, the error. -/
def parseG (s : B) : Option (Qry × Int × Int) := if 400 < s.size then some (qryZ, 0, 2) else
 (scanG s).bind fun l => (queryG l).map fun r => if r.1.e ≠ 0 then (qryZ, r.1.fail, r.1.e) else (r.2, 0, 0)
end Go.Gv

namespace Go.Gv
open Go.Proofs
def cc_query_shallow : CC := oX [oB 2 (.box ty_Pattern true (oT 0)),oB 3 (.box ty_int true (oT 1)),oB 4 (.mv (.const ob))] [2,3] [] (oX [oC 5 1 3,oB 6 (.cmp .leq (oT 5) (oN 100)),oA 7 6,oH 8 7 (.faddr 12 (oT 2)),oH 9 7 (.load false 1 (oT 8)),oH 10 7 (.clo f_query_shallow_1 [oT 3]),oH 11 7 (.call f_slices_ContainsFunc_Pattern [oT 9,oT 10]),oH 12 7 (.not (oT 11)),
 oB 13 (.pick (oT 7) (oT 12) (.const ob)),oA 4 13] [4] [] (.ret))
def rs_query_shallow : List CRes := [.tmp 4]
def im_query_shallow : List Nat := [3, 2]
theorem ok_query_shallow : FnOk Tryz.prog f_query_shallow im_query_shallow cc_query_shallow rs_query_shallow 14 := fnOk1 mixed (by kernel_rfl)
def cc_query_shallow_1 : CC := oX [oB 2 (.box ty_Pattern true (oT 0)),oB 3 (.mv (.const ob))] [1,2] [] (oX [oD 4 13 2,oC 5 1 1,oB 6 (.arith .add (oT 5) (oN 1)),oZ 7 f_query_shallow [oT 4,oT 6],oB 8 (.not (oT 7)),oA 3 8] [3] [] (.ret))
def rs_query_shallow_1 : List CRes := [.tmp 3]
def im_query_shallow_1 : List Nat := [2]
theorem ok_query_shallow_1 : FnOk Tryz.prog f_query_shallow_1 im_query_shallow_1 cc_query_shallow_1 rs_query_shallow_1 9 := fnOk1 mixed (by kernel_rfl)
def cc_query_zero : CC := oX [oB 1 (.box ty_Cond true (oT 0)),oB 2 (.mv (.const ob))] [1] [] (oX [oE 3 0 1,oC 4 1 3,oB 5 (.eql false false [.int] (oT 4) (oN 0)),oA 6 5,oH 7 6 (.faddr 1 (oT 1)),oH 8 6 (.load false 1 (oT 7)),oH 9 6 (.eql false false [.str] (oT 8) (oS ⟨#[]⟩)),oB 10 (.pick (oT 6) (oT 9) (.const ob)),oA 11 10,oH 12 11 (.faddr 2 (oT 1)),oH 13 11 (.load false 1 (oT 12)),
 oH 14 11 (.eql false false [.str] (oT 13) (oS ⟨#[]⟩)),oB 15 (.pick (oT 11) (oT 14) (.const ob)),oA 16 15,oH 17 16 (.faddr 3 (oT 1)),oH 18 16 (.load false 1 (oT 17)),oH 19 16 (.eql false false [.str] (oT 18) (oS ⟨#[]⟩)),oB 20 (.pick (oT 16) (oT 19) (.const ob)),oA 21 20,oH 22 21 (.faddr 4 (oT 1)),oH 23 21 (.load false 1 (oT 22)),oH 24 21 (.eql false false [.str] (oT 23) (oS ⟨#[]⟩)),
 oB 25 (.pick (oT 21) (oT 24) (.const ob)),oA 26 25,oH 27 26 (.faddr 5 (oT 1)),oH 28 26 (.load false 1 (oT 27)),oH 29 26 (.not (oT 28)),oB 30 (.pick (oT 26) (oT 29) (.const ob)),oA 31 30,oH 32 31 (.faddr 6 (oT 1)),oH 33 31 (.load false 1 (oT 32)),oH 34 31 (.len (oT 33)),oH 35 31 (.eql false false [.int] (oT 34) (oN 0)),oB 36 (.pick (oT 31) (oT 35) (.const ob)),oA 2 36] [2] [] (.ret))
def rs_query_zero : List CRes := [.tmp 2]
def im_query_zero : List Nat := [1]
theorem ok_query_zero : FnOk Tryz.prog f_query_zero im_query_zero cc_query_zero rs_query_zero 37 := fnOk1 mixed (by kernel_rfl)
def cc_query_node : CC := oX [oB 1 (.box ty_Pattern true (oT 0)),oB 2 (.mv (.const ob))] [1] [] (oX [oB 3 (.mv (.const ob)),oB 4 (.mv (.const ob)),oB 5 (.mv (.const ob))] [1,3,4,5] [] (oX [oB 6 (.mv (oN 0)),oB 7 (.mv (oN 0))] [1,3,4,5,6,7] [] (.seq (oX [oE 8 0 1,oC 9 1 8] [1,3,4,5,6,7,9] [] (.block 0 (oX [oB 11 (.eql false false [.int] (oT 9) (oN 1)),
 oA 10 11] [1,3,4,5,6,7,9,10] [] (.ite (oT 10) (.reg [oB 3 (.mv (.const (.bool true)))]) (.seq (oX [oB 13 (.eql false false [.int] (oT 9) (oN 2)),oA 12 13] [1,3,4,5,6,7,9,12] [] (.ite (oT 12) (.skip) (.reg [oB 14 (.eql false false [.int] (oT 9) (oN 3)),oA 12 14]))) (.keep [1,3,4,5,6,7,9,12] [] (.ite (oT 12) (.reg [oB 4 (.mv (.const (.bool true)))]) (.seq (oX [
 oB 16 (.eql false false [.int] (oT 9) (oN 4)),oA 15 16] [1,3,4,5,9,15] [] (.ite (oT 15) (.skip) (.reg [oB 17 (.eql false false [.int] (oT 9) (oN 5)),oA 15 17]))) (.keep [1,3,4,5,9,15] [] (.ite (oT 15) (.regd [oE 18 12 1,oC 19 1 18,oB 20 (.len (oT 19)),oB 6 (.mv (oN 2))] [oA 7 20]) (oX [oB 22 (.eql false false [.int] (oT 9) (oN 6)),oA 21 22] [1,3,4,21] [] (.ite (oT 21) (oX [
 oB 5 (.mv (.const (.bool true)))] [1,3,4,5] [] (.reg [oB 6 (.mv (oN 1)),oB 7 (.mv (oN 1))])) (oX [oB 2 (.mv (.const ob))] [2] [] (.ret)))))))))))))) (.keep [1,3,4,5,6,7] [] (oX [oA 23 3,oA 24 23,oI 25 24 (.faddr 1 (oT 1)),oI 26 24 (.load true 7 (oT 25)),oI 27 24 (.call f_query_zero [oT 26]),oI 28 24 (.mv (oT 27)),oH 29 28 (.faddr 8 (oT 1)),oH 30 28 (.load false 1 (oT 29)),
 oH 31 28 (.eql false false [.str] (oT 30) (oS ⟨#[]⟩)),oI 32 24 (.pick (oT 28) (oT 31) (.const ob)),oB 33 (.pick (oT 24) (.const (.bool true)) (oT 32)),oA 34 33,oH 35 34 (.mv (oT 4)),oH 36 34 (.mv (oT 35)),oI 37 36 (.faddr 9 (oT 1)),oI 38 36 (.load false 1 (oT 37)),oI 39 36 (.eql false false [.str] (oT 38) (oS ⟨#[]⟩)),oH 40 34 (.pick (oT 36) (.const (.bool true)) (oT 39)),
 oB 41 (.pick (oT 34) (oT 40) (.const ob)),oA 42 41,oH 43 42 (.mv (oT 5)),oH 44 42 (.mv (oT 43)),oI 45 44 (.faddr 10 (oT 1)),oI 46 44 (.load false 1 (oT 45)),oI 47 44 (.eql false false [.int] (oT 46) (oN 0)),oI 48 44 (.mv (oT 47)),oH 49 48 (.faddr 11 (oT 1)),oH 50 48 (.load false 1 (oT 49)),oH 51 48 (.eql false false [.int] (oT 50) (oN 0)),oI 52 44 (.pick (oT 48) (oT 51) (.const ob)),
 oH 53 42 (.pick (oT 44) (.const (.bool true)) (oT 52)),oB 54 (.pick (oT 42) (oT 53) (.const ob)),oA 55 54,oH 56 55 (.faddr 12 (oT 1)),oH 57 55 (.load false 1 (oT 56)),oH 58 55 (.len (oT 57)),oH 59 55 (.mv (oT 6)),oH 60 55 (.cmp .geq (oT 58) (oT 59)),oB 61 (.pick (oT 55) (oT 60) (.const ob)),oA 62 61,oH 63 62 (.faddr 12 (oT 1)),oH 64 62 (.load false 1 (oT 63)),oH 65 62 (.len (oT 64)),
 oH 66 62 (.mv (oT 7)),oH 67 62 (.cmp .leq (oT 65) (oT 66)),oB 68 (.pick (oT 62) (oT 67) (.const ob)),oA 2 68] [2] [] (.ret))))))
def rs_query_node : List CRes := [.tmp 2]
def im_query_node : List Nat := [1]
theorem ok_query_node : FnOk Tryz.prog f_query_node im_query_node cc_query_node rs_query_node 69 := fnOk1 mixed (by kernel_rfl)
def cc_query_every : CC := oX [oB 2 (.box ty_Pattern true (oT 0)),oB 3 (.box ty_func_Pattern_bool true (oT 1)),oB 4 (.mv (.const ob))] [2,3] [] (oX [oC 5 1 3,oD 6 13 2,oB 7 (.callv (oT 5) [oT 6]),oA 8 7,oH 9 8 (.faddr 12 (oT 2)),oH 10 8 (.load false 1 (oT 9)),oH 11 8 (.clo f_query_every_1 [oT 3]),oH 12 8 (.call f_slices_ContainsFunc_Pattern [oT 10,oT 11]),oH 13 8 (.not (oT 12)),
 oB 14 (.pick (oT 8) (oT 13) (.const ob)),oA 4 14] [4] [] (.ret))
def rs_query_every : List CRes := [.tmp 4]
def im_query_every : List Nat := [3, 2]
theorem ok_query_every : FnOk Tryz.prog f_query_every im_query_every cc_query_every rs_query_every 15 := fnOk1 mixed (by kernel_rfl)
def cc_query_every_1 : CC := oX [oB 2 (.box ty_Pattern true (oT 0)),oB 3 (.mv (.const ob))] [1,2] [] (oX [oD 4 13 2,oC 5 1 1,oZ 6 f_query_every [oT 4,oT 5],oB 7 (.not (oT 6)),oA 3 7] [3] [] (.ret))
def rs_query_every_1 : List CRes := [.tmp 3]
def im_query_every_1 : List Nat := [2]
theorem ok_query_every_1 : FnOk Tryz.prog f_query_every_1 im_query_every_1 cc_query_every_1 rs_query_every_1 8 := fnOk1 mixed (by kernel_rfl)
def cc_query_named : CC := oX [oB 1 (.box ty_Pattern true (oT 0)),oB 2 (.mv (.const ob))] [1] [] (oX [oE 4 0 1,oC 5 1 4,oB 6 (.eql false false [.int] (oT 5) (oN 2)),oA 7 6,oI 8 7 (.faddr 0 (oT 1)),oI 9 7 (.load false 1 (oT 8)),oI 10 7 (.eql false false [.int] (oT 9) (oN 3)),oB 11 (.pick (oT 7) (.const (.bool true)) (oT 10)),oA 3 11] [1,3] [] (oX [oA 12 3,oB 13 (.not (oT 12)),
 oA 14 13,oI 15 14 (.faddr 9 (oT 1)),oI 16 14 (.load false 1 (oT 15)),oI 17 14 (.call f_markup_ValidName [oT 16]),oB 18 (.pick (oT 14) (.const (.bool true)) (oT 17)),oA 19 18,oH 20 19 (.faddr 8 (oT 1)),oH 21 19 (.load false 1 (oT 20)),oH 22 19 (.eql false false [.str] (oT 21) (oS ⟨#[]⟩)),oH 23 19 (.mv (oT 22)),oI 24 23 (.faddr 8 (oT 1)),oI 25 23 (.load false 1 (oT 24)),
 oI 26 23 (.call f_markup_ValidName [oT 25]),oH 27 19 (.pick (oT 23) (.const (.bool true)) (oT 26)),oB 28 (.pick (oT 19) (oT 27) (.const ob)),oA 2 28] [2] [] (.ret)))
def rs_query_named : List CRes := [.tmp 2]
def im_query_named : List Nat := [1]
theorem ok_query_named : FnOk Tryz.prog f_query_named im_query_named cc_query_named rs_query_named 29 := fnOk1 mixed (by kernel_rfl)
def cc_query_ranged : CC := oX [oB 1 (.box ty_Pattern true (oT 0)),oB 2 (.mv (.const ob))] [1] [] (oX [oE 3 0 1,oC 4 1 3,oB 5 (.eql true false [.int] (oT 4) (oN 6)),oA 6 5,oI 7 6 (.faddr 10 (oT 1)),oI 8 6 (.load false 1 (oT 7)),oI 9 6 (.cmp .geq (oT 8) (oN 0)),oI 10 6 (.mv (oT 9)),oH 11 10 (.faddr 10 (oT 1)),oH 12 10 (.load false 1 (oT 11)),oH 13 10 (.cmp .leq (oT 12) (oN 16)),
 oI 14 6 (.pick (oT 10) (oT 13) (.const ob)),oI 15 6 (.mv (oT 14)),oH 16 15 (.faddr 11 (oT 1)),oH 17 15 (.load false 1 (oT 16)),oH 18 15 (.eql false false [.int] (oT 17) (oN (-1))),oH 19 15 (.mv (oT 18)),oI 20 19 (.faddr 11 (oT 1)),oI 21 19 (.load false 1 (oT 20)),oI 22 19 (.faddr 10 (oT 1)),oI 23 19 (.load false 1 (oT 22)),oI 24 19 (.cmp .geq (oT 21) (oT 23)),oI 25 19 (.mv (oT 24)),
 oH 26 25 (.faddr 11 (oT 1)),oH 27 25 (.load false 1 (oT 26)),oH 28 25 (.cmp .leq (oT 27) (oN 16)),oI 29 19 (.pick (oT 25) (oT 28) (.const ob)),oH 30 15 (.pick (oT 19) (.const (.bool true)) (oT 29)),oI 31 6 (.pick (oT 15) (oT 30) (.const ob)),oB 32 (.pick (oT 6) (.const (.bool true)) (oT 31)),oA 2 32] [2] [] (.ret))
def rs_query_ranged : List CRes := [.tmp 2]
def im_query_ranged : List Nat := [1]
theorem ok_query_ranged : FnOk Tryz.prog f_query_ranged im_query_ranged cc_query_ranged rs_query_ranged 33 := fnOk1 mixed (by kernel_rfl)
def cc_query_Shape : CC := oX [oB 1 (.box ty_Pattern true (oT 0)),oB 2 (.mv (.const ob))] [1] [] (oX [oD 3 13 1,oZ 4 f_query_shallow [oT 3,oN 1],oA 5 4,oH 6 5 (.load true 13 (oT 1)),oH 7 5 (.call f_query_every [oT 6,.func f_query_node]),oB 8 (.pick (oT 5) (oT 7) (.const ob)),oA 2 8] [2] [] (.ret))
def rs_query_Shape : List CRes := [.tmp 2]
def im_query_Shape : List Nat := [1]
theorem ok_query_Shape : FnOk Tryz.prog f_query_Shape im_query_Shape cc_query_Shape rs_query_Shape 9 := fnOk1 mixed (by kernel_rfl)
def cc_query_right : CC := oX [oB 1 (.box ty_Pattern true (oT 0)),oB 2 (.mv (.const ob))] [1] [] (oX [oD 3 13 1,oZ 4 f_query_Shape [oT 3],oA 5 4,oH 6 5 (.load true 13 (oT 1)),oH 7 5 (.call f_query_every [oT 6,.func f_query_named]),oB 8 (.pick (oT 5) (oT 7) (.const ob)),oA 9 8,oH 10 9 (.load true 13 (oT 1)),oH 11 9 (.call f_query_every [oT 10,.func f_query_ranged]),
 oB 12 (.pick (oT 9) (oT 11) (.const ob)),oA 2 12] [2] [] (.ret))
def rs_query_right : List CRes := [.tmp 2]
def im_query_right : List Nat := [1]
theorem ok_query_right : FnOk Tryz.prog f_query_right im_query_right cc_query_right rs_query_right 13 := fnOk1 mixed (by kernel_rfl)
-- query_size range i=9 n=8 c=10 i2=18 id=0: live [1:p, 3:n, 7:] changed [3] res []
def cc_query_size : CC := oX [oB 1 (.box ty_Pattern true (oT 0)),oB 2 (.mv (oN 0))] [1] [] (oX [oB 3 (.mv (oN 0))] [1,3] [] (.seq (oX [oE 6 12 1,oC 7 1 6,oB 8 (.len (oT 7)),oB 9 (.mv (oN 0))] [1,3,7,8,9] [] (rangeCC 0 9 8 10 1 (oX [oB 11 (.iaddr 13 (oT 7) (oT 9)),oD 12 13 11,oB 5 (.alloc ty_Pattern [oi,oi,oe,oe,oe,oe,ob,on,oe,oe,oi,oi,on]),oF 13 5 12] [1,3,5,7,8,9] [5] (.reg [oA 13 3,
 oD 14 13 5,oZ 15 f_query_size [oT 14],oB 16 (.arith .add (oT 13) (oT 15)),oB 17 (.mm false [oT 16,oN 1000]),oA 3 17])) 18)) (.keep [1,3] [] (.seq (.block 2 (oX [oE 20 12 1,oC 21 1 20,oB 22 (.len (oT 21)),oB 23 (.eql false false [.int] (oT 22) (oN 0)),oA 19 23] [1,3,19] [] (.ite (oT 19) (oX [oB 2 (.mv (oN 1))] [2] [] (.ret)) (oX [oE 25 0 1,oC 26 1 25,
 oB 27 (.eql true false [.int] (oT 26) (oN 6)),oA 28 27,oI 29 28 (.faddr 11 (oT 1)),oI 30 28 (.load false 1 (oT 29)),oI 31 28 (.eql false false [.int] (oT 30) (oN 0)),oB 32 (.pick (oT 28) (.const (.bool true)) (oT 31)),oA 24 32] [1,3,24] [] (.ite (oT 24) (oX [oA 33 3,oA 2 33] [2] [] (.ret)) (oX [oE 35 11 1,oC 36 1 35,oB 37 (.cmp .lss (oT 36) (oN 0)),
 oA 34 37] [1,3,34] [] (.ite (oT 34) (oX [oA 38 3,oE 39 10 1,oC 40 1 39,oB 41 (.arith .add (oT 40) (oN 1)),oB 42 (.arith .mul (oT 38) (oT 41)),oB 43 (.mm false [oT 42,oN 1000]),oA 2 43] [2] [] (.ret)) (.skip)))))))) (.keep [1,3] [] (oX [oA 44 3,oE 45 11 1,oC 46 1 45,oB 47 (.arith .mul (oT 44) (oT 46)),oB 48 (.mm false [oT 47,oN 1000]),oA 2 48] [2] [] (.ret)))))))
def rs_query_size : List CRes := [.tmp 2]
def im_query_size : List Nat := [1]
theorem ok_query_size : FnOk Tryz.prog f_query_size im_query_size cc_query_size rs_query_size 49 := fnOk1 mixed (by kernel_rfl)
def cc_query_Size : CC := oX [oB 1 (.box ty_Pattern true (oT 0)),oB 2 (.mv (oN 0))] [1] [] (.seq (oX [oD 3 13 1,oZ 4 f_query_right [oT 3],oB 5 (.not (oT 4))] [1,5] [] (.ite (oT 5) (oX [oB 2 (.mv (oN 0))] [2] [] (.ret)) (.skip))) (.keep [1] [] (oX [oD 6 13 1,oZ 7 f_query_size [oT 6],oA 2 7] [2] [] (.ret))))
def rs_query_Size : List CRes := [.tmp 2]
def im_query_Size : List Nat := [1]
theorem ok_query_Size : FnOk Tryz.prog f_query_Size im_query_Size cc_query_Size rs_query_Size 8 := fnOk1 mixed (by kernel_rfl)
-- query_width range i=71 n=70 c=72 i2=104 id=2: live [1:p, 6:lo, 7:hi, 69:] changed [6, 7] res []
-- markup_ValidName range i=20 n=19 c=21 i2=28 id=0: live [0:s] changed [] res []
def cc_markup_ValidName : CC := oX [oB 2 (.mv (.const ob))] [0] [] (.seq (oX [oA 4 0,oB 5 (.slen (oT 4)),oB 6 (.cmp .lss (oT 5) (oN 1)),oA 7 6,oI 8 7 (.mv (oT 0)),oI 9 7 (.slen (oT 8)),oI 10 7 (.cmp .gtr (oT 9) (oN 32)),oB 11 (.pick (oT 7) (.const (.bool true)) (oT 10)),oA 12 11,oI 13 12 (.mv (oT 0)),oI 14 12 (.sidx (oT 13) (oN 0)),oI 15 12 (.call f_markup_begins [oT 14]),
 oI 16 12 (.not (oT 15)),oB 17 (.pick (oT 12) (.const (.bool true)) (oT 16))] [0,17] [] (.ite (oT 17) (oX [oB 2 (.mv (.const ob))] [2] [] (.ret)) (.skip))) (.keep [0] [] (.seq (oX [oA 18 0,oB 19 (.slen (oT 18)),oB 20 (.mv (oN 0))] [0,19,20] [] (rangeCC 0 20 19 21 1 (oX [oA 22 20,oA 3 22] [0,3,19,20] [] (oX [oA 23 0,oA 24 3,oB 25 (.sidx (oT 23) (oT 24)),oZ 26 f_markup_goesOn [oT 25],
 oB 27 (.not (oT 26))] [0,19,20,27] [] (.ite (oT 27) (oX [oB 2 (.mv (.const ob))] [2] [] (.ret)) (.skip)))) 28)) (.keep [] [] (oX [oB 2 (.mv (.const (.bool true)))] [2] [] (.ret))))))
def rs_markup_ValidName : List CRes := [.tmp 2]
def im_markup_ValidName : List Nat := []
theorem ok_markup_ValidName : FnOk Tryz.prog f_markup_ValidName im_markup_ValidName cc_markup_ValidName rs_markup_ValidName 29 := fnOk1 mixed (by kernel_rfl)
def cc_markup_begins : CC := oX [oB 2 (.mv (.const ob))] [0] [] (oX [oA 3 0,oB 4 (.cmp .geq (oT 3) (.const (.int .u8 65))),oA 5 4,oH 6 5 (.mv (oT 0)),oH 7 5 (.cmp .leq (oT 6) (.const (.int .u8 90))),oB 8 (.pick (oT 5) (oT 7) (.const ob)),oA 9 8,oI 10 9 (.mv (oT 0)),oI 11 9 (.cmp .geq (oT 10) (.const (.int .u8 97))),oI 12 9 (.mv (oT 11)),oH 13 12 (.mv (oT 0)),
 oH 14 12 (.cmp .leq (oT 13) (.const (.int .u8 122))),oI 15 9 (.pick (oT 12) (oT 14) (.const ob)),oB 16 (.pick (oT 9) (.const (.bool true)) (oT 15)),oA 17 16,oI 18 17 (.mv (oT 0)),oI 19 17 (.eql false false [.int] (oT 18) (.const (.int .u8 95))),oB 20 (.pick (oT 17) (.const (.bool true)) (oT 19)),oA 2 20] [2] [] (.ret))
def rs_markup_begins : List CRes := [.tmp 2]
def im_markup_begins : List Nat := []
theorem ok_markup_begins : FnOk Tryz.prog f_markup_begins im_markup_begins cc_markup_begins rs_markup_begins 21 := fnOk1 mixed (by kernel_rfl)
def cc_markup_goesOn : CC := oX [oB 2 (.mv (.const ob))] [0] [] (oX [oA 3 0,oZ 4 f_markup_begins [oT 3],oA 5 4,oI 6 5 (.mv (oT 0)),oI 7 5 (.cmp .geq (oT 6) (.const (.int .u8 48))),oI 8 5 (.mv (oT 7)),oH 9 8 (.mv (oT 0)),oH 10 8 (.cmp .leq (oT 9) (.const (.int .u8 57))),oI 11 5 (.pick (oT 8) (oT 10) (.const ob)),oB 12 (.pick (oT 5) (.const (.bool true)) (oT 11)),oA 13 12,
 oI 14 13 (.mv (oT 0)),oI 15 13 (.eql false false [.int] (oT 14) (.const (.int .u8 45))),oB 16 (.pick (oT 13) (.const (.bool true)) (oT 15)),oA 2 16] [2] [] (.ret))
def rs_markup_goesOn : List CRes := [.tmp 2]
def im_markup_goesOn : List Nat := []
theorem ok_markup_goesOn : FnOk Tryz.prog f_markup_goesOn im_markup_goesOn cc_markup_goesOn rs_markup_goesOn 17 := fnOk1 mixed (by kernel_rfl)
def cc_slices_ContainsFunc_Pattern : CC := oX [oB 4 (.mv (.const ob))] [0,1] [] (oX [oA 5 0,oA 6 1,oZ 7 f_slices_IndexFunc_Pattern [oT 5,oT 6],oB 8 (.cmp .geq (oT 7) (oN 0)),oA 4 8] [4] [] (.ret))
def rs_slices_ContainsFunc_Pattern : List CRes := [.tmp 4]
def im_slices_ContainsFunc_Pattern : List Nat := []
theorem ok_slices_ContainsFunc_Pattern : FnOk Tryz.prog f_slices_ContainsFunc_Pattern im_slices_ContainsFunc_Pattern cc_slices_ContainsFunc_Pattern rs_slices_ContainsFunc_Pattern 9 := fnOk1 mixed (by kernel_rfl)
-- slices_IndexFunc_Pattern range i=8 n=7 c=9 i2=18 id=0: live [0:s, 1:f] changed [] res []
def cc_slices_IndexFunc_Pattern : CC := oX [oB 4 (.mv (oN 0))] [0,1] [] (.seq (oX [oA 6 0,oB 7 (.len (oT 6)),oB 8 (.mv (oN 0))] [0,1,7,8] [] (rangeCC 0 8 7 9 1 (oX [oA 10 8,oA 5 10] [0,1,5,7,8] [] (oX [oA 11 1,oA 12 0,oA 13 5,oB 14 (.iaddr 13 (oT 12) (oT 13)),oD 15 13 14,oB 16 (.callv (oT 11) [oT 15])] [0,1,5,7,8,16] [] (.ite (oT 16) (oX [oA 17 5,oA 4 17] [4] [] (.ret))
 (.skip)))) 18)) (.keep [] [] (oX [oB 4 (.mv (oN (-1)))] [4] [] (.ret))))
def rs_slices_IndexFunc_Pattern : List CRes := [.tmp 4]
def im_slices_IndexFunc_Pattern : List Nat := []
theorem ok_slices_IndexFunc_Pattern : FnOk Tryz.prog f_slices_IndexFunc_Pattern im_slices_IndexFunc_Pattern cc_slices_IndexFunc_Pattern rs_slices_IndexFunc_Pattern 19 := fnOk1 mixed (by kernel_rfl)
-- r22_Same range i=58 n=57 c=59 i2=73 id=0: live [2:a, 3:b] changed [] res []
def cc_r22_Same : CC := oX [oB 2 (.box ty_Cond true (oT 0)),oB 3 (.box ty_Cond true (oT 1)),oB 4 (.mv (.const ob))] [2,3] [] (.seq (oX [oE 6 0 2,oC 7 1 6,oE 8 0 3,oC 9 1 8,oB 10 (.eql true false [.int] (oT 7) (oT 9)),oA 11 10,oI 12 11 (.faddr 1 (oT 2)),oI 13 11 (.load false 1 (oT 12)),oI 14 11 (.faddr 1 (oT 3)),oI 15 11 (.load false 1 (oT 14)),
 oI 16 11 (.eql true false [.str] (oT 13) (oT 15)),oB 17 (.pick (oT 11) (.const (.bool true)) (oT 16)),oA 18 17,oI 19 18 (.faddr 2 (oT 2)),oI 20 18 (.load false 1 (oT 19)),oI 21 18 (.faddr 2 (oT 3)),oI 22 18 (.load false 1 (oT 21)),oI 23 18 (.eql true false [.str] (oT 20) (oT 22)),oB 24 (.pick (oT 18) (.const (.bool true)) (oT 23)),oA 25 24,oI 26 25 (.faddr 3 (oT 2)),
 oI 27 25 (.load false 1 (oT 26)),oI 28 25 (.faddr 3 (oT 3)),oI 29 25 (.load false 1 (oT 28)),oI 30 25 (.eql true false [.str] (oT 27) (oT 29)),oB 31 (.pick (oT 25) (.const (.bool true)) (oT 30)),oA 32 31,oI 33 32 (.faddr 4 (oT 2)),oI 34 32 (.load false 1 (oT 33)),oI 35 32 (.faddr 4 (oT 3)),oI 36 32 (.load false 1 (oT 35)),oI 37 32 (.eql true false [.str] (oT 34) (oT 36)),
 oB 38 (.pick (oT 32) (.const (.bool true)) (oT 37)),oA 39 38,oI 40 39 (.faddr 5 (oT 2)),oI 41 39 (.load false 1 (oT 40)),oI 42 39 (.faddr 5 (oT 3)),oI 43 39 (.load false 1 (oT 42)),oI 44 39 (.eql true false [.bool] (oT 41) (oT 43)),oB 45 (.pick (oT 39) (.const (.bool true)) (oT 44)),oA 46 45,oI 47 46 (.faddr 6 (oT 2)),oI 48 46 (.load false 1 (oT 47)),oI 49 46 (.len (oT 48)),
 oI 50 46 (.faddr 6 (oT 3)),oI 51 46 (.load false 1 (oT 50)),oI 52 46 (.len (oT 51)),oI 53 46 (.eql true false [.int] (oT 49) (oT 52)),oB 54 (.pick (oT 46) (.const (.bool true)) (oT 53))] [2,3,54] [] (.ite (oT 54) (oX [oB 4 (.mv (.const ob))] [4] [] (.ret)) (.skip))) (.keep [2,3] [] (.seq (oX [oE 55 6 2,oC 56 1 55,oB 57 (.len (oT 56)),
 oB 58 (.mv (oN 0))] [2,3,57,58] [] (rangeCC 0 58 57 59 1 (oX [oA 60 58,oA 5 60] [2,3,5,57,58] [] (.seq (.regd [oE 61 6 2,oC 62 1 61,oA 63 5,oB 64 (.iaddr 7 (oT 62) (oT 63)),oD 65 7 64,oE 66 6 3,oC 67 1 66,oA 68 5,oB 69 (.iaddr 7 (oT 67) (oT 68)),oD 70 7 69] [oZ 71 f_r22_Same [oT 65,oT 70],oB 72 (.not (oT 71))]) (.keep [2,3,57,58,72] [] (.ite (oT 72) (oX [
 oB 4 (.mv (.const ob))] [4] [] (.ret)) (.skip))))) 73)) (.keep [] [] (oX [oB 4 (.mv (.const (.bool true)))] [4] [] (.ret))))))
def rs_r22_Same : List CRes := [.tmp 4]
def im_r22_Same : List Nat := [2, 3]
theorem ok_r22_Same : FnOk Tryz.prog f_r22_Same im_r22_Same cc_r22_Same rs_r22_Same 74 := fnOk1 mixed (by kernel_rfl)
-- r23_shapes range i=14 n=13 c=15 i2=23 id=0: live [1:deep, 12:] changed [] res []
-- r23_names range i=33 n=32 c=34 i2=40 id=0: live [31:] changed [] res []
-- r23_numbers range i=38 n=37 c=39 i2=45 id=0: live [36:] changed [] res []
-- r23_leaves range i=17 n=16 c=18 i2=24 id=0: live [1:out, 15:] changed [1] res [1, 23]
end Go.Gv

namespace Go.Gv
open Cod (enc dec)
variable {S S0 : Nat → Spc}

end Go.Gv

namespace Go.Gv
open Cod (enc dec)
variable {S S0 : Nat → Spc}

/-! ### Names -/
def begB (c : Int) : Bool := decide (65 ≤ c ∧ c ≤ 90 ∨ 97 ≤ c ∧ c ≤ 122 ∨ c = 95)
def conB (c : Int) : Bool := begB c || decide (48 ≤ c ∧ c ≤ 57 ∨ c = 45)
def ValidN (s : B) : Prop := 1 ≤ s.size ∧ s.size ≤ 32 ∧ (∀ c : UInt8, s.data[0]? = some c → begB c.toNat = true) ∧ ∀ (k : Nat) (c : UInt8), s.data[k]? = some c → conB c.toNat = true
noncomputable def validN (s : B) : Bool := @decide (ValidN s) (Classical.propDecidable _)
theorem validN_iff (s : B) : validN s = true ↔ ValidN s := @decide_eq_true_iff (ValidN s) (Classical.propDecidable _)
theorem validN_t {s : B} (h : ValidN s) : true = validN s := ((validN_iff s).2 h).symm
theorem validN_f {s : B} (h : ¬ ValidN s) : false = validN s := by
 rcases hb : validN s
 ·rfl
 ·exact absurd ((validN_iff s).1 hb) h
abbrev s_begins : Spc := spc (a1 U8) (fun _ => True) (enc (X := Bool)) fun x y => y = begB x.val
abbrev s_goesOn : Spc := spc (a1 U8) (fun _ => True) (enc (X := Bool)) fun x y => y = conB x.val
abbrev s_validN : Spc := spc (a1 B) (fun _ => True) (enc (X := Bool)) fun x y => y = validN x
theorem w_markup_begins : Walk cc_markup_begins rs_markup_begins S (a1 U8) (fun _ => True) (enc (X := Bool)) fun x y => y = begB x.val := by
 rintro ⟨c⟩ -
 simp [cc_markup_begins, rs_markup_begins, begB]
 repeat' first | apply And.intro | intro _
 all_goals first | omega | (rw [Bool.eq_iff_iff]; simp; omega)
theorem w_markup_goesOn (h1 : S f_markup_begins = s_begins) : Walk cc_markup_goesOn rs_markup_goesOn S (a1 U8) (fun _ => True) (enc (X := Bool)) fun x y => y = conB x.val := by
 rintro ⟨c⟩ -
 simp [cc_markup_goesOn, rs_markup_goesOn, h1, conB, -Bool.forall_bool]
 rcases hb : begB c <;> simp [hb]
 repeat' first | apply And.intro | intro _
 all_goals first | omega | (rw [Bool.eq_iff_iff]; simp; omega)
theorem w_markup_ValidName (h1 : S f_markup_begins = s_begins) (h2 : S f_markup_goesOn = s_goesOn) : Walk cc_markup_ValidName rs_markup_ValidName S (a1 B) (fun _ => True) (enc (X := Bool)) fun x y => y = validN x := by
 rintro s -
 simp [cc_markup_ValidName, rs_markup_ValidName, h1, h2]
 refine fun _ => ⟨fun k1 _ => ⟨fun k2 => ⟨by omega, fun c hc => ⟨fun hb => (validN_f fun h => by rw [h.2.2.1 c hc] at hb; cases hb).symm, fun hb _ => ?_⟩⟩, fun k2 => (validN_f fun h => by have := h.2.1; omega).symm⟩, fun k1 => (validN_f fun h => by have := h.1; omega).symm⟩
 refine vc_range (X := Unit) [0] [] s.size (fun k _ => ∀ (j : Nat) (c : UInt8), j < k → s.data[j]? = some c → conB c.toNat = true) (fun _ => []) (fun _ => []) () (by simp) (by simp) (by omega) (by simp) (by simp) (by intro j d hj; omega) (by simp) (by simp) ?_ ?_
 ·rintro k - hk h5
  simp [h2]
  refine ⟨hk, fun d hd => ⟨fun hf => (validN_f fun h => by rw [h.2.2.2 k d hd] at hf; cases hf).symm, fun ht j e hj he => ?_⟩⟩
  by_cases e1 : j = k
  ·subst e1
   rw [hd] at he
   cases he
   exact ht
  ·exact h5 j e (by omega) he
 ·rintro - h5
  simp
  refine (validN_t ⟨by omega, by omega, fun d hd => by rw [hc] at hd; cases hd; exact hb, fun j e he => h5 j e ?_ he⟩).symm
  exact (Array.getElem?_eq_some_iff.1 he).1
end Go.Gv

namespace Go.Gv
/-- the end of the bytes from i on that satisfy a function -/
def runN (p : U8 → Bool) : Nat → B → Nat → Nat
 | 0, _, i => i
 | n + 1, s, i => match s.data[i]? with
   | some c => if p ⟨c.toNat⟩ then runN p n s (i + 1) else i
   | none => i
def runP (p : U8 → Bool) (s : B) (i : Nat) : Nat := runN p (s.size - i) s i
theorem runP_end {p : U8 → Bool} {s : B} {i : Nat} (h : s.size ≤ i) : runP p s i = i := by
 unfold runP
 rw [show s.size - i = 0 by omega, runN]
theorem runP_step {p : U8 → Bool} {s : B} {i : Nat} {c : UInt8} (h : s.data[i]? = some c) : runP p s i = if p ⟨c.toNat⟩ then runP p s (i + 1) else i := by
 have hi : i < s.size := (Array.getElem?_eq_some_iff.1 h).1
 unfold runP
 rw [show s.size - i = (s.size - (i + 1)) + 1 by omega, runN, h]
theorem runN_rng (p : U8 → Bool) : ∀ (n : Nat) (s : B) (i : Nat), i ≤ runN p n s i ∧ runN p n s i ≤ i + n
 | 0, s, i => by rw [runN]; omega
 | n + 1, s, i => by
   rw [runN]
   split
   ·split
    ·have := runN_rng p n s (i + 1); omega
    ·omega
   ·omega
theorem runP_rng (p : U8 → Bool) {s : B} {i : Nat} (h : i ≤ s.size) : i ≤ runP p s i ∧ runP p s i ≤ s.size := by
 have := runN_rng p (s.size - i) s i
 unfold runP
 omega
def spP (c : U8) : Bool := decide (c.val = 32 ∨ c.val = 10)
def letP (c : U8) : Bool := begB c.val
def digP (c : U8) : Bool := decide (48 ≤ c.val ∧ c.val ≤ 57)
def namP (c : U8) : Bool := letP c || digP c || decide (c.val = 45)
theorem run_skip : ∀ (n : Nat) (s : B) (i : Nat), runN spP n s i = skipN n s i
 | 0, s, i => by rw [runN, skipN]
 | n + 1, s, i => by
   rw [runN, skipN, isSp]
   cases h : s.data[i]? with
   | none => rfl
   | some c =>
     simp only
     rw [run_skip n s (i + 1)]
     have : spP ⟨c.toNat⟩ = decide (c.toNat = 32 ∨ c.toNat = 10) := by unfold spP; rw [Bool.eq_iff_iff]; simp; omega
     rw [this]
theorem run_dig : ∀ (n : Nat) (s : B) (i : Nat), runN digP n s i = digN n s i
 | 0, s, i => by rw [runN, digN]
 | n + 1, s, i => by
   rw [runN, digN, isDg]
   cases h : s.data[i]? with
   | none => rfl
   | some c =>
     simp only
     rw [run_dig n s (i + 1)]
     have : digP ⟨c.toNat⟩ = decide (48 ≤ c.toNat ∧ c.toNat ≤ 57) := by unfold digP; rw [Bool.eq_iff_iff]; simp; omega
     rw [this]
theorem run_nam : ∀ (n : Nat) (s : B) (i : Nat), runN namP n s i = namN n s i
 | 0, s, i => by rw [runN, namN]
 | n + 1, s, i => by
   rw [runN, namN, isNm]
   cases h : s.data[i]? with
   | none => rfl
   | some c =>
     simp only
     rw [run_nam n s (i + 1)]
     have : namP ⟨c.toNat⟩ = (letB c.toNat || decide (48 ≤ c.toNat ∧ c.toNat ≤ 57 ∨ c.toNat = 45)) := by
      unfold namP letP digP begB letB; rw [Bool.eq_iff_iff]; simp; omega
     rw [this]
end Go.Gv

namespace Go.Gv
open Cod (enc dec)
structure Lxm where
 kind : Int
 text : B
 pos : Int
instance : Cod Lxm where
 wd := 3
 enc t := .agg [enc t.kind, enc t.text, enc t.pos]
 dec | .agg [x0, x1, x2] => (dec x0).bind fun a => (dec x1).bind fun b => (dec x2).bind fun c => some ⟨a, b, c⟩ | _ => none
 kn _ := rfl
 wid _ := rfl
 dec_enc f := by simp only [Cod.dec_enc, Option.bind_some]
 le d x h := by
  split at h
  ·simp only [Option.bind_eq_some_iff, Option.some.injEq] at h
   obtain ⟨a, h0, b, h1, c, h2, rfl⟩ := h
   exact LeL.agg (.cons (Cod.le _ _ h0) (.cons (Cod.le _ _ h1) (.cons (Cod.le _ _ h2) .nil)))
  ·cases h
@[simp] theorem enc_Lxm (s : Lxm) : enc s = .agg [enc s.kind, enc s.text, enc s.pos] := id rfl
/-- quoted: the text in quotes, and where it ends (-1: it is not closed) -/
def quoP (s : B) (i : Nat) : B × Int := match quoG s (i + 1) ⟨#[]⟩ with
 | some r => (r.2, r.1 + 1)
 | none => (⟨#[]⟩, -1)
/-- lex: the token from i on, and where it ends -/
def lexP (s : B) (i : Nat) : Lxm × Int :=
 let j := skipF s i
 match s.data[j]? with
 | none => (⟨0, E0, j⟩, j)
 | some c =>
   if letP ⟨c.toNat⟩ then (⟨2, s.extract j (namF s j), j⟩, namF s j)
   else if digP ⟨c.toNat⟩ then (⟨3, s.extract j (digF s j), j⟩, digF s j)
   else if c.toNat = 34 then (if (quoP s j).2 < 0 then (⟨1, E0, j⟩, s.size) else (⟨4, (quoP s j).1, j⟩, (quoP s j).2))
   else match signsL.find? (preB s j) with
    | some x => (⟨5, x, j⟩, j + x.size)
    | none => (⟨1, E0, j⟩, j)
end Go.Gv
