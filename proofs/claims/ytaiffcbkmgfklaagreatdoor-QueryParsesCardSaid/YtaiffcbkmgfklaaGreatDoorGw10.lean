/- A part of the framework and of the walks: T10 T11. -/
import Derived.Test.YtaiffcbkmgfklaaGreatDoorGw09
set_option linter.unusedSimpArgs false
set_option linter.unusedVariables false

namespace Go.Gv
open Cod (enc dec)

section
variable {S : Nat → Spc} {K : Ex → Sg → HMap → Prop} {σ : Sg} {H : HMap}

def seqK (S : Nat → Spc) (b : CC) (K : Ex → Sg → HMap → Prop) : Ex → Sg → HMap → Prop := fun e σ H => match e with
 | .norm => vc S b K σ H
 | e => K e σ H
def blkK (id : Nat) (K : Ex → Sg → HMap → Prop) : Ex → Sg → HMap → Prop := fun e σ H => match e with
 | .ex i => if i = id then K .norm σ H else K (.ex i) σ H
 | e => K e σ H
def lopK (inv : Inv) (x : inv.X) (K : Ex → Sg → HMap → Prop) : Ex → Sg → HMap → Prop := fun e σ' H' => match e with
 | .norm => ∃ y, inv.P y ∧ Wk σ' H' (inv.s y) (inv.h y) ∧ inv.m y < inv.m x
 | e => K e σ' H'
def iteX (d : D) (A B : Prop) : Prop := match d with
 | .v (.bool t) => (t = true → A) ∧ (t = false → B)
 | _ => False
@[simp ↓] theorem e_skip : vc S .skip K σ H = K .norm σ H := id rfl
@[simp ↓] theorem e_reg (l : List CI) : vc S (.reg l) K σ H = vcL S l σ H (K .norm) := id rfl
@[simp ↓] theorem e_regd (p l : List CI) : vc S (.regd p l) K σ H = vcPre S p σ (maskH p H) H fun σ H => vcL S l σ H (K .norm) := id rfl
@[simp ↓] theorem e_seq (a b : CC) : vc S (.seq a b) K σ H = vc S a (seqK S b K) σ H := id rfl
@[simp ↓] theorem e_seqn (b : CC) : seqK S b K .norm σ H = vc S b K σ H := id rfl
@[simp ↓] theorem e_seqx (b : CC) (i : Nat) : seqK S b K (.ex i) σ H = K (.ex i) σ H := id rfl
@[simp ↓] theorem e_seqr (b : CC) : seqK S b K .ret σ H = K .ret σ H := id rfl
@[simp ↓] theorem e_ite (c : Operand) (a b : CC) : vc S (.ite c a b) K σ H = iteX (ev σ c) (vc S a K σ H) (vc S b K σ H) := id rfl
@[simp] theorem e_itex (t : Bool) (A B : Prop) : iteX (.v (.bool t)) A B = ((t = true → A) ∧ (t = false → B)) := id rfl
@[simp high] theorem e_itet (A B : Prop) : iteX (.v (.bool true)) A B = A := by simp [iteX]
@[simp high] theorem e_itef (A B : Prop) : iteX (.v (.bool false)) A B = B := by simp [iteX]
@[simp ↓] theorem e_block (id : Nat) (b : CC) : vc S (.block id b) K σ H = vc S b (blkK id K) σ H := _root_.id rfl
@[simp ↓] theorem e_blkn (id : Nat) : blkK id K .norm σ H = K .norm σ H := _root_.id rfl
@[simp ↓] theorem e_blkr (id : Nat) : blkK id K .ret σ H = K .ret σ H := _root_.id rfl
@[simp ↓] theorem e_blkx (id i : Nat) : blkK id K (.ex i) σ H = if i = id then K .norm σ H else K (.ex i) σ H := _root_.id rfl
@[simp ↓] theorem e_exit (i : Nat) : vc S (.exit i) K σ H = K (.ex i) σ H := id rfl
@[simp ↓] theorem e_ret : vc S .ret K σ H = K .ret σ H := id rfl
@[simp ↓] theorem e_keep (ls lh : List Nat) (c : CC) : vc S (.keep ls lh c) K σ H = vc S c K (keepS ls σ) (keepH lh H) := id rfl
theorem e_loop (k : Nat) (b : CC) : vc S (.loop k b) K σ H = ∃ inv : Inv, (∃ x, inv.P x ∧ Wk σ H (inv.s x) (inv.h x)) ∧ ∀ x, inv.P x → vc S b (lopK inv x K) (inv.s x) (inv.h x) := id rfl
theorem e_cut (k : Nat) (c : CC) : vc S (.cut k c) K σ H = ∃ (σ' : Sg) (H' : HMap), Wk σ H σ' H' ∧ vc S c K σ' H' := id rfl
@[simp ↓] theorem e_lopn (inv : Inv) (x : inv.X) : lopK inv x K .norm σ H = ∃ y, inv.P y ∧ Wk σ H (inv.s y) (inv.h y) ∧ inv.m y < inv.m x := id rfl
@[simp ↓] theorem e_lopr (inv : Inv) (x : inv.X) : lopK inv x K .ret σ H = K .ret σ H := id rfl
@[simp ↓] theorem e_lopx (inv : Inv) (x : inv.X) (i : Nat) : lopK inv x K (.ex i) σ H = K (.ex i) σ H := id rfl
end

def guardX (s : Nat) (b : Bool) (σ : Sg) (d : D) (yes no : Sg → Prop) : Prop := match d with
 | .v (.bool t) => (t = b → yes (upd σ s (.v (.bool b)))) ∧ (t = (!b) → no (upd σ s (.v (.bool (!b)))))
 | .undef => no σ
 | _ => False
@[simp high] theorem g_tt (s : Nat) (σ : Sg) (yes no : Sg → Prop) : guardX s true σ (.v (.bool true)) yes no = yes (upd σ s (.v (.bool true))) := by simp [guardX]
@[simp high] theorem g_tf (s : Nat) (σ : Sg) (yes no : Sg → Prop) : guardX s true σ (.v (.bool false)) yes no = no (upd σ s (.v (.bool false))) := by simp [guardX]
@[simp high] theorem g_ft (s : Nat) (σ : Sg) (yes no : Sg → Prop) : guardX s false σ (.v (.bool true)) yes no = no (upd σ s (.v (.bool true))) := by simp [guardX]
@[simp high] theorem g_ff (s : Nat) (σ : Sg) (yes no : Sg → Prop) : guardX s false σ (.v (.bool false)) yes no = yes (upd σ s (.v (.bool false))) := by simp [guardX]
@[simp] theorem g_u' (s : Nat) (b : Bool) (σ : Sg) (yes no : Sg → Prop) : guardX s b σ .undef yes no = no σ := id rfl
@[simp] theorem g_b (s : Nat) (b t : Bool) (σ : Sg) (yes no : Sg → Prop) : guardX s b σ (.v (.bool t)) yes no = ((t = b → yes (upd σ s (.v (.bool b)))) ∧ (t = (!b) → no (upd σ s (.v (.bool (!b)))))) := id rfl

section
variable {S : Nat → Spc} {σ : Sg} {H Hr : HMap}
@[simp ↓] theorem l_nil (K : Sg → HMap → Prop) : vcL S [] σ H K = K σ H := id rfl
@[simp ↓] theorem l_op (K : Sg → HMap → Prop) (d : Option Nat) (c : COp) (r : List CI) : vcL S (.op d none c :: r) σ H K = callVC S c d σ H fun x H' => vcL S r (updO σ d x) H' K := id rfl
@[simp ↓] theorem l_opg (K : Sg → HMap → Prop) (d : Option Nat) (s : Nat) (b : Bool) (c : COp) (r : List CI) : vcL S (.op d (some (s, b)) c :: r) σ H K = guardX s b σ (σ s) (fun σ => callVC S c d σ H fun x H' => vcL S r (updO σ d x) H' K) (fun σ => vcL S r (updO σ d .undef) H K) := id rfl
@[simp ↓] theorem l_frz (K : Sg → HMap → Prop) (t n : Nat) (r : List CI) : vcL S (.frz t n :: r) σ H K = frzVC t n σ H fun σ' H' => vcL S r σ' H' K := id rfl
@[simp ↓] theorem p_nil (K : Sg → HMap → Prop) : vcPre S [] σ Hr H K = K σ H := id rfl
@[simp ↓] theorem p_frz (K : Sg → HMap → Prop) (a b : Nat) (r : List CI) : vcPre S (.frz a b :: r) σ Hr H K = vcPre S r σ (maskH r Hr) H K := id rfl
@[simp ↓] theorem p_op (K : Sg → HMap → Prop) (d : Option Nat) (c : COp) (r : List CI) : vcPre S (.op d none c :: r) σ Hr H K = preVC S c d σ Hr H fun x H' => vcPre S r (updO σ d x) Hr H' K := id rfl
end


def pickX (d : D) (A B : Prop) : Prop := match d with
 | .v (.bool t) => (t = true → A) ∧ (t = false → B)
 | _ => False
@[simp high] theorem pickX_t (A B : Prop) : pickX (.v (.bool true)) A B = A := by simp [pickX]
@[simp high] theorem pickX_f (A B : Prop) : pickX (.v (.bool false)) A B = B := by simp [pickX]
def loadB (agg : Bool) (sz b off : Nat) (r : Option Res) (K : D → Prop) : Prop := match r with
 | some (.box b' cells) => b' = b ∧ off + sz ≤ cells.length ∧ K (ldD agg sz cells off)
 | _ => False
def loadE (agg : Bool) (sz : Nat) (x : Value) (n i off : Nat) (r : Option Res) (K : D → Prop) : Prop := match r with
 | some (.row x' _ n' es) => x' = x ∧ n' = n ∧ off + sz ≤ n ∧ i < es.length ∧ ∀ d, es[i]? = some d → K (ldD agg sz d.cells off)
 | _ => False
def loadX (agg : Bool) (sz : Nat) (d : D) (H : HMap) (K : D → Prop) : Prop := match d with
 | .cptr cs off => off + sz ≤ cs.length ∧ K (ldD agg sz cs off)
 | .bptr id b off => loadB agg sz b off (H id) K
 | .eptr id x n i off => loadE agg sz x n i off (H id) K
 | _ => False
@[simp] theorem loadX_c (agg : Bool) (sz : Nat) (cs : List D) (off : Nat) (H : HMap) (K : D → Prop) : loadX agg sz (.cptr cs off) H K = (off + sz ≤ cs.length ∧ K (ldD agg sz cs off)) := id rfl
@[simp] theorem loadX_b (agg : Bool) (sz : Nat) (i b off : Nat) (H : HMap) (K : D → Prop) : loadX agg sz (.bptr i b off) H K = loadB agg sz b off (H i) K := id rfl
@[simp] theorem loadX_e (agg : Bool) (sz : Nat) (i : Nat) (x : Value) (n k off : Nat) (H : HMap) (K : D → Prop) : loadX agg sz (.eptr i x n k off) H K = loadE agg sz x n k off (H i) K := id rfl
@[simp] theorem loadB_s (agg : Bool) (sz b off b' : Nat) (cells : List D) (K : D → Prop) : loadB agg sz b off (some (.box b' cells)) K = (b' = b ∧ off + sz ≤ cells.length ∧ K (ldD agg sz cells off)) := id rfl
@[simp] theorem loadE_s (agg : Bool) (sz : Nat) (x : Value) (n i off : Nat) (x' : Value) (el n' : Nat) (es : List D) (K : D → Prop) : loadE agg sz x n i off (some (.row x' el n' es)) K = (x' = x ∧ n' = n ∧ off + sz ≤ n ∧ i < es.length ∧ ∀ d, es[i]? = some d → K (ldD agg sz d.cells off)) := id rfl
def nilX (d : D) (K : D → Prop) : Prop := match d with
 | .cptr cs off => K (.cptr cs off)
 | .bptr id b off => K (.bptr id b off)
 | .eptr id x n i off => K (.eptr id x n i off)
 | .tape L => K (.tape L)
 | .clo f caps => K (.clo f caps)
 | _ => False
@[simp] theorem nilX_c (cs : List D) (off : Nat) (K : D → Prop) : nilX (.cptr cs off) K = K (.cptr cs off) := id rfl
@[simp] theorem nilX_b (i b off : Nat) (K : D → Prop) : nilX (.bptr i b off) K = K (.bptr i b off) := id rfl
def arithX (op : BinOp) (d e : D) (K : D → Prop) : Prop := match d, e with
 | .v (.int k a), .v (.int k' b) => k = k' ∧ arithVC op k a b K
 | _, _ => False
@[simp] theorem arithX_i (op : BinOp) (k k' : IntKind) (a b : Int) (K : D → Prop) : arithX op (.v (.int k a)) (.v (.int k' b)) K = (k = k' ∧ arithVC op k a b K) := id rfl
@[simp ↓] theorem arith_add (k : IntKind) (a b : Int) (K : D → Prop) : arithVC .add k a b K = (InR k (a + b) ∧ K (.v (.int k (a + b)))) := id rfl
@[simp ↓] theorem arith_sub (k : IntKind) (a b : Int) (K : D → Prop) : arithVC .sub k a b K = (InR k (a - b) ∧ K (.v (.int k (a - b)))) := id rfl
@[simp ↓] theorem arith_mul (k : IntKind) (a b : Int) (K : D → Prop) : arithVC .mul k a b K = (InR k (a * b) ∧ K (.v (.int k (a * b)))) := id rfl
@[simp ↓] theorem arith_rem (k : IntKind) (a b : Int) (K : D → Prop) : arithVC .rem k a b K = (b ≠ 0 ∧ K (.v (.int k (a.tmod b)))) := id rfl
def cmpO (o : Option Bool) (K : D → Prop) : Prop := match o with | some t => K (.v (.bool t)) | none => False
@[simp] theorem cmpO_s (t : Bool) (K : D → Prop) : cmpO (some t) K = K (.v (.bool t)) := id rfl
def cmpX (op : BinOp) (d e : D) (K : D → Prop) : Prop := match d, e with
 | .v (.int k a), .v (.int k' b) => k = k' ∧ cmpO (cmpB op a b) K
 | .v (.string a), .v (.string b) => cmpO (cmpS op a b) K
 | _, _ => False
@[simp] theorem cmpX_i (op : BinOp) (k k' : IntKind) (a b : Int) (K : D → Prop) : cmpX op (.v (.int k a)) (.v (.int k' b)) K = (k = k' ∧ cmpO (cmpB op a b) K) := id rfl
@[simp] theorem cmpB_lss (a b : Int) : cmpB .lss a b = some (decide (a < b)) := id rfl
@[simp] theorem cmpB_leq (a b : Int) : cmpB .leq a b = some (decide (a ≤ b)) := id rfl
@[simp] theorem cmpB_gtr (a b : Int) : cmpB .gtr a b = some (decide (b < a)) := id rfl
@[simp] theorem cmpB_geq (a b : Int) : cmpB .geq a b = some (decide (b ≤ a)) := id rfl
def eqlX (neg : Bool) (o : Option Bool) (K : D → Prop) : Prop := match o with
 | some p => K (.v (.bool (if neg then !p else p)))
 | none => False
@[simp] theorem eqlX_f (p : Bool) (K : D → Prop) : eqlX false (some p) K = K (.v (.bool p)) := id rfl
@[simp] theorem eqlX_t (p : Bool) (K : D → Prop) : eqlX true (some p) K = K (.v (.bool (!p))) := id rfl
@[simp] theorem eqD_1 (k : EqK) (a b : D) : eqD false [k] a b = eqB k a b := id rfl
@[simp] theorem eqD_a (ks : List EqK) (a b : List D) : eqD true ks (.agg a) (.agg b) = eqL ks a b := id rfl
@[simp] theorem eqL_0 : eqL [] [] [] = some true := id rfl
@[simp] theorem eqL_c (k : EqK) (ks : List EqK) (a b : D) (as bs : List D) : eqL (k :: ks) (a :: as) (b :: bs) = (eqB k a b).bind fun p => (eqL ks as bs).bind fun q => some (p && q) := id rfl
@[simp] theorem eqB_i (k k' : IntKind) (a b : Int) : eqB .int (.v (.int k a)) (.v (.int k' b)) = if k = k' then some (decide (a = b)) else none := id rfl
@[simp] theorem eqB_s (a b : ByteArray) : eqB .str (.v (.string a)) (.v (.string b)) = some (decide (a = b)) := id rfl
@[simp] theorem eqB_b (a b : Bool) : eqB .bool (.v (.bool a)) (.v (.bool b)) = some (decide (a = b)) := id rfl
def scatX (d e : D) (K : D → Prop) : Prop := match d, e with
 | .v (.string a), .v (.string b) => a.size + b.size ≤ 1000000000 ∧ K (.v (.string (a ++ b)))
 | _, _ => False
@[simp] theorem scatX_s (a b : ByteArray) (K : D → Prop) : scatX (.v (.string a)) (.v (.string b)) K = (a.size + b.size ≤ 1000000000 ∧ K (.v (.string (a ++ b)))) := id rfl
def notX (d : D) (K : D → Prop) : Prop := match d with
 | .v (.bool b) => K (.v (.bool (!b)))
 | _ => False
@[simp] theorem notX_b (b : Bool) (K : D → Prop) : notX (.v (.bool b)) K = K (.v (.bool (!b))) := id rfl
def negX (d : D) (K : D → Prop) : Prop := match d with
 | .v (.int k n) => InR k (0 - n) ∧ K (.v (.int k (0 - n)))
 | _ => False
@[simp] theorem negX_i (k : IntKind) (n : Int) (K : D → Prop) : negX (.v (.int k n)) K = (InR k (0 - n) ∧ K (.v (.int k (0 - n)))) := id rfl
def convX (k : IntKind) (d : D) (K : D → Prop) : Prop := match d with
 | .v (.int _ n) => K (.v (.int k (k.wrap n)))
 | _ => False
@[simp] theorem convX_i (k k' : IntKind) (n : Int) (K : D → Prop) : convX k (.v (.int k' n)) K = K (.v (.int k (k.wrap n))) := id rfl
def sliceR (n id : Nat) (x : Value) (lo hi : Option (Option (IntKind × Int))) (r : Option Res) (K : D → Prop) : Prop := match r with
 | some (.row x' _ n' es) => x' = x ∧ n' = n ∧ cutVC lo hi es.length fun l h => K (.sub id x n l h)
 | _ => False
def sliceX (n : Nat) (d : D) (lo hi : Option (Option (IntKind × Int))) (H : HMap) (K : D → Prop) : Prop := match d with
 | .list n' es => n' = n ∧ (match lo, hi with
   | none, none => K (.list n es)
   | some (some (_, l)), none => 0 ≤ l ∧ l ≤ es.length ∧ K (.list n (es.drop l.toNat))
   | none, some (some (_, h)) => 0 ≤ h ∧ h ≤ es.length ∧ K (.list n (es.take h.toNat))
   | some (some (_, l)), some (some (_, h)) => 0 ≤ l ∧ l ≤ h ∧ h ≤ es.length ∧ K (.list n ((es.take h.toNat).drop l.toNat))
   | _, _ => False)
 | .own id x => sliceR n id x lo hi (H id) K
 | .sub id x n' a b => n' = n ∧ cutVC lo hi (b - a) fun l h => K (.sub id x n (a + l) (a + h))
 | .v (.slice none 0 0) => cutVC lo hi 0 fun _ _ => K (.v (.slice none 0 0))
 | _ => False
@[simp] theorem sliceX_nh (n n' : Nat) (es : List D) (k : IntKind) (l : Int) (H : HMap) (K : D → Prop) : sliceX n (.list n' es) none (some (some (k, l))) H K = (n' = n ∧ 0 ≤ l ∧ l ≤ es.length ∧ K (.list n (es.take l.toNat))) := id rfl
def ssliceX (d : D) (lo hi : Option (Option (IntKind × Int))) (K : D → Prop) : Prop := match d with
 | .v (.string s) => (match lo, hi with
   | none, none => K (.v (.string (s.extract 0 s.size)))
   | some (some (_, l)), none => 0 ≤ l ∧ l ≤ s.size ∧ K (.v (.string (s.extract l.toNat s.size)))
   | none, some (some (_, h)) => 0 ≤ h ∧ h ≤ s.size ∧ K (.v (.string (s.extract 0 h.toNat)))
   | some (some (_, l)), some (some (_, h)) => 0 ≤ l ∧ l ≤ h ∧ h ≤ s.size ∧ K (.v (.string (s.extract l.toNat h.toNat)))
   | _, _ => False)
 | _ => False
@[simp] theorem ssliceX_ln (s : ByteArray) (k : IntKind) (l : Int) (K : D → Prop) : ssliceX (.v (.string s)) (some (some (k, l))) none K = (0 ≤ l ∧ l ≤ s.size ∧ K (.v (.string (s.extract l.toNat s.size)))) := id rfl
@[simp] theorem ssliceX_nh (s : ByteArray) (k : IntKind) (l : Int) (K : D → Prop) : ssliceX (.v (.string s)) none (some (some (k, l))) K = (0 ≤ l ∧ l ≤ s.size ∧ K (.v (.string (s.extract 0 l.toNat)))) := id rfl
@[simp] theorem ssliceX_lh (s : ByteArray) (k k' : IntKind) (l h : Int) (K : D → Prop) : ssliceX (.v (.string s)) (some (some (k, l))) (some (some (k', h))) K = (0 ≤ l ∧ l ≤ h ∧ h ≤ s.size ∧ K (.v (.string (s.extract l.toNat h.toNat)))) := id rfl
def faddrX (off : Nat) (d : D) (K : D → Prop) : Prop := match d with
 | .cptr cs o => K (.cptr cs (o + off))
 | .bptr id b o => K (.bptr id b (o + off))
 | .eptr id x n i o => K (.eptr id x n i (o + off))
 | _ => False
@[simp] theorem faddrX_c (off : Nat) (cs : List D) (o : Nat) (K : D → Prop) : faddrX off (.cptr cs o) K = K (.cptr cs (o + off)) := id rfl
@[simp] theorem faddrX_b (off i b o : Nat) (K : D → Prop) : faddrX off (.bptr i b o) K = K (.bptr i b (o + off)) := id rfl
def fldX (agg : Bool) (sz off : Nat) (d : D) (K : D → Prop) : Prop := match d with
 | .agg cs => off + sz ≤ cs.length ∧ K (ldD agg sz cs off)
 | _ => False
@[simp] theorem fldX_a (agg : Bool) (sz off : Nat) (cs : List D) (K : D → Prop) : fldX agg sz off (.agg cs) K = (off + sz ≤ cs.length ∧ K (ldD agg sz cs off)) := id rfl
def iaddrR (n : Nat) (k : Int) (id : Nat) (x : Value) (r : Option Res) (K : D → Prop) : Prop := match r with
 | some (.row x' _ n' es) => x' = x ∧ n' = n ∧ 0 ≤ k ∧ k < es.length ∧ K (.eptr id x n k.toNat 0)
 | _ => False
def iaddrX (n : Nat) (i d : D) (H : HMap) (K : D → Prop) : Prop := match i with
 | .v (.int _ k) => match d with
   | .list n' es => n' = n ∧ 0 ≤ k ∧ k < es.length ∧ ∀ d, es[k.toNat]? = some d → K (.cptr d.cells 0)
   | .own id x => iaddrR n k id x (H id) K
   | .sub id x n' lo hi => n' = n ∧ 0 ≤ k ∧ k < (hi - lo : Nat) ∧ K (.eptr id x n (lo + k.toNat) 0)
   | _ => False
 | _ => False
@[simp] theorem iaddrX_l (n : Nat) (kd : IntKind) (k : Int) (n' : Nat) (es : List D) (H : HMap) (K : D → Prop) : iaddrX n (.v (.int kd k)) (.list n' es) H K = (n' = n ∧ 0 ≤ k ∧ k < es.length ∧ ∀ d, es[k.toNat]? = some d → K (.cptr d.cells 0)) := id rfl
@[simp] theorem iaddrX_o (n : Nat) (kd : IntKind) (k : Int) (i : Nat) (x : Value) (H : HMap) (K : D → Prop) : iaddrX n (.v (.int kd k)) (.own i x) H K = iaddrR n k i x (H i) K := id rfl
@[simp] theorem iaddrR_s (n : Nat) (k : Int) (i : Nat) (x x' : Value) (el n' : Nat) (es : List D) (K : D → Prop) : iaddrR n k i x (some (.row x' el n' es)) K = (x' = x ∧ n' = n ∧ 0 ≤ k ∧ k < es.length ∧ K (.eptr i x n k.toNat 0)) := id rfl
def sidxX (i d : D) (K : D → Prop) : Prop := match i with
 | .v (.int _ k) => match d with
   | .v (.string s) => 0 ≤ k ∧ k < s.size ∧ ∀ c, s.data[k.toNat]? = some c → K (.v (.int .u8 c.toNat))
   | _ => False
 | _ => False
@[simp] theorem sidxX_s (kd : IntKind) (k : Int) (s : ByteArray) (K : D → Prop) : sidxX (.v (.int kd k)) (.v (.string s)) K = (0 ≤ k ∧ k < s.size ∧ ∀ c, s.data[k.toNat]? = some c → K (.v (.int .u8 c.toNat))) := id rfl
def extO (o : Option D) (K : D → Prop) : Prop := match o with
 | some d => K d
 | none => False
def extX (d : D) (i : Nat) (K : D → Prop) : Prop := match d with
 | .tup ds => extO ds[i]? K
 | _ => False
@[simp] theorem extX_t (ds : List D) (i : Nat) (K : D → Prop) : extX (.tup ds) i K = extO ds[i]? K := id rfl
@[simp] theorem extO_s (d : D) (K : D → Prop) : extO (some d) K = K d := id rfl
def lenR (x : Value) (r : Option Res) (K : D → Prop) : Prop := match r with
 | some (.row x' _ _ es) => x' = x ∧ ((es.length : Int) ≤ 9223372036854775807 → K (.v (.int .i64 es.length)))
 | _ => False
def lenX (d : D) (H : HMap) (K : D → Prop) : Prop := match d with
 | .list _ es => (es.length : Int) ≤ 9223372036854775807 → K (.v (.int .i64 es.length))
 | .own id x => lenR x (H id) K
 | .v (.slice _ n _) => K (.v (.int .i64 n))
 | .sub _ _ _ lo hi => ((hi - lo : Nat) : Int) ≤ 9223372036854775807 → K (.v (.int .i64 (hi - lo : Nat)))
 | _ => False
@[simp] theorem lenX_l (n : Nat) (es : List D) (H : HMap) (K : D → Prop) : lenX (.list n es) H K = ((es.length : Int) ≤ 9223372036854775807 → K (.v (.int .i64 es.length))) := id rfl
@[simp] theorem lenX_o (i : Nat) (x : Value) (H : HMap) (K : D → Prop) : lenX (.own i x) H K = lenR x (H i) K := id rfl
@[simp] theorem lenX_vs (a : Option Addr) (n c : Nat) (H : HMap) (K : D → Prop) : lenX (.v (.slice a n c)) H K = K (.v (.int .i64 n)) := id rfl
@[simp] theorem lenR_s (x x' : Value) (el n : Nat) (es : List D) (K : D → Prop) : lenR x (some (.row x' el n es)) K = (x' = x ∧ ((es.length : Int) ≤ 9223372036854775807 → K (.v (.int .i64 es.length)))) := id rfl
def bstR (x : Value) (r : Option Res) (K : D → Prop) : Prop := match r with
 | some (.row x' _ n es) => x' = x ∧ n = 1 ∧ byL es = true ∧ K (.v (.string (byS es)))
 | _ => False
@[simp] theorem bstR_r (x x' : Value) (el n : Nat) (es : List D) (K : D → Prop) : bstR x (some (.row x' el n es)) K = (x' = x ∧ n = 1 ∧ byL es = true ∧ K (.v (.string (byS es)))) := id rfl
def bstX (d : D) (H : HMap) (K : D → Prop) : Prop := match d with
 | .own i x => bstR x (H i) K
 | .v (.slice none 0 0) => K (.v (.string ⟨#[]⟩))
 | _ => False
@[simp] theorem bstX_o (i : Nat) (x : Value) (H : HMap) (K : D → Prop) : bstX (.own i x) H K = bstR x (H i) K := id rfl
def mkifO (t : Nat) (o : Option (List Value)) (K : D → Prop) : Prop := match o with
 | some xs => K (.v (.iface t (.agg xs.toArray)))
 | none => False
@[simp] theorem mkifO_s (t : Nat) (xs : List Value) (K : D → Prop) : mkifO t (some xs) K = K (.v (.iface t (.agg xs.toArray))) := id rfl
def mkifX (t : Nat) (d : D) (K : D → Prop) : Prop := match d with
 | .agg cs => mkifO t (pvs cs) K
 | _ => False
@[simp] theorem mkifX_a (t : Nat) (cs : List D) (K : D → Prop) : mkifX t (.agg cs) K = mkifO t (pvs cs) K := id rfl
@[simp] theorem pvs_n : pvs [] = some [] := id rfl
@[simp] theorem pvs_c (x : Value) (l : List D) : pvs (.v x :: l) = (pvs l).map (x :: ·) := id rfl
def slenX (d : D) (K : D → Prop) : Prop := match d with
 | .v (.string s) => (s.size : Int) ≤ 9223372036854775807 → K (.v (.int .i64 s.size))
 | _ => False
@[simp] theorem slenX_s (s : ByteArray) (K : D → Prop) : slenX (.v (.string s)) K = ((s.size : Int) ≤ 9223372036854775807 → K (.v (.int .i64 s.size))) := id rfl
def mm2X (mx : Bool) (d e : D) (K : D → Prop) : Prop := match d, e with
 | .v (.int k a), .v (.int k' b) => k = k' ∧ K (.v (.int k (if mx then max a b else min a b)))
 | _, _ => False
@[simp] theorem mm2X_i (mx : Bool) (k k' : IntKind) (a b : Int) (K : D → Prop) : mm2X mx (.v (.int k a)) (.v (.int k' b)) K = (k = k' ∧ K (.v (.int k (if mx then max a b else min a b)))) := id rfl
@[simp ↓] theorem build_nil (σ : Sg) (cs : List D) (K : List D → Prop) : buildVC σ [] cs K = K cs := id rfl
@[simp ↓] theorem build_cons (σ : Sg) (off sz : Nat) (x : Operand) (r : List (Nat × Nat × Operand)) (cs : List D) (K : List D → Prop) : buildVC σ ((off, sz, x) :: r) cs K = ((ev σ x).kn = true ∧ (ev σ x).cells.length = sz ∧ buildVC σ r (setAt cs off (ev σ x).cells) K) := id rfl
@[simp] theorem parts_nil (n : Nat) : partsVC n [] = True := id rfl
@[simp] theorem parts_cons (n : Nat) (d : D) (r : List D) : partsVC n (d :: r) = (d.kn = true ∧ d.cells.length = n ∧ partsVC n r) := id rfl
@[simp] theorem src_l (n n' : Nat) (es : List D) (H : HMap) (K : List D → Prop) : srcVC n (.list n' es) H K = (n' = n ∧ K es) := id rfl
def storeB (sz id b off : Nat) (y : D) (r : Option Res) (H : HMap) (K : D → HMap → Prop) : Prop := match r with
 | some (.box b' cells) => b' = b ∧ off + sz ≤ cells.length ∧ K .undef (updH H id (some (.box b' (setAt cells off y.cells))))
 | _ => False
def storeE (sz id : Nat) (x : Value) (n i off : Nat) (y : D) (r : Option Res) (H : HMap) (K : D → HMap → Prop) : Prop := match r with
 | some (.row x' el n' es) => x' = x ∧ n' = n ∧ 0 < n ∧ off + sz ≤ n ∧ i < es.length ∧ ∀ d, es[i]? = some d →
    K .undef (updH H id (some (.row x' el n' (es.set i (if off = 0 ∧ sz = n then y else .agg (setAt d.cells off y.cells))))))
 | _ => False
def storeX (sz : Nat) (d y : D) (H : HMap) (K : D → HMap → Prop) : Prop := match d with
 | .bptr id b off => storeB sz id b off y (H id) H K
 | .eptr id x n i off => storeE sz id x n i off y (H id) H K
 | _ => False
@[simp] theorem storeX_b (sz i b off : Nat) (y : D) (H : HMap) (K : D → HMap → Prop) : storeX sz (.bptr i b off) y H K = storeB sz i b off y (H i) H K := id rfl
@[simp] theorem storeB_s (sz i b off b' : Nat) (y : D) (cells : List D) (H : HMap) (K : D → HMap → Prop) : storeB sz i b off y (some (.box b' cells)) H K = (b' = b ∧ off + sz ≤ cells.length ∧ K .undef (updH H i (some (.box b' (setAt cells off y.cells))))) := id rfl
def appR (el n bytes id : Nat) (x : Value) (es2 : List D) (r : Option Res) (H : HMap) (K : D → HMap → Prop) : Prop := match r with
 | some (.row x' el' n' es) => x' = x ∧ el' = el ∧ n' = n ∧ (es.length + es2.length) * bytes ≤ 140737488355328 ∧ es.length + es2.length ≤ 140737488355328 ∧ ∀ v, K (.own id v) (updH H id (some (.row v el n (es ++ es2))))
 | _ => False
def appS (el n bytes id : Nat) (x : Value) (n' lo hi : Nat) (es2 : List D) (r : Option Res) (H : HMap) (K : D → HMap → Prop) : Prop := match r with
 | some (.row x' el' n'' es) => x' = x ∧ el' = el ∧ n' = n ∧ n'' = n ∧ lo = 0 ∧ (hi + es2.length) * bytes ≤ 140737488355328 ∧ hi + es2.length ≤ 140737488355328 ∧ ∀ v, K (.own id v) (updH H id (some (.row v el n (es.take hi ++ es2))))
 | _ => False
def frzR (t : Nat) (x : Value) (id : Nat) (σ : Sg) (r : Option Res) (H : HMap) (K : Sg → HMap → Prop) : Prop := match r with
 | some (.row x' _ n' es) => x' = x ∧ K (frzG id x (.list n' es) σ) (updH H id none)
 | _ => False
def frzB (t b off : Nat) (id : Nat) (σ : Sg) (r : Option Res) (H : HMap) (K : Sg → HMap → Prop) : Prop := match r with
 | some (.box b' cs) => b' = b ∧ K (upd σ t (.cptr cs off)) (updH H id none)
 | _ => False
def frzS (t n : Nat) (x : Value) (id n' lo hi : Nat) (σ : Sg) (r : Option Res) (H : HMap) (K : Sg → HMap → Prop) : Prop := match r with
 | some (.row x' el n'' es) => x' = x ∧ n' = n'' ∧ (if n = 0 then lo = 0 ∧ ∀ v, K (upd σ t (.own id v)) (updH H id (some (.row v el n'' (es.take hi)))) else K (upd σ t (.list n'' ((es.take hi).drop lo))) (updH H id none))
 | _ => False
def frzX (t n : Nat) (d : D) (σ : Sg) (H : HMap) (K : Sg → HMap → Prop) : Prop := match d with
 | .own id x => frzR t x id σ (H id) H K
 | .bptr id b off => frzB t b off id σ (H id) H K
 | .v (.slice none 0 0) => K (upd σ t (.list n [])) H
 | .sub id x n' lo hi => frzS t n x id n' lo hi σ (H id) H K
 | .agg cs => frzL cs H fun cs' H' => K (upd σ t (.agg cs')) H'
 | _ => K σ H
@[simp ↓] theorem fr_x (t n : Nat) (σ : Sg) (H : HMap) (K : Sg → HMap → Prop) : frzVC t n σ H K = frzX t n (σ t) σ H K := id rfl
@[simp] theorem frzX_o (t n i : Nat) (x : Value) (σ : Sg) (H : HMap) (K : Sg → HMap → Prop) : frzX t n (.own i x) σ H K = frzR t x i σ (H i) H K := id rfl
@[simp] theorem frzX_b (t n i b off : Nat) (σ : Sg) (H : HMap) (K : Sg → HMap → Prop) : frzX t n (.bptr i b off) σ H K = frzB t b off i σ (H i) H K := id rfl
@[simp] theorem frzR_s (t i : Nat) (x x' : Value) (el n' : Nat) (es : List D) (σ : Sg) (H : HMap) (K : Sg → HMap → Prop) : frzR t x i σ (some (.row x' el n' es)) H K = (x' = x ∧ K (frzG i x (.list n' es) σ) (updH H i none)) := id rfl
@[simp] theorem frzD_o (id : Nat) (x : Value) (L : D) (i : Nat) (y : Value) : frzD id x L (.own i y) = open Classical in (if i = id ∧ y = x then L else .own i y) := _root_.id rfl
@[simp] theorem frzD_a (id : Nat) (x : Value) (L : D)  : frzD id x L (.any) = .any := _root_.id rfl
@[simp] theorem frzD_g (id : Nat) (x : Value) (L : D) (cs : List D) : frzD id x L (.agg cs) = .agg cs := _root_.id rfl
@[simp] theorem frzD_c (id : Nat) (x : Value) (L : D) (cs : List D) (o : Nat) : frzD id x L (.cptr cs o) = .cptr cs o := _root_.id rfl
@[simp] theorem frzD_b (id : Nat) (x : Value) (L : D) (i b o : Nat) : frzD id x L (.bptr i b o) = .bptr i b o := _root_.id rfl
@[simp] theorem frzB_s (t b off i b' : Nat) (cs : List D) (σ : Sg) (H : HMap) (K : Sg → HMap → Prop) : frzB t b off i σ (some (.box b' cs)) H K = (b' = b ∧ K (upd σ t (.cptr cs off)) (updH H i none)) := id rfl
def storP (r sz : Nat) (d y : D) (H : HMap) (K : D → HMap → Prop) : Prop := match d with
 | .bptr id b off => id = r ∧ storeB sz r b off y (H r) H K
 | .eptr id x n i off => id = r ∧ storeE sz r x n i off y (H r) H K
 | _ => False
@[simp] theorem storP_b (r sz i b off : Nat) (y : D) (H : HMap) (K : D → HMap → Prop) : storP r sz (.bptr i b off) y H K = (i = r ∧ storeB sz r b off y (H r) H K) := id rfl
def appN (dst : Option Nat) (el n bytes : Nat) (es2 : List D) (H : HMap) (K : D → HMap → Prop) : Prop := match dst with
 | some t => es2.length * bytes ≤ 140737488355328 ∧ es2.length ≤ 140737488355328 ∧ ∀ v, K (.own t v) (updH H t (some (.row v el n es2)))
 | none => False
def appX (dst : Option Nat) (el n bytes : Nat) (d : D) (es2 : List D) (H : HMap) (K : D → HMap → Prop) : Prop := match d with
 | .own id x => appR el n bytes id x es2 (H id) H K
 | .v (.slice none 0 0) => appN dst el n bytes es2 H K
 | .sub id x n' lo hi => appS el n bytes id x n' lo hi es2 (H id) H K
 | _ => False
@[simp] theorem appX_o (dst : Option Nat) (el n bytes i : Nat) (x : Value) (es2 : List D) (H : HMap) (K : D → HMap → Prop) : appX dst el n bytes (.own i x) es2 H K = appR el n bytes i x es2 (H i) H K := id rfl
@[simp] theorem appX_n (t : Nat) (el n bytes : Nat) (es2 : List D) (H : HMap) (K : D → HMap → Prop) : appX (some t) el n bytes (.v (.slice none 0 0)) es2 H K = (es2.length * bytes ≤ 140737488355328 ∧ es2.length ≤ 140737488355328 ∧ ∀ v, K (.own t v) (updH H t (some (.row v el n es2)))) := id rfl
@[simp] theorem appR_s (el n bytes i : Nat) (x x' : Value) (es2 : List D) (el' n' : Nat) (es : List D) (H : HMap) (K : D → HMap → Prop) : appR el n bytes i x es2 (some (.row x' el' n' es)) H K = (x' = x ∧ el' = el ∧ n' = n ∧ (es.length + es2.length) * bytes ≤ 140737488355328 ∧ es.length + es2.length ≤ 140737488355328 ∧ ∀ v, K (.own i v) (updH H i (some (.row v el n (es ++ es2))))) := id rfl
def callX (S : Nat → Spc) (f : D) (d : Nat) (args : List D) (H : HMap) (K : D → HMap → Prop) : Prop := match f with
 | .clo g caps => (S g).pt d (args ++ caps) H K
 | _ => False
@[simp] theorem callX_c (S : Nat → Spc) (g : Nat) (caps : List D) (d : Nat) (args : List D) (H : HMap) (K : D → HMap → Prop) : callX S (.clo g caps) d args H K = (S g).pt d (args ++ caps) H K := id rfl
@[congr] theorem preBx_cg {r : Nat} {dst : Option Nat} {s : Spc} {args : List D} {H : HMap} {K : D → HMap → Prop} {s₁ : Spc} {args₁ : List D} (hs : s = s₁) (hargs : args = args₁) : preBx r dst s args H K = preBx r dst s₁ args₁ H K := by subst hs; subst hargs; rfl
@[congr] theorem preX_cg {dst : Option Nat} {s : Spc} {args : List D} {H : HMap} {K : D → HMap → Prop} {s₁ : Spc} {args₁ : List D} (hs : s = s₁) (hargs : args = args₁) : preX dst s args H K = preX dst s₁ args₁ H K := by subst hs; subst hargs; rfl
section
variable {S : Nat → Spc} {σ : Sg} {H Hr : HMap} {K : D → HMap → Prop}

@[simp ↓] theorem c_mv (dst : Option Nat) (x : Operand) : callVC S (.mv x) dst σ H K = ((fun d => K d H) (ev σ x)) := id rfl
@[simp ↓] theorem q_mv (dst : Option Nat) (x : Operand) : preVC S (.mv x) dst σ Hr H K = ((fun d => K d H) (ev σ x)) := id rfl
@[simp ↓] theorem c_pick (dst : Option Nat) (c x y : Operand) : callVC S (.pick c x y) dst σ H K = (pickX (ev σ c) ((fun d => K d H) (ev σ x)) ((fun d => K d H) (ev σ y))) := id rfl
@[simp ↓] theorem c_build (dst : Option Nat) (z : List Value) (ps : List (Nat × Nat × Operand)) : callVC S (.build z ps) dst σ H K = (buildVC σ ps (z.map cst) fun cs => (fun d => K d H) (.agg cs)) := id rfl
@[simp ↓] theorem q_build (dst : Option Nat) (z : List Value) (ps : List (Nat × Nat × Operand)) : preVC S (.build z ps) dst σ Hr H K = (buildVC σ ps (z.map cst) fun cs => (fun d => K d H) (.agg cs)) := id rfl
@[simp ↓] theorem c_bslice (dst : Option Nat) (el n : Nat) (ps : List Operand) : callVC S (.bslice el n ps) dst σ H K = (partsVC n (ps.map (ev σ)) ∧ (fun d => K d H) (.list n (ps.map (ev σ)))) := id rfl
@[simp ↓] theorem q_bslice (dst : Option Nat) (el n : Nat) (ps : List Operand) : preVC S (.bslice el n ps) dst σ Hr H K = (partsVC n (ps.map (ev σ)) ∧ (fun d => K d H) (.list n (ps.map (ev σ)))) := id rfl
@[simp ↓] theorem c_load (dst : Option Nat) (agg : Bool) (sz : Nat) (x : Operand) : callVC S (.load agg sz x) dst σ H K = (loadX agg sz (ev σ x) H (fun d => K d H)) := id rfl
@[simp ↓] theorem q_load (dst : Option Nat) (agg : Bool) (sz : Nat) (x : Operand) : preVC S (.load agg sz x) dst σ Hr H K = (loadX agg sz (ev σ x) Hr (fun d => K d H)) := id rfl
@[simp ↓] theorem c_nilck (dst : Option Nat) (x : Operand) : callVC S (.nilck x) dst σ H K = (nilX (ev σ x) (fun d => K d H)) := id rfl
@[simp ↓] theorem q_nilck (dst : Option Nat) (x : Operand) : preVC S (.nilck x) dst σ Hr H K = (nilX (ev σ x) (fun d => K d H)) := id rfl
@[simp ↓] theorem c_arith (dst : Option Nat) (op : BinOp) (x y : Operand) : callVC S (.arith op x y) dst σ H K = (arithX op (ev σ x) (ev σ y) (fun d => K d H)) := id rfl
@[simp ↓] theorem q_arith (dst : Option Nat) (op : BinOp) (x y : Operand) : preVC S (.arith op x y) dst σ Hr H K = (arithX op (ev σ x) (ev σ y) (fun d => K d H)) := id rfl
@[simp ↓] theorem c_cmp (dst : Option Nat) (op : BinOp) (x y : Operand) : callVC S (.cmp op x y) dst σ H K = (cmpX op (ev σ x) (ev σ y) (fun d => K d H)) := id rfl
@[simp ↓] theorem c_eql (dst : Option Nat) (neg agg : Bool) (ks : List EqK) (x y : Operand) : callVC S (.eql neg agg ks x y) dst σ H K = (eqlX neg (eqD agg ks (ev σ x) (ev σ y)) (fun d => K d H)) := id rfl
@[simp ↓] theorem c_scat (dst : Option Nat) (x y : Operand) : callVC S (.scat x y) dst σ H K = (scatX (ev σ x) (ev σ y) (fun d => K d H)) := id rfl
@[simp ↓] theorem q_scat (dst : Option Nat) (x y : Operand) : preVC S (.scat x y) dst σ Hr H K = (scatX (ev σ x) (ev σ y) (fun d => K d H)) := id rfl
@[simp ↓] theorem c_not (dst : Option Nat) (x : Operand) : callVC S (.not x) dst σ H K = (notX (ev σ x) (fun d => K d H)) := id rfl
@[simp ↓] theorem c_neg (dst : Option Nat) (x : Operand) : callVC S (.neg x) dst σ H K = (negX (ev σ x) (fun d => K d H)) := id rfl
@[simp ↓] theorem c_conv (dst : Option Nat) (k : IntKind) (x : Operand) : callVC S (.conv k x) dst σ H K = (convX k (ev σ x) (fun d => K d H)) := id rfl
@[simp ↓] theorem c_clo (dst : Option Nat) (f : Nat) (xs : List Operand) : callVC S (.clo f xs) dst σ H K = ((fun d => K d H) (.clo f (xs.map (ev σ)))) := id rfl
@[simp ↓] theorem c_slice (dst : Option Nat) (n : Nat) (x : Operand) (lo hi : Option Operand) : callVC S (.slice n x lo hi) dst σ H K = (sliceX n (ev σ x) (lo.map fun o => asI (ev σ o)) (hi.map fun o => asI (ev σ o)) H (fun d => K d H)) := id rfl
@[simp ↓] theorem c_sslice (dst : Option Nat) (x : Operand) (lo hi : Option Operand) : callVC S (.sslice x lo hi) dst σ H K = (ssliceX (ev σ x) (lo.map fun o => asI (ev σ o)) (hi.map fun o => asI (ev σ o)) (fun d => K d H)) := id rfl
@[simp ↓] theorem c_faddr (dst : Option Nat) (off : Nat) (x : Operand) : callVC S (.faddr off x) dst σ H K = (faddrX off (ev σ x) (fun d => K d H)) := id rfl
@[simp ↓] theorem q_faddr (dst : Option Nat) (off : Nat) (x : Operand) : preVC S (.faddr off x) dst σ Hr H K = (faddrX off (ev σ x) (fun d => K d H)) := id rfl
@[simp ↓] theorem c_fld (dst : Option Nat) (agg : Bool) (sz off : Nat) (x : Operand) : callVC S (.fld agg sz off x) dst σ H K = (fldX agg sz off (ev σ x) (fun d => K d H)) := id rfl
@[simp ↓] theorem c_iaddr (dst : Option Nat) (n : Nat) (x i : Operand) : callVC S (.iaddr n x i) dst σ H K = (iaddrX n (ev σ i) (ev σ x) H (fun d => K d H)) := id rfl
@[simp ↓] theorem q_iaddr (dst : Option Nat) (n : Nat) (x i : Operand) : preVC S (.iaddr n x i) dst σ Hr H K = (iaddrX n (ev σ i) (ev σ x) Hr (fun d => K d H)) := id rfl
@[simp ↓] theorem c_sidx (dst : Option Nat) (x i : Operand) : callVC S (.sidx x i) dst σ H K = (sidxX (ev σ i) (ev σ x) (fun d => K d H)) := id rfl
@[simp ↓] theorem c_ext (dst : Option Nat) (x : Operand) (i : Nat) : callVC S (.ext x i) dst σ H K = (extX (ev σ x) i (fun d => K d H)) := id rfl
@[simp ↓] theorem q_ext (dst : Option Nat) (x : Operand) (i : Nat) : preVC S (.ext x i) dst σ Hr H K = (extX (ev σ x) i (fun d => K d H)) := id rfl
@[simp ↓] theorem c_len (dst : Option Nat) (x : Operand) : callVC S (.len x) dst σ H K = (lenX (ev σ x) H (fun d => K d H)) := id rfl
@[simp ↓] theorem q_len (dst : Option Nat) (x : Operand) : preVC S (.len x) dst σ Hr H K = (lenX (ev σ x) Hr (fun d => K d H)) := id rfl
@[simp ↓] theorem c_slen (dst : Option Nat) (x : Operand) : callVC S (.slen x) dst σ H K = (slenX (ev σ x) (fun d => K d H)) := id rfl
@[simp ↓] theorem c_bstr (dst : Option Nat) (x : Operand) : callVC S (.bstr x) dst σ H K = (bstX (ev σ x) H (fun d => K d H)) := id rfl
@[simp ↓] theorem c_mkif (dst : Option Nat) (t : Nat) (x : Operand) : callVC S (.mkif t x) dst σ H K = (mkifX t (ev σ x) (fun d => K d H)) := id rfl
@[simp ↓] theorem c_mm2 (dst : Option Nat) (mx : Bool) (x y : Operand) : callVC S (.mm mx [x, y]) dst σ H K = mm2X mx (ev σ x) (ev σ y) (fun d => K d H) := id rfl
@[simp ↓] theorem c_boxi (dst : Option Nat) (el : Nat) (x : Operand) : callVC S (.box el true x) dst σ H K = ((ev σ x).kn = true ∧ K (.cptr (ev σ x).cells 0) H) := id rfl
@[simp ↓] theorem c_alloc (t el : Nat) (z : List Value) : callVC S (.alloc el z) (some t) σ H K = ∀ b, K (.bptr t b 0) (updH H t (some (.box b (z.map cst)))) := id rfl
@[simp ↓] theorem c_box (t el : Nat) (x : Operand) : callVC S (.box el false x) (some t) σ H K = ((ev σ x).kn = true ∧ ∀ b, K (.bptr t b 0) (updH H t (some (.box b (ev σ x).cells)))) := id rfl
@[simp ↓] theorem c_tbx (t el : Nat) (x : Operand) : callVC S (.tbx el x) (some t) σ H K = ((ev σ x).kn = true ∧ ∀ b, K (.bptr t b 0) (updH H t (some (.tbox el b (ev σ x).cells)))) := id rfl
@[simp ↓] theorem c_mslice (t el n : Nat) (ps : List Operand) : callVC S (.mslice el n ps) (some t) σ H K = (partsVC n (ps.map (ev σ)) ∧ ∀ x, K (.own t x) (updH H t (some (.row x el n (ps.map (ev σ)))))) := id rfl
@[simp ↓] theorem q_mm2 (dst : Option Nat) (mx : Bool) (x y : Operand) : preVC S (.mm mx [x, y]) dst σ Hr H K = mm2X mx (ev σ x) (ev σ y) (fun d => K d H) := id rfl
@[simp ↓] theorem q_alloc (t el : Nat) (z : List Value) : preVC S (.alloc el z) (some t) σ Hr H K = ∀ b, K (.bptr t b 0) (updH H t (some (.box b (z.map cst)))) := id rfl
@[simp ↓] theorem q_store (dst : Option Nat) (r sz : Nat) (x y : Operand) : preVC S (.store (some r) sz x y) dst σ Hr H K = ((ev σ y).kn = true ∧ (ev σ y).cells.length = sz ∧ storP r sz (ev σ x) (ev σ y) H K) := by
 simp only [preVC]
 congr 2
@[simp ↓] theorem c_store (dst : Option Nat) (rt : Option Nat) (sz : Nat) (x y : Operand) : callVC S (.store rt sz x y) dst σ H K = ((ev σ y).kn = true ∧ (ev σ y).cells.length = sz ∧ storeX sz (ev σ x) (ev σ y) H K) := id rfl
@[simp ↓] theorem c_append (dst : Option Nat) (rt : Option Nat) (el n bytes : Nat) (x y : Operand) : callVC S (.append rt el n bytes x y) dst σ H K = srcVC n (ev σ y) H fun es2 => appX dst el n bytes (ev σ x) es2 H K := id rfl
@[simp ↓] theorem c_call (dst : Option Nat) (f : Nat) (args : List Operand) : callVC S (.call f args) dst σ H K = (S f).pt (dst.getD 0) (args.map (ev σ)) H K := id rfl
@[simp ↓] theorem q_callb (dst : Option Nat) (r f : Nat) (args : List Operand) : preVC S (.callb r f args) dst σ Hr H K = preBx r dst (S f) (args.map (ev σ)) H K := id rfl
@[simp ↓] theorem c_callv (dst : Option Nat) (f : Operand) (args : List Operand) : callVC S (.callv f args) dst σ H K = callX S (ev σ f) (dst.getD 0) (args.map (ev σ)) H K := id rfl
@[simp ↓] theorem q_call (dst : Option Nat) (f : Nat) (args : List Operand) : preVC S (.call f args) dst σ Hr H K = preX dst (S f) (args.map (ev σ)) H K := id rfl
end
/-! ### Slots and resources -/
theorem u_upd (σ : Sg) (t s : Nat) (d : D) : upd σ t d s = if s = t then d else σ s := id rfl
theorem u_updO (σ : Sg) (t : Nat) (d : D) : updO σ (some t) d = upd σ t d := id rfl
theorem u_updN (σ : Sg) (d : D) : updO σ none d = σ := id rfl
theorem u_updH (H : HMap) (t s : Nat) (d : Option Res) : updH H t d s = if s = t then d else H s := id rfl
attribute [simp] u_updO u_updN u_updH
@[simp] theorem v_tmp (σ : Sg) (t : Nat) : ev σ (.tmp t) = σ t := id rfl
@[simp] theorem v_const (σ : Sg) (x : Value) : ev σ (.const x) = cst x := id rfl
@[simp] theorem v_func (σ : Sg) (f : Nat) : ev σ (.func f) = .clo f [] := id rfl
@[simp] theorem v_bool (b : Bool) : cst (.bool b) = .v (.bool b) := id rfl
@[simp] theorem v_int (k : IntKind) (n : Int) : cst (.int k n) = .v (.int k n) := id rfl
@[simp] theorem v_str (s : ByteArray) : cst (.string s) = .v (.string s) := id rfl
@[simp] theorem v_ptr (a : Option Addr) : cst (.pointer a) = .v (.pointer a) := id rfl
@[simp] theorem v_slice (a : Option Addr) (l c : Nat) : cst (.slice a l c) = .v (.slice a l c) := id rfl
theorem k_nil (σ : Sg) : keepS [] σ = fun _ => .any := id rfl
theorem k_cons (t : Nat) (l : List Nat) (σ : Sg) : keepS (t :: l) σ = upd (keepS l σ) t (σ t) := id rfl
@[simp] theorem kh_nil (H : HMap) : keepH [] H = fun _ => none := id rfl
@[simp] theorem kh_cons (t : Nat) (l : List Nat) (H : HMap) : keepH (t :: l) H = updH (keepH l H) t (H t) := id rfl
@[simp] theorem noH_at (i : Nat) : noH i = none := id rfl
@[simp] theorem ma_nil (σ : Sg) : MatchS [] σ = True := id rfl
@[simp] theorem ma_cons (t : Nat) (d : D) (l : List (Nat × D)) (σ : Sg) : MatchS ((t, d) :: l) σ = (Sub (σ t) d ∧ MatchS l σ) := id rfl
@[simp] theorem mm_nil (H : HMap) : MatchH [] H = True := id rfl
@[simp] theorem mm_cons (t : Nat) (d : Res) (l : List (Nat × Res)) (H : HMap) : MatchH ((t, d) :: l) H = ((H t = some d ∨ isNilRow d) ∧ MatchH l H) := id rfl
@[simp] theorem sub_self (d : D) : Sub d d = True := by
 cases d <;> simp [Sub]
@[simp] theorem sub_v (a : D) (x : Value) : Sub a (.v x) = (a = .v x) := id rfl
@[simp] theorem sub_own (i : Nat) (x : Value) (y : Value) (j : Nat) : Sub (.own i x) (.own j y) = (x = y) := by simp [Sub]
@[simp] theorem sub_ownv (x : Value) (y : Value) (j : Nat) : Sub (.v x) (.own j y) = (x = y) := by simp [Sub]
@[simp] theorem ld_t (sz : Nat) (cs : List D) (off : Nat) : ldD true sz cs off = .agg ((cs.drop off).take sz) := id rfl
@[simp] theorem ld_f (sz : Nat) (cs : List D) (off : Nat) : ldD false sz cs off = (cs[off]?).getD .any := id rfl
@[simp ↓] theorem rk_norm (rs : List CRes) (K : D → HMap → Prop) (σ : Sg) (H : HMap) : retK rs K .norm σ H = resL rs σ H fun ds => K (oneOrTup ds) H := id rfl
@[simp ↓] theorem rk_ret (rs : List CRes) (K : D → HMap → Prop) (σ : Sg) (H : HMap) : retK rs K .ret σ H = resL rs σ H fun ds => K (oneOrTup ds) H := id rfl
@[simp ↓] theorem rl_nil (σ : Sg) (H : HMap) (K : List D → Prop) : resL [] σ H K = K [] := id rfl
@[simp ↓] theorem rl_tmp (t : Nat) (r : List CRes) (σ : Sg) (H : HMap) (K : List D → Prop) : resL (.tmp t :: r) σ H K = resL r σ H fun ds => K (σ t :: ds) := id rfl
@[simp ↓] theorem rl_cell (t : Nat) (agg : Bool) (sz : Nat) (r : List CRes) (σ : Sg) (H : HMap) (K : List D → Prop) : resL (.cell t agg sz :: r) σ H K = loadX agg sz (σ t) H fun d => resL r σ H fun ds => K (d :: ds) := id rfl
@[simp] theorem oo_1 (d : D) : oneOrTup [d] = d := id rfl
@[simp] theorem oo_0 : oneOrTup [] = .tup [] := id rfl
@[simp] theorem oo_2 (d e : D) (l : List D) : oneOrTup (d :: e :: l) = .tup (d :: e :: l) := id rfl
@[simp] theorem kn_v (x : Value) : D.kn (.v x) = true := id rfl
@[simp] theorem cells_v (x : Value) : D.cells (.v x) = [.v x] := id rfl
@[simp] theorem kn_agg (cs : List D) : D.kn (.agg cs) = true := id rfl
@[simp] theorem cells_agg (cs : List D) : D.cells (.agg cs) = cs := id rfl
@[simp] theorem kn_list (n : Nat) (es : List D) : D.kn (.list n es) = true := id rfl
@[simp] theorem cells_list (n : Nat) (es : List D) : D.cells (.list n es) = [.list n es] := id rfl
@[simp] theorem kn_bptr (i b o : Nat) : D.kn (.bptr i b o) = true := id rfl
@[simp] theorem cells_bptr (i b o : Nat) : D.cells (.bptr i b o) = [.bptr i b o] := id rfl
@[simp] theorem kn_own (i : Nat) (x : Value) : D.kn (.own i x) = true := id rfl
@[simp] theorem cells_own (i : Nat) (x : Value) : D.cells (.own i x) = [.own i x] := id rfl
@[simp] theorem asI_i (k : IntKind) (n : Int) : asI (.v (.int k n)) = some (k, n) := id rfl
attribute [simp] setAt
@[simp] theorem en_int (n : Int) : enc n = .v (.int .i64 n) := rfl
@[simp] theorem en_bool (b : Bool) : enc b = .v (.bool b) := rfl
@[simp] theorem en_str (s : ByteArray) : enc s = .v (.string s) := rfl
@[simp] theorem en_list {X : Type} [Cod X] (l : List X) : enc l = .list (Cod.wd X) (l.map enc) := rfl
@[simp] theorem wd_int : Cod.wd Int = 1 := rfl
@[simp] theorem wd_bool : Cod.wd Bool = 1 := rfl
@[simp] theorem wd_str : Cod.wd ByteArray = 1 := rfl
@[simp] theorem wd_list {X : Type} [Cod X] : Cod.wd (List X) = 1 := rfl
/-! ### What is reckoned first -/
@[congr] theorem iteX_cg {d : D} {A : Prop} {B : Prop} {d₁ : D} (hd : d = d₁) : iteX d A B = iteX d₁ A B := by subst hd; rfl
@[congr] theorem guardX_cg {s : Nat} {b : Bool} {σ : Sg} {d : D} {yes : Sg → Prop} {no : Sg → Prop} {d₁ : D} (hd : d = d₁) : guardX s b σ d yes no = guardX s b σ d₁ yes no := by subst hd; rfl
@[congr] theorem pickX_cg {d : D} {A : Prop} {B : Prop} {d₁ : D} (hd : d = d₁) : pickX d A B = pickX d₁ A B := by subst hd; rfl
@[congr] theorem loadB_cg {agg : Bool} {sz : Nat} {b : Nat} {off : Nat} {r : Option Res} {K : D → Prop} {r₁ : Option Res} (hr : r = r₁) : loadB agg sz b off r K = loadB agg sz b off r₁ K := by subst hr; rfl
@[congr] theorem loadE_cg {agg : Bool} {sz : Nat} {x : Value} {n : Nat} {i : Nat} {off : Nat} {r : Option Res} {K : D → Prop} {r₁ : Option Res} (hr : r = r₁) : loadE agg sz x n i off r K = loadE agg sz x n i off r₁ K := by subst hr; rfl
@[congr] theorem loadX_cg {agg : Bool} {sz : Nat} {d : D} {H : HMap} {K : D → Prop} {d₁ : D} (hd : d = d₁) : loadX agg sz d H K = loadX agg sz d₁ H K := by subst hd; rfl
@[congr] theorem nilX_cg {d : D} {K : D → Prop} {d₁ : D} (hd : d = d₁) : nilX d K = nilX d₁ K := by subst hd; rfl
@[congr] theorem arithX_cg {op : BinOp} {d : D} {e : D} {K : D → Prop} {d₁ : D} {e₁ : D} (hd : d = d₁) (he : e = e₁) : arithX op d e K = arithX op d₁ e₁ K := by subst hd; subst he; rfl
@[congr] theorem cmpO_cg {o : Option Bool} {K : D → Prop} {o₁ : Option Bool} (ho : o = o₁) : cmpO o K = cmpO o₁ K := by subst ho; rfl
@[congr] theorem cmpX_cg {op : BinOp} {d : D} {e : D} {K : D → Prop} {d₁ : D} {e₁ : D} (hd : d = d₁) (he : e = e₁) : cmpX op d e K = cmpX op d₁ e₁ K := by subst hd; subst he; rfl
@[congr] theorem eqlX_cg {neg : Bool} {o : Option Bool} {K : D → Prop} {o₁ : Option Bool} (ho : o = o₁) : eqlX neg o K = eqlX neg o₁ K := by subst ho; rfl
@[congr] theorem scatX_cg {d : D} {e : D} {K : D → Prop} {d₁ : D} {e₁ : D} (hd : d = d₁) (he : e = e₁) : scatX d e K = scatX d₁ e₁ K := by subst hd; subst he; rfl
@[congr] theorem notX_cg {d : D} {K : D → Prop} {d₁ : D} (hd : d = d₁) : notX d K = notX d₁ K := by subst hd; rfl
@[congr] theorem negX_cg {d : D} {K : D → Prop} {d₁ : D} (hd : d = d₁) : negX d K = negX d₁ K := by subst hd; rfl
@[congr] theorem convX_cg {k : IntKind} {d : D} {K : D → Prop} {d₁ : D} (hd : d = d₁) : convX k d K = convX k d₁ K := by subst hd; rfl
@[congr] theorem faddrX_cg {off : Nat} {d : D} {K : D → Prop} {d₁ : D} (hd : d = d₁) : faddrX off d K = faddrX off d₁ K := by subst hd; rfl
@[congr] theorem fldX_cg {agg : Bool} {sz : Nat} {off : Nat} {d : D} {K : D → Prop} {d₁ : D} (hd : d = d₁) : fldX agg sz off d K = fldX agg sz off d₁ K := by subst hd; rfl
@[congr] theorem iaddrR_cg {n : Nat} {k : Int} {id : Nat} {x : Value} {r : Option Res} {K : D → Prop} {r₁ : Option Res} (hr : r = r₁) : iaddrR n k id x r K = iaddrR n k id x r₁ K := by subst hr; rfl
@[congr] theorem iaddrX_cg {n : Nat} {i : D} {d : D} {H : HMap} {K : D → Prop} {i₁ : D} {d₁ : D} (hi : i = i₁) (hd : d = d₁) : iaddrX n i d H K = iaddrX n i₁ d₁ H K := by subst hi; subst hd; rfl
@[congr] theorem sidxX_cg {i : D} {d : D} {K : D → Prop} {i₁ : D} {d₁ : D} (hi : i = i₁) (hd : d = d₁) : sidxX i d K = sidxX i₁ d₁ K := by subst hi; subst hd; rfl
@[congr] theorem extO_cg {o : Option D} {K : D → Prop} {o₁ : Option D} (ho : o = o₁) : extO o K = extO o₁ K := by subst ho; rfl
@[congr] theorem extX_cg {d : D} {i : Nat} {K : D → Prop} {d₁ : D} (hd : d = d₁) : extX d i K = extX d₁ i K := by subst hd; rfl
@[congr] theorem lenR_cg {x : Value} {r : Option Res} {K : D → Prop} {r₁ : Option Res} (hr : r = r₁) : lenR x r K = lenR x r₁ K := by subst hr; rfl
@[congr] theorem lenX_cg {d : D} {H : HMap} {K : D → Prop} {d₁ : D} (hd : d = d₁) : lenX d H K = lenX d₁ H K := by subst hd; rfl
@[congr] theorem bstR_cg {x : Value} {r : Option Res} {K : D → Prop} {r₁ : Option Res} (hr : r = r₁) : bstR x r K = bstR x r₁ K := by subst hr; rfl
@[congr] theorem bstX_cg {d : D} {H : HMap} {K : D → Prop} {d₁ : D} (hd : d = d₁) : bstX d H K = bstX d₁ H K := by subst hd; rfl
@[congr] theorem mkifX_cg {t : Nat} {d : D} {K : D → Prop} {d₁ : D} (hd : d = d₁) : mkifX t d K = mkifX t d₁ K := by subst hd; rfl
@[congr] theorem slenX_cg {d : D} {K : D → Prop} {d₁ : D} (hd : d = d₁) : slenX d K = slenX d₁ K := by subst hd; rfl
@[congr] theorem mm2X_cg {mx : Bool} {d : D} {e : D} {K : D → Prop} {d₁ : D} {e₁ : D} (hd : d = d₁) (he : e = e₁) : mm2X mx d e K = mm2X mx d₁ e₁ K := by subst hd; subst he; rfl
@[congr] theorem storeB_cg {sz : Nat} {id : Nat} {b : Nat} {off : Nat} {y : D} {r : Option Res} {H : HMap} {K : D → HMap → Prop} {y₁ : D} {r₁ : Option Res} (hy : y = y₁) (hr : r = r₁) : storeB sz id b off y r H K = storeB sz id b off y₁ r₁ H K := by subst hy; subst hr; rfl
@[congr] theorem storeX_cg {sz : Nat} {d : D} {y : D} {H : HMap} {K : D → HMap → Prop} {d₁ : D} {y₁ : D} (hd : d = d₁) (hy : y = y₁) : storeX sz d y H K = storeX sz d₁ y₁ H K := by subst hd; subst hy; rfl
@[congr] theorem appR_cg {el : Nat} {n : Nat} {bytes : Nat} {id : Nat} {x : Value} {es2 : List D} {r : Option Res} {H : HMap} {K : D → HMap → Prop} {es2₁ : List D} {r₁ : Option Res} (hes2 : es2 = es2₁) (hr : r = r₁) : appR el n bytes id x es2 r H K = appR el n bytes id x es2₁ r₁ H K := by subst hes2; subst hr; rfl
@[congr] theorem frzR_cg {t : Nat} {x : Value} {id : Nat} {σ : Sg} {r : Option Res} {H : HMap} {K : Sg → HMap → Prop} {r₁ : Option Res} (hr : r = r₁) : frzR t x id σ r H K = frzR t x id σ r₁ H K := by subst hr; rfl
@[congr] theorem frzB_cg {t : Nat} {b : Nat} {off : Nat} {id : Nat} {σ : Sg} {r : Option Res} {H : HMap} {K : Sg → HMap → Prop} {r₁ : Option Res} (hr : r = r₁) : frzB t b off id σ r H K = frzB t b off id σ r₁ H K := by subst hr; rfl
@[congr] theorem frzX_cg {t : Nat} {n : Nat} {d : D} {σ : Sg} {H : HMap} {K : Sg → HMap → Prop} {d₁ : D} (hd : d = d₁) : frzX t n d σ H K = frzX t n d₁ σ H K := by subst hd; rfl
@[congr] theorem storP_cg {r : Nat} {sz : Nat} {d : D} {y : D} {H : HMap} {K : D → HMap → Prop} {d₁ : D} {y₁ : D} (hd : d = d₁) (hy : y = y₁) : storP r sz d y H K = storP r sz d₁ y₁ H K := by subst hd; subst hy; rfl
@[congr] theorem appX_cg {dst : Option Nat} {el : Nat} {n : Nat} {bytes : Nat} {d : D} {es2 : List D} {H : HMap} {K : D → HMap → Prop} {dst₁ : Option Nat} {d₁ : D} {es2₁ : List D} (hdst : dst = dst₁) (hd : d = d₁) (hes2 : es2 = es2₁) : appX dst el n bytes d es2 H K = appX dst₁ el n bytes d₁ es2₁ H K := by subst hdst; subst hd; subst hes2; rfl
@[congr] theorem callX_cg {S : Nat → Spc} {f : D} {d : Nat} {args : List D} {H : HMap} {K : D → HMap → Prop} {f₁ : D} {args₁ : List D} (hf : f = f₁) (hargs : args = args₁) : callX S f d args H K = callX S f₁ d args₁ H K := by subst hf; subst hargs; rfl
@[congr] theorem srcVC_cg {n : Nat} {d d' : D} {H : HMap} {K : List D → Prop} (h : d = d') : srcVC n d H K = srcVC n d' H K := by subst h; rfl
@[congr] theorem Spc_pt_cg {s s' : Spc} {d : Nat} {ds ds' : List D} {H : HMap} {K : D → HMap → Prop} (h : s = s') (h' : ds = ds') : s.pt d ds H K = s'.pt d ds' H K := by subst h; subst h'; rfl
end Go.Gv

namespace Go.Gv
open Cod (enc dec)

@[simp] theorem fz_v (H : HMap) (x y : Value) : FrzTo H (.v x) (.v y) = (x = y) := by
 refine propext ⟨fun h => ?_, fun h => h ▸ .same _⟩
 cases h; rfl
@[simp] theorem fz_same (H : HMap) (d : D) : FrzTo H d d = True := propext ⟨fun _ => trivial, fun _ => .same d⟩
@[simp] theorem fz_nil (H : HMap) (n : Nat) (es : List D) : FrzTo H (.v (.slice none 0 0)) (.list n es) = (es = []) := by
 refine propext ⟨fun h => ?_, fun h => h ▸ .nil n⟩
 cases h; rfl
theorem fz_tup2 {H : HMap} {a b a' b' : D} (h1 : FrzTo H a a') (h2 : FrzTo H b b') : FrzTo H (.tup [a, b]) (.tup [a', b']) :=
 .tup rfl fun k c c' hc hc' => by
  match k with
  | 0 => simp at hc hc'; subst hc; subst hc'; exact h1
  | 1 => simp at hc hc'; subst hc; subst hc'; exact h2
  | k + 2 => simp at hc
theorem fz_tup3 {H : HMap} {a b c a' b' c' : D} (h1 : FrzTo H a a') (h2 : FrzTo H b b') (h3 : FrzTo H c c') : FrzTo H (.tup [a, b, c]) (.tup [a', b', c']) :=
 .tup rfl fun k d d' hc hc' => by
  match k with
  | 0 => simp at hc hc'; subst hc; subst hc'; exact h1
  | 1 => simp at hc hc'; subst hc; subst hc'; exact h2
  | 2 => simp at hc hc'; subst hc; subst hc'; exact h3
  | k + 3 => simp at hc

section
variable {P : Program} {S : Nat → Spc} {f : Nat} {im : List Nat} {cc : CC} {rs : List CRes} {N : Nat}

end
end Go.Gv
