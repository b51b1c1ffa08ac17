/- A part of the framework and of the walks: T10. -/
import Derived.Test.YticbieanhfdnoaaGreatDoorGb14
set_option linter.unusedSimpArgs false
set_option linter.unusedVariables false

namespace Go.Gv
open Cod (enc dec)
section
variable {S:Nat→Spc} {K:Ex→Sg→aa→Prop} {σ:Sg} {H:aa}
def Gm (S:Nat→Spc) (b:CC) (K:Ex→Sg→aa→Prop):Ex→Sg→aa→Prop:=fun e σ H=> match e with
 | .norm=> vc S b K σ H
 | e=> K e σ H
def JD (id:Nat) (K:Ex→Sg→aa→Prop):Ex→Sg→aa→Prop:=fun e σ H=> match e with
 | .ex i=> if i=id then K .norm σ H else K (.ex i) σ H
 | e=> K e σ H
def Jb (inv:PX) (x:inv.X) (K:Ex→Sg→aa→Prop):Ex→Sg→aa→Prop:=fun e σ' H'=> match e with
 | .norm=> ∃y,inv.P y∧Wk σ' H' (inv.s y) (inv.h y)∧inv.m y < inv.m x
 | e=> K e σ' H'
def EQ (d:D) (A B:Prop):Prop:=match d with
 | .v (.bool t)=> (t=true→A)∧(t=false→B)
 | _=> False
@[simp ↓] theorem Pn:vc S .skip K σ H=K .norm σ H:=id rfl
@[simp ↓] theorem Oj (l:List CI):vc S (.reg l) K σ H=vU S l σ H (K .norm):=id rfl
@[simp ↓] theorem Z5 (p l:List CI):vc S (.regd p l) K σ H=jf S p σ (bD p H) H fun σ H=> vU S l σ H (K .norm):=id rfl
@[simp ↓] theorem Fi (a b:CC):vc S (.seq a b) K σ H=vc S a (Gm S b K) σ H:=id rfl
@[simp ↓] theorem Ab (b:CC):Gm S b K .norm σ H=vc S b K σ H:=id rfl
@[simp ↓] theorem LD (b:CC) (i:Nat):Gm S b K (.ex i) σ H=K (.ex i) σ H:=id rfl
@[simp ↓] theorem Po (b:CC):Gm S b K .ret σ H=K .ret σ H:=id rfl
@[simp ↓] theorem Sc (c:Operand) (a b:CC):vc S (.ite c a b) K σ H=EQ (ev σ c) (vc S a K σ H) (vc S b K σ H):=id rfl
@[simp] theorem Pr (t:Bool) (A B:Prop):EQ (.v (.bool t)) A B=((t=true→A)∧(t=false→B)):=id rfl
@[simp high] theorem Z7 (A B:Prop):EQ (.v (.bool true)) A B=A:=by simp[EQ]
@[simp high] theorem Z8 (A B:Prop):EQ (.v (.bool false)) A B=B:=by simp[EQ]
@[simp ↓] theorem Dt (id:Nat) (b:CC):vc S (.block id b) K σ H=vc S b (JD id K) σ H:=_root_.id rfl
@[simp ↓] theorem Pt (id:Nat):JD id K .norm σ H=K .norm σ H:=_root_.id rfl
@[simp ↓] theorem LG (id:Nat):JD id K .ret σ H=K .ret σ H:=_root_.id rfl
@[simp ↓] theorem Hj (id i:Nat):JD id K (.ex i) σ H=if i=id then K .norm σ H else K (.ex i) σ H:=_root_.id rfl
@[simp ↓] theorem Ps (i:Nat):vc S (.exit i) K σ H=K (.ex i) σ H:=id rfl
@[simp ↓] theorem qdb:vc S .ret K σ H=K .ret σ H:=id rfl
@[simp ↓] theorem Z6 (ls lh:List Nat) (c:CC):vc S (.keep ls lh c) K σ H=vc S c K (gE ls σ) (hU lh H):=id rfl
theorem Ds (k:Nat) (b:CC):vc S (.loop k b) K σ H= ∃inv:PX,(∃x,inv.P x∧Wk σ H (inv.s x) (inv.h x))∧ ∀x,inv.P x→vc S b (Jb inv x K) (inv.s x) (inv.h x):=id rfl
theorem LF (k:Nat) (c:CC):vc S (.cut k c) K σ H= ∃ (σ':Sg) (H':aa),Wk σ H σ' H'∧vc S c K σ' H':=id rfl
@[simp ↓] theorem Pq (inv:PX) (x:inv.X):Jb inv x K .norm σ H= ∃y,inv.P y∧Wk σ H (inv.s y) (inv.h y)∧inv.m y < inv.m x:=id rfl
@[simp ↓] theorem Pp (inv:PX) (x:inv.X):Jb inv x K .ret σ H=K .ret σ H:=id rfl
@[simp ↓] theorem LE (inv:PX) (x:inv.X) (i:Nat):Jb inv x K (.ex i) σ H=K (.ex i) σ H:=id rfl
end
def jF (s:Nat) (b:Bool) (σ:Sg) (d:D) (yes no:Sg→Prop):Prop:=match d with
 | .v (.bool t)=> (t=b→yes (lQ σ s (.v (.bool b))))∧(t=(!b)→no (lQ σ s (.v (.bool (!b)))))
 | .undef=> no σ
 | _=> False
@[simp high] theorem qd1 (s:Nat) (σ:Sg) (yes no:Sg→Prop):jF s true σ (.v (.bool true)) yes no=yes (lQ σ s (.v (.bool true))):=by simp[jF]
@[simp high] theorem qd2 (s:Nat) (σ:Sg) (yes no:Sg→Prop):jF s true σ (.v (.bool false)) yes no=no (lQ σ s (.v (.bool false))):=by simp[jF]
@[simp high] theorem qd3 (s:Nat) (σ:Sg) (yes no:Sg→Prop):jF s false σ (.v (.bool true)) yes no=no (lQ σ s (.v (.bool true))):=by simp[jF]
@[simp high] theorem qd4 (s:Nat) (σ:Sg) (yes no:Sg→Prop):jF s false σ (.v (.bool false)) yes no=yes (lQ σ s (.v (.bool false))):=by simp[jF]
@[simp] theorem qd0 (s:Nat) (b:Bool) (σ:Sg) (yes no:Sg→Prop):jF s b σ .undef yes no=no σ:=id rfl
@[simp] theorem qd8 (s:Nat) (b t:Bool) (σ:Sg) (yes no:Sg→Prop):jF s b σ (.v (.bool t)) yes no=((t=b→yes (lQ σ s (.v (.bool b))))∧(t=(!b)→no (lQ σ s (.v (.bool (!b)))))):=id rfl
section
variable {S:Nat→Spc} {σ:Sg} {H Hr:aa}
@[simp ↓] theorem Og (K:Sg→aa→Prop):vU S [] σ H K=K σ H:=id rfl
@[simp ↓] theorem O9 (K:Sg→aa→Prop) (d:Option Nat) (c:COp) (r:List CI):vU S (.op d none c::r) σ H K=aO S c d σ H fun x H'=> vU S r (ej σ d x) H' K:=id rfl
@[simp ↓] theorem qbs (K:Sg→aa→Prop) (d:Option Nat) (s:Nat) (b:Bool) (c:COp) (r:List CI):vU S (.op d (some (s,b)) c::r) σ H K=jF s b σ (σ s) (fun σ=> aO S c d σ H fun x H'=> vU S r (ej σ d x) H' K) (fun σ=> vU S r (ej σ d .undef) H K):=id rfl
@[simp ↓] theorem qbk (K:Sg→aa→Prop):jf S [] σ Hr H K=K σ H:=id rfl
@[simp ↓] theorem qbl (K:Sg→aa→Prop) (a b:Nat) (r:List CI):jf S (.frz a b::r) σ Hr H K=jf S r σ (bD r Hr) H K:=id rfl
@[simp ↓] theorem qdE (K:Sg→aa→Prop) (d:Option Nat) (c:COp) (r:List CI):jf S (.op d none c::r) σ Hr H K=aC S c d σ Hr H fun x H'=> jf S r (ej σ d x) Hr H' K:=id rfl
@[simp ↓] theorem qbj (K:Sg→aa→Prop) (d:Option Nat) (s:Nat) (b:Bool) (c:COp) (r:List CI):jf S (.op d (some (s,b)) c::r) σ Hr H K=jF s b σ (σ s) (fun σ=> aC S c d σ Hr H fun x H'=> jf S r (ej σ d x) Hr H' K) (fun σ=> jf S r (ej σ d .undef) Hr H K):=id rfl
end
def wY (d:D) (A B:Prop):Prop:=match d with
 | .v (.bool t)=> (t=true→A)∧(t=false→B)
 | _=> False
@[simp high] theorem TL (A B:Prop):wY (.v (.bool true)) A B=A:=by simp[wY]
@[simp high] theorem TM (A B:Prop):wY (.v (.bool false)) A B=B:=by simp[wY]
def EN (agg:Bool) (sz b off:Nat) (r:Option Res) (K:D→Prop):Prop:=match r with
 | some (.box b' cells)=> b'=b∧off+sz≤cells.length∧K (DM agg sz cells off)
 | _=> False
def EM (agg:Bool) (sz:Nat) (x:Value) (n i off:Nat) (r:Option Res) (K:D→Prop):Prop:=match r with
 | some (.row x' _ n' es)=> x'=x∧n'=n∧off+sz≤n∧i < es.length∧ ∀d,es[i]?=some d→K (DM agg sz d.cells off)
 | _=> False
def w4 (agg:Bool) (sz:Nat) (d:D) (H:aa) (K:D→Prop):Prop:=match d with
 | .cptr cs off=> off+sz≤cs.length∧K (DM agg sz cs off)
 | .bptr id b off=> EN agg sz b off (H id) K
 | .eptr id x n i off=> EM agg sz x n i off (H id) K
 | _=> False
@[simp] theorem T0 (agg:Bool) (sz:Nat) (cs:List D) (off:Nat) (H:aa) (K:D→Prop):w4 agg sz (.cptr cs off) H K=(off+sz≤cs.length∧K (DM agg sz cs off)):=id rfl
@[simp] theorem Ua (agg:Bool) (sz:Nat) (i b off:Nat) (H:aa) (K:D→Prop):w4 agg sz (.bptr i b off) H K=EN agg sz b off (H i) K:=id rfl
@[simp] theorem TZ (agg:Bool) (sz:Nat) (i:Nat) (x:Value) (n k off:Nat) (H:aa) (K:D→Prop):w4 agg sz (.eptr i x n k off) H K=EM agg sz x n k off (H i) K:=id rfl
@[simp] theorem Uc (agg:Bool) (sz b off b':Nat) (cells:List D) (K:D→Prop):EN agg sz b off (some (.box b' cells)) K=(b'=b∧off+sz≤cells.length∧K (DM agg sz cells off)):=id rfl
@[simp] theorem Ub (agg:Bool) (sz:Nat) (x:Value) (n i off:Nat) (x':Value) (el n':Nat) (es:List D) (K:D→Prop):EM agg sz x n i off (some (.row x' el n' es)) K=(x'=x∧n'=n∧off+sz≤n∧i < es.length∧ ∀d,es[i]?=some d→K (DM agg sz d.cells off)):=id rfl
def Ja (d:D) (K:D→Prop):Prop:=match d with
 | .cptr cs off=> K (.cptr cs off)
 | .bptr id b off=> K (.bptr id b off)
 | .eptr id x n i off=> K (.eptr id x n i off)
 | .tape L=> K (.tape L)
 | .clo f caps=> K (.clo f caps)
 | _=> False
@[simp] theorem Ww (cs:List D) (off:Nat) (K:D→Prop):Ja (.cptr cs off) K=K (.cptr cs off):=id rfl
@[simp] theorem Wx (i b off:Nat) (K:D→Prop):Ja (.bptr i b off) K=K (.bptr i b off):=id rfl
def Aq (op:BinOp) (d e:D) (K:D→Prop):Prop:=match d,e with
 | .v (.int k a), .v (.int k' b)=> JJ op k k'∧fQ op k a b K
 | _,_=> False
@[simp] theorem L5 (op:BinOp) (k k':IntKind) (a b:Int) (K:D→Prop):Aq op (.v (.int k a)) (.v (.int k' b)) K=(JJ op k k'∧fQ op k a b K):=id rfl
@[simp] theorem Nf (k k':IntKind):JJ .add k k'=(k=k'):=id rfl
@[simp] theorem Uj (k k':IntKind):JJ .sub k k'=(k=k'):=id rfl
@[simp] theorem Uo (k k':IntKind):JJ .mul k k'=(k=k'):=id rfl
@[simp] theorem Un (k k':IntKind):JJ .quo k k'=(k=k'):=id rfl
@[simp] theorem Um (k k':IntKind):JJ .rem k k'=(k=k'):=id rfl
@[simp] theorem Up (k k':IntKind):JJ .and k k'=(k=k'):=id rfl
@[simp] theorem ZK (k k':IntKind):JJ .or k k'=(k=k'):=id rfl
@[simp] theorem Ul (k k':IntKind):JJ .shl k k'=True:=id rfl
@[simp] theorem Uk (k k':IntKind):JJ .shr k k'=True:=id rfl
@[simp ↓] theorem JG (k:IntKind) (a b:Int) (K:D→Prop):fQ .add k a b K=(InR k (a+b)∧K (.v (.int k (a+b)))):=id rfl
@[simp ↓] theorem QB (k:IntKind) (a b:Int) (K:D→Prop):fQ .sub k a b K=(InR k (a -b)∧K (.v (.int k (a -b)))):=id rfl
@[simp ↓] theorem QG (k:IntKind) (a b:Int) (K:D→Prop):fQ .mul k a b K=(InR k (a*b)∧K (.v (.int k (a*b)))):=id rfl
@[simp ↓] theorem QF (k:IntKind) (a b:Int) (K:D→Prop):fQ .quo k a b K=(b≠0∧InR k (a.tdiv b)∧K (.v (.int k (a.tdiv b)))):=id rfl
@[simp ↓] theorem QE (k:IntKind) (a b:Int) (K:D→Prop):fQ .rem k a b K=(b≠0∧K (.v (.int k (a.tmod b)))):=id rfl
@[simp ↓] theorem QH (k:IntKind) (a b:Int) (K:D→Prop):fQ .and k a b K=K (.v (.int k (Hv k a b))):=id rfl
@[simp ↓] theorem SD (k:IntKind) (a b:Int) (K:D→Prop):fQ .or k a b K=K (.v (.int k (Rn k a b))):=id rfl
@[simp ↓] theorem QD (k:IntKind) (a b:Int) (K:D→Prop):fQ .shl k a b K=(0≤b∧K (.v (.int k (Em k a b)))):=id rfl
@[simp ↓] theorem QC (k:IntKind) (a b:Int) (K:D→Prop):fQ .shr k a b K=(0≤b∧K (.v (.int k (Kj k a b)))):=id rfl
def MZ (d:D) (K:D→Prop):Prop:=match d with
 | .v (.int _ n)=> K (.v (.string (Utf8.encode n)))
 | _=> False
@[simp] theorem We (k:IntKind) (n:Int) (K:D→Prop):MZ (.v (.int k n)) K=K (.v (.string (Utf8.encode n))):=id rfl
def Hm (o:Option Bool) (K:D→Prop):Prop:=match o with | some t=> K (.v (.bool t)) | none=> False
@[simp] theorem PD (t:Bool) (K:D→Prop):Hm (some t) K=K (.v (.bool t)):=id rfl
def JA (op:BinOp) (d e:D) (K:D→Prop):Prop:=match d,e with
 | .v (.int k a), .v (.int k' b)=> k=k'∧Hm (Fv op a b) K
 | .v (.string a), .v (.string b)=> Hm (Hl op a b) K
 | _,_=> False
@[simp] theorem PB (op:BinOp) (k k':IntKind) (a b:Int) (K:D→Prop):JA op (.v (.int k a)) (.v (.int k' b)) K=(k=k'∧Hm (Fv op a b) K):=id rfl
@[simp] theorem qai (op:BinOp) (a b:ByteArray) (K:D→Prop):JA op (.v (.string a)) (.v (.string b)) K=Hm (Hl op a b) K:=id rfl
@[simp] theorem LS (a b:Int):Fv .lss a b=some (decide (a < b)):=id rfl
@[simp] theorem So (a b:Int):Fv .leq a b=some (decide (a≤b)):=id rfl
@[simp] theorem Sp (a b:Int):Fv .gtr a b=some (decide (b < a)):=id rfl
@[simp] theorem Sq (a b:Int):Fv .geq a b=some (decide (b≤a)):=id rfl
@[simp] theorem Sl (a b:ByteArray):Hl .lss a b=some (Op.bytesLess a.toList b.toList):=id rfl
@[simp] theorem Sm (a b:ByteArray):Hl .gtr a b=some (!(Op.bytesLess a.toList b.toList || a.toList==b.toList)):=id rfl
@[simp] theorem Sn (a b:ByteArray):Hl .geq a b=some (!Op.bytesLess a.toList b.toList):=id rfl
def Jt (neg:Bool) (o:Option Bool) (K:D→Prop):Prop:=match o with
 | some p=> K (.v (.bool (if neg then !p else p)))
 | none=> False
@[simp] theorem ZZ (p:Bool) (K:D→Prop):Jt false (some p) K=K (.v (.bool p)):=id rfl
@[simp] theorem ZY (p:Bool) (K:D→Prop):Jt true (some p) K=K (.v (.bool (!p))):=id rfl
@[simp] theorem qc7 (k:FV) (a b:D):Pj false [k] a b=JK k a b:=id rfl
@[simp] theorem qc6 (ks:List FV) (a b:List D):Pj true ks (.agg a) (.agg b)=NA ks a b:=id rfl
@[simp] theorem qc5:NA [] [] []=some true:=id rfl
@[simp] theorem qc4 (k:FV) (ks:List FV) (a b:D) (as bs:List D):NA (k::ks) (a::as) (b::bs)=(JK k a b).bind fun p=> (NA ks as bs).bind fun q=> some (p && q):=id rfl
@[simp] theorem qc9 (k k':IntKind) (a b:Int):JK .int (.v (.int k a)) (.v (.int k' b))=if k=k' then some (decide (a=b)) else none:=id rfl
@[simp] theorem qc8 (a b:ByteArray):JK .str (.v (.string a)) (.v (.string b))=some (decide (a=b)):=id rfl
@[simp] theorem qda (a b:Bool):JK .bool (.v (.bool a)) (.v (.bool b))=some (decide (a=b)):=id rfl
def M7 (d:D) (K:D→Prop):Prop:=match d with
 | .v (.bool b)=> K (.v (.bool (!b)))
 | _=> False
@[simp] theorem Ws (b:Bool) (K:D→Prop):M7 (.v (.bool b)) K=K (.v (.bool (!b))):=id rfl
def Ih (k:IntKind) (d:D) (K:D→Prop):Prop:=match d with
 | .v (.int _ n)=> K (.v (.int k (k.wrap n)))
 | _=> False
@[simp] theorem UW (k k':IntKind) (n:Int) (K:D→Prop):Ih k (.v (.int k' n)) K=K (.v (.int k (k.wrap n))):=id rfl
def Gl (n id:Nat) (x:Value) (lo hi:Option (Option (IntKind×Int))) (r:Option Res) (K:D→Prop):Prop:=match r with
 | some (.row x' _ n' es)=> x'=x∧n'=n∧ng lo hi es.length fun l h=> K (.sub id x n l h)
 | _=> False
@[simp] theorem Q9 (n i:Nat) (x x':Value) (el n':Nat) (es:List D) (lo hi:Option (Option (IntKind×Int))) (K:D→Prop):Gl n i x lo hi (some (.row x' el n' es)) K=(x'=x∧n'=n∧ng lo hi es.length fun l h=> K (.sub i x n l h)):=id rfl
@[simp] theorem qae (k:IntKind) (l:Int) (len:Nat) (K:Nat→Nat→Prop):ng (some (some (k,l))) none len K=(0≤l∧l≤len∧K l.toNat len):=id rfl
def yG (n:Nat) (d:D) (lo hi:Option (Option (IntKind×Int))) (H:aa) (K:D→Prop):Prop:=match d with
 | .list n' es=> n'=n∧(match lo,hi with
   | none,none=> K (.list n es)
   | some (some (_,l)),none=> 0≤l∧l≤es.length∧K (.list n (es.drop l.toNat))
   | none,some (some (_,h))=> 0≤h∧h≤es.length∧K (.list n (es.take h.toNat))
   | some (some (_,l)),some (some (_,h))=> 0≤l∧l≤h∧h≤es.length∧K (.list n ((es.take h.toNat).drop l.toNat))
   | _,_=> False)
 | .own id x=> Gl n id x lo hi (H id) K
 | .sub id x n' a b=> n'=n∧ng lo hi (b -a) fun l h=> K (.sub id x n (a+l) (a+h))
 | .v (.slice none 0 0)=> ng lo hi 0 fun _ _=> K (.v (.slice none 0 0))
 | _=> False
@[simp] theorem Q8 (n i:Nat) (x:Value) (lo hi:Option (Option (IntKind×Int))) (H:aa) (K:D→Prop):yG n (.own i x) lo hi H K=Gl n i x lo hi (H i) K:=id rfl
@[simp] theorem Qf (n n':Nat) (es:List D) (k:IntKind) (l:Int) (H:aa) (K:D→Prop):yG n (.list n' es) (some (some (k,l))) none H K=(n'=n∧0≤l∧l≤es.length∧K (.list n (es.drop l.toNat))):=id rfl
@[simp] theorem Qe (n n':Nat) (es:List D) (k:IntKind) (l:Int) (H:aa) (K:D→Prop):yG n (.list n' es) none (some (some (k,l))) H K=(n'=n∧0≤l∧l≤es.length∧K (.list n (es.take l.toNat))):=id rfl
def xX (d:D) (lo hi:Option (Option (IntKind×Int))) (K:D→Prop):Prop:=match d with
 | .v (.string s)=> (match lo,hi with
   | none,none=> K (.v (.string (s.extract 0 s.size)))
   | some (some (_,l)),none=> 0≤l∧l≤s.size∧K (.v (.string (s.extract l.toNat s.size)))
   | none,some (some (_,h))=> 0≤h∧h≤s.size∧K (.v (.string (s.extract 0 h.toNat)))
   | some (some (_,l)),some (some (_,h))=> 0≤l∧l≤h∧h≤s.size∧K (.v (.string (s.extract l.toNat h.toNat)))
   | _,_=> False)
 | _=> False
@[simp] theorem OM (s:ByteArray) (k:IntKind) (l:Int) (K:D→Prop):xX (.v (.string s)) (some (some (k,l))) none K=(0≤l∧l≤s.size∧K (.v (.string (s.extract l.toNat s.size)))):=id rfl
@[simp] theorem ON (s:ByteArray) (k k':IntKind) (l h:Int) (K:D→Prop):xX (.v (.string s)) (some (some (k,l))) (some (some (k',h))) K=(0≤l∧l≤h∧h≤s.size∧K (.v (.string (s.extract l.toNat h.toNat)))):=id rfl
def tQ (off:Nat) (d:D) (K:D→Prop):Prop:=match d with
 | .cptr cs o=> K (.cptr cs (o+off))
 | .bptr id b o=> K (.bptr id b (o+off))
 | .eptr id x n i o=> K (.eptr id x n i (o+off))
 | _=> False
@[simp] theorem R3 (off:Nat) (cs:List D) (o:Nat) (K:D→Prop):tQ off (.cptr cs o) K=K (.cptr cs (o+off)):=id rfl
@[simp] theorem R5 (off i b o:Nat) (K:D→Prop):tQ off (.bptr i b o) K=K (.bptr i b (o+off)):=id rfl
@[simp] theorem R2 (off:Nat) (i:Nat) (x:Value) (n k o:Nat) (K:D→Prop):tQ off (.eptr i x n k o) K=K (.eptr i x n k (o+off)):=id rfl
def zW (n:Nat) (k:Int) (id:Nat) (x:Value) (r:Option Res) (K:D→Prop):Prop:=match r with
 | some (.row x' _ n' es)=> x'=x∧n'=n∧0≤k∧k < es.length∧K (.eptr id x n k.toNat 0)
 | _=> False
def tO (n:Nat) (i d:D) (H:aa) (K:D→Prop):Prop:=match i with
 | .v (.int _ k)=> match d with
   | .list n' es=> n'=n∧0≤k∧k < es.length∧ ∀d,es[k.toNat]?=some d→K (.cptr d.cells 0)
   | .own id x=> zW n k id x (H id) K
   | .sub id x n' lo hi=> n'=n∧0≤k∧k < (hi -lo:Nat)∧K (.eptr id x n (lo+k.toNat) 0)
   | _=> False
 | _=> False
@[simp] theorem RL (n:Nat) (kd:IntKind) (k:Int) (i:Nat) (x:Value) (n' lo hi:Nat) (H:aa) (K:D→Prop):tO n (.v (.int kd k)) (.sub i x n' lo hi) H K=(n'=n∧0≤k∧k < (hi -lo:Nat)∧K (.eptr i x n (lo+k.toNat) 0)):=id rfl
@[simp] theorem RN (n:Nat) (kd:IntKind) (k:Int) (n':Nat) (es:List D) (H:aa) (K:D→Prop):tO n (.v (.int kd k)) (.list n' es) H K=(n'=n∧0≤k∧k < es.length∧ ∀d,es[k.toNat]?=some d→K (.cptr d.cells 0)):=id rfl
@[simp] theorem RM (n:Nat) (kd:IntKind) (k:Int) (i:Nat) (x:Value) (H:aa) (K:D→Prop):tO n (.v (.int kd k)) (.own i x) H K=zW n k i x (H i) K:=id rfl
@[simp] theorem RO (n:Nat) (k:Int) (i:Nat) (x x':Value) (el n':Nat) (es:List D) (K:D→Prop):zW n k i x (some (.row x' el n' es)) K=(x'=x∧n'=n∧0≤k∧k < es.length∧K (.eptr i x n k.toNat 0)):=id rfl
def HI (i d:D) (K:D→Prop):Prop:=match i with
 | .v (.int _ k)=> match d with
   | .v (.string s)=> 0≤k∧k < s.size∧ ∀c,s.data[k.toNat]?=some c→K (.v (.int .u8 c.toNat))
   | _=> False
 | _=> False
@[simp] theorem Tt (kd:IntKind) (k:Int) (s:ByteArray) (K:D→Prop):HI (.v (.int kd k)) (.v (.string s)) K=(0≤k∧k < s.size∧ ∀c,s.data[k.toNat]?=some c→K (.v (.int .u8 c.toNat))):=id rfl
def Lw (o:Option D) (K:D→Prop):Prop:=match o with
 | some d=> K d
 | none=> False
def Lv (d:D) (i:Nat) (K:D→Prop):Prop:=match d with
 | .tup ds=> Lw ds[i]? K
 | _=> False
@[simp] theorem ZT (ds:List D) (i:Nat) (K:D→Prop):Lv (.tup ds) i K=Lw ds[i]? K:=id rfl
@[simp] theorem ZU (d:D) (K:D→Prop):Lw (some d) K=K d:=id rfl
def K6 (x:Value) (r:Option Res) (K:D→Prop):Prop:=match r with
 | some (.row x' _ _ es)=> x'=x∧((es.length:Int)≤9223372036854775807→K (.v (.int .i64 es.length)))
 | _=> False
def GX (d:D) (H:aa) (K:D→Prop):Prop:=match d with
 | .list _ es=> (es.length:Int)≤9223372036854775807→K (.v (.int .i64 es.length))
 | .own id x=> K6 x (H id) K
 | .v (.slice _ n _)=> K (.v (.int .i64 n))
 | .sub _ _ _ lo hi=> ((hi -lo:Nat):Int)≤9223372036854775807→K (.v (.int .i64 (hi -lo:Nat)))
 | _=> False
@[simp] theorem WF (n:Nat) (es:List D) (H:aa) (K:D→Prop):GX (.list n es) H K=((es.length:Int)≤9223372036854775807→K (.v (.int .i64 es.length))):=id rfl
@[simp] theorem WE (i:Nat) (x:Value) (H:aa) (K:D→Prop):GX (.own i x) H K=K6 x (H i) K:=id rfl
@[simp] theorem Ud (a:Option Addr) (n c:Nat) (H:aa) (K:D→Prop):GX (.v (.slice a n c)) H K=K (.v (.int .i64 n)):=id rfl
@[simp] theorem WG (x x':Value) (el n:Nat) (es:List D) (K:D→Prop):K6 x (some (.row x' el n es)) K=(x'=x∧((es.length:Int)≤9223372036854775807→K (.v (.int .i64 es.length)))):=id rfl
def LY (x:Value) (r:Option Res) (K:D→Prop):Prop:=match r with
 | some (.row x' _ n es)=> x'=x∧n=1∧Ol es=true∧K (.v (.string (PH es)))
 | _=> False
@[simp] theorem qaD (x x':Value) (el n:Nat) (es:List D) (K:D→Prop):LY x (some (.row x' el n es)) K=(x'=x∧n=1∧Ol es=true∧K (.v (.string (PH es)))):=id rfl
def NM (d:D) (H:aa) (K:D→Prop):Prop:=match d with
 | .own i x=> LY x (H i) K
 | .v (.slice none 0 0)=> K (.v (.string ⟨#[]⟩))
 | _=> False
@[simp] theorem qaC (i:Nat) (x:Value) (H:aa) (K:D→Prop):NM (.own i x) H K=LY x (H i) K:=id rfl
def El (d:D) (K:D→Prop):Prop:=match d with
 | .v (.string s)=> (s.size:Int)≤9223372036854775807→K (.v (.int .i64 s.size))
 | _=> False
@[simp] theorem Ts (s:ByteArray) (K:D→Prop):El (.v (.string s)) K=((s.size:Int)≤9223372036854775807→K (.v (.int .i64 s.size))):=id rfl
def KX (mx:Bool) (d e:D) (K:D→Prop):Prop:=match d,e with
 | .v (.int k a), .v (.int k' b)=> k=k'∧K (.v (.int k (if mx then max a b else min a b)))
 | _,_=> False
@[simp] theorem Wz (mx:Bool) (k k':IntKind) (a b:Int) (K:D→Prop):KX mx (.v (.int k a)) (.v (.int k' b)) K=(k=k'∧K (.v (.int k (if mx then max a b else min a b)))):=id rfl
@[simp ↓] theorem QA (σ:Sg) (cs:List D) (K:List D→Prop):gZ σ [] cs K=K cs:=id rfl
@[simp ↓] theorem PI (σ:Sg) (off sz:Nat) (x:Operand) (r:List (Nat×Nat×Operand)) (cs:List D) (K:List D→Prop):gZ σ ((off,sz,x)::r) cs K=((ev σ x).kn=true∧(ev σ x).cells.length=sz∧gZ σ r (setAt cs off (ev σ x).cells) K):=id rfl
@[simp] theorem Qj (n:Nat):iM n []=True:=id rfl
@[simp] theorem OZ (n:Nat) (d:D) (r:List D):iM n (d::r)=(d.kn=true∧d.cells.length=n∧iM n r):=id rfl
def IK (n lo hi:Nat) (x:Value) (r:Option Res) (K:List D→Prop):Prop:=match r with
 | some (.row x' _ n'' es)=> x'=x∧n''=n∧K ((es.take hi).drop lo)
 | _=> False
@[simp] theorem VP (n lo hi:Nat) (x x':Value) (el n':Nat) (es:List D) (K:List D→Prop):IK n lo hi x (some (.row x' el n' es)) K=(x'=x∧n'=n∧K ((es.take hi).drop lo)):=id rfl
@[simp] theorem qa8 (n i:Nat) (x:Value) (n' lo hi:Nat) (H:aa) (K:List D→Prop):jo n (.sub i x n' lo hi) H K=(n'=n∧IK n lo hi x (H i) K):=by
 simp only[jo]
 cases H i with
 | none=> simp[IK]
 | some r=> cases r <;> simp[IK,and_left_comm]
@[simp] theorem VR (n n':Nat) (es:List D) (H:aa) (K:List D→Prop):nq n (.list n' es) H K=(n'=n∧K es):=id rfl
@[simp] theorem VS (n:Nat) (s:ByteArray) (H:aa) (K:List D→Prop):nq n (.v (.string s)) H K=(n=1∧K (vW s)):=id rfl
def WA (t el n bytes:Nat) (agg:Bool) (z:List Value) (l c:Option (IntKind×Int)) (H:aa) (K:D→aa→Prop):Prop:=match l,c with
 | some (_,l),some (_,c)=> 0≤l∧l≤c∧bytes*c≤140737488355328∧c≤140737488355328∧ ∀x,K (.own t x) (aj H t (some (.row x el n (List.replicate l.toNat (if agg then .agg (z.map pF) else pF (z.headD (.bool false)))))))
 | _,_=> False
@[simp] theorem qbr (t el n bytes:Nat) (agg:Bool) (z:List Value) (k k':IntKind) (l c:Int) (H:aa) (K:D→aa→Prop):WA t el n bytes agg z (some (k,l)) (some (k',c)) H K=(0≤l∧l≤c∧bytes*c≤140737488355328∧c≤140737488355328∧ ∀x,K (.own t x) (aj H t (some (.row x el n (List.replicate l.toNat (if agg then .agg (z.map pF) else pF (z.headD (.bool false)))))))):=id rfl
def sT (sz id b off:Nat) (y:D) (r:Option Res) (H:aa) (K:D→aa→Prop):Prop:=match r with
 | some (.box b' cells)=> b'=b∧off+sz≤cells.length∧K .undef (aj H id (some (.box b' (setAt cells off y.cells))))
 | _=> False
def sS (sz id:Nat) (x:Value) (n i off:Nat) (y:D) (r:Option Res) (H:aa) (K:D→aa→Prop):Prop:=match r with
 | some (.row x' el n' es)=> x'=x∧n'=n∧0 < n∧off+sz≤n∧i < es.length∧ ∀d,es[i]?=some d→
    K .undef (aj H id (some (.row x' el n' (es.set i (if off=0∧sz=n then y else .agg (setAt d.cells off y.cells))))))
 | _=> False
def yC (sz:Nat) (d y:D) (H:aa) (K:D→aa→Prop):Prop:=match d with
 | .bptr id b off=> sT sz id b off y (H id) H K
 | .eptr id x n i off=> sS sz id x n i off y (H id) H K
 | _=> False
@[simp] theorem Q1 (sz i b off:Nat) (y:D) (H:aa) (K:D→aa→Prop):yC sz (.bptr i b off) y H K=sT sz i b off y (H i) H K:=id rfl
@[simp] theorem Q0 (sz i:Nat) (x:Value) (n k off:Nat) (y:D) (H:aa) (K:D→aa→Prop):yC sz (.eptr i x n k off) y H K=sS sz i x n k off y (H i) H K:=id rfl
@[simp] theorem Q3 (sz i b off b':Nat) (y:D) (cells:List D) (H:aa) (K:D→aa→Prop):sT sz i b off y (some (.box b' cells)) H K=(b'=b∧off+sz≤cells.length∧K .undef (aj H i (some (.box b' (setAt cells off y.cells))))):=id rfl
@[simp] theorem Q2 (sz i:Nat) (x x':Value) (el n n' k off:Nat) (y:D) (es:List D) (H:aa) (K:D→aa→Prop):sS sz i x n k off y (some (.row x' el n' es)) H K=(x'=x∧n'=n∧0 < n∧off+sz≤n∧k < es.length∧ ∀d,es[k]?=some d→
 K .undef (aj H i (some (.row x' el n' (es.set k (if off=0∧sz=n then y else .agg (setAt d.cells off y.cells))))))):=id rfl
def L9 (el n bytes id:Nat) (x:Value) (es2:List D) (r:Option Res) (H:aa) (K:D→aa→Prop):Prop:=match r with
 | some (.row x' el' n' es)=> x'=x∧el'=el∧n'=n∧(es.length+es2.length) *bytes≤140737488355328∧es.length+es2.length≤140737488355328∧ ∀v,K (.own id v) (aj H id (some (.row v el n (es++es2))))
 | _=> False
def qaM (el n bytes id:Nat) (x:Value) (n' lo hi:Nat) (es2:List D) (r:Option Res) (H:aa) (K:D→aa→Prop):Prop:=match r with
 | some (.row x' el' n'' es)=> x'=x∧el'=el∧n'=n∧n''=n∧lo=0∧(hi+es2.length) *bytes≤140737488355328∧hi+es2.length≤140737488355328∧ ∀v,K (.own id v) (aj H id (some (.row v el n (es.take hi++es2))))
 | _=> False
def qah (n id:Nat) (x:Value) (src:List D) (r:Option Res) (H:aa) (K:D→aa→Prop):Prop:=match r with
 | some (.row x' el n' es)=> x'=x∧n'=n∧K (.v (.int .i64 (min src.length es.length:Nat))) (aj H id (some (.row x' el n' (src.take es.length++es.drop src.length))))
 | _=> False
def LQ (n id:Nat) (x:Value) (n' lo hi:Nat) (src:List D) (r:Option Res) (H:aa) (K:D→aa→Prop):Prop:=match r with
 | some (.row x' el n'' es)=> x'=x∧n'=n∧n''=n∧K (.v (.int .i64 (min src.length (hi -lo):Nat))) (aj H id (some (.row x' el n'' (es.take lo++src.take (hi -lo) ++es.drop (lo+min src.length (hi -lo))))))
 | _=> False
def NE (n:Nat) (d:D) (src:List D) (H:aa) (K:D→aa→Prop):Prop:=match d with
 | .own id x=> qah n id x src (H id) H K
 | .sub id x n' lo hi=> LQ n id x n' lo hi src (H id) H K
 | _=> False
@[simp] theorem qaf (n i n' lo hi:Nat) (x:Value) (src:List D) (H:aa) (K:D→aa→Prop):NE n (.sub i x n' lo hi) src H K=LQ n i x n' lo hi src (H i) H K:=id rfl
@[simp] theorem qag (n i:Nat) (x x':Value) (n' lo hi:Nat) (src:List D) (el n'':Nat) (es:List D) (H:aa) (K:D→aa→Prop):LQ n i x n' lo hi src (some (.row x' el n'' es)) H K=(x'=x∧n'=n∧n''=n∧K (.v (.int .i64 (min src.length (hi -lo):Nat))) (aj H i (some (.row x' el n'' (es.take lo++src.take (hi -lo) ++es.drop (lo+min src.length (hi -lo))))))):=id rfl
def MU (d:D) (K:D→Prop):Prop:=match d with
 | .v (.string s)=> K (.list 1 (s.data.toList.map fun c=> .v (.int .u8 c.toNat)))
 | _=> False
@[simp] theorem V9 (s:ByteArray) (K:D→Prop):MU (.v (.string s)) K=K (.list 1 (s.data.toList.map fun c=> .v (.int .u8 c.toNat))):=id rfl
def Kh (t:Nat) (d:D) (H:aa) (K:D→aa→Prop):Prop:=match d with
 | .v (.string s)=> ∀b,K (.bptr t b 0) (aj H t (some (.iter b s 0)))
 | _=> False
@[simp] theorem VO (t:Nat) (s:ByteArray) (H:aa) (K:D→aa→Prop):Kh t (.v (.string s)) H K= ∀b,K (.bptr t b 0) (aj H t (some (.iter b s 0))):=id rfl
def Ki (id b:Nat) (r:Option Res) (H:aa) (K:D→aa→Prop):Prop:=match r with
 | some (.iter b' s pos)=> b'=b∧(pos < s.size→K (.tup [.v (.bool true), .v (.int .i64 pos), .v (.int .i32 (Utf8.decode s pos).1)]) (aj H id (some (.iter b' s (pos+ (Utf8.decode s pos).2)))))∧(¬pos < s.size→K (.tup [.v (.bool false)]) H)
 | _=> False
@[simp] theorem VU (id b b':Nat) (s:ByteArray) (pos:Nat) (H:aa) (K:D→aa→Prop):Ki id b (some (.iter b' s pos)) H K=(b'=b∧(pos < s.size→K (.tup [.v (.bool true), .v (.int .i64 pos), .v (.int .i32 (Utf8.decode s pos).1)]) (aj H id (some (.iter b' s (pos+ (Utf8.decode s pos).2)))))∧(¬pos < s.size→K (.tup [.v (.bool false)]) H)):=_root_.id rfl
def MQ (d:D) (H:aa) (K:D→aa→Prop):Prop:=match d with
 | .bptr id b off=> off=0∧Ki id b (H id) H K
 | _=> False
@[simp] theorem VT (i b off:Nat) (H:aa) (K:D→aa→Prop):MQ (.bptr i b off) H K=(off=0∧Ki i b (H i) H K):=id rfl
def NQ (dst:Option Nat) (el n b:Nat) (d:D) (es2:List D) (H:aa) (K:D→aa→Prop):Prop:=match dst,d with
 | some t, .v (.slice none 0 0)=> es2.length*b≤140737488355328∧es2.length≤140737488355328∧ ∀v,K (.own t v) (aj H t (some (.row v el n es2)))
 | _,_=> False
@[simp] theorem qaP (t el n b:Nat) (es2:List D) (H:aa) (K:D→aa→Prop):NQ (some t) el n b (.v (.slice none 0 0)) es2 H K=(es2.length*b≤140737488355328∧es2.length≤140737488355328∧ ∀v,K (.own t v) (aj H t (some (.row v el n es2)))):=id rfl
def L6 (el n b r:Nat) (x:Value) (es2:List D) (q:Option Res) (H:aa) (K:D→aa→Prop):Prop:=match q with
 | some (.row x' el' n' es)=> x'=x∧el'=el∧n'=n∧(es.length+es2.length) *b≤140737488355328∧es.length+es2.length≤140737488355328∧ ∀v,K (.own r v) (aj H r (some (.row v el n (es++es2))))
 | _=> False
@[simp] theorem qaJ (el n b r:Nat) (x x':Value) (el' n':Nat) (es es2:List D) (H:aa) (K:D→aa→Prop):L6 el n b r x es2 (some (.row x' el' n' es)) H K=(x'=x∧el'=el∧n'=n∧(es.length+es2.length) *b≤140737488355328∧es.length+es2.length≤140737488355328∧ ∀v,K (.own r v) (aj H r (some (.row v el n (es++es2))))):=id rfl
def NP (r el n b:Nat) (d:D) (es2:List D) (H:aa) (K:D→aa→Prop):Prop:=match d with
 | .own id x=> id=r∧L6 el n b r x es2 (H r) H K
 | _=> False
@[simp] theorem qaI (r el n b i:Nat) (x:Value) (es2:List D) (H:aa) (K:D→aa→Prop):NP r el n b (.own i x) es2 H K=(i=r∧L6 el n b r x es2 (H r) H K):=id rfl
def Ei (r sz:Nat) (d y:D) (H:aa) (K:D→aa→Prop):Prop:=match d with
 | .bptr id b off=> id=r∧sT sz r b off y (H r) H K
 | .eptr id x n i off=> id=r∧sS sz r x n i off y (H r) H K
 | _=> False
@[simp] theorem Tj (r sz i b off:Nat) (y:D) (H:aa) (K:D→aa→Prop):Ei r sz (.bptr i b off) y H K=(i=r∧sT sz r b off y (H r) H K):=id rfl
@[simp] theorem Ti (r sz i:Nat) (x:Value) (n k off:Nat) (y:D) (H:aa) (K:D→aa→Prop):Ei r sz (.eptr i x n k off) y H K=(i=r∧sS sz r x n k off y (H r) H K):=id rfl
def qaO (dst:Option Nat) (el n bytes:Nat) (es2:List D) (H:aa) (K:D→aa→Prop):Prop:=match dst with
 | some t=> es2.length*bytes≤140737488355328∧es2.length≤140737488355328∧ ∀v,K (.own t v) (aj H t (some (.row v el n es2)))
 | none=> False
def L7 (dst:Option Nat) (el n bytes:Nat) (d:D) (es2:List D) (H:aa) (K:D→aa→Prop):Prop:=match d with
 | .own id x=> L9 el n bytes id x es2 (H id) H K
 | .v (.slice none 0 0)=> qaO dst el n bytes es2 H K
 | .sub id x n' lo hi=> qaM el n bytes id x n' lo hi es2 (H id) H K
 | _=> False
@[simp] theorem qaK (dst:Option Nat) (el n bytes i:Nat) (x:Value) (es2:List D) (H:aa) (K:D→aa→Prop):L7 dst el n bytes (.own i x) es2 H K=L9 el n bytes i x es2 (H i) H K:=id rfl
@[simp] theorem qaL (t:Nat) (el n bytes:Nat) (es2:List D) (H:aa) (K:D→aa→Prop):L7 (some t) el n bytes (.v (.slice none 0 0)) es2 H K=(es2.length*bytes≤140737488355328∧es2.length≤140737488355328∧ ∀v,K (.own t v) (aj H t (some (.row v el n es2)))):=id rfl
@[simp] theorem qaN (el n bytes i:Nat) (x x':Value) (es2:List D) (el' n':Nat) (es:List D) (H:aa) (K:D→aa→Prop):L9 el n bytes i x es2 (some (.row x' el' n' es)) H K=(x'=x∧el'=el∧n'=n∧(es.length+es2.length) *bytes≤140737488355328∧es.length+es2.length≤140737488355328∧ ∀v,K (.own i v) (aj H i (some (.row v el n (es++es2))))):=id rfl
def vr (S:Nat→Spc) (f:D) (d:Nat) (args:List D) (H:aa) (K:D→aa→Prop):Prop:=match f with
 | .clo g caps=> (S g).pt d (args++caps) H K
 | _=> False
@[simp] theorem U2 (S:Nat→Spc) (g:Nat) (caps:List D) (d:Nat) (args:List D) (H:aa) (K:D→aa→Prop):vr S (.clo g caps) d args H K=(S g).pt d (args++caps) H K:=id rfl
@[congr] theorem Rk {r:Nat} {dst:Option Nat} {s:Spc} {args:List D} {H:aa} {K:D→aa→Prop} {s₁:Spc} {args₁:List D} (hs:s=s₁) (hargs:args=args₁):By r dst s args H K=By r dst s₁ args₁ H K:=by subst hs;subst hargs;rfl
@[congr] theorem TK {dst:Option Nat} {s:Spc} {args:List D} {H:aa} {K:D→aa→Prop} {s₁:Spc} {args₁:List D} (hs:s=s₁) (hargs:args=args₁):IU dst s args H K=IU dst s₁ args₁ H K:=by subst hs;subst hargs;rfl
section
variable {S:Nat→Spc} {σ:Sg} {H Hr:aa} {K:D→aa→Prop}
@[simp ↓] theorem qan (dst:Option Nat) (x:Operand):aO S (.mv x) dst σ H K=((fun d=> K d H) (ev σ x)):=id rfl
@[simp ↓] theorem qdD (dst:Option Nat) (x:Operand):aC S (.mv x) dst σ Hr H K=((fun d=> K d H) (ev σ x)):=id rfl
@[simp ↓] theorem qam (dst:Option Nat) (c x y:Operand):aO S (.pick c x y) dst σ H K=(wY (ev σ c) ((fun d=> K d H) (ev σ x)) ((fun d=> K d H) (ev σ y))):=id rfl
@[simp ↓] theorem Wm (dst:Option Nat) (c x y:Operand):aC S (.pick c x y) dst σ Hr H K=(wY (ev σ c) ((fun d=> K d H) (ev σ x)) ((fun d=> K d H) (ev σ y))):=id rfl
@[simp ↓] theorem Vb (dst:Option Nat) (z:List Value) (ps:List (Nat×Nat×Operand)):aO S (.build z ps) dst σ H K=(gZ σ ps (z.map pF) fun cs=> (fun d=> K d H) (.agg cs)):=id rfl
@[simp ↓] theorem TG (dst:Option Nat) (z:List Value) (ps:List (Nat×Nat×Operand)):aC S (.build z ps) dst σ Hr H K=(gZ σ ps (z.map pF) fun cs=> (fun d=> K d H) (.agg cs)):=id rfl
@[simp ↓] theorem Sy (dst:Option Nat) (el n:Nat) (ps:List Operand):aO S (.bslice el n ps) dst σ H K=(iM n (ps.map (ev σ))∧(fun d=> K d H) (.list n (ps.map (ev σ)))):=id rfl
@[simp ↓] theorem Ri (dst:Option Nat) (el n:Nat) (ps:List Operand):aC S (.bslice el n ps) dst σ Hr H K=(iM n (ps.map (ev σ))∧(fun d=> K d H) (.list n (ps.map (ev σ)))):=id rfl
@[simp ↓] theorem qao (dst:Option Nat) (agg:Bool) (sz:Nat) (x:Operand):aO S (.load agg sz x) dst σ H K=(w4 agg sz (ev σ x) H (fun d=> K d H)):=id rfl
@[simp ↓] theorem Wn (dst:Option Nat) (agg:Bool) (sz:Nat) (x:Operand):aC S (.load agg sz x) dst σ Hr H K=(w4 agg sz (ev σ x) Hr (fun d=> K d H)):=id rfl
@[simp ↓] theorem U6 (dst:Option Nat) (x:Operand):aO S (.nilck x) dst σ H K=(Ja (ev σ x) (fun d=> K d H)):=id rfl
@[simp ↓] theorem TC (dst:Option Nat) (x:Operand):aC S (.nilck x) dst σ Hr H K=(Ja (ev σ x) (fun d=> K d H)):=id rfl
@[simp ↓] theorem NI (dst:Option Nat) (op:BinOp) (x y:Operand):aO S (.arith op x y) dst σ H K=(Aq op (ev σ x) (ev σ y) (fun d=> K d H)):=id rfl
@[simp ↓] theorem TH (dst:Option Nat) (op:BinOp) (x y:Operand):aC S (.arith op x y) dst σ Hr H K=(Aq op (ev σ x) (ev σ y) (fun d=> K d H)):=id rfl
@[simp ↓] theorem Sx (dst:Option Nat) (op:BinOp) (x y:Operand):aO S (.cmp op x y) dst σ H K=(JA op (ev σ x) (ev σ y) (fun d=> K d H)):=id rfl
@[simp ↓] theorem qbi (dst:Option Nat) (op:BinOp) (x y:Operand):aC S (.cmp op x y) dst σ Hr H K=(JA op (ev σ x) (ev σ y) (fun d=> K d H)):=id rfl
@[simp ↓] theorem qdg (dst:Option Nat) (neg agg:Bool) (ks:List FV) (x y:Operand):aO S (.eql neg agg ks x y) dst σ H K=(Jt neg (Pj agg ks (ev σ x) (ev σ y)) (fun d=> K d H)):=id rfl
@[simp ↓] theorem qbh (dst:Option Nat) (neg agg:Bool) (ks:List FV) (x y:Operand):aC S (.eql neg agg ks x y) dst σ Hr H K=(Jt neg (Pj agg ks (ev σ x) (ev σ y)) (fun d=> K d H)):=id rfl
@[simp ↓] theorem qdc (dst:Option Nat) (x:Operand):aO S (.not x) dst σ H K=(M7 (ev σ x) (fun d=> K d H)):=id rfl
@[simp ↓] theorem qaq (dst:Option Nat) (k:IntKind) (x:Operand):aO S (.conv k x) dst σ H K=(Ih k (ev σ x) (fun d=> K d H)):=id rfl
@[simp ↓] theorem qdh (dst:Option Nat) (f:Nat) (xs:List Operand):aO S (.clo f xs) dst σ H K=((fun d=> K d H) (.clo f (xs.map (ev σ)))):=id rfl
@[simp ↓] theorem U5 (dst:Option Nat) (n:Nat) (x:Operand) (lo hi:Option Operand):aO S (.slice n x lo hi) dst σ H K=(yG n (ev σ x) (lo.map fun o=> nl (ev σ o)) (hi.map fun o=> nl (ev σ o)) H (fun d=> K d H)):=id rfl
@[simp ↓] theorem TB (dst:Option Nat) (n:Nat) (x:Operand) (lo hi:Option Operand):aC S (.slice n x lo hi) dst σ Hr H K=(yG n (ev σ x) (lo.map fun o=> nl (ev σ o)) (hi.map fun o=> nl (ev σ o)) Hr (fun d=> K d H)):=id rfl
@[simp ↓] theorem Ss (dst:Option Nat) (x:Operand) (lo hi:Option Operand):aO S (.sslice x lo hi) dst σ H K=(xX (ev σ x) (lo.map fun o=> nl (ev σ o)) (hi.map fun o=> nl (ev σ o)) (fun d=> K d H)):=id rfl
@[simp ↓] theorem Rg (dst:Option Nat) (x:Operand) (lo hi:Option Operand):aC S (.sslice x lo hi) dst σ Hr H K=(xX (ev σ x) (lo.map fun o=> nl (ev σ o)) (hi.map fun o=> nl (ev σ o)) (fun d=> K d H)):=id rfl
@[simp ↓] theorem U9 (dst:Option Nat) (off:Nat) (x:Operand):aO S (.faddr off x) dst σ H K=(tQ off (ev σ x) (fun d=> K d H)):=id rfl
@[simp ↓] theorem TE (dst:Option Nat) (off:Nat) (x:Operand):aC S (.faddr off x) dst σ Hr H K=(tQ off (ev σ x) (fun d=> K d H)):=id rfl
@[simp ↓] theorem U7 (dst:Option Nat) (n:Nat) (x i:Operand):aO S (.iaddr n x i) dst σ H K=(tO n (ev σ i) (ev σ x) H (fun d=> K d H)):=id rfl
@[simp ↓] theorem TD (dst:Option Nat) (n:Nat) (x i:Operand):aC S (.iaddr n x i) dst σ Hr H K=(tO n (ev σ i) (ev σ x) Hr (fun d=> K d H)):=id rfl
@[simp ↓] theorem qak (dst:Option Nat) (x i:Operand):aO S (.sidx x i) dst σ H K=(HI (ev σ i) (ev σ x) (fun d=> K d H)):=id rfl
@[simp ↓] theorem qdf (dst:Option Nat) (x:Operand) (i:Nat):aO S (.ext x i) dst σ H K=(Lv (ev σ x) i (fun d=> K d H)):=id rfl
@[simp ↓] theorem qbg (dst:Option Nat) (x:Operand) (i:Nat):aC S (.ext x i) dst σ Hr H K=(Lv (ev σ x) i (fun d=> K d H)):=id rfl
@[simp ↓] theorem qde (dst:Option Nat) (x:Operand):aO S (.len x) dst σ H K=(GX (ev σ x) H (fun d=> K d H)):=id rfl
@[simp ↓] theorem qbf (dst:Option Nat) (x:Operand):aC S (.len x) dst σ Hr H K=(GX (ev σ x) Hr (fun d=> K d H)):=id rfl
@[simp ↓] theorem qaj (dst:Option Nat) (x:Operand):aO S (.slen x) dst σ H K=(El (ev σ x) (fun d=> K d H)):=id rfl
@[simp ↓] theorem Wl (dst:Option Nat) (x:Operand):aC S (.slen x) dst σ Hr H K=(El (ev σ x) (fun d=> K d H)):=id rfl
@[simp ↓] theorem qas (dst:Option Nat) (x:Operand):aO S (.bstr x) dst σ H K=(NM (ev σ x) H (fun d=> K d H)):=id rfl
@[simp ↓] theorem qal (dst:Option Nat) (x:Operand):aO S (.rstr x) dst σ H K=(MZ (ev σ x) (fun d=> K d H)):=id rfl
@[simp ↓] theorem qdd (dst:Option Nat) (mx:Bool) (x y:Operand):aO S (.mm mx [x,y]) dst σ H K=KX mx (ev σ x) (ev σ y) (fun d=> K d H):=id rfl
@[simp ↓] theorem qat (dst:Option Nat) (el:Nat) (x:Operand):aO S (.box el true x) dst σ H K=((ev σ x).kn=true∧K (.cptr (ev σ x).cells 0) H):=id rfl
@[simp ↓] theorem Vc (t el:Nat) (z:List Value):aO S (.alloc el z) (some t) σ H K= ∀b,K (.bptr t b 0) (aj H t (some (.box b (z.map pF)))):=id rfl
@[simp ↓] theorem qdi (t el:Nat) (x:Operand):aO S (.box el false x) (some t) σ H K=((ev σ x).kn=true∧ ∀b,K (.bptr t b 0) (aj H t (some (.box b (ev σ x).cells)))):=id rfl
@[simp ↓] theorem Sw (t el n:Nat) (ps:List Operand):aO S (.mslice el n ps) (some t) σ H K=(iM n (ps.map (ev σ))∧ ∀x,K (.own t x) (aj H t (some (.row x el n (ps.map (ev σ)))))):=id rfl
@[simp ↓] theorem Qz (t el n bytes:Nat) (agg:Bool) (z:List Value) (l c:Operand):aO S (.mkslice el n bytes agg z l c) (some t) σ H K=WA t el n bytes agg z (nl (ev σ l)) (nl (ev σ c)) H K:=id rfl
@[simp ↓] theorem qbe (dst:Option Nat) (mx:Bool) (x y:Operand):aC S (.mm mx [x,y]) dst σ Hr H K=KX mx (ev σ x) (ev σ y) (fun d=> K d H):=id rfl
@[simp ↓] theorem TI (t el:Nat) (z:List Value):aC S (.alloc el z) (some t) σ Hr H K= ∀b,K (.bptr t b 0) (aj H t (some (.box b (z.map pF)))):=id rfl
@[simp ↓] theorem Rh (t el n:Nat):aC S (.nslice el n) (some t) σ Hr H K= ∀x,K (.own t x) (aj H t (some (.row x el n []))):=id rfl
@[simp ↓] theorem Qg (t el n bytes:Nat) (agg:Bool) (z:List Value) (l c:Operand):aC S (.mkslice el n bytes agg z l c) (some t) σ Hr H K=WA t el n bytes agg z (nl (ev σ l)) (nl (ev σ c)) H K:=id rfl
@[simp ↓] theorem Sv (dst:Option Nat) (x:Operand):aO S (.sbytes x) dst σ H K=MU (ev σ x) (fun d=> K d H):=id rfl
@[simp ↓] theorem Su (t:Nat) (x:Operand):aO S (.srange x) (some t) σ H K=Kh t (ev σ x) H K:=by
 simp only[aO,cw,Kh]
 split <;> simp_all
@[simp ↓] theorem U4 (dst:Option Nat) (x:Operand):aO S (.snext x) dst σ H K=MQ (ev σ x) H K:=id rfl
@[simp ↓] theorem TA (dst:Option Nat) (r sz:Nat) (x y:Operand):aC S (.store (some r) sz x y) dst σ Hr H K=((ev σ y).kn=true∧(ev σ y).cells.length=sz∧Ei r sz (ev σ x) (ev σ y) H K):=by
 simp only[aC]
 congr 2
@[simp ↓] theorem U3 (dst:Option Nat) (rt:Option Nat) (sz:Nat) (x y:Operand):aO S (.store rt sz x y) dst σ H K=((ev σ y).kn=true∧(ev σ y).cells.length=sz∧yC sz (ev σ x) (ev σ y) H K):=id rfl
@[simp ↓] theorem Sz (dst:Option Nat) (rt:Option Nat) (el n bytes:Nat) (x y:Operand):aO S (.append rt el n bytes x y) dst σ H K=nq n (ev σ y) H fun es2=> L7 dst el n bytes (ev σ x) es2 H K:=id rfl
@[simp ↓] theorem Qi (dst:Option Nat) (el n bytes:Nat) (x y:Operand):aC S (.append none el n bytes x y) dst σ Hr H K=nq n (ev σ y) Hr fun es2=> NQ dst el n bytes (ev σ x) es2 H K:=by
 simp only[aC]
 congr 1
@[simp ↓] theorem Qh (dst:Option Nat) (r el n bytes:Nat) (x y:Operand):aC S (.append (some r) el n bytes x y) dst σ Hr H K=nq n (ev σ y) Hr fun es2=> NP r el n bytes (ev σ x) es2 H K:=by
 simp only[aC]
 congr 1
@[simp ↓] theorem qap (dst:Option Nat) (n:Nat) (x y:Operand):aO S (.copy n x y) dst σ H K=jo n (ev σ y) H fun src=> NE n (ev σ x) src H K:=id rfl
@[simp ↓] theorem qar (dst:Option Nat) (f:Nat) (args:List Operand):aO S (.call f args) dst σ H K=(S f).pt (dst.getD 0) (args.map (ev σ)) H K:=id rfl
@[simp ↓] theorem TF (dst:Option Nat) (r f:Nat) (args:List Operand):aC S (.callb r f args) dst σ Hr H K=By r dst (S f) (args.map (ev σ)) H K:=id rfl
@[simp ↓] theorem Va (dst:Option Nat) (f:Operand) (args:List Operand):aO S (.callv f args) dst σ H K=vr S (ev σ f) (dst.getD 0) (args.map (ev σ)) H K:=id rfl
@[simp ↓] theorem Wo (dst:Option Nat) (f:Nat) (args:List Operand):aC S (.call f args) dst σ Hr H K=IU dst (S f) (args.map (ev σ)) H K:=id rfl
end
theorem QV (σ:Sg) (t s:Nat) (d:D):lQ σ t d s=if s=t then d else σ s:=id rfl
theorem F7 (σ:Sg) (t:Nat) (d:D):ej σ (some t) d=lQ σ t d:=id rfl
theorem OC (σ:Sg) (d:D):ej σ none d=σ:=id rfl
theorem OD (H:aa) (t s:Nat) (d:Option Res):aj H t d s=if s=t then d else H s:=id rfl
attribute [simp] F7 OC OD
@[simp] theorem JY (σ:Sg) (t:Nat):ev σ (.tmp t)=σ t:=id rfl
@[simp] theorem MI (σ:Sg) (x:Value):ev σ (.const x)=pF x:=id rfl
@[simp] theorem VL (σ:Sg) (f:Nat):ev σ (.func f)= .clo f []:=id rfl
@[simp] theorem VM (b:Bool):pF (.bool b)= .v (.bool b):=id rfl
@[simp] theorem QS (k:IntKind) (n:Int):pF (.int k n)= .v (.int k n):=id rfl
@[simp] theorem qa0 (s:ByteArray):pF (.string s)= .v (.string s):=id rfl
@[simp] theorem qa1 (a:Option Addr):pF (.pointer a)= .v (.pointer a):=id rfl
@[simp] theorem Tc (a:Option Addr) (l c:Nat):pF (.slice a l c)= .v (.slice a l c):=id rfl
theorem RH (σ:Sg):gE [] σ=fun _=> .any:=id rfl
theorem Pa (t:Nat) (l:List Nat) (σ:Sg):gE (t::l) σ=lQ (gE l σ) t (σ t):=id rfl
@[simp] theorem ZH (H:aa):hU [] H=fun _=> none:=id rfl
@[simp] theorem Nd (t:Nat) (l:List Nat) (H:aa):hU (t::l) H=aj (hU l H) t (H t):=id rfl
@[simp] theorem Wu (i:Nat):di i=none:=id rfl
@[simp] theorem WD (σ:Sg):mU [] σ=True:=id rfl
@[simp] theorem TY (t:Nat) (d:D) (l:List (Nat×D)) (σ:Sg):mU ((t,d)::l) σ=(Hx (σ t) d∧mU l σ):=id rfl
@[simp] theorem Wy (H:aa):pX [] H=True:=id rfl
@[simp] theorem TS (t:Nat) (d:Res) (l:List (Nat×Res)) (H:aa):pX ((t,d)::l) H=((H t=some d∨isNilRow d)∧pX l H):=id rfl
@[simp] theorem sub_self (d:D):Hx d d=True:=by
 cases d <;> simp[Hx]
@[simp] theorem qa7 (a:D) (x:Value):Hx a (.v x)=(a= .v x):=id rfl
@[simp] theorem Th (i:Nat) (x:Value) (y:Value) (j:Nat):Hx (.own i x) (.own j y)=(x=y):=by simp[Hx]
@[simp] theorem QY (x:Value) (y:Value) (j:Nat):Hx (.v x) (.own j y)=(x=y):=by simp[Hx]
@[simp] theorem qdN (sz:Nat) (cs:List D) (off:Nat):DM true sz cs off= .agg ((cs.drop off).take sz):=id rfl
@[simp] theorem qdO (sz:Nat) (cs:List D) (off:Nat):DM false sz cs off=(cs[off]?).getD .any:=id rfl
@[simp ↓] theorem Ty (rs:List au) (K:D→aa→Prop) (σ:Sg) (H:aa):qf rs K .norm σ H=qg rs σ H fun ds=> K (gC ds) H:=id rfl
@[simp ↓] theorem Wj (rs:List au) (K:D→aa→Prop) (σ:Sg) (H:aa):qf rs K .ret σ H=qg rs σ H fun ds=> K (gC ds) H:=id rfl
@[simp ↓] theorem Wi (σ:Sg) (H:aa) (K:List D→Prop):qg [] σ H K=K []:=id rfl
@[simp ↓] theorem Wh (t:Nat) (r:List au) (σ:Sg) (H:aa) (K:List D→Prop):qg (.tmp t::r) σ H K=qg r σ H fun ds=> K (σ t::ds):=id rfl
@[simp ↓] theorem Tx (t:Nat) (agg:Bool) (sz:Nat) (r:List au) (σ:Sg) (H:aa) (K:List D→Prop):qg (.cell t agg sz::r) σ H K=w4 agg sz (σ t) H fun d=> qg r σ H fun ds=> K (d::ds):=id rfl
@[simp] theorem qdG (d:D):gC [d]=d:=id rfl
@[simp] theorem qdH:gC []= .tup []:=id rfl
@[simp] theorem qdF (d e:D) (l:List D):gC (d::e::l)= .tup (d::e::l):=id rfl
@[simp] theorem qdZ (x:Value):D.kn (.v x)=true:=id rfl
@[simp] theorem U0 (x:Value):D.cells (.v x)= [.v x]:=id rfl
@[simp] theorem ZG (cs:List D):D.kn (.agg cs)=true:=id rfl
@[simp] theorem Qy (cs:List D):D.cells (.agg cs)=cs:=id rfl
@[simp] theorem Ug (n:Nat) (es:List D):D.kn (.list n es)=true:=id rfl
@[simp] theorem PE (n:Nat) (es:List D):D.cells (.list n es)= [.list n es]:=id rfl
@[simp] theorem ZE (i:Nat) (x:Value):D.kn (.own i x)=true:=id rfl
@[simp] theorem Qw (i:Nat) (x:Value):D.cells (.own i x)= [.own i x]:=id rfl
@[simp] theorem ZD (i:Nat) (v:Value) (n k o:Nat):D.kn (.sub i v n k o)=true:=id rfl
@[simp] theorem Qv (i:Nat) (v:Value) (n k o:Nat):D.cells (.sub i v n k o)= [.sub i v n k o]:=id rfl
@[simp] theorem ZF (f:Nat) (cs:List D):D.kn (.clo f cs)=true:=id rfl
@[simp] theorem Qx (f:Nat) (cs:List D):D.cells (.clo f cs)= [.clo f cs]:=id rfl
@[simp] theorem qdo (k:IntKind) (n:Int):nl (.v (.int k n))=some (k,n):=id rfl
attribute [simp] setAt
@[simp] theorem Z4 (n:Int):enc n= .v (.int .i64 n):=rfl
@[simp] theorem UM (b:Bool):enc b= .v (.bool b):=rfl
@[simp] theorem Z3 (s:ByteArray):enc s= .v (.string s):=rfl
@[simp] theorem UL {X:Type} [Cod X] (l:List X):enc l= .list (Cod.wd X) (l.map enc):=rfl
@[simp] theorem VH:Cod.wd Int=1:=rfl
@[simp] theorem SX:Cod.wd Bool=1:=rfl
@[simp] theorem VG:Cod.wd ByteArray=1:=rfl
@[simp] theorem SW {X:Type} [Cod X]:Cod.wd (List X)=1:=rfl
@[congr] theorem Uq {d:D} {A:Prop} {B:Prop} {d₁:D} (hd:d=d₁):EQ d A B=EQ d₁ A B:=by subst hd;rfl
@[congr] theorem Qr {s:Nat} {b:Bool} {σ:Sg} {d:D} {yes:Sg→Prop} {no:Sg→Prop} {d₁:D} (hd:d=d₁):jF s b σ d yes no=jF s b σ d₁ yes no:=by subst hd;rfl
@[congr] theorem Rm {d:D} {A:Prop} {B:Prop} {d₁:D} (hd:d=d₁):wY d A B=wY d₁ A B:=by subst hd;rfl
@[congr] theorem RE {agg:Bool} {sz:Nat} {b:Nat} {off:Nat} {r:Option Res} {K:D→Prop} {r₁:Option Res} (hr:r=r₁):EN agg sz b off r K=EN agg sz b off r₁ K:=by subst hr;rfl
@[congr] theorem RD {agg:Bool} {sz:Nat} {x:Value} {n:Nat} {i:Nat} {off:Nat} {r:Option Res} {K:D→Prop} {r₁:Option Res} (hr:r=r₁):EM agg sz x n i off r K=EM agg sz x n i off r₁ K:=by subst hr;rfl
@[congr] theorem RC {agg:Bool} {sz:Nat} {d:D} {H:aa} {K:D→Prop} {d₁:D} (hd:d=d₁):w4 agg sz d H K=w4 agg sz d₁ H K:=by subst hd;rfl
@[congr] theorem TQ {d:D} {K:D→Prop} {d₁:D} (hd:d=d₁):Ja d K=Ja d₁ K:=by subst hd;rfl
@[congr] theorem QI {op:BinOp} {d:D} {e:D} {K:D→Prop} {d₁:D} {e₁:D} (hd:d=d₁) (he:e=e₁):Aq op d e K=Aq op d₁ e₁ K:=by subst hd;subst he;rfl
@[congr] theorem Tw {d:D} {K:D→Prop} {d₁:D} (hd:d=d₁):MZ d K=MZ d₁ K:=by subst hd;rfl
@[congr] theorem UY {o:Option Bool} {K:D→Prop} {o₁:Option Bool} (ho:o=o₁):Hm o K=Hm o₁ K:=by subst ho;rfl
@[congr] theorem UX {op:BinOp} {d:D} {e:D} {K:D→Prop} {d₁:D} {e₁:D} (hd:d=d₁) (he:e=e₁):JA op d e K=JA op d₁ e₁ K:=by subst hd;subst he;rfl
@[congr] theorem UF {neg:Bool} {o:Option Bool} {K:D→Prop} {o₁:Option Bool} (ho:o=o₁):Jt neg o K=Jt neg o₁ K:=by subst ho;rfl
@[congr] theorem TO {d:D} {K:D→Prop} {d₁:D} (hd:d=d₁):M7 d K=M7 d₁ K:=by subst hd;rfl
@[congr] theorem Sk {k:IntKind} {d:D} {K:D→Prop} {d₁:D} (hd:d=d₁):Ih k d K=Ih k d₁ K:=by subst hd;rfl
@[congr] theorem Qt {off:Nat} {d:D} {K:D→Prop} {d₁:D} (hd:d=d₁):tQ off d K=tQ off d₁ K:=by subst hd;rfl
@[congr] theorem Qq {n:Nat} {k:Int} {id:Nat} {x:Value} {r:Option Res} {K:D→Prop} {r₁:Option Res} (hr:r=r₁):zW n k id x r K=zW n k id x r₁ K:=by subst hr;rfl
@[congr] theorem Qp {n:Nat} {i:D} {d:D} {H:aa} {K:D→Prop} {i₁:D} {d₁:D} (hi:i=i₁) (hd:d=d₁):tO n i d H K=tO n i₁ d₁ H K:=by subst hi;subst hd;rfl
@[congr] theorem Rb {i:D} {d:D} {K:D→Prop} {i₁:D} {d₁:D} (hi:i=i₁) (hd:d=d₁):HI i d K=HI i₁ d₁ K:=by subst hi;subst hd;rfl
@[congr] theorem Uz {o:Option D} {K:D→Prop} {o₁:Option D} (ho:o=o₁):Lw o K=Lw o₁ K:=by subst ho;rfl
@[congr] theorem Uy {d:D} {i:Nat} {K:D→Prop} {d₁:D} (hd:d=d₁):Lv d i K=Lv d₁ i K:=by subst hd;rfl
@[congr] theorem Uf {x:Value} {r:Option Res} {K:D→Prop} {r₁:Option Res} (hr:r=r₁):K6 x r K=K6 x r₁ K:=by subst hr;rfl
@[congr] theorem Ue {d:D} {H:aa} {K:D→Prop} {d₁:D} (hd:d=d₁):GX d H K=GX d₁ H K:=by subst hd;rfl
@[congr] theorem Vg {x:Value} {r:Option Res} {K:D→Prop} {r₁:Option Res} (hr:r=r₁):LY x r K=LY x r₁ K:=by subst hr;rfl
@[congr] theorem Vf {d:D} {H:aa} {K:D→Prop} {d₁:D} (hd:d=d₁):NM d H K=NM d₁ H K:=by subst hd;rfl
@[congr] theorem Ra {d:D} {K:D→Prop} {d₁:D} (hd:d=d₁):El d K=El d₁ K:=by subst hd;rfl
@[congr] theorem TT {mx:Bool} {d:D} {e:D} {K:D→Prop} {d₁:D} {e₁:D} (hd:d=d₁) (he:e=e₁):KX mx d e K=KX mx d₁ e₁ K:=by subst hd;subst he;rfl
@[congr] theorem Tl {n:Nat} {lo:Nat} {hi:Nat} {x:Value} {r:Option Res} {K:List D→Prop} {r₁:Option Res} (hr:r=r₁):IK n lo hi x r K=IK n lo hi x r₁ K:=by subst hr;rfl
@[congr] theorem Qc {sz:Nat} {id:Nat} {b:Nat} {off:Nat} {y:D} {r:Option Res} {H:aa} {K:D→aa→Prop} {y₁:D} {r₁:Option Res} (hy:y=y₁) (hr:r=r₁):sT sz id b off y r H K=sT sz id b off y₁ r₁ H K:=by subst hy;subst hr;rfl
@[congr] theorem Qb {sz:Nat} {id:Nat} {x:Value} {n:Nat} {i:Nat} {off:Nat} {y:D} {r:Option Res} {H:aa} {K:D→aa→Prop} {y₁:D} {r₁:Option Res} (hy:y=y₁) (hr:r=r₁):sS sz id x n i off y r H K=sS sz id x n i off y₁ r₁ H K:=by subst hy;subst hr;rfl
@[congr] theorem Qa {sz:Nat} {d:D} {y:D} {H:aa} {K:D→aa→Prop} {d₁:D} {y₁:D} (hd:d=d₁) (hy:y=y₁):yC sz d y H K=yC sz d₁ y₁ H K:=by subst hd;subst hy;rfl
@[congr] theorem Vo {el:Nat} {n:Nat} {bytes:Nat} {id:Nat} {x:Value} {es2:List D} {r:Option Res} {H:aa} {K:D→aa→Prop} {es2₁:List D} {r₁:Option Res} (hes2:es2=es2₁) (hr:r=r₁):L9 el n bytes id x es2 r H K=L9 el n bytes id x es2₁ r₁ H K:=by subst hes2;subst hr;rfl
@[congr] theorem UV {n:Nat} {id:Nat} {x:Value} {n':Nat} {lo:Nat} {hi:Nat} {src:List D} {r:Option Res} {H:aa} {K:D→aa→Prop} {src₁:List D} {r₁:Option Res} (hsrc:src=src₁) (hr:r=r₁):LQ n id x n' lo hi src r H K=LQ n id x n' lo hi src₁ r₁ H K:=by subst hsrc;subst hr;rfl
@[congr] theorem UU {n:Nat} {d:D} {src:List D} {H:aa} {K:D→aa→Prop} {d₁:D} {src₁:List D} (hd:d=d₁) (hsrc:src=src₁):NE n d src H K=NE n d₁ src₁ H K:=by subst hd;subst hsrc;rfl
@[congr] theorem Tu {d:D} {K:D→Prop} {d₁:D} (hd:d=d₁):MU d K=MU d₁ K:=by subst hd;rfl
@[congr] theorem Tk {t:Nat} {d:D} {H:aa} {K:D→aa→Prop} {d₁:D} (hd:d=d₁):Kh t d H K=Kh t d₁ H K:=by subst hd;rfl
@[congr] theorem Tp {id:Nat} {b:Nat} {r:Option Res} {H:aa} {K:D→aa→Prop} {r₁:Option Res} (hr:r=r₁):Ki id b r H K=Ki id b r₁ H K:=by subst hr;rfl
@[congr] theorem To {d:D} {H:aa} {K:D→aa→Prop} {d₁:D} (hd:d=d₁):MQ d H K=MQ d₁ H K:=by subst hd;rfl
@[congr] theorem Vp {dst:Option Nat} {el:Nat} {n:Nat} {b:Nat} {d:D} {es2:List D} {H:aa} {K:D→aa→Prop} {dst₁:Option Nat} {d₁:D} {es2₁:List D} (hdst:dst=dst₁) (hd:d=d₁) (hes2:es2=es2₁):NQ dst el n b d es2 H K=NQ dst₁ el n b d₁ es2₁ H K:=by subst hdst;subst hd;subst hes2;rfl
@[congr] theorem Vm {el:Nat} {n:Nat} {b:Nat} {r:Nat} {x:Value} {es2:List D} {q:Option Res} {H:aa} {K:D→aa→Prop} {es2₁:List D} {q₁:Option Res} (hes2:es2=es2₁) (hq:q=q₁):L6 el n b r x es2 q H K=L6 el n b r x es2₁ q₁ H K:=by subst hes2;subst hq;rfl
@[congr] theorem Vl {r:Nat} {el:Nat} {n:Nat} {b:Nat} {d:D} {es2:List D} {H:aa} {K:D→aa→Prop} {d₁:D} {es2₁:List D} (hd:d=d₁) (hes2:es2=es2₁):NP r el n b d es2 H K=NP r el n b d₁ es2₁ H K:=by subst hd;subst hes2;rfl
@[congr] theorem Q4 {r:Nat} {sz:Nat} {d:D} {y:D} {H:aa} {K:D→aa→Prop} {d₁:D} {y₁:D} (hd:d=d₁) (hy:y=y₁):Ei r sz d y H K=Ei r sz d₁ y₁ H K:=by subst hd;subst hy;rfl
@[congr] theorem Vn {dst:Option Nat} {el:Nat} {n:Nat} {bytes:Nat} {d:D} {es2:List D} {H:aa} {K:D→aa→Prop} {dst₁:Option Nat} {d₁:D} {es2₁:List D} (hdst:dst=dst₁) (hd:d=d₁) (hes2:es2=es2₁):L7 dst el n bytes d es2 H K=L7 dst₁ el n bytes d₁ es2₁ H K:=by subst hdst;subst hd;subst hes2;rfl
@[congr] theorem Sr {S:Nat→Spc} {f:D} {d:Nat} {args:List D} {H:aa} {K:D→aa→Prop} {f₁:D} {args₁:List D} (hf:f=f₁) (hargs:args=args₁):vr S f d args H K=vr S f₁ d args₁ H K:=by subst hf;subst hargs;rfl
@[congr] theorem Q6 {n:Nat} {d d':D} {H:aa} {K:List D→Prop} (h:d=d'):jo n d H K=jo n d' H K:=by subst h;rfl
@[congr] theorem Tm {n:Nat} {d d':D} {H:aa} {K:List D→Prop} (h:d=d'):nq n d H K=nq n d' H K:=by subst h;rfl
@[congr] theorem QJ {s s':Spc} {d:Nat} {ds ds':List D} {H:aa} {K:D→aa→Prop} (h:s=s') (h':ds=ds'):s.pt d ds H K=s'.pt d ds' H K:=by subst h;subst h';rfl
@[congr] theorem Si {lo hi lo' hi':Option (Option (IntKind×Int))} {n n':Nat} {K:Nat→Nat→Prop} (h1:lo=lo') (h2:hi=hi') (h3:n=n'):ng lo hi n K=ng lo' hi' n' K:=by subst h1;subst h2;subst h3;rfl
end Go.Gv
