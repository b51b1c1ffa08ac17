/- A part of the framework and of the walks: T10. -/
import Derived.Test.YticbieanhfdnoaaGreatDoorGa14
set_option linter.unusedSimpArgs false
set_option linter.unusedVariables false

namespace Go.Gv
open Cod (enc dec)
section
variable {S:Nat→Spc} {K:Ex→Sg→aa→Prop} {σ:Sg} {H:aa}
def Ft (S:Nat→Spc) (b:CC) (K:Ex→Sg→aa→Prop):Ex→Sg→aa→Prop:=fun e σ H=> match e with
 | .norm=> vc S b K σ H
 | e=> K e σ H
def Iy (id:Nat) (K:Ex→Sg→aa→Prop):Ex→Sg→aa→Prop:=fun e σ H=> match e with
 | .ex i=> if i=id then K .norm σ H else K (.ex i) σ H
 | e=> K e σ H
def H6 (inv:Oz) (x:inv.X) (K:Ex→Sg→aa→Prop):Ex→Sg→aa→Prop:=fun e σ' H'=> match e with
 | .norm=> ∃y,inv.P y∧Wk σ' H' (inv.s y) (inv.h y)∧inv.m y < inv.m x
 | e=> K e σ' H'
def DX (d:D) (A B:Prop):Prop:=match d with
 | .v (.bool t)=> (t=true→A)∧(t=false→B)
 | _=> False
@[simp ↓] theorem N0:vc S .skip K σ H=K .norm σ H:=id rfl
@[simp ↓] theorem M2 (l:List CI):vc S (.reg l) K σ H=vx S l σ H (K .norm):=id rfl
@[simp ↓] theorem YG (p l:List CI):vc S (.regd p l) K σ H=iX S p σ (bC p H) H fun σ H=> vx S l σ H (K .norm):=id rfl
@[simp ↓] theorem En (a b:CC):vc S (.seq a b) K σ H=vc S a (Ft S b K) σ H:=id rfl
@[simp ↓] theorem zp (b:CC):Ft S b K .norm σ H=vc S b K σ H:=id rfl
@[simp ↓] theorem Ku (b:CC) (i:Nat):Ft S b K (.ex i) σ H=K (.ex i) σ H:=id rfl
@[simp ↓] theorem N1 (b:CC):Ft S b K .ret σ H=K .ret σ H:=id rfl
@[simp ↓] theorem QL (c:Operand) (a b:CC):vc S (.ite c a b) K σ H=DX (ev σ c) (vc S a K σ H) (vc S b K σ H):=id rfl
@[simp] theorem N4 (t:Bool) (A B:Prop):DX (.v (.bool t)) A B=((t=true→A)∧(t=false→B)):=id rfl
@[simp high] theorem YI (A B:Prop):DX (.v (.bool true)) A B=A:=by simp[DX]
@[simp high] theorem YJ (A B:Prop):DX (.v (.bool false)) A B=B:=by simp[DX]
@[simp ↓] theorem CE (id:Nat) (b:CC):vc S (.block id b) K σ H=vc S b (Iy id K) σ H:=_root_.id rfl
@[simp ↓] theorem N6 (id:Nat):Iy id K .norm σ H=K .norm σ H:=_root_.id rfl
@[simp ↓] theorem Kx (id:Nat):Iy id K .ret σ H=K .ret σ H:=_root_.id rfl
@[simp ↓] theorem Gi (id i:Nat):Iy id K (.ex i) σ H=if i=id then K .norm σ H else K (.ex i) σ H:=_root_.id rfl
@[simp ↓] theorem N5 (i:Nat):vc S (.exit i) K σ H=K (.ex i) σ H:=id rfl
@[simp ↓] theorem qbL:vc S .ret K σ H=K .ret σ H:=id rfl
@[simp ↓] theorem YH (ls lh:List Nat) (c:CC):vc S (.keep ls lh c) K σ H=vc S c K (gy ls σ) (gV lh H):=id rfl
theorem CD (k:Nat) (b:CC):vc S (.loop k b) K σ H= ∃inv:Oz,(∃x,inv.P x∧Wk σ H (inv.s x) (inv.h x))∧ ∀x,inv.P x→vc S b (H6 inv x K) (inv.s x) (inv.h x):=id rfl
theorem Kw (k:Nat) (c:CC):vc S (.cut k c) K σ H= ∃ (σ':Sg) (H':aa),Wk σ H σ' H'∧vc S c K σ' H':=id rfl
@[simp ↓] theorem N3 (inv:Oz) (x:inv.X):H6 inv x K .norm σ H= ∃y,inv.P y∧Wk σ H (inv.s y) (inv.h y)∧inv.m y < inv.m x:=id rfl
@[simp ↓] theorem N2 (inv:Oz) (x:inv.X):H6 inv x K .ret σ H=K .ret σ H:=id rfl
@[simp ↓] theorem Kv (inv:Oz) (x:inv.X) (i:Nat):H6 inv x K (.ex i) σ H=K (.ex i) σ H:=id rfl
end
def ju (s:Nat) (b:Bool) (σ:Sg) (d:D) (yes no:Sg→Prop):Prop:=match d with
 | .v (.bool t)=> (t=b→yes (lD σ s (.v (.bool b))))∧(t=(!b)→no (lD σ s (.v (.bool (!b)))))
 | .undef=> no σ
 | _=> False
@[simp high] theorem qcy (s:Nat) (σ:Sg) (yes no:Sg→Prop):ju s true σ (.v (.bool true)) yes no=yes (lD σ s (.v (.bool true))):=by simp[ju]
@[simp high] theorem qcz (s:Nat) (σ:Sg) (yes no:Sg→Prop):ju s true σ (.v (.bool false)) yes no=no (lD σ s (.v (.bool false))):=by simp[ju]
@[simp high] theorem qcA (s:Nat) (σ:Sg) (yes no:Sg→Prop):ju s false σ (.v (.bool true)) yes no=no (lD σ s (.v (.bool true))):=by simp[ju]
@[simp high] theorem qcB (s:Nat) (σ:Sg) (yes no:Sg→Prop):ju s false σ (.v (.bool false)) yes no=yes (lD σ s (.v (.bool false))):=by simp[ju]
@[simp] theorem qcx (s:Nat) (b:Bool) (σ:Sg) (yes no:Sg→Prop):ju s b σ .undef yes no=no σ:=id rfl
@[simp] theorem qcD (s:Nat) (b t:Bool) (σ:Sg) (yes no:Sg→Prop):ju s b σ (.v (.bool t)) yes no=((t=b→yes (lD σ s (.v (.bool b))))∧(t=(!b)→no (lD σ s (.v (.bool (!b)))))):=id rfl
section
variable {S:Nat→Spc} {σ:Sg} {H Hr:aa}
@[simp ↓] theorem MZ (K:Sg→aa→Prop):vx S [] σ H K=K σ H:=id rfl
@[simp ↓] theorem NN (K:Sg→aa→Prop) (d:Option Nat) (c:COp) (r:List CI):vx S (.op d none c::r) σ H K=aN S c d σ H fun x H'=> vx S r (ef σ d x) H' K:=id rfl
@[simp ↓] theorem Z2 (K:Sg→aa→Prop) (d:Option Nat) (s:Nat) (b:Bool) (c:COp) (r:List CI):vx S (.op d (some (s,b)) c::r) σ H K=ju s b σ (σ s) (fun σ=> aN S c d σ H fun x H'=> vx S r (ef σ d x) H' K) (fun σ=> vx S r (ef σ d .undef) H K):=id rfl
@[simp ↓] theorem ZU (K:Sg→aa→Prop):iX S [] σ Hr H K=K σ H:=id rfl
@[simp ↓] theorem ZV (K:Sg→aa→Prop) (a b:Nat) (r:List CI):iX S (.frz a b::r) σ Hr H K=iX S r σ (bC r Hr) H K:=id rfl
@[simp ↓] theorem qcb (K:Sg→aa→Prop) (d:Option Nat) (c:COp) (r:List CI):iX S (.op d none c::r) σ Hr H K=aC S c d σ Hr H fun x H'=> iX S r (ef σ d x) Hr H' K:=id rfl
@[simp ↓] theorem ZT (K:Sg→aa→Prop) (d:Option Nat) (s:Nat) (b:Bool) (c:COp) (r:List CI):iX S (.op d (some (s,b)) c::r) σ Hr H K=ju s b σ (σ s) (fun σ=> aC S c d σ Hr H fun x H'=> iX S r (ef σ d x) Hr H' K) (fun σ=> iX S r (ef σ d .undef) Hr H K):=id rfl
end
def wA (d:D) (A B:Prop):Prop:=match d with
 | .v (.bool t)=> (t=true→A)∧(t=false→B)
 | _=> False
@[simp high] theorem Sb (A B:Prop):wA (.v (.bool true)) A B=A:=by simp[wA]
@[simp high] theorem Sc (A B:Prop):wA (.v (.bool false)) A B=B:=by simp[wA]
def DU (agg:Bool) (sz b off:Nat) (r:Option Res) (K:D→Prop):Prop:=match r with
 | some (.box b' cells)=> b'=b∧off+sz≤cells.length∧K (CX agg sz cells off)
 | _=> False
def DT (agg:Bool) (sz:Nat) (x:Value) (n i off:Nat) (r:Option Res) (K:D→Prop):Prop:=match r with
 | some (.row x' _ n' es)=> x'=x∧n'=n∧off+sz≤n∧i < es.length∧ ∀d,es[i]?=some d→K (CX agg sz d.cells off)
 | _=> False
def wC (agg:Bool) (sz:Nat) (d:D) (H:aa) (K:D→Prop):Prop:=match d with
 | .cptr cs off=> off+sz≤cs.length∧K (CX agg sz cs off)
 | .bptr id b off=> DU agg sz b off (H id) K
 | .eptr id x n i off=> DT agg sz x n i off (H id) K
 | _=> False
@[simp] theorem Sr (agg:Bool) (sz:Nat) (cs:List D) (off:Nat) (H:aa) (K:D→Prop):wC agg sz (.cptr cs off) H K=(off+sz≤cs.length∧K (CX agg sz cs off)):=id rfl
@[simp] theorem Ss (agg:Bool) (sz:Nat) (i b off:Nat) (H:aa) (K:D→Prop):wC agg sz (.bptr i b off) H K=DU agg sz b off (H i) K:=id rfl
@[simp] theorem Sq (agg:Bool) (sz:Nat) (i:Nat) (x:Value) (n k off:Nat) (H:aa) (K:D→Prop):wC agg sz (.eptr i x n k off) H K=DT agg sz x n k off (H i) K:=id rfl
@[simp] theorem Sv (agg:Bool) (sz b off b':Nat) (cells:List D) (K:D→Prop):DU agg sz b off (some (.box b' cells)) K=(b'=b∧off+sz≤cells.length∧K (CX agg sz cells off)):=id rfl
@[simp] theorem Su (agg:Bool) (sz:Nat) (x:Value) (n i off:Nat) (x':Value) (el n':Nat) (es:List D) (K:D→Prop):DT agg sz x n i off (some (.row x' el n' es)) K=(x'=x∧n'=n∧off+sz≤n∧i < es.length∧ ∀d,es[i]?=some d→K (CX agg sz d.cells off)):=id rfl
def H5 (d:D) (K:D→Prop):Prop:=match d with
 | .cptr cs off=> K (.cptr cs off)
 | .bptr id b off=> K (.bptr id b off)
 | .eptr id x n i off=> K (.eptr id x n i off)
 | .tape L=> K (.tape L)
 | .clo f caps=> K (.clo f caps)
 | _=> False
@[simp] theorem UU (cs:List D) (off:Nat) (K:D→Prop):H5 (.cptr cs off) K=K (.cptr cs off):=id rfl
@[simp] theorem UV (i b off:Nat) (K:D→Prop):H5 (.bptr i b off) K=K (.bptr i b off):=id rfl
def zE (op:BinOp) (d e:D) (K:D→Prop):Prop:=match d,e with
 | .v (.int k a), .v (.int k' b)=> ID op k k'∧fM op k a b K
 | _,_=> False
@[simp] theorem KV (op:BinOp) (k k':IntKind) (a b:Int) (K:D→Prop):zE op (.v (.int k a)) (.v (.int k' b)) K=(ID op k k'∧fM op k a b K):=id rfl
@[simp] theorem L3 (k k':IntKind):ID .add k k'=(k=k'):=id rfl
@[simp] theorem SC (k k':IntKind):ID .sub k k'=(k=k'):=id rfl
@[simp] theorem SH (k k':IntKind):ID .mul k k'=(k=k'):=id rfl
@[simp] theorem SG (k k':IntKind):ID .quo k k'=(k=k'):=id rfl
@[simp] theorem SF (k k':IntKind):ID .rem k k'=(k=k'):=id rfl
@[simp] theorem SI (k k':IntKind):ID .and k k'=(k=k'):=id rfl
@[simp] theorem Yl (k k':IntKind):ID .or k k'=(k=k'):=id rfl
@[simp] theorem SE (k k':IntKind):ID .shl k k'=True:=id rfl
@[simp] theorem SD (k k':IntKind):ID .shr k k'=True:=id rfl
@[simp ↓] theorem IA (k:IntKind) (a b:Int) (K:D→Prop):fM .add k a b K=(InR k (a+b)∧K (.v (.int k (a+b)))):=id rfl
@[simp ↓] theorem Pf (k:IntKind) (a b:Int) (K:D→Prop):fM .sub k a b K=(InR k (a -b)∧K (.v (.int k (a -b)))):=id rfl
@[simp ↓] theorem Pk (k:IntKind) (a b:Int) (K:D→Prop):fM .mul k a b K=(InR k (a*b)∧K (.v (.int k (a*b)))):=id rfl
@[simp ↓] theorem Pj (k:IntKind) (a b:Int) (K:D→Prop):fM .quo k a b K=(b≠0∧InR k (a.tdiv b)∧K (.v (.int k (a.tdiv b)))):=id rfl
@[simp ↓] theorem Pi (k:IntKind) (a b:Int) (K:D→Prop):fM .rem k a b K=(b≠0∧K (.v (.int k (a.tmod b)))):=id rfl
@[simp ↓] theorem Pl (k:IntKind) (a b:Int) (K:D→Prop):fM .and k a b K=K (.v (.int k (Gu k a b))):=id rfl
@[simp ↓] theorem Q9 (k:IntKind) (a b:Int) (K:D→Prop):fM .or k a b K=K (.v (.int k (PZ k a b))):=id rfl
@[simp ↓] theorem Ph (k:IntKind) (a b:Int) (K:D→Prop):fM .shl k a b K=(0≤b∧K (.v (.int k (Dx k a b)))):=id rfl
@[simp ↓] theorem Pg (k:IntKind) (a b:Int) (K:D→Prop):fM .shr k a b K=(0≤b∧K (.v (.int k (Je k a b)))):=id rfl
def LO (d:D) (K:D→Prop):Prop:=match d with
 | .v (.int _ n)=> K (.v (.string (Utf8.encode n)))
 | _=> False
@[simp] theorem UE (k:IntKind) (n:Int) (K:D→Prop):LO (.v (.int k n)) K=K (.v (.string (Utf8.encode n))):=id rfl
def Gl (o:Option Bool) (K:D→Prop):Prop:=match o with | some t=> K (.v (.bool t)) | none=> False
@[simp] theorem Of (t:Bool) (K:D→Prop):Gl (some t) K=K (.v (.bool t)):=id rfl
def Iu (op:BinOp) (d e:D) (K:D→Prop):Prop:=match d,e with
 | .v (.int k a), .v (.int k' b)=> k=k'∧Gl (EB op a b) K
 | .v (.string a), .v (.string b)=> Gl (Gk op a b) K
 | _,_=> False
@[simp] theorem Oe (op:BinOp) (k k':IntKind) (a b:Int) (K:D→Prop):Iu op (.v (.int k a)) (.v (.int k' b)) K=(k=k'∧Gl (EB op a b) K):=id rfl
@[simp] theorem YT (op:BinOp) (a b:ByteArray) (K:D→Prop):Iu op (.v (.string a)) (.v (.string b)) K=Gl (Gk op a b) K:=id rfl
@[simp] theorem KJ (a b:Int):EB .lss a b=some (decide (a < b)):=id rfl
@[simp] theorem QW (a b:Int):EB .leq a b=some (decide (a≤b)):=id rfl
@[simp] theorem QX (a b:Int):EB .gtr a b=some (decide (b < a)):=id rfl
@[simp] theorem QY (a b:Int):EB .geq a b=some (decide (b≤a)):=id rfl
@[simp] theorem QT (a b:ByteArray):Gk .lss a b=some (Op.bytesLess a.toList b.toList):=id rfl
@[simp] theorem QU (a b:ByteArray):Gk .gtr a b=some (!(Op.bytesLess a.toList b.toList || a.toList==b.toList)):=id rfl
@[simp] theorem QV (a b:ByteArray):Gk .geq a b=some (!Op.bytesLess a.toList b.toList):=id rfl
def Io (neg:Bool) (o:Option Bool) (K:D→Prop):Prop:=match o with
 | some p=> K (.v (.bool (if neg then !p else p)))
 | none=> False
@[simp] theorem YA (p:Bool) (K:D→Prop):Io false (some p) K=K (.v (.bool p)):=id rfl
@[simp] theorem Yz (p:Bool) (K:D→Prop):Io true (some p) K=K (.v (.bool (!p))):=id rfl
@[simp] theorem qbH (k:E0) (a b:D):NW false [k] a b=IE k a b:=id rfl
@[simp] theorem qbG (ks:List E0) (a b:List D):NW true ks (.agg a) (.agg b)=Ml ks a b:=id rfl
@[simp] theorem qbF:Ml [] [] []=some true:=id rfl
@[simp] theorem qbE (k:E0) (ks:List E0) (a b:D) (as bs:List D):Ml (k::ks) (a::as) (b::bs)=(IE k a b).bind fun p=> (Ml ks as bs).bind fun q=> some (p && q):=id rfl
@[simp] theorem qbJ (k k':IntKind) (a b:Int):IE .int (.v (.int k a)) (.v (.int k' b))=if k=k' then some (decide (a=b)) else none:=id rfl
@[simp] theorem qbI (a b:ByteArray):IE .str (.v (.string a)) (.v (.string b))=some (decide (a=b)):=id rfl
@[simp] theorem qbK (a b:Bool):IE .bool (.v (.bool a)) (.v (.bool b))=some (decide (a=b)):=id rfl
def JO (d:D) (K:D→Prop):Prop:=match d with
 | .v (.bool b)=> K (.v (.bool (!b)))
 | _=> False
@[simp] theorem UR (b:Bool) (K:D→Prop):JO (.v (.bool b)) K=K (.v (.bool (!b))):=id rfl
def Hb (k:IntKind) (d:D) (K:D→Prop):Prop:=match d with
 | .v (.int _ n)=> K (.v (.int k (k.wrap n)))
 | _=> False
@[simp] theorem Tp (k k':IntKind) (n:Int) (K:D→Prop):Hb k (.v (.int k' n)) K=K (.v (.int k (k.wrap n))):=id rfl
def Fs (n id:Nat) (x:Value) (lo hi:Option (Option (IntKind×Int))) (r:Option Res) (K:D→Prop):Prop:=match r with
 | some (.row x' _ n' es)=> x'=x∧n'=n∧mS lo hi es.length fun l h=> K (.sub id x n l h)
 | _=> False
@[simp] theorem PK (n i:Nat) (x x':Value) (el n':Nat) (es:List D) (lo hi:Option (Option (IntKind×Int))) (K:D→Prop):Fs n i x lo hi (some (.row x' el n' es)) K=(x'=x∧n'=n∧mS lo hi es.length fun l h=> K (.sub i x n l h)):=id rfl
@[simp] theorem YP (k:IntKind) (l:Int) (len:Nat) (K:Nat→Nat→Prop):mS (some (some (k,l))) none len K=(0≤l∧l≤len∧K l.toNat len):=id rfl
def ya (n:Nat) (d:D) (lo hi:Option (Option (IntKind×Int))) (H:aa) (K:D→Prop):Prop:=match d with
 | .list n' es=> n'=n∧(match lo,hi with
   | none,none=> K (.list n es)
   | some (some (_,l)),none=> 0≤l∧l≤es.length∧K (.list n (es.drop l.toNat))
   | none,some (some (_,h))=> 0≤h∧h≤es.length∧K (.list n (es.take h.toNat))
   | some (some (_,l)),some (some (_,h))=> 0≤l∧l≤h∧h≤es.length∧K (.list n ((es.take h.toNat).drop l.toNat))
   | _,_=> False)
 | .own id x=> Fs n id x lo hi (H id) K
 | .sub id x n' a b=> n'=n∧mS lo hi (b -a) fun l h=> K (.sub id x n (a+l) (a+h))
 | .v (.slice none 0 0)=> mS lo hi 0 fun _ _=> K (.v (.slice none 0 0))
 | _=> False
@[simp] theorem PJ (n i:Nat) (x:Value) (lo hi:Option (Option (IntKind×Int))) (H:aa) (K:D→Prop):ya n (.own i x) lo hi H K=Fs n i x lo hi (H i) K:=id rfl
@[simp] theorem OR (n n':Nat) (es:List D) (k:IntKind) (l:Int) (H:aa) (K:D→Prop):ya n (.list n' es) (some (some (k,l))) none H K=(n'=n∧0≤l∧l≤es.length∧K (.list n (es.drop l.toNat))):=id rfl
@[simp] theorem OQ (n n':Nat) (es:List D) (k:IntKind) (l:Int) (H:aa) (K:D→Prop):ya n (.list n' es) none (some (some (k,l))) H K=(n'=n∧0≤l∧l≤es.length∧K (.list n (es.take l.toNat))):=id rfl
def xu (d:D) (lo hi:Option (Option (IntKind×Int))) (K:D→Prop):Prop:=match d with
 | .v (.string s)=> (match lo,hi with
   | none,none=> K (.v (.string (s.extract 0 s.size)))
   | some (some (_,l)),none=> 0≤l∧l≤s.size∧K (.v (.string (s.extract l.toNat s.size)))
   | none,some (some (_,h))=> 0≤h∧h≤s.size∧K (.v (.string (s.extract 0 h.toNat)))
   | some (some (_,l)),some (some (_,h))=> 0≤l∧l≤h∧h≤s.size∧K (.v (.string (s.extract l.toNat h.toNat)))
   | _,_=> False)
 | _=> False
@[simp] theorem Np (s:ByteArray) (k:IntKind) (l:Int) (K:D→Prop):xu (.v (.string s)) (some (some (k,l))) none K=(0≤l∧l≤s.size∧K (.v (.string (s.extract l.toNat s.size)))):=id rfl
@[simp] theorem Nq (s:ByteArray) (k k':IntKind) (l h:Int) (K:D→Prop):xu (.v (.string s)) (some (some (k,l))) (some (some (k',h))) K=(0≤l∧l≤h∧h≤s.size∧K (.v (.string (s.extract l.toNat h.toNat)))):=id rfl
def tq (off:Nat) (d:D) (K:D→Prop):Prop:=match d with
 | .cptr cs o=> K (.cptr cs (o+off))
 | .bptr id b o=> K (.bptr id b (o+off))
 | .eptr id x n i o=> K (.eptr id x n i (o+off))
 | _=> False
@[simp] theorem QB (off:Nat) (cs:List D) (o:Nat) (K:D→Prop):tq off (.cptr cs o) K=K (.cptr cs (o+off)):=id rfl
@[simp] theorem QC (off i b o:Nat) (K:D→Prop):tq off (.bptr i b o) K=K (.bptr i b (o+off)):=id rfl
@[simp] theorem QA (off:Nat) (i:Nat) (x:Value) (n k o:Nat) (K:D→Prop):tq off (.eptr i x n k o) K=K (.eptr i x n k (o+off)):=id rfl
def zi (n:Nat) (k:Int) (id:Nat) (x:Value) (r:Option Res) (K:D→Prop):Prop:=match r with
 | some (.row x' _ n' es)=> x'=x∧n'=n∧0≤k∧k < es.length∧K (.eptr id x n k.toNat 0)
 | _=> False
def tk (n:Nat) (i d:D) (H:aa) (K:D→Prop):Prop:=match i with
 | .v (.int _ k)=> match d with
   | .list n' es=> n'=n∧0≤k∧k < es.length∧ ∀d,es[k.toNat]?=some d→K (.cptr d.cells 0)
   | .own id x=> zi n k id x (H id) K
   | .sub id x n' lo hi=> n'=n∧0≤k∧k < (hi -lo:Nat)∧K (.eptr id x n (lo+k.toNat) 0)
   | _=> False
 | _=> False
@[simp] theorem Ql (n:Nat) (kd:IntKind) (k:Int) (i:Nat) (x:Value) (n' lo hi:Nat) (H:aa) (K:D→Prop):tk n (.v (.int kd k)) (.sub i x n' lo hi) H K=(n'=n∧0≤k∧k < (hi -lo:Nat)∧K (.eptr i x n (lo+k.toNat) 0)):=id rfl
@[simp] theorem Qn (n:Nat) (kd:IntKind) (k:Int) (n':Nat) (es:List D) (H:aa) (K:D→Prop):tk n (.v (.int kd k)) (.list n' es) H K=(n'=n∧0≤k∧k < es.length∧ ∀d,es[k.toNat]?=some d→K (.cptr d.cells 0)):=id rfl
@[simp] theorem Qm (n:Nat) (kd:IntKind) (k:Int) (i:Nat) (x:Value) (H:aa) (K:D→Prop):tk n (.v (.int kd k)) (.own i x) H K=zi n k i x (H i) K:=id rfl
@[simp] theorem Qo (n:Nat) (k:Int) (i:Nat) (x x':Value) (el n':Nat) (es:List D) (K:D→Prop):zi n k i x (some (.row x' el n' es)) K=(x'=x∧n'=n∧0≤k∧k < es.length∧K (.eptr i x n k.toNat 0)):=id rfl
def GI (i d:D) (K:D→Prop):Prop:=match i with
 | .v (.int _ k)=> match d with
   | .v (.string s)=> 0≤k∧k < s.size∧ ∀c,s.data[k.toNat]?=some c→K (.v (.int .u8 c.toNat))
   | _=> False
 | _=> False
@[simp] theorem RR (kd:IntKind) (k:Int) (s:ByteArray) (K:D→Prop):GI (.v (.int kd k)) (.v (.string s)) K=(0≤k∧k < s.size∧ ∀c,s.data[k.toNat]?=some c→K (.v (.int .u8 c.toNat))):=id rfl
def Kp (o:Option D) (K:D→Prop):Prop:=match o with
 | some d=> K d
 | none=> False
def Ko (d:D) (i:Nat) (K:D→Prop):Prop:=match d with
 | .tup ds=> Kp ds[i]? K
 | _=> False
@[simp] theorem Yu (ds:List D) (i:Nat) (K:D→Prop):Ko (.tup ds) i K=Kp ds[i]? K:=id rfl
@[simp] theorem Yv (d:D) (K:D→Prop):Kp (some d) K=K d:=id rfl
def JY (x:Value) (r:Option Res) (K:D→Prop):Prop:=match r with
 | some (.row x' _ _ es)=> x'=x∧((es.length:Int)≤9223372036854775807→K (.v (.int .i64 es.length)))
 | _=> False
def F0 (d:D) (H:aa) (K:D→Prop):Prop:=match d with
 | .list _ es=> (es.length:Int)≤9223372036854775807→K (.v (.int .i64 es.length))
 | .own id x=> JY x (H id) K
 | .v (.slice _ n _)=> K (.v (.int .i64 n))
 | .sub _ _ _ lo hi=> ((hi -lo:Nat):Int)≤9223372036854775807→K (.v (.int .i64 (hi -lo:Nat)))
 | _=> False
@[simp] theorem U3 (n:Nat) (es:List D) (H:aa) (K:D→Prop):F0 (.list n es) H K=((es.length:Int)≤9223372036854775807→K (.v (.int .i64 es.length))):=id rfl
@[simp] theorem U2 (i:Nat) (x:Value) (H:aa) (K:D→Prop):F0 (.own i x) H K=JY x (H i) K:=id rfl
@[simp] theorem Sw (a:Option Addr) (n c:Nat) (H:aa) (K:D→Prop):F0 (.v (.slice a n c)) H K=K (.v (.int .i64 n)):=id rfl
@[simp] theorem U4 (x x':Value) (el n:Nat) (es:List D) (K:D→Prop):JY x (some (.row x' el n es)) K=(x'=x∧((es.length:Int)≤9223372036854775807→K (.v (.int .i64 es.length)))):=id rfl
def KO (x:Value) (r:Option Res) (K:D→Prop):Prop:=match r with
 | some (.row x' _ n es)=> x'=x∧n=1∧M4 es=true∧K (.v (.string (Oj es)))
 | _=> False
@[simp] theorem Ze (x x':Value) (el n:Nat) (es:List D) (K:D→Prop):KO x (some (.row x' el n es)) K=(x'=x∧n=1∧M4 es=true∧K (.v (.string (Oj es)))):=id rfl
def Mx (d:D) (H:aa) (K:D→Prop):Prop:=match d with
 | .own i x=> KO x (H i) K
 | .v (.slice none 0 0)=> K (.v (.string ⟨#[]⟩))
 | _=> False
@[simp] theorem Zd (i:Nat) (x:Value) (H:aa) (K:D→Prop):Mx (.own i x) H K=KO x (H i) K:=id rfl
def Dw (d:D) (K:D→Prop):Prop:=match d with
 | .v (.string s)=> (s.size:Int)≤9223372036854775807→K (.v (.int .i64 s.size))
 | _=> False
@[simp] theorem RQ (s:ByteArray) (K:D→Prop):Dw (.v (.string s)) K=((s.size:Int)≤9223372036854775807→K (.v (.int .i64 s.size))):=id rfl
def JP (mx:Bool) (d e:D) (K:D→Prop):Prop:=match d,e with
 | .v (.int k a), .v (.int k' b)=> k=k'∧K (.v (.int k (if mx then max a b else min a b)))
 | _,_=> False
@[simp] theorem UX (mx:Bool) (k k':IntKind) (a b:Int) (K:D→Prop):JP mx (.v (.int k a)) (.v (.int k' b)) K=(k=k'∧K (.v (.int k (if mx then max a b else min a b)))):=id rfl
@[simp ↓] theorem Pe (σ:Sg) (cs:List D) (K:List D→Prop):gT σ [] cs K=K cs:=id rfl
@[simp ↓] theorem Ok (σ:Sg) (off sz:Nat) (x:Operand) (r:List (Nat×Nat×Operand)) (cs:List D) (K:List D→Prop):gT σ ((off,sz,x)::r) cs K=((ev σ x).kn=true∧(ev σ x).cells.length=sz∧gT σ r (setAt cs off (ev σ x).cells) K):=id rfl
@[simp] theorem OV (n:Nat):iE n []=True:=id rfl
@[simp] theorem NB (n:Nat) (d:D) (r:List D):iE n (d::r)=(d.kn=true∧d.cells.length=n∧iE n r):=id rfl
def HG (n lo hi:Nat) (x:Value) (r:Option Res) (K:List D→Prop):Prop:=match r with
 | some (.row x' _ n'' es)=> x'=x∧n''=n∧K ((es.take hi).drop lo)
 | _=> False
@[simp] theorem Uq (n lo hi:Nat) (x x':Value) (el n':Nat) (es:List D) (K:List D→Prop):HG n lo hi x (some (.row x' el n' es)) K=(x'=x∧n'=n∧K ((es.take hi).drop lo)):=id rfl
@[simp] theorem ZH (n i:Nat) (x:Value) (n' lo hi:Nat) (H:aa) (K:List D→Prop):jd n (.sub i x n' lo hi) H K=(n'=n∧HG n lo hi x (H i) K):=by
 simp only[jd]
 cases H i with
 | none=> simp[HG]
 | some r=> cases r <;> simp[HG,and_left_comm]
@[simp] theorem Ur (n n':Nat) (es:List D) (H:aa) (K:List D→Prop):m0 n (.list n' es) H K=(n'=n∧K es):=id rfl
@[simp] theorem Us (n:Nat) (s:ByteArray) (H:aa) (K:List D→Prop):m0 n (.v (.string s)) H K=(n=1∧K (vz s)):=id rfl
def UY (t el n bytes:Nat) (agg:Bool) (z:List Value) (l c:Option (IntKind×Int)) (H:aa) (K:D→aa→Prop):Prop:=match l,c with
 | some (_,l),some (_,c)=> 0≤l∧l≤c∧bytes*c≤140737488355328∧c≤140737488355328∧ ∀x,K (.own t x) (ai H t (some (.row x el n (List.replicate l.toNat (if agg then .agg (z.map pb) else pb (z.headD (.bool false)))))))
 | _,_=> False
@[simp] theorem Z1 (t el n bytes:Nat) (agg:Bool) (z:List Value) (k k':IntKind) (l c:Int) (H:aa) (K:D→aa→Prop):UY t el n bytes agg z (some (k,l)) (some (k',c)) H K=(0≤l∧l≤c∧bytes*c≤140737488355328∧c≤140737488355328∧ ∀x,K (.own t x) (ai H t (some (.row x el n (List.replicate l.toNat (if agg then .agg (z.map pb) else pb (z.headD (.bool false)))))))):=id rfl
def sv (sz id b off:Nat) (y:D) (r:Option Res) (H:aa) (K:D→aa→Prop):Prop:=match r with
 | some (.box b' cells)=> b'=b∧off+sz≤cells.length∧K .undef (ai H id (some (.box b' (setAt cells off y.cells))))
 | _=> False
def su (sz id:Nat) (x:Value) (n i off:Nat) (y:D) (r:Option Res) (H:aa) (K:D→aa→Prop):Prop:=match r with
 | some (.row x' el n' es)=> x'=x∧n'=n∧0 < n∧off+sz≤n∧i < es.length∧ ∀d,es[i]?=some d→
    K .undef (ai H id (some (.row x' el n' (es.set i (if off=0∧sz=n then y else .agg (setAt d.cells off y.cells))))))
 | _=> False
def xX (sz:Nat) (d y:D) (H:aa) (K:D→aa→Prop):Prop:=match d with
 | .bptr id b off=> sv sz id b off y (H id) H K
 | .eptr id x n i off=> su sz id x n i off y (H id) H K
 | _=> False
@[simp] theorem PB (sz i b off:Nat) (y:D) (H:aa) (K:D→aa→Prop):xX sz (.bptr i b off) y H K=sv sz i b off y (H i) H K:=id rfl
@[simp] theorem PA (sz i:Nat) (x:Value) (n k off:Nat) (y:D) (H:aa) (K:D→aa→Prop):xX sz (.eptr i x n k off) y H K=su sz i x n k off y (H i) H K:=id rfl
@[simp] theorem PE (sz i b off b':Nat) (y:D) (cells:List D) (H:aa) (K:D→aa→Prop):sv sz i b off y (some (.box b' cells)) H K=(b'=b∧off+sz≤cells.length∧K .undef (ai H i (some (.box b' (setAt cells off y.cells))))):=id rfl
@[simp] theorem PD (sz i:Nat) (x x':Value) (el n n' k off:Nat) (y:D) (es:List D) (H:aa) (K:D→aa→Prop):su sz i x n k off y (some (.row x' el n' es)) H K=(x'=x∧n'=n∧0 < n∧off+sz≤n∧k < es.length∧ ∀d,es[k]?=some d→
 K .undef (ai H i (some (.row x' el n' (es.set k (if off=0∧sz=n then y else .agg (setAt d.cells off y.cells))))))):=id rfl
def KZ (el n bytes id:Nat) (x:Value) (es2:List D) (r:Option Res) (H:aa) (K:D→aa→Prop):Prop:=match r with
 | some (.row x' el' n' es)=> x'=x∧el'=el∧n'=n∧(es.length+es2.length) *bytes≤140737488355328∧es.length+es2.length≤140737488355328∧ ∀v,K (.own id v) (ai H id (some (.row v el n (es++es2))))
 | _=> False
def Zl (el n bytes id:Nat) (x:Value) (n' lo hi:Nat) (es2:List D) (r:Option Res) (H:aa) (K:D→aa→Prop):Prop:=match r with
 | some (.row x' el' n'' es)=> x'=x∧el'=el∧n'=n∧n''=n∧lo=0∧(hi+es2.length) *bytes≤140737488355328∧hi+es2.length≤140737488355328∧ ∀v,K (.own id v) (ai H id (some (.row v el n (es.take hi++es2))))
 | _=> False
def YS (n id:Nat) (x:Value) (src:List D) (r:Option Res) (H:aa) (K:D→aa→Prop):Prop:=match r with
 | some (.row x' el n' es)=> x'=x∧n'=n∧K (.v (.int .i64 (min src.length es.length:Nat))) (ai H id (some (.row x' el n' (src.take es.length++es.drop src.length))))
 | _=> False
def KH (n id:Nat) (x:Value) (n' lo hi:Nat) (src:List D) (r:Option Res) (H:aa) (K:D→aa→Prop):Prop:=match r with
 | some (.row x' el n'' es)=> x'=x∧n'=n∧n''=n∧K (.v (.int .i64 (min src.length (hi -lo):Nat))) (ai H id (some (.row x' el n'' (es.take lo++src.take (hi -lo) ++es.drop (lo+min src.length (hi -lo))))))
 | _=> False
def Mp (n:Nat) (d:D) (src:List D) (H:aa) (K:D→aa→Prop):Prop:=match d with
 | .own id x=> YS n id x src (H id) H K
 | .sub id x n' lo hi=> KH n id x n' lo hi src (H id) H K
 | _=> False
@[simp] theorem YQ (n i n' lo hi:Nat) (x:Value) (src:List D) (H:aa) (K:D→aa→Prop):Mp n (.sub i x n' lo hi) src H K=KH n i x n' lo hi src (H i) H K:=id rfl
@[simp] theorem YR (n i:Nat) (x x':Value) (n' lo hi:Nat) (src:List D) (el n'':Nat) (es:List D) (H:aa) (K:D→aa→Prop):KH n i x n' lo hi src (some (.row x' el n'' es)) H K=(x'=x∧n'=n∧n''=n∧K (.v (.int .i64 (min src.length (hi -lo):Nat))) (ai H i (some (.row x' el n'' (es.take lo++src.take (hi -lo) ++es.drop (lo+min src.length (hi -lo))))))):=id rfl
def LI (d:D) (K:D→Prop):Prop:=match d with
 | .v (.string s)=> K (.list 1 (s.data.toList.map fun c=> .v (.int .u8 c.toNat)))
 | _=> False
@[simp] theorem UA (s:ByteArray) (K:D→Prop):LI (.v (.string s)) K=K (.list 1 (s.data.toList.map fun c=> .v (.int .u8 c.toNat))):=id rfl
def Jc (t:Nat) (d:D) (H:aa) (K:D→aa→Prop):Prop:=match d with
 | .v (.string s)=> ∀b,K (.bptr t b 0) (ai H t (some (.iter b s 0)))
 | _=> False
@[simp] theorem Up (t:Nat) (s:ByteArray) (H:aa) (K:D→aa→Prop):Jc t (.v (.string s)) H K= ∀b,K (.bptr t b 0) (ai H t (some (.iter b s 0))):=id rfl
def Jd (id b:Nat) (r:Option Res) (H:aa) (K:D→aa→Prop):Prop:=match r with
 | some (.iter b' s pos)=> b'=b∧(pos < s.size→K (.tup [.v (.bool true), .v (.int .i64 pos), .v (.int .i32 (Utf8.decode s pos).1)]) (ai H id (some (.iter b' s (pos+ (Utf8.decode s pos).2)))))∧(¬pos < s.size→K (.tup [.v (.bool false)]) H)
 | _=> False
@[simp] theorem Uu (id b b':Nat) (s:ByteArray) (pos:Nat) (H:aa) (K:D→aa→Prop):Jd id b (some (.iter b' s pos)) H K=(b'=b∧(pos < s.size→K (.tup [.v (.bool true), .v (.int .i64 pos), .v (.int .i32 (Utf8.decode s pos).1)]) (ai H id (some (.iter b' s (pos+ (Utf8.decode s pos).2)))))∧(¬pos < s.size→K (.tup [.v (.bool false)]) H)):=_root_.id rfl
def LE (d:D) (H:aa) (K:D→aa→Prop):Prop:=match d with
 | .bptr id b off=> off=0∧Jd id b (H id) H K
 | _=> False
@[simp] theorem Ut (i b off:Nat) (H:aa) (K:D→aa→Prop):LE (.bptr i b off) H K=(off=0∧Jd i b (H i) H K):=id rfl
def MB (dst:Option Nat) (el n b:Nat) (d:D) (es2:List D) (H:aa) (K:D→aa→Prop):Prop:=match dst,d with
 | some t, .v (.slice none 0 0)=> es2.length*b≤140737488355328∧es2.length≤140737488355328∧ ∀v,K (.own t v) (ai H t (some (.row v el n es2)))
 | _,_=> False
@[simp] theorem Zo (t el n b:Nat) (es2:List D) (H:aa) (K:D→aa→Prop):MB (some t) el n b (.v (.slice none 0 0)) es2 H K=(es2.length*b≤140737488355328∧es2.length≤140737488355328∧ ∀v,K (.own t v) (ai H t (some (.row v el n es2)))):=id rfl
def KW (el n b r:Nat) (x:Value) (es2:List D) (q:Option Res) (H:aa) (K:D→aa→Prop):Prop:=match q with
 | some (.row x' el' n' es)=> x'=x∧el'=el∧n'=n∧(es.length+es2.length) *b≤140737488355328∧es.length+es2.length≤140737488355328∧ ∀v,K (.own r v) (ai H r (some (.row v el n (es++es2))))
 | _=> False
@[simp] theorem Zi (el n b r:Nat) (x x':Value) (el' n':Nat) (es es2:List D) (H:aa) (K:D→aa→Prop):KW el n b r x es2 (some (.row x' el' n' es)) H K=(x'=x∧el'=el∧n'=n∧(es.length+es2.length) *b≤140737488355328∧es.length+es2.length≤140737488355328∧ ∀v,K (.own r v) (ai H r (some (.row v el n (es++es2))))):=id rfl
def MA (r el n b:Nat) (d:D) (es2:List D) (H:aa) (K:D→aa→Prop):Prop:=match d with
 | .own id x=> id=r∧KW el n b r x es2 (H r) H K
 | _=> False
@[simp] theorem Zh (r el n b i:Nat) (x:Value) (es2:List D) (H:aa) (K:D→aa→Prop):MA r el n b (.own i x) es2 H K=(i=r∧KW el n b r x es2 (H r) H K):=id rfl
def Dt (r sz:Nat) (d y:D) (H:aa) (K:D→aa→Prop):Prop:=match d with
 | .bptr id b off=> id=r∧sv sz r b off y (H r) H K
 | .eptr id x n i off=> id=r∧su sz r x n i off y (H r) H K
 | _=> False
@[simp] theorem RI (r sz i b off:Nat) (y:D) (H:aa) (K:D→aa→Prop):Dt r sz (.bptr i b off) y H K=(i=r∧sv sz r b off y (H r) H K):=id rfl
@[simp] theorem RH (r sz i:Nat) (x:Value) (n k off:Nat) (y:D) (H:aa) (K:D→aa→Prop):Dt r sz (.eptr i x n k off) y H K=(i=r∧su sz r x n k off y (H r) H K):=id rfl
def Zn (dst:Option Nat) (el n bytes:Nat) (es2:List D) (H:aa) (K:D→aa→Prop):Prop:=match dst with
 | some t=> es2.length*bytes≤140737488355328∧es2.length≤140737488355328∧ ∀v,K (.own t v) (ai H t (some (.row v el n es2)))
 | none=> False
def KX (dst:Option Nat) (el n bytes:Nat) (d:D) (es2:List D) (H:aa) (K:D→aa→Prop):Prop:=match d with
 | .own id x=> KZ el n bytes id x es2 (H id) H K
 | .v (.slice none 0 0)=> Zn dst el n bytes es2 H K
 | .sub id x n' lo hi=> Zl el n bytes id x n' lo hi es2 (H id) H K
 | _=> False
@[simp] theorem Zj (dst:Option Nat) (el n bytes i:Nat) (x:Value) (es2:List D) (H:aa) (K:D→aa→Prop):KX dst el n bytes (.own i x) es2 H K=KZ el n bytes i x es2 (H i) H K:=id rfl
@[simp] theorem Zk (t:Nat) (el n bytes:Nat) (es2:List D) (H:aa) (K:D→aa→Prop):KX (some t) el n bytes (.v (.slice none 0 0)) es2 H K=(es2.length*bytes≤140737488355328∧es2.length≤140737488355328∧ ∀v,K (.own t v) (ai H t (some (.row v el n es2)))):=id rfl
@[simp] theorem Zm (el n bytes i:Nat) (x x':Value) (es2:List D) (el' n':Nat) (es:List D) (H:aa) (K:D→aa→Prop):KZ el n bytes i x es2 (some (.row x' el' n' es)) H K=(x'=x∧el'=el∧n'=n∧(es.length+es2.length) *bytes≤140737488355328∧es.length+es2.length≤140737488355328∧ ∀v,K (.own i v) (ai H i (some (.row v el n (es++es2))))):=id rfl
def uZ (S:Nat→Spc) (f:D) (d:Nat) (args:List D) (H:aa) (K:D→aa→Prop):Prop:=match f with
 | .clo g caps=> (S g).pt d (args++caps) H K
 | _=> False
@[simp] theorem Tv (S:Nat→Spc) (g:Nat) (caps:List D) (d:Nat) (args:List D) (H:aa) (K:D→aa→Prop):uZ S (.clo g caps) d args H K=(S g).pt d (args++caps) H K:=id rfl
@[congr] theorem PW {r:Nat} {dst:Option Nat} {s:Spc} {args:List D} {H:aa} {K:D→aa→Prop} {s₁:Spc} {args₁:List D} (hs:s=s₁) (hargs:args=args₁):AN r dst s args H K=AN r dst s₁ args₁ H K:=by subst hs;subst hargs;rfl
@[congr] theorem Sa {dst:Option Nat} {s:Spc} {args:List D} {H:aa} {K:D→aa→Prop} {s₁:Spc} {args₁:List D} (hs:s=s₁) (hargs:args=args₁):HP dst s args H K=HP dst s₁ args₁ H K:=by subst hs;subst hargs;rfl
section
variable {S:Nat→Spc} {σ:Sg} {H Hr:aa} {K:D→aa→Prop}
@[simp ↓] theorem YY (dst:Option Nat) (x:Operand):aN S (.mv x) dst σ H K=((fun d=> K d H) (ev σ x)):=id rfl
@[simp ↓] theorem qca (dst:Option Nat) (x:Operand):aC S (.mv x) dst σ Hr H K=((fun d=> K d H) (ev σ x)):=id rfl
@[simp ↓] theorem YX (dst:Option Nat) (c x y:Operand):aN S (.pick c x y) dst σ H K=(wA (ev σ c) ((fun d=> K d H) (ev σ x)) ((fun d=> K d H) (ev σ y))):=id rfl
@[simp ↓] theorem UL (dst:Option Nat) (c x y:Operand):aC S (.pick c x y) dst σ Hr H K=(wA (ev σ c) ((fun d=> K d H) (ev σ x)) ((fun d=> K d H) (ev σ y))):=id rfl
@[simp ↓] theorem TD (dst:Option Nat) (z:List Value) (ps:List (Nat×Nat×Operand)):aN S (.build z ps) dst σ H K=(gT σ ps (z.map pb) fun cs=> (fun d=> K d H) (.agg cs)):=id rfl
@[simp ↓] theorem R6 (dst:Option Nat) (z:List Value) (ps:List (Nat×Nat×Operand)):aC S (.build z ps) dst σ Hr H K=(gT σ ps (z.map pb) fun cs=> (fun d=> K d H) (.agg cs)):=id rfl
@[simp ↓] theorem Q5 (dst:Option Nat) (el n:Nat) (ps:List Operand):aN S (.bslice el n ps) dst σ H K=(iE n (ps.map (ev σ))∧(fun d=> K d H) (.list n (ps.map (ev σ)))):=id rfl
@[simp ↓] theorem PU (dst:Option Nat) (el n:Nat) (ps:List Operand):aC S (.bslice el n ps) dst σ Hr H K=(iE n (ps.map (ev σ))∧(fun d=> K d H) (.list n (ps.map (ev σ)))):=id rfl
@[simp ↓] theorem YZ (dst:Option Nat) (agg:Bool) (sz:Nat) (x:Operand):aN S (.load agg sz x) dst σ H K=(wC agg sz (ev σ x) H (fun d=> K d H)):=id rfl
@[simp ↓] theorem UM (dst:Option Nat) (agg:Bool) (sz:Nat) (x:Operand):aC S (.load agg sz x) dst σ Hr H K=(wC agg sz (ev σ x) Hr (fun d=> K d H)):=id rfl
@[simp ↓] theorem Tz (dst:Option Nat) (x:Operand):aN S (.nilck x) dst σ H K=(H5 (ev σ x) (fun d=> K d H)):=id rfl
@[simp ↓] theorem R1 (dst:Option Nat) (x:Operand):aC S (.nilck x) dst σ Hr H K=(H5 (ev σ x) (fun d=> K d H)):=id rfl
@[simp ↓] theorem Mt (dst:Option Nat) (op:BinOp) (x y:Operand):aN S (.arith op x y) dst σ H K=(zE op (ev σ x) (ev σ y) (fun d=> K d H)):=id rfl
@[simp ↓] theorem R7 (dst:Option Nat) (op:BinOp) (x y:Operand):aC S (.arith op x y) dst σ Hr H K=(zE op (ev σ x) (ev σ y) (fun d=> K d H)):=id rfl
@[simp ↓] theorem Q4 (dst:Option Nat) (op:BinOp) (x y:Operand):aN S (.cmp op x y) dst σ H K=(Iu op (ev σ x) (ev σ y) (fun d=> K d H)):=id rfl
@[simp ↓] theorem ZS (dst:Option Nat) (op:BinOp) (x y:Operand):aC S (.cmp op x y) dst σ Hr H K=(Iu op (ev σ x) (ev σ y) (fun d=> K d H)):=id rfl
@[simp ↓] theorem qbR (dst:Option Nat) (neg agg:Bool) (ks:List E0) (x y:Operand):aN S (.eql neg agg ks x y) dst σ H K=(Io neg (NW agg ks (ev σ x) (ev σ y)) (fun d=> K d H)):=id rfl
@[simp ↓] theorem ZR (dst:Option Nat) (neg agg:Bool) (ks:List E0) (x y:Operand):aC S (.eql neg agg ks x y) dst σ Hr H K=(Io neg (NW agg ks (ev σ x) (ev σ y)) (fun d=> K d H)):=id rfl
@[simp ↓] theorem qbN (dst:Option Nat) (x:Operand):aN S (.not x) dst σ H K=(JO (ev σ x) (fun d=> K d H)):=id rfl
@[simp ↓] theorem ZN (dst:Option Nat) (x:Operand):aC S (.not x) dst σ Hr H K=(JO (ev σ x) (fun d=> K d H)):=id rfl
@[simp ↓] theorem Y1 (dst:Option Nat) (k:IntKind) (x:Operand):aN S (.conv k x) dst σ H K=(Hb k (ev σ x) (fun d=> K d H)):=id rfl
@[simp ↓] theorem qbS (dst:Option Nat) (f:Nat) (xs:List Operand):aN S (.clo f xs) dst σ H K=((fun d=> K d H) (.clo f (xs.map (ev σ)))):=id rfl
@[simp ↓] theorem Ty (dst:Option Nat) (n:Nat) (x:Operand) (lo hi:Option Operand):aN S (.slice n x lo hi) dst σ H K=(ya n (ev σ x) (lo.map fun o=> mX (ev σ o)) (hi.map fun o=> mX (ev σ o)) H (fun d=> K d H)):=id rfl
@[simp ↓] theorem RZ (dst:Option Nat) (n:Nat) (x:Operand) (lo hi:Option Operand):aC S (.slice n x lo hi) dst σ Hr H K=(ya n (ev σ x) (lo.map fun o=> mX (ev σ o)) (hi.map fun o=> mX (ev σ o)) Hr (fun d=> K d H)):=id rfl
@[simp ↓] theorem Q0 (dst:Option Nat) (x:Operand) (lo hi:Option Operand):aN S (.sslice x lo hi) dst σ H K=(xu (ev σ x) (lo.map fun o=> mX (ev σ o)) (hi.map fun o=> mX (ev σ o)) (fun d=> K d H)):=id rfl
@[simp ↓] theorem PR (dst:Option Nat) (x:Operand) (lo hi:Option Operand):aC S (.sslice x lo hi) dst σ Hr H K=(xu (ev σ x) (lo.map fun o=> mX (ev σ o)) (hi.map fun o=> mX (ev σ o)) (fun d=> K d H)):=id rfl
@[simp ↓] theorem TB (dst:Option Nat) (off:Nat) (x:Operand):aN S (.faddr off x) dst σ H K=(tq off (ev σ x) (fun d=> K d H)):=id rfl
@[simp ↓] theorem R3 (dst:Option Nat) (off:Nat) (x:Operand):aC S (.faddr off x) dst σ Hr H K=(tq off (ev σ x) (fun d=> K d H)):=id rfl
@[simp ↓] theorem TA (dst:Option Nat) (n:Nat) (x i:Operand):aN S (.iaddr n x i) dst σ H K=(tk n (ev σ i) (ev σ x) H (fun d=> K d H)):=id rfl
@[simp ↓] theorem R2 (dst:Option Nat) (n:Nat) (x i:Operand):aC S (.iaddr n x i) dst σ Hr H K=(tk n (ev σ i) (ev σ x) Hr (fun d=> K d H)):=id rfl
@[simp ↓] theorem YV (dst:Option Nat) (x i:Operand):aN S (.sidx x i) dst σ H K=(GI (ev σ i) (ev σ x) (fun d=> K d H)):=id rfl
@[simp ↓] theorem qbQ (dst:Option Nat) (x:Operand) (i:Nat):aN S (.ext x i) dst σ H K=(Ko (ev σ x) i (fun d=> K d H)):=id rfl
@[simp ↓] theorem ZQ (dst:Option Nat) (x:Operand) (i:Nat):aC S (.ext x i) dst σ Hr H K=(Ko (ev σ x) i (fun d=> K d H)):=id rfl
@[simp ↓] theorem qbP (dst:Option Nat) (x:Operand):aN S (.len x) dst σ H K=(F0 (ev σ x) H (fun d=> K d H)):=id rfl
@[simp ↓] theorem ZP (dst:Option Nat) (x:Operand):aC S (.len x) dst σ Hr H K=(F0 (ev σ x) Hr (fun d=> K d H)):=id rfl
@[simp ↓] theorem YU (dst:Option Nat) (x:Operand):aN S (.slen x) dst σ H K=(Dw (ev σ x) (fun d=> K d H)):=id rfl
@[simp ↓] theorem UK (dst:Option Nat) (x:Operand):aC S (.slen x) dst σ Hr H K=(Dw (ev σ x) (fun d=> K d H)):=id rfl
@[simp ↓] theorem Y3 (dst:Option Nat) (x:Operand):aN S (.bstr x) dst σ H K=(Mx (ev σ x) H (fun d=> K d H)):=id rfl
@[simp ↓] theorem YW (dst:Option Nat) (x:Operand):aN S (.rstr x) dst σ H K=(LO (ev σ x) (fun d=> K d H)):=id rfl
@[simp ↓] theorem qbO (dst:Option Nat) (mx:Bool) (x y:Operand):aN S (.mm mx [x,y]) dst σ H K=JP mx (ev σ x) (ev σ y) (fun d=> K d H):=id rfl
@[simp ↓] theorem Y4 (dst:Option Nat) (el:Nat) (x:Operand):aN S (.box el true x) dst σ H K=((ev σ x).kn=true∧K (.cptr (ev σ x).cells 0) H):=id rfl
@[simp ↓] theorem TE (t el:Nat) (z:List Value):aN S (.alloc el z) (some t) σ H K= ∀b,K (.bptr t b 0) (ai H t (some (.box b (z.map pb)))):=id rfl
@[simp ↓] theorem qbT (t el:Nat) (x:Operand):aN S (.box el false x) (some t) σ H K=((ev σ x).kn=true∧ ∀b,K (.bptr t b 0) (ai H t (some (.box b (ev σ x).cells)))):=id rfl
@[simp ↓] theorem Q3 (t el n:Nat) (ps:List Operand):aN S (.mslice el n ps) (some t) σ H K=(iE n (ps.map (ev σ))∧ ∀x,K (.own t x) (ai H t (some (.row x el n (ps.map (ev σ)))))):=id rfl
@[simp ↓] theorem Pd (t el n bytes:Nat) (agg:Bool) (z:List Value) (l c:Operand):aN S (.mkslice el n bytes agg z l c) (some t) σ H K=UY t el n bytes agg z (mX (ev σ l)) (mX (ev σ c)) H K:=id rfl
@[simp ↓] theorem ZO (dst:Option Nat) (mx:Bool) (x y:Operand):aC S (.mm mx [x,y]) dst σ Hr H K=JP mx (ev σ x) (ev σ y) (fun d=> K d H):=id rfl
@[simp ↓] theorem R8 (t el:Nat) (z:List Value):aC S (.alloc el z) (some t) σ Hr H K= ∀b,K (.bptr t b 0) (ai H t (some (.box b (z.map pb)))):=id rfl
@[simp ↓] theorem PS (t el n:Nat):aC S (.nslice el n) (some t) σ Hr H K= ∀x,K (.own t x) (ai H t (some (.row x el n []))):=id rfl
@[simp ↓] theorem OS (t el n bytes:Nat) (agg:Bool) (z:List Value) (l c:Operand):aC S (.mkslice el n bytes agg z l c) (some t) σ Hr H K=UY t el n bytes agg z (mX (ev σ l)) (mX (ev σ c)) H K:=id rfl
@[simp ↓] theorem Q2 (dst:Option Nat) (x:Operand):aN S (.sbytes x) dst σ H K=LI (ev σ x) (fun d=> K d H):=id rfl
@[simp ↓] theorem Q1 (t:Nat) (x:Operand):aN S (.srange x) (some t) σ H K=Jc t (ev σ x) H K:=by
 simp only[aN,ct,Jc]
 split <;> simp_all
@[simp ↓] theorem Tx (dst:Option Nat) (x:Operand):aN S (.snext x) dst σ H K=LE (ev σ x) H K:=id rfl
@[simp ↓] theorem RY (dst:Option Nat) (r sz:Nat) (x y:Operand):aC S (.store (some r) sz x y) dst σ Hr H K=((ev σ y).kn=true∧(ev σ y).cells.length=sz∧Dt r sz (ev σ x) (ev σ y) H K):=by
 simp only[aC]
 congr 2
@[simp ↓] theorem Tw (dst:Option Nat) (rt:Option Nat) (sz:Nat) (x y:Operand):aN S (.store rt sz x y) dst σ H K=((ev σ y).kn=true∧(ev σ y).cells.length=sz∧xX sz (ev σ x) (ev σ y) H K):=id rfl
@[simp ↓] theorem Q6 (dst:Option Nat) (rt:Option Nat) (el n bytes:Nat) (x y:Operand):aN S (.append rt el n bytes x y) dst σ H K=m0 n (ev σ y) H fun es2=> KX dst el n bytes (ev σ x) es2 H K:=id rfl
@[simp ↓] theorem OU (dst:Option Nat) (el n bytes:Nat) (x y:Operand):aC S (.append none el n bytes x y) dst σ Hr H K=m0 n (ev σ y) Hr fun es2=> MB dst el n bytes (ev σ x) es2 H K:=by
 simp only[aC]
 congr 1
@[simp ↓] theorem OT (dst:Option Nat) (r el n bytes:Nat) (x y:Operand):aC S (.append (some r) el n bytes x y) dst σ Hr H K=m0 n (ev σ y) Hr fun es2=> MA r el n bytes (ev σ x) es2 H K:=by
 simp only[aC]
 congr 1
@[simp ↓] theorem Y0 (dst:Option Nat) (n:Nat) (x y:Operand):aN S (.copy n x y) dst σ H K=jd n (ev σ y) H fun src=> Mp n (ev σ x) src H K:=id rfl
@[simp ↓] theorem Y2 (dst:Option Nat) (f:Nat) (args:List Operand):aN S (.call f args) dst σ H K=(S f).pt (dst.getD 0) (args.map (ev σ)) H K:=id rfl
@[simp ↓] theorem R5 (dst:Option Nat) (r f:Nat) (args:List Operand):aC S (.callb r f args) dst σ Hr H K=AN r dst (S f) (args.map (ev σ)) H K:=id rfl
@[simp ↓] theorem TC (dst:Option Nat) (f:Operand) (args:List Operand):aN S (.callv f args) dst σ H K=uZ S (ev σ f) (dst.getD 0) (args.map (ev σ)) H K:=id rfl
@[simp ↓] theorem UN (dst:Option Nat) (f:Nat) (args:List Operand):aC S (.call f args) dst σ Hr H K=HP dst (S f) (args.map (ev σ)) H K:=id rfl
end
theorem Py (σ:Sg) (t s:Nat) (d:D):lD σ t d s=if s=t then d else σ s:=id rfl
theorem Fd (σ:Sg) (t:Nat) (d:D):ef σ (some t) d=lD σ t d:=id rfl
theorem Ng (σ:Sg) (d:D):ef σ none d=σ:=id rfl
theorem Nh (H:aa) (t s:Nat) (d:Option Res):ai H t d s=if s=t then d else H s:=id rfl
attribute [simp] Fd Ng Nh
@[simp] theorem IS (σ:Sg) (t:Nat):ev σ (.tmp t)=σ t:=id rfl
@[simp] theorem Lv (σ:Sg) (x:Value):ev σ (.const x)=pb x:=id rfl
@[simp] theorem Um (σ:Sg) (f:Nat):ev σ (.func f)= .clo f []:=id rfl
@[simp] theorem Un (b:Bool):pb (.bool b)= .v (.bool b):=id rfl
@[simp] theorem Pv (k:IntKind) (n:Int):pb (.int k n)= .v (.int k n):=id rfl
@[simp] theorem Zz (s:ByteArray):pb (.string s)= .v (.string s):=id rfl
@[simp] theorem ZA (a:Option Addr):pb (.pointer a)= .v (.pointer a):=id rfl
@[simp] theorem RB (a:Option Addr) (l c:Nat):pb (.slice a l c)= .v (.slice a l c):=id rfl
theorem Qh (σ:Sg):gy [] σ=fun _=> .any:=id rfl
theorem NO (t:Nat) (l:List Nat) (σ:Sg):gy (t::l) σ=lD (gy l σ) t (σ t):=id rfl
@[simp] theorem Yi (H:aa):gV [] H=fun _=> none:=id rfl
@[simp] theorem L0 (t:Nat) (l:List Nat) (H:aa):gV (t::l) H=ai (gV l H) t (H t):=id rfl
@[simp] theorem UT (i:Nat):de i=none:=id rfl
@[simp] theorem U1 (σ:Sg):mE [] σ=True:=id rfl
@[simp] theorem Sp (t:Nat) (d:D) (l:List (Nat×D)) (σ:Sg):mE ((t,d)::l) σ=(Gx (σ t) d∧mE l σ):=id rfl
@[simp] theorem UW (H:aa):pz [] H=True:=id rfl
@[simp] theorem Sj (t:Nat) (d:Res) (l:List (Nat×Res)) (H:aa):pz ((t,d)::l) H=((H t=some d∨isNilRow d)∧pz l H):=id rfl
@[simp] theorem sub_self (d:D):Gx d d=True:=by
 cases d <;> simp[Gx]
@[simp] theorem ZG (a:D) (x:Value):Gx a (.v x)=(a= .v x):=id rfl
@[simp] theorem RG (i:Nat) (x:Value) (y:Value) (j:Nat):Gx (.own i x) (.own j y)=(x=y):=by simp[Gx]
@[simp] theorem Pz (x:Value) (y:Value) (j:Nat):Gx (.v x) (.own j y)=(x=y):=by simp[Gx]
@[simp] theorem qck (sz:Nat) (cs:List D) (off:Nat):CX true sz cs off= .agg ((cs.drop off).take sz):=id rfl
@[simp] theorem qcl (sz:Nat) (cs:List D) (off:Nat):CX false sz cs off=(cs[off]?).getD .any:=id rfl
@[simp ↓] theorem RW (rs:List au) (K:D→aa→Prop) (σ:Sg) (H:aa):pH rs K .norm σ H=pI rs σ H fun ds=> K (gw ds) H:=id rfl
@[simp ↓] theorem UJ (rs:List au) (K:D→aa→Prop) (σ:Sg) (H:aa):pH rs K .ret σ H=pI rs σ H fun ds=> K (gw ds) H:=id rfl
@[simp ↓] theorem UI (σ:Sg) (H:aa) (K:List D→Prop):pI [] σ H K=K []:=id rfl
@[simp ↓] theorem UH (t:Nat) (r:List au) (σ:Sg) (H:aa) (K:List D→Prop):pI (.tmp t::r) σ H K=pI r σ H fun ds=> K (σ t::ds):=id rfl
@[simp ↓] theorem RV (t:Nat) (agg:Bool) (sz:Nat) (r:List au) (σ:Sg) (H:aa) (K:List D→Prop):pI (.cell t agg sz::r) σ H K=wC agg sz (σ t) H fun d=> pI r σ H fun ds=> K (d::ds):=id rfl
@[simp] theorem qcd (d:D):gw [d]=d:=id rfl
@[simp] theorem qce:gw []= .tup []:=id rfl
@[simp] theorem qcc (d e:D) (l:List D):gw (d::e::l)= .tup (d::e::l):=id rfl
@[simp] theorem qcw (x:Value):D.kn (.v x)=true:=id rfl
@[simp] theorem Tt (x:Value):D.cells (.v x)= [.v x]:=id rfl
@[simp] theorem Yh (cs:List D):D.kn (.agg cs)=true:=id rfl
@[simp] theorem Pc (cs:List D):D.cells (.agg cs)=cs:=id rfl
@[simp] theorem Sz (n:Nat) (es:List D):D.kn (.list n es)=true:=id rfl
@[simp] theorem Og (n:Nat) (es:List D):D.cells (.list n es)= [.list n es]:=id rfl
@[simp] theorem Yf (i:Nat) (x:Value):D.kn (.own i x)=true:=id rfl
@[simp] theorem Pa (i:Nat) (x:Value):D.cells (.own i x)= [.own i x]:=id rfl
@[simp] theorem Ye (i:Nat) (v:Value) (n k o:Nat):D.kn (.sub i v n k o)=true:=id rfl
@[simp] theorem O9 (i:Nat) (v:Value) (n k o:Nat):D.cells (.sub i v n k o)= [.sub i v n k o]:=id rfl
@[simp] theorem Yg (f:Nat) (cs:List D):D.kn (.clo f cs)=true:=id rfl
@[simp] theorem Pb (f:Nat) (cs:List D):D.cells (.clo f cs)= [.clo f cs]:=id rfl
@[simp] theorem qbV (k:IntKind) (n:Int):mX (.v (.int k n))=some (k,n):=id rfl
attribute [simp] setAt
@[simp] theorem YF (n:Int):enc n= .v (.int .i64 n):=rfl
@[simp] theorem Tf (b:Bool):enc b= .v (.bool b):=rfl
@[simp] theorem YE (s:ByteArray):enc s= .v (.string s):=rfl
@[simp] theorem Te {X:Type} [Cod X] (l:List X):enc l= .list (Cod.wd X) (l.map enc):=rfl
@[simp] theorem Ui:Cod.wd Int=1:=rfl
@[simp] theorem Ru:Cod.wd Bool=1:=rfl
@[simp] theorem Uh:Cod.wd ByteArray=1:=rfl
@[simp] theorem Rt {X:Type} [Cod X]:Cod.wd (List X)=1:=rfl
@[congr] theorem SJ {d:D} {A:Prop} {B:Prop} {d₁:D} (hd:d=d₁):DX d A B=DX d₁ A B:=by subst hd;rfl
@[congr] theorem O5 {s:Nat} {b:Bool} {σ:Sg} {d:D} {yes:Sg→Prop} {no:Sg→Prop} {d₁:D} (hd:d=d₁):ju s b σ d yes no=ju s b σ d₁ yes no:=by subst hd;rfl
@[congr] theorem PY {d:D} {A:Prop} {B:Prop} {d₁:D} (hd:d=d₁):wA d A B=wA d₁ A B:=by subst hd;rfl
@[congr] theorem Qf {agg:Bool} {sz:Nat} {b:Nat} {off:Nat} {r:Option Res} {K:D→Prop} {r₁:Option Res} (hr:r=r₁):DU agg sz b off r K=DU agg sz b off r₁ K:=by subst hr;rfl
@[congr] theorem Qe {agg:Bool} {sz:Nat} {x:Value} {n:Nat} {i:Nat} {off:Nat} {r:Option Res} {K:D→Prop} {r₁:Option Res} (hr:r=r₁):DT agg sz x n i off r K=DT agg sz x n i off r₁ K:=by subst hr;rfl
@[congr] theorem Qc {agg:Bool} {sz:Nat} {d:D} {H:aa} {K:D→Prop} {d₁:D} (hd:d=d₁):wC agg sz d H K=wC agg sz d₁ H K:=by subst hd;rfl
@[congr] theorem Sh {d:D} {K:D→Prop} {d₁:D} (hd:d=d₁):H5 d K=H5 d₁ K:=by subst hd;rfl
@[congr] theorem Pm {op:BinOp} {d:D} {e:D} {K:D→Prop} {d₁:D} {e₁:D} (hd:d=d₁) (he:e=e₁):zE op d e K=zE op d₁ e₁ K:=by subst hd;subst he;rfl
@[congr] theorem RU {d:D} {K:D→Prop} {d₁:D} (hd:d=d₁):LO d K=LO d₁ K:=by subst hd;rfl
@[congr] theorem Ts {o:Option Bool} {K:D→Prop} {o₁:Option Bool} (ho:o=o₁):Gl o K=Gl o₁ K:=by subst ho;rfl
@[congr] theorem Tq {op:BinOp} {d:D} {e:D} {K:D→Prop} {d₁:D} {e₁:D} (hd:d=d₁) (he:e=e₁):Iu op d e K=Iu op d₁ e₁ K:=by subst hd;subst he;rfl
@[congr] theorem SZ {neg:Bool} {o:Option Bool} {K:D→Prop} {o₁:Option Bool} (ho:o=o₁):Io neg o K=Io neg o₁ K:=by subst ho;rfl
@[congr] theorem Se {d:D} {K:D→Prop} {d₁:D} (hd:d=d₁):JO d K=JO d₁ K:=by subst hd;rfl
@[congr] theorem QS {k:IntKind} {d:D} {K:D→Prop} {d₁:D} (hd:d=d₁):Hb k d K=Hb k d₁ K:=by subst hd;rfl
@[congr] theorem O7 {off:Nat} {d:D} {K:D→Prop} {d₁:D} (hd:d=d₁):tq off d K=tq off d₁ K:=by subst hd;rfl
@[congr] theorem O4 {n:Nat} {k:Int} {id:Nat} {x:Value} {r:Option Res} {K:D→Prop} {r₁:Option Res} (hr:r=r₁):zi n k id x r K=zi n k id x r₁ K:=by subst hr;rfl
@[congr] theorem O3 {n:Nat} {i:D} {d:D} {H:aa} {K:D→Prop} {i₁:D} {d₁:D} (hi:i=i₁) (hd:d=d₁):tk n i d H K=tk n i₁ d₁ H K:=by subst hi;subst hd;rfl
@[congr] theorem PM {i:D} {d:D} {K:D→Prop} {i₁:D} {d₁:D} (hi:i=i₁) (hd:d=d₁):GI i d K=GI i₁ d₁ K:=by subst hi;subst hd;rfl
@[congr] theorem ST {o:Option D} {K:D→Prop} {o₁:Option D} (ho:o=o₁):Kp o K=Kp o₁ K:=by subst ho;rfl
@[congr] theorem SR {d:D} {i:Nat} {K:D→Prop} {d₁:D} (hd:d=d₁):Ko d i K=Ko d₁ i K:=by subst hd;rfl
@[congr] theorem Sy {x:Value} {r:Option Res} {K:D→Prop} {r₁:Option Res} (hr:r=r₁):JY x r K=JY x r₁ K:=by subst hr;rfl
@[congr] theorem Sx {d:D} {H:aa} {K:D→Prop} {d₁:D} (hd:d=d₁):F0 d H K=F0 d₁ H K:=by subst hd;rfl
@[congr] theorem TI {x:Value} {r:Option Res} {K:D→Prop} {r₁:Option Res} (hr:r=r₁):KO x r K=KO x r₁ K:=by subst hr;rfl
@[congr] theorem TH {d:D} {H:aa} {K:D→Prop} {d₁:D} (hd:d=d₁):Mx d H K=Mx d₁ H K:=by subst hd;rfl
@[congr] theorem PL {d:D} {K:D→Prop} {d₁:D} (hd:d=d₁):Dw d K=Dw d₁ K:=by subst hd;rfl
@[congr] theorem Sk {mx:Bool} {d:D} {e:D} {K:D→Prop} {d₁:D} {e₁:D} (hd:d=d₁) (he:e=e₁):JP mx d e K=JP mx d₁ e₁ K:=by subst hd;subst he;rfl
@[congr] theorem RK {n:Nat} {lo:Nat} {hi:Nat} {x:Value} {r:Option Res} {K:List D→Prop} {r₁:Option Res} (hr:r=r₁):HG n lo hi x r K=HG n lo hi x r₁ K:=by subst hr;rfl
@[congr] theorem OP {sz:Nat} {id:Nat} {b:Nat} {off:Nat} {y:D} {r:Option Res} {H:aa} {K:D→aa→Prop} {y₁:D} {r₁:Option Res} (hy:y=y₁) (hr:r=r₁):sv sz id b off y r H K=sv sz id b off y₁ r₁ H K:=by subst hy;subst hr;rfl
@[congr] theorem OO {sz:Nat} {id:Nat} {x:Value} {n:Nat} {i:Nat} {off:Nat} {y:D} {r:Option Res} {H:aa} {K:D→aa→Prop} {y₁:D} {r₁:Option Res} (hy:y=y₁) (hr:r=r₁):su sz id x n i off y r H K=su sz id x n i off y₁ r₁ H K:=by subst hy;subst hr;rfl
@[congr] theorem ON {sz:Nat} {d:D} {y:D} {H:aa} {K:D→aa→Prop} {d₁:D} {y₁:D} (hd:d=d₁) (hy:y=y₁):xX sz d y H K=xX sz d₁ y₁ H K:=by subst hd;subst hy;rfl
@[congr] theorem TQ {el:Nat} {n:Nat} {bytes:Nat} {id:Nat} {x:Value} {es2:List D} {r:Option Res} {H:aa} {K:D→aa→Prop} {es2₁:List D} {r₁:Option Res} (hes2:es2=es2₁) (hr:r=r₁):KZ el n bytes id x es2 r H K=KZ el n bytes id x es2₁ r₁ H K:=by subst hes2;subst hr;rfl
@[congr] theorem To {n:Nat} {id:Nat} {x:Value} {n':Nat} {lo:Nat} {hi:Nat} {src:List D} {r:Option Res} {H:aa} {K:D→aa→Prop} {src₁:List D} {r₁:Option Res} (hsrc:src=src₁) (hr:r=r₁):KH n id x n' lo hi src r H K=KH n id x n' lo hi src₁ r₁ H K:=by subst hsrc;subst hr;rfl
@[congr] theorem Tn {n:Nat} {d:D} {src:List D} {H:aa} {K:D→aa→Prop} {d₁:D} {src₁:List D} (hd:d=d₁) (hsrc:src=src₁):Mp n d src H K=Mp n d₁ src₁ H K:=by subst hd;subst hsrc;rfl
@[congr] theorem RS {d:D} {K:D→Prop} {d₁:D} (hd:d=d₁):LI d K=LI d₁ K:=by subst hd;rfl
@[congr] theorem RJ {t:Nat} {d:D} {H:aa} {K:D→aa→Prop} {d₁:D} (hd:d=d₁):Jc t d H K=Jc t d₁ H K:=by subst hd;rfl
@[congr] theorem RO {id:Nat} {b:Nat} {r:Option Res} {H:aa} {K:D→aa→Prop} {r₁:Option Res} (hr:r=r₁):Jd id b r H K=Jd id b r₁ H K:=by subst hr;rfl
@[congr] theorem RN {d:D} {H:aa} {K:D→aa→Prop} {d₁:D} (hd:d=d₁):LE d H K=LE d₁ H K:=by subst hd;rfl
@[congr] theorem TR {dst:Option Nat} {el:Nat} {n:Nat} {b:Nat} {d:D} {es2:List D} {H:aa} {K:D→aa→Prop} {dst₁:Option Nat} {d₁:D} {es2₁:List D} (hdst:dst=dst₁) (hd:d=d₁) (hes2:es2=es2₁):MB dst el n b d es2 H K=MB dst₁ el n b d₁ es2₁ H K:=by subst hdst;subst hd;subst hes2;rfl
@[congr] theorem TO {el:Nat} {n:Nat} {b:Nat} {r:Nat} {x:Value} {es2:List D} {q:Option Res} {H:aa} {K:D→aa→Prop} {es2₁:List D} {q₁:Option Res} (hes2:es2=es2₁) (hq:q=q₁):KW el n b r x es2 q H K=KW el n b r x es2₁ q₁ H K:=by subst hes2;subst hq;rfl
@[congr] theorem TN {r:Nat} {el:Nat} {n:Nat} {b:Nat} {d:D} {es2:List D} {H:aa} {K:D→aa→Prop} {d₁:D} {es2₁:List D} (hd:d=d₁) (hes2:es2=es2₁):MA r el n b d es2 H K=MA r el n b d₁ es2₁ H K:=by subst hd;subst hes2;rfl
@[congr] theorem PF {r:Nat} {sz:Nat} {d:D} {y:D} {H:aa} {K:D→aa→Prop} {d₁:D} {y₁:D} (hd:d=d₁) (hy:y=y₁):Dt r sz d y H K=Dt r sz d₁ y₁ H K:=by subst hd;subst hy;rfl
@[congr] theorem TP {dst:Option Nat} {el:Nat} {n:Nat} {bytes:Nat} {d:D} {es2:List D} {H:aa} {K:D→aa→Prop} {dst₁:Option Nat} {d₁:D} {es2₁:List D} (hdst:dst=dst₁) (hd:d=d₁) (hes2:es2=es2₁):KX dst el n bytes d es2 H K=KX dst₁ el n bytes d₁ es2₁ H K:=by subst hdst;subst hd;subst hes2;rfl
@[congr] theorem QZ {S:Nat→Spc} {f:D} {d:Nat} {args:List D} {H:aa} {K:D→aa→Prop} {f₁:D} {args₁:List D} (hf:f=f₁) (hargs:args=args₁):uZ S f d args H K=uZ S f₁ d args₁ H K:=by subst hf;subst hargs;rfl
@[congr] theorem PH {n:Nat} {d d':D} {H:aa} {K:List D→Prop} (h:d=d'):jd n d H K=jd n d' H K:=by subst h;rfl
@[congr] theorem RL {n:Nat} {d d':D} {H:aa} {K:List D→Prop} (h:d=d'):m0 n d H K=m0 n d' H K:=by subst h;rfl
@[congr] theorem Pn {s s':Spc} {d:Nat} {ds ds':List D} {H:aa} {K:D→aa→Prop} (h:s=s') (h':ds=ds'):s.pt d ds H K=s'.pt d ds' H K:=by subst h;subst h';rfl
@[congr] theorem QQ {lo hi lo' hi':Option (Option (IntKind×Int))} {n n':Nat} {K:Nat→Nat→Prop} (h1:lo=lo') (h2:hi=hi') (h3:n=n'):mS lo hi n K=mS lo' hi' n' K:=by subst h1;subst h2;subst h3;rfl
end Go.Gv
