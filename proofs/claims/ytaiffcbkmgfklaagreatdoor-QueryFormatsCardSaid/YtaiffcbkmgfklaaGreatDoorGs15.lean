/- A part of the framework and of the walks: T10. -/
import Derived.Test.YtaiffcbkmgfklaaGreatDoorGs14
set_option linter.unusedSimpArgs false
set_option linter.unusedVariables false

namespace Go.Gv
open Cod (enc dec)
section
variable {S:Nat→Spc} {K:Ex→Sg→ae→Prop} {σ:Sg} {H:ae}
def N9 (S:Nat→Spc) (b:CC) (K:Ex→Sg→ae→Prop):Ex→Sg→ae→Prop:=fun e σ H=> match e with
 | .norm=> vc S b K σ H
 | e=> K e σ H
def Sc (id:Nat) (K:Ex→Sg→ae→Prop):Ex→Sg→ae→Prop:=fun e σ H=> match e with
 | .ex i=> if i=id then K .norm σ H else K (.ex i) σ H
 | e=> K e σ H
def Rp (inv:Z6) (x:inv.X) (K:Ex→Sg→ae→Prop):Ex→Sg→ae→Prop:=fun e σ' H'=> match e with
 | .norm=> ∃y,inv.P y∧Wk σ' H' (inv.s y) (inv.h y)∧inv.m y < inv.m x
 | e=> K e σ' H'
def Mv (d:D) (A B:Prop):Prop:=match d with
 | .v (.bool t)=> (t=true→A)∧(t=false→B)
 | _=> False
@[simp ↓] theorem Zx:vc S .skip K σ H=K .norm σ H:=id rfl
@[simp ↓] theorem Yg (l:List CI):vc S (.reg l) K σ H=xu S l σ H (K .norm):=id rfl
@[simp ↓] theorem qha (p l:List CI):vc S (.regd p l) K σ H=mE S p σ (cK p H) H fun σ H=> xu S l σ H (K .norm):=id rfl
@[simp ↓] theorem M4 (a b:CC):vc S (.seq a b) K σ H=vc S a (N9 S b K) σ H:=id rfl
@[simp ↓] theorem GU (b:CC):N9 S b K .norm σ H=vc S b K σ H:=id rfl
@[simp ↓] theorem U5 (b:CC) (i:Nat):N9 S b K (.ex i) σ H=K (.ex i) σ H:=id rfl
@[simp ↓] theorem Zy (b:CC):N9 S b K .ret σ H=K .ret σ H:=id rfl
@[simp ↓] theorem qbT (c:Operand) (a b:CC):vc S (.ite c a b) K σ H=Mv (ev σ c) (vc S a K σ H) (vc S b K σ H):=id rfl
@[simp] theorem ZB (t:Bool) (A B:Prop):Mv (.v (.bool t)) A B=((t=true→A)∧(t=false→B)):=id rfl
@[simp high] theorem qhc (A B:Prop):Mv (.v (.bool true)) A B=A:=by simp[Mv]
@[simp high] theorem qhd (A B:Prop):Mv (.v (.bool false)) A B=B:=by simp[Mv]
@[simp ↓] theorem K4 (id:Nat) (b:CC):vc S (.block id b) K σ H=vc S b (Sc id K) σ H:=_root_.id rfl
@[simp ↓] theorem ZE (id:Nat):Sc id K .norm σ H=K .norm σ H:=_root_.id rfl
@[simp ↓] theorem U9 (id:Nat):Sc id K .ret σ H=K .ret σ H:=_root_.id rfl
@[simp ↓] theorem O8 (id i:Nat):Sc id K (.ex i) σ H=if i=id then K .norm σ H else K (.ex i) σ H:=_root_.id rfl
@[simp ↓] theorem ZD (i:Nat):vc S (.exit i) K σ H=K (.ex i) σ H:=id rfl
@[simp ↓] theorem qkb:vc S .ret K σ H=K .ret σ H:=id rfl
@[simp ↓] theorem qhb (ls lh:List Nat) (c:CC):vc S (.keep ls lh c) K σ H=vc S c K (kS ls σ) (kT lh H):=id rfl
theorem K3 (k:Nat) (b:CC):vc S (.loop k b) K σ H= ∃inv:Z6,(∃x,inv.P x∧Wk σ H (inv.s x) (inv.h x))∧ ∀x,inv.P x→vc S b (Rp inv x K) (inv.s x) (inv.h x):=id rfl
theorem Qe (k:Nat) (c:CC):vc S (.cut k c) K σ H= ∃ (σ':Sg) (H':ae),Wk σ H σ' H'∧vc S c K σ' H':=id rfl
@[simp ↓] theorem ZA (inv:Z6) (x:inv.X):Rp inv x K .norm σ H= ∃y,inv.P y∧Wk σ H (inv.s y) (inv.h y)∧inv.m y < inv.m x:=id rfl
@[simp ↓] theorem Zz (inv:Z6) (x:inv.X):Rp inv x K .ret σ H=K .ret σ H:=id rfl
@[simp ↓] theorem U7 (inv:Z6) (x:inv.X) (i:Nat):Rp inv x K (.ex i) σ H=K (.ex i) σ H:=id rfl
end
def mZ (s:Nat) (b:Bool) (σ:Sg) (d:D) (yes no:Sg→Prop):Prop:=match d with
 | .v (.bool t)=> (t=b→yes (mG σ s (.v (.bool b))))∧(t=(!b)→no (mG σ s (.v (.bool (!b)))))
 | .undef=> no σ
 | _=> False
@[simp high] theorem qkS (s:Nat) (σ:Sg) (yes no:Sg→Prop):mZ s true σ (.v (.bool true)) yes no=yes (mG σ s (.v (.bool true))):=by simp[mZ]
@[simp high] theorem qkT (s:Nat) (σ:Sg) (yes no:Sg→Prop):mZ s true σ (.v (.bool false)) yes no=no (mG σ s (.v (.bool false))):=by simp[mZ]
@[simp high] theorem qkU (s:Nat) (σ:Sg) (yes no:Sg→Prop):mZ s false σ (.v (.bool true)) yes no=no (mG σ s (.v (.bool true))):=by simp[mZ]
@[simp high] theorem qkV (s:Nat) (σ:Sg) (yes no:Sg→Prop):mZ s false σ (.v (.bool false)) yes no=yes (mG σ s (.v (.bool false))):=by simp[mZ]
@[simp] theorem qkR (s:Nat) (b:Bool) (σ:Sg) (yes no:Sg→Prop):mZ s b σ .undef yes no=no σ:=id rfl
@[simp] theorem qk1 (s:Nat) (b t:Bool) (σ:Sg) (yes no:Sg→Prop):mZ s b σ (.v (.bool t)) yes no=((t=b→yes (mG σ s (.v (.bool b))))∧(t=(!b)→no (mG σ s (.v (.bool (!b)))))):=id rfl
section
variable {S:Nat→Spc} {σ:Sg} {H Hr:ae}
@[simp ↓] theorem X7 (K:Sg→ae→Prop):xu S [] σ H K=K σ H:=id rfl
@[simp ↓] theorem Zj (K:Sg→ae→Prop) (d:Option Nat) (c:COp) (r:List CI):xu S (.op d none c::r) σ H K=bK S c d σ H fun x H'=> xu S r (gJ σ d x) H' K:=id rfl
@[simp ↓] theorem qir (K:Sg→ae→Prop) (d:Option Nat) (s:Nat) (b:Bool) (c:COp) (r:List CI):xu S (.op d (some (s,b)) c::r) σ H K=mZ s b σ (σ s) (fun σ=> bK S c d σ H fun x H'=> xu S r (gJ σ d x) H' K) (fun σ=> xu S r (gJ σ d .undef) H K):=id rfl
@[simp ↓] theorem qis (K:Sg→ae→Prop) (t n:Nat) (r:List CI):xu S (.frz t n::r) σ H K=CL t n σ H fun σ' H'=> xu S r σ' H' K:=id rfl
@[simp ↓] theorem qil (K:Sg→ae→Prop):mE S [] σ Hr H K=K σ H:=id rfl
@[simp ↓] theorem qim (K:Sg→ae→Prop) (a b:Nat) (r:List CI):mE S (.frz a b::r) σ Hr H K=mE S r σ (cK r Hr) H K:=id rfl
@[simp ↓] theorem qkv (K:Sg→ae→Prop) (d:Option Nat) (c:COp) (r:List CI):mE S (.op d none c::r) σ Hr H K=bx S c d σ Hr H fun x H'=> mE S r (gJ σ d x) Hr H' K:=id rfl
@[simp ↓] theorem qik (K:Sg→ae→Prop) (d:Option Nat) (s:Nat) (b:Bool) (c:COp) (r:List CI):mE S (.op d (some (s,b)) c::r) σ Hr H K=mZ s b σ (σ s) (fun σ=> bx S c d σ Hr H fun x H'=> mE S r (gJ σ d x) Hr H' K) (fun σ=> mE S r (gJ σ d .undef) Hr H K):=id rfl
end
def CB (d:D) (A B:Prop):Prop:=match d with
 | .v (.bool t)=> (t=true→A)∧(t=false→B)
 | _=> False
@[simp high] theorem qc0 (A B:Prop):CB (.v (.bool true)) A B=A:=by simp[CB]
@[simp high] theorem qc1 (A B:Prop):CB (.v (.bool false)) A B=B:=by simp[CB]
def Mn (agg:Bool) (sz b off:Nat) (r:Option Res) (K:D→Prop):Prop:=match r with
 | some (.box b' cells)=> b'=b∧off+sz≤cells.length∧K (KF agg sz cells off)
 | _=> False
def Mm (agg:Bool) (sz:Nat) (x:Value) (n i off:Nat) (r:Option Res) (K:D→Prop):Prop:=match r with
 | some (.row x' _ n' es)=> x'=x∧n'=n∧off+sz≤n∧i < es.length∧ ∀d,es[i]?=some d→K (KF agg sz d.cells off)
 | _=> False
def CE (agg:Bool) (sz:Nat) (d:D) (H:ae) (K:D→Prop):Prop:=match d with
 | .cptr cs off=> off+sz≤cs.length∧K (KF agg sz cs off)
 | .bptr id b off=> Mn agg sz b off (H id) K
 | .eptr id x n i off=> Mm agg sz x n i off (H id) K
 | _=> False
@[simp] theorem qdj (agg:Bool) (sz:Nat) (cs:List D) (off:Nat) (H:ae) (K:D→Prop):CE agg sz (.cptr cs off) H K=(off+sz≤cs.length∧K (KF agg sz cs off)):=id rfl
@[simp] theorem qdk (agg:Bool) (sz:Nat) (i b off:Nat) (H:ae) (K:D→Prop):CE agg sz (.bptr i b off) H K=Mn agg sz b off (H i) K:=id rfl
@[simp] theorem qdi (agg:Bool) (sz:Nat) (i:Nat) (x:Value) (n k off:Nat) (H:ae) (K:D→Prop):CE agg sz (.eptr i x n k off) H K=Mm agg sz x n k off (H i) K:=id rfl
@[simp] theorem qdm (agg:Bool) (sz b off b':Nat) (cells:List D) (K:D→Prop):Mn agg sz b off (some (.box b' cells)) K=(b'=b∧off+sz≤cells.length∧K (KF agg sz cells off)):=id rfl
@[simp] theorem qdl (agg:Bool) (sz:Nat) (x:Value) (n i off:Nat) (x':Value) (el n':Nat) (es:List D) (K:D→Prop):Mm agg sz x n i off (some (.row x' el n' es)) K=(x'=x∧n'=n∧off+sz≤n∧i < es.length∧ ∀d,es[i]?=some d→K (KF agg sz d.cells off)):=id rfl
def Rn (d:D) (K:D→Prop):Prop:=match d with
 | .cptr cs off=> K (.cptr cs off)
 | .bptr id b off=> K (.bptr id b off)
 | .eptr id x n i off=> K (.eptr id x n i off)
 | .tape L=> K (.tape L)
 | .clo f caps=> K (.clo f caps)
 | _=> False
@[simp] theorem qeX (cs:List D) (off:Nat) (K:D→Prop):Rn (.cptr cs off) K=K (.cptr cs off):=id rfl
@[simp] theorem qeY (i b off:Nat) (K:D→Prop):Rn (.bptr i b off) K=K (.bptr i b off):=id rfl
def Hb (op:BinOp) (d e:D) (K:D→Prop):Prop:=match d,e with
 | .v (.int k a), .v (.int k' b)=> k=k'∧ni op k a b K
 | _,_=> False
@[simp] theorem Vw (op:BinOp) (k k':IntKind) (a b:Int) (K:D→Prop):Hb op (.v (.int k a)) (.v (.int k' b)) K=(k=k'∧ni op k a b K):=id rfl
@[simp ↓] theorem Sf (k:IntKind) (a b:Int) (K:D→Prop):ni .add k a b K=(InR k (a+b)∧K (.v (.int k (a+b)))):=id rfl
@[simp ↓] theorem qaA (k:IntKind) (a b:Int) (K:D→Prop):ni .sub k a b K=(InR k (a -b)∧K (.v (.int k (a -b)))):=id rfl
@[simp ↓] theorem qaD (k:IntKind) (a b:Int) (K:D→Prop):ni .mul k a b K=(InR k (a*b)∧K (.v (.int k (a*b)))):=id rfl
@[simp ↓] theorem qaC (k:IntKind) (a b:Int) (K:D→Prop):ni .quo k a b K=(b≠0∧InR k (a.tdiv b)∧K (.v (.int k (a.tdiv b)))):=id rfl
@[simp ↓] theorem qaB (k:IntKind) (a b:Int) (K:D→Prop):ni .rem k a b K=(b≠0∧K (.v (.int k (a.tmod b)))):=id rfl
def R3 (o:Option Bool) (K:D→Prop):Prop:=match o with | some t=> K (.v (.bool t)) | none=> False
@[simp] theorem ZR (t:Bool) (K:D→Prop):R3 (some t) K=K (.v (.bool t)):=id rfl
def XG (op:BinOp) (d e:D) (K:D→Prop):Prop:=match d,e with
 | .v (.int k a), .v (.int k' b)=> k=k'∧R3 (Nh op a b) K
 | .v (.string a), .v (.string b)=> R3 (ZQ op a b) K
 | _,_=> False
@[simp] theorem ZP (op:BinOp) (k k':IntKind) (a b:Int) (K:D→Prop):XG op (.v (.int k a)) (.v (.int k' b)) K=(k=k'∧R3 (Nh op a b) K):=id rfl
@[simp] theorem Vl (a b:Int):Nh .lss a b=some (decide (a < b)):=id rfl
@[simp] theorem qb2 (a b:Int):Nh .leq a b=some (decide (a≤b)):=id rfl
@[simp] theorem qb3 (a b:Int):Nh .gtr a b=some (decide (b < a)):=id rfl
@[simp] theorem qb4 (a b:Int):Nh .geq a b=some (decide (b≤a)):=id rfl
def RU (neg:Bool) (o:Option Bool) (K:D→Prop):Prop:=match o with
 | some p=> K (.v (.bool (if neg then !p else p)))
 | none=> False
@[simp] theorem qg5 (p:Bool) (K:D→Prop):RU false (some p) K=K (.v (.bool p)):=id rfl
@[simp] theorem qg4 (p:Bool) (K:D→Prop):RU true (some p) K=K (.v (.bool (!p))):=id rfl
@[simp] theorem qj7 (k:NE) (a b:D):Zv false [k] a b=Sn k a b:=id rfl
@[simp] theorem qj6 (ks:List NE) (a b:List D):Zv true ks (.agg a) (.agg b)=Xz ks a b:=id rfl
@[simp] theorem qj5:Xz [] [] []=some true:=id rfl
@[simp] theorem qj4 (k:NE) (ks:List NE) (a b:D) (as bs:List D):Xz (k::ks) (a::as) (b::bs)=(Sn k a b).bind fun p=> (Xz ks as bs).bind fun q=> some (p && q):=id rfl
@[simp] theorem qj9 (k k':IntKind) (a b:Int):Sn .int (.v (.int k a)) (.v (.int k' b))=if k=k' then some (decide (a=b)) else none:=id rfl
@[simp] theorem qj8 (a b:ByteArray):Sn .str (.v (.string a)) (.v (.string b))=some (decide (a=b)):=id rfl
@[simp] theorem qka (a b:Bool):Sn .bool (.v (.bool a)) (.v (.bool b))=some (decide (a=b)):=id rfl
def LT (d e:D) (K:D→Prop):Prop:=match d,e with
 | .v (.string a), .v (.string b)=> a.size+b.size≤1000000000∧K (.v (.string (a++b)))
 | _,_=> False
@[simp] theorem qcK (a b:ByteArray) (K:D→Prop):LT (.v (.string a)) (.v (.string b)) K=(a.size+b.size≤1000000000∧K (.v (.string (a++b)))):=id rfl
def WY (d:D) (K:D→Prop):Prop:=match d with
 | .v (.bool b)=> K (.v (.bool (!b)))
 | _=> False
@[simp] theorem qeU (b:Bool) (K:D→Prop):WY (.v (.bool b)) K=K (.v (.bool (!b))):=id rfl
def W0 (d:D) (K:D→Prop):Prop:=match d with
 | .v (.int k n)=> InR k (0 -n)∧K (.v (.int k (0 -n)))
 | _=> False
@[simp] theorem qeZ (k:IntKind) (n:Int) (K:D→Prop):W0 (.v (.int k n)) K=(InR k (0 -n)∧K (.v (.int k (0 -n)))):=id rfl
def Qm (k:IntKind) (d:D) (K:D→Prop):Prop:=match d with
 | .v (.int _ n)=> K (.v (.int k (k.wrap n)))
 | _=> False
@[simp] theorem qdU (k k':IntKind) (n:Int) (K:D→Prop):Qm k (.v (.int k' n)) K=K (.v (.int k (k.wrap n))):=id rfl
def YV (n id:Nat) (x:Value) (lo hi:Option (Option (IntKind×Int))) (r:Option Res) (K:D→Prop):Prop:=match r with
 | some (.row x' _ n' es)=> x'=x∧n'=n∧yp lo hi es.length fun l h=> K (.sub id x n l h)
 | _=> False
def Tg (n:Nat) (d:D) (lo hi:Option (Option (IntKind×Int))) (H:ae) (K:D→Prop):Prop:=match d with
 | .list n' es=> n'=n∧(match lo,hi with
   | none,none=> K (.list n es)
   | some (some (_,l)),none=> 0≤l∧l≤es.length∧K (.list n (es.drop l.toNat))
   | none,some (some (_,h))=> 0≤h∧h≤es.length∧K (.list n (es.take h.toNat))
   | some (some (_,l)),some (some (_,h))=> 0≤l∧l≤h∧h≤es.length∧K (.list n ((es.take h.toNat).drop l.toNat))
   | _,_=> False)
 | .own id x=> YV n id x lo hi (H id) K
 | .sub id x n' a b=> n'=n∧yp lo hi (b -a) fun l h=> K (.sub id x n (a+l) (a+h))
 | .v (.slice none 0 0)=> yp lo hi 0 fun _ _=> K (.v (.slice none 0 0))
 | _=> False
@[simp] theorem qak (n n':Nat) (es:List D) (k:IntKind) (l:Int) (H:ae) (K:D→Prop):Tg n (.list n' es) none (some (some (k,l))) H K=(n'=n∧0≤l∧l≤es.length∧K (.list n (es.take l.toNat))):=id rfl
def D3 (d:D) (lo hi:Option (Option (IntKind×Int))) (K:D→Prop):Prop:=match d with
 | .v (.string s)=> (match lo,hi with
   | none,none=> K (.v (.string (s.extract 0 s.size)))
   | some (some (_,l)),none=> 0≤l∧l≤s.size∧K (.v (.string (s.extract l.toNat s.size)))
   | none,some (some (_,h))=> 0≤h∧h≤s.size∧K (.v (.string (s.extract 0 h.toNat)))
   | some (some (_,l)),some (some (_,h))=> 0≤l∧l≤h∧h≤s.size∧K (.v (.string (s.extract l.toNat h.toNat)))
   | _,_=> False)
 | _=> False
@[simp] theorem YS (s:ByteArray) (k:IntKind) (l:Int) (K:D→Prop):D3 (.v (.string s)) (some (some (k,l))) none K=(0≤l∧l≤s.size∧K (.v (.string (s.extract l.toNat s.size)))):=id rfl
@[simp] theorem YR (s:ByteArray) (k:IntKind) (l:Int) (K:D→Prop):D3 (.v (.string s)) none (some (some (k,l))) K=(0≤l∧l≤s.size∧K (.v (.string (s.extract 0 l.toNat)))):=id rfl
@[simp] theorem YT (s:ByteArray) (k k':IntKind) (l h:Int) (K:D→Prop):D3 (.v (.string s)) (some (some (k,l))) (some (some (k',h))) K=(0≤l∧l≤h∧h≤s.size∧K (.v (.string (s.extract l.toNat h.toNat)))):=id rfl
def Ci (off:Nat) (d:D) (K:D→Prop):Prop:=match d with
 | .cptr cs o=> K (.cptr cs (o+off))
 | .bptr id b o=> K (.bptr id b (o+off))
 | .eptr id x n i o=> K (.eptr id x n i (o+off))
 | _=> False
@[simp] theorem qbN (off:Nat) (cs:List D) (o:Nat) (K:D→Prop):Ci off (.cptr cs o) K=K (.cptr cs (o+off)):=id rfl
@[simp] theorem qbO (off i b o:Nat) (K:D→Prop):Ci off (.bptr i b o) K=K (.bptr i b (o+off)):=id rfl
def Gx (n:Nat) (k:Int) (id:Nat) (x:Value) (r:Option Res) (K:D→Prop):Prop:=match r with
 | some (.row x' _ n' es)=> x'=x∧n'=n∧0≤k∧k < es.length∧K (.eptr id x n k.toNat 0)
 | _=> False
def B8 (n:Nat) (i d:D) (H:ae) (K:D→Prop):Prop:=match i with
 | .v (.int _ k)=> match d with
   | .list n' es=> n'=n∧0≤k∧k < es.length∧ ∀d,es[k.toNat]?=some d→K (.cptr d.cells 0)
   | .own id x=> Gx n k id x (H id) K
   | .sub id x n' lo hi=> n'=n∧0≤k∧k < (hi -lo:Nat)∧K (.eptr id x n (lo+k.toNat) 0)
   | _=> False
 | _=> False
@[simp] theorem qbC (n:Nat) (kd:IntKind) (k:Int) (n':Nat) (es:List D) (H:ae) (K:D→Prop):B8 n (.v (.int kd k)) (.list n' es) H K=(n'=n∧0≤k∧k < es.length∧ ∀d,es[k.toNat]?=some d→K (.cptr d.cells 0)):=id rfl
@[simp] theorem qbB (n:Nat) (kd:IntKind) (k:Int) (i:Nat) (x:Value) (H:ae) (K:D→Prop):B8 n (.v (.int kd k)) (.own i x) H K=Gx n k i x (H i) K:=id rfl
@[simp] theorem qbD (n:Nat) (k:Int) (i:Nat) (x x':Value) (el n':Nat) (es:List D) (K:D→Prop):Gx n k i x (some (.row x' el n' es)) K=(x'=x∧n'=n∧0≤k∧k < es.length∧K (.eptr i x n k.toNat 0)):=id rfl
def PA (i d:D) (K:D→Prop):Prop:=match i with
 | .v (.int _ k)=> match d with
   | .v (.string s)=> 0≤k∧k < s.size∧ ∀c,s.data[k.toNat]?=some c→K (.v (.int .u8 c.toNat))
   | _=> False
 | _=> False
@[simp] theorem qcJ (kd:IntKind) (k:Int) (s:ByteArray) (K:D→Prop):PA (.v (.int kd k)) (.v (.string s)) K=(0≤k∧k < s.size∧ ∀c,s.data[k.toNat]?=some c→K (.v (.int .u8 c.toNat))):=id rfl
def U3 (o:Option D) (K:D→Prop):Prop:=match o with
 | some d=> K d
 | none=> False
def U2 (d:D) (i:Nat) (K:D→Prop):Prop:=match d with
 | .tup ds=> U3 ds[i]? K
 | _=> False
@[simp] theorem qg1 (ds:List D) (i:Nat) (K:D→Prop):U2 (.tup ds) i K=U3 ds[i]? K:=id rfl
@[simp] theorem qg2 (d:D) (K:D→Prop):U3 (some d) K=K d:=id rfl
def Ug (x:Value) (r:Option Res) (K:D→Prop):Prop:=match r with
 | some (.row x' _ _ es)=> x'=x∧((es.length:Int)≤9223372036854775807→K (.v (.int .i64 es.length)))
 | _=> False
def Mp (d:D) (H:ae) (K:D→Prop):Prop:=match d with
 | .list _ es=> (es.length:Int)≤9223372036854775807→K (.v (.int .i64 es.length))
 | .own id x=> Ug x (H id) K
 | .v (.slice _ n _)=> K (.v (.int .i64 n))
 | .sub _ _ _ lo hi=> ((hi -lo:Nat):Int)≤9223372036854775807→K (.v (.int .i64 (hi -lo:Nat)))
 | _=> False
@[simp] theorem qe7 (n:Nat) (es:List D) (H:ae) (K:D→Prop):Mp (.list n es) H K=((es.length:Int)≤9223372036854775807→K (.v (.int .i64 es.length))):=id rfl
@[simp] theorem qe5 (i:Nat) (x:Value) (H:ae) (K:D→Prop):Mp (.own i x) H K=Ug x (H i) K:=id rfl
@[simp] theorem qdn (a:Option Addr) (n c:Nat) (H:ae) (K:D→Prop):Mp (.v (.slice a n c)) H K=K (.v (.int .i64 n)):=id rfl
@[simp high] theorem qe6 (H:ae) (K:D→Prop):Mp (.v (.slice none 0 0)) H K=K (.v (.int .i64 0)):=id rfl
@[simp] theorem qe8 (x x':Value) (el n:Nat) (es:List D) (K:D→Prop):Ug x (some (.row x' el n es)) K=(x'=x∧((es.length:Int)≤9223372036854775807→K (.v (.int .i64 es.length)))):=id rfl
def Vq (x:Value) (r:Option Res) (K:D→Prop):Prop:=match r with
 | some (.row x' _ n es)=> x'=x∧n=1∧XM es=true∧K (.v (.string (XL es)))
 | _=> False
@[simp] theorem qhx (x x':Value) (el n:Nat) (es:List D) (K:D→Prop):Vq x (some (.row x' el n es)) K=(x'=x∧n=1∧XM es=true∧K (.v (.string (XL es)))):=id rfl
def XN (d:D) (H:ae) (K:D→Prop):Prop:=match d with
 | .own i x=> Vq x (H i) K
 | .v (.slice none 0 0)=> K (.v (.string ⟨#[]⟩))
 | _=> False
@[simp] theorem qhw (i:Nat) (x:Value) (H:ae) (K:D→Prop):XN (.own i x) H K=Vq x (H i) K:=id rfl
def TT (t:Nat) (o:Option (List Value)) (K:D→Prop):Prop:=match o with
 | some xs=> K (.v (.iface t (.agg xs.toArray)))
 | none=> False
@[simp] theorem qdc (t:Nat) (xs:List Value) (K:D→Prop):TT t (some xs) K=K (.v (.iface t (.agg xs.toArray))):=id rfl
def PN (t:Nat) (d:D) (K:D→Prop):Prop:=match d with
 | .agg cs=> TT t (WJ cs) K
 | _=> False
@[simp] theorem qdb (t:Nat) (cs:List D) (K:D→Prop):PN t (.agg cs) K=TT t (WJ cs) K:=id rfl
@[simp] theorem qii:WJ []=some []:=id rfl
@[simp] theorem qij (x:Value) (l:List D):WJ (.v x::l)=(WJ l).map (x:: ·):=id rfl
def Pz (d:D) (K:D→Prop):Prop:=match d with
 | .v (.string s)=> (s.size:Int)≤9223372036854775807→K (.v (.int .i64 s.size))
 | _=> False
@[simp] theorem qcI (s:ByteArray) (K:D→Prop):Pz (.v (.string s)) K=((s.size:Int)≤9223372036854775807→K (.v (.int .i64 s.size))):=id rfl
def Xb (mx:Bool) (d e:D) (K:D→Prop):Prop:=match d,e with
 | .v (.int k a), .v (.int k' b)=> k=k'∧K (.v (.int k (if mx then max a b else min a b)))
 | _,_=> False
@[simp] theorem qe1 (mx:Bool) (k k':IntKind) (a b:Int) (K:D→Prop):Xb mx (.v (.int k a)) (.v (.int k' b)) K=(k=k'∧K (.v (.int k (if mx then max a b else min a b)))):=id rfl
@[simp ↓] theorem qax (σ:Sg) (cs:List D) (K:List D→Prop):kN σ [] cs K=K cs:=id rfl
@[simp ↓] theorem ZV (σ:Sg) (off sz:Nat) (x:Operand) (r:List (Nat×Nat×Operand)) (cs:List D) (K:List D→Prop):kN σ ((off,sz,x)::r) cs K=((ev σ x).kn=true∧(ev σ x).cells.length=sz∧kN σ r (setAt cs off (ev σ x).cells) K):=id rfl
@[simp] theorem qal (n:Nat):lS n []=True:=id rfl
@[simp] theorem Y5 (n:Nat) (d:D) (r:List D):lS n (d::r)=(d.kn=true∧d.cells.length=n∧lS n r):=id rfl
@[simp] theorem qib (n n':Nat) (es:List D) (H:ae) (K:List D→Prop):mK n (.list n' es) H K=(n'=n∧K es):=id rfl
def yI (sz id b off:Nat) (y:D) (r:Option Res) (H:ae) (K:D→ae→Prop):Prop:=match r with
 | some (.box b' cells)=> b'=b∧off+sz≤cells.length∧K .undef (aq H id (some (.box b' (setAt cells off y.cells))))
 | _=> False
def Te (sz id:Nat) (x:Value) (n i off:Nat) (y:D) (r:Option Res) (H:ae) (K:D→ae→Prop):Prop:=match r with
 | some (.row x' el n' es)=> x'=x∧n'=n∧0 < n∧off+sz≤n∧i < es.length∧ ∀d,es[i]?=some d→
    K .undef (aq H id (some (.row x' el n' (es.set i (if off=0∧sz=n then y else .agg (setAt d.cells off y.cells))))))
 | _=> False
def JP (sz:Nat) (d y:D) (H:ae) (K:D→ae→Prop):Prop:=match d with
 | .bptr id b off=> yI sz id b off y (H id) H K
 | .eptr id x n i off=> Te sz id x n i off y (H id) H K
 | _=> False
@[simp] theorem qaW (sz i b off:Nat) (y:D) (H:ae) (K:D→ae→Prop):JP sz (.bptr i b off) y H K=yI sz i b off y (H i) H K:=id rfl
@[simp] theorem qaX (sz i b off b':Nat) (y:D) (cells:List D) (H:ae) (K:D→ae→Prop):yI sz i b off y (some (.box b' cells)) H K=(b'=b∧off+sz≤cells.length∧K .undef (aq H i (some (.box b' (setAt cells off y.cells))))):=id rfl
def Vy (el n bytes id:Nat) (x:Value) (es2:List D) (r:Option Res) (H:ae) (K:D→ae→Prop):Prop:=match r with
 | some (.row x' el' n' es)=> x'=x∧el'=el∧n'=n∧(es.length+es2.length) *bytes≤140737488355328∧es.length+es2.length≤140737488355328∧ ∀v,K (.own id v) (aq H id (some (.row v el n (es++es2))))
 | _=> False
def qhI (el n bytes id:Nat) (x:Value) (n' lo hi:Nat) (es2:List D) (r:Option Res) (H:ae) (K:D→ae→Prop):Prop:=match r with
 | some (.row x' el' n'' es)=> x'=x∧el'=el∧n'=n∧n''=n∧lo=0∧(hi+es2.length) *bytes≤140737488355328∧hi+es2.length≤140737488355328∧ ∀v,K (.own id v) (aq H id (some (.row v el n (es.take hi++es2))))
 | _=> False
def UQ (t:Nat) (x:Value) (id:Nat) (σ:Sg) (r:Option Res) (H:ae) (K:Sg→ae→Prop):Prop:=match r with
 | some (.row x' _ n' es)=> x'=x∧K (RO id x (.list n' es) σ) (aq H id none)
 | _=> False
def UR (t b off:Nat) (id:Nat) (σ:Sg) (r:Option Res) (H:ae) (K:Sg→ae→Prop):Prop:=match r with
 | some (.box b' cs)=> b'=b∧K (mG σ t (.cptr cs off)) (aq H id none)
 | _=> False
def qgQ (t n:Nat) (x:Value) (id n' lo hi:Nat) (σ:Sg) (r:Option Res) (H:ae) (K:Sg→ae→Prop):Prop:=match r with
 | some (.row x' el n'' es)=> x'=x∧n'=n''∧(if n=0 then lo=0∧ ∀v,K (mG σ t (.own id v)) (aq H id (some (.row v el n'' (es.take hi)))) else K (mG σ t (.list n'' ((es.take hi).drop lo))) (aq H id none))
 | _=> False
def UP (t n:Nat) (d:D) (σ:Sg) (H:ae) (K:Sg→ae→Prop):Prop:=match d with
 | .own id x=> UQ t x id σ (H id) H K
 | .bptr id b off=> UR t b off id σ (H id) H K
 | .v (.slice none 0 0)=> K (mG σ t (.list n [])) H
 | .sub id x n' lo hi=> qgQ t n x id n' lo hi σ (H id) H K
 | .agg cs=> Cf cs H fun cs' H'=> K (mG σ t (.agg cs')) H'
 | _=> K σ H
@[simp ↓] theorem qkX (t n:Nat) (σ:Sg) (H:ae) (K:Sg→ae→Prop):CL t n σ H K=UP t n (σ t) σ H K:=id rfl
@[simp] theorem qgO (t n i:Nat) (x:Value) (σ:Sg) (H:ae) (K:Sg→ae→Prop):UP t n (.own i x) σ H K=UQ t x i σ (H i) H K:=id rfl
@[simp] theorem qgP (t n i b off:Nat) (σ:Sg) (H:ae) (K:Sg→ae→Prop):UP t n (.bptr i b off) σ H K=UR t b off i σ (H i) H K:=id rfl
@[simp] theorem qgR (t i:Nat) (x x':Value) (el n':Nat) (es:List D) (σ:Sg) (H:ae) (K:Sg→ae→Prop):UQ t x i σ (some (.row x' el n' es)) H K=(x'=x∧K (RO i x (.list n' es) σ) (aq H i none)):=id rfl
@[simp] theorem qgT (id:Nat) (x:Value) (L:D) (i:Nat) (y:Value):GK id x L (.own i y)=open Classical in (if i=id∧y=x then L else .own i y):=_root_.id rfl
@[simp] theorem qgX (id:Nat) (x:Value) (L:D) :GK id x L (.any)= .any:=_root_.id rfl
@[simp] theorem qgU (id:Nat) (x:Value) (L:D) (cs:List D):GK id x L (.agg cs)= .agg cs:=_root_.id rfl
@[simp] theorem qgV (id:Nat) (x:Value) (L:D) (cs:List D) (o:Nat):GK id x L (.cptr cs o)= .cptr cs o:=_root_.id rfl
@[simp] theorem qgW (id:Nat) (x:Value) (L:D) (i b o:Nat):GK id x L (.bptr i b o)= .bptr i b o:=_root_.id rfl
@[simp] theorem qgS (id:Nat) (x:Value) (L:D) (T:List Int):GK id x L (.tape T)= .tape T:=_root_.id rfl
@[simp] theorem qgY (t b off i b':Nat) (cs:List D) (σ:Sg) (H:ae) (K:Sg→ae→Prop):UR t b off i σ (some (.box b' cs)) H K=(b'=b∧K (mG σ t (.cptr cs off)) (aq H i none)):=id rfl
def Py (r sz:Nat) (d y:D) (H:ae) (K:D→ae→Prop):Prop:=match d with
 | .bptr id b off=> id=r∧yI sz r b off y (H r) H K
 | .eptr id x n i off=> id=r∧Te sz r x n i off y (H r) H K
 | _=> False
@[simp] theorem qcG (r sz i b off:Nat) (y:D) (H:ae) (K:D→ae→Prop):Py r sz (.bptr i b off) y H K=(i=r∧yI sz r b off y (H r) H K):=id rfl
def qhK (dst:Option Nat) (el n bytes:Nat) (es2:List D) (H:ae) (K:D→ae→Prop):Prop:=match dst with
 | some t=> es2.length*bytes≤140737488355328∧es2.length≤140737488355328∧ ∀v,K (.own t v) (aq H t (some (.row v el n es2)))
 | none=> False
def Vx (dst:Option Nat) (el n bytes:Nat) (d:D) (es2:List D) (H:ae) (K:D→ae→Prop):Prop:=match d with
 | .own id x=> Vy el n bytes id x es2 (H id) H K
 | .v (.slice none 0 0)=> qhK dst el n bytes es2 H K
 | .sub id x n' lo hi=> qhI el n bytes id x n' lo hi es2 (H id) H K
 | _=> False
@[simp] theorem qhG (dst:Option Nat) (el n bytes i:Nat) (x:Value) (es2:List D) (H:ae) (K:D→ae→Prop):Vx dst el n bytes (.own i x) es2 H K=Vy el n bytes i x es2 (H i) H K:=id rfl
@[simp] theorem qhH (t:Nat) (el n bytes:Nat) (es2:List D) (H:ae) (K:D→ae→Prop):Vx (some t) el n bytes (.v (.slice none 0 0)) es2 H K=(es2.length*bytes≤140737488355328∧es2.length≤140737488355328∧ ∀v,K (.own t v) (aq H t (some (.row v el n es2)))):=id rfl
@[simp] theorem qhJ (el n bytes i:Nat) (x x':Value) (es2:List D) (el' n':Nat) (es:List D) (H:ae) (K:D→ae→Prop):Vy el n bytes i x es2 (some (.row x' el' n' es)) H K=(x'=x∧el'=el∧n'=n∧(es.length+es2.length) *bytes≤140737488355328∧es.length+es2.length≤140737488355328∧ ∀v,K (.own i v) (aq H i (some (.row v el n (es++es2))))):=id rfl
def AI (S:Nat→Spc) (f:D) (d:Nat) (args:List D) (H:ae) (K:D→ae→Prop):Prop:=match f with
 | .clo g caps=> (S g).pt d (args++caps) H K
 | _=> False
@[simp] theorem qdY (S:Nat→Spc) (g:Nat) (caps:List D) (d:Nat) (args:List D) (H:ae) (K:D→ae→Prop):AI S (.clo g caps) d args H K=(S g).pt d (args++caps) H K:=id rfl
@[congr] theorem qa8 {r:Nat} {dst:Option Nat} {s:Spc} {args:List D} {H:ae} {K:D→ae→Prop} {s₁:Spc} {args₁:List D} (hs:s=s₁) (hargs:args=args₁):IJ r dst s args H K=IJ r dst s₁ args₁ H K:=by subst hs;subst hargs;rfl
@[congr] theorem qcZ {dst:Option Nat} {s:Spc} {args:List D} {H:ae} {K:D→ae→Prop} {s₁:Spc} {args₁:List D} (hs:s=s₁) (hargs:args=args₁):Rb dst s args H K=Rb dst s₁ args₁ H K:=by subst hs;subst hargs;rfl
section
variable {S:Nat→Spc} {σ:Sg} {H Hr:ae} {K:D→ae→Prop}
@[simp ↓] theorem qhp (dst:Option Nat) (x:Operand):bK S (.mv x) dst σ H K=((fun d=> K d H) (ev σ x)):=id rfl
@[simp ↓] theorem qku (dst:Option Nat) (x:Operand):bx S (.mv x) dst σ Hr H K=((fun d=> K d H) (ev σ x)):=id rfl
@[simp ↓] theorem qho (dst:Option Nat) (c x y:Operand):bK S (.pick c x y) dst σ H K=(CB (ev σ c) ((fun d=> K d H) (ev σ x)) ((fun d=> K d H) (ev σ y))):=id rfl
@[simp ↓] theorem qeO (dst:Option Nat) (c x y:Operand):bx S (.pick c x y) dst σ Hr H K=(CB (ev σ c) ((fun d=> K d H) (ev σ x)) ((fun d=> K d H) (ev σ y))):=id rfl
@[simp ↓] theorem qd5 (dst:Option Nat) (z:List Value) (ps:List (Nat×Nat×Operand)):bK S (.build z ps) dst σ H K=(kN σ ps (z.map tb) fun cs=> (fun d=> K d H) (.agg cs)):=id rfl
@[simp ↓] theorem qcW (dst:Option Nat) (z:List Value) (ps:List (Nat×Nat×Operand)):bx S (.build z ps) dst σ Hr H K=(kN σ ps (z.map tb) fun cs=> (fun d=> K d H) (.agg cs)):=id rfl
@[simp ↓] theorem qcb (dst:Option Nat) (el n:Nat) (ps:List Operand):bK S (.bslice el n ps) dst σ H K=(lS n (ps.map (ev σ))∧(fun d=> K d H) (.list n (ps.map (ev σ)))):=id rfl
@[simp ↓] theorem qa6 (dst:Option Nat) (el n:Nat) (ps:List Operand):bx S (.bslice el n ps) dst σ Hr H K=(lS n (ps.map (ev σ))∧(fun d=> K d H) (.list n (ps.map (ev σ)))):=id rfl
@[simp ↓] theorem qhr (dst:Option Nat) (agg:Bool) (sz:Nat) (x:Operand):bK S (.load agg sz x) dst σ H K=(CE agg sz (ev σ x) H (fun d=> K d H)):=id rfl
@[simp ↓] theorem qeP (dst:Option Nat) (agg:Bool) (sz:Nat) (x:Operand):bx S (.load agg sz x) dst σ Hr H K=(CE agg sz (ev σ x) Hr (fun d=> K d H)):=id rfl
@[simp ↓] theorem qd1 (dst:Option Nat) (x:Operand):bK S (.nilck x) dst σ H K=(Rn (ev σ x) (fun d=> K d H)):=id rfl
@[simp ↓] theorem qcS (dst:Option Nat) (x:Operand):bx S (.nilck x) dst σ Hr H K=(Rn (ev σ x) (fun d=> K d H)):=id rfl
@[simp ↓] theorem XJ (dst:Option Nat) (op:BinOp) (x y:Operand):bK S (.arith op x y) dst σ H K=(Hb op (ev σ x) (ev σ y) (fun d=> K d H)):=id rfl
@[simp ↓] theorem qcX (dst:Option Nat) (op:BinOp) (x y:Operand):bx S (.arith op x y) dst σ Hr H K=(Hb op (ev σ x) (ev σ y) (fun d=> K d H)):=id rfl
@[simp ↓] theorem qca (dst:Option Nat) (op:BinOp) (x y:Operand):bK S (.cmp op x y) dst σ H K=(XG op (ev σ x) (ev σ y) (fun d=> K d H)):=id rfl
@[simp ↓] theorem qki (dst:Option Nat) (neg agg:Bool) (ks:List NE) (x y:Operand):bK S (.eql neg agg ks x y) dst σ H K=(RU neg (Zv agg ks (ev σ x) (ev σ y)) (fun d=> K d H)):=id rfl
@[simp ↓] theorem qih (dst:Option Nat) (neg agg:Bool) (ks:List NE) (x y:Operand):bx S (.eql neg agg ks x y) dst σ Hr H K=(RU neg (Zv agg ks (ev σ x) (ev σ y)) (fun d=> K d H)):=id rfl
@[simp ↓] theorem qhn (dst:Option Nat) (x y:Operand):bK S (.scat x y) dst σ H K=(LT (ev σ x) (ev σ y) (fun d=> K d H)):=id rfl
@[simp ↓] theorem qeN (dst:Option Nat) (x y:Operand):bx S (.scat x y) dst σ Hr H K=(LT (ev σ x) (ev σ y) (fun d=> K d H)):=id rfl
@[simp ↓] theorem qkd (dst:Option Nat) (x:Operand):bK S (.not x) dst σ H K=(WY (ev σ x) (fun d=> K d H)):=id rfl
@[simp ↓] theorem qke (dst:Option Nat) (x:Operand):bK S (.neg x) dst σ H K=(W0 (ev σ x) (fun d=> K d H)):=id rfl
@[simp ↓] theorem qhs (dst:Option Nat) (k:IntKind) (x:Operand):bK S (.conv k x) dst σ H K=(Qm k (ev σ x) (fun d=> K d H)):=id rfl
@[simp ↓] theorem qkj (dst:Option Nat) (f:Nat) (xs:List Operand):bK S (.clo f xs) dst σ H K=((fun d=> K d H) (.clo f (xs.map (ev σ)))):=id rfl
@[simp ↓] theorem qd0 (dst:Option Nat) (n:Nat) (x:Operand) (lo hi:Option Operand):bK S (.slice n x lo hi) dst σ H K=(Tg n (ev σ x) (lo.map fun o=> vj (ev σ o)) (hi.map fun o=> vj (ev σ o)) H (fun d=> K d H)):=id rfl
@[simp ↓] theorem qb8 (dst:Option Nat) (x:Operand) (lo hi:Option Operand):bK S (.sslice x lo hi) dst σ H K=(D3 (ev σ x) (lo.map fun o=> vj (ev σ o)) (hi.map fun o=> vj (ev σ o)) (fun d=> K d H)):=id rfl
@[simp ↓] theorem qd3 (dst:Option Nat) (off:Nat) (x:Operand):bK S (.faddr off x) dst σ H K=(Ci off (ev σ x) (fun d=> K d H)):=id rfl
@[simp ↓] theorem qcU (dst:Option Nat) (off:Nat) (x:Operand):bx S (.faddr off x) dst σ Hr H K=(Ci off (ev σ x) (fun d=> K d H)):=id rfl
@[simp ↓] theorem qd2 (dst:Option Nat) (n:Nat) (x i:Operand):bK S (.iaddr n x i) dst σ H K=(B8 n (ev σ i) (ev σ x) H (fun d=> K d H)):=id rfl
@[simp ↓] theorem qcT (dst:Option Nat) (n:Nat) (x i:Operand):bx S (.iaddr n x i) dst σ Hr H K=(B8 n (ev σ i) (ev σ x) Hr (fun d=> K d H)):=id rfl
@[simp ↓] theorem qhm (dst:Option Nat) (x i:Operand):bK S (.sidx x i) dst σ H K=(PA (ev σ i) (ev σ x) (fun d=> K d H)):=id rfl
@[simp ↓] theorem qkh (dst:Option Nat) (x:Operand) (i:Nat):bK S (.ext x i) dst σ H K=(U2 (ev σ x) i (fun d=> K d H)):=id rfl
@[simp ↓] theorem qig (dst:Option Nat) (x:Operand) (i:Nat):bx S (.ext x i) dst σ Hr H K=(U2 (ev σ x) i (fun d=> K d H)):=id rfl
@[simp ↓] theorem qkg (dst:Option Nat) (x:Operand):bK S (.len x) dst σ H K=(Mp (ev σ x) H (fun d=> K d H)):=id rfl
@[simp ↓] theorem qif (dst:Option Nat) (x:Operand):bx S (.len x) dst σ Hr H K=(Mp (ev σ x) Hr (fun d=> K d H)):=id rfl
@[simp ↓] theorem qhl (dst:Option Nat) (x:Operand):bK S (.slen x) dst σ H K=(Pz (ev σ x) (fun d=> K d H)):=id rfl
@[simp ↓] theorem qhu (dst:Option Nat) (x:Operand):bK S (.bstr x) dst σ H K=(XN (ev σ x) H (fun d=> K d H)):=id rfl
@[simp ↓] theorem qhq (dst:Option Nat) (t:Nat) (x:Operand):bK S (.mkif t x) dst σ H K=(PN t (ev σ x) (fun d=> K d H)):=id rfl
@[simp ↓] theorem qkf (dst:Option Nat) (mx:Bool) (x y:Operand):bK S (.mm mx [x,y]) dst σ H K=Xb mx (ev σ x) (ev σ y) (fun d=> K d H):=id rfl
@[simp ↓] theorem qhv (dst:Option Nat) (el:Nat) (x:Operand):bK S (.box el true x) dst σ H K=((ev σ x).kn=true∧K (.cptr (ev σ x).cells 0) H):=id rfl
@[simp ↓] theorem qd6 (t el:Nat) (z:List Value):bK S (.alloc el z) (some t) σ H K= ∀b,K (.bptr t b 0) (aq H t (some (.box b (z.map tb)))):=id rfl
@[simp ↓] theorem qkk (t el:Nat) (x:Operand):bK S (.box el false x) (some t) σ H K=((ev σ x).kn=true∧ ∀b,K (.bptr t b 0) (aq H t (some (.box b (ev σ x).cells)))):=id rfl
@[simp ↓] theorem qkc (t el:Nat) (x:Operand):bK S (.tbx el x) (some t) σ H K=((ev σ x).kn=true∧ ∀b,K (.bptr t b 0) (aq H t (some (.tbox el b (ev σ x).cells)))):=id rfl
@[simp ↓] theorem qb9 (t el n:Nat) (ps:List Operand):bK S (.mslice el n ps) (some t) σ H K=(lS n (ps.map (ev σ))∧ ∀x,K (.own t x) (aq H t (some (.row x el n (ps.map (ev σ)))))):=id rfl
@[simp ↓] theorem qcY (t el:Nat) (z:List Value):bx S (.alloc el z) (some t) σ Hr H K= ∀b,K (.bptr t b 0) (aq H t (some (.box b (z.map tb)))):=id rfl
@[simp ↓] theorem qcR (dst:Option Nat) (r sz:Nat) (x y:Operand):bx S (.store (some r) sz x y) dst σ Hr H K=((ev σ y).kn=true∧(ev σ y).cells.length=sz∧Py r sz (ev σ x) (ev σ y) H K):=by
 simp only[bx]
 congr 2
@[simp ↓] theorem qdZ (dst:Option Nat) (rt:Option Nat) (sz:Nat) (x y:Operand):bK S (.store rt sz x y) dst σ H K=((ev σ y).kn=true∧(ev σ y).cells.length=sz∧JP sz (ev σ x) (ev σ y) H K):=id rfl
@[simp ↓] theorem qcc (dst:Option Nat) (rt:Option Nat) (el n bytes:Nat) (x y:Operand):bK S (.append rt el n bytes x y) dst σ H K=mK n (ev σ y) H fun es2=> Vx dst el n bytes (ev σ x) es2 H K:=id rfl
@[simp ↓] theorem qht (dst:Option Nat) (f:Nat) (args:List Operand):bK S (.call f args) dst σ H K=(S f).pt (dst.getD 0) (args.map (ev σ)) H K:=id rfl
@[simp ↓] theorem qcV (dst:Option Nat) (r f:Nat) (args:List Operand):bx S (.callb r f args) dst σ Hr H K=IJ r dst (S f) (args.map (ev σ)) H K:=id rfl
@[simp ↓] theorem qd4 (dst:Option Nat) (f:Operand) (args:List Operand):bK S (.callv f args) dst σ H K=AI S (ev σ f) (dst.getD 0) (args.map (ev σ)) H K:=id rfl
@[simp ↓] theorem qeQ (dst:Option Nat) (f:Nat) (args:List Operand):bx S (.call f args) dst σ Hr H K=Rb dst (S f) (args.map (ev σ)) H K:=id rfl
end
theorem qaS (σ:Sg) (t s:Nat) (d:D):mG σ t d s=if s=t then d else σ s:=id rfl
theorem NX (σ:Sg) (t:Nat) (d:D):gJ σ (some t) d=mG σ t d:=id rfl
theorem YL (σ:Sg) (d:D):gJ σ none d=σ:=id rfl
theorem YM (H:ae) (t s:Nat) (d:Option Res):aq H t d s=if s=t then d else H s:=id rfl
attribute [simp] NX YL YM
@[simp] theorem SR (σ:Sg) (t:Nat):ev σ (.tmp t)=σ t:=id rfl
@[simp] theorem Wy (σ:Sg) (x:Value):ev σ (.const x)=tb x:=id rfl
@[simp] theorem qeC (σ:Sg) (f:Nat):ev σ (.func f)= .clo f []:=id rfl
@[simp] theorem qeD (b:Bool):tb (.bool b)= .v (.bool b):=id rfl
@[simp] theorem qaQ (k:IntKind) (n:Int):tb (.int k n)= .v (.int k n):=id rfl
@[simp] theorem qh3 (s:ByteArray):tb (.string s)= .v (.string s):=id rfl
@[simp] theorem qh4 (a:Option Addr):tb (.pointer a)= .v (.pointer a):=id rfl
@[simp] theorem qcE (a:Option Addr) (l c:Nat):tb (.slice a l c)= .v (.slice a l c):=id rfl
theorem qbz (σ:Sg):kS [] σ=fun _=> .any:=id rfl
theorem Zk (t:Nat) (l:List Nat) (σ:Sg):kS (t::l) σ=mG (kS l σ) t (σ t):=id rfl
@[simp] theorem qgD (H:ae):kT [] H=fun _=> none:=id rfl
@[simp] theorem Xf (t:Nat) (l:List Nat) (H:ae):kT (t::l) H=aq (kT l H) t (H t):=id rfl
@[simp] theorem qeW (i:Nat):cZ i=none:=id rfl
@[simp] theorem qe4 (σ:Sg):rf [] σ=True:=id rfl
@[simp] theorem qdh (t:Nat) (d:D) (l:List (Nat×D)) (σ:Sg):rf ((t,d)::l) σ=(Ph (σ t) d∧rf l σ):=id rfl
@[simp] theorem qe0 (H:ae):uF [] H=True:=id rfl
@[simp] theorem qc9 (t:Nat) (d:Res) (l:List (Nat×Res)) (H:ae):uF ((t,d)::l) H=((H t=some d∨isNilRow d)∧uF l H):=id rfl
@[simp] theorem sub_self (d:D):Ph d d=True:=by
 cases d <;> simp[Ph]
@[simp] theorem qia (a:D) (x:Value):Ph a (.v x)=(a= .v x):=id rfl
@[simp] theorem qaU (a:D) (n:Nat) (x:List D):Ph a (.list n x)=(a= .list n x∨(a= .v (.slice none 0 0)∧x= [])):=id rfl
@[simp] theorem qcF (i:Nat) (x:Value) (y:Value) (j:Nat):Ph (.own i x) (.own j y)=(x=y):=by simp[Ph]
@[simp] theorem qaT (x:Value) (y:Value) (j:Nat):Ph (.v x) (.own j y)=(x=y):=by simp[Ph]
@[simp] theorem qkE (sz:Nat) (cs:List D) (off:Nat):KF true sz cs off= .agg ((cs.drop off).take sz):=id rfl
@[simp] theorem qkF (sz:Nat) (cs:List D) (off:Nat):KF false sz cs off=(cs[off]?).getD .any:=id rfl
@[simp ↓] theorem qcM (rs:List aK) (K:D→ae→Prop) (σ:Sg) (H:ae):vO rs K .norm σ H=l8 rs σ H fun ds=> K (dt ds) H:=id rfl
@[simp ↓] theorem qeI (rs:List aK) (K:D→ae→Prop) (σ:Sg) (H:ae):vO rs K .ret σ H=l8 rs σ H fun ds=> K (dt ds) H:=id rfl
@[simp ↓] theorem qeH (σ:Sg) (H:ae) (K:List D→Prop):l8 [] σ H K=K []:=id rfl
@[simp ↓] theorem qeG (t:Nat) (r:List aK) (σ:Sg) (H:ae) (K:List D→Prop):l8 (.tmp t::r) σ H K=l8 r σ H fun ds=> K (σ t::ds):=id rfl
@[simp ↓] theorem qcL (t:Nat) (agg:Bool) (sz:Nat) (r:List aK) (σ:Sg) (H:ae) (K:List D→Prop):l8 (.cell t agg sz::r) σ H K=CE agg sz (σ t) H fun d=> l8 r σ H fun ds=> K (d::ds):=id rfl
@[simp] theorem qkx (d:D):dt [d]=d:=id rfl
@[simp] theorem qky:dt []= .tup []:=id rfl
@[simp] theorem qkw (d e:D) (l:List D):dt (d::e::l)= .tup (d::e::l):=id rfl
@[simp] theorem qkQ (x:Value):D.kn (.v x)=true:=id rfl
@[simp] theorem qdX (x:Value):D.cells (.v x)= [.v x]:=id rfl
@[simp] theorem qgC (cs:List D):D.kn (.agg cs)=true:=id rfl
@[simp] theorem qaw (cs:List D):D.cells (.agg cs)=cs:=id rfl
@[simp] theorem qdq (n:Nat) (es:List D):D.kn (.list n es)=true:=id rfl
@[simp] theorem ZS (n:Nat) (es:List D):D.cells (.list n es)= [.list n es]:=id rfl
@[simp] theorem qdr (i b o:Nat):D.kn (.bptr i b o)=true:=id rfl
@[simp] theorem ZT (i b o:Nat):D.cells (.bptr i b o)= [.bptr i b o]:=id rfl
@[simp] theorem qgA (i:Nat) (x:Value):D.kn (.own i x)=true:=id rfl
@[simp] theorem qau (i:Nat) (x:Value):D.cells (.own i x)= [.own i x]:=id rfl
@[simp] theorem qgB (f:Nat) (cs:List D):D.kn (.clo f cs)=true:=id rfl
@[simp] theorem qav (f:Nat) (cs:List D):D.cells (.clo f cs)= [.clo f cs]:=id rfl
@[simp] theorem qkm (k:IntKind) (n:Int):vj (.v (.int k n))=some (k,n):=id rfl
attribute [simp] setAt
@[simp] theorem qg9 (n:Int):enc n= .v (.int .i64 n):=rfl
@[simp] theorem qdP (b:Bool):enc b= .v (.bool b):=rfl
@[simp] theorem qg8 (s:ByteArray):enc s= .v (.string s):=rfl
@[simp] theorem qdO {X:Type} [Cod X] (l:List X):enc l= .list (Cod.wd X) (l.map enc):=rfl
@[simp] theorem qez:Cod.wd Int=1:=rfl
@[simp] theorem qcA:Cod.wd Bool=1:=rfl
@[simp] theorem qey:Cod.wd ByteArray=1:=rfl
@[simp] theorem qcz {X:Type} [Cod X]:Cod.wd (List X)=1:=rfl
@[congr] theorem qdw {d:D} {A:Prop} {B:Prop} {d₁:D} (hd:d=d₁):Mv d A B=Mv d₁ A B:=by subst hd;rfl
@[congr] theorem qas {s:Nat} {b:Bool} {σ:Sg} {d:D} {yes:Sg→Prop} {no:Sg→Prop} {d₁:D} (hd:d=d₁):mZ s b σ d yes no=mZ s b σ d₁ yes no:=by subst hd;rfl
@[congr] theorem qa9 {d:D} {A:Prop} {B:Prop} {d₁:D} (hd:d=d₁):CB d A B=CB d₁ A B:=by subst hd;rfl
@[congr] theorem qbw {agg:Bool} {sz:Nat} {b:Nat} {off:Nat} {r:Option Res} {K:D→Prop} {r₁:Option Res} (hr:r=r₁):Mn agg sz b off r K=Mn agg sz b off r₁ K:=by subst hr;rfl
@[congr] theorem qbv {agg:Bool} {sz:Nat} {x:Value} {n:Nat} {i:Nat} {off:Nat} {r:Option Res} {K:D→Prop} {r₁:Option Res} (hr:r=r₁):Mm agg sz x n i off r K=Mm agg sz x n i off r₁ K:=by subst hr;rfl
@[congr] theorem qbu {agg:Bool} {sz:Nat} {d:D} {H:ae} {K:D→Prop} {d₁:D} (hd:d=d₁):CE agg sz d H K=CE agg sz d₁ H K:=by subst hd;rfl
@[congr] theorem qc7 {d:D} {K:D→Prop} {d₁:D} (hd:d=d₁):Rn d K=Rn d₁ K:=by subst hd;rfl
@[congr] theorem qaE {op:BinOp} {d:D} {e:D} {K:D→Prop} {d₁:D} {e₁:D} (hd:d=d₁) (he:e=e₁):Hb op d e K=Hb op d₁ e₁ K:=by subst hd;subst he;rfl
@[congr] theorem qdW {o:Option Bool} {K:D→Prop} {o₁:Option Bool} (ho:o=o₁):R3 o K=R3 o₁ K:=by subst ho;rfl
@[congr] theorem qdV {op:BinOp} {d:D} {e:D} {K:D→Prop} {d₁:D} {e₁:D} (hd:d=d₁) (he:e=e₁):XG op d e K=XG op d₁ e₁ K:=by subst hd;subst he;rfl
@[congr] theorem qdM {neg:Bool} {o:Option Bool} {K:D→Prop} {o₁:Option Bool} (ho:o=o₁):RU neg o K=RU neg o₁ K:=by subst ho;rfl
@[congr] theorem qa4 {d:D} {e:D} {K:D→Prop} {d₁:D} {e₁:D} (hd:d=d₁) (he:e=e₁):LT d e K=LT d₁ e₁ K:=by subst hd;subst he;rfl
@[congr] theorem qc6 {d:D} {K:D→Prop} {d₁:D} (hd:d=d₁):WY d K=WY d₁ K:=by subst hd;rfl
@[congr] theorem qc8 {d:D} {K:D→Prop} {d₁:D} (hd:d=d₁):W0 d K=W0 d₁ K:=by subst hd;rfl
@[congr] theorem qbX {k:IntKind} {d:D} {K:D→Prop} {d₁:D} (hd:d=d₁):Qm k d K=Qm k d₁ K:=by subst hd;rfl
@[congr] theorem qat {off:Nat} {d:D} {K:D→Prop} {d₁:D} (hd:d=d₁):Ci off d K=Ci off d₁ K:=by subst hd;rfl
@[congr] theorem qar {n:Nat} {k:Int} {id:Nat} {x:Value} {r:Option Res} {K:D→Prop} {r₁:Option Res} (hr:r=r₁):Gx n k id x r K=Gx n k id x r₁ K:=by subst hr;rfl
@[congr] theorem qaq {n:Nat} {i:D} {d:D} {H:ae} {K:D→Prop} {i₁:D} {d₁:D} (hi:i=i₁) (hd:d=d₁):B8 n i d H K=B8 n i₁ d₁ H K:=by subst hi;subst hd;rfl
@[congr] theorem qa1 {i:D} {d:D} {K:D→Prop} {i₁:D} {d₁:D} (hi:i=i₁) (hd:d=d₁):PA i d K=PA i₁ d₁ K:=by subst hi;subst hd;rfl
@[congr] theorem qdI {o:Option D} {K:D→Prop} {o₁:Option D} (ho:o=o₁):U3 o K=U3 o₁ K:=by subst ho;rfl
@[congr] theorem qdH {d:D} {i:Nat} {K:D→Prop} {d₁:D} (hd:d=d₁):U2 d i K=U2 d₁ i K:=by subst hd;rfl
@[congr] theorem qdp {x:Value} {r:Option Res} {K:D→Prop} {r₁:Option Res} (hr:r=r₁):Ug x r K=Ug x r₁ K:=by subst hr;rfl
@[congr] theorem qdo {d:D} {H:ae} {K:D→Prop} {d₁:D} (hd:d=d₁):Mp d H K=Mp d₁ H K:=by subst hd;rfl
@[congr] theorem qd8 {x:Value} {r:Option Res} {K:D→Prop} {r₁:Option Res} (hr:r=r₁):Vq x r K=Vq x r₁ K:=by subst hr;rfl
@[congr] theorem qd7 {d:D} {H:ae} {K:D→Prop} {d₁:D} (hd:d=d₁):XN d H K=XN d₁ H K:=by subst hd;rfl
@[congr] theorem qbo {t:Nat} {d:D} {K:D→Prop} {d₁:D} (hd:d=d₁):PN t d K=PN t d₁ K:=by subst hd;rfl
@[congr] theorem qa0 {d:D} {K:D→Prop} {d₁:D} (hd:d=d₁):Pz d K=Pz d₁ K:=by subst hd;rfl
@[congr] theorem qda {mx:Bool} {d:D} {e:D} {K:D→Prop} {d₁:D} {e₁:D} (hd:d=d₁) (he:e=e₁):Xb mx d e K=Xb mx d₁ e₁ K:=by subst hd;subst he;rfl
@[congr] theorem qaj {sz:Nat} {id:Nat} {b:Nat} {off:Nat} {y:D} {r:Option Res} {H:ae} {K:D→ae→Prop} {y₁:D} {r₁:Option Res} (hy:y=y₁) (hr:r=r₁):yI sz id b off y r H K=yI sz id b off y₁ r₁ H K:=by subst hy;subst hr;rfl
@[congr] theorem qai {sz:Nat} {d:D} {y:D} {H:ae} {K:D→ae→Prop} {d₁:D} {y₁:D} (hd:d=d₁) (hy:y=y₁):JP sz d y H K=JP sz d₁ y₁ H K:=by subst hd;subst hy;rfl
@[congr] theorem qef {el:Nat} {n:Nat} {bytes:Nat} {id:Nat} {x:Value} {es2:List D} {r:Option Res} {H:ae} {K:D→ae→Prop} {es2₁:List D} {r₁:Option Res} (hes2:es2=es2₁) (hr:r=r₁):Vy el n bytes id x es2 r H K=Vy el n bytes id x es2₁ r₁ H K:=by subst hes2;subst hr;rfl
@[congr] theorem qdC {t:Nat} {x:Value} {id:Nat} {σ:Sg} {r:Option Res} {H:ae} {K:Sg→ae→Prop} {r₁:Option Res} (hr:r=r₁):UQ t x id σ r H K=UQ t x id σ r₁ H K:=by subst hr;rfl
@[congr] theorem qdD {t:Nat} {b:Nat} {off:Nat} {id:Nat} {σ:Sg} {r:Option Res} {H:ae} {K:Sg→ae→Prop} {r₁:Option Res} (hr:r=r₁):UR t b off id σ r H K=UR t b off id σ r₁ H K:=by subst hr;rfl
@[congr] theorem qdA {t:Nat} {n:Nat} {d:D} {σ:Sg} {H:ae} {K:Sg→ae→Prop} {d₁:D} (hd:d=d₁):UP t n d σ H K=UP t n d₁ σ H K:=by subst hd;rfl
@[congr] theorem qaY {r:Nat} {sz:Nat} {d:D} {y:D} {H:ae} {K:D→ae→Prop} {d₁:D} {y₁:D} (hd:d=d₁) (hy:y=y₁):Py r sz d y H K=Py r sz d₁ y₁ H K:=by subst hd;subst hy;rfl
@[congr] theorem qee {dst:Option Nat} {el:Nat} {n:Nat} {bytes:Nat} {d:D} {es2:List D} {H:ae} {K:D→ae→Prop} {dst₁:Option Nat} {d₁:D} {es2₁:List D} (hdst:dst=dst₁) (hd:d=d₁) (hes2:es2=es2₁):Vx dst el n bytes d es2 H K=Vx dst₁ el n bytes d₁ es2₁ H K:=by subst hdst;subst hd;subst hes2;rfl
@[congr] theorem qb7 {S:Nat→Spc} {f:D} {d:Nat} {args:List D} {H:ae} {K:D→ae→Prop} {f₁:D} {args₁:List D} (hf:f=f₁) (hargs:args=args₁):AI S f d args H K=AI S f₁ d args₁ H K:=by subst hf;subst hargs;rfl
@[congr] theorem qaZ {n:Nat} {d d':D} {H:ae} {K:List D→Prop} (h:d=d'):mK n d H K=mK n d' H K:=by subst h;rfl
@[congr] theorem qaI {s s':Spc} {d:Nat} {ds ds':List D} {H:ae} {K:D→ae→Prop} (h:s=s') (h':ds=ds'):s.pt d ds H K=s'.pt d ds' H K:=by subst h;subst h';rfl
end Go.Gv
