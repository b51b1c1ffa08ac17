/- A part of the framework and of the walks: T10. -/
import Derived.Test.YticbieanhfdnoaaGreatDoorGc17
set_option linter.unusedSimpArgs false
set_option linter.unusedVariables false

namespace Go.Gv
open Cod (enc dec)
section
variable {S:Nat→Spc} {K:Ex→Sg→aa→Prop} {σ:Sg} {H:aa}
def Ii (S:Nat→Spc) (b:CC) (K:Ex→Sg→aa→Prop):Ex→Sg→aa→Prop:=fun e σ H=> match e with
 | .norm=> vc S b K σ H
 | e=> K e σ H
def LS (id:Nat) (K:Ex→Sg→aa→Prop):Ex→Sg→aa→Prop:=fun e σ H=> match e with
 | .ex i=> if i=id then K .norm σ H else K (.ex i) σ H
 | e=> K e σ H
def Lk (inv:Tc) (x:inv.X) (K:Ex→Sg→aa→Prop):Ex→Sg→aa→Prop:=fun e σ' H'=> match e with
 | .norm=> ∃y,inv.P y∧Wk σ' H' (inv.s y) (inv.h y)∧inv.m y < inv.m x
 | e=> K e σ' H'
def GM (d:D) (A B:Prop):Prop:=match d with
 | .v (.bool t)=> (t=true→A)∧(t=false→B)
 | _=> False
@[simp ↓] theorem Sr:vc S .skip K σ H=K .norm σ H:=id rfl
@[simp ↓] theorem Re (l:List CI):vc S (.reg l) K σ H=xb S l σ H (K .norm):=id rfl
@[simp ↓] theorem qdn (p l:List CI):vc S (.regd p l) K σ H=jJ S p σ (bK p H) H fun σ H=> xb S l σ H (K .norm):=id rfl
@[simp ↓] theorem He (a b:CC):vc S (.seq a b) K σ H=vc S a (Ii S b K) σ H:=id rfl
@[simp ↓] theorem By (b:CC):Ii S b K .norm σ H=vc S b K σ H:=id rfl
@[simp ↓] theorem N6 (b:CC) (i:Nat):Ii S b K (.ex i) σ H=K (.ex i) σ H:=id rfl
@[simp ↓] theorem Ss (b:CC):Ii S b K .ret σ H=K .ret σ H:=id rfl
@[simp ↓] theorem VD (c:Operand) (a b:CC):vc S (.ite c a b) K σ H=GM (ev σ c) (vc S a K σ H) (vc S b K σ H):=id rfl
@[simp] theorem Sw (t:Bool) (A B:Prop):GM (.v (.bool t)) A B=((t=true→A)∧(t=false→B)):=id rfl
@[simp high] theorem qdp (A B:Prop):GM (.v (.bool true)) A B=A:=by simp[GM]
@[simp high] theorem qdq (A B:Prop):GM (.v (.bool false)) A B=B:=by simp[GM]
@[simp ↓] theorem Fc (id:Nat) (b:CC):vc S (.block id b) K σ H=vc S b (LS id K) σ H:=_root_.id rfl
@[simp ↓] theorem Sy (id:Nat):LS id K .norm σ H=K .norm σ H:=_root_.id rfl
@[simp ↓] theorem N9 (id:Nat):LS id K .ret σ H=K .ret σ H:=_root_.id rfl
@[simp ↓] theorem Jg (id i:Nat):LS id K (.ex i) σ H=if i=id then K .norm σ H else K (.ex i) σ H:=_root_.id rfl
@[simp ↓] theorem Sx (i:Nat):vc S (.exit i) K σ H=K (.ex i) σ H:=id rfl
@[simp ↓] theorem qgC:vc S .ret K σ H=K .ret σ H:=id rfl
@[simp ↓] theorem qdo (ls lh:List Nat) (c:CC):vc S (.keep ls lh c) K σ H=vc S c K (gY ls σ) (iG lh H):=id rfl
theorem Fb (k:Nat) (b:CC):vc S (.loop k b) K σ H= ∃inv:Tc,(∃x,inv.P x∧Wk σ H (inv.s x) (inv.h x))∧ ∀x,inv.P x→vc S b (Lk inv x K) (inv.s x) (inv.h x):=id rfl
theorem N8 (k:Nat) (c:CC):vc S (.cut k c) K σ H= ∃ (σ':Sg) (H':aa),Wk σ H σ' H'∧vc S c K σ' H':=id rfl
@[simp ↓] theorem Sv (inv:Tc) (x:inv.X):Lk inv x K .norm σ H= ∃y,inv.P y∧Wk σ H (inv.s y) (inv.h y)∧inv.m y < inv.m x:=id rfl
@[simp ↓] theorem Su (inv:Tc) (x:inv.X):Lk inv x K .ret σ H=K .ret σ H:=id rfl
@[simp ↓] theorem N7 (inv:Tc) (x:inv.X) (i:Nat):Lk inv x K (.ex i) σ H=K (.ex i) σ H:=id rfl
end
def ki (s:Nat) (b:Bool) (σ:Sg) (d:D) (yes no:Sg→Prop):Prop:=match d with
 | .v (.bool t)=> (t=b→yes (upd σ s (.v (.bool b))))∧(t=(!b)→no (upd σ s (.v (.bool (!b)))))
 | .undef=> no σ
 | _=> False
@[simp high] theorem qht (s:Nat) (σ:Sg) (yes no:Sg→Prop):ki s true σ (.v (.bool true)) yes no=yes (upd σ s (.v (.bool true))):=by simp[ki]
@[simp high] theorem qhu (s:Nat) (σ:Sg) (yes no:Sg→Prop):ki s true σ (.v (.bool false)) yes no=no (upd σ s (.v (.bool false))):=by simp[ki]
@[simp high] theorem qhv (s:Nat) (σ:Sg) (yes no:Sg→Prop):ki s false σ (.v (.bool true)) yes no=no (upd σ s (.v (.bool true))):=by simp[ki]
@[simp high] theorem qhw (s:Nat) (σ:Sg) (yes no:Sg→Prop):ki s false σ (.v (.bool false)) yes no=yes (upd σ s (.v (.bool false))):=by simp[ki]
@[simp] theorem qhs (s:Nat) (b:Bool) (σ:Sg) (yes no:Sg→Prop):ki s b σ .undef yes no=no σ:=id rfl
@[simp] theorem qhB (s:Nat) (b t:Bool) (σ:Sg) (yes no:Sg→Prop):ki s b σ (.v (.bool t)) yes no=((t=b→yes (upd σ s (.v (.bool b))))∧(t=(!b)→no (upd σ s (.v (.bool (!b)))))):=id rfl
section
variable {S:Nat→Spc} {σ:Sg} {H Hr:aa}
@[simp ↓] theorem Ra (K:Sg→aa→Prop):xb S [] σ H K=K σ H:=id rfl
@[simp ↓] theorem Sa (K:Sg→aa→Prop) (d:Option Nat) (c:COp) (r:List CI):xb S (.op d none c::r) σ H K=aO S c d σ H fun x H'=> xb S r (eA σ d x) H' K:=id rfl
@[simp ↓] theorem qeT (K:Sg→aa→Prop) (d:Option Nat) (s:Nat) (b:Bool) (c:COp) (r:List CI):xb S (.op d (some (s,b)) c::r) σ H K=ki s b σ (σ s) (fun σ=> aO S c d σ H fun x H'=> xb S r (eA σ d x) H' K) (fun σ=> xb S r (eA σ d .undef) H K):=id rfl
@[simp ↓] theorem qeI (K:Sg→aa→Prop):jJ S [] σ Hr H K=K σ H:=id rfl
@[simp ↓] theorem qeJ (K:Sg→aa→Prop) (a b:Nat) (r:List CI):jJ S (.frz a b::r) σ Hr H K=jJ S r σ (bK r Hr) H K:=id rfl
@[simp ↓] theorem qg6 (K:Sg→aa→Prop) (d:Option Nat) (c:COp) (r:List CI):jJ S (.op d none c::r) σ Hr H K=aB S c d σ Hr H fun x H'=> jJ S r (eA σ d x) Hr H' K:=id rfl
@[simp ↓] theorem qeH (K:Sg→aa→Prop) (d:Option Nat) (s:Nat) (b:Bool) (c:COp) (r:List CI):jJ S (.op d (some (s,b)) c::r) σ Hr H K=ki s b σ (σ s) (fun σ=> aB S c d σ Hr H fun x H'=> jJ S r (eA σ d x) Hr H' K) (fun σ=> jJ S r (eA σ d .undef) Hr H K):=id rfl
end
def yn (d:D) (A B:Prop):Prop:=match d with
 | .v (.bool t)=> (t=true→A)∧(t=false→B)
 | _=> False
@[simp high] theorem Xm (A B:Prop):yn (.v (.bool true)) A B=A:=by simp[yn]
@[simp high] theorem Xn (A B:Prop):yn (.v (.bool false)) A B=B:=by simp[yn]
def GD (agg:Bool) (sz b off:Nat) (r:Option Res) (K:D→Prop):Prop:=match r with
 | some (.box b' cells)=> b'=b∧off+sz≤cells.length∧K (Fw agg sz cells off)
 | _=> False
def GB (agg:Bool) (sz:Nat) (x:Value) (n i off:Nat) (r:Option Res) (K:D→Prop):Prop:=match r with
 | some (.row x' _ n' es)=> x'=x∧n'=n∧off+sz≤n∧i < es.length∧ ∀d,es[i]?=some d→K (Fw agg sz d.cells off)
 | _=> False
def yp (agg:Bool) (sz:Nat) (d:D) (H:aa) (K:D→Prop):Prop:=match d with
 | .cptr cs off=> off+sz≤cs.length∧K (Fw agg sz cs off)
 | .bptr id b off=> GD agg sz b off (H id) K
 | .eptr id x n i off=> GB agg sz x n i off (H id) K
 | _=> False
@[simp] theorem XD (agg:Bool) (sz:Nat) (cs:List D) (off:Nat) (H:aa) (K:D→Prop):yp agg sz (.cptr cs off) H K=(off+sz≤cs.length∧K (Fw agg sz cs off)):=id rfl
@[simp] theorem XE (agg:Bool) (sz:Nat) (i b off:Nat) (H:aa) (K:D→Prop):yp agg sz (.bptr i b off) H K=GD agg sz b off (H i) K:=id rfl
@[simp] theorem XC (agg:Bool) (sz:Nat) (i:Nat) (x:Value) (n k off:Nat) (H:aa) (K:D→Prop):yp agg sz (.eptr i x n k off) H K=GB agg sz x n k off (H i) K:=id rfl
@[simp] theorem XG (agg:Bool) (sz b off b':Nat) (cells:List D) (K:D→Prop):GD agg sz b off (some (.box b' cells)) K=(b'=b∧off+sz≤cells.length∧K (Fw agg sz cells off)):=id rfl
@[simp] theorem XF (agg:Bool) (sz:Nat) (x:Value) (n i off:Nat) (x':Value) (el n':Nat) (es:List D) (K:D→Prop):GB agg sz x n i off (some (.row x' el n' es)) K=(x'=x∧n'=n∧off+sz≤n∧i < es.length∧ ∀d,es[i]?=some d→K (Fw agg sz d.cells off)):=id rfl
def Li (d:D) (K:D→Prop):Prop:=match d with
 | .cptr cs off=> K (.cptr cs off)
 | .bptr id b off=> K (.bptr id b off)
 | .eptr id x n i off=> K (.eptr id x n i off)
 | .tape L=> K (.tape L)
 | .clo f caps=> K (.clo f caps)
 | _=> False
@[simp] theorem ZS (cs:List D) (off:Nat) (K:D→Prop):Li (.cptr cs off) K=K (.cptr cs off):=id rfl
@[simp] theorem ZT (i b off:Nat) (K:D→Prop):Li (.bptr i b off) K=K (.bptr i b off):=id rfl
def BN (op:BinOp) (d e:D) (K:D→Prop):Prop:=match d,e with
 | .v (.int k a), .v (.int k' b)=> L0 op k k'∧gg op k a b K
 | _,_=> False
@[simp] theorem OD (op:BinOp) (k k':IntKind) (a b:Int) (K:D→Prop):BN op (.v (.int k a)) (.v (.int k' b)) K=(L0 op k k'∧gg op k a b K):=id rfl
@[simp] theorem P1 (k k':IntKind):L0 .add k k'=(k=k'):=id rfl
@[simp] theorem XN (k k':IntKind):L0 .sub k k'=(k=k'):=id rfl
@[simp] theorem XS (k k':IntKind):L0 .mul k k'=(k=k'):=id rfl
@[simp] theorem XR (k k':IntKind):L0 .quo k k'=(k=k'):=id rfl
@[simp] theorem XQ (k k':IntKind):L0 .rem k k'=(k=k'):=id rfl
@[simp] theorem XT (k k':IntKind):L0 .and k k'=(k=k'):=id rfl
@[simp] theorem qc1 (k k':IntKind):L0 .or k k'=(k=k'):=id rfl
@[simp] theorem XP (k k':IntKind):L0 .shl k k'=True:=id rfl
@[simp] theorem XO (k k':IntKind):L0 .shr k k'=True:=id rfl
@[simp ↓] theorem LV (k:IntKind) (a b:Int) (K:D→Prop):gg .add k a b K=(InR k (a+b)∧K (.v (.int k (a+b)))):=id rfl
@[simp ↓] theorem TU (k:IntKind) (a b:Int) (K:D→Prop):gg .sub k a b K=(InR k (a -b)∧K (.v (.int k (a -b)))):=id rfl
@[simp ↓] theorem TZ (k:IntKind) (a b:Int) (K:D→Prop):gg .mul k a b K=(InR k (a*b)∧K (.v (.int k (a*b)))):=id rfl
@[simp ↓] theorem TY (k:IntKind) (a b:Int) (K:D→Prop):gg .quo k a b K=(b≠0∧InR k (a.tdiv b)∧K (.v (.int k (a.tdiv b)))):=id rfl
@[simp ↓] theorem TX (k:IntKind) (a b:Int) (K:D→Prop):gg .rem k a b K=(b≠0∧K (.v (.int k (a.tmod b)))):=id rfl
@[simp ↓] theorem T0 (k:IntKind) (a b:Int) (K:D→Prop):gg .and k a b K=K (.v (.int k (Js k a b))):=id rfl
@[simp ↓] theorem We (k:IntKind) (a b:Int) (K:D→Prop):gg .or k a b K=K (.v (.int k (UQ k a b))):=id rfl
@[simp ↓] theorem TW (k:IntKind) (a b:Int) (K:D→Prop):gg .shl k a b K=(0≤b∧K (.v (.int k (F8 k a b)))):=id rfl
@[simp ↓] theorem TV (k:IntKind) (a b:Int) (K:D→Prop):gg .shr k a b K=(0≤b∧K (.v (.int k (MB k a b)))):=id rfl
def PD (d:D) (K:D→Prop):Prop:=match d with
 | .v (.int _ n)=> K (.v (.string (Utf8.encode n)))
 | _=> False
@[simp] theorem ZA (k:IntKind) (n:Int) (K:D→Prop):PD (.v (.int k n)) K=K (.v (.string (Utf8.encode n))):=id rfl
def Jj (o:Option Bool) (K:D→Prop):Prop:=match o with | some t=> K (.v (.bool t)) | none=> False
@[simp] theorem SH (t:Bool) (K:D→Prop):Jj (some t) K=K (.v (.bool t)):=id rfl
def LO (op:BinOp) (d e:D) (K:D→Prop):Prop:=match d,e with
 | .v (.int k a), .v (.int k' b)=> k=k'∧Jj (Hs op a b) K
 | .v (.string a), .v (.string b)=> Jj (Ji op a b) K
 | _,_=> False
@[simp] theorem SG (op:BinOp) (k k':IntKind) (a b:Int) (K:D→Prop):LO op (.v (.int k a)) (.v (.int k' b)) K=(k=k'∧Jj (Hs op a b) K):=id rfl
@[simp] theorem qdA (op:BinOp) (a b:ByteArray) (K:D→Prop):LO op (.v (.string a)) (.v (.string b)) K=Jj (Ji op a b) K:=id rfl
@[simp] theorem Ol (a b:Int):Hs .lss a b=some (decide (a < b)):=id rfl
@[simp] theorem VO (a b:Int):Hs .leq a b=some (decide (a≤b)):=id rfl
@[simp] theorem VP (a b:Int):Hs .gtr a b=some (decide (b < a)):=id rfl
@[simp] theorem VR (a b:Int):Hs .geq a b=some (decide (b≤a)):=id rfl
@[simp] theorem VL (a b:ByteArray):Ji .lss a b=some (Op.bytesLess a.toList b.toList):=id rfl
@[simp] theorem VM (a b:ByteArray):Ji .gtr a b=some (!(Op.bytesLess a.toList b.toList || a.toList==b.toList)):=id rfl
@[simp] theorem VN (a b:ByteArray):Ji .geq a b=some (!Op.bytesLess a.toList b.toList):=id rfl
def LI (neg:Bool) (o:Option Bool) (K:D→Prop):Prop:=match o with
 | some p=> K (.v (.bool (if neg then !p else p)))
 | none=> False
@[simp] theorem qdg (p:Bool) (K:D→Prop):LI false (some p) K=K (.v (.bool p)):=id rfl
@[simp] theorem qdf (p:Bool) (K:D→Prop):LI true (some p) K=K (.v (.bool (!p))):=id rfl
@[simp] theorem qgy (k:HN) (a b:D):Sn false [k] a b=L2 k a b:=id rfl
@[simp] theorem qgx (ks:List HN) (a b:List D):Sn true ks (.agg a) (.agg b)=Qp ks a b:=id rfl
@[simp] theorem qgw:Qp [] [] []=some true:=id rfl
@[simp] theorem qgv (k:HN) (ks:List HN) (a b:D) (as bs:List D):Qp (k::ks) (a::as) (b::bs)=(L2 k a b).bind fun p=> (Qp ks as bs).bind fun q=> some (p && q):=id rfl
@[simp] theorem qgA (k k':IntKind) (a b:Int):L2 .int (.v (.int k a)) (.v (.int k' b))=if k=k' then some (decide (a=b)) else none:=id rfl
@[simp] theorem qgz (a b:ByteArray):L2 .str (.v (.string a)) (.v (.string b))=some (decide (a=b)):=id rfl
@[simp] theorem qgB (a b:Bool):L2 .bool (.v (.bool a)) (.v (.bool b))=some (decide (a=b)):=id rfl
def PN (d:D) (K:D→Prop):Prop:=match d with
 | .v (.bool b)=> K (.v (.bool (!b)))
 | _=> False
@[simp] theorem ZO (b:Bool) (K:D→Prop):PN (.v (.bool b)) K=K (.v (.bool (!b))):=id rfl
def Kq (k:IntKind) (d:D) (K:D→Prop):Prop:=match d with
 | .v (.int _ n)=> K (.v (.int k (k.wrap n)))
 | _=> False
@[simp] theorem Yq (k k':IntKind) (n:Int) (K:D→Prop):Kq k (.v (.int k' n)) K=K (.v (.int k (k.wrap n))):=id rfl
def Ih (n id:Nat) (x:Value) (lo hi:Option (Option (IntKind×Int))) (r:Option Res) (K:D→Prop):Prop:=match r with
 | some (.row x' _ n' es)=> x'=x∧n'=n∧n9 lo hi es.length fun l h=> K (.sub id x n l h)
 | _=> False
@[simp] theorem UC (n i:Nat) (x x':Value) (el n':Nat) (es:List D) (lo hi:Option (Option (IntKind×Int))) (K:D→Prop):Ih n i x lo hi (some (.row x' el n' es)) K=(x'=x∧n'=n∧n9 lo hi es.length fun l h=> K (.sub i x n l h)):=id rfl
@[simp] theorem qdw (k:IntKind) (l:Int) (len:Nat) (K:Nat→Nat→Prop):n9 (some (some (k,l))) none len K=(0≤l∧l≤len∧K l.toNat len):=id rfl
def z7 (n:Nat) (d:D) (lo hi:Option (Option (IntKind×Int))) (H:aa) (K:D→Prop):Prop:=match d with
 | .list n' es=> n'=n∧(match lo,hi with
   | none,none=> K (.list n es)
   | some (some (_,l)),none=> 0≤l∧l≤es.length∧K (.list n (es.drop l.toNat))
   | none,some (some (_,h))=> 0≤h∧h≤es.length∧K (.list n (es.take h.toNat))
   | some (some (_,l)),some (some (_,h))=> 0≤l∧l≤h∧h≤es.length∧K (.list n ((es.take h.toNat).drop l.toNat))
   | _,_=> False)
 | .own id x=> Ih n id x lo hi (H id) K
 | .sub id x n' a b=> n'=n∧n9 lo hi (b -a) fun l h=> K (.sub id x n (a+l) (a+h))
 | .v (.slice none 0 0)=> n9 lo hi 0 fun _ _=> K (.v (.slice none 0 0))
 | _=> False
@[simp] theorem UB (n i:Nat) (x:Value) (lo hi:Option (Option (IntKind×Int))) (H:aa) (K:D→Prop):z7 n (.own i x) lo hi H K=Ih n i x lo hi (H i) K:=id rfl
@[simp] theorem Tu (n n':Nat) (es:List D) (k:IntKind) (l:Int) (H:aa) (K:D→Prop):z7 n (.list n' es) (some (some (k,l))) none H K=(n'=n∧0≤l∧l≤es.length∧K (.list n (es.drop l.toNat))):=id rfl
@[simp] theorem Tt (n n':Nat) (es:List D) (k:IntKind) (l:Int) (H:aa) (K:D→Prop):z7 n (.list n' es) none (some (some (k,l))) H K=(n'=n∧0≤l∧l≤es.length∧K (.list n (es.take l.toNat))):=id rfl
def zn (d:D) (lo hi:Option (Option (IntKind×Int))) (K:D→Prop):Prop:=match d with
 | .v (.string s)=> (match lo,hi with
   | none,none=> K (.v (.string (s.extract 0 s.size)))
   | some (some (_,l)),none=> 0≤l∧l≤s.size∧K (.v (.string (s.extract l.toNat s.size)))
   | none,some (some (_,h))=> 0≤h∧h≤s.size∧K (.v (.string (s.extract 0 h.toNat)))
   | some (some (_,l)),some (some (_,h))=> 0≤l∧l≤h∧h≤s.size∧K (.v (.string (s.extract l.toNat h.toNat)))
   | _,_=> False)
 | _=> False
@[simp] theorem RI (s:ByteArray) (k:IntKind) (l:Int) (K:D→Prop):zn (.v (.string s)) (some (some (k,l))) none K=(0≤l∧l≤s.size∧K (.v (.string (s.extract l.toNat s.size)))):=id rfl
@[simp] theorem RJ (s:ByteArray) (k k':IntKind) (l h:Int) (K:D→Prop):zn (.v (.string s)) (some (some (k,l))) (some (some (k',h))) K=(0≤l∧l≤h∧h≤s.size∧K (.v (.string (s.extract l.toNat h.toNat)))):=id rfl
def uZ (off:Nat) (d:D) (K:D→Prop):Prop:=match d with
 | .cptr cs o=> K (.cptr cs (o+off))
 | .bptr id b o=> K (.bptr id b (o+off))
 | .eptr id x n i o=> K (.eptr id x n i (o+off))
 | _=> False
@[simp] theorem Vv (off:Nat) (cs:List D) (o:Nat) (K:D→Prop):uZ off (.cptr cs o) K=K (.cptr cs (o+off)):=id rfl
@[simp] theorem Vw (off i b o:Nat) (K:D→Prop):uZ off (.bptr i b o) K=K (.bptr i b (o+off)):=id rfl
@[simp] theorem Vu (off:Nat) (i:Nat) (x:Value) (n k o:Nat) (K:D→Prop):uZ off (.eptr i x n k o) K=K (.eptr i x n k (o+off)):=id rfl
def Bj (n:Nat) (k:Int) (id:Nat) (x:Value) (r:Option Res) (K:D→Prop):Prop:=match r with
 | some (.row x' _ n' es)=> x'=x∧n'=n∧0≤k∧k < es.length∧K (.eptr id x n k.toNat 0)
 | _=> False
def uX (n:Nat) (i d:D) (H:aa) (K:D→Prop):Prop:=match i with
 | .v (.int _ k)=> match d with
   | .list n' es=> n'=n∧0≤k∧k < es.length∧ ∀d,es[k.toNat]?=some d→K (.cptr d.cells 0)
   | .own id x=> Bj n k id x (H id) K
   | .sub id x n' lo hi=> n'=n∧0≤k∧k < (hi -lo:Nat)∧K (.eptr id x n (lo+k.toNat) 0)
   | _=> False
 | _=> False
@[simp] theorem Ve (n:Nat) (kd:IntKind) (k:Int) (i:Nat) (x:Value) (n' lo hi:Nat) (H:aa) (K:D→Prop):uX n (.v (.int kd k)) (.sub i x n' lo hi) H K=(n'=n∧0≤k∧k < (hi -lo:Nat)∧K (.eptr i x n (lo+k.toNat) 0)):=id rfl
@[simp] theorem Vg (n:Nat) (kd:IntKind) (k:Int) (n':Nat) (es:List D) (H:aa) (K:D→Prop):uX n (.v (.int kd k)) (.list n' es) H K=(n'=n∧0≤k∧k < es.length∧ ∀d,es[k.toNat]?=some d→K (.cptr d.cells 0)):=id rfl
@[simp] theorem Vf (n:Nat) (kd:IntKind) (k:Int) (i:Nat) (x:Value) (H:aa) (K:D→Prop):uX n (.v (.int kd k)) (.own i x) H K=Bj n k i x (H i) K:=id rfl
@[simp] theorem Vh (n:Nat) (k:Int) (i:Nat) (x x':Value) (el n':Nat) (es:List D) (K:D→Prop):Bj n k i x (some (.row x' el n' es)) K=(x'=x∧n'=n∧0≤k∧k < es.length∧K (.eptr i x n k.toNat 0)):=id rfl
def JK (i d:D) (K:D→Prop):Prop:=match i with
 | .v (.int _ k)=> match d with
   | .v (.string s)=> 0≤k∧k < s.size∧ ∀c,s.data[k.toNat]?=some c→K (.v (.int .u8 c.toNat))
   | _=> False
 | _=> False
@[simp] theorem WU (kd:IntKind) (k:Int) (s:ByteArray) (K:D→Prop):JK (.v (.int kd k)) (.v (.string s)) K=(0≤k∧k < s.size∧ ∀c,s.data[k.toNat]?=some c→K (.v (.int .u8 c.toNat))):=id rfl
def NZ (o:Option D) (K:D→Prop):Prop:=match o with
 | some d=> K d
 | none=> False
def NY (d:D) (i:Nat) (K:D→Prop):Prop:=match d with
 | .tup ds=> NZ ds[i]? K
 | _=> False
@[simp] theorem qda (ds:List D) (i:Nat) (K:D→Prop):NY (.tup ds) i K=NZ ds[i]? K:=id rfl
@[simp] theorem qdb (d:D) (K:D→Prop):NZ (some d) K=K d:=id rfl
def Nr (x:Value) (r:Option Res) (K:D→Prop):Prop:=match r with
 | some (.row x' _ _ es)=> x'=x∧((es.length:Int)≤9223372036854775807→K (.v (.int .i64 es.length)))
 | _=> False
def IQ (d:D) (H:aa) (K:D→Prop):Prop:=match d with
 | .list _ es=> (es.length:Int)≤9223372036854775807→K (.v (.int .i64 es.length))
 | .own id x=> Nr x (H id) K
 | .v (.slice _ n _)=> K (.v (.int .i64 n))
 | .sub _ _ _ lo hi=> ((hi -lo:Nat):Int)≤9223372036854775807→K (.v (.int .i64 (hi -lo:Nat)))
 | _=> False
@[simp] theorem Z6 (n:Nat) (es:List D) (H:aa) (K:D→Prop):IQ (.list n es) H K=((es.length:Int)≤9223372036854775807→K (.v (.int .i64 es.length))):=id rfl
@[simp] theorem Z5 (i:Nat) (x:Value) (H:aa) (K:D→Prop):IQ (.own i x) H K=Nr x (H i) K:=id rfl
@[simp] theorem XH (a:Option Addr) (n c:Nat) (H:aa) (K:D→Prop):IQ (.v (.slice a n c)) H K=K (.v (.int .i64 n)):=id rfl
@[simp] theorem Z7 (x x':Value) (el n:Nat) (es:List D) (K:D→Prop):Nr x (some (.row x' el n es)) K=(x'=x∧((es.length:Int)≤9223372036854775807→K (.v (.int .i64 es.length)))):=id rfl
def Ow (x:Value) (r:Option Res) (K:D→Prop):Prop:=match r with
 | some (.row x' _ n es)=> x'=x∧n=1∧Rg es=true∧K (.v (.string (SL es)))
 | _=> False
@[simp] theorem qdW (x x':Value) (el n:Nat) (es:List D) (K:D→Prop):Ow x (some (.row x' el n es)) K=(x'=x∧n=1∧Rg es=true∧K (.v (.string (SL es)))):=id rfl
def QE (d:D) (H:aa) (K:D→Prop):Prop:=match d with
 | .own i x=> Ow x (H i) K
 | .v (.slice none 0 0)=> K (.v (.string ⟨#[]⟩))
 | _=> False
@[simp] theorem qdV (i:Nat) (x:Value) (H:aa) (K:D→Prop):QE (.own i x) H K=Ow x (H i) K:=id rfl
def F7 (d:D) (K:D→Prop):Prop:=match d with
 | .v (.string s)=> (s.size:Int)≤9223372036854775807→K (.v (.int .i64 s.size))
 | _=> False
@[simp] theorem WT (s:ByteArray) (K:D→Prop):F7 (.v (.string s)) K=((s.size:Int)≤9223372036854775807→K (.v (.int .i64 s.size))):=id rfl
def Ng (mx:Bool) (d e:D) (K:D→Prop):Prop:=match d,e with
 | .v (.int k a), .v (.int k' b)=> k=k'∧K (.v (.int k (if mx then max a b else min a b)))
 | _,_=> False
@[simp] theorem Z0 (mx:Bool) (k k':IntKind) (a b:Int) (K:D→Prop):Ng mx (.v (.int k a)) (.v (.int k' b)) K=(k=k'∧K (.v (.int k (if mx then max a b else min a b)))):=id rfl
@[simp ↓] theorem TT (σ:Sg) (cs:List D) (K:List D→Prop):iC σ [] cs K=K cs:=id rfl
@[simp ↓] theorem SM (σ:Sg) (off sz:Nat) (x:Operand) (r:List (Nat×Nat×Operand)) (cs:List D) (K:List D→Prop):iC σ ((off,sz,x)::r) cs K=((ev σ x).kn=true∧(ev σ x).cells.length=sz∧iC σ r (setAt cs off (ev σ x).cells) K):=id rfl
@[simp] theorem Ty (n:Nat):jl n []=True:=id rfl
@[simp] theorem RU (n:Nat) (d:D) (r:List D):jl n (d::r)=(d.kn=true∧d.cells.length=n∧jl n r):=id rfl
def KV (n lo hi:Nat) (x:Value) (r:Option Res) (K:List D→Prop):Prop:=match r with
 | some (.row x' _ n'' es)=> x'=x∧n''=n∧K ((es.take hi).drop lo)
 | _=> False
@[simp] theorem Zm (n lo hi:Nat) (x x':Value) (el n':Nat) (es:List D) (K:List D→Prop):KV n lo hi x (some (.row x' el n' es)) K=(x'=x∧n'=n∧K ((es.take hi).drop lo)):=id rfl
@[simp] theorem qev (n i:Nat) (x:Value) (n' lo hi:Nat) (H:aa) (K:List D→Prop):jT n (.sub i x n' lo hi) H K=(n'=n∧KV n lo hi x (H i) K):=by
 simp only[jT]
 cases H i with
 | none=> simp[KV]
 | some r=> cases r <;> simp[KV,and_left_comm]
@[simp] theorem Zn (n n':Nat) (es:List D) (H:aa) (K:List D→Prop):oo n (.list n' es) H K=(n'=n∧K es):=id rfl
@[simp] theorem Zo (n:Nat) (s:ByteArray) (H:aa) (K:List D→Prop):oo n (.v (.string s)) H K=(n=1∧K (xe s)):=id rfl
def Z1 (t el n bytes:Nat) (agg:Bool) (z:List Value) (l c:Option (IntKind×Int)) (H:aa) (K:D→aa→Prop):Prop:=match l,c with
 | some (_,l),some (_,c)=> 0≤l∧l≤c∧bytes*c≤140737488355328∧c≤140737488355328∧ ∀x,K (.own t x) (aj H t (some (.row x el n (List.replicate l.toNat (if agg then .agg (z.map oV) else oV (z.headD (.bool false)))))))
 | _,_=> False
@[simp] theorem qeR (t el n bytes:Nat) (agg:Bool) (z:List Value) (k k':IntKind) (l c:Int) (H:aa) (K:D→aa→Prop):Z1 t el n bytes agg z (some (k,l)) (some (k',c)) H K=(0≤l∧l≤c∧bytes*c≤140737488355328∧c≤140737488355328∧ ∀x,K (.own t x) (aj H t (some (.row x el n (List.replicate l.toNat (if agg then .agg (z.map oV) else oV (z.headD (.bool false)))))))):=id rfl
def t7 (sz id b off:Nat) (y:D) (r:Option Res) (H:aa) (K:D→aa→Prop):Prop:=match r with
 | some (.box b' cells)=> b'=b∧off+sz≤cells.length∧K .undef (aj H id (some (.box b' (setAt cells off y.cells))))
 | _=> False
def tZ (sz id:Nat) (x:Value) (n i off:Nat) (y:D) (r:Option Res) (H:aa) (K:D→aa→Prop):Prop:=match r with
 | some (.row x' el n' es)=> x'=x∧n'=n∧0 < n∧off+sz≤n∧i < es.length∧ ∀d,es[i]?=some d→
    K .undef (aj H id (some (.row x' el n' (es.set i (if off=0∧sz=n then y else .agg (setAt d.cells off y.cells))))))
 | _=> False
def zX (sz:Nat) (d y:D) (H:aa) (K:D→aa→Prop):Prop:=match d with
 | .bptr id b off=> t7 sz id b off y (H id) H K
 | .eptr id x n i off=> tZ sz id x n i off y (H id) H K
 | _=> False
@[simp] theorem Uu (sz i b off:Nat) (y:D) (H:aa) (K:D→aa→Prop):zX sz (.bptr i b off) y H K=t7 sz i b off y (H i) H K:=id rfl
@[simp] theorem Ut (sz i:Nat) (x:Value) (n k off:Nat) (y:D) (H:aa) (K:D→aa→Prop):zX sz (.eptr i x n k off) y H K=tZ sz i x n k off y (H i) H K:=id rfl
@[simp] theorem Uw (sz i b off b':Nat) (y:D) (cells:List D) (H:aa) (K:D→aa→Prop):t7 sz i b off y (some (.box b' cells)) H K=(b'=b∧off+sz≤cells.length∧K .undef (aj H i (some (.box b' (setAt cells off y.cells))))):=id rfl
@[simp] theorem Uv (sz i:Nat) (x x':Value) (el n n' k off:Nat) (y:D) (es:List D) (H:aa) (K:D→aa→Prop):tZ sz i x n k off y (some (.row x' el n' es)) H K=(x'=x∧n'=n∧0 < n∧off+sz≤n∧k < es.length∧ ∀d,es[k]?=some d→
 K .undef (aj H i (some (.row x' el n' (es.set k (if off=0∧sz=n then y else .agg (setAt d.cells off y.cells))))))):=id rfl
def OH (el n bytes id:Nat) (x:Value) (es2:List D) (r:Option Res) (H:aa) (K:D→aa→Prop):Prop:=match r with
 | some (.row x' el' n' es)=> x'=x∧el'=el∧n'=n∧(es.length+es2.length) *bytes≤140737488355328∧es.length+es2.length≤140737488355328∧ ∀v,K (.own id v) (aj H id (some (.row v el n (es++es2))))
 | _=> False
def qd6 (el n bytes id:Nat) (x:Value) (n' lo hi:Nat) (es2:List D) (r:Option Res) (H:aa) (K:D→aa→Prop):Prop:=match r with
 | some (.row x' el' n'' es)=> x'=x∧el'=el∧n'=n∧n''=n∧lo=0∧(hi+es2.length) *bytes≤140737488355328∧hi+es2.length≤140737488355328∧ ∀v,K (.own id v) (aj H id (some (.row v el n (es.take hi++es2))))
 | _=> False
def qdz (n id:Nat) (x:Value) (src:List D) (r:Option Res) (H:aa) (K:D→aa→Prop):Prop:=match r with
 | some (.row x' el n' es)=> x'=x∧n'=n∧K (.v (.int .i64 (min src.length es.length:Nat))) (aj H id (some (.row x' el n' (src.take es.length++es.drop src.length))))
 | _=> False
def Oj (n id:Nat) (x:Value) (n' lo hi:Nat) (src:List D) (r:Option Res) (H:aa) (K:D→aa→Prop):Prop:=match r with
 | some (.row x' el n'' es)=> x'=x∧n'=n∧n''=n∧K (.v (.int .i64 (min src.length (hi -lo):Nat))) (aj H id (some (.row x' el n'' (es.take lo++src.take (hi -lo) ++es.drop (lo+min src.length (hi -lo))))))
 | _=> False
def Qv (n:Nat) (d:D) (src:List D) (H:aa) (K:D→aa→Prop):Prop:=match d with
 | .own id x=> qdz n id x src (H id) H K
 | .sub id x n' lo hi=> Oj n id x n' lo hi src (H id) H K
 | _=> False
@[simp] theorem qdx (n i n' lo hi:Nat) (x:Value) (src:List D) (H:aa) (K:D→aa→Prop):Qv n (.sub i x n' lo hi) src H K=Oj n i x n' lo hi src (H i) H K:=id rfl
@[simp] theorem qdy (n i:Nat) (x x':Value) (n' lo hi:Nat) (src:List D) (el n'':Nat) (es:List D) (H:aa) (K:D→aa→Prop):Oj n i x n' lo hi src (some (.row x' el n'' es)) H K=(x'=x∧n'=n∧n''=n∧K (.v (.int .i64 (min src.length (hi -lo):Nat))) (aj H i (some (.row x' el n'' (es.take lo++src.take (hi -lo) ++es.drop (lo+min src.length (hi -lo))))))):=id rfl
@[simp] theorem qel (z:List Value):Fx false z=oV (z.headD (.bool false)):=id rfl
def Py (d:D) (K:D→Prop):Prop:=match d with
 | .v (.string s)=> K (.list 1 (s.data.toList.map fun c=> .v (.int .u8 c.toNat)))
 | _=> False
@[simp] theorem Zw (s:ByteArray) (K:D→Prop):Py (.v (.string s)) K=K (.list 1 (s.data.toList.map fun c=> .v (.int .u8 c.toNat))):=id rfl
def Mz (t:Nat) (d:D) (H:aa) (K:D→aa→Prop):Prop:=match d with
 | .v (.string s)=> ∀b,K (.bptr t b 0) (aj H t (some (.iter b s 0)))
 | _=> False
@[simp] theorem Zl (t:Nat) (s:ByteArray) (H:aa) (K:D→aa→Prop):Mz t (.v (.string s)) H K= ∀b,K (.bptr t b 0) (aj H t (some (.iter b s 0))):=id rfl
def MA (id b:Nat) (r:Option Res) (H:aa) (K:D→aa→Prop):Prop:=match r with
 | some (.iter b' s pos)=> b'=b∧(pos < s.size→K (.tup [.v (.bool true), .v (.int .i64 pos), .v (.int .i32 (Utf8.decode s pos).1)]) (aj H id (some (.iter b' s (pos+ (Utf8.decode s pos).2)))))∧(¬pos < s.size→K (.tup [.v (.bool false)]) H)
 | _=> False
@[simp] theorem Zq (id b b':Nat) (s:ByteArray) (pos:Nat) (H:aa) (K:D→aa→Prop):MA id b (some (.iter b' s pos)) H K=(b'=b∧(pos < s.size→K (.tup [.v (.bool true), .v (.int .i64 pos), .v (.int .i32 (Utf8.decode s pos).1)]) (aj H id (some (.iter b' s (pos+ (Utf8.decode s pos).2)))))∧(¬pos < s.size→K (.tup [.v (.bool false)]) H)):=_root_.id rfl
def Pu (d:D) (H:aa) (K:D→aa→Prop):Prop:=match d with
 | .bptr id b off=> off=0∧MA id b (H id) H K
 | _=> False
@[simp] theorem Zp (i b off:Nat) (H:aa) (K:D→aa→Prop):Pu (.bptr i b off) H K=(off=0∧MA i b (H i) H K):=id rfl
def QI (dst:Option Nat) (el n b:Nat) (d:D) (es2:List D) (H:aa) (K:D→aa→Prop):Prop:=match dst,d with
 | some t, .v (.slice none 0 0)=> es2.length*b≤140737488355328∧es2.length≤140737488355328∧ ∀v,K (.own t v) (aj H t (some (.row v el n es2)))
 | _,_=> False
@[simp] theorem qd9 (t el n b:Nat) (es2:List D) (H:aa) (K:D→aa→Prop):QI (some t) el n b (.v (.slice none 0 0)) es2 H K=(es2.length*b≤140737488355328∧es2.length≤140737488355328∧ ∀v,K (.own t v) (aj H t (some (.row v el n es2)))):=id rfl
def OE (el n b r:Nat) (x:Value) (es2:List D) (q:Option Res) (H:aa) (K:D→aa→Prop):Prop:=match q with
 | some (.row x' el' n' es)=> x'=x∧el'=el∧n'=n∧(es.length+es2.length) *b≤140737488355328∧es.length+es2.length≤140737488355328∧ ∀v,K (.own r v) (aj H r (some (.row v el n (es++es2))))
 | _=> False
@[simp] theorem qd3 (el n b r:Nat) (x x':Value) (el' n':Nat) (es es2:List D) (H:aa) (K:D→aa→Prop):OE el n b r x es2 (some (.row x' el' n' es)) H K=(x'=x∧el'=el∧n'=n∧(es.length+es2.length) *b≤140737488355328∧es.length+es2.length≤140737488355328∧ ∀v,K (.own r v) (aj H r (some (.row v el n (es++es2))))):=id rfl
def QH (r el n b:Nat) (d:D) (es2:List D) (H:aa) (K:D→aa→Prop):Prop:=match d with
 | .own id x=> id=r∧OE el n b r x es2 (H r) H K
 | _=> False
@[simp] theorem qd2 (r el n b i:Nat) (x:Value) (es2:List D) (H:aa) (K:D→aa→Prop):QH r el n b (.own i x) es2 H K=(i=r∧OE el n b r x es2 (H r) H K):=id rfl
def F3 (r sz:Nat) (d y:D) (H:aa) (K:D→aa→Prop):Prop:=match d with
 | .bptr id b off=> id=r∧t7 sz r b off y (H r) H K
 | .eptr id x n i off=> id=r∧tZ sz r x n i off y (H r) H K
 | _=> False
@[simp] theorem WL (r sz i b off:Nat) (y:D) (H:aa) (K:D→aa→Prop):F3 r sz (.bptr i b off) y H K=(i=r∧t7 sz r b off y (H r) H K):=id rfl
@[simp] theorem WK (r sz i:Nat) (x:Value) (n k off:Nat) (y:D) (H:aa) (K:D→aa→Prop):F3 r sz (.eptr i x n k off) y H K=(i=r∧tZ sz r x n k off y (H r) H K):=id rfl
def qd8 (dst:Option Nat) (el n bytes:Nat) (es2:List D) (H:aa) (K:D→aa→Prop):Prop:=match dst with
 | some t=> es2.length*bytes≤140737488355328∧es2.length≤140737488355328∧ ∀v,K (.own t v) (aj H t (some (.row v el n es2)))
 | none=> False
def OF (dst:Option Nat) (el n bytes:Nat) (d:D) (es2:List D) (H:aa) (K:D→aa→Prop):Prop:=match d with
 | .own id x=> OH el n bytes id x es2 (H id) H K
 | .v (.slice none 0 0)=> qd8 dst el n bytes es2 H K
 | .sub id x n' lo hi=> qd6 el n bytes id x n' lo hi es2 (H id) H K
 | _=> False
@[simp] theorem qd4 (dst:Option Nat) (el n bytes i:Nat) (x:Value) (es2:List D) (H:aa) (K:D→aa→Prop):OF dst el n bytes (.own i x) es2 H K=OH el n bytes i x es2 (H i) H K:=id rfl
@[simp] theorem qd5 (t:Nat) (el n bytes:Nat) (es2:List D) (H:aa) (K:D→aa→Prop):OF (some t) el n bytes (.v (.slice none 0 0)) es2 H K=(es2.length*bytes≤140737488355328∧es2.length≤140737488355328∧ ∀v,K (.own t v) (aj H t (some (.row v el n es2)))):=id rfl
@[simp] theorem qd7 (el n bytes i:Nat) (x x':Value) (es2:List D) (el' n':Nat) (es:List D) (H:aa) (K:D→aa→Prop):OH el n bytes i x es2 (some (.row x' el' n' es)) H K=(x'=x∧el'=el∧n'=n∧(es.length+es2.length) *bytes≤140737488355328∧es.length+es2.length≤140737488355328∧ ∀v,K (.own i v) (aj H i (some (.row v el n (es++es2))))):=id rfl
def wE (S:Nat→Spc) (f:D) (d:Nat) (args:List D) (H:aa) (K:D→aa→Prop):Prop:=match f with
 | .clo g caps=> (S g).pt d (args++caps) H K
 | _=> False
@[simp] theorem Yx (S:Nat→Spc) (g:Nat) (caps:List D) (d:Nat) (args:List D) (H:aa) (K:D→aa→Prop):wE S (.clo g caps) d args H K=(S g).pt d (args++caps) H K:=id rfl
@[congr] theorem UN {r:Nat} {dst:Option Nat} {s:Spc} {args:List D} {H:aa} {K:D→aa→Prop} {s₁:Spc} {args₁:List D} (hs:s=s₁) (hargs:args=args₁):C7 r dst s args H K=C7 r dst s₁ args₁ H K:=by subst hs;subst hargs;rfl
@[congr] theorem Xl {dst:Option Nat} {s:Spc} {args:List D} {H:aa} {K:D→aa→Prop} {s₁:Spc} {args₁:List D} (hs:s=s₁) (hargs:args=args₁):K5 dst s args H K=K5 dst s₁ args₁ H K:=by subst hs;subst hargs;rfl
section
variable {S:Nat→Spc} {σ:Sg} {H Hr:aa} {K:D→aa→Prop}
@[simp ↓] theorem qdG (dst:Option Nat) (x:Operand):aO S (.mv x) dst σ H K=((fun d=> K d H) (ev σ x)):=id rfl
@[simp ↓] theorem qg5 (dst:Option Nat) (x:Operand):aB S (.mv x) dst σ Hr H K=((fun d=> K d H) (ev σ x)):=id rfl
@[simp ↓] theorem qdF (dst:Option Nat) (c x y:Operand):aO S (.pick c x y) dst σ H K=(yn (ev σ c) ((fun d=> K d H) (ev σ x)) ((fun d=> K d H) (ev σ y))):=id rfl
@[simp ↓] theorem ZI (dst:Option Nat) (c x y:Operand):aB S (.pick c x y) dst σ Hr H K=(yn (ev σ c) ((fun d=> K d H) (ev σ x)) ((fun d=> K d H) (ev σ y))):=id rfl
@[simp ↓] theorem YG (dst:Option Nat) (z:List Value) (ps:List (Nat×Nat×Operand)):aO S (.build z ps) dst σ H K=(iC σ ps (z.map oV) fun cs=> (fun d=> K d H) (.agg cs)):=id rfl
@[simp ↓] theorem Xh (dst:Option Nat) (z:List Value) (ps:List (Nat×Nat×Operand)):aB S (.build z ps) dst σ Hr H K=(iC σ ps (z.map oV) fun cs=> (fun d=> K d H) (.agg cs)):=id rfl
@[simp ↓] theorem VY (dst:Option Nat) (el n:Nat) (ps:List Operand):aO S (.bslice el n ps) dst σ H K=(jl n (ps.map (ev σ))∧(fun d=> K d H) (.list n (ps.map (ev σ)))):=id rfl
@[simp ↓] theorem UL (dst:Option Nat) (el n:Nat) (ps:List Operand):aB S (.bslice el n ps) dst σ Hr H K=(jl n (ps.map (ev σ))∧(fun d=> K d H) (.list n (ps.map (ev σ)))):=id rfl
@[simp ↓] theorem qdI (dst:Option Nat) (agg:Bool) (sz:Nat) (x:Operand):aO S (.load agg sz x) dst σ H K=(yp agg sz (ev σ x) H (fun d=> K d H)):=id rfl
@[simp ↓] theorem ZJ (dst:Option Nat) (agg:Bool) (sz:Nat) (x:Operand):aB S (.load agg sz x) dst σ Hr H K=(yp agg sz (ev σ x) Hr (fun d=> K d H)):=id rfl
@[simp ↓] theorem YB (dst:Option Nat) (x:Operand):aO S (.nilck x) dst σ H K=(Li (ev σ x) (fun d=> K d H)):=id rfl
@[simp ↓] theorem Xd (dst:Option Nat) (x:Operand):aB S (.nilck x) dst σ Hr H K=(Li (ev σ x) (fun d=> K d H)):=id rfl
@[simp ↓] theorem Qz (dst:Option Nat) (op:BinOp) (x y:Operand):aO S (.arith op x y) dst σ H K=(BN op (ev σ x) (ev σ y) (fun d=> K d H)):=id rfl
@[simp ↓] theorem Xi (dst:Option Nat) (op:BinOp) (x y:Operand):aB S (.arith op x y) dst σ Hr H K=(BN op (ev σ x) (ev σ y) (fun d=> K d H)):=id rfl
@[simp ↓] theorem VX (dst:Option Nat) (op:BinOp) (x y:Operand):aO S (.cmp op x y) dst σ H K=(LO op (ev σ x) (ev σ y) (fun d=> K d H)):=id rfl
@[simp ↓] theorem qeG (dst:Option Nat) (op:BinOp) (x y:Operand):aB S (.cmp op x y) dst σ Hr H K=(LO op (ev σ x) (ev σ y) (fun d=> K d H)):=id rfl
@[simp ↓] theorem qgI (dst:Option Nat) (neg agg:Bool) (ks:List HN) (x y:Operand):aO S (.eql neg agg ks x y) dst σ H K=(LI neg (Sn agg ks (ev σ x) (ev σ y)) (fun d=> K d H)):=id rfl
@[simp ↓] theorem qeF (dst:Option Nat) (neg agg:Bool) (ks:List HN) (x y:Operand):aB S (.eql neg agg ks x y) dst σ Hr H K=(LI neg (Sn agg ks (ev σ x) (ev σ y)) (fun d=> K d H)):=id rfl
@[simp ↓] theorem qgD (dst:Option Nat) (x:Operand):aO S (.not x) dst σ H K=(PN (ev σ x) (fun d=> K d H)):=id rfl
@[simp ↓] theorem qdK (dst:Option Nat) (k:IntKind) (x:Operand):aO S (.conv k x) dst σ H K=(Kq k (ev σ x) (fun d=> K d H)):=id rfl
@[simp ↓] theorem qgJ (dst:Option Nat) (f:Nat) (xs:List Operand):aO S (.clo f xs) dst σ H K=((fun d=> K d H) (.clo f (xs.map (ev σ)))):=id rfl
@[simp ↓] theorem YA (dst:Option Nat) (n:Nat) (x:Operand) (lo hi:Option Operand):aO S (.slice n x lo hi) dst σ H K=(z7 n (ev σ x) (lo.map fun o=> ol (ev σ o)) (hi.map fun o=> ol (ev σ o)) H (fun d=> K d H)):=id rfl
@[simp ↓] theorem Xc (dst:Option Nat) (n:Nat) (x:Operand) (lo hi:Option Operand):aB S (.slice n x lo hi) dst σ Hr H K=(z7 n (ev σ x) (lo.map fun o=> ol (ev σ o)) (hi.map fun o=> ol (ev σ o)) Hr (fun d=> K d H)):=id rfl
@[simp ↓] theorem VT (dst:Option Nat) (x:Operand) (lo hi:Option Operand):aO S (.sslice x lo hi) dst σ H K=(zn (ev σ x) (lo.map fun o=> ol (ev σ o)) (hi.map fun o=> ol (ev σ o)) (fun d=> K d H)):=id rfl
@[simp ↓] theorem UJ (dst:Option Nat) (x:Operand) (lo hi:Option Operand):aB S (.sslice x lo hi) dst σ Hr H K=(zn (ev σ x) (lo.map fun o=> ol (ev σ o)) (hi.map fun o=> ol (ev σ o)) (fun d=> K d H)):=id rfl
@[simp ↓] theorem YE (dst:Option Nat) (off:Nat) (x:Operand):aO S (.faddr off x) dst σ H K=(uZ off (ev σ x) (fun d=> K d H)):=id rfl
@[simp ↓] theorem Xf (dst:Option Nat) (off:Nat) (x:Operand):aB S (.faddr off x) dst σ Hr H K=(uZ off (ev σ x) (fun d=> K d H)):=id rfl
@[simp ↓] theorem YD (dst:Option Nat) (n:Nat) (x i:Operand):aO S (.iaddr n x i) dst σ H K=(uX n (ev σ i) (ev σ x) H (fun d=> K d H)):=id rfl
@[simp ↓] theorem Xe (dst:Option Nat) (n:Nat) (x i:Operand):aB S (.iaddr n x i) dst σ Hr H K=(uX n (ev σ i) (ev σ x) Hr (fun d=> K d H)):=id rfl
@[simp ↓] theorem qdD (dst:Option Nat) (x i:Operand):aO S (.sidx x i) dst σ H K=(JK (ev σ i) (ev σ x) (fun d=> K d H)):=id rfl
@[simp ↓] theorem qgH (dst:Option Nat) (x:Operand) (i:Nat):aO S (.ext x i) dst σ H K=(NY (ev σ x) i (fun d=> K d H)):=id rfl
@[simp ↓] theorem qeE (dst:Option Nat) (x:Operand) (i:Nat):aB S (.ext x i) dst σ Hr H K=(NY (ev σ x) i (fun d=> K d H)):=id rfl
@[simp ↓] theorem qgG (dst:Option Nat) (x:Operand):aO S (.len x) dst σ H K=(IQ (ev σ x) H (fun d=> K d H)):=id rfl
@[simp ↓] theorem qeD (dst:Option Nat) (x:Operand):aB S (.len x) dst σ Hr H K=(IQ (ev σ x) Hr (fun d=> K d H)):=id rfl
@[simp ↓] theorem qdC (dst:Option Nat) (x:Operand):aO S (.slen x) dst σ H K=(F7 (ev σ x) (fun d=> K d H)):=id rfl
@[simp ↓] theorem ZH (dst:Option Nat) (x:Operand):aB S (.slen x) dst σ Hr H K=(F7 (ev σ x) (fun d=> K d H)):=id rfl
@[simp ↓] theorem qdM (dst:Option Nat) (x:Operand):aO S (.bstr x) dst σ H K=(QE (ev σ x) H (fun d=> K d H)):=id rfl
@[simp ↓] theorem qdE (dst:Option Nat) (x:Operand):aO S (.rstr x) dst σ H K=(PD (ev σ x) (fun d=> K d H)):=id rfl
@[simp ↓] theorem qgF (dst:Option Nat) (mx:Bool) (x y:Operand):aO S (.mm mx [x,y]) dst σ H K=Ng mx (ev σ x) (ev σ y) (fun d=> K d H):=id rfl
@[simp ↓] theorem qdN (dst:Option Nat) (el:Nat) (x:Operand):aO S (.box el true x) dst σ H K=((ev σ x).kn=true∧K (.cptr (ev σ x).cells 0) H):=id rfl
@[simp ↓] theorem YH (t el:Nat) (z:List Value):aO S (.alloc el z) (some t) σ H K= ∀b,K (.bptr t b 0) (aj H t (some (.box b (z.map oV)))):=id rfl
@[simp ↓] theorem qgK (t el:Nat) (x:Operand):aO S (.box el false x) (some t) σ H K=((ev σ x).kn=true∧ ∀b,K (.bptr t b 0) (aj H t (some (.box b (ev σ x).cells)))):=id rfl
@[simp ↓] theorem VW (t el n:Nat) (ps:List Operand):aO S (.mslice el n ps) (some t) σ H K=(jl n (ps.map (ev σ))∧ ∀x,K (.own t x) (aj H t (some (.row x el n (ps.map (ev σ)))))):=id rfl
@[simp ↓] theorem TS (t el n bytes:Nat) (agg:Bool) (z:List Value) (l c:Operand):aO S (.mkslice el n bytes agg z l c) (some t) σ H K=Z1 t el n bytes agg z (ol (ev σ l)) (ol (ev σ c)) H K:=id rfl
@[simp ↓] theorem qeC (dst:Option Nat) (mx:Bool) (x y:Operand):aB S (.mm mx [x,y]) dst σ Hr H K=Ng mx (ev σ x) (ev σ y) (fun d=> K d H):=id rfl
@[simp ↓] theorem Xj (t el:Nat) (z:List Value):aB S (.alloc el z) (some t) σ Hr H K= ∀b,K (.bptr t b 0) (aj H t (some (.box b (z.map oV)))):=id rfl
@[simp ↓] theorem UK (t el n:Nat):aB S (.nslice el n) (some t) σ Hr H K= ∀x,K (.own t x) (aj H t (some (.row x el n []))):=id rfl
@[simp ↓] theorem Tv (t el n bytes:Nat) (agg:Bool) (z:List Value) (l c:Operand):aB S (.mkslice el n bytes agg z l c) (some t) σ Hr H K=Z1 t el n bytes agg z (ol (ev σ l)) (ol (ev σ c)) H K:=id rfl
@[simp ↓] theorem VV (dst:Option Nat) (x:Operand):aO S (.sbytes x) dst σ H K=Py (ev σ x) (fun d=> K d H):=id rfl
@[simp ↓] theorem VU (t:Nat) (x:Operand):aO S (.srange x) (some t) σ H K=Mz t (ev σ x) H K:=by
 simp only[aO,bQ,Mz]
 split <;> simp_all
@[simp ↓] theorem Yz (dst:Option Nat) (x:Operand):aO S (.snext x) dst σ H K=Pu (ev σ x) H K:=id rfl
@[simp ↓] theorem Xb (dst:Option Nat) (r sz:Nat) (x y:Operand):aB S (.store (some r) sz x y) dst σ Hr H K=((ev σ y).kn=true∧(ev σ y).cells.length=sz∧F3 r sz (ev σ x) (ev σ y) H K):=by
 simp only[aB]
 congr 2
@[simp ↓] theorem Yy (dst:Option Nat) (rt:Option Nat) (sz:Nat) (x y:Operand):aO S (.store rt sz x y) dst σ H K=((ev σ y).kn=true∧(ev σ y).cells.length=sz∧zX sz (ev σ x) (ev σ y) H K):=id rfl
@[simp ↓] theorem VZ (dst:Option Nat) (rt:Option Nat) (el n bytes:Nat) (x y:Operand):aO S (.append rt el n bytes x y) dst σ H K=oo n (ev σ y) H fun es2=> OF dst el n bytes (ev σ x) es2 H K:=id rfl
@[simp ↓] theorem Tx (dst:Option Nat) (el n bytes:Nat) (x y:Operand):aB S (.append none el n bytes x y) dst σ Hr H K=oo n (ev σ y) Hr fun es2=> QI dst el n bytes (ev σ x) es2 H K:=by
 simp only[aB]
 congr 1
@[simp ↓] theorem Tw (dst:Option Nat) (r el n bytes:Nat) (x y:Operand):aB S (.append (some r) el n bytes x y) dst σ Hr H K=oo n (ev σ y) Hr fun es2=> QH r el n bytes (ev σ x) es2 H K:=by
 simp only[aB]
 congr 1
@[simp ↓] theorem qdJ (dst:Option Nat) (n:Nat) (x y:Operand):aO S (.copy n x y) dst σ H K=jT n (ev σ y) H fun src=> Qv n (ev σ x) src H K:=id rfl
@[simp ↓] theorem qdL (dst:Option Nat) (f:Nat) (args:List Operand):aO S (.call f args) dst σ H K=(S f).pt (dst.getD 0) (args.map (ev σ)) H K:=id rfl
@[simp ↓] theorem Xg (dst:Option Nat) (r f:Nat) (args:List Operand):aB S (.callb r f args) dst σ Hr H K=C7 r dst (S f) (args.map (ev σ)) H K:=id rfl
@[simp ↓] theorem YF (dst:Option Nat) (f:Operand) (args:List Operand):aO S (.callv f args) dst σ H K=wE S (ev σ f) (dst.getD 0) (args.map (ev σ)) H K:=id rfl
@[simp ↓] theorem ZK (dst:Option Nat) (f:Nat) (args:List Operand):aB S (.call f args) dst σ Hr H K=K5 dst (S f) (args.map (ev σ)) H K:=id rfl
end
theorem Uo (σ:Sg) (t s:Nat) (d:D):upd σ t d s=if s=t then d else σ s:=id rfl
theorem H4 (σ:Sg) (t:Nat) (d:D):eA σ (some t) d=upd σ t d:=id rfl
theorem Rw (σ:Sg) (d:D):eA σ none d=σ:=id rfl
theorem Ry (H:aa) (t s:Nat) (d:Option Res):aj H t d s=if s=t then d else H s:=id rfl
attribute [simp] H4 Rw Ry
@[simp] theorem Mh (σ:Sg) (t:Nat):ev σ (.tmp t)=σ t:=id rfl
@[simp] theorem Pl (σ:Sg) (x:Value):ev σ (.const x)=oV x:=id rfl
@[simp] theorem Zi (σ:Sg) (f:Nat):ev σ (.func f)= .clo f []:=id rfl
@[simp] theorem Zj (b:Bool):oV (.bool b)= .v (.bool b):=id rfl
@[simp] theorem Uk (k:IntKind) (n:Int):oV (.int k n)= .v (.int k n):=id rfl
@[simp] theorem qen (s:ByteArray):oV (.string s)= .v (.string s):=id rfl
@[simp] theorem qeo (a:Option Addr):oV (.pointer a)= .v (.pointer a):=id rfl
@[simp] theorem WE (a:Option Addr) (l c:Nat):oV (.slice a l c)= .v (.slice a l c):=id rfl
theorem Va (σ:Sg):gY [] σ=fun _=> .any:=id rfl
theorem Sb (t:Nat) (l:List Nat) (σ:Sg):gY (t::l) σ=upd (gY l σ) t (σ t):=id rfl
@[simp] theorem qcY (H:aa):iG [] H=fun _=> none:=id rfl
@[simp] theorem PY (t:Nat) (l:List Nat) (H:aa):iG (t::l) H=aj (iG l H) t (H t):=id rfl
@[simp] theorem ZQ (i:Nat):df i=none:=id rfl
@[simp] theorem Z4 (σ:Sg):nM [] σ=True:=id rfl
@[simp] theorem XB (t:Nat) (d:D) (l:List (Nat×D)) (σ:Sg):nM ((t,d)::l) σ=(Jv (σ t) d∧nM l σ):=id rfl
@[simp] theorem ZZ (H:aa):qT [] H=True:=id rfl
@[simp] theorem Xv (t:Nat) (d:Res) (l:List (Nat×Res)) (H:aa):qT ((t,d)::l) H=((H t=some d∨isNilRow d)∧qT l H):=id rfl
@[simp] theorem sub_self (d:D):Jv d d=True:=by
 cases d <;> simp[Jv]
@[simp] theorem qeu (a:D) (x:Value):Jv a (.v x)=(a= .v x):=id rfl
@[simp] theorem WJ (i:Nat) (x:Value) (y:Value) (j:Nat):Jv (.own i x) (.own j y)=(x=y):=by simp[Jv]
@[simp] theorem Ur (x:Value) (y:Value) (j:Nat):Jv (.v x) (.own j y)=(x=y):=by simp[Jv]
@[simp] theorem qhf (sz:Nat) (cs:List D) (off:Nat):Fw true sz cs off= .agg ((cs.drop off).take sz):=id rfl
@[simp] theorem qhg (sz:Nat) (cs:List D) (off:Nat):Fw false sz cs off=(cs[off]?).getD .any:=id rfl
@[simp ↓] theorem WZ (rs:List au) (K:D→aa→Prop) (σ:Sg) (H:aa):oJ rs K .norm σ H=q9 rs σ H fun ds=> K (gW ds) H:=id rfl
@[simp ↓] theorem ZG (rs:List au) (K:D→aa→Prop) (σ:Sg) (H:aa):oJ rs K .ret σ H=q9 rs σ H fun ds=> K (gW ds) H:=id rfl
@[simp ↓] theorem ZF (σ:Sg) (H:aa) (K:List D→Prop):q9 [] σ H K=K []:=id rfl
@[simp ↓] theorem ZE (t:Nat) (r:List au) (σ:Sg) (H:aa) (K:List D→Prop):q9 (.tmp t::r) σ H K=q9 r σ H fun ds=> K (σ t::ds):=id rfl
@[simp ↓] theorem WY (t:Nat) (agg:Bool) (sz:Nat) (r:List au) (σ:Sg) (H:aa) (K:List D→Prop):q9 (.cell t agg sz::r) σ H K=yp agg sz (σ t) H fun d=> q9 r σ H fun ds=> K (d::ds):=id rfl
@[simp] theorem qg8 (d:D):gW [d]=d:=id rfl
@[simp] theorem qg9:gW []= .tup []:=id rfl
@[simp] theorem qg7 (d e:D) (l:List D):gW (d::e::l)= .tup (d::e::l):=id rfl
@[simp] theorem qhr (x:Value):D.kn (.v x)=true:=id rfl
@[simp] theorem Yv (x:Value):D.cells (.v x)= [.v x]:=id rfl
@[simp] theorem qcX (cs:List D):D.kn (.agg cs)=true:=id rfl
@[simp] theorem TR (cs:List D):D.cells (.agg cs)=cs:=id rfl
@[simp] theorem XK (n:Nat) (es:List D):D.kn (.list n es)=true:=id rfl
@[simp] theorem SI (n:Nat) (es:List D):D.cells (.list n es)= [.list n es]:=id rfl
@[simp] theorem qcV (i:Nat) (x:Value):D.kn (.own i x)=true:=id rfl
@[simp] theorem TP (i:Nat) (x:Value):D.cells (.own i x)= [.own i x]:=id rfl
@[simp] theorem qcU (i:Nat) (v:Value) (n k o:Nat):D.kn (.sub i v n k o)=true:=id rfl
@[simp] theorem TO (i:Nat) (v:Value) (n k o:Nat):D.cells (.sub i v n k o)= [.sub i v n k o]:=id rfl
@[simp] theorem qcW (f:Nat) (cs:List D):D.kn (.clo f cs)=true:=id rfl
@[simp] theorem TQ (f:Nat) (cs:List D):D.cells (.clo f cs)= [.clo f cs]:=id rfl
@[simp] theorem qgQ (k:IntKind) (n:Int):ol (.v (.int k n))=some (k,n):=id rfl
attribute [simp] setAt
@[simp] theorem qdm (n:Int):enc n= .v (.int .i64 n):=rfl
@[simp] theorem Yg (b:Bool):enc b= .v (.bool b):=rfl
@[simp] theorem qdl (s:ByteArray):enc s= .v (.string s):=rfl
@[simp] theorem Yf {X:Type} [Cod X] (l:List X):enc l= .list (Cod.wd X) (l.map enc):=rfl
@[simp] theorem Ze:Cod.wd Int=1:=rfl
@[simp] theorem Wy:Cod.wd Bool=1:=rfl
@[simp] theorem Zd:Cod.wd ByteArray=1:=rfl
@[simp] theorem Wx {X:Type} [Cod X]:Cod.wd (List X)=1:=rfl
@[congr] theorem XU {d:D} {A:Prop} {B:Prop} {d₁:D} (hd:d=d₁):GM d A B=GM d₁ A B:=by subst hd;rfl
@[congr] theorem TK {s:Nat} {b:Bool} {σ:Sg} {d:D} {yes:Sg→Prop} {no:Sg→Prop} {d₁:D} (hd:d=d₁):ki s b σ d yes no=ki s b σ d₁ yes no:=by subst hd;rfl
@[congr] theorem UP {d:D} {A:Prop} {B:Prop} {d₁:D} (hd:d=d₁):yn d A B=yn d₁ A B:=by subst hd;rfl
@[congr] theorem U7 {agg:Bool} {sz:Nat} {b:Nat} {off:Nat} {r:Option Res} {K:D→Prop} {r₁:Option Res} (hr:r=r₁):GD agg sz b off r K=GD agg sz b off r₁ K:=by subst hr;rfl
@[congr] theorem U6 {agg:Bool} {sz:Nat} {x:Value} {n:Nat} {i:Nat} {off:Nat} {r:Option Res} {K:D→Prop} {r₁:Option Res} (hr:r=r₁):GB agg sz x n i off r K=GB agg sz x n i off r₁ K:=by subst hr;rfl
@[congr] theorem U5 {agg:Bool} {sz:Nat} {d:D} {H:aa} {K:D→Prop} {d₁:D} (hd:d=d₁):yp agg sz d H K=yp agg sz d₁ H K:=by subst hd;rfl
@[congr] theorem Xr {d:D} {K:D→Prop} {d₁:D} (hd:d=d₁):Li d K=Li d₁ K:=by subst hd;rfl
@[congr] theorem Ua {op:BinOp} {d:D} {e:D} {K:D→Prop} {d₁:D} {e₁:D} (hd:d=d₁) (he:e=e₁):BN op d e K=BN op d₁ e₁ K:=by subst hd;subst he;rfl
@[congr] theorem WX {d:D} {K:D→Prop} {d₁:D} (hd:d=d₁):PD d K=PD d₁ K:=by subst hd;rfl
@[congr] theorem Ys {o:Option Bool} {K:D→Prop} {o₁:Option Bool} (ho:o=o₁):Jj o K=Jj o₁ K:=by subst ho;rfl
@[congr] theorem Yr {op:BinOp} {d:D} {e:D} {K:D→Prop} {d₁:D} {e₁:D} (hd:d=d₁) (he:e=e₁):LO op d e K=LO op d₁ e₁ K:=by subst hd;subst he;rfl
@[congr] theorem X9 {neg:Bool} {o:Option Bool} {K:D→Prop} {o₁:Option Bool} (ho:o=o₁):LI neg o K=LI neg o₁ K:=by subst ho;rfl
@[congr] theorem Xp {d:D} {K:D→Prop} {d₁:D} (hd:d=d₁):PN d K=PN d₁ K:=by subst hd;rfl
@[congr] theorem VK {k:IntKind} {d:D} {K:D→Prop} {d₁:D} (hd:d=d₁):Kq k d K=Kq k d₁ K:=by subst hd;rfl
@[congr] theorem TM {off:Nat} {d:D} {K:D→Prop} {d₁:D} (hd:d=d₁):uZ off d K=uZ off d₁ K:=by subst hd;rfl
@[congr] theorem TJ {n:Nat} {k:Int} {id:Nat} {x:Value} {r:Option Res} {K:D→Prop} {r₁:Option Res} (hr:r=r₁):Bj n k id x r K=Bj n k id x r₁ K:=by subst hr;rfl
@[congr] theorem TI {n:Nat} {i:D} {d:D} {H:aa} {K:D→Prop} {i₁:D} {d₁:D} (hi:i=i₁) (hd:d=d₁):uX n i d H K=uX n i₁ d₁ H K:=by subst hi;subst hd;rfl
@[congr] theorem UE {i:D} {d:D} {K:D→Prop} {i₁:D} {d₁:D} (hi:i=i₁) (hd:d=d₁):JK i d K=JK i₁ d₁ K:=by subst hi;subst hd;rfl
@[congr] theorem X3 {o:Option D} {K:D→Prop} {o₁:Option D} (ho:o=o₁):NZ o K=NZ o₁ K:=by subst ho;rfl
@[congr] theorem X2 {d:D} {i:Nat} {K:D→Prop} {d₁:D} (hd:d=d₁):NY d i K=NY d₁ i K:=by subst hd;rfl
@[congr] theorem XJ {x:Value} {r:Option Res} {K:D→Prop} {r₁:Option Res} (hr:r=r₁):Nr x r K=Nr x r₁ K:=by subst hr;rfl
@[congr] theorem XI {d:D} {H:aa} {K:D→Prop} {d₁:D} (hd:d=d₁):IQ d H K=IQ d₁ H K:=by subst hd;rfl
@[congr] theorem YM {x:Value} {r:Option Res} {K:D→Prop} {r₁:Option Res} (hr:r=r₁):Ow x r K=Ow x r₁ K:=by subst hr;rfl
@[congr] theorem YL {d:D} {H:aa} {K:D→Prop} {d₁:D} (hd:d=d₁):QE d H K=QE d₁ H K:=by subst hd;rfl
@[congr] theorem UD {d:D} {K:D→Prop} {d₁:D} (hd:d=d₁):F7 d K=F7 d₁ K:=by subst hd;rfl
@[congr] theorem Xw {mx:Bool} {d:D} {e:D} {K:D→Prop} {d₁:D} {e₁:D} (hd:d=d₁) (he:e=e₁):Ng mx d e K=Ng mx d₁ e₁ K:=by subst hd;subst he;rfl
@[congr] theorem WN {n:Nat} {lo:Nat} {hi:Nat} {x:Value} {r:Option Res} {K:List D→Prop} {r₁:Option Res} (hr:r=r₁):KV n lo hi x r K=KV n lo hi x r₁ K:=by subst hr;rfl
@[congr] theorem Ts {sz:Nat} {id:Nat} {b:Nat} {off:Nat} {y:D} {r:Option Res} {H:aa} {K:D→aa→Prop} {y₁:D} {r₁:Option Res} (hy:y=y₁) (hr:r=r₁):t7 sz id b off y r H K=t7 sz id b off y₁ r₁ H K:=by subst hy;subst hr;rfl
@[congr] theorem Tq {sz:Nat} {id:Nat} {x:Value} {n:Nat} {i:Nat} {off:Nat} {y:D} {r:Option Res} {H:aa} {K:D→aa→Prop} {y₁:D} {r₁:Option Res} (hy:y=y₁) (hr:r=r₁):tZ sz id x n i off y r H K=tZ sz id x n i off y₁ r₁ H K:=by subst hy;subst hr;rfl
@[congr] theorem Tp {sz:Nat} {d:D} {y:D} {H:aa} {K:D→aa→Prop} {d₁:D} {y₁:D} (hd:d=d₁) (hy:y=y₁):zX sz d y H K=zX sz d₁ y₁ H K:=by subst hd;subst hy;rfl
@[congr] theorem YU {el:Nat} {n:Nat} {bytes:Nat} {id:Nat} {x:Value} {es2:List D} {r:Option Res} {H:aa} {K:D→aa→Prop} {es2₁:List D} {r₁:Option Res} (hes2:es2=es2₁) (hr:r=r₁):OH el n bytes id x es2 r H K=OH el n bytes id x es2₁ r₁ H K:=by subst hes2;subst hr;rfl
@[congr] theorem Yp {n:Nat} {id:Nat} {x:Value} {n':Nat} {lo:Nat} {hi:Nat} {src:List D} {r:Option Res} {H:aa} {K:D→aa→Prop} {src₁:List D} {r₁:Option Res} (hsrc:src=src₁) (hr:r=r₁):Oj n id x n' lo hi src r H K=Oj n id x n' lo hi src₁ r₁ H K:=by subst hsrc;subst hr;rfl
@[congr] theorem Yo {n:Nat} {d:D} {src:List D} {H:aa} {K:D→aa→Prop} {d₁:D} {src₁:List D} (hd:d=d₁) (hsrc:src=src₁):Qv n d src H K=Qv n d₁ src₁ H K:=by subst hd;subst hsrc;rfl
@[congr] theorem WV {d:D} {K:D→Prop} {d₁:D} (hd:d=d₁):Py d K=Py d₁ K:=by subst hd;rfl
@[congr] theorem WM {t:Nat} {d:D} {H:aa} {K:D→aa→Prop} {d₁:D} (hd:d=d₁):Mz t d H K=Mz t d₁ H K:=by subst hd;rfl
@[congr] theorem WR {id:Nat} {b:Nat} {r:Option Res} {H:aa} {K:D→aa→Prop} {r₁:Option Res} (hr:r=r₁):MA id b r H K=MA id b r₁ H K:=by subst hr;rfl
@[congr] theorem WQ {d:D} {H:aa} {K:D→aa→Prop} {d₁:D} (hd:d=d₁):Pu d H K=Pu d₁ H K:=by subst hd;rfl
@[congr] theorem YV {dst:Option Nat} {el:Nat} {n:Nat} {b:Nat} {d:D} {es2:List D} {H:aa} {K:D→aa→Prop} {dst₁:Option Nat} {d₁:D} {es2₁:List D} (hdst:dst=dst₁) (hd:d=d₁) (hes2:es2=es2₁):QI dst el n b d es2 H K=QI dst₁ el n b d₁ es2₁ H K:=by subst hdst;subst hd;subst hes2;rfl
@[congr] theorem YS {el:Nat} {n:Nat} {b:Nat} {r:Nat} {x:Value} {es2:List D} {q:Option Res} {H:aa} {K:D→aa→Prop} {es2₁:List D} {q₁:Option Res} (hes2:es2=es2₁) (hq:q=q₁):OE el n b r x es2 q H K=OE el n b r x es2₁ q₁ H K:=by subst hes2;subst hq;rfl
@[congr] theorem YR {r:Nat} {el:Nat} {n:Nat} {b:Nat} {d:D} {es2:List D} {H:aa} {K:D→aa→Prop} {d₁:D} {es2₁:List D} (hd:d=d₁) (hes2:es2=es2₁):QH r el n b d es2 H K=QH r el n b d₁ es2₁ H K:=by subst hd;subst hes2;rfl
@[congr] theorem Ux {r:Nat} {sz:Nat} {d:D} {y:D} {H:aa} {K:D→aa→Prop} {d₁:D} {y₁:D} (hd:d=d₁) (hy:y=y₁):F3 r sz d y H K=F3 r sz d₁ y₁ H K:=by subst hd;subst hy;rfl
@[congr] theorem YT {dst:Option Nat} {el:Nat} {n:Nat} {bytes:Nat} {d:D} {es2:List D} {H:aa} {K:D→aa→Prop} {dst₁:Option Nat} {d₁:D} {es2₁:List D} (hdst:dst=dst₁) (hd:d=d₁) (hes2:es2=es2₁):OF dst el n bytes d es2 H K=OF dst₁ el n bytes d₁ es2₁ H K:=by subst hdst;subst hd;subst hes2;rfl
@[congr] theorem VS {S:Nat→Spc} {f:D} {d:Nat} {args:List D} {H:aa} {K:D→aa→Prop} {f₁:D} {args₁:List D} (hf:f=f₁) (hargs:args=args₁):wE S f d args H K=wE S f₁ d args₁ H K:=by subst hf;subst hargs;rfl
@[congr] theorem Uz {n:Nat} {d d':D} {H:aa} {K:List D→Prop} (h:d=d'):jT n d H K=jT n d' H K:=by subst h;rfl
@[congr] theorem WO {n:Nat} {d d':D} {H:aa} {K:List D→Prop} (h:d=d'):oo n d H K=oo n d' H K:=by subst h;rfl
@[congr] theorem Ub {s s':Spc} {d:Nat} {ds ds':List D} {H:aa} {K:D→aa→Prop} (h:s=s') (h':ds=ds'):s.pt d ds H K=s'.pt d ds' H K:=by subst h;subst h';rfl
@[congr] theorem VI {lo hi lo' hi':Option (Option (IntKind×Int))} {n n':Nat} {K:Nat→Nat→Prop} (h1:lo=lo') (h2:hi=hi') (h3:n=n'):n9 lo hi n K=n9 lo' hi' n' K:=by subst h1;subst h2;subst h3;rfl
end Go.Gv
