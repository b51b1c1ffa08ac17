/- A part of the framework and of the walks: T10. -/
import Derived.Test.YtaiffcbkmgfklaaGreatDoorGt14
set_option linter.unusedSimpArgs false
set_option linter.unusedVariables false

namespace Go.Gv
open Cod (enc dec)
section
variable {S:Nat→Spc} {K:Ex→Sg→aa→Prop} {σ:Sg} {H:aa}
def LY (S:Nat→Spc) (b:CC) (K:Ex→Sg→aa→Prop):Ex→Sg→aa→Prop:=fun e σ H=> match e with
 | .norm=> vc S b K σ H
 | e=> K e σ H
def PZ (id:Nat) (K:Ex→Sg→aa→Prop):Ex→Sg→aa→Prop:=fun e σ H=> match e with
 | .ex i=> if i=id then K .norm σ H else K (.ex i) σ H
 | e=> K e σ H
def Pf (inv:XT) (x:inv.X) (K:Ex→Sg→aa→Prop):Ex→Sg→aa→Prop:=fun e σ' H'=> match e with
 | .norm=> ∃y,inv.P y∧Wk σ' H' (inv.s y) (inv.h y)∧inv.m y < inv.m x
 | e=> K e σ' H'
def Kn (d:D) (A B:Prop):Prop:=match d with
 | .v (.bool t)=> (t=true→A)∧(t=false→B)
 | _=> False
@[simp ↓] theorem Xh:vc S .skip K σ H=K .norm σ H:=id rfl
@[simp ↓] theorem VH (l:List CI):vc S (.reg l) K σ H=vv S l σ H (K .norm):=id rfl
@[simp ↓] theorem qeV (p l:List CI):vc S (.regd p l) K σ H=kG S p σ (bU p H) H fun σ H=> vv S l σ H (K .norm):=id rfl
@[simp ↓] theorem KQ (a b:CC):vc S (.seq a b) K σ H=vc S a (LY S b K) σ H:=id rfl
@[simp ↓] theorem EI (b:CC):LY S b K .norm σ H=vc S b K σ H:=id rfl
@[simp ↓] theorem Su (b:CC) (i:Nat):LY S b K (.ex i) σ H=K (.ex i) σ H:=id rfl
@[simp ↓] theorem Xi (b:CC):LY S b K .ret σ H=K .ret σ H:=id rfl
@[simp ↓] theorem ZE (c:Operand) (a b:CC):vc S (.ite c a b) K σ H=Kn (ev σ c) (vc S a K σ H) (vc S b K σ H):=id rfl
@[simp] theorem Xl (t:Bool) (A B:Prop):Kn (.v (.bool t)) A B=((t=true→A)∧(t=false→B)):=id rfl
@[simp high] theorem qeX (A B:Prop):Kn (.v (.bool true)) A B=A:=by simp[Kn]
@[simp high] theorem qeY (A B:Prop):Kn (.v (.bool false)) A B=B:=by simp[Kn]
@[simp ↓] theorem IW (id:Nat) (b:CC):vc S (.block id b) K σ H=vc S b (PZ id K) σ H:=_root_.id rfl
@[simp ↓] theorem Xo (id:Nat):PZ id K .norm σ H=K .norm σ H:=_root_.id rfl
@[simp ↓] theorem Sx (id:Nat):PZ id K .ret σ H=K .ret σ H:=_root_.id rfl
@[simp ↓] theorem MM (id i:Nat):PZ id K (.ex i) σ H=if i=id then K .norm σ H else K (.ex i) σ H:=_root_.id rfl
@[simp ↓] theorem Xn (i:Nat):vc S (.exit i) K σ H=K (.ex i) σ H:=id rfl
@[simp ↓] theorem qhR:vc S .ret K σ H=K .ret σ H:=id rfl
@[simp ↓] theorem qeW (ls lh:List Nat) (c:CC):vc S (.keep ls lh c) K σ H=vc S c K (jl ls σ) (jm lh H):=id rfl
theorem IV (k:Nat) (b:CC):vc S (.loop k b) K σ H= ∃inv:XT,(∃x,inv.P x∧Wk σ H (inv.s x) (inv.h x))∧ ∀x,inv.P x→vc S b (Pf inv x K) (inv.s x) (inv.h x):=id rfl
theorem NS (k:Nat) (c:CC):vc S (.cut k c) K σ H= ∃ (σ':Sg) (H':aa),Wk σ H σ' H'∧vc S c K σ' H':=id rfl
@[simp ↓] theorem Xk (inv:XT) (x:inv.X):Pf inv x K .norm σ H= ∃y,inv.P y∧Wk σ H (inv.s y) (inv.h y)∧inv.m y < inv.m x:=id rfl
@[simp ↓] theorem Xj (inv:XT) (x:inv.X):Pf inv x K .ret σ H=K .ret σ H:=id rfl
@[simp ↓] theorem Sw (inv:XT) (x:inv.X) (i:Nat):Pf inv x K (.ex i) σ H=K (.ex i) σ H:=id rfl
end
def lf (s:Nat) (b:Bool) (σ:Sg) (d:D) (yes no:Sg→Prop):Prop:=match d with
 | .v (.bool t)=> (t=b→yes (kI σ s (.v (.bool b))))∧(t=(!b)→no (kI σ s (.v (.bool (!b)))))
 | .undef=> no σ
 | _=> False
@[simp high] theorem qiz (s:Nat) (σ:Sg) (yes no:Sg→Prop):lf s true σ (.v (.bool true)) yes no=yes (kI σ s (.v (.bool true))):=by simp[lf]
@[simp high] theorem qiA (s:Nat) (σ:Sg) (yes no:Sg→Prop):lf s true σ (.v (.bool false)) yes no=no (kI σ s (.v (.bool false))):=by simp[lf]
@[simp high] theorem qiB (s:Nat) (σ:Sg) (yes no:Sg→Prop):lf s false σ (.v (.bool true)) yes no=no (kI σ s (.v (.bool true))):=by simp[lf]
@[simp high] theorem qiC (s:Nat) (σ:Sg) (yes no:Sg→Prop):lf s false σ (.v (.bool false)) yes no=yes (kI σ s (.v (.bool false))):=by simp[lf]
@[simp] theorem qiy (s:Nat) (b:Bool) (σ:Sg) (yes no:Sg→Prop):lf s b σ .undef yes no=no σ:=id rfl
@[simp] theorem qiJ (s:Nat) (b t:Bool) (σ:Sg) (yes no:Sg→Prop):lf s b σ (.v (.bool t)) yes no=((t=b→yes (kI σ s (.v (.bool b))))∧(t=(!b)→no (kI σ s (.v (.bool (!b)))))):=id rfl
section
variable {S:Nat→Spc} {σ:Sg} {H Hr:aa}
@[simp ↓] theorem VB (K:Sg→aa→Prop):vv S [] σ H K=K σ H:=id rfl
@[simp ↓] theorem WU (K:Sg→aa→Prop) (d:Option Nat) (c:COp) (r:List CI):vv S (.op d none c::r) σ H K=bm S c d σ H fun x H'=> vv S r (fD σ d x) H' K:=id rfl
@[simp ↓] theorem qf8 (K:Sg→aa→Prop) (d:Option Nat) (s:Nat) (b:Bool) (c:COp) (r:List CI):vv S (.op d (some (s,b)) c::r) σ H K=lf s b σ (σ s) (fun σ=> bm S c d σ H fun x H'=> vv S r (fD σ d x) H' K) (fun σ=> vv S r (fD σ d .undef) H K):=id rfl
@[simp ↓] theorem qf9 (K:Sg→aa→Prop) (t n:Nat) (r:List CI):vv S (.frz t n::r) σ H K=AU t n σ H fun σ' H'=> vv S r σ' H' K:=id rfl
@[simp ↓] theorem qf2 (K:Sg→aa→Prop):kG S [] σ Hr H K=K σ H:=id rfl
@[simp ↓] theorem qf3 (K:Sg→aa→Prop) (a b:Nat) (r:List CI):kG S (.frz a b::r) σ Hr H K=kG S r σ (bU r Hr) H K:=id rfl
@[simp ↓] theorem qic (K:Sg→aa→Prop) (d:Option Nat) (c:COp) (r:List CI):kG S (.op d none c::r) σ Hr H K=bb S c d σ Hr H fun x H'=> kG S r (fD σ d x) Hr H' K:=id rfl
@[simp ↓] theorem qf1 (K:Sg→aa→Prop) (d:Option Nat) (s:Nat) (b:Bool) (c:COp) (r:List CI):kG S (.op d (some (s,b)) c::r) σ Hr H K=lf s b σ (σ s) (fun σ=> bb S c d σ Hr H fun x H'=> kG S r (fD σ d x) Hr H' K) (fun σ=> kG S r (fD σ d .undef) Hr H K):=id rfl
end
def AN (d:D) (A B:Prop):Prop:=match d with
 | .v (.bool t)=> (t=true→A)∧(t=false→B)
 | _=> False
@[simp high] theorem qaO (A B:Prop):AN (.v (.bool true)) A B=A:=by simp[AN]
@[simp high] theorem qaP (A B:Prop):AN (.v (.bool false)) A B=B:=by simp[AN]
def Kf (agg:Bool) (sz b off:Nat) (r:Option Res) (K:D→Prop):Prop:=match r with
 | some (.box b' cells)=> b'=b∧off+sz≤cells.length∧K (Iv agg sz cells off)
 | _=> False
def Ke (agg:Bool) (sz:Nat) (x:Value) (n i off:Nat) (r:Option Res) (K:D→Prop):Prop:=match r with
 | some (.row x' _ n' es)=> x'=x∧n'=n∧off+sz≤n∧i < es.length∧ ∀d,es[i]?=some d→K (Iv agg sz d.cells off)
 | _=> False
def AO (agg:Bool) (sz:Nat) (d:D) (H:aa) (K:D→Prop):Prop:=match d with
 | .cptr cs off=> off+sz≤cs.length∧K (Iv agg sz cs off)
 | .bptr id b off=> Kf agg sz b off (H id) K
 | .eptr id x n i off=> Ke agg sz x n i off (H id) K
 | _=> False
@[simp] theorem qa8 (agg:Bool) (sz:Nat) (cs:List D) (off:Nat) (H:aa) (K:D→Prop):AO agg sz (.cptr cs off) H K=(off+sz≤cs.length∧K (Iv agg sz cs off)):=id rfl
@[simp] theorem qa9 (agg:Bool) (sz:Nat) (i b off:Nat) (H:aa) (K:D→Prop):AO agg sz (.bptr i b off) H K=Kf agg sz b off (H i) K:=id rfl
@[simp] theorem qa7 (agg:Bool) (sz:Nat) (i:Nat) (x:Value) (n k off:Nat) (H:aa) (K:D→Prop):AO agg sz (.eptr i x n k off) H K=Ke agg sz x n k off (H i) K:=id rfl
@[simp] theorem qbb (agg:Bool) (sz b off b':Nat) (cells:List D) (K:D→Prop):Kf agg sz b off (some (.box b' cells)) K=(b'=b∧off+sz≤cells.length∧K (Iv agg sz cells off)):=id rfl
@[simp] theorem qba (agg:Bool) (sz:Nat) (x:Value) (n i off:Nat) (x':Value) (el n':Nat) (es:List D) (K:D→Prop):Ke agg sz x n i off (some (.row x' el n' es)) K=(x'=x∧n'=n∧off+sz≤n∧i < es.length∧ ∀d,es[i]?=some d→K (Iv agg sz d.cells off)):=id rfl
def Pd (d:D) (K:D→Prop):Prop:=match d with
 | .cptr cs off=> K (.cptr cs off)
 | .bptr id b off=> K (.bptr id b off)
 | .eptr id x n i off=> K (.eptr id x n i off)
 | .tape L=> K (.tape L)
 | .clo f caps=> K (.clo f caps)
 | _=> False
@[simp] theorem qcK (cs:List D) (off:Nat) (K:D→Prop):Pd (.cptr cs off) K=K (.cptr cs off):=id rfl
@[simp] theorem qcL (i b off:Nat) (K:D→Prop):Pd (.bptr i b off) K=K (.bptr i b off):=id rfl
def E7 (op:BinOp) (d e:D) (K:D→Prop):Prop:=match d,e with
 | .v (.int k a), .v (.int k' b)=> k=k'∧lD op k a b K
 | _,_=> False
@[simp] theorem Tb (op:BinOp) (k k':IntKind) (a b:Int) (K:D→Prop):E7 op (.v (.int k a)) (.v (.int k' b)) K=(k=k'∧lD op k a b K):=id rfl
@[simp ↓] theorem P2 (k:IntKind) (a b:Int) (K:D→Prop):lD .add k a b K=(InR k (a+b)∧K (.v (.int k (a+b)))):=id rfl
@[simp ↓] theorem Ym (k:IntKind) (a b:Int) (K:D→Prop):lD .sub k a b K=(InR k (a -b)∧K (.v (.int k (a -b)))):=id rfl
@[simp ↓] theorem Yp (k:IntKind) (a b:Int) (K:D→Prop):lD .mul k a b K=(InR k (a*b)∧K (.v (.int k (a*b)))):=id rfl
@[simp ↓] theorem Yo (k:IntKind) (a b:Int) (K:D→Prop):lD .quo k a b K=(b≠0∧InR k (a.tdiv b)∧K (.v (.int k (a.tdiv b)))):=id rfl
@[simp ↓] theorem Yn (k:IntKind) (a b:Int) (K:D→Prop):lD .rem k a b K=(b≠0∧K (.v (.int k (a.tmod b)))):=id rfl
def PQ (o:Option Bool) (K:D→Prop):Prop:=match o with | some t=> K (.v (.bool t)) | none=> False
@[simp] theorem XD (t:Bool) (K:D→Prop):PQ (some t) K=K (.v (.bool t)):=id rfl
def U6 (op:BinOp) (d e:D) (K:D→Prop):Prop:=match d,e with
 | .v (.int k a), .v (.int k' b)=> k=k'∧PQ (K4 op a b) K
 | .v (.string a), .v (.string b)=> PQ (XC op a b) K
 | _,_=> False
@[simp] theorem XB (op:BinOp) (k k':IntKind) (a b:Int) (K:D→Prop):U6 op (.v (.int k a)) (.v (.int k' b)) K=(k=k'∧PQ (K4 op a b) K):=id rfl
@[simp] theorem SJ (a b:Int):K4 .lss a b=some (decide (a < b)):=id rfl
@[simp] theorem ZN (a b:Int):K4 .leq a b=some (decide (a≤b)):=id rfl
@[simp] theorem ZO (a b:Int):K4 .gtr a b=some (decide (b < a)):=id rfl
@[simp] theorem ZP (a b:Int):K4 .geq a b=some (decide (b≤a)):=id rfl
def PG (neg:Bool) (o:Option Bool) (K:D→Prop):Prop:=match o with
 | some p=> K (.v (.bool (if neg then !p else p)))
 | none=> False
@[simp] theorem qeQ (p:Bool) (K:D→Prop):PG false (some p) K=K (.v (.bool p)):=id rfl
@[simp] theorem qeP (p:Bool) (K:D→Prop):PG true (some p) K=K (.v (.bool (!p))):=id rfl
@[simp] theorem qhN (k:Lu) (a b:D):Xf false [k] a b=Qb k a b:=id rfl
@[simp] theorem qhM (ks:List Lu) (a b:List D):Xf true ks (.agg a) (.agg b)=U0 ks a b:=id rfl
@[simp] theorem qhL:U0 [] [] []=some true:=id rfl
@[simp] theorem qhK (k:Lu) (ks:List Lu) (a b:D) (as bs:List D):U0 (k::ks) (a::as) (b::bs)=(Qb k a b).bind fun p=> (U0 ks as bs).bind fun q=> some (p && q):=id rfl
@[simp] theorem qhP (k k':IntKind) (a b:Int):Qb .int (.v (.int k a)) (.v (.int k' b))=if k=k' then some (decide (a=b)) else none:=id rfl
@[simp] theorem qhO (a b:ByteArray):Qb .str (.v (.string a)) (.v (.string b))=some (decide (a=b)):=id rfl
@[simp] theorem qhQ (a b:Bool):Qb .bool (.v (.bool a)) (.v (.bool b))=some (decide (a=b)):=id rfl
def JN (d e:D) (K:D→Prop):Prop:=match d,e with
 | .v (.string a), .v (.string b)=> a.size+b.size≤1000000000∧K (.v (.string (a++b)))
 | _,_=> False
@[simp] theorem qay (a b:ByteArray) (K:D→Prop):JN (.v (.string a)) (.v (.string b)) K=(a.size+b.size≤1000000000∧K (.v (.string (a++b)))):=id rfl
def UH (d:D) (K:D→Prop):Prop:=match d with
 | .v (.bool b)=> K (.v (.bool (!b)))
 | _=> False
@[simp] theorem qcI (b:Bool) (K:D→Prop):UH (.v (.bool b)) K=K (.v (.bool (!b))):=id rfl
def UI (d:D) (K:D→Prop):Prop:=match d with
 | .v (.int k n)=> InR k (0 -n)∧K (.v (.int k (0 -n)))
 | _=> False
@[simp] theorem qcM (k:IntKind) (n:Int) (K:D→Prop):UI (.v (.int k n)) K=(InR k (0 -n)∧K (.v (.int k (0 -n)))):=id rfl
def N0 (k:IntKind) (d:D) (K:D→Prop):Prop:=match d with
 | .v (.int _ n)=> K (.v (.int k (k.wrap n)))
 | _=> False
@[simp] theorem qbJ (k k':IntKind) (n:Int) (K:D→Prop):N0 k (.v (.int k' n)) K=K (.v (.int k (k.wrap n))):=id rfl
def Wu (n id:Nat) (x:Value) (lo hi:Option (Option (IntKind×Int))) (r:Option Res) (K:D→Prop):Prop:=match r with
 | some (.row x' _ n' es)=> x'=x∧n'=n∧wj lo hi es.length fun l h=> K (.sub id x n l h)
 | _=> False
def QV (n:Nat) (d:D) (lo hi:Option (Option (IntKind×Int))) (H:aa) (K:D→Prop):Prop:=match d with
 | .list n' es=> n'=n∧(match lo,hi with
   | none,none=> K (.list n es)
   | some (some (_,l)),none=> 0≤l∧l≤es.length∧K (.list n (es.drop l.toNat))
   | none,some (some (_,h))=> 0≤h∧h≤es.length∧K (.list n (es.take h.toNat))
   | some (some (_,l)),some (some (_,h))=> 0≤l∧l≤h∧h≤es.length∧K (.list n ((es.take h.toNat).drop l.toNat))
   | _,_=> False)
 | .own id x=> Wu n id x lo hi (H id) K
 | .sub id x n' a b=> n'=n∧wj lo hi (b -a) fun l h=> K (.sub id x n (a+l) (a+h))
 | .v (.slice none 0 0)=> wj lo hi 0 fun _ _=> K (.v (.slice none 0 0))
 | _=> False
@[simp] theorem X7 (n n':Nat) (es:List D) (k:IntKind) (l:Int) (H:aa) (K:D→Prop):QV n (.list n' es) none (some (some (k,l))) H K=(n'=n∧0≤l∧l≤es.length∧K (.list n (es.take l.toNat))):=id rfl
def BP (d:D) (lo hi:Option (Option (IntKind×Int))) (K:D→Prop):Prop:=match d with
 | .v (.string s)=> (match lo,hi with
   | none,none=> K (.v (.string (s.extract 0 s.size)))
   | some (some (_,l)),none=> 0≤l∧l≤s.size∧K (.v (.string (s.extract l.toNat s.size)))
   | none,some (some (_,h))=> 0≤h∧h≤s.size∧K (.v (.string (s.extract 0 h.toNat)))
   | some (some (_,l)),some (some (_,h))=> 0≤l∧l≤h∧h≤s.size∧K (.v (.string (s.extract l.toNat h.toNat)))
   | _,_=> False)
 | _=> False
@[simp] theorem Wr (s:ByteArray) (k:IntKind) (l:Int) (K:D→Prop):BP (.v (.string s)) (some (some (k,l))) none K=(0≤l∧l≤s.size∧K (.v (.string (s.extract l.toNat s.size)))):=id rfl
@[simp] theorem Wq (s:ByteArray) (k:IntKind) (l:Int) (K:D→Prop):BP (.v (.string s)) none (some (some (k,l))) K=(0≤l∧l≤s.size∧K (.v (.string (s.extract 0 l.toNat)))):=id rfl
@[simp] theorem Ws (s:ByteArray) (k k':IntKind) (l h:Int) (K:D→Prop):BP (.v (.string s)) (some (some (k,l))) (some (some (k',h))) K=(0≤l∧l≤h∧h≤s.size∧K (.v (.string (s.extract l.toNat h.toNat)))):=id rfl
def Am (off:Nat) (d:D) (K:D→Prop):Prop:=match d with
 | .cptr cs o=> K (.cptr cs (o+off))
 | .bptr id b o=> K (.bptr id b (o+off))
 | .eptr id x n i o=> K (.eptr id x n i (o+off))
 | _=> False
@[simp] theorem Zy (off:Nat) (cs:List D) (o:Nat) (K:D→Prop):Am off (.cptr cs o) K=K (.cptr cs (o+off)):=id rfl
@[simp] theorem Zz (off i b o:Nat) (K:D→Prop):Am off (.bptr i b o) K=K (.bptr i b (o+off)):=id rfl
def Er (n:Nat) (k:Int) (id:Nat) (x:Value) (r:Option Res) (K:D→Prop):Prop:=match r with
 | some (.row x' _ n' es)=> x'=x∧n'=n∧0≤k∧k < es.length∧K (.eptr id x n k.toNat 0)
 | _=> False
def Ae (n:Nat) (i d:D) (H:aa) (K:D→Prop):Prop:=match i with
 | .v (.int _ k)=> match d with
   | .list n' es=> n'=n∧0≤k∧k < es.length∧ ∀d,es[k.toNat]?=some d→K (.cptr d.cells 0)
   | .own id x=> Er n k id x (H id) K
   | .sub id x n' lo hi=> n'=n∧0≤k∧k < (hi -lo:Nat)∧K (.eptr id x n (lo+k.toNat) 0)
   | _=> False
 | _=> False
@[simp] theorem Zo (n:Nat) (kd:IntKind) (k:Int) (n':Nat) (es:List D) (H:aa) (K:D→Prop):Ae n (.v (.int kd k)) (.list n' es) H K=(n'=n∧0≤k∧k < es.length∧ ∀d,es[k.toNat]?=some d→K (.cptr d.cells 0)):=id rfl
@[simp] theorem Zn (n:Nat) (kd:IntKind) (k:Int) (i:Nat) (x:Value) (H:aa) (K:D→Prop):Ae n (.v (.int kd k)) (.own i x) H K=Er n k i x (H i) K:=id rfl
@[simp] theorem Zp (n:Nat) (k:Int) (i:Nat) (x x':Value) (el n':Nat) (es:List D) (K:D→Prop):Er n k i x (some (.row x' el n' es)) K=(x'=x∧n'=n∧0≤k∧k < es.length∧K (.eptr i x n k.toNat 0)):=id rfl
def Nq (i d:D) (K:D→Prop):Prop:=match i with
 | .v (.int _ k)=> match d with
   | .v (.string s)=> 0≤k∧k < s.size∧ ∀c,s.data[k.toNat]?=some c→K (.v (.int .u8 c.toNat))
   | _=> False
 | _=> False
@[simp] theorem qax (kd:IntKind) (k:Int) (s:ByteArray) (K:D→Prop):Nq (.v (.int kd k)) (.v (.string s)) K=(0≤k∧k < s.size∧ ∀c,s.data[k.toNat]?=some c→K (.v (.int .u8 c.toNat))):=id rfl
def Sr (o:Option D) (K:D→Prop):Prop:=match o with
 | some d=> K d
 | none=> False
def Sq (d:D) (i:Nat) (K:D→Prop):Prop:=match d with
 | .tup ds=> Sr ds[i]? K
 | _=> False
@[simp] theorem qeM (ds:List D) (i:Nat) (K:D→Prop):Sq (.tup ds) i K=Sr ds[i]? K:=id rfl
@[simp] theorem qeN (d:D) (K:D→Prop):Sr (some d) K=K d:=id rfl
def RS (x:Value) (r:Option Res) (K:D→Prop):Prop:=match r with
 | some (.row x' _ _ es)=> x'=x∧((es.length:Int)≤9223372036854775807→K (.v (.int .i64 es.length)))
 | _=> False
def Kj (d:D) (H:aa) (K:D→Prop):Prop:=match d with
 | .list _ es=> (es.length:Int)≤9223372036854775807→K (.v (.int .i64 es.length))
 | .own id x=> RS x (H id) K
 | .v (.slice _ n _)=> K (.v (.int .i64 n))
 | .sub _ _ _ lo hi=> ((hi -lo:Nat):Int)≤9223372036854775807→K (.v (.int .i64 (hi -lo:Nat)))
 | _=> False
@[simp] theorem qcU (n:Nat) (es:List D) (H:aa) (K:D→Prop):Kj (.list n es) H K=((es.length:Int)≤9223372036854775807→K (.v (.int .i64 es.length))):=id rfl
@[simp] theorem qcS (i:Nat) (x:Value) (H:aa) (K:D→Prop):Kj (.own i x) H K=RS x (H i) K:=id rfl
@[simp] theorem qbc (a:Option Addr) (n c:Nat) (H:aa) (K:D→Prop):Kj (.v (.slice a n c)) H K=K (.v (.int .i64 n)):=id rfl
@[simp high] theorem qcT (H:aa) (K:D→Prop):Kj (.v (.slice none 0 0)) H K=K (.v (.int .i64 0)):=id rfl
@[simp] theorem qcV (x x':Value) (el n:Nat) (es:List D) (K:D→Prop):RS x (some (.row x' el n es)) K=(x'=x∧((es.length:Int)≤9223372036854775807→K (.v (.int .i64 es.length)))):=id rfl
def SP (x:Value) (r:Option Res) (K:D→Prop):Prop:=match r with
 | some (.row x' _ n es)=> x'=x∧n=1∧Vd es=true∧K (.v (.string (Vc es)))
 | _=> False
@[simp] theorem qfh (x x':Value) (el n:Nat) (es:List D) (K:D→Prop):SP x (some (.row x' el n es)) K=(x'=x∧n=1∧Vd es=true∧K (.v (.string (Vc es)))):=id rfl
def Ve (d:D) (H:aa) (K:D→Prop):Prop:=match d with
 | .own i x=> SP x (H i) K
 | .v (.slice none 0 0)=> K (.v (.string ⟨#[]⟩))
 | _=> False
@[simp] theorem qfg (i:Nat) (x:Value) (H:aa) (K:D→Prop):Ve (.own i x) H K=SP x (H i) K:=id rfl
def RE (t:Nat) (o:Option (List Value)) (K:D→Prop):Prop:=match o with
 | some xs=> K (.v (.iface t (.agg xs.toArray)))
 | none=> False
@[simp] theorem qa1 (t:Nat) (xs:List Value) (K:D→Prop):RE t (some xs) K=K (.v (.iface t (.agg xs.toArray))):=id rfl
def NB (t:Nat) (d:D) (K:D→Prop):Prop:=match d with
 | .agg cs=> RE t (Us cs) K
 | _=> False
@[simp] theorem qa0 (t:Nat) (cs:List D) (K:D→Prop):NB t (.agg cs) K=RE t (Us cs) K:=id rfl
@[simp] theorem qfZ:Us []=some []:=id rfl
@[simp] theorem qf0 (x:Value) (l:List D):Us (.v x::l)=(Us l).map (x:: ·):=id rfl
def Ni (d:D) (K:D→Prop):Prop:=match d with
 | .v (.string s)=> (s.size:Int)≤9223372036854775807→K (.v (.int .i64 s.size))
 | _=> False
@[simp] theorem qaw (s:ByteArray) (K:D→Prop):Ni (.v (.string s)) K=((s.size:Int)≤9223372036854775807→K (.v (.int .i64 s.size))):=id rfl
def UK (mx:Bool) (d e:D) (K:D→Prop):Prop:=match d,e with
 | .v (.int k a), .v (.int k' b)=> k=k'∧K (.v (.int k (if mx then max a b else min a b)))
 | _,_=> False
@[simp] theorem qcO (mx:Bool) (k k':IntKind) (a b:Int) (K:D→Prop):UK mx (.v (.int k a)) (.v (.int k' b)) K=(k=k'∧K (.v (.int k (if mx then max a b else min a b)))):=id rfl
@[simp ↓] theorem Yl (σ:Sg) (cs:List D) (K:List D→Prop):jj σ [] cs K=K cs:=id rfl
@[simp ↓] theorem XH (σ:Sg) (off sz:Nat) (x:Operand) (r:List (Nat×Nat×Operand)) (cs:List D) (K:List D→Prop):jj σ ((off,sz,x)::r) cs K=((ev σ x).kn=true∧(ev σ x).cells.length=sz∧jj σ r (setAt cs off (ev σ x).cells) K):=id rfl
@[simp] theorem X8 (n:Nat):jZ n []=True:=id rfl
@[simp] theorem WD (n:Nat) (d:D) (r:List D):jZ n (d::r)=(d.kn=true∧d.cells.length=n∧jZ n r):=id rfl
@[simp] theorem qfS (n n':Nat) (es:List D) (H:aa) (K:List D→Prop):kL n (.list n' es) H K=(n'=n∧K es):=id rfl
def wz (sz id b off:Nat) (y:D) (r:Option Res) (H:aa) (K:D→aa→Prop):Prop:=match r with
 | some (.box b' cells)=> b'=b∧off+sz≤cells.length∧K .undef (ak H id (some (.box b' (setAt cells off y.cells))))
 | _=> False
def QT (sz id:Nat) (x:Value) (n i off:Nat) (y:D) (r:Option Res) (H:aa) (K:D→aa→Prop):Prop:=match r with
 | some (.row x' el n' es)=> x'=x∧n'=n∧0 < n∧off+sz≤n∧i < es.length∧ ∀d,es[i]?=some d→
    K .undef (ak H id (some (.row x' el n' (es.set i (if off=0∧sz=n then y else .agg (setAt d.cells off y.cells))))))
 | _=> False
def HJ (sz:Nat) (d y:D) (H:aa) (K:D→aa→Prop):Prop:=match d with
 | .bptr id b off=> wz sz id b off y (H id) H K
 | .eptr id x n i off=> QT sz id x n i off y (H id) H K
 | _=> False
@[simp] theorem YI (sz i b off:Nat) (y:D) (H:aa) (K:D→aa→Prop):HJ sz (.bptr i b off) y H K=wz sz i b off y (H i) H K:=id rfl
@[simp] theorem YJ (sz i b off b':Nat) (y:D) (cells:List D) (H:aa) (K:D→aa→Prop):wz sz i b off y (some (.box b' cells)) H K=(b'=b∧off+sz≤cells.length∧K .undef (ak H i (some (.box b' (setAt cells off y.cells))))):=id rfl
def Td (el n bytes id:Nat) (x:Value) (es2:List D) (r:Option Res) (H:aa) (K:D→aa→Prop):Prop:=match r with
 | some (.row x' el' n' es)=> x'=x∧el'=el∧n'=n∧(es.length+es2.length) *bytes≤140737488355328∧es.length+es2.length≤140737488355328∧ ∀v,K (.own id v) (ak H id (some (.row v el n (es++es2))))
 | _=> False
def qfs (el n bytes id:Nat) (x:Value) (n' lo hi:Nat) (es2:List D) (r:Option Res) (H:aa) (K:D→aa→Prop):Prop:=match r with
 | some (.row x' el' n'' es)=> x'=x∧el'=el∧n'=n∧n''=n∧lo=0∧(hi+es2.length) *bytes≤140737488355328∧hi+es2.length≤140737488355328∧ ∀v,K (.own id v) (ak H id (some (.row v el n (es.take hi++es2))))
 | _=> False
def Se (t:Nat) (x:Value) (id:Nat) (σ:Sg) (r:Option Res) (H:aa) (K:Sg→aa→Prop):Prop:=match r with
 | some (.row x' _ n' es)=> x'=x∧K (Pz id x (.list n' es) σ) (ak H id none)
 | _=> False
def Sf (t b off:Nat) (id:Nat) (σ:Sg) (r:Option Res) (H:aa) (K:Sg→aa→Prop):Prop:=match r with
 | some (.box b' cs)=> b'=b∧K (kI σ t (.cptr cs off)) (ak H id none)
 | _=> False
def qeC (t n:Nat) (x:Value) (id n' lo hi:Nat) (σ:Sg) (r:Option Res) (H:aa) (K:Sg→aa→Prop):Prop:=match r with
 | some (.row x' el n'' es)=> x'=x∧n'=n''∧(if n=0 then lo=0∧ ∀v,K (kI σ t (.own id v)) (ak H id (some (.row v el n'' (es.take hi)))) else K (kI σ t (.list n'' ((es.take hi).drop lo))) (ak H id none))
 | _=> False
def Sd (t n:Nat) (d:D) (σ:Sg) (H:aa) (K:Sg→aa→Prop):Prop:=match d with
 | .own id x=> Se t x id σ (H id) H K
 | .bptr id b off=> Sf t b off id σ (H id) H K
 | .v (.slice none 0 0)=> K (kI σ t (.list n [])) H
 | .sub id x n' lo hi=> qeC t n x id n' lo hi σ (H id) H K
 | .agg cs=> Ak cs H fun cs' H'=> K (kI σ t (.agg cs')) H'
 | _=> K σ H
@[simp ↓] theorem qiE (t n:Nat) (σ:Sg) (H:aa) (K:Sg→aa→Prop):AU t n σ H K=Sd t n (σ t) σ H K:=id rfl
@[simp] theorem qeA (t n i:Nat) (x:Value) (σ:Sg) (H:aa) (K:Sg→aa→Prop):Sd t n (.own i x) σ H K=Se t x i σ (H i) H K:=id rfl
@[simp] theorem qeB (t n i b off:Nat) (σ:Sg) (H:aa) (K:Sg→aa→Prop):Sd t n (.bptr i b off) σ H K=Sf t b off i σ (H i) H K:=id rfl
@[simp] theorem qeD (t i:Nat) (x x':Value) (el n':Nat) (es:List D) (σ:Sg) (H:aa) (K:Sg→aa→Prop):Se t x i σ (some (.row x' el n' es)) H K=(x'=x∧K (Pz i x (.list n' es) σ) (ak H i none)):=id rfl
@[simp] theorem qeF (id:Nat) (x:Value) (L:D) (i:Nat) (y:Value):Ew id x L (.own i y)=open Classical in (if i=id∧y=x then L else .own i y):=_root_.id rfl
@[simp] theorem qeJ (id:Nat) (x:Value) (L:D) :Ew id x L (.any)= .any:=_root_.id rfl
@[simp] theorem qeG (id:Nat) (x:Value) (L:D) (cs:List D):Ew id x L (.agg cs)= .agg cs:=_root_.id rfl
@[simp] theorem qeH (id:Nat) (x:Value) (L:D) (cs:List D) (o:Nat):Ew id x L (.cptr cs o)= .cptr cs o:=_root_.id rfl
@[simp] theorem qeI (id:Nat) (x:Value) (L:D) (i b o:Nat):Ew id x L (.bptr i b o)= .bptr i b o:=_root_.id rfl
@[simp] theorem qeE (id:Nat) (x:Value) (L:D) (T:List Int):Ew id x L (.tape T)= .tape T:=_root_.id rfl
@[simp] theorem qeK (t b off i b':Nat) (cs:List D) (σ:Sg) (H:aa) (K:Sg→aa→Prop):Sf t b off i σ (some (.box b' cs)) H K=(b'=b∧K (kI σ t (.cptr cs off)) (ak H i none)):=id rfl
def Nh (r sz:Nat) (d y:D) (H:aa) (K:D→aa→Prop):Prop:=match d with
 | .bptr id b off=> id=r∧wz sz r b off y (H r) H K
 | .eptr id x n i off=> id=r∧QT sz r x n i off y (H r) H K
 | _=> False
@[simp] theorem qau (r sz i b off:Nat) (y:D) (H:aa) (K:D→aa→Prop):Nh r sz (.bptr i b off) y H K=(i=r∧wz sz r b off y (H r) H K):=id rfl
def qfu (dst:Option Nat) (el n bytes:Nat) (es2:List D) (H:aa) (K:D→aa→Prop):Prop:=match dst with
 | some t=> es2.length*bytes≤140737488355328∧es2.length≤140737488355328∧ ∀v,K (.own t v) (ak H t (some (.row v el n es2)))
 | none=> False
def Tc (dst:Option Nat) (el n bytes:Nat) (d:D) (es2:List D) (H:aa) (K:D→aa→Prop):Prop:=match d with
 | .own id x=> Td el n bytes id x es2 (H id) H K
 | .v (.slice none 0 0)=> qfu dst el n bytes es2 H K
 | .sub id x n' lo hi=> qfs el n bytes id x n' lo hi es2 (H id) H K
 | _=> False
@[simp] theorem qfq (dst:Option Nat) (el n bytes i:Nat) (x:Value) (es2:List D) (H:aa) (K:D→aa→Prop):Tc dst el n bytes (.own i x) es2 H K=Td el n bytes i x es2 (H i) H K:=id rfl
@[simp] theorem qfr (t:Nat) (el n bytes:Nat) (es2:List D) (H:aa) (K:D→aa→Prop):Tc (some t) el n bytes (.v (.slice none 0 0)) es2 H K=(es2.length*bytes≤140737488355328∧es2.length≤140737488355328∧ ∀v,K (.own t v) (ak H t (some (.row v el n es2)))):=id rfl
@[simp] theorem qft (el n bytes i:Nat) (x x':Value) (es2:List D) (el' n':Nat) (es:List D) (H:aa) (K:D→aa→Prop):Td el n bytes i x es2 (some (.row x' el' n' es)) H K=(x'=x∧el'=el∧n'=n∧(es.length+es2.length) *bytes≤140737488355328∧es.length+es2.length≤140737488355328∧ ∀v,K (.own i v) (ak H i (some (.row v el n (es++es2))))):=id rfl
def yG (S:Nat→Spc) (f:D) (d:Nat) (args:List D) (H:aa) (K:D→aa→Prop):Prop:=match f with
 | .clo g caps=> (S g).pt d (args++caps) H K
 | _=> False
@[simp] theorem qbN (S:Nat→Spc) (g:Nat) (caps:List D) (d:Nat) (args:List D) (H:aa) (K:D→aa→Prop):yG S (.clo g caps) d args H K=(S g).pt d (args++caps) H K:=id rfl
@[congr] theorem YU {r:Nat} {dst:Option Nat} {s:Spc} {args:List D} {H:aa} {K:D→aa→Prop} {s₁:Spc} {args₁:List D} (hs:s=s₁) (hargs:args=args₁):GB r dst s args H K=GB r dst s₁ args₁ H K:=by subst hs;subst hargs;rfl
@[congr] theorem qaN {dst:Option Nat} {s:Spc} {args:List D} {H:aa} {K:D→aa→Prop} {s₁:Spc} {args₁:List D} (hs:s=s₁) (hargs:args=args₁):OV dst s args H K=OV dst s₁ args₁ H K:=by subst hs;subst hargs;rfl
section
variable {S:Nat→Spc} {σ:Sg} {H Hr:aa} {K:D→aa→Prop}
@[simp ↓] theorem qe9 (dst:Option Nat) (x:Operand):bm S (.mv x) dst σ H K=((fun d=> K d H) (ev σ x)):=id rfl
@[simp ↓] theorem qib (dst:Option Nat) (x:Operand):bb S (.mv x) dst σ Hr H K=((fun d=> K d H) (ev σ x)):=id rfl
@[simp ↓] theorem qe8 (dst:Option Nat) (c x y:Operand):bm S (.pick c x y) dst σ H K=(AN (ev σ c) ((fun d=> K d H) (ev σ x)) ((fun d=> K d H) (ev σ y))):=id rfl
@[simp ↓] theorem qcC (dst:Option Nat) (c x y:Operand):bb S (.pick c x y) dst σ Hr H K=(AN (ev σ c) ((fun d=> K d H) (ev σ x)) ((fun d=> K d H) (ev σ y))):=id rfl
@[simp ↓] theorem qbU (dst:Option Nat) (z:List Value) (ps:List (Nat×Nat×Operand)):bm S (.build z ps) dst σ H K=(jj σ ps (z.map qX) fun cs=> (fun d=> K d H) (.agg cs)):=id rfl
@[simp ↓] theorem qaK (dst:Option Nat) (z:List Value) (ps:List (Nat×Nat×Operand)):bb S (.build z ps) dst σ Hr H K=(jj σ ps (z.map qX) fun cs=> (fun d=> K d H) (.agg cs)):=id rfl
@[simp ↓] theorem ZW (dst:Option Nat) (el n:Nat) (ps:List Operand):bm S (.bslice el n ps) dst σ H K=(jZ n (ps.map (ev σ))∧(fun d=> K d H) (.list n (ps.map (ev σ)))):=id rfl
@[simp ↓] theorem YS (dst:Option Nat) (el n:Nat) (ps:List Operand):bb S (.bslice el n ps) dst σ Hr H K=(jZ n (ps.map (ev σ))∧(fun d=> K d H) (.list n (ps.map (ev σ)))):=id rfl
@[simp ↓] theorem qfb (dst:Option Nat) (agg:Bool) (sz:Nat) (x:Operand):bm S (.load agg sz x) dst σ H K=(AO agg sz (ev σ x) H (fun d=> K d H)):=id rfl
@[simp ↓] theorem qcD (dst:Option Nat) (agg:Bool) (sz:Nat) (x:Operand):bb S (.load agg sz x) dst σ Hr H K=(AO agg sz (ev σ x) Hr (fun d=> K d H)):=id rfl
@[simp ↓] theorem qbQ (dst:Option Nat) (x:Operand):bm S (.nilck x) dst σ H K=(Pd (ev σ x) (fun d=> K d H)):=id rfl
@[simp ↓] theorem qaG (dst:Option Nat) (x:Operand):bb S (.nilck x) dst σ Hr H K=(Pd (ev σ x) (fun d=> K d H)):=id rfl
@[simp ↓] theorem Va (dst:Option Nat) (op:BinOp) (x y:Operand):bm S (.arith op x y) dst σ H K=(E7 op (ev σ x) (ev σ y) (fun d=> K d H)):=id rfl
@[simp ↓] theorem qaL (dst:Option Nat) (op:BinOp) (x y:Operand):bb S (.arith op x y) dst σ Hr H K=(E7 op (ev σ x) (ev σ y) (fun d=> K d H)):=id rfl
@[simp ↓] theorem ZV (dst:Option Nat) (op:BinOp) (x y:Operand):bm S (.cmp op x y) dst σ H K=(U6 op (ev σ x) (ev σ y) (fun d=> K d H)):=id rfl
@[simp ↓] theorem qhY (dst:Option Nat) (neg agg:Bool) (ks:List Lu) (x y:Operand):bm S (.eql neg agg ks x y) dst σ H K=(PG neg (Xf agg ks (ev σ x) (ev σ y)) (fun d=> K d H)):=id rfl
@[simp ↓] theorem qfY (dst:Option Nat) (neg agg:Bool) (ks:List Lu) (x y:Operand):bb S (.eql neg agg ks x y) dst σ Hr H K=(PG neg (Xf agg ks (ev σ x) (ev σ y)) (fun d=> K d H)):=id rfl
@[simp ↓] theorem qe7 (dst:Option Nat) (x y:Operand):bm S (.scat x y) dst σ H K=(JN (ev σ x) (ev σ y) (fun d=> K d H)):=id rfl
@[simp ↓] theorem qcB (dst:Option Nat) (x y:Operand):bb S (.scat x y) dst σ Hr H K=(JN (ev σ x) (ev σ y) (fun d=> K d H)):=id rfl
@[simp ↓] theorem qhT (dst:Option Nat) (x:Operand):bm S (.not x) dst σ H K=(UH (ev σ x) (fun d=> K d H)):=id rfl
@[simp ↓] theorem qhU (dst:Option Nat) (x:Operand):bm S (.neg x) dst σ H K=(UI (ev σ x) (fun d=> K d H)):=id rfl
@[simp ↓] theorem qfc (dst:Option Nat) (k:IntKind) (x:Operand):bm S (.conv k x) dst σ H K=(N0 k (ev σ x) (fun d=> K d H)):=id rfl
@[simp ↓] theorem qhZ (dst:Option Nat) (f:Nat) (xs:List Operand):bm S (.clo f xs) dst σ H K=((fun d=> K d H) (.clo f (xs.map (ev σ)))):=id rfl
@[simp ↓] theorem qbP (dst:Option Nat) (n:Nat) (x:Operand) (lo hi:Option Operand):bm S (.slice n x lo hi) dst σ H K=(QV n (ev σ x) (lo.map fun o=> td (ev σ o)) (hi.map fun o=> td (ev σ o)) H (fun d=> K d H)):=id rfl
@[simp ↓] theorem ZT (dst:Option Nat) (x:Operand) (lo hi:Option Operand):bm S (.sslice x lo hi) dst σ H K=(BP (ev σ x) (lo.map fun o=> td (ev σ o)) (hi.map fun o=> td (ev σ o)) (fun d=> K d H)):=id rfl
@[simp ↓] theorem qbS (dst:Option Nat) (off:Nat) (x:Operand):bm S (.faddr off x) dst σ H K=(Am off (ev σ x) (fun d=> K d H)):=id rfl
@[simp ↓] theorem qaI (dst:Option Nat) (off:Nat) (x:Operand):bb S (.faddr off x) dst σ Hr H K=(Am off (ev σ x) (fun d=> K d H)):=id rfl
@[simp ↓] theorem qbR (dst:Option Nat) (n:Nat) (x i:Operand):bm S (.iaddr n x i) dst σ H K=(Ae n (ev σ i) (ev σ x) H (fun d=> K d H)):=id rfl
@[simp ↓] theorem qaH (dst:Option Nat) (n:Nat) (x i:Operand):bb S (.iaddr n x i) dst σ Hr H K=(Ae n (ev σ i) (ev σ x) Hr (fun d=> K d H)):=id rfl
@[simp ↓] theorem qe6 (dst:Option Nat) (x i:Operand):bm S (.sidx x i) dst σ H K=(Nq (ev σ i) (ev σ x) (fun d=> K d H)):=id rfl
@[simp ↓] theorem qhX (dst:Option Nat) (x:Operand) (i:Nat):bm S (.ext x i) dst σ H K=(Sq (ev σ x) i (fun d=> K d H)):=id rfl
@[simp ↓] theorem qfX (dst:Option Nat) (x:Operand) (i:Nat):bb S (.ext x i) dst σ Hr H K=(Sq (ev σ x) i (fun d=> K d H)):=id rfl
@[simp ↓] theorem qhW (dst:Option Nat) (x:Operand):bm S (.len x) dst σ H K=(Kj (ev σ x) H (fun d=> K d H)):=id rfl
@[simp ↓] theorem qfW (dst:Option Nat) (x:Operand):bb S (.len x) dst σ Hr H K=(Kj (ev σ x) Hr (fun d=> K d H)):=id rfl
@[simp ↓] theorem qe5 (dst:Option Nat) (x:Operand):bm S (.slen x) dst σ H K=(Ni (ev σ x) (fun d=> K d H)):=id rfl
@[simp ↓] theorem qfe (dst:Option Nat) (x:Operand):bm S (.bstr x) dst σ H K=(Ve (ev σ x) H (fun d=> K d H)):=id rfl
@[simp ↓] theorem qfa (dst:Option Nat) (t:Nat) (x:Operand):bm S (.mkif t x) dst σ H K=(NB t (ev σ x) (fun d=> K d H)):=id rfl
@[simp ↓] theorem qhV (dst:Option Nat) (mx:Bool) (x y:Operand):bm S (.mm mx [x,y]) dst σ H K=UK mx (ev σ x) (ev σ y) (fun d=> K d H):=id rfl
@[simp ↓] theorem qff (dst:Option Nat) (el:Nat) (x:Operand):bm S (.box el true x) dst σ H K=((ev σ x).kn=true∧K (.cptr (ev σ x).cells 0) H):=id rfl
@[simp ↓] theorem qbV (t el:Nat) (z:List Value):bm S (.alloc el z) (some t) σ H K= ∀b,K (.bptr t b 0) (ak H t (some (.box b (z.map qX)))):=id rfl
@[simp ↓] theorem qh0 (t el:Nat) (x:Operand):bm S (.box el false x) (some t) σ H K=((ev σ x).kn=true∧ ∀b,K (.bptr t b 0) (ak H t (some (.box b (ev σ x).cells)))):=id rfl
@[simp ↓] theorem qhS (t el:Nat) (x:Operand):bm S (.tbx el x) (some t) σ H K=((ev σ x).kn=true∧ ∀b,K (.bptr t b 0) (ak H t (some (.tbox el b (ev σ x).cells)))):=id rfl
@[simp ↓] theorem ZU (t el n:Nat) (ps:List Operand):bm S (.mslice el n ps) (some t) σ H K=(jZ n (ps.map (ev σ))∧ ∀x,K (.own t x) (ak H t (some (.row x el n (ps.map (ev σ)))))):=id rfl
@[simp ↓] theorem qaM (t el:Nat) (z:List Value):bb S (.alloc el z) (some t) σ Hr H K= ∀b,K (.bptr t b 0) (ak H t (some (.box b (z.map qX)))):=id rfl
@[simp ↓] theorem qaF (dst:Option Nat) (r sz:Nat) (x y:Operand):bb S (.store (some r) sz x y) dst σ Hr H K=((ev σ y).kn=true∧(ev σ y).cells.length=sz∧Nh r sz (ev σ x) (ev σ y) H K):=by
 simp only[bb]
 congr 2
@[simp ↓] theorem qbO (dst:Option Nat) (rt:Option Nat) (sz:Nat) (x y:Operand):bm S (.store rt sz x y) dst σ H K=((ev σ y).kn=true∧(ev σ y).cells.length=sz∧HJ sz (ev σ x) (ev σ y) H K):=id rfl
@[simp ↓] theorem ZX (dst:Option Nat) (rt:Option Nat) (el n bytes:Nat) (x y:Operand):bm S (.append rt el n bytes x y) dst σ H K=kL n (ev σ y) H fun es2=> Tc dst el n bytes (ev σ x) es2 H K:=id rfl
@[simp ↓] theorem qfd (dst:Option Nat) (f:Nat) (args:List Operand):bm S (.call f args) dst σ H K=(S f).pt (dst.getD 0) (args.map (ev σ)) H K:=id rfl
@[simp ↓] theorem qaJ (dst:Option Nat) (r f:Nat) (args:List Operand):bb S (.callb r f args) dst σ Hr H K=GB r dst (S f) (args.map (ev σ)) H K:=id rfl
@[simp ↓] theorem qbT (dst:Option Nat) (f:Operand) (args:List Operand):bm S (.callv f args) dst σ H K=yG S (ev σ f) (dst.getD 0) (args.map (ev σ)) H K:=id rfl
@[simp ↓] theorem qcE (dst:Option Nat) (f:Nat) (args:List Operand):bb S (.call f args) dst σ Hr H K=OV dst (S f) (args.map (ev σ)) H K:=id rfl
end
theorem YE (σ:Sg) (t s:Nat) (d:D):kI σ t d s=if s=t then d else σ s:=id rfl
theorem LL (σ:Sg) (t:Nat) (d:D):fD σ (some t) d=kI σ t d:=id rfl
theorem Wh (σ:Sg) (d:D):fD σ none d=σ:=id rfl
theorem Wi (H:aa) (t s:Nat) (d:Option Res):ak H t d s=if s=t then d else H s:=id rfl
attribute [simp] LL Wh Wi
@[simp] theorem QB (σ:Sg) (t:Nat):ev σ (.tmp t)=σ t:=id rfl
@[simp] theorem Uc (σ:Sg) (x:Value):ev σ (.const x)=qX x:=id rfl
@[simp] theorem qcp (σ:Sg) (f:Nat):ev σ (.func f)= .clo f []:=id rfl
@[simp] theorem qcq (b:Bool):qX (.bool b)= .v (.bool b):=id rfl
@[simp] theorem YC (k:IntKind) (n:Int):qX (.int k n)= .v (.int k n):=id rfl
@[simp] theorem qfL (s:ByteArray):qX (.string s)= .v (.string s):=id rfl
@[simp] theorem qfM (a:Option Addr):qX (.pointer a)= .v (.pointer a):=id rfl
@[simp] theorem qas (a:Option Addr) (l c:Nat):qX (.slice a l c)= .v (.slice a l c):=id rfl
theorem Zk (σ:Sg):jl [] σ=fun _=> .any:=id rfl
theorem WV (t:Nat) (l:List Nat) (σ:Sg):jl (t::l) σ=kI (jl l σ) t (σ t):=id rfl
@[simp] theorem qep (H:aa):jm [] H=fun _=> none:=id rfl
@[simp] theorem UN (t:Nat) (l:List Nat) (H:aa):jm (t::l) H=ak (jm l H) t (H t):=id rfl
@[simp] theorem qcJ (i:Nat):cu i=none:=id rfl
@[simp] theorem qcR (σ:Sg):o8 [] σ=True:=id rfl
@[simp] theorem qa6 (t:Nat) (d:D) (l:List (Nat×D)) (σ:Sg):o8 ((t,d)::l) σ=(M0 (σ t) d∧o8 l σ):=id rfl
@[simp] theorem qcN (H:aa):sr [] H=True:=id rfl
@[simp] theorem qaY (t:Nat) (d:Res) (l:List (Nat×Res)) (H:aa):sr ((t,d)::l) H=((H t=some d∨isNilRow d)∧sr l H):=id rfl
@[simp] theorem sub_self (d:D):M0 d d=True:=by
 cases d <;> simp[M0]
@[simp] theorem qfR (a:D) (x:Value):M0 a (.v x)=(a= .v x):=id rfl
@[simp] theorem YG (a:D) (n:Nat) (x:List D):M0 a (.list n x)=(a= .list n x∨(a= .v (.slice none 0 0)∧x= [])):=id rfl
@[simp] theorem qat (i:Nat) (x:Value) (y:Value) (j:Nat):M0 (.own i x) (.own j y)=(x=y):=by simp[M0]
@[simp] theorem YF (x:Value) (y:Value) (j:Nat):M0 (.v x) (.own j y)=(x=y):=by simp[M0]
@[simp] theorem qil (sz:Nat) (cs:List D) (off:Nat):Iv true sz cs off= .agg ((cs.drop off).take sz):=id rfl
@[simp] theorem qim (sz:Nat) (cs:List D) (off:Nat):Iv false sz cs off=(cs[off]?).getD .any:=id rfl
@[simp ↓] theorem qaA (rs:List aK) (K:D→aa→Prop) (σ:Sg) (H:aa):tO rs K .norm σ H=j7 rs σ H fun ds=> K (cE ds) H:=id rfl
@[simp ↓] theorem qcw (rs:List aK) (K:D→aa→Prop) (σ:Sg) (H:aa):tO rs K .ret σ H=j7 rs σ H fun ds=> K (cE ds) H:=id rfl
@[simp ↓] theorem qcv (σ:Sg) (H:aa) (K:List D→Prop):j7 [] σ H K=K []:=id rfl
@[simp ↓] theorem qcu (t:Nat) (r:List aK) (σ:Sg) (H:aa) (K:List D→Prop):j7 (.tmp t::r) σ H K=j7 r σ H fun ds=> K (σ t::ds):=id rfl
@[simp ↓] theorem qaz (t:Nat) (agg:Bool) (sz:Nat) (r:List aK) (σ:Sg) (H:aa) (K:List D→Prop):j7 (.cell t agg sz::r) σ H K=AO agg sz (σ t) H fun d=> j7 r σ H fun ds=> K (d::ds):=id rfl
@[simp] theorem qie (d:D):cE [d]=d:=id rfl
@[simp] theorem qif:cE []= .tup []:=id rfl
@[simp] theorem qid (d e:D) (l:List D):cE (d::e::l)= .tup (d::e::l):=id rfl
@[simp] theorem qix (x:Value):D.kn (.v x)=true:=id rfl
@[simp] theorem qbM (x:Value):D.cells (.v x)= [.v x]:=id rfl
@[simp] theorem qeo (cs:List D):D.kn (.agg cs)=true:=id rfl
@[simp] theorem Yk (cs:List D):D.cells (.agg cs)=cs:=id rfl
@[simp] theorem qbf (n:Nat) (es:List D):D.kn (.list n es)=true:=id rfl
@[simp] theorem XE (n:Nat) (es:List D):D.cells (.list n es)= [.list n es]:=id rfl
@[simp] theorem qbg (i b o:Nat):D.kn (.bptr i b o)=true:=id rfl
@[simp] theorem XF (i b o:Nat):D.cells (.bptr i b o)= [.bptr i b o]:=id rfl
@[simp] theorem qen (i:Nat) (x:Value):D.kn (.own i x)=true:=id rfl
@[simp] theorem Yj (i:Nat) (x:Value):D.cells (.own i x)= [.own i x]:=id rfl
@[simp] theorem qh2 (k:IntKind) (n:Int):td (.v (.int k n))=some (k,n):=id rfl
attribute [simp] setAt
@[simp] theorem qeU (n:Int):enc n= .v (.int .i64 n):=rfl
@[simp] theorem qbE (b:Bool):enc b= .v (.bool b):=rfl
@[simp] theorem qeT (s:ByteArray):enc s= .v (.string s):=rfl
@[simp] theorem qbD {X:Type} [Cod X] (l:List X):enc l= .list (Cod.wd X) (l.map enc):=rfl
@[simp] theorem qcm:Cod.wd Int=1:=rfl
@[simp] theorem qao:Cod.wd Bool=1:=rfl
@[simp] theorem qcl:Cod.wd ByteArray=1:=rfl
@[simp] theorem qam {X:Type} [Cod X]:Cod.wd (List X)=1:=rfl
@[congr] theorem qbl {d:D} {A:Prop} {B:Prop} {d₁:D} (hd:d=d₁):Kn d A B=Kn d₁ A B:=by subst hd;rfl
@[congr] theorem Yg {s:Nat} {b:Bool} {σ:Sg} {d:D} {yes:Sg→Prop} {no:Sg→Prop} {d₁:D} (hd:d=d₁):lf s b σ d yes no=lf s b σ d₁ yes no:=by subst hd;rfl
@[congr] theorem YV {d:D} {A:Prop} {B:Prop} {d₁:D} (hd:d=d₁):AN d A B=AN d₁ A B:=by subst hd;rfl
@[congr] theorem Zi {agg:Bool} {sz:Nat} {b:Nat} {off:Nat} {r:Option Res} {K:D→Prop} {r₁:Option Res} (hr:r=r₁):Kf agg sz b off r K=Kf agg sz b off r₁ K:=by subst hr;rfl
@[congr] theorem Zh {agg:Bool} {sz:Nat} {x:Value} {n:Nat} {i:Nat} {off:Nat} {r:Option Res} {K:D→Prop} {r₁:Option Res} (hr:r=r₁):Ke agg sz x n i off r K=Ke agg sz x n i off r₁ K:=by subst hr;rfl
@[congr] theorem Zg {agg:Bool} {sz:Nat} {d:D} {H:aa} {K:D→Prop} {d₁:D} (hd:d=d₁):AO agg sz d H K=AO agg sz d₁ H K:=by subst hd;rfl
@[congr] theorem qaW {d:D} {K:D→Prop} {d₁:D} (hd:d=d₁):Pd d K=Pd d₁ K:=by subst hd;rfl
@[congr] theorem Yq {op:BinOp} {d:D} {e:D} {K:D→Prop} {d₁:D} {e₁:D} (hd:d=d₁) (he:e=e₁):E7 op d e K=E7 op d₁ e₁ K:=by subst hd;subst he;rfl
@[congr] theorem qbL {o:Option Bool} {K:D→Prop} {o₁:Option Bool} (ho:o=o₁):PQ o K=PQ o₁ K:=by subst ho;rfl
@[congr] theorem qbK {op:BinOp} {d:D} {e:D} {K:D→Prop} {d₁:D} {e₁:D} (hd:d=d₁) (he:e=e₁):U6 op d e K=U6 op d₁ e₁ K:=by subst hd;subst he;rfl
@[congr] theorem qbB {neg:Bool} {o:Option Bool} {K:D→Prop} {o₁:Option Bool} (ho:o=o₁):PG neg o K=PG neg o₁ K:=by subst ho;rfl
@[congr] theorem YQ {d:D} {e:D} {K:D→Prop} {d₁:D} {e₁:D} (hd:d=d₁) (he:e=e₁):JN d e K=JN d₁ e₁ K:=by subst hd;subst he;rfl
@[congr] theorem qaU {d:D} {K:D→Prop} {d₁:D} (hd:d=d₁):UH d K=UH d₁ K:=by subst hd;rfl
@[congr] theorem qaX {d:D} {K:D→Prop} {d₁:D} (hd:d=d₁):UI d K=UI d₁ K:=by subst hd;rfl
@[congr] theorem ZI {k:IntKind} {d:D} {K:D→Prop} {d₁:D} (hd:d=d₁):N0 k d K=N0 k d₁ K:=by subst hd;rfl
@[congr] theorem Yh {off:Nat} {d:D} {K:D→Prop} {d₁:D} (hd:d=d₁):Am off d K=Am off d₁ K:=by subst hd;rfl
@[congr] theorem Yf {n:Nat} {k:Int} {id:Nat} {x:Value} {r:Option Res} {K:D→Prop} {r₁:Option Res} (hr:r=r₁):Er n k id x r K=Er n k id x r₁ K:=by subst hr;rfl
@[congr] theorem Ye {n:Nat} {i:D} {d:D} {H:aa} {K:D→Prop} {i₁:D} {d₁:D} (hi:i=i₁) (hd:d=d₁):Ae n i d H K=Ae n i₁ d₁ H K:=by subst hi;subst hd;rfl
@[congr] theorem YN {i:D} {d:D} {K:D→Prop} {i₁:D} {d₁:D} (hi:i=i₁) (hd:d=d₁):Nq i d K=Nq i₁ d₁ K:=by subst hi;subst hd;rfl
@[congr] theorem qbx {o:Option D} {K:D→Prop} {o₁:Option D} (ho:o=o₁):Sr o K=Sr o₁ K:=by subst ho;rfl
@[congr] theorem qbw {d:D} {i:Nat} {K:D→Prop} {d₁:D} (hd:d=d₁):Sq d i K=Sq d₁ i K:=by subst hd;rfl
@[congr] theorem qbe {x:Value} {r:Option Res} {K:D→Prop} {r₁:Option Res} (hr:r=r₁):RS x r K=RS x r₁ K:=by subst hr;rfl
@[congr] theorem qbd {d:D} {H:aa} {K:D→Prop} {d₁:D} (hd:d=d₁):Kj d H K=Kj d₁ H K:=by subst hd;rfl
@[congr] theorem qbX {x:Value} {r:Option Res} {K:D→Prop} {r₁:Option Res} (hr:r=r₁):SP x r K=SP x r₁ K:=by subst hr;rfl
@[congr] theorem qbW {d:D} {H:aa} {K:D→Prop} {d₁:D} (hd:d=d₁):Ve d H K=Ve d₁ H K:=by subst hd;rfl
@[congr] theorem Za {t:Nat} {d:D} {K:D→Prop} {d₁:D} (hd:d=d₁):NB t d K=NB t d₁ K:=by subst hd;rfl
@[congr] theorem YM {d:D} {K:D→Prop} {d₁:D} (hd:d=d₁):Ni d K=Ni d₁ K:=by subst hd;rfl
@[congr] theorem qaZ {mx:Bool} {d:D} {e:D} {K:D→Prop} {d₁:D} {e₁:D} (hd:d=d₁) (he:e=e₁):UK mx d e K=UK mx d₁ e₁ K:=by subst hd;subst he;rfl
@[congr] theorem X6 {sz:Nat} {id:Nat} {b:Nat} {off:Nat} {y:D} {r:Option Res} {H:aa} {K:D→aa→Prop} {y₁:D} {r₁:Option Res} (hy:y=y₁) (hr:r=r₁):wz sz id b off y r H K=wz sz id b off y₁ r₁ H K:=by subst hy;subst hr;rfl
@[congr] theorem X5 {sz:Nat} {d:D} {y:D} {H:aa} {K:D→aa→Prop} {d₁:D} {y₁:D} (hd:d=d₁) (hy:y=y₁):HJ sz d y H K=HJ sz d₁ y₁ H K:=by subst hd;subst hy;rfl
@[congr] theorem qb4 {el:Nat} {n:Nat} {bytes:Nat} {id:Nat} {x:Value} {es2:List D} {r:Option Res} {H:aa} {K:D→aa→Prop} {es2₁:List D} {r₁:Option Res} (hes2:es2=es2₁) (hr:r=r₁):Td el n bytes id x es2 r H K=Td el n bytes id x es2₁ r₁ H K:=by subst hes2;subst hr;rfl
@[congr] theorem qbr {t:Nat} {x:Value} {id:Nat} {σ:Sg} {r:Option Res} {H:aa} {K:Sg→aa→Prop} {r₁:Option Res} (hr:r=r₁):Se t x id σ r H K=Se t x id σ r₁ H K:=by subst hr;rfl
@[congr] theorem qbs {t:Nat} {b:Nat} {off:Nat} {id:Nat} {σ:Sg} {r:Option Res} {H:aa} {K:Sg→aa→Prop} {r₁:Option Res} (hr:r=r₁):Sf t b off id σ r H K=Sf t b off id σ r₁ H K:=by subst hr;rfl
@[congr] theorem qbp {t:Nat} {n:Nat} {d:D} {σ:Sg} {H:aa} {K:Sg→aa→Prop} {d₁:D} (hd:d=d₁):Sd t n d σ H K=Sd t n d₁ σ H K:=by subst hd;rfl
@[congr] theorem YK {r:Nat} {sz:Nat} {d:D} {y:D} {H:aa} {K:D→aa→Prop} {d₁:D} {y₁:D} (hd:d=d₁) (hy:y=y₁):Nh r sz d y H K=Nh r sz d₁ y₁ H K:=by subst hd;subst hy;rfl
@[congr] theorem qb3 {dst:Option Nat} {el:Nat} {n:Nat} {bytes:Nat} {d:D} {es2:List D} {H:aa} {K:D→aa→Prop} {dst₁:Option Nat} {d₁:D} {es2₁:List D} (hdst:dst=dst₁) (hd:d=d₁) (hes2:es2=es2₁):Tc dst el n bytes d es2 H K=Tc dst₁ el n bytes d₁ es2₁ H K:=by subst hdst;subst hd;subst hes2;rfl
@[congr] theorem ZS {S:Nat→Spc} {f:D} {d:Nat} {args:List D} {H:aa} {K:D→aa→Prop} {f₁:D} {args₁:List D} (hf:f=f₁) (hargs:args=args₁):yG S f d args H K=yG S f₁ d args₁ H K:=by subst hf;subst hargs;rfl
@[congr] theorem YL {n:Nat} {d d':D} {H:aa} {K:List D→Prop} (h:d=d'):kL n d H K=kL n d' H K:=by subst h;rfl
@[congr] theorem Yu {s s':Spc} {d:Nat} {ds ds':List D} {H:aa} {K:D→aa→Prop} (h:s=s') (h':ds=ds'):s.pt d ds H K=s'.pt d ds' H K:=by subst h;subst h';rfl
end Go.Gv
