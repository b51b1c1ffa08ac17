/- A part of the framework and of the walks: T10 T11. -/
import Derived.Test.YtaiffcbkmgfklaaGreatDoorGu08
set_option linter.unusedSimpArgs false
set_option linter.unusedVariables false

namespace Go.Gv
open Cod (enc dec)
section
variable {S:Nat→Spc} {K:Ex→Sg→ab→Prop} {σ:Sg} {H:ab}
def O1 (S:Nat→Spc) (b:CC) (K:Ex→Sg→ab→Prop):Ex→Sg→ab→Prop:=fun e σ H=> match e with
 | .norm=> vc S b K σ H
 | e=> K e σ H
def Tl (id:Nat) (K:Ex→Sg→ab→Prop):Ex→Sg→ab→Prop:=fun e σ H=> match e with
 | .ex i=> if i=id then K .norm σ H else K (.ex i) σ H
 | e=> K e σ H
def Sw (inv:qbu) (x:inv.X) (K:Ex→Sg→ab→Prop):Ex→Sg→ab→Prop:=fun e σ' H'=> match e with
 | .norm=> ∃y,inv.P y∧Wk σ' H' (inv.s y) (inv.h y)∧inv.m y < inv.m x
 | e=> K e σ' H'
def Ns (d:D) (A B:Prop):Prop:=match d with
 | .v (.bool t)=> (t=true→A)∧(t=false→B)
 | _=> False
@[simp ↓] theorem qaU:vc S .skip K σ H=K .norm σ H:=id rfl
@[simp ↓] theorem Zy (l:List CI):vc S (.reg l) K σ H=xz S l σ H (K .norm):=id rfl
@[simp ↓] theorem qiU (p l:List CI):vc S (.regd p l) K σ H=lY S p σ (ck p H) H fun σ H=> xz S l σ H (K .norm):=id rfl
@[simp ↓] theorem NU (a b:CC):vc S (.seq a b) K σ H=vc S a (O1 S b K) σ H:=id rfl
@[simp ↓] theorem HH (b:CC):O1 S b K .norm σ H=vc S b K σ H:=id rfl
@[simp ↓] theorem Wo (b:CC) (i:Nat):O1 S b K (.ex i) σ H=K (.ex i) σ H:=id rfl
@[simp ↓] theorem qaV (b:CC):O1 S b K .ret σ H=K .ret σ H:=id rfl
@[simp ↓] theorem qdk (c:Operand) (a b:CC):vc S (.ite c a b) K σ H=Ns (ev σ c) (vc S a K σ H) (vc S b K σ H):=id rfl
@[simp] theorem qaY (t:Bool) (A B:Prop):Ns (.v (.bool t)) A B=((t=true→A)∧(t=false→B)):=id rfl
@[simp high] theorem qiW (A B:Prop):Ns (.v (.bool true)) A B=A:=by simp[Ns]
@[simp high] theorem qiX (A B:Prop):Ns (.v (.bool false)) A B=B:=by simp[Ns]
@[simp ↓] theorem LX (id:Nat) (b:CC):vc S (.block id b) K σ H=vc S b (Tl id K) σ H:=_root_.id rfl
@[simp ↓] theorem qa1 (id:Nat):Tl id K .norm σ H=K .norm σ H:=_root_.id rfl
@[simp ↓] theorem Wr (id:Nat):Tl id K .ret σ H=K .ret σ H:=_root_.id rfl
@[simp ↓] theorem P2 (id i:Nat):Tl id K (.ex i) σ H=if i=id then K .norm σ H else K (.ex i) σ H:=_root_.id rfl
@[simp ↓] theorem qa0 (i:Nat):vc S (.exit i) K σ H=K (.ex i) σ H:=id rfl
@[simp ↓] theorem qlT:vc S .ret K σ H=K .ret σ H:=id rfl
@[simp ↓] theorem qiV (ls lh:List Nat) (c:CC):vc S (.keep ls lh c) K σ H=vc S c K (jW ls σ) (jX lh H):=id rfl
theorem LW (k:Nat) (b:CC):vc S (.loop k b) K σ H= ∃inv:qbu,(∃x,inv.P x∧Wk σ H (inv.s x) (inv.h x))∧ ∀x,inv.P x→vc S b (Sw inv x K) (inv.s x) (inv.h x):=id rfl
theorem Q8 (k:Nat) (c:CC):vc S (.cut k c) K σ H= ∃ (σ':Sg) (H':ab),Wk σ H σ' H'∧vc S c K σ' H':=id rfl
@[simp ↓] theorem qaX (inv:qbu) (x:inv.X):Sw inv x K .norm σ H= ∃y,inv.P y∧Wk σ H (inv.s y) (inv.h y)∧inv.m y < inv.m x:=id rfl
@[simp ↓] theorem qaW (inv:qbu) (x:inv.X):Sw inv x K .ret σ H=K .ret σ H:=id rfl
@[simp ↓] theorem Wq (inv:qbu) (x:inv.X) (i:Nat):Sw inv x K (.ex i) σ H=K (.ex i) σ H:=id rfl
end
def mF (s:Nat) (b:Bool) (σ:Sg) (d:D) (yes no:Sg→Prop):Prop:=match d with
 | .v (.bool t)=> (t=b→yes (l5 σ s (.v (.bool b))))∧(t=(!b)→no (l5 σ s (.v (.bool (!b)))))
 | .undef=> no σ
 | _=> False
@[simp high] theorem qmD (s:Nat) (σ:Sg) (yes no:Sg→Prop):mF s true σ (.v (.bool true)) yes no=yes (l5 σ s (.v (.bool true))):=by simp[mF]
@[simp high] theorem qmE (s:Nat) (σ:Sg) (yes no:Sg→Prop):mF s true σ (.v (.bool false)) yes no=no (l5 σ s (.v (.bool false))):=by simp[mF]
@[simp high] theorem qmF (s:Nat) (σ:Sg) (yes no:Sg→Prop):mF s false σ (.v (.bool true)) yes no=no (l5 σ s (.v (.bool true))):=by simp[mF]
@[simp high] theorem qmG (s:Nat) (σ:Sg) (yes no:Sg→Prop):mF s false σ (.v (.bool false)) yes no=yes (l5 σ s (.v (.bool false))):=by simp[mF]
@[simp] theorem qmC (s:Nat) (b:Bool) (σ:Sg) (yes no:Sg→Prop):mF s b σ .undef yes no=no σ:=id rfl
@[simp] theorem qmN (s:Nat) (b t:Bool) (σ:Sg) (yes no:Sg→Prop):mF s b σ (.v (.bool t)) yes no=((t=b→yes (l5 σ s (.v (.bool b))))∧(t=(!b)→no (l5 σ s (.v (.bool (!b)))))):=id rfl
section
variable {S:Nat→Spc} {σ:Sg} {H Hr:ab}
@[simp ↓] theorem Zv (K:Sg→ab→Prop):xz S [] σ H K=K σ H:=id rfl
@[simp ↓] theorem qaE (K:Sg→ab→Prop) (d:Option Nat) (c:COp) (r:List CI):xz S (.op d none c::r) σ H K=bu S c d σ H fun x H'=> xz S r (f9 σ d x) H' K:=id rfl
@[simp ↓] theorem qka (K:Sg→ab→Prop) (d:Option Nat) (s:Nat) (b:Bool) (c:COp) (r:List CI):xz S (.op d (some (s,b)) c::r) σ H K=mF s b σ (σ s) (fun σ=> bu S c d σ H fun x H'=> xz S r (f9 σ d x) H' K) (fun σ=> xz S r (f9 σ d .undef) H K):=id rfl
@[simp ↓] theorem qkb (K:Sg→ab→Prop) (t n:Nat) (r:List CI):xz S (.frz t n::r) σ H K=DZ t n σ H fun σ' H'=> xz S r σ' H' K:=id rfl
@[simp ↓] theorem qj3 (K:Sg→ab→Prop):lY S [] σ Hr H K=K σ H:=id rfl
@[simp ↓] theorem qj4 (K:Sg→ab→Prop) (a b:Nat) (r:List CI):lY S (.frz a b::r) σ Hr H K=lY S r σ (ck r Hr) H K:=id rfl
@[simp ↓] theorem qmf (K:Sg→ab→Prop) (d:Option Nat) (c:COp) (r:List CI):lY S (.op d none c::r) σ Hr H K=bh S c d σ Hr H fun x H'=> lY S r (f9 σ d x) Hr H' K:=id rfl
@[simp ↓] theorem qj2 (K:Sg→ab→Prop) (d:Option Nat) (s:Nat) (b:Bool) (c:COp) (r:List CI):lY S (.op d (some (s,b)) c::r) σ Hr H K=mF s b σ (σ s) (fun σ=> bh S c d σ Hr H fun x H'=> lY S r (f9 σ d x) Hr H' K) (fun σ=> lY S r (f9 σ d .undef) Hr H K):=id rfl
end
def DP (d:D) (A B:Prop):Prop:=match d with
 | .v (.bool t)=> (t=true→A)∧(t=false→B)
 | _=> False
@[simp high] theorem qer (A B:Prop):DP (.v (.bool true)) A B=A:=by simp[DP]
@[simp high] theorem qes (A B:Prop):DP (.v (.bool false)) A B=B:=by simp[DP]
def Nj (agg:Bool) (sz b off:Nat) (r:Option Res) (K:D→Prop):Prop:=match r with
 | some (.box b' cells)=> b'=b∧off+sz≤cells.length∧K (IV agg sz cells off)
 | _=> False
def Ni (agg:Bool) (sz:Nat) (x:Value) (n i off:Nat) (r:Option Res) (K:D→Prop):Prop:=match r with
 | some (.row x' _ n' es)=> x'=x∧n'=n∧off+sz≤n∧i < es.length∧ ∀d,es[i]?=some d→K (IV agg sz d.cells off)
 | _=> False
def DS (agg:Bool) (sz:Nat) (d:D) (H:ab) (K:D→Prop):Prop:=match d with
 | .cptr cs off=> off+sz≤cs.length∧K (IV agg sz cs off)
 | .bptr id b off=> Nj agg sz b off (H id) K
 | .eptr id x n i off=> Ni agg sz x n i off (H id) K
 | _=> False
@[simp] theorem qeK (agg:Bool) (sz:Nat) (cs:List D) (off:Nat) (H:ab) (K:D→Prop):DS agg sz (.cptr cs off) H K=(off+sz≤cs.length∧K (IV agg sz cs off)):=id rfl
@[simp] theorem qeL (agg:Bool) (sz:Nat) (i b off:Nat) (H:ab) (K:D→Prop):DS agg sz (.bptr i b off) H K=Nj agg sz b off (H i) K:=id rfl
@[simp] theorem qeJ (agg:Bool) (sz:Nat) (i:Nat) (x:Value) (n k off:Nat) (H:ab) (K:D→Prop):DS agg sz (.eptr i x n k off) H K=Ni agg sz x n k off (H i) K:=id rfl
@[simp] theorem qeN (agg:Bool) (sz b off b':Nat) (cells:List D) (K:D→Prop):Nj agg sz b off (some (.box b' cells)) K=(b'=b∧off+sz≤cells.length∧K (IV agg sz cells off)):=id rfl
@[simp] theorem qeM (agg:Bool) (sz:Nat) (x:Value) (n i off:Nat) (x':Value) (el n':Nat) (es:List D) (K:D→Prop):Ni agg sz x n i off (some (.row x' el n' es)) K=(x'=x∧n'=n∧off+sz≤n∧i < es.length∧ ∀d,es[i]?=some d→K (IV agg sz d.cells off)):=id rfl
def Sv (d:D) (K:D→Prop):Prop:=match d with
 | .cptr cs off=> K (.cptr cs off)
 | .bptr id b off=> K (.bptr id b off)
 | .eptr id x n i off=> K (.eptr id x n i off)
 | .tape L=> K (.tape L)
 | .clo f caps=> K (.clo f caps)
 | _=> False
@[simp] theorem qgv (cs:List D) (off:Nat) (K:D→Prop):Sv (.cptr cs off) K=K (.cptr cs off):=id rfl
@[simp] theorem qgw (i b off:Nat) (K:D→Prop):Sv (.bptr i b off) K=K (.bptr i b off):=id rfl
def H5 (op:BinOp) (d e:D) (K:D→Prop):Prop:=match d,e with
 | .v (.int k a), .v (.int k' b)=> k=k'∧m7 op k a b K
 | _,_=> False
@[simp] theorem WQ (op:BinOp) (k k':IntKind) (a b:Int) (K:D→Prop):H5 op (.v (.int k a)) (.v (.int k' b)) K=(k=k'∧m7 op k a b K):=id rfl
@[simp ↓] theorem To (k:IntKind) (a b:Int) (K:D→Prop):m7 .add k a b K=(InR k (a+b)∧K (.v (.int k (a+b)))):=id rfl
@[simp ↓] theorem qbX (k:IntKind) (a b:Int) (K:D→Prop):m7 .sub k a b K=(InR k (a -b)∧K (.v (.int k (a -b)))):=id rfl
@[simp ↓] theorem qb0 (k:IntKind) (a b:Int) (K:D→Prop):m7 .mul k a b K=(InR k (a*b)∧K (.v (.int k (a*b)))):=id rfl
@[simp ↓] theorem qbZ (k:IntKind) (a b:Int) (K:D→Prop):m7 .quo k a b K=(b≠0∧InR k (a.tdiv b)∧K (.v (.int k (a.tdiv b)))):=id rfl
@[simp ↓] theorem qbY (k:IntKind) (a b:Int) (K:D→Prop):m7 .rem k a b K=(b≠0∧K (.v (.int k (a.tmod b)))):=id rfl
def Tc (o:Option Bool) (K:D→Prop):Prop:=match o with | some t=> K (.v (.bool t)) | none=> False
@[simp] theorem qbg (t:Bool) (K:D→Prop):Tc (some t) K=K (.v (.bool t)):=id rfl
def Y0 (op:BinOp) (d e:D) (K:D→Prop):Prop:=match d,e with
 | .v (.int k a), .v (.int k' b)=> k=k'∧Tc (N8 op a b) K
 | .v (.string a), .v (.string b)=> Tc (qbf op a b) K
 | _,_=> False
@[simp] theorem qbe (op:BinOp) (k k':IntKind) (a b:Int) (K:D→Prop):Y0 op (.v (.int k a)) (.v (.int k' b)) K=(k=k'∧Tc (N8 op a b) K):=id rfl
@[simp] theorem WE (a b:Int):N8 .lss a b=some (decide (a < b)):=id rfl
@[simp] theorem qdt (a b:Int):N8 .leq a b=some (decide (a≤b)):=id rfl
@[simp] theorem qdu (a b:Int):N8 .gtr a b=some (decide (b < a)):=id rfl
@[simp] theorem qdv (a b:Int):N8 .geq a b=some (decide (b≤a)):=id rfl
def SV (neg:Bool) (o:Option Bool) (K:D→Prop):Prop:=match o with
 | some p=> K (.v (.bool (if neg then !p else p)))
 | none=> False
@[simp] theorem qiP (p:Bool) (K:D→Prop):SV false (some p) K=K (.v (.bool p)):=id rfl
@[simp] theorem qiO (p:Bool) (K:D→Prop):SV true (some p) K=K (.v (.bool (!p))):=id rfl
@[simp] theorem qlP (k:Oy) (a b:D):qaS false [k] a b=Ty k a b:=id rfl
@[simp] theorem qlO (ks:List Oy) (a b:List D):qaS true ks (.agg a) (.agg b)=YT ks a b:=id rfl
@[simp] theorem qlN:YT [] [] []=some true:=id rfl
@[simp] theorem qlM (k:Oy) (ks:List Oy) (a b:D) (as bs:List D):YT (k::ks) (a::as) (b::bs)=(Ty k a b).bind fun p=> (YT ks as bs).bind fun q=> some (p && q):=id rfl
@[simp] theorem qlR (k k':IntKind) (a b:Int):Ty .int (.v (.int k a)) (.v (.int k' b))=if k=k' then some (decide (a=b)) else none:=id rfl
@[simp] theorem qlQ (a b:ByteArray):Ty .str (.v (.string a)) (.v (.string b))=some (decide (a=b)):=id rfl
@[simp] theorem qlS (a b:Bool):Ty .bool (.v (.bool a)) (.v (.bool b))=some (decide (a=b)):=id rfl
def MQ (d e:D) (K:D→Prop):Prop:=match d,e with
 | .v (.string a), .v (.string b)=> a.size+b.size≤1000000000∧K (.v (.string (a++b)))
 | _,_=> False
@[simp] theorem qea (a b:ByteArray) (K:D→Prop):MQ (.v (.string a)) (.v (.string b)) K=(a.size+b.size≤1000000000∧K (.v (.string (a++b)))):=id rfl
def Yz (d:D) (K:D→Prop):Prop:=match d with
 | .v (.bool b)=> K (.v (.bool (!b)))
 | _=> False
@[simp] theorem qgt (b:Bool) (K:D→Prop):Yz (.v (.bool b)) K=K (.v (.bool (!b))):=id rfl
def YA (d:D) (K:D→Prop):Prop:=match d with
 | .v (.int k n)=> InR k (0 -n)∧K (.v (.int k (0 -n)))
 | _=> False
@[simp] theorem qgx (k:IntKind) (n:Int) (K:D→Prop):YA (.v (.int k n)) K=(InR k (0 -n)∧K (.v (.int k (0 -n)))):=id rfl
def Rg (k:IntKind) (d:D) (K:D→Prop):Prop:=match d with
 | .v (.int _ n)=> K (.v (.int k (k.wrap n)))
 | _=> False
@[simp] theorem qfp (k k':IntKind) (n:Int) (K:D→Prop):Rg k (.v (.int k' n)) K=K (.v (.int k (k.wrap n))):=id rfl
def Z5 (n id:Nat) (x:Value) (lo hi:Option (Option (IntKind×Int))) (r:Option Res) (K:D→Prop):Prop:=match r with
 | some (.row x' _ n' es)=> x'=x∧n'=n∧yz lo hi es.length fun l h=> K (.sub id x n l h)
 | _=> False
def Uz (n:Nat) (d:D) (lo hi:Option (Option (IntKind×Int))) (H:ab) (K:D→Prop):Prop:=match d with
 | .list n' es=> n'=n∧(match lo,hi with
   | none,none=> K (.list n es)
   | some (some (_,l)),none=> 0≤l∧l≤es.length∧K (.list n (es.drop l.toNat))
   | none,some (some (_,h))=> 0≤h∧h≤es.length∧K (.list n (es.take h.toNat))
   | some (some (_,l)),some (some (_,h))=> 0≤l∧l≤h∧h≤es.length∧K (.list n ((es.take h.toNat).drop l.toNat))
   | _,_=> False)
 | .own id x=> Z5 n id x lo hi (H id) K
 | .sub id x n' a b=> n'=n∧yz lo hi (b -a) fun l h=> K (.sub id x n (a+l) (a+h))
 | .v (.slice none 0 0)=> yz lo hi 0 fun _ _=> K (.v (.slice none 0 0))
 | _=> False
@[simp] theorem qbI (n n':Nat) (es:List D) (k:IntKind) (l:Int) (H:ab) (K:D→Prop):Uz n (.list n' es) none (some (some (k,l))) H K=(n'=n∧0≤l∧l≤es.length∧K (.list n (es.take l.toNat))):=id rfl
def Ar (d:D) (lo hi:Option (Option (IntKind×Int))) (K:D→Prop):Prop:=match d with
 | .v (.string s)=> (match lo,hi with
   | none,none=> K (.v (.string (s.extract 0 s.size)))
   | some (some (_,l)),none=> 0≤l∧l≤s.size∧K (.v (.string (s.extract l.toNat s.size)))
   | none,some (some (_,h))=> 0≤h∧h≤s.size∧K (.v (.string (s.extract 0 h.toNat)))
   | some (some (_,l)),some (some (_,h))=> 0≤l∧l≤h∧h≤s.size∧K (.v (.string (s.extract l.toNat h.toNat)))
   | _,_=> False)
 | _=> False
@[simp] theorem Z2 (s:ByteArray) (k:IntKind) (l:Int) (K:D→Prop):Ar (.v (.string s)) (some (some (k,l))) none K=(0≤l∧l≤s.size∧K (.v (.string (s.extract l.toNat s.size)))):=id rfl
@[simp] theorem Z1 (s:ByteArray) (k:IntKind) (l:Int) (K:D→Prop):Ar (.v (.string s)) none (some (some (k,l))) K=(0≤l∧l≤s.size∧K (.v (.string (s.extract 0 l.toNat)))):=id rfl
@[simp] theorem Z3 (s:ByteArray) (k k':IntKind) (l h:Int) (K:D→Prop):Ar (.v (.string s)) (some (some (k,l))) (some (some (k',h))) K=(0≤l∧l≤h∧h≤s.size∧K (.v (.string (s.extract l.toNat h.toNat)))):=id rfl
def Dm (off:Nat) (d:D) (K:D→Prop):Prop:=match d with
 | .cptr cs o=> K (.cptr cs (o+off))
 | .bptr id b o=> K (.bptr id b (o+off))
 | .eptr id x n i o=> K (.eptr id x n i (o+off))
 | _=> False
@[simp] theorem qdf (off:Nat) (cs:List D) (o:Nat) (K:D→Prop):Dm off (.cptr cs o) K=K (.cptr cs (o+off)):=id rfl
@[simp] theorem qdg (off i b o:Nat) (K:D→Prop):Dm off (.bptr i b o) K=K (.bptr i b (o+off)):=id rfl
def YO (agg:Bool) (sz off:Nat) (d:D) (K:D→Prop):Prop:=match d with
 | .agg cs=> off+sz≤cs.length∧K (IV agg sz cs off)
 | _=> False
@[simp] theorem qiK (agg:Bool) (sz off:Nat) (cs:List D) (K:D→Prop):YO agg sz off (.agg cs) K=(off+sz≤cs.length∧K (IV agg sz cs off)):=id rfl
def Ht (n:Nat) (k:Int) (id:Nat) (x:Value) (r:Option Res) (K:D→Prop):Prop:=match r with
 | some (.row x' _ n' es)=> x'=x∧n'=n∧0≤k∧k < es.length∧K (.eptr id x n k.toNat 0)
 | _=> False
def De (n:Nat) (i d:D) (H:ab) (K:D→Prop):Prop:=match i with
 | .v (.int _ k)=> match d with
   | .list n' es=> n'=n∧0≤k∧k < es.length∧ ∀d,es[k.toNat]?=some d→K (.cptr d.cells 0)
   | .own id x=> Ht n k id x (H id) K
   | .sub id x n' lo hi=> n'=n∧0≤k∧k < (hi -lo:Nat)∧K (.eptr id x n (lo+k.toNat) 0)
   | _=> False
 | _=> False
@[simp] theorem qc5 (n:Nat) (kd:IntKind) (k:Int) (n':Nat) (es:List D) (H:ab) (K:D→Prop):De n (.v (.int kd k)) (.list n' es) H K=(n'=n∧0≤k∧k < es.length∧ ∀d,es[k.toNat]?=some d→K (.cptr d.cells 0)):=id rfl
@[simp] theorem qc4 (n:Nat) (kd:IntKind) (k:Int) (i:Nat) (x:Value) (H:ab) (K:D→Prop):De n (.v (.int kd k)) (.own i x) H K=Ht n k i x (H i) K:=id rfl
@[simp] theorem qc6 (n:Nat) (k:Int) (i:Nat) (x x':Value) (el n':Nat) (es:List D) (K:D→Prop):Ht n k i x (some (.row x' el n' es)) K=(x'=x∧n'=n∧0≤k∧k < es.length∧K (.eptr i x n k.toNat 0)):=id rfl
def QC (i d:D) (K:D→Prop):Prop:=match i with
 | .v (.int _ k)=> match d with
   | .v (.string s)=> 0≤k∧k < s.size∧ ∀c,s.data[k.toNat]?=some c→K (.v (.int .u8 c.toNat))
   | _=> False
 | _=> False
@[simp] theorem qd9 (kd:IntKind) (k:Int) (s:ByteArray) (K:D→Prop):QC (.v (.int kd k)) (.v (.string s)) K=(0≤k∧k < s.size∧ ∀c,s.data[k.toNat]?=some c→K (.v (.int .u8 c.toNat))):=id rfl
def Wj (o:Option D) (K:D→Prop):Prop:=match o with
 | some d=> K d
 | none=> False
def Wi (d:D) (i:Nat) (K:D→Prop):Prop:=match d with
 | .tup ds=> Wj ds[i]? K
 | _=> False
@[simp] theorem qiL (ds:List D) (i:Nat) (K:D→Prop):Wi (.tup ds) i K=Wj ds[i]? K:=id rfl
@[simp] theorem qiM (d:D) (K:D→Prop):Wj (some d) K=K d:=id rfl
def Vy (x:Value) (r:Option Res) (K:D→Prop):Prop:=match r with
 | some (.row x' _ _ es)=> x'=x∧((es.length:Int)≤9223372036854775807→K (.v (.int .i64 es.length)))
 | _=> False
def Nn (d:D) (H:ab) (K:D→Prop):Prop:=match d with
 | .list _ es=> (es.length:Int)≤9223372036854775807→K (.v (.int .i64 es.length))
 | .own id x=> Vy x (H id) K
 | .v (.slice _ n _)=> K (.v (.int .i64 n))
 | .sub _ _ _ lo hi=> ((hi -lo:Nat):Int)≤9223372036854775807→K (.v (.int .i64 (hi -lo:Nat)))
 | _=> False
@[simp] theorem qgF (n:Nat) (es:List D) (H:ab) (K:D→Prop):Nn (.list n es) H K=((es.length:Int)≤9223372036854775807→K (.v (.int .i64 es.length))):=id rfl
@[simp] theorem qgD (i:Nat) (x:Value) (H:ab) (K:D→Prop):Nn (.own i x) H K=Vy x (H i) K:=id rfl
@[simp] theorem qeO (a:Option Addr) (n c:Nat) (H:ab) (K:D→Prop):Nn (.v (.slice a n c)) H K=K (.v (.int .i64 n)):=id rfl
@[simp high] theorem qgE (H:ab) (K:D→Prop):Nn (.v (.slice none 0 0)) H K=K (.v (.int .i64 0)):=id rfl
@[simp] theorem qgG (x x':Value) (el n:Nat) (es:List D) (K:D→Prop):Vy x (some (.row x' el n es)) K=(x'=x∧((es.length:Int)≤9223372036854775807→K (.v (.int .i64 es.length)))):=id rfl
def WJ (x:Value) (r:Option Res) (K:D→Prop):Prop:=match r with
 | some (.row x' _ n es)=> x'=x∧n=1∧Y7 es=true∧K (.v (.string (Y6 es)))
 | _=> False
@[simp] theorem qjg (x x':Value) (el n:Nat) (es:List D) (K:D→Prop):WJ x (some (.row x' el n es)) K=(x'=x∧n=1∧Y7 es=true∧K (.v (.string (Y6 es)))):=id rfl
def Y8 (d:D) (H:ab) (K:D→Prop):Prop:=match d with
 | .own i x=> WJ x (H i) K
 | .v (.slice none 0 0)=> K (.v (.string ⟨#[]⟩))
 | _=> False
@[simp] theorem qjf (i:Nat) (x:Value) (H:ab) (K:D→Prop):Y8 (.own i x) H K=WJ x (H i) K:=id rfl
def Vl (t:Nat) (o:Option (List Value)) (K:D→Prop):Prop:=match o with
 | some xs=> K (.v (.iface t (.agg xs.toArray)))
 | none=> False
@[simp] theorem qeD (t:Nat) (xs:List Value) (K:D→Prop):Vl t (some xs) K=K (.v (.iface t (.agg xs.toArray))):=id rfl
def QQ (t:Nat) (d:D) (K:D→Prop):Prop:=match d with
 | .agg cs=> Vl t (Yk cs) K
 | _=> False
@[simp] theorem qeC (t:Nat) (cs:List D) (K:D→Prop):QQ t (.agg cs) K=Vl t (Yk cs) K:=id rfl
@[simp] theorem qjZ:Yk []=some []:=id rfl
@[simp] theorem qj0 (x:Value) (l:List D):Yk (.v x::l)=(Yk l).map (x:: ·):=id rfl
def Qv (d:D) (K:D→Prop):Prop:=match d with
 | .v (.string s)=> (s.size:Int)≤9223372036854775807→K (.v (.int .i64 s.size))
 | _=> False
@[simp] theorem qd8 (s:ByteArray) (K:D→Prop):Qv (.v (.string s)) K=((s.size:Int)≤9223372036854775807→K (.v (.int .i64 s.size))):=id rfl
def Vk (mx:Bool) (d e:D) (K:D→Prop):Prop:=match d,e with
 | .v (.int k a), .v (.int k' b)=> k=k'∧K (.v (.int k (if mx then max a b else min a b)))
 | _,_=> False
@[simp] theorem qgz (mx:Bool) (k k':IntKind) (a b:Int) (K:D→Prop):Vk mx (.v (.int k a)) (.v (.int k' b)) K=(k=k'∧K (.v (.int k (if mx then max a b else min a b)))):=id rfl
@[simp ↓] theorem qbW (σ:Sg) (cs:List D) (K:List D→Prop):jR σ [] cs K=K cs:=id rfl
@[simp ↓] theorem qbk (σ:Sg) (off sz:Nat) (x:Operand) (r:List (Nat×Nat×Operand)) (cs:List D) (K:List D→Prop):jR σ ((off,sz,x)::r) cs K=((ev σ x).kn=true∧(ev σ x).cells.length=sz∧jR σ r (setAt cs off (ev σ x).cells) K):=id rfl
@[simp] theorem qbJ (n:Nat):kW n []=True:=id rfl
@[simp] theorem qag (n:Nat) (d:D) (r:List D):kW n (d::r)=(d.kn=true∧d.cells.length=n∧kW n r):=id rfl
@[simp] theorem qjR (n n':Nat) (es:List D) (H:ab) (K:List D→Prop):l8 n (.list n' es) H K=(n'=n∧K es):=id rfl
def yO (sz id b off:Nat) (y:D) (r:Option Res) (H:ab) (K:D→ab→Prop):Prop:=match r with
 | some (.box b' cells)=> b'=b∧off+sz≤cells.length∧K .undef (au H id (some (.box b' (setAt cells off y.cells))))
 | _=> False
def Ux (sz id:Nat) (x:Value) (n i off:Nat) (y:D) (r:Option Res) (H:ab) (K:D→ab→Prop):Prop:=match r with
 | some (.row x' el n' es)=> x'=x∧n'=n∧0 < n∧off+sz≤n∧i < es.length∧ ∀d,es[i]?=some d→
    K .undef (au H id (some (.row x' el n' (es.set i (if off=0∧sz=n then y else .agg (setAt d.cells off y.cells))))))
 | _=> False
def KC (sz:Nat) (d y:D) (H:ab) (K:D→ab→Prop):Prop:=match d with
 | .bptr id b off=> yO sz id b off y (H id) H K
 | .eptr id x n i off=> Ux sz id x n i off y (H id) H K
 | _=> False
@[simp] theorem qcl (sz i b off:Nat) (y:D) (H:ab) (K:D→ab→Prop):KC sz (.bptr i b off) y H K=yO sz i b off y (H i) H K:=id rfl
@[simp] theorem qcm (sz i b off b':Nat) (y:D) (cells:List D) (H:ab) (K:D→ab→Prop):yO sz i b off y (some (.box b' cells)) H K=(b'=b∧off+sz≤cells.length∧K .undef (au H i (some (.box b' (setAt cells off y.cells))))):=id rfl
def WS (el n bytes id:Nat) (x:Value) (es2:List D) (r:Option Res) (H:ab) (K:D→ab→Prop):Prop:=match r with
 | some (.row x' el' n' es)=> x'=x∧el'=el∧n'=n∧(es.length+es2.length) *bytes≤140737488355328∧es.length+es2.length≤140737488355328∧ ∀v,K (.own id v) (au H id (some (.row v el n (es++es2))))
 | _=> False
def qjr (el n bytes id:Nat) (x:Value) (n' lo hi:Nat) (es2:List D) (r:Option Res) (H:ab) (K:D→ab→Prop):Prop:=match r with
 | some (.row x' el' n'' es)=> x'=x∧el'=el∧n'=n∧n''=n∧lo=0∧(hi+es2.length) *bytes≤140737488355328∧hi+es2.length≤140737488355328∧ ∀v,K (.own id v) (au H id (some (.row v el n (es.take hi++es2))))
 | _=> False
def VV (t:Nat) (x:Value) (id:Nat) (σ:Sg) (r:Option Res) (H:ab) (K:Sg→ab→Prop):Prop:=match r with
 | some (.row x' _ n' es)=> x'=x∧K (SP id x (.list n' es) σ) (au H id none)
 | _=> False
def VX (t b off:Nat) (id:Nat) (σ:Sg) (r:Option Res) (H:ab) (K:Sg→ab→Prop):Prop:=match r with
 | some (.box b' cs)=> b'=b∧K (l5 σ t (.cptr cs off)) (au H id none)
 | _=> False
def qiA (t n:Nat) (x:Value) (id n' lo hi:Nat) (σ:Sg) (r:Option Res) (H:ab) (K:Sg→ab→Prop):Prop:=match r with
 | some (.row x' el n'' es)=> x'=x∧n'=n''∧(if n=0 then lo=0∧ ∀v,K (l5 σ t (.own id v)) (au H id (some (.row v el n'' (es.take hi)))) else K (l5 σ t (.list n'' ((es.take hi).drop lo))) (au H id none))
 | _=> False
def VU (t n:Nat) (d:D) (σ:Sg) (H:ab) (K:Sg→ab→Prop):Prop:=match d with
 | .own id x=> VV t x id σ (H id) H K
 | .bptr id b off=> VX t b off id σ (H id) H K
 | .v (.slice none 0 0)=> K (l5 σ t (.list n [])) H
 | .sub id x n' lo hi=> qiA t n x id n' lo hi σ (H id) H K
 | .agg cs=> Dj cs H fun cs' H'=> K (l5 σ t (.agg cs')) H'
 | _=> K σ H
@[simp ↓] theorem qmI (t n:Nat) (σ:Sg) (H:ab) (K:Sg→ab→Prop):DZ t n σ H K=VU t n (σ t) σ H K:=id rfl
@[simp] theorem qiy (t n i:Nat) (x:Value) (σ:Sg) (H:ab) (K:Sg→ab→Prop):VU t n (.own i x) σ H K=VV t x i σ (H i) H K:=id rfl
@[simp] theorem qiz (t n i b off:Nat) (σ:Sg) (H:ab) (K:Sg→ab→Prop):VU t n (.bptr i b off) σ H K=VX t b off i σ (H i) H K:=id rfl
@[simp] theorem qiB (t i:Nat) (x x':Value) (el n':Nat) (es:List D) (σ:Sg) (H:ab) (K:Sg→ab→Prop):VV t x i σ (some (.row x' el n' es)) H K=(x'=x∧K (SP i x (.list n' es) σ) (au H i none)):=id rfl
@[simp] theorem qiD (id:Nat) (x:Value) (L:D) (i:Nat) (y:Value):Hy id x L (.own i y)=open Classical in (if i=id∧y=x then L else .own i y):=_root_.id rfl
@[simp] theorem qiH (id:Nat) (x:Value) (L:D) :Hy id x L (.any)= .any:=_root_.id rfl
@[simp] theorem qiE (id:Nat) (x:Value) (L:D) (cs:List D):Hy id x L (.agg cs)= .agg cs:=_root_.id rfl
@[simp] theorem qiF (id:Nat) (x:Value) (L:D) (cs:List D) (o:Nat):Hy id x L (.cptr cs o)= .cptr cs o:=_root_.id rfl
@[simp] theorem qiG (id:Nat) (x:Value) (L:D) (i b o:Nat):Hy id x L (.bptr i b o)= .bptr i b o:=_root_.id rfl
@[simp] theorem qiC (id:Nat) (x:Value) (L:D) (T:List Int):Hy id x L (.tape T)= .tape T:=_root_.id rfl
@[simp] theorem qiI (t b off i b':Nat) (cs:List D) (σ:Sg) (H:ab) (K:Sg→ab→Prop):VX t b off i σ (some (.box b' cs)) H K=(b'=b∧K (l5 σ t (.cptr cs off)) (au H i none)):=id rfl
def Qu (r sz:Nat) (d y:D) (H:ab) (K:D→ab→Prop):Prop:=match d with
 | .bptr id b off=> id=r∧yO sz r b off y (H r) H K
 | .eptr id x n i off=> id=r∧Ux sz r x n i off y (H r) H K
 | _=> False
@[simp] theorem qd6 (r sz i b off:Nat) (y:D) (H:ab) (K:D→ab→Prop):Qu r sz (.bptr i b off) y H K=(i=r∧yO sz r b off y (H r) H K):=id rfl
def qjt (dst:Option Nat) (el n bytes:Nat) (es2:List D) (H:ab) (K:D→ab→Prop):Prop:=match dst with
 | some t=> es2.length*bytes≤140737488355328∧es2.length≤140737488355328∧ ∀v,K (.own t v) (au H t (some (.row v el n es2)))
 | none=> False
def WR (dst:Option Nat) (el n bytes:Nat) (d:D) (es2:List D) (H:ab) (K:D→ab→Prop):Prop:=match d with
 | .own id x=> WS el n bytes id x es2 (H id) H K
 | .v (.slice none 0 0)=> qjt dst el n bytes es2 H K
 | .sub id x n' lo hi=> qjr el n bytes id x n' lo hi es2 (H id) H K
 | _=> False
@[simp] theorem qjp (dst:Option Nat) (el n bytes i:Nat) (x:Value) (es2:List D) (H:ab) (K:D→ab→Prop):WR dst el n bytes (.own i x) es2 H K=WS el n bytes i x es2 (H i) H K:=id rfl
@[simp] theorem qjq (t:Nat) (el n bytes:Nat) (es2:List D) (H:ab) (K:D→ab→Prop):WR (some t) el n bytes (.v (.slice none 0 0)) es2 H K=(es2.length*bytes≤140737488355328∧es2.length≤140737488355328∧ ∀v,K (.own t v) (au H t (some (.row v el n es2)))):=id rfl
@[simp] theorem qjs (el n bytes i:Nat) (x x':Value) (es2:List D) (el' n':Nat) (es:List D) (H:ab) (K:D→ab→Prop):WS el n bytes i x es2 (some (.row x' el' n' es)) H K=(x'=x∧el'=el∧n'=n∧(es.length+es2.length) *bytes≤140737488355328∧es.length+es2.length≤140737488355328∧ ∀v,K (.own i v) (au H i (some (.row v el n (es++es2))))):=id rfl
def Bx (S:Nat→Spc) (f:D) (d:Nat) (args:List D) (H:ab) (K:D→ab→Prop):Prop:=match f with
 | .clo g caps=> (S g).pt d (args++caps) H K
 | _=> False
@[simp] theorem qft (S:Nat→Spc) (g:Nat) (caps:List D) (d:Nat) (args:List D) (H:ab) (K:D→ab→Prop):Bx S (.clo g caps) d args H K=(S g).pt d (args++caps) H K:=id rfl
@[congr] theorem qcz {r:Nat} {dst:Option Nat} {s:Spc} {args:List D} {H:ab} {K:D→ab→Prop} {s₁:Spc} {args₁:List D} (hs:s=s₁) (hargs:args=args₁):Gn r dst s args H K=Gn r dst s₁ args₁ H K:=by subst hs;subst hargs;rfl
@[congr] theorem qeq {dst:Option Nat} {s:Spc} {args:List D} {H:ab} {K:D→ab→Prop} {s₁:Spc} {args₁:List D} (hs:s=s₁) (hargs:args=args₁):Sb dst s args H K=Sb dst s₁ args₁ H K:=by subst hs;subst hargs;rfl
section
variable {S:Nat→Spc} {σ:Sg} {H Hr:ab} {K:D→ab→Prop}
@[simp ↓] theorem qi8 (dst:Option Nat) (x:Operand):bu S (.mv x) dst σ H K=((fun d=> K d H) (ev σ x)):=id rfl
@[simp ↓] theorem qme (dst:Option Nat) (x:Operand):bh S (.mv x) dst σ Hr H K=((fun d=> K d H) (ev σ x)):=id rfl
@[simp ↓] theorem qi7 (dst:Option Nat) (c x y:Operand):bu S (.pick c x y) dst σ H K=(DP (ev σ c) ((fun d=> K d H) (ev σ x)) ((fun d=> K d H) (ev σ y))):=id rfl
@[simp ↓] theorem qgk (dst:Option Nat) (c x y:Operand):bh S (.pick c x y) dst σ Hr H K=(DP (ev σ c) ((fun d=> K d H) (ev σ x)) ((fun d=> K d H) (ev σ y))):=id rfl
@[simp ↓] theorem qfA (dst:Option Nat) (z:List Value) (ps:List (Nat×Nat×Operand)):bu S (.build z ps) dst σ H K=(jR σ ps (z.map tv) fun cs=> (fun d=> K d H) (.agg cs)):=id rfl
@[simp ↓] theorem qem (dst:Option Nat) (z:List Value) (ps:List (Nat×Nat×Operand)):bh S (.build z ps) dst σ Hr H K=(jR σ ps (z.map tv) fun cs=> (fun d=> K d H) (.agg cs)):=id rfl
@[simp ↓] theorem qdD (dst:Option Nat) (el n:Nat) (ps:List Operand):bu S (.bslice el n ps) dst σ H K=(kW n (ps.map (ev σ))∧(fun d=> K d H) (.list n (ps.map (ev σ)))):=id rfl
@[simp ↓] theorem qcw (dst:Option Nat) (el n:Nat) (ps:List Operand):bh S (.bslice el n ps) dst σ Hr H K=(kW n (ps.map (ev σ))∧(fun d=> K d H) (.list n (ps.map (ev σ)))):=id rfl
@[simp ↓] theorem qja (dst:Option Nat) (agg:Bool) (sz:Nat) (x:Operand):bu S (.load agg sz x) dst σ H K=(DS agg sz (ev σ x) H (fun d=> K d H)):=id rfl
@[simp ↓] theorem qgl (dst:Option Nat) (agg:Bool) (sz:Nat) (x:Operand):bh S (.load agg sz x) dst σ Hr H K=(DS agg sz (ev σ x) Hr (fun d=> K d H)):=id rfl
@[simp ↓] theorem qfw (dst:Option Nat) (x:Operand):bu S (.nilck x) dst σ H K=(Sv (ev σ x) (fun d=> K d H)):=id rfl
@[simp ↓] theorem qei (dst:Option Nat) (x:Operand):bh S (.nilck x) dst σ Hr H K=(Sv (ev σ x) (fun d=> K d H)):=id rfl
@[simp ↓] theorem Y3 (dst:Option Nat) (op:BinOp) (x y:Operand):bu S (.arith op x y) dst σ H K=(H5 op (ev σ x) (ev σ y) (fun d=> K d H)):=id rfl
@[simp ↓] theorem qen (dst:Option Nat) (op:BinOp) (x y:Operand):bh S (.arith op x y) dst σ Hr H K=(H5 op (ev σ x) (ev σ y) (fun d=> K d H)):=id rfl
@[simp ↓] theorem qdC (dst:Option Nat) (op:BinOp) (x y:Operand):bu S (.cmp op x y) dst σ H K=(Y0 op (ev σ x) (ev σ y) (fun d=> K d H)):=id rfl
@[simp ↓] theorem ql1 (dst:Option Nat) (neg agg:Bool) (ks:List Oy) (x y:Operand):bu S (.eql neg agg ks x y) dst σ H K=(SV neg (qaS agg ks (ev σ x) (ev σ y)) (fun d=> K d H)):=id rfl
@[simp ↓] theorem qjY (dst:Option Nat) (neg agg:Bool) (ks:List Oy) (x y:Operand):bh S (.eql neg agg ks x y) dst σ Hr H K=(SV neg (qaS agg ks (ev σ x) (ev σ y)) (fun d=> K d H)):=id rfl
@[simp ↓] theorem qi6 (dst:Option Nat) (x y:Operand):bu S (.scat x y) dst σ H K=(MQ (ev σ x) (ev σ y) (fun d=> K d H)):=id rfl
@[simp ↓] theorem qgj (dst:Option Nat) (x y:Operand):bh S (.scat x y) dst σ Hr H K=(MQ (ev σ x) (ev σ y) (fun d=> K d H)):=id rfl
@[simp ↓] theorem qlV (dst:Option Nat) (x:Operand):bu S (.not x) dst σ H K=(Yz (ev σ x) (fun d=> K d H)):=id rfl
@[simp ↓] theorem qlW (dst:Option Nat) (x:Operand):bu S (.neg x) dst σ H K=(YA (ev σ x) (fun d=> K d H)):=id rfl
@[simp ↓] theorem qjb (dst:Option Nat) (k:IntKind) (x:Operand):bu S (.conv k x) dst σ H K=(Rg k (ev σ x) (fun d=> K d H)):=id rfl
@[simp ↓] theorem ql2 (dst:Option Nat) (f:Nat) (xs:List Operand):bu S (.clo f xs) dst σ H K=((fun d=> K d H) (.clo f (xs.map (ev σ)))):=id rfl
@[simp ↓] theorem qfv (dst:Option Nat) (n:Nat) (x:Operand) (lo hi:Option Operand):bu S (.slice n x lo hi) dst σ H K=(Uz n (ev σ x) (lo.map fun o=> uT (ev σ o)) (hi.map fun o=> uT (ev σ o)) H (fun d=> K d H)):=id rfl
@[simp ↓] theorem qdA (dst:Option Nat) (x:Operand) (lo hi:Option Operand):bu S (.sslice x lo hi) dst σ H K=(Ar (ev σ x) (lo.map fun o=> uT (ev σ o)) (hi.map fun o=> uT (ev σ o)) (fun d=> K d H)):=id rfl
@[simp ↓] theorem qcv (dst:Option Nat) (x:Operand) (lo hi:Option Operand):bh S (.sslice x lo hi) dst σ Hr H K=(Ar (ev σ x) (lo.map fun o=> uT (ev σ o)) (hi.map fun o=> uT (ev σ o)) (fun d=> K d H)):=id rfl
@[simp ↓] theorem qfy (dst:Option Nat) (off:Nat) (x:Operand):bu S (.faddr off x) dst σ H K=(Dm off (ev σ x) (fun d=> K d H)):=id rfl
@[simp ↓] theorem qek (dst:Option Nat) (off:Nat) (x:Operand):bh S (.faddr off x) dst σ Hr H K=(Dm off (ev σ x) (fun d=> K d H)):=id rfl
@[simp ↓] theorem qlZ (dst:Option Nat) (agg:Bool) (sz off:Nat) (x:Operand):bu S (.fld agg sz off x) dst σ H K=(YO agg sz off (ev σ x) (fun d=> K d H)):=id rfl
@[simp ↓] theorem qfx (dst:Option Nat) (n:Nat) (x i:Operand):bu S (.iaddr n x i) dst σ H K=(De n (ev σ i) (ev σ x) H (fun d=> K d H)):=id rfl
@[simp ↓] theorem qej (dst:Option Nat) (n:Nat) (x i:Operand):bh S (.iaddr n x i) dst σ Hr H K=(De n (ev σ i) (ev σ x) Hr (fun d=> K d H)):=id rfl
@[simp ↓] theorem qi5 (dst:Option Nat) (x i:Operand):bu S (.sidx x i) dst σ H K=(QC (ev σ i) (ev σ x) (fun d=> K d H)):=id rfl
@[simp ↓] theorem ql0 (dst:Option Nat) (x:Operand) (i:Nat):bu S (.ext x i) dst σ H K=(Wi (ev σ x) i (fun d=> K d H)):=id rfl
@[simp ↓] theorem qjX (dst:Option Nat) (x:Operand) (i:Nat):bh S (.ext x i) dst σ Hr H K=(Wi (ev σ x) i (fun d=> K d H)):=id rfl
@[simp ↓] theorem qlY (dst:Option Nat) (x:Operand):bu S (.len x) dst σ H K=(Nn (ev σ x) H (fun d=> K d H)):=id rfl
@[simp ↓] theorem qjW (dst:Option Nat) (x:Operand):bh S (.len x) dst σ Hr H K=(Nn (ev σ x) Hr (fun d=> K d H)):=id rfl
@[simp ↓] theorem qi4 (dst:Option Nat) (x:Operand):bu S (.slen x) dst σ H K=(Qv (ev σ x) (fun d=> K d H)):=id rfl
@[simp ↓] theorem qjd (dst:Option Nat) (x:Operand):bu S (.bstr x) dst σ H K=(Y8 (ev σ x) H (fun d=> K d H)):=id rfl
@[simp ↓] theorem qi9 (dst:Option Nat) (t:Nat) (x:Operand):bu S (.mkif t x) dst σ H K=(QQ t (ev σ x) (fun d=> K d H)):=id rfl
@[simp ↓] theorem qlX (dst:Option Nat) (mx:Bool) (x y:Operand):bu S (.mm mx [x,y]) dst σ H K=Vk mx (ev σ x) (ev σ y) (fun d=> K d H):=id rfl
@[simp ↓] theorem qje (dst:Option Nat) (el:Nat) (x:Operand):bu S (.box el true x) dst σ H K=((ev σ x).kn=true∧K (.cptr (ev σ x).cells 0) H):=id rfl
@[simp ↓] theorem qfB (t el:Nat) (z:List Value):bu S (.alloc el z) (some t) σ H K= ∀b,K (.bptr t b 0) (au H t (some (.box b (z.map tv)))):=id rfl
@[simp ↓] theorem ql3 (t el:Nat) (x:Operand):bu S (.box el false x) (some t) σ H K=((ev σ x).kn=true∧ ∀b,K (.bptr t b 0) (au H t (some (.box b (ev σ x).cells)))):=id rfl
@[simp ↓] theorem qlU (t el:Nat) (x:Operand):bu S (.tbx el x) (some t) σ H K=((ev σ x).kn=true∧ ∀b,K (.bptr t b 0) (au H t (some (.tbox el b (ev σ x).cells)))):=id rfl
@[simp ↓] theorem qdB (t el n:Nat) (ps:List Operand):bu S (.mslice el n ps) (some t) σ H K=(kW n (ps.map (ev σ))∧ ∀x,K (.own t x) (au H t (some (.row x el n (ps.map (ev σ)))))):=id rfl
@[simp ↓] theorem qjV (dst:Option Nat) (mx:Bool) (x y:Operand):bh S (.mm mx [x,y]) dst σ Hr H K=Vk mx (ev σ x) (ev σ y) (fun d=> K d H):=id rfl
@[simp ↓] theorem qeo (t el:Nat) (z:List Value):bh S (.alloc el z) (some t) σ Hr H K= ∀b,K (.bptr t b 0) (au H t (some (.box b (z.map tv)))):=id rfl
@[simp ↓] theorem qeh (dst:Option Nat) (r sz:Nat) (x y:Operand):bh S (.store (some r) sz x y) dst σ Hr H K=((ev σ y).kn=true∧(ev σ y).cells.length=sz∧Qu r sz (ev σ x) (ev σ y) H K):=by
 simp only[bh]
 congr 2
@[simp ↓] theorem qfu (dst:Option Nat) (rt:Option Nat) (sz:Nat) (x y:Operand):bu S (.store rt sz x y) dst σ H K=((ev σ y).kn=true∧(ev σ y).cells.length=sz∧KC sz (ev σ x) (ev σ y) H K):=id rfl
@[simp ↓] theorem qdE (dst:Option Nat) (rt:Option Nat) (el n bytes:Nat) (x y:Operand):bu S (.append rt el n bytes x y) dst σ H K=l8 n (ev σ y) H fun es2=> WR dst el n bytes (ev σ x) es2 H K:=id rfl
@[simp ↓] theorem qjc (dst:Option Nat) (f:Nat) (args:List Operand):bu S (.call f args) dst σ H K=(S f).pt (dst.getD 0) (args.map (ev σ)) H K:=id rfl
@[simp ↓] theorem qel (dst:Option Nat) (r f:Nat) (args:List Operand):bh S (.callb r f args) dst σ Hr H K=Gn r dst (S f) (args.map (ev σ)) H K:=id rfl
@[simp ↓] theorem qfz (dst:Option Nat) (f:Operand) (args:List Operand):bu S (.callv f args) dst σ H K=Bx S (ev σ f) (dst.getD 0) (args.map (ev σ)) H K:=id rfl
@[simp ↓] theorem qgm (dst:Option Nat) (f:Nat) (args:List Operand):bh S (.call f args) dst σ Hr H K=Sb dst (S f) (args.map (ev σ)) H K:=id rfl
end
theorem qch (σ:Sg) (t s:Nat) (d:D):l5 σ t d s=if s=t then d else σ s:=id rfl
theorem OQ (σ:Sg) (t:Nat) (d:D):f9 σ (some t) d=l5 σ t d:=id rfl
theorem ZV (σ:Sg) (d:D):f9 σ none d=σ:=id rfl
theorem ZW (H:ab) (t s:Nat) (d:Option Res):au H t d s=if s=t then d else H s:=id rfl
attribute [simp] OQ ZV ZW
@[simp] theorem Ug (σ:Sg) (t:Nat):ev σ (.tmp t)=σ t:=id rfl
@[simp] theorem X3 (σ:Sg) (x:Value):ev σ (.const x)=tv x:=id rfl
@[simp] theorem qf7 (σ:Sg) (f:Nat):ev σ (.func f)= .clo f []:=id rfl
@[simp] theorem qf8 (b:Bool):tv (.bool b)= .v (.bool b):=id rfl
@[simp] theorem qcf (k:IntKind) (n:Int):tv (.int k n)= .v (.int k n):=id rfl
@[simp] theorem qjK (s:ByteArray):tv (.string s)= .v (.string s):=id rfl
@[simp] theorem qjL (a:Option Addr):tv (.pointer a)= .v (.pointer a):=id rfl
@[simp] theorem qd4 (a:Option Addr) (l c:Nat):tv (.slice a l c)= .v (.slice a l c):=id rfl
theorem qc2 (σ:Sg):jW [] σ=fun _=> .any:=id rfl
theorem qaF (t:Nat) (l:List Nat) (σ:Sg):jW (t::l) σ=l5 (jW l σ) t (σ t):=id rfl
@[simp] theorem qin (H:ab):jX [] H=fun _=> none:=id rfl
@[simp] theorem YE (t:Nat) (l:List Nat) (H:ab):jX (t::l) H=au (jX l H) t (H t):=id rfl
@[simp] theorem qgu (i:Nat):cF i=none:=id rfl
@[simp] theorem qgC (σ:Sg):rk [] σ=True:=id rfl
@[simp] theorem qeI (t:Nat) (d:D) (l:List (Nat×D)) (σ:Sg):rk ((t,d)::l) σ=(Qg (σ t) d∧rk l σ):=id rfl
@[simp] theorem qgy (H:ab):uG [] H=True:=id rfl
@[simp] theorem qeA (t:Nat) (d:Res) (l:List (Nat×Res)) (H:ab):uG ((t,d)::l) H=((H t=some d∨isNilRow d)∧uG l H):=id rfl
@[simp] theorem sub_self (d:D):Qg d d=True:=by
 cases d <;> simp[Qg]
@[simp] theorem qjQ (a:D) (x:Value):Qg a (.v x)=(a= .v x):=id rfl
@[simp] theorem qcj (a:D) (n:Nat) (x:List D):Qg a (.list n x)=(a= .list n x∨(a= .v (.slice none 0 0)∧x= [])):=id rfl
@[simp] theorem qd5 (i:Nat) (x:Value) (y:Value) (j:Nat):Qg (.own i x) (.own j y)=(x=y):=by simp[Qg]
@[simp] theorem qci (x:Value) (y:Value) (j:Nat):Qg (.v x) (.own j y)=(x=y):=by simp[Qg]
@[simp] theorem qmp (sz:Nat) (cs:List D) (off:Nat):IV true sz cs off= .agg ((cs.drop off).take sz):=id rfl
@[simp] theorem qmq (sz:Nat) (cs:List D) (off:Nat):IV false sz cs off=(cs[off]?).getD .any:=id rfl
@[simp ↓] theorem qec (rs:List aI) (K:D→ab→Prop) (σ:Sg) (H:ab):uX rs K .norm σ H=ln rs σ H fun ds=> K (cR ds) H:=id rfl
@[simp ↓] theorem qge (rs:List aI) (K:D→ab→Prop) (σ:Sg) (H:ab):uX rs K .ret σ H=ln rs σ H fun ds=> K (cR ds) H:=id rfl
@[simp ↓] theorem qgd (σ:Sg) (H:ab) (K:List D→Prop):ln [] σ H K=K []:=id rfl
@[simp ↓] theorem qgc (t:Nat) (r:List aI) (σ:Sg) (H:ab) (K:List D→Prop):ln (.tmp t::r) σ H K=ln r σ H fun ds=> K (σ t::ds):=id rfl
@[simp ↓] theorem qeb (t:Nat) (agg:Bool) (sz:Nat) (r:List aI) (σ:Sg) (H:ab) (K:List D→Prop):ln (.cell t agg sz::r) σ H K=DS agg sz (σ t) H fun d=> ln r σ H fun ds=> K (d::ds):=id rfl
@[simp] theorem qmi (d:D):cR [d]=d:=id rfl
@[simp] theorem qmj:cR []= .tup []:=id rfl
@[simp] theorem qmh (d e:D) (l:List D):cR (d::e::l)= .tup (d::e::l):=id rfl
@[simp] theorem qmB (x:Value):D.kn (.v x)=true:=id rfl
@[simp] theorem qfs (x:Value):D.cells (.v x)= [.v x]:=id rfl
@[simp] theorem qim (cs:List D):D.kn (.agg cs)=true:=id rfl
@[simp] theorem qbV (cs:List D):D.cells (.agg cs)=cs:=id rfl
@[simp] theorem qeR (n:Nat) (es:List D):D.kn (.list n es)=true:=id rfl
@[simp] theorem qbh (n:Nat) (es:List D):D.cells (.list n es)= [.list n es]:=id rfl
@[simp] theorem qeS (i b o:Nat):D.kn (.bptr i b o)=true:=id rfl
@[simp] theorem qbi (i b o:Nat):D.cells (.bptr i b o)= [.bptr i b o]:=id rfl
@[simp] theorem qil (i:Nat) (x:Value):D.kn (.own i x)=true:=id rfl
@[simp] theorem qbU (i:Nat) (x:Value):D.cells (.own i x)= [.own i x]:=id rfl
@[simp] theorem ql5 (k:IntKind) (n:Int):uT (.v (.int k n))=some (k,n):=id rfl
attribute [simp] setAt
@[simp] theorem qiT (n:Int):enc n= .v (.int .i64 n):=rfl
@[simp] theorem qfk (b:Bool):enc b= .v (.bool b):=rfl
@[simp] theorem qiS (s:ByteArray):enc s= .v (.string s):=rfl
@[simp] theorem qfj {X:Type} [Cod X] (l:List X):enc l= .list (Cod.wd X) (l.map enc):=rfl
@[simp] theorem qf2:Cod.wd Int=1:=rfl
@[simp] theorem qd0:Cod.wd Bool=1:=rfl
@[simp] theorem qf1:Cod.wd ByteArray=1:=rfl
@[simp] theorem qdZ {X:Type} [Cod X]:Cod.wd (List X)=1:=rfl
@[congr] theorem qeX {d:D} {A:Prop} {B:Prop} {d₁:D} (hd:d=d₁):Ns d A B=Ns d₁ A B:=by subst hd;rfl
@[congr] theorem qbR {s:Nat} {b:Bool} {σ:Sg} {d:D} {yes:Sg→Prop} {no:Sg→Prop} {d₁:D} (hd:d=d₁):mF s b σ d yes no=mF s b σ d₁ yes no:=by subst hd;rfl
@[congr] theorem qcA {d:D} {A:Prop} {B:Prop} {d₁:D} (hd:d=d₁):DP d A B=DP d₁ A B:=by subst hd;rfl
@[congr] theorem qc0 {agg:Bool} {sz:Nat} {b:Nat} {off:Nat} {r:Option Res} {K:D→Prop} {r₁:Option Res} (hr:r=r₁):Nj agg sz b off r K=Nj agg sz b off r₁ K:=by subst hr;rfl
@[congr] theorem qcZ {agg:Bool} {sz:Nat} {x:Value} {n:Nat} {i:Nat} {off:Nat} {r:Option Res} {K:D→Prop} {r₁:Option Res} (hr:r=r₁):Ni agg sz x n i off r K=Ni agg sz x n i off r₁ K:=by subst hr;rfl
@[congr] theorem qcY {agg:Bool} {sz:Nat} {d:D} {H:ab} {K:D→Prop} {d₁:D} (hd:d=d₁):DS agg sz d H K=DS agg sz d₁ H K:=by subst hd;rfl
@[congr] theorem qey {d:D} {K:D→Prop} {d₁:D} (hd:d=d₁):Sv d K=Sv d₁ K:=by subst hd;rfl
@[congr] theorem qb1 {op:BinOp} {d:D} {e:D} {K:D→Prop} {d₁:D} {e₁:D} (hd:d=d₁) (he:e=e₁):H5 op d e K=H5 op d₁ e₁ K:=by subst hd;subst he;rfl
@[congr] theorem qfr {o:Option Bool} {K:D→Prop} {o₁:Option Bool} (ho:o=o₁):Tc o K=Tc o₁ K:=by subst ho;rfl
@[congr] theorem qfq {op:BinOp} {d:D} {e:D} {K:D→Prop} {d₁:D} {e₁:D} (hd:d=d₁) (he:e=e₁):Y0 op d e K=Y0 op d₁ e₁ K:=by subst hd;subst he;rfl
@[congr] theorem qfg {neg:Bool} {o:Option Bool} {K:D→Prop} {o₁:Option Bool} (ho:o=o₁):SV neg o K=SV neg o₁ K:=by subst ho;rfl
@[congr] theorem qct {d:D} {e:D} {K:D→Prop} {d₁:D} {e₁:D} (hd:d=d₁) (he:e=e₁):MQ d e K=MQ d₁ e₁ K:=by subst hd;subst he;rfl
@[congr] theorem qex {d:D} {K:D→Prop} {d₁:D} (hd:d=d₁):Yz d K=Yz d₁ K:=by subst hd;rfl
@[congr] theorem qez {d:D} {K:D→Prop} {d₁:D} (hd:d=d₁):YA d K=YA d₁ K:=by subst hd;rfl
@[congr] theorem qdo {k:IntKind} {d:D} {K:D→Prop} {d₁:D} (hd:d=d₁):Rg k d K=Rg k d₁ K:=by subst hd;rfl
@[congr] theorem qbS {off:Nat} {d:D} {K:D→Prop} {d₁:D} (hd:d=d₁):Dm off d K=Dm off d₁ K:=by subst hd;rfl
@[congr] theorem qe5 {agg:Bool} {sz:Nat} {off:Nat} {d:D} {K:D→Prop} {d₁:D} (hd:d=d₁):YO agg sz off d K=YO agg sz off d₁ K:=by subst hd;rfl
@[congr] theorem qbQ {n:Nat} {k:Int} {id:Nat} {x:Value} {r:Option Res} {K:D→Prop} {r₁:Option Res} (hr:r=r₁):Ht n k id x r K=Ht n k id x r₁ K:=by subst hr;rfl
@[congr] theorem qbP {n:Nat} {i:D} {d:D} {H:ab} {K:D→Prop} {i₁:D} {d₁:D} (hi:i=i₁) (hd:d=d₁):De n i d H K=De n i₁ d₁ H K:=by subst hi;subst hd;rfl
@[congr] theorem qcq {i:D} {d:D} {K:D→Prop} {i₁:D} {d₁:D} (hi:i=i₁) (hd:d=d₁):QC i d K=QC i₁ d₁ K:=by subst hi;subst hd;rfl
@[congr] theorem qfb {o:Option D} {K:D→Prop} {o₁:Option D} (ho:o=o₁):Wj o K=Wj o₁ K:=by subst ho;rfl
@[congr] theorem qfa {d:D} {i:Nat} {K:D→Prop} {d₁:D} (hd:d=d₁):Wi d i K=Wi d₁ i K:=by subst hd;rfl
@[congr] theorem qeQ {x:Value} {r:Option Res} {K:D→Prop} {r₁:Option Res} (hr:r=r₁):Vy x r K=Vy x r₁ K:=by subst hr;rfl
@[congr] theorem qeP {d:D} {H:ab} {K:D→Prop} {d₁:D} (hd:d=d₁):Nn d H K=Nn d₁ H K:=by subst hd;rfl
@[congr] theorem qfD {x:Value} {r:Option Res} {K:D→Prop} {r₁:Option Res} (hr:r=r₁):WJ x r K=WJ x r₁ K:=by subst hr;rfl
@[congr] theorem qfC {d:D} {H:ab} {K:D→Prop} {d₁:D} (hd:d=d₁):Y8 d H K=Y8 d₁ H K:=by subst hd;rfl
@[congr] theorem qcS {t:Nat} {d:D} {K:D→Prop} {d₁:D} (hd:d=d₁):QQ t d K=QQ t d₁ K:=by subst hd;rfl
@[congr] theorem qcp {d:D} {K:D→Prop} {d₁:D} (hd:d=d₁):Qv d K=Qv d₁ K:=by subst hd;rfl
@[congr] theorem qeB {mx:Bool} {d:D} {e:D} {K:D→Prop} {d₁:D} {e₁:D} (hd:d=d₁) (he:e=e₁):Vk mx d e K=Vk mx d₁ e₁ K:=by subst hd;subst he;rfl
@[congr] theorem qbH {sz:Nat} {id:Nat} {b:Nat} {off:Nat} {y:D} {r:Option Res} {H:ab} {K:D→ab→Prop} {y₁:D} {r₁:Option Res} (hy:y=y₁) (hr:r=r₁):yO sz id b off y r H K=yO sz id b off y₁ r₁ H K:=by subst hy;subst hr;rfl
@[congr] theorem qbG {sz:Nat} {d:D} {y:D} {H:ab} {K:D→ab→Prop} {d₁:D} {y₁:D} (hd:d=d₁) (hy:y=y₁):KC sz d y H K=KC sz d₁ y₁ H K:=by subst hd;subst hy;rfl
@[congr] theorem qfJ {el:Nat} {n:Nat} {bytes:Nat} {id:Nat} {x:Value} {es2:List D} {r:Option Res} {H:ab} {K:D→ab→Prop} {es2₁:List D} {r₁:Option Res} (hes2:es2=es2₁) (hr:r=r₁):WS el n bytes id x es2 r H K=WS el n bytes id x es2₁ r₁ H K:=by subst hes2;subst hr;rfl
@[congr] theorem qe3 {t:Nat} {x:Value} {id:Nat} {σ:Sg} {r:Option Res} {H:ab} {K:Sg→ab→Prop} {r₁:Option Res} (hr:r=r₁):VV t x id σ r H K=VV t x id σ r₁ H K:=by subst hr;rfl
@[congr] theorem qe4 {t:Nat} {b:Nat} {off:Nat} {id:Nat} {σ:Sg} {r:Option Res} {H:ab} {K:Sg→ab→Prop} {r₁:Option Res} (hr:r=r₁):VX t b off id σ r H K=VX t b off id σ r₁ H K:=by subst hr;rfl
@[congr] theorem qe1 {t:Nat} {n:Nat} {d:D} {σ:Sg} {H:ab} {K:Sg→ab→Prop} {d₁:D} (hd:d=d₁):VU t n d σ H K=VU t n d₁ σ H K:=by subst hd;rfl
@[congr] theorem qcn {r:Nat} {sz:Nat} {d:D} {y:D} {H:ab} {K:D→ab→Prop} {d₁:D} {y₁:D} (hd:d=d₁) (hy:y=y₁):Qu r sz d y H K=Qu r sz d₁ y₁ H K:=by subst hd;subst hy;rfl
@[congr] theorem qfI {dst:Option Nat} {el:Nat} {n:Nat} {bytes:Nat} {d:D} {es2:List D} {H:ab} {K:D→ab→Prop} {dst₁:Option Nat} {d₁:D} {es2₁:List D} (hdst:dst=dst₁) (hd:d=d₁) (hes2:es2=es2₁):WR dst el n bytes d es2 H K=WR dst₁ el n bytes d₁ es2₁ H K:=by subst hdst;subst hd;subst hes2;rfl
@[congr] theorem qdz {S:Nat→Spc} {f:D} {d:Nat} {args:List D} {H:ab} {K:D→ab→Prop} {f₁:D} {args₁:List D} (hf:f=f₁) (hargs:args=args₁):Bx S f d args H K=Bx S f₁ d args₁ H K:=by subst hf;subst hargs;rfl
@[congr] theorem qco {n:Nat} {d d':D} {H:ab} {K:List D→Prop} (h:d=d'):l8 n d H K=l8 n d' H K:=by subst h;rfl
@[congr] theorem qb5 {s s':Spc} {d:Nat} {ds ds':List D} {H:ab} {K:D→ab→Prop} (h:s=s') (h':ds=ds'):s.pt d ds H K=s'.pt d ds' H K:=by subst h;subst h';rfl
end Go.Gv

namespace Go.Gv
open Cod (enc dec)
@[simp] theorem qc8 (H:ab) (x y:Value):FrzTo H (.v x) (.v y)=(x=y):=by
 refine propext ⟨fun h=> ?_,fun h=> h ▸ .same _⟩
 cases h;rfl
@[simp] theorem qe0 (H:ab) (d:D):FrzTo H d d=True:=propext ⟨fun _=> trivial,fun _=> .same d⟩
@[simp] theorem qiw (H:ab) (n:Nat) (es:List D):FrzTo H (.v (.slice none 0 0)) (.list n es)=(es= []):=by
 refine propext ⟨fun h=> ?_,fun h=> h ▸ .nil n⟩
 cases h;rfl
theorem YJ {H:ab} {a b a' b':D} (h1:FrzTo H a a') (h2:FrzTo H b b'):FrzTo H (.tup [a,b]) (.tup [a',b']):=
 .tup rfl fun k c c' hc hc'=> by
  match k with
  | 0=> simp at hc hc';subst hc;subst hc';exact h1
  | 1=> simp at hc hc';subst hc;subst hc';exact h2
  | k+2=> simp at hc
theorem YI {H:ab} {a b c a' b' c':D} (h1:FrzTo H a a') (h2:FrzTo H b b') (h3:FrzTo H c c'):FrzTo H (.tup [a,b,c]) (.tup [a',b',c']):=
 .tup rfl fun k d d' hc hc'=> by
  match k with
  | 0=> simp at hc hc';subst hc;subst hc';exact h1
  | 1=> simp at hc hc';subst hc;subst hc';exact h2
  | 2=> simp at hc hc';subst hc;subst hc';exact h3
  | k+3=> simp at hc
section
variable {P:Program} {S:Nat→Spc} {f:Nat} {im:List Nat} {cc:CC} {rs:List aI} {N:Nat}
end
end Go.Gv
