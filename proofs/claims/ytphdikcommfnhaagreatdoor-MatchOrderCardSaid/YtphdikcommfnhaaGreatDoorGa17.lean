/- A part of the framework and of the walks: T10. -/
import Derived.Test.YtphdikcommfnhaaGreatDoorGa16
set_option linter.unusedSimpArgs false
set_option linter.unusedVariables false

namespace Go.Gv
open Cod (enc dec)
section
variable {S:Nat->Spc} {K:Ex->Sg->aa->Prop} {σ:Sg} {H:aa}
def RS (S:Nat->Spc) (b:CC) (K:Ex->Sg->aa->Prop):Ex->Sg->aa->Prop:=fun e σ H=> match e with
 | .norm=> vc S b K σ H
 | e=> K e σ H
def Q9 (id:Nat) (K:Ex->Sg->aa->Prop):Ex->Sg->aa->Prop:=fun e σ H=> match e with
 | .ex i=> if i=id then K .norm σ H else K (.ex i) σ H
 | e=> K e σ H
def Qs (inv:ZM) (x:inv.X) (K:Ex->Sg->aa->Prop):Ex->Sg->aa->Prop:=fun e σ' H'=> match e with
 | .norm=> ∃y,inv.P y/\Wk σ' H' (inv.s y) (inv.h y)/\inv.m y < inv.m x
 | e=> K e σ' H'
def KZ (d:D) (A B:Prop):Prop:=match d with
 | .v (.bool t)=> (t=true->A)/\(t=false->B)
 | _=> False
@[simp ↓] theorem Y7:vc S .skip K σ H=K .norm σ H:=id rfl
@[simp ↓] theorem XD (l:List CI):vc S (.reg l) K σ H=yq S l σ H (K .norm):=id rfl
@[simp ↓] theorem qi4 (p l:List CI):vc S (.regd p l) K σ H=kU S p σ (bS p H) H fun σ H=> yq S l σ H (K .norm):=id rfl
@[simp ↓] theorem Lu (a b:CC):vc S (.seq a b) K σ H=vc S a (RS S b K) σ H:=id rfl
@[simp ↓] theorem FC (b:CC):RS S b K .norm σ H=vc S b K σ H:=id rfl
@[simp ↓] theorem TI (b:CC) (i:Nat):RS S b K (.ex i) σ H=K (.ex i) σ H:=id rfl
@[simp ↓] theorem Y8 (b:CC):RS S b K .ret σ H=K .ret σ H:=id rfl
@[simp ↓] theorem qb5 (c:Operand) (a b:CC):vc S (.ite c a b) K σ H=KZ (ev σ c) (vc S a K σ H) (vc S b K σ H):=id rfl
@[simp] theorem Zb (t:Bool) (A B:Prop):KZ (.v (.bool t)) A B=((t=true->A)/\(t=false->B)):=id rfl
@[simp high] theorem qi6 (A B:Prop):KZ (.v (.bool true)) A B=A:=by simp[KZ]
@[simp high] theorem qi7 (A B:Prop):KZ (.v (.bool false)) A B=B:=by simp[KZ]
@[simp ↓] theorem JE (id:Nat) (b:CC):vc S (.block id b) K σ H=vc S b (Q9 id K) σ H:=_root_.id rfl
@[simp ↓] theorem Zd (id:Nat):Q9 id K .norm σ H=K .norm σ H:=_root_.id rfl
@[simp ↓] theorem TL (id:Nat):Q9 id K .ret σ H=K .ret σ H:=_root_.id rfl
@[simp ↓] theorem NS (id i:Nat):Q9 id K (.ex i) σ H=if i=id then K .norm σ H else K (.ex i) σ H:=_root_.id rfl
@[simp ↓] theorem Zc (i:Nat):vc S (.exit i) K σ H=K (.ex i) σ H:=id rfl
@[simp ↓] theorem qmq:vc S .ret K σ H=K .ret σ H:=id rfl
@[simp ↓] theorem qi5 (ls lh:List Nat) (c:CC):vc S (.keep ls lh c) K σ H=vc S c K (iM ls σ) (jo lh H):=id rfl
theorem JD (k:Nat) (b:CC):vc S (.loop k b) K σ H= ∃inv:ZM,(∃x,inv.P x/\Wk σ H (inv.s x) (inv.h x))/\ ∀x,inv.P x->vc S b (Qs inv x K) (inv.s x) (inv.h x):=id rfl
theorem TK (k:Nat) (c:CC):vc S (.cut k c) K σ H= ∃ (σ':Sg) (H':aa),Wk σ H σ' H'/\vc S c K σ' H':=id rfl
@[simp ↓] theorem Za (inv:ZM) (x:inv.X):Qs inv x K .norm σ H= ∃y,inv.P y/\Wk σ H (inv.s y) (inv.h y)/\inv.m y < inv.m x:=id rfl
@[simp ↓] theorem Y9 (inv:ZM) (x:inv.X):Qs inv x K .ret σ H=K .ret σ H:=id rfl
@[simp ↓] theorem TJ (inv:ZM) (x:inv.X) (i:Nat):Qs inv x K (.ex i) σ H=K (.ex i) σ H:=id rfl
end
def lO (s:Nat) (b:Bool) (σ:Sg) (d:D) (yes no:Sg->Prop):Prop:=match d with
 | .v (.bool t)=> (t=b->yes (upd σ s (.v (.bool b))))/\(t=(!b)->no (upd σ s (.v (.bool (!b)))))
 | .undef=> no σ
 | _=> False
@[simp high] theorem qng (s:Nat) (σ:Sg) (yes no:Sg->Prop):lO s true σ (.v (.bool true)) yes no=yes (upd σ s (.v (.bool true))):=by simp[lO]
@[simp high] theorem qnh (s:Nat) (σ:Sg) (yes no:Sg->Prop):lO s true σ (.v (.bool false)) yes no=no (upd σ s (.v (.bool false))):=by simp[lO]
@[simp high] theorem qni (s:Nat) (σ:Sg) (yes no:Sg->Prop):lO s false σ (.v (.bool true)) yes no=no (upd σ s (.v (.bool true))):=by simp[lO]
@[simp high] theorem qnj (s:Nat) (σ:Sg) (yes no:Sg->Prop):lO s false σ (.v (.bool false)) yes no=yes (upd σ s (.v (.bool false))):=by simp[lO]
@[simp] theorem qnf (s:Nat) (b:Bool) (σ:Sg) (yes no:Sg->Prop):lO s b σ .undef yes no=no σ:=id rfl
@[simp] theorem qno (s:Nat) (b t:Bool) (σ:Sg) (yes no:Sg->Prop):lO s b σ (.v (.bool t)) yes no=((t=b->yes (upd σ s (.v (.bool b))))/\(t=(!b)->no (upd σ s (.v (.bool (!b)))))):=id rfl
section
variable {S:Nat->Spc} {σ:Sg} {H Hr:aa}
@[simp ↓] theorem XB (K:Sg->aa->Prop):yq S [] σ H K=K σ H:=id rfl
@[simp ↓] theorem YO (K:Sg->aa->Prop) (d:Option Nat) (c:COp) (r:List CI):yq S (.op d none c::r) σ H K=aM S c d σ H fun x H'=> yq S r (fh σ d x) H' K:=id rfl
@[simp ↓] theorem qkC (K:Sg->aa->Prop) (d:Option Nat) (s:Nat) (b:Bool) (c:COp) (r:List CI):yq S (.op d (some (s,b)) c::r) σ H K=lO s b σ (σ s) (fun σ=> aM S c d σ H fun x H'=> yq S r (fh σ d x) H' K) (fun σ=> yq S r (fh σ d .undef) H K):=id rfl
@[simp ↓] theorem qkD (K:Sg->aa->Prop) (t n:Nat) (r:List CI):yq S (.frz t n::r) σ H K=Ck t n σ H fun σ' H'=> yq S r σ' H' K:=id rfl
@[simp ↓] theorem qkt (K:Sg->aa->Prop):kU S [] σ Hr H K=K σ H:=id rfl
@[simp ↓] theorem qku (K:Sg->aa->Prop) (a b:Nat) (r:List CI):kU S (.frz a b::r) σ Hr H K=kU S r σ (bS r Hr) H K:=id rfl
@[simp ↓] theorem qmS (K:Sg->aa->Prop) (d:Option Nat) (c:COp) (r:List CI):kU S (.op d none c::r) σ Hr H K=aJ S c d σ Hr H fun x H'=> kU S r (fh σ d x) Hr H' K:=id rfl
@[simp ↓] theorem qks (K:Sg->aa->Prop) (d:Option Nat) (s:Nat) (b:Bool) (c:COp) (r:List CI):kU S (.op d (some (s,b)) c::r) σ Hr H K=lO s b σ (σ s) (fun σ=> aJ S c d σ Hr H fun x H'=> kU S r (fh σ d x) Hr H' K) (fun σ=> kU S r (fh σ d .undef) Hr H K):=id rfl
end
def B7 (d:D) (A B:Prop):Prop:=match d with
 | .v (.bool t)=> (t=true->A)/\(t=false->B)
 | _=> False
@[simp high] theorem qdF (A B:Prop):B7 (.v (.bool true)) A B=A:=by simp[B7]
@[simp high] theorem qdG (A B:Prop):B7 (.v (.bool false)) A B=B:=by simp[B7]
def KU (agg:Bool) (sz b off:Nat) (r:Option Res) (K:D->Prop):Prop:=match r with
 | some (.box b' cells)=> b'=b/\off+sz<=cells.length/\K (HB agg sz cells off)
 | _=> False
def KT (agg:Bool) (sz:Nat) (x:Value) (n i off:Nat) (r:Option Res) (K:D->Prop):Prop:=match r with
 | some (.row x' _ n' es)=> x'=x/\n'=n/\off+sz<=n/\i < es.length/\ ∀d,es[i]?=some d->K (HB agg sz d.cells off)
 | _=> False
def Cf (agg:Bool) (sz:Nat) (d:D) (H:aa) (K:D->Prop):Prop:=match d with
 | .cptr cs off=> off+sz<=cs.length/\K (HB agg sz cs off)
 | .bptr id b off=> KU agg sz b off (H id) K
 | .eptr id x n i off=> KT agg sz x n i off (H id) K
 | _=> False
@[simp] theorem qd4 (agg:Bool) (sz:Nat) (cs:List D) (off:Nat) (H:aa) (K:D->Prop):Cf agg sz (.cptr cs off) H K=(off+sz<=cs.length/\K (HB agg sz cs off)):=id rfl
@[simp] theorem qd5 (agg:Bool) (sz:Nat) (i b off:Nat) (H:aa) (K:D->Prop):Cf agg sz (.bptr i b off) H K=KU agg sz b off (H i) K:=id rfl
@[simp] theorem qd3 (agg:Bool) (sz:Nat) (i:Nat) (x:Value) (n k off:Nat) (H:aa) (K:D->Prop):Cf agg sz (.eptr i x n k off) H K=KT agg sz x n k off (H i) K:=id rfl
@[simp] theorem qd7 (agg:Bool) (sz b off b':Nat) (cells:List D) (K:D->Prop):KU agg sz b off (some (.box b' cells)) K=(b'=b/\off+sz<=cells.length/\K (HB agg sz cells off)):=id rfl
@[simp] theorem qd6 (agg:Bool) (sz:Nat) (x:Value) (n i off:Nat) (x':Value) (el n':Nat) (es:List D) (K:D->Prop):KT agg sz x n i off (some (.row x' el n' es)) K=(x'=x/\n'=n/\off+sz<=n/\i < es.length/\ ∀d,es[i]?=some d->K (HB agg sz d.cells off)):=id rfl
def Ql (d:D) (K:D->Prop):Prop:=match d with
 | .cptr cs off=> K (.cptr cs off)
 | .bptr id b off=> K (.bptr id b off)
 | .eptr id x n i off=> K (.eptr id x n i off)
 | .tape L=> K (.tape L)
 | .clo f caps=> K (.clo f caps)
 | _=> False
@[simp] theorem qgA (cs:List D) (off:Nat) (K:D->Prop):Ql (.cptr cs off) K=K (.cptr cs off):=id rfl
@[simp] theorem qgB (i b off:Nat) (K:D->Prop):Ql (.bptr i b off) K=K (.bptr i b off):=id rfl
def FV (op:BinOp) (d e:D) (K:D->Prop):Prop:=match d,e with
 | .v (.int k a), .v (.int k' b)=> U9 op k k'/\jl op k a b K
 | _,_=> False
@[simp] theorem Uw (op:BinOp) (k k':IntKind) (a b:Int) (K:D->Prop):FV op (.v (.int k a)) (.v (.int k' b)) K=(U9 op k k'/\jl op k a b K):=id rfl
@[simp] theorem Wg (k k':IntKind):U9 .add k k'=(k=k'):=id rfl
@[simp] theorem qef (k k':IntKind):U9 .sub k k'=(k=k'):=id rfl
@[simp] theorem qei (k k':IntKind):U9 .mul k k'=(k=k'):=id rfl
@[simp] theorem qej (k k':IntKind):U9 .and k k'=(k=k'):=id rfl
@[simp] theorem qir (k k':IntKind):U9 .or k k'=(k=k'):=id rfl
@[simp] theorem qeh (k k':IntKind):U9 .shl k k'=True:=id rfl
@[simp] theorem qeg (k k':IntKind):U9 .shr k k'=True:=id rfl
@[simp ↓] theorem Rb (k:IntKind) (a b:Int) (K:D->Prop):jl .add k a b K=(InR k (a+b)/\K (.v (.int k (a+b)))):=id rfl
@[simp ↓] theorem qar (k:IntKind) (a b:Int) (K:D->Prop):jl .sub k a b K=(InR k (a -b)/\K (.v (.int k (a -b)))):=id rfl
@[simp ↓] theorem qau (k:IntKind) (a b:Int) (K:D->Prop):jl .mul k a b K=(InR k (a*b)/\K (.v (.int k (a*b)))):=id rfl
@[simp ↓] theorem qav (k:IntKind) (a b:Int) (K:D->Prop):jl .and k a b K=K (.v (.int k (N3 k a b))):=id rfl
@[simp ↓] theorem qcx (k:IntKind) (a b:Int) (K:D->Prop):jl .or k a b K=K (.v (.int k (qbi k a b))):=id rfl
@[simp ↓] theorem qat (k:IntKind) (a b:Int) (K:D->Prop):jl .shl k a b K=(0<=b/\K (.v (.int k (Kq k a b)))):=id rfl
@[simp ↓] theorem qas (k:IntKind) (a b:Int) (K:D->Prop):jl .shr k a b K=(0<=b/\K (.v (.int k (RO k a b)))):=id rfl
def VE (d:D) (K:D->Prop):Prop:=match d with
 | .v (.int _ n)=> K (.v (.string (Utf8.encode n)))
 | _=> False
@[simp] theorem qgd (k:IntKind) (n:Int) (K:D->Prop):VE (.v (.int k n)) K=K (.v (.string (Utf8.encode n))):=id rfl
def NV (o:Option Bool) (K:D->Prop):Prop:=match o with | some t=> K (.v (.bool t)) | none=> False
@[simp] theorem Zn (t:Bool) (K:D->Prop):NV (some t) K=K (.v (.bool t)):=id rfl
def Q1 (op:BinOp) (d e:D) (K:D->Prop):Prop:=match d,e with
 | .v (.int k a), .v (.int k' b)=> k=k'/\NV (LQ op a b) K
 | .v (.string a), .v (.string b)=> NV (Ub op a b) K
 | _,_=> False
@[simp] theorem Zm (op:BinOp) (k k':IntKind) (a b:Int) (K:D->Prop):Q1 op (.v (.int k a)) (.v (.int k' b)) K=(k=k'/\NV (LQ op a b) K):=id rfl
@[simp] theorem qjd (op:BinOp) (a b:ByteArray) (K:D->Prop):Q1 op (.v (.string a)) (.v (.string b)) K=NV (Ub op a b) K:=id rfl
@[simp] theorem Ue (a b:Int):LQ .lss a b=some (decide (a < b)):=id rfl
@[simp] theorem qce (a b:Int):LQ .leq a b=some (decide (a<=b)):=id rfl
@[simp] theorem qcf (a b:Int):LQ .gtr a b=some (decide (b < a)):=id rfl
@[simp] theorem qcg (a b:Int):LQ .geq a b=some (decide (b<=a)):=id rfl
@[simp] theorem qcd (a b:ByteArray):Ub .geq a b=some (!Op.bytesLess a.toList b.toList):=id rfl
def QV (neg:Bool) (o:Option Bool) (K:D->Prop):Prop:=match o with
 | some p=> K (.v (.bool (if neg then !p else p)))
 | none=> False
@[simp] theorem qiX (p:Bool) (K:D->Prop):QV false (some p) K=K (.v (.bool p)):=id rfl
@[simp] theorem qiW (p:Bool) (K:D->Prop):QV true (some p) K=K (.v (.bool (!p))):=id rfl
@[simp] theorem qmm (k:Mk) (a b:D):Y3 false [k] a b=Rg k a b:=id rfl
@[simp] theorem qml (ks:List Mk) (a b:List D):Y3 true ks (.agg a) (.agg b)=WE ks a b:=id rfl
@[simp] theorem qmk:WE [] [] []=some true:=id rfl
@[simp] theorem qmj (k:Mk) (ks:List Mk) (a b:D) (as bs:List D):WE (k::ks) (a::as) (b::bs)=(Rg k a b).bind fun p=> (WE ks as bs).bind fun q=> some (p && q):=id rfl
@[simp] theorem qmo (k k':IntKind) (a b:Int):Rg .int (.v (.int k a)) (.v (.int k' b))=if k=k' then some (decide (a=b)) else none:=id rfl
@[simp] theorem qmn (a b:ByteArray):Rg .str (.v (.string a)) (.v (.string b))=some (decide (a=b)):=id rfl
@[simp] theorem qmp (a b:Bool):Rg .bool (.v (.bool a)) (.v (.bool b))=some (decide (a=b)):=id rfl
def Om (d e:D) (K:D->Prop):Prop:=match d,e with
 | .v (.string a), .v (.string b)=> a.size+b.size<=1000000000/\K (.v (.string (a++b)))
 | _,_=> False
@[simp] theorem qdl (a b:ByteArray) (K:D->Prop):Om (.v (.string a)) (.v (.string b)) K=(a.size+b.size<=1000000000/\K (.v (.string (a++b)))):=id rfl
def VS (d:D) (K:D->Prop):Prop:=match d with
 | .v (.bool b)=> K (.v (.bool (!b)))
 | _=> False
@[simp] theorem qgx (b:Bool) (K:D->Prop):VS (.v (.bool b)) K=K (.v (.bool (!b))):=id rfl
def VT (d:D) (K:D->Prop):Prop:=match d with
 | .v (.int k n)=> InR k (0 -n)/\K (.v (.int k (0 -n)))
 | _=> False
@[simp] theorem qgC (k:IntKind) (n:Int) (K:D->Prop):VT (.v (.int k n)) K=(InR k (0 -n)/\K (.v (.int k (0 -n)))):=id rfl
def O7 (k:IntKind) (d:D) (K:D->Prop):Prop:=match d with
 | .v (.int _ n)=> K (.v (.int k (k.wrap n)))
 | _=> False
@[simp] theorem qe7 (k k':IntKind) (n:Int) (K:D->Prop):O7 k (.v (.int k' n)) K=K (.v (.int k (k.wrap n))):=id rfl
def Df (d:D) (lo hi:Option (Option (IntKind×Int))) (K:D->Prop):Prop:=match d with
 | .v (.string s)=> (match lo,hi with
   | none,none=> K (.v (.string (s.extract 0 s.size)))
   | some (some (_,l)),none=> 0<=l/\l<=s.size/\K (.v (.string (s.extract l.toNat s.size)))
   | none,some (some (_,h))=> 0<=h/\h<=s.size/\K (.v (.string (s.extract 0 h.toNat)))
   | some (some (_,l)),some (some (_,h))=> 0<=l/\l<=h/\h<=s.size/\K (.v (.string (s.extract l.toNat h.toNat)))
   | _,_=> False)
 | _=> False
@[simp] theorem Yo (s:ByteArray) (k:IntKind) (l:Int) (K:D->Prop):Df (.v (.string s)) (some (some (k,l))) none K=(0<=l/\l<=s.size/\K (.v (.string (s.extract l.toNat s.size)))):=id rfl
@[simp] theorem Yp (s:ByteArray) (k k':IntKind) (l h:Int) (K:D->Prop):Df (.v (.string s)) (some (some (k,l))) (some (some (k',h))) K=(0<=l/\l<=h/\h<=s.size/\K (.v (.string (s.extract l.toNat h.toNat)))):=id rfl
def xL (off:Nat) (d:D) (K:D->Prop):Prop:=match d with
 | .cptr cs o=> K (.cptr cs (o+off))
 | .bptr id b o=> K (.bptr id b (o+off))
 | .eptr id x n i o=> K (.eptr id x n i (o+off))
 | _=> False
@[simp] theorem qbV (off:Nat) (cs:List D) (o:Nat) (K:D->Prop):xL off (.cptr cs o) K=K (.cptr cs (o+off)):=id rfl
@[simp] theorem qbW (off i b o:Nat) (K:D->Prop):xL off (.bptr i b o) K=K (.bptr i b (o+off)):=id rfl
@[simp] theorem qbU (off:Nat) (i:Nat) (x:Value) (n k o:Nat) (K:D->Prop):xL off (.eptr i x n k o) K=K (.eptr i x n k (o+off)):=id rfl
def WC (agg:Bool) (sz off:Nat) (d:D) (K:D->Prop):Prop:=match d with
 | .agg cs=> off+sz<=cs.length/\K (HB agg sz cs off)
 | _=> False
@[simp] theorem qiQ (agg:Bool) (sz off:Nat) (cs:List D) (K:D->Prop):WC agg sz off (.agg cs) K=(off+sz<=cs.length/\K (HB agg sz cs off)):=id rfl
def Fg (n:Nat) (k:Int) (id:Nat) (x:Value) (r:Option Res) (K:D->Prop):Prop:=match r with
 | some (.row x' _ n' es)=> x'=x/\n'=n/\0<=k/\k < es.length/\K (.eptr id x n k.toNat 0)
 | _=> False
def Bp (n:Nat) (i d:D) (H:aa) (K:D->Prop):Prop:=match i with
 | .v (.int _ k)=> match d with
   | .list n' es=> n'=n/\0<=k/\k < es.length/\ ∀d,es[k.toNat]?=some d->K (.cptr d.cells 0)
   | .own id x=> Fg n k id x (H id) K
   | .sub id x n' lo hi=> n'=n/\0<=k/\k < (hi -lo:Nat)/\K (.eptr id x n (lo+k.toNat) 0)
   | _=> False
 | _=> False
@[simp] theorem qbJ (n:Nat) (kd:IntKind) (k:Int) (n':Nat) (es:List D) (H:aa) (K:D->Prop):Bp n (.v (.int kd k)) (.list n' es) H K=(n'=n/\0<=k/\k < es.length/\ ∀d,es[k.toNat]?=some d->K (.cptr d.cells 0)):=id rfl
@[simp] theorem qbI (n:Nat) (kd:IntKind) (k:Int) (i:Nat) (x:Value) (H:aa) (K:D->Prop):Bp n (.v (.int kd k)) (.own i x) H K=Fg n k i x (H i) K:=id rfl
@[simp] theorem qbK (n:Nat) (k:Int) (i:Nat) (x x':Value) (el n':Nat) (es:List D) (K:D->Prop):Fg n k i x (some (.row x' el n' es)) K=(x'=x/\n'=n/\0<=k/\k < es.length/\K (.eptr i x n k.toNat 0)):=id rfl
def Ol (i d:D) (K:D->Prop):Prop:=match i with
 | .v (.int _ k)=> match d with
   | .v (.string s)=> 0<=k/\k < s.size/\ ∀c,s.data[k.toNat]?=some c->K (.v (.int .u8 c.toNat))
   | _=> False
 | _=> False
@[simp] theorem qdk (kd:IntKind) (k:Int) (s:ByteArray) (K:D->Prop):Ol (.v (.int kd k)) (.v (.string s)) K=(0<=k/\k < s.size/\ ∀c,s.data[k.toNat]?=some c->K (.v (.int .u8 c.toNat))):=id rfl
def TD (o:Option D) (K:D->Prop):Prop:=match o with
 | some d=> K d
 | none=> False
def TC (d:D) (i:Nat) (K:D->Prop):Prop:=match d with
 | .tup ds=> TD ds[i]? K
 | _=> False
@[simp] theorem qiS (ds:List D) (i:Nat) (K:D->Prop):TC (.tup ds) i K=TD ds[i]? K:=id rfl
@[simp] theorem qiT (d:D) (K:D->Prop):TD (some d) K=K d:=id rfl
def SU (x:Value) (r:Option Res) (K:D->Prop):Prop:=match r with
 | some (.row x' _ _ es)=> x'=x/\((es.length:Int)<=9223372036854775807->K (.v (.int .i64 es.length)))
 | _=> False
def Qz (d:D) (H:aa) (K:D->Prop):Prop:=match d with
 | .list _ es=> (es.length:Int)<=9223372036854775807->K (.v (.int .i64 es.length))
 | .own id x=> SU x (H id) K
 | .v (.slice _ n _)=> K (.v (.int .i64 n))
 | .sub _ _ _ lo hi=> ((hi -lo:Nat):Int)<=9223372036854775807->K (.v (.int .i64 (hi -lo:Nat)))
 | _=> False
@[simp] theorem qgZ (n:Nat) (es:List D) (H:aa) (K:D->Prop):Qz (.list n es) H K=((es.length:Int)<=9223372036854775807->K (.v (.int .i64 es.length))):=id rfl
@[simp] theorem qgY (i:Nat) (x:Value) (H:aa) (K:D->Prop):Qz (.own i x) H K=SU x (H i) K:=id rfl
@[simp] theorem qg0 (x x':Value) (el n:Nat) (es:List D) (K:D->Prop):SU x (some (.row x' el n es)) K=(x'=x/\((es.length:Int)<=9223372036854775807->K (.v (.int .i64 es.length)))):=id rfl
def Uk (x:Value) (r:Option Res) (K:D->Prop):Prop:=match r with
 | some (.row x' _ n es)=> x'=x/\n=1/\XH es=true/\K (.v (.string (Zs es)))
 | _=> False
@[simp] theorem qjz (x x':Value) (el n:Nat) (es:List D) (K:D->Prop):Uk x (some (.row x' el n es)) K=(x'=x/\n=1/\XH es=true/\K (.v (.string (Zs es)))):=id rfl
def WU (d:D) (H:aa) (K:D->Prop):Prop:=match d with
 | .own i x=> Uk x (H i) K
 | .v (.slice none 0 0)=> K (.v (.string ⟨#[]⟩))
 | _=> False
@[simp] theorem qjy (i:Nat) (x:Value) (H:aa) (K:D->Prop):WU (.own i x) H K=Uk x (H i) K:=id rfl
def Kn (d:D) (K:D->Prop):Prop:=match d with
 | .v (.string s)=> (s.size:Int)<=9223372036854775807->K (.v (.int .i64 s.size))
 | _=> False
@[simp] theorem qdj (s:ByteArray) (K:D->Prop):Kn (.v (.string s)) K=((s.size:Int)<=9223372036854775807->K (.v (.int .i64 s.size))):=id rfl
def SH (mx:Bool) (d e:D) (K:D->Prop):Prop:=match d,e with
 | .v (.int k a), .v (.int k' b)=> k=k'/\K (.v (.int k (if mx then max a b else min a b)))
 | _,_=> False
@[simp] theorem qgQ (mx:Bool) (k k':IntKind) (a b:Int) (K:D->Prop):SH mx (.v (.int k a)) (.v (.int k' b)) K=(k=k'/\K (.v (.int k (if mx then max a b else min a b)))):=id rfl
@[simp ↓] theorem qaq (σ:Sg) (cs:List D) (K:List D->Prop):jk σ [] cs K=K cs:=id rfl
@[simp ↓] theorem Zt (σ:Sg) (off sz:Nat) (x:Operand) (r:List (Nat×Nat×Operand)) (cs:List D) (K:List D->Prop):jk σ ((off,sz,x)::r) cs K=((ev σ x).kn=true/\(ev σ x).cells.length=sz/\jk σ r (setAt cs off (ev σ x).cells) K):=id rfl
@[simp] theorem Z2 (n:Nat):kj n []=True:=id rfl
@[simp] theorem YD (n:Nat) (d:D) (r:List D):kj n (d::r)=(d.kn=true/\d.cells.length=n/\kj n r):=id rfl
@[simp] theorem qf3 (n n':Nat) (es:List D) (H:aa) (K:List D->Prop):rB n (.list n' es) H K=(n'=n/\K es):=id rfl
@[simp] theorem qf4 (n:Nat) (s:ByteArray) (H:aa) (K:List D->Prop):rB n (.v (.string s)) H K=(n=1/\K (AB s)):=id rfl
def qkA (t el n bytes:Nat) (agg:Bool) (z:List Value) (l c:Option (IntKind×Int)) (H:aa) (K:D->aa->Prop):Prop:=match l,c with
 | some (_,l),some (_,c)=> 0<=l/\l<=c/\bytes*c<=140737488355328/\c<=140737488355328/\ ∀x,K (.own t x) (ah H t (some (.row x el n (List.replicate l.toNat (if agg then .agg (z.map rc) else rc (z.headD (.bool false)))))))
 | _,_=> False
@[simp] theorem qkz (t el n bytes:Nat) (agg:Bool) (z:List Value) (k k':IntKind) (l c:Int) (H:aa) (K:D->aa->Prop):qkA t el n bytes agg z (some (k,l)) (some (k',c)) H K=(0<=l/\l<=c/\bytes*c<=140737488355328/\c<=140737488355328/\ ∀x,K (.own t x) (ah H t (some (.row x el n (List.replicate l.toNat (if agg then .agg (z.map rc) else rc (z.headD (.bool false)))))))):=id rfl
def wH (sz id b off:Nat) (y:D) (r:Option Res) (H:aa) (K:D->aa->Prop):Prop:=match r with
 | some (.box b' cells)=> b'=b/\off+sz<=cells.length/\K .undef (ah H id (some (.box b' (setAt cells off y.cells))))
 | _=> False
def AC (sz id:Nat) (x:Value) (n i off:Nat) (y:D) (r:Option Res) (H:aa) (K:D->aa->Prop):Prop:=match r with
 | some (.row x' el n' es)=> x'=x/\n'=n/\0 < n/\off+sz<=n/\i < es.length/\ ∀d,es[i]?=some d->
    K .undef (ah H id (some (.row x' el n' (es.set i (if off=0/\sz=n then y else .agg (setAt d.cells off y.cells))))))
 | _=> False
def DR (sz:Nat) (d y:D) (H:aa) (K:D->aa->Prop):Prop:=match d with
 | .bptr id b off=> wH sz id b off y (H id) H K
 | .eptr id x n i off=> AC sz id x n i off y (H id) H K
 | _=> False
@[simp] theorem qaX (sz i b off:Nat) (y:D) (H:aa) (K:D->aa->Prop):DR sz (.bptr i b off) y H K=wH sz i b off y (H i) H K:=id rfl
@[simp] theorem qaW (sz i:Nat) (x:Value) (n k off:Nat) (y:D) (H:aa) (K:D->aa->Prop):DR sz (.eptr i x n k off) y H K=AC sz i x n k off y (H i) H K:=id rfl
@[simp] theorem qaZ (sz i b off b':Nat) (y:D) (cells:List D) (H:aa) (K:D->aa->Prop):wH sz i b off y (some (.box b' cells)) H K=(b'=b/\off+sz<=cells.length/\K .undef (ah H i (some (.box b' (setAt cells off y.cells))))):=id rfl
@[simp] theorem qaY (sz i:Nat) (x x':Value) (el n n' k off:Nat) (y:D) (es:List D) (H:aa) (K:D->aa->Prop):AC sz i x n k off y (some (.row x' el n' es)) H K=(x'=x/\n'=n/\0 < n/\off+sz<=n/\k < es.length/\ ∀d,es[k]?=some d->
 K .undef (ah H i (some (.row x' el n' (es.set k (if off=0/\sz=n then y else .agg (setAt d.cells off y.cells))))))):=id rfl
def UA (el n bytes id:Nat) (x:Value) (es2:List D) (r:Option Res) (H:aa) (K:D->aa->Prop):Prop:=match r with
 | some (.row x' el' n' es)=> x'=x/\el'=el/\n'=n/\(es.length+es2.length) *bytes<=140737488355328/\es.length+es2.length<=140737488355328/\ ∀v,K (.own id v) (ah H id (some (.row v el n (es++es2))))
 | _=> False
def qjI (el n bytes id:Nat) (x:Value) (n' lo hi:Nat) (es2:List D) (r:Option Res) (H:aa) (K:D->aa->Prop):Prop:=match r with
 | some (.row x' el' n'' es)=> x'=x/\el'=el/\n'=n/\n''=n/\lo=0/\(hi+es2.length) *bytes<=140737488355328/\hi+es2.length<=140737488355328/\ ∀v,K (.own id v) (ah H id (some (.row v el n (es.take hi++es2))))
 | _=> False
@[simp] theorem qj0 (z:List Value):J5 false z=rc (z.headD (.bool false)):=id rfl
def Tq (t:Nat) (x:Value) (id:Nat) (σ:Sg) (r:Option Res) (H:aa) (K:Sg->aa->Prop):Prop:=match r with
 | some (.row x' _ n' es)=> x'=x/\K (QT id x (.list n' es) σ) (ah H id none)
 | _=> False
def qiO (t b off:Nat) (id:Nat) (σ:Sg) (r:Option Res) (H:aa) (K:Sg->aa->Prop):Prop:=match r with
 | some (.box b' cs)=> b'=b/\K (upd σ t (.cptr cs off)) (ah H id none)
 | _=> False
def qiH (t n:Nat) (x:Value) (id n' lo hi:Nat) (σ:Sg) (r:Option Res) (H:aa) (K:Sg->aa->Prop):Prop:=match r with
 | some (.row x' el n'' es)=> x'=x/\n'=n''/\(if n=0 then lo=0/\ ∀v,K (upd σ t (.own id v)) (ah H id (some (.row v el n'' (es.take hi)))) else K (upd σ t (.list n'' ((es.take hi).drop lo))) (ah H id none))
 | _=> False
def WA (t n:Nat) (d:D) (σ:Sg) (H:aa) (K:Sg->aa->Prop):Prop:=match d with
 | .own id x=> Tq t x id σ (H id) H K
 | .bptr id b off=> qiO t b off id σ (H id) H K
 | .v (.slice none 0 0)=> K (upd σ t (.list n [])) H
 | .sub id x n' lo hi=> qiH t n x id n' lo hi σ (H id) H K
 | .agg cs=> Bw cs H fun cs' H'=> K (upd σ t (.agg cs')) H'
 | _=> K σ H
@[simp ↓] theorem qnl (t n:Nat) (σ:Sg) (H:aa) (K:Sg->aa->Prop):Ck t n σ H K=WA t n (σ t) σ H K:=id rfl
@[simp] theorem qiG (t n i:Nat) (x:Value) (σ:Sg) (H:aa) (K:Sg->aa->Prop):WA t n (.own i x) σ H K=Tq t x i σ (H i) H K:=id rfl
@[simp] theorem qiI (t i:Nat) (x x':Value) (el n':Nat) (es:List D) (σ:Sg) (H:aa) (K:Sg->aa->Prop):Tq t x i σ (some (.row x' el n' es)) H K=(x'=x/\K (QT i x (.list n' es) σ) (ah H i none)):=id rfl
@[simp] theorem qiJ (id:Nat) (x:Value) (L:D) (i:Nat) (y:Value):GR id x L (.own i y)=open Classical in (if i=id/\y=x then L else .own i y):=_root_.id rfl
@[simp] theorem qiN (id:Nat) (x:Value) (L:D) :GR id x L (.any)= .any:=_root_.id rfl
@[simp] theorem qiL (id:Nat) (x:Value) (L:D) (cs:List D):GR id x L (.agg cs)= .agg cs:=_root_.id rfl
@[simp] theorem qiK (id:Nat) (x:Value) (L:D) (n:Nat) (es:List D):GR id x L (.list n es)= .list n es:=_root_.id rfl
@[simp] theorem qiM (id:Nat) (x:Value) (L:D) (cs:List D) (o:Nat):GR id x L (.cptr cs o)= .cptr cs o:=_root_.id rfl
def RM (t:Nat) (d:D) (H:aa) (K:D->aa->Prop):Prop:=match d with
 | .v (.string s)=> ∀b,K (.bptr t b 0) (ah H t (some (.iter b s 0)))
 | _=> False
@[simp] theorem qf2 (t:Nat) (s:ByteArray) (H:aa) (K:D->aa->Prop):RM t (.v (.string s)) H K= ∀b,K (.bptr t b 0) (ah H t (some (.iter b s 0))):=id rfl
def RN (id b:Nat) (r:Option Res) (H:aa) (K:D->aa->Prop):Prop:=match r with
 | some (.iter b' s pos)=> b'=b/\(pos < s.size->K (.tup [.v (.bool true), .v (.int .i64 pos), .v (.int .i32 (Utf8.decode s pos).1)]) (ah H id (some (.iter b' s (pos+ (Utf8.decode s pos).2)))))/\(¬pos < s.size->K (.tup [.v (.bool false)]) H)
 | _=> False
@[simp] theorem qf6 (id b b':Nat) (s:ByteArray) (pos:Nat) (H:aa) (K:D->aa->Prop):RN id b (some (.iter b' s pos)) H K=(b'=b/\(pos < s.size->K (.tup [.v (.bool true), .v (.int .i64 pos), .v (.int .i32 (Utf8.decode s pos).1)]) (ah H id (some (.iter b' s (pos+ (Utf8.decode s pos).2)))))/\(¬pos < s.size->K (.tup [.v (.bool false)]) H)):=_root_.id rfl
def Vy (d:D) (H:aa) (K:D->aa->Prop):Prop:=match d with
 | .bptr id b off=> off=0/\RN id b (H id) H K
 | _=> False
@[simp] theorem qf5 (i b off:Nat) (H:aa) (K:D->aa->Prop):Vy (.bptr i b off) H K=(off=0/\RN i b (H i) H K):=id rfl
def Ux (el n b r:Nat) (x:Value) (es2:List D) (q:Option Res) (H:aa) (K:D->aa->Prop):Prop:=match q with
 | some (.row x' el' n' es)=> x'=x/\el'=el/\n'=n/\(es.length+es2.length) *b<=140737488355328/\es.length+es2.length<=140737488355328/\ ∀v,K (.own r v) (ah H r (some (.row v el n (es++es2))))
 | _=> False
@[simp] theorem qjF (el n b r:Nat) (x x':Value) (el' n':Nat) (es es2:List D) (H:aa) (K:D->aa->Prop):Ux el n b r x es2 (some (.row x' el' n' es)) H K=(x'=x/\el'=el/\n'=n/\(es.length+es2.length) *b<=140737488355328/\es.length+es2.length<=140737488355328/\ ∀v,K (.own r v) (ah H r (some (.row v el n (es++es2))))):=id rfl
def WZ (r el n b:Nat) (d:D) (es2:List D) (H:aa) (K:D->aa->Prop):Prop:=match d with
 | .own id x=> id=r/\Ux el n b r x es2 (H r) H K
 | _=> False
@[simp] theorem qjE (r el n b i:Nat) (x:Value) (es2:List D) (H:aa) (K:D->aa->Prop):WZ r el n b (.own i x) es2 H K=(i=r/\Ux el n b r x es2 (H r) H K):=id rfl
def Oi (r sz:Nat) (d y:D) (H:aa) (K:D->aa->Prop):Prop:=match d with
 | .bptr id b off=> id=r/\wH sz r b off y (H r) H K
 | .eptr id x n i off=> id=r/\AC sz r x n i off y (H r) H K
 | _=> False
@[simp] theorem qdc (r sz i b off:Nat) (y:D) (H:aa) (K:D->aa->Prop):Oi r sz (.bptr i b off) y H K=(i=r/\wH sz r b off y (H r) H K):=id rfl
def qjK (dst:Option Nat) (el n bytes:Nat) (es2:List D) (H:aa) (K:D->aa->Prop):Prop:=match dst with
 | some t=> es2.length*bytes<=140737488355328/\es2.length<=140737488355328/\ ∀v,K (.own t v) (ah H t (some (.row v el n es2)))
 | none=> False
def Uy (dst:Option Nat) (el n bytes:Nat) (d:D) (es2:List D) (H:aa) (K:D->aa->Prop):Prop:=match d with
 | .own id x=> UA el n bytes id x es2 (H id) H K
 | .v (.slice none 0 0)=> qjK dst el n bytes es2 H K
 | .sub id x n' lo hi=> qjI el n bytes id x n' lo hi es2 (H id) H K
 | _=> False
@[simp] theorem qjG (dst:Option Nat) (el n bytes i:Nat) (x:Value) (es2:List D) (H:aa) (K:D->aa->Prop):Uy dst el n bytes (.own i x) es2 H K=UA el n bytes i x es2 (H i) H K:=id rfl
@[simp] theorem qjH (t:Nat) (el n bytes:Nat) (es2:List D) (H:aa) (K:D->aa->Prop):Uy (some t) el n bytes (.v (.slice none 0 0)) es2 H K=(es2.length*bytes<=140737488355328/\es2.length<=140737488355328/\ ∀v,K (.own t v) (ah H t (some (.row v el n es2)))):=id rfl
@[simp] theorem qjJ (el n bytes i:Nat) (x x':Value) (es2:List D) (el' n':Nat) (es:List D) (H:aa) (K:D->aa->Prop):UA el n bytes i x es2 (some (.row x' el' n' es)) H K=(x'=x/\el'=el/\n'=n/\(es.length+es2.length) *bytes<=140737488355328/\es.length+es2.length<=140737488355328/\ ∀v,K (.own i v) (ah H i (some (.row v el n (es++es2))))):=id rfl
def u5 (S:Nat->Spc) (f:D) (d:Nat) (args:List D) (H:aa) (K:D->aa->Prop):Prop:=match f with
 | .clo g caps=> (S g).pt d (args++caps) H K
 | _=> False
@[simp] theorem qfd (S:Nat->Spc) (g:Nat) (caps:List D) (d:Nat) (args:List D) (H:aa) (K:D->aa->Prop):u5 S (.clo g caps) d args H K=(S g).pt d (args++caps) H K:=id rfl
@[congr] theorem qbe {r:Nat} {dst:Option Nat} {s:Spc} {args:List D} {H:aa} {K:D->aa->Prop} {s₁:Spc} {args₁:List D} (hs:s=s₁) (hargs:args=args₁):Eo r dst s args H K=Eo r dst s₁ args₁ H K:=by subst hs;subst hargs;rfl
@[congr] theorem qdE {dst:Option Nat} {s:Spc} {args:List D} {H:aa} {K:D->aa->Prop} {s₁:Spc} {args₁:List D} (hs:s=s₁) (hargs:args=args₁):P4 dst s args H K=P4 dst s₁ args₁ H K:=by subst hs;subst hargs;rfl
section
variable {S:Nat->Spc} {σ:Sg} {H Hr:aa} {K:D->aa->Prop}
@[simp ↓] theorem qjm (dst:Option Nat) (x:Operand):aM S (.mv x) dst σ H K=((fun d=> K d H) (ev σ x)):=id rfl
@[simp ↓] theorem qmR (dst:Option Nat) (x:Operand):aJ S (.mv x) dst σ Hr H K=((fun d=> K d H) (ev σ x)):=id rfl
@[simp ↓] theorem qjl (dst:Option Nat) (c x y:Operand):aM S (.pick c x y) dst σ H K=(B7 (ev σ c) ((fun d=> K d H) (ev σ x)) ((fun d=> K d H) (ev σ y))):=id rfl
@[simp ↓] theorem qgo (dst:Option Nat) (c x y:Operand):aJ S (.pick c x y) dst σ Hr H K=(B7 (ev σ c) ((fun d=> K d H) (ev σ x)) ((fun d=> K d H) (ev σ y))):=id rfl
@[simp ↓] theorem qfn (dst:Option Nat) (z:List Value) (ps:List (Nat×Nat×Operand)):aM S (.build z ps) dst σ H K=(jk σ ps (z.map rc) fun cs=> (fun d=> K d H) (.agg cs)):=id rfl
@[simp ↓] theorem qdz (dst:Option Nat) (z:List Value) (ps:List (Nat×Nat×Operand)):aJ S (.build z ps) dst σ Hr H K=(jk σ ps (z.map rc) fun cs=> (fun d=> K d H) (.agg cs)):=id rfl
@[simp ↓] theorem qco (dst:Option Nat) (el n:Nat) (ps:List Operand):aM S (.bslice el n ps) dst σ H K=(kj n (ps.map (ev σ))/\(fun d=> K d H) (.list n (ps.map (ev σ)))):=id rfl
@[simp ↓] theorem qbc (dst:Option Nat) (el n:Nat) (ps:List Operand):aJ S (.bslice el n ps) dst σ Hr H K=(kj n (ps.map (ev σ))/\(fun d=> K d H) (.list n (ps.map (ev σ)))):=id rfl
@[simp ↓] theorem qjq (dst:Option Nat) (agg:Bool) (sz:Nat) (x:Operand):aM S (.load agg sz x) dst σ H K=(Cf agg sz (ev σ x) H (fun d=> K d H)):=id rfl
@[simp ↓] theorem qgp (dst:Option Nat) (agg:Bool) (sz:Nat) (x:Operand):aJ S (.load agg sz x) dst σ Hr H K=(Cf agg sz (ev σ x) Hr (fun d=> K d H)):=id rfl
@[simp ↓] theorem qfg (dst:Option Nat) (x:Operand):aM S (.nilck x) dst σ H K=(Ql (ev σ x) (fun d=> K d H)):=id rfl
@[simp ↓] theorem qdu (dst:Option Nat) (x:Operand):aJ S (.nilck x) dst σ Hr H K=(Ql (ev σ x) (fun d=> K d H)):=id rfl
@[simp ↓] theorem WQ (dst:Option Nat) (op:BinOp) (x y:Operand):aM S (.arith op x y) dst σ H K=(FV op (ev σ x) (ev σ y) (fun d=> K d H)):=id rfl
@[simp ↓] theorem qdA (dst:Option Nat) (op:BinOp) (x y:Operand):aJ S (.arith op x y) dst σ Hr H K=(FV op (ev σ x) (ev σ y) (fun d=> K d H)):=id rfl
@[simp ↓] theorem qcn (dst:Option Nat) (op:BinOp) (x y:Operand):aM S (.cmp op x y) dst σ H K=(Q1 op (ev σ x) (ev σ y) (fun d=> K d H)):=id rfl
@[simp ↓] theorem qkq (dst:Option Nat) (op:BinOp) (x y:Operand):aJ S (.cmp op x y) dst σ Hr H K=(Q1 op (ev σ x) (ev σ y) (fun d=> K d H)):=id rfl
@[simp ↓] theorem qmz (dst:Option Nat) (neg agg:Bool) (ks:List Mk) (x y:Operand):aM S (.eql neg agg ks x y) dst σ H K=(QV neg (Y3 agg ks (ev σ x) (ev σ y)) (fun d=> K d H)):=id rfl
@[simp ↓] theorem qkp (dst:Option Nat) (neg agg:Bool) (ks:List Mk) (x y:Operand):aJ S (.eql neg agg ks x y) dst σ Hr H K=(QV neg (Y3 agg ks (ev σ x) (ev σ y)) (fun d=> K d H)):=id rfl
@[simp ↓] theorem qjj (dst:Option Nat) (x y:Operand):aM S (.scat x y) dst σ H K=(Om (ev σ x) (ev σ y) (fun d=> K d H)):=id rfl
@[simp ↓] theorem qms (dst:Option Nat) (x:Operand):aM S (.not x) dst σ H K=(VS (ev σ x) (fun d=> K d H)):=id rfl
@[simp ↓] theorem qmt (dst:Option Nat) (x:Operand):aM S (.neg x) dst σ H K=(VT (ev σ x) (fun d=> K d H)):=id rfl
@[simp ↓] theorem qjr (dst:Option Nat) (k:IntKind) (x:Operand):aM S (.conv k x) dst σ H K=(O7 k (ev σ x) (fun d=> K d H)):=id rfl
@[simp ↓] theorem qmA (dst:Option Nat) (f:Nat) (xs:List Operand):aM S (.clo f xs) dst σ H K=((fun d=> K d H) (.clo f (xs.map (ev σ)))):=id rfl
@[simp ↓] theorem qcj (dst:Option Nat) (x:Operand) (lo hi:Option Operand):aM S (.sslice x lo hi) dst σ H K=(Df (ev σ x) (lo.map fun o=> tA (ev σ o)) (hi.map fun o=> tA (ev σ o)) (fun d=> K d H)):=id rfl
@[simp ↓] theorem qbb (dst:Option Nat) (x:Operand) (lo hi:Option Operand):aJ S (.sslice x lo hi) dst σ Hr H K=(Df (ev σ x) (lo.map fun o=> tA (ev σ o)) (hi.map fun o=> tA (ev σ o)) (fun d=> K d H)):=id rfl
@[simp ↓] theorem qfl (dst:Option Nat) (off:Nat) (x:Operand):aM S (.faddr off x) dst σ H K=(xL off (ev σ x) (fun d=> K d H)):=id rfl
@[simp ↓] theorem qdx (dst:Option Nat) (off:Nat) (x:Operand):aJ S (.faddr off x) dst σ Hr H K=(xL off (ev σ x) (fun d=> K d H)):=id rfl
@[simp ↓] theorem qmx (dst:Option Nat) (agg:Bool) (sz off:Nat) (x:Operand):aM S (.fld agg sz off x) dst σ H K=(WC agg sz off (ev σ x) (fun d=> K d H)):=id rfl
@[simp ↓] theorem qfk (dst:Option Nat) (n:Nat) (x i:Operand):aM S (.iaddr n x i) dst σ H K=(Bp n (ev σ i) (ev σ x) H (fun d=> K d H)):=id rfl
@[simp ↓] theorem qdw (dst:Option Nat) (n:Nat) (x i:Operand):aJ S (.iaddr n x i) dst σ Hr H K=(Bp n (ev σ i) (ev σ x) Hr (fun d=> K d H)):=id rfl
@[simp ↓] theorem qji (dst:Option Nat) (x i:Operand):aM S (.sidx x i) dst σ H K=(Ol (ev σ i) (ev σ x) (fun d=> K d H)):=id rfl
@[simp ↓] theorem qmy (dst:Option Nat) (x:Operand) (i:Nat):aM S (.ext x i) dst σ H K=(TC (ev σ x) i (fun d=> K d H)):=id rfl
@[simp ↓] theorem qko (dst:Option Nat) (x:Operand) (i:Nat):aJ S (.ext x i) dst σ Hr H K=(TC (ev σ x) i (fun d=> K d H)):=id rfl
@[simp ↓] theorem qmw (dst:Option Nat) (x:Operand):aM S (.len x) dst σ H K=(Qz (ev σ x) H (fun d=> K d H)):=id rfl
@[simp ↓] theorem qkn (dst:Option Nat) (x:Operand):aJ S (.len x) dst σ Hr H K=(Qz (ev σ x) Hr (fun d=> K d H)):=id rfl
@[simp ↓] theorem qjh (dst:Option Nat) (x:Operand):aM S (.slen x) dst σ H K=(Kn (ev σ x) (fun d=> K d H)):=id rfl
@[simp ↓] theorem qgn (dst:Option Nat) (x:Operand):aJ S (.slen x) dst σ Hr H K=(Kn (ev σ x) (fun d=> K d H)):=id rfl
@[simp ↓] theorem qjt (dst:Option Nat) (x:Operand):aM S (.bstr x) dst σ H K=(WU (ev σ x) H (fun d=> K d H)):=id rfl
@[simp ↓] theorem qjk (dst:Option Nat) (x:Operand):aM S (.rstr x) dst σ H K=(VE (ev σ x) (fun d=> K d H)):=id rfl
@[simp ↓] theorem qmv (dst:Option Nat) (mx:Bool) (x y:Operand):aM S (.mm mx [x,y]) dst σ H K=SH mx (ev σ x) (ev σ y) (fun d=> K d H):=id rfl
@[simp ↓] theorem qju (dst:Option Nat) (el:Nat) (x:Operand):aM S (.box el true x) dst σ H K=((ev σ x).kn=true/\K (.cptr (ev σ x).cells 0) H):=id rfl
@[simp ↓] theorem qfo (t el:Nat) (z:List Value):aM S (.alloc el z) (some t) σ H K= ∀b,K (.bptr t b 0) (ah H t (some (.box b (z.map rc)))):=id rfl
@[simp ↓] theorem qmB (t el:Nat) (x:Operand):aM S (.box el false x) (some t) σ H K=((ev σ x).kn=true/\ ∀b,K (.bptr t b 0) (ah H t (some (.box b (ev σ x).cells)))):=id rfl
@[simp ↓] theorem qcl (t el n:Nat) (ps:List Operand):aM S (.mslice el n ps) (some t) σ H K=(kj n (ps.map (ev σ))/\ ∀x,K (.own t x) (ah H t (some (.row x el n (ps.map (ev σ)))))):=id rfl
@[simp ↓] theorem qap (t el n bytes:Nat) (agg:Bool) (z:List Value) (l c:Operand):aM S (.mkslice el n bytes agg z l c) (some t) σ H K=qkA t el n bytes agg z (tA (ev σ l)) (tA (ev σ c)) H K:=id rfl
@[simp ↓] theorem qkm (dst:Option Nat) (mx:Bool) (x y:Operand):aJ S (.mm mx [x,y]) dst σ Hr H K=SH mx (ev σ x) (ev σ y) (fun d=> K d H):=id rfl
@[simp ↓] theorem qdB (t el:Nat) (z:List Value):aJ S (.alloc el z) (some t) σ Hr H K= ∀b,K (.bptr t b 0) (ah H t (some (.box b (z.map rc)))):=id rfl
@[simp ↓] theorem qck (t:Nat) (x:Operand):aM S (.srange x) (some t) σ H K=RM t (ev σ x) H K:=by
 simp only[aM,bT,RM]
 split <;> simp_all
@[simp ↓] theorem qff (dst:Option Nat) (x:Operand):aM S (.snext x) dst σ H K=Vy (ev σ x) H K:=id rfl
@[simp ↓] theorem qdt (dst:Option Nat) (r sz:Nat) (x y:Operand):aJ S (.store (some r) sz x y) dst σ Hr H K=((ev σ y).kn=true/\(ev σ y).cells.length=sz/\Oi r sz (ev σ x) (ev σ y) H K):=by
 simp only[aJ]
 congr 2
@[simp ↓] theorem qfe (dst:Option Nat) (rt:Option Nat) (sz:Nat) (x y:Operand):aM S (.store rt sz x y) dst σ H K=((ev σ y).kn=true/\(ev σ y).cells.length=sz/\DR sz (ev σ x) (ev σ y) H K):=id rfl
@[simp ↓] theorem qcp (dst:Option Nat) (rt:Option Nat) (el n bytes:Nat) (x y:Operand):aM S (.append rt el n bytes x y) dst σ H K=rB n (ev σ y) H fun es2=> Uy dst el n bytes (ev σ x) es2 H K:=id rfl
@[simp ↓] theorem Z1 (dst:Option Nat) (r el n bytes:Nat) (x y:Operand):aJ S (.append (some r) el n bytes x y) dst σ Hr H K=rB n (ev σ y) Hr fun es2=> WZ r el n bytes (ev σ x) es2 H K:=by
 simp only[aJ]
 congr 1
@[simp ↓] theorem qjs (dst:Option Nat) (f:Nat) (args:List Operand):aM S (.call f args) dst σ H K=(S f).pt (dst.getD 0) (args.map (ev σ)) H K:=id rfl
@[simp ↓] theorem qdy (dst:Option Nat) (r f:Nat) (args:List Operand):aJ S (.callb r f args) dst σ Hr H K=Eo r dst (S f) (args.map (ev σ)) H K:=id rfl
@[simp ↓] theorem qfm (dst:Option Nat) (f:Operand) (args:List Operand):aM S (.callv f args) dst σ H K=u5 S (ev σ f) (dst.getD 0) (args.map (ev σ)) H K:=id rfl
@[simp ↓] theorem qgq (dst:Option Nat) (f:Nat) (args:List Operand):aJ S (.call f args) dst σ Hr H K=P4 dst (S f) (args.map (ev σ)) H K:=id rfl
end
theorem qaR (σ:Sg) (t s:Nat) (d:D):upd σ t d s=if s=t then d else σ s:=id rfl
theorem Ms (σ:Sg) (t:Nat) (d:D):fh σ (some t) d=upd σ t d:=id rfl
theorem Yf (σ:Sg) (d:D):fh σ none d=σ:=id rfl
theorem Yg (H:aa) (t s:Nat) (d:Option Res):ah H t d s=if s=t then d else H s:=id rfl
attribute [simp] Ms Yf Yg
@[simp] theorem Rv (σ:Sg) (t:Nat):ev σ (.tmp t)=σ t:=id rfl
@[simp] theorem Vr (σ:Sg) (x:Value):ev σ (.const x)=rc x:=id rfl
@[simp] theorem qfZ (σ:Sg) (f:Nat):ev σ (.func f)= .clo f []:=id rfl
@[simp] theorem qf0 (b:Bool):rc (.bool b)= .v (.bool b):=id rfl
@[simp] theorem qaO (k:IntKind) (n:Int):rc (.int k n)= .v (.int k n):=id rfl
@[simp] theorem qj3 (s:ByteArray):rc (.string s)= .v (.string s):=id rfl
@[simp] theorem qj4 (a:Option Addr):rc (.pointer a)= .v (.pointer a):=id rfl
@[simp] theorem qc6 (a:Option Addr) (l c:Nat):rc (.slice a l c)= .v (.slice a l c):=id rfl
theorem qbF (σ:Sg):iM [] σ=fun _=> .any:=id rfl
theorem YW (t:Nat) (l:List Nat) (σ:Sg):iM (t::l) σ=upd (iM l σ) t (σ t):=id rfl
@[simp] theorem qin (H:aa):jo [] H=fun _=> none:=id rfl
@[simp] theorem We (t:Nat) (l:List Nat) (H:aa):jo (t::l) H=ah (jo l H) t (H t):=id rfl
@[simp] theorem qgz (i:Nat):ed i=none:=id rfl
@[simp] theorem qgX (σ:Sg):qi [] σ=True:=id rfl
@[simp] theorem qd1 (t:Nat) (d:D) (l:List (Nat×D)) (σ:Sg):qi ((t,d)::l) σ=(Mi (σ t) d/\qi l σ):=id rfl
@[simp] theorem qgP (H:aa):ti [] H=True:=id rfl
@[simp] theorem qdS (t:Nat) (d:Res) (l:List (Nat×Res)) (H:aa):ti ((t,d)::l) H=((H t=some d\/isNilRow d)/\ti l H):=id rfl
@[simp] theorem sub_self (d:D):Mi d d=True:=by
 cases d <;> simp[Mi]
@[simp] theorem qka (a:D) (x:Value):Mi a (.v x)=(a= .v x):=id rfl
@[simp] theorem qaV (a:D) (cs:List D) (o:Nat):Mi a (.cptr cs o)=(a= .cptr cs o):=id rfl
@[simp] theorem qdb (i:Nat) (x:Value) (y:Value) (j:Nat):Mi (.own i x) (.own j y)=(x=y):=by simp[Mi]
@[simp] theorem qaU (x:Value) (y:Value) (j:Nat):Mi (.v x) (.own j y)=(x=y):=by simp[Mi]
@[simp] theorem qm1 (sz:Nat) (cs:List D) (off:Nat):HB true sz cs off= .agg ((cs.drop off).take sz):=id rfl
@[simp] theorem qm2 (sz:Nat) (cs:List D) (off:Nat):HB false sz cs off=(cs[off]?).getD .any:=id rfl
@[simp ↓] theorem qdr (rs:List ar) (K:D->aa->Prop) (σ:Sg) (H:aa):rF rs K .norm σ H=ul rs σ H fun ds=> K (jN ds) H:=id rfl
@[simp ↓] theorem qgl (rs:List ar) (K:D->aa->Prop) (σ:Sg) (H:aa):rF rs K .ret σ H=ul rs σ H fun ds=> K (jN ds) H:=id rfl
@[simp ↓] theorem qgk (σ:Sg) (H:aa) (K:List D->Prop):ul [] σ H K=K []:=id rfl
@[simp ↓] theorem qgj (t:Nat) (r:List ar) (σ:Sg) (H:aa) (K:List D->Prop):ul (.tmp t::r) σ H K=ul r σ H fun ds=> K (σ t::ds):=id rfl
@[simp ↓] theorem qdq (t:Nat) (agg:Bool) (sz:Nat) (r:List ar) (σ:Sg) (H:aa) (K:List D->Prop):ul (.cell t agg sz::r) σ H K=Cf agg sz (σ t) H fun d=> ul r σ H fun ds=> K (d::ds):=id rfl
@[simp] theorem qmU (d:D):jN [d]=d:=id rfl
@[simp] theorem qmV:jN []= .tup []:=id rfl
@[simp] theorem qmT (d e:D) (l:List D):jN (d::e::l)= .tup (d::e::l):=id rfl
@[simp] theorem qnd (x:Value):D.kn (.v x)=true:=id rfl
@[simp] theorem qfb (x:Value):D.cells (.v x)= [.v x]:=id rfl
@[simp] theorem qim (cs:List D):D.kn (.agg cs)=true:=id rfl
@[simp] theorem qao (cs:List D):D.cells (.agg cs)=cs:=id rfl
@[simp] theorem qea (n:Nat) (es:List D):D.kn (.list n es)=true:=id rfl
@[simp] theorem Zo (n:Nat) (es:List D):D.cells (.list n es)= [.list n es]:=id rfl
@[simp] theorem qeb (cs:List D) (o:Nat):D.kn (.cptr cs o)=true:=id rfl
@[simp] theorem Zp (cs:List D) (o:Nat):D.cells (.cptr cs o)= [.cptr cs o]:=id rfl
@[simp] theorem qik (i:Nat) (x:Value):D.kn (.own i x)=true:=id rfl
@[simp] theorem qam (i:Nat) (x:Value):D.cells (.own i x)= [.own i x]:=id rfl
@[simp] theorem qil (f:Nat) (cs:List D):D.kn (.clo f cs)=true:=id rfl
@[simp] theorem qan (f:Nat) (cs:List D):D.cells (.clo f cs)= [.clo f cs]:=id rfl
@[simp] theorem qmD (k:IntKind) (n:Int):tA (.v (.int k n))=some (k,n):=id rfl
attribute [simp] setAt
@[simp] theorem qi3 (n:Int):enc n= .v (.int .i64 n):=rfl
@[simp] theorem qeW (b:Bool):enc b= .v (.bool b):=rfl
@[simp] theorem qi2 (s:ByteArray):enc s= .v (.string s):=rfl
@[simp] theorem qeV {X:Type} [Cod X] (l:List X):enc l= .list (Cod.wd X) (l.map enc):=rfl
@[simp] theorem qfS:Cod.wd Int=1:=rfl
@[simp] theorem qcY:Cod.wd Bool=1:=rfl
@[simp] theorem qfR:Cod.wd ByteArray=1:=rfl
@[simp] theorem qcX {X:Type} [Cod X]:Cod.wd (List X)=1:=rfl
@[congr] theorem qel {d:D} {A:Prop} {B:Prop} {d₁:D} (hd:d=d₁):KZ d A B=KZ d₁ A B:=by subst hd;rfl
@[congr] theorem qaf {s:Nat} {b:Bool} {σ:Sg} {d:D} {yes:Sg->Prop} {no:Sg->Prop} {d₁:D} (hd:d=d₁):lO s b σ d yes no=lO s b σ d₁ yes no:=by subst hd;rfl
@[congr] theorem qbg {d:D} {A:Prop} {B:Prop} {d₁:D} (hd:d=d₁):B7 d A B=B7 d₁ A B:=by subst hd;rfl
@[congr] theorem qbz {agg:Bool} {sz:Nat} {b:Nat} {off:Nat} {r:Option Res} {K:D->Prop} {r₁:Option Res} (hr:r=r₁):KU agg sz b off r K=KU agg sz b off r₁ K:=by subst hr;rfl
@[congr] theorem qby {agg:Bool} {sz:Nat} {x:Value} {n:Nat} {i:Nat} {off:Nat} {r:Option Res} {K:D->Prop} {r₁:Option Res} (hr:r=r₁):KT agg sz x n i off r K=KT agg sz x n i off r₁ K:=by subst hr;rfl
@[congr] theorem qbx {agg:Bool} {sz:Nat} {d:D} {H:aa} {K:D->Prop} {d₁:D} (hd:d=d₁):Cf agg sz d H K=Cf agg sz d₁ H K:=by subst hd;rfl
@[congr] theorem qdL {d:D} {K:D->Prop} {d₁:D} (hd:d=d₁):Ql d K=Ql d₁ K:=by subst hd;rfl
@[congr] theorem qaw {op:BinOp} {d:D} {e:D} {K:D->Prop} {d₁:D} {e₁:D} (hd:d=d₁) (he:e=e₁):FV op d e K=FV op d₁ e₁ K:=by subst hd;subst he;rfl
@[congr] theorem qdn {d:D} {K:D->Prop} {d₁:D} (hd:d=d₁):VE d K=VE d₁ K:=by subst hd;rfl
@[congr] theorem qe9 {o:Option Bool} {K:D->Prop} {o₁:Option Bool} (ho:o=o₁):NV o K=NV o₁ K:=by subst ho;rfl
@[congr] theorem qe8 {op:BinOp} {d:D} {e:D} {K:D->Prop} {d₁:D} {e₁:D} (hd:d=d₁) (he:e=e₁):Q1 op d e K=Q1 op d₁ e₁ K:=by subst hd;subst he;rfl
@[congr] theorem qeM {neg:Bool} {o:Option Bool} {K:D->Prop} {o₁:Option Bool} (ho:o=o₁):QV neg o K=QV neg o₁ K:=by subst ho;rfl
@[congr] theorem qa6 {d:D} {e:D} {K:D->Prop} {d₁:D} {e₁:D} (hd:d=d₁) (he:e=e₁):Om d e K=Om d₁ e₁ K:=by subst hd;subst he;rfl
@[congr] theorem qdJ {d:D} {K:D->Prop} {d₁:D} (hd:d=d₁):VS d K=VS d₁ K:=by subst hd;rfl
@[congr] theorem qdM {d:D} {K:D->Prop} {d₁:D} (hd:d=d₁):VT d K=VT d₁ K:=by subst hd;rfl
@[congr] theorem qcc {k:IntKind} {d:D} {K:D->Prop} {d₁:D} (hd:d=d₁):O7 k d K=O7 k d₁ K:=by subst hd;rfl
@[congr] theorem qah {off:Nat} {d:D} {K:D->Prop} {d₁:D} (hd:d=d₁):xL off d K=xL off d₁ K:=by subst hd;rfl
@[congr] theorem qeu {agg:Bool} {sz:Nat} {off:Nat} {d:D} {K:D->Prop} {d₁:D} (hd:d=d₁):WC agg sz off d K=WC agg sz off d₁ K:=by subst hd;rfl
@[congr] theorem qad {n:Nat} {k:Int} {id:Nat} {x:Value} {r:Option Res} {K:D->Prop} {r₁:Option Res} (hr:r=r₁):Fg n k id x r K=Fg n k id x r₁ K:=by subst hr;rfl
@[congr] theorem qac {n:Nat} {i:D} {d:D} {H:aa} {K:D->Prop} {i₁:D} {d₁:D} (hi:i=i₁) (hd:d=d₁):Bp n i d H K=Bp n i₁ d₁ H K:=by subst hi;subst hd;rfl
@[congr] theorem qa4 {i:D} {d:D} {K:D->Prop} {i₁:D} {d₁:D} (hi:i=i₁) (hd:d=d₁):Ol i d K=Ol i₁ d₁ K:=by subst hi;subst hd;rfl
@[congr] theorem qeC {o:Option D} {K:D->Prop} {o₁:Option D} (ho:o=o₁):TD o K=TD o₁ K:=by subst ho;rfl
@[congr] theorem qeB {d:D} {i:Nat} {K:D->Prop} {d₁:D} (hd:d=d₁):TC d i K=TC d₁ i K:=by subst hd;rfl
@[congr] theorem qd9 {x:Value} {r:Option Res} {K:D->Prop} {r₁:Option Res} (hr:r=r₁):SU x r K=SU x r₁ K:=by subst hr;rfl
@[congr] theorem qd8 {d:D} {H:aa} {K:D->Prop} {d₁:D} (hd:d=d₁):Qz d H K=Qz d₁ H K:=by subst hd;rfl
@[congr] theorem qfs {x:Value} {r:Option Res} {K:D->Prop} {r₁:Option Res} (hr:r=r₁):Uk x r K=Uk x r₁ K:=by subst hr;rfl
@[congr] theorem qfr {d:D} {H:aa} {K:D->Prop} {d₁:D} (hd:d=d₁):WU d H K=WU d₁ H K:=by subst hd;rfl
@[congr] theorem qa3 {d:D} {K:D->Prop} {d₁:D} (hd:d=d₁):Kn d K=Kn d₁ K:=by subst hd;rfl
@[congr] theorem qdT {mx:Bool} {d:D} {e:D} {K:D->Prop} {d₁:D} {e₁:D} (hd:d=d₁) (he:e=e₁):SH mx d e K=SH mx d₁ e₁ K:=by subst hd;subst he;rfl
@[congr] theorem Z0 {sz:Nat} {id:Nat} {b:Nat} {off:Nat} {y:D} {r:Option Res} {H:aa} {K:D->aa->Prop} {y₁:D} {r₁:Option Res} (hy:y=y₁) (hr:r=r₁):wH sz id b off y r H K=wH sz id b off y₁ r₁ H K:=by subst hy;subst hr;rfl
@[congr] theorem ZZ {sz:Nat} {id:Nat} {x:Value} {n:Nat} {i:Nat} {off:Nat} {y:D} {r:Option Res} {H:aa} {K:D->aa->Prop} {y₁:D} {r₁:Option Res} (hy:y=y₁) (hr:r=r₁):AC sz id x n i off y r H K=AC sz id x n i off y₁ r₁ H K:=by subst hy;subst hr;rfl
@[congr] theorem ZY {sz:Nat} {d:D} {y:D} {H:aa} {K:D->aa->Prop} {d₁:D} {y₁:D} (hd:d=d₁) (hy:y=y₁):DR sz d y H K=DR sz d₁ y₁ H K:=by subst hd;subst hy;rfl
@[congr] theorem qfA {el:Nat} {n:Nat} {bytes:Nat} {id:Nat} {x:Value} {es2:List D} {r:Option Res} {H:aa} {K:D->aa->Prop} {es2₁:List D} {r₁:Option Res} (hes2:es2=es2₁) (hr:r=r₁):UA el n bytes id x es2 r H K=UA el n bytes id x es2₁ r₁ H K:=by subst hes2;subst hr;rfl
@[congr] theorem qet {t:Nat} {x:Value} {id:Nat} {σ:Sg} {r:Option Res} {H:aa} {K:Sg->aa->Prop} {r₁:Option Res} (hr:r=r₁):Tq t x id σ r H K=Tq t x id σ r₁ H K:=by subst hr;rfl
@[congr] theorem qer {t:Nat} {n:Nat} {d:D} {σ:Sg} {H:aa} {K:Sg->aa->Prop} {d₁:D} (hd:d=d₁):WA t n d σ H K=WA t n d₁ σ H K:=by subst hd;rfl
@[congr] theorem qdd {t:Nat} {d:D} {H:aa} {K:D->aa->Prop} {d₁:D} (hd:d=d₁):RM t d H K=RM t d₁ H K:=by subst hd;rfl
@[congr] theorem qdh {id:Nat} {b:Nat} {r:Option Res} {H:aa} {K:D->aa->Prop} {r₁:Option Res} (hr:r=r₁):RN id b r H K=RN id b r₁ H K:=by subst hr;rfl
@[congr] theorem qdg {d:D} {H:aa} {K:D->aa->Prop} {d₁:D} (hd:d=d₁):Vy d H K=Vy d₁ H K:=by subst hd;rfl
@[congr] theorem qfy {el:Nat} {n:Nat} {b:Nat} {r:Nat} {x:Value} {es2:List D} {q:Option Res} {H:aa} {K:D->aa->Prop} {es2₁:List D} {q₁:Option Res} (hes2:es2=es2₁) (hq:q=q₁):Ux el n b r x es2 q H K=Ux el n b r x es2₁ q₁ H K:=by subst hes2;subst hq;rfl
@[congr] theorem qfx {r:Nat} {el:Nat} {n:Nat} {b:Nat} {d:D} {es2:List D} {H:aa} {K:D->aa->Prop} {d₁:D} {es2₁:List D} (hd:d=d₁) (hes2:es2=es2₁):WZ r el n b d es2 H K=WZ r el n b d₁ es2₁ H K:=by subst hd;subst hes2;rfl
@[congr] theorem qa0 {r:Nat} {sz:Nat} {d:D} {y:D} {H:aa} {K:D->aa->Prop} {d₁:D} {y₁:D} (hd:d=d₁) (hy:y=y₁):Oi r sz d y H K=Oi r sz d₁ y₁ H K:=by subst hd;subst hy;rfl
@[congr] theorem qfz {dst:Option Nat} {el:Nat} {n:Nat} {bytes:Nat} {d:D} {es2:List D} {H:aa} {K:D->aa->Prop} {dst₁:Option Nat} {d₁:D} {es2₁:List D} (hdst:dst=dst₁) (hd:d=d₁) (hes2:es2=es2₁):Uy dst el n bytes d es2 H K=Uy dst₁ el n bytes d₁ es2₁ H K:=by subst hdst;subst hd;subst hes2;rfl
@[congr] theorem qci {S:Nat->Spc} {f:D} {d:Nat} {args:List D} {H:aa} {K:D->aa->Prop} {f₁:D} {args₁:List D} (hf:f=f₁) (hargs:args=args₁):u5 S f d args H K=u5 S f₁ d args₁ H K:=by subst hf;subst hargs;rfl
@[congr] theorem qde {n:Nat} {d d':D} {H:aa} {K:List D->Prop} (h:d=d'):rB n d H K=rB n d' H K:=by subst h;rfl
@[congr] theorem qay {s s':Spc} {d:Nat} {ds ds':List D} {H:aa} {K:D->aa->Prop} (h:s=s') (h':ds=ds'):s.pt d ds H K=s'.pt d ds' H K:=by subst h;subst h';rfl
end Go.Gv
