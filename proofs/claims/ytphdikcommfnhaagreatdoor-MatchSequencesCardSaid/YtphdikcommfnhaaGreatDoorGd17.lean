/- A part of the framework and of the walks: T10. -/
import Derived.Test.YtphdikcommfnhaaGreatDoorGd16
set_option linter.unusedSimpArgs false
set_option linter.unusedVariables false
set_option linter.unusedSectionVars false

namespace Go.Gv
open Cod (enc dec)
variable {b b' bytes el el' f g hi i id j len lo n n' n'' o off sz t:Nat}{H:ab}{K:D->Prop}{dst dst₁ rt:Option Nat}{v x x':Value}{L d d' d₁ e e₁ f₁ i₁ y₁ z₁:D}{k k' kd:IntKind}{σ:Sg}{args args₁ caps cells cs ds es es2 es2₁ src src₁:List D}{agg mx neg:Bool}{r r₁:Option Res}{c y:Operand}{a h l:Int}{s:ByteArray}{z:List Value}{no yes:Sg->Prop}{A B p:Prop}{op:BinOp}{ks:List XP}{S:Nat->Spc}{ps xs:List Operand}{s₁:Spc}
section
variable {S:Nat->Spc}{K:Ex->Sg->ab->Prop}{σ:Sg}{H:ab}
def R5(S:Nat->Spc)(b:CC)(K:Ex->Sg->ab->Prop):Ex->Sg->ab->Prop:=fun e σ H=>match e with
 | .norm=>vc S b K σ H
 | e=>K e σ H
def XL(id:Nat)(K:Ex->Sg->ab->Prop):Ex->Sg->ab->Prop:=fun e σ H=>match e with
 | .ex i=>if i=id then K .norm σ H else K (.ex i) σ H
 | e=>K e σ H
def WT(inv:qhB)(x:inv.X)(K:Ex->Sg->ab->Prop):Ex->Sg->ab->Prop:=fun e σ' H'=>match e with
 | .norm=>∃y,inv.P y/\Wk σ' H' (inv.s y) (inv.h y)/\inv.m y < inv.m x
 | e=>K e σ' H'
def P0(d:D)(A B:Prop):Prop:=match d with
 | .v (.bool t)=>(t=true->A)/\(t=false->B)
 | _=>False
@[simp ↓] theorem qgS:vc S .skip K σ H=K .norm σ H:=id rfl
@[simp ↓] theorem qeS(l:List CI):vc S (.reg l) K σ H=Cu S l σ H (K .norm):=id rfl
@[simp ↓] theorem qqC(p l:List CI):vc S (.regd p l) K σ H=mi S p σ (bI p H) H fun σ H=>Cu S l σ H (K .norm):=id rfl
@[simp ↓] theorem Qu(a b:CC):vc S (.seq a b) K σ H=vc S a (R5 S b K) σ H:=id rfl
@[simp ↓] theorem JD(b:CC):R5 S b K .norm σ H=vc S b K σ H:=id rfl
@[simp ↓] theorem qav(b:CC)(i:Nat):R5 S b K (.ex i) σ H=K (.ex i) σ H:=id rfl
@[simp ↓] theorem qgT(b:CC):R5 S b K .ret σ H=K .ret σ H:=id rfl
@[simp ↓] theorem qku(c:Operand)(a b:CC):vc S (.ite c a b) K σ H=P0 (ev σ c) (vc S a K σ H) (vc S b K σ H):=id rfl
@[simp] theorem qgW(t:Bool)(A B:Prop):P0 (.v (.bool t)) A B=((t=true->A)/\(t=false->B)):=id rfl
@[simp high] theorem qqE:P0 (.v (.bool true)) A B=A:=by simp[P0]
@[simp high] theorem qqF:P0 (.v (.bool false)) A B=B:=by simp[P0]
@[simp ↓] theorem N1(id:Nat)(b:CC):vc S (.block id b) K σ H=vc S b (XL id K) σ H:=_root_.id rfl
@[simp ↓] theorem qgY(id:Nat):XL id K .norm σ H=K .norm σ H:=_root_.id rfl
@[simp ↓] theorem qay(id:Nat):XL id K .ret σ H=K .ret σ H:=_root_.id rfl
@[simp ↓] theorem Ty(id i:Nat):XL id K (.ex i) σ H=if i=id then K .norm σ H else K (.ex i) σ H:=_root_.id rfl
@[simp ↓] theorem qgX(i:Nat):vc S (.exit i) K σ H=K (.ex i) σ H:=id rfl
@[simp ↓] theorem qsT:vc S .ret K σ H=K .ret σ H:=id rfl
@[simp ↓] theorem qqD(ls lh:List Nat)(c:CC):vc S (.keep ls lh c) K σ H=vc S c K (jz ls σ) (kD lh H):=id rfl
theorem N0(k:Nat)(b:CC):vc S (.loop k b) K σ H=∃inv:qhB,(∃x,inv.P x/\Wk σ H (inv.s x) (inv.h x))/\∀x,inv.P x->vc S b (WT inv x K) (inv.s x) (inv.h x):=id rfl
theorem qax(k:Nat)(c:CC):vc S (.cut k c) K σ H=∃ (σ':Sg) (H':ab),Wk σ H σ' H'/\vc S c K σ' H':=id rfl
@[simp ↓] theorem qgV(inv:qhB)(x:inv.X):WT inv x K .norm σ H=∃y,inv.P y/\Wk σ H (inv.s y) (inv.h y)/\inv.m y < inv.m x:=id rfl
@[simp ↓] theorem qgU(inv:qhB)(x:inv.X):WT inv x K .ret σ H=K .ret σ H:=id rfl
@[simp ↓] theorem qaw(inv:qhB)(x:inv.X)(i:Nat):WT inv x K (.ex i) σ H=K (.ex i) σ H:=id rfl
end
def nk(s:Nat)(b:Bool)(σ:Sg)(d:D)(yes no:Sg->Prop):Prop:=match d with
 | .v (.bool t)=>(t=b->yes (upd σ s (.v (.bool b))))/\(t=(!b)->no (upd σ s (.v (.bool (!b)))))
 | .undef=>no σ
 | _=>False
@[simp high] theorem qtH(s:Nat):nk s true σ (.v (.bool true)) yes no=yes (upd σ s (.v (.bool true))):=by simp[nk]
@[simp high] theorem qtI(s:Nat):nk s true σ (.v (.bool false)) yes no=no (upd σ s (.v (.bool false))):=by simp[nk]
@[simp high] theorem qtJ(s:Nat):nk s false σ (.v (.bool true)) yes no=no (upd σ s (.v (.bool true))):=by simp[nk]
@[simp high] theorem qtK(s:Nat):nk s false σ (.v (.bool false)) yes no=yes (upd σ s (.v (.bool false))):=by simp[nk]
@[simp] theorem qtG(s:Nat)(b:Bool):nk s b σ .undef yes no=no σ:=id rfl
@[simp] theorem qtS(s:Nat)(b t:Bool):nk s b σ (.v (.bool t)) yes no=((t=b->yes (upd σ s (.v (.bool b))))/\(t=(!b)->no (upd σ s (.v (.bool (!b)))))):=id rfl
section
variable {S:Nat->Spc}{σ:Sg}{H Hr:ab}
@[simp ↓] theorem qeP(K:Sg->ab->Prop):Cu S [] σ H K=K σ H:=id rfl
@[simp ↓] theorem qgr(K:Sg->ab->Prop)(d:Option Nat)(c:COp)(r:List CI):Cu S (.op d none c::r) σ H K=ay S c d σ H fun x H'=>Cu S r (eZ σ d x) H' K:=id rfl
@[simp ↓] theorem qsw(K:Sg->ab->Prop)(d:Option Nat)(s:Nat)(b:Bool)(c:COp)(r:List CI):Cu S (.op d (some (s,b)) c::r) σ H K=nk s b σ (σ s) (fun σ=>ay S c d σ H fun x H'=>Cu S r (eZ σ d x) H' K) (fun σ=>Cu S r (eZ σ d .undef) H K):=id rfl
@[simp ↓] theorem qsx(K:Sg->ab->Prop)(r:List CI):Cu S (.frz t n::r) σ H K=FX t n σ H fun σ' H'=>Cu S r σ' H' K:=id rfl
@[simp ↓] theorem qsj(K:Sg->ab->Prop):mi S [] σ Hr H K=K σ H:=id rfl
@[simp ↓] theorem qsk(K:Sg->ab->Prop)(a:Nat)(r:List CI):mi S (.frz a b::r) σ Hr H K=mi S r σ (bI r Hr) H K:=id rfl
@[simp ↓] theorem qtm(K:Sg->ab->Prop)(d:Option Nat)(c:COp)(r:List CI):mi S (.op d none c::r) σ Hr H K=ax S c d σ Hr H fun x H'=>mi S r (eZ σ d x) Hr H' K:=id rfl
@[simp ↓] theorem qsi(K:Sg->ab->Prop)(d:Option Nat)(s:Nat)(b:Bool)(c:COp)(r:List CI):mi S (.op d (some (s,b)) c::r) σ Hr H K=nk s b σ (σ s) (fun σ=>ax S c d σ Hr H fun x H'=>mi S r (eZ σ d x) Hr H' K) (fun σ=>mi S r (eZ σ d .undef) Hr H K):=id rfl
end
def FM(d:D)(A B:Prop):Prop:=match d with
 | .v (.bool t)=>(t=true->A)/\(t=false->B)
 | _=>False
@[simp high] theorem qmc:FM (.v (.bool true)) A B=A:=by simp[FM]
@[simp high] theorem qmd:FM (.v (.bool false)) A B=B:=by simp[FM]
def PU(agg:Bool)(sz b off:Nat)(r:Option Res)(K:D->Prop):Prop:=match r with
 | some (.box b' cells)=>b'=b/\off+sz<=cells.length/\K (LF agg sz cells off)
 | _=>False
def PS(agg:Bool)(sz:Nat)(x:Value)(n i off:Nat)(r:Option Res)(K:D->Prop):Prop:=match r with
 | some (.row x' _ n' es)=>x'=x/\n'=n/\off+sz<=n/\i < es.length/\∀d,es[i]? =some d->K (LF agg sz d.cells off)
 | _=>False
def FS(agg:Bool)(sz:Nat)(d:D)(H:ab)(K:D->Prop):Prop:=match d with
 | .cptr cs off=>off+sz<=cs.length/\K (LF agg sz cs off)
 | .bptr id b off=>PU agg sz b off (H id) K
 | .eptr id x n i off=>PS agg sz x n i off (H id) K
 | _=>False
@[simp] theorem qmC:FS agg sz (.cptr cs off) H K=(off+sz<=cs.length/\K (LF agg sz cs off)):=id rfl
@[simp] theorem qmD:FS agg sz (.bptr i b off) H K=PU agg sz b off (H i) K:=id rfl
@[simp] theorem qmB(k:Nat):FS agg sz (.eptr i x n k off) H K=PS agg sz x n k off (H i) K:=id rfl
@[simp] theorem qmF:PU agg sz b off (some (.box b' cells)) K=(b'=b/\off+sz<=cells.length/\K (LF agg sz cells off)):=id rfl
@[simp] theorem qmE:PS agg sz x n i off (some (.row x' el n' es)) K=(x'=x/\n'=n/\off+sz<=n/\i < es.length/\∀d,es[i]? =some d->K (LF agg sz d.cells off)):=id rfl
def WL(d:D)(K:D->Prop):Prop:=match d with
 | .cptr cs off=>K (.cptr cs off)
 | .bptr id b off=>K (.bptr id b off)
 | .eptr id x n i off=>K (.eptr id x n i off)
 | .tape L=>K (.tape L)
 | .clo f caps=>K (.clo f caps)
 | _=>False
@[simp] theorem qpo:WL (.cptr cs off) K=K (.cptr cs off):=id rfl
@[simp] theorem qpp:WL (.bptr i b off) K=K (.bptr i b off):=id rfl
def JW(op:BinOp)(d e:D)(K:D->Prop):Prop:=match d,e with
 | .v (.int k a), .v (.int k' b)=>XU op k k'/\gV op k a b K
 | _,_=>False
@[simp] theorem qbh(op:BinOp)(k k':IntKind)(a b:Int)(K:D->Prop):JW op (.v (.int k a)) (.v (.int k' b)) K=(XU op k k'/\gV op k a b K):=id rfl
@[simp] theorem qdi(k k':IntKind):XU .add k k'=(k=k'):=id rfl
@[simp] theorem qmN:XU .sub k k'=(k=k'):=id rfl
@[simp] theorem qmS:XU .mul k k'=(k=k'):=id rfl
@[simp] theorem qmR:XU .quo k k'=(k=k'):=id rfl
@[simp] theorem qmQ:XU .rem k k'=(k=k'):=id rfl
@[simp] theorem qmT:XU .and k k'=(k=k'):=id rfl
@[simp] theorem qpW:XU .or k k'=(k=k'):=id rfl
@[simp] theorem qmP:XU .shl k k'=True:=id rfl
@[simp] theorem qmO:XU .shr k k'=True:=id rfl
@[simp ↓] theorem XO(k:IntKind)(a b:Int)(K:D->Prop):gV .add k a b K=(InR k (a+b)/\K (.v (.int k (a+b)))):=id rfl
@[simp ↓] theorem qir(b:Int):gV .sub k a b K=(InR k (a -b)/\K (.v (.int k (a -b)))):=id rfl
@[simp ↓] theorem qiw(b:Int):gV .mul k a b K=(InR k (a*b)/\K (.v (.int k (a*b)))):=id rfl
@[simp ↓] theorem qiv(b:Int):gV .quo k a b K=(b≠0/\InR k (a.tdiv b)/\K (.v (.int k (a.tdiv b)))):=id rfl
@[simp ↓] theorem qiu(b:Int):gV .rem k a b K=(b≠0/\K (.v (.int k (a.tmod b)))):=id rfl
@[simp ↓] theorem qix(b:Int):gV .and k a b K=K (.v (.int k (TN k a b))):=id rfl
@[simp ↓] theorem qkZ(b:Int):gV .or k a b K=K (.v (.int k (qjs k a b))):=id rfl
@[simp ↓] theorem qit(b:Int):gV .shl k a b K=(0<=b/\K (.v (.int k (Pj k a b)))):=id rfl
@[simp ↓] theorem qis(b:Int):gV .shr k a b K=(0<=b/\K (.v (.int k (YD k a b)))):=id rfl
def qcH(d:D)(K:D->Prop):Prop:=match d with
 | .v (.int _ n)=>K (.v (.string (Utf8.encode n)))
 | _=>False
@[simp] theorem qo0(n:Int):qcH (.v (.int k n)) K=K (.v (.string (Utf8.encode n))):=id rfl
def TD(o:Option Bool)(K:D->Prop):Prop:=match o with|some t=>K (.v (.bool t))|none=>False
@[simp] theorem qhb(t:Bool)(K:D->Prop):TD (some t) K=K (.v (.bool t)):=id rfl
def XD(op:BinOp)(d e:D)(K:D->Prop):Prop:=match d,e with
 | .v (.int k a), .v (.int k' b)=>k=k'/\TD (QR op a b) K
 | .v (.string a), .v (.string b)=>TD (TC op a b) K
 | _,_=>False
@[simp] theorem qha(op:BinOp)(k k':IntKind)(a b:Int)(K:D->Prop):XD op (.v (.int k a)) (.v (.int k' b)) K=(k=k'/\TD (QR op a b) K):=id rfl
@[simp] theorem qqP(a b:ByteArray):XD op (.v (.string a)) (.v (.string b)) K=TD (TC op a b) K:=id rfl
@[simp] theorem qaY(a b:Int):QR .lss a b=some (decide (a < b)):=id rfl
@[simp] theorem qkF(b:Int):QR .leq a b=some (decide (a<=b)):=id rfl
@[simp] theorem qkG(b:Int):QR .gtr a b=some (decide (b < a)):=id rfl
@[simp] theorem qkH(b:Int):QR .geq a b=some (decide (b<=a)):=id rfl
@[simp] theorem qkC(a b:ByteArray):TC .lss a b=some (Op.bytesLess a.toList b.toList):=id rfl
@[simp] theorem qkD(a b:ByteArray):TC .gtr a b=some (!(Op.bytesLess a.toList b.toList||a.toList==b.toList)):=id rfl
@[simp] theorem qkE(a b:ByteArray):TC .geq a b=some (!Op.bytesLess a.toList b.toList):=id rfl
def Xv(neg:Bool)(o:Option Bool)(K:D->Prop):Prop:=match o with
 | some p=>K (.v (.bool (if neg then !p else p)))
 | none=>False
@[simp] theorem qqv(p:Bool):Xv false (some p) K=K (.v (.bool p)):=id rfl
@[simp] theorem qqu(p:Bool):Xv true (some p) K=K (.v (.bool (!p))):=id rfl
@[simp] theorem qsP(k:XP)(a b:D):qgN false [k] a b=XV k a b:=id rfl
@[simp] theorem qsO(a b:List D):qgN true ks (.agg a) (.agg b)=qdL ks a b:=id rfl
@[simp] theorem qsN:qdL [] [] []=some true:=id rfl
@[simp] theorem qsM(k:XP)(a b:D)(as bs:List D):qdL (k::ks) (a::as) (b::bs)=(XV k a b).bind fun p=>(qdL ks as bs).bind fun q=>some (p && q):=id rfl
@[simp] theorem qsR(b:Int):XV .int (.v (.int k a)) (.v (.int k' b))=if k=k' then some (decide (a=b))else none:=id rfl
@[simp] theorem qsQ(a b:ByteArray):XV .str (.v (.string a)) (.v (.string b))=some (decide (a=b)):=id rfl
@[simp] theorem qsS(a b:Bool):XV .bool (.v (.bool a)) (.v (.bool b))=some (decide (a=b)):=id rfl
def Uk(d e:D)(K:D->Prop):Prop:=match d,e with
 | .v (.string a), .v (.string b)=>a.size+b.size<=1000000000/\K (.v (.string (a++b)))
 | _,_=>False
@[simp] theorem qlP(a b:ByteArray):Uk (.v (.string a)) (.v (.string b)) K=(a.size+b.size<=1000000000/\K (.v (.string (a++b)))):=id rfl
def qcZ(d:D)(K:D->Prop):Prop:=match d with
 | .v (.bool b)=>K (.v (.bool (!b)))
 | _=>False
@[simp] theorem qpk(b:Bool):qcZ (.v (.bool b)) K=K (.v (.bool (!b))):=id rfl
def Va(k:IntKind)(d:D)(K:D->Prop):Prop:=match d with
 | .v (.int _ n)=>K (.v (.int k (k.wrap n)))
 | _=>False
@[simp] theorem qnJ(n:Int):Va k (.v (.int k' n)) K=K (.v (.int k (k.wrap n))):=id rfl
def R2(n id:Nat)(x:Value)(lo hi:Option (Option (IntKind×Int)))(r:Option Res)(K:D->Prop):Prop:=match r with
 | some (.row x' _ n' es)=>x'=x/\n'=n/\uq lo hi es.length fun l h=>K (.sub id x n l h)
 | _=>False
@[simp] theorem qjc(lo hi:Option (Option (IntKind×Int))):R2 n i x lo hi (some (.row x' el n' es)) K=(x'=x/\n'=n/\uq lo hi es.length fun l h=>K (.sub i x n l h)):=id rfl
@[simp] theorem qqL(K:Nat->Nat->Prop):uq (some (some (k,l))) none len K=(0<=l/\l<=len/\K l.toNat len):=id rfl
def HS(n:Nat)(d:D)(lo hi:Option (Option (IntKind×Int)))(H:ab)(K:D->Prop):Prop:=match d with
 | .list n' es=>n'=n/\(match lo,hi with
   | none,none=>K (.list n es)
   | some (some (_,l)),none=>0<=l/\l<=es.length/\K (.list n (es.drop l.toNat))
   | none,some (some (_,h))=>0<=h/\h<=es.length/\K (.list n (es.take h.toNat))
   | some (some (_,l)),some (some (_,h))=>0<=l/\l<=h/\h<=es.length/\K (.list n ((es.take h.toNat).drop l.toNat))
   | _,_=>False)
 | .own id x=>R2 n id x lo hi (H id) K
 | .sub id x n' a b=>n'=n/\uq lo hi (b -a) fun l h=>K (.sub id x n (a+l) (a+h))
 | .v (.slice none 0 0)=>uq lo hi 0 fun _ _=>K (.v (.slice none 0 0))
 | _=>False
@[simp] theorem qjb(lo hi:Option (Option (IntKind×Int))):HS n (.own i x) lo hi H K=R2 n i x lo hi (H i) K:=id rfl
@[simp] theorem qhV:HS n (.list n' es) (some (some (k,l))) none H K=(n'=n/\0<=l/\l<=es.length/\K (.list n (es.drop l.toNat))):=id rfl
@[simp] theorem qhU:HS n (.list n' es) none (some (some (k,l))) H K=(n'=n/\0<=l/\l<=es.length/\K (.list n (es.take l.toNat))):=id rfl
def GX(d:D)(lo hi:Option (Option (IntKind×Int)))(K:D->Prop):Prop:=match d with
 | .v (.string s)=>(match lo,hi with
   | none,none=>K (.v (.string (s.extract 0 s.size)))
   | some (some (_,l)),none=>0<=l/\l<=s.size/\K (.v (.string (s.extract l.toNat s.size)))
   | none,some (some (_,h))=>0<=h/\h<=s.size/\K (.v (.string (s.extract 0 h.toNat)))
   | some (some (_,l)),some (some (_,h))=>0<=l/\l<=h/\h<=s.size/\K (.v (.string (s.extract l.toNat h.toNat)))
   | _,_=>False)
 | _=>False
@[simp] theorem qfM:GX (.v (.string s)) (some (some (k,l))) none K=(0<=l/\l<=s.size/\K (.v (.string (s.extract l.toNat s.size)))):=id rfl
@[simp] theorem qfN:GX (.v (.string s)) (some (some (k,l))) (some (some (k',h))) K=(0<=l/\l<=h/\h<=s.size/\K (.v (.string (s.extract l.toNat h.toNat)))):=id rfl
def BX(off:Nat)(d:D)(K:D->Prop):Prop:=match d with
 | .cptr cs o=>K (.cptr cs (o+off))
 | .bptr id b o=>K (.bptr id b (o+off))
 | .eptr id x n i o=>K (.eptr id x n i (o+off))
 | _=>False
@[simp] theorem qkk:BX off (.cptr cs o) K=K (.cptr cs (o+off)):=id rfl
@[simp] theorem qkl:BX off (.bptr i b o) K=K (.bptr i b (o+off)):=id rfl
@[simp] theorem qkj(k:Nat):BX off (.eptr i x n k o) K=K (.eptr i x n k (o+off)):=id rfl
def qdI(agg:Bool)(sz off:Nat)(d:D)(K:D->Prop):Prop:=match d with
 | .agg cs=>off+sz<=cs.length/\K (LF agg sz cs off)
 | _=>False
@[simp] theorem qqn:qdI agg sz off (.agg cs) K=(off+sz<=cs.length/\K (LF agg sz cs off)):=id rfl
def Ji(n:Nat)(k:Int)(id:Nat)(x:Value)(r:Option Res)(K:D->Prop):Prop:=match r with
 | some (.row x' _ n' es)=>x'=x/\n'=n/\0<=k/\k < es.length/\K (.eptr id x n k.toNat 0)
 | _=>False
def BV(n:Nat)(i d:D)(H:ab)(K:D->Prop):Prop:=match i with
 | .v (.int _ k)=>match d with
   | .list n' es=>n'=n/\0<=k/\k < es.length/\∀d,es[k.toNat]? =some d->K (.cptr d.cells 0)
   | .own id x=>Ji n k id x (H id) K
   | .sub id x n' lo hi=>n'=n/\0<=k/\k < (hi -lo:Nat)/\K (.eptr id x n (lo+k.toNat) 0)
   | _=>False
 | _=>False
@[simp] theorem qjZ(k:Int):BV n (.v (.int kd k)) (.sub i x n' lo hi) H K=(n'=n/\0<=k/\k < (hi -lo:Nat)/\K (.eptr i x n (lo+k.toNat) 0)):=id rfl
@[simp] theorem qj1(k:Int):BV n (.v (.int kd k)) (.list n' es) H K=(n'=n/\0<=k/\k < es.length/\∀d,es[k.toNat]? =some d->K (.cptr d.cells 0)):=id rfl
@[simp] theorem qj0(k:Int):BV n (.v (.int kd k)) (.own i x) H K=Ji n k i x (H i) K:=id rfl
@[simp] theorem qj2(k:Int):Ji n k i x (some (.row x' el n' es)) K=(x'=x/\n'=n/\0<=k/\k < es.length/\K (.eptr i x n k.toNat 0)):=id rfl
def Uj(i d:D)(K:D->Prop):Prop:=match i with
 | .v (.int _ k)=>match d with
   | .v (.string s)=>0<=k/\k < s.size/\∀c,s.data[k.toNat]? =some c->K (.v (.int .u8 c.toNat))
   | _=>False
 | _=>False
@[simp] theorem qlO(k:Int):Uj (.v (.int kd k)) (.v (.string s)) K=(0<=k/\k < s.size/\∀c,s.data[k.toNat]? =some c->K (.v (.int .u8 c.toNat))):=id rfl
def qap(o:Option D)(K:D->Prop):Prop:=match o with
 | some d=>K d
 | none=>False
def qao(d:D)(i:Nat)(K:D->Prop):Prop:=match d with
 | .tup ds=>qap ds[i]? K
 | _=>False
@[simp] theorem qqp:qao (.tup ds) i K=qap ds[i]? K:=id rfl
@[simp] theorem qqq:qap (some d) K=K d:=id rfl
def ZP(x:Value)(r:Option Res)(K:D->Prop):Prop:=match r with
 | some (.row x' _ _ es)=>x'=x/\((es.length:Int)<=9223372036854775807->K (.v (.int .i64 es.length)))
 | _=>False
def SY(d:D)(H:ab)(K:D->Prop):Prop:=match d with
 | .list _ es=>(es.length:Int)<=9223372036854775807->K (.v (.int .i64 es.length))
 | .own id x=>ZP x (H id) K
 | .v (.slice _ n _)=>K (.v (.int .i64 n))
 | .sub _ _ _ lo hi=>((hi -lo:Nat):Int)<=9223372036854775807->K (.v (.int .i64 (hi -lo:Nat)))
 | _=>False
@[simp] theorem qpN:SY (.list n es) H K=((es.length:Int)<=9223372036854775807->K (.v (.int .i64 es.length))):=id rfl
@[simp] theorem qpM:SY (.own i x) H K=ZP x (H i) K:=id rfl
@[simp] theorem qmG(a:Option Addr)(c:Nat):SY (.v (.slice a n c)) H K=K (.v (.int .i64 n)):=id rfl
@[simp] theorem qpO:ZP x (some (.row x' el n es)) K=(x'=x/\((es.length:Int)<=9223372036854775807->K (.v (.int .i64 es.length)))):=id rfl
def qa4(x:Value)(r:Option Res)(K:D->Prop):Prop:=match r with
 | some (.row x' _ n es)=>x'=x/\n=1/\qeV es=true/\K (.v (.string (qhg es)))
 | _=>False
@[simp] theorem qrh:qa4 x (some (.row x' el n es)) K=(x'=x/\n=1/\qeV es=true/\K (.v (.string (qhg es)))):=id rfl
def qd8(d:D)(H:ab)(K:D->Prop):Prop:=match d with
 | .own i x=>qa4 x (H i) K
 | .v (.slice none 0 0)=>K (.v (.string ⟨#[]⟩))
 | _=>False
@[simp] theorem qrg:qd8 (.own i x) H K=qa4 x (H i) K:=id rfl
def Ph(d:D)(K:D->Prop):Prop:=match d with
 | .v (.string s)=>(s.size:Int)<=9223372036854775807->K (.v (.int .i64 s.size))
 | _=>False
@[simp] theorem qlN:Ph (.v (.string s)) K=((s.size:Int)<=9223372036854775807->K (.v (.int .i64 s.size))):=id rfl
def ZA(mx:Bool)(d e:D)(K:D->Prop):Prop:=match d,e with
 | .v (.int k a), .v (.int k' b)=>k=k'/\K (.v (.int k (if mx then max a b else min a b)))
 | _,_=>False
@[simp] theorem qpD(b:Int):ZA mx (.v (.int k a)) (.v (.int k' b)) K=(k=k'/\K (.v (.int k (if mx then max a b else min a b)))):=id rfl
@[simp ↓] theorem qiq(K:List D->Prop):kw σ [] cs K=K cs:=id rfl
@[simp ↓] theorem qhh(x:Operand)(r:List (Nat×Nat×Operand))(K:List D->Prop):kw σ ((off,sz,x)::r) cs K=((ev σ x).kn=true/\(ev σ x).cells.length=sz/\kw σ r (setAt cs off (ev σ x).cells) K):=id rfl
@[simp] theorem qh0:lm n []=True:=id rfl
@[simp] theorem qf6(r:List D):lm n (d::r)=(d.kn=true/\d.cells.length=n/\lm n r):=id rfl
def Wb(n lo hi:Nat)(x:Value)(r:Option Res)(K:List D->Prop):Prop:=match r with
 | some (.row x' _ n'' es)=>x'=x/\n''=n/\K ((es.take hi).drop lo)
 | _=>False
@[simp] theorem qoO(K:List D->Prop):Wb n lo hi x (some (.row x' el n' es)) K=(x'=x/\n'=n/\K ((es.take hi).drop lo)):=id rfl
@[simp] theorem qrZ(K:List D->Prop):mF n (.sub i x n' lo hi) H K=(n'=n/\Wb n lo hi x (H i) K):=by
 simp only[mF]
 cases H i with
 | none=>simp[Wb]
 | some r=>cases r <;> simp[Wb,and_left_comm]
@[simp] theorem qoP(K:List D->Prop):uA n (.list n' es) H K=(n'=n/\K es):=id rfl
@[simp] theorem qoQ(K:List D->Prop):uA n (.v (.string s)) H K=(n=1/\K (El s)):=id rfl
def qpE(t el n bytes:Nat)(agg:Bool)(z:List Value)(l c:Option (IntKind×Int))(H:ab)(K:D->ab->Prop):Prop:=match l,c with
 | some (_,l),some (_,c)=>0<=l/\l<=c/\bytes*c<=140737488355328/\c<=140737488355328/\∀x,K (.own t x) (ah H t (some (.row x el n (List.replicate l.toNat (if agg then .agg (z.map uY)else uY (z.headD (.bool false)))))))
 | _,_=>False
@[simp] theorem qsu(c:Int)(K:D->ab->Prop):qpE t el n bytes agg z (some (k,l)) (some (k',c)) H K=(0<=l/\l<=c/\bytes*c<=140737488355328/\c<=140737488355328/\∀x,K (.own t x) (ah H t (some (.row x el n (List.replicate l.toNat (if agg then .agg (z.map uY)else uY (z.headD (.bool false)))))))):=id rfl
def Bc(sz id b off:Nat)(y:D)(r:Option Res)(H:ab)(K:D->ab->Prop):Prop:=match r with
 | some (.box b' cells)=>b'=b/\off+sz<=cells.length/\K .undef (ah H id (some (.box b' (setAt cells off y.cells))))
 | _=>False
def Bb(sz id:Nat)(x:Value)(n i off:Nat)(y:D)(r:Option Res)(H:ab)(K:D->ab->Prop):Prop:=match r with
 | some (.row x' el n' es)=>x'=x/\n'=n/\0 < n/\off+sz<=n/\i < es.length/\∀d,es[i]? =some d->
    K .undef (ah H id (some (.row x' el n' (es.set i (if off=0/\sz=n then y else .agg (setAt d.cells off y.cells))))))
 | _=>False
def HP(sz:Nat)(d y:D)(H:ab)(K:D->ab->Prop):Prop:=match d with
 | .bptr id b off=>Bc sz id b off y (H id) H K
 | .eptr id x n i off=>Bb sz id x n i off y (H id) H K
 | _=>False
@[simp] theorem qi4(y:D)(K:D->ab->Prop):HP sz (.bptr i b off) y H K=Bc sz i b off y (H i) H K:=id rfl
@[simp] theorem qi3(k:Nat)(y:D)(K:D->ab->Prop):HP sz (.eptr i x n k off) y H K=Bb sz i x n k off y (H i) H K:=id rfl
@[simp] theorem qi6(y:D)(K:D->ab->Prop):Bc sz i b off y (some (.box b' cells)) H K=(b'=b/\off+sz<=cells.length/\K .undef (ah H i (some (.box b' (setAt cells off y.cells))))):=id rfl
@[simp] theorem qi5(k:Nat)(y:D)(K:D->ab->Prop):Bb sz i x n k off y (some (.row x' el n' es)) H K=(x'=x/\n'=n/\0 < n/\off+sz<=n/\k < es.length/\∀d,es[k]? =some d->
 K .undef (ah H i (some (.row x' el n' (es.set k (if off=0/\sz=n then y else .agg (setAt d.cells off y.cells))))))):=id rfl
def qbl(el n bytes id:Nat)(x:Value)(es2:List D)(r:Option Res)(H:ab)(K:D->ab->Prop):Prop:=match r with
 | some (.row x' el' n' es)=>x'=x/\el'=el/\n'=n/\(es.length+es2.length) *bytes<=140737488355328/\es.length+es2.length<=140737488355328/\∀v,K (.own id v) (ah H id (some (.row v el n (es++es2))))
 | _=>False
def qrt(el n bytes id:Nat)(x:Value)(n' lo hi:Nat)(es2:List D)(r:Option Res)(H:ab)(K:D->ab->Prop):Prop:=match r with
 | some (.row x' el' n'' es)=>x'=x/\el'=el/\n'=n/\n''=n/\lo=0/\(hi+es2.length) *bytes<=140737488355328/\hi+es2.length<=140737488355328/\∀v,K (.own id v) (ah H id (some (.row v el n (es.take hi++es2))))
 | _=>False
def qqO(n id:Nat)(x:Value)(src:List D)(r:Option Res)(H:ab)(K:D->ab->Prop):Prop:=match r with
 | some (.row x' el n' es)=>x'=x/\n'=n/\K (.v (.int .i64 (min src.length es.length:Nat))) (ah H id (some (.row x' el n' (src.take es.length++es.drop src.length))))
 | _=>False
def qaT(n id:Nat)(x:Value)(n' lo hi:Nat)(src:List D)(r:Option Res)(H:ab)(K:D->ab->Prop):Prop:=match r with
 | some (.row x' el n'' es)=>x'=x/\n'=n/\n''=n/\K (.v (.int .i64 (min src.length (hi -lo):Nat))) (ah H id (some (.row x' el n'' (es.take lo++src.take (hi -lo) ++es.drop (lo+min src.length (hi -lo))))))
 | _=>False
def qdX(n:Nat)(d:D)(src:List D)(H:ab)(K:D->ab->Prop):Prop:=match d with
 | .own id x=>qqO n id x src (H id) H K
 | .sub id x n' lo hi=>qaT n id x n' lo hi src (H id) H K
 | _=>False
@[simp] theorem qqM(K:D->ab->Prop):qdX n (.sub i x n' lo hi) src H K=qaT n i x n' lo hi src (H i) H K:=id rfl
@[simp] theorem qqN(K:D->ab->Prop):qaT n i x n' lo hi src (some (.row x' el n'' es)) H K=(x'=x/\n'=n/\n''=n/\K (.v (.int .i64 (min src.length (hi -lo):Nat))) (ah H i (some (.row x' el n'' (es.take lo++src.take (hi -lo) ++es.drop (lo+min src.length (hi -lo))))))):=id rfl
@[simp] theorem qrN:OD false z=uY (z.headD (.bool false)):=id rfl
def qad(t:Nat)(x:Value)(id:Nat)(σ:Sg)(r:Option Res)(H:ab)(K:Sg->ab->Prop):Prop:=match r with
 | some (.row x' _ n' es)=>x'=x/\K (Xt id x (.list n' es) σ) (ah H id none)
 | _=>False
def qql(t b off:Nat)(id:Nat)(σ:Sg)(r:Option Res)(H:ab)(K:Sg->ab->Prop):Prop:=match r with
 | some (.box b' cs)=>b'=b/\K (upd σ t (.cptr cs off)) (ah H id none)
 | _=>False
def qqe(t n:Nat)(x:Value)(id n' lo hi:Nat)(σ:Sg)(r:Option Res)(H:ab)(K:Sg->ab->Prop):Prop:=match r with
 | some (.row x' el n'' es)=>x'=x/\n'=n''/\(if n=0 then lo=0/\∀v,K (upd σ t (.own id v)) (ah H id (some (.row v el n'' (es.take hi))))else K (upd σ t (.list n'' ((es.take hi).drop lo))) (ah H id none))
 | _=>False
def qdF(t n:Nat)(d:D)(σ:Sg)(H:ab)(K:Sg->ab->Prop):Prop:=match d with
 | .own id x=>qad t x id σ (H id) H K
 | .bptr id b off=>qql t b off id σ (H id) H K
 | .v (.slice none 0 0)=>K (upd σ t (.list n [])) H
 | .sub id x n' lo hi=>qqe t n x id n' lo hi σ (H id) H K
 | .agg cs=>E7 cs H fun cs' H'=>K (upd σ t (.agg cs')) H'
 | _=>K σ H
@[simp ↓] theorem qtM(K:Sg->ab->Prop):FX t n σ H K=qdF t n (σ t) σ H K:=id rfl
@[simp] theorem qqd(K:Sg->ab->Prop):qdF t n (.own i x) σ H K=qad t x i σ (H i) H K:=id rfl
@[simp] theorem qqf(K:Sg->ab->Prop):qad t x i σ (some (.row x' el n' es)) H K=(x'=x/\K (Xt i x (.list n' es) σ) (ah H i none)):=id rfl
@[simp] theorem qqg(y:Value):KZ id x L (.own i y)=open Classical in (if i=id/\y=x then L else .own i y):=_root_.id rfl
@[simp] theorem qqk:KZ id x L (.any)= .any:=_root_.id rfl
@[simp] theorem qqi:KZ id x L (.agg cs)= .agg cs:=_root_.id rfl
@[simp] theorem qqh:KZ id x L (.list n es)= .list n es:=_root_.id rfl
@[simp] theorem qqj:KZ id x L (.cptr cs o)= .cptr cs o:=_root_.id rfl
def qcD(d:D)(K:D->Prop):Prop:=match d with
 | .v (.string s)=>K (.list 1 (s.data.toList.map fun c=> .v (.int .u8 c.toNat)))
 | _=>False
@[simp] theorem qoW:qcD (.v (.string s)) K=K (.list 1 (s.data.toList.map fun c=> .v (.int .u8 c.toNat))):=id rfl
def YB(t:Nat)(d:D)(H:ab)(K:D->ab->Prop):Prop:=match d with
 | .v (.string s)=>∀b,K (.bptr t b 0) (ah H t (some (.iter b s 0)))
 | _=>False
@[simp] theorem qoN(K:D->ab->Prop):YB t (.v (.string s)) H K=∀b,K (.bptr t b 0) (ah H t (some (.iter b s 0))):=id rfl
def YC(id b:Nat)(r:Option Res)(H:ab)(K:D->ab->Prop):Prop:=match r with
 | some (.iter b' s pos)=>b'=b/\(pos < s.size->K (.tup [.v (.bool true), .v (.int .i64 pos), .v (.int .i32 (Utf8.decode s pos).1)]) (ah H id (some (.iter b' s (pos+ (Utf8.decode s pos).2)))))/\(¬pos < s.size->K (.tup [.v (.bool false)]) H)
 | _=>False
@[simp] theorem qoS(pos:Nat)(K:D->ab->Prop):YC id b (some (.iter b' s pos)) H K=(b'=b/\(pos < s.size->K (.tup [.v (.bool true), .v (.int .i64 pos), .v (.int .i32 (Utf8.decode s pos).1)]) (ah H id (some (.iter b' s (pos+ (Utf8.decode s pos).2)))))/\(¬pos < s.size->K (.tup [.v (.bool false)]) H)):=_root_.id rfl
def qcz(d:D)(H:ab)(K:D->ab->Prop):Prop:=match d with
 | .bptr id b off=>off=0/\YC id b (H id) H K
 | _=>False
@[simp] theorem qoR(K:D->ab->Prop):qcz (.bptr i b off) H K=(off=0/\YC i b (H i) H K):=id rfl
def qef(dst:Option Nat)(el n b:Nat)(d:D)(es2:List D)(H:ab)(K:D->ab->Prop):Prop:=match dst,d with
 | some t, .v (.slice none 0 0)=>es2.length*b<=140737488355328/\es2.length<=140737488355328/\∀v,K (.own t v) (ah H t (some (.row v el n es2)))
 | _,_=>False
@[simp] theorem qrw(K:D->ab->Prop):qef (some t) el n b (.v (.slice none 0 0)) es2 H K=(es2.length*b<=140737488355328/\es2.length<=140737488355328/\∀v,K (.own t v) (ah H t (some (.row v el n es2)))):=id rfl
def qbi(el n b r:Nat)(x:Value)(es2:List D)(q:Option Res)(H:ab)(K:D->ab->Prop):Prop:=match q with
 | some (.row x' el' n' es)=>x'=x/\el'=el/\n'=n/\(es.length+es2.length) *b<=140737488355328/\es.length+es2.length<=140737488355328/\∀v,K (.own r v) (ah H r (some (.row v el n (es++es2))))
 | _=>False
@[simp] theorem qrq(r:Nat)(K:D->ab->Prop):qbi el n b r x es2 (some (.row x' el' n' es)) H K=(x'=x/\el'=el/\n'=n/\(es.length+es2.length) *b<=140737488355328/\es.length+es2.length<=140737488355328/\∀v,K (.own r v) (ah H r (some (.row v el n (es++es2))))):=id rfl
def qee(r el n b:Nat)(d:D)(es2:List D)(H:ab)(K:D->ab->Prop):Prop:=match d with
 | .own id x=>id=r/\qbi el n b r x es2 (H r) H K
 | _=>False
@[simp] theorem qrp(r:Nat)(K:D->ab->Prop):qee r el n b (.own i x) es2 H K=(i=r/\qbi el n b r x es2 (H r) H K):=id rfl
def Pd(r sz:Nat)(d y:D)(H:ab)(K:D->ab->Prop):Prop:=match d with
 | .bptr id b off=>id=r/\Bc sz r b off y (H r) H K
 | .eptr id x n i off=>id=r/\Bb sz r x n i off y (H r) H K
 | _=>False
@[simp] theorem qlE(r:Nat)(y:D)(K:D->ab->Prop):Pd r sz (.bptr i b off) y H K=(i=r/\Bc sz r b off y (H r) H K):=id rfl
@[simp] theorem qlD(r:Nat)(k:Nat)(y:D)(K:D->ab->Prop):Pd r sz (.eptr i x n k off) y H K=(i=r/\Bb sz r x n k off y (H r) H K):=id rfl
def qrv(dst:Option Nat)(el n bytes:Nat)(es2:List D)(H:ab)(K:D->ab->Prop):Prop:=match dst with
 | some t=>es2.length*bytes<=140737488355328/\es2.length<=140737488355328/\∀v,K (.own t v) (ah H t (some (.row v el n es2)))
 | none=>False
def qbj(dst:Option Nat)(el n bytes:Nat)(d:D)(es2:List D)(H:ab)(K:D->ab->Prop):Prop:=match d with
 | .own id x=>qbl el n bytes id x es2 (H id) H K
 | .v (.slice none 0 0)=>qrv dst el n bytes es2 H K
 | .sub id x n' lo hi=>qrt el n bytes id x n' lo hi es2 (H id) H K
 | _=>False
@[simp] theorem qrr(K:D->ab->Prop):qbj dst el n bytes (.own i x) es2 H K=qbl el n bytes i x es2 (H i) H K:=id rfl
@[simp] theorem qrs(K:D->ab->Prop):qbj (some t) el n bytes (.v (.slice none 0 0)) es2 H K=(es2.length*bytes<=140737488355328/\es2.length<=140737488355328/\∀v,K (.own t v) (ah H t (some (.row v el n es2)))):=id rfl
@[simp] theorem qru(K:D->ab->Prop):qbl el n bytes i x es2 (some (.row x' el' n' es)) H K=(x'=x/\el'=el/\n'=n/\(es.length+es2.length) *bytes<=140737488355328/\es.length+es2.length<=140737488355328/\∀v,K (.own i v) (ah H i (some (.row v el n (es++es2))))):=id rfl
def zV(S:Nat->Spc)(f:D)(d:Nat)(args:List D)(H:ab)(K:D->ab->Prop):Prop:=match f with
 | .clo g caps=>(S g).pt d (args++caps) H K
 | _=>False
@[simp] theorem qnQ(d:Nat)(K:D->ab->Prop):zV S (.clo g caps) d args H K=(S g).pt d (args++caps) H K:=id rfl
@[congr] theorem qjp{r:Nat}{s:Spc}{K:D->ab->Prop}(hs:s=s₁)(hargs:args=args₁):Iu r dst s args H K=Iu r dst s₁ args₁ H K:=by subst hs;subst hargs;rfl
@[congr] theorem qmb{s:Spc}{K:D->ab->Prop}(hs:s=s₁)(hargs:args=args₁):Wp dst s args H K=Wp dst s₁ args₁ H K:=by subst hs;subst hargs;rfl
section
variable {S:Nat->Spc}{σ:Sg}{H Hr:ab}{K:D->ab->Prop}
@[simp ↓] theorem qqY(dst:Option Nat)(x:Operand):ay S (.mv x) dst σ H K=((fun d=>K d H) (ev σ x)):=id rfl
@[simp ↓] theorem qtl(x:Operand):ax S (.mv x) dst σ Hr H K=((fun d=>K d H) (ev σ x)):=id rfl
@[simp ↓] theorem qqX(x:Operand):ay S (.pick c x y) dst σ H K=(FM (ev σ c) ((fun d=>K d H) (ev σ x)) ((fun d=>K d H) (ev σ y))):=id rfl
@[simp ↓] theorem qpb(x:Operand):ax S (.pick c x y) dst σ Hr H K=(FM (ev σ c) ((fun d=>K d H) (ev σ x)) ((fun d=>K d H) (ev σ y))):=id rfl
@[simp ↓] theorem qn1(ps:List (Nat×Nat×Operand)):ay S (.build z ps) dst σ H K=(kw σ ps (z.map uY) fun cs=>(fun d=>K d H) (.agg cs)):=id rfl
@[simp ↓] theorem ql5(ps:List (Nat×Nat×Operand)):ax S (.build z ps) dst σ Hr H K=(kw σ ps (z.map uY) fun cs=>(fun d=>K d H) (.agg cs)):=id rfl
@[simp ↓] theorem qkQ:ay S (.bslice el n ps) dst σ H K=(lm n (ps.map (ev σ))/\(fun d=>K d H) (.list n (ps.map (ev σ)))):=id rfl
@[simp ↓] theorem qjn:ax S (.bslice el n ps) dst σ Hr H K=(lm n (ps.map (ev σ))/\(fun d=>K d H) (.list n (ps.map (ev σ)))):=id rfl
@[simp ↓] theorem qq2(x:Operand):ay S (.load agg sz x) dst σ H K=(FS agg sz (ev σ x) H (fun d=>K d H)):=id rfl
@[simp ↓] theorem qpc(x:Operand):ax S (.load agg sz x) dst σ Hr H K=(FS agg sz (ev σ x) Hr (fun d=>K d H)):=id rfl
@[simp ↓] theorem qnU(x:Operand):ay S (.nilck x) dst σ H K=(WL (ev σ x) (fun d=>K d H)):=id rfl
@[simp ↓] theorem ql0(x:Operand):ax S (.nilck x) dst σ Hr H K=(WL (ev σ x) (fun d=>K d H)):=id rfl
@[simp ↓] theorem qd3(dst:Option Nat)(op:BinOp)(x y:Operand):ay S (.arith op x y) dst σ H K=(JW op (ev σ x) (ev σ y) (fun d=>K d H)):=id rfl
@[simp ↓] theorem ql6(x:Operand):ax S (.arith op x y) dst σ Hr H K=(JW op (ev σ x) (ev σ y) (fun d=>K d H)):=id rfl
@[simp ↓] theorem qkP(dst:Option Nat)(op:BinOp)(x y:Operand):ay S (.cmp op x y) dst σ H K=(XD op (ev σ x) (ev σ y) (fun d=>K d H)):=id rfl
@[simp ↓] theorem qsg(x:Operand):ax S (.cmp op x y) dst σ Hr H K=(XD op (ev σ x) (ev σ y) (fun d=>K d H)):=id rfl
@[simp ↓] theorem qs0(x:Operand):ay S (.eql neg agg ks x y) dst σ H K=(Xv neg (qgN agg ks (ev σ x) (ev σ y)) (fun d=>K d H)):=id rfl
@[simp ↓] theorem qsf(x:Operand):ax S (.eql neg agg ks x y) dst σ Hr H K=(Xv neg (qgN agg ks (ev σ x) (ev σ y)) (fun d=>K d H)):=id rfl
@[simp ↓] theorem qqV(x:Operand):ay S (.scat x y) dst σ H K=(Uk (ev σ x) (ev σ y) (fun d=>K d H)):=id rfl
@[simp ↓] theorem qsU(x:Operand):ay S (.not x) dst σ H K=(qcZ (ev σ x) (fun d=>K d H)):=id rfl
@[simp ↓] theorem qq4(x:Operand):ay S (.conv k x) dst σ H K=(Va k (ev σ x) (fun d=>K d H)):=id rfl
@[simp ↓] theorem qs1:ay S (.clo f xs) dst σ H K=((fun d=>K d H) (.clo f (xs.map (ev σ)))):=id rfl
@[simp ↓] theorem qnT(x:Operand)(lo hi:Option Operand):ay S (.slice n x lo hi) dst σ H K=(HS n (ev σ x) (lo.map fun o=>uw (ev σ o)) (hi.map fun o=>uw (ev σ o)) H (fun d=>K d H)):=id rfl
@[simp ↓] theorem qlZ(x:Operand)(lo hi:Option Operand):ax S (.slice n x lo hi) dst σ Hr H K=(HS n (ev σ x) (lo.map fun o=>uw (ev σ o)) (hi.map fun o=>uw (ev σ o)) Hr (fun d=>K d H)):=id rfl
@[simp ↓] theorem qkK(x:Operand)(lo hi:Option Operand):ay S (.sslice x lo hi) dst σ H K=(GX (ev σ x) (lo.map fun o=>uw (ev σ o)) (hi.map fun o=>uw (ev σ o)) (fun d=>K d H)):=id rfl
@[simp ↓] theorem qjl(x:Operand)(lo hi:Option Operand):ax S (.sslice x lo hi) dst σ Hr H K=(GX (ev σ x) (lo.map fun o=>uw (ev σ o)) (hi.map fun o=>uw (ev σ o)) (fun d=>K d H)):=id rfl
@[simp ↓] theorem qnZ(x:Operand):ay S (.faddr off x) dst σ H K=(BX off (ev σ x) (fun d=>K d H)):=id rfl
@[simp ↓] theorem ql3(x:Operand):ax S (.faddr off x) dst σ Hr H K=(BX off (ev σ x) (fun d=>K d H)):=id rfl
@[simp ↓] theorem qsY(x:Operand):ay S (.fld agg sz off x) dst σ H K=(qdI agg sz off (ev σ x) (fun d=>K d H)):=id rfl
@[simp ↓] theorem qnY(x i:Operand):ay S (.iaddr n x i) dst σ H K=(BV n (ev σ i) (ev σ x) H (fun d=>K d H)):=id rfl
@[simp ↓] theorem ql2(x i:Operand):ax S (.iaddr n x i) dst σ Hr H K=(BV n (ev σ i) (ev σ x) Hr (fun d=>K d H)):=id rfl
@[simp ↓] theorem qqU(x i:Operand):ay S (.sidx x i) dst σ H K=(Uj (ev σ i) (ev σ x) (fun d=>K d H)):=id rfl
@[simp ↓] theorem qsZ(x:Operand):ay S (.ext x i) dst σ H K=(qao (ev σ x) i (fun d=>K d H)):=id rfl
@[simp ↓] theorem qse(x:Operand):ax S (.ext x i) dst σ Hr H K=(qao (ev σ x) i (fun d=>K d H)):=id rfl
@[simp ↓] theorem qsX(x:Operand):ay S (.len x) dst σ H K=(SY (ev σ x) H (fun d=>K d H)):=id rfl
@[simp ↓] theorem qsd(x:Operand):ax S (.len x) dst σ Hr H K=(SY (ev σ x) Hr (fun d=>K d H)):=id rfl
@[simp ↓] theorem qqT(x:Operand):ay S (.slen x) dst σ H K=(Ph (ev σ x) (fun d=>K d H)):=id rfl
@[simp ↓] theorem qpa(x:Operand):ax S (.slen x) dst σ Hr H K=(Ph (ev σ x) (fun d=>K d H)):=id rfl
@[simp ↓] theorem qq6(x:Operand):ay S (.bstr x) dst σ H K=(qd8 (ev σ x) H (fun d=>K d H)):=id rfl
@[simp ↓] theorem qqW(x:Operand):ay S (.rstr x) dst σ H K=(qcH (ev σ x) (fun d=>K d H)):=id rfl
@[simp ↓] theorem qsW(x:Operand):ay S (.mm mx [x,y]) dst σ H K=ZA mx (ev σ x) (ev σ y) (fun d=>K d H):=id rfl
@[simp ↓] theorem qq7(x:Operand):ay S (.box el true x) dst σ H K=((ev σ x).kn=true/\K (.cptr (ev σ x).cells 0) H):=id rfl
@[simp ↓] theorem qn2:ay S (.alloc el z) (some t) σ H K=∀b,K (.bptr t b 0) (ah H t (some (.box b (z.map uY)))):=id rfl
@[simp ↓] theorem qs2(x:Operand):ay S (.box el false x) (some t) σ H K=((ev σ x).kn=true/\∀b,K (.bptr t b 0) (ah H t (some (.box b (ev σ x).cells)))):=id rfl
@[simp ↓] theorem qkN:ay S (.mslice el n ps) (some t) σ H K=(lm n (ps.map (ev σ))/\∀x,K (.own t x) (ah H t (some (.row x el n (ps.map (ev σ)))))):=id rfl
@[simp ↓] theorem qip(l:Operand):ay S (.mkslice el n bytes agg z l c) (some t) σ H K=qpE t el n bytes agg z (uw (ev σ l)) (uw (ev σ c)) H K:=id rfl
@[simp ↓] theorem qsc(x:Operand):ax S (.mm mx [x,y]) dst σ Hr H K=ZA mx (ev σ x) (ev σ y) (fun d=>K d H):=id rfl
@[simp ↓] theorem ql7:ax S (.alloc el z) (some t) σ Hr H K=∀b,K (.bptr t b 0) (ah H t (some (.box b (z.map uY)))):=id rfl
@[simp ↓] theorem qjm:ax S (.nslice el n) (some t) σ Hr H K=∀x,K (.own t x) (ah H t (some (.row x el n []))):=id rfl
@[simp ↓] theorem qhW(l:Operand):ax S (.mkslice el n bytes agg z l c) (some t) σ Hr H K=qpE t el n bytes agg z (uw (ev σ l)) (uw (ev σ c)) H K:=id rfl
@[simp ↓] theorem qkM(x:Operand):ay S (.sbytes x) dst σ H K=qcD (ev σ x) (fun d=>K d H):=id rfl
@[simp ↓] theorem qkL(x:Operand):ay S (.srange x) (some t) σ H K=YB t (ev σ x) H K:=by
 simp only[ay,bO,YB]
 split <;> simp_all
@[simp ↓] theorem qnS(x:Operand):ay S (.snext x) dst σ H K=qcz (ev σ x) H K:=id rfl
@[simp ↓] theorem qlY(r:Nat)(x:Operand):ax S (.store (some r) sz x y) dst σ Hr H K=((ev σ y).kn=true/\(ev σ y).cells.length=sz/\Pd r sz (ev σ x) (ev σ y) H K):=by
 simp only[ax]
 congr 2
@[simp ↓] theorem qnR(x:Operand):ay S (.store rt sz x y) dst σ H K=((ev σ y).kn=true/\(ev σ y).cells.length=sz/\HP sz (ev σ x) (ev σ y) H K):=id rfl
@[simp ↓] theorem qkR(x:Operand):ay S (.append rt el n bytes x y) dst σ H K=uA n (ev σ y) H fun es2=>qbj dst el n bytes (ev σ x) es2 H K:=id rfl
@[simp ↓] theorem qhY(x:Operand):ax S (.append none el n bytes x y) dst σ Hr H K=uA n (ev σ y) Hr fun es2=>qef dst el n bytes (ev σ x) es2 H K:=by
 simp only[ax]
 congr 1
@[simp ↓] theorem qhX(r:Nat)(x:Operand):ax S (.append (some r) el n bytes x y) dst σ Hr H K=uA n (ev σ y) Hr fun es2=>qee r el n bytes (ev σ x) es2 H K:=by
 simp only[ax]
 congr 1
@[simp ↓] theorem qq3(x:Operand):ay S (.copy n x y) dst σ H K=mF n (ev σ y) H fun src=>qdX n (ev σ x) src H K:=id rfl
@[simp ↓] theorem qq5(args:List Operand):ay S (.call f args) dst σ H K=(S f).pt (dst.getD 0) (args.map (ev σ)) H K:=id rfl
@[simp ↓] theorem ql4(r:Nat)(args:List Operand):ax S (.callb r f args) dst σ Hr H K=Iu r dst (S f) (args.map (ev σ)) H K:=id rfl
@[simp ↓] theorem qn0(f:Operand)(args:List Operand):ay S (.callv f args) dst σ H K=zV S (ev σ f) (dst.getD 0) (args.map (ev σ)) H K:=id rfl
@[simp ↓] theorem qpd(args:List Operand):ax S (.call f args) dst σ Hr H K=Wp dst (S f) (args.map (ev σ)) H K:=id rfl
end
theorem qiV(σ:Sg)(t s:Nat)(d:D):upd σ t d s=if s=t then d else σ s:=id rfl
theorem RH(σ:Sg)(t:Nat)(d:D):eZ σ (some t) d=upd σ t d:=id rfl
theorem qfA(σ:Sg)(d:D):eZ σ none d=σ:=id rfl
theorem qfB(H:ab)(t s:Nat)(d:Option Res):ah H t d s=if s=t then d else H s:=id rfl
attribute [simp] RH qfA qfB
@[simp] theorem Yh(σ:Sg)(t:Nat):ev σ (.tmp t)=σ t:=id rfl
@[simp] theorem qcp(σ:Sg)(x:Value):ev σ (.const x)=uY x:=id rfl
@[simp] theorem qoJ:ev σ (.func f)= .clo f []:=id rfl
@[simp] theorem qoK(b:Bool):uY (.bool b)= .v (.bool b):=id rfl
@[simp] theorem qiS(k:IntKind)(n:Int):uY (.int k n)= .v (.int k n):=id rfl
@[simp] theorem qrR:uY (.string s)= .v (.string s):=id rfl
@[simp] theorem qrS(a:Option Addr):uY (.pointer a)= .v (.pointer a):=id rfl
@[simp] theorem qlw(a:Option Addr)(l c:Nat):uY (.slice a l c)= .v (.slice a l c):=id rfl
theorem qjU(σ:Sg):jz [] σ=fun _=> .any:=id rfl
theorem qgz(t:Nat)(l:List Nat)(σ:Sg):jz (t::l) σ=upd (jz l σ) t (σ t):=id rfl
@[simp] theorem qpT:kD [] H=fun _=>none:=id rfl
@[simp] theorem qdf(t:Nat)(l:List Nat)(H:ab):kD (t::l) H=ah (kD l H) t (H t):=id rfl
@[simp] theorem qpm:bY i=none:=id rfl
@[simp] theorem qpL:tF [] σ=True:=id rfl
@[simp] theorem qmx(l:List (Nat×D)):tF ((t,d)::l) σ=(Rd (σ t) d/\tF l σ):=id rfl
@[simp] theorem qpC:xP [] H=True:=id rfl
@[simp] theorem qmo(d:Res)(l:List (Nat×Res)):xP ((t,d)::l) H=((H t=some d\/isNilRow d)/\xP l H):=id rfl
@[simp] theorem sub_self(d:D):Rd d d=True:=by
 cases d <;> simp[Rd]
@[simp] theorem qrY(a:D):Rd a (.v x)=(a= .v x):=id rfl
@[simp] theorem qi1(a:D):Rd a (.cptr cs o)=(a= .cptr cs o):=id rfl
@[simp] theorem qlC(y:Value):Rd (.own i x) (.own j y)=(x=y):=by simp[Rd]
@[simp] theorem qi0(y:Value):Rd (.v x) (.own j y)=(x=y):=by simp[Rd]
@[simp] theorem qtv:LF true sz cs off= .agg ((cs.drop off).take sz):=id rfl
@[simp] theorem qtw:LF false sz cs off=(cs[off]?).getD .any:=id rfl
@[simp ↓] theorem qlW(rs:List ak)(K:D->ab->Prop):sR rs K .norm σ H=yk rs σ H fun ds=>K (jw ds) H:=id rfl
@[simp ↓] theorem qo8(rs:List ak)(K:D->ab->Prop):sR rs K .ret σ H=yk rs σ H fun ds=>K (jw ds) H:=id rfl
@[simp ↓] theorem qo7(K:List D->Prop):yk [] σ H K=K []:=id rfl
@[simp ↓] theorem qo6(r:List ak)(K:List D->Prop):yk (.tmp t::r) σ H K=yk r σ H fun ds=>K (σ t::ds):=id rfl
@[simp ↓] theorem qlV(r:List ak)(K:List D->Prop):yk (.cell t agg sz::r) σ H K=FS agg sz (σ t) H fun d=>yk r σ H fun ds=>K (d::ds):=id rfl
@[simp] theorem qto:jw [d]=d:=id rfl
@[simp] theorem qtp:jw []= .tup []:=id rfl
@[simp] theorem qtn(l:List D):jw (d::e::l)= .tup (d::e::l):=id rfl
@[simp] theorem qtC:D.kn (.v x)=true:=id rfl
@[simp] theorem qnO:D.cells (.v x)=[.v x]:=id rfl
@[simp] theorem qpS:D.kn (.agg cs)=true:=id rfl
@[simp] theorem qio:D.cells (.agg cs)=cs:=id rfl
@[simp] theorem qmJ:D.kn (.list n es)=true:=id rfl
@[simp] theorem qhc:D.cells (.list n es)=[.list n es]:=id rfl
@[simp] theorem qmK:D.kn (.cptr cs o)=true:=id rfl
@[simp] theorem qhd:D.cells (.cptr cs o)=[.cptr cs o]:=id rfl
@[simp] theorem qpQ:D.kn (.own i x)=true:=id rfl
@[simp] theorem qim:D.cells (.own i x)=[.own i x]:=id rfl
@[simp] theorem qpP(k:Nat):D.kn (.sub i v n k o)=true:=id rfl
@[simp] theorem qil(k:Nat):D.cells (.sub i v n k o)=[.sub i v n k o]:=id rfl
@[simp] theorem qpR:D.kn (.clo f cs)=true:=id rfl
@[simp] theorem qin:D.cells (.clo f cs)=[.clo f cs]:=id rfl
@[simp] theorem qs5(n:Int):uw (.v (.int k n))=some (k,n):=id rfl
attribute [simp] setAt
@[simp] theorem qqB(n:Int):enc n= .v (.int .i64 n):=rfl
@[simp] theorem qnw(b:Bool):enc b= .v (.bool b):=rfl
@[simp] theorem qqA:enc s= .v (.string s):=rfl
@[simp] theorem qnv{X:Type}[Cod X](l:List X):enc l= .list (Cod.wd X) (l.map enc):=rfl
@[simp] theorem qoC:Cod.wd Int=1:=rfl
@[simp] theorem qlo:Cod.wd Bool=1:=rfl
@[simp] theorem qoB:Cod.wd ByteArray=1:=rfl
@[simp] theorem qln{X:Type}[Cod X]:Cod.wd (List X)=1:=rfl
@[congr] theorem qmV(hd:d=d₁):P0 d A B=P0 d₁ A B:=by subst hd;rfl
@[congr] theorem qif{s:Nat}{b:Bool}(hd:d=d₁):nk s b σ d yes no=nk s b σ d₁ yes no:=by subst hd;rfl
@[congr] theorem qjr(hd:d=d₁):FM d A B=FM d₁ A B:=by subst hd;rfl
@[congr] theorem qjP(hr:r=r₁):PU agg sz b off r K=PU agg sz b off r₁ K:=by subst hr;rfl
@[congr] theorem qjO(hr:r=r₁):PS agg sz x n i off r K=PS agg sz x n i off r₁ K:=by subst hr;rfl
@[congr] theorem qjN(hd:d=d₁):FS agg sz d H K=FS agg sz d₁ H K:=by subst hd;rfl
@[congr] theorem qmh(hd:d=d₁):WL d K=WL d₁ K:=by subst hd;rfl
@[congr] theorem qiy(hd:d=d₁)(he:e=e₁):JW op d e K=JW op d₁ e₁ K:=by subst hd;subst he;rfl
@[congr] theorem qlS(hd:d=d₁):qcH d K=qcH d₁ K:=by subst hd;rfl
@[congr] theorem qnL{o:Option Bool}{o₁:Option Bool}(ho:o=o₁):TD o K=TD o₁ K:=by subst ho;rfl
@[congr] theorem qnK(hd:d=d₁)(he:e=e₁):XD op d e K=XD op d₁ e₁ K:=by subst hd;subst he;rfl
@[congr] theorem qnm{o:Option Bool}{o₁:Option Bool}(ho:o=o₁):Xv neg o K=Xv neg o₁ K:=by subst ho;rfl
@[congr] theorem qjf(hd:d=d₁)(he:e=e₁):Uk d e K=Uk d₁ e₁ K:=by subst hd;subst he;rfl
@[congr] theorem qmf(hd:d=d₁):qcZ d K=qcZ d₁ K:=by subst hd;rfl
@[congr] theorem qkB(hd:d=d₁):Va k d K=Va k d₁ K:=by subst hd;rfl
@[congr] theorem qih(hd:d=d₁):BX off d K=BX off d₁ K:=by subst hd;rfl
@[congr] theorem qm4(hd:d=d₁):qdI agg sz off d K=qdI agg sz off d₁ K:=by subst hd;rfl
@[congr] theorem qic{k:Int}(hr:r=r₁):Ji n k id x r K=Ji n k id x r₁ K:=by subst hr;rfl
@[congr] theorem qib{i:D}(hi:i=i₁)(hd:d=d₁):BV n i d H K=BV n i₁ d₁ H K:=by subst hi;subst hd;rfl
@[congr] theorem qje{i:D}(hi:i=i₁)(hd:d=d₁):Uj i d K=Uj i₁ d₁ K:=by subst hi;subst hd;rfl
@[congr] theorem qnc{o:Option D}{o₁:Option D}(ho:o=o₁):qap o K=qap o₁ K:=by subst ho;rfl
@[congr] theorem qnb(hd:d=d₁):qao d i K=qao d₁ i K:=by subst hd;rfl
@[congr] theorem qmI(hr:r=r₁):ZP x r K=ZP x r₁ K:=by subst hr;rfl
@[congr] theorem qmH(hd:d=d₁):SY d H K=SY d₁ H K:=by subst hd;rfl
@[congr] theorem qn7(hr:r=r₁):qa4 x r K=qa4 x r₁ K:=by subst hr;rfl
@[congr] theorem qn6(hd:d=d₁):qd8 d H K=qd8 d₁ H K:=by subst hd;rfl
@[congr] theorem qjd(hd:d=d₁):Ph d K=Ph d₁ K:=by subst hd;rfl
@[congr] theorem qmp(hd:d=d₁)(he:e=e₁):ZA mx d e K=ZA mx d₁ e₁ K:=by subst hd;subst he;rfl
@[congr] theorem qlH{K:List D->Prop}(hr:r=r₁):Wb n lo hi x r K=Wb n lo hi x r₁ K:=by subst hr;rfl
@[congr] theorem qhS{y:D}{K:D->ab->Prop}(hy:y=y₁)(hr:r=r₁):Bc sz id b off y r H K=Bc sz id b off y₁ r₁ H K:=by subst hy;subst hr;rfl
@[congr] theorem qhR{y:D}{K:D->ab->Prop}(hy:y=y₁)(hr:r=r₁):Bb sz id x n i off y r H K=Bb sz id x n i off y₁ r₁ H K:=by subst hy;subst hr;rfl
@[congr] theorem qhQ{y:D}{K:D->ab->Prop}(hd:d=d₁)(hy:y=y₁):HP sz d y H K=HP sz d₁ y₁ H K:=by subst hd;subst hy;rfl
@[congr] theorem qoh{K:D->ab->Prop}(hes2:es2=es2₁)(hr:r=r₁):qbl el n bytes id x es2 r H K=qbl el n bytes id x es2₁ r₁ H K:=by subst hes2;subst hr;rfl
@[congr] theorem qnI{K:D->ab->Prop}(hsrc:src=src₁)(hr:r=r₁):qaT n id x n' lo hi src r H K=qaT n id x n' lo hi src₁ r₁ H K:=by subst hsrc;subst hr;rfl
@[congr] theorem qnH{K:D->ab->Prop}(hd:d=d₁)(hsrc:src=src₁):qdX n d src H K=qdX n d₁ src₁ H K:=by subst hd;subst hsrc;rfl
@[congr] theorem qm3{K:Sg->ab->Prop}(hr:r=r₁):qad t x id σ r H K=qad t x id σ r₁ H K:=by subst hr;rfl
@[congr] theorem qm1{K:Sg->ab->Prop}(hd:d=d₁):qdF t n d σ H K=qdF t n d₁ σ H K:=by subst hd;rfl
@[congr] theorem qlQ(hd:d=d₁):qcD d K=qcD d₁ K:=by subst hd;rfl
@[congr] theorem qlG{K:D->ab->Prop}(hd:d=d₁):YB t d H K=YB t d₁ H K:=by subst hd;rfl
@[congr] theorem qlL{K:D->ab->Prop}(hr:r=r₁):YC id b r H K=YC id b r₁ H K:=by subst hr;rfl
@[congr] theorem qlK{K:D->ab->Prop}(hd:d=d₁):qcz d H K=qcz d₁ H K:=by subst hd;rfl
@[congr] theorem qoi{K:D->ab->Prop}(hdst:dst=dst₁)(hd:d=d₁)(hes2:es2=es2₁):qef dst el n b d es2 H K=qef dst₁ el n b d₁ es2₁ H K:=by subst hdst;subst hd;subst hes2;rfl
@[congr] theorem qof{r:Nat}{q:Option Res}{K:D->ab->Prop}{q₁:Option Res}(hes2:es2=es2₁)(hq:q=q₁):qbi el n b r x es2 q H K=qbi el n b r x es2₁ q₁ H K:=by subst hes2;subst hq;rfl
@[congr] theorem qoe{r:Nat}{K:D->ab->Prop}(hd:d=d₁)(hes2:es2=es2₁):qee r el n b d es2 H K=qee r el n b d₁ es2₁ H K:=by subst hd;subst hes2;rfl
@[congr] theorem qi7{r:Nat}{y:D}{K:D->ab->Prop}(hd:d=d₁)(hy:y=y₁):Pd r sz d y H K=Pd r sz d₁ y₁ H K:=by subst hd;subst hy;rfl
@[congr] theorem qog{K:D->ab->Prop}(hdst:dst=dst₁)(hd:d=d₁)(hes2:es2=es2₁):qbj dst el n bytes d es2 H K=qbj dst₁ el n bytes d₁ es2₁ H K:=by subst hdst;subst hd;subst hes2;rfl
@[congr] theorem qkJ{f:D}{d:Nat}{K:D->ab->Prop}(hf:f=f₁)(hargs:args=args₁):zV S f d args H K=zV S f₁ d args₁ H K:=by subst hf;subst hargs;rfl
@[congr] theorem qi9{K:List D->Prop}(h:d=d'):mF n d H K=mF n d' H K:=by subst h;rfl
@[congr] theorem qlI{K:List D->Prop}(h:d=d'):uA n d H K=uA n d' H K:=by subst h;rfl
@[congr] theorem qiA{s s':Spc}{d:Nat}{ds':List D}{K:D->ab->Prop}(h:s=s')(h':ds=ds'):s.pt d ds H K=s'.pt d ds' H K:=by subst h;subst h';rfl
@[congr] theorem qkz{lo hi lo' hi':Option (Option (IntKind×Int))}{K:Nat->Nat->Prop}(h1:lo=lo')(h2:hi=hi')(h3:n=n'):uq lo hi n K=uq lo' hi' n' K:=by subst h1;subst h2;subst h3;rfl
end Go.Gv
