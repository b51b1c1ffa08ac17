/- T10 -/
import Derived.Test.YtnffegdacbdhmaaGreatDoorGe05
set_option linter.all false
namespace Go.Gv
section
open Cod (enc dec)
variable {b b' bytes el el' f g hi i id j len lo n n' n'' o off sz t:Nat}{H:ab}{K:D->Prop}{dst dst₁ rt:Option Nat}{v x x':Value}{L d d' d₁ e e₁ f₁ i₁ y₁ z₁:D}{k k' kd:IntKind}{σ:Sg}{args args₁ caps cells cs ds es es2 es2₁ src src₁:List D}{agg mx neg:Bool}{r r₁:Option Res}{c y:Operand}{a h l:Int}{s:ByteArray}{z:List Value}{no yes:Sg->Prop}{A B p:Prop}{op:BinOp}{ks:List qe7}{S:Nat->Spc}{ps xs:List Operand}{s₁:Spc}
section
variable {S:Nat->Spc}{K:Ex->Sg->ab->Prop}{σ:Sg}{H:ab}
def Yk(S:Nat->Spc)(b:CC)(K:Ex->Sg->ab->Prop):Ex->Sg->ab->Prop:=λe σ H=>match e with
 | .norm=>vc S b K σ H
 |e=>K e σ H
def qg3(id:Nat)(K:Ex->Sg->ab->Prop):Ex->Sg->ab->Prop:=λe σ H=>match e with
 | .ex i=>if i=id then K .norm σ H else K (.ex i) σ H
 |e=>K e σ H
def qgj(q:qsO)(x:q.X)(K:Ex->Sg->ab->Prop):Ex->Sg->ab->Prop:=λe u H'=>match e with
 | .norm=>∃y,q.P y/\Wk u H' (q.s y) (q.h y)/\q.m y<q.m x
 |e=>K e u H'
def RT(d:D)(A B:Prop):Prop:=match d with
 | .v (.bool t)=>(t=true->A)/\(t=false->B)
 | _=>False
@[simp ↓] theorem qr1:vc S .skip K σ H=K .norm σ H:=i' rfl
@[simp ↓] theorem qpP(l:List CI):vc S (.reg l) K σ H=HQ S l σ H (K .norm):=i' rfl
@[simp ↓] theorem qCi(p l:List CI):vc S (.regd p l) K σ H=pu S p σ (bM p H) H λσ H=>HQ S l σ H (K .norm):=i' rfl
@[simp ↓] theorem Z0(a b:CC):vc S (.seq a b) K σ H=vc S a (Yk S b K) σ H:=i' rfl
@[simp ↓] theorem Wm(b:CC):Yk S b K .norm σ H=vc S b K σ H:=i' rfl
@[simp ↓] theorem qkL(b:CC)(i:Nat):Yk S b K (.ex i) σ H=K (.ex i) σ H:=i' rfl
@[simp ↓] theorem qr2(b:CC):Yk S b K .ret σ H=K .ret σ H:=i' rfl
@[simp ↓] theorem qvH(c:Operand)(a b:CC):vc S (.ite c a b) K σ H=RT (ev σ c) (vc S a K σ H) (vc S b K σ H):=i' rfl
@[simp] theorem qr5(t:Bool)(A B:Prop):RT (.v (.bool t)) A B=((t=true->A)/\(t=false->B)):=i' rfl
@[simp high] theorem qCk:RT (.v (.bool true)) A B=A:=by simp[RT]
@[simp high] theorem qCl:RT (.v (.bool false)) A B=B:=by simp[RT]
@[simp ↓] theorem Wo(id:Nat)(b:CC):vc S (.block id b) K σ H=vc S b (qg3 id K) σ H:=i' rfl
@[simp ↓] theorem qr7(id:Nat):qg3 id K .norm σ H=K .norm σ H:=i' rfl
@[simp ↓] theorem qkO(id:Nat):qg3 id K .ret σ H=K .ret σ H:=i' rfl
@[simp ↓] theorem qcC(id i:Nat):qg3 id K (.ex i) σ H=if i=id then K .norm σ H else K (.ex i) σ H:=i' rfl
@[simp ↓] theorem qr6(i:Nat):vc S (.exit i) K σ H=K (.ex i) σ H:=i' rfl
@[simp ↓] theorem qED:vc S .ret K σ H=K .ret σ H:=i' rfl
@[simp ↓] theorem qCj(ls lh:List Nat)(c:CC):vc S (.keep ls lh c) K σ H=vc S c K (jK ls σ) (jL lh H):=i' rfl
def Wn(k:Nat)(b:CC):vc S (.loop k b) K σ H=∃q:qsO,(∃x,q.P x/\Wk σ H (q.s x) (q.h x))/\∀x,q.P x->vc S b (qgj q x K) (q.s x) (q.h x):=i' rfl
def qkN(k:Nat)(c:CC):vc S (.cut k c) K σ H=∃(q:Sg) (H':ab),Wk σ H q H'/\vc S c K q H':=i' rfl
@[simp ↓] theorem qr4(q:qsO)(x:q.X):qgj q x K .norm σ H=∃y,q.P y/\Wk σ H (q.s y) (q.h y)/\q.m y<q.m x:=i' rfl
@[simp ↓] theorem qr3(q:qsO)(x:q.X):qgj q x K .ret σ H=K .ret σ H:=i' rfl
@[simp ↓] theorem qkM(q:qsO)(x:q.X)(i:Nat):qgj q x K (.ex i) σ H=K (.ex i) σ H:=i' rfl
end
def qG(s:Nat)(b:Bool)(σ:Sg)(d:D)(yes no:Sg->Prop):Prop:=match d with
 | .v (.bool t)=>(t=b->yes (upd σ s (.v (.bool b))))/\(t=(!b)->no (upd σ s (.v (.bool (!b)))))
 | .undef=>no σ
 | _=>False
@[simp high] theorem qFm(s:Nat):qG s true σ (.v (.bool true)) yes no=yes (upd σ s (.v (.bool true))):=by simp[qG]
@[simp high] theorem qFn(s:Nat):qG s true σ (.v (.bool false)) yes no=no (upd σ s (.v (.bool false))):=by simp[qG]
@[simp high] theorem qFo(s:Nat):qG s false σ (.v (.bool true)) yes no=no (upd σ s (.v (.bool true))):=by simp[qG]
@[simp high] theorem qFp(s:Nat):qG s false σ (.v (.bool false)) yes no=yes (upd σ s (.v (.bool false))):=by simp[qG]
@[simp] theorem qFl(s:Nat)(b:Bool):qG s b σ .undef yes no=no σ:=i' rfl
@[simp] theorem qFz(s:Nat)(b t:Bool):qG s b σ (.v (.bool t)) yes no=((t=b->yes (upd σ s (.v (.bool b))))/\(t=(!b)->no (upd σ s (.v (.bool (!b)))))):=i' rfl
section
variable {S:Nat->Spc}{σ:Sg}{H Hr:ab}
@[simp ↓] theorem qpM(K:Sg->ab->Prop):HQ S [] σ H K=K σ H:=i' rfl
@[simp ↓] theorem qrF(K:Sg->ab->Prop)(d:Option Nat)(c:COp)(r:List CI):HQ S (.op d none c::r) σ H K=aA S c d σ H λx H'=>HQ S r (gx σ d x) H' K:=i' rfl
@[simp ↓] theorem qEg(K:Sg->ab->Prop)(d:Option Nat)(s:Nat)(b:Bool)(c:COp)(r:List CI):HQ S (.op d (some (s,b)) c::r) σ H K=qG s b σ (σ s) (λσ=>aA S c d σ H λx H'=>HQ S r (gx σ d x) H' K) (λσ=>HQ S r (gx σ d .undef) H K):=i' rfl
@[simp ↓] theorem qEh(K:Sg->ab->Prop)(r:List CI):HQ S (.frz t n::r) σ H K=Mb t n σ H λq H'=>HQ S r q H' K:=i' rfl
@[simp ↓] theorem qD3(K:Sg->ab->Prop):pu S [] σ Hr H K=K σ H:=i' rfl
@[simp ↓] theorem qD4(K:Sg->ab->Prop)(a:Nat)(r:List CI):pu S (.frz a b::r) σ Hr H K=pu S r σ (bM r Hr) H K:=i' rfl
@[simp ↓] theorem qE7(K:Sg->ab->Prop)(d:Option Nat)(c:COp)(r:List CI):pu S (.op d none c::r) σ Hr H K=ax S c d σ Hr H λx H'=>pu S r (gx σ d x) Hr H' K:=i' rfl
@[simp ↓] theorem qD2(K:Sg->ab->Prop)(d:Option Nat)(s:Nat)(b:Bool)(c:COp)(r:List CI):pu S (.op d (some (s,b)) c::r) σ Hr H K=qG s b σ (σ s) (λσ=>ax S c d σ Hr H λx H'=>pu S r (gx σ d x) Hr H' K) (λσ=>pu S r (gx σ d .undef) Hr H K):=i' rfl
end
def LV(d:D)(A B:Prop):Prop:=match d with
 | .v (.bool t)=>(t=true->A)/\(t=false->B)
 | _=>False
@[simp high] theorem qxz:LV (.v (.bool true)) A B=A:=by simp[LV]
@[simp high] theorem qxA:LV (.v (.bool false)) A B=B:=by simp[LV]
def Zm(agg:Bool)(sz b off:Nat)(r:Option Res)(K:D->Prop):Prop:=match r with
 |some (.box b' cells)=>b'=b/\off+sz<=cells.length/\K (Tf agg sz cells off)
 | _=>False
def Zl(agg:Bool)(sz:Nat)(x:Value)(n i off:Nat)(r:Option Res)(K:D->Prop):Prop:=match r with
 |some (.row x' _ n' es)=>x'=x/\n'=n/\off+sz<=n/\i<es.length/\∀d,es[i]? =some d->K (Tf agg sz d.cells off)
 | _=>False
def L3(agg:Bool)(sz:Nat)(d:D)(H:ab)(K:D->Prop):Prop:=match d with
 | .cptr cs off=>off+sz<=cs.length/\K (Tf agg sz cs off)
 | .bptr id b off=>Zm agg sz b off (H id) K
 | .eptr id x n i off=>Zl agg sz x n i off (H id) K
 | _=>False
@[simp] theorem qx0:L3 agg sz (.cptr cs off) H K=(off+sz<=cs.length/\K (Tf agg sz cs off)):=i' rfl
@[simp] theorem qx1:L3 agg sz (.bptr i b off) H K=Zm agg sz b off (H i) K:=i' rfl
@[simp] theorem qxZ(k:Nat):L3 agg sz (.eptr i x n k off) H K=Zl agg sz x n k off (H i) K:=i' rfl
@[simp] theorem qx3:Zm agg sz b off (some (.box b' cells)) K=(b'=b/\off+sz<=cells.length/\K (Tf agg sz cells off)):=i' rfl
@[simp] theorem qx2:Zl agg sz x n i off (some (.row x' el n' es)) K=(x'=x/\n'=n/\off+sz<=n/\i<es.length/\∀d,es[i]? =some d->K (Tf agg sz d.cells off)):=i' rfl
def qgd(d:D)(K:D->Prop):Prop:=match d with
 | .cptr cs off=>K (.cptr cs off)
 | .bptr id b off=>K (.bptr id b off)
 | .eptr id x n i off=>K (.eptr id x n i off)
 | .tape L=>K (.tape L)
 | .clo f caps=>K (.clo f caps)
 | _=>False
@[simp] theorem qAU:qgd (.cptr cs off) K=K (.cptr cs off):=i' rfl
@[simp] theorem qAV:qgd (.bptr i b off) K=K (.bptr i b off):=i' rfl
def QD(op:BinOp)(d e:D)(K:D->Prop):Prop:=match d,e with
 | .v (.int k a), .v (.int k' b)=>qhf op k k'/\jE op k a b K
 | _,_=>False
@[simp] theorem qlG(op:BinOp)(k k':IntKind)(a b:Int)(K:D->Prop):QD op (.v (.int k a)) (.v (.int k' b)) K=(qhf op k k'/\jE op k a b K):=i' rfl
@[simp] theorem qn3(k k':IntKind):qhf .add k k'=(k=k'):=i' rfl
@[simp] theorem qyc:qhf .sub k k'=(k=k'):=i' rfl
@[simp] theorem qyh:qhf .mul k k'=(k=k'):=i' rfl
@[simp] theorem qyg:qhf .quo k k'=(k=k'):=i' rfl
@[simp] theorem qyf:qhf .rem k k'=(k=k'):=i' rfl
@[simp] theorem qyi:qhf .and k k'=(k=k'):=i' rfl
@[simp] theorem qBA:qhf .or k k'=(k=k'):=i' rfl
@[simp] theorem qye:qhf .shl k k'=True:=i' rfl
@[simp] theorem qyd:qhf .shr k k'=True:=i' rfl
@[simp ↓] theorem qg6(k:IntKind)(a b:Int)(K:D->Prop):jE .add k a b K=(InR k (a+b)/\K (.v (.int k (a+b)))):=i' rfl
@[simp ↓] theorem qtB(b:Int):jE .sub k a b K=(InR k (a -b)/\K (.v (.int k (a -b)))):=i' rfl
@[simp ↓] theorem qtG(b:Int):jE .mul k a b K=(InR k (a*b)/\K (.v (.int k (a*b)))):=i' rfl
@[simp ↓] theorem qtF(b:Int):jE .quo k a b K=(b≠0/\InR k (a.tdiv b)/\K (.v (.int k (a.tdiv b)))):=i' rfl
@[simp ↓] theorem qtE(b:Int):jE .rem k a b K=(b≠0/\K (.v (.int k (a.tmod b)))):=i' rfl
@[simp ↓] theorem qtH(b:Int):jE .and k a b K=K (.v (.int k (qcP k a b))):=i' rfl
@[simp ↓] theorem qwf(b:Int):jE .or k a b K=K (.v (.int k (quG k a b))):=i' rfl
@[simp ↓] theorem qtD(b:Int):jE .shl k a b K=(0<=b/\K (.v (.int k (Yh k a b)))):=i' rfl
@[simp ↓] theorem qtC(b:Int):jE .shr k a b K=(0<=b/\K (.v (.int k (qfH k a b)))):=i' rfl
def qnm(d:D)(K:D->Prop):Prop:=match d with
 | .v (.int _ n)=>K (.v (.string (Utf8.encode n)))
 | _=>False
@[simp] theorem qAv(n:Int):qnm (.v (.int k n)) K=K (.v (.string (Utf8.encode n))):=i' rfl
def qcH(o:Option Bool)(K:D->Prop):Prop:=match o with|some t=>K (.v (.bool t))|none=>False
@[simp] theorem qsn(t:Bool)(K:D->Prop):qcH (some t) K=K (.v (.bool t)):=i' rfl
def qgV(op:BinOp)(d e:D)(K:D->Prop):Prop:=match d,e with
 | .v (.int k a), .v (.int k' b)=>k=k'/\qcH (qal op a b) K
 | .v (.string a), .v (.string b)=>qcH (qcG op a b) K
 | _,_=>False
@[simp] theorem qsm(op:BinOp)(k k':IntKind)(a b:Int)(K:D->Prop):qgV op (.v (.int k a)) (.v (.int k' b)) K=(k=k'/\qcH (qal op a b) K):=i' rfl
@[simp] theorem qCw(a b:ByteArray):qgV op (.v (.string a)) (.v (.string b)) K=qcH (qcG op a b) K:=i' rfl
@[simp] theorem qlj(a b:Int):qal .lss a b=some (decide (a<b)):=i' rfl
@[simp] theorem qvU(b:Int):qal .leq a b=some (decide (a<=b)):=i' rfl
@[simp] theorem qvV(b:Int):qal .gtr a b=some (decide (b<a)):=i' rfl
@[simp] theorem qvW(b:Int):qal .geq a b=some (decide (b<=a)):=i' rfl
@[simp] theorem qvR(a b:ByteArray):qcG .lss a b=some (Op.bytesLess a.toList b.toList):=i' rfl
@[simp] theorem qvS(a b:ByteArray):qcG .gtr a b=some (!(Op.bytesLess a.toList b.toList||a.toList==b.toList)):=i' rfl
@[simp] theorem qvT(a b:ByteArray):qcG .geq a b=some (!Op.bytesLess a.toList b.toList):=i' rfl
def qgN(neg:Bool)(o:Option Bool)(K:D->Prop):Prop:=match o with
 |some p=>K (.v (.bool (if neg then !p else p)))
 |none=>False
@[simp] theorem qCb(p:Bool):qgN false (some p) K=K (.v (.bool p)):=i' rfl
@[simp] theorem qCa(p:Bool):qgN true (some p) K=K (.v (.bool (!p))):=i' rfl
@[simp] theorem qEz(k:qe7)(a b:D):qrW false [k] a b=qhg k a b:=i' rfl
@[simp] theorem qEy(a b:List D):qrW true ks (.agg a) (.agg b)=qow ks a b:=i' rfl
@[simp] theorem qEx:qow [] [] []=some true:=i' rfl
@[simp] theorem qEw(k:qe7)(a b:D)(as u:List D):qow (k::ks) (a::as) (b::u)=(qhg k a b).bind λp=>(qow ks as u).bind λq=>some (p && q):=i' rfl
@[simp] theorem qEB(b:Int):qhg .int (.v (.int k a)) (.v (.int k' b))=if k=k' then some (decide (a=b))else none:=i' rfl
@[simp] theorem qEA(a b:ByteArray):qhg .str (.v (.string a)) (.v (.string b))=some (decide (a=b)):=i' rfl
@[simp] theorem qEC(a b:Bool):qhg .bool (.v (.bool a)) (.v (.bool b))=some (decide (a=b)):=i' rfl
def qdj(d e:D)(K:D->Prop):Prop:=match d,e with
 | .v (.string a), .v (.string b)=>a.size+b.size<=1000000000/\K (.v (.string (a++b)))
 | _,_=>False
@[simp] theorem qxc(a b:ByteArray):qdj (.v (.string a)) (.v (.string b)) K=(a.size+b.size<=1000000000/\K (.v (.string (a++b)))):=i' rfl
def qju(d:D)(K:D->Prop):Prop:=match d with
 | .v (.bool b)=>K (.v (.bool (!b)))
 | _=>False
@[simp] theorem qAQ(b:Bool):qju (.v (.bool b)) K=K (.v (.bool (!b))):=i' rfl
def qeB(k:IntKind)(d:D)(K:D->Prop):Prop:=match d with
 | .v (.int _ n)=>K (.v (.int k (k.wrap n)))
 | _=>False
@[simp] theorem qzb(n:Int):qeB k (.v (.int k' n)) K=K (.v (.int k (k.wrap n))):=i' rfl
def qbJ(n id:Nat)(x:Value)(lo hi:Option (Option (IntKind×Int)))(r:Option Res)(K:D->Prop):Prop:=match r with
 |some (.row x' _ n' es)=>x'=x/\n'=n/\xq lo hi es.length λl h=>K (.sub id x n l h)
 | _=>False
@[simp] theorem qun(lo hi:Option (Option (IntKind×Int))):qbJ n i x lo hi (some (.row x' el n' es)) K=(x'=x/\n'=n/\xq lo hi es.length λl h=>K (.sub i x n l h)):=i' rfl
@[simp] theorem qCs(K:Nat->Nat->Prop):xq (some (some (k,l))) none len K=(0<=l/\l<=len/\K l.toNat len):=i' rfl
@[simp] theorem qCr(K:Nat->Nat->Prop):xq none (some (some (k,h))) len K=(0<=h/\h<=len/\K 0 h.toNat):=i' rfl
def Ot(n:Nat)(d:D)(lo hi:Option (Option (IntKind×Int)))(H:ab)(K:D->Prop):Prop:=match d with
 | .list n' es=>n'=n/\(match lo,hi with
   |none,none=>K (.list n es)
   |some (some (_,l)),none=>0<=l/\l<=es.length/\K (.list n (es.drop l.toNat))
   |none,some (some (_,h))=>0<=h/\h<=es.length/\K (.list n (es.take h.toNat))
   |some (some (_,l)),some (some (_,h))=>0<=l/\l<=h/\h<=es.length/\K (.list n ((es.take h.toNat).drop l.toNat))
   | _,_=>False)
 | .own id x=>qbJ n id x lo hi (H id) K
 | .sub id x n' a b=>n'=n/\xq lo hi (b -a) λl h=>K (.sub id x n (a+l) (a+h))
 | .v (.slice none 0 0)=>xq lo hi 0 λ_ _=>K (.v (.slice none 0 0))
 | _=>False
@[simp] theorem qum(lo hi:Option (Option (IntKind×Int))):Ot n (.own i x) lo hi H K=qbJ n i x lo hi (H i) K:=i' rfl
@[simp] theorem qs8:Ot n (.list n' es) (some (some (k,l))) none H K=(n'=n/\0<=l/\l<=es.length/\K (.list n (es.drop l.toNat))):=i' rfl
@[simp] theorem qs7:Ot n (.list n' es) none (some (some (k,l))) H K=(n'=n/\0<=l/\l<=es.length/\K (.list n (es.take l.toNat))):=i' rfl
def Nm(d:D)(lo hi:Option (Option (IntKind×Int)))(K:D->Prop):Prop:=match d with
 | .v (.string s)=>(match lo,hi with
   |none,none=>K (.v (.string (s.extract 0 s.size)))
   |some (some (_,l)),none=>0<=l/\l<=s.size/\K (.v (.string (s.extract l.toNat s.size)))
   |none,some (some (_,h))=>0<=h/\h<=s.size/\K (.v (.string (s.extract 0 h.toNat)))
   |some (some (_,l)),some (some (_,h))=>0<=l/\l<=h/\h<=s.size/\K (.v (.string (s.extract l.toNat h.toNat)))
   | _,_=>False)
 | _=>False
@[simp] theorem qqR:Nm (.v (.string s)) (some (some (k,l))) none K=(0<=l/\l<=s.size/\K (.v (.string (s.extract l.toNat s.size)))):=i' rfl
@[simp] theorem qqS:Nm (.v (.string s)) (some (some (k,l))) (some (some (k',h))) K=(0<=l/\l<=h/\h<=s.size/\K (.v (.string (s.extract l.toNat h.toNat)))):=i' rfl
def Ha(off:Nat)(d:D)(K:D->Prop):Prop:=match d with
 | .cptr cs o=>K (.cptr cs (o+off))
 | .bptr id b o=>K (.bptr id b (o+off))
 | .eptr id x n i o=>K (.eptr id x n i (o+off))
 | _=>False
@[simp] theorem qvu:Ha off (.cptr cs o) K=K (.cptr cs (o+off)):=i' rfl
@[simp] theorem qvv:Ha off (.bptr i b o) K=K (.bptr i b (o+off)):=i' rfl
@[simp] theorem qvt(k:Nat):Ha off (.eptr i x n k o) K=K (.eptr i x n k (o+off)):=i' rfl
def qoq(agg:Bool)(sz off:Nat)(d:D)(K:D->Prop):Prop:=match d with
 | .agg cs=>off+sz<=cs.length/\K (Tf agg sz cs off)
 | _=>False
@[simp] theorem qB3:qoq agg sz off (.agg cs) K=(off+sz<=cs.length/\K (Tf agg sz cs off)):=i' rfl
def PS(n:Nat)(k:Int)(id:Nat)(x:Value)(r:Option Res)(K:D->Prop):Prop:=match r with
 |some (.row x' _ n' es)=>x'=x/\n'=n/\0<=k/\k<es.length/\K (.eptr id x n k.toNat 0)
 | _=>False
def G8(n:Nat)(i d:D)(H:ab)(K:D->Prop):Prop:=match i with
 | .v (.int _ k)=>match d with
   | .list n' es=>n'=n/\0<=k/\k<es.length/\∀d,es[k.toNat]? =some d->K (.cptr d.cells 0)
   | .own id x=>PS n k id x (H id) K
   | .sub id x n' lo hi=>n'=n/\0<=k/\k<(hi -lo:Nat)/\K (.eptr id x n (lo+k.toNat) 0)
   | _=>False
 | _=>False
@[simp] theorem qvb(k:Int):G8 n (.v (.int kd k)) (.sub i x n' lo hi) H K=(n'=n/\0<=k/\k<(hi -lo:Nat)/\K (.eptr i x n (lo+k.toNat) 0)):=i' rfl
@[simp] theorem qvd(k:Int):G8 n (.v (.int kd k)) (.list n' es) H K=(n'=n/\0<=k/\k<es.length/\∀d,es[k.toNat]? =some d->K (.cptr d.cells 0)):=i' rfl
@[simp] theorem qvc(k:Int):G8 n (.v (.int kd k)) (.own i x) H K=PS n k i x (H i) K:=i' rfl
@[simp] theorem qve(k:Int):PS n k i x (some (.row x' el n' es)) K=(x'=x/\n'=n/\0<=k/\k<es.length/\K (.eptr i x n k.toNat 0)):=i' rfl
def qdi(i d:D)(K:D->Prop):Prop:=match i with
 | .v (.int _ k)=>match d with
   | .v (.string s)=>0<=k/\k<s.size/\∀c,s.data[k.toNat]? =some c->K (.v (.int .u8 c.toNat))
   | _=>False
 | _=>False
@[simp] theorem qxb(k:Int):qdi (.v (.int kd k)) (.v (.string s)) K=(0<=k/\k<s.size/\∀c,s.data[k.toNat]? =some c->K (.v (.int .u8 c.toNat))):=i' rfl
def qkF(o:Option D)(K:D->Prop):Prop:=match o with
 |some d=>K d
 |none=>False
def qkE(d:D)(i:Nat)(K:D->Prop):Prop:=match d with
 | .tup ds=>qkF ds[i]? K
 | _=>False
@[simp] theorem qB5:qkE (.tup ds) i K=qkF ds[i]? K:=i' rfl
@[simp] theorem qB6:qkF (some d) K=K d:=i' rfl
def qjT(x:Value)(r:Option Res)(K:D->Prop):Prop:=match r with
 |some (.row x' _ _ es)=>x'=x/\((es.length:Int)<=9223372036854775807->K (.v (.int .i64 es.length)))
 | _=>False
def VL(d:D)(H:ab)(K:D->Prop):Prop:=match d with
 | .list _ es=>(es.length:Int)<=9223372036854775807->K (.v (.int .i64 es.length))
 | .own id x=>qjT x (H id) K
 | .v (.slice _ n _)=>K (.v (.int .i64 n))
 | .sub _ _ _ lo hi=>((hi -lo:Nat):Int)<=9223372036854775807->K (.v (.int .i64 (hi -lo:Nat)))
 | _=>False
@[simp] theorem qBo:VL (.sub i x n lo hi) H K=(((hi -lo:Nat):Int)<=9223372036854775807->K (.v (.int .i64 (hi -lo:Nat)))):=i' rfl
@[simp] theorem qBr:VL (.list n es) H K=((es.length:Int)<=9223372036854775807->K (.v (.int .i64 es.length))):=i' rfl
@[simp] theorem qBp:VL (.own i x) H K=qjT x (H i) K:=i' rfl
@[simp] theorem qx4(a:Option Addr)(c:Nat):VL (.v (.slice a n c)) H K=K (.v (.int .i64 n)):=i' rfl
@[simp high] theorem qBq:VL (.v (.slice none 0 0)) H K=K (.v (.int .i64 0)):=i' rfl
@[simp] theorem qBs:qjT x (some (.row x' el n es)) K=(x'=x/\((es.length:Int)<=9223372036854775807->K (.v (.int .i64 es.length)))):=i' rfl
def qlq(x:Value)(r:Option Res)(K:D->Prop):Prop:=match r with
 |some (.row x' _ n es)=>x'=x/\n=1/\qpS es=true/\K (.v (.string (qst es)))
 | _=>False
@[simp] theorem qC2:qlq x (some (.row x' el n es)) K=(x'=x/\n=1/\qpS es=true/\K (.v (.string (qst es)))):=i' rfl
def qoV(d:D)(H:ab)(K:D->Prop):Prop:=match d with
 | .own i x=>qlq x (H i) K
 | .v (.slice none 0 0)=>K (.v (.string ⟨#[]⟩))
 | _=>False
@[simp] theorem qC1:qoV (.own i x) H K=qlq x (H i) K:=i' rfl
def Yf(d:D)(K:D->Prop):Prop:=match d with
 | .v (.string s)=>(s.size:Int)<=9223372036854775807->K (.v (.int .i64 s.size))
 | _=>False
@[simp] theorem qxa:Yf (.v (.string s)) K=((s.size:Int)<=9223372036854775807->K (.v (.int .i64 s.size))):=i' rfl
def qjA(mx:Bool)(d e:D)(K:D->Prop):Prop:=match d,e with
 | .v (.int k a), .v (.int k' b)=>k=k'/\K (.v (.int k (if mx then max a b else min a b)))
 | _,_=>False
@[simp] theorem qBb(b:Int):qjA mx (.v (.int k a)) (.v (.int k' b)) K=(k=k'/\K (.v (.int k (if mx then max a b else min a b)))):=i' rfl
@[simp ↓] theorem qtz(K:List D->Prop):mJ σ [] cs K=K cs:=i' rfl
@[simp ↓] theorem qsu(x:Operand)(r:List (Nat×Nat×Operand))(K:List D->Prop):mJ σ ((off,sz,x)::r) cs K=((ev σ x).kn=true/\(ev σ x).cells.length=sz/\mJ σ r (setAt cs off (ev σ x).cells) K):=i' rfl
@[simp] theorem qtc:nY n []=True:=i' rfl
@[simp] theorem qrl(r:List D):nY n (d::r)=(d.kn=true/\d.cells.length=n/\nY n r):=i' rfl
def qfB(n lo hi:Nat)(x:Value)(r:Option Res)(K:List D->Prop):Prop:=match r with
 |some (.row x' _ n'' es)=>x'=x/\n''=n/\K ((es.take hi).drop lo)
 | _=>False
@[simp] theorem qAj(K:List D->Prop):qfB n lo hi x (some (.row x' el n' es)) K=(x'=x/\n'=n/\K ((es.take hi).drop lo)):=i' rfl
@[simp] theorem qDI(K:List D->Prop):pQ n (.sub i x n' lo hi) H K=(n'=n/\qfB n lo hi x (H i) K):=by
 simp only[pQ];cases H i with
 |none=>simp[qfB]
 |some r=>cases r<;>simp[qfB,and_left_comm]
@[simp] theorem qAk(K:List D->Prop):yM n (.list n' es) H K=(n'=n/\K es):=i' rfl
@[simp] theorem qAl(K:List D->Prop):yM n (.v (.string s)) H K=(n=1/\K (Kl s)):=i' rfl
def qBc(t el n bytes:Nat)(agg:Bool)(z:List Value)(l c:Option (IntKind×Int))(H:ab)(K:D->ab->Prop):Prop:=match l,c with
 |some (_,l),some (_,c)=>0<=l/\l<=c/\bytes*c<=140737488355328/\c<=140737488355328/\∀x,K (.own t x) (ai H t (some (.row x el n (List.replicate l.toNat (if agg then .agg (z.map yy)else yy (z.headD (.bool false)))))))
 | _,_=>False
@[simp] theorem qEe(c:Int)(K:D->ab->Prop):qBc t el n bytes agg z (some (k,l)) (some (k',c)) H K=(0<=l/\l<=c/\bytes*c<=140737488355328/\c<=140737488355328/\∀x,K (.own t x) (ai H t (some (.row x el n (List.replicate l.toNat (if agg then .agg (z.map yy)else yy (z.headD (.bool false)))))))):=i' rfl
def Gj(sz id b off:Nat)(y:D)(r:Option Res)(H:ab)(K:D->ab->Prop):Prop:=match r with
 |some (.box b' cells)=>b'=b/\off+sz<=cells.length/\K .undef (ai H id (some (.box b' (setAt cells off y.cells))))
 | _=>False
def Gi(sz id:Nat)(x:Value)(n i off:Nat)(y:D)(r:Option Res)(H:ab)(K:D->ab->Prop):Prop:=match r with
 | some (.row x' el n' es)=>x'=x/\n'=n/\0<n/\off+sz<=n/\i<es.length/\∀d,es[i]? =some d->
    K .undef (ai H id (some (.row x' el n' (es.set i (if off=0/\sz=n then y else .agg (setAt d.cells off y.cells))))))
 | _=>False
def On(sz:Nat)(d y:D)(H:ab)(K:D->ab->Prop):Prop:=match d with
 | .bptr id b off=>Gj sz id b off y (H id) H K
 | .eptr id x n i off=>Gi sz id x n i off y (H id) H K
 | _=>False
@[simp] theorem quf(y:D)(K:D->ab->Prop):On sz (.bptr i b off) y H K=Gj sz i b off y (H i) H K:=i' rfl
@[simp] theorem que(k:Nat)(y:D)(K:D->ab->Prop):On sz (.eptr i x n k off) y H K=Gi sz i x n k off y (H i) H K:=i' rfl
@[simp] theorem quh(y:D)(K:D->ab->Prop):Gj sz i b off y (some (.box b' cells)) H K=(b'=b/\off+sz<=cells.length/\K .undef (ai H i (some (.box b' (setAt cells off y.cells))))):=i' rfl
@[simp] theorem qug(k:Nat)(y:D)(K:D->ab->Prop):Gi sz i x n k off y (some (.row x' el n' es)) H K=(x'=x/\n'=n/\0<n/\off+sz<=n/\k<es.length/\∀d,es[k]? =some d->
 K .undef (ai H i (some (.row x' el n' (es.set k (if off=0/\sz=n then y else .agg (setAt d.cells off y.cells))))))):=i' rfl
def qlK(el n bytes id:Nat)(x:Value)(es2:List D)(r:Option Res)(H:ab)(K:D->ab->Prop):Prop:=match r with
 |some (.row x' el' n' es)=>x'=x/\el'=el/\n'=n/\(es.length+es2.length) *bytes<=140737488355328/\es.length+es2.length<=140737488355328/\∀v,K (.own id v) (ai H id (some (.row v el n (es++es2))))
 | _=>False
def qDf(el n bytes id:Nat)(x:Value)(n' lo hi:Nat)(es2:List D)(r:Option Res)(H:ab)(K:D->ab->Prop):Prop:=match r with
 |some (.row x' el' n'' es)=>x'=x/\el'=el/\n'=n/\n''=n/\lo=0/\(hi+es2.length) *bytes<=140737488355328/\hi+es2.length<=140737488355328/\∀v,K (.own id v) (ai H id (some (.row v el n (es.take hi++es2))))
 | _=>False
def qCz(n id:Nat)(x:Value)(z:D)(r:Option Res)(H:ab)(K:D->ab->Prop):Prop:=match r with
 |some (.row x' el n' es)=>x'=x/\n'=n/\K (.tup []) (ai H id (some (.row x' el n' (List.replicate es.length z))))
 | _=>False
def qll(n id:Nat)(x:Value)(n' lo hi:Nat)(z:D)(r:Option Res)(H:ab)(K:D->ab->Prop):Prop:=match r with
 |some (.row x' el n'' es)=>x'=x/\n'=n/\n''=n/\K (.tup []) (ai H id (some (.row x' el n'' (es.take lo++List.replicate (hi -lo) z++es.drop hi))))
 | _=>False
def qoM(n:Nat)(z d:D)(H:ab)(K:D->ab->Prop):Prop:=match d with
 | .own id x=>qCz n id x z (H id) H K
 | .sub id x n' lo hi=>qll n id x n' lo hi z (H id) H K
 | .v (.slice none 0 0)=>K (.tup []) H
 | _=>False
@[simp] theorem qCx(z:D)(K:D->ab->Prop):qoM n z (.sub i x n' lo hi) H K=qll n i x n' lo hi z (H i) H K:=i' rfl
@[simp] theorem qCy(z:D)(K:D->ab->Prop):qll n i x n' lo hi z (some (.row x' el n'' es)) H K=(x'=x/\n'=n/\n''=n/\K (.tup []) (ai H i (some (.row x' el n'' (es.take lo++List.replicate (hi -lo) z++es.drop hi))))):=i' rfl
def qCv(n id:Nat)(x:Value)(src:List D)(r:Option Res)(H:ab)(K:D->ab->Prop):Prop:=match r with
 |some (.row x' el n' es)=>x'=x/\n'=n/\K (.v (.int .i64 (min src.length es.length:Nat))) (ai H id (some (.row x' el n' (src.take es.length++es.drop src.length))))
 | _=>False
def qk7(n id:Nat)(x:Value)(n' lo hi:Nat)(src:List D)(r:Option Res)(H:ab)(K:D->ab->Prop):Prop:=match r with
 |some (.row x' el n'' es)=>x'=x/\n'=n/\n''=n/\K (.v (.int .i64 (min src.length (hi -lo):Nat))) (ai H id (some (.row x' el n'' (es.take lo++src.take (hi -lo) ++es.drop (lo+min src.length (hi -lo))))))
 | _=>False
def qoI(n:Nat)(d:D)(src:List D)(H:ab)(K:D->ab->Prop):Prop:=match d with
 | .own id x=>qCv n id x src (H id) H K
 | .sub id x n' lo hi=>qk7 n id x n' lo hi src (H id) H K
 | _=>False
@[simp] theorem qCt(K:D->ab->Prop):qoI n (.sub i x n' lo hi) src H K=qk7 n i x n' lo hi src (H i) H K:=i' rfl
@[simp] theorem qCu(K:D->ab->Prop):qk7 n i x n' lo hi src (some (.row x' el n'' es)) H K=(x'=x/\n'=n/\n''=n/\K (.v (.int .i64 (min src.length (hi -lo):Nat))) (ai H i (some (.row x' el n'' (es.take lo++src.take (hi -lo) ++es.drop (lo+min src.length (hi -lo))))))):=i' rfl
@[simp] theorem qDw:TT true z= .agg (z.map yy):=i' rfl
@[simp] theorem qDx:TT false z=yy (z.headD (.bool false)):=i' rfl
def qkq(t:Nat)(x:Value)(id:Nat)(σ:Sg)(r:Option Res)(H:ab)(K:Sg->ab->Prop):Prop:=match r with
 |some (.row x' _ n' es)=>x'=x/\K (qgL id x (.list n' es) σ) (ai H id none)
 | _=>False
def qB1(t b off:Nat)(id:Nat)(σ:Sg)(r:Option Res)(H:ab)(K:Sg->ab->Prop):Prop:=match r with
 |some (.box b' cs)=>b'=b/\K (upd σ t (.cptr cs off)) (ai H id none)
 | _=>False
def qkp(t n:Nat)(x:Value)(id n' lo hi:Nat)(σ:Sg)(r:Option Res)(H:ab)(K:Sg->ab->Prop):Prop:=match r with
 |some (.row x' el n'' es)=>x'=x/\n'=n''/\(if n=0 then lo=0/\∀v,K (upd σ t (.own id v)) (ai H id (some (.row v el n'' (es.take hi))))else K (upd σ t (.list n'' ((es.take hi).drop lo))) (ai H id none))
 | _=>False
def qko(t n:Nat)(d:D)(σ:Sg)(H:ab)(K:Sg->ab->Prop):Prop:=match d with
 | .own id x=>qkq t x id σ (H id) H K
 | .bptr id b off=>qB1 t b off id σ (H id) H K
 | .v (.slice none 0 0)=>K (upd σ t (.list n [])) H
 | .sub id x n' lo hi=>qkp t n x id n' lo hi σ (H id) H K
 | .agg cs=>K4 cs H λcs' H'=>K (upd σ t (.agg cs')) H'
 | _=>K σ H
@[simp ↓] theorem qFr(K:Sg->ab->Prop):Mb t n σ H K=qko t n (σ t) σ H K:=i' rfl
@[simp] theorem qBR(K:Sg->ab->Prop):qko t n (.own i x) σ H K=qkq t x i σ (H i) H K:=i' rfl
@[simp] theorem qBQ(K:Sg->ab->Prop):qko t n (.sub i x n' lo hi) σ H K=qkp t n x i n' lo hi σ (H i) H K:=i' rfl
@[simp] theorem qBT(K:Sg->ab->Prop):qkq t x i σ (some (.row x' el n' es)) H K=(x'=x/\K (qgL i x (.list n' es) σ) (ai H i none)):=i' rfl
@[simp] theorem qBV(y:Value):M5 id x L (.own i y)=open Classical in (if i=id/\y=x then L else .own i y):=i' rfl
@[simp] theorem qB0:M5 id x L (.any)= .any:=i' rfl
@[simp] theorem qBX:M5 id x L (.agg cs)= .agg cs:=i' rfl
@[simp] theorem qBW:M5 id x L (.list n es)= .list n es:=i' rfl
@[simp] theorem qBY:M5 id x L (.cptr cs o)= .cptr cs o:=i' rfl
@[simp] theorem qBZ:M5 id x L (.bptr i b o)= .bptr i b o:=i' rfl
@[simp] theorem qBU(T:List Int):M5 id x L (.tape T)= .tape T:=i' rfl
@[simp] theorem qBS(K:Sg->ab->Prop):qkp t n x i n' lo hi σ (some (.row x' el n'' es)) H K=(x'=x/\n'=n''/\(if n=0 then lo=0/\∀v,K (upd σ t (.own i v)) (ai H i (some (.row v el n'' (es.take hi))))else K (upd σ t (.list n'' ((es.take hi).drop lo))) (ai H i none))):=i' rfl
def qni(d:D)(K:D->Prop):Prop:=match d with
 | .v (.string s)=>K (.list 1 (s.data.toList.map λc=> .v (.int .u8 c.toNat)))
 | _=>False
@[simp] theorem qAr:qni (.v (.string s)) K=K (.list 1 (s.data.toList.map λc=> .v (.int .u8 c.toNat))):=i' rfl
def qhY(t:Nat)(d:D)(H:ab)(K:D->ab->Prop):Prop:=match d with
 | .v (.string s)=>∀b,K (.bptr t b 0) (ai H t (some (.iter b s 0)))
 | _=>False
@[simp] theorem qAi(K:D->ab->Prop):qhY t (.v (.string s)) H K=∀b,K (.bptr t b 0) (ai H t (some (.iter b s 0))):=i' rfl
def qh1(id b:Nat)(r:Option Res)(H:ab)(K:D->ab->Prop):Prop:=match r with
 |some (.iter b' s pos)=>b'=b/\(pos<s.size->K (.tup [.v (.bool true), .v (.int .i64 pos), .v (.int .i32 (Utf8.decode s pos).1)]) (ai H id (some (.iter b' s (pos+ (Utf8.decode s pos).2)))))/\(¬pos<s.size->K (.tup [.v (.bool false)]) H)
 | _=>False
@[simp] theorem qAn(pos:Nat)(K:D->ab->Prop):qh1 id b (some (.iter b' s pos)) H K=(b'=b/\(pos<s.size->K (.tup [.v (.bool true), .v (.int .i64 pos), .v (.int .i32 (Utf8.decode s pos).1)]) (ai H id (some (.iter b' s (pos+ (Utf8.decode s pos).2)))))/\(¬pos<s.size->K (.tup [.v (.bool false)]) H)):=i' rfl
def qne(d:D)(H:ab)(K:D->ab->Prop):Prop:=match d with
 | .bptr id b off=>off=0/\qh1 id b (H id) H K
 | _=>False
@[simp] theorem qAm(K:D->ab->Prop):qne (.bptr i b off) H K=(off=0/\qh1 i b (H i) H K):=i' rfl
def qo5(dst:Option Nat)(el n b:Nat)(d:D)(es2:List D)(H:ab)(K:D->ab->Prop):Prop:=match dst,d with
 |some t, .v (.slice none 0 0)=>es2.length*b<=140737488355328/\es2.length<=140737488355328/\∀v,K (.own t v) (ai H t (some (.row v el n es2)))
 | _,_=>False
@[simp] theorem qDi(K:D->ab->Prop):qo5 (some t) el n b (.v (.slice none 0 0)) es2 H K=(es2.length*b<=140737488355328/\es2.length<=140737488355328/\∀v,K (.own t v) (ai H t (some (.row v el n es2)))):=i' rfl
def qlH(el n b r:Nat)(x:Value)(es2:List D)(q:Option Res)(H:ab)(K:D->ab->Prop):Prop:=match q with
 |some (.row x' el' n' es)=>x'=x/\el'=el/\n'=n/\(es.length+es2.length) *b<=140737488355328/\es.length+es2.length<=140737488355328/\∀v,K (.own r v) (ai H r (some (.row v el n (es++es2))))
 | _=>False
@[simp] theorem qDc(r:Nat)(K:D->ab->Prop):qlH el n b r x es2 (some (.row x' el' n' es)) H K=(x'=x/\el'=el/\n'=n/\(es.length+es2.length) *b<=140737488355328/\es.length+es2.length<=140737488355328/\∀v,K (.own r v) (ai H r (some (.row v el n (es++es2))))):=i' rfl
def qo4(r el n b:Nat)(d:D)(es2:List D)(H:ab)(K:D->ab->Prop):Prop:=match d with
 | .own id x=>id=r/\qlH el n b r x es2 (H r) H K
 | _=>False
@[simp] theorem qDb(r:Nat)(K:D->ab->Prop):qo4 r el n b (.own i x) es2 H K=(i=r/\qlH el n b r x es2 (H r) H K):=i' rfl
def X9(r sz:Nat)(d y:D)(H:ab)(K:D->ab->Prop):Prop:=match d with
 | .bptr id b off=>id=r/\Gj sz r b off y (H r) H K
 | .eptr id x n i off=>id=r/\Gi sz r x n i off y (H r) H K
 | _=>False
@[simp] theorem qw1(r:Nat)(y:D)(K:D->ab->Prop):X9 r sz (.bptr i b off) y H K=(i=r/\Gj sz r b off y (H r) H K):=i' rfl
@[simp] theorem qw0(r:Nat)(k:Nat)(y:D)(K:D->ab->Prop):X9 r sz (.eptr i x n k off) y H K=(i=r/\Gi sz r x n k off y (H r) H K):=i' rfl
def qDh(dst:Option Nat)(el n bytes:Nat)(es2:List D)(H:ab)(K:D->ab->Prop):Prop:=match dst with
 |some t=>es2.length*bytes<=140737488355328/\es2.length<=140737488355328/\∀v,K (.own t v) (ai H t (some (.row v el n es2)))
 |none=>False
def qlI(dst:Option Nat)(el n bytes:Nat)(d:D)(es2:List D)(H:ab)(K:D->ab->Prop):Prop:=match d with
 | .own id x=>qlK el n bytes id x es2 (H id) H K
 | .v (.slice none 0 0)=>qDh dst el n bytes es2 H K
 | .sub id x n' lo hi=>qDf el n bytes id x n' lo hi es2 (H id) H K
 | _=>False
@[simp] theorem qDd(K:D->ab->Prop):qlI dst el n bytes (.own i x) es2 H K=qlK el n bytes i x es2 (H i) H K:=i' rfl
@[simp] theorem qDe(K:D->ab->Prop):qlI (some t) el n bytes (.v (.slice none 0 0)) es2 H K=(es2.length*bytes<=140737488355328/\es2.length<=140737488355328/\∀v,K (.own t v) (ai H t (some (.row v el n es2)))):=i' rfl
@[simp] theorem qDg(K:D->ab->Prop):qlK el n bytes i x es2 (some (.row x' el' n' es)) H K=(x'=x/\el'=el/\n'=n/\(es.length+es2.length) *bytes<=140737488355328/\es.length+es2.length<=140737488355328/\∀v,K (.own i v) (ai H i (some (.row v el n (es++es2))))):=i' rfl
def EG(S:Nat->Spc)(f:D)(d:Nat)(args:List D)(H:ab)(K:D->ab->Prop):Prop:=match f with
 | .clo g caps=>(S g).pt d (args++caps) H K
 | _=>False
@[simp] theorem qzj(d:Nat)(K:D->ab->Prop):EG S (.clo g caps) d args H K=(S g).pt d (args++caps) H K:=i' rfl
@[congr] theorem quD{r:Nat}{s:Spc}{K:D->ab->Prop}(hs:s=s₁)(q:args=args₁):O1 r dst s args H K=O1 r dst s₁ args₁ H K:=by subst hs;subst q;rfl
@[congr] theorem qxy{s:Spc}{K:D->ab->Prop}(hs:s=s₁)(q:args=args₁):qfU dst s args H K=qfU dst s₁ args₁ H K:=by subst hs;subst q;rfl
section
variable {S:Nat->Spc}{σ:Sg}{H Hr:ab}{K:D->ab->Prop}
@[simp ↓] theorem qCI(dst:Option Nat)(x:Operand):aA S (.mv x) dst σ H K=((λd=>K d H) (ev σ x)):=i' rfl
@[simp ↓] theorem qE6(x:Operand):ax S (.mv x) dst σ Hr H K=((λd=>K d H) (ev σ x)):=i' rfl
@[simp ↓] theorem qCH(x:Operand):aA S (.pick c x y) dst σ H K=(LV (ev σ c) ((λd=>K d H) (ev σ x)) ((λd=>K d H) (ev σ y))):=i' rfl
@[simp ↓] theorem qAG(x:Operand):ax S (.pick c x y) dst σ Hr H K=(LV (ev σ c) ((λd=>K d H) (ev σ x)) ((λd=>K d H) (ev σ y))):=i' rfl
@[simp ↓] theorem qzv(ps:List (Nat×Nat×Operand)):aA S (.build z ps) dst σ H K=(mJ σ ps (z.map yy) λcs=>(λd=>K d H) (.agg cs)):=i' rfl
@[simp ↓] theorem qxt(ps:List (Nat×Nat×Operand)):ax S (.build z ps) dst σ Hr H K=(mJ σ ps (z.map yy) λcs=>(λd=>K d H) (.agg cs)):=i' rfl
@[simp ↓] theorem qv6:aA S (.bslice el n ps) dst σ H K=(nY n (ps.map (ev σ))/\(λd=>K d H) (.list n (ps.map (ev σ)))):=i' rfl
@[simp ↓] theorem quB:ax S (.bslice el n ps) dst σ Hr H K=(nY n (ps.map (ev σ))/\(λd=>K d H) (.list n (ps.map (ev σ)))):=i' rfl
@[simp ↓] theorem qCN(x:Operand):aA S (.load agg sz x) dst σ H K=(L3 agg sz (ev σ x) H (λd=>K d H)):=i' rfl
@[simp ↓] theorem qAH(x:Operand):ax S (.load agg sz x) dst σ Hr H K=(L3 agg sz (ev σ x) Hr (λd=>K d H)):=i' rfl
@[simp ↓] theorem qzn(x:Operand):aA S (.nilck x) dst σ H K=(qgd (ev σ x) (λd=>K d H)):=i' rfl
@[simp ↓] theorem qxo(x:Operand):ax S (.nilck x) dst σ Hr H K=(qgd (ev σ x) (λd=>K d H)):=i' rfl
@[simp ↓] theorem qoQ(dst:Option Nat)(op:BinOp)(x y:Operand):aA S (.arith op x y) dst σ H K=(QD op (ev σ x) (ev σ y) (λd=>K d H)):=i' rfl
@[simp ↓] theorem qxu(x:Operand):ax S (.arith op x y) dst σ Hr H K=(QD op (ev σ x) (ev σ y) (λd=>K d H)):=i' rfl
@[simp ↓] theorem qv5(dst:Option Nat)(op:BinOp)(x y:Operand):aA S (.cmp op x y) dst σ H K=(qgV op (ev σ x) (ev σ y) (λd=>K d H)):=i' rfl
@[simp ↓] theorem qD0(x:Operand):ax S (.cmp op x y) dst σ Hr H K=(qgV op (ev σ x) (ev σ y) (λd=>K d H)):=i' rfl
@[simp ↓] theorem qEK(x:Operand):aA S (.eql neg agg ks x y) dst σ H K=(qgN neg (qrW agg ks (ev σ x) (ev σ y)) (λd=>K d H)):=i' rfl
@[simp ↓] theorem qDZ(x:Operand):ax S (.eql neg agg ks x y) dst σ Hr H K=(qgN neg (qrW agg ks (ev σ x) (ev σ y)) (λd=>K d H)):=i' rfl
@[simp ↓] theorem qCF(x:Operand):aA S (.scat x y) dst σ H K=(qdj (ev σ x) (ev σ y) (λd=>K d H)):=i' rfl
@[simp ↓] theorem qEE(x:Operand):aA S (.not x) dst σ H K=(qju (ev σ x) (λd=>K d H)):=i' rfl
@[simp ↓] theorem qDU(x:Operand):ax S (.not x) dst σ Hr H K=(qju (ev σ x) (λd=>K d H)):=i' rfl
@[simp ↓] theorem qCP(x:Operand):aA S (.conv k x) dst σ H K=(qeB k (ev σ x) (λd=>K d H)):=i' rfl
@[simp ↓] theorem qEL:aA S (.clo f xs) dst σ H K=((λd=>K d H) (.clo f (xs.map (ev σ)))):=i' rfl
@[simp ↓] theorem qzm(x:Operand)(lo hi:Option Operand):aA S (.slice n x lo hi) dst σ H K=(Ot n (ev σ x) (lo.map λo=>yF (ev σ o)) (hi.map λo=>yF (ev σ o)) H (λd=>K d H)):=i' rfl
@[simp ↓] theorem qxn(x:Operand)(lo hi:Option Operand):ax S (.slice n x lo hi) dst σ Hr H K=(Ot n (ev σ x) (lo.map λo=>yF (ev σ o)) (hi.map λo=>yF (ev σ o)) Hr (λd=>K d H)):=i' rfl
@[simp ↓] theorem qv0(x:Operand)(lo hi:Option Operand):aA S (.sslice x lo hi) dst σ H K=(Nm (ev σ x) (lo.map λo=>yF (ev σ o)) (hi.map λo=>yF (ev σ o)) (λd=>K d H)):=i' rfl
@[simp ↓] theorem quz(x:Operand)(lo hi:Option Operand):ax S (.sslice x lo hi) dst σ Hr H K=(Nm (ev σ x) (lo.map λo=>yF (ev σ o)) (hi.map λo=>yF (ev σ o)) (λd=>K d H)):=i' rfl
@[simp ↓] theorem qzs(x:Operand):aA S (.faddr off x) dst σ H K=(Ha off (ev σ x) (λd=>K d H)):=i' rfl
@[simp ↓] theorem qxr(x:Operand):ax S (.faddr off x) dst σ Hr H K=(Ha off (ev σ x) (λd=>K d H)):=i' rfl
@[simp ↓] theorem qEI(x:Operand):aA S (.fld agg sz off x) dst σ H K=(qoq agg sz off (ev σ x) (λd=>K d H)):=i' rfl
@[simp ↓] theorem qzr(x i:Operand):aA S (.iaddr n x i) dst σ H K=(G8 n (ev σ i) (ev σ x) H (λd=>K d H)):=i' rfl
@[simp ↓] theorem qxq(x i:Operand):ax S (.iaddr n x i) dst σ Hr H K=(G8 n (ev σ i) (ev σ x) Hr (λd=>K d H)):=i' rfl
@[simp ↓] theorem qCE(x i:Operand):aA S (.sidx x i) dst σ H K=(qdi (ev σ i) (ev σ x) (λd=>K d H)):=i' rfl
@[simp ↓] theorem qEJ(x:Operand):aA S (.ext x i) dst σ H K=(qkE (ev σ x) i (λd=>K d H)):=i' rfl
@[simp ↓] theorem qDY(x:Operand):ax S (.ext x i) dst σ Hr H K=(qkE (ev σ x) i (λd=>K d H)):=i' rfl
@[simp ↓] theorem qEH(x:Operand):aA S (.len x) dst σ H K=(VL (ev σ x) H (λd=>K d H)):=i' rfl
@[simp ↓] theorem qDX(x:Operand):ax S (.len x) dst σ Hr H K=(VL (ev σ x) Hr (λd=>K d H)):=i' rfl
@[simp ↓] theorem qCD(x:Operand):aA S (.slen x) dst σ H K=(Yf (ev σ x) (λd=>K d H)):=i' rfl
@[simp ↓] theorem qAF(x:Operand):ax S (.slen x) dst σ Hr H K=(Yf (ev σ x) (λd=>K d H)):=i' rfl
@[simp ↓] theorem qCR(x:Operand):aA S (.bstr x) dst σ H K=(qoV (ev σ x) H (λd=>K d H)):=i' rfl
@[simp ↓] theorem qCG(x:Operand):aA S (.rstr x) dst σ H K=(qnm (ev σ x) (λd=>K d H)):=i' rfl
@[simp ↓] theorem qEG(x:Operand):aA S (.mm mx [x,y]) dst σ H K=qjA mx (ev σ x) (ev σ y) (λd=>K d H):=i' rfl
@[simp ↓] theorem qCS(x:Operand):aA S (.box el true x) dst σ H K=((ev σ x).kn=true/\K (.cptr (ev σ x).cells 0) H):=i' rfl
@[simp ↓] theorem qzw:aA S (.alloc el z) (some t) σ H K=∀b,K (.bptr t b 0) (ai H t (some (.box b (z.map yy)))):=i' rfl
@[simp ↓] theorem qEM(x:Operand):aA S (.box el false x) (some t) σ H K=((ev σ x).kn=true/\∀b,K (.bptr t b 0) (ai H t (some (.box b (ev σ x).cells)))):=i' rfl
@[simp ↓] theorem qv3:aA S (.mslice el n ps) (some t) σ H K=(nY n (ps.map (ev σ))/\∀x,K (.own t x) (ai H t (some (.row x el n (ps.map (ev σ)))))):=i' rfl
@[simp ↓] theorem qty(l:Operand):aA S (.mkslice el n bytes agg z l c) (some t) σ H K=qBc t el n bytes agg z (yF (ev σ l)) (yF (ev σ c)) H K:=i' rfl
@[simp ↓] theorem qDW(x:Operand):ax S (.mm mx [x,y]) dst σ Hr H K=qjA mx (ev σ x) (ev σ y) (λd=>K d H):=i' rfl
@[simp ↓] theorem qxv:ax S (.alloc el z) (some t) σ Hr H K=∀b,K (.bptr t b 0) (ai H t (some (.box b (z.map yy)))):=i' rfl
@[simp ↓] theorem quA:ax S (.nslice el n) (some t) σ Hr H K=∀x,K (.own t x) (ai H t (some (.row x el n []))):=i' rfl
@[simp ↓] theorem qs9(l:Operand):ax S (.mkslice el n bytes agg z l c) (some t) σ Hr H K=qBc t el n bytes agg z (yF (ev σ l)) (yF (ev σ c)) H K:=i' rfl
@[simp ↓] theorem qv2(x:Operand):aA S (.sbytes x) dst σ H K=qni (ev σ x) (λd=>K d H):=i' rfl
@[simp ↓] theorem qv1(x:Operand):aA S (.srange x) (some t) σ H K=qhY t (ev σ x) H K:=by
 simp only[aA,bK,qhY];split<;>simp_all
@[simp ↓] theorem qzl(x:Operand):aA S (.snext x) dst σ H K=qne (ev σ x) H K:=i' rfl
@[simp ↓] theorem qxm(r:Nat)(x:Operand):ax S (.store (some r) sz x y) dst σ Hr H K=((ev σ y).kn=true/\(ev σ y).cells.length=sz/\X9 r sz (ev σ x) (ev σ y) H K):=by
 simp only[ax];congr 2
@[simp ↓] theorem qzk(x:Operand):aA S (.store rt sz x y) dst σ H K=((ev σ y).kn=true/\(ev σ y).cells.length=sz/\On sz (ev σ x) (ev σ y) H K):=i' rfl
@[simp ↓] theorem qv7(x:Operand):aA S (.append rt el n bytes x y) dst σ H K=yM n (ev σ y) H λes2=>qlI dst el n bytes (ev σ x) es2 H K:=i' rfl
@[simp ↓] theorem qtb(x:Operand):ax S (.append none el n bytes x y) dst σ Hr H K=yM n (ev σ y) Hr λes2=>qo5 dst el n bytes (ev σ x) es2 H K:=by
 simp only[ax];congr 1
@[simp ↓] theorem qta(r:Nat)(x:Operand):ax S (.append (some r) el n bytes x y) dst σ Hr H K=yM n (ev σ y) Hr λes2=>qo4 r el n bytes (ev σ x) es2 H K:=by
 simp only[ax];congr 1
@[simp ↓] theorem qzt(x:Operand):aA S (.clear n agg z x) dst σ H K=qoM n (TT agg z) (ev σ x) H K:=i' rfl
@[simp ↓] theorem qCO(x:Operand):aA S (.copy n x y) dst σ H K=pQ n (ev σ y) H λsrc=>qoI n (ev σ x) src H K:=i' rfl
@[simp ↓] theorem qCQ(args:List Operand):aA S (.call f args) dst σ H K=(S f).pt (dst.getD 0) (args.map (ev σ)) H K:=i' rfl
@[simp ↓] theorem qxs(r:Nat)(args:List Operand):ax S (.callb r f args) dst σ Hr H K=O1 r dst (S f) (args.map (ev σ)) H K:=i' rfl
@[simp ↓] theorem qzu(f:Operand)(args:List Operand):aA S (.callv f args) dst σ H K=EG S (ev σ f) (dst.getD 0) (args.map (ev σ)) H K:=i' rfl
@[simp ↓] theorem qAI(args:List Operand):ax S (.call f args) dst σ Hr H K=qfU dst (S f) (args.map (ev σ)) H K:=i' rfl
end
def qt5(σ:Sg)(t s:Nat)(d:D):upd σ t d s=if s=t then d else σ s:=i' rfl
def qbj(σ:Sg)(t:Nat)(d:D):gx σ (some t) d=upd σ t d:=i' rfl
def qqE(σ:Sg)(d:D):gx σ none d=σ:=i' rfl
def qqF(H:ab)(t s:Nat)(d:Option Res):ai H t d s=if s=t then d else H s:=i' rfl
attribute [simp] qbj qqE qqF
@[simp] theorem qhA(σ:Sg)(t:Nat):ev σ (.tmp t)=σ t:=i' rfl
@[simp] theorem qm4(σ:Sg)(x:Value):ev σ (.const x)=yy x:=i' rfl
@[simp] theorem qAf:ev σ (.func f)= .clo f []:=i' rfl
@[simp] theorem qAg(b:Bool):yy (.bool b)= .v (.bool b):=i' rfl
@[simp] theorem qt2(k:IntKind)(n:Int):yy (.int k n)= .v (.int k n):=i' rfl
@[simp] theorem qDA:yy (.string s)= .v (.string s):=i' rfl
@[simp] theorem qDB(a:Option Addr):yy (.pointer a)= .v (.pointer a):=i' rfl
@[simp] theorem qwS(a:Option Addr)(l c:Nat):yy (.slice a l c)= .v (.slice a l c):=i' rfl
def qrI(t:Nat)(l:List Nat)(σ:Sg):jK (t::l) σ=upd (jK l σ) t (σ t):=i' rfl
@[simp] theorem qBx:jL [] H=λ_=>none:=i' rfl
@[simp] theorem qn1(t:Nat)(l:List Nat)(H:ab):jL (t::l) H=ai (jL l H) t (H t):=i' rfl
@[simp] theorem qAS:bS i=none:=i' rfl
@[simp] theorem qBn:pr [] σ=True:=i' rfl
@[simp] theorem qxW(l:List (Nat×D)):pr ((t,d)::l) σ=(WK (σ t) d/\pr l σ):=i' rfl
@[simp] theorem qBa:vt [] H=True:=i' rfl
@[simp] theorem qxL(d:Res)(l:List (Nat×Res)):vt ((t,d)::l) H=((H t=some d\/isNilRow d)/\vt l H):=i' rfl
@[simp] theorem sub_self(d:D):WK d d=True:=by
 cases d<;>simp[WK]
@[simp] theorem qDH(a:D):WK a (.v x)=(a= .v x):=i' rfl
@[simp] theorem qub(a:D)(x:List D):WK a (.list n x)=(a= .list n x\/(a= .v (.slice none 0 0)/\x=[])):=i' rfl
@[simp] theorem qwZ(a:D):WK a .any=True:=i' rfl
@[simp] theorem quc(a:D):WK a (.cptr cs o)=(a= .cptr cs o):=i' rfl
@[simp] theorem qwY(y:Value):WK (.own i x) (.own j y)=(x=y):=by simp[WK]
@[simp] theorem qua(y:Value):WK (.v x) (.own j y)=(x=y):=by simp[WK]
@[simp] theorem qFg:Tf true sz cs off= .agg ((cs.drop off).take sz):=i' rfl
@[simp] theorem qFh:Tf false sz cs off=(cs[off]?).getD .any:=i' rfl
@[simp ↓] theorem qxk(rs:List aj)(K:D->ab->Prop):vE rs K .norm σ H=Bm rs σ H λds=>K (lC ds) H:=i' rfl
@[simp ↓] theorem qAD(rs:List aj)(K:D->ab->Prop):vE rs K .ret σ H=Bm rs σ H λds=>K (lC ds) H:=i' rfl
@[simp ↓] theorem qAC(K:List D->Prop):Bm [] σ H K=K []:=i' rfl
@[simp ↓] theorem qAB(r:List aj)(K:List D->Prop):Bm (.tmp t::r) σ H K=Bm r σ H λds=>K (σ t::ds):=i' rfl
@[simp ↓] theorem qxj(r:List aj)(K:List D->Prop):Bm (.cell t agg sz::r) σ H K=L3 agg sz (σ t) H λd=>Bm r σ H λds=>K (d::ds):=i' rfl
@[simp] theorem qE9:lC [d]=d:=i' rfl
@[simp] theorem qFa:lC []= .tup []:=i' rfl
@[simp] theorem qE8(l:List D):lC (d::e::l)= .tup (d::e::l):=i' rfl
@[simp] theorem qFi:D.kn (.v x)=true:=i' rfl
@[simp] theorem qzh:D.cells (.v x)=[.v x]:=i' rfl
@[simp] theorem qBw:D.kn (.agg cs)=true:=i' rfl
@[simp] theorem qtx:D.cells (.agg cs)=cs:=i' rfl
@[simp] theorem qx7:D.kn (.list n es)=true:=i' rfl
@[simp] theorem qso:D.cells (.list n es)=[.list n es]:=i' rfl
@[simp] theorem qx8:D.kn (.cptr cs o)=true:=i' rfl
@[simp] theorem qsp:D.cells (.cptr cs o)=[.cptr cs o]:=i' rfl
@[simp] theorem qBu:D.kn (.own i x)=true:=i' rfl
@[simp] theorem qtv:D.cells (.own i x)=[.own i x]:=i' rfl
@[simp] theorem qBt(k:Nat):D.kn (.sub i v n k o)=true:=i' rfl
@[simp] theorem qtu(k:Nat):D.cells (.sub i v n k o)=[.sub i v n k o]:=i' rfl
@[simp] theorem qBv:D.kn (.clo f cs)=true:=i' rfl
@[simp] theorem qtw:D.cells (.clo f cs)=[.clo f cs]:=i' rfl
@[simp] theorem qEP(n:Int):yF (.v (.int k n))=some (k,n):=i' rfl
attribute [simp] setAt
@[simp] theorem qCh(n:Int):enc n= .v (.int .i64 n):=rfl
@[simp] theorem qyX(b:Bool):enc b= .v (.bool b):=rfl
@[simp] theorem qCg:enc s= .v (.string s):=rfl
@[simp] theorem qyW{X:Type}[Cod X](l:List X):enc l= .list (Cod.wd X) (l.map enc):=rfl
@[simp] theorem qz8:Cod.wd Int=1:=rfl
@[simp] theorem qwJ:Cod.wd Bool=1:=rfl
@[simp] theorem qz7:Cod.wd ByteArray=1:=rfl
@[simp] theorem qwI{X:Type}[Cod X]:Cod.wd (List X)=1:=rfl
@[congr] theorem qyk(q:d=d₁):RT d A B=RT d₁ A B:=by subst q;rfl
@[congr] theorem qto{s:Nat}{b:Bool}(q:d=d₁):qG s b σ d yes no=qG s b σ d₁ yes no:=by subst q;rfl
@[congr] theorem quF(q:d=d₁):LV d A B=LV d₁ A B:=by subst q;rfl
@[congr] theorem qu2(q:r=r₁):Zm agg sz b off r K=Zm agg sz b off r₁ K:=by subst q;rfl
@[congr] theorem qu1(q:r=r₁):Zl agg sz x n i off r K=Zl agg sz x n i off r₁ K:=by subst q;rfl
@[congr] theorem qu0(q:d=d₁):L3 agg sz d H K=L3 agg sz d₁ H K:=by subst q;rfl
@[congr] theorem qxE(q:d=d₁):qgd d K=qgd d₁ K:=by subst q;rfl
@[congr] theorem qtI(q:d=d₁)(he:e=e₁):QD op d e K=QD op d₁ e₁ K:=by subst q;subst he;rfl
@[congr] theorem qxf(q:d=d₁):qnm d K=qnm d₁ K:=by subst q;rfl
@[congr] theorem qzd{o:Option Bool}{q:Option Bool}(ho:o=q):qcH o K=qcH q K:=by subst ho;rfl
@[congr] theorem qzc(q:d=d₁)(he:e=e₁):qgV op d e K=qgV op d₁ e₁ K:=by subst q;subst he;rfl
@[congr] theorem qyN{o:Option Bool}{q:Option Bool}(ho:o=q):qgN neg o K=qgN neg q K:=by subst ho;rfl
@[congr] theorem qur(q:d=d₁)(he:e=e₁):qdj d e K=qdj d₁ e₁ K:=by subst q;subst he;rfl
@[congr] theorem qxD(q:d=d₁):qju d K=qju d₁ K:=by subst q;rfl
@[congr] theorem qvQ(q:d=d₁):qeB k d K=qeB k d₁ K:=by subst q;rfl
@[congr] theorem qtq(q:d=d₁):Ha off d K=Ha off d₁ K:=by subst q;rfl
@[congr] theorem qyw(q:d=d₁):qoq agg sz off d K=qoq agg sz off d₁ K:=by subst q;rfl
@[congr] theorem qtm{k:Int}(q:r=r₁):PS n k id x r K=PS n k id x r₁ K:=by subst q;rfl
@[congr] theorem qtl{i:D}(hi:i=i₁)(q:d=d₁):G8 n i d H K=G8 n i₁ d₁ H K:=by subst hi;subst q;rfl
@[congr] theorem quq{i:D}(hi:i=i₁)(q:d=d₁):qdi i d K=qdi i₁ d₁ K:=by subst hi;subst q;rfl
@[congr] theorem qyE{o:Option D}{q:Option D}(ho:o=q):qkF o K=qkF q K:=by subst ho;rfl
@[congr] theorem qyD(q:d=d₁):qkE d i K=qkE d₁ i K:=by subst q;rfl
@[congr] theorem qx6(q:r=r₁):qjT x r K=qjT x r₁ K:=by subst q;rfl
@[congr] theorem qx5(q:d=d₁):VL d H K=VL d₁ H K:=by subst q;rfl
@[congr] theorem qzB(q:r=r₁):qlq x r K=qlq x r₁ K:=by subst q;rfl
@[congr] theorem qzA(q:d=d₁):qoV d H K=qoV d₁ H K:=by subst q;rfl
@[congr] theorem qup(q:d=d₁):Yf d K=Yf d₁ K:=by subst q;rfl
@[congr] theorem qxM(q:d=d₁)(he:e=e₁):qjA mx d e K=qjA mx d₁ e₁ K:=by subst q;subst he;rfl
@[congr] theorem qw4{K:List D->Prop}(q:r=r₁):qfB n lo hi x r K=qfB n lo hi x r₁ K:=by subst q;rfl
@[congr] theorem qs5{y:D}{K:D->ab->Prop}(q:y=y₁)(u:r=r₁):Gj sz id b off y r H K=Gj sz id b off y₁ r₁ H K:=by subst q;subst u;rfl
@[congr] theorem qs4{y:D}{K:D->ab->Prop}(q:y=y₁)(u:r=r₁):Gi sz id x n i off y r H K=Gi sz id x n i off y₁ r₁ H K:=by subst q;subst u;rfl
@[congr] theorem qs3{y:D}{K:D->ab->Prop}(q:d=d₁)(u:y=y₁):On sz d y H K=On sz d₁ y₁ H K:=by subst q;subst u;rfl
@[congr] theorem qzL{K:D->ab->Prop}(q:es2=es2₁)(u:r=r₁):qlK el n bytes id x es2 r H K=qlK el n bytes id x es2₁ r₁ H K:=by subst q;subst u;rfl
@[congr] theorem qzf{z:D}{K:D->ab->Prop}(hz:z=z₁)(q:r=r₁):qll n id x n' lo hi z r H K=qll n id x n' lo hi z₁ r₁ H K:=by subst hz;subst q;rfl
@[congr] theorem qze{z:D}{K:D->ab->Prop}(hz:z=z₁)(q:d=d₁):qoM n z d H K=qoM n z₁ d₁ H K:=by subst hz;subst q;rfl
@[congr] theorem qza{K:D->ab->Prop}(q:src=src₁)(u:r=r₁):qk7 n id x n' lo hi src r H K=qk7 n id x n' lo hi src₁ r₁ H K:=by subst q;subst u;rfl
@[congr] theorem qy9{K:D->ab->Prop}(u:d=d₁)(q:src=src₁):qoI n d src H K=qoI n d₁ src₁ H K:=by subst u;subst q;rfl
@[congr] theorem qyt{K:Sg->ab->Prop}(q:r=r₁):qkq t x id σ r H K=qkq t x id σ r₁ H K:=by subst q;rfl
@[congr] theorem qys{K:Sg->ab->Prop}(q:r=r₁):qkp t n x id n' lo hi σ r H K=qkp t n x id n' lo hi σ r₁ H K:=by subst q;rfl
@[congr] theorem qyq{K:Sg->ab->Prop}(q:d=d₁):qko t n d σ H K=qko t n d₁ σ H K:=by subst q;rfl
@[congr] theorem qxd(q:d=d₁):qni d K=qni d₁ K:=by subst q;rfl
@[congr] theorem qw3{K:D->ab->Prop}(q:d=d₁):qhY t d H K=qhY t d₁ H K:=by subst q;rfl
@[congr] theorem qw8{K:D->ab->Prop}(q:r=r₁):qh1 id b r H K=qh1 id b r₁ H K:=by subst q;rfl
@[congr] theorem qw7{K:D->ab->Prop}(q:d=d₁):qne d H K=qne d₁ H K:=by subst q;rfl
@[congr] theorem qzM{K:D->ab->Prop}(q:dst=dst₁)(w:d=d₁)(u:es2=es2₁):qo5 dst el n b d es2 H K=qo5 dst₁ el n b d₁ es2₁ H K:=by subst q;subst w;subst u;rfl
@[congr] theorem qzJ{r:Nat}{q:Option Res}{K:D->ab->Prop}{u:Option Res}(w:es2=es2₁)(C:q=u):qlH el n b r x es2 q H K=qlH el n b r x es2₁ u H K:=by subst w;subst C;rfl
@[congr] theorem qzI{r:Nat}{K:D->ab->Prop}(u:d=d₁)(q:es2=es2₁):qo4 r el n b d es2 H K=qo4 r el n b d₁ es2₁ H K:=by subst u;subst q;rfl
@[congr] theorem qui{r:Nat}{y:D}{K:D->ab->Prop}(q:d=d₁)(u:y=y₁):X9 r sz d y H K=X9 r sz d₁ y₁ H K:=by subst q;subst u;rfl
@[congr] theorem qzK{K:D->ab->Prop}(q:dst=dst₁)(w:d=d₁)(u:es2=es2₁):qlI dst el n bytes d es2 H K=qlI dst₁ el n bytes d₁ es2₁ H K:=by subst q;subst w;subst u;rfl
@[congr] theorem qvZ{f:D}{d:Nat}{K:D->ab->Prop}(u:f=f₁)(q:args=args₁):EG S f d args H K=EG S f₁ d args₁ H K:=by subst u;subst q;rfl
@[congr] theorem quk{K:List D->Prop}(h:d=d'):pQ n d H K=pQ n d' H K:=by subst h;rfl
@[congr] theorem qw5{K:List D->Prop}(h:d=d'):yM n d H K=yM n d' H K:=by subst h;rfl
@[congr] theorem qtK{s u:Spc}{d:Nat}{q:List D}{K:D->ab->Prop}(h:s=u)(w:ds=q):s.pt d ds H K=u.pt d q H K:=by subst h;subst w;rfl
@[congr] theorem qvN{lo hi q u:Option (Option (IntKind×Int))}{K:Nat->Nat->Prop}(h1:lo=q)(h2:hi=u)(h3:n=n'):xq lo hi n K=xq q u n' K:=by subst h1;subst h2;subst h3;rfl
end
section
open Cod (enc dec)
variable {dq:Prop}
@[simp] theorem qvj(H:ab)(x y:Value):FrzTo H (.v x) (.v y)=(x=y):=by
 refine propext ⟨λh=>?_,λh=>h ▸ .same _⟩;cases h;rfl
@[simp] theorem qyp(H:ab)(d:D):FrzTo H d d=True:=propext ⟨λ_=>trivial,λ_=> .same d⟩
@[simp] theorem qBP(H:ab)(n:Nat)(es:List D):FrzTo H (.v (.slice none 0 0)) (.list n es)=(es=[]):=by
 refine propext ⟨λh=>?_,λh=>h ▸ .nil n⟩;cases h;rfl
def qoi{H:ab}{a b h b':D}(h1:FrzTo H a h)(h2:FrzTo H b b'):FrzTo H (.tup [a,b]) (.tup [h,b']):=
 .tup rfl λk c c' hc d=>by
  match k with
  | 0=>simp at hc d;subst hc;subst d;exact h1
  | 1=>simp at hc d;subst hc;subst d;exact h2
  |k+2=>simp at hc
def qoh{H:ab}{a b c j b' c':D}(h1:FrzTo H a j)(h2:FrzTo H b b')(h3:FrzTo H c c'):FrzTo H (.tup [a,b,c]) (.tup [j,b',c']):=
 .tup rfl λk d l hc h=>by
  match k with
  | 0=>simp at hc h;subst hc;subst h;exact h1
  | 1=>simp at hc h;subst hc;subst h;exact h2
  | 2=>simp at hc h;subst hc;subst h;exact h3
  |k+3=>simp at hc
section
variable {P:Program}{S:Nat->Spc}{f:Nat}{im:List Nat}{cc:CC}{rs:List aj}{N:Nat}
end
structure dP (X:Type) where
 dec:List D->Option X
 view:X->List D
 le:∀ds x,dec ds=some x->LeL ds (view x)
def aG{X Y:Type}(A:dP X)(pre:X->Prop)(er:Y->D)(post:X->Y->Prop):Spc:=qi8 A.dec pre λx r=>∃y,r=er y/\post x y
def eL{X:Type}(o:Option X)(k:X->Prop):Prop:=match o with|some x=>k x|none=>False
@[congr] theorem qxB{X:Type}{o a:Option X}{k:X->Prop}(h:o=a):eL o k=eL a k:=by grind
@[simp] theorem qAN{X:Type}(x:X)(k:X->Prop):eL (some x) k=k x:=i' rfl
@[simp] theorem qAO{X:Type}(k:X->Prop):eL none k=False:=i' rfl
@[simp] theorem mO{X Y:Type}(A:dP X)(pre:X->Prop)(er:Y->D)(post:X->Y->Prop)(d:Nat)(ds:List D)(H:ab)(K:D->ab->Prop):
 (aG A pre er post).pt d ds H K=eL (A.dec ds) λx=>pre x/\∀y,post x y->K (er y) H:=by
 refine propext ⟨λh=>?_,λh=>?_⟩
 ·obtain⟨⟨x,h1,h2⟩,h3⟩:=h;rw[h1];refine⟨h2,λy b=>h3 _ λj a _=>?_⟩;rw[h1]at a;cases a;exact⟨y,rfl,b⟩
 ·cases c:A.dec ds with
  |none=>rw[c]at h;exact h.elim
  | some x=>
    rw[c]at h;refine qhC x c h.1 ?_;rintro r ⟨y,rfl,b⟩;exact h.2 y b
@[simp] theorem qw6{X Y:Type}(A:dP X)(pre:X->Prop)(er:Y->D)(post:X->Y->Prop)(dst:Option Nat)(ds:List D)(H:ab)(K:D->ab->Prop):
 qfU dst (aG A pre er post) ds H K=eL (A.dec ds) λx=>pre x/\∀y,post x y->K (er y) H:=mO A pre er post 0 ds H K
def Fin{Y:Type}(er:Y->D)(q:Y->Prop)(r:D)(H':ab):Prop:=∃y,FrzTo H' r (er y)/\q y
def aL{Y:Type}{er:Y->D}{q:Y->Prop}{r:D}{H':ab}(y:Y)(h:FrzTo H' r (er y))(a:q y):Fin er q r H':=⟨y,h,a⟩
@[simp] theorem qyy(q:Int->Prop)(n:Int)(H':ab):Fin enc q (.v (.int .i64 n)) H'=q n:=by
 simp[Fin,qoz]
@[simp] theorem qvo(q:Bool->Prop)(n:Bool)(H':ab):Fin enc q (.v (.bool n)) H'=q n:=by
 refine propext ⟨λ⟨y,h1,h2⟩=>?_,λh=>⟨n, .same _,h⟩⟩;rw[qkI,qvj]at h1;cases h1;exact h2
@[simp] theorem qyx(q:ByteArray->Prop)(n:ByteArray)(H':ab):Fin enc q (.v (.string n)) H'=q n:=by
 refine propext ⟨λ⟨y,h1,h2⟩=>?_,λh=>⟨n, .same _,h⟩⟩;rw[qoy,qvj]at h1;cases h1;exact h2
def ak{X Y:Type}(cc:CC)(rs:List aj)(S:Nat->Spc)(A:dP X)(pre:X->Prop)(er:Y->D)(post:X->Y->Prop):Prop:=
 ∀x,pre x->vc S cc (vE rs λr H'=>Fin er (post x) r H') (dR (A.view x)) bS
theorem ck{P:Program}{S:Nat->Spc}{f:Nat}{im:List Nat}{cc:CC}{rs:List aj}{N:Nat}{X Y:Type}{A:dP X}{pre:X->Prop}{er:Y->D}{post:X->Y->Prop}
 (a:∀f,Tri dq P f (S f).pt) (h:zY P f im cc rs N) (b:∀x,(A.view x).length<=N) (c:ak cc rs S A pre er post):Tri dq P f (aG A pre er post).pt:=
 qhJ a h A.le b λx hp=>by
  refine AV cc _ _ (λe σ H h=>?_) (c x hp);cases e with
  |ex i=>exact h
  | _=>
    simp only[vE]at h ⊢;have key:∀(rs:List aj) (F G:List D->Prop),(∀ds,F ds->G ds)->Bm rs σ H F->Bm rs σ H G:=by
     intro rs
     induction rs with
     |nil=>simp_all
     | cons r rs j=>
       intro F G d h;cases r<;>grind [Bm,LQ]
    exact key rs _ _ (λds ⟨y,h1,h2⟩=>⟨_,h1,y,rfl,h2⟩) h
def ac{P:Program}{S:Nat->Spc}{f:Nat}{im:List Nat}{cc:CC}{rs:List aj}{N:Nat}{X Y:Type}{A:dP X}{pre:X->Prop}{er:Y->D}{post:X->Y->Prop}
 (a:∀f,Tri dq P f (S f).pt) (h:zY P f im cc rs N) (b:ak cc rs S A pre er post) (c:∀x,(A.view x).length<=N:=by exactλ_=>qFE rfl):Tri dq P f (aG A pre er post).pt:=ck a h c b
def fu {P : Program} {f : Nat} {fn : Func} {c : Code} (h : P.funcs[f]? = some fn) (hn : (fn.name == "runtime.NumGoroutine") = false) (hb : fn.body = some c) : dc P f := by
 intro args w
 have hn' : ¬ fn.name = "runtime.NumGoroutine" := by grind
 simp_all [callFunc]
def qvm{P:Program}{f:Nat}{im:List Nat}{cc:CC}{rs:List aj}{N:Nat}(zq:P.follows .mixedOrders=true)
 (h : ((P.funcs[f]?).bind fun g => if g.name == "runtime.NumGoroutine" then none else g.body.bind fun c => (aI P im g.ntmps c).bind fun cc => (g.results.toList.mapM (hZ P)).bind fun rs => some (g.ntmps, cc, rs)) = some (N, bP cc, rs)) : zY P f im cc rs N := by
 cases hf:P.funcs[f]? with
 |none=>grind
 | some fn=>
   rw[hf]at h;simp only[qFW]at h;split at h;grind
   ·rename_i hn;simp only[qFA,qFQ,qHT]at h;obtain⟨c,hb,q,hq,r,hr,rfl,rfl,rfl⟩:=h;exact⟨zq,fu hf (by grind) hb,fn,c,hf,hb,rfl,hq,hr⟩
def a0:dP Unit:=⟨qsh,λ_=>[],qFf⟩
def a1(X:Type)[Cod X]:dP X:=⟨qsg,λx=>[enc x],qFe⟩
def a2(X Y:Type)[Cod X][Cod Y]:dP (X×Y):=⟨qsf,λx=>[enc x.1,enc x.2],qFd⟩
def a3(X Y Z:Type)[Cod X][Cod Y][Cod Z]:dP (X×Y×Z):=⟨qse,λx=>[enc x.1,enc x.2.1,enc x.2.2],qFc⟩
def a4(X Y Z W:Type)[Cod X][Cod Y][Cod Z][Cod W]:dP (X×Y×Z×W):=⟨qsd,λx=>[enc x.1,enc x.2.1,enc x.2.2.1,enc x.2.2.2],qFb⟩
def aT{X:Type}(A:dP X):dP (List Int×X):=⟨λds=>match ds with| .tape L::r=>(A.dec r).map λx=>(L,x)|_=>none,λx=> .tape x.1::A.view x.2,λds x h=>by
 split at h
 ·simp only[qFM]at h;obtain⟨y,a,rfl⟩:=h;exact .cons (.same _) (A.le _ _ a)
 grind⟩
@[simp] theorem qDq:a0.dec []=some ():=i' rfl
@[simp] theorem qsC{X:Type}[Cod X](a:D):(a1 X).dec [a]=dec a:=i' rfl
@[simp] theorem qcR{X Y:Type}[Cod X][Cod Y](a b:D):(a2 X Y).dec [a,b]=(dec a).bind λx=>(dec b).bind λy=>some (x,y):=i' rfl
@[simp] theorem qDp{X Y Z:Type}[Cod X][Cod Y][Cod Z](a b c:D):(a3 X Y Z).dec [a,b,c]=(dec a).bind λx=>(dec b).bind λy=>(dec c).bind λz=>some (x,y,z):=i' rfl
@[simp] theorem qDo{X Y Z W:Type}[Cod X][Cod Y][Cod Z][Cod W](a b c d:D):(a4 X Y Z W).dec [a,b,c,d]=(dec a).bind λx=>(dec b).bind λy=>(dec c).bind λz=>(dec d).bind λw=>some (x,y,z,w):=i' rfl
@[simp] theorem qDm{X:Type}(A:dP X)(L:List Int)(r:List D):(aT A).dec (.tape L::r)=(A.dec r).map λx=>(L,x):=i' rfl
@[simp] theorem qzW(x:Unit):a0.view x=[]:=i' rfl
@[simp] theorem qzV{X:Type}[Cod X](x:X):(a1 X).view x=[enc x]:=i' rfl
@[simp] theorem qzU{X Y:Type}[Cod X][Cod Y](x:X)(y:Y):(a2 X Y).view (x,y)=[enc x,enc y]:=i' rfl
@[simp] theorem qzT{X Y Z:Type}[Cod X][Cod Y][Cod Z](x:X)(y:Y)(z:Z):(a3 X Y Z).view (x,y,z)=[enc x,enc y,enc z]:=i' rfl
@[simp] theorem qzS{X Y Z W:Type}[Cod X][Cod Y][Cod Z][Cod W](x:X)(y:Y)(z:Z)(w:W):(a4 X Y Z W).view (x,y,z,w)=[enc x,enc y,enc z,enc w]:=i' rfl
@[simp] theorem qzN{X:Type}(A:dP X)(L:List Int)(x:X):(aT A).view (L,x)= .tape L::A.view x:=i' rfl
attribute [simp] Cod.dec_enc
@[simp] theorem qCq(n:Int):dec (X:=Int) (.v (.int .i64 n))=some n:=i' rfl
@[simp] theorem qy7(n:Bool):dec (X:=Bool) (.v (.bool n))=some n:=i' rfl
@[simp] theorem qCo(n:ByteArray):dec (X:=ByteArray) (.v (.string n))=some n:=i' rfl
@[simp] theorem qCp{X:Type}[Cod X]:dec (X:=List X) (.v (.slice none 0 0))=some []:=i' rfl
@[simp] theorem qy6{X:Type}[Cod X](n:Nat)(es:List D):dec (X:=List X) (.list n es)=if n=Cod.wd X then es.mapM (dec (X:=X))else none:=i' rfl
attribute [simp] Jc
@[simp] theorem qtg{X:Type}[Cod X](l:List X):l.mapM (dec (X:=X) ∘enc)=some l:=by
 have:=Jc l;rwa [List.mapM_map]at this
def kZ{Y Z:Type}[Cod Y][Cod Z](p:Y×Z):D:= .tup [enc p.1,enc p.2]
def qov{Y Z W:Type}[Cod Y][Cod Z][Cod W](p:Y×Z×W):D:= .tup [enc p.1,enc p.2.1,enc p.2.2]
def Wg(_:Unit):D:= .tup []
@[simp] theorem qvA{Y Z:Type}[Cod Y][Cod Z](y:Y)(z:Z):kZ (y,z)= .tup [enc y,enc z]:=i' rfl
@[simp] theorem qEt{Y Z W:Type}[Cod Y][Cod Z][Cod W](y:Y)(z:Z)(w:W):qov (y,z,w)= .tup [enc y,enc z,enc w]:=i' rfl
@[simp] theorem qyA{Y Z:Type}[Cod Y][Cod Z](q:Y×Z->Prop)(a b:D)(H':ab):Fin kZ q (.tup [a,b]) H'=∃y z,FrzTo H' a (enc y)/\FrzTo H' b (enc z)/\q (y,z):=by
 refine propext ⟨λ⟨⟨y,z⟩,h1,h2⟩=>?_,λ⟨y,z,h1,h2,h3⟩=>⟨(y,z),qoi h1 h2,h3⟩⟩;cases h1 with
 |same=>exact⟨y,z, .same _, .same _,h2⟩
 |tup hl h=>exact⟨y,z,h 0 _ _ rfl rfl,h 1 _ _ rfl rfl,h2⟩
@[simp] theorem qyz{Y Z W:Type}[Cod Y][Cod Z][Cod W](q:Y×Z×W->Prop)(a b c:D)(H':ab):Fin qov q (.tup [a,b,c]) H'=∃y z w,FrzTo H' a (enc y)/\FrzTo H' b (enc z)/\FrzTo H' c (enc w)/\q (y,z,w):=by
 refine propext ⟨λ⟨⟨y,z,w⟩,h1,h2⟩=>?_,λ⟨y,z,w,h1,h2,h3,h4⟩=>⟨(y,z,w),qoh h1 h2 h3,h4⟩⟩;cases h1 with
 |same=>exact⟨y,z,w, .same _, .same _, .same _,h2⟩
 |tup hl h=>exact⟨y,z,w,h 0 _ _ rfl rfl,h 1 _ _ rfl rfl,h 2 _ _ rfl rfl,h2⟩
@[simp] theorem qEu(u:Unit):Wg u= .tup []:=i' rfl
def um:List (Nat×D)->Sg->Sg
 | [],σ=>σ
 |(t,d)::l,σ=>upd (um l σ) t d
def gS:List (Nat×Res)->ab->ab
 | [],H=>H
 |(i,r)::l,H=>ai (gS l H) i (some r)
def qcQ(σ:Sg):um [] σ=σ:=i' rfl
@[simp] theorem qsB(H:ab):gS [] H=H:=i' rfl
@[simp] theorem qDk(i:Nat)(r:Res)(l:List (Nat×Res))(H:ab):gS ((i,r)::l) H=ai (gS l H) i (some r):=i' rfl
def yH(ks:List Nat)(σ a:Sg):Prop:=∀t∈ks,a t=σ t
def CM(hk:List Nat)(H H':ab):Prop:=∀i∈hk,H' i=H i
@[simp] theorem qBy(σ a:Sg):yH [] σ a=True:=by simp[yH]
@[simp] theorem qBz(t:Nat)(ks:List Nat)(σ a:Sg):yH (t::ks) σ a=(a t=σ t/\yH ks σ a):=by simp[yH]
@[simp] theorem qya(σ a:ab):CM [] σ a=True:=by simp[CM]
@[simp] theorem qyb(t:Nat)(ks:List Nat)(σ a:ab):CM (t::ks) σ a=(a t=σ t/\CM ks σ a):=by simp[CM]
def PP(ks:List Nat)(σ:Sg)(t:Nat):jK ks σ t=if t∈ks then σ t else .any:=by
 induction ks with
 |nil=>rfl
 | cons s ks a=>
   rw[qrI];grind [upd]
def PQ(ks:List Nat)(σ:ab)(t:Nat):jL ks σ t=if t∈ks then σ t else none:=by
 induction ks with
 |nil=>simp
 | cons s ks a=>
   rw[qn1];grind [ai]
def qpg{σ b:Sg}{H H':ab}(h1:∀t,WK (σ t) (b t))(h2:∀i r,H' i=some r->H i=some r\/isNilRow r):Wk σ H b H':=by
 intro E a w c;obtain⟨d,h,tp,j,k⟩:=c;have hm:=j.sub h2;exact⟨d,h,tp,hm.1,λt=>qpV (h1 t) (hm.2 _ _ (k t))⟩
def X5(d:D):WK d d:=by simp
def Hv{a σ:Sg}{c H:ab}{ks hk:List Nat}{b:List (Nat×D)}{hp:List (Nat×Res)}(h1:pr b σ)(h2:yH ks a σ)(h3:vt hp H)(h4:CM hk c H):
 Wk σ H (um b (jK ks a)) (gS hp (jL hk c)):=by
 refine qpg (λt=>?_) (λi r=>?_)
 ·induction b with
  | nil=>
    rw[qcQ,PP];split
    ·rename_i h;rw[<-h2 t h];simp
    simp
  | cons p b j=>
    obtain⟨s,d⟩:=p;simp only[um,upd];grind [pr]
 ·induction hp with
  | nil=>
    rw[qsB,PQ];grind [CM]
  | cons p hp j=>
    obtain⟨s,d⟩:=p;simp only[gS,ai];grind [vt]
def R9(a:Sg)(b:ab)(ks hk:List Nat)(c:List (Nat×D))(hp:List (Nat×Res))(σ:Sg)(H:ab):Prop:=pr c σ/\yH ks a σ/\vt hp H/\CM hk b H
@[simp] theorem qzD(a:Sg)(b:ab)(ks hk:List Nat)(c:List (Nat×D))(hp:List (Nat×Res))(σ:Sg)(H:ab):R9 a b ks hk c hp σ H=(pr c σ/\yH ks a σ/\vt hp H/\CM hk b H):=i' rfl
def qfc{X:Type}(P:X->Prop)(B:X->Sg->ab->Prop)(m:X->Nat)(x:X)(K:Ex->Sg->ab->Prop):Ex->Sg->ab->Prop:=λe a H'=>match e with
 | .norm=>∃y,P y/\B y a H'/\m y<m x
 |e=>K e a H'
@[simp ↓] theorem qz5{X:Type}(P:X->Prop)(B:X->Sg->ab->Prop)(m:X->Nat)(x:X)(K:Ex->Sg->ab->Prop)(a:Sg)(H':ab):qfc P B m x K .norm a H'=∃y,P y/\B y a H'/\m y<m x:=i' rfl
@[simp ↓] theorem qz3{X:Type}(P:X->Prop)(B:X->Sg->ab->Prop)(m:X->Nat)(x:X)(K:Ex->Sg->ab->Prop)(i:Nat)(a:Sg)(H':ab):qfc P B m x K (.ex i) a H'=K (.ex i) a H':=i' rfl
@[simp ↓] theorem qz4{X:Type}(P:X->Prop)(B:X->Sg->ab->Prop)(m:X->Nat)(x:X)(K:Ex->Sg->ab->Prop)(a:Sg)(H':ab):qfc P B m x K .ret a H'=K .ret a H':=i' rfl
section
variable {S:Nat->Spc}{K:Ex->Sg->ab->Prop}{σ:Sg}{H:ab}
def nD{X:Type}(ks hk:List Nat)(P:X->Prop)(a:X->List (Nat×D))(hp:X->List (Nat×Res))(m:X->Nat)(c:X){k:Nat}{b:CC}(h0:P c)(hs:pr (a c) σ)(hh:vt (hp c) H)
 (d:∀x,P x->vc S b (qfc P (λy=>R9 σ H ks hk (a y) (hp y)) m x K) (um (a x) (jK ks σ)) (gS (hp x) (jL hk H))):vc S (.loop k b) K σ H:=by
 rw[Wn];refine⟨⟨X,P,λx=>um (a x) (jK ks σ),λx=>gS (hp x) (jL hk H),m⟩,⟨c,h0,Hv hs (λ_ _=>rfl) hh (λ_ _=>rfl)⟩,λx j=>AV b _ _ (λe l H' h=>?_) (d x j)⟩;cases e with
 | norm=>
   obtain⟨y,h1,h2,h3⟩:=h;exact⟨y,h1,Hv h2.1 h2.2.1 h2.2.2.1 h2.2.2.2,h3⟩
 |ex i=>exact h
 |ret=>exact h
def au{X:Type}(ks hk:List Nat)(P:X->Prop)(a:X->List (Nat×D))(hp:X->List (Nat×Res))(m:X->Nat)(c:X){k:Nat}{b:CC}(h0:P c)
 (d:∀x,P x->vc S b (qfc P (λy=>R9 σ H ks hk (a y) (hp y)) m x K) (um (a x) (jK ks σ)) (gS (hp x) (jL hk H))) (hs:pr (a c) σ:=by simp) (hh:vt (hp c) H:=by simp):vc S (.loop k b) K σ H:=
 nD ks hk P a hp m c h0 hs hh d
def Zf(Q:Sg->ab->Prop)(K:Ex->Sg->ab->Prop):Ex->Sg->ab->Prop:=λe a H'=>match e with
 | .norm=>Q a H'
 |e=>K e a H'
@[simp ↓] theorem qBg(Q:Sg->ab->Prop)(a:Sg)(H':ab):Zf Q K .norm a H'=Q a H':=i' rfl
@[simp ↓] theorem qBe(Q:Sg->ab->Prop)(i:Nat)(a:Sg)(H':ab):Zf Q K (.ex i) a H'=K (.ex i) a H':=i' rfl
@[simp ↓] theorem qBf(Q:Sg->ab->Prop)(a:Sg)(H':ab):Zf Q K .ret a H'=K .ret a H':=i' rfl
def MI(k:Nat)(a b:CC):CC:= .seq a (.cut k b)
def aS{X:Type}(ks hk:List Nat)(P:X->Prop)(d:X->List (Nat×D))(hp:X->List (Nat×Res)){k:Nat}{a b:CC}
 (j:vc S a (Zf (λc H'=>∃x,P x/\R9 σ H ks hk (d x) (hp x) c H') K) σ H)
 (hb:∀x,P x->vc S b K (um (d x) (jK ks σ)) (gS (hp x) (jL hk H))):vc S (MI k a b) K σ H:=by
 unfold MI;rw[Z0];refine AV a _ _ (λe c H' h=>?_) j;cases e with
 | norm=>
   obtain⟨x,h1,h2⟩:=h;grind [R9,Wm,qkN,Hv]
 |ex i=>exact h
 |ret=>exact h
def gd(id i n c a:Nat)(body:CC)(b:Nat):CC:=
 .block id (.loop 0 (.seq (.reg [.op (some c) none (.cmp .lss (.tmp i) (.tmp n))]) (.seq (.ite (.tmp c) .skip (.exit id)) (.seq (.block a (.cut 0 body)) (.reg [.op (some b) none (.arith .add (.tmp i) (.const (.int .i64 1))), .op (some i) none (.mv (.tmp b))])))))
def qiW{X:Type}(id b i n:Nat)(len:Nat)(B:X->Sg->ab->Prop)(P:X->Prop)(k:Nat)(K:Ex->Sg->ab->Prop):Ex->Sg->ab->Prop:=λe a H'=>match e with
 | .norm=>a i= .v (.int .i64 k)/\a n= .v (.int .i64 len)/\∃y,P y/\B y a H'
 | .ex j=>if j=b then a i= .v (.int .i64 k)/\a n= .v (.int .i64 len)/\∃y,P y/\B y a H' else if j=id then K .norm a H' else K (.ex j) a H'
 | .ret=>K .ret a H'
@[simp ↓] theorem qAy{X:Type}(id b i n:Nat)(len:Nat)(B:X->Sg->ab->Prop)(P:X->Prop)(k:Nat)(a:Sg)(H':ab):qiW id b i n len B P k K .norm a H'=(a i= .v (.int .i64 k)/\a n= .v (.int .i64 len)/\∃y,P y/\B y a H'):=i' rfl
@[simp ↓] theorem qAw{X:Type}(id b i n:Nat)(len:Nat)(B:X->Sg->ab->Prop)(P:X->Prop)(k j:Nat)(a:Sg)(H':ab):qiW id b i n len B P k K (.ex j) a H'=(if j=b then a i= .v (.int .i64 k)/\a n= .v (.int .i64 len)/\∃y,P y/\B y a H' else if j=id then K .norm a H' else K (.ex j) a H'):=i' rfl
@[simp ↓] theorem qAx{X:Type}(id b i n:Nat)(len:Nat)(B:X->Sg->ab->Prop)(P:X->Prop)(k:Nat)(a:Sg)(H':ab):qiW id b i n len B P k K .ret a H'=K .ret a H':=i' rfl
def G2{t:Nat}{d:D} :∀{a:List (Nat×D)} {σ:Sg},(∀p∈a,p.1≠t)->pr a σ->pr a (upd σ t d)
 | [],_,_,_=>trivial
 | (s,e)::a,σ,h,hm=>by
  refine⟨?_,G2 (λp hp=>h p (by grind)) hm.2⟩;simp_all [upd]
def Th{t:Nat}{d:D}{ks:List Nat}{a σ:Sg}(h:t∉ks)(hk:yH ks a σ):yH ks a (upd σ t d):=λs hs=>by
 have:s≠t:=λe=>h (e ▸hs)
 simp only[upd,this,if_false];exact hk s hs
theorem Dg{X:Type}(ks hk:List Nat)(len:Nat)(P:Nat->X->Prop)(q:X->List (Nat×D))(hp:X->List (Nat×Res))(w:X){id i n c u b:Nat}{body:CC}
 (hi:σ i= .v (.int .i64 0)) (hn:σ n= .v (.int .i64 len)) (hlen:(len:Int)<=9223372036854775807) (hd:([i,n,c,b] ++ks).Nodup) (J:∀x,∀p∈q x,p.1∉ [i,n,c,b])
 (h0:P 0 w) (hs:pr (q w) σ) (hh:vt (hp w) H)
 (Y:∀k x,k<len->P k x->vc S body (qiW id u i n len (λy=>R9 σ H ks hk (q y) (hp y)) (P (k+1)) k K) (um ((i, .v (.int .i64 k))::(n, .v (.int .i64 len))::q x) (jK ks σ)) (gS (hp x) (jL hk H)))
 (he:∀x,P len x->K .norm (upd (um ((i, .v (.int .i64 len))::(n, .v (.int .i64 len))::q x) (jK ks σ)) c (.v (.bool false))) (gS (hp x) (jL hk H))):vc S (gd id i n c u body b) K σ H:=by
 have ne:i≠n/\i≠c/\i≠b/\n≠c/\n≠b/\c≠b/\i∉ks/\n∉ks/\c∉ks/\b∉ks:=by
  grind
 obtain⟨Q,Z,n3,n4,n5,n6,m1,m2,m3,m4⟩:=ne;have L:∀x t,t∈ [i,n,c,b]->∀p∈q x,p.1≠t:=λx t ht p hp e=>J x p hp (e ▸ht)
 let st:Nat×X->Sg:=λx=>um ((i, .v (.int .i64 x.1))::(n, .v (.int .i64 len))::q x.2) (jK ks σ)
 let A:Nat×X->ab:=λx=>gS (hp x.2) (jL hk H)
 have r:∀(k:Nat) (y:X) (a:Sg) (H':ab),a i= .v (.int .i64 k)->a n= .v (.int .i64 len)->R9 σ H ks hk (q y) (hp y) a H'->Wk a H' (st (k,y)) (A (k,y)):=by
  intro k y a H' I U ⟨b1,b2,b3,b4⟩;grind [pr,Hv,X5]
 unfold gd;rw[Wo,Wn];refine⟨⟨Nat×X,λx=>x.1<=len/\P x.1 x.2,st,A,λx=>len -x.1⟩,⟨(0,w),⟨qFY _,h0⟩,r 0 w σ H hi hn ⟨hs,λ_ _=>rfl,hh,λ_ _=>rfl⟩⟩,?_⟩;rintro⟨k,x⟩ ⟨M,W⟩;have si:st (k,x) i= .v (.int .i64 k):=by simp[st,um,upd]
 have sN:st (k,x) n= .v (.int .i64 len):=by
  have:¬n=i:=λe=>Q e.symm
  simp[st,um,upd,this]
 let C:qsO:=⟨Nat×X,λx=>x.1<=len/\P x.1 x.2,st,A,λx=>len -x.1⟩
 change vc S _ (qgj C (k,x) (qg3 id K)) (st (k,x)) (A (k,x));rw[Z0,qpP,qrF,qv5];simp only[qhA,si,sN,qsm,true_and,qlj,qsn];rw[qpM,Wm,Z0,qvH];have sc:ev (gx (st (k,x)) (some c) (.v (.bool (decide ((k:Int)<len))))) (.tmp c)= .v (.bool (decide ((k:Int)<len))):=by simp[upd]
 rw[sc,qr5];refine⟨λN=>?_,λO=>?_⟩
 ·have E:k < len:=by simpa using N
  rw[qr1,Wm,Z0,Wo,qkN];refine⟨st (k,x),A (k,x),qpg (λt=>?_) (λ_ _ h=> .inl h),?_⟩
  ·rw[qbj,qt5];split
   ·rename_i e;subst e;have I:st (k,x) t= .any:=by
     have hsl:∀(l:List (Nat×D)),(∀p∈l,p.1≠t)->um l (jK ks σ) t= .any:=by
      intro l
      induction l with
      |nil=>intro _;rw[qcQ,PP,if_neg m3]
      | cons p l ih=>
        obtain⟨s,d⟩:=p;intro h;have:¬t=s:=λe=>h (s,d) (by simp) e.symm
        simp only[um,upd,this,if_false];exact ih λp hp=>h p (by simp[hp])
     have h1:¬t=i:=λe=>Z e.symm
     have h2:¬t=n:=λe=>n4 e.symm
     simp only[st,um,upd,h1,h2,if_false];exact hsl _ (L x t (by simp))
    rw[I];exact trivial
   ·exact X5 _
  ·refine AV body _ _ (λe a H' h=>?_) (Y k x E W);have fin:∀a H',(a i= .v (.int .i64 k)/\a n= .v (.int .i64 len)/\∃y,P (k+1) y/\R9 σ H ks hk (q y) (hp y) a H')->
    Yk S (.reg [.op (some b) none (.arith .add (.tmp i) (.const (.int .i64 1))), .op (some i) none (.mv (.tmp b))]) (qgj C (k,x) (qg3 id K)) .norm a H':=by
    intro a H' ⟨I,U,y,hy,hb⟩;rw[Wm,qpP,qrF,qoQ];simp only[qhA,qm4,qt2,I,qlG,qn3,true_and,qg6,InR];refine⟨by omega,?_⟩;rw[qrF,qCI];dsimp only;rw[qpM];simp only[qhA,qbj];rw[qr4];refine⟨(k+1,y),⟨by show k+1<=len;omega,hy⟩,r (k+1) y _ _ ?_ ?_ ?_,by show len - (k+1)<len -k;omega⟩
    ·simp[upd]
    ·have h1:¬n=i:=λe=>Q e.symm
     simp[upd,h1,n5,U]
    ·exact⟨G2 (L y i (by simp)) (G2 (L y b (by simp)) hb.1),Th m1 (Th m4 hb.2.1),hb.2.2.1,hb.2.2.2⟩
   cases e with
   |norm=>rw[qr7];exact fin a H' h
   | ret=>
     rw[qkO,qr2,qr3,qkO];exact h
   | ex j=>
     rw[qcC];have h:if j=u then a i= .v (.int .i64 k)/\a n= .v (.int .i64 len)/\∃y,P (k+1) y/\R9 σ H ks hk (q y) (hp y) a H' else if j=id then K .norm a H' else K (.ex j) a H':=h
     split
     ·rename_i e;rw[if_pos e]at h;exact fin a H' h
     ·rename_i e;rw[if_neg e]at h;rw[qkL,qkM,qcC];exact h
 ·have F:k=len:=by
   have:¬((k:Int)<len):=by simpa using O
   have:k<=len:=M;omega
  subst F;rw[qr6,qkL,qkM,qcC,if_pos rfl];have:decide ((k:Int)<k)=false:=by simp
  rw[this];exact he x W
theorem ah{X:Type}(ks hk:List Nat)(len:Nat)(P:Nat->X->Prop)(a:X->List (Nat×D))(hp:X->List (Nat×Res))(d:X){id i n c b h:Nat}{body:CC}
 (h0:P 0 d)
 (l:∀k x,k<len->P k x->vc S body (qiW id b i n len (λy=>R9 σ H ks hk (a y) (hp y)) (P (k+1)) k K) (um ((i, .v (.int .i64 k))::(n, .v (.int .i64 len))::a x) (jK ks σ)) (gS (hp x) (jL hk H)))
 (he:∀x,P len x->K .norm (upd (um ((i, .v (.int .i64 len))::(n, .v (.int .i64 len))::a x) (jK ks σ)) c (.v (.bool false))) (gS (hp x) (jL hk H))) (hi:σ i= .v (.int .i64 0):=by simp) (hn:σ n= .v (.int .i64 len):=by simp) (hlen:(len:Int)<=9223372036854775807:=by omega) (q:([i,n,c,h] ++ks).Nodup:=by simp) (j:∀x,∀p∈a x,p.1∉ [i,n,c,h]:=by simp) (hs:pr (a d) σ:=by simp) (hh:vt (hp d) H:=by simp):vc S (gd id i n c b body h) K σ H:=
 Dg ks hk len P a hp d hi hn hlen q j h0 hs hh l he
end
end
section
open Cod (enc dec)
def aP{X:Type}[Cod X]{x y:X}(h:enc x=enc y):x=y:=by
 have:=congrArg (dec (X:=X)) h;simpa using this
@[simp] theorem qCe{X:Type}[Cod X](l l':List X):(l.map enc=l'.map enc)=(l=l'):=by
 refine propext ⟨λh=>?_,λh=>h ▸rfl⟩
 induction l generalizing l' with
 | nil=>cases l' with
   |nil=>rfl
   |cons y l'=>simp at h
 | cons x l a=>cases l' with
   |nil=>simp at h
   | cons y l'=>
     simp only[qF6,qF8]at h;rw[aP h.1,a _ h.2]
def kN{X:Type}[Cod X](l:List X)(i:Nat)(x:X):(l.map enc).set i (enc x)=(l.set i x).map enc:=by
 rw[qHv]
def WE{X:Type}[Cod X](l:List X)(x:X):l.map enc++ [enc x]=(l++ [x]).map enc:=by simp
def fA{X:Type}[Cod X]{H:ab}{id n:Nat}{v:Value}{l:List X}(el:Nat)(h:H id=some (.row v el n (l.map enc)))(hn:n=Cod.wd X:=by rfl):FrzTo H (.own id v) (.list n (l.map enc)):=by
 subst hn;exact qgK h
inductive Ky where
 |e
 |o (k:Ky)
 |i (k:Ky)
deriving DecidableEq
inductive Tr where
 |nil
 |nd (d:D) (l r:Tr)
def Tr.get:Tr->Ky->D
 | .nil,_=> .any
 | .nd d _ _, .e=>d
 | .nd _ l _, .o k=>l.get k
 | .nd _ _ r, .i k=>r.get k
def Tr.set:Tr->Ky->D->Tr
 | .nil, .e,x=> .nd x .nil .nil
 | .nil, .o k,x=> .nd .any (Tr.set .nil k x) .nil
 | .nil, .i k,x=> .nd .any .nil (Tr.set .nil k x)
 | .nd _ l r, .e,x=> .nd x l r
 | .nd d l r, .o k,x=> .nd d (l.set k x) r
 | .nd d l r, .i k,x=> .nd d l (r.set k x)
noncomputable def Tr.frz(id:Nat)(x:Value)(L:D):Tr->Tr
 | .nil=> .nil
 | .nd d l r=> .nd (M5 id x L d) (l.frz id x L) (r.frz id x L)
def qu3:Nat->Nat->Ky
 | 0,_=> .e
 |f+1,n=>if n=0 then .e else if(n -1) % 2=0 then .o (qu3 f ((n -1) /2))else .i (qu3 f ((n -1) /2))
def ky(n:Nat):Ky:=qu3 n n
def Ky.val:Ky->Nat
 | .e=>0
 | .o k=>2*k.val+1
 | .i k=>2*k.val+2
def NA:∀(f n:Nat),n<=f->(qu3 f n).val=n
 | 0,n,h=>by
   have:n=0:=by omega
   subst this;rfl
 | f+1,n,h=>by
   unfold qu3;split
   ·rename_i e;subst e;rfl
   ·split
    ·simp only[Ky.val];rw[NA f _ (by omega)];omega
    ·simp only[Ky.val];rw[NA f _ (by omega)];omega
def qjU{m n:Nat}(h:ky m=ky n):m=n:=by
 have h1:=NA m m (qFH _);have h2:=NA n n (qFH _);unfold ky at h;rw[h]at h1;exact h1.symm.trans h2
def E9:∀(T:Tr) (k j:Ky) (x:D),(T.set k x).get j=if j=k then x else T.get j
 | .nil, .e,j,x=>by cases j<;>simp[Tr.set,Tr.get]
 | .nil, .o k,j,x=>by
   have a:=λj=>E9 .nil k j x
   cases j<;>simp[Tr.set,Tr.get,a]
 | .nil, .i k,j,x=>by
   have a:=λj=>E9 .nil k j x
   cases j<;>simp[Tr.set,Tr.get,a]
 | .nd d l r, .e,j,x=>by cases j<;>simp[Tr.set,Tr.get]
 | .nd d l r, .o k,j,x=>by
   have a:=λj=>E9 l k j x
   cases j<;>simp[Tr.set,Tr.get,a]
 | .nd d l r, .i k,j,x=>by
   have a:=λj=>E9 r k j x
   cases j<;>simp[Tr.set,Tr.get,a]
def M4(T:Tr):Sg:=λt=>T.get (ky t)
@[simp] theorem qyo(T:Tr)(t:Nat):M4 T t=T.get (ky t):=i' rfl
@[simp] theorem qt3(T:Tr)(t:Nat)(d:D):upd (M4 T) t d=M4 (T.set (ky t) d):=by
 funext s;simp only[upd,M4,E9];by_cases h:s=t
 ·simp[h]
 ·have:¬ky s=ky t:=λe=>h (qjU e)
  simp[h,this]
def qki:M4 .nil=λ_=> .any:=by
 funext t;simp[M4,Tr.get]
@[simp] theorem qrJ(a:Sg):jK [] a=M4 .nil:=by rw[qki];rfl
@[simp] theorem qn2(t:Nat)(l:List Nat)(a:Sg):jK (t::l) a=upd (jK l a) t (a t):=i' rfl
@[simp] theorem qDl(a:Sg):um [] a=a:=i' rfl
@[simp] theorem qzO(t:Nat)(d:D)(l:List (Nat×D))(a:Sg):um ((t,d)::l) a=upd (um l a) t d:=i' rfl
def L6:Nat->List D->Tr
 | _, []=> .nil
 |n,d::l=>(L6 (n+1) l).set (ky n) d
@[simp] theorem qtk(n:Nat):L6 n []= .nil:=i' rfl
@[simp] theorem qrM(n:Nat)(d:D)(l:List D):L6 n (d::l)=(L6 (n+1) l).set (ky n) d:=i' rfl
def Ti:∀(l:List D) (n t:Nat),(L6 n l).get (ky t)=if n<=t then(l[t -n]?).getD .any else .any
 | [],n,t=>by simp[L6,Tr.get]
 | d::l,n,t=>by
   rw[L6,E9,Ti l (n+1) t];by_cases h:t=n
   ·subst h;simp
   ·have:¬ky t=ky n:=λe=>h (qjU e)
    rw[if_neg this];by_cases h2:n+1<=t
    ·have h3:n<=t:=by omega
     rw[if_pos h2,if_pos h3];have:t -n=(t - (n+1)) +1:=by omega
     rw[this];simp
    ·have h3:¬n<=t:=by omega
     rw[if_neg h2,if_neg h3]
@[simp] theorem qBJ(l:List D):dR l=M4 (L6 0 l):=by
 funext t;simp[dR,M4,Ti]
@[simp] theorem qEn(id:Nat)(x:Value)(L:D)(T:Tr):qgL id x L (M4 T)=M4 (T.frz id x L):=by
 funext t;simp only[qgL,M4];generalize ky t=k
 induction T generalizing k with
 |nil=>simp[Tr.frz,Tr.get,M5]
 | nd d l r a b=>
   cases k with
   |e=>rfl
   |o k=>exact a k
   |i k=>exact b k
@[simp] theorem qvl(id:Nat)(x:Value)(L:D):Tr.nil.frz id x L= .nil:=i' rfl
@[simp] theorem qyr(id:Nat)(x:Value)(L d:D)(l r:Tr):(Tr.nd d l r).frz id x L= .nd (M5 id x L d) (l.frz id x L) (r.frz id x L):=i' rfl
@[simp] theorem qE3(d:D)(l r:Tr):(Tr.nd d l r).get .e=d:=i' rfl
@[simp] theorem qE1(d:D)(l r:Tr)(k:Ky):(Tr.nd d l r).get (.o k)=l.get k:=i' rfl
@[simp] theorem qE2(d:D)(l r:Tr)(k:Ky):(Tr.nd d l r).get (.i k)=r.get k:=i' rfl
@[simp] theorem qDF(x:D):Tr.nil.set .e x= .nd x .nil .nil:=i' rfl
@[simp] theorem qDD(k:Ky)(x:D):Tr.nil.set (.o k) x= .nd .any (Tr.set .nil k x) .nil:=i' rfl
@[simp] theorem qDE(k:Ky)(x:D):Tr.nil.set (.i k) x= .nd .any .nil (Tr.set .nil k x):=i' rfl
@[simp] theorem qE0(d:D)(l r:Tr)(x:D):(Tr.nd d l r).set .e x= .nd x l r:=i' rfl
@[simp] theorem qEY(d:D)(l r:Tr)(k:Ky)(x:D):(Tr.nd d l r).set (.o k) x= .nd d (l.set k x) r:=i' rfl
@[simp] theorem qEZ(d:D)(l r:Tr)(k:Ky)(x:D):(Tr.nd d l r).set (.i k) x= .nd d l (r.set k x):=i' rfl
@[simp] theorem qxT(H:ab)(i:Nat):bM [] H i=H i:=i' rfl
@[simp] theorem qva(t i:Nat):L8 (some t) i=(qaW i=qaW t):=i' rfl
@[simp] theorem qBN{i:Nat}(h:i< 990):qaW i=i:=by unfold qaW;rw[if_neg (by omega)]
@[simp] theorem qyn{i:Nat}(h:990<=i)(a:i< 1000):qaW i=0:=by unfold qaW;rw[if_pos ⟨h,a⟩]
@[simp] theorem qxV(d:Option Nat)(g:Option (Nat×Bool))(c:COp)(l:List CI)(H:ab)(i:Nat):bM (.op d g c::l) H i=if L8 (CI.op d g c).wid i then none else bM l H i:=i' rfl
@[simp] theorem qxU(a b:Nat)(l:List CI)(H:ab)(i:Nat):bM (.frz a b::l) H i=H i:=i' rfl
@[simp] theorem qz1(a:Option Nat)(b:Option (Nat×Bool))(x:Operand):(CI.op a b (.mv x)).wid=a:=i' rfl
@[simp] theorem qtQ(a:Option Nat)(b:Option (Nat×Bool))(c:Operand)(x:Operand)(y:Operand):(CI.op a b (.pick c x y)).wid=a:=i' rfl
@[simp] theorem qsZ(a:Option Nat)(b:Option (Nat×Bool))(el:Nat)(z:List Value):(CI.op a b (.alloc el z)).wid=a:=i' rfl
@[simp] theorem qsX(a:Option Nat)(b:Option (Nat×Bool))(z:List Value)(parts:List (Nat×Nat×Operand)):(CI.op a b (.build z parts)).wid=a:=i' rfl
@[simp] theorem qqe(a:Option Nat)(b:Option (Nat×Bool))(el:Nat)(n:Nat)(parts:List Operand):(CI.op a b (.bslice el n parts)).wid=a:=i' rfl
@[simp] theorem qtR(a:Option Nat)(b:Option (Nat×Bool))(agg:Bool)(sz:Nat)(x:Operand):(CI.op a b (.load agg sz x)).wid=a:=i' rfl
@[simp] theorem qph(d:Option Nat)(g:Option (Nat×Bool))(r sz:Nat)(x y:Operand):(CI.op d g (.store (some r) sz x y)).wid=some r:=i' rfl
@[simp] theorem qsT(a:Option Nat)(b:Option (Nat×Bool))(x:Operand):(CI.op a b (.nilck x)).wid=a:=i' rfl
@[simp] theorem qsY(a:Option Nat)(b:Option (Nat×Bool))(op:BinOp)(x:Operand)(y:Operand):(CI.op a b (.arith op x y)).wid=a:=i' rfl
@[simp] theorem qwH(a:Option Nat)(b:Option (Nat×Bool))(op:BinOp)(x:Operand)(y:Operand):(CI.op a b (.cmp op x y)).wid=a:=i' rfl
@[simp] theorem qwG(a:Option Nat)(b:Option (Nat×Bool))(neg:Bool)(agg:Bool)(ks:List qe7)(x:Operand)(y:Operand):(CI.op a b (.eql neg agg ks x y)).wid=a:=i' rfl
@[simp] theorem qwD(a:Option Nat)(b:Option (Nat×Bool))(x:Operand):(CI.op a b (.not x)).wid=a:=i' rfl
@[simp] theorem qsS(a:Option Nat)(b:Option (Nat×Bool))(n:Nat)(x:Operand)(lo:Option Operand)(hi:Option Operand):(CI.op a b (.slice n x lo hi)).wid=a:=i' rfl
@[simp] theorem qqd(a:Option Nat)(b:Option (Nat×Bool))(x:Operand)(lo:Option Operand)(hi:Option Operand):(CI.op a b (.sslice x lo hi)).wid=a:=i' rfl
@[simp] theorem qsV(a:Option Nat)(b:Option (Nat×Bool))(off:Nat)(x:Operand):(CI.op a b (.faddr off x)).wid=a:=i' rfl
@[simp] theorem qsU(a:Option Nat)(b:Option (Nat×Bool))(n:Nat)(x:Operand)(i:Operand):(CI.op a b (.iaddr n x i)).wid=a:=i' rfl
@[simp] theorem qwF(a:Option Nat)(b:Option (Nat×Bool))(x:Operand)(i:Nat):(CI.op a b (.ext x i)).wid=a:=i' rfl
@[simp] theorem qwE(a:Option Nat)(b:Option (Nat×Bool))(x:Operand):(CI.op a b (.len x)).wid=a:=i' rfl
@[simp] theorem qtP(a:Option Nat)(b:Option (Nat×Bool))(x:Operand):(CI.op a b (.slen x)).wid=a:=i' rfl
@[simp] theorem qz2(a:Option Nat)(b:Option (Nat×Bool))(mx:Bool)(xs:List Operand):(CI.op a b (.mm mx xs)).wid=a:=i' rfl
@[simp] theorem qmB(d:Option Nat)(g:Option (Nat×Bool))(r el n b:Nat)(x y:Operand):(CI.op d g (.append (some r) el n b x y)).wid=some r:=i' rfl
@[simp] theorem qtS(a:Option Nat)(b:Option (Nat×Bool))(f:Nat)(args:List Operand):(CI.op a b (.call f args)).wid=a:=i' rfl
@[simp] theorem qsW(a:Option Nat)(b:Option (Nat×Bool))(r f:Nat)(args:List Operand):(CI.op a b (.callb r f args)).wid=some r:=i' rfl
abbrev B:=ByteArray
structure I32 where
 val:Int
deriving DecidableEq
instance:Cod I32 where
 wd:=1
 enc n:= .v (.int .i32 n.val)
 dec| .v (.int .i32 n)=>some ⟨n⟩|_=>none
 kn _:=rfl
 wid _:=rfl
 dec_enc _:=rfl
 le d x h:=by
  split at h
  ·cases h;exact .same _
  ·cases h
@[simp] theorem qyQ(n:I32):enc n= .v (.int .i32 n.val):=i' rfl
@[simp] theorem qz9:Cod.wd I32=1:=i' rfl
@[simp] theorem qy0(n:Int):dec (X:=I32) (.v (.int .i32 n))=some ⟨n⟩:=i' rfl
@[simp] theorem qyG(n:I32):I32.mk n.val=n:=i' rfl
structure U8 where
 val:Int
deriving DecidableEq
instance:Cod U8 where
 wd:=1
 enc n:= .v (.int .u8 n.val)
 dec| .v (.int .u8 n)=>some ⟨n⟩|_=>none
 kn _:=rfl
 wid _:=rfl
 dec_enc _:=rfl
 le d x h:=by
  split at h
  ·cases h;exact .same _
  ·cases h
@[simp] theorem qCd(n:U8):enc n= .v (.int .u8 n.val):=i' rfl
@[simp] theorem qCm(n:Int):dec (X:=U8) (.v (.int .u8 n))=some ⟨n⟩:=i' rfl
@[simp] theorem qB7(n:U8):U8.mk n.val=n:=i' rfl
structure Pair where
 nm:B
 vl:B
deriving DecidableEq
instance:Cod Pair where
 wd:=2
 enc s:= .agg [enc s.nm,enc s.vl]
 dec| .agg [a,b]=>(dec a).bind λa=>(dec b).bind λb=>some ⟨a,b⟩|_=>none
 kn _:=rfl
 wid _:=rfl
 dec_enc s:=by simp
 le d x h:=by
  split at h
  ·simp only[qFA]at h;obtain⟨a,h0,b,h1,h⟩:=h;cases h;exact LeL.agg (.cons (Cod.le _ _ h0) (.cons (Cod.le _ _ h1) .nil))
  ·cases h
@[simp] theorem qvx(s:Pair):(Pair.mk s.nm s.vl)=s:=i' rfl
@[simp] theorem qvD(s:Pair):enc s= .agg [enc s.nm,enc s.vl]:=i' rfl
@[simp] theorem qwM:Cod.wd Pair=2:=i' rfl
@[simp] theorem qvK(a b:D):dec (X:=Pair) (.agg [a,b])=((dec a).bind λa=>(dec b).bind λb=>some ⟨a,b⟩):=i' rfl
structure Attr where
 nm:B
 st:Bool
deriving DecidableEq
instance:Cod Attr where
 wd:=2
 enc s:= .agg [enc s.nm,enc s.st]
 dec| .agg [a,b]=>(dec a).bind λa=>(dec b).bind λb=>some ⟨a,b⟩|_=>none
 kn _:=rfl
 wid _:=rfl
 dec_enc s:=by simp
 le d x h:=by
  split at h
  ·simp only[qFA]at h;obtain⟨a,h0,b,h1,h⟩:=h;cases h;exact LeL.agg (.cons (Cod.le _ _ h0) (.cons (Cod.le _ _ h1) .nil))
  ·cases h
@[simp] theorem qvz(s:Attr):(Attr.mk s.nm s.st)=s:=i' rfl
@[simp] theorem qvG(s:Attr):enc s= .agg [enc s.nm,enc s.st]:=i' rfl
@[simp] theorem qwR:Cod.wd Attr=2:=i' rfl
@[simp] theorem qvM(a b:D):dec (X:=Attr) (.agg [a,b])=((dec a).bind λa=>(dec b).bind λb=>some ⟨a,b⟩):=i' rfl
structure Span where
 b:Int
 e:Int
deriving DecidableEq
instance:Cod Span where
 wd:=2
 enc s:= .agg [enc s.b,enc s.e]
 dec| .agg [a,c]=>(dec a).bind λa=>(dec c).bind λc=>some ⟨a,c⟩|_=>none
 kn _:=rfl
 wid _:=rfl
 dec_enc s:=by simp
 le d x h:=by
  split at h
  ·simp only[qFA]at h;obtain⟨a,h0,c,h1,h⟩:=h;cases h;exact LeL.agg (.cons (Cod.le _ _ h0) (.cons (Cod.le _ _ h1) .nil))
  ·cases h
@[simp] theorem qvw(s:Span):(Span.mk s.b s.e)=s:=i' rfl
@[simp] theorem qvC(s:Span):enc s= .agg [enc s.b,enc s.e]:=i' rfl
@[simp] theorem qwL:Cod.wd Span=2:=i' rfl
@[simp] theorem qvJ(a b:D):dec (X:=Span) (.agg [a,b])=((dec a).bind λa=>(dec b).bind λb=>some ⟨a,b⟩):=i' rfl
structure xX where
 nm:B
 b:Int
 e:Int
 kv:List Pair
deriving DecidableEq
instance:Cod xX where
 wd:=4
 enc s:= .agg [enc s.nm,enc s.b,enc s.e,enc s.kv]
 dec| .agg [a,c,j,k]=>(dec a).bind λa=>(dec c).bind λc=>(dec j).bind λj=>(dec k).bind λk=>some ⟨a,c,j,k⟩|_=>none
 kn _:=rfl
 wid _:=rfl
 dec_enc s:=by simp
 le d x h:=by
  split at h
  ·simp only[qFA]at h;obtain⟨a,h0,c,h1,j,h2,k,h3,h⟩:=h;cases h;exact LeL.agg (.cons (Cod.le _ _ h0) (.cons (Cod.le _ _ h1) (.cons (Cod.le _ _ h2) (.cons (Cod.le _ _ h3) .nil))))
  ·cases h
@[simp] theorem qvB(s:xX):enc s= .agg [enc s.nm,enc s.b,enc s.e,enc s.kv]:=i' rfl
@[simp] theorem qwK:Cod.wd xX=4:=i' rfl
@[simp] theorem qvI(a b c d:D):dec (X:=xX) (.agg [a,b,c,d])=((dec a).bind λa=>(dec b).bind λb=>(dec c).bind λc=>(dec d).bind λd=>some ⟨a,b,c,d⟩):=i' rfl
structure Region where
 ty:B
 b:Int
 e:Int
 kv:List Pair
deriving DecidableEq
instance:Cod Region where
 wd:=4
 enc s:= .agg [enc s.ty,enc s.b,enc s.e,enc s.kv]
 dec| .agg [a,c,j,k]=>(dec a).bind λa=>(dec c).bind λc=>(dec j).bind λj=>(dec k).bind λk=>some ⟨a,c,j,k⟩|_=>none
 kn _:=rfl
 wid _:=rfl
 dec_enc s:=by simp
 le d x h:=by
  split at h
  ·simp only[qFA]at h;obtain⟨a,h0,c,h1,j,h2,k,h3,h⟩:=h;cases h;exact LeL.agg (.cons (Cod.le _ _ h0) (.cons (Cod.le _ _ h1) (.cons (Cod.le _ _ h2) (.cons (Cod.le _ _ h3) .nil))))
  ·cases h
@[simp] theorem qrT(s:Region):(Region.mk s.ty s.b s.e s.kv)=s:=i' rfl
@[simp] theorem qrY(s:Region):enc s= .agg [enc s.ty,enc s.b,enc s.e,enc s.kv]:=i' rfl
@[simp] theorem qs1:Cod.wd Region=4:=i' rfl
@[simp] theorem qsa(a b c d:D):dec (X:=Region) (.agg [a,b,c,d])=((dec a).bind λa=>(dec b).bind λb=>(dec c).bind λc=>(dec d).bind λd=>some ⟨a,b,c,d⟩):=i' rfl
structure AS where
 lb:B
 b:Int
 e:Int
 par:Int
deriving DecidableEq
instance:Cod AS where
 wd:=4
 enc s:= .agg [enc s.lb,enc s.b,enc s.e,enc s.par]
 dec| .agg [a,c,j,k]=>(dec a).bind λa=>(dec c).bind λc=>(dec j).bind λj=>(dec k).bind λk=>some ⟨a,c,j,k⟩|_=>none
 kn _:=rfl
 wid _:=rfl
 dec_enc s:=by simp
 le d x h:=by
  split at h
  ·simp only[qFA]at h;obtain⟨a,h0,c,h1,j,h2,k,h3,h⟩:=h;cases h;exact LeL.agg (.cons (Cod.le _ _ h0) (.cons (Cod.le _ _ h1) (.cons (Cod.le _ _ h2) (.cons (Cod.le _ _ h3) .nil))))
  ·cases h
@[simp] theorem qvE(s:AS):enc s= .agg [enc s.lb,enc s.b,enc s.e,enc s.par]:=i' rfl
@[simp] theorem qwN:Cod.wd AS=4:=i' rfl
structure Corpus where
 attrs:List Attr
 toks:List (List B)
 texts:List xX
 regs:List Region
 nodes:List AS
 heads:List Int
 rels:List B
deriving DecidableEq
instance:Cod Corpus where
 wd:=7
 enc s:= .agg [enc s.attrs,enc s.toks,enc s.texts,enc s.regs,enc s.nodes,enc s.heads,enc s.rels]
 dec| .agg [a,b,c,j,k,l,p]=>(dec a).bind λa=>(dec b).bind λb=>(dec c).bind λc=>(dec j).bind λj=>(dec k).bind λk=>(dec l).bind λl=>(dec p).bind λp=>some ⟨a,b,c,j,k,l,p⟩|_=>none
 kn _:=rfl
 wid _:=rfl
 dec_enc s:=by simp
 le d x h:=by
  split at h
  ·simp only[qFA]at h;obtain⟨a,h0,b,h1,c,h2,j,h3,k,h4,l,h5,p,h6,h⟩:=h;cases h;exact LeL.agg (.cons (Cod.le _ _ h0) (.cons (Cod.le _ _ h1) (.cons (Cod.le _ _ h2) (.cons (Cod.le _ _ h3) (.cons (Cod.le _ _ h4) (.cons (Cod.le _ _ h5) (.cons (Cod.le _ _ h6) .nil)))))))
  ·cases h
@[simp] theorem qrU(s:Corpus):(Corpus.mk s.attrs s.toks s.texts s.regs s.nodes s.heads s.rels)=s:=i' rfl
@[simp] theorem qrZ(s:Corpus):enc s= .agg [enc s.attrs,enc s.toks,enc s.texts,enc s.regs,enc s.nodes,enc s.heads,enc s.rels]:=i' rfl
@[simp] theorem qsb(a b c d h j k:D):dec (X:=Corpus) (.agg [a,b,c,d,h,j,k])=((dec a).bind λa=>(dec b).bind λb=>(dec c).bind λc=>(dec d).bind λd=>(dec h).bind λh=>(dec j).bind λj=>(dec k).bind λk=>some ⟨a,b,c,d,h,j,k⟩):=i' rfl
structure cb where
 b:Int
 e:Int
 lbs:List Int
deriving DecidableEq
instance:Cod cb where
 wd:=3
 enc s:= .agg [enc s.b,enc s.e,enc s.lbs]
 dec| .agg [a,c,j]=>(dec a).bind λa=>(dec c).bind λc=>(dec j).bind λj=>some ⟨a,c,j⟩|_=>none
 kn _:=rfl
 wid _:=rfl
 dec_enc s:=by simp
 le d x h:=by
  split at h
  ·simp only[qFA]at h;obtain⟨a,h0,c,h1,j,h2,h⟩:=h;cases h;exact LeL.agg (.cons (Cod.le _ _ h0) (.cons (Cod.le _ _ h1) (.cons (Cod.le _ _ h2) .nil)))
  ·cases h
@[simp] theorem qtr(s:cb):enc s= .agg [enc s.b,enc s.e,enc s.lbs]:=i' rfl
@[simp] theorem qtT:Cod.wd cb=3:=i' rfl
structure zW where
 r:I32
 pos:Int
 sz:Int
 ok:Bool
deriving DecidableEq
instance:Cod zW where
 wd:=4
 enc s:= .agg [enc s.r,enc s.pos,enc s.sz,enc s.ok]
 dec| .agg [a,b,c,j]=>(dec a).bind λa=>(dec b).bind λb=>(dec c).bind λc=>(dec j).bind λj=>some ⟨a,b,c,j⟩|_=>none
 kn _:=rfl
 wid _:=rfl
 dec_enc s:=by simp
 le d x h:=by
  split at h
  ·simp only[qFA]at h;obtain⟨a,h0,b,h1,c,h2,j,h3,h⟩:=h;cases h;exact LeL.agg (.cons (Cod.le _ _ h0) (.cons (Cod.le _ _ h1) (.cons (Cod.le _ _ h2) (.cons (Cod.le _ _ h3) .nil))))
  ·cases h
@[simp] theorem qrX(s:zW):enc s= .agg [enc s.r,enc s.pos,enc s.sz,enc s.ok]:=i' rfl
@[simp] theorem qs0:Cod.wd zW=4:=i' rfl
end
end Go.Gv
