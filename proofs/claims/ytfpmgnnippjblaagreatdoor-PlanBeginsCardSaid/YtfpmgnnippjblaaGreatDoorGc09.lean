/- T10 -/
import Derived.Test.YtfpmgnnippjblaaGreatDoorGc08
set_option linter.all false
namespace Go.Gv
section
open Cod (enc dec)
variable {b b' bytes el el' f g hi i id j len lo n n' n'' o off sz t:Nat}{H:ab}{K:D->Prop}{dst dst₁ rt:Option Nat}{v x x':Value}{L d d' d₁ e e₁ f₁ i₁ y₁ z₁:D}{k k' kd:IntKind}{σ:Sg}{args args₁ caps cells cs ds es es2 es2₁ src src₁:List D}{agg mx neg:Bool}{r r₁:Option Res}{c y:Operand}{a h l:Int}{s:ByteArray}{z:List Value}{no yes:Sg->Prop}{A B p:Prop}{op:BinOp}{ks:List qbE}{S:Nat->Spc}{ps xs:List Operand}{s₁:Spc}
section
variable {S:Nat->Spc}{K:Ex->Sg->ab->Prop}{σ:Sg}{H:ab}
def qcq(S:Nat->Spc)(b:CC)(K:Ex->Sg->ab->Prop):Ex->Sg->ab->Prop:=λe σ H=>match e with
 | .norm=>vc S b K σ H
 |e=>K e σ H
def qho(id:Nat)(K:Ex->Sg->ab->Prop):Ex->Sg->ab->Prop:=λe σ H=>match e with
 | .ex i=>if i=id then K .norm σ H else K (.ex i) σ H
 |e=>K e σ H
def qgG(q:qsN)(x:q.X)(K:Ex->Sg->ab->Prop):Ex->Sg->ab->Prop:=λe u H'=>match e with
 | .norm=>∃y,q.P y/\Wk u H' (q.s y) (q.h y)/\q.m y<q.m x
 |e=>K e u H'
def RZ(d:D)(A B:Prop):Prop:=match d with
 | .v (.bool t)=>(t=true->A)/\(t=false->B)
 | _=>False
@[simp ↓] theorem qrU:vc S .skip K σ H=K .norm σ H:=i' rfl
@[simp ↓] theorem qpU(l:List CI):vc S (.reg l) K σ H=FH S l σ H (K .norm):=i' rfl
@[simp ↓] theorem qCJ(p l:List CI):vc S (.regd p l) K σ H=kG S p σ (bO p H) H λσ H=>FH S l σ H (K .norm):=i' rfl
@[simp ↓] theorem qfc(a b:CC):vc S (.seq a b) K σ H=vc S a (qcq S b K) σ H:=i' rfl
@[simp ↓] theorem WU(b:CC):qcq S b K .norm σ H=vc S b K σ H:=i' rfl
@[simp ↓] theorem qk4(b:CC)(i:Nat):qcq S b K (.ex i) σ H=K (.ex i) σ H:=i' rfl
@[simp ↓] theorem qrV(b:CC):qcq S b K .ret σ H=K .ret σ H:=i' rfl
@[simp ↓] theorem qv1(c:Operand)(a b:CC):vc S (.ite c a b) K σ H=RZ (ev σ c) (vc S a K σ H) (vc S b K σ H):=i' rfl
@[simp] theorem qrY(t:Bool)(A B:Prop):RZ (.v (.bool t)) A B=((t=true->A)/\(t=false->B)):=i' rfl
@[simp high] theorem qCL:RZ (.v (.bool true)) A B=A:=by simp[RZ]
@[simp high] theorem qCM:RZ (.v (.bool false)) A B=B:=by simp[RZ]
@[simp ↓] theorem WW(id:Nat)(b:CC):vc S (.block id b) K σ H=vc S b (qho id K) σ H:=i' rfl
@[simp ↓] theorem qr0(id:Nat):qho id K .norm σ H=K .norm σ H:=i' rfl
@[simp ↓] theorem qk6(id:Nat):qho id K .ret σ H=K .ret σ H:=i' rfl
@[simp ↓] theorem qdn(id i:Nat):qho id K (.ex i) σ H=if i=id then K .norm σ H else K (.ex i) σ H:=i' rfl
@[simp ↓] theorem qrZ(i:Nat):vc S (.exit i) K σ H=K (.ex i) σ H:=i' rfl
@[simp ↓] theorem qET:vc S .ret K σ H=K .ret σ H:=i' rfl
@[simp ↓] theorem qCK(ls lh:List Nat)(c:CC):vc S (.keep ls lh c) K σ H=vc S c K (jr ls σ) (js lh H):=i' rfl
theorem WV(k:Nat)(b:CC):vc S (.loop k b) K σ H=∃q:qsN,(∃x,q.P x/\Wk σ H (q.s x) (q.h x))/\∀x,q.P x->vc S b (qgG q x K) (q.s x) (q.h x):=i' rfl
theorem qpV(k:Nat)(c:CC):vc S (.cut k c) K σ H=∃(q:Sg) (H':ab),Wk σ H q H'/\vc S c K q H':=i' rfl
@[simp ↓] theorem qrX(q:qsN)(x:q.X):qgG q x K .norm σ H=∃y,q.P y/\Wk σ H (q.s y) (q.h y)/\q.m y<q.m x:=i' rfl
@[simp ↓] theorem qrW(q:qsN)(x:q.X):qgG q x K .ret σ H=K .ret σ H:=i' rfl
@[simp ↓] theorem qk5(q:qsN)(x:q.X)(i:Nat):qgG q x K (.ex i) σ H=K (.ex i) σ H:=i' rfl
end
def px(s:Nat)(b:Bool)(σ:Sg)(d:D)(yes no:Sg->Prop):Prop:=match d with
 | .v (.bool t)=>(t=b->yes (upd σ s (.v (.bool b))))/\(t=(!b)->no (upd σ s (.v (.bool (!b)))))
 | .undef=>no σ
 | _=>False
@[simp high] theorem qFN(s:Nat):px s true σ (.v (.bool true)) yes no=yes (upd σ s (.v (.bool true))):=by simp[px]
@[simp high] theorem qFO(s:Nat):px s true σ (.v (.bool false)) yes no=no (upd σ s (.v (.bool false))):=by simp[px]
@[simp high] theorem qFP(s:Nat):px s false σ (.v (.bool true)) yes no=no (upd σ s (.v (.bool true))):=by simp[px]
@[simp high] theorem qFQ(s:Nat):px s false σ (.v (.bool false)) yes no=yes (upd σ s (.v (.bool false))):=by simp[px]
@[simp] theorem qFM(s:Nat)(b:Bool):px s b σ .undef yes no=no σ:=i' rfl
@[simp] theorem qF2(s:Nat)(b t:Bool):px s b σ (.v (.bool t)) yes no=((t=b->yes (upd σ s (.v (.bool b))))/\(t=(!b)->no (upd σ s (.v (.bool (!b)))))):=i' rfl
section
variable {S:Nat->Spc}{σ:Sg}{H Hr:ab}
@[simp ↓] theorem qpM(K:Sg->ab->Prop):FH S [] σ H K=K σ H:=i' rfl
@[simp ↓] theorem qrv(K:Sg->ab->Prop)(d:Option Nat)(c:COp)(r:List CI):FH S (.op d none c::r) σ H K=aI S c d σ H λx H'=>FH S r (fK σ d x) H' K:=i' rfl
@[simp ↓] theorem qEu(K:Sg->ab->Prop)(d:Option Nat)(s:Nat)(b:Bool)(c:COp)(r:List CI):FH S (.op d (some (s,b)) c::r) σ H K=px s b σ (σ s) (λσ=>aI S c d σ H λx H'=>FH S r (fK σ d x) H' K) (λσ=>FH S r (fK σ d .undef) H K):=i' rfl
@[simp ↓] theorem qEv(K:Sg->ab->Prop)(r:List CI):FH S (.frz t n::r) σ H K=Md t n σ H λq H'=>FH S r q H' K:=i' rfl
@[simp ↓] theorem qEl(K:Sg->ab->Prop):kG S [] σ Hr H K=K σ H:=i' rfl
@[simp ↓] theorem qEm(K:Sg->ab->Prop)(a:Nat)(r:List CI):kG S (.frz a b::r) σ Hr H K=kG S r σ (bO r Hr) H K:=i' rfl
@[simp ↓] theorem qFl(K:Sg->ab->Prop)(d:Option Nat)(c:COp)(r:List CI):kG S (.op d none c::r) σ Hr H K=aw S c d σ Hr H λx H'=>kG S r (fK σ d x) Hr H' K:=i' rfl
@[simp ↓] theorem qEk(K:Sg->ab->Prop)(d:Option Nat)(s:Nat)(b:Bool)(c:COp)(r:List CI):kG S (.op d (some (s,b)) c::r) σ Hr H K=px s b σ (σ s) (λσ=>aw S c d σ Hr H λx H'=>kG S r (fK σ d x) Hr H' K) (λσ=>kG S r (fK σ d .undef) Hr H K):=i' rfl
end
def L2(d:D)(A B:Prop):Prop:=match d with
 | .v (.bool t)=>(t=true->A)/\(t=false->B)
 | _=>False
@[simp high] theorem qx5:L2 (.v (.bool true)) A B=A:=by simp[L2]
@[simp high] theorem qx6:L2 (.v (.bool false)) A B=B:=by simp[L2]
def Z8(agg:Bool)(sz b off:Nat)(r:Option Res)(K:D->Prop):Prop:=match r with
 |some (.box b' cells)=>b'=b/\off+sz<=cells.length/\K (Nb agg sz cells off)
 | _=>False
def Z7(agg:Bool)(sz:Nat)(x:Value)(n i off:Nat)(r:Option Res)(K:D->Prop):Prop:=match r with
 |some (.row x' _ n' es)=>x'=x/\n'=n/\off+sz<=n/\i<es.length/\∀d,es[i]? =some d->K (Nb agg sz d.cells off)
 | _=>False
def L8(agg:Bool)(sz:Nat)(d:D)(H:ab)(K:D->Prop):Prop:=match d with
 | .cptr cs off=>off+sz<=cs.length/\K (Nb agg sz cs off)
 | .bptr id b off=>Z8 agg sz b off (H id) K
 | .eptr id x n i off=>Z7 agg sz x n i off (H id) K
 | _=>False
@[simp] theorem qyu:L8 agg sz (.cptr cs off) H K=(off+sz<=cs.length/\K (Nb agg sz cs off)):=i' rfl
@[simp] theorem qyv:L8 agg sz (.bptr i b off) H K=Z8 agg sz b off (H i) K:=i' rfl
@[simp] theorem qyt(k:Nat):L8 agg sz (.eptr i x n k off) H K=Z7 agg sz x n k off (H i) K:=i' rfl
@[simp] theorem qyx:Z8 agg sz b off (some (.box b' cells)) K=(b'=b/\off+sz<=cells.length/\K (Nb agg sz cells off)):=i' rfl
@[simp] theorem qyw:Z7 agg sz x n i off (some (.row x' el n' es)) K=(x'=x/\n'=n/\off+sz<=n/\i<es.length/\∀d,es[i]? =some d->K (Nb agg sz d.cells off)):=i' rfl
def qgB(d:D)(K:D->Prop):Prop:=match d with
 | .cptr cs off=>K (.cptr cs off)
 | .bptr id b off=>K (.bptr id b off)
 | .eptr id x n i off=>K (.eptr id x n i off)
 | .tape L=>K (.tape L)
 | .clo f caps=>K (.clo f caps)
 | _=>False
@[simp] theorem qBk:qgB (.cptr cs off) K=K (.cptr cs off):=i' rfl
@[simp] theorem qBl:qgB (.bptr i b off) K=K (.bptr i b off):=i' rfl
def QG(op:BinOp)(d e:D)(K:D->Prop):Prop:=match d,e with
 | .v (.int k a), .v (.int k' b)=>qgS op k k'/\gW op k a b K
 | _,_=>False
@[simp] theorem qlO(op:BinOp)(k k':IntKind)(a b:Int)(K:D->Prop):QG op (.v (.int k a)) (.v (.int k' b)) K=(qgS op k k'/\gW op k a b K):=i' rfl
@[simp] theorem qn7(k k':IntKind):qgS .add k k'=(k=k'):=i' rfl
@[simp] theorem qyH:qgS .sub k k'=(k=k'):=i' rfl
@[simp] theorem qyM:qgS .mul k k'=(k=k'):=i' rfl
@[simp] theorem qyL:qgS .quo k k'=(k=k'):=i' rfl
@[simp] theorem qyK:qgS .rem k k'=(k=k'):=i' rfl
@[simp] theorem qyN:qgS .and k k'=(k=k'):=i' rfl
@[simp] theorem qBW:qgS .or k k'=(k=k'):=i' rfl
@[simp] theorem qyJ:qgS .shl k k'=True:=i' rfl
@[simp] theorem qyI:qgS .shr k k'=True:=i' rfl
@[simp ↓] theorem qhr(k:IntKind)(a b:Int)(K:D->Prop):gW .add k a b K=(InR k (a+b)/\K (.v (.int k (a+b)))):=i' rfl
@[simp ↓] theorem qtC(b:Int):gW .sub k a b K=(InR k (a -b)/\K (.v (.int k (a -b)))):=i' rfl
@[simp ↓] theorem qtH(b:Int):gW .mul k a b K=(InR k (a*b)/\K (.v (.int k (a*b)))):=i' rfl
@[simp ↓] theorem qtG(b:Int):gW .quo k a b K=(b≠0/\InR k (a.tdiv b)/\K (.v (.int k (a.tdiv b)))):=i' rfl
@[simp ↓] theorem qtF(b:Int):gW .rem k a b K=(b≠0/\K (.v (.int k (a.tmod b)))):=i' rfl
@[simp ↓] theorem qtI(b:Int):gW .and k a b K=K (.v (.int k (qbn k a b))):=i' rfl
@[simp ↓] theorem qwD(b:Int):gW .or k a b K=K (.v (.int k (qtc k a b))):=i' rfl
@[simp ↓] theorem qtE(b:Int):gW .shl k a b K=(0<=b/\K (.v (.int k (U1 k a b)))):=i' rfl
@[simp ↓] theorem qtD(b:Int):gW .shr k a b K=(0<=b/\K (.v (.int k (qcn k a b)))):=i' rfl
def qnq(d:D)(K:D->Prop):Prop:=match d with
 | .v (.int _ n)=>K (.v (.string (Utf8.encode n)))
 | _=>False
@[simp] theorem qAX(n:Int):qnq (.v (.int k n)) K=K (.v (.string (Utf8.encode n))):=i' rfl
def qdr(o:Option Bool)(K:D->Prop):Prop:=match o with|some t=>K (.v (.bool t))|none=>False
@[simp] theorem qsj(t:Bool)(K:D->Prop):qdr (some t) K=K (.v (.bool t)):=i' rfl
def qhi(op:BinOp)(d e:D)(K:D->Prop):Prop:=match d,e with
 | .v (.int k a), .v (.int k' b)=>k=k'/\qdr (Xa op a b) K
 | .v (.string a), .v (.string b)=>qdr (qa1 op a b) K
 | _,_=>False
@[simp] theorem qsi(op:BinOp)(k k':IntKind)(a b:Int)(K:D->Prop):qhi op (.v (.int k a)) (.v (.int k' b)) K=(k=k'/\qdr (Xa op a b) K):=i' rfl
@[simp] theorem qCZ(a b:ByteArray):qhi op (.v (.string a)) (.v (.string b)) K=qdr (qa1 op a b) K:=i' rfl
@[simp] theorem qlx(a b:Int):Xa .lss a b=some (decide (a<b)):=i' rfl
@[simp] theorem qwh(b:Int):Xa .leq a b=some (decide (a<=b)):=i' rfl
@[simp] theorem qwi(b:Int):Xa .gtr a b=some (decide (b<a)):=i' rfl
@[simp] theorem qwj(b:Int):Xa .geq a b=some (decide (b<=a)):=i' rfl
@[simp] theorem qwe(a b:ByteArray):qa1 .lss a b=some (Op.bytesLess a.toList b.toList):=i' rfl
@[simp] theorem qwf(a b:ByteArray):qa1 .gtr a b=some (!(Op.bytesLess a.toList b.toList||a.toList==b.toList)):=i' rfl
@[simp] theorem qwg(a b:ByteArray):qa1 .geq a b=some (!Op.bytesLess a.toList b.toList):=i' rfl
def qg9(neg:Bool)(o:Option Bool)(K:D->Prop):Prop:=match o with
 |some p=>K (.v (.bool (if neg then !p else p)))
 |none=>False
@[simp] theorem qCC(p:Bool):qg9 false (some p) K=K (.v (.bool p)):=i' rfl
@[simp] theorem qCB(p:Bool):qg9 true (some p) K=K (.v (.bool (!p))):=i' rfl
@[simp] theorem qEP(k:qbE)(a b:D):qkY false [k] a b=qaE k a b:=i' rfl
@[simp] theorem qEO(a b:List D):qkY true ks (.agg a) (.agg b)=qdk ks a b:=i' rfl
@[simp] theorem qEN:qdk [] [] []=some true:=i' rfl
@[simp] theorem qEM(k:qbE)(a b:D)(as u:List D):qdk (k::ks) (a::as) (b::u)=(qaE k a b).bind λp=>(qdk ks as u).bind λq=>some (p && q):=i' rfl
@[simp] theorem qER(b:Int):qaE .int (.v (.int k a)) (.v (.int k' b))=if k=k' then some (decide (a=b))else none:=i' rfl
@[simp] theorem qEQ(a b:ByteArray):qaE .str (.v (.string a)) (.v (.string b))=some (decide (a=b)):=i' rfl
@[simp] theorem qES(a b:Bool):qaE .bool (.v (.bool a)) (.v (.bool b))=some (decide (a=b)):=i' rfl
def qjQ(d:D)(K:D->Prop):Prop:=match d with
 | .v (.bool b)=>K (.v (.bool (!b)))
 | _=>False
@[simp] theorem qBg(b:Bool):qjQ (.v (.bool b)) K=K (.v (.bool (!b))):=i' rfl
def qfj(k:IntKind)(d:D)(K:D->Prop):Prop:=match d with
 | .v (.int _ n)=>K (.v (.int k (k.wrap n)))
 | _=>False
@[simp] theorem qzC(n:Int):qfj k (.v (.int k' n)) K=K (.v (.int k (k.wrap n))):=i' rfl
def qcm(n id:Nat)(x:Value)(lo hi:Option (Option (IntKind×Int)))(r:Option Res)(K:D->Prop):Prop:=match r with
 |some (.row x' _ n' es)=>x'=x/\n'=n/\lX lo hi es.length λl h=>K (.sub id x n l h)
 | _=>False
@[simp] theorem quh(lo hi:Option (Option (IntKind×Int))):qcm n i x lo hi (some (.row x' el n' es)) K=(x'=x/\n'=n/\lX lo hi es.length λl h=>K (.sub i x n l h)):=i' rfl
@[simp] theorem qCV(K:Nat->Nat->Prop):lX (some (some (k,l))) none len K=(0<=l/\l<=len/\K l.toNat len):=i' rfl
@[simp] theorem qCU(K:Nat->Nat->Prop):lX none (some (some (k,h))) len K=(0<=h/\h<=len/\K 0 h.toNat):=i' rfl
def OC(n:Nat)(d:D)(lo hi:Option (Option (IntKind×Int)))(H:ab)(K:D->Prop):Prop:=match d with
 | .list n' es=>n'=n/\(match lo,hi with
   |none,none=>K (.list n es)
   |some (some (_,l)),none=>0<=l/\l<=es.length/\K (.list n (es.drop l.toNat))
   |none,some (some (_,h))=>0<=h/\h<=es.length/\K (.list n (es.take h.toNat))
   |some (some (_,l)),some (some (_,h))=>0<=l/\l<=h/\h<=es.length/\K (.list n ((es.take h.toNat).drop l.toNat))
   | _,_=>False)
 | .own id x=>qcm n id x lo hi (H id) K
 | .sub id x n' a b=>n'=n/\lX lo hi (b -a) λl h=>K (.sub id x n (a+l) (a+h))
 | .v (.slice none 0 0)=>lX lo hi 0 λ_ _=>K (.v (.slice none 0 0))
 | _=>False
@[simp] theorem qug(lo hi:Option (Option (IntKind×Int))):OC n (.own i x) lo hi H K=qcm n i x lo hi (H i) K:=i' rfl
@[simp] theorem qs7:OC n (.list n' es) (some (some (k,l))) none H K=(n'=n/\0<=l/\l<=es.length/\K (.list n (es.drop l.toNat))):=i' rfl
@[simp] theorem qs6:OC n (.list n' es) none (some (some (k,l))) H K=(n'=n/\0<=l/\l<=es.length/\K (.list n (es.take l.toNat))):=i' rfl
def Nw(d:D)(lo hi:Option (Option (IntKind×Int)))(K:D->Prop):Prop:=match d with
 | .v (.string s)=>(match lo,hi with
   |none,none=>K (.v (.string (s.extract 0 s.size)))
   |some (some (_,l)),none=>0<=l/\l<=s.size/\K (.v (.string (s.extract l.toNat s.size)))
   |none,some (some (_,h))=>0<=h/\h<=s.size/\K (.v (.string (s.extract 0 h.toNat)))
   |some (some (_,l)),some (some (_,h))=>0<=l/\l<=h/\h<=s.size/\K (.v (.string (s.extract l.toNat h.toNat)))
   | _,_=>False)
 | _=>False
@[simp] theorem qqE:Nw (.v (.string s)) (some (some (k,l))) none K=(0<=l/\l<=s.size/\K (.v (.string (s.extract l.toNat s.size)))):=i' rfl
@[simp] theorem qqF:Nw (.v (.string s)) (some (some (k,l))) (some (some (k',h))) K=(0<=l/\l<=h/\h<=s.size/\K (.v (.string (s.extract l.toNat h.toNat)))):=i' rfl
def Gy(off:Nat)(d:D)(K:D->Prop):Prop:=match d with
 | .cptr cs o=>K (.cptr cs (o+off))
 | .bptr id b o=>K (.bptr id b (o+off))
 | .eptr id x n i o=>K (.eptr id x n i (o+off))
 | _=>False
@[simp] theorem qvO:Gy off (.cptr cs o) K=K (.cptr cs (o+off)):=i' rfl
@[simp] theorem qvP:Gy off (.bptr i b o) K=K (.bptr i b (o+off)):=i' rfl
@[simp] theorem qvN(k:Nat):Gy off (.eptr i x n k o) K=K (.eptr i x n k (o+off)):=i' rfl
def PX(n:Nat)(k:Int)(id:Nat)(x:Value)(r:Option Res)(K:D->Prop):Prop:=match r with
 |some (.row x' _ n' es)=>x'=x/\n'=n/\0<=k/\k<es.length/\K (.eptr id x n k.toNat 0)
 | _=>False
def Gw(n:Nat)(i d:D)(H:ab)(K:D->Prop):Prop:=match i with
 | .v (.int _ k)=>match d with
   | .list n' es=>n'=n/\0<=k/\k<es.length/\∀d,es[k.toNat]? =some d->K (.cptr d.cells 0)
   | .own id x=>PX n k id x (H id) K
   | .sub id x n' lo hi=>n'=n/\0<=k/\k<(hi -lo:Nat)/\K (.eptr id x n (lo+k.toNat) 0)
   | _=>False
 | _=>False
@[simp] theorem qvs(k:Int):Gw n (.v (.int kd k)) (.sub i x n' lo hi) H K=(n'=n/\0<=k/\k<(hi -lo:Nat)/\K (.eptr i x n (lo+k.toNat) 0)):=i' rfl
@[simp] theorem qvu(k:Int):Gw n (.v (.int kd k)) (.list n' es) H K=(n'=n/\0<=k/\k<es.length/\∀d,es[k.toNat]? =some d->K (.cptr d.cells 0)):=i' rfl
@[simp] theorem qvt(k:Int):Gw n (.v (.int kd k)) (.own i x) H K=PX n k i x (H i) K:=i' rfl
@[simp] theorem qvv(k:Int):PX n k i x (some (.row x' el n' es)) K=(x'=x/\n'=n/\0<=k/\k<es.length/\K (.eptr i x n k.toNat 0)):=i' rfl
def qd1(i d:D)(K:D->Prop):Prop:=match i with
 | .v (.int _ k)=>match d with
   | .v (.string s)=>0<=k/\k<s.size/\∀c,s.data[k.toNat]? =some c->K (.v (.int .u8 c.toNat))
   | _=>False
 | _=>False
@[simp] theorem qxJ(k:Int):qd1 (.v (.int kd k)) (.v (.string s)) K=(0<=k/\k<s.size/\∀c,s.data[k.toNat]? =some c->K (.v (.int .u8 c.toNat))):=i' rfl
def qkW(o:Option D)(K:D->Prop):Prop:=match o with
 |some d=>K d
 |none=>False
def qkV(d:D)(i:Nat)(K:D->Prop):Prop:=match d with
 | .tup ds=>qkW ds[i]? K
 | _=>False
@[simp] theorem qCw:qkV (.tup ds) i K=qkW ds[i]? K:=i' rfl
@[simp] theorem qCx:qkW (some d) K=K d:=i' rfl
def qkb(x:Value)(r:Option Res)(K:D->Prop):Prop:=match r with
 |some (.row x' _ _ es)=>x'=x/\((es.length:Int)<=9223372036854775807->K (.v (.int .i64 es.length)))
 | _=>False
def Wo(d:D)(H:ab)(K:D->Prop):Prop:=match d with
 | .list _ es=>(es.length:Int)<=9223372036854775807->K (.v (.int .i64 es.length))
 | .own id x=>qkb x (H id) K
 | .v (.slice _ n _)=>K (.v (.int .i64 n))
 | .sub _ _ _ lo hi=>((hi -lo:Nat):Int)<=9223372036854775807->K (.v (.int .i64 (hi -lo:Nat)))
 | _=>False
@[simp] theorem qBH:Wo (.sub i x n lo hi) H K=(((hi -lo:Nat):Int)<=9223372036854775807->K (.v (.int .i64 (hi -lo:Nat)))):=i' rfl
@[simp] theorem qBK:Wo (.list n es) H K=((es.length:Int)<=9223372036854775807->K (.v (.int .i64 es.length))):=i' rfl
@[simp] theorem qBI:Wo (.own i x) H K=qkb x (H i) K:=i' rfl
@[simp] theorem qyz(a:Option Addr)(c:Nat):Wo (.v (.slice a n c)) H K=K (.v (.int .i64 n)):=i' rfl
@[simp high] theorem qBJ:Wo (.v (.slice none 0 0)) H K=K (.v (.int .i64 0)):=i' rfl
@[simp] theorem qBL:qkb x (some (.row x' el n es)) K=(x'=x/\((es.length:Int)<=9223372036854775807->K (.v (.int .i64 es.length)))):=i' rfl
def qlF(x:Value)(r:Option Res)(K:D->Prop):Prop:=match r with
 |some (.row x' _ n es)=>x'=x/\n=1/\qpX es=true/\K (.v (.string (qsm es)))
 | _=>False
@[simp] theorem qDr:qlF x (some (.row x' el n es)) K=(x'=x/\n=1/\qpX es=true/\K (.v (.string (qsm es)))):=i' rfl
def qoY(d:D)(H:ab)(K:D->Prop):Prop:=match d with
 | .own i x=>qlF x (H i) K
 | .v (.slice none 0 0)=>K (.v (.string ⟨#[]⟩))
 | _=>False
@[simp] theorem qDq:qoY (.own i x) H K=qlF x (H i) K:=i' rfl
def Y3(d:D)(K:D->Prop):Prop:=match d with
 | .v (.string s)=>(s.size:Int)<=9223372036854775807->K (.v (.int .i64 s.size))
 | _=>False
@[simp] theorem qxI:Y3 (.v (.string s)) K=((s.size:Int)<=9223372036854775807->K (.v (.int .i64 s.size))):=i' rfl
def qjV(mx:Bool)(d e:D)(K:D->Prop):Prop:=match d,e with
 | .v (.int k a), .v (.int k' b)=>k=k'/\K (.v (.int k (if mx then max a b else min a b)))
 | _,_=>False
@[simp] theorem qBv(b:Int):qjV mx (.v (.int k a)) (.v (.int k' b)) K=(k=k'/\K (.v (.int k (if mx then max a b else min a b)))):=i' rfl
@[simp ↓] theorem qtz(K:List D->Prop):kE σ [] cs K=K cs:=i' rfl
@[simp ↓] theorem qsn(x:Operand)(r:List (Nat×Nat×Operand))(K:List D->Prop):kE σ ((off,sz,x)::r) cs K=((ev σ x).kn=true/\(ev σ x).cells.length=sz/\kE σ r (setAt cs off (ev σ x).cells) K):=i' rfl
@[simp] theorem qtb:km n []=True:=i' rfl
@[simp] theorem qq7(r:List D):km n (d::r)=(d.kn=true/\d.cells.length=n/\km n r):=i' rfl
def qng(n:Nat)(x:Value)(r:Option Res)(K:List D->Prop):Prop:=match r with
 |some (.row x' _ n' es)=>x'=x/\n'=n/\K es
 | _=>False
def qf1(n lo hi:Nat)(x:Value)(r:Option Res)(K:List D->Prop):Prop:=match r with
 |some (.row x' _ n'' es)=>x'=x/\n''=n/\K ((es.take hi).drop lo)
 | _=>False
@[simp] theorem qAI(K:List D->Prop):qf1 n lo hi x (some (.row x' el n' es)) K=(x'=x/\n'=n/\K ((es.take hi).drop lo)):=i' rfl
@[simp] theorem qD5(K:List D->Prop):mQ n (.sub i x n' lo hi) H K=(n'=n/\qf1 n lo hi x (H i) K):=by
 simp only[mQ];cases H i with
 |none=>simp[qf1]
 |some r=>cases r<;>simp[qf1,and_left_comm]
@[simp] theorem qAL(K:List D->Prop):uP n (.list n' es) H K=(n'=n/\K es):=i' rfl
@[simp] theorem qAK(K:List D->Prop):uP n (.own i x) H K=qng n x (H i) K:=i' rfl
@[simp] theorem qAM(K:List D->Prop):uP n (.v (.string s)) H K=(n=1/\K (HV s)):=i' rfl
@[simp] theorem qAJ(K:List D->Prop):qng n x (some (.row x' el n' es)) K=(x'=x/\n'=n/\K es):=i' rfl
def qBw(t el n bytes:Nat)(agg:Bool)(z:List Value)(l c:Option (IntKind×Int))(H:ab)(K:D->ab->Prop):Prop:=match l,c with
 |some (_,l),some (_,c)=>0<=l/\l<=c/\bytes*c<=140737488355328/\c<=140737488355328/\∀x,K (.own t x) (aj H t (some (.row x el n (List.replicate l.toNat (if agg then .agg (z.map rk)else rk (z.headD (.bool false)))))))
 | _,_=>False
@[simp] theorem qEt(c:Int)(K:D->ab->Prop):qBw t el n bytes agg z (some (k,l)) (some (k',c)) H K=(0<=l/\l<=c/\bytes*c<=140737488355328/\c<=140737488355328/\∀x,K (.own t x) (aj H t (some (.row x el n (List.replicate l.toNat (if agg then .agg (z.map rk)else rk (z.headD (.bool false)))))))):=i' rfl
def FT(sz id b off:Nat)(y:D)(r:Option Res)(H:ab)(K:D->ab->Prop):Prop:=match r with
 |some (.box b' cells)=>b'=b/\off+sz<=cells.length/\K .undef (aj H id (some (.box b' (setAt cells off y.cells))))
 | _=>False
def FS(sz id:Nat)(x:Value)(n i off:Nat)(y:D)(r:Option Res)(H:ab)(K:D->ab->Prop):Prop:=match r with
 | some (.row x' el n' es)=>x'=x/\n'=n/\0<n/\off+sz<=n/\i<es.length/\∀d,es[i]? =some d->
    K .undef (aj H id (some (.row x' el n' (es.set i (if off=0/\sz=n then y else .agg (setAt d.cells off y.cells))))))
 | _=>False
def Oz(sz:Nat)(d y:D)(H:ab)(K:D->ab->Prop):Prop:=match d with
 | .bptr id b off=>FT sz id b off y (H id) H K
 | .eptr id x n i off=>FS sz id x n i off y (H id) H K
 | _=>False
@[simp] theorem qt8(y:D)(K:D->ab->Prop):Oz sz (.bptr i b off) y H K=FT sz i b off y (H i) H K:=i' rfl
@[simp] theorem qt7(k:Nat)(y:D)(K:D->ab->Prop):Oz sz (.eptr i x n k off) y H K=FS sz i x n k off y (H i) H K:=i' rfl
@[simp] theorem qua(y:D)(K:D->ab->Prop):FT sz i b off y (some (.box b' cells)) H K=(b'=b/\off+sz<=cells.length/\K .undef (aj H i (some (.box b' (setAt cells off y.cells))))):=i' rfl
@[simp] theorem qt9(k:Nat)(y:D)(K:D->ab->Prop):FS sz i x n k off y (some (.row x' el n' es)) H K=(x'=x/\n'=n/\0<n/\off+sz<=n/\k<es.length/\∀d,es[k]? =some d->
 K .undef (aj H i (some (.row x' el n' (es.set k (if off=0/\sz=n then y else .agg (setAt d.cells off y.cells))))))):=i' rfl
def qlS(el n bytes id:Nat)(x:Value)(es2:List D)(r:Option Res)(H:ab)(K:D->ab->Prop):Prop:=match r with
 |some (.row x' el' n' es)=>x'=x/\el'=el/\n'=n/\(es.length+es2.length) *bytes<=140737488355328/\es.length+es2.length<=140737488355328/\∀v,K (.own id v) (aj H id (some (.row v el n (es++es2))))
 | _=>False
def qDD(el n bytes id:Nat)(x:Value)(n' lo hi:Nat)(es2:List D)(r:Option Res)(H:ab)(K:D->ab->Prop):Prop:=match r with
 |some (.row x' el' n'' es)=>x'=x/\el'=el/\n'=n/\n''=n/\lo=0/\(hi+es2.length) *bytes<=140737488355328/\hi+es2.length<=140737488355328/\∀v,K (.own id v) (aj H id (some (.row v el n (es.take hi++es2))))
 | _=>False
def qC2(n id:Nat)(x:Value)(z:D)(r:Option Res)(H:ab)(K:D->ab->Prop):Prop:=match r with
 |some (.row x' el n' es)=>x'=x/\n'=n/\K (.tup []) (aj H id (some (.row x' el n' (List.replicate es.length z))))
 | _=>False
def qlz(n id:Nat)(x:Value)(n' lo hi:Nat)(z:D)(r:Option Res)(H:ab)(K:D->ab->Prop):Prop:=match r with
 |some (.row x' el n'' es)=>x'=x/\n'=n/\n''=n/\K (.tup []) (aj H id (some (.row x' el n'' (es.take lo++List.replicate (hi -lo) z++es.drop hi))))
 | _=>False
def qoR(n:Nat)(z d:D)(H:ab)(K:D->ab->Prop):Prop:=match d with
 | .own id x=>qC2 n id x z (H id) H K
 | .sub id x n' lo hi=>qlz n id x n' lo hi z (H id) H K
 | .v (.slice none 0 0)=>K (.tup []) H
 | _=>False
@[simp] theorem qC0(z:D)(K:D->ab->Prop):qoR n z (.sub i x n' lo hi) H K=qlz n i x n' lo hi z (H i) H K:=i' rfl
@[simp] theorem qC1(z:D)(K:D->ab->Prop):qlz n i x n' lo hi z (some (.row x' el n'' es)) H K=(x'=x/\n'=n/\n''=n/\K (.tup []) (aj H i (some (.row x' el n'' (es.take lo++List.replicate (hi -lo) z++es.drop hi))))):=i' rfl
def qCY(n id:Nat)(x:Value)(src:List D)(r:Option Res)(H:ab)(K:D->ab->Prop):Prop:=match r with
 |some (.row x' el n' es)=>x'=x/\n'=n/\K (.v (.int .i64 (min src.length es.length:Nat))) (aj H id (some (.row x' el n' (src.take es.length++es.drop src.length))))
 | _=>False
def qln(n id:Nat)(x:Value)(n' lo hi:Nat)(src:List D)(r:Option Res)(H:ab)(K:D->ab->Prop):Prop:=match r with
 |some (.row x' el n'' es)=>x'=x/\n'=n/\n''=n/\K (.v (.int .i64 (min src.length (hi -lo):Nat))) (aj H id (some (.row x' el n'' (es.take lo++src.take (hi -lo) ++es.drop (lo+min src.length (hi -lo))))))
 | _=>False
def qoN(n:Nat)(d:D)(src:List D)(H:ab)(K:D->ab->Prop):Prop:=match d with
 | .own id x=>qCY n id x src (H id) H K
 | .sub id x n' lo hi=>qln n id x n' lo hi src (H id) H K
 | _=>False
@[simp] theorem qCW(K:D->ab->Prop):qoN n (.sub i x n' lo hi) src H K=qln n i x n' lo hi src (H i) H K:=i' rfl
@[simp] theorem qCX(K:D->ab->Prop):qln n i x n' lo hi src (some (.row x' el n'' es)) H K=(x'=x/\n'=n/\n''=n/\K (.v (.int .i64 (min src.length (hi -lo):Nat))) (aj H i (some (.row x' el n'' (es.take lo++src.take (hi -lo) ++es.drop (lo+min src.length (hi -lo))))))):=i' rfl
@[simp] theorem qDU:XA true z= .agg (z.map rk):=i' rfl
@[simp] theorem qDV:XA false z=rk (z.headD (.bool false)):=i' rfl
def qkF(t:Nat)(x:Value)(id:Nat)(σ:Sg)(r:Option Res)(H:ab)(K:Sg->ab->Prop):Prop:=match r with
 |some (.row x' _ n' es)=>x'=x/\K (qg7 id x (.list n' es) σ) (aj H id none)
 | _=>False
def qCr(t b off:Nat)(id:Nat)(σ:Sg)(r:Option Res)(H:ab)(K:Sg->ab->Prop):Prop:=match r with
 |some (.box b' cs)=>b'=b/\K (upd σ t (.cptr cs off)) (aj H id none)
 | _=>False
def qkE(t n:Nat)(x:Value)(id n' lo hi:Nat)(σ:Sg)(r:Option Res)(H:ab)(K:Sg->ab->Prop):Prop:=match r with
 |some (.row x' el n'' es)=>x'=x/\n'=n''/\(if n=0 then lo=0/\∀v,K (upd σ t (.own id v)) (aj H id (some (.row v el n'' (es.take hi))))else K (upd σ t (.list n'' ((es.take hi).drop lo))) (aj H id none))
 | _=>False
def qkD(t n:Nat)(d:D)(σ:Sg)(H:ab)(K:Sg->ab->Prop):Prop:=match d with
 | .own id x=>qkF t x id σ (H id) H K
 | .bptr id b off=>qCr t b off id σ (H id) H K
 | .v (.slice none 0 0)=>K (upd σ t (.list n [])) H
 | .sub id x n' lo hi=>qkE t n x id n' lo hi σ (H id) H K
 | .agg cs=>K4 cs H λcs' H'=>K (upd σ t (.agg cs')) H'
 | _=>K σ H
@[simp ↓] theorem qFS(K:Sg->ab->Prop):Md t n σ H K=qkD t n (σ t) σ H K:=i' rfl
@[simp] theorem qCh(K:Sg->ab->Prop):qkD t n (.own i x) σ H K=qkF t x i σ (H i) H K:=i' rfl
@[simp] theorem qCg(K:Sg->ab->Prop):qkD t n (.sub i x n' lo hi) σ H K=qkE t n x i n' lo hi σ (H i) H K:=i' rfl
@[simp] theorem qCj(K:Sg->ab->Prop):qkF t x i σ (some (.row x' el n' es)) H K=(x'=x/\K (qg7 i x (.list n' es) σ) (aj H i none)):=i' rfl
@[simp] theorem qCl(y:Value):Ne id x L (.own i y)=open Classical in (if i=id/\y=x then L else .own i y):=i' rfl
@[simp] theorem qCq:Ne id x L (.any)= .any:=i' rfl
@[simp] theorem qCn:Ne id x L (.agg cs)= .agg cs:=i' rfl
@[simp] theorem qCm:Ne id x L (.list n es)= .list n es:=i' rfl
@[simp] theorem qCo:Ne id x L (.cptr cs o)= .cptr cs o:=i' rfl
@[simp] theorem qCp:Ne id x L (.bptr i b o)= .bptr i b o:=i' rfl
@[simp] theorem qCk(T:List Int):Ne id x L (.tape T)= .tape T:=i' rfl
@[simp] theorem qCi(K:Sg->ab->Prop):qkE t n x i n' lo hi σ (some (.row x' el n'' es)) H K=(x'=x/\n'=n''/\(if n=0 then lo=0/\∀v,K (upd σ t (.own i v)) (aj H i (some (.row v el n'' (es.take hi))))else K (upd σ t (.list n'' ((es.take hi).drop lo))) (aj H i none))):=i' rfl
def qnn(d:D)(K:D->Prop):Prop:=match d with
 | .v (.string s)=>K (.list 1 (s.data.toList.map λc=> .v (.int .u8 c.toNat)))
 | _=>False
@[simp] theorem qAS:qnn (.v (.string s)) K=K (.list 1 (s.data.toList.map λc=> .v (.int .u8 c.toNat))):=i' rfl
def qio(t:Nat)(d:D)(H:ab)(K:D->ab->Prop):Prop:=match d with
 | .v (.string s)=>∀b,K (.bptr t b 0) (aj H t (some (.iter b s 0)))
 | _=>False
@[simp] theorem qAH(K:D->ab->Prop):qio t (.v (.string s)) H K=∀b,K (.bptr t b 0) (aj H t (some (.iter b s 0))):=i' rfl
def qit(id b:Nat)(r:Option Res)(H:ab)(K:D->ab->Prop):Prop:=match r with
 |some (.iter b' s pos)=>b'=b/\(pos<s.size->K (.tup [.v (.bool true), .v (.int .i64 pos), .v (.int .i32 (Utf8.decode s pos).1)]) (aj H id (some (.iter b' s (pos+ (Utf8.decode s pos).2)))))/\(¬pos<s.size->K (.tup [.v (.bool false)]) H)
 | _=>False
@[simp] theorem qAO(pos:Nat)(K:D->ab->Prop):qit id b (some (.iter b' s pos)) H K=(b'=b/\(pos<s.size->K (.tup [.v (.bool true), .v (.int .i64 pos), .v (.int .i32 (Utf8.decode s pos).1)]) (aj H id (some (.iter b' s (pos+ (Utf8.decode s pos).2)))))/\(¬pos<s.size->K (.tup [.v (.bool false)]) H)):=i' rfl
def qnj(d:D)(H:ab)(K:D->ab->Prop):Prop:=match d with
 | .bptr id b off=>off=0/\qit id b (H id) H K
 | _=>False
@[simp] theorem qAN(K:D->ab->Prop):qnj (.bptr i b off) H K=(off=0/\qit i b (H i) H K):=i' rfl
def qo7(dst:Option Nat)(el n b:Nat)(d:D)(es2:List D)(H:ab)(K:D->ab->Prop):Prop:=match dst,d with
 |some t, .v (.slice none 0 0)=>es2.length*b<=140737488355328/\es2.length<=140737488355328/\∀v,K (.own t v) (aj H t (some (.row v el n es2)))
 | _,_=>False
@[simp] theorem qDG(K:D->ab->Prop):qo7 (some t) el n b (.v (.slice none 0 0)) es2 H K=(es2.length*b<=140737488355328/\es2.length<=140737488355328/\∀v,K (.own t v) (aj H t (some (.row v el n es2)))):=i' rfl
def qlP(el n b r:Nat)(x:Value)(es2:List D)(q:Option Res)(H:ab)(K:D->ab->Prop):Prop:=match q with
 |some (.row x' el' n' es)=>x'=x/\el'=el/\n'=n/\(es.length+es2.length) *b<=140737488355328/\es.length+es2.length<=140737488355328/\∀v,K (.own r v) (aj H r (some (.row v el n (es++es2))))
 | _=>False
@[simp] theorem qDA(r:Nat)(K:D->ab->Prop):qlP el n b r x es2 (some (.row x' el' n' es)) H K=(x'=x/\el'=el/\n'=n/\(es.length+es2.length) *b<=140737488355328/\es.length+es2.length<=140737488355328/\∀v,K (.own r v) (aj H r (some (.row v el n (es++es2))))):=i' rfl
def qo6(r el n b:Nat)(d:D)(es2:List D)(H:ab)(K:D->ab->Prop):Prop:=match d with
 | .own id x=>id=r/\qlP el n b r x es2 (H r) H K
 | _=>False
@[simp] theorem qDz(r:Nat)(K:D->ab->Prop):qo6 r el n b (.own i x) es2 H K=(i=r/\qlP el n b r x es2 (H r) H K):=i' rfl
def YX(r sz:Nat)(d y:D)(H:ab)(K:D->ab->Prop):Prop:=match d with
 | .bptr id b off=>id=r/\FT sz r b off y (H r) H K
 | .eptr id x n i off=>id=r/\FS sz r x n i off y (H r) H K
 | _=>False
@[simp] theorem qxz(r:Nat)(y:D)(K:D->ab->Prop):YX r sz (.bptr i b off) y H K=(i=r/\FT sz r b off y (H r) H K):=i' rfl
@[simp] theorem qxy(r:Nat)(k:Nat)(y:D)(K:D->ab->Prop):YX r sz (.eptr i x n k off) y H K=(i=r/\FS sz r x n k off y (H r) H K):=i' rfl
def qDF(dst:Option Nat)(el n bytes:Nat)(es2:List D)(H:ab)(K:D->ab->Prop):Prop:=match dst with
 |some t=>es2.length*bytes<=140737488355328/\es2.length<=140737488355328/\∀v,K (.own t v) (aj H t (some (.row v el n es2)))
 |none=>False
def qlQ(dst:Option Nat)(el n bytes:Nat)(d:D)(es2:List D)(H:ab)(K:D->ab->Prop):Prop:=match d with
 | .own id x=>qlS el n bytes id x es2 (H id) H K
 | .v (.slice none 0 0)=>qDF dst el n bytes es2 H K
 | .sub id x n' lo hi=>qDD el n bytes id x n' lo hi es2 (H id) H K
 | _=>False
@[simp] theorem qDB(K:D->ab->Prop):qlQ dst el n bytes (.own i x) es2 H K=qlS el n bytes i x es2 (H i) H K:=i' rfl
@[simp] theorem qDC(K:D->ab->Prop):qlQ (some t) el n bytes (.v (.slice none 0 0)) es2 H K=(es2.length*bytes<=140737488355328/\es2.length<=140737488355328/\∀v,K (.own t v) (aj H t (some (.row v el n es2)))):=i' rfl
@[simp] theorem qDE(K:D->ab->Prop):qlS el n bytes i x es2 (some (.row x' el' n' es)) H K=(x'=x/\el'=el/\n'=n/\(es.length+es2.length) *bytes<=140737488355328/\es.length+es2.length<=140737488355328/\∀v,K (.own i v) (aj H i (some (.row v el n (es++es2))))):=i' rfl
def DL(S:Nat->Spc)(f:D)(d:Nat)(args:List D)(H:ab)(K:D->ab->Prop):Prop:=match f with
 | .clo g caps=>(S g).pt d (args++caps) H K
 | _=>False
@[simp] theorem qzJ(d:Nat)(K:D->ab->Prop):DL S (.clo g caps) d args H K=(S g).pt d (args++caps) H K:=i' rfl
@[congr] theorem quw{r:Nat}{s:Spc}{K:D->ab->Prop}(hs:s=s₁)(q:args=args₁):Ta r dst s args H K=Ta r dst s₁ args₁ H K:=by subst hs;subst q;rfl
@[congr] theorem qx4{s:Spc}{K:D->ab->Prop}(hs:s=s₁)(q:args=args₁):qgi dst s args H K=qgi dst s₁ args₁ H K:=by subst hs;subst q;rfl
section
variable {S:Nat->Spc}{σ:Sg}{H Hr:ab}{K:D->ab->Prop}
@[simp ↓] theorem qC8(dst:Option Nat)(x:Operand):aI S (.mv x) dst σ H K=((λd=>K d H) (ev σ x)):=i' rfl
@[simp ↓] theorem qFk(x:Operand):aw S (.mv x) dst σ Hr H K=((λd=>K d H) (ev σ x)):=i' rfl
@[simp ↓] theorem qC7(x:Operand):aI S (.pick c x y) dst σ H K=(L2 (ev σ c) ((λd=>K d H) (ev σ x)) ((λd=>K d H) (ev σ y))):=i' rfl
@[simp ↓] theorem qA6(x:Operand):aw S (.pick c x y) dst σ Hr H K=(L2 (ev σ c) ((λd=>K d H) (ev σ x)) ((λd=>K d H) (ev σ y))):=i' rfl
@[simp ↓] theorem qzT(ps:List (Nat×Nat×Operand)):aI S (.build z ps) dst σ H K=(kE σ ps (z.map rk) λcs=>(λd=>K d H) (.agg cs)):=i' rfl
@[simp ↓] theorem qx0(ps:List (Nat×Nat×Operand)):aw S (.build z ps) dst σ Hr H K=(kE σ ps (z.map rk) λcs=>(λd=>K d H) (.agg cs)):=i' rfl
@[simp ↓] theorem qwt:aI S (.bslice el n ps) dst σ H K=(km n (ps.map (ev σ))/\(λd=>K d H) (.list n (ps.map (ev σ)))):=i' rfl
@[simp ↓] theorem quu:aw S (.bslice el n ps) dst σ Hr H K=(km n (ps.map (ev σ))/\(λd=>K d H) (.list n (ps.map (ev σ)))):=i' rfl
@[simp ↓] theorem qDc(x:Operand):aI S (.load agg sz x) dst σ H K=(L8 agg sz (ev σ x) H (λd=>K d H)):=i' rfl
@[simp ↓] theorem qA7(x:Operand):aw S (.load agg sz x) dst σ Hr H K=(L8 agg sz (ev σ x) Hr (λd=>K d H)):=i' rfl
@[simp ↓] theorem qzN(x:Operand):aI S (.nilck x) dst σ H K=(qgB (ev σ x) (λd=>K d H)):=i' rfl
@[simp ↓] theorem qxW(x:Operand):aw S (.nilck x) dst σ Hr H K=(qgB (ev σ x) (λd=>K d H)):=i' rfl
@[simp ↓] theorem qoU(dst:Option Nat)(op:BinOp)(x y:Operand):aI S (.arith op x y) dst σ H K=(QG op (ev σ x) (ev σ y) (λd=>K d H)):=i' rfl
@[simp ↓] theorem qx1(x:Operand):aw S (.arith op x y) dst σ Hr H K=(QG op (ev σ x) (ev σ y) (λd=>K d H)):=i' rfl
@[simp ↓] theorem qws(dst:Option Nat)(op:BinOp)(x y:Operand):aI S (.cmp op x y) dst σ H K=(qhi op (ev σ x) (ev σ y) (λd=>K d H)):=i' rfl
@[simp ↓] theorem qEi(x:Operand):aw S (.cmp op x y) dst σ Hr H K=(qhi op (ev σ x) (ev σ y) (λd=>K d H)):=i' rfl
@[simp ↓] theorem qEZ(x:Operand):aI S (.eql neg agg ks x y) dst σ H K=(qg9 neg (qkY agg ks (ev σ x) (ev σ y)) (λd=>K d H)):=i' rfl
@[simp ↓] theorem qEh(x:Operand):aw S (.eql neg agg ks x y) dst σ Hr H K=(qg9 neg (qkY agg ks (ev σ x) (ev σ y)) (λd=>K d H)):=i' rfl
@[simp ↓] theorem qEU(x:Operand):aI S (.not x) dst σ H K=(qjQ (ev σ x) (λd=>K d H)):=i' rfl
@[simp ↓] theorem qEc(x:Operand):aw S (.not x) dst σ Hr H K=(qjQ (ev σ x) (λd=>K d H)):=i' rfl
@[simp ↓] theorem qDe(x:Operand):aI S (.conv k x) dst σ H K=(qfj k (ev σ x) (λd=>K d H)):=i' rfl
@[simp ↓] theorem qE0:aI S (.clo f xs) dst σ H K=((λd=>K d H) (.clo f (xs.map (ev σ)))):=i' rfl
@[simp ↓] theorem qzM(x:Operand)(lo hi:Option Operand):aI S (.slice n x lo hi) dst σ H K=(OC n (ev σ x) (lo.map λo=>mM (ev σ o)) (hi.map λo=>mM (ev σ o)) H (λd=>K d H)):=i' rfl
@[simp ↓] theorem qxV(x:Operand)(lo hi:Option Operand):aw S (.slice n x lo hi) dst σ Hr H K=(OC n (ev σ x) (lo.map λo=>mM (ev σ o)) (hi.map λo=>mM (ev σ o)) Hr (λd=>K d H)):=i' rfl
@[simp ↓] theorem qwn(x:Operand)(lo hi:Option Operand):aI S (.sslice x lo hi) dst σ H K=(Nw (ev σ x) (lo.map λo=>mM (ev σ o)) (hi.map λo=>mM (ev σ o)) (λd=>K d H)):=i' rfl
@[simp ↓] theorem qus(x:Operand)(lo hi:Option Operand):aw S (.sslice x lo hi) dst σ Hr H K=(Nw (ev σ x) (lo.map λo=>mM (ev σ o)) (hi.map λo=>mM (ev σ o)) (λd=>K d H)):=i' rfl
@[simp ↓] theorem qzQ(x:Operand):aI S (.faddr off x) dst σ H K=(Gy off (ev σ x) (λd=>K d H)):=i' rfl
@[simp ↓] theorem qxY(x:Operand):aw S (.faddr off x) dst σ Hr H K=(Gy off (ev σ x) (λd=>K d H)):=i' rfl
@[simp ↓] theorem qzP(x i:Operand):aI S (.iaddr n x i) dst σ H K=(Gw n (ev σ i) (ev σ x) H (λd=>K d H)):=i' rfl
@[simp ↓] theorem qxX(x i:Operand):aw S (.iaddr n x i) dst σ Hr H K=(Gw n (ev σ i) (ev σ x) Hr (λd=>K d H)):=i' rfl
@[simp ↓] theorem qC5(x i:Operand):aI S (.sidx x i) dst σ H K=(qd1 (ev σ i) (ev σ x) (λd=>K d H)):=i' rfl
@[simp ↓] theorem qEY(x:Operand):aI S (.ext x i) dst σ H K=(qkV (ev σ x) i (λd=>K d H)):=i' rfl
@[simp ↓] theorem qEg(x:Operand):aw S (.ext x i) dst σ Hr H K=(qkV (ev σ x) i (λd=>K d H)):=i' rfl
@[simp ↓] theorem qEX(x:Operand):aI S (.len x) dst σ H K=(Wo (ev σ x) H (λd=>K d H)):=i' rfl
@[simp ↓] theorem qEf(x:Operand):aw S (.len x) dst σ Hr H K=(Wo (ev σ x) Hr (λd=>K d H)):=i' rfl
@[simp ↓] theorem qC4(x:Operand):aI S (.slen x) dst σ H K=(Y3 (ev σ x) (λd=>K d H)):=i' rfl
@[simp ↓] theorem qA5(x:Operand):aw S (.slen x) dst σ Hr H K=(Y3 (ev σ x) (λd=>K d H)):=i' rfl
@[simp ↓] theorem qDg(x:Operand):aI S (.bstr x) dst σ H K=(qoY (ev σ x) H (λd=>K d H)):=i' rfl
@[simp ↓] theorem qC6(x:Operand):aI S (.rstr x) dst σ H K=(qnq (ev σ x) (λd=>K d H)):=i' rfl
@[simp ↓] theorem qEW(x:Operand):aI S (.mm mx [x,y]) dst σ H K=qjV mx (ev σ x) (ev σ y) (λd=>K d H):=i' rfl
@[simp ↓] theorem qDh(x:Operand):aI S (.box el true x) dst σ H K=((ev σ x).kn=true/\K (.cptr (ev σ x).cells 0) H):=i' rfl
@[simp ↓] theorem qzU:aI S (.alloc el z) (some t) σ H K=∀b,K (.bptr t b 0) (aj H t (some (.box b (z.map rk)))):=i' rfl
@[simp ↓] theorem qE1(x:Operand):aI S (.box el false x) (some t) σ H K=((ev σ x).kn=true/\∀b,K (.bptr t b 0) (aj H t (some (.box b (ev σ x).cells)))):=i' rfl
@[simp ↓] theorem qwq:aI S (.mslice el n ps) (some t) σ H K=(km n (ps.map (ev σ))/\∀x,K (.own t x) (aj H t (some (.row x el n (ps.map (ev σ)))))):=i' rfl
@[simp ↓] theorem qty(l:Operand):aI S (.mkslice el n bytes agg z l c) (some t) σ H K=qBw t el n bytes agg z (mM (ev σ l)) (mM (ev σ c)) H K:=i' rfl
@[simp ↓] theorem qEe(x:Operand):aw S (.mm mx [x,y]) dst σ Hr H K=qjV mx (ev σ x) (ev σ y) (λd=>K d H):=i' rfl
@[simp ↓] theorem qx2:aw S (.alloc el z) (some t) σ Hr H K=∀b,K (.bptr t b 0) (aj H t (some (.box b (z.map rk)))):=i' rfl
@[simp ↓] theorem qut:aw S (.nslice el n) (some t) σ Hr H K=∀x,K (.own t x) (aj H t (some (.row x el n []))):=i' rfl
@[simp ↓] theorem qs8(l:Operand):aw S (.mkslice el n bytes agg z l c) (some t) σ Hr H K=qBw t el n bytes agg z (mM (ev σ l)) (mM (ev σ c)) H K:=i' rfl
@[simp ↓] theorem qwp(x:Operand):aI S (.sbytes x) dst σ H K=qnn (ev σ x) (λd=>K d H):=i' rfl
@[simp ↓] theorem qwo(x:Operand):aI S (.srange x) (some t) σ H K=qio t (ev σ x) H K:=by
 simp only[aI,bj,qio];split<;>simp_all
@[simp ↓] theorem qzL(x:Operand):aI S (.snext x) dst σ H K=qnj (ev σ x) H K:=i' rfl
@[simp ↓] theorem qxU(r:Nat)(x:Operand):aw S (.store (some r) sz x y) dst σ Hr H K=((ev σ y).kn=true/\(ev σ y).cells.length=sz/\YX r sz (ev σ x) (ev σ y) H K):=by
 simp only[aw];congr 2
@[simp ↓] theorem qzK(x:Operand):aI S (.store rt sz x y) dst σ H K=((ev σ y).kn=true/\(ev σ y).cells.length=sz/\Oz sz (ev σ x) (ev σ y) H K):=i' rfl
@[simp ↓] theorem qwu(x:Operand):aI S (.append rt el n bytes x y) dst σ H K=uP n (ev σ y) H λes2=>qlQ dst el n bytes (ev σ x) es2 H K:=i' rfl
@[simp ↓] theorem qta(x:Operand):aw S (.append none el n bytes x y) dst σ Hr H K=uP n (ev σ y) Hr λes2=>qo7 dst el n bytes (ev σ x) es2 H K:=by
 simp only[aw];congr 1
@[simp ↓] theorem qs9(r:Nat)(x:Operand):aw S (.append (some r) el n bytes x y) dst σ Hr H K=uP n (ev σ y) Hr λes2=>qo6 r el n bytes (ev σ x) es2 H K:=by
 simp only[aw];congr 1
@[simp ↓] theorem qzR(x:Operand):aI S (.clear n agg z x) dst σ H K=qoR n (XA agg z) (ev σ x) H K:=i' rfl
@[simp ↓] theorem qDd(x:Operand):aI S (.copy n x y) dst σ H K=mQ n (ev σ y) H λsrc=>qoN n (ev σ x) src H K:=i' rfl
@[simp ↓] theorem qDf(args:List Operand):aI S (.call f args) dst σ H K=(S f).pt (dst.getD 0) (args.map (ev σ)) H K:=i' rfl
@[simp ↓] theorem qxZ(r:Nat)(args:List Operand):aw S (.callb r f args) dst σ Hr H K=Ta r dst (S f) (args.map (ev σ)) H K:=i' rfl
@[simp ↓] theorem qzS(f:Operand)(args:List Operand):aI S (.callv f args) dst σ H K=DL S (ev σ f) (dst.getD 0) (args.map (ev σ)) H K:=i' rfl
@[simp ↓] theorem qA8(args:List Operand):aw S (.call f args) dst σ Hr H K=qgi dst (S f) (args.map (ev σ)) H K:=i' rfl
end
def qt0(σ:Sg)(t s:Nat)(d:D):upd σ t d s=if s=t then d else σ s:=i' rfl
def qb2(σ:Sg)(t:Nat)(d:D):fK σ (some t) d=upd σ t d:=i' rfl
def qqr(σ:Sg)(d:D):fK σ none d=σ:=i' rfl
def qqs(H:ab)(t s:Nat)(d:Option Res):aj H t d s=if s=t then d else H s:=i' rfl
attribute [simp] qb2 qqr qqs
@[simp] theorem qh1(σ:Sg)(t:Nat):ev σ (.tmp t)=σ t:=i' rfl
@[simp] theorem qm6(σ:Sg)(x:Value):ev σ (.const x)=rk x:=i' rfl
@[simp] theorem qAC:ev σ (.func f)= .clo f []:=i' rfl
@[simp] theorem qAD(b:Bool):rk (.bool b)= .v (.bool b):=i' rfl
@[simp] theorem qtY(k:IntKind)(n:Int):rk (.int k n)= .v (.int k n):=i' rfl
@[simp] theorem qDX:rk (.string s)= .v (.string s):=i' rfl
@[simp] theorem qDY(a:Option Addr):rk (.pointer a)= .v (.pointer a):=i' rfl
@[simp] theorem qxs(a:Option Addr)(l c:Nat):rk (.slice a l c)= .v (.slice a l c):=i' rfl
def qrx(t:Nat)(l:List Nat)(σ:Sg):jr (t::l) σ=upd (jr l σ) t (σ t):=i' rfl
@[simp] theorem qBT:js [] H=λ_=>none:=i' rfl
@[simp] theorem qn5(t:Nat)(l:List Nat)(H:ab):js (t::l) H=aj (js l H) t (H t):=i' rfl
@[simp] theorem qBi:dm i=none:=i' rfl
@[simp] theorem qBF:nS [] σ=True:=i' rfl
@[simp] theorem qyr(l:List (Nat×D)):nS ((t,d)::l) σ=(qbt (σ t) d/\nS l σ):=i' rfl
@[simp] theorem qBu:uf [] H=True:=i' rfl
@[simp] theorem qyh(d:Res)(l:List (Nat×Res)):uf ((t,d)::l) H=((H t=some d\/isNilRow d)/\uf l H):=i' rfl
@[simp] theorem sub_self(d:D):qbt d d=True:=by
 cases d<;>simp[qbt]
@[simp] theorem qD4(a:D):qbt a (.v x)=(a= .v x):=i' rfl
@[simp] theorem qt5(a:D)(x:List D):qbt a (.list n x)=(a= .list n x\/(a= .v (.slice none 0 0)/\x=[])):=i' rfl
@[simp] theorem qxx(a:D):qbt a .any=True:=i' rfl
@[simp] theorem qxw(y:Value):qbt (.own i x) (.own j y)=(x=y):=by simp[qbt]
@[simp] theorem qt4(y:Value):qbt (.v x) (.own j y)=(x=y):=by simp[qbt]
@[simp] theorem qFv:Nb true sz cs off= .agg ((cs.drop off).take sz):=i' rfl
@[simp] theorem qFw:Nb false sz cs off=(cs[off]?).getD .any:=i' rfl
@[simp ↓] theorem qxR(rs:List ai)(K:D->ab->Prop):wC rs K .norm σ H=zi rs σ H λds=>K (dP ds) H:=i' rfl
@[simp ↓] theorem qA3(rs:List ai)(K:D->ab->Prop):wC rs K .ret σ H=zi rs σ H λds=>K (dP ds) H:=i' rfl
@[simp ↓] theorem qA2(K:List D->Prop):zi [] σ H K=K []:=i' rfl
@[simp ↓] theorem qA1(r:List ai)(K:List D->Prop):zi (.tmp t::r) σ H K=zi r σ H λds=>K (σ t::ds):=i' rfl
@[simp ↓] theorem qxQ(r:List ai)(K:List D->Prop):zi (.cell t agg sz::r) σ H K=L8 agg sz (σ t) H λd=>zi r σ H λds=>K (d::ds):=i' rfl
@[simp] theorem qFn:dP [d]=d:=i' rfl
@[simp] theorem qFo:dP []= .tup []:=i' rfl
@[simp] theorem qFm(l:List D):dP (d::e::l)= .tup (d::e::l):=i' rfl
@[simp] theorem qFy:D.kn (.v x)=true:=i' rfl
@[simp] theorem qzH:D.cells (.v x)=[.v x]:=i' rfl
@[simp] theorem qBS:D.kn (.agg cs)=true:=i' rfl
@[simp] theorem qtx:D.cells (.agg cs)=cs:=i' rfl
@[simp] theorem qyD:D.kn (.list n es)=true:=i' rfl
@[simp] theorem qsk:D.cells (.list n es)=[.list n es]:=i' rfl
@[simp] theorem qBQ:D.kn (.own i x)=true:=i' rfl
@[simp] theorem qtv:D.cells (.own i x)=[.own i x]:=i' rfl
@[simp] theorem qBP(k:Nat):D.kn (.sub i v n k o)=true:=i' rfl
@[simp] theorem qtu(k:Nat):D.cells (.sub i v n k o)=[.sub i v n k o]:=i' rfl
@[simp] theorem qBR:D.kn (.clo f cs)=true:=i' rfl
@[simp] theorem qtw:D.cells (.clo f cs)=[.clo f cs]:=i' rfl
@[simp] theorem quS:D.kn (.undef)=false:=i' rfl
@[simp] theorem qBO:D.kn (.tup cs)=false:=i' rfl
@[simp] theorem qE4(n:Int):mM (.v (.int k n))=some (k,n):=i' rfl
attribute [simp] setAt
@[simp] theorem qCI(n:Int):enc n= .v (.int .i64 n):=rfl
@[simp] theorem qzp(b:Bool):enc b= .v (.bool b):=rfl
@[simp] theorem qCH:enc s= .v (.string s):=rfl
@[simp] theorem qzo{X:Type}[Cod X](l:List X):enc l= .list (Cod.wd X) (l.map enc):=rfl
@[simp] theorem qAx:Cod.wd Int=1:=rfl
@[simp] theorem qxi:Cod.wd Bool=1:=rfl
@[simp] theorem qAw:Cod.wd ByteArray=1:=rfl
@[simp] theorem qxh{X:Type}[Cod X]:Cod.wd (List X)=1:=rfl
@[congr] theorem qyP(q:d=d₁):RZ d A B=RZ d₁ A B:=by subst q;rfl
@[congr] theorem qto{s:Nat}{b:Bool}(q:d=d₁):px s b σ d yes no=px s b σ d₁ yes no:=by subst q;rfl
@[congr] theorem quy(q:d=d₁):L2 d A B=L2 d₁ A B:=by subst q;rfl
@[congr] theorem quR(q:r=r₁):Z8 agg sz b off r K=Z8 agg sz b off r₁ K:=by subst q;rfl
@[congr] theorem quQ(q:r=r₁):Z7 agg sz x n i off r K=Z7 agg sz x n i off r₁ K:=by subst q;rfl
@[congr] theorem quP(q:d=d₁):L8 agg sz d H K=L8 agg sz d₁ H K:=by subst q;rfl
@[congr] theorem qya(q:d=d₁):qgB d K=qgB d₁ K:=by subst q;rfl
@[congr] theorem qtJ(q:d=d₁)(he:e=e₁):QG op d e K=QG op d₁ e₁ K:=by subst q;subst he;rfl
@[congr] theorem qxN(q:d=d₁):qnq d K=qnq d₁ K:=by subst q;rfl
@[congr] theorem qzE{o:Option Bool}{q:Option Bool}(ho:o=q):qdr o K=qdr q K:=by subst ho;rfl
@[congr] theorem qzD(q:d=d₁)(he:e=e₁):qhi op d e K=qhi op d₁ e₁ K:=by subst q;subst he;rfl
@[congr] theorem qzh{o:Option Bool}{q:Option Bool}(ho:o=q):qg9 neg o K=qg9 neg q K:=by subst ho;rfl
@[congr] theorem qx9(q:d=d₁):qjQ d K=qjQ d₁ K:=by subst q;rfl
@[congr] theorem qwd(q:d=d₁):qfj k d K=qfj k d₁ K:=by subst q;rfl
@[congr] theorem qtr(q:d=d₁):Gy off d K=Gy off d₁ K:=by subst q;rfl
@[congr] theorem qtm{k:Int}(q:r=r₁):PX n k id x r K=PX n k id x r₁ K:=by subst q;rfl
@[congr] theorem qtl{i:D}(hi:i=i₁)(q:d=d₁):Gw n i d H K=Gw n i₁ d₁ H K:=by subst hi;subst q;rfl
@[congr] theorem quj{i:D}(hi:i=i₁)(q:d=d₁):qd1 i d K=qd1 i₁ d₁ K:=by subst hi;subst q;rfl
@[congr] theorem qy8{o:Option D}{q:Option D}(ho:o=q):qkW o K=qkW q K:=by subst ho;rfl
@[congr] theorem qy7(q:d=d₁):qkV d i K=qkV d₁ i K:=by subst q;rfl
@[congr] theorem qyB(q:r=r₁):qkb x r K=qkb x r₁ K:=by subst q;rfl
@[congr] theorem qyA(q:d=d₁):Wo d H K=Wo d₁ H K:=by subst q;rfl
@[congr] theorem qzZ(q:r=r₁):qlF x r K=qlF x r₁ K:=by subst q;rfl
@[congr] theorem qzY(q:d=d₁):qoY d H K=qoY d₁ H K:=by subst q;rfl
@[congr] theorem qui(q:d=d₁):Y3 d K=Y3 d₁ K:=by subst q;rfl
@[congr] theorem qyi(q:d=d₁)(he:e=e₁):qjV mx d e K=qjV mx d₁ e₁ K:=by subst q;subst he;rfl
@[congr] theorem qxC{K:List D->Prop}(q:r=r₁):qng n x r K=qng n x r₁ K:=by subst q;rfl
@[congr] theorem qxB{K:List D->Prop}(q:r=r₁):qf1 n lo hi x r K=qf1 n lo hi x r₁ K:=by subst q;rfl
@[congr] theorem qs4{y:D}{K:D->ab->Prop}(q:y=y₁)(u:r=r₁):FT sz id b off y r H K=FT sz id b off y₁ r₁ H K:=by subst q;subst u;rfl
@[congr] theorem qs3{y:D}{K:D->ab->Prop}(q:y=y₁)(u:r=r₁):FS sz id x n i off y r H K=FS sz id x n i off y₁ r₁ H K:=by subst q;subst u;rfl
@[congr] theorem qs2{y:D}{K:D->ab->Prop}(q:d=d₁)(u:y=y₁):Oz sz d y H K=Oz sz d₁ y₁ H K:=by subst q;subst u;rfl
@[congr] theorem qz8{K:D->ab->Prop}(q:es2=es2₁)(u:r=r₁):qlS el n bytes id x es2 r H K=qlS el n bytes id x es2₁ r₁ H K:=by subst q;subst u;rfl
@[congr] theorem qzG{z:D}{K:D->ab->Prop}(hz:z=z₁)(q:r=r₁):qlz n id x n' lo hi z r H K=qlz n id x n' lo hi z₁ r₁ H K:=by subst hz;subst q;rfl
@[congr] theorem qzF{z:D}{K:D->ab->Prop}(hz:z=z₁)(q:d=d₁):qoR n z d H K=qoR n z₁ d₁ H K:=by subst hz;subst q;rfl
@[congr] theorem qzB{K:D->ab->Prop}(q:src=src₁)(u:r=r₁):qln n id x n' lo hi src r H K=qln n id x n' lo hi src₁ r₁ H K:=by subst q;subst u;rfl
@[congr] theorem qzA{K:D->ab->Prop}(u:d=d₁)(q:src=src₁):qoN n d src H K=qoN n d₁ src₁ H K:=by subst u;subst q;rfl
@[congr] theorem qy0{K:Sg->ab->Prop}(q:r=r₁):qkF t x id σ r H K=qkF t x id σ r₁ H K:=by subst q;rfl
@[congr] theorem qyZ{K:Sg->ab->Prop}(q:r=r₁):qkE t n x id n' lo hi σ r H K=qkE t n x id n' lo hi σ r₁ H K:=by subst q;rfl
@[congr] theorem qyX{K:Sg->ab->Prop}(q:d=d₁):qkD t n d σ H K=qkD t n d₁ σ H K:=by subst q;rfl
@[congr] theorem qxK(q:d=d₁):qnn d K=qnn d₁ K:=by subst q;rfl
@[congr] theorem qxA{K:D->ab->Prop}(q:d=d₁):qio t d H K=qio t d₁ H K:=by subst q;rfl
@[congr] theorem qxG{K:D->ab->Prop}(q:r=r₁):qit id b r H K=qit id b r₁ H K:=by subst q;rfl
@[congr] theorem qxF{K:D->ab->Prop}(q:d=d₁):qnj d H K=qnj d₁ H K:=by subst q;rfl
@[congr] theorem qz9{K:D->ab->Prop}(q:dst=dst₁)(w:d=d₁)(u:es2=es2₁):qo7 dst el n b d es2 H K=qo7 dst₁ el n b d₁ es2₁ H K:=by subst q;subst w;subst u;rfl
@[congr] theorem qz6{r:Nat}{q:Option Res}{K:D->ab->Prop}{u:Option Res}(w:es2=es2₁)(C:q=u):qlP el n b r x es2 q H K=qlP el n b r x es2₁ u H K:=by subst w;subst C;rfl
@[congr] theorem qz5{r:Nat}{K:D->ab->Prop}(u:d=d₁)(q:es2=es2₁):qo6 r el n b d es2 H K=qo6 r el n b d₁ es2₁ H K:=by subst u;subst q;rfl
@[congr] theorem qub{r:Nat}{y:D}{K:D->ab->Prop}(q:d=d₁)(u:y=y₁):YX r sz d y H K=YX r sz d₁ y₁ H K:=by subst q;subst u;rfl
@[congr] theorem qz7{K:D->ab->Prop}(q:dst=dst₁)(w:d=d₁)(u:es2=es2₁):qlQ dst el n bytes d es2 H K=qlQ dst₁ el n bytes d₁ es2₁ H K:=by subst q;subst w;subst u;rfl
@[congr] theorem qwm{f:D}{d:Nat}{K:D->ab->Prop}(u:f=f₁)(q:args=args₁):DL S f d args H K=DL S f₁ d args₁ H K:=by subst u;subst q;rfl
@[congr] theorem que{K:List D->Prop}(h:d=d'):mQ n d H K=mQ n d' H K:=by subst h;rfl
@[congr] theorem qxD{K:List D->Prop}(h:d=d'):uP n d H K=uP n d' H K:=by subst h;rfl
@[congr] theorem qtL{s u:Spc}{d:Nat}{q:List D}{K:D->ab->Prop}(h:s=u)(w:ds=q):s.pt d ds H K=u.pt d q H K:=by subst h;subst w;rfl
@[congr] theorem qwa{lo hi q u:Option (Option (IntKind×Int))}{K:Nat->Nat->Prop}(h1:lo=q)(h2:hi=u)(h3:n=n'):lX lo hi n K=lX q u n' K:=by subst h1;subst h2;subst h3;rfl
end
section
open Cod (enc dec)
variable {dq:Prop}
@[simp] theorem qvD(H:ab)(x y:Value):FrzTo H (.v x) (.v y)=(x=y):=by
 refine propext ⟨λh=>?_,λh=>h ▸ .same _⟩;cases h;rfl
@[simp] theorem qyW(H:ab)(d:D):FrzTo H d d=True:=propext ⟨λ_=>trivial,λ_=> .same d⟩
@[simp] theorem qCf(H:ab)(n:Nat)(es:List D):FrzTo H (.v (.slice none 0 0)) (.list n es)=(es=[]):=by
 refine propext ⟨λh=>?_,λh=>h ▸ .nil n⟩;cases h;rfl
def qol{H:ab}{a b h b':D}(h1:FrzTo H a h)(h2:FrzTo H b b'):FrzTo H (.tup [a,b]) (.tup [h,b']):=
 .tup rfl λk c c' hc d=>by
  match k with
  | 0=>simp at hc d;subst hc;subst d;exact h1
  | 1=>simp at hc d;subst hc;subst d;exact h2
  |k+2=>simp at hc
def qok{H:ab}{a b c j b' c':D}(h1:FrzTo H a j)(h2:FrzTo H b b')(h3:FrzTo H c c'):FrzTo H (.tup [a,b,c]) (.tup [j,b',c']):=
 .tup rfl λk d l hc h=>by
  match k with
  | 0=>simp at hc h;subst hc;subst h;exact h1
  | 1=>simp at hc h;subst hc;subst h;exact h2
  | 2=>simp at hc h;subst hc;subst h;exact h3
  |k+3=>simp at hc
section
variable {P:Program}{S:Nat->Spc}{f:Nat}{im:List Nat}{cc:CC}{rs:List ai}{N:Nat}
end
end
end Go.Gv
