/- T10 -/
import Derived.Test.YtmakafgajmnflaaGreatDoorGf08
set_option linter.all false
namespace Go.Gv
section
open Cod (enc dec)
variable {b b' bytes el el' f g hi i id j len lo n n' n'' o off sz t:Nat}{H:ab}{K:D->Prop}{dst dst₁ rt:Option Nat}{v x x':Value}{L d d' d₁ e e₁ f₁ i₁ y₁ z₁:D}{k k' kd:IntKind}{σ:Sg}{args args₁ caps cells cs ds es es2 es2₁ src src₁:List D}{agg mx neg:Bool}{r r₁:Option Res}{c y:Operand}{a h l:Int}{s:ByteArray}{z:List Value}{no yes:Sg->Prop}{A B p:Prop}{op:BinOp}{ks:List X7}{S:Nat->Spc}{ps xs:List Operand}{s₁:Spc}
section
variable {S:Nat->Spc}{K:Ex->Sg->ab->Prop}{σ:Sg}{H:ab}
def U7(S:Nat->Spc)(b:CC)(K:Ex->Sg->ab->Prop):Ex->Sg->ab->Prop:=λe σ H=>match e with
 | .norm=>vc S b K σ H
 |e=>K e σ H
def qdU(id:Nat)(K:Ex->Sg->ab->Prop):Ex->Sg->ab->Prop:=λe σ H=>match e with
 | .ex i=>if i=id then K .norm σ H else K (.ex i) σ H
 |e=>K e σ H
def qc9(q:qpj)(x:q.X)(K:Ex->Sg->ab->Prop):Ex->Sg->ab->Prop:=λe u H'=>match e with
 | .norm=>∃y,q.P y/\Wk u H' (q.s y) (q.h y)/\q.m y<q.m x
 |e=>K e u H'
def Ph(d:D)(A B:Prop):Prop:=match d with
 | .v (.bool t)=>(t=true->A)/\(t=false->B)
 | _=>False
@[simp ↓] theorem qor:vc S .skip K σ H=K .norm σ H:=i' rfl
@[simp ↓] theorem qmk(l:List CI):vc S (.reg l) K σ H=DQ S l σ H (K .norm):=i' rfl
@[simp ↓] theorem qyQ(p l:List CI):vc S (.regd p l) K σ H=kb S p σ (bL p H) H λσ H=>DQ S l σ H (K .norm):=i' rfl
@[simp ↓] theorem WY(a b:CC):vc S (.seq a b) K σ H=vc S a (U7 S b K) σ H:=i' rfl
@[simp ↓] theorem Tn(b:CC):U7 S b K .norm σ H=vc S b K σ H:=i' rfl
@[simp ↓] theorem qhd(b:CC)(i:Nat):U7 S b K (.ex i) σ H=K (.ex i) σ H:=i' rfl
@[simp ↓] theorem qos(b:CC):U7 S b K .ret σ H=K .ret σ H:=i' rfl
@[simp ↓] theorem qsf(c:Operand)(a b:CC):vc S (.ite c a b) K σ H=Ph (ev σ c) (vc S a K σ H) (vc S b K σ H):=i' rfl
@[simp] theorem qov(t:Bool)(A B:Prop):Ph (.v (.bool t)) A B=((t=true->A)/\(t=false->B)):=i' rfl
@[simp high] theorem qyS:Ph (.v (.bool true)) A B=A:=by simp[Ph]
@[simp high] theorem qyT:Ph (.v (.bool false)) A B=B:=by simp[Ph]
@[simp ↓] theorem Tp(id:Nat)(b:CC):vc S (.block id b) K σ H=vc S b (qdU id K) σ H:=i' rfl
@[simp ↓] theorem qox(id:Nat):qdU id K .norm σ H=K .norm σ H:=i' rfl
@[simp ↓] theorem qhg(id:Nat):qdU id K .ret σ H=K .ret σ H:=i' rfl
@[simp ↓] theorem Zy(id i:Nat):qdU id K (.ex i) σ H=if i=id then K .norm σ H else K (.ex i) σ H:=i' rfl
@[simp ↓] theorem qow(i:Nat):vc S (.exit i) K σ H=K (.ex i) σ H:=i' rfl
@[simp ↓] theorem qBa:vc S .ret K σ H=K .ret σ H:=i' rfl
@[simp ↓] theorem qyR(ls lh:List Nat)(c:CC):vc S (.keep ls lh c) K σ H=vc S c K (ja ls σ) (jc lh H):=i' rfl
theorem To(k:Nat)(b:CC):vc S (.loop k b) K σ H=∃q:qpj,(∃x,q.P x/\Wk σ H (q.s x) (q.h x))/\∀x,q.P x->vc S b (qc9 q x K) (q.s x) (q.h x):=i' rfl
theorem qhf(k:Nat)(c:CC):vc S (.cut k c) K σ H=∃(q:Sg) (H':ab),Wk σ H q H'/\vc S c K q H':=i' rfl
@[simp ↓] theorem qou(q:qpj)(x:q.X):qc9 q x K .norm σ H=∃y,q.P y/\Wk σ H (q.s y) (q.h y)/\q.m y<q.m x:=i' rfl
@[simp ↓] theorem qot(q:qpj)(x:q.X):qc9 q x K .ret σ H=K .ret σ H:=i' rfl
@[simp ↓] theorem qhe(q:qpj)(x:q.X)(i:Nat):qc9 q x K (.ex i) σ H=K (.ex i) σ H:=i' rfl
end
def oQ(s:Nat)(b:Bool)(σ:Sg)(d:D)(yes no:Sg->Prop):Prop:=match d with
 | .v (.bool t)=>(t=b->yes (upd σ s (.v (.bool b))))/\(t=(!b)->no (upd σ s (.v (.bool (!b)))))
 | .undef=>no σ
 | _=>False
@[simp high] theorem qBX(s:Nat):oQ s true σ (.v (.bool true)) yes no=yes (upd σ s (.v (.bool true))):=by simp[oQ]
@[simp high] theorem qBY(s:Nat):oQ s true σ (.v (.bool false)) yes no=no (upd σ s (.v (.bool false))):=by simp[oQ]
@[simp high] theorem qBZ(s:Nat):oQ s false σ (.v (.bool true)) yes no=no (upd σ s (.v (.bool true))):=by simp[oQ]
@[simp high] theorem qB0(s:Nat):oQ s false σ (.v (.bool false)) yes no=yes (upd σ s (.v (.bool false))):=by simp[oQ]
@[simp] theorem qBW(s:Nat)(b:Bool):oQ s b σ .undef yes no=no σ:=i' rfl
@[simp] theorem qCb(s:Nat)(b t:Bool):oQ s b σ (.v (.bool t)) yes no=((t=b->yes (upd σ s (.v (.bool b))))/\(t=(!b)->no (upd σ s (.v (.bool (!b)))))):=i' rfl
section
variable {S:Nat->Spc}{σ:Sg}{H Hr:ab}
@[simp ↓] theorem qme(K:Sg->ab->Prop):DQ S [] σ H K=K σ H:=i' rfl
@[simp ↓] theorem qn4(K:Sg->ab->Prop)(d:Option Nat)(c:COp)(r:List CI):DQ S (.op d none c::r) σ H K=ax S c d σ H λx H'=>DQ S r (fG σ d x) H' K:=i' rfl
@[simp ↓] theorem qAM(K:Sg->ab->Prop)(d:Option Nat)(s:Nat)(b:Bool)(c:COp)(r:List CI):DQ S (.op d (some (s,b)) c::r) σ H K=oQ s b σ (σ s) (λσ=>ax S c d σ H λx H'=>DQ S r (fG σ d x) H' K) (λσ=>DQ S r (fG σ d .undef) H K):=i' rfl
@[simp ↓] theorem qAN(K:Sg->ab->Prop)(r:List CI):DQ S (.frz t n::r) σ H K=JT t n σ H λq H'=>DQ S r q H' K:=i' rfl
@[simp ↓] theorem qAy(K:Sg->ab->Prop):kb S [] σ Hr H K=K σ H:=i' rfl
@[simp ↓] theorem qAz(K:Sg->ab->Prop)(a:Nat)(r:List CI):kb S (.frz a b::r) σ Hr H K=kb S r σ (bL r Hr) H K:=i' rfl
@[simp ↓] theorem qBG(K:Sg->ab->Prop)(d:Option Nat)(c:COp)(r:List CI):kb S (.op d none c::r) σ Hr H K=av S c d σ Hr H λx H'=>kb S r (fG σ d x) Hr H' K:=i' rfl
@[simp ↓] theorem qAx(K:Sg->ab->Prop)(d:Option Nat)(s:Nat)(b:Bool)(c:COp)(r:List CI):kb S (.op d (some (s,b)) c::r) σ Hr H K=oQ s b σ (σ s) (λσ=>av S c d σ Hr H λx H'=>kb S r (fG σ d x) Hr H' K) (λσ=>kb S r (fG σ d .undef) Hr H K):=i' rfl
end
def JH(d:D)(A B:Prop):Prop:=match d with
 | .v (.bool t)=>(t=true->A)/\(t=false->B)
 | _=>False
@[simp high] theorem qt9:JH (.v (.bool true)) A B=A:=by simp[JH]
@[simp high] theorem qua:JH (.v (.bool false)) A B=B:=by simp[JH]
def Wh(agg:Bool)(sz b off:Nat)(r:Option Res)(K:D->Prop):Prop:=match r with
 |some (.box b' cells)=>b'=b/\off+sz<=cells.length/\K (KD agg sz cells off)
 | _=>False
def Wg(agg:Bool)(sz:Nat)(x:Value)(n i off:Nat)(r:Option Res)(K:D->Prop):Prop:=match r with
 |some (.row x' _ n' es)=>x'=x/\n'=n/\off+sz<=n/\i<es.length/\∀d,es[i]? =some d->K (KD agg sz d.cells off)
 | _=>False
def JN(agg:Bool)(sz:Nat)(d:D)(H:ab)(K:D->Prop):Prop:=match d with
 | .cptr cs off=>off+sz<=cs.length/\K (KD agg sz cs off)
 | .bptr id b off=>Wh agg sz b off (H id) K
 | .eptr id x n i off=>Wg agg sz x n i off (H id) K
 | _=>False
@[simp] theorem quz:JN agg sz (.cptr cs off) H K=(off+sz<=cs.length/\K (KD agg sz cs off)):=i' rfl
@[simp] theorem quA:JN agg sz (.bptr i b off) H K=Wh agg sz b off (H i) K:=i' rfl
@[simp] theorem quy(k:Nat):JN agg sz (.eptr i x n k off) H K=Wg agg sz x n k off (H i) K:=i' rfl
@[simp] theorem quC:Wh agg sz b off (some (.box b' cells)) K=(b'=b/\off+sz<=cells.length/\K (KD agg sz cells off)):=i' rfl
@[simp] theorem quB:Wg agg sz x n i off (some (.row x' el n' es)) K=(x'=x/\n'=n/\off+sz<=n/\i<es.length/\∀d,es[i]? =some d->K (KD agg sz d.cells off)):=i' rfl
def qc4(d:D)(K:D->Prop):Prop:=match d with
 | .cptr cs off=>K (.cptr cs off)
 | .bptr id b off=>K (.bptr id b off)
 | .eptr id x n i off=>K (.eptr id x n i off)
 | .tape L=>K (.tape L)
 | .clo f caps=>K (.clo f caps)
 | _=>False
@[simp] theorem qxt:qc4 (.cptr cs off) K=K (.cptr cs off):=i' rfl
@[simp] theorem qxu:qc4 (.bptr i b off) K=K (.bptr i b off):=i' rfl
def N0(op:BinOp)(d e:D)(K:D->Prop):Prop:=match d,e with
 | .v (.int k a), .v (.int k' b)=>qdk op k k'/\gL op k a b K
 | _,_=>False
@[simp] theorem qh7(op:BinOp)(k k':IntKind)(a b:Int)(K:D->Prop):N0 op (.v (.int k a)) (.v (.int k' b)) K=(qdk op k k'/\gL op k a b K):=i' rfl
@[simp] theorem qkz(k k':IntKind):qdk .add k k'=(k=k'):=i' rfl
@[simp] theorem quL:qdk .sub k k'=(k=k'):=i' rfl
@[simp] theorem quQ:qdk .mul k k'=(k=k'):=i' rfl
@[simp] theorem quP:qdk .quo k k'=(k=k'):=i' rfl
@[simp] theorem quO:qdk .rem k k'=(k=k'):=i' rfl
@[simp] theorem quR:qdk .and k k'=(k=k'):=i' rfl
@[simp] theorem qx9:qdk .or k k'=(k=k'):=i' rfl
@[simp] theorem quN:qdk .shl k k'=True:=i' rfl
@[simp] theorem quM:qdk .shr k k'=True:=i' rfl
@[simp ↓] theorem qdX(k:IntKind)(a b:Int)(K:D->Prop):gL .add k a b K=(InR k (a+b)/\K (.v (.int k (a+b)))):=i' rfl
@[simp ↓] theorem qqa(b:Int):gL .sub k a b K=(InR k (a -b)/\K (.v (.int k (a -b)))):=i' rfl
@[simp ↓] theorem qqf(b:Int):gL .mul k a b K=(InR k (a*b)/\K (.v (.int k (a*b)))):=i' rfl
@[simp ↓] theorem qqe(b:Int):gL .quo k a b K=(b≠0/\InR k (a.tdiv b)/\K (.v (.int k (a.tdiv b)))):=i' rfl
@[simp ↓] theorem qqd(b:Int):gL .rem k a b K=(b≠0/\K (.v (.int k (a.tmod b)))):=i' rfl
@[simp ↓] theorem qqg(b:Int):gL .and k a b K=K (.v (.int k (XN k a b))):=i' rfl
@[simp ↓] theorem qsO(b:Int):gL .or k a b K=K (.v (.int k (qpJ k a b))):=i' rfl
@[simp ↓] theorem qqc(b:Int):gL .shl k a b K=(0<=b/\K (.v (.int k (RL k a b)))):=i' rfl
@[simp ↓] theorem qqb(b:Int):gL .shr k a b K=(0<=b/\K (.v (.int k (qcB k a b)))):=i' rfl
def qjP(d:D)(K:D->Prop):Prop:=match d with
 | .v (.int _ n)=>K (.v (.string (Utf8.encode n)))
 | _=>False
@[simp] theorem qw4(n:Int):qjP (.v (.int k n)) K=K (.v (.string (Utf8.encode n))):=i' rfl
def ZC(o:Option Bool)(K:D->Prop):Prop:=match o with|some t=>K (.v (.bool t))|none=>False
@[simp] theorem qoP(t:Bool)(K:D->Prop):ZC (some t) K=K (.v (.bool t)):=i' rfl
def qdM(op:BinOp)(d e:D)(K:D->Prop):Prop:=match d,e with
 | .v (.int k a), .v (.int k' b)=>k=k'/\ZC (Tx op a b) K
 | .v (.string a), .v (.string b)=>ZC (Xv op a b) K
 | _,_=>False
@[simp] theorem qoO(op:BinOp)(k k':IntKind)(a b:Int)(K:D->Prop):qdM op (.v (.int k a)) (.v (.int k' b)) K=(k=k'/\ZC (Tx op a b) K):=i' rfl
@[simp] theorem qy5(a b:ByteArray):qdM op (.v (.string a)) (.v (.string b)) K=ZC (Xv op a b) K:=i' rfl
@[simp] theorem qhL(a b:Int):Tx .lss a b=some (decide (a<b)):=i' rfl
@[simp] theorem qss(b:Int):Tx .leq a b=some (decide (a<=b)):=i' rfl
@[simp] theorem qst(b:Int):Tx .gtr a b=some (decide (b<a)):=i' rfl
@[simp] theorem qsu(b:Int):Tx .geq a b=some (decide (b<=a)):=i' rfl
@[simp] theorem qsp(a b:ByteArray):Xv .lss a b=some (Op.bytesLess a.toList b.toList):=i' rfl
@[simp] theorem qsq(a b:ByteArray):Xv .gtr a b=some (!(Op.bytesLess a.toList b.toList||a.toList==b.toList)):=i' rfl
@[simp] theorem qsr(a b:ByteArray):Xv .geq a b=some (!Op.bytesLess a.toList b.toList):=i' rfl
def qdE(neg:Bool)(o:Option Bool)(K:D->Prop):Prop:=match o with
 |some p=>K (.v (.bool (if neg then !p else p)))
 |none=>False
@[simp] theorem qyJ(p:Bool):qdE false (some p) K=K (.v (.bool p)):=i' rfl
@[simp] theorem qyI(p:Bool):qdE true (some p) K=K (.v (.bool (!p))):=i' rfl
@[simp] theorem qA6(k:X7)(a b:D):qg7 false [k] a b=Zw k a b:=i' rfl
@[simp] theorem qA5(a b:List D):qg7 true ks (.agg a) (.agg b)=Zv ks a b:=i' rfl
@[simp] theorem qA4:Zv [] [] []=some true:=i' rfl
@[simp] theorem qA3(k:X7)(a b:D)(as u:List D):Zv (k::ks) (a::as) (b::u)=(Zw k a b).bind λp=>(Zv ks as u).bind λq=>some (p && q):=i' rfl
@[simp] theorem qA8(b:Int):Zw .int (.v (.int k a)) (.v (.int k' b))=if k=k' then some (decide (a=b))else none:=i' rfl
@[simp] theorem qA7(a b:ByteArray):Zw .str (.v (.string a)) (.v (.string b))=some (decide (a=b)):=i' rfl
@[simp] theorem qA9(a b:Bool):Zw .bool (.v (.bool a)) (.v (.bool b))=some (decide (a=b)):=i' rfl
def qkj(d:D)(K:D->Prop):Prop:=match d with
 | .v (.bool b)=>K (.v (.bool (!b)))
 | _=>False
@[simp] theorem qxp(b:Bool):qkj (.v (.bool b)) K=K (.v (.bool (!b))):=i' rfl
def qbD(k:IntKind)(d:D)(K:D->Prop):Prop:=match d with
 | .v (.int _ n)=>K (.v (.int k (k.wrap n)))
 | _=>False
@[simp] theorem qvK(n:Int):qbD k (.v (.int k' n)) K=K (.v (.int k (k.wrap n))):=i' rfl
def YH(n id:Nat)(x:Value)(lo hi:Option (Option (IntKind×Int)))(r:Option Res)(K:D->Prop):Prop:=match r with
 |some (.row x' _ n' es)=>x'=x/\n'=n/\lG lo hi es.length λl h=>K (.sub id x n l h)
 | _=>False
@[simp] theorem qqV(lo hi:Option (Option (IntKind×Int))):YH n i x lo hi (some (.row x' el n' es)) K=(x'=x/\n'=n/\lG lo hi es.length λl h=>K (.sub i x n l h)):=i' rfl
@[simp] theorem qy1(K:Nat->Nat->Prop):lG (some (some (k,l))) none len K=(0<=l/\l<=len/\K l.toNat len):=i' rfl
@[simp] theorem qy0(K:Nat->Nat->Prop):lG none (some (some (k,h))) len K=(0<=h/\h<=len/\K 0 h.toNat):=i' rfl
def L8(n:Nat)(d:D)(lo hi:Option (Option (IntKind×Int)))(H:ab)(K:D->Prop):Prop:=match d with
 | .list n' es=>n'=n/\(match lo,hi with
   |none,none=>K (.list n es)
   |some (some (_,l)),none=>0<=l/\l<=es.length/\K (.list n (es.drop l.toNat))
   |none,some (some (_,h))=>0<=h/\h<=es.length/\K (.list n (es.take h.toNat))
   |some (some (_,l)),some (some (_,h))=>0<=l/\l<=h/\h<=es.length/\K (.list n ((es.take h.toNat).drop l.toNat))
   | _,_=>False)
 | .own id x=>YH n id x lo hi (H id) K
 | .sub id x n' a b=>n'=n/\lG lo hi (b -a) λl h=>K (.sub id x n (a+l) (a+h))
 | .v (.slice none 0 0)=>lG lo hi 0 λ_ _=>K (.v (.slice none 0 0))
 | _=>False
@[simp] theorem qqU(lo hi:Option (Option (IntKind×Int))):L8 n (.own i x) lo hi H K=YH n i x lo hi (H i) K:=i' rfl
@[simp] theorem qpD:L8 n (.list n' es) (some (some (k,l))) none H K=(n'=n/\0<=l/\l<=es.length/\K (.list n (es.drop l.toNat))):=i' rfl
@[simp] theorem qpC:L8 n (.list n' es) none (some (some (k,l))) H K=(n'=n/\0<=l/\l<=es.length/\K (.list n (es.take l.toNat))):=i' rfl
def K8(d:D)(lo hi:Option (Option (IntKind×Int)))(K:D->Prop):Prop:=match d with
 | .v (.string s)=>(match lo,hi with
   |none,none=>K (.v (.string (s.extract 0 s.size)))
   |some (some (_,l)),none=>0<=l/\l<=s.size/\K (.v (.string (s.extract l.toNat s.size)))
   |none,some (some (_,h))=>0<=h/\h<=s.size/\K (.v (.string (s.extract 0 h.toNat)))
   |some (some (_,l)),some (some (_,h))=>0<=l/\l<=h/\h<=s.size/\K (.v (.string (s.extract l.toNat h.toNat)))
   | _,_=>False)
 | _=>False
@[simp] theorem qne:K8 (.v (.string s)) (some (some (k,l))) none K=(0<=l/\l<=s.size/\K (.v (.string (s.extract l.toNat s.size)))):=i' rfl
@[simp] theorem qnf:K8 (.v (.string s)) (some (some (k,l))) (some (some (k',h))) K=(0<=l/\l<=h/\h<=s.size/\K (.v (.string (s.extract l.toNat h.toNat)))):=i' rfl
def EF(off:Nat)(d:D)(K:D->Prop):Prop:=match d with
 | .cptr cs o=>K (.cptr cs (o+off))
 | .bptr id b o=>K (.bptr id b (o+off))
 | .eptr id x n i o=>K (.eptr id x n i (o+off))
 | _=>False
@[simp] theorem qr2:EF off (.cptr cs o) K=K (.cptr cs (o+off)):=i' rfl
@[simp] theorem qr3:EF off (.bptr i b o) K=K (.bptr i b (o+off)):=i' rfl
@[simp] theorem qr1(k:Nat):EF off (.eptr i x n k o) K=K (.eptr i x n k (o+off)):=i' rfl
def Nh(n:Nat)(k:Int)(id:Nat)(x:Value)(r:Option Res)(K:D->Prop):Prop:=match r with
 |some (.row x' _ n' es)=>x'=x/\n'=n/\0<=k/\k<es.length/\K (.eptr id x n k.toNat 0)
 | _=>False
def ED(n:Nat)(i d:D)(H:ab)(K:D->Prop):Prop:=match i with
 | .v (.int _ k)=>match d with
   | .list n' es=>n'=n/\0<=k/\k<es.length/\∀d,es[k.toNat]? =some d->K (.cptr d.cells 0)
   | .own id x=>Nh n k id x (H id) K
   | .sub id x n' lo hi=>n'=n/\0<=k/\k<(hi -lo:Nat)/\K (.eptr id x n (lo+k.toNat) 0)
   | _=>False
 | _=>False
@[simp] theorem qrH(k:Int):ED n (.v (.int kd k)) (.sub i x n' lo hi) H K=(n'=n/\0<=k/\k<(hi -lo:Nat)/\K (.eptr i x n (lo+k.toNat) 0)):=i' rfl
@[simp] theorem qrJ(k:Int):ED n (.v (.int kd k)) (.list n' es) H K=(n'=n/\0<=k/\k<es.length/\∀d,es[k.toNat]? =some d->K (.cptr d.cells 0)):=i' rfl
@[simp] theorem qrI(k:Int):ED n (.v (.int kd k)) (.own i x) H K=Nh n k i x (H i) K:=i' rfl
@[simp] theorem qrK(k:Int):Nh n k i x (some (.row x' el n' es)) K=(x'=x/\n'=n/\0<=k/\k<es.length/\K (.eptr i x n k.toNat 0)):=i' rfl
def qad(i d:D)(K:D->Prop):Prop:=match i with
 | .v (.int _ k)=>match d with
   | .v (.string s)=>0<=k/\k<s.size/\∀c,s.data[k.toNat]? =some c->K (.v (.int .u8 c.toNat))
   | _=>False
 | _=>False
@[simp] theorem qtM(k:Int):qad (.v (.int kd k)) (.v (.string s)) K=(0<=k/\k<s.size/\∀c,s.data[k.toNat]? =some c->K (.v (.int .u8 c.toNat))):=i' rfl
def qg5(o:Option D)(K:D->Prop):Prop:=match o with
 |some d=>K d
 |none=>False
def qg4(d:D)(i:Nat)(K:D->Prop):Prop:=match d with
 | .tup ds=>qg5 ds[i]? K
 | _=>False
@[simp] theorem qyD:qg4 (.tup ds) i K=qg5 ds[i]? K:=i' rfl
@[simp] theorem qyE:qg5 (some d) K=K d:=i' rfl
def qgo(x:Value)(r:Option Res)(K:D->Prop):Prop:=match r with
 |some (.row x' _ _ es)=>x'=x/\((es.length:Int)<=9223372036854775807->K (.v (.int .i64 es.length)))
 | _=>False
def SH(d:D)(H:ab)(K:D->Prop):Prop:=match d with
 | .list _ es=>(es.length:Int)<=9223372036854775807->K (.v (.int .i64 es.length))
 | .own id x=>qgo x (H id) K
 | .v (.slice _ n _)=>K (.v (.int .i64 n))
 | .sub _ _ _ lo hi=>((hi -lo:Nat):Int)<=9223372036854775807->K (.v (.int .i64 (hi -lo:Nat)))
 | _=>False
@[simp] theorem qxU:SH (.sub i x n lo hi) H K=(((hi -lo:Nat):Int)<=9223372036854775807->K (.v (.int .i64 (hi -lo:Nat)))):=i' rfl
@[simp] theorem qxX:SH (.list n es) H K=((es.length:Int)<=9223372036854775807->K (.v (.int .i64 es.length))):=i' rfl
@[simp] theorem qxV:SH (.own i x) H K=qgo x (H i) K:=i' rfl
@[simp] theorem quD(a:Option Addr)(c:Nat):SH (.v (.slice a n c)) H K=K (.v (.int .i64 n)):=i' rfl
@[simp high] theorem qxW:SH (.v (.slice none 0 0)) H K=K (.v (.int .i64 0)):=i' rfl
@[simp] theorem qxY:qgo x (some (.row x' el n es)) K=(x'=x/\((es.length:Int)<=9223372036854775807->K (.v (.int .i64 es.length)))):=i' rfl
def qhS(x:Value)(r:Option Res)(K:D->Prop):Prop:=match r with
 |some (.row x' _ n es)=>x'=x/\n=1/\qmo es=true/\K (.v (.string (qoV es)))
 | _=>False
@[simp] theorem qzz:qhS x (some (.row x' el n es)) K=(x'=x/\n=1/\qmo es=true/\K (.v (.string (qoV es)))):=i' rfl
def qlp(d:D)(H:ab)(K:D->Prop):Prop:=match d with
 | .own i x=>qhS x (H i) K
 | .v (.slice none 0 0)=>K (.v (.string ⟨#[]⟩))
 | _=>False
@[simp] theorem qzy:qlp (.own i x) H K=qhS x (H i) K:=i' rfl
def U2(d:D)(K:D->Prop):Prop:=match d with
 | .v (.string s)=>(s.size:Int)<=9223372036854775807->K (.v (.int .i64 s.size))
 | _=>False
@[simp] theorem qtL:U2 (.v (.string s)) K=((s.size:Int)<=9223372036854775807->K (.v (.int .i64 s.size))):=i' rfl
def qf6(mx:Bool)(d e:D)(K:D->Prop):Prop:=match d,e with
 | .v (.int k a), .v (.int k' b)=>k=k'/\K (.v (.int k (if mx then max a b else min a b)))
 | _,_=>False
@[simp] theorem qxI(b:Int):qf6 mx (.v (.int k a)) (.v (.int k' b)) K=(k=k'/\K (.v (.int k (if mx then max a b else min a b)))):=i' rfl
@[simp ↓] theorem qp7(K:List D->Prop):jY σ [] cs K=K cs:=i' rfl
@[simp ↓] theorem qoW(x:Operand)(r:List (Nat×Nat×Operand))(K:List D->Prop):jY σ ((off,sz,x)::r) cs K=((ev σ x).kn=true/\(ev σ x).cells.length=sz/\jY σ r (setAt cs off (ev σ x).cells) K):=i' rfl
@[simp] theorem qpI:jO n []=True:=i' rfl
@[simp] theorem qnJ(r:List D):jO n (d::r)=(d.kn=true/\d.cells.length=n/\jO n r):=i' rfl
def qjF(n:Nat)(x:Value)(r:Option Res)(K:List D->Prop):Prop:=match r with
 |some (.row x' _ n' es)=>x'=x/\n'=n/\K es
 | _=>False
def qcw(n lo hi:Nat)(x:Value)(r:Option Res)(K:List D->Prop):Prop:=match r with
 |some (.row x' _ n'' es)=>x'=x/\n''=n/\K ((es.take hi).drop lo)
 | _=>False
@[simp] theorem qwP(K:List D->Prop):qcw n lo hi x (some (.row x' el n' es)) K=(x'=x/\n'=n/\K ((es.take hi).drop lo)):=i' rfl
@[simp] theorem qAe(K:List D->Prop):mw n (.sub i x n' lo hi) H K=(n'=n/\qcw n lo hi x (H i) K):=by
 simp only[mw];cases H i with
 |none=>simp[qcw]
 |some r=>cases r<;>simp[qcw,and_left_comm]
@[simp] theorem qwS(K:List D->Prop):ui n (.list n' es) H K=(n'=n/\K es):=i' rfl
@[simp] theorem qwR(K:List D->Prop):ui n (.own i x) H K=qjF n x (H i) K:=i' rfl
@[simp] theorem qwT(K:List D->Prop):ui n (.v (.string s)) H K=(n=1/\K (FK s)):=i' rfl
@[simp] theorem qwQ(K:List D->Prop):qjF n x (some (.row x' el n' es)) K=(x'=x/\n'=n/\K es):=i' rfl
def qxJ(t el n bytes:Nat)(agg:Bool)(z:List Value)(l c:Option (IntKind×Int))(H:ab)(K:D->ab->Prop):Prop:=match l,c with
 |some (_,l),some (_,c)=>0<=l/\l<=c/\bytes*c<=140737488355328/\c<=140737488355328/\∀x,K (.own t x) (ai H t (some (.row x el n (List.replicate l.toNat (if agg then .agg (z.map qc)else qc (z.headD (.bool false)))))))
 | _,_=>False
@[simp] theorem qAJ(c:Int)(K:D->ab->Prop):qxJ t el n bytes agg z (some (k,l)) (some (k',c)) H K=(0<=l/\l<=c/\bytes*c<=140737488355328/\c<=140737488355328/\∀x,K (.own t x) (ai H t (some (.row x el n (List.replicate l.toNat (if agg then .agg (z.map qc)else qc (z.headD (.bool false)))))))):=i' rfl
def DZ(sz id b off:Nat)(y:D)(r:Option Res)(H:ab)(K:D->ab->Prop):Prop:=match r with
 |some (.box b' cells)=>b'=b/\off+sz<=cells.length/\K .undef (ai H id (some (.box b' (setAt cells off y.cells))))
 | _=>False
def DY(sz id:Nat)(x:Value)(n i off:Nat)(y:D)(r:Option Res)(H:ab)(K:D->ab->Prop):Prop:=match r with
 | some (.row x' el n' es)=>x'=x/\n'=n/\0<n/\off+sz<=n/\i<es.length/\∀d,es[i]? =some d->
    K .undef (ai H id (some (.row x' el n' (es.set i (if off=0/\sz=n then y else .agg (setAt d.cells off y.cells))))))
 | _=>False
def L5(sz:Nat)(d y:D)(H:ab)(K:D->ab->Prop):Prop:=match d with
 | .bptr id b off=>DZ sz id b off y (H id) H K
 | .eptr id x n i off=>DY sz id x n i off y (H id) H K
 | _=>False
@[simp] theorem qqL(y:D)(K:D->ab->Prop):L5 sz (.bptr i b off) y H K=DZ sz i b off y (H i) H K:=i' rfl
@[simp] theorem qqK(k:Nat)(y:D)(K:D->ab->Prop):L5 sz (.eptr i x n k off) y H K=DY sz i x n k off y (H i) H K:=i' rfl
@[simp] theorem qqN(y:D)(K:D->ab->Prop):DZ sz i b off y (some (.box b' cells)) H K=(b'=b/\off+sz<=cells.length/\K .undef (ai H i (some (.box b' (setAt cells off y.cells))))):=i' rfl
@[simp] theorem qqM(k:Nat)(y:D)(K:D->ab->Prop):DY sz i x n k off y (some (.row x' el n' es)) H K=(x'=x/\n'=n/\0<n/\off+sz<=n/\k<es.length/\∀d,es[k]? =some d->
 K .undef (ai H i (some (.row x' el n' (es.set k (if off=0/\sz=n then y else .agg (setAt d.cells off y.cells))))))):=i' rfl
def qib(el n bytes id:Nat)(x:Value)(es2:List D)(r:Option Res)(H:ab)(K:D->ab->Prop):Prop:=match r with
 |some (.row x' el' n' es)=>x'=x/\el'=el/\n'=n/\(es.length+es2.length) *bytes<=140737488355328/\es.length+es2.length<=140737488355328/\∀v,K (.own id v) (ai H id (some (.row v el n (es++es2))))
 | _=>False
def qzM(el n bytes id:Nat)(x:Value)(n' lo hi:Nat)(es2:List D)(r:Option Res)(H:ab)(K:D->ab->Prop):Prop:=match r with
 |some (.row x' el' n'' es)=>x'=x/\el'=el/\n'=n/\n''=n/\lo=0/\(hi+es2.length) *bytes<=140737488355328/\hi+es2.length<=140737488355328/\∀v,K (.own id v) (ai H id (some (.row v el n (es.take hi++es2))))
 | _=>False
def qy8(n id:Nat)(x:Value)(z:D)(r:Option Res)(H:ab)(K:D->ab->Prop):Prop:=match r with
 |some (.row x' el n' es)=>x'=x/\n'=n/\K (.tup []) (ai H id (some (.row x' el n' (List.replicate es.length z))))
 | _=>False
def qhN(n id:Nat)(x:Value)(n' lo hi:Nat)(z:D)(r:Option Res)(H:ab)(K:D->ab->Prop):Prop:=match r with
 |some (.row x' el n'' es)=>x'=x/\n'=n/\n''=n/\K (.tup []) (ai H id (some (.row x' el n'' (es.take lo++List.replicate (hi -lo) z++es.drop hi))))
 | _=>False
def qlh(n:Nat)(z d:D)(H:ab)(K:D->ab->Prop):Prop:=match d with
 | .own id x=>qy8 n id x z (H id) H K
 | .sub id x n' lo hi=>qhN n id x n' lo hi z (H id) H K
 | .v (.slice none 0 0)=>K (.tup []) H
 | _=>False
@[simp] theorem qy6(z:D)(K:D->ab->Prop):qlh n z (.sub i x n' lo hi) H K=qhN n i x n' lo hi z (H i) H K:=i' rfl
@[simp] theorem qy7(z:D)(K:D->ab->Prop):qhN n i x n' lo hi z (some (.row x' el n'' es)) H K=(x'=x/\n'=n/\n''=n/\K (.tup []) (ai H i (some (.row x' el n'' (es.take lo++List.replicate (hi -lo) z++es.drop hi))))):=i' rfl
def qy4(n id:Nat)(x:Value)(src:List D)(r:Option Res)(H:ab)(K:D->ab->Prop):Prop:=match r with
 |some (.row x' el n' es)=>x'=x/\n'=n/\K (.v (.int .i64 (min src.length es.length:Nat))) (ai H id (some (.row x' el n' (src.take es.length++es.drop src.length))))
 | _=>False
def qhz(n id:Nat)(x:Value)(n' lo hi:Nat)(src:List D)(r:Option Res)(H:ab)(K:D->ab->Prop):Prop:=match r with
 |some (.row x' el n'' es)=>x'=x/\n'=n/\n''=n/\K (.v (.int .i64 (min src.length (hi -lo):Nat))) (ai H id (some (.row x' el n'' (es.take lo++src.take (hi -lo) ++es.drop (lo+min src.length (hi -lo))))))
 | _=>False
def qld(n:Nat)(d:D)(src:List D)(H:ab)(K:D->ab->Prop):Prop:=match d with
 | .own id x=>qy4 n id x src (H id) H K
 | .sub id x n' lo hi=>qhz n id x n' lo hi src (H id) H K
 | _=>False
@[simp] theorem qy2(K:D->ab->Prop):qld n (.sub i x n' lo hi) src H K=qhz n i x n' lo hi src (H i) H K:=i' rfl
@[simp] theorem qy3(K:D->ab->Prop):qhz n i x n' lo hi src (some (.row x' el n'' es)) H K=(x'=x/\n'=n/\n''=n/\K (.v (.int .i64 (min src.length (hi -lo):Nat))) (ai H i (some (.row x' el n'' (es.take lo++src.take (hi -lo) ++es.drop (lo+min src.length (hi -lo))))))):=i' rfl
@[simp] theorem qz2:QY true z= .agg (z.map qc):=i' rfl
@[simp] theorem qz3:QY false z=qc (z.headD (.bool false)):=i' rfl
def qgR(t:Nat)(x:Value)(id:Nat)(σ:Sg)(r:Option Res)(H:ab)(K:Sg->ab->Prop):Prop:=match r with
 |some (.row x' _ n' es)=>x'=x/\K (qdC id x (.list n' es) σ) (ai H id none)
 | _=>False
def qyB(t b off:Nat)(id:Nat)(σ:Sg)(r:Option Res)(H:ab)(K:Sg->ab->Prop):Prop:=match r with
 |some (.box b' cs)=>b'=b/\K (upd σ t (.cptr cs off)) (ai H id none)
 | _=>False
def qgQ(t n:Nat)(x:Value)(id n' lo hi:Nat)(σ:Sg)(r:Option Res)(H:ab)(K:Sg->ab->Prop):Prop:=match r with
 |some (.row x' el n'' es)=>x'=x/\n'=n''/\(if n=0 then lo=0/\∀v,K (upd σ t (.own id v)) (ai H id (some (.row v el n'' (es.take hi))))else K (upd σ t (.list n'' ((es.take hi).drop lo))) (ai H id none))
 | _=>False
def qgP(t n:Nat)(d:D)(σ:Sg)(H:ab)(K:Sg->ab->Prop):Prop:=match d with
 | .own id x=>qgR t x id σ (H id) H K
 | .bptr id b off=>qyB t b off id σ (H id) H K
 | .v (.slice none 0 0)=>K (upd σ t (.list n [])) H
 | .sub id x n' lo hi=>qgQ t n x id n' lo hi σ (H id) H K
 | .agg cs=>IG cs H λcs' H'=>K (upd σ t (.agg cs')) H'
 | _=>K σ H
@[simp ↓] theorem qB2(K:Sg->ab->Prop):JT t n σ H K=qgP t n (σ t) σ H K:=i' rfl
@[simp] theorem qyr(K:Sg->ab->Prop):qgP t n (.own i x) σ H K=qgR t x i σ (H i) H K:=i' rfl
@[simp] theorem qyq(K:Sg->ab->Prop):qgP t n (.sub i x n' lo hi) σ H K=qgQ t n x i n' lo hi σ (H i) H K:=i' rfl
@[simp] theorem qyt(K:Sg->ab->Prop):qgR t x i σ (some (.row x' el n' es)) H K=(x'=x/\K (qdC i x (.list n' es) σ) (ai H i none)):=i' rfl
@[simp] theorem qyv(y:Value):KG id x L (.own i y)=open Classical in (if i=id/\y=x then L else .own i y):=i' rfl
@[simp] theorem qyA:KG id x L (.any)= .any:=i' rfl
@[simp] theorem qyx:KG id x L (.agg cs)= .agg cs:=i' rfl
@[simp] theorem qyw:KG id x L (.list n es)= .list n es:=i' rfl
@[simp] theorem qyy:KG id x L (.cptr cs o)= .cptr cs o:=i' rfl
@[simp] theorem qyz:KG id x L (.bptr i b o)= .bptr i b o:=i' rfl
@[simp] theorem qyu(T:List Int):KG id x L (.tape T)= .tape T:=i' rfl
@[simp] theorem qys(K:Sg->ab->Prop):qgQ t n x i n' lo hi σ (some (.row x' el n'' es)) H K=(x'=x/\n'=n''/\(if n=0 then lo=0/\∀v,K (upd σ t (.own i v)) (ai H i (some (.row v el n'' (es.take hi))))else K (upd σ t (.list n'' ((es.take hi).drop lo))) (ai H i none))):=i' rfl
def qjM(d:D)(K:D->Prop):Prop:=match d with
 | .v (.string s)=>K (.list 1 (s.data.toList.map λc=> .v (.int .u8 c.toNat)))
 | _=>False
@[simp] theorem qwZ:qjM (.v (.string s)) K=K (.list 1 (s.data.toList.map λc=> .v (.int .u8 c.toNat))):=i' rfl
def qeN(t:Nat)(d:D)(H:ab)(K:D->ab->Prop):Prop:=match d with
 | .v (.string s)=>∀b,K (.bptr t b 0) (ai H t (some (.iter b s 0)))
 | _=>False
@[simp] theorem qwO(K:D->ab->Prop):qeN t (.v (.string s)) H K=∀b,K (.bptr t b 0) (ai H t (some (.iter b s 0))):=i' rfl
def qeQ(id b:Nat)(r:Option Res)(H:ab)(K:D->ab->Prop):Prop:=match r with
 |some (.iter b' s pos)=>b'=b/\(pos<s.size->K (.tup [.v (.bool true), .v (.int .i64 pos), .v (.int .i32 (Utf8.decode s pos).1)]) (ai H id (some (.iter b' s (pos+ (Utf8.decode s pos).2)))))/\(¬pos<s.size->K (.tup [.v (.bool false)]) H)
 | _=>False
@[simp] theorem qwV(pos:Nat)(K:D->ab->Prop):qeQ id b (some (.iter b' s pos)) H K=(b'=b/\(pos<s.size->K (.tup [.v (.bool true), .v (.int .i64 pos), .v (.int .i32 (Utf8.decode s pos).1)]) (ai H id (some (.iter b' s (pos+ (Utf8.decode s pos).2)))))/\(¬pos<s.size->K (.tup [.v (.bool false)]) H)):=i' rfl
def qjI(d:D)(H:ab)(K:D->ab->Prop):Prop:=match d with
 | .bptr id b off=>off=0/\qeQ id b (H id) H K
 | _=>False
@[simp] theorem qwU(K:D->ab->Prop):qjI (.bptr i b off) H K=(off=0/\qeQ i b (H i) H K):=i' rfl
def qly(dst:Option Nat)(el n b:Nat)(d:D)(es2:List D)(H:ab)(K:D->ab->Prop):Prop:=match dst,d with
 |some t, .v (.slice none 0 0)=>es2.length*b<=140737488355328/\es2.length<=140737488355328/\∀v,K (.own t v) (ai H t (some (.row v el n es2)))
 | _,_=>False
@[simp] theorem qzP(K:D->ab->Prop):qly (some t) el n b (.v (.slice none 0 0)) es2 H K=(es2.length*b<=140737488355328/\es2.length<=140737488355328/\∀v,K (.own t v) (ai H t (some (.row v el n es2)))):=i' rfl
def qh8(el n b r:Nat)(x:Value)(es2:List D)(q:Option Res)(H:ab)(K:D->ab->Prop):Prop:=match q with
 |some (.row x' el' n' es)=>x'=x/\el'=el/\n'=n/\(es.length+es2.length) *b<=140737488355328/\es.length+es2.length<=140737488355328/\∀v,K (.own r v) (ai H r (some (.row v el n (es++es2))))
 | _=>False
@[simp] theorem qzJ(r:Nat)(K:D->ab->Prop):qh8 el n b r x es2 (some (.row x' el' n' es)) H K=(x'=x/\el'=el/\n'=n/\(es.length+es2.length) *b<=140737488355328/\es.length+es2.length<=140737488355328/\∀v,K (.own r v) (ai H r (some (.row v el n (es++es2))))):=i' rfl
def qlx(r el n b:Nat)(d:D)(es2:List D)(H:ab)(K:D->ab->Prop):Prop:=match d with
 | .own id x=>id=r/\qh8 el n b r x es2 (H r) H K
 | _=>False
@[simp] theorem qzI(r:Nat)(K:D->ab->Prop):qlx r el n b (.own i x) es2 H K=(i=r/\qh8 el n b r x es2 (H r) H K):=i' rfl
def UV(r sz:Nat)(d y:D)(H:ab)(K:D->ab->Prop):Prop:=match d with
 | .bptr id b off=>id=r/\DZ sz r b off y (H r) H K
 | .eptr id x n i off=>id=r/\DY sz r x n i off y (H r) H K
 | _=>False
@[simp] theorem qtC(r:Nat)(y:D)(K:D->ab->Prop):UV r sz (.bptr i b off) y H K=(i=r/\DZ sz r b off y (H r) H K):=i' rfl
@[simp] theorem qtB(r:Nat)(k:Nat)(y:D)(K:D->ab->Prop):UV r sz (.eptr i x n k off) y H K=(i=r/\DY sz r x n k off y (H r) H K):=i' rfl
def qzO(dst:Option Nat)(el n bytes:Nat)(es2:List D)(H:ab)(K:D->ab->Prop):Prop:=match dst with
 |some t=>es2.length*bytes<=140737488355328/\es2.length<=140737488355328/\∀v,K (.own t v) (ai H t (some (.row v el n es2)))
 |none=>False
def qh9(dst:Option Nat)(el n bytes:Nat)(d:D)(es2:List D)(H:ab)(K:D->ab->Prop):Prop:=match d with
 | .own id x=>qib el n bytes id x es2 (H id) H K
 | .v (.slice none 0 0)=>qzO dst el n bytes es2 H K
 | .sub id x n' lo hi=>qzM el n bytes id x n' lo hi es2 (H id) H K
 | _=>False
@[simp] theorem qzK(K:D->ab->Prop):qh9 dst el n bytes (.own i x) es2 H K=qib el n bytes i x es2 (H i) H K:=i' rfl
@[simp] theorem qzL(K:D->ab->Prop):qh9 (some t) el n bytes (.v (.slice none 0 0)) es2 H K=(es2.length*bytes<=140737488355328/\es2.length<=140737488355328/\∀v,K (.own t v) (ai H t (some (.row v el n es2)))):=i' rfl
@[simp] theorem qzN(K:D->ab->Prop):qib el n bytes i x es2 (some (.row x' el' n' es)) H K=(x'=x/\el'=el/\n'=n/\(es.length+es2.length) *bytes<=140737488355328/\es.length+es2.length<=140737488355328/\∀v,K (.own i v) (ai H i (some (.row v el n (es++es2))))):=i' rfl
def Cb(S:Nat->Spc)(f:D)(d:Nat)(args:List D)(H:ab)(K:D->ab->Prop):Prop:=match f with
 | .clo g caps=>(S g).pt d (args++caps) H K
 | _=>False
@[simp] theorem qvS(d:Nat)(K:D->ab->Prop):Cb S (.clo g caps) d args H K=(S g).pt d (args++caps) H K:=i' rfl
@[congr] theorem qq9{r:Nat}{s:Spc}{K:D->ab->Prop}(hs:s=s₁)(q:args=args₁):MA r dst s args H K=MA r dst s₁ args₁ H K:=by subst hs;subst q;rfl
@[congr] theorem qt8{s:Spc}{K:D->ab->Prop}(hs:s=s₁)(q:args=args₁):qcN dst s args H K=qcN dst s₁ args₁ H K:=by subst hs;subst q;rfl
section
variable {S:Nat->Spc}{σ:Sg}{H Hr:ab}{K:D->ab->Prop}
@[simp ↓] theorem qzg(dst:Option Nat)(x:Operand):ax S (.mv x) dst σ H K=((λd=>K d H) (ev σ x)):=i' rfl
@[simp ↓] theorem qBF(x:Operand):av S (.mv x) dst σ Hr H K=((λd=>K d H) (ev σ x)):=i' rfl
@[simp ↓] theorem qzf(x:Operand):ax S (.pick c x y) dst σ H K=(JH (ev σ c) ((λd=>K d H) (ev σ x)) ((λd=>K d H) (ev σ y))):=i' rfl
@[simp ↓] theorem qxf(x:Operand):av S (.pick c x y) dst σ Hr H K=(JH (ev σ c) ((λd=>K d H) (ev σ x)) ((λd=>K d H) (ev σ y))):=i' rfl
@[simp ↓] theorem qv4(ps:List (Nat×Nat×Operand)):ax S (.build z ps) dst σ H K=(jY σ ps (z.map qc) λcs=>(λd=>K d H) (.agg cs)):=i' rfl
@[simp ↓] theorem qt4(ps:List (Nat×Nat×Operand)):av S (.build z ps) dst σ Hr H K=(jY σ ps (z.map qc) λcs=>(λd=>K d H) (.agg cs)):=i' rfl
@[simp ↓] theorem qsD:ax S (.bslice el n ps) dst σ H K=(jO n (ps.map (ev σ))/\(λd=>K d H) (.list n (ps.map (ev σ)))):=i' rfl
@[simp ↓] theorem qq7:av S (.bslice el n ps) dst σ Hr H K=(jO n (ps.map (ev σ))/\(λd=>K d H) (.list n (ps.map (ev σ)))):=i' rfl
@[simp ↓] theorem qzk(x:Operand):ax S (.load agg sz x) dst σ H K=(JN agg sz (ev σ x) H (λd=>K d H)):=i' rfl
@[simp ↓] theorem qxg(x:Operand):av S (.load agg sz x) dst σ Hr H K=(JN agg sz (ev σ x) Hr (λd=>K d H)):=i' rfl
@[simp ↓] theorem qvW(x:Operand):ax S (.nilck x) dst σ H K=(qc4 (ev σ x) (λd=>K d H)):=i' rfl
@[simp ↓] theorem qtZ(x:Operand):av S (.nilck x) dst σ Hr H K=(qc4 (ev σ x) (λd=>K d H)):=i' rfl
@[simp ↓] theorem qll(dst:Option Nat)(op:BinOp)(x y:Operand):ax S (.arith op x y) dst σ H K=(N0 op (ev σ x) (ev σ y) (λd=>K d H)):=i' rfl
@[simp ↓] theorem qt5(x:Operand):av S (.arith op x y) dst σ Hr H K=(N0 op (ev σ x) (ev σ y) (λd=>K d H)):=i' rfl
@[simp ↓] theorem qsC(dst:Option Nat)(op:BinOp)(x y:Operand):ax S (.cmp op x y) dst σ H K=(qdM op (ev σ x) (ev σ y) (λd=>K d H)):=i' rfl
@[simp ↓] theorem qAv(x:Operand):av S (.cmp op x y) dst σ Hr H K=(qdM op (ev σ x) (ev σ y) (λd=>K d H)):=i' rfl
@[simp ↓] theorem qBg(x:Operand):ax S (.eql neg agg ks x y) dst σ H K=(qdE neg (qg7 agg ks (ev σ x) (ev σ y)) (λd=>K d H)):=i' rfl
@[simp ↓] theorem qAu(x:Operand):av S (.eql neg agg ks x y) dst σ Hr H K=(qdE neg (qg7 agg ks (ev σ x) (ev σ y)) (λd=>K d H)):=i' rfl
@[simp ↓] theorem qBb(x:Operand):ax S (.not x) dst σ H K=(qkj (ev σ x) (λd=>K d H)):=i' rfl
@[simp ↓] theorem qzm(x:Operand):ax S (.conv k x) dst σ H K=(qbD k (ev σ x) (λd=>K d H)):=i' rfl
@[simp ↓] theorem qBh:ax S (.clo f xs) dst σ H K=((λd=>K d H) (.clo f (xs.map (ev σ)))):=i' rfl
@[simp ↓] theorem qvV(x:Operand)(lo hi:Option Operand):ax S (.slice n x lo hi) dst σ H K=(L8 n (ev σ x) (lo.map λo=>mr (ev σ o)) (hi.map λo=>mr (ev σ o)) H (λd=>K d H)):=i' rfl
@[simp ↓] theorem qtY(x:Operand)(lo hi:Option Operand):av S (.slice n x lo hi) dst σ Hr H K=(L8 n (ev σ x) (lo.map λo=>mr (ev σ o)) (hi.map λo=>mr (ev σ o)) Hr (λd=>K d H)):=i' rfl
@[simp ↓] theorem qsx(x:Operand)(lo hi:Option Operand):ax S (.sslice x lo hi) dst σ H K=(K8 (ev σ x) (lo.map λo=>mr (ev σ o)) (hi.map λo=>mr (ev σ o)) (λd=>K d H)):=i' rfl
@[simp ↓] theorem qq5(x:Operand)(lo hi:Option Operand):av S (.sslice x lo hi) dst σ Hr H K=(K8 (ev σ x) (lo.map λo=>mr (ev σ o)) (hi.map λo=>mr (ev σ o)) (λd=>K d H)):=i' rfl
@[simp ↓] theorem qv1(x:Operand):ax S (.faddr off x) dst σ H K=(EF off (ev σ x) (λd=>K d H)):=i' rfl
@[simp ↓] theorem qt2(x:Operand):av S (.faddr off x) dst σ Hr H K=(EF off (ev σ x) (λd=>K d H)):=i' rfl
@[simp ↓] theorem qv0(x i:Operand):ax S (.iaddr n x i) dst σ H K=(ED n (ev σ i) (ev σ x) H (λd=>K d H)):=i' rfl
@[simp ↓] theorem qt1(x i:Operand):av S (.iaddr n x i) dst σ Hr H K=(ED n (ev σ i) (ev σ x) Hr (λd=>K d H)):=i' rfl
@[simp ↓] theorem qzd(x i:Operand):ax S (.sidx x i) dst σ H K=(qad (ev σ i) (ev σ x) (λd=>K d H)):=i' rfl
@[simp ↓] theorem qBf(x:Operand):ax S (.ext x i) dst σ H K=(qg4 (ev σ x) i (λd=>K d H)):=i' rfl
@[simp ↓] theorem qAt(x:Operand):av S (.ext x i) dst σ Hr H K=(qg4 (ev σ x) i (λd=>K d H)):=i' rfl
@[simp ↓] theorem qBe(x:Operand):ax S (.len x) dst σ H K=(SH (ev σ x) H (λd=>K d H)):=i' rfl
@[simp ↓] theorem qAs(x:Operand):av S (.len x) dst σ Hr H K=(SH (ev σ x) Hr (λd=>K d H)):=i' rfl
@[simp ↓] theorem qzc(x:Operand):ax S (.slen x) dst σ H K=(U2 (ev σ x) (λd=>K d H)):=i' rfl
@[simp ↓] theorem qxe(x:Operand):av S (.slen x) dst σ Hr H K=(U2 (ev σ x) (λd=>K d H)):=i' rfl
@[simp ↓] theorem qzo(x:Operand):ax S (.bstr x) dst σ H K=(qlp (ev σ x) H (λd=>K d H)):=i' rfl
@[simp ↓] theorem qze(x:Operand):ax S (.rstr x) dst σ H K=(qjP (ev σ x) (λd=>K d H)):=i' rfl
@[simp ↓] theorem qBd(x:Operand):ax S (.mm mx [x,y]) dst σ H K=qf6 mx (ev σ x) (ev σ y) (λd=>K d H):=i' rfl
@[simp ↓] theorem qzp(x:Operand):ax S (.box el true x) dst σ H K=((ev σ x).kn=true/\K (.cptr (ev σ x).cells 0) H):=i' rfl
@[simp ↓] theorem qv5:ax S (.alloc el z) (some t) σ H K=∀b,K (.bptr t b 0) (ai H t (some (.box b (z.map qc)))):=i' rfl
@[simp ↓] theorem qBi(x:Operand):ax S (.box el false x) (some t) σ H K=((ev σ x).kn=true/\∀b,K (.bptr t b 0) (ai H t (some (.box b (ev σ x).cells)))):=i' rfl
@[simp ↓] theorem qsA:ax S (.mslice el n ps) (some t) σ H K=(jO n (ps.map (ev σ))/\∀x,K (.own t x) (ai H t (some (.row x el n (ps.map (ev σ)))))):=i' rfl
@[simp ↓] theorem qp6(l:Operand):ax S (.mkslice el n bytes agg z l c) (some t) σ H K=qxJ t el n bytes agg z (mr (ev σ l)) (mr (ev σ c)) H K:=i' rfl
@[simp ↓] theorem qAr(x:Operand):av S (.mm mx [x,y]) dst σ Hr H K=qf6 mx (ev σ x) (ev σ y) (λd=>K d H):=i' rfl
@[simp ↓] theorem qt6:av S (.alloc el z) (some t) σ Hr H K=∀b,K (.bptr t b 0) (ai H t (some (.box b (z.map qc)))):=i' rfl
@[simp ↓] theorem qq6:av S (.nslice el n) (some t) σ Hr H K=∀x,K (.own t x) (ai H t (some (.row x el n []))):=i' rfl
@[simp ↓] theorem qpF(l:Operand):av S (.mkslice el n bytes agg z l c) (some t) σ Hr H K=qxJ t el n bytes agg z (mr (ev σ l)) (mr (ev σ c)) H K:=i' rfl
@[simp ↓] theorem qsz(x:Operand):ax S (.sbytes x) dst σ H K=qjM (ev σ x) (λd=>K d H):=i' rfl
@[simp ↓] theorem qsy(x:Operand):ax S (.srange x) (some t) σ H K=qeN t (ev σ x) H K:=by
 simp only[ax,bj,qeN];split<;>simp_all
@[simp ↓] theorem qvU(x:Operand):ax S (.snext x) dst σ H K=qjI (ev σ x) H K:=i' rfl
@[simp ↓] theorem qtX(r:Nat)(x:Operand):av S (.store (some r) sz x y) dst σ Hr H K=((ev σ y).kn=true/\(ev σ y).cells.length=sz/\UV r sz (ev σ x) (ev σ y) H K):=by
 simp only[av];congr 2
@[simp ↓] theorem qvT(x:Operand):ax S (.store rt sz x y) dst σ H K=((ev σ y).kn=true/\(ev σ y).cells.length=sz/\L5 sz (ev σ x) (ev σ y) H K):=i' rfl
@[simp ↓] theorem qsE(x:Operand):ax S (.append rt el n bytes x y) dst σ H K=ui n (ev σ y) H λes2=>qh9 dst el n bytes (ev σ x) es2 H K:=i' rfl
@[simp ↓] theorem qpH(x:Operand):av S (.append none el n bytes x y) dst σ Hr H K=ui n (ev σ y) Hr λes2=>qly dst el n bytes (ev σ x) es2 H K:=by
 simp only[av];congr 1
@[simp ↓] theorem qpG(r:Nat)(x:Operand):av S (.append (some r) el n bytes x y) dst σ Hr H K=ui n (ev σ y) Hr λes2=>qlx r el n bytes (ev σ x) es2 H K:=by
 simp only[av];congr 1
@[simp ↓] theorem qv2(x:Operand):ax S (.clear n agg z x) dst σ H K=qlh n (QY agg z) (ev σ x) H K:=i' rfl
@[simp ↓] theorem qzl(x:Operand):ax S (.copy n x y) dst σ H K=mw n (ev σ y) H λsrc=>qld n (ev σ x) src H K:=i' rfl
@[simp ↓] theorem qzn(args:List Operand):ax S (.call f args) dst σ H K=(S f).pt (dst.getD 0) (args.map (ev σ)) H K:=i' rfl
@[simp ↓] theorem qt3(r:Nat)(args:List Operand):av S (.callb r f args) dst σ Hr H K=MA r dst (S f) (args.map (ev σ)) H K:=i' rfl
@[simp ↓] theorem qv3(f:Operand)(args:List Operand):ax S (.callv f args) dst σ H K=Cb S (ev σ f) (dst.getD 0) (args.map (ev σ)) H K:=i' rfl
@[simp ↓] theorem qxh(args:List Operand):av S (.call f args) dst σ Hr H K=qcN dst (S f) (args.map (ev σ)) H K:=i' rfl
end
def qqC(σ:Sg)(t s:Nat)(d:D):upd σ t d s=if s=t then d else σ s:=i' rfl
def Yo(σ:Sg)(t:Nat)(d:D):fG σ (some t) d=upd σ t d:=i' rfl
def qm0(σ:Sg)(d:D):fG σ none d=σ:=i' rfl
def qm1(H:ab)(t s:Nat)(d:Option Res):ai H t d s=if s=t then d else H s:=i' rfl
attribute [simp] Yo qm0 qm1
@[simp] theorem qer(σ:Sg)(t:Nat):ev σ (.tmp t)=σ t:=i' rfl
@[simp] theorem qjw(σ:Sg)(x:Value):ev σ (.const x)=qc x:=i' rfl
@[simp] theorem qwK:ev σ (.func f)= .clo f []:=i' rfl
@[simp] theorem qwL(b:Bool):qc (.bool b)= .v (.bool b):=i' rfl
@[simp] theorem qqz(k:IntKind)(n:Int):qc (.int k n)= .v (.int k n):=i' rfl
@[simp] theorem qz6:qc (.string s)= .v (.string s):=i' rfl
@[simp] theorem qz7(a:Option Addr):qc (.pointer a)= .v (.pointer a):=i' rfl
@[simp] theorem qts(a:Option Addr)(l c:Nat):qc (.slice a l c)= .v (.slice a l c):=i' rfl
def qn6(t:Nat)(l:List Nat)(σ:Sg):ja (t::l) σ=upd (ja l σ) t (σ t):=i' rfl
@[simp] theorem qx6:jc [] H=λ_=>none:=i' rfl
@[simp] theorem qkx(t:Nat)(l:List Nat)(H:ab):jc (t::l) H=ai (jc l H) t (H t):=i' rfl
@[simp] theorem qxr:bV i=none:=i' rfl
@[simp] theorem qxS:ny [] σ=True:=i' rfl
@[simp] theorem quv(l:List (Nat×D)):ny ((t,d)::l) σ=(TN (σ t) d/\ny l σ):=i' rfl
@[simp] theorem qxH:tj [] H=True:=i' rfl
@[simp] theorem qul(d:Res)(l:List (Nat×Res)):tj ((t,d)::l) H=((H t=some d\/isNilRow d)/\tj l H):=i' rfl
@[simp] theorem sub_self(d:D):TN d d=True:=by
 cases d<;>simp[TN]
@[simp] theorem qAd(a:D):TN a (.v x)=(a= .v x):=i' rfl
@[simp] theorem qqH(a:D)(x:List D):TN a (.list n x)=(a= .list n x\/(a= .v (.slice none 0 0)/\x=[])):=i' rfl
@[simp] theorem qtz(a:D):TN a .any=True:=i' rfl
@[simp] theorem qqI(a:D):TN a (.cptr cs o)=(a= .cptr cs o):=i' rfl
@[simp] theorem qty(y:Value):TN (.own i x) (.own j y)=(x=y):=by simp[TN]
@[simp] theorem qqG(y:Value):TN (.v x) (.own j y)=(x=y):=by simp[TN]
@[simp] theorem qBQ:KD true sz cs off= .agg ((cs.drop off).take sz):=i' rfl
@[simp] theorem qBR:KD false sz cs off=(cs[off]?).getD .any:=i' rfl
@[simp ↓] theorem qtV(rs:List ak)(K:D->ab->Prop):tJ rs K .norm σ H=yb rs σ H λds=>K (dI ds) H:=i' rfl
@[simp ↓] theorem qxb(rs:List ak)(K:D->ab->Prop):tJ rs K .ret σ H=yb rs σ H λds=>K (dI ds) H:=i' rfl
@[simp ↓] theorem qxa(K:List D->Prop):yb [] σ H K=K []:=i' rfl
@[simp ↓] theorem qw9(r:List ak)(K:List D->Prop):yb (.tmp t::r) σ H K=yb r σ H λds=>K (σ t::ds):=i' rfl
@[simp ↓] theorem qtU(r:List ak)(K:List D->Prop):yb (.cell t agg sz::r) σ H K=JN agg sz (σ t) H λd=>yb r σ H λds=>K (d::ds):=i' rfl
@[simp] theorem qBI:dI [d]=d:=i' rfl
@[simp] theorem qBJ:dI []= .tup []:=i' rfl
@[simp] theorem qBH(l:List D):dI (d::e::l)= .tup (d::e::l):=i' rfl
@[simp] theorem qBT:D.kn (.v x)=true:=i' rfl
@[simp] theorem qvQ:D.cells (.v x)=[.v x]:=i' rfl
@[simp] theorem qx5:D.kn (.agg cs)=true:=i' rfl
@[simp] theorem qp5:D.cells (.agg cs)=cs:=i' rfl
@[simp] theorem quH:D.kn (.list n es)=true:=i' rfl
@[simp] theorem qoQ:D.cells (.list n es)=[.list n es]:=i' rfl
@[simp] theorem quI:D.kn (.cptr cs o)=true:=i' rfl
@[simp] theorem qoR:D.cells (.cptr cs o)=[.cptr cs o]:=i' rfl
@[simp] theorem qx3:D.kn (.own i x)=true:=i' rfl
@[simp] theorem qp3:D.cells (.own i x)=[.own i x]:=i' rfl
@[simp] theorem qx2(k:Nat):D.kn (.sub i v n k o)=true:=i' rfl
@[simp] theorem qp2(k:Nat):D.cells (.sub i v n k o)=[.sub i v n k o]:=i' rfl
@[simp] theorem qx4:D.kn (.clo f cs)=true:=i' rfl
@[simp] theorem qp4:D.cells (.clo f cs)=[.clo f cs]:=i' rfl
@[simp] theorem qry:D.kn (.undef)=false:=i' rfl
@[simp] theorem qx1:D.kn (.tup cs)=false:=i' rfl
@[simp] theorem qBl(n:Int):mr (.v (.int k n))=some (k,n):=i' rfl
attribute [simp] setAt
@[simp] theorem qyP(n:Int):enc n= .v (.int .i64 n):=rfl
@[simp] theorem qvx(b:Bool):enc b= .v (.bool b):=rfl
@[simp] theorem qyO:enc s= .v (.string s):=rfl
@[simp] theorem qvw{X:Type}[Cod X](l:List X):enc l= .list (Cod.wd X) (l.map enc):=rfl
@[simp] theorem qwF:Cod.wd Int=1:=rfl
@[simp] theorem qti:Cod.wd Bool=1:=rfl
@[simp] theorem qwE:Cod.wd ByteArray=1:=rfl
@[simp] theorem qth{X:Type}[Cod X]:Cod.wd (List X)=1:=rfl
@[congr] theorem quT(q:d=d₁):Ph d A B=Ph d₁ A B:=by subst q;rfl
@[congr] theorem qpW{s:Nat}{b:Bool}(q:d=d₁):oQ s b σ d yes no=oQ s b σ d₁ yes no:=by subst q;rfl
@[congr] theorem qrb(q:d=d₁):JH d A B=JH d₁ A B:=by subst q;rfl
@[congr] theorem qrx(q:r=r₁):Wh agg sz b off r K=Wh agg sz b off r₁ K:=by subst q;rfl
@[congr] theorem qrw(q:r=r₁):Wg agg sz x n i off r K=Wg agg sz x n i off r₁ K:=by subst q;rfl
@[congr] theorem qrv(q:d=d₁):JN agg sz d H K=JN agg sz d₁ H K:=by subst q;rfl
@[congr] theorem que(q:d=d₁):qc4 d K=qc4 d₁ K:=by subst q;rfl
@[congr] theorem qqh(q:d=d₁)(he:e=e₁):N0 op d e K=N0 op d₁ e₁ K:=by subst q;subst he;rfl
@[congr] theorem qtQ(q:d=d₁):qjP d K=qjP d₁ K:=by subst q;rfl
@[congr] theorem qvM{o:Option Bool}{q:Option Bool}(ho:o=q):ZC o K=ZC q K:=by subst ho;rfl
@[congr] theorem qvL(q:d=d₁)(he:e=e₁):qdM op d e K=qdM op d₁ e₁ K:=by subst q;subst he;rfl
@[congr] theorem qvo{o:Option Bool}{q:Option Bool}(ho:o=q):qdE neg o K=qdE neg q K:=by subst ho;rfl
@[congr] theorem quc(q:d=d₁):qkj d K=qkj d₁ K:=by subst q;rfl
@[congr] theorem qso(q:d=d₁):qbD k d K=qbD k d₁ K:=by subst q;rfl
@[congr] theorem qpY(q:d=d₁):EF off d K=EF off d₁ K:=by subst q;rfl
@[congr] theorem qpU{k:Int}(q:r=r₁):Nh n k id x r K=Nh n k id x r₁ K:=by subst q;rfl
@[congr] theorem qpT{i:D}(hi:i=i₁)(q:d=d₁):ED n i d H K=ED n i₁ d₁ H K:=by subst hi;subst q;rfl
@[congr] theorem qqX{i:D}(hi:i=i₁)(q:d=d₁):qad i d K=qad i₁ d₁ K:=by subst hi;subst q;rfl
@[congr] theorem qve{o:Option D}{q:Option D}(ho:o=q):qg5 o K=qg5 q K:=by subst ho;rfl
@[congr] theorem qvd(q:d=d₁):qg4 d i K=qg4 d₁ i K:=by subst q;rfl
@[congr] theorem quF(q:r=r₁):qgo x r K=qgo x r₁ K:=by subst q;rfl
@[congr] theorem quE(q:d=d₁):SH d H K=SH d₁ H K:=by subst q;rfl
@[congr] theorem qwa(q:r=r₁):qhS x r K=qhS x r₁ K:=by subst q;rfl
@[congr] theorem qv9(q:d=d₁):qlp d H K=qlp d₁ H K:=by subst q;rfl
@[congr] theorem qqW(q:d=d₁):U2 d K=U2 d₁ K:=by subst q;rfl
@[congr] theorem qum(q:d=d₁)(he:e=e₁):qf6 mx d e K=qf6 mx d₁ e₁ K:=by subst q;subst he;rfl
@[congr] theorem qtF{K:List D->Prop}(q:r=r₁):qjF n x r K=qjF n x r₁ K:=by subst q;rfl
@[congr] theorem qtE{K:List D->Prop}(q:r=r₁):qcw n lo hi x r K=qcw n lo hi x r₁ K:=by subst q;rfl
@[congr] theorem qpA{y:D}{K:D->ab->Prop}(q:y=y₁)(u:r=r₁):DZ sz id b off y r H K=DZ sz id b off y₁ r₁ H K:=by subst q;subst u;rfl
@[congr] theorem qpz{y:D}{K:D->ab->Prop}(q:y=y₁)(u:r=r₁):DY sz id x n i off y r H K=DY sz id x n i off y₁ r₁ H K:=by subst q;subst u;rfl
@[congr] theorem qpy{y:D}{K:D->ab->Prop}(q:d=d₁)(u:y=y₁):L5 sz d y H K=L5 sz d₁ y₁ H K:=by subst q;subst u;rfl
@[congr] theorem qwi{K:D->ab->Prop}(q:es2=es2₁)(u:r=r₁):qib el n bytes id x es2 r H K=qib el n bytes id x es2₁ r₁ H K:=by subst q;subst u;rfl
@[congr] theorem qvO{z:D}{K:D->ab->Prop}(hz:z=z₁)(q:r=r₁):qhN n id x n' lo hi z r H K=qhN n id x n' lo hi z₁ r₁ H K:=by subst hz;subst q;rfl
@[congr] theorem qvN{z:D}{K:D->ab->Prop}(hz:z=z₁)(q:d=d₁):qlh n z d H K=qlh n z₁ d₁ H K:=by subst hz;subst q;rfl
@[congr] theorem qvJ{K:D->ab->Prop}(q:src=src₁)(u:r=r₁):qhz n id x n' lo hi src r H K=qhz n id x n' lo hi src₁ r₁ H K:=by subst q;subst u;rfl
@[congr] theorem qvI{K:D->ab->Prop}(u:d=d₁)(q:src=src₁):qld n d src H K=qld n d₁ src₁ H K:=by subst u;subst q;rfl
@[congr] theorem qu4{K:Sg->ab->Prop}(q:r=r₁):qgR t x id σ r H K=qgR t x id σ r₁ H K:=by subst q;rfl
@[congr] theorem qu3{K:Sg->ab->Prop}(q:r=r₁):qgQ t n x id n' lo hi σ r H K=qgQ t n x id n' lo hi σ r₁ H K:=by subst q;rfl
@[congr] theorem qu1{K:Sg->ab->Prop}(q:d=d₁):qgP t n d σ H K=qgP t n d₁ σ H K:=by subst q;rfl
@[congr] theorem qtN(q:d=d₁):qjM d K=qjM d₁ K:=by subst q;rfl
@[congr] theorem qtD{K:D->ab->Prop}(q:d=d₁):qeN t d H K=qeN t d₁ H K:=by subst q;rfl
@[congr] theorem qtJ{K:D->ab->Prop}(q:r=r₁):qeQ id b r H K=qeQ id b r₁ H K:=by subst q;rfl
@[congr] theorem qtI{K:D->ab->Prop}(q:d=d₁):qjI d H K=qjI d₁ H K:=by subst q;rfl
@[congr] theorem qwj{K:D->ab->Prop}(q:dst=dst₁)(w:d=d₁)(u:es2=es2₁):qly dst el n b d es2 H K=qly dst₁ el n b d₁ es2₁ H K:=by subst q;subst w;subst u;rfl
@[congr] theorem qwg{r:Nat}{q:Option Res}{K:D->ab->Prop}{u:Option Res}(w:es2=es2₁)(C:q=u):qh8 el n b r x es2 q H K=qh8 el n b r x es2₁ u H K:=by subst w;subst C;rfl
@[congr] theorem qwf{r:Nat}{K:D->ab->Prop}(u:d=d₁)(q:es2=es2₁):qlx r el n b d es2 H K=qlx r el n b d₁ es2₁ H K:=by subst u;subst q;rfl
@[congr] theorem qqO{r:Nat}{y:D}{K:D->ab->Prop}(q:d=d₁)(u:y=y₁):UV r sz d y H K=UV r sz d₁ y₁ H K:=by subst q;subst u;rfl
@[congr] theorem qwh{K:D->ab->Prop}(q:dst=dst₁)(w:d=d₁)(u:es2=es2₁):qh9 dst el n bytes d es2 H K=qh9 dst₁ el n bytes d₁ es2₁ H K:=by subst q;subst w;subst u;rfl
@[congr] theorem qsw{f:D}{d:Nat}{K:D->ab->Prop}(u:f=f₁)(q:args=args₁):Cb S f d args H K=Cb S f₁ d args₁ H K:=by subst u;subst q;rfl
@[congr] theorem qqR{K:List D->Prop}(h:d=d'):mw n d H K=mw n d' H K:=by subst h;rfl
@[congr] theorem qtG{K:List D->Prop}(h:d=d'):ui n d H K=ui n d' H K:=by subst h;rfl
@[congr] theorem qqj{s u:Spc}{d:Nat}{q:List D}{K:D->ab->Prop}(h:s=u)(w:ds=q):s.pt d ds H K=u.pt d q H K:=by subst h;subst w;rfl
@[congr] theorem qsm{lo hi q u:Option (Option (IntKind×Int))}{K:Nat->Nat->Prop}(h1:lo=q)(h2:hi=u)(h3:n=n'):lG lo hi n K=lG q u n' K:=by subst h1;subst h2;subst h3;rfl
end
section
open Cod (enc dec)
variable {dq:Prop}
@[simp] theorem qrR(H:ab)(x y:Value):FrzTo H (.v x) (.v y)=(x=y):=by
 refine propext ⟨λh=>?_,λh=>h ▸ .same _⟩;cases h;rfl
@[simp] theorem qu0(H:ab)(d:D):FrzTo H d d=True:=propext ⟨λ_=>trivial,λ_=> .same d⟩
@[simp] theorem qyp(H:ab)(n:Nat)(es:List D):FrzTo H (.v (.slice none 0 0)) (.list n es)=(es=[]):=by
 refine propext ⟨λh=>?_,λh=>h ▸ .nil n⟩;cases h;rfl
def qkO{H:ab}{a b h b':D}(h1:FrzTo H a h)(h2:FrzTo H b b'):FrzTo H (.tup [a,b]) (.tup [h,b']):=
 .tup rfl λk c c' hc d=>by
  match k with
  | 0=>simp at hc d;subst hc;subst d;exact h1
  | 1=>simp at hc d;subst hc;subst d;exact h2
  |k+2=>simp at hc
def qkN{H:ab}{a b c j b' c':D}(h1:FrzTo H a j)(h2:FrzTo H b b')(h3:FrzTo H c c'):FrzTo H (.tup [a,b,c]) (.tup [j,b',c']):=
 .tup rfl λk d l hc h=>by
  match k with
  | 0=>simp at hc h;subst hc;subst h;exact h1
  | 1=>simp at hc h;subst hc;subst h;exact h2
  | 2=>simp at hc h;subst hc;subst h;exact h3
  |k+3=>simp at hc
section
variable {P:Program}{S:Nat->Spc}{f:Nat}{im:List Nat}{cc:CC}{rs:List ak}{N:Nat}
end
end
end Go.Gv
