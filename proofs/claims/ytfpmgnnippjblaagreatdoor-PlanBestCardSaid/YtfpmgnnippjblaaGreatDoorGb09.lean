/- T10 -/
import Derived.Test.YtfpmgnnippjblaaGreatDoorGb08
set_option linter.all false
namespace Go.Gv
section
open Cod (enc dec)
variable {b b' bytes el el' f g hi i id j len lo n n' n'' o off sz t:Nat}{H:ab}{K:D->Prop}{dst dst₁ rt:Option Nat}{v x x':Value}{L d d' d₁ e e₁ f₁ i₁ y₁ z₁:D}{k k' kd:IntKind}{σ:Sg}{args args₁ caps cells cs ds es es2 es2₁ src src₁:List D}{agg mx neg:Bool}{r r₁:Option Res}{c y:Operand}{a h l:Int}{s:ByteArray}{z:List Value}{no yes:Sg->Prop}{A B p:Prop}{op:BinOp}{ks:List qbp}{S:Nat->Spc}{ps xs:List Operand}{s₁:Spc}
section
variable {S:Nat->Spc}{K:Ex->Sg->ab->Prop}{σ:Sg}{H:ab}
def qcg(S:Nat->Spc)(b:CC)(K:Ex->Sg->ab->Prop):Ex->Sg->ab->Prop:=λe σ H=>match e with
 | .norm=>vc S b K σ H
 |e=>K e σ H
def qg3(id:Nat)(K:Ex->Sg->ab->Prop):Ex->Sg->ab->Prop:=λe σ H=>match e with
 | .ex i=>if i=id then K .norm σ H else K (.ex i) σ H
 |e=>K e σ H
def qgl(q:qsv)(x:q.X)(K:Ex->Sg->ab->Prop):Ex->Sg->ab->Prop:=λe u H'=>match e with
 | .norm=>∃y,q.P y/\Wk u H' (q.s y) (q.h y)/\q.m y<q.m x
 |e=>K e u H'
def RJ(d:D)(A B:Prop):Prop:=match d with
 | .v (.bool t)=>(t=true->A)/\(t=false->B)
 | _=>False
@[simp ↓] theorem qrB:vc S .skip K σ H=K .norm σ H:=i' rfl
@[simp ↓] theorem qpB(l:List CI):vc S (.reg l) K σ H=Fs S l σ H (K .norm):=i' rfl
@[simp ↓] theorem qCq(p l:List CI):vc S (.regd p l) K σ H=kF S p σ (bN p H) H λσ H=>Fs S l σ H (K .norm):=i' rfl
@[simp ↓] theorem qeU(a b:CC):vc S (.seq a b) K σ H=vc S a (qcg S b K) σ H:=i' rfl
@[simp ↓] theorem Wx(b:CC):qcg S b K .norm σ H=vc S b K σ H:=i' rfl
@[simp ↓] theorem qkL(b:CC)(i:Nat):qcg S b K (.ex i) σ H=K (.ex i) σ H:=i' rfl
@[simp ↓] theorem qrC(b:CC):qcg S b K .ret σ H=K .ret σ H:=i' rfl
@[simp ↓] theorem qvH(c:Operand)(a b:CC):vc S (.ite c a b) K σ H=RJ (ev σ c) (vc S a K σ H) (vc S b K σ H):=i' rfl
@[simp] theorem qrF(t:Bool)(A B:Prop):RJ (.v (.bool t)) A B=((t=true->A)/\(t=false->B)):=i' rfl
@[simp high] theorem qCs:RJ (.v (.bool true)) A B=A:=by simp[RJ]
@[simp high] theorem qCt:RJ (.v (.bool false)) A B=B:=by simp[RJ]
@[simp ↓] theorem Wz(id:Nat)(b:CC):vc S (.block id b) K σ H=vc S b (qg3 id K) σ H:=i' rfl
@[simp ↓] theorem qrH(id:Nat):qg3 id K .norm σ H=K .norm σ H:=i' rfl
@[simp ↓] theorem qkN(id:Nat):qg3 id K .ret σ H=K .ret σ H:=i' rfl
@[simp ↓] theorem qc9(id i:Nat):qg3 id K (.ex i) σ H=if i=id then K .norm σ H else K (.ex i) σ H:=i' rfl
@[simp ↓] theorem qrG(i:Nat):vc S (.exit i) K σ H=K (.ex i) σ H:=i' rfl
@[simp ↓] theorem qEC:vc S .ret K σ H=K .ret σ H:=i' rfl
@[simp ↓] theorem qCr(ls lh:List Nat)(c:CC):vc S (.keep ls lh c) K σ H=vc S c K (jq ls σ) (jr lh H):=i' rfl
theorem Wy(k:Nat)(b:CC):vc S (.loop k b) K σ H=∃q:qsv,(∃x,q.P x/\Wk σ H (q.s x) (q.h x))/\∀x,q.P x->vc S b (qgl q x K) (q.s x) (q.h x):=i' rfl
theorem qpC(k:Nat)(c:CC):vc S (.cut k c) K σ H=∃(q:Sg) (H':ab),Wk σ H q H'/\vc S c K q H':=i' rfl
@[simp ↓] theorem qrE(q:qsv)(x:q.X):qgl q x K .norm σ H=∃y,q.P y/\Wk σ H (q.s y) (q.h y)/\q.m y<q.m x:=i' rfl
@[simp ↓] theorem qrD(q:qsv)(x:q.X):qgl q x K .ret σ H=K .ret σ H:=i' rfl
@[simp ↓] theorem qkM(q:qsv)(x:q.X)(i:Nat):qgl q x K (.ex i) σ H=K (.ex i) σ H:=i' rfl
end
def px(s:Nat)(b:Bool)(σ:Sg)(d:D)(yes no:Sg->Prop):Prop:=match d with
 | .v (.bool t)=>(t=b->yes (upd σ s (.v (.bool b))))/\(t=(!b)->no (upd σ s (.v (.bool (!b)))))
 | .undef=>no σ
 | _=>False
@[simp high] theorem qFw(s:Nat):px s true σ (.v (.bool true)) yes no=yes (upd σ s (.v (.bool true))):=by simp[px]
@[simp high] theorem qFx(s:Nat):px s true σ (.v (.bool false)) yes no=no (upd σ s (.v (.bool false))):=by simp[px]
@[simp high] theorem qFy(s:Nat):px s false σ (.v (.bool true)) yes no=no (upd σ s (.v (.bool true))):=by simp[px]
@[simp high] theorem qFz(s:Nat):px s false σ (.v (.bool false)) yes no=yes (upd σ s (.v (.bool false))):=by simp[px]
@[simp] theorem qFv(s:Nat)(b:Bool):px s b σ .undef yes no=no σ:=i' rfl
@[simp] theorem qFL(s:Nat)(b t:Bool):px s b σ (.v (.bool t)) yes no=((t=b->yes (upd σ s (.v (.bool b))))/\(t=(!b)->no (upd σ s (.v (.bool (!b)))))):=i' rfl
section
variable {S:Nat->Spc}{σ:Sg}{H Hr:ab}
@[simp ↓] theorem qpt(K:Sg->ab->Prop):Fs S [] σ H K=K σ H:=i' rfl
@[simp ↓] theorem qrd(K:Sg->ab->Prop)(d:Option Nat)(c:COp)(r:List CI):Fs S (.op d none c::r) σ H K=aI S c d σ H λx H'=>Fs S r (fK σ d x) H' K:=i' rfl
@[simp ↓] theorem qEb(K:Sg->ab->Prop)(d:Option Nat)(s:Nat)(b:Bool)(c:COp)(r:List CI):Fs S (.op d (some (s,b)) c::r) σ H K=px s b σ (σ s) (λσ=>aI S c d σ H λx H'=>Fs S r (fK σ d x) H' K) (λσ=>Fs S r (fK σ d .undef) H K):=i' rfl
@[simp ↓] theorem qEc(K:Sg->ab->Prop)(r:List CI):Fs S (.frz t n::r) σ H K=L2 t n σ H λq H'=>Fs S r q H' K:=i' rfl
@[simp ↓] theorem qD2(K:Sg->ab->Prop):kF S [] σ Hr H K=K σ H:=i' rfl
@[simp ↓] theorem qD3(K:Sg->ab->Prop)(a:Nat)(r:List CI):kF S (.frz a b::r) σ Hr H K=kF S r σ (bN r Hr) H K:=i' rfl
@[simp ↓] theorem qE4(K:Sg->ab->Prop)(d:Option Nat)(c:COp)(r:List CI):kF S (.op d none c::r) σ Hr H K=aw S c d σ Hr H λx H'=>kF S r (fK σ d x) Hr H' K:=i' rfl
@[simp ↓] theorem qD1(K:Sg->ab->Prop)(d:Option Nat)(s:Nat)(b:Bool)(c:COp)(r:List CI):kF S (.op d (some (s,b)) c::r) σ Hr H K=px s b σ (σ s) (λσ=>aw S c d σ Hr H λx H'=>kF S r (fK σ d x) Hr H' K) (λσ=>kF S r (fK σ d .undef) Hr H K):=i' rfl
end
def LR(d:D)(A B:Prop):Prop:=match d with
 | .v (.bool t)=>(t=true->A)/\(t=false->B)
 | _=>False
@[simp high] theorem qxL:LR (.v (.bool true)) A B=A:=by simp[LR]
@[simp high] theorem qxM:LR (.v (.bool false)) A B=B:=by simp[LR]
def ZT(agg:Bool)(sz b off:Nat)(r:Option Res)(K:D->Prop):Prop:=match r with
 |some (.box b' cells)=>b'=b/\off+sz<=cells.length/\K (MY agg sz cells off)
 | _=>False
def ZS(agg:Bool)(sz:Nat)(x:Value)(n i off:Nat)(r:Option Res)(K:D->Prop):Prop:=match r with
 |some (.row x' _ n' es)=>x'=x/\n'=n/\off+sz<=n/\i<es.length/\∀d,es[i]? =some d->K (MY agg sz d.cells off)
 | _=>False
def LW(agg:Bool)(sz:Nat)(d:D)(H:ab)(K:D->Prop):Prop:=match d with
 | .cptr cs off=>off+sz<=cs.length/\K (MY agg sz cs off)
 | .bptr id b off=>ZT agg sz b off (H id) K
 | .eptr id x n i off=>ZS agg sz x n i off (H id) K
 | _=>False
@[simp] theorem qyb:LW agg sz (.cptr cs off) H K=(off+sz<=cs.length/\K (MY agg sz cs off)):=i' rfl
@[simp] theorem qyc:LW agg sz (.bptr i b off) H K=ZT agg sz b off (H i) K:=i' rfl
@[simp] theorem qya(k:Nat):LW agg sz (.eptr i x n k off) H K=ZS agg sz x n k off (H i) K:=i' rfl
@[simp] theorem qye:ZT agg sz b off (some (.box b' cells)) K=(b'=b/\off+sz<=cells.length/\K (MY agg sz cells off)):=i' rfl
@[simp] theorem qyd:ZS agg sz x n i off (some (.row x' el n' es)) K=(x'=x/\n'=n/\off+sz<=n/\i<es.length/\∀d,es[i]? =some d->K (MY agg sz d.cells off)):=i' rfl
def qgg(d:D)(K:D->Prop):Prop:=match d with
 | .cptr cs off=>K (.cptr cs off)
 | .bptr id b off=>K (.bptr id b off)
 | .eptr id x n i off=>K (.eptr id x n i off)
 | .tape L=>K (.tape L)
 | .clo f caps=>K (.clo f caps)
 | _=>False
@[simp] theorem qA1:qgg (.cptr cs off) K=K (.cptr cs off):=i' rfl
@[simp] theorem qA2:qgg (.bptr i b off) K=K (.bptr i b off):=i' rfl
def Qp(op:BinOp)(d e:D)(K:D->Prop):Prop:=match d,e with
 | .v (.int k a), .v (.int k' b)=>qgx op k k'/\gV op k a b K
 | _,_=>False
@[simp] theorem qlv(op:BinOp)(k k':IntKind)(a b:Int)(K:D->Prop):Qp op (.v (.int k a)) (.v (.int k' b)) K=(qgx op k k'/\gV op k a b K):=i' rfl
@[simp] theorem qnP(k k':IntKind):qgx .add k k'=(k=k'):=i' rfl
@[simp] theorem qyo:qgx .sub k k'=(k=k'):=i' rfl
@[simp] theorem qyt:qgx .mul k k'=(k=k'):=i' rfl
@[simp] theorem qys:qgx .quo k k'=(k=k'):=i' rfl
@[simp] theorem qyr:qgx .rem k k'=(k=k'):=i' rfl
@[simp] theorem qyu:qgx .and k k'=(k=k'):=i' rfl
@[simp] theorem qBD:qgx .or k k'=(k=k'):=i' rfl
@[simp] theorem qyq:qgx .shl k k'=True:=i' rfl
@[simp] theorem qyp:qgx .shr k k'=True:=i' rfl
@[simp ↓] theorem qg6(k:IntKind)(a b:Int)(K:D->Prop):gV .add k a b K=(InR k (a+b)/\K (.v (.int k (a+b)))):=i' rfl
@[simp ↓] theorem qtj(b:Int):gV .sub k a b K=(InR k (a -b)/\K (.v (.int k (a -b)))):=i' rfl
@[simp ↓] theorem qto(b:Int):gV .mul k a b K=(InR k (a*b)/\K (.v (.int k (a*b)))):=i' rfl
@[simp ↓] theorem qtn(b:Int):gV .quo k a b K=(b≠0/\InR k (a.tdiv b)/\K (.v (.int k (a.tdiv b)))):=i' rfl
@[simp ↓] theorem qtm(b:Int):gV .rem k a b K=(b≠0/\K (.v (.int k (a.tmod b)))):=i' rfl
@[simp ↓] theorem qtp(b:Int):gV .and k a b K=K (.v (.int k (qa8 k a b))):=i' rfl
@[simp ↓] theorem qwj(b:Int):gV .or k a b K=K (.v (.int k (qsU k a b))):=i' rfl
@[simp ↓] theorem qtl(b:Int):gV .shl k a b K=(0<=b/\K (.v (.int k (UH k a b)))):=i' rfl
@[simp ↓] theorem qtk(b:Int):gV .shr k a b K=(0<=b/\K (.v (.int k (qcd k a b)))):=i' rfl
def qm8(d:D)(K:D->Prop):Prop:=match d with
 | .v (.int _ n)=>K (.v (.string (Utf8.encode n)))
 | _=>False
@[simp] theorem qAE(n:Int):qm8 (.v (.int k n)) K=K (.v (.string (Utf8.encode n))):=i' rfl
def qdd(o:Option Bool)(K:D->Prop):Prop:=match o with|some t=>K (.v (.bool t))|none=>False
@[simp] theorem qr0(t:Bool)(K:D->Prop):qdd (some t) K=K (.v (.bool t)):=i' rfl
def qgX(op:BinOp)(d e:D)(K:D->Prop):Prop:=match d,e with
 | .v (.int k a), .v (.int k' b)=>k=k'/\qdd (WE op a b) K
 | .v (.string a), .v (.string b)=>qdd (qaM op a b) K
 | _,_=>False
@[simp] theorem qrZ(op:BinOp)(k k':IntKind)(a b:Int)(K:D->Prop):qgX op (.v (.int k a)) (.v (.int k' b)) K=(k=k'/\qdd (WE op a b) K):=i' rfl
@[simp] theorem qCG(a b:ByteArray):qgX op (.v (.string a)) (.v (.string b)) K=qdd (qaM op a b) K:=i' rfl
@[simp] theorem qle(a b:Int):WE .lss a b=some (decide (a<b)):=i' rfl
@[simp] theorem qvX(b:Int):WE .leq a b=some (decide (a<=b)):=i' rfl
@[simp] theorem qvY(b:Int):WE .gtr a b=some (decide (b<a)):=i' rfl
@[simp] theorem qvZ(b:Int):WE .geq a b=some (decide (b<=a)):=i' rfl
@[simp] theorem qvU(a b:ByteArray):qaM .lss a b=some (Op.bytesLess a.toList b.toList):=i' rfl
@[simp] theorem qvV(a b:ByteArray):qaM .gtr a b=some (!(Op.bytesLess a.toList b.toList||a.toList==b.toList)):=i' rfl
@[simp] theorem qvW(a b:ByteArray):qaM .geq a b=some (!Op.bytesLess a.toList b.toList):=i' rfl
def qgO(neg:Bool)(o:Option Bool)(K:D->Prop):Prop:=match o with
 |some p=>K (.v (.bool (if neg then !p else p)))
 |none=>False
@[simp] theorem qCj(p:Bool):qgO false (some p) K=K (.v (.bool p)):=i' rfl
@[simp] theorem qCi(p:Bool):qgO true (some p) K=K (.v (.bool (!p))):=i' rfl
@[simp] theorem qEw(k:qbp)(a b:D):qkF false [k] a b=Wt k a b:=i' rfl
@[simp] theorem qEv(a b:List D):qkF true ks (.agg a) (.agg b)=qc6 ks a b:=i' rfl
@[simp] theorem qEu:qc6 [] [] []=some true:=i' rfl
@[simp] theorem qEt(k:qbp)(a b:D)(as u:List D):qc6 (k::ks) (a::as) (b::u)=(Wt k a b).bind λp=>(qc6 ks as u).bind λq=>some (p && q):=i' rfl
@[simp] theorem qEA(b:Int):Wt .int (.v (.int k a)) (.v (.int k' b))=if k=k' then some (decide (a=b))else none:=i' rfl
@[simp] theorem qEx(a b:ByteArray):Wt .str (.v (.string a)) (.v (.string b))=some (decide (a=b)):=i' rfl
@[simp] theorem qEy:Wt .nil (.v (.slice none 0 0)) (.v (.slice none 0 0))=some true:=i' rfl
@[simp] theorem qEz(n:Nat)(a:D)(l:List D):Wt .nil (.list n (a::l)) (.v (.slice none 0 0))=some false:=i' rfl
@[simp] theorem qEB(a b:Bool):Wt .bool (.v (.bool a)) (.v (.bool b))=some (decide (a=b)):=i' rfl
def qjv(d:D)(K:D->Prop):Prop:=match d with
 | .v (.bool b)=>K (.v (.bool (!b)))
 | _=>False
@[simp] theorem qAX(b:Bool):qjv (.v (.bool b)) K=K (.v (.bool (!b))):=i' rfl
def qe1(k:IntKind)(d:D)(K:D->Prop):Prop:=match d with
 | .v (.int _ n)=>K (.v (.int k (k.wrap n)))
 | _=>False
@[simp] theorem qzj(n:Int):qe1 k (.v (.int k' n)) K=K (.v (.int k (k.wrap n))):=i' rfl
def qcc(n id:Nat)(x:Value)(lo hi:Option (Option (IntKind×Int)))(r:Option Res)(K:D->Prop):Prop:=match r with
 |some (.row x' _ n' es)=>x'=x/\n'=n/\lY lo hi es.length λl h=>K (.sub id x n l h)
 | _=>False
@[simp] theorem qtZ(lo hi:Option (Option (IntKind×Int))):qcc n i x lo hi (some (.row x' el n' es)) K=(x'=x/\n'=n/\lY lo hi es.length λl h=>K (.sub i x n l h)):=i' rfl
@[simp] theorem qCC(K:Nat->Nat->Prop):lY (some (some (k,l))) none len K=(0<=l/\l<=len/\K l.toNat len):=i' rfl
@[simp] theorem qCB(K:Nat->Nat->Prop):lY none (some (some (k,h))) len K=(0<=h/\h<=len/\K 0 h.toNat):=i' rfl
def Oj(n:Nat)(d:D)(lo hi:Option (Option (IntKind×Int)))(H:ab)(K:D->Prop):Prop:=match d with
 | .list n' es=>n'=n/\(match lo,hi with
   |none,none=>K (.list n es)
   |some (some (_,l)),none=>0<=l/\l<=es.length/\K (.list n (es.drop l.toNat))
   |none,some (some (_,h))=>0<=h/\h<=es.length/\K (.list n (es.take h.toNat))
   |some (some (_,l)),some (some (_,h))=>0<=l/\l<=h/\h<=es.length/\K (.list n ((es.take h.toNat).drop l.toNat))
   | _,_=>False)
 | .own id x=>qcc n id x lo hi (H id) K
 | .sub id x n' a b=>n'=n/\lY lo hi (b -a) λl h=>K (.sub id x n (a+l) (a+h))
 | .v (.slice none 0 0)=>lY lo hi 0 λ_ _=>K (.v (.slice none 0 0))
 | _=>False
@[simp] theorem qtY(lo hi:Option (Option (IntKind×Int))):Oj n (.own i x) lo hi H K=qcc n i x lo hi (H i) K:=i' rfl
@[simp] theorem qsP:Oj n (.list n' es) (some (some (k,l))) none H K=(n'=n/\0<=l/\l<=es.length/\K (.list n (es.drop l.toNat))):=i' rfl
@[simp] theorem qsO:Oj n (.list n' es) none (some (some (k,l))) H K=(n'=n/\0<=l/\l<=es.length/\K (.list n (es.take l.toNat))):=i' rfl
def Ni(d:D)(lo hi:Option (Option (IntKind×Int)))(K:D->Prop):Prop:=match d with
 | .v (.string s)=>(match lo,hi with
   |none,none=>K (.v (.string (s.extract 0 s.size)))
   |some (some (_,l)),none=>0<=l/\l<=s.size/\K (.v (.string (s.extract l.toNat s.size)))
   |none,some (some (_,h))=>0<=h/\h<=s.size/\K (.v (.string (s.extract 0 h.toNat)))
   |some (some (_,l)),some (some (_,h))=>0<=l/\l<=h/\h<=s.size/\K (.v (.string (s.extract l.toNat h.toNat)))
   | _,_=>False)
 | _=>False
@[simp] theorem qql:Ni (.v (.string s)) (some (some (k,l))) none K=(0<=l/\l<=s.size/\K (.v (.string (s.extract l.toNat s.size)))):=i' rfl
@[simp] theorem qqm:Ni (.v (.string s)) (some (some (k,l))) (some (some (k',h))) K=(0<=l/\l<=h/\h<=s.size/\K (.v (.string (s.extract l.toNat h.toNat)))):=i' rfl
def Gh(off:Nat)(d:D)(K:D->Prop):Prop:=match d with
 | .cptr cs o=>K (.cptr cs (o+off))
 | .bptr id b o=>K (.bptr id b (o+off))
 | .eptr id x n i o=>K (.eptr id x n i (o+off))
 | _=>False
@[simp] theorem qvu:Gh off (.cptr cs o) K=K (.cptr cs (o+off)):=i' rfl
@[simp] theorem qvv:Gh off (.bptr i b o) K=K (.bptr i b (o+off)):=i' rfl
@[simp] theorem qvt(k:Nat):Gh off (.eptr i x n k o) K=K (.eptr i x n k (o+off)):=i' rfl
def PE(n:Nat)(k:Int)(id:Nat)(x:Value)(r:Option Res)(K:D->Prop):Prop:=match r with
 |some (.row x' _ n' es)=>x'=x/\n'=n/\0<=k/\k<es.length/\K (.eptr id x n k.toNat 0)
 | _=>False
def Gf(n:Nat)(i d:D)(H:ab)(K:D->Prop):Prop:=match i with
 | .v (.int _ k)=>match d with
   | .list n' es=>n'=n/\0<=k/\k<es.length/\∀d,es[k.toNat]? =some d->K (.cptr d.cells 0)
   | .own id x=>PE n k id x (H id) K
   | .sub id x n' lo hi=>n'=n/\0<=k/\k<(hi -lo:Nat)/\K (.eptr id x n (lo+k.toNat) 0)
   | _=>False
 | _=>False
@[simp] theorem qu8(k:Int):Gf n (.v (.int kd k)) (.sub i x n' lo hi) H K=(n'=n/\0<=k/\k<(hi -lo:Nat)/\K (.eptr i x n (lo+k.toNat) 0)):=i' rfl
@[simp] theorem qva(k:Int):Gf n (.v (.int kd k)) (.list n' es) H K=(n'=n/\0<=k/\k<es.length/\∀d,es[k.toNat]? =some d->K (.cptr d.cells 0)):=i' rfl
@[simp] theorem qu9(k:Int):Gf n (.v (.int kd k)) (.own i x) H K=PE n k i x (H i) K:=i' rfl
@[simp] theorem qvb(k:Int):PE n k i x (some (.row x' el n' es)) K=(x'=x/\n'=n/\0<=k/\k<es.length/\K (.eptr i x n k.toNat 0)):=i' rfl
def qdK(i d:D)(K:D->Prop):Prop:=match i with
 | .v (.int _ k)=>match d with
   | .v (.string s)=>0<=k/\k<s.size/\∀c,s.data[k.toNat]? =some c->K (.v (.int .u8 c.toNat))
   | _=>False
 | _=>False
@[simp] theorem qxp(k:Int):qdK (.v (.int kd k)) (.v (.string s)) K=(0<=k/\k<s.size/\∀c,s.data[k.toNat]? =some c->K (.v (.int .u8 c.toNat))):=i' rfl
def qkD(o:Option D)(K:D->Prop):Prop:=match o with
 |some d=>K d
 |none=>False
def qkC(d:D)(i:Nat)(K:D->Prop):Prop:=match d with
 | .tup ds=>qkD ds[i]? K
 | _=>False
@[simp] theorem qCd:qkC (.tup ds) i K=qkD ds[i]? K:=i' rfl
@[simp] theorem qCe:qkD (some d) K=K d:=i' rfl
def qjR(x:Value)(r:Option Res)(K:D->Prop):Prop:=match r with
 |some (.row x' _ _ es)=>x'=x/\((es.length:Int)<=9223372036854775807->K (.v (.int .i64 es.length)))
 | _=>False
def VT(d:D)(H:ab)(K:D->Prop):Prop:=match d with
 | .list _ es=>(es.length:Int)<=9223372036854775807->K (.v (.int .i64 es.length))
 | .own id x=>qjR x (H id) K
 | .v (.slice _ n _)=>K (.v (.int .i64 n))
 | .sub _ _ _ lo hi=>((hi -lo:Nat):Int)<=9223372036854775807->K (.v (.int .i64 (hi -lo:Nat)))
 | _=>False
@[simp] theorem qBo:VT (.sub i x n lo hi) H K=(((hi -lo:Nat):Int)<=9223372036854775807->K (.v (.int .i64 (hi -lo:Nat)))):=i' rfl
@[simp] theorem qBr:VT (.list n es) H K=((es.length:Int)<=9223372036854775807->K (.v (.int .i64 es.length))):=i' rfl
@[simp] theorem qBp:VT (.own i x) H K=qjR x (H i) K:=i' rfl
@[simp] theorem qyg(a:Option Addr)(c:Nat):VT (.v (.slice a n c)) H K=K (.v (.int .i64 n)):=i' rfl
@[simp high] theorem qBq:VT (.v (.slice none 0 0)) H K=K (.v (.int .i64 0)):=i' rfl
@[simp] theorem qBs:qjR x (some (.row x' el n es)) K=(x'=x/\((es.length:Int)<=9223372036854775807->K (.v (.int .i64 es.length)))):=i' rfl
def qlm(x:Value)(r:Option Res)(K:D->Prop):Prop:=match r with
 |some (.row x' _ n es)=>x'=x/\n=1/\qpE es=true/\K (.v (.string (qr3 es)))
 | _=>False
@[simp] theorem qC8:qlm x (some (.row x' el n es)) K=(x'=x/\n=1/\qpE es=true/\K (.v (.string (qr3 es)))):=i' rfl
def qoH(d:D)(H:ab)(K:D->Prop):Prop:=match d with
 | .own i x=>qlm x (H i) K
 | .v (.slice none 0 0)=>K (.v (.string ⟨#[]⟩))
 | _=>False
@[simp] theorem qC7:qoH (.own i x) H K=qlm x (H i) K:=i' rfl
def YN(d:D)(K:D->Prop):Prop:=match d with
 | .v (.string s)=>(s.size:Int)<=9223372036854775807->K (.v (.int .i64 s.size))
 | _=>False
@[simp] theorem qxo:YN (.v (.string s)) K=((s.size:Int)<=9223372036854775807->K (.v (.int .i64 s.size))):=i' rfl
def qjB(mx:Bool)(d e:D)(K:D->Prop):Prop:=match d,e with
 | .v (.int k a), .v (.int k' b)=>k=k'/\K (.v (.int k (if mx then max a b else min a b)))
 | _,_=>False
@[simp] theorem qBc(b:Int):qjB mx (.v (.int k a)) (.v (.int k' b)) K=(k=k'/\K (.v (.int k (if mx then max a b else min a b)))):=i' rfl
@[simp ↓] theorem qth(K:List D->Prop):kD σ [] cs K=K cs:=i' rfl
@[simp ↓] theorem qr4(x:Operand)(r:List (Nat×Nat×Operand))(K:List D->Prop):kD σ ((off,sz,x)::r) cs K=((ev σ x).kn=true/\(ev σ x).cells.length=sz/\kD σ r (setAt cs off (ev σ x).cells) K):=i' rfl
@[simp] theorem qsT:kj n []=True:=i' rfl
@[simp] theorem qqP(r:List D):kj n (d::r)=(d.kn=true/\d.cells.length=n/\kj n r):=i' rfl
def qmY(n:Nat)(x:Value)(r:Option Res)(K:List D->Prop):Prop:=match r with
 |some (.row x' _ n' es)=>x'=x/\n'=n/\K es
 | _=>False
def qfH(n lo hi:Nat)(x:Value)(r:Option Res)(K:List D->Prop):Prop:=match r with
 |some (.row x' _ n'' es)=>x'=x/\n''=n/\K ((es.take hi).drop lo)
 | _=>False
@[simp] theorem qAp(K:List D->Prop):qfH n lo hi x (some (.row x' el n' es)) K=(x'=x/\n'=n/\K ((es.take hi).drop lo)):=i' rfl
@[simp] theorem qDM(K:List D->Prop):mP n (.sub i x n' lo hi) H K=(n'=n/\qfH n lo hi x (H i) K):=by
 simp only[mP];cases H i with
 |none=>simp[qfH]
 |some r=>cases r<;>simp[qfH,and_left_comm]
@[simp] theorem qAs(K:List D->Prop):uG n (.list n' es) H K=(n'=n/\K es):=i' rfl
@[simp] theorem qAr(K:List D->Prop):uG n (.own i x) H K=qmY n x (H i) K:=i' rfl
@[simp] theorem qAt(K:List D->Prop):uG n (.v (.string s)) H K=(n=1/\K (HJ s)):=i' rfl
@[simp] theorem qAq(K:List D->Prop):qmY n x (some (.row x' el n' es)) K=(x'=x/\n'=n/\K es):=i' rfl
def qBd(t el n bytes:Nat)(agg:Bool)(z:List Value)(l c:Option (IntKind×Int))(H:ab)(K:D->ab->Prop):Prop:=match l,c with
 |some (_,l),some (_,c)=>0<=l/\l<=c/\bytes*c<=140737488355328/\c<=140737488355328/\∀x,K (.own t x) (aj H t (some (.row x el n (List.replicate l.toNat (if agg then .agg (z.map rk)else rk (z.headD (.bool false)))))))
 | _,_=>False
@[simp] theorem qEa(c:Int)(K:D->ab->Prop):qBd t el n bytes agg z (some (k,l)) (some (k',c)) H K=(0<=l/\l<=c/\bytes*c<=140737488355328/\c<=140737488355328/\∀x,K (.own t x) (aj H t (some (.row x el n (List.replicate l.toNat (if agg then .agg (z.map rk)else rk (z.headD (.bool false)))))))):=i' rfl
def FD(sz id b off:Nat)(y:D)(r:Option Res)(H:ab)(K:D->ab->Prop):Prop:=match r with
 |some (.box b' cells)=>b'=b/\off+sz<=cells.length/\K .undef (aj H id (some (.box b' (setAt cells off y.cells))))
 | _=>False
def FC(sz id:Nat)(x:Value)(n i off:Nat)(y:D)(r:Option Res)(H:ab)(K:D->ab->Prop):Prop:=match r with
 | some (.row x' el n' es)=>x'=x/\n'=n/\0<n/\off+sz<=n/\i<es.length/\∀d,es[i]? =some d->
    K .undef (aj H id (some (.row x' el n' (es.set i (if off=0/\sz=n then y else .agg (setAt d.cells off y.cells))))))
 | _=>False
def Og(sz:Nat)(d y:D)(H:ab)(K:D->ab->Prop):Prop:=match d with
 | .bptr id b off=>FD sz id b off y (H id) H K
 | .eptr id x n i off=>FC sz id x n i off y (H id) H K
 | _=>False
@[simp] theorem qtQ(y:D)(K:D->ab->Prop):Og sz (.bptr i b off) y H K=FD sz i b off y (H i) H K:=i' rfl
@[simp] theorem qtP(k:Nat)(y:D)(K:D->ab->Prop):Og sz (.eptr i x n k off) y H K=FC sz i x n k off y (H i) H K:=i' rfl
@[simp] theorem qtS(y:D)(K:D->ab->Prop):FD sz i b off y (some (.box b' cells)) H K=(b'=b/\off+sz<=cells.length/\K .undef (aj H i (some (.box b' (setAt cells off y.cells))))):=i' rfl
@[simp] theorem qtR(k:Nat)(y:D)(K:D->ab->Prop):FC sz i x n k off y (some (.row x' el n' es)) H K=(x'=x/\n'=n/\0<n/\off+sz<=n/\k<es.length/\∀d,es[k]? =some d->
 K .undef (aj H i (some (.row x' el n' (es.set k (if off=0/\sz=n then y else .agg (setAt d.cells off y.cells))))))):=i' rfl
def qlz(el n bytes id:Nat)(x:Value)(es2:List D)(r:Option Res)(H:ab)(K:D->ab->Prop):Prop:=match r with
 |some (.row x' el' n' es)=>x'=x/\el'=el/\n'=n/\(es.length+es2.length) *bytes<=140737488355328/\es.length+es2.length<=140737488355328/\∀v,K (.own id v) (aj H id (some (.row v el n (es++es2))))
 | _=>False
def qDk(el n bytes id:Nat)(x:Value)(n' lo hi:Nat)(es2:List D)(r:Option Res)(H:ab)(K:D->ab->Prop):Prop:=match r with
 |some (.row x' el' n'' es)=>x'=x/\el'=el/\n'=n/\n''=n/\lo=0/\(hi+es2.length) *bytes<=140737488355328/\hi+es2.length<=140737488355328/\∀v,K (.own id v) (aj H id (some (.row v el n (es.take hi++es2))))
 | _=>False
def qCJ(n id:Nat)(x:Value)(z:D)(r:Option Res)(H:ab)(K:D->ab->Prop):Prop:=match r with
 |some (.row x' el n' es)=>x'=x/\n'=n/\K (.tup []) (aj H id (some (.row x' el n' (List.replicate es.length z))))
 | _=>False
def qlg(n id:Nat)(x:Value)(n' lo hi:Nat)(z:D)(r:Option Res)(H:ab)(K:D->ab->Prop):Prop:=match r with
 |some (.row x' el n'' es)=>x'=x/\n'=n/\n''=n/\K (.tup []) (aj H id (some (.row x' el n'' (es.take lo++List.replicate (hi -lo) z++es.drop hi))))
 | _=>False
def qoA(n:Nat)(z d:D)(H:ab)(K:D->ab->Prop):Prop:=match d with
 | .own id x=>qCJ n id x z (H id) H K
 | .sub id x n' lo hi=>qlg n id x n' lo hi z (H id) H K
 | .v (.slice none 0 0)=>K (.tup []) H
 | _=>False
@[simp] theorem qCH(z:D)(K:D->ab->Prop):qoA n z (.sub i x n' lo hi) H K=qlg n i x n' lo hi z (H i) H K:=i' rfl
@[simp] theorem qCI(z:D)(K:D->ab->Prop):qlg n i x n' lo hi z (some (.row x' el n'' es)) H K=(x'=x/\n'=n/\n''=n/\K (.tup []) (aj H i (some (.row x' el n'' (es.take lo++List.replicate (hi -lo) z++es.drop hi))))):=i' rfl
def qCF(n id:Nat)(x:Value)(src:List D)(r:Option Res)(H:ab)(K:D->ab->Prop):Prop:=match r with
 |some (.row x' el n' es)=>x'=x/\n'=n/\K (.v (.int .i64 (min src.length es.length:Nat))) (aj H id (some (.row x' el n' (src.take es.length++es.drop src.length))))
 | _=>False
def qk4(n id:Nat)(x:Value)(n' lo hi:Nat)(src:List D)(r:Option Res)(H:ab)(K:D->ab->Prop):Prop:=match r with
 |some (.row x' el n'' es)=>x'=x/\n'=n/\n''=n/\K (.v (.int .i64 (min src.length (hi -lo):Nat))) (aj H id (some (.row x' el n'' (es.take lo++src.take (hi -lo) ++es.drop (lo+min src.length (hi -lo))))))
 | _=>False
def qow(n:Nat)(d:D)(src:List D)(H:ab)(K:D->ab->Prop):Prop:=match d with
 | .own id x=>qCF n id x src (H id) H K
 | .sub id x n' lo hi=>qk4 n id x n' lo hi src (H id) H K
 | _=>False
@[simp] theorem qCD(K:D->ab->Prop):qow n (.sub i x n' lo hi) src H K=qk4 n i x n' lo hi src (H i) H K:=i' rfl
@[simp] theorem qCE(K:D->ab->Prop):qk4 n i x n' lo hi src (some (.row x' el n'' es)) H K=(x'=x/\n'=n/\n''=n/\K (.v (.int .i64 (min src.length (hi -lo):Nat))) (aj H i (some (.row x' el n'' (es.take lo++src.take (hi -lo) ++es.drop (lo+min src.length (hi -lo))))))):=i' rfl
@[simp] theorem qDB:Xh true z= .agg (z.map rk):=i' rfl
@[simp] theorem qDC:Xh false z=rk (z.headD (.bool false)):=i' rfl
def qkm(t:Nat)(x:Value)(id:Nat)(σ:Sg)(r:Option Res)(H:ab)(K:Sg->ab->Prop):Prop:=match r with
 |some (.row x' _ n' es)=>x'=x/\K (qgM id x (.list n' es) σ) (aj H id none)
 | _=>False
def qB8(t b off:Nat)(id:Nat)(σ:Sg)(r:Option Res)(H:ab)(K:Sg->ab->Prop):Prop:=match r with
 |some (.box b' cs)=>b'=b/\K (upd σ t (.cptr cs off)) (aj H id none)
 | _=>False
def qkl(t n:Nat)(x:Value)(id n' lo hi:Nat)(σ:Sg)(r:Option Res)(H:ab)(K:Sg->ab->Prop):Prop:=match r with
 |some (.row x' el n'' es)=>x'=x/\n'=n''/\(if n=0 then lo=0/\∀v,K (upd σ t (.own id v)) (aj H id (some (.row v el n'' (es.take hi))))else K (upd σ t (.list n'' ((es.take hi).drop lo))) (aj H id none))
 | _=>False
def qkk(t n:Nat)(d:D)(σ:Sg)(H:ab)(K:Sg->ab->Prop):Prop:=match d with
 | .own id x=>qkm t x id σ (H id) H K
 | .bptr id b off=>qB8 t b off id σ (H id) H K
 | .v (.slice none 0 0)=>K (upd σ t (.list n [])) H
 | .sub id x n' lo hi=>qkl t n x id n' lo hi σ (H id) H K
 | .agg cs=>KS cs H λcs' H'=>K (upd σ t (.agg cs')) H'
 | _=>K σ H
@[simp ↓] theorem qFB(K:Sg->ab->Prop):L2 t n σ H K=qkk t n (σ t) σ H K:=i' rfl
@[simp] theorem qBY(K:Sg->ab->Prop):qkk t n (.own i x) σ H K=qkm t x i σ (H i) H K:=i' rfl
@[simp] theorem qBX(K:Sg->ab->Prop):qkk t n (.sub i x n' lo hi) σ H K=qkl t n x i n' lo hi σ (H i) H K:=i' rfl
@[simp] theorem qB0(K:Sg->ab->Prop):qkm t x i σ (some (.row x' el n' es)) H K=(x'=x/\K (qgM i x (.list n' es) σ) (aj H i none)):=i' rfl
@[simp] theorem qB2(y:Value):M1 id x L (.own i y)=open Classical in (if i=id/\y=x then L else .own i y):=i' rfl
@[simp] theorem qB7:M1 id x L (.any)= .any:=i' rfl
@[simp] theorem qB4:M1 id x L (.agg cs)= .agg cs:=i' rfl
@[simp] theorem qB3:M1 id x L (.list n es)= .list n es:=i' rfl
@[simp] theorem qB5:M1 id x L (.cptr cs o)= .cptr cs o:=i' rfl
@[simp] theorem qB6:M1 id x L (.bptr i b o)= .bptr i b o:=i' rfl
@[simp] theorem qB1(T:List Int):M1 id x L (.tape T)= .tape T:=i' rfl
@[simp] theorem qBZ(K:Sg->ab->Prop):qkl t n x i n' lo hi σ (some (.row x' el n'' es)) H K=(x'=x/\n'=n''/\(if n=0 then lo=0/\∀v,K (upd σ t (.own i v)) (aj H i (some (.row v el n'' (es.take hi))))else K (upd σ t (.list n'' ((es.take hi).drop lo))) (aj H i none))):=i' rfl
def qm5(d:D)(K:D->Prop):Prop:=match d with
 | .v (.string s)=>K (.list 1 (s.data.toList.map λc=> .v (.int .u8 c.toNat)))
 | _=>False
@[simp] theorem qAz:qm5 (.v (.string s)) K=K (.list 1 (s.data.toList.map λc=> .v (.int .u8 c.toNat))):=i' rfl
def qh2(t:Nat)(d:D)(H:ab)(K:D->ab->Prop):Prop:=match d with
 | .v (.string s)=>∀b,K (.bptr t b 0) (aj H t (some (.iter b s 0)))
 | _=>False
@[simp] theorem qAo(K:D->ab->Prop):qh2 t (.v (.string s)) H K=∀b,K (.bptr t b 0) (aj H t (some (.iter b s 0))):=i' rfl
def qh7(id b:Nat)(r:Option Res)(H:ab)(K:D->ab->Prop):Prop:=match r with
 |some (.iter b' s pos)=>b'=b/\(pos<s.size->K (.tup [.v (.bool true), .v (.int .i64 pos), .v (.int .i32 (Utf8.decode s pos).1)]) (aj H id (some (.iter b' s (pos+ (Utf8.decode s pos).2)))))/\(¬pos<s.size->K (.tup [.v (.bool false)]) H)
 | _=>False
@[simp] theorem qAv(pos:Nat)(K:D->ab->Prop):qh7 id b (some (.iter b' s pos)) H K=(b'=b/\(pos<s.size->K (.tup [.v (.bool true), .v (.int .i64 pos), .v (.int .i32 (Utf8.decode s pos).1)]) (aj H id (some (.iter b' s (pos+ (Utf8.decode s pos).2)))))/\(¬pos<s.size->K (.tup [.v (.bool false)]) H)):=i' rfl
def qm1(d:D)(H:ab)(K:D->ab->Prop):Prop:=match d with
 | .bptr id b off=>off=0/\qh7 id b (H id) H K
 | _=>False
@[simp] theorem qAu(K:D->ab->Prop):qm1 (.bptr i b off) H K=(off=0/\qh7 i b (H i) H K):=i' rfl
def qoP(dst:Option Nat)(el n b:Nat)(d:D)(es2:List D)(H:ab)(K:D->ab->Prop):Prop:=match dst,d with
 |some t, .v (.slice none 0 0)=>es2.length*b<=140737488355328/\es2.length<=140737488355328/\∀v,K (.own t v) (aj H t (some (.row v el n es2)))
 | _,_=>False
@[simp] theorem qDn(K:D->ab->Prop):qoP (some t) el n b (.v (.slice none 0 0)) es2 H K=(es2.length*b<=140737488355328/\es2.length<=140737488355328/\∀v,K (.own t v) (aj H t (some (.row v el n es2)))):=i' rfl
def qlw(el n b r:Nat)(x:Value)(es2:List D)(q:Option Res)(H:ab)(K:D->ab->Prop):Prop:=match q with
 |some (.row x' el' n' es)=>x'=x/\el'=el/\n'=n/\(es.length+es2.length) *b<=140737488355328/\es.length+es2.length<=140737488355328/\∀v,K (.own r v) (aj H r (some (.row v el n (es++es2))))
 | _=>False
@[simp] theorem qDh(r:Nat)(K:D->ab->Prop):qlw el n b r x es2 (some (.row x' el' n' es)) H K=(x'=x/\el'=el/\n'=n/\(es.length+es2.length) *b<=140737488355328/\es.length+es2.length<=140737488355328/\∀v,K (.own r v) (aj H r (some (.row v el n (es++es2))))):=i' rfl
def qoO(r el n b:Nat)(d:D)(es2:List D)(H:ab)(K:D->ab->Prop):Prop:=match d with
 | .own id x=>id=r/\qlw el n b r x es2 (H r) H K
 | _=>False
@[simp] theorem qDg(r:Nat)(K:D->ab->Prop):qoO r el n b (.own i x) es2 H K=(i=r/\qlw el n b r x es2 (H r) H K):=i' rfl
def YH(r sz:Nat)(d y:D)(H:ab)(K:D->ab->Prop):Prop:=match d with
 | .bptr id b off=>id=r/\FD sz r b off y (H r) H K
 | .eptr id x n i off=>id=r/\FC sz r x n i off y (H r) H K
 | _=>False
@[simp] theorem qxf(r:Nat)(y:D)(K:D->ab->Prop):YH r sz (.bptr i b off) y H K=(i=r/\FD sz r b off y (H r) H K):=i' rfl
@[simp] theorem qxe(r:Nat)(k:Nat)(y:D)(K:D->ab->Prop):YH r sz (.eptr i x n k off) y H K=(i=r/\FC sz r x n k off y (H r) H K):=i' rfl
def qDm(dst:Option Nat)(el n bytes:Nat)(es2:List D)(H:ab)(K:D->ab->Prop):Prop:=match dst with
 |some t=>es2.length*bytes<=140737488355328/\es2.length<=140737488355328/\∀v,K (.own t v) (aj H t (some (.row v el n es2)))
 |none=>False
def qlx(dst:Option Nat)(el n bytes:Nat)(d:D)(es2:List D)(H:ab)(K:D->ab->Prop):Prop:=match d with
 | .own id x=>qlz el n bytes id x es2 (H id) H K
 | .v (.slice none 0 0)=>qDm dst el n bytes es2 H K
 | .sub id x n' lo hi=>qDk el n bytes id x n' lo hi es2 (H id) H K
 | _=>False
@[simp] theorem qDi(K:D->ab->Prop):qlx dst el n bytes (.own i x) es2 H K=qlz el n bytes i x es2 (H i) H K:=i' rfl
@[simp] theorem qDj(K:D->ab->Prop):qlx (some t) el n bytes (.v (.slice none 0 0)) es2 H K=(es2.length*bytes<=140737488355328/\es2.length<=140737488355328/\∀v,K (.own t v) (aj H t (some (.row v el n es2)))):=i' rfl
@[simp] theorem qDl(K:D->ab->Prop):qlz el n bytes i x es2 (some (.row x' el' n' es)) H K=(x'=x/\el'=el/\n'=n/\(es.length+es2.length) *bytes<=140737488355328/\es.length+es2.length<=140737488355328/\∀v,K (.own i v) (aj H i (some (.row v el n (es++es2))))):=i' rfl
def Dx(S:Nat->Spc)(f:D)(d:Nat)(args:List D)(H:ab)(K:D->ab->Prop):Prop:=match f with
 | .clo g caps=>(S g).pt d (args++caps) H K
 | _=>False
@[simp] theorem qzq(d:Nat)(K:D->ab->Prop):Dx S (.clo g caps) d args H K=(S g).pt d (args++caps) H K:=i' rfl
@[congr] theorem quc{r:Nat}{s:Spc}{K:D->ab->Prop}(hs:s=s₁)(q:args=args₁):SH r dst s args H K=SH r dst s₁ args₁ H K:=by subst hs;subst q;rfl
@[congr] theorem qxK{s:Spc}{K:D->ab->Prop}(hs:s=s₁)(q:args=args₁):qfX dst s args H K=qfX dst s₁ args₁ H K:=by subst hs;subst q;rfl
section
variable {S:Nat->Spc}{σ:Sg}{H Hr:ab}{K:D->ab->Prop}
@[simp ↓] theorem qCP(dst:Option Nat)(x:Operand):aI S (.mv x) dst σ H K=((λd=>K d H) (ev σ x)):=i' rfl
@[simp ↓] theorem qE3(x:Operand):aw S (.mv x) dst σ Hr H K=((λd=>K d H) (ev σ x)):=i' rfl
@[simp ↓] theorem qCO(x:Operand):aI S (.pick c x y) dst σ H K=(LR (ev σ c) ((λd=>K d H) (ev σ x)) ((λd=>K d H) (ev σ y))):=i' rfl
@[simp ↓] theorem qAN(x:Operand):aw S (.pick c x y) dst σ Hr H K=(LR (ev σ c) ((λd=>K d H) (ev σ x)) ((λd=>K d H) (ev σ y))):=i' rfl
@[simp ↓] theorem qzA(ps:List (Nat×Nat×Operand)):aI S (.build z ps) dst σ H K=(kD σ ps (z.map rk) λcs=>(λd=>K d H) (.agg cs)):=i' rfl
@[simp ↓] theorem qxG(ps:List (Nat×Nat×Operand)):aw S (.build z ps) dst σ Hr H K=(kD σ ps (z.map rk) λcs=>(λd=>K d H) (.agg cs)):=i' rfl
@[simp ↓] theorem qv9:aI S (.bslice el n ps) dst σ H K=(kj n (ps.map (ev σ))/\(λd=>K d H) (.list n (ps.map (ev σ)))):=i' rfl
@[simp ↓] theorem qua:aw S (.bslice el n ps) dst σ Hr H K=(kj n (ps.map (ev σ))/\(λd=>K d H) (.list n (ps.map (ev σ)))):=i' rfl
@[simp ↓] theorem qCT(x:Operand):aI S (.load agg sz x) dst σ H K=(LW agg sz (ev σ x) H (λd=>K d H)):=i' rfl
@[simp ↓] theorem qAO(x:Operand):aw S (.load agg sz x) dst σ Hr H K=(LW agg sz (ev σ x) Hr (λd=>K d H)):=i' rfl
@[simp ↓] theorem qzu(x:Operand):aI S (.nilck x) dst σ H K=(qgg (ev σ x) (λd=>K d H)):=i' rfl
@[simp ↓] theorem qxC(x:Operand):aw S (.nilck x) dst σ Hr H K=(qgg (ev σ x) (λd=>K d H)):=i' rfl
@[simp ↓] theorem qoD(dst:Option Nat)(op:BinOp)(x y:Operand):aI S (.arith op x y) dst σ H K=(Qp op (ev σ x) (ev σ y) (λd=>K d H)):=i' rfl
@[simp ↓] theorem qxH(x:Operand):aw S (.arith op x y) dst σ Hr H K=(Qp op (ev σ x) (ev σ y) (λd=>K d H)):=i' rfl
@[simp ↓] theorem qv8(dst:Option Nat)(op:BinOp)(x y:Operand):aI S (.cmp op x y) dst σ H K=(qgX op (ev σ x) (ev σ y) (λd=>K d H)):=i' rfl
@[simp ↓] theorem qDZ(x:Operand):aw S (.cmp op x y) dst σ Hr H K=(qgX op (ev σ x) (ev σ y) (λd=>K d H)):=i' rfl
@[simp ↓] theorem qEI(x:Operand):aI S (.eql neg agg ks x y) dst σ H K=(qgO neg (qkF agg ks (ev σ x) (ev σ y)) (λd=>K d H)):=i' rfl
@[simp ↓] theorem qDY(x:Operand):aw S (.eql neg agg ks x y) dst σ Hr H K=(qgO neg (qkF agg ks (ev σ x) (ev σ y)) (λd=>K d H)):=i' rfl
@[simp ↓] theorem qED(x:Operand):aI S (.not x) dst σ H K=(qjv (ev σ x) (λd=>K d H)):=i' rfl
@[simp ↓] theorem qDT(x:Operand):aw S (.not x) dst σ Hr H K=(qjv (ev σ x) (λd=>K d H)):=i' rfl
@[simp ↓] theorem qCV(x:Operand):aI S (.conv k x) dst σ H K=(qe1 k (ev σ x) (λd=>K d H)):=i' rfl
@[simp ↓] theorem qEJ:aI S (.clo f xs) dst σ H K=((λd=>K d H) (.clo f (xs.map (ev σ)))):=i' rfl
@[simp ↓] theorem qzt(x:Operand)(lo hi:Option Operand):aI S (.slice n x lo hi) dst σ H K=(Oj n (ev σ x) (lo.map λo=>mL (ev σ o)) (hi.map λo=>mL (ev σ o)) H (λd=>K d H)):=i' rfl
@[simp ↓] theorem qxB(x:Operand)(lo hi:Option Operand):aw S (.slice n x lo hi) dst σ Hr H K=(Oj n (ev σ x) (lo.map λo=>mL (ev σ o)) (hi.map λo=>mL (ev σ o)) Hr (λd=>K d H)):=i' rfl
@[simp ↓] theorem qv3(x:Operand)(lo hi:Option Operand):aI S (.sslice x lo hi) dst σ H K=(Ni (ev σ x) (lo.map λo=>mL (ev σ o)) (hi.map λo=>mL (ev σ o)) (λd=>K d H)):=i' rfl
@[simp ↓] theorem qt8(x:Operand)(lo hi:Option Operand):aw S (.sslice x lo hi) dst σ Hr H K=(Ni (ev σ x) (lo.map λo=>mL (ev σ o)) (hi.map λo=>mL (ev σ o)) (λd=>K d H)):=i' rfl
@[simp ↓] theorem qzx(x:Operand):aI S (.faddr off x) dst σ H K=(Gh off (ev σ x) (λd=>K d H)):=i' rfl
@[simp ↓] theorem qxE(x:Operand):aw S (.faddr off x) dst σ Hr H K=(Gh off (ev σ x) (λd=>K d H)):=i' rfl
@[simp ↓] theorem qzw(x i:Operand):aI S (.iaddr n x i) dst σ H K=(Gf n (ev σ i) (ev σ x) H (λd=>K d H)):=i' rfl
@[simp ↓] theorem qxD(x i:Operand):aw S (.iaddr n x i) dst σ Hr H K=(Gf n (ev σ i) (ev σ x) Hr (λd=>K d H)):=i' rfl
@[simp ↓] theorem qCM(x i:Operand):aI S (.sidx x i) dst σ H K=(qdK (ev σ i) (ev σ x) (λd=>K d H)):=i' rfl
@[simp ↓] theorem qEH(x:Operand):aI S (.ext x i) dst σ H K=(qkC (ev σ x) i (λd=>K d H)):=i' rfl
@[simp ↓] theorem qDX(x:Operand):aw S (.ext x i) dst σ Hr H K=(qkC (ev σ x) i (λd=>K d H)):=i' rfl
@[simp ↓] theorem qEG(x:Operand):aI S (.len x) dst σ H K=(VT (ev σ x) H (λd=>K d H)):=i' rfl
@[simp ↓] theorem qDW(x:Operand):aw S (.len x) dst σ Hr H K=(VT (ev σ x) Hr (λd=>K d H)):=i' rfl
@[simp ↓] theorem qCL(x:Operand):aI S (.slen x) dst σ H K=(YN (ev σ x) (λd=>K d H)):=i' rfl
@[simp ↓] theorem qAM(x:Operand):aw S (.slen x) dst σ Hr H K=(YN (ev σ x) (λd=>K d H)):=i' rfl
@[simp ↓] theorem qCX(x:Operand):aI S (.bstr x) dst σ H K=(qoH (ev σ x) H (λd=>K d H)):=i' rfl
@[simp ↓] theorem qCN(x:Operand):aI S (.rstr x) dst σ H K=(qm8 (ev σ x) (λd=>K d H)):=i' rfl
@[simp ↓] theorem qEF(x:Operand):aI S (.mm mx [x,y]) dst σ H K=qjB mx (ev σ x) (ev σ y) (λd=>K d H):=i' rfl
@[simp ↓] theorem qCY(x:Operand):aI S (.box el true x) dst σ H K=((ev σ x).kn=true/\K (.cptr (ev σ x).cells 0) H):=i' rfl
@[simp ↓] theorem qzB:aI S (.alloc el z) (some t) σ H K=∀b,K (.bptr t b 0) (aj H t (some (.box b (z.map rk)))):=i' rfl
@[simp ↓] theorem qEK(x:Operand):aI S (.box el false x) (some t) σ H K=((ev σ x).kn=true/\∀b,K (.bptr t b 0) (aj H t (some (.box b (ev σ x).cells)))):=i' rfl
@[simp ↓] theorem qv6:aI S (.mslice el n ps) (some t) σ H K=(kj n (ps.map (ev σ))/\∀x,K (.own t x) (aj H t (some (.row x el n (ps.map (ev σ)))))):=i' rfl
@[simp ↓] theorem qtg(l:Operand):aI S (.mkslice el n bytes agg z l c) (some t) σ H K=qBd t el n bytes agg z (mL (ev σ l)) (mL (ev σ c)) H K:=i' rfl
@[simp ↓] theorem qDV(x:Operand):aw S (.mm mx [x,y]) dst σ Hr H K=qjB mx (ev σ x) (ev σ y) (λd=>K d H):=i' rfl
@[simp ↓] theorem qxI:aw S (.alloc el z) (some t) σ Hr H K=∀b,K (.bptr t b 0) (aj H t (some (.box b (z.map rk)))):=i' rfl
@[simp ↓] theorem qt9:aw S (.nslice el n) (some t) σ Hr H K=∀x,K (.own t x) (aj H t (some (.row x el n []))):=i' rfl
@[simp ↓] theorem qsQ(l:Operand):aw S (.mkslice el n bytes agg z l c) (some t) σ Hr H K=qBd t el n bytes agg z (mL (ev σ l)) (mL (ev σ c)) H K:=i' rfl
@[simp ↓] theorem qv5(x:Operand):aI S (.sbytes x) dst σ H K=qm5 (ev σ x) (λd=>K d H):=i' rfl
@[simp ↓] theorem qv4(x:Operand):aI S (.srange x) (some t) σ H K=qh2 t (ev σ x) H K:=by
 simp only[aI,bj,qh2];split<;>simp_all
@[simp ↓] theorem qzs(x:Operand):aI S (.snext x) dst σ H K=qm1 (ev σ x) H K:=i' rfl
@[simp ↓] theorem qxA(r:Nat)(x:Operand):aw S (.store (some r) sz x y) dst σ Hr H K=((ev σ y).kn=true/\(ev σ y).cells.length=sz/\YH r sz (ev σ x) (ev σ y) H K):=by
 simp only[aw];congr 2
@[simp ↓] theorem qzr(x:Operand):aI S (.store rt sz x y) dst σ H K=((ev σ y).kn=true/\(ev σ y).cells.length=sz/\Og sz (ev σ x) (ev σ y) H K):=i' rfl
@[simp ↓] theorem qwa(x:Operand):aI S (.append rt el n bytes x y) dst σ H K=uG n (ev σ y) H λes2=>qlx dst el n bytes (ev σ x) es2 H K:=i' rfl
@[simp ↓] theorem qsS(x:Operand):aw S (.append none el n bytes x y) dst σ Hr H K=uG n (ev σ y) Hr λes2=>qoP dst el n bytes (ev σ x) es2 H K:=by
 simp only[aw];congr 1
@[simp ↓] theorem qsR(r:Nat)(x:Operand):aw S (.append (some r) el n bytes x y) dst σ Hr H K=uG n (ev σ y) Hr λes2=>qoO r el n bytes (ev σ x) es2 H K:=by
 simp only[aw];congr 1
@[simp ↓] theorem qzy(x:Operand):aI S (.clear n agg z x) dst σ H K=qoA n (Xh agg z) (ev σ x) H K:=i' rfl
@[simp ↓] theorem qCU(x:Operand):aI S (.copy n x y) dst σ H K=mP n (ev σ y) H λsrc=>qow n (ev σ x) src H K:=i' rfl
@[simp ↓] theorem qCW(args:List Operand):aI S (.call f args) dst σ H K=(S f).pt (dst.getD 0) (args.map (ev σ)) H K:=i' rfl
@[simp ↓] theorem qxF(r:Nat)(args:List Operand):aw S (.callb r f args) dst σ Hr H K=SH r dst (S f) (args.map (ev σ)) H K:=i' rfl
@[simp ↓] theorem qzz(f:Operand)(args:List Operand):aI S (.callv f args) dst σ H K=Dx S (ev σ f) (dst.getD 0) (args.map (ev σ)) H K:=i' rfl
@[simp ↓] theorem qAP(args:List Operand):aw S (.call f args) dst σ Hr H K=qfX dst (S f) (args.map (ev σ)) H K:=i' rfl
end
def qtI(σ:Sg)(t s:Nat)(d:D):upd σ t d s=if s=t then d else σ s:=i' rfl
def qbQ(σ:Sg)(t:Nat)(d:D):fK σ (some t) d=upd σ t d:=i' rfl
def qp8(σ:Sg)(d:D):fK σ none d=σ:=i' rfl
def qp9(H:ab)(t s:Nat)(d:Option Res):aj H t d s=if s=t then d else H s:=i' rfl
attribute [simp] qbQ qp8 qp9
@[simp] theorem qhG(σ:Sg)(t:Nat):ev σ (.tmp t)=σ t:=i' rfl
@[simp] theorem qmO(σ:Sg)(x:Value):ev σ (.const x)=rk x:=i' rfl
@[simp] theorem qAj:ev σ (.func f)= .clo f []:=i' rfl
@[simp] theorem qAk(b:Bool):rk (.bool b)= .v (.bool b):=i' rfl
@[simp] theorem qtG(k:IntKind)(n:Int):rk (.int k n)= .v (.int k n):=i' rfl
@[simp] theorem qDE:rk (.string s)= .v (.string s):=i' rfl
@[simp] theorem qDF(a:Option Addr):rk (.pointer a)= .v (.pointer a):=i' rfl
@[simp] theorem qw8(a:Option Addr)(l c:Nat):rk (.slice a l c)= .v (.slice a l c):=i' rfl
def qrf(t:Nat)(l:List Nat)(σ:Sg):jq (t::l) σ=upd (jq l σ) t (σ t):=i' rfl
@[simp] theorem qBA:jr [] H=λ_=>none:=i' rfl
@[simp] theorem qnN(t:Nat)(l:List Nat)(H:ab):jr (t::l) H=aj (jr l H) t (H t):=i' rfl
@[simp] theorem qAZ:dj i=none:=i' rfl
@[simp] theorem qBm:nS [] σ=True:=i' rfl
@[simp] theorem qx8(l:List (Nat×D)):nS ((t,d)::l) σ=(qbe (σ t) d/\nS l σ):=i' rfl
@[simp] theorem qBb:tZ [] H=True:=i' rfl
@[simp] theorem qxY(d:Res)(l:List (Nat×Res)):tZ ((t,d)::l) H=((H t=some d\/isNilRow d)/\tZ l H):=i' rfl
@[simp] theorem sub_self(d:D):qbe d d=True:=by
 cases d<;>simp[qbe]
@[simp] theorem qDL(a:D):qbe a (.v x)=(a= .v x):=i' rfl
@[simp] theorem qtN(a:D)(x:List D):qbe a (.list n x)=(a= .list n x\/(a= .v (.slice none 0 0)/\x=[])):=i' rfl
@[simp] theorem qxd(a:D):qbe a .any=True:=i' rfl
@[simp] theorem qxc(y:Value):qbe (.own i x) (.own j y)=(x=y):=by simp[qbe]
@[simp] theorem qtM(y:Value):qbe (.v x) (.own j y)=(x=y):=by simp[qbe]
@[simp] theorem qFe:MY true sz cs off= .agg ((cs.drop off).take sz):=i' rfl
@[simp] theorem qFf:MY false sz cs off=(cs[off]?).getD .any:=i' rfl
@[simp ↓] theorem qxx(rs:List ai)(K:D->ab->Prop):wq rs K .norm σ H=yR rs σ H λds=>K (dO ds) H:=i' rfl
@[simp ↓] theorem qAK(rs:List ai)(K:D->ab->Prop):wq rs K .ret σ H=yR rs σ H λds=>K (dO ds) H:=i' rfl
@[simp ↓] theorem qAJ(K:List D->Prop):yR [] σ H K=K []:=i' rfl
@[simp ↓] theorem qAI(r:List ai)(K:List D->Prop):yR (.tmp t::r) σ H K=yR r σ H λds=>K (σ t::ds):=i' rfl
@[simp ↓] theorem qxw(r:List ai)(K:List D->Prop):yR (.cell t agg sz::r) σ H K=LW agg sz (σ t) H λd=>yR r σ H λds=>K (d::ds):=i' rfl
@[simp] theorem qE6:dO [d]=d:=i' rfl
@[simp] theorem qE7:dO []= .tup []:=i' rfl
@[simp] theorem qE5(l:List D):dO (d::e::l)= .tup (d::e::l):=i' rfl
@[simp] theorem qFh:D.kn (.v x)=true:=i' rfl
@[simp] theorem qzo:D.cells (.v x)=[.v x]:=i' rfl
@[simp] theorem qBz:D.kn (.agg cs)=true:=i' rfl
@[simp] theorem qtf:D.cells (.agg cs)=cs:=i' rfl
@[simp] theorem qyk:D.kn (.list n es)=true:=i' rfl
@[simp] theorem qr1:D.cells (.list n es)=[.list n es]:=i' rfl
@[simp] theorem qBx:D.kn (.own i x)=true:=i' rfl
@[simp] theorem qtd:D.cells (.own i x)=[.own i x]:=i' rfl
@[simp] theorem qBw(k:Nat):D.kn (.sub i v n k o)=true:=i' rfl
@[simp] theorem qtc(k:Nat):D.cells (.sub i v n k o)=[.sub i v n k o]:=i' rfl
@[simp] theorem qBy:D.kn (.clo f cs)=true:=i' rfl
@[simp] theorem qte:D.cells (.clo f cs)=[.clo f cs]:=i' rfl
@[simp] theorem quy:D.kn (.undef)=false:=i' rfl
@[simp] theorem qBv:D.kn (.tup cs)=false:=i' rfl
@[simp] theorem qEN(n:Int):mL (.v (.int k n))=some (k,n):=i' rfl
attribute [simp] setAt
@[simp] theorem qCp(n:Int):enc n= .v (.int .i64 n):=rfl
@[simp] theorem qy6(b:Bool):enc b= .v (.bool b):=rfl
@[simp] theorem qCo:enc s= .v (.string s):=rfl
@[simp] theorem qy5{X:Type}[Cod X](l:List X):enc l= .list (Cod.wd X) (l.map enc):=rfl
@[simp] theorem qAe:Cod.wd Int=1:=rfl
@[simp] theorem qwY:Cod.wd Bool=1:=rfl
@[simp] theorem qAd:Cod.wd ByteArray=1:=rfl
@[simp] theorem qwX{X:Type}[Cod X]:Cod.wd (List X)=1:=rfl
@[congr] theorem qyw(q:d=d₁):RJ d A B=RJ d₁ A B:=by subst q;rfl
@[congr] theorem qs6{s:Nat}{b:Bool}(q:d=d₁):px s b σ d yes no=px s b σ d₁ yes no:=by subst q;rfl
@[congr] theorem que(q:d=d₁):LR d A B=LR d₁ A B:=by subst q;rfl
@[congr] theorem qux(q:r=r₁):ZT agg sz b off r K=ZT agg sz b off r₁ K:=by subst q;rfl
@[congr] theorem quw(q:r=r₁):ZS agg sz x n i off r K=ZS agg sz x n i off r₁ K:=by subst q;rfl
@[congr] theorem quv(q:d=d₁):LW agg sz d H K=LW agg sz d₁ H K:=by subst q;rfl
@[congr] theorem qxR(q:d=d₁):qgg d K=qgg d₁ K:=by subst q;rfl
@[congr] theorem qtq(q:d=d₁)(he:e=e₁):Qp op d e K=Qp op d₁ e₁ K:=by subst q;subst he;rfl
@[congr] theorem qxt(q:d=d₁):qm8 d K=qm8 d₁ K:=by subst q;rfl
@[congr] theorem qzl{o:Option Bool}{q:Option Bool}(ho:o=q):qdd o K=qdd q K:=by subst ho;rfl
@[congr] theorem qzk(q:d=d₁)(he:e=e₁):qgX op d e K=qgX op d₁ e₁ K:=by subst q;subst he;rfl
@[congr] theorem qyY{o:Option Bool}{q:Option Bool}(ho:o=q):qgO neg o K=qgO neg q K:=by subst ho;rfl
@[congr] theorem qxP(q:d=d₁):qjv d K=qjv d₁ K:=by subst q;rfl
@[congr] theorem qvT(q:d=d₁):qe1 k d K=qe1 k d₁ K:=by subst q;rfl
@[congr] theorem qs9(q:d=d₁):Gh off d K=Gh off d₁ K:=by subst q;rfl
@[congr] theorem qs4{k:Int}(q:r=r₁):PE n k id x r K=PE n k id x r₁ K:=by subst q;rfl
@[congr] theorem qs3{i:D}(hi:i=i₁)(q:d=d₁):Gf n i d H K=Gf n i₁ d₁ H K:=by subst hi;subst q;rfl
@[congr] theorem qt1{i:D}(hi:i=i₁)(q:d=d₁):qdK i d K=qdK i₁ d₁ K:=by subst hi;subst q;rfl
@[congr] theorem qyP{o:Option D}{q:Option D}(ho:o=q):qkD o K=qkD q K:=by subst ho;rfl
@[congr] theorem qyO(q:d=d₁):qkC d i K=qkC d₁ i K:=by subst q;rfl
@[congr] theorem qyi(q:r=r₁):qjR x r K=qjR x r₁ K:=by subst q;rfl
@[congr] theorem qyh(q:d=d₁):VT d H K=VT d₁ H K:=by subst q;rfl
@[congr] theorem qzG(q:r=r₁):qlm x r K=qlm x r₁ K:=by subst q;rfl
@[congr] theorem qzF(q:d=d₁):qoH d H K=qoH d₁ H K:=by subst q;rfl
@[congr] theorem qt0(q:d=d₁):YN d K=YN d₁ K:=by subst q;rfl
@[congr] theorem qxZ(q:d=d₁)(he:e=e₁):qjB mx d e K=qjB mx d₁ e₁ K:=by subst q;subst he;rfl
@[congr] theorem qxi{K:List D->Prop}(q:r=r₁):qmY n x r K=qmY n x r₁ K:=by subst q;rfl
@[congr] theorem qxh{K:List D->Prop}(q:r=r₁):qfH n lo hi x r K=qfH n lo hi x r₁ K:=by subst q;rfl
@[congr] theorem qsM{y:D}{K:D->ab->Prop}(q:y=y₁)(u:r=r₁):FD sz id b off y r H K=FD sz id b off y₁ r₁ H K:=by subst q;subst u;rfl
@[congr] theorem qsL{y:D}{K:D->ab->Prop}(q:y=y₁)(u:r=r₁):FC sz id x n i off y r H K=FC sz id x n i off y₁ r₁ H K:=by subst q;subst u;rfl
@[congr] theorem qsK{y:D}{K:D->ab->Prop}(q:d=d₁)(u:y=y₁):Og sz d y H K=Og sz d₁ y₁ H K:=by subst q;subst u;rfl
@[congr] theorem qzP{K:D->ab->Prop}(q:es2=es2₁)(u:r=r₁):qlz el n bytes id x es2 r H K=qlz el n bytes id x es2₁ r₁ H K:=by subst q;subst u;rfl
@[congr] theorem qzn{z:D}{K:D->ab->Prop}(hz:z=z₁)(q:r=r₁):qlg n id x n' lo hi z r H K=qlg n id x n' lo hi z₁ r₁ H K:=by subst hz;subst q;rfl
@[congr] theorem qzm{z:D}{K:D->ab->Prop}(hz:z=z₁)(q:d=d₁):qoA n z d H K=qoA n z₁ d₁ H K:=by subst hz;subst q;rfl
@[congr] theorem qzi{K:D->ab->Prop}(q:src=src₁)(u:r=r₁):qk4 n id x n' lo hi src r H K=qk4 n id x n' lo hi src₁ r₁ H K:=by subst q;subst u;rfl
@[congr] theorem qzh{K:D->ab->Prop}(u:d=d₁)(q:src=src₁):qow n d src H K=qow n d₁ src₁ H K:=by subst u;subst q;rfl
@[congr] theorem qyH{K:Sg->ab->Prop}(q:r=r₁):qkm t x id σ r H K=qkm t x id σ r₁ H K:=by subst q;rfl
@[congr] theorem qyG{K:Sg->ab->Prop}(q:r=r₁):qkl t n x id n' lo hi σ r H K=qkl t n x id n' lo hi σ r₁ H K:=by subst q;rfl
@[congr] theorem qyE{K:Sg->ab->Prop}(q:d=d₁):qkk t n d σ H K=qkk t n d₁ σ H K:=by subst q;rfl
@[congr] theorem qxq(q:d=d₁):qm5 d K=qm5 d₁ K:=by subst q;rfl
@[congr] theorem qxg{K:D->ab->Prop}(q:d=d₁):qh2 t d H K=qh2 t d₁ H K:=by subst q;rfl
@[congr] theorem qxm{K:D->ab->Prop}(q:r=r₁):qh7 id b r H K=qh7 id b r₁ H K:=by subst q;rfl
@[congr] theorem qxl{K:D->ab->Prop}(q:d=d₁):qm1 d H K=qm1 d₁ H K:=by subst q;rfl
@[congr] theorem qzQ{K:D->ab->Prop}(q:dst=dst₁)(w:d=d₁)(u:es2=es2₁):qoP dst el n b d es2 H K=qoP dst₁ el n b d₁ es2₁ H K:=by subst q;subst w;subst u;rfl
@[congr] theorem qzN{r:Nat}{q:Option Res}{K:D->ab->Prop}{u:Option Res}(w:es2=es2₁)(C:q=u):qlw el n b r x es2 q H K=qlw el n b r x es2₁ u H K:=by subst w;subst C;rfl
@[congr] theorem qzM{r:Nat}{K:D->ab->Prop}(u:d=d₁)(q:es2=es2₁):qoO r el n b d es2 H K=qoO r el n b d₁ es2₁ H K:=by subst u;subst q;rfl
@[congr] theorem qtT{r:Nat}{y:D}{K:D->ab->Prop}(q:d=d₁)(u:y=y₁):YH r sz d y H K=YH r sz d₁ y₁ H K:=by subst q;subst u;rfl
@[congr] theorem qzO{K:D->ab->Prop}(q:dst=dst₁)(w:d=d₁)(u:es2=es2₁):qlx dst el n bytes d es2 H K=qlx dst₁ el n bytes d₁ es2₁ H K:=by subst q;subst w;subst u;rfl
@[congr] theorem qv2{f:D}{d:Nat}{K:D->ab->Prop}(u:f=f₁)(q:args=args₁):Dx S f d args H K=Dx S f₁ d args₁ H K:=by subst u;subst q;rfl
@[congr] theorem qtW{K:List D->Prop}(h:d=d'):mP n d H K=mP n d' H K:=by subst h;rfl
@[congr] theorem qxj{K:List D->Prop}(h:d=d'):uG n d H K=uG n d' H K:=by subst h;rfl
@[congr] theorem qts{s u:Spc}{d:Nat}{q:List D}{K:D->ab->Prop}(h:s=u)(w:ds=q):s.pt d ds H K=u.pt d q H K:=by subst h;subst w;rfl
@[congr] theorem qvQ{lo hi q u:Option (Option (IntKind×Int))}{K:Nat->Nat->Prop}(h1:lo=q)(h2:hi=u)(h3:n=n'):lY lo hi n K=lY q u n' K:=by subst h1;subst h2;subst h3;rfl
end
section
open Cod (enc dec)
variable {dq:Prop}
@[simp] theorem qvj(H:ab)(x y:Value):FrzTo H (.v x) (.v y)=(x=y):=by
 refine propext ⟨λh=>?_,λh=>h ▸ .same _⟩;cases h;rfl
@[simp] theorem qyD(H:ab)(d:D):FrzTo H d d=True:=propext ⟨λ_=>trivial,λ_=> .same d⟩
@[simp] theorem qBW(H:ab)(n:Nat)(es:List D):FrzTo H (.v (.slice none 0 0)) (.list n es)=(es=[]):=by
 refine propext ⟨λh=>?_,λh=>h ▸ .nil n⟩;cases h;rfl
def qn4{H:ab}{a b h b':D}(h1:FrzTo H a h)(h2:FrzTo H b b'):FrzTo H (.tup [a,b]) (.tup [h,b']):=
 .tup rfl λk c c' hc d=>by
  match k with
  | 0=>simp at hc d;subst hc;subst d;exact h1
  | 1=>simp at hc d;subst hc;subst d;exact h2
  |k+2=>simp at hc
def qn3{H:ab}{a b c j b' c':D}(h1:FrzTo H a j)(h2:FrzTo H b b')(h3:FrzTo H c c'):FrzTo H (.tup [a,b,c]) (.tup [j,b',c']):=
 .tup rfl λk d l hc h=>by
  match k with
  | 0=>simp at hc h;subst hc;subst h;exact h1
  | 1=>simp at hc h;subst hc;subst h;exact h2
  | 2=>simp at hc h;subst hc;subst h;exact h3
  |k+3=>simp at hc
section
variable {P:Program}{S:Nat->Spc}{f:Nat}{im:List Nat}{cc:CC}{rs:List ai}{N:Nat}
end
end
end Go.Gv
