/- T10 -/
import Derived.Test.YtfpmgnnippjblaaGreatDoorGa08
set_option linter.all false
namespace Go.Gv
section
open Cod (enc dec)
variable {b b' bytes el el' f g hi i id j len lo n n' n'' o off sz t:Nat}{H:ab}{K:D->Prop}{dst dst₁ rt:Option Nat}{v x x':Value}{L d d' d₁ e e₁ f₁ i₁ y₁ z₁:D}{k k' kd:IntKind}{σ:Sg}{args args₁ caps cells cs ds es es2 es2₁ src src₁:List D}{agg mx neg:Bool}{r r₁:Option Res}{c y:Operand}{a h l:Int}{s:ByteArray}{z:List Value}{no yes:Sg->Prop}{A B p:Prop}{op:BinOp}{ks:List Yt}{S:Nat->Spc}{ps xs:List Operand}{s₁:Spc}
section
variable {S:Nat->Spc}{K:Ex->Sg->ab->Prop}{σ:Sg}{H:ab}
def Za(S:Nat->Spc)(b:CC)(K:Ex->Sg->ab->Prop):Ex->Sg->ab->Prop:=λe σ H=>match e with
 | .norm=>vc S b K σ H
 |e=>K e σ H
def qdQ(id:Nat)(K:Ex->Sg->ab->Prop):Ex->Sg->ab->Prop:=λe σ H=>match e with
 | .ex i=>if i=id then K .norm σ H else K (.ex i) σ H
 |e=>K e σ H
def qc9(q:qou)(x:q.X)(K:Ex->Sg->ab->Prop):Ex->Sg->ab->Prop:=λe u H'=>match e with
 | .norm=>∃y,q.P y/\Wk u H' (q.s y) (q.h y)/\q.m y<q.m x
 |e=>K e u H'
def Pg(d:D)(A B:Prop):Prop:=match d with
 | .v (.bool t)=>(t=true->A)/\(t=false->B)
 | _=>False
@[simp ↓] theorem qnD:vc S .skip K σ H=K .norm σ H:=i' rfl
@[simp ↓] theorem qlO(l:List CI):vc S (.reg l) K σ H=DE S l σ H (K .norm):=i' rfl
@[simp ↓] theorem qxX(p l:List CI):vc S (.regd p l) K σ H=jB S p σ (bE p H) H λσ H=>DE S l σ H (K .norm):=i' rfl
@[simp ↓] theorem qbL(a b:CC):vc S (.seq a b) K σ H=vc S a (Za S b K) σ H:=i' rfl
@[simp ↓] theorem TA(b:CC):Za S b K .norm σ H=vc S b K σ H:=i' rfl
@[simp ↓] theorem qg6(b:CC)(i:Nat):Za S b K (.ex i) σ H=K (.ex i) σ H:=i' rfl
@[simp ↓] theorem qnE(b:CC):Za S b K .ret σ H=K .ret σ H:=i' rfl
@[simp ↓] theorem qrC(c:Operand)(a b:CC):vc S (.ite c a b) K σ H=Pg (ev σ c) (vc S a K σ H) (vc S b K σ H):=i' rfl
@[simp] theorem qnH(t:Bool)(A B:Prop):Pg (.v (.bool t)) A B=((t=true->A)/\(t=false->B)):=i' rfl
@[simp high] theorem qxZ:Pg (.v (.bool true)) A B=A:=by simp[Pg]
@[simp high] theorem qx0:Pg (.v (.bool false)) A B=B:=by simp[Pg]
@[simp ↓] theorem TC(id:Nat)(b:CC):vc S (.block id b) K σ H=vc S b (qdQ id K) σ H:=i' rfl
@[simp ↓] theorem qnJ(id:Nat):qdQ id K .norm σ H=K .norm σ H:=i' rfl
@[simp ↓] theorem qg8(id:Nat):qdQ id K .ret σ H=K .ret σ H:=i' rfl
@[simp ↓] theorem Z1(id i:Nat):qdQ id K (.ex i) σ H=if i=id then K .norm σ H else K (.ex i) σ H:=i' rfl
@[simp ↓] theorem qnI(i:Nat):vc S (.exit i) K σ H=K (.ex i) σ H:=i' rfl
@[simp ↓] theorem qz1:vc S .ret K σ H=K .ret σ H:=i' rfl
@[simp ↓] theorem qxY(ls lh:List Nat)(c:CC):vc S (.keep ls lh c) K σ H=vc S c K (iF ls σ) (iG lh H):=i' rfl
theorem TB(k:Nat)(b:CC):vc S (.loop k b) K σ H=∃q:qou,(∃x,q.P x/\Wk σ H (q.s x) (q.h x))/\∀x,q.P x->vc S b (qc9 q x K) (q.s x) (q.h x):=i' rfl
theorem qlP(k:Nat)(c:CC):vc S (.cut k c) K σ H=∃(q:Sg) (H':ab),Wk σ H q H'/\vc S c K q H':=i' rfl
@[simp ↓] theorem qnG(q:qou)(x:q.X):qc9 q x K .norm σ H=∃y,q.P y/\Wk σ H (q.s y) (q.h y)/\q.m y<q.m x:=i' rfl
@[simp ↓] theorem qnF(q:qou)(x:q.X):qc9 q x K .ret σ H=K .ret σ H:=i' rfl
@[simp ↓] theorem qg7(q:qou)(x:q.X)(i:Nat):qc9 q x K (.ex i) σ H=K (.ex i) σ H:=i' rfl
end
def nM(s:Nat)(b:Bool)(σ:Sg)(d:D)(yes no:Sg->Prop):Prop:=match d with
 | .v (.bool t)=>(t=b->yes (upd σ s (.v (.bool b))))/\(t=(!b)->no (upd σ s (.v (.bool (!b)))))
 | .undef=>no σ
 | _=>False
@[simp high] theorem qAU(s:Nat):nM s true σ (.v (.bool true)) yes no=yes (upd σ s (.v (.bool true))):=by simp[nM]
@[simp high] theorem qAV(s:Nat):nM s true σ (.v (.bool false)) yes no=no (upd σ s (.v (.bool false))):=by simp[nM]
@[simp high] theorem qAW(s:Nat):nM s false σ (.v (.bool true)) yes no=no (upd σ s (.v (.bool true))):=by simp[nM]
@[simp high] theorem qAX(s:Nat):nM s false σ (.v (.bool false)) yes no=yes (upd σ s (.v (.bool false))):=by simp[nM]
@[simp] theorem qAT(s:Nat)(b:Bool):nM s b σ .undef yes no=no σ:=i' rfl
@[simp] theorem qBa(s:Nat)(b t:Bool):nM s b σ (.v (.bool t)) yes no=((t=b->yes (upd σ s (.v (.bool b))))/\(t=(!b)->no (upd σ s (.v (.bool (!b)))))):=i' rfl
section
variable {S:Nat->Spc}{σ:Sg}{H Hr:ab}
@[simp ↓] theorem qlG(K:Sg->ab->Prop):DE S [] σ H K=K σ H:=i' rfl
@[simp ↓] theorem qng(K:Sg->ab->Prop)(d:Option Nat)(c:COp)(r:List CI):DE S (.op d none c::r) σ H K=aK S c d σ H λx H'=>DE S r (fj σ d x) H' K:=i' rfl
@[simp ↓] theorem qzC(K:Sg->ab->Prop)(d:Option Nat)(s:Nat)(b:Bool)(c:COp)(r:List CI):DE S (.op d (some (s,b)) c::r) σ H K=nM s b σ (σ s) (λσ=>aK S c d σ H λx H'=>DE S r (fj σ d x) H' K) (λσ=>DE S r (fj σ d .undef) H K):=i' rfl
@[simp ↓] theorem qzD(K:Sg->ab->Prop)(r:List CI):DE S (.frz t n::r) σ H K=JU t n σ H λq H'=>DE S r q H' K:=i' rfl
@[simp ↓] theorem qzt(K:Sg->ab->Prop):jB S [] σ Hr H K=K σ H:=i' rfl
@[simp ↓] theorem qzu(K:Sg->ab->Prop)(a:Nat)(r:List CI):jB S (.frz a b::r) σ Hr H K=jB S r σ (bE r Hr) H K:=i' rfl
@[simp ↓] theorem qAs(K:Sg->ab->Prop)(d:Option Nat)(c:COp)(r:List CI):jB S (.op d none c::r) σ Hr H K=aw S c d σ Hr H λx H'=>jB S r (fj σ d x) Hr H' K:=i' rfl
@[simp ↓] theorem qzs(K:Sg->ab->Prop)(d:Option Nat)(s:Nat)(b:Bool)(c:COp)(r:List CI):jB S (.op d (some (s,b)) c::r) σ Hr H K=nM s b σ (σ s) (λσ=>aw S c d σ Hr H λx H'=>jB S r (fj σ d x) Hr H' K) (λσ=>jB S r (fj σ d .undef) Hr H K):=i' rfl
end
def JL(d:D)(A B:Prop):Prop:=match d with
 | .v (.bool t)=>(t=true->A)/\(t=false->B)
 | _=>False
@[simp high] theorem qtC:JL (.v (.bool true)) A B=A:=by simp[JL]
@[simp high] theorem qtD:JL (.v (.bool false)) A B=B:=by simp[JL]
def WC(agg:Bool)(sz b off:Nat)(r:Option Res)(K:D->Prop):Prop:=match r with
 |some (.box b' cells)=>b'=b/\off+sz<=cells.length/\K (KQ agg sz cells off)
 | _=>False
def WB(agg:Bool)(sz:Nat)(x:Value)(n i off:Nat)(r:Option Res)(K:D->Prop):Prop:=match r with
 |some (.row x' _ n' es)=>x'=x/\n'=n/\off+sz<=n/\i<es.length/\∀d,es[i]? =some d->K (KQ agg sz d.cells off)
 | _=>False
def JP(agg:Bool)(sz:Nat)(d:D)(H:ab)(K:D->Prop):Prop:=match d with
 | .cptr cs off=>off+sz<=cs.length/\K (KQ agg sz cs off)
 | .bptr id b off=>WC agg sz b off (H id) K
 | .eptr id x n i off=>WB agg sz x n i off (H id) K
 | _=>False
@[simp] theorem qtS:JP agg sz (.cptr cs off) H K=(off+sz<=cs.length/\K (KQ agg sz cs off)):=i' rfl
@[simp] theorem qtT:JP agg sz (.bptr i b off) H K=WC agg sz b off (H i) K:=i' rfl
@[simp] theorem qtR(k:Nat):JP agg sz (.eptr i x n k off) H K=WB agg sz x n k off (H i) K:=i' rfl
@[simp] theorem qtV:WC agg sz b off (some (.box b' cells)) K=(b'=b/\off+sz<=cells.length/\K (KQ agg sz cells off)):=i' rfl
@[simp] theorem qtU:WB agg sz x n i off (some (.row x' el n' es)) K=(x'=x/\n'=n/\off+sz<=n/\i<es.length/\∀d,es[i]? =some d->K (KQ agg sz d.cells off)):=i' rfl
def qc8(d:D)(K:D->Prop):Prop:=match d with
 | .cptr cs off=>K (.cptr cs off)
 | .bptr id b off=>K (.bptr id b off)
 | .eptr id x n i off=>K (.eptr id x n i off)
 | .tape L=>K (.tape L)
 | .clo f caps=>K (.clo f caps)
 | _=>False
@[simp] theorem qwH:qc8 (.cptr cs off) K=K (.cptr cs off):=i' rfl
@[simp] theorem qwI:qc8 (.bptr i b off) K=K (.bptr i b off):=i' rfl
def NW(op:BinOp)(d e:D)(K:D->Prop):Prop:=match d,e with
 | .v (.int k a), .v (.int k' b)=>qdk op k k'/\gu op k a b K
 | _,_=>False
@[simp] theorem qhO(op:BinOp)(k k':IntKind)(a b:Int)(K:D->Prop):NW op (.v (.int k a)) (.v (.int k' b)) K=(qdk op k k'/\gu op k a b K):=i' rfl
@[simp] theorem qjZ(k k':IntKind):qdk .add k k'=(k=k'):=i' rfl
@[simp] theorem qt4:qdk .sub k k'=(k=k'):=i' rfl
@[simp] theorem qt9:qdk .mul k k'=(k=k'):=i' rfl
@[simp] theorem qt8:qdk .quo k k'=(k=k'):=i' rfl
@[simp] theorem qt7:qdk .rem k k'=(k=k'):=i' rfl
@[simp] theorem qua:qdk .and k k'=(k=k'):=i' rfl
@[simp] theorem qw9:qdk .or k k'=(k=k'):=i' rfl
@[simp] theorem qt6:qdk .shl k k'=True:=i' rfl
@[simp] theorem qt5:qdk .shr k k'=True:=i' rfl
@[simp ↓] theorem qdT(k:IntKind)(a b:Int)(K:D->Prop):gu .add k a b K=(InR k (a+b)/\K (.v (.int k (a+b)))):=i' rfl
@[simp ↓] theorem qph(b:Int):gu .sub k a b K=(InR k (a -b)/\K (.v (.int k (a -b)))):=i' rfl
@[simp ↓] theorem qpm(b:Int):gu .mul k a b K=(InR k (a*b)/\K (.v (.int k (a*b)))):=i' rfl
@[simp ↓] theorem qpl(b:Int):gu .quo k a b K=(b≠0/\InR k (a.tdiv b)/\K (.v (.int k (a.tdiv b)))):=i' rfl
@[simp ↓] theorem qpk(b:Int):gu .rem k a b K=(b≠0/\K (.v (.int k (a.tmod b)))):=i' rfl
@[simp ↓] theorem qpn(b:Int):gu .and k a b K=K (.v (.int k (Yf k a b))):=i' rfl
@[simp ↓] theorem qsa(b:Int):gu .or k a b K=K (.v (.int k (qoT k a b))):=i' rfl
@[simp ↓] theorem qpj(b:Int):gu .shl k a b K=(0<=b/\K (.v (.int k (RN k a b)))):=i' rfl
@[simp ↓] theorem qpi(b:Int):gu .shr k a b K=(0<=b/\K (.v (.int k (qcE k a b)))):=i' rfl
def qjj(d:D)(K:D->Prop):Prop:=match d with
 | .v (.int _ n)=>K (.v (.string (Utf8.encode n)))
 | _=>False
@[simp] theorem qwl(n:Int):qjj (.v (.int k n)) K=K (.v (.string (Utf8.encode n))):=i' rfl
def Z5(o:Option Bool)(K:D->Prop):Prop:=match o with|some t=>K (.v (.bool t))|none=>False
@[simp] theorem qn2(t:Bool)(K:D->Prop):Z5 (some t) K=K (.v (.bool t)):=i' rfl
def qdK(op:BinOp)(d e:D)(K:D->Prop):Prop:=match d,e with
 | .v (.int k a), .v (.int k' b)=>k=k'/\Z5 (TH op a b) K
 | .v (.string a), .v (.string b)=>Z5 (XJ op a b) K
 | _,_=>False
@[simp] theorem qn1(op:BinOp)(k k':IntKind)(a b:Int)(K:D->Prop):qdK op (.v (.int k a)) (.v (.int k' b)) K=(k=k'/\Z5 (TH op a b) K):=i' rfl
@[simp] theorem qyd(a b:ByteArray):qdK op (.v (.string a)) (.v (.string b)) K=Z5 (XJ op a b) K:=i' rfl
@[simp] theorem qhx(a b:Int):TH .lss a b=some (decide (a<b)):=i' rfl
@[simp] theorem qrQ(b:Int):TH .leq a b=some (decide (a<=b)):=i' rfl
@[simp] theorem qrR(b:Int):TH .gtr a b=some (decide (b<a)):=i' rfl
@[simp] theorem qrS(b:Int):TH .geq a b=some (decide (b<=a)):=i' rfl
@[simp] theorem qrN(a b:ByteArray):XJ .lss a b=some (Op.bytesLess a.toList b.toList):=i' rfl
@[simp] theorem qrO(a b:ByteArray):XJ .gtr a b=some (!(Op.bytesLess a.toList b.toList||a.toList==b.toList)):=i' rfl
@[simp] theorem qrP(a b:ByteArray):XJ .geq a b=some (!Op.bytesLess a.toList b.toList):=i' rfl
def qdC(neg:Bool)(o:Option Bool)(K:D->Prop):Prop:=match o with
 |some p=>K (.v (.bool (if neg then !p else p)))
 |none=>False
@[simp] theorem qxQ(p:Bool):qdC false (some p) K=K (.v (.bool p)):=i' rfl
@[simp] theorem qxP(p:Bool):qdC true (some p) K=K (.v (.bool (!p))):=i' rfl
@[simp] theorem qzX(k:Yt)(a b:D):qg0 false [k] a b=Xj k a b:=i' rfl
@[simp] theorem qzW(a b:List D):qg0 true ks (.agg a) (.agg b)=ZY ks a b:=i' rfl
@[simp] theorem qzV:ZY [] [] []=some true:=i' rfl
@[simp] theorem qzU(k:Yt)(a b:D)(as u:List D):ZY (k::ks) (a::as) (b::u)=(Xj k a b).bind λp=>(ZY ks as u).bind λq=>some (p && q):=i' rfl
@[simp] theorem qzZ(b:Int):Xj .int (.v (.int k a)) (.v (.int k' b))=if k=k' then some (decide (a=b))else none:=i' rfl
@[simp] theorem qzY(a b:ByteArray):Xj .str (.v (.string a)) (.v (.string b))=some (decide (a=b)):=i' rfl
@[simp] theorem qz0(a b:Bool):Xj .bool (.v (.bool a)) (.v (.bool b))=some (decide (a=b)):=i' rfl
def qjJ(d:D)(K:D->Prop):Prop:=match d with
 | .v (.bool b)=>K (.v (.bool (!b)))
 | _=>False
@[simp] theorem qwD(b:Bool):qjJ (.v (.bool b)) K=K (.v (.bool (!b))):=i' rfl
def qbT(k:IntKind)(d:D)(K:D->Prop):Prop:=match d with
 | .v (.int _ n)=>K (.v (.int k (k.wrap n)))
 | _=>False
@[simp] theorem quZ(n:Int):qbT k (.v (.int k' n)) K=K (.v (.int k (k.wrap n))):=i' rfl
def Y8(n id:Nat)(x:Value)(lo hi:Option (Option (IntKind×Int)))(r:Option Res)(K:D->Prop):Prop:=match r with
 |some (.row x' _ n' es)=>x'=x/\n'=n/\kW lo hi es.length λl h=>K (.sub id x n l h)
 | _=>False
@[simp] theorem qpX(lo hi:Option (Option (IntKind×Int))):Y8 n i x lo hi (some (.row x' el n' es)) K=(x'=x/\n'=n/\kW lo hi es.length λl h=>K (.sub i x n l h)):=i' rfl
@[simp] theorem qx9(K:Nat->Nat->Prop):kW (some (some (k,l))) none len K=(0<=l/\l<=len/\K l.toNat len):=i' rfl
@[simp] theorem qx8(K:Nat->Nat->Prop):kW none (some (some (k,h))) len K=(0<=h/\h<=len/\K 0 h.toNat):=i' rfl
def L3(n:Nat)(d:D)(lo hi:Option (Option (IntKind×Int)))(H:ab)(K:D->Prop):Prop:=match d with
 | .list n' es=>n'=n/\(match lo,hi with
   |none,none=>K (.list n es)
   |some (some (_,l)),none=>0<=l/\l<=es.length/\K (.list n (es.drop l.toNat))
   |none,some (some (_,h))=>0<=h/\h<=es.length/\K (.list n (es.take h.toNat))
   |some (some (_,l)),some (some (_,h))=>0<=l/\l<=h/\h<=es.length/\K (.list n ((es.take h.toNat).drop l.toNat))
   | _,_=>False)
 | .own id x=>Y8 n id x lo hi (H id) K
 | .sub id x n' a b=>n'=n/\kW lo hi (b -a) λl h=>K (.sub id x n (a+l) (a+h))
 | .v (.slice none 0 0)=>kW lo hi 0 λ_ _=>K (.v (.slice none 0 0))
 | _=>False
@[simp] theorem qpW(lo hi:Option (Option (IntKind×Int))):L3 n (.own i x) lo hi H K=Y8 n i x lo hi (H i) K:=i' rfl
@[simp] theorem qoO:L3 n (.list n' es) (some (some (k,l))) none H K=(n'=n/\0<=l/\l<=es.length/\K (.list n (es.drop l.toNat))):=i' rfl
@[simp] theorem qoN:L3 n (.list n' es) none (some (some (k,l))) H K=(n'=n/\0<=l/\l<=es.length/\K (.list n (es.take l.toNat))):=i' rfl
def Lb(d:D)(lo hi:Option (Option (IntKind×Int)))(K:D->Prop):Prop:=match d with
 | .v (.string s)=>(match lo,hi with
   |none,none=>K (.v (.string (s.extract 0 s.size)))
   |some (some (_,l)),none=>0<=l/\l<=s.size/\K (.v (.string (s.extract l.toNat s.size)))
   |none,some (some (_,h))=>0<=h/\h<=s.size/\K (.v (.string (s.extract 0 h.toNat)))
   |some (some (_,l)),some (some (_,h))=>0<=l/\l<=h/\h<=s.size/\K (.v (.string (s.extract l.toNat h.toNat)))
   | _,_=>False)
 | _=>False
@[simp] theorem qmt:Lb (.v (.string s)) (some (some (k,l))) none K=(0<=l/\l<=s.size/\K (.v (.string (s.extract l.toNat s.size)))):=i' rfl
@[simp] theorem qmu:Lb (.v (.string s)) (some (some (k,l))) (some (some (k',h))) K=(0<=l/\l<=h/\h<=s.size/\K (.v (.string (s.extract l.toNat h.toNat)))):=i' rfl
def Er(off:Nat)(d:D)(K:D->Prop):Prop:=match d with
 | .cptr cs o=>K (.cptr cs (o+off))
 | .bptr id b o=>K (.bptr id b (o+off))
 | .eptr id x n i o=>K (.eptr id x n i (o+off))
 | _=>False
@[simp] theorem qrp:Er off (.cptr cs o) K=K (.cptr cs (o+off)):=i' rfl
@[simp] theorem qrq:Er off (.bptr i b o) K=K (.bptr i b (o+off)):=i' rfl
@[simp] theorem qro(k:Nat):Er off (.eptr i x n k o) K=K (.eptr i x n k (o+off)):=i' rfl
def Ne(n:Nat)(k:Int)(id:Nat)(x:Value)(r:Option Res)(K:D->Prop):Prop:=match r with
 |some (.row x' _ n' es)=>x'=x/\n'=n/\0<=k/\k<es.length/\K (.eptr id x n k.toNat 0)
 | _=>False
def Eo(n:Nat)(i d:D)(H:ab)(K:D->Prop):Prop:=match i with
 | .v (.int _ k)=>match d with
   | .list n' es=>n'=n/\0<=k/\k<es.length/\∀d,es[k.toNat]? =some d->K (.cptr d.cells 0)
   | .own id x=>Ne n k id x (H id) K
   | .sub id x n' lo hi=>n'=n/\0<=k/\k<(hi -lo:Nat)/\K (.eptr id x n (lo+k.toNat) 0)
   | _=>False
 | _=>False
@[simp] theorem qq3(k:Int):Eo n (.v (.int kd k)) (.sub i x n' lo hi) H K=(n'=n/\0<=k/\k<(hi -lo:Nat)/\K (.eptr i x n (lo+k.toNat) 0)):=i' rfl
@[simp] theorem qq5(k:Int):Eo n (.v (.int kd k)) (.list n' es) H K=(n'=n/\0<=k/\k<es.length/\∀d,es[k.toNat]? =some d->K (.cptr d.cells 0)):=i' rfl
@[simp] theorem qq4(k:Int):Eo n (.v (.int kd k)) (.own i x) H K=Ne n k i x (H i) K:=i' rfl
@[simp] theorem qq6(k:Int):Ne n k i x (some (.row x' el n' es)) K=(x'=x/\n'=n/\0<=k/\k<es.length/\K (.eptr i x n k.toNat 0)):=i' rfl
def qaD(i d:D)(K:D->Prop):Prop:=match i with
 | .v (.int _ k)=>match d with
   | .v (.string s)=>0<=k/\k<s.size/\∀c,s.data[k.toNat]? =some c->K (.v (.int .u8 c.toNat))
   | _=>False
 | _=>False
@[simp] theorem qtg(k:Int):qaD (.v (.int kd k)) (.v (.string s)) K=(0<=k/\k<s.size/\∀c,s.data[k.toNat]? =some c->K (.v (.int .u8 c.toNat))):=i' rfl
def qgY(o:Option D)(K:D->Prop):Prop:=match o with
 |some d=>K d
 |none=>False
def qgX(d:D)(i:Nat)(K:D->Prop):Prop:=match d with
 | .tup ds=>qgY ds[i]? K
 | _=>False
@[simp] theorem qxK:qgX (.tup ds) i K=qgY ds[i]? K:=i' rfl
@[simp] theorem qxL:qgY (some d) K=K d:=i' rfl
def qge(x:Value)(r:Option Res)(K:D->Prop):Prop:=match r with
 |some (.row x' _ _ es)=>x'=x/\((es.length:Int)<=9223372036854775807->K (.v (.int .i64 es.length)))
 | _=>False
def SW(d:D)(H:ab)(K:D->Prop):Prop:=match d with
 | .list _ es=>(es.length:Int)<=9223372036854775807->K (.v (.int .i64 es.length))
 | .own id x=>qge x (H id) K
 | .v (.slice _ n _)=>K (.v (.int .i64 n))
 | .sub _ _ _ lo hi=>((hi -lo:Nat):Int)<=9223372036854775807->K (.v (.int .i64 (hi -lo:Nat)))
 | _=>False
@[simp] theorem qwU:SW (.sub i x n lo hi) H K=(((hi -lo:Nat):Int)<=9223372036854775807->K (.v (.int .i64 (hi -lo:Nat)))):=i' rfl
@[simp] theorem qwX:SW (.list n es) H K=((es.length:Int)<=9223372036854775807->K (.v (.int .i64 es.length))):=i' rfl
@[simp] theorem qwV:SW (.own i x) H K=qge x (H i) K:=i' rfl
@[simp] theorem qtX(a:Option Addr)(c:Nat):SW (.v (.slice a n c)) H K=K (.v (.int .i64 n)):=i' rfl
@[simp high] theorem qwW:SW (.v (.slice none 0 0)) H K=K (.v (.int .i64 0)):=i' rfl
@[simp] theorem qwY:qge x (some (.row x' el n es)) K=(x'=x/\((es.length:Int)<=9223372036854775807->K (.v (.int .i64 es.length)))):=i' rfl
def qhF(x:Value)(r:Option Res)(K:D->Prop):Prop:=match r with
 |some (.row x' _ n es)=>x'=x/\n=1/\qlS es=true/\K (.v (.string (qn5 es)))
 | _=>False
@[simp] theorem qyC:qhF x (some (.row x' el n es)) K=(x'=x/\n=1/\qlS es=true/\K (.v (.string (qn5 es)))):=i' rfl
def qkP(d:D)(H:ab)(K:D->Prop):Prop:=match d with
 | .own i x=>qhF x (H i) K
 | .v (.slice none 0 0)=>K (.v (.string ⟨#[]⟩))
 | _=>False
@[simp] theorem qyB:qkP (.own i x) H K=qhF x (H i) K:=i' rfl
def Vp(d:D)(K:D->Prop):Prop:=match d with
 | .v (.string s)=>(s.size:Int)<=9223372036854775807->K (.v (.int .i64 s.size))
 | _=>False
@[simp] theorem qtf:Vp (.v (.string s)) K=((s.size:Int)<=9223372036854775807->K (.v (.int .i64 s.size))):=i' rfl
def qfZ(mx:Bool)(d e:D)(K:D->Prop):Prop:=match d,e with
 | .v (.int k a), .v (.int k' b)=>k=k'/\K (.v (.int k (if mx then max a b else min a b)))
 | _,_=>False
@[simp] theorem qwM(b:Int):qfZ mx (.v (.int k a)) (.v (.int k' b)) K=(k=k'/\K (.v (.int k (if mx then max a b else min a b)))):=i' rfl
@[simp ↓] theorem qpf(K:List D->Prop):jz σ [] cs K=K cs:=i' rfl
@[simp ↓] theorem qn6(x:Operand)(r:List (Nat×Nat×Operand))(K:List D->Prop):jz σ ((off,sz,x)::r) cs K=((ev σ x).kn=true/\(ev σ x).cells.length=sz/\jz σ r (setAt cs off (ev σ x).cells) K):=i' rfl
@[simp] theorem qoS:jr n []=True:=i' rfl
@[simp] theorem qmV(r:List D):jr n (d::r)=(d.kn=true/\d.cells.length=n/\jr n r):=i' rfl
def qja(n:Nat)(x:Value)(r:Option Res)(K:List D->Prop):Prop:=match r with
 |some (.row x' _ n' es)=>x'=x/\n'=n/\K es
 | _=>False
def qcA(n lo hi:Nat)(x:Value)(r:Option Res)(K:List D->Prop):Prop:=match r with
 |some (.row x' _ n'' es)=>x'=x/\n''=n/\K ((es.take hi).drop lo)
 | _=>False
@[simp] theorem qv3(K:List D->Prop):qcA n lo hi x (some (.row x' el n' es)) K=(x'=x/\n'=n/\K ((es.take hi).drop lo)):=i' rfl
@[simp] theorem qzf(K:List D->Prop):lJ n (.sub i x n' lo hi) H K=(n'=n/\qcA n lo hi x (H i) K):=by
 simp only[lJ];cases H i with
 |none=>simp[qcA]
 |some r=>cases r<;>simp[qcA,and_left_comm]
@[simp] theorem qv6(K:List D->Prop):ti n (.list n' es) H K=(n'=n/\K es):=i' rfl
@[simp] theorem qv5(K:List D->Prop):ti n (.own i x) H K=qja n x (H i) K:=i' rfl
@[simp] theorem qv7(K:List D->Prop):ti n (.v (.string s)) H K=(n=1/\K (FH s)):=i' rfl
@[simp] theorem qv4(K:List D->Prop):qja n x (some (.row x' el n' es)) K=(x'=x/\n'=n/\K es):=i' rfl
def qwN(t el n bytes:Nat)(agg:Bool)(z:List Value)(l c:Option (IntKind×Int))(H:ab)(K:D->ab->Prop):Prop:=match l,c with
 |some (_,l),some (_,c)=>0<=l/\l<=c/\bytes*c<=140737488355328/\c<=140737488355328/\∀x,K (.own t x) (ak H t (some (.row x el n (List.replicate l.toNat (if agg then .agg (z.map qd)else qd (z.headD (.bool false)))))))
 | _,_=>False
@[simp] theorem qzB(c:Int)(K:D->ab->Prop):qwN t el n bytes agg z (some (k,l)) (some (k',c)) H K=(0<=l/\l<=c/\bytes*c<=140737488355328/\c<=140737488355328/\∀x,K (.own t x) (ak H t (some (.row x el n (List.replicate l.toNat (if agg then .agg (z.map qd)else qd (z.headD (.bool false)))))))):=i' rfl
def DO(sz id b off:Nat)(y:D)(r:Option Res)(H:ab)(K:D->ab->Prop):Prop:=match r with
 |some (.box b' cells)=>b'=b/\off+sz<=cells.length/\K .undef (ak H id (some (.box b' (setAt cells off y.cells))))
 | _=>False
def DN(sz id:Nat)(x:Value)(n i off:Nat)(y:D)(r:Option Res)(H:ab)(K:D->ab->Prop):Prop:=match r with
 | some (.row x' el n' es)=>x'=x/\n'=n/\0<n/\off+sz<=n/\i<es.length/\∀d,es[i]? =some d->
    K .undef (ak H id (some (.row x' el n' (es.set i (if off=0/\sz=n then y else .agg (setAt d.cells off y.cells))))))
 | _=>False
def LZ(sz:Nat)(d y:D)(H:ab)(K:D->ab->Prop):Prop:=match d with
 | .bptr id b off=>DO sz id b off y (H id) H K
 | .eptr id x n i off=>DN sz id x n i off y (H id) H K
 | _=>False
@[simp] theorem qpM(y:D)(K:D->ab->Prop):LZ sz (.bptr i b off) y H K=DO sz i b off y (H i) H K:=i' rfl
@[simp] theorem qpL(k:Nat)(y:D)(K:D->ab->Prop):LZ sz (.eptr i x n k off) y H K=DN sz i x n k off y (H i) H K:=i' rfl
@[simp] theorem qpO(y:D)(K:D->ab->Prop):DO sz i b off y (some (.box b' cells)) H K=(b'=b/\off+sz<=cells.length/\K .undef (ak H i (some (.box b' (setAt cells off y.cells))))):=i' rfl
@[simp] theorem qpN(k:Nat)(y:D)(K:D->ab->Prop):DN sz i x n k off y (some (.row x' el n' es)) H K=(x'=x/\n'=n/\0<n/\off+sz<=n/\k<es.length/\∀d,es[k]? =some d->
 K .undef (ak H i (some (.row x' el n' (es.set k (if off=0/\sz=n then y else .agg (setAt d.cells off y.cells))))))):=i' rfl
def qhS(el n bytes id:Nat)(x:Value)(es2:List D)(r:Option Res)(H:ab)(K:D->ab->Prop):Prop:=match r with
 |some (.row x' el' n' es)=>x'=x/\el'=el/\n'=n/\(es.length+es2.length) *bytes<=140737488355328/\es.length+es2.length<=140737488355328/\∀v,K (.own id v) (ak H id (some (.row v el n (es++es2))))
 | _=>False
def qyO(el n bytes id:Nat)(x:Value)(n' lo hi:Nat)(es2:List D)(r:Option Res)(H:ab)(K:D->ab->Prop):Prop:=match r with
 |some (.row x' el' n'' es)=>x'=x/\el'=el/\n'=n/\n''=n/\lo=0/\(hi+es2.length) *bytes<=140737488355328/\hi+es2.length<=140737488355328/\∀v,K (.own id v) (ak H id (some (.row v el n (es.take hi++es2))))
 | _=>False
def qyg(n id:Nat)(x:Value)(z:D)(r:Option Res)(H:ab)(K:D->ab->Prop):Prop:=match r with
 |some (.row x' el n' es)=>x'=x/\n'=n/\K (.tup []) (ak H id (some (.row x' el n' (List.replicate es.length z))))
 | _=>False
def qhz(n id:Nat)(x:Value)(n' lo hi:Nat)(z:D)(r:Option Res)(H:ab)(K:D->ab->Prop):Prop:=match r with
 |some (.row x' el n'' es)=>x'=x/\n'=n/\n''=n/\K (.tup []) (ak H id (some (.row x' el n'' (es.take lo++List.replicate (hi -lo) z++es.drop hi))))
 | _=>False
def qkI(n:Nat)(z d:D)(H:ab)(K:D->ab->Prop):Prop:=match d with
 | .own id x=>qyg n id x z (H id) H K
 | .sub id x n' lo hi=>qhz n id x n' lo hi z (H id) H K
 | .v (.slice none 0 0)=>K (.tup []) H
 | _=>False
@[simp] theorem qye(z:D)(K:D->ab->Prop):qkI n z (.sub i x n' lo hi) H K=qhz n i x n' lo hi z (H i) H K:=i' rfl
@[simp] theorem qyf(z:D)(K:D->ab->Prop):qhz n i x n' lo hi z (some (.row x' el n'' es)) H K=(x'=x/\n'=n/\n''=n/\K (.tup []) (ak H i (some (.row x' el n'' (es.take lo++List.replicate (hi -lo) z++es.drop hi))))):=i' rfl
def qyc(n id:Nat)(x:Value)(src:List D)(r:Option Res)(H:ab)(K:D->ab->Prop):Prop:=match r with
 |some (.row x' el n' es)=>x'=x/\n'=n/\K (.v (.int .i64 (min src.length es.length:Nat))) (ak H id (some (.row x' el n' (src.take es.length++es.drop src.length))))
 | _=>False
def qhn(n id:Nat)(x:Value)(n' lo hi:Nat)(src:List D)(r:Option Res)(H:ab)(K:D->ab->Prop):Prop:=match r with
 |some (.row x' el n'' es)=>x'=x/\n'=n/\n''=n/\K (.v (.int .i64 (min src.length (hi -lo):Nat))) (ak H id (some (.row x' el n'' (es.take lo++src.take (hi -lo) ++es.drop (lo+min src.length (hi -lo))))))
 | _=>False
def qkE(n:Nat)(d:D)(src:List D)(H:ab)(K:D->ab->Prop):Prop:=match d with
 | .own id x=>qyc n id x src (H id) H K
 | .sub id x n' lo hi=>qhn n id x n' lo hi src (H id) H K
 | _=>False
@[simp] theorem qya(K:D->ab->Prop):qkE n (.sub i x n' lo hi) src H K=qhn n i x n' lo hi src (H i) H K:=i' rfl
@[simp] theorem qyb(K:D->ab->Prop):qhn n i x n' lo hi src (some (.row x' el n'' es)) H K=(x'=x/\n'=n/\n''=n/\K (.v (.int .i64 (min src.length (hi -lo):Nat))) (ak H i (some (.row x' el n'' (es.take lo++src.take (hi -lo) ++es.drop (lo+min src.length (hi -lo))))))):=i' rfl
@[simp] theorem qy4:Ug true z= .agg (z.map qd):=i' rfl
@[simp] theorem qy5:Ug false z=qd (z.headD (.bool false)):=i' rfl
def qgH(t:Nat)(x:Value)(id:Nat)(σ:Sg)(r:Option Res)(H:ab)(K:Sg->ab->Prop):Prop:=match r with
 |some (.row x' _ n' es)=>x'=x/\K (qdz id x (.list n' es) σ) (ak H id none)
 | _=>False
def qxF(t b off:Nat)(id:Nat)(σ:Sg)(r:Option Res)(H:ab)(K:Sg->ab->Prop):Prop:=match r with
 |some (.box b' cs)=>b'=b/\K (upd σ t (.cptr cs off)) (ak H id none)
 | _=>False
def qgG(t n:Nat)(x:Value)(id n' lo hi:Nat)(σ:Sg)(r:Option Res)(H:ab)(K:Sg->ab->Prop):Prop:=match r with
 |some (.row x' el n'' es)=>x'=x/\n'=n''/\(if n=0 then lo=0/\∀v,K (upd σ t (.own id v)) (ak H id (some (.row v el n'' (es.take hi))))else K (upd σ t (.list n'' ((es.take hi).drop lo))) (ak H id none))
 | _=>False
def qgF(t n:Nat)(d:D)(σ:Sg)(H:ab)(K:Sg->ab->Prop):Prop:=match d with
 | .own id x=>qgH t x id σ (H id) H K
 | .bptr id b off=>qxF t b off id σ (H id) H K
 | .v (.slice none 0 0)=>K (upd σ t (.list n [])) H
 | .sub id x n' lo hi=>qgG t n x id n' lo hi σ (H id) H K
 | .agg cs=>IN cs H λcs' H'=>K (upd σ t (.agg cs')) H'
 | _=>K σ H
@[simp ↓] theorem qAZ(K:Sg->ab->Prop):JU t n σ H K=qgF t n (σ t) σ H K:=i' rfl
@[simp] theorem qxv(K:Sg->ab->Prop):qgF t n (.own i x) σ H K=qgH t x i σ (H i) H K:=i' rfl
@[simp] theorem qxu(K:Sg->ab->Prop):qgF t n (.sub i x n' lo hi) σ H K=qgG t n x i n' lo hi σ (H i) H K:=i' rfl
@[simp] theorem qxx(K:Sg->ab->Prop):qgH t x i σ (some (.row x' el n' es)) H K=(x'=x/\K (qdz i x (.list n' es) σ) (ak H i none)):=i' rfl
@[simp] theorem qxz(y:Value):KT id x L (.own i y)=open Classical in (if i=id/\y=x then L else .own i y):=i' rfl
@[simp] theorem qxE:KT id x L (.any)= .any:=i' rfl
@[simp] theorem qxB:KT id x L (.agg cs)= .agg cs:=i' rfl
@[simp] theorem qxA:KT id x L (.list n es)= .list n es:=i' rfl
@[simp] theorem qxC:KT id x L (.cptr cs o)= .cptr cs o:=i' rfl
@[simp] theorem qxD:KT id x L (.bptr i b o)= .bptr i b o:=i' rfl
@[simp] theorem qxy(T:List Int):KT id x L (.tape T)= .tape T:=i' rfl
@[simp] theorem qxw(K:Sg->ab->Prop):qgG t n x i n' lo hi σ (some (.row x' el n'' es)) H K=(x'=x/\n'=n''/\(if n=0 then lo=0/\∀v,K (upd σ t (.own i v)) (ak H i (some (.row v el n'' (es.take hi))))else K (upd σ t (.list n'' ((es.take hi).drop lo))) (ak H i none))):=i' rfl
def qjg(d:D)(K:D->Prop):Prop:=match d with
 | .v (.string s)=>K (.list 1 (s.data.toList.map λc=> .v (.int .u8 c.toNat)))
 | _=>False
@[simp] theorem qwg:qjg (.v (.string s)) K=K (.list 1 (s.data.toList.map λc=> .v (.int .u8 c.toNat))):=i' rfl
def qeJ(t:Nat)(d:D)(H:ab)(K:D->ab->Prop):Prop:=match d with
 | .v (.string s)=>∀b,K (.bptr t b 0) (ak H t (some (.iter b s 0)))
 | _=>False
@[simp] theorem qv2(K:D->ab->Prop):qeJ t (.v (.string s)) H K=∀b,K (.bptr t b 0) (ak H t (some (.iter b s 0))):=i' rfl
def qeL(id b:Nat)(r:Option Res)(H:ab)(K:D->ab->Prop):Prop:=match r with
 |some (.iter b' s pos)=>b'=b/\(pos<s.size->K (.tup [.v (.bool true), .v (.int .i64 pos), .v (.int .i32 (Utf8.decode s pos).1)]) (ak H id (some (.iter b' s (pos+ (Utf8.decode s pos).2)))))/\(¬pos<s.size->K (.tup [.v (.bool false)]) H)
 | _=>False
@[simp] theorem qwc(pos:Nat)(K:D->ab->Prop):qeL id b (some (.iter b' s pos)) H K=(b'=b/\(pos<s.size->K (.tup [.v (.bool true), .v (.int .i64 pos), .v (.int .i32 (Utf8.decode s pos).1)]) (ak H id (some (.iter b' s (pos+ (Utf8.decode s pos).2)))))/\(¬pos<s.size->K (.tup [.v (.bool false)]) H)):=i' rfl
def qjc(d:D)(H:ab)(K:D->ab->Prop):Prop:=match d with
 | .bptr id b off=>off=0/\qeL id b (H id) H K
 | _=>False
@[simp] theorem qwb(K:D->ab->Prop):qjc (.bptr i b off) H K=(off=0/\qeL i b (H i) H K):=i' rfl
def qkW(dst:Option Nat)(el n b:Nat)(d:D)(es2:List D)(H:ab)(K:D->ab->Prop):Prop:=match dst,d with
 |some t, .v (.slice none 0 0)=>es2.length*b<=140737488355328/\es2.length<=140737488355328/\∀v,K (.own t v) (ak H t (some (.row v el n es2)))
 | _,_=>False
@[simp] theorem qyR(K:D->ab->Prop):qkW (some t) el n b (.v (.slice none 0 0)) es2 H K=(es2.length*b<=140737488355328/\es2.length<=140737488355328/\∀v,K (.own t v) (ak H t (some (.row v el n es2)))):=i' rfl
def qhP(el n b r:Nat)(x:Value)(es2:List D)(q:Option Res)(H:ab)(K:D->ab->Prop):Prop:=match q with
 |some (.row x' el' n' es)=>x'=x/\el'=el/\n'=n/\(es.length+es2.length) *b<=140737488355328/\es.length+es2.length<=140737488355328/\∀v,K (.own r v) (ak H r (some (.row v el n (es++es2))))
 | _=>False
@[simp] theorem qyL(r:Nat)(K:D->ab->Prop):qhP el n b r x es2 (some (.row x' el' n' es)) H K=(x'=x/\el'=el/\n'=n/\(es.length+es2.length) *b<=140737488355328/\es.length+es2.length<=140737488355328/\∀v,K (.own r v) (ak H r (some (.row v el n (es++es2))))):=i' rfl
def qkV(r el n b:Nat)(d:D)(es2:List D)(H:ab)(K:D->ab->Prop):Prop:=match d with
 | .own id x=>id=r/\qhP el n b r x es2 (H r) H K
 | _=>False
@[simp] theorem qyK(r:Nat)(K:D->ab->Prop):qkV r el n b (.own i x) es2 H K=(i=r/\qhP el n b r x es2 (H r) H K):=i' rfl
def Vj(r sz:Nat)(d y:D)(H:ab)(K:D->ab->Prop):Prop:=match d with
 | .bptr id b off=>id=r/\DO sz r b off y (H r) H K
 | .eptr id x n i off=>id=r/\DN sz r x n i off y (H r) H K
 | _=>False
@[simp] theorem qs6(r:Nat)(y:D)(K:D->ab->Prop):Vj r sz (.bptr i b off) y H K=(i=r/\DO sz r b off y (H r) H K):=i' rfl
@[simp] theorem qs5(r:Nat)(k:Nat)(y:D)(K:D->ab->Prop):Vj r sz (.eptr i x n k off) y H K=(i=r/\DN sz r x n k off y (H r) H K):=i' rfl
def qyQ(dst:Option Nat)(el n bytes:Nat)(es2:List D)(H:ab)(K:D->ab->Prop):Prop:=match dst with
 |some t=>es2.length*bytes<=140737488355328/\es2.length<=140737488355328/\∀v,K (.own t v) (ak H t (some (.row v el n es2)))
 |none=>False
def qhQ(dst:Option Nat)(el n bytes:Nat)(d:D)(es2:List D)(H:ab)(K:D->ab->Prop):Prop:=match d with
 | .own id x=>qhS el n bytes id x es2 (H id) H K
 | .v (.slice none 0 0)=>qyQ dst el n bytes es2 H K
 | .sub id x n' lo hi=>qyO el n bytes id x n' lo hi es2 (H id) H K
 | _=>False
@[simp] theorem qyM(K:D->ab->Prop):qhQ dst el n bytes (.own i x) es2 H K=qhS el n bytes i x es2 (H i) H K:=i' rfl
@[simp] theorem qyN(K:D->ab->Prop):qhQ (some t) el n bytes (.v (.slice none 0 0)) es2 H K=(es2.length*bytes<=140737488355328/\es2.length<=140737488355328/\∀v,K (.own t v) (ak H t (some (.row v el n es2)))):=i' rfl
@[simp] theorem qyP(K:D->ab->Prop):qhS el n bytes i x es2 (some (.row x' el' n' es)) H K=(x'=x/\el'=el/\n'=n/\(es.length+es2.length) *bytes<=140737488355328/\es.length+es2.length<=140737488355328/\∀v,K (.own i v) (ak H i (some (.row v el n (es++es2))))):=i' rfl
def BJ(S:Nat->Spc)(f:D)(d:Nat)(args:List D)(H:ab)(K:D->ab->Prop):Prop:=match f with
 | .clo g caps=>(S g).pt d (args++caps) H K
 | _=>False
@[simp] theorem qu6(d:Nat)(K:D->ab->Prop):BJ S (.clo g caps) d args H K=(S g).pt d (args++caps) H K:=i' rfl
@[congr] theorem qqa{r:Nat}{s:Spc}{K:D->ab->Prop}(hs:s=s₁)(q:args=args₁):Qc r dst s args H K=Qc r dst s₁ args₁ H K:=by subst hs;subst q;rfl
@[congr] theorem qtB{s:Spc}{K:D->ab->Prop}(hs:s=s₁)(q:args=args₁):qcP dst s args H K=qcP dst s₁ args₁ H K:=by subst hs;subst q;rfl
section
variable {S:Nat->Spc}{σ:Sg}{H Hr:ab}{K:D->ab->Prop}
@[simp ↓] theorem qym(dst:Option Nat)(x:Operand):aK S (.mv x) dst σ H K=((λd=>K d H) (ev σ x)):=i' rfl
@[simp ↓] theorem qAr(x:Operand):aw S (.mv x) dst σ Hr H K=((λd=>K d H) (ev σ x)):=i' rfl
@[simp ↓] theorem qyl(x:Operand):aK S (.pick c x y) dst σ H K=(JL (ev σ c) ((λd=>K d H) (ev σ x)) ((λd=>K d H) (ev σ y))):=i' rfl
@[simp ↓] theorem qwu(x:Operand):aw S (.pick c x y) dst σ Hr H K=(JL (ev σ c) ((λd=>K d H) (ev σ x)) ((λd=>K d H) (ev σ y))):=i' rfl
@[simp ↓] theorem qvf(ps:List (Nat×Nat×Operand)):aK S (.build z ps) dst σ H K=(jz σ ps (z.map qd) λcs=>(λd=>K d H) (.agg cs)):=i' rfl
@[simp ↓] theorem qtw(ps:List (Nat×Nat×Operand)):aw S (.build z ps) dst σ Hr H K=(jz σ ps (z.map qd) λcs=>(λd=>K d H) (.agg cs)):=i' rfl
@[simp ↓] theorem qr1:aK S (.bslice el n ps) dst σ H K=(jr n (ps.map (ev σ))/\(λd=>K d H) (.list n (ps.map (ev σ)))):=i' rfl
@[simp ↓] theorem qp8:aw S (.bslice el n ps) dst σ Hr H K=(jr n (ps.map (ev σ))/\(λd=>K d H) (.list n (ps.map (ev σ)))):=i' rfl
@[simp ↓] theorem qyn(x:Operand):aK S (.load agg sz x) dst σ H K=(JP agg sz (ev σ x) H (λd=>K d H)):=i' rfl
@[simp ↓] theorem qwv(x:Operand):aw S (.load agg sz x) dst σ Hr H K=(JP agg sz (ev σ x) Hr (λd=>K d H)):=i' rfl
@[simp ↓] theorem qva(x:Operand):aK S (.nilck x) dst σ H K=(qc8 (ev σ x) (λd=>K d H)):=i' rfl
@[simp ↓] theorem qts(x:Operand):aw S (.nilck x) dst σ Hr H K=(qc8 (ev σ x) (λd=>K d H)):=i' rfl
@[simp ↓] theorem qkL(dst:Option Nat)(op:BinOp)(x y:Operand):aK S (.arith op x y) dst σ H K=(NW op (ev σ x) (ev σ y) (λd=>K d H)):=i' rfl
@[simp ↓] theorem qtx(x:Operand):aw S (.arith op x y) dst σ Hr H K=(NW op (ev σ x) (ev σ y) (λd=>K d H)):=i' rfl
@[simp ↓] theorem qr0(dst:Option Nat)(op:BinOp)(x y:Operand):aK S (.cmp op x y) dst σ H K=(qdK op (ev σ x) (ev σ y) (λd=>K d H)):=i' rfl
@[simp ↓] theorem qzq(x:Operand):aw S (.cmp op x y) dst σ Hr H K=(qdK op (ev σ x) (ev σ y) (λd=>K d H)):=i' rfl
@[simp ↓] theorem qz6(x:Operand):aK S (.eql neg agg ks x y) dst σ H K=(qdC neg (qg0 agg ks (ev σ x) (ev σ y)) (λd=>K d H)):=i' rfl
@[simp ↓] theorem qzp(x:Operand):aw S (.eql neg agg ks x y) dst σ Hr H K=(qdC neg (qg0 agg ks (ev σ x) (ev σ y)) (λd=>K d H)):=i' rfl
@[simp ↓] theorem qz2(x:Operand):aK S (.not x) dst σ H K=(qjJ (ev σ x) (λd=>K d H)):=i' rfl
@[simp ↓] theorem qyp(x:Operand):aK S (.conv k x) dst σ H K=(qbT k (ev σ x) (λd=>K d H)):=i' rfl
@[simp ↓] theorem qz7:aK S (.clo f xs) dst σ H K=((λd=>K d H) (.clo f (xs.map (ev σ)))):=i' rfl
@[simp ↓] theorem qu9(x:Operand)(lo hi:Option Operand):aK S (.slice n x lo hi) dst σ H K=(L3 n (ev σ x) (lo.map λo=>lF (ev σ o)) (hi.map λo=>lF (ev σ o)) H (λd=>K d H)):=i' rfl
@[simp ↓] theorem qtr(x:Operand)(lo hi:Option Operand):aw S (.slice n x lo hi) dst σ Hr H K=(L3 n (ev σ x) (lo.map λo=>lF (ev σ o)) (hi.map λo=>lF (ev σ o)) Hr (λd=>K d H)):=i' rfl
@[simp ↓] theorem qrW(x:Operand)(lo hi:Option Operand):aK S (.sslice x lo hi) dst σ H K=(Lb (ev σ x) (lo.map λo=>lF (ev σ o)) (hi.map λo=>lF (ev σ o)) (λd=>K d H)):=i' rfl
@[simp ↓] theorem qp6(x:Operand)(lo hi:Option Operand):aw S (.sslice x lo hi) dst σ Hr H K=(Lb (ev σ x) (lo.map λo=>lF (ev σ o)) (hi.map λo=>lF (ev σ o)) (λd=>K d H)):=i' rfl
@[simp ↓] theorem qvc(x:Operand):aK S (.faddr off x) dst σ H K=(Er off (ev σ x) (λd=>K d H)):=i' rfl
@[simp ↓] theorem qtu(x:Operand):aw S (.faddr off x) dst σ Hr H K=(Er off (ev σ x) (λd=>K d H)):=i' rfl
@[simp ↓] theorem qvb(x i:Operand):aK S (.iaddr n x i) dst σ H K=(Eo n (ev σ i) (ev σ x) H (λd=>K d H)):=i' rfl
@[simp ↓] theorem qtt(x i:Operand):aw S (.iaddr n x i) dst σ Hr H K=(Eo n (ev σ i) (ev σ x) Hr (λd=>K d H)):=i' rfl
@[simp ↓] theorem qyj(x i:Operand):aK S (.sidx x i) dst σ H K=(qaD (ev σ i) (ev σ x) (λd=>K d H)):=i' rfl
@[simp ↓] theorem qz5(x:Operand):aK S (.ext x i) dst σ H K=(qgX (ev σ x) i (λd=>K d H)):=i' rfl
@[simp ↓] theorem qzo(x:Operand):aw S (.ext x i) dst σ Hr H K=(qgX (ev σ x) i (λd=>K d H)):=i' rfl
@[simp ↓] theorem qz4(x:Operand):aK S (.len x) dst σ H K=(SW (ev σ x) H (λd=>K d H)):=i' rfl
@[simp ↓] theorem qzn(x:Operand):aw S (.len x) dst σ Hr H K=(SW (ev σ x) Hr (λd=>K d H)):=i' rfl
@[simp ↓] theorem qyi(x:Operand):aK S (.slen x) dst σ H K=(Vp (ev σ x) (λd=>K d H)):=i' rfl
@[simp ↓] theorem qwt(x:Operand):aw S (.slen x) dst σ Hr H K=(Vp (ev σ x) (λd=>K d H)):=i' rfl
@[simp ↓] theorem qyr(x:Operand):aK S (.bstr x) dst σ H K=(qkP (ev σ x) H (λd=>K d H)):=i' rfl
@[simp ↓] theorem qyk(x:Operand):aK S (.rstr x) dst σ H K=(qjj (ev σ x) (λd=>K d H)):=i' rfl
@[simp ↓] theorem qz3(x:Operand):aK S (.mm mx [x,y]) dst σ H K=qfZ mx (ev σ x) (ev σ y) (λd=>K d H):=i' rfl
@[simp ↓] theorem qys(x:Operand):aK S (.box el true x) dst σ H K=((ev σ x).kn=true/\K (.cptr (ev σ x).cells 0) H):=i' rfl
@[simp ↓] theorem qvg:aK S (.alloc el z) (some t) σ H K=∀b,K (.bptr t b 0) (ak H t (some (.box b (z.map qd)))):=i' rfl
@[simp ↓] theorem qz8(x:Operand):aK S (.box el false x) (some t) σ H K=((ev σ x).kn=true/\∀b,K (.bptr t b 0) (ak H t (some (.box b (ev σ x).cells)))):=i' rfl
@[simp ↓] theorem qrZ:aK S (.mslice el n ps) (some t) σ H K=(jr n (ps.map (ev σ))/\∀x,K (.own t x) (ak H t (some (.row x el n (ps.map (ev σ)))))):=i' rfl
@[simp ↓] theorem qpe(l:Operand):aK S (.mkslice el n bytes agg z l c) (some t) σ H K=qwN t el n bytes agg z (lF (ev σ l)) (lF (ev σ c)) H K:=i' rfl
@[simp ↓] theorem qzm(x:Operand):aw S (.mm mx [x,y]) dst σ Hr H K=qfZ mx (ev σ x) (ev σ y) (λd=>K d H):=i' rfl
@[simp ↓] theorem qty:aw S (.alloc el z) (some t) σ Hr H K=∀b,K (.bptr t b 0) (ak H t (some (.box b (z.map qd)))):=i' rfl
@[simp ↓] theorem qp7:aw S (.nslice el n) (some t) σ Hr H K=∀x,K (.own t x) (ak H t (some (.row x el n []))):=i' rfl
@[simp ↓] theorem qoP(l:Operand):aw S (.mkslice el n bytes agg z l c) (some t) σ Hr H K=qwN t el n bytes agg z (lF (ev σ l)) (lF (ev σ c)) H K:=i' rfl
@[simp ↓] theorem qrY(x:Operand):aK S (.sbytes x) dst σ H K=qjg (ev σ x) (λd=>K d H):=i' rfl
@[simp ↓] theorem qrX(x:Operand):aK S (.srange x) (some t) σ H K=qeJ t (ev σ x) H K:=by
 simp only[aK,bc,qeJ];split<;>simp_all
@[simp ↓] theorem qu8(x:Operand):aK S (.snext x) dst σ H K=qjc (ev σ x) H K:=i' rfl
@[simp ↓] theorem qtq(r:Nat)(x:Operand):aw S (.store (some r) sz x y) dst σ Hr H K=((ev σ y).kn=true/\(ev σ y).cells.length=sz/\Vj r sz (ev σ x) (ev σ y) H K):=by
 simp only[aw];congr 2
@[simp ↓] theorem qu7(x:Operand):aK S (.store rt sz x y) dst σ H K=((ev σ y).kn=true/\(ev σ y).cells.length=sz/\LZ sz (ev σ x) (ev σ y) H K):=i' rfl
@[simp ↓] theorem qr2(x:Operand):aK S (.append rt el n bytes x y) dst σ H K=ti n (ev σ y) H λes2=>qhQ dst el n bytes (ev σ x) es2 H K:=i' rfl
@[simp ↓] theorem qoR(x:Operand):aw S (.append none el n bytes x y) dst σ Hr H K=ti n (ev σ y) Hr λes2=>qkW dst el n bytes (ev σ x) es2 H K:=by
 simp only[aw];congr 1
@[simp ↓] theorem qoQ(r:Nat)(x:Operand):aw S (.append (some r) el n bytes x y) dst σ Hr H K=ti n (ev σ y) Hr λes2=>qkV r el n bytes (ev σ x) es2 H K:=by
 simp only[aw];congr 1
@[simp ↓] theorem qvd(x:Operand):aK S (.clear n agg z x) dst σ H K=qkI n (Ug agg z) (ev σ x) H K:=i' rfl
@[simp ↓] theorem qyo(x:Operand):aK S (.copy n x y) dst σ H K=lJ n (ev σ y) H λsrc=>qkE n (ev σ x) src H K:=i' rfl
@[simp ↓] theorem qyq(args:List Operand):aK S (.call f args) dst σ H K=(S f).pt (dst.getD 0) (args.map (ev σ)) H K:=i' rfl
@[simp ↓] theorem qtv(r:Nat)(args:List Operand):aw S (.callb r f args) dst σ Hr H K=Qc r dst (S f) (args.map (ev σ)) H K:=i' rfl
@[simp ↓] theorem qve(f:Operand)(args:List Operand):aK S (.callv f args) dst σ H K=BJ S (ev σ f) (dst.getD 0) (args.map (ev σ)) H K:=i' rfl
@[simp ↓] theorem qww(args:List Operand):aw S (.call f args) dst σ Hr H K=qcP dst (S f) (args.map (ev σ)) H K:=i' rfl
end
def qpE(σ:Sg)(t s:Nat)(d:D):upd σ t d s=if s=t then d else σ s:=i' rfl
def YO(σ:Sg)(t:Nat)(d:D):fj σ (some t) d=upd σ t d:=i' rfl
def qmg(σ:Sg)(d:D):fj σ none d=σ:=i' rfl
def qmh(H:ab)(t s:Nat)(d:Option Res):ak H t d s=if s=t then d else H s:=i' rfl
attribute [simp] YO qmg qmh
@[simp] theorem qep(σ:Sg)(t:Nat):ev σ (.tmp t)=σ t:=i' rfl
@[simp] theorem qi1(σ:Sg)(x:Value):ev σ (.const x)=qd x:=i' rfl
@[simp] theorem qvX:ev σ (.func f)= .clo f []:=i' rfl
@[simp] theorem qvY(b:Bool):qd (.bool b)= .v (.bool b):=i' rfl
@[simp] theorem qpC(k:IntKind)(n:Int):qd (.int k n)= .v (.int k n):=i' rfl
@[simp] theorem qy7:qd (.string s)= .v (.string s):=i' rfl
@[simp] theorem qy8(a:Option Addr):qd (.pointer a)= .v (.pointer a):=i' rfl
@[simp] theorem qsZ(a:Option Addr)(l c:Nat):qd (.slice a l c)= .v (.slice a l c):=i' rfl
def qnh(t:Nat)(l:List Nat)(σ:Sg):iF (t::l) σ=upd (iF l σ) t (σ t):=i' rfl
@[simp] theorem qw6:iG [] H=λ_=>none:=i' rfl
@[simp] theorem qjX(t:Nat)(l:List Nat)(H:ab):iG (t::l) H=ak (iG l H) t (H t):=i' rfl
@[simp] theorem qwF:cX i=none:=i' rfl
@[simp] theorem qwS:mH [] σ=True:=i' rfl
@[simp] theorem qtP(l:List (Nat×D)):mH ((t,d)::l) σ=(Yl (σ t) d/\mH l σ):=i' rfl
@[simp] theorem qwL:sE [] H=True:=i' rfl
@[simp] theorem qtJ(d:Res)(l:List (Nat×Res)):sE ((t,d)::l) H=((H t=some d\/isNilRow d)/\sE l H):=i' rfl
@[simp] theorem sub_self(d:D):Yl d d=True:=by
 cases d<;>simp[Yl]
@[simp] theorem qze(a:D):Yl a (.v x)=(a= .v x):=i' rfl
@[simp] theorem qpJ(a:D)(x:List D):Yl a (.list n x)=(a= .list n x\/(a= .v (.slice none 0 0)/\x=[])):=i' rfl
@[simp] theorem qs4(a:D):Yl a .any=True:=i' rfl
@[simp] theorem qs3(y:Value):Yl (.own i x) (.own j y)=(x=y):=by simp[Yl]
@[simp] theorem qpI(y:Value):Yl (.v x) (.own j y)=(x=y):=by simp[Yl]
@[simp] theorem qAC:KQ true sz cs off= .agg ((cs.drop off).take sz):=i' rfl
@[simp] theorem qAD:KQ false sz cs off=(cs[off]?).getD .any:=i' rfl
@[simp ↓] theorem qtn(rs:List ai)(K:D->ab->Prop):uL rs K .norm σ H=xi rs σ H λds=>K (dw ds) H:=i' rfl
@[simp ↓] theorem qwr(rs:List ai)(K:D->ab->Prop):uL rs K .ret σ H=xi rs σ H λds=>K (dw ds) H:=i' rfl
@[simp ↓] theorem qwq(K:List D->Prop):xi [] σ H K=K []:=i' rfl
@[simp ↓] theorem qwp(r:List ai)(K:List D->Prop):xi (.tmp t::r) σ H K=xi r σ H λds=>K (σ t::ds):=i' rfl
@[simp ↓] theorem qtm(r:List ai)(K:List D->Prop):xi (.cell t agg sz::r) σ H K=JP agg sz (σ t) H λd=>xi r σ H λds=>K (d::ds):=i' rfl
@[simp] theorem qAu:dw [d]=d:=i' rfl
@[simp] theorem qAv:dw []= .tup []:=i' rfl
@[simp] theorem qAt(l:List D):dw (d::e::l)= .tup (d::e::l):=i' rfl
@[simp] theorem qAF:D.kn (.v x)=true:=i' rfl
@[simp] theorem qu4:D.cells (.v x)=[.v x]:=i' rfl
@[simp] theorem qw5:D.kn (.agg cs)=true:=i' rfl
@[simp] theorem qpd:D.cells (.agg cs)=cs:=i' rfl
@[simp] theorem qt1:D.kn (.list n es)=true:=i' rfl
@[simp] theorem qn3:D.cells (.list n es)=[.list n es]:=i' rfl
@[simp] theorem qw3:D.kn (.own i x)=true:=i' rfl
@[simp] theorem qpb:D.cells (.own i x)=[.own i x]:=i' rfl
@[simp] theorem qw2(k:Nat):D.kn (.sub i v n k o)=true:=i' rfl
@[simp] theorem qpa(k:Nat):D.cells (.sub i v n k o)=[.sub i v n k o]:=i' rfl
@[simp] theorem qw4:D.kn (.clo f cs)=true:=i' rfl
@[simp] theorem qpc:D.cells (.clo f cs)=[.clo f cs]:=i' rfl
@[simp] theorem qqv:D.kn (.undef)=false:=i' rfl
@[simp] theorem qw1:D.kn (.tup cs)=false:=i' rfl
@[simp] theorem qAb(n:Int):lF (.v (.int k n))=some (k,n):=i' rfl
attribute [simp] setAt
@[simp] theorem qxW(n:Int):enc n= .v (.int .i64 n):=rfl
@[simp] theorem quN(b:Bool):enc b= .v (.bool b):=rfl
@[simp] theorem qxV:enc s= .v (.string s):=rfl
@[simp] theorem quM{X:Type}[Cod X](l:List X):enc l= .list (Cod.wd X) (l.map enc):=rfl
@[simp] theorem qvS:Cod.wd Int=1:=rfl
@[simp] theorem qsP:Cod.wd Bool=1:=rfl
@[simp] theorem qvR:Cod.wd ByteArray=1:=rfl
@[simp] theorem qsO{X:Type}[Cod X]:Cod.wd (List X)=1:=rfl
@[congr] theorem quc(q:d=d₁):Pg d A B=Pg d₁ A B:=by subst q;rfl
@[congr] theorem qo4{s:Nat}{b:Bool}(q:d=d₁):nM s b σ d yes no=nM s b σ d₁ yes no:=by subst q;rfl
@[congr] theorem qqc(q:d=d₁):JL d A B=JL d₁ A B:=by subst q;rfl
@[congr] theorem qqu(q:r=r₁):WC agg sz b off r K=WC agg sz b off r₁ K:=by subst q;rfl
@[congr] theorem qqt(q:r=r₁):WB agg sz x n i off r K=WB agg sz x n i off r₁ K:=by subst q;rfl
@[congr] theorem qqs(q:d=d₁):JP agg sz d H K=JP agg sz d₁ H K:=by subst q;rfl
@[congr] theorem qtH(q:d=d₁):qc8 d K=qc8 d₁ K:=by subst q;rfl
@[congr] theorem qpo(q:d=d₁)(he:e=e₁):NW op d e K=NW op d₁ e₁ K:=by subst q;subst he;rfl
@[congr] theorem qtk(q:d=d₁):qjj d K=qjj d₁ K:=by subst q;rfl
@[congr] theorem qu1{o:Option Bool}{q:Option Bool}(ho:o=q):Z5 o K=Z5 q K:=by subst ho;rfl
@[congr] theorem qu0(q:d=d₁)(he:e=e₁):qdK op d e K=qdK op d₁ e₁ K:=by subst q;subst he;rfl
@[congr] theorem quF{o:Option Bool}{q:Option Bool}(ho:o=q):qdC neg o K=qdC neg q K:=by subst ho;rfl
@[congr] theorem qtF(q:d=d₁):qjJ d K=qjJ d₁ K:=by subst q;rfl
@[congr] theorem qrM(q:d=d₁):qbT k d K=qbT k d₁ K:=by subst q;rfl
@[congr] theorem qo7(q:d=d₁):Er off d K=Er off d₁ K:=by subst q;rfl
@[congr] theorem qo2{k:Int}(q:r=r₁):Ne n k id x r K=Ne n k id x r₁ K:=by subst q;rfl
@[congr] theorem qo1{i:D}(hi:i=i₁)(q:d=d₁):Eo n i d H K=Eo n i₁ d₁ H K:=by subst hi;subst q;rfl
@[congr] theorem qpZ{i:D}(hi:i=i₁)(q:d=d₁):qaD i d K=qaD i₁ d₁ K:=by subst hi;subst q;rfl
@[congr] theorem quw{o:Option D}{q:Option D}(ho:o=q):qgY o K=qgY q K:=by subst ho;rfl
@[congr] theorem quv(q:d=d₁):qgX d i K=qgX d₁ i K:=by subst q;rfl
@[congr] theorem qtZ(q:r=r₁):qge x r K=qge x r₁ K:=by subst q;rfl
@[congr] theorem qtY(q:d=d₁):SW d H K=SW d₁ H K:=by subst q;rfl
@[congr] theorem qvl(q:r=r₁):qhF x r K=qhF x r₁ K:=by subst q;rfl
@[congr] theorem qvk(q:d=d₁):qkP d H K=qkP d₁ H K:=by subst q;rfl
@[congr] theorem qpY(q:d=d₁):Vp d K=Vp d₁ K:=by subst q;rfl
@[congr] theorem qtK(q:d=d₁)(he:e=e₁):qfZ mx d e K=qfZ mx d₁ e₁ K:=by subst q;subst he;rfl
@[congr] theorem qs9{K:List D->Prop}(q:r=r₁):qja n x r K=qja n x r₁ K:=by subst q;rfl
@[congr] theorem qs8{K:List D->Prop}(q:r=r₁):qcA n lo hi x r K=qcA n lo hi x r₁ K:=by subst q;rfl
@[congr] theorem qoL{y:D}{K:D->ab->Prop}(q:y=y₁)(u:r=r₁):DO sz id b off y r H K=DO sz id b off y₁ r₁ H K:=by subst q;subst u;rfl
@[congr] theorem qoK{y:D}{K:D->ab->Prop}(q:y=y₁)(u:r=r₁):DN sz id x n i off y r H K=DN sz id x n i off y₁ r₁ H K:=by subst q;subst u;rfl
@[congr] theorem qoJ{y:D}{K:D->ab->Prop}(q:d=d₁)(u:y=y₁):LZ sz d y H K=LZ sz d₁ y₁ H K:=by subst q;subst u;rfl
@[congr] theorem qvu{K:D->ab->Prop}(q:es2=es2₁)(u:r=r₁):qhS el n bytes id x es2 r H K=qhS el n bytes id x es2₁ r₁ H K:=by subst q;subst u;rfl
@[congr] theorem qu3{z:D}{K:D->ab->Prop}(hz:z=z₁)(q:r=r₁):qhz n id x n' lo hi z r H K=qhz n id x n' lo hi z₁ r₁ H K:=by subst hz;subst q;rfl
@[congr] theorem qu2{z:D}{K:D->ab->Prop}(hz:z=z₁)(q:d=d₁):qkI n z d H K=qkI n z₁ d₁ H K:=by subst hz;subst q;rfl
@[congr] theorem quY{K:D->ab->Prop}(q:src=src₁)(u:r=r₁):qhn n id x n' lo hi src r H K=qhn n id x n' lo hi src₁ r₁ H K:=by subst q;subst u;rfl
@[congr] theorem quX{K:D->ab->Prop}(u:d=d₁)(q:src=src₁):qkE n d src H K=qkE n d₁ src₁ H K:=by subst u;subst q;rfl
@[congr] theorem qun{K:Sg->ab->Prop}(q:r=r₁):qgH t x id σ r H K=qgH t x id σ r₁ H K:=by subst q;rfl
@[congr] theorem qum{K:Sg->ab->Prop}(q:r=r₁):qgG t n x id n' lo hi σ r H K=qgG t n x id n' lo hi σ r₁ H K:=by subst q;rfl
@[congr] theorem quk{K:Sg->ab->Prop}(q:d=d₁):qgF t n d σ H K=qgF t n d₁ σ H K:=by subst q;rfl
@[congr] theorem qth(q:d=d₁):qjg d K=qjg d₁ K:=by subst q;rfl
@[congr] theorem qs7{K:D->ab->Prop}(q:d=d₁):qeJ t d H K=qeJ t d₁ H K:=by subst q;rfl
@[congr] theorem qtd{K:D->ab->Prop}(q:r=r₁):qeL id b r H K=qeL id b r₁ H K:=by subst q;rfl
@[congr] theorem qtc{K:D->ab->Prop}(q:d=d₁):qjc d H K=qjc d₁ H K:=by subst q;rfl
@[congr] theorem qvv{K:D->ab->Prop}(q:dst=dst₁)(w:d=d₁)(u:es2=es2₁):qkW dst el n b d es2 H K=qkW dst₁ el n b d₁ es2₁ H K:=by subst q;subst w;subst u;rfl
@[congr] theorem qvs{r:Nat}{q:Option Res}{K:D->ab->Prop}{u:Option Res}(w:es2=es2₁)(C:q=u):qhP el n b r x es2 q H K=qhP el n b r x es2₁ u H K:=by subst w;subst C;rfl
@[congr] theorem qvr{r:Nat}{K:D->ab->Prop}(u:d=d₁)(q:es2=es2₁):qkV r el n b d es2 H K=qkV r el n b d₁ es2₁ H K:=by subst u;subst q;rfl
@[congr] theorem qpP{r:Nat}{y:D}{K:D->ab->Prop}(q:d=d₁)(u:y=y₁):Vj r sz d y H K=Vj r sz d₁ y₁ H K:=by subst q;subst u;rfl
@[congr] theorem qvt{K:D->ab->Prop}(q:dst=dst₁)(w:d=d₁)(u:es2=es2₁):qhQ dst el n bytes d es2 H K=qhQ dst₁ el n bytes d₁ es2₁ H K:=by subst q;subst w;subst u;rfl
@[congr] theorem qrV{f:D}{d:Nat}{K:D->ab->Prop}(u:f=f₁)(q:args=args₁):BJ S f d args H K=BJ S f₁ d args₁ H K:=by subst u;subst q;rfl
@[congr] theorem qpS{K:List D->Prop}(h:d=d'):lJ n d H K=lJ n d' H K:=by subst h;rfl
@[congr] theorem qta{K:List D->Prop}(h:d=d'):ti n d H K=ti n d' H K:=by subst h;rfl
@[congr] theorem qpq{s u:Spc}{d:Nat}{q:List D}{K:D->ab->Prop}(h:s=u)(w:ds=q):s.pt d ds H K=u.pt d q H K:=by subst h;subst w;rfl
@[congr] theorem qrK{lo hi q u:Option (Option (IntKind×Int))}{K:Nat->Nat->Prop}(h1:lo=q)(h2:hi=u)(h3:n=n'):kW lo hi n K=kW q u n' K:=by subst h1;subst h2;subst h3;rfl
end
section
open Cod (enc dec)
variable {dq:Prop}
@[simp] theorem qre(H:ab)(x y:Value):FrzTo H (.v x) (.v y)=(x=y):=by
 refine propext ⟨λh=>?_,λh=>h ▸ .same _⟩;cases h;rfl
@[simp] theorem quj(H:ab)(d:D):FrzTo H d d=True:=propext ⟨λ_=>trivial,λ_=> .same d⟩
@[simp] theorem qxt(H:ab)(n:Nat)(es:List D):FrzTo H (.v (.slice none 0 0)) (.list n es)=(es=[]):=by
 refine propext ⟨λh=>?_,λh=>h ▸ .nil n⟩;cases h;rfl
def qkd{H:ab}{a b h b':D}(h1:FrzTo H a h)(h2:FrzTo H b b'):FrzTo H (.tup [a,b]) (.tup [h,b']):=
 .tup rfl λk c c' hc d=>by
  match k with
  | 0=>simp at hc d;subst hc;subst d;exact h1
  | 1=>simp at hc d;subst hc;subst d;exact h2
  |k+2=>simp at hc
def qkc{H:ab}{a b c j b' c':D}(h1:FrzTo H a j)(h2:FrzTo H b b')(h3:FrzTo H c c'):FrzTo H (.tup [a,b,c]) (.tup [j,b',c']):=
 .tup rfl λk d l hc h=>by
  match k with
  | 0=>simp at hc h;subst hc;subst h;exact h1
  | 1=>simp at hc h;subst hc;subst h;exact h2
  | 2=>simp at hc h;subst hc;subst h;exact h3
  |k+3=>simp at hc
section
variable {P:Program}{S:Nat->Spc}{f:Nat}{im:List Nat}{cc:CC}{rs:List ai}{N:Nat}
end
end
end Go.Gv
