/- T10 -/
import Derived.Test.YtnffegdacbdhmaaGreatDoorGd11
set_option linter.all false
namespace Go.Gv
open Cod (enc dec)
variable {b b' bytes el el' f g hi i id j len lo n n' n'' o off sz t:Nat}{H:ab}{K:D->Prop}{dst dst₁ rt:Option Nat}{v x x':Value}{L d d' d₁ e e₁ f₁ i₁ y₁ z₁:D}{k k' kd:IntKind}{σ:Sg}{args args₁ caps cells cs ds es es2 es2₁ src src₁:List D}{agg mx neg:Bool}{r r₁:Option Res}{c y:Operand}{a h l:Int}{s:ByteArray}{z:List Value}{no yes:Sg->Prop}{A B p:Prop}{op:BinOp}{ks:List XI}{S:Nat->Spc}{ps xs:List Operand}{s₁:Spc}
section
variable {S:Nat->Spc}{K:Ex->Sg->ab->Prop}{σ:Sg}{H:ab}
def Yv(S:Nat->Spc)(b:CC)(K:Ex->Sg->ab->Prop):Ex->Sg->ab->Prop:=λe σ H=>match e with
 | .norm=>vc S b K σ H
 |e=>K e σ H
def qc8(id:Nat)(K:Ex->Sg->ab->Prop):Ex->Sg->ab->Prop:=λe σ H=>match e with
 | .ex i=>if i=id then K .norm σ H else K (.ex i) σ H
 |e=>K e σ H
def qcs(inv:qnO)(x:inv.X)(K:Ex->Sg->ab->Prop):Ex->Sg->ab->Prop:=λe σ' H'=>match e with
 | .norm=>∃y,inv.P y/\Wk σ' H' (inv.s y) (inv.h y)/\inv.m y<inv.m x
 |e=>K e σ' H'
def V9(d:D)(A B:Prop):Prop:=match d with
 | .v (.bool t)=>(t=true->A)/\(t=false->B)
 | _=>False
@[simp ↓] theorem qm0:vc S .skip K σ H=K .norm σ H:=i' rfl
@[simp ↓] theorem qk6(l:List CI):vc S (.reg l) K σ H=DU S l σ H (K .norm):=i' rfl
@[simp ↓] theorem qwL(p l:List CI):vc S (.regd p l) K σ H=kC S p σ (bD p H) H λσ H=>DU S l σ H (K .norm):=i' rfl
@[simp ↓] theorem WG(a b:CC):vc S (.seq a b) K σ H=vc S a (Yv S b K) σ H:=i' rfl
@[simp ↓] theorem Nn(b:CC):Yv S b K .norm σ H=vc S b K σ H:=i' rfl
@[simp ↓] theorem qgA(b:CC)(i:Nat):Yv S b K (.ex i) σ H=K (.ex i) σ H:=i' rfl
@[simp ↓] theorem qm1(b:CC):Yv S b K .ret σ H=K .ret σ H:=i' rfl
@[simp ↓] theorem qqw(c:Operand)(a b:CC):vc S (.ite c a b) K σ H=V9 (ev σ c) (vc S a K σ H) (vc S b K σ H):=i' rfl
@[simp] theorem qm4(t:Bool)(A B:Prop):V9 (.v (.bool t)) A B=((t=true->A)/\(t=false->B)):=i' rfl
@[simp high] theorem qwN:V9 (.v (.bool true)) A B=A:=by simp[V9]
@[simp high] theorem qwO:V9 (.v (.bool false)) A B=B:=by simp[V9]
@[simp ↓] theorem SW(id:Nat)(b:CC):vc S (.block id b) K σ H=vc S b (qc8 id K) σ H:=i' rfl
@[simp ↓] theorem qm6(id:Nat):qc8 id K .norm σ H=K .norm σ H:=i' rfl
@[simp ↓] theorem qgD(id:Nat):qc8 id K .ret σ H=K .ret σ H:=i' rfl
@[simp ↓] theorem Zo(id i:Nat):qc8 id K (.ex i) σ H=if i=id then K .norm σ H else K (.ex i) σ H:=i' rfl
@[simp ↓] theorem qm5(i:Nat):vc S (.exit i) K σ H=K (.ex i) σ H:=i' rfl
@[simp ↓] theorem qyR:vc S .ret K σ H=K .ret σ H:=i' rfl
@[simp ↓] theorem qwM(ls lh:List Nat)(c:CC):vc S (.keep ls lh c) K σ H=vc S c K (ix ls σ) (jm lh H):=i' rfl
def SV(k:Nat)(b:CC):vc S (.loop k b) K σ H=∃inv:qnO,(∃x,inv.P x/\Wk σ H (inv.s x) (inv.h x))/\∀x,inv.P x->vc S b (qcs inv x K) (inv.s x) (inv.h x):=i' rfl
def qgC(k:Nat)(c:CC):vc S (.cut k c) K σ H=∃(σ':Sg) (H':ab),Wk σ H σ' H'/\vc S c K σ' H':=i' rfl
@[simp ↓] theorem qm3(inv:qnO)(x:inv.X):qcs inv x K .norm σ H=∃y,inv.P y/\Wk σ H (inv.s y) (inv.h y)/\inv.m y<inv.m x:=i' rfl
@[simp ↓] theorem qm2(inv:qnO)(x:inv.X):qcs inv x K .ret σ H=K .ret σ H:=i' rfl
@[simp ↓] theorem qgB(inv:qnO)(x:inv.X)(i:Nat):qcs inv x K (.ex i) σ H=K (.ex i) σ H:=i' rfl
end
def oR(s:Nat)(b:Bool)(σ:Sg)(d:D)(yes no:Sg->Prop):Prop:=match d with
 | .v (.bool t)=>(t=b->yes (upd σ s (.v (.bool b))))/\(t=(!b)->no (upd σ s (.v (.bool (!b)))))
 | .undef=>no σ
 | _=>False
@[simp high] theorem qzE(s:Nat):oR s true σ (.v (.bool true)) yes no=yes (upd σ s (.v (.bool true))):=by simp[oR]
@[simp high] theorem qzF(s:Nat):oR s true σ (.v (.bool false)) yes no=no (upd σ s (.v (.bool false))):=by simp[oR]
@[simp high] theorem qzG(s:Nat):oR s false σ (.v (.bool true)) yes no=no (upd σ s (.v (.bool true))):=by simp[oR]
@[simp high] theorem qzH(s:Nat):oR s false σ (.v (.bool false)) yes no=yes (upd σ s (.v (.bool false))):=by simp[oR]
@[simp] theorem qzD(s:Nat)(b:Bool):oR s b σ .undef yes no=no σ:=i' rfl
@[simp] theorem qzT(s:Nat)(b t:Bool):oR s b σ (.v (.bool t)) yes no=((t=b->yes (upd σ s (.v (.bool b))))/\(t=(!b)->no (upd σ s (.v (.bool (!b)))))):=i' rfl
section
variable {S:Nat->Spc}{σ:Sg}{H Hr:ab}
@[simp ↓] theorem qkZ(K:Sg->ab->Prop):DU S [] σ H K=K σ H:=i' rfl
@[simp ↓] theorem qmE(K:Sg->ab->Prop)(d:Option Nat)(c:COp)(r:List CI):DU S (.op d none c::r) σ H K=aI S c d σ H λx H'=>DU S r (fq σ d x) H' K:=i' rfl
@[simp ↓] theorem qyt(K:Sg->ab->Prop)(d:Option Nat)(s:Nat)(b:Bool)(c:COp)(r:List CI):DU S (.op d (some (s,b)) c::r) σ H K=oR s b σ (σ s) (λσ=>aI S c d σ H λx H'=>DU S r (fq σ d x) H' K) (λσ=>DU S r (fq σ d .undef) H K):=i' rfl
@[simp ↓] theorem qyu(K:Sg->ab->Prop)(r:List CI):DU S (.frz t n::r) σ H K=JG t n σ H λσ' H'=>DU S r σ' H' K:=i' rfl
@[simp ↓] theorem qyk(K:Sg->ab->Prop):kC S [] σ Hr H K=K σ H:=i' rfl
@[simp ↓] theorem qyl(K:Sg->ab->Prop)(a:Nat)(r:List CI):kC S (.frz a b::r) σ Hr H K=kC S r σ (bD r Hr) H K:=i' rfl
@[simp ↓] theorem qzj(K:Sg->ab->Prop)(d:Option Nat)(c:COp)(r:List CI):kC S (.op d none c::r) σ Hr H K=ax S c d σ Hr H λx H'=>kC S r (fq σ d x) Hr H' K:=i' rfl
@[simp ↓] theorem qyj(K:Sg->ab->Prop)(d:Option Nat)(s:Nat)(b:Bool)(c:COp)(r:List CI):kC S (.op d (some (s,b)) c::r) σ Hr H K=oR s b σ (σ s) (λσ=>ax S c d σ Hr H λx H'=>kC S r (fq σ d x) Hr H' K) (λσ=>kC S r (fq σ d .undef) Hr H K):=i' rfl
end
def Jv(d:D)(A B:Prop):Prop:=match d with
 | .v (.bool t)=>(t=true->A)/\(t=false->B)
 | _=>False
@[simp high] theorem qsk:Jv (.v (.bool true)) A B=A:=by simp[Jv]
@[simp high] theorem qsl:Jv (.v (.bool false)) A B=B:=by simp[Jv]
def VT(agg:Bool)(sz b off:Nat)(r:Option Res)(K:D->Prop):Prop:=match r with
 |some (.box b' cells)=>b'=b/\off+sz<=cells.length/\K (Kw agg sz cells off)
 | _=>False
def VS(agg:Bool)(sz:Nat)(x:Value)(n i off:Nat)(r:Option Res)(K:D->Prop):Prop:=match r with
 |some (.row x' _ n' es)=>x'=x/\n'=n/\off+sz<=n/\i<es.length/\∀d,es[i]? =some d->K (Kw agg sz d.cells off)
 | _=>False
def JB(agg:Bool)(sz:Nat)(d:D)(H:ab)(K:D->Prop):Prop:=match d with
 | .cptr cs off=>off+sz<=cs.length/\K (Kw agg sz cs off)
 | .bptr id b off=>VT agg sz b off (H id) K
 | .eptr id x n i off=>VS agg sz x n i off (H id) K
 | _=>False
@[simp] theorem qsJ:JB agg sz (.cptr cs off) H K=(off+sz<=cs.length/\K (Kw agg sz cs off)):=i' rfl
@[simp] theorem qsK:JB agg sz (.bptr i b off) H K=VT agg sz b off (H i) K:=i' rfl
@[simp] theorem qsI(k:Nat):JB agg sz (.eptr i x n k off) H K=VS agg sz x n k off (H i) K:=i' rfl
@[simp] theorem qsM:VT agg sz b off (some (.box b' cells)) K=(b'=b/\off+sz<=cells.length/\K (Kw agg sz cells off)):=i' rfl
@[simp] theorem qsL:VS agg sz x n i off (some (.row x' el n' es)) K=(x'=x/\n'=n/\off+sz<=n/\i<es.length/\∀d,es[i]? =some d->K (Kw agg sz d.cells off)):=i' rfl
def qcn(d:D)(K:D->Prop):Prop:=match d with
 | .cptr cs off=>K (.cptr cs off)
 | .bptr id b off=>K (.bptr id b off)
 | .eptr id x n i off=>K (.eptr id x n i off)
 | .tape L=>K (.tape L)
 | .clo f caps=>K (.clo f caps)
 | _=>False
@[simp] theorem qvx:qcn (.cptr cs off) K=K (.cptr cs off):=i' rfl
@[simp] theorem qvy:qcn (.bptr i b off) K=K (.bptr i b off):=i' rfl
def NS(op:BinOp)(d e:D)(K:D->Prop):Prop:=match d,e with
 | .v (.int k a), .v (.int k' b)=>qcD op k k'/\gQ op k a b K
 | _,_=>False
@[simp] theorem qhk(op:BinOp)(k k':IntKind)(a b:Int)(K:D->Prop):NS op (.v (.int k a)) (.v (.int k' b)) K=(qcD op k k'/\gQ op k a b K):=i' rfl
@[simp] theorem qjq(k k':IntKind):qcD .add k k'=(k=k'):=i' rfl
@[simp] theorem qsV:qcD .sub k k'=(k=k'):=i' rfl
@[simp] theorem qs0:qcD .mul k k'=(k=k'):=i' rfl
@[simp] theorem qsZ:qcD .quo k k'=(k=k'):=i' rfl
@[simp] theorem qsY:qcD .rem k k'=(k=k'):=i' rfl
@[simp] theorem qs1:qcD .and k k'=(k=k'):=i' rfl
@[simp] theorem qv4:qcD .or k k'=(k=k'):=i' rfl
@[simp] theorem qsX:qcD .shl k k'=True:=i' rfl
@[simp] theorem qsW:qcD .shr k k'=True:=i' rfl
@[simp ↓] theorem qdc(k:IntKind)(a b:Int)(K:D->Prop):gQ .add k a b K=(InR k (a+b)/\K (.v (.int k (a+b)))):=i' rfl
@[simp ↓] theorem qoA(b:Int):gQ .sub k a b K=(InR k (a -b)/\K (.v (.int k (a -b)))):=i' rfl
@[simp ↓] theorem qoF(b:Int):gQ .mul k a b K=(InR k (a*b)/\K (.v (.int k (a*b)))):=i' rfl
@[simp ↓] theorem qoE(b:Int):gQ .quo k a b K=(b≠0/\InR k (a.tdiv b)/\K (.v (.int k (a.tdiv b)))):=i' rfl
@[simp ↓] theorem qoD(b:Int):gQ .rem k a b K=(b≠0/\K (.v (.int k (a.tmod b)))):=i' rfl
@[simp ↓] theorem qoG(b:Int):gQ .and k a b K=K (.v (.int k (De k a b))):=i' rfl
@[simp ↓] theorem qq6(b:Int):gQ .or k a b K=K (.v (.int k (qoc k a b))):=i' rfl
@[simp ↓] theorem qoC(b:Int):gQ .shl k a b K=(0<=b/\K (.v (.int k (Rr k a b)))):=i' rfl
@[simp ↓] theorem qoB(b:Int):gQ .shr k a b K=(0<=b/\K (.v (.int k (Yt k a b)))):=i' rfl
def qiL(d:D)(K:D->Prop):Prop:=match d with
 | .v (.int _ n)=>K (.v (.string (Utf8.encode n)))
 | _=>False
@[simp] theorem qvb(n:Int):qiL (.v (.int k n)) K=K (.v (.string (Utf8.encode n))):=i' rfl
def Zr(o:Option Bool)(K:D->Prop):Prop:=match o with|some t=>K (.v (.bool t))|none=>False
@[simp] theorem qnn(t:Bool)(K:D->Prop):Zr (some t) K=K (.v (.bool t)):=i' rfl
def qc2(op:BinOp)(d e:D)(K:D->Prop):Prop:=match d,e with
 | .v (.int k a), .v (.int k' b)=>k=k'/\Zr (Tc op a b) K
 | .v (.string a), .v (.string b)=>Zr (Xb op a b) K
 | _,_=>False
@[simp] theorem qnm(op:BinOp)(k k':IntKind)(a b:Int)(K:D->Prop):qc2 op (.v (.int k a)) (.v (.int k' b)) K=(k=k'/\Zr (Tc op a b) K):=i' rfl
@[simp] theorem qw0(a b:ByteArray):qc2 op (.v (.string a)) (.v (.string b)) K=Zr (Xb op a b) K:=i' rfl
@[simp] theorem qg4(a b:Int):Tc .lss a b=some (decide (a<b)):=i' rfl
@[simp] theorem qqL(b:Int):Tc .leq a b=some (decide (a<=b)):=i' rfl
@[simp] theorem qqM(b:Int):Tc .gtr a b=some (decide (b<a)):=i' rfl
@[simp] theorem qqN(b:Int):Tc .geq a b=some (decide (b<=a)):=i' rfl
@[simp] theorem qqI(a b:ByteArray):Xb .lss a b=some (Op.bytesLess a.toList b.toList):=i' rfl
@[simp] theorem qqJ(a b:ByteArray):Xb .gtr a b=some (!(Op.bytesLess a.toList b.toList||a.toList==b.toList)):=i' rfl
@[simp] theorem qqK(a b:ByteArray):Xb .geq a b=some (!Op.bytesLess a.toList b.toList):=i' rfl
def qcU(neg:Bool)(o:Option Bool)(K:D->Prop):Prop:=match o with
 |some p=>K (.v (.bool (if neg then !p else p)))
 |none=>False
@[simp] theorem qwE(p:Bool):qcU false (some p) K=K (.v (.bool p)):=i' rfl
@[simp] theorem qwD(p:Bool):qcU true (some p) K=K (.v (.bool (!p))):=i' rfl
@[simp] theorem qyN(k:XI)(a b:D):qgv false [k] a b=Zm k a b:=i' rfl
@[simp] theorem qyM(a b:List D):qgv true ks (.agg a) (.agg b)=Zj ks a b:=i' rfl
@[simp] theorem qyL:Zj [] [] []=some true:=i' rfl
@[simp] theorem qyK(k:XI)(a b:D)(as bs:List D):Zj (k::ks) (a::as) (b::bs)=(Zm k a b).bind λp=>(Zj ks as bs).bind λq=>some (p && q):=i' rfl
@[simp] theorem qyP(b:Int):Zm .int (.v (.int k a)) (.v (.int k' b))=if k=k' then some (decide (a=b))else none:=i' rfl
@[simp] theorem qyO(a b:ByteArray):Zm .str (.v (.string a)) (.v (.string b))=some (decide (a=b)):=i' rfl
@[simp] theorem qyQ(a b:Bool):Zm .bool (.v (.bool a)) (.v (.bool b))=some (decide (a=b)):=i' rfl
def qfm(d:D)(K:D->Prop):Prop:=match d with
 | .v (.bool b)=>K (.v (.bool (!b)))
 | _=>False
@[simp] theorem qvt(b:Bool):qfm (.v (.bool b)) K=K (.v (.bool (!b))):=i' rfl
def qa8(k:IntKind)(d:D)(K:D->Prop):Prop:=match d with
 | .v (.int _ n)=>K (.v (.int k (k.wrap n)))
 | _=>False
@[simp] theorem qtQ(n:Int):qa8 k (.v (.int k' n)) K=K (.v (.int k (k.wrap n))):=i' rfl
def Ys(n id:Nat)(x:Value)(lo hi:Option (Option (IntKind×Int)))(r:Option Res)(K:D->Prop):Prop:=match r with
 |some (.row x' _ n' es)=>x'=x/\n'=n/\pY lo hi es.length λl h=>K (.sub id x n l h)
 | _=>False
@[simp] theorem qpg(lo hi:Option (Option (IntKind×Int))):Ys n i x lo hi (some (.row x' el n' es)) K=(x'=x/\n'=n/\pY lo hi es.length λl h=>K (.sub i x n l h)):=i' rfl
@[simp] theorem qwW(K:Nat->Nat->Prop):pY (some (some (k,l))) none len K=(0<=l/\l<=len/\K l.toNat len):=i' rfl
@[simp] theorem qwV(K:Nat->Nat->Prop):pY none (some (some (k,h))) len K=(0<=h/\h<=len/\K 0 h.toNat):=i' rfl
def LT(n:Nat)(d:D)(lo hi:Option (Option (IntKind×Int)))(H:ab)(K:D->Prop):Prop:=match d with
 | .list n' es=>n'=n/\(match lo,hi with
   |none,none=>K (.list n es)
   |some (some (_,l)),none=>0<=l/\l<=es.length/\K (.list n (es.drop l.toNat))
   |none,some (some (_,h))=>0<=h/\h<=es.length/\K (.list n (es.take h.toNat))
   |some (some (_,l)),some (some (_,h))=>0<=l/\l<=h/\h<=es.length/\K (.list n ((es.take h.toNat).drop l.toNat))
   | _,_=>False)
 | .own id x=>Ys n id x lo hi (H id) K
 | .sub id x n' a b=>n'=n/\pY lo hi (b -a) λl h=>K (.sub id x n (a+l) (a+h))
 | .v (.slice none 0 0)=>pY lo hi 0 λ_ _=>K (.v (.slice none 0 0))
 | _=>False
@[simp] theorem qpf(lo hi:Option (Option (IntKind×Int))):LT n (.own i x) lo hi H K=Ys n i x lo hi (H i) K:=i' rfl
@[simp] theorem qn7:LT n (.list n' es) (some (some (k,l))) none H K=(n'=n/\0<=l/\l<=es.length/\K (.list n (es.drop l.toNat))):=i' rfl
@[simp] theorem qn6:LT n (.list n' es) none (some (some (k,l))) H K=(n'=n/\0<=l/\l<=es.length/\K (.list n (es.take l.toNat))):=i' rfl
def KZ(d:D)(lo hi:Option (Option (IntKind×Int)))(K:D->Prop):Prop:=match d with
 | .v (.string s)=>(match lo,hi with
   |none,none=>K (.v (.string (s.extract 0 s.size)))
   |some (some (_,l)),none=>0<=l/\l<=s.size/\K (.v (.string (s.extract l.toNat s.size)))
   |none,some (some (_,h))=>0<=h/\h<=s.size/\K (.v (.string (s.extract 0 h.toNat)))
   |some (some (_,l)),some (some (_,h))=>0<=l/\l<=h/\h<=s.size/\K (.v (.string (s.extract l.toNat h.toNat)))
   | _,_=>False)
 | _=>False
@[simp] theorem qlO:KZ (.v (.string s)) (some (some (k,l))) none K=(0<=l/\l<=s.size/\K (.v (.string (s.extract l.toNat s.size)))):=i' rfl
@[simp] theorem qlP:KZ (.v (.string s)) (some (some (k,l))) (some (some (k',h))) K=(0<=l/\l<=h/\h<=s.size/\K (.v (.string (s.extract l.toNat h.toNat)))):=i' rfl
def EG(off:Nat)(d:D)(K:D->Prop):Prop:=match d with
 | .cptr cs o=>K (.cptr cs (o+off))
 | .bptr id b o=>K (.bptr id b (o+off))
 | .eptr id x n i o=>K (.eptr id x n i (o+off))
 | _=>False
@[simp] theorem qqk:EG off (.cptr cs o) K=K (.cptr cs (o+off)):=i' rfl
@[simp] theorem qql:EG off (.bptr i b o) K=K (.bptr i b (o+off)):=i' rfl
@[simp] theorem qqj(k:Nat):EG off (.eptr i x n k o) K=K (.eptr i x n k (o+off)):=i' rfl
def M6(n:Nat)(k:Int)(id:Nat)(x:Value)(r:Option Res)(K:D->Prop):Prop:=match r with
 |some (.row x' _ n' es)=>x'=x/\n'=n/\0<=k/\k<es.length/\K (.eptr id x n k.toNat 0)
 | _=>False
def EE(n:Nat)(i d:D)(H:ab)(K:D->Prop):Prop:=match i with
 | .v (.int _ k)=>match d with
   | .list n' es=>n'=n/\0<=k/\k<es.length/\∀d,es[k.toNat]? =some d->K (.cptr d.cells 0)
   | .own id x=>M6 n k id x (H id) K
   | .sub id x n' lo hi=>n'=n/\0<=k/\k<(hi -lo:Nat)/\K (.eptr id x n (lo+k.toNat) 0)
   | _=>False
 | _=>False
@[simp] theorem qpZ(k:Int):EE n (.v (.int kd k)) (.sub i x n' lo hi) H K=(n'=n/\0<=k/\k<(hi -lo:Nat)/\K (.eptr i x n (lo+k.toNat) 0)):=i' rfl
@[simp] theorem qp1(k:Int):EE n (.v (.int kd k)) (.list n' es) H K=(n'=n/\0<=k/\k<es.length/\∀d,es[k.toNat]? =some d->K (.cptr d.cells 0)):=i' rfl
@[simp] theorem qp0(k:Int):EE n (.v (.int kd k)) (.own i x) H K=M6 n k i x (H i) K:=i' rfl
@[simp] theorem qp2(k:Int):M6 n k i x (some (.row x' el n' es)) K=(x'=x/\n'=n/\0<=k/\k<es.length/\K (.eptr i x n k.toNat 0)):=i' rfl
def ZU(i d:D)(K:D->Prop):Prop:=match i with
 | .v (.int _ k)=>match d with
   | .v (.string s)=>0<=k/\k<s.size/\∀c,s.data[k.toNat]? =some c->K (.v (.int .u8 c.toNat))
   | _=>False
 | _=>False
@[simp] theorem qrZ(k:Int):ZU (.v (.int kd k)) (.v (.string s)) K=(0<=k/\k<s.size/\∀c,s.data[k.toNat]? =some c->K (.v (.int .u8 c.toNat))):=i' rfl
def qgs(o:Option D)(K:D->Prop):Prop:=match o with
 |some d=>K d
 |none=>False
def qgr(d:D)(i:Nat)(K:D->Prop):Prop:=match d with
 | .tup ds=>qgs ds[i]? K
 | _=>False
@[simp] theorem qwy:qgr (.tup ds) i K=qgs ds[i]? K:=i' rfl
@[simp] theorem qwz:qgs (some d) K=K d:=i' rfl
def qfJ(x:Value)(r:Option Res)(K:D->Prop):Prop:=match r with
 |some (.row x' _ _ es)=>x'=x/\((es.length:Int)<=9223372036854775807->K (.v (.int .i64 es.length)))
 | _=>False
def Su(d:D)(H:ab)(K:D->Prop):Prop:=match d with
 | .list _ es=>(es.length:Int)<=9223372036854775807->K (.v (.int .i64 es.length))
 | .own id x=>qfJ x (H id) K
 | .v (.slice _ n _)=>K (.v (.int .i64 n))
 | .sub _ _ _ lo hi=>((hi -lo:Nat):Int)<=9223372036854775807->K (.v (.int .i64 (hi -lo:Nat)))
 | _=>False
@[simp] theorem qvS:Su (.sub i x n lo hi) H K=(((hi -lo:Nat):Int)<=9223372036854775807->K (.v (.int .i64 (hi -lo:Nat)))):=i' rfl
@[simp] theorem qvV:Su (.list n es) H K=((es.length:Int)<=9223372036854775807->K (.v (.int .i64 es.length))):=i' rfl
@[simp] theorem qvT:Su (.own i x) H K=qfJ x (H i) K:=i' rfl
@[simp] theorem qsO(a:Option Addr)(c:Nat):Su (.v (.slice a n c)) H K=K (.v (.int .i64 n)):=i' rfl
@[simp high] theorem qvU:Su (.v (.slice none 0 0)) H K=K (.v (.int .i64 0)):=i' rfl
@[simp] theorem qvW:qfJ x (some (.row x' el n es)) K=(x'=x/\((es.length:Int)<=9223372036854775807->K (.v (.int .i64 es.length)))):=i' rfl
def qha(x:Value)(r:Option Res)(K:D->Prop):Prop:=match r with
 |some (.row x' _ n es)=>x'=x/\n=1/\qk8 es=true/\K (.v (.string (qnr es)))
 | _=>False
@[simp] theorem qxs:qha x (some (.row x' el n es)) K=(x'=x/\n=1/\qk8 es=true/\K (.v (.string (qnr es)))):=i' rfl
def qkf(d:D)(H:ab)(K:D->Prop):Prop:=match d with
 | .own i x=>qha x (H i) K
 | .v (.slice none 0 0)=>K (.v (.string ⟨#[]⟩))
 | _=>False
@[simp] theorem qxr:qkf (.own i x) H K=qha x (H i) K:=i' rfl
def UP(d:D)(K:D->Prop):Prop:=match d with
 | .v (.string s)=>(s.size:Int)<=9223372036854775807->K (.v (.int .i64 s.size))
 | _=>False
@[simp] theorem qrY:UP (.v (.string s)) K=((s.size:Int)<=9223372036854775807->K (.v (.int .i64 s.size))):=i' rfl
def qfs(mx:Bool)(d e:D)(K:D->Prop):Prop:=match d,e with
 | .v (.int k a), .v (.int k' b)=>k=k'/\K (.v (.int k (if mx then max a b else min a b)))
 | _,_=>False
@[simp] theorem qvG(b:Int):qfs mx (.v (.int k a)) (.v (.int k' b)) K=(k=k'/\K (.v (.int k (if mx then max a b else min a b)))):=i' rfl
@[simp ↓] theorem qoy(K:List D->Prop):kA σ [] cs K=K cs:=i' rfl
@[simp ↓] theorem qns(x:Operand)(r:List (Nat×Nat×Operand))(K:List D->Prop):kA σ ((off,sz,x)::r) cs K=((ev σ x).kn=true/\(ev σ x).cells.length=sz/\kA σ r (setAt cs off (ev σ x).cells) K):=i' rfl
@[simp] theorem qob:kg n []=True:=i' rfl
@[simp] theorem qmh(r:List D):kg n (d::r)=(d.kn=true/\d.cells.length=n/\kg n r):=i' rfl
def qbQ(n lo hi:Nat)(x:Value)(r:Option Res)(K:List D->Prop):Prop:=match r with
 |some (.row x' _ n'' es)=>x'=x/\n''=n/\K ((es.take hi).drop lo)
 | _=>False
@[simp] theorem quY(K:List D->Prop):qbQ n lo hi x (some (.row x' el n' es)) K=(x'=x/\n'=n/\K ((es.take hi).drop lo)):=i' rfl
@[simp] theorem qx4(K:List D->Prop):kD n (.sub i x n' lo hi) H K=(n'=n/\qbQ n lo hi x (H i) K):=by
 simp only[kD];cases H i with
 |none=>simp[qbQ]
 |some r=>cases r<;>simp[qbQ,and_left_comm]
@[simp] theorem quZ(K:List D->Prop):vM n (.list n' es) H K=(n'=n/\K es):=i' rfl
@[simp] theorem qu0(K:List D->Prop):vM n (.v (.string s)) H K=(n=1/\K (FI s)):=i' rfl
def qvH(t el n bytes:Nat)(agg:Bool)(z:List Value)(l c:Option (IntKind×Int))(H:ab)(K:D->ab->Prop):Prop:=match l,c with
 |some (_,l),some (_,c)=>0<=l/\l<=c/\bytes*c<=140737488355328/\c<=140737488355328/\∀x,K (.own t x) (ai H t (some (.row x el n (List.replicate l.toNat (if agg then .agg (z.map qH)else qH (z.headD (.bool false)))))))
 | _,_=>False
@[simp] theorem qys(c:Int)(K:D->ab->Prop):qvH t el n bytes agg z (some (k,l)) (some (k',c)) H K=(0<=l/\l<=c/\bytes*c<=140737488355328/\c<=140737488355328/\∀x,K (.own t x) (ai H t (some (.row x el n (List.replicate l.toNat (if agg then .agg (z.map qH)else qH (z.headD (.bool false)))))))):=i' rfl
def D5(sz id b off:Nat)(y:D)(r:Option Res)(H:ab)(K:D->ab->Prop):Prop:=match r with
 |some (.box b' cells)=>b'=b/\off+sz<=cells.length/\K .undef (ai H id (some (.box b' (setAt cells off y.cells))))
 | _=>False
def D4(sz id:Nat)(x:Value)(n i off:Nat)(y:D)(r:Option Res)(H:ab)(K:D->ab->Prop):Prop:=match r with
 | some (.row x' el n' es)=>x'=x/\n'=n/\0<n/\off+sz<=n/\i<es.length/\∀d,es[i]? =some d->
    K .undef (ai H id (some (.row x' el n' (es.set i (if off=0/\sz=n then y else .agg (setAt d.cells off y.cells))))))
 | _=>False
def LQ(sz:Nat)(d y:D)(H:ab)(K:D->ab->Prop):Prop:=match d with
 | .bptr id b off=>D5 sz id b off y (H id) H K
 | .eptr id x n i off=>D4 sz id x n i off y (H id) H K
 | _=>False
@[simp] theorem qo7(y:D)(K:D->ab->Prop):LQ sz (.bptr i b off) y H K=D5 sz i b off y (H i) H K:=i' rfl
@[simp] theorem qo6(k:Nat)(y:D)(K:D->ab->Prop):LQ sz (.eptr i x n k off) y H K=D4 sz i x n k off y (H i) H K:=i' rfl
@[simp] theorem qo9(y:D)(K:D->ab->Prop):D5 sz i b off y (some (.box b' cells)) H K=(b'=b/\off+sz<=cells.length/\K .undef (ai H i (some (.box b' (setAt cells off y.cells))))):=i' rfl
@[simp] theorem qo8(k:Nat)(y:D)(K:D->ab->Prop):D4 sz i x n k off y (some (.row x' el n' es)) H K=(x'=x/\n'=n/\0<n/\off+sz<=n/\k<es.length/\∀d,es[k]? =some d->
 K .undef (ai H i (some (.row x' el n' (es.set k (if off=0/\sz=n then y else .agg (setAt d.cells off y.cells))))))):=i' rfl
def qho(el n bytes id:Nat)(x:Value)(es2:List D)(r:Option Res)(H:ab)(K:D->ab->Prop):Prop:=match r with
 |some (.row x' el' n' es)=>x'=x/\el'=el/\n'=n/\(es.length+es2.length) *bytes<=140737488355328/\es.length+es2.length<=140737488355328/\∀v,K (.own id v) (ai H id (some (.row v el n (es++es2))))
 | _=>False
def qxE(el n bytes id:Nat)(x:Value)(n' lo hi:Nat)(es2:List D)(r:Option Res)(H:ab)(K:D->ab->Prop):Prop:=match r with
 |some (.row x' el' n'' es)=>x'=x/\el'=el/\n'=n/\n''=n/\lo=0/\(hi+es2.length) *bytes<=140737488355328/\hi+es2.length<=140737488355328/\∀v,K (.own id v) (ai H id (some (.row v el n (es.take hi++es2))))
 | _=>False
def qw3(n id:Nat)(x:Value)(z:D)(r:Option Res)(H:ab)(K:D->ab->Prop):Prop:=match r with
 |some (.row x' el n' es)=>x'=x/\n'=n/\K (.tup []) (ai H id (some (.row x' el n' (List.replicate es.length z))))
 | _=>False
def qg6(n id:Nat)(x:Value)(n' lo hi:Nat)(z:D)(r:Option Res)(H:ab)(K:D->ab->Prop):Prop:=match r with
 |some (.row x' el n'' es)=>x'=x/\n'=n/\n''=n/\K (.tup []) (ai H id (some (.row x' el n'' (es.take lo++List.replicate (hi -lo) z++es.drop hi))))
 | _=>False
def qj8(n:Nat)(z d:D)(H:ab)(K:D->ab->Prop):Prop:=match d with
 | .own id x=>qw3 n id x z (H id) H K
 | .sub id x n' lo hi=>qg6 n id x n' lo hi z (H id) H K
 | .v (.slice none 0 0)=>K (.tup []) H
 | _=>False
@[simp] theorem qw1(z:D)(K:D->ab->Prop):qj8 n z (.sub i x n' lo hi) H K=qg6 n i x n' lo hi z (H i) H K:=i' rfl
@[simp] theorem qw2(z:D)(K:D->ab->Prop):qg6 n i x n' lo hi z (some (.row x' el n'' es)) H K=(x'=x/\n'=n/\n''=n/\K (.tup []) (ai H i (some (.row x' el n'' (es.take lo++List.replicate (hi -lo) z++es.drop hi))))):=i' rfl
def qwZ(n id:Nat)(x:Value)(src:List D)(r:Option Res)(H:ab)(K:D->ab->Prop):Prop:=match r with
 |some (.row x' el n' es)=>x'=x/\n'=n/\K (.v (.int .i64 (min src.length es.length:Nat))) (ai H id (some (.row x' el n' (src.take es.length++es.drop src.length))))
 | _=>False
def qgV(n id:Nat)(x:Value)(n' lo hi:Nat)(src:List D)(r:Option Res)(H:ab)(K:D->ab->Prop):Prop:=match r with
 |some (.row x' el n'' es)=>x'=x/\n'=n/\n''=n/\K (.v (.int .i64 (min src.length (hi -lo):Nat))) (ai H id (some (.row x' el n'' (es.take lo++src.take (hi -lo) ++es.drop (lo+min src.length (hi -lo))))))
 | _=>False
def qj4(n:Nat)(d:D)(src:List D)(H:ab)(K:D->ab->Prop):Prop:=match d with
 | .own id x=>qwZ n id x src (H id) H K
 | .sub id x n' lo hi=>qgV n id x n' lo hi src (H id) H K
 | _=>False
@[simp] theorem qwX(K:D->ab->Prop):qj4 n (.sub i x n' lo hi) src H K=qgV n i x n' lo hi src (H i) H K:=i' rfl
@[simp] theorem qwY(K:D->ab->Prop):qgV n i x n' lo hi src (some (.row x' el n'' es)) H K=(x'=x/\n'=n/\n''=n/\K (.v (.int .i64 (min src.length (hi -lo):Nat))) (ai H i (some (.row x' el n'' (es.take lo++src.take (hi -lo) ++es.drop (lo+min src.length (hi -lo))))))):=i' rfl
@[simp] theorem qxT:Tz true z= .agg (z.map qH):=i' rfl
@[simp] theorem qxU:Tz false z=qH (z.headD (.bool false)):=i' rfl
def qge(t:Nat)(x:Value)(id:Nat)(σ:Sg)(r:Option Res)(H:ab)(K:Sg->ab->Prop):Prop:=match r with
 |some (.row x' _ n' es)=>x'=x/\K (qcS id x (.list n' es) σ) (ai H id none)
 | _=>False
def qww(t b off:Nat)(id:Nat)(σ:Sg)(r:Option Res)(H:ab)(K:Sg->ab->Prop):Prop:=match r with
 |some (.box b' cs)=>b'=b/\K (upd σ t (.cptr cs off)) (ai H id none)
 | _=>False
def qgd(t n:Nat)(x:Value)(id n' lo hi:Nat)(σ:Sg)(r:Option Res)(H:ab)(K:Sg->ab->Prop):Prop:=match r with
 |some (.row x' el n'' es)=>x'=x/\n'=n''/\(if n=0 then lo=0/\∀v,K (upd σ t (.own id v)) (ai H id (some (.row v el n'' (es.take hi))))else K (upd σ t (.list n'' ((es.take hi).drop lo))) (ai H id none))
 | _=>False
def qgc(t n:Nat)(d:D)(σ:Sg)(H:ab)(K:Sg->ab->Prop):Prop:=match d with
 | .own id x=>qge t x id σ (H id) H K
 | .bptr id b off=>qww t b off id σ (H id) H K
 | .v (.slice none 0 0)=>K (upd σ t (.list n [])) H
 | .sub id x n' lo hi=>qgd t n x id n' lo hi σ (H id) H K
 | .agg cs=>Iv cs H λcs' H'=>K (upd σ t (.agg cs')) H'
 | _=>K σ H
@[simp ↓] theorem qzJ(K:Sg->ab->Prop):JG t n σ H K=qgc t n (σ t) σ H K:=i' rfl
@[simp] theorem qwm(K:Sg->ab->Prop):qgc t n (.own i x) σ H K=qge t x i σ (H i) H K:=i' rfl
@[simp] theorem qwl(K:Sg->ab->Prop):qgc t n (.sub i x n' lo hi) σ H K=qgd t n x i n' lo hi σ (H i) H K:=i' rfl
@[simp] theorem qwo(K:Sg->ab->Prop):qge t x i σ (some (.row x' el n' es)) H K=(x'=x/\K (qcS i x (.list n' es) σ) (ai H i none)):=i' rfl
@[simp] theorem qwq(y:Value):KA id x L (.own i y)=open Classical in (if i=id/\y=x then L else .own i y):=i' rfl
@[simp] theorem qwv:KA id x L (.any)= .any:=i' rfl
@[simp] theorem qws:KA id x L (.agg cs)= .agg cs:=i' rfl
@[simp] theorem qwr:KA id x L (.list n es)= .list n es:=i' rfl
@[simp] theorem qwt:KA id x L (.cptr cs o)= .cptr cs o:=i' rfl
@[simp] theorem qwu:KA id x L (.bptr i b o)= .bptr i b o:=i' rfl
@[simp] theorem qwp(T:List Int):KA id x L (.tape T)= .tape T:=i' rfl
@[simp] theorem qwn(K:Sg->ab->Prop):qgd t n x i n' lo hi σ (some (.row x' el n'' es)) H K=(x'=x/\n'=n''/\(if n=0 then lo=0/\∀v,K (upd σ t (.own i v)) (ai H i (some (.row v el n'' (es.take hi))))else K (upd σ t (.list n'' ((es.take hi).drop lo))) (ai H i none))):=i' rfl
def qiI(d:D)(K:D->Prop):Prop:=match d with
 | .v (.string s)=>K (.list 1 (s.data.toList.map λc=> .v (.int .u8 c.toNat)))
 | _=>False
@[simp] theorem qu6:qiI (.v (.string s)) K=K (.list 1 (s.data.toList.map λc=> .v (.int .u8 c.toNat))):=i' rfl
def qd0(t:Nat)(d:D)(H:ab)(K:D->ab->Prop):Prop:=match d with
 | .v (.string s)=>∀b,K (.bptr t b 0) (ai H t (some (.iter b s 0)))
 | _=>False
@[simp] theorem quX(K:D->ab->Prop):qd0 t (.v (.string s)) H K=∀b,K (.bptr t b 0) (ai H t (some (.iter b s 0))):=i' rfl
def qd5(id b:Nat)(r:Option Res)(H:ab)(K:D->ab->Prop):Prop:=match r with
 |some (.iter b' s pos)=>b'=b/\(pos<s.size->K (.tup [.v (.bool true), .v (.int .i64 pos), .v (.int .i32 (Utf8.decode s pos).1)]) (ai H id (some (.iter b' s (pos+ (Utf8.decode s pos).2)))))/\(¬pos<s.size->K (.tup [.v (.bool false)]) H)
 | _=>False
@[simp] theorem qu2(pos:Nat)(K:D->ab->Prop):qd5 id b (some (.iter b' s pos)) H K=(b'=b/\(pos<s.size->K (.tup [.v (.bool true), .v (.int .i64 pos), .v (.int .i32 (Utf8.decode s pos).1)]) (ai H id (some (.iter b' s (pos+ (Utf8.decode s pos).2)))))/\(¬pos<s.size->K (.tup [.v (.bool false)]) H)):=i' rfl
def qiE(d:D)(H:ab)(K:D->ab->Prop):Prop:=match d with
 | .bptr id b off=>off=0/\qd5 id b (H id) H K
 | _=>False
@[simp] theorem qu1(K:D->ab->Prop):qiE (.bptr i b off) H K=(off=0/\qd5 i b (H i) H K):=i' rfl
def qkn(dst:Option Nat)(el n b:Nat)(d:D)(es2:List D)(H:ab)(K:D->ab->Prop):Prop:=match dst,d with
 |some t, .v (.slice none 0 0)=>es2.length*b<=140737488355328/\es2.length<=140737488355328/\∀v,K (.own t v) (ai H t (some (.row v el n es2)))
 | _,_=>False
@[simp] theorem qxH(K:D->ab->Prop):qkn (some t) el n b (.v (.slice none 0 0)) es2 H K=(es2.length*b<=140737488355328/\es2.length<=140737488355328/\∀v,K (.own t v) (ai H t (some (.row v el n es2)))):=i' rfl
def qhl(el n b r:Nat)(x:Value)(es2:List D)(q:Option Res)(H:ab)(K:D->ab->Prop):Prop:=match q with
 |some (.row x' el' n' es)=>x'=x/\el'=el/\n'=n/\(es.length+es2.length) *b<=140737488355328/\es.length+es2.length<=140737488355328/\∀v,K (.own r v) (ai H r (some (.row v el n (es++es2))))
 | _=>False
@[simp] theorem qxB(r:Nat)(K:D->ab->Prop):qhl el n b r x es2 (some (.row x' el' n' es)) H K=(x'=x/\el'=el/\n'=n/\(es.length+es2.length) *b<=140737488355328/\es.length+es2.length<=140737488355328/\∀v,K (.own r v) (ai H r (some (.row v el n (es++es2))))):=i' rfl
def qkm(r el n b:Nat)(d:D)(es2:List D)(H:ab)(K:D->ab->Prop):Prop:=match d with
 | .own id x=>id=r/\qhl el n b r x es2 (H r) H K
 | _=>False
@[simp] theorem qxA(r:Nat)(K:D->ab->Prop):qkm r el n b (.own i x) es2 H K=(i=r/\qhl el n b r x es2 (H r) H K):=i' rfl
def UJ(r sz:Nat)(d y:D)(H:ab)(K:D->ab->Prop):Prop:=match d with
 | .bptr id b off=>id=r/\D5 sz r b off y (H r) H K
 | .eptr id x n i off=>id=r/\D4 sz r x n i off y (H r) H K
 | _=>False
@[simp] theorem qrQ(r:Nat)(y:D)(K:D->ab->Prop):UJ r sz (.bptr i b off) y H K=(i=r/\D5 sz r b off y (H r) H K):=i' rfl
@[simp] theorem qrP(r:Nat)(k:Nat)(y:D)(K:D->ab->Prop):UJ r sz (.eptr i x n k off) y H K=(i=r/\D4 sz r x n k off y (H r) H K):=i' rfl
def qxG(dst:Option Nat)(el n bytes:Nat)(es2:List D)(H:ab)(K:D->ab->Prop):Prop:=match dst with
 |some t=>es2.length*bytes<=140737488355328/\es2.length<=140737488355328/\∀v,K (.own t v) (ai H t (some (.row v el n es2)))
 |none=>False
def qhm(dst:Option Nat)(el n bytes:Nat)(d:D)(es2:List D)(H:ab)(K:D->ab->Prop):Prop:=match d with
 | .own id x=>qho el n bytes id x es2 (H id) H K
 | .v (.slice none 0 0)=>qxG dst el n bytes es2 H K
 | .sub id x n' lo hi=>qxE el n bytes id x n' lo hi es2 (H id) H K
 | _=>False
@[simp] theorem qxC(K:D->ab->Prop):qhm dst el n bytes (.own i x) es2 H K=qho el n bytes i x es2 (H i) H K:=i' rfl
@[simp] theorem qxD(K:D->ab->Prop):qhm (some t) el n bytes (.v (.slice none 0 0)) es2 H K=(es2.length*bytes<=140737488355328/\es2.length<=140737488355328/\∀v,K (.own t v) (ai H t (some (.row v el n es2)))):=i' rfl
@[simp] theorem qxF(K:D->ab->Prop):qho el n bytes i x es2 (some (.row x' el' n' es)) H K=(x'=x/\el'=el/\n'=n/\(es.length+es2.length) *bytes<=140737488355328/\es.length+es2.length<=140737488355328/\∀v,K (.own i v) (ai H i (some (.row v el n (es++es2))))):=i' rfl
def Cj(S:Nat->Spc)(f:D)(d:Nat)(args:List D)(H:ab)(K:D->ab->Prop):Prop:=match f with
 | .clo g caps=>(S g).pt d (args++caps) H K
 | _=>False
@[simp] theorem qtY(d:Nat)(K:D->ab->Prop):Cj S (.clo g caps) d args H K=(S g).pt d (args++caps) H K:=i' rfl
@[congr] theorem qpu{r:Nat}{s:Spc}{K:D->ab->Prop}(hs:s=s₁)(hargs:args=args₁):PU r dst s args H K=PU r dst s₁ args₁ H K:=by subst hs;subst hargs;rfl
@[congr] theorem qsj{s:Spc}{K:D->ab->Prop}(hs:s=s₁)(hargs:args=args₁):YN dst s args H K=YN dst s₁ args₁ H K:=by subst hs;subst hargs;rfl
section
variable {S:Nat->Spc}{σ:Sg}{H Hr:ab}{K:D->ab->Prop}
@[simp ↓] theorem qw9(dst:Option Nat)(x:Operand):aI S (.mv x) dst σ H K=((λd=>K d H) (ev σ x)):=i' rfl
@[simp ↓] theorem qzi(x:Operand):ax S (.mv x) dst σ Hr H K=((λd=>K d H) (ev σ x)):=i' rfl
@[simp ↓] theorem qw8(x:Operand):aI S (.pick c x y) dst σ H K=(Jv (ev σ c) ((λd=>K d H) (ev σ x)) ((λd=>K d H) (ev σ y))):=i' rfl
@[simp ↓] theorem qvj(x:Operand):ax S (.pick c x y) dst σ Hr H K=(Jv (ev σ c) ((λd=>K d H) (ev σ x)) ((λd=>K d H) (ev σ y))):=i' rfl
@[simp ↓] theorem qt8(ps:List (Nat×Nat×Operand)):aI S (.build z ps) dst σ H K=(kA σ ps (z.map qH) λcs=>(λd=>K d H) (.agg cs)):=i' rfl
@[simp ↓] theorem qsf(ps:List (Nat×Nat×Operand)):ax S (.build z ps) dst σ Hr H K=(kA σ ps (z.map qH) λcs=>(λd=>K d H) (.agg cs)):=i' rfl
@[simp ↓] theorem qqW:aI S (.bslice el n ps) dst σ H K=(kg n (ps.map (ev σ))/\(λd=>K d H) (.list n (ps.map (ev σ)))):=i' rfl
@[simp ↓] theorem qps:ax S (.bslice el n ps) dst σ Hr H K=(kg n (ps.map (ev σ))/\(λd=>K d H) (.list n (ps.map (ev σ)))):=i' rfl
@[simp ↓] theorem qxd(x:Operand):aI S (.load agg sz x) dst σ H K=(JB agg sz (ev σ x) H (λd=>K d H)):=i' rfl
@[simp ↓] theorem qvk(x:Operand):ax S (.load agg sz x) dst σ Hr H K=(JB agg sz (ev σ x) Hr (λd=>K d H)):=i' rfl
@[simp ↓] theorem qt2(x:Operand):aI S (.nilck x) dst σ H K=(qcn (ev σ x) (λd=>K d H)):=i' rfl
@[simp ↓] theorem qsb(x:Operand):ax S (.nilck x) dst σ Hr H K=(qcn (ev σ x) (λd=>K d H)):=i' rfl
@[simp ↓] theorem qkb(dst:Option Nat)(op:BinOp)(x y:Operand):aI S (.arith op x y) dst σ H K=(NS op (ev σ x) (ev σ y) (λd=>K d H)):=i' rfl
@[simp ↓] theorem qsg(x:Operand):ax S (.arith op x y) dst σ Hr H K=(NS op (ev σ x) (ev σ y) (λd=>K d H)):=i' rfl
@[simp ↓] theorem qqV(dst:Option Nat)(op:BinOp)(x y:Operand):aI S (.cmp op x y) dst σ H K=(qc2 op (ev σ x) (ev σ y) (λd=>K d H)):=i' rfl
@[simp ↓] theorem qyh(x:Operand):ax S (.cmp op x y) dst σ Hr H K=(qc2 op (ev σ x) (ev σ y) (λd=>K d H)):=i' rfl
@[simp ↓] theorem qyX(x:Operand):aI S (.eql neg agg ks x y) dst σ H K=(qcU neg (qgv agg ks (ev σ x) (ev σ y)) (λd=>K d H)):=i' rfl
@[simp ↓] theorem qyg(x:Operand):ax S (.eql neg agg ks x y) dst σ Hr H K=(qcU neg (qgv agg ks (ev σ x) (ev σ y)) (λd=>K d H)):=i' rfl
@[simp ↓] theorem qyS(x:Operand):aI S (.not x) dst σ H K=(qfm (ev σ x) (λd=>K d H)):=i' rfl
@[simp ↓] theorem qyb(x:Operand):ax S (.not x) dst σ Hr H K=(qfm (ev σ x) (λd=>K d H)):=i' rfl
@[simp ↓] theorem qxf(x:Operand):aI S (.conv k x) dst σ H K=(qa8 k (ev σ x) (λd=>K d H)):=i' rfl
@[simp ↓] theorem qyY:aI S (.clo f xs) dst σ H K=((λd=>K d H) (.clo f (xs.map (ev σ)))):=i' rfl
@[simp ↓] theorem qt1(x:Operand)(lo hi:Option Operand):aI S (.slice n x lo hi) dst σ H K=(LT n (ev σ x) (lo.map λo=>mC (ev σ o)) (hi.map λo=>mC (ev σ o)) H (λd=>K d H)):=i' rfl
@[simp ↓] theorem qsa(x:Operand)(lo hi:Option Operand):ax S (.slice n x lo hi) dst σ Hr H K=(LT n (ev σ x) (lo.map λo=>mC (ev σ o)) (hi.map λo=>mC (ev σ o)) Hr (λd=>K d H)):=i' rfl
@[simp ↓] theorem qqQ(x:Operand)(lo hi:Option Operand):aI S (.sslice x lo hi) dst σ H K=(KZ (ev σ x) (lo.map λo=>mC (ev σ o)) (hi.map λo=>mC (ev σ o)) (λd=>K d H)):=i' rfl
@[simp ↓] theorem qpq(x:Operand)(lo hi:Option Operand):ax S (.sslice x lo hi) dst σ Hr H K=(KZ (ev σ x) (lo.map λo=>mC (ev σ o)) (hi.map λo=>mC (ev σ o)) (λd=>K d H)):=i' rfl
@[simp ↓] theorem qt5(x:Operand):aI S (.faddr off x) dst σ H K=(EG off (ev σ x) (λd=>K d H)):=i' rfl
@[simp ↓] theorem qsd(x:Operand):ax S (.faddr off x) dst σ Hr H K=(EG off (ev σ x) (λd=>K d H)):=i' rfl
@[simp ↓] theorem qt4(x i:Operand):aI S (.iaddr n x i) dst σ H K=(EE n (ev σ i) (ev σ x) H (λd=>K d H)):=i' rfl
@[simp ↓] theorem qsc(x i:Operand):ax S (.iaddr n x i) dst σ Hr H K=(EE n (ev σ i) (ev σ x) Hr (λd=>K d H)):=i' rfl
@[simp ↓] theorem qw6(x i:Operand):aI S (.sidx x i) dst σ H K=(ZU (ev σ i) (ev σ x) (λd=>K d H)):=i' rfl
@[simp ↓] theorem qyW(x:Operand):aI S (.ext x i) dst σ H K=(qgr (ev σ x) i (λd=>K d H)):=i' rfl
@[simp ↓] theorem qyf(x:Operand):ax S (.ext x i) dst σ Hr H K=(qgr (ev σ x) i (λd=>K d H)):=i' rfl
@[simp ↓] theorem qyV(x:Operand):aI S (.len x) dst σ H K=(Su (ev σ x) H (λd=>K d H)):=i' rfl
@[simp ↓] theorem qye(x:Operand):ax S (.len x) dst σ Hr H K=(Su (ev σ x) Hr (λd=>K d H)):=i' rfl
@[simp ↓] theorem qw5(x:Operand):aI S (.slen x) dst σ H K=(UP (ev σ x) (λd=>K d H)):=i' rfl
@[simp ↓] theorem qvi(x:Operand):ax S (.slen x) dst σ Hr H K=(UP (ev σ x) (λd=>K d H)):=i' rfl
@[simp ↓] theorem qxh(x:Operand):aI S (.bstr x) dst σ H K=(qkf (ev σ x) H (λd=>K d H)):=i' rfl
@[simp ↓] theorem qw7(x:Operand):aI S (.rstr x) dst σ H K=(qiL (ev σ x) (λd=>K d H)):=i' rfl
@[simp ↓] theorem qyU(x:Operand):aI S (.mm mx [x,y]) dst σ H K=qfs mx (ev σ x) (ev σ y) (λd=>K d H):=i' rfl
@[simp ↓] theorem qxi(x:Operand):aI S (.box el true x) dst σ H K=((ev σ x).kn=true/\K (.cptr (ev σ x).cells 0) H):=i' rfl
@[simp ↓] theorem qt9:aI S (.alloc el z) (some t) σ H K=∀b,K (.bptr t b 0) (ai H t (some (.box b (z.map qH)))):=i' rfl
@[simp ↓] theorem qyZ(x:Operand):aI S (.box el false x) (some t) σ H K=((ev σ x).kn=true/\∀b,K (.bptr t b 0) (ai H t (some (.box b (ev σ x).cells)))):=i' rfl
@[simp ↓] theorem qqT:aI S (.mslice el n ps) (some t) σ H K=(kg n (ps.map (ev σ))/\∀x,K (.own t x) (ai H t (some (.row x el n (ps.map (ev σ)))))):=i' rfl
@[simp ↓] theorem qox(l:Operand):aI S (.mkslice el n bytes agg z l c) (some t) σ H K=qvH t el n bytes agg z (mC (ev σ l)) (mC (ev σ c)) H K:=i' rfl
@[simp ↓] theorem qyd(x:Operand):ax S (.mm mx [x,y]) dst σ Hr H K=qfs mx (ev σ x) (ev σ y) (λd=>K d H):=i' rfl
@[simp ↓] theorem qsh:ax S (.alloc el z) (some t) σ Hr H K=∀b,K (.bptr t b 0) (ai H t (some (.box b (z.map qH)))):=i' rfl
@[simp ↓] theorem qpr:ax S (.nslice el n) (some t) σ Hr H K=∀x,K (.own t x) (ai H t (some (.row x el n []))):=i' rfl
@[simp ↓] theorem qn8(l:Operand):ax S (.mkslice el n bytes agg z l c) (some t) σ Hr H K=qvH t el n bytes agg z (mC (ev σ l)) (mC (ev σ c)) H K:=i' rfl
@[simp ↓] theorem qqS(x:Operand):aI S (.sbytes x) dst σ H K=qiI (ev σ x) (λd=>K d H):=i' rfl
@[simp ↓] theorem qqR(x:Operand):aI S (.srange x) (some t) σ H K=qd0 t (ev σ x) H K:=by
 simp only[aI,bk,qd0];split<;>simp_all
@[simp ↓] theorem qt0(x:Operand):aI S (.snext x) dst σ H K=qiE (ev σ x) H K:=i' rfl
@[simp ↓] theorem qr9(r:Nat)(x:Operand):ax S (.store (some r) sz x y) dst σ Hr H K=((ev σ y).kn=true/\(ev σ y).cells.length=sz/\UJ r sz (ev σ x) (ev σ y) H K):=by
 simp only[ax];congr 2
@[simp ↓] theorem qtZ(x:Operand):aI S (.store rt sz x y) dst σ H K=((ev σ y).kn=true/\(ev σ y).cells.length=sz/\LQ sz (ev σ x) (ev σ y) H K):=i' rfl
@[simp ↓] theorem qqX(x:Operand):aI S (.append rt el n bytes x y) dst σ H K=vM n (ev σ y) H λes2=>qhm dst el n bytes (ev σ x) es2 H K:=i' rfl
@[simp ↓] theorem qoa(x:Operand):ax S (.append none el n bytes x y) dst σ Hr H K=vM n (ev σ y) Hr λes2=>qkn dst el n bytes (ev σ x) es2 H K:=by
 simp only[ax];congr 1
@[simp ↓] theorem qn9(r:Nat)(x:Operand):ax S (.append (some r) el n bytes x y) dst σ Hr H K=vM n (ev σ y) Hr λes2=>qkm r el n bytes (ev σ x) es2 H K:=by
 simp only[ax];congr 1
@[simp ↓] theorem qt6(x:Operand):aI S (.clear n agg z x) dst σ H K=qj8 n (Tz agg z) (ev σ x) H K:=i' rfl
@[simp ↓] theorem qxe(x:Operand):aI S (.copy n x y) dst σ H K=kD n (ev σ y) H λsrc=>qj4 n (ev σ x) src H K:=i' rfl
@[simp ↓] theorem qxg(args:List Operand):aI S (.call f args) dst σ H K=(S f).pt (dst.getD 0) (args.map (ev σ)) H K:=i' rfl
@[simp ↓] theorem qse(r:Nat)(args:List Operand):ax S (.callb r f args) dst σ Hr H K=PU r dst (S f) (args.map (ev σ)) H K:=i' rfl
@[simp ↓] theorem qt7(f:Operand)(args:List Operand):aI S (.callv f args) dst σ H K=Cj S (ev σ f) (dst.getD 0) (args.map (ev σ)) H K:=i' rfl
@[simp ↓] theorem qvl(args:List Operand):ax S (.call f args) dst σ Hr H K=YN dst (S f) (args.map (ev σ)) H K:=i' rfl
end
def qoZ(σ:Sg)(t s:Nat)(d:D):upd σ t d s=if s=t then d else σ s:=i' rfl
def X8(σ:Sg)(t:Nat)(d:D):fq σ (some t) d=upd σ t d:=i' rfl
def qlB(σ:Sg)(d:D):fq σ none d=σ:=i' rfl
def qlC(H:ab)(t s:Nat)(d:Option Res):ai H t d s=if s=t then d else H s:=i' rfl
attribute [simp] X8 qlB qlC
@[simp] theorem qdF(σ:Sg)(t:Nat):ev σ (.tmp t)=σ t:=i' rfl
@[simp] theorem qiu(σ:Sg)(x:Value):ev σ (.const x)=qH x:=i' rfl
@[simp] theorem quS:ev σ (.func f)= .clo f []:=i' rfl
@[simp] theorem quT(b:Bool):qH (.bool b)= .v (.bool b):=i' rfl
@[simp] theorem qoX(k:IntKind)(n:Int):qH (.int k n)= .v (.int k n):=i' rfl
@[simp] theorem qxW:qH (.string s)= .v (.string s):=i' rfl
@[simp] theorem qxX(a:Option Addr):qH (.pointer a)= .v (.pointer a):=i' rfl
@[simp] theorem qrJ(a:Option Addr)(l c:Nat):qH (.slice a l c)= .v (.slice a l c):=i' rfl
def qpR(σ:Sg):ix [] σ=λ_=> .any:=i' rfl
def qmG(t:Nat)(l:List Nat)(σ:Sg):ix (t::l) σ=upd (ix l σ) t (σ t):=i' rfl
@[simp] theorem qv1:jm [] H=λ_=>none:=i' rfl
@[simp] theorem qjo(t:Nat)(l:List Nat)(H:ab):jm (t::l) H=ai (jm l H) t (H t):=i' rfl
@[simp] theorem qvv:cY i=none:=i' rfl
@[simp] theorem qvQ:ra [] σ=True:=i' rfl
@[simp] theorem qsG(l:List (Nat×D)):ra ((t,d)::l) σ=(XL (σ t) d/\ra l σ):=i' rfl
@[simp] theorem qvF:vH [] H=True:=i' rfl
@[simp] theorem qsw(d:Res)(l:List (Nat×Res)):vH ((t,d)::l) H=((H t=some d\/isNilRow d)/\vH l H):=i' rfl
@[simp] theorem sub_self(d:D):XL d d=True:=by
 cases d<;>simp[XL]
@[simp] theorem qx3(a:D):XL a (.v x)=(a= .v x):=i' rfl
@[simp] theorem qo4(a:D)(x:List D):XL a (.list n x)=(a= .list n x\/(a= .v (.slice none 0 0)/\x=[])):=i' rfl
@[simp] theorem qrO(y:Value):XL (.own i x) (.own j y)=(x=y):=by simp[XL]
@[simp] theorem qo3(y:Value):XL (.v x) (.own j y)=(x=y):=by simp[XL]
@[simp] theorem qzt:Kw true sz cs off= .agg ((cs.drop off).take sz):=i' rfl
@[simp] theorem qzu:Kw false sz cs off=(cs[off]?).getD .any:=i' rfl
@[simp ↓] theorem qr7(rs:List ak)(K:D->ab->Prop):vN rs K .norm σ H=yY rs σ H λds=>K (dI ds) H:=i' rfl
@[simp ↓] theorem qvg(rs:List ak)(K:D->ab->Prop):vN rs K .ret σ H=yY rs σ H λds=>K (dI ds) H:=i' rfl
@[simp ↓] theorem qvf(K:List D->Prop):yY [] σ H K=K []:=i' rfl
@[simp ↓] theorem qve(r:List ak)(K:List D->Prop):yY (.tmp t::r) σ H K=yY r σ H λds=>K (σ t::ds):=i' rfl
@[simp ↓] theorem qr6(r:List ak)(K:List D->Prop):yY (.cell t agg sz::r) σ H K=JB agg sz (σ t) H λd=>yY r σ H λds=>K (d::ds):=i' rfl
@[simp] theorem qzl:dI [d]=d:=i' rfl
@[simp] theorem qzm:dI []= .tup []:=i' rfl
@[simp] theorem qzk(l:List D):dI (d::e::l)= .tup (d::e::l):=i' rfl
@[simp] theorem qzA:D.kn (.v x)=true:=i' rfl
@[simp] theorem qtW:D.cells (.v x)=[.v x]:=i' rfl
@[simp] theorem qv0:D.kn (.agg cs)=true:=i' rfl
@[simp] theorem qow:D.cells (.agg cs)=cs:=i' rfl
@[simp] theorem qsR:D.kn (.list n es)=true:=i' rfl
@[simp] theorem qno:D.cells (.list n es)=[.list n es]:=i' rfl
@[simp] theorem qvY:D.kn (.own i x)=true:=i' rfl
@[simp] theorem qou:D.cells (.own i x)=[.own i x]:=i' rfl
@[simp] theorem qvX(k:Nat):D.kn (.sub i v n k o)=true:=i' rfl
@[simp] theorem qot(k:Nat):D.cells (.sub i v n k o)=[.sub i v n k o]:=i' rfl
@[simp] theorem qvZ:D.kn (.clo f cs)=true:=i' rfl
@[simp] theorem qov:D.cells (.clo f cs)=[.clo f cs]:=i' rfl
@[simp] theorem qy2(n:Int):mC (.v (.int k n))=some (k,n):=i' rfl
attribute [simp] setAt
@[simp] theorem qwK(n:Int):enc n= .v (.int .i64 n):=rfl
@[simp] theorem qtD(b:Bool):enc b= .v (.bool b):=rfl
@[simp] theorem qwJ:enc s= .v (.string s):=rfl
@[simp] theorem qtC{X:Type}[Cod X](l:List X):enc l= .list (Cod.wd X) (l.map enc):=rfl
@[simp] theorem quN:Cod.wd Int=1:=rfl
@[simp] theorem qrz:Cod.wd Bool=1:=rfl
@[simp] theorem quM:Cod.wd ByteArray=1:=rfl
@[simp] theorem qry{X:Type}[Cod X]:Cod.wd (List X)=1:=rfl
@[congr] theorem qs3(hd:d=d₁):V9 d A B=V9 d₁ A B:=by subst hd;rfl
@[congr] theorem qon{s:Nat}{b:Bool}(hd:d=d₁):oR s b σ d yes no=oR s b σ d₁ yes no:=by subst hd;rfl
@[congr] theorem qpw(hd:d=d₁):Jv d A B=Jv d₁ A B:=by subst hd;rfl
@[congr] theorem qpN(hr:r=r₁):VT agg sz b off r K=VT agg sz b off r₁ K:=by subst hr;rfl
@[congr] theorem qpM(hr:r=r₁):VS agg sz x n i off r K=VS agg sz x n i off r₁ K:=by subst hr;rfl
@[congr] theorem qpL(hd:d=d₁):JB agg sz d H K=JB agg sz d₁ H K:=by subst hd;rfl
@[congr] theorem qsp(hd:d=d₁):qcn d K=qcn d₁ K:=by subst hd;rfl
@[congr] theorem qoH(hd:d=d₁)(he:e=e₁):NS op d e K=NS op d₁ e₁ K:=by subst hd;subst he;rfl
@[congr] theorem qr3(hd:d=d₁):qiL d K=qiL d₁ K:=by subst hd;rfl
@[congr] theorem qtS{o:Option Bool}{o₁:Option Bool}(ho:o=o₁):Zr o K=Zr o₁ K:=by subst ho;rfl
@[congr] theorem qtR(hd:d=d₁)(he:e=e₁):qc2 op d e K=qc2 op d₁ e₁ K:=by subst hd;subst he;rfl
@[congr] theorem qtu{o:Option Bool}{o₁:Option Bool}(ho:o=o₁):qcU neg o K=qcU neg o₁ K:=by subst ho;rfl
@[congr] theorem qso(hd:d=d₁):qfm d K=qfm d₁ K:=by subst hd;rfl
@[congr] theorem qqH(hd:d=d₁):qa8 k d K=qa8 k d₁ K:=by subst hd;rfl
@[congr] theorem qoq(hd:d=d₁):EG off d K=EG off d₁ K:=by subst hd;rfl
@[congr] theorem qol{k:Int}(hr:r=r₁):M6 n k id x r K=M6 n k id x r₁ K:=by subst hr;rfl
@[congr] theorem qok{i:D}(hi:i=i₁)(hd:d=d₁):EE n i d H K=EE n i₁ d₁ H K:=by subst hi;subst hd;rfl
@[congr] theorem qpi{i:D}(hi:i=i₁)(hd:d=d₁):ZU i d K=ZU i₁ d₁ K:=by subst hi;subst hd;rfl
@[congr] theorem qtl{o:Option D}{o₁:Option D}(ho:o=o₁):qgs o K=qgs o₁ K:=by subst ho;rfl
@[congr] theorem qtk(hd:d=d₁):qgr d i K=qgr d₁ i K:=by subst hd;rfl
@[congr] theorem qsQ(hr:r=r₁):qfJ x r K=qfJ x r₁ K:=by subst hr;rfl
@[congr] theorem qsP(hd:d=d₁):Su d H K=Su d₁ H K:=by subst hd;rfl
@[congr] theorem que(hr:r=r₁):qha x r K=qha x r₁ K:=by subst hr;rfl
@[congr] theorem qud(hd:d=d₁):qkf d H K=qkf d₁ H K:=by subst hd;rfl
@[congr] theorem qph(hd:d=d₁):UP d K=UP d₁ K:=by subst hd;rfl
@[congr] theorem qsx(hd:d=d₁)(he:e=e₁):qfs mx d e K=qfs mx d₁ e₁ K:=by subst hd;subst he;rfl
@[congr] theorem qrS{K:List D->Prop}(hr:r=r₁):qbQ n lo hi x r K=qbQ n lo hi x r₁ K:=by subst hr;rfl
@[congr] theorem qn4{y:D}{K:D->ab->Prop}(hy:y=y₁)(hr:r=r₁):D5 sz id b off y r H K=D5 sz id b off y₁ r₁ H K:=by subst hy;subst hr;rfl
@[congr] theorem qn3{y:D}{K:D->ab->Prop}(hy:y=y₁)(hr:r=r₁):D4 sz id x n i off y r H K=D4 sz id x n i off y₁ r₁ H K:=by subst hy;subst hr;rfl
@[congr] theorem qn2{y:D}{K:D->ab->Prop}(hd:d=d₁)(hy:y=y₁):LQ sz d y H K=LQ sz d₁ y₁ H K:=by subst hd;subst hy;rfl
@[congr] theorem qun{K:D->ab->Prop}(hes2:es2=es2₁)(hr:r=r₁):qho el n bytes id x es2 r H K=qho el n bytes id x es2₁ r₁ H K:=by subst hes2;subst hr;rfl
@[congr] theorem qtU{z:D}{K:D->ab->Prop}(hz:z=z₁)(hr:r=r₁):qg6 n id x n' lo hi z r H K=qg6 n id x n' lo hi z₁ r₁ H K:=by subst hz;subst hr;rfl
@[congr] theorem qtT{z:D}{K:D->ab->Prop}(hz:z=z₁)(hd:d=d₁):qj8 n z d H K=qj8 n z₁ d₁ H K:=by subst hz;subst hd;rfl
@[congr] theorem qtP{K:D->ab->Prop}(hsrc:src=src₁)(hr:r=r₁):qgV n id x n' lo hi src r H K=qgV n id x n' lo hi src₁ r₁ H K:=by subst hsrc;subst hr;rfl
@[congr] theorem qtO{K:D->ab->Prop}(hd:d=d₁)(hsrc:src=src₁):qj4 n d src H K=qj4 n d₁ src₁ H K:=by subst hd;subst hsrc;rfl
@[congr] theorem qtd{K:Sg->ab->Prop}(hr:r=r₁):qge t x id σ r H K=qge t x id σ r₁ H K:=by subst hr;rfl
@[congr] theorem qtc{K:Sg->ab->Prop}(hr:r=r₁):qgd t n x id n' lo hi σ r H K=qgd t n x id n' lo hi σ r₁ H K:=by subst hr;rfl
@[congr] theorem qta{K:Sg->ab->Prop}(hd:d=d₁):qgc t n d σ H K=qgc t n d₁ σ H K:=by subst hd;rfl
@[congr] theorem qr0(hd:d=d₁):qiI d K=qiI d₁ K:=by subst hd;rfl
@[congr] theorem qrR{K:D->ab->Prop}(hd:d=d₁):qd0 t d H K=qd0 t d₁ H K:=by subst hd;rfl
@[congr] theorem qrW{K:D->ab->Prop}(hr:r=r₁):qd5 id b r H K=qd5 id b r₁ H K:=by subst hr;rfl
@[congr] theorem qrV{K:D->ab->Prop}(hd:d=d₁):qiE d H K=qiE d₁ H K:=by subst hd;rfl
@[congr] theorem qup{K:D->ab->Prop}(hdst:dst=dst₁)(hd:d=d₁)(hes2:es2=es2₁):qkn dst el n b d es2 H K=qkn dst₁ el n b d₁ es2₁ H K:=by subst hdst;subst hd;subst hes2;rfl
@[congr] theorem qul{r:Nat}{q:Option Res}{K:D->ab->Prop}{q₁:Option Res}(hes2:es2=es2₁)(hq:q=q₁):qhl el n b r x es2 q H K=qhl el n b r x es2₁ q₁ H K:=by subst hes2;subst hq;rfl
@[congr] theorem quk{r:Nat}{K:D->ab->Prop}(hd:d=d₁)(hes2:es2=es2₁):qkm r el n b d es2 H K=qkm r el n b d₁ es2₁ H K:=by subst hd;subst hes2;rfl
@[congr] theorem qpa{r:Nat}{y:D}{K:D->ab->Prop}(hd:d=d₁)(hy:y=y₁):UJ r sz d y H K=UJ r sz d₁ y₁ H K:=by subst hd;subst hy;rfl
@[congr] theorem qum{K:D->ab->Prop}(hdst:dst=dst₁)(hd:d=d₁)(hes2:es2=es2₁):qhm dst el n bytes d es2 H K=qhm dst₁ el n bytes d₁ es2₁ H K:=by subst hdst;subst hd;subst hes2;rfl
@[congr] theorem qqP{f:D}{d:Nat}{K:D->ab->Prop}(hf:f=f₁)(hargs:args=args₁):Cj S f d args H K=Cj S f₁ d args₁ H K:=by subst hf;subst hargs;rfl
@[congr] theorem qpd{K:List D->Prop}(h:d=d'):kD n d H K=kD n d' H K:=by subst h;rfl
@[congr] theorem qrT{K:List D->Prop}(h:d=d'):vM n d H K=vM n d' H K:=by subst h;rfl
@[congr] theorem qoJ{s s':Spc}{d:Nat}{ds':List D}{K:D->ab->Prop}(h:s=s')(h':ds=ds'):s.pt d ds H K=s'.pt d ds' H K:=by subst h;subst h';rfl
@[congr] theorem qqE{lo hi lo' hi':Option (Option (IntKind×Int))}{K:Nat->Nat->Prop}(h1:lo=lo')(h2:hi=hi')(h3:n=n'):pY lo hi n K=pY lo' hi' n' K:=by subst h1;subst h2;subst h3;rfl
end Go.Gv
namespace Go.Gv
open Cod (enc dec)
variable {dq:Prop}
@[simp] theorem qp9(H:ab)(x y:Value):FrzTo H (.v x) (.v y)=(x=y):=by
 refine propext ⟨λh=>?_,λh=>h ▸ .same _⟩;cases h;rfl
@[simp] theorem qs9(H:ab)(d:D):FrzTo H d d=True:=propext ⟨λ_=>trivial,λ_=> .same d⟩
@[simp] theorem qwk(H:ab)(n:Nat)(es:List D):FrzTo H (.v (.slice none 0 0)) (.list n es)=(es=[]):=by
 refine propext ⟨λh=>?_,λh=>h ▸ .nil n⟩;cases h;rfl
def qjD{H:ab}{a b a' b':D}(h1:FrzTo H a a')(h2:FrzTo H b b'):FrzTo H (.tup [a,b]) (.tup [a',b']):=
 .tup rfl λk c c' hc hc'=>by
  match k with
  | 0=>simp at hc hc';subst hc;subst hc';exact h1
  | 1=>simp at hc hc';subst hc;subst hc';exact h2
  |k+2=>simp at hc
def qjC{H:ab}{a b c a' b' c':D}(h1:FrzTo H a a')(h2:FrzTo H b b')(h3:FrzTo H c c'):FrzTo H (.tup [a,b,c]) (.tup [a',b',c']):=
 .tup rfl λk d d' hc hc'=>by
  match k with
  | 0=>simp at hc hc';subst hc;subst hc';exact h1
  | 1=>simp at hc hc';subst hc;subst hc';exact h2
  | 2=>simp at hc hc';subst hc;subst hc';exact h3
  |k+3=>simp at hc
section
variable {P:Program}{S:Nat->Spc}{f:Nat}{im:List Nat}{cc:CC}{rs:List ak}{N:Nat}
end
end Go.Gv
