/- T10 -/
import Derived.Test.YtilfeahoefpgcaaGreatDoorGc11
set_option linter.all false
namespace Go.Gv
open Cod (enc dec)
variable {b b' bytes el el' f g hi i id j len lo n n' n'' o off sz t:Nat}{H:ab}{K:D->Prop}{dst dst₁ rt:Option Nat}{v x x':Value}{L d d' d₁ e e₁ f₁ i₁ y₁ z₁:D}{k k' kd:IntKind}{σ:Sg}{args args₁ caps cells cs ds es es2 es2₁ src src₁:List D}{agg mx neg:Bool}{r r₁:Option Res}{c y:Operand}{a h l:Int}{s:ByteArray}{z:List Value}{no yes:Sg->Prop}{A B p:Prop}{op:BinOp}{ks:List XF}{S:Nat->Spc}{ps xs:List Operand}{s₁:Spc}
section
variable {S:Nat->Spc}{K:Ex->Sg->ab->Prop}{σ:Sg}{H:ab}
def Yv(S:Nat->Spc)(b:CC)(K:Ex->Sg->ab->Prop):Ex->Sg->ab->Prop:=λe σ H=>match e with
 | .norm=>vc S b K σ H
 |e=>K e σ H
def qc8(id:Nat)(K:Ex->Sg->ab->Prop):Ex->Sg->ab->Prop:=λe σ H=>match e with
 | .ex i=>if i=id then K .norm σ H else K (.ex i) σ H
 |e=>K e σ H
def qcs(inv:qnO)(x:inv.X)(K:Ex->Sg->ab->Prop):Ex->Sg->ab->Prop:=λe σ' H'=>match e with
 | .norm=>∃y,inv.P y/\Wk σ' H' (inv.s y) (inv.h y)/\inv.m y<inv.m x
 |e=>K e σ' H'
def VX(d:D)(A B:Prop):Prop:=match d with
 | .v (.bool t)=>(t=true->A)/\(t=false->B)
 | _=>False
@[simp ↓] theorem qm2:vc S .skip K σ H=K .norm σ H:=i' rfl
@[simp ↓] theorem qk9(l:List CI):vc S (.reg l) K σ H=DR S l σ H (K .norm):=i' rfl
@[simp ↓] theorem qwE(p l:List CI):vc S (.regd p l) K σ H=ku S p σ (bD p H) H λσ H=>DR S l σ H (K .norm):=i' rfl
@[simp ↓] theorem WD(a b:CC):vc S (.seq a b) K σ H=vc S a (Yv S b K) σ H:=i' rfl
@[simp ↓] theorem Np(b:CC):Yv S b K .norm σ H=vc S b K σ H:=i' rfl
@[simp ↓] theorem qgC(b:CC)(i:Nat):Yv S b K (.ex i) σ H=K (.ex i) σ H:=i' rfl
@[simp ↓] theorem qm3(b:CC):Yv S b K .ret σ H=K .ret σ H:=i' rfl
@[simp ↓] theorem qqw(c:Operand)(a b:CC):vc S (.ite c a b) K σ H=VX (ev σ c) (vc S a K σ H) (vc S b K σ H):=i' rfl
@[simp] theorem qm6(t:Bool)(A B:Prop):VX (.v (.bool t)) A B=((t=true->A)/\(t=false->B)):=i' rfl
@[simp high] theorem qwG:VX (.v (.bool true)) A B=A:=by simp[VX]
@[simp high] theorem qwH:VX (.v (.bool false)) A B=B:=by simp[VX]
@[simp ↓] theorem SW(id:Nat)(b:CC):vc S (.block id b) K σ H=vc S b (qc8 id K) σ H:=i' rfl
@[simp ↓] theorem qm8(id:Nat):qc8 id K .norm σ H=K .norm σ H:=i' rfl
@[simp ↓] theorem qgF(id:Nat):qc8 id K .ret σ H=K .ret σ H:=i' rfl
@[simp ↓] theorem Zn(id i:Nat):qc8 id K (.ex i) σ H=if i=id then K .norm σ H else K (.ex i) σ H:=i' rfl
@[simp ↓] theorem qm7(i:Nat):vc S (.exit i) K σ H=K (.ex i) σ H:=i' rfl
@[simp ↓] theorem qyL:vc S .ret K σ H=K .ret σ H:=i' rfl
@[simp ↓] theorem qwF(ls lh:List Nat)(c:CC):vc S (.keep ls lh c) K σ H=vc S c K (iw ls σ) (jl lh H):=i' rfl
def SV(k:Nat)(b:CC):vc S (.loop k b) K σ H=∃inv:qnO,(∃x,inv.P x/\Wk σ H (inv.s x) (inv.h x))/\∀x,inv.P x->vc S b (qcs inv x K) (inv.s x) (inv.h x):=i' rfl
def qgE(k:Nat)(c:CC):vc S (.cut k c) K σ H=∃(σ':Sg) (H':ab),Wk σ H σ' H'/\vc S c K σ' H':=i' rfl
@[simp ↓] theorem qm5(inv:qnO)(x:inv.X):qcs inv x K .norm σ H=∃y,inv.P y/\Wk σ H (inv.s y) (inv.h y)/\inv.m y<inv.m x:=i' rfl
@[simp ↓] theorem qm4(inv:qnO)(x:inv.X):qcs inv x K .ret σ H=K .ret σ H:=i' rfl
@[simp ↓] theorem qgD(inv:qnO)(x:inv.X)(i:Nat):qcs inv x K (.ex i) σ H=K (.ex i) σ H:=i' rfl
end
def oP(s:Nat)(b:Bool)(σ:Sg)(d:D)(yes no:Sg->Prop):Prop:=match d with
 | .v (.bool t)=>(t=b->yes (upd σ s (.v (.bool b))))/\(t=(!b)->no (upd σ s (.v (.bool (!b)))))
 | .undef=>no σ
 | _=>False
@[simp high] theorem qzy(s:Nat):oP s true σ (.v (.bool true)) yes no=yes (upd σ s (.v (.bool true))):=by simp[oP]
@[simp high] theorem qzz(s:Nat):oP s true σ (.v (.bool false)) yes no=no (upd σ s (.v (.bool false))):=by simp[oP]
@[simp high] theorem qzA(s:Nat):oP s false σ (.v (.bool true)) yes no=no (upd σ s (.v (.bool true))):=by simp[oP]
@[simp high] theorem qzB(s:Nat):oP s false σ (.v (.bool false)) yes no=yes (upd σ s (.v (.bool false))):=by simp[oP]
@[simp] theorem qzx(s:Nat)(b:Bool):oP s b σ .undef yes no=no σ:=i' rfl
@[simp] theorem qzN(s:Nat)(b t:Bool):oP s b σ (.v (.bool t)) yes no=((t=b->yes (upd σ s (.v (.bool b))))/\(t=(!b)->no (upd σ s (.v (.bool (!b)))))):=i' rfl
section
variable {S:Nat->Spc}{σ:Sg}{H Hr:ab}
@[simp ↓] theorem qk2(K:Sg->ab->Prop):DR S [] σ H K=K σ H:=i' rfl
@[simp ↓] theorem qmG(K:Sg->ab->Prop)(d:Option Nat)(c:COp)(r:List CI):DR S (.op d none c::r) σ H K=aG S c d σ H λx H'=>DR S r (fq σ d x) H' K:=i' rfl
@[simp ↓] theorem qyn(K:Sg->ab->Prop)(d:Option Nat)(s:Nat)(b:Bool)(c:COp)(r:List CI):DR S (.op d (some (s,b)) c::r) σ H K=oP s b σ (σ s) (λσ=>aG S c d σ H λx H'=>DR S r (fq σ d x) H' K) (λσ=>DR S r (fq σ d .undef) H K):=i' rfl
@[simp ↓] theorem qyo(K:Sg->ab->Prop)(r:List CI):DR S (.frz t n::r) σ H K=JG t n σ H λσ' H'=>DR S r σ' H' K:=i' rfl
@[simp ↓] theorem qye(K:Sg->ab->Prop):ku S [] σ Hr H K=K σ H:=i' rfl
@[simp ↓] theorem qyf(K:Sg->ab->Prop)(a:Nat)(r:List CI):ku S (.frz a b::r) σ Hr H K=ku S r σ (bD r Hr) H K:=i' rfl
@[simp ↓] theorem qzd(K:Sg->ab->Prop)(d:Option Nat)(c:COp)(r:List CI):ku S (.op d none c::r) σ Hr H K=ax S c d σ Hr H λx H'=>ku S r (fq σ d x) Hr H' K:=i' rfl
@[simp ↓] theorem qyd(K:Sg->ab->Prop)(d:Option Nat)(s:Nat)(b:Bool)(c:COp)(r:List CI):ku S (.op d (some (s,b)) c::r) σ Hr H K=oP s b σ (σ s) (λσ=>ax S c d σ Hr H λx H'=>ku S r (fq σ d x) Hr H' K) (λσ=>ku S r (fq σ d .undef) Hr H K):=i' rfl
end
def Jv(d:D)(A B:Prop):Prop:=match d with
 | .v (.bool t)=>(t=true->A)/\(t=false->B)
 | _=>False
@[simp high] theorem qsi:Jv (.v (.bool true)) A B=A:=by simp[Jv]
@[simp high] theorem qsj:Jv (.v (.bool false)) A B=B:=by simp[Jv]
def VP(agg:Bool)(sz b off:Nat)(r:Option Res)(K:D->Prop):Prop:=match r with
 |some (.box b' cells)=>b'=b/\off+sz<=cells.length/\K (Kx agg sz cells off)
 | _=>False
def VO(agg:Bool)(sz:Nat)(x:Value)(n i off:Nat)(r:Option Res)(K:D->Prop):Prop:=match r with
 |some (.row x' _ n' es)=>x'=x/\n'=n/\off+sz<=n/\i<es.length/\∀d,es[i]? =some d->K (Kx agg sz d.cells off)
 | _=>False
def JB(agg:Bool)(sz:Nat)(d:D)(H:ab)(K:D->Prop):Prop:=match d with
 | .cptr cs off=>off+sz<=cs.length/\K (Kx agg sz cs off)
 | .bptr id b off=>VP agg sz b off (H id) K
 | .eptr id x n i off=>VO agg sz x n i off (H id) K
 | _=>False
@[simp] theorem qsH:JB agg sz (.cptr cs off) H K=(off+sz<=cs.length/\K (Kx agg sz cs off)):=i' rfl
@[simp] theorem qsI:JB agg sz (.bptr i b off) H K=VP agg sz b off (H i) K:=i' rfl
@[simp] theorem qsG(k:Nat):JB agg sz (.eptr i x n k off) H K=VO agg sz x n k off (H i) K:=i' rfl
@[simp] theorem qsK:VP agg sz b off (some (.box b' cells)) K=(b'=b/\off+sz<=cells.length/\K (Kx agg sz cells off)):=i' rfl
@[simp] theorem qsJ:VO agg sz x n i off (some (.row x' el n' es)) K=(x'=x/\n'=n/\off+sz<=n/\i<es.length/\∀d,es[i]? =some d->K (Kx agg sz d.cells off)):=i' rfl
def qcn(d:D)(K:D->Prop):Prop:=match d with
 | .cptr cs off=>K (.cptr cs off)
 | .bptr id b off=>K (.bptr id b off)
 | .eptr id x n i off=>K (.eptr id x n i off)
 | .tape L=>K (.tape L)
 | .clo f caps=>K (.clo f caps)
 | _=>False
@[simp] theorem qvr:qcn (.cptr cs off) K=K (.cptr cs off):=i' rfl
@[simp] theorem qvs:qcn (.bptr i b off) K=K (.bptr i b off):=i' rfl
def NS(op:BinOp)(d e:D)(K:D->Prop):Prop:=match d,e with
 | .v (.int k a), .v (.int k' b)=>qcD op k k'/\gP op k a b K
 | _,_=>False
@[simp] theorem qhm(op:BinOp)(k k':IntKind)(a b:Int)(K:D->Prop):NS op (.v (.int k a)) (.v (.int k' b)) K=(qcD op k k'/\gP op k a b K):=i' rfl
@[simp] theorem qjv(k k':IntKind):qcD .add k k'=(k=k'):=i' rfl
@[simp] theorem qsT:qcD .sub k k'=(k=k'):=i' rfl
@[simp] theorem qsY:qcD .mul k k'=(k=k'):=i' rfl
@[simp] theorem qsX:qcD .quo k k'=(k=k'):=i' rfl
@[simp] theorem qsW:qcD .rem k k'=(k=k'):=i' rfl
@[simp] theorem qsZ:qcD .and k k'=(k=k'):=i' rfl
@[simp] theorem qvX:qcD .or k k'=(k=k'):=i' rfl
@[simp] theorem qsV:qcD .shl k k'=True:=i' rfl
@[simp] theorem qsU:qcD .shr k k'=True:=i' rfl
@[simp ↓] theorem qdc(k:IntKind)(a b:Int)(K:D->Prop):gP .add k a b K=(InR k (a+b)/\K (.v (.int k (a+b)))):=i' rfl
@[simp ↓] theorem qoA(b:Int):gP .sub k a b K=(InR k (a -b)/\K (.v (.int k (a -b)))):=i' rfl
@[simp ↓] theorem qoF(b:Int):gP .mul k a b K=(InR k (a*b)/\K (.v (.int k (a*b)))):=i' rfl
@[simp ↓] theorem qoE(b:Int):gP .quo k a b K=(b≠0/\InR k (a.tdiv b)/\K (.v (.int k (a.tdiv b)))):=i' rfl
@[simp ↓] theorem qoD(b:Int):gP .rem k a b K=(b≠0/\K (.v (.int k (a.tmod b)))):=i' rfl
@[simp ↓] theorem qoG(b:Int):gP .and k a b K=K (.v (.int k (Xo k a b))):=i' rfl
@[simp ↓] theorem qq6(b:Int):gP .or k a b K=K (.v (.int k (qoc k a b))):=i' rfl
@[simp ↓] theorem qoC(b:Int):gP .shl k a b K=(0<=b/\K (.v (.int k (Rs k a b)))):=i' rfl
@[simp ↓] theorem qoB(b:Int):gP .shr k a b K=(0<=b/\K (.v (.int k (Yt k a b)))):=i' rfl
def qiQ(d:D)(K:D->Prop):Prop:=match d with
 | .v (.int _ n)=>K (.v (.string (Utf8.encode n)))
 | _=>False
@[simp] theorem qu7(n:Int):qiQ (.v (.int k n)) K=K (.v (.string (Utf8.encode n))):=i' rfl
def Zq(o:Option Bool)(K:D->Prop):Prop:=match o with|some t=>K (.v (.bool t))|none=>False
@[simp] theorem qno(t:Bool)(K:D->Prop):Zq (some t) K=K (.v (.bool t)):=i' rfl
def qc2(op:BinOp)(d e:D)(K:D->Prop):Prop:=match d,e with
 | .v (.int k a), .v (.int k' b)=>k=k'/\Zq (Tc op a b) K
 | .v (.string a), .v (.string b)=>Zq (WW op a b) K
 | _,_=>False
@[simp] theorem qnn(op:BinOp)(k k':IntKind)(a b:Int)(K:D->Prop):qc2 op (.v (.int k a)) (.v (.int k' b)) K=(k=k'/\Zq (Tc op a b) K):=i' rfl
@[simp] theorem qwT(a b:ByteArray):qc2 op (.v (.string a)) (.v (.string b)) K=Zq (WW op a b) K:=i' rfl
@[simp] theorem qg6(a b:Int):Tc .lss a b=some (decide (a<b)):=i' rfl
@[simp] theorem qqL(b:Int):Tc .leq a b=some (decide (a<=b)):=i' rfl
@[simp] theorem qqM(b:Int):Tc .gtr a b=some (decide (b<a)):=i' rfl
@[simp] theorem qqN(b:Int):Tc .geq a b=some (decide (b<=a)):=i' rfl
@[simp] theorem qqI(a b:ByteArray):WW .lss a b=some (Op.bytesLess a.toList b.toList):=i' rfl
@[simp] theorem qqJ(a b:ByteArray):WW .gtr a b=some (!(Op.bytesLess a.toList b.toList||a.toList==b.toList)):=i' rfl
@[simp] theorem qqK(a b:ByteArray):WW .geq a b=some (!Op.bytesLess a.toList b.toList):=i' rfl
def qcU(neg:Bool)(o:Option Bool)(K:D->Prop):Prop:=match o with
 |some p=>K (.v (.bool (if neg then !p else p)))
 |none=>False
@[simp] theorem qwx(p:Bool):qcU false (some p) K=K (.v (.bool p)):=i' rfl
@[simp] theorem qww(p:Bool):qcU true (some p) K=K (.v (.bool (!p))):=i' rfl
@[simp] theorem qyH(k:XF)(a b:D):qgx false [k] a b=Zl k a b:=i' rfl
@[simp] theorem qyG(a b:List D):qgx true ks (.agg a) (.agg b)=Zi ks a b:=i' rfl
@[simp] theorem qyF:Zi [] [] []=some true:=i' rfl
@[simp] theorem qyE(k:XF)(a b:D)(as bs:List D):Zi (k::ks) (a::as) (b::bs)=(Zl k a b).bind λp=>(Zi ks as bs).bind λq=>some (p && q):=i' rfl
@[simp] theorem qyJ(b:Int):Zl .int (.v (.int k a)) (.v (.int k' b))=if k=k' then some (decide (a=b))else none:=i' rfl
@[simp] theorem qyI(a b:ByteArray):Zl .str (.v (.string a)) (.v (.string b))=some (decide (a=b)):=i' rfl
@[simp] theorem qyK(a b:Bool):Zl .bool (.v (.bool a)) (.v (.bool b))=some (decide (a=b)):=i' rfl
def qfn(d:D)(K:D->Prop):Prop:=match d with
 | .v (.bool b)=>K (.v (.bool (!b)))
 | _=>False
@[simp] theorem qvn(b:Bool):qfn (.v (.bool b)) K=K (.v (.bool (!b))):=i' rfl
def qa6(k:IntKind)(d:D)(K:D->Prop):Prop:=match d with
 | .v (.int _ n)=>K (.v (.int k (k.wrap n)))
 | _=>False
@[simp] theorem qtN(n:Int):qa6 k (.v (.int k' n)) K=K (.v (.int k (k.wrap n))):=i' rfl
def Ys(n id:Nat)(x:Value)(lo hi:Option (Option (IntKind×Int)))(r:Option Res)(K:D->Prop):Prop:=match r with
 |some (.row x' _ n' es)=>x'=x/\n'=n/\pW lo hi es.length λl h=>K (.sub id x n l h)
 | _=>False
@[simp] theorem qph(lo hi:Option (Option (IntKind×Int))):Ys n i x lo hi (some (.row x' el n' es)) K=(x'=x/\n'=n/\pW lo hi es.length λl h=>K (.sub i x n l h)):=i' rfl
@[simp] theorem qwP(K:Nat->Nat->Prop):pW (some (some (k,l))) none len K=(0<=l/\l<=len/\K l.toNat len):=i' rfl
@[simp] theorem qwO(K:Nat->Nat->Prop):pW none (some (some (k,h))) len K=(0<=h/\h<=len/\K 0 h.toNat):=i' rfl
def LT(n:Nat)(d:D)(lo hi:Option (Option (IntKind×Int)))(H:ab)(K:D->Prop):Prop:=match d with
 | .list n' es=>n'=n/\(match lo,hi with
   |none,none=>K (.list n es)
   |some (some (_,l)),none=>0<=l/\l<=es.length/\K (.list n (es.drop l.toNat))
   |none,some (some (_,h))=>0<=h/\h<=es.length/\K (.list n (es.take h.toNat))
   |some (some (_,l)),some (some (_,h))=>0<=l/\l<=h/\h<=es.length/\K (.list n ((es.take h.toNat).drop l.toNat))
   | _,_=>False)
 | .own id x=>Ys n id x lo hi (H id) K
 | .sub id x n' a b=>n'=n/\pW lo hi (b -a) λl h=>K (.sub id x n (a+l) (a+h))
 | .v (.slice none 0 0)=>pW lo hi 0 λ_ _=>K (.v (.slice none 0 0))
 | _=>False
@[simp] theorem qpg(lo hi:Option (Option (IntKind×Int))):LT n (.own i x) lo hi H K=Ys n i x lo hi (H i) K:=i' rfl
@[simp] theorem qn7:LT n (.list n' es) (some (some (k,l))) none H K=(n'=n/\0<=l/\l<=es.length/\K (.list n (es.drop l.toNat))):=i' rfl
@[simp] theorem qn6:LT n (.list n' es) none (some (some (k,l))) H K=(n'=n/\0<=l/\l<=es.length/\K (.list n (es.take l.toNat))):=i' rfl
def K0(d:D)(lo hi:Option (Option (IntKind×Int)))(K:D->Prop):Prop:=match d with
 | .v (.string s)=>(match lo,hi with
   |none,none=>K (.v (.string (s.extract 0 s.size)))
   |some (some (_,l)),none=>0<=l/\l<=s.size/\K (.v (.string (s.extract l.toNat s.size)))
   |none,some (some (_,h))=>0<=h/\h<=s.size/\K (.v (.string (s.extract 0 h.toNat)))
   |some (some (_,l)),some (some (_,h))=>0<=l/\l<=h/\h<=s.size/\K (.v (.string (s.extract l.toNat h.toNat)))
   | _,_=>False)
 | _=>False
@[simp] theorem qlQ:K0 (.v (.string s)) (some (some (k,l))) none K=(0<=l/\l<=s.size/\K (.v (.string (s.extract l.toNat s.size)))):=i' rfl
@[simp] theorem qlR:K0 (.v (.string s)) (some (some (k,l))) (some (some (k',h))) K=(0<=l/\l<=h/\h<=s.size/\K (.v (.string (s.extract l.toNat h.toNat)))):=i' rfl
def EC(off:Nat)(d:D)(K:D->Prop):Prop:=match d with
 | .cptr cs o=>K (.cptr cs (o+off))
 | .bptr id b o=>K (.bptr id b (o+off))
 | .eptr id x n i o=>K (.eptr id x n i (o+off))
 | _=>False
@[simp] theorem qqk:EC off (.cptr cs o) K=K (.cptr cs (o+off)):=i' rfl
@[simp] theorem qql:EC off (.bptr i b o) K=K (.bptr i b (o+off)):=i' rfl
@[simp] theorem qqj(k:Nat):EC off (.eptr i x n k o) K=K (.eptr i x n k (o+off)):=i' rfl
def M7(n:Nat)(k:Int)(id:Nat)(x:Value)(r:Option Res)(K:D->Prop):Prop:=match r with
 |some (.row x' _ n' es)=>x'=x/\n'=n/\0<=k/\k<es.length/\K (.eptr id x n k.toNat 0)
 | _=>False
def EA(n:Nat)(i d:D)(H:ab)(K:D->Prop):Prop:=match i with
 | .v (.int _ k)=>match d with
   | .list n' es=>n'=n/\0<=k/\k<es.length/\∀d,es[k.toNat]? =some d->K (.cptr d.cells 0)
   | .own id x=>M7 n k id x (H id) K
   | .sub id x n' lo hi=>n'=n/\0<=k/\k<(hi -lo:Nat)/\K (.eptr id x n (lo+k.toNat) 0)
   | _=>False
 | _=>False
@[simp] theorem qpZ(k:Int):EA n (.v (.int kd k)) (.sub i x n' lo hi) H K=(n'=n/\0<=k/\k<(hi -lo:Nat)/\K (.eptr i x n (lo+k.toNat) 0)):=i' rfl
@[simp] theorem qp1(k:Int):EA n (.v (.int kd k)) (.list n' es) H K=(n'=n/\0<=k/\k<es.length/\∀d,es[k.toNat]? =some d->K (.cptr d.cells 0)):=i' rfl
@[simp] theorem qp0(k:Int):EA n (.v (.int kd k)) (.own i x) H K=M7 n k i x (H i) K:=i' rfl
@[simp] theorem qp2(k:Int):M7 n k i x (some (.row x' el n' es)) K=(x'=x/\n'=n/\0<=k/\k<es.length/\K (.eptr i x n k.toNat 0)):=i' rfl
def ZR(i d:D)(K:D->Prop):Prop:=match i with
 | .v (.int _ k)=>match d with
   | .v (.string s)=>0<=k/\k<s.size/\∀c,s.data[k.toNat]? =some c->K (.v (.int .u8 c.toNat))
   | _=>False
 | _=>False
@[simp] theorem qrY(k:Int):ZR (.v (.int kd k)) (.v (.string s)) K=(0<=k/\k<s.size/\∀c,s.data[k.toNat]? =some c->K (.v (.int .u8 c.toNat))):=i' rfl
def qgu(o:Option D)(K:D->Prop):Prop:=match o with
 |some d=>K d
 |none=>False
def qgt(d:D)(i:Nat)(K:D->Prop):Prop:=match d with
 | .tup ds=>qgu ds[i]? K
 | _=>False
@[simp] theorem qwr:qgt (.tup ds) i K=qgu ds[i]? K:=i' rfl
@[simp] theorem qws:qgu (some d) K=K d:=i' rfl
def qfK(x:Value)(r:Option Res)(K:D->Prop):Prop:=match r with
 |some (.row x' _ _ es)=>x'=x/\((es.length:Int)<=9223372036854775807->K (.v (.int .i64 es.length)))
 | _=>False
def Su(d:D)(H:ab)(K:D->Prop):Prop:=match d with
 | .list _ es=>(es.length:Int)<=9223372036854775807->K (.v (.int .i64 es.length))
 | .own id x=>qfK x (H id) K
 | .v (.slice _ n _)=>K (.v (.int .i64 n))
 | .sub _ _ _ lo hi=>((hi -lo:Nat):Int)<=9223372036854775807->K (.v (.int .i64 (hi -lo:Nat)))
 | _=>False
@[simp] theorem qvL:Su (.sub i x n lo hi) H K=(((hi -lo:Nat):Int)<=9223372036854775807->K (.v (.int .i64 (hi -lo:Nat)))):=i' rfl
@[simp] theorem qvO:Su (.list n es) H K=((es.length:Int)<=9223372036854775807->K (.v (.int .i64 es.length))):=i' rfl
@[simp] theorem qvM:Su (.own i x) H K=qfK x (H i) K:=i' rfl
@[simp] theorem qsM(a:Option Addr)(c:Nat):Su (.v (.slice a n c)) H K=K (.v (.int .i64 n)):=i' rfl
@[simp high] theorem qvN:Su (.v (.slice none 0 0)) H K=K (.v (.int .i64 0)):=i' rfl
@[simp] theorem qvP:qfK x (some (.row x' el n es)) K=(x'=x/\((es.length:Int)<=9223372036854775807->K (.v (.int .i64 es.length)))):=i' rfl
def qhc(x:Value)(r:Option Res)(K:D->Prop):Prop:=match r with
 |some (.row x' _ n es)=>x'=x/\n=1/\qlb es=true/\K (.v (.string (qns es)))
 | _=>False
@[simp] theorem qxl:qhc x (some (.row x' el n es)) K=(x'=x/\n=1/\qlb es=true/\K (.v (.string (qns es)))):=i' rfl
def qki(d:D)(H:ab)(K:D->Prop):Prop:=match d with
 | .own i x=>qhc x (H i) K
 | .v (.slice none 0 0)=>K (.v (.string ⟨#[]⟩))
 | _=>False
@[simp] theorem qxk:qki (.own i x) H K=qhc x (H i) K:=i' rfl
def UO(d:D)(K:D->Prop):Prop:=match d with
 | .v (.string s)=>(s.size:Int)<=9223372036854775807->K (.v (.int .i64 s.size))
 | _=>False
@[simp] theorem qrX:UO (.v (.string s)) K=((s.size:Int)<=9223372036854775807->K (.v (.int .i64 s.size))):=i' rfl
def qft(mx:Bool)(d e:D)(K:D->Prop):Prop:=match d,e with
 | .v (.int k a), .v (.int k' b)=>k=k'/\K (.v (.int k (if mx then max a b else min a b)))
 | _,_=>False
@[simp] theorem qvA(b:Int):qft mx (.v (.int k a)) (.v (.int k' b)) K=(k=k'/\K (.v (.int k (if mx then max a b else min a b)))):=i' rfl
@[simp ↓] theorem qoy(K:List D->Prop):kq σ [] cs K=K cs:=i' rfl
@[simp ↓] theorem qnt(x:Operand)(r:List (Nat×Nat×Operand))(K:List D->Prop):kq σ ((off,sz,x)::r) cs K=((ev σ x).kn=true/\(ev σ x).cells.length=sz/\kq σ r (setAt cs off (ev σ x).cells) K):=i' rfl
@[simp] theorem qob:jY n []=True:=i' rfl
@[simp] theorem qmj(r:List D):jY n (d::r)=(d.kn=true/\d.cells.length=n/\jY n r):=i' rfl
def qbO(n lo hi:Nat)(x:Value)(r:Option Res)(K:List D->Prop):Prop:=match r with
 |some (.row x' _ n'' es)=>x'=x/\n''=n/\K ((es.take hi).drop lo)
 | _=>False
@[simp] theorem quV(K:List D->Prop):qbO n lo hi x (some (.row x' el n' es)) K=(x'=x/\n'=n/\K ((es.take hi).drop lo)):=i' rfl
@[simp] theorem qxX(K:List D->Prop):kw n (.sub i x n' lo hi) H K=(n'=n/\qbO n lo hi x (H i) K):=by
 simp only[kw];cases H i with
 |none=>simp[qbO]
 |some r=>cases r<;>simp[qbO,and_left_comm]
@[simp] theorem quW(K:List D->Prop):vO n (.list n' es) H K=(n'=n/\K es):=i' rfl
@[simp] theorem quX(K:List D->Prop):vO n (.v (.string s)) H K=(n=1/\K (FF s)):=i' rfl
def qvB(t el n bytes:Nat)(agg:Bool)(z:List Value)(l c:Option (IntKind×Int))(H:ab)(K:D->ab->Prop):Prop:=match l,c with
 |some (_,l),some (_,c)=>0<=l/\l<=c/\bytes*c<=140737488355328/\c<=140737488355328/\∀x,K (.own t x) (ai H t (some (.row x el n (List.replicate l.toNat (if agg then .agg (z.map qG)else qG (z.headD (.bool false)))))))
 | _,_=>False
@[simp] theorem qym(c:Int)(K:D->ab->Prop):qvB t el n bytes agg z (some (k,l)) (some (k',c)) H K=(0<=l/\l<=c/\bytes*c<=140737488355328/\c<=140737488355328/\∀x,K (.own t x) (ai H t (some (.row x el n (List.replicate l.toNat (if agg then .agg (z.map qG)else qG (z.headD (.bool false)))))))):=i' rfl
def D2(sz id b off:Nat)(y:D)(r:Option Res)(H:ab)(K:D->ab->Prop):Prop:=match r with
 |some (.box b' cells)=>b'=b/\off+sz<=cells.length/\K .undef (ai H id (some (.box b' (setAt cells off y.cells))))
 | _=>False
def D1(sz id:Nat)(x:Value)(n i off:Nat)(y:D)(r:Option Res)(H:ab)(K:D->ab->Prop):Prop:=match r with
 | some (.row x' el n' es)=>x'=x/\n'=n/\0<n/\off+sz<=n/\i<es.length/\∀d,es[i]? =some d->
    K .undef (ai H id (some (.row x' el n' (es.set i (if off=0/\sz=n then y else .agg (setAt d.cells off y.cells))))))
 | _=>False
def LQ(sz:Nat)(d y:D)(H:ab)(K:D->ab->Prop):Prop:=match d with
 | .bptr id b off=>D2 sz id b off y (H id) H K
 | .eptr id x n i off=>D1 sz id x n i off y (H id) H K
 | _=>False
@[simp] theorem qo7(y:D)(K:D->ab->Prop):LQ sz (.bptr i b off) y H K=D2 sz i b off y (H i) H K:=i' rfl
@[simp] theorem qo6(k:Nat)(y:D)(K:D->ab->Prop):LQ sz (.eptr i x n k off) y H K=D1 sz i x n k off y (H i) H K:=i' rfl
@[simp] theorem qo9(y:D)(K:D->ab->Prop):D2 sz i b off y (some (.box b' cells)) H K=(b'=b/\off+sz<=cells.length/\K .undef (ai H i (some (.box b' (setAt cells off y.cells))))):=i' rfl
@[simp] theorem qo8(k:Nat)(y:D)(K:D->ab->Prop):D1 sz i x n k off y (some (.row x' el n' es)) H K=(x'=x/\n'=n/\0<n/\off+sz<=n/\k<es.length/\∀d,es[k]? =some d->
 K .undef (ai H i (some (.row x' el n' (es.set k (if off=0/\sz=n then y else .agg (setAt d.cells off y.cells))))))):=i' rfl
def qhq(el n bytes id:Nat)(x:Value)(es2:List D)(r:Option Res)(H:ab)(K:D->ab->Prop):Prop:=match r with
 |some (.row x' el' n' es)=>x'=x/\el'=el/\n'=n/\(es.length+es2.length) *bytes<=140737488355328/\es.length+es2.length<=140737488355328/\∀v,K (.own id v) (ai H id (some (.row v el n (es++es2))))
 | _=>False
def qxx(el n bytes id:Nat)(x:Value)(n' lo hi:Nat)(es2:List D)(r:Option Res)(H:ab)(K:D->ab->Prop):Prop:=match r with
 |some (.row x' el' n'' es)=>x'=x/\el'=el/\n'=n/\n''=n/\lo=0/\(hi+es2.length) *bytes<=140737488355328/\hi+es2.length<=140737488355328/\∀v,K (.own id v) (ai H id (some (.row v el n (es.take hi++es2))))
 | _=>False
def qwW(n id:Nat)(x:Value)(z:D)(r:Option Res)(H:ab)(K:D->ab->Prop):Prop:=match r with
 |some (.row x' el n' es)=>x'=x/\n'=n/\K (.tup []) (ai H id (some (.row x' el n' (List.replicate es.length z))))
 | _=>False
def qg8(n id:Nat)(x:Value)(n' lo hi:Nat)(z:D)(r:Option Res)(H:ab)(K:D->ab->Prop):Prop:=match r with
 |some (.row x' el n'' es)=>x'=x/\n'=n/\n''=n/\K (.tup []) (ai H id (some (.row x' el n'' (es.take lo++List.replicate (hi -lo) z++es.drop hi))))
 | _=>False
def qkb(n:Nat)(z d:D)(H:ab)(K:D->ab->Prop):Prop:=match d with
 | .own id x=>qwW n id x z (H id) H K
 | .sub id x n' lo hi=>qg8 n id x n' lo hi z (H id) H K
 | .v (.slice none 0 0)=>K (.tup []) H
 | _=>False
@[simp] theorem qwU(z:D)(K:D->ab->Prop):qkb n z (.sub i x n' lo hi) H K=qg8 n i x n' lo hi z (H i) H K:=i' rfl
@[simp] theorem qwV(z:D)(K:D->ab->Prop):qg8 n i x n' lo hi z (some (.row x' el n'' es)) H K=(x'=x/\n'=n/\n''=n/\K (.tup []) (ai H i (some (.row x' el n'' (es.take lo++List.replicate (hi -lo) z++es.drop hi))))):=i' rfl
def qwS(n id:Nat)(x:Value)(src:List D)(r:Option Res)(H:ab)(K:D->ab->Prop):Prop:=match r with
 |some (.row x' el n' es)=>x'=x/\n'=n/\K (.v (.int .i64 (min src.length es.length:Nat))) (ai H id (some (.row x' el n' (src.take es.length++es.drop src.length))))
 | _=>False
def qgW(n id:Nat)(x:Value)(n' lo hi:Nat)(src:List D)(r:Option Res)(H:ab)(K:D->ab->Prop):Prop:=match r with
 |some (.row x' el n'' es)=>x'=x/\n'=n/\n''=n/\K (.v (.int .i64 (min src.length (hi -lo):Nat))) (ai H id (some (.row x' el n'' (es.take lo++src.take (hi -lo) ++es.drop (lo+min src.length (hi -lo))))))
 | _=>False
def qj7(n:Nat)(d:D)(src:List D)(H:ab)(K:D->ab->Prop):Prop:=match d with
 | .own id x=>qwS n id x src (H id) H K
 | .sub id x n' lo hi=>qgW n id x n' lo hi src (H id) H K
 | _=>False
@[simp] theorem qwQ(K:D->ab->Prop):qj7 n (.sub i x n' lo hi) src H K=qgW n i x n' lo hi src (H i) H K:=i' rfl
@[simp] theorem qwR(K:D->ab->Prop):qgW n i x n' lo hi src (some (.row x' el n'' es)) H K=(x'=x/\n'=n/\n''=n/\K (.v (.int .i64 (min src.length (hi -lo):Nat))) (ai H i (some (.row x' el n'' (es.take lo++src.take (hi -lo) ++es.drop (lo+min src.length (hi -lo))))))):=i' rfl
@[simp] theorem qxM:Tz true z= .agg (z.map qG):=i' rfl
@[simp] theorem qxN:Tz false z=qG (z.headD (.bool false)):=i' rfl
def qgg(t:Nat)(x:Value)(id:Nat)(σ:Sg)(r:Option Res)(H:ab)(K:Sg->ab->Prop):Prop:=match r with
 |some (.row x' _ n' es)=>x'=x/\K (qcS id x (.list n' es) σ) (ai H id none)
 | _=>False
def qwp(t b off:Nat)(id:Nat)(σ:Sg)(r:Option Res)(H:ab)(K:Sg->ab->Prop):Prop:=match r with
 |some (.box b' cs)=>b'=b/\K (upd σ t (.cptr cs off)) (ai H id none)
 | _=>False
def qgf(t n:Nat)(x:Value)(id n' lo hi:Nat)(σ:Sg)(r:Option Res)(H:ab)(K:Sg->ab->Prop):Prop:=match r with
 |some (.row x' el n'' es)=>x'=x/\n'=n''/\(if n=0 then lo=0/\∀v,K (upd σ t (.own id v)) (ai H id (some (.row v el n'' (es.take hi))))else K (upd σ t (.list n'' ((es.take hi).drop lo))) (ai H id none))
 | _=>False
def qge(t n:Nat)(d:D)(σ:Sg)(H:ab)(K:Sg->ab->Prop):Prop:=match d with
 | .own id x=>qgg t x id σ (H id) H K
 | .bptr id b off=>qwp t b off id σ (H id) H K
 | .v (.slice none 0 0)=>K (upd σ t (.list n [])) H
 | .sub id x n' lo hi=>qgf t n x id n' lo hi σ (H id) H K
 | .agg cs=>Iy cs H λcs' H'=>K (upd σ t (.agg cs')) H'
 | _=>K σ H
@[simp ↓] theorem qzD(K:Sg->ab->Prop):JG t n σ H K=qge t n (σ t) σ H K:=i' rfl
@[simp] theorem qwf(K:Sg->ab->Prop):qge t n (.own i x) σ H K=qgg t x i σ (H i) H K:=i' rfl
@[simp] theorem qwe(K:Sg->ab->Prop):qge t n (.sub i x n' lo hi) σ H K=qgf t n x i n' lo hi σ (H i) H K:=i' rfl
@[simp] theorem qwh(K:Sg->ab->Prop):qgg t x i σ (some (.row x' el n' es)) H K=(x'=x/\K (qcS i x (.list n' es) σ) (ai H i none)):=i' rfl
@[simp] theorem qwj(y:Value):KB id x L (.own i y)=open Classical in (if i=id/\y=x then L else .own i y):=i' rfl
@[simp] theorem qwo:KB id x L (.any)= .any:=i' rfl
@[simp] theorem qwl:KB id x L (.agg cs)= .agg cs:=i' rfl
@[simp] theorem qwk:KB id x L (.list n es)= .list n es:=i' rfl
@[simp] theorem qwm:KB id x L (.cptr cs o)= .cptr cs o:=i' rfl
@[simp] theorem qwn:KB id x L (.bptr i b o)= .bptr i b o:=i' rfl
@[simp] theorem qwi(T:List Int):KB id x L (.tape T)= .tape T:=i' rfl
@[simp] theorem qwg(K:Sg->ab->Prop):qgf t n x i n' lo hi σ (some (.row x' el n'' es)) H K=(x'=x/\n'=n''/\(if n=0 then lo=0/\∀v,K (upd σ t (.own i v)) (ai H i (some (.row v el n'' (es.take hi))))else K (upd σ t (.list n'' ((es.take hi).drop lo))) (ai H i none))):=i' rfl
def qiN(d:D)(K:D->Prop):Prop:=match d with
 | .v (.string s)=>K (.list 1 (s.data.toList.map λc=> .v (.int .u8 c.toNat)))
 | _=>False
@[simp] theorem qu3:qiN (.v (.string s)) K=K (.list 1 (s.data.toList.map λc=> .v (.int .u8 c.toNat))):=i' rfl
def qd0(t:Nat)(d:D)(H:ab)(K:D->ab->Prop):Prop:=match d with
 | .v (.string s)=>∀b,K (.bptr t b 0) (ai H t (some (.iter b s 0)))
 | _=>False
@[simp] theorem quU(K:D->ab->Prop):qd0 t (.v (.string s)) H K=∀b,K (.bptr t b 0) (ai H t (some (.iter b s 0))):=i' rfl
def qd5(id b:Nat)(r:Option Res)(H:ab)(K:D->ab->Prop):Prop:=match r with
 |some (.iter b' s pos)=>b'=b/\(pos<s.size->K (.tup [.v (.bool true), .v (.int .i64 pos), .v (.int .i32 (Utf8.decode s pos).1)]) (ai H id (some (.iter b' s (pos+ (Utf8.decode s pos).2)))))/\(¬pos<s.size->K (.tup [.v (.bool false)]) H)
 | _=>False
@[simp] theorem quZ(pos:Nat)(K:D->ab->Prop):qd5 id b (some (.iter b' s pos)) H K=(b'=b/\(pos<s.size->K (.tup [.v (.bool true), .v (.int .i64 pos), .v (.int .i32 (Utf8.decode s pos).1)]) (ai H id (some (.iter b' s (pos+ (Utf8.decode s pos).2)))))/\(¬pos<s.size->K (.tup [.v (.bool false)]) H)):=i' rfl
def qiJ(d:D)(H:ab)(K:D->ab->Prop):Prop:=match d with
 | .bptr id b off=>off=0/\qd5 id b (H id) H K
 | _=>False
@[simp] theorem quY(K:D->ab->Prop):qiJ (.bptr i b off) H K=(off=0/\qd5 i b (H i) H K):=i' rfl
def qkq(dst:Option Nat)(el n b:Nat)(d:D)(es2:List D)(H:ab)(K:D->ab->Prop):Prop:=match dst,d with
 |some t, .v (.slice none 0 0)=>es2.length*b<=140737488355328/\es2.length<=140737488355328/\∀v,K (.own t v) (ai H t (some (.row v el n es2)))
 | _,_=>False
@[simp] theorem qxA(K:D->ab->Prop):qkq (some t) el n b (.v (.slice none 0 0)) es2 H K=(es2.length*b<=140737488355328/\es2.length<=140737488355328/\∀v,K (.own t v) (ai H t (some (.row v el n es2)))):=i' rfl
def qhn(el n b r:Nat)(x:Value)(es2:List D)(q:Option Res)(H:ab)(K:D->ab->Prop):Prop:=match q with
 |some (.row x' el' n' es)=>x'=x/\el'=el/\n'=n/\(es.length+es2.length) *b<=140737488355328/\es.length+es2.length<=140737488355328/\∀v,K (.own r v) (ai H r (some (.row v el n (es++es2))))
 | _=>False
@[simp] theorem qxu(r:Nat)(K:D->ab->Prop):qhn el n b r x es2 (some (.row x' el' n' es)) H K=(x'=x/\el'=el/\n'=n/\(es.length+es2.length) *b<=140737488355328/\es.length+es2.length<=140737488355328/\∀v,K (.own r v) (ai H r (some (.row v el n (es++es2))))):=i' rfl
def qkp(r el n b:Nat)(d:D)(es2:List D)(H:ab)(K:D->ab->Prop):Prop:=match d with
 | .own id x=>id=r/\qhn el n b r x es2 (H r) H K
 | _=>False
@[simp] theorem qxt(r:Nat)(K:D->ab->Prop):qkp r el n b (.own i x) es2 H K=(i=r/\qhn el n b r x es2 (H r) H K):=i' rfl
def UJ(r sz:Nat)(d y:D)(H:ab)(K:D->ab->Prop):Prop:=match d with
 | .bptr id b off=>id=r/\D2 sz r b off y (H r) H K
 | .eptr id x n i off=>id=r/\D1 sz r x n i off y (H r) H K
 | _=>False
@[simp] theorem qrP(r:Nat)(y:D)(K:D->ab->Prop):UJ r sz (.bptr i b off) y H K=(i=r/\D2 sz r b off y (H r) H K):=i' rfl
@[simp] theorem qrO(r:Nat)(k:Nat)(y:D)(K:D->ab->Prop):UJ r sz (.eptr i x n k off) y H K=(i=r/\D1 sz r x n k off y (H r) H K):=i' rfl
def qxz(dst:Option Nat)(el n bytes:Nat)(es2:List D)(H:ab)(K:D->ab->Prop):Prop:=match dst with
 |some t=>es2.length*bytes<=140737488355328/\es2.length<=140737488355328/\∀v,K (.own t v) (ai H t (some (.row v el n es2)))
 |none=>False
def qho(dst:Option Nat)(el n bytes:Nat)(d:D)(es2:List D)(H:ab)(K:D->ab->Prop):Prop:=match d with
 | .own id x=>qhq el n bytes id x es2 (H id) H K
 | .v (.slice none 0 0)=>qxz dst el n bytes es2 H K
 | .sub id x n' lo hi=>qxx el n bytes id x n' lo hi es2 (H id) H K
 | _=>False
@[simp] theorem qxv(K:D->ab->Prop):qho dst el n bytes (.own i x) es2 H K=qhq el n bytes i x es2 (H i) H K:=i' rfl
@[simp] theorem qxw(K:D->ab->Prop):qho (some t) el n bytes (.v (.slice none 0 0)) es2 H K=(es2.length*bytes<=140737488355328/\es2.length<=140737488355328/\∀v,K (.own t v) (ai H t (some (.row v el n es2)))):=i' rfl
@[simp] theorem qxy(K:D->ab->Prop):qhq el n bytes i x es2 (some (.row x' el' n' es)) H K=(x'=x/\el'=el/\n'=n/\(es.length+es2.length) *bytes<=140737488355328/\es.length+es2.length<=140737488355328/\∀v,K (.own i v) (ai H i (some (.row v el n (es++es2))))):=i' rfl
def Ch(S:Nat->Spc)(f:D)(d:Nat)(args:List D)(H:ab)(K:D->ab->Prop):Prop:=match f with
 | .clo g caps=>(S g).pt d (args++caps) H K
 | _=>False
@[simp] theorem qtV(d:Nat)(K:D->ab->Prop):Ch S (.clo g caps) d args H K=(S g).pt d (args++caps) H K:=i' rfl
@[congr] theorem qpu{r:Nat}{s:Spc}{K:D->ab->Prop}(hs:s=s₁)(hargs:args=args₁):PU r dst s args H K=PU r dst s₁ args₁ H K:=by subst hs;subst hargs;rfl
@[congr] theorem qsh{s:Spc}{K:D->ab->Prop}(hs:s=s₁)(hargs:args=args₁):YM dst s args H K=YM dst s₁ args₁ H K:=by subst hs;subst hargs;rfl
section
variable {S:Nat->Spc}{σ:Sg}{H Hr:ab}{K:D->ab->Prop}
@[simp ↓] theorem qw2(dst:Option Nat)(x:Operand):aG S (.mv x) dst σ H K=((λd=>K d H) (ev σ x)):=i' rfl
@[simp ↓] theorem qzc(x:Operand):ax S (.mv x) dst σ Hr H K=((λd=>K d H) (ev σ x)):=i' rfl
@[simp ↓] theorem qw1(x:Operand):aG S (.pick c x y) dst σ H K=(Jv (ev σ c) ((λd=>K d H) (ev σ x)) ((λd=>K d H) (ev σ y))):=i' rfl
@[simp ↓] theorem qve(x:Operand):ax S (.pick c x y) dst σ Hr H K=(Jv (ev σ c) ((λd=>K d H) (ev σ x)) ((λd=>K d H) (ev σ y))):=i' rfl
@[simp ↓] theorem qt5(ps:List (Nat×Nat×Operand)):aG S (.build z ps) dst σ H K=(kq σ ps (z.map qG) λcs=>(λd=>K d H) (.agg cs)):=i' rfl
@[simp ↓] theorem qsd(ps:List (Nat×Nat×Operand)):ax S (.build z ps) dst σ Hr H K=(kq σ ps (z.map qG) λcs=>(λd=>K d H) (.agg cs)):=i' rfl
@[simp ↓] theorem qqW:aG S (.bslice el n ps) dst σ H K=(jY n (ps.map (ev σ))/\(λd=>K d H) (.list n (ps.map (ev σ)))):=i' rfl
@[simp ↓] theorem qps:ax S (.bslice el n ps) dst σ Hr H K=(jY n (ps.map (ev σ))/\(λd=>K d H) (.list n (ps.map (ev σ)))):=i' rfl
@[simp ↓] theorem qw6(x:Operand):aG S (.load agg sz x) dst σ H K=(JB agg sz (ev σ x) H (λd=>K d H)):=i' rfl
@[simp ↓] theorem qvf(x:Operand):ax S (.load agg sz x) dst σ Hr H K=(JB agg sz (ev σ x) Hr (λd=>K d H)):=i' rfl
@[simp ↓] theorem qtZ(x:Operand):aG S (.nilck x) dst σ H K=(qcn (ev σ x) (λd=>K d H)):=i' rfl
@[simp ↓] theorem qr9(x:Operand):ax S (.nilck x) dst σ Hr H K=(qcn (ev σ x) (λd=>K d H)):=i' rfl
@[simp ↓] theorem qke(dst:Option Nat)(op:BinOp)(x y:Operand):aG S (.arith op x y) dst σ H K=(NS op (ev σ x) (ev σ y) (λd=>K d H)):=i' rfl
@[simp ↓] theorem qse(x:Operand):ax S (.arith op x y) dst σ Hr H K=(NS op (ev σ x) (ev σ y) (λd=>K d H)):=i' rfl
@[simp ↓] theorem qqV(dst:Option Nat)(op:BinOp)(x y:Operand):aG S (.cmp op x y) dst σ H K=(qc2 op (ev σ x) (ev σ y) (λd=>K d H)):=i' rfl
@[simp ↓] theorem qya(x:Operand):ax S (.cmp op x y) dst σ Hr H K=(qc2 op (ev σ x) (ev σ y) (λd=>K d H)):=i' rfl
@[simp ↓] theorem qyR(x:Operand):aG S (.eql neg agg ks x y) dst σ H K=(qcU neg (qgx agg ks (ev σ x) (ev σ y)) (λd=>K d H)):=i' rfl
@[simp ↓] theorem qx9(x:Operand):ax S (.eql neg agg ks x y) dst σ Hr H K=(qcU neg (qgx agg ks (ev σ x) (ev σ y)) (λd=>K d H)):=i' rfl
@[simp ↓] theorem qyM(x:Operand):aG S (.not x) dst σ H K=(qfn (ev σ x) (λd=>K d H)):=i' rfl
@[simp ↓] theorem qx4(x:Operand):ax S (.not x) dst σ Hr H K=(qfn (ev σ x) (λd=>K d H)):=i' rfl
@[simp ↓] theorem qw8(x:Operand):aG S (.conv k x) dst σ H K=(qa6 k (ev σ x) (λd=>K d H)):=i' rfl
@[simp ↓] theorem qyS:aG S (.clo f xs) dst σ H K=((λd=>K d H) (.clo f (xs.map (ev σ)))):=i' rfl
@[simp ↓] theorem qtY(x:Operand)(lo hi:Option Operand):aG S (.slice n x lo hi) dst σ H K=(LT n (ev σ x) (lo.map λo=>mz (ev σ o)) (hi.map λo=>mz (ev σ o)) H (λd=>K d H)):=i' rfl
@[simp ↓] theorem qr8(x:Operand)(lo hi:Option Operand):ax S (.slice n x lo hi) dst σ Hr H K=(LT n (ev σ x) (lo.map λo=>mz (ev σ o)) (hi.map λo=>mz (ev σ o)) Hr (λd=>K d H)):=i' rfl
@[simp ↓] theorem qqQ(x:Operand)(lo hi:Option Operand):aG S (.sslice x lo hi) dst σ H K=(K0 (ev σ x) (lo.map λo=>mz (ev σ o)) (hi.map λo=>mz (ev σ o)) (λd=>K d H)):=i' rfl
@[simp ↓] theorem qpq(x:Operand)(lo hi:Option Operand):ax S (.sslice x lo hi) dst σ Hr H K=(K0 (ev σ x) (lo.map λo=>mz (ev σ o)) (hi.map λo=>mz (ev σ o)) (λd=>K d H)):=i' rfl
@[simp ↓] theorem qt2(x:Operand):aG S (.faddr off x) dst σ H K=(EC off (ev σ x) (λd=>K d H)):=i' rfl
@[simp ↓] theorem qsb(x:Operand):ax S (.faddr off x) dst σ Hr H K=(EC off (ev σ x) (λd=>K d H)):=i' rfl
@[simp ↓] theorem qt1(x i:Operand):aG S (.iaddr n x i) dst σ H K=(EA n (ev σ i) (ev σ x) H (λd=>K d H)):=i' rfl
@[simp ↓] theorem qsa(x i:Operand):ax S (.iaddr n x i) dst σ Hr H K=(EA n (ev σ i) (ev σ x) Hr (λd=>K d H)):=i' rfl
@[simp ↓] theorem qwZ(x i:Operand):aG S (.sidx x i) dst σ H K=(ZR (ev σ i) (ev σ x) (λd=>K d H)):=i' rfl
@[simp ↓] theorem qyQ(x:Operand):aG S (.ext x i) dst σ H K=(qgt (ev σ x) i (λd=>K d H)):=i' rfl
@[simp ↓] theorem qx8(x:Operand):ax S (.ext x i) dst σ Hr H K=(qgt (ev σ x) i (λd=>K d H)):=i' rfl
@[simp ↓] theorem qyP(x:Operand):aG S (.len x) dst σ H K=(Su (ev σ x) H (λd=>K d H)):=i' rfl
@[simp ↓] theorem qx7(x:Operand):ax S (.len x) dst σ Hr H K=(Su (ev σ x) Hr (λd=>K d H)):=i' rfl
@[simp ↓] theorem qwY(x:Operand):aG S (.slen x) dst σ H K=(UO (ev σ x) (λd=>K d H)):=i' rfl
@[simp ↓] theorem qvd(x:Operand):ax S (.slen x) dst σ Hr H K=(UO (ev σ x) (λd=>K d H)):=i' rfl
@[simp ↓] theorem qxa(x:Operand):aG S (.bstr x) dst σ H K=(qki (ev σ x) H (λd=>K d H)):=i' rfl
@[simp ↓] theorem qw0(x:Operand):aG S (.rstr x) dst σ H K=(qiQ (ev σ x) (λd=>K d H)):=i' rfl
@[simp ↓] theorem qyO(x:Operand):aG S (.mm mx [x,y]) dst σ H K=qft mx (ev σ x) (ev σ y) (λd=>K d H):=i' rfl
@[simp ↓] theorem qxb(x:Operand):aG S (.box el true x) dst σ H K=((ev σ x).kn=true/\K (.cptr (ev σ x).cells 0) H):=i' rfl
@[simp ↓] theorem qt6:aG S (.alloc el z) (some t) σ H K=∀b,K (.bptr t b 0) (ai H t (some (.box b (z.map qG)))):=i' rfl
@[simp ↓] theorem qyT(x:Operand):aG S (.box el false x) (some t) σ H K=((ev σ x).kn=true/\∀b,K (.bptr t b 0) (ai H t (some (.box b (ev σ x).cells)))):=i' rfl
@[simp ↓] theorem qqT:aG S (.mslice el n ps) (some t) σ H K=(jY n (ps.map (ev σ))/\∀x,K (.own t x) (ai H t (some (.row x el n (ps.map (ev σ)))))):=i' rfl
@[simp ↓] theorem qox(l:Operand):aG S (.mkslice el n bytes agg z l c) (some t) σ H K=qvB t el n bytes agg z (mz (ev σ l)) (mz (ev σ c)) H K:=i' rfl
@[simp ↓] theorem qx6(x:Operand):ax S (.mm mx [x,y]) dst σ Hr H K=qft mx (ev σ x) (ev σ y) (λd=>K d H):=i' rfl
@[simp ↓] theorem qsf:ax S (.alloc el z) (some t) σ Hr H K=∀b,K (.bptr t b 0) (ai H t (some (.box b (z.map qG)))):=i' rfl
@[simp ↓] theorem qpr:ax S (.nslice el n) (some t) σ Hr H K=∀x,K (.own t x) (ai H t (some (.row x el n []))):=i' rfl
@[simp ↓] theorem qn8(l:Operand):ax S (.mkslice el n bytes agg z l c) (some t) σ Hr H K=qvB t el n bytes agg z (mz (ev σ l)) (mz (ev σ c)) H K:=i' rfl
@[simp ↓] theorem qqS(x:Operand):aG S (.sbytes x) dst σ H K=qiN (ev σ x) (λd=>K d H):=i' rfl
@[simp ↓] theorem qqR(x:Operand):aG S (.srange x) (some t) σ H K=qd0 t (ev σ x) H K:=by
 simp only[aG,bu,qd0];split<;>simp_all
@[simp ↓] theorem qtX(x:Operand):aG S (.snext x) dst σ H K=qiJ (ev σ x) H K:=i' rfl
@[simp ↓] theorem qr7(r:Nat)(x:Operand):ax S (.store (some r) sz x y) dst σ Hr H K=((ev σ y).kn=true/\(ev σ y).cells.length=sz/\UJ r sz (ev σ x) (ev σ y) H K):=by
 simp only[ax];congr 2
@[simp ↓] theorem qtW(x:Operand):aG S (.store rt sz x y) dst σ H K=((ev σ y).kn=true/\(ev σ y).cells.length=sz/\LQ sz (ev σ x) (ev σ y) H K):=i' rfl
@[simp ↓] theorem qqX(x:Operand):aG S (.append rt el n bytes x y) dst σ H K=vO n (ev σ y) H λes2=>qho dst el n bytes (ev σ x) es2 H K:=i' rfl
@[simp ↓] theorem qoa(x:Operand):ax S (.append none el n bytes x y) dst σ Hr H K=vO n (ev σ y) Hr λes2=>qkq dst el n bytes (ev σ x) es2 H K:=by
 simp only[ax];congr 1
@[simp ↓] theorem qn9(r:Nat)(x:Operand):ax S (.append (some r) el n bytes x y) dst σ Hr H K=vO n (ev σ y) Hr λes2=>qkp r el n bytes (ev σ x) es2 H K:=by
 simp only[ax];congr 1
@[simp ↓] theorem qt3(x:Operand):aG S (.clear n agg z x) dst σ H K=qkb n (Tz agg z) (ev σ x) H K:=i' rfl
@[simp ↓] theorem qw7(x:Operand):aG S (.copy n x y) dst σ H K=kw n (ev σ y) H λsrc=>qj7 n (ev σ x) src H K:=i' rfl
@[simp ↓] theorem qw9(args:List Operand):aG S (.call f args) dst σ H K=(S f).pt (dst.getD 0) (args.map (ev σ)) H K:=i' rfl
@[simp ↓] theorem qsc(r:Nat)(args:List Operand):ax S (.callb r f args) dst σ Hr H K=PU r dst (S f) (args.map (ev σ)) H K:=i' rfl
@[simp ↓] theorem qt4(f:Operand)(args:List Operand):aG S (.callv f args) dst σ H K=Ch S (ev σ f) (dst.getD 0) (args.map (ev σ)) H K:=i' rfl
@[simp ↓] theorem qvg(args:List Operand):ax S (.call f args) dst σ Hr H K=YM dst (S f) (args.map (ev σ)) H K:=i' rfl
end
def qoZ(σ:Sg)(t s:Nat)(d:D):upd σ t d s=if s=t then d else σ s:=i' rfl
def X7(σ:Sg)(t:Nat)(d:D):fq σ (some t) d=upd σ t d:=i' rfl
def qlE(σ:Sg)(d:D):fq σ none d=σ:=i' rfl
def qlF(H:ab)(t s:Nat)(d:Option Res):ai H t d s=if s=t then d else H s:=i' rfl
attribute [simp] X7 qlE qlF
@[simp] theorem qdF(σ:Sg)(t:Nat):ev σ (.tmp t)=σ t:=i' rfl
@[simp] theorem qiy(σ:Sg)(x:Value):ev σ (.const x)=qG x:=i' rfl
@[simp] theorem quP:ev σ (.func f)= .clo f []:=i' rfl
@[simp] theorem quQ(b:Bool):qG (.bool b)= .v (.bool b):=i' rfl
@[simp] theorem qoX(k:IntKind)(n:Int):qG (.int k n)= .v (.int k n):=i' rfl
@[simp] theorem qxP:qG (.string s)= .v (.string s):=i' rfl
@[simp] theorem qxQ(a:Option Addr):qG (.pointer a)= .v (.pointer a):=i' rfl
@[simp] theorem qrI(a:Option Addr)(l c:Nat):qG (.slice a l c)= .v (.slice a l c):=i' rfl
def qpR(σ:Sg):iw [] σ=λ_=> .any:=i' rfl
def qmI(t:Nat)(l:List Nat)(σ:Sg):iw (t::l) σ=upd (iw l σ) t (σ t):=i' rfl
@[simp] theorem qvU:jl [] H=λ_=>none:=i' rfl
@[simp] theorem qjt(t:Nat)(l:List Nat)(H:ab):jl (t::l) H=ai (jl l H) t (H t):=i' rfl
@[simp] theorem qvp:da i=none:=i' rfl
@[simp] theorem qvJ:ra [] σ=True:=i' rfl
@[simp] theorem qsE(l:List (Nat×D)):ra ((t,d)::l) σ=(XK (σ t) d/\ra l σ):=i' rfl
@[simp] theorem qvz:vJ [] H=True:=i' rfl
@[simp] theorem qsu(d:Res)(l:List (Nat×Res)):vJ ((t,d)::l) H=((H t=some d\/isNilRow d)/\vJ l H):=i' rfl
@[simp] theorem sub_self(d:D):XK d d=True:=by
 cases d<;>simp[XK]
@[simp] theorem qxW(a:D):XK a (.v x)=(a= .v x):=i' rfl
@[simp] theorem qo4(a:D)(x:List D):XK a (.list n x)=(a= .list n x\/(a= .v (.slice none 0 0)/\x=[])):=i' rfl
@[simp] theorem qrN(y:Value):XK (.own i x) (.own j y)=(x=y):=by simp[XK]
@[simp] theorem qo3(y:Value):XK (.v x) (.own j y)=(x=y):=by simp[XK]
@[simp] theorem qzn:Kx true sz cs off= .agg ((cs.drop off).take sz):=i' rfl
@[simp] theorem qzo:Kx false sz cs off=(cs[off]?).getD .any:=i' rfl
@[simp ↓] theorem qr5(rs:List ak)(K:D->ab->Prop):vQ rs K .norm σ H=yW rs σ H λds=>K (dI ds) H:=i' rfl
@[simp ↓] theorem qvc(rs:List ak)(K:D->ab->Prop):vQ rs K .ret σ H=yW rs σ H λds=>K (dI ds) H:=i' rfl
@[simp ↓] theorem qvb(K:List D->Prop):yW [] σ H K=K []:=i' rfl
@[simp ↓] theorem qva(r:List ak)(K:List D->Prop):yW (.tmp t::r) σ H K=yW r σ H λds=>K (σ t::ds):=i' rfl
@[simp ↓] theorem qr4(r:List ak)(K:List D->Prop):yW (.cell t agg sz::r) σ H K=JB agg sz (σ t) H λd=>yW r σ H λds=>K (d::ds):=i' rfl
@[simp] theorem qzf:dI [d]=d:=i' rfl
@[simp] theorem qzg:dI []= .tup []:=i' rfl
@[simp] theorem qze(l:List D):dI (d::e::l)= .tup (d::e::l):=i' rfl
@[simp] theorem qzu:D.kn (.v x)=true:=i' rfl
@[simp] theorem qtT:D.cells (.v x)=[.v x]:=i' rfl
@[simp] theorem qvT:D.kn (.agg cs)=true:=i' rfl
@[simp] theorem qow:D.cells (.agg cs)=cs:=i' rfl
@[simp] theorem qsP:D.kn (.list n es)=true:=i' rfl
@[simp] theorem qnp:D.cells (.list n es)=[.list n es]:=i' rfl
@[simp] theorem qvR:D.kn (.own i x)=true:=i' rfl
@[simp] theorem qou:D.cells (.own i x)=[.own i x]:=i' rfl
@[simp] theorem qvQ(k:Nat):D.kn (.sub i v n k o)=true:=i' rfl
@[simp] theorem qot(k:Nat):D.cells (.sub i v n k o)=[.sub i v n k o]:=i' rfl
@[simp] theorem qvS:D.kn (.clo f cs)=true:=i' rfl
@[simp] theorem qov:D.cells (.clo f cs)=[.clo f cs]:=i' rfl
@[simp] theorem qyW(n:Int):mz (.v (.int k n))=some (k,n):=i' rfl
attribute [simp] setAt
@[simp] theorem qwD(n:Int):enc n= .v (.int .i64 n):=rfl
@[simp] theorem qtA(b:Bool):enc b= .v (.bool b):=rfl
@[simp] theorem qwC:enc s= .v (.string s):=rfl
@[simp] theorem qtz{X:Type}[Cod X](l:List X):enc l= .list (Cod.wd X) (l.map enc):=rfl
@[simp] theorem quK:Cod.wd Int=1:=rfl
@[simp] theorem qry:Cod.wd Bool=1:=rfl
@[simp] theorem quJ:Cod.wd ByteArray=1:=rfl
@[simp] theorem qrx{X:Type}[Cod X]:Cod.wd (List X)=1:=rfl
@[congr] theorem qs1(hd:d=d₁):VX d A B=VX d₁ A B:=by subst hd;rfl
@[congr] theorem qon{s:Nat}{b:Bool}(hd:d=d₁):oP s b σ d yes no=oP s b σ d₁ yes no:=by subst hd;rfl
@[congr] theorem qpw(hd:d=d₁):Jv d A B=Jv d₁ A B:=by subst hd;rfl
@[congr] theorem qpN(hr:r=r₁):VP agg sz b off r K=VP agg sz b off r₁ K:=by subst hr;rfl
@[congr] theorem qpM(hr:r=r₁):VO agg sz x n i off r K=VO agg sz x n i off r₁ K:=by subst hr;rfl
@[congr] theorem qpL(hd:d=d₁):JB agg sz d H K=JB agg sz d₁ H K:=by subst hd;rfl
@[congr] theorem qsn(hd:d=d₁):qcn d K=qcn d₁ K:=by subst hd;rfl
@[congr] theorem qoH(hd:d=d₁)(he:e=e₁):NS op d e K=NS op d₁ e₁ K:=by subst hd;subst he;rfl
@[congr] theorem qr1(hd:d=d₁):qiQ d K=qiQ d₁ K:=by subst hd;rfl
@[congr] theorem qtP{o:Option Bool}{o₁:Option Bool}(ho:o=o₁):Zq o K=Zq o₁ K:=by subst ho;rfl
@[congr] theorem qtO(hd:d=d₁)(he:e=e₁):qc2 op d e K=qc2 op d₁ e₁ K:=by subst hd;subst he;rfl
@[congr] theorem qts{o:Option Bool}{o₁:Option Bool}(ho:o=o₁):qcU neg o K=qcU neg o₁ K:=by subst ho;rfl
@[congr] theorem qsm(hd:d=d₁):qfn d K=qfn d₁ K:=by subst hd;rfl
@[congr] theorem qqH(hd:d=d₁):qa6 k d K=qa6 k d₁ K:=by subst hd;rfl
@[congr] theorem qoq(hd:d=d₁):EC off d K=EC off d₁ K:=by subst hd;rfl
@[congr] theorem qol{k:Int}(hr:r=r₁):M7 n k id x r K=M7 n k id x r₁ K:=by subst hr;rfl
@[congr] theorem qok{i:D}(hi:i=i₁)(hd:d=d₁):EA n i d H K=EA n i₁ d₁ H K:=by subst hi;subst hd;rfl
@[congr] theorem qpj{i:D}(hi:i=i₁)(hd:d=d₁):ZR i d K=ZR i₁ d₁ K:=by subst hi;subst hd;rfl
@[congr] theorem qtj{o:Option D}{o₁:Option D}(ho:o=o₁):qgu o K=qgu o₁ K:=by subst ho;rfl
@[congr] theorem qti(hd:d=d₁):qgt d i K=qgt d₁ i K:=by subst hd;rfl
@[congr] theorem qsO(hr:r=r₁):qfK x r K=qfK x r₁ K:=by subst hr;rfl
@[congr] theorem qsN(hd:d=d₁):Su d H K=Su d₁ H K:=by subst hd;rfl
@[congr] theorem qub(hr:r=r₁):qhc x r K=qhc x r₁ K:=by subst hr;rfl
@[congr] theorem qua(hd:d=d₁):qki d H K=qki d₁ H K:=by subst hd;rfl
@[congr] theorem qpi(hd:d=d₁):UO d K=UO d₁ K:=by subst hd;rfl
@[congr] theorem qsv(hd:d=d₁)(he:e=e₁):qft mx d e K=qft mx d₁ e₁ K:=by subst hd;subst he;rfl
@[congr] theorem qrR{K:List D->Prop}(hr:r=r₁):qbO n lo hi x r K=qbO n lo hi x r₁ K:=by subst hr;rfl
@[congr] theorem qn4{y:D}{K:D->ab->Prop}(hy:y=y₁)(hr:r=r₁):D2 sz id b off y r H K=D2 sz id b off y₁ r₁ H K:=by subst hy;subst hr;rfl
@[congr] theorem qn3{y:D}{K:D->ab->Prop}(hy:y=y₁)(hr:r=r₁):D1 sz id x n i off y r H K=D1 sz id x n i off y₁ r₁ H K:=by subst hy;subst hr;rfl
@[congr] theorem qn2{y:D}{K:D->ab->Prop}(hd:d=d₁)(hy:y=y₁):LQ sz d y H K=LQ sz d₁ y₁ H K:=by subst hd;subst hy;rfl
@[congr] theorem quk{K:D->ab->Prop}(hes2:es2=es2₁)(hr:r=r₁):qhq el n bytes id x es2 r H K=qhq el n bytes id x es2₁ r₁ H K:=by subst hes2;subst hr;rfl
@[congr] theorem qtR{z:D}{K:D->ab->Prop}(hz:z=z₁)(hr:r=r₁):qg8 n id x n' lo hi z r H K=qg8 n id x n' lo hi z₁ r₁ H K:=by subst hz;subst hr;rfl
@[congr] theorem qtQ{z:D}{K:D->ab->Prop}(hz:z=z₁)(hd:d=d₁):qkb n z d H K=qkb n z₁ d₁ H K:=by subst hz;subst hd;rfl
@[congr] theorem qtM{K:D->ab->Prop}(hsrc:src=src₁)(hr:r=r₁):qgW n id x n' lo hi src r H K=qgW n id x n' lo hi src₁ r₁ H K:=by subst hsrc;subst hr;rfl
@[congr] theorem qtL{K:D->ab->Prop}(hd:d=d₁)(hsrc:src=src₁):qj7 n d src H K=qj7 n d₁ src₁ H K:=by subst hd;subst hsrc;rfl
@[congr] theorem qtb{K:Sg->ab->Prop}(hr:r=r₁):qgg t x id σ r H K=qgg t x id σ r₁ H K:=by subst hr;rfl
@[congr] theorem qta{K:Sg->ab->Prop}(hr:r=r₁):qgf t n x id n' lo hi σ r H K=qgf t n x id n' lo hi σ r₁ H K:=by subst hr;rfl
@[congr] theorem qs8{K:Sg->ab->Prop}(hd:d=d₁):qge t n d σ H K=qge t n d₁ σ H K:=by subst hd;rfl
@[congr] theorem qrZ(hd:d=d₁):qiN d K=qiN d₁ K:=by subst hd;rfl
@[congr] theorem qrQ{K:D->ab->Prop}(hd:d=d₁):qd0 t d H K=qd0 t d₁ H K:=by subst hd;rfl
@[congr] theorem qrV{K:D->ab->Prop}(hr:r=r₁):qd5 id b r H K=qd5 id b r₁ H K:=by subst hr;rfl
@[congr] theorem qrU{K:D->ab->Prop}(hd:d=d₁):qiJ d H K=qiJ d₁ H K:=by subst hd;rfl
@[congr] theorem qul{K:D->ab->Prop}(hdst:dst=dst₁)(hd:d=d₁)(hes2:es2=es2₁):qkq dst el n b d es2 H K=qkq dst₁ el n b d₁ es2₁ H K:=by subst hdst;subst hd;subst hes2;rfl
@[congr] theorem qui{r:Nat}{q:Option Res}{K:D->ab->Prop}{q₁:Option Res}(hes2:es2=es2₁)(hq:q=q₁):qhn el n b r x es2 q H K=qhn el n b r x es2₁ q₁ H K:=by subst hes2;subst hq;rfl
@[congr] theorem quh{r:Nat}{K:D->ab->Prop}(hd:d=d₁)(hes2:es2=es2₁):qkp r el n b d es2 H K=qkp r el n b d₁ es2₁ H K:=by subst hd;subst hes2;rfl
@[congr] theorem qpa{r:Nat}{y:D}{K:D->ab->Prop}(hd:d=d₁)(hy:y=y₁):UJ r sz d y H K=UJ r sz d₁ y₁ H K:=by subst hd;subst hy;rfl
@[congr] theorem quj{K:D->ab->Prop}(hdst:dst=dst₁)(hd:d=d₁)(hes2:es2=es2₁):qho dst el n bytes d es2 H K=qho dst₁ el n bytes d₁ es2₁ H K:=by subst hdst;subst hd;subst hes2;rfl
@[congr] theorem qqP{f:D}{d:Nat}{K:D->ab->Prop}(hf:f=f₁)(hargs:args=args₁):Ch S f d args H K=Ch S f₁ d args₁ H K:=by subst hf;subst hargs;rfl
@[congr] theorem qpd{K:List D->Prop}(h:d=d'):kw n d H K=kw n d' H K:=by subst h;rfl
@[congr] theorem qrS{K:List D->Prop}(h:d=d'):vO n d H K=vO n d' H K:=by subst h;rfl
@[congr] theorem qoJ{s s':Spc}{d:Nat}{ds':List D}{K:D->ab->Prop}(h:s=s')(h':ds=ds'):s.pt d ds H K=s'.pt d ds' H K:=by subst h;subst h';rfl
@[congr] theorem qqE{lo hi lo' hi':Option (Option (IntKind×Int))}{K:Nat->Nat->Prop}(h1:lo=lo')(h2:hi=hi')(h3:n=n'):pW lo hi n K=pW lo' hi' n' K:=by subst h1;subst h2;subst h3;rfl
end Go.Gv
namespace Go.Gv
open Cod (enc dec)
variable {dq:Prop}
@[simp] theorem qp9(H:ab)(x y:Value):FrzTo H (.v x) (.v y)=(x=y):=by
 refine propext ⟨λh=>?_,λh=>h ▸ .same _⟩;cases h;rfl
@[simp] theorem qs7(H:ab)(d:D):FrzTo H d d=True:=propext ⟨λ_=>trivial,λ_=> .same d⟩
@[simp] theorem qwd(H:ab)(n:Nat)(es:List D):FrzTo H (.v (.slice none 0 0)) (.list n es)=(es=[]):=by
 refine propext ⟨λh=>?_,λh=>h ▸ .nil n⟩;cases h;rfl
def qjH{H:ab}{a b a' b':D}(h1:FrzTo H a a')(h2:FrzTo H b b'):FrzTo H (.tup [a,b]) (.tup [a',b']):=
 .tup rfl λk c c' hc hc'=>by
  match k with
  | 0=>simp at hc hc';subst hc;subst hc';exact h1
  | 1=>simp at hc hc';subst hc;subst hc';exact h2
  |k+2=>simp at hc
def qjG{H:ab}{a b c a' b' c':D}(h1:FrzTo H a a')(h2:FrzTo H b b')(h3:FrzTo H c c'):FrzTo H (.tup [a,b,c]) (.tup [a',b',c']):=
 .tup rfl λk d d' hc hc'=>by
  match k with
  | 0=>simp at hc hc';subst hc;subst hc';exact h1
  | 1=>simp at hc hc';subst hc;subst hc';exact h2
  | 2=>simp at hc hc';subst hc;subst hc';exact h3
  |k+3=>simp at hc
section
variable {P:Program}{S:Nat->Spc}{f:Nat}{im:List Nat}{cc:CC}{rs:List ak}{N:Nat}
end
end Go.Gv
