/- A part of the framework and of the walks: T10. -/
import Derived.Test.YtphdikcommfnhaaGreatDoorGf16
set_option linter.unusedSimpArgs false
set_option linter.unusedVariables false
set_option linter.unusedSectionVars false

namespace Go.Gv
open Cod (enc dec)
variable {b b' bytes el el' f g hi i id j len lo n n' n'' o off sz t:Nat}{H:ab}{K:D->Prop}{dst dst₁ rt:Option Nat}{v x x':Value}{L d d' d₁ e e₁ f₁ i₁ y₁ z₁:D}{k k' kd:IntKind}{σ:Sg}{args args₁ caps cells cs ds es es2 es2₁ src src₁:List D}{agg mx neg:Bool}{r r₁:Option Res}{c y:Operand}{a h l:Int}{s:ByteArray}{z:List Value}{no yes:Sg->Prop}{A B p:Prop}{op:BinOp}{ks:List Zo}{S:Nat->Spc}{ps xs:List Operand}{s₁:Spc}
section
variable {S:Nat->Spc}{K:Ex->Sg->ab->Prop}{σ:Sg}{H:ab}
def TL(S:Nat->Spc)(b:CC)(K:Ex->Sg->ab->Prop):Ex->Sg->ab->Prop:=fun e σ H=>match e with
 | .norm=>vc S b K σ H
 | e=>K e σ H
def Zg(id:Nat)(K:Ex->Sg->ab->Prop):Ex->Sg->ab->Prop:=fun e σ H=>match e with
 | .ex i=>if i=id then K .norm σ H else K (.ex i) σ H
 | e=>K e σ H
def Yy(inv:qkl)(x:inv.X)(K:Ex->Sg->ab->Prop):Ex->Sg->ab->Prop:=fun e σ' H'=>match e with
 | .norm=>∃y,inv.P y/\Wk σ' H' (inv.s y) (inv.h y)/\inv.m y < inv.m x
 | e=>K e σ' H'
def Rt(d:D)(A B:Prop):Prop:=match d with
 | .v (.bool t)=>(t=true->A)/\(t=false->B)
 | _=>False
@[simp ↓] theorem qjB:vc S .skip K σ H=K .norm σ H:=id rfl
@[simp ↓] theorem qhk(l:List CI):vc S (.reg l) K σ H=Dp S l σ H (K .norm):=id rfl
@[simp ↓] theorem qtv(p l:List CI):vc S (.regd p l) K σ H=mq S p σ (bp p H) H fun σ H=>Dp S l σ H (K .norm):=id rfl
@[simp ↓] theorem RZ(a b:CC):vc S (.seq a b) K σ H=vc S a (TL S b K) σ H:=id rfl
@[simp ↓] theorem Kr(b:CC):TL S b K .norm σ H=vc S b K σ H:=id rfl
@[simp ↓] theorem qcy(b:CC)(i:Nat):TL S b K (.ex i) σ H=K (.ex i) σ H:=id rfl
@[simp ↓] theorem qjC(b:CC):TL S b K .ret σ H=K .ret σ H:=id rfl
@[simp ↓] theorem qng(c:Operand)(a b:CC):vc S (.ite c a b) K σ H=Rt (ev σ c) (vc S a K σ H) (vc S b K σ H):=id rfl
@[simp] theorem qjF(t:Bool)(A B:Prop):Rt (.v (.bool t)) A B=((t=true->A)/\(t=false->B)):=id rfl
@[simp high] theorem qtx:Rt (.v (.bool true)) A B=A:=by simp[Rt]
@[simp high] theorem qty:Rt (.v (.bool false)) A B=B:=by simp[Rt]
@[simp ↓] theorem O7(id:Nat)(b:CC):vc S (.block id b) K σ H=vc S b (Zg id K) σ H:=_root_.id rfl
@[simp ↓] theorem qjH(id:Nat):Zg id K .norm σ H=K .norm σ H:=_root_.id rfl
@[simp ↓] theorem qcB(id:Nat):Zg id K .ret σ H=K .ret σ H:=_root_.id rfl
@[simp ↓] theorem UJ(id i:Nat):Zg id K (.ex i) σ H=if i=id then K .norm σ H else K (.ex i) σ H:=_root_.id rfl
@[simp ↓] theorem qjG(i:Nat):vc S (.exit i) K σ H=K (.ex i) σ H:=id rfl
@[simp ↓] theorem qvM:vc S .ret K σ H=K .ret σ H:=id rfl
@[simp ↓] theorem qtw(ls lh:List Nat)(c:CC):vc S (.keep ls lh c) K σ H=vc S c K (jv ls σ) (ku lh H):=id rfl
theorem O6(k:Nat)(b:CC):vc S (.loop k b) K σ H=∃inv:qkl,(∃x,inv.P x/\Wk σ H (inv.s x) (inv.h x))/\∀x,inv.P x->vc S b (Yy inv x K) (inv.s x) (inv.h x):=id rfl
theorem qcA(k:Nat)(c:CC):vc S (.cut k c) K σ H=∃ (σ':Sg) (H':ab),Wk σ H σ' H'/\vc S c K σ' H':=id rfl
@[simp ↓] theorem qjE(inv:qkl)(x:inv.X):Yy inv x K .norm σ H=∃y,inv.P y/\Wk σ H (inv.s y) (inv.h y)/\inv.m y < inv.m x:=id rfl
@[simp ↓] theorem qjD(inv:qkl)(x:inv.X):Yy inv x K .ret σ H=K .ret σ H:=id rfl
@[simp ↓] theorem qcz(inv:qkl)(x:inv.X)(i:Nat):Yy inv x K (.ex i) σ H=K (.ex i) σ H:=id rfl
end
def nt(s:Nat)(b:Bool)(σ:Sg)(d:D)(yes no:Sg->Prop):Prop:=match d with
 | .v (.bool t)=>(t=b->yes (upd σ s (.v (.bool b))))/\(t=(!b)->no (upd σ s (.v (.bool (!b)))))
 | .undef=>no σ
 | _=>False
@[simp high] theorem qwA(s:Nat):nt s true σ (.v (.bool true)) yes no=yes (upd σ s (.v (.bool true))):=by simp[nt]
@[simp high] theorem qwB(s:Nat):nt s true σ (.v (.bool false)) yes no=no (upd σ s (.v (.bool false))):=by simp[nt]
@[simp high] theorem qwC(s:Nat):nt s false σ (.v (.bool true)) yes no=no (upd σ s (.v (.bool true))):=by simp[nt]
@[simp high] theorem qwD(s:Nat):nt s false σ (.v (.bool false)) yes no=yes (upd σ s (.v (.bool false))):=by simp[nt]
@[simp] theorem qwz(s:Nat)(b:Bool):nt s b σ .undef yes no=no σ:=id rfl
@[simp] theorem qwM(s:Nat)(b t:Bool):nt s b σ (.v (.bool t)) yes no=((t=b->yes (upd σ s (.v (.bool b))))/\(t=(!b)->no (upd σ s (.v (.bool (!b)))))):=id rfl
section
variable {S:Nat->Spc}{σ:Sg}{H Hr:ab}
@[simp ↓] theorem qhg(K:Sg->ab->Prop):Dp S [] σ H K=K σ H:=id rfl
@[simp ↓] theorem qi8(K:Sg->ab->Prop)(d:Option Nat)(c:COp)(r:List CI):Dp S (.op d none c::r) σ H K=az S c d σ H fun x H'=>Dp S r (fb σ d x) H' K:=id rfl
@[simp ↓] theorem qvp(K:Sg->ab->Prop)(d:Option Nat)(s:Nat)(b:Bool)(c:COp)(r:List CI):Dp S (.op d (some (s,b)) c::r) σ H K=nt s b σ (σ s) (fun σ=>az S c d σ H fun x H'=>Dp S r (fb σ d x) H' K) (fun σ=>Dp S r (fb σ d .undef) H K):=id rfl
@[simp ↓] theorem qvq(K:Sg->ab->Prop)(r:List CI):Dp S (.frz t n::r) σ H K=GW t n σ H fun σ' H'=>Dp S r σ' H' K:=id rfl
@[simp ↓] theorem qvc(K:Sg->ab->Prop):mq S [] σ Hr H K=K σ H:=id rfl
@[simp ↓] theorem qvd(K:Sg->ab->Prop)(a:Nat)(r:List CI):mq S (.frz a b::r) σ Hr H K=mq S r σ (bp r Hr) H K:=id rfl
@[simp ↓] theorem qwf(K:Sg->ab->Prop)(d:Option Nat)(c:COp)(r:List CI):mq S (.op d none c::r) σ Hr H K=ay S c d σ Hr H fun x H'=>mq S r (fb σ d x) Hr H' K:=id rfl
@[simp ↓] theorem qvb(K:Sg->ab->Prop)(d:Option Nat)(s:Nat)(b:Bool)(c:COp)(r:List CI):mq S (.op d (some (s,b)) c::r) σ Hr H K=nt s b σ (σ s) (fun σ=>ay S c d σ Hr H fun x H'=>mq S r (fb σ d x) Hr H' K) (fun σ=>mq S r (fb σ d .undef) Hr H K):=id rfl
end
def GK(d:D)(A B:Prop):Prop:=match d with
 | .v (.bool t)=>(t=true->A)/\(t=false->B)
 | _=>False
@[simp high] theorem qo2:GK (.v (.bool true)) A B=A:=by simp[GK]
@[simp high] theorem qo3:GK (.v (.bool false)) A B=B:=by simp[GK]
def Rk(agg:Bool)(sz b off:Nat)(r:Option Res)(K:D->Prop):Prop:=match r with
 | some (.box b' cells)=>b'=b/\off+sz<=cells.length/\K (MQ agg sz cells off)
 | _=>False
def Rj(agg:Bool)(sz:Nat)(x:Value)(n i off:Nat)(r:Option Res)(K:D->Prop):Prop:=match r with
 | some (.row x' _ n' es)=>x'=x/\n'=n/\off+sz<=n/\i < es.length/\∀d,es[i]? =some d->K (MQ agg sz d.cells off)
 | _=>False
def GP(agg:Bool)(sz:Nat)(d:D)(H:ab)(K:D->Prop):Prop:=match d with
 | .cptr cs off=>off+sz<=cs.length/\K (MQ agg sz cs off)
 | .bptr id b off=>Rk agg sz b off (H id) K
 | .eptr id x n i off=>Rj agg sz x n i off (H id) K
 | _=>False
@[simp] theorem qpr:GP agg sz (.cptr cs off) H K=(off+sz<=cs.length/\K (MQ agg sz cs off)):=id rfl
@[simp] theorem qps:GP agg sz (.bptr i b off) H K=Rk agg sz b off (H i) K:=id rfl
@[simp] theorem qpq(k:Nat):GP agg sz (.eptr i x n k off) H K=Rj agg sz x n k off (H i) K:=id rfl
@[simp] theorem qpu:Rk agg sz b off (some (.box b' cells)) K=(b'=b/\off+sz<=cells.length/\K (MQ agg sz cells off)):=id rfl
@[simp] theorem qpt:Rj agg sz x n i off (some (.row x' el n' es)) K=(x'=x/\n'=n/\off+sz<=n/\i < es.length/\∀d,es[i]? =some d->K (MQ agg sz d.cells off)):=id rfl
def Yr(d:D)(K:D->Prop):Prop:=match d with
 | .cptr cs off=>K (.cptr cs off)
 | .bptr id b off=>K (.bptr id b off)
 | .eptr id x n i off=>K (.eptr id x n i off)
 | .tape L=>K (.tape L)
 | .clo f caps=>K (.clo f caps)
 | _=>False
@[simp] theorem qse:Yr (.cptr cs off) K=K (.cptr cs off):=id rfl
@[simp] theorem qsf:Yr (.bptr i b off) K=K (.bptr i b off):=id rfl
def KQ(op:BinOp)(d e:D)(K:D->Prop):Prop:=match d,e with
 | .v (.int k a), .v (.int k' b)=>Zs op k k'/\gW op k a b K
 | _,_=>False
@[simp] theorem qdh(op:BinOp)(k k':IntKind)(a b:Int)(K:D->Prop):KQ op (.v (.int k a)) (.v (.int k' b)) K=(Zs op k k'/\gW op k a b K):=id rfl
@[simp] theorem qfy(k k':IntKind):Zs .add k k'=(k=k'):=id rfl
@[simp] theorem qpC:Zs .sub k k'=(k=k'):=id rfl
@[simp] theorem qpH:Zs .mul k k'=(k=k'):=id rfl
@[simp] theorem qpG:Zs .quo k k'=(k=k'):=id rfl
@[simp] theorem qpF:Zs .rem k k'=(k=k'):=id rfl
@[simp] theorem qpI:Zs .and k k'=(k=k'):=id rfl
@[simp] theorem qsN:Zs .or k k'=(k=k'):=id rfl
@[simp] theorem qpE:Zs .shl k k'=True:=id rfl
@[simp] theorem qpD:Zs .shr k k'=True:=id rfl
@[simp ↓] theorem Zj(k:IntKind)(a b:Int)(K:D->Prop):gW .add k a b K=(InR k (a+b)/\K (.v (.int k (a+b)))):=id rfl
@[simp ↓] theorem qle(b:Int):gW .sub k a b K=(InR k (a -b)/\K (.v (.int k (a -b)))):=id rfl
@[simp ↓] theorem qlj(b:Int):gW .mul k a b K=(InR k (a*b)/\K (.v (.int k (a*b)))):=id rfl
@[simp ↓] theorem qli(b:Int):gW .quo k a b K=(b≠0/\InR k (a.tdiv b)/\K (.v (.int k (a.tdiv b)))):=id rfl
@[simp ↓] theorem qlh(b:Int):gW .rem k a b K=(b≠0/\K (.v (.int k (a.tmod b)))):=id rfl
@[simp ↓] theorem qlk(b:Int):gW .and k a b K=K (.v (.int k (UX k a b))):=id rfl
@[simp ↓] theorem qnN(b:Int):gW .or k a b K=K (.v (.int k (qmf k a b))):=id rfl
@[simp ↓] theorem qlg(b:Int):gW .shl k a b K=(0<=b/\K (.v (.int k (Qt k a b)))):=id rfl
@[simp ↓] theorem qlf(b:Int):gW .shr k a b K=(0<=b/\K (.v (.int k (Z6 k a b)))):=id rfl
def qeP(d:D)(K:D->Prop):Prop:=match d with
 | .v (.int _ n)=>K (.v (.string (Utf8.encode n)))
 | _=>False
@[simp] theorem qrQ(n:Int):qeP (.v (.int k n)) K=K (.v (.string (Utf8.encode n))):=id rfl
def UO(o:Option Bool)(K:D->Prop):Prop:=match o with|some t=>K (.v (.bool t))|none=>False
@[simp] theorem qjW(t:Bool)(K:D->Prop):UO (some t) K=K (.v (.bool t)):=id rfl
def Y8(op:BinOp)(d e:D)(K:D->Prop):Prop:=match d,e with
 | .v (.int k a), .v (.int k' b)=>k=k'/\UO (Sp op a b) K
 | .v (.string a), .v (.string b)=>UO (UN op a b) K
 | _,_=>False
@[simp] theorem qjV(op:BinOp)(k k':IntKind)(a b:Int)(K:D->Prop):Y8 op (.v (.int k a)) (.v (.int k' b)) K=(k=k'/\UO (Sp op a b) K):=id rfl
@[simp] theorem qtI(a b:ByteArray):Y8 op (.v (.string a)) (.v (.string b)) K=UO (UN op a b) K:=id rfl
@[simp] theorem qcW(a b:Int):Sp .lss a b=some (decide (a < b)):=id rfl
@[simp] theorem qnt(b:Int):Sp .leq a b=some (decide (a<=b)):=id rfl
@[simp] theorem qnu(b:Int):Sp .gtr a b=some (decide (b < a)):=id rfl
@[simp] theorem qnv(b:Int):Sp .geq a b=some (decide (b<=a)):=id rfl
@[simp] theorem qnq(a b:ByteArray):UN .lss a b=some (Op.bytesLess a.toList b.toList):=id rfl
@[simp] theorem qnr(a b:ByteArray):UN .gtr a b=some (!(Op.bytesLess a.toList b.toList||a.toList==b.toList)):=id rfl
@[simp] theorem qns(a b:ByteArray):UN .geq a b=some (!Op.bytesLess a.toList b.toList):=id rfl
def Y0(neg:Bool)(o:Option Bool)(K:D->Prop):Prop:=match o with
 | some p=>K (.v (.bool (if neg then !p else p)))
 | none=>False
@[simp] theorem qto(p:Bool):Y0 false (some p) K=K (.v (.bool p)):=id rfl
@[simp] theorem qtn(p:Bool):Y0 true (some p) K=K (.v (.bool (!p))):=id rfl
@[simp] theorem qvI(k:Zo)(a b:D):qjw false [k] a b=Zt k a b:=id rfl
@[simp] theorem qvH(a b:List D):qjw true ks (.agg a) (.agg b)=qf1 ks a b:=id rfl
@[simp] theorem qvG:qf1 [] [] []=some true:=id rfl
@[simp] theorem qvF(k:Zo)(a b:D)(as bs:List D):qf1 (k::ks) (a::as) (b::bs)=(Zt k a b).bind fun p=>(qf1 ks as bs).bind fun q=>some (p && q):=id rfl
@[simp] theorem qvK(b:Int):Zt .int (.v (.int k a)) (.v (.int k' b))=if k=k' then some (decide (a=b))else none:=id rfl
@[simp] theorem qvJ(a b:ByteArray):Zt .str (.v (.string a)) (.v (.string b))=some (decide (a=b)):=id rfl
@[simp] theorem qvL(a b:Bool):Zt .bool (.v (.bool a)) (.v (.bool b))=some (decide (a=b)):=id rfl
def Vk(d e:D)(K:D->Prop):Prop:=match d,e with
 | .v (.string a), .v (.string b)=>a.size+b.size<=1000000000/\K (.v (.string (a++b)))
 | _,_=>False
@[simp] theorem qoG(a b:ByteArray):Vk (.v (.string a)) (.v (.string b)) K=(a.size+b.size<=1000000000/\K (.v (.string (a++b)))):=id rfl
def qff(d:D)(K:D->Prop):Prop:=match d with
 | .v (.bool b)=>K (.v (.bool (!b)))
 | _=>False
@[simp] theorem qsa(b:Bool):qff (.v (.bool b)) K=K (.v (.bool (!b))):=id rfl
def WJ(k:IntKind)(d:D)(K:D->Prop):Prop:=match d with
 | .v (.int _ n)=>K (.v (.int k (k.wrap n)))
 | _=>False
@[simp] theorem qqy(n:Int):WJ k (.v (.int k' n)) K=K (.v (.int k (k.wrap n))):=id rfl
def TJ(n id:Nat)(x:Value)(lo hi:Option (Option (IntKind×Int)))(r:Option Res)(K:D->Prop):Prop:=match r with
 | some (.row x' _ n' es)=>x'=x/\n'=n/\uD lo hi es.length fun l h=>K (.sub id x n l h)
 | _=>False
@[simp] theorem qlZ(lo hi:Option (Option (IntKind×Int))):TJ n i x lo hi (some (.row x' el n' es)) K=(x'=x/\n'=n/\uD lo hi es.length fun l h=>K (.sub i x n l h)):=id rfl
@[simp] theorem qtE(K:Nat->Nat->Prop):uD (some (some (k,l))) none len K=(0<=l/\l<=len/\K l.toNat len):=id rfl
def IU(n:Nat)(d:D)(lo hi:Option (Option (IntKind×Int)))(H:ab)(K:D->Prop):Prop:=match d with
 | .list n' es=>n'=n/\(match lo,hi with
   | none,none=>K (.list n es)
   | some (some (_,l)),none=>0<=l/\l<=es.length/\K (.list n (es.drop l.toNat))
   | none,some (some (_,h))=>0<=h/\h<=es.length/\K (.list n (es.take h.toNat))
   | some (some (_,l)),some (some (_,h))=>0<=l/\l<=h/\h<=es.length/\K (.list n ((es.take h.toNat).drop l.toNat))
   | _,_=>False)
 | .own id x=>TJ n id x lo hi (H id) K
 | .sub id x n' a b=>n'=n/\uD lo hi (b -a) fun l h=>K (.sub id x n (a+l) (a+h))
 | .v (.slice none 0 0)=>uD lo hi 0 fun _ _=>K (.v (.slice none 0 0))
 | _=>False
@[simp] theorem qlY(lo hi:Option (Option (IntKind×Int))):IU n (.own i x) lo hi H K=TJ n i x lo hi (H i) K:=id rfl
@[simp] theorem qkG:IU n (.list n' es) (some (some (k,l))) none H K=(n'=n/\0<=l/\l<=es.length/\K (.list n (es.drop l.toNat))):=id rfl
@[simp] theorem qkF:IU n (.list n' es) none (some (some (k,l))) H K=(n'=n/\0<=l/\l<=es.length/\K (.list n (es.take l.toNat))):=id rfl
def HW(d:D)(lo hi:Option (Option (IntKind×Int)))(K:D->Prop):Prop:=match d with
 | .v (.string s)=>(match lo,hi with
   | none,none=>K (.v (.string (s.extract 0 s.size)))
   | some (some (_,l)),none=>0<=l/\l<=s.size/\K (.v (.string (s.extract l.toNat s.size)))
   | none,some (some (_,h))=>0<=h/\h<=s.size/\K (.v (.string (s.extract 0 h.toNat)))
   | some (some (_,l)),some (some (_,h))=>0<=l/\l<=h/\h<=s.size/\K (.v (.string (s.extract l.toNat h.toNat)))
   | _,_=>False)
 | _=>False
@[simp] theorem qik:HW (.v (.string s)) (some (some (k,l))) none K=(0<=l/\l<=s.size/\K (.v (.string (s.extract l.toNat s.size)))):=id rfl
@[simp] theorem qil:HW (.v (.string s)) (some (some (k,l))) (some (some (k',h))) K=(0<=l/\l<=h/\h<=s.size/\K (.v (.string (s.extract l.toNat h.toNat)))):=id rfl
def CO(off:Nat)(d:D)(K:D->Prop):Prop:=match d with
 | .cptr cs o=>K (.cptr cs (o+off))
 | .bptr id b o=>K (.bptr id b (o+off))
 | .eptr id x n i o=>K (.eptr id x n i (o+off))
 | _=>False
@[simp] theorem qm5:CO off (.cptr cs o) K=K (.cptr cs (o+off)):=id rfl
@[simp] theorem qm6:CO off (.bptr i b o) K=K (.bptr i b (o+off)):=id rfl
@[simp] theorem qm4(k:Nat):CO off (.eptr i x n k o) K=K (.eptr i x n k (o+off)):=id rfl
def qfY(agg:Bool)(sz off:Nat)(d:D)(K:D->Prop):Prop:=match d with
 | .agg cs=>off+sz<=cs.length/\K (MQ agg sz cs off)
 | _=>False
@[simp] theorem qtg:qfY agg sz off (.agg cs) K=(off+sz<=cs.length/\K (MQ agg sz cs off)):=id rfl
def J3(n:Nat)(k:Int)(id:Nat)(x:Value)(r:Option Res)(K:D->Prop):Prop:=match r with
 | some (.row x' _ n' es)=>x'=x/\n'=n/\0<=k/\k < es.length/\K (.eptr id x n k.toNat 0)
 | _=>False
def CL(n:Nat)(i d:D)(H:ab)(K:D->Prop):Prop:=match i with
 | .v (.int _ k)=>match d with
   | .list n' es=>n'=n/\0<=k/\k < es.length/\∀d,es[k.toNat]? =some d->K (.cptr d.cells 0)
   | .own id x=>J3 n k id x (H id) K
   | .sub id x n' lo hi=>n'=n/\0<=k/\k < (hi -lo:Nat)/\K (.eptr id x n (lo+k.toNat) 0)
   | _=>False
 | _=>False
@[simp] theorem qmK(k:Int):CL n (.v (.int kd k)) (.sub i x n' lo hi) H K=(n'=n/\0<=k/\k < (hi -lo:Nat)/\K (.eptr i x n (lo+k.toNat) 0)):=id rfl
@[simp] theorem qmM(k:Int):CL n (.v (.int kd k)) (.list n' es) H K=(n'=n/\0<=k/\k < es.length/\∀d,es[k.toNat]? =some d->K (.cptr d.cells 0)):=id rfl
@[simp] theorem qmL(k:Int):CL n (.v (.int kd k)) (.own i x) H K=J3 n k i x (H i) K:=id rfl
@[simp] theorem qmN(k:Int):J3 n k i x (some (.row x' el n' es)) K=(x'=x/\n'=n/\0<=k/\k < es.length/\K (.eptr i x n k.toNat 0)):=id rfl
def Vj(i d:D)(K:D->Prop):Prop:=match i with
 | .v (.int _ k)=>match d with
   | .v (.string s)=>0<=k/\k < s.size/\∀c,s.data[k.toNat]? =some c->K (.v (.int .u8 c.toNat))
   | _=>False
 | _=>False
@[simp] theorem qoF(k:Int):Vj (.v (.int kd k)) (.v (.string s)) K=(0<=k/\k < s.size/\∀c,s.data[k.toNat]? =some c->K (.v (.int .u8 c.toNat))):=id rfl
def qcs(o:Option D)(K:D->Prop):Prop:=match o with
 | some d=>K d
 | none=>False
def qcr(d:D)(i:Nat)(K:D->Prop):Prop:=match d with
 | .tup ds=>qcs ds[i]? K
 | _=>False
@[simp] theorem qti:qcr (.tup ds) i K=qcs ds[i]? K:=id rfl
@[simp] theorem qtj:qcs (some d) K=K d:=id rfl
def qbO(x:Value)(r:Option Res)(K:D->Prop):Prop:=match r with
 | some (.row x' _ _ es)=>x'=x/\((es.length:Int)<=9223372036854775807->K (.v (.int .i64 es.length)))
 | _=>False
def Rr(d:D)(H:ab)(K:D->Prop):Prop:=match d with
 | .list _ es=>(es.length:Int)<=9223372036854775807->K (.v (.int .i64 es.length))
 | .own id x=>qbO x (H id) K
 | .v (.slice _ n _)=>K (.v (.int .i64 n))
 | .sub _ _ _ lo hi=>((hi -lo:Nat):Int)<=9223372036854775807->K (.v (.int .i64 (hi -lo:Nat)))
 | _=>False
@[simp] theorem qsE:Rr (.list n es) H K=((es.length:Int)<=9223372036854775807->K (.v (.int .i64 es.length))):=id rfl
@[simp] theorem qsC:Rr (.own i x) H K=qbO x (H i) K:=id rfl
@[simp] theorem qpv(a:Option Addr)(c:Nat):Rr (.v (.slice a n c)) H K=K (.v (.int .i64 n)):=id rfl
@[simp high] theorem qsD:Rr (.v (.slice none 0 0)) H K=K (.v (.int .i64 0)):=id rfl
@[simp] theorem qsF:qbO x (some (.row x' el n es)) K=(x'=x/\((es.length:Int)<=9223372036854775807->K (.v (.int .i64 es.length)))):=id rfl
def qc2(x:Value)(r:Option Res)(K:D->Prop):Prop:=match r with
 | some (.row x' _ n es)=>x'=x/\n=1/\qho es=true/\K (.v (.string (qj1 es)))
 | _=>False
@[simp] theorem qua:qc2 x (some (.row x' el n es)) K=(x'=x/\n=1/\qho es=true/\K (.v (.string (qj1 es)))):=id rfl
def qgm(d:D)(H:ab)(K:D->Prop):Prop:=match d with
 | .own i x=>qc2 x (H i) K
 | .v (.slice none 0 0)=>K (.v (.string ⟨#[]⟩))
 | _=>False
@[simp] theorem qt9:qgm (.own i x) H K=qc2 x (H i) K:=id rfl
def Qr(d:D)(K:D->Prop):Prop:=match d with
 | .v (.string s)=>(s.size:Int)<=9223372036854775807->K (.v (.int .i64 s.size))
 | _=>False
@[simp] theorem qoE:Qr (.v (.string s)) K=((s.size:Int)<=9223372036854775807->K (.v (.int .i64 s.size))):=id rfl
def qby(mx:Bool)(d e:D)(K:D->Prop):Prop:=match d,e with
 | .v (.int k a), .v (.int k' b)=>k=k'/\K (.v (.int k (if mx then max a b else min a b)))
 | _,_=>False
@[simp] theorem qst(b:Int):qby mx (.v (.int k a)) (.v (.int k' b)) K=(k=k'/\K (.v (.int k (if mx then max a b else min a b)))):=id rfl
@[simp ↓] theorem qlc(K:List D->Prop):kj σ [] cs K=K cs:=id rfl
@[simp ↓] theorem qj2(x:Operand)(r:List (Nat×Nat×Operand))(K:List D->Prop):kj σ ((off,sz,x)::r) cs K=((ev σ x).kn=true/\(ev σ x).cells.length=sz/\kj σ r (setAt cs off (ev σ x).cells) K):=id rfl
@[simp] theorem qkL:lr n []=True:=id rfl
@[simp] theorem qiP(r:List D):lr n (d::r)=(d.kn=true/\d.cells.length=n/\lr n r):=id rfl
def XP(n lo hi:Nat)(x:Value)(r:Option Res)(K:List D->Prop):Prop:=match r with
 | some (.row x' _ n'' es)=>x'=x/\n''=n/\K ((es.take hi).drop lo)
 | _=>False
@[simp] theorem qrE(K:List D->Prop):XP n lo hi x (some (.row x' el n' es)) K=(x'=x/\n'=n/\K ((es.take hi).drop lo)):=id rfl
@[simp] theorem quS(K:List D->Prop):mJ n (.sub i x n' lo hi) H K=(n'=n/\XP n lo hi x (H i) K):=by
 simp only[mJ]
 cases H i with
 | none=>simp[XP]
 | some r=>cases r <;> simp[XP,and_left_comm]
@[simp] theorem qrF(K:List D->Prop):uM n (.list n' es) H K=(n'=n/\K es):=id rfl
@[simp] theorem qrG(K:List D->Prop):uM n (.v (.string s)) H K=(n=1/\K (Ff s)):=id rfl
def qsu(t el n bytes:Nat)(agg:Bool)(z:List Value)(l c:Option (IntKind×Int))(H:ab)(K:D->ab->Prop):Prop:=match l,c with
 | some (_,l),some (_,c)=>0<=l/\l<=c/\bytes*c<=140737488355328/\c<=140737488355328/\∀x,K (.own t x) (ah H t (some (.row x el n (List.replicate l.toNat (if agg then .agg (z.map vy)else vy (z.headD (.bool false)))))))
 | _,_=>False
@[simp] theorem qvn(c:Int)(K:D->ab->Prop):qsu t el n bytes agg z (some (k,l)) (some (k',c)) H K=(0<=l/\l<=c/\bytes*c<=140737488355328/\c<=140737488355328/\∀x,K (.own t x) (ah H t (some (.row x el n (List.replicate l.toNat (if agg then .agg (z.map vy)else vy (z.headD (.bool false)))))))):=id rfl
def B4(sz id b off:Nat)(y:D)(r:Option Res)(H:ab)(K:D->ab->Prop):Prop:=match r with
 | some (.box b' cells)=>b'=b/\off+sz<=cells.length/\K .undef (ah H id (some (.box b' (setAt cells off y.cells))))
 | _=>False
def B3(sz id:Nat)(x:Value)(n i off:Nat)(y:D)(r:Option Res)(H:ab)(K:D->ab->Prop):Prop:=match r with
 | some (.row x' el n' es)=>x'=x/\n'=n/\0 < n/\off+sz<=n/\i < es.length/\∀d,es[i]? =some d->
    K .undef (ah H id (some (.row x' el n' (es.set i (if off=0/\sz=n then y else .agg (setAt d.cells off y.cells))))))
 | _=>False
def IR(sz:Nat)(d y:D)(H:ab)(K:D->ab->Prop):Prop:=match d with
 | .bptr id b off=>B4 sz id b off y (H id) H K
 | .eptr id x n i off=>B3 sz id x n i off y (H id) H K
 | _=>False
@[simp] theorem qlR(y:D)(K:D->ab->Prop):IR sz (.bptr i b off) y H K=B4 sz i b off y (H i) H K:=id rfl
@[simp] theorem qlQ(k:Nat)(y:D)(K:D->ab->Prop):IR sz (.eptr i x n k off) y H K=B3 sz i x n k off y (H i) H K:=id rfl
@[simp] theorem qlT(y:D)(K:D->ab->Prop):B4 sz i b off y (some (.box b' cells)) H K=(b'=b/\off+sz<=cells.length/\K .undef (ah H i (some (.box b' (setAt cells off y.cells))))):=id rfl
@[simp] theorem qlS(k:Nat)(y:D)(K:D->ab->Prop):B3 sz i x n k off y (some (.row x' el n' es)) H K=(x'=x/\n'=n/\0 < n/\off+sz<=n/\k < es.length/\∀d,es[k]? =some d->
 K .undef (ah H i (some (.row x' el n' (es.set k (if off=0/\sz=n then y else .agg (setAt d.cells off y.cells))))))):=id rfl
def qdl(el n bytes id:Nat)(x:Value)(es2:List D)(r:Option Res)(H:ab)(K:D->ab->Prop):Prop:=match r with
 | some (.row x' el' n' es)=>x'=x/\el'=el/\n'=n/\(es.length+es2.length) *bytes<=140737488355328/\es.length+es2.length<=140737488355328/\∀v,K (.own id v) (ah H id (some (.row v el n (es++es2))))
 | _=>False
def qun(el n bytes id:Nat)(x:Value)(n' lo hi:Nat)(es2:List D)(r:Option Res)(H:ab)(K:D->ab->Prop):Prop:=match r with
 | some (.row x' el' n'' es)=>x'=x/\el'=el/\n'=n/\n''=n/\lo=0/\(hi+es2.length) *bytes<=140737488355328/\hi+es2.length<=140737488355328/\∀v,K (.own id v) (ah H id (some (.row v el n (es.take hi++es2))))
 | _=>False
def qtH(n id:Nat)(x:Value)(src:List D)(r:Option Res)(H:ab)(K:D->ab->Prop):Prop:=match r with
 | some (.row x' el n' es)=>x'=x/\n'=n/\K (.v (.int .i64 (min src.length es.length:Nat))) (ah H id (some (.row x' el n' (src.take es.length++es.drop src.length))))
 | _=>False
def qcR(n id:Nat)(x:Value)(n' lo hi:Nat)(src:List D)(r:Option Res)(H:ab)(K:D->ab->Prop):Prop:=match r with
 | some (.row x' el n'' es)=>x'=x/\n'=n/\n''=n/\K (.v (.int .i64 (min src.length (hi -lo):Nat))) (ah H id (some (.row x' el n'' (es.take lo++src.take (hi -lo) ++es.drop (lo+min src.length (hi -lo))))))
 | _=>False
def qgb(n:Nat)(d:D)(src:List D)(H:ab)(K:D->ab->Prop):Prop:=match d with
 | .own id x=>qtH n id x src (H id) H K
 | .sub id x n' lo hi=>qcR n id x n' lo hi src (H id) H K
 | _=>False
@[simp] theorem qtF(K:D->ab->Prop):qgb n (.sub i x n' lo hi) src H K=qcR n i x n' lo hi src (H i) H K:=id rfl
@[simp] theorem qtG(K:D->ab->Prop):qcR n i x n' lo hi src (some (.row x' el n'' es)) H K=(x'=x/\n'=n/\n''=n/\K (.v (.int .i64 (min src.length (hi -lo):Nat))) (ah H i (some (.row x' el n'' (es.take lo++src.take (hi -lo) ++es.drop (lo+min src.length (hi -lo))))))):=id rfl
@[simp] theorem quH:PJ false z=vy (z.headD (.bool false)):=id rfl
def qce(t:Nat)(x:Value)(id:Nat)(σ:Sg)(r:Option Res)(H:ab)(K:Sg->ab->Prop):Prop:=match r with
 | some (.row x' _ n' es)=>x'=x/\K (YY id x (.list n' es) σ) (ah H id none)
 | _=>False
def qte(t b off:Nat)(id:Nat)(σ:Sg)(r:Option Res)(H:ab)(K:Sg->ab->Prop):Prop:=match r with
 | some (.box b' cs)=>b'=b/\K (upd σ t (.cptr cs off)) (ah H id none)
 | _=>False
def qs5(t n:Nat)(x:Value)(id n' lo hi:Nat)(σ:Sg)(r:Option Res)(H:ab)(K:Sg->ab->Prop):Prop:=match r with
 | some (.row x' el n'' es)=>x'=x/\n'=n''/\(if n=0 then lo=0/\∀v,K (upd σ t (.own id v)) (ah H id (some (.row v el n'' (es.take hi))))else K (upd σ t (.list n'' ((es.take hi).drop lo))) (ah H id none))
 | _=>False
def qfU(t n:Nat)(d:D)(σ:Sg)(H:ab)(K:Sg->ab->Prop):Prop:=match d with
 | .own id x=>qce t x id σ (H id) H K
 | .bptr id b off=>qte t b off id σ (H id) H K
 | .v (.slice none 0 0)=>K (upd σ t (.list n [])) H
 | .sub id x n' lo hi=>qs5 t n x id n' lo hi σ (H id) H K
 | .agg cs=>FU cs H fun cs' H'=>K (upd σ t (.agg cs')) H'
 | _=>K σ H
@[simp ↓] theorem qwF(K:Sg->ab->Prop):GW t n σ H K=qfU t n (σ t) σ H K:=id rfl
@[simp] theorem qs4(K:Sg->ab->Prop):qfU t n (.own i x) σ H K=qce t x i σ (H i) H K:=id rfl
@[simp] theorem qs6(K:Sg->ab->Prop):qce t x i σ (some (.row x' el n' es)) H K=(x'=x/\K (YY i x (.list n' es) σ) (ah H i none)):=id rfl
@[simp] theorem qs8(y:Value):HG id x L (.own i y)=open Classical in (if i=id/\y=x then L else .own i y):=_root_.id rfl
@[simp] theorem qtd:HG id x L (.any)= .any:=_root_.id rfl
@[simp] theorem qta:HG id x L (.agg cs)= .agg cs:=_root_.id rfl
@[simp] theorem qs9:HG id x L (.list n es)= .list n es:=_root_.id rfl
@[simp] theorem qtb:HG id x L (.cptr cs o)= .cptr cs o:=_root_.id rfl
@[simp] theorem qtc:HG id x L (.bptr i b o)= .bptr i b o:=_root_.id rfl
@[simp] theorem qs7(T:List Int):HG id x L (.tape T)= .tape T:=_root_.id rfl
def qeL(d:D)(K:D->Prop):Prop:=match d with
 | .v (.string s)=>K (.list 1 (s.data.toList.map fun c=> .v (.int .u8 c.toNat)))
 | _=>False
@[simp] theorem qrM:qeL (.v (.string s)) K=K (.list 1 (s.data.toList.map fun c=> .v (.int .u8 c.toNat))):=id rfl
def Z4(t:Nat)(d:D)(H:ab)(K:D->ab->Prop):Prop:=match d with
 | .v (.string s)=>∀b,K (.bptr t b 0) (ah H t (some (.iter b s 0)))
 | _=>False
@[simp] theorem qrD(K:D->ab->Prop):Z4 t (.v (.string s)) H K=∀b,K (.bptr t b 0) (ah H t (some (.iter b s 0))):=id rfl
def Z5(id b:Nat)(r:Option Res)(H:ab)(K:D->ab->Prop):Prop:=match r with
 | some (.iter b' s pos)=>b'=b/\(pos < s.size->K (.tup [.v (.bool true), .v (.int .i64 pos), .v (.int .i32 (Utf8.decode s pos).1)]) (ah H id (some (.iter b' s (pos+ (Utf8.decode s pos).2)))))/\(¬pos < s.size->K (.tup [.v (.bool false)]) H)
 | _=>False
@[simp] theorem qrI(pos:Nat)(K:D->ab->Prop):Z5 id b (some (.iter b' s pos)) H K=(b'=b/\(pos < s.size->K (.tup [.v (.bool true), .v (.int .i64 pos), .v (.int .i32 (Utf8.decode s pos).1)]) (ah H id (some (.iter b' s (pos+ (Utf8.decode s pos).2)))))/\(¬pos < s.size->K (.tup [.v (.bool false)]) H)):=_root_.id rfl
def qeH(d:D)(H:ab)(K:D->ab->Prop):Prop:=match d with
 | .bptr id b off=>off=0/\Z5 id b (H id) H K
 | _=>False
@[simp] theorem qrH(K:D->ab->Prop):qeH (.bptr i b off) H K=(off=0/\Z5 i b (H i) H K):=id rfl
def qgv(dst:Option Nat)(el n b:Nat)(d:D)(es2:List D)(H:ab)(K:D->ab->Prop):Prop:=match dst,d with
 | some t, .v (.slice none 0 0)=>es2.length*b<=140737488355328/\es2.length<=140737488355328/\∀v,K (.own t v) (ah H t (some (.row v el n es2)))
 | _,_=>False
@[simp] theorem qur(K:D->ab->Prop):qgv (some t) el n b (.v (.slice none 0 0)) es2 H K=(es2.length*b<=140737488355328/\es2.length<=140737488355328/\∀v,K (.own t v) (ah H t (some (.row v el n es2)))):=id rfl
def qdi(el n b r:Nat)(x:Value)(es2:List D)(q:Option Res)(H:ab)(K:D->ab->Prop):Prop:=match q with
 | some (.row x' el' n' es)=>x'=x/\el'=el/\n'=n/\(es.length+es2.length) *b<=140737488355328/\es.length+es2.length<=140737488355328/\∀v,K (.own r v) (ah H r (some (.row v el n (es++es2))))
 | _=>False
@[simp] theorem quk(r:Nat)(K:D->ab->Prop):qdi el n b r x es2 (some (.row x' el' n' es)) H K=(x'=x/\el'=el/\n'=n/\(es.length+es2.length) *b<=140737488355328/\es.length+es2.length<=140737488355328/\∀v,K (.own r v) (ah H r (some (.row v el n (es++es2))))):=id rfl
def qgu(r el n b:Nat)(d:D)(es2:List D)(H:ab)(K:D->ab->Prop):Prop:=match d with
 | .own id x=>id=r/\qdi el n b r x es2 (H r) H K
 | _=>False
@[simp] theorem quj(r:Nat)(K:D->ab->Prop):qgu r el n b (.own i x) es2 H K=(i=r/\qdi el n b r x es2 (H r) H K):=id rfl
def Qn(r sz:Nat)(d y:D)(H:ab)(K:D->ab->Prop):Prop:=match d with
 | .bptr id b off=>id=r/\B4 sz r b off y (H r) H K
 | .eptr id x n i off=>id=r/\B3 sz r x n i off y (H r) H K
 | _=>False
@[simp] theorem qov(r:Nat)(y:D)(K:D->ab->Prop):Qn r sz (.bptr i b off) y H K=(i=r/\B4 sz r b off y (H r) H K):=id rfl
@[simp] theorem qou(r:Nat)(k:Nat)(y:D)(K:D->ab->Prop):Qn r sz (.eptr i x n k off) y H K=(i=r/\B3 sz r x n k off y (H r) H K):=id rfl
def quq(dst:Option Nat)(el n bytes:Nat)(es2:List D)(H:ab)(K:D->ab->Prop):Prop:=match dst with
 | some t=>es2.length*bytes<=140737488355328/\es2.length<=140737488355328/\∀v,K (.own t v) (ah H t (some (.row v el n es2)))
 | none=>False
def qdj(dst:Option Nat)(el n bytes:Nat)(d:D)(es2:List D)(H:ab)(K:D->ab->Prop):Prop:=match d with
 | .own id x=>qdl el n bytes id x es2 (H id) H K
 | .v (.slice none 0 0)=>quq dst el n bytes es2 H K
 | .sub id x n' lo hi=>qun el n bytes id x n' lo hi es2 (H id) H K
 | _=>False
@[simp] theorem qul(K:D->ab->Prop):qdj dst el n bytes (.own i x) es2 H K=qdl el n bytes i x es2 (H i) H K:=id rfl
@[simp] theorem qum(K:D->ab->Prop):qdj (some t) el n bytes (.v (.slice none 0 0)) es2 H K=(es2.length*bytes<=140737488355328/\es2.length<=140737488355328/\∀v,K (.own t v) (ah H t (some (.row v el n es2)))):=id rfl
@[simp] theorem qup(K:D->ab->Prop):qdl el n bytes i x es2 (some (.row x' el' n' es)) H K=(x'=x/\el'=el/\n'=n/\(es.length+es2.length) *bytes<=140737488355328/\es.length+es2.length<=140737488355328/\∀v,K (.own i v) (ah H i (some (.row v el n (es++es2))))):=id rfl
def AJ(S:Nat->Spc)(f:D)(d:Nat)(args:List D)(H:ab)(K:D->ab->Prop):Prop:=match f with
 | .clo g caps=>(S g).pt d (args++caps) H K
 | _=>False
@[simp] theorem qqF(d:Nat)(K:D->ab->Prop):AJ S (.clo g caps) d args H K=(S g).pt d (args++caps) H K:=id rfl
@[congr] theorem qmc{r:Nat}{s:Spc}{K:D->ab->Prop}(hs:s=s₁)(hargs:args=args₁):Jm r dst s args H K=Jm r dst s₁ args₁ H K:=by subst hs;subst hargs;rfl
@[congr] theorem qo1{s:Spc}{K:D->ab->Prop}(hs:s=s₁)(hargs:args=args₁):X5 dst s args H K=X5 dst s₁ args₁ H K:=by subst hs;subst hargs;rfl
section
variable {S:Nat->Spc}{σ:Sg}{H Hr:ab}{K:D->ab->Prop}
@[simp ↓] theorem qtR(dst:Option Nat)(x:Operand):az S (.mv x) dst σ H K=((fun d=>K d H) (ev σ x)):=id rfl
@[simp ↓] theorem qwe(x:Operand):ay S (.mv x) dst σ Hr H K=((fun d=>K d H) (ev σ x)):=id rfl
@[simp ↓] theorem qtQ(x:Operand):az S (.pick c x y) dst σ H K=(GK (ev σ c) ((fun d=>K d H) (ev σ x)) ((fun d=>K d H) (ev σ y))):=id rfl
@[simp ↓] theorem qr1(x:Operand):ay S (.pick c x y) dst σ Hr H K=(GK (ev σ c) ((fun d=>K d H) (ev σ x)) ((fun d=>K d H) (ev σ y))):=id rfl
@[simp ↓] theorem qqQ(ps:List (Nat×Nat×Operand)):az S (.build z ps) dst σ H K=(kj σ ps (z.map vy) fun cs=>(fun d=>K d H) (.agg cs)):=id rfl
@[simp ↓] theorem qoW(ps:List (Nat×Nat×Operand)):ay S (.build z ps) dst σ Hr H K=(kj σ ps (z.map vy) fun cs=>(fun d=>K d H) (.agg cs)):=id rfl
@[simp ↓] theorem qnE:az S (.bslice el n ps) dst σ H K=(lr n (ps.map (ev σ))/\(fun d=>K d H) (.list n (ps.map (ev σ)))):=id rfl
@[simp ↓] theorem qma:ay S (.bslice el n ps) dst σ Hr H K=(lr n (ps.map (ev σ))/\(fun d=>K d H) (.list n (ps.map (ev σ)))):=id rfl
@[simp ↓] theorem qtV(x:Operand):az S (.load agg sz x) dst σ H K=(GP agg sz (ev σ x) H (fun d=>K d H)):=id rfl
@[simp ↓] theorem qr2(x:Operand):ay S (.load agg sz x) dst σ Hr H K=(GP agg sz (ev σ x) Hr (fun d=>K d H)):=id rfl
@[simp ↓] theorem qqJ(x:Operand):az S (.nilck x) dst σ H K=(Yr (ev σ x) (fun d=>K d H)):=id rfl
@[simp ↓] theorem qoR(x:Operand):ay S (.nilck x) dst σ Hr H K=(Yr (ev σ x) (fun d=>K d H)):=id rfl
@[simp ↓] theorem qgh(dst:Option Nat)(op:BinOp)(x y:Operand):az S (.arith op x y) dst σ H K=(KQ op (ev σ x) (ev σ y) (fun d=>K d H)):=id rfl
@[simp ↓] theorem qoX(x:Operand):ay S (.arith op x y) dst σ Hr H K=(KQ op (ev σ x) (ev σ y) (fun d=>K d H)):=id rfl
@[simp ↓] theorem qnD(dst:Option Nat)(op:BinOp)(x y:Operand):az S (.cmp op x y) dst σ H K=(Y8 op (ev σ x) (ev σ y) (fun d=>K d H)):=id rfl
@[simp ↓] theorem qu9(x:Operand):ay S (.cmp op x y) dst σ Hr H K=(Y8 op (ev σ x) (ev σ y) (fun d=>K d H)):=id rfl
@[simp ↓] theorem qvT(x:Operand):az S (.eql neg agg ks x y) dst σ H K=(Y0 neg (qjw agg ks (ev σ x) (ev σ y)) (fun d=>K d H)):=id rfl
@[simp ↓] theorem qu8(x:Operand):ay S (.eql neg agg ks x y) dst σ Hr H K=(Y0 neg (qjw agg ks (ev σ x) (ev σ y)) (fun d=>K d H)):=id rfl
@[simp ↓] theorem qtO(x:Operand):az S (.scat x y) dst σ H K=(Vk (ev σ x) (ev σ y) (fun d=>K d H)):=id rfl
@[simp ↓] theorem qvN(x:Operand):az S (.not x) dst σ H K=(qff (ev σ x) (fun d=>K d H)):=id rfl
@[simp ↓] theorem qtX(x:Operand):az S (.conv k x) dst σ H K=(WJ k (ev σ x) (fun d=>K d H)):=id rfl
@[simp ↓] theorem qvU:az S (.clo f xs) dst σ H K=((fun d=>K d H) (.clo f (xs.map (ev σ)))):=id rfl
@[simp ↓] theorem qqI(x:Operand)(lo hi:Option Operand):az S (.slice n x lo hi) dst σ H K=(IU n (ev σ x) (lo.map fun o=>uI (ev σ o)) (hi.map fun o=>uI (ev σ o)) H (fun d=>K d H)):=id rfl
@[simp ↓] theorem qoQ(x:Operand)(lo hi:Option Operand):ay S (.slice n x lo hi) dst σ Hr H K=(IU n (ev σ x) (lo.map fun o=>uI (ev σ o)) (hi.map fun o=>uI (ev σ o)) Hr (fun d=>K d H)):=id rfl
@[simp ↓] theorem qny(x:Operand)(lo hi:Option Operand):az S (.sslice x lo hi) dst σ H K=(HW (ev σ x) (lo.map fun o=>uI (ev σ o)) (hi.map fun o=>uI (ev σ o)) (fun d=>K d H)):=id rfl
@[simp ↓] theorem ql8(x:Operand)(lo hi:Option Operand):ay S (.sslice x lo hi) dst σ Hr H K=(HW (ev σ x) (lo.map fun o=>uI (ev σ o)) (hi.map fun o=>uI (ev σ o)) (fun d=>K d H)):=id rfl
@[simp ↓] theorem qqO(x:Operand):az S (.faddr off x) dst σ H K=(CO off (ev σ x) (fun d=>K d H)):=id rfl
@[simp ↓] theorem qoU(x:Operand):ay S (.faddr off x) dst σ Hr H K=(CO off (ev σ x) (fun d=>K d H)):=id rfl
@[simp ↓] theorem qvR(x:Operand):az S (.fld agg sz off x) dst σ H K=(qfY agg sz off (ev σ x) (fun d=>K d H)):=id rfl
@[simp ↓] theorem qqN(x i:Operand):az S (.iaddr n x i) dst σ H K=(CL n (ev σ i) (ev σ x) H (fun d=>K d H)):=id rfl
@[simp ↓] theorem qoT(x i:Operand):ay S (.iaddr n x i) dst σ Hr H K=(CL n (ev σ i) (ev σ x) Hr (fun d=>K d H)):=id rfl
@[simp ↓] theorem qtN(x i:Operand):az S (.sidx x i) dst σ H K=(Vj (ev σ i) (ev σ x) (fun d=>K d H)):=id rfl
@[simp ↓] theorem qvS(x:Operand):az S (.ext x i) dst σ H K=(qcr (ev σ x) i (fun d=>K d H)):=id rfl
@[simp ↓] theorem qu7(x:Operand):ay S (.ext x i) dst σ Hr H K=(qcr (ev σ x) i (fun d=>K d H)):=id rfl
@[simp ↓] theorem qvQ(x:Operand):az S (.len x) dst σ H K=(Rr (ev σ x) H (fun d=>K d H)):=id rfl
@[simp ↓] theorem qu6(x:Operand):ay S (.len x) dst σ Hr H K=(Rr (ev σ x) Hr (fun d=>K d H)):=id rfl
@[simp ↓] theorem qtM(x:Operand):az S (.slen x) dst σ H K=(Qr (ev σ x) (fun d=>K d H)):=id rfl
@[simp ↓] theorem qr0(x:Operand):ay S (.slen x) dst σ Hr H K=(Qr (ev σ x) (fun d=>K d H)):=id rfl
@[simp ↓] theorem qtZ(x:Operand):az S (.bstr x) dst σ H K=(qgm (ev σ x) H (fun d=>K d H)):=id rfl
@[simp ↓] theorem qtP(x:Operand):az S (.rstr x) dst σ H K=(qeP (ev σ x) (fun d=>K d H)):=id rfl
@[simp ↓] theorem qvP(x:Operand):az S (.mm mx [x,y]) dst σ H K=qby mx (ev σ x) (ev σ y) (fun d=>K d H):=id rfl
@[simp ↓] theorem qt0(x:Operand):az S (.box el true x) dst σ H K=((ev σ x).kn=true/\K (.cptr (ev σ x).cells 0) H):=id rfl
@[simp ↓] theorem qqR:az S (.alloc el z) (some t) σ H K=∀b,K (.bptr t b 0) (ah H t (some (.box b (z.map vy)))):=id rfl
@[simp ↓] theorem qvV(x:Operand):az S (.box el false x) (some t) σ H K=((ev σ x).kn=true/\∀b,K (.bptr t b 0) (ah H t (some (.box b (ev σ x).cells)))):=id rfl
@[simp ↓] theorem qnB:az S (.mslice el n ps) (some t) σ H K=(lr n (ps.map (ev σ))/\∀x,K (.own t x) (ah H t (some (.row x el n (ps.map (ev σ)))))):=id rfl
@[simp ↓] theorem qlb(l:Operand):az S (.mkslice el n bytes agg z l c) (some t) σ H K=qsu t el n bytes agg z (uI (ev σ l)) (uI (ev σ c)) H K:=id rfl
@[simp ↓] theorem qu5(x:Operand):ay S (.mm mx [x,y]) dst σ Hr H K=qby mx (ev σ x) (ev σ y) (fun d=>K d H):=id rfl
@[simp ↓] theorem qoY:ay S (.alloc el z) (some t) σ Hr H K=∀b,K (.bptr t b 0) (ah H t (some (.box b (z.map vy)))):=id rfl
@[simp ↓] theorem ql9:ay S (.nslice el n) (some t) σ Hr H K=∀x,K (.own t x) (ah H t (some (.row x el n []))):=id rfl
@[simp ↓] theorem qkH(l:Operand):ay S (.mkslice el n bytes agg z l c) (some t) σ Hr H K=qsu t el n bytes agg z (uI (ev σ l)) (uI (ev σ c)) H K:=id rfl
@[simp ↓] theorem qnA(x:Operand):az S (.sbytes x) dst σ H K=qeL (ev σ x) (fun d=>K d H):=id rfl
@[simp ↓] theorem qnz(x:Operand):az S (.srange x) (some t) σ H K=Z4 t (ev σ x) H K:=by
 simp only[az,bv,Z4]
 split <;> simp_all
@[simp ↓] theorem qqH(x:Operand):az S (.snext x) dst σ H K=qeH (ev σ x) H K:=id rfl
@[simp ↓] theorem qoP(r:Nat)(x:Operand):ay S (.store (some r) sz x y) dst σ Hr H K=((ev σ y).kn=true/\(ev σ y).cells.length=sz/\Qn r sz (ev σ x) (ev σ y) H K):=by
 simp only[ay]
 congr 2
@[simp ↓] theorem qqG(x:Operand):az S (.store rt sz x y) dst σ H K=((ev σ y).kn=true/\(ev σ y).cells.length=sz/\IR sz (ev σ x) (ev σ y) H K):=id rfl
@[simp ↓] theorem qnF(x:Operand):az S (.append rt el n bytes x y) dst σ H K=uM n (ev σ y) H fun es2=>qdj dst el n bytes (ev σ x) es2 H K:=id rfl
@[simp ↓] theorem qkJ(x:Operand):ay S (.append none el n bytes x y) dst σ Hr H K=uM n (ev σ y) Hr fun es2=>qgv dst el n bytes (ev σ x) es2 H K:=by
 simp only[ay]
 congr 1
@[simp ↓] theorem qkI(r:Nat)(x:Operand):ay S (.append (some r) el n bytes x y) dst σ Hr H K=uM n (ev σ y) Hr fun es2=>qgu r el n bytes (ev σ x) es2 H K:=by
 simp only[ay]
 congr 1
@[simp ↓] theorem qtW(x:Operand):az S (.copy n x y) dst σ H K=mJ n (ev σ y) H fun src=>qgb n (ev σ x) src H K:=id rfl
@[simp ↓] theorem qtY(args:List Operand):az S (.call f args) dst σ H K=(S f).pt (dst.getD 0) (args.map (ev σ)) H K:=id rfl
@[simp ↓] theorem qoV(r:Nat)(args:List Operand):ay S (.callb r f args) dst σ Hr H K=Jm r dst (S f) (args.map (ev σ)) H K:=id rfl
@[simp ↓] theorem qqP(f:Operand)(args:List Operand):az S (.callv f args) dst σ H K=AJ S (ev σ f) (dst.getD 0) (args.map (ev σ)) H K:=id rfl
@[simp ↓] theorem qr3(args:List Operand):ay S (.call f args) dst σ Hr H K=X5 dst (S f) (args.map (ev σ)) H K:=id rfl
end
theorem qlH(σ:Sg)(t s:Nat)(d:D):upd σ t d s=if s=t then d else σ s:=id rfl
theorem Tq(σ:Sg)(t:Nat)(d:D):fb σ (some t) d=upd σ t d:=id rfl
theorem qh8(σ:Sg)(d:D):fb σ none d=σ:=id rfl
theorem qh9(H:ab)(t s:Nat)(d:Option Res):ah H t d s=if s=t then d else H s:=id rfl
attribute [simp] Tq qh8 qh9
@[simp] theorem ZK(σ:Sg)(t:Nat):ev σ (.tmp t)=σ t:=id rfl
@[simp] theorem qex(σ:Sg)(x:Value):ev σ (.const x)=vy x:=id rfl
@[simp] theorem qrA:ev σ (.func f)= .clo f []:=id rfl
@[simp] theorem qrB(b:Bool):vy (.bool b)= .v (.bool b):=id rfl
@[simp] theorem qlE(k:IntKind)(n:Int):vy (.int k n)= .v (.int k n):=id rfl
@[simp] theorem quK:vy (.string s)= .v (.string s):=id rfl
@[simp] theorem quL(a:Option Addr):vy (.pointer a)= .v (.pointer a):=id rfl
@[simp] theorem qon(a:Option Addr)(l c:Nat):vy (.slice a l c)= .v (.slice a l c):=id rfl
theorem qmF(σ:Sg):jv [] σ=fun _=> .any:=id rfl
theorem qjg(t:Nat)(l:List Nat)(σ:Sg):jv (t::l) σ=upd (jv l σ) t (σ t):=id rfl
@[simp] theorem qsK:ku [] H=fun _=>none:=id rfl
@[simp] theorem qfv(t:Nat)(l:List Nat)(H:ab):ku (t::l) H=ah (ku l H) t (H t):=id rfl
@[simp] theorem qsc:bJ i=none:=id rfl
@[simp] theorem qsB:ub [] σ=True:=id rfl
@[simp] theorem qpn(l:List (Nat×D)):ub ((t,d)::l) σ=(PI (σ t) d/\ub l σ):=id rfl
@[simp] theorem qss:yt [] H=True:=id rfl
@[simp] theorem qpe(d:Res)(l:List (Nat×Res)):yt ((t,d)::l) H=((H t=some d\/isNilRow d)/\yt l H):=id rfl
@[simp] theorem sub_self(d:D):PI d d=True:=by
 cases d <;> simp[PI]
@[simp] theorem quR(a:D):PI a (.v x)=(a= .v x):=id rfl
@[simp] theorem qlN(a:D)(x:List D):PI a (.list n x)=(a= .list n x\/(a= .v (.slice none 0 0)/\x=[])):=id rfl
@[simp] theorem qlO(a:D):PI a (.cptr cs o)=(a= .cptr cs o):=id rfl
@[simp] theorem qot(y:Value):PI (.own i x) (.own j y)=(x=y):=by simp[PI]
@[simp] theorem qlM(y:Value):PI (.v x) (.own j y)=(x=y):=by simp[PI]
@[simp] theorem qwo:MQ true sz cs off= .agg ((cs.drop off).take sz):=id rfl
@[simp] theorem qwp:MQ false sz cs off=(cs[off]?).getD .any:=id rfl
@[simp ↓] theorem qoN(rs:List aj)(K:D->ab->Prop):tc rs K .norm σ H=yN rs σ H fun ds=>K (jr ds) H:=id rfl
@[simp ↓] theorem qrY(rs:List aj)(K:D->ab->Prop):tc rs K .ret σ H=yN rs σ H fun ds=>K (jr ds) H:=id rfl
@[simp ↓] theorem qrX(K:List D->Prop):yN [] σ H K=K []:=id rfl
@[simp ↓] theorem qrW(r:List aj)(K:List D->Prop):yN (.tmp t::r) σ H K=yN r σ H fun ds=>K (σ t::ds):=id rfl
@[simp ↓] theorem qoM(r:List aj)(K:List D->Prop):yN (.cell t agg sz::r) σ H K=GP agg sz (σ t) H fun d=>yN r σ H fun ds=>K (d::ds):=id rfl
@[simp] theorem qwh:jr [d]=d:=id rfl
@[simp] theorem qwi:jr []= .tup []:=id rfl
@[simp] theorem qwg(l:List D):jr (d::e::l)= .tup (d::e::l):=id rfl
@[simp] theorem qwv:D.kn (.v x)=true:=id rfl
@[simp] theorem qqD:D.cells (.v x)=[.v x]:=id rfl
@[simp] theorem qsJ:D.kn (.agg cs)=true:=id rfl
@[simp] theorem qla:D.cells (.agg cs)=cs:=id rfl
@[simp] theorem qpy:D.kn (.list n es)=true:=id rfl
@[simp] theorem qjX:D.cells (.list n es)=[.list n es]:=id rfl
@[simp] theorem qpz:D.kn (.cptr cs o)=true:=id rfl
@[simp] theorem qjY:D.cells (.cptr cs o)=[.cptr cs o]:=id rfl
@[simp] theorem qsH:D.kn (.own i x)=true:=id rfl
@[simp] theorem qk8:D.cells (.own i x)=[.own i x]:=id rfl
@[simp] theorem qsG(k:Nat):D.kn (.sub i v n k o)=true:=id rfl
@[simp] theorem qk7(k:Nat):D.cells (.sub i v n k o)=[.sub i v n k o]:=id rfl
@[simp] theorem qsI:D.kn (.clo f cs)=true:=id rfl
@[simp] theorem qk9:D.cells (.clo f cs)=[.clo f cs]:=id rfl
@[simp] theorem qvY(n:Int):uI (.v (.int k n))=some (k,n):=id rfl
attribute [simp] setAt
@[simp] theorem qtu(n:Int):enc n= .v (.int .i64 n):=rfl
@[simp] theorem qql(b:Bool):enc b= .v (.bool b):=rfl
@[simp] theorem qtt:enc s= .v (.string s):=rfl
@[simp] theorem qqk{X:Type}[Cod X](l:List X):enc l= .list (Cod.wd X) (l.map enc):=rfl
@[simp] theorem qrt:Cod.wd Int=1:=rfl
@[simp] theorem qof:Cod.wd Bool=1:=rfl
@[simp] theorem qrs:Cod.wd ByteArray=1:=rfl
@[simp] theorem qoe{X:Type}[Cod X]:Cod.wd (List X)=1:=rfl
@[congr] theorem qpK(hd:d=d₁):Rt d A B=Rt d₁ A B:=by subst hd;rfl
@[congr] theorem qk0{s:Nat}{b:Bool}(hd:d=d₁):nt s b σ d yes no=nt s b σ d₁ yes no:=by subst hd;rfl
@[congr] theorem qme(hd:d=d₁):GK d A B=GK d₁ A B:=by subst hd;rfl
@[congr] theorem qmA(hr:r=r₁):Rk agg sz b off r K=Rk agg sz b off r₁ K:=by subst hr;rfl
@[congr] theorem qmz(hr:r=r₁):Rj agg sz x n i off r K=Rj agg sz x n i off r₁ K:=by subst hr;rfl
@[congr] theorem qmy(hd:d=d₁):GP agg sz d H K=GP agg sz d₁ H K:=by subst hd;rfl
@[congr] theorem qo7(hd:d=d₁):Yr d K=Yr d₁ K:=by subst hd;rfl
@[congr] theorem qll(hd:d=d₁)(he:e=e₁):KQ op d e K=KQ op d₁ e₁ K:=by subst hd;subst he;rfl
@[congr] theorem qoJ(hd:d=d₁):qeP d K=qeP d₁ K:=by subst hd;rfl
@[congr] theorem qqA{o:Option Bool}{o₁:Option Bool}(ho:o=o₁):UO o K=UO o₁ K:=by subst ho;rfl
@[congr] theorem qqz(hd:d=d₁)(he:e=e₁):Y8 op d e K=Y8 op d₁ e₁ K:=by subst hd;subst he;rfl
@[congr] theorem qqb{o:Option Bool}{o₁:Option Bool}(ho:o=o₁):Y0 neg o K=Y0 neg o₁ K:=by subst ho;rfl
@[congr] theorem ql2(hd:d=d₁)(he:e=e₁):Vk d e K=Vk d₁ e₁ K:=by subst hd;subst he;rfl
@[congr] theorem qo5(hd:d=d₁):qff d K=qff d₁ K:=by subst hd;rfl
@[congr] theorem qnp(hd:d=d₁):WJ k d K=WJ k d₁ K:=by subst hd;rfl
@[congr] theorem qk3(hd:d=d₁):CO off d K=CO off d₁ K:=by subst hd;rfl
@[congr] theorem qpT(hd:d=d₁):qfY agg sz off d K=qfY agg sz off d₁ K:=by subst hd;rfl
@[congr] theorem qkY{k:Int}(hr:r=r₁):J3 n k id x r K=J3 n k id x r₁ K:=by subst hr;rfl
@[congr] theorem qkX{i:D}(hi:i=i₁)(hd:d=d₁):CL n i d H K=CL n i₁ d₁ H K:=by subst hi;subst hd;rfl
@[congr] theorem ql1{i:D}(hi:i=i₁)(hd:d=d₁):Vj i d K=Vj i₁ d₁ K:=by subst hi;subst hd;rfl
@[congr] theorem qp1{o:Option D}{o₁:Option D}(ho:o=o₁):qcs o K=qcs o₁ K:=by subst ho;rfl
@[congr] theorem qp0(hd:d=d₁):qcr d i K=qcr d₁ i K:=by subst hd;rfl
@[congr] theorem qpx(hr:r=r₁):qbO x r K=qbO x r₁ K:=by subst hr;rfl
@[congr] theorem qpw(hd:d=d₁):Rr d H K=Rr d₁ H K:=by subst hd;rfl
@[congr] theorem qqW(hr:r=r₁):qc2 x r K=qc2 x r₁ K:=by subst hr;rfl
@[congr] theorem qqV(hd:d=d₁):qgm d H K=qgm d₁ H K:=by subst hd;rfl
@[congr] theorem ql0(hd:d=d₁):Qr d K=Qr d₁ K:=by subst hd;rfl
@[congr] theorem qpf(hd:d=d₁)(he:e=e₁):qby mx d e K=qby mx d₁ e₁ K:=by subst hd;subst he;rfl
@[congr] theorem qoy{K:List D->Prop}(hr:r=r₁):XP n lo hi x r K=XP n lo hi x r₁ K:=by subst hr;rfl
@[congr] theorem qkC{y:D}{K:D->ab->Prop}(hy:y=y₁)(hr:r=r₁):B4 sz id b off y r H K=B4 sz id b off y₁ r₁ H K:=by subst hy;subst hr;rfl
@[congr] theorem qkB{y:D}{K:D->ab->Prop}(hy:y=y₁)(hr:r=r₁):B3 sz id x n i off y r H K=B3 sz id x n i off y₁ r₁ H K:=by subst hy;subst hr;rfl
@[congr] theorem qkA{y:D}{K:D->ab->Prop}(hd:d=d₁)(hy:y=y₁):IR sz d y H K=IR sz d₁ y₁ H K:=by subst hd;subst hy;rfl
@[congr] theorem qq6{K:D->ab->Prop}(hes2:es2=es2₁)(hr:r=r₁):qdl el n bytes id x es2 r H K=qdl el n bytes id x es2₁ r₁ H K:=by subst hes2;subst hr;rfl
@[congr] theorem qqx{K:D->ab->Prop}(hsrc:src=src₁)(hr:r=r₁):qcR n id x n' lo hi src r H K=qcR n id x n' lo hi src₁ r₁ H K:=by subst hsrc;subst hr;rfl
@[congr] theorem qqw{K:D->ab->Prop}(hd:d=d₁)(hsrc:src=src₁):qgb n d src H K=qgb n d₁ src₁ H K:=by subst hd;subst hsrc;rfl
@[congr] theorem qpS{K:Sg->ab->Prop}(hr:r=r₁):qce t x id σ r H K=qce t x id σ r₁ H K:=by subst hr;rfl
@[congr] theorem qpQ{K:Sg->ab->Prop}(hd:d=d₁):qfU t n d σ H K=qfU t n d₁ σ H K:=by subst hd;rfl
@[congr] theorem qoH(hd:d=d₁):qeL d K=qeL d₁ K:=by subst hd;rfl
@[congr] theorem qox{K:D->ab->Prop}(hd:d=d₁):Z4 t d H K=Z4 t d₁ H K:=by subst hd;rfl
@[congr] theorem qoC{K:D->ab->Prop}(hr:r=r₁):Z5 id b r H K=Z5 id b r₁ H K:=by subst hr;rfl
@[congr] theorem qoB{K:D->ab->Prop}(hd:d=d₁):qeH d H K=qeH d₁ H K:=by subst hd;rfl
@[congr] theorem qq7{K:D->ab->Prop}(hdst:dst=dst₁)(hd:d=d₁)(hes2:es2=es2₁):qgv dst el n b d es2 H K=qgv dst₁ el n b d₁ es2₁ H K:=by subst hdst;subst hd;subst hes2;rfl
@[congr] theorem qq4{r:Nat}{q:Option Res}{K:D->ab->Prop}{q₁:Option Res}(hes2:es2=es2₁)(hq:q=q₁):qdi el n b r x es2 q H K=qdi el n b r x es2₁ q₁ H K:=by subst hes2;subst hq;rfl
@[congr] theorem qq3{r:Nat}{K:D->ab->Prop}(hd:d=d₁)(hes2:es2=es2₁):qgu r el n b d es2 H K=qgu r el n b d₁ es2₁ H K:=by subst hd;subst hes2;rfl
@[congr] theorem qlU{r:Nat}{y:D}{K:D->ab->Prop}(hd:d=d₁)(hy:y=y₁):Qn r sz d y H K=Qn r sz d₁ y₁ H K:=by subst hd;subst hy;rfl
@[congr] theorem qq5{K:D->ab->Prop}(hdst:dst=dst₁)(hd:d=d₁)(hes2:es2=es2₁):qdj dst el n bytes d es2 H K=qdj dst₁ el n bytes d₁ es2₁ H K:=by subst hdst;subst hd;subst hes2;rfl
@[congr] theorem qnx{f:D}{d:Nat}{K:D->ab->Prop}(hf:f=f₁)(hargs:args=args₁):AJ S f d args H K=AJ S f₁ d args₁ H K:=by subst hf;subst hargs;rfl
@[congr] theorem qlW{K:List D->Prop}(h:d=d'):mJ n d H K=mJ n d' H K:=by subst h;rfl
@[congr] theorem qoz{K:List D->Prop}(h:d=d'):uM n d H K=uM n d' H K:=by subst h;rfl
@[congr] theorem qlo{s s':Spc}{d:Nat}{ds':List D}{K:D->ab->Prop}(h:s=s')(h':ds=ds'):s.pt d ds H K=s'.pt d ds' H K:=by subst h;subst h';rfl
@[congr] theorem qnn{lo hi lo' hi':Option (Option (IntKind×Int))}{K:Nat->Nat->Prop}(h1:lo=lo')(h2:hi=hi')(h3:n=n'):uD lo hi n K=uD lo' hi' n' K:=by subst h1;subst h2;subst h3;rfl
end Go.Gv
