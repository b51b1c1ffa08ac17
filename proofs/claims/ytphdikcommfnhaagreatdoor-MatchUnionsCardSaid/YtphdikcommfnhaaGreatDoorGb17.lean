/- A part of the framework and of the walks: T10. -/
import Derived.Test.YtphdikcommfnhaaGreatDoorGb16
set_option linter.unusedSimpArgs false
set_option linter.unusedVariables false

namespace Go.Gv
open Cod (enc dec)
variable {b b' bytes el el' f g hi i id j len lo n n' n'' o off sz t:Nat}{H:ab}{K:D->Prop}{dst dst₁ rt:Option Nat}{v x x':Value}{L d d' d₁ e e₁ f₁ i₁ y₁ z₁:D}{k k' kd:IntKind}{σ:Sg}{args args₁ caps cells cs ds es es2 es2₁ src src₁:List D}{agg mx neg:Bool}{r r₁:Option Res}{c y:Operand}{a h l:Int}{s:ByteArray}{z:List Value}{no yes:Sg->Prop}{A B p:Prop}{op:BinOp}{ks:List WS}{S:Nat->Spc}{ps xs:List Operand}{s₁:Spc}
section
variable {S:Nat->Spc}{K:Ex->Sg->ab->Prop}{σ:Sg}{H:ab}
def Rl(S:Nat->Spc)(b:CC)(K:Ex->Sg->ab->Prop):Ex->Sg->ab->Prop:=fun e σ H=>match e with
 | .norm=>vc S b K σ H
 | e=>K e σ H
def WL(id:Nat)(K:Ex->Sg->ab->Prop):Ex->Sg->ab->Prop:=fun e σ H=>match e with
 | .ex i=>if i=id then K .norm σ H else K (.ex i) σ H
 | e=>K e σ H
def VS(inv:qgD)(x:inv.X)(K:Ex->Sg->ab->Prop):Ex->Sg->ab->Prop:=fun e σ' H'=>match e with
 | .norm=>∃y,inv.P y/\Wk σ' H' (inv.s y) (inv.h y)/\inv.m y < inv.m x
 | e=>K e σ' H'
def Pi(d:D)(A B:Prop):Prop:=match d with
 | .v (.bool t)=>(t=true->A)/\(t=false->B)
 | _=>False
@[simp ↓] theorem qfV:vc S .skip K σ H=K .norm σ H:=id rfl
@[simp ↓] theorem qdT(l:List CI):vc S (.reg l) K σ H=Ca S l σ H (K .norm):=id rfl
@[simp ↓] theorem qpA(p l:List CI):vc S (.regd p l) K σ H=lU S p σ (bH p H) H fun σ H=>Ca S l σ H (K .norm):=id rfl
@[simp ↓] theorem PN(a b:CC):vc S (.seq a b) K σ H=vc S a (Rl S b K) σ H:=id rfl
@[simp ↓] theorem I3(b:CC):Rl S b K .norm σ H=vc S b K σ H:=id rfl
@[simp ↓] theorem ZC(b:CC)(i:Nat):Rl S b K (.ex i) σ H=K (.ex i) σ H:=id rfl
@[simp ↓] theorem qfW(b:CC):Rl S b K .ret σ H=K .ret σ H:=id rfl
@[simp ↓] theorem qju(c:Operand)(a b:CC):vc S (.ite c a b) K σ H=Pi (ev σ c) (vc S a K σ H) (vc S b K σ H):=id rfl
@[simp] theorem qfZ(t:Bool)(A B:Prop):Pi (.v (.bool t)) A B=((t=true->A)/\(t=false->B)):=id rfl
@[simp high] theorem qpC:Pi (.v (.bool true)) A B=A:=by simp[Pi]
@[simp high] theorem qpD:Pi (.v (.bool false)) A B=B:=by simp[Pi]
@[simp ↓] theorem No(id:Nat)(b:CC):vc S (.block id b) K σ H=vc S b (WL id K) σ H:=_root_.id rfl
@[simp ↓] theorem qf1(id:Nat):WL id K .norm σ H=K .norm σ H:=_root_.id rfl
@[simp ↓] theorem ZF(id:Nat):WL id K .ret σ H=K .ret σ H:=_root_.id rfl
@[simp ↓] theorem SH(id i:Nat):WL id K (.ex i) σ H=if i=id then K .norm σ H else K (.ex i) σ H:=_root_.id rfl
@[simp ↓] theorem qf0(i:Nat):vc S (.exit i) K σ H=K (.ex i) σ H:=id rfl
@[simp ↓] theorem qrR:vc S .ret K σ H=K .ret σ H:=id rfl
@[simp ↓] theorem qpB(ls lh:List Nat)(c:CC):vc S (.keep ls lh c) K σ H=vc S c K (jq ls σ) (ko lh H):=id rfl
theorem Nn(k:Nat)(b:CC):vc S (.loop k b) K σ H=∃inv:qgD,(∃x,inv.P x/\Wk σ H (inv.s x) (inv.h x))/\∀x,inv.P x->vc S b (VS inv x K) (inv.s x) (inv.h x):=id rfl
theorem ZE(k:Nat)(c:CC):vc S (.cut k c) K σ H=∃ (σ':Sg) (H':ab),Wk σ H σ' H'/\vc S c K σ' H':=id rfl
@[simp ↓] theorem qfY(inv:qgD)(x:inv.X):VS inv x K .norm σ H=∃y,inv.P y/\Wk σ H (inv.s y) (inv.h y)/\inv.m y < inv.m x:=id rfl
@[simp ↓] theorem qfX(inv:qgD)(x:inv.X):VS inv x K .ret σ H=K .ret σ H:=id rfl
@[simp ↓] theorem ZD(inv:qgD)(x:inv.X)(i:Nat):VS inv x K (.ex i) σ H=K (.ex i) σ H:=id rfl
end
def mY(s:Nat)(b:Bool)(σ:Sg)(d:D)(yes no:Sg->Prop):Prop:=match d with
 | .v (.bool t)=>(t=b->yes (upd σ s (.v (.bool b))))/\(t=(!b)->no (upd σ s (.v (.bool (!b)))))
 | .undef=>no σ
 | _=>False
@[simp high] theorem qsF(s:Nat):mY s true σ (.v (.bool true)) yes no=yes (upd σ s (.v (.bool true))):=by simp[mY]
@[simp high] theorem qsG(s:Nat):mY s true σ (.v (.bool false)) yes no=no (upd σ s (.v (.bool false))):=by simp[mY]
@[simp high] theorem qsH(s:Nat):mY s false σ (.v (.bool true)) yes no=no (upd σ s (.v (.bool true))):=by simp[mY]
@[simp high] theorem qsI(s:Nat):mY s false σ (.v (.bool false)) yes no=yes (upd σ s (.v (.bool false))):=by simp[mY]
@[simp] theorem qsE(s:Nat)(b:Bool):mY s b σ .undef yes no=no σ:=id rfl
@[simp] theorem qsQ(s:Nat)(b t:Bool):mY s b σ (.v (.bool t)) yes no=((t=b->yes (upd σ s (.v (.bool b))))/\(t=(!b)->no (upd σ s (.v (.bool (!b)))))):=id rfl
section
variable {S:Nat->Spc}{σ:Sg}{H Hr:ab}
@[simp ↓] theorem qdQ(K:Sg->ab->Prop):Ca S [] σ H K=K σ H:=id rfl
@[simp ↓] theorem qfu(K:Sg->ab->Prop)(d:Option Nat)(c:COp)(r:List CI):Ca S (.op d none c::r) σ H K=ay S c d σ H fun x H'=>Ca S r (eZ σ d x) H' K:=id rfl
@[simp ↓] theorem qru(K:Sg->ab->Prop)(d:Option Nat)(s:Nat)(b:Bool)(c:COp)(r:List CI):Ca S (.op d (some (s,b)) c::r) σ H K=mY s b σ (σ s) (fun σ=>ay S c d σ H fun x H'=>Ca S r (eZ σ d x) H' K) (fun σ=>Ca S r (eZ σ d .undef) H K):=id rfl
@[simp ↓] theorem qrv(K:Sg->ab->Prop)(r:List CI):Ca S (.frz t n::r) σ H K=FC t n σ H fun σ' H'=>Ca S r σ' H' K:=id rfl
@[simp ↓] theorem qrh(K:Sg->ab->Prop):lU S [] σ Hr H K=K σ H:=id rfl
@[simp ↓] theorem qri(K:Sg->ab->Prop)(a:Nat)(r:List CI):lU S (.frz a b::r) σ Hr H K=lU S r σ (bH r Hr) H K:=id rfl
@[simp ↓] theorem qsk(K:Sg->ab->Prop)(d:Option Nat)(c:COp)(r:List CI):lU S (.op d none c::r) σ Hr H K=ax S c d σ Hr H fun x H'=>lU S r (eZ σ d x) Hr H' K:=id rfl
@[simp ↓] theorem qrg(K:Sg->ab->Prop)(d:Option Nat)(s:Nat)(b:Bool)(c:COp)(r:List CI):lU S (.op d (some (s,b)) c::r) σ Hr H K=mY s b σ (σ s) (fun σ=>ax S c d σ Hr H fun x H'=>lU S r (eZ σ d x) Hr H' K) (fun σ=>lU S r (eZ σ d .undef) Hr H K):=id rfl
end
def Fq(d:D)(A B:Prop):Prop:=match d with
 | .v (.bool t)=>(t=true->A)/\(t=false->B)
 | _=>False
@[simp high] theorem qlc:Fq (.v (.bool true)) A B=A:=by simp[Fq]
@[simp high] theorem qld:Fq (.v (.bool false)) A B=B:=by simp[Fq]
def Pc(agg:Bool)(sz b off:Nat)(r:Option Res)(K:D->Prop):Prop:=match r with
 | some (.box b' cells)=>b'=b/\off+sz<=cells.length/\K (K6 agg sz cells off)
 | _=>False
def Pb(agg:Bool)(sz:Nat)(x:Value)(n i off:Nat)(r:Option Res)(K:D->Prop):Prop:=match r with
 | some (.row x' _ n' es)=>x'=x/\n'=n/\off+sz<=n/\i < es.length/\∀d,es[i]? =some d->K (K6 agg sz d.cells off)
 | _=>False
def Fw(agg:Bool)(sz:Nat)(d:D)(H:ab)(K:D->Prop):Prop:=match d with
 | .cptr cs off=>off+sz<=cs.length/\K (K6 agg sz cs off)
 | .bptr id b off=>Pc agg sz b off (H id) K
 | .eptr id x n i off=>Pb agg sz x n i off (H id) K
 | _=>False
@[simp] theorem qlB:Fw agg sz (.cptr cs off) H K=(off+sz<=cs.length/\K (K6 agg sz cs off)):=id rfl
@[simp] theorem qlC:Fw agg sz (.bptr i b off) H K=Pc agg sz b off (H i) K:=id rfl
@[simp] theorem qlA(k:Nat):Fw agg sz (.eptr i x n k off) H K=Pb agg sz x n k off (H i) K:=id rfl
@[simp] theorem qlE:Pc agg sz b off (some (.box b' cells)) K=(b'=b/\off+sz<=cells.length/\K (K6 agg sz cells off)):=id rfl
@[simp] theorem qlD:Pb agg sz x n i off (some (.row x' el n' es)) K=(x'=x/\n'=n/\off+sz<=n/\i < es.length/\∀d,es[i]? =some d->K (K6 agg sz d.cells off)):=id rfl
def VK(d:D)(K:D->Prop):Prop:=match d with
 | .cptr cs off=>K (.cptr cs off)
 | .bptr id b off=>K (.bptr id b off)
 | .eptr id x n i off=>K (.eptr id x n i off)
 | .tape L=>K (.tape L)
 | .clo f caps=>K (.clo f caps)
 | _=>False
@[simp] theorem qom:VK (.cptr cs off) K=K (.cptr cs off):=id rfl
@[simp] theorem qon:VK (.bptr i b off) K=K (.bptr i b off):=id rfl
def Jp(op:BinOp)(d e:D)(K:D->Prop):Prop:=match d,e with
 | .v (.int k a), .v (.int k' b)=>WW op k k'/\gQ op k a b K
 | _,_=>False
@[simp] theorem qak(op:BinOp)(k k':IntKind)(a b:Int)(K:D->Prop):Jp op (.v (.int k a)) (.v (.int k' b)) K=(WW op k k'/\gQ op k a b K):=id rfl
@[simp] theorem qck(k k':IntKind):WW .add k k'=(k=k'):=id rfl
@[simp] theorem qlM:WW .sub k k'=(k=k'):=id rfl
@[simp] theorem qlR:WW .mul k k'=(k=k'):=id rfl
@[simp] theorem qlQ:WW .quo k k'=(k=k'):=id rfl
@[simp] theorem qlP:WW .rem k k'=(k=k'):=id rfl
@[simp] theorem qlS:WW .and k k'=(k=k'):=id rfl
@[simp] theorem qoU:WW .or k k'=(k=k'):=id rfl
@[simp] theorem qlO:WW .shl k k'=True:=id rfl
@[simp] theorem qlN:WW .shr k k'=True:=id rfl
@[simp ↓] theorem WO(k:IntKind)(a b:Int)(K:D->Prop):gQ .add k a b K=(InR k (a+b)/\K (.v (.int k (a+b)))):=id rfl
@[simp ↓] theorem qhr(b:Int):gQ .sub k a b K=(InR k (a -b)/\K (.v (.int k (a -b)))):=id rfl
@[simp ↓] theorem qhw(b:Int):gQ .mul k a b K=(InR k (a*b)/\K (.v (.int k (a*b)))):=id rfl
@[simp ↓] theorem qhv(b:Int):gQ .quo k a b K=(b≠0/\InR k (a.tdiv b)/\K (.v (.int k (a.tdiv b)))):=id rfl
@[simp ↓] theorem qhu(b:Int):gQ .rem k a b K=(b≠0/\K (.v (.int k (a.tmod b)))):=id rfl
@[simp ↓] theorem qhx(b:Int):gQ .and k a b K=K (.v (.int k (SX k a b))):=id rfl
@[simp ↓] theorem qj0(b:Int):gQ .or k a b K=K (.v (.int k (qis k a b))):=id rfl
@[simp ↓] theorem qht(b:Int):gQ .shl k a b K=(0<=b/\K (.v (.int k (OE k a b)))):=id rfl
@[simp ↓] theorem qhs(b:Int):gQ .shr k a b K=(0<=b/\K (.v (.int k (XM k a b)))):=id rfl
def qbK(d:D)(K:D->Prop):Prop:=match d with
 | .v (.int _ n)=>K (.v (.string (Utf8.encode n)))
 | _=>False
@[simp] theorem qnY(n:Int):qbK (.v (.int k n)) K=K (.v (.string (Utf8.encode n))):=id rfl
def SM(o:Option Bool)(K:D->Prop):Prop:=match o with|some t=>K (.v (.bool t))|none=>False
@[simp] theorem qge(t:Bool)(K:D->Prop):SM (some t) K=K (.v (.bool t)):=id rfl
def WD(op:BinOp)(d e:D)(K:D->Prop):Prop:=match d,e with
 | .v (.int k a), .v (.int k' b)=>k=k'/\SM (Qc op a b) K
 | .v (.string a), .v (.string b)=>SM (SL op a b) K
 | _,_=>False
@[simp] theorem qgd(op:BinOp)(k k':IntKind)(a b:Int)(K:D->Prop):WD op (.v (.int k a)) (.v (.int k' b)) K=(k=k'/\SM (Qc op a b) K):=id rfl
@[simp] theorem qpN(a b:ByteArray):WD op (.v (.string a)) (.v (.string b)) K=SM (SL op a b) K:=id rfl
@[simp] theorem Z1(a b:Int):Qc .lss a b=some (decide (a < b)):=id rfl
@[simp] theorem qjG(b:Int):Qc .leq a b=some (decide (a<=b)):=id rfl
@[simp] theorem qjH(b:Int):Qc .gtr a b=some (decide (b < a)):=id rfl
@[simp] theorem qjI(b:Int):Qc .geq a b=some (decide (b<=a)):=id rfl
@[simp] theorem qjD(a b:ByteArray):SL .lss a b=some (Op.bytesLess a.toList b.toList):=id rfl
@[simp] theorem qjE(a b:ByteArray):SL .gtr a b=some (!(Op.bytesLess a.toList b.toList||a.toList==b.toList)):=id rfl
@[simp] theorem qjF(a b:ByteArray):SL .geq a b=some (!Op.bytesLess a.toList b.toList):=id rfl
def Wv(neg:Bool)(o:Option Bool)(K:D->Prop):Prop:=match o with
 | some p=>K (.v (.bool (if neg then !p else p)))
 | none=>False
@[simp] theorem qpt(p:Bool):Wv false (some p) K=K (.v (.bool p)):=id rfl
@[simp] theorem qps(p:Bool):Wv true (some p) K=K (.v (.bool (!p))):=id rfl
@[simp] theorem qrN(k:WS)(a b:D):qfQ false [k] a b=WX k a b:=id rfl
@[simp] theorem qrM(a b:List D):qfQ true ks (.agg a) (.agg b)=qcN ks a b:=id rfl
@[simp] theorem qrL:qcN [] [] []=some true:=id rfl
@[simp] theorem qrK(k:WS)(a b:D)(as bs:List D):qcN (k::ks) (a::as) (b::bs)=(WX k a b).bind fun p=>(qcN ks as bs).bind fun q=>some (p && q):=id rfl
@[simp] theorem qrP(b:Int):WX .int (.v (.int k a)) (.v (.int k' b))=if k=k' then some (decide (a=b))else none:=id rfl
@[simp] theorem qrO(a b:ByteArray):WX .str (.v (.string a)) (.v (.string b))=some (decide (a=b)):=id rfl
@[simp] theorem qrQ(a b:Bool):WX .bool (.v (.bool a)) (.v (.bool b))=some (decide (a=b)):=id rfl
def Tt(d e:D)(K:D->Prop):Prop:=match d,e with
 | .v (.string a), .v (.string b)=>a.size+b.size<=1000000000/\K (.v (.string (a++b)))
 | _,_=>False
@[simp] theorem qkP(a b:ByteArray):Tt (.v (.string a)) (.v (.string b)) K=(a.size+b.size<=1000000000/\K (.v (.string (a++b)))):=id rfl
def qb2(d:D)(K:D->Prop):Prop:=match d with
 | .v (.bool b)=>K (.v (.bool (!b)))
 | _=>False
@[simp] theorem qoi(b:Bool):qb2 (.v (.bool b)) K=K (.v (.bool (!b))):=id rfl
def Un(k:IntKind)(d:D)(K:D->Prop):Prop:=match d with
 | .v (.int _ n)=>K (.v (.int k (k.wrap n)))
 | _=>False
@[simp] theorem qmI(n:Int):Un k (.v (.int k' n)) K=K (.v (.int k (k.wrap n))):=id rfl
def Rj(n id:Nat)(x:Value)(lo hi:Option (Option (IntKind×Int)))(r:Option Res)(K:D->Prop):Prop:=match r with
 | some (.row x' _ n' es)=>x'=x/\n'=n/\tW lo hi es.length fun l h=>K (.sub id x n l h)
 | _=>False
@[simp] theorem qib(lo hi:Option (Option (IntKind×Int))):Rj n i x lo hi (some (.row x' el n' es)) K=(x'=x/\n'=n/\tW lo hi es.length fun l h=>K (.sub i x n l h)):=id rfl
@[simp] theorem qpJ(K:Nat->Nat->Prop):tW (some (some (k,l))) none len K=(0<=l/\l<=len/\K l.toNat len):=id rfl
def Hp(n:Nat)(d:D)(lo hi:Option (Option (IntKind×Int)))(H:ab)(K:D->Prop):Prop:=match d with
 | .list n' es=>n'=n/\(match lo,hi with
   | none,none=>K (.list n es)
   | some (some (_,l)),none=>0<=l/\l<=es.length/\K (.list n (es.drop l.toNat))
   | none,some (some (_,h))=>0<=h/\h<=es.length/\K (.list n (es.take h.toNat))
   | some (some (_,l)),some (some (_,h))=>0<=l/\l<=h/\h<=es.length/\K (.list n ((es.take h.toNat).drop l.toNat))
   | _,_=>False)
 | .own id x=>Rj n id x lo hi (H id) K
 | .sub id x n' a b=>n'=n/\tW lo hi (b -a) fun l h=>K (.sub id x n (a+l) (a+h))
 | .v (.slice none 0 0)=>tW lo hi 0 fun _ _=>K (.v (.slice none 0 0))
 | _=>False
@[simp] theorem qia(lo hi:Option (Option (IntKind×Int))):Hp n (.own i x) lo hi H K=Rj n i x lo hi (H i) K:=id rfl
@[simp] theorem qgW:Hp n (.list n' es) (some (some (k,l))) none H K=(n'=n/\0<=l/\l<=es.length/\K (.list n (es.drop l.toNat))):=id rfl
@[simp] theorem qgV:Hp n (.list n' es) none (some (some (k,l))) H K=(n'=n/\0<=l/\l<=es.length/\K (.list n (es.take l.toNat))):=id rfl
def Gt(d:D)(lo hi:Option (Option (IntKind×Int)))(K:D->Prop):Prop:=match d with
 | .v (.string s)=>(match lo,hi with
   | none,none=>K (.v (.string (s.extract 0 s.size)))
   | some (some (_,l)),none=>0<=l/\l<=s.size/\K (.v (.string (s.extract l.toNat s.size)))
   | none,some (some (_,h))=>0<=h/\h<=s.size/\K (.v (.string (s.extract 0 h.toNat)))
   | some (some (_,l)),some (some (_,h))=>0<=l/\l<=h/\h<=s.size/\K (.v (.string (s.extract l.toNat h.toNat)))
   | _,_=>False)
 | _=>False
@[simp] theorem qeQ:Gt (.v (.string s)) (some (some (k,l))) none K=(0<=l/\l<=s.size/\K (.v (.string (s.extract l.toNat s.size)))):=id rfl
@[simp] theorem qeR:Gt (.v (.string s)) (some (some (k,l))) (some (some (k',h))) K=(0<=l/\l<=h/\h<=s.size/\K (.v (.string (s.extract l.toNat h.toNat)))):=id rfl
def BF(off:Nat)(d:D)(K:D->Prop):Prop:=match d with
 | .cptr cs o=>K (.cptr cs (o+off))
 | .bptr id b o=>K (.bptr id b (o+off))
 | .eptr id x n i o=>K (.eptr id x n i (o+off))
 | _=>False
@[simp] theorem qjk:BF off (.cptr cs o) K=K (.cptr cs (o+off)):=id rfl
@[simp] theorem qjl:BF off (.bptr i b o) K=K (.bptr i b (o+off)):=id rfl
@[simp] theorem qjj(k:Nat):BF off (.eptr i x n k o) K=K (.eptr i x n k (o+off)):=id rfl
def qcK(agg:Bool)(sz off:Nat)(d:D)(K:D->Prop):Prop:=match d with
 | .agg cs=>off+sz<=cs.length/\K (K6 agg sz cs off)
 | _=>False
@[simp] theorem qpl:qcK agg sz off (.agg cs) K=(off+sz<=cs.length/\K (K6 agg sz cs off)):=id rfl
def II(n:Nat)(k:Int)(id:Nat)(x:Value)(r:Option Res)(K:D->Prop):Prop:=match r with
 | some (.row x' _ n' es)=>x'=x/\n'=n/\0<=k/\k < es.length/\K (.eptr id x n k.toNat 0)
 | _=>False
def BD(n:Nat)(i d:D)(H:ab)(K:D->Prop):Prop:=match i with
 | .v (.int _ k)=>match d with
   | .list n' es=>n'=n/\0<=k/\k < es.length/\∀d,es[k.toNat]? =some d->K (.cptr d.cells 0)
   | .own id x=>II n k id x (H id) K
   | .sub id x n' lo hi=>n'=n/\0<=k/\k < (hi -lo:Nat)/\K (.eptr id x n (lo+k.toNat) 0)
   | _=>False
 | _=>False
@[simp] theorem qiZ(k:Int):BD n (.v (.int kd k)) (.sub i x n' lo hi) H K=(n'=n/\0<=k/\k < (hi -lo:Nat)/\K (.eptr i x n (lo+k.toNat) 0)):=id rfl
@[simp] theorem qi1(k:Int):BD n (.v (.int kd k)) (.list n' es) H K=(n'=n/\0<=k/\k < es.length/\∀d,es[k.toNat]? =some d->K (.cptr d.cells 0)):=id rfl
@[simp] theorem qi0(k:Int):BD n (.v (.int kd k)) (.own i x) H K=II n k i x (H i) K:=id rfl
@[simp] theorem qi2(k:Int):II n k i x (some (.row x' el n' es)) K=(x'=x/\n'=n/\0<=k/\k < es.length/\K (.eptr i x n k.toNat 0)):=id rfl
def Ts(i d:D)(K:D->Prop):Prop:=match i with
 | .v (.int _ k)=>match d with
   | .v (.string s)=>0<=k/\k < s.size/\∀c,s.data[k.toNat]? =some c->K (.v (.int .u8 c.toNat))
   | _=>False
 | _=>False
@[simp] theorem qkO(k:Int):Ts (.v (.int kd k)) (.v (.string s)) K=(0<=k/\k < s.size/\∀c,s.data[k.toNat]? =some c->K (.v (.int .u8 c.toNat))):=id rfl
def Zw(o:Option D)(K:D->Prop):Prop:=match o with
 | some d=>K d
 | none=>False
def Zv(d:D)(i:Nat)(K:D->Prop):Prop:=match d with
 | .tup ds=>Zw ds[i]? K
 | _=>False
@[simp] theorem qpn:Zv (.tup ds) i K=Zw ds[i]? K:=id rfl
@[simp] theorem qpo:Zw (some d) K=K d:=id rfl
def YV(x:Value)(r:Option Res)(K:D->Prop):Prop:=match r with
 | some (.row x' _ _ es)=>x'=x/\((es.length:Int)<=9223372036854775807->K (.v (.int .i64 es.length)))
 | _=>False
def Sj(d:D)(H:ab)(K:D->Prop):Prop:=match d with
 | .list _ es=>(es.length:Int)<=9223372036854775807->K (.v (.int .i64 es.length))
 | .own id x=>YV x (H id) K
 | .v (.slice _ n _)=>K (.v (.int .i64 n))
 | .sub _ _ _ lo hi=>((hi -lo:Nat):Int)<=9223372036854775807->K (.v (.int .i64 (hi -lo:Nat)))
 | _=>False
@[simp] theorem qoL:Sj (.list n es) H K=((es.length:Int)<=9223372036854775807->K (.v (.int .i64 es.length))):=id rfl
@[simp] theorem qoK:Sj (.own i x) H K=YV x (H i) K:=id rfl
@[simp] theorem qlF(a:Option Addr)(c:Nat):Sj (.v (.slice a n c)) H K=K (.v (.int .i64 n)):=id rfl
@[simp] theorem qoM:YV x (some (.row x' el n es)) K=(x'=x/\((es.length:Int)<=9223372036854775807->K (.v (.int .i64 es.length)))):=id rfl
def Z7(x:Value)(r:Option Res)(K:D->Prop):Prop:=match r with
 | some (.row x' _ n es)=>x'=x/\n=1/\qdY es=true/\K (.v (.string (qgj es)))
 | _=>False
@[simp] theorem qqf:Z7 x (some (.row x' el n es)) K=(x'=x/\n=1/\qdY es=true/\K (.v (.string (qgj es)))):=id rfl
def qc8(d:D)(H:ab)(K:D->Prop):Prop:=match d with
 | .own i x=>Z7 x (H i) K
 | .v (.slice none 0 0)=>K (.v (.string ⟨#[]⟩))
 | _=>False
@[simp] theorem qqe:qc8 (.own i x) H K=Z7 x (H i) K:=id rfl
def OC(d:D)(K:D->Prop):Prop:=match d with
 | .v (.string s)=>(s.size:Int)<=9223372036854775807->K (.v (.int .i64 s.size))
 | _=>False
@[simp] theorem qkN:OC (.v (.string s)) K=((s.size:Int)<=9223372036854775807->K (.v (.int .i64 s.size))):=id rfl
def YG(mx:Bool)(d e:D)(K:D->Prop):Prop:=match d,e with
 | .v (.int k a), .v (.int k' b)=>k=k'/\K (.v (.int k (if mx then max a b else min a b)))
 | _,_=>False
@[simp] theorem qoB(b:Int):YG mx (.v (.int k a)) (.v (.int k' b)) K=(k=k'/\K (.v (.int k (if mx then max a b else min a b)))):=id rfl
@[simp ↓] theorem qhq(K:List D->Prop):kb σ [] cs K=K cs:=id rfl
@[simp ↓] theorem qgk(x:Operand)(r:List (Nat×Nat×Operand))(K:List D->Prop):kb σ ((off,sz,x)::r) cs K=((ev σ x).kn=true/\(ev σ x).cells.length=sz/\kb σ r (setAt cs off (ev σ x).cells) K):=id rfl
@[simp] theorem qg0:kX n []=True:=id rfl
@[simp] theorem qe9(r:List D):kX n (d::r)=(d.kn=true/\d.cells.length=n/\kX n r):=id rfl
def Vd(n lo hi:Nat)(x:Value)(r:Option Res)(K:List D->Prop):Prop:=match r with
 | some (.row x' _ n'' es)=>x'=x/\n''=n/\K ((es.take hi).drop lo)
 | _=>False
@[simp] theorem qnM(K:List D->Prop):Vd n lo hi x (some (.row x' el n' es)) K=(x'=x/\n'=n/\K ((es.take hi).drop lo)):=id rfl
@[simp] theorem qqX(K:List D->Prop):ms n (.sub i x n' lo hi) H K=(n'=n/\Vd n lo hi x (H i) K):=by
 simp only[ms]
 cases H i with
 | none=>simp[Vd]
 | some r=>cases r <;> simp[Vd,and_left_comm]
@[simp] theorem qnN(K:List D->Prop):ue n (.list n' es) H K=(n'=n/\K es):=id rfl
@[simp] theorem qnO(K:List D->Prop):ue n (.v (.string s)) H K=(n=1/\K (D3 s)):=id rfl
def qoC(t el n bytes:Nat)(agg:Bool)(z:List Value)(l c:Option (IntKind×Int))(H:ab)(K:D->ab->Prop):Prop:=match l,c with
 | some (_,l),some (_,c)=>0<=l/\l<=c/\bytes*c<=140737488355328/\c<=140737488355328/\∀x,K (.own t x) (ah H t (some (.row x el n (List.replicate l.toNat (if agg then .agg (z.map uA)else uA (z.headD (.bool false)))))))
 | _,_=>False
@[simp] theorem qrs(c:Int)(K:D->ab->Prop):qoC t el n bytes agg z (some (k,l)) (some (k',c)) H K=(0<=l/\l<=c/\bytes*c<=140737488355328/\c<=140737488355328/\∀x,K (.own t x) (ah H t (some (.row x el n (List.replicate l.toNat (if agg then .agg (z.map uA)else uA (z.headD (.bool false)))))))):=id rfl
def AT(sz id b off:Nat)(y:D)(r:Option Res)(H:ab)(K:D->ab->Prop):Prop:=match r with
 | some (.box b' cells)=>b'=b/\off+sz<=cells.length/\K .undef (ah H id (some (.box b' (setAt cells off y.cells))))
 | _=>False
def AS(sz id:Nat)(x:Value)(n i off:Nat)(y:D)(r:Option Res)(H:ab)(K:D->ab->Prop):Prop:=match r with
 | some (.row x' el n' es)=>x'=x/\n'=n/\0 < n/\off+sz<=n/\i < es.length/\∀d,es[i]? =some d->
    K .undef (ah H id (some (.row x' el n' (es.set i (if off=0/\sz=n then y else .agg (setAt d.cells off y.cells))))))
 | _=>False
def Hm(sz:Nat)(d y:D)(H:ab)(K:D->ab->Prop):Prop:=match d with
 | .bptr id b off=>AT sz id b off y (H id) H K
 | .eptr id x n i off=>AS sz id x n i off y (H id) H K
 | _=>False
@[simp] theorem qh3(y:D)(K:D->ab->Prop):Hm sz (.bptr i b off) y H K=AT sz i b off y (H i) H K:=id rfl
@[simp] theorem qh2(k:Nat)(y:D)(K:D->ab->Prop):Hm sz (.eptr i x n k off) y H K=AS sz i x n k off y (H i) H K:=id rfl
@[simp] theorem qh5(y:D)(K:D->ab->Prop):AT sz i b off y (some (.box b' cells)) H K=(b'=b/\off+sz<=cells.length/\K .undef (ah H i (some (.box b' (setAt cells off y.cells))))):=id rfl
@[simp] theorem qh4(k:Nat)(y:D)(K:D->ab->Prop):AS sz i x n k off y (some (.row x' el n' es)) H K=(x'=x/\n'=n/\0 < n/\off+sz<=n/\k < es.length/\∀d,es[k]? =some d->
 K .undef (ah H i (some (.row x' el n' (es.set k (if off=0/\sz=n then y else .agg (setAt d.cells off y.cells))))))):=id rfl
def qao(el n bytes id:Nat)(x:Value)(es2:List D)(r:Option Res)(H:ab)(K:D->ab->Prop):Prop:=match r with
 | some (.row x' el' n' es)=>x'=x/\el'=el/\n'=n/\(es.length+es2.length) *bytes<=140737488355328/\es.length+es2.length<=140737488355328/\∀v,K (.own id v) (ah H id (some (.row v el n (es++es2))))
 | _=>False
def qqr(el n bytes id:Nat)(x:Value)(n' lo hi:Nat)(es2:List D)(r:Option Res)(H:ab)(K:D->ab->Prop):Prop:=match r with
 | some (.row x' el' n'' es)=>x'=x/\el'=el/\n'=n/\n''=n/\lo=0/\(hi+es2.length) *bytes<=140737488355328/\hi+es2.length<=140737488355328/\∀v,K (.own id v) (ah H id (some (.row v el n (es.take hi++es2))))
 | _=>False
def qpM(n id:Nat)(x:Value)(src:List D)(r:Option Res)(H:ab)(K:D->ab->Prop):Prop:=match r with
 | some (.row x' el n' es)=>x'=x/\n'=n/\K (.v (.int .i64 (min src.length es.length:Nat))) (ah H id (some (.row x' el n' (src.take es.length++es.drop src.length))))
 | _=>False
def ZV(n id:Nat)(x:Value)(n' lo hi:Nat)(src:List D)(r:Option Res)(H:ab)(K:D->ab->Prop):Prop:=match r with
 | some (.row x' el n'' es)=>x'=x/\n'=n/\n''=n/\K (.v (.int .i64 (min src.length (hi -lo):Nat))) (ah H id (some (.row x' el n'' (es.take lo++src.take (hi -lo) ++es.drop (lo+min src.length (hi -lo))))))
 | _=>False
def qcX(n:Nat)(d:D)(src:List D)(H:ab)(K:D->ab->Prop):Prop:=match d with
 | .own id x=>qpM n id x src (H id) H K
 | .sub id x n' lo hi=>ZV n id x n' lo hi src (H id) H K
 | _=>False
@[simp] theorem qpK(K:D->ab->Prop):qcX n (.sub i x n' lo hi) src H K=ZV n i x n' lo hi src (H i) H K:=id rfl
@[simp] theorem qpL(K:D->ab->Prop):ZV n i x n' lo hi src (some (.row x' el n'' es)) H K=(x'=x/\n'=n/\n''=n/\K (.v (.int .i64 (min src.length (hi -lo):Nat))) (ah H i (some (.row x' el n'' (es.take lo++src.take (hi -lo) ++es.drop (lo+min src.length (hi -lo))))))):=id rfl
@[simp] theorem qqL:NY false z=uA (z.headD (.bool false)):=id rfl
def Zk(t:Nat)(x:Value)(id:Nat)(σ:Sg)(r:Option Res)(H:ab)(K:Sg->ab->Prop):Prop:=match r with
 | some (.row x' _ n' es)=>x'=x/\K (Wt id x (.list n' es) σ) (ah H id none)
 | _=>False
def qpj(t b off:Nat)(id:Nat)(σ:Sg)(r:Option Res)(H:ab)(K:Sg->ab->Prop):Prop:=match r with
 | some (.box b' cs)=>b'=b/\K (upd σ t (.cptr cs off)) (ah H id none)
 | _=>False
def qpc(t n:Nat)(x:Value)(id n' lo hi:Nat)(σ:Sg)(r:Option Res)(H:ab)(K:Sg->ab->Prop):Prop:=match r with
 | some (.row x' el n'' es)=>x'=x/\n'=n''/\(if n=0 then lo=0/\∀v,K (upd σ t (.own id v)) (ah H id (some (.row v el n'' (es.take hi))))else K (upd σ t (.list n'' ((es.take hi).drop lo))) (ah H id none))
 | _=>False
def qcH(t n:Nat)(d:D)(σ:Sg)(H:ab)(K:Sg->ab->Prop):Prop:=match d with
 | .own id x=>Zk t x id σ (H id) H K
 | .bptr id b off=>qpj t b off id σ (H id) H K
 | .v (.slice none 0 0)=>K (upd σ t (.list n [])) H
 | .sub id x n' lo hi=>qpc t n x id n' lo hi σ (H id) H K
 | .agg cs=>EL cs H fun cs' H'=>K (upd σ t (.agg cs')) H'
 | _=>K σ H
@[simp ↓] theorem qsK(K:Sg->ab->Prop):FC t n σ H K=qcH t n (σ t) σ H K:=id rfl
@[simp] theorem qpb(K:Sg->ab->Prop):qcH t n (.own i x) σ H K=Zk t x i σ (H i) H K:=id rfl
@[simp] theorem qpd(K:Sg->ab->Prop):Zk t x i σ (some (.row x' el n' es)) H K=(x'=x/\K (Wt i x (.list n' es) σ) (ah H i none)):=id rfl
@[simp] theorem qpe(y:Value):Kn id x L (.own i y)=open Classical in (if i=id/\y=x then L else .own i y):=_root_.id rfl
@[simp] theorem qpi:Kn id x L (.any)= .any:=_root_.id rfl
@[simp] theorem qpg:Kn id x L (.agg cs)= .agg cs:=_root_.id rfl
@[simp] theorem qpf:Kn id x L (.list n es)= .list n es:=_root_.id rfl
@[simp] theorem qph:Kn id x L (.cptr cs o)= .cptr cs o:=_root_.id rfl
def qbG(d:D)(K:D->Prop):Prop:=match d with
 | .v (.string s)=>K (.list 1 (s.data.toList.map fun c=> .v (.int .u8 c.toNat)))
 | _=>False
@[simp] theorem qnU:qbG (.v (.string s)) K=K (.list 1 (s.data.toList.map fun c=> .v (.int .u8 c.toNat))):=id rfl
def XK(t:Nat)(d:D)(H:ab)(K:D->ab->Prop):Prop:=match d with
 | .v (.string s)=>∀b,K (.bptr t b 0) (ah H t (some (.iter b s 0)))
 | _=>False
@[simp] theorem qnL(K:D->ab->Prop):XK t (.v (.string s)) H K=∀b,K (.bptr t b 0) (ah H t (some (.iter b s 0))):=id rfl
def XL(id b:Nat)(r:Option Res)(H:ab)(K:D->ab->Prop):Prop:=match r with
 | some (.iter b' s pos)=>b'=b/\(pos < s.size->K (.tup [.v (.bool true), .v (.int .i64 pos), .v (.int .i32 (Utf8.decode s pos).1)]) (ah H id (some (.iter b' s (pos+ (Utf8.decode s pos).2)))))/\(¬pos < s.size->K (.tup [.v (.bool false)]) H)
 | _=>False
@[simp] theorem qnQ(pos:Nat)(K:D->ab->Prop):XL id b (some (.iter b' s pos)) H K=(b'=b/\(pos < s.size->K (.tup [.v (.bool true), .v (.int .i64 pos), .v (.int .i32 (Utf8.decode s pos).1)]) (ah H id (some (.iter b' s (pos+ (Utf8.decode s pos).2)))))/\(¬pos < s.size->K (.tup [.v (.bool false)]) H)):=_root_.id rfl
def qbC(d:D)(H:ab)(K:D->ab->Prop):Prop:=match d with
 | .bptr id b off=>off=0/\XL id b (H id) H K
 | _=>False
@[simp] theorem qnP(K:D->ab->Prop):qbC (.bptr i b off) H K=(off=0/\XL i b (H i) H K):=id rfl
def qdf(dst:Option Nat)(el n b:Nat)(d:D)(es2:List D)(H:ab)(K:D->ab->Prop):Prop:=match dst,d with
 | some t, .v (.slice none 0 0)=>es2.length*b<=140737488355328/\es2.length<=140737488355328/\∀v,K (.own t v) (ah H t (some (.row v el n es2)))
 | _,_=>False
@[simp] theorem qqu(K:D->ab->Prop):qdf (some t) el n b (.v (.slice none 0 0)) es2 H K=(es2.length*b<=140737488355328/\es2.length<=140737488355328/\∀v,K (.own t v) (ah H t (some (.row v el n es2)))):=id rfl
def qal(el n b r:Nat)(x:Value)(es2:List D)(q:Option Res)(H:ab)(K:D->ab->Prop):Prop:=match q with
 | some (.row x' el' n' es)=>x'=x/\el'=el/\n'=n/\(es.length+es2.length) *b<=140737488355328/\es.length+es2.length<=140737488355328/\∀v,K (.own r v) (ah H r (some (.row v el n (es++es2))))
 | _=>False
@[simp] theorem qqo(r:Nat)(K:D->ab->Prop):qal el n b r x es2 (some (.row x' el' n' es)) H K=(x'=x/\el'=el/\n'=n/\(es.length+es2.length) *b<=140737488355328/\es.length+es2.length<=140737488355328/\∀v,K (.own r v) (ah H r (some (.row v el n (es++es2))))):=id rfl
def qde(r el n b:Nat)(d:D)(es2:List D)(H:ab)(K:D->ab->Prop):Prop:=match d with
 | .own id x=>id=r/\qal el n b r x es2 (H r) H K
 | _=>False
@[simp] theorem qqn(r:Nat)(K:D->ab->Prop):qde r el n b (.own i x) es2 H K=(i=r/\qal el n b r x es2 (H r) H K):=id rfl
def Oy(r sz:Nat)(d y:D)(H:ab)(K:D->ab->Prop):Prop:=match d with
 | .bptr id b off=>id=r/\AT sz r b off y (H r) H K
 | .eptr id x n i off=>id=r/\AS sz r x n i off y (H r) H K
 | _=>False
@[simp] theorem qkE(r:Nat)(y:D)(K:D->ab->Prop):Oy r sz (.bptr i b off) y H K=(i=r/\AT sz r b off y (H r) H K):=id rfl
@[simp] theorem qkD(r:Nat)(k:Nat)(y:D)(K:D->ab->Prop):Oy r sz (.eptr i x n k off) y H K=(i=r/\AS sz r x n k off y (H r) H K):=id rfl
def qqt(dst:Option Nat)(el n bytes:Nat)(es2:List D)(H:ab)(K:D->ab->Prop):Prop:=match dst with
 | some t=>es2.length*bytes<=140737488355328/\es2.length<=140737488355328/\∀v,K (.own t v) (ah H t (some (.row v el n es2)))
 | none=>False
def qam(dst:Option Nat)(el n bytes:Nat)(d:D)(es2:List D)(H:ab)(K:D->ab->Prop):Prop:=match d with
 | .own id x=>qao el n bytes id x es2 (H id) H K
 | .v (.slice none 0 0)=>qqt dst el n bytes es2 H K
 | .sub id x n' lo hi=>qqr el n bytes id x n' lo hi es2 (H id) H K
 | _=>False
@[simp] theorem qqp(K:D->ab->Prop):qam dst el n bytes (.own i x) es2 H K=qao el n bytes i x es2 (H i) H K:=id rfl
@[simp] theorem qqq(K:D->ab->Prop):qam (some t) el n bytes (.v (.slice none 0 0)) es2 H K=(es2.length*bytes<=140737488355328/\es2.length<=140737488355328/\∀v,K (.own t v) (ah H t (some (.row v el n es2)))):=id rfl
@[simp] theorem qqs(K:D->ab->Prop):qao el n bytes i x es2 (some (.row x' el' n' es)) H K=(x'=x/\el'=el/\n'=n/\(es.length+es2.length) *bytes<=140737488355328/\es.length+es2.length<=140737488355328/\∀v,K (.own i v) (ah H i (some (.row v el n (es++es2))))):=id rfl
def zA(S:Nat->Spc)(f:D)(d:Nat)(args:List D)(H:ab)(K:D->ab->Prop):Prop:=match f with
 | .clo g caps=>(S g).pt d (args++caps) H K
 | _=>False
@[simp] theorem qmP(d:Nat)(K:D->ab->Prop):zA S (.clo g caps) d args H K=(S g).pt d (args++caps) H K:=id rfl
@[congr] theorem qio{r:Nat}{s:Spc}{K:D->ab->Prop}(hs:s=s₁)(hargs:args=args₁):HX r dst s args H K=HX r dst s₁ args₁ H K:=by subst hs;subst hargs;rfl
@[congr] theorem qlb{s:Spc}{K:D->ab->Prop}(hs:s=s₁)(hargs:args=args₁):Vq dst s args H K=Vq dst s₁ args₁ H K:=by subst hs;subst hargs;rfl
section
variable {S:Nat->Spc}{σ:Sg}{H Hr:ab}{K:D->ab->Prop}
@[simp ↓] theorem qpW(dst:Option Nat)(x:Operand):ay S (.mv x) dst σ H K=((fun d=>K d H) (ev σ x)):=id rfl
@[simp ↓] theorem qsj(x:Operand):ax S (.mv x) dst σ Hr H K=((fun d=>K d H) (ev σ x)):=id rfl
@[simp ↓] theorem qpV(x:Operand):ay S (.pick c x y) dst σ H K=(Fq (ev σ c) ((fun d=>K d H) (ev σ x)) ((fun d=>K d H) (ev σ y))):=id rfl
@[simp ↓] theorem qn9(x:Operand):ax S (.pick c x y) dst σ Hr H K=(Fq (ev σ c) ((fun d=>K d H) (ev σ x)) ((fun d=>K d H) (ev σ y))):=id rfl
@[simp ↓] theorem qm0(ps:List (Nat×Nat×Operand)):ay S (.build z ps) dst σ H K=(kb σ ps (z.map uA) fun cs=>(fun d=>K d H) (.agg cs)):=id rfl
@[simp ↓] theorem qk5(ps:List (Nat×Nat×Operand)):ax S (.build z ps) dst σ Hr H K=(kb σ ps (z.map uA) fun cs=>(fun d=>K d H) (.agg cs)):=id rfl
@[simp ↓] theorem qjR:ay S (.bslice el n ps) dst σ H K=(kX n (ps.map (ev σ))/\(fun d=>K d H) (.list n (ps.map (ev σ)))):=id rfl
@[simp ↓] theorem qim:ax S (.bslice el n ps) dst σ Hr H K=(kX n (ps.map (ev σ))/\(fun d=>K d H) (.list n (ps.map (ev σ)))):=id rfl
@[simp ↓] theorem qp0(x:Operand):ay S (.load agg sz x) dst σ H K=(Fw agg sz (ev σ x) H (fun d=>K d H)):=id rfl
@[simp ↓] theorem qoa(x:Operand):ax S (.load agg sz x) dst σ Hr H K=(Fw agg sz (ev σ x) Hr (fun d=>K d H)):=id rfl
@[simp ↓] theorem qmT(x:Operand):ay S (.nilck x) dst σ H K=(VK (ev σ x) (fun d=>K d H)):=id rfl
@[simp ↓] theorem qk0(x:Operand):ax S (.nilck x) dst σ Hr H K=(VK (ev σ x) (fun d=>K d H)):=id rfl
@[simp ↓] theorem qc3(dst:Option Nat)(op:BinOp)(x y:Operand):ay S (.arith op x y) dst σ H K=(Jp op (ev σ x) (ev σ y) (fun d=>K d H)):=id rfl
@[simp ↓] theorem qk6(x:Operand):ax S (.arith op x y) dst σ Hr H K=(Jp op (ev σ x) (ev σ y) (fun d=>K d H)):=id rfl
@[simp ↓] theorem qjQ(dst:Option Nat)(op:BinOp)(x y:Operand):ay S (.cmp op x y) dst σ H K=(WD op (ev σ x) (ev σ y) (fun d=>K d H)):=id rfl
@[simp ↓] theorem qre(x:Operand):ax S (.cmp op x y) dst σ Hr H K=(WD op (ev σ x) (ev σ y) (fun d=>K d H)):=id rfl
@[simp ↓] theorem qrY(x:Operand):ay S (.eql neg agg ks x y) dst σ H K=(Wv neg (qfQ agg ks (ev σ x) (ev σ y)) (fun d=>K d H)):=id rfl
@[simp ↓] theorem qrd(x:Operand):ax S (.eql neg agg ks x y) dst σ Hr H K=(Wv neg (qfQ agg ks (ev σ x) (ev σ y)) (fun d=>K d H)):=id rfl
@[simp ↓] theorem qpT(x:Operand):ay S (.scat x y) dst σ H K=(Tt (ev σ x) (ev σ y) (fun d=>K d H)):=id rfl
@[simp ↓] theorem qrS(x:Operand):ay S (.not x) dst σ H K=(qb2 (ev σ x) (fun d=>K d H)):=id rfl
@[simp ↓] theorem qp2(x:Operand):ay S (.conv k x) dst σ H K=(Un k (ev σ x) (fun d=>K d H)):=id rfl
@[simp ↓] theorem qrZ:ay S (.clo f xs) dst σ H K=((fun d=>K d H) (.clo f (xs.map (ev σ)))):=id rfl
@[simp ↓] theorem qmS(x:Operand)(lo hi:Option Operand):ay S (.slice n x lo hi) dst σ H K=(Hp n (ev σ x) (lo.map fun o=>ub (ev σ o)) (hi.map fun o=>ub (ev σ o)) H (fun d=>K d H)):=id rfl
@[simp ↓] theorem qkZ(x:Operand)(lo hi:Option Operand):ax S (.slice n x lo hi) dst σ Hr H K=(Hp n (ev σ x) (lo.map fun o=>ub (ev σ o)) (hi.map fun o=>ub (ev σ o)) Hr (fun d=>K d H)):=id rfl
@[simp ↓] theorem qjL(x:Operand)(lo hi:Option Operand):ay S (.sslice x lo hi) dst σ H K=(Gt (ev σ x) (lo.map fun o=>ub (ev σ o)) (hi.map fun o=>ub (ev σ o)) (fun d=>K d H)):=id rfl
@[simp ↓] theorem qik(x:Operand)(lo hi:Option Operand):ax S (.sslice x lo hi) dst σ Hr H K=(Gt (ev σ x) (lo.map fun o=>ub (ev σ o)) (hi.map fun o=>ub (ev σ o)) (fun d=>K d H)):=id rfl
@[simp ↓] theorem qmY(x:Operand):ay S (.faddr off x) dst σ H K=(BF off (ev σ x) (fun d=>K d H)):=id rfl
@[simp ↓] theorem qk3(x:Operand):ax S (.faddr off x) dst σ Hr H K=(BF off (ev σ x) (fun d=>K d H)):=id rfl
@[simp ↓] theorem qrW(x:Operand):ay S (.fld agg sz off x) dst σ H K=(qcK agg sz off (ev σ x) (fun d=>K d H)):=id rfl
@[simp ↓] theorem qmX(x i:Operand):ay S (.iaddr n x i) dst σ H K=(BD n (ev σ i) (ev σ x) H (fun d=>K d H)):=id rfl
@[simp ↓] theorem qk2(x i:Operand):ax S (.iaddr n x i) dst σ Hr H K=(BD n (ev σ i) (ev σ x) Hr (fun d=>K d H)):=id rfl
@[simp ↓] theorem qpS(x i:Operand):ay S (.sidx x i) dst σ H K=(Ts (ev σ i) (ev σ x) (fun d=>K d H)):=id rfl
@[simp ↓] theorem qrX(x:Operand):ay S (.ext x i) dst σ H K=(Zv (ev σ x) i (fun d=>K d H)):=id rfl
@[simp ↓] theorem qrc(x:Operand):ax S (.ext x i) dst σ Hr H K=(Zv (ev σ x) i (fun d=>K d H)):=id rfl
@[simp ↓] theorem qrV(x:Operand):ay S (.len x) dst σ H K=(Sj (ev σ x) H (fun d=>K d H)):=id rfl
@[simp ↓] theorem qrb(x:Operand):ax S (.len x) dst σ Hr H K=(Sj (ev σ x) Hr (fun d=>K d H)):=id rfl
@[simp ↓] theorem qpR(x:Operand):ay S (.slen x) dst σ H K=(OC (ev σ x) (fun d=>K d H)):=id rfl
@[simp ↓] theorem qn8(x:Operand):ax S (.slen x) dst σ Hr H K=(OC (ev σ x) (fun d=>K d H)):=id rfl
@[simp ↓] theorem qp4(x:Operand):ay S (.bstr x) dst σ H K=(qc8 (ev σ x) H (fun d=>K d H)):=id rfl
@[simp ↓] theorem qpU(x:Operand):ay S (.rstr x) dst σ H K=(qbK (ev σ x) (fun d=>K d H)):=id rfl
@[simp ↓] theorem qrU(x:Operand):ay S (.mm mx [x,y]) dst σ H K=YG mx (ev σ x) (ev σ y) (fun d=>K d H):=id rfl
@[simp ↓] theorem qp5(x:Operand):ay S (.box el true x) dst σ H K=((ev σ x).kn=true/\K (.cptr (ev σ x).cells 0) H):=id rfl
@[simp ↓] theorem qm1:ay S (.alloc el z) (some t) σ H K=∀b,K (.bptr t b 0) (ah H t (some (.box b (z.map uA)))):=id rfl
@[simp ↓] theorem qr0(x:Operand):ay S (.box el false x) (some t) σ H K=((ev σ x).kn=true/\∀b,K (.bptr t b 0) (ah H t (some (.box b (ev σ x).cells)))):=id rfl
@[simp ↓] theorem qjO:ay S (.mslice el n ps) (some t) σ H K=(kX n (ps.map (ev σ))/\∀x,K (.own t x) (ah H t (some (.row x el n (ps.map (ev σ)))))):=id rfl
@[simp ↓] theorem qhp(l:Operand):ay S (.mkslice el n bytes agg z l c) (some t) σ H K=qoC t el n bytes agg z (ub (ev σ l)) (ub (ev σ c)) H K:=id rfl
@[simp ↓] theorem qra(x:Operand):ax S (.mm mx [x,y]) dst σ Hr H K=YG mx (ev σ x) (ev σ y) (fun d=>K d H):=id rfl
@[simp ↓] theorem qk7:ax S (.alloc el z) (some t) σ Hr H K=∀b,K (.bptr t b 0) (ah H t (some (.box b (z.map uA)))):=id rfl
@[simp ↓] theorem qil:ax S (.nslice el n) (some t) σ Hr H K=∀x,K (.own t x) (ah H t (some (.row x el n []))):=id rfl
@[simp ↓] theorem qgX(l:Operand):ax S (.mkslice el n bytes agg z l c) (some t) σ Hr H K=qoC t el n bytes agg z (ub (ev σ l)) (ub (ev σ c)) H K:=id rfl
@[simp ↓] theorem qjN(x:Operand):ay S (.sbytes x) dst σ H K=qbG (ev σ x) (fun d=>K d H):=id rfl
@[simp ↓] theorem qjM(x:Operand):ay S (.srange x) (some t) σ H K=XK t (ev σ x) H K:=by
 simp only[ay,bM,XK]
 split <;> simp_all
@[simp ↓] theorem qmR(x:Operand):ay S (.snext x) dst σ H K=qbC (ev σ x) H K:=id rfl
@[simp ↓] theorem qkY(r:Nat)(x:Operand):ax S (.store (some r) sz x y) dst σ Hr H K=((ev σ y).kn=true/\(ev σ y).cells.length=sz/\Oy r sz (ev σ x) (ev σ y) H K):=by
 simp only[ax]
 congr 2
@[simp ↓] theorem qmQ(x:Operand):ay S (.store rt sz x y) dst σ H K=((ev σ y).kn=true/\(ev σ y).cells.length=sz/\Hm sz (ev σ x) (ev σ y) H K):=id rfl
@[simp ↓] theorem qjS(x:Operand):ay S (.append rt el n bytes x y) dst σ H K=ue n (ev σ y) H fun es2=>qam dst el n bytes (ev σ x) es2 H K:=id rfl
@[simp ↓] theorem qgZ(x:Operand):ax S (.append none el n bytes x y) dst σ Hr H K=ue n (ev σ y) Hr fun es2=>qdf dst el n bytes (ev σ x) es2 H K:=by
 simp only[ax]
 congr 1
@[simp ↓] theorem qgY(r:Nat)(x:Operand):ax S (.append (some r) el n bytes x y) dst σ Hr H K=ue n (ev σ y) Hr fun es2=>qde r el n bytes (ev σ x) es2 H K:=by
 simp only[ax]
 congr 1
@[simp ↓] theorem qp1(x:Operand):ay S (.copy n x y) dst σ H K=ms n (ev σ y) H fun src=>qcX n (ev σ x) src H K:=id rfl
@[simp ↓] theorem qp3(args:List Operand):ay S (.call f args) dst σ H K=(S f).pt (dst.getD 0) (args.map (ev σ)) H K:=id rfl
@[simp ↓] theorem qk4(r:Nat)(args:List Operand):ax S (.callb r f args) dst σ Hr H K=HX r dst (S f) (args.map (ev σ)) H K:=id rfl
@[simp ↓] theorem qmZ(f:Operand)(args:List Operand):ay S (.callv f args) dst σ H K=zA S (ev σ f) (dst.getD 0) (args.map (ev σ)) H K:=id rfl
@[simp ↓] theorem qob(args:List Operand):ax S (.call f args) dst σ Hr H K=Vq dst (S f) (args.map (ev σ)) H K:=id rfl
end
theorem qhU(σ:Sg)(t s:Nat)(d:D):upd σ t d s=if s=t then d else σ s:=id rfl
theorem Q0(σ:Sg)(t:Nat)(d:D):eZ σ (some t) d=upd σ t d:=id rfl
theorem qeE(σ:Sg)(d:D):eZ σ none d=σ:=id rfl
theorem qeF(H:ab)(t s:Nat)(d:Option Res):ah H t d s=if s=t then d else H s:=id rfl
attribute [simp] Q0 qeE qeF
@[simp] theorem Xo(σ:Sg)(t:Nat):ev σ (.tmp t)=σ t:=id rfl
@[simp] theorem qbs(σ:Sg)(x:Value):ev σ (.const x)=uA x:=id rfl
@[simp] theorem qnI:ev σ (.func f)= .clo f []:=id rfl
@[simp] theorem qnJ(b:Bool):uA (.bool b)= .v (.bool b):=id rfl
@[simp] theorem qhR(k:IntKind)(n:Int):uA (.int k n)= .v (.int k n):=id rfl
@[simp] theorem qqP:uA (.string s)= .v (.string s):=id rfl
@[simp] theorem qqQ(a:Option Addr):uA (.pointer a)= .v (.pointer a):=id rfl
@[simp] theorem qkw(a:Option Addr)(l c:Nat):uA (.slice a l c)= .v (.slice a l c):=id rfl
theorem qiU(σ:Sg):jq [] σ=fun _=> .any:=id rfl
theorem qfC(t:Nat)(l:List Nat)(σ:Sg):jq (t::l) σ=upd (jq l σ) t (σ t):=id rfl
@[simp] theorem qoR:ko [] H=fun _=>none:=id rfl
@[simp] theorem qch(t:Nat)(l:List Nat)(H:ab):ko (t::l) H=ah (ko l H) t (H t):=id rfl
@[simp] theorem qok:bU i=none:=id rfl
@[simp] theorem qoJ:tj [] σ=True:=id rfl
@[simp] theorem qlx(l:List (Nat×D)):tj ((t,d)::l) σ=(Qz (σ t) d/\tj l σ):=id rfl
@[simp] theorem qoA:xp [] H=True:=id rfl
@[simp] theorem qlo(d:Res)(l:List (Nat×Res)):xp ((t,d)::l) H=((H t=some d\/isNilRow d)/\xp l H):=id rfl
@[simp] theorem sub_self(d:D):Qz d d=True:=by
 cases d <;> simp[Qz]
@[simp] theorem qqW(a:D):Qz a (.v x)=(a= .v x):=id rfl
@[simp] theorem qh0(a:D):Qz a (.cptr cs o)=(a= .cptr cs o):=id rfl
@[simp] theorem qkC(y:Value):Qz (.own i x) (.own j y)=(x=y):=by simp[Qz]
@[simp] theorem qhZ(y:Value):Qz (.v x) (.own j y)=(x=y):=by simp[Qz]
@[simp] theorem qst:K6 true sz cs off= .agg ((cs.drop off).take sz):=id rfl
@[simp] theorem qsu:K6 false sz cs off=(cs[off]?).getD .any:=id rfl
@[simp ↓] theorem qkW(rs:List aj)(K:D->ab->Prop):sy rs K .norm σ H=xM rs σ H fun ds=>K (jn ds) H:=id rfl
@[simp ↓] theorem qn6(rs:List aj)(K:D->ab->Prop):sy rs K .ret σ H=xM rs σ H fun ds=>K (jn ds) H:=id rfl
@[simp ↓] theorem qn5(K:List D->Prop):xM [] σ H K=K []:=id rfl
@[simp ↓] theorem qn4(r:List aj)(K:List D->Prop):xM (.tmp t::r) σ H K=xM r σ H fun ds=>K (σ t::ds):=id rfl
@[simp ↓] theorem qkV(r:List aj)(K:List D->Prop):xM (.cell t agg sz::r) σ H K=Fw agg sz (σ t) H fun d=>xM r σ H fun ds=>K (d::ds):=id rfl
@[simp] theorem qsm:jn [d]=d:=id rfl
@[simp] theorem qsn:jn []= .tup []:=id rfl
@[simp] theorem qsl(l:List D):jn (d::e::l)= .tup (d::e::l):=id rfl
@[simp] theorem qsA:D.kn (.v x)=true:=id rfl
@[simp] theorem qmN:D.cells (.v x)=[.v x]:=id rfl
@[simp] theorem qoQ:D.kn (.agg cs)=true:=id rfl
@[simp] theorem qho:D.cells (.agg cs)=cs:=id rfl
@[simp] theorem qlI:D.kn (.list n es)=true:=id rfl
@[simp] theorem qgf:D.cells (.list n es)=[.list n es]:=id rfl
@[simp] theorem qlJ:D.kn (.cptr cs o)=true:=id rfl
@[simp] theorem qgg:D.cells (.cptr cs o)=[.cptr cs o]:=id rfl
@[simp] theorem qoO:D.kn (.own i x)=true:=id rfl
@[simp] theorem qhm:D.cells (.own i x)=[.own i x]:=id rfl
@[simp] theorem qoN(k:Nat):D.kn (.sub i v n k o)=true:=id rfl
@[simp] theorem qhl(k:Nat):D.cells (.sub i v n k o)=[.sub i v n k o]:=id rfl
@[simp] theorem qoP:D.kn (.clo f cs)=true:=id rfl
@[simp] theorem qhn:D.cells (.clo f cs)=[.clo f cs]:=id rfl
@[simp] theorem qr3(n:Int):ub (.v (.int k n))=some (k,n):=id rfl
attribute [simp] setAt
@[simp] theorem qpz(n:Int):enc n= .v (.int .i64 n):=rfl
@[simp] theorem qmv(b:Bool):enc b= .v (.bool b):=rfl
@[simp] theorem qpy:enc s= .v (.string s):=rfl
@[simp] theorem qmu{X:Type}[Cod X](l:List X):enc l= .list (Cod.wd X) (l.map enc):=rfl
@[simp] theorem qnB:Cod.wd Int=1:=rfl
@[simp] theorem qko:Cod.wd Bool=1:=rfl
@[simp] theorem qnA:Cod.wd ByteArray=1:=rfl
@[simp] theorem qkn{X:Type}[Cod X]:Cod.wd (List X)=1:=rfl
@[congr] theorem qlU(hd:d=d₁):Pi d A B=Pi d₁ A B:=by subst hd;rfl
@[congr] theorem qhf{s:Nat}{b:Bool}(hd:d=d₁):mY s b σ d yes no=mY s b σ d₁ yes no:=by subst hd;rfl
@[congr] theorem qiq(hd:d=d₁):Fq d A B=Fq d₁ A B:=by subst hd;rfl
@[congr] theorem qiP(hr:r=r₁):Pc agg sz b off r K=Pc agg sz b off r₁ K:=by subst hr;rfl
@[congr] theorem qiO(hr:r=r₁):Pb agg sz x n i off r K=Pb agg sz x n i off r₁ K:=by subst hr;rfl
@[congr] theorem qiN(hd:d=d₁):Fw agg sz d H K=Fw agg sz d₁ H K:=by subst hd;rfl
@[congr] theorem qlh(hd:d=d₁):VK d K=VK d₁ K:=by subst hd;rfl
@[congr] theorem qhy(hd:d=d₁)(he:e=e₁):Jp op d e K=Jp op d₁ e₁ K:=by subst hd;subst he;rfl
@[congr] theorem qkS(hd:d=d₁):qbK d K=qbK d₁ K:=by subst hd;rfl
@[congr] theorem qmK{o:Option Bool}{o₁:Option Bool}(ho:o=o₁):SM o K=SM o₁ K:=by subst ho;rfl
@[congr] theorem qmJ(hd:d=d₁)(he:e=e₁):WD op d e K=WD op d₁ e₁ K:=by subst hd;subst he;rfl
@[congr] theorem qml{o:Option Bool}{o₁:Option Bool}(ho:o=o₁):Wv neg o K=Wv neg o₁ K:=by subst ho;rfl
@[congr] theorem qie(hd:d=d₁)(he:e=e₁):Tt d e K=Tt d₁ e₁ K:=by subst hd;subst he;rfl
@[congr] theorem qlf(hd:d=d₁):qb2 d K=qb2 d₁ K:=by subst hd;rfl
@[congr] theorem qjC(hd:d=d₁):Un k d K=Un k d₁ K:=by subst hd;rfl
@[congr] theorem qhh(hd:d=d₁):BF off d K=BF off d₁ K:=by subst hd;rfl
@[congr] theorem ql3(hd:d=d₁):qcK agg sz off d K=qcK agg sz off d₁ K:=by subst hd;rfl
@[congr] theorem qhc{k:Int}(hr:r=r₁):II n k id x r K=II n k id x r₁ K:=by subst hr;rfl
@[congr] theorem qhb{i:D}(hi:i=i₁)(hd:d=d₁):BD n i d H K=BD n i₁ d₁ H K:=by subst hi;subst hd;rfl
@[congr] theorem qid{i:D}(hi:i=i₁)(hd:d=d₁):Ts i d K=Ts i₁ d₁ K:=by subst hi;subst hd;rfl
@[congr] theorem qmb{o:Option D}{o₁:Option D}(ho:o=o₁):Zw o K=Zw o₁ K:=by subst ho;rfl
@[congr] theorem qma(hd:d=d₁):Zv d i K=Zv d₁ i K:=by subst hd;rfl
@[congr] theorem qlH(hr:r=r₁):YV x r K=YV x r₁ K:=by subst hr;rfl
@[congr] theorem qlG(hd:d=d₁):Sj d H K=Sj d₁ H K:=by subst hd;rfl
@[congr] theorem qm6(hr:r=r₁):Z7 x r K=Z7 x r₁ K:=by subst hr;rfl
@[congr] theorem qm5(hd:d=d₁):qc8 d H K=qc8 d₁ H K:=by subst hd;rfl
@[congr] theorem qic(hd:d=d₁):OC d K=OC d₁ K:=by subst hd;rfl
@[congr] theorem qlp(hd:d=d₁)(he:e=e₁):YG mx d e K=YG mx d₁ e₁ K:=by subst hd;subst he;rfl
@[congr] theorem qkH{K:List D->Prop}(hr:r=r₁):Vd n lo hi x r K=Vd n lo hi x r₁ K:=by subst hr;rfl
@[congr] theorem qgT{y:D}{K:D->ab->Prop}(hy:y=y₁)(hr:r=r₁):AT sz id b off y r H K=AT sz id b off y₁ r₁ H K:=by subst hy;subst hr;rfl
@[congr] theorem qgS{y:D}{K:D->ab->Prop}(hy:y=y₁)(hr:r=r₁):AS sz id x n i off y r H K=AS sz id x n i off y₁ r₁ H K:=by subst hy;subst hr;rfl
@[congr] theorem qgR{y:D}{K:D->ab->Prop}(hd:d=d₁)(hy:y=y₁):Hm sz d y H K=Hm sz d₁ y₁ H K:=by subst hd;subst hy;rfl
@[congr] theorem qng{K:D->ab->Prop}(hes2:es2=es2₁)(hr:r=r₁):qao el n bytes id x es2 r H K=qao el n bytes id x es2₁ r₁ H K:=by subst hes2;subst hr;rfl
@[congr] theorem qmH{K:D->ab->Prop}(hsrc:src=src₁)(hr:r=r₁):ZV n id x n' lo hi src r H K=ZV n id x n' lo hi src₁ r₁ H K:=by subst hsrc;subst hr;rfl
@[congr] theorem qmG{K:D->ab->Prop}(hd:d=d₁)(hsrc:src=src₁):qcX n d src H K=qcX n d₁ src₁ H K:=by subst hd;subst hsrc;rfl
@[congr] theorem ql2{K:Sg->ab->Prop}(hr:r=r₁):Zk t x id σ r H K=Zk t x id σ r₁ H K:=by subst hr;rfl
@[congr] theorem ql0{K:Sg->ab->Prop}(hd:d=d₁):qcH t n d σ H K=qcH t n d₁ σ H K:=by subst hd;rfl
@[congr] theorem qkQ(hd:d=d₁):qbG d K=qbG d₁ K:=by subst hd;rfl
@[congr] theorem qkG{K:D->ab->Prop}(hd:d=d₁):XK t d H K=XK t d₁ H K:=by subst hd;rfl
@[congr] theorem qkL{K:D->ab->Prop}(hr:r=r₁):XL id b r H K=XL id b r₁ H K:=by subst hr;rfl
@[congr] theorem qkK{K:D->ab->Prop}(hd:d=d₁):qbC d H K=qbC d₁ H K:=by subst hd;rfl
@[congr] theorem qnh{K:D->ab->Prop}(hdst:dst=dst₁)(hd:d=d₁)(hes2:es2=es2₁):qdf dst el n b d es2 H K=qdf dst₁ el n b d₁ es2₁ H K:=by subst hdst;subst hd;subst hes2;rfl
@[congr] theorem qne{r:Nat}{q:Option Res}{K:D->ab->Prop}{q₁:Option Res}(hes2:es2=es2₁)(hq:q=q₁):qal el n b r x es2 q H K=qal el n b r x es2₁ q₁ H K:=by subst hes2;subst hq;rfl
@[congr] theorem qnd{r:Nat}{K:D->ab->Prop}(hd:d=d₁)(hes2:es2=es2₁):qde r el n b d es2 H K=qde r el n b d₁ es2₁ H K:=by subst hd;subst hes2;rfl
@[congr] theorem qh6{r:Nat}{y:D}{K:D->ab->Prop}(hd:d=d₁)(hy:y=y₁):Oy r sz d y H K=Oy r sz d₁ y₁ H K:=by subst hd;subst hy;rfl
@[congr] theorem qnf{K:D->ab->Prop}(hdst:dst=dst₁)(hd:d=d₁)(hes2:es2=es2₁):qam dst el n bytes d es2 H K=qam dst₁ el n bytes d₁ es2₁ H K:=by subst hdst;subst hd;subst hes2;rfl
@[congr] theorem qjK{f:D}{d:Nat}{K:D->ab->Prop}(hf:f=f₁)(hargs:args=args₁):zA S f d args H K=zA S f₁ d args₁ H K:=by subst hf;subst hargs;rfl
@[congr] theorem qh8{K:List D->Prop}(h:d=d'):ms n d H K=ms n d' H K:=by subst h;rfl
@[congr] theorem qkI{K:List D->Prop}(h:d=d'):ue n d H K=ue n d' H K:=by subst h;rfl
@[congr] theorem qhA{s s':Spc}{d:Nat}{ds':List D}{K:D->ab->Prop}(h:s=s')(h':ds=ds'):s.pt d ds H K=s'.pt d ds' H K:=by subst h;subst h';rfl
@[congr] theorem qjA{lo hi lo' hi':Option (Option (IntKind×Int))}{K:Nat->Nat->Prop}(h1:lo=lo')(h2:hi=hi')(h3:n=n'):tW lo hi n K=tW lo' hi' n' K:=by subst h1;subst h2;subst h3;rfl
end Go.Gv
