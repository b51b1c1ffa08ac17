/- A part of the framework and of the walks: T10. -/
import Derived.Test.YtphdikcommfnhaaGreatDoorGg16
set_option linter.unusedSimpArgs false
set_option linter.unusedVariables false
set_option linter.unusedSectionVars false

namespace Go.Gv
open Cod (enc dec)
variable {b b' bytes el el' f g hi i id j len lo n n' n'' o off sz t:Nat}{H:ab}{K:D->Prop}{dst dst₁ rt:Option Nat}{v x x':Value}{L d d' d₁ e e₁ f₁ i₁ y₁ z₁:D}{k k' kd:IntKind}{σ:Sg}{args args₁ caps cells cs ds es es2 es2₁ src src₁:List D}{agg mx neg:Bool}{r r₁:Option Res}{c y:Operand}{a h l:Int}{s:ByteArray}{z:List Value}{no yes:Sg->Prop}{A B p:Prop}{op:BinOp}{ks:List WQ}{S:Nat->Spc}{ps xs:List Operand}{s₁:Spc}
section
variable {S:Nat->Spc}{K:Ex->Sg->ab->Prop}{σ:Sg}{H:ab}
def Rd(S:Nat->Spc)(b:CC)(K:Ex->Sg->ab->Prop):Ex->Sg->ab->Prop:=fun e σ H=>match e with
 | .norm=>vc S b K σ H
 | e=>K e σ H
def WH(id:Nat)(K:Ex->Sg->ab->Prop):Ex->Sg->ab->Prop:=fun e σ H=>match e with
 | .ex i=>if i=id then K .norm σ H else K (.ex i) σ H
 | e=>K e σ H
def VM(inv:qhm)(x:inv.X)(K:Ex->Sg->ab->Prop):Ex->Sg->ab->Prop:=fun e σ' H'=>match e with
 | .norm=>∃y,inv.P y/\Wk σ' H' (inv.s y) (inv.h y)/\inv.m y < inv.m x
 | e=>K e σ' H'
def O8(d:D)(A B:Prop):Prop:=match d with
 | .v (.bool t)=>(t=true->A)/\(t=false->B)
 | _=>False
@[simp ↓] theorem qgG:vc S .skip K σ H=K .norm σ H:=id rfl
@[simp ↓] theorem qey(l:List CI):vc S (.reg l) K σ H=B2 S l σ H (K .norm):=id rfl
@[simp ↓] theorem qqp(p l:List CI):vc S (.regd p l) K σ H=lw S p σ (bh p H) H fun σ H=>B2 S l σ H (K .norm):=id rfl
@[simp ↓] theorem PE(a b:CC):vc S (.seq a b) K σ H=vc S a (Rd S b K) σ H:=id rfl
@[simp ↓] theorem Iv(b:CC):Rd S b K .norm σ H=vc S b K σ H:=id rfl
@[simp ↓] theorem Z0(b:CC)(i:Nat):Rd S b K (.ex i) σ H=K (.ex i) σ H:=id rfl
@[simp ↓] theorem qgH(b:CC):Rd S b K .ret σ H=K .ret σ H:=id rfl
@[simp ↓] theorem qkh(c:Operand)(a b:CC):vc S (.ite c a b) K σ H=O8 (ev σ c) (vc S a K σ H) (vc S b K σ H):=id rfl
@[simp] theorem qgK(t:Bool)(A B:Prop):O8 (.v (.bool t)) A B=((t=true->A)/\(t=false->B)):=id rfl
@[simp high] theorem qqr:O8 (.v (.bool true)) A B=A:=by simp[O8]
@[simp high] theorem qqs:O8 (.v (.bool false)) A B=B:=by simp[O8]
@[simp ↓] theorem M3(id:Nat)(b:CC):vc S (.block id b) K σ H=vc S b (WH id K) σ H:=_root_.id rfl
@[simp ↓] theorem qgM(id:Nat):WH id K .norm σ H=K .norm σ H:=_root_.id rfl
@[simp ↓] theorem Z3(id:Nat):WH id K .ret σ H=K .ret σ H:=_root_.id rfl
@[simp ↓] theorem R8(id i:Nat):WH id K (.ex i) σ H=if i=id then K .norm σ H else K (.ex i) σ H:=_root_.id rfl
@[simp ↓] theorem qgL(i:Nat):vc S (.exit i) K σ H=K (.ex i) σ H:=id rfl
@[simp ↓] theorem qsC:vc S .ret K σ H=K .ret σ H:=id rfl
@[simp ↓] theorem qqq(ls lh:List Nat)(c:CC):vc S (.keep ls lh c) K σ H=vc S c K (iJ ls σ) (jy lh H):=id rfl
theorem M2(k:Nat)(b:CC):vc S (.loop k b) K σ H=∃inv:qhm,(∃x,inv.P x/\Wk σ H (inv.s x) (inv.h x))/\∀x,inv.P x->vc S b (VM inv x K) (inv.s x) (inv.h x):=id rfl
theorem Z2(k:Nat)(c:CC):vc S (.cut k c) K σ H=∃ (σ':Sg) (H':ab),Wk σ H σ' H'/\vc S c K σ' H':=id rfl
@[simp ↓] theorem qgJ(inv:qhm)(x:inv.X):VM inv x K .norm σ H=∃y,inv.P y/\Wk σ H (inv.s y) (inv.h y)/\inv.m y < inv.m x:=id rfl
@[simp ↓] theorem qgI(inv:qhm)(x:inv.X):VM inv x K .ret σ H=K .ret σ H:=id rfl
@[simp ↓] theorem Z1(inv:qhm)(x:inv.X)(i:Nat):VM inv x K (.ex i) σ H=K (.ex i) σ H:=id rfl
end
def mz(s:Nat)(b:Bool)(σ:Sg)(d:D)(yes no:Sg->Prop):Prop:=match d with
 | .v (.bool t)=>(t=b->yes (upd σ s (.v (.bool b))))/\(t=(!b)->no (upd σ s (.v (.bool (!b)))))
 | .undef=>no σ
 | _=>False
@[simp high] theorem qtq(s:Nat):mz s true σ (.v (.bool true)) yes no=yes (upd σ s (.v (.bool true))):=by simp[mz]
@[simp high] theorem qtr(s:Nat):mz s true σ (.v (.bool false)) yes no=no (upd σ s (.v (.bool false))):=by simp[mz]
@[simp high] theorem qts(s:Nat):mz s false σ (.v (.bool true)) yes no=no (upd σ s (.v (.bool true))):=by simp[mz]
@[simp high] theorem qtt(s:Nat):mz s false σ (.v (.bool false)) yes no=yes (upd σ s (.v (.bool false))):=by simp[mz]
@[simp] theorem qtp(s:Nat)(b:Bool):mz s b σ .undef yes no=no σ:=id rfl
@[simp] theorem qtD(s:Nat)(b t:Bool):mz s b σ (.v (.bool t)) yes no=((t=b->yes (upd σ s (.v (.bool b))))/\(t=(!b)->no (upd σ s (.v (.bool (!b)))))):=id rfl
section
variable {S:Nat->Spc}{σ:Sg}{H Hr:ab}
@[simp ↓] theorem qev(K:Sg->ab->Prop):B2 S [] σ H K=K σ H:=id rfl
@[simp ↓] theorem qgf(K:Sg->ab->Prop)(d:Option Nat)(c:COp)(r:List CI):B2 S (.op d none c::r) σ H K=ax S c d σ H fun x H'=>B2 S r (eH σ d x) H' K:=id rfl
@[simp ↓] theorem qsf(K:Sg->ab->Prop)(d:Option Nat)(s:Nat)(b:Bool)(c:COp)(r:List CI):B2 S (.op d (some (s,b)) c::r) σ H K=mz s b σ (σ s) (fun σ=>ax S c d σ H fun x H'=>B2 S r (eH σ d x) H' K) (fun σ=>B2 S r (eH σ d .undef) H K):=id rfl
@[simp ↓] theorem qsg(K:Sg->ab->Prop)(r:List CI):B2 S (.frz t n::r) σ H K=Fg t n σ H fun σ' H'=>B2 S r σ' H' K:=id rfl
@[simp ↓] theorem qr2(K:Sg->ab->Prop):lw S [] σ Hr H K=K σ H:=id rfl
@[simp ↓] theorem qr3(K:Sg->ab->Prop)(a:Nat)(r:List CI):lw S (.frz a b::r) σ Hr H K=lw S r σ (bh r Hr) H K:=id rfl
@[simp ↓] theorem qs5(K:Sg->ab->Prop)(d:Option Nat)(c:COp)(r:List CI):lw S (.op d none c::r) σ Hr H K=av S c d σ Hr H fun x H'=>lw S r (eH σ d x) Hr H' K:=id rfl
@[simp ↓] theorem qr1(K:Sg->ab->Prop)(d:Option Nat)(s:Nat)(b:Bool)(c:COp)(r:List CI):lw S (.op d (some (s,b)) c::r) σ Hr H K=mz s b σ (σ s) (fun σ=>av S c d σ Hr H fun x H'=>lw S r (eH σ d x) Hr H' K) (fun σ=>lw S r (eH σ d .undef) Hr H K):=id rfl
end
def E6(d:D)(A B:Prop):Prop:=match d with
 | .v (.bool t)=>(t=true->A)/\(t=false->B)
 | _=>False
@[simp high] theorem qlY:E6 (.v (.bool true)) A B=A:=by simp[E6]
@[simp high] theorem qlZ:E6 (.v (.bool false)) A B=B:=by simp[E6]
def O3(agg:Bool)(sz b off:Nat)(r:Option Res)(K:D->Prop):Prop:=match r with
 | some (.box b' cells)=>b'=b/\off+sz<=cells.length/\K (KN agg sz cells off)
 | _=>False
def O1(agg:Bool)(sz:Nat)(x:Value)(n i off:Nat)(r:Option Res)(K:D->Prop):Prop:=match r with
 | some (.row x' _ n' es)=>x'=x/\n'=n/\off+sz<=n/\i < es.length/\∀d,es[i]? =some d->K (KN agg sz d.cells off)
 | _=>False
def Fa(agg:Bool)(sz:Nat)(d:D)(H:ab)(K:D->Prop):Prop:=match d with
 | .cptr cs off=>off+sz<=cs.length/\K (KN agg sz cs off)
 | .bptr id b off=>O3 agg sz b off (H id) K
 | .eptr id x n i off=>O1 agg sz x n i off (H id) K
 | _=>False
@[simp] theorem qmn:Fa agg sz (.cptr cs off) H K=(off+sz<=cs.length/\K (KN agg sz cs off)):=id rfl
@[simp] theorem qmo:Fa agg sz (.bptr i b off) H K=O3 agg sz b off (H i) K:=id rfl
@[simp] theorem qmm(k:Nat):Fa agg sz (.eptr i x n k off) H K=O1 agg sz x n k off (H i) K:=id rfl
@[simp] theorem qmq:O3 agg sz b off (some (.box b' cells)) K=(b'=b/\off+sz<=cells.length/\K (KN agg sz cells off)):=id rfl
@[simp] theorem qmp:O1 agg sz x n i off (some (.row x' el n' es)) K=(x'=x/\n'=n/\off+sz<=n/\i < es.length/\∀d,es[i]? =some d->K (KN agg sz d.cells off)):=id rfl
def VD(d:D)(K:D->Prop):Prop:=match d with
 | .cptr cs off=>K (.cptr cs off)
 | .bptr id b off=>K (.bptr id b off)
 | .eptr id x n i off=>K (.eptr id x n i off)
 | .tape L=>K (.tape L)
 | .clo f caps=>K (.clo f caps)
 | _=>False
@[simp] theorem qpa:VD (.cptr cs off) K=K (.cptr cs off):=id rfl
@[simp] theorem qpb:VD (.bptr i b off) K=K (.bptr i b off):=id rfl
def IR(op:BinOp)(d e:D)(K:D->Prop):Prop:=match d,e with
 | .v (.int k a), .v (.int k' b)=>WU op k k'/\gk op k a b K
 | _,_=>False
@[simp] theorem qaJ(op:BinOp)(k k':IntKind)(a b:Int)(K:D->Prop):IR op (.v (.int k a)) (.v (.int k' b)) K=(WU op k k'/\gk op k a b K):=id rfl
@[simp] theorem qcS(k k':IntKind):WU .add k k'=(k=k'):=id rfl
@[simp] theorem qmy:WU .sub k k'=(k=k'):=id rfl
@[simp] theorem qmD:WU .mul k k'=(k=k'):=id rfl
@[simp] theorem qmC:WU .quo k k'=(k=k'):=id rfl
@[simp] theorem qmB:WU .rem k k'=(k=k'):=id rfl
@[simp] theorem qmE:WU .and k k'=(k=k'):=id rfl
@[simp] theorem qpJ:WU .or k k'=(k=k'):=id rfl
@[simp] theorem qmA:WU .shl k k'=True:=id rfl
@[simp] theorem qmz:WU .shr k k'=True:=id rfl
@[simp ↓] theorem WK(k:IntKind)(a b:Int)(K:D->Prop):gk .add k a b K=(InR k (a+b)/\K (.v (.int k (a+b)))):=id rfl
@[simp ↓] theorem qib(b:Int):gk .sub k a b K=(InR k (a -b)/\K (.v (.int k (a -b)))):=id rfl
@[simp ↓] theorem qig(b:Int):gk .mul k a b K=(InR k (a*b)/\K (.v (.int k (a*b)))):=id rfl
@[simp ↓] theorem qif(b:Int):gk .quo k a b K=(b≠0/\InR k (a.tdiv b)/\K (.v (.int k (a.tdiv b)))):=id rfl
@[simp ↓] theorem qie(b:Int):gk .rem k a b K=(b≠0/\K (.v (.int k (a.tmod b)))):=id rfl
@[simp ↓] theorem qih(b:Int):gk .and k a b K=K (.v (.int k (So k a b))):=id rfl
@[simp ↓] theorem qkN(b:Int):gk .or k a b K=K (.v (.int k (qjd k a b))):=id rfl
@[simp ↓] theorem qid(b:Int):gk .shl k a b K=(0<=b/\K (.v (.int k (Oi k a b)))):=id rfl
@[simp ↓] theorem qic(b:Int):gk .shr k a b K=(0<=b/\K (.v (.int k (XI k a b)))):=id rfl
def qce(d:D)(K:D->Prop):Prop:=match d with
 | .v (.int _ n)=>K (.v (.string (Utf8.encode n)))
 | _=>False
@[simp] theorem qoL(n:Int):qce (.v (.int k n)) K=K (.v (.string (Utf8.encode n))):=id rfl
def Sd(o:Option Bool)(K:D->Prop):Prop:=match o with|some t=>K (.v (.bool t))|none=>False
@[simp] theorem qgZ(t:Bool)(K:D->Prop):Sd (some t) K=K (.v (.bool t)):=id rfl
def Wz(op:BinOp)(d e:D)(K:D->Prop):Prop:=match d,e with
 | .v (.int k a), .v (.int k' b)=>k=k'/\Sd (P3 op a b) K
 | .v (.string a), .v (.string b)=>Sd (Sc op a b) K
 | _,_=>False
@[simp] theorem qgY(op:BinOp)(k k':IntKind)(a b:Int)(K:D->Prop):Wz op (.v (.int k a)) (.v (.int k' b)) K=(k=k'/\Sd (P3 op a b) K):=id rfl
@[simp] theorem qqC(a b:ByteArray):Wz op (.v (.string a)) (.v (.string b)) K=Sd (Sc op a b) K:=id rfl
@[simp] theorem qap(a b:Int):P3 .lss a b=some (decide (a < b)):=id rfl
@[simp] theorem qks(b:Int):P3 .leq a b=some (decide (a<=b)):=id rfl
@[simp] theorem qkt(b:Int):P3 .gtr a b=some (decide (b < a)):=id rfl
@[simp] theorem qku(b:Int):P3 .geq a b=some (decide (b<=a)):=id rfl
@[simp] theorem qkp(a b:ByteArray):Sc .lss a b=some (Op.bytesLess a.toList b.toList):=id rfl
@[simp] theorem qkq(a b:ByteArray):Sc .gtr a b=some (!(Op.bytesLess a.toList b.toList||a.toList==b.toList)):=id rfl
@[simp] theorem qkr(a b:ByteArray):Sc .geq a b=some (!Op.bytesLess a.toList b.toList):=id rfl
def Wr(neg:Bool)(o:Option Bool)(K:D->Prop):Prop:=match o with
 | some p=>K (.v (.bool (if neg then !p else p)))
 | none=>False
@[simp] theorem qqi(p:Bool):Wr false (some p) K=K (.v (.bool p)):=id rfl
@[simp] theorem qqh(p:Bool):Wr true (some p) K=K (.v (.bool (!p))):=id rfl
@[simp] theorem qsy(k:WQ)(a b:D):qgB false [k] a b=WV k a b:=id rfl
@[simp] theorem qsx(a b:List D):qgB true ks (.agg a) (.agg b)=qdl ks a b:=id rfl
@[simp] theorem qsw:qdl [] [] []=some true:=id rfl
@[simp] theorem qsv(k:WQ)(a b:D)(as bs:List D):qdl (k::ks) (a::as) (b::bs)=(WV k a b).bind fun p=>(qdl ks as bs).bind fun q=>some (p && q):=id rfl
@[simp] theorem qsA(b:Int):WV .int (.v (.int k a)) (.v (.int k' b))=if k=k' then some (decide (a=b))else none:=id rfl
@[simp] theorem qsz(a b:ByteArray):WV .str (.v (.string a)) (.v (.string b))=some (decide (a=b)):=id rfl
@[simp] theorem qsB(a b:Bool):WV .bool (.v (.bool a)) (.v (.bool b))=some (decide (a=b)):=id rfl
def SJ(d e:D)(K:D->Prop):Prop:=match d,e with
 | .v (.string a), .v (.string b)=>a.size+b.size<=1000000000/\K (.v (.string (a++b)))
 | _,_=>False
@[simp] theorem qlC(a b:ByteArray):SJ (.v (.string a)) (.v (.string b)) K=(a.size+b.size<=1000000000/\K (.v (.string (a++b)))):=id rfl
def qcx(d:D)(K:D->Prop):Prop:=match d with
 | .v (.bool b)=>K (.v (.bool (!b)))
 | _=>False
@[simp] theorem qo6(b:Bool):qcx (.v (.bool b)) K=K (.v (.bool (!b))):=id rfl
def Uc(k:IntKind)(d:D)(K:D->Prop):Prop:=match d with
 | .v (.int _ n)=>K (.v (.int k (k.wrap n)))
 | _=>False
@[simp] theorem qnu(n:Int):Uc k (.v (.int k' n)) K=K (.v (.int k (k.wrap n))):=id rfl
def Rb(n id:Nat)(x:Value)(lo hi:Option (Option (IntKind×Int)))(r:Option Res)(K:D->Prop):Prop:=match r with
 | some (.row x' _ n' es)=>x'=x/\n'=n/\tj lo hi es.length fun l h=>K (.sub id x n l h)
 | _=>False
@[simp] theorem qiW(lo hi:Option (Option (IntKind×Int))):Rb n i x lo hi (some (.row x' el n' es)) K=(x'=x/\n'=n/\tj lo hi es.length fun l h=>K (.sub i x n l h)):=id rfl
@[simp] theorem qqy(K:Nat->Nat->Prop):tj (some (some (k,l))) none len K=(0<=l/\l<=len/\K l.toNat len):=id rfl
def G2(n:Nat)(d:D)(lo hi:Option (Option (IntKind×Int)))(H:ab)(K:D->Prop):Prop:=match d with
 | .list n' es=>n'=n/\(match lo,hi with
   | none,none=>K (.list n es)
   | some (some (_,l)),none=>0<=l/\l<=es.length/\K (.list n (es.drop l.toNat))
   | none,some (some (_,h))=>0<=h/\h<=es.length/\K (.list n (es.take h.toNat))
   | some (some (_,l)),some (some (_,h))=>0<=l/\l<=h/\h<=es.length/\K (.list n ((es.take h.toNat).drop l.toNat))
   | _,_=>False)
 | .own id x=>Rb n id x lo hi (H id) K
 | .sub id x n' a b=>n'=n/\tj lo hi (b -a) fun l h=>K (.sub id x n (a+l) (a+h))
 | .v (.slice none 0 0)=>tj lo hi 0 fun _ _=>K (.v (.slice none 0 0))
 | _=>False
@[simp] theorem qiV(lo hi:Option (Option (IntKind×Int))):G2 n (.own i x) lo hi H K=Rb n i x lo hi (H i) K:=id rfl
@[simp] theorem qhG:G2 n (.list n' es) (some (some (k,l))) none H K=(n'=n/\0<=l/\l<=es.length/\K (.list n (es.drop l.toNat))):=id rfl
@[simp] theorem qhF:G2 n (.list n' es) none (some (some (k,l))) H K=(n'=n/\0<=l/\l<=es.length/\K (.list n (es.take l.toNat))):=id rfl
def F9(d:D)(lo hi:Option (Option (IntKind×Int)))(K:D->Prop):Prop:=match d with
 | .v (.string s)=>(match lo,hi with
   | none,none=>K (.v (.string (s.extract 0 s.size)))
   | some (some (_,l)),none=>0<=l/\l<=s.size/\K (.v (.string (s.extract l.toNat s.size)))
   | none,some (some (_,h))=>0<=h/\h<=s.size/\K (.v (.string (s.extract 0 h.toNat)))
   | some (some (_,l)),some (some (_,h))=>0<=l/\l<=h/\h<=s.size/\K (.v (.string (s.extract l.toNat h.toNat)))
   | _,_=>False)
 | _=>False
@[simp] theorem qfy:F9 (.v (.string s)) (some (some (k,l))) none K=(0<=l/\l<=s.size/\K (.v (.string (s.extract l.toNat s.size)))):=id rfl
@[simp] theorem qfz:F9 (.v (.string s)) (some (some (k,l))) (some (some (k',h))) K=(0<=l/\l<=h/\h<=s.size/\K (.v (.string (s.extract l.toNat h.toNat)))):=id rfl
def Bu(off:Nat)(d:D)(K:D->Prop):Prop:=match d with
 | .cptr cs o=>K (.cptr cs (o+off))
 | .bptr id b o=>K (.bptr id b (o+off))
 | .eptr id x n i o=>K (.eptr id x n i (o+off))
 | _=>False
@[simp] theorem qj7:Bu off (.cptr cs o) K=K (.cptr cs (o+off)):=id rfl
@[simp] theorem qj8:Bu off (.bptr i b o) K=K (.bptr i b (o+off)):=id rfl
@[simp] theorem qj6(k:Nat):Bu off (.eptr i x n k o) K=K (.eptr i x n k (o+off)):=id rfl
def qdi(agg:Bool)(sz off:Nat)(d:D)(K:D->Prop):Prop:=match d with
 | .agg cs=>off+sz<=cs.length/\K (KN agg sz cs off)
 | _=>False
@[simp] theorem qqa:qdi agg sz off (.agg cs) K=(off+sz<=cs.length/\K (KN agg sz cs off)):=id rfl
def Ib(n:Nat)(k:Int)(id:Nat)(x:Value)(r:Option Res)(K:D->Prop):Prop:=match r with
 | some (.row x' _ n' es)=>x'=x/\n'=n/\0<=k/\k < es.length/\K (.eptr id x n k.toNat 0)
 | _=>False
def Bp(n:Nat)(i d:D)(H:ab)(K:D->Prop):Prop:=match i with
 | .v (.int _ k)=>match d with
   | .list n' es=>n'=n/\0<=k/\k < es.length/\∀d,es[k.toNat]? =some d->K (.cptr d.cells 0)
   | .own id x=>Ib n k id x (H id) K
   | .sub id x n' lo hi=>n'=n/\0<=k/\k < (hi -lo:Nat)/\K (.eptr id x n (lo+k.toNat) 0)
   | _=>False
 | _=>False
@[simp] theorem qjJ(k:Int):Bp n (.v (.int kd k)) (.sub i x n' lo hi) H K=(n'=n/\0<=k/\k < (hi -lo:Nat)/\K (.eptr i x n (lo+k.toNat) 0)):=id rfl
@[simp] theorem qjL(k:Int):Bp n (.v (.int kd k)) (.list n' es) H K=(n'=n/\0<=k/\k < es.length/\∀d,es[k.toNat]? =some d->K (.cptr d.cells 0)):=id rfl
@[simp] theorem qjK(k:Int):Bp n (.v (.int kd k)) (.own i x) H K=Ib n k i x (H i) K:=id rfl
@[simp] theorem qjM(k:Int):Ib n k i x (some (.row x' el n' es)) K=(x'=x/\n'=n/\0<=k/\k < es.length/\K (.eptr i x n k.toNat 0)):=id rfl
def SI(i d:D)(K:D->Prop):Prop:=match i with
 | .v (.int _ k)=>match d with
   | .v (.string s)=>0<=k/\k < s.size/\∀c,s.data[k.toNat]? =some c->K (.v (.int .u8 c.toNat))
   | _=>False
 | _=>False
@[simp] theorem qlB(k:Int):SI (.v (.int kd k)) (.v (.string s)) K=(0<=k/\k < s.size/\∀c,s.data[k.toNat]? =some c->K (.v (.int .u8 c.toNat))):=id rfl
def ZU(o:Option D)(K:D->Prop):Prop:=match o with
 | some d=>K d
 | none=>False
def ZT(d:D)(i:Nat)(K:D->Prop):Prop:=match d with
 | .tup ds=>ZU ds[i]? K
 | _=>False
@[simp] theorem qqc:ZT (.tup ds) i K=ZU ds[i]? K:=id rfl
@[simp] theorem qqd:ZU (some d) K=K d:=id rfl
def Zj(x:Value)(r:Option Res)(K:D->Prop):Prop:=match r with
 | some (.row x' _ _ es)=>x'=x/\((es.length:Int)<=9223372036854775807->K (.v (.int .i64 es.length)))
 | _=>False
def RI(d:D)(H:ab)(K:D->Prop):Prop:=match d with
 | .list _ es=>(es.length:Int)<=9223372036854775807->K (.v (.int .i64 es.length))
 | .own id x=>Zj x (H id) K
 | .v (.slice _ n _)=>K (.v (.int .i64 n))
 | .sub _ _ _ lo hi=>((hi -lo:Nat):Int)<=9223372036854775807->K (.v (.int .i64 (hi -lo:Nat)))
 | _=>False
@[simp] theorem qpz:RI (.list n es) H K=((es.length:Int)<=9223372036854775807->K (.v (.int .i64 es.length))):=id rfl
@[simp] theorem qpy:RI (.own i x) H K=Zj x (H i) K:=id rfl
@[simp] theorem qmr(a:Option Addr)(c:Nat):RI (.v (.slice a n c)) H K=K (.v (.int .i64 n)):=id rfl
@[simp] theorem qpA:Zj x (some (.row x' el n es)) K=(x'=x/\((es.length:Int)<=9223372036854775807->K (.v (.int .i64 es.length)))):=id rfl
def qav(x:Value)(r:Option Res)(K:D->Prop):Prop:=match r with
 | some (.row x' _ n es)=>x'=x/\n=1/\qeD es=true/\K (.v (.string (qg4 es)))
 | _=>False
@[simp] theorem qq4:qav x (some (.row x' el n es)) K=(x'=x/\n=1/\qeD es=true/\K (.v (.string (qg4 es)))):=id rfl
def qdG(d:D)(H:ab)(K:D->Prop):Prop:=match d with
 | .own i x=>qav x (H i) K
 | .v (.slice none 0 0)=>K (.v (.string ⟨#[]⟩))
 | _=>False
@[simp] theorem qq3:qdG (.own i x) H K=qav x (H i) K:=id rfl
def Og(d:D)(K:D->Prop):Prop:=match d with
 | .v (.string s)=>(s.size:Int)<=9223372036854775807->K (.v (.int .i64 s.size))
 | _=>False
@[simp] theorem qlA:Og (.v (.string s)) K=((s.size:Int)<=9223372036854775807->K (.v (.int .i64 s.size))):=id rfl
def Y4(mx:Bool)(d e:D)(K:D->Prop):Prop:=match d,e with
 | .v (.int k a), .v (.int k' b)=>k=k'/\K (.v (.int k (if mx then max a b else min a b)))
 | _,_=>False
@[simp] theorem qpp(b:Int):Y4 mx (.v (.int k a)) (.v (.int k' b)) K=(k=k'/\K (.v (.int k (if mx then max a b else min a b)))):=id rfl
@[simp ↓] theorem qia(K:List D->Prop):ju σ [] cs K=K cs:=id rfl
@[simp ↓] theorem qg5(x:Operand)(r:List (Nat×Nat×Operand))(K:List D->Prop):ju σ ((off,sz,x)::r) cs K=((ev σ x).kn=true/\(ev σ x).cells.length=sz/\ju σ r (setAt cs off (ev σ x).cells) K):=id rfl
@[simp] theorem qhK:kA n []=True:=id rfl
@[simp] theorem qfU(r:List D):kA n (d::r)=(d.kn=true/\d.cells.length=n/\kA n r):=id rfl
def U3(n lo hi:Nat)(x:Value)(r:Option Res)(K:List D->Prop):Prop:=match r with
 | some (.row x' _ n'' es)=>x'=x/\n''=n/\K ((es.take hi).drop lo)
 | _=>False
@[simp] theorem qoz(K:List D->Prop):U3 n lo hi x (some (.row x' el n' es)) K=(x'=x/\n'=n/\K ((es.take hi).drop lo)):=id rfl
@[simp] theorem qrI(K:List D->Prop):lM n (.sub i x n' lo hi) H K=(n'=n/\U3 n lo hi x (H i) K):=by
 simp only[lM]
 cases H i with
 | none=>simp[U3]
 | some r=>cases r <;> simp[U3,and_left_comm]
@[simp] theorem qoA(K:List D->Prop):tA n (.list n' es) H K=(n'=n/\K es):=id rfl
@[simp] theorem qoB(K:List D->Prop):tA n (.v (.string s)) H K=(n=1/\K (DP s)):=id rfl
def qpq(t el n bytes:Nat)(agg:Bool)(z:List Value)(l c:Option (IntKind×Int))(H:ab)(K:D->ab->Prop):Prop:=match l,c with
 | some (_,l),some (_,c)=>0<=l/\l<=c/\bytes*c<=140737488355328/\c<=140737488355328/\∀x,K (.own t x) (ah H t (some (.row x el n (List.replicate l.toNat (if agg then .agg (z.map uf)else uf (z.headD (.bool false)))))))
 | _,_=>False
@[simp] theorem qsd(c:Int)(K:D->ab->Prop):qpq t el n bytes agg z (some (k,l)) (some (k',c)) H K=(0<=l/\l<=c/\bytes*c<=140737488355328/\c<=140737488355328/\∀x,K (.own t x) (ah H t (some (.row x el n (List.replicate l.toNat (if agg then .agg (z.map uf)else uf (z.headD (.bool false)))))))):=id rfl
def AL(sz id b off:Nat)(y:D)(r:Option Res)(H:ab)(K:D->ab->Prop):Prop:=match r with
 | some (.box b' cells)=>b'=b/\off+sz<=cells.length/\K .undef (ah H id (some (.box b' (setAt cells off y.cells))))
 | _=>False
def AK(sz id:Nat)(x:Value)(n i off:Nat)(y:D)(r:Option Res)(H:ab)(K:D->ab->Prop):Prop:=match r with
 | some (.row x' el n' es)=>x'=x/\n'=n/\0 < n/\off+sz<=n/\i < es.length/\∀d,es[i]? =some d->
    K .undef (ah H id (some (.row x' el n' (es.set i (if off=0/\sz=n then y else .agg (setAt d.cells off y.cells))))))
 | _=>False
def GZ(sz:Nat)(d y:D)(H:ab)(K:D->ab->Prop):Prop:=match d with
 | .bptr id b off=>AL sz id b off y (H id) H K
 | .eptr id x n i off=>AK sz id x n i off y (H id) H K
 | _=>False
@[simp] theorem qiO(y:D)(K:D->ab->Prop):GZ sz (.bptr i b off) y H K=AL sz i b off y (H i) H K:=id rfl
@[simp] theorem qiN(k:Nat)(y:D)(K:D->ab->Prop):GZ sz (.eptr i x n k off) y H K=AK sz i x n k off y (H i) H K:=id rfl
@[simp] theorem qiQ(y:D)(K:D->ab->Prop):AL sz i b off y (some (.box b' cells)) H K=(b'=b/\off+sz<=cells.length/\K .undef (ah H i (some (.box b' (setAt cells off y.cells))))):=id rfl
@[simp] theorem qiP(k:Nat)(y:D)(K:D->ab->Prop):AK sz i x n k off y (some (.row x' el n' es)) H K=(x'=x/\n'=n/\0 < n/\off+sz<=n/\k < es.length/\∀d,es[k]? =some d->
 K .undef (ah H i (some (.row x' el n' (es.set k (if off=0/\sz=n then y else .agg (setAt d.cells off y.cells))))))):=id rfl
def qaN(el n bytes id:Nat)(x:Value)(es2:List D)(r:Option Res)(H:ab)(K:D->ab->Prop):Prop:=match r with
 | some (.row x' el' n' es)=>x'=x/\el'=el/\n'=n/\(es.length+es2.length) *bytes<=140737488355328/\es.length+es2.length<=140737488355328/\∀v,K (.own id v) (ah H id (some (.row v el n (es++es2))))
 | _=>False
def qrf(el n bytes id:Nat)(x:Value)(n' lo hi:Nat)(es2:List D)(r:Option Res)(H:ab)(K:D->ab->Prop):Prop:=match r with
 | some (.row x' el' n'' es)=>x'=x/\el'=el/\n'=n/\n''=n/\lo=0/\(hi+es2.length) *bytes<=140737488355328/\hi+es2.length<=140737488355328/\∀v,K (.own id v) (ah H id (some (.row v el n (es.take hi++es2))))
 | _=>False
def qqB(n id:Nat)(x:Value)(src:List D)(r:Option Res)(H:ab)(K:D->ab->Prop):Prop:=match r with
 | some (.row x' el n' es)=>x'=x/\n'=n/\K (.v (.int .i64 (min src.length es.length:Nat))) (ah H id (some (.row x' el n' (src.take es.length++es.drop src.length))))
 | _=>False
def qak(n id:Nat)(x:Value)(n' lo hi:Nat)(src:List D)(r:Option Res)(H:ab)(K:D->ab->Prop):Prop:=match r with
 | some (.row x' el n'' es)=>x'=x/\n'=n/\n''=n/\K (.v (.int .i64 (min src.length (hi -lo):Nat))) (ah H id (some (.row x' el n'' (es.take lo++src.take (hi -lo) ++es.drop (lo+min src.length (hi -lo))))))
 | _=>False
def qdv(n:Nat)(d:D)(src:List D)(H:ab)(K:D->ab->Prop):Prop:=match d with
 | .own id x=>qqB n id x src (H id) H K
 | .sub id x n' lo hi=>qak n id x n' lo hi src (H id) H K
 | _=>False
@[simp] theorem qqz(K:D->ab->Prop):qdv n (.sub i x n' lo hi) src H K=qak n i x n' lo hi src (H i) H K:=id rfl
@[simp] theorem qqA(K:D->ab->Prop):qak n i x n' lo hi src (some (.row x' el n'' es)) H K=(x'=x/\n'=n/\n''=n/\K (.v (.int .i64 (min src.length (hi -lo):Nat))) (ah H i (some (.row x' el n'' (es.take lo++src.take (hi -lo) ++es.drop (lo+min src.length (hi -lo))))))):=id rfl
@[simp] theorem qrx:NE false z=uf (z.headD (.bool false)):=id rfl
def ZH(t:Nat)(x:Value)(id:Nat)(σ:Sg)(r:Option Res)(H:ab)(K:Sg->ab->Prop):Prop:=match r with
 | some (.row x' _ n' es)=>x'=x/\K (Wp id x (.list n' es) σ) (ah H id none)
 | _=>False
def qp8(t b off:Nat)(id:Nat)(σ:Sg)(r:Option Res)(H:ab)(K:Sg->ab->Prop):Prop:=match r with
 | some (.box b' cs)=>b'=b/\K (upd σ t (.cptr cs off)) (ah H id none)
 | _=>False
def qp1(t n:Nat)(x:Value)(id n' lo hi:Nat)(σ:Sg)(r:Option Res)(H:ab)(K:Sg->ab->Prop):Prop:=match r with
 | some (.row x' el n'' es)=>x'=x/\n'=n''/\(if n=0 then lo=0/\∀v,K (upd σ t (.own id v)) (ah H id (some (.row v el n'' (es.take hi))))else K (upd σ t (.list n'' ((es.take hi).drop lo))) (ah H id none))
 | _=>False
def qdf(t n:Nat)(d:D)(σ:Sg)(H:ab)(K:Sg->ab->Prop):Prop:=match d with
 | .own id x=>ZH t x id σ (H id) H K
 | .bptr id b off=>qp8 t b off id σ (H id) H K
 | .v (.slice none 0 0)=>K (upd σ t (.list n [])) H
 | .sub id x n' lo hi=>qp1 t n x id n' lo hi σ (H id) H K
 | .agg cs=>En cs H fun cs' H'=>K (upd σ t (.agg cs')) H'
 | _=>K σ H
@[simp ↓] theorem qtv(K:Sg->ab->Prop):Fg t n σ H K=qdf t n (σ t) σ H K:=id rfl
@[simp] theorem qp0(K:Sg->ab->Prop):qdf t n (.own i x) σ H K=ZH t x i σ (H i) H K:=id rfl
@[simp] theorem qp2(K:Sg->ab->Prop):ZH t x i σ (some (.row x' el n' es)) H K=(x'=x/\K (Wp i x (.list n' es) σ) (ah H i none)):=id rfl
@[simp] theorem qp3(y:Value):JS id x L (.own i y)=open Classical in (if i=id/\y=x then L else .own i y):=_root_.id rfl
@[simp] theorem qp7:JS id x L (.any)= .any:=_root_.id rfl
@[simp] theorem qp5:JS id x L (.agg cs)= .agg cs:=_root_.id rfl
@[simp] theorem qp4:JS id x L (.list n es)= .list n es:=_root_.id rfl
@[simp] theorem qp6:JS id x L (.cptr cs o)= .cptr cs o:=_root_.id rfl
def qb9(d:D)(K:D->Prop):Prop:=match d with
 | .v (.string s)=>K (.list 1 (s.data.toList.map fun c=> .v (.int .u8 c.toNat)))
 | _=>False
@[simp] theorem qoH:qb9 (.v (.string s)) K=K (.list 1 (s.data.toList.map fun c=> .v (.int .u8 c.toNat))):=id rfl
def XG(t:Nat)(d:D)(H:ab)(K:D->ab->Prop):Prop:=match d with
 | .v (.string s)=>∀b,K (.bptr t b 0) (ah H t (some (.iter b s 0)))
 | _=>False
@[simp] theorem qoy(K:D->ab->Prop):XG t (.v (.string s)) H K=∀b,K (.bptr t b 0) (ah H t (some (.iter b s 0))):=id rfl
def XH(id b:Nat)(r:Option Res)(H:ab)(K:D->ab->Prop):Prop:=match r with
 | some (.iter b' s pos)=>b'=b/\(pos < s.size->K (.tup [.v (.bool true), .v (.int .i64 pos), .v (.int .i32 (Utf8.decode s pos).1)]) (ah H id (some (.iter b' s (pos+ (Utf8.decode s pos).2)))))/\(¬pos < s.size->K (.tup [.v (.bool false)]) H)
 | _=>False
@[simp] theorem qoD(pos:Nat)(K:D->ab->Prop):XH id b (some (.iter b' s pos)) H K=(b'=b/\(pos < s.size->K (.tup [.v (.bool true), .v (.int .i64 pos), .v (.int .i32 (Utf8.decode s pos).1)]) (ah H id (some (.iter b' s (pos+ (Utf8.decode s pos).2)))))/\(¬pos < s.size->K (.tup [.v (.bool false)]) H)):=_root_.id rfl
def qb5(d:D)(H:ab)(K:D->ab->Prop):Prop:=match d with
 | .bptr id b off=>off=0/\XH id b (H id) H K
 | _=>False
@[simp] theorem qoC(K:D->ab->Prop):qb5 (.bptr i b off) H K=(off=0/\XH i b (H i) H K):=id rfl
def qdN(dst:Option Nat)(el n b:Nat)(d:D)(es2:List D)(H:ab)(K:D->ab->Prop):Prop:=match dst,d with
 | some t, .v (.slice none 0 0)=>es2.length*b<=140737488355328/\es2.length<=140737488355328/\∀v,K (.own t v) (ah H t (some (.row v el n es2)))
 | _,_=>False
@[simp] theorem qri(K:D->ab->Prop):qdN (some t) el n b (.v (.slice none 0 0)) es2 H K=(es2.length*b<=140737488355328/\es2.length<=140737488355328/\∀v,K (.own t v) (ah H t (some (.row v el n es2)))):=id rfl
def qaK(el n b r:Nat)(x:Value)(es2:List D)(q:Option Res)(H:ab)(K:D->ab->Prop):Prop:=match q with
 | some (.row x' el' n' es)=>x'=x/\el'=el/\n'=n/\(es.length+es2.length) *b<=140737488355328/\es.length+es2.length<=140737488355328/\∀v,K (.own r v) (ah H r (some (.row v el n (es++es2))))
 | _=>False
@[simp] theorem qrc(r:Nat)(K:D->ab->Prop):qaK el n b r x es2 (some (.row x' el' n' es)) H K=(x'=x/\el'=el/\n'=n/\(es.length+es2.length) *b<=140737488355328/\es.length+es2.length<=140737488355328/\∀v,K (.own r v) (ah H r (some (.row v el n (es++es2))))):=id rfl
def qdM(r el n b:Nat)(d:D)(es2:List D)(H:ab)(K:D->ab->Prop):Prop:=match d with
 | .own id x=>id=r/\qaK el n b r x es2 (H r) H K
 | _=>False
@[simp] theorem qrb(r:Nat)(K:D->ab->Prop):qdM r el n b (.own i x) es2 H K=(i=r/\qaK el n b r x es2 (H r) H K):=id rfl
def Oc(r sz:Nat)(d y:D)(H:ab)(K:D->ab->Prop):Prop:=match d with
 | .bptr id b off=>id=r/\AL sz r b off y (H r) H K
 | .eptr id x n i off=>id=r/\AK sz r x n i off y (H r) H K
 | _=>False
@[simp] theorem qlr(r:Nat)(y:D)(K:D->ab->Prop):Oc r sz (.bptr i b off) y H K=(i=r/\AL sz r b off y (H r) H K):=id rfl
@[simp] theorem qlq(r:Nat)(k:Nat)(y:D)(K:D->ab->Prop):Oc r sz (.eptr i x n k off) y H K=(i=r/\AK sz r x n k off y (H r) H K):=id rfl
def qrh(dst:Option Nat)(el n bytes:Nat)(es2:List D)(H:ab)(K:D->ab->Prop):Prop:=match dst with
 | some t=>es2.length*bytes<=140737488355328/\es2.length<=140737488355328/\∀v,K (.own t v) (ah H t (some (.row v el n es2)))
 | none=>False
def qaL(dst:Option Nat)(el n bytes:Nat)(d:D)(es2:List D)(H:ab)(K:D->ab->Prop):Prop:=match d with
 | .own id x=>qaN el n bytes id x es2 (H id) H K
 | .v (.slice none 0 0)=>qrh dst el n bytes es2 H K
 | .sub id x n' lo hi=>qrf el n bytes id x n' lo hi es2 (H id) H K
 | _=>False
@[simp] theorem qrd(K:D->ab->Prop):qaL dst el n bytes (.own i x) es2 H K=qaN el n bytes i x es2 (H i) H K:=id rfl
@[simp] theorem qre(K:D->ab->Prop):qaL (some t) el n bytes (.v (.slice none 0 0)) es2 H K=(es2.length*bytes<=140737488355328/\es2.length<=140737488355328/\∀v,K (.own t v) (ah H t (some (.row v el n es2)))):=id rfl
@[simp] theorem qrg(K:D->ab->Prop):qaN el n bytes i x es2 (some (.row x' el' n' es)) H K=(x'=x/\el'=el/\n'=n/\(es.length+es2.length) *bytes<=140737488355328/\es.length+es2.length<=140737488355328/\∀v,K (.own i v) (ah H i (some (.row v el n (es++es2))))):=id rfl
def zn(S:Nat->Spc)(f:D)(d:Nat)(args:List D)(H:ab)(K:D->ab->Prop):Prop:=match f with
 | .clo g caps=>(S g).pt d (args++caps) H K
 | _=>False
@[simp] theorem qnA(d:Nat)(K:D->ab->Prop):zn S (.clo g caps) d args H K=(S g).pt d (args++caps) H K:=id rfl
@[congr] theorem qi9{r:Nat}{s:Spc}{K:D->ab->Prop}(hs:s=s₁)(hargs:args=args₁):Hs r dst s args H K=Hs r dst s₁ args₁ H K:=by subst hs;subst hargs;rfl
@[congr] theorem qlX{s:Spc}{K:D->ab->Prop}(hs:s=s₁)(hargs:args=args₁):Vj dst s args H K=Vj dst s₁ args₁ H K:=by subst hs;subst hargs;rfl
section
variable {S:Nat->Spc}{σ:Sg}{H Hr:ab}{K:D->ab->Prop}
@[simp ↓] theorem qqL(dst:Option Nat)(x:Operand):ax S (.mv x) dst σ H K=((fun d=>K d H) (ev σ x)):=id rfl
@[simp ↓] theorem qs4(x:Operand):av S (.mv x) dst σ Hr H K=((fun d=>K d H) (ev σ x)):=id rfl
@[simp ↓] theorem qqK(x:Operand):ax S (.pick c x y) dst σ H K=(E6 (ev σ c) ((fun d=>K d H) (ev σ x)) ((fun d=>K d H) (ev σ y))):=id rfl
@[simp ↓] theorem qoW(x:Operand):av S (.pick c x y) dst σ Hr H K=(E6 (ev σ c) ((fun d=>K d H) (ev σ x)) ((fun d=>K d H) (ev σ y))):=id rfl
@[simp ↓] theorem qnL(ps:List (Nat×Nat×Operand)):ax S (.build z ps) dst σ H K=(ju σ ps (z.map uf) fun cs=>(fun d=>K d H) (.agg cs)):=id rfl
@[simp ↓] theorem qlS(ps:List (Nat×Nat×Operand)):av S (.build z ps) dst σ Hr H K=(ju σ ps (z.map uf) fun cs=>(fun d=>K d H) (.agg cs)):=id rfl
@[simp ↓] theorem qkE:ax S (.bslice el n ps) dst σ H K=(kA n (ps.map (ev σ))/\(fun d=>K d H) (.list n (ps.map (ev σ)))):=id rfl
@[simp ↓] theorem qi7:av S (.bslice el n ps) dst σ Hr H K=(kA n (ps.map (ev σ))/\(fun d=>K d H) (.list n (ps.map (ev σ)))):=id rfl
@[simp ↓] theorem qqP(x:Operand):ax S (.load agg sz x) dst σ H K=(Fa agg sz (ev σ x) H (fun d=>K d H)):=id rfl
@[simp ↓] theorem qoX(x:Operand):av S (.load agg sz x) dst σ Hr H K=(Fa agg sz (ev σ x) Hr (fun d=>K d H)):=id rfl
@[simp ↓] theorem qnE(x:Operand):ax S (.nilck x) dst σ H K=(VD (ev σ x) (fun d=>K d H)):=id rfl
@[simp ↓] theorem qlN(x:Operand):av S (.nilck x) dst σ Hr H K=(VD (ev σ x) (fun d=>K d H)):=id rfl
@[simp ↓] theorem qdB(dst:Option Nat)(op:BinOp)(x y:Operand):ax S (.arith op x y) dst σ H K=(IR op (ev σ x) (ev σ y) (fun d=>K d H)):=id rfl
@[simp ↓] theorem qlT(x:Operand):av S (.arith op x y) dst σ Hr H K=(IR op (ev σ x) (ev σ y) (fun d=>K d H)):=id rfl
@[simp ↓] theorem qkD(dst:Option Nat)(op:BinOp)(x y:Operand):ax S (.cmp op x y) dst σ H K=(Wz op (ev σ x) (ev σ y) (fun d=>K d H)):=id rfl
@[simp ↓] theorem qrZ(x:Operand):av S (.cmp op x y) dst σ Hr H K=(Wz op (ev σ x) (ev σ y) (fun d=>K d H)):=id rfl
@[simp ↓] theorem qsJ(x:Operand):ax S (.eql neg agg ks x y) dst σ H K=(Wr neg (qgB agg ks (ev σ x) (ev σ y)) (fun d=>K d H)):=id rfl
@[simp ↓] theorem qrY(x:Operand):av S (.eql neg agg ks x y) dst σ Hr H K=(Wr neg (qgB agg ks (ev σ x) (ev σ y)) (fun d=>K d H)):=id rfl
@[simp ↓] theorem qqI(x:Operand):ax S (.scat x y) dst σ H K=(SJ (ev σ x) (ev σ y) (fun d=>K d H)):=id rfl
@[simp ↓] theorem qsD(x:Operand):ax S (.not x) dst σ H K=(qcx (ev σ x) (fun d=>K d H)):=id rfl
@[simp ↓] theorem qqR(x:Operand):ax S (.conv k x) dst σ H K=(Uc k (ev σ x) (fun d=>K d H)):=id rfl
@[simp ↓] theorem qsK:ax S (.clo f xs) dst σ H K=((fun d=>K d H) (.clo f (xs.map (ev σ)))):=id rfl
@[simp ↓] theorem qnD(x:Operand)(lo hi:Option Operand):ax S (.slice n x lo hi) dst σ H K=(G2 n (ev σ x) (lo.map fun o=>tt (ev σ o)) (hi.map fun o=>tt (ev σ o)) H (fun d=>K d H)):=id rfl
@[simp ↓] theorem qlM(x:Operand)(lo hi:Option Operand):av S (.slice n x lo hi) dst σ Hr H K=(G2 n (ev σ x) (lo.map fun o=>tt (ev σ o)) (hi.map fun o=>tt (ev σ o)) Hr (fun d=>K d H)):=id rfl
@[simp ↓] theorem qky(x:Operand)(lo hi:Option Operand):ax S (.sslice x lo hi) dst σ H K=(F9 (ev σ x) (lo.map fun o=>tt (ev σ o)) (hi.map fun o=>tt (ev σ o)) (fun d=>K d H)):=id rfl
@[simp ↓] theorem qi5(x:Operand)(lo hi:Option Operand):av S (.sslice x lo hi) dst σ Hr H K=(F9 (ev σ x) (lo.map fun o=>tt (ev σ o)) (hi.map fun o=>tt (ev σ o)) (fun d=>K d H)):=id rfl
@[simp ↓] theorem qnJ(x:Operand):ax S (.faddr off x) dst σ H K=(Bu off (ev σ x) (fun d=>K d H)):=id rfl
@[simp ↓] theorem qlQ(x:Operand):av S (.faddr off x) dst σ Hr H K=(Bu off (ev σ x) (fun d=>K d H)):=id rfl
@[simp ↓] theorem qsH(x:Operand):ax S (.fld agg sz off x) dst σ H K=(qdi agg sz off (ev σ x) (fun d=>K d H)):=id rfl
@[simp ↓] theorem qnI(x i:Operand):ax S (.iaddr n x i) dst σ H K=(Bp n (ev σ i) (ev σ x) H (fun d=>K d H)):=id rfl
@[simp ↓] theorem qlP(x i:Operand):av S (.iaddr n x i) dst σ Hr H K=(Bp n (ev σ i) (ev σ x) Hr (fun d=>K d H)):=id rfl
@[simp ↓] theorem qqH(x i:Operand):ax S (.sidx x i) dst σ H K=(SI (ev σ i) (ev σ x) (fun d=>K d H)):=id rfl
@[simp ↓] theorem qsI(x:Operand):ax S (.ext x i) dst σ H K=(ZT (ev σ x) i (fun d=>K d H)):=id rfl
@[simp ↓] theorem qrX(x:Operand):av S (.ext x i) dst σ Hr H K=(ZT (ev σ x) i (fun d=>K d H)):=id rfl
@[simp ↓] theorem qsG(x:Operand):ax S (.len x) dst σ H K=(RI (ev σ x) H (fun d=>K d H)):=id rfl
@[simp ↓] theorem qrW(x:Operand):av S (.len x) dst σ Hr H K=(RI (ev σ x) Hr (fun d=>K d H)):=id rfl
@[simp ↓] theorem qqG(x:Operand):ax S (.slen x) dst σ H K=(Og (ev σ x) (fun d=>K d H)):=id rfl
@[simp ↓] theorem qoV(x:Operand):av S (.slen x) dst σ Hr H K=(Og (ev σ x) (fun d=>K d H)):=id rfl
@[simp ↓] theorem qqT(x:Operand):ax S (.bstr x) dst σ H K=(qdG (ev σ x) H (fun d=>K d H)):=id rfl
@[simp ↓] theorem qqJ(x:Operand):ax S (.rstr x) dst σ H K=(qce (ev σ x) (fun d=>K d H)):=id rfl
@[simp ↓] theorem qsF(x:Operand):ax S (.mm mx [x,y]) dst σ H K=Y4 mx (ev σ x) (ev σ y) (fun d=>K d H):=id rfl
@[simp ↓] theorem qqU(x:Operand):ax S (.box el true x) dst σ H K=((ev σ x).kn=true/\K (.cptr (ev σ x).cells 0) H):=id rfl
@[simp ↓] theorem qnM:ax S (.alloc el z) (some t) σ H K=∀b,K (.bptr t b 0) (ah H t (some (.box b (z.map uf)))):=id rfl
@[simp ↓] theorem qsL(x:Operand):ax S (.box el false x) (some t) σ H K=((ev σ x).kn=true/\∀b,K (.bptr t b 0) (ah H t (some (.box b (ev σ x).cells)))):=id rfl
@[simp ↓] theorem qkB:ax S (.mslice el n ps) (some t) σ H K=(kA n (ps.map (ev σ))/\∀x,K (.own t x) (ah H t (some (.row x el n (ps.map (ev σ)))))):=id rfl
@[simp ↓] theorem qh9(l:Operand):ax S (.mkslice el n bytes agg z l c) (some t) σ H K=qpq t el n bytes agg z (tt (ev σ l)) (tt (ev σ c)) H K:=id rfl
@[simp ↓] theorem qrV(x:Operand):av S (.mm mx [x,y]) dst σ Hr H K=Y4 mx (ev σ x) (ev σ y) (fun d=>K d H):=id rfl
@[simp ↓] theorem qlU:av S (.alloc el z) (some t) σ Hr H K=∀b,K (.bptr t b 0) (ah H t (some (.box b (z.map uf)))):=id rfl
@[simp ↓] theorem qi6:av S (.nslice el n) (some t) σ Hr H K=∀x,K (.own t x) (ah H t (some (.row x el n []))):=id rfl
@[simp ↓] theorem qhH(l:Operand):av S (.mkslice el n bytes agg z l c) (some t) σ Hr H K=qpq t el n bytes agg z (tt (ev σ l)) (tt (ev σ c)) H K:=id rfl
@[simp ↓] theorem qkA(x:Operand):ax S (.sbytes x) dst σ H K=qb9 (ev σ x) (fun d=>K d H):=id rfl
@[simp ↓] theorem qkz(x:Operand):ax S (.srange x) (some t) σ H K=XG t (ev σ x) H K:=by
 simp only[ax,bi,XG]
 split <;> simp_all
@[simp ↓] theorem qnC(x:Operand):ax S (.snext x) dst σ H K=qb5 (ev σ x) H K:=id rfl
@[simp ↓] theorem qlL(r:Nat)(x:Operand):av S (.store (some r) sz x y) dst σ Hr H K=((ev σ y).kn=true/\(ev σ y).cells.length=sz/\Oc r sz (ev σ x) (ev σ y) H K):=by
 simp only[av]
 congr 2
@[simp ↓] theorem qnB(x:Operand):ax S (.store rt sz x y) dst σ H K=((ev σ y).kn=true/\(ev σ y).cells.length=sz/\GZ sz (ev σ x) (ev σ y) H K):=id rfl
@[simp ↓] theorem qkF(x:Operand):ax S (.append rt el n bytes x y) dst σ H K=tA n (ev σ y) H fun es2=>qaL dst el n bytes (ev σ x) es2 H K:=id rfl
@[simp ↓] theorem qhJ(x:Operand):av S (.append none el n bytes x y) dst σ Hr H K=tA n (ev σ y) Hr fun es2=>qdN dst el n bytes (ev σ x) es2 H K:=by
 simp only[av]
 congr 1
@[simp ↓] theorem qhI(r:Nat)(x:Operand):av S (.append (some r) el n bytes x y) dst σ Hr H K=tA n (ev σ y) Hr fun es2=>qdM r el n bytes (ev σ x) es2 H K:=by
 simp only[av]
 congr 1
@[simp ↓] theorem qqQ(x:Operand):ax S (.copy n x y) dst σ H K=lM n (ev σ y) H fun src=>qdv n (ev σ x) src H K:=id rfl
@[simp ↓] theorem qqS(args:List Operand):ax S (.call f args) dst σ H K=(S f).pt (dst.getD 0) (args.map (ev σ)) H K:=id rfl
@[simp ↓] theorem qlR(r:Nat)(args:List Operand):av S (.callb r f args) dst σ Hr H K=Hs r dst (S f) (args.map (ev σ)) H K:=id rfl
@[simp ↓] theorem qnK(f:Operand)(args:List Operand):ax S (.callv f args) dst σ H K=zn S (ev σ f) (dst.getD 0) (args.map (ev σ)) H K:=id rfl
@[simp ↓] theorem qoY(args:List Operand):av S (.call f args) dst σ Hr H K=Vj dst (S f) (args.map (ev σ)) H K:=id rfl
end
theorem qiF(σ:Sg)(t s:Nat)(d:D):upd σ t d s=if s=t then d else σ s:=id rfl
theorem QT(σ:Sg)(t:Nat)(d:D):eH σ (some t) d=upd σ t d:=id rfl
theorem qfm(σ:Sg)(d:D):eH σ none d=σ:=id rfl
theorem qfn(H:ab)(t s:Nat)(d:Option Res):ah H t d s=if s=t then d else H s:=id rfl
attribute [simp] QT qfm qfn
@[simp] theorem Xl(σ:Sg)(t:Nat):ev σ (.tmp t)=σ t:=id rfl
@[simp] theorem qbU(σ:Sg)(x:Value):ev σ (.const x)=uf x:=id rfl
@[simp] theorem qov:ev σ (.func f)= .clo f []:=id rfl
@[simp] theorem qow(b:Bool):uf (.bool b)= .v (.bool b):=id rfl
@[simp] theorem qiC(k:IntKind)(n:Int):uf (.int k n)= .v (.int k n):=id rfl
@[simp] theorem qrA:uf (.string s)= .v (.string s):=id rfl
@[simp] theorem qrB(a:Option Addr):uf (.pointer a)= .v (.pointer a):=id rfl
@[simp] theorem qlj(a:Option Addr)(l c:Nat):uf (.slice a l c)= .v (.slice a l c):=id rfl
theorem qjE(σ:Sg):iJ [] σ=fun _=> .any:=id rfl
theorem qgn(t:Nat)(l:List Nat)(σ:Sg):iJ (t::l) σ=upd (iJ l σ) t (σ t):=id rfl
@[simp] theorem qpG:jy [] H=fun _=>none:=id rfl
@[simp] theorem qcP(t:Nat)(l:List Nat)(H:ab):jy (t::l) H=ah (jy l H) t (H t):=id rfl
@[simp] theorem qo8:bB i=none:=id rfl
@[simp] theorem qpx:sI [] σ=True:=id rfl
@[simp] theorem qmj(l:List (Nat×D)):sI ((t,d)::l) σ=(Qs (σ t) d/\sI l σ):=id rfl
@[simp] theorem qpo:wU [] H=True:=id rfl
@[simp] theorem qma(d:Res)(l:List (Nat×Res)):wU ((t,d)::l) H=((H t=some d\/isNilRow d)/\wU l H):=id rfl
@[simp] theorem sub_self(d:D):Qs d d=True:=by
 cases d <;> simp[Qs]
@[simp] theorem qrH(a:D):Qs a (.v x)=(a= .v x):=id rfl
@[simp] theorem qiL(a:D):Qs a (.cptr cs o)=(a= .cptr cs o):=id rfl
@[simp] theorem qlp(y:Value):Qs (.own i x) (.own j y)=(x=y):=by simp[Qs]
@[simp] theorem qiK(y:Value):Qs (.v x) (.own j y)=(x=y):=by simp[Qs]
@[simp] theorem qte:KN true sz cs off= .agg ((cs.drop off).take sz):=id rfl
@[simp] theorem qtf:KN false sz cs off=(cs[off]?).getD .any:=id rfl
@[simp ↓] theorem qlJ(rs:List aj)(K:D->ab->Prop):rG rs K .norm σ H=xq rs σ H fun ds=>K (iF ds) H:=id rfl
@[simp ↓] theorem qoT(rs:List aj)(K:D->ab->Prop):rG rs K .ret σ H=xq rs σ H fun ds=>K (iF ds) H:=id rfl
@[simp ↓] theorem qoS(K:List D->Prop):xq [] σ H K=K []:=id rfl
@[simp ↓] theorem qoR(r:List aj)(K:List D->Prop):xq (.tmp t::r) σ H K=xq r σ H fun ds=>K (σ t::ds):=id rfl
@[simp ↓] theorem qlI(r:List aj)(K:List D->Prop):xq (.cell t agg sz::r) σ H K=Fa agg sz (σ t) H fun d=>xq r σ H fun ds=>K (d::ds):=id rfl
@[simp] theorem qs7:iF [d]=d:=id rfl
@[simp] theorem qs8:iF []= .tup []:=id rfl
@[simp] theorem qs6(l:List D):iF (d::e::l)= .tup (d::e::l):=id rfl
@[simp] theorem qtl:D.kn (.v x)=true:=id rfl
@[simp] theorem qny:D.cells (.v x)=[.v x]:=id rfl
@[simp] theorem qpF:D.kn (.agg cs)=true:=id rfl
@[simp] theorem qh8:D.cells (.agg cs)=cs:=id rfl
@[simp] theorem qmu:D.kn (.list n es)=true:=id rfl
@[simp] theorem qg0:D.cells (.list n es)=[.list n es]:=id rfl
@[simp] theorem qmv:D.kn (.cptr cs o)=true:=id rfl
@[simp] theorem qg1:D.cells (.cptr cs o)=[.cptr cs o]:=id rfl
@[simp] theorem qpD:D.kn (.own i x)=true:=id rfl
@[simp] theorem qh6:D.cells (.own i x)=[.own i x]:=id rfl
@[simp] theorem qpC(k:Nat):D.kn (.sub i v n k o)=true:=id rfl
@[simp] theorem qh5(k:Nat):D.cells (.sub i v n k o)=[.sub i v n k o]:=id rfl
@[simp] theorem qpE:D.kn (.clo f cs)=true:=id rfl
@[simp] theorem qh7:D.cells (.clo f cs)=[.clo f cs]:=id rfl
@[simp] theorem qsO(n:Int):tt (.v (.int k n))=some (k,n):=id rfl
attribute [simp] setAt
@[simp] theorem qqo(n:Int):enc n= .v (.int .i64 n):=rfl
@[simp] theorem qnh(b:Bool):enc b= .v (.bool b):=rfl
@[simp] theorem qqn:enc s= .v (.string s):=rfl
@[simp] theorem qng{X:Type}[Cod X](l:List X):enc l= .list (Cod.wd X) (l.map enc):=rfl
@[simp] theorem qoo:Cod.wd Int=1:=rfl
@[simp] theorem qlb:Cod.wd Bool=1:=rfl
@[simp] theorem qon:Cod.wd ByteArray=1:=rfl
@[simp] theorem qla{X:Type}[Cod X]:Cod.wd (List X)=1:=rfl
@[congr] theorem qmG(hd:d=d₁):O8 d A B=O8 d₁ A B:=by subst hd;rfl
@[congr] theorem qhZ{s:Nat}{b:Bool}(hd:d=d₁):mz s b σ d yes no=mz s b σ d₁ yes no:=by subst hd;rfl
@[congr] theorem qjb(hd:d=d₁):E6 d A B=E6 d₁ A B:=by subst hd;rfl
@[congr] theorem qjz(hr:r=r₁):O3 agg sz b off r K=O3 agg sz b off r₁ K:=by subst hr;rfl
@[congr] theorem qjy(hr:r=r₁):O1 agg sz x n i off r K=O1 agg sz x n i off r₁ K:=by subst hr;rfl
@[congr] theorem qjx(hd:d=d₁):Fa agg sz d H K=Fa agg sz d₁ H K:=by subst hd;rfl
@[congr] theorem ql3(hd:d=d₁):VD d K=VD d₁ K:=by subst hd;rfl
@[congr] theorem qii(hd:d=d₁)(he:e=e₁):IR op d e K=IR op d₁ e₁ K:=by subst hd;subst he;rfl
@[congr] theorem qlF(hd:d=d₁):qce d K=qce d₁ K:=by subst hd;rfl
@[congr] theorem qnw{o:Option Bool}{o₁:Option Bool}(ho:o=o₁):Sd o K=Sd o₁ K:=by subst ho;rfl
@[congr] theorem qnv(hd:d=d₁)(he:e=e₁):Wz op d e K=Wz op d₁ e₁ K:=by subst hd;subst he;rfl
@[congr] theorem qm7{o:Option Bool}{o₁:Option Bool}(ho:o=o₁):Wr neg o K=Wr neg o₁ K:=by subst ho;rfl
@[congr] theorem qiZ(hd:d=d₁)(he:e=e₁):SJ d e K=SJ d₁ e₁ K:=by subst hd;subst he;rfl
@[congr] theorem ql1(hd:d=d₁):qcx d K=qcx d₁ K:=by subst hd;rfl
@[congr] theorem qko(hd:d=d₁):Uc k d K=Uc k d₁ K:=by subst hd;rfl
@[congr] theorem qh1(hd:d=d₁):Bu off d K=Bu off d₁ K:=by subst hd;rfl
@[congr] theorem qmP(hd:d=d₁):qdi agg sz off d K=qdi agg sz off d₁ K:=by subst hd;rfl
@[congr] theorem qhW{k:Int}(hr:r=r₁):Ib n k id x r K=Ib n k id x r₁ K:=by subst hr;rfl
@[congr] theorem qhV{i:D}(hi:i=i₁)(hd:d=d₁):Bp n i d H K=Bp n i₁ d₁ H K:=by subst hi;subst hd;rfl
@[congr] theorem qiY{i:D}(hi:i=i₁)(hd:d=d₁):SI i d K=SI i₁ d₁ K:=by subst hi;subst hd;rfl
@[congr] theorem qmX{o:Option D}{o₁:Option D}(ho:o=o₁):ZU o K=ZU o₁ K:=by subst ho;rfl
@[congr] theorem qmW(hd:d=d₁):ZT d i K=ZT d₁ i K:=by subst hd;rfl
@[congr] theorem qmt(hr:r=r₁):Zj x r K=Zj x r₁ K:=by subst hr;rfl
@[congr] theorem qms(hd:d=d₁):RI d H K=RI d₁ H K:=by subst hd;rfl
@[congr] theorem qnR(hr:r=r₁):qav x r K=qav x r₁ K:=by subst hr;rfl
@[congr] theorem qnQ(hd:d=d₁):qdG d H K=qdG d₁ H K:=by subst hd;rfl
@[congr] theorem qiX(hd:d=d₁):Og d K=Og d₁ K:=by subst hd;rfl
@[congr] theorem qmb(hd:d=d₁)(he:e=e₁):Y4 mx d e K=Y4 mx d₁ e₁ K:=by subst hd;subst he;rfl
@[congr] theorem qlu{K:List D->Prop}(hr:r=r₁):U3 n lo hi x r K=U3 n lo hi x r₁ K:=by subst hr;rfl
@[congr] theorem qhC{y:D}{K:D->ab->Prop}(hy:y=y₁)(hr:r=r₁):AL sz id b off y r H K=AL sz id b off y₁ r₁ H K:=by subst hy;subst hr;rfl
@[congr] theorem qhB{y:D}{K:D->ab->Prop}(hy:y=y₁)(hr:r=r₁):AK sz id x n i off y r H K=AK sz id x n i off y₁ r₁ H K:=by subst hy;subst hr;rfl
@[congr] theorem qhA{y:D}{K:D->ab->Prop}(hd:d=d₁)(hy:y=y₁):GZ sz d y H K=GZ sz d₁ y₁ H K:=by subst hd;subst hy;rfl
@[congr] theorem qn1{K:D->ab->Prop}(hes2:es2=es2₁)(hr:r=r₁):qaN el n bytes id x es2 r H K=qaN el n bytes id x es2₁ r₁ H K:=by subst hes2;subst hr;rfl
@[congr] theorem qnt{K:D->ab->Prop}(hsrc:src=src₁)(hr:r=r₁):qak n id x n' lo hi src r H K=qak n id x n' lo hi src₁ r₁ H K:=by subst hsrc;subst hr;rfl
@[congr] theorem qns{K:D->ab->Prop}(hd:d=d₁)(hsrc:src=src₁):qdv n d src H K=qdv n d₁ src₁ H K:=by subst hd;subst hsrc;rfl
@[congr] theorem qmO{K:Sg->ab->Prop}(hr:r=r₁):ZH t x id σ r H K=ZH t x id σ r₁ H K:=by subst hr;rfl
@[congr] theorem qmM{K:Sg->ab->Prop}(hd:d=d₁):qdf t n d σ H K=qdf t n d₁ σ H K:=by subst hd;rfl
@[congr] theorem qlD(hd:d=d₁):qb9 d K=qb9 d₁ K:=by subst hd;rfl
@[congr] theorem qlt{K:D->ab->Prop}(hd:d=d₁):XG t d H K=XG t d₁ H K:=by subst hd;rfl
@[congr] theorem qly{K:D->ab->Prop}(hr:r=r₁):XH id b r H K=XH id b r₁ H K:=by subst hr;rfl
@[congr] theorem qlx{K:D->ab->Prop}(hd:d=d₁):qb5 d H K=qb5 d₁ H K:=by subst hd;rfl
@[congr] theorem qn2{K:D->ab->Prop}(hdst:dst=dst₁)(hd:d=d₁)(hes2:es2=es2₁):qdN dst el n b d es2 H K=qdN dst₁ el n b d₁ es2₁ H K:=by subst hdst;subst hd;subst hes2;rfl
@[congr] theorem qnZ{r:Nat}{q:Option Res}{K:D->ab->Prop}{q₁:Option Res}(hes2:es2=es2₁)(hq:q=q₁):qaK el n b r x es2 q H K=qaK el n b r x es2₁ q₁ H K:=by subst hes2;subst hq;rfl
@[congr] theorem qnY{r:Nat}{K:D->ab->Prop}(hd:d=d₁)(hes2:es2=es2₁):qdM r el n b d es2 H K=qdM r el n b d₁ es2₁ H K:=by subst hd;subst hes2;rfl
@[congr] theorem qiR{r:Nat}{y:D}{K:D->ab->Prop}(hd:d=d₁)(hy:y=y₁):Oc r sz d y H K=Oc r sz d₁ y₁ H K:=by subst hd;subst hy;rfl
@[congr] theorem qn0{K:D->ab->Prop}(hdst:dst=dst₁)(hd:d=d₁)(hes2:es2=es2₁):qaL dst el n bytes d es2 H K=qaL dst₁ el n bytes d₁ es2₁ H K:=by subst hdst;subst hd;subst hes2;rfl
@[congr] theorem qkx{f:D}{d:Nat}{K:D->ab->Prop}(hf:f=f₁)(hargs:args=args₁):zn S f d args H K=zn S f₁ d args₁ H K:=by subst hf;subst hargs;rfl
@[congr] theorem qiT{K:List D->Prop}(h:d=d'):lM n d H K=lM n d' H K:=by subst h;rfl
@[congr] theorem qlv{K:List D->Prop}(h:d=d'):tA n d H K=tA n d' H K:=by subst h;rfl
@[congr] theorem qik{s s':Spc}{d:Nat}{ds':List D}{K:D->ab->Prop}(h:s=s')(h':ds=ds'):s.pt d ds H K=s'.pt d ds' H K:=by subst h;subst h';rfl
@[congr] theorem qkm{lo hi lo' hi':Option (Option (IntKind×Int))}{K:Nat->Nat->Prop}(h1:lo=lo')(h2:hi=hi')(h3:n=n'):tj lo hi n K=tj lo' hi' n' K:=by subst h1;subst h2;subst h3;rfl
end Go.Gv
