/- A part of the framework and of the walks: T10. -/
import Derived.Test.YtphdikcommfnhaaGreatDoorGe16
set_option linter.unusedSimpArgs false
set_option linter.unusedVariables false
set_option linter.unusedSectionVars false

namespace Go.Gv
open Cod (enc dec)
variable {b b' bytes el el' f g hi i id j len lo n n' n'' o off sz t:Nat}{H:ab}{K:D->Prop}{dst dst₁ rt:Option Nat}{v x x':Value}{L d d' d₁ e e₁ f₁ i₁ y₁ z₁:D}{k k' kd:IntKind}{σ:Sg}{args args₁ caps cells cs ds es es2 es2₁ src src₁:List D}{agg mx neg:Bool}{r r₁:Option Res}{c y:Operand}{a h l:Int}{s:ByteArray}{z:List Value}{no yes:Sg->Prop}{A B p:Prop}{op:BinOp}{ks:List XQ}{S:Nat->Spc}{ps xs:List Operand}{s₁:Spc}
section
variable {S:Nat->Spc}{K:Ex->Sg->ab->Prop}{σ:Sg}{H:ab}
def Ub(S:Nat->Spc)(b:CC)(K:Ex->Sg->ab->Prop):Ex->Sg->ab->Prop:=fun e σ H=>match e with
 | .norm=>vc S b K σ H
 | e=>K e σ H
def ZL(id:Nat)(K:Ex->Sg->ab->Prop):Ex->Sg->ab->Prop:=fun e σ H=>match e with
 | .ex i=>if i=id then K .norm σ H else K (.ex i) σ H
 | e=>K e σ H
def Y1(inv:qk2)(x:inv.X)(K:Ex->Sg->ab->Prop):Ex->Sg->ab->Prop:=fun e σ' H'=>match e with
 | .norm=>∃y,inv.P y/\Wk σ' H' (inv.s y) (inv.h y)/\inv.m y < inv.m x
 | e=>K e σ' H'
def RN(d:D)(A B:Prop):Prop:=match d with
 | .v (.bool t)=>(t=true->A)/\(t=false->B)
 | _=>False
@[simp ↓] theorem qki:vc S .skip K σ H=K .norm σ H:=id rfl
@[simp ↓] theorem qh1(l:List CI):vc S (.reg l) K σ H=DF S l σ H (K .norm):=id rfl
@[simp ↓] theorem qud(p l:List CI):vc S (.regd p l) K σ H=mE S p σ (bu p H) H fun σ H=>DF S l σ H (K .norm):=id rfl
@[simp ↓] theorem Sk(a b:CC):vc S (.seq a b) K σ H=vc S a (Ub S b K) σ H:=id rfl
@[simp ↓] theorem KN(b:CC):Ub S b K .norm σ H=vc S b K σ H:=id rfl
@[simp ↓] theorem qc9(b:CC)(i:Nat):Ub S b K (.ex i) σ H=K (.ex i) σ H:=id rfl
@[simp ↓] theorem qkj(b:CC):Ub S b K .ret σ H=K .ret σ H:=id rfl
@[simp ↓] theorem qnY(c:Operand)(a b:CC):vc S (.ite c a b) K σ H=RN (ev σ c) (vc S a K σ H) (vc S b K σ H):=id rfl
@[simp] theorem qkm(t:Bool)(A B:Prop):RN (.v (.bool t)) A B=((t=true->A)/\(t=false->B)):=id rfl
@[simp high] theorem quf:RN (.v (.bool true)) A B=A:=by simp[RN]
@[simp high] theorem qug:RN (.v (.bool false)) A B=B:=by simp[RN]
@[simp ↓] theorem Pq(id:Nat)(b:CC):vc S (.block id b) K σ H=vc S b (ZL id K) σ H:=_root_.id rfl
@[simp ↓] theorem qko(id:Nat):ZL id K .norm σ H=K .norm σ H:=_root_.id rfl
@[simp ↓] theorem qdc(id:Nat):ZL id K .ret σ H=K .ret σ H:=_root_.id rfl
@[simp ↓] theorem U1(id i:Nat):ZL id K (.ex i) σ H=if i=id then K .norm σ H else K (.ex i) σ H:=_root_.id rfl
@[simp ↓] theorem qkn(i:Nat):vc S (.exit i) K σ H=K (.ex i) σ H:=id rfl
@[simp ↓] theorem qwv:vc S .ret K σ H=K .ret σ H:=id rfl
@[simp ↓] theorem que(ls lh:List Nat)(c:CC):vc S (.keep ls lh c) K σ H=vc S c K (jA ls σ) (kE lh H):=id rfl
theorem Pp(k:Nat)(b:CC):vc S (.loop k b) K σ H=∃inv:qk2,(∃x,inv.P x/\Wk σ H (inv.s x) (inv.h x))/\∀x,inv.P x->vc S b (Y1 inv x K) (inv.s x) (inv.h x):=id rfl
theorem qdb(k:Nat)(c:CC):vc S (.cut k c) K σ H=∃ (σ':Sg) (H':ab),Wk σ H σ' H'/\vc S c K σ' H':=id rfl
@[simp ↓] theorem qkl(inv:qk2)(x:inv.X):Y1 inv x K .norm σ H=∃y,inv.P y/\Wk σ H (inv.s y) (inv.h y)/\inv.m y < inv.m x:=id rfl
@[simp ↓] theorem qkk(inv:qk2)(x:inv.X):Y1 inv x K .ret σ H=K .ret σ H:=id rfl
@[simp ↓] theorem qda(inv:qk2)(x:inv.X)(i:Nat):Y1 inv x K (.ex i) σ H=K (.ex i) σ H:=id rfl
end
def nE(s:Nat)(b:Bool)(σ:Sg)(d:D)(yes no:Sg->Prop):Prop:=match d with
 | .v (.bool t)=>(t=b->yes (upd σ s (.v (.bool b))))/\(t=(!b)->no (upd σ s (.v (.bool (!b)))))
 | .undef=>no σ
 | _=>False
@[simp high] theorem qxk(s:Nat):nE s true σ (.v (.bool true)) yes no=yes (upd σ s (.v (.bool true))):=by simp[nE]
@[simp high] theorem qxl(s:Nat):nE s true σ (.v (.bool false)) yes no=no (upd σ s (.v (.bool false))):=by simp[nE]
@[simp high] theorem qxm(s:Nat):nE s false σ (.v (.bool true)) yes no=no (upd σ s (.v (.bool true))):=by simp[nE]
@[simp high] theorem qxn(s:Nat):nE s false σ (.v (.bool false)) yes no=yes (upd σ s (.v (.bool false))):=by simp[nE]
@[simp] theorem qxj(s:Nat)(b:Bool):nE s b σ .undef yes no=no σ:=id rfl
@[simp] theorem qxw(s:Nat)(b t:Bool):nE s b σ (.v (.bool t)) yes no=((t=b->yes (upd σ s (.v (.bool b))))/\(t=(!b)->no (upd σ s (.v (.bool (!b)))))):=id rfl
section
variable {S:Nat->Spc}{σ:Sg}{H Hr:ab}
@[simp ↓] theorem qhX(K:Sg->ab->Prop):DF S [] σ H K=K σ H:=id rfl
@[simp ↓] theorem qjP(K:Sg->ab->Prop)(d:Option Nat)(c:COp)(r:List CI):DF S (.op d none c::r) σ H K=az S c d σ H fun x H'=>DF S r (fe σ d x) H' K:=id rfl
@[simp ↓] theorem qv8(K:Sg->ab->Prop)(d:Option Nat)(s:Nat)(b:Bool)(c:COp)(r:List CI):DF S (.op d (some (s,b)) c::r) σ H K=nE s b σ (σ s) (fun σ=>az S c d σ H fun x H'=>DF S r (fe σ d x) H' K) (fun σ=>DF S r (fe σ d .undef) H K):=id rfl
@[simp ↓] theorem qv9(K:Sg->ab->Prop)(r:List CI):DF S (.frz t n::r) σ H K=Hi t n σ H fun σ' H'=>DF S r σ' H' K:=id rfl
@[simp ↓] theorem qvV(K:Sg->ab->Prop):mE S [] σ Hr H K=K σ H:=id rfl
@[simp ↓] theorem qvW(K:Sg->ab->Prop)(a:Nat)(r:List CI):mE S (.frz a b::r) σ Hr H K=mE S r σ (bu r Hr) H K:=id rfl
@[simp ↓] theorem qwZ(K:Sg->ab->Prop)(d:Option Nat)(c:COp)(r:List CI):mE S (.op d none c::r) σ Hr H K=aw S c d σ Hr H fun x H'=>mE S r (fe σ d x) Hr H' K:=id rfl
@[simp ↓] theorem qvU(K:Sg->ab->Prop)(d:Option Nat)(s:Nat)(b:Bool)(c:COp)(r:List CI):mE S (.op d (some (s,b)) c::r) σ Hr H K=nE s b σ (σ s) (fun σ=>aw S c d σ Hr H fun x H'=>mE S r (fe σ d x) Hr H' K) (fun σ=>mE S r (fe σ d .undef) Hr H K):=id rfl
end
def G5(d:D)(A B:Prop):Prop:=match d with
 | .v (.bool t)=>(t=true->A)/\(t=false->B)
 | _=>False
@[simp high] theorem qpK:G5 (.v (.bool true)) A B=A:=by simp[G5]
@[simp high] theorem qpL:G5 (.v (.bool false)) A B=B:=by simp[G5]
def RG(agg:Bool)(sz b off:Nat)(r:Option Res)(K:D->Prop):Prop:=match r with
 | some (.box b' cells)=>b'=b/\off+sz<=cells.length/\K (M9 agg sz cells off)
 | _=>False
def RE(agg:Bool)(sz:Nat)(x:Value)(n i off:Nat)(r:Option Res)(K:D->Prop):Prop:=match r with
 | some (.row x' _ n' es)=>x'=x/\n'=n/\off+sz<=n/\i < es.length/\∀d,es[i]? =some d->K (M9 agg sz d.cells off)
 | _=>False
def Ha(agg:Bool)(sz:Nat)(d:D)(H:ab)(K:D->Prop):Prop:=match d with
 | .cptr cs off=>off+sz<=cs.length/\K (M9 agg sz cs off)
 | .bptr id b off=>RG agg sz b off (H id) K
 | .eptr id x n i off=>RE agg sz x n i off (H id) K
 | _=>False
@[simp] theorem qp9:Ha agg sz (.cptr cs off) H K=(off+sz<=cs.length/\K (M9 agg sz cs off)):=id rfl
@[simp] theorem qqa:Ha agg sz (.bptr i b off) H K=RG agg sz b off (H i) K:=id rfl
@[simp] theorem qp8(k:Nat):Ha agg sz (.eptr i x n k off) H K=RE agg sz x n k off (H i) K:=id rfl
@[simp] theorem qqc:RG agg sz b off (some (.box b' cells)) K=(b'=b/\off+sz<=cells.length/\K (M9 agg sz cells off)):=id rfl
@[simp] theorem qqb:RE agg sz x n i off (some (.row x' el n' es)) K=(x'=x/\n'=n/\off+sz<=n/\i < es.length/\∀d,es[i]? =some d->K (M9 agg sz d.cells off)):=id rfl
def YU(d:D)(K:D->Prop):Prop:=match d with
 | .cptr cs off=>K (.cptr cs off)
 | .bptr id b off=>K (.bptr id b off)
 | .eptr id x n i off=>K (.eptr id x n i off)
 | .tape L=>K (.tape L)
 | .clo f caps=>K (.clo f caps)
 | _=>False
@[simp] theorem qsW:YU (.cptr cs off) K=K (.cptr cs off):=id rfl
@[simp] theorem qsX:YU (.bptr i b off) K=K (.bptr i b off):=id rfl
def K9(op:BinOp)(d e:D)(K:D->Prop):Prop:=match d,e with
 | .v (.int k a), .v (.int k' b)=>ZW op k k'/\hU op k a b K
 | _,_=>False
@[simp] theorem qdU(op:BinOp)(k k':IntKind)(a b:Int)(K:D->Prop):K9 op (.v (.int k a)) (.v (.int k' b)) K=(ZW op k k'/\hU op k a b K):=id rfl
@[simp] theorem qge(k k':IntKind):ZW .add k k'=(k=k'):=id rfl
@[simp] theorem qqk:ZW .sub k k'=(k=k'):=id rfl
@[simp] theorem qqp:ZW .mul k k'=(k=k'):=id rfl
@[simp] theorem qqo:ZW .quo k k'=(k=k'):=id rfl
@[simp] theorem qqn:ZW .rem k k'=(k=k'):=id rfl
@[simp] theorem qqq:ZW .and k k'=(k=k'):=id rfl
@[simp] theorem qtv:ZW .or k k'=(k=k'):=id rfl
@[simp] theorem qqm:ZW .shl k k'=True:=id rfl
@[simp] theorem qql:ZW .shr k k'=True:=id rfl
@[simp ↓] theorem ZO(k:IntKind)(a b:Int)(K:D->Prop):hU .add k a b K=(InR k (a+b)/\K (.v (.int k (a+b)))):=id rfl
@[simp ↓] theorem qlV(b:Int):hU .sub k a b K=(InR k (a -b)/\K (.v (.int k (a -b)))):=id rfl
@[simp ↓] theorem ql0(b:Int):hU .mul k a b K=(InR k (a*b)/\K (.v (.int k (a*b)))):=id rfl
@[simp ↓] theorem qlZ(b:Int):hU .quo k a b K=(b≠0/\InR k (a.tdiv b)/\K (.v (.int k (a.tdiv b)))):=id rfl
@[simp ↓] theorem qlY(b:Int):hU .rem k a b K=(b≠0/\K (.v (.int k (a.tmod b)))):=id rfl
@[simp ↓] theorem ql1(b:Int):hU .and k a b K=K (.v (.int k (Vh k a b))):=id rfl
@[simp ↓] theorem qot(b:Int):hU .or k a b K=K (.v (.int k (qmY k a b))):=id rfl
@[simp ↓] theorem qlX(b:Int):hU .shl k a b K=(0<=b/\K (.v (.int k (QM k a b)))):=id rfl
@[simp ↓] theorem qlW(b:Int):hU .shr k a b K=(0<=b/\K (.v (.int k (qaF k a b)))):=id rfl
def qfv(d:D)(K:D->Prop):Prop:=match d with
 | .v (.int _ n)=>K (.v (.string (Utf8.encode n)))
 | _=>False
@[simp] theorem qsy(n:Int):qfv (.v (.int k n)) K=K (.v (.string (Utf8.encode n))):=id rfl
def U6(o:Option Bool)(K:D->Prop):Prop:=match o with|some t=>K (.v (.bool t))|none=>False
@[simp] theorem qkD(t:Bool)(K:D->Prop):U6 (some t) K=K (.v (.bool t)):=id rfl
def ZD(op:BinOp)(d e:D)(K:D->Prop):Prop:=match d,e with
 | .v (.int k a), .v (.int k' b)=>k=k'/\U6 (SI op a b) K
 | .v (.string a), .v (.string b)=>U6 (U5 op a b) K
 | _,_=>False
@[simp] theorem qkC(op:BinOp)(k k':IntKind)(a b:Int)(K:D->Prop):ZD op (.v (.int k a)) (.v (.int k' b)) K=(k=k'/\U6 (SI op a b) K):=id rfl
@[simp] theorem qur(a b:ByteArray):ZD op (.v (.string a)) (.v (.string b)) K=U6 (U5 op a b) K:=id rfl
@[simp] theorem qdz(a b:Int):SI .lss a b=some (decide (a < b)):=id rfl
@[simp] theorem qn9(b:Int):SI .leq a b=some (decide (a<=b)):=id rfl
@[simp] theorem qoa(b:Int):SI .gtr a b=some (decide (b < a)):=id rfl
@[simp] theorem qob(b:Int):SI .geq a b=some (decide (b<=a)):=id rfl
@[simp] theorem qn6(a b:ByteArray):U5 .lss a b=some (Op.bytesLess a.toList b.toList):=id rfl
@[simp] theorem qn7(a b:ByteArray):U5 .gtr a b=some (!(Op.bytesLess a.toList b.toList||a.toList==b.toList)):=id rfl
@[simp] theorem qn8(a b:ByteArray):U5 .geq a b=some (!Op.bytesLess a.toList b.toList):=id rfl
def Zv(neg:Bool)(o:Option Bool)(K:D->Prop):Prop:=match o with
 | some p=>K (.v (.bool (if neg then !p else p)))
 | none=>False
@[simp] theorem qt6(p:Bool):Zv false (some p) K=K (.v (.bool p)):=id rfl
@[simp] theorem qt5(p:Bool):Zv true (some p) K=K (.v (.bool (!p))):=id rfl
@[simp] theorem qwr(k:XQ)(a b:D):qkd false [k] a b=ZX k a b:=id rfl
@[simp] theorem qwq(a b:List D):qkd true ks (.agg a) (.agg b)=qgH ks a b:=id rfl
@[simp] theorem qwp:qgH [] [] []=some true:=id rfl
@[simp] theorem qwo(k:XQ)(a b:D)(as bs:List D):qgH (k::ks) (a::as) (b::bs)=(ZX k a b).bind fun p=>(qgH ks as bs).bind fun q=>some (p && q):=id rfl
@[simp] theorem qwt(b:Int):ZX .int (.v (.int k a)) (.v (.int k' b))=if k=k' then some (decide (a=b))else none:=id rfl
@[simp] theorem qws(a b:ByteArray):ZX .str (.v (.string a)) (.v (.string b))=some (decide (a=b)):=id rfl
@[simp] theorem qwu(a b:Bool):ZX .bool (.v (.bool a)) (.v (.bool b))=some (decide (a=b)):=id rfl
def VJ(d e:D)(K:D->Prop):Prop:=match d,e with
 | .v (.string a), .v (.string b)=>a.size+b.size<=1000000000/\K (.v (.string (a++b)))
 | _,_=>False
@[simp] theorem qpo(a b:ByteArray):VJ (.v (.string a)) (.v (.string b)) K=(a.size+b.size<=1000000000/\K (.v (.string (a++b)))):=id rfl
def qb0(d:D)(K:D->Prop):Prop:=match d with
 | .v (.bool b)=>K (.v (.bool (!b)))
 | _=>False
@[simp] theorem qsS(b:Bool):qb0 (.v (.bool b)) K=K (.v (.bool (!b))):=id rfl
def Xn(k:IntKind)(d:D)(K:D->Prop):Prop:=match d with
 | .v (.int _ n)=>K (.v (.int k (k.wrap n)))
 | _=>False
@[simp] theorem qrg(n:Int):Xn k (.v (.int k' n)) K=K (.v (.int k (k.wrap n))):=id rfl
def T0(n id:Nat)(x:Value)(lo hi:Option (Option (IntKind×Int)))(r:Option Res)(K:D->Prop):Prop:=match r with
 | some (.row x' _ n' es)=>x'=x/\n'=n/\uX lo hi es.length fun l h=>K (.sub id x n l h)
 | _=>False
@[simp] theorem qmH(lo hi:Option (Option (IntKind×Int))):T0 n i x lo hi (some (.row x' el n' es)) K=(x'=x/\n'=n/\uX lo hi es.length fun l h=>K (.sub i x n l h)):=id rfl
@[simp] theorem qum(K:Nat->Nat->Prop):uX (some (some (k,l))) none len K=(0<=l/\l<=len/\K l.toNat len):=id rfl
def Jh(n:Nat)(d:D)(lo hi:Option (Option (IntKind×Int)))(H:ab)(K:D->Prop):Prop:=match d with
 | .list n' es=>n'=n/\(match lo,hi with
   | none,none=>K (.list n es)
   | some (some (_,l)),none=>0<=l/\l<=es.length/\K (.list n (es.drop l.toNat))
   | none,some (some (_,h))=>0<=h/\h<=es.length/\K (.list n (es.take h.toNat))
   | some (some (_,l)),some (some (_,h))=>0<=l/\l<=h/\h<=es.length/\K (.list n ((es.take h.toNat).drop l.toNat))
   | _,_=>False)
 | .own id x=>T0 n id x lo hi (H id) K
 | .sub id x n' a b=>n'=n/\uX lo hi (b -a) fun l h=>K (.sub id x n (a+l) (a+h))
 | .v (.slice none 0 0)=>uX lo hi 0 fun _ _=>K (.v (.slice none 0 0))
 | _=>False
@[simp] theorem qmG(lo hi:Option (Option (IntKind×Int))):Jh n (.own i x) lo hi H K=T0 n i x lo hi (H i) K:=id rfl
@[simp] theorem qlo:Jh n (.list n' es) (some (some (k,l))) none H K=(n'=n/\0<=l/\l<=es.length/\K (.list n (es.drop l.toNat))):=id rfl
@[simp] theorem qln:Jh n (.list n' es) none (some (some (k,l))) H K=(n'=n/\0<=l/\l<=es.length/\K (.list n (es.take l.toNat))):=id rfl
def Ii(d:D)(lo hi:Option (Option (IntKind×Int)))(K:D->Prop):Prop:=match d with
 | .v (.string s)=>(match lo,hi with
   | none,none=>K (.v (.string (s.extract 0 s.size)))
   | some (some (_,l)),none=>0<=l/\l<=s.size/\K (.v (.string (s.extract l.toNat s.size)))
   | none,some (some (_,h))=>0<=h/\h<=s.size/\K (.v (.string (s.extract 0 h.toNat)))
   | some (some (_,l)),some (some (_,h))=>0<=l/\l<=h/\h<=s.size/\K (.v (.string (s.extract l.toNat h.toNat)))
   | _,_=>False)
 | _=>False
@[simp] theorem qi1:Ii (.v (.string s)) (some (some (k,l))) none K=(0<=l/\l<=s.size/\K (.v (.string (s.extract l.toNat s.size)))):=id rfl
@[simp] theorem qi2:Ii (.v (.string s)) (some (some (k,l))) (some (some (k',h))) K=(0<=l/\l<=h/\h<=s.size/\K (.v (.string (s.extract l.toNat h.toNat)))):=id rfl
def C6(off:Nat)(d:D)(K:D->Prop):Prop:=match d with
 | .cptr cs o=>K (.cptr cs (o+off))
 | .bptr id b o=>K (.bptr id b (o+off))
 | .eptr id x n i o=>K (.eptr id x n i (o+off))
 | _=>False
@[simp] theorem qnN:C6 off (.cptr cs o) K=K (.cptr cs (o+off)):=id rfl
@[simp] theorem qnO:C6 off (.bptr i b o) K=K (.bptr i b (o+off)):=id rfl
@[simp] theorem qnM(k:Nat):C6 off (.eptr i x n k o) K=K (.eptr i x n k (o+off)):=id rfl
def qgE(agg:Bool)(sz off:Nat)(d:D)(K:D->Prop):Prop:=match d with
 | .agg cs=>off+sz<=cs.length/\K (M9 agg sz cs off)
 | _=>False
@[simp] theorem qtY:qgE agg sz off (.agg cs) K=(off+sz<=cs.length/\K (M9 agg sz cs off)):=id rfl
def Kp(n:Nat)(k:Int)(id:Nat)(x:Value)(r:Option Res)(K:D->Prop):Prop:=match r with
 | some (.row x' _ n' es)=>x'=x/\n'=n/\0<=k/\k < es.length/\K (.eptr id x n k.toNat 0)
 | _=>False
def C3(n:Nat)(i d:D)(H:ab)(K:D->Prop):Prop:=match i with
 | .v (.int _ k)=>match d with
   | .list n' es=>n'=n/\0<=k/\k < es.length/\∀d,es[k.toNat]? =some d->K (.cptr d.cells 0)
   | .own id x=>Kp n k id x (H id) K
   | .sub id x n' lo hi=>n'=n/\0<=k/\k < (hi -lo:Nat)/\K (.eptr id x n (lo+k.toNat) 0)
   | _=>False
 | _=>False
@[simp] theorem qns(k:Int):C3 n (.v (.int kd k)) (.sub i x n' lo hi) H K=(n'=n/\0<=k/\k < (hi -lo:Nat)/\K (.eptr i x n (lo+k.toNat) 0)):=id rfl
@[simp] theorem qnu(k:Int):C3 n (.v (.int kd k)) (.list n' es) H K=(n'=n/\0<=k/\k < es.length/\∀d,es[k.toNat]? =some d->K (.cptr d.cells 0)):=id rfl
@[simp] theorem qnt(k:Int):C3 n (.v (.int kd k)) (.own i x) H K=Kp n k i x (H i) K:=id rfl
@[simp] theorem qnv(k:Int):Kp n k i x (some (.row x' el n' es)) K=(x'=x/\n'=n/\0<=k/\k < es.length/\K (.eptr i x n k.toNat 0)):=id rfl
def VI(i d:D)(K:D->Prop):Prop:=match i with
 | .v (.int _ k)=>match d with
   | .v (.string s)=>0<=k/\k < s.size/\∀c,s.data[k.toNat]? =some c->K (.v (.int .u8 c.toNat))
   | _=>False
 | _=>False
@[simp] theorem qpn(k:Int):VI (.v (.int kd k)) (.v (.string s)) K=(0<=k/\k < s.size/\∀c,s.data[k.toNat]? =some c->K (.v (.int .u8 c.toNat))):=id rfl
def qc3(o:Option D)(K:D->Prop):Prop:=match o with
 | some d=>K d
 | none=>False
def qc2(d:D)(i:Nat)(K:D->Prop):Prop:=match d with
 | .tup ds=>qc3 ds[i]? K
 | _=>False
@[simp] theorem qt0:qc2 (.tup ds) i K=qc3 ds[i]? K:=id rfl
@[simp] theorem qt1:qc3 (some d) K=K d:=id rfl
def qco(x:Value)(r:Option Res)(K:D->Prop):Prop:=match r with
 | some (.row x' _ _ es)=>x'=x/\((es.length:Int)<=9223372036854775807->K (.v (.int .i64 es.length)))
 | _=>False
def RL(d:D)(H:ab)(K:D->Prop):Prop:=match d with
 | .list _ es=>(es.length:Int)<=9223372036854775807->K (.v (.int .i64 es.length))
 | .own id x=>qco x (H id) K
 | .v (.slice _ n _)=>K (.v (.int .i64 n))
 | .sub _ _ _ lo hi=>((hi -lo:Nat):Int)<=9223372036854775807->K (.v (.int .i64 (hi -lo:Nat)))
 | _=>False
@[simp] theorem qtm:RL (.list n es) H K=((es.length:Int)<=9223372036854775807->K (.v (.int .i64 es.length))):=id rfl
@[simp] theorem qtk:RL (.own i x) H K=qco x (H i) K:=id rfl
@[simp] theorem qqd(a:Option Addr)(c:Nat):RL (.v (.slice a n c)) H K=K (.v (.int .i64 n)):=id rfl
@[simp high] theorem qtl:RL (.v (.slice none 0 0)) H K=K (.v (.int .i64 0)):=id rfl
@[simp] theorem qtn:qco x (some (.row x' el n es)) K=(x'=x/\((es.length:Int)<=9223372036854775807->K (.v (.int .i64 es.length)))):=id rfl
def qdF(x:Value)(r:Option Res)(K:D->Prop):Prop:=match r with
 | some (.row x' _ n es)=>x'=x/\n=1/\qh5 es=true/\K (.v (.string (qkI es)))
 | _=>False
@[simp] theorem quT:qdF x (some (.row x' el n es)) K=(x'=x/\n=1/\qh5 es=true/\K (.v (.string (qkI es)))):=id rfl
def qg3(d:D)(H:ab)(K:D->Prop):Prop:=match d with
 | .own i x=>qdF x (H i) K
 | .v (.slice none 0 0)=>K (.v (.string ⟨#[]⟩))
 | _=>False
@[simp] theorem quS:qg3 (.own i x) H K=qdF x (H i) K:=id rfl
def QK(d:D)(K:D->Prop):Prop:=match d with
 | .v (.string s)=>(s.size:Int)<=9223372036854775807->K (.v (.int .i64 s.size))
 | _=>False
@[simp] theorem qpm:QK (.v (.string s)) K=((s.size:Int)<=9223372036854775807->K (.v (.int .i64 s.size))):=id rfl
def qb8(mx:Bool)(d e:D)(K:D->Prop):Prop:=match d,e with
 | .v (.int k a), .v (.int k' b)=>k=k'/\K (.v (.int k (if mx then max a b else min a b)))
 | _,_=>False
@[simp] theorem qtb(b:Int):qb8 mx (.v (.int k a)) (.v (.int k' b)) K=(k=k'/\K (.v (.int k (if mx then max a b else min a b)))):=id rfl
@[simp ↓] theorem qlT(K:List D->Prop):kA σ [] cs K=K cs:=id rfl
@[simp ↓] theorem qkJ(x:Operand)(r:List (Nat×Nat×Operand))(K:List D->Prop):kA σ ((off,sz,x)::r) cs K=((ev σ x).kn=true/\(ev σ x).cells.length=sz/\kA σ r (setAt cs off (ev σ x).cells) K):=id rfl
@[simp] theorem qls:lG n []=True:=id rfl
@[simp] theorem qjv(r:List D):lG n (d::r)=(d.kn=true/\d.cells.length=n/\lG n r):=id rfl
def Yi(n lo hi:Nat)(x:Value)(r:Option Res)(K:List D->Prop):Prop:=match r with
 | some (.row x' _ n'' es)=>x'=x/\n''=n/\K ((es.take hi).drop lo)
 | _=>False
@[simp] theorem qsm(K:List D->Prop):Yi n lo hi x (some (.row x' el n' es)) K=(x'=x/\n'=n/\K ((es.take hi).drop lo)):=id rfl
@[simp] theorem qvA(K:List D->Prop):mT n (.sub i x n' lo hi) H K=(n'=n/\Yi n lo hi x (H i) K):=by
 simp only[mT]
 cases H i with
 | none=>simp[Yi]
 | some r=>cases r <;> simp[Yi,and_left_comm]
@[simp] theorem qsn(K:List D->Prop):vk n (.list n' es) H K=(n'=n/\K es):=id rfl
@[simp] theorem qso(K:List D->Prop):vk n (.v (.string s)) H K=(n=1/\K (FA s)):=id rfl
def qtc(t el n bytes:Nat)(agg:Bool)(z:List Value)(l c:Option (IntKind×Int))(H:ab)(K:D->ab->Prop):Prop:=match l,c with
 | some (_,l),some (_,c)=>0<=l/\l<=c/\bytes*c<=140737488355328/\c<=140737488355328/\∀x,K (.own t x) (ah H t (some (.row x el n (List.replicate l.toNat (if agg then .agg (z.map vS)else vS (z.headD (.bool false)))))))
 | _,_=>False
@[simp] theorem qv6(c:Int)(K:D->ab->Prop):qtc t el n bytes agg z (some (k,l)) (some (k',c)) H K=(0<=l/\l<=c/\bytes*c<=140737488355328/\c<=140737488355328/\∀x,K (.own t x) (ah H t (some (.row x el n (List.replicate l.toNat (if agg then .agg (z.map vS)else vS (z.headD (.bool false)))))))):=id rfl
def Cl(sz id b off:Nat)(y:D)(r:Option Res)(H:ab)(K:D->ab->Prop):Prop:=match r with
 | some (.box b' cells)=>b'=b/\off+sz<=cells.length/\K .undef (ah H id (some (.box b' (setAt cells off y.cells))))
 | _=>False
def Ck(sz id:Nat)(x:Value)(n i off:Nat)(y:D)(r:Option Res)(H:ab)(K:D->ab->Prop):Prop:=match r with
 | some (.row x' el n' es)=>x'=x/\n'=n/\0 < n/\off+sz<=n/\i < es.length/\∀d,es[i]? =some d->
    K .undef (ah H id (some (.row x' el n' (es.set i (if off=0/\sz=n then y else .agg (setAt d.cells off y.cells))))))
 | _=>False
def Jd(sz:Nat)(d y:D)(H:ab)(K:D->ab->Prop):Prop:=match d with
 | .bptr id b off=>Cl sz id b off y (H id) H K
 | .eptr id x n i off=>Ck sz id x n i off y (H id) H K
 | _=>False
@[simp] theorem qmz(y:D)(K:D->ab->Prop):Jd sz (.bptr i b off) y H K=Cl sz i b off y (H i) H K:=id rfl
@[simp] theorem qmy(k:Nat)(y:D)(K:D->ab->Prop):Jd sz (.eptr i x n k off) y H K=Ck sz i x n k off y (H i) H K:=id rfl
@[simp] theorem qmB(y:D)(K:D->ab->Prop):Cl sz i b off y (some (.box b' cells)) H K=(b'=b/\off+sz<=cells.length/\K .undef (ah H i (some (.box b' (setAt cells off y.cells))))):=id rfl
@[simp] theorem qmA(k:Nat)(y:D)(K:D->ab->Prop):Ck sz i x n k off y (some (.row x' el n' es)) H K=(x'=x/\n'=n/\0 < n/\off+sz<=n/\k < es.length/\∀d,es[k]? =some d->
 K .undef (ah H i (some (.row x' el n' (es.set k (if off=0/\sz=n then y else .agg (setAt d.cells off y.cells))))))):=id rfl
def qdY(el n bytes id:Nat)(x:Value)(es2:List D)(r:Option Res)(H:ab)(K:D->ab->Prop):Prop:=match r with
 | some (.row x' el' n' es)=>x'=x/\el'=el/\n'=n/\(es.length+es2.length) *bytes<=140737488355328/\es.length+es2.length<=140737488355328/\∀v,K (.own id v) (ah H id (some (.row v el n (es++es2))))
 | _=>False
def qu6(el n bytes id:Nat)(x:Value)(n' lo hi:Nat)(es2:List D)(r:Option Res)(H:ab)(K:D->ab->Prop):Prop:=match r with
 | some (.row x' el' n'' es)=>x'=x/\el'=el/\n'=n/\n''=n/\lo=0/\(hi+es2.length) *bytes<=140737488355328/\hi+es2.length<=140737488355328/\∀v,K (.own id v) (ah H id (some (.row v el n (es.take hi++es2))))
 | _=>False
def quq(n id:Nat)(x:Value)(src:List D)(r:Option Res)(H:ab)(K:D->ab->Prop):Prop:=match r with
 | some (.row x' el n' es)=>x'=x/\n'=n/\K (.v (.int .i64 (min src.length es.length:Nat))) (ah H id (some (.row x' el n' (src.take es.length++es.drop src.length))))
 | _=>False
def qdu(n id:Nat)(x:Value)(n' lo hi:Nat)(src:List D)(r:Option Res)(H:ab)(K:D->ab->Prop):Prop:=match r with
 | some (.row x' el n'' es)=>x'=x/\n'=n/\n''=n/\K (.v (.int .i64 (min src.length (hi -lo):Nat))) (ah H id (some (.row x' el n'' (es.take lo++src.take (hi -lo) ++es.drop (lo+min src.length (hi -lo))))))
 | _=>False
def qgS(n:Nat)(d:D)(src:List D)(H:ab)(K:D->ab->Prop):Prop:=match d with
 | .own id x=>quq n id x src (H id) H K
 | .sub id x n' lo hi=>qdu n id x n' lo hi src (H id) H K
 | _=>False
@[simp] theorem qun(K:D->ab->Prop):qgS n (.sub i x n' lo hi) src H K=qdu n i x n' lo hi src (H i) H K:=id rfl
@[simp] theorem qup(K:D->ab->Prop):qdu n i x n' lo hi src (some (.row x' el n'' es)) H K=(x'=x/\n'=n/\n''=n/\K (.v (.int .i64 (min src.length (hi -lo):Nat))) (ah H i (some (.row x' el n'' (es.take lo++src.take (hi -lo) ++es.drop (lo+min src.length (hi -lo))))))):=id rfl
@[simp] theorem qvp:P3 false z=vS (z.headD (.bool false)):=id rfl
def qcP(t:Nat)(x:Value)(id:Nat)(σ:Sg)(r:Option Res)(H:ab)(K:Sg->ab->Prop):Prop:=match r with
 | some (.row x' _ n' es)=>x'=x/\K (Zt id x (.list n' es) σ) (ah H id none)
 | _=>False
def qtW(t b off:Nat)(id:Nat)(σ:Sg)(r:Option Res)(H:ab)(K:Sg->ab->Prop):Prop:=match r with
 | some (.box b' cs)=>b'=b/\K (upd σ t (.cptr cs off)) (ah H id none)
 | _=>False
def qtN(t n:Nat)(x:Value)(id n' lo hi:Nat)(σ:Sg)(r:Option Res)(H:ab)(K:Sg->ab->Prop):Prop:=match r with
 | some (.row x' el n'' es)=>x'=x/\n'=n''/\(if n=0 then lo=0/\∀v,K (upd σ t (.own id v)) (ah H id (some (.row v el n'' (es.take hi))))else K (upd σ t (.list n'' ((es.take hi).drop lo))) (ah H id none))
 | _=>False
def qgB(t n:Nat)(d:D)(σ:Sg)(H:ab)(K:Sg->ab->Prop):Prop:=match d with
 | .own id x=>qcP t x id σ (H id) H K
 | .bptr id b off=>qtW t b off id σ (H id) H K
 | .v (.slice none 0 0)=>K (upd σ t (.list n [])) H
 | .sub id x n' lo hi=>qtN t n x id n' lo hi σ (H id) H K
 | .agg cs=>Gf cs H fun cs' H'=>K (upd σ t (.agg cs')) H'
 | _=>K σ H
@[simp ↓] theorem qxp(K:Sg->ab->Prop):Hi t n σ H K=qgB t n (σ t) σ H K:=id rfl
@[simp] theorem qtM(K:Sg->ab->Prop):qgB t n (.own i x) σ H K=qcP t x i σ (H i) H K:=id rfl
@[simp] theorem qtO(K:Sg->ab->Prop):qcP t x i σ (some (.row x' el n' es)) H K=(x'=x/\K (Zt i x (.list n' es) σ) (ah H i none)):=id rfl
@[simp] theorem qtQ(y:Value):H3 id x L (.own i y)=open Classical in (if i=id/\y=x then L else .own i y):=_root_.id rfl
@[simp] theorem qtV:H3 id x L (.any)= .any:=_root_.id rfl
@[simp] theorem qtS:H3 id x L (.agg cs)= .agg cs:=_root_.id rfl
@[simp] theorem qtR:H3 id x L (.list n es)= .list n es:=_root_.id rfl
@[simp] theorem qtT:H3 id x L (.cptr cs o)= .cptr cs o:=_root_.id rfl
@[simp] theorem qtU:H3 id x L (.bptr i b o)= .bptr i b o:=_root_.id rfl
@[simp] theorem qtP(T:List Int):H3 id x L (.tape T)= .tape T:=_root_.id rfl
def qfr(d:D)(K:D->Prop):Prop:=match d with
 | .v (.string s)=>K (.list 1 (s.data.toList.map fun c=> .v (.int .u8 c.toNat)))
 | _=>False
@[simp] theorem qsu:qfr (.v (.string s)) K=K (.list 1 (s.data.toList.map fun c=> .v (.int .u8 c.toNat))):=id rfl
def qaD(t:Nat)(d:D)(H:ab)(K:D->ab->Prop):Prop:=match d with
 | .v (.string s)=>∀b,K (.bptr t b 0) (ah H t (some (.iter b s 0)))
 | _=>False
@[simp] theorem qsl(K:D->ab->Prop):qaD t (.v (.string s)) H K=∀b,K (.bptr t b 0) (ah H t (some (.iter b s 0))):=id rfl
def qaE(id b:Nat)(r:Option Res)(H:ab)(K:D->ab->Prop):Prop:=match r with
 | some (.iter b' s pos)=>b'=b/\(pos < s.size->K (.tup [.v (.bool true), .v (.int .i64 pos), .v (.int .i32 (Utf8.decode s pos).1)]) (ah H id (some (.iter b' s (pos+ (Utf8.decode s pos).2)))))/\(¬pos < s.size->K (.tup [.v (.bool false)]) H)
 | _=>False
@[simp] theorem qsq(pos:Nat)(K:D->ab->Prop):qaE id b (some (.iter b' s pos)) H K=(b'=b/\(pos < s.size->K (.tup [.v (.bool true), .v (.int .i64 pos), .v (.int .i32 (Utf8.decode s pos).1)]) (ah H id (some (.iter b' s (pos+ (Utf8.decode s pos).2)))))/\(¬pos < s.size->K (.tup [.v (.bool false)]) H)):=_root_.id rfl
def qfn(d:D)(H:ab)(K:D->ab->Prop):Prop:=match d with
 | .bptr id b off=>off=0/\qaE id b (H id) H K
 | _=>False
@[simp] theorem qsp(K:D->ab->Prop):qfn (.bptr i b off) H K=(off=0/\qaE i b (H i) H K):=id rfl
def qhd(dst:Option Nat)(el n b:Nat)(d:D)(es2:List D)(H:ab)(K:D->ab->Prop):Prop:=match dst,d with
 | some t, .v (.slice none 0 0)=>es2.length*b<=140737488355328/\es2.length<=140737488355328/\∀v,K (.own t v) (ah H t (some (.row v el n es2)))
 | _,_=>False
@[simp] theorem qu9(K:D->ab->Prop):qhd (some t) el n b (.v (.slice none 0 0)) es2 H K=(es2.length*b<=140737488355328/\es2.length<=140737488355328/\∀v,K (.own t v) (ah H t (some (.row v el n es2)))):=id rfl
def qdV(el n b r:Nat)(x:Value)(es2:List D)(q:Option Res)(H:ab)(K:D->ab->Prop):Prop:=match q with
 | some (.row x' el' n' es)=>x'=x/\el'=el/\n'=n/\(es.length+es2.length) *b<=140737488355328/\es.length+es2.length<=140737488355328/\∀v,K (.own r v) (ah H r (some (.row v el n (es++es2))))
 | _=>False
@[simp] theorem qu3(r:Nat)(K:D->ab->Prop):qdV el n b r x es2 (some (.row x' el' n' es)) H K=(x'=x/\el'=el/\n'=n/\(es.length+es2.length) *b<=140737488355328/\es.length+es2.length<=140737488355328/\∀v,K (.own r v) (ah H r (some (.row v el n (es++es2))))):=id rfl
def qhc(r el n b:Nat)(d:D)(es2:List D)(H:ab)(K:D->ab->Prop):Prop:=match d with
 | .own id x=>id=r/\qdV el n b r x es2 (H r) H K
 | _=>False
@[simp] theorem qu2(r:Nat)(K:D->ab->Prop):qhc r el n b (.own i x) es2 H K=(i=r/\qdV el n b r x es2 (H r) H K):=id rfl
def QG(r sz:Nat)(d y:D)(H:ab)(K:D->ab->Prop):Prop:=match d with
 | .bptr id b off=>id=r/\Cl sz r b off y (H r) H K
 | .eptr id x n i off=>id=r/\Ck sz r x n i off y (H r) H K
 | _=>False
@[simp] theorem qpd(r:Nat)(y:D)(K:D->ab->Prop):QG r sz (.bptr i b off) y H K=(i=r/\Cl sz r b off y (H r) H K):=id rfl
@[simp] theorem qpc(r:Nat)(k:Nat)(y:D)(K:D->ab->Prop):QG r sz (.eptr i x n k off) y H K=(i=r/\Ck sz r x n k off y (H r) H K):=id rfl
def qu8(dst:Option Nat)(el n bytes:Nat)(es2:List D)(H:ab)(K:D->ab->Prop):Prop:=match dst with
 | some t=>es2.length*bytes<=140737488355328/\es2.length<=140737488355328/\∀v,K (.own t v) (ah H t (some (.row v el n es2)))
 | none=>False
def qdW(dst:Option Nat)(el n bytes:Nat)(d:D)(es2:List D)(H:ab)(K:D->ab->Prop):Prop:=match d with
 | .own id x=>qdY el n bytes id x es2 (H id) H K
 | .v (.slice none 0 0)=>qu8 dst el n bytes es2 H K
 | .sub id x n' lo hi=>qu6 el n bytes id x n' lo hi es2 (H id) H K
 | _=>False
@[simp] theorem qu4(K:D->ab->Prop):qdW dst el n bytes (.own i x) es2 H K=qdY el n bytes i x es2 (H i) H K:=id rfl
@[simp] theorem qu5(K:D->ab->Prop):qdW (some t) el n bytes (.v (.slice none 0 0)) es2 H K=(es2.length*bytes<=140737488355328/\es2.length<=140737488355328/\∀v,K (.own t v) (ah H t (some (.row v el n es2)))):=id rfl
@[simp] theorem qu7(K:D->ab->Prop):qdY el n bytes i x es2 (some (.row x' el' n' es)) H K=(x'=x/\el'=el/\n'=n/\(es.length+es2.length) *bytes<=140737488355328/\es.length+es2.length<=140737488355328/\∀v,K (.own i v) (ah H i (some (.row v el n (es++es2))))):=id rfl
def AY(S:Nat->Spc)(f:D)(d:Nat)(args:List D)(H:ab)(K:D->ab->Prop):Prop:=match f with
 | .clo g caps=>(S g).pt d (args++caps) H K
 | _=>False
@[simp] theorem qrn(d:Nat)(K:D->ab->Prop):AY S (.clo g caps) d args H K=(S g).pt d (args++caps) H K:=id rfl
@[congr] theorem qmV{r:Nat}{s:Spc}{K:D->ab->Prop}(hs:s=s₁)(hargs:args=args₁):JF r dst s args H K=JF r dst s₁ args₁ H K:=by subst hs;subst hargs;rfl
@[congr] theorem qpJ{s:Spc}{K:D->ab->Prop}(hs:s=s₁)(hargs:args=args₁):Yy dst s args H K=Yy dst s₁ args₁ H K:=by subst hs;subst hargs;rfl
section
variable {S:Nat->Spc}{σ:Sg}{H Hr:ab}{K:D->ab->Prop}
@[simp ↓] theorem quA(dst:Option Nat)(x:Operand):az S (.mv x) dst σ H K=((fun d=>K d H) (ev σ x)):=id rfl
@[simp ↓] theorem qwY(x:Operand):aw S (.mv x) dst σ Hr H K=((fun d=>K d H) (ev σ x)):=id rfl
@[simp ↓] theorem quz(x:Operand):az S (.pick c x y) dst σ H K=(G5 (ev σ c) ((fun d=>K d H) (ev σ x)) ((fun d=>K d H) (ev σ y))):=id rfl
@[simp ↓] theorem qsJ(x:Operand):aw S (.pick c x y) dst σ Hr H K=(G5 (ev σ c) ((fun d=>K d H) (ev σ x)) ((fun d=>K d H) (ev σ y))):=id rfl
@[simp ↓] theorem qry(ps:List (Nat×Nat×Operand)):az S (.build z ps) dst σ H K=(kA σ ps (z.map vS) fun cs=>(fun d=>K d H) (.agg cs)):=id rfl
@[simp ↓] theorem qpE(ps:List (Nat×Nat×Operand)):aw S (.build z ps) dst σ Hr H K=(kA σ ps (z.map vS) fun cs=>(fun d=>K d H) (.agg cs)):=id rfl
@[simp ↓] theorem qok:az S (.bslice el n ps) dst σ H K=(lG n (ps.map (ev σ))/\(fun d=>K d H) (.list n (ps.map (ev σ)))):=id rfl
@[simp ↓] theorem qmT:aw S (.bslice el n ps) dst σ Hr H K=(lG n (ps.map (ev σ))/\(fun d=>K d H) (.list n (ps.map (ev σ)))):=id rfl
@[simp ↓] theorem quE(x:Operand):az S (.load agg sz x) dst σ H K=(Ha agg sz (ev σ x) H (fun d=>K d H)):=id rfl
@[simp ↓] theorem qsK(x:Operand):aw S (.load agg sz x) dst σ Hr H K=(Ha agg sz (ev σ x) Hr (fun d=>K d H)):=id rfl
@[simp ↓] theorem qrr(x:Operand):az S (.nilck x) dst σ H K=(YU (ev σ x) (fun d=>K d H)):=id rfl
@[simp ↓] theorem qpz(x:Operand):aw S (.nilck x) dst σ Hr H K=(YU (ev σ x) (fun d=>K d H)):=id rfl
@[simp ↓] theorem qgY(dst:Option Nat)(op:BinOp)(x y:Operand):az S (.arith op x y) dst σ H K=(K9 op (ev σ x) (ev σ y) (fun d=>K d H)):=id rfl
@[simp ↓] theorem qpF(x:Operand):aw S (.arith op x y) dst σ Hr H K=(K9 op (ev σ x) (ev σ y) (fun d=>K d H)):=id rfl
@[simp ↓] theorem qoj(dst:Option Nat)(op:BinOp)(x y:Operand):az S (.cmp op x y) dst σ H K=(ZD op (ev σ x) (ev σ y) (fun d=>K d H)):=id rfl
@[simp ↓] theorem qvS(x:Operand):aw S (.cmp op x y) dst σ Hr H K=(ZD op (ev σ x) (ev σ y) (fun d=>K d H)):=id rfl
@[simp ↓] theorem qwC(x:Operand):az S (.eql neg agg ks x y) dst σ H K=(Zv neg (qkd agg ks (ev σ x) (ev σ y)) (fun d=>K d H)):=id rfl
@[simp ↓] theorem qvR(x:Operand):aw S (.eql neg agg ks x y) dst σ Hr H K=(Zv neg (qkd agg ks (ev σ x) (ev σ y)) (fun d=>K d H)):=id rfl
@[simp ↓] theorem qux(x:Operand):az S (.scat x y) dst σ H K=(VJ (ev σ x) (ev σ y) (fun d=>K d H)):=id rfl
@[simp ↓] theorem qww(x:Operand):az S (.not x) dst σ H K=(qb0 (ev σ x) (fun d=>K d H)):=id rfl
@[simp ↓] theorem qvM(x:Operand):aw S (.not x) dst σ Hr H K=(qb0 (ev σ x) (fun d=>K d H)):=id rfl
@[simp ↓] theorem quG(x:Operand):az S (.conv k x) dst σ H K=(Xn k (ev σ x) (fun d=>K d H)):=id rfl
@[simp ↓] theorem qwD:az S (.clo f xs) dst σ H K=((fun d=>K d H) (.clo f (xs.map (ev σ)))):=id rfl
@[simp ↓] theorem qrq(x:Operand)(lo hi:Option Operand):az S (.slice n x lo hi) dst σ H K=(Jh n (ev σ x) (lo.map fun o=>vg (ev σ o)) (hi.map fun o=>vg (ev σ o)) H (fun d=>K d H)):=id rfl
@[simp ↓] theorem qpy(x:Operand)(lo hi:Option Operand):aw S (.slice n x lo hi) dst σ Hr H K=(Jh n (ev σ x) (lo.map fun o=>vg (ev σ o)) (hi.map fun o=>vg (ev σ o)) Hr (fun d=>K d H)):=id rfl
@[simp ↓] theorem qoe(x:Operand)(lo hi:Option Operand):az S (.sslice x lo hi) dst σ H K=(Ii (ev σ x) (lo.map fun o=>vg (ev σ o)) (hi.map fun o=>vg (ev σ o)) (fun d=>K d H)):=id rfl
@[simp ↓] theorem qmR(x:Operand)(lo hi:Option Operand):aw S (.sslice x lo hi) dst σ Hr H K=(Ii (ev σ x) (lo.map fun o=>vg (ev σ o)) (hi.map fun o=>vg (ev σ o)) (fun d=>K d H)):=id rfl
@[simp ↓] theorem qrw(x:Operand):az S (.faddr off x) dst σ H K=(C6 off (ev σ x) (fun d=>K d H)):=id rfl
@[simp ↓] theorem qpC(x:Operand):aw S (.faddr off x) dst σ Hr H K=(C6 off (ev σ x) (fun d=>K d H)):=id rfl
@[simp ↓] theorem qwA(x:Operand):az S (.fld agg sz off x) dst σ H K=(qgE agg sz off (ev σ x) (fun d=>K d H)):=id rfl
@[simp ↓] theorem qrv(x i:Operand):az S (.iaddr n x i) dst σ H K=(C3 n (ev σ i) (ev σ x) H (fun d=>K d H)):=id rfl
@[simp ↓] theorem qpB(x i:Operand):aw S (.iaddr n x i) dst σ Hr H K=(C3 n (ev σ i) (ev σ x) Hr (fun d=>K d H)):=id rfl
@[simp ↓] theorem quw(x i:Operand):az S (.sidx x i) dst σ H K=(VI (ev σ i) (ev σ x) (fun d=>K d H)):=id rfl
@[simp ↓] theorem qwB(x:Operand):az S (.ext x i) dst σ H K=(qc2 (ev σ x) i (fun d=>K d H)):=id rfl
@[simp ↓] theorem qvQ(x:Operand):aw S (.ext x i) dst σ Hr H K=(qc2 (ev σ x) i (fun d=>K d H)):=id rfl
@[simp ↓] theorem qwz(x:Operand):az S (.len x) dst σ H K=(RL (ev σ x) H (fun d=>K d H)):=id rfl
@[simp ↓] theorem qvP(x:Operand):aw S (.len x) dst σ Hr H K=(RL (ev σ x) Hr (fun d=>K d H)):=id rfl
@[simp ↓] theorem quv(x:Operand):az S (.slen x) dst σ H K=(QK (ev σ x) (fun d=>K d H)):=id rfl
@[simp ↓] theorem qsI(x:Operand):aw S (.slen x) dst σ Hr H K=(QK (ev σ x) (fun d=>K d H)):=id rfl
@[simp ↓] theorem quI(x:Operand):az S (.bstr x) dst σ H K=(qg3 (ev σ x) H (fun d=>K d H)):=id rfl
@[simp ↓] theorem quy(x:Operand):az S (.rstr x) dst σ H K=(qfv (ev σ x) (fun d=>K d H)):=id rfl
@[simp ↓] theorem qwy(x:Operand):az S (.mm mx [x,y]) dst σ H K=qb8 mx (ev σ x) (ev σ y) (fun d=>K d H):=id rfl
@[simp ↓] theorem quJ(x:Operand):az S (.box el true x) dst σ H K=((ev σ x).kn=true/\K (.cptr (ev σ x).cells 0) H):=id rfl
@[simp ↓] theorem qrz:az S (.alloc el z) (some t) σ H K=∀b,K (.bptr t b 0) (ah H t (some (.box b (z.map vS)))):=id rfl
@[simp ↓] theorem qwE(x:Operand):az S (.box el false x) (some t) σ H K=((ev σ x).kn=true/\∀b,K (.bptr t b 0) (ah H t (some (.box b (ev σ x).cells)))):=id rfl
@[simp ↓] theorem qoh:az S (.mslice el n ps) (some t) σ H K=(lG n (ps.map (ev σ))/\∀x,K (.own t x) (ah H t (some (.row x el n (ps.map (ev σ)))))):=id rfl
@[simp ↓] theorem qlS(l:Operand):az S (.mkslice el n bytes agg z l c) (some t) σ H K=qtc t el n bytes agg z (vg (ev σ l)) (vg (ev σ c)) H K:=id rfl
@[simp ↓] theorem qvO(x:Operand):aw S (.mm mx [x,y]) dst σ Hr H K=qb8 mx (ev σ x) (ev σ y) (fun d=>K d H):=id rfl
@[simp ↓] theorem qpG:aw S (.alloc el z) (some t) σ Hr H K=∀b,K (.bptr t b 0) (ah H t (some (.box b (z.map vS)))):=id rfl
@[simp ↓] theorem qmS:aw S (.nslice el n) (some t) σ Hr H K=∀x,K (.own t x) (ah H t (some (.row x el n []))):=id rfl
@[simp ↓] theorem qlp(l:Operand):aw S (.mkslice el n bytes agg z l c) (some t) σ Hr H K=qtc t el n bytes agg z (vg (ev σ l)) (vg (ev σ c)) H K:=id rfl
@[simp ↓] theorem qog(x:Operand):az S (.sbytes x) dst σ H K=qfr (ev σ x) (fun d=>K d H):=id rfl
@[simp ↓] theorem qof(x:Operand):az S (.srange x) (some t) σ H K=qaD t (ev σ x) H K:=by
 simp only[az,bz,qaD]
 split <;> simp_all
@[simp ↓] theorem qrp(x:Operand):az S (.snext x) dst σ H K=qfn (ev σ x) H K:=id rfl
@[simp ↓] theorem qpx(r:Nat)(x:Operand):aw S (.store (some r) sz x y) dst σ Hr H K=((ev σ y).kn=true/\(ev σ y).cells.length=sz/\QG r sz (ev σ x) (ev σ y) H K):=by
 simp only[aw]
 congr 2
@[simp ↓] theorem qro(x:Operand):az S (.store rt sz x y) dst σ H K=((ev σ y).kn=true/\(ev σ y).cells.length=sz/\Jd sz (ev σ x) (ev σ y) H K):=id rfl
@[simp ↓] theorem qol(x:Operand):az S (.append rt el n bytes x y) dst σ H K=vk n (ev σ y) H fun es2=>qdW dst el n bytes (ev σ x) es2 H K:=id rfl
@[simp ↓] theorem qlr(x:Operand):aw S (.append none el n bytes x y) dst σ Hr H K=vk n (ev σ y) Hr fun es2=>qhd dst el n bytes (ev σ x) es2 H K:=by
 simp only[aw]
 congr 1
@[simp ↓] theorem qlq(r:Nat)(x:Operand):aw S (.append (some r) el n bytes x y) dst σ Hr H K=vk n (ev σ y) Hr fun es2=>qhc r el n bytes (ev σ x) es2 H K:=by
 simp only[aw]
 congr 1
@[simp ↓] theorem quF(x:Operand):az S (.copy n x y) dst σ H K=mT n (ev σ y) H fun src=>qgS n (ev σ x) src H K:=id rfl
@[simp ↓] theorem quH(args:List Operand):az S (.call f args) dst σ H K=(S f).pt (dst.getD 0) (args.map (ev σ)) H K:=id rfl
@[simp ↓] theorem qpD(r:Nat)(args:List Operand):aw S (.callb r f args) dst σ Hr H K=JF r dst (S f) (args.map (ev σ)) H K:=id rfl
@[simp ↓] theorem qrx(f:Operand)(args:List Operand):az S (.callv f args) dst σ H K=AY S (ev σ f) (dst.getD 0) (args.map (ev σ)) H K:=id rfl
@[simp ↓] theorem qsL(args:List Operand):aw S (.call f args) dst σ Hr H K=Yy dst (S f) (args.map (ev σ)) H K:=id rfl
end
theorem qmp(σ:Sg)(t s:Nat)(d:D):upd σ t d s=if s=t then d else σ s:=id rfl
theorem TH(σ:Sg)(t:Nat)(d:D):fe σ (some t) d=upd σ t d:=id rfl
theorem qiP(σ:Sg)(d:D):fe σ none d=σ:=id rfl
theorem qiQ(H:ab)(t s:Nat)(d:Option Res):ah H t d s=if s=t then d else H s:=id rfl
attribute [simp] TH qiP qiQ
@[simp] theorem qaj(σ:Sg)(t:Nat):ev σ (.tmp t)=σ t:=id rfl
@[simp] theorem qfd(σ:Sg)(x:Value):ev σ (.const x)=vS x:=id rfl
@[simp] theorem qsi:ev σ (.func f)= .clo f []:=id rfl
@[simp] theorem qsj(b:Bool):vS (.bool b)= .v (.bool b):=id rfl
@[simp] theorem qmm(k:IntKind)(n:Int):vS (.int k n)= .v (.int k n):=id rfl
@[simp] theorem qvs:vS (.string s)= .v (.string s):=id rfl
@[simp] theorem qvt(a:Option Addr):vS (.pointer a)= .v (.pointer a):=id rfl
@[simp] theorem qo5(a:Option Addr)(l c:Nat):vS (.slice a l c)= .v (.slice a l c):=id rfl
theorem qnn(σ:Sg):jA [] σ=fun _=> .any:=id rfl
theorem qjX(t:Nat)(l:List Nat)(σ:Sg):jA (t::l) σ=upd (jA l σ) t (σ t):=id rfl
@[simp] theorem qts:kE [] H=fun _=>none:=id rfl
@[simp] theorem qgb(t:Nat)(l:List Nat)(H:ab):kE (t::l) H=ah (kE l H) t (H t):=id rfl
@[simp] theorem qsU:bM i=none:=id rfl
@[simp] theorem qtj:uw [] σ=True:=id rfl
@[simp] theorem qp5(l:List (Nat×D)):uw ((t,d)::l) σ=(P1 (σ t) d/\uw l σ):=id rfl
@[simp] theorem qta:yJ [] H=True:=id rfl
@[simp] theorem qpW(d:Res)(l:List (Nat×Res)):yJ ((t,d)::l) H=((H t=some d\/isNilRow d)/\yJ l H):=id rfl
@[simp] theorem sub_self(d:D):P1 d d=True:=by
 cases d <;> simp[P1]
@[simp] theorem qvz(a:D):P1 a (.v x)=(a= .v x):=id rfl
@[simp] theorem qmv(a:D)(x:List D):P1 a (.list n x)=(a= .list n x\/(a= .v (.slice none 0 0)/\x=[])):=id rfl
@[simp] theorem qmw(a:D):P1 a (.cptr cs o)=(a= .cptr cs o):=id rfl
@[simp] theorem qpb(y:Value):P1 (.own i x) (.own j y)=(x=y):=by simp[P1]
@[simp] theorem qmu(y:Value):P1 (.v x) (.own j y)=(x=y):=by simp[P1]
@[simp] theorem qw8:M9 true sz cs off= .agg ((cs.drop off).take sz):=id rfl
@[simp] theorem qw9:M9 false sz cs off=(cs[off]?).getD .any:=id rfl
@[simp ↓] theorem qpv(rs:List aj)(K:D->ab->Prop):tu rs K .norm σ H=zh rs σ H fun ds=>K (jw ds) H:=id rfl
@[simp ↓] theorem qsG(rs:List aj)(K:D->ab->Prop):tu rs K .ret σ H=zh rs σ H fun ds=>K (jw ds) H:=id rfl
@[simp ↓] theorem qsF(K:List D->Prop):zh [] σ H K=K []:=id rfl
@[simp ↓] theorem qsE(r:List aj)(K:List D->Prop):zh (.tmp t::r) σ H K=zh r σ H fun ds=>K (σ t::ds):=id rfl
@[simp ↓] theorem qpu(r:List aj)(K:List D->Prop):zh (.cell t agg sz::r) σ H K=Ha agg sz (σ t) H fun d=>zh r σ H fun ds=>K (d::ds):=id rfl
@[simp] theorem qw1:jw [d]=d:=id rfl
@[simp] theorem qw2:jw []= .tup []:=id rfl
@[simp] theorem qw0(l:List D):jw (d::e::l)= .tup (d::e::l):=id rfl
@[simp] theorem qxf:D.kn (.v x)=true:=id rfl
@[simp] theorem qrl:D.cells (.v x)=[.v x]:=id rfl
@[simp] theorem qtr:D.kn (.agg cs)=true:=id rfl
@[simp] theorem qlR:D.cells (.agg cs)=cs:=id rfl
@[simp] theorem qqg:D.kn (.list n es)=true:=id rfl
@[simp] theorem qkE:D.cells (.list n es)=[.list n es]:=id rfl
@[simp] theorem qqh:D.kn (.cptr cs o)=true:=id rfl
@[simp] theorem qkF:D.cells (.cptr cs o)=[.cptr cs o]:=id rfl
@[simp] theorem qtp:D.kn (.own i x)=true:=id rfl
@[simp] theorem qlP:D.cells (.own i x)=[.own i x]:=id rfl
@[simp] theorem qto(k:Nat):D.kn (.sub i v n k o)=true:=id rfl
@[simp] theorem qlO(k:Nat):D.cells (.sub i v n k o)=[.sub i v n k o]:=id rfl
@[simp] theorem qtq:D.kn (.clo f cs)=true:=id rfl
@[simp] theorem qlQ:D.cells (.clo f cs)=[.clo f cs]:=id rfl
@[simp] theorem qwH(n:Int):vg (.v (.int k n))=some (k,n):=id rfl
attribute [simp] setAt
@[simp] theorem quc(n:Int):enc n= .v (.int .i64 n):=rfl
@[simp] theorem qq3(b:Bool):enc b= .v (.bool b):=rfl
@[simp] theorem qub:enc s= .v (.string s):=rfl
@[simp] theorem qq2{X:Type}[Cod X](l:List X):enc l= .list (Cod.wd X) (l.map enc):=rfl
@[simp] theorem qsb:Cod.wd Int=1:=rfl
@[simp] theorem qoX:Cod.wd Bool=1:=rfl
@[simp] theorem qsa:Cod.wd ByteArray=1:=rfl
@[simp] theorem qoW{X:Type}[Cod X]:Cod.wd (List X)=1:=rfl
@[congr] theorem qqs(hd:d=d₁):RN d A B=RN d₁ A B:=by subst hd;rfl
@[congr] theorem qlH{s:Nat}{b:Bool}(hd:d=d₁):nE s b σ d yes no=nE s b σ d₁ yes no:=by subst hd;rfl
@[congr] theorem qmX(hd:d=d₁):G5 d A B=G5 d₁ A B:=by subst hd;rfl
@[congr] theorem qni(hr:r=r₁):RG agg sz b off r K=RG agg sz b off r₁ K:=by subst hr;rfl
@[congr] theorem qnh(hr:r=r₁):RE agg sz x n i off r K=RE agg sz x n i off r₁ K:=by subst hr;rfl
@[congr] theorem qng(hd:d=d₁):Ha agg sz d H K=Ha agg sz d₁ H K:=by subst hd;rfl
@[congr] theorem qpP(hd:d=d₁):YU d K=YU d₁ K:=by subst hd;rfl
@[congr] theorem ql2(hd:d=d₁)(he:e=e₁):K9 op d e K=K9 op d₁ e₁ K:=by subst hd;subst he;rfl
@[congr] theorem qpr(hd:d=d₁):qfv d K=qfv d₁ K:=by subst hd;rfl
@[congr] theorem qri{o:Option Bool}{o₁:Option Bool}(ho:o=o₁):U6 o K=U6 o₁ K:=by subst ho;rfl
@[congr] theorem qrh(hd:d=d₁)(he:e=e₁):ZD op d e K=ZD op d₁ e₁ K:=by subst hd;subst he;rfl
@[congr] theorem qqT{o:Option Bool}{o₁:Option Bool}(ho:o=o₁):Zv neg o K=Zv neg o₁ K:=by subst ho;rfl
@[congr] theorem qmK(hd:d=d₁)(he:e=e₁):VJ d e K=VJ d₁ e₁ K:=by subst hd;subst he;rfl
@[congr] theorem qpN(hd:d=d₁):qb0 d K=qb0 d₁ K:=by subst hd;rfl
@[congr] theorem qn5(hd:d=d₁):Xn k d K=Xn k d₁ K:=by subst hd;rfl
@[congr] theorem qlK(hd:d=d₁):C6 off d K=C6 off d₁ K:=by subst hd;rfl
@[congr] theorem qqB(hd:d=d₁):qgE agg sz off d K=qgE agg sz off d₁ K:=by subst hd;rfl
@[congr] theorem qlF{k:Int}(hr:r=r₁):Kp n k id x r K=Kp n k id x r₁ K:=by subst hr;rfl
@[congr] theorem qlE{i:D}(hi:i=i₁)(hd:d=d₁):C3 n i d H K=C3 n i₁ d₁ H K:=by subst hi;subst hd;rfl
@[congr] theorem qmJ{i:D}(hi:i=i₁)(hd:d=d₁):VI i d K=VI i₁ d₁ K:=by subst hi;subst hd;rfl
@[congr] theorem qqJ{o:Option D}{o₁:Option D}(ho:o=o₁):qc3 o K=qc3 o₁ K:=by subst ho;rfl
@[congr] theorem qqI(hd:d=d₁):qc2 d i K=qc2 d₁ i K:=by subst hd;rfl
@[congr] theorem qqf(hr:r=r₁):qco x r K=qco x r₁ K:=by subst hr;rfl
@[congr] theorem qqe(hd:d=d₁):RL d H K=RL d₁ H K:=by subst hd;rfl
@[congr] theorem qrE(hr:r=r₁):qdF x r K=qdF x r₁ K:=by subst hr;rfl
@[congr] theorem qrD(hd:d=d₁):qg3 d H K=qg3 d₁ H K:=by subst hd;rfl
@[congr] theorem qmI(hd:d=d₁):QK d K=QK d₁ K:=by subst hd;rfl
@[congr] theorem qpX(hd:d=d₁)(he:e=e₁):qb8 mx d e K=qb8 mx d₁ e₁ K:=by subst hd;subst he;rfl
@[congr] theorem qpg{K:List D->Prop}(hr:r=r₁):Yi n lo hi x r K=Yi n lo hi x r₁ K:=by subst hr;rfl
@[congr] theorem qlk{y:D}{K:D->ab->Prop}(hy:y=y₁)(hr:r=r₁):Cl sz id b off y r H K=Cl sz id b off y₁ r₁ H K:=by subst hy;subst hr;rfl
@[congr] theorem qlj{y:D}{K:D->ab->Prop}(hy:y=y₁)(hr:r=r₁):Ck sz id x n i off y r H K=Ck sz id x n i off y₁ r₁ H K:=by subst hy;subst hr;rfl
@[congr] theorem qli{y:D}{K:D->ab->Prop}(hd:d=d₁)(hy:y=y₁):Jd sz d y H K=Jd sz d₁ y₁ H K:=by subst hd;subst hy;rfl
@[congr] theorem qrO{K:D->ab->Prop}(hes2:es2=es2₁)(hr:r=r₁):qdY el n bytes id x es2 r H K=qdY el n bytes id x es2₁ r₁ H K:=by subst hes2;subst hr;rfl
@[congr] theorem qrf{K:D->ab->Prop}(hsrc:src=src₁)(hr:r=r₁):qdu n id x n' lo hi src r H K=qdu n id x n' lo hi src₁ r₁ H K:=by subst hsrc;subst hr;rfl
@[congr] theorem qre{K:D->ab->Prop}(hd:d=d₁)(hsrc:src=src₁):qgS n d src H K=qgS n d₁ src₁ H K:=by subst hd;subst hsrc;rfl
@[congr] theorem qqA{K:Sg->ab->Prop}(hr:r=r₁):qcP t x id σ r H K=qcP t x id σ r₁ H K:=by subst hr;rfl
@[congr] theorem qqy{K:Sg->ab->Prop}(hd:d=d₁):qgB t n d σ H K=qgB t n d₁ σ H K:=by subst hd;rfl
@[congr] theorem qpp(hd:d=d₁):qfr d K=qfr d₁ K:=by subst hd;rfl
@[congr] theorem qpf{K:D->ab->Prop}(hd:d=d₁):qaD t d H K=qaD t d₁ H K:=by subst hd;rfl
@[congr] theorem qpk{K:D->ab->Prop}(hr:r=r₁):qaE id b r H K=qaE id b r₁ H K:=by subst hr;rfl
@[congr] theorem qpj{K:D->ab->Prop}(hd:d=d₁):qfn d H K=qfn d₁ H K:=by subst hd;rfl
@[congr] theorem qrP{K:D->ab->Prop}(hdst:dst=dst₁)(hd:d=d₁)(hes2:es2=es2₁):qhd dst el n b d es2 H K=qhd dst₁ el n b d₁ es2₁ H K:=by subst hdst;subst hd;subst hes2;rfl
@[congr] theorem qrM{r:Nat}{q:Option Res}{K:D->ab->Prop}{q₁:Option Res}(hes2:es2=es2₁)(hq:q=q₁):qdV el n b r x es2 q H K=qdV el n b r x es2₁ q₁ H K:=by subst hes2;subst hq;rfl
@[congr] theorem qrL{r:Nat}{K:D->ab->Prop}(hd:d=d₁)(hes2:es2=es2₁):qhc r el n b d es2 H K=qhc r el n b d₁ es2₁ H K:=by subst hd;subst hes2;rfl
@[congr] theorem qmC{r:Nat}{y:D}{K:D->ab->Prop}(hd:d=d₁)(hy:y=y₁):QG r sz d y H K=QG r sz d₁ y₁ H K:=by subst hd;subst hy;rfl
@[congr] theorem qrN{K:D->ab->Prop}(hdst:dst=dst₁)(hd:d=d₁)(hes2:es2=es2₁):qdW dst el n bytes d es2 H K=qdW dst₁ el n bytes d₁ es2₁ H K:=by subst hdst;subst hd;subst hes2;rfl
@[congr] theorem qod{f:D}{d:Nat}{K:D->ab->Prop}(hf:f=f₁)(hargs:args=args₁):AY S f d args H K=AY S f₁ d args₁ H K:=by subst hf;subst hargs;rfl
@[congr] theorem qmE{K:List D->Prop}(h:d=d'):mT n d H K=mT n d' H K:=by subst h;rfl
@[congr] theorem qph{K:List D->Prop}(h:d=d'):vk n d H K=vk n d' H K:=by subst h;rfl
@[congr] theorem ql5{s s':Spc}{d:Nat}{ds':List D}{K:D->ab->Prop}(h:s=s')(h':ds=ds'):s.pt d ds H K=s'.pt d ds' H K:=by subst h;subst h';rfl
@[congr] theorem qn3{lo hi lo' hi':Option (Option (IntKind×Int))}{K:Nat->Nat->Prop}(h1:lo=lo')(h2:hi=hi')(h3:n=n'):uX lo hi n K=uX lo' hi' n' K:=by subst h1;subst h2;subst h3;rfl
end Go.Gv
