/- A part of the framework and of the walks: T10. -/
import Derived.Test.YtfbleenmepoodaaGreatDoorGb16
set_option linter.unusedSimpArgs false
set_option linter.unusedVariables false
set_option linter.unusedSectionVars false
set_option linter.defProp false
namespace Go.Gv
open Cod (enc dec)
variable {b b' bytes el el' f g hi i id j len lo n n' n'' o off sz t:Nat}{H:ab}{K:D->Prop}{dst dst₁ rt:Option Nat}{v x x':Value}{L d d' d₁ e e₁ f₁ i₁ y₁ z₁:D}{k k' kd:IntKind}{σ:Sg}{args args₁ caps cells cs ds es es2 es2₁ src src₁:List D}{agg mx neg:Bool}{r r₁:Option Res}{c y:Operand}{a h l:Int}{s:ByteArray}{z:List Value}{no yes:Sg->Prop}{A B p:Prop}{op:BinOp}{ks:List M4}{S:Nat->Spc}{ps xs:List Operand}{s₁:Spc}
section
variable {S:Nat->Spc}{K:Ex->Sg->ab->Prop}{σ:Sg}{H:ab}
def NC(S:Nat->Spc)(b:CC)(K:Ex->Sg->ab->Prop):Ex->Sg->ab->Prop:=λe σ H=>match e with
 | .norm=>vc S b K σ H
 | e=>K e σ H
def RD(id:Nat)(K:Ex->Sg->ab->Prop):Ex->Sg->ab->Prop:=λe σ H=>match e with
 | .ex i=>if i=id then K .norm σ H else K (.ex i) σ H
 | e=>K e σ H
def Q0(inv:qa1)(x:inv.X)(K:Ex->Sg->ab->Prop):Ex->Sg->ab->Prop:=λe σ' H'=>match e with
 | .norm=>∃y,inv.P y/\Wk σ' H' (inv.s y) (inv.h y)/\inv.m y < inv.m x
 | e=>K e σ' H'
def L0(d:D)(A B:Prop):Prop:=match d with
 | .v (.bool t)=>(t=true->A)/\(t=false->B)
 | _=>False
@[simp ↓] theorem qal:vc S .skip K σ H=K .norm σ H:=_root_.id rfl
@[simp ↓] theorem Y3(l:List CI):vc S (.reg l) K σ H=zt S l σ H (K .norm):=_root_.id rfl
@[simp ↓] theorem qi6(p l:List CI):vc S (.regd p l) K σ H=gG S p σ (bc p H) H λσ H=>zt S l σ H (K .norm):=_root_.id rfl
@[simp ↓] theorem Mt(a b:CC):vc S (.seq a b) K σ H=vc S a (NC S b K) σ H:=_root_.id rfl
@[simp ↓] theorem Fc(b:CC):NC S b K .norm σ H=vc S b K σ H:=_root_.id rfl
@[simp ↓] theorem UI(b:CC)(i:Nat):NC S b K (.ex i) σ H=K (.ex i) σ H:=_root_.id rfl
@[simp ↓] theorem qam(b:CC):NC S b K .ret σ H=K .ret σ H:=_root_.id rfl
@[simp ↓] theorem qdV(c:Operand)(a b:CC):vc S (.ite c a b) K σ H=L0 (ev σ c) (vc S a K σ H) (vc S b K σ H):=_root_.id rfl
@[simp] theorem qap(t:Bool)(A B:Prop):L0 (.v (.bool t)) A B=((t=true->A)/\(t=false->B)):=_root_.id rfl
@[simp high] theorem qi8:L0 (.v (.bool true)) A B=A:=by simp[L0]
@[simp high] theorem qi9:L0 (.v (.bool false)) A B=B:=by simp[L0]
@[simp ↓] theorem JR(id:Nat)(b:CC):vc S (.block id b) K σ H=vc S b (RD id K) σ H:=_root_.id rfl
@[simp ↓] theorem qar(id:Nat):RD id K .norm σ H=K .norm σ H:=_root_.id rfl
@[simp ↓] theorem UL(id:Nat):RD id K .ret σ H=K .ret σ H:=_root_.id rfl
@[simp ↓] theorem Oo(id i:Nat):RD id K (.ex i) σ H=if i=id then K .norm σ H else K (.ex i) σ H:=_root_.id rfl
@[simp ↓] theorem qaq(i:Nat):vc S (.exit i) K σ H=K (.ex i) σ H:=_root_.id rfl
@[simp ↓] theorem qkX:vc S .ret K σ H=K .ret σ H:=_root_.id rfl
@[simp ↓] theorem qi7(ls lh:List Nat)(c:CC):vc S (.keep ls lh c) K σ H=vc S c K (gV ls σ) (iD lh H):=_root_.id rfl
def JQ(k:Nat)(b:CC):vc S (.loop k b) K σ H=∃inv:qa1,(∃x,inv.P x/\Wk σ H (inv.s x) (inv.h x))/\∀x,inv.P x->vc S b (Q0 inv x K) (inv.s x) (inv.h x):=_root_.id rfl
def UK(k:Nat)(c:CC):vc S (.cut k c) K σ H=∃ (σ':Sg) (H':ab),Wk σ H σ' H'/\vc S c K σ' H':=_root_.id rfl
@[simp ↓] theorem qao(inv:qa1)(x:inv.X):Q0 inv x K .norm σ H=∃y,inv.P y/\Wk σ H (inv.s y) (inv.h y)/\inv.m y < inv.m x:=_root_.id rfl
@[simp ↓] theorem qan(inv:qa1)(x:inv.X):Q0 inv x K .ret σ H=K .ret σ H:=_root_.id rfl
@[simp ↓] theorem UJ(inv:qa1)(x:inv.X)(i:Nat):Q0 inv x K (.ex i) σ H=K (.ex i) σ H:=_root_.id rfl
end
def ku(s:Nat)(b:Bool)(σ:Sg)(d:D)(yes no:Sg->Prop):Prop:=match d with
 | .v (.bool t)=>(t=b->yes (upd σ s (.v (.bool b))))/\(t=(!b)->no (upd σ s (.v (.bool (!b)))))
 | .undef=>no σ
 | _=>False
@[simp high] theorem qlY(s:Nat):ku s true σ (.v (.bool true)) yes no=yes (upd σ s (.v (.bool true))):=by simp[ku]
@[simp high] theorem qlZ(s:Nat):ku s true σ (.v (.bool false)) yes no=no (upd σ s (.v (.bool false))):=by simp[ku]
@[simp high] theorem ql0(s:Nat):ku s false σ (.v (.bool true)) yes no=no (upd σ s (.v (.bool true))):=by simp[ku]
@[simp high] theorem ql1(s:Nat):ku s false σ (.v (.bool false)) yes no=yes (upd σ s (.v (.bool false))):=by simp[ku]
@[simp] theorem qlX(s:Nat)(b:Bool):ku s b σ .undef yes no=no σ:=_root_.id rfl
@[simp] theorem ql8(s:Nat)(b t:Bool):ku s b σ (.v (.bool t)) yes no=((t=b->yes (upd σ s (.v (.bool b))))/\(t=(!b)->no (upd σ s (.v (.bool (!b)))))):=_root_.id rfl
section
variable {S:Nat->Spc}{σ:Sg}{H Hr:ab}
@[simp ↓] theorem YY(K:Sg->ab->Prop):zt S [] σ H K=K σ H:=_root_.id rfl
@[simp ↓] theorem Z0(K:Sg->ab->Prop)(d:Option Nat)(c:COp)(r:List CI):zt S (.op d none c::r) σ H K=aC S c d σ H λx H'=>zt S r (dH σ d x) H' K:=_root_.id rfl
@[simp ↓] theorem qkD(K:Sg->ab->Prop)(d:Option Nat)(s:Nat)(b:Bool)(c:COp)(r:List CI):zt S (.op d (some (s,b)) c::r) σ H K=ku s b σ (σ s) (λσ=>aC S c d σ H λx H'=>zt S r (dH σ d x) H' K) (λσ=>zt S r (dH σ d .undef) H K):=_root_.id rfl
@[simp ↓] theorem qku(K:Sg->ab->Prop):gG S [] σ Hr H K=K σ H:=_root_.id rfl
@[simp ↓] theorem qkv(K:Sg->ab->Prop)(a:Nat)(r:List CI):gG S (.frz a b::r) σ Hr H K=gG S r σ (bc r Hr) H K:=_root_.id rfl
@[simp ↓] theorem qls(K:Sg->ab->Prop)(d:Option Nat)(c:COp)(r:List CI):gG S (.op d none c::r) σ Hr H K=aw S c d σ Hr H λx H'=>gG S r (dH σ d x) Hr H' K:=_root_.id rfl
@[simp ↓] theorem qkt(K:Sg->ab->Prop)(d:Option Nat)(s:Nat)(b:Bool)(c:COp)(r:List CI):gG S (.op d (some (s,b)) c::r) σ Hr H K=ku s b σ (σ s) (λσ=>aw S c d σ Hr H λx H'=>gG S r (dH σ d x) Hr H' K) (λσ=>gG S r (dH σ d .undef) Hr H K):=_root_.id rfl
end
def Cb(d:D)(A B:Prop):Prop:=match d with
 | .v (.bool t)=>(t=true->A)/\(t=false->B)
 | _=>False
@[simp high] theorem qfy:Cb (.v (.bool true)) A B=A:=by simp[Cb]
@[simp high] theorem qfz:Cb (.v (.bool false)) A B=B:=by simp[Cb]
def LV(agg:Bool)(sz b off:Nat)(r:Option Res)(K:D->Prop):Prop:=match r with
 | some (.box b' cells)=>b'=b/\off+sz<=cells.length/\K (CV agg sz cells off)
 | _=>False
def LU(agg:Bool)(sz:Nat)(x:Value)(n i off:Nat)(r:Option Res)(K:D->Prop):Prop:=match r with
 | some (.row x' _ n' es)=>x'=x/\n'=n/\off+sz<=n/\i < es.length/\∀d,es[i]? =some d->K (CV agg sz d.cells off)
 | _=>False
def Cf(agg:Bool)(sz:Nat)(d:D)(H:ab)(K:D->Prop):Prop:=match d with
 | .cptr cs off=>off+sz<=cs.length/\K (CV agg sz cs off)
 | .bptr id b off=>LV agg sz b off (H id) K
 | .eptr id x n i off=>LU agg sz x n i off (H id) K
 | _=>False
@[simp] theorem qfO:Cf agg sz (.cptr cs off) H K=(off+sz<=cs.length/\K (CV agg sz cs off)):=_root_.id rfl
@[simp] theorem qfP:Cf agg sz (.bptr i b off) H K=LV agg sz b off (H i) K:=_root_.id rfl
@[simp] theorem qfN(k:Nat):Cf agg sz (.eptr i x n k off) H K=LU agg sz x n k off (H i) K:=_root_.id rfl
@[simp] theorem qfR:LV agg sz b off (some (.box b' cells)) K=(b'=b/\off+sz<=cells.length/\K (CV agg sz cells off)):=_root_.id rfl
@[simp] theorem qfQ:LU agg sz x n i off (some (.row x' el n' es)) K=(x'=x/\n'=n/\off+sz<=n/\i < es.length/\∀d,es[i]? =some d->K (CV agg sz d.cells off)):=_root_.id rfl
def QZ(d:D)(K:D->Prop):Prop:=match d with
 | .cptr cs off=>K (.cptr cs off)
 | .bptr id b off=>K (.bptr id b off)
 | .eptr id x n i off=>K (.eptr id x n i off)
 | .tape L=>K (.tape L)
 | .clo f caps=>K (.clo f caps)
 | _=>False
@[simp] theorem qib:QZ (.cptr cs off) K=K (.cptr cs off):=_root_.id rfl
@[simp] theorem qic:QZ (.bptr i b off) K=K (.bptr i b off):=_root_.id rfl
def Fu(op:BinOp)(d e:D)(K:D->Prop):Prop:=match d,e with
 | .v (.int k a), .v (.int k' b)=>Q9 op k k'/\eL op k a b K
 | _,_=>False
@[simp] theorem Vg(op:BinOp)(k k':IntKind)(a b:Int)(K:D->Prop):Fu op (.v (.int k a)) (.v (.int k' b)) K=(Q9 op k k'/\eL op k a b K):=_root_.id rfl
@[simp] theorem Xn(k k':IntKind):Q9 .add k k'=(k=k'):=_root_.id rfl
@[simp] theorem qf0:Q9 .sub k k'=(k=k'):=_root_.id rfl
@[simp] theorem qf5:Q9 .mul k k'=(k=k'):=_root_.id rfl
@[simp] theorem qf4:Q9 .quo k k'=(k=k'):=_root_.id rfl
@[simp] theorem qf3:Q9 .rem k k'=(k=k'):=_root_.id rfl
@[simp] theorem qf6:Q9 .and k k'=(k=k'):=_root_.id rfl
@[simp] theorem qiw:Q9 .or k k'=(k=k'):=_root_.id rfl
@[simp] theorem qf2:Q9 .shl k k'=True:=_root_.id rfl
@[simp] theorem qf1:Q9 .shr k k'=True:=_root_.id rfl
@[simp ↓] theorem RH(k:IntKind)(a b:Int)(K:D->Prop):eL .add k a b K=(InR k (a+b)/\K (.v (.int k (a+b)))):=_root_.id rfl
@[simp ↓] theorem qbH(b:Int):eL .sub k a b K=(InR k (a -b)/\K (.v (.int k (a -b)))):=_root_.id rfl
@[simp ↓] theorem qbM(b:Int):eL .mul k a b K=(InR k (a*b)/\K (.v (.int k (a*b)))):=_root_.id rfl
@[simp ↓] theorem qbL(b:Int):eL .quo k a b K=(b≠0/\InR k (a.tdiv b)/\K (.v (.int k (a.tdiv b)))):=_root_.id rfl
@[simp ↓] theorem qbK(b:Int):eL .rem k a b K=(b≠0/\K (.v (.int k (a.tmod b)))):=_root_.id rfl
@[simp ↓] theorem qbN(b:Int):eL .and k a b K=K (.v (.int k (MY k a b))):=_root_.id rfl
@[simp ↓] theorem qew(b:Int):eL .or k a b K=K (.v (.int k (qbo k a b))):=_root_.id rfl
@[simp ↓] theorem qbJ(b:Int):eL .shl k a b K=(0<=b/\K (.v (.int k (It k a b)))):=_root_.id rfl
@[simp ↓] theorem qbI(b:Int):eL .shr k a b K=(0<=b/\K (.v (.int k (QD k a b)))):=_root_.id rfl
def WG(d:D)(K:D->Prop):Prop:=match d with
 | .v (.int _ n)=>K (.v (.string (Utf8.encode n)))
 | _=>False
@[simp] theorem qhP(n:Int):WG (.v (.int k n)) K=K (.v (.string (Utf8.encode n))):=_root_.id rfl
def Ot(o:Option Bool)(K:D->Prop):Prop:=match o with|some t=>K (.v (.bool t))|none=>False
@[simp] theorem qaC(t:Bool)(K:D->Prop):Ot (some t) K=K (.v (.bool t)):=_root_.id rfl
def Rz(op:BinOp)(d e:D)(K:D->Prop):Prop:=match d,e with
 | .v (.int k a), .v (.int k' b)=>k=k'/\Ot (JX op a b) K
 | .v (.string a), .v (.string b)=>Ot (MF op a b) K
 | _,_=>False
@[simp] theorem qaB(op:BinOp)(k k':IntKind)(a b:Int)(K:D->Prop):Rz op (.v (.int k a)) (.v (.int k' b)) K=(k=k'/\Ot (JX op a b) K):=_root_.id rfl
@[simp] theorem qjj(a b:ByteArray):Rz op (.v (.string a)) (.v (.string b)) K=Ot (MF op a b) K:=_root_.id rfl
@[simp] theorem UY(a b:Int):JX .lss a b=some (decide (a < b)):=_root_.id rfl
@[simp] theorem qea(b:Int):JX .leq a b=some (decide (a<=b)):=_root_.id rfl
@[simp] theorem qeb(b:Int):JX .gtr a b=some (decide (b < a)):=_root_.id rfl
@[simp] theorem qec(b:Int):JX .geq a b=some (decide (b<=a)):=_root_.id rfl
@[simp] theorem qd7(a b:ByteArray):MF .lss a b=some (Op.bytesLess a.toList b.toList):=_root_.id rfl
@[simp] theorem qd8(a b:ByteArray):MF .gtr a b=some (!(Op.bytesLess a.toList b.toList||a.toList==b.toList)):=_root_.id rfl
@[simp] theorem qd9(a b:ByteArray):MF .geq a b=some (!Op.bytesLess a.toList b.toList):=_root_.id rfl
def Rr(neg:Bool)(o:Option Bool)(K:D->Prop):Prop:=match o with
 | some p=>K (.v (.bool (if neg then !p else p)))
 | none=>False
@[simp] theorem qiZ(p:Bool):Rr false (some p) K=K (.v (.bool p)):=_root_.id rfl
@[simp] theorem qiY(p:Bool):Rr true (some p) K=K (.v (.bool (!p))):=_root_.id rfl
@[simp] theorem qkT(k:M4)(a b:D):UD false [k] a b=Om k a b:=_root_.id rfl
@[simp] theorem qkS(a b:List D):UD true ks (.agg a) (.agg b)=Oj ks a b:=_root_.id rfl
@[simp] theorem qkR:Oj [] [] []=some true:=_root_.id rfl
@[simp] theorem qkQ(k:M4)(a b:D)(as bs:List D):Oj (k::ks) (a::as) (b::bs)=(Om k a b).bind λp=>(Oj ks as bs).bind λq=>some (p && q):=_root_.id rfl
@[simp] theorem qkV(b:Int):Om .int (.v (.int k a)) (.v (.int k' b))=if k=k' then some (decide (a=b))else none:=_root_.id rfl
@[simp] theorem qkU(a b:ByteArray):Om .str (.v (.string a)) (.v (.string b))=some (decide (a=b)):=_root_.id rfl
@[simp] theorem qkW(a b:Bool):Om .bool (.v (.bool a)) (.v (.bool b))=some (decide (a=b)):=_root_.id rfl
def Xb(d:D)(K:D->Prop):Prop:=match d with
 | .v (.bool b)=>K (.v (.bool (!b)))
 | _=>False
@[simp] theorem qh7(b:Bool):Xb (.v (.bool b)) K=K (.v (.bool (!b))):=_root_.id rfl
def PW(k:IntKind)(d:D)(K:D->Prop):Prop:=match d with
 | .v (.int _ n)=>K (.v (.int k (k.wrap n)))
 | _=>False
@[simp] theorem qgJ(n:Int):PW k (.v (.int k' n)) K=K (.v (.int k (k.wrap n))):=_root_.id rfl
def NA(n id:Nat)(x:Value)(lo hi:Option (Option (IntKind×Int)))(r:Option Res)(K:D->Prop):Prop:=match r with
 | some (.row x' _ n' es)=>x'=x/\n'=n/\mK lo hi es.length λl h=>K (.sub id x n l h)
 | _=>False
@[simp] theorem qcm(lo hi:Option (Option (IntKind×Int))):NA n i x lo hi (some (.row x' el n' es)) K=(x'=x/\n'=n/\mK lo hi es.length λl h=>K (.sub i x n l h)):=_root_.id rfl
@[simp] theorem qjf(K:Nat->Nat->Prop):mK (some (some (k,l))) none len K=(0<=l/\l<=len/\K l.toNat len):=_root_.id rfl
def D9(n:Nat)(d:D)(lo hi:Option (Option (IntKind×Int)))(H:ab)(K:D->Prop):Prop:=match d with
 | .list n' es=>n'=n/\(match lo,hi with
   | none,none=>K (.list n es)
   | some (some (_,l)),none=>0<=l/\l<=es.length/\K (.list n (es.drop l.toNat))
   | none,some (some (_,h))=>0<=h/\h<=es.length/\K (.list n (es.take h.toNat))
   | some (some (_,l)),some (some (_,h))=>0<=l/\l<=h/\h<=es.length/\K (.list n ((es.take h.toNat).drop l.toNat))
   | _,_=>False)
 | .own id x=>NA n id x lo hi (H id) K
 | .sub id x n' a b=>n'=n/\mK lo hi (b -a) λl h=>K (.sub id x n (a+l) (a+h))
 | .v (.slice none 0 0)=>mK lo hi 0 λ_ _=>K (.v (.slice none 0 0))
 | _=>False
@[simp] theorem qcl(lo hi:Option (Option (IntKind×Int))):D9 n (.own i x) lo hi H K=NA n i x lo hi (H i) K:=_root_.id rfl
@[simp] theorem qbj:D9 n (.list n' es) (some (some (k,l))) none H K=(n'=n/\0<=l/\l<=es.length/\K (.list n (es.drop l.toNat))):=_root_.id rfl
@[simp] theorem qbi:D9 n (.list n' es) none (some (some (k,l))) H K=(n'=n/\0<=l/\l<=es.length/\K (.list n (es.take l.toNat))):=_root_.id rfl
def Dn(d:D)(lo hi:Option (Option (IntKind×Int)))(K:D->Prop):Prop:=match d with
 | .v (.string s)=>(match lo,hi with
   | none,none=>K (.v (.string (s.extract 0 s.size)))
   | some (some (_,l)),none=>0<=l/\l<=s.size/\K (.v (.string (s.extract l.toNat s.size)))
   | none,some (some (_,h))=>0<=h/\h<=s.size/\K (.v (.string (s.extract 0 h.toNat)))
   | some (some (_,l)),some (some (_,h))=>0<=l/\l<=h/\h<=s.size/\K (.v (.string (s.extract l.toNat h.toNat)))
   | _,_=>False)
 | _=>False
@[simp] theorem Zx:Dn (.v (.string s)) (some (some (k,l))) none K=(0<=l/\l<=s.size/\K (.v (.string (s.extract l.toNat s.size)))):=_root_.id rfl
@[simp] theorem Zy:Dn (.v (.string s)) (some (some (k,l))) (some (some (k',h))) K=(0<=l/\l<=h/\h<=s.size/\K (.v (.string (s.extract l.toNat h.toNat)))):=_root_.id rfl
def yp(off:Nat)(d:D)(K:D->Prop):Prop:=match d with
 | .cptr cs o=>K (.cptr cs (o+off))
 | .bptr id b o=>K (.bptr id b (o+off))
 | .eptr id x n i o=>K (.eptr id x n i (o+off))
 | _=>False
@[simp] theorem qdN:yp off (.cptr cs o) K=K (.cptr cs (o+off)):=_root_.id rfl
@[simp] theorem qdO:yp off (.bptr i b o) K=K (.bptr i b (o+off)):=_root_.id rfl
@[simp] theorem qdM(k:Nat):yp off (.eptr i x n k o) K=K (.eptr i x n k (o+off)):=_root_.id rfl
def EX(n:Nat)(k:Int)(id:Nat)(x:Value)(r:Option Res)(K:D->Prop):Prop:=match r with
 | some (.row x' _ n' es)=>x'=x/\n'=n/\0<=k/\k < es.length/\K (.eptr id x n k.toNat 0)
 | _=>False
def yn(n:Nat)(i d:D)(H:ab)(K:D->Prop):Prop:=match i with
 | .v (.int _ k)=>match d with
   | .list n' es=>n'=n/\0<=k/\k < es.length/\∀d,es[k.toNat]? =some d->K (.cptr d.cells 0)
   | .own id x=>EX n k id x (H id) K
   | .sub id x n' lo hi=>n'=n/\0<=k/\k < (hi -lo:Nat)/\K (.eptr id x n (lo+k.toNat) 0)
   | _=>False
 | _=>False
@[simp] theorem qdr(k:Int):yn n (.v (.int kd k)) (.sub i x n' lo hi) H K=(n'=n/\0<=k/\k < (hi -lo:Nat)/\K (.eptr i x n (lo+k.toNat) 0)):=_root_.id rfl
@[simp] theorem qdt(k:Int):yn n (.v (.int kd k)) (.list n' es) H K=(n'=n/\0<=k/\k < es.length/\∀d,es[k.toNat]? =some d->K (.cptr d.cells 0)):=_root_.id rfl
@[simp] theorem qds(k:Int):yn n (.v (.int kd k)) (.own i x) H K=EX n k i x (H i) K:=_root_.id rfl
@[simp] theorem qdu(k:Int):EX n k i x (some (.row x' el n' es)) K=(x'=x/\n'=n/\0<=k/\k < es.length/\K (.eptr i x n k.toNat 0)):=_root_.id rfl
def OZ(i d:D)(K:D->Prop):Prop:=match i with
 | .v (.int _ k)=>match d with
   | .v (.string s)=>0<=k/\k < s.size/\∀c,s.data[k.toNat]? =some c->K (.v (.int .u8 c.toNat))
   | _=>False
 | _=>False
@[simp] theorem qfe(k:Int):OZ (.v (.int kd k)) (.v (.string s)) K=(0<=k/\k < s.size/\∀c,s.data[k.toNat]? =some c->K (.v (.int .u8 c.toNat))):=_root_.id rfl
def Uz(o:Option D)(K:D->Prop):Prop:=match o with
 | some d=>K d
 | none=>False
def Uy(d:D)(i:Nat)(K:D->Prop):Prop:=match d with
 | .tup ds=>Uz ds[i]? K
 | _=>False
@[simp] theorem qiT:Uy (.tup ds) i K=Uz ds[i]? K:=_root_.id rfl
@[simp] theorem qiU:Uz (some d) K=K d:=_root_.id rfl
def TP(x:Value)(r:Option Res)(K:D->Prop):Prop:=match r with
 | some (.row x' _ _ es)=>x'=x/\((es.length:Int)<=9223372036854775807->K (.v (.int .i64 es.length)))
 | _=>False
def NW(d:D)(H:ab)(K:D->Prop):Prop:=match d with
 | .list _ es=>(es.length:Int)<=9223372036854775807->K (.v (.int .i64 es.length))
 | .own id x=>TP x (H id) K
 | .v (.slice _ n _)=>K (.v (.int .i64 n))
 | .sub _ _ _ lo hi=>((hi -lo:Nat):Int)<=9223372036854775807->K (.v (.int .i64 (hi -lo:Nat)))
 | _=>False
@[simp] theorem qin:NW (.list n es) H K=((es.length:Int)<=9223372036854775807->K (.v (.int .i64 es.length))):=_root_.id rfl
@[simp] theorem qim:NW (.own i x) H K=TP x (H i) K:=_root_.id rfl
@[simp] theorem qfU(a:Option Addr)(c:Nat):NW (.v (.slice a n c)) H K=K (.v (.int .i64 n)):=_root_.id rfl
@[simp] theorem qio:TP x (some (.row x' el n es)) K=(x'=x/\((es.length:Int)<=9223372036854775807->K (.v (.int .i64 es.length)))):=_root_.id rfl
def U7(x:Value)(r:Option Res)(K:D->Prop):Prop:=match r with
 | some (.row x' _ n es)=>x'=x/\n=1/\Y5 es=true/\K (.v (.string (qaG es)))
 | _=>False
@[simp] theorem qjF:U7 x (some (.row x' el n es)) K=(x'=x/\n=1/\Y5 es=true/\K (.v (.string (qaG es)))):=_root_.id rfl
def Yj(d:D)(H:ab)(K:D->Prop):Prop:=match d with
 | .own i x=>U7 x (H i) K
 | .v (.slice none 0 0)=>K (.v (.string ⟨#[]⟩))
 | _=>False
@[simp] theorem qjE:Yj (.own i x) H K=U7 x (H i) K:=_root_.id rfl
def Lj(d:D)(K:D->Prop):Prop:=match d with
 | .v (.string s)=>(s.size:Int)<=9223372036854775807->K (.v (.int .i64 s.size))
 | _=>False
@[simp] theorem qfd:Lj (.v (.string s)) K=((s.size:Int)<=9223372036854775807->K (.v (.int .i64 s.size))):=_root_.id rfl
def TF(mx:Bool)(d e:D)(K:D->Prop):Prop:=match d,e with
 | .v (.int k a), .v (.int k' b)=>k=k'/\K (.v (.int k (if mx then max a b else min a b)))
 | _,_=>False
@[simp] theorem qig(b:Int):TF mx (.v (.int k a)) (.v (.int k' b)) K=(k=k'/\K (.v (.int k (if mx then max a b else min a b)))):=_root_.id rfl
@[simp ↓] theorem qbG(K:List D->Prop):gF σ [] cs K=K cs:=_root_.id rfl
@[simp ↓] theorem qaH(x:Operand)(r:List (Nat×Nat×Operand))(K:List D->Prop):gF σ ((off,sz,x)::r) cs K=((ev σ x).kn=true/\(ev σ x).cells.length=sz/\gF σ r (setAt cs off (ev σ x).cells) K):=_root_.id rfl
@[simp] theorem qbn:gw n []=True:=_root_.id rfl
@[simp] theorem ZP(r:List D):gw n (d::r)=(d.kn=true/\d.cells.length=n/\gw n r):=_root_.id rfl
def Qz(n lo hi:Nat)(x:Value)(r:Option Res)(K:List D->Prop):Prop:=match r with
 | some (.row x' _ n'' es)=>x'=x/\n''=n/\K ((es.take hi).drop lo)
 | _=>False
@[simp] theorem qhB(K:List D->Prop):Qz n lo hi x (some (.row x' el n' es)) K=(x'=x/\n'=n/\K ((es.take hi).drop lo)):=_root_.id rfl
@[simp] theorem qkf(K:List D->Prop):gH n (.sub i x n' lo hi) H K=(n'=n/\Qz n lo hi x (H i) K):=by
 simp only[gH];cases H i with
 | none=>simp[Qz]
 | some r=>cases r <;> simp[Qz,and_left_comm]
@[simp] theorem qhC(K:List D->Prop):pN n (.list n' es) H K=(n'=n/\K es):=_root_.id rfl
@[simp] theorem qhD(K:List D->Prop):pN n (.v (.string s)) H K=(n=1/\K (zE s)):=_root_.id rfl
def qih(t el n bytes:Nat)(agg:Bool)(z:List Value)(l c:Option (IntKind×Int))(H:ab)(K:D->ab->Prop):Prop:=match l,c with
 | some (_,l),some (_,c)=>0<=l/\l<=c/\bytes*c<=140737488355328/\c<=140737488355328/\∀x,K (.own t x) (ai H t (some (.row x el n (List.replicate l.toNat (if agg then .agg (z.map mL)else mL (z.headD (.bool false)))))))
 | _,_=>False
@[simp] theorem qkC(c:Int)(K:D->ab->Prop):qih t el n bytes agg z (some (k,l)) (some (k',c)) H K=(0<=l/\l<=c/\bytes*c<=140737488355328/\c<=140737488355328/\∀x,K (.own t x) (ai H t (some (.row x el n (List.replicate l.toNat (if agg then .agg (z.map mL)else mL (z.headD (.bool false)))))))):=_root_.id rfl
def xI(sz id b off:Nat)(y:D)(r:Option Res)(H:ab)(K:D->ab->Prop):Prop:=match r with
 | some (.box b' cells)=>b'=b/\off+sz<=cells.length/\K .undef (ai H id (some (.box b' (setAt cells off y.cells))))
 | _=>False
def xH(sz id:Nat)(x:Value)(n i off:Nat)(y:D)(r:Option Res)(H:ab)(K:D->ab->Prop):Prop:=match r with
 | some (.row x' el n' es)=>x'=x/\n'=n/\0 < n/\off+sz<=n/\i < es.length/\∀d,es[i]? =some d->
    K .undef (ai H id (some (.row x' el n' (es.set i (if off=0/\sz=n then y else .agg (setAt d.cells off y.cells))))))
 | _=>False
def D5(sz:Nat)(d y:D)(H:ab)(K:D->ab->Prop):Prop:=match d with
 | .bptr id b off=>xI sz id b off y (H id) H K
 | .eptr id x n i off=>xH sz id x n i off y (H id) H K
 | _=>False
@[simp] theorem qcc(y:D)(K:D->ab->Prop):D5 sz (.bptr i b off) y H K=xI sz i b off y (H i) H K:=_root_.id rfl
@[simp] theorem qcb(k:Nat)(y:D)(K:D->ab->Prop):D5 sz (.eptr i x n k off) y H K=xH sz i x n k off y (H i) H K:=_root_.id rfl
@[simp] theorem qce(y:D)(K:D->ab->Prop):xI sz i b off y (some (.box b' cells)) H K=(b'=b/\off+sz<=cells.length/\K .undef (ai H i (some (.box b' (setAt cells off y.cells))))):=_root_.id rfl
@[simp] theorem qcd(k:Nat)(y:D)(K:D->ab->Prop):xH sz i x n k off y (some (.row x' el n' es)) H K=(x'=x/\n'=n/\0 < n/\off+sz<=n/\k < es.length/\∀d,es[k]? =some d->
 K .undef (ai H i (some (.row x' el n' (es.set k (if off=0/\sz=n then y else .agg (setAt d.cells off y.cells))))))):=_root_.id rfl
def Vk(el n bytes id:Nat)(x:Value)(es2:List D)(r:Option Res)(H:ab)(K:D->ab->Prop):Prop:=match r with
 | some (.row x' el' n' es)=>x'=x/\el'=el/\n'=n/\(es.length+es2.length) *bytes<=140737488355328/\es.length+es2.length<=140737488355328/\∀v,K (.own id v) (ai H id (some (.row v el n (es++es2))))
 | _=>False
def qjP(el n bytes id:Nat)(x:Value)(n' lo hi:Nat)(es2:List D)(r:Option Res)(H:ab)(K:D->ab->Prop):Prop:=match r with
 | some (.row x' el' n'' es)=>x'=x/\el'=el/\n'=n/\n''=n/\lo=0/\(hi+es2.length) *bytes<=140737488355328/\hi+es2.length<=140737488355328/\∀v,K (.own id v) (ai H id (some (.row v el n (es.take hi++es2))))
 | _=>False
def qji(n id:Nat)(x:Value)(src:List D)(r:Option Res)(H:ab)(K:D->ab->Prop):Prop:=match r with
 | some (.row x' el n' es)=>x'=x/\n'=n/\K (.v (.int .i64 (min src.length es.length:Nat))) (ai H id (some (.row x' el n' (src.take es.length++es.drop src.length))))
 | _=>False
def UW(n id:Nat)(x:Value)(n' lo hi:Nat)(src:List D)(r:Option Res)(H:ab)(K:D->ab->Prop):Prop:=match r with
 | some (.row x' el n'' es)=>x'=x/\n'=n/\n''=n/\K (.v (.int .i64 (min src.length (hi -lo):Nat))) (ai H id (some (.row x' el n'' (es.take lo++src.take (hi -lo) ++es.drop (lo+min src.length (hi -lo))))))
 | _=>False
def XZ(n:Nat)(d:D)(src:List D)(H:ab)(K:D->ab->Prop):Prop:=match d with
 | .own id x=>qji n id x src (H id) H K
 | .sub id x n' lo hi=>UW n id x n' lo hi src (H id) H K
 | _=>False
@[simp] theorem qjg(K:D->ab->Prop):XZ n (.sub i x n' lo hi) src H K=UW n i x n' lo hi src (H i) H K:=_root_.id rfl
@[simp] theorem qjh(K:D->ab->Prop):UW n i x n' lo hi src (some (.row x' el n'' es)) H K=(x'=x/\n'=n/\n''=n/\K (.v (.int .i64 (min src.length (hi -lo):Nat))) (ai H i (some (.row x' el n'' (es.take lo++src.take (hi -lo) ++es.drop (lo+min src.length (hi -lo))))))):=_root_.id rfl
def WC(d:D)(K:D->Prop):Prop:=match d with
 | .v (.string s)=>K (.list 1 (s.data.toList.map λc=> .v (.int .u8 c.toNat)))
 | _=>False
@[simp] theorem qhL:WC (.v (.string s)) K=K (.list 1 (s.data.toList.map λc=> .v (.int .u8 c.toNat))):=_root_.id rfl
def Sm(t:Nat)(d:D)(H:ab)(K:D->ab->Prop):Prop:=match d with
 | .v (.string s)=>∀b,K (.bptr t b 0) (ai H t (some (.iter b s 0)))
 | _=>False
@[simp] theorem qhA(K:D->ab->Prop):Sm t (.v (.string s)) H K=∀b,K (.bptr t b 0) (ai H t (some (.iter b s 0))):=_root_.id rfl
def Sn(id b:Nat)(r:Option Res)(H:ab)(K:D->ab->Prop):Prop:=match r with
 | some (.iter b' s pos)=>b'=b/\(pos < s.size->K (.tup [.v (.bool true), .v (.int .i64 pos), .v (.int .i32 (Utf8.decode s pos).1)]) (ai H id (some (.iter b' s (pos+ (Utf8.decode s pos).2)))))/\(¬pos < s.size->K (.tup [.v (.bool false)]) H)
 | _=>False
@[simp] theorem qhF(pos:Nat)(K:D->ab->Prop):Sn id b (some (.iter b' s pos)) H K=(b'=b/\(pos < s.size->K (.tup [.v (.bool true), .v (.int .i64 pos), .v (.int .i32 (Utf8.decode s pos).1)]) (ai H id (some (.iter b' s (pos+ (Utf8.decode s pos).2)))))/\(¬pos < s.size->K (.tup [.v (.bool false)]) H)):=_root_.id rfl
def Wy(d:D)(H:ab)(K:D->ab->Prop):Prop:=match d with
 | .bptr id b off=>off=0/\Sn id b (H id) H K
 | _=>False
@[simp] theorem qhE(K:D->ab->Prop):Wy (.bptr i b off) H K=(off=0/\Sn i b (H i) H K):=_root_.id rfl
def Yn(dst:Option Nat)(el n b:Nat)(d:D)(es2:List D)(H:ab)(K:D->ab->Prop):Prop:=match dst,d with
 | some t, .v (.slice none 0 0)=>es2.length*b<=140737488355328/\es2.length<=140737488355328/\∀v,K (.own t v) (ai H t (some (.row v el n es2)))
 | _,_=>False
@[simp] theorem qjS(K:D->ab->Prop):Yn (some t) el n b (.v (.slice none 0 0)) es2 H K=(es2.length*b<=140737488355328/\es2.length<=140737488355328/\∀v,K (.own t v) (ai H t (some (.row v el n es2)))):=_root_.id rfl
def Vh(el n b r:Nat)(x:Value)(es2:List D)(q:Option Res)(H:ab)(K:D->ab->Prop):Prop:=match q with
 | some (.row x' el' n' es)=>x'=x/\el'=el/\n'=n/\(es.length+es2.length) *b<=140737488355328/\es.length+es2.length<=140737488355328/\∀v,K (.own r v) (ai H r (some (.row v el n (es++es2))))
 | _=>False
@[simp] theorem qjM(r:Nat)(K:D->ab->Prop):Vh el n b r x es2 (some (.row x' el' n' es)) H K=(x'=x/\el'=el/\n'=n/\(es.length+es2.length) *b<=140737488355328/\es.length+es2.length<=140737488355328/\∀v,K (.own r v) (ai H r (some (.row v el n (es++es2))))):=_root_.id rfl
def Ym(r el n b:Nat)(d:D)(es2:List D)(H:ab)(K:D->ab->Prop):Prop:=match d with
 | .own id x=>id=r/\Vh el n b r x es2 (H r) H K
 | _=>False
@[simp] theorem qjL(r:Nat)(K:D->ab->Prop):Ym r el n b (.own i x) es2 H K=(i=r/\Vh el n b r x es2 (H r) H K):=_root_.id rfl
def Lf(r sz:Nat)(d y:D)(H:ab)(K:D->ab->Prop):Prop:=match d with
 | .bptr id b off=>id=r/\xI sz r b off y (H r) H K
 | .eptr id x n i off=>id=r/\xH sz r x n i off y (H r) H K
 | _=>False
@[simp] theorem qe5(r:Nat)(y:D)(K:D->ab->Prop):Lf r sz (.bptr i b off) y H K=(i=r/\xI sz r b off y (H r) H K):=_root_.id rfl
@[simp] theorem qe4(r:Nat)(k:Nat)(y:D)(K:D->ab->Prop):Lf r sz (.eptr i x n k off) y H K=(i=r/\xH sz r x n k off y (H r) H K):=_root_.id rfl
def qjR(dst:Option Nat)(el n bytes:Nat)(es2:List D)(H:ab)(K:D->ab->Prop):Prop:=match dst with
 | some t=>es2.length*bytes<=140737488355328/\es2.length<=140737488355328/\∀v,K (.own t v) (ai H t (some (.row v el n es2)))
 | none=>False
def Vi(dst:Option Nat)(el n bytes:Nat)(d:D)(es2:List D)(H:ab)(K:D->ab->Prop):Prop:=match d with
 | .own id x=>Vk el n bytes id x es2 (H id) H K
 | .v (.slice none 0 0)=>qjR dst el n bytes es2 H K
 | .sub id x n' lo hi=>qjP el n bytes id x n' lo hi es2 (H id) H K
 | _=>False
@[simp] theorem qjN(K:D->ab->Prop):Vi dst el n bytes (.own i x) es2 H K=Vk el n bytes i x es2 (H i) H K:=_root_.id rfl
@[simp] theorem qjO(K:D->ab->Prop):Vi (some t) el n bytes (.v (.slice none 0 0)) es2 H K=(es2.length*bytes<=140737488355328/\es2.length<=140737488355328/\∀v,K (.own t v) (ai H t (some (.row v el n es2)))):=_root_.id rfl
@[simp] theorem qjQ(K:D->ab->Prop):Vk el n bytes i x es2 (some (.row x' el' n' es)) H K=(x'=x/\el'=el/\n'=n/\(es.length+es2.length) *bytes<=140737488355328/\es.length+es2.length<=140737488355328/\∀v,K (.own i v) (ai H i (some (.row v el n (es++es2))))):=_root_.id rfl
def Az(S:Nat->Spc)(f:D)(d:Nat)(args:List D)(H:ab)(K:D->ab->Prop):Prop:=match f with
 | .clo g caps=>(S g).pt d (args++caps) H K
 | _=>False
@[simp] theorem qgO(d:Nat)(K:D->ab->Prop):Az S (.clo g caps) d args H K=(S g).pt d (args++caps) H K:=_root_.id rfl
@[congr] theorem qcy{r:Nat}{s:Spc}{K:D->ab->Prop}(hs:s=s₁)(hargs:args=args₁):GZ r dst s args H K=GZ r dst s₁ args₁ H K:=by subst hs;subst hargs;rfl
@[congr] theorem qfx{s:Spc}{K:D->ab->Prop}(hs:s=s₁)(hargs:args=args₁):NM dst s args H K=NM dst s₁ args₁ H K:=by subst hs;subst hargs;rfl
section
variable {S:Nat->Spc}{σ:Sg}{H Hr:ab}{K:D->ab->Prop}
@[simp ↓] theorem qjp(dst:Option Nat)(x:Operand):aC S (.mv x) dst σ H K=((λd=>K d H) (ev σ x)):=_root_.id rfl
@[simp ↓] theorem qlr(x:Operand):aw S (.mv x) dst σ Hr H K=((λd=>K d H) (ev σ x)):=_root_.id rfl
@[simp ↓] theorem qjo(x:Operand):aC S (.pick c x y) dst σ H K=(Cb (ev σ c) ((λd=>K d H) (ev σ x)) ((λd=>K d H) (ev σ y))):=_root_.id rfl
@[simp ↓] theorem qhY(x:Operand):aw S (.pick c x y) dst σ Hr H K=(Cb (ev σ c) ((λd=>K d H) (ev σ x)) ((λd=>K d H) (ev σ y))):=_root_.id rfl
@[simp ↓] theorem qgW(ps:List (Nat×Nat×Operand)):aC S (.build z ps) dst σ H K=(gF σ ps (z.map mL) λcs=>(λd=>K d H) (.agg cs)):=_root_.id rfl
@[simp ↓] theorem qft(ps:List (Nat×Nat×Operand)):aw S (.build z ps) dst σ Hr H K=(gF σ ps (z.map mL) λcs=>(λd=>K d H) (.agg cs)):=_root_.id rfl
@[simp ↓] theorem qel:aC S (.bslice el n ps) dst σ H K=(gw n (ps.map (ev σ))/\(λd=>K d H) (.list n (ps.map (ev σ)))):=_root_.id rfl
@[simp ↓] theorem qcw:aw S (.bslice el n ps) dst σ Hr H K=(gw n (ps.map (ev σ))/\(λd=>K d H) (.list n (ps.map (ev σ)))):=_root_.id rfl
@[simp ↓] theorem qjq(x:Operand):aC S (.load agg sz x) dst σ H K=(Cf agg sz (ev σ x) H (λd=>K d H)):=_root_.id rfl
@[simp ↓] theorem qhZ(x:Operand):aw S (.load agg sz x) dst σ Hr H K=(Cf agg sz (ev σ x) Hr (λd=>K d H)):=_root_.id rfl
@[simp ↓] theorem qgS(x:Operand):aC S (.nilck x) dst σ H K=(QZ (ev σ x) (λd=>K d H)):=_root_.id rfl
@[simp ↓] theorem qfp(x:Operand):aw S (.nilck x) dst σ Hr H K=(QZ (ev σ x) (λd=>K d H)):=_root_.id rfl
@[simp ↓] theorem Ye(dst:Option Nat)(op:BinOp)(x y:Operand):aC S (.arith op x y) dst σ H K=(Fu op (ev σ x) (ev σ y) (λd=>K d H)):=_root_.id rfl
@[simp ↓] theorem qfu(x:Operand):aw S (.arith op x y) dst σ Hr H K=(Fu op (ev σ x) (ev σ y) (λd=>K d H)):=_root_.id rfl
@[simp ↓] theorem qek(dst:Option Nat)(op:BinOp)(x y:Operand):aC S (.cmp op x y) dst σ H K=(Rz op (ev σ x) (ev σ y) (λd=>K d H)):=_root_.id rfl
@[simp ↓] theorem qkq(x:Operand):aw S (.cmp op x y) dst σ Hr H K=(Rz op (ev σ x) (ev σ y) (λd=>K d H)):=_root_.id rfl
@[simp ↓] theorem qk3(x:Operand):aC S (.eql neg agg ks x y) dst σ H K=(Rr neg (UD agg ks (ev σ x) (ev σ y)) (λd=>K d H)):=_root_.id rfl
@[simp ↓] theorem qkp(x:Operand):aw S (.eql neg agg ks x y) dst σ Hr H K=(Rr neg (UD agg ks (ev σ x) (ev σ y)) (λd=>K d H)):=_root_.id rfl
@[simp ↓] theorem qkZ(x:Operand):aC S (.not x) dst σ H K=(Xb (ev σ x) (λd=>K d H)):=_root_.id rfl
@[simp ↓] theorem qjs(x:Operand):aC S (.conv k x) dst σ H K=(PW k (ev σ x) (λd=>K d H)):=_root_.id rfl
@[simp ↓] theorem qk4:aC S (.clo f xs) dst σ H K=((λd=>K d H) (.clo f (xs.map (ev σ)))):=_root_.id rfl
@[simp ↓] theorem qgR(x:Operand)(lo hi:Option Operand):aC S (.slice n x lo hi) dst σ H K=(D9 n (ev σ x) (lo.map λo=>iY (ev σ o)) (hi.map λo=>iY (ev σ o)) H (λd=>K d H)):=_root_.id rfl
@[simp ↓] theorem qfo(x:Operand)(lo hi:Option Operand):aw S (.slice n x lo hi) dst σ Hr H K=(D9 n (ev σ x) (lo.map λo=>iY (ev σ o)) (hi.map λo=>iY (ev σ o)) Hr (λd=>K d H)):=_root_.id rfl
@[simp ↓] theorem qeg(x:Operand)(lo hi:Option Operand):aC S (.sslice x lo hi) dst σ H K=(Dn (ev σ x) (lo.map λo=>iY (ev σ o)) (hi.map λo=>iY (ev σ o)) (λd=>K d H)):=_root_.id rfl
@[simp ↓] theorem qcu(x:Operand)(lo hi:Option Operand):aw S (.sslice x lo hi) dst σ Hr H K=(Dn (ev σ x) (lo.map λo=>iY (ev σ o)) (hi.map λo=>iY (ev σ o)) (λd=>K d H)):=_root_.id rfl
@[simp ↓] theorem qgU(x:Operand):aC S (.faddr off x) dst σ H K=(yp off (ev σ x) (λd=>K d H)):=_root_.id rfl
@[simp ↓] theorem qfr(x:Operand):aw S (.faddr off x) dst σ Hr H K=(yp off (ev σ x) (λd=>K d H)):=_root_.id rfl
@[simp ↓] theorem qgT(x i:Operand):aC S (.iaddr n x i) dst σ H K=(yn n (ev σ i) (ev σ x) H (λd=>K d H)):=_root_.id rfl
@[simp ↓] theorem qfq(x i:Operand):aw S (.iaddr n x i) dst σ Hr H K=(yn n (ev σ i) (ev σ x) Hr (λd=>K d H)):=_root_.id rfl
@[simp ↓] theorem qjm(x i:Operand):aC S (.sidx x i) dst σ H K=(OZ (ev σ i) (ev σ x) (λd=>K d H)):=_root_.id rfl
@[simp ↓] theorem qk2(x:Operand):aC S (.ext x i) dst σ H K=(Uy (ev σ x) i (λd=>K d H)):=_root_.id rfl
@[simp ↓] theorem qko(x:Operand):aw S (.ext x i) dst σ Hr H K=(Uy (ev σ x) i (λd=>K d H)):=_root_.id rfl
@[simp ↓] theorem qk1(x:Operand):aC S (.len x) dst σ H K=(NW (ev σ x) H (λd=>K d H)):=_root_.id rfl
@[simp ↓] theorem qkn(x:Operand):aw S (.len x) dst σ Hr H K=(NW (ev σ x) Hr (λd=>K d H)):=_root_.id rfl
@[simp ↓] theorem qjl(x:Operand):aC S (.slen x) dst σ H K=(Lj (ev σ x) (λd=>K d H)):=_root_.id rfl
@[simp ↓] theorem qhX(x:Operand):aw S (.slen x) dst σ Hr H K=(Lj (ev σ x) (λd=>K d H)):=_root_.id rfl
@[simp ↓] theorem qju(x:Operand):aC S (.bstr x) dst σ H K=(Yj (ev σ x) H (λd=>K d H)):=_root_.id rfl
@[simp ↓] theorem qjn(x:Operand):aC S (.rstr x) dst σ H K=(WG (ev σ x) (λd=>K d H)):=_root_.id rfl
@[simp ↓] theorem qk0(x:Operand):aC S (.mm mx [x,y]) dst σ H K=TF mx (ev σ x) (ev σ y) (λd=>K d H):=_root_.id rfl
@[simp ↓] theorem qjv(x:Operand):aC S (.box el true x) dst σ H K=((ev σ x).kn=true/\K (.cptr (ev σ x).cells 0) H):=_root_.id rfl
@[simp ↓] theorem qgX:aC S (.alloc el z) (some t) σ H K=∀b,K (.bptr t b 0) (ai H t (some (.box b (z.map mL)))):=_root_.id rfl
@[simp ↓] theorem qk5(x:Operand):aC S (.box el false x) (some t) σ H K=((ev σ x).kn=true/\∀b,K (.bptr t b 0) (ai H t (some (.box b (ev σ x).cells)))):=_root_.id rfl
@[simp ↓] theorem qej:aC S (.mslice el n ps) (some t) σ H K=(gw n (ps.map (ev σ))/\∀x,K (.own t x) (ai H t (some (.row x el n (ps.map (ev σ)))))):=_root_.id rfl
@[simp ↓] theorem qbF(l:Operand):aC S (.mkslice el n bytes agg z l c) (some t) σ H K=qih t el n bytes agg z (iY (ev σ l)) (iY (ev σ c)) H K:=_root_.id rfl
@[simp ↓] theorem qkm(x:Operand):aw S (.mm mx [x,y]) dst σ Hr H K=TF mx (ev σ x) (ev σ y) (λd=>K d H):=_root_.id rfl
@[simp ↓] theorem qfv:aw S (.alloc el z) (some t) σ Hr H K=∀b,K (.bptr t b 0) (ai H t (some (.box b (z.map mL)))):=_root_.id rfl
@[simp ↓] theorem qcv:aw S (.nslice el n) (some t) σ Hr H K=∀x,K (.own t x) (ai H t (some (.row x el n []))):=_root_.id rfl
@[simp ↓] theorem qbk(l:Operand):aw S (.mkslice el n bytes agg z l c) (some t) σ Hr H K=qih t el n bytes agg z (iY (ev σ l)) (iY (ev σ c)) H K:=_root_.id rfl
@[simp ↓] theorem qei(x:Operand):aC S (.sbytes x) dst σ H K=WC (ev σ x) (λd=>K d H):=_root_.id rfl
@[simp ↓] theorem qeh(x:Operand):aC S (.srange x) (some t) σ H K=Sm t (ev σ x) H K:=by
 simp only[aC,aU,Sm];split <;> simp_all
@[simp ↓] theorem qgQ(x:Operand):aC S (.snext x) dst σ H K=Wy (ev σ x) H K:=_root_.id rfl
@[simp ↓] theorem qfn(r:Nat)(x:Operand):aw S (.store (some r) sz x y) dst σ Hr H K=((ev σ y).kn=true/\(ev σ y).cells.length=sz/\Lf r sz (ev σ x) (ev σ y) H K):=by
 simp only[aw];congr 2
@[simp ↓] theorem qgP(x:Operand):aC S (.store rt sz x y) dst σ H K=((ev σ y).kn=true/\(ev σ y).cells.length=sz/\D5 sz (ev σ x) (ev σ y) H K):=_root_.id rfl
@[simp ↓] theorem qem(x:Operand):aC S (.append rt el n bytes x y) dst σ H K=pN n (ev σ y) H λes2=>Vi dst el n bytes (ev σ x) es2 H K:=_root_.id rfl
@[simp ↓] theorem qbm(x:Operand):aw S (.append none el n bytes x y) dst σ Hr H K=pN n (ev σ y) Hr λes2=>Yn dst el n bytes (ev σ x) es2 H K:=by
 simp only[aw];congr 1
@[simp ↓] theorem qbl(r:Nat)(x:Operand):aw S (.append (some r) el n bytes x y) dst σ Hr H K=pN n (ev σ y) Hr λes2=>Ym r el n bytes (ev σ x) es2 H K:=by
 simp only[aw];congr 1
@[simp ↓] theorem qjr(x:Operand):aC S (.copy n x y) dst σ H K=gH n (ev σ y) H λsrc=>XZ n (ev σ x) src H K:=_root_.id rfl
@[simp ↓] theorem qjt(args:List Operand):aC S (.call f args) dst σ H K=(S f).pt (dst.getD 0) (args.map (ev σ)) H K:=_root_.id rfl
@[simp ↓] theorem qfs(r:Nat)(args:List Operand):aw S (.callb r f args) dst σ Hr H K=GZ r dst (S f) (args.map (ev σ)) H K:=_root_.id rfl
@[simp ↓] theorem qgV(f:Operand)(args:List Operand):aC S (.callv f args) dst σ H K=Az S (ev σ f) (dst.getD 0) (args.map (ev σ)) H K:=_root_.id rfl
@[simp ↓] theorem qh0(args:List Operand):aw S (.call f args) dst σ Hr H K=NM dst (S f) (args.map (ev σ)) H K:=_root_.id rfl
end
def qb6(σ:Sg)(t s:Nat)(d:D):upd σ t d s=if s=t then d else σ s:=_root_.id rfl
def Nk(σ:Sg)(t:Nat)(d:D):dH σ (some t) d=upd σ t d:=_root_.id rfl
def Zl(σ:Sg)(d:D):dH σ none d=σ:=_root_.id rfl
def Zm(H:ab)(t s:Nat)(d:Option Res):ai H t d s=if s=t then d else H s:=_root_.id rfl
attribute [simp] Nk Zl Zm
@[simp] theorem R3(σ:Sg)(t:Nat):ev σ (.tmp t)=σ t:=_root_.id rfl
@[simp] theorem Wo(σ:Sg)(x:Value):ev σ (.const x)=mL x:=_root_.id rfl
@[simp] theorem qhw:ev σ (.func f)= .clo f []:=_root_.id rfl
@[simp] theorem qhx(b:Bool):mL (.bool b)= .v (.bool b):=_root_.id rfl
@[simp] theorem qb3(k:IntKind)(n:Int):mL (.int k n)= .v (.int k n):=_root_.id rfl
@[simp] theorem qj7:mL (.string s)= .v (.string s):=_root_.id rfl
@[simp] theorem qj8(a:Option Addr):mL (.pointer a)= .v (.pointer a):=_root_.id rfl
@[simp] theorem qeZ(a:Option Addr)(l c:Nat):mL (.slice a l c)= .v (.slice a l c):=_root_.id rfl
def qcV(σ:Sg):gV [] σ=λ_=> .any:=_root_.id rfl
def Z1(t:Nat)(l:List Nat)(σ:Sg):gV (t::l) σ=upd (gV l σ) t (σ t):=_root_.id rfl
@[simp] theorem qit:iD [] H=λ_=>none:=_root_.id rfl
@[simp] theorem Xl(t:Nat)(l:List Nat)(H:ab):iD (t::l) H=ai (iD l H) t (H t):=_root_.id rfl
@[simp] theorem qh9:cw i=none:=_root_.id rfl
@[simp] theorem qil:pK [] σ=True:=_root_.id rfl
@[simp] theorem qfL(l:List (Nat×D)):pK ((t,d)::l) σ=(OF (σ t) d/\pK l σ):=_root_.id rfl
@[simp] theorem qif:tG [] H=True:=_root_.id rfl
@[simp] theorem qfF(d:Res)(l:List (Nat×Res)):tG ((t,d)::l) H=((H t=some d\/isNilRow d)/\tG l H):=_root_.id rfl
@[simp] theorem sub_self(d:D):OF d d=True:=by
 cases d <;> simp[OF]
@[simp] theorem qke(a:D):OF a (.v x)=(a= .v x):=_root_.id rfl
@[simp] theorem qe3(y:Value):OF (.own i x) (.own j y)=(x=y):=by simp[OF]
@[simp] theorem qb9(y:Value):OF (.v x) (.own j y)=(x=y):=by simp[OF]
@[simp] theorem qlD:CV true sz cs off= .agg ((cs.drop off).take sz):=_root_.id rfl
@[simp] theorem qlE:CV false sz cs off=(cs[off]?).getD .any:=_root_.id rfl
@[simp ↓] theorem qfk(rs:List aj)(K:D->ab->Prop):nQ rs K .norm σ H=sw rs σ H λds=>K (cN ds) H:=_root_.id rfl
@[simp ↓] theorem qhW(rs:List aj)(K:D->ab->Prop):nQ rs K .ret σ H=sw rs σ H λds=>K (cN ds) H:=_root_.id rfl
@[simp ↓] theorem qhV(K:List D->Prop):sw [] σ H K=K []:=_root_.id rfl
@[simp ↓] theorem qhU(r:List aj)(K:List D->Prop):sw (.tmp t::r) σ H K=sw r σ H λds=>K (σ t::ds):=_root_.id rfl
@[simp ↓] theorem qfj(r:List aj)(K:List D->Prop):sw (.cell t agg sz::r) σ H K=Cf agg sz (σ t) H λd=>sw r σ H λds=>K (d::ds):=_root_.id rfl
@[simp] theorem qlu:cN [d]=d:=_root_.id rfl
@[simp] theorem qlv:cN []= .tup []:=_root_.id rfl
@[simp] theorem qlt(l:List D):cN (d::e::l)= .tup (d::e::l):=_root_.id rfl
@[simp] theorem qlK:D.kn (.v x)=true:=_root_.id rfl
@[simp] theorem qgM:D.cells (.v x)=[.v x]:=_root_.id rfl
@[simp] theorem qis:D.kn (.agg cs)=true:=_root_.id rfl
@[simp] theorem qbE:D.cells (.agg cs)=cs:=_root_.id rfl
@[simp] theorem qfX:D.kn (.list n es)=true:=_root_.id rfl
@[simp] theorem qaD:D.cells (.list n es)=[.list n es]:=_root_.id rfl
@[simp] theorem qiq:D.kn (.own i x)=true:=_root_.id rfl
@[simp] theorem qbC:D.cells (.own i x)=[.own i x]:=_root_.id rfl
@[simp] theorem qip(k:Nat):D.kn (.sub i v n k o)=true:=_root_.id rfl
@[simp] theorem qbB(k:Nat):D.cells (.sub i v n k o)=[.sub i v n k o]:=_root_.id rfl
@[simp] theorem qir:D.kn (.clo f cs)=true:=_root_.id rfl
@[simp] theorem qbD:D.cells (.clo f cs)=[.clo f cs]:=_root_.id rfl
@[simp] theorem qlb(n:Int):iY (.v (.int k n))=some (k,n):=_root_.id rfl
attribute [simp] setAt
@[simp] theorem qi5(n:Int):enc n= .v (.int .i64 n):=rfl
@[simp] theorem qgz(b:Bool):enc b= .v (.bool b):=rfl
@[simp] theorem qi4:enc s= .v (.string s):=rfl
@[simp] theorem qgy{X:Type}[Cod X](l:List X):enc l= .list (Cod.wd X) (l.map enc):=rfl
@[simp] theorem qhs:Cod.wd Int=1:=rfl
@[simp] theorem qeS:Cod.wd Bool=1:=rfl
@[simp] theorem qhr:Cod.wd ByteArray=1:=rfl
@[simp] theorem qeR{X:Type}[Cod X]:Cod.wd (List X)=1:=rfl
@[congr] theorem qf7(hd:d=d₁):L0 d A B=L0 d₁ A B:=by subst hd;rfl
@[congr] theorem qbx{s:Nat}{b:Bool}(hd:d=d₁):ku s b σ d yes no=ku s b σ d₁ yes no:=by subst hd;rfl
@[congr] theorem qcA(hd:d=d₁):Cb d A B=Cb d₁ A B:=by subst hd;rfl
@[congr] theorem qcT(hr:r=r₁):LV agg sz b off r K=LV agg sz b off r₁ K:=by subst hr;rfl
@[congr] theorem qcS(hr:r=r₁):LU agg sz x n i off r K=LU agg sz x n i off r₁ K:=by subst hr;rfl
@[congr] theorem qcR(hd:d=d₁):Cf agg sz d H K=Cf agg sz d₁ H K:=by subst hd;rfl
@[congr] theorem qfD(hd:d=d₁):QZ d K=QZ d₁ K:=by subst hd;rfl
@[congr] theorem qbO(hd:d=d₁)(he:e=e₁):Fu op d e K=Fu op d₁ e₁ K:=by subst hd;subst he;rfl
@[congr] theorem qfh(hd:d=d₁):WG d K=WG d₁ K:=by subst hd;rfl
@[congr] theorem qgL{o:Option Bool}{o₁:Option Bool}(ho:o=o₁):Ot o K=Ot o₁ K:=by subst ho;rfl
@[congr] theorem qgK(hd:d=d₁)(he:e=e₁):Rz op d e K=Rz op d₁ e₁ K:=by subst hd;subst he;rfl
@[congr] theorem qgs{o:Option Bool}{o₁:Option Bool}(ho:o=o₁):Rr neg o K=Rr neg o₁ K:=by subst ho;rfl
@[congr] theorem qfB(hd:d=d₁):Xb d K=Xb d₁ K:=by subst hd;rfl
@[congr] theorem qd6(hd:d=d₁):PW k d K=PW k d₁ K:=by subst hd;rfl
@[congr] theorem qbz(hd:d=d₁):yp off d K=yp off d₁ K:=by subst hd;rfl
@[congr] theorem qbv{k:Int}(hr:r=r₁):EX n k id x r K=EX n k id x r₁ K:=by subst hr;rfl
@[congr] theorem qbu{i:D}(hi:i=i₁)(hd:d=d₁):yn n i d H K=yn n i₁ d₁ H K:=by subst hi;subst hd;rfl
@[congr] theorem qco{i:D}(hi:i=i₁)(hd:d=d₁):OZ i d K=OZ i₁ d₁ K:=by subst hi;subst hd;rfl
@[congr] theorem qgk{o:Option D}{o₁:Option D}(ho:o=o₁):Uz o K=Uz o₁ K:=by subst ho;rfl
@[congr] theorem qgj(hd:d=d₁):Uy d i K=Uy d₁ i K:=by subst hd;rfl
@[congr] theorem qfW(hr:r=r₁):TP x r K=TP x r₁ K:=by subst hr;rfl
@[congr] theorem qfV(hd:d=d₁):NW d H K=NW d₁ H K:=by subst hd;rfl
@[congr] theorem qg1(hr:r=r₁):U7 x r K=U7 x r₁ K:=by subst hr;rfl
@[congr] theorem qg0(hd:d=d₁):Yj d H K=Yj d₁ H K:=by subst hd;rfl
@[congr] theorem qcn(hd:d=d₁):Lj d K=Lj d₁ K:=by subst hd;rfl
@[congr] theorem qfG(hd:d=d₁)(he:e=e₁):TF mx d e K=TF mx d₁ e₁ K:=by subst hd;subst he;rfl
@[congr] theorem qe7{K:List D->Prop}(hr:r=r₁):Qz n lo hi x r K=Qz n lo hi x r₁ K:=by subst hr;rfl
@[congr] theorem qbg{y:D}{K:D->ab->Prop}(hy:y=y₁)(hr:r=r₁):xI sz id b off y r H K=xI sz id b off y₁ r₁ H K:=by subst hy;subst hr;rfl
@[congr] theorem qbf{y:D}{K:D->ab->Prop}(hy:y=y₁)(hr:r=r₁):xH sz id x n i off y r H K=xH sz id x n i off y₁ r₁ H K:=by subst hy;subst hr;rfl
@[congr] theorem qbe{y:D}{K:D->ab->Prop}(hd:d=d₁)(hy:y=y₁):D5 sz d y H K=D5 sz d₁ y₁ H K:=by subst hd;subst hy;rfl
@[congr] theorem qg7{K:D->ab->Prop}(hes2:es2=es2₁)(hr:r=r₁):Vk el n bytes id x es2 r H K=Vk el n bytes id x es2₁ r₁ H K:=by subst hes2;subst hr;rfl
@[congr] theorem qgI{K:D->ab->Prop}(hsrc:src=src₁)(hr:r=r₁):UW n id x n' lo hi src r H K=UW n id x n' lo hi src₁ r₁ H K:=by subst hsrc;subst hr;rfl
@[congr] theorem qgH{K:D->ab->Prop}(hd:d=d₁)(hsrc:src=src₁):XZ n d src H K=XZ n d₁ src₁ H K:=by subst hd;subst hsrc;rfl
@[congr] theorem qff(hd:d=d₁):WC d K=WC d₁ K:=by subst hd;rfl
@[congr] theorem qe6{K:D->ab->Prop}(hd:d=d₁):Sm t d H K=Sm t d₁ H K:=by subst hd;rfl
@[congr] theorem qfb{K:D->ab->Prop}(hr:r=r₁):Sn id b r H K=Sn id b r₁ H K:=by subst hr;rfl
@[congr] theorem qfa{K:D->ab->Prop}(hd:d=d₁):Wy d H K=Wy d₁ H K:=by subst hd;rfl
@[congr] theorem qg8{K:D->ab->Prop}(hdst:dst=dst₁)(hd:d=d₁)(hes2:es2=es2₁):Yn dst el n b d es2 H K=Yn dst₁ el n b d₁ es2₁ H K:=by subst hdst;subst hd;subst hes2;rfl
@[congr] theorem qg5{r:Nat}{q:Option Res}{K:D->ab->Prop}{q₁:Option Res}(hes2:es2=es2₁)(hq:q=q₁):Vh el n b r x es2 q H K=Vh el n b r x es2₁ q₁ H K:=by subst hes2;subst hq;rfl
@[congr] theorem qg4{r:Nat}{K:D->ab->Prop}(hd:d=d₁)(hes2:es2=es2₁):Ym r el n b d es2 H K=Ym r el n b d₁ es2₁ H K:=by subst hd;subst hes2;rfl
@[congr] theorem qcf{r:Nat}{y:D}{K:D->ab->Prop}(hd:d=d₁)(hy:y=y₁):Lf r sz d y H K=Lf r sz d₁ y₁ H K:=by subst hd;subst hy;rfl
@[congr] theorem qg6{K:D->ab->Prop}(hdst:dst=dst₁)(hd:d=d₁)(hes2:es2=es2₁):Vi dst el n bytes d es2 H K=Vi dst₁ el n bytes d₁ es2₁ H K:=by subst hdst;subst hd;subst hes2;rfl
@[congr] theorem qef{f:D}{d:Nat}{K:D->ab->Prop}(hf:f=f₁)(hargs:args=args₁):Az S f d args H K=Az S f₁ d args₁ H K:=by subst hf;subst hargs;rfl
@[congr] theorem qci{K:List D->Prop}(h:d=d'):gH n d H K=gH n d' H K:=by subst h;rfl
@[congr] theorem qe8{K:List D->Prop}(h:d=d'):pN n d H K=pN n d' H K:=by subst h;rfl
@[congr] theorem qbP{s s':Spc}{d:Nat}{ds':List D}{K:D->ab->Prop}(h:s=s')(h':ds=ds'):s.pt d ds H K=s'.pt d ds' H K:=by subst h;subst h';rfl
@[congr] theorem qd4{lo hi lo' hi':Option (Option (IntKind×Int))}{K:Nat->Nat->Prop}(h1:lo=lo')(h2:hi=hi')(h3:n=n'):mK lo hi n K=mK lo' hi' n' K:=by subst h1;subst h2;subst h3;rfl
end Go.Gv
