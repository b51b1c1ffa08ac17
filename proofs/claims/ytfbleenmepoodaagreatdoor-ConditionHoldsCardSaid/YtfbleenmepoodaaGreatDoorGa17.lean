/- A part of the framework and of the walks: T10. -/
import Derived.Test.YtfbleenmepoodaaGreatDoorGa16
set_option linter.unusedSimpArgs false
set_option linter.unusedVariables false
set_option linter.unusedSectionVars false
set_option linter.defProp false
namespace Go.Gv
open Cod (enc dec)
variable {b b' bytes el el' f g hi i id j len lo n n' n'' o off sz t:Nat}{H:aa}{K:D->Prop}{dst dst₁ rt:Option Nat}{v x x':Value}{L d d' d₁ e e₁ f₁ i₁ y₁ z₁:D}{k k' kd:IntKind}{σ:Sg}{args args₁ caps cells cs ds es es2 es2₁ src src₁:List D}{agg mx neg:Bool}{r r₁:Option Res}{c y:Operand}{a h l:Int}{s:ByteArray}{z:List Value}{no yes:Sg->Prop}{A B p:Prop}{op:BinOp}{ks:List K7}{S:Nat->Spc}{ps xs:List Operand}{s₁:Spc}
section
variable {S:Nat->Spc}{K:Ex->Sg->aa->Prop}{σ:Sg}{H:aa}
def LE(S:Nat->Spc)(b:CC)(K:Ex->Sg->aa->Prop):Ex->Sg->aa->Prop:=λe σ H=>match e with
 | .norm=>vc S b K σ H
 | e=>K e σ H
def Pq(id:Nat)(K:Ex->Sg->aa->Prop):Ex->Sg->aa->Prop:=λe σ H=>match e with
 | .ex i=>if i=id then K .norm σ H else K (.ex i) σ H
 | e=>K e σ H
def OQ(inv:YD)(x:inv.X)(K:Ex->Sg->aa->Prop):Ex->Sg->aa->Prop:=λe σ' H'=>match e with
 | .norm=>∃y,inv.P y/\Wk σ' H' (inv.s y) (inv.h y)/\inv.m y < inv.m x
 | e=>K e σ' H'
def JW(d:D)(A B:Prop):Prop:=match d with
 | .v (.bool t)=>(t=true->A)/\(t=false->B)
 | _=>False
@[simp ↓] theorem XM:vc S .skip K σ H=K .norm σ H:=_root_.id rfl
@[simp ↓] theorem We(l:List CI):vc S (.reg l) K σ H=xH S l σ H (K .norm):=_root_.id rfl
@[simp ↓] theorem qgz(p l:List CI):vc S (.regd p l) K σ H=gh S p σ (aU p H) H λσ H=>xH S l σ H (K .norm):=_root_.id rfl
@[simp ↓] theorem Kp(a b:CC):vc S (.seq a b) K σ H=vc S a (LE S b K) σ H:=_root_.id rfl
@[simp ↓] theorem Dy(b:CC):LE S b K .norm σ H=vc S b K σ H:=_root_.id rfl
@[simp ↓] theorem R7(b:CC)(i:Nat):LE S b K (.ex i) σ H=K (.ex i) σ H:=_root_.id rfl
@[simp ↓] theorem XN(b:CC):LE S b K .ret σ H=K .ret σ H:=_root_.id rfl
@[simp ↓] theorem qbA(c:Operand)(a b:CC):vc S (.ite c a b) K σ H=JW (ev σ c) (vc S a K σ H) (vc S b K σ H):=_root_.id rfl
@[simp] theorem XQ(t:Bool)(A B:Prop):JW (.v (.bool t)) A B=((t=true->A)/\(t=false->B)):=_root_.id rfl
@[simp high] theorem qgB:JW (.v (.bool true)) A B=A:=by simp[JW]
@[simp high] theorem qgC:JW (.v (.bool false)) A B=B:=by simp[JW]
@[simp ↓] theorem HK(id:Nat)(b:CC):vc S (.block id b) K σ H=vc S b (Pq id K) σ H:=_root_.id rfl
@[simp ↓] theorem XT(id:Nat):Pq id K .norm σ H=K .norm σ H:=_root_.id rfl
@[simp ↓] theorem Sa(id:Nat):Pq id K .ret σ H=K .ret σ H:=_root_.id rfl
@[simp ↓] theorem Mp(id i:Nat):Pq id K (.ex i) σ H=if i=id then K .norm σ H else K (.ex i) σ H:=_root_.id rfl
@[simp ↓] theorem XR(i:Nat):vc S (.exit i) K σ H=K (.ex i) σ H:=_root_.id rfl
@[simp ↓] theorem qim:vc S .ret K σ H=K .ret σ H:=_root_.id rfl
@[simp ↓] theorem qgA(ls lh:List Nat)(c:CC):vc S (.keep ls lh c) K σ H=vc S c K (gC ls σ) (hL lh H):=_root_.id rfl
def HJ(k:Nat)(b:CC):vc S (.loop k b) K σ H=∃inv:YD,(∃x,inv.P x/\Wk σ H (inv.s x) (inv.h x))/\∀x,inv.P x->vc S b (OQ inv x K) (inv.s x) (inv.h x):=_root_.id rfl
def R9(k:Nat)(c:CC):vc S (.cut k c) K σ H=∃ (σ':Sg) (H':aa),Wk σ H σ' H'/\vc S c K σ' H':=_root_.id rfl
@[simp ↓] theorem XP(inv:YD)(x:inv.X):OQ inv x K .norm σ H=∃y,inv.P y/\Wk σ H (inv.s y) (inv.h y)/\inv.m y < inv.m x:=_root_.id rfl
@[simp ↓] theorem XO(inv:YD)(x:inv.X):OQ inv x K .ret σ H=K .ret σ H:=_root_.id rfl
@[simp ↓] theorem R8(inv:YD)(x:inv.X)(i:Nat):OQ inv x K (.ex i) σ H=K (.ex i) σ H:=_root_.id rfl
end
def jB(s:Nat)(b:Bool)(σ:Sg)(d:D)(yes no:Sg->Prop):Prop:=match d with
 | .v (.bool t)=>(t=b->yes (upd σ s (.v (.bool b))))/\(t=(!b)->no (upd σ s (.v (.bool (!b)))))
 | .undef=>no σ
 | _=>False
@[simp high] theorem qjn(s:Nat):jB s true σ (.v (.bool true)) yes no=yes (upd σ s (.v (.bool true))):=by simp[jB]
@[simp high] theorem qjo(s:Nat):jB s true σ (.v (.bool false)) yes no=no (upd σ s (.v (.bool false))):=by simp[jB]
@[simp high] theorem qjp(s:Nat):jB s false σ (.v (.bool true)) yes no=no (upd σ s (.v (.bool true))):=by simp[jB]
@[simp high] theorem qjq(s:Nat):jB s false σ (.v (.bool false)) yes no=yes (upd σ s (.v (.bool false))):=by simp[jB]
@[simp] theorem qjm(s:Nat)(b:Bool):jB s b σ .undef yes no=no σ:=_root_.id rfl
@[simp] theorem qjx(s:Nat)(b t:Bool):jB s b σ (.v (.bool t)) yes no=((t=b->yes (upd σ s (.v (.bool b))))/\(t=(!b)->no (upd σ s (.v (.bool (!b)))))):=_root_.id rfl
section
variable {S:Nat->Spc}{σ:Sg}{H Hr:aa}
@[simp ↓] theorem V9(K:Sg->aa->Prop):xH S [] σ H K=K σ H:=_root_.id rfl
@[simp ↓] theorem Xo(K:Sg->aa->Prop)(d:Option Nat)(c:COp)(r:List CI):xH S (.op d none c::r) σ H K=aA S c d σ H λx H'=>xH S r (du σ d x) H' K:=_root_.id rfl
@[simp ↓] theorem qh3(K:Sg->aa->Prop)(d:Option Nat)(s:Nat)(b:Bool)(c:COp)(r:List CI):xH S (.op d (some (s,b)) c::r) σ H K=jB s b σ (σ s) (λσ=>aA S c d σ H λx H'=>xH S r (du σ d x) H' K) (λσ=>xH S r (du σ d .undef) H K):=_root_.id rfl
@[simp ↓] theorem qhU(K:Sg->aa->Prop):gh S [] σ Hr H K=K σ H:=_root_.id rfl
@[simp ↓] theorem qhV(K:Sg->aa->Prop)(a:Nat)(r:List CI):gh S (.frz a b::r) σ Hr H K=gh S r σ (aU r Hr) H K:=_root_.id rfl
@[simp ↓] theorem qiR(K:Sg->aa->Prop)(d:Option Nat)(c:COp)(r:List CI):gh S (.op d none c::r) σ Hr H K=au S c d σ Hr H λx H'=>gh S r (du σ d x) Hr H' K:=_root_.id rfl
@[simp ↓] theorem qhT(K:Sg->aa->Prop)(d:Option Nat)(s:Nat)(b:Bool)(c:COp)(r:List CI):gh S (.op d (some (s,b)) c::r) σ Hr H K=jB s b σ (σ s) (λσ=>au S c d σ Hr H λx H'=>gh S r (du σ d x) Hr H' K) (λσ=>gh S r (du σ d .undef) Hr H K):=_root_.id rfl
end
def AN(d:D)(A B:Prop):Prop:=match d with
 | .v (.bool t)=>(t=true->A)/\(t=false->B)
 | _=>False
@[simp high] theorem qdb:AN (.v (.bool true)) A B=A:=by simp[AN]
@[simp high] theorem qdc:AN (.v (.bool false)) A B=B:=by simp[AN]
def JS(agg:Bool)(sz b off:Nat)(r:Option Res)(K:D->Prop):Prop:=match r with
 | some (.box b' cells)=>b'=b/\off+sz<=cells.length/\K (Bq agg sz cells off)
 | _=>False
def JR(agg:Bool)(sz:Nat)(x:Value)(n i off:Nat)(r:Option Res)(K:D->Prop):Prop:=match r with
 | some (.row x' _ n' es)=>x'=x/\n'=n/\off+sz<=n/\i < es.length/\∀d,es[i]? =some d->K (Bq agg sz d.cells off)
 | _=>False
def AP(agg:Bool)(sz:Nat)(d:D)(H:aa)(K:D->Prop):Prop:=match d with
 | .cptr cs off=>off+sz<=cs.length/\K (Bq agg sz cs off)
 | .bptr id b off=>JS agg sz b off (H id) K
 | .eptr id x n i off=>JR agg sz x n i off (H id) K
 | _=>False
@[simp] theorem qdr:AP agg sz (.cptr cs off) H K=(off+sz<=cs.length/\K (Bq agg sz cs off)):=_root_.id rfl
@[simp] theorem qds:AP agg sz (.bptr i b off) H K=JS agg sz b off (H i) K:=_root_.id rfl
@[simp] theorem qdq(k:Nat):AP agg sz (.eptr i x n k off) H K=JR agg sz x n k off (H i) K:=_root_.id rfl
@[simp] theorem qdu:JS agg sz b off (some (.box b' cells)) K=(b'=b/\off+sz<=cells.length/\K (Bq agg sz cells off)):=_root_.id rfl
@[simp] theorem qdt:JR agg sz x n i off (some (.row x' el n' es)) K=(x'=x/\n'=n/\off+sz<=n/\i < es.length/\∀d,es[i]? =some d->K (Bq agg sz d.cells off)):=_root_.id rfl
def OP(d:D)(K:D->Prop):Prop:=match d with
 | .cptr cs off=>K (.cptr cs off)
 | .bptr id b off=>K (.bptr id b off)
 | .eptr id x n i off=>K (.eptr id x n i off)
 | .tape L=>K (.tape L)
 | .clo f caps=>K (.clo f caps)
 | _=>False
@[simp] theorem qfK:OP (.cptr cs off) K=K (.cptr cs off):=_root_.id rfl
@[simp] theorem qfL:OP (.bptr i b off) K=K (.bptr i b off):=_root_.id rfl
def DQ(op:BinOp)(d e:D)(K:D->Prop):Prop:=match d,e with
 | .v (.int k a), .v (.int k' b)=>OX op k k'/\ez op k a b K
 | _,_=>False
@[simp] theorem SE(op:BinOp)(k k':IntKind)(a b:Int)(K:D->Prop):DQ op (.v (.int k a)) (.v (.int k' b)) K=(OX op k k'/\ez op k a b K):=_root_.id rfl
@[simp] theorem UD(k k':IntKind):OX .add k k'=(k=k'):=_root_.id rfl
@[simp] theorem qdD:OX .sub k k'=(k=k'):=_root_.id rfl
@[simp] theorem qdI:OX .mul k k'=(k=k'):=_root_.id rfl
@[simp] theorem qdH:OX .quo k k'=(k=k'):=_root_.id rfl
@[simp] theorem qdG:OX .rem k k'=(k=k'):=_root_.id rfl
@[simp] theorem qdJ:OX .and k k'=(k=k'):=_root_.id rfl
@[simp] theorem qf5:OX .or k k'=(k=k'):=_root_.id rfl
@[simp] theorem qdF:OX .shl k k'=True:=_root_.id rfl
@[simp] theorem qdE:OX .shr k k'=True:=_root_.id rfl
@[simp ↓] theorem Pt(k:IntKind)(a b:Int)(K:D->Prop):ez .add k a b K=(InR k (a+b)/\K (.v (.int k (a+b)))):=_root_.id rfl
@[simp ↓] theorem Zl(b:Int):ez .sub k a b K=(InR k (a -b)/\K (.v (.int k (a -b)))):=_root_.id rfl
@[simp ↓] theorem Zq(b:Int):ez .mul k a b K=(InR k (a*b)/\K (.v (.int k (a*b)))):=_root_.id rfl
@[simp ↓] theorem Zp(b:Int):ez .quo k a b K=(b≠0/\InR k (a.tdiv b)/\K (.v (.int k (a.tdiv b)))):=_root_.id rfl
@[simp ↓] theorem Zo(b:Int):ez .rem k a b K=(b≠0/\K (.v (.int k (a.tmod b)))):=_root_.id rfl
@[simp ↓] theorem Zr(b:Int):ez .and k a b K=K (.v (.int k (KX k a b))):=_root_.id rfl
@[simp ↓] theorem qb8(b:Int):ez .or k a b K=K (.v (.int k (Y1 k a b))):=_root_.id rfl
@[simp ↓] theorem Zn(b:Int):ez .shl k a b K=(0<=b/\K (.v (.int k (Gr k a b)))):=_root_.id rfl
@[simp ↓] theorem Zm(b:Int):ez .shr k a b K=(0<=b/\K (.v (.int k (Oo k a b)))):=_root_.id rfl
def Ua(d:D)(K:D->Prop):Prop:=match d with
 | .v (.int _ n)=>K (.v (.string (Utf8.encode n)))
 | _=>False
@[simp] theorem qfr(n:Int):Ua (.v (.int k n)) K=K (.v (.string (Utf8.encode n))):=_root_.id rfl
def Mr(o:Option Bool)(K:D->Prop):Prop:=match o with|some t=>K (.v (.bool t))|none=>False
@[simp] theorem Yd(t:Bool)(K:D->Prop):Mr (some t) K=K (.v (.bool t)):=_root_.id rfl
def Pm(op:BinOp)(d e:D)(K:D->Prop):Prop:=match d,e with
 | .v (.int k a), .v (.int k' b)=>k=k'/\Mr (HQ op a b) K
 | .v (.string a), .v (.string b)=>Mr (KC op a b) K
 | _,_=>False
@[simp] theorem Yc(op:BinOp)(k k':IntKind)(a b:Int)(K:D->Prop):Pm op (.v (.int k a)) (.v (.int k' b)) K=(k=k'/\Mr (HQ op a b) K):=_root_.id rfl
@[simp] theorem qgM(a b:ByteArray):Pm op (.v (.string a)) (.v (.string b)) K=Mr (KC op a b) K:=_root_.id rfl
@[simp] theorem So(a b:Int):HQ .lss a b=some (decide (a < b)):=_root_.id rfl
@[simp] theorem qbP(b:Int):HQ .leq a b=some (decide (a<=b)):=_root_.id rfl
@[simp] theorem qbQ(b:Int):HQ .gtr a b=some (decide (b < a)):=_root_.id rfl
@[simp] theorem qbR(b:Int):HQ .geq a b=some (decide (b<=a)):=_root_.id rfl
@[simp] theorem qbM(a b:ByteArray):KC .lss a b=some (Op.bytesLess a.toList b.toList):=_root_.id rfl
@[simp] theorem qbN(a b:ByteArray):KC .gtr a b=some (!(Op.bytesLess a.toList b.toList||a.toList==b.toList)):=_root_.id rfl
@[simp] theorem qbO(a b:ByteArray):KC .geq a b=some (!Op.bytesLess a.toList b.toList):=_root_.id rfl
def Pf(neg:Bool)(o:Option Bool)(K:D->Prop):Prop:=match o with
 | some p=>K (.v (.bool (if neg then !p else p)))
 | none=>False
@[simp] theorem qgs(p:Bool):Pf false (some p) K=K (.v (.bool p)):=_root_.id rfl
@[simp] theorem qgr(p:Bool):Pf true (some p) K=K (.v (.bool (!p))):=_root_.id rfl
@[simp] theorem qii(k:K7)(a b:D):R1 false [k] a b=Mn k a b:=_root_.id rfl
@[simp] theorem qih(a b:List D):R1 true ks (.agg a) (.agg b)=Mk ks a b:=_root_.id rfl
@[simp] theorem qig:Mk [] [] []=some true:=_root_.id rfl
@[simp] theorem qif(k:K7)(a b:D)(as bs:List D):Mk (k::ks) (a::as) (b::bs)=(Mn k a b).bind λp=>(Mk ks as bs).bind λq=>some (p && q):=_root_.id rfl
@[simp] theorem qik(b:Int):Mn .int (.v (.int k a)) (.v (.int k' b))=if k=k' then some (decide (a=b))else none:=_root_.id rfl
@[simp] theorem qij(a b:ByteArray):Mn .str (.v (.string a)) (.v (.string b))=some (decide (a=b)):=_root_.id rfl
@[simp] theorem qil(a b:Bool):Mn .bool (.v (.bool a)) (.v (.bool b))=some (decide (a=b)):=_root_.id rfl
def Us(d:D)(K:D->Prop):Prop:=match d with
 | .v (.bool b)=>K (.v (.bool (!b)))
 | _=>False
@[simp] theorem qfG(b:Bool):Us (.v (.bool b)) K=K (.v (.bool (!b))):=_root_.id rfl
def NK(k:IntKind)(d:D)(K:D->Prop):Prop:=match d with
 | .v (.int _ n)=>K (.v (.int k (k.wrap n)))
 | _=>False
@[simp] theorem qel(n:Int):NK k (.v (.int k' n)) K=K (.v (.int k (k.wrap n))):=_root_.id rfl
def LC(n id:Nat)(x:Value)(lo hi:Option (Option (IntKind×Int)))(r:Option Res)(K:D->Prop):Prop:=match r with
 | some (.row x' _ n' es)=>x'=x/\n'=n/\lK lo hi es.length λl h=>K (.sub id x n l h)
 | _=>False
@[simp] theorem Z0(lo hi:Option (Option (IntKind×Int))):LC n i x lo hi (some (.row x' el n' es)) K=(x'=x/\n'=n/\lK lo hi es.length λl h=>K (.sub i x n l h)):=_root_.id rfl
@[simp] theorem qgI(K:Nat->Nat->Prop):lK (some (some (k,l))) none len K=(0<=l/\l<=len/\K l.toNat len):=_root_.id rfl
def Cz(n:Nat)(d:D)(lo hi:Option (Option (IntKind×Int)))(H:aa)(K:D->Prop):Prop:=match d with
 | .list n' es=>n'=n/\(match lo,hi with
   | none,none=>K (.list n es)
   | some (some (_,l)),none=>0<=l/\l<=es.length/\K (.list n (es.drop l.toNat))
   | none,some (some (_,h))=>0<=h/\h<=es.length/\K (.list n (es.take h.toNat))
   | some (some (_,l)),some (some (_,h))=>0<=l/\l<=h/\h<=es.length/\K (.list n ((es.take h.toNat).drop l.toNat))
   | _,_=>False)
 | .own id x=>LC n id x lo hi (H id) K
 | .sub id x n' a b=>n'=n/\lK lo hi (b -a) λl h=>K (.sub id x n (a+l) (a+h))
 | .v (.slice none 0 0)=>lK lo hi 0 λ_ _=>K (.v (.slice none 0 0))
 | _=>False
@[simp] theorem ZZ(lo hi:Option (Option (IntKind×Int))):Cz n (.own i x) lo hi H K=LC n i x lo hi (H i) K:=_root_.id rfl
@[simp] theorem YW:Cz n (.list n' es) (some (some (k,l))) none H K=(n'=n/\0<=l/\l<=es.length/\K (.list n (es.drop l.toNat))):=_root_.id rfl
@[simp] theorem YV:Cz n (.list n' es) none (some (some (k,l))) H K=(n'=n/\0<=l/\l<=es.length/\K (.list n (es.take l.toNat))):=_root_.id rfl
def BR(d:D)(lo hi:Option (Option (IntKind×Int)))(K:D->Prop):Prop:=match d with
 | .v (.string s)=>(match lo,hi with
   | none,none=>K (.v (.string (s.extract 0 s.size)))
   | some (some (_,l)),none=>0<=l/\l<=s.size/\K (.v (.string (s.extract l.toNat s.size)))
   | none,some (some (_,h))=>0<=h/\h<=s.size/\K (.v (.string (s.extract 0 h.toNat)))
   | some (some (_,l)),some (some (_,h))=>0<=l/\l<=h/\h<=s.size/\K (.v (.string (s.extract l.toNat h.toNat)))
   | _,_=>False)
 | _=>False
@[simp] theorem WG:BR (.v (.string s)) (some (some (k,l))) none K=(0<=l/\l<=s.size/\K (.v (.string (s.extract l.toNat s.size)))):=_root_.id rfl
@[simp] theorem WH:BR (.v (.string s)) (some (some (k,l))) (some (some (k',h))) K=(0<=l/\l<=h/\h<=s.size/\K (.v (.string (s.extract l.toNat h.toNat)))):=_root_.id rfl
def wE(off:Nat)(d:D)(K:D->Prop):Prop:=match d with
 | .cptr cs o=>K (.cptr cs (o+off))
 | .bptr id b o=>K (.bptr id b (o+off))
 | .eptr id x n i o=>K (.eptr id x n i (o+off))
 | _=>False
@[simp] theorem qbs:wE off (.cptr cs o) K=K (.cptr cs (o+off)):=_root_.id rfl
@[simp] theorem qbt:wE off (.bptr i b o) K=K (.bptr i b (o+off)):=_root_.id rfl
@[simp] theorem qbr(k:Nat):wE off (.eptr i x n k o) K=K (.eptr i x n k (o+off)):=_root_.id rfl
def Dm(n:Nat)(k:Int)(id:Nat)(x:Value)(r:Option Res)(K:D->Prop):Prop:=match r with
 | some (.row x' _ n' es)=>x'=x/\n'=n/\0<=k/\k < es.length/\K (.eptr id x n k.toNat 0)
 | _=>False
def wC(n:Nat)(i d:D)(H:aa)(K:D->Prop):Prop:=match i with
 | .v (.int _ k)=>match d with
   | .list n' es=>n'=n/\0<=k/\k < es.length/\∀d,es[k.toNat]? =some d->K (.cptr d.cells 0)
   | .own id x=>Dm n k id x (H id) K
   | .sub id x n' lo hi=>n'=n/\0<=k/\k < (hi -lo:Nat)/\K (.eptr id x n (lo+k.toNat) 0)
   | _=>False
 | _=>False
@[simp] theorem qa5(k:Int):wC n (.v (.int kd k)) (.sub i x n' lo hi) H K=(n'=n/\0<=k/\k < (hi -lo:Nat)/\K (.eptr i x n (lo+k.toNat) 0)):=_root_.id rfl
@[simp] theorem qa7(k:Int):wC n (.v (.int kd k)) (.list n' es) H K=(n'=n/\0<=k/\k < es.length/\∀d,es[k.toNat]? =some d->K (.cptr d.cells 0)):=_root_.id rfl
@[simp] theorem qa6(k:Int):wC n (.v (.int kd k)) (.own i x) H K=Dm n k i x (H i) K:=_root_.id rfl
@[simp] theorem qa8(k:Int):Dm n k i x (some (.row x' el n' es)) K=(x'=x/\n'=n/\0<=k/\k < es.length/\K (.eptr i x n k.toNat 0)):=_root_.id rfl
def MS(i d:D)(K:D->Prop):Prop:=match i with
 | .v (.int _ k)=>match d with
   | .v (.string s)=>0<=k/\k < s.size/\∀c,s.data[k.toNat]? =some c->K (.v (.int .u8 c.toNat))
   | _=>False
 | _=>False
@[simp] theorem qcR(k:Int):MS (.v (.int kd k)) (.v (.string s)) K=(0<=k/\k < s.size/\∀c,s.data[k.toNat]? =some c->K (.v (.int .u8 c.toNat))):=_root_.id rfl
def RW(o:Option D)(K:D->Prop):Prop:=match o with
 | some d=>K d
 | none=>False
def RV(d:D)(i:Nat)(K:D->Prop):Prop:=match d with
 | .tup ds=>RW ds[i]? K
 | _=>False
@[simp] theorem qgm:RV (.tup ds) i K=RW ds[i]? K:=_root_.id rfl
@[simp] theorem qgn:RW (some d) K=K d:=_root_.id rfl
def Ro(x:Value)(r:Option Res)(K:D->Prop):Prop:=match r with
 | some (.row x' _ _ es)=>x'=x/\((es.length:Int)<=9223372036854775807->K (.v (.int .i64 es.length)))
 | _=>False
def LY(d:D)(H:aa)(K:D->Prop):Prop:=match d with
 | .list _ es=>(es.length:Int)<=9223372036854775807->K (.v (.int .i64 es.length))
 | .own id x=>Ro x (H id) K
 | .v (.slice _ n _)=>K (.v (.int .i64 n))
 | .sub _ _ _ lo hi=>((hi -lo:Nat):Int)<=9223372036854775807->K (.v (.int .i64 (hi -lo:Nat)))
 | _=>False
@[simp] theorem qfW:LY (.list n es) H K=((es.length:Int)<=9223372036854775807->K (.v (.int .i64 es.length))):=_root_.id rfl
@[simp] theorem qfV:LY (.own i x) H K=Ro x (H i) K:=_root_.id rfl
@[simp] theorem qdx(a:Option Addr)(c:Nat):LY (.v (.slice a n c)) H K=K (.v (.int .i64 n)):=_root_.id rfl
@[simp] theorem qfX:Ro x (some (.row x' el n es)) K=(x'=x/\((es.length:Int)<=9223372036854775807->K (.v (.int .i64 es.length)))):=_root_.id rfl
def Sw(x:Value)(r:Option Res)(K:D->Prop):Prop:=match r with
 | some (.row x' _ n es)=>x'=x/\n=1/\Wg es=true/\K (.v (.string (Yh es)))
 | _=>False
@[simp] theorem qg8:Sw x (some (.row x' el n es)) K=(x'=x/\n=1/\Wg es=true/\K (.v (.string (Yh es)))):=_root_.id rfl
def Vl(d:D)(H:aa)(K:D->Prop):Prop:=match d with
 | .own i x=>Sw x (H i) K
 | .v (.slice none 0 0)=>K (.v (.string ⟨#[]⟩))
 | _=>False
@[simp] theorem qg7:Vl (.own i x) H K=Sw x (H i) K:=_root_.id rfl
def Je(d:D)(K:D->Prop):Prop:=match d with
 | .v (.string s)=>(s.size:Int)<=9223372036854775807->K (.v (.int .i64 s.size))
 | _=>False
@[simp] theorem qcQ:Je (.v (.string s)) K=((s.size:Int)<=9223372036854775807->K (.v (.int .i64 s.size))):=_root_.id rfl
def Re(mx:Bool)(d e:D)(K:D->Prop):Prop:=match d,e with
 | .v (.int k a), .v (.int k' b)=>k=k'/\K (.v (.int k (if mx then max a b else min a b)))
 | _,_=>False
@[simp] theorem qfP(b:Int):Re mx (.v (.int k a)) (.v (.int k' b)) K=(k=k'/\K (.v (.int k (if mx then max a b else min a b)))):=_root_.id rfl
@[simp ↓] theorem Zk(K:List D->Prop):gg σ [] cs K=K cs:=_root_.id rfl
@[simp ↓] theorem Yi(x:Operand)(r:List (Nat×Nat×Operand))(K:List D->Prop):gg σ ((off,sz,x)::r) cs K=((ev σ x).kn=true/\(ev σ x).cells.length=sz/\gg σ r (setAt cs off (ev σ x).cells) K):=_root_.id rfl
@[simp] theorem Y0:fW n []=True:=_root_.id rfl
@[simp] theorem Xa(r:List D):fW n (d::r)=(d.kn=true/\d.cells.length=n/\fW n r):=_root_.id rfl
def Ok(n lo hi:Nat)(x:Value)(r:Option Res)(K:List D->Prop):Prop:=match r with
 | some (.row x' _ n'' es)=>x'=x/\n''=n/\K ((es.take hi).drop lo)
 | _=>False
@[simp] theorem qfd(K:List D->Prop):Ok n lo hi x (some (.row x' el n' es)) K=(x'=x/\n'=n/\K ((es.take hi).drop lo)):=_root_.id rfl
@[simp] theorem qhF(K:List D->Prop):gi n (.sub i x n' lo hi) H K=(n'=n/\Ok n lo hi x (H i) K):=by
 simp only[gi];cases H i with
 | none=>simp[Ok]
 | some r=>cases r <;> simp[Ok,and_left_comm]
@[simp] theorem qfe(K:List D->Prop):ov n (.list n' es) H K=(n'=n/\K es):=_root_.id rfl
@[simp] theorem qff(K:List D->Prop):ov n (.v (.string s)) H K=(n=1/\K (xR s)):=_root_.id rfl
def qfQ(t el n bytes:Nat)(agg:Bool)(z:List Value)(l c:Option (IntKind×Int))(H:aa)(K:D->aa->Prop):Prop:=match l,c with
 | some (_,l),some (_,c)=>0<=l/\l<=c/\bytes*c<=140737488355328/\c<=140737488355328/\∀x,K (.own t x) (aj H t (some (.row x el n (List.replicate l.toNat (if agg then .agg (z.map lL)else lL (z.headD (.bool false)))))))
 | _,_=>False
@[simp] theorem qh2(c:Int)(K:D->aa->Prop):qfQ t el n bytes agg z (some (k,l)) (some (k',c)) H K=(0<=l/\l<=c/\bytes*c<=140737488355328/\c<=140737488355328/\∀x,K (.own t x) (aj H t (some (.row x el n (List.replicate l.toNat (if agg then .agg (z.map lL)else lL (z.headD (.bool false)))))))):=_root_.id rfl
def vX(sz id b off:Nat)(y:D)(r:Option Res)(H:aa)(K:D->aa->Prop):Prop:=match r with
 | some (.box b' cells)=>b'=b/\off+sz<=cells.length/\K .undef (aj H id (some (.box b' (setAt cells off y.cells))))
 | _=>False
def vW(sz id:Nat)(x:Value)(n i off:Nat)(y:D)(r:Option Res)(H:aa)(K:D->aa->Prop):Prop:=match r with
 | some (.row x' el n' es)=>x'=x/\n'=n/\0 < n/\off+sz<=n/\i < es.length/\∀d,es[i]? =some d->
    K .undef (aj H id (some (.row x' el n' (es.set i (if off=0/\sz=n then y else .agg (setAt d.cells off y.cells))))))
 | _=>False
def Cv(sz:Nat)(d y:D)(H:aa)(K:D->aa->Prop):Prop:=match d with
 | .bptr id b off=>vX sz id b off y (H id) H K
 | .eptr id x n i off=>vW sz id x n i off y (H id) H K
 | _=>False
@[simp] theorem ZQ(y:D)(K:D->aa->Prop):Cv sz (.bptr i b off) y H K=vX sz i b off y (H i) H K:=_root_.id rfl
@[simp] theorem ZP(k:Nat)(y:D)(K:D->aa->Prop):Cv sz (.eptr i x n k off) y H K=vW sz i x n k off y (H i) H K:=_root_.id rfl
@[simp] theorem ZS(y:D)(K:D->aa->Prop):vX sz i b off y (some (.box b' cells)) H K=(b'=b/\off+sz<=cells.length/\K .undef (aj H i (some (.box b' (setAt cells off y.cells))))):=_root_.id rfl
@[simp] theorem ZR(k:Nat)(y:D)(K:D->aa->Prop):vW sz i x n k off y (some (.row x' el n' es)) H K=(x'=x/\n'=n/\0 < n/\off+sz<=n/\k < es.length/\∀d,es[k]? =some d->
 K .undef (aj H i (some (.row x' el n' (es.set k (if off=0/\sz=n then y else .agg (setAt d.cells off y.cells))))))):=_root_.id rfl
def SI(el n bytes id:Nat)(x:Value)(es2:List D)(r:Option Res)(H:aa)(K:D->aa->Prop):Prop:=match r with
 | some (.row x' el' n' es)=>x'=x/\el'=el/\n'=n/\(es.length+es2.length) *bytes<=140737488355328/\es.length+es2.length<=140737488355328/\∀v,K (.own id v) (aj H id (some (.row v el n (es++es2))))
 | _=>False
def qhh(el n bytes id:Nat)(x:Value)(n' lo hi:Nat)(es2:List D)(r:Option Res)(H:aa)(K:D->aa->Prop):Prop:=match r with
 | some (.row x' el' n'' es)=>x'=x/\el'=el/\n'=n/\n''=n/\lo=0/\(hi+es2.length) *bytes<=140737488355328/\hi+es2.length<=140737488355328/\∀v,K (.own id v) (aj H id (some (.row v el n (es.take hi++es2))))
 | _=>False
def qgL(n id:Nat)(x:Value)(src:List D)(r:Option Res)(H:aa)(K:D->aa->Prop):Prop:=match r with
 | some (.row x' el n' es)=>x'=x/\n'=n/\K (.v (.int .i64 (min src.length es.length:Nat))) (aj H id (some (.row x' el n' (src.take es.length++es.drop src.length))))
 | _=>False
def Sm(n id:Nat)(x:Value)(n' lo hi:Nat)(src:List D)(r:Option Res)(H:aa)(K:D->aa->Prop):Prop:=match r with
 | some (.row x' el n'' es)=>x'=x/\n'=n/\n''=n/\K (.v (.int .i64 (min src.length (hi -lo):Nat))) (aj H id (some (.row x' el n'' (es.take lo++src.take (hi -lo) ++es.drop (lo+min src.length (hi -lo))))))
 | _=>False
def Vc(n:Nat)(d:D)(src:List D)(H:aa)(K:D->aa->Prop):Prop:=match d with
 | .own id x=>qgL n id x src (H id) H K
 | .sub id x n' lo hi=>Sm n id x n' lo hi src (H id) H K
 | _=>False
@[simp] theorem qgJ(K:D->aa->Prop):Vc n (.sub i x n' lo hi) src H K=Sm n i x n' lo hi src (H i) H K:=_root_.id rfl
@[simp] theorem qgK(K:D->aa->Prop):Sm n i x n' lo hi src (some (.row x' el n'' es)) H K=(x'=x/\n'=n/\n''=n/\K (.v (.int .i64 (min src.length (hi -lo):Nat))) (aj H i (some (.row x' el n'' (es.take lo++src.take (hi -lo) ++es.drop (lo+min src.length (hi -lo))))))):=_root_.id rfl
def TW(d:D)(K:D->Prop):Prop:=match d with
 | .v (.string s)=>K (.list 1 (s.data.toList.map λc=> .v (.int .u8 c.toNat)))
 | _=>False
@[simp] theorem qfn:TW (.v (.string s)) K=K (.list 1 (s.data.toList.map λc=> .v (.int .u8 c.toNat))):=_root_.id rfl
def Qa(t:Nat)(d:D)(H:aa)(K:D->aa->Prop):Prop:=match d with
 | .v (.string s)=>∀b,K (.bptr t b 0) (aj H t (some (.iter b s 0)))
 | _=>False
@[simp] theorem qfc(K:D->aa->Prop):Qa t (.v (.string s)) H K=∀b,K (.bptr t b 0) (aj H t (some (.iter b s 0))):=_root_.id rfl
def Qb(id b:Nat)(r:Option Res)(H:aa)(K:D->aa->Prop):Prop:=match r with
 | some (.iter b' s pos)=>b'=b/\(pos < s.size->K (.tup [.v (.bool true), .v (.int .i64 pos), .v (.int .i32 (Utf8.decode s pos).1)]) (aj H id (some (.iter b' s (pos+ (Utf8.decode s pos).2)))))/\(¬pos < s.size->K (.tup [.v (.bool false)]) H)
 | _=>False
@[simp] theorem qfh(pos:Nat)(K:D->aa->Prop):Qb id b (some (.iter b' s pos)) H K=(b'=b/\(pos < s.size->K (.tup [.v (.bool true), .v (.int .i64 pos), .v (.int .i32 (Utf8.decode s pos).1)]) (aj H id (some (.iter b' s (pos+ (Utf8.decode s pos).2)))))/\(¬pos < s.size->K (.tup [.v (.bool false)]) H)):=_root_.id rfl
def TS(d:D)(H:aa)(K:D->aa->Prop):Prop:=match d with
 | .bptr id b off=>off=0/\Qb id b (H id) H K
 | _=>False
@[simp] theorem qfg(K:D->aa->Prop):TS (.bptr i b off) H K=(off=0/\Qb i b (H i) H K):=_root_.id rfl
def Vp(dst:Option Nat)(el n b:Nat)(d:D)(es2:List D)(H:aa)(K:D->aa->Prop):Prop:=match dst,d with
 | some t, .v (.slice none 0 0)=>es2.length*b<=140737488355328/\es2.length<=140737488355328/\∀v,K (.own t v) (aj H t (some (.row v el n es2)))
 | _,_=>False
@[simp] theorem qhk(K:D->aa->Prop):Vp (some t) el n b (.v (.slice none 0 0)) es2 H K=(es2.length*b<=140737488355328/\es2.length<=140737488355328/\∀v,K (.own t v) (aj H t (some (.row v el n es2)))):=_root_.id rfl
def SF(el n b r:Nat)(x:Value)(es2:List D)(q:Option Res)(H:aa)(K:D->aa->Prop):Prop:=match q with
 | some (.row x' el' n' es)=>x'=x/\el'=el/\n'=n/\(es.length+es2.length) *b<=140737488355328/\es.length+es2.length<=140737488355328/\∀v,K (.own r v) (aj H r (some (.row v el n (es++es2))))
 | _=>False
@[simp] theorem qhe(r:Nat)(K:D->aa->Prop):SF el n b r x es2 (some (.row x' el' n' es)) H K=(x'=x/\el'=el/\n'=n/\(es.length+es2.length) *b<=140737488355328/\es.length+es2.length<=140737488355328/\∀v,K (.own r v) (aj H r (some (.row v el n (es++es2))))):=_root_.id rfl
def Vo(r el n b:Nat)(d:D)(es2:List D)(H:aa)(K:D->aa->Prop):Prop:=match d with
 | .own id x=>id=r/\SF el n b r x es2 (H r) H K
 | _=>False
@[simp] theorem qhd(r:Nat)(K:D->aa->Prop):Vo r el n b (.own i x) es2 H K=(i=r/\SF el n b r x es2 (H r) H K):=_root_.id rfl
def Ja(r sz:Nat)(d y:D)(H:aa)(K:D->aa->Prop):Prop:=match d with
 | .bptr id b off=>id=r/\vX sz r b off y (H r) H K
 | .eptr id x n i off=>id=r/\vW sz r x n i off y (H r) H K
 | _=>False
@[simp] theorem qcI(r:Nat)(y:D)(K:D->aa->Prop):Ja r sz (.bptr i b off) y H K=(i=r/\vX sz r b off y (H r) H K):=_root_.id rfl
@[simp] theorem qcH(r:Nat)(k:Nat)(y:D)(K:D->aa->Prop):Ja r sz (.eptr i x n k off) y H K=(i=r/\vW sz r x n k off y (H r) H K):=_root_.id rfl
def qhj(dst:Option Nat)(el n bytes:Nat)(es2:List D)(H:aa)(K:D->aa->Prop):Prop:=match dst with
 | some t=>es2.length*bytes<=140737488355328/\es2.length<=140737488355328/\∀v,K (.own t v) (aj H t (some (.row v el n es2)))
 | none=>False
def SG(dst:Option Nat)(el n bytes:Nat)(d:D)(es2:List D)(H:aa)(K:D->aa->Prop):Prop:=match d with
 | .own id x=>SI el n bytes id x es2 (H id) H K
 | .v (.slice none 0 0)=>qhj dst el n bytes es2 H K
 | .sub id x n' lo hi=>qhh el n bytes id x n' lo hi es2 (H id) H K
 | _=>False
@[simp] theorem qhf(K:D->aa->Prop):SG dst el n bytes (.own i x) es2 H K=SI el n bytes i x es2 (H i) H K:=_root_.id rfl
@[simp] theorem qhg(K:D->aa->Prop):SG (some t) el n bytes (.v (.slice none 0 0)) es2 H K=(es2.length*bytes<=140737488355328/\es2.length<=140737488355328/\∀v,K (.own t v) (aj H t (some (.row v el n es2)))):=_root_.id rfl
@[simp] theorem qhi(K:D->aa->Prop):SI el n bytes i x es2 (some (.row x' el' n' es)) H K=(x'=x/\el'=el/\n'=n/\(es.length+es2.length) *bytes<=140737488355328/\es.length+es2.length<=140737488355328/\∀v,K (.own i v) (aj H i (some (.row v el n (es++es2))))):=_root_.id rfl
def yM(S:Nat->Spc)(f:D)(d:Nat)(args:List D)(H:aa)(K:D->aa->Prop):Prop:=match f with
 | .clo g caps=>(S g).pt d (args++caps) H K
 | _=>False
@[simp] theorem qeq(d:Nat)(K:D->aa->Prop):yM S (.clo g caps) d args H K=(S g).pt d (args++caps) H K:=_root_.id rfl
@[congr] theorem qac{r:Nat}{s:Spc}{K:D->aa->Prop}(hs:s=s₁)(hargs:args=args₁):Fd r dst s args H K=Fd r dst s₁ args₁ H K:=by subst hs;subst hargs;rfl
@[congr] theorem qda{s:Spc}{K:D->aa->Prop}(hs:s=s₁)(hargs:args=args₁):LP dst s args H K=LP dst s₁ args₁ H K:=by subst hs;subst hargs;rfl
section
variable {S:Nat->Spc}{σ:Sg}{H Hr:aa}{K:D->aa->Prop}
@[simp ↓] theorem qgR(dst:Option Nat)(x:Operand):aA S (.mv x) dst σ H K=((λd=>K d H) (ev σ x)):=_root_.id rfl
@[simp ↓] theorem qiQ(x:Operand):au S (.mv x) dst σ Hr H K=((λd=>K d H) (ev σ x)):=_root_.id rfl
@[simp ↓] theorem qgQ(x:Operand):aA S (.pick c x y) dst σ H K=(AN (ev σ c) ((λd=>K d H) (ev σ x)) ((λd=>K d H) (ev σ y))):=_root_.id rfl
@[simp ↓] theorem qfz(x:Operand):au S (.pick c x y) dst σ Hr H K=(AN (ev σ c) ((λd=>K d H) (ev σ x)) ((λd=>K d H) (ev σ y))):=_root_.id rfl
@[simp ↓] theorem qey(ps:List (Nat×Nat×Operand)):aA S (.build z ps) dst σ H K=(gg σ ps (z.map lL) λcs=>(λd=>K d H) (.agg cs)):=_root_.id rfl
@[simp ↓] theorem qc6(ps:List (Nat×Nat×Operand)):au S (.build z ps) dst σ Hr H K=(gg σ ps (z.map lL) λcs=>(λd=>K d H) (.agg cs)):=_root_.id rfl
@[simp ↓] theorem qb0:aA S (.bslice el n ps) dst σ H K=(fW n (ps.map (ev σ))/\(λd=>K d H) (.list n (ps.map (ev σ)))):=_root_.id rfl
@[simp ↓] theorem qaa:au S (.bslice el n ps) dst σ Hr H K=(fW n (ps.map (ev σ))/\(λd=>K d H) (.list n (ps.map (ev σ)))):=_root_.id rfl
@[simp ↓] theorem qgS(x:Operand):aA S (.load agg sz x) dst σ H K=(AP agg sz (ev σ x) H (λd=>K d H)):=_root_.id rfl
@[simp ↓] theorem qfA(x:Operand):au S (.load agg sz x) dst σ Hr H K=(AP agg sz (ev σ x) Hr (λd=>K d H)):=_root_.id rfl
@[simp ↓] theorem qeu(x:Operand):aA S (.nilck x) dst σ H K=(OP (ev σ x) (λd=>K d H)):=_root_.id rfl
@[simp ↓] theorem qc2(x:Operand):au S (.nilck x) dst σ Hr H K=(OP (ev σ x) (λd=>K d H)):=_root_.id rfl
@[simp ↓] theorem Vh(dst:Option Nat)(op:BinOp)(x y:Operand):aA S (.arith op x y) dst σ H K=(DQ op (ev σ x) (ev σ y) (λd=>K d H)):=_root_.id rfl
@[simp ↓] theorem qc7(x:Operand):au S (.arith op x y) dst σ Hr H K=(DQ op (ev σ x) (ev σ y) (λd=>K d H)):=_root_.id rfl
@[simp ↓] theorem qbZ(dst:Option Nat)(op:BinOp)(x y:Operand):aA S (.cmp op x y) dst σ H K=(Pm op (ev σ x) (ev σ y) (λd=>K d H)):=_root_.id rfl
@[simp ↓] theorem qhQ(x:Operand):au S (.cmp op x y) dst σ Hr H K=(Pm op (ev σ x) (ev σ y) (λd=>K d H)):=_root_.id rfl
@[simp ↓] theorem qis(x:Operand):aA S (.eql neg agg ks x y) dst σ H K=(Pf neg (R1 agg ks (ev σ x) (ev σ y)) (λd=>K d H)):=_root_.id rfl
@[simp ↓] theorem qhP(x:Operand):au S (.eql neg agg ks x y) dst σ Hr H K=(Pf neg (R1 agg ks (ev σ x) (ev σ y)) (λd=>K d H)):=_root_.id rfl
@[simp ↓] theorem qio(x:Operand):aA S (.not x) dst σ H K=(Us (ev σ x) (λd=>K d H)):=_root_.id rfl
@[simp ↓] theorem qgU(x:Operand):aA S (.conv k x) dst σ H K=(NK k (ev σ x) (λd=>K d H)):=_root_.id rfl
@[simp ↓] theorem qit:aA S (.clo f xs) dst σ H K=((λd=>K d H) (.clo f (xs.map (ev σ)))):=_root_.id rfl
@[simp ↓] theorem qet(x:Operand)(lo hi:Option Operand):aA S (.slice n x lo hi) dst σ H K=(Cz n (ev σ x) (lo.map λo=>iB (ev σ o)) (hi.map λo=>iB (ev σ o)) H (λd=>K d H)):=_root_.id rfl
@[simp ↓] theorem qc1(x:Operand)(lo hi:Option Operand):au S (.slice n x lo hi) dst σ Hr H K=(Cz n (ev σ x) (lo.map λo=>iB (ev σ o)) (hi.map λo=>iB (ev σ o)) Hr (λd=>K d H)):=_root_.id rfl
@[simp ↓] theorem qbV(x:Operand)(lo hi:Option Operand):aA S (.sslice x lo hi) dst σ H K=(BR (ev σ x) (lo.map λo=>iB (ev σ o)) (hi.map λo=>iB (ev σ o)) (λd=>K d H)):=_root_.id rfl
@[simp ↓] theorem Z8(x:Operand)(lo hi:Option Operand):au S (.sslice x lo hi) dst σ Hr H K=(BR (ev σ x) (lo.map λo=>iB (ev σ o)) (hi.map λo=>iB (ev σ o)) (λd=>K d H)):=_root_.id rfl
@[simp ↓] theorem qew(x:Operand):aA S (.faddr off x) dst σ H K=(wE off (ev σ x) (λd=>K d H)):=_root_.id rfl
@[simp ↓] theorem qc4(x:Operand):au S (.faddr off x) dst σ Hr H K=(wE off (ev σ x) (λd=>K d H)):=_root_.id rfl
@[simp ↓] theorem qev(x i:Operand):aA S (.iaddr n x i) dst σ H K=(wC n (ev σ i) (ev σ x) H (λd=>K d H)):=_root_.id rfl
@[simp ↓] theorem qc3(x i:Operand):au S (.iaddr n x i) dst σ Hr H K=(wC n (ev σ i) (ev σ x) Hr (λd=>K d H)):=_root_.id rfl
@[simp ↓] theorem qgO(x i:Operand):aA S (.sidx x i) dst σ H K=(MS (ev σ i) (ev σ x) (λd=>K d H)):=_root_.id rfl
@[simp ↓] theorem qir(x:Operand):aA S (.ext x i) dst σ H K=(RV (ev σ x) i (λd=>K d H)):=_root_.id rfl
@[simp ↓] theorem qhO(x:Operand):au S (.ext x i) dst σ Hr H K=(RV (ev σ x) i (λd=>K d H)):=_root_.id rfl
@[simp ↓] theorem qiq(x:Operand):aA S (.len x) dst σ H K=(LY (ev σ x) H (λd=>K d H)):=_root_.id rfl
@[simp ↓] theorem qhN(x:Operand):au S (.len x) dst σ Hr H K=(LY (ev σ x) Hr (λd=>K d H)):=_root_.id rfl
@[simp ↓] theorem qgN(x:Operand):aA S (.slen x) dst σ H K=(Je (ev σ x) (λd=>K d H)):=_root_.id rfl
@[simp ↓] theorem qfy(x:Operand):au S (.slen x) dst σ Hr H K=(Je (ev σ x) (λd=>K d H)):=_root_.id rfl
@[simp ↓] theorem qgW(x:Operand):aA S (.bstr x) dst σ H K=(Vl (ev σ x) H (λd=>K d H)):=_root_.id rfl
@[simp ↓] theorem qgP(x:Operand):aA S (.rstr x) dst σ H K=(Ua (ev σ x) (λd=>K d H)):=_root_.id rfl
@[simp ↓] theorem qip(x:Operand):aA S (.mm mx [x,y]) dst σ H K=Re mx (ev σ x) (ev σ y) (λd=>K d H):=_root_.id rfl
@[simp ↓] theorem qgX(x:Operand):aA S (.box el true x) dst σ H K=((ev σ x).kn=true/\K (.cptr (ev σ x).cells 0) H):=_root_.id rfl
@[simp ↓] theorem qez:aA S (.alloc el z) (some t) σ H K=∀b,K (.bptr t b 0) (aj H t (some (.box b (z.map lL)))):=_root_.id rfl
@[simp ↓] theorem qiu(x:Operand):aA S (.box el false x) (some t) σ H K=((ev σ x).kn=true/\∀b,K (.bptr t b 0) (aj H t (some (.box b (ev σ x).cells)))):=_root_.id rfl
@[simp ↓] theorem qbY:aA S (.mslice el n ps) (some t) σ H K=(fW n (ps.map (ev σ))/\∀x,K (.own t x) (aj H t (some (.row x el n (ps.map (ev σ)))))):=_root_.id rfl
@[simp ↓] theorem Zj(l:Operand):aA S (.mkslice el n bytes agg z l c) (some t) σ H K=qfQ t el n bytes agg z (iB (ev σ l)) (iB (ev σ c)) H K:=_root_.id rfl
@[simp ↓] theorem qhM(x:Operand):au S (.mm mx [x,y]) dst σ Hr H K=Re mx (ev σ x) (ev σ y) (λd=>K d H):=_root_.id rfl
@[simp ↓] theorem qc8:au S (.alloc el z) (some t) σ Hr H K=∀b,K (.bptr t b 0) (aj H t (some (.box b (z.map lL)))):=_root_.id rfl
@[simp ↓] theorem Z9:au S (.nslice el n) (some t) σ Hr H K=∀x,K (.own t x) (aj H t (some (.row x el n []))):=_root_.id rfl
@[simp ↓] theorem YX(l:Operand):au S (.mkslice el n bytes agg z l c) (some t) σ Hr H K=qfQ t el n bytes agg z (iB (ev σ l)) (iB (ev σ c)) H K:=_root_.id rfl
@[simp ↓] theorem qbX(x:Operand):aA S (.sbytes x) dst σ H K=TW (ev σ x) (λd=>K d H):=_root_.id rfl
@[simp ↓] theorem qbW(x:Operand):aA S (.srange x) (some t) σ H K=Qa t (ev σ x) H K:=by
 simp only[aA,aP,Qa];split <;> simp_all
@[simp ↓] theorem qes(x:Operand):aA S (.snext x) dst σ H K=TS (ev σ x) H K:=_root_.id rfl
@[simp ↓] theorem qc0(r:Nat)(x:Operand):au S (.store (some r) sz x y) dst σ Hr H K=((ev σ y).kn=true/\(ev σ y).cells.length=sz/\Ja r sz (ev σ x) (ev σ y) H K):=by
 simp only[au];congr 2
@[simp ↓] theorem qer(x:Operand):aA S (.store rt sz x y) dst σ H K=((ev σ y).kn=true/\(ev σ y).cells.length=sz/\Cv sz (ev σ x) (ev σ y) H K):=_root_.id rfl
@[simp ↓] theorem qb1(x:Operand):aA S (.append rt el n bytes x y) dst σ H K=ov n (ev σ y) H λes2=>SG dst el n bytes (ev σ x) es2 H K:=_root_.id rfl
@[simp ↓] theorem YZ(x:Operand):au S (.append none el n bytes x y) dst σ Hr H K=ov n (ev σ y) Hr λes2=>Vp dst el n bytes (ev σ x) es2 H K:=by
 simp only[au];congr 1
@[simp ↓] theorem YY(r:Nat)(x:Operand):au S (.append (some r) el n bytes x y) dst σ Hr H K=ov n (ev σ y) Hr λes2=>Vo r el n bytes (ev σ x) es2 H K:=by
 simp only[au];congr 1
@[simp ↓] theorem qgT(x:Operand):aA S (.copy n x y) dst σ H K=gi n (ev σ y) H λsrc=>Vc n (ev σ x) src H K:=_root_.id rfl
@[simp ↓] theorem qgV(args:List Operand):aA S (.call f args) dst σ H K=(S f).pt (dst.getD 0) (args.map (ev σ)) H K:=_root_.id rfl
@[simp ↓] theorem qc5(r:Nat)(args:List Operand):au S (.callb r f args) dst σ Hr H K=Fd r dst (S f) (args.map (ev σ)) H K:=_root_.id rfl
@[simp ↓] theorem qex(f:Operand)(args:List Operand):aA S (.callv f args) dst σ H K=yM S (ev σ f) (dst.getD 0) (args.map (ev σ)) H K:=_root_.id rfl
@[simp ↓] theorem qfB(args:List Operand):au S (.call f args) dst σ Hr H K=LP dst (S f) (args.map (ev σ)) H K:=_root_.id rfl
end
def ZK(σ:Sg)(t s:Nat)(d:D):upd σ t d s=if s=t then d else σ s:=_root_.id rfl
def Ln(σ:Sg)(t:Nat)(d:D):du σ (some t) d=upd σ t d:=_root_.id rfl
def Wv(σ:Sg)(d:D):du σ none d=σ:=_root_.id rfl
def Ww(H:aa)(t s:Nat)(d:Option Res):aj H t d s=if s=t then d else H s:=_root_.id rfl
attribute [simp] Ln Wv Ww
@[simp] theorem PS(σ:Sg)(t:Nat):ev σ (.tmp t)=σ t:=_root_.id rfl
@[simp] theorem TH(σ:Sg)(x:Value):ev σ (.const x)=lL x:=_root_.id rfl
@[simp] theorem qe8:ev σ (.func f)= .clo f []:=_root_.id rfl
@[simp] theorem qe9(b:Bool):lL (.bool b)= .v (.bool b):=_root_.id rfl
@[simp] theorem ZH(k:IntKind)(n:Int):lL (.int k n)= .v (.int k n):=_root_.id rfl
@[simp] theorem qhx:lL (.string s)= .v (.string s):=_root_.id rfl
@[simp] theorem qhy(a:Option Addr):lL (.pointer a)= .v (.pointer a):=_root_.id rfl
@[simp] theorem qcC(a:Option Addr)(l c:Nat):lL (.slice a l c)= .v (.slice a l c):=_root_.id rfl
def qaz(σ:Sg):gC [] σ=λ_=> .any:=_root_.id rfl
def Xp(t:Nat)(l:List Nat)(σ:Sg):gC (t::l) σ=upd (gC l σ) t (σ t):=_root_.id rfl
@[simp] theorem qf2:hL [] H=λ_=>none:=_root_.id rfl
@[simp] theorem UB(t:Nat)(l:List Nat)(H:aa):hL (t::l) H=aj (hL l H) t (H t):=_root_.id rfl
@[simp] theorem qfI:cv i=none:=_root_.id rfl
@[simp] theorem qfU:ot [] σ=True:=_root_.id rfl
@[simp] theorem qdo(l:List (Nat×D)):ot ((t,d)::l) σ=(MC (σ t) d/\ot l σ):=_root_.id rfl
@[simp] theorem qfO:sf [] H=True:=_root_.id rfl
@[simp] theorem qdi(d:Res)(l:List (Nat×Res)):sf ((t,d)::l) H=((H t=some d\/isNilRow d)/\sf l H):=_root_.id rfl
@[simp] theorem sub_self(d:D):MC d d=True:=by
 cases d <;> simp[MC]
@[simp] theorem qhE(a:D):MC a (.v x)=(a= .v x):=_root_.id rfl
@[simp] theorem qcG(y:Value):MC (.own i x) (.own j y)=(x=y):=by simp[MC]
@[simp] theorem ZN(y:Value):MC (.v x) (.own j y)=(x=y):=by simp[MC]
@[simp] theorem qi2:Bq true sz cs off= .agg ((cs.drop off).take sz):=_root_.id rfl
@[simp] theorem qi3:Bq false sz cs off=(cs[off]?).getD .any:=_root_.id rfl
@[simp ↓] theorem qcX(rs:List ai)(K:D->aa->Prop):ra rs K .norm σ H=rb rs σ H λds=>K (cz ds) H:=_root_.id rfl
@[simp ↓] theorem qfx(rs:List ai)(K:D->aa->Prop):ra rs K .ret σ H=rb rs σ H λds=>K (cz ds) H:=_root_.id rfl
@[simp ↓] theorem qfw(K:List D->Prop):rb [] σ H K=K []:=_root_.id rfl
@[simp ↓] theorem qfv(r:List ai)(K:List D->Prop):rb (.tmp t::r) σ H K=rb r σ H λds=>K (σ t::ds):=_root_.id rfl
@[simp ↓] theorem qcW(r:List ai)(K:List D->Prop):rb (.cell t agg sz::r) σ H K=AP agg sz (σ t) H λd=>rb r σ H λds=>K (d::ds):=_root_.id rfl
@[simp] theorem qiT:cz [d]=d:=_root_.id rfl
@[simp] theorem qiU:cz []= .tup []:=_root_.id rfl
@[simp] theorem qiS(l:List D):cz (d::e::l)= .tup (d::e::l):=_root_.id rfl
@[simp] theorem qi9:D.kn (.v x)=true:=_root_.id rfl
@[simp] theorem qeo:D.cells (.v x)=[.v x]:=_root_.id rfl
@[simp] theorem qf1:D.kn (.agg cs)=true:=_root_.id rfl
@[simp] theorem Zi:D.cells (.agg cs)=cs:=_root_.id rfl
@[simp] theorem qdA:D.kn (.list n es)=true:=_root_.id rfl
@[simp] theorem Ye:D.cells (.list n es)=[.list n es]:=_root_.id rfl
@[simp] theorem qfZ:D.kn (.own i x)=true:=_root_.id rfl
@[simp] theorem Zg:D.cells (.own i x)=[.own i x]:=_root_.id rfl
@[simp] theorem qfY(k:Nat):D.kn (.sub i v n k o)=true:=_root_.id rfl
@[simp] theorem Zf(k:Nat):D.cells (.sub i v n k o)=[.sub i v n k o]:=_root_.id rfl
@[simp] theorem qf0:D.kn (.clo f cs)=true:=_root_.id rfl
@[simp] theorem Zh:D.cells (.clo f cs)=[.clo f cs]:=_root_.id rfl
@[simp] theorem qiA(n:Int):iB (.v (.int k n))=some (k,n):=_root_.id rfl
attribute [simp] setAt
@[simp] theorem qgy(n:Int):enc n= .v (.int .i64 n):=rfl
@[simp] theorem qeb(b:Bool):enc b= .v (.bool b):=rfl
@[simp] theorem qgx:enc s= .v (.string s):=rfl
@[simp] theorem qea{X:Type}[Cod X](l:List X):enc l= .list (Cod.wd X) (l.map enc):=rfl
@[simp] theorem qe4:Cod.wd Int=1:=rfl
@[simp] theorem qcv:Cod.wd Bool=1:=rfl
@[simp] theorem qe3:Cod.wd ByteArray=1:=rfl
@[simp] theorem qcu{X:Type}[Cod X]:Cod.wd (List X)=1:=rfl
@[congr] theorem qdK(hd:d=d₁):JW d A B=JW d₁ A B:=by subst hd;rfl
@[congr] theorem Zb{s:Nat}{b:Bool}(hd:d=d₁):jB s b σ d yes no=jB s b σ d₁ yes no:=by subst hd;rfl
@[congr] theorem qae(hd:d=d₁):AN d A B=AN d₁ A B:=by subst hd;rfl
@[congr] theorem qax(hr:r=r₁):JS agg sz b off r K=JS agg sz b off r₁ K:=by subst hr;rfl
@[congr] theorem qaw(hr:r=r₁):JR agg sz x n i off r K=JR agg sz x n i off r₁ K:=by subst hr;rfl
@[congr] theorem qav(hd:d=d₁):AP agg sz d H K=AP agg sz d₁ H K:=by subst hd;rfl
@[congr] theorem qdg(hd:d=d₁):OP d K=OP d₁ K:=by subst hd;rfl
@[congr] theorem Zs(hd:d=d₁)(he:e=e₁):DQ op d e K=DQ op d₁ e₁ K:=by subst hd;subst he;rfl
@[congr] theorem qcU(hd:d=d₁):Ua d K=Ua d₁ K:=by subst hd;rfl
@[congr] theorem qen{o:Option Bool}{o₁:Option Bool}(ho:o=o₁):Mr o K=Mr o₁ K:=by subst ho;rfl
@[congr] theorem qem(hd:d=d₁)(he:e=e₁):Pm op d e K=Pm op d₁ e₁ K:=by subst hd;subst he;rfl
@[congr] theorem qd4{o:Option Bool}{o₁:Option Bool}(ho:o=o₁):Pf neg o K=Pf neg o₁ K:=by subst ho;rfl
@[congr] theorem qde(hd:d=d₁):Us d K=Us d₁ K:=by subst hd;rfl
@[congr] theorem qbL(hd:d=d₁):NK k d K=NK k d₁ K:=by subst hd;rfl
@[congr] theorem Zd(hd:d=d₁):wE off d K=wE off d₁ K:=by subst hd;rfl
@[congr] theorem Y9{k:Int}(hr:r=r₁):Dm n k id x r K=Dm n k id x r₁ K:=by subst hr;rfl
@[congr] theorem Y8{i:D}(hi:i=i₁)(hd:d=d₁):wC n i d H K=wC n i₁ d₁ H K:=by subst hi;subst hd;rfl
@[congr] theorem Z2{i:D}(hi:i=i₁)(hd:d=d₁):MS i d K=MS i₁ d₁ K:=by subst hi;subst hd;rfl
@[congr] theorem qdW{o:Option D}{o₁:Option D}(ho:o=o₁):RW o K=RW o₁ K:=by subst ho;rfl
@[congr] theorem qdV(hd:d=d₁):RV d i K=RV d₁ i K:=by subst hd;rfl
@[congr] theorem qdz(hr:r=r₁):Ro x r K=Ro x r₁ K:=by subst hr;rfl
@[congr] theorem qdy(hd:d=d₁):LY d H K=LY d₁ H K:=by subst hd;rfl
@[congr] theorem qeD(hr:r=r₁):Sw x r K=Sw x r₁ K:=by subst hr;rfl
@[congr] theorem qeC(hd:d=d₁):Vl d H K=Vl d₁ H K:=by subst hd;rfl
@[congr] theorem Z1(hd:d=d₁):Je d K=Je d₁ K:=by subst hd;rfl
@[congr] theorem qdj(hd:d=d₁)(he:e=e₁):Re mx d e K=Re mx d₁ e₁ K:=by subst hd;subst he;rfl
@[congr] theorem qcK{K:List D->Prop}(hr:r=r₁):Ok n lo hi x r K=Ok n lo hi x r₁ K:=by subst hr;rfl
@[congr] theorem YT{y:D}{K:D->aa->Prop}(hy:y=y₁)(hr:r=r₁):vX sz id b off y r H K=vX sz id b off y₁ r₁ H K:=by subst hy;subst hr;rfl
@[congr] theorem YS{y:D}{K:D->aa->Prop}(hy:y=y₁)(hr:r=r₁):vW sz id x n i off y r H K=vW sz id x n i off y₁ r₁ H K:=by subst hy;subst hr;rfl
@[congr] theorem YR{y:D}{K:D->aa->Prop}(hd:d=d₁)(hy:y=y₁):Cv sz d y H K=Cv sz d₁ y₁ H K:=by subst hd;subst hy;rfl
@[congr] theorem qeJ{K:D->aa->Prop}(hes2:es2=es2₁)(hr:r=r₁):SI el n bytes id x es2 r H K=SI el n bytes id x es2₁ r₁ H K:=by subst hes2;subst hr;rfl
@[congr] theorem qek{K:D->aa->Prop}(hsrc:src=src₁)(hr:r=r₁):Sm n id x n' lo hi src r H K=Sm n id x n' lo hi src₁ r₁ H K:=by subst hsrc;subst hr;rfl
@[congr] theorem qej{K:D->aa->Prop}(hd:d=d₁)(hsrc:src=src₁):Vc n d src H K=Vc n d₁ src₁ H K:=by subst hd;subst hsrc;rfl
@[congr] theorem qcS(hd:d=d₁):TW d K=TW d₁ K:=by subst hd;rfl
@[congr] theorem qcJ{K:D->aa->Prop}(hd:d=d₁):Qa t d H K=Qa t d₁ H K:=by subst hd;rfl
@[congr] theorem qcO{K:D->aa->Prop}(hr:r=r₁):Qb id b r H K=Qb id b r₁ H K:=by subst hr;rfl
@[congr] theorem qcN{K:D->aa->Prop}(hd:d=d₁):TS d H K=TS d₁ H K:=by subst hd;rfl
@[congr] theorem qeK{K:D->aa->Prop}(hdst:dst=dst₁)(hd:d=d₁)(hes2:es2=es2₁):Vp dst el n b d es2 H K=Vp dst₁ el n b d₁ es2₁ H K:=by subst hdst;subst hd;subst hes2;rfl
@[congr] theorem qeH{r:Nat}{q:Option Res}{K:D->aa->Prop}{q₁:Option Res}(hes2:es2=es2₁)(hq:q=q₁):SF el n b r x es2 q H K=SF el n b r x es2₁ q₁ H K:=by subst hes2;subst hq;rfl
@[congr] theorem qeG{r:Nat}{K:D->aa->Prop}(hd:d=d₁)(hes2:es2=es2₁):Vo r el n b d es2 H K=Vo r el n b d₁ es2₁ H K:=by subst hd;subst hes2;rfl
@[congr] theorem ZT{r:Nat}{y:D}{K:D->aa->Prop}(hd:d=d₁)(hy:y=y₁):Ja r sz d y H K=Ja r sz d₁ y₁ H K:=by subst hd;subst hy;rfl
@[congr] theorem qeI{K:D->aa->Prop}(hdst:dst=dst₁)(hd:d=d₁)(hes2:es2=es2₁):SG dst el n bytes d es2 H K=SG dst₁ el n bytes d₁ es2₁ H K:=by subst hdst;subst hd;subst hes2;rfl
@[congr] theorem qbU{f:D}{d:Nat}{K:D->aa->Prop}(hf:f=f₁)(hargs:args=args₁):yM S f d args H K=yM S f₁ d args₁ H K:=by subst hf;subst hargs;rfl
@[congr] theorem ZW{K:List D->Prop}(h:d=d'):gi n d H K=gi n d' H K:=by subst h;rfl
@[congr] theorem qcL{K:List D->Prop}(h:d=d'):ov n d H K=ov n d' H K:=by subst h;rfl
@[congr] theorem Zt{s s':Spc}{d:Nat}{ds':List D}{K:D->aa->Prop}(h:s=s')(h':ds=ds'):s.pt d ds H K=s'.pt d ds' H K:=by subst h;subst h';rfl
@[congr] theorem qbJ{lo hi lo' hi':Option (Option (IntKind×Int))}{K:Nat->Nat->Prop}(h1:lo=lo')(h2:hi=hi')(h3:n=n'):lK lo hi n K=lK lo' hi' n' K:=by subst h1;subst h2;subst h3;rfl
end Go.Gv
