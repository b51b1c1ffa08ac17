/- T9 -/
import Derived.Test.YtnffegdacbdhmaaGreatDoorGe08
set_option linter.all false
namespace Go.Gv
section
variable {dq:Prop}
class Cod (X:Type) where
 wd:Nat
 enc:X->D
 dec:D->Option X
 kn:∀x,(enc x).kn=true
 wid:∀x,(enc x).cells.length=wd
 dec_enc:∀x,dec (enc x)=some x
 le:∀d x,dec d=some x->FrzTo bS d (enc x)
open Cod (enc dec)
instance:Cod Int where
 wd:=1
 enc n:= .v (.int .i64 n)
 dec| .v (.int .i64 n)=>some n|_=>none
 kn _:=rfl
 wid _:=rfl
 dec_enc _:=rfl
 le d x h:=by
  split at h;grind [FrzTo];grind
instance:Cod Bool where
 wd:=1
 enc n:= .v (.bool n)
 dec| .v (.bool n)=>some n|_=>none
 kn _:=rfl
 wid _:=rfl
 dec_enc _:=rfl
 le d x h:=by
  split at h;grind [FrzTo];grind
instance:Cod ByteArray where
 wd:=1
 enc n:= .v (.string n)
 dec| .v (.string n)=>some n|_=>none
 kn _:=rfl
 wid _:=rfl
 dec_enc _:=rfl
 le d x h:=by
  split at h;grind [FrzTo];grind
def Zk{X:Type}{f:D->Option X} :∀{es:List D} {l:List X},es.mapM f=some l->es.length=l.length/\∀(k:Nat) (c:D) (x:X),es[k]? =some c->l[k]? =some x->f c=some x
 | [],l,h=>by
   grind
 | d::es,l,h=>by
   rw[qGv]at h;simp only[qFI,qFF]at h;obtain⟨y,b,r,a,h⟩:=h;cases h;have j:=Zk a;grind
def Jc{X:Type}[Cod X]:∀(l:List X),(l.map enc).mapM (dec (X:=X))=some l
 | []=>by simp
 |x::l=>by rw[qGb,qGv,Cod.dec_enc,Jc l];rfl
instance {X:Type} [Cod X]:Cod (List X) where
 wd:=1
 enc l:= .list (Cod.wd X) (l.map enc)
 dec
  | .list n es=>if n=Cod.wd X then es.mapM (dec (X:=X))else none
  | .v (.slice none 0 0)=>some []
  | _=>none
 kn _:=rfl
 wid _:=rfl
 dec_enc l:=by
  show(if _ then _ else _)=_;rw[if_pos rfl];exact Jc l
 le d l h:=by
  split at h
  ·split at h
   ·rename_i n es hn;subst hn;obtain⟨h1,h2⟩:=Zk h;refine .list (by grind) (λe he=>?_) (λk c c' hc a=>?_);grind [Cod.kn,Cod.wid];grind [Cod.le]
   grind
  grind [FrzTo];grind
def qoA(n:Int):enc n= .v (.int .i64 n):=rfl
def qkJ(b:Bool):enc b= .v (.bool b):=rfl
def qoz(s:ByteArray):enc s= .v (.string s):=rfl
def qsi:List D->Option Unit
 | []=>some ()
 | _=>none
def qsh{X:Type}[Cod X]:List D->Option X
 | [a]=>dec a
 | _=>none
def qsg{X Y:Type}[Cod X][Cod Y]:List D->Option (X×Y)
 | [a,b]=>(dec a).bind λx=>(dec b).bind λy=>some (x,y)
 | _=>none
def qsf{X Y Z:Type}[Cod X][Cod Y][Cod Z]:List D->Option (X×Y×Z)
 | [a,b,c]=>(dec a).bind λx=>(dec b).bind λy=>(dec c).bind λz=>some (x,y,z)
 | _=>none
def qse{X Y Z W:Type}[Cod X][Cod Y][Cod Z][Cod W]:List D->Option (X×Y×Z×W)
 | [a,b,c,d]=>(dec a).bind λx=>(dec b).bind λy=>(dec c).bind λz=>(dec d).bind λw=>some (x,y,z,w)
 | _=>none
def LeL.nil:LeL [] []:=⟨rfl,λk d a h=>by simp⟩
def LeL.cons{d b:D}{ds a:List D}(h:FrzTo bS d b)(hs:LeL ds a):LeL (d::ds) (b::a):=
 ⟨by simp[hs.1],λk e c h1 h2=>by
  grind [LeL]⟩
def LeL.agg{ds a:List D}(h:LeL ds a):FrzTo bS (.agg ds) (.agg a):= .agg h.1 h.2
def qFj:∀ds (x:Unit),qsi ds=some x->LeL ds []:=by
 grind [LeL,qsi]
def qFi{X:Type}[Cod X]:∀ds (x:X),qsh ds=some x->LeL ds [enc x]:=by
 intro ds x h;unfold qsh at h;split at h;grind [LeL,Cod.le];grind
def qFh{X Y:Type}[Cod X][Cod Y]:∀ds (x:X×Y),qsg ds=some x->LeL ds [enc x.1,enc x.2]:=by
 intro ds x h;unfold qsg at h;split at h;grind [LeL,Option.bind_eq_some_iff,Cod.le];grind
def qFg{X Y Z:Type}[Cod X][Cod Y][Cod Z]:∀ds (x:X×Y×Z),qsf ds=some x->LeL ds [enc x.1,enc x.2.1,enc x.2.2]:=by
 intro ds x h;unfold qsf at h;split at h;grind [LeL,Option.bind_eq_some_iff,Cod.le];grind
def qFf{X Y Z W:Type}[Cod X][Cod Y][Cod Z][Cod W]:∀ds (x:X×Y×Z×W),qse ds=some x->LeL ds [enc x.1,enc x.2.1,enc x.2.2.1,enc x.2.2.2]:=by
 intro ds x h;unfold qse at h;split at h;grind [LeL,Option.bind_eq_some_iff,Cod.le];grind
def JN:List (Nat×Spc)->Nat->Spc
 | [],_=> .none
 |(g,c)::l,f=>if f=g then c else JN l f
def XT(P:Program)(f:Nat):Tri dq P f (Spc.none).pt:=λ_ _ _ _ _ _ _ _ _ _ _ _ _ h=>h.elim
def ag{P:Program} :∀{l:List (Nat×Spc)},(∀p∈l,Tri dq P p.1 p.2.pt)->∀f,Tri dq P f (JN l f).pt
 | [],_,f=>XT P f
 | (g,c)::l,h,f=>by
  unfold JN;split;simp_all
  ·exact ag (λp hp=>h p (by grind)) f
def ae{P:Program} :∀p∈ ([]:List (Nat×Spc)),Tri dq P p.1 p.2.pt:=λp h=>by cases h
def aa{P:Program}{f:Nat}{c:Spc}{l:List (Nat×Spc)}(h:Tri dq P f c.pt)(hl:∀p∈l,Tri dq P p.1 p.2.pt):∀p∈ (f,c)::l,Tri dq P p.1 p.2.pt:=λp hp=>by
 grind
def qgL{X:Type}[Cod X]{H:ab}{id el:Nat}{x:Value}{l:List X}(h:H id=some (.row x el (Cod.wd X) (l.map enc))):FrzTo H (.own id x) (enc l):=
 .row h rfl (λd a=>by grind [Cod.kn,Cod.wid]) (λk c c' h1 h2=>by grind [FrzTo])
end
section
open Cod (enc dec)
variable {b b' bytes el el' f g hi i id j len lo n n' n'' o off sz t:Nat}{H:ab}{K:D->Prop}{dst dst₁ rt:Option Nat}{v x x':Value}{L d d' d₁ e e₁ f₁ i₁ y₁ z₁:D}{k k' kd:IntKind}{σ:Sg}{args args₁ caps cells cs ds es es2 es2₁ src src₁:List D}{agg mx neg:Bool}{r r₁:Option Res}{c y:Operand}{a h l:Int}{s:ByteArray}{z:List Value}{no yes:Sg->Prop}{A B p:Prop}{op:BinOp}{ks:List qe8}{S:Nat->Spc}{ps xs:List Operand}{s₁:Spc}
section
variable {S:Nat->Spc}{K:Ex->Sg->ab->Prop}{σ:Sg}{H:ab}
def Yl(S:Nat->Spc)(b:CC)(K:Ex->Sg->ab->Prop):Ex->Sg->ab->Prop:=λe σ H=>match e with
 | .norm=>vc S b K σ H
 |e=>K e σ H
def qg4(id:Nat)(K:Ex->Sg->ab->Prop):Ex->Sg->ab->Prop:=λe σ H=>match e with
 | .ex i=>if i=id then K .norm σ H else K (.ex i) σ H
 |e=>K e σ H
def qgk(q:qsP)(x:q.X)(K:Ex->Sg->ab->Prop):Ex->Sg->ab->Prop:=λe u H'=>match e with
 | .norm=>∃y,q.P y/\Wk u H' (q.s y) (q.h y)/\q.m y<q.m x
 |e=>K e u H'
def RU(d:D)(A B:Prop):Prop:=match d with
 | .v (.bool t)=>(t=true->A)/\(t=false->B)
 | _=>False
@[simp ↓] theorem qr2:vc S .skip K σ H=K .norm σ H:=i' rfl
@[simp ↓] theorem qpQ(l:List CI):vc S (.reg l) K σ H=HQ S l σ H (K .norm):=i' rfl
@[simp ↓] theorem qCm(p l:List CI):vc S (.regd p l) K σ H=pu S p σ (bM p H) H λσ H=>HQ S l σ H (K .norm):=i' rfl
@[simp ↓] theorem Z1(a b:CC):vc S (.seq a b) K σ H=vc S a (Yl S b K) σ H:=i' rfl
@[simp ↓] theorem Wn(b:CC):Yl S b K .norm σ H=vc S b K σ H:=i' rfl
@[simp ↓] theorem qkM(b:CC)(i:Nat):Yl S b K (.ex i) σ H=K (.ex i) σ H:=i' rfl
@[simp ↓] theorem qr3(b:CC):Yl S b K .ret σ H=K .ret σ H:=i' rfl
@[simp ↓] theorem qvI(c:Operand)(a b:CC):vc S (.ite c a b) K σ H=RU (ev σ c) (vc S a K σ H) (vc S b K σ H):=i' rfl
@[simp] theorem qr6(t:Bool)(A B:Prop):RU (.v (.bool t)) A B=((t=true->A)/\(t=false->B)):=i' rfl
@[simp high] theorem qCo:RU (.v (.bool true)) A B=A:=by simp[RU]
@[simp high] theorem qCp:RU (.v (.bool false)) A B=B:=by simp[RU]
@[simp ↓] theorem Wp(id:Nat)(b:CC):vc S (.block id b) K σ H=vc S b (qg4 id K) σ H:=i' rfl
@[simp ↓] theorem qr8(id:Nat):qg4 id K .norm σ H=K .norm σ H:=i' rfl
@[simp ↓] theorem qkP(id:Nat):qg4 id K .ret σ H=K .ret σ H:=i' rfl
@[simp ↓] theorem qcD(id i:Nat):qg4 id K (.ex i) σ H=if i=id then K .norm σ H else K (.ex i) σ H:=i' rfl
@[simp ↓] theorem qr7(i:Nat):vc S (.exit i) K σ H=K (.ex i) σ H:=i' rfl
@[simp ↓] theorem qEH:vc S .ret K σ H=K .ret σ H:=i' rfl
@[simp ↓] theorem qCn(ls lh:List Nat)(c:CC):vc S (.keep ls lh c) K σ H=vc S c K (jK ls σ) (jL lh H):=i' rfl
theorem Wo(k:Nat)(b:CC):vc S (.loop k b) K σ H=∃q:qsP,(∃x,q.P x/\Wk σ H (q.s x) (q.h x))/\∀x,q.P x->vc S b (qgk q x K) (q.s x) (q.h x):=i' rfl
theorem qkO(k:Nat)(c:CC):vc S (.cut k c) K σ H=∃(q:Sg) (H':ab),Wk σ H q H'/\vc S c K q H':=i' rfl
@[simp ↓] theorem qr5(q:qsP)(x:q.X):qgk q x K .norm σ H=∃y,q.P y/\Wk σ H (q.s y) (q.h y)/\q.m y<q.m x:=i' rfl
@[simp ↓] theorem qr4(q:qsP)(x:q.X):qgk q x K .ret σ H=K .ret σ H:=i' rfl
@[simp ↓] theorem qkN(q:qsP)(x:q.X)(i:Nat):qgk q x K (.ex i) σ H=K (.ex i) σ H:=i' rfl
end
def qG(s:Nat)(b:Bool)(σ:Sg)(d:D)(yes no:Sg->Prop):Prop:=match d with
 | .v (.bool t)=>(t=b->yes (upd σ s (.v (.bool b))))/\(t=(!b)->no (upd σ s (.v (.bool (!b)))))
 | .undef=>no σ
 | _=>False
@[simp high] theorem qFr(s:Nat):qG s true σ (.v (.bool true)) yes no=yes (upd σ s (.v (.bool true))):=by simp[qG]
@[simp high] theorem qFs(s:Nat):qG s true σ (.v (.bool false)) yes no=no (upd σ s (.v (.bool false))):=by simp[qG]
@[simp high] theorem qFt(s:Nat):qG s false σ (.v (.bool true)) yes no=no (upd σ s (.v (.bool true))):=by simp[qG]
@[simp high] theorem qFu(s:Nat):qG s false σ (.v (.bool false)) yes no=yes (upd σ s (.v (.bool false))):=by simp[qG]
@[simp] theorem qFq(s:Nat)(b:Bool):qG s b σ .undef yes no=no σ:=i' rfl
@[simp] theorem qFE(s:Nat)(b t:Bool):qG s b σ (.v (.bool t)) yes no=((t=b->yes (upd σ s (.v (.bool b))))/\(t=(!b)->no (upd σ s (.v (.bool (!b)))))):=i' rfl
section
variable {S:Nat->Spc}{σ:Sg}{H Hr:ab}
@[simp ↓] theorem qpN(K:Sg->ab->Prop):HQ S [] σ H K=K σ H:=i' rfl
@[simp ↓] theorem qrG(K:Sg->ab->Prop)(d:Option Nat)(c:COp)(r:List CI):HQ S (.op d none c::r) σ H K=aA S c d σ H λx H'=>HQ S r (gx σ d x) H' K:=i' rfl
@[simp ↓] theorem qEk(K:Sg->ab->Prop)(d:Option Nat)(s:Nat)(b:Bool)(c:COp)(r:List CI):HQ S (.op d (some (s,b)) c::r) σ H K=qG s b σ (σ s) (λσ=>aA S c d σ H λx H'=>HQ S r (gx σ d x) H' K) (λσ=>HQ S r (gx σ d .undef) H K):=i' rfl
@[simp ↓] theorem qEl(K:Sg->ab->Prop)(r:List CI):HQ S (.frz t n::r) σ H K=Mc t n σ H λq H'=>HQ S r q H' K:=i' rfl
@[simp ↓] theorem qD7(K:Sg->ab->Prop):pu S [] σ Hr H K=K σ H:=i' rfl
@[simp ↓] theorem qD8(K:Sg->ab->Prop)(a:Nat)(r:List CI):pu S (.frz a b::r) σ Hr H K=pu S r σ (bM r Hr) H K:=i' rfl
@[simp ↓] theorem qFb(K:Sg->ab->Prop)(d:Option Nat)(c:COp)(r:List CI):pu S (.op d none c::r) σ Hr H K=ax S c d σ Hr H λx H'=>pu S r (gx σ d x) Hr H' K:=i' rfl
@[simp ↓] theorem qD6(K:Sg->ab->Prop)(d:Option Nat)(s:Nat)(b:Bool)(c:COp)(r:List CI):pu S (.op d (some (s,b)) c::r) σ Hr H K=qG s b σ (σ s) (λσ=>ax S c d σ Hr H λx H'=>pu S r (gx σ d x) Hr H' K) (λσ=>pu S r (gx σ d .undef) Hr H K):=i' rfl
end
def LW(d:D)(A B:Prop):Prop:=match d with
 | .v (.bool t)=>(t=true->A)/\(t=false->B)
 | _=>False
@[simp high] theorem qxA:LW (.v (.bool true)) A B=A:=by simp[LW]
@[simp high] theorem qxB:LW (.v (.bool false)) A B=B:=by simp[LW]
def Zn(agg:Bool)(sz b off:Nat)(r:Option Res)(K:D->Prop):Prop:=match r with
 |some (.box b' cells)=>b'=b/\off+sz<=cells.length/\K (Tg agg sz cells off)
 | _=>False
def Zm(agg:Bool)(sz:Nat)(x:Value)(n i off:Nat)(r:Option Res)(K:D->Prop):Prop:=match r with
 |some (.row x' _ n' es)=>x'=x/\n'=n/\off+sz<=n/\i<es.length/\∀d,es[i]? =some d->K (Tg agg sz d.cells off)
 | _=>False
def L4(agg:Bool)(sz:Nat)(d:D)(H:ab)(K:D->Prop):Prop:=match d with
 | .cptr cs off=>off+sz<=cs.length/\K (Tg agg sz cs off)
 | .bptr id b off=>Zn agg sz b off (H id) K
 | .eptr id x n i off=>Zm agg sz x n i off (H id) K
 | _=>False
@[simp] theorem qx1:L4 agg sz (.cptr cs off) H K=(off+sz<=cs.length/\K (Tg agg sz cs off)):=i' rfl
@[simp] theorem qx2:L4 agg sz (.bptr i b off) H K=Zn agg sz b off (H i) K:=i' rfl
@[simp] theorem qx0(k:Nat):L4 agg sz (.eptr i x n k off) H K=Zm agg sz x n k off (H i) K:=i' rfl
@[simp] theorem qx4:Zn agg sz b off (some (.box b' cells)) K=(b'=b/\off+sz<=cells.length/\K (Tg agg sz cells off)):=i' rfl
@[simp] theorem qx3:Zm agg sz x n i off (some (.row x' el n' es)) K=(x'=x/\n'=n/\off+sz<=n/\i<es.length/\∀d,es[i]? =some d->K (Tg agg sz d.cells off)):=i' rfl
def qge(d:D)(K:D->Prop):Prop:=match d with
 | .cptr cs off=>K (.cptr cs off)
 | .bptr id b off=>K (.bptr id b off)
 | .eptr id x n i off=>K (.eptr id x n i off)
 | .tape L=>K (.tape L)
 | .clo f caps=>K (.clo f caps)
 | _=>False
@[simp] theorem qAW:qge (.cptr cs off) K=K (.cptr cs off):=i' rfl
@[simp] theorem qAX:qge (.bptr i b off) K=K (.bptr i b off):=i' rfl
def QE(op:BinOp)(d e:D)(K:D->Prop):Prop:=match d,e with
 | .v (.int k a), .v (.int k' b)=>qhg op k k'/\jE op k a b K
 | _,_=>False
@[simp] theorem qlH(op:BinOp)(k k':IntKind)(a b:Int)(K:D->Prop):QE op (.v (.int k a)) (.v (.int k' b)) K=(qhg op k k'/\jE op k a b K):=i' rfl
@[simp] theorem qn4(k k':IntKind):qhg .add k k'=(k=k'):=i' rfl
@[simp] theorem qye:qhg .sub k k'=(k=k'):=i' rfl
@[simp] theorem qyj:qhg .mul k k'=(k=k'):=i' rfl
@[simp] theorem qyi:qhg .quo k k'=(k=k'):=i' rfl
@[simp] theorem qyh:qhg .rem k k'=(k=k'):=i' rfl
@[simp] theorem qyk:qhg .and k k'=(k=k'):=i' rfl
@[simp] theorem qBE:qhg .or k k'=(k=k'):=i' rfl
@[simp] theorem qyg:qhg .shl k k'=True:=i' rfl
@[simp] theorem qyf:qhg .shr k k'=True:=i' rfl
@[simp ↓] theorem qg7(k:IntKind)(a b:Int)(K:D->Prop):jE .add k a b K=(InR k (a+b)/\K (.v (.int k (a+b)))):=i' rfl
@[simp ↓] theorem qtD(b:Int):jE .sub k a b K=(InR k (a -b)/\K (.v (.int k (a -b)))):=i' rfl
@[simp ↓] theorem qtI(b:Int):jE .mul k a b K=(InR k (a*b)/\K (.v (.int k (a*b)))):=i' rfl
@[simp ↓] theorem qtH(b:Int):jE .quo k a b K=(b≠0/\InR k (a.tdiv b)/\K (.v (.int k (a.tdiv b)))):=i' rfl
@[simp ↓] theorem qtG(b:Int):jE .rem k a b K=(b≠0/\K (.v (.int k (a.tmod b)))):=i' rfl
@[simp ↓] theorem qtJ(b:Int):jE .and k a b K=K (.v (.int k (qcQ k a b))):=i' rfl
@[simp ↓] theorem qwg(b:Int):jE .or k a b K=K (.v (.int k (quI k a b))):=i' rfl
@[simp ↓] theorem qtF(b:Int):jE .shl k a b K=(0<=b/\K (.v (.int k (Yi k a b)))):=i' rfl
@[simp ↓] theorem qtE(b:Int):jE .shr k a b K=(0<=b/\K (.v (.int k (qfI k a b)))):=i' rfl
def qnn(d:D)(K:D->Prop):Prop:=match d with
 | .v (.int _ n)=>K (.v (.string (Utf8.encode n)))
 | _=>False
@[simp] theorem qAx(n:Int):qnn (.v (.int k n)) K=K (.v (.string (Utf8.encode n))):=i' rfl
def qcI(o:Option Bool)(K:D->Prop):Prop:=match o with|some t=>K (.v (.bool t))|none=>False
@[simp] theorem qso(t:Bool)(K:D->Prop):qcI (some t) K=K (.v (.bool t)):=i' rfl
def qgW(op:BinOp)(d e:D)(K:D->Prop):Prop:=match d,e with
 | .v (.int k a), .v (.int k' b)=>k=k'/\qcI (qam op a b) K
 | .v (.string a), .v (.string b)=>qcI (qcH op a b) K
 | _,_=>False
@[simp] theorem qsn(op:BinOp)(k k':IntKind)(a b:Int)(K:D->Prop):qgW op (.v (.int k a)) (.v (.int k' b)) K=(k=k'/\qcI (qam op a b) K):=i' rfl
@[simp] theorem qCA(a b:ByteArray):qgW op (.v (.string a)) (.v (.string b)) K=qcI (qcH op a b) K:=i' rfl
@[simp] theorem qlk(a b:Int):qam .lss a b=some (decide (a<b)):=i' rfl
@[simp] theorem qvV(b:Int):qam .leq a b=some (decide (a<=b)):=i' rfl
@[simp] theorem qvW(b:Int):qam .gtr a b=some (decide (b<a)):=i' rfl
@[simp] theorem qvX(b:Int):qam .geq a b=some (decide (b<=a)):=i' rfl
@[simp] theorem qvS(a b:ByteArray):qcH .lss a b=some (Op.bytesLess a.toList b.toList):=i' rfl
@[simp] theorem qvT(a b:ByteArray):qcH .gtr a b=some (!(Op.bytesLess a.toList b.toList||a.toList==b.toList)):=i' rfl
@[simp] theorem qvU(a b:ByteArray):qcH .geq a b=some (!Op.bytesLess a.toList b.toList):=i' rfl
def qgO(neg:Bool)(o:Option Bool)(K:D->Prop):Prop:=match o with
 |some p=>K (.v (.bool (if neg then !p else p)))
 |none=>False
@[simp] theorem qCf(p:Bool):qgO false (some p) K=K (.v (.bool p)):=i' rfl
@[simp] theorem qCe(p:Bool):qgO true (some p) K=K (.v (.bool (!p))):=i' rfl
@[simp] theorem qED(k:qe8)(a b:D):qrX false [k] a b=qhh k a b:=i' rfl
@[simp] theorem qEC(a b:List D):qrX true ks (.agg a) (.agg b)=qox ks a b:=i' rfl
@[simp] theorem qEB:qox [] [] []=some true:=i' rfl
@[simp] theorem qEA(k:qe8)(a b:D)(as u:List D):qox (k::ks) (a::as) (b::u)=(qhh k a b).bind λp=>(qox ks as u).bind λq=>some (p && q):=i' rfl
@[simp] theorem qEF(b:Int):qhh .int (.v (.int k a)) (.v (.int k' b))=if k=k' then some (decide (a=b))else none:=i' rfl
@[simp] theorem qEE(a b:ByteArray):qhh .str (.v (.string a)) (.v (.string b))=some (decide (a=b)):=i' rfl
@[simp] theorem qEG(a b:Bool):qhh .bool (.v (.bool a)) (.v (.bool b))=some (decide (a=b)):=i' rfl
def qdk(d e:D)(K:D->Prop):Prop:=match d,e with
 | .v (.string a), .v (.string b)=>a.size+b.size<=1000000000/\K (.v (.string (a++b)))
 | _,_=>False
@[simp] theorem qxd(a b:ByteArray):qdk (.v (.string a)) (.v (.string b)) K=(a.size+b.size<=1000000000/\K (.v (.string (a++b)))):=i' rfl
def qjv(d:D)(K:D->Prop):Prop:=match d with
 | .v (.bool b)=>K (.v (.bool (!b)))
 | _=>False
@[simp] theorem qAS(b:Bool):qjv (.v (.bool b)) K=K (.v (.bool (!b))):=i' rfl
def qeC(k:IntKind)(d:D)(K:D->Prop):Prop:=match d with
 | .v (.int _ n)=>K (.v (.int k (k.wrap n)))
 | _=>False
@[simp] theorem qzd(n:Int):qeC k (.v (.int k' n)) K=K (.v (.int k (k.wrap n))):=i' rfl
def qbK(n id:Nat)(x:Value)(lo hi:Option (Option (IntKind×Int)))(r:Option Res)(K:D->Prop):Prop:=match r with
 |some (.row x' _ n' es)=>x'=x/\n'=n/\xq lo hi es.length λl h=>K (.sub id x n l h)
 | _=>False
@[simp] theorem quq(lo hi:Option (Option (IntKind×Int))):qbK n i x lo hi (some (.row x' el n' es)) K=(x'=x/\n'=n/\xq lo hi es.length λl h=>K (.sub i x n l h)):=i' rfl
@[simp] theorem qCw(K:Nat->Nat->Prop):xq (some (some (k,l))) none len K=(0<=l/\l<=len/\K l.toNat len):=i' rfl
@[simp] theorem qCv(K:Nat->Nat->Prop):xq none (some (some (k,h))) len K=(0<=h/\h<=len/\K 0 h.toNat):=i' rfl
def Ou(n:Nat)(d:D)(lo hi:Option (Option (IntKind×Int)))(H:ab)(K:D->Prop):Prop:=match d with
 | .list n' es=>n'=n/\(match lo,hi with
   |none,none=>K (.list n es)
   |some (some (_,l)),none=>0<=l/\l<=es.length/\K (.list n (es.drop l.toNat))
   |none,some (some (_,h))=>0<=h/\h<=es.length/\K (.list n (es.take h.toNat))
   |some (some (_,l)),some (some (_,h))=>0<=l/\l<=h/\h<=es.length/\K (.list n ((es.take h.toNat).drop l.toNat))
   | _,_=>False)
 | .own id x=>qbK n id x lo hi (H id) K
 | .sub id x n' a b=>n'=n/\xq lo hi (b -a) λl h=>K (.sub id x n (a+l) (a+h))
 | .v (.slice none 0 0)=>xq lo hi 0 λ_ _=>K (.v (.slice none 0 0))
 | _=>False
@[simp] theorem qup(lo hi:Option (Option (IntKind×Int))):Ou n (.own i x) lo hi H K=qbK n i x lo hi (H i) K:=i' rfl
@[simp] theorem qs9:Ou n (.list n' es) (some (some (k,l))) none H K=(n'=n/\0<=l/\l<=es.length/\K (.list n (es.drop l.toNat))):=i' rfl
@[simp] theorem qs8:Ou n (.list n' es) none (some (some (k,l))) H K=(n'=n/\0<=l/\l<=es.length/\K (.list n (es.take l.toNat))):=i' rfl
def Nn(d:D)(lo hi:Option (Option (IntKind×Int)))(K:D->Prop):Prop:=match d with
 | .v (.string s)=>(match lo,hi with
   |none,none=>K (.v (.string (s.extract 0 s.size)))
   |some (some (_,l)),none=>0<=l/\l<=s.size/\K (.v (.string (s.extract l.toNat s.size)))
   |none,some (some (_,h))=>0<=h/\h<=s.size/\K (.v (.string (s.extract 0 h.toNat)))
   |some (some (_,l)),some (some (_,h))=>0<=l/\l<=h/\h<=s.size/\K (.v (.string (s.extract l.toNat h.toNat)))
   | _,_=>False)
 | _=>False
@[simp] theorem qqS:Nn (.v (.string s)) (some (some (k,l))) none K=(0<=l/\l<=s.size/\K (.v (.string (s.extract l.toNat s.size)))):=i' rfl
@[simp] theorem qqT:Nn (.v (.string s)) (some (some (k,l))) (some (some (k',h))) K=(0<=l/\l<=h/\h<=s.size/\K (.v (.string (s.extract l.toNat h.toNat)))):=i' rfl
def Ha(off:Nat)(d:D)(K:D->Prop):Prop:=match d with
 | .cptr cs o=>K (.cptr cs (o+off))
 | .bptr id b o=>K (.bptr id b (o+off))
 | .eptr id x n i o=>K (.eptr id x n i (o+off))
 | _=>False
@[simp] theorem qvv:Ha off (.cptr cs o) K=K (.cptr cs (o+off)):=i' rfl
@[simp] theorem qvw:Ha off (.bptr i b o) K=K (.bptr i b (o+off)):=i' rfl
@[simp] theorem qvu(k:Nat):Ha off (.eptr i x n k o) K=K (.eptr i x n k (o+off)):=i' rfl
def qor(agg:Bool)(sz off:Nat)(d:D)(K:D->Prop):Prop:=match d with
 | .agg cs=>off+sz<=cs.length/\K (Tg agg sz cs off)
 | _=>False
@[simp] theorem qB7:qor agg sz off (.agg cs) K=(off+sz<=cs.length/\K (Tg agg sz cs off)):=i' rfl
def PU(n:Nat)(k:Int)(id:Nat)(x:Value)(r:Option Res)(K:D->Prop):Prop:=match r with
 |some (.row x' _ n' es)=>x'=x/\n'=n/\0<=k/\k<es.length/\K (.eptr id x n k.toNat 0)
 | _=>False
def G8(n:Nat)(i d:D)(H:ab)(K:D->Prop):Prop:=match i with
 | .v (.int _ k)=>match d with
   | .list n' es=>n'=n/\0<=k/\k<es.length/\∀d,es[k.toNat]? =some d->K (.cptr d.cells 0)
   | .own id x=>PU n k id x (H id) K
   | .sub id x n' lo hi=>n'=n/\0<=k/\k<(hi -lo:Nat)/\K (.eptr id x n (lo+k.toNat) 0)
   | _=>False
 | _=>False
@[simp] theorem qvc(k:Int):G8 n (.v (.int kd k)) (.sub i x n' lo hi) H K=(n'=n/\0<=k/\k<(hi -lo:Nat)/\K (.eptr i x n (lo+k.toNat) 0)):=i' rfl
@[simp] theorem qve(k:Int):G8 n (.v (.int kd k)) (.list n' es) H K=(n'=n/\0<=k/\k<es.length/\∀d,es[k.toNat]? =some d->K (.cptr d.cells 0)):=i' rfl
@[simp] theorem qvd(k:Int):G8 n (.v (.int kd k)) (.own i x) H K=PU n k i x (H i) K:=i' rfl
@[simp] theorem qvf(k:Int):PU n k i x (some (.row x' el n' es)) K=(x'=x/\n'=n/\0<=k/\k<es.length/\K (.eptr i x n k.toNat 0)):=i' rfl
def qdj(i d:D)(K:D->Prop):Prop:=match i with
 | .v (.int _ k)=>match d with
   | .v (.string s)=>0<=k/\k<s.size/\∀c,s.data[k.toNat]? =some c->K (.v (.int .u8 c.toNat))
   | _=>False
 | _=>False
@[simp] theorem qxc(k:Int):qdj (.v (.int kd k)) (.v (.string s)) K=(0<=k/\k<s.size/\∀c,s.data[k.toNat]? =some c->K (.v (.int .u8 c.toNat))):=i' rfl
def qkG(o:Option D)(K:D->Prop):Prop:=match o with
 |some d=>K d
 |none=>False
def qkF(d:D)(i:Nat)(K:D->Prop):Prop:=match d with
 | .tup ds=>qkG ds[i]? K
 | _=>False
@[simp] theorem qB9:qkF (.tup ds) i K=qkG ds[i]? K:=i' rfl
@[simp] theorem qCa:qkG (some d) K=K d:=i' rfl
def qjU(x:Value)(r:Option Res)(K:D->Prop):Prop:=match r with
 |some (.row x' _ _ es)=>x'=x/\((es.length:Int)<=9223372036854775807->K (.v (.int .i64 es.length)))
 | _=>False
def VM(d:D)(H:ab)(K:D->Prop):Prop:=match d with
 | .list _ es=>(es.length:Int)<=9223372036854775807->K (.v (.int .i64 es.length))
 | .own id x=>qjU x (H id) K
 | .v (.slice _ n _)=>K (.v (.int .i64 n))
 | .sub _ _ _ lo hi=>((hi -lo:Nat):Int)<=9223372036854775807->K (.v (.int .i64 (hi -lo:Nat)))
 | _=>False
@[simp] theorem qBq:VM (.sub i x n lo hi) H K=(((hi -lo:Nat):Int)<=9223372036854775807->K (.v (.int .i64 (hi -lo:Nat)))):=i' rfl
@[simp] theorem qBt:VM (.list n es) H K=((es.length:Int)<=9223372036854775807->K (.v (.int .i64 es.length))):=i' rfl
@[simp] theorem qBr:VM (.own i x) H K=qjU x (H i) K:=i' rfl
@[simp] theorem qx5(a:Option Addr)(c:Nat):VM (.v (.slice a n c)) H K=K (.v (.int .i64 n)):=i' rfl
@[simp high] theorem qBs:VM (.v (.slice none 0 0)) H K=K (.v (.int .i64 0)):=i' rfl
@[simp] theorem qBu:qjU x (some (.row x' el n es)) K=(x'=x/\((es.length:Int)<=9223372036854775807->K (.v (.int .i64 es.length)))):=i' rfl
def qlr(x:Value)(r:Option Res)(K:D->Prop):Prop:=match r with
 |some (.row x' _ n es)=>x'=x/\n=1/\qpT es=true/\K (.v (.string (qsu es)))
 | _=>False
@[simp] theorem qC6:qlr x (some (.row x' el n es)) K=(x'=x/\n=1/\qpT es=true/\K (.v (.string (qsu es)))):=i' rfl
def qoW(d:D)(H:ab)(K:D->Prop):Prop:=match d with
 | .own i x=>qlr x (H i) K
 | .v (.slice none 0 0)=>K (.v (.string ⟨#[]⟩))
 | _=>False
@[simp] theorem qC5:qoW (.own i x) H K=qlr x (H i) K:=i' rfl
def Yg(d:D)(K:D->Prop):Prop:=match d with
 | .v (.string s)=>(s.size:Int)<=9223372036854775807->K (.v (.int .i64 s.size))
 | _=>False
@[simp] theorem qxb:Yg (.v (.string s)) K=((s.size:Int)<=9223372036854775807->K (.v (.int .i64 s.size))):=i' rfl
def qjB(mx:Bool)(d e:D)(K:D->Prop):Prop:=match d,e with
 | .v (.int k a), .v (.int k' b)=>k=k'/\K (.v (.int k (if mx then max a b else min a b)))
 | _,_=>False
@[simp] theorem qBd(b:Int):qjB mx (.v (.int k a)) (.v (.int k' b)) K=(k=k'/\K (.v (.int k (if mx then max a b else min a b)))):=i' rfl
@[simp ↓] theorem qtB(K:List D->Prop):mJ σ [] cs K=K cs:=i' rfl
@[simp ↓] theorem qsv(x:Operand)(r:List (Nat×Nat×Operand))(K:List D->Prop):mJ σ ((off,sz,x)::r) cs K=((ev σ x).kn=true/\(ev σ x).cells.length=sz/\mJ σ r (setAt cs off (ev σ x).cells) K):=i' rfl
@[simp] theorem qtd:nY n []=True:=i' rfl
@[simp] theorem qrm(r:List D):nY n (d::r)=(d.kn=true/\d.cells.length=n/\nY n r):=i' rfl
def qfC(n lo hi:Nat)(x:Value)(r:Option Res)(K:List D->Prop):Prop:=match r with
 |some (.row x' _ n'' es)=>x'=x/\n''=n/\K ((es.take hi).drop lo)
 | _=>False
@[simp] theorem qAl(K:List D->Prop):qfC n lo hi x (some (.row x' el n' es)) K=(x'=x/\n'=n/\K ((es.take hi).drop lo)):=i' rfl
@[simp] theorem qDM(K:List D->Prop):pQ n (.sub i x n' lo hi) H K=(n'=n/\qfC n lo hi x (H i) K):=by
 simp only[pQ];cases H i with
 |none=>simp[qfC]
 |some r=>cases r<;>simp[qfC,and_left_comm]
@[simp] theorem qAm(K:List D->Prop):yM n (.list n' es) H K=(n'=n/\K es):=i' rfl
@[simp] theorem qAn(K:List D->Prop):yM n (.v (.string s)) H K=(n=1/\K (Kl s)):=i' rfl
def qBe(t el n bytes:Nat)(agg:Bool)(z:List Value)(l c:Option (IntKind×Int))(H:ab)(K:D->ab->Prop):Prop:=match l,c with
 |some (_,l),some (_,c)=>0<=l/\l<=c/\bytes*c<=140737488355328/\c<=140737488355328/\∀x,K (.own t x) (ai H t (some (.row x el n (List.replicate l.toNat (if agg then .agg (z.map yy)else yy (z.headD (.bool false)))))))
 | _,_=>False
@[simp] theorem qEi(c:Int)(K:D->ab->Prop):qBe t el n bytes agg z (some (k,l)) (some (k',c)) H K=(0<=l/\l<=c/\bytes*c<=140737488355328/\c<=140737488355328/\∀x,K (.own t x) (ai H t (some (.row x el n (List.replicate l.toNat (if agg then .agg (z.map yy)else yy (z.headD (.bool false)))))))):=i' rfl
def Gj(sz id b off:Nat)(y:D)(r:Option Res)(H:ab)(K:D->ab->Prop):Prop:=match r with
 |some (.box b' cells)=>b'=b/\off+sz<=cells.length/\K .undef (ai H id (some (.box b' (setAt cells off y.cells))))
 | _=>False
def Gi(sz id:Nat)(x:Value)(n i off:Nat)(y:D)(r:Option Res)(H:ab)(K:D->ab->Prop):Prop:=match r with
 | some (.row x' el n' es)=>x'=x/\n'=n/\0<n/\off+sz<=n/\i<es.length/\∀d,es[i]? =some d->
    K .undef (ai H id (some (.row x' el n' (es.set i (if off=0/\sz=n then y else .agg (setAt d.cells off y.cells))))))
 | _=>False
def Oo(sz:Nat)(d y:D)(H:ab)(K:D->ab->Prop):Prop:=match d with
 | .bptr id b off=>Gj sz id b off y (H id) H K
 | .eptr id x n i off=>Gi sz id x n i off y (H id) H K
 | _=>False
@[simp] theorem quh(y:D)(K:D->ab->Prop):Oo sz (.bptr i b off) y H K=Gj sz i b off y (H i) H K:=i' rfl
@[simp] theorem qug(k:Nat)(y:D)(K:D->ab->Prop):Oo sz (.eptr i x n k off) y H K=Gi sz i x n k off y (H i) H K:=i' rfl
@[simp] theorem quj(y:D)(K:D->ab->Prop):Gj sz i b off y (some (.box b' cells)) H K=(b'=b/\off+sz<=cells.length/\K .undef (ai H i (some (.box b' (setAt cells off y.cells))))):=i' rfl
@[simp] theorem qui(k:Nat)(y:D)(K:D->ab->Prop):Gi sz i x n k off y (some (.row x' el n' es)) H K=(x'=x/\n'=n/\0<n/\off+sz<=n/\k<es.length/\∀d,es[k]? =some d->
 K .undef (ai H i (some (.row x' el n' (es.set k (if off=0/\sz=n then y else .agg (setAt d.cells off y.cells))))))):=i' rfl
def qlL(el n bytes id:Nat)(x:Value)(es2:List D)(r:Option Res)(H:ab)(K:D->ab->Prop):Prop:=match r with
 |some (.row x' el' n' es)=>x'=x/\el'=el/\n'=n/\(es.length+es2.length) *bytes<=140737488355328/\es.length+es2.length<=140737488355328/\∀v,K (.own id v) (ai H id (some (.row v el n (es++es2))))
 | _=>False
def qDj(el n bytes id:Nat)(x:Value)(n' lo hi:Nat)(es2:List D)(r:Option Res)(H:ab)(K:D->ab->Prop):Prop:=match r with
 |some (.row x' el' n'' es)=>x'=x/\el'=el/\n'=n/\n''=n/\lo=0/\(hi+es2.length) *bytes<=140737488355328/\hi+es2.length<=140737488355328/\∀v,K (.own id v) (ai H id (some (.row v el n (es.take hi++es2))))
 | _=>False
def qCD(n id:Nat)(x:Value)(z:D)(r:Option Res)(H:ab)(K:D->ab->Prop):Prop:=match r with
 |some (.row x' el n' es)=>x'=x/\n'=n/\K (.tup []) (ai H id (some (.row x' el n' (List.replicate es.length z))))
 | _=>False
def qlm(n id:Nat)(x:Value)(n' lo hi:Nat)(z:D)(r:Option Res)(H:ab)(K:D->ab->Prop):Prop:=match r with
 |some (.row x' el n'' es)=>x'=x/\n'=n/\n''=n/\K (.tup []) (ai H id (some (.row x' el n'' (es.take lo++List.replicate (hi -lo) z++es.drop hi))))
 | _=>False
def qoN(n:Nat)(z d:D)(H:ab)(K:D->ab->Prop):Prop:=match d with
 | .own id x=>qCD n id x z (H id) H K
 | .sub id x n' lo hi=>qlm n id x n' lo hi z (H id) H K
 | .v (.slice none 0 0)=>K (.tup []) H
 | _=>False
@[simp] theorem qCB(z:D)(K:D->ab->Prop):qoN n z (.sub i x n' lo hi) H K=qlm n i x n' lo hi z (H i) H K:=i' rfl
@[simp] theorem qCC(z:D)(K:D->ab->Prop):qlm n i x n' lo hi z (some (.row x' el n'' es)) H K=(x'=x/\n'=n/\n''=n/\K (.tup []) (ai H i (some (.row x' el n'' (es.take lo++List.replicate (hi -lo) z++es.drop hi))))):=i' rfl
def qCz(n id:Nat)(x:Value)(src:List D)(r:Option Res)(H:ab)(K:D->ab->Prop):Prop:=match r with
 |some (.row x' el n' es)=>x'=x/\n'=n/\K (.v (.int .i64 (min src.length es.length:Nat))) (ai H id (some (.row x' el n' (src.take es.length++es.drop src.length))))
 | _=>False
def qk8(n id:Nat)(x:Value)(n' lo hi:Nat)(src:List D)(r:Option Res)(H:ab)(K:D->ab->Prop):Prop:=match r with
 |some (.row x' el n'' es)=>x'=x/\n'=n/\n''=n/\K (.v (.int .i64 (min src.length (hi -lo):Nat))) (ai H id (some (.row x' el n'' (es.take lo++src.take (hi -lo) ++es.drop (lo+min src.length (hi -lo))))))
 | _=>False
def qoJ(n:Nat)(d:D)(src:List D)(H:ab)(K:D->ab->Prop):Prop:=match d with
 | .own id x=>qCz n id x src (H id) H K
 | .sub id x n' lo hi=>qk8 n id x n' lo hi src (H id) H K
 | _=>False
@[simp] theorem qCx(K:D->ab->Prop):qoJ n (.sub i x n' lo hi) src H K=qk8 n i x n' lo hi src (H i) H K:=i' rfl
@[simp] theorem qCy(K:D->ab->Prop):qk8 n i x n' lo hi src (some (.row x' el n'' es)) H K=(x'=x/\n'=n/\n''=n/\K (.v (.int .i64 (min src.length (hi -lo):Nat))) (ai H i (some (.row x' el n'' (es.take lo++src.take (hi -lo) ++es.drop (lo+min src.length (hi -lo))))))):=i' rfl
@[simp] theorem qDA:TU true z= .agg (z.map yy):=i' rfl
@[simp] theorem qDB:TU false z=yy (z.headD (.bool false)):=i' rfl
def qkr(t:Nat)(x:Value)(id:Nat)(σ:Sg)(r:Option Res)(H:ab)(K:Sg->ab->Prop):Prop:=match r with
 |some (.row x' _ n' es)=>x'=x/\K (qgM id x (.list n' es) σ) (ai H id none)
 | _=>False
def qB5(t b off:Nat)(id:Nat)(σ:Sg)(r:Option Res)(H:ab)(K:Sg->ab->Prop):Prop:=match r with
 |some (.box b' cs)=>b'=b/\K (upd σ t (.cptr cs off)) (ai H id none)
 | _=>False
def qkq(t n:Nat)(x:Value)(id n' lo hi:Nat)(σ:Sg)(r:Option Res)(H:ab)(K:Sg->ab->Prop):Prop:=match r with
 |some (.row x' el n'' es)=>x'=x/\n'=n''/\(if n=0 then lo=0/\∀v,K (upd σ t (.own id v)) (ai H id (some (.row v el n'' (es.take hi))))else K (upd σ t (.list n'' ((es.take hi).drop lo))) (ai H id none))
 | _=>False
def qkp(t n:Nat)(d:D)(σ:Sg)(H:ab)(K:Sg->ab->Prop):Prop:=match d with
 | .own id x=>qkr t x id σ (H id) H K
 | .bptr id b off=>qB5 t b off id σ (H id) H K
 | .v (.slice none 0 0)=>K (upd σ t (.list n [])) H
 | .sub id x n' lo hi=>qkq t n x id n' lo hi σ (H id) H K
 | .agg cs=>K5 cs H λcs' H'=>K (upd σ t (.agg cs')) H'
 | _=>K σ H
@[simp ↓] theorem qFw(K:Sg->ab->Prop):Mc t n σ H K=qkp t n (σ t) σ H K:=i' rfl
@[simp] theorem qBV(K:Sg->ab->Prop):qkp t n (.own i x) σ H K=qkr t x i σ (H i) H K:=i' rfl
@[simp] theorem qBU(K:Sg->ab->Prop):qkp t n (.sub i x n' lo hi) σ H K=qkq t n x i n' lo hi σ (H i) H K:=i' rfl
@[simp] theorem qBX(K:Sg->ab->Prop):qkr t x i σ (some (.row x' el n' es)) H K=(x'=x/\K (qgM i x (.list n' es) σ) (ai H i none)):=i' rfl
@[simp] theorem qBZ(y:Value):M6 id x L (.own i y)=open Classical in (if i=id/\y=x then L else .own i y):=i' rfl
@[simp] theorem qB4:M6 id x L (.any)= .any:=i' rfl
@[simp] theorem qB1:M6 id x L (.agg cs)= .agg cs:=i' rfl
@[simp] theorem qB0:M6 id x L (.list n es)= .list n es:=i' rfl
@[simp] theorem qB2:M6 id x L (.cptr cs o)= .cptr cs o:=i' rfl
@[simp] theorem qB3:M6 id x L (.bptr i b o)= .bptr i b o:=i' rfl
@[simp] theorem qBY(T:List Int):M6 id x L (.tape T)= .tape T:=i' rfl
@[simp] theorem qBW(K:Sg->ab->Prop):qkq t n x i n' lo hi σ (some (.row x' el n'' es)) H K=(x'=x/\n'=n''/\(if n=0 then lo=0/\∀v,K (upd σ t (.own i v)) (ai H i (some (.row v el n'' (es.take hi))))else K (upd σ t (.list n'' ((es.take hi).drop lo))) (ai H i none))):=i' rfl
def qnj(d:D)(K:D->Prop):Prop:=match d with
 | .v (.string s)=>K (.list 1 (s.data.toList.map λc=> .v (.int .u8 c.toNat)))
 | _=>False
@[simp] theorem qAt:qnj (.v (.string s)) K=K (.list 1 (s.data.toList.map λc=> .v (.int .u8 c.toNat))):=i' rfl
def qhZ(t:Nat)(d:D)(H:ab)(K:D->ab->Prop):Prop:=match d with
 | .v (.string s)=>∀b,K (.bptr t b 0) (ai H t (some (.iter b s 0)))
 | _=>False
@[simp] theorem qAk(K:D->ab->Prop):qhZ t (.v (.string s)) H K=∀b,K (.bptr t b 0) (ai H t (some (.iter b s 0))):=i' rfl
def qh2(id b:Nat)(r:Option Res)(H:ab)(K:D->ab->Prop):Prop:=match r with
 |some (.iter b' s pos)=>b'=b/\(pos<s.size->K (.tup [.v (.bool true), .v (.int .i64 pos), .v (.int .i32 (Utf8.decode s pos).1)]) (ai H id (some (.iter b' s (pos+ (Utf8.decode s pos).2)))))/\(¬pos<s.size->K (.tup [.v (.bool false)]) H)
 | _=>False
@[simp] theorem qAp(pos:Nat)(K:D->ab->Prop):qh2 id b (some (.iter b' s pos)) H K=(b'=b/\(pos<s.size->K (.tup [.v (.bool true), .v (.int .i64 pos), .v (.int .i32 (Utf8.decode s pos).1)]) (ai H id (some (.iter b' s (pos+ (Utf8.decode s pos).2)))))/\(¬pos<s.size->K (.tup [.v (.bool false)]) H)):=i' rfl
def qnf(d:D)(H:ab)(K:D->ab->Prop):Prop:=match d with
 | .bptr id b off=>off=0/\qh2 id b (H id) H K
 | _=>False
@[simp] theorem qAo(K:D->ab->Prop):qnf (.bptr i b off) H K=(off=0/\qh2 i b (H i) H K):=i' rfl
def qo6(dst:Option Nat)(el n b:Nat)(d:D)(es2:List D)(H:ab)(K:D->ab->Prop):Prop:=match dst,d with
 |some t, .v (.slice none 0 0)=>es2.length*b<=140737488355328/\es2.length<=140737488355328/\∀v,K (.own t v) (ai H t (some (.row v el n es2)))
 | _,_=>False
@[simp] theorem qDm(K:D->ab->Prop):qo6 (some t) el n b (.v (.slice none 0 0)) es2 H K=(es2.length*b<=140737488355328/\es2.length<=140737488355328/\∀v,K (.own t v) (ai H t (some (.row v el n es2)))):=i' rfl
def qlI(el n b r:Nat)(x:Value)(es2:List D)(q:Option Res)(H:ab)(K:D->ab->Prop):Prop:=match q with
 |some (.row x' el' n' es)=>x'=x/\el'=el/\n'=n/\(es.length+es2.length) *b<=140737488355328/\es.length+es2.length<=140737488355328/\∀v,K (.own r v) (ai H r (some (.row v el n (es++es2))))
 | _=>False
@[simp] theorem qDg(r:Nat)(K:D->ab->Prop):qlI el n b r x es2 (some (.row x' el' n' es)) H K=(x'=x/\el'=el/\n'=n/\(es.length+es2.length) *b<=140737488355328/\es.length+es2.length<=140737488355328/\∀v,K (.own r v) (ai H r (some (.row v el n (es++es2))))):=i' rfl
def qo5(r el n b:Nat)(d:D)(es2:List D)(H:ab)(K:D->ab->Prop):Prop:=match d with
 | .own id x=>id=r/\qlI el n b r x es2 (H r) H K
 | _=>False
@[simp] theorem qDf(r:Nat)(K:D->ab->Prop):qo5 r el n b (.own i x) es2 H K=(i=r/\qlI el n b r x es2 (H r) H K):=i' rfl
def Ya(r sz:Nat)(d y:D)(H:ab)(K:D->ab->Prop):Prop:=match d with
 | .bptr id b off=>id=r/\Gj sz r b off y (H r) H K
 | .eptr id x n i off=>id=r/\Gi sz r x n i off y (H r) H K
 | _=>False
@[simp] theorem qw2(r:Nat)(y:D)(K:D->ab->Prop):Ya r sz (.bptr i b off) y H K=(i=r/\Gj sz r b off y (H r) H K):=i' rfl
@[simp] theorem qw1(r:Nat)(k:Nat)(y:D)(K:D->ab->Prop):Ya r sz (.eptr i x n k off) y H K=(i=r/\Gi sz r x n k off y (H r) H K):=i' rfl
def qDl(dst:Option Nat)(el n bytes:Nat)(es2:List D)(H:ab)(K:D->ab->Prop):Prop:=match dst with
 |some t=>es2.length*bytes<=140737488355328/\es2.length<=140737488355328/\∀v,K (.own t v) (ai H t (some (.row v el n es2)))
 |none=>False
def qlJ(dst:Option Nat)(el n bytes:Nat)(d:D)(es2:List D)(H:ab)(K:D->ab->Prop):Prop:=match d with
 | .own id x=>qlL el n bytes id x es2 (H id) H K
 | .v (.slice none 0 0)=>qDl dst el n bytes es2 H K
 | .sub id x n' lo hi=>qDj el n bytes id x n' lo hi es2 (H id) H K
 | _=>False
@[simp] theorem qDh(K:D->ab->Prop):qlJ dst el n bytes (.own i x) es2 H K=qlL el n bytes i x es2 (H i) H K:=i' rfl
@[simp] theorem qDi(K:D->ab->Prop):qlJ (some t) el n bytes (.v (.slice none 0 0)) es2 H K=(es2.length*bytes<=140737488355328/\es2.length<=140737488355328/\∀v,K (.own t v) (ai H t (some (.row v el n es2)))):=i' rfl
@[simp] theorem qDk(K:D->ab->Prop):qlL el n bytes i x es2 (some (.row x' el' n' es)) H K=(x'=x/\el'=el/\n'=n/\(es.length+es2.length) *bytes<=140737488355328/\es.length+es2.length<=140737488355328/\∀v,K (.own i v) (ai H i (some (.row v el n (es++es2))))):=i' rfl
def EG(S:Nat->Spc)(f:D)(d:Nat)(args:List D)(H:ab)(K:D->ab->Prop):Prop:=match f with
 | .clo g caps=>(S g).pt d (args++caps) H K
 | _=>False
@[simp] theorem qzl(d:Nat)(K:D->ab->Prop):EG S (.clo g caps) d args H K=(S g).pt d (args++caps) H K:=i' rfl
@[congr] theorem quF{r:Nat}{s:Spc}{K:D->ab->Prop}(hs:s=s₁)(q:args=args₁):O3 r dst s args H K=O3 r dst s₁ args₁ H K:=by subst hs;subst q;rfl
@[congr] theorem qxz{s:Spc}{K:D->ab->Prop}(hs:s=s₁)(q:args=args₁):qfV dst s args H K=qfV dst s₁ args₁ H K:=by subst hs;subst q;rfl
section
variable {S:Nat->Spc}{σ:Sg}{H Hr:ab}{K:D->ab->Prop}
@[simp ↓] theorem qCM(dst:Option Nat)(x:Operand):aA S (.mv x) dst σ H K=((λd=>K d H) (ev σ x)):=i' rfl
@[simp ↓] theorem qFa(x:Operand):ax S (.mv x) dst σ Hr H K=((λd=>K d H) (ev σ x)):=i' rfl
@[simp ↓] theorem qCL(x:Operand):aA S (.pick c x y) dst σ H K=(LW (ev σ c) ((λd=>K d H) (ev σ x)) ((λd=>K d H) (ev σ y))):=i' rfl
@[simp ↓] theorem qAI(x:Operand):ax S (.pick c x y) dst σ Hr H K=(LW (ev σ c) ((λd=>K d H) (ev σ x)) ((λd=>K d H) (ev σ y))):=i' rfl
@[simp ↓] theorem qzx(ps:List (Nat×Nat×Operand)):aA S (.build z ps) dst σ H K=(mJ σ ps (z.map yy) λcs=>(λd=>K d H) (.agg cs)):=i' rfl
@[simp ↓] theorem qxu(ps:List (Nat×Nat×Operand)):ax S (.build z ps) dst σ Hr H K=(mJ σ ps (z.map yy) λcs=>(λd=>K d H) (.agg cs)):=i' rfl
@[simp ↓] theorem qv7:aA S (.bslice el n ps) dst σ H K=(nY n (ps.map (ev σ))/\(λd=>K d H) (.list n (ps.map (ev σ)))):=i' rfl
@[simp ↓] theorem quD:ax S (.bslice el n ps) dst σ Hr H K=(nY n (ps.map (ev σ))/\(λd=>K d H) (.list n (ps.map (ev σ)))):=i' rfl
@[simp ↓] theorem qCR(x:Operand):aA S (.load agg sz x) dst σ H K=(L4 agg sz (ev σ x) H (λd=>K d H)):=i' rfl
@[simp ↓] theorem qAJ(x:Operand):ax S (.load agg sz x) dst σ Hr H K=(L4 agg sz (ev σ x) Hr (λd=>K d H)):=i' rfl
@[simp ↓] theorem qzp(x:Operand):aA S (.nilck x) dst σ H K=(qge (ev σ x) (λd=>K d H)):=i' rfl
@[simp ↓] theorem qxp(x:Operand):ax S (.nilck x) dst σ Hr H K=(qge (ev σ x) (λd=>K d H)):=i' rfl
@[simp ↓] theorem qoR(dst:Option Nat)(op:BinOp)(x y:Operand):aA S (.arith op x y) dst σ H K=(QE op (ev σ x) (ev σ y) (λd=>K d H)):=i' rfl
@[simp ↓] theorem qxv(x:Operand):ax S (.arith op x y) dst σ Hr H K=(QE op (ev σ x) (ev σ y) (λd=>K d H)):=i' rfl
@[simp ↓] theorem qv6(dst:Option Nat)(op:BinOp)(x y:Operand):aA S (.cmp op x y) dst σ H K=(qgW op (ev σ x) (ev σ y) (λd=>K d H)):=i' rfl
@[simp ↓] theorem qD4(x:Operand):ax S (.cmp op x y) dst σ Hr H K=(qgW op (ev σ x) (ev σ y) (λd=>K d H)):=i' rfl
@[simp ↓] theorem qEO(x:Operand):aA S (.eql neg agg ks x y) dst σ H K=(qgO neg (qrX agg ks (ev σ x) (ev σ y)) (λd=>K d H)):=i' rfl
@[simp ↓] theorem qD3(x:Operand):ax S (.eql neg agg ks x y) dst σ Hr H K=(qgO neg (qrX agg ks (ev σ x) (ev σ y)) (λd=>K d H)):=i' rfl
@[simp ↓] theorem qCJ(x:Operand):aA S (.scat x y) dst σ H K=(qdk (ev σ x) (ev σ y) (λd=>K d H)):=i' rfl
@[simp ↓] theorem qEI(x:Operand):aA S (.not x) dst σ H K=(qjv (ev σ x) (λd=>K d H)):=i' rfl
@[simp ↓] theorem qDY(x:Operand):ax S (.not x) dst σ Hr H K=(qjv (ev σ x) (λd=>K d H)):=i' rfl
@[simp ↓] theorem qCT(x:Operand):aA S (.conv k x) dst σ H K=(qeC k (ev σ x) (λd=>K d H)):=i' rfl
@[simp ↓] theorem qEP:aA S (.clo f xs) dst σ H K=((λd=>K d H) (.clo f (xs.map (ev σ)))):=i' rfl
@[simp ↓] theorem qzo(x:Operand)(lo hi:Option Operand):aA S (.slice n x lo hi) dst σ H K=(Ou n (ev σ x) (lo.map λo=>yF (ev σ o)) (hi.map λo=>yF (ev σ o)) H (λd=>K d H)):=i' rfl
@[simp ↓] theorem qxo(x:Operand)(lo hi:Option Operand):ax S (.slice n x lo hi) dst σ Hr H K=(Ou n (ev σ x) (lo.map λo=>yF (ev σ o)) (hi.map λo=>yF (ev σ o)) Hr (λd=>K d H)):=i' rfl
@[simp ↓] theorem qv1(x:Operand)(lo hi:Option Operand):aA S (.sslice x lo hi) dst σ H K=(Nn (ev σ x) (lo.map λo=>yF (ev σ o)) (hi.map λo=>yF (ev σ o)) (λd=>K d H)):=i' rfl
@[simp ↓] theorem quB(x:Operand)(lo hi:Option Operand):ax S (.sslice x lo hi) dst σ Hr H K=(Nn (ev σ x) (lo.map λo=>yF (ev σ o)) (hi.map λo=>yF (ev σ o)) (λd=>K d H)):=i' rfl
@[simp ↓] theorem qzu(x:Operand):aA S (.faddr off x) dst σ H K=(Ha off (ev σ x) (λd=>K d H)):=i' rfl
@[simp ↓] theorem qxs(x:Operand):ax S (.faddr off x) dst σ Hr H K=(Ha off (ev σ x) (λd=>K d H)):=i' rfl
@[simp ↓] theorem qEM(x:Operand):aA S (.fld agg sz off x) dst σ H K=(qor agg sz off (ev σ x) (λd=>K d H)):=i' rfl
@[simp ↓] theorem qzt(x i:Operand):aA S (.iaddr n x i) dst σ H K=(G8 n (ev σ i) (ev σ x) H (λd=>K d H)):=i' rfl
@[simp ↓] theorem qxr(x i:Operand):ax S (.iaddr n x i) dst σ Hr H K=(G8 n (ev σ i) (ev σ x) Hr (λd=>K d H)):=i' rfl
@[simp ↓] theorem qCI(x i:Operand):aA S (.sidx x i) dst σ H K=(qdj (ev σ i) (ev σ x) (λd=>K d H)):=i' rfl
@[simp ↓] theorem qEN(x:Operand):aA S (.ext x i) dst σ H K=(qkF (ev σ x) i (λd=>K d H)):=i' rfl
@[simp ↓] theorem qD2(x:Operand):ax S (.ext x i) dst σ Hr H K=(qkF (ev σ x) i (λd=>K d H)):=i' rfl
@[simp ↓] theorem qEL(x:Operand):aA S (.len x) dst σ H K=(VM (ev σ x) H (λd=>K d H)):=i' rfl
@[simp ↓] theorem qD1(x:Operand):ax S (.len x) dst σ Hr H K=(VM (ev σ x) Hr (λd=>K d H)):=i' rfl
@[simp ↓] theorem qCH(x:Operand):aA S (.slen x) dst σ H K=(Yg (ev σ x) (λd=>K d H)):=i' rfl
@[simp ↓] theorem qAH(x:Operand):ax S (.slen x) dst σ Hr H K=(Yg (ev σ x) (λd=>K d H)):=i' rfl
@[simp ↓] theorem qCV(x:Operand):aA S (.bstr x) dst σ H K=(qoW (ev σ x) H (λd=>K d H)):=i' rfl
@[simp ↓] theorem qCK(x:Operand):aA S (.rstr x) dst σ H K=(qnn (ev σ x) (λd=>K d H)):=i' rfl
@[simp ↓] theorem qEK(x:Operand):aA S (.mm mx [x,y]) dst σ H K=qjB mx (ev σ x) (ev σ y) (λd=>K d H):=i' rfl
@[simp ↓] theorem qCW(x:Operand):aA S (.box el true x) dst σ H K=((ev σ x).kn=true/\K (.cptr (ev σ x).cells 0) H):=i' rfl
@[simp ↓] theorem qzy:aA S (.alloc el z) (some t) σ H K=∀b,K (.bptr t b 0) (ai H t (some (.box b (z.map yy)))):=i' rfl
@[simp ↓] theorem qEQ(x:Operand):aA S (.box el false x) (some t) σ H K=((ev σ x).kn=true/\∀b,K (.bptr t b 0) (ai H t (some (.box b (ev σ x).cells)))):=i' rfl
@[simp ↓] theorem qv4:aA S (.mslice el n ps) (some t) σ H K=(nY n (ps.map (ev σ))/\∀x,K (.own t x) (ai H t (some (.row x el n (ps.map (ev σ)))))):=i' rfl
@[simp ↓] theorem qtA(l:Operand):aA S (.mkslice el n bytes agg z l c) (some t) σ H K=qBe t el n bytes agg z (yF (ev σ l)) (yF (ev σ c)) H K:=i' rfl
@[simp ↓] theorem qD0(x:Operand):ax S (.mm mx [x,y]) dst σ Hr H K=qjB mx (ev σ x) (ev σ y) (λd=>K d H):=i' rfl
@[simp ↓] theorem qxw:ax S (.alloc el z) (some t) σ Hr H K=∀b,K (.bptr t b 0) (ai H t (some (.box b (z.map yy)))):=i' rfl
@[simp ↓] theorem quC:ax S (.nslice el n) (some t) σ Hr H K=∀x,K (.own t x) (ai H t (some (.row x el n []))):=i' rfl
@[simp ↓] theorem qta(l:Operand):ax S (.mkslice el n bytes agg z l c) (some t) σ Hr H K=qBe t el n bytes agg z (yF (ev σ l)) (yF (ev σ c)) H K:=i' rfl
@[simp ↓] theorem qv3(x:Operand):aA S (.sbytes x) dst σ H K=qnj (ev σ x) (λd=>K d H):=i' rfl
@[simp ↓] theorem qv2(x:Operand):aA S (.srange x) (some t) σ H K=qhZ t (ev σ x) H K:=by
 simp only[aA,bK,qhZ];split<;>simp_all
@[simp ↓] theorem qzn(x:Operand):aA S (.snext x) dst σ H K=qnf (ev σ x) H K:=i' rfl
@[simp ↓] theorem qxn(r:Nat)(x:Operand):ax S (.store (some r) sz x y) dst σ Hr H K=((ev σ y).kn=true/\(ev σ y).cells.length=sz/\Ya r sz (ev σ x) (ev σ y) H K):=by
 simp only[ax];congr 2
@[simp ↓] theorem qzm(x:Operand):aA S (.store rt sz x y) dst σ H K=((ev σ y).kn=true/\(ev σ y).cells.length=sz/\Oo sz (ev σ x) (ev σ y) H K):=i' rfl
@[simp ↓] theorem qv8(x:Operand):aA S (.append rt el n bytes x y) dst σ H K=yM n (ev σ y) H λes2=>qlJ dst el n bytes (ev σ x) es2 H K:=i' rfl
@[simp ↓] theorem qtc(x:Operand):ax S (.append none el n bytes x y) dst σ Hr H K=yM n (ev σ y) Hr λes2=>qo6 dst el n bytes (ev σ x) es2 H K:=by
 simp only[ax];congr 1
@[simp ↓] theorem qtb(r:Nat)(x:Operand):ax S (.append (some r) el n bytes x y) dst σ Hr H K=yM n (ev σ y) Hr λes2=>qo5 r el n bytes (ev σ x) es2 H K:=by
 simp only[ax];congr 1
@[simp ↓] theorem qzv(x:Operand):aA S (.clear n agg z x) dst σ H K=qoN n (TU agg z) (ev σ x) H K:=i' rfl
@[simp ↓] theorem qCS(x:Operand):aA S (.copy n x y) dst σ H K=pQ n (ev σ y) H λsrc=>qoJ n (ev σ x) src H K:=i' rfl
@[simp ↓] theorem qCU(args:List Operand):aA S (.call f args) dst σ H K=(S f).pt (dst.getD 0) (args.map (ev σ)) H K:=i' rfl
@[simp ↓] theorem qxt(r:Nat)(args:List Operand):ax S (.callb r f args) dst σ Hr H K=O3 r dst (S f) (args.map (ev σ)) H K:=i' rfl
@[simp ↓] theorem qzw(f:Operand)(args:List Operand):aA S (.callv f args) dst σ H K=EG S (ev σ f) (dst.getD 0) (args.map (ev σ)) H K:=i' rfl
@[simp ↓] theorem qAK(args:List Operand):ax S (.call f args) dst σ Hr H K=qfV dst (S f) (args.map (ev σ)) H K:=i' rfl
end
def qt7(σ:Sg)(t s:Nat)(d:D):upd σ t d s=if s=t then d else σ s:=i' rfl
def qbk(σ:Sg)(t:Nat)(d:D):gx σ (some t) d=upd σ t d:=i' rfl
def qqF(σ:Sg)(d:D):gx σ none d=σ:=i' rfl
def qqG(H:ab)(t s:Nat)(d:Option Res):ai H t d s=if s=t then d else H s:=i' rfl
attribute [simp] qbk qqF qqG
@[simp] theorem qhB(σ:Sg)(t:Nat):ev σ (.tmp t)=σ t:=i' rfl
@[simp] theorem qm5(σ:Sg)(x:Value):ev σ (.const x)=yy x:=i' rfl
@[simp] theorem qAh:ev σ (.func f)= .clo f []:=i' rfl
@[simp] theorem qAi(b:Bool):yy (.bool b)= .v (.bool b):=i' rfl
@[simp] theorem qt4(k:IntKind)(n:Int):yy (.int k n)= .v (.int k n):=i' rfl
@[simp] theorem qDE:yy (.string s)= .v (.string s):=i' rfl
@[simp] theorem qDF(a:Option Addr):yy (.pointer a)= .v (.pointer a):=i' rfl
@[simp] theorem qwT(a:Option Addr)(l c:Nat):yy (.slice a l c)= .v (.slice a l c):=i' rfl
def qrJ(t:Nat)(l:List Nat)(σ:Sg):jK (t::l) σ=upd (jK l σ) t (σ t):=i' rfl
@[simp] theorem qBB:jL [] H=λ_=>none:=i' rfl
@[simp] theorem qn2(t:Nat)(l:List Nat)(H:ab):jL (t::l) H=ai (jL l H) t (H t):=i' rfl
@[simp] theorem qAU:bS i=none:=i' rfl
@[simp] theorem qBp:pr [] σ=True:=i' rfl
@[simp] theorem qxX(l:List (Nat×D)):pr ((t,d)::l) σ=(WL (σ t) d/\pr l σ):=i' rfl
@[simp] theorem qBc:vt [] H=True:=i' rfl
@[simp] theorem qxM(d:Res)(l:List (Nat×Res)):vt ((t,d)::l) H=((H t=some d\/isNilRow d)/\vt l H):=i' rfl
@[simp] theorem sub_self(d:D):WL d d=True:=by
 cases d<;>simp[WL]
@[simp] theorem qDL(a:D):WL a (.v x)=(a= .v x):=i' rfl
@[simp] theorem qud(a:D)(x:List D):WL a (.list n x)=(a= .list n x\/(a= .v (.slice none 0 0)/\x=[])):=i' rfl
@[simp] theorem qw0(a:D):WL a .any=True:=i' rfl
@[simp] theorem que(a:D):WL a (.cptr cs o)=(a= .cptr cs o):=i' rfl
@[simp] theorem qwZ(y:Value):WL (.own i x) (.own j y)=(x=y):=by simp[WL]
@[simp] theorem quc(y:Value):WL (.v x) (.own j y)=(x=y):=by simp[WL]
@[simp] theorem qFk:Tg true sz cs off= .agg ((cs.drop off).take sz):=i' rfl
@[simp] theorem qFl:Tg false sz cs off=(cs[off]?).getD .any:=i' rfl
@[simp ↓] theorem qxl(rs:List aj)(K:D->ab->Prop):vE rs K .norm σ H=Bm rs σ H λds=>K (lC ds) H:=i' rfl
@[simp ↓] theorem qAF(rs:List aj)(K:D->ab->Prop):vE rs K .ret σ H=Bm rs σ H λds=>K (lC ds) H:=i' rfl
@[simp ↓] theorem qAE(K:List D->Prop):Bm [] σ H K=K []:=i' rfl
@[simp ↓] theorem qAD(r:List aj)(K:List D->Prop):Bm (.tmp t::r) σ H K=Bm r σ H λds=>K (σ t::ds):=i' rfl
@[simp ↓] theorem qxk(r:List aj)(K:List D->Prop):Bm (.cell t agg sz::r) σ H K=L4 agg sz (σ t) H λd=>Bm r σ H λds=>K (d::ds):=i' rfl
@[simp] theorem qFd:lC [d]=d:=i' rfl
@[simp] theorem qFe:lC []= .tup []:=i' rfl
@[simp] theorem qFc(l:List D):lC (d::e::l)= .tup (d::e::l):=i' rfl
@[simp] theorem qFn:D.kn (.v x)=true:=i' rfl
@[simp] theorem qzj:D.cells (.v x)=[.v x]:=i' rfl
@[simp] theorem qBA:D.kn (.agg cs)=true:=i' rfl
@[simp] theorem qtz:D.cells (.agg cs)=cs:=i' rfl
@[simp] theorem qx9:D.kn (.list n es)=true:=i' rfl
@[simp] theorem qsp:D.cells (.list n es)=[.list n es]:=i' rfl
@[simp] theorem qya:D.kn (.cptr cs o)=true:=i' rfl
@[simp] theorem qsq:D.cells (.cptr cs o)=[.cptr cs o]:=i' rfl
@[simp] theorem qBy:D.kn (.own i x)=true:=i' rfl
@[simp] theorem qtx:D.cells (.own i x)=[.own i x]:=i' rfl
@[simp] theorem qBx(k:Nat):D.kn (.sub i v n k o)=true:=i' rfl
@[simp] theorem qtw(k:Nat):D.cells (.sub i v n k o)=[.sub i v n k o]:=i' rfl
@[simp] theorem qBz:D.kn (.clo f cs)=true:=i' rfl
@[simp] theorem qty:D.cells (.clo f cs)=[.clo f cs]:=i' rfl
@[simp] theorem qET(n:Int):yF (.v (.int k n))=some (k,n):=i' rfl
attribute [simp] setAt
@[simp] theorem qCl(n:Int):enc n= .v (.int .i64 n):=rfl
@[simp] theorem qyZ(b:Bool):enc b= .v (.bool b):=rfl
@[simp] theorem qCk:enc s= .v (.string s):=rfl
@[simp] theorem qyY{X:Type}[Cod X](l:List X):enc l= .list (Cod.wd X) (l.map enc):=rfl
@[simp] theorem qAa:Cod.wd Int=1:=rfl
@[simp] theorem qwK:Cod.wd Bool=1:=rfl
@[simp] theorem qz9:Cod.wd ByteArray=1:=rfl
@[simp] theorem qwJ{X:Type}[Cod X]:Cod.wd (List X)=1:=rfl
@[congr] theorem qym(q:d=d₁):RU d A B=RU d₁ A B:=by subst q;rfl
@[congr] theorem qtq{s:Nat}{b:Bool}(q:d=d₁):qG s b σ d yes no=qG s b σ d₁ yes no:=by subst q;rfl
@[congr] theorem quH(q:d=d₁):LW d A B=LW d₁ A B:=by subst q;rfl
@[congr] theorem qu4(q:r=r₁):Zn agg sz b off r K=Zn agg sz b off r₁ K:=by subst q;rfl
@[congr] theorem qu3(q:r=r₁):Zm agg sz x n i off r K=Zm agg sz x n i off r₁ K:=by subst q;rfl
@[congr] theorem qu2(q:d=d₁):L4 agg sz d H K=L4 agg sz d₁ H K:=by subst q;rfl
@[congr] theorem qxF(q:d=d₁):qge d K=qge d₁ K:=by subst q;rfl
@[congr] theorem qtK(q:d=d₁)(he:e=e₁):QE op d e K=QE op d₁ e₁ K:=by subst q;subst he;rfl
@[congr] theorem qxg(q:d=d₁):qnn d K=qnn d₁ K:=by subst q;rfl
@[congr] theorem qzf{o:Option Bool}{q:Option Bool}(ho:o=q):qcI o K=qcI q K:=by subst ho;rfl
@[congr] theorem qze(q:d=d₁)(he:e=e₁):qgW op d e K=qgW op d₁ e₁ K:=by subst q;subst he;rfl
@[congr] theorem qyP{o:Option Bool}{q:Option Bool}(ho:o=q):qgO neg o K=qgO neg q K:=by subst ho;rfl
@[congr] theorem qut(q:d=d₁)(he:e=e₁):qdk d e K=qdk d₁ e₁ K:=by subst q;subst he;rfl
@[congr] theorem qxE(q:d=d₁):qjv d K=qjv d₁ K:=by subst q;rfl
@[congr] theorem qvR(q:d=d₁):qeC k d K=qeC k d₁ K:=by subst q;rfl
@[congr] theorem qts(q:d=d₁):Ha off d K=Ha off d₁ K:=by subst q;rfl
@[congr] theorem qyy(q:d=d₁):qor agg sz off d K=qor agg sz off d₁ K:=by subst q;rfl
@[congr] theorem qto{k:Int}(q:r=r₁):PU n k id x r K=PU n k id x r₁ K:=by subst q;rfl
@[congr] theorem qtn{i:D}(hi:i=i₁)(q:d=d₁):G8 n i d H K=G8 n i₁ d₁ H K:=by subst hi;subst q;rfl
@[congr] theorem qus{i:D}(hi:i=i₁)(q:d=d₁):qdj i d K=qdj i₁ d₁ K:=by subst hi;subst q;rfl
@[congr] theorem qyG{o:Option D}{q:Option D}(ho:o=q):qkG o K=qkG q K:=by subst ho;rfl
@[congr] theorem qyF(q:d=d₁):qkF d i K=qkF d₁ i K:=by subst q;rfl
@[congr] theorem qx7(q:r=r₁):qjU x r K=qjU x r₁ K:=by subst q;rfl
@[congr] theorem qx6(q:d=d₁):VM d H K=VM d₁ H K:=by subst q;rfl
@[congr] theorem qzD(q:r=r₁):qlr x r K=qlr x r₁ K:=by subst q;rfl
@[congr] theorem qzC(q:d=d₁):qoW d H K=qoW d₁ H K:=by subst q;rfl
@[congr] theorem qur(q:d=d₁):Yg d K=Yg d₁ K:=by subst q;rfl
@[congr] theorem qxN(q:d=d₁)(he:e=e₁):qjB mx d e K=qjB mx d₁ e₁ K:=by subst q;subst he;rfl
@[congr] theorem qw5{K:List D->Prop}(q:r=r₁):qfC n lo hi x r K=qfC n lo hi x r₁ K:=by subst q;rfl
@[congr] theorem qs6{y:D}{K:D->ab->Prop}(q:y=y₁)(u:r=r₁):Gj sz id b off y r H K=Gj sz id b off y₁ r₁ H K:=by subst q;subst u;rfl
@[congr] theorem qs5{y:D}{K:D->ab->Prop}(q:y=y₁)(u:r=r₁):Gi sz id x n i off y r H K=Gi sz id x n i off y₁ r₁ H K:=by subst q;subst u;rfl
@[congr] theorem qs4{y:D}{K:D->ab->Prop}(q:d=d₁)(u:y=y₁):Oo sz d y H K=Oo sz d₁ y₁ H K:=by subst q;subst u;rfl
@[congr] theorem qzN{K:D->ab->Prop}(q:es2=es2₁)(u:r=r₁):qlL el n bytes id x es2 r H K=qlL el n bytes id x es2₁ r₁ H K:=by subst q;subst u;rfl
@[congr] theorem qzh{z:D}{K:D->ab->Prop}(hz:z=z₁)(q:r=r₁):qlm n id x n' lo hi z r H K=qlm n id x n' lo hi z₁ r₁ H K:=by subst hz;subst q;rfl
@[congr] theorem qzg{z:D}{K:D->ab->Prop}(hz:z=z₁)(q:d=d₁):qoN n z d H K=qoN n z₁ d₁ H K:=by subst hz;subst q;rfl
@[congr] theorem qzc{K:D->ab->Prop}(q:src=src₁)(u:r=r₁):qk8 n id x n' lo hi src r H K=qk8 n id x n' lo hi src₁ r₁ H K:=by subst q;subst u;rfl
@[congr] theorem qzb{K:D->ab->Prop}(u:d=d₁)(q:src=src₁):qoJ n d src H K=qoJ n d₁ src₁ H K:=by subst u;subst q;rfl
@[congr] theorem qyv{K:Sg->ab->Prop}(q:r=r₁):qkr t x id σ r H K=qkr t x id σ r₁ H K:=by subst q;rfl
@[congr] theorem qyu{K:Sg->ab->Prop}(q:r=r₁):qkq t n x id n' lo hi σ r H K=qkq t n x id n' lo hi σ r₁ H K:=by subst q;rfl
@[congr] theorem qys{K:Sg->ab->Prop}(q:d=d₁):qkp t n d σ H K=qkp t n d₁ σ H K:=by subst q;rfl
@[congr] theorem qxe(q:d=d₁):qnj d K=qnj d₁ K:=by subst q;rfl
@[congr] theorem qw4{K:D->ab->Prop}(q:d=d₁):qhZ t d H K=qhZ t d₁ H K:=by subst q;rfl
@[congr] theorem qw9{K:D->ab->Prop}(q:r=r₁):qh2 id b r H K=qh2 id b r₁ H K:=by subst q;rfl
@[congr] theorem qw8{K:D->ab->Prop}(q:d=d₁):qnf d H K=qnf d₁ H K:=by subst q;rfl
@[congr] theorem qzO{K:D->ab->Prop}(q:dst=dst₁)(w:d=d₁)(u:es2=es2₁):qo6 dst el n b d es2 H K=qo6 dst₁ el n b d₁ es2₁ H K:=by subst q;subst w;subst u;rfl
@[congr] theorem qzL{r:Nat}{q:Option Res}{K:D->ab->Prop}{u:Option Res}(w:es2=es2₁)(C:q=u):qlI el n b r x es2 q H K=qlI el n b r x es2₁ u H K:=by subst w;subst C;rfl
@[congr] theorem qzK{r:Nat}{K:D->ab->Prop}(u:d=d₁)(q:es2=es2₁):qo5 r el n b d es2 H K=qo5 r el n b d₁ es2₁ H K:=by subst u;subst q;rfl
@[congr] theorem quk{r:Nat}{y:D}{K:D->ab->Prop}(q:d=d₁)(u:y=y₁):Ya r sz d y H K=Ya r sz d₁ y₁ H K:=by subst q;subst u;rfl
@[congr] theorem qzM{K:D->ab->Prop}(q:dst=dst₁)(w:d=d₁)(u:es2=es2₁):qlJ dst el n bytes d es2 H K=qlJ dst₁ el n bytes d₁ es2₁ H K:=by subst q;subst w;subst u;rfl
@[congr] theorem qv0{f:D}{d:Nat}{K:D->ab->Prop}(u:f=f₁)(q:args=args₁):EG S f d args H K=EG S f₁ d args₁ H K:=by subst u;subst q;rfl
@[congr] theorem qum{K:List D->Prop}(h:d=d'):pQ n d H K=pQ n d' H K:=by subst h;rfl
@[congr] theorem qw6{K:List D->Prop}(h:d=d'):yM n d H K=yM n d' H K:=by subst h;rfl
@[congr] theorem qtM{s u:Spc}{d:Nat}{q:List D}{K:D->ab->Prop}(h:s=u)(w:ds=q):s.pt d ds H K=u.pt d q H K:=by subst h;subst w;rfl
@[congr] theorem qvO{lo hi q u:Option (Option (IntKind×Int))}{K:Nat->Nat->Prop}(h1:lo=q)(h2:hi=u)(h3:n=n'):xq lo hi n K=xq q u n' K:=by subst h1;subst h2;subst h3;rfl
end
section
open Cod (enc dec)
variable {dq:Prop}
@[simp] theorem qvk(H:ab)(x y:Value):FrzTo H (.v x) (.v y)=(x=y):=by
 refine propext ⟨λh=>?_,λh=>h ▸ .same _⟩;cases h;rfl
@[simp] theorem qyr(H:ab)(d:D):FrzTo H d d=True:=propext ⟨λ_=>trivial,λ_=> .same d⟩
@[simp] theorem qBT(H:ab)(n:Nat)(es:List D):FrzTo H (.v (.slice none 0 0)) (.list n es)=(es=[]):=by
 refine propext ⟨λh=>?_,λh=>h ▸ .nil n⟩;cases h;rfl
def qoj{H:ab}{a b h b':D}(h1:FrzTo H a h)(h2:FrzTo H b b'):FrzTo H (.tup [a,b]) (.tup [h,b']):=
 .tup rfl λk c c' hc d=>by
  match k with
  | 0=>simp at hc d;subst hc;subst d;exact h1
  | 1=>simp at hc d;subst hc;subst d;exact h2
  |k+2=>simp at hc
def qoi{H:ab}{a b c j b' c':D}(h1:FrzTo H a j)(h2:FrzTo H b b')(h3:FrzTo H c c'):FrzTo H (.tup [a,b,c]) (.tup [j,b',c']):=
 .tup rfl λk d l hc h=>by
  match k with
  | 0=>simp at hc h;subst hc;subst h;exact h1
  | 1=>simp at hc h;subst hc;subst h;exact h2
  | 2=>simp at hc h;subst hc;subst h;exact h3
  |k+3=>simp at hc
section
variable {P:Program}{S:Nat->Spc}{f:Nat}{im:List Nat}{cc:CC}{rs:List aj}{N:Nat}
end
end
end Go.Gv
