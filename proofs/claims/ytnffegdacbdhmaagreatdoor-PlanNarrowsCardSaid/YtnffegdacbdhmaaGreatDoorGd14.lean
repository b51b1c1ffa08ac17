/- G -/
import Derived.Test.YtnffegdacbdhmaaGreatDoorProg
import Derived.Test.YtnffegdacbdhmaaGreatDoorGd13
set_option linter.all false
set_option maxRecDepth 100000
set_option maxHeartbeats 0
namespace Go.Gv
namespace G
variable {α:Type}
def fc(n:Nat)(f:Nat->α):α:=match n with
 | 0=>f 0
 |k+1=>f (k+1)
def bt(t:Nat):Nat:=Nat.shiftLeft 1 t
def oM:Operand->Nat
 | .tmp t=>bt t
 | _=>0
def qym:List Operand->Nat
 | []=>0
 |o::l=>Nat.lor (oM o) (qym l)
def qx9:CI->Nat
 | .op _ g c=>Nat.lor (qym c.ops) (match g with|some (s,_)=>bt s|none=>0)
 | .frz _ _=>0
def rm(m t:Nat):Nat:=Nat.sub m (Nat.land m (bt t))
def qsH:List CI->Nat->Nat
 | [],o=>o
 | x::l,o=>fc (qsH l o) λo=>match x with
   | .op (some d) g c=>Nat.lor (rm o d) (qx9 (.op (some d) g c))
   | .op none g c=>Nat.lor o (qx9 (.op none g c))
   | .frz _ _=>o
def lk:List (Nat×Nat)->Nat->Nat
 | [],_=>0
 | (i,m)::l,k=>match Nat.beq i k with
  |true=>m
  |false=>lk l k
def qv8:Nat->(Nat->Nat)->Nat->Nat
 | 0,_,c=>c
 | n+1,f,c=>fc (Nat.lor c (f c)) λd=>match Nat.beq d c with
   |true=>d
   |false=>qv8 n f d
def lv(r:Nat):CC->List (Nat×Nat)->Nat->Nat
 | .skip,_,o=>o
 | .reg l,_,o=>qsH l o
 | .regd p t,_,o=>fc (qsH t o) (qsH p)
 | .seq a b,e,o=>fc (lv r b e o) (lv r a e)
 | .ite c a b,e,o=>Nat.lor (Nat.lor (lv r a e o) (lv r b e o)) (oM c)
 | .block i b,e,o=>lv r b ((i,o)::e) o
 | .loop _ b,e,_=>qv8 50 (lv r b e) 0
 | .exit i,e,_=>lk e i
 | .ret,_,_=>r
 | .cut _ c,e,o=>lv r c e o
 | .keep _ _ c,e,o=>lv r c e o
def gt(W x t:Nat):Nat:=Nat.land (Nat.shiftRight x (Nat.mul t W)) (Nat.sub (bt W) 1)
def ad(W x t m:Nat):Nat:=Nat.lor x (Nat.shiftLeft m (Nat.mul t W))
def hO(W h:Nat):Operand->Nat
 | .tmp t=>gt W h t
 | _=>0
def qom(W h:Nat):List Operand->Nat
 | []=>0
 |o::l=>Nat.lor (hO W h o) (qom W h l)
def qhc:Nat->Nat->Nat->List Nat
 | 0,_,_=>[]
 | n+1,i,m=>match Nat.beq m 0 with
   |true=>[]
   | false=>match Nat.beq (Nat.land m 1) 1 with
     |true=>i::qhc n (i+1) (Nat.shiftRight m 1)
     |false=>qhc n (i+1) (Nat.shiftRight m 1)
def bl(m:Nat):List Nat:=qhc 1000 0 m
def qdi(f:Nat->Nat):List Nat->Nat
 | []=>0
 |i::l=>Nat.lor (f i) (qdi f l)
def qlR(W:Nat)(f:Nat->Nat):List Nat->Nat->Nat
 | [],c=>c
 |i::l,c=>fc (ad W c i (f i)) (qlR W f l)
def qzh(W:Nat)(x:CI)(h c:Nat)(K:Nat->Nat->α):α:=match x with
 | .frz _ _=>K h c
 | .op d _ o=>
   let put (m:Nat):α:=match d with
    |some d=>fc (ad W h d m) λh=>K h c
    |none=>K h c
   let own:Nat:=match d with
    |some d=>bt d
    |none=>0
   let cal (s:Nat):α:=fc s λs=>fc (qlR W (λi=>rm s i) (bl s) c) λc=>match d with
    |some d=>fc (ad W h d s) λh=>K h c
    |none=>K h c
   match o with
   | .alloc _ _=>put own
   | .nslice _ _=>put own
   | .mslice _ _ _=>put own
   | .mkslice _ _ _ _ _ _ _=>put own
   | .srange _=>put own
   | .appmk _ _ _ _ _ _ _=>put own
   | .m .mk _=>put own
   | .m .rng (x::_)=>fc (qlR W (λ_=>hO W h x) (bl own) c) λc=>match d with
     |some d=>fc (ad W h d own) λh=>K h c
     |none=>K h c
   | .m (.del _ _) _=>K h c
   | .m .len _=>K h c
   | .m (.upd _ _) (x::ys)=>fc (qom W h ys) λv=>fc (qlR W (λ_=>v) (bl (hO W h x)) c) λc=>K h c
   | .m (.look _ _ _ _ _) (x::_)=>put (qdi (gt W c) (bl (hO W h x)))
   | .m .entry (x::_)=>put (qdi (gt W c) (bl (hO W h x)))
   | .load _ _ x=>put (qdi (gt W c) (bl (hO W h x)))
   | .tbx _ x=>fc (qlR W (λ_=>hO W h x) (bl own) c) λc=>match d with
     |some d=>fc (ad W h d own) λh=>K h c
     |none=>K h c
   | .box _ false x=>fc (qlR W (λ_=>hO W h x) (bl own) c) λc=>match d with
     |some d=>fc (ad W h d own) λh=>K h c
     |none=>K h c
   | .store _ _ x y=>fc (hO W h y) λv=>fc (qlR W (λ_=>v) (bl (hO W h x)) c) λc=>K h c
   | .append _ _ _ _ x _=>put (Nat.lor own (hO W h x))
   | .call _ xs=>cal (qom W h xs)
   | .callb _ _ xs=>cal (qom W h xs)
   | .callv f xs=>put (Nat.lor (qom W h xs) (hO W h f))
   |o=>put (qom W h o.ops)
def qkF(W:Nat):List CI->Nat->Nat->(Nat->Nat->α)->α
 | [],h,c,K=>K h c
 |x::l,h,c,K=>qzh W x h c λh c=>qkF W l h c K
def qlN(W:Nat):CC->Nat->Nat->(Nat->Nat->α)->α
 | .reg l,h,c,K=>qkF W l h c K
 | .regd p t,h,c,K=>qkF W p h c λh c=>qkF W t h c K
 | .seq a b,h,c,K=>qlN W a h c λh c=>qlN W b h c K
 | .ite _ a b,h,c,K=>qlN W a h c λh c=>qlN W b h c K
 | .block _ b,h,c,K=>qlN W b h c K
 | .loop _ b,h,c,K=>qlN W b h c K
 | _,h,c,K=>K h c
def fx(W:Nat)(cc:CC):Nat->Nat->Nat->(Nat->Nat->α)->α
 | 0,h,c,K=>K h c
 | n+1,h,c,K=>qlN W cc h c λh' c'=>match Nat.beq h h' with
   |false=>fx W cc n h' c' K
   | true=>match Nat.beq c c' with
     |false=>fx W cc n h' c' K
     |true=>K h c
def cl(W c:Nat):Nat->Nat->Nat
 | 0,s=>s
 | n+1,s=>fc (Nat.lor s (qdi (gt W c) (bl s))) λt=>match Nat.beq t s with
   |true=>s
   |false=>cl W c n t
def qpU:Value->Bool
 | .int .i64 k=>decide (k=1)
 | _=>false
def qzB:List CI->Option (Nat×Nat×Nat)
 | [.op (some c) none (.cmp .lss (.tmp i) (.tmp n))]=>some (c,i,n)
 | _=>none
def qs4:List CI->Option (Nat×Nat)
 | [.op (some i2) none (.arith .add (.tmp i) (.const v)), .op (some j) none (.mv (.tmp j2))]=>match qpU v && Nat.beq i j && Nat.beq i2 j2 with
   |true=>some (i2,i)
   |false=>none
 | _=>none
def qv9(id:Nat):CC->Option (Nat×Nat×Nat×Nat×Nat)
 | .loop _ (.seq (.reg l) (.seq (.ite (.tmp c2) .skip (.exit id3)) (.seq (.block id2 _) (.reg l2))))=>match qzB l,qs4 l2 with
   | some (c,i,n),some (i2,j)=>match Nat.beq id id3 && Nat.beq c c2 && Nat.beq i j with
     |true=>some (i,n,c,id2,i2)
     |false=>none
   | _,_=>none
 | _=>none
def qj6:CC->Nat
 | .seq a b=>qj6 a+qj6 b+1
 | .ite _ a b=>qj6 a+qj6 b
 | .block i b=>match qv9 i b with
   |some _=>qj6 b -3
   |none=>qj6 b
 | .loop _ b=>qj6 b
 | _=>0
def nN:CC->Nat
 | .seq a b=>nN a+nN b
 | .ite _ a b=>nN a+nN b
 | .block i b=>match qv9 i b with
   |some _=>nN b -1
   |none=>nN b
 | .loop _ b=>nN b+1
 | _=>0
def uk:CC->CC
 | .keep _ _ c=>c
 |c=>c
def qzK(b:CC):CC:=match b with
 | .loop _ b=>match uk b with
   | .seq _ b=>match uk b with
     | .seq _ b=>match uk b with
       | .seq a _=>match uk a with
         | .block _ b=>b
         | _=> .skip
       | _=> .skip
     | _=> .skip
   | _=> .skip
 | _=> .skip
section
variable (f:Operand->Operand)(z:List Value->List Value)
def pC:COp->COp
 | .mv x=> .mv (f x)
 | .pick c x y=> .pick (f c) (f x) (f y)
 | .alloc el l=> .alloc el (z l)
 | .box el im x=> .box el im (f x)
 | .tbx el x=> .tbx el (f x)
 | .build l ps=> .build (z l) (ps.map λp=>(p.1,p.2.1,f p.2.2))
 | .bslice el n ps=> .bslice el n (ps.map f)
 | .nslice el n=> .nslice el n
 | .mslice el n ps=> .mslice el n (ps.map f)
 | .load a s x=> .load a s (f x)
 | .store r s x y=> .store r s (f x) (f y)
 | .nilck x=> .nilck (f x)
 | .arith o x y=> .arith o (f x) (f y)
 | .cmp o x y=> .cmp o (f x) (f y)
 | .eql n a ks x y=> .eql n a ks (f x) (f y)
 | .scat x y=> .scat (f x) (f y)
 | .not x=> .not (f x)
 | .neg x=> .neg (f x)
 | .conv k x=> .conv k (f x)
 | .clo g l=> .clo g (l.map f)
 | .mkslice el n b a l x y=> .mkslice el n b a (z l) (f x) (f y)
 | .slice n x l h=> .slice n (f x) (l.map f) (h.map f)
 | .sslice x l h=> .sslice (f x) (l.map f) (h.map f)
 | .faddr o x=> .faddr o (f x)
 | .fld a s o x=> .fld a s o (f x)
 | .iaddr n x i=> .iaddr n (f x) (f i)
 | .sidx x i=> .sidx (f x) (f i)
 | .ext x i=> .ext (f x) i
 | .len x=> .len (f x)
 | .slen x=> .slen (f x)
 | .mm m l=> .mm m (l.map f)
 | .append r el n b x y=> .append r el n b (f x) (f y)
 | .appmk el n b a l x y=> .appmk el n b a (z l) (f x) (f y)
 | .clear n a l x=> .clear n a (z l) (f x)
 | .copy n x y=> .copy n (f x) (f y)
 | .cap x=> .cap (f x)
 | .srange x=> .srange (f x)
 | .snext x=> .snext (f x)
 | .sbytes x=> .sbytes (f x)
 | .srunes x=> .srunes (f x)
 | .bstr x=> .bstr (f x)
 | .rstr x=> .rstr (f x)
 | .mkif t x=> .mkif t (f x)
 | .m (.look ok a ka ks l) xs=> .m (.look ok a ka ks (z l)) (xs.map f)
 | .m o xs=> .m o (xs.map f)
 | .bad=> .bad
 | .call g l=> .call g (l.map f)
 | .callv g l=> .callv (f g) (l.map f)
 | .callb r g l=> .callb r g (l.map f)
def pL(fz:List (Nat×Nat)):List CI->List CI
 | []=>[]
 | .op (some d) g c::l=>match fz.lookup d with
   |some n=> .op (some d) g (pC f z c):: .frz d n::pL fz l
   |none=> .op (some d) g (pC f z c)::pL fz l
 | .op none g c::l=> .op none g (pC f z c)::pL fz l
 | .frz t n::l=> .frz t n::pL fz l
end
structure Opt where
 bx:List Nat:=[]
 fz:List (Nat×Nat):=[]
 cu:List Nat:=[]
 ke:List Nat:=[]
 kz:List Nat:=[]
abbrev PF:=(rg:Nat->Nat->Nat->Nat->Nat->CC->Nat->CC)->(sm:Nat->CC->CC->CC)->(kk:{_:Value} ->Operand)->(zk:IntKind->Value)->(ze zb zs zp zm zf:Value)->CC
section
variable (kk:{_:Value} ->Operand)(zk:IntKind->Value)(ze zb zs zp zm zf:Value)
def pO:Operand->Operand
 | .const v=> @kk v
 | .tmp t=> .tmp t
 | .global g=> .global g
 | .func f=> .func f
def pZ:List Value->List Value
 | []=>[]
 | v::l=>(match v with
   | .int k _=>zk k
   | .string _=>ze
   | .bool _=>zb
   | .slice _ _ _=>zs
   | .pointer _=>zp
   | .map _=>zm
   | _=>zf)::pZ l
end
section
variable (rg:Nat->Nat->Nat->Nat->Nat->CC->Nat->CC)(sm:Nat->CC->CC->CC)(f:Operand->Operand)(z:List Value->List Value)(op:Opt)(W h c r:Nat)
def qxI(l:List Nat):List Nat:=op.ke.filter (λx=>!l.contains x) ++l++op.kz
def an:CC->List (Nat×Nat)->Nat->Nat->Nat->Nat->CC
 | .skip,_,_,_,_,_=> .skip
 | .reg l,_,_,_,_,_=> .reg (pL f z op.fz l)
 | .regd p l,_,_,_,_,_=> .regd (pL f z op.fz p) (pL f z op.fz l)
 | .seq a b,e,o,m,k,s=>fc (lv r b e o) λp=>fc (match s with|0=>m+1|_=>m) λm1=>
   let a':=an a e p m1 k 0
   let b':=an b e o (m1+qj6 a) (k+nN a) (s -1)
   let b2:=match a with
    | .skip=>b'
    | _=> .keep (bl p) (qxI op (bl (cl W c 5 (qdi (gt W h) (bl p))))) b'
   match s with
   | 0=>match op.cu.contains m with
     |true=>sm m a' b2
     |false=> .seq a' b2
   | _=> .seq a' b2
 | .ite q a b,e,o,m,k,_=> .ite (f q) (an a e o m k 0) (an b e o (m+qj6 a) (k+nN a) 0)
 | .block i b,e,o,m,k,_=>match qv9 i b with
   |some (ii,n,c,id2,i2)=>rg i ii n c id2 (qzK (an b ((i,o)::e) o m k 3)) i2
   |none=> .block i (an b ((i,o)::e) o m k 0)
 | .loop _ b,e,_,m,k,s=>fc (qv8 50 (lv r b e) 0) λo=>match s with
   | 0=> .loop k (an b e o m (k+1) 0)
   | _=> .loop 0 (an b e o m k s)
 | .exit i,_,_,_,_,_=> .exit i
 | .ret,_,_,_,_,_=> .ret
 | .cut _ c,e,o,m,k,s=>an c e o m k s
 | .keep _ _ c,e,o,m,k,s=>an c e o m k s
end
def qkK(W:Nat):List Nat->Nat
 | []=>0
 |t::l=>ad W (qkK W l) t (bt t)
def ql2:List ResultVar->Nat
 | []=>0
 | .tmp t::l=>Nat.lor (bt t) (ql2 l)
 | .cell t _::l=>Nat.lor (bt t) (ql2 l)
def qyJ(P:Program)(neg:Bool)(t:TypeId)(x y:Operand):COp:=match P.underlying t with
 |some (.struct fs)=> .eql neg true (fs.toList.map λf=>(ml P f.type).getD .int) x y
 | _=> .eql neg false [(ml P t).getD .int] x y
def qxj(P:Program)(im:List Nat)(ops:Array Oper)(o:Oper):CI:= .op o.dst ((GB ops o).getD none) (match o.op with
 | .binOp .eql t x y _=>qyJ P false t x y
 | .binOp .neq t x y _=>qyJ P true t x y
 | _=>(cN P im o).getD .bad)
def cC(P:Program)(im:List Nat):Code->CC
 | .region _ ops false=> .reg (ops.toList.map (qxj P im ops))
 | .region _ ops true=> .regd (qar ops (ops.toList.map (qxj P im ops)) (cg ops)) ((ops.toList.map (qxj P im ops)).drop (cg ops))
 | .seq a b=> .seq (cC P im a) (cC P im b)
 | .cond c a b=> .ite c (cC P im a) (cC P im b)
 | .block id b=> .block id (cC P im b)
 | .loop b=> .loop 0 (cC P im b)
 | .exit id=> .exit id
 | .ret=> .ret
 | _=> .skip
def gn(P:Program)(fn:Func)(im:List Nat)(op:Opt):PF:=λrg sm kk zk ze zb zs zp zm zf=>match fn.body with
 |none=> .skip
 | some code=>fc (qkK fn.ntmps op.bx) λh0=>fx fn.ntmps (cC { P with cutTypes:= #[] } im code) 6 h0 0 λh c=>fc (ql2 fn.results.toList) λr=>
   an rg sm (pO @kk) (pZ zk ze zb zs zp zm zf) op fn.ntmps h c r (cC { P with cutTypes:= #[] } im code) [] r 0 1 0
def rw_(P:Program)(fn:Func)(im:List Nat):CC:=match fn.body with
 |none=> .skip
 |some code=>cC { P with cutTypes:= #[] } im code
def ap(c:PF):CC:=c fF Ke (λ{v} => .const v) (λk=> .int k 0) (.string ⟨#[]⟩) (.bool false) (.slice none 0 0) (.pointer none) (.map none) .nilFunc
end G
open Go.Proofs
abbrev oA(d s:Nat):CI:= .op (some d) none (.mv (.tmp s))
abbrev oB(d:Nat)(c:COp):CI:= .op (some d) none c
abbrev oC(d w s:Nat):CI:= .op (some d) none (.load false w (.tmp s))
abbrev oD(d w s:Nat):CI:= .op (some d) none (.load true w (.tmp s))
abbrev oE(d n s:Nat):CI:= .op (some d) none (.faddr n (.tmp s))
abbrev oF(w a b:Nat):CI:= .op none none (.store none w (.tmp a) (.tmp b))
abbrev oG(d s:Nat):CI:= .op (some d) none (.nilck (.tmp s))
abbrev oH(d g:Nat)(c:COp):CI:= .op (some d) (some (g,true)) c
abbrev oI(d g:Nat)(c:COp):CI:= .op (some d) (some (g,false)) c
abbrev oT(n:Nat):Operand:= .tmp n
abbrev oK(v:Value):Operand:= .const v
abbrev oN(n:Int):Operand:= .const (.int .i64 n)
abbrev oS(b:ByteArray):Operand:= .const (.string b)
abbrev oi:Value:= .int .i64 0
abbrev oe:Value:= .string ⟨#[]⟩
abbrev ob:Value:= .bool false
abbrev on:Value:= .slice none 0 0
abbrev oZ(d f:Nat)(l:List Operand):CI:= .op (some d) none (.call f l)
abbrev oX(l:List CI)(a b:List Nat)(x:CC):CC:= .seq (.reg l) (.keep a b x)
abbrev te:Nat:=3
abbrev SN:Nat:=6
abbrev sG:Nat:=7
abbrev uV:Nat:=8
abbrev BO:Nat:=9
abbrev bP:Nat:=10
abbrev rp:Nat:=11
abbrev zF:Nat:=12
abbrev wV:Nat:=13
abbrev pk:Nat:=17
abbrev zJ:Nat:=18
abbrev ia:Nat:=19
abbrev qD:Nat:=20
abbrev BZ:Nat:=21
abbrev eZ:Nat:=22
abbrev sF:Nat:=23
abbrev dE:Nat:=24
abbrev zD:Nat:=25
abbrev iy:Nat:=26
abbrev wg:Nat:=27
abbrev fm:Nat:=28
abbrev sD:Nat:=29
abbrev pi:Nat:=30
abbrev iV:Nat:=31
abbrev fM:Nat:=32
abbrev sI:Nat:=33
abbrev td:Nat:=34
abbrev qC:Nat:=35
abbrev rN:Nat:=36
abbrev BY:Nat:=37
abbrev EH:Nat:=38
abbrev uW:Nat:=40
abbrev Nf:Nat:=41
abbrev SM:Nat:=42
abbrev zL:Nat:=43
abbrev rP:Nat:=44
abbrev pd:Nat:=45
abbrev uT:Nat:=46
abbrev uU:Nat:=47
abbrev BT:Nat:=48
abbrev kX:Nat:=49
abbrev uQ:Nat:=50
abbrev uN:Nat:=51
abbrev wU:Nat:=52
abbrev rO:Nat:=53
abbrev pb:Nat:=54
abbrev rL:Nat:=55
abbrev mK:Nat:=56
abbrev uL:Nat:=57
abbrev tG:Nat:=58
abbrev rM:Nat:=59
abbrev tH:Nat:=60
abbrev eE:Nat:=61
abbrev cU:Nat:=62
abbrev dy:Nat:=63
abbrev dj:Nat:=64
abbrev aS:Nat:=65
abbrev ph:Nat:=66
abbrev mN:Nat:=67
abbrev dT:Nat:=68
abbrev lN:Nat:=69
abbrev uS:Nat:=70
abbrev gD:Nat:=71
abbrev jw:Nat:=72
abbrev ko:Nat:=73
abbrev dA:Nat:=74
abbrev gj:Nat:=75
abbrev uX:Nat:=76
abbrev nl:Nat:=77
abbrev oW:Nat:=79
abbrev iU:Nat:=80
abbrev Zh:Nat:=81
abbrev IG:Nat:=82
abbrev IE:Nat:=83
abbrev ID:Nat:=84
abbrev GK:Nat:=85
abbrev O6:Nat:=86
abbrev EI:Nat:=87
abbrev GM:Nat:=88
abbrev KC:Nat:=89
abbrev Iy:Nat:=90
abbrev IB:Nat:=91
abbrev pm:Nat:=92
abbrev ge:Nat:=98
abbrev uP:Nat:=99
abbrev lc:Nat:=100
abbrev BP:Nat:=101
abbrev cq:Nat:=102
abbrev zC:Nat:=103
abbrev iz:Nat:=104
abbrev iT:Nat:=105
abbrev mO:Nat:=106
abbrev fl:Nat:=107
abbrev dv:Nat:=108
abbrev dz:Nat:=109
abbrev bJ:Nat:=110
abbrev cT:Nat:=111
abbrev gg:Nat:=112
abbrev aZ:Nat:=113
abbrev ro:Nat:=114
abbrev cH:Nat:=115
abbrev ic:Nat:=116
abbrev cx:Nat:=117
abbrev pq:Nat:=118
abbrev cD:Nat:=119
abbrev pg:Nat:=120
abbrev jp:Nat:=121
abbrev mM:Nat:=122
abbrev ej:Nat:=123
abbrev gi:Nat:=124
abbrev tJ:Nat:=125
abbrev aM:Nat:=126
abbrev gC:Nat:=127
abbrev fA:Nat:=128
abbrev eM:Nat:=129
abbrev pv:Nat:=130
abbrev eP:Nat:=131
abbrev jG:Nat:=132
abbrev bF:Nat:=133
abbrev aO:Nat:=134
abbrev wX:Nat:=135
abbrev pr:Nat:=136
abbrev kp:Nat:=137
abbrev wW:Nat:=138
abbrev bT:Nat:=139
abbrev dJ:Nat:=140
abbrev np:Nat:=141
abbrev bE:Nat:=142
abbrev cI:Nat:=143
abbrev mW:Nat:=144
abbrev sE:Nat:=147
abbrev Ne:Nat:=148
abbrev O5:Nat:=149
abbrev Wx:Nat:=150
abbrev Iz:Nat:=151
abbrev GS:Nat:=152
abbrev EJ:Nat:=153
abbrev qE:Nat:=154
abbrev EK:Nat:=161
abbrev wT:Nat:=162
abbrev qB:Nat:=163
abbrev zG:Nat:=164
abbrev BQ:Nat:=165
abbrev wS:Nat:=166
abbrev BU:Nat:=167
abbrev BR:Nat:=168
abbrev uM:Nat:=169
abbrev kY:Nat:=170
abbrev uR:Nat:=171
abbrev jo:Nat:=172
abbrev lM:Nat:=173
abbrev aR:Nat:=174
abbrev jq:Nat:=175
abbrev ct:Nat:=176
abbrev eV:Nat:=177
abbrev kZ:Nat:=178
abbrev pn:Nat:=179
abbrev pp:Nat:=180
abbrev rq:Nat:=181
abbrev uJ:Nat:=182
abbrev cG:Nat:=183
abbrev dx:Nat:=184
abbrev fS:Nat:=185
abbrev eT:Nat:=186
abbrev eY:Nat:=187
abbrev gE:Nat:=188
abbrev dU:Nat:=189
abbrev ib:Nat:=190
abbrev rk:Nat:=192
abbrev pa:Nat:=193
abbrev wR:Nat:=194
abbrev sH:Nat:=195
abbrev nn:Nat:=196
abbrev eS:Nat:=197
abbrev bX:Nat:=198
abbrev eU:Nat:=199
abbrev cj:Nat:=200
abbrev iR:Nat:=201
abbrev eL:Nat:=202
abbrev pj:Nat:=212
abbrev IA:Nat:=213
abbrev C9:Nat:=214
abbrev GR:Nat:=215
abbrev BS:Nat:=229
abbrev we:Nat:=230
abbrev tI:Nat:=231
abbrev EL:Nat:=232
abbrev zI:Nat:=233
abbrev zH:Nat:=234
abbrev gh:Nat:=235
abbrev zK:Nat:=236
abbrev kU:Nat:=237
abbrev pu:Nat:=239
abbrev eD:Nat:=240
abbrev fK:Nat:=241
abbrev mL:Nat:=242
abbrev gd:Nat:=243
abbrev B2:Nat:=252
abbrev kV:Nat:=253
abbrev lL:Nat:=255
abbrev rj:Nat:=256
abbrev dg:Nat:=257
abbrev dD:Nat:=258
abbrev fL:Nat:=259
abbrev mf:Nat:=260
abbrev GP:Nat:=266
abbrev C8:Nat:=267
abbrev GO:Nat:=268
abbrev GN:Nat:=269
abbrev KD:Nat:=270
abbrev GU:Nat:=271
abbrev GT:Nat:=272
abbrev BV:Nat:=277
abbrev hZ:Nat:=278
abbrev jJ:Nat:=285
abbrev bA:Nat:=286
abbrev ri:Nat:=287
abbrev iS:Nat:=288
abbrev km:Nat:=289
abbrev B1:Nat:=290
abbrev mi:Nat:=291
abbrev qA:Nat:=292
abbrev qF:Nat:=293
abbrev KB:Nat:=295
abbrev C7:Nat:=296
abbrev BW:Nat:=298
abbrev jH:Nat:=305
abbrev dt:Nat:=306
abbrev oY:Nat:=307
abbrev di:Nat:=308
abbrev eO:Nat:=309
abbrev IF:Nat:=310
abbrev BX:Nat:=311
abbrev mh:Nat:=314
abbrev qz:Nat:=317
abbrev dK:Nat:=318
abbrev jK:Nat:=319
abbrev IC:Nat:=320
abbrev BN:Nat:=322
abbrev kW:Nat:=323
abbrev iQ:Nat:=324
abbrev ei:Nat:=325
abbrev gO:Nat:=327
abbrev eN:Nat:=328
abbrev jI:Nat:=329
abbrev uK:Nat:=330
abbrev mg:Nat:=333
abbrev eK:Nat:=335
abbrev dh:Nat:=336
abbrev nq:Nat:=337
abbrev eC:Nat:=340
abbrev qG:Nat:=341
abbrev cR:Nat:=342
abbrev bb:Nat:=3
abbrev rz:Nat:=5
abbrev av:Nat:=9
abbrev LC:Nat:=21
abbrev vV:Nat:=28
abbrev qbN:Nat:=30
abbrev eJ:Nat:=36
abbrev aK:Nat:=39
abbrev aC:Nat:=50
abbrev Cu:Nat:=61
abbrev Pr:Nat:=80
abbrev FC:Nat:=100
abbrev nF:Nat:=110
abbrev vU:Nat:=118
abbrev DZ:Nat:=191
abbrev eR:Nat:=233
abbrev A8:Nat:=236
abbrev fP:Nat:=258
abbrev xM:Nat:=339
abbrev de:Nat:=344
def mixed:Tryz.prog.follows .mixedOrders=true:=by kernel_rfl
abbrev gq(f:Func)(im:List Nat)(op:G.Opt)(c:CC)(_:G.ap (G.gn Tryz.prog f im op)=c:=by conv=>lhs;(conv=>arg 1;reduce);dsimp only[G.ap]):CC:=c
def fo {f : Nat} {im : List Nat} {cc : CC} {rs : List ak} {N : Nat} (h : ((Tryz.prog.funcs[f]?).bind fun g => if g.name == "runtime.NumGoroutine" then none else g.body.bind fun c => (aG Tryz.prog im g.ntmps c).bind fun cc => (g.results.toList.mapM (eW Tryz.prog)).bind fun rs => some (g.ntmps, cc, rs)) = some (N, bG cc, rs) := by kernel_rfl) : Ak Tryz.prog f im cc rs N := qk3 mixed h
abbrev FO:=Ak Tryz.prog
abbrev TQ(dq:Prop)(f:Nat)(s:Spc):Prop:=Tri dq Tryz.prog f s.pt
def NG:CC:=gq Tryz.f27 [] {} _
def Mf:List ak:=[.tmp 4]
def qfa:FO wg [] NG Mf 16:=fo
def pE:CC:=gq Tryz.f170 [] {} _
def oc:List ak:=[.tmp 2]
def Gb:FO kY [] pE oc 21:=fo
def rR:CC:=gq Tryz.f171 [] {} _
def rD:List ak:=[.tmp 2]
def Jy:FO uR [] rR rD 17:=fo
def il:CC:=gq Tryz.f102 [] {} _
def gT:List ak:=[.tmp 2]
def xZ:FO cq [] il gT 29:=fo
def pD:CC:=gq Tryz.f278 [] {} _
def oa:List ak:=[.tmp 2]
def Ga:FO hZ [] pD oa 25:=fo
def Ab:CC:=gq Tryz.f311 [] { cu:=[2,7,9] } _
def yS:List ak:=[.tmp 2]
def Sf:FO BX [] Ab yS 81:=fo
def Aa:CC:=gq Tryz.f298 [] {} _
def yR:List ak:=[.tmp 2]
def Se:FO BW [] Aa yR 16:=fo
def zZ:CC:=gq Tryz.f277 [] {} _
def yQ:List ak:=[.tmp 2, .tmp 3]
def Sd:FO BV [] zZ yQ 69:=fo
def Ch:CC:=gq Tryz.f161 [] {} _
def Bj:List ak:=[.tmp 2]
def VC:FO EK [] Ch Bj 4:=fo
def vk:CC:=gq Tryz.f162 [] {} _
def uj:List ak:=[.tmp 4]
def Mw:FO wT [] vk uj 13:=fo
def jQ:CC:=gq Tryz.f98 [2,3] {} _
def jC:List ak:=[.tmp 4]
def AK:FO ge [2,3] jQ jC 122:=fo
def nt:CC:=gq Tryz.f45 [] { cu:=[6] } _
def na:List ak:=[.tmp 2]
def Ef:FO pd [] nt na 47:=fo
def zW:CC:=gq Tryz.f229 [2] {} _
def yN:List ak:=[.tmp 4]
def Sa:FO BS [2] zW yN 17:=fo
def zU:CC:=gq Tryz.f230 [] {} _
def yL:List ak:=[.tmp 2]
def R8:FO we [] zU yL 42:=fo
def xe:CC:=gq Tryz.f231 [3] {} _
def wz:List ak:=[.tmp 6]
def OP:FO tI [3] xe wz 32:=fo
def Ci:CC:=gq Tryz.f232 [] {} _
def Bk:List ak:=[.tmp 4]
def VD:FO EL [] Ci Bk 24:=fo
def xh:CC:=gq Tryz.f233 [2] {} _
def wC:List ak:=[.tmp 4]
def OS:FO zI [2] xh wC 27:=fo
def xg:CC:=gq Tryz.f234 [] {} _
def wB:List ak:=[.tmp 4]
def OR:FO zH [] xg wB 27:=fo
def pB:CC:=gq Tryz.f163 [] {} _
def nZ:List ak:=[.tmp 2, .tmp 3]
def F9:FO qB [] pB nZ 42:=fo
def xf:CC:=gq Tryz.f164 [1] {} _
def wA:List ak:=[.tmp 2, .tmp 3]
def OQ:FO zG [1] xf wA 48:=fo
def zT:CC:=gq Tryz.f165 [1] {} _
def yK:List ak:=[.tmp 2, .tmp 3]
def R7:FO BQ [1] zT yK 96:=fo
def vj:CC:=gq Tryz.f166 [1] {} _
def ui:List ak:=[.tmp 2, .tmp 3]
def Mv:FO wS [1] vj ui 143:=fo
def zY:CC:=gq Tryz.f167 [3] { cu:=[14,17,20,26] } _
def yP:List ak:=[.tmp 4, .tmp 5]
def Sc:FO BU [3] zY yP 128:=fo
def zV:CC:=gq Tryz.f168 [1] { cu:=[2,5,11,14] } _
def yM:List ak:=[.tmp 2, .tmp 3]
def R9:FO BR [1] zV yM 86:=fo
def sM:CC:=gq Tryz.f99 [1] {} _
def sd:List ak:=[.tmp 2, .tmp 3, .tmp 4]
def Ki:FO uP [1] sM sd 74:=fo
def zX:CC:=gq Tryz.f48 [1] {} _
def yO:List ak:=[.tmp 2]
def Sb:FO BT [1] zX yO 14:=fo
def jP:CC:=gq Tryz.f49 [] {} _
def jB:List ak:=[.tmp 4]
def AJ:FO kX [] jP jB 26:=fo
def sO:CC:=gq Tryz.f50 [2] {} _
def se:List ak:=[.tmp 4]
def Kj:FO uQ [2] sO se 21:=fo
def sL:CC:=gq Tryz.f51 [1] {} _
def sa:List ak:=[.tmp 2, .tmp 3]
def Kh:FO uN [1] sL sa 32:=fo
def xi:CC:=gq Tryz.f18 [2,3,2101010,1100097,2108010,1107104,2145010,1144141,2182010,1181178] { cu:=[7,13,19,26,33,48] } _
def wD:List ak:=[.cell 4 true 7, .tmp 5]
def OT:FO zJ [2,3,2101010,1100097,2108010,1107104,2145010,1144141,2182010,1181178] xi wD 273:=fo
def yi:CC:=gq Tryz.f44 [] {} _
def xT:List ak:=[.tmp 2]
def PZ:FO rP [] yi xT 8:=fo
def IR:CC:=gq Tryz.f41 [] {} _
def HW:List ak:=[.tmp 2]
def qb9:FO Nf [] IR HW 7:=fo
def NE:CC:=gq Tryz.f42 [] {} _
def Md:List ak:=[.tmp 2]
def qe8:FO SM [] NE Md 7:=fo
def xq:CC:=gq Tryz.f43 [] {} _
def wJ:List ak:=[.tmp 2]
def O0:FO zL [] xq wJ 7:=fo
def sX:CC:=gq Tryz.f40 [] {} _
def sx:List ak:=[.tmp 0]
def Ks:FO uW [] sX sx 5:=fo
def vw:CC:=gq Tryz.f10 [] {} _
def Bl:List ak:=[.tmp 4]
def MG:FO bP [] vw Bl 35:=fo
def NF:CC:=gq Tryz.f6 [999] {} _
def Me:List ak:=[.tmp 2]
def qe9:FO SN [999] NF Me 11:=fo
def nA:CC:=gq Tryz.f17 [100026,2067008] { cu:=[3,5,12,19,22,28] } _
def nf:List ak:=[.cell 6 true 7]
def Ei:FO pk [100026,2067008] nA nf 177:=fo
def sT:CC:=gq Tryz.f46 [1061061,1096061,2063001,2098001] { bx:=[1],cu:=[12] } _
def sr:List ak:=[]
def Ko:FO uT [1061061,1096061,2063001,2098001] sT sr 100:=fo
def sV:CC:=gq Tryz.f47 [1038027,1034027,1031027,2076042,2075040] { bx:=[1],cu:=[10,14] } _
def sv:List ak:=[]
def Kq:FO uU [1038027,1034027,1031027,2076042,2075040] sV sv 102:=fo
def qT:CC:=gq Tryz.f7 [] {} _
def qp:List ak:=[.cell 4 true 7]
def Ig:FO sG [] qT qp 36:=fo
def xr:CC:=gq Tryz.f130 [] {} _
def wK:List ak:=[.tmp 2]
def nE:CC:=gq Tryz.f131 [] {} _
def nj:List ak:=[.tmp 4]
def qV:CC:=gq Tryz.f144 [] {} _
def qr:List ak:=[.tmp 2]
def qU:CC:=gq Tryz.f33 [2] {} _
def qq:List ak:=[.tmp 4]
open Cod (enc dec)
variable {S:Nat->Spc}
abbrev rY:Spc:=aL (a1 Int) (λ_=>True) enc λ_ y=>y=false
def J2:am qV qr S (a1 Int) (λ_=>True) enc λ_ y=>y=false:=by
 rintro x -;simp[qV,qr]
def NA(a b:Int):Int:=if a<b then -1 else if b<a then 1 else 0
abbrev nT:Spc:=aL (a2 Int Int) (λ_=>True) enc λx y=>y=NA x.1 x.2
def Fp(h1:S mW=rY):am nE nj S (a2 Int Int) (λ_=>True) enc λx y=>y=NA x.1 x.2:=by
 rintro⟨a,b⟩ -;simp[nE,nj,h1,NA];refine⟨λh1 h2=>by omega,λh1=>⟨λh2=>?_,λh2=>?_⟩⟩
 ·rw[if_neg (by omega),if_pos h2]
 ·rw[if_neg (by omega),if_neg (by omega)]
abbrev yD:Spc:=aL (a1 (List Int)) (λ_=>True) enc λx y=>y=(x.find? (· ≠0)).getD 0
def Q5:am xr wK S (a1 (List Int)) (λ_=>True) enc λx y=>y=(x.find? (· ≠0)).getD 0:=by
 rintro l -;simp[xr,wK];intro _;refine ah (X:=Unit) [3,6] [] l.length (λk _=>(l.find? λx=>!decide (x=0))=(l.drop k).find? λx=>!decide (x=0)) (λ_=>[]) (λ_=>[]) () (by simp) ?_ ?_
 ·intro k _ hk hP;simp;refine⟨hk,λx hx=>?_⟩;rw[bB hx]at hP;refine⟨λh=>?_,λh=>?_⟩
  ·rw[hP];simp[h]
  ·rw[hP];simp[h]
 ·intro _ hP;rw[qAX]at hP;simp[hP]
def In(x n:Int):Int:=if n< 1 then 0 else if x.tmod n< 0 then x.tmod n+n else x.tmod n
abbrev s_m_Mod:Spc:=aL (a2 Int Int) (λx=>x.2<=1000000000) enc λx y=>y=In x.1 x.2
def qh9:am NG Mf S (a2 Int Int) (λx=>x.2<=1000000000) enc λx y=>y=In x.1 x.2:=by
 rintro⟨a,b⟩ hl;simp at hl;simp[NG,Mf,In];refine⟨λh1 h2=>by omega,λh1=>⟨by omega,λh2=>⟨?_,?_⟩,λh2=>?_⟩⟩
 ·have:=Int.lt_tmod_of_pos a (b:=b) (by omega);simp[InR];omega
 ·rw[if_neg (by omega),if_pos h2]
 ·rw[if_neg (by omega),if_neg (by omega)]
end Go.Gv
namespace Go.Gv
open Cod (enc dec)
variable {dq:Prop}
def qmi(s t:Spc):Spc:= .gen (λd ds H K=>s.pt d ds H K\/t.pt d ds H K) λd ds H K K' hk h=>h.elim (λh=> .inl (s.mono d ds H K K' hk h)) (λh=> .inr (t.mono d ds H K K' hk h))
@[simp] theorem qvp(s t:Spc)(d:Nat)(ds:List D)(H:ab)(K:D->ab->Prop):(qmi s t).pt d ds H K=(s.pt d ds H K\/t.pt d ds H K):=i' rfl
def LD{P:Program}{f:Nat}{s t:Spc}(h1:Tri dq P f s.pt)(h2:Tri dq P f t.pt):Tri dq P f (qmi s t).pt:=λO tp w vs ds H d K a b c e g h=>h.elim (λh=>h1 O tp w vs ds H d K a b c e g h) (λh=>h2 O tp w vs ds H d K a b c e g h)
section
variable {X Y:Type}[Cod Y]
def qwx(A:fT X)(pre:X->Prop)(post:X->List Y->Prop)(el n:Nat):PT:=λd ds H K=>gY (A.dec ds) λx=>pre x/\∀v l,post x l->K (.own d v) (ai H d (some (.row v el n (l.map enc))))
def qwc(A:fT X)(pre:X->List Y->Prop)(post:X->List Y->List Y->Prop)(el n:Nat):PT:=λd ds H K=>∃id v l ds' x,ds= .own id v::ds'/\A.dec ds'=some x/\H id=some (.row v el n (l.map enc))/\pre x l/\
 ∀v' l',post x l l'->K (.own id v') (ai H id (some (.row v' el n (l'.map enc))))
def qv6(A:fT X)(pre:X->List Y->Prop)(post:X->List Y->List Y->Prop)(el n:Nat):PT:=λd ds H K=>∃id v l ds' x,ds= .own id v::ds'/\A.dec ds'=some x/\H id=some (.row v el n (l.map enc))/\pre x l/\
 ∀l',post x l l'->K (.tup []) (ai H id (some (.row v el n (l'.map enc))))
def qb6{o:Option X}{k k':X->Prop}(h:∀x,k x->k' x)(ho:gY o k):gY o k':=by
 cases o with
 |none=>exact ho
 |some x=>exact h x ho
def qjI(A:fT X)(pre:X->Prop)(post:X->List Y->Prop)(el n:Nat):qZ (qwx A pre post el n):=λd ds H K K' hk h=>qb6 (λx h=>⟨h.1,λv l hp=>hk _ _ (h.2 v l hp)⟩) h
def qju(A:fT X)(pre:X->List Y->Prop)(post:X->List Y->List Y->Prop)(el n:Nat):qZ (qwc A pre post el n):=λd ds H K K' hk ⟨id,v,l,ds',x,h1,h2,h3,h4,h5⟩=>⟨id,v,l,ds',x,h1,h2,h3,h4,λv' l' hp=>hk _ _ (h5 v' l' hp)⟩
def qjs(A:fT X)(pre:X->List Y->Prop)(post:X->List Y->List Y->Prop)(el n:Nat):qZ (qv6 A pre post el n):=λd ds H K K' hk ⟨id,v,l,ds',x,h1,h2,h3,h4,h5⟩=>⟨id,v,l,ds',x,h1,h2,h3,h4,λl' hp=>hk _ _ (h5 l' hp)⟩
def qop(A:fT X)(pre:X->Prop)(post:X->List Y->Prop)(el n:Nat):Spc:= .gen _ (qjI A pre post el n)
def qpW(A:fT X)(pre:X->List Y->Prop)(post:X->List Y->List Y->Prop)(el n:Nat):Spc:= .gen _ (qju A pre post el n)
def qoh(A:fT X)(pre:X->List Y->Prop)(post:X->List Y->List Y->Prop)(el n:Nat):Spc:= .gen _ (qjs A pre post el n)
@[simp] theorem qmP(A:fT X)(pre:X->Prop)(post:X->List Y->Prop)(el n:Nat)(d:Nat)(ds:List D)(H:ab)(K:D->ab->Prop):(qop A pre post el n).pt d ds H K=gY (A.dec ds) λx=>pre x/\∀v l,post x l->K (.own d v) (ai H d (some (.row v el n (l.map enc)))):=i' rfl
def qs5(A:fT X)(pre:X->List Y->Prop)(post:X->List Y->List Y->Prop)(el n id:Nat)(v:Value)(ds:List D)(r:Option Res)(H:ab)(K:D->ab->Prop):Prop:=∃l,r=some (.row v el n (l.map enc))/\gY (A.dec ds) λx=>pre x l/\∀v' l',post x l l'->K (.own id v') (ai H id (some (.row v' el n (l'.map enc))))
def qs2(A:fT X)(pre:X->List Y->Prop)(post:X->List Y->List Y->Prop)(el n id:Nat)(v:Value)(ds:List D)(r:Option Res)(H:ab)(K:D->ab->Prop):Prop:=∃l,r=some (.row v el n (l.map enc))/\gY (A.dec ds) λx=>pre x l/\∀l',post x l l'->K (.tup []) (ai H id (some (.row v el n (l'.map enc))))
@[congr] theorem qwb{A:fT X}{pre:X->List Y->Prop}{post:X->List Y->List Y->Prop}{el n id:Nat}{v:Value}{ds ds':List D}{r r':Option Res}{H:ab}{K:D->ab->Prop}(h1:ds=ds')(h2:r=r'):qs5 A pre post el n id v ds r H K=qs5 A pre post el n id v ds' r' H K:=by subst h1;subst h2;rfl
@[congr] theorem qv5{A:fT X}{pre:X->List Y->Prop}{post:X->List Y->List Y->Prop}{el n id:Nat}{v:Value}{ds ds':List D}{r r':Option Res}{H:ab}{K:D->ab->Prop}(h1:ds=ds')(h2:r=r'):qs2 A pre post el n id v ds r H K=qs2 A pre post el n id v ds' r' H K:=by subst h1;subst h2;rfl
@[simp] theorem qwd(A:fT X)(pre:X->List Y->Prop)(post:X->List Y->List Y->Prop)(el n:Nat)(d i:Nat)(v:Value)(ds:List D)(H:ab)(K:D->ab->Prop):(qpW A pre post el n).pt d (.own i v::ds) H K=qs5 A pre post el n i v ds (H i) H K:=by
 refine propext ⟨λh=>?_,λh=>?_⟩
 ·obtain⟨id,v,l,ds',x,h1,h2,h3,h4,h5⟩:=h;cases h1;refine⟨l,h3,?_⟩;rw[h2];exact⟨h4,h5⟩
 ·obtain⟨l,h1,h2⟩:=h;cases hd:A.dec ds with
  |none=>rw[hd]at h2;exact h2.elim
  |some x=>rw[hd]at h2;exact⟨i,v,l,ds,x,rfl,hd,h1,h2.1,h2.2⟩
@[simp] theorem qv7(A:fT X)(pre:X->List Y->Prop)(post:X->List Y->List Y->Prop)(el n:Nat)(d i:Nat)(v:Value)(ds:List D)(H:ab)(K:D->ab->Prop):(qoh A pre post el n).pt d (.own i v::ds) H K=qs2 A pre post el n i v ds (H i) H K:=by
 refine propext ⟨λh=>?_,λh=>?_⟩
 ·obtain⟨id,v,l,ds',x,h1,h2,h3,h4,h5⟩:=h;cases h1;refine⟨l,h3,?_⟩;rw[h2];exact⟨h4,h5⟩
 ·obtain⟨l,h1,h2⟩:=h;cases hd:A.dec ds with
  |none=>rw[hd]at h2;exact h2.elim
  |some x=>rw[hd]at h2;exact⟨i,v,l,ds,x,rfl,hd,h1,h2.1,h2.2⟩
@[simp] theorem qyw(A:fT X)(pre:X->List Y->Prop)(post:X->List Y->List Y->Prop)(el n id:Nat)(v:Value)(ds:List D)(l:List Y)(H:ab)(K:D->ab->Prop):qs5 A pre post el n id v ds (some (.row v el n (l.map enc))) H K=gY (A.dec ds) λx=>pre x l/\∀v' l',post x l l'->K (.own id v') (ai H id (some (.row v' el n (l'.map enc)))):=by
 refine propext ⟨λ⟨l',h1,h2⟩=>?_,λh=>⟨l,rfl,h⟩⟩;simp at h1;subst h1;exact h2
@[simp] theorem qyv(A:fT X)(pre:X->List Y->Prop)(post:X->List Y->List Y->Prop)(el n id:Nat)(v:Value)(ds:List D)(l:List Y)(H:ab)(K:D->ab->Prop):qs2 A pre post el n id v ds (some (.row v el n (l.map enc))) H K=gY (A.dec ds) λx=>pre x l/\∀l',post x l l'->K (.tup []) (ai H id (some (.row v el n (l'.map enc)))):=by
 refine propext ⟨λ⟨l',h1,h2⟩=>?_,λh=>⟨l,rfl,h⟩⟩;simp at h1;subst h1;exact h2
def qky(el n:Nat)(q:List Y->Prop)(r:D)(H':ab):Prop:=∃j v l,r= .own j v/\H' j=some (.row v el n (l.map enc))/\q l
def dF{el n:Nat}{q:List Y->Prop}{j:Nat}{v:Value}{H':ab}(l:List Y)(h:H' j=some (.row v el n (l.map enc)))(hq:q l):qky el n q (.own j v) H':=⟨j,v,l,rfl,h,hq⟩
def Xw(cc:CC)(rs:List ak)(S:Nat->Spc)(A:fT X)(pre:X->Prop)(post:X->List Y->Prop)(el n:Nat):Prop:=
 ∀x,pre x->vc S cc (vN rs λr H'=>qky el n (post x) r H') (dC (A.view x)) cY
def Tl(cc:CC)(rs:List ak)(S:Nat->Spc)(A:fT X)(pre:X->List Y->Prop)(post:X->List Y->List Y->Prop)(el n:Nat):Prop:=
 ∀v l x,pre x l->vc S cc (vN rs λr H'=>qky el n (post x l) r H') (dC (.own 0 v::A.view x)) (ai cY 0 (some (.row v el n (l.map enc))))
variable {P:Program}{S:Nat->Spc}{f:Nat}{im:List Nat}{cc:CC}{rs:List ak}{N:Nat}{A:fT X}{el n:Nat}
theorem Cv{pre:X->Prop}{post:X->List Y->Prop}(hS:∀f,Tri dq P f (S f).pt)(h:Ak P f im cc rs N)(hN:∀x,(A.view x).length<=N)(hw:Xw cc rs S A pre post el n):Tri dq P f (qop A pre post el n).pt:=by
 obtain⟨wQ,enter,fn,code,h1,h2,h3,h4,h5⟩:=h;refine nG hS wQ h1 h2 enter h3 h4 h5 ?_;intro ds H d K hA;rw[qmP]at hA;cases hd:A.dec ds with
 |none=>rw[hd]at hA;exact hA.elim
 | some x=>
   rw[hd]at hA;obtain⟨hp,hK⟩:=hA;have hl:=A.le ds x hd;refine⟨by rw[hl.1];exact hN x,A.view x,cY,id,hl,λi r h=>by simp at h,λi j r s h=>by simp at h,_,hw x hp,?_⟩;rintro r H' ⟨j,v,l,rfl,hj,hpost⟩;refine⟨.own d v,cY,ai H d (some (.row v el n (l.map enc))),λi=>if i=d then some j else none, .own _ _ _,λj q h=>by simp at h,hK v l hpost,λi s hi=>?_,λi j' k s q hi hj' e1 e2=>?_⟩
   ·by_cases e:i=d
    ·subst e;simp only[ai,if_true]at hi;cases hi;simpa using hj
    ·simp only[ai,e,if_false]at hi ⊢;exact⟨hi,λk q h=>by simp at h⟩
   ·have a:i=d:=by
     by_cases e:i=d
     ·exact e
     ·simp[e]at e1
    have b:j'=d:=by
     by_cases e:j'=d
     ·exact e
     ·simp[e]at e2
    exact a.trans b.symm
theorem D1{pre:X->List Y->Prop}{post:X->List Y->List Y->Prop}(hS:∀f,Tri dq P f (S f).pt)(h:Ak P f im cc rs N)(hN:∀x,(A.view x).length+1<=N)(hw:Tl cc rs S A pre post el n):Tri dq P f (qpW A pre post el n).pt:=by
 obtain⟨wQ,enter,fn,code,h1,h2,h3,h4,h5⟩:=h;refine nG hS wQ h1 h2 enter h3 h4 h5 ?_;rintro ds H d K ⟨id,v,l,ds',x,rfl,hd,hid,hp,hK⟩;have hl:=A.le ds' x hd;refine⟨by simp only[qAD];rw[hl.1];exact hN x, .own 0 v::A.view x,ai cY 0 (some (.row v el n (l.map enc))),λ_=>id, .cons (.own _ _ _) hl,λi r h=>?_,λi j r s h h' _=>?_,_,hw v l x hp,?_⟩
 ·by_cases e:i=0
  ·subst e;simp only[ai,if_true]at h;cases h;exact hid
  ·simp[ai,e]at h
 ·have a:i=0:=by
   by_cases e:i=0
   ·exact e
   ·simp[ai,e]at h
  have b:j=0:=by
   by_cases e:j=0
   ·exact e
   ·simp[ai,e]at h'
  exact a.trans b.symm
 ·rintro r H' ⟨j,v',l',rfl,hj,hpost⟩;refine⟨.own id v',cY,ai H id (some (.row v' el n (l'.map enc))),λi=>if i=id then some j else none, .own _ _ _,λj q h=>by simp at h,hK v' l' hpost,λi s hi=>?_,λi j' k s q hi hj' e1 e2=>?_⟩
  ·by_cases e:i=id
   ·subst e;simp only[ai,if_true]at hi;cases hi;simpa using hj
   ·simp only[ai,e,if_false]at hi ⊢;exact⟨hi,λk q h he=>e he.symm⟩
  ·have a:i=id:=by
    by_cases e:i=id
    ·exact e
    ·simp[e]at e1
   have b:j'=id:=by
    by_cases e:j'=id
    ·exact e
    ·simp[e]at e2
   exact a.trans b.symm
end
def aD{X:Type}(A:fT X):fT (D×X):=⟨λds=>match ds with|d::r=>(A.dec r).map λx=>(d,x)|_=>none,λx=>x.1::A.view x.2,λds x h=>by
 split at h
 ·simp only[qz6]at h;obtain⟨y,hy,rfl⟩:=h;exact .cons (.same _) (A.le _ _ hy)
 ·cases h⟩
def aE(X:Type)[Cod X]{Y:Type}(A:fT Y):fT (X×Y):=⟨λds=>match ds with|d::r=>(dec d).bind λx=>(A.dec r).map λy=>(x,y)|_=>none,λx=>enc x.1::A.view x.2,λds x h=>by
 split at h
 ·simp only[qzU,qz6]at h;obtain⟨x,hx,y,hy,rfl⟩:=h;exact .cons (Cod.le _ _ hx) (A.le _ _ hy)
 ·cases h⟩
@[simp] theorem qnE{X:Type}(A:fT X)(d:D)(r:List D):(aD A).dec (d::r)=(A.dec r).map λx=>(d,x):=i' rfl
@[simp] theorem quu{X:Type}(A:fT X)(d:D)(x:X):(aD A).view (d,x)=d::A.view x:=i' rfl
@[simp] theorem qxM{X Y:Type}[Cod X](A:fT Y)(d:D)(r:List D):(aE X A).dec (d::r)=(dec d).bind λx=>(A.dec r).map λy=>(x,y):=i' rfl
@[simp] theorem qut{X Y:Type}[Cod X](A:fT Y)(x:X)(y:Y):(aE X A).view (x,y)=enc x::A.view y:=i' rfl
def FunIs{X Y:Type}[Cod X][Cod Y](S:Nat->Spc)(d:D)(p:X->Y):Prop:=
 ∃g caps pc,d= .clo g caps/\S g= .pure pc/\∀x:X,pc.pre (enc x::caps)/\∀r,pc.post (enc x::caps) r->r=enc (p x)
def FunIs.use'{X Y:Type}[Cod X][Cod Y]{S:Nat->Spc}{d:D}{p:X->Y}(h:FunIs S d p)(x:X)(d':Nat)(H:ab)(K:D->ab->Prop)(hk:∀y:Y,(∀q,FunIs S d q->y=q x)->K (enc y) H):Cj S d d' [enc x] H K:=by
 obtain⟨g,caps,pc,rfl,h1,h2⟩:=h;simp only[Cj,h1,Spc.pt];refine⟨(h2 x).1,λr hr=>?_⟩;have e:=(h2 x).2 r hr;rw[e];refine hk (p x) λq hq=>?_
 obtain⟨g',caps',pc',e',k1,k2⟩:=hq;cases e';rw[h1]at k1;cases k1;exact bK (e.symm.trans ((k2 x).2 r hr))
def FunIs.useB{X:Type}[Cod X]{S:Nat->Spc}{d:D}{p:X->Bool}(h:FunIs S d p)(x:X){d':Nat}{H:ab}{K:D->ab->Prop}(hk:∀y:Bool,(∀q,FunIs S d q->y=q x)->K (.v (.bool y)) H):Cj S d d' [enc x] H K:=h.use' x d' H K hk
def FunIs.eq{X Y:Type}[Cod X][Cod Y]{S:Nat->Spc}{d:D}{p q:X->Y}(hex:∀g pc ds,S g= .pure pc->pc.pre ds->∃r,pc.post ds r)(h:FunIs S d p)(k:FunIs S d q):p=q:=by
 obtain⟨g,caps,pc,rfl,h1,h2⟩:=h;obtain⟨g',caps',pc',e,k1,k2⟩:=k;cases e;rw[h1]at k1;cases k1;funext x;obtain⟨r,hr⟩:=hex g pc _ h1 (h2 x).1;exact bK (((h2 x).2 r hr).symm.trans ((k2 x).2 r hr))
def qkx(d:D):Prop:=∀(tp I tp' I':Nat->Prop) (w w':World) (x:Value),R tp I w x d->R tp' I' w' x d
def qmQ(v:Value):qkx (.v v):=λtp I tp' I' w w' x h=>by
 cases h with
 |v _ h1 h2=>exact .v _ h1 h2
def qgg{ds:List D}(h:∀d∈ds,qkx d):qkx (.tup ds):=λtp I tp' I' w w' x hr=>by
 cases hr with
 |tup xs _ hl hx=>exact .tup xs ds hl λk x c h1 h2=>h c (qzY h2) _ _ _ _ _ _ _ (hx k x c h1 h2)
section
variable {X Y Z:Type}[Cod Y]
def qxp(A:fT X)(pre:List Y×X->Prop)(er:Z->D)(post:List Y×X->Z->Prop)(el n:Nat):PT:=λd ds H K=>∃id v l ds' x,ds= .own id v::ds'/\A.dec ds'=some x/\H id=some (.row v el n (l.map enc))/\pre (l,x)/\∀z,post (l,x) z->K (er z) H
def qke(A:fT X)(pre:List Y×X->Prop)(er:Z->D)(post:List Y×X->Z->Prop)(el n:Nat):qZ (qxp A pre er post el n):=λd ds H K K' hk ⟨id,v,l,ds',x,h1,h2,h3,h4,h5⟩=>⟨id,v,l,ds',x,h1,h2,h3,h4,λz hz=>hk _ _ (h5 z hz)⟩
def quc(A:fT X)(pre:List Y×X->Prop)(er:Z->D)(post:List Y×X->Z->Prop)(el n:Nat):Spc:= .gen _ (qke A pre er post el n)
def qub(A:fT X)(pre:List Y×X->Prop)(er:Z->D)(post:List Y×X->Z->Prop)(el n:Nat)(v:Value)(ds:List D)(r:Option Res)(H:ab)(K:D->ab->Prop):Prop:=∃l,r=some (.row v el n (l.map enc))/\gY (A.dec ds) λx=>pre (l,x)/\∀z,post (l,x) z->K (er z) H
@[congr] theorem qxo{A:fT X}{pre:List Y×X->Prop}{er:Z->D}{post:List Y×X->Z->Prop}{el n:Nat}{v:Value}{ds ds':List D}{r r':Option Res}{H:ab}{K:D->ab->Prop}(h1:ds=ds')(h2:r=r'):qub A pre er post el n v ds r H K=qub A pre er post el n v ds' r' H K:=by subst h1;subst h2;rfl
@[simp] theorem qxq(A:fT X)(pre:List Y×X->Prop)(er:Z->D)(post:List Y×X->Z->Prop)(el n:Nat)(d i:Nat)(v:Value)(ds:List D)(H:ab)(K:D->ab->Prop):(quc A pre er post el n).pt d (.own i v::ds) H K=qub A pre er post el n v ds (H i) H K:=by
 refine propext ⟨λh=>?_,λh=>?_⟩
 ·obtain⟨id,v,l,ds',x,h1,h2,h3,h4,h5⟩:=h;cases h1;refine⟨l,h3,?_⟩;rw[h2];exact⟨h4,h5⟩
 ·obtain⟨l,h1,h2⟩:=h;cases hd:A.dec ds with
  |none=>rw[hd]at h2;exact h2.elim
  |some x=>rw[hd]at h2;exact⟨i,v,l,ds,x,rfl,hd,h1,h2.1,h2.2⟩
@[simp] theorem qy0(A:fT X)(pre:List Y×X->Prop)(er:Z->D)(post:List Y×X->Z->Prop)(el n:Nat)(v:Value)(ds:List D)(l:List Y)(H:ab)(K:D->ab->Prop):qub A pre er post el n v ds (some (.row v el n (l.map enc))) H K=gY (A.dec ds) λx=>pre (l,x)/\∀z,post (l,x) z->K (er z) H:=by
 refine propext ⟨λ⟨l',h1,h2⟩=>?_,λh=>⟨l,rfl,h⟩⟩;simp at h1;subst h1;exact h2
theorem LE{P:Program}{f:Nat}{A:fT X}{pre:List Y×X->Prop}{er:Z->D}{post:List Y×X->Z->Prop}{el n:Nat}(hf:Tri dq P f (aL (aE (List Y) A) pre er post).pt)(hn:n=Cod.wd Y)(hflat:∀z,qkx (er z)):Tri dq P f (quc A pre er post el n).pt:=by
 intro O tp w vs ds H d K hO htl hsat hlen hargs hA;obtain⟨id,v,l,ds',x,rfl,hd,hid,hp,hK⟩:=hA;subst hn;cases vs with
 |nil=>simp at hlen
 | cons v0 vs=>
   have hv0:v0=v:=by
    have:=hargs 0 v0 (.own id v) rfl rfl;cases this;rfl
   subst hv0
   let O':Nat->Prop:=λb=>O b\/ ∃i r,i≠id/\H i=some r/\r.blk=some b
   have himm:∀b,bh O tp H w b->bh O' tp cY w b:=λb hb=>⟨hb.1,λh=>h.elim hb.2.1 λ⟨i,r,_,h1,h2⟩=>hb.2.2.2 ⟨i,r,h1,h2⟩,hb.2.2.1,λ⟨i,r,h1,_⟩=>by simp at h1⟩
   have hmv:∀y e,R tp (bh O tp H w) w y e->R tp (bh O' tp cY w) w y e:=λy e hr=>hr.mono (λ_ h=>h) (λb hb=>⟨himm b hb,rfl⟩) (λb _=> .refl _ _)
   have hl:R tp (bh O' tp cY w) w v0 (.list (Cod.wd Y) (l.map enc)):=Mg (λb hb=>by
    have h1:=hsat.out id _ b hid hb;refine⟨(hsat.ok id _ hid).lt hb,λh=>h.elim h1.1 λ⟨i,r,hne,h2,h3⟩=>hne (hsat.dis _ _ _ _ b h2 hid h3 hb),h1.2,λ⟨i,r,h2,_⟩=>by simp at h2⟩) ((hsat.ok id _ hid).conv hmv (λ_ _=>rfl))
   have hdec:(aE (List Y) A).dec (.list (Cod.wd Y) (l.map enc)::ds')=some (l,x):=by simp[hd]
   obtain⟨hce,hc⟩:=hf O' tp w (v0::vs) (.list (Cod.wd Y) (l.map enc)::ds') cY d (λr H'=>∃z,r=er z/\post (l,x) z/\H'=cY)
    (λb hb=>hb.elim (hO b) λ⟨i,r,_,h1,h2⟩=>(hsat.ok i r h1).lt h2) (htl.mono λb ⟨i,r,h,_⟩=>by simp at h) ⟨λi j r s b h=>by simp at h,λi r b h=>by simp at h,λi r h=>by simp at h⟩ (by simpa using hlen)
    (λk y e h1 h2=>by
      cases k with
      |zero=>simp at h1 h2;subst h1;subst h2;exact hl
      |succ k=>simp at h1 h2;exact hmv _ _ (hargs (k+1) y e (by simpa using h1) (by simpa using h2)))
    (by rw[nQ,hdec];exact⟨hp,λz hz=>⟨z,rfl,hz,rfl⟩⟩)
   refine⟨hce,hc.mono ?_⟩;rintro e w' ⟨q,r,H',tp',rfl,⟨z,rfl,hz,rfl⟩,t1,t2,t3,hs,ho,hsat',hR⟩;have hsame:∀b,b<w.heap.size->¬tp b->w'.heap[b]? =w.heap[b]?:=λb hb ht=>hs.same b hb (λ⟨i,r,h,_⟩=>by simp at h) ht
   have hmove:∀y e,R tp (bh O tp H w) w y e->R tp' (bh O tp' H w') w' y e:=λy e hr=>hr.mono t1 (λb hb=>⟨⟨qAj hb.1 hs.size,hb.2.1,λh=>by
    rcases t2 b h with h|h
    ·exact hb.2.2.1 h
    ·have:=hb.1;omega,hb.2.2.2⟩,hsame b hb.1 hb.2.2.1⟩) hs.tapes
   refine⟨q,er z,H,tp',rfl,hK z hz,t1,t2,t3,⟨hs.os,hs.tape,hs.output,hs.size,λb hb _ ht=>hsame b hb ht,hs.tapes,hs.drawn⟩,λb h=> .inl h,⟨hsat.dis,λi r b h1 h2=>?_,λi r h1=>?_⟩,hflat z _ _ _ _ _ _ _ hR⟩
   ·have:=hsat.out i r b h1 h2;refine⟨this.1,λh=>?_⟩;rcases t2 b h with h|h
    ·exact this.2 h
    ·have:=(hsat.ok i r h1).lt h2;omega
   ·exact(hsat.ok i r h1).conv hmove λb hb=>hsame b ((hsat.ok i r h1).lt hb) (hsat.out i r b h1 hb).2
end
end Go.Gv
namespace Go.Gv
def RSub(r r':Res):Prop:=r=r'\/ ∃b cs cs',r= .box b cs/\r'= .box b cs'/\cs.length=cs'.length/\∀(m:Nat) (c c':D),cs[m]? =some c->cs'[m]? =some c'->XL c c'
def RSub.blk{r r':Res}(h:RSub r r'):r'.blk=r.blk:=by
 rcases h with rfl|⟨b,cs,cs',rfl,rfl,_⟩ <;>rfl
def RSub.ok{tp I:Nat->Prop}{w w':World}{r r':Res}(h:RSub r r')(hr:ResOk (R tp I w) w' r):ResOk (R tp I w) w' r':=by
 rcases h with rfl|⟨b,cs,cs',rfl,rfl,hl,hc⟩
 ·exact hr
 ·obtain⟨xs,el,h1,h2,h3⟩:=hr;refine⟨xs,el,h1,h2.trans hl,λk y c hy hc'=>?_⟩;have hk:k<cs.length:=by rw[hl];exact(qzV.1 hc').1
  have h4:=h3 k y cs[k] hy (qzX hk);exact⟨h4.1,qla (hc k _ _ (qzX hk) hc') h4.2⟩
theorem StW.ren{E:AD}{tp:Nat->Prop}{H H':ab}{w:World}(ρ:Nat->Nat)(h:StW E tp H w)(hρ:∀i j r s,H' i=some r->H' j=some s->ρ i=ρ j->i=j)
 (hs:∀i r,H' i=some r->∃r0,H (ρ i)=some r0/\RSub r0 r):
 StW E tp H' w/\∀x d,R tp (bh E.O tp H w) w x d->R tp (bh E.O tp H' w) w x d:=by
 have hown:∀b,bL H' b->bL H b:=λb ⟨i,r,h1,h2⟩=>by
  obtain⟨r0,h3,h4⟩:=hs i r h1;exact⟨ρ i,r0,h3,h4.blk ▸h2⟩
 have move:∀x d,R tp (bh E.O tp H w) w x d->R tp (bh E.O tp H' w) w x d:=λx d hr=>
  hr.mono (λ_ h=>h) (λb hb=>⟨⟨hb.1,hb.2.1,hb.2.2.1,λho=>hb.2.2.2 (hown b ho)⟩,rfl⟩) (λb _=> .refl _ _)
 refine⟨⟨h.hO,h.tpx,h.tpn,h.tpl,h.step,λb hb=>h.loc b (hown b hb),⟨λi j r s b h1 h2 h3 h4=>?_,λi r b h1 h2=>?_,λi r h1=>?_⟩⟩,move⟩
 ·obtain⟨r0,a1,a2⟩:=hs i r h1;obtain⟨s0,b1,b2⟩:=hs j s h2;exact hρ i j r s h1 h2 (h.sat.dis _ _ r0 s0 b a1 b1 (a2.blk ▸h3) (b2.blk ▸h4))
 ·obtain⟨r0,a1,a2⟩:=hs i r h1;exact h.sat.out _ r0 b a1 (a2.blk ▸h2)
 ·obtain⟨r0,a1,a2⟩:=hs i r h1;exact a2.ok ((h.sat.ok _ r0 a1).conv move (λ_ _=>rfl))
theorem qln{σ:Sg}{H:ab}(i j k b:Nat)(cs cs':List D)(hij:i≠j)(hk:k≠i/\k≠j)(h10:H k=some (.box b cs))(hl:cs.length=cs'.length)(hc:∀(m:Nat) (c c':D),cs[m]? =some c->cs'[m]? =some c'->XL c c'):
 Wk σ H σ (ai (ai (ai H i none) j (H i)) k (some (.box b cs'))):=by
 intro E a w hst;obtain⟨hd,hN,tp,hw,hr⟩:=hst;have hm:=hw.ren (H':=ai (ai (ai H i none) j (H i)) k (some (.box b cs'))) (λt=>if t=j then i else t) (λa c r s h1 h2 h3=>?_) (λt r h1=>?_)
 ·exact⟨hd,hN,tp,hm.1,λt=>hm.2 _ _ (hr t)⟩
 ·simp only[ai]at h1 h2;by_cases ea:a=j
  ·by_cases ec:c=j
   ·exact ea.trans ec.symm
   ·simp only[ea,ec,if_true,if_false]at h3;subst h3;simp[hk.1.symm,hij]at h2
  ·by_cases ec:c=j
   ·simp only[ea,ec,if_true,if_false]at h3;subst h3;simp[hk.1.symm,hij]at h1
   ·simpa [ea,ec]using h3
 ·simp only[ai]at h1;by_cases e1:t=k
  ·subst e1;simp only[if_true]at h1;cases h1;simp only[hk.2,if_false];exact⟨_,h10, .inr ⟨b,cs,cs',rfl,rfl,hl,hc⟩⟩
  ·simp only[e1,if_false]at h1;by_cases e2:t=j
   ·simp only[e2,if_true]at h1 ⊢;exact⟨r,h1, .inl rfl⟩
   ·simp only[e2,if_false]at h1 ⊢;by_cases e3:t=i
    ·simp[e3]at h1
    ·simp only[e3,if_false]at h1;exact⟨r,h1, .inl rfl⟩
section
variable {S:Nat->Spc}{σ σ1:Sg}{H H1:ab}{K:Ex->Sg->ab->Prop}
def qdD{k:Nat}{b:CC}(hw:Wk σ H σ1 H1)(h:vc S (.loop k b) K σ1 H1):vc S (.loop k b) K σ H:=by
 rw[SV]at h ⊢;obtain⟨I,⟨x,h1,h2⟩,h3⟩:=h;exact⟨I,⟨x,h1,λE a w hs=>h2 E a w (hw E a w hs)⟩,h3⟩
def HK{id i n c id2 i2:Nat}{body:CC}(hw:Wk σ H σ1 H1)(h:vc S (fF id i n c id2 body i2) K σ1 H1):vc S (fF id i n c id2 body i2) K σ H:=by
 unfold fF at h ⊢;rw[SW]at h ⊢;exact qdD hw h
end
variable {dq:Prop}
section
variable {X Y:Type}
def qxm(ce:X->List D)(cf:Y->List D)(pre:X->Prop)(post:X->Y->Prop):PT:=λd ds H K=>∃L id b x,ds=[.tape L, .bptr id b 0]/\H id=some (.box b (ce x))/\pre x/\∀y,post x y->K (.tup []) (ai H id (some (.box b (cf y))))
def qkd(ce:X->List D)(cf:Y->List D)(pre:X->Prop)(post:X->Y->Prop):qZ (qxm ce cf pre post):=λd ds H K K' hk ⟨L,id,b,x,h1,h2,h3,h4⟩=>⟨L,id,b,x,h1,h2,h3,λy hy=>hk _ _ (h4 y hy)⟩
def qua(ce:X->List D)(cf:Y->List D)(pre:X->Prop)(post:X->Y->Prop):Spc:= .gen _ (qkd ce cf pre post)
def qxl(ce:X->List D)(cf:Y->List D)(pre:X->Prop)(post:X->Y->Prop)(id b:Nat)(r:Option Res)(H:ab)(K:D->ab->Prop):Prop:=∃x,r=some (.box b (ce x))/\pre x/\∀y,post x y->K (.tup []) (ai H id (some (.box b (cf y))))
@[congr] theorem qxk{ce:X->List D}{cf:Y->List D}{pre:X->Prop}{post:X->Y->Prop}{id b:Nat}{r r':Option Res}{H:ab}{K:D->ab->Prop}(h:r=r'):qxl ce cf pre post id b r H K=qxl ce cf pre post id b r' H K:=by subst h;rfl
@[simp] theorem qxn(ce:X->List D)(cf:Y->List D)(pre:X->Prop)(post:X->Y->Prop)(d i b:Nat)(L:List Int)(H:ab)(K:D->ab->Prop):(qua ce cf pre post).pt d [.tape L, .bptr i b 0] H K=qxl ce cf pre post i b (H i) H K:=by
 refine propext ⟨λh=>?_,λh=>?_⟩
 ·obtain⟨L',id,b',x,h1,h2,h3,h4⟩:=h;cases h1;exact⟨x,h2,h3,h4⟩
 ·obtain⟨x,h1,h2,h3⟩:=h;exact⟨L,i,b,x,rfl,h1,h2,h3⟩
variable {P:Program}{S:Nat->Spc}{f:Nat}{im:List Nat}{cc:CC}{rs:List ak}{N:Nat}
end
def HWk(H H2:ab):Prop:=∀(E:AD) (tp:Nat->Prop) (w:World),StW E tp H w->StW E tp H2 w/\∀x d,R tp (bh E.O tp H w) w x d->R tp (bh E.O tp H2 w) w x d
def HWk.refl(H:ab):HWk H H:=λ_ _ _ h=>⟨h,λ_ _ h=>h⟩
def Wk.trans{σ σ1 σ2:Sg}{H H1 H2:ab}(h:Wk σ H σ1 H1)(k:Wk σ1 H1 σ2 H2):Wk σ H σ2 H2:=λE a w hs=>k E a w (h E a w hs)
def qjH(k:Nat)(ks:List Nat)(H:ab):ab:=λi=>if i=k\/i∈ks then none else H i
def left(k b:Nat)(cs:List D)(ks:List Nat)(H:ab):ab:=λi=>if i=k then some (.box b cs)else if i∈ks then H i else none
theorem qjA{H:ab}(k b:Nat)(cs cs':List D)(ks:List Nat)(hk:H k=some (.box b cs))(hl:cs.length=cs'.length)
 (hc:∀(m:Nat) (c c':D),cs[m]? =some c->cs'[m]? =some c'->FrzTo (qjH k ks H) c c'):HWk H (left k b cs' ks H):=by
 intro E tp w h;have hs:∀i r,left k b cs' ks H i=some r->(i=k/\r= .box b cs')\/(i≠k/\i∈ks/\H i=some r):=λi r h1=>by
  simp only[left]at h1;by_cases e:i=k
  ·rw[if_pos e]at h1;cases h1;exact .inl ⟨e,rfl⟩
  ·rw[if_neg e]at h1;by_cases e2:i∈ks
   ·rw[if_pos e2]at h1;exact .inr ⟨e,e2,h1⟩
   ·rw[if_neg e2]at h1;cases h1
 have hblk:∀i r c,left k b cs' ks H i=some r->r.blk=some c->∃r0,H i=some r0/\r0.blk=some c:=λi r c h1 h2=>by
  rcases hs i r h1 with⟨rfl,rfl⟩|⟨_,_,h3⟩
  ·exact⟨_,hk,h2⟩
  ·exact⟨r,h3,h2⟩
 have hown:∀c,bL (left k b cs' ks H) c->bL H c:=λc ⟨i,r,h1,h2⟩=>by
  obtain⟨r0,h3,h4⟩:=hblk i r c h1 h2;exact⟨i,r0,h3,h4⟩
 have himm:∀c,bh E.O tp H w c->bh E.O tp (left k b cs' ks H) w c:=λc hb=>⟨hb.1,hb.2.1,hb.2.2.1,λho=>hb.2.2.2 (hown c ho)⟩
 have move:∀x d,R tp (bh E.O tp H w) w x d->R tp (bh E.O tp (left k b cs' ks H) w) w x d:=λx d hr=>
  hr.mono (λ_ h=>h) (λb hb=>⟨himm b hb,rfl⟩) (λb _=> .refl _ _)
 refine⟨⟨h.hO,h.tpx,h.tpn,h.tpl,h.step,λb hb=>h.loc b (hown b hb),⟨λi j r s c h1 h2 h3 h4=>?_,λi r c h1 h2=>?_,λi r h1=>?_⟩⟩,move⟩
 ·obtain⟨r0,a1,a2⟩:=hblk i r c h1 h3;obtain⟨s0,b1,b2⟩:=hblk j s c h2 h4;exact h.sat.dis i j r0 s0 c a1 b1 a2 b2
 ·obtain⟨r0,a1,a2⟩:=hblk i r c h1 h2;exact h.sat.out i r0 c a1 a2
 ·rcases hs i r h1 with⟨rfl,rfl⟩|⟨_,_,h3⟩
  ·obtain⟨xs,el,h1,h2,h3⟩:=h.sat.ok _ _ hk;refine⟨xs,el,h1,h2.trans hl,λm y c hy hc'=>?_⟩;have hm:m<cs.length:=by rw[hl];exact(qzV.1 hc').1
   have h4:=h3 m y cs[m] hy (qzX hm);refine⟨h4.1,(hc m _ _ (qzX hm) hc').R (H:=cY) (λi r hi=>?_) himm (λi r c hi hb=>?_) h4.2⟩
   ·simp only[qjH]at hi;split at hi
    ·cases hi
    ·exact h.sat.ok i r hi
   ·simp only[qjH]at hi;split at hi
    ·cases hi
    ·rename_i hn;have ho:=h.sat.out i r c hi hb;refine⟨(h.sat.ok i r hi).lt hb,ho.1,ho.2,λ⟨j,s,k1,k2⟩=>?_⟩;obtain⟨s0,k3,k4⟩:=hblk j s c k1 k2;have e:=h.sat.dis i j r s0 c hi k3 hb k4;subst e;rcases hs i s k1 with⟨e,_⟩|⟨_,e,_⟩
     ·exact hn (.inl e)
     ·exact hn (.inr e)
  ·exact(h.sat.ok i r h3).conv move (λ_ _=>rfl)
section
variable {S:Nat->Spc}{σ:Sg}{H:ab}{K:Ex->Sg->ab->Prop}
def qiq{X:Type}(P:X->Prop)(s:X->Sg)(h:X->ab){k:Nat}{a b:CC}
 (ha:vc S a (qfw (λσ' H'=>∃x,P x/\Wk σ' H' (s x) (h x)) K) σ H)
 (hb:∀x,P x->vc S b K (s x) (h x)):vc S (Ke k a b) K σ H:=by
 unfold Ke;rw[WG];refine yx a _ _ (λe σ' H' h=>?_) ha;cases e with
 | norm=>
   obtain⟨x,h1,h2⟩:=h;rw[Nn,qgC];exact⟨_,_,h2,hb x h1⟩
 |ex i=>exact h
 |ret=>exact h
end
section
variable {P:Program}{im:List Nat}{E:AD}{S:Nat->Spc}
theorem Yl{f:Nat}{fn:Func}{code:Code}{cc:CC}{rs:List ak}{A:PT}(hS:∀f,Tri dq P f (S f).pt)(hmix:P.follows .mixedOrders=true)(hf:P.funcs[f]? =some fn)(hb:fn.body=some code)(hce:ee P f){N:Nat}(hN:fn.ntmps=N)
 (hcc:aG P im N code=some (bG cc)) (hrs:fn.results.toList.mapM (eW P)=some rs)
 (hA:∀ (ds:List D) (H:ab) (d:Nat) (K:D->ab->Prop),A d ds H K->ds.length<=N/\
   ∃ (ds':List D) (H0:ab) (ι:Nat->Nat),LeL ds ds'/\(∀i r,H0 i=some r->H (ι i)=some r)/\(∀i j r s,H0 i=some r->H0 j=some s->ι i=ι j->i=j)/\
    ∃Q:D->ab->Prop,vc S cc (vN rs Q) (dC ds') H0/\∀r H',Q r H'->∃(r':D) (H2 Hf Hc:ab) (κ:Nat->Option Nat),HWk H' H2/\FrzTo Hf r r'/\(∀j q,Hf j=some q->H2 j=some q/\∀i,κ i≠some j)/\K r' Hc/\
     (∀i s,Hc i=some s->match κ i with|some j=>H2 j=some s|none=>H i=some s/\∀k q,H0 k=some q->ι k≠i)/\
     (∀i j k s q,Hc i=some s->Hc j=some q->κ i=some k->κ j=some k->i=j)):Tri dq P f A:=by
 intro O tp w vs ds H d K hO htl hsat hlen hargs hAK;refine⟨hce,?_⟩;obtain⟨hdN,ds',H0,ι,hle,hsub,hinj,Q,hv,hQ⟩:=hA ds H d K hAK
 let passed:Nat->Prop:=λi=>∃k q,H0 k=some q/\ι k=i
 let rest:Nat->Prop:=λb=>∃i r,H i=some r/\ ¬passed i/\r.blk=some b
 let E:AD:={ O:=λb=>O b\/rest b,tp0:=tp,w0:=w,own0:=bL H0,N:=N,dq:=dq }
 have hownH0:∀b,bL H0 b->bL H b:=λb ⟨i,r,h1,h2⟩=>⟨ι i,r,hsub i r h1,h2⟩
 have hrestlt:∀b,rest b->b<w.heap.size:=λb ⟨i,r,h1,_,h2⟩=>(hsat.ok i r h1).lt h2
 have hrestown:∀b,rest b->¬bL H0 b:=λb ⟨i,r,h1,h2,h3⟩ ⟨j,s,h4,h5⟩=>h2 ⟨j,s,h4,(hsat.dis i (ι j) r s b h1 (hsub j s h4) h3 h5).symm⟩
 have himm:∀b,bh O tp H w b->bh E.O tp H0 w b:=λb hb=>⟨hb.1,λh=>h.elim hb.2.1 (λ⟨i,r,h1,_,h2⟩=>hb.2.2.2 ⟨i,r,h1,h2⟩),hb.2.2.1,λh=>hb.2.2.2 (hownH0 b h)⟩
 have hmove:∀x e,R tp (bh O tp H w) w x e->R tp (bh E.O tp H0 w) w x e:=λx e hr=>hr.mono (λ_ h=>h) (λb hb=>⟨himm b hb,rfl⟩) (λb _=> .refl _ _)
 have hstw:StW E tp H0 w:=by
  refine⟨λb hb=>hb.elim (hO b) (hrestlt b),λb h=>h,λb h=> .inl h,⟨htl.1,htl.2.mono (λ_ h=>h) hownH0⟩, .refl _ _ _,λb hb=> .inl hb,⟨λi j r s b h1 h2 h3 h4=>?_,λi r b h1 h2=>⟨λh=>?_,?_⟩,λi r h1=>?_⟩⟩
  ·exact hinj i j r s h1 h2 (hsat.dis _ _ r s b (hsub i r h1) (hsub j s h2) h3 h4)
  ·rcases h with h|h
   ·exact(hsat.out _ r b (hsub i r h1) h2).1 h
   ·exact hrestown b h ⟨i,r,h1,h2⟩
  ·exact(hsat.out _ r b (hsub i r h1) h2).2
  ·exact(hsat.ok _ r (hsub i r h1)).conv hmove (λ_ _=>rfl)
 have hst:St E (dC ds') H0 { tmps:=vs.toArray++Array.replicate (fn.ntmps -vs.toArray.size) undef,defers:=[] } w:=by
  refine⟨rfl,?_,tp,hstw,λt=>?_⟩
  ·show(vs.toArray++Array.replicate (fn.ntmps -vs.toArray.size) undef).size=N;simp;omega
  ·unfold dC;cases hd:ds'[t]? with
   |none=>exact .any _
   | some e'=>
     have hlt:t<vs.length:=by rw[hlen,hle.1];exact(qzV.1 hd).1
     have hlt':t<ds.length:=by rw[<-hlen];exact hlt
     have hg:(vs.toArray++Array.replicate (fn.ntmps -vs.toArray.size) undef).getD t undef=vs[t]:=by
      rw[qAv,qAM (by simpa using hlt)];simp[hlt]
     simp only[qAE,hg];have he:=qzX hlt';exact(hle.2 t _ e' he hd).R (H:=cY) (λi r h=>by cases h) (λ_ h=>h) (λi r b h=>by cases h) (hmove _ _ (hargs t _ _ (by simp[hlt]) he))
 have hwp:=xD hS hmix cc code (by exact hcc) _ _ _ _ w hst hv;refine calls_of_wp hf hb (qBr ?_ hwp);have sC:∀a' w' σ' H',St E σ' H' a' w'->(yY rs σ' H' λds=>Q (dI ds) H')->
  a'.defers=[]/\∃v,(results fn a'.tmps).run P w'= .ok v w'/\ZJ dq O tp H w K (.returned v) w':=by
  intro a' w' σ' H' hst' hres;obtain⟨hd',hN',tp',hw',hr'⟩:=hst';obtain⟨v,r0,hrun,hR,hq⟩:=rh (K:=λr=>Q r H') hrs hr' hw'.sat.ok hres;obtain⟨r,H2,Hf,Hc,κ,hW,hfz,hHf,hK,hκ,hκi⟩:=hQ r0 H' hq;obtain⟨hw2,mv2⟩:=hW _ _ _ hw';refine⟨hd',v,hrun,v,r,Hc,tp',rfl,hK,hw2.tpx,hw2.tpn,hw2.tpl.1,?_,?_,?_,?_⟩
  ·-- the step
   have hs:=hw2.step;exact⟨hs.os,hs.tape,hs.output,hs.size,λb hb ho ht=>hs.same b hb (λh=>ho (hownH0 b h)) ht,hs.tapes,hs.drawn⟩
  all_goals
   have hkn:∀i s,Hc i=some s->(∃j,κ i=some j/\H2 j=some s)\/(κ i=none/\H i=some s/\ ¬passed i):=λi s hi=>by
    have:=hκ i s hi;cases hk:κ i with
    |some j=>rw[hk]at this;exact .inl ⟨j,rfl,this⟩
    |none=>rw[hk]at this;exact .inr ⟨rfl,this.1,λ⟨k,q,h1,h2⟩=>this.2 k q h1 h2⟩
  ·intro b ⟨i,s,h1,h2⟩;rcases hkn i s h1 with⟨j,_,h3⟩|⟨_,h3,_⟩
   ·rcases hw2.loc b ⟨j,s,h3,h2⟩with h4|h4
    ·exact .inl (hownH0 b h4)
    ·exact .inr h4
   ·exact .inl ⟨i,s,h3,h2⟩
  all_goals
   have hownc:∀b,bL Hc b->bL H2 b\/rest b:=λb ⟨i,s,h1,h2⟩=>by
    rcases hkn i s h1 with⟨j,_,h3⟩|⟨_,h3,h4⟩
    ·exact .inl ⟨j,s,h3,h2⟩
    ·exact .inr ⟨i,s,h3,h4,h2⟩
   have himmc:∀b,bh E.O tp' H2 w' b->bh O tp' Hc w' b:=λb hb=>⟨hb.1,λh=>hb.2.1 (.inl h),hb.2.2.1,λh=>by
    rcases hownc b h with h|h
    ·exact hb.2.2.2 h
    ·exact hb.2.1 (.inr h)⟩
   have hmovec:∀x e,R tp' (bh E.O tp' H2 w') w' x e->R tp' (bh O tp' Hc w') w' x e:=λx e hr=>hr.mono (λ_ h=>h) (λb hb=>⟨himmc b hb,rfl⟩) (λb _=> .refl _ _)
  ·refine⟨λi j s q b h1 h2 h3 h4=>?_,λi s b h1 h2=>?_,λi s h1=>?_⟩
   ·rcases hkn i s h1 with⟨i',e1,k1⟩|⟨e1,k1,p1⟩
    ·rcases hkn j q h2 with⟨j',e2,k2⟩|⟨e2,k2,p2⟩
     ·have:=hw2.sat.dis i' j' s q b k1 k2 h3 h4;subst this;exact hκi i j i' s q h1 h2 e1 e2
     ·exact absurd (Or.inr ⟨j,q,k2,p2,h4⟩) (hw2.sat.out i' s b k1 h3).1
    ·rcases hkn j q h2 with⟨j',e2,k2⟩|⟨e2,k2,p2⟩
     ·exact absurd (Or.inr ⟨i,s,k1,p1,h3⟩) (hw2.sat.out j' q b k2 h4).1
     ·exact hsat.dis i j s q b k1 k2 h3 h4
   ·rcases hkn i s h1 with⟨i',e1,k1⟩|⟨e1,k1,p1⟩
    ·have:=hw2.sat.out i' s b k1 h2;exact⟨λh=>this.1 (.inl h),this.2⟩
    ·have h3:=hsat.out i s b k1 h2;refine⟨h3.1,λh=>?_⟩;rcases hw2.tpn b h with h4|h4
     ·exact h3.2 h4
     ·have:=(hsat.ok i s k1).lt h2;have h4':w.heap.size<=b:=h4;omega
   ·rcases hkn i s h1 with⟨i',e1,k1⟩|⟨e1,k1,p1⟩
    ·exact(hw2.sat.ok i' s k1).conv hmovec (λ_ _=>rfl)
    ·-- a resource that was not handed in is as it was
     have hs:=hw2.step;have hsame:∀b,b<w.heap.size->¬bL H0 b->¬tp b->w'.heap[b]? =w.heap[b]?:=hs.same;refine(hsat.ok i s k1).conv (λx e hr=>?_) (λb hb=>hsame b ((hsat.ok i s k1).lt hb) (hrestown b ⟨i,s,k1,p1,hb⟩) (hsat.out i s b k1 hb).2);refine hr.mono hw2.tpx (λb hb=>?_) hs.tapes;have h0:¬bL H0 b:=λh=>hb.2.2.2 (hownH0 b h)
     have hsz:w.heap.size<=w'.heap.size:=hs.size;have hbl:b<w.heap.size:=hb.1;refine⟨⟨by omega,hb.2.1,λh=>?_,λh=>?_⟩,hsame b hb.1 h0 hb.2.2.1⟩
     ·rcases hw2.tpn b h with h4|h4
      ·exact hb.2.2.1 h4
      ·have h4':w.heap.size<=b:=h4;omega
     ·rcases hownc b h with h|h
      ·rcases hw2.loc b h with h4|h4
       ·exact h0 h4
       ·have h4':w.heap.size<=b:=h4;omega
      ·obtain⟨j,q,h5,_,h6⟩:=h;exact hb.2.2.2 ⟨j,q,h5,h6⟩
  ·refine hfz.R (H:=cY) (λi q hi=>hw2.sat.ok i q (hHf i q hi).1) himmc (λi q b hi hb=>?_) (mv2 _ _ hR);obtain⟨hi',hne⟩:=hHf i q hi;have ho:=hw2.sat.out i q b hi' hb;refine⟨(hw2.sat.ok i q hi').lt hb,λh=>ho.1 (.inl h),ho.2,λ⟨j,s,h1,h2⟩=>?_⟩;rcases hkn j s h1 with⟨j',e1,k1⟩|⟨e1,k1,p1⟩
   ·have:=hw2.sat.dis i j' q s b hi' k1 hb h2;subst this;exact hne j e1
   ·exact ho.1 (.inr ⟨j,s,k1,p1,h2⟩)
 intro e a' w' hp;cases e with
 | normal=>
   obtain⟨σ',H',hs,hk⟩:=hp;exact sC a' w' σ' H' hs hk
 | ret=>
   obtain⟨σ',H',hs,hk⟩:=hp;exact sC a' w' σ' H' hs hk
 | exit i=>
   obtain⟨σ',H',hs,hk⟩:=hp;exact hk.elim
 |goto l=>exact hp.elim
 |panic c=>exact hp.elim
 |outgrown=>exact hp.elim
end
end Go.Gv
