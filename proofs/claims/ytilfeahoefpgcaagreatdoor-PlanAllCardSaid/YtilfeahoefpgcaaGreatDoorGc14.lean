/- G -/
import Derived.Test.YtilfeahoefpgcaaGreatDoorProg
import Derived.Test.YtilfeahoefpgcaaGreatDoorGc13
set_option linter.all false
set_option maxRecDepth 100000
set_option maxHeartbeats 0
namespace Go.Gv
namespace G
variable {α:Type}
def fc(n:Nat)(f:Nat->α):α:=match n with
 | 0=>f 0
 |k+1=>f (k+1)
def bt(t:Nat):Nat:=Nat.shiftLeft 1 t
def oM:Operand->Nat
 | .tmp t=>bt t
 | _=>0
def qyg:List Operand->Nat
 | []=>0
 |o::l=>Nat.lor (oM o) (qyg l)
def qx2:CI->Nat
 | .op _ g c=>Nat.lor (qyg c.ops) (match g with|some (s,_)=>bt s|none=>0)
 | .frz _ _=>0
def rm(m t:Nat):Nat:=Nat.sub m (Nat.land m (bt t))
def qsF:List CI->Nat->Nat
 | [],o=>o
 | x::l,o=>fc (qsF l o) λo=>match x with
   | .op (some d) g c=>Nat.lor (rm o d) (qx2 (.op (some d) g c))
   | .op none g c=>Nat.lor o (qx2 (.op none g c))
   | .frz _ _=>o
def lk:List (Nat×Nat)->Nat->Nat
 | [],_=>0
 | (i,m)::l,k=>match Nat.beq i k with
  |true=>m
  |false=>lk l k
def qv1:Nat->(Nat->Nat)->Nat->Nat
 | 0,_,c=>c
 | n+1,f,c=>fc (Nat.lor c (f c)) λd=>match Nat.beq d c with
   |true=>d
   |false=>qv1 n f d
def lv(r:Nat):CC->List (Nat×Nat)->Nat->Nat
 | .skip,_,o=>o
 | .reg l,_,o=>qsF l o
 | .regd p t,_,o=>fc (qsF t o) (qsF p)
 | .seq a b,e,o=>fc (lv r b e o) (lv r a e)
 | .ite c a b,e,o=>Nat.lor (Nat.lor (lv r a e o) (lv r b e o)) (oM c)
 | .block i b,e,o=>lv r b ((i,o)::e) o
 | .loop _ b,e,_=>qv1 50 (lv r b e) 0
 | .exit i,e,_=>lk e i
 | .ret,_,_=>r
 | .cut _ c,e,o=>lv r c e o
 | .keep _ _ c,e,o=>lv r c e o
def gt(W x t:Nat):Nat:=Nat.land (Nat.shiftRight x (Nat.mul t W)) (Nat.sub (bt W) 1)
def ad(W x t m:Nat):Nat:=Nat.lor x (Nat.shiftLeft m (Nat.mul t W))
def hO(W h:Nat):Operand->Nat
 | .tmp t=>gt W h t
 | _=>0
def qom(W h:Nat):List Operand->Nat
 | []=>0
 |o::l=>Nat.lor (hO W h o) (qom W h l)
def qhe:Nat->Nat->Nat->List Nat
 | 0,_,_=>[]
 | n+1,i,m=>match Nat.beq m 0 with
   |true=>[]
   | false=>match Nat.beq (Nat.land m 1) 1 with
     |true=>i::qhe n (i+1) (Nat.shiftRight m 1)
     |false=>qhe n (i+1) (Nat.shiftRight m 1)
def bl(m:Nat):List Nat:=qhe 1000 0 m
def qdi(f:Nat->Nat):List Nat->Nat
 | []=>0
 |i::l=>Nat.lor (f i) (qdi f l)
def qlT(W:Nat)(f:Nat->Nat):List Nat->Nat->Nat
 | [],c=>c
 |i::l,c=>fc (ad W c i (f i)) (qlT W f l)
def qzb(W:Nat)(x:CI)(h c:Nat)(K:Nat->Nat->α):α:=match x with
 | .frz _ _=>K h c
 | .op d _ o=>
   let put (m:Nat):α:=match d with
    |some d=>fc (ad W h d m) λh=>K h c
    |none=>K h c
   let own:Nat:=match d with
    |some d=>bt d
    |none=>0
   let cal (s:Nat):α:=fc s λs=>fc (qlT W (λi=>rm s i) (bl s) c) λc=>match d with
    |some d=>fc (ad W h d s) λh=>K h c
    |none=>K h c
   match o with
   | .alloc _ _=>put own
   | .nslice _ _=>put own
   | .mslice _ _ _=>put own
   | .mkslice _ _ _ _ _ _ _=>put own
   | .srange _=>put own
   | .appmk _ _ _ _ _ _ _=>put own
   | .m .mk _=>put own
   | .m .rng (x::_)=>fc (qlT W (λ_=>hO W h x) (bl own) c) λc=>match d with
     |some d=>fc (ad W h d own) λh=>K h c
     |none=>K h c
   | .m (.del _ _) _=>K h c
   | .m .len _=>K h c
   | .m (.upd _ _) (x::ys)=>fc (qom W h ys) λv=>fc (qlT W (λ_=>v) (bl (hO W h x)) c) λc=>K h c
   | .m (.look _ _ _ _ _) (x::_)=>put (qdi (gt W c) (bl (hO W h x)))
   | .m .entry (x::_)=>put (qdi (gt W c) (bl (hO W h x)))
   | .load _ _ x=>put (qdi (gt W c) (bl (hO W h x)))
   | .tbx _ x=>fc (qlT W (λ_=>hO W h x) (bl own) c) λc=>match d with
     |some d=>fc (ad W h d own) λh=>K h c
     |none=>K h c
   | .box _ false x=>fc (qlT W (λ_=>hO W h x) (bl own) c) λc=>match d with
     |some d=>fc (ad W h d own) λh=>K h c
     |none=>K h c
   | .store _ _ x y=>fc (hO W h y) λv=>fc (qlT W (λ_=>v) (bl (hO W h x)) c) λc=>K h c
   | .append _ _ _ _ x _=>put (Nat.lor own (hO W h x))
   | .call _ xs=>cal (qom W h xs)
   | .callb _ _ xs=>cal (qom W h xs)
   | .callv f xs=>put (Nat.lor (qom W h xs) (hO W h f))
   |o=>put (qom W h o.ops)
def qkJ(W:Nat):List CI->Nat->Nat->(Nat->Nat->α)->α
 | [],h,c,K=>K h c
 |x::l,h,c,K=>qzb W x h c λh c=>qkJ W l h c K
def qlP(W:Nat):CC->Nat->Nat->(Nat->Nat->α)->α
 | .reg l,h,c,K=>qkJ W l h c K
 | .regd p t,h,c,K=>qkJ W p h c λh c=>qkJ W t h c K
 | .seq a b,h,c,K=>qlP W a h c λh c=>qlP W b h c K
 | .ite _ a b,h,c,K=>qlP W a h c λh c=>qlP W b h c K
 | .block _ b,h,c,K=>qlP W b h c K
 | .loop _ b,h,c,K=>qlP W b h c K
 | _,h,c,K=>K h c
def fx(W:Nat)(cc:CC):Nat->Nat->Nat->(Nat->Nat->α)->α
 | 0,h,c,K=>K h c
 | n+1,h,c,K=>qlP W cc h c λh' c'=>match Nat.beq h h' with
   |false=>fx W cc n h' c' K
   | true=>match Nat.beq c c' with
     |false=>fx W cc n h' c' K
     |true=>K h c
def cl(W c:Nat):Nat->Nat->Nat
 | 0,s=>s
 | n+1,s=>fc (Nat.lor s (qdi (gt W c) (bl s))) λt=>match Nat.beq t s with
   |true=>s
   |false=>cl W c n t
def qpU:Value->Bool
 | .int .i64 k=>decide (k=1)
 | _=>false
def qzv:List CI->Option (Nat×Nat×Nat)
 | [.op (some c) none (.cmp .lss (.tmp i) (.tmp n))]=>some (c,i,n)
 | _=>none
def qs2:List CI->Option (Nat×Nat)
 | [.op (some i2) none (.arith .add (.tmp i) (.const v)), .op (some j) none (.mv (.tmp j2))]=>match qpU v && Nat.beq i j && Nat.beq i2 j2 with
   |true=>some (i2,i)
   |false=>none
 | _=>none
def qv2(id:Nat):CC->Option (Nat×Nat×Nat×Nat×Nat)
 | .loop _ (.seq (.reg l) (.seq (.ite (.tmp c2) .skip (.exit id3)) (.seq (.block id2 _) (.reg l2))))=>match qzv l,qs2 l2 with
   | some (c,i,n),some (i2,j)=>match Nat.beq id id3 && Nat.beq c c2 && Nat.beq i j with
     |true=>some (i,n,c,id2,i2)
     |false=>none
   | _,_=>none
 | _=>none
def qj9:CC->Nat
 | .seq a b=>qj9 a+qj9 b+1
 | .ite _ a b=>qj9 a+qj9 b
 | .block i b=>match qv2 i b with
   |some _=>qj9 b -3
   |none=>qj9 b
 | .loop _ b=>qj9 b
 | _=>0
def nL:CC->Nat
 | .seq a b=>nL a+nL b
 | .ite _ a b=>nL a+nL b
 | .block i b=>match qv2 i b with
   |some _=>nL b -1
   |none=>nL b
 | .loop _ b=>nL b+1
 | _=>0
def uk:CC->CC
 | .keep _ _ c=>c
 |c=>c
def qzE(b:CC):CC:=match b with
 | .loop _ b=>match uk b with
   | .seq _ b=>match uk b with
     | .seq _ b=>match uk b with
       | .seq a _=>match uk a with
         | .block _ b=>b
         | _=> .skip
       | _=> .skip
     | _=> .skip
   | _=> .skip
 | _=> .skip
section
variable (f:Operand->Operand)(z:List Value->List Value)
def pC:COp->COp
 | .mv x=> .mv (f x)
 | .pick c x y=> .pick (f c) (f x) (f y)
 | .alloc el l=> .alloc el (z l)
 | .box el im x=> .box el im (f x)
 | .tbx el x=> .tbx el (f x)
 | .build l ps=> .build (z l) (ps.map λp=>(p.1,p.2.1,f p.2.2))
 | .bslice el n ps=> .bslice el n (ps.map f)
 | .nslice el n=> .nslice el n
 | .mslice el n ps=> .mslice el n (ps.map f)
 | .load a s x=> .load a s (f x)
 | .store r s x y=> .store r s (f x) (f y)
 | .nilck x=> .nilck (f x)
 | .arith o x y=> .arith o (f x) (f y)
 | .cmp o x y=> .cmp o (f x) (f y)
 | .eql n a ks x y=> .eql n a ks (f x) (f y)
 | .scat x y=> .scat (f x) (f y)
 | .not x=> .not (f x)
 | .neg x=> .neg (f x)
 | .conv k x=> .conv k (f x)
 | .clo g l=> .clo g (l.map f)
 | .mkslice el n b a l x y=> .mkslice el n b a (z l) (f x) (f y)
 | .slice n x l h=> .slice n (f x) (l.map f) (h.map f)
 | .sslice x l h=> .sslice (f x) (l.map f) (h.map f)
 | .faddr o x=> .faddr o (f x)
 | .fld a s o x=> .fld a s o (f x)
 | .iaddr n x i=> .iaddr n (f x) (f i)
 | .sidx x i=> .sidx (f x) (f i)
 | .ext x i=> .ext (f x) i
 | .len x=> .len (f x)
 | .slen x=> .slen (f x)
 | .mm m l=> .mm m (l.map f)
 | .append r el n b x y=> .append r el n b (f x) (f y)
 | .appmk el n b a l x y=> .appmk el n b a (z l) (f x) (f y)
 | .clear n a l x=> .clear n a (z l) (f x)
 | .copy n x y=> .copy n (f x) (f y)
 | .cap x=> .cap (f x)
 | .srange x=> .srange (f x)
 | .snext x=> .snext (f x)
 | .sbytes x=> .sbytes (f x)
 | .srunes x=> .srunes (f x)
 | .bstr x=> .bstr (f x)
 | .rstr x=> .rstr (f x)
 | .mkif t x=> .mkif t (f x)
 | .m (.look ok a ka ks l) xs=> .m (.look ok a ka ks (z l)) (xs.map f)
 | .m o xs=> .m o (xs.map f)
 | .bad=> .bad
 | .call g l=> .call g (l.map f)
 | .callv g l=> .callv (f g) (l.map f)
 | .callb r g l=> .callb r g (l.map f)
def pL(fz:List (Nat×Nat)):List CI->List CI
 | []=>[]
 | .op (some d) g c::l=>match fz.lookup d with
   |some n=> .op (some d) g (pC f z c):: .frz d n::pL fz l
   |none=> .op (some d) g (pC f z c)::pL fz l
 | .op none g c::l=> .op none g (pC f z c)::pL fz l
 | .frz t n::l=> .frz t n::pL fz l
end
structure Opt where
 bx:List Nat:=[]
 fz:List (Nat×Nat):=[]
 cu:List Nat:=[]
 ke:List Nat:=[]
 kz:List Nat:=[]
abbrev PF:=(rg:Nat->Nat->Nat->Nat->Nat->CC->Nat->CC)->(sm:Nat->CC->CC->CC)->(kk:{_:Value} ->Operand)->(zk:IntKind->Value)->(ze zb zs zp zm zf:Value)->CC
section
variable (kk:{_:Value} ->Operand)(zk:IntKind->Value)(ze zb zs zp zm zf:Value)
def pO:Operand->Operand
 | .const v=> @kk v
 | .tmp t=> .tmp t
 | .global g=> .global g
 | .func f=> .func f
def pZ:List Value->List Value
 | []=>[]
 | v::l=>(match v with
   | .int k _=>zk k
   | .string _=>ze
   | .bool _=>zb
   | .slice _ _ _=>zs
   | .pointer _=>zp
   | .map _=>zm
   | _=>zf)::pZ l
end
section
variable (rg:Nat->Nat->Nat->Nat->Nat->CC->Nat->CC)(sm:Nat->CC->CC->CC)(f:Operand->Operand)(z:List Value->List Value)(op:Opt)(W h c r:Nat)
def qxB(l:List Nat):List Nat:=op.ke.filter (λx=>!l.contains x) ++l++op.kz
def an:CC->List (Nat×Nat)->Nat->Nat->Nat->Nat->CC
 | .skip,_,_,_,_,_=> .skip
 | .reg l,_,_,_,_,_=> .reg (pL f z op.fz l)
 | .regd p l,_,_,_,_,_=> .regd (pL f z op.fz p) (pL f z op.fz l)
 | .seq a b,e,o,m,k,s=>fc (lv r b e o) λp=>fc (match s with|0=>m+1|_=>m) λm1=>
   let a':=an a e p m1 k 0
   let b':=an b e o (m1+qj9 a) (k+nL a) (s -1)
   let b2:=match a with
    | .skip=>b'
    | _=> .keep (bl p) (qxB op (bl (cl W c 5 (qdi (gt W h) (bl p))))) b'
   match s with
   | 0=>match op.cu.contains m with
     |true=>sm m a' b2
     |false=> .seq a' b2
   | _=> .seq a' b2
 | .ite q a b,e,o,m,k,_=> .ite (f q) (an a e o m k 0) (an b e o (m+qj9 a) (k+nL a) 0)
 | .block i b,e,o,m,k,_=>match qv2 i b with
   |some (ii,n,c,id2,i2)=>rg i ii n c id2 (qzE (an b ((i,o)::e) o m k 3)) i2
   |none=> .block i (an b ((i,o)::e) o m k 0)
 | .loop _ b,e,_,m,k,s=>fc (qv1 50 (lv r b e) 0) λo=>match s with
   | 0=> .loop k (an b e o m (k+1) 0)
   | _=> .loop 0 (an b e o m k s)
 | .exit i,_,_,_,_,_=> .exit i
 | .ret,_,_,_,_,_=> .ret
 | .cut _ c,e,o,m,k,s=>an c e o m k s
 | .keep _ _ c,e,o,m,k,s=>an c e o m k s
end
def qkN(W:Nat):List Nat->Nat
 | []=>0
 |t::l=>ad W (qkN W l) t (bt t)
def ql4:List ResultVar->Nat
 | []=>0
 | .tmp t::l=>Nat.lor (bt t) (ql4 l)
 | .cell t _::l=>Nat.lor (bt t) (ql4 l)
def qyD(P:Program)(neg:Bool)(t:TypeId)(x y:Operand):COp:=match P.underlying t with
 |some (.struct fs)=> .eql neg true (fs.toList.map λf=>(mh P f.type).getD .int) x y
 | _=> .eql neg false [(mh P t).getD .int] x y
def qxc(P:Program)(im:List Nat)(ops:Array Oper)(o:Oper):CI:= .op o.dst ((Gy ops o).getD none) (match o.op with
 | .binOp .eql t x y _=>qyD P false t x y
 | .binOp .neq t x y _=>qyD P true t x y
 | _=>(cO P im o).getD .bad)
def cC(P:Program)(im:List Nat):Code->CC
 | .region _ ops false=> .reg (ops.toList.map (qxc P im ops))
 | .region _ ops true=> .regd (qan ops (ops.toList.map (qxc P im ops)) (cj ops)) ((ops.toList.map (qxc P im ops)).drop (cj ops))
 | .seq a b=> .seq (cC P im a) (cC P im b)
 | .cond c a b=> .ite c (cC P im a) (cC P im b)
 | .block id b=> .block id (cC P im b)
 | .loop b=> .loop 0 (cC P im b)
 | .exit id=> .exit id
 | .ret=> .ret
 | _=> .skip
def gn(P:Program)(fn:Func)(im:List Nat)(op:Opt):PF:=λrg sm kk zk ze zb zs zp zm zf=>match fn.body with
 |none=> .skip
 | some code=>fc (qkN fn.ntmps op.bx) λh0=>fx fn.ntmps (cC { P with cutTypes:= #[] } im code) 6 h0 0 λh c=>fc (ql4 fn.results.toList) λr=>
   an rg sm (pO @kk) (pZ zk ze zb zs zp zm zf) op fn.ntmps h c r (cC { P with cutTypes:= #[] } im code) [] r 0 1 0
def rw_(P:Program)(fn:Func)(im:List Nat):CC:=match fn.body with
 |none=> .skip
 |some code=>cC { P with cutTypes:= #[] } im code
def ap(c:PF):CC:=c fF Ke (λ{v} => .const v) (λk=> .int k 0) (.string ⟨#[]⟩) (.bool false) (.slice none 0 0) (.pointer none) (.map none) .nilFunc
end G
open Go.Proofs
abbrev oA(d s:Nat):CI:= .op (some d) none (.mv (.tmp s))
abbrev oB(d:Nat)(c:COp):CI:= .op (some d) none c
abbrev oC(d w s:Nat):CI:= .op (some d) none (.load false w (.tmp s))
abbrev oD(d w s:Nat):CI:= .op (some d) none (.load true w (.tmp s))
abbrev oE(d n s:Nat):CI:= .op (some d) none (.faddr n (.tmp s))
abbrev oF(w a b:Nat):CI:= .op none none (.store none w (.tmp a) (.tmp b))
abbrev oG(d s:Nat):CI:= .op (some d) none (.nilck (.tmp s))
abbrev oH(d g:Nat)(c:COp):CI:= .op (some d) (some (g,true)) c
abbrev oI(d g:Nat)(c:COp):CI:= .op (some d) (some (g,false)) c
abbrev oT(n:Nat):Operand:= .tmp n
abbrev oK(v:Value):Operand:= .const v
abbrev oN(n:Int):Operand:= .const (.int .i64 n)
abbrev oS(b:ByteArray):Operand:= .const (.string b)
abbrev oi:Value:= .int .i64 0
abbrev oe:Value:= .string ⟨#[]⟩
abbrev ob:Value:= .bool false
abbrev on:Value:= .slice none 0 0
abbrev oZ(d f:Nat)(l:List Operand):CI:= .op (some d) none (.call f l)
abbrev oX(l:List CI)(a b:List Nat)(x:CC):CC:= .seq (.reg l) (.keep a b x)
abbrev Aq:Nat:=3
abbrev SN:Nat:=6
abbrev sG:Nat:=7
abbrev uW:Nat:=8
abbrev rp:Nat:=9
abbrev uY:Nat:=10
abbrev wY:Nat:=11
abbrev zB:Nat:=12
abbrev BM:Nat:=13
abbrev bP:Nat:=14
abbrev EG:Nat:=15
abbrev pi:Nat:=17
abbrev zH:Nat:=18
abbrev hZ:Nat:=19
abbrev qC:Nat:=20
abbrev BX:Nat:=21
abbrev eZ:Nat:=22
abbrev sF:Nat:=23
abbrev fm:Nat:=24
abbrev sD:Nat:=25
abbrev pg:Nat:=26
abbrev iT:Nat:=27
abbrev fL:Nat:=28
abbrev sI:Nat:=29
abbrev te:Nat:=30
abbrev qB:Nat:=31
abbrev rN:Nat:=32
abbrev BW:Nat:=33
abbrev ED:Nat:=34
abbrev dE:Nat:=35
abbrev zC:Nat:=36
abbrev ix:Nat:=37
abbrev wi:Nat:=38
abbrev uX:Nat:=40
abbrev Ng:Nat:=41
abbrev SM:Nat:=42
abbrev zJ:Nat:=43
abbrev rP:Nat:=44
abbrev pa:Nat:=45
abbrev uU:Nat:=46
abbrev uV:Nat:=47
abbrev BR:Nat:=48
abbrev kT:Nat:=49
abbrev uR:Nat:=50
abbrev uP:Nat:=51
abbrev wX:Nat:=52
abbrev rO:Nat:=53
abbrev eD:Nat:=54
abbrev cV:Nat:=55
abbrev dy:Nat:=56
abbrev dm:Nat:=57
abbrev aS:Nat:=58
abbrev pd:Nat:=59
abbrev mK:Nat:=60
abbrev dT:Nat:=61
abbrev lK:Nat:=62
abbrev uT:Nat:=63
abbrev gC:Nat:=64
abbrev jw:Nat:=65
abbrev ki:Nat:=66
abbrev dA:Nat:=67
abbrev gj:Nat:=68
abbrev uZ:Nat:=69
abbrev nj:Nat:=70
abbrev oU:Nat:=72
abbrev iS:Nat:=73
abbrev Zg:Nat:=74
abbrev IJ:Nat:=75
abbrev IG:Nat:=76
abbrev IF:Nat:=77
abbrev GH:Nat:=78
abbrev O6:Nat:=79
abbrev EE:Nat:=80
abbrev GJ:Nat:=81
abbrev KD:Nat:=82
abbrev IA:Nat:=83
abbrev ID:Nat:=84
abbrev pj:Nat:=85
abbrev oY:Nat:=86
abbrev rL:Nat:=87
abbrev mH:Nat:=88
abbrev uM:Nat:=89
abbrev tH:Nat:=90
abbrev rM:Nat:=91
abbrev tI:Nat:=92
abbrev ge:Nat:=98
abbrev uQ:Nat:=99
abbrev kW:Nat:=100
abbrev mL:Nat:=101
abbrev fl:Nat:=102
abbrev dw:Nat:=103
abbrev dz:Nat:=104
abbrev bJ:Nat:=105
abbrev cU:Nat:=106
abbrev gg:Nat:=107
abbrev aZ:Nat:=108
abbrev ro:Nat:=109
abbrev cI:Nat:=110
abbrev ib:Nat:=111
abbrev cz:Nat:=112
abbrev pn:Nat:=113
abbrev cE:Nat:=114
abbrev pb:Nat:=115
abbrev jo:Nat:=116
abbrev mJ:Nat:=117
abbrev ej:Nat:=118
abbrev gi:Nat:=119
abbrev tK:Nat:=120
abbrev aM:Nat:=121
abbrev gB:Nat:=122
abbrev fA:Nat:=123
abbrev eL:Nat:=124
abbrev pr:Nat:=125
abbrev eO:Nat:=126
abbrev jF:Nat:=127
abbrev bF:Nat:=128
abbrev aP:Nat:=129
abbrev xa:Nat:=130
abbrev pp:Nat:=131
abbrev kj:Nat:=132
abbrev wZ:Nat:=133
abbrev bT:Nat:=134
abbrev dJ:Nat:=135
abbrev nl:Nat:=136
abbrev bE:Nat:=137
abbrev cJ:Nat:=138
abbrev mT:Nat:=139
abbrev sE:Nat:=142
abbrev Nf:Nat:=143
abbrev O5:Nat:=144
abbrev Wu:Nat:=145
abbrev IB:Nat:=146
abbrev GP:Nat:=147
abbrev EF:Nat:=148
abbrev qD:Nat:=149
abbrev BN:Nat:=150
abbrev ct:Nat:=151
abbrev zA:Nat:=152
abbrev iy:Nat:=153
abbrev iR:Nat:=154
abbrev EH:Nat:=161
abbrev wW:Nat:=162
abbrev qA:Nat:=163
abbrev zD:Nat:=164
abbrev BO:Nat:=165
abbrev wV:Nat:=166
abbrev BS:Nat:=167
abbrev BP:Nat:=168
abbrev jn:Nat:=169
abbrev lJ:Nat:=170
abbrev aR:Nat:=171
abbrev jp:Nat:=172
abbrev cv:Nat:=173
abbrev eU:Nat:=174
abbrev kV:Nat:=175
abbrev pk:Nat:=176
abbrev pm:Nat:=177
abbrev rq:Nat:=178
abbrev uK:Nat:=179
abbrev cH:Nat:=180
abbrev dx:Nat:=181
abbrev fR:Nat:=182
abbrev eS:Nat:=183
abbrev eY:Nat:=184
abbrev gD:Nat:=185
abbrev dU:Nat:=186
abbrev ia:Nat:=187
abbrev rk:Nat:=189
abbrev oW:Nat:=190
abbrev wU:Nat:=191
abbrev sH:Nat:=192
abbrev nk:Nat:=193
abbrev eR:Nat:=194
abbrev bX:Nat:=195
abbrev eT:Nat:=196
abbrev ck:Nat:=197
abbrev iP:Nat:=198
abbrev eK:Nat:=199
abbrev ph:Nat:=209
abbrev IC:Nat:=210
abbrev C9:Nat:=211
abbrev GO:Nat:=212
abbrev uN:Nat:=213
abbrev kU:Nat:=214
abbrev uS:Nat:=215
abbrev BQ:Nat:=229
abbrev wh:Nat:=230
abbrev tJ:Nat:=231
abbrev EI:Nat:=232
abbrev zG:Nat:=233
abbrev zF:Nat:=234
abbrev gh:Nat:=235
abbrev zI:Nat:=236
abbrev kQ:Nat:=237
abbrev pq:Nat:=239
abbrev eC:Nat:=240
abbrev fJ:Nat:=241
abbrev mI:Nat:=242
abbrev gd:Nat:=243
abbrev BZ:Nat:=252
abbrev kR:Nat:=253
abbrev lI:Nat:=255
abbrev rj:Nat:=256
abbrev dh:Nat:=257
abbrev dD:Nat:=258
abbrev fK:Nat:=259
abbrev lZ:Nat:=260
abbrev GN:Nat:=266
abbrev C8:Nat:=267
abbrev GM:Nat:=268
abbrev GK:Nat:=269
abbrev KE:Nat:=270
abbrev GS:Nat:=271
abbrev GR:Nat:=272
abbrev BT:Nat:=277
abbrev hU:Nat:=278
abbrev jI:Nat:=285
abbrev bA:Nat:=286
abbrev ri:Nat:=287
abbrev iQ:Nat:=288
abbrev kg:Nat:=289
abbrev BY:Nat:=290
abbrev mg:Nat:=291
abbrev qz:Nat:=292
abbrev qE:Nat:=293
abbrev KC:Nat:=295
abbrev C7:Nat:=296
abbrev BU:Nat:=298
abbrev jG:Nat:=305
abbrev du:Nat:=306
abbrev oV:Nat:=307
abbrev dj:Nat:=308
abbrev eN:Nat:=309
abbrev II:Nat:=310
abbrev BV:Nat:=311
abbrev mf:Nat:=314
abbrev qx:Nat:=317
abbrev dK:Nat:=318
abbrev jJ:Nat:=319
abbrev IE:Nat:=320
abbrev BL:Nat:=322
abbrev kS:Nat:=323
abbrev iO:Nat:=324
abbrev ei:Nat:=325
abbrev gN:Nat:=327
abbrev eM:Nat:=328
abbrev jH:Nat:=329
abbrev uL:Nat:=330
abbrev me:Nat:=333
abbrev eJ:Nat:=335
abbrev di:Nat:=336
abbrev nn:Nat:=337
abbrev eB:Nat:=340
abbrev qF:Nat:=341
abbrev cT:Nat:=342
abbrev bj:Nat:=3
abbrev rz:Nat:=5
abbrev au:Nat:=9
abbrev LD:Nat:=21
abbrev vY:Nat:=28
abbrev qbL:Nat:=30
abbrev eI:Nat:=36
abbrev aJ:Nat:=39
abbrev Ct:Nat:=55
abbrev aK:Nat:=59
abbrev Pr:Nat:=80
abbrev Fz:Nat:=96
abbrev nD:Nat:=110
abbrev vX:Nat:=118
abbrev DW:Nat:=190
abbrev eQ:Nat:=232
abbrev A5:Nat:=235
abbrev fO:Nat:=257
abbrev xN:Nat:=339
abbrev df:Nat:=344
def mixed:Tryz.prog.follows .mixedOrders=true:=by kernel_rfl
abbrev gq(f:Func)(im:List Nat)(op:G.Opt)(c:CC)(_:G.ap (G.gn Tryz.prog f im op)=c:=by conv=>lhs;(conv=>arg 1;reduce);dsimp only[G.ap]):CC:=c
def fo {f : Nat} {im : List Nat} {cc : CC} {rs : List ak} {N : Nat} (h : ((Tryz.prog.funcs[f]?).bind fun g => if g.name == "runtime.NumGoroutine" then none else g.body.bind fun c => (aF Tryz.prog im g.ntmps c).bind fun cc => (g.results.toList.mapM (eV Tryz.prog)).bind fun rs => some (g.ntmps, cc, rs)) = some (N, bG cc, rs) := by kernel_rfl) : Ah Tryz.prog f im cc rs N := qk6 mixed h
abbrev FO:=Ah Tryz.prog
abbrev TQ(dq:Prop)(f:Nat)(s:Spc):Prop:=Tri dq Tryz.prog f s.pt
def NH:CC:=gq Tryz.f38 [] {} _
def Mf:List ak:=[.tmp 4]
def qfc:FO wi [] NH Mf 16:=fo
def pB:CC:=gq Tryz.f214 [] {} _
def nZ:List ak:=[.tmp 2]
def Ga:FO kU [] pB nZ 21:=fo
def rQ:CC:=gq Tryz.f215 [] {} _
def rD:List ak:=[.tmp 2]
def Jy:FO uS [] rQ rD 17:=fo
def ij:CC:=gq Tryz.f151 [] {} _
def gS:List ak:=[.tmp 2]
def ya:FO ct [] ij gS 29:=fo
def pA:CC:=gq Tryz.f278 [] {} _
def nY:List ak:=[.tmp 2]
def F9:FO hU [] pA nY 25:=fo
def zZ:CC:=gq Tryz.f311 [] { cu:=[2,7,9] } _
def yS:List ak:=[.tmp 2]
def Sf:FO BV [] zZ yS 81:=fo
def zY:CC:=gq Tryz.f298 [] {} _
def yR:List ak:=[.tmp 2]
def Se:FO BU [] zY yR 16:=fo
def zX:CC:=gq Tryz.f277 [] {} _
def yQ:List ak:=[.tmp 2, .tmp 3]
def Sd:FO BT [] zX yQ 69:=fo
def Cf:CC:=gq Tryz.f161 [] {} _
def Bf:List ak:=[.tmp 2]
def VA:FO EH [] Cf Bf 4:=fo
def vn:CC:=gq Tryz.f162 [] {} _
def ul:List ak:=[.tmp 4]
def Mw:FO wW [] vn ul 13:=fo
def jO:CC:=gq Tryz.f98 [2,3] {} _
def jC:List ak:=[.tmp 4]
def AI:FO ge [2,3] jO jC 122:=fo
def nq:CC:=gq Tryz.f45 [] { cu:=[6] } _
def mY:List ak:=[.tmp 2]
def Eb:FO pa [] nq mY 47:=fo
def zU:CC:=gq Tryz.f229 [2] {} _
def yN:List ak:=[.tmp 4]
def Sa:FO BQ [2] zU yN 17:=fo
def zS:CC:=gq Tryz.f230 [] {} _
def yL:List ak:=[.tmp 2]
def R8:FO wh [] zS yL 42:=fo
def xg:CC:=gq Tryz.f231 [3] {} _
def wC:List ak:=[.tmp 6]
def OP:FO tJ [3] xg wC 32:=fo
def Cg:CC:=gq Tryz.f232 [] {} _
def Bg:List ak:=[.tmp 4]
def VB:FO EI [] Cg Bg 24:=fo
def xj:CC:=gq Tryz.f233 [2] {} _
def wF:List ak:=[.tmp 4]
def OS:FO zG [2] xj wF 27:=fo
def xi:CC:=gq Tryz.f234 [] {} _
def wE:List ak:=[.tmp 4]
def OR:FO zF [] xi wE 27:=fo
def pz:CC:=gq Tryz.f163 [] {} _
def nX:List ak:=[.tmp 2, .tmp 3]
def F8:FO qA [] pz nX 42:=fo
def xh:CC:=gq Tryz.f164 [1] {} _
def wD:List ak:=[.tmp 2, .tmp 3]
def OQ:FO zD [1] xh wD 48:=fo
def zR:CC:=gq Tryz.f165 [1] {} _
def yK:List ak:=[.tmp 2, .tmp 3]
def R7:FO BO [1] zR yK 96:=fo
def vm:CC:=gq Tryz.f166 [1] {} _
def uj:List ak:=[.tmp 2, .tmp 3]
def Mv:FO wV [1] vm uj 143:=fo
def zW:CC:=gq Tryz.f167 [3] { cu:=[14,17,20,26] } _
def yP:List ak:=[.tmp 4, .tmp 5]
def Sc:FO BS [3] zW yP 128:=fo
def zT:CC:=gq Tryz.f168 [1] { cu:=[2,5,11,14] } _
def yM:List ak:=[.tmp 2, .tmp 3]
def R9:FO BP [1] zT yM 86:=fo
def sM:CC:=gq Tryz.f99 [1] {} _
def sa:List ak:=[.tmp 2, .tmp 3, .tmp 4]
def Ki:FO uQ [1] sM sa 74:=fo
def zV:CC:=gq Tryz.f48 [1] {} _
def yO:List ak:=[.tmp 2]
def Sb:FO BR [1] zV yO 14:=fo
def jN:CC:=gq Tryz.f49 [] {} _
def jB:List ak:=[.tmp 4]
def AH:FO kT [] jN jB 26:=fo
def sO:CC:=gq Tryz.f50 [2] {} _
def sd:List ak:=[.tmp 4]
def Kj:FO uR [2] sO sd 21:=fo
def sL:CC:=gq Tryz.f51 [1] {} _
def rZ:List ak:=[.tmp 2, .tmp 3]
def Kh:FO uP [1] sL rZ 32:=fo
def xk:CC:=gq Tryz.f18 [2,3,2101010,1100097,2108010,1107104,2145010,1144141,2182010,1181178] { cu:=[7,13,19,26,33,48] } _
def wG:List ak:=[.cell 4 true 7, .tmp 5]
def OT:FO zH [2,3,2101010,1100097,2108010,1107104,2145010,1144141,2182010,1181178] xk wG 273:=fo
def yj:CC:=gq Tryz.f44 [] {} _
def xU:List ak:=[.tmp 2]
def PZ:FO rP [] yj xU 8:=fo
def IT:CC:=gq Tryz.f41 [] {} _
def HW:List ak:=[.tmp 2]
def qb9:FO Ng [] IT HW 7:=fo
def NF:CC:=gq Tryz.f42 [] {} _
def Md:List ak:=[.tmp 2]
def qfa:FO SM [] NF Md 7:=fo
def xt:CC:=gq Tryz.f43 [] {} _
def wM:List ak:=[.tmp 2]
def O0:FO zJ [] xt wM 7:=fo
def sX:CC:=gq Tryz.f40 [] {} _
def sw:List ak:=[.tmp 0]
def Ks:FO uX [] sX sw 5:=fo
def vy:CC:=gq Tryz.f14 [] {} _
def Bh:List ak:=[.tmp 4]
def MG:FO bP [] vy Bh 35:=fo
def NG:CC:=gq Tryz.f6 [999] {} _
def Me:List ak:=[.tmp 2]
def qfb:FO SN [999] NG Me 11:=fo
def ny:CC:=gq Tryz.f17 [100026,2067008] { cu:=[3,5,12,19,22,28] } _
def nb:List ak:=[.cell 6 true 7]
def Ee:FO pi [100026,2067008] ny nb 177:=fo
def sT:CC:=gq Tryz.f46 [1061061,1096061,2063001,2098001] { bx:=[1],cu:=[12] } _
def sq:List ak:=[]
def Ko:FO uU [1061061,1096061,2063001,2098001] sT sq 100:=fo
def sV:CC:=gq Tryz.f47 [1038027,1034027,1031027,2076042,2075040] { bx:=[1],cu:=[10,14] } _
def su:List ak:=[]
def Kq:FO uV [1038027,1034027,1031027,2076042,2075040] sV su 102:=fo
def qS:CC:=gq Tryz.f7 [] {} _
def qn:List ak:=[.cell 4 true 7]
def Ih:FO sG [] qS qn 36:=fo
def xu:CC:=gq Tryz.f125 [] {} _
def wN:List ak:=[.tmp 2]
def nC:CC:=gq Tryz.f126 [] {} _
def nh:List ak:=[.tmp 4]
def qV:CC:=gq Tryz.f139 [] {} _
def qq:List ak:=[.tmp 2]
def qU:CC:=gq Tryz.f29 [2] {} _
def qp:List ak:=[.tmp 4]
def xc:CC:=gq Tryz.f12 [2] {} _
def wz:List ak:=[.cell 4 true 4, .tmp 5]
open Cod (enc dec)
variable {S:Nat->Spc}
abbrev rX:Spc:=aL (a1 Int) (λ_=>True) enc λ_ y=>y=false
def J2:am qV qq S (a1 Int) (λ_=>True) enc λ_ y=>y=false:=by
 rintro x -;simp[qV,qq]
def NB(a b:Int):Int:=if a<b then -1 else if b<a then 1 else 0
abbrev nR:Spc:=aL (a2 Int Int) (λ_=>True) enc λx y=>y=NB x.1 x.2
def Fl(h1:S mT=rX):am nC nh S (a2 Int Int) (λ_=>True) enc λx y=>y=NB x.1 x.2:=by
 rintro⟨a,b⟩ -;simp[nC,nh,h1,NB];refine⟨λh1 h2=>by omega,λh1=>⟨λh2=>?_,λh2=>?_⟩⟩
 ·rw[if_neg (by omega),if_pos h2]
 ·rw[if_neg (by omega),if_neg (by omega)]
abbrev yD:Spc:=aL (a1 (List Int)) (λ_=>True) enc λx y=>y=(x.find? (· ≠0)).getD 0
def Q4:am xu wN S (a1 (List Int)) (λ_=>True) enc λx y=>y=(x.find? (· ≠0)).getD 0:=by
 rintro l -;simp[xu,wN];intro _;refine ah (X:=Unit) [3,6] [] l.length (λk _=>(l.find? λx=>!decide (x=0))=(l.drop k).find? λx=>!decide (x=0)) (λ_=>[]) (λ_=>[]) () (by simp) ?_ ?_
 ·intro k _ hk hP;simp;refine⟨hk,λx hx=>?_⟩;rw[bB hx]at hP;refine⟨λh=>?_,λh=>?_⟩
  ·rw[hP];simp[h]
  ·rw[hP];simp[h]
 ·intro _ hP;rw[qAR]at hP;simp[hP]
def Ip(x n:Int):Int:=if n< 1 then 0 else if x.tmod n< 0 then x.tmod n+n else x.tmod n
abbrev s_m_Mod:Spc:=aL (a2 Int Int) (λx=>x.2<=1000000000) enc λx y=>y=Ip x.1 x.2
def qic:am NH Mf S (a2 Int Int) (λx=>x.2<=1000000000) enc λx y=>y=Ip x.1 x.2:=by
 rintro⟨a,b⟩ hl;simp at hl;simp[NH,Mf,Ip];refine⟨λh1 h2=>by omega,λh1=>⟨by omega,λh2=>⟨?_,?_⟩,λh2=>?_⟩⟩
 ·have:=Int.lt_tmod_of_pos a (b:=b) (by omega);simp[InR];omega
 ·rw[if_neg (by omega),if_pos h2]
 ·rw[if_neg (by omega),if_neg (by omega)]
end Go.Gv
namespace Go.Gv
open Cod (enc dec)
variable {dq:Prop}
def qmk(s t:Spc):Spc:= .gen (λd ds H K=>s.pt d ds H K\/t.pt d ds H K) λd ds H K K' hk h=>h.elim (λh=> .inl (s.mono d ds H K K' hk h)) (λh=> .inr (t.mono d ds H K K' hk h))
@[simp] theorem qvj(s t:Spc)(d:Nat)(ds:List D)(H:ab)(K:D->ab->Prop):(qmk s t).pt d ds H K=(s.pt d ds H K\/t.pt d ds H K):=i' rfl
def LE{P:Program}{f:Nat}{s t:Spc}(h1:Tri dq P f s.pt)(h2:Tri dq P f t.pt):Tri dq P f (qmk s t).pt:=λO tp w vs ds H d K a b c e g h=>h.elim (λh=>h1 O tp w vs ds H d K a b c e g h) (λh=>h2 O tp w vs ds H d K a b c e g h)
section
variable {X Y:Type}[Cod Y]
def qwq(A:fS X)(pre:X->Prop)(post:X->List Y->Prop)(el n:Nat):PT:=λd ds H K=>gX (A.dec ds) λx=>pre x/\∀v l,post x l->K (.own d v) (ai H d (some (.row v el n (l.map enc))))
def qv5(A:fS X)(pre:X->List Y->Prop)(post:X->List Y->List Y->Prop)(el n:Nat):PT:=λd ds H K=>∃id v l ds' x,ds= .own id v::ds'/\A.dec ds'=some x/\H id=some (.row v el n (l.map enc))/\pre x l/\
 ∀v' l',post x l l'->K (.own id v') (ai H id (some (.row v' el n (l'.map enc))))
def qvZ(A:fS X)(pre:X->List Y->Prop)(post:X->List Y->List Y->Prop)(el n:Nat):PT:=λd ds H K=>∃id v l ds' x,ds= .own id v::ds'/\A.dec ds'=some x/\H id=some (.row v el n (l.map enc))/\pre x l/\
 ∀l',post x l l'->K (.tup []) (ai H id (some (.row v el n (l'.map enc))))
def qb6{o:Option X}{k k':X->Prop}(h:∀x,k x->k' x)(ho:gX o k):gX o k':=by
 cases o with
 |none=>exact ho
 |some x=>exact h x ho
def qjM(A:fS X)(pre:X->Prop)(post:X->List Y->Prop)(el n:Nat):qZ (qwq A pre post el n):=λd ds H K K' hk h=>qb6 (λx h=>⟨h.1,λv l hp=>hk _ _ (h.2 v l hp)⟩) h
def qjz(A:fS X)(pre:X->List Y->Prop)(post:X->List Y->List Y->Prop)(el n:Nat):qZ (qv5 A pre post el n):=λd ds H K K' hk ⟨id,v,l,ds',x,h1,h2,h3,h4,h5⟩=>⟨id,v,l,ds',x,h1,h2,h3,h4,λv' l' hp=>hk _ _ (h5 v' l' hp)⟩
def qjx(A:fS X)(pre:X->List Y->Prop)(post:X->List Y->List Y->Prop)(el n:Nat):qZ (qvZ A pre post el n):=λd ds H K K' hk ⟨id,v,l,ds',x,h1,h2,h3,h4,h5⟩=>⟨id,v,l,ds',x,h1,h2,h3,h4,λl' hp=>hk _ _ (h5 l' hp)⟩
def qop(A:fS X)(pre:X->Prop)(post:X->List Y->Prop)(el n:Nat):Spc:= .gen _ (qjM A pre post el n)
def qpW(A:fS X)(pre:X->List Y->Prop)(post:X->List Y->List Y->Prop)(el n:Nat):Spc:= .gen _ (qjz A pre post el n)
def qoh(A:fS X)(pre:X->List Y->Prop)(post:X->List Y->List Y->Prop)(el n:Nat):Spc:= .gen _ (qjx A pre post el n)
@[simp] theorem qmR(A:fS X)(pre:X->Prop)(post:X->List Y->Prop)(el n:Nat)(d:Nat)(ds:List D)(H:ab)(K:D->ab->Prop):(qop A pre post el n).pt d ds H K=gX (A.dec ds) λx=>pre x/\∀v l,post x l->K (.own d v) (ai H d (some (.row v el n (l.map enc)))):=i' rfl
def qs3(A:fS X)(pre:X->List Y->Prop)(post:X->List Y->List Y->Prop)(el n id:Nat)(v:Value)(ds:List D)(r:Option Res)(H:ab)(K:D->ab->Prop):Prop:=∃l,r=some (.row v el n (l.map enc))/\gX (A.dec ds) λx=>pre x l/\∀v' l',post x l l'->K (.own id v') (ai H id (some (.row v' el n (l'.map enc))))
def qs0(A:fS X)(pre:X->List Y->Prop)(post:X->List Y->List Y->Prop)(el n id:Nat)(v:Value)(ds:List D)(r:Option Res)(H:ab)(K:D->ab->Prop):Prop:=∃l,r=some (.row v el n (l.map enc))/\gX (A.dec ds) λx=>pre x l/\∀l',post x l l'->K (.tup []) (ai H id (some (.row v el n (l'.map enc))))
@[congr] theorem qv4{A:fS X}{pre:X->List Y->Prop}{post:X->List Y->List Y->Prop}{el n id:Nat}{v:Value}{ds ds':List D}{r r':Option Res}{H:ab}{K:D->ab->Prop}(h1:ds=ds')(h2:r=r'):qs3 A pre post el n id v ds r H K=qs3 A pre post el n id v ds' r' H K:=by subst h1;subst h2;rfl
@[congr] theorem qvY{A:fS X}{pre:X->List Y->Prop}{post:X->List Y->List Y->Prop}{el n id:Nat}{v:Value}{ds ds':List D}{r r':Option Res}{H:ab}{K:D->ab->Prop}(h1:ds=ds')(h2:r=r'):qs0 A pre post el n id v ds r H K=qs0 A pre post el n id v ds' r' H K:=by subst h1;subst h2;rfl
@[simp] theorem qv6(A:fS X)(pre:X->List Y->Prop)(post:X->List Y->List Y->Prop)(el n:Nat)(d i:Nat)(v:Value)(ds:List D)(H:ab)(K:D->ab->Prop):(qpW A pre post el n).pt d (.own i v::ds) H K=qs3 A pre post el n i v ds (H i) H K:=by
 refine propext ⟨λh=>?_,λh=>?_⟩
 ·obtain⟨id,v,l,ds',x,h1,h2,h3,h4,h5⟩:=h;cases h1;refine⟨l,h3,?_⟩;rw[h2];exact⟨h4,h5⟩
 ·obtain⟨l,h1,h2⟩:=h;cases hd:A.dec ds with
  |none=>rw[hd]at h2;exact h2.elim
  |some x=>rw[hd]at h2;exact⟨i,v,l,ds,x,rfl,hd,h1,h2.1,h2.2⟩
@[simp] theorem qv0(A:fS X)(pre:X->List Y->Prop)(post:X->List Y->List Y->Prop)(el n:Nat)(d i:Nat)(v:Value)(ds:List D)(H:ab)(K:D->ab->Prop):(qoh A pre post el n).pt d (.own i v::ds) H K=qs0 A pre post el n i v ds (H i) H K:=by
 refine propext ⟨λh=>?_,λh=>?_⟩
 ·obtain⟨id,v,l,ds',x,h1,h2,h3,h4,h5⟩:=h;cases h1;refine⟨l,h3,?_⟩;rw[h2];exact⟨h4,h5⟩
 ·obtain⟨l,h1,h2⟩:=h;cases hd:A.dec ds with
  |none=>rw[hd]at h2;exact h2.elim
  |some x=>rw[hd]at h2;exact⟨i,v,l,ds,x,rfl,hd,h1,h2.1,h2.2⟩
@[simp] theorem qyq(A:fS X)(pre:X->List Y->Prop)(post:X->List Y->List Y->Prop)(el n id:Nat)(v:Value)(ds:List D)(l:List Y)(H:ab)(K:D->ab->Prop):qs3 A pre post el n id v ds (some (.row v el n (l.map enc))) H K=gX (A.dec ds) λx=>pre x l/\∀v' l',post x l l'->K (.own id v') (ai H id (some (.row v' el n (l'.map enc)))):=by
 refine propext ⟨λ⟨l',h1,h2⟩=>?_,λh=>⟨l,rfl,h⟩⟩;simp at h1;subst h1;exact h2
@[simp] theorem qyp(A:fS X)(pre:X->List Y->Prop)(post:X->List Y->List Y->Prop)(el n id:Nat)(v:Value)(ds:List D)(l:List Y)(H:ab)(K:D->ab->Prop):qs0 A pre post el n id v ds (some (.row v el n (l.map enc))) H K=gX (A.dec ds) λx=>pre x l/\∀l',post x l l'->K (.tup []) (ai H id (some (.row v el n (l'.map enc)))):=by
 refine propext ⟨λ⟨l',h1,h2⟩=>?_,λh=>⟨l,rfl,h⟩⟩;simp at h1;subst h1;exact h2
def qkA(el n:Nat)(q:List Y->Prop)(r:D)(H':ab):Prop:=∃j v l,r= .own j v/\H' j=some (.row v el n (l.map enc))/\q l
def dF{el n:Nat}{q:List Y->Prop}{j:Nat}{v:Value}{H':ab}(l:List Y)(h:H' j=some (.row v el n (l.map enc)))(hq:q l):qkA el n q (.own j v) H':=⟨j,v,l,rfl,h,hq⟩
def Xt(cc:CC)(rs:List ak)(S:Nat->Spc)(A:fS X)(pre:X->Prop)(post:X->List Y->Prop)(el n:Nat):Prop:=
 ∀x,pre x->vc S cc (vQ rs λr H'=>qkA el n (post x) r H') (dC (A.view x)) da
def Tl(cc:CC)(rs:List ak)(S:Nat->Spc)(A:fS X)(pre:X->List Y->Prop)(post:X->List Y->List Y->Prop)(el n:Nat):Prop:=
 ∀v l x,pre x l->vc S cc (vQ rs λr H'=>qkA el n (post x l) r H') (dC (.own 0 v::A.view x)) (ai da 0 (some (.row v el n (l.map enc))))
variable {P:Program}{S:Nat->Spc}{f:Nat}{im:List Nat}{cc:CC}{rs:List ak}{N:Nat}{A:fS X}{el n:Nat}
theorem Cu{pre:X->Prop}{post:X->List Y->Prop}(hS:∀f,Tri dq P f (S f).pt)(h:Ah P f im cc rs N)(hN:∀x,(A.view x).length<=N)(hw:Xt cc rs S A pre post el n):Tri dq P f (qop A pre post el n).pt:=by
 obtain⟨wT,enter,fn,code,h1,h2,h3,h4,h5⟩:=h;refine nE hS wT h1 h2 enter h3 h4 h5 ?_;intro ds H d K hA;rw[qmR]at hA;cases hd:A.dec ds with
 |none=>rw[hd]at hA;exact hA.elim
 | some x=>
   rw[hd]at hA;obtain⟨hp,hK⟩:=hA;have hl:=A.le ds x hd;refine⟨by rw[hl.1];exact hN x,A.view x,da,id,hl,λi r h=>by simp at h,λi j r s h=>by simp at h,_,hw x hp,?_⟩;rintro r H' ⟨j,v,l,rfl,hj,hpost⟩;refine⟨.own d v,da,ai H d (some (.row v el n (l.map enc))),λi=>if i=d then some j else none, .own _ _ _,λj q h=>by simp at h,hK v l hpost,λi s hi=>?_,λi j' k s q hi hj' e1 e2=>?_⟩
   ·by_cases e:i=d
    ·subst e;simp only[ai,if_true]at hi;cases hi;simpa using hj
    ·simp only[ai,e,if_false]at hi ⊢;exact⟨hi,λk q h=>by simp at h⟩
   ·have a:i=d:=by
     by_cases e:i=d
     ·exact e
     ·simp[e]at e1
    have b:j'=d:=by
     by_cases e:j'=d
     ·exact e
     ·simp[e]at e2
    exact a.trans b.symm
theorem DX{pre:X->List Y->Prop}{post:X->List Y->List Y->Prop}(hS:∀f,Tri dq P f (S f).pt)(h:Ah P f im cc rs N)(hN:∀x,(A.view x).length+1<=N)(hw:Tl cc rs S A pre post el n):Tri dq P f (qpW A pre post el n).pt:=by
 obtain⟨wT,enter,fn,code,h1,h2,h3,h4,h5⟩:=h;refine nE hS wT h1 h2 enter h3 h4 h5 ?_;rintro ds H d K ⟨id,v,l,ds',x,rfl,hd,hid,hp,hK⟩;have hl:=A.le ds' x hd;refine⟨by simp only[qAw];rw[hl.1];exact hN x, .own 0 v::A.view x,ai da 0 (some (.row v el n (l.map enc))),λ_=>id, .cons (.own _ _ _) hl,λi r h=>?_,λi j r s h h' _=>?_,_,hw v l x hp,?_⟩
 ·by_cases e:i=0
  ·subst e;simp only[ai,if_true]at h;cases h;exact hid
  ·simp[ai,e]at h
 ·have a:i=0:=by
   by_cases e:i=0
   ·exact e
   ·simp[ai,e]at h
  have b:j=0:=by
   by_cases e:j=0
   ·exact e
   ·simp[ai,e]at h'
  exact a.trans b.symm
 ·rintro r H' ⟨j,v',l',rfl,hj,hpost⟩;refine⟨.own id v',da,ai H id (some (.row v' el n (l'.map enc))),λi=>if i=id then some j else none, .own _ _ _,λj q h=>by simp at h,hK v' l' hpost,λi s hi=>?_,λi j' k s q hi hj' e1 e2=>?_⟩
  ·by_cases e:i=id
   ·subst e;simp only[ai,if_true]at hi;cases hi;simpa using hj
   ·simp only[ai,e,if_false]at hi ⊢;exact⟨hi,λk q h he=>e he.symm⟩
  ·have a:i=id:=by
    by_cases e:i=id
    ·exact e
    ·simp[e]at e1
   have b:j'=id:=by
    by_cases e:j'=id
    ·exact e
    ·simp[e]at e2
   exact a.trans b.symm
end
def aD{X:Type}(A:fS X):fS (D×X):=⟨λds=>match ds with|d::r=>(A.dec r).map λx=>(d,x)|_=>none,λx=>x.1::A.view x.2,λds x h=>by
 split at h
 ·simp only[qz0]at h;obtain⟨y,hy,rfl⟩:=h;exact .cons (.same _) (A.le _ _ hy)
 ·cases h⟩
def aE(X:Type)[Cod X]{Y:Type}(A:fS Y):fS (X×Y):=⟨λds=>match ds with|d::r=>(dec d).bind λx=>(A.dec r).map λy=>(x,y)|_=>none,λx=>enc x.1::A.view x.2,λds x h=>by
 split at h
 ·simp only[qzO,qz0]at h;obtain⟨x,hx,y,hy,rfl⟩:=h;exact .cons (Cod.le _ _ hx) (A.le _ _ hy)
 ·cases h⟩
@[simp] theorem qnE{X:Type}(A:fS X)(d:D)(r:List D):(aD A).dec (d::r)=(A.dec r).map λx=>(d,x):=i' rfl
@[simp] theorem qur{X:Type}(A:fS X)(d:D)(x:X):(aD A).view (d,x)=d::A.view x:=i' rfl
@[simp] theorem qxF{X Y:Type}[Cod X](A:fS Y)(d:D)(r:List D):(aE X A).dec (d::r)=(dec d).bind λx=>(A.dec r).map λy=>(x,y):=i' rfl
@[simp] theorem quq{X Y:Type}[Cod X](A:fS Y)(x:X)(y:Y):(aE X A).view (x,y)=enc x::A.view y:=i' rfl
def FunIs{X Y:Type}[Cod X][Cod Y](S:Nat->Spc)(d:D)(p:X->Y):Prop:=
 ∃g caps pc,d= .clo g caps/\S g= .pure pc/\∀x:X,pc.pre (enc x::caps)/\∀r,pc.post (enc x::caps) r->r=enc (p x)
def FunIs.use'{X Y:Type}[Cod X][Cod Y]{S:Nat->Spc}{d:D}{p:X->Y}(h:FunIs S d p)(x:X)(d':Nat)(H:ab)(K:D->ab->Prop)(hk:∀y:Y,(∀q,FunIs S d q->y=q x)->K (enc y) H):Ch S d d' [enc x] H K:=by
 obtain⟨g,caps,pc,rfl,h1,h2⟩:=h;simp only[Ch,h1,Spc.pt];refine⟨(h2 x).1,λr hr=>?_⟩;have e:=(h2 x).2 r hr;rw[e];refine hk (p x) λq hq=>?_
 obtain⟨g',caps',pc',e',k1,k2⟩:=hq;cases e';rw[h1]at k1;cases k1;exact bK (e.symm.trans ((k2 x).2 r hr))
def FunIs.useB{X:Type}[Cod X]{S:Nat->Spc}{d:D}{p:X->Bool}(h:FunIs S d p)(x:X){d':Nat}{H:ab}{K:D->ab->Prop}(hk:∀y:Bool,(∀q,FunIs S d q->y=q x)->K (.v (.bool y)) H):Ch S d d' [enc x] H K:=h.use' x d' H K hk
def FunIs.eq{X Y:Type}[Cod X][Cod Y]{S:Nat->Spc}{d:D}{p q:X->Y}(hex:∀g pc ds,S g= .pure pc->pc.pre ds->∃r,pc.post ds r)(h:FunIs S d p)(k:FunIs S d q):p=q:=by
 obtain⟨g,caps,pc,rfl,h1,h2⟩:=h;obtain⟨g',caps',pc',e,k1,k2⟩:=k;cases e;rw[h1]at k1;cases k1;funext x;obtain⟨r,hr⟩:=hex g pc _ h1 (h2 x).1;exact bK (((h2 x).2 r hr).symm.trans ((k2 x).2 r hr))
def qkz(d:D):Prop:=∀(tp I tp' I':Nat->Prop) (w w':World) (x:Value),R tp I w x d->R tp' I' w' x d
def qmS(v:Value):qkz (.v v):=λtp I tp' I' w w' x h=>by
 cases h with
 |v _ h1 h2=>exact .v _ h1 h2
def qgi{ds:List D}(h:∀d∈ds,qkz d):qkz (.tup ds):=λtp I tp' I' w w' x hr=>by
 cases hr with
 |tup xs _ hl hx=>exact .tup xs ds hl λk x c h1 h2=>h c (qzS h2) _ _ _ _ _ _ _ (hx k x c h1 h2)
section
variable {X Y Z:Type}[Cod Y]
def qxi(A:fS X)(pre:List Y×X->Prop)(er:Z->D)(post:List Y×X->Z->Prop)(el n:Nat):PT:=λd ds H K=>∃id v l ds' x,ds= .own id v::ds'/\A.dec ds'=some x/\H id=some (.row v el n (l.map enc))/\pre (l,x)/\∀z,post (l,x) z->K (er z) H
def qkh(A:fS X)(pre:List Y×X->Prop)(er:Z->D)(post:List Y×X->Z->Prop)(el n:Nat):qZ (qxi A pre er post el n):=λd ds H K K' hk ⟨id,v,l,ds',x,h1,h2,h3,h4,h5⟩=>⟨id,v,l,ds',x,h1,h2,h3,h4,λz hz=>hk _ _ (h5 z hz)⟩
def qt9(A:fS X)(pre:List Y×X->Prop)(er:Z->D)(post:List Y×X->Z->Prop)(el n:Nat):Spc:= .gen _ (qkh A pre er post el n)
def qt8(A:fS X)(pre:List Y×X->Prop)(er:Z->D)(post:List Y×X->Z->Prop)(el n:Nat)(v:Value)(ds:List D)(r:Option Res)(H:ab)(K:D->ab->Prop):Prop:=∃l,r=some (.row v el n (l.map enc))/\gX (A.dec ds) λx=>pre (l,x)/\∀z,post (l,x) z->K (er z) H
@[congr] theorem qxh{A:fS X}{pre:List Y×X->Prop}{er:Z->D}{post:List Y×X->Z->Prop}{el n:Nat}{v:Value}{ds ds':List D}{r r':Option Res}{H:ab}{K:D->ab->Prop}(h1:ds=ds')(h2:r=r'):qt8 A pre er post el n v ds r H K=qt8 A pre er post el n v ds' r' H K:=by subst h1;subst h2;rfl
@[simp] theorem qxj(A:fS X)(pre:List Y×X->Prop)(er:Z->D)(post:List Y×X->Z->Prop)(el n:Nat)(d i:Nat)(v:Value)(ds:List D)(H:ab)(K:D->ab->Prop):(qt9 A pre er post el n).pt d (.own i v::ds) H K=qt8 A pre er post el n v ds (H i) H K:=by
 refine propext ⟨λh=>?_,λh=>?_⟩
 ·obtain⟨id,v,l,ds',x,h1,h2,h3,h4,h5⟩:=h;cases h1;refine⟨l,h3,?_⟩;rw[h2];exact⟨h4,h5⟩
 ·obtain⟨l,h1,h2⟩:=h;cases hd:A.dec ds with
  |none=>rw[hd]at h2;exact h2.elim
  |some x=>rw[hd]at h2;exact⟨i,v,l,ds,x,rfl,hd,h1,h2.1,h2.2⟩
@[simp] theorem qyU(A:fS X)(pre:List Y×X->Prop)(er:Z->D)(post:List Y×X->Z->Prop)(el n:Nat)(v:Value)(ds:List D)(l:List Y)(H:ab)(K:D->ab->Prop):qt8 A pre er post el n v ds (some (.row v el n (l.map enc))) H K=gX (A.dec ds) λx=>pre (l,x)/\∀z,post (l,x) z->K (er z) H:=by
 refine propext ⟨λ⟨l',h1,h2⟩=>?_,λh=>⟨l,rfl,h⟩⟩;simp at h1;subst h1;exact h2
theorem LF{P:Program}{f:Nat}{A:fS X}{pre:List Y×X->Prop}{er:Z->D}{post:List Y×X->Z->Prop}{el n:Nat}(hf:Tri dq P f (aL (aE (List Y) A) pre er post).pt)(hn:n=Cod.wd Y)(hflat:∀z,qkz (er z)):Tri dq P f (qt9 A pre er post el n).pt:=by
 intro O tp w vs ds H d K hO htl hsat hlen hargs hA;obtain⟨id,v,l,ds',x,rfl,hd,hid,hp,hK⟩:=hA;subst hn;cases vs with
 |nil=>simp at hlen
 | cons v0 vs=>
   have hv0:v0=v:=by
    have:=hargs 0 v0 (.own id v) rfl rfl;cases this;rfl
   subst hv0
   let O':Nat->Prop:=λb=>O b\/ ∃i r,i≠id/\H i=some r/\r.blk=some b
   have himm:∀b,bc O tp H w b->bc O' tp da w b:=λb hb=>⟨hb.1,λh=>h.elim hb.2.1 λ⟨i,r,_,h1,h2⟩=>hb.2.2.2 ⟨i,r,h1,h2⟩,hb.2.2.1,λ⟨i,r,h1,_⟩=>by simp at h1⟩
   have hmv:∀y e,R tp (bc O tp H w) w y e->R tp (bc O' tp da w) w y e:=λy e hr=>hr.mono (λ_ h=>h) (λb hb=>⟨himm b hb,rfl⟩) (λb _=> .refl _ _)
   have hl:R tp (bc O' tp da w) w v0 (.list (Cod.wd Y) (l.map enc)):=Mg (λb hb=>by
    have h1:=hsat.out id _ b hid hb;refine⟨(hsat.ok id _ hid).lt hb,λh=>h.elim h1.1 λ⟨i,r,hne,h2,h3⟩=>hne (hsat.dis _ _ _ _ b h2 hid h3 hb),h1.2,λ⟨i,r,h2,_⟩=>by simp at h2⟩) ((hsat.ok id _ hid).conv hmv (λ_ _=>rfl))
   have hdec:(aE (List Y) A).dec (.list (Cod.wd Y) (l.map enc)::ds')=some (l,x):=by simp[hd]
   obtain⟨hce,hc⟩:=hf O' tp w (v0::vs) (.list (Cod.wd Y) (l.map enc)::ds') da d (λr H'=>∃z,r=er z/\post (l,x) z/\H'=da)
    (λb hb=>hb.elim (hO b) λ⟨i,r,_,h1,h2⟩=>(hsat.ok i r h1).lt h2) (htl.mono λb ⟨i,r,h,_⟩=>by simp at h) ⟨λi j r s b h=>by simp at h,λi r b h=>by simp at h,λi r h=>by simp at h⟩ (by simpa using hlen)
    (λk y e h1 h2=>by
      cases k with
      |zero=>simp at h1 h2;subst h1;subst h2;exact hl
      |succ k=>simp at h1 h2;exact hmv _ _ (hargs (k+1) y e (by simpa using h1) (by simpa using h2)))
    (by rw[nO,hdec];exact⟨hp,λz hz=>⟨z,rfl,hz,rfl⟩⟩)
   refine⟨hce,hc.mono ?_⟩;rintro e w' ⟨q,r,H',tp',rfl,⟨z,rfl,hz,rfl⟩,t1,t2,t3,hs,ho,hsat',hR⟩;have hsame:∀b,b<w.heap.size->¬tp b->w'.heap[b]? =w.heap[b]?:=λb hb ht=>hs.same b hb (λ⟨i,r,h,_⟩=>by simp at h) ht
   have hmove:∀y e,R tp (bc O tp H w) w y e->R tp' (bc O tp' H w') w' y e:=λy e hr=>hr.mono t1 (λb hb=>⟨⟨qAd hb.1 hs.size,hb.2.1,λh=>by
    rcases t2 b h with h|h
    ·exact hb.2.2.1 h
    ·have:=hb.1;omega,hb.2.2.2⟩,hsame b hb.1 hb.2.2.1⟩) hs.tapes
   refine⟨q,er z,H,tp',rfl,hK z hz,t1,t2,t3,⟨hs.os,hs.tape,hs.output,hs.size,λb hb _ ht=>hsame b hb ht,hs.tapes,hs.drawn⟩,λb h=> .inl h,⟨hsat.dis,λi r b h1 h2=>?_,λi r h1=>?_⟩,hflat z _ _ _ _ _ _ _ hR⟩
   ·have:=hsat.out i r b h1 h2;refine⟨this.1,λh=>?_⟩;rcases t2 b h with h|h
    ·exact this.2 h
    ·have:=(hsat.ok i r h1).lt h2;omega
   ·exact(hsat.ok i r h1).conv hmove λb hb=>hsame b ((hsat.ok i r h1).lt hb) (hsat.out i r b h1 hb).2
end
end Go.Gv
namespace Go.Gv
def RSub(r r':Res):Prop:=r=r'\/ ∃b cs cs',r= .box b cs/\r'= .box b cs'/\cs.length=cs'.length/\∀(m:Nat) (c c':D),cs[m]? =some c->cs'[m]? =some c'->XK c c'
def RSub.blk{r r':Res}(h:RSub r r'):r'.blk=r.blk:=by
 rcases h with rfl|⟨b,cs,cs',rfl,rfl,_⟩ <;>rfl
def RSub.ok{tp I:Nat->Prop}{w w':World}{r r':Res}(h:RSub r r')(hr:ResOk (R tp I w) w' r):ResOk (R tp I w) w' r':=by
 rcases h with rfl|⟨b,cs,cs',rfl,rfl,hl,hc⟩
 ·exact hr
 ·obtain⟨xs,el,h1,h2,h3⟩:=hr;refine⟨xs,el,h1,h2.trans hl,λk y c hy hc'=>?_⟩;have hk:k<cs.length:=by rw[hl];exact(qzP.1 hc').1
  have h4:=h3 k y cs[k] hy (qzR hk);exact⟨h4.1,qld (hc k _ _ (qzR hk) hc') h4.2⟩
theorem StW.ren{E:AB}{tp:Nat->Prop}{H H':ab}{w:World}(ρ:Nat->Nat)(h:StW E tp H w)(hρ:∀i j r s,H' i=some r->H' j=some s->ρ i=ρ j->i=j)
 (hs:∀i r,H' i=some r->∃r0,H (ρ i)=some r0/\RSub r0 r):
 StW E tp H' w/\∀x d,R tp (bc E.O tp H w) w x d->R tp (bc E.O tp H' w) w x d:=by
 have hown:∀b,bL H' b->bL H b:=λb ⟨i,r,h1,h2⟩=>by
  obtain⟨r0,h3,h4⟩:=hs i r h1;exact⟨ρ i,r0,h3,h4.blk ▸h2⟩
 have move:∀x d,R tp (bc E.O tp H w) w x d->R tp (bc E.O tp H' w) w x d:=λx d hr=>
  hr.mono (λ_ h=>h) (λb hb=>⟨⟨hb.1,hb.2.1,hb.2.2.1,λho=>hb.2.2.2 (hown b ho)⟩,rfl⟩) (λb _=> .refl _ _)
 refine⟨⟨h.hO,h.tpx,h.tpn,h.tpl,h.step,λb hb=>h.loc b (hown b hb),⟨λi j r s b h1 h2 h3 h4=>?_,λi r b h1 h2=>?_,λi r h1=>?_⟩⟩,move⟩
 ·obtain⟨r0,a1,a2⟩:=hs i r h1;obtain⟨s0,b1,b2⟩:=hs j s h2;exact hρ i j r s h1 h2 (h.sat.dis _ _ r0 s0 b a1 b1 (a2.blk ▸h3) (b2.blk ▸h4))
 ·obtain⟨r0,a1,a2⟩:=hs i r h1;exact h.sat.out _ r0 b a1 (a2.blk ▸h2)
 ·obtain⟨r0,a1,a2⟩:=hs i r h1;exact a2.ok ((h.sat.ok _ r0 a1).conv move (λ_ _=>rfl))
theorem qlq{σ:Sg}{H:ab}(i j k b:Nat)(cs cs':List D)(hij:i≠j)(hk:k≠i/\k≠j)(h10:H k=some (.box b cs))(hl:cs.length=cs'.length)(hc:∀(m:Nat) (c c':D),cs[m]? =some c->cs'[m]? =some c'->XK c c'):
 Wk σ H σ (ai (ai (ai H i none) j (H i)) k (some (.box b cs'))):=by
 intro E a w hst;obtain⟨hd,hN,tp,hw,hr⟩:=hst;have hm:=hw.ren (H':=ai (ai (ai H i none) j (H i)) k (some (.box b cs'))) (λt=>if t=j then i else t) (λa c r s h1 h2 h3=>?_) (λt r h1=>?_)
 ·exact⟨hd,hN,tp,hm.1,λt=>hm.2 _ _ (hr t)⟩
 ·simp only[ai]at h1 h2;by_cases ea:a=j
  ·by_cases ec:c=j
   ·exact ea.trans ec.symm
   ·simp only[ea,ec,if_true,if_false]at h3;subst h3;simp[hk.1.symm,hij]at h2
  ·by_cases ec:c=j
   ·simp only[ea,ec,if_true,if_false]at h3;subst h3;simp[hk.1.symm,hij]at h1
   ·simpa [ea,ec]using h3
 ·simp only[ai]at h1;by_cases e1:t=k
  ·subst e1;simp only[if_true]at h1;cases h1;simp only[hk.2,if_false];exact⟨_,h10, .inr ⟨b,cs,cs',rfl,rfl,hl,hc⟩⟩
  ·simp only[e1,if_false]at h1;by_cases e2:t=j
   ·simp only[e2,if_true]at h1 ⊢;exact⟨r,h1, .inl rfl⟩
   ·simp only[e2,if_false]at h1 ⊢;by_cases e3:t=i
    ·simp[e3]at h1
    ·simp only[e3,if_false]at h1;exact⟨r,h1, .inl rfl⟩
section
variable {S:Nat->Spc}{σ σ1:Sg}{H H1:ab}{K:Ex->Sg->ab->Prop}
def qdD{k:Nat}{b:CC}(hw:Wk σ H σ1 H1)(h:vc S (.loop k b) K σ1 H1):vc S (.loop k b) K σ H:=by
 rw[SV]at h ⊢;obtain⟨I,⟨x,h1,h2⟩,h3⟩:=h;exact⟨I,⟨x,h1,λE a w hs=>h2 E a w (hw E a w hs)⟩,h3⟩
def HJ{id i n c id2 i2:Nat}{body:CC}(hw:Wk σ H σ1 H1)(h:vc S (fF id i n c id2 body i2) K σ1 H1):vc S (fF id i n c id2 body i2) K σ H:=by
 unfold fF at h ⊢;rw[SW]at h ⊢;exact qdD hw h
end
variable {dq:Prop}
section
variable {X Y:Type}
def qxf(ce:X->List D)(cf:Y->List D)(pre:X->Prop)(post:X->Y->Prop):PT:=λd ds H K=>∃L id b x,ds=[.tape L, .bptr id b 0]/\H id=some (.box b (ce x))/\pre x/\∀y,post x y->K (.tup []) (ai H id (some (.box b (cf y))))
def qkg(ce:X->List D)(cf:Y->List D)(pre:X->Prop)(post:X->Y->Prop):qZ (qxf ce cf pre post):=λd ds H K K' hk ⟨L,id,b,x,h1,h2,h3,h4⟩=>⟨L,id,b,x,h1,h2,h3,λy hy=>hk _ _ (h4 y hy)⟩
def qt7(ce:X->List D)(cf:Y->List D)(pre:X->Prop)(post:X->Y->Prop):Spc:= .gen _ (qkg ce cf pre post)
def qxe(ce:X->List D)(cf:Y->List D)(pre:X->Prop)(post:X->Y->Prop)(id b:Nat)(r:Option Res)(H:ab)(K:D->ab->Prop):Prop:=∃x,r=some (.box b (ce x))/\pre x/\∀y,post x y->K (.tup []) (ai H id (some (.box b (cf y))))
@[congr] theorem qxd{ce:X->List D}{cf:Y->List D}{pre:X->Prop}{post:X->Y->Prop}{id b:Nat}{r r':Option Res}{H:ab}{K:D->ab->Prop}(h:r=r'):qxe ce cf pre post id b r H K=qxe ce cf pre post id b r' H K:=by subst h;rfl
@[simp] theorem qxg(ce:X->List D)(cf:Y->List D)(pre:X->Prop)(post:X->Y->Prop)(d i b:Nat)(L:List Int)(H:ab)(K:D->ab->Prop):(qt7 ce cf pre post).pt d [.tape L, .bptr i b 0] H K=qxe ce cf pre post i b (H i) H K:=by
 refine propext ⟨λh=>?_,λh=>?_⟩
 ·obtain⟨L',id,b',x,h1,h2,h3,h4⟩:=h;cases h1;exact⟨x,h2,h3,h4⟩
 ·obtain⟨x,h1,h2,h3⟩:=h;exact⟨L,i,b,x,rfl,h1,h2,h3⟩
variable {P:Program}{S:Nat->Spc}{f:Nat}{im:List Nat}{cc:CC}{rs:List ak}{N:Nat}
end
def HWk(H H2:ab):Prop:=∀(E:AB) (tp:Nat->Prop) (w:World),StW E tp H w->StW E tp H2 w/\∀x d,R tp (bc E.O tp H w) w x d->R tp (bc E.O tp H2 w) w x d
def HWk.refl(H:ab):HWk H H:=λ_ _ _ h=>⟨h,λ_ _ h=>h⟩
def Wk.trans{σ σ1 σ2:Sg}{H H1 H2:ab}(h:Wk σ H σ1 H1)(k:Wk σ1 H1 σ2 H2):Wk σ H σ2 H2:=λE a w hs=>k E a w (h E a w hs)
def qjL(k:Nat)(ks:List Nat)(H:ab):ab:=λi=>if i=k\/i∈ks then none else H i
def left(k b:Nat)(cs:List D)(ks:List Nat)(H:ab):ab:=λi=>if i=k then some (.box b cs)else if i∈ks then H i else none
theorem qjE{H:ab}(k b:Nat)(cs cs':List D)(ks:List Nat)(hk:H k=some (.box b cs))(hl:cs.length=cs'.length)
 (hc:∀(m:Nat) (c c':D),cs[m]? =some c->cs'[m]? =some c'->FrzTo (qjL k ks H) c c'):HWk H (left k b cs' ks H):=by
 intro E tp w h;have hs:∀i r,left k b cs' ks H i=some r->(i=k/\r= .box b cs')\/(i≠k/\i∈ks/\H i=some r):=λi r h1=>by
  simp only[left]at h1;by_cases e:i=k
  ·rw[if_pos e]at h1;cases h1;exact .inl ⟨e,rfl⟩
  ·rw[if_neg e]at h1;by_cases e2:i∈ks
   ·rw[if_pos e2]at h1;exact .inr ⟨e,e2,h1⟩
   ·rw[if_neg e2]at h1;cases h1
 have hblk:∀i r c,left k b cs' ks H i=some r->r.blk=some c->∃r0,H i=some r0/\r0.blk=some c:=λi r c h1 h2=>by
  rcases hs i r h1 with⟨rfl,rfl⟩|⟨_,_,h3⟩
  ·exact⟨_,hk,h2⟩
  ·exact⟨r,h3,h2⟩
 have hown:∀c,bL (left k b cs' ks H) c->bL H c:=λc ⟨i,r,h1,h2⟩=>by
  obtain⟨r0,h3,h4⟩:=hblk i r c h1 h2;exact⟨i,r0,h3,h4⟩
 have himm:∀c,bc E.O tp H w c->bc E.O tp (left k b cs' ks H) w c:=λc hb=>⟨hb.1,hb.2.1,hb.2.2.1,λho=>hb.2.2.2 (hown c ho)⟩
 have move:∀x d,R tp (bc E.O tp H w) w x d->R tp (bc E.O tp (left k b cs' ks H) w) w x d:=λx d hr=>
  hr.mono (λ_ h=>h) (λb hb=>⟨himm b hb,rfl⟩) (λb _=> .refl _ _)
 refine⟨⟨h.hO,h.tpx,h.tpn,h.tpl,h.step,λb hb=>h.loc b (hown b hb),⟨λi j r s c h1 h2 h3 h4=>?_,λi r c h1 h2=>?_,λi r h1=>?_⟩⟩,move⟩
 ·obtain⟨r0,a1,a2⟩:=hblk i r c h1 h3;obtain⟨s0,b1,b2⟩:=hblk j s c h2 h4;exact h.sat.dis i j r0 s0 c a1 b1 a2 b2
 ·obtain⟨r0,a1,a2⟩:=hblk i r c h1 h2;exact h.sat.out i r0 c a1 a2
 ·rcases hs i r h1 with⟨rfl,rfl⟩|⟨_,_,h3⟩
  ·obtain⟨xs,el,h1,h2,h3⟩:=h.sat.ok _ _ hk;refine⟨xs,el,h1,h2.trans hl,λm y c hy hc'=>?_⟩;have hm:m<cs.length:=by rw[hl];exact(qzP.1 hc').1
   have h4:=h3 m y cs[m] hy (qzR hm);refine⟨h4.1,(hc m _ _ (qzR hm) hc').R (H:=da) (λi r hi=>?_) himm (λi r c hi hb=>?_) h4.2⟩
   ·simp only[qjL]at hi;split at hi
    ·cases hi
    ·exact h.sat.ok i r hi
   ·simp only[qjL]at hi;split at hi
    ·cases hi
    ·rename_i hn;have ho:=h.sat.out i r c hi hb;refine⟨(h.sat.ok i r hi).lt hb,ho.1,ho.2,λ⟨j,s,k1,k2⟩=>?_⟩;obtain⟨s0,k3,k4⟩:=hblk j s c k1 k2;have e:=h.sat.dis i j r s0 c hi k3 hb k4;subst e;rcases hs i s k1 with⟨e,_⟩|⟨_,e,_⟩
     ·exact hn (.inl e)
     ·exact hn (.inr e)
  ·exact(h.sat.ok i r h3).conv move (λ_ _=>rfl)
section
variable {S:Nat->Spc}{σ:Sg}{H:ab}{K:Ex->Sg->ab->Prop}
def qiu{X:Type}(P:X->Prop)(s:X->Sg)(h:X->ab){k:Nat}{a b:CC}
 (ha:vc S a (qfx (λσ' H'=>∃x,P x/\Wk σ' H' (s x) (h x)) K) σ H)
 (hb:∀x,P x->vc S b K (s x) (h x)):vc S (Ke k a b) K σ H:=by
 unfold Ke;rw[WD];refine yx a _ _ (λe σ' H' h=>?_) ha;cases e with
 | norm=>
   obtain⟨x,h1,h2⟩:=h;rw[Np,qgE];exact⟨_,_,h2,hb x h1⟩
 |ex i=>exact h
 |ret=>exact h
end
section
variable {P:Program}{im:List Nat}{E:AB}{S:Nat->Spc}
theorem Yl{f:Nat}{fn:Func}{code:Code}{cc:CC}{rs:List ak}{A:PT}(hS:∀f,Tri dq P f (S f).pt)(hmix:P.follows .mixedOrders=true)(hf:P.funcs[f]? =some fn)(hb:fn.body=some code)(hce:ee P f){N:Nat}(hN:fn.ntmps=N)
 (hcc:aF P im N code=some (bG cc)) (hrs:fn.results.toList.mapM (eV P)=some rs)
 (hA:∀ (ds:List D) (H:ab) (d:Nat) (K:D->ab->Prop),A d ds H K->ds.length<=N/\
   ∃ (ds':List D) (H0:ab) (ι:Nat->Nat),LeL ds ds'/\(∀i r,H0 i=some r->H (ι i)=some r)/\(∀i j r s,H0 i=some r->H0 j=some s->ι i=ι j->i=j)/\
    ∃Q:D->ab->Prop,vc S cc (vQ rs Q) (dC ds') H0/\∀r H',Q r H'->∃(r':D) (H2 Hf Hc:ab) (κ:Nat->Option Nat),HWk H' H2/\FrzTo Hf r r'/\(∀j q,Hf j=some q->H2 j=some q/\∀i,κ i≠some j)/\K r' Hc/\
     (∀i s,Hc i=some s->match κ i with|some j=>H2 j=some s|none=>H i=some s/\∀k q,H0 k=some q->ι k≠i)/\
     (∀i j k s q,Hc i=some s->Hc j=some q->κ i=some k->κ j=some k->i=j)):Tri dq P f A:=by
 intro O tp w vs ds H d K hO htl hsat hlen hargs hAK;refine⟨hce,?_⟩;obtain⟨hdN,ds',H0,ι,hle,hsub,hinj,Q,hv,hQ⟩:=hA ds H d K hAK
 let passed:Nat->Prop:=λi=>∃k q,H0 k=some q/\ι k=i
 let rest:Nat->Prop:=λb=>∃i r,H i=some r/\ ¬passed i/\r.blk=some b
 let E:AB:={ O:=λb=>O b\/rest b,tp0:=tp,w0:=w,own0:=bL H0,N:=N,dq:=dq }
 have hownH0:∀b,bL H0 b->bL H b:=λb ⟨i,r,h1,h2⟩=>⟨ι i,r,hsub i r h1,h2⟩
 have hrestlt:∀b,rest b->b<w.heap.size:=λb ⟨i,r,h1,_,h2⟩=>(hsat.ok i r h1).lt h2
 have hrestown:∀b,rest b->¬bL H0 b:=λb ⟨i,r,h1,h2,h3⟩ ⟨j,s,h4,h5⟩=>h2 ⟨j,s,h4,(hsat.dis i (ι j) r s b h1 (hsub j s h4) h3 h5).symm⟩
 have himm:∀b,bc O tp H w b->bc E.O tp H0 w b:=λb hb=>⟨hb.1,λh=>h.elim hb.2.1 (λ⟨i,r,h1,_,h2⟩=>hb.2.2.2 ⟨i,r,h1,h2⟩),hb.2.2.1,λh=>hb.2.2.2 (hownH0 b h)⟩
 have hmove:∀x e,R tp (bc O tp H w) w x e->R tp (bc E.O tp H0 w) w x e:=λx e hr=>hr.mono (λ_ h=>h) (λb hb=>⟨himm b hb,rfl⟩) (λb _=> .refl _ _)
 have hstw:StW E tp H0 w:=by
  refine⟨λb hb=>hb.elim (hO b) (hrestlt b),λb h=>h,λb h=> .inl h,⟨htl.1,htl.2.mono (λ_ h=>h) hownH0⟩, .refl _ _ _,λb hb=> .inl hb,⟨λi j r s b h1 h2 h3 h4=>?_,λi r b h1 h2=>⟨λh=>?_,?_⟩,λi r h1=>?_⟩⟩
  ·exact hinj i j r s h1 h2 (hsat.dis _ _ r s b (hsub i r h1) (hsub j s h2) h3 h4)
  ·rcases h with h|h
   ·exact(hsat.out _ r b (hsub i r h1) h2).1 h
   ·exact hrestown b h ⟨i,r,h1,h2⟩
  ·exact(hsat.out _ r b (hsub i r h1) h2).2
  ·exact(hsat.ok _ r (hsub i r h1)).conv hmove (λ_ _=>rfl)
 have hst:St E (dC ds') H0 { tmps:=vs.toArray++Array.replicate (fn.ntmps -vs.toArray.size) undef,defers:=[] } w:=by
  refine⟨rfl,?_,tp,hstw,λt=>?_⟩
  ·show(vs.toArray++Array.replicate (fn.ntmps -vs.toArray.size) undef).size=N;simp;omega
  ·unfold dC;cases hd:ds'[t]? with
   |none=>exact .any _
   | some e'=>
     have hlt:t<vs.length:=by rw[hlen,hle.1];exact(qzP.1 hd).1
     have hlt':t<ds.length:=by rw[<-hlen];exact hlt
     have hg:(vs.toArray++Array.replicate (fn.ntmps -vs.toArray.size) undef).getD t undef=vs[t]:=by
      rw[qAp,qAG (by simpa using hlt)];simp[hlt]
     simp only[qAx,hg];have he:=qzR hlt';exact(hle.2 t _ e' he hd).R (H:=da) (λi r h=>by cases h) (λ_ h=>h) (λi r b h=>by cases h) (hmove _ _ (hargs t _ _ (by simp[hlt]) he))
 have hwp:=xF hS hmix cc code (by exact hcc) _ _ _ _ w hst hv;refine calls_of_wp hf hb (qBl ?_ hwp);have sC:∀a' w' σ' H',St E σ' H' a' w'->(yW rs σ' H' λds=>Q (dI ds) H')->
  a'.defers=[]/\∃v,(results fn a'.tmps).run P w'= .ok v w'/\ZI dq O tp H w K (.returned v) w':=by
  intro a' w' σ' H' hst' hres;obtain⟨hd',hN',tp',hw',hr'⟩:=hst';obtain⟨v,r0,hrun,hR,hq⟩:=rh (K:=λr=>Q r H') hrs hr' hw'.sat.ok hres;obtain⟨r,H2,Hf,Hc,κ,hW,hfz,hHf,hK,hκ,hκi⟩:=hQ r0 H' hq;obtain⟨hw2,mv2⟩:=hW _ _ _ hw';refine⟨hd',v,hrun,v,r,Hc,tp',rfl,hK,hw2.tpx,hw2.tpn,hw2.tpl.1,?_,?_,?_,?_⟩
  ·-- the step
   have hs:=hw2.step;exact⟨hs.os,hs.tape,hs.output,hs.size,λb hb ho ht=>hs.same b hb (λh=>ho (hownH0 b h)) ht,hs.tapes,hs.drawn⟩
  all_goals
   have hkn:∀i s,Hc i=some s->(∃j,κ i=some j/\H2 j=some s)\/(κ i=none/\H i=some s/\ ¬passed i):=λi s hi=>by
    have:=hκ i s hi;cases hk:κ i with
    |some j=>rw[hk]at this;exact .inl ⟨j,rfl,this⟩
    |none=>rw[hk]at this;exact .inr ⟨rfl,this.1,λ⟨k,q,h1,h2⟩=>this.2 k q h1 h2⟩
  ·intro b ⟨i,s,h1,h2⟩;rcases hkn i s h1 with⟨j,_,h3⟩|⟨_,h3,_⟩
   ·rcases hw2.loc b ⟨j,s,h3,h2⟩with h4|h4
    ·exact .inl (hownH0 b h4)
    ·exact .inr h4
   ·exact .inl ⟨i,s,h3,h2⟩
  all_goals
   have hownc:∀b,bL Hc b->bL H2 b\/rest b:=λb ⟨i,s,h1,h2⟩=>by
    rcases hkn i s h1 with⟨j,_,h3⟩|⟨_,h3,h4⟩
    ·exact .inl ⟨j,s,h3,h2⟩
    ·exact .inr ⟨i,s,h3,h4,h2⟩
   have himmc:∀b,bc E.O tp' H2 w' b->bc O tp' Hc w' b:=λb hb=>⟨hb.1,λh=>hb.2.1 (.inl h),hb.2.2.1,λh=>by
    rcases hownc b h with h|h
    ·exact hb.2.2.2 h
    ·exact hb.2.1 (.inr h)⟩
   have hmovec:∀x e,R tp' (bc E.O tp' H2 w') w' x e->R tp' (bc O tp' Hc w') w' x e:=λx e hr=>hr.mono (λ_ h=>h) (λb hb=>⟨himmc b hb,rfl⟩) (λb _=> .refl _ _)
  ·refine⟨λi j s q b h1 h2 h3 h4=>?_,λi s b h1 h2=>?_,λi s h1=>?_⟩
   ·rcases hkn i s h1 with⟨i',e1,k1⟩|⟨e1,k1,p1⟩
    ·rcases hkn j q h2 with⟨j',e2,k2⟩|⟨e2,k2,p2⟩
     ·have:=hw2.sat.dis i' j' s q b k1 k2 h3 h4;subst this;exact hκi i j i' s q h1 h2 e1 e2
     ·exact absurd (Or.inr ⟨j,q,k2,p2,h4⟩) (hw2.sat.out i' s b k1 h3).1
    ·rcases hkn j q h2 with⟨j',e2,k2⟩|⟨e2,k2,p2⟩
     ·exact absurd (Or.inr ⟨i,s,k1,p1,h3⟩) (hw2.sat.out j' q b k2 h4).1
     ·exact hsat.dis i j s q b k1 k2 h3 h4
   ·rcases hkn i s h1 with⟨i',e1,k1⟩|⟨e1,k1,p1⟩
    ·have:=hw2.sat.out i' s b k1 h2;exact⟨λh=>this.1 (.inl h),this.2⟩
    ·have h3:=hsat.out i s b k1 h2;refine⟨h3.1,λh=>?_⟩;rcases hw2.tpn b h with h4|h4
     ·exact h3.2 h4
     ·have:=(hsat.ok i s k1).lt h2;have h4':w.heap.size<=b:=h4;omega
   ·rcases hkn i s h1 with⟨i',e1,k1⟩|⟨e1,k1,p1⟩
    ·exact(hw2.sat.ok i' s k1).conv hmovec (λ_ _=>rfl)
    ·-- a resource that was not handed in is as it was
     have hs:=hw2.step;have hsame:∀b,b<w.heap.size->¬bL H0 b->¬tp b->w'.heap[b]? =w.heap[b]?:=hs.same;refine(hsat.ok i s k1).conv (λx e hr=>?_) (λb hb=>hsame b ((hsat.ok i s k1).lt hb) (hrestown b ⟨i,s,k1,p1,hb⟩) (hsat.out i s b k1 hb).2);refine hr.mono hw2.tpx (λb hb=>?_) hs.tapes;have h0:¬bL H0 b:=λh=>hb.2.2.2 (hownH0 b h)
     have hsz:w.heap.size<=w'.heap.size:=hs.size;have hbl:b<w.heap.size:=hb.1;refine⟨⟨by omega,hb.2.1,λh=>?_,λh=>?_⟩,hsame b hb.1 h0 hb.2.2.1⟩
     ·rcases hw2.tpn b h with h4|h4
      ·exact hb.2.2.1 h4
      ·have h4':w.heap.size<=b:=h4;omega
     ·rcases hownc b h with h|h
      ·rcases hw2.loc b h with h4|h4
       ·exact h0 h4
       ·have h4':w.heap.size<=b:=h4;omega
      ·obtain⟨j,q,h5,_,h6⟩:=h;exact hb.2.2.2 ⟨j,q,h5,h6⟩
  ·refine hfz.R (H:=da) (λi q hi=>hw2.sat.ok i q (hHf i q hi).1) himmc (λi q b hi hb=>?_) (mv2 _ _ hR);obtain⟨hi',hne⟩:=hHf i q hi;have ho:=hw2.sat.out i q b hi' hb;refine⟨(hw2.sat.ok i q hi').lt hb,λh=>ho.1 (.inl h),ho.2,λ⟨j,s,h1,h2⟩=>?_⟩;rcases hkn j s h1 with⟨j',e1,k1⟩|⟨e1,k1,p1⟩
   ·have:=hw2.sat.dis i j' q s b hi' k1 hb h2;subst this;exact hne j e1
   ·exact ho.1 (.inr ⟨j,s,k1,p1,h2⟩)
 intro e a' w' hp;cases e with
 | normal=>
   obtain⟨σ',H',hs,hk⟩:=hp;exact sC a' w' σ' H' hs hk
 | ret=>
   obtain⟨σ',H',hs,hk⟩:=hp;exact sC a' w' σ' H' hs hk
 | exit i=>
   obtain⟨σ',H',hs,hk⟩:=hp;exact hk.elim
 |goto l=>exact hp.elim
 |panic c=>exact hp.elim
 |outgrown=>exact hp.elim
end
end Go.Gv
