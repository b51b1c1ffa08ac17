/- A part of the framework and of the walks: G Cd Cc W1. -/
import Derived.Test.YtfbleenmepoodaaGreatDoorProg
import Derived.Test.YtfbleenmepoodaaGreatDoorGb19
set_option linter.unusedSimpArgs false
set_option linter.unusedVariables false
set_option linter.unusedSectionVars false
set_option linter.defProp false
set_option maxRecDepth 100000
set_option maxHeartbeats 0
namespace Go.Gv
namespace G
variable {α:Type}
def fc(n:Nat)(f:Nat->α):α:=match n with
 | 0=>f 0
 | k+1=>f (k+1)
def bt(t:Nat):Nat:=Nat.shiftLeft 1 t
def oM:Operand->Nat
 | .tmp t=>bt t
 | _=>0
def qkw:List Operand->Nat
 | []=>0
 | o::l=>Nat.lor (oM o) (qkw l)
def qkk:CI->Nat
 | .op _ g c=>Nat.lor (qkw c.ops) (match g with|some (s,_)=>bt s|none=>0)
 | .frz _ _=>0
def rm(m t:Nat):Nat:=Nat.sub m (Nat.land m (bt t))
def qfM:List CI->Nat->Nat
 | [],o=>o
 | x::l,o=>fc (qfM l o) λo=>match x with
   | .op (some d) g c=>Nat.lor (rm o d) (qkk (.op (some d) g c))
   | .op none g c=>Nat.lor o (qkk (.op none g c))
   | .frz _ _=>o
def lk:List (Nat×Nat)->Nat->Nat
 | [],_=>0
 | (i,m)::l,k=>match Nat.beq i k with
  | true=>m
  | false=>lk l k
def qix:Nat->(Nat->Nat)->Nat->Nat
 | 0,_,c=>c
 | n+1,f,c=>fc (Nat.lor c (f c)) λd=>match Nat.beq d c with
   | true=>d
   | false=>qix n f d
def lv(r:Nat):CC->List (Nat×Nat)->Nat->Nat
 | .skip,_,o=>o
 | .reg l,_,o=>qfM l o
 | .regd p t,_,o=>fc (qfM t o) (qfM p)
 | .seq a b,e,o=>fc (lv r b e o) (lv r a e)
 | .ite c a b,e,o=>Nat.lor (Nat.lor (lv r a e o) (lv r b e o)) (oM c)
 | .block i b,e,o=>lv r b ((i,o)::e) o
 | .loop _ b,e,_=>qix 50 (lv r b e) 0
 | .exit i,e,_=>lk e i
 | .ret,_,_=>r
 | .cut _ c,e,o=>lv r c e o
 | .keep _ _ c,e,o=>lv r c e o
def gt(W x t:Nat):Nat:=Nat.land (Nat.shiftRight x (Nat.mul t W)) (Nat.sub (bt W) 1)
def ad(W x t m:Nat):Nat:=Nat.lor x (Nat.shiftLeft m (Nat.mul t W))
def hO(W h:Nat):Operand->Nat
 | .tmp t=>gt W h t
 | _=>0
def qbw(W h:Nat):List Operand->Nat
 | []=>0
 | o::l=>Nat.lor (hO W h o) (qbw W h l)
def U9:Nat->Nat->Nat->List Nat
 | 0,_,_=>[]
 | n+1,i,m=>match Nat.beq m 0 with
   | true=>[]
   | false=>match Nat.beq (Nat.land m 1) 1 with
     | true=>i::U9 n (i+1) (Nat.shiftRight m 1)
     | false=>U9 n (i+1) (Nat.shiftRight m 1)
def bl(m:Nat):List Nat:=U9 1000 0 m
def RI(f:Nat->Nat):List Nat->Nat
 | []=>0
 | i::l=>Nat.lor (f i) (RI f l)
def ZA(W:Nat)(f:Nat->Nat):List Nat->Nat->Nat
 | [],c=>c
 | i::l,c=>fc (ad W c i (f i)) (ZA W f l)
def qlq(W:Nat)(x:CI)(h c:Nat)(K:Nat->Nat->α):α:=match x with
 | .frz _ _=>K h c
 | .op d _ o=>
   let put (m:Nat):α:=match d with
    | some d=>fc (ad W h d m) λh=>K h c
    | none=>K h c
   let own:Nat:=match d with
    | some d=>bt d
    | none=>0
   let cal (s:Nat):α:=fc s λs=>fc (ZA W (λi=>rm s i) (bl s) c) λc=>match d with
    | some d=>fc (ad W h d s) λh=>K h c
    | none=>K h c
   match o with
   | .alloc _ _=>put own
   | .nslice _ _=>put own
   | .mslice _ _ _=>put own
   | .mkslice _ _ _ _ _ _ _=>put own
   | .srange _=>put own
   | .appmk _ _ _ _ _ _ _=>put own
   | .m .mk _=>put own
   | .m .rng (x::_)=>fc (ZA W (λ_=>hO W h x) (bl own) c) λc=>match d with
     | some d=>fc (ad W h d own) λh=>K h c
     | none=>K h c
   | .m (.del _ _) _=>K h c
   | .m .len _=>K h c
   | .m (.upd _ _) (x::ys)=>fc (qbw W h ys) λv=>fc (ZA W (λ_=>v) (bl (hO W h x)) c) λc=>K h c
   | .m (.look _ _ _ _ _) (x::_)=>put (RI (gt W c) (bl (hO W h x)))
   | .m .entry (x::_)=>put (RI (gt W c) (bl (hO W h x)))
   | .load _ _ x=>put (RI (gt W c) (bl (hO W h x)))
   | .tbx _ x=>fc (ZA W (λ_=>hO W h x) (bl own) c) λc=>match d with
     | some d=>fc (ad W h d own) λh=>K h c
     | none=>K h c
   | .box _ false x=>fc (ZA W (λ_=>hO W h x) (bl own) c) λc=>match d with
     | some d=>fc (ad W h d own) λh=>K h c
     | none=>K h c
   | .store _ _ x y=>fc (hO W h y) λv=>fc (ZA W (λ_=>v) (bl (hO W h x)) c) λc=>K h c
   | .append _ _ _ _ x _=>put (Nat.lor own (hO W h x))
   | .call _ xs=>cal (qbw W h xs)
   | .callb _ _ xs=>cal (qbw W h xs)
   | .callv f xs=>put (Nat.lor (qbw W h xs) (hO W h f))
   | o=>put (qbw W h o.ops)
def YI(W:Nat):List CI->Nat->Nat->(Nat->Nat->α)->α
 | [],h,c,K=>K h c
 | x::l,h,c,K=>qlq W x h c λh c=>YI W l h c K
def Zw(W:Nat):CC->Nat->Nat->(Nat->Nat->α)->α
 | .reg l,h,c,K=>YI W l h c K
 | .regd p t,h,c,K=>YI W p h c λh c=>YI W t h c K
 | .seq a b,h,c,K=>Zw W a h c λh c=>Zw W b h c K
 | .ite _ a b,h,c,K=>Zw W a h c λh c=>Zw W b h c K
 | .block _ b,h,c,K=>Zw W b h c K
 | .loop _ b,h,c,K=>Zw W b h c K
 | _,h,c,K=>K h c
def fx(W:Nat)(cc:CC):Nat->Nat->Nat->(Nat->Nat->α)->α
 | 0,h,c,K=>K h c
 | n+1,h,c,K=>Zw W cc h c λh' c'=>match Nat.beq h h' with
   | false=>fx W cc n h' c' K
   | true=>match Nat.beq c c' with
     | false=>fx W cc n h' c' K
     | true=>K h c
def cl(W c:Nat):Nat->Nat->Nat
 | 0,s=>s
 | n+1,s=>fc (Nat.lor s (RI (gt W c) (bl s))) λt=>match Nat.beq t s with
   | true=>s
   | false=>cl W c n t
def qcZ:Value->Bool
 | .int .i64 k=>decide (k=1)
 | _=>false
def qlL:List CI->Option (Nat×Nat×Nat)
 | [.op (some c) none (.cmp .lss (.tmp i) (.tmp n))]=>some (c,i,n)
 | _=>none
def qf8:List CI->Option (Nat×Nat)
 | [.op (some i2) none (.arith .add (.tmp i) (.const v)), .op (some j) none (.mv (.tmp j2))]=>match qcZ v && Nat.beq i j && Nat.beq i2 j2 with
   | true=>some (i2,i)
   | false=>none
 | _=>none
def qiz(id:Nat):CC->Option (Nat×Nat×Nat×Nat×Nat)
 | .loop _ (.seq (.reg l) (.seq (.ite (.tmp c2) .skip (.exit id3)) (.seq (.block id2 _) (.reg l2))))=>match qlL l,qf8 l2 with
   | some (c,i,n),some (i2,j)=>match Nat.beq id id3 && Nat.beq c c2 && Nat.beq i j with
     | true=>some (i,n,c,id2,i2)
     | false=>none
   | _,_=>none
 | _=>none
def X0:CC->Nat
 | .seq a b=>X0 a+X0 b+1
 | .ite _ a b=>X0 a+X0 b
 | .block i b=>match qiz i b with
   | some _=>X0 b -3
   | none=>X0 b
 | .loop _ b=>X0 b
 | _=>0
def JV:CC->Nat
 | .seq a b=>JV a+JV b
 | .ite _ a b=>JV a+JV b
 | .block i b=>match qiz i b with
   | some _=>JV b -1
   | none=>JV b
 | .loop _ b=>JV b+1
 | _=>0
def uk:CC->CC
 | .keep _ _ c=>c
 | c=>c
def ql2(b:CC):CC:=match b with
 | .loop _ b=>match uk b with
   | .seq _ b=>match uk b with
     | .seq _ b=>match uk b with
       | .seq a _=>match uk a with
         | .block _ b=>b
         | _=> .skip
       | _=> .skip
     | _=> .skip
   | _=> .skip
 | _=> .skip
section
variable (f:Operand->Operand)(z:List Value->List Value)
def pC:COp->COp
 | .mv x=> .mv (f x)
 | .pick c x y=> .pick (f c) (f x) (f y)
 | .alloc el l=> .alloc el (z l)
 | .box el im x=> .box el im (f x)
 | .tbx el x=> .tbx el (f x)
 | .build l ps=> .build (z l) (ps.map λp=>(p.1,p.2.1,f p.2.2))
 | .bslice el n ps=> .bslice el n (ps.map f)
 | .nslice el n=> .nslice el n
 | .mslice el n ps=> .mslice el n (ps.map f)
 | .load a s x=> .load a s (f x)
 | .store r s x y=> .store r s (f x) (f y)
 | .nilck x=> .nilck (f x)
 | .arith o x y=> .arith o (f x) (f y)
 | .cmp o x y=> .cmp o (f x) (f y)
 | .eql n a ks x y=> .eql n a ks (f x) (f y)
 | .scat x y=> .scat (f x) (f y)
 | .not x=> .not (f x)
 | .neg x=> .neg (f x)
 | .conv k x=> .conv k (f x)
 | .clo g l=> .clo g (l.map f)
 | .mkslice el n b a l x y=> .mkslice el n b a (z l) (f x) (f y)
 | .slice n x l h=> .slice n (f x) (l.map f) (h.map f)
 | .sslice x l h=> .sslice (f x) (l.map f) (h.map f)
 | .faddr o x=> .faddr o (f x)
 | .fld a s o x=> .fld a s o (f x)
 | .iaddr n x i=> .iaddr n (f x) (f i)
 | .sidx x i=> .sidx (f x) (f i)
 | .ext x i=> .ext (f x) i
 | .len x=> .len (f x)
 | .slen x=> .slen (f x)
 | .mm m l=> .mm m (l.map f)
 | .append r el n b x y=> .append r el n b (f x) (f y)
 | .appmk el n b a l x y=> .appmk el n b a (z l) (f x) (f y)
 | .clear n a l x=> .clear n a (z l) (f x)
 | .copy n x y=> .copy n (f x) (f y)
 | .cap x=> .cap (f x)
 | .srange x=> .srange (f x)
 | .snext x=> .snext (f x)
 | .sbytes x=> .sbytes (f x)
 | .srunes x=> .srunes (f x)
 | .bstr x=> .bstr (f x)
 | .rstr x=> .rstr (f x)
 | .mkif t x=> .mkif t (f x)
 | .m (.look ok a ka ks l) xs=> .m (.look ok a ka ks (z l)) (xs.map f)
 | .m o xs=> .m o (xs.map f)
 | .bad=> .bad
 | .call g l=> .call g (l.map f)
 | .callv g l=> .callv (f g) (l.map f)
 | .callb r g l=> .callb r g (l.map f)
def pL(fz:List (Nat×Nat)):List CI->List CI
 | []=>[]
 | .op (some d) g c::l=>match fz.lookup d with
   | some n=> .op (some d) g (pC f z c):: .frz d n::pL fz l
   | none=> .op (some d) g (pC f z c)::pL fz l
 | .op none g c::l=> .op none g (pC f z c)::pL fz l
 | .frz t n::l=> .frz t n::pL fz l
end
structure Opt where
 bx:List Nat:=[]
 fz:List (Nat×Nat):=[]
 cu:List Nat:=[]
 ke:List Nat:=[]
 kz:List Nat:=[]
abbrev PF:=(rg:Nat->Nat->Nat->Nat->Nat->CC->Nat->CC)->(sm:Nat->CC->CC->CC)->(kk:{_:Value} ->Operand)->(zk:IntKind->Value)->(ze zb zs zp zm zf:Value)->CC
section
variable (kk:{_:Value} ->Operand)(zk:IntKind->Value)(ze zb zs zp zm zf:Value)
def pO:Operand->Operand
 | .const v=> @kk v
 | .tmp t=> .tmp t
 | .global g=> .global g
 | .func f=> .func f
def pZ:List Value->List Value
 | []=>[]
 | v::l=>(match v with
   | .int k _=>zk k
   | .string _=>ze
   | .bool _=>zb
   | .slice _ _ _=>zs
   | .pointer _=>zp
   | .map _=>zm
   | _=>zf)::pZ l
end
section
variable (rg:Nat->Nat->Nat->Nat->Nat->CC->Nat->CC)(sm:Nat->CC->CC->CC)(f:Operand->Operand)(z:List Value->List Value)(op:Opt)(W h c r:Nat)
def qjT(l:List Nat):List Nat:=op.ke.filter (λx=>!l.contains x) ++l++op.kz
def an:CC->List (Nat×Nat)->Nat->Nat->Nat->Nat->CC
 | .skip,_,_,_,_,_=> .skip
 | .reg l,_,_,_,_,_=> .reg (pL f z op.fz l)
 | .regd p l,_,_,_,_,_=> .regd (pL f z op.fz p) (pL f z op.fz l)
 | .seq a b,e,o,m,k,s=>fc (lv r b e o) λp=>fc (match s with|0=>m+1|_=>m) λm1=>
   let a':=an a e p m1 k 0
   let b':=an b e o (m1+X0 a) (k+JV a) (s -1)
   let b2:=match a with
    | .skip=>b'
    | _=> .keep (bl p) (qjT op (bl (cl W c 5 (RI (gt W h) (bl p))))) b'
   match s with
   | 0=>match op.cu.contains m with
     | true=>sm m a' b2
     | false=> .seq a' b2
   | _=> .seq a' b2
 | .ite q a b,e,o,m,k,_=> .ite (f q) (an a e o m k 0) (an b e o (m+X0 a) (k+JV a) 0)
 | .block i b,e,o,m,k,_=>match qiz i b with
   | some (ii,n,c,id2,i2)=>rg i ii n c id2 (ql2 (an b ((i,o)::e) o m k 3)) i2
   | none=> .block i (an b ((i,o)::e) o m k 0)
 | .loop _ b,e,_,m,k,s=>fc (qix 50 (lv r b e) 0) λo=>match s with
   | 0=> .loop k (an b e o m (k+1) 0)
   | _=> .loop 0 (an b e o m k s)
 | .exit i,_,_,_,_,_=> .exit i
 | .ret,_,_,_,_,_=> .ret
 | .cut _ c,e,o,m,k,s=>an c e o m k s
 | .keep _ _ c,e,o,m,k,s=>an c e o m k s
end
def YK(W:Nat):List Nat->Nat
 | []=>0
 | t::l=>ad W (YK W l) t (bt t)
def ZI:List ResultVar->Nat
 | []=>0
 | .tmp t::l=>Nat.lor (bt t) (ZI l)
 | .cell t _::l=>Nat.lor (bt t) (ZI l)
def qkP(P:Program)(neg:Bool)(t:TypeId)(x y:Operand):COp:=match P.underlying t with
 | some (.struct fs)=> .eql neg true (fs.toList.map λf=>(iR P f.type).getD .int) x y
 | _=> .eql neg false [(iR P t).getD .int] x y
def qjw(P:Program)(im:List Nat)(ops:Array Oper)(o:Oper):CI:= .op o.dst ((Ao ops o).getD none) (match o.op with
 | .binOp .eql t x y _=>qkP P false t x y
 | .binOp .neq t x y _=>qkP P true t x y
 | _=>(bY P im o).getD .bad)
def cC(P:Program)(im:List Nat):Code->CC
 | .region _ ops false=> .reg (ops.toList.map (qjw P im ops))
 | .region _ ops true=> .regd (Pf ops (ops.toList.map (qjw P im ops)) (bB ops)) ((ops.toList.map (qjw P im ops)).drop (bB ops))
 | .seq a b=> .seq (cC P im a) (cC P im b)
 | .cond c a b=> .ite c (cC P im a) (cC P im b)
 | .block id b=> .block id (cC P im b)
 | .loop b=> .loop 0 (cC P im b)
 | .exit id=> .exit id
 | .ret=> .ret
 | _=> .skip
def gn(P:Program)(fn:Func)(im:List Nat)(op:Opt):PF:=λrg sm kk zk ze zb zs zp zm zf=>match fn.body with
 | none=> .skip
 | some code=>fc (YK fn.ntmps op.bx) λh0=>fx fn.ntmps (cC { P with cutTypes:= #[] } im code) 6 h0 0 λh c=>fc (ZI fn.results.toList) λr=>
   an rg sm (pO @kk) (pZ zk ze zb zs zp zm zf) op fn.ntmps h c r (cC { P with cutTypes:= #[] } im code) [] r 0 1 0
def rw_(P:Program)(fn:Func)(im:List Nat):CC:=match fn.body with
 | none=> .skip
 | some code=>cC { P with cutTypes:= #[] } im code
def ap(c:PF):CC:=c ki NB (λ{v} => .const v) (λk=> .int k 0) (.string ⟨#[]⟩) (.bool false) (.slice none 0 0) (.pointer none) (.map none) .nilFunc
end G
open Go.Proofs
abbrev oA(d s:Nat):CI:= .op (some d) none (.mv (.tmp s))
abbrev oB(d:Nat)(c:COp):CI:= .op (some d) none c
abbrev oC(d w s:Nat):CI:= .op (some d) none (.load false w (.tmp s))
abbrev oD(d w s:Nat):CI:= .op (some d) none (.load true w (.tmp s))
abbrev oE(d n s:Nat):CI:= .op (some d) none (.faddr n (.tmp s))
abbrev oF(w a b:Nat):CI:= .op none none (.store none w (.tmp a) (.tmp b))
abbrev oG(d s:Nat):CI:= .op (some d) none (.nilck (.tmp s))
abbrev oH(d g:Nat)(c:COp):CI:= .op (some d) (some (g,true)) c
abbrev oI(d g:Nat)(c:COp):CI:= .op (some d) (some (g,false)) c
abbrev oT(n:Nat):Operand:= .tmp n
abbrev oK(v:Value):Operand:= .const v
abbrev oN(n:Int):Operand:= .const (.int .i64 n)
abbrev oS(b:ByteArray):Operand:= .const (.string b)
abbrev oi:Value:= .int .i64 0
abbrev oe:Value:= .string ⟨#[]⟩
abbrev ob:Value:= .bool false
abbrev on:Value:= .slice none 0 0
abbrev oZ(d f:Nat)(l:List Operand):CI:= .op (some d) none (.call f l)
abbrev oX(l:List CI)(a b:List Nat)(x:CC):CC:= .seq (.reg l) (.keep a b x)
abbrev kJ:Nat:=3
abbrev je:Nat:=4
abbrev Dw:Nat:=5
abbrev jl:Nat:=6
abbrev mf:Nat:=7
abbrev kI:Nat:=8
abbrev qG:Nat:=9
abbrev kP:Nat:=10
abbrev vi:Nat:=11
abbrev bD:Nat:=12
abbrev mg:Nat:=13
abbrev fB:Nat:=14
abbrev sL:Nat:=15
abbrev sP:Nat:=16
abbrev sM:Nat:=17
abbrev kO:Nat:=18
abbrev qf:Nat:=19
abbrev vh:Nat:=20
abbrev jy:Nat:=21
abbrev sO:Nat:=22
abbrev kH:Nat:=23
abbrev cZ:Nat:=24
abbrev sU:Nat:=25
abbrev hL:Nat:=26
abbrev cK:Nat:=27
abbrev bp:Nat:=28
abbrev cF:Nat:=29
abbrev kE:Nat:=30
abbrev mD:Nat:=31
abbrev bQ:Nat:=32
abbrev aO:Nat:=33
abbrev bI:Nat:=34
abbrev kM:Nat:=35
abbrev pj:Nat:=36
abbrev du:Nat:=37
abbrev bV:Nat:=38
abbrev jK:Nat:=39
abbrev mB:Nat:=40
abbrev bi:Nat:=41
abbrev aV:Nat:=42
abbrev fA:Nat:=43
abbrev pi:Nat:=44
abbrev E8:Nat:=45
abbrev JK:Nat:=46
abbrev sW:Nat:=47
abbrev vr:Nat:=48
abbrev kF:Nat:=49
abbrev pg:Nat:=50
abbrev ph:Nat:=51
abbrev qh:Nat:=52
abbrev vn:Nat:=53
abbrev gZ:Nat:=54
abbrev pd:Nat:=55
abbrev pa:Nat:=56
abbrev dE:Nat:=57
abbrev aF:Nat:=58
abbrev qI:Nat:=59
abbrev kN:Nat:=60
abbrev gC:Nat:=61
abbrev qH:Nat:=62
abbrev bX:Nat:=63
abbrev cO:Nat:=64
abbrev jx:Nat:=65
abbrev be:Nat:=66
abbrev bS:Nat:=67
abbrev mE:Nat:=68
abbrev fN:Nat:=69
abbrev mc:Nat:=70
abbrev me:Nat:=71
abbrev kK:Nat:=72
abbrev kL:Nat:=73
abbrev qJ:Nat:=74
abbrev oW:Nat:=75
abbrev bP:Nat:=76
abbrev bg:Nat:=77
abbrev mF:Nat:=78
abbrev kD:Nat:=79
abbrev mC:Nat:=80
abbrev eo:Nat:=81
abbrev pb:Nat:=82
abbrev ma:Nat:=83
abbrev kC:Nat:=84
abbrev qD:Nat:=85
abbrev nf:Nat:=86
abbrev jw:Nat:=87
abbrev dy:Nat:=88
abbrev bv:Nat:=89
abbrev dz:Nat:=90
abbrev bC:Nat:=91
abbrev fw:Nat:=92
abbrev dr:Nat:=93
abbrev yq:Nat:=94
abbrev mG:Nat:=95
abbrev C0:Nat:=96
abbrev Mk:Nat:=97
abbrev jv:Nat:=98
abbrev kQ:Nat:=100
abbrev yw:Nat:=101
abbrev qF:Nat:=102
abbrev lI:Nat:=103
abbrev sR:Nat:=104
abbrev vj:Nat:=105
abbrev qE:Nat:=106
abbrev vo:Nat:=107
abbrev vk:Nat:=108
abbrev vu:Nat:=109
abbrev gX:Nat:=110
abbrev iz:Nat:=112
abbrev lZ:Nat:=113
abbrev cx:Nat:=114
abbrev cH:Nat:=115
abbrev dU:Nat:=116
abbrev iN:Nat:=117
abbrev qe:Nat:=118
abbrev fM:Nat:=119
abbrev aN:Nat:=120
abbrev bk:Nat:=121
abbrev mJ:Nat:=122
abbrev yr:Nat:=123
abbrev wE:Nat:=124
abbrev E6:Nat:=125
abbrev Mj:Nat:=126
abbrev eb:Nat:=127
abbrev jk:Nat:=128
abbrev vm:Nat:=132
abbrev qg:Nat:=133
abbrev nV:Nat:=134
abbrev yx:Nat:=135
abbrev sT:Nat:=136
abbrev sS:Nat:=137
abbrev fY:Nat:=138
abbrev bb:Nat:=139
abbrev lY:Nat:=140
abbrev fy:Nat:=141
abbrev gB:Nat:=142
abbrev vt:Nat:=143
abbrev iQ:Nat:=144
abbrev lH:Nat:=145
abbrev lJ:Nat:=146
abbrev mH:Nat:=147
abbrev sV:Nat:=148
abbrev mI:Nat:=149
abbrev wH:Nat:=150
abbrev Au:Nat:=151
abbrev Av:Nat:=152
abbrev yt:Nat:=153
abbrev Mi:Nat:=154
abbrev CY:Nat:=155
abbrev Oh:Nat:=156
abbrev BK:Nat:=157
abbrev vp:Nat:=163
abbrev fW:Nat:=164
abbrev cD:Nat:=165
abbrev kB:Nat:=166
abbrev cA:Nat:=167
abbrev dv:Nat:=168
abbrev wF:Nat:=169
abbrev JI:Nat:=170
abbrev Gk:Nat:=171
abbrev E5:Nat:=172
abbrev BL:Nat:=173
abbrev Og:Nat:=174
abbrev Of:Nat:=175
abbrev Uw:Nat:=176
abbrev Ay:Nat:=177
abbrev iP:Nat:=180
abbrev lG:Nat:=183
abbrev cP:Nat:=184
abbrev fZ:Nat:=185
abbrev Aw:Nat:=186
abbrev wG:Nat:=187
abbrev At:Nat:=188
abbrev E7:Nat:=189
abbrev vg:Nat:=191
abbrev gY:Nat:=192
abbrev fu:Nat:=193
abbrev cY:Nat:=194
abbrev eJ:Nat:=196
abbrev dt:Nat:=197
abbrev yv:Nat:=198
abbrev sQ:Nat:=199
abbrev yu:Nat:=200
abbrev fX:Nat:=201
abbrev oY:Nat:=202
abbrev iO:Nat:=205
abbrev CZ:Nat:=207
abbrev JJ:Nat:=208
abbrev Ux:Nat:=209
abbrev dn:Nat:=210
abbrev cz:Nat:=211
abbrev jz:Nat:=212
abbrev dh:Nat:=215
abbrev nc:Nat:=216
abbrev lK:Nat:=217
abbrev cb:Nat:=218
abbrev kG:Nat:=227
abbrev fP:Nat:=3
abbrev mj:Nat:=5
abbrev ar:Nat:=9
abbrev DT:Nat:=21
abbrev pY:Nat:=30
abbrev GJ:Nat:=32
abbrev cI:Nat:=36
abbrev vU:Nat:=71
abbrev jJ:Nat:=76
abbrev pX:Nat:=85
abbrev zy:Nat:=99
abbrev dx:Nat:=104
abbrev uA:Nat:=107
abbrev ct:Nat:=145
abbrev dX:Nat:=167
abbrev re:Nat:=192
def mixed:Tryz.prog.follows .mixedOrders=true:=by kernel_rfl
abbrev gq(f:Func)(im:List Nat)(op:G.Opt)(c:CC)(_:G.ap (G.gn Tryz.prog f im op)=c:=by conv=>lhs; (conv=>arg 1;reduce);dsimp only[G.ap]):CC:=c
def fo {f : Nat} {im : List Nat} {cc : CC} {rs : List aj} {N : Nat} (h : ((Tryz.prog.funcs[f]?).bind fun g => if g.name == "runtime.NumGoroutine" then none else g.body.bind fun c => (ay Tryz.prog im g.ntmps c).bind fun cc => (g.results.toList.mapM (am Tryz.prog)).bind fun rs => some (g.ntmps, cc, rs)) = some (N, bh cc, rs) := by kernel_rfl) : aq Tryz.prog f im cc rs N := Y1 mixed h
def Fl:CC:=gq Tryz.f52 [] {} _
def Ek:List aj:=[.tmp 4]
def Tp:aq Tryz.prog qh [] Fl Ek 16:=fo
def tt:CC:=gq Tryz.f147 [] {} _
def sr:List aj:=[.tmp 2]
def Jc:aq Tryz.prog mH [] tt sr 21:=fo
def vD:CC:=gq Tryz.f148 [] {} _
def uH:List aj:=[.tmp 2]
def LN:aq Tryz.prog sV [] vD uH 17:=fo
def lN:CC:=gq Tryz.f120 [] {} _
def lA:List aj:=[.tmp 2]
def Bz:aq Tryz.prog aN [] lN lA 29:=fo
def kX:CC:=gq Tryz.f121 [] {} _
def jW:List aj:=[.tmp 2]
def zX:aq Tryz.prog bk [] kX jW 25:=fo
def tv:CC:=gq Tryz.f122 [] { cu:=[2,7,9] } _
def su:List aj:=[.tmp 2]
def Je:aq Tryz.prog mJ [] tv su 81:=fo
def tu:CC:=gq Tryz.f149 [] {} _
def ss:List aj:=[.tmp 2]
def Jd:aq Tryz.prog mI [] tu ss 16:=fo
def tr:CC:=gq Tryz.f163 [] {} _
def sq:List aj:=[.tmp 2, .tmp 3]
def Jb:aq Tryz.prog vp [] tr sq 69:=fo
def vB:CC:=gq Tryz.f101 [] {} _
def uF:List aj:=[.tmp 2]
def LL:aq Tryz.prog yw [] vB uF 4:=fo
def pw:CC:=gq Tryz.f102 [] {} _
def ow:List aj:=[.tmp 4]
def Ez:aq Tryz.prog qF [] pw ow 13:=fo
def gd:CC:=gq Tryz.f81 [2,3] {} _
def fT:List aj:=[.tmp 4]
def tU:aq Tryz.prog eo [2,3] gd fT 122:=fo
def jB:CC:=gq Tryz.f49 [] { cu:=[6] } _
def jo:List aj:=[.tmp 2]
def xR:aq Tryz.prog kF [] jB jo 47:=fo
def tm:CC:=gq Tryz.f132 [2] {} _
def sj:List aj:=[.tmp 4]
def I4:aq Tryz.prog vm [2] tm sj 17:=fo
def ti:CC:=gq Tryz.f133 [] {} _
def se:List aj:=[.tmp 2]
def I2:aq Tryz.prog qg [] ti se 42:=fo
def qM:CC:=gq Tryz.f134 [3] {} _
def qs:List aj:=[.tmp 6]
def Gb:aq Tryz.prog nV [3] qM qs 32:=fo
def vC:CC:=gq Tryz.f135 [] {} _
def uG:List aj:=[.tmp 4]
def LM:aq Tryz.prog yx [] vC uG 24:=fo
def qP:CC:=gq Tryz.f136 [2] {} _
def qv:List aj:=[.tmp 4]
def Ge:aq Tryz.prog sT [2] qP qv 27:=fo
def qO:CC:=gq Tryz.f137 [] {} _
def qu:List aj:=[.tmp 4]
def Gd:aq Tryz.prog sS [] qO qu 27:=fo
def kW:CC:=gq Tryz.f103 [] {} _
def jV:List aj:=[.tmp 2, .tmp 3]
def zW:aq Tryz.prog lI [] kW jV 42:=fo
def qN:CC:=gq Tryz.f104 [1] {} _
def qt:List aj:=[.tmp 2, .tmp 3]
def Gc:aq Tryz.prog sR [1] qN qt 48:=fo
def th:CC:=gq Tryz.f105 [1] {} _
def sd:List aj:=[.tmp 2, .tmp 3]
def I1:aq Tryz.prog vj [1] th sd 96:=fo
def pu:CC:=gq Tryz.f106 [1] {} _
def ov:List aj:=[.tmp 2, .tmp 3]
def Ey:aq Tryz.prog qE [1] pu ov 143:=fo
def tq:CC:=gq Tryz.f107 [3] { cu:=[14,17,20,26] } _
def so:List aj:=[.tmp 4, .tmp 5]
def Ja:aq Tryz.prog vo [3] tq so 128:=fo
def tj:CC:=gq Tryz.f108 [1] { cu:=[2,5,11,14] } _
def sf:List aj:=[.tmp 2, .tmp 3]
def I3:aq Tryz.prog vk [1] tj sf 86:=fo
def nk:CC:=gq Tryz.f82 [1] {} _
def mT:List aj:=[.tmp 2, .tmp 3, .tmp 4]
def CM:aq Tryz.prog pb [1] nk mT 74:=fo
def tn:CC:=gq Tryz.f53 [1] {} _
def sk:List aj:=[.tmp 2]
def I5:aq Tryz.prog vn [1] tn sk 14:=fo
def gc:CC:=gq Tryz.f54 [] {} _
def fS:List aj:=[.tmp 4]
def tT:aq Tryz.prog gZ [] gc fS 26:=fo
def nl:CC:=gq Tryz.f55 [2] {} _
def mU:List aj:=[.tmp 4]
def CN:aq Tryz.prog pd [2] nl mU 21:=fo
def nj:CC:=gq Tryz.f56 [1] {} _
def mS:List aj:=[.tmp 2, .tmp 3]
def CL:aq Tryz.prog pa [1] nj mS 32:=fo
def qQ:CC:=gq Tryz.f25 [2,3,2101010,1100097,2108010,1107104,2145010,1144141,2182010,1181178] { cu:=[7,13,19,26,33,48] } _
def qw:List aj:=[.cell 4 true 7, .tmp 5]
def Gf:aq Tryz.prog sU [2,3,2101010,1100097,2108010,1107104,2145010,1144141,2182010,1181178] qQ qw 273:=fo
def rC:CC:=gq Tryz.f48 [] {} _
def rf:List aj:=[.tmp 2]
def G2:aq Tryz.prog vr [] rC rf 8:=fo
def BQ:CC:=gq Tryz.f45 [] {} _
def Bt:List aj:=[.tmp 2]
def QQ:aq Tryz.prog E8 [] BQ Bt 7:=fo
def Fj:CC:=gq Tryz.f46 [] {} _
def Ei:List aj:=[.tmp 2]
def Tn:aq Tryz.prog JK [] Fj Ei 7:=fo
def qR:CC:=gq Tryz.f47 [] {} _
def qx:List aj:=[.tmp 2]
def Gg:aq Tryz.prog sW [] qR qx 7:=fo
def nr:CC:=gq Tryz.f44 [] {} _
def mY:List aj:=[.tmp 0]
def CR:aq Tryz.prog pi [] nr mY 5:=fo
def px:CC:=gq Tryz.f24 [] {} _
def uI:List aj:=[.tmp 4]
def EA:aq Tryz.prog cZ [] px uI 35:=fo
def Fk:CC:=gq Tryz.f5 [999] {} _
def Ej:List aj:=[.tmp 2]
def To:aq Tryz.prog Dw [999] Fk Ej 11:=fo
def jD:CC:=gq Tryz.f23 [100026,2067008] { cu:=[3,5,12,19,22,28] } _
def jq:List aj:=[.cell 6 true 7]
def xT:aq Tryz.prog kH [100026,2067008] jD jq 177:=fo
def nn:CC:=gq Tryz.f50 [1061061,1096061,2063001,2098001] { bx:=[1],cu:=[12] } _
def mV:List aj:=[]
def CO:aq Tryz.prog pg [1061061,1096061,2063001,2098001] nn mV 100:=fo
def nq:CC:=gq Tryz.f51 [1038027,1034027,1031027,2076042,2075040] { bx:=[1],cu:=[10,14] } _
def mX:List aj:=[]
def CQ:aq Tryz.prog ph [1038027,1034027,1031027,2076042,2075040] nq mX 102:=fo
def lP:CC:=gq Tryz.f6 [] {} _
def lC:List aj:=[.cell 4 true 7]
def BB:aq Tryz.prog jl [] lP lC 36:=fo
open Cod (enc dec)
variable {S:Nat->Spc}
def BF(x n:Int):Int:=if n < 1 then 0 else if x.tmod n < 0 then x.tmod n+n else x.tmod n
abbrev s_m_Mod:Spc:=aY (a2 Int Int) (λx=>x.2<=1000000000) enc λx y=>y=BF x.1 x.2
def VW:av Fl Ek S (a2 Int Int) (λx=>x.2<=1000000000) enc λx y=>y=BF x.1 x.2:=by
 rintro⟨a,b⟩ hl;simp at hl;simp[Fl,Ek,BF];refine⟨λh1 h2=>by omega,λh1=>⟨by omega,λh2=>⟨?_,?_⟩,λh2=>?_⟩⟩
 ·have:=Int.lt_tmod_of_pos a (b:=b) (by omega);simp[InR];omega
 ·rw[if_neg (by omega),if_pos h2]
 ·rw[if_neg (by omega),if_neg (by omega)]
end Go.Gv
