/- A part of the framework and of the walks: G Cd Cc W1. -/
import Derived.Test.YtfbleenmepoodaaGreatDoorProg
import Derived.Test.YtfbleenmepoodaaGreatDoorGa19
set_option linter.unusedSimpArgs false
set_option linter.unusedVariables false
set_option linter.unusedSectionVars false
set_option linter.defProp false
set_option maxRecDepth 100000
set_option maxHeartbeats 0
namespace Go.Gv
namespace G
variable {α:Type}
def fc(n:Nat)(f:Nat->α):α:=match n with
 | 0=>f 0
 | k+1=>f (k+1)
def bt(t:Nat):Nat:=Nat.shiftLeft 1 t
def oM:Operand->Nat
 | .tmp t=>bt t
 | _=>0
def qhW:List Operand->Nat
 | []=>0
 | o::l=>Nat.lor (oM o) (qhW l)
def qhK:CI->Nat
 | .op _ g c=>Nat.lor (qhW c.ops) (match g with|some (s,_)=>bt s|none=>0)
 | .frz _ _=>0
def rm(m t:Nat):Nat:=Nat.sub m (Nat.land m (bt t))
def qdp:List CI->Nat->Nat
 | [],o=>o
 | x::l,o=>fc (qdp l o) λo=>match x with
   | .op (some d) g c=>Nat.lor (rm o d) (qhK (.op (some d) g c))
   | .op none g c=>Nat.lor o (qhK (.op none g c))
   | .frz _ _=>o
def lk:List (Nat×Nat)->Nat->Nat
 | [],_=>0
 | (i,m)::l,k=>match Nat.beq i k with
  | true=>m
  | false=>lk l k
def qf6:Nat->(Nat->Nat)->Nat->Nat
 | 0,_,c=>c
 | n+1,f,c=>fc (Nat.lor c (f c)) λd=>match Nat.beq d c with
   | true=>d
   | false=>qf6 n f d
def lv(r:Nat):CC->List (Nat×Nat)->Nat->Nat
 | .skip,_,o=>o
 | .reg l,_,o=>qdp l o
 | .regd p t,_,o=>fc (qdp t o) (qdp p)
 | .seq a b,e,o=>fc (lv r b e o) (lv r a e)
 | .ite c a b,e,o=>Nat.lor (Nat.lor (lv r a e o) (lv r b e o)) (oM c)
 | .block i b,e,o=>lv r b ((i,o)::e) o
 | .loop _ b,e,_=>qf6 50 (lv r b e) 0
 | .exit i,e,_=>lk e i
 | .ret,_,_=>r
 | .cut _ c,e,o=>lv r c e o
 | .keep _ _ c,e,o=>lv r c e o
def gt(W x t:Nat):Nat:=Nat.land (Nat.shiftRight x (Nat.mul t W)) (Nat.sub (bt W) 1)
def ad(W x t m:Nat):Nat:=Nat.lor x (Nat.shiftLeft m (Nat.mul t W))
def hO(W h:Nat):Operand->Nat
 | .tmp t=>gt W h t
 | _=>0
def Za(W h:Nat):List Operand->Nat
 | []=>0
 | o::l=>Nat.lor (hO W h o) (Za W h l)
def Sx:Nat->Nat->Nat->List Nat
 | 0,_,_=>[]
 | n+1,i,m=>match Nat.beq m 0 with
   | true=>[]
   | false=>match Nat.beq (Nat.land m 1) 1 with
     | true=>i::Sx n (i+1) (Nat.shiftRight m 1)
     | false=>Sx n (i+1) (Nat.shiftRight m 1)
def bl(m:Nat):List Nat:=Sx 1000 0 m
def Pv(f:Nat->Nat):List Nat->Nat
 | []=>0
 | i::l=>Nat.lor (f i) (Pv f l)
def WJ(W:Nat)(f:Nat->Nat):List Nat->Nat->Nat
 | [],c=>c
 | i::l,c=>fc (ad W c i (f i)) (WJ W f l)
def qiP(W:Nat)(x:CI)(h c:Nat)(K:Nat->Nat->α):α:=match x with
 | .frz _ _=>K h c
 | .op d _ o=>
   let put (m:Nat):α:=match d with
    | some d=>fc (ad W h d m) λh=>K h c
    | none=>K h c
   let own:Nat:=match d with
    | some d=>bt d
    | none=>0
   let cal (s:Nat):α:=fc s λs=>fc (WJ W (λi=>rm s i) (bl s) c) λc=>match d with
    | some d=>fc (ad W h d s) λh=>K h c
    | none=>K h c
   match o with
   | .alloc _ _=>put own
   | .nslice _ _=>put own
   | .mslice _ _ _=>put own
   | .mkslice _ _ _ _ _ _ _=>put own
   | .srange _=>put own
   | .appmk _ _ _ _ _ _ _=>put own
   | .m .mk _=>put own
   | .m .rng (x::_)=>fc (WJ W (λ_=>hO W h x) (bl own) c) λc=>match d with
     | some d=>fc (ad W h d own) λh=>K h c
     | none=>K h c
   | .m (.del _ _) _=>K h c
   | .m .len _=>K h c
   | .m (.upd _ _) (x::ys)=>fc (Za W h ys) λv=>fc (WJ W (λ_=>v) (bl (hO W h x)) c) λc=>K h c
   | .m (.look _ _ _ _ _) (x::_)=>put (Pv (gt W c) (bl (hO W h x)))
   | .m .entry (x::_)=>put (Pv (gt W c) (bl (hO W h x)))
   | .load _ _ x=>put (Pv (gt W c) (bl (hO W h x)))
   | .tbx _ x=>fc (WJ W (λ_=>hO W h x) (bl own) c) λc=>match d with
     | some d=>fc (ad W h d own) λh=>K h c
     | none=>K h c
   | .box _ false x=>fc (WJ W (λ_=>hO W h x) (bl own) c) λc=>match d with
     | some d=>fc (ad W h d own) λh=>K h c
     | none=>K h c
   | .store _ _ x y=>fc (hO W h y) λv=>fc (WJ W (λ_=>v) (bl (hO W h x)) c) λc=>K h c
   | .append _ _ _ _ x _=>put (Nat.lor own (hO W h x))
   | .call _ xs=>cal (Za W h xs)
   | .callb _ _ xs=>cal (Za W h xs)
   | .callv f xs=>put (Nat.lor (Za W h xs) (hO W h f))
   | o=>put (Za W h o.ops)
def VH(W:Nat):List CI->Nat->Nat->(Nat->Nat->α)->α
 | [],h,c,K=>K h c
 | x::l,h,c,K=>qiP W x h c λh c=>VH W l h c K
def WF(W:Nat):CC->Nat->Nat->(Nat->Nat->α)->α
 | .reg l,h,c,K=>VH W l h c K
 | .regd p t,h,c,K=>VH W p h c λh c=>VH W t h c K
 | .seq a b,h,c,K=>WF W a h c λh c=>WF W b h c K
 | .ite _ a b,h,c,K=>WF W a h c λh c=>WF W b h c K
 | .block _ b,h,c,K=>WF W b h c K
 | .loop _ b,h,c,K=>WF W b h c K
 | _,h,c,K=>K h c
def fx(W:Nat)(cc:CC):Nat->Nat->Nat->(Nat->Nat->α)->α
 | 0,h,c,K=>K h c
 | n+1,h,c,K=>WF W cc h c λh' c'=>match Nat.beq h h' with
   | false=>fx W cc n h' c' K
   | true=>match Nat.beq c c' with
     | false=>fx W cc n h' c' K
     | true=>K h c
def cl(W c:Nat):Nat->Nat->Nat
 | 0,s=>s
 | n+1,s=>fc (Nat.lor s (Pv (gt W c) (bl s))) λt=>match Nat.beq t s with
   | true=>s
   | false=>cl W c n t
def qaD:Value->Bool
 | .int .i64 k=>decide (k=1)
 | _=>false
def qja:List CI->Option (Nat×Nat×Nat)
 | [.op (some c) none (.cmp .lss (.tmp i) (.tmp n))]=>some (c,i,n)
 | _=>none
def qdL:List CI->Option (Nat×Nat)
 | [.op (some i2) none (.arith .add (.tmp i) (.const v)), .op (some j) none (.mv (.tmp j2))]=>match qaD v && Nat.beq i j && Nat.beq i2 j2 with
   | true=>some (i2,i)
   | false=>none
 | _=>none
def qf8(id:Nat):CC->Option (Nat×Nat×Nat×Nat×Nat)
 | .loop _ (.seq (.reg l) (.seq (.ite (.tmp c2) .skip (.exit id3)) (.seq (.block id2 _) (.reg l2))))=>match qja l,qdL l2 with
   | some (c,i,n),some (i2,j)=>match Nat.beq id id3 && Nat.beq c c2 && Nat.beq i j with
     | true=>some (i,n,c,id2,i2)
     | false=>none
   | _,_=>none
 | _=>none
def Vd:CC->Nat
 | .seq a b=>Vd a+Vd b+1
 | .ite _ a b=>Vd a+Vd b
 | .block i b=>match qf8 i b with
   | some _=>Vd b -3
   | none=>Vd b
 | .loop _ b=>Vd b
 | _=>0
def HO:CC->Nat
 | .seq a b=>HO a+HO b
 | .ite _ a b=>HO a+HO b
 | .block i b=>match qf8 i b with
   | some _=>HO b -1
   | none=>HO b
 | .loop _ b=>HO b+1
 | _=>0
def uk:CC->CC
 | .keep _ _ c=>c
 | c=>c
def qjr(b:CC):CC:=match b with
 | .loop _ b=>match uk b with
   | .seq _ b=>match uk b with
     | .seq _ b=>match uk b with
       | .seq a _=>match uk a with
         | .block _ b=>b
         | _=> .skip
       | _=> .skip
     | _=> .skip
   | _=> .skip
 | _=> .skip
section
variable (f:Operand->Operand)(z:List Value->List Value)
def pC:COp->COp
 | .mv x=> .mv (f x)
 | .pick c x y=> .pick (f c) (f x) (f y)
 | .alloc el l=> .alloc el (z l)
 | .box el im x=> .box el im (f x)
 | .tbx el x=> .tbx el (f x)
 | .build l ps=> .build (z l) (ps.map λp=>(p.1,p.2.1,f p.2.2))
 | .bslice el n ps=> .bslice el n (ps.map f)
 | .nslice el n=> .nslice el n
 | .mslice el n ps=> .mslice el n (ps.map f)
 | .load a s x=> .load a s (f x)
 | .store r s x y=> .store r s (f x) (f y)
 | .nilck x=> .nilck (f x)
 | .arith o x y=> .arith o (f x) (f y)
 | .cmp o x y=> .cmp o (f x) (f y)
 | .eql n a ks x y=> .eql n a ks (f x) (f y)
 | .scat x y=> .scat (f x) (f y)
 | .not x=> .not (f x)
 | .neg x=> .neg (f x)
 | .conv k x=> .conv k (f x)
 | .clo g l=> .clo g (l.map f)
 | .mkslice el n b a l x y=> .mkslice el n b a (z l) (f x) (f y)
 | .slice n x l h=> .slice n (f x) (l.map f) (h.map f)
 | .sslice x l h=> .sslice (f x) (l.map f) (h.map f)
 | .faddr o x=> .faddr o (f x)
 | .fld a s o x=> .fld a s o (f x)
 | .iaddr n x i=> .iaddr n (f x) (f i)
 | .sidx x i=> .sidx (f x) (f i)
 | .ext x i=> .ext (f x) i
 | .len x=> .len (f x)
 | .slen x=> .slen (f x)
 | .mm m l=> .mm m (l.map f)
 | .append r el n b x y=> .append r el n b (f x) (f y)
 | .appmk el n b a l x y=> .appmk el n b a (z l) (f x) (f y)
 | .clear n a l x=> .clear n a (z l) (f x)
 | .copy n x y=> .copy n (f x) (f y)
 | .cap x=> .cap (f x)
 | .srange x=> .srange (f x)
 | .snext x=> .snext (f x)
 | .sbytes x=> .sbytes (f x)
 | .srunes x=> .srunes (f x)
 | .bstr x=> .bstr (f x)
 | .rstr x=> .rstr (f x)
 | .mkif t x=> .mkif t (f x)
 | .m (.look ok a ka ks l) xs=> .m (.look ok a ka ks (z l)) (xs.map f)
 | .m o xs=> .m o (xs.map f)
 | .bad=> .bad
 | .call g l=> .call g (l.map f)
 | .callv g l=> .callv (f g) (l.map f)
 | .callb r g l=> .callb r g (l.map f)
def pL(fz:List (Nat×Nat)):List CI->List CI
 | []=>[]
 | .op (some d) g c::l=>match fz.lookup d with
   | some n=> .op (some d) g (pC f z c):: .frz d n::pL fz l
   | none=> .op (some d) g (pC f z c)::pL fz l
 | .op none g c::l=> .op none g (pC f z c)::pL fz l
 | .frz t n::l=> .frz t n::pL fz l
end
structure Opt where
 bx:List Nat:=[]
 fz:List (Nat×Nat):=[]
 cu:List Nat:=[]
 ke:List Nat:=[]
 kz:List Nat:=[]
abbrev PF:=(rg:Nat->Nat->Nat->Nat->Nat->CC->Nat->CC)->(sm:Nat->CC->CC->CC)->(kk:{_:Value} ->Operand)->(zk:IntKind->Value)->(ze zb zs zp zm zf:Value)->CC
section
variable (kk:{_:Value} ->Operand)(zk:IntKind->Value)(ze zb zs zp zm zf:Value)
def pO:Operand->Operand
 | .const v=> @kk v
 | .tmp t=> .tmp t
 | .global g=> .global g
 | .func f=> .func f
def pZ:List Value->List Value
 | []=>[]
 | v::l=>(match v with
   | .int k _=>zk k
   | .string _=>ze
   | .bool _=>zb
   | .slice _ _ _=>zs
   | .pointer _=>zp
   | .map _=>zm
   | _=>zf)::pZ l
end
section
variable (rg:Nat->Nat->Nat->Nat->Nat->CC->Nat->CC)(sm:Nat->CC->CC->CC)(f:Operand->Operand)(z:List Value->List Value)(op:Opt)(W h c r:Nat)
def qhl(l:List Nat):List Nat:=op.ke.filter (λx=>!l.contains x) ++l++op.kz
def an:CC->List (Nat×Nat)->Nat->Nat->Nat->Nat->CC
 | .skip,_,_,_,_,_=> .skip
 | .reg l,_,_,_,_,_=> .reg (pL f z op.fz l)
 | .regd p l,_,_,_,_,_=> .regd (pL f z op.fz p) (pL f z op.fz l)
 | .seq a b,e,o,m,k,s=>fc (lv r b e o) λp=>fc (match s with|0=>m+1|_=>m) λm1=>
   let a':=an a e p m1 k 0
   let b':=an b e o (m1+Vd a) (k+HO a) (s -1)
   let b2:=match a with
    | .skip=>b'
    | _=> .keep (bl p) (qhl op (bl (cl W c 5 (Pv (gt W h) (bl p))))) b'
   match s with
   | 0=>match op.cu.contains m with
     | true=>sm m a' b2
     | false=> .seq a' b2
   | _=> .seq a' b2
 | .ite q a b,e,o,m,k,_=> .ite (f q) (an a e o m k 0) (an b e o (m+Vd a) (k+HO a) 0)
 | .block i b,e,o,m,k,_=>match qf8 i b with
   | some (ii,n,c,id2,i2)=>rg i ii n c id2 (qjr (an b ((i,o)::e) o m k 3)) i2
   | none=> .block i (an b ((i,o)::e) o m k 0)
 | .loop _ b,e,_,m,k,s=>fc (qf6 50 (lv r b e) 0) λo=>match s with
   | 0=> .loop k (an b e o m (k+1) 0)
   | _=> .loop 0 (an b e o m k s)
 | .exit i,_,_,_,_,_=> .exit i
 | .ret,_,_,_,_,_=> .ret
 | .cut _ c,e,o,m,k,s=>an c e o m k s
 | .keep _ _ c,e,o,m,k,s=>an c e o m k s
end
def VJ(W:Nat):List Nat->Nat
 | []=>0
 | t::l=>ad W (VJ W l) t (bt t)
def WS:List ResultVar->Nat
 | []=>0
 | .tmp t::l=>Nat.lor (bt t) (WS l)
 | .cell t _::l=>Nat.lor (bt t) (WS l)
def qie(P:Program)(neg:Bool)(t:TypeId)(x y:Operand):COp:=match P.underlying t with
 | some (.struct fs)=> .eql neg true (fs.toList.map λf=>(iv P f.type).getD .int) x y
 | _=> .eql neg false [(iv P t).getD .int] x y
def qgY(P:Program)(im:List Nat)(ops:Array Oper)(o:Oper):CI:= .op o.dst ((yC ops o).getD none) (match o.op with
 | .binOp .eql t x y _=>qie P false t x y
 | .binOp .neq t x y _=>qie P true t x y
 | _=>(bP P im o).getD .bad)
def cC(P:Program)(im:List Nat):Code->CC
 | .region _ ops false=> .reg (ops.toList.map (qgY P im ops))
 | .region _ ops true=> .regd (M8 ops (ops.toList.map (qgY P im ops)) (br ops)) ((ops.toList.map (qgY P im ops)).drop (br ops))
 | .seq a b=> .seq (cC P im a) (cC P im b)
 | .cond c a b=> .ite c (cC P im a) (cC P im b)
 | .block id b=> .block id (cC P im b)
 | .loop b=> .loop 0 (cC P im b)
 | .exit id=> .exit id
 | .ret=> .ret
 | _=> .skip
def gn(P:Program)(fn:Func)(im:List Nat)(op:Opt):PF:=λrg sm kk zk ze zb zs zp zm zf=>match fn.body with
 | none=> .skip
 | some code=>fc (VJ fn.ntmps op.bx) λh0=>fx fn.ntmps (cC { P with cutTypes:= #[] } im code) 6 h0 0 λh c=>fc (WS fn.results.toList) λr=>
   an rg sm (pO @kk) (pZ zk ze zb zs zp zm zf) op fn.ntmps h c r (cC { P with cutTypes:= #[] } im code) [] r 0 1 0
def rw_(P:Program)(fn:Func)(im:List Nat):CC:=match fn.body with
 | none=> .skip
 | some code=>cC { P with cutTypes:= #[] } im code
def ap(c:PF):CC:=c kZ LD (λ{v} => .const v) (λk=> .int k 0) (.string ⟨#[]⟩) (.bool false) (.slice none 0 0) (.pointer none) (.map none) .nilFunc
end G
open Go.Proofs
abbrev oA(d s:Nat):CI:= .op (some d) none (.mv (.tmp s))
abbrev oB(d:Nat)(c:COp):CI:= .op (some d) none c
abbrev oC(d w s:Nat):CI:= .op (some d) none (.load false w (.tmp s))
abbrev oD(d w s:Nat):CI:= .op (some d) none (.load true w (.tmp s))
abbrev oE(d n s:Nat):CI:= .op (some d) none (.faddr n (.tmp s))
abbrev oF(w a b:Nat):CI:= .op none none (.store none w (.tmp a) (.tmp b))
abbrev oG(d s:Nat):CI:= .op (some d) none (.nilck (.tmp s))
abbrev oH(d g:Nat)(c:COp):CI:= .op (some d) (some (g,true)) c
abbrev oI(d g:Nat)(c:COp):CI:= .op (some d) (some (g,false)) c
abbrev oT(n:Nat):Operand:= .tmp n
abbrev oK(v:Value):Operand:= .const v
abbrev oN(n:Int):Operand:= .const (.int .i64 n)
abbrev oS(b:ByteArray):Operand:= .const (.string b)
abbrev oi:Value:= .int .i64 0
abbrev oe:Value:= .string ⟨#[]⟩
abbrev ob:Value:= .bool false
abbrev on:Value:= .slice none 0 0
abbrev oZ(d f:Nat)(l:List Operand):CI:= .op (some d) none (.call f l)
abbrev oX(l:List CI)(a b:List Nat)(x:CC):CC:= .seq (.reg l) (.keep a b x)
abbrev jK:Nat:=3
abbrev HC:Nat:=5
abbrev mf:Nat:=6
abbrev pI:Nat:=7
abbrev nP:Nat:=8
abbrev pK:Nat:=9
abbrev jP:Nat:=10
abbrev tN:Nat:=11
abbrev bv:Nat:=12
abbrev pJ:Nat:=13
abbrev iT:Nat:=14
abbrev wG:Nat:=16
abbrev jJ:Nat:=23
abbrev cL:Nat:=24
abbrev rD:Nat:=25
abbrev gH:Nat:=26
abbrev cw:Nat:=27
abbrev bc:Nat:=28
abbrev cp:Nat:=29
abbrev nI:Nat:=30
abbrev pb:Nat:=31
abbrev bI:Nat:=32
abbrev eG:Nat:=33
abbrev bB:Nat:=34
abbrev jN:Nat:=35
abbrev nQ:Nat:=36
abbrev ga:Nat:=37
abbrev cn:Nat:=38
abbrev tM:Nat:=39
abbrev ei:Nat:=42
abbrev nO:Nat:=44
abbrev Du:Nat:=45
abbrev HB:Nat:=46
abbrev rF:Nat:=47
abbrev tU:Nat:=48
abbrev jH:Nat:=49
abbrev nM:Nat:=50
abbrev nN:Nat:=51
abbrev ph:Nat:=52
abbrev tR:Nat:=53
abbrev gG:Nat:=54
abbrev nL:Nat:=55
abbrev nJ:Nat:=56
abbrev dn:Nat:=57
abbrev aB:Nat:=58
abbrev pN:Nat:=59
abbrev jO:Nat:=60
abbrev gb:Nat:=61
abbrev pM:Nat:=62
abbrev bO:Nat:=63
abbrev dD:Nat:=64
abbrev iS:Nat:=65
abbrev aV:Nat:=66
abbrev bJ:Nat:=67
abbrev lE:Nat:=68
abbrev fu:Nat:=69
abbrev lj:Nat:=70
abbrev ll:Nat:=71
abbrev jL:Nat:=72
abbrev jM:Nat:=73
abbrev pP:Nat:=74
abbrev nG:Nat:=75
abbrev bH:Nat:=76
abbrev aW:Nat:=77
abbrev lF:Nat:=78
abbrev yG:Nat:=80
abbrev dW:Nat:=81
abbrev nK:Nat:=82
abbrev li:Nat:=83
abbrev jG:Nat:=84
abbrev pF:Nat:=85
abbrev mg:Nat:=86
abbrev iR:Nat:=87
abbrev dg:Nat:=88
abbrev bj:Nat:=89
abbrev dh:Nat:=90
abbrev bu:Nat:=91
abbrev fa:Nat:=92
abbrev da:Nat:=93
abbrev wF:Nat:=94
abbrev lG:Nat:=95
abbrev By:Nat:=96
abbrev Kg:Nat:=97
abbrev iQ:Nat:=98
abbrev jQ:Nat:=100
abbrev wL:Nat:=101
abbrev pH:Nat:=102
abbrev kL:Nat:=103
abbrev rA:Nat:=104
abbrev tO:Nat:=105
abbrev pG:Nat:=106
abbrev tS:Nat:=107
abbrev tP:Nat:=108
abbrev tW:Nat:=109
abbrev gE:Nat:=110
abbrev gY:Nat:=112
abbrev lg:Nat:=113
abbrev cb:Nat:=114
abbrev ct:Nat:=115
abbrev dJ:Nat:=116
abbrev ip:Nat:=117
abbrev pd:Nat:=118
abbrev ft:Nat:=119
abbrev aK:Nat:=120
abbrev bb:Nat:=121
abbrev lJ:Nat:=122
abbrev wH:Nat:=123
abbrev vg:Nat:=124
abbrev Ds:Nat:=125
abbrev Kf:Nat:=126
abbrev dP:Nat:=127
abbrev iH:Nat:=128
abbrev tQ:Nat:=132
abbrev pg:Nat:=133
abbrev mW:Nat:=134
abbrev wM:Nat:=135
abbrev rC:Nat:=136
abbrev rB:Nat:=137
abbrev fI:Nat:=138
abbrev aS:Nat:=139
abbrev ld:Nat:=140
abbrev fb:Nat:=141
abbrev fZ:Nat:=142
abbrev tV:Nat:=143
abbrev iu:Nat:=144
abbrev kK:Nat:=145
abbrev kM:Nat:=146
abbrev lH:Nat:=147
abbrev rE:Nat:=148
abbrev lI:Nat:=149
abbrev vj:Nat:=150
abbrev yI:Nat:=151
abbrev yJ:Nat:=152
abbrev wI:Nat:=153
abbrev Ke:Nat:=154
abbrev Bv:Nat:=155
abbrev Mi:Nat:=156
abbrev Al:Nat:=157
abbrev tT:Nat:=163
abbrev fG:Nat:=164
abbrev ck:Nat:=165
abbrev jF:Nat:=166
abbrev cg:Nat:=167
abbrev dc:Nat:=168
abbrev vh:Nat:=169
abbrev Hz:Nat:=170
abbrev EB:Nat:=171
abbrev Dr:Nat:=172
abbrev Am:Nat:=173
abbrev Mh:Nat:=174
abbrev Mg:Nat:=175
abbrev RT:Nat:=176
abbrev yL:Nat:=177
abbrev ir:Nat:=180
abbrev kJ:Nat:=183
abbrev cA:Nat:=184
abbrev fJ:Nat:=185
abbrev yK:Nat:=186
abbrev vi:Nat:=187
abbrev yH:Nat:=188
abbrev Dt:Nat:=189
abbrev tL:Nat:=191
abbrev gF:Nat:=192
abbrev eZ:Nat:=193
abbrev cK:Nat:=194
abbrev eq:Nat:=196
abbrev db:Nat:=197
abbrev wK:Nat:=198
abbrev rz:Nat:=199
abbrev wJ:Nat:=200
abbrev fH:Nat:=201
abbrev nH:Nat:=202
abbrev iq:Nat:=205
abbrev Bw:Nat:=207
abbrev HA:Nat:=208
abbrev RU:Nat:=209
abbrev cZ:Nat:=210
abbrev cd:Nat:=211
abbrev iU:Nat:=212
abbrev cT:Nat:=215
abbrev me:Nat:=216
abbrev kN:Nat:=217
abbrev bT:Nat:=218
abbrev jI:Nat:=227
abbrev hU:Nat:=3
abbrev lp:Nat:=5
abbrev aJ:Nat:=9
abbrev Ck:Nat:=21
abbrev oQ:Nat:=30
abbrev EV:Nat:=32
abbrev ep:Nat:=36
abbrev ux:Nat:=71
abbrev je:Nat:=76
abbrev oP:Nat:=85
abbrev xL:Nat:=99
abbrev df:Nat:=104
abbrev tg:Nat:=107
abbrev ca:Nat:=145
abbrev dM:Nat:=167
abbrev qi:Nat:=192
def mixed:Tryz.prog.follows .mixedOrders=true:=by kernel_rfl
abbrev gq(f:Func)(im:List Nat)(op:G.Opt)(c:CC)(_:G.ap (G.gn Tryz.prog f im op)=c:=by conv=>lhs; (conv=>arg 1;reduce);dsimp only[G.ap]):CC:=c
def fo {f : Nat} {im : List Nat} {cc : CC} {rs : List ai} {N : Nat} (h : ((Tryz.prog.funcs[f]?).bind fun g => if g.name == "runtime.NumGoroutine" then none else g.body.bind fun c => (aw Tryz.prog im g.ntmps c).bind fun cc => (g.results.toList.mapM (ak Tryz.prog)).bind fun rs => some (g.ntmps, cc, rs)) = some (N, aY cc, rs) := by kernel_rfl) : aq Tryz.prog f im cc rs N := Wc mixed h
def DI:CC:=gq Tryz.f52 [] {} _
def CL:List ai:=[.tmp 4]
def Q0:aq Tryz.prog ph [] DI CL 16:=fo
def rU:CC:=gq Tryz.f147 [] {} _
def qW:List ai:=[.tmp 2]
def G3:aq Tryz.prog lH [] rU qW 21:=fo
def ue:CC:=gq Tryz.f148 [] {} _
def tq:List ai:=[.tmp 2]
def JK:aq Tryz.prog rE [] ue tq 17:=fo
def kQ:CC:=gq Tryz.f120 [] {} _
def kD:List ai:=[.tmp 2]
def Aa:aq Tryz.prog aK [] kQ kD 29:=fo
def jX:CC:=gq Tryz.f121 [] {} _
def jp:List ai:=[.tmp 2]
def yk:aq Tryz.prog bb [] jX jp 25:=fo
def rW:CC:=gq Tryz.f122 [] { cu:=[2,7,9] } _
def qY:List ai:=[.tmp 2]
def G5:aq Tryz.prog lJ [] rW qY 81:=fo
def rV:CC:=gq Tryz.f149 [] {} _
def qX:List ai:=[.tmp 2]
def G4:aq Tryz.prog lI [] rV qX 16:=fo
def rT:CC:=gq Tryz.f163 [] {} _
def qV:List ai:=[.tmp 2, .tmp 3]
def G2:aq Tryz.prog tT [] rT qV 69:=fo
def uc:CC:=gq Tryz.f101 [] {} _
def tm:List ai:=[.tmp 2]
def JI:aq Tryz.prog wL [] uc tm 4:=fo
def nX:CC:=gq Tryz.f102 [] {} _
def nq:List ai:=[.tmp 4]
def CY:aq Tryz.prog pH [] nX nq 13:=fo
def fN:CC:=gq Tryz.f81 [2,3] {} _
def fD:List ai:=[.tmp 4]
def sC:aq Tryz.prog dW [2,3] fN fD 122:=fo
def iW:CC:=gq Tryz.f49 [] { cu:=[6] } _
def iK:List ai:=[.tmp 2]
def wh:aq Tryz.prog jH [] iW iK 47:=fo
def rQ:CC:=gq Tryz.f132 [2] {} _
def qS:List ai:=[.tmp 4]
def GZ:aq Tryz.prog tQ [2] rQ qS 17:=fo
def rO:CC:=gq Tryz.f133 [] {} _
def qQ:List ai:=[.tmp 2]
def GX:aq Tryz.prog pg [] rO qQ 42:=fo
def pQ:CC:=gq Tryz.f134 [3] {} _
def pr:List ai:=[.tmp 6]
def Er:aq Tryz.prog mW [3] pQ pr 32:=fo
def ud:CC:=gq Tryz.f135 [] {} _
def tn:List ai:=[.tmp 4]
def JJ:aq Tryz.prog wM [] ud tn 24:=fo
def pT:CC:=gq Tryz.f136 [2] {} _
def px:List ai:=[.tmp 4]
def Eu:aq Tryz.prog rC [2] pT px 27:=fo
def pS:CC:=gq Tryz.f137 [] {} _
def pw:List ai:=[.tmp 4]
def Et:aq Tryz.prog rB [] pS pw 27:=fo
def jW:CC:=gq Tryz.f103 [] {} _
def jo:List ai:=[.tmp 2, .tmp 3]
def yj:aq Tryz.prog kL [] jW jo 42:=fo
def pR:CC:=gq Tryz.f104 [1] {} _
def pu:List ai:=[.tmp 2, .tmp 3]
def Es:aq Tryz.prog rA [1] pR pu 48:=fo
def rN:CC:=gq Tryz.f105 [1] {} _
def qP:List ai:=[.tmp 2, .tmp 3]
def GW:aq Tryz.prog tO [1] rN qP 96:=fo
def nW:CC:=gq Tryz.f106 [1] {} _
def np:List ai:=[.tmp 2, .tmp 3]
def CX:aq Tryz.prog pG [1] nW np 143:=fo
def rS:CC:=gq Tryz.f107 [3] { cu:=[14,17,20,26] } _
def qU:List ai:=[.tmp 4, .tmp 5]
def G1:aq Tryz.prog tS [3] rS qU 128:=fo
def rP:CC:=gq Tryz.f108 [1] { cu:=[2,5,11,14] } _
def qR:List ai:=[.tmp 2, .tmp 3]
def GY:aq Tryz.prog tP [1] rP qR 86:=fo
def mq:CC:=gq Tryz.f82 [1] {} _
def lT:List ai:=[.tmp 2, .tmp 3, .tmp 4]
def Bg:aq Tryz.prog nK [1] mq lT 74:=fo
def rR:CC:=gq Tryz.f53 [1] {} _
def qT:List ai:=[.tmp 2]
def G0:aq Tryz.prog tR [1] rR qT 14:=fo
def fM:CC:=gq Tryz.f54 [] {} _
def fC:List ai:=[.tmp 4]
def sB:aq Tryz.prog gG [] fM fC 26:=fo
def mr:CC:=gq Tryz.f55 [2] {} _
def lU:List ai:=[.tmp 4]
def Bh:aq Tryz.prog nL [2] mr lU 21:=fo
def ml:CC:=gq Tryz.f56 [1] {} _
def lS:List ai:=[.tmp 2, .tmp 3]
def Bf:aq Tryz.prog nJ [1] ml lS 32:=fo
def pU:CC:=gq Tryz.f25 [2,3,2101010,1100097,2108010,1107104,2145010,1144141,2182010,1181178] { cu:=[7,13,19,26,33,48] } _
def py:List ai:=[.cell 4 true 7, .tmp 5]
def Ev:aq Tryz.prog rD [2,3,2101010,1100097,2108010,1107104,2145010,1144141,2182010,1181178] pU py 273:=fo
def qu:CC:=gq Tryz.f48 [] {} _
def qj:List ai:=[.tmp 2]
def Ff:aq Tryz.prog tU [] qu qj 8:=fo
def As:CC:=gq Tryz.f45 [] {} _
def zV:List ai:=[.tmp 2]
def OF:aq Tryz.prog Du [] As zV 7:=fo
def DG:CC:=gq Tryz.f46 [] {} _
def CJ:List ai:=[.tmp 2]
def QY:aq Tryz.prog HB [] DG CJ 7:=fo
def pV:CC:=gq Tryz.f47 [] {} _
def pz:List ai:=[.tmp 2]
def Ew:aq Tryz.prog rF [] pV pz 7:=fo
def my:CC:=gq Tryz.f44 [] {} _
def lY:List ai:=[.tmp 0]
def Bm:aq Tryz.prog nO [] my lY 5:=fo
def nY:CC:=gq Tryz.f24 [] {} _
def tr:List ai:=[.tmp 4]
def CZ:aq Tryz.prog cL [] nY tr 35:=fo
def DH:CC:=gq Tryz.f5 [999] {} _
def CK:List ai:=[.tmp 2]
def QZ:aq Tryz.prog HC [999] DH CK 11:=fo
def iY:CC:=gq Tryz.f23 [100026,2067008] { cu:=[3,5,12,19,22,28] } _
def iM:List ai:=[.cell 6 true 7]
def wj:aq Tryz.prog jJ [100026,2067008] iY iM 177:=fo
def ms:CC:=gq Tryz.f50 [1061061,1096061,2063001,2098001] { bx:=[1],cu:=[12] } _
def lV:List ai:=[]
def Bj:aq Tryz.prog nM [1061061,1096061,2063001,2098001] ms lV 100:=fo
def mw:CC:=gq Tryz.f51 [1038027,1034027,1031027,2076042,2075040] { bx:=[1],cu:=[10,14] } _
def lX:List ai:=[]
def Bl:aq Tryz.prog nN [1038027,1034027,1031027,2076042,2075040] mw lX 102:=fo
def kS:CC:=gq Tryz.f6 [] {} _
def kF:List ai:=[.cell 4 true 7]
def Ac:aq Tryz.prog mf [] kS kF 36:=fo
open Cod (enc dec)
variable {S:Nat->Spc}
def Ag(x n:Int):Int:=if n < 1 then 0 else if x.tmod n < 0 then x.tmod n+n else x.tmod n
abbrev s_m_Mod:Spc:=aZ (a2 Int Int) (λx=>x.2<=1000000000) enc λx y=>y=Ag x.1 x.2
def Tq:ax DI CL S (a2 Int Int) (λx=>x.2<=1000000000) enc λx y=>y=Ag x.1 x.2:=by
 rintro⟨a,b⟩ hl;simp at hl;simp[DI,CL,Ag];refine⟨λh1 h2=>by omega,λh1=>⟨by omega,λh2=>⟨?_,?_⟩,λh2=>?_⟩⟩
 ·have:=Int.lt_tmod_of_pos a (b:=b) (by omega);simp[InR];omega
 ·rw[if_neg (by omega),if_pos h2]
 ·rw[if_neg (by omega),if_neg (by omega)]
end Go.Gv
