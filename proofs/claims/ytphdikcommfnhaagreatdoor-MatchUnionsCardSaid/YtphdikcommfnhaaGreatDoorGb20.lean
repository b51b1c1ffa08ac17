/- A part of the framework and of the walks: L1 Cd G Cc W1. -/
import Derived.Test.YtphdikcommfnhaaGreatDoorProg
import Derived.Test.YtphdikcommfnhaaGreatDoorGb19
import Derived.Test.YtphdikcommfnhaaGreatDoorGb18
set_option linter.unusedSimpArgs false
set_option linter.unusedVariables false
set_option maxRecDepth 100000
set_option maxHeartbeats 0

namespace Go.Gv
theorem cO{α:Type}{l:List α}{k:Nat}{a:α}(h:l[k]? =some a):l.take (k+1)=l.take k++ [a]:=by
 rw[quB,h];rfl
theorem nq{α:Type}{l:List α}{k:Nat}{a:α}(h:l[k]? =some a):l.drop k=a::l.drop (k+1):=by
 obtain⟨hk,rfl⟩:=qsT.1 h
 exact qtr hk
theorem dY{α:Type}{l:List α}{k:Nat}{a:α}(h:l[k]? =some a):a∈l:=qsW h
theorem qdO{α:Type}{l:List α}{k:Nat}{a:α}(h:l[k]? =some a):k < l.length:=(qsT.1 h).1
theorem dO{α:Type}{l:List α}{k:Nat}(h:k < l.length):∃a,l[k]? =some a:=⟨l[k],qsU h⟩
def qiL(a b:DF):Prop:=a.b < b.b\/a.b=b.b/\a.e < b.e
instance (a b:DF):Decidable (qiL a b):=by unfold qiL;infer_instance
theorem qce(a:DF):¬qiL a a:=by unfold qiL;omega
def SS(l:List DF):Prop:=l.Pairwise qiL
theorem SS.nil:SS []:=List.Pairwise.nil
def IsNorm(l r:List DF):Prop:=SS r/\∀x,x∈r↔x∈l
theorem IsNorm.nil:IsNorm [] []:=⟨SS.nil,fun _=>qtT⟩
theorem IsNorm.congr{l l' r:List DF}(h:IsNorm l r)(hl:∀x,x∈l↔x∈l'):IsNorm l' r:=⟨h.1,fun x=>(h.2 x).trans (hl x)⟩
theorem XJ:∀ {r l:List DF},SS r->(∀x∈r,x∈l)->r.length<=l.length
 | [],l,_,_=>qtl _
 | x::r,l,h,hl=>by
   have h':=quN.1 h
   have hx:=hl x (by simp)
   have:=XJ (l:=l.erase x) h'.2 fun y hy=>(List.mem_erase_of_ne (fun(e:y=x)=>qce x (by have:=h'.1 y hy;rwa [e]at this))).2 (hl y (by simp[hy]))
   rw[List.length_erase_of_mem hx]at this
   have:=List.length_pos_of_mem hx
   simp;omega
theorem IsNorm.len{l r:List DF}(h:IsNorm l r):r.length<=l.length:=XJ h.1 fun x hx=>(h.2 x).1 hx
theorem IsNorm.same{l l' r:List DF}(h:IsNorm l r)(hl:∀x,x∈l'↔x∈l):IsNorm l' r:=⟨h.1,fun x=>(h.2 x).trans (hl x).symm⟩
def gy{X:Type} :List X->(X->Bool)->Int
 | [],_=> -1
 | x::l,p=>if p x then 0 else if gy l p < 0 then -1 else gy l p+1
theorem mf{X:Type}{p:X->Bool} :∀ {l:List X},(∀y∈l,p y=false)->gy l p= -1
 | [],_=>rfl
 | x::l,h=>by
   have:=mf (l:=l) (fun y hy=>h y (by simp[hy]))
   simp[gy,h x (by simp),this]
theorem tH{X:Type}{p:X->Bool} :∀ {l:List X} {k:Nat} {x:X},l[k]? =some x->p x=true->(∀y∈l.take k,p y=false)->gy l p=k
 | [],k,x,hx,_,_=>by simp at hx
 | z::l,0,x,hx,hp,_=>by
   simp at hx
   subst hx
   simp[gy,hp]
 | z::l,k+1,x,hx,hp,hb=>by
   have hz:=hb z (by simp)
   have ih:=tH (l:=l) (k:=k) (by simpa using hx) hp (fun y hy=>hb y (by simp[hy]))
   simp[gy,hz,ih]
   omega
theorem BC{X:Type}(p:X->Bool)(l:List X):(gy l p= -1/\∀y∈l,p y=false)\/ ∃k x,gy l p=(k:Nat)/\l[k]? =some x/\p x=true/\∀y∈l.take k,p y=false:=by
 induction l with
 | nil=>exact .inl ⟨rfl,by simp⟩
 | cons z l ih=>
   by_cases hz:p z=true
   ·exact .inr ⟨0,z,by simp[gy,hz],by simp,hz,by simp⟩
   ·have hz:p z=false:=by simpa using hz
    rcases ih with⟨h1,h2⟩|⟨k,x,h1,h2,h3,h4⟩
    ·refine .inl ⟨by simp[gy,hz,h1],fun y hy=>?_⟩
     rcases qsY.1 hy with rfl|hy
     ·exact hz
     ·exact h2 y hy
    ·refine .inr ⟨k+1,x,?_,by simpa using h2,h3,fun y hy=>?_⟩
     ·simp[gy,hz,h1];omega
     ·rw[qvp]at hy
      rcases qsY.1 hy with rfl|hy
      ·exact hz
      ·exact h4 y hy
theorem tG{X:Type}(p:X->Bool)(l:List X):decide (0<=gy l p)=l.any p:=by
 rcases BC p l with⟨h1,h2⟩|⟨k,x,h1,h2,h3,h4⟩
 ·have:l.any p=false:=by simpa using h2
  rw[h1,this];rfl
 ·have:l.any p=true:=qt3.2 ⟨x,dY h2,h3⟩
  rw[h1,this];simp
theorem SS.filter{l:List DF}(h:SS l)(p:DF->Bool):SS (l.filter p):=List.Pairwise.filter p h
theorem IsNorm.filter{l r:List DF}(h:IsNorm l r)(p:DF->Bool):IsNorm (l.filter p) (r.filter p):=⟨h.1.filter p,fun x=>by simp[h.2 x]⟩
theorem Wz(s:ByteArray)(p:Nat)(h:p < s.size):1<=(Utf8.decode s p).2/\p+ (Utf8.decode s p).2<=s.size:=by
 unfold Utf8.decode
 simp only[qs1,decide_eq_true_eq]
 repeat' split
 all_goals (try simp only[])
 all_goals omega
end Go.Gv

namespace Go.Gv
open Go.Proofs
abbrev oA(d s:Nat):CI:= .op (some d) none (.mv (.tmp s))
abbrev oB(d:Nat)(c:COp):CI:= .op (some d) none c
abbrev oC(d w s:Nat):CI:= .op (some d) none (.load false w (.tmp s))
abbrev oD(d w s:Nat):CI:= .op (some d) none (.load true w (.tmp s))
abbrev oE(d n s:Nat):CI:= .op (some d) none (.faddr n (.tmp s))
abbrev oF(w a b:Nat):CI:= .op none none (.store none w (.tmp a) (.tmp b))
abbrev oG(d s:Nat):CI:= .op (some d) none (.nilck (.tmp s))
abbrev oH(d g:Nat)(c:COp):CI:= .op (some d) (some (g,true)) c
abbrev oI(d g:Nat)(c:COp):CI:= .op (some d) (some (g,false)) c
abbrev oT(n:Nat):Operand:= .tmp n
abbrev oK(v:Value):Operand:= .const v
abbrev oN(n:Int):Operand:= .const (.int .i64 n)
abbrev oS(b:ByteArray):Operand:= .const (.string b)
abbrev oi:Value:= .int .i64 0
abbrev oe:Value:= .string ⟨#[]⟩
abbrev ob:Value:= .bool false
abbrev on:Value:= .slice none 0 0
abbrev oZ(d f:Nat)(l:List Operand):CI:= .op (some d) none (.call f l)
abbrev oX(l:List CI)(a b:List Nat)(x:CC):CC:= .seq (.reg l) (.keep a b x)
abbrev qS:Nat:=5
abbrev GF:Nat:=12
abbrev lc:Nat:=13
abbrev eY:Nat:=15
abbrev wK:Nat:=17
abbrev pF:Nat:=18
abbrev eb:Nat:=19
abbrev pr:Nat:=20
abbrev ew:Nat:=21
abbrev pD:Nat:=23
abbrev iR:Nat:=33
abbrev bc:Nat:=34
abbrev ri:Nat:=35
abbrev jT:Nat:=40
abbrev rp:Nat:=41
abbrev tM:Nat:=44
abbrev pE:Nat:=45
abbrev rr:Nat:=46
abbrev dV:Nat:=47
abbrev fk:Nat:=48
abbrev pB:Nat:=49
abbrev nk:Nat:=50
abbrev pz:Nat:=57
abbrev np:Nat:=59
abbrev Dp:Nat:=60
abbrev GE:Nat:=61
abbrev rq:Nat:=62
abbrev iO:Nat:=63
abbrev nl:Nat:=64
abbrev nn:Nat:=65
abbrev tQ:Nat:=66
abbrev fp:Nat:=67
abbrev nh:Nat:=68
abbrev nf:Nat:=69
abbrev ft:Nat:=71
abbrev br:Nat:=72
abbrev cF:Nat:=73
abbrev fw:Nat:=74
abbrev bi:Nat:=75
abbrev pA:Nat:=77
abbrev jS:Nat:=78
abbrev lg:Nat:=79
abbrev ni:Nat:=80
abbrev bu:Nat:=81
abbrev bJ:Nat:=82
abbrev fW:Nat:=83
abbrev aW:Nat:=86
abbrev wL:Nat:=95
abbrev jO:Nat:=96
abbrev bj:Nat:=97
abbrev iJ:Nat:=99
abbrev pv:Nat:=100
abbrev iK:Nat:=102
abbrev db:Nat:=103
abbrev aK:Nat:=105
abbrev li:Nat:=106
abbrev eI:Nat:=107
abbrev ib:Nat:=110
abbrev cG:Nat:=111
abbrev eo:Nat:=112
abbrev dJ:Nat:=113
abbrev cR:Nat:=114
abbrev ng:Nat:=115
abbrev cb:Nat:=117
abbrev gA:Nat:=118
abbrev aF:Nat:=119
abbrev ia:Nat:=120
abbrev cv:Nat:=121
abbrev dw:Nat:=122
abbrev bK:Nat:=123
abbrev iU:Nat:=124
abbrev de:Nat:=125
abbrev rk:Nat:=126
abbrev iP:Nat:=130
abbrev fu:Nat:=131
abbrev eH:Nat:=132
abbrev eu:Nat:=133
abbrev gB:Nat:=134
abbrev kZ:Nat:=136
abbrev mh:Nat:=138
abbrev wO:Nat:=139
abbrev nc:Nat:=148
abbrev pu:Nat:=149
abbrev tL:Nat:=150
abbrev jM:Nat:=151
abbrev dZ:Nat:=154
abbrev jR:Nat:=155
abbrev aC:Nat:=156
abbrev gU:Nat:=157
abbrev wM:Nat:=158
abbrev py:Nat:=159
abbrev jQ:Nat:=160
abbrev re:Nat:=161
abbrev tN:Nat:=162
abbrev pw:Nat:=163
abbrev tR:Nat:=164
abbrev tO:Nat:=165
abbrev aY:Nat:=166
abbrev cK:Nat:=167
abbrev aM:Nat:=168
abbrev eG:Nat:=169
abbrev iS:Nat:=170
abbrev iT:Nat:=171
abbrev pI:Nat:=172
abbrev aN:Nat:=173
abbrev lF:Nat:=174
abbrev bE:Nat:=175
abbrev jV:Nat:=180
abbrev aO:Nat:=181
abbrev aS:Nat:=182
abbrev ro:Nat:=183
abbrev nj:Nat:=184
abbrev jU:Nat:=185
abbrev iQ:Nat:=195
abbrev tU:Nat:=199
abbrev jN:Nat:=207
abbrev fO:Nat:=208
abbrev fq:Nat:=210
abbrev rj:Nat:=211
abbrev eF:Nat:=212
abbrev tP:Nat:=213
abbrev mg:Nat:=214
abbrev jP:Nat:=215
abbrev wN:Nat:=216
abbrev rh:Nat:=217
abbrev rf:Nat:=218
abbrev dT:Nat:=219
abbrev hZ:Nat:=220
abbrev cI:Nat:=221
abbrev bb:Nat:=222
abbrev fy:Nat:=224
abbrev dS:Nat:=227
abbrev bI:Nat:=228
abbrev cS:Nat:=238
abbrev iM:Nat:=246
abbrev iL:Nat:=248
abbrev iN:Nat:=252
abbrev tS:Nat:=253
abbrev sE:Nat:=254
abbrev fl:Nat:=255
abbrev eq:Nat:=257
abbrev au:Nat:=261
abbrev pH:Nat:=262
abbrev iV:Nat:=263
abbrev pG:Nat:=264
abbrev gD:Nat:=265
abbrev cX:Nat:=266
abbrev be:Nat:=267
abbrev tT:Nat:=269
abbrev eO:Nat:=275
abbrev aw:Nat:=276
abbrev gZ:Nat:=277
abbrev dv:Nat:=278
abbrev dR:Nat:=279
abbrev iI:Nat:=285
abbrev pq:Nat:=286
abbrev ld:Nat:=287
abbrev gC:Nat:=288
abbrev aV:Nat:=289
abbrev ei:Nat:=290
abbrev dQ:Nat:=291
abbrev eM:Nat:=298
abbrev bh:Nat:=299
abbrev iH:Nat:=300
abbrev hU:Nat:=303
abbrev ck:Nat:=304
abbrev cJ:Nat:=305
abbrev fL:Nat:=306
abbrev fN:Nat:=313
abbrev jK:Nat:=316
abbrev tV:Nat:=317
abbrev fP:Nat:=318
abbrev jL:Nat:=319
abbrev jW:Nat:=320
abbrev tK:Nat:=326
abbrev fm:Nat:=327
abbrev cW:Nat:=328
abbrev bO:Nat:=329
abbrev aU:Nat:=331
abbrev dU:Nat:=332
abbrev eN:Nat:=335
abbrev nb:Nat:=336
abbrev fM:Nat:=339
abbrev bC:Nat:=341
abbrev eP:Nat:=342
abbrev cQ:Nat:=350
abbrev cm:Nat:=351
abbrev gE:Nat:=352
abbrev cY:Nat:=355
abbrev bW:Nat:=356
abbrev cy:Nat:=358
abbrev jX:Nat:=359
abbrev bF:Nat:=360
abbrev ig:Nat:=3
abbrev pM:Nat:=5
abbrev az:Nat:=9
abbrev G5:Nat:=21
abbrev lW:Nat:=28
abbrev L0:Nat:=36
abbrev gh:Nat:=39
abbrev rN:Nat:=55
abbrev zP:Nat:=71
abbrev lV:Nat:=109
abbrev tv:Nat:=117
abbrev ij:Nat:=163
abbrev Cm:Nat:=166
abbrev dX:Nat:=196
abbrev yp:Nat:=199
abbrev eW:Nat:=241
abbrev cN:Nat:=250
abbrev vd:Nat:=314
theorem mixed:Tryz.prog.follows .mixedOrders=true:=by kernel_rfl
end Go.Gv

namespace Go.Gv
namespace G
variable {α:Type}
def fc(n:Nat)(f:Nat->α):α:=match n with
 | 0=>f 0
 | k+1=>f (k+1)
def bt(t:Nat):Nat:=Nat.shiftLeft 1 t
def oM:Operand->Nat
 | .tmp t=>bt t
 | _=>0
def qrj:List Operand->Nat
 | []=>0
 | o::l=>Nat.lor (oM o) (qrj l)
def qq7:CI->Nat
 | .op _ g c=>Nat.lor (qrj c.ops) (match g with|some (s,_)=>bt s|none=>0)
 | .frz _ _=>0
def rm(m t:Nat):Nat:=Nat.sub m (Nat.land m (bt t))
def qly:List CI->Nat->Nat
 | [],o=>o
 | x::l,o=>fc (qly l o) fun o=>match x with
   | .op (some d) g c=>Nat.lor (rm o d) (qq7 (.op (some d) g c))
   | .op none g c=>Nat.lor o (qq7 (.op none g c))
   | .frz _ _=>o
def lk:List (Nat×Nat)->Nat->Nat
 | [],_=>0
 | (i,m)::l,k=>match Nat.beq i k with
  | true=>m
  | false=>lk l k
def qoY:Nat->(Nat->Nat)->Nat->Nat
 | 0,_,c=>c
 | n+1,f,c=>fc (Nat.lor c (f c)) fun d=>match Nat.beq d c with
   | true=>d
   | false=>qoY n f d
def lv(r:Nat):CC->List (Nat×Nat)->Nat->Nat
 | .skip,_,o=>o
 | .reg l,_,o=>qly l o
 | .regd p t,_,o=>fc (qly t o) (qly p)
 | .seq a b,e,o=>fc (lv r b e o) (lv r a e)
 | .ite c a b,e,o=>Nat.lor (Nat.lor (lv r a e o) (lv r b e o)) (oM c)
 | .block i b,e,o=>lv r b ((i,o)::e) o
 | .loop _ b,e,_=>qoY 50 (lv r b e) 0
 | .exit i,e,_=>lk e i
 | .ret,_,_=>r
 | .cut _ c,e,o=>lv r c e o
 | .keep _ _ c,e,o=>lv r c e o
def gt(W x t:Nat):Nat:=Nat.land (Nat.shiftRight x (Nat.mul t W)) (Nat.sub (bt W) 1)
def ad(W x t m:Nat):Nat:=Nat.lor x (Nat.shiftLeft m (Nat.mul t W))
def hO(W h:Nat):Operand->Nat
 | .tmp t=>gt W h t
 | _=>0
def qhe(W h:Nat):List Operand->Nat
 | []=>0
 | o::l=>Nat.lor (hO W h o) (qhe W h l)
def Z8:Nat->Nat->Nat->List Nat
 | 0,_,_=>[]
 | n+1,i,m=>match Nat.beq m 0 with
   | true=>[]
   | false=>match Nat.beq (Nat.land m 1) 1 with
     | true=>i::Z8 n (i+1) (Nat.shiftRight m 1)
     | false=>Z8 n (i+1) (Nat.shiftRight m 1)
def bl(m:Nat):List Nat:=Z8 1000 0 m
def WU(f:Nat->Nat):List Nat->Nat
 | []=>0
 | i::l=>Nat.lor (f i) (WU f l)
def qgU(W:Nat)(f:Nat->Nat):List Nat->Nat->Nat
 | [],c=>c
 | i::l,c=>fc (ad W c i (f i)) (qgU W f l)
def qsi(W:Nat)(x:CI)(h c:Nat)(K:Nat->Nat->α):α:=match x with
 | .frz _ _=>K h c
 | .op d _ o=>
   let put (m:Nat):α:=match d with
    | some d=>fc (ad W h d m) fun h=>K h c
    | none=>K h c
   let own:Nat:=match d with
    | some d=>bt d
    | none=>0
   let cal (s:Nat):α:=fc s fun s=>fc (qgU W (fun i=>rm s i) (bl s) c) fun c=>match d with
    | some d=>fc (ad W h d s) fun h=>K h c
    | none=>K h c
   match o with
   | .alloc _ _=>put own
   | .nslice _ _=>put own
   | .mslice _ _ _=>put own
   | .mkslice _ _ _ _ _ _ _=>put own
   | .srange _=>put own
   | .appmk _ _ _ _ _ _ _=>put own
   | .m .mk _=>put own
   | .m .rng _=>put own
   | .m .len _=>K h c
   | .m (.upd _ _) (x::ys)=>fc (qhe W h ys) fun v=>fc (qgU W (fun _=>v) (bl (hO W h x)) c) fun c=>K h c
   | .m (.look _ _ _ _ _) (x::_)=>put (WU (gt W c) (bl (hO W h x)))
   | .m .entry (x::_)=>put (WU (gt W c) (bl (hO W h x)))
   | .load _ _ x=>put (WU (gt W c) (bl (hO W h x)))
   | .tbx _ x=>fc (qgU W (fun _=>hO W h x) (bl own) c) fun c=>match d with
     | some d=>fc (ad W h d own) fun h=>K h c
     | none=>K h c
   | .box _ false x=>fc (qgU W (fun _=>hO W h x) (bl own) c) fun c=>match d with
     | some d=>fc (ad W h d own) fun h=>K h c
     | none=>K h c
   | .store _ _ x y=>fc (hO W h y) fun v=>fc (qgU W (fun _=>v) (bl (hO W h x)) c) fun c=>K h c
   | .append _ _ _ _ x _=>put (Nat.lor own (hO W h x))
   | .call _ xs=>cal (qhe W h xs)
   | .callb _ _ xs=>cal (qhe W h xs)
   | .callv f xs=>put (Nat.lor (qhe W h xs) (hO W h f))
   | o=>put (qhe W h o.ops)
def qkF(W:Nat):List CI->Nat->Nat->(Nat->Nat->α)->α
 | [],h,c,K=>K h c
 | x::l,h,c,K=>qsi W x h c fun h c=>qkF W l h c K
def qeP(W:Nat):CC->Nat->Nat->(Nat->Nat->α)->α
 | .reg l,h,c,K=>qkF W l h c K
 | .regd p t,h,c,K=>qkF W p h c fun h c=>qkF W t h c K
 | .seq a b,h,c,K=>qeP W a h c fun h c=>qeP W b h c K
 | .ite _ a b,h,c,K=>qeP W a h c fun h c=>qeP W b h c K
 | .block _ b,h,c,K=>qeP W b h c K
 | .loop _ b,h,c,K=>qeP W b h c K
 | _,h,c,K=>K h c
def fx(W:Nat)(cc:CC):Nat->Nat->Nat->(Nat->Nat->α)->α
 | 0,h,c,K=>K h c
 | n+1,h,c,K=>qeP W cc h c fun h' c'=>match Nat.beq h h' with
   | false=>fx W cc n h' c' K
   | true=>match Nat.beq c c' with
     | false=>fx W cc n h' c' K
     | true=>K h c
def cl(W c:Nat):Nat->Nat->Nat
 | 0,s=>s
 | n+1,s=>fc (Nat.lor s (WU (gt W c) (bl s))) fun t=>match Nat.beq t s with
   | true=>s
   | false=>cl W c n t
def qiW:Value->Bool
 | .int .i64 k=>decide (k=1)
 | _=>false
def qsC:List CI->Option (Nat×Nat×Nat)
 | [.op (some c) none (.cmp .lss (.tmp i) (.tmp n))]=>some (c,i,n)
 | _=>none
def qsD:List CI->Option (Nat×Nat)
 | [.op (some i2) none (.arith .add (.tmp i) (.const v)), .op (some j) none (.mv (.tmp j2))]=>match qiW v && Nat.beq i j && Nat.beq i2 j2 with
   | true=>some (i2,i)
   | false=>none
 | _=>none
def qoZ(id:Nat):CC->Option (Nat×Nat×Nat×Nat×Nat)
 | .loop _ (.seq (.reg l) (.seq (.ite (.tmp c2) .skip (.exit id3)) (.seq (.block id2 _) (.reg l2))))=>match qsC l,qsD l2 with
   | some (c,i,n),some (i2,j)=>match Nat.beq id id3 && Nat.beq c c2 && Nat.beq i j with
     | true=>some (i,n,c,id2,i2)
     | false=>none
   | _,_=>none
 | _=>none
def qcY:CC->Nat
 | .seq a b=>qcY a+qcY b+1
 | .ite _ a b=>qcY a+qcY b
 | .block i b=>match qoZ i b with
   | some _=>qcY b -3
   | none=>qcY b
 | .loop _ b=>qcY b
 | _=>0
def Nt:CC->Nat
 | .seq a b=>Nt a+Nt b
 | .ite _ a b=>Nt a+Nt b
 | .block i b=>match qoZ i b with
   | some _=>Nt b -1
   | none=>Nt b
 | .loop _ b=>Nt b+1
 | _=>0
def uk:CC->CC
 | .keep _ _ c=>c
 | c=>c
def qsL(b:CC):CC:=match b with
 | .loop _ b=>match uk b with
   | .seq _ b=>match uk b with
     | .seq _ b=>match uk b with
       | .seq a _=>match uk a with
         | .block _ b=>b
         | _=> .skip
       | _=> .skip
     | _=> .skip
   | _=> .skip
 | _=> .skip
section
variable (f:Operand->Operand)(z:List Value->List Value)
def pC:COp->COp
 | .mv x=> .mv (f x)
 | .pick c x y=> .pick (f c) (f x) (f y)
 | .alloc el l=> .alloc el (z l)
 | .box el im x=> .box el im (f x)
 | .tbx el x=> .tbx el (f x)
 | .build l ps=> .build (z l) (ps.map fun p=>(p.1,p.2.1,f p.2.2))
 | .bslice el n ps=> .bslice el n (ps.map f)
 | .nslice el n=> .nslice el n
 | .mslice el n ps=> .mslice el n (ps.map f)
 | .load a s x=> .load a s (f x)
 | .store r s x y=> .store r s (f x) (f y)
 | .nilck x=> .nilck (f x)
 | .arith o x y=> .arith o (f x) (f y)
 | .cmp o x y=> .cmp o (f x) (f y)
 | .eql n a ks x y=> .eql n a ks (f x) (f y)
 | .scat x y=> .scat (f x) (f y)
 | .not x=> .not (f x)
 | .neg x=> .neg (f x)
 | .conv k x=> .conv k (f x)
 | .clo g l=> .clo g (l.map f)
 | .mkslice el n b a l x y=> .mkslice el n b a (z l) (f x) (f y)
 | .slice n x l h=> .slice n (f x) (l.map f) (h.map f)
 | .sslice x l h=> .sslice (f x) (l.map f) (h.map f)
 | .faddr o x=> .faddr o (f x)
 | .fld a s o x=> .fld a s o (f x)
 | .iaddr n x i=> .iaddr n (f x) (f i)
 | .sidx x i=> .sidx (f x) (f i)
 | .ext x i=> .ext (f x) i
 | .len x=> .len (f x)
 | .slen x=> .slen (f x)
 | .mm m l=> .mm m (l.map f)
 | .append r el n b x y=> .append r el n b (f x) (f y)
 | .appmk el n b a l x y=> .appmk el n b a (z l) (f x) (f y)
 | .clear n a l x=> .clear n a (z l) (f x)
 | .copy n x y=> .copy n (f x) (f y)
 | .cap x=> .cap (f x)
 | .srange x=> .srange (f x)
 | .snext x=> .snext (f x)
 | .sbytes x=> .sbytes (f x)
 | .bstr x=> .bstr (f x)
 | .rstr x=> .rstr (f x)
 | .mkif t x=> .mkif t (f x)
 | .m (.look ok a ka ks l) xs=> .m (.look ok a ka ks (z l)) (xs.map f)
 | .m o xs=> .m o (xs.map f)
 | .bad=> .bad
 | .call g l=> .call g (l.map f)
 | .callv g l=> .callv (f g) (l.map f)
 | .callb r g l=> .callb r g (l.map f)
def pL(fz:List (Nat×Nat)):List CI->List CI
 | []=>[]
 | .op (some d) g c::l=>match fz.lookup d with
   | some n=> .op (some d) g (pC f z c):: .frz d n::pL fz l
   | none=> .op (some d) g (pC f z c)::pL fz l
 | .op none g c::l=> .op none g (pC f z c)::pL fz l
 | .frz t n::l=> .frz t n::pL fz l
end
structure qr9 where
 bx:List Nat:=[]
 fz:List (Nat×Nat):=[]
 cu:List Nat:=[]
 ke:List Nat:=[]
 kz:List Nat:=[]
abbrev PF:=(rg:Nat->Nat->Nat->Nat->Nat->CC->Nat->CC)->(sm:Nat->CC->CC->CC)->(kk:{_:Value} ->Operand)->(zk:IntKind->Value)->(ze zb zs zp zm zf:Value)->CC
section
variable (kk:{_:Value} ->Operand)(zk:IntKind->Value)(ze zb zs zp zm zf:Value)
def pO:Operand->Operand
 | .const v=> @kk v
 | .tmp t=> .tmp t
 | .global g=> .global g
 | .func f=> .func f
def pZ:List Value->List Value
 | []=>[]
 | v::l=>(match v with
   | .int k _=>zk k
   | .string _=>ze
   | .bool _=>zb
   | .slice _ _ _=>zs
   | .pointer _=>zp
   | .map _=>zm
   | _=>zf)::pZ l
end
section
variable (rg:Nat->Nat->Nat->Nat->Nat->CC->Nat->CC)(sm:Nat->CC->CC->CC)(f:Operand->Operand)(z:List Value->List Value)(op:qr9)(W h c r:Nat)
def qqv(l:List Nat):List Nat:=op.ke.filter (fun x=>!l.contains x) ++l++op.kz
def an:CC->List (Nat×Nat)->Nat->Nat->Nat->Nat->CC
 | .skip,_,_,_,_,_=> .skip
 | .reg l,_,_,_,_,_=> .reg (pL f z op.fz l)
 | .regd p l,_,_,_,_,_=> .regd (pL f z op.fz p) (pL f z op.fz l)
 | .seq a b,e,o,m,k,s=>fc (lv r b e o) fun p=>fc (match s with|0=>m+1|_=>m) fun m1=>
   let a':=an a e p m1 k 0
   let b':=an b e o (m1+qcY a) (k+Nt a) (s -1)
   let b2:=match a with
    | .skip=>b'
    | _=> .keep (bl p) (qqv op (bl (cl W c 5 (WU (gt W h) (bl p))))) b'
   match s with
   | 0=>match op.cu.contains m with
     | true=>sm m a' b2
     | false=> .seq a' b2
   | _=> .seq a' b2
 | .ite q a b,e,o,m,k,_=> .ite (f q) (an a e o m k 0) (an b e o (m+qcY a) (k+Nt a) 0)
 | .block i b,e,o,m,k,_=>match qoZ i b with
   | some (ii,n,c,id2,i2)=>rg i ii n c id2 (qsL (an b ((i,o)::e) o m k 3)) i2
   | none=> .block i (an b ((i,o)::e) o m k 0)
 | .loop _ b,e,_,m,k,s=>fc (qoY 50 (lv r b e) 0) fun o=>match s with
   | 0=> .loop k (an b e o m (k+1) 0)
   | _=> .loop 0 (an b e o m k s)
 | .exit i,_,_,_,_,_=> .exit i
 | .ret,_,_,_,_,_=> .ret
 | .cut _ c,e,o,m,k,s=>an c e o m k s
 | .keep _ _ c,e,o,m,k,s=>an c e o m k s
end
def qdA(W:Nat):List Nat->Nat
 | []=>0
 | t::l=>ad W (qdA W l) t (bt t)
def qe2:List ResultVar->Nat
 | []=>0
 | .tmp t::l=>Nat.lor (bt t) (qe2 l)
 | .cell t _::l=>Nat.lor (bt t) (qe2 l)
def qrJ(P:Program)(neg:Bool)(t:TypeId)(x y:Operand):COp:=match P.underlying t with
 | some (.struct fs)=> .eql neg true (fs.toList.map fun f=>(kG P f.type).getD .int) x y
 | _=> .eql neg false [(kG P t).getD .int] x y
def qp6(P:Program)(im:List Nat)(ops:Array Oper)(o:Oper):CI:= .op o.dst ((Di ops o).getD none) (match o.op with
 | .binOp .eql t x y _=>qrJ P false t x y
 | .binOp .neq t x y _=>qrJ P true t x y
 | _=>(cA P im o).getD .bad)
def cC(P:Program)(im:List Nat):Code->CC
 | .region _ ops false=> .reg (ops.toList.map (qp6 P im ops))
 | .region _ ops true=> .regd (Tw ops (ops.toList.map (qp6 P im ops)) (ca ops)) ((ops.toList.map (qp6 P im ops)).drop (ca ops))
 | .seq a b=> .seq (cC P im a) (cC P im b)
 | .cond c a b=> .ite c (cC P im a) (cC P im b)
 | .block id b=> .block id (cC P im b)
 | .loop b=> .loop 0 (cC P im b)
 | .exit id=> .exit id
 | .ret=> .ret
 | _=> .skip
def gn(P:Program)(fn:Func)(im:List Nat)(op:qr9):PF:=fun rg sm kk zk ze zb zs zp zm zf=>match fn.body with
 | none=> .skip
 | some code=>fc (qdA fn.ntmps op.bx) fun h0=>fx fn.ntmps (cC { P with cutTypes:= #[] } im code) 6 h0 0 fun h c=>fc (qe2 fn.results.toList) fun r=>
   an rg sm (pO @kk) (pZ zk ze zb zs zp zm zf) op fn.ntmps h c r (cC { P with cutTypes:= #[] } im code) [] r 0 1 0
def ap(c:PF):CC:=c wm Vh (fun {v} => .const v) (fun k=> .int k 0) (.string ⟨#[]⟩) (.bool false) (.slice none 0 0) (.pointer none) (.map none) .nilFunc
end G
end Go.Gv

namespace Go.Gv
open Go.Proofs
def Jk:CC:=by refine(fun(_:G.ap (G.gn Tryz.prog Tryz.f23 [] {})=?c)=>?c) ?h;case h=>conv=>lhs; (conv=>arg 1;reduce);dsimp only[G.ap]
def HR:List aj:=[.tmp 4]
theorem Yo:aq Tryz.prog pD [] Jk HR 16:=ai mixed (by kernel_rfl)
def xc:CC:=by refine(fun(_:G.ap (G.gn Tryz.prog Tryz.f138 [] {})=?c)=>?c) ?h;case h=>conv=>lhs; (conv=>arg 1;reduce);dsimp only[G.ap]
def wi:List aj:=[.tmp 2]
theorem MS:aq Tryz.prog mh [] xc wi 21:=ai mixed (by kernel_rfl)
def zz:CC:=by refine(fun(_:G.ap (G.gn Tryz.prog Tryz.f139 [] {})=?c)=>?c) ?h;case h=>conv=>lhs; (conv=>arg 1;reduce);dsimp only[G.ap]
def yE:List aj:=[.tmp 2]
theorem OX:aq Tryz.prog wO [] zz yE 17:=ai mixed (by kernel_rfl)
def oO:CC:=by refine(fun(_:G.ap (G.gn Tryz.prog Tryz.f86 [] {})=?c)=>?c) ?h;case h=>conv=>lhs; (conv=>arg 1;reduce);dsimp only[G.ap]
def oa:List aj:=[.tmp 2]
theorem Em:aq Tryz.prog aW [] oO oa 29:=ai mixed (by kernel_rfl)
def nG:CC:=by refine(fun(_:G.ap (G.gn Tryz.prog Tryz.f238 [] {})=?c)=>?c) ?h;case h=>conv=>lhs; (conv=>arg 1;reduce);dsimp only[G.ap]
def mJ:List aj:=[.tmp 2]
theorem CU:aq Tryz.prog cS [] nG mJ 25:=ai mixed (by kernel_rfl)
def xg:CC:=by refine(fun(_:G.ap (G.gn Tryz.prog Tryz.f199 [] { cu:=[2,7,9] })=?c)=>?c) ?h;case h=>conv=>lhs; (conv=>arg 1;reduce);dsimp only[G.ap]
def wk:List aj:=[.tmp 2]
theorem MU:aq Tryz.prog tU [] xg wk 81:=ai mixed (by kernel_rfl)
def xf:CC:=by refine(fun(_:G.ap (G.gn Tryz.prog Tryz.f269 [] {})=?c)=>?c) ?h;case h=>conv=>lhs; (conv=>arg 1;reduce);dsimp only[G.ap]
def wj:List aj:=[.tmp 2]
theorem MT:aq Tryz.prog tT [] xf wj 16:=ai mixed (by kernel_rfl)
def xa:CC:=by refine(fun(_:G.ap (G.gn Tryz.prog Tryz.f253 [] {})=?c)=>?c) ?h;case h=>conv=>lhs; (conv=>arg 1;reduce);dsimp only[G.ap]
def wh:List aj:=[.tmp 2, .tmp 3]
theorem MR:aq Tryz.prog tS [] xa wh 69:=ai mixed (by kernel_rfl)
def zx:CC:=by refine(fun(_:G.ap (G.gn Tryz.prog Tryz.f158 [] {})=?c)=>?c) ?h;case h=>conv=>lhs; (conv=>arg 1;reduce);dsimp only[G.ap]
def yC:List aj:=[.tmp 2]
theorem OV:aq Tryz.prog wM [] zx yC 4:=ai mixed (by kernel_rfl)
def sR:CC:=by refine(fun(_:G.ap (G.gn Tryz.prog Tryz.f159 [] {})=?c)=>?c) ?h;case h=>conv=>lhs; (conv=>arg 1;reduce);dsimp only[G.ap]
def se:List aj:=[.tmp 4]
theorem Ic:aq Tryz.prog py [] sR se 13:=ai mixed (by kernel_rfl)
def iB:CC:=by refine(fun(_:G.ap (G.gn Tryz.prog Tryz.f114 [2,3] {})=?c)=>?c) ?h;case h=>conv=>lhs; (conv=>arg 1;reduce);dsimp only[G.ap]
def iu:List aj:=[.tmp 4]
theorem xR:aq Tryz.prog cR [2,3] iB iu 122:=ai mixed (by kernel_rfl)
def lL:CC:=by refine(fun(_:G.ap (G.gn Tryz.prog Tryz.f63 [] { cu:=[6] })=?c)=>?c) ?h;case h=>conv=>lhs; (conv=>arg 1;reduce);dsimp only[G.ap]
def lu:List aj:=[.tmp 2]
theorem Bb:aq Tryz.prog iO [] lL lu 47:=ai mixed (by kernel_rfl)
def wX:CC:=by refine(fun(_:G.ap (G.gn Tryz.prog Tryz.f213 [2] {})=?c)=>?c) ?h;case h=>conv=>lhs; (conv=>arg 1;reduce);dsimp only[G.ap]
def wb:List aj:=[.tmp 4]
theorem MO:aq Tryz.prog tP [2] wX wb 17:=ai mixed (by kernel_rfl)
def wV:CC:=by refine(fun(_:G.ap (G.gn Tryz.prog Tryz.f214 [] {})=?c)=>?c) ?h;case h=>conv=>lhs; (conv=>arg 1;reduce);dsimp only[G.ap]
def vZ:List aj:=[.tmp 2]
theorem MM:aq Tryz.prog mg [] wV vZ 42:=ai mixed (by kernel_rfl)
def uB:CC:=by refine(fun(_:G.ap (G.gn Tryz.prog Tryz.f215 [3] {})=?c)=>?c) ?h;case h=>conv=>lhs; (conv=>arg 1;reduce);dsimp only[G.ap]
def uf:List aj:=[.tmp 6]
theorem J6:aq Tryz.prog jP [3] uB uf 32:=ai mixed (by kernel_rfl)
def zy:CC:=by refine(fun(_:G.ap (G.gn Tryz.prog Tryz.f216 [] {})=?c)=>?c) ?h;case h=>conv=>lhs; (conv=>arg 1;reduce);dsimp only[G.ap]
def yD:List aj:=[.tmp 4]
theorem OW:aq Tryz.prog wN [] zy yD 24:=ai mixed (by kernel_rfl)
def uE:CC:=by refine(fun(_:G.ap (G.gn Tryz.prog Tryz.f217 [2] {})=?c)=>?c) ?h;case h=>conv=>lhs; (conv=>arg 1;reduce);dsimp only[G.ap]
def ui:List aj:=[.tmp 4]
theorem J9:aq Tryz.prog rh [2] uE ui 27:=ai mixed (by kernel_rfl)
def uD:CC:=by refine(fun(_:G.ap (G.gn Tryz.prog Tryz.f218 [] {})=?c)=>?c) ?h;case h=>conv=>lhs; (conv=>arg 1;reduce);dsimp only[G.ap]
def uh:List aj:=[.tmp 4]
theorem J8:aq Tryz.prog rf [] uD uh 27:=ai mixed (by kernel_rfl)
def nF:CC:=by refine(fun(_:G.ap (G.gn Tryz.prog Tryz.f160 [] {})=?c)=>?c) ?h;case h=>conv=>lhs; (conv=>arg 1;reduce);dsimp only[G.ap]
def mI:List aj:=[.tmp 2, .tmp 3]
theorem CT:aq Tryz.prog jQ [] nF mI 42:=ai mixed (by kernel_rfl)
def uC:CC:=by refine(fun(_:G.ap (G.gn Tryz.prog Tryz.f161 [1] {})=?c)=>?c) ?h;case h=>conv=>lhs; (conv=>arg 1;reduce);dsimp only[G.ap]
def ug:List aj:=[.tmp 2, .tmp 3]
theorem J7:aq Tryz.prog re [1] uC ug 48:=ai mixed (by kernel_rfl)
def wU:CC:=by refine(fun(_:G.ap (G.gn Tryz.prog Tryz.f162 [1] {})=?c)=>?c) ?h;case h=>conv=>lhs; (conv=>arg 1;reduce);dsimp only[G.ap]
def vY:List aj:=[.tmp 2, .tmp 3]
theorem ML:aq Tryz.prog tN [1] wU vY 96:=ai mixed (by kernel_rfl)
def sQ:CC:=by refine(fun(_:G.ap (G.gn Tryz.prog Tryz.f163 [1] {})=?c)=>?c) ?h;case h=>conv=>lhs; (conv=>arg 1;reduce);dsimp only[G.ap]
def sd:List aj:=[.tmp 2, .tmp 3]
theorem Ib:aq Tryz.prog pw [1] sQ sd 143:=ai mixed (by kernel_rfl)
def wZ:CC:=by refine(fun(_:G.ap (G.gn Tryz.prog Tryz.f164 [3] { cu:=[14,17,20,26] })=?c)=>?c) ?h;case h=>conv=>lhs; (conv=>arg 1;reduce);dsimp only[G.ap]
def wg:List aj:=[.tmp 4, .tmp 5]
theorem MQ:aq Tryz.prog tR [3] wZ wg 128:=ai mixed (by kernel_rfl)
def wW:CC:=by refine(fun(_:G.ap (G.gn Tryz.prog Tryz.f165 [1] { cu:=[2,5,11,14] })=?c)=>?c) ?h;case h=>conv=>lhs; (conv=>arg 1;reduce);dsimp only[G.ap]
def wa:List aj:=[.tmp 2, .tmp 3]
theorem MN:aq Tryz.prog tO [1] wW wa 86:=ai mixed (by kernel_rfl)
def qE:CC:=by refine(fun(_:G.ap (G.gn Tryz.prog Tryz.f115 [1] {})=?c)=>?c) ?h;case h=>conv=>lhs; (conv=>arg 1;reduce);dsimp only[G.ap]
def qk:List aj:=[.tmp 2, .tmp 3, .tmp 4]
theorem F2:aq Tryz.prog ng [1] qE qk 74:=ai mixed (by kernel_rfl)
def wY:CC:=by refine(fun(_:G.ap (G.gn Tryz.prog Tryz.f66 [1] {})=?c)=>?c) ?h;case h=>conv=>lhs; (conv=>arg 1;reduce);dsimp only[G.ap]
def we:List aj:=[.tmp 2]
theorem MP:aq Tryz.prog tQ [1] wY we 14:=ai mixed (by kernel_rfl)
def iA:CC:=by refine(fun(_:G.ap (G.gn Tryz.prog Tryz.f67 [] {})=?c)=>?c) ?h;case h=>conv=>lhs; (conv=>arg 1;reduce);dsimp only[G.ap]
def ir:List aj:=[.tmp 4]
theorem xQ:aq Tryz.prog fp [] iA ir 26:=ai mixed (by kernel_rfl)
def qF:CC:=by refine(fun(_:G.ap (G.gn Tryz.prog Tryz.f68 [2] {})=?c)=>?c) ?h;case h=>conv=>lhs; (conv=>arg 1;reduce);dsimp only[G.ap]
def ql:List aj:=[.tmp 4]
theorem F3:aq Tryz.prog nh [2] qF ql 21:=ai mixed (by kernel_rfl)
def qD:CC:=by refine(fun(_:G.ap (G.gn Tryz.prog Tryz.f69 [1] {})=?c)=>?c) ?h;case h=>conv=>lhs; (conv=>arg 1;reduce);dsimp only[G.ap]
def qj:List aj:=[.tmp 2, .tmp 3]
theorem F1:aq Tryz.prog nf [1] qD qj 32:=ai mixed (by kernel_rfl)
def uF:CC:=by refine(fun(_:G.ap (G.gn Tryz.prog Tryz.f35 [2,3,2101010,1100097,2108010,1107104,2145010,1144141,2182010,1181178] { cu:=[7,13,19,26,33,48] })=?c)=>?c) ?h;case h=>conv=>lhs; (conv=>arg 1;reduce);dsimp only[G.ap]
def uj:List aj:=[.cell 4 true 7, .tmp 5]
theorem Ka:aq Tryz.prog ri [2,3,2101010,1100097,2108010,1107104,2145010,1144141,2182010,1181178] uF uj 273:=ai mixed (by kernel_rfl)
def vz:CC:=by refine(fun(_:G.ap (G.gn Tryz.prog Tryz.f50 [] {})=?c)=>?c) ?h;case h=>conv=>lhs; (conv=>arg 1;reduce);dsimp only[G.ap]
def vm:List aj:=[.tmp 2]
theorem KY:aq Tryz.prog nk [] vz vm 8:=ai mixed (by kernel_rfl)
def EV:CC:=by refine(fun(_:G.ap (G.gn Tryz.prog Tryz.f60 [] {})=?c)=>?c) ?h;case h=>conv=>lhs; (conv=>arg 1;reduce);dsimp only[G.ap]
def Eh:List aj:=[.tmp 2]
theorem Vx:aq Tryz.prog Dp [] EV Eh 7:=ai mixed (by kernel_rfl)
def Ji:CC:=by refine(fun(_:G.ap (G.gn Tryz.prog Tryz.f61 [] {})=?c)=>?c) ?h;case h=>conv=>lhs; (conv=>arg 1;reduce);dsimp only[G.ap]
def HP:List aj:=[.tmp 2]
theorem Ym:aq Tryz.prog GE [] Ji HP 7:=ai mixed (by kernel_rfl)
def uL:CC:=by refine(fun(_:G.ap (G.gn Tryz.prog Tryz.f62 [] {})=?c)=>?c) ?h;case h=>conv=>lhs; (conv=>arg 1;reduce);dsimp only[G.ap]
def ur:List aj:=[.tmp 2]
theorem Kj:aq Tryz.prog rq [] uL ur 7:=ai mixed (by kernel_rfl)
def qM:CC:=by refine(fun(_:G.ap (G.gn Tryz.prog Tryz.f59 [] {})=?c)=>?c) ?h;case h=>conv=>lhs; (conv=>arg 1;reduce);dsimp only[G.ap]
def qu:List aj:=[.tmp 0]
theorem Ga:aq Tryz.prog np [] qM qu 5:=ai mixed (by kernel_rfl)
def sY:CC:=by refine(fun(_:G.ap (G.gn Tryz.prog Tryz.f34 [] {})=?c)=>?c) ?h;case h=>conv=>lhs; (conv=>arg 1;reduce);dsimp only[G.ap]
def yF:List aj:=[.tmp 4]
theorem Ij:aq Tryz.prog bc [] sY yF 35:=ai mixed (by kernel_rfl)
def Jj:CC:=by refine(fun(_:G.ap (G.gn Tryz.prog Tryz.f12 [999] {})=?c)=>?c) ?h;case h=>conv=>lhs; (conv=>arg 1;reduce);dsimp only[G.ap]
def HQ:List aj:=[.tmp 2]
theorem Yn:aq Tryz.prog GF [999] Jj HQ 11:=ai mixed (by kernel_rfl)
def lQ:CC:=by refine(fun(_:G.ap (G.gn Tryz.prog Tryz.f33 [100026,2067008] { cu:=[3,5,12,19,22,28] })=?c)=>?c) ?h;case h=>conv=>lhs; (conv=>arg 1;reduce);dsimp only[G.ap]
def lC:List aj:=[.cell 6 true 7]
theorem Bh:aq Tryz.prog iR [100026,2067008] lQ lC 177:=ai mixed (by kernel_rfl)
def qJ:CC:=by refine(fun(_:G.ap (G.gn Tryz.prog Tryz.f64 [1061061,1096061,2063001,2098001] { bx:=[1],cu:=[12] })=?c)=>?c) ?h;case h=>conv=>lhs; (conv=>arg 1;reduce);dsimp only[G.ap]
def qr:List aj:=[]
theorem F7:aq Tryz.prog nl [1061061,1096061,2063001,2098001] qJ qr 100:=ai mixed (by kernel_rfl)
def qL:CC:=by refine(fun(_:G.ap (G.gn Tryz.prog Tryz.f65 [1038027,1034027,1031027,2076042,2075040] { bx:=[1],cu:=[10,14] })=?c)=>?c) ?h;case h=>conv=>lhs; (conv=>arg 1;reduce);dsimp only[G.ap]
def qt:List aj:=[]
theorem F9:aq Tryz.prog nn [1038027,1034027,1031027,2076042,2075040] qL qt 102:=ai mixed (by kernel_rfl)
def pa:CC:=by refine(fun(_:G.ap (G.gn Tryz.prog Tryz.f13 [] {})=?c)=>?c) ?h;case h=>conv=>lhs; (conv=>arg 1;reduce);dsimp only[G.ap]
def ot:List aj:=[.cell 4 true 7]
theorem Ev:aq Tryz.prog lc [] pa ot 36:=ai mixed (by kernel_rfl)
def uM:CC:=by refine(fun(_:G.ap (G.gn Tryz.prog Tryz.f46 [] {})=?c)=>?c) ?h;case h=>conv=>lhs; (conv=>arg 1;reduce);dsimp only[G.ap]
def ut:List aj:=[.tmp 2]
def lS:CC:=by refine(fun(_:G.ap (G.gn Tryz.prog Tryz.f47 [] {})=?c)=>?c) ?h;case h=>conv=>lhs; (conv=>arg 1;reduce);dsimp only[G.ap]
def lE:List aj:=[.tmp 4]
def pd:CC:=by refine(fun(_:G.ap (G.gn Tryz.prog Tryz.f106 [] {})=?c)=>?c) ?h;case h=>conv=>lhs; (conv=>arg 1;reduce);dsimp only[G.ap]
def ov:List aj:=[.tmp 2]
def pb:CC:=by refine(fun(_:G.ap (G.gn Tryz.prog Tryz.f79 [2] {})=?c)=>?c) ?h;case h=>conv=>lhs; (conv=>arg 1;reduce);dsimp only[G.ap]
def ou:List aj:=[.tmp 4]
end Go.Gv

namespace Go.Gv
open Cod (enc dec)
variable {S:Nat->Spc}
abbrev qg:Spc:=bp (a1 Int) (fun _=>True) enc fun _ y=>y=false
theorem FR:ar pd ov S (a1 Int) (fun _=>True) enc fun _ y=>y=false:=by
 rintro x -
 simp[pd,ov]
def xY(a b:Int):Int:=if a < b then -1 else if b < a then 1 else 0
abbrev fe:Spc:=bp (a2 Int Int) (fun _=>True) enc fun x y=>y=xY x.1 x.2
theorem B7(h1:S li=qg):ar lS lE S (a2 Int Int) (fun _=>True) enc fun x y=>y=xY x.1 x.2:=by
 rintro⟨a,b⟩ -
 simp[lS,lE,h1,xY]
 refine⟨fun h1 h2=>by omega,fun h1=>⟨fun h2=>?_,fun h2=>?_⟩⟩
 ·rw[if_neg (by omega),if_pos h2]
 ·rw[if_neg (by omega),if_neg (by omega)]
abbrev vT:Spc:=bp (a1 (List Int)) (fun _=>True) enc fun x y=>y=(x.find? (· ≠0)).getD 0
theorem LS:ar uM ut S (a1 (List Int)) (fun _=>True) enc fun x y=>y=(x.find? (· ≠0)).getD 0:=by
 rintro l -
 simp[uM,ut]
 intro _
 refine ak (X:=Unit) [3,6] [] l.length (fun k _=>(l.find? fun x=>!decide (x=0))=(l.drop k).find? fun x=>!decide (x=0)) (fun _=>[]) (fun _=>[]) () (by simp) (by simp) (by omega) (by simp) (by simp) (by simp) (by simp) (by simp) ?_ ?_
 ·intro k _ hk hP
  simp
  refine⟨hk,fun x hx=>?_⟩
  rw[nq hx]at hP
  refine⟨fun h=>?_,fun h=>?_⟩
  ·rw[hP];simp[h]
  ·rw[hP];simp[h]
 ·intro _ hP
  rw[qtR]at hP
  simp[hP]
def ED(x n:Int):Int:=if n < 1 then 0 else if x.tmod n < 0 then x.tmod n+n else x.tmod n
abbrev s_m_Mod:Spc:=bp (a2 Int Int) (fun x=>x.2<=1000000000) enc fun x y=>y=ED x.1 x.2
theorem qbh:ar Jk HR S (a2 Int Int) (fun x=>x.2<=1000000000) enc fun x y=>y=ED x.1 x.2:=by
 rintro⟨a,b⟩ hl
 simp at hl
 simp[Jk,HR,ED]
 refine⟨fun h1 h2=>by omega,fun h1=>⟨by omega,fun h2=>⟨?_,?_⟩,fun h2=>?_⟩⟩
 ·have:=Int.lt_tmod_of_pos a (b:=b) (by omega)
  simp[InR];omega
 ·rw[if_neg (by omega),if_pos h2]
 ·rw[if_neg (by omega),if_neg (by omega)]
end Go.Gv
