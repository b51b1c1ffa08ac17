/- A part of the framework and of the walks: L1 Cd G Cc. -/
import Derived.Test.YtphdikcommfnhaaGreatDoorProg
import Derived.Test.YtphdikcommfnhaaGreatDoorGd19
import Derived.Test.YtphdikcommfnhaaGreatDoorGd18
set_option linter.unusedSimpArgs false
set_option linter.unusedVariables false
set_option linter.unusedSectionVars false
set_option maxRecDepth 100000
set_option maxHeartbeats 0

namespace Go.Gv
theorem bJ{α:Type}{l:List α}{k:Nat}{a:α}(h:l[k]? =some a):l.take (k+1)=l.take k++ [a]:=by
 rw[qvV,h];rfl
theorem nF{α:Type}{l:List α}{k:Nat}{a:α}(h:l[k]? =some a):l.drop k=a::l.drop (k+1):=by
 obtain⟨hk,rfl⟩:=qtV.1 h
 exact qux hk
theorem dM{α:Type}{l:List α}{k:Nat}{a:α}(h:l[k]? =some a):a∈l:=qtY h
theorem qeO{α:Type}{l:List α}{k:Nat}{a:α}(h:l[k]? =some a):k < l.length:=(qtV.1 h).1
theorem da{α:Type}{l:List α}{k:Nat}(h:k < l.length):∃a,l[k]? =some a:=⟨l[k],qtW h⟩
def qjL(a b:Span):Prop:=a.b < b.b\/a.b=b.b/\a.e < b.e
instance (a b:Span):Decidable (qjL a b):=by unfold qjL;infer_instance
theorem qdb(a:Span):¬qjL a a:=by unfold qjL;omega
def SS(l:List Span):Prop:=l.Pairwise qjL
theorem SS.nil:SS []:=List.Pairwise.nil
def IsNorm(l r:List Span):Prop:=SS r/\∀x,x∈r↔x∈l
theorem IsNorm.nil:IsNorm [] []:=⟨SS.nil,fun _=>quW⟩
theorem IsNorm.congr{l l' r:List Span}(h:IsNorm l r)(hl:∀x,x∈l↔x∈l'):IsNorm l' r:=⟨h.1,fun x=>(h.2 x).trans (hl x)⟩
theorem YA:∀ {r l:List Span},SS r->(∀x∈r,x∈l)->r.length<=l.length
 | [],l,_,_=>qul _
 | x::r,l,h,hl=>by
   have h':=qvR.1 h
   have hx:=hl x (by simp)
   have:=YA (l:=l.erase x) h'.2 fun y hy=>(List.mem_erase_of_ne (fun(e:y=x)=>qdb x (by have:=h'.1 y hy;rwa [e]at this))).2 (hl y (by simp[hy]))
   rw[List.length_erase_of_mem hx]at this
   have:=List.length_pos_of_mem hx
   simp;omega
theorem IsNorm.len{l r:List Span}(h:IsNorm l r):r.length<=l.length:=YA h.1 fun x hx=>(h.2 x).1 hx
theorem IsNorm.same{l l' r:List Span}(h:IsNorm l r)(hl:∀x,x∈l'↔x∈l):IsNorm l' r:=⟨h.1,fun x=>(h.2 x).trans (hl x).symm⟩
def gi{X:Type} :List X->(X->Bool)->Int
 | [],_=> -1
 | x::l,p=>if p x then 0 else if gi l p < 0 then -1 else gi l p+1
theorem mz{X:Type}{p:X->Bool} :∀ {l:List X},(∀y∈l,p y=false)->gi l p= -1
 | [],_=>rfl
 | x::l,h=>by
   have:=mz (l:=l) (fun y hy=>h y (by simp[hy]))
   simp[gi,h x (by simp),this]
theorem tZ{X:Type}{p:X->Bool} :∀ {l:List X} {k:Nat} {x:X},l[k]? =some x->p x=true->(∀y∈l.take k,p y=false)->gi l p=k
 | [],k,x,hx,_,_=>by simp at hx
 | z::l,0,x,hx,hp,_=>by
   simp at hx
   subst hx
   simp[gi,hp]
 | z::l,k+1,x,hx,hp,hb=>by
   have hz:=hb z (by simp)
   have ih:=tZ (l:=l) (k:=k) (by simpa using hx) hp (fun y hy=>hb y (by simp[hy]))
   simp[gi,hz,ih]
   omega
theorem BU{X:Type}(p:X->Bool)(l:List X):(gi l p= -1/\∀y∈l,p y=false)\/ ∃k x,gi l p=(k:Nat)/\l[k]? =some x/\p x=true/\∀y∈l.take k,p y=false:=by
 induction l with
 | nil=>exact .inl ⟨rfl,by simp⟩
 | cons z l ih=>
   by_cases hz:p z=true
   ·exact .inr ⟨0,z,by simp[gi,hz],by simp,hz,by simp⟩
   ·have hz:p z=false:=by simpa using hz
    rcases ih with⟨h1,h2⟩|⟨k,x,h1,h2,h3,h4⟩
    ·refine .inl ⟨by simp[gi,hz,h1],fun y hy=>?_⟩
     rcases qt1.1 hy with rfl|hy
     ·exact hz
     ·exact h2 y hy
    ·refine .inr ⟨k+1,x,?_,by simpa using h2,h3,fun y hy=>?_⟩
     ·simp[gi,hz,h1];omega
     ·rw[qwt]at hy
      rcases qt1.1 hy with rfl|hy
      ·exact hz
      ·exact h4 y hy
theorem tY{X:Type}(p:X->Bool)(l:List X):decide (0<=gi l p)=l.any p:=by
 rcases BU p l with⟨h1,h2⟩|⟨k,x,h1,h2,h3,h4⟩
 ·have:l.any p=false:=by simpa using h2
  rw[h1,this];rfl
 ·have:l.any p=true:=qva.2 ⟨x,dM h2,h3⟩
  rw[h1,this];simp
theorem SS.filter{l:List Span}(h:SS l)(p:Span->Bool):SS (l.filter p):=List.Pairwise.filter p h
theorem IsNorm.filter{l r:List Span}(h:IsNorm l r)(p:Span->Bool):IsNorm (l.filter p) (r.filter p):=⟨h.1.filter p,fun x=>by simp[h.2 x]⟩
theorem Xz(s:ByteArray)(p:Nat)(h:p < s.size):1<=(Utf8.decode s p).2/\p+ (Utf8.decode s p).2<=s.size:=by
 unfold Utf8.decode
 simp only[qt2,decide_eq_true_eq]
 repeat' split
 all_goals (try simp only[])
 all_goals omega
end Go.Gv

namespace Go.Gv
open Go.Proofs
abbrev oA(d s:Nat):CI:= .op (some d) none (.mv (.tmp s))
abbrev oB(d:Nat)(c:COp):CI:= .op (some d) none c
abbrev oC(d w s:Nat):CI:= .op (some d) none (.load false w (.tmp s))
abbrev oD(d w s:Nat):CI:= .op (some d) none (.load true w (.tmp s))
abbrev oE(d n s:Nat):CI:= .op (some d) none (.faddr n (.tmp s))
abbrev oF(w a b:Nat):CI:= .op none none (.store none w (.tmp a) (.tmp b))
abbrev oG(d s:Nat):CI:= .op (some d) none (.nilck (.tmp s))
abbrev oH(d g:Nat)(c:COp):CI:= .op (some d) (some (g,true)) c
abbrev oI(d g:Nat)(c:COp):CI:= .op (some d) (some (g,false)) c
abbrev oT(n:Nat):Operand:= .tmp n
abbrev oK(v:Value):Operand:= .const v
abbrev oN(n:Int):Operand:= .const (.int .i64 n)
abbrev oS(b:ByteArray):Operand:= .const (.string b)
abbrev oi:Value:= .int .i64 0
abbrev oe:Value:= .string ⟨#[]⟩
abbrev ob:Value:= .bool false
abbrev on:Value:= .slice none 0 0
abbrev oZ(d f:Nat)(l:List Operand):CI:= .op (some d) none (.call f l)
abbrev oX(l:List CI)(a b:List Nat)(x:CC):CC:= .seq (.reg l) (.keep a b x)
abbrev nE:Nat:=11
abbrev G7:Nat:=12
abbrev lr:Nat:=13
abbrev eY:Nat:=15
abbrev xh:Nat:=17
abbrev pW:Nat:=18
abbrev ia:Nat:=19
abbrev pK:Nat:=20
abbrev ew:Nat:=21
abbrev pU:Nat:=23
abbrev pR:Nat:=31
abbrev rD:Nat:=32
abbrev jc:Nat:=33
abbrev bc:Nat:=34
abbrev rH:Nat:=35
abbrev kg:Nat:=40
abbrev rL:Nat:=41
abbrev ue:Nat:=44
abbrev pV:Nat:=45
abbrev rN:Nat:=46
abbrev dY:Nat:=47
abbrev fl:Nat:=48
abbrev pT:Nat:=49
abbrev nA:Nat:=50
abbrev iq:Nat:=57
abbrev fI:Nat:=58
abbrev nD:Nat:=59
abbrev DI:Nat:=60
abbrev G6:Nat:=61
abbrev rM:Nat:=62
abbrev iY:Nat:=63
abbrev nB:Nat:=64
abbrev nC:Nat:=65
abbrev ui:Nat:=66
abbrev fq:Nat:=67
abbrev nw:Nat:=68
abbrev nr:Nat:=69
abbrev fu:Nat:=71
abbrev bu:Nat:=72
abbrev cI:Nat:=73
abbrev fy:Nat:=74
abbrev bp:Nat:=75
abbrev pS:Nat:=77
abbrev kb:Nat:=78
abbrev lw:Nat:=79
abbrev ny:Nat:=80
abbrev bv:Nat:=81
abbrev bL:Nat:=82
abbrev fY:Nat:=83
abbrev aW:Nat:=86
abbrev xi:Nat:=95
abbrev jW:Nat:=96
abbrev bq:Nat:=97
abbrev iT:Nat:=99
abbrev pN:Nat:=100
abbrev iU:Nat:=102
abbrev de:Nat:=103
abbrev aK:Nat:=105
abbrev lz:Nat:=106
abbrev eI:Nat:=107
abbrev iu:Nat:=110
abbrev cJ:Nat:=111
abbrev eo:Nat:=112
abbrev dN:Nat:=113
abbrev cT:Nat:=114
abbrev nt:Nat:=115
abbrev ck:Nat:=117
abbrev gF:Nat:=118
abbrev aF:Nat:=119
abbrev ir:Nat:=120
abbrev cz:Nat:=121
abbrev dy:Nat:=122
abbrev bM:Nat:=123
abbrev jg:Nat:=124
abbrev dg:Nat:=125
abbrev rJ:Nat:=126
abbrev iZ:Nat:=130
abbrev fw:Nat:=131
abbrev eH:Nat:=132
abbrev eu:Nat:=133
abbrev gG:Nat:=134
abbrev lp:Nat:=136
abbrev mB:Nat:=138
abbrev xm:Nat:=139
abbrev nq:Nat:=148
abbrev pM:Nat:=149
abbrev ud:Nat:=150
abbrev jU:Nat:=151
abbrev ed:Nat:=154
abbrev jZ:Nat:=155
abbrev aC:Nat:=156
abbrev hZ:Nat:=157
abbrev xj:Nat:=158
abbrev pQ:Nat:=159
abbrev jY:Nat:=160
abbrev rE:Nat:=161
abbrev uf:Nat:=162
abbrev pP:Nat:=163
abbrev uj:Nat:=164
abbrev ug:Nat:=165
abbrev aY:Nat:=166
abbrev cN:Nat:=167
abbrev aM:Nat:=168
abbrev eG:Nat:=169
abbrev jd:Nat:=170
abbrev je:Nat:=171
abbrev qa:Nat:=172
abbrev aN:Nat:=173
abbrev lP:Nat:=174
abbrev bG:Nat:=175
abbrev km:Nat:=180
abbrev aO:Nat:=181
abbrev aS:Nat:=182
abbrev rK:Nat:=183
abbrev nz:Nat:=184
abbrev kj:Nat:=185
abbrev ja:Nat:=195
abbrev un:Nat:=199
abbrev jV:Nat:=207
abbrev fP:Nat:=208
abbrev ft:Nat:=210
abbrev rI:Nat:=211
abbrev eF:Nat:=212
abbrev uh:Nat:=213
abbrev mA:Nat:=214
abbrev jX:Nat:=215
abbrev xk:Nat:=216
abbrev rG:Nat:=217
abbrev rF:Nat:=218
abbrev dW:Nat:=219
abbrev ip:Nat:=220
abbrev cL:Nat:=221
abbrev bb:Nat:=222
abbrev fA:Nat:=224
abbrev dV:Nat:=227
abbrev bK:Nat:=228
abbrev cU:Nat:=238
abbrev iW:Nat:=246
abbrev iV:Nat:=248
abbrev iX:Nat:=252
abbrev ul:Nat:=253
abbrev sW:Nat:=254
abbrev fm:Nat:=255
abbrev eq:Nat:=257
abbrev au:Nat:=261
abbrev pY:Nat:=262
abbrev jh:Nat:=263
abbrev pX:Nat:=264
abbrev gI:Nat:=265
abbrev cZ:Nat:=266
abbrev bh:Nat:=267
abbrev um:Nat:=269
abbrev eO:Nat:=275
abbrev aw:Nat:=276
abbrev il:Nat:=277
abbrev dx:Nat:=278
abbrev dU:Nat:=279
abbrev iS:Nat:=285
abbrev pJ:Nat:=286
abbrev lu:Nat:=287
abbrev gH:Nat:=288
abbrev aV:Nat:=289
abbrev ei:Nat:=290
abbrev dT:Nat:=291
abbrev eM:Nat:=298
abbrev bi:Nat:=299
abbrev iR:Nat:=300
abbrev io:Nat:=303
abbrev cq:Nat:=304
abbrev cM:Nat:=305
abbrev fM:Nat:=306
abbrev fO:Nat:=313
abbrev jS:Nat:=316
abbrev uo:Nat:=317
abbrev fQ:Nat:=318
abbrev jT:Nat:=319
abbrev ko:Nat:=320
abbrev uc:Nat:=326
abbrev fp:Nat:=327
abbrev cY:Nat:=328
abbrev bS:Nat:=329
abbrev aU:Nat:=331
abbrev dX:Nat:=332
abbrev eN:Nat:=335
abbrev np:Nat:=336
abbrev fN:Nat:=339
abbrev bE:Nat:=341
abbrev eP:Nat:=342
abbrev cS:Nat:=350
abbrev ct:Nat:=351
abbrev gJ:Nat:=352
abbrev db:Nat:=355
abbrev ca:Nat:=356
abbrev cD:Nat:=358
abbrev kq:Nat:=359
abbrev bH:Nat:=360
abbrev ix:Nat:=3
abbrev qe:Nat:=5
abbrev az:Nat:=9
abbrev HB:Nat:=21
abbrev mq:Nat:=28
abbrev MC:Nat:=36
abbrev gp:Nat:=39
abbrev sj:Nat:=55
abbrev Ak:Nat:=71
abbrev mj:Nat:=109
abbrev tQ:Nat:=117
abbrev iy:Nat:=163
abbrev CF:Nat:=166
abbrev eb:Nat:=196
abbrev yM:Nat:=199
abbrev eW:Nat:=241
abbrev cQ:Nat:=250
abbrev vC:Nat:=314
theorem mixed:Tryz.prog.follows .mixedOrders=true:=by kernel_rfl
end Go.Gv

namespace Go.Gv
namespace G
variable {α:Type}
def fc(n:Nat)(f:Nat->α):α:=match n with
 | 0=>f 0
 | k+1=>f (k+1)
def bt(t:Nat):Nat:=Nat.shiftLeft 1 t
def oM:Operand->Nat
 | .tmp t=>bt t
 | _=>0
def qsl:List Operand->Nat
 | []=>0
 | o::l=>Nat.lor (oM o) (qsl l)
def qr9:CI->Nat
 | .op _ g c=>Nat.lor (qsl c.ops) (match g with|some (s,_)=>bt s|none=>0)
 | .frz _ _=>0
def rm(m t:Nat):Nat:=Nat.sub m (Nat.land m (bt t))
def qmy:List CI->Nat->Nat
 | [],o=>o
 | x::l,o=>fc (qmy l o) fun o=>match x with
   | .op (some d) g c=>Nat.lor (rm o d) (qr9 (.op (some d) g c))
   | .op none g c=>Nat.lor o (qr9 (.op none g c))
   | .frz _ _=>o
def lk:List (Nat×Nat)->Nat->Nat
 | [],_=>0
 | (i,m)::l,k=>match Nat.beq i k with
  | true=>m
  | false=>lk l k
def qp0:Nat->(Nat->Nat)->Nat->Nat
 | 0,_,c=>c
 | n+1,f,c=>fc (Nat.lor c (f c)) fun d=>match Nat.beq d c with
   | true=>d
   | false=>qp0 n f d
def lv(r:Nat):CC->List (Nat×Nat)->Nat->Nat
 | .skip,_,o=>o
 | .reg l,_,o=>qmy l o
 | .regd p t,_,o=>fc (qmy t o) (qmy p)
 | .seq a b,e,o=>fc (lv r b e o) (lv r a e)
 | .ite c a b,e,o=>Nat.lor (Nat.lor (lv r a e o) (lv r b e o)) (oM c)
 | .block i b,e,o=>lv r b ((i,o)::e) o
 | .loop _ b,e,_=>qp0 50 (lv r b e) 0
 | .exit i,e,_=>lk e i
 | .ret,_,_=>r
 | .cut _ c,e,o=>lv r c e o
 | .keep _ _ c,e,o=>lv r c e o
def gt(W x t:Nat):Nat:=Nat.land (Nat.shiftRight x (Nat.mul t W)) (Nat.sub (bt W) 1)
def ad(W x t m:Nat):Nat:=Nat.lor x (Nat.shiftLeft m (Nat.mul t W))
def hO(W h:Nat):Operand->Nat
 | .tmp t=>gt W h t
 | _=>0
def qie(W h:Nat):List Operand->Nat
 | []=>0
 | o::l=>Nat.lor (hO W h o) (qie W h l)
def qa5:Nat->Nat->Nat->List Nat
 | 0,_,_=>[]
 | n+1,i,m=>match Nat.beq m 0 with
   | true=>[]
   | false=>match Nat.beq (Nat.land m 1) 1 with
     | true=>i::qa5 n (i+1) (Nat.shiftRight m 1)
     | false=>qa5 n (i+1) (Nat.shiftRight m 1)
def bl(m:Nat):List Nat:=qa5 1000 0 m
def XS(f:Nat->Nat):List Nat->Nat
 | []=>0
 | i::l=>Nat.lor (f i) (XS f l)
def qhT(W:Nat)(f:Nat->Nat):List Nat->Nat->Nat
 | [],c=>c
 | i::l,c=>fc (ad W c i (f i)) (qhT W f l)
def qtk(W:Nat)(x:CI)(h c:Nat)(K:Nat->Nat->α):α:=match x with
 | .frz _ _=>K h c
 | .op d _ o=>
   let put (m:Nat):α:=match d with
    | some d=>fc (ad W h d m) fun h=>K h c
    | none=>K h c
   let own:Nat:=match d with
    | some d=>bt d
    | none=>0
   let cal (s:Nat):α:=fc s fun s=>fc (qhT W (fun i=>rm s i) (bl s) c) fun c=>match d with
    | some d=>fc (ad W h d s) fun h=>K h c
    | none=>K h c
   match o with
   | .alloc _ _=>put own
   | .nslice _ _=>put own
   | .mslice _ _ _=>put own
   | .mkslice _ _ _ _ _ _ _=>put own
   | .srange _=>put own
   | .appmk _ _ _ _ _ _ _=>put own
   | .m .mk _=>put own
   | .m .rng _=>put own
   | .m .len _=>K h c
   | .m (.upd _ _) (x::ys)=>fc (qie W h ys) fun v=>fc (qhT W (fun _=>v) (bl (hO W h x)) c) fun c=>K h c
   | .m (.look _ _ _ _ _) (x::_)=>put (XS (gt W c) (bl (hO W h x)))
   | .m .entry (x::_)=>put (XS (gt W c) (bl (hO W h x)))
   | .load _ _ x=>put (XS (gt W c) (bl (hO W h x)))
   | .tbx _ x=>fc (qhT W (fun _=>hO W h x) (bl own) c) fun c=>match d with
     | some d=>fc (ad W h d own) fun h=>K h c
     | none=>K h c
   | .box _ false x=>fc (qhT W (fun _=>hO W h x) (bl own) c) fun c=>match d with
     | some d=>fc (ad W h d own) fun h=>K h c
     | none=>K h c
   | .store _ _ x y=>fc (hO W h y) fun v=>fc (qhT W (fun _=>v) (bl (hO W h x)) c) fun c=>K h c
   | .append _ _ _ _ x _=>put (Nat.lor own (hO W h x))
   | .call _ xs=>cal (qie W h xs)
   | .callb _ _ xs=>cal (qie W h xs)
   | .callv f xs=>put (Nat.lor (qie W h xs) (hO W h f))
   | o=>put (qie W h o.ops)
def qlF(W:Nat):List CI->Nat->Nat->(Nat->Nat->α)->α
 | [],h,c,K=>K h c
 | x::l,h,c,K=>qtk W x h c fun h c=>qlF W l h c K
def qfL(W:Nat):CC->Nat->Nat->(Nat->Nat->α)->α
 | .reg l,h,c,K=>qlF W l h c K
 | .regd p t,h,c,K=>qlF W p h c fun h c=>qlF W t h c K
 | .seq a b,h,c,K=>qfL W a h c fun h c=>qfL W b h c K
 | .ite _ a b,h,c,K=>qfL W a h c fun h c=>qfL W b h c K
 | .block _ b,h,c,K=>qfL W b h c K
 | .loop _ b,h,c,K=>qfL W b h c K
 | _,h,c,K=>K h c
def fx(W:Nat)(cc:CC):Nat->Nat->Nat->(Nat->Nat->α)->α
 | 0,h,c,K=>K h c
 | n+1,h,c,K=>qfL W cc h c fun h' c'=>match Nat.beq h h' with
   | false=>fx W cc n h' c' K
   | true=>match Nat.beq c c' with
     | false=>fx W cc n h' c' K
     | true=>K h c
def cl(W c:Nat):Nat->Nat->Nat
 | 0,s=>s
 | n+1,s=>fc (Nat.lor s (XS (gt W c) (bl s))) fun t=>match Nat.beq t s with
   | true=>s
   | false=>cl W c n t
def qjW:Value->Bool
 | .int .i64 k=>decide (k=1)
 | _=>false
def qtE:List CI->Option (Nat×Nat×Nat)
 | [.op (some c) none (.cmp .lss (.tmp i) (.tmp n))]=>some (c,i,n)
 | _=>none
def qtF:List CI->Option (Nat×Nat)
 | [.op (some i2) none (.arith .add (.tmp i) (.const v)), .op (some j) none (.mv (.tmp j2))]=>match qjW v && Nat.beq i j && Nat.beq i2 j2 with
   | true=>some (i2,i)
   | false=>none
 | _=>none
def qp1(id:Nat):CC->Option (Nat×Nat×Nat×Nat×Nat)
 | .loop _ (.seq (.reg l) (.seq (.ite (.tmp c2) .skip (.exit id3)) (.seq (.block id2 _) (.reg l2))))=>match qtE l,qtF l2 with
   | some (c,i,n),some (i2,j)=>match Nat.beq id id3 && Nat.beq c c2 && Nat.beq i j with
     | true=>some (i,n,c,id2,i2)
     | false=>none
   | _,_=>none
 | _=>none
def qdY:CC->Nat
 | .seq a b=>qdY a+qdY b+1
 | .ite _ a b=>qdY a+qdY b
 | .block i b=>match qp1 i b with
   | some _=>qdY b -3
   | none=>qdY b
 | .loop _ b=>qdY b
 | _=>0
def N4:CC->Nat
 | .seq a b=>N4 a+N4 b
 | .ite _ a b=>N4 a+N4 b
 | .block i b=>match qp1 i b with
   | some _=>N4 b -1
   | none=>N4 b
 | .loop _ b=>N4 b+1
 | _=>0
def uk:CC->CC
 | .keep _ _ c=>c
 | c=>c
def qtN(b:CC):CC:=match b with
 | .loop _ b=>match uk b with
   | .seq _ b=>match uk b with
     | .seq _ b=>match uk b with
       | .seq a _=>match uk a with
         | .block _ b=>b
         | _=> .skip
       | _=> .skip
     | _=> .skip
   | _=> .skip
 | _=> .skip
section
variable (f:Operand->Operand)(z:List Value->List Value)
def pC:COp->COp
 | .mv x=> .mv (f x)
 | .pick c x y=> .pick (f c) (f x) (f y)
 | .alloc el l=> .alloc el (z l)
 | .box el im x=> .box el im (f x)
 | .tbx el x=> .tbx el (f x)
 | .build l ps=> .build (z l) (ps.map fun p=>(p.1,p.2.1,f p.2.2))
 | .bslice el n ps=> .bslice el n (ps.map f)
 | .nslice el n=> .nslice el n
 | .mslice el n ps=> .mslice el n (ps.map f)
 | .load a s x=> .load a s (f x)
 | .store r s x y=> .store r s (f x) (f y)
 | .nilck x=> .nilck (f x)
 | .arith o x y=> .arith o (f x) (f y)
 | .cmp o x y=> .cmp o (f x) (f y)
 | .eql n a ks x y=> .eql n a ks (f x) (f y)
 | .scat x y=> .scat (f x) (f y)
 | .not x=> .not (f x)
 | .neg x=> .neg (f x)
 | .conv k x=> .conv k (f x)
 | .clo g l=> .clo g (l.map f)
 | .mkslice el n b a l x y=> .mkslice el n b a (z l) (f x) (f y)
 | .slice n x l h=> .slice n (f x) (l.map f) (h.map f)
 | .sslice x l h=> .sslice (f x) (l.map f) (h.map f)
 | .faddr o x=> .faddr o (f x)
 | .fld a s o x=> .fld a s o (f x)
 | .iaddr n x i=> .iaddr n (f x) (f i)
 | .sidx x i=> .sidx (f x) (f i)
 | .ext x i=> .ext (f x) i
 | .len x=> .len (f x)
 | .slen x=> .slen (f x)
 | .mm m l=> .mm m (l.map f)
 | .append r el n b x y=> .append r el n b (f x) (f y)
 | .appmk el n b a l x y=> .appmk el n b a (z l) (f x) (f y)
 | .clear n a l x=> .clear n a (z l) (f x)
 | .copy n x y=> .copy n (f x) (f y)
 | .cap x=> .cap (f x)
 | .srange x=> .srange (f x)
 | .snext x=> .snext (f x)
 | .sbytes x=> .sbytes (f x)
 | .bstr x=> .bstr (f x)
 | .rstr x=> .rstr (f x)
 | .mkif t x=> .mkif t (f x)
 | .m (.look ok a ka ks l) xs=> .m (.look ok a ka ks (z l)) (xs.map f)
 | .m o xs=> .m o (xs.map f)
 | .bad=> .bad
 | .call g l=> .call g (l.map f)
 | .callv g l=> .callv (f g) (l.map f)
 | .callb r g l=> .callb r g (l.map f)
def pL(fz:List (Nat×Nat)):List CI->List CI
 | []=>[]
 | .op (some d) g c::l=>match fz.lookup d with
   | some n=> .op (some d) g (pC f z c):: .frz d n::pL fz l
   | none=> .op (some d) g (pC f z c)::pL fz l
 | .op none g c::l=> .op none g (pC f z c)::pL fz l
 | .frz t n::l=> .frz t n::pL fz l
end
structure qtb where
 bx:List Nat:=[]
 fz:List (Nat×Nat):=[]
 cu:List Nat:=[]
 ke:List Nat:=[]
 kz:List Nat:=[]
abbrev PF:=(rg:Nat->Nat->Nat->Nat->Nat->CC->Nat->CC)->(sm:Nat->CC->CC->CC)->(kk:{_:Value} ->Operand)->(zk:IntKind->Value)->(ze zb zs zp zm zf:Value)->CC
section
variable (kk:{_:Value} ->Operand)(zk:IntKind->Value)(ze zb zs zp zm zf:Value)
def pO:Operand->Operand
 | .const v=> @kk v
 | .tmp t=> .tmp t
 | .global g=> .global g
 | .func f=> .func f
def pZ:List Value->List Value
 | []=>[]
 | v::l=>(match v with
   | .int k _=>zk k
   | .string _=>ze
   | .bool _=>zb
   | .slice _ _ _=>zs
   | .pointer _=>zp
   | .map _=>zm
   | _=>zf)::pZ l
end
section
variable (rg:Nat->Nat->Nat->Nat->Nat->CC->Nat->CC)(sm:Nat->CC->CC->CC)(f:Operand->Operand)(z:List Value->List Value)(op:qtb)(W h c r:Nat)
def qrx(l:List Nat):List Nat:=op.ke.filter (fun x=>!l.contains x) ++l++op.kz
def an:CC->List (Nat×Nat)->Nat->Nat->Nat->Nat->CC
 | .skip,_,_,_,_,_=> .skip
 | .reg l,_,_,_,_,_=> .reg (pL f z op.fz l)
 | .regd p l,_,_,_,_,_=> .regd (pL f z op.fz p) (pL f z op.fz l)
 | .seq a b,e,o,m,k,s=>fc (lv r b e o) fun p=>fc (match s with|0=>m+1|_=>m) fun m1=>
   let a':=an a e p m1 k 0
   let b':=an b e o (m1+qdY a) (k+N4 a) (s -1)
   let b2:=match a with
    | .skip=>b'
    | _=> .keep (bl p) (qrx op (bl (cl W c 5 (XS (gt W h) (bl p))))) b'
   match s with
   | 0=>match op.cu.contains m with
     | true=>sm m a' b2
     | false=> .seq a' b2
   | _=> .seq a' b2
 | .ite q a b,e,o,m,k,_=> .ite (f q) (an a e o m k 0) (an b e o (m+qdY a) (k+N4 a) 0)
 | .block i b,e,o,m,k,_=>match qp1 i b with
   | some (ii,n,c,id2,i2)=>rg i ii n c id2 (qtN (an b ((i,o)::e) o m k 3)) i2
   | none=> .block i (an b ((i,o)::e) o m k 0)
 | .loop _ b,e,_,m,k,s=>fc (qp0 50 (lv r b e) 0) fun o=>match s with
   | 0=> .loop k (an b e o m (k+1) 0)
   | _=> .loop 0 (an b e o m k s)
 | .exit i,_,_,_,_,_=> .exit i
 | .ret,_,_,_,_,_=> .ret
 | .cut _ c,e,o,m,k,s=>an c e o m k s
 | .keep _ _ c,e,o,m,k,s=>an c e o m k s
end
def qeA(W:Nat):List Nat->Nat
 | []=>0
 | t::l=>ad W (qeA W l) t (bt t)
def qfZ:List ResultVar->Nat
 | []=>0
 | .tmp t::l=>Nat.lor (bt t) (qfZ l)
 | .cell t _::l=>Nat.lor (bt t) (qfZ l)
def qsL(P:Program)(neg:Bool)(t:TypeId)(x y:Operand):COp:=match P.underlying t with
 | some (.struct fs)=> .eql neg true (fs.toList.map fun f=>(kN P f.type).getD .int) x y
 | _=> .eql neg false [(kN P t).getD .int] x y
def qq8(P:Program)(im:List Nat)(ops:Array Oper)(o:Oper):CI:= .op o.dst ((DA ops o).getD none) (match o.op with
 | .binOp .eql t x y _=>qsL P false t x y
 | .binOp .neq t x y _=>qsL P true t x y
 | _=>(cF P im o).getD .bad)
def cC(P:Program)(im:List Nat):Code->CC
 | .region _ ops false=> .reg (ops.toList.map (qq8 P im ops))
 | .region _ ops true=> .regd (Uo ops (ops.toList.map (qq8 P im ops)) (cj ops)) ((ops.toList.map (qq8 P im ops)).drop (cj ops))
 | .seq a b=> .seq (cC P im a) (cC P im b)
 | .cond c a b=> .ite c (cC P im a) (cC P im b)
 | .block id b=> .block id (cC P im b)
 | .loop b=> .loop 0 (cC P im b)
 | .exit id=> .exit id
 | .ret=> .ret
 | _=> .skip
def gn(P:Program)(fn:Func)(im:List Nat)(op:qtb):PF:=fun rg sm kk zk ze zb zs zp zm zf=>match fn.body with
 | none=> .skip
 | some code=>fc (qeA fn.ntmps op.bx) fun h0=>fx fn.ntmps (cC { P with cutTypes:= #[] } im code) 6 h0 0 fun h c=>fc (qfZ fn.results.toList) fun r=>
   an rg sm (pO @kk) (pZ zk ze zb zs zp zm zf) op fn.ntmps h c r (cC { P with cutTypes:= #[] } im code) [] r 0 1 0
def ap(c:PF):CC:=c wL Wf (fun {v} => .const v) (fun k=> .int k 0) (.string ⟨#[]⟩) (.bool false) (.slice none 0 0) (.pointer none) (.map none) .nilFunc
end G
end Go.Gv

namespace Go.Gv
open Go.Proofs
def JR:CC:=by refine(fun(_:G.ap (G.gn Tryz.prog Tryz.f23 [] {})=?c)=>?c) ?h;case h=>conv=>lhs; (conv=>arg 1;reduce);dsimp only[G.ap]
def Io:List ak:=[.tmp 4]
theorem Zi:aq Tryz.prog pU [] JR Io 16:=ai mixed (by kernel_rfl)
def xF:CC:=by refine(fun(_:G.ap (G.gn Tryz.prog Tryz.f138 [] {})=?c)=>?c) ?h;case h=>conv=>lhs; (conv=>arg 1;reduce);dsimp only[G.ap]
def wH:List ak:=[.tmp 2]
theorem Nv:aq Tryz.prog mB [] xF wH 21:=ai mixed (by kernel_rfl)
def zU:CC:=by refine(fun(_:G.ap (G.gn Tryz.prog Tryz.f139 [] {})=?c)=>?c) ?h;case h=>conv=>lhs; (conv=>arg 1;reduce);dsimp only[G.ap]
def za:List ak:=[.tmp 2]
theorem PB:aq Tryz.prog xm [] zU za 17:=ai mixed (by kernel_rfl)
def pi:CC:=by refine(fun(_:G.ap (G.gn Tryz.prog Tryz.f86 [] {})=?c)=>?c) ?h;case h=>conv=>lhs; (conv=>arg 1;reduce);dsimp only[G.ap]
def ox:List ak:=[.tmp 2]
theorem EH:aq Tryz.prog aW [] pi ox 29:=ai mixed (by kernel_rfl)
def nS:CC:=by refine(fun(_:G.ap (G.gn Tryz.prog Tryz.f238 [] {})=?c)=>?c) ?h;case h=>conv=>lhs; (conv=>arg 1;reduce);dsimp only[G.ap]
def mT:List ak:=[.tmp 2]
theorem Df:aq Tryz.prog cU [] nS mT 25:=ai mixed (by kernel_rfl)
def xH:CC:=by refine(fun(_:G.ap (G.gn Tryz.prog Tryz.f199 [] { cu:=[2,7,9] })=?c)=>?c) ?h;case h=>conv=>lhs; (conv=>arg 1;reduce);dsimp only[G.ap]
def wJ:List ak:=[.tmp 2]
theorem Nx:aq Tryz.prog un [] xH wJ 81:=ai mixed (by kernel_rfl)
def xG:CC:=by refine(fun(_:G.ap (G.gn Tryz.prog Tryz.f269 [] {})=?c)=>?c) ?h;case h=>conv=>lhs; (conv=>arg 1;reduce);dsimp only[G.ap]
def wI:List ak:=[.tmp 2]
theorem Nw:aq Tryz.prog um [] xG wI 16:=ai mixed (by kernel_rfl)
def xE:CC:=by refine(fun(_:G.ap (G.gn Tryz.prog Tryz.f253 [] {})=?c)=>?c) ?h;case h=>conv=>lhs; (conv=>arg 1;reduce);dsimp only[G.ap]
def wG:List ak:=[.tmp 2, .tmp 3]
theorem Nu:aq Tryz.prog ul [] xE wG 69:=ai mixed (by kernel_rfl)
def zS:CC:=by refine(fun(_:G.ap (G.gn Tryz.prog Tryz.f158 [] {})=?c)=>?c) ?h;case h=>conv=>lhs; (conv=>arg 1;reduce);dsimp only[G.ap]
def yY:List ak:=[.tmp 2]
theorem Pz:aq Tryz.prog xj [] zS yY 4:=ai mixed (by kernel_rfl)
def th:CC:=by refine(fun(_:G.ap (G.gn Tryz.prog Tryz.f159 [] {})=?c)=>?c) ?h;case h=>conv=>lhs; (conv=>arg 1;reduce);dsimp only[G.ap]
def sD:List ak:=[.tmp 4]
theorem IG:aq Tryz.prog pQ [] th sD 13:=ai mixed (by kernel_rfl)
def iL:CC:=by refine(fun(_:G.ap (G.gn Tryz.prog Tryz.f114 [2,3] {})=?c)=>?c) ?h;case h=>conv=>lhs; (conv=>arg 1;reduce);dsimp only[G.ap]
def iE:List ak:=[.tmp 4]
theorem yq:aq Tryz.prog cT [2,3] iL iE 122:=ai mixed (by kernel_rfl)
def lV:CC:=by refine(fun(_:G.ap (G.gn Tryz.prog Tryz.f63 [] { cu:=[6] })=?c)=>?c) ?h;case h=>conv=>lhs; (conv=>arg 1;reduce);dsimp only[G.ap]
def lG:List ak:=[.tmp 2]
theorem Bw:aq Tryz.prog iY [] lV lG 47:=ai mixed (by kernel_rfl)
def xy:CC:=by refine(fun(_:G.ap (G.gn Tryz.prog Tryz.f213 [2] {})=?c)=>?c) ?h;case h=>conv=>lhs; (conv=>arg 1;reduce);dsimp only[G.ap]
def wD:List ak:=[.tmp 4]
theorem Nr:aq Tryz.prog uh [2] xy wD 17:=ai mixed (by kernel_rfl)
def xw:CC:=by refine(fun(_:G.ap (G.gn Tryz.prog Tryz.f214 [] {})=?c)=>?c) ?h;case h=>conv=>lhs; (conv=>arg 1;reduce);dsimp only[G.ap]
def wB:List ak:=[.tmp 2]
theorem Np:aq Tryz.prog mA [] xw wB 42:=ai mixed (by kernel_rfl)
def vd:CC:=by refine(fun(_:G.ap (G.gn Tryz.prog Tryz.f215 [3] {})=?c)=>?c) ?h;case h=>conv=>lhs; (conv=>arg 1;reduce);dsimp only[G.ap]
def uC:List ak:=[.tmp 6]
theorem KJ:aq Tryz.prog jX [3] vd uC 32:=ai mixed (by kernel_rfl)
def zT:CC:=by refine(fun(_:G.ap (G.gn Tryz.prog Tryz.f216 [] {})=?c)=>?c) ?h;case h=>conv=>lhs; (conv=>arg 1;reduce);dsimp only[G.ap]
def yZ:List ak:=[.tmp 4]
theorem PA:aq Tryz.prog xk [] zT yZ 24:=ai mixed (by kernel_rfl)
def vh:CC:=by refine(fun(_:G.ap (G.gn Tryz.prog Tryz.f217 [2] {})=?c)=>?c) ?h;case h=>conv=>lhs; (conv=>arg 1;reduce);dsimp only[G.ap]
def uF:List ak:=[.tmp 4]
theorem KN:aq Tryz.prog rG [2] vh uF 27:=ai mixed (by kernel_rfl)
def vg:CC:=by refine(fun(_:G.ap (G.gn Tryz.prog Tryz.f218 [] {})=?c)=>?c) ?h;case h=>conv=>lhs; (conv=>arg 1;reduce);dsimp only[G.ap]
def uE:List ak:=[.tmp 4]
theorem KM:aq Tryz.prog rF [] vg uE 27:=ai mixed (by kernel_rfl)
def nR:CC:=by refine(fun(_:G.ap (G.gn Tryz.prog Tryz.f160 [] {})=?c)=>?c) ?h;case h=>conv=>lhs; (conv=>arg 1;reduce);dsimp only[G.ap]
def mS:List ak:=[.tmp 2, .tmp 3]
theorem De:aq Tryz.prog jY [] nR mS 42:=ai mixed (by kernel_rfl)
def ve:CC:=by refine(fun(_:G.ap (G.gn Tryz.prog Tryz.f161 [1] {})=?c)=>?c) ?h;case h=>conv=>lhs; (conv=>arg 1;reduce);dsimp only[G.ap]
def uD:List ak:=[.tmp 2, .tmp 3]
theorem KL:aq Tryz.prog rE [1] ve uD 48:=ai mixed (by kernel_rfl)
def xu:CC:=by refine(fun(_:G.ap (G.gn Tryz.prog Tryz.f162 [1] {})=?c)=>?c) ?h;case h=>conv=>lhs; (conv=>arg 1;reduce);dsimp only[G.ap]
def wA:List ak:=[.tmp 2, .tmp 3]
theorem Nn:aq Tryz.prog uf [1] xu wA 96:=ai mixed (by kernel_rfl)
def tg:CC:=by refine(fun(_:G.ap (G.gn Tryz.prog Tryz.f163 [1] {})=?c)=>?c) ?h;case h=>conv=>lhs; (conv=>arg 1;reduce);dsimp only[G.ap]
def sC:List ak:=[.tmp 2, .tmp 3]
theorem IF:aq Tryz.prog pP [1] tg sC 143:=ai mixed (by kernel_rfl)
def xD:CC:=by refine(fun(_:G.ap (G.gn Tryz.prog Tryz.f164 [3] { cu:=[14,17,20,26] })=?c)=>?c) ?h;case h=>conv=>lhs; (conv=>arg 1;reduce);dsimp only[G.ap]
def wF:List ak:=[.tmp 4, .tmp 5]
theorem Nt:aq Tryz.prog uj [3] xD wF 128:=ai mixed (by kernel_rfl)
def xx:CC:=by refine(fun(_:G.ap (G.gn Tryz.prog Tryz.f165 [1] { cu:=[2,5,11,14] })=?c)=>?c) ?h;case h=>conv=>lhs; (conv=>arg 1;reduce);dsimp only[G.ap]
def wC:List ak:=[.tmp 2, .tmp 3]
theorem Nq:aq Tryz.prog ug [1] xx wC 86:=ai mixed (by kernel_rfl)
def qV:CC:=by refine(fun(_:G.ap (G.gn Tryz.prog Tryz.f115 [1] {})=?c)=>?c) ?h;case h=>conv=>lhs; (conv=>arg 1;reduce);dsimp only[G.ap]
def qG:List ak:=[.tmp 2, .tmp 3, .tmp 4]
theorem Gq:aq Tryz.prog nt [1] qV qG 74:=ai mixed (by kernel_rfl)
def xz:CC:=by refine(fun(_:G.ap (G.gn Tryz.prog Tryz.f66 [1] {})=?c)=>?c) ?h;case h=>conv=>lhs; (conv=>arg 1;reduce);dsimp only[G.ap]
def wE:List ak:=[.tmp 2]
theorem Ns:aq Tryz.prog ui [1] xz wE 14:=ai mixed (by kernel_rfl)
def iK:CC:=by refine(fun(_:G.ap (G.gn Tryz.prog Tryz.f67 [] {})=?c)=>?c) ?h;case h=>conv=>lhs; (conv=>arg 1;reduce);dsimp only[G.ap]
def iD:List ak:=[.tmp 4]
theorem yp:aq Tryz.prog fq [] iK iD 26:=ai mixed (by kernel_rfl)
def qW:CC:=by refine(fun(_:G.ap (G.gn Tryz.prog Tryz.f68 [2] {})=?c)=>?c) ?h;case h=>conv=>lhs; (conv=>arg 1;reduce);dsimp only[G.ap]
def qH:List ak:=[.tmp 4]
theorem Gr:aq Tryz.prog nw [2] qW qH 21:=ai mixed (by kernel_rfl)
def qU:CC:=by refine(fun(_:G.ap (G.gn Tryz.prog Tryz.f69 [1] {})=?c)=>?c) ?h;case h=>conv=>lhs; (conv=>arg 1;reduce);dsimp only[G.ap]
def qF:List ak:=[.tmp 2, .tmp 3]
theorem Gp:aq Tryz.prog nr [1] qU qF 32:=ai mixed (by kernel_rfl)
def vi:CC:=by refine(fun(_:G.ap (G.gn Tryz.prog Tryz.f35 [2,3,2101010,1100097,2108010,1107104,2145010,1144141,2182010,1181178] { cu:=[7,13,19,26,33,48] })=?c)=>?c) ?h;case h=>conv=>lhs; (conv=>arg 1;reduce);dsimp only[G.ap]
def uG:List ak:=[.cell 4 true 7, .tmp 5]
theorem KO:aq Tryz.prog rH [2,3,2101010,1100097,2108010,1107104,2145010,1144141,2182010,1181178] vi uG 273:=ai mixed (by kernel_rfl)
def vX:CC:=by refine(fun(_:G.ap (G.gn Tryz.prog Tryz.f50 [] {})=?c)=>?c) ?h;case h=>conv=>lhs; (conv=>arg 1;reduce);dsimp only[G.ap]
def vJ:List ak:=[.tmp 2]
theorem Lx:aq Tryz.prog nA [] vX vJ 8:=ai mixed (by kernel_rfl)
def Fi:CC:=by refine(fun(_:G.ap (G.gn Tryz.prog Tryz.f60 [] {})=?c)=>?c) ?h;case h=>conv=>lhs; (conv=>arg 1;reduce);dsimp only[G.ap]
def EC:List ak:=[.tmp 2]
theorem Ww:aq Tryz.prog DI [] Fi EC 7:=ai mixed (by kernel_rfl)
def JP:CC:=by refine(fun(_:G.ap (G.gn Tryz.prog Tryz.f61 [] {})=?c)=>?c) ?h;case h=>conv=>lhs; (conv=>arg 1;reduce);dsimp only[G.ap]
def Im:List ak:=[.tmp 2]
theorem Zg:aq Tryz.prog G6 [] JP Im 7:=ai mixed (by kernel_rfl)
def vp:CC:=by refine(fun(_:G.ap (G.gn Tryz.prog Tryz.f62 [] {})=?c)=>?c) ?h;case h=>conv=>lhs; (conv=>arg 1;reduce);dsimp only[G.ap]
def uM:List ak:=[.tmp 2]
theorem KV:aq Tryz.prog rM [] vp uM 7:=ai mixed (by kernel_rfl)
def re:CC:=by refine(fun(_:G.ap (G.gn Tryz.prog Tryz.f59 [] {})=?c)=>?c) ?h;case h=>conv=>lhs; (conv=>arg 1;reduce);dsimp only[G.ap]
def qO:List ak:=[.tmp 0]
theorem Gz:aq Tryz.prog nD [] re qO 5:=ai mixed (by kernel_rfl)
def ts:CC:=by refine(fun(_:G.ap (G.gn Tryz.prog Tryz.f34 [] {})=?c)=>?c) ?h;case h=>conv=>lhs; (conv=>arg 1;reduce);dsimp only[G.ap]
def zd:List ak:=[.tmp 4]
theorem IQ:aq Tryz.prog bc [] ts zd 35:=ai mixed (by kernel_rfl)
def JQ:CC:=by refine(fun(_:G.ap (G.gn Tryz.prog Tryz.f12 [999] {})=?c)=>?c) ?h;case h=>conv=>lhs; (conv=>arg 1;reduce);dsimp only[G.ap]
def In:List ak:=[.tmp 2]
theorem Zh:aq Tryz.prog G7 [999] JQ In 11:=ai mixed (by kernel_rfl)
def ma:CC:=by refine(fun(_:G.ap (G.gn Tryz.prog Tryz.f33 [100026,2067008] { cu:=[3,5,12,19,22,28] })=?c)=>?c) ?h;case h=>conv=>lhs; (conv=>arg 1;reduce);dsimp only[G.ap]
def lL:List ak:=[.cell 6 true 7]
theorem BD:aq Tryz.prog jc [100026,2067008] ma lL 177:=ai mixed (by kernel_rfl)
def ra:CC:=by refine(fun(_:G.ap (G.gn Tryz.prog Tryz.f64 [1061061,1096061,2063001,2098001] { bx:=[1],cu:=[12] })=?c)=>?c) ?h;case h=>conv=>lhs; (conv=>arg 1;reduce);dsimp only[G.ap]
def qL:List ak:=[]
theorem Gw:aq Tryz.prog nB [1061061,1096061,2063001,2098001] ra qL 100:=ai mixed (by kernel_rfl)
def rc:CC:=by refine(fun(_:G.ap (G.gn Tryz.prog Tryz.f65 [1038027,1034027,1031027,2076042,2075040] { bx:=[1],cu:=[10,14] })=?c)=>?c) ?h;case h=>conv=>lhs; (conv=>arg 1;reduce);dsimp only[G.ap]
def qN:List ak:=[]
theorem Gy:aq Tryz.prog nC [1038027,1034027,1031027,2076042,2075040] rc qN 102:=ai mixed (by kernel_rfl)
def pw:CC:=by refine(fun(_:G.ap (G.gn Tryz.prog Tryz.f13 [] {})=?c)=>?c) ?h;case h=>conv=>lhs; (conv=>arg 1;reduce);dsimp only[G.ap]
def oU:List ak:=[.cell 4 true 7]
theorem EP:aq Tryz.prog lr [] pw oU 36:=ai mixed (by kernel_rfl)
def vq:CC:=by refine(fun(_:G.ap (G.gn Tryz.prog Tryz.f46 [] {})=?c)=>?c) ?h;case h=>conv=>lhs; (conv=>arg 1;reduce);dsimp only[G.ap]
def uN:List ak:=[.tmp 2]
def mf:CC:=by refine(fun(_:G.ap (G.gn Tryz.prog Tryz.f47 [] {})=?c)=>?c) ?h;case h=>conv=>lhs; (conv=>arg 1;reduce);dsimp only[G.ap]
def lN:List ak:=[.tmp 4]
def pz:CC:=by refine(fun(_:G.ap (G.gn Tryz.prog Tryz.f106 [] {})=?c)=>?c) ?h;case h=>conv=>lhs; (conv=>arg 1;reduce);dsimp only[G.ap]
def oW:List ak:=[.tmp 2]
def py:CC:=by refine(fun(_:G.ap (G.gn Tryz.prog Tryz.f79 [2] {})=?c)=>?c) ?h;case h=>conv=>lhs; (conv=>arg 1;reduce);dsimp only[G.ap]
def oV:List ak:=[.tmp 4]
def uZ:CC:=by refine(fun(_:G.ap (G.gn Tryz.prog Tryz.f32 [2] {})=?c)=>?c) ?h;case h=>conv=>lhs; (conv=>arg 1;reduce);dsimp only[G.ap]
def uB:List ak:=[.cell 4 true 4, .tmp 5]
end Go.Gv
