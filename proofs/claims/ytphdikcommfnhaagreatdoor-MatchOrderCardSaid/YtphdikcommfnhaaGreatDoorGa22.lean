/- A part of the framework and of the walks: T22 Cd T33 C55. -/
import Derived.Test.YtphdikcommfnhaaGreatDoorProg
import Derived.Test.YtphdikcommfnhaaGreatDoorGa21
import Derived.Test.YtphdikcommfnhaaGreatDoorGa19
import Derived.Test.YtphdikcommfnhaaGreatDoorGa20
set_option linter.unusedSimpArgs false
set_option linter.unusedVariables false
set_option linter.unusedSectionVars false

namespace Go.Gv
open Cod (enc dec)
section
variable {X Y:Type} [Cod X] [Cod Y]
def qiB (pre:X->List Y->Prop) (post:X->List Y->List Y->Prop) (el n:Nat):PT:=fun d ds H K=> ∃id v l a x,ds= [a, .own id v]/\dec a=some x/\H id=some (.row v el n (l.map enc))/\pre x l/\
 ∀v' l',post x l l'->K (.own id v') (ah H id (some (.row v' el n (l'.map enc))))
theorem Wr (pre:X->List Y->Prop) (post:X->List Y->List Y->Prop) (el n:Nat):n7 (qiB pre post el n):=fun d ds H K K' hk ⟨id,v,l,a,x,h1,h2,h3,h4,h5⟩=> ⟨id,v,l,a,x,h1,h2,h3,h4,fun v' l' hp=> hk _ _ (h5 v' l' hp)⟩
def qae (pre:X->List Y->Prop) (post:X->List Y->List Y->Prop) (el n:Nat):Spc:= .gen _ (Wr pre post el n)
def qen (pre:X->List Y->Prop) (post:X->List Y->List Y->Prop) (el n id:Nat) (v:Value) (o:Option X) (r:Option Res) (H:aa) (K:D->aa->Prop):Prop:= ∃l,r=some (.row v el n (l.map enc))/\dP o fun x=> pre x l/\ ∀v' l',post x l l'->K (.own id v') (ah H id (some (.row v' el n (l'.map enc))))
@[congr] theorem qiA {pre:X->List Y->Prop} {post:X->List Y->List Y->Prop} {el n id:Nat} {v:Value} {o o':Option X} {r r':Option Res} {H:aa} {K:D->aa->Prop} (h1:o=o') (h2:r=r'):qen pre post el n id v o r H K=qen pre post el n id v o' r' H K:=by subst h1;subst h2;rfl
@[simp] theorem qiC (pre:X->List Y->Prop) (post:X->List Y->List Y->Prop) (el n:Nat) (d i:Nat) (a:D) (v:Value) (H:aa) (K:D->aa->Prop): (qae pre post el n).pt d [a, .own i v] H K=qen pre post el n i v (dec a) (H i) H K:=by
 refine propext ⟨fun h=> ?_,fun h=> ?_⟩
 ·obtain⟨id,v,l,a,x,h1,h2,h3,h4,h5⟩:=h
  cases h1
  refine⟨l,h3,?_⟩
  rw[h2]
  exact⟨h4,h5⟩
 ·obtain⟨l,h1,h2⟩:=h
  cases hd:dec (X:=X) a with
  | none=> rw[hd] at h2;exact h2.elim
  | some x=> rw[hd] at h2;exact⟨i,v,l,a,x,rfl,hd,h1,h2.1,h2.2⟩
@[simp] theorem ql9 (pre:X->List Y->Prop) (post:X->List Y->List Y->Prop) (el n id:Nat) (v:Value) (o:Option X) (l:List Y) (H:aa) (K:D->aa->Prop):qen pre post el n id v o (some (.row v el n (l.map enc))) H K=dP o fun x=> pre x l/\ ∀v' l',post x l l'->K (.own id v') (ah H id (some (.row v' el n (l'.map enc)))):=by
 refine propext ⟨fun⟨l',h1,h2⟩=> ?_,fun h=> ⟨l,rfl,h⟩⟩
 simp at h1
 subst h1
 exact h2
def N6 (cc:CC) (rs:List ar) (S:Nat->Spc) (pre:X->List Y->Prop) (post:X->List Y->List Y->Prop) (el n:Nat):Prop:=
 ∀v l x,pre x l->vc S cc (rF rs fun r H'=> Xk el n (post x l) r H') (fY [enc x, .own 1 v]) (ah ed 1 (some (.row v el n (l.map enc))))
variable {P:Program} {S:Nat->Spc} {f:Nat} {im:List Nat} {cc:CC} {rs:List ar} {N:Nat} {el n:Nat}
theorem DL {pre:X->List Y->Prop} {post:X->List Y->List Y->Prop} (hS: ∀f,Tri P f (S f).pt) (h:ay P f im cc rs N) (hN:2<=N) (hw:N6 cc rs S pre post el n):Tri P f (qae pre post el n).pt:=by
 obtain⟨KM,enter,fn,code,h1,h2,h3,h4,h5⟩:=h
 refine mE hS KM h1 h2 enter h3 h4 h5 ?_
 rintro ds H d K ⟨id,v,l,a,x,rfl,hd,hid,hp,hK⟩
 have hl:=Cod.le _ _ hd
 refine⟨hN, [enc x, .own 1 v],ah ed 1 (some (.row v el n (l.map enc))),fun _=> id, .cons hl (.cons (.own _ _ _) .nil),fun i r h=> ?_,fun i j r s h h' _=> ?_,_,hw v l x hp,?_⟩
 ·by_cases e:i=1
  ·subst e
   simp only[ah,if_true] at h
   cases h
   exact hid
  ·simp[ah,e] at h
 ·have a:i=1:=by
   by_cases e:i=1
   ·exact e
   ·simp[ah,e] at h
  have b:j=1:=by
   by_cases e:j=1
   ·exact e
   ·simp[ah,e] at h'
  exact a.trans b.symm
 ·rintro r H' ⟨j,v',l',rfl,hj,hpost⟩
  refine⟨.own id v',ed,ah H id (some (.row v' el n (l'.map enc))),fun i=> if i=id then some j else none, .own _ _ _,fun j q h=> by simp at h,hK v' l' hpost,fun i s hi=> ?_,fun i j' k s q hi hj' e1 e2=> ?_⟩
  ·by_cases e:i=id
   ·subst e
    simp only[ah,if_true] at hi
    cases hi
    simpa using hj
   ·simp only[ah,e,if_false] at hi ⊢
    exact⟨hi,fun k q h he=> e he.symm⟩
  ·have a:i=id:=by
    by_cases e:i=id
    ·exact e
    ·simp[e] at e1
   have b:j'=id:=by
    by_cases e:j'=id
    ·exact e
    ·simp[e] at e2
   exact a.trans b.symm
end
section
variable {X Y Z:Type}
structure F5 (X:Type) where
 ids:List Nat
 ce:X->List D
 hp:X->List (Nat×Res)
 keys: ∀x,(hp x).map (·.1)=ids
theorem L6: ∀ {l:List (Nat×Res)} {i:Nat} {s:Res},gk l ed i=some s->(i,s) ∈l
 | [],i,s,h=> by simp[gk,ed] at h
 | (j,r)::l,i,s,h=> by
  simp only[gk,ah] at h
  by_cases e:i=j
  ·subst e
   simp only[if_true] at h
   cases h
   simp
  ·simp only[e,if_false] at h
   exact List.mem_cons_of_mem _ (L6 h)
theorem L7: ∀ {l:List (Nat×Res)} {H:aa} {i:Nat} {s:Res},i∈l.map (·.1)->gk l H i=some s->(i,s) ∈l
 | (j,r)::l,H,i,s,hi,h=> by
  simp only[gk,ah] at h
  by_cases e:i=j
  ·subst e
   simp only[if_true] at h
   cases h
   simp
  ·simp only[e,if_false] at h
   simp[e] at hi
   refine List.mem_cons_of_mem _ (L7 (H:=H) ?_ h)
   simpa using hi
theorem L5: ∀ {l:List (Nat×Res)} {H:aa} {i:Nat},i∉l.map (·.1)->gk l H i=H i
 | [],H,i,_=> rfl
 | (j,r)::l,H,i,hi=> by
  simp only[List.map_cons,List.mem_cons,not_or] at hi
  simp only[gk,ah,hi.1,if_false]
  exact L5 hi.2
def qjA (B:F5 X) (A:du Z) (er:Y->D) (pre:X->Z->Prop) (post:X->Z->X->Y->Prop):PT:=fun d ds H K=> ∃id b x z ds',ds= .bptr id b 0::ds'/\A.dec ds'=some z/\H id=some (.box b (B.ce x))/\(∀p∈B.hp x,H p.1=some p.2)/\id∉B.ids/\pre x z/\
 ∀x' y,post x z x' y->K (er y) (ah (gk (B.hp x') H) id (some (.box b (B.ce x'))))
theorem WV (B:F5 X) (A:du Z) (er:Y->D) (pre:X->Z->Prop) (post:X->Z->X->Y->Prop):n7 (qjA B A er pre post):=fun d ds H K K' hk ⟨id,b,x,z,ds',h1,h2,h3,h4,h5,h6,h7⟩=> ⟨id,b,x,z,ds',h1,h2,h3,h4,h5,h6,fun x' y hp=> hk _ _ (h7 x' y hp)⟩
def qcq (B:F5 X) (A:du Z) (er:Y->D) (pre:X->Z->Prop) (post:X->Z->X->Y->Prop):Spc:= .gen _ (WV B A er pre post)
def H5 (B:F5 X) (er:Y->D) (b:Nat) (post:X->Y->Prop) (r:D) (H:aa):Prop:= ∃x y,FrzTo (fun i=> if i=0\/i∈B.ids then none else H i) r (er y)/\H 0=some (.box b (B.ce x))/\(∀p∈B.hp x,H p.1=some p.2)/\post x y
def ZA (cc:CC) (rs:List ar) (S:Nat->Spc) (B:F5 X) (A:du Z) (er:Y->D) (pre:X->Z->Prop) (post:X->Z->X->Y->Prop):Prop:=
 ∀b x z,pre x z->vc S cc (rF rs fun r H'=> H5 B er b (post x z) r H') (fY (.bptr 0 b 0::A.view z)) (ah (gk (B.hp x) ed) 0 (some (.box b (B.ce x))))
variable {P:Program} {S:Nat->Spc} {f:Nat} {im:List Nat} {cc:CC} {rs:List ar} {N:Nat}
theorem sf {B:F5 X} {A:du Z} {er:Y->D} {pre:X->Z->Prop} {post:X->Z->X->Y->Prop} (h1i:0∉B.ids) (hS: ∀f,Tri P f (S f).pt) (h:ay P f im cc rs N) (hN: ∀z,(A.view z).length+1<=N) (hw:ZA cc rs S B A er pre post):Tri P f (qcq B A er pre post).pt:=by
 obtain⟨KM,enter,fn,code,h1,h2,h3,h4,h5⟩:=h
 refine mE hS KM h1 h2 enter h3 h4 h5 ?_
 rintro ds H d K ⟨id,b,x,z,ds',rfl,hd,hid,hhp,hni,hp,hK⟩
 have hl:=A.le ds' z hd
 have h0: ∀i r,ah (gk (B.hp x) ed) 0 (some (.box b (B.ce x))) i=some r->i=0/\r= .box b (B.ce x)\/i≠0/\(i,r) ∈B.hp x:=by
  intro i r h
  by_cases e:i=0
  ·subst e
   simp only[ah,if_true] at h
   cases h
   exact .inl ⟨rfl,rfl⟩
  ·simp only[ah,e,if_false] at h
   exact .inr ⟨e,L6 h⟩
 have hk: ∀ {x:X} {i:Nat} {r:Res},(i,r) ∈B.hp x->i∈B.ids:=by
  intro x i r h
  rw[<-B.keys x]
  exact List.mem_map.2 ⟨_,h,rfl⟩
 refine⟨by simp only[List.length_cons];rw[hl.1];exact hN z, .bptr 0 b 0::A.view z,ah (gk (B.hp x) ed) 0 (some (.box b (B.ce x))),fun i=> if i=0 then id else i, .cons (.bptr _ _ _ _) hl,fun i r h=> ?_,fun i j r s h h' e=> ?_,_,hw b x z hp,?_⟩
 ·rcases h0 i r h with⟨rfl,rfl⟩ | ⟨e,hm⟩
  ·exact hid
  ·simp only[e,if_false]
   exact hhp _ hm
 ·rcases h0 i r h with⟨rfl,rfl⟩ | ⟨e1,hm⟩
  ·rcases h0 j s h' with⟨rfl,rfl⟩ | ⟨e2,hm2⟩
   ·rfl
   ·simp only[e2,if_true,if_false] at e
    subst e
    exact absurd (hk hm2) hni
  ·rcases h0 j s h' with⟨rfl,rfl⟩ | ⟨e2,hm2⟩
   ·simp only[e1,if_true,if_false] at e
    subst e
    exact absurd (hk hm) hni
   ·simpa only[e1,e2,if_false] using e
 ·rintro r H' ⟨x',y,hfr,hj,hhp',hpost⟩
  refine⟨er y,fun i=> if i=0\/i∈B.ids then none else H' i,ah (gk (B.hp x') H) id (some (.box b (B.ce x'))),fun i=> if i=id then some 0 else if i∈B.ids then some i else none,hfr,fun j q h=> ?_,hK x' y hpost,fun i s hi=> ?_,fun i j' k s q hi hj' e1 e2=> ?_⟩
  ·by_cases e:j=0\/j∈B.ids
   ·simp[e] at h
   ·simp only[e,if_false] at h
    refine⟨h,fun i hh=> e ?_⟩
    by_cases e1:i=id
    ·simp only[e1,if_true] at hh
     cases hh
     exact .inl rfl
    ·simp only[e1,if_false] at hh
     by_cases e2:i∈B.ids
     ·simp only[e2,if_true] at hh
      cases hh
      exact .inr e2
     ·simp[e2] at hh
  ·by_cases e:i=id
   ·subst e
    simp only[ah,if_true] at hi
    cases hi
    simpa using hj
   ·simp only[ah,e,if_false] at hi ⊢
    by_cases e2:i∈B.ids
    ·simp only[e2,if_true]
     exact hhp' _ (L7 (by rw[B.keys];exact e2) hi)
    ·simp only[e2,if_false]
     rw[L5 (by rw[B.keys];exact e2)] at hi
     refine⟨hi,fun k q h he=> ?_⟩
     rcases h0 k q h with⟨rfl,rfl⟩ | ⟨e3,hm⟩
     ·simp only[if_true] at he
      exact e he.symm
     ·simp only[e3,if_false] at he
      subst he
      exact e2 (hk hm)
  ·by_cases c1:i=id
   ·by_cases c2:j'=id
    ·exact c1.trans c2.symm
    ·simp only[c1,if_true] at e1
     cases e1
     simp only[c2,if_false] at e2
     by_cases c3:j'∈B.ids
     ·simp only[c3,if_true] at e2
      cases e2
      exact absurd c3 h1i
     ·simp[c3] at e2
   ·simp only[c1,if_false] at e1
    by_cases c3:i∈B.ids
    ·simp only[c3,if_true] at e1
     cases e1
     by_cases c2:j'=id
     ·simp only[c2,if_true] at e2
      cases e2
      exact absurd c3 h1i
     ·simp only[c2,if_false] at e2
      by_cases c4:j'∈B.ids
      ·simp only[c4,if_true] at e2
       cases e2
       rfl
      ·simp[c4] at e2
    ·simp[c3] at e1
def Db {X:Type} (ce:X->List D):F5 X:=⟨[],ce,fun _=> [],fun _=> rfl⟩
end
end Go.Gv

namespace Go.Gv
open Go.Proofs
abbrev oA (d s:Nat):CI:= .op (some d) none (.mv (.tmp s))
abbrev oB (d:Nat) (c:COp):CI:= .op (some d) none c
abbrev oC (d w s:Nat):CI:= .op (some d) none (.load false w (.tmp s))
abbrev oD (d w s:Nat):CI:= .op (some d) none (.load true w (.tmp s))
abbrev oE (d n s:Nat):CI:= .op (some d) none (.faddr n (.tmp s))
abbrev oF (w a b:Nat):CI:= .op none none (.store none w (.tmp a) (.tmp b))
abbrev oG (d s:Nat):CI:= .op (some d) none (.nilck (.tmp s))
abbrev oH (d g:Nat) (c:COp):CI:= .op (some d) (some (g,true)) c
abbrev oI (d g:Nat) (c:COp):CI:= .op (some d) (some (g,false)) c
abbrev oT (n:Nat):Operand:= .tmp n
abbrev oK (v:Value):Operand:= .const v
abbrev oN (n:Int):Operand:= .const (.int .i64 n)
abbrev oS (b:ByteArray):Operand:= .const (.string b)
abbrev oi:Value:= .int .i64 0
abbrev oe:Value:= .string ⟨#[]⟩
abbrev ob:Value:= .bool false
abbrev on:Value:= .slice none 0 0
abbrev oZ (d f:Nat) (l:List Operand):CI:= .op (some d) none (.call f l)
abbrev oX (l:List CI) (a b:List Nat) (x:CC):CC:= .seq (.reg l) (.keep a b x)
def pK:Nat:=4
def gV:Nat:=15
def iO:Nat:=17
def jW:Nat:=18
def cr:Nat:=19
def eE:Nat:=20
def ga:Nat:=40
def lT:Nat:=41
def ny:Nat:=44
def jV:Nat:=45
def lV:Nat:=46
def cg:Nat:=47
def dQ:Nat:=48
def jT:Nat:=57
def dS:Nat:=71
def aU:Nat:=72
def bW:Nat:=73
def dT:Nat:=74
def aS:Nat:=75
def Jy:Nat:=76
def jU:Nat:=77
def eK:Nat:=78
def gX:Nat:=79
def iP:Nat:=80
def aQ:Nat:=81
def bq:Nat:=82
def d5:Nat:=83
def pJ:Nat:=95
def eJ:Nat:=96
def au:Nat:=97
def BA:Nat:=98
def d6:Nat:=99
def jS:Nat:=100
def gD:Nat:=101
def aK:Nat:=102
def bV:Nat:=103
def Bz:Nat:=104
def av:Nat:=105
def ff:Nat:=106
def eF:Nat:=110
def bw:Nat:=111
def c8:Nat:=112
def cO:Nat:=113
def s4:Nat:=116
def aW:Nat:=117
def ew:Nat:=118
def aw:Nat:=119
def fP:Nat:=120
def bN:Nat:=121
def cw:Nat:=122
def bE:Nat:=123
def fF:Nat:=124
def cA:Nat:=125
def lS:Nat:=126
def C0:Nat:=127
def GT:Nat:=128
def Jz:Nat:=129
def fB:Nat:=130
def d8:Nat:=131
def dA:Nat:=132
def cZ:Nat:=133
def eS:Nat:=134
def gU:Nat:=136
def f9:Nat:=148
def fO:Nat:=149
def nw:Nat:=150
def eH:Nat:=151
def xN:Nat:=153
def cR:Nat:=154
def gE:Nat:=155
def aB:Nat:=156
def fe:Nat:=157
def a8:Nat:=166
def ct:Nat:=167
def aF:Nat:=168
def de:Nat:=169
def fD:Nat:=170
def fE:Nat:=171
def ia:Nat:=172
def ap:Nat:=173
def gB:Nat:=174
def ba:Nat:=175
def nQ:Nat:=178
def vX:Nat:=179
def gd:Nat:=180
def aG:Nat:=181
def bc:Nat:=182
def jh:Nat:=183
def iy:Nat:=184
def gc:Nat:=185
def zV:Nat:=194
def fC:Nat:=195
def eI:Nat:=207
def eo:Nat:=208
def d7:Nat:=210
def lR:Nat:=211
def db:Nat:=212
def cI:Nat:=219
def eD:Nat:=220
def bU:Nat:=221
def bi:Nat:=222
def df:Nat:=224
def cH:Nat:=227
def bC:Nat:=228
def fy:Nat:=246
def n9:Nat:=247
def fw:Nat:=248
def zU:Nat:=249
def fA:Nat:=252
def lU:Nat:=254
def cX:Nat:=255
def dg:Nat:=256
def cY:Nat:=257
def ax:Nat:=261
def jY:Nat:=262
def cJ:Nat:=263
def jX:Nat:=264
def eU:Nat:=265
def bP:Nat:=266
def bp:Nat:=267
def CZ:Nat:=273
def dq:Nat:=275
def ai:Nat:=276
def eB:Nat:=277
def cm:Nat:=278
def cG:Nat:=279
def fu:Nat:=285
def jR:Nat:=286
def gW:Nat:=287
def eT:Nat:=288
def bh:Nat:=289
def dc:Nat:=290
def cW:Nat:=291
def dn:Nat:=298
def aN:Nat:=299
def ft:Nat:=300
def eC:Nat:=303
def bY:Nat:=304
def cq:Nat:=305
def ei:Nat:=306
def ek:Nat:=313
def tT:Nat:=314
def fZ:Nat:=316
def nz:Nat:=317
def ep:Nat:=318
def f8:Nat:=319
def eL:Nat:=320
def xM:Nat:=325
def k8:Nat:=326
def dR:Nat:=327
def bD:Nat:=328
def bv:Nat:=329
def az:Nat:=331
def d9:Nat:=332
def cL:Nat:=335
def iN:Nat:=336
def Ft:Nat:=337
def ej:Nat:=339
def aO:Nat:=341
def dr:Nat:=342
def ci:Nat:=350
def bZ:Nat:=351
def eV:Nat:=352
def bM:Nat:=355
def bB:Nat:=356
def bb:Nat:=358
def eM:Nat:=359
def bu:Nat:=360
def mU:Nat:=361
def jQ:Nat:=362
def lg:Nat:=363
def kI:Nat:=364
def gC:Nat:=365
def jA:Nat:=366
def mC:Nat:=367
def fV:Nat:=3
def ng:Nat:=5
def aL:Nat:=9
def o5:Nat:=21
def RB:Nat:=22
def DK:Nat:=23
def kV:Nat:=28
def jc:Nat:=30
def cQ:Nat:=36
def aq:Nat:=39
def jK:Nat:=42
def o6:Nat:=45
def c9:Nat:=55
def Io:Nat:=71
def Hb:Nat:=87
def uc:Nat:=103
def Oh:Nat:=107
def Ha:Nat:=109
def DJ:Nat:=129
def In:Nat:=132
def bO:Nat:=139
def se:Nat:=155
def aj:Nat:=163
def yC:Nat:=166
def da:Nat:=196
def aC:Nat:=199
def yB:Nat:=218
def dY:Nat:=241
def CE:Nat:=286
def ee:Nat:=314
def CF:Nat:=331
def bx:Nat:=347
theorem mixed:Tryz.prog.follows .mixedOrders=true:=by kernel_rfl
end Go.Gv

namespace Go.Gv
open Cod (enc dec)
structure qmH where
 v:Value
 v':Value
 t:Tbk
def oJ (v v':Value) (t:Tbk):List D:= [.own 990 v, .v (.int .u64 t.fi.val), .v (.int .u64 t.la.val), .own 991 v', .v (.bool t.nul)]
def mA (v:Value) (l:List (List Rng)):Res:= .row v da 1 (l.map enc)
def mB (v:Value) (l:List U64):Res:= .row v dY 1 (l.map enc)
def tbB:F5 qmH:=⟨[990,991],fun x=> oJ x.v x.v' x.t,fun x=> [(990,mA x.v x.t.lvs),(991,mB x.v' x.t.fol)],fun _=> rfl⟩
section
variable {Y Z:Type}
def U7 (A:du Z) (er:Y->D) (F:Tbk->Z->Option (Tbk×Y)):Spc:=qcq tbB A er (fun s z=> ∃r,F s.t z=some r) (fun s z s' y=> F s.t z=some (s'.t,y))
def rG (H:aa) (id b:Nat) (v v':Value) (t:Tbk):aa:=ah (ah (ah H 991 (some (mB v' t.fol))) 990 (some (mA v t.lvs))) id (some (.box b (oJ v v' t)))
def Ki (er:Y->D) (F:Tbk->Z->Option (Tbk×Y)) (id b:Nat) (r r1 r2:Option Res) (o:Option Z) (H:aa) (K:D->aa->Prop):Prop:=
 ∃v v' t,r=some (.box b (oJ v v' t))/\r1=some (mA v t.lvs)/\r2=some (mB v' t.fol)/\id≠990/\id≠991/\dP o fun z=> dP (F t z) fun q=> ∀w w',K (er q.2) (rG H id b w w' q.1)
@[congr] theorem qda {er:Y->D} {F:Tbk->Z->Option (Tbk×Y)} {id b:Nat} {r r' r1 r1' r2 r2':Option Res} {o o':Option Z} {H:aa} {K:D->aa->Prop} (h1:r=r') (h2:r1=r1') (h3:r2=r2') (h4:o=o'):Ki er F id b r r1 r2 o H K=Ki er F id b r' r1' r2' o' H K:=by subst h1;subst h2;subst h3;subst h4;rfl
theorem xj {X:Type} [Cod X]: ∀ {l l':List X},l.map enc=l'.map enc->l=l'
 | [], [],_=> rfl
 | [],_::_,h=> by simp at h
 | _::_, [],h=> by simp at h
 | a::l,b::l',h=> by
   rw[List.map_cons,List.map_cons,List.cons.injEq] at h
   rw[bj h.1,xj h.2]
theorem R7 {v v':Value} {l l':List (List Rng)} (h:mA v l=mA v' l'):v=v'/\l=l':=by
 unfold mA at h
 injection h with h1 h2 h3 h4
 exact⟨h1,xj h4⟩
theorem R8 {v v':Value} {l l':List U64} (h:mB v l=mB v' l'):v=v'/\l=l':=by
 unfold mB at h
 injection h with h1 h2 h3 h4
 exact⟨h1,xj h4⟩
theorem RE {b b':Nat} {v v' w w':Value} {t t':Tbk} (h:Res.box b (oJ v v' t)=Res.box b' (oJ w w' t')) (h1:mA v t.lvs=mA w t'.lvs) (h2:mB v' t.fol=mB w' t'.fol):b=b'/\v=w/\v'=w'/\t=t':=by
 obtain⟨e1,e2⟩:=R7 h1
 obtain⟨e3,e4⟩:=R8 h2
 obtain⟨hb,hc⟩:=Res.box.inj h
 simp only[oJ,List.cons.injEq,D.own.injEq,D.v.injEq,Value.int.injEq,Value.bool.injEq,true_and,and_true] at hc
 obtain⟨_,⟨c1,c2,_,c3⟩⟩:=hc
 refine⟨hb,e1,e3,?_⟩
 obtain⟨a1,⟨a2⟩,⟨a3⟩,a4,a5⟩:=t
 obtain⟨b1,⟨b2⟩,⟨b3⟩,b4,b5⟩:=t'
 simp only at e2 e4 c1 c2 c3
 subst e2;subst e4;subst c1;subst c2;subst c3
 rfl
theorem RG (x:qmH) (H:aa) (id b:Nat):ah (gk (tbB.hp x) H) id (some (.box b (tbB.ce x)))=rG H id b x.v x.v' x.t:=by
 rfl
theorem ME (A:du Z) (er:Y->D) (F:Tbk->Z->Option (Tbk×Y)) (d i b:Nat) (ds:List D) (H:aa) (K:D->aa->Prop): (U7 A er F).pt d (.bptr i b 0::ds) H K=Ki er F i b (H i) (H 990) (H 991) (A.dec ds) H K:=by
 refine propext ⟨fun h=> ?_,fun h=> ?_⟩
 ·obtain⟨id,b',x,z,ds',h1,h2,h3,h4,h5,h6,h7⟩:=h
  cases h1
  simp only[tbB,List.mem_cons,List.not_mem_nil,or_false,not_or] at h5
  refine⟨x.v,x.v',x.t,h3,h4 (990,mA x.v x.t.lvs) (by simp[tbB]),h4 (991,mB x.v' x.t.fol) (by simp[tbB]),h5.1,h5.2,?_⟩
  rw[h2]
  obtain⟨⟨t',y⟩,hr⟩:=h6
  show dP (F x.t z) _
  rw[hr]
  intro w w'
  have:=h7 ⟨w,w',t'⟩ y hr
  rwa [RG] at this
 ·obtain⟨v,v',t,h1,h2,h3,h4,h5,h6⟩:=h
  cases hz:A.dec ds with
  | none=> rw[hz] at h6;exact h6.elim
  | some z=>
    rw[hz] at h6
    have h6:dP (F t z) fun q=> ∀w w',K (er q.2) (rG H i b w w' q.1):=h6
    cases hF:F t z with
    | none=> rw[hF] at h6;exact h6.elim
    | some q=>
      rw[hF] at h6
      have h6: ∀w w',K (er q.2) (rG H i b w w' q.1):=h6
      refine⟨i,b,⟨v,v',t⟩,z,ds,rfl,hz,h1,fun p hp=> ?_,by simp[tbB,h4,h5],⟨q,hF⟩,fun x' y hq=> ?_⟩
      ·simp only[tbB,List.mem_cons,List.not_mem_nil,or_false] at hp
       rcases hp with rfl | rfl
       ·exact h2
       ·exact h3
      ·have hq:F t z=some (x'.t,y):=hq
       rw[hF] at hq
       cases hq
       rw[RG]
       exact h6 x'.v x'.v'
theorem Wl (A:du Z) (er:Y->D) (F:Tbk->Z->Option (Tbk×Y)) (b:Nat) (ds:List D):Xj 0 (U7 A er F).pt (.bptr 0 b 0::ds):=by
 refine⟨fun R=> Ki er F 0 b (R 0) (R 990) (R 991) (A.dec ds) R fun _ _=> True,fun R d u=> ∃v v' t z q w w',R 0=some (.box b (oJ v v' t))/\R 990=some (mA v t.lvs)/\R 991=some (mB v' t.fol)/\A.dec ds=some z/\F t z=some q/\d=er q.2/\u= [(0, .box b (oJ w w' q.1)),(990,mA w q.1.lvs),(991,mB w' q.1.fol)],fun t H K=> ?_⟩
 rw[ME]
 have r0:nE H (some 0) 0=H 0:=by simp only[nE];exact if_pos rfl
 have r1:nE H (some 0) 990=H 990:=by simp only[nE];exact if_pos rfl
 have r2:nE H (some 0) 991=H 991:=by simp only[nE];exact if_pos rfl
 show _↔Ki er F 0 b (nE H (some 0) 0) (nE H (some 0) 990) (nE H (some 0) 991) (A.dec ds) (nE H (some 0)) (fun _ _=> True)/\ ∀d u,(∃v v' t z q w w',nE H (some 0) 0=some (.box b (oJ v v' t))/\nE H (some 0) 990=some (mA v t.lvs)/\nE H (some 0) 991=some (mB v' t.fol)/\A.dec ds=some z/\F t z=some q/\d=er q.2/\u= [(0, .box b (oJ w w' q.1)),(990,mA w q.1.lvs),(991,mB w' q.1.fol)])->K d (gj H (some 0) u)
 rw[r0,r1,r2]
 have hp: ∀ (w w':Value) (q:Tbk),gj H (some 0) [(0, .box b (oJ w w' q)),(990,mA w q.lvs),(991,mB w' q.fol)]=rG H 0 b w w' q:=fun w w' q=> by
  funext i
  simp only[gj,rG,ah]
  by_cases h0:i=0
  ·subst h0;rfl
  ·by_cases h1:i=990
   ·subst h1;rfl
   ·by_cases h2:i=991
    ·subst h2;rfl
    ·have e: ([(0, .box b (oJ w w' q)),(990,mA w q.lvs),(991,mB w' q.fol)]:List (Nat×Res)).lookup i=none:=by
      have e0: (i==0)=false:=by simp[h0]
      have e1: (i==990)=false:=by simp[h1]
      have e2: (i==991)=false:=by simp[h2]
      simp only[List.lookup,e0,e1,e2]
     rw[e,if_neg h0,if_neg h1,if_neg h2]
     split <;> rfl
 constructor
 ·rintro⟨v,v',t,h1,h2,h3,h4,h5,h6⟩
  cases hz:A.dec ds with
  | none=> rw[hz] at h6;exact h6.elim
  | some z=>
    rw[hz] at h6
    have h6:dP (F t z) fun q=> ∀w w',K (er q.2) (rG H 0 b w w' q.1):=h6
    cases hF:F t z with
    | none=> rw[hF] at h6;exact h6.elim
    | some q=>
      rw[hF] at h6
      have h6: ∀w w',K (er q.2) (rG H 0 b w w' q.1):=h6
      refine⟨⟨v,v',t,h1,h2,h3,h4,h5,?_⟩,?_⟩
      ·show dP (F t z) _
       rw[hF]
       exact fun _ _=> trivial
      ·rintro d u ⟨v1,v1',t1,z1,q1,w,w',g1,g2,g3,g4,g5,rfl,rfl⟩
       rw[h1] at g1;rw[h2] at g2;rw[h3] at g3
       obtain⟨_,_,_,rfl⟩:=RE (Option.some.inj g1) (Option.some.inj g2) (Option.some.inj g3)
       cases g4
       rw[hF] at g5
       cases g5
       rw[hp]
       exact h6 w w'
 ·rintro⟨⟨v,v',t,h1,h2,h3,h4,h5,h6⟩,h7⟩
  refine⟨v,v',t,h1,h2,h3,h4,h5,?_⟩
  cases hz:A.dec ds with
  | none=> rw[hz] at h6;exact h6.elim
  | some z=>
    rw[hz] at h6
    have h6:dP (F t z) fun q=> ∀w w':Value,True:=h6
    show dP (F t z) _
    cases hF:F t z with
    | none=> rw[hF] at h6;exact h6.elim
    | some q=>
      intro w w'
      have:=h7 (er q.2) _ ⟨v,v',t,z,q,w,w',h1,h2,h3,hz,hF,rfl,rfl⟩
      rwa [hp] at this
theorem So (A:du Z) (er:Y->D) (F:Tbk->Z->Option (Tbk×Y)) (b:Nat) (dst:Option Nat) (ds:List D) (H:aa) (K:D->aa->Prop):Eo 0 dst (U7 A er F) (.bptr 0 b 0::ds) H K=Ki er F 0 b (H 0) (H 990) (H 991) (A.dec ds) H K:=by
 rw[<-ME A er F (dst.getD 0)]
 exact propext ⟨fun h=> h.2,fun h=> ⟨Wl A er F b ds,h⟩⟩
theorem Yj (er:Y->D) (F:Tbk->Z->Option (Tbk×Y)) (id b:Nat) (v v':Value) (f l:Int) (n:Bool) (lv:List (List Rng)) (fo:List U64) (o:Option Z) (H:aa) (K:D->aa->Prop):
 Ki er F id b (some (.box b [.own 990 v, .v (.int .u64 f), .v (.int .u64 l), .own 991 v', .v (.bool n)])) (some (.row v da 1 (lv.map enc))) (some (.row v' dY 1 (fo.map enc))) o H K=(id≠990/\id≠991/\dP o fun z=> dP (F ⟨lv,⟨f⟩,⟨l⟩,fo,n⟩ z) fun q=> ∀w w',K (er q.2) (rG H id b w w' q.1)):=by
 refine propext ⟨fun⟨w,w',t,h1,h2,h3,h4,h5,h6⟩=> ⟨h4,h5,?_⟩,fun h=> ⟨v,v',⟨lv,⟨f⟩,⟨l⟩,fo,n⟩,rfl,rfl,rfl,h.1,h.2.1,h.2.2⟩⟩
 obtain⟨_,_,_,e⟩:=RE (t:=⟨lv,⟨f⟩,⟨l⟩,fo,n⟩) (t':=t) (b:=b) (b':=b) (Option.some.inj h1) (Option.some.inj h2) (Option.some.inj h3)
 subst e
 exact h6
def Mf (er:Y->D) (b:Nat) (post:Tbk->Y->Prop) (r:D) (H:aa):Prop:=H5 tbB er b (fun s y=> post s.t y) r H
theorem XC {er:Y->D} {b:Nat} {post:Tbk->Y->Prop} {r:D} {H:aa} (v v':Value) (t:Tbk) (y:Y) (hr:FrzTo (fun i=> if i=0\/i=990\/i=991 then none else H i) r (er y)) (h0:H 0=some (.box b (oJ v v' t))) (h1:H 990=some (mA v t.lvs)) (h2:H 991=some (mB v' t.fol)) (hq:post t y):Mf er b post r H:=
 ⟨⟨v,v',t⟩,y,by simpa [tbB] using hr,h0,fun p hp=> by
  simp only[tbB,List.mem_cons,List.not_mem_nil,or_false] at hp
  rcases hp with rfl | rfl
  ·exact h1
  ·exact h2,hq⟩
def BX (cc:CC) (rs:List ar) (S:Nat->Spc) (A:du Z) (er:Y->D) (F:Tbk->Z->Option (Tbk×Y)):Prop:=
 ∀b v v' t z r,F t z=some r->vc S cc (rF rs fun d H'=> Mf er b (fun t' y=> r=(t',y)) d H') (fY (.bptr 0 b 0::A.view z)) (rG ed 0 b v v' t)
variable {P:Program} {S:Nat->Spc} {f:Nat} {im:List Nat} {cc:CC} {rs:List ar} {N:Nat}
theorem o7 {A:du Z} {er:Y->D} {F:Tbk->Z->Option (Tbk×Y)} (hS: ∀f,Tri P f (S f).pt) (h:ay P f im cc rs N) (hN: ∀z,(A.view z).length+1<=N) (hw:BX cc rs S A er F):Tri P f (U7 A er F).pt:=
 sf (by simp[tbB]) hS h hN fun b x z hp=> by
  obtain⟨r,hr⟩:=hp
  rw[RG]
  have:=hw b x.v x.v' x.t z r hr
  have e: (fun(d:D) (H':aa)=> H5 tbB er b (fun s' y=> F x.t z=some (s'.t,y)) d H')=fun d H'=> Mf er b (fun t' y=> r=(t',y)) d H':=by
   funext d H'
   unfold Mf
   congr 1
   funext s' y
   rw[hr]
   exact propext ⟨fun h=> Option.some.inj h,fun h=> congrArg some h⟩
  rw[e]
  exact this
end
@[simp] theorem qft (m:U64) (i:Nat):decide (N3 .u64 (RO .u64 m.val i) 1=1)=Ra m i:=id rfl
end Go.Gv

namespace Go.Gv
open Go.Proofs
def ta:CC:=oX [oB 1 (.box aC true (oT 0)),oB 2 (.mv (.const (.pointer none)))] [1] [] (qQ 1 (.reg [oB 5 (.build [on,.int .u64 0,.int .u64 0,on,ob] []),oB 6 (.box CF false (oT 5)),oA 3 6]) (.keep [1,3] [6,990,991] (oX [oA 7 3,oD 8 5 1,oZ 9 az [oT 7,oT 8],oB 4 (.alloc bx [.int .u64 0,.int .u64 0,ob]),
 oF 3 4 9] [3,4] [4,6,990,991] (.seq (.regd [oA 10 3,oA 11 3,oA 12 3,oE 13 0 4,oC 14 1 13,oE 15 1 4,oC 16 1 15,oE 17 2 4,oC 18 1 17,oG 19 10,oE 20 1 19,.op none none (.store (some 6) 1 (oT 20) (oT 14)),oG 21 11,oE 22 2 21,.op none none (.store (some 6) 1 (oT 22) (oT 16))] [oG 23 12,oE 24 4 23,.op none none (.store (some 6) 1 (oT 24) (oT 18))])
 (.keep [3] [6,990,991] (qQ 4 (.reg [oA 25 3,oA 2 25]) (.keep [2] [6,990,991] (.ret))))))))
def sy:List ar:= [.tmp 2]
def Jo:List Nat:= [1,2024006,2022006,2020006]
theorem I3:ay Tryz.prog nz Jo ta sy 26:=ak mixed (by kernel_rfl)
def iX:CC:=oX [oA 7 0,oG 8 7,oE 9 3 8,oC 10 1 9,oB 11 (.len (oT 10)),oB 12 (.mv (oN 0))] [0,1,2,11,12] [0,990,991] (aP 0 12 11 13 1 (oX [oA 14 12,oA 6 14] [0,1,2,6,11,12] [0,990,991] (oX [oA 15 1,oA 16 6,oB 17 (.arith .shr (oT 15) (oT 16)),oB 18 (.arith .and (oT 17) (.const (.int .u64 1))),
 oB 19 (.eql false false [.int] (oT 18) (.const (.int .u64 1)))] [0,1,2,6,11,12,19] [0,990,991] (.ite (oT 19) (.reg [oA 20 0,oG 21 20,oE 22 3 21,oC 23 1 22,oA 24 6,oB 25 (.iaddr 1 (oT 23) (oT 24)),oC 26 1 25,oA 27 2,oB 28 (.arith .or (oT 26) (oT 27)),oB 29 (.iaddr 1 (oT 23) (oT 24)),oF 1 29 28]) (.skip)))) 30)
def iF:List ar:= []
def uR:List Nat:= []
theorem uz:ay Tryz.prog bM uR iX iF 31:=ak mixed (by kernel_rfl)
def gM:CC:=oX [oB 4 (.box bx true (oT 1)),oB 5 (.box bx true (oT 2)),oB 6 (.alloc bx [.int .u64 0,.int .u64 0,ob])] [0,4,5,6] [0,6,990,991] (oX [oA 8 0,oE 9 1 4,oC 10 1 9,oE 11 0 5,oC 12 1 11,oZ 13 bM [oT 8,oT 10,oT 12]] [4,5,6] [0,6,990,991] (oX [oE 14 0 4,oC 15 1 14,oE 16 1 5,oC 17 1 16,oE 18 2 4,
 oC 19 1 18,oA 20 19,oH 21 20 (.faddr 2 (oT 5)),oH 22 20 (.load false 1 (oT 21)),oB 23 (.pick (oT 20) (oT 22) (.const ob)),oB 24 (.build [.int .u64 0,.int .u64 0,ob] [(0,1,oT 15),(1,1,oT 17),(2,1,oT 23)]),oB 7 (.alloc bx [.int .u64 0,.int .u64 0,ob]),oF 3 7 24] [4,5,6,7] [0,6,7,990,991] (.seq (oX [oE 25 2 4,oC 26 1 25] [4,5,6,7,26] [0,6,7,990,991] (.ite (oT 26) (.reg [
 oE 27 0 7,oC 28 1 27,oE 29 0 5,oC 30 1 29,oB 31 (.arith .or (oT 28) (oT 30)),oE 32 0 7,oF 1 32 31]) (.skip))) (.keep [4,5,6,7] [0,6,7,990,991] (.seq (oX [oE 33 2 5,oC 34 1 33] [4,6,7,34] [0,6,7,990,991] (.ite (oT 34) (.reg [oE 35 1 7,oC 36 1 35,oE 37 1 4,oC 38 1 37,oB 39 (.arith .or (oT 36) (oT 38)),oE 40 1 7,oF 1 40 39]) (.skip))) (.keep [6,7] [0,6,7,990,991] (oX [oD 41 3 7,
 oF 3 6 41] [6] [0,6,990,991] (.ret))))))))
def gx:List ar:= [.cell 6 true 3]
def sX:List Nat:= [4,5]
theorem sH:ay Tryz.prog aO sX gM gx 42:=ak mixed (by kernel_rfl)
def cM:CC:=oX [oB 3 (.box aC true (oT 1)),oB 4 (.alloc bx [.int .u64 0,.int .u64 0,ob])] [0,3,4] [0,4,31,40,990,991] (.seq (oX [oE 13 0 3,oC 14 1 13] [0,3,4,14] [0,4,31,40,990,991] (.block 0 (oX [oB 16 (.eql false false [.int] (oT 14) (oN 1)),oA 15 16] [0,3,4,14,15] [0,4,31,40,990,991] (.ite (oT 15) (oX [oA 17 0,oG 18 17,oE 19 0 18,oC 20 1 19,
 oB 21 (.len (oT 20)),oB 22 (.arith .shl (.const (.int .u64 1)) (oT 21)),oA 5 22] [0,3,4,5] [0,4,31,40,990,991] (.seq (.regd [oA 23 0,oA 24 0,oG 25 24,oE 26 0 25,oC 27 1 26,oE 28 3 3,oC 29 1 28,oB 30 (.bslice da 1 [oT 29]),.frz 0 0,oB 31 (.append (some 990) da 1 24 (oT 27) (oT 30))] [oG 32 23,oE 33 0 32,.op none none (.store (some 0) 1 (oT 33) (oT 31))])
 (.keep [0,4,5] [0,4,31,40,990,991] (oX [oA 34 0,oA 35 0,oG 36 35,oE 37 3 36,oC 38 1 37,oB 39 (.bslice dY 1 [.const (.int .u64 0)]),oB 40 (.append none dY 1 8 (oT 38) (oT 39)),oG 41 34,oE 42 3 41,oF 1 42 40] [4,5] [0,4,31,40,990,991] (oX [oA 43 5,oA 44 5,oB 45 (.build [.int .u64 0,.int .u64 0,ob] [(0,1,oT 43),(1,1,oT 44)]),oF 3 4 45] [4] [0,4,31,40,990,991] (.ret))))))
 (oX [oB 47 (.eql false false [.int] (oT 14) (oN 2)),oA 46 47] [0,3,4,14,46] [0,4,31,40,990,991] (.ite (oT 46) (oX [oB 48 (.build [.int .u64 0,.int .u64 0,ob] [(2,1,.const (.bool true))]),oB 6 (.alloc bx [.int .u64 0,.int .u64 0,ob]),.op none none (.store (some 6) 3 (oT 6) (oT 48))] [0,3,4,6] [0,4,6,31,40,990,991] (.seq (oX [oE 49 4 3,oC 50 1 49,oB 51 (.len (oT 50)),
 oB 52 (.mv (oN 0))] [0,4,6,50,51,52] [0,4,6,31,40,990,991] (aP 1 52 51 53 2 (oX [oB 54 (.iaddr 5 (oT 50) (oT 52)),oD 55 5 54,oB 8 (.alloc aC [oi,oi,oi,on,on]),oF 5 8 55] [0,4,6,8,50,51,52] [0,4,6,8,31,40,990,991] (.regd [oA 56 0,oD 57 3 6,oA 58 0,oD 59 5 8,oB 60 (.callb 0 az [oT 58,oT 59])] [oZ 61 aO [oT 56,oT 57,oT 60],
 .op none none (.store (some 6) 3 (oT 6) (oT 61))])) 62)) (.keep [4,6] [0,4,6,31,40,990,991] (oX [oD 63 3 6,oF 3 4 63] [4] [0,4,31,40,990,991] (.ret))))) (oX [oB 65 (.eql false false [.int] (oT 14) (oN 3)),oA 64 65] [0,3,4,64] [0,4,31,40,990,991] (.ite (oT 64) (oX [oB 9 (.alloc bx [.int .u64 0,.int .u64 0,ob])] [0,3,4,9] [0,4,9,31,40,990,991] (.seq (oX [oE 66 4 3,oC 67 1 66,
 oB 68 (.len (oT 67)),oB 69 (.mv (oN 0))] [0,4,9,67,68,69] [0,4,9,31,40,990,991] (aP 3 69 68 70 4 (oX [oB 71 (.iaddr 5 (oT 67) (oT 69)),oD 72 5 71,oB 11 (.alloc aC [oi,oi,oi,on,on]),oF 5 11 72] [0,4,9,11,67,68,69] [0,4,9,11,31,40,990,991] (oX [oA 73 0,oD 74 5 11,oZ 75 az [oT 73,oT 74],oB 12 (.alloc bx [.int .u64 0,.int .u64 0,ob]),
 oF 3 12 75] [0,4,9,12,67,68,69] [0,4,9,12,31,40,990,991] (.reg [oE 76 0 9,oC 77 1 76,oE 78 0 12,oC 79 1 78,oB 80 (.arith .or (oT 77) (oT 79)),oE 81 1 9,oC 82 1 81,oE 83 1 12,oC 84 1 83,oB 85 (.arith .or (oT 82) (oT 84)),oE 86 2 9,oC 87 1 86,oA 88 87,oI 89 88 (.faddr 2 (oT 12)),oI 90 88 (.load false 1 (oT 89)),oB 91 (.pick (oT 88) (.const (.bool true)) (oT 90)),
 oB 92 (.build [.int .u64 0,.int .u64 0,ob] [(0,1,oT 80),(1,1,oT 85),(2,1,oT 91)]),oF 3 9 92]))) 93)) (.keep [4,9] [0,4,9,31,40,990,991] (oX [oD 94 3 9,oF 3 4 94] [4] [0,4,31,40,990,991] (.ret))))) (.skip))))))))) (.keep [0,3,4] [0,4,31,40,990,991] (oX [oA 95 0,oD 96 5 3,oZ 97 dr [oT 95,oT 96],oF 3 4 97] [4] [0,4,31,40,990,991] (.ret))))
def cK:List ar:= [.cell 4 true 3]
def tQ:List Nat:= [3,3060000,1031990,2033000,2006006]
theorem tI:ay Tryz.prog az tQ cM cK 98:=ak mixed (by kernel_rfl)
def gL:CC:=oX [oB 3 (.box aC true (oT 1)),oB 4 (.alloc bx [.int .u64 0,.int .u64 0,ob])] [0,3,4] [0,4,990,991] (oX [oB 9 (.build [.int .u64 0,.int .u64 0,ob] [(2,1,.const (.bool true))]),oB 5 (.alloc bx [.int .u64 0,.int .u64 0,ob]),.op none none (.store (some 5) 3 (oT 5) (oT 9))] [0,3,4,5] [0,4,5,990,991] (.seq (oX [oE 10 1 3,
 oC 11 1 10,oB 12 (.mv (oN 0))] [0,3,4,5,11,12] [0,4,5,990,991] (aP 0 12 11 13 1 (oX [oA 14 12,oA 6 14] [0,3,4,5,6,11,12] [0,4,5,990,991] (oX [oA 15 0,oG 16 15,oE 17 0 16,oC 18 1 17,oB 19 (.len (oT 18)),oA 7 19] [0,3,4,5,6,7,11,12] [0,4,5,990,991] (oX [oA 20 0,oE 21 4 3,oC 22 1 21,oB 23 (.iaddr 5 (oT 22) (oN 0)),oD 24 5 23,oZ 25 az [oT 20,oT 24],
 oB 8 (.alloc bx [.int .u64 0,.int .u64 0,ob]),oF 3 8 25] [0,3,4,5,6,7,8,11,12] [0,4,5,8,990,991] (.seq (oX [oA 26 0,oG 27 26,oE 28 0 27,oC 29 1 28,oB 30 (.len (oT 29)),oA 31 7,oB 32 (.eql false false [.int] (oT 30) (oT 31))] [0,3,4,5,6,8,11,12,32] [0,4,5,8,990,991] (.ite (oT 32) (oX [oB 33 (.build [.int .u64 0,.int .u64 0,ob] [(2,1,.const (.bool true))]),
 oF 3 4 33] [4] [0,4,990,991] (.ret)) (.skip))) (.keep [0,3,4,5,6,8,11,12] [0,4,5,8,990,991] (.seq (oX [oE 34 2 3,oC 35 1 34,oB 36 (.cmp .lss (oT 35) (oN 0)),oA 37 36,oH 38 37 (.mv (oT 6)),oH 39 37 (.faddr 1 (oT 3)),oH 40 37 (.load false 1 (oT 39)),oH 41 37 (.arith .sub (oT 40) (oN 1)),oH 42 37 (.eql false false [.int] (oT 38) (oT 41)),
 oB 43 (.pick (oT 37) (oT 42) (.const ob))] [0,3,4,5,8,11,12,43] [0,4,5,8,990,991] (.ite (oT 43) (.reg [oA 44 0,oE 45 1 8,oC 46 1 45,oE 47 0 8,oC 48 1 47,oZ 49 bM [oT 44,oT 46,oT 48]]) (.skip))) (.keep [0,3,4,5,8,11,12] [0,4,5,8,990,991] (.reg [oA 50 0,oD 51 3 5,oD 52 3 8,oZ 53 aO [oT 50,oT 51,oT 52],
 .op none none (.store (some 5) 3 (oT 5) (oT 53))])))))))) 54)) (.keep [0,3,4,5] [0,4,5,990,991] (.seq (.block 2 (oX [oE 56 2 3,oC 57 1 56,oB 58 (.cmp .lss (oT 57) (oN 0)),oA 59 58,oH 60 59 (.faddr 1 (oT 3)),oH 61 59 (.load false 1 (oT 60)),oH 62 59 (.eql false false [.int] (oT 61) (oN 0)),oB 63 (.pick (oT 59) (oT 62) (.const ob)),oA 55 63] [0,3,4,5,55] [0,4,5,990,991] (.ite (oT 55) (oX [
 oA 64 0,oE 65 4 3,oC 66 1 65,oB 67 (.iaddr 5 (oT 66) (oN 0)),oD 68 5 67,oZ 69 az [oT 64,oT 68],.op none none (.store (some 5) 3 (oT 5) (oT 69))] [0,4,5] [0,4,5,990,991] (oX [oA 70 0,oE 71 1 5,oC 72 1 71,oE 73 0 5,oC 74 1 73,oZ 75 bM [oT 70,oT 72,oT 74]] [4,5] [0,4,5,990,991] (.reg [oE 76 2 5,
 .op none none (.store none 1 (oT 76) (.const (.bool true)))]))) (oX [oE 78 2 3,oC 79 1 78,oE 80 1 3,oC 81 1 80,oB 82 (.cmp .gtr (oT 79) (oT 81)),oA 77 82] [0,3,4,5,77] [0,4,5,990,991] (.ite (oT 77) (.regd [oA 83 0,oD 84 3 5,oA 85 0,oE 86 4 3,oC 87 1 86,oB 88 (.iaddr 5 (oT 87) (oN 0)),oD 89 5 88,oE 90 2 3,oC 91 1 90,oE 92 1 3,oC 93 1 92,oB 94 (.arith .sub (oT 91) (oT 93)),
 oB 95 (.callb 0 bB [oT 85,oT 89,oT 94])] [oZ 96 aO [oT 83,oT 84,oT 95],.op none none (.store (some 5) 3 (oT 5) (oT 96))]) (.skip)))))) (.keep [4,5] [0,4,5,990,991] (oX [oD 97 3 5,oF 3 4 97] [4] [0,4,990,991] (.ret)))))))
def gw:List ar:= [.cell 4 true 3]
def sW:List Nat:= [3,3095000,2005005]
theorem sG:ay Tryz.prog dr sW gL gw 98:=ak mixed (by kernel_rfl)
def cP:CC:=oX [oB 4 (.box aC true (oT 1)),oB 6 (.alloc bx [.int .u64 0,.int .u64 0,ob])] [0,2,4,6] [0,6,990,991] (.seq (oX [oA 10 2,oB 11 (.eql false false [.int] (oT 10) (oN 0))] [0,2,4,6,11] [0,6,990,991] (.ite (oT 11) (oX [oB 12 (.build [.int .u64 0,.int .u64 0,ob] [(2,1,.const (.bool true))]),oF 3 6 12] [6] [0,6,990,991] (.ret)) (.skip)))
 (.keep [0,2,4,6] [0,6,990,991] (oX [oA 13 0,oG 14 13,oE 15 0 14,oC 16 1 15,oB 17 (.len (oT 16)),oA 7 17] [0,2,4,6,7] [0,6,990,991] (oX [oA 18 0,oD 19 5 4,oZ 20 az [oT 18,oT 19],oB 8 (.alloc bx [.int .u64 0,.int .u64 0,ob]),oF 3 8 20] [0,2,4,6,7,8] [0,6,8,990,991] (.seq (oX [oA 21 0,oG 22 21,oE 23 0 22,oC 24 1 23,oB 25 (.len (oT 24)),oA 26 7,
 oB 27 (.eql false false [.int] (oT 25) (oT 26))] [0,2,4,6,8,27] [0,6,8,990,991] (.ite (oT 27) (oX [oB 28 (.build [.int .u64 0,.int .u64 0,ob] [(2,1,.const (.bool true))]),oF 3 6 28] [6] [0,6,990,991] (.ret)) (.skip))) (.keep [0,2,4,6,8] [0,6,8,990,991] (.seq (.regd [oA 29 0,oD 30 3 8,oA 31 0,oD 32 5 4,oA 33 2,oB 34 (.arith .sub (oT 33) (oN 1)),
 oB 35 (.callb 0 bB [oT 31,oT 32,oT 34]),oB 36 (.callb 0 aO [oT 29,oT 30,oT 35]),oB 9 (.alloc bx [.int .u64 0,.int .u64 0,ob])] [.op none none (.store (some 9) 3 (oT 9) (oT 36))]) (.keep [6,9] [0,6,9,990,991] (oX [oE 37 2 9,.op none none (.store none 1 (oT 37) (.const (.bool true)))] [6,9] [0,6,9,990,991] (oX [oD 38 3 9,
 oF 3 6 38] [6] [0,6,990,991] (.ret)))))))))))
def cN:List ar:= [.cell 6 true 3]
def ra:List Nat:= [4,3035000,3036000,2009009]
theorem qZ:ay Tryz.prog bB ra cP cN 39:=ak mixed (by kernel_rfl)
def fI:CC:=oX [oB 6 (.mv (.const (.int .u64 0)))] [0,1,2] [0,990,991] (.seq (oX [oA 10 2] [0,1,10] [0,990,991] (.ite (oT 10) (oX [oA 11 0,oG 12 11,oE 13 1 12,oC 14 1 13,oA 6 14] [6] [0,990,991] (.ret)) (.skip))) (.keep [0,1] [0,990,991] (oX [oB 7 (.mv (.const (.int .u64 0)))] [0,1,7] [0,990,991] (.seq (oX [oA 15 0,oG 16 15,oE 17 3 16,oC 18 1 17,
 oB 19 (.len (oT 18)),oB 20 (.mv (oN 0))] [1,7,18,19,20] [0,990,991] (aP 0 20 19 21 1 (oX [oA 22 20,oB 23 (.iaddr 1 (oT 18) (oT 20)),oC 24 1 23,oA 8 22,oA 9 24] [1,7,8,9,18,19,20] [0,990,991] (oX [oA 25 1,oA 26 8,oB 27 (.arith .shr (oT 25) (oT 26)),oB 28 (.arith .and (oT 27) (.const (.int .u64 1))),
 oB 29 (.eql false false [.int] (oT 28) (.const (.int .u64 1)))] [1,7,9,18,19,20,29] [0,990,991] (.ite (oT 29) (.reg [oA 30 7,oA 31 9,oB 32 (.arith .or (oT 30) (oT 31)),oA 7 32]) (.skip)))) 33)) (.keep [7] [0,990,991] (oX [oA 34 7,oA 6 34] [6] [0,990,991] (.ret)))))))
def fq:List ar:= [.tmp 6]
def uS:List Nat:= []
theorem uA:ay Tryz.prog ep uS fI fq 35:=ak mixed (by kernel_rfl)
end Go.Gv
